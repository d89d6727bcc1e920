/- joined of several texts; own work; no statement of the seat is proved but in the last -/
import Derived.Test.YtebndjnkmcahaaaGreatDoorKi
section
namespace Go.Proofs.YtebndjnkmcahaaaGreatDoor
set_option linter.unusedSimpArgs false
set_option linter.unusedVariables false
open Go Go.Abs Go.RowKit
def dC (D:Nat→CR) (n:Nat):List (Nat×Cr):=(List.range n).filterMap fun i=>if (D i).e=0 then some (i,(D i).x) else none
theorem mH (D:Nat→CR) (n:Nat):dC D (n+1)=if (D n).e=0 then dC D n++[(n,(D n).x)] else dC D n:=by
 unfold dC
 rw [List.range_succ,List.filterMap_append]
 split
 ·rename_i h;simp [h]
 ·rename_i h;simp [h]
theorem pi (D:Nat→CR) (n:Nat):(dC D n).length≤n:=by
 have:=List.length_filterMap_le (fun i=>if (D i).e=0 then some (i,(D i).x) else none) (List.range n)
 unfold dC
 simpa using this
def ncP (p:Nat×Cr):List PV := .v (.int .i64 p.1)::crP p.2
def jy (l:List (Nat×Cr)):List PV:=l.flatMap ncP
def ncA (l:List (Nat×Cr)):List AV:=(jy l).map .p
theorem BV (l:List (Nat×Cr)) (p:Nat×Cr):ncA l++[.i p.1,sv p.2.rp,sv p.2.us,sv p.2.nm,.w p.2.sd,.i p.2.hg,.b p.2.rs,.i p.2.pt,.b p.2.sh,.b p.2.bk]=ncA (l++[p]):=by simp [ncA,jy,ncP,crP]
theorem BW (l:List (Nat×Cr)):(jy l).length=l.length*10:=by
 induction l with
 | nil=>rfl
 | cons p l ih=>simp only [jy,List.flatMap_cons,List.length_append,List.length_cons] at ih ⊢;rw [ih];simp [ncP,crP];omega
theorem ye (l:List (Nat×Cr)):(ncA l).length=l.length*10:=by unfold ncA;rw [List.length_map,BW]
theorem uN (h:ba) (S:List Nat) (σ:Nat→Nat) (l:List (Nat×Cr)):ai h S σ (ncA l) (ncA l):=aW h S σ _
set_option maxHeartbeats 4000000 in
theorem wP (d:ca) (D:Nat→CR) (hv:VLen d.v.prs) (hD:∀i:Nat,i<8→FPure Tryz.prog 130 [.p (.data 1 (vgetM (64+(i:Int)) d.v.prs).length ((vgetM (64+(i:Int)) d.v.prs).map bt))] (crAV (D i))):FPure Tryz.prog 129 [cP d,.i 64,.i 8,.p (.v (.func (.func 130) #[] #[]))] (.p (.data 10 (dC D 8).length (jy (dC D 8)))):=by
 refine en Tryz.func129 Tryz.ntmps129 Tryz.results129 [0,1,2,3,4,8,9,10,11,12,13,14,15,29] ?_;intro c hP h0 hE kK
 simp only [go_sem,hP]
 refine bE 183 ?_
 refine ay hE h0 [0,1,2,3,4,8,9,10,11,12,13,14,15,29] 8 (fun i=>⟨38,[(1,.i 64),(3,.p (.v (.func (.func 130) #[] #[]))),(4,.ptr 0 0),(9,.sl 1 0 (dC D i).length 10),(13,.i 8),(14,.i i)],[(1,some ⟨183,ncA (dC D i)⟩),(0,some ⟨43,dvC (iW d)⟩)],2⟩) [] (fun i=>i) ?_ ?_
 ·refine⟨rfl,?_,?_,rfl,rfl,trivial,fun i h=>h⟩
  ·simp only [go_sem]
   rfl
  ·simp only [go_sem]
   exact (show ai _ _ _ [] [] from by simp [ai])
 ·intro i hi
  rcases Nat.lt_or_ge i 8 with hin|hin
  ·have hw:IntKind.i64.wrap ((i:Int)+1)=((i+1:Nat):Int):=by rw [ab (by omega) (by omega)];omega
   have hk:IntKind.i64.wrap (64+(i:Int))=64+(i:Int):=ab (by omega) (by omega)
   have hs:=mH D i
   have hll:=pi D i
   simp only [go_sem,hP,hk,show ((i:Int)<8) from by omega]
   refine aa kK (by exact md d.v _ (64+(i:Int)) hv.1 (fun x hx=>by have:=hv.2 x hx;omega)) ?_
   have hg:=hv.get (64+(i:Int))
   have hDi:=hD i hin
   generalize hb:vgetM (64+(i:Int)) d.v.prs=b at *
   simp only [go_sem,hP]
   refine aa kK (by exact hDi) ?_
   clear hDi
   generalize D i=L at *
   generalize hN:dC D i=N at *
   generalize dC D (i+1)=N' at *
   by_cases he:L.e=0
   ·rw [if_pos he] at hs
    subst hs
    simp only [go_sem,hP,he,hw]
    refine⟨⟨ye N,by omega,by omega⟩,hin,aZ [0,4] rfl ?_ ?_ rfl rfl (Nat.le_refl _)⟩
    ·simp only [go_sem]
    ·rw [BV N (i,L.x)]
     simp only [go_sem]
     exact uN _ _ _ _
   ·rw [if_neg he] at hs
    subst hs
    simp only [go_sem,hP,he,hw]
    refine⟨hin,aZ [0,1] rfl ?_ ?_ rfl rfl (Nat.le_refl _)⟩
    ·simp only [go_sem]
    ·simp only [go_sem]
     exact uN _ _ _ _
  ·obtain rfl:i=8:=by omega
   have hll:=ye (dC D 8)
   simp only [go_sem,hP,show ¬((8:Int)<8) from by omega]
   rw [List.take_of_length_le (by omega)]
   first
    | exact⟨⟨by omega,bI _⟩,rfl,bY _⟩
    | exact⟨⟨by omega,bI _⟩,bY _⟩
theorem kw (d:ca) (D:Nat→CR) (hv:VLen d.v.prs) (hD:∀i:Nat,i<8→FPure Tryz.prog 130 [.p (.data 1 (vgetM (64+(i:Int)) d.v.prs).length ((vgetM (64+(i:Int)) d.v.prs).map bt))] (crAV (D i))):FPure Tryz.prog 71 [cP d] (.p (.data 10 (dC D 8).length (jy (dC D 8)))):=by
 refine en Tryz.func71 Tryz.ntmps71 Tryz.results71 [0,1,2] ?_;intro c hP h0 hE kK
 simp only [go_sem,hP]
 refine aa kK (by exact wP d D hv hD) ?_
 simp only [go_sem,hP]
def zF (l:List Cr):List PV:=l.flatMap crP
theorem BX (l:List Cr):(zF l).length=l.length*9:=by
 induction l with
 | nil=>rfl
 | cons p l ih=>simp only [zF,List.flatMap_cons,List.length_append,List.length_cons] at ih ⊢;rw [ih];simp [crP];omega
def csA (l:List Cr):List AV:=(zF l).map .p
theorem BY (l:List Cr) (p:Cr):csA l++[sv p.rp,sv p.us,sv p.nm,.w p.sd,.i p.hg,.b p.rs,.i p.pt,.b p.sh,.b p.bk]=csA (l++[p]):=by simp [csA,zF,crP]
theorem yf (l:List Cr):(csA l).length=l.length*9:=by unfold csA;rw [List.length_map,BX]
theorem BZ (h:ba) (S:List Nat) (σ:Nat→Nat) (l:List Cr):ai h S σ (csA l) (csA l):=aW h S σ _
theorem yg (l:List (Nat×Cr)) (i:Nat) (h:i<l.length):(jy l).drop (i*10)=ncP (l.getD i (0,cr0))++jy (l.drop (i+1)):=by
 induction l generalizing i with
 | nil=>simp at h
 | cons p l ih =>
  cases i with
  | zero=>simp [jy]
  | succ i =>
   have:=ih i (by simpa using h)
   have e:(jy (p::l)).drop ((i+1)*10)=(jy l).drop (i*10):=by
    rw [show jy (p::l)=ncP p++jy l from by simp [jy],show (i+1)*10=(ncP p).length+i*10 from by simp [ncP,crP];omega,List.drop_length_add_append]
   rw [e,this]
   simp
set_option maxHeartbeats 1000000 in
theorem zG (l:List (Nat×Cr)) (hb:l.length<1000):FPure Tryz.prog 70 [.p (.data 10 l.length (jy l))] (.p (.data 9 l.length (zF (l.map (·.2))))):=by
 refine en Tryz.func70 Tryz.ntmps70 Tryz.results70 [0,2,3,5,6,7,8,9] ?_;intro c hP h0 hE kK
 simp only [go_sem,hP]
 refine bE 61 ?_
 refine ay hE h0 [0,2,3,5,6,7,8,9] l.length (fun i=>⟨19,[(3,.sl 0 0 i 9),(6,.p (.data 10 l.length (jy l))),(7,.i l.length),(8,.i i)],[(0,some ⟨61,csA ((l.take i).map (·.2))⟩)],1⟩) [] (fun i=>i) ?_ ?_
 ·refine⟨rfl,?_,?_,rfl,rfl,trivial,fun i h=>h⟩
  ·simp only [go_sem]
  ·simp only [go_sem,List.take_zero]
   exact (show ai _ _ _ [] [] from by simp [ai])
 ·intro i hi
  rcases Nat.lt_or_ge i l.length with hin|hin
  ·have hw:IntKind.i64.wrap ((i:Int)+1)=((i+1:Nat):Int):=by rw [ab (by omega) (by omega)];omega
   have hat:=yg l i hin
   have hta:l.take (i+1)=l.take i++[l.getD i (0,cr0)]:=by rw [List.take_add_one];simp [List.getD_eq_getElem?_getD,hin]
   generalize l.getD i (0,cr0)=p at *
   simp only [go_sem,hP,hw,hat,ncP,crP,show ((i:Int)<(l.length:Int)) from by omega]
   refine⟨by omega,⟨by rw [yf];simp;omega,by omega,by omega⟩,hin,aZ [3] rfl ?_ ?_ rfl rfl (Nat.le_refl _)⟩
   ·simp only [go_sem]
   ·rw [BY,hta]
    simp only [go_sem,List.map_append]
    exact BZ _ _ _ _
  ·obtain rfl:i=l.length:=by omega
   have hll:=yf ((l.take l.length).map (·.2))
   have hmm:(List.map (fun x=>x.2) (l.take l.length)).length=l.length:=by simp
   rw [List.take_length] at hll
   simp only [go_sem,hP,show ¬((l.length:Int)<(l.length:Int)) from by omega]
   rw [List.take_length,List.take_of_length_le (by rw [hll];simp)]
   exact⟨⟨by rw [hll];simp,bI _⟩,bY _⟩
theorem pj (d:ca) (D:Nat→CR) (hv:VLen d.v.prs) (hD:∀i:Nat,i<8→FPure Tryz.prog 130 [.p (.data 1 (vgetM (64+(i:Int)) d.v.prs).length ((vgetM (64+(i:Int)) d.v.prs).map bt))] (crAV (D i))):FPure Tryz.prog 22 [cP d] (.p (.data 9 (dC D 8).length (zF ((dC D 8).map (·.2))))):=by
 refine en Tryz.func22 Tryz.ntmps22 Tryz.results22 [0,1,2] ?_;intro c hP h0 hE kK
 simp only [go_sem,hP]
 refine aa kK (by exact kw d D hv hD) ?_
 have:(dC D 8).length≤8:=pi D 8
 simp only [go_sem,hP]
 refine aa kK (by exact zG (dC D 8) (by omega)) ?_
 simp only [go_sem,hP]
end Go.Proofs.YtebndjnkmcahaaaGreatDoor
end
section
section
namespace Go.Proofs.YtebndjnkmcahaaaGreatDoor
set_option linter.unusedSimpArgs false
set_option linter.unusedVariables false
open Go Go.Abs Go.RowKit
theorem gM {f:c8} (h:iL f=0):¬gj f∧f.ce.length≤3∧i9 f=l4 f 0 (bV f.ps 2):=by
 have hd:i9 f=l4 f 0 (bV f.ps 2):=by unfold i9;rw [if_pos h]
 unfold iL at h
 split at h
 ·cases h
 ·rename_i h1
  split at h
  ·cases h
  ·exact⟨h1,by omega,hd⟩
theorem mI {ps:Int} (h1:512≤ps) (h2:ps≤8192):VFl (bV ps 2) ps.toNat 2∧(bV ps 2).bs=List.replicate (ps.toNat*2) 255∧(bV ps 2).ps=ps:=by
 have e:bV ps 2=⟨ps,List.replicate (ps*2).toNat 255⟩:=by unfold bV;rw [if_neg (by omega)]
 have e2:(ps*2).toNat=ps.toNat*2:=by omega
 rw [e,e2]
 exact⟨⟨by show ps=_;omega,by omega,by omega,by simp,by omega,by omega⟩,rfl,rfl⟩
theorem lL {f:c8} (h:¬gj f):eW ⟨0,f.af,f.ato,f.af⟩=true:=by
 unfold gj at h
 unfold eW
 have h4:gV .i64 1 f.ah≤16:=by
  have h1:0≤f.ah:=by omega
  have h2:f.ah≤4:=by omega
  obtain⟨k,hk⟩:=Int.eq_ofNat_of_zero_le h1
  rw [hk] at h2 ⊢
  have:k=0∨k=1∨k=2∨k=3∨k=4:=by omega
  rcases this with rfl|rfl|rfl|rfl|rfl<;>decide
 simp only [decide_eq_true_eq]
 omega
theorem lM {x:Ls} (h:eW x=true):(cf x).length=11:=by unfold cf;rw [if_pos h];simp [au]
def aV (f:c8) (n:Nat):ag:=[(1,cr (fU f.se fv ((n*1048576:Nat):Int)) 8),(2,beB n),(16,cf ⟨0,f.af,f.ato,f.af⟩)]
theorem mJ (f:c8) (n:Nat):bootL f [] n=aV f n:=by unfold bootL;rw [if_pos (by rfl)];rfl
theorem rj {f:c8} (h:¬gj f) (n:Nat):szM (aV f n)=32:=by
 have:=lM (lL h)
 simp only [aV,szM,au,beB,List.length_cons,List.length_nil,this]
theorem sQ {f:c8} (h:¬gj f) (n:Nat):cd (aV f n)=0:=by
 have hs:=rj h n
 unfold cd
 rw [if_neg (by simp [aV]),if_neg (by simp [aV,gE]),if_neg (by omega)]
theorem wQ (f:c8) (n:Nat):Srt (aV f n):=by
 unfold Srt aV
 simp
theorem uO {f:c8} (h:¬gj f) (n:Nat):bv [] (aV f n)=aV f n:=by
 have hl:=lM (lL h)
 rw [(fC _ [] (by simp [Srt])).1,lp _ [] (wQ f n) ?_ (fun x hx=>by cases hx)]
 ·rfl
 ·intro x hx
  simp only [aV,List.mem_cons,List.not_mem_nil,or_false] at hx
  rcases hx with rfl|rfl|rfl
  ·intro e;have:=congrArg List.length e;simp [au] at this
  ·simp [beB]
  ·intro e;have:=congrArg List.length e;rw [hl] at this;simp at this
theorem jz {f:c8} (h:¬gj f) (n:Nat):VLen (aV f n):=by
 have hl:=lM (lL h)
 refine⟨by simp [aV],fun x hx=>?_⟩
 simp only [aV,List.mem_cons,List.not_mem_nil,or_false] at hx
 rcases hx with rfl|rfl|rfl
 ·simp [au]
 ·simp [beB]
 ·simp only;omega
theorem rk (f:c8) (n:Nat):vgetM 1 (aV f n)=cr (fU f.se fv ((n*1048576:Nat):Int)) 8:=rfl
theorem zH (f:c8) (n:Nat):vgetM 2 (aV f n)=beB n:=by simp [aV,vgetM]
theorem fX {f:c8} (h:¬gj f) (n:Nat) :
 (ropenM (bV f.ps 2) (-1)).err=0∧(ropenM (bV f.ps 2) (-1)).left = -1∧(ropenM (bV f.ps 2) (-1)).v.prs=[] ∧
 (rputM (ropenM (bV f.ps 2) (-1)).v (aV f n) (-1)).err=0∧(rputM (ropenM (bV f.ps 2) (-1)).v (aV f n) (-1)).left = -1 ∧
 VOk (rputM (ropenM (bV f.ps 2) (-1)).v (aV f n) (-1)).v 2∧(rputM (ropenM (bV f.ps 2) (-1)).v (aV f n) (-1)).v.prs=aV f n:=by
 have hb:512≤f.ps∧f.ps≤8192:=by unfold gj at h;omega
 obtain⟨hv,hbs,hps⟩:=mI hb.1 hb.2
 have h11:=DF hv hbs
 obtain⟨he,hok,hpr⟩:=DE hv h11
 have hl:=xz hv h11
 refine⟨he,hl,hpr,?_⟩
 have h512:=hok.ps512
 have hsz:=rj h n
 have hw:bv (ropenM (bV f.ps 2) (-1)).v.prs (aV f n)=aV f n:=by rw [hpr,uO h]
 rcases DD hok (by decide) (aV f n) (-1) with ⟨h1,h2,h3,-,-⟩|⟨-,-,h0,-,-⟩|⟨-,-,-,hbad⟩
 ·exact⟨h1,DJ _ _ h1,h2,by rw [h3,hw]⟩
 ·omega
 ·exfalso
  rcases hbad with hbad|hbad
  ·exact hbad (sQ h n)
  ·rw [hw,hsz] at hbad
   simp only [aV,List.length_cons,List.length_nil] at hbad
   omega
theorem pk {f:c8} (h:iL f=0) (hc:(bV f.ps 2).bs.length<1000000000):wN (i9 f) (-1):=by
 obtain⟨hb,-,hd⟩:=gM h
 rw [hd]
 have hfl:flOf (l4 f 0 (bV f.ps 2)).v.j=bV f.ps 2:=rfl
 have hfac:(l4 f 0 (bV f.ps 2)).fac=f:=rfl
 refine⟨by unfold i64;decide,hc,fun _=>?_,fun n _ _=>?_⟩
 ·rw [hfl,(fX hb 1).2.2.1]
  exact⟨⟨by simp,fun x hx=>by cases hx⟩,by simp [vgetM]⟩
 ·rw [hfl,hfac,(fX hb 1).2.2.1,mJ,(fX hb 1).2.1,(fX hb n).2.2.2.2.2.2]
  exact⟨jz hb n,by rw [zH];simp [beB],by rw [rk,au];exact Nat.le_refl _⟩
def eP (f:c8) (now:Int):ca :=
 let x:ca:=⟨f,(rputM (ropenM (bV f.ps 2) (-1)).v (aV f 1) (-1)).v,true,now,now,0,0,nO,it0⟩
 { xZ x with tok:={ nO with sec:=jx x } }
theorem pl {f:c8} (h:iL f=0) {now:Int} (h1:0≤now) (h2:now≤1099511627776):ns (i9 f) now (-1)=⟨eP f now,-1,0⟩:=by
 obtain⟨hb,-,hd⟩:=gM h
 have hp:=fX hb 1
 rw [hd]
 have hfl:flOf (l4 f 0 (bV f.ps 2)).v.j=bV f.ps 2:=rfl
 have hfac:(l4 f 0 (bV f.ps 2)).fac=f:=rfl
 have hon:(l4 f 0 (bV f.ps 2)).on=false:=rfl
 have hnw:(l4 f 0 (bV f.ps 2)).now=0:=rfl
 unfold ns
 rw [hon,hfl,hfac,hnw]
 simp only [Bool.false_eq_true,if_false]
 rw [if_neg (by omega),if_neg (by rw [hp.1];decide),hp.2.2.1,if_neg (by decide)]
 have hn:(gk (vgetM 2 [])).toNat+1=1:=by decide
 rw [hn,mJ,hp.2.1,if_neg (by rw [hp.2.2.2.1];decide),hp.2.2.2.2.1]
 have ht:(if 0<now then now else 0)=now:=by split<;>omega
 rw [ht]
 rfl
theorem pm {f:c8} (h:iL f=0) (now:Int):(eP f now).v.prs=aV f 1∧VOk (eP f now).v 2:=by
 obtain⟨hb,-,hd⟩:=gM h
 have hp:=fX hb 1
 exact⟨hp.2.2.2.2.2.2,hp.2.2.2.2.2.1⟩
end Go.Proofs.YtebndjnkmcahaaaGreatDoor
end
section
namespace Go.Proofs.YtebndjnkmcahaaaGreatDoor
set_option linter.unusedSimpArgs false
set_option linter.unusedVariables false
open Go Go.Abs Go.RowKit
theorem mK {z:Int} (h0:0≤z) (h1:z≤255):((u8i z).toNat:Int)=z:=by
 unfold u8i
 rw [u8w,bW]
 omega
theorem B0 {x:Ls} (h:eW x=true):ic (cf x)=⟨x,0⟩:=by
 have hl:=lM h
 have hv:=h
 unfold eW at hv
 simp only [decide_eq_true_eq] at hv
 have he:cf x=cr x.tag 8++[u8i x.fr,u8i x.tto,u8i x.nx]:=by unfold cf;rw [if_pos h]
 have hx:zJ (cf x)=x:=by
  unfold zJ
  have e8:(cf x).getD 8 0=u8i x.fr:=by rw [he,dj,if_neg (by simp [au]),au];rfl
  have e9:(cf x).getD 9 0=u8i x.tto:=by rw [he,dj,if_neg (by simp [au]),au];rfl
  have e10:(cf x).getD 10 0=u8i x.nx:=by rw [he,dj,if_neg (by simp [au]),au];rfl
  have ew:av (cf x) 8=x.tag:=by
   rw [← yN x.tag]
   refine gR 8 fun i hi=>?_
   rw [he,dj,if_pos (by rw [au];omega)]
  rw [e8,e9,e10,ew,mK (by omega) (by omega),mK (by omega) (by omega),mK (by omega) (by omega)]
 unfold ic
 rw [hx,if_pos ⟨hl,h⟩]
theorem B1:ic []=⟨ls0,2⟩:=rfl
theorem sR {f:c8} (h:¬gj f):bl (aV f 1)=[(0,⟨0,f.af,f.ato,f.af⟩)]:=by
 have h0:b7 (aV f 1) 0=⟨⟨0,f.af,f.ato,f.af⟩,0⟩:=by
  unfold b7
  have:vgetM (16+((0:Nat):Int)) (aV f 1)=cf ⟨0,f.af,f.ato,f.af⟩:=by simp [aV,vgetM]
  rw [this,B0 (lL h)]
 have hn:∀i,1≤i→b7 (aV f 1) i=⟨ls0,2⟩:=fun i hi=>by
  unfold b7
  have:vgetM (16+(i:Int)) (aV f 1)=[]:=by
   unfold aV
   simp only [vgetM]
   rw [if_neg (by omega),if_neg (by omega),if_neg (by omega)]
  rw [this,B1]
 have key:∀n,1≤n→aX (aV f 1) n=[(0,⟨0,f.af,f.ato,f.af⟩)]:=by
  intro n
  induction n with
  | zero=>intro h;omega
  | succ n ih =>
   intro _
   rw [eb]
   by_cases hn0:n=0
   ·subst hn0
    rw [h0,if_pos rfl]
    rfl
   ·rw [hn n (by omega),if_neg (by decide)]
    exact ih (by omega)
 exact key 16 (by decide)
theorem uP (f:c8) (i:Nat):vgetM (64+(i:Int)) (aV f 1)=[]:=by
 unfold aV
 simp only [vgetM]
 rw [if_neg (by omega),if_neg (by omega),if_neg (by omega)]
theorem B2:dC (fun _=>⟨cr0,2⟩) 8=[]:=rfl
set_option maxRecDepth 100000 in
theorem HD (d:ca) (hv:VLen d.v.prs) (h:vgetM 3 d.v.prs=[]):FPure Tryz.prog 23 [cP d] (.agg [.b false,.w 0,.i 0,.i d.wr]):=by
 refine en Tryz.func23 Tryz.ntmps23 Tryz.results23 [0,1,2,7] ?_;intro c hP h0 hE kK
 simp only [go_sem,hP]
 refine aa kK (by exact md d.v _ 3 hv.1 (fun x hx=>by have:=hv.2 x hx;omega)) ?_
 simp only [go_sem,hP,h,show ((([]:List UInt8).length:Int)=0) from rfl]
 rfl
def uQ (k:Int):Int:=if k=0 then 2048 else if k=1 then 1024 else if k=2 then 512 else 640
def fN (n:Int):c8 :=
 ⟨m6 (cu .i64 n 3),m6 (((m6 (cu .i64 (bc .i64 n 2) 255)).toNat:Int)+1),uQ (cu .i64 (bc .i64 n 4) 3),cu .i64 (bc .i64 n 6) 1==1,77,2,cu .i64 (bc .i64 n 7) 1,IntKind.i64.wrap (2+cu .i64 (bc .i64 n 8) 1),
  ([[111,110,101],[116,119,111]]:List (List UInt8)).take (1+cu .i64 (bc .i64 n 9) 1).toNat⟩
theorem B3 {k:Int} (h0:0≤k) (h3:k≤3):aS (.v (.int .i64 0)) (List.drop k.toNat [AV.i 2048,.i 1024,.i 512,.i 640]) = .i (uQ k):=by
 have:k=0∨k=1∨k=2∨k=3:=by omega
 rcases this with rfl|rfl|rfl|rfl<;>rfl
set_option maxRecDepth 100000 in
theorem rl (n:Int):FPure Tryz.prog 7 [.i n] (.agg (qK (fN n))):=by
 refine en Tryz.func7 Tryz.ntmps7 Tryz.results7 [0,2,3] ?_;intro c hP h0 hE kK
 have b4:=fP (bc .i64 n 4) 3 (by decide) (by decide)
 have b9:=fP (bc .i64 n 9) 1 (by decide) (by decide)
 have hp4:=B3 b4.1 b4.2
 simp only [go_sem,hP,kf,hp4]
 have hc:(fN n).ce=([[111,110,101],[116,119,111]]:List (List UInt8)).take (1+cu .i64 (bc .i64 n 9) 1).toNat:=rfl
 rw [hc]
 generalize cu .i64 (bc .i64 n 9) 1=k at *
 have hk:k=0∨k=1:=by omega
 rcases hk with rfl|rfl
 ·exact⟨⟨by omega,by omega⟩,by omega,by decide,⟨by decide,bI [byP [111,110,101]]⟩,rfl,rfl,rfl,rfl,rfl,rfl,rfl,rfl,rfl,rfl⟩
 ·exact⟨⟨by omega,by omega⟩,by omega,by decide,⟨by decide,bI [byP [111,110,101],byP [116,119,111]]⟩,rfl,rfl,rfl,rfl,rfl,rfl,rfl,rfl,rfl,rfl⟩
theorem ED:iL (fN 0)=0:=by decide
set_option maxRecDepth 100000 in
set_option maxHeartbeats 4000000 in
theorem zI:FPure Tryz.prog 6 [] (.b true):=by
 refine en Tryz.func6 Tryz.ntmps6 Tryz.results6 [0,1,2,3,4,5] ?_;intro c hP h0 hE kK
 simp only [go_sem,hP]
 have he:=ED
 obtain⟨hb,hc3,hd⟩:=gM he
 have hsm:∀b,b∈(fN 0).ce→b.length<1000000000:=by decide
 have hln:(bV (fN 0).ps 2).bs.length<1000000000:=by decide
 have hbo:=pk he hln
 have hbf:=pl he (now:=5) (by decide) (by decide)
 obtain⟨hpr,-⟩:=pm he 5
 have hfl:=sR hb
 have hfc:=uP (fN 0)
 have hvl:=jz hb 1
 have h3:vgetM 3 (aV (fN 0) 1)=[]:=by simp [aV,vgetM]
 have hon:(i9 (fN 0)).on=false:=by rw [hd];rfl
 have hbon:(eP (fN 0) 5).on=true:=rfl
 have hbnow:(eP (fN 0) 5).now=5:=rfl
 refine aa kK (by exact rl 0) ?_
 generalize fN 0=f at *
 simp only [go_sem,hP]
 refine aa kK (by exact Hz f (by omega) hsm) ?_
 rw [he]
 generalize i9 f=D at *
 simp only [go_sem,hP]
 refine aa kK (by exact Ey D 5 (-1) hbo) ?_
 rw [hbf]
 generalize eP f 5=X at *
 rw [← hpr] at hfl hfc hvl h3
 simp only [go_sem,hP,hon,hbon,hbnow]
 refine aa kK (by exact zD X hvl) ?_
 rw [hfl]
 simp only [go_sem,hP]
 refine aa kK (by exact pj X (fun _=>⟨cr0,2⟩) hvl (fun i hi=>by rw [hfc i];exact yd)) ?_
 rw [B2]
 simp only [go_sem,hP]
 refine aa kK (by exact HD X hvl h3) ?_
 simp only [go_sem,hP]
end Go.Proofs.YtebndjnkmcahaaaGreatDoor
end
end

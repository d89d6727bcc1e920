/- joined of several texts; own work; no statement of the seat is proved but in the last -/
import Derived.Test.YtebndjnkmcahaaaGreatDoorNu
import Derived.Test.YtebndjnkmcahaaaGreatDoorKp
import Derived.Test.YtebndjnkmcahaaaGreatDoorKl
section
section
namespace Go.Proofs.YtebndjnkmcahaaaGreatDoor
set_option linter.unusedSimpArgs false
set_option linter.unusedVariables false
open Go Go.Abs Go.RowKit
theorem pU (d:ca) (i:Nat) (hi:i<1000) (hv:VLen d.v.prs):FPure Tryz.prog 66 [cP d,.i i] (.tup [.agg [.w (b7 d.v.prs i).x.tag,.i (b7 d.v.prs i).x.fr,.i (b7 d.v.prs i).x.tto,.i (b7 d.v.prs i).x.nx],.b (decide ((b7 d.v.prs i).e=0))]):=by
 refine en Tryz.func66 Tryz.ntmps66 Tryz.results66 [0,1,2,4,5,6,7] ?_;intro c hP h0 hE kK
 have hw:IntKind.i64.wrap (16+(i:Int))=16+(i:Int):=ab (by omega) (by omega)
 have hg:=hv.get (16+(i:Int))
 unfold b7 at hE kK
 simp only [go_sem,hP,hw]
 refine aa kK (by exact qk d.v _ (16+(i:Int)) hv.1 (fun x hx=>by have:=hv.2 x hx;omega)) ?_
 have hd:=EG (vgetM (16+(i:Int)) d.v.prs) _ rfl hg
 generalize vgetM (16+(i:Int)) d.v.prs=b at *
 generalize ic b=L at *
 simp only [go_sem,hP]
 refine aa kK (by exact hd) ?_
 simp only [go_sem,hP]
 rfl
theorem yB (d:ca) (D:Nat→CR) (i:Nat) (hi:i<1000) (hv:VLen d.v.prs) (hD:FPure Tryz.prog 127 [.p (.data 1 (vgetM (64+(i:Int)) d.v.prs).length ((vgetM (64+(i:Int)) d.v.prs).map bt))] (crAV (D i))):FPure Tryz.prog 63 [cP d,.i i] (.tup [.agg (crC (D i).x),.b (decide ((D i).e=0))]):=by
 refine en Tryz.func63 Tryz.ntmps63 Tryz.results63 [0,1,2,4,5,6,7] ?_;intro c hP h0 hE kK
 have hw:IntKind.i64.wrap (64+(i:Int))=64+(i:Int):=ab (by omega) (by omega)
 simp only [go_sem,hP,hw]
 refine aa kK (by exact qk d.v _ (64+(i:Int)) hv.1 (fun x hx=>by have:=hv.2 x hx;omega)) ?_
 generalize vgetM (64+(i:Int)) d.v.prs=b at *
 generalize D i=L at *
 simp only [go_sem,hP]
 refine aa kK (by exact hD) ?_
 simp only [go_sem,hP]
 rfl
theorem Fm (x:Cr) (h:CrOk x) (hr:x.rs=true):FPure Tryz.prog 65 [.agg (crC x)] (.p (.data 1 176 ((idR x).map bt))):=by
 refine en Tryz.func65 Tryz.ntmps65 Tryz.results65 [0,1,2,3] ?_;intro c hP h0 hE kK
 have hi:=CU 0 0 x h hr
 generalize idR x=I at *
 simp only [go_sem,hP]
 refine aa kK (by exact hi) ?_
 simp only [go_sem,hP]
theorem pV (d:ca) (l:ag) (B:Int) (hb:d.v.j.bs.length<1000000000) (hp:d.v.prs.length<1000000000) (hl:∀x,x∈l→x.2.length<1000) (hll:l.length<100) (hB:i64 B) :
 FPure Tryz.prog 68 [cP d,.p (PL l),.i B] (mF (jA d l B)):=by
 refine en Tryz.func68 Tryz.ntmps68 Tryz.results68 [0,1,2,3,6,7,8,9,10,13,25] ?_;intro c hP h0 hE kK
 obtain⟨R,hR⟩:∃R,jA d l B=R:=⟨_,rfl⟩;rw [hR] at hE kK;(try rw [hR])
 unfold jA at hR
 by_cases hon:d.on=false
 ·rw [if_pos hon] at hR
  subst hR
  simp only [go_sem,hP,hon]
 rw [if_neg hon] at hR
 have hon':d.on=true:=by simpa using hon
 simp only [go_sem,hP,hon']
 refine aa kK (by exact ql d.v _ l B rfl hb hp (by omega) (fun x hx=>by have:=hl x hx;omega) hB) ?_
 generalize rputM d.v l B=P at *
 by_cases he:P.err=0
 ·rw [if_neg (by omega)] at hR
  subst hR
  simp only [go_sem,hP,he]
  exact cD _
 ·rw [if_pos he] at hR
  subst hR
  simp only [go_sem,hP,he]
  refine aa kK (by exact j2 d P.v P.err) ?_
  simp only [go_sem,hP]
end Go.Proofs.YtebndjnkmcahaaaGreatDoor
end
section
namespace Go.Proofs.YtebndjnkmcahaaaGreatDoor
set_option linter.unusedSimpArgs false
set_option linter.unusedVariables false
open Go Go.Abs Go.RowKit
def dv:List (Nat×Ls)→UInt64→Nat
 | [],_=>0
 | p::l,t=>if 0<p.1∧p.2.tag=t then p.1 else dv l t
theorem pW (t:UInt64):∀a b:List (Nat×Ls),dv (a++b) t=if dv a t=0 then dv b t else dv a t
 | [],b=>by simp [dv]
 | p::a,b=>by
  simp only [List.cons_append,dv]
  split
  ·rename_i h;rw [if_neg (by omega)]
  ·exact pW t a b
theorem nz (s:ag):∀n i:Nat,i≤n→∃r,aX s n=aX s i++r
 | 0,i,h=>⟨[],by obtain rfl:i=0:=Nat.le_zero.1 h;rw [List.append_nil]⟩
 | n+1,i,h=>by
  rcases Nat.eq_or_lt_of_le h with rfl|h
  ·exact⟨[],(List.append_nil _).symm⟩
  ·obtain⟨r,hr⟩:=nz s n i (by omega)
   rw [eb,hr]
   split
   ·exact⟨_,List.append_assoc _ _ _⟩
   ·exact⟨r,rfl⟩
theorem Ai (s:ag) (t:UInt64) (i:Nat) (h1:1≤i) (h:dv (aX s i) t=0) :
 dv (aX s (i+1)) t=if (b7 s i).e=0∧(b7 s i).x.tag=t then i else 0:=by
 rw [eb]
 by_cases he:(b7 s i).e=0
 ·rw [if_pos he,pW,if_pos h]
  simp only [dv]
  by_cases ht:(b7 s i).x.tag=t
  ·rw [if_pos ⟨by omega,ht⟩,if_pos ⟨he,ht⟩]
  ·rw [if_neg (fun c=>ht c.2),if_neg (fun c=>ht c.2)]
 ·rw [if_neg he,if_neg (fun c=>he c.1),h]
theorem xe (s:ag) (t:UInt64) (i n:Nat) (hi:i≤n) (h:dv (aX s i) t≠0):dv (aX s n) t=dv (aX s i) t:=by
 obtain⟨r,hr⟩:=nz s n i hi
 rw [hr,pW,if_neg h]
theorem CW (s:ag) (t:UInt64):dv (aX s 1) t=0:=by
 rw [eb]
 split
 ·simp [aX,dv]
 ·simp [aX,dv]
set_option maxHeartbeats 1000000 in
theorem jG (d:ca) (b:List UInt8) (n:Nat) (hn:b.length=n) (hb:n<100000) (hv:VLen d.v.prs):FPure Tryz.prog 64 [cP d,.p (.data 1 n (b.map bt))] (.tup [.i (dv (bl d.v.prs) (cm 10 0 b)),.b (decide (dv (bl d.v.prs) (cm 10 0 b)≠0))]):=by
 refine en Tryz.func64 Tryz.ntmps64 Tryz.results64 [0,1,2,4,5,6,7,8,10,26] ?_;intro c hP h0 hE kK
 have ht:=tv b n hn hb
 generalize cm 10 0 b=t at *
 simp only [go_sem,hP]
 refine bo hE h0 [0,1,2,4,5,6,7,8,10,26] (α:={ i:Nat // (1≤i∧i≤16)∧dv (aX d.v.prs i) t=0 }) (fun i=>⟨28,[(1,.p (.data 1 n (b.map bt))),(2,.ptr 0 0),(6,.i i.1)],[(0,some ⟨43,dvC (iW d)⟩)],1⟩) (fun i=>16-i.1) ⟨1,⟨by decide,by decide⟩,CW _ _⟩ [] (fun i=>i) ?_ ?_
 ·refine⟨rfl,?_,?_,rfl,rfl,trivial,fun i h=>h⟩
  ·simp only [go_sem]
   done
  ·simp only [go_sem]
   done
 ·rintro⟨i,⟨h1,h16⟩,h0⟩
  rcases Nat.lt_or_ge i 16 with hin|hin
  ·have hw:IntKind.i64.wrap ((i:Int)+1)=((i+1:Nat):Int):=by rw [ab (by omega) (by omega)];omega
   have hl:=pU d i (by omega) hv
   have hst:=Ai d.v.prs t i h1 h0
   have hf:=xe d.v.prs t (i+1) 16 (by omega)
   generalize b7 d.v.prs i=L at *
   by_cases he:L.e=0
   ·by_cases hq:L.x.tag=t
    ·rw [if_pos ⟨he,hq⟩] at hst
     have hf:dv (bl d.v.prs) t=i:=by rw [show dv (bl d.v.prs) t=dv (aX d.v.prs (i+1)) t from hf (by rw [hst];omega),hst]
     simp only [go_sem,hP,hw,show ((i:Int)<16) from by omega]
     refine aa kK (by exact hl) ?_
     simp only [go_sem,hP,he,decide_true]
     refine aa kK (by exact ht) ?_
     simp only [go_sem,hP,hq,hf]
     exact⟨by kernel_rfl,by rw [decide_eq_true];omega⟩
    ·rw [if_neg (fun x=>hq x.2)] at hst
     have hq':¬((L.x.tag.toNat:Int)=(t.toNat:Int)):=fun h=>hq (UInt64.toNat_inj.1 (by omega))
     simp only [go_sem,hP,hw,show ((i:Int)<16) from by omega]
     refine aa kK (by exact hl) ?_
     simp only [go_sem,hP,he,decide_true]
     refine aa kK (by exact ht) ?_
     simp only [go_sem,hP,hq',hw]
     refine⟨by kernel_rfl,⟨i+1,⟨by omega,by omega⟩,hst⟩,by show 16-(i+1)<16-i;omega,aZ [0] rfl ?_ ?_ rfl rfl (Nat.le_of_ble_eq_true rfl)⟩
     ·simp only [go_sem]
     ·simp only [go_sem]
   ·rw [if_neg (fun x=>he x.1)] at hst
    simp only [go_sem,hP,hw,show ((i:Int)<16) from by omega]
    refine aa kK (by exact hl) ?_
    simp only [go_sem,hP,he,decide_false,hw]
    refine⟨by kernel_rfl,⟨i+1,⟨by omega,by omega⟩,hst⟩,by show 16-(i+1)<16-i;omega,aZ [0] rfl ?_ ?_ rfl rfl (Nat.le_of_ble_eq_true rfl)⟩
    ·simp only [go_sem]
    ·simp only [go_sem]
  ·obtain rfl:i=16:=by omega
   simp only [go_sem,hP,h0,show ¬((16:Int)<16) from by decide]
   rfl
theorem Aj (l:List (Nat×Ls)) (t:UInt64) (i:Nat) (h:i<l.length):dv (l.drop i) t=if 0<(l.getD i (0,ls0)).1∧(l.getD i (0,ls0)).2.tag=t then (l.getD i (0,ls0)).1 else dv (l.drop (i+1)) t:=by
 rw [List.drop_eq_getElem_cons h]
 simp [dv,List.getD_eq_getElem?_getD,h]
set_option maxHeartbeats 1000000 in
theorem k5 (d:ca) (b:List UInt8) (n:Nat) (hn:b.length=n) (hb:n<100000) (hv:VLen d.v.prs):FPure Tryz.prog 58 [cP d,.p (.data 1 n (b.map bt))] (.tup [.i (dv (bl d.v.prs) (cm 10 0 b)),.b (decide (dv (bl d.v.prs) (cm 10 0 b)≠0))]):=by
 refine en Tryz.func58 Tryz.ntmps58 Tryz.results58 [0,1,2,4,5,6,8,12,13,14,15,27] ?_;intro c hP h0 hE kK
 have ht:=xd b n hn hb
 have hls:=ph d hv
 have hll:(bl d.v.prs).length≤16:=gL d.v.prs 16
 generalize cm 10 0 b=t at *
 generalize bl d.v.prs=l at *
 simp only [go_sem,hP]
 refine aa kK (by exact ht) ?_
 simp only [go_sem,hP]
 refine aa kK (by exact hls) ?_
 simp only [go_sem,hP]
 refine bo hE h0 [0,1,2,4,5,6,8,12,13,14,15,27] (α:={ i:Nat // i≤l.length∧dv l t=dv (l.drop i) t }) (fun i=>⟨31,[(6,.w t),(12,.p (.data 5 l.length (ja l))),(13,.i l.length),(14,.i i.1)],[],1⟩) (fun i=>l.length-i.1) ⟨0,Nat.zero_le _,rfl⟩ [] (fun i=>i) ?_ ?_
 ·refine⟨rfl,?_,?_,rfl,rfl,trivial,fun i h=>h⟩
  ·simp only [go_sem]
  ·simp only [go_sem]
 ·rintro⟨i,hi,h0⟩
  rcases Nat.lt_or_ge i l.length with hin|hin
  ·have hw:IntKind.i64.wrap ((i:Int)+1)=((i+1:Nat):Int):=by rw [ab (by omega) (by omega)];omega
   have hat:=sP l i hin
   have hst:=Aj l t i hin
   rw [← h0] at hst
   generalize l.getD i (0,ls0)=p at *
   by_cases hp:0<p.1
   ·by_cases hq:p.2.tag=t
    ·rw [if_pos ⟨hp,hq⟩] at hst
     simp only [go_sem,hP,hat,nlP,hq,hw,show ((i:Int)<(l.length:Int)) from by omega,show ((p.1:Int)>0) from by omega]
     exact⟨by omega,by omega,by rw [hst,decide_eq_true];omega⟩
    ·have hq':¬((p.2.tag.toNat:Int)=(t.toNat:Int)):=fun h=>hq (UInt64.toNat_inj.1 (by omega))
     rw [if_neg (fun x=>hq x.2)] at hst
     simp only [go_sem,hP,hat,nlP,hq',hw,show ((i:Int)<(l.length:Int)) from by omega,show ((p.1:Int)>0) from by omega]
     refine⟨by omega,⟨i+1,by omega,hst⟩,by show l.length-(i+1)<l.length-i;omega,aZ [] rfl ?_ ?_ rfl rfl (Nat.le_of_ble_eq_true rfl)⟩
     ·simp only [go_sem]
     ·simp only [go_sem]
   ·rw [if_neg (fun x=>hp x.1)] at hst
    simp only [go_sem,hP,hat,nlP,hw,show ((i:Int)<(l.length:Int)) from by omega,show ¬((p.1:Int)>0) from by omega]
    refine⟨by omega,⟨i+1,by omega,hst⟩,by show l.length-(i+1)<l.length-i;omega,aZ [] rfl ?_ ?_ rfl rfl (Nat.le_of_ble_eq_true rfl)⟩
    ·simp only [go_sem]
    ·simp only [go_sem]
  ·obtain rfl:i=l.length:=by omega
   rw [List.drop_length] at h0
   simp only [go_sem,hP,h0,show ¬((l.length:Int)<(l.length:Int)) from by omega]
   exact⟨rfl,rfl⟩
end Go.Proofs.YtebndjnkmcahaaaGreatDoor
end
end
section
section
namespace Go.Proofs.YtebndjnkmcahaaaGreatDoor
set_option linter.unusedSimpArgs false
set_option linter.unusedVariables false
open Go Go.Abs Go.RowKit
def scan (P:Nat→Bool):Nat→Nat→Nat
 | _,0=>0
 | i,k+1=>if P i=true then i else scan P (i+1) k
def gq (dr:Int) (l:List (Nat×Ls)):List Bool:=l.foldl (fun u p=>u.set p.1 (decide ((p.1:Int)≠dr))) (List.replicate 16 false)
theorem pX (dr:Int) (l:List (Nat×Ls)) (p:Nat×Ls):gq dr (l++[p])=(gq dr l).set p.1 (decide ((p.1:Int)≠dr)):=by simp [gq]
theorem mW (dr:Int) (l:List (Nat×Ls)):(gq dr l).length=16:=by
 have:∀(l:List (Nat×Ls)) (u:List Bool),(l.foldl (fun u p=>u.set p.1 (decide ((p.1:Int)≠dr))) u).length=u.length:=by
  intro l
  induction l with
  | nil=>intro u;rfl
  | cons p l ih=>intro u;rw [List.foldl_cons,ih,List.length_set]
 rw [gq,this];rfl
theorem pY (s:ag) (n:Nat):∀p,p∈aX s n→p.1<n:=by
 intro p hp
 unfold aX at hp
 rw [List.mem_filterMap] at hp
 obtain⟨i,hi,h⟩:=hp
 split at h
 ·cases h;exact List.mem_range.1 hi
 ·cases h
def b8 (s:ag) (dr:Int) (i:Nat):Bool:=decide ((b7 s i).e=0∧(i:Int)≠dr)
theorem vn (s:ag) (dr:Int) (i:Nat) (hi:i<16):∀n,n≤16→(gq dr (aX s n)).getD i false=(decide (i<n)&&b8 s dr i)
 | 0,_=>by
  have h:∀i:Fin 16,(List.replicate 16 false).getD i.val false=false:=by decide
  rw [show gq dr (aX s 0)=List.replicate 16 false from rfl,h ⟨i,hi⟩];rfl
 | n+1,hn=>by
  have ih:=vn s dr i hi n (by omega)
  have hl:=mW dr (aX s n)
  rw [eb]
  by_cases he:(b7 s n).e=0
  ·rw [if_pos he,pX]
   by_cases hin:i=n
   ·subst hin
    have:((gq dr (aX s i)).set i (decide ((i:Int)≠dr))).getD i false=decide ((i:Int)≠dr):=by simp [List.getD_eq_getElem?_getD,hl,hi]
    rw [this];simp [b8,he]
   ·have:((gq dr (aX s n)).set n (decide ((n:Int)≠dr))).getD i false=(gq dr (aX s n)).getD i false:=by simp [List.getD_eq_getElem?_getD,List.getElem?_set_ne (fun h:n=i=>hin h.symm)]
    rw [this,ih]
    by_cases hlt:i<n
    ·simp [hlt,Nat.lt_succ_of_lt hlt]
    ·simp [hlt,show ¬i<n+1 from by omega]
  ·rw [if_neg he,ih]
   by_cases hin:i=n
   ·subst hin;simp [b8,he]
   ·by_cases hlt:i<n
    ·simp [hlt,Nat.lt_succ_of_lt hlt]
    ·simp [hlt,show ¬i<n+1 from by omega]
def eB (s:ag) (dr:Int):Nat:=scan (fun i => !b8 s dr i) 1 15
def bAs (u:List Bool):List AV:=(u.map fun b=>PV.v (.bool b)).map .p
theorem dD (h:ba) (S:List Nat) (σ:Nat→Nat) (l:List Bool):ai h S σ (bAs l) (bAs l):=aW h S σ _
@[simp] theorem fT (u:List Bool):(bAs u).length=u.length:=by simp [bAs]
theorem lV (u:List Bool) (k:Nat) (b:Bool):(bAs u).set k (.b b)=bAs (u.set k b):=by simp [bAs,List.map_set]
theorem CX (u:List Bool) (k:Nat) (h:k<u.length):(bAs u).drop k = .b (u.getD k false)::(bAs u).drop (k+1):=by
 rw [List.drop_eq_getElem_cons (by simpa using h)]
 simp [bAs,List.getD_eq_getElem?_getD,h]
set_option maxHeartbeats 1000000 in
theorem yC (d:ca) (dr:Int) (hv:VLen d.v.prs):FPure Tryz.prog 60 [cP d,.i dr] (.i (eB d.v.prs dr)):=by
 refine en Tryz.func60 Tryz.ntmps60 Tryz.results60 [0,1,2,4,5,7,8,11,12,13,14,26,32] ?_;intro c hP h0 hE kK
 have hls:=ph d hv
 have hll:(bl d.v.prs).length≤16:=gL d.v.prs 16
 have hlt:∀p,p∈bl d.v.prs→p.1<16:=pY d.v.prs 16
 have hat:∀i,i<16→(gq dr (bl d.v.prs)).getD i false=b8 d.v.prs dr i:=fun i hi=>by rw [vn d.v.prs dr i hi 16 (Nat.le_refl _)];simp [hi]
 generalize hl:bl d.v.prs=l at *
 simp only [go_sem,hP]
 refine aa kK (by exact hls) ?_
 simp only [go_sem,hP]
 refine ay hE h0 [0,1,2,4,5,7,8,11,12,13,14,26,32] l.length (fun i=>⟨34,[(1,.i dr),(5,.ptr 0 0),(11,.p (.data 5 l.length (ja l))),(12,.i l.length),(13,.i i)],[(0,some ⟨184,bAs (gq dr (l.take i))⟩)],1⟩) [] (sg 2 [1]) ?_ ?_
 ·refine⟨rfl,?_,?_,rfl,rfl,trivial,fun i h=>bH [1] 2 i h⟩
  ·simp only [go_sem]
  ·simp only [go_sem,List.take_zero]
   exact dD _ _ _ (gq dr [])
 intro i hi
 rcases Nat.lt_or_ge i l.length with hin|hin
 ·have hw:IntKind.i64.wrap ((i:Int)+1)=((i+1:Nat):Int):=by rw [ab (by omega) (by omega)];omega
  have hp:=sP l i hin
  have hta:l.take (i+1)=l.take i++[l.getD i (0,ls0)]:=by rw [List.take_add_one];simp [List.getD_eq_getElem?_getD,hin]
  have hmem:=hlt (l.getD i (0,ls0)) (by rw [show l.getD i (0,ls0)=l[i]'hin from by simp [List.getD_eq_getElem?_getD,hin]];exact List.getElem_mem _)
  rw [hta,pX]
  have hul:=mW dr (l.take i)
  generalize l.getD i (0,ls0)=p at *
  generalize gq dr (l.take i)=u at *
  have hne:((p.1:Int) != dr)=decide ((p.1:Int)≠dr):=by by_cases h:(p.1:Int)=dr<;>simp [h]
  simp only [go_sem,hP,hp,nlP,hw,show ((i:Int)<(l.length:Int)) from by omega,hul,hne]
  refine⟨by omega,⟨by omega,by omega⟩,by rw [fT];omega,hin,aZ [0] rfl ?_ ?_ rfl rfl (Nat.le_of_ble_eq_true rfl)⟩
  ·simp only [go_sem]
  ·simp only [go_sem]
   rw [lV]
   exact dD _ _ _ _
 obtain rfl:i=l.length:=by omega
 rw [List.take_length]
 have hul:=mW dr l
 generalize hu:gq dr l=u at *
 simp only [go_sem,hP,show ¬((l.length:Int)<(l.length:Int)) from by omega]
 refine bo hE h0 [0,1,2,4,5,7,8,11,12,13,14,26,32] (α:={ i:Nat // (1≤i∧i≤16)∧eB d.v.prs dr=scan (fun i => !b8 d.v.prs dr i) i (16-i) }) (fun i=>⟨34,[(5,.ptr 0 0),(8,.i i.1)],[(0,some ⟨184,bAs u⟩)],1⟩) (fun i=>16-i.1) ⟨1,⟨by decide,by decide⟩,rfl⟩ [] (fun i=>i) ?_ ?_
 ·refine⟨rfl,?_,?_,rfl,rfl,trivial,fun i h=>h⟩
  ·simp only [go_sem]
   done
  ·simp only [go_sem]
   exact dD _ _ _ _
 rintro⟨i,⟨h1,h16⟩,h0⟩
 rcases Nat.lt_or_ge i 16 with hin|hin
 ·have hw:IntKind.i64.wrap ((i:Int)+1)=((i+1:Nat):Int):=by rw [ab (by omega) (by omega)];omega
  have hai:=CX u i (by omega)
  rw [hat i hin] at hai
  have hsc:scan (fun i => !b8 d.v.prs dr i) i (16-i)=if (!b8 d.v.prs dr i)=true then i else scan (fun i => !b8 d.v.prs dr i) (i+1) (16-(i+1)):=by rw [show 16-i=(16-(i+1))+1 from by omega];rfl
  by_cases hk:b8 d.v.prs dr i=true
  ·rw [hsc,if_neg (by simp [hk])] at h0
   rw [hk] at hai
   simp only [go_sem,hP,hw,hai,show ((i:Int)<16) from by omega]
   refine⟨by omega,by rw [fT];omega,⟨i+1,⟨by omega,by omega⟩,h0⟩,by show 16-(i+1)<16-i;omega,aZ [0] rfl ?_ ?_ rfl rfl (Nat.le_of_ble_eq_true rfl)⟩
   ·simp only [go_sem]
   ·simp only [go_sem]
    exact dD _ _ _ _
  ·have hk:b8 d.v.prs dr i=false:=by simpa using hk
   rw [hsc,if_pos (by simp [hk])] at h0
   rw [hk] at hai
   simp only [go_sem,hP,hw,hai,show ((i:Int)<16) from by omega]
   rw [h0]
   exact⟨by omega,by rw [fT];omega,rfl⟩
 obtain rfl:i=16:=by omega
 simp only [go_sem,hP,show ¬((16:Int)<16) from by decide]
 rw [h0]
 rfl
end Go.Proofs.YtebndjnkmcahaaaGreatDoor
end
section
section
namespace Go.Proofs.YtebndjnkmcahaaaGreatDoor
set_option linter.unusedSimpArgs false
set_option linter.unusedVariables false
open Go Go.Abs Go.RowKit
set_option maxRecDepth 100000 in
theorem Fo:Con Tryz.prog 273 [.ptr 0 0] [(0,some ⟨rrT,[sv [],.i 0,du]⟩)] (.tup [.agg [.i 0,.w 0,sv []],.i 1]) [(0,some ⟨rrT,[sv [],.i 0,du]⟩)]:=by
 refine ec 1 Tryz.func273 Tryz.ntmps273 Tryz.results273 [0,2,3,4,5,6,7,8,9,10,20,31,32,46,67,70,87,92,95,120] ?_;intro c hP h0 hE kK
 simp only [go_sem,hP]
 refine⟨by kernel_rfl,aB [0] rfl ?_ ?_ rfl rfl (fun i hi=>by simp at hi;subst hi;exact⟨rfl,by simp [keys]⟩) (fun i hi=>by simp [liveK] at hi;simp;omega)⟩
 ·simp only [go_sem]
 ·simp only [go_sem]
theorem CY:Con Tryz.prog 249 [.ptr 0 0,.i 0,.b false,sv []] [(0,some ⟨rrT,[sv [],.i 0,du]⟩)] (.i 1) [(0,some ⟨rrT,[sv [],.i 0,du]⟩)]:=by
 refine ec 1 Tryz.func249 Tryz.ntmps249 Tryz.results249 [0,1,2,3,8,9,10,11,12,13,14,15,16,17,18,25,45,52,60,63,76,93,129,141,157,162,174,189] ?_;intro c hP h0 hE kK
 simp only [go_sem,hP]
 refine x_k kK 1 (Fo) ?_
 simp only [go_sem,hP]
 refine aB [0] rfl ?_ ?_ rfl rfl (fun i hi=>by simp at hi;subst hi;exact⟨rfl,by simp [keys]⟩) (fun i hi=>by simp [liveK] at hi;simp;omega)
 ·simp only [go_sem]
 ·simp only [go_sem]
theorem xg:FPure Tryz.prog 223 [.p (.data 1 0 [])] (.tup [.p (.v (.slice none 0 0)),.i 0,.i 1]):=by
 refine en Tryz.func223 Tryz.ntmps223 Tryz.results223 [0,2,3,4,5,6,14] ?_;intro c hP h0 hE kK
 simp only [go_sem,hP,show cZ []=[] from rfl,Abs.strOf]
 refine⟨dc [],?_⟩
 refine x_k kK 1 (CY) ?_
 simp only [go_sem,hP]
theorem Fp:FPure Tryz.prog 181 [.p (.data 1 0 [])] (.tup [.agg (crC cr0),.i 0,.b false]):=by
 refine en Tryz.func181 Tryz.ntmps181 Tryz.results181 [0,2,3,4,5,6,7,8,9,22] ?_;intro c hP h0 hE kK
 simp only [go_sem,hP]
 refine aa kK (by exact xg) ?_
 simp only [go_sem,hP]
 exact⟨rfl,rfl,rfl,rfl,rfl,rfl,rfl,rfl,rfl⟩
theorem CZ:FPure Tryz.prog 127 [.p (.data 1 0 [])] (crAV ⟨cr0,2⟩):=by
 refine en Tryz.func127 Tryz.ntmps127 Tryz.results127 [0,2,3,4,5,6,20] ?_;intro c hP h0 hE kK
 simp only [go_sem,hP]
 refine aa kK (by exact Fp) ?_
 simp only [go_sem,hP]
 exact⟨rfl,rfl,rfl,rfl,rfl,rfl,rfl,rfl,rfl⟩
end Go.Proofs.YtebndjnkmcahaaaGreatDoor
end
section
namespace Go.Proofs.YtebndjnkmcahaaaGreatDoor
set_option linter.unusedSimpArgs false
set_option linter.unusedVariables false
open Go Go.Abs Go.RowKit
def rpS:Nat→List UInt8
 | 0=>[97,46,101,120,97,109,112,108,101]
 | 1=>[98,46,101,120,97,109,112,108,101]
 | _=>[115,104,111,112,46,116,101,115,116]
def usS:Nat→List UInt8
 | 0=>[117,49]
 | 1=>[117,50]
 | _=>[0,255]
def k3 (n:Int):Nat:=((cu .i64 n 65535).tmod 3).toNat
theorem F8 (n:Int):(cu .i64 n 65535).tmod 3=(k3 n:Int)∧k3 n<3:=by
 have hb:=fP n 65535 (by decide) (by decide)
 unfold k3
 rw [Int.tmod_eq_emod_of_nonneg hb.1]
 omega
theorem JX (n:Int):FPure Tryz.prog 43 [.i n] (sv (rpS (k3 n))):=by
 refine en Tryz.func43 Tryz.ntmps43 Tryz.results43 [0,2] ?_;intro c hP h0 hE kK
 obtain⟨h1,h2⟩:=F8 n
 generalize k3 n=k at *
 match k,h2 with
 | 0,_=>simp only [go_sem,hP,h1,rpS]
 | 1,_=>simp only [go_sem,hP,h1,rpS]
 | 2,_=>simp only [go_sem,hP,h1,rpS]
theorem JY (n:Int):FPure Tryz.prog 44 [.i n] (sv (usS (k3 n))):=by
 refine en Tryz.func44 Tryz.ntmps44 Tryz.results44 [0,2] ?_;intro c hP h0 hE kK
 obtain⟨h1,h2⟩:=F8 n
 generalize k3 n=k at *
 match k,h2 with
 | 0,_=>simp only [go_sem,hP,h1,usS]
 | 1,_=>simp only [go_sem,hP,h1,usS]
 | 2,_=>simp only [go_sem,hP,h1,usS]
def txS:Nat→List UInt8
 | 0=>[]
 | 1=>[97]
 | 2=>[98]
 | 3=>[108,111,103,105,110]
 | 4=>[107,101,121]
 | 5=>[101,120,97,109,112,108,101,46,111,114,103]
 | 6=>[195,169]
 | _=>[48,49,50,51,52,53,54,55,56,57,48,49,50,51,52,53]
def k8 (n:Int):Nat:=(cu .i64 n 7).toNat
theorem yD (n:Int):cu .i64 n 7=(k8 n:Int)∧k8 n<8:=by
 have hb:=fP n 7 (by decide) (by decide)
 unfold k8
 omega
theorem at8:∀k:Fin 8,aS (.v undef) (List.drop k.val [AV.p (.v (.string ⟨#[]⟩)),AV.p (.v (.string ⟨#[97]⟩)),AV.p (.v (.string ⟨#[98]⟩)),AV.p (.v (.string ⟨#[108,111,103,105,110]⟩)),AV.p (.v (.string ⟨#[107,101,121]⟩)),AV.p (.v (.string ⟨#[101,120,97,109,112,108,101,46,111,114,103]⟩)),AV.p (.v (.string ⟨#[195,169]⟩)),AV.p (.v (.string ⟨#[48,49,50,51,52,53,54,55,56,57,48,49,50,51,52,53]⟩))])=sv (txS k.val)
 | 0=>rfl|1=>rfl|2=>rfl|3=>rfl|4=>rfl|5=>rfl|6=>rfl|7=>rfl
theorem ka:∀k:Nat,(txS k).length≤16
 | 0=>by decide|1=>by decide|2=>by decide|3=>by decide|4=>by decide|5=>by decide|6=>by decide|k+7=>Nat.le_refl _
theorem JZ (n:Int):FPure Tryz.prog 45 [.i n] (sv (txS (k8 n)++txS (k8 (bc .i64 n 3)))):=by
 refine en Tryz.func45 Tryz.ntmps45 Tryz.results45 [0,2,3] ?_;intro c hP h0 hE kK
 obtain⟨h1,h2⟩:=yD n
 obtain⟨h3,h4⟩:=yD (bc .i64 n 3)
 generalize k8 n=k at *
 generalize k8 (bc .i64 n 3)=j at *
 have e1:=at8 ⟨k,h2⟩
 have e2:=at8 ⟨j,h4⟩
 have l1:=ka k
 have l2:=ka j
 dsimp only at e1 e2
 generalize txS k=a at *
 generalize txS j=b at *
 simp only [go_sem,hP,h1,h3,e1,e2]
 refine⟨⟨by omega,by omega⟩,by omega,⟨by omega,by omega⟩,by omega,by omega,by kernel_rfl,by rw [Dg]⟩
def b01 (n:Int) (k:Int):Bool:=cu .i64 (bc .i64 n k) 1==1
def crB (n:Int):Cr :=
 ⟨rpS (k3 n),usS (k3 (bc .i64 n 2)),txS (k8 (bc .i64 n 4))++txS (k8 (bc .i64 (bc .i64 n 4) 3)),m6 (IntKind.u64.wrap n*11400714819323198485),IntKind.i64.wrap (1+cu .i64 (bc .i64 n 3) 1),b01 n 7,IntKind.i64.wrap (1+(bc .i64 n 5).tmod 3),b01 n 7&&b01 n 8,b01 n 7&&b01 n 8&&b01 n 9⟩
set_option maxHeartbeats 1000000 in
theorem J0 (n:Int):FPure Tryz.prog 15 [.i n] (.agg (crC (crB n))):=by
 refine en Tryz.func15 Tryz.ntmps15 Tryz.results15 [0,2,3] ?_;intro c hP h0 hE kK
 have e1:=JX n
 have e2:=JY (bc .i64 n 2)
 have e3:=JZ (bc .i64 n 4)
 unfold crB at hE kK
 generalize rpS (k3 n)=a1 at *
 generalize usS (k3 (bc .i64 n 2))=a2 at *
 generalize txS (k8 (bc .i64 n 4))++txS (k8 (bc .i64 (bc .i64 n 4) 3))=a3 at *
 simp only [go_sem,hP]
 refine aa kK (by exact e1) ?_
 simp only [go_sem,hP]
 refine aa kK (by exact e2) ?_
 simp only [go_sem,hP]
 refine aa kK (by exact e3) ?_
 simp only [go_sem,hP]
 rw [kf]
 unfold b01
 generalize cu .i64 (bc .i64 n 7) 1=x7
 generalize cu .i64 (bc .i64 n 8) 1=x8
 generalize cu .i64 (bc .i64 n 9) 1=x9
 by_cases h7:x7=1
 ·by_cases h8:x8=1
  ·simp [h7,h8]
  ·simp [h7,h8]
 ·simp [h7]
theorem Is (k:Nat):okU (rpS k)=true:=by
 match k with
 | 0=>decide +kernel
 | 1=>decide +kernel
 | k+2=>show okU (rpS 2)=true;decide +kernel
theorem Iu:∀k j:Fin 8,okU (txS k.val++txS j.val)=true:=by decide +kernel
def crF (m:Int) (i:Nat):Cr:={ crB (m+37*i) with us:=[UInt8.ofNat (i % 11)],sd:=UInt64.ofNat i }
theorem C0 {n:Int} (h:0≤n):0≤bc .i64 n 5:=by
 unfold bc
 exact Int.fdiv_nonneg h (by exact Int.pow_nonneg (by decide))
theorem Iv (m:Int) (i:Nat) (h0:0≤m) (hm:m<100000) (hi:i<100):CrOk (crF m i):=by
 have hn:0≤m+37*(i:Int)∧m+37*(i:Int)<1000000:=by omega
 unfold crF
 generalize m+37*(i:Int)=n at *
 have b3:=fP (bc .i64 n 3) 1 (by decide) (by decide)
 have l1:=ka (k8 (bc .i64 n 4))
 have l2:=ka (k8 (bc .i64 (bc .i64 n 4) 3))
 have hr:∀k,1≤(rpS k).length∧(rpS k).length≤64:=fun k=>by
  match k with
  | 0=>decide
  | 1=>decide
  | k+2=>exact (show 1≤(rpS 2).length∧(rpS 2).length≤64 from by decide)
 have h5:0≤(bc .i64 n 5).tmod 3∧(bc .i64 n 5).tmod 3≤2:=by
  have hs:0≤bc .i64 n 5:=C0 hn.1
  rw [Int.tmod_eq_emod_of_nonneg hs]
  omega
 exact
  { rp1:=(hr _).1,rp2:=(hr _).2,us1:=Nat.le_refl 1,us2:=(by decide:1≤16),nm:=by show (txS _++txS _).length≤32;rw [List.length_append];omega,
    hg:=by show 1≤IntKind.i64.wrap _∧IntKind.i64.wrap _≤4;rw [ab (by omega) (by omega)];omega,
    pt:=by show 1≤IntKind.i64.wrap _∧IntKind.i64.wrap _≤3;rw [ab (by omega) (by omega)];omega,
    u1:=Is _,u2:=Iu ⟨_,(yD _).2⟩ ⟨_,(yD _).2⟩,
    sh:=fun h=>by simp only [crB,Bool.and_eq_true] at h ⊢;exact h.1,
    bk:=fun h=>by simp only [crB,Bool.and_eq_true] at h ⊢;exact h.1 }
end Go.Proofs.YtebndjnkmcahaaaGreatDoor
end
end
end

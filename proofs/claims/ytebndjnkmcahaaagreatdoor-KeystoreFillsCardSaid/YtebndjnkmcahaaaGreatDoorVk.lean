/- joined of several texts; own work; no statement of the seat is proved but in the last -/
import Derived.Test.YtebndjnkmcahaaaGreatDoorVi
section
section
namespace Go.Proofs.YtebndjnkmcahaaaGreatDoor
set_option linter.unusedSimpArgs false
set_option linter.unusedVariables false
open Go Go.Abs Go.RowKit
def eR (ks:List Int):List AV:=(List.range 256).map fun (k:Nat) => .b (decide ((k:Int)∈ks))
theorem rP (ks:List Int):(eR ks).length=256:=by simp [eR]
theorem xr (ks:List Int) (k:Nat) (h:k<256):aS (.v (.bool false)) ((eR ks).drop k) = .b (decide ((k:Int)∈ks)):=by
 have:(eR ks).drop k = .b (decide ((k:Int)∈ks))::(eR ks).drop (k+1):=by
  rw [List.drop_eq_getElem_cons (by rw [rP];exact h)]
  simp [eR]
 rw [this];rfl
theorem AE (ks:List Int) (k:Nat):(eR ks).set k (.b true)=eR (ks++[(k:Int)]):=by
 apply List.ext_getElem
 ·simp [eR]
 ·intro i h1 h2
  rw [List.getElem_set]
  split
  ·rename_i e;subst e;simp [eR]
  ·rename_i e
   have hi:¬(i:Int)=(k:Int):=by omega
   simp [eR,hi]
theorem qp (h:ba) (S:List Nat) (σ:Nat→Nat) (ks:List Int):ai h S σ (eR ks) (eR ks):=by
 have:eR ks=((List.range 256).map fun (k:Nat)=>PV.v (.bool (decide ((k:Int)∈ks)))).map .p:=by simp [eR]
 rw [this];exact aW h S σ _
theorem FI:eR []=List.replicate 256 (.b false):=by
 unfold eR
 rw [List.eq_replicate_iff]
 simp
def Du:List Value:=List.replicate 256 (.bool false)
theorem AF (n:Nat):eU (List.replicate n (.bool false))=true:=by
 induction n with
 | zero=>rfl
 | succ n ih=>rw [List.replicate_succ];simp only [eU,Value.oneCell'];exact ih
theorem FJ (n:Nat):pvs (List.replicate n (.bool false))=List.replicate n (.b false):=by
 induction n with
 | zero=>rfl
 | succ n ih=>rw [List.replicate_succ,List.replicate_succ];simp only [pvs,ih]
theorem FK:eU Du=true:=AF 256
theorem Kt:pvs Du=eR []:=by rw [FI];exact FJ 256
set_option maxRecDepth 100000 in
theorem IW:FD=Du:=by kernel_rfl
attribute [go_sem] IW FK Kt rP
set_option maxHeartbeats 4000000 in
theorem Dv (l:ag) (hl:l.length<100000) (hsz:szM l<1000000000000):FPure Tryz.prog 98 [.p (PL l)] (.i (cd l)):=by
 refine en Tryz.func98 Tryz.ntmps98 Tryz.results98 [0,2,3,5,8,9,10,11,12,22,26,33] ?_;intro c hP h0 hE kK
 obtain⟨R,hR⟩:∃R,cd l=R:=⟨_,rfl⟩;rw [hR] at hE kK;(try rw [hR])
 unfold cd at hR
 simp only [go_sem,hP]
 by_cases hl0:l=[]
 ·rw [if_pos (by rw [hl0];rfl)]
  rw [if_pos hl0] at hR
  exact hR
 ·have hlp:0<l.length:=List.length_pos_iff.2 hl0
  rw [if_neg (by omega)]
  rw [if_neg hl0] at hR
  refine bo hE h0 [0,2,3,5,8,9,10,11,12,22,26,33] (α:={ i:Nat // i≤l.length∧gE [] l=gE ((l.take i).map (·.1)) (l.drop i) }) (fun i=>⟨34,[(0,.p (PL l)),(3,.ptr 0 0),(9,.p (PL l)),(10,.i l.length),(11,.i i.1)],
   [(0,some ⟨209,eR ((l.take i.1).map (·.1))⟩)],1⟩) (fun i=>l.length-i.1) ⟨0,Nat.zero_le _,by simp⟩ [] (fun i=>i) ?_ ?_
  ·refine⟨rfl,?_,?_,rfl,rfl,trivial,fun i h=>h⟩
   ·simp only [go_sem]
   ·simp only [go_sem]
    exact qp _ _ _ _
  ·rintro⟨i,hi,hdup⟩
   rcases Nat.lt_or_ge i l.length with hin|hin
   ·have hc:((i:Int)<(l.length:Int)):=by omega
    have hat:=cW l i hin
    have hkt:=rN l i hin
    rw [vS l i hin] at hdup
    simp only [gE] at hdup
    generalize l.getD i (0,[])=p at *
    have hw:IntKind.i64.wrap ((i:Int)+1)=((i+1:Nat):Int):=by rw [ab (by omega) (by omega)];omega
    simp only [go_sem,hP,hat,hc,byP,hw]
    refine⟨by omega,?_⟩
    by_cases hr:p.1<0∨255<p.1
    ·rw [if_pos hr] at hdup
     rw [hdup,if_pos (by decide)] at hR
     by_cases hneg:p.1<0
     ·rw [if_neg (fun h=>h hneg)];exact hR
     ·rw [if_pos hneg,if_pos (by omega)];exact hR
    ·rw [if_neg hr] at hdup
     rw [if_pos (by omega),if_neg (by omega)]
     obtain⟨k,hk⟩:∃k:Nat,p.1=k:=Int.eq_ofNat_of_zero_le (by omega)
     have hk2:k<256:=by omega
     refine⟨⟨by omega,by omega⟩,by omega,?_⟩
     rw [hk] at hdup hkt
     rw [hk,Int.toNat_natCast,xr _ k hk2]
     simp only [go_sem,hP]
     by_cases hin2:(k:Int)∈(l.take i).map (·.1)
     ·rw [if_pos hin2] at hdup
      rw [hdup,if_pos (by decide)] at hR
      rw [if_pos (by simpa using hin2)]
      exact hR
     ·rw [if_neg hin2,←hkt] at hdup
      rw [if_neg (by simpa using hin2)]
      simp only [go_sem,hP,hw,AE]
      rw [← hkt]
      refine⟨⟨by omega,by omega⟩,by omega,⟨i+1,by omega,hdup⟩,by show l.length-(i+1)<l.length-i;omega,aZ [0] rfl ?_ ?_ rfl rfl (Nat.le_refl _)⟩
      ·simp only [go_sem]
      ·simp only [go_sem]
       exact qp _ _ _ _
   ·obtain rfl:i=l.length:=by omega
    have hnc:¬((l.length:Int)<(l.length:Int)):=by omega
    rw [List.drop_eq_nil_of_le (Nat.le_refl _)] at hdup
    simp only [gE] at hdup
    rw [hdup] at hR
    simp only [ne_eq,not_true_eq_false,if_false] at hR
    simp only [go_sem,hP,hnc]
    refine aa kK (by exact tF l hsz) ?_
    simp only [go_sem,hP]
    by_cases h256:256<szM l
    ·rw [if_pos (by omega)]
     rw [if_pos h256] at hR
     exact hR
    ·rw [if_neg (by omega)]
     rw [if_neg h256] at hR
     exact hR
def rQ (v:Vt) (l now:ag) (budget:Int):JR :=
 if (szM l:Int)≤eN v.j then bh v.j (aM l) budget else aw v.j (aI now) budget
def jR (v:Vt) (l:ag):ag:=aQ (bm (bm [] v.prs) l)
def vY (v:Vt) (l:ag) (budget:Int):VR :=
 if nG v=false then ⟨vt0,0,18⟩ else
 if cd l≠0 then ⟨vt0,0,cd l⟩ else
 if v.j.ps<16+10*((jR v l).length:Int)+(szM (jR v l):Int) then ⟨vt0,0,12⟩ else
 gx (rQ v l (jR v l) budget).j (rQ v l (jR v l) budget).left (rQ v l (jR v l) budget).err
theorem Dw {v:Vt} (h:¬nG v=false):aE v.j=true∧aU v.j=v.prs:=by
 unfold nG at h
 simpa using h
theorem Dx {v:Vt} {l:ag} {x:Int×List UInt8} (h:x∈jR v l):((x∈l∧x.2≠[])∨(x∈v.prs∧x.2≠[])):=by
 unfold jR aQ at h
 obtain⟨y,hy,rfl⟩:=List.mem_map.1 h
 have hg:=ma (k:=y.1) ⟨y,hy,rfl⟩
 rcases lm hg with h1|h1
 ·exact .inl h1
 ·rcases lm h1 with h1|h1
  ·exact .inr h1
  ·cases h1
set_option maxHeartbeats 8000000 in
theorem Dy (v:Vt) (n:Nat) (l:ag) (budget:Int) (hn:v.j.bs.length=n) (hb:n<1000000000) (hl:l.length<100000) (hls:∀x,x∈l→x.2.length<1000000) (hB:i64 budget) :
 FPure Tryz.prog 39 [.agg [.i v.j.ps,.p (.data 1 n (v.j.bs.map bt)),.i v.j.page,.i v.j.gen,.i v.j.tail,.b v.j.torn,.p (PL v.prs)],.p (PL l),.i budget] (xn (vY v l budget)):=by
 refine en Tryz.func39 Tryz.ntmps39 Tryz.results39 [0,1,2,3,6,7,8,9,10,11,14,19,43,50] ?_;intro c hP h0 hE kK
 obtain⟨R,hR⟩:∃R,vY v l budget=R:=⟨_,rfl⟩;rw [hR] at hE kK;(try rw [hR])
 unfold vY at hR
 have hlsz:szM l≤l.length*(3+1000000):=lj l 1000000 (fun x hx=>Nat.le_of_lt (hls x hx))
 have hlsz2:l.length*(3+1000000)≤100000*(3+1000000):=Nat.mul_le_mul_right _ (by omega)
 simp only [go_sem,hP]
 refine aa kK (by exact xq v n hn hb) ?_
 simp only [go_sem,hP]
 by_cases hg:nG v=false
 ·rw [if_pos hg] at hR ⊢
  subst hR
  exact⟨⟨rfl,⟨rfl,rfl⟩,rfl,rfl,rfl,rfl,rfl,rfl⟩,rfl,rfl⟩
 ·rw [if_neg hg] at hR ⊢
  obtain⟨hgj,hpr⟩:=Dw hg
  have hssz:=nf v.j
  have hsbd:=gw v.j
  have hsm:=fun x (hx:x∈aU v.j)=>i1 hx
  rw [hpr] at hssz hsbd hsm
  refine aa kK (by exact Dv l hl (by omega)) ?_
  simp only [go_sem,hP]
  by_cases hadm:cd l=0
  ·rw [if_neg (fun h=>h hadm)] at hR ⊢
   have h256:szM l≤256:=by
    unfold cd at hadm
    split at hadm
    ·cases hadm
    ·split at hadm
     ·rename_i h1 h2;exact absurd hadm h2
     ·split at hadm
      ·cases hadm
      ·omega
   have hkeys:∀x,x∈l→0≤x.1∧x.1≤255:=by
    have key:∀(l:ag) (seen:List Int),gE seen l=0→∀x,x∈l→0≤x.1∧x.1≤255:=by
     intro l
     induction l with
     | nil=>intro _ _ x hx;cases hx
     | cons p l ih =>
      intro seen h x hx
      simp only [gE] at h
      split at h
      ·cases h
      ·split at h
       ·cases h
       ·rcases List.mem_cons.1 hx with rfl|hx
        ·omega
        ·exact ih _ h x hx
    refine key l [] ?_
    unfold cd at hadm
    split at hadm
    ·cases hadm
    ·split at hadm
     ·rename_i h1 h2;exact absurd hadm h2
     ·rename_i h1 h2;simpa using h2
   have hal1:=i0 [] v.prs
   have hal2:=i0 (bm [] v.prs) l
   have hge:=jP l
   have hnm:=fun x (hx:x∈jR v l)=>Dx hx
   simp only [List.length_nil] at hal1
   refine ck hE (ks:=[0,1,2,3,6,7,8,9,10,11,14,19,43,50]) (n:=2000) [] (fun i=>i+2) 3 (by rw [hP];exact tK [] v.prs (by simp;omega) (fun x hx=>by have:=hsm x hx;unfold i64;omega)) ⟨by simp only [go_sem],by simp only [go_sem],rfl,trivial,Nat.le_refl _,fun i hi=>?_,by simp [ax,an,keys],by simp [bS,an,ax,keys],rfl⟩ ?_
   ·simp [keys] at hi;simp [liveK];omega
   simp only [go_sem,hP]
   refine ck hE (ks:=[0,1,2,3,6,7,8,9,10,11,14,19,43,50]) (n:=2000) [] (fun i=>i+2) 3 (by rw [hP];exact tK (bm [] v.prs) l (by omega) (fun x hx=>by have:=hkeys x hx;unfold i64;omega)) ⟨by simp only [go_sem],by simp only [go_sem],rfl,trivial,Nat.le_refl _,fun i hi=>?_,by simp [ax,an,keys],by simp [bS,an,ax,keys],rfl⟩ ?_
   ·simp [keys] at hi;simp [liveK];omega
   unfold jR at hR hnm
   generalize hst:bm (bm [] v.prs) l=st at *
   simp only [go_sem,hP]
   refine ck hE (ks:=1000010::[0,1,2,3,6,7,8,9,10,11,14,19,43,50]) (n:=2000) [] (fun i=>i+2) 4 (by rw [hP];exact rO st (by omega) (fun x hx=>by
    have hg:=ma (k:=x.1) ⟨x,hx,rfl⟩
    have hm:(x.1,fK x.1 st)∈aQ st:=List.mem_map.2 ⟨x,hx,rfl⟩
    rcases hnm _ hm with ⟨h1,h2⟩|⟨h1,h2⟩
    ·have q1:=hkeys _ h1
     have q2:=hls _ h1
     simp only at q1 q2 h2
     exact⟨by unfold i64;omega,h2,by omega⟩
    ·have q1:=hsm _ h1
     simp only at q1 h2
     exact⟨by unfold i64;omega,h2,by omega⟩)) ⟨by simp only [go_sem],by simp only [go_sem],rfl,trivial,Nat.le_of_ble_eq_true rfl,fun i hi=>?_,by simp [ax,an,keys],by simp only [bS,an,vM,and_self],rfl⟩ ?_
   ·simp [keys] at hi;simp [liveK];omega
   have hol:(aQ st).length=st.length:=by simp [aQ]
   have htp:(prA (aQ st)).take (st.length*2)=prA (aQ st):=by rw [← hol,l6]
   simp only [go_sem,hP]
   refine o9 hE (ks:=[0,1,2,3,6,7,8,9,10,11,14,19,43,50]) (n:=2000) 3 ?_ ?_
   ·simp only [go_sem,hP]
    exact⟨by omega,fm _ _ _ (fun c hc=>by
     obtain⟨x,_,rfl⟩:=List.mem_map.1 hc
     trivial)⟩
   ·simp only [go_sem,hP,htp]
    have hnl:∀x,x∈aQ st→x.2.length≤8192:=fun x hx=>by
     rcases hnm x hx with ⟨h1,_⟩|⟨h1,_⟩
     ·have:∀l:ag,x∈l→3+x.2.length≤szM l:=by
       intro l
       induction l with
       | nil=>intro h;cases h
       | cons q l ih =>
        intro h
        simp only [szM]
        rcases List.mem_cons.1 h with rfl|h
        ·omega
        ·have:=ih h;omega
      have:=this l h1
      omega
     ·exact (hsm x h1).2.2.2
    have hnsz:=lj (aQ st) 8192 hnl
    have hnsz2:(aQ st).length*(3+8192)≤10000*(3+8192):=Nat.mul_le_mul_right _ (by omega)
    rw [← hol]
    rw [← hol] at hal2
    clear hol htp
    generalize aQ st=now at *
    obtain⟨pp,kk,qq,e1,e2,e3,-⟩:=bF hgj
    refine aa kK (by exact tF now (by omega)) ?_
    simp only [go_sem,hP]
    rw [ab (n:=10*((List.length now:Nat):Int)) (by omega) (by omega),ab (n:=16+10*((List.length now:Nat):Int)) (by omega) (by omega),ab (n:=16+10*((List.length now:Nat):Int)+((szM now:Nat):Int)) (by omega) (by omega)]
    refine⟨by kernel_rfl,?_⟩
    by_cases hfull:v.j.ps<16+10*((List.length now:Nat):Int)+((szM now:Nat):Int)
    ·rw [if_pos (by omega)]
     rw [if_pos hfull] at hR
     subst hR
     exact⟨⟨rfl,⟨rfl,rfl⟩,rfl,rfl,rfl,rfl,rfl,rfl⟩,rfl,rfl⟩
    ·rw [if_neg (by omega)]
     rw [if_neg hfull] at hR
     unfold rQ at hR
     refine aa kK (by exact tF l (by omega)) ?_
     simp only [go_sem,hP]
     refine aa kK (by exact Et v.j n hn hb) ?_
     simp only [go_sem,hP]
     refine⟨by kernel_rfl,?_⟩
     by_cases hroom:((szM l:Nat):Int)≤eN v.j
     ·rw [if_pos hroom] at hR ⊢
      refine aa kK (by exact rI l (by omega)) ?_
      have hpl:=bA l
      have hxl:=jE v.j (aM l) budget hB (by omega) (by omega)
      rw [← kW] at hxl
      simp only [go_sem,hP]
      refine aa kK (by exact zw v.j n (aM l) _ budget hn hb hpl (by omega) hB) ?_
      generalize bh v.j (aM l) budget=X at *
      simp only [go_sem,hP]
      refine aa kK (by exact eF X.j _ X.left X.err rfl (by omega)) ?_
      have hfe:(if X.err=0 then (⟨⟨X.j,aU X.j⟩,X.left,0⟩:VR) else bg X.j X.err)=gx X.j X.left X.err:=rfl
      rw [hfe,hR]
      simp only [go_sem,hP]
      (try exact⟨by kernel_rfl,⟨rfl,⟨rfl,rfl⟩,rfl,rfl,rfl,rfl,rfl,rfl⟩,rfl,rfl⟩)
      refine Eq.trans (b:=true) ?_ rfl
      kernel_rfl
     ·rw [if_neg hroom] at hR ⊢
      refine aa kK (by exact m9 now (by omega)) ?_
      have hel:∀b,b∈aI now→b.length<1000000:=fun b hb=>by
       have:=yU hb
       omega
      have hxl:=cT v.j (aI now) budget hB (by omega) hel
      rw [← cC] at hxl
      simp only [go_sem,hP]
      refine aa kK (by exact k9 v.j n (aI now) _ budget hn hb (iu now) (by omega) hel hB) ?_
      generalize aw v.j (aI now) budget=X at *
      simp only [go_sem,hP]
      refine aa kK (by exact eF X.j _ X.left X.err rfl (by omega)) ?_
      have hfe:(if X.err=0 then (⟨⟨X.j,aU X.j⟩,X.left,0⟩:VR) else bg X.j X.err)=gx X.j X.left X.err:=rfl
      rw [hfe,hR]
      simp only [go_sem,hP]
      (try exact⟨by kernel_rfl,⟨rfl,⟨rfl,rfl⟩,rfl,rfl,rfl,rfl,rfl,rfl⟩,rfl,rfl⟩)
      refine Eq.trans (b:=true) ?_ rfl
      kernel_rfl
  ·rw [if_pos hadm] at hR ⊢
   subst hR
   exact⟨⟨rfl,⟨rfl,rfl⟩,rfl,rfl,rfl,rfl,rfl,rfl⟩,rfl,rfl⟩
end Go.Proofs.YtebndjnkmcahaaaGreatDoor
end
section
section
namespace Go.Proofs.YtebndjnkmcahaaaGreatDoor
set_option linter.unusedSimpArgs false
set_option linter.unusedVariables false
open Go Go.Abs Go.RowKit
theorem FPure.ofNil {P:Program} {f:FuncId} {s:Nat} {v:AV} (h:∀A c,FPure P f [.p (.v (.slice A 0 c))] v):FPure P f [.p (.data s 0 [])] v:=by
 intro hh
 refine⟨fun ρ F us w hpre hz hr=>?_⟩
 have h0:=hr 0 _ rfl
 have key:∀A c,us.getD 0 undef = .slice A 0 c→_:=fun A c e=>((h A c) hh).tri ρ F us w hpre hz (fun j x hj=>by
  cases j with
  | zero=>simp at hj;subst hj;rw [e];exact .p _ _ (.v _ rfl)
  | succ j=>simp at hj)
 rcases h0.dataInv with ⟨_,_,A,cap,e⟩|⟨b,off,cap,f,e,_⟩
 ·exact key _ _ e
 ·exact key _ _ e
theorem FL (c:Nat):FPure Tryz.prog 24 [.p (.v (.slice none 0 c))] (.p (.data 1 0 [])):=by
 refine en Tryz.func24 Tryz.ntmps24 Tryz.results24 [0,2,4] ?_;intro c hP h0 hE kK
 simp only [go_sem,hP]
theorem FM (a:Addr) (c:Nat):FPure Tryz.prog 24 [.p (.v (.slice (some a) 0 c))] (.p (.data 1 0 [])):=by
 refine en Tryz.func24 Tryz.ntmps24 Tryz.results24 [0,2,4] ?_;intro c hP h0 hE kK
 simp only [go_sem,hP]
theorem rR (cs:List PV) (n:Nat) (hn:cs.length=n) (hb:n≤140737488355328):FPure Tryz.prog 24 [.p (.data 1 n cs)] (.p (.data 1 n cs)):=by
 by_cases h:n=0
 ·subst h
  obtain rfl:=List.eq_nil_of_length_eq_zero hn
  exact FPure.ofNil fun A c=>by cases A with|none=>exact FL c|some a=>exact FM a c
 ·refine en Tryz.func24 Tryz.ntmps24 Tryz.results24 [0,2,4] ?_;intro c hP h0 hE kK
  simp only [go_sem,hP]
  rw [List.take_of_length_le (by simp;omega)]
  exact⟨h,⟨by omega,by omega⟩,⟨by omega,bI _⟩,bY _⟩
end Go.Proofs.YtebndjnkmcahaaaGreatDoor
end
section
namespace Go.Proofs.YtebndjnkmcahaaaGreatDoor
set_option linter.unusedSimpArgs false
set_option linter.unusedVariables false
open Go Go.Abs Go.RowKit
set_option maxHeartbeats 2000000 in
theorem md (v:Vt) (n:Nat) (k:Int) (hp:v.prs.length<1000000000) (hl:∀x,x∈v.prs→x.2.length≤140737488355328):FPure Tryz.prog 72 [.agg [.i v.j.ps,.p (.data 1 n (v.j.bs.map bt)),.i v.j.page,.i v.j.gen,.i v.j.tail,.b v.j.torn,.p (PL v.prs)],.i k] (.p (.data 1 (vgetM k v.prs).length ((vgetM k v.prs).map bt))):=by
 refine en Tryz.func72 Tryz.ntmps72 Tryz.results72 [0,1,2,4,6,8,9,10,11,17] ?_;intro c hP h0 hE kK
 simp only [go_sem,hP]
 generalize hv:v.prs=l at *
 refine bo hE h0 [0,1,2,4,6,8,9,10,11,17] (α:={ i:Nat // i≤l.length∧∀x,x∈l.take i→x.1≠k }) (fun i=>⟨22,[(1,.i k),(8,.p (PL l)),(9,.i l.length),(10,.i i.1)],[],1⟩) (fun i=>l.length-i.1) ⟨0,Nat.zero_le _,by simp⟩ [] (fun i=>i) ?_ ?_
 ·refine⟨rfl,?_,trivial,rfl,rfl,trivial,fun i h=>h⟩
  simp only [go_sem]
 ·rintro⟨i,hi,hno⟩
  rcases Nat.lt_or_ge i l.length with hin|hin
  ·have hc:((i:Int)<(l.length:Int)):=by omega
   have hat:=cW l i hin
   have hta:=cX l i hin
   have hmem:l.getD i (0,[])∈l:=by rw [show l.getD i (0,[])=l[i]'hin from by simp [List.getD_eq_getElem?_getD,hin]];exact List.getElem_mem _
   have hgl:=hl _ hmem
   have hw:IntKind.i64.wrap ((i:Int)+1)=((i+1:Nat):Int):=by rw [ab (by omega) (by omega)];omega
   have hgt:=vP k l i hin hno
   generalize l.getD i (0,[])=p at *
   simp only [go_sem,hP,hat,hc,byP,hw]
   refine⟨by omega,?_⟩
   by_cases he:p.1=k
   ·rw [if_pos he]
    have hgt:=hgt he
    refine aa kK (by exact rR (p.2.map bt) _ (by simp) hgl) ?_
    rw [← hgt]
    simp only [go_sem,hP]
   ·rw [if_neg he]
    refine⟨⟨i+1,by omega,?_⟩,by show l.length-(i+1)<l.length-i;omega,aZ [0] rfl ?_ ?_ rfl rfl (Nat.le_refl _)⟩
    ·intro x hx
     rw [hta] at hx
     rcases List.mem_append.1 hx with hx|hx
     ·exact hno x hx
     ·simp at hx;rw [hx];exact he
    ·simp only [go_sem]
    ·simp only [go_sem]
  ·obtain rfl:i=l.length:=by omega
   have hnc:¬((l.length:Int)<(l.length:Int)):=by omega
   rw [List.take_of_length_le (Nat.le_refl _)] at hno
   simp only [go_sem,hP,hnc,vQ k l hno]
end Go.Proofs.YtebndjnkmcahaaaGreatDoor
end
end
end
section
namespace Go.Proofs.YtebndjnkmcahaaaGreatDoor
set_option linter.unusedSimpArgs false
set_option linter.unusedVariables false
open Go Go.Abs Go.RowKit
def Srt (s:ag):Prop:=s.Pairwise fun a b=>a.1<b.1
theorem Srt.tail {p:Int×List UInt8} {s:ag} (h:Srt (p::s)):Srt s:=(List.pairwise_cons.1 h).2
theorem Srt.head {p:Int×List UInt8} {s:ag} (h:Srt (p::s)):∀x,x∈s→p.1<x.1:=(List.pairwise_cons.1 h).1
theorem ng (k:Int) (q:Int×List UInt8) (r:ag):iE k (q::r)=if q.1≠k then q::iE k r else iE k r:=by
 unfold iE
 rw [List.filter_cons]
 by_cases h:q.1=k<;>simp [h]
theorem ln (p:Int×List UInt8):∀s:ag,dl p true s=iE p.1 s
 | []=>rfl
 | q::r=>by
  rw [ng]
  simp only [dl,Bool.true_or,ln p r]
  by_cases h:q.1=p.1<;>simp [h]
theorem xt {k:Int} {v:List UInt8}:∀{s:ag},(∀x,x∈s→k<x.1)→gB k v s=(k,v)::s
 | [],_=>rfl
 | q::r,h=>by simp only [gB];rw [if_pos (h q (by simp))]
theorem nH (p:Int×List UInt8):∀{s:ag},Srt s→dl p false s=gB p.1 p.2 (iE p.1 s)
 | [],_=>rfl
 | q::r,h=>by
  have hh:=h.head
  rw [ng]
  simp only [dl,Bool.false_or,true_and]
  by_cases h1:q.1≥p.1
  ·simp only [h1,if_true,decide_true,ln]
   by_cases h2:q.1=p.1
   ·rw [if_neg (fun h=>h h2),if_neg (fun h=>h h2)]
    rw [xt (fun x hx=>by have:=hh x (List.mem_filter.1 hx).1;omega)]
    rfl
   ·rw [if_pos h2,if_pos h2]
    simp only [gB]
    rw [if_pos (by omega)]
    rfl
  ·have h2:q.1≠p.1:=by omega
   rw [if_neg h1,if_pos h2,if_pos h2]
   simp only [gB]
   rw [if_neg (by omega)]
   simp only [h1,decide_false,List.nil_append,List.cons_append]
   rw [nH p h.tail]
theorem yW {s:ag} (h:Srt s) (k:Int):Srt (iE k s):=List.Pairwise.filter _ h
theorem yX {k:Int} {v:List UInt8}:∀{s:ag},Srt s→(∀x,x∈s→x.1≠k)→Srt (gB k v s)
 | [],_,_=>by simp [gB,Srt]
 | q::r,h,hn=>by
  simp only [gB]
  split
  ·rename_i hk
   refine List.pairwise_cons.2 ⟨fun x hx=>?_,h⟩
   rcases List.mem_cons.1 hx with rfl|hx
   ·exact hk
   ·have:=h.head x hx;simp only;omega
  ·rename_i hk
   refine List.pairwise_cons.2 ⟨fun x hx=>?_,yX h.tail (fun x hx=>hn x (by simp [hx]))⟩
   rcases qm hx with rfl|hx
   ·have:=hn q (by simp);simp only;omega
   ·exact h.head x hx
theorem xu {s:ag} (h:Srt s) (p:Int×List UInt8):Srt (dz s p):=by
 unfold dz
 split
 ·exact yW h _
 ·exact yX (yW h _) (fun x hx=>by have:=(List.mem_filter.1 hx).2;simpa using this)
theorem vZ {s:ag} (h:Srt s) (p:Int×List UInt8):dl p (decide (p.2.length=0)) s=dz s p:=by
 unfold dz
 split
 ·rename_i hz;simp only [hz,decide_true];exact ln p s
 ·rename_i hz;simp only [hz,decide_false];exact nH p h
theorem fC:∀(l old:ag),Srt old→bv old l=bm old l∧Srt (bm old l):=by
 intro l
 unfold bv bm
 induction l with
 | nil=>intro old h;exact⟨rfl,h⟩
 | cons p l ih =>
  intro old h
  simp only [List.foldl_cons]
  rw [vZ h]
  exact ih _ (xu h p)
theorem i2 (l:List (List UInt8)):bO l=dS l∧Srt (dS l):=by
 have key:∀(l:List (List UInt8)) (o:ag),Srt o→l.foldl (fun o b=>bv o (aP b)) o=l.foldl (fun s b=>bm s (aP b)) o∧Srt (l.foldl (fun s b=>bm s (aP b)) o):=by
  intro l
  induction l with
  | nil=>intro o h;exact⟨rfl,h⟩
  | cons b l ih =>
   intro o h
   simp only [List.foldl_cons]
   obtain⟨h1,h2⟩:=fC (aP b) o h
   rw [h1]
   exact ih _ h2
 exact key l [] (by simp [Srt])
theorem v6:∀{s:ag},Srt s→∀p,p∈s→fK p.1 s=p.2
 | [],_,p,hp=>by cases hp
 | q::r,h,p,hp=>by
  simp only [fK]
  rcases List.mem_cons.1 hp with rfl|hp
  ·rw [if_pos rfl]
  ·have:=h.head p hp
   rw [if_neg (by omega)]
   exact v6 h.tail p hp
theorem nI {s:ag} (h:Srt s):aQ s=s:=by
 unfold aQ
 conv=>rhs;rw [← List.map_id s]
 refine List.map_congr_left fun p hp=>?_
 rw [v6 h p hp];rfl
theorem gy (j:Jn):aU j=aF j:=by
 obtain⟨h1,h2⟩:=i2 (aK j)
 unfold aU aF
 rw [nI h2,h1]
theorem qr (j:Jn):Srt (aF j):=by
 obtain⟨h1,h2⟩:=i2 (aK j)
 unfold aF
 rw [h1];exact h2
theorem rS {k:Int} {v:List UInt8}:∀{s:ag},(∀x,x∈s→x.1<k)→gB k v s=s++[(k,v)]
 | [],_=>rfl
 | q::r,h=>by
  simp only [gB]
  rw [if_neg (by have:=h q (by simp);omega),rS (fun x hx=>h x (by simp [hx]))]
  rfl
theorem FN {k:Int} {s:ag} (h:∀x,x∈s→x.1≠k):iE k s=s:=by
 unfold iE
 rw [List.filter_eq_self]
 intro x hx
 simpa using h x hx
theorem lp:∀(s o:ag),Srt s→(∀x,x∈s→x.2≠[])→(∀x,x∈o→∀y,y∈s→x.1<y.1)→bm o s=o++s:=by
 intro s
 induction s with
 | nil=>intro o _ _ _;simp [bm]
 | cons p s ih =>
  intro o h hn ho
  have hlt:∀x,x∈o→x.1<p.1:=fun x hx=>ho x hx p (by simp)
  have h1:dz o p=o++[p]:=by
   unfold dz
   rw [if_neg (fun e=>hn p (by simp) (List.eq_nil_of_length_eq_zero e))]
   unfold wx
   rw [FN (fun x hx=>by have:=hlt x hx;omega),rS hlt]
  show (p::s).foldl dz o=_
  rw [List.foldl_cons,h1]
  have:=ih (o++[p]) h.tail (fun x hx=>hn x (by simp [hx])) (fun x hx y hy=>by
   rcases List.mem_append.1 hx with hx|hx
   ·exact ho x hx y (by simp [hy])
   ·simp at hx;subst hx;exact h.head y hy)
  unfold bm at this
  rw [this];simp
theorem Dz (v:Vt):nG v=jQ v:=by
 unfold nG jQ
 rw [gy]
 congr 1
 by_cases h:aF v.j=v.prs
 ·simp [h]
 ·have:v.prs≠aF v.j:=fun e=>h e.symm
  simp [h,this]
theorem DA {v:Vt} (h:v.prs=aF v.j) (l:ag):jR v l=bv v.prs l:=by
 have hs:Srt v.prs:=by rw [h];exact qr _
 have hn:∀x,x∈v.prs→x.2≠[]:=fun x hx=>by rw [h] at hx;exact (dy hx).1
 have ha:bm [] v.prs=v.prs:=by
  have:=lp v.prs [] hs hn (fun x hx=>by cases hx)
  simpa using this
 obtain⟨h1,h2⟩:=fC l v.prs hs
 unfold jR
 rw [ha,nI h2,h1]
theorem qs (l:ag):cd l≠16:=by
 have key:∀(l:ag) (seen:List Int),gE seen l≠16:=by
  intro l
  induction l with
  | nil=>intro _;simp [gE]
  | cons p l ih =>
   intro seen
   simp only [gE]
   split
   ·decide
   ·split
    ·decide
    ·exact ih _
 unfold cd
 split
 ·decide
 ·split
  ·exact key l []
  ·split<;>decide
theorem me (j:Jn) (e:Int) (h:e≠16):bg j e=⟨vt0,0,e⟩:=by unfold bg;rw [if_neg h]
theorem yY (v:Vt) (l:ag) (budget:Int):vY v l budget=rputM v l budget:=by
 unfold vY rputM
 rw [Dz]
 by_cases hg:jQ v=false
 ·rw [if_pos hg,if_pos hg,me v.j 18 (by decide)]
 ·rw [if_neg hg,if_neg hg]
  obtain⟨hgj,hpr⟩:=l9 hg
  by_cases ha:cd l=0
  ·have hna:¬cd l≠0:=fun h=>h ha
   rw [if_neg hna,if_neg hna,DA hpr]
   have hX:rQ v l (bv v.prs l) budget=cj v l budget:=by
    unfold rQ cj
    rw [kW,cC]
   rw [hX,me v.j 12 (by decide)]
   split
   ·rfl
   ·generalize cj v l budget=X
    unfold gx
    by_cases he:X.err=0
    ·have hne:¬X.err≠0:=fun h=>h he
     rw [if_pos he,if_neg hne,gy]
    ·rw [if_neg he,if_pos he]
  ·rw [if_pos ha,if_pos ha,me _ _ (qs l)]
theorem AG (p:Int×List UInt8) (h1:0≤p.1∧p.1≤255) (h2:p.2.length<65536):aP (aM [p])=[p]:=by
 have hb:aM [p]=u8i p.1::UInt8.ofNat (p.2.length/256)::UInt8.ofNat p.2.length::p.2:=by simp [aM]
 have hl:(aM [p]).length=3+p.2.length:=by rw [hb];simp;omega
 have hla:aq (aM [p]) 1=p.2.length:=by
  rw [hb]
  show (UInt8.ofNat (p.2.length/256)).toNat*256+(UInt8.ofNat p.2.length).toNat=_
  rw [UInt8.toNat_ofNat',UInt8.toNat_ofNat']
  omega
 have hk:(((aM [p]).getD 0 0).toNat:Int)=p.1:=by
  rw [hb]
  show ((u8i p.1).toNat:Int)=_
  rw [oc,bW];omega
 have hn:=gS (aM [p]) (by rw [hb];simp) (by omega) (by omega)
 rw [hla,hk] at hn
 have hd:(aM [p]).drop (3+p.2.length)=[]:=List.drop_eq_nil_of_le (by omega)
 have ht:((aM [p]).drop 3).take p.2.length=p.2:=by rw [hb];simp
 rw [hd,ht,li] at hn
 unfold aP
 rw [hn];rfl
theorem nJ {s:ag} (hs:Srt s) (hn:∀x,x∈s→x.2≠[]∧0≤x.1∧x.1≤255∧x.2.length≤8192):bO (aI s)=s:=by
 rw [(i2 _).1]
 have key:∀(r o:ag),(∀x,x∈r→0≤x.1∧x.1≤255∧x.2.length≤8192)→(aI r).foldl (fun s b=>bm s (aP b)) o=bm o r:=by
  intro r
  induction r with
  | nil=>intro o _;rfl
  | cons p r ih =>
   intro o h
   have hp:=h p (by simp)
   show ((aM [p])::aI r).foldl _ o=_
   rw [List.foldl_cons,AG p ⟨hp.1,hp.2.1⟩ (by omega),ih _ (fun x hx=>h x (by simp [hx]))]
   rfl
 unfold dS
 rw [key s [] (fun x hx=>(hn x hx).2)]
 have:=lp s [] hs (fun x hx=>(hn x hx).1) (fun x hx=>by cases hx)
 simpa using this
theorem qt {j:Jn} (hm:MtOk j) (B:Int) (he:(aL j (aI (aF j)) B).err=0):aF (aL j (aI (aF j)) B).j=aF j:=by
 rw [← cC] at he ⊢
 rcases ta hm (aI (aF j)) B with ⟨_,_,_,h,_⟩|⟨h,_⟩|⟨h,_⟩
 ·show bO (aK _)=_
  rw [h]
  exact nJ (qr j) (fun x hx=>dy hx)
 ·rw [h] at he;cases he
 ·exact absurd he h
theorem rT {j:Jn} (left e:Int) (hm:e=0→j.torn=true→MtOk j):ne j left e=if e≠0 then bg j e else fj j left:=by
 unfold ne fj
 by_cases he:e=0
 ·have hne:¬e≠0:=fun h=>h he
  rw [if_neg hne]
  by_cases ht:j.torn=true
  ·rw [if_pos ⟨he,ht⟩,if_neg (by rw [ht];decide),cC,gy]
   have hs:=qt (hm he ht) left
   generalize aL j (aI (aF j)) left=X at *
   unfold gx
   by_cases hx:X.err=0
   ·have hnx:¬X.err≠0:=fun h=>h hx
    rw [if_pos hx,if_neg hnx,gy,hs hx]
   ·rw [if_neg hx,if_pos hx]
  ·rw [if_neg (fun h=>ht h.2),if_pos (by simpa using ht)]
   unfold gx
   rw [if_pos he,gy]
 ·rw [if_neg (fun h=>he h.1),if_pos he]
  unfold gx
  rw [if_neg he]
theorem AH {f:Fl} {B:Int} (h:(bx f B).err=0):MtOk (bx f B).j∧(bx f B).j.torn=false:=by
 unfold bx at h ⊢
 split at h
 ·rename_i h1;exact absurd h h1
 ·rename_i h1
  rw [if_neg h1]
  split at h
  ·rename_i h2
   exfalso
   unfold bq at h
   split at h
   ·cases h
   ·exact h2 h
  ·rename_i h2
   rw [if_neg h2]
   obtain⟨p,k,hv⟩:=VFl.of (show cB f=0 by simpa using h1)
   obtain⟨_,hm⟩:=kX hv (show (cv f B [.er 0,.er 1,.wr 0 0 (headM 1)]).err=0 by simpa using h2)
   exact⟨MtOk.of (by rw [hm]),by show (mountM _).j.torn=false;rw [hm]⟩
theorem DB (f:Fl) (budget:Int):qo f budget=ropenM f budget:=by
 unfold qo ropenM
 by_cases h11:(mountM f).err=11
 ·rw [if_pos h11,if_pos h11,iO]
  exact rT _ _ (fun h _=>(AH h).1)
 ·rw [if_neg h11,if_neg h11]
  exact rT _ _ (fun h _=>MtOk.of h)
end Go.Proofs.YtebndjnkmcahaaaGreatDoor
end

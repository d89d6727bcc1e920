/- joined of several texts; own work; no statement of the seat is proved but in the last -/
import Derived.Test.YtebndjnkmcahaaaGreatDoorLb
import Derived.Test.YtebndjnkmcahaaaGreatDoorRj
section
namespace Go.Proofs.YtebndjnkmcahaaaGreatDoor
set_option linter.unusedSimpArgs false
set_option linter.unusedVariables false
open Go Go.Abs
theorem gN (f:Fl) (budget:Int) (l:List JOp):bC f budget l=if (cv f budget l).err≠0 then bq (cv f budget l).f (cv f budget l).err else bC (cv f budget l).f (cv f budget l).left []:=by
 induction l generalizing f budget with
 | nil =>
  show bC f budget []=if (0:Int)≠0 then bq f 0 else bC f budget []
  rw [if_neg (by decide)]
 | cons o r ih =>
  rw [fO _ _ _ _ _ rfl]
  have hs:=bu f budget o r _ rfl
  generalize cM f budget o=G at *
  by_cases h16:G.err=16
  ·rw [if_pos (show G.err≠0 by omega)] at hs
   rw [hs,if_pos h16,if_pos (show G.err≠0 by omega)]
   unfold bq;rw [if_pos h16]
  ·rw [if_neg h16]
   by_cases h0:G.err=0
   ·rw [if_neg (fun e=>e h0)] at hs
    rw [hs,if_neg (fun e=>e h0)]
    exact ih _ _
   ·rw [if_pos h0] at hs
    rw [hs,if_pos h0,if_pos h0]
    unfold bq;rw [if_neg h16]
structure VFl (f:Fl) (p k:Nat):Prop where
 ps:f.ps=p
 p1:512≤p
 p2:p≤8192
 len:f.bs.length=p*k
 k1:2≤k
 k2:k≤8
theorem VFl.alter {f:Fl} {p k:Nat} (h:VFl f p k) (a m:Nat) (budget:Int) (ch:Nat→UInt8→UInt8):VFl (ao f a m budget ch).f p k :=
 ⟨h.ps,h.p1,h.p2,by simp [ao,eq,h.len],h.k1,h.k2⟩
theorem VFl.pg {f:Fl} {p k:Nat} (h:VFl f p k) {q:Nat} (hq:q<k):(pgM f q).length=p:=dY h.ps h.len hq
theorem VFl.area {f:Fl} {p k:Nat} (h:VFl f p k) {q t m:Nat} (hq:q<k) (ht:t+m≤p):eo f q t m=0:=by
 have hf:f=⟨p,f.bs⟩:=by rw [← h.ps]
 rw [hf]
 exact js (k:=k) h.p1 h.p2 (by have:=h.k1;omega) h.k2 h.len ⟨by omega,by omega,by omega,by omega⟩
theorem VFl.erase {f:Fl} {p k:Nat} (h:VFl f p k) {q:Nat} (hq:q<k) (budget:Int):df f q budget=ao f (q*p+0) p budget (fun _ _=>255):=by
 have ha:=h.area hq (t:=0) (m:=0) (by omega)
 rw [mC (by exact_mod_cast ha),h.ps,Int.toNat_natCast]
 have:((q:Int)*(p:Int)).toNat=q*p:=by (have e:(q:Int)*(p:Int)=((q*p:Nat):Int):=by simp);rw [e];omega
 rw [this];rfl
theorem VFl.prog {f:Fl} {p k:Nat} (h:VFl f p k) {q t:Nat} {s:List UInt8} (hq:q<k) (ht:t+s.length≤p) (budget:Int):cy f q t s budget=ao f (q*p+t) s.length budget (aC s):=by
 rw [lJ rfl (h.area hq ht),h.ps]
 have:((q:Int)*(p:Int)+(t:Int)).toNat=q*p+t:=by (have e:(q:Int)*(p:Int)=((q*p:Nat):Int):=by simp);rw [e];omega
 rw [this]
theorem VFl.exam {f:Fl} {p k:Nat} (h:VFl f p k):cB f=0:=by
 unfold cB
 rw [h.ps,h.len,lI p k h.p1 h.p2 (by have:=h.k1;omega) h.k2,if_neg (by decide),if_neg]
 have:p*2≤p*k:=Nat.mul_le_mul_left p h.k1
 omega
theorem VFl.of {f:Fl} (h:cB f=0):∃p k,VFl f p k:=by
 obtain⟨p,k,h1,h2,h3,h4,h5,h6⟩:=pc h
 exact⟨p,k,h1,h2,h3,h4,h5,h6⟩
theorem VFl.page {f:Fl} {p k:Nat} (h:VFl f p k) {q t m:Nat} (hq:q<k) (ht:t+m≤p) (budget:Int) (ch:Nat→UInt8→UInt8) {q':Nat} (hq':q'<k) (i:Nat) :
 (pgM (ao f (q*p+t) m budget ch).f q').getD i 0=if q'=q∧t≤i∧i<t+be m budget then ch (i-t) ((pgM f q').getD i 0) else (pgM f q').getD i 0 :=
 pC h.ps h.len hq ht q' hq' i
theorem nw {m:Nat} {budget:Int} (h:cR m budget=0):be m budget=m:=by
 unfold cR at h;unfold be
 split at h
 ·cases h
 ·rename_i hx;rw [if_neg hx]
theorem sX (m:Nat) (budget:Int):cR m budget=0∨cR m budget=16:=by unfold cR;split<;>simp
theorem iN {page:List UInt8} (h0:page.getD 0 0=255):aN page=0:=by
 have h1:(av page 1).toNat=255:=by rw [gv _ _ (by decide),h0];simp [av]
 have step:∀k,k<8→(av page k).toNat*256≤(av page (k+1)).toNat:=fun k hk=>by rw [gv _ _ hk];omega
 have h8:(av page 7).toNat*256≤(av page 8).toNat:=step 7 (by decide)
 have h7:(av page 6).toNat*256≤(av page 7).toNat:=step 6 (by decide)
 have h6:(av page 5).toNat*256≤(av page 6).toNat:=step 5 (by decide)
 have h5:(av page 4).toNat*256≤(av page 5).toNat:=step 4 (by decide)
 have h4:(av page 3).toNat*256≤(av page 4).toNat:=step 3 (by decide)
 have h3:(av page 2).toNat*256≤(av page 3).toNat:=step 2 (by decide)
 have h2:(av page 1).toNat*256≤(av page 2).toNat:=step 1 (by decide)
 unfold aN
 rw [if_pos (by omega)]
theorem wT {page:List UInt8} {g:UInt64} (h:∀i,16≤i→i<page.length→page.getD i 0=255) (h16:16≤page.length):ci page g=([],16)∧(page.drop 16).all (·==255)=true:=by
 refine⟨?_,mN fun i hi=>?_⟩
 ·rw [ke _ _ (by omega)];exact c7 _ _ _ (iM h)
 ·rw [jC];simp at hi;exact h _ (by omega) (by omega)
theorem kX {f:Fl} {p k:Nat} (hv:VFl f p k) {budget:Int} (h:(cv f budget [.er 0,.er 1,.wr 0 0 (headM 1)]).err=0) :
 VFl (cv f budget [.er 0,.er 1,.wr 0 0 (headM 1)]).f p k∧mountM (cv f budget [.er 0,.er 1,.wr 0 0 (headM 1)]).f=⟨⟨f.ps,(cv f budget [.er 0,.er 1,.wr 0 0 (headM 1)]).f.bs,0,1,16,false⟩,0⟩:=by
 have hk1:=hv.k1
 have hp1:=hv.p1
 have r1:cM f budget (.er 0)=_:=hv.erase (q:=0) (by omega) budget
 rw [bu _ _ _ _ _ r1] at h ⊢
 have hv1:=hv.alter (0*p+0) p budget (fun _ _=>255)
 have hg1:∀q',q'<k→∀i,_:=fun q' h i=>hv.page (q:=0) (t:=0) (m:=p) (by omega) (by omega) budget (fun _ _=>255) (q':=q') h i
 have hpw1:(ao f (0*p+0) p budget (fun _ _=>255)).err=cR p budget:=rfl
 generalize ao f (0*p+0) p budget (fun _ _=>255)=G1 at *
 by_cases hz1:cR p budget=0
 ·rw [hpw1,hz1,if_neg (by decide)] at h
  rw [hpw1,hz1,if_neg (by decide)]
  rw [nw hz1] at hg1
  have r2:cM G1.f G1.left (.er 1)=_:=hv1.erase (q:=1) (by omega) G1.left
  rw [bu _ _ _ _ _ r2] at h ⊢
  have hv2:=hv1.alter (1*p+0) p G1.left (fun _ _=>255)
  have hg2:∀q',q'<k→∀i,_:=fun q' h i=>hv1.page (q:=1) (t:=0) (m:=p) (by omega) (by omega) G1.left (fun _ _=>255) (q':=q') h i
  have hpw2:(ao G1.f (1*p+0) p G1.left (fun _ _=>255)).err=cR p G1.left:=rfl
  generalize ao G1.f (1*p+0) p G1.left (fun _ _=>255)=G2 at *
  by_cases hz2:cR p G1.left=0
  ·rw [hpw2,hz2,if_neg (by decide)] at h
   rw [hpw2,hz2,if_neg (by decide)]
   rw [nw hz2] at hg2
   have r3:cM G2.f G2.left (.wr 0 0 (headM 1))=_:=hv2.prog (q:=0) (t:=0) (s:=headM 1) (by omega) (by rw [bT];omega) G2.left
   rw [bu _ _ _ _ _ r3] at h ⊢
   have hv3:=hv2.alter (0*p+0) (headM 1).length G2.left (aC (headM 1))
   have hg3:∀q',q'<k→∀i,_:=fun q' h i=>hv2.page (q:=0) (t:=0) (m:=(headM 1).length) (by omega) (by rw [bT];omega) G2.left (aC (headM 1)) (q':=q') h i
   have hpw3:(ao G2.f (0*p+0) (headM 1).length G2.left (aC (headM 1))).err=cR (headM 1).length G2.left:=rfl
   generalize ao G2.f (0*p+0) (headM 1).length G2.left (aC (headM 1))=G3 at *
   by_cases hz3:cR (headM 1).length G2.left=0
   ·rw [hpw3,hz3,if_neg (by decide)]
    simp only [cv]
    rw [nw hz3,bT] at hg3
    have e0:∀i,i<p→(pgM G2.f 0).getD i 0=255:=fun i hi=>by
     rw [hg2 0 (by omega),if_neg (by omega),hg1 0 (by omega),if_pos (by omega)]
    have e1:(pgM G3.f 1).getD 0 0=255:=by
     rw [hg3 1 (by omega),if_neg (by omega),hg2 1 (by omega),if_pos (by omega)]
    have f0:(pgM G3.f 0).take 16=headM 1:=by
     have:=pz (x:=pgM G3.f 0) (y:=headM 1) (a:=0) (b:=0) (m:=16) (by rw [hv3.pg (by omega)];omega) (by rw [bT];omega) (fun i hi=>by
      rw [hg3 0 (by omega),if_pos (by omega),Nat.zero_add,e0 i (by omega)]
      exact sV _)
     simpa [List.take_of_length_le (Nat.le_of_eq (bT 1))] using this
    have g0:aN (pgM G3.f 0)=1:=yO f0 (by decide) (by decide)
    have g1:aN (pgM G3.f 1)=0:=iN e1
    have hm:=lN (q:=0) hv3.ps hv3.p1 hv3.p2 hv3.len hv3.k1 hv3.k2 (by decide) (by omega) (by show aN (pgM G3.f 1)≤_;omega) (fun e=>by omega)
    refine⟨hv3,?_⟩
    rw [hm,g0]
    obtain⟨hs1,hs2⟩:=wT (page:=pgM G3.f 0) (g:=UInt64.ofNat (1:Int).toNat) (fun i h1 h2=>by
     rw [hv3.pg (by omega)] at h2
     rw [hg3 0 (by omega),if_neg (by omega),e0 i h2]) (by rw [hv3.pg (by omega)];omega)
    unfold bZ
    rw [hs1]
    simp only [hs2,Bool.not_true]
    have:G3.f.ps=f.ps:=by rw [hv3.ps,hv.ps]
    rw [this]
    rfl
   ·rw [hpw3,if_pos hz3] at h
    exact absurd (hpw3 ▸ h) hz3
  ·rw [hpw2,if_pos hz2] at h
   exact absurd (hpw2 ▸ h) hz2
 ·rw [hpw1,if_pos hz1] at h
  exact absurd (hpw1 ▸ h) hz1
theorem iO (f:Fl) (budget:Int):fu f budget=bx f budget:=by
 unfold fu bx
 split
 ·rfl
 ·rename_i hx
  obtain⟨p,k,hv⟩:=VFl.of (show cB f=0 by omega)
  rw [gN]
  by_cases h:(cv f budget [.er 0,.er 1,.wr 0 0 (headM 1)]).err=0
  ·obtain⟨_,hm⟩:=kX hv h
   rw [if_neg (fun e=>e h),if_neg (fun e=>e h),dQ _ _ _ hm,if_neg (fun e=>e rfl),hm]
  ·rw [if_pos h,if_pos h]
theorem iP (m:Nat):cR m (-1)=0∧be m (-1)=m∧cx m (-1) = -1:=by
 unfold cR be cx
 rw [if_neg (by omega),if_neg (by omega),if_neg (by omega),if_neg (by omega)]
 exact⟨rfl,rfl,rfl⟩
theorem wU {f:Fl} {p k:Nat} (hv:VFl f p k):(cv f (-1) [.er 0,.er 1,.wr 0 0 (headM 1)]).err=0∧(cv f (-1) [.er 0,.er 1,.wr 0 0 (headM 1)]).left = -1:=by
 have hk1:=hv.k1
 have hp1:=hv.p1
 have r1:cM f (-1) (.er 0)=_:=hv.erase (q:=0) (by omega) (-1)
 rw [bu _ _ _ _ _ r1]
 have hv1:=hv.alter (0*p+0) p (-1) (fun _ _=>255)
 have a1:(ao f (0*p+0) p (-1) (fun _ _=>255)).err=0∧(ao f (0*p+0) p (-1) (fun _ _=>255)).left = -1:=⟨(iP p).1,(iP p).2.2⟩
 generalize ao f (0*p+0) p (-1) (fun _ _=>255)=G1 at *
 rw [if_neg (fun e=>e a1.1),a1.2]
 have r2:cM G1.f (-1) (.er 1)=_:=hv1.erase (q:=1) (by omega) (-1)
 rw [bu _ _ _ _ _ r2]
 have hv2:=hv1.alter (1*p+0) p (-1) (fun _ _=>255)
 have a2:(ao G1.f (1*p+0) p (-1) (fun _ _=>255)).err=0∧(ao G1.f (1*p+0) p (-1) (fun _ _=>255)).left = -1:=⟨(iP p).1,(iP p).2.2⟩
 generalize ao G1.f (1*p+0) p (-1) (fun _ _=>255)=G2 at *
 rw [if_neg (fun e=>e a2.1),a2.2]
 have r3:cM G2.f (-1) (.wr 0 0 (headM 1))=_:=hv2.prog (q:=0) (t:=0) (s:=headM 1) (by omega) (by rw [bT];omega) (-1)
 rw [bu _ _ _ _ _ r3]
 have a3:(ao G2.f (0*p+0) (headM 1).length (-1) (aC (headM 1))).err=0∧(ao G2.f (0*p+0) (headM 1).length (-1) (aC (headM 1))).left = -1:=⟨(iP (headM 1).length).1,(iP (headM 1).length).2.2⟩
 generalize ao G2.f (0*p+0) (headM 1).length (-1) (aC (headM 1))=G3 at *
 rw [if_neg (fun e=>e a3.1)]
 exact⟨rfl,a3.2⟩
theorem lO {f:Fl} {p k:Nat} (hv:VFl f p k):∃j,fu f (-1)=⟨j,-1,0⟩∧mountM (flOf j)=⟨j,0⟩∧VFl (flOf j) p k∧j.tail=16∧j.torn=false∧j.ps=p∧aK j=[]∧j.gen=1:=by
 obtain⟨h1,h2⟩:=wU hv
 obtain⟨hv',hm⟩:=kX hv h1
 have hps:(cv f (-1) [.er 0,.er 1,.wr 0 0 (headM 1)]).f.ps=f.ps:=by rw [hv'.ps,hv.ps]
 have hfl:flOf ⟨f.ps,(cv f (-1) [.er 0,.er 1,.wr 0 0 (headM 1)]).f.bs,0,1,16,false⟩=(cv f (-1) [.er 0,.er 1,.wr 0 0 (headM 1)]).f:=by
  rw [← hps];rfl
 refine⟨⟨f.ps,(cv f (-1) [.er 0,.er 1,.wr 0 0 (headM 1)]).f.bs,0,1,16,false⟩,?_,by rw [hfl];exact hm,by rw [hfl];exact hv',rfl,rfl,hv.ps,?_,rfl⟩
 ·unfold fu
  rw [hv.exam,if_neg (by decide),gN,if_neg (fun e=>e h1),dQ _ _ _ hm,if_neg (fun e=>e rfl),h2]
 ·have hgn:=kV (show mountM (flOf ⟨f.ps,(cv f (-1) [.er 0,.er 1,.wr 0 0 (headM 1)]).f.bs,0,1,16,false⟩)=_ by rw [hfl];exact hm)
  obtain⟨p',k',q,t,g,h⟩:=JAt.of hgn
  have ht:(16:Int)=t:=h.tail
  rw [h.recs]
  have hsc:=h.scan
  have htl:=iK (pgM (flOf ⟨f.ps,(cv f (-1) [.er 0,.er 1,.wr 0 0 (headM 1)]).f.bs,0,1,16,false⟩) q) g ((pgM (flOf ⟨f.ps,(cv f (-1) [.er 0,.er 1,.wr 0 0 (headM 1)]).f.bs,0,1,16,false⟩) q).length+1) 16
  have htl2:=jv (scanA (pgM (flOf ⟨f.ps,(cv f (-1) [.er 0,.er 1,.wr 0 0 (headM 1)]).f.bs,0,1,16,false⟩) q) g 16).1
  unfold scanA at hsc htl2 ⊢
  exact List.eq_nil_of_length_eq_zero (by omega)
end Go.Proofs.YtebndjnkmcahaaaGreatDoor
end
section
section
namespace Go.Proofs.YtebndjnkmcahaaaGreatDoor
set_option linter.unusedSimpArgs false
set_option linter.unusedVariables false
open Go Go.Abs Go.RowKit
theorem fP (a m:Int) (h0:0≤m) (hm:m<9223372036854775808):0≤cu .i64 a m∧cu .i64 a m≤m:=by
 obtain⟨m,rfl⟩:=Int.eq_ofNat_of_zero_le h0
 unfold cu
 have h1:(BitVec.ofInt IntKind.i64.bits a &&& BitVec.ofInt IntKind.i64.bits (m:Int)).toNat≤m:=by
  rw [BitVec.toNat_and]
  refine Nat.le_trans Nat.and_le_right ?_
  simp [IntKind.bits]
  omega
 rw [ab (by omega) (by omega)]
 omega
theorem u8w (z:Int):((UInt8.ofNat (IntKind.u8.wrap z).toNat).toNat:Int)=IntKind.u8.wrap z:=by
 rw [bW]
 simp
 omega
theorem EM {f:Fl} {budget:Int} (l:List JOp) (hB:i64 budget) (hb:f.bs.length<1000000000) (hl:∀o,o∈l→qJ o):(bC f budget l).j.bs.length≤f.bs.length:=by
 induction l generalizing f budget with
 | nil =>
  rw [dQ _ _ _ rfl]
  split
  ·simp [jn0]
  ·rename_i h
   obtain⟨p,k,q,-,-,-,-,-,-,-,-,-,-,e8⟩:=ib (show (mountM f).err=0 by omega)
   rw [e8];exact Nat.le_refl _
 | cons o r ih =>
  rw [fO _ _ _ _ _ rfl]
  have hr:=eO (f:=f) (budget:=budget) o hB hb (hl o (by simp))
  split
  ·exact hr.2
  ·split
   ·simp [jn0]
   ·exact Nat.le_trans (ih hr.1 (by omega) (fun o ho=>hl o (by simp [ho]))) hr.2
theorem wV (j:Jn):lZ j j=true:=(At j j).2 rfl
def MtOk (j:Jn):Prop:=mountM (flOf j)=⟨j,0⟩
theorem MtOk.gen {j:Jn} (h:MtOk j):aE j=true:=kV h
theorem MtOk.vfl {j:Jn} (h:MtOk j):∃p k,VFl (flOf j) p k:=by
 obtain⟨p,k,q,e1,e2,e3,e4,e5,e6,-⟩:=bF h.gen
 exact⟨p,k,e1,e2,e3,e4,e5,e6⟩
theorem MtOk.len {j:Jn} (h:MtOk j):1≤j.bs.length∧j.bs.length<1000000:=by
 obtain⟨p,k,hv⟩:=h.vfl
 have h1:j.bs.length=p*k:=hv.len
 have h2:p*k≤8192*8:=Nat.mul_le_mul hv.p2 hv.k2
 have h3:512*2≤p*k:=Nat.mul_le_mul hv.p1 hv.k1
 omega
theorem pD {f:Fl} (h:(mountM f).err=0):flOf (mountM f).j=f:=by
 obtain⟨p,k,q,-,-,-,-,-,-,-,-,-,-,e8⟩:=ib h
 rw [e8];rfl
theorem MtOk.of {f:Fl} (h:(mountM f).err=0):MtOk (mountM f).j:=by
 unfold MtOk
 rw [pD h]
 cases hm:mountM f with|mk j e=>rw [hm] at h;simp only at h;rw [h]
theorem uX {f:Fl} {budget:Int} (l:List JOp) (hB:i64 budget) (hb:f.bs.length<1000000000) (hl:∀o,o∈l→qJ o):(cv f budget l).f.bs.length≤f.bs.length:=by
 induction l generalizing f budget with
 | nil=>exact Nat.le_refl _
 | cons o r ih =>
  rw [bu _ _ _ _ _ rfl]
  have hr:=eO (f:=f) (budget:=budget) o hB hb (hl o (by simp))
  split
  ·exact hr.2
  ·exact Nat.le_trans (ih hr.1 (by omega) (fun o ho=>hl o (by simp [ho]))) hr.2
theorem jD (f:Fl) (e:Int):(bq f e).j.bs.length≤f.bs.length:=by
 unfold bq;split<;>simp [jn0]
theorem wW (page:Int) (g:UInt64):∀(l:List (List UInt8)) (t:Nat),(∀b,b∈l→b.length<1000000)→∀o,o∈wrsM page g t l→qJ o
 | [],_,_,o,ho=>by simp [wrsM] at ho
 | b::l,t,h,o,ho=>by
  simp only [wrsM,List.mem_cons] at ho
  rcases ho with rfl|ho
  ·show (aY g b).length<_
   rw [bp];have:=h b (by simp);omega
  ·exact wW page g l _ (fun b hb=>h b (by simp [hb])) o ho
theorem cT (j:Jn) (l:List (List UInt8)) (budget:Int) (hB:i64 budget) (hb:j.bs.length<1000000000) (hl:∀b,b∈l→b.length<1000000):(aL j l budget).j.bs.length≤j.bs.length:=by
 unfold aL
 split
 ·simp [jn0]
 split
 ·simp [jn0]
 split
 ·simp [jn0]
 split
 ·simp [jn0]
 have hs:=uX (f:=flOf j) (budget:=budget) (fw j l) hB hb (fun o ho=>by
  unfold fw at ho
  simp only [List.mem_cons,List.mem_append,List.not_mem_nil,or_false] at ho
  rcases ho with rfl|ho|rfl
  ·trivial
  ·exact wW _ _ _ _ hl o ho
  ·show (headM _).length<_;rw [bT];decide)
 unfold iV
 split
 ·exact Nat.le_trans (jD _ _) hs
 ·exact hs
theorem jE (j:Jn) (b:List UInt8) (budget:Int) (hB:i64 budget) (hb:j.bs.length<1000000000) (hl:b.length<1000000):(cU j b budget).j.bs.length≤j.bs.length:=by
 have hp:=(eO (f:=flOf j) (budget:=budget) (.wr j.page j.tail (aY (UInt64.ofNat j.gen.toNat) b)) hB hb (by show (aY _ _).length<_;rw [bp];omega)).2
 have hp:(cy (flOf j) j.page j.tail (aY (UInt64.ofNat j.gen.toNat) b) budget).f.bs.length≤j.bs.length:=hp
 unfold cU
 split
 ·simp [jn0]
 split
 ·simp [jn0]
 split
 ·simp [jn0]
 split
 ·simp [jn0]
 split
 ·exact Nat.le_trans (jD _ _) hp
 ·exact hp
end Go.Proofs.YtebndjnkmcahaaaGreatDoor
end
section
namespace Go.Proofs.YtebndjnkmcahaaaGreatDoor
set_option linter.unusedSimpArgs false
set_option linter.unusedVariables false
open Go Go.Abs Go.RowKit
theorem sY {ch ch':Nat→UInt8→UInt8} (bs:List UInt8) (a:Nat):∀n,(∀i,i<n→ch i=ch' i)→cL ch bs a n=cL ch' bs a n
 | 0,_=>rfl
 | n+1,h=>by simp only [cL];rw [sY bs a n fun i hi=>h i (by omega),h n (by omega)]
theorem uY (ch:Nat→UInt8→UInt8) (bs:List UInt8) (a m:Nat):∀r,cL ch bs a (m+r)=cL (fun i=>ch (m+i)) (cL ch bs a m) (a+m) r
 | 0=>rfl
 | r+1=>by
  rw [← Nat.add_assoc]
  simp only [cL]
  rw [uY ch bs a m r,Nat.add_assoc]
theorem B7 (x y:List UInt8) (i:Nat) (h:i<x.length):aC (x++y) i=aC x i:=by
 funext z;unfold aC;rw [dj,if_pos h]
theorem B8 (x y:List UInt8) (i:Nat):aC (x++y) (x.length+i)=aC y i:=by
 funext z;unfold aC;rw [dj,if_neg (by omega),Nat.add_sub_cancel_left]
theorem uZ (f:Fl) (a:Nat) (x y:List UInt8) (B:Int) :
 ao f a (x++y).length B (aC (x++y)) =
  if (ao f a x.length B (aC x)).err≠0 then ao f a x.length B (aC x)
  else ao (ao f a x.length B (aC x)).f (a+x.length) y.length (ao f a x.length B (aC x)).left (aC y):=by
 have e1:∀r,r≤x.length→cL (aC (x++y)) f.bs a r=cL (aC x) f.bs a r:=fun r hr=>sY _ _ r fun i hi=>B7 x y i (by omega)
 have e2:∀r,cL (aC (x++y)) f.bs a (x.length+r)=cL (aC y) (cL (aC x) f.bs a x.length) (a+x.length) r:=fun r=>by
  rw [uY,e1 _ (Nat.le_refl _)]
  exact sY _ _ r fun i _=>B8 x y i
 have hl:(x++y).length=x.length+y.length:=List.length_append
 by_cases h1:0≤B∧B<x.length
 ·have p1:cR x.length B=16:=by unfold cR;rw [if_pos h1]
  have:(ao f a x.length B (aC x)).err≠0:=by show cR _ _≠0;rw [p1];decide
  rw [if_pos this]
  have h2:0≤B∧B<((x++y).length:Nat):=by rw [hl];omega
  unfold ao be cx cR
  rw [if_pos h1,if_pos h1,if_pos h1,if_pos h2,if_pos h2,if_pos h2,e1 _ (by omega)]
 ·have p1:cR x.length B=0:=by unfold cR;rw [if_neg h1]
  have:¬(ao f a x.length B (aC x)).err≠0:=by show ¬cR _ _≠0;rw [p1];decide
  rw [if_neg this]
  have r1:be x.length B=x.length:=nw p1
  show (⟨⟨f.ps,cL (aC (x++y)) f.bs a (be (x++y).length B)⟩,cx (x++y).length B,cR (x++y).length B⟩:FR) =
   ⟨⟨f.ps,cL (aC y) (cL (aC x) f.bs a (be x.length B)) (a+x.length) (be y.length (cx x.length B))⟩,cx y.length (cx x.length B),cR y.length (cx x.length B)⟩
  rw [r1,←e2]
  rw [hl]
  by_cases h0:0≤B
  ·have l1:cx x.length B=B-x.length:=by unfold cx;rw [if_neg h1,if_pos h0]
   rw [l1]
   unfold be cx cR
   by_cases h2:B<((x.length+y.length:Nat):Int)
   ·have c1:0≤B∧B<((x.length+y.length:Nat):Int):=⟨h0,h2⟩
    have c2:0≤B-x.length∧B-x.length<(y.length:Int):=by omega
    simp only [if_pos c1,if_pos c2]
    rw [show x.length+(B-(x.length:Int)).toNat=B.toNat by omega]
   ·have c1:¬(0≤B∧B<((x.length+y.length:Nat):Int)):=fun e=>h2 e.2
    have c2:¬(0≤B-x.length∧B-x.length<(y.length:Int)):=by omega
    simp only [if_neg c1,if_neg c2,if_pos h0,if_pos (show 0≤B-x.length by omega)]
    rw [show B-((x.length+y.length:Nat):Int)=B-x.length-y.length by omega]
  ·have l1:cx x.length B=B:=by unfold cx;rw [if_neg h1,if_neg h0]
   rw [l1]
   unfold be cx cR
   have c1:¬(0≤B∧B<((x.length+y.length:Nat):Int)):=fun e=>h0 e.1
   have c2:¬(0≤B∧B<(y.length:Int)):=fun e=>h0 e.1
   simp only [if_neg c1,if_neg c2,if_neg h0]
theorem EN (f:Fl) (a:Nat) (B:Int) (ch:Nat→UInt8→UInt8):ao f a 0 B ch=⟨f,B,0⟩:=by
 have c:¬(0≤B∧B<((0:Nat):Int)):=by omega
 unfold ao be cx cR
 simp only [if_neg c,cL]
 by_cases h:0≤B<;>simp [h]
theorem yj {p k q:Nat} (hq:q<k) (g:UInt64) (rest:List JOp):∀(l:List (List UInt8)) (t:Nat) (f:Fl) (B:Int),VFl f p k→t+aR l≤p →
 cv f B (wrsM (q:Int) g t l++rest)=cv f B (.wr (q:Int) (t:Int) (rsM g l)::rest)
 | [],t,f,B,hv,ht=>by
  have r1:cM f B (.wr (q:Int) (t:Int) (rsM g []))=⟨f,B,0⟩:=by
   show cy f q t [] B=_
   rw [hv.prog hq (by simpa [aR] using ht)]
   exact EN _ _ _ _
  rw [bu _ _ _ _ _ r1,if_neg (by simp)]
  rfl
 | b::l,t,f,B,hv,ht=>by
  simp only [aR] at ht
  have hl:=bp g b
  have hrs:rsM g (b::l)=aY g b++rsM g l:=by simp [rsM]
  have hrl:=ob g l
  have r1:cM f B (.wr (q:Int) (t:Int) (aY g b))=ao f (q*p+t) (aY g b).length B (aC (aY g b)):=hv.prog hq (by omega) B
  have r2:cM f B (.wr (q:Int) (t:Int) (rsM g (b::l)))=ao f (q*p+t) (aY g b++rsM g l).length B (aC (aY g b++rsM g l)):=by
   rw [hrs];exact hv.prog hq (by simp;omega) B
  have hv1:=hv.alter (q*p+t) (aY g b).length B (aC (aY g b))
  simp only [wrsM,List.cons_append]
  rw [bu _ _ _ _ _ r1,bu _ _ _ _ _ r2,uZ]
  generalize ao f (q*p+t) (aY g b).length B (aC (aY g b))=G at *
  by_cases he:G.err≠0
  ·rw [if_pos he,if_pos he,if_pos he]
  ·rw [if_neg he,if_neg he,yj hq g rest l (t+10+b.length) G.f G.left hv1 (by omega)]
   have r3:cM G.f G.left (.wr (q:Int) ((t+10+b.length:Nat):Int) (rsM g l))=ao G.f (q*p+t+(aY g b).length) (rsM g l).length G.left (aC (rsM g l)):=by
    rw [hl,show q*p+t+(b.length+10)=q*p+(t+10+b.length) by omega]
    exact hv1.prog hq (by omega) _
   rw [bu _ _ _ _ _ r3]
structure Put (page:List UInt8) (a:Nat) (s:List UInt8):Prop where
 fits:a+s.length≤page.length
 get:∀i,i<s.length→page.getD (a+i) 0=s.getD i 0
theorem Put.cut {page s:List UInt8} {a:Nat} (h:Put page a s) {c m:Nat} (hm:c+m≤s.length):(page.drop (a+c)).take m=(s.drop c).take m:=by
 have:=h.fits
 refine pz (by omega) (by omega) fun i hi=>?_
 rw [show a+c+i=a+(c+i) by omega,h.get _ (by omega)]
theorem Put.left {page x y:List UInt8} {a:Nat} (h:Put page a (x++y)):Put page a x:=by
 have:=h.fits
 simp at this
 exact⟨by omega,fun i hi=>by rw [h.get i (by simp;omega),dj,if_pos hi]⟩
theorem Put.right {page x y:List UInt8} {a:Nat} (h:Put page a (x++y)):Put page (a+x.length) y:=by
 have:=h.fits
 simp at this
 exact⟨by omega,fun i hi=>by rw [Nat.add_assoc,h.get _ (by simp;omega),dj,if_neg (by omega),Nat.add_sub_cancel_left]⟩
theorem Put.pay {page b:List UInt8} {a:Nat} {g:UInt64} (h:Put page a (aY g b)) (h1:1≤b.length) (h2:b.length≤256):bG page g a=b:=by
 have hf:=h.fits
 rw [bp] at hf
 have hn:aq page a=b.length:=by
  unfold aq
  have e0:=h.get 0 (by rw [bp];omega)
  have e1:=h.get 1 (by rw [bp];omega)
  rw [Nat.add_zero] at e0
  rw [e0,e1,pA,pB]
  exact mO _ h2
 have e1:(page.drop (a+2)).take b.length=b:=by rw [h.cut (by rw [bp];omega),sW]
 rw [tE hn (by omega) h1 h2 (by rw [e1,show a+2+b.length=a+(2+b.length) by omega,h.cut (by rw [bp];omega),yi]),e1]
theorem u3 {page:List UInt8} {g:UInt64}:∀(l:List (List UInt8)) (a:Nat),Put page a (rsM g l)→cO l=true→(∀i,a+aR l≤i→i<page.length→page.getD i 0=255)→scanA page g a=(l,a+aR l)
 | [],a,_,_,he=>c7 _ _ _ (iM he)
 | b::l,a,h,hs,he=>by
  have hrs:rsM g (b::l)=aY g b++rsM g l:=by simp [rsM]
  rw [hrs] at h
  simp only [cO,List.all_cons,Bool.and_eq_true,decide_eq_true_eq] at hs
  have hp:=h.left.pay hs.1.1 hs.1.2
  have hne:bG page g a≠[]:=by rw [hp];intro e;rw [e] at hs;simp at hs
  rw [fg _ _ _ hne,hp]
  have hr:=h.right
  rw [bp,show a+(b.length+10)=a+10+b.length by omega] at hr
  rw [u3 l (a+10+b.length) hr hs.2 (fun i hi=>he i (by simp only [aR];omega))]
  simp only [aR]
  rw [show a+10+b.length+aR l=a+(10+b.length+aR l) by omega]
theorem pE (w:UInt64) (r:List UInt64):((az (eH w 1::r) 1).getD 0 0).toNat<128:=by
 rw [yL,m5 _ _ _ (by decide)]
 unfold eH
 have:=w.toNat_lt
 have h1:(UInt64.ofNat (w.toNat/2^1)).toNat=w.toNat/2:=by rw [UInt64.toNat_ofNat'];omega
 rw [h1]
 have h2:(UInt64.ofNat (w.toNat/2/2^(56-8*0))).toNat=w.toNat/2/2^56:=by rw [UInt64.toNat_ofNat'];omega
 rw [UInt64.toNat_toUInt8,h2]
 omega
theorem zP (g:UInt64) (b:List UInt8):((mZ g b).getD 0 0).toNat<128:=pE _ []
theorem HK (g:UInt64):((headM g).getD 8 0).toNat<128:=by
 unfold headM
 rw [yM,dj,au,if_neg (by decide)]
 have:=pE (cm 7 0 (az [g] 1)) []
 rw [yL] at this
 exact this
theorem JC {x y:List UInt8} {m:Nat} (h:x.take m=y) (i:Nat) (hi:i<m):y.getD i 0=x.getD i 0:=by
 subst h;simp [List.getD_eq_getElem?_getD,List.getElem?_take,hi]
end Go.Proofs.YtebndjnkmcahaaaGreatDoor
end
end

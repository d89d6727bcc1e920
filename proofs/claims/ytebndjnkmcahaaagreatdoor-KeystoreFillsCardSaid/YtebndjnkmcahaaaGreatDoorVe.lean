/- joined of several texts; own work; no statement of the seat is proved but in the last -/
import Derived.Test.YtebndjnkmcahaaaGreatDoorVc
import Derived.Test.YtebndjnkmcahaaaGreatDoorLe
section
namespace Go.Proofs.YtebndjnkmcahaaaGreatDoor
set_option linter.unusedSimpArgs false
set_option linter.unusedVariables false
open Go Go.Abs Go.RowKit
theorem qh:∀(f:Nat) (b:List UInt8) (l:ag),dx f b=some l→3*l.length≤b.length∧szM l≤b.length
 | 0,b,l,h=>by simp [dx] at h;subst h;simp [szM]
 | f+1,b,l,h=>by
  simp only [dx] at h
  split at h
  ·cases h;simp [szM]
  ·split at h
   ·cases h
   ·split at h
    ·cases h
    ·split at h
     ·rename_i l' hl'
      have ih:=qh f _ l' hl'
      cases h
      simp only [List.length_cons,szM,List.length_drop,List.length_take] at ih ⊢
      omega
     ·cases h
theorem iX (b:List UInt8):(aP b).length≤b.length:=by
 unfold aP cw
 cases h:dx b.length b with
 | none=>simp
 | some l=>have:=qh _ _ _ h;simp;omega
theorem rK (old:ag):∀l:ag,(bv old l).length≤old.length+l.length:=by
 intro l
 unfold bv
 induction l generalizing old with
 | nil=>simp
 | cons p l ih =>
  rw [List.foldl_cons]
  have h1:=ih (dl p (decide (p.2.length=0)) old)
  have h2:=na p (decide (p.2.length=0)) old
  simp only [List.length_cons]
  omega
def bO (l:List (List UInt8)):ag:=l.foldl (fun o b=>bv o (aP b)) []
def aF (j:Jn):ag:=bO (aK j)
theorem nD (l:List (List UInt8)):(bO l).length≤aR l:=by
 have key:∀(l:List (List UInt8)) (o:ag),(l.foldl (fun o b=>bv o (aP b)) o).length≤o.length+aR l:=by
  intro l
  induction l with
  | nil=>intro o;simp
  | cons b l ih =>
   intro o
   rw [List.foldl_cons]
   have h1:=ih (bv o (aP b))
   have h2:=rK o (aP b)
   have h3:=iX b
   simp only [aR]
   omega
 have:=key l []
 unfold bO
 simpa using this
theorem iq (j:Jn):aR (aK j)≤8192∧∀b,b∈aK j→b.length≤8192:=by
 have key:aR (aK j)≤8192:=by
  unfold aK
  split
  ·rename_i h
   obtain⟨p,k,q,e1,e2,e3,e4,e5,e6,e7,e8,e9,e10,-⟩:=bF h
   rw [e10,Int.toNat_natCast]
   have hw:(pgM (flOf j) q).length=p:=dY (k:=k) e1 e4 (by omega)
   have h1:=fz (pgM (flOf j) q) (UInt64.ofNat j.gen.toNat) (by omega)
   have h2:=iK (pgM (flOf j) q) (UInt64.ofNat j.gen.toNat) (pgM (flOf j) q).length 16
   unfold ci at h1 ⊢
   omega
  ·simp [aR]
 refine⟨key,fun b hb=>?_⟩
 have:∀l:List (List UInt8),b∈l→b.length≤aR l:=by
  intro l
  induction l with
  | nil=>intro h;cases h
  | cons x l ih =>
   intro h
   simp only [aR]
   rcases List.mem_cons.1 h with rfl|h
   ·omega
   ·have:=ih h;omega
 have:=this _ hb
 omega
theorem tI (l:List (List UInt8)) (i:Nat) (h:i<l.length):bO (l.take (i+1))=bv (bO (l.take i)) (aP (l.getD i [])):=by
 unfold bO
 rw [List.take_succ_eq_append_getElem h,List.foldl_append]
 simp [List.getD_eq_getElem?_getD,h]
theorem l7 (l:List (List UInt8)) (i:Nat):aR (l.take i)≤aR l:=by
 conv=>rhs;rw [← List.take_append_drop i l,dR]
 omega
set_option maxHeartbeats 2000000 in
theorem ir (j:Jn) (n:Nat) (hn:j.bs.length=n) (hb:n<1000000000):FPure Tryz.prog 137 [.agg [.i j.ps,.p (.data 1 n (j.bs.map bt)),.i j.page,.i j.gen,.i j.tail,.b j.torn]] (.p (PL (aF j))):=by
 refine en Tryz.func137 Tryz.ntmps137 Tryz.results137 [0,1,2,3,4,5,6,7,13,24] ?_;intro c hP h0 hE kK
 simp only [go_sem,hP]
 refine aa kK (by exact xk j n hn hb) ?_
 obtain⟨ht,hbl⟩:=iq j
 have hrl:=jv (aK j)
 unfold aF at hE kK
 generalize aK j=l at *
 simp only [go_sem,hP]
 refine ay hE h0 [0,1,2,3,4,5,6,7,13,24] l.length (fun i=>⟨29,[(3,.p (PL (bO (l.take i)))),(4,.p (.data 1 l.length (l.map byP))),(5,.i i)],[],1⟩) [] (fun i=>i) ?_ ?_
 ·refine⟨rfl,?_,trivial,rfl,rfl,trivial,fun i h=>h⟩
  simp only [go_sem,PL]
  simp [bO,dE,cF]
 ·intro i hi
  rcases Nat.lt_or_ge i l.length with hin|hin
  ·have hc:((i:Int)<(l.length:Int)):=by omega
   have hst:=tI l i hin
   have hln:=nD (l.take i)
   have htl:=l7 l i
   have hel:(l.getD i []).length≤8192:=hbl _ (by rw [show l.getD i []=l[i]'hin from by simp [List.getD_eq_getElem?_getD,hin]];exact List.getElem_mem _)
   have hpl:=iX (l.getD i [])
   have hw:IntKind.i64.wrap ((i:Int)+1)=((i+1:Nat):Int):=by rw [ab (by omega) (by omega)];omega
   simp only [go_sem,hP,PL,dq,byP,hc,hw]
   refine⟨by omega,by omega,?_⟩
   refine aa kK (by exact Dp (l.getD i []) _ rfl (by omega)) ?_
   generalize bO (l.take i)=o at *
   simp only [go_sem,hP,PL,hw]
   have hnone:(cw (l.getD i [])).isSome=false→bv o (aP (l.getD i []))=o:=fun h=>by
    unfold aP
    cases hp:cw (l.getD i []) with
    | none=>rfl
    | some x=>rw [hp] at h;simp at h
   split
   ·rw [← PL,←PL]
    refine aa kK (by exact yS o (aP (l.getD i [])) (by omega)) ?_
    simp only [go_sem,hP,hw]
    refine⟨hin,aZ [] rfl ?_ ?_ rfl rfl (Nat.zero_le _)⟩
    ·simp only [go_sem,PL,hst]
    ·simp only [go_sem]
   ·rename_i h
    have h:=hnone (by simpa using h)
    refine⟨hin,aZ [] rfl ?_ ?_ rfl rfl (Nat.zero_le _)⟩
    ·simp only [go_sem,PL,hst,h]
    ·simp only [go_sem]
  ·obtain rfl:i=l.length:=by omega
   have hnc:¬((l.length:Int)<(l.length:Int)):=by omega
   simp only [go_sem,hP,PL,hnc]
   rw [List.take_of_length_le (Nat.le_refl _)]
   (try exact⟨rfl,rfl⟩)
set_option maxHeartbeats 2000000 in
theorem l8 (a b:ag) (ha:a.length<1000000000):FPure Tryz.prog 77 [.p (PL a),.p (PL b)] (.b (decide (a=b))):=by
 refine en Tryz.func77 Tryz.ntmps77 Tryz.results77 [0,1,4,5,10,14,42] ?_;intro c hP h0 hE kK
 simp only [go_sem,hP,PL]
 by_cases hl:a.length=b.length
 ·rw [if_neg (by omega)]
  refine bo hE h0 [0,1,4,5,10,14,42] (α:={ i:Nat // i≤a.length∧a.take i=b.take i }) (fun i=>⟨43,[(0,.p (PL a)),(1,.p (PL b)),(5,.i i.1)],[],0⟩) (fun i=>a.length-i.1) ⟨0,Nat.zero_le _,by simp⟩ [] (fun i=>i) ?_ ?_
  ·refine⟨rfl,?_,trivial,rfl,rfl,trivial,fun i h=>h⟩
   simp only [go_sem,PL]
  ·rintro⟨i,hi,he⟩
   rcases Nat.lt_or_ge i a.length with hin|hin
   ·have hc:((i:Int)<(a.length:Int)):=by omega
    have hc2:((i:Int)<(b.length:Int)):=by omega
    have hat:=cW a i hin
    have hat2:=cW b i (by omega)
    have hta:=cX a i hin
    have htb:=cX b i (by omega)
    have hw:IntKind.i64.wrap ((i:Int)+1)=((i+1:Nat):Int):=by rw [ab (by omega) (by omega)];omega
    have hne:a.getD i (0,[])≠b.getD i (0,[])→a≠b:=fun h e=>by subst e;exact h rfl
    generalize a.getD i (0,[])=x at *
    generalize b.getD i (0,[])=y at *
    simp only [go_sem,hP,PL,hat,hat2,hc,hc2,hw,byP,dI,strOf,dc,fZ]
    refine⟨by omega,by omega,?_⟩
    by_cases h1:x.1=y.1
    ·rw [if_pos h1]
     refine⟨by omega,by omega,by kernel_rfl,?_⟩
     by_cases h2:x.2=y.2
     ·rw [if_neg (fun h=>h h2)]
      have hxy:x=y:=Prod.ext h1 h2
      refine⟨⟨i+1,by omega,by rw [hta,htb,he,hxy]⟩,by show a.length-(i+1)<a.length-i;omega,dp rfl ?_ ?_ rfl rfl (Nat.le_refl _)⟩
      ·simp only [go_sem,PL]
      ·simp only [go_sem]
     ·rw [if_pos h2]
      simp [hne (fun e=>h2 (by rw [e]))]
    ·rw [if_neg h1]
     exact⟨by kernel_rfl,by simp [hne (fun e=>h1 (by rw [e]))]⟩
   ·obtain rfl:i=a.length:=by omega
    have hnc:¬((a.length:Int)<(a.length:Int)):=by omega
    have hab:a=b:=by
     rw [List.take_of_length_le (Nat.le_refl _),List.take_of_length_le (by omega)] at he
     exact he
    simp only [go_sem,hP,PL,hnc]
    simp [hab]
 ·rw [if_pos (by omega)]
  have:a≠b:=fun e=>hl (by rw [e])
  simp [this]
structure Vt where
 j:Jn
 prs:ag
structure VR where
 v:Vt
 left:Int
 err:Int
def Kr (v:Vt):AV := .agg [.i v.j.ps,.p (.data 1 v.j.bs.length (v.j.bs.map bt)),.i v.j.page,.i v.j.gen,.i v.j.tail,.b v.j.torn,.p (PL v.prs)]
def xn (r:VR):AV := .tup [Kr r.v,.i r.left,.i r.err]
attribute [go_sem] Kr xn PL
def vt0:Vt:=⟨jn0,[]⟩
def bg (j:Jn) (e:Int):VR:=if e=16 then ⟨⟨⟨j.ps,j.bs,0,0,0,false⟩,[]⟩,0,16⟩ else ⟨vt0,0,e⟩
set_option maxHeartbeats 1000000 in
theorem eg (j:Jn) (n:Nat) (e:Int) (hn:j.bs.length=n):FPure Tryz.prog 136 [.agg [.i j.ps,.p (.data 1 n (j.bs.map bt)),.i j.page,.i j.gen,.i j.tail,.b j.torn],.i e] (xn (bg j e)):=by
 refine en Tryz.func136 Tryz.ntmps136 Tryz.results136 [0,1,2,4,5,6,8] ?_;intro c hP h0 hE kK
 obtain⟨R,hR⟩:∃R,bg j e=R:=⟨_,rfl⟩;rw [hR] at hE kK;(try rw [hR])
 unfold bg at hR
 simp only [go_sem,hP]
 split
 ·rename_i h
  rw [if_pos h] at hR
  subst hR
  exact⟨⟨rfl,⟨hn.symm,rfl⟩,rfl,rfl,rfl,rfl,rfl,rfl⟩,rfl,h⟩
 ·rename_i h
  rw [if_neg h] at hR
  subst hR
  exact⟨⟨rfl,⟨rfl,rfl⟩,rfl,rfl,rfl,rfl,rfl,rfl⟩,rfl,rfl⟩
set_option maxHeartbeats 1000000 in
theorem vN (a b:Vt) (n1 n2:Nat) (ha:a.prs.length<1000000000):FPure Tryz.prog 29 [.agg [.i a.j.ps,.p (.data 1 n1 (a.j.bs.map bt)),.i a.j.page,.i a.j.gen,.i a.j.tail,.b a.j.torn,.p (PL a.prs)],.agg [.i b.j.ps,.p (.data 1 n2 (b.j.bs.map bt)),.i b.j.page,.i b.j.gen,.i b.j.tail,.b b.j.torn,.p (PL b.prs)]] (.b (lZ a.j b.j&&decide (a.prs=b.prs))):=by
 refine en Tryz.func29 Tryz.ntmps29 Tryz.results29 [0,1,2,3,4] ?_;intro c hP h0 hE kK
 simp only [go_sem,hP]
 refine aa kK (by exact kF a.j b.j n1 n2) ?_
 generalize lZ a.j b.j=u at *
 simp only [go_sem,hP]
 cases u with
 | false=>simp
 | true =>
  rw [if_pos rfl]
  refine aa kK (by exact l8 a.prs b.prs ha) ?_
  simp only [go_sem,hP]
  rw [Bool.true_and]
def jQ (v:Vt):Bool:=aE v.j&&decide (v.prs=aF v.j)
set_option maxHeartbeats 1000000 in
theorem xo (v:Vt) (n:Nat) (hn:v.j.bs.length=n) (hb:n<1000000000) (hp:v.prs.length<1000000000):FPure Tryz.prog 141 [.agg [.i v.j.ps,.p (.data 1 n (v.j.bs.map bt)),.i v.j.page,.i v.j.gen,.i v.j.tail,.b v.j.torn,.p (PL v.prs)]] (.b (jQ v)):=by
 refine en Tryz.func141 Tryz.ntmps141 Tryz.results141 [0,1,2] ?_;intro c hP h0 hE kK
 simp only [go_sem,hP]
 refine aa kK (by exact gu v.j n hn hb) ?_
 have hg:jQ v=(aE v.j&&decide (v.prs=aF v.j)):=rfl
 generalize aE v.j=u at *
 simp only [go_sem,hP]
 cases u with
 | false=>exact⟨by kernel_rfl,by rw [hg];rfl⟩
 | true =>
  rw [if_pos rfl]
  refine aa kK (by exact ir v.j n hn hb) ?_
  simp only [go_sem,hP]
  refine aa kK (by exact l8 v.prs (aF v.j) hp) ?_
  simp only [go_sem,hP]
  exact⟨by kernel_rfl,by rw [hg,Bool.true_and]⟩
end Go.Proofs.YtebndjnkmcahaaaGreatDoor
end
section
namespace Go.Proofs.YtebndjnkmcahaaaGreatDoor
set_option linter.unusedSimpArgs false
set_option linter.unusedVariables false
open Go Go.Abs Go.RowKit
def fj (j:Jn) (left:Int):VR :=
 if j.torn=false then ⟨⟨j,aF j⟩,left,0⟩ else
 if (aL j (aI (aF j)) left).err≠0 then bg (aL j (aI (aF j)) left).j (aL j (aI (aF j)) left).err
 else ⟨⟨(aL j (aI (aF j)) left).j,aF j⟩,(aL j (aI (aF j)) left).left,0⟩
def ropenM (f:Fl) (budget:Int):VR :=
 if (mountM f).err=11 then
  (if (bx f budget).err≠0 then bg (bx f budget).j (bx f budget).err else fj (bx f budget).j (bx f budget).left)
 else if (mountM f).err≠0 then bg (mountM f).j (mountM f).err else fj (mountM f).j budget
theorem eE (j:Jn):(aF j).length≤8192:=by
 have:=nD (aK j)
 have:=(iq j).1
 unfold aF
 omega
theorem rL {p x:Int×List UInt8}:∀{d:Bool} {r:ag},x∈dl p d r→(x=p∧d=false)∨x∈r
 | d,[],h=>by
  simp only [dl] at h
  split at h
  ·cases h
  ·rename_i hd;simp at h;exact .inl ⟨h,by simpa using hd⟩
 | d,q::r,h=>by
  simp only [dl,List.mem_append] at h
  rcases h with (h|h)|h
  ·split at h
   ·rename_i hd;simp at h;exact .inl ⟨h,hd.1⟩
   ·cases h
  ·split at h
   ·simp at h;exact .inr (by simp [h])
   ·cases h
  ·rcases rL h with ⟨h1,h2⟩|h1
   ·exact .inl ⟨h1,by cases d<;>simp at h2 ⊢⟩
   ·exact .inr (by simp [h1])
theorem kn {x:Int×List UInt8}:∀{l old:ag},x∈bv old l→(x∈l∧x.2≠[])∨x∈old:=by
 intro l
 unfold bv
 induction l with
 | nil=>intro old h;exact .inr h
 | cons p l ih =>
  intro old h
  rw [List.foldl_cons] at h
  rcases ih h with ⟨h1,h2⟩|h1
  ·exact .inl ⟨by simp [h1],h2⟩
  ·rcases rL h1 with ⟨rfl,h2⟩|h2
   ·exact .inl ⟨by simp,fun e=>by simp [e] at h2⟩
   ·exact .inr h2
theorem vO {x:Int×List UInt8} {l:List (List UInt8)} (h:x∈bO l):x.2≠[]∧∃b,b∈l∧x∈aP b:=by
 have key:∀(l:List (List UInt8)) (o:ag),x∈l.foldl (fun o b=>bv o (aP b)) o→(x.2≠[]∧∃b,b∈l∧x∈aP b)∨x∈o:=by
  intro l
  induction l with
  | nil=>intro o h;exact .inr h
  | cons b l ih =>
   intro o h
   rw [List.foldl_cons] at h
   rcases ih _ h with ⟨h1,b',h2,h3⟩|h1
   ·exact .inl ⟨h1,b',by simp [h2],h3⟩
   ·rcases kn h1 with ⟨h2,h3⟩|h2
    ·exact .inl ⟨h3,b,by simp,h2⟩
    ·exact .inr h2
 rcases key l [] h with h|h
 ·exact h
 ·cases h
theorem qj {x:Int×List UInt8}:∀(f:Nat) (b:List UInt8) (l:ag),dx f b=some l→x∈l→0≤x.1∧x.1≤255∧x.2.length≤b.length
 | 0,b,l,h,hx=>by simp [dx] at h;subst h;cases hx
 | f+1,b,l,h,hx=>by
  simp only [dx] at h
  split at h
  ·cases h;cases hx
  ·split at h
   ·cases h
   ·split at h
    ·cases h
    ·split at h
     ·rename_i l' hl'
      cases h
      rcases List.mem_cons.1 hx with rfl|hx
      ·have:=(b.getD 0 0).toNat_lt
       simp only [List.length_take,List.length_drop]
       omega
      ·have:=qj f _ l' hl' hx
       simp only [List.length_drop] at this
       omega
     ·cases h
theorem iY {x:Int×List UInt8} {b:List UInt8} (h:x∈aP b):0≤x.1∧x.1≤255∧x.2.length≤b.length:=by
 unfold aP cw at h
 cases hp:dx b.length b with
 | none=>rw [hp] at h;cases h
 | some l=>rw [hp] at h;exact qj _ _ l hp h
theorem dy {j:Jn} {x:Int×List UInt8} (h:x∈aF j):x.2≠[]∧0≤x.1∧x.1≤255∧x.2.length≤8192:=by
 obtain⟨h1,b,hb,hx⟩:=vO h
 have h2:=iY hx
 have h3:=(iq j).2 b hb
 exact⟨h1,h2.1,h2.2.1,by omega⟩
theorem lj (l:ag) (M:Nat) (h:∀x,x∈l→x.2.length≤M):szM l≤l.length*(3+M):=by
 induction l with
 | nil=>simp [szM]
 | cons p l ih =>
  have h1:=ih (fun x hx=>h x (by simp [hx]))
  have h2:=h p (by simp)
  simp only [szM,List.length_cons]
  rw [Nat.succ_mul]
  omega
theorem nc (j:Jn):szM (aF j)<100000000:=by
 have h1:=lj (aF j) 8192 (fun x hx=>(dy hx).2.2.2)
 have h2:=Nat.mul_le_mul_right (3+8192) (eE j)
 omega
theorem oe {l:ag} (h:szM l<100000000) {b:List UInt8} (hb:b∈aI l):b.length<1000000000∧(∀M,(∀x,x∈l→x.2.length≤M)→b.length≤3+M):=by
 obtain⟨p,hp,rfl⟩:=List.mem_map.1 hb
 rw [bA]
 simp only [szM]
 have:∀l:ag,p∈l→3+p.2.length≤szM l:=by
  intro l
  induction l with
  | nil=>intro h;cases h
  | cons q l ih =>
   intro h
   simp only [szM]
   rcases List.mem_cons.1 h with rfl|h
   ·omega
   ·have:=ih h;omega
 have:=this l hp
 exact⟨by omega,fun M hM=>by have:=hM p hp;omega⟩
theorem iu (l:ag):(aI l).length=l.length:=by simp [aI]
theorem rM {f:Fl} {budget:Int} (l:List JOp) (hB:i64 budget) (hb:f.bs.length<1000000000) (hl:∀o,o∈l→qJ o):i64 (cv f budget l).left:=by
 induction l generalizing f budget with
 | nil=>exact hB
 | cons o r ih =>
  rw [bu _ _ _ _ _ rfl]
  have hr:=eO (f:=f) (budget:=budget) o hB hb (hl o (by simp))
  split
  ·exact hr.1
  ·exact ih hr.1 (by omega) (fun o ho=>hl o (by simp [ho]))
theorem yT:∀o,o∈[JOp.er 0,.er 1,.wr 0 0 (headM 1)]→qJ o:=by
 intro o ho
 simp only [List.mem_cons,List.not_mem_nil,or_false] at ho
 rcases ho with rfl|rfl|rfl
 ·trivial
 ·trivial
 ·show (headM 1).length<_;rw [bT];decide
theorem iZ (f:Fl) (budget:Int) (hB:i64 budget) (hb:f.bs.length<1000000000):i64 (bx f budget).left∧(bx f budget).j.bs.length≤f.bs.length:=by
 have h1:=rM (f:=f) _ hB hb yT
 have h2:=uX (f:=f) _ hB hb yT
 have z:i64 0:=by unfold i64;decide
 unfold bx
 split
 ·exact⟨z,by simp [jn0]⟩
 ·split
  ·refine⟨?_,Nat.le_trans (jD _ _) h2⟩
   unfold bq;split<;>exact z
  ·exact⟨h1,Nat.le_trans (fY _) h2⟩
set_option maxHeartbeats 4000000 in
theorem FF (ps:Int) (bs:List UInt8) (n:Nat) (budget:Int) (hn:bs.length=n) (hb:n<1000000000) (hB:i64 budget) :
 FPure Tryz.prog 78 [.agg [.i ps,.p (.data 1 n (bs.map bt))],.i budget] (xn (ropenM ⟨ps,bs⟩ budget)):=by
 refine en Tryz.func78 Tryz.ntmps78 Tryz.results78 [0,1,2,4,5,6,7,8,9,16,25,35,46] ?_;intro c hP h0 hE kK
 obtain⟨R,hR⟩:∃R,ropenM ⟨ps,bs⟩ budget=R:=⟨_,rfl⟩;rw [hR] at hE kK;(try rw [hR])
 unfold ropenM at hR
 simp only [go_sem,hP]
 refine aa kK (by exact p9 ps bs n hn hb) ?_
 have hml:(mountM ⟨ps,bs⟩).j.bs.length≤n:=by rw [← hn];exact fY ⟨ps,bs⟩
 generalize mountM ⟨ps,bs⟩=M at *
 simp only [go_sem,hP]
 by_cases h11:M.err=11
 ·rw [if_pos h11]
  rw [if_pos h11] at hR
  refine aa kK (by exact Av ps bs n budget hn hb hB) ?_
  obtain⟨hfl,hfb⟩:=iZ ⟨ps,bs⟩ budget hB (by show bs.length<_;omega)
  have hfb:(bx ⟨ps,bs⟩ budget).j.bs.length≤bs.length:=hfb
  generalize bx ⟨ps,bs⟩ budget=G at *
  simp only [go_sem,hP]
  by_cases hg:G.err=0
  ·rw [if_neg (fun h=>h hg)]
   rw [if_neg (fun h=>h hg)] at hR
   refine aa kK (by exact ir G.j _ rfl (by omega)) ?_
   have hsz:=nc G.j
   have hbd:=eE G.j
   have hmem:=fun x (hx:x∈aF G.j)=>(dy hx).2.2.2
   unfold fj at hR
   generalize hst:aF G.j=l at *
   simp only [go_sem,hP]
   by_cases htn:G.j.torn=true
   ·rw [if_pos htn]
    rw [if_neg (by rw [htn];decide)] at hR
    refine aa kK (by exact tH l (by omega)) ?_
    have hel:∀b,b∈aI l→b.length<1000000:=fun b hb=>by have:=(oe hsz hb).2 8192 hmem;omega
    have hxl:=cT G.j (aI l) G.left hfl (by omega) hel
    simp only [go_sem,hP]
    refine aa kK (by exact lg G.j _ (aI l) _ G.left rfl (by omega) (iu l) (by omega) hel hfl) ?_
    generalize aL G.j (aI l) G.left=X at *
    simp only [go_sem,hP]
    refine⟨by kernel_rfl,?_⟩
    by_cases hx:X.err=0
    ·rw [if_neg (fun h=>h hx)]
     rw [if_neg (fun h=>h hx)] at hR
     subst hR
     exact⟨⟨rfl,⟨rfl,rfl⟩,rfl,rfl,rfl,rfl,rfl,rfl⟩,rfl,rfl⟩
    ·rw [if_pos hx]
     rw [if_pos hx] at hR
     subst hR
     refine aa kK (by exact eg X.j _ X.err rfl) ?_
     generalize bg X.j X.err=Y at *
     simp only [go_sem,hP]
     (try exact⟨⟨rfl,⟨rfl,rfl⟩,rfl,rfl,rfl,rfl,rfl,rfl⟩,rfl,rfl⟩)
   ·rw [if_neg htn]
    rw [if_pos (by simpa using htn)] at hR
    subst hR
    exact⟨⟨rfl,⟨rfl,rfl⟩,rfl,rfl,rfl,rfl,rfl,rfl⟩,rfl,rfl⟩
  ·rw [if_pos hg]
   rw [if_pos hg] at hR
   subst hR
   refine aa kK (by exact eg G.j _ G.err rfl) ?_
   generalize bg G.j G.err=Y at *
   simp only [go_sem,hP]
   (try exact⟨⟨rfl,⟨rfl,rfl⟩,rfl,rfl,rfl,rfl,rfl,rfl⟩,rfl,rfl⟩)
 ·rw [if_neg h11]
  rw [if_neg h11] at hR
  by_cases hm:M.err=0
  ·rw [if_neg (fun h=>h hm)]
   rw [if_neg (fun h=>h hm)] at hR
   refine aa kK (by exact ir M.j _ rfl (by omega)) ?_
   have hsz:=nc M.j
   have hbd:=eE M.j
   have hmem:=fun x (hx:x∈aF M.j)=>(dy hx).2.2.2
   unfold fj at hR
   generalize hst:aF M.j=l at *
   simp only [go_sem,hP]
   by_cases htn:M.j.torn=true
   ·rw [if_pos htn]
    rw [if_neg (by rw [htn];decide)] at hR
    refine aa kK (by exact tH l (by omega)) ?_
    have hel:∀b,b∈aI l→b.length<1000000:=fun b hb=>by have:=(oe hsz hb).2 8192 hmem;omega
    have hxl:=cT M.j (aI l) budget hB (by omega) hel
    simp only [go_sem,hP]
    refine aa kK (by exact lg M.j _ (aI l) _ budget rfl (by omega) (iu l) (by omega) hel hB) ?_
    generalize aL M.j (aI l) budget=X at *
    simp only [go_sem,hP]
    refine⟨by kernel_rfl,?_⟩
    by_cases hx:X.err=0
    ·rw [if_neg (fun h=>h hx)]
     rw [if_neg (fun h=>h hx)] at hR
     subst hR
     exact⟨⟨rfl,⟨rfl,rfl⟩,rfl,rfl,rfl,rfl,rfl,rfl⟩,rfl,rfl⟩
    ·rw [if_pos hx]
     rw [if_pos hx] at hR
     subst hR
     refine aa kK (by exact eg X.j _ X.err rfl) ?_
     generalize bg X.j X.err=Y at *
     simp only [go_sem,hP]
     (try exact⟨⟨rfl,⟨rfl,rfl⟩,rfl,rfl,rfl,rfl,rfl,rfl⟩,rfl,rfl⟩)
   ·rw [if_neg htn]
    rw [if_pos (by simpa using htn)] at hR
    subst hR
    exact⟨⟨rfl,⟨rfl,rfl⟩,rfl,rfl,rfl,rfl,rfl,rfl⟩,rfl,rfl⟩
  ·rw [if_pos hm]
   rw [if_pos hm] at hR
   subst hR
   refine aa kK (by exact eg M.j _ M.err rfl) ?_
   generalize bg M.j M.err=Y at *
   simp only [go_sem,hP]
   (try exact⟨⟨rfl,⟨rfl,rfl⟩,rfl,rfl,rfl,rfl,rfl,rfl⟩,rfl,rfl⟩)
def vgetM (k:Int):ag→List UInt8
 | []=>[]
 | p::l=>if p.1=k then p.2 else vgetM k l
theorem vP (k:Int) (l:ag) (i:Nat) (h:i<l.length) (hno:∀x,x∈l.take i→x.1≠k) (he:(l.getD i (0,[])).1=k):vgetM k l=(l.getD i (0,[])).2:=by
 induction l generalizing i with
 | nil=>simp at h
 | cons p l ih =>
  cases i with
  | zero=>simp at he;simp [vgetM,he]
  | succ i =>
   have h0:p.1≠k:=hno p (by simp)
   simp only [vgetM,if_neg h0]
   exact ih i (by simpa using h) (fun x hx=>hno x (by simp [hx])) (by simpa using he)
theorem vQ (k:Int) (l:ag) (hno:∀x,x∈l→x.1≠k):vgetM k l=[]:=by
 induction l with
 | nil=>rfl
 | cons p l ih=>simp only [vgetM,if_neg (hno p (by simp))];exact ih (fun x hx=>hno x (by simp [hx]))
set_option maxHeartbeats 2000000 in
theorem qk (v:Vt) (n:Nat) (k:Int) (hp:v.prs.length<1000000000) (hl:∀x,x∈v.prs→x.2.length≤140737488355328):FPure Tryz.prog 54 [.agg [.i v.j.ps,.p (.data 1 n (v.j.bs.map bt)),.i v.j.page,.i v.j.gen,.i v.j.tail,.b v.j.torn,.p (PL v.prs)],.i k] (.p (.data 1 (vgetM k v.prs).length ((vgetM k v.prs).map bt))):=by
 refine en Tryz.func54 Tryz.ntmps54 Tryz.results54 [0,1,2,4,5,10,20] ?_;intro c hP h0 hE kK
 simp only [go_sem,hP]
 generalize hv:v.prs=l at *
 refine bo hE h0 [0,1,2,4,5,10,20] (α:={ i:Nat // i≤l.length∧∀x,x∈l.take i→x.1≠k }) (fun i=>⟨28,[(1,.i k),(2,.ptr 0 0),(5,.i i.1)],[(0,some ⟨37,[.i v.j.ps,.p (.data 1 n (v.j.bs.map bt)),.i v.j.page,.i v.j.gen,.i v.j.tail,.b v.j.torn,.p (PL l)]⟩)],1⟩) (fun i=>l.length-i.1) ⟨0,Nat.zero_le _,by simp⟩ [] (fun i=>i) ?_ ?_
 ·refine⟨rfl,?_,?_,rfl,rfl,trivial,fun i h=>h⟩
  ·simp only [go_sem]
  ·simp only [go_sem]
 ·rintro⟨i,hi,hno⟩
  rcases Nat.lt_or_ge i l.length with hin|hin
  ·have hc:((i:Int)<(l.length:Int)):=by omega
   have hat:=cW l i hin
   have hta:=cX l i hin
   have hmem:l.getD i (0,[])∈l:=by rw [show l.getD i (0,[])=l[i]'hin from by simp [List.getD_eq_getElem?_getD,hin]];exact List.getElem_mem _
   have hgl:=hl _ hmem
   have hw:IntKind.i64.wrap ((i:Int)+1)=((i+1:Nat):Int):=by rw [ab (by omega) (by omega)];omega
   have hgt:=vP k l i hin hno
   simp only [go_sem,hP,hat,hc,byP,hw,cI]
   refine⟨by omega,?_⟩
   by_cases he:(l.getD i (0,[])).1=k
   ·rw [if_pos he]
    have hgt:=hgt he
    rw [hgt]
    exact⟨by omega,⟨by omega,by omega⟩,Nat.le_refl _,rfl,by rw [List.take_of_length_le (Nat.le_refl _)]⟩
   ·rw [if_neg he]
    refine⟨⟨i+1,by omega,?_⟩,by show l.length-(i+1)<l.length-i;omega,dp rfl ?_ ?_ rfl rfl (Nat.le_refl _)⟩
    ·intro x hx
     rw [hta] at hx
     rcases List.mem_append.1 hx with hx|hx
     ·exact hno x hx
     ·simp at hx;rw [hx];exact he
    ·simp only [go_sem]
    ·simp only [go_sem]
  ·obtain rfl:i=l.length:=by omega
   have hnc:¬((l.length:Int)<(l.length:Int)):=by omega
   rw [List.take_of_length_le (Nat.le_refl _)] at hno
   simp only [go_sem,hP,hnc,vQ k l hno]
end Go.Proofs.YtebndjnkmcahaaaGreatDoor
end

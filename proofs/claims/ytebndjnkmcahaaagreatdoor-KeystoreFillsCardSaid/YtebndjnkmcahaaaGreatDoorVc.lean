/- joined of several texts; own work; no statement of the seat is proved but in the last -/
import Derived.Test.YtebndjnkmcahaaaGreatDoorPg
section
namespace Go.Proofs.YtebndjnkmcahaaaGreatDoor
set_option linter.unusedSimpArgs false
set_option linter.unusedVariables false
open Go Go.Abs Go.RowKit
def prC (p:Int×List UInt8):List PV:=[.v (.int .i64 p.1),byP p.2]
def gC (l:ag):List PV:=l.flatMap prC
def PL (l:ag):PV := .data 2 l.length (gC l)
theorem dE:gC []=[]:=rfl
theorem ef (p:Int×List UInt8) (l:ag):gC (p::l) = .v (.int .i64 p.1)::byP p.2::gC l:=rfl
theorem Di (l r:ag):gC (l++r)=gC l++gC r:=by simp [gC]
theorem vH:∀l:ag,(gC l).length=l.length*2
 | []=>rfl
 | p::l=>by rw [ef];simp [vH l];omega
theorem rH:∀(l:ag) (i:Nat),(gC l).drop (i*2)=gC (l.drop i)
 | [],i=>by simp [dE]
 | p::l,0=>by simp
 | p::l,i+1=>by
  rw [ef,show (i+1)*2=i*2+1+1 by omega]
  simp only [List.drop_succ_cons]
  exact rH l i
theorem cW (l:ag) (i:Nat) (h:i<l.length):(gC l).drop (i*2) = .v (.int .i64 (l.getD i (0,[])).1)::byP (l.getD i (0,[])).2::gC (l.drop (i+1)):=by
 rw [rH,List.drop_eq_getElem_cons h,ef]
 simp [List.getD_eq_getElem?_getD,h]
theorem AD (l:ag) (n:Nat):(gC l).take (n*2)=gC (l.take n):=by
 induction l generalizing n with
 | nil=>simp [dE]
 | cons p l ih =>
  cases n with
  | zero=>simp [dE]
  | succ n=>rw [show (n+1)*2=n*2+1+1 by omega,ef,List.take_succ_cons,List.take_succ_cons,ih,List.take_succ_cons,ef]
def szM:ag→Nat
 | []=>0
 | p::l=>3+p.2.length+szM l
theorem ey:∀l r,szM (l++r)=szM l+szM r
 | [],r=>by simp [szM]
 | p::l,r=>by simp only [List.cons_append,szM,ey l r];omega
theorem cX (l:ag) (i:Nat) (h:i<l.length):l.take (i+1)=l.take i++[l.getD i (0,[])]:=by
 rw [List.take_succ_eq_append_getElem h];simp [List.getD_eq_getElem?_getD,h]
theorem jO (l:ag) (i:Nat):szM (l.take i)≤szM l:=by
 conv=>rhs;rw [← List.take_append_drop i l,ey]
 omega
theorem jP:∀l:ag,3*l.length≤szM l
 | []=>by simp [szM]
 | p::l=>by have:=jP l;simp only [szM,List.length_cons];omega
set_option maxHeartbeats 1000000 in
theorem tF (l:ag) (hb:szM l<1000000000000):FPure Tryz.prog 101 [.p (PL l)] (.i (szM l)):=by
 refine en Tryz.func101 Tryz.ntmps101 Tryz.results101 [0,2,3,5,6,7,8,9] ?_;intro c hP h0 hE kK
 simp only [go_sem,hP,PL]
 have hge:=jP l
 refine ay hE h0 [0,2,3,5,6,7,8,9] l.length (fun i=>⟨20,[(3,.i (szM (l.take i))),(6,.p (PL l)),(7,.i l.length),(8,.i i)],[],0⟩) [] (fun i=>i) ?_ ?_
 ·refine⟨rfl,?_,trivial,rfl,rfl,trivial,fun i h=>h⟩
  simp only [go_sem,PL]
  simp [szM]
 ·intro i hi
  rcases Nat.lt_or_ge i l.length with hin|hin
  ·have hat:=cW l i hin
   have hc:((i:Int)<(l.length:Int)):=by omega
   have hts:=cX l i hin
   have hs:=jO l (i+1)
   rw [hts,ey] at hs
   simp only [szM] at hs
   simp only [go_sem,hP,PL,hat,hc,byP]
   (try go_unwrap)
   refine⟨by omega,hin,aZ [] rfl ?_ ?_ rfl rfl (Nat.le_refl _)⟩
   ·simp only [go_sem,hts,ey,szM]
    omega
   ·simp only [go_sem]
  ·obtain rfl:i=l.length:=by omega
   have hnc:¬((l.length:Int)<(l.length:Int)):=by omega
   simp only [go_sem,hP,PL,hnc]
   rw [List.take_of_length_le (Nat.le_refl _)]
set_option maxHeartbeats 1000000 in
theorem tG (l:ag) (hb:szM l<1000000000000):FPure Tryz.prog 142 [.p (PL l)] (.i (szM l)):=by
 refine en Tryz.func142 Tryz.ntmps142 Tryz.results142 [0,2,3,4,8] ?_;intro c hP h0 hE kK
 simp only [go_sem,hP,PL]
 have hge:=jP l
 refine ay hE h0 [0,2,3,4,8] l.length (fun i=>⟨21,[(0,.p (PL l)),(3,.i (szM (l.take i))),(4,.i i)],[],0⟩) [] (fun i=>i) ?_ ?_
 ·refine⟨rfl,?_,trivial,rfl,rfl,trivial,fun i h=>h⟩
  simp only [go_sem,PL]
  simp [szM]
 ·intro i hi
  rcases Nat.lt_or_ge i l.length with hin|hin
  ·have hat:=cW l i hin
   have hc:((i:Int)<(l.length:Int)):=by omega
   have hts:=cX l i hin
   have hs:=jO l (i+1)
   rw [hts,ey] at hs
   simp only [szM] at hs
   simp only [go_sem,hP,PL,hat,hc,byP]
   (try go_unwrap)
   refine⟨by omega,hin,aZ [] rfl ?_ ?_ rfl rfl (Nat.le_refl _)⟩
   ·simp only [go_sem,hts,ey,szM]
    omega
   ·simp only [go_sem]
  ·obtain rfl:i=l.length:=by omega
   have hnc:¬((l.length:Int)<(l.length:Int)):=by omega
   simp only [go_sem,hP,PL,hnc]
   rw [List.take_of_length_le (Nat.le_refl _)]
def u8i (z:Int):UInt8:=UInt8.ofNat (IntKind.u8.wrap z).toNat
theorem oc (z:Int):((u8i z).toNat:Int)=IntKind.u8.wrap z:=by
 unfold u8i;rw [bW];simp;omega
def aM:ag→List UInt8
 | []=>[]
 | p::l=>u8i p.1::UInt8.ofNat (p.2.length/256)::UInt8.ofNat p.2.length::(p.2++aM l)
theorem bA:∀l,(aM l).length=szM l
 | []=>rfl
 | p::l=>by simp only [aM,szM,List.length_cons,List.length_append,bA l];omega
theorem m7:∀l r,aM (l++r)=aM l++aM r
 | [],r=>rfl
 | p::l,r=>by simp [aM,m7 l r]
theorem hi8 (n:Nat) (h:n<1000000000000):IntKind.u8.wrap (bc .i64 (n:Int) 8)=((UInt8.ofNat (n/256)).toNat:Int):=by
 have e:bc .i64 (n:Int) 8=((n/256:Nat):Int):=by
  show Int.fdiv (n:Int) (2^(min 8 64))=_
  rw [Int.fdiv_eq_ediv_of_nonneg _ (by decide)]
  rfl
 rw [e,bW,UInt8.toNat_ofNat']
 omega
theorem lo8 (n:Nat):IntKind.u8.wrap (n:Int)=((UInt8.ofNat n).toNat:Int):=by
 rw [bW,UInt8.toNat_ofNat'];omega
set_option maxHeartbeats 1000000 in
theorem rI (l:ag) (hb:szM l<1000000000):FPure Tryz.prog 104 [.p (PL l)] (.p (.data 1 (szM l) ((aM l).map bt))):=by
 refine en Tryz.func104 Tryz.ntmps104 Tryz.results104 [0,2,3,5,6,7,8,9] ?_;intro c hP h0 hE kK
 simp only [go_sem,hP,PL]
 have hge:=jP l
 refine bE a7 ?_
 refine ay hE h0 [0,2,3,5,6,7,8,9] l.length (fun i=>⟨33,[(3,.sl 0 0 (aM (l.take i)).length 1),(6,.p (PL l)),(7,.i l.length),(8,.i i)],[(0,some ⟨a7,cb (aM (l.take i))⟩)],1⟩) [] (fun i=>i) ?_ ?_
 ·refine⟨rfl,?_,?_,rfl,rfl,trivial,fun i h=>h⟩
  ·simp only [go_sem,PL]
   simp [aM]
  ·simp only [go_sem]
   simp [aM,cb,ai]
 ·intro i hi
  rcases Nat.lt_or_ge i l.length with hin|hin
  ·have hat:=cW l i hin
   have hc:((i:Int)<(l.length:Int)):=by omega
   have hts:=cX l i hin
   have hs:=jO l (i+1)
   rw [hts,ey] at hs
   simp only [szM] at hs
   have hpl:=bA (l.take i)
   have h8:=hi8 (l.getD i (0,[])).2.length (by omega)
   have hl8:=lo8 (l.getD i (0,[])).2.length
   have hk8:=oc (l.getD i (0,[])).1
   simp only [go_sem,hP,PL,hat,hc,byP,h8,hl8,←hk8]
   have hcell:cb (aM (l.take i))++[.p (.v (.int .u8 ((u8i (l.getD i (0,[])).1).toNat:Int))),.p (.v (.int .u8 ((UInt8.ofNat ((l.getD i (0,[])).2.length/256)).toNat:Int))),.p (.v (.int .u8 ((UInt8.ofNat (l.getD i (0,[])).2.length).toNat:Int)))] ++
    List.map AV.p (List.map bt (l.getD i (0,[])).2)=cb (aM (l.take (i+1))):=by
    rw [hts,m7];simp [aM,cb,bt]
   have hcl:(aM (l.take i)).length+3+(l.getD i (0,[])).2.length=(aM (l.take (i+1))).length:=by
    rw [bA,bA,hts,ey];simp only [szM];omega
   rw [hcell,hcl]
   (try go_unwrap)
   refine⟨by omega,⟨by omega,by omega⟩,⟨by omega,by omega⟩,hin,aZ [4] rfl ?_ ?_ rfl rfl (Nat.le_refl _)⟩
   ·simp only [go_sem]
    omega
   ·simp only [go_sem]
    exact aj _ _ _ _
  ·obtain rfl:i=l.length:=by omega
   have hnc:¬((l.length:Int)<(l.length:Int)):=by omega
   simp only [go_sem,hP,PL,hnc]
   rw [List.take_of_length_le (Nat.le_refl _)]
   exact⟨Nat.le_refl _,bA l,by rw [List.take_of_length_le (Nat.le_refl _)]⟩
set_option maxHeartbeats 1000000 in
theorem rJ (l:ag) (hb:szM l<1000000000):FPure Tryz.prog 146 [.p (PL l)] (.p (.data 1 (szM l) ((aM l).map bt))):=by
 refine en Tryz.func146 Tryz.ntmps146 Tryz.results146 [0,2,3,4,8] ?_;intro c hP h0 hE kK
 simp only [go_sem,hP,PL]
 have hge:=jP l
 refine bE a7 ?_
 refine ay hE h0 [0,2,3,4,8] l.length (fun i=>⟨43,[(0,.p (PL l)),(3,.sl 0 0 (aM (l.take i)).length 1),(4,.i i)],[(0,some ⟨a7,cb (aM (l.take i))⟩)],1⟩) [] (fun i=>i) ?_ ?_
 ·refine⟨rfl,?_,?_,rfl,rfl,trivial,fun i h=>h⟩
  ·simp only [go_sem,PL]
   simp [aM]
  ·simp only [go_sem]
   simp [aM,cb,ai]
 ·intro i hi
  rcases Nat.lt_or_ge i l.length with hin|hin
  ·have hat:=cW l i hin
   have hc:((i:Int)<(l.length:Int)):=by omega
   have hts:=cX l i hin
   have hs:=jO l (i+1)
   rw [hts,ey] at hs
   simp only [szM] at hs
   have hpl:=bA (l.take i)
   have h8:=hi8 (l.getD i (0,[])).2.length (by omega)
   have hl8:=lo8 (l.getD i (0,[])).2.length
   have hk8:=oc (l.getD i (0,[])).1
   simp only [go_sem,hP,PL,hat,hc,byP,h8,hl8,←hk8]
   have hcell:cb (aM (l.take i))++[.p (.v (.int .u8 ((u8i (l.getD i (0,[])).1).toNat:Int))),.p (.v (.int .u8 ((UInt8.ofNat ((l.getD i (0,[])).2.length/256)).toNat:Int))),.p (.v (.int .u8 ((UInt8.ofNat (l.getD i (0,[])).2.length).toNat:Int)))] ++
    List.map AV.p (List.map bt (l.getD i (0,[])).2)=cb (aM (l.take (i+1))):=by
    rw [hts,m7];simp [aM,cb,bt]
   have hcl:(aM (l.take i)).length+3+(l.getD i (0,[])).2.length=(aM (l.take (i+1))).length:=by
    rw [bA,bA,hts,ey];simp only [szM];omega
   rw [hcell,hcl]
   (try go_unwrap)
   refine⟨by omega,by omega,by omega,⟨by omega,by omega⟩,by kernel_rfl,by omega,⟨by omega,by omega⟩,hin,aZ [3] rfl ?_ ?_ rfl rfl (Nat.le_refl _)⟩
   ·simp only [go_sem]
    omega
   ·simp only [go_sem]
    exact aj _ _ _ _
  ·obtain rfl:i=l.length:=by omega
   have hnc:¬((l.length:Int)<(l.length:Int)):=by omega
   simp only [go_sem,hP,PL,hnc]
   rw [List.take_of_length_le (Nat.le_refl _)]
   exact⟨Nat.le_refl _,bA l,by rw [List.take_of_length_le (Nat.le_refl _)]⟩
def aI (l:ag):List (List UInt8):=l.map fun p=>aM [p]
theorem qe (l:ag) (i:Nat) (h:i<l.length):aI (l.take (i+1))=aI (l.take i)++[aM [l.getD i (0,[])]]:=by
 rw [cX l i h];simp [aI]
theorem Dj (l:ag) (i:Nat) (h:i<l.length):((gC l).drop (i*2)).take 2=gC [l.getD i (0,[])]:=by
 rw [cW l i h];simp [ef,dE]
theorem yR (l:ag) (i:Nat) (h:i<l.length):szM [l.getD i (0,[])]≤szM l:=by
 have h2:=jO l (i+1)
 rw [cX l i h,ey] at h2
 omega
set_option maxHeartbeats 1000000 in
theorem m9 (l:ag) (hb:szM l<1000000000):FPure Tryz.prog 94 [.p (PL l)] (.p (.data 1 l.length ((aI l).map byP))):=by
 refine en Tryz.func94 Tryz.ntmps94 Tryz.results94 [0,2,3,4,6,7,8] ?_;intro c hP h0 hE kK
 simp only [go_sem,hP,PL]
 have hge:=jP l
 refine bE fF ?_
 refine ay hE h0 [0,2,3,4,6,7,8] l.length (fun i=>⟨21,[(0,.p (PL l)),(3,.sl 0 0 (aI (l.take i)).length 1),(6,.i l.length),(7,.i i)],[(0,some ⟨fF,byL (aI (l.take i))⟩)],1⟩) [] (fun i=>i) ?_ ?_
 ·refine⟨rfl,?_,?_,rfl,rfl,trivial,fun i h=>h⟩
  ·simp only [go_sem,PL]
   simp [aI]
  ·simp only [go_sem]
   simp [aI,byL,ai]
 ·intro i hi
  rcases Nat.lt_or_ge i l.length with hin|hin
  ·have hc:((i:Int)<(l.length:Int)):=by omega
   have hone:=Dj l i hin
   have hsz:=yR l i hin
   have hw:IntKind.i64.wrap ((i:Int)+1)=((i+1:Nat):Int):=by rw [ab (by omega) (by omega)];omega
   have h1:i+1-i=1:=by omega
   have hlen:(aM [l.getD i (0,[])]).length=szM [l.getD i (0,[])]:=bA _
   have hsl:(aI (l.take i)).length=i:=by simp [aI];omega
   have hst:=qe l i hin
   simp only [go_sem,hP,PL,hc,hw]
   rw [h1,Nat.one_mul,hone]
   refine⟨⟨by omega,by omega,by omega⟩,?_⟩
   refine aa kK (by exact rI [l.getD i (0,[])] (by omega)) ?_
   rw [← hlen]
   simp only [go_sem,hP]
   (try go_unwrap)
   refine⟨⟨by omega,by omega⟩,hin,aZ [2] rfl ?_ ?_ rfl rfl (Nat.le_refl _)⟩
   ·simp only [go_sem,hst]
    (try simp)
    (try omega)
   ·simp only [go_sem,hst]
    exact fA _ _ _ _
  ·obtain rfl:i=l.length:=by omega
   have hnc:¬((l.length:Int)<(l.length:Int)):=by omega
   simp only [go_sem,hP,PL,hnc]
   rw [List.take_of_length_le (Nat.le_refl _)]
   have hsl:(aI l).length=l.length:=by simp [aI]
   exact⟨Nat.le_refl _,hsl,by rw [List.take_of_length_le (Nat.le_refl _)]⟩
set_option maxHeartbeats 1000000 in
theorem tH (l:ag) (hb:szM l<1000000000):FPure Tryz.prog 139 [.p (PL l)] (.p (.data 1 l.length ((aI l).map byP))):=by
 refine en Tryz.func139 Tryz.ntmps139 Tryz.results139 [0,2,3,4,8] ?_;intro c hP h0 hE kK
 simp only [go_sem,hP,PL]
 have hge:=jP l
 refine bE fF ?_
 refine ay hE h0 [0,2,3,4,8] l.length (fun i=>⟨21,[(0,.p (PL l)),(3,.sl 0 0 (aI (l.take i)).length 1),(4,.i i)],[(0,some ⟨fF,byL (aI (l.take i))⟩)],1⟩) [] (fun i=>i) ?_ ?_
 ·refine⟨rfl,?_,?_,rfl,rfl,trivial,fun i h=>h⟩
  ·simp only [go_sem,PL]
   simp [aI]
  ·simp only [go_sem]
   simp [aI,byL,ai]
 ·intro i hi
  rcases Nat.lt_or_ge i l.length with hin|hin
  ·have hc:((i:Int)<(l.length:Int)):=by omega
   have hone:=Dj l i hin
   have hsz:=yR l i hin
   have hw:IntKind.i64.wrap ((i:Int)+1)=((i+1:Nat):Int):=by rw [ab (by omega) (by omega)];omega
   have h1:i+1-i=1:=by omega
   have hlen:(aM [l.getD i (0,[])]).length=szM [l.getD i (0,[])]:=bA _
   have hsl:(aI (l.take i)).length=i:=by simp [aI];omega
   have hst:=qe l i hin
   simp only [go_sem,hP,PL,hc,hw]
   rw [h1,Nat.one_mul,hone]
   refine⟨⟨by omega,by omega,by omega⟩,?_⟩
   refine aa kK (by exact rJ [l.getD i (0,[])] (by omega)) ?_
   rw [← hlen]
   simp only [go_sem,hP]
   (try go_unwrap)
   refine⟨⟨by omega,by omega⟩,hin,aZ [2] rfl ?_ ?_ rfl rfl (Nat.le_refl _)⟩
   ·simp only [go_sem,hst]
    (try simp)
    (try omega)
   ·simp only [go_sem,hst]
    exact fA _ _ _ _
  ·obtain rfl:i=l.length:=by omega
   have hnc:¬((l.length:Int)<(l.length:Int)):=by omega
   simp only [go_sem,hP,PL,hnc]
   rw [List.take_of_length_le (Nat.le_refl _)]
   have hsl:(aI l).length=l.length:=by simp [aI]
   exact⟨Nat.le_refl _,hsl,by rw [List.take_of_length_le (Nat.le_refl _)]⟩
end Go.Proofs.YtebndjnkmcahaaaGreatDoor
end
section
section
namespace Go.Proofs.YtebndjnkmcahaaaGreatDoor
set_option linter.unusedSimpArgs false
set_option linter.unusedVariables false
open Go Go.Abs Go.RowKit
def dx:Nat→List UInt8→Option ag
 | 0,_=>some []
 | f+1,b=>if b=[] then some [] else
  if b.length<3 then none else
  if b.length-3<aq b 1 then none else
  match dx f (b.drop (3+aq b 1)) with
  | some l=>some (((((b.getD 0 0).toNat:Nat):Int),(b.drop 3).take (aq b 1))::l)
  | none=>none
def cw (b:List UInt8):Option ag:=dx b.length b
def aP (b:List UInt8):ag:=(cw b).getD []
theorem kH:∀(f f':Nat) (b:List UInt8),b.length≤f→b.length≤f'→dx f b=dx f' b
 | 0,0,b,_,_=>rfl
 | 0,f'+1,b,h,_=>by
  have:b=[]:=List.eq_nil_of_length_eq_zero (by omega)
  subst this;simp [dx]
 | f+1,0,b,_,h=>by
  have:b=[]:=List.eq_nil_of_length_eq_zero (by omega)
  subst this;simp [dx]
 | f+1,f'+1,b,h,h'=>by
  simp only [dx]
  split
  ·rfl
  ·split
   ·rfl
   ·split
    ·rfl
    ·rw [kH f f' (b.drop (3+aq b 1)) (by simp;omega) (by simp;omega)]
theorem gS (b:List UInt8) (h0:b≠[]) (h1:¬b.length<3) (h2:¬b.length-3<aq b 1) :
 cw b=(cw (b.drop (3+aq b 1))).map fun l=>((((b.getD 0 0).toNat:Nat):Int),(b.drop 3).take (aq b 1))::l:=by
 unfold cw
 obtain⟨f,hf⟩:∃f,b.length=f+1:=⟨b.length-1,by omega⟩
 rw [hf]
 simp only [dx]
 rw [if_neg h0,if_neg h1,if_neg h2,kH f (b.drop (3+aq b 1)).length _ (by simp;omega) (Nat.le_refl _)]
 cases dx (b.drop (3+aq b 1)).length (b.drop (3+aq b 1))<;>rfl
theorem li:cw []=some []:=rfl
theorem l5 (r:List UInt8) (h0:r≠[]) (h:r.length<3):cw r=none:=by
 unfold cw
 obtain⟨f,hf⟩:∃f,r.length=f+1:=⟨r.length-1,by have:=List.length_pos_iff.2 h0;omega⟩
 rw [hf];simp only [dx];rw [if_neg h0,if_pos h]
theorem qf (r:List UInt8) (h0:r≠[]) (h1:¬r.length<3) (h:r.length-3<aq r 1):cw r=none:=by
 unfold cw
 obtain⟨f,hf⟩:∃f,r.length=f+1:=⟨r.length-1,by omega⟩
 rw [hf] at h1 h ⊢;simp only [dx];rw [if_neg h0,hf,if_neg h1,if_pos h]
theorem vI (r:List UInt8):bor .i64 (gV .i64 (IntKind.i64.wrap ((r.getD 1 0).toNat:Int)) 8) (IntKind.i64.wrap ((r.getD 2 0).toNat:Int))=((aq r 1:Nat):Int):=by
 have h1:=(r.getD 1 0).toNat_lt
 have h2:=(r.getD 2 0).toNat_lt
 rw [ab (by omega) (by omega),ab (by omega) (by omega),k7 _ _ h1 h2]
 rfl
theorem Dk (x:UInt8):IntKind.i64.wrap (x.toNat:Int)=(x.toNat:Int):=by
 have:=x.toNat_lt
 rw [ab (by omega) (by omega)]
theorem vJ (bs:List UInt8):eV (.v (.int .u8 0)) (bs.map bt)=bt (bs.getD 0 0):=by
 have:=tL bs 0
 simpa using this
def prA (l:ag):List AV:=(gC l).map .p
theorem od (l:ag):(prA l).length=l.length*2:=by simp [prA,vH]
theorem qg (l:ag) (k:Int) (v:List UInt8):prA l++[.p (.v (.int .i64 k)),.p (.data 1 v.length (v.map bt))]=prA (l++[(k,v)]):=by simp [prA,Di,ef,dE,byP]
theorem eQ (h:ba) (S:List Nat) (σ:Nat→Nat) (l:ag):ai h S σ (prA l) (prA l):=aW h S σ _
theorem vK (l:ag):i5 (prA l):=bI _
theorem vL (l:ag):i6 (prA l)=gC l:=bY _
theorem vM (T:List Nat) (l:ag):an T (prA l):=a8 T _
theorem Dl (τ:Nat→Nat) (l:ag):eG τ (prA l)=prA l:=eM τ _
theorem Dm (l:ag) (n:Nat):(prA l).take (n*2)=prA (l.take n):=by unfold prA;rw [← List.map_take,AD]
theorem l6 (l:ag):(prA l).take (l.length*2)=prA l:=by rw [Dm,List.take_of_length_le (Nat.le_refl _)]
attribute [go_sem] List.flatten_cons List.flatten_nil List.append_nil od qg vK vL Dl l6
set_option maxHeartbeats 2000000 in
theorem Dn (b:List UInt8) (n:Nat) (hn:b.length=n) (hb:n<1000000000):FPure Tryz.prog 155 [.p (.data 1 n (b.map bt))] (.p (PL (aP b))):=by
 refine en Tryz.func155 Tryz.ntmps155 Tryz.results155 [0,2,3,4,5,8,11,31] ?_;intro c hP h0 hE kK
 simp only [go_sem,hP]
 refine bE 94 ?_
 refine bo hE h0 [0,2,3,4,5,8,11,31] (α:={ x:List UInt8×ag // x.1.length≤n∧cw b=(cw x.1).map (x.2++·)∧x.2.length+x.1.length≤n })
  (fun x=>⟨45,[(0,.p (.data 1 x.1.1.length (x.1.1.map bt))),(3,.sl 0 0 x.1.2.length 2)],[(0,some ⟨94,prA x.1.2⟩)],1⟩) (fun x=>x.1.1.length) ⟨(b,[]),by show b.length≤n;omega,by simp,by simp;omega⟩ [] (fun i=>i) ?_ ?_
 ·refine⟨rfl,?_,?_,rfl,rfl,trivial,fun i h=>h⟩
  ·simp only [go_sem,hn]
  ·simp only [go_sem]
   simp [prA,dE,ai]
 ·rintro⟨⟨r,l⟩,h1,h2,h3⟩
  simp only at h1 h2 h3
  have hln:=vI r
  have hk0:=Dk (r.getD 0 0)
  have hd3:(r.drop 3).take (r.length-3)=r.drop 3:=List.take_of_length_le (by simp)
  simp only [go_sem,hP,vJ,PL,hln,hk0,hd3]
  have hnone:cw r=none→aP b=[]:=fun h=>by unfold aP;rw [h2,h];rfl
  split
  ·rename_i hpos
   have hne:r≠[]:=fun e=>by subst e;simp at hpos
   split
   ·rw [hnone (l5 r hne (by omega))]
    exact⟨rfl,rfl⟩
   ·rename_i h3l
    refine⟨by omega,by omega,by omega,by omega,by omega,by omega,by kernel_rfl,⟨by omega,by omega⟩,?_⟩
    split
    ·rw [hnone (qf r hne (by omega) (by omega))]
     exact⟨rfl,rfl⟩
    ·refine⟨⟨by omega,by omega⟩,?_⟩
     have hq:aq r 1≤r.length-3:=by omega
     have hql:((r.drop 3).take (aq r 1)).length=aq r 1:=by simp;omega
     have hnext:=gS r hne (by omega) (by omega)
     have hcell:prA l++[.p (.v (.int .i64 ((r.getD 0 0).toNat:Int))),.p (.data 1 (aq r 1) (((r.drop 3).take (aq r 1)).map bt))]=prA (l++[(((r.getD 0 0).toNat:Int),(r.drop 3).take (aq r 1))]):=by
      rw [← qg,hql]
     have hd:(r.drop 3).drop (aq r 1)=r.drop (3+aq r 1):=by rw [List.drop_drop]
     have hdt:(r.drop (3+aq r 1)).take (r.length-3-aq r 1)=r.drop (3+aq r 1):=List.take_of_length_le (by simp;omega)
     have hdl:(r.drop (3+aq r 1)).length=r.length-3-aq r 1:=by simp;omega
     rw [hcell,hd,hdt]
     refine⟨⟨by omega,by omega⟩,⟨by omega,by omega,by omega⟩,⟨(r.drop (3+aq r 1),l++[(((r.getD 0 0).toNat:Int),(r.drop 3).take (aq r 1))]),?_,?_,?_⟩,?_,aZ [2] rfl ?_ ?_ rfl rfl (Nat.le_refl _)⟩
     ·show (r.drop (3+aq r 1)).length≤n;omega
     ·rw [h2,hnext]
      cases cw (r.drop (3+aq r 1))<;>simp
     ·show (l++[_]).length+(r.drop (3+aq r 1)).length≤n
      rw [List.length_append,hdl];simp;omega
     ·show (r.drop (3+aq r 1)).length<r.length;omega
     ·simp only [go_sem,hdl]
      (try simp)
     ·simp only [go_sem]
      exact eQ _ _ _ _
  ·have:r=[]:=List.eq_nil_of_length_eq_zero (by omega)
   subst this
   have:aP b=l:=by unfold aP;rw [h2,li];simp
   rw [this]
   exact⟨Nat.le_refl _,rfl,rfl⟩
theorem Do (S l:List Nat) {st st':AS} (n:st'.n=st.n) (slots:nq (hget st.hp) S (sg st.nx l) st.sl st'.sl) (blocks:ge (hget st.hp) S (sg st.nx l) st'.hp) (nd:bQ ((liveK st'.hp).map (sg st.nx l))=true) (lt:ct st'.nx (liveK st'.hp)=true) (live:lz st.hp S) (nx:l.length≤st'.nx) :
 ∃S σ,Sub S σ st st':=⟨S,sg st.nx l,n,slots,blocks,nd,lt,live,fun _ h=>bH l _ _ (Nat.le_trans nx h)⟩
set_option maxHeartbeats 2000000 in
theorem Dp (b:List UInt8) (n:Nat) (hn:b.length=n) (hb:n<1000000000):FPure Tryz.prog 194 [.p (.data 1 n (b.map bt))] (.tup [.p (PL (aP b)),.b (cw b).isSome]):=by
 refine en Tryz.func194 Tryz.ntmps194 Tryz.results194 [0,2,3,4,5,8,27] ?_;intro c hP h0 hE kK
 simp only [go_sem,hP]
 refine bE 94 ?_
 refine bo hE h0 [0,2,3,4,5,8,27] (α:={ x:List UInt8×ag // x.1.length≤n∧cw b=(cw x.1).map (x.2++·)∧x.2.length+x.1.length≤n })
  (fun x=>⟨56,[(0,.p (.data 1 x.1.1.length (x.1.1.map bt))),(4,.sl 0 0 x.1.2.length 2)],[(0,some ⟨94,prA x.1.2⟩)],1⟩) (fun x=>x.1.1.length) ⟨(b,[]),by show b.length≤n;omega,by simp,by simp;omega⟩ [] (fun i=>i) ?_ ?_
 ·refine⟨rfl,?_,?_,rfl,rfl,trivial,fun i h=>h⟩
  ·simp only [go_sem,hn]
  ·simp only [go_sem]
   simp [prA,dE,ai]
 ·rintro⟨⟨r,l⟩,h1,h2,h3⟩
  simp only at h1 h2 h3
  have hln:=vI r
  have hk0:=Dk (r.getD 0 0)
  have hd3:(r.drop 3).take (r.length-3)=r.drop 3:=List.take_of_length_le (by simp)
  simp only [go_sem,hP,vJ,PL,hln,hk0,hd3]
  have hnone:cw r=none→aP b=[]∧(cw b).isSome=false:=fun h=>by unfold aP;rw [h2,h];exact⟨rfl,rfl⟩
  split
  ·rename_i hpos
   have hne:r≠[]:=fun e=>by subst e;simp at hpos
   have hlt:=vF r 1
   rw [ab (n:=(r.length:Int)-3) (by omega) (by omega),ab (n:=3+((aq r 1:Nat):Int)) (by omega) (by omega)]
   split
   ·rename_i h3l
    refine⟨by omega,by omega,by omega,by omega,by kernel_rfl,?_⟩
    split
    ·obtain⟨e1,e2⟩:=hnone (qf r hne (by omega) (by omega))
     rw [e1,e2]
     exact⟨⟨rfl,rfl⟩,rfl⟩
    ·have hq:aq r 1≤r.length-3:=by omega
     have hql:((r.drop 3).take (aq r 1)).length=aq r 1:=by simp;omega
     have hnext:=gS r hne (by omega) (by omega)
     have hn3:(3+((aq r 1:Nat):Int)).toNat=3+aq r 1:=by omega
     have hn4:3+aq r 1-3=aq r 1:=by omega
     have hdt:(r.drop (3+aq r 1)).take (r.length-(3+aq r 1))=r.drop (3+aq r 1):=List.take_of_length_le (by simp)
     have hdl:(r.drop (3+aq r 1)).length=r.length-(3+aq r 1):=by simp
     rw [hn3,hn4,hdt]
     refine⟨by omega,by omega,by omega,by omega,by kernel_rfl,by omega,by omega,⟨by omega,by omega⟩,⟨by omega,by omega⟩,⟨by omega,by omega⟩,by kernel_rfl,⟨by omega,by omega,by omega⟩,⟨(r.drop (3+aq r 1),l++[(((r.getD 0 0).toNat:Int),(r.drop 3).take (aq r 1))]),?_,?_,?_⟩,?_,Do [1] [3] rfl ?_ ?_ rfl rfl ?_ (Nat.le_refl _)⟩
     ·show (r.drop (3+aq r 1)).length≤n;omega
     ·rw [h2,hnext]
      cases cw (r.drop (3+aq r 1))<;>simp
     ·show (l++[_]).length+(r.drop (3+aq r 1)).length≤n
      rw [List.length_append,hdl];simp;omega
     ·show (r.drop (3+aq r 1)).length<r.length;omega
     ·simp only [go_sem,hdl]
      (try simp)
     ·simp only [go_sem]
      rw [← qg,hql]
      refine pb _ _ (eQ _ _ _ _) ?_
      simp only [ai,aH,dB]
      refine⟨trivial,⟨by simp,trivial,trivial,⟨a7,List.map AV.p (List.map bt (List.take (aq r 1) (List.drop 3 r)))⟩,rfl,by simp;omega,?_⟩,trivial⟩
      show cF _ _ _ (((List.map AV.p (List.map bt (List.take (aq r 1) (List.drop 3 r)))).drop 0).take (aq r 1*1))
      rw [List.drop_zero,Nat.mul_one]
      generalize List.take (aq r 1) (List.drop 3 r)=X at hql ⊢
      rw [List.take_of_length_le (by simp;omega)]
      exact gH _ _ _
     ·simp only [go_sem,Option.isSome_some]
   ·obtain⟨e1,e2⟩:=hnone (l5 r hne (by omega))
    rw [e1,e2]
    exact⟨by kernel_rfl,⟨rfl,rfl⟩,rfl⟩
  ·have:r=[]:=List.eq_nil_of_length_eq_zero (by omega)
   subst this
   have e0:cw b=some l:=by rw [h2,li];simp
   have:aP b=l:=by unfold aP;rw [e0];rfl
   rw [this,e0]
   exact⟨Nat.le_refl _,⟨rfl,rfl⟩,rfl⟩
end Go.Proofs.YtebndjnkmcahaaaGreatDoor
end
section
namespace Go.Proofs.YtebndjnkmcahaaaGreatDoor
set_option linter.unusedSimpArgs false
set_option linter.unusedVariables false
open Go Go.Abs Go.RowKit
def dl (p:Int×List UInt8):Bool→ag→ag
 | d,[]=>if d then [] else [p]
 | d,q::r=>(if d=false∧q.1≥p.1 then [p] else [])++(if q.1≠p.1 then [q] else [])++dl p (d||decide (q.1≥p.1)) r
def bv (old l:ag):ag:=l.foldl (fun o p=>dl p (decide (p.2.length=0)) o) old
theorem na (p:Int×List UInt8):∀(d:Bool) (r:ag),(dl p d r).length≤r.length+1
 | d,[]=>by simp only [dl];split<;>simp
 | d,q::r=>by
  have ih:=na p (d||decide (q.1≥p.1)) r
  have ih2:=with1_len2 p r
  simp only [dl,List.length_append,List.length_cons]
  cases d with
  | true=>simp only [Bool.true_or] at ih ⊢;split<;>split<;>simp at * <;> omega
  | false =>
   by_cases h:q.1≥p.1
   ·simp only [h,decide_true,Bool.or_true,and_self,if_true] at ih ⊢
    split<;>simp at * <;> omega
   ·simp only [h,and_false,if_false] at ih ⊢
    split<;>simp at * <;> omega
where
 with1_len2 (p:Int×List UInt8):∀(r:ag),(dl p true r).length≤r.length
 | []=>by simp [dl]
 | q::r=>by
  have ih:=with1_len2 p r
  simp only [dl,List.length_append,List.length_cons,Bool.true_or]
  split<;>split<;>simp at * <;> omega
set_option maxHeartbeats 4000000 in
theorem yS (old l:ag) (h1:old.length+l.length<1000000):FPure Tryz.prog 143 [.p (PL old),.p (PL l)] (.p (PL (bv old l))):=by
 refine en Tryz.func143 Tryz.ntmps143 Tryz.results143 [0,1,4,5,6,7,8,12,25,42,60,69] ?_;intro c hP h0 hE kK
 simp only [go_sem,hP,PL]
 have hstep:∀i,i<l.length→bv old (l.take (i+1))=dl (l.getD i (0,[])) (decide ((l.getD i (0,[])).2.length=0)) (bv old (l.take i)):=fun i h=>by
  unfold bv;rw [cX l i h,List.foldl_append];rfl
 have hlen:∀i,i≤l.length→(bv old (l.take i)).length≤old.length+i:=fun i=>by
  induction i with
  | zero=>intro _;simp [bv]
  | succ i ih =>
   intro h
   rw [hstep i (by omega)]
   have:=na (l.getD i (0,[])) (decide ((l.getD i (0,[])).2.length=0)) (bv old (l.take i))
   have:=ih (by omega)
   omega
 refine ay hE h0 [0,1,4,5,6,7,8,12,25,42,60,69] l.length (fun i=>⟨79,[(0,.p (PL (bv old (l.take i)))),(1,.p (PL l)),(5,.i i)],[],0⟩) [] (fun i=>i) ?_ ?_
 ·refine⟨rfl,?_,trivial,rfl,rfl,trivial,fun i h=>h⟩
  simp only [go_sem,PL]
  simp [bv]
 ·intro i hi
  rcases Nat.lt_or_ge i l.length with hin|hin
  ·have hat:=cW l i hin
   have hc:((i:Int)<(l.length:Int)):=by omega
   have hl1:=hlen i (by omega)
   have hst:=hstep i hin
   generalize bv old (l.take i)=o at *
   generalize l.getD i (0,[])=p at *
   simp only [go_sem,hP,PL,hat,hc,byP]
   refine⟨by omega,?_⟩
   refine bE 94 ?_
   refine bo hE h0 [0,1,4,5,6,7,8,12,25,42,60,69] (α:={ x:Nat×ag×Bool // x.1≤o.length∧dl p (decide (p.2.length=0)) o=x.2.1++dl p x.2.2 (o.drop x.1)∧x.2.1.length≤2*x.1 })
    (fun x=>⟨79,[(0,.p (PL o)),(1,.p (PL l)),(5,.i i),(6,.sl 0 0 x.1.2.1.length 2),(7,.b x.1.2.2),(8,.i x.1.1)],[(0,some ⟨94,prA x.1.2.1⟩)],1⟩) (fun x=>o.length-x.1.1) ⟨(0,[],decide (p.2.length=0)),Nat.zero_le _,by simp,by simp⟩ [] (fun i=>i) ?_ ?_
   ·refine⟨rfl,?_,?_,rfl,rfl,trivial,fun i h=>h⟩
    ·simp only [go_sem,PL]
     simp
     cases p.2<;>simp
     try omega
    ·simp only [go_sem]
     simp [prA,dE,ai]
   ·rintro⟨⟨k,out,d⟩,k1,k2,k3⟩
    simp only at k1 k2 k3
    rcases Nat.lt_or_ge k o.length with hkn|hkn
    ·have hat2:=cW o k hkn
     have hc2:((k:Int)<(o.length:Int)):=by omega
     have hdrop:o.drop k=o.getD k (0,[])::o.drop (k+1):=by rw [List.drop_eq_getElem_cons hkn];simp [List.getD_eq_getElem?_getD,hkn]
     rw [hdrop] at k2
     simp only [dl] at k2
     generalize o.getD k (0,[])=q at *
     simp only [go_sem,hP,PL,hat,hat2,hc,hc2,byP]
     have hw:IntKind.i64.wrap ((k:Int)+1)=((k+1:Nat):Int):=by rw [ab (by omega) (by omega)];omega
     rw [hw]
     cases d with
     | false =>
      have hd:True:=trivial
      rw [if_pos rfl]
      refine⟨by omega,by omega,by kernel_rfl,?_⟩
      by_cases hq:q.1≥p.1
      ·rw [if_pos hq]
       refine⟨by omega,⟨by omega,by omega⟩,by omega,by omega,by kernel_rfl,?_⟩
       by_cases he:q.1=p.1
       ·rw [if_neg (fun h=>h he)]
        refine⟨⟨(k+1,out++[p],true),by show k+1≤_;omega,?_,?_⟩,by show o.length-(k+1)<o.length-k;omega,aZ [2] rfl ?_ ?_ rfl rfl (Nat.le_refl _)⟩
        ·rw [k2];simp [*]
        ·(try simp);(try omega)
        ·simp only [go_sem,PL]
         (try simp [*])
        ·simp only [go_sem]
         exact eQ _ _ _ _
       ·rw [if_pos he]
        refine⟨by omega,⟨by omega,by omega⟩,?_⟩
        refine⟨⟨(k+1,out++[p]++[q],true),by show k+1≤_;omega,?_,?_⟩,by show o.length-(k+1)<o.length-k;omega,aZ [4] rfl ?_ ?_ rfl rfl (Nat.le_refl _)⟩
        ·rw [k2];simp [*]
        ·(try simp);(try omega)
        ·simp only [go_sem,PL]
         (try simp [*])
        ·simp only [go_sem]
         exact eQ _ _ _ _
      ·rw [if_neg hq]
       refine⟨by omega,by omega,by kernel_rfl,?_⟩
       have he:¬q.1=p.1:=by omega
       rw [if_pos he]
       refine⟨by omega,⟨by omega,by omega⟩,?_⟩
       refine⟨⟨(k+1,out++[q],false),by show k+1≤_;omega,?_,?_⟩,by show o.length-(k+1)<o.length-k;omega,aZ [2] rfl ?_ ?_ rfl rfl (Nat.le_refl _)⟩
       ·rw [k2];simp [*]
       ·(try simp);(try omega)
       ·simp only [go_sem,PL]
        (try simp [*])
       ·simp only [go_sem]
        exact eQ _ _ _ _
     | true =>
      have hd:True:=trivial
      rw [if_neg (by simp)]
      refine⟨by kernel_rfl,by omega,by omega,by kernel_rfl,?_⟩
      by_cases he:q.1=p.1
      ·rw [if_neg (fun h=>h he)]
       refine⟨⟨(k+1,out,true),by show k+1≤_;omega,?_,?_⟩,by show o.length-(k+1)<o.length-k;omega,aZ [0] rfl ?_ ?_ rfl rfl (Nat.le_refl _)⟩
       ·rw [k2];simp [*]
       ·(try simp);(try omega)
       ·simp only [go_sem,PL]
        (try simp [*])
       ·simp only [go_sem]
        exact eQ _ _ _ _
      ·rw [if_pos he]
       refine⟨by omega,⟨by omega,by omega⟩,?_⟩
       refine⟨⟨(k+1,out++[q],true),by show k+1≤_;omega,?_,?_⟩,by show o.length-(k+1)<o.length-k;omega,aZ [2] rfl ?_ ?_ rfl rfl (Nat.le_refl _)⟩
       ·rw [k2];simp [*]
       ·(try simp);(try omega)
       ·simp only [go_sem,PL]
        (try simp [*])
       ·simp only [go_sem]
        exact eQ _ _ _ _
    ·obtain rfl:k=o.length:=by omega
     have hnc:¬((o.length:Int)<(o.length:Int)):=by omega
     rw [List.drop_eq_nil_of_le (Nat.le_refl _)] at k2
     simp only [dl] at k2
     simp only [go_sem,hP,PL,hnc,hat,hc,byP]
     have hw:IntKind.i64.wrap ((i:Int)+1)=((i+1:Nat):Int):=by rw [ab (by omega) (by omega)];omega
     rw [hw,hst,k2]
     cases d with
     | false =>
      rw [if_pos rfl,if_neg (by simp)]
      refine⟨by omega,⟨by omega,by omega⟩,hin,Do [2] [] rfl ?_ ?_ rfl rfl ?_ (Nat.le_refl _)⟩
      ·simp only [go_sem,PL]
       refine⟨by simp,⟨94,prA (out++[p])⟩,rfl,by show _≤(prA (out++[p])).length;rw [od];simp,?_⟩
       show cF _ _ _ ((prA (out++[p])).take ((out.length+1)*2))
       rw [show out.length+1=(out++[p]).length by simp,l6]
       exact gH _ _ _
      ·simp only [go_sem]
      ·simp only [go_sem,Option.isSome_some]
     | true =>
      rw [if_neg (by simp),if_pos rfl,List.append_nil]
      refine⟨hin,Do [0] [] rfl ?_ ?_ rfl rfl ?_ (Nat.le_refl _)⟩
      ·simp only [go_sem,PL]
       refine⟨by simp,⟨94,prA out⟩,rfl,by show _≤(prA out).length;rw [od];exact Nat.le_refl _,?_⟩
       show cF _ _ _ ((prA out).take (out.length*2))
       rw [l6]
       exact gH _ _ _
      ·simp only [go_sem]
      ·simp only [go_sem,Option.isSome_some]
  ·obtain rfl:i=l.length:=by omega
   have hnc:¬((l.length:Int)<(l.length:Int)):=by omega
   simp only [go_sem,hP,PL,hnc]
   rw [List.take_of_length_le (Nat.le_refl _)]
   (try exact⟨rfl,rfl⟩)
end Go.Proofs.YtebndjnkmcahaaaGreatDoor
end
end

/- joined of several texts; own work; no statement of the seat is proved but in the last -/
import Derived.Test.YtebndjnkmcahaaaGreatDoorKl
section
namespace Go.Proofs.YtebndjnkmcahaaaGreatDoor
set_option linter.unusedSimpArgs false
set_option linter.unusedVariables false
open Go Go.Abs Go.RowKit
theorem mL:∀cs:List PV,cG (cs.map .p)=[]
 | []=>rfl
 | c::cs=>by simp [cG,fzI,mL cs]
theorem JA (x:Dvp):cG (dvC x)=[]:=by obtain⟨cs,he⟩:=jq x;rw [he];exact mL cs
attribute [go_sem] JA Ht
theorem Kw (x:Ls):FPure Tryz.prog 125 [.p (.data 4 1 (lsP x)),.w x.tag] (.tup [.i 0,.b true]):=by
 refine en Tryz.func125 Tryz.ntmps125 Tryz.results125 [0,1,4,5,6,7,8,9,10,11,18] ?_;intro c hP h0 hE kK
 simp only [go_sem,hP]
 refine ay hE h0 [0,1,4,5,6,7,8,9,10,11,18] 0 (fun i=>⟨21,[(1,.w x.tag),(8,.p (.data 4 1 (lsP x))),(9,.i 1),(10,.i i)],[],0⟩) [] (fun i=>i) ?_ ?_
 ·refine⟨rfl,?_,?_,rfl,rfl,trivial,fun i h=>h⟩
  ·simp only [go_sem]
  ·simp only [go_sem]
 ·intro i hi
  obtain rfl:i=0:=by omega
  simp only [go_sem,hP,lsP,beq_self_eq_true]
theorem EE (t:UInt64):FPure Tryz.prog 125 [.p (.data 4 0 []),.w t] (.tup [.i 0,.b false]):=by
 refine en Tryz.func125 Tryz.ntmps125 Tryz.results125 [0,1,4,5,6,7,8,9,10,11,18] ?_;intro c hP h0 hE kK
 simp only [go_sem,hP]
 refine ay hE h0 [0,1,4,5,6,7,8,9,10,11,18] 0 (fun i=>⟨21,[(1,.w t),(8,.p (.data 4 0 [])),(9,.i 0),(10,.i i)],[],0⟩) [] (fun i=>i) ?_ ?_
 ·refine⟨rfl,?_,?_,rfl,rfl,trivial,fun i h=>h⟩
  ·simp only [go_sem]
  ·simp only [go_sem]
 ·intro i hi
  obtain rfl:i=0:=by omega
  simp only [go_sem,hP]
theorem EF (x:Ls) (h:eW x=true):FPure Tryz.prog 57 [.p (.data 4 1 (lsP x))] (.i 0):=by
 refine en Tryz.func57 Tryz.ntmps57 Tryz.results57 [0,2,3,4,6,9,10,11,12,13,19,29] ?_;intro c hP h0 hE kK
 simp only [go_sem,hP]
 refine ay hE h0 [0,2,3,4,6,9,10,11,12,13,19,29] 1 (fun i=>⟨31,[(0,.p (.data 4 1 (lsP x))),(10,.p (.data 4 1 (lsP x))),(11,.i 1),(12,.i i)],[],i⟩) [] (fun i=>i) ?_ ?_
 ·refine⟨rfl,?_,?_,rfl,rfl,trivial,fun i h=>h⟩
  ·simp only [go_sem]
  ·simp only [go_sem]
 ·intro i hi
  rcases Nat.lt_or_ge i 1 with h1|h1
  ·obtain rfl:i=0:=by omega
   simp only [go_sem,hP,lsP]
   refine aa kK (by exact po x) ?_
   simp only [go_sem,hP,h]
   refine aa kK (by exact EE x.tag) ?_
   simp only [go_sem,hP,show IntKind.i64.wrap (0+1)=1 from by decide]
   refine⟨by kernel_rfl,by omega,dp rfl ?_ ?_ rfl rfl (Nat.le_refl _)⟩
   ·simp only [go_sem,lsP]
   ·simp only [go_sem]
  ·obtain rfl:i=1:=by omega
   simp only [go_sem,hP]
def jA (d:ca) (l:ag) (B:Int):DR :=
 if d.on=false then ⟨d,0,17⟩ else
 let P:=rputM d.v l B
 if P.err≠0 then kv d P.v P.err else ⟨{ d with v:=P.v },P.left,0⟩
theorem pn (d:ca) (l:ag) (B:Int) (hb:d.v.j.bs.length<1000000000) (hl:∀x,x∈l→x.2.length<1000) (hll:l.length<100) (hB:i64 B) :
 FPure Tryz.prog 34 [cP d,.p (PL l),.i B] (mF (jA d l B)):=by
 refine en Tryz.func34 Tryz.ntmps34 Tryz.results34 [0,1,2,3,6,7,8,9,10,11,14,26] ?_;intro c hP h0 hE kK
 obtain⟨R,hR⟩:∃R,jA d l B=R:=⟨_,rfl⟩;rw [hR] at hE kK;(try rw [hR])
 unfold jA at hR
 by_cases hon:d.on=false
 ·rw [if_pos hon] at hR
  subst hR
  simp only [go_sem,hP,hon]
 rw [if_neg hon] at hR
 have hon':d.on=true:=by simpa using hon
 simp only [go_sem,hP,hon']
 refine aa kK (by exact Dy d.v _ l B rfl hb (by omega) (fun x hx=>by have:=hl x hx;omega) hB) ?_
 rw [yY]
 generalize rputM d.v l B=P at *
 by_cases he:P.err=0
 ·rw [if_neg (by omega)] at hR
  subst hR
  simp only [go_sem,hP,he]
  exact cD _
 ·rw [if_pos he] at hR
  subst hR
  simp only [go_sem,hP,he]
  refine aa kK (by exact mG d P.v P.err) ?_
  simp only [go_sem,hP]
structure RV where
 d:ca
 leaf:Int
 left:Int
 e:Int
def Kz (r:RV):AV := .tup [cP r.d,.i r.leaf,.i r.left,.i r.e]
attribute [go_sem] Kz
end Go.Proofs.YtebndjnkmcahaaaGreatDoor
end
section
namespace Go.Proofs.YtebndjnkmcahaaaGreatDoor
set_option linter.unusedSimpArgs false
set_option linter.unusedVariables false
open Go Go.Abs Go.RowKit
section
variable {f : c8} {w : List UInt8} {n : Nat} {k : Int}
end
end Go.Proofs.YtebndjnkmcahaaaGreatDoor
end

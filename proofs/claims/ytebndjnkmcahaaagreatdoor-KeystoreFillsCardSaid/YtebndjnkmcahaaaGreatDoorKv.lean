/- The package variables of utf8: what the rows' condition says of their cells. Own work; no statement of the seat is proved here. -/
import Derived.Test.YtebndjnkmcahaaaGreatDoorKl
import Derived.Test.YtebndjnkmcahaaaGreatDoorRow0
import Derived.Test.YtebndjnkmcahaaaGreatDoorTie
import Derived.OpenShut
import Derived.LaidMore
import Derived.Stop.Joined
namespace Go.Proofs.YtebndjnkmcahaaaGreatDoor
set_option linter.unusedSimpArgs false
set_option linter.unusedVariables false
open Go Go.Abs Go.RowKit Go.WideShapes Go.ChangeShapes Go.ChangeAt
theorem uU {D:Type} (k:Nat) (f:D→List Value):∀(n:Nat) (cs:List Value) (ds:List D),cs.length=n*k→ds.length=n →
 (∀i d,ds[i]?=some d→(cs.drop (i*k)).take k=f d)→cs=ds.flatMap f:=by
 intro n
 induction n with
 | zero =>
  intro cs ds hc hd _
  have hc':cs=[]:=List.length_eq_zero_iff.1 (by omega)
  have hd':ds=[]:=List.length_eq_zero_iff.1 hd
  subst hc';subst hd';rfl
 | succ n ih =>
  intro cs ds hc hd h
  cases ds with
  | nil=>cases hd
  | cons d ds =>
   have h0:=h 0 d rfl
   rw [Nat.zero_mul,List.drop_zero] at h0
   have h1:=ih (cs.drop k) ds (by rw [List.length_drop,hc,Nat.succ_mul];omega) (by simpa using hd) (fun i x hx=>by
    have:=h (i+1) x (by simpa using hx)
    rw [List.drop_drop,Nat.add_comm k,←Nat.succ_mul]
    exact this)
   rw [List.flatMap_cons,←h1,←h0,List.take_append_drop]
def uV:DataW Unit→Value
 | .lit (.int k n) => .int k n
 | _=>undef
def HG:DataW Unit→List Value
 | .agg l=>l.map uV
 | d=>[uV d]
section
variable {w : World} {fuel : Nat} {base : Nat} {sp : Nat → Bool} {held : Bool} {e : TypeId × Value → Unit}
theorem sU {t:TypeId} {k:IntKind} {cs:List Value} {x:DataW Unit×List MemPlace} (ht:Tryz.prog.underlying t=some (.int k)) (h:DataW.trod e Tryz.prog w base sp held fuel t cs=some x):cs=[uV x.1]:=by
 obtain⟨n,rfl,rfl,-⟩:=DataW.trod_int ht h
 rfl
theorem B6 {t:TypeId} {n:Nat} {cs:List Value} {ds:List (DataW Unit)} {p:List MemPlace} (ht:Tryz.prog.underlying t=some (.array n 5)) (hn:Tryz.prog.cellsOf t=n)
 (h:DataW.trod e Tryz.prog w base sp held fuel t cs=some (.agg ds,p)):cs=ds.map uV:=by
 obtain⟨xs,m,-,hx,hl,hxn,hf⟩:=DataW.trod_array ht h
 have hc:Tryz.prog.cellsOf 5=1:=by kernel_rfl
 simp only [Prod.mk.injEq,DataW.agg.injEq] at hx
 obtain⟨rfl,-⟩:=hx
 have:=uU 1 (fun x:DataW Unit×List MemPlace=>[uV x.1]) n cs xs (by omega) hxn (fun i d hi=>by
  have hlt:i<n:=by
   rw [← hxn];exact (List.getElem?_eq_some_iff.1 hi).1
  have:=hf i hlt
  rw [hi,hc] at this
  exact sU Tryz.underlying5 this)
 rw [this]
 clear this hf hl hxn h
 induction xs with
 | nil=>rfl
 | cons a l ih=>simp_all
theorem zK {cs:List Value} {x:DataW Unit×List MemPlace} (h:DataW.trod e Tryz.prog w base sp held fuel 257 cs=some x):cs=HG x.1:=by
 obtain⟨xs,m,-,hx,hl,hxn,hf⟩:=DataW.trod_struct Tryz.underlying257 h
 have hc:Tryz.prog.cellsOf 257=2:=by kernel_rfl
 have hi:Tryz.prog.cellsOf 5=1:=by kernel_rfl
 rw [hc] at hl
 have f0:DataW.trod e Tryz.prog w base sp held m 5 ((cs.drop 0).take (Tryz.prog.cellsOf 5))=xs[0]?:=hf 0 _ rfl
 have f1:DataW.trod e Tryz.prog w base sp held m 5 ((cs.drop 1).take (Tryz.prog.cellsOf 5))=xs[1]?:=hf 1 _ rfl
 rw [hi] at f0 f1
 have hxn':xs.length=2:=hxn
 match xs,hxn',hx,f0,f1 with
 | [x0,x1],_,hx,f0,f1 =>
  have g0:=sU Tryz.underlying5 (show _=some x0 from f0)
  have g1:=sU Tryz.underlying5 (show _=some x1 from f1)
  have hx1:x.1 = .agg [x0.1,x1.1]:=by rw [hx];rfl
  rw [hx1]
  clear hx hx1 f0 f1 h hf hxn
  match cs,hl,g0,g1 with
  | [c0,c1],_,g0,g1 =>
   have k0:c0=uV x0.1:=List.head_eq_of_cons_eq g0
   have k1:c1=uV x1.1:=List.head_eq_of_cons_eq g1
   rw [k0,k1]
   rfl
theorem wS {t:TypeId} {n:Nat} {cs:List Value} {ds:List (DataW Unit)} {p:List MemPlace} (ht:Tryz.prog.underlying t=some (.array n 257)) (hn:Tryz.prog.cellsOf t=n*2)
 (h:DataW.trod e Tryz.prog w base sp held fuel t cs=some (.agg ds,p)):cs=ds.flatMap HG:=by
 obtain⟨xs,m,-,hx,hl,hxn,hf⟩:=DataW.trod_array ht h
 have hc:Tryz.prog.cellsOf 257=2:=by kernel_rfl
 simp only [Prod.mk.injEq,DataW.agg.injEq] at hx
 obtain⟨rfl,-⟩:=hx
 have:=uU 2 (fun x:DataW Unit×List MemPlace=>HG x.1) n cs xs (by omega) hxn (fun i d hi=>by
  have hlt:i<n:=by
   rw [← hxn];exact (List.getElem?_eq_some_iff.1 hi).1
  have:=hf i hlt
  rw [hi,hc] at this
  exact zK this)
 rw [this]
 clear this hf hl hxn h
 induction xs with
 | nil=>rfl
 | cons a l ih=>simp_all
end
theorem HH:Tryz.prog.globalNamed "unicode/utf8.acceptRanges"=some 2:=by kernel_rfl
theorem HI:Tryz.prog.globalNamed "unicode/utf8.first"=some 1:=by kernel_rfl
theorem py {W:World} {n:String} {g:Nat} {cs:Array Value} {l:List Value} (hg:Tryz.prog.globalNamed n=some g) (hv:W.var? Tryz.prog n=some cs) (hl:cs.toList=l) (h1:l.all (fun v=>v.oneCell')=true) (h0:l≠[]) :
 g<W.heap.size∧∀j v,l[j]?=some v→v.oneCell'=true∧W.cell? ⟨g,j,none⟩=some v:=by
 have hcell:∀j v,l[j]?=some v→v.oneCell'=true∧W.cell? ⟨g,j,none⟩=some v:=by
  intro j v hj
  refine⟨List.all_eq_true.1 h1 v (List.mem_of_getElem? hj),?_⟩
  rw [World.var?_cell hg hv j,←hj,←hl,Array.getElem?_toList]
 refine⟨?_,hcell⟩
 cases l with
 | nil=>exact absurd rfl h0
 | cons v r =>
  have:=(hcell 0 v rfl).2
  rcases Nat.lt_or_ge g W.heap.size with h|h
  ·exact h
  ·simp [World.cell?,Array.getElem?_eq_none h] at this
theorem zL:(Go.Pinned.numbers .u8 Go.Pinned.utf8FirstZ).map uV=mD:=by kernel_rfl
theorem zM:mD≠[]:=fun hh=>by
 have h6:mD.length=256:=by kernel_rfl
 rw [hh] at h6
 cases h6
theorem EK {W:World} (h:laidMetH Tryz.prog Rows.keystoreNewRow.laid W):GlobOk (fun b=>b<W.heap.size) W:=by
 rw [MakeChecks.laidMetH_plain _ _ _ (by kernel_rfl)] at h
 obtain⟨ps,⟨g0,t0,cs0,f0,p0,q0,hg0,ht0,hv0,hd0,⟨g1,t1,cs1,f1,p1,q1,hg1,ht1,hv1,hd1,_,_⟩,_⟩,_,_⟩:=h
 obtain rfl:=Option.some.inj (HH.symm.trans hg0)
 obtain rfl:=Option.some.inj (HI.symm.trans hg1)
 have e0:(Tryz.prog.globals[2]?).map (·.type)=some 258:=by kernel_rfl
 have e1:(Tryz.prog.globals[1]?).map (·.type)=some 255:=by kernel_rfl
 obtain rfl:=Option.some.inj (e0.symm.trans ht0)
 obtain rfl:=Option.some.inj (e1.symm.trans ht1)
 have l0:=wS Tryz.underlying258 (by kernel_rfl) hd0
 have l1:=(B6 (ds:=Go.Pinned.numbers .u8 Go.Pinned.utf8FirstZ) Tryz.underlying255 (by kernel_rfl) hd1).trans zL
 have r0:=py (l:=lK) hg0 hv0 l0 (by kernel_rfl) (by simp [lK])
 have r1:=py (l:=mD) hg1 hv1 l1 (by kernel_rfl) zM
 intro g cs hg
 unfold ku at hg
 cases hb1:Nat.beq g 1 with
 | true=>rw [hb1] at hg;simp only [Option.some.injEq] at hg;subst hg;rw [Nat.eq_of_beq_eq_true hb1];exact r1
 | false =>
  cases hb0:Nat.beq g 2 with
  | true=>rw [hb1,hb0] at hg;simp only [Option.some.injEq] at hg;subst hg;rw [Nat.eq_of_beq_eq_true hb0];exact r0
  | false=>rw [hb1,hb0] at hg;cases hg
end Go.Proofs.YtebndjnkmcahaaaGreatDoor

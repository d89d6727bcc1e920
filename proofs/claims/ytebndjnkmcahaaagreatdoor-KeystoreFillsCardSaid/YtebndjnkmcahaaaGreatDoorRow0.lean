/- Arguments of a law, opened (the part without types of the program). Own work; no statement of the seat is proved here. -/
import Derived.Test.YtebndjnkmcahaaaGreatDoorStr
import Derived.Test.YtebndjnkmcahaaaGreatDoorRows
import Derived.WalkKit
import Derived.ProofKit
import Derived.Carry
import Derived.ChangeSame
import Derived.Lib.SmallJoins
namespace Go.Proofs.YtebndjnkmcahaaaGreatDoor
set_option linter.unusedSimpArgs false
set_option linter.unusedVariables false
open Go Go.Abs Go.RowKit Go.WideShapes Go.ChangeShapes
variable {H : Type} {enc : TypeId × Value → H}
theorem own:ownKnob Tryz.prog.godebug=none:=by kernel_rfl
theorem laid:laidOutB Tryz.prog=true:=by kernel_rfl
theorem kG {W W':World} (hb:Below W.heap.size W W'):∀{ts:List TypeId} {vs:List Value} {ds:List (DataW H)} {ps:List MemPlace},(∀t,t∈ts→Tryz.prog.readableRec t=true∧t<Tryz.prog.types.size) →
 DataW.TrodAll enc Tryz.prog W 0 (fun _=>true) true ts vs ds ps→(∀x∈ps,x.block<W.heap.size)→∀sp:Nat→Bool,(∀x∈ps,sp x.block=true)→DataW.TrodAll enc Tryz.prog W' 0 sp true ts vs ds ps
 | [],vs,ds,ps,_,h,_,sp,_=>by
  obtain⟨rfl,rfl,rfl⟩:=trodAll_nil h
  exact trodAll_mk0
 | t::ts,vs,ds,ps,hts,h,hlt,sp,hsp=>by
  obtain⟨v,vs',d,ds',p,q,rfl,rfl,rfl,h0,r0⟩:=trodAll_cons h
  have hr:=hts t (by simp)
  exact trodAll_cons_mk (WideElems.Trod_stays laid hr.1 hr.2 h0 (fun x hx=>hb.same (hlt x (by simp [hx]))) (fun x hx=>hsp x (by simp [hx])))
   (kG hb (fun t ht=>hts t (by simp [ht])) r0 (fun x hx=>hlt x (by simp [hx])) sp (fun x hx=>hsp x (by simp [hx])))
theorem qM {f:Func} {s:ChangeSpec} {apart fresh handsOn again:Bool} {P:Program} {W W':World} {args:Array Value} {v:Value} {ds gs:List (DataW H)} {before pa pv:List MemPlace}
 (hW:DataW.Whole enc P f.params.toList s.vars apart W args.toList ds gs before)
 (hres:∀(b:Nat) (sp:Nat→Bool) (hd:Bool),DataW.TrodAll enc P W' b sp hd f.resultTypes.toList (v.resultList f.resultTypes.size) (s.fn H (ds++gs)).results [])
 (hargs:∀sp:Nat→Bool,(∀p∈before,sp p.block=true)→DataW.TrodAll enc P W' 0 sp true f.params.toList args.toList (s.fn H (ds++gs)).args pa)
 (hvars:∀sp:Nat→Bool,(∀p∈before,sp p.block=true)→DataW.TrodVars enc P W' sp s.vars (s.fn H (ds++gs)).vars pv)
 (hps:before=pa++pv) (hb:Below W.heap.size W W')
 (hok:∀(j:Nat) (t:TypeId) (r:Value),f.resultTypes[j]?=some t→(v.resultList f.resultTypes.size)[j]?=some r→Value.okWide P W' .any 0 t r) :
 s.post enc P f apart fresh handsOn again W args v W':=by
 have hlt:∀p∈before,p.block<W.heap.size:=fun p hp=>hW.lt p hp
 have hold:∀p∈before,(fun b=>decide (b<W.heap.size)) p.block=true:=fun p hp=>by simpa using hlt p hp
 refine⟨ds,gs,before,[],pa,pv,hW,hres _ _ _,hargs _ hold,hvars _ hold,World.keptBut_mono (fun p hp=>⟨hp,?_⟩) (hb.frame (·∈before)),fun _=>?_⟩
 ·rw [hps,List.mem_append] at hp
  exact Or.inr hp
 ·obtain⟨_,_,_,_,_,hz,hn⟩:=hW
  refine⟨hok,_,_,([]++pa)++pv,⟨[]++pa,pv,trodAll_append (hargs _ (fun _ _=>rfl)) (hres _ _ _),hvars _ (fun _ _=>rfl),rfl,?_,?_⟩,?_⟩
  ·intro b off hp
   have hin:MemPlace.cell b off∈before:=by rw [hps];simpa using hp
   rw [hb.frozen (hlt _ hin)]
   exact hz b off hin
  ·intro ha
   have:=hn ha
   rw [hps] at this
   simpa using this
  ·intro p hp _
   rw [hps]
   simpa using hp
theorem Ay {P:Program} {f:FuncId} {vs:List AV} (h:FPure P f vs (.b true)) (he:∀us w,(callFunc f us).run P w = .ok (.enter f us) w) {us:Array Value} {w:World} (hg:GlobOk (fun b=>b<w.heap.size) w) (hz:us.size=vs.length) (hr:∀j c,vs[j]?=some c→Rd (fun _=>none) (fun b=>b<w.heap.size) w c (us.getD j undef)) :
 Calls P f us w (fun e w'=>e = .returned (.bool true)∧Below w.heap.size w w'):=by
 refine ((h (fun _=>none)).calls he (ρ:=fun _=>none) (F:=fun b=>b<w.heap.size) ⟨fun b hb=>hb,⟨fun i k hk=>by simp [restr] at hk,fun i j b hi=>by simp [restr] at hi⟩,fun i _ _=>rfl,hg⟩ hz hr).mono ?_
 rintro e w' ⟨x,ρ',F',rfl,hp⟩
 refine⟨by rw [hp.rd.pv],?_⟩
 exact (hp.chg.mono (O':=fun _=>False) (fun b hb=>by obtain⟨i,hi,_⟩:=hb;simp [keys] at hi)).below
end Go.Proofs.YtebndjnkmcahaaaGreatDoor

/- own work: steps of the proof -/
import Derived.Test.YtgnmplopdkgccaaGreatDoorRows
import Derived.SevenTiedAt
import Derived.Test.YtgnmplopdkgccaaGreatDoorCards
set_option linter.all false
set_option maxHeartbeats 4000000
namespace Go.Proofs.YtgnmplopdkgccaaGreatDoor
open Go
theorem OQ{a b:Bool}(h:a=true)(k:b=true):(a&&b)=true:=by rw[h,k];rfl
theorem zB:joinedFacts Tryz.prog 3 Tryz.f3 Rows.keystoreAtomicSpec Rows.keystoreAtomicRow=true:=by
 unfold joinedFacts
 repeat' (with_reducible refine OQ ?_ ?_)
 all_goals (as_aux_lemma=>kernel_rfl)
theorem sF:Tryz.prog.funcNamed "passkey/passkeylaw17.KeystoreAtomic"=some 3:=by kernel_rfl
theorem Em:Tryz.f3.isInstance Tryz.prog Rows.keystoreAtomicRow.origin Rows.keystoreAtomicRow.targs:=of_decide_eq_true (by kernel_rfl)
theorem En:Tryz.f3.isWrapper Tryz.prog Rows.keystoreAtomicRow.wrapper Rows.keystoreAtomicRow.mainSum:=by
 unfold Func.isWrapper;first|(rw[if_pos (by decide +kernel)];kernel_rfl)|(rw[if_neg (by decide +kernel)];exact⟨rfl,rfl⟩)
theorem Eo:Rows.keystoreAtomicRow.wfByText (OpenSpec.ofChange Rows.keystoreAtomicSpec)=true:=by kernel_rfl
theorem BK:false=Tryz.prog.looks []:=by kernel_rfl
theorem BL:([3,22,23].all fun u => !Tryz.prog.wantsStandIn u)=true:=by kernel_rfl

/- own work: steps of the proof -/
import Derived.Test.YthojgcnbclfinaaGreatDoorRows
import Derived.SevenTiedAt
import Derived.Test.YthojgcnbclfinaaGreatDoorCards
set_option linter.all false
set_option maxHeartbeats 4000000
namespace Go.Proofs.YthojgcnbclfinaaGreatDoor
open Go
theorem OQ{a b:Bool}(h:a=true)(k:b=true):(a&&b)=true:=by rw[h,k];rfl
theorem zB:joinedFacts Tryz.prog 5 Tryz.f5 Rows.keystoreAddsSpec Rows.keystoreAddsRow=true:=by
 unfold joinedFacts
 repeat' (with_reducible refine OQ ?_ ?_)
 all_goals (as_aux_lemma=>kernel_rfl)
theorem sF:Tryz.prog.funcNamed "passkey/passkeylaw17.KeystoreAdds"=some 5:=by kernel_rfl
theorem Em:Tryz.f5.isInstance Tryz.prog Rows.keystoreAddsRow.origin Rows.keystoreAddsRow.targs:=of_decide_eq_true (by kernel_rfl)
theorem En:Tryz.f5.isWrapper Tryz.prog Rows.keystoreAddsRow.wrapper Rows.keystoreAddsRow.mainSum:=by
 unfold Func.isWrapper;first|(rw[if_pos (by decide +kernel)];kernel_rfl)|(rw[if_neg (by decide +kernel)];exact⟨rfl,rfl⟩)
theorem Eo:Rows.keystoreAddsRow.wfByText (OpenSpec.ofChange Rows.keystoreAddsSpec)=true:=by kernel_rfl
theorem BK:false=Tryz.prog.looks []:=by kernel_rfl
theorem BL:([3,22].all fun u => !Tryz.prog.wantsStandIn u)=true:=by kernel_rfl

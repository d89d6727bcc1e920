/-
  Calls whose arguments are frozen and whose results are the caller's own. Own work; no statement of the seat is proved here.
-/
import Derived.Test.YtebndjnkmcahaaaGreatDoorAbsT
namespace Go.Abs
set_option linter.unusedSimpArgs false
set_option linter.unusedVariables false
open Go Go.RowKit
variable {P : Program}

theorem callOk_fn {st : AS} {vs vs1 : List AV} {v0 : AV} {u0 : List (Nat × Option Blk)} {m : Nat} (e : fzL st.hp vs = vs1) (ho : fzOL st.hp vs) (hl1 : ltAll st.nx (fzIL vs) = true) (nd : nodupB ((keys u0).map (addN st.nx)) = true) (hlt : ltAll m (keys u0) = true) (idv : idsA (keys u0) v0) (idu : idsH (keys u0) u0) :
    CallOk st vs vs1 [] v0 u0 (fzIL vs) (addN st.nx) (st.nx + m) :=
  ⟨by rw [← e]; exact fzL_view _ _ _ vs (fun i hi => hi) ho, trivial, nd, liveS_of (fzIL_live _ _ ho), by omega, fun i hi => .inr (by have := ltAll_get hlt hi; unfold addN; omega), idv, idu, hl1⟩
theorem xw_callFN {c : Ctx} {E : AS → Prop} (hE : XOk c E) {ks : List Nat} {n : Nat} {f : FuncId} {vs vs1 : List AV} {v0 : AV} {u0 : List (Nat × Option Blk)} {o : Oper} {all : Array Oper} {os : List Oper} {k : List It} {st : AS} (m : Nat)
    (e : fzL st.hp vs = vs1) (ho : fzOL st.hp vs) (hl1 : ltAll st.nx (fzIL vs) = true) (hf : Con c.P f vs1 [] v0 u0) (nd : nodupB ((keys u0).map (addN st.nx)) = true) (hlt : ltAll m (keys u0) = true) (idv : idsA (keys u0) v0) (idu : idsH (keys u0) u0)
    (h : XW c E ks n (.ops all os :: k) (eff st o.dst (renA (addN st.nx) v0) (renU (addN st.nx) u0 ++ delL (fzIL vs)) (st.nx + m))) : CallG c f vs o all os k st :=
  xw_con hE (ks := ks) (n := n) (fzIL vs) (addN st.nx) (st.nx + m) hf (callOk_fn e ho hl1 nd hlt idv idu) h
theorem xd_callFN {c : Ctx} {E : AS → Prop} (hE : XOk c E) {ks : List Nat} {n : Nat} {f : FuncId} {vs vs1 : List AV} {v0 : AV} {u0 : List (Nat × Option Blk)} {o : Oper} {all : Array Oper} {os : List Oper} {acc : List FP} {k : List It} {st : AS} (m : Nat)
    (e : fzL st.hp vs = vs1) (ho : fzOL st.hp vs) (hl1 : ltAll st.nx (fzIL vs) = true) (hf : Con c.P f vs1 [] v0 u0) (nd : nodupB ((keys u0).map (addN st.nx)) = true) (hlt : ltAll m (keys u0) = true) (idv : idsA (keys u0) v0) (idu : idsH (keys u0) u0)
    (hx : ltAll (st.nx + m) (fzIL vs) = true)
    (h : DK c ks (XW c E ks n) all k os (acc ++ [(fzIL vs, keys (renU (addN st.nx) u0) ++ fzIL vs)]) (eff st o.dst (renA (addN st.nx) v0) (renU (addN st.nx) u0 ++ delL (fzIL vs)) (st.nx + m))) : CallD c f vs o all os acc k st := by
  refine xd_con hE (ks := ks) (n := n) (fzIL vs) (addN st.nx) (st.nx + m) hf (callOk_fn e ho hl1 nd hlt idv idu) (by simpa [liveK] using hx) ?_
  simpa [liveK, keys_app, keys_del] using h

end Go.Abs

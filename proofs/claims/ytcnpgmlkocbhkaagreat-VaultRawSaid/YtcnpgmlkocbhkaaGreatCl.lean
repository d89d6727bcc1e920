/-
  Clones of any bytes. Own work; no statement of the seat is proved here.
-/
import Derived.Test.YtcnpgmlkocbhkaaGreatVj
namespace Go.Proofs.YtcnpgmlkocbhkaaGreat
set_option linter.unusedSimpArgs false
set_option linter.unusedVariables false
open Go Go.Abs Go.RowKit

theorem FPure.ofNil {P : Program} {f : FuncId} {s : Nat} {v : AV} (h : ∀ A c, FPure P f [.p (.v (.slice A 0 c))] v) : FPure P f [.p (.data s 0 [])] v := by
  intro hh
  refine ⟨((h none 0) hh).enter, fun ρ F us w hpre hz hr => ?_⟩
  have h0 := hr 0 _ rfl
  have key : ∀ A c, us.getD 0 undef = .slice A 0 c → _ := fun A c e => ((h A c) hh).tri ρ F us w hpre hz (fun j x hj => by
    cases j with
    | zero => simp at hj; subst hj; rw [e]; exact .p _ _ (.v _ rfl)
    | succ j => simp at hj)
  rcases h0.dataInv with ⟨_, _, A, cap, e⟩ | ⟨b, off, cap, f, e, _⟩
  · exact key _ _ e
  · exact key _ _ e
theorem clone_n (c : Nat) : FPure Tryz.prog 50 [.p (.v (.slice none 0 c))] (.p (.data 1 0 [])) := by
  refine fpure_x hmix Tryz.func50 rfl (by kernel_rfl) Tryz.ntmps50 Tryz.results50 (by simp) (by simp [idsL, idsA]) [0, 2, 4] ?_; intro c hP h0 hE
  simp only [go_sem, Nat.reduceAdd, Nat.reduceMul, ↓reduceIte, reduceCtorEq, Nat.reduceLeDiff, Int.reduceToNat, Int.reduceLT, Int.reduceLE, Int.reduceEq, Int.reduceNe, Int.reduceBEq, Int.reduceBNe, not_false_eq_true, not_true_eq_false, hP]
theorem clone_e (a : Addr) (c : Nat) : FPure Tryz.prog 50 [.p (.v (.slice (some a) 0 c))] (.p (.data 1 0 [])) := by
  refine fpure_x hmix Tryz.func50 rfl (by kernel_rfl) Tryz.ntmps50 Tryz.results50 (by simp) (by simp [idsL, idsA]) [0, 2, 4] ?_; intro c hP h0 hE
  simp only [go_sem, Nat.reduceAdd, Nat.reduceMul, ↓reduceIte, reduceCtorEq, Nat.reduceLeDiff, Int.reduceToNat, Int.reduceLT, Int.reduceLE, Int.reduceEq, Int.reduceNe, Int.reduceBEq, Int.reduceBNe, not_false_eq_true, not_true_eq_false, hP]
theorem clone_all (cs : List PV) (n : Nat) (hn : cs.length = n) (hb : n ≤ 140737488355328) : FPure Tryz.prog 50 [.p (.data 1 n cs)] (.p (.data 1 n cs)) := by
  by_cases h : n = 0
  · subst h
    obtain rfl := List.eq_nil_of_length_eq_zero hn
    exact FPure.ofNil fun A c => by cases A with | none => exact clone_n c | some a => exact clone_e a c
  · refine fpure_x hmix Tryz.func50 rfl (by kernel_rfl) Tryz.ntmps50 Tryz.results50 (by simp) (by simp [idsL, idsA]) [0, 2, 4] ?_; intro c hP h0 hE
    simp only [go_sem, Nat.reduceAdd, Nat.reduceMul, ↓reduceIte, reduceCtorEq, Nat.reduceLeDiff, Int.reduceToNat, Int.reduceLT, Int.reduceLE, Int.reduceEq, Int.reduceNe, Int.reduceBEq, Int.reduceBNe, not_false_eq_true, not_true_eq_false, hP]
    rw [List.take_of_length_le (by simp; omega)]
    exact ⟨h, ⟨by omega, by omega⟩, ⟨by omega, allQ_map _⟩, unQs_map _⟩

end Go.Proofs.YtcnpgmlkocbhkaaGreat

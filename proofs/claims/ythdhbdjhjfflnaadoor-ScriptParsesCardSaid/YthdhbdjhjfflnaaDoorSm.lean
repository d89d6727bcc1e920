/-
  The law ScriptParses: the contract of its function. Own work.
-/
import Derived.Test.YthdhbdjhjfflnaaDoorSl
namespace Go.Proofs.YthdhbdjhjfflnaaDoor
set_option linter.unusedSimpArgs false
set_option linter.unusedVariables false
open Go Go.Abs Go.RowKit

/-- the further lines of the law's text -/
def textM (l : List Int) : Nat → List UInt8 → Nat → List UInt8
  | 0, t, _ => t
  | k + 1, t, a => textM l k (t ++ (10 :: (lnM l a).1)) (lnM l a).2

set_option maxHeartbeats 4000000 in
theorem law_c (s : List UInt8) (l : List Int) (hs : s.length ≤ 9223372036854775807) (hl : l.length ≤ 9223372036854775807) : FPure Tryd.prog 3 [sv s, .p (.data 1 l.length (l.map intP))] (.b true) := by
  refine fpure_x hmix Tryd.func3 rfl (by kernel_rfl) Tryd.ntmps3 Tryd.results3 (by simp) (by simp [idsL, idsA]) [0, 1, 4, 5, 6, 7, 8, 11, 21] ?_; intro c hP h0 hE
  by_cases c1 : (s.length : Int) > 2000
  · simp only [go_sem, Nat.reduceAdd, Nat.reduceMul, ↓reduceIte, reduceCtorEq, Nat.reduceLeDiff, Int.reduceToNat, Int.reduceLT, Int.reduceLE, Int.reduceEq, Int.reduceNe, Int.reduceBEq, Int.reduceBNe, not_false_eq_true, not_true_eq_false, hP, c1]
    first | refine xw_call hE (ks := [0, 1, 4, 5, 6, 7, 8, 11, 21]) (n := 2000) (by rw [hP]; exact awake_c) ?_ | refine xd_call hE (ks := [0, 1, 4, 5, 6, 7, 8, 11, 21]) (n := 2000) (by rw [hP]; exact awake_c) ?_
    simp only [go_sem, Nat.reduceAdd, Nat.reduceMul, ↓reduceIte, reduceCtorEq, Nat.reduceLeDiff, Int.reduceToNat, Int.reduceLT, Int.reduceLE, Int.reduceEq, Int.reduceNe, Int.reduceBEq, Int.reduceBNe, not_false_eq_true, not_true_eq_false, hP]
  · simp only [go_sem, Nat.reduceAdd, Nat.reduceMul, ↓reduceIte, reduceCtorEq, Nat.reduceLeDiff, Int.reduceToNat, Int.reduceLT, Int.reduceLE, Int.reduceEq, Int.reduceNe, Int.reduceBEq, Int.reduceBNe, not_false_eq_true, not_true_eq_false, hP, c1]
    refine xw_new hE (ks := [0, 1, 4, 5, 6, 7, 8, 11, 21]) (n := 2000) 1 (by rw [hP]; exact new_c l) rfl rfl (by simp [idsA, idsL, keys]) (by simp [idsH, idsL, idsA]) ?_
    simp only [go_sem, Nat.reduceAdd, Nat.reduceMul, ↓reduceIte, reduceCtorEq, Nat.reduceLeDiff, Int.reduceToNat, Int.reduceLT, Int.reduceLE, Int.reduceEq, Int.reduceNe, Int.reduceBEq, Int.reduceBNe, not_false_eq_true, not_true_eq_false, hP]
    have h1 := lnM_ok l (Nat.zero_le l.length)
    refine xw_con hE (ks := [0, 1, 4, 5, 6, 7, 8, 11, 21]) (n := 2000) [] (fun i => i) 1 (by rw [hP]; exact line_c l 0 hl (Nat.zero_le _)) ⟨by simp only [go_sem, Nat.reduceAdd, Nat.reduceMul, ↓reduceIte, reduceCtorEq, Nat.reduceLeDiff, Int.reduceToNat, Int.reduceLT, Int.reduceLE, Int.reduceEq, Int.reduceNe, Int.reduceBEq, Int.reduceBNe, not_false_eq_true, not_true_eq_false], by simp only [go_sem, Nat.reduceAdd, Nat.reduceMul, ↓reduceIte, reduceCtorEq, Nat.reduceLeDiff, Int.reduceToNat, Int.reduceLT, Int.reduceLE, Int.reduceEq, Int.reduceNe, Int.reduceBEq, Int.reduceBNe, not_false_eq_true, not_true_eq_false], rfl, trivial, Nat.le_of_ble_eq_true rfl, fun i hi => .inl (by simp [keys] at hi; simp [liveK, hi]), by simp [idsA], by simp [idsH, idsL, idsA], rfl⟩ ?_
    generalize lnM l 0 = L1 at *
    simp only [go_sem, Nat.reduceAdd, Nat.reduceMul, ↓reduceIte, reduceCtorEq, Nat.reduceLeDiff, Int.reduceToNat, Int.reduceLT, Int.reduceLE, Int.reduceEq, Int.reduceNe, Int.reduceBEq, Int.reduceBNe, not_false_eq_true, not_true_eq_false, hP]
    have h2 := nextM_ok l (n := 6) h1.2 (by omega)
    refine xw_con hE (ks := [0, 1, 4, 5, 6, 7, 8, 11, 21]) (n := 2000) [] (fun i => i) 1 (by rw [hP]; exact next_c l L1.2 6 hl h1.2 (by omega) (by omega)) ⟨by simp only [go_sem, Nat.reduceAdd, Nat.reduceMul, ↓reduceIte, reduceCtorEq, Nat.reduceLeDiff, Int.reduceToNat, Int.reduceLT, Int.reduceLE, Int.reduceEq, Int.reduceNe, Int.reduceBEq, Int.reduceBNe, not_false_eq_true, not_true_eq_false], by simp only [go_sem, Nat.reduceAdd, Nat.reduceMul, ↓reduceIte, reduceCtorEq, Nat.reduceLeDiff, Int.reduceToNat, Int.reduceLT, Int.reduceLE, Int.reduceEq, Int.reduceNe, Int.reduceBEq, Int.reduceBNe, not_false_eq_true, not_true_eq_false], rfl, trivial, Nat.le_of_ble_eq_true rfl, fun i hi => .inl (by simp [keys] at hi; simp [liveK, hi]), by simp [idsA], by simp [idsH, idsL, idsA], rfl⟩ ?_
    generalize nextM l L1.2 6 = N6 at *
    simp only [go_sem, Nat.reduceAdd, Nat.reduceMul, ↓reduceIte, reduceCtorEq, Nat.reduceLeDiff, Int.reduceToNat, Int.reduceLT, Int.reduceLE, Int.reduceEq, Int.reduceNe, Int.reduceBEq, Int.reduceBNe, not_false_eq_true, not_true_eq_false, hP]
    refine xw_loop hE h0 [0, 1, 4, 5, 6, 7, 8, 11, 21] (α := { p : Nat × List UInt8 × Nat // p.1 ≤ 5 ∧ p.2.1.length + 201 * p.1 ≤ 2000 ∧ p.2.2 ≤ l.length }) (fun p => ⟨57, [(0, sv s), (5, .ptr 0 0), (6, sv L1.1), (7, sv p.1.2.1), (8, .i p.1.1)], deckB l p.1.2.2, 1⟩) (fun p => p.1.1) ⟨(N6.1.toNat, L1.1, N6.2), by simp only; omega, by simp only; omega, h2.2.2⟩ [] (fun i => i) ?_ ?_
    · have e6 : ((N6.1.toNat : Nat) : Int) = N6.1 := by omega
      refine ⟨rfl, ?_, ?_, rfl, rfl, trivial, fun i h => h⟩
      · simp only [go_sem, Nat.reduceAdd, Nat.reduceMul, ↓reduceIte, reduceCtorEq, Nat.reduceLeDiff, Int.reduceToNat, Int.reduceLT, Int.reduceLE, Int.reduceEq, Int.reduceNe, Int.reduceBEq, Int.reduceBNe, not_false_eq_true, not_true_eq_false, e6]
      · simp only [go_sem, Nat.reduceAdd, Nat.reduceMul, ↓reduceIte, reduceCtorEq, Nat.reduceLeDiff, Int.reduceToNat, Int.reduceLT, Int.reduceLE, Int.reduceEq, Int.reduceNe, Int.reduceBEq, Int.reduceBNe, not_false_eq_true, not_true_eq_false]
    · rintro ⟨⟨k, t, b⟩, hk, ht, hb⟩
      simp only at hk ht hb
      cases k with
      | zero =>
        have hz : ¬ ((0 : Int) > 0) := by omega
        simp only [go_sem, Nat.reduceAdd, Nat.reduceMul, ↓reduceIte, reduceCtorEq, Nat.reduceLeDiff, Int.reduceToNat, Int.reduceLT, Int.reduceLE, Int.reduceEq, Int.reduceNe, Int.reduceBEq, Int.reduceBNe, not_false_eq_true, not_true_eq_false, hP, hz]
        first | refine xw_call hE (ks := [0, 1, 4, 5, 6, 7, 8, 11, 21]) (n := 2000) (by rw [hP]; exact parses_c s (by omega)) ?_ | refine xd_call hE (ks := [0, 1, 4, 5, 6, 7, 8, 11, 21]) (n := 2000) (by rw [hP]; exact parses_c s (by omega)) ?_
        simp only [go_sem, Nat.reduceAdd, Nat.reduceMul, ↓reduceIte, reduceCtorEq, Nat.reduceLeDiff, Int.reduceToNat, Int.reduceLT, Int.reduceLE, Int.reduceEq, Int.reduceNe, Int.reduceBEq, Int.reduceBNe, not_false_eq_true, not_true_eq_false, hP]
        first | refine xw_call hE (ks := [0, 1, 4, 5, 6, 7, 8, 11, 21]) (n := 2000) (by rw [hP]; exact parses_c L1.1 (by omega)) ?_ | refine xd_call hE (ks := [0, 1, 4, 5, 6, 7, 8, 11, 21]) (n := 2000) (by rw [hP]; exact parses_c L1.1 (by omega)) ?_
        simp only [go_sem, Nat.reduceAdd, Nat.reduceMul, ↓reduceIte, reduceCtorEq, Nat.reduceLeDiff, Int.reduceToNat, Int.reduceLT, Int.reduceLE, Int.reduceEq, Int.reduceNe, Int.reduceBEq, Int.reduceBNe, not_false_eq_true, not_true_eq_false, hP]
        first | refine xw_call hE (ks := [0, 1, 4, 5, 6, 7, 8, 11, 21]) (n := 2000) (by rw [hP]; exact parses_c t (by omega)) ?_ | refine xd_call hE (ks := [0, 1, 4, 5, 6, 7, 8, 11, 21]) (n := 2000) (by rw [hP]; exact parses_c t (by omega)) ?_
        simp only [go_sem, Nat.reduceAdd, Nat.reduceMul, ↓reduceIte, reduceCtorEq, Nat.reduceLeDiff, Int.reduceToNat, Int.reduceLT, Int.reduceLE, Int.reduceEq, Int.reduceNe, Int.reduceBEq, Int.reduceBNe, not_false_eq_true, not_true_eq_false, hP]
        refine ⟨by omega, ?_⟩
        first | refine xw_call hE (ks := [0, 1, 4, 5, 6, 7, 8, 11, 21]) (n := 2000) (by rw [hP]; exact parses_c (t ++ [10]) (by simp; omega)) ?_ | refine xd_call hE (ks := [0, 1, 4, 5, 6, 7, 8, 11, 21]) (n := 2000) (by rw [hP]; exact parses_c (t ++ [10]) (by simp; omega)) ?_
        simp only [go_sem, Nat.reduceAdd, Nat.reduceMul, ↓reduceIte, reduceCtorEq, Nat.reduceLeDiff, Int.reduceToNat, Int.reduceLT, Int.reduceLE, Int.reduceEq, Int.reduceNe, Int.reduceBEq, Int.reduceBNe, not_false_eq_true, not_true_eq_false, hP]
        refine ⟨by omega, ?_⟩
        first | refine xw_call hE (ks := [0, 1, 4, 5, 6, 7, 8, 11, 21]) (n := 2000) (by rw [hP]; exact parses_c (t ++ [10, 10]) (by simp; omega)) ?_ | refine xd_call hE (ks := [0, 1, 4, 5, 6, 7, 8, 11, 21]) (n := 2000) (by rw [hP]; exact parses_c (t ++ [10, 10]) (by simp; omega)) ?_
        simp only [go_sem, Nat.reduceAdd, Nat.reduceMul, ↓reduceIte, reduceCtorEq, Nat.reduceLeDiff, Int.reduceToNat, Int.reduceLT, Int.reduceLE, Int.reduceEq, Int.reduceNe, Int.reduceBEq, Int.reduceBNe, not_false_eq_true, not_true_eq_false, hP]
        refine ⟨by omega, ?_⟩
        first | refine xw_call hE (ks := [0, 1, 4, 5, 6, 7, 8, 11, 21]) (n := 2000) (by rw [hP]; exact parses_c ([116, 105, 99, 107, 32, 49, 10] ++ s) (by simp; omega)) ?_ | refine xd_call hE (ks := [0, 1, 4, 5, 6, 7, 8, 11, 21]) (n := 2000) (by rw [hP]; exact parses_c ([116, 105, 99, 107, 32, 49, 10] ++ s) (by simp; omega)) ?_
        simp only [go_sem, Nat.reduceAdd, Nat.reduceMul, ↓reduceIte, reduceCtorEq, Nat.reduceLeDiff, Int.reduceToNat, Int.reduceLT, Int.reduceLE, Int.reduceEq, Int.reduceNe, Int.reduceBEq, Int.reduceBNe, not_false_eq_true, not_true_eq_false, hP]
        first | refine xw_call hE (ks := [0, 1, 4, 5, 6, 7, 8, 11, 21]) (n := 2000) (by rw [hP]; exact awake_c) ?_ | refine xd_call hE (ks := [0, 1, 4, 5, 6, 7, 8, 11, 21]) (n := 2000) (by rw [hP]; exact awake_c) ?_
        simp only [go_sem, Nat.reduceAdd, Nat.reduceMul, ↓reduceIte, reduceCtorEq, Nat.reduceLeDiff, Int.reduceToNat, Int.reduceLT, Int.reduceLE, Int.reduceEq, Int.reduceNe, Int.reduceBEq, Int.reduceBNe, not_false_eq_true, not_true_eq_false, hP]
      | succ k =>
        have hp : (((k + 1 : Nat) : Int) > 0) := by omega
        have hw : IntKind.i64.wrap (((k + 1 : Nat) : Int) - 1) = (k : Int) := by rw [wrap_i64_id (by omega) (by omega)]; omega
        have h3 := lnM_ok l hb
        simp only [go_sem, Nat.reduceAdd, Nat.reduceMul, ↓reduceIte, reduceCtorEq, Nat.reduceLeDiff, Int.reduceToNat, Int.reduceLT, Int.reduceLE, Int.reduceEq, Int.reduceNe, Int.reduceBEq, Int.reduceBNe, not_false_eq_true, not_true_eq_false, hP, hp]
        refine xw_con hE (ks := [0, 1, 4, 5, 6, 7, 8, 11, 21]) (n := 2000) [] (fun i => i) 1 (by rw [hP]; exact line_c l b hl hb) ⟨by simp only [go_sem, Nat.reduceAdd, Nat.reduceMul, ↓reduceIte, reduceCtorEq, Nat.reduceLeDiff, Int.reduceToNat, Int.reduceLT, Int.reduceLE, Int.reduceEq, Int.reduceNe, Int.reduceBEq, Int.reduceBNe, not_false_eq_true, not_true_eq_false], by simp only [go_sem, Nat.reduceAdd, Nat.reduceMul, ↓reduceIte, reduceCtorEq, Nat.reduceLeDiff, Int.reduceToNat, Int.reduceLT, Int.reduceLE, Int.reduceEq, Int.reduceNe, Int.reduceBEq, Int.reduceBNe, not_false_eq_true, not_true_eq_false], rfl, trivial, Nat.le_of_ble_eq_true rfl, fun i hi => .inl (by simp [keys] at hi; simp [liveK, hi]), by simp [idsA], by simp [idsH, idsL, idsA], rfl⟩ ?_
        generalize lnM l b = L2 at *
        simp only [go_sem, Nat.reduceAdd, Nat.reduceMul, ↓reduceIte, reduceCtorEq, Nat.reduceLeDiff, Int.reduceToNat, Int.reduceLT, Int.reduceLE, Int.reduceEq, Int.reduceNe, Int.reduceBEq, Int.reduceBNe, not_false_eq_true, not_true_eq_false, hP, hw]
        refine ⟨by omega, by omega, ⟨(k, t ++ 10 :: L2.1, L2.2), by simp only; omega, by simp only [List.length_append, List.length_cons]; omega, h3.2⟩, by simp, subG [0] rfl ?_ ?_ rfl rfl (Nat.le_refl _)⟩
        · simp only [go_sem, Nat.reduceAdd, Nat.reduceMul, ↓reduceIte, reduceCtorEq, Nat.reduceLeDiff, Int.reduceToNat, Int.reduceLT, Int.reduceLE, Int.reduceEq, Int.reduceNe, Int.reduceBEq, Int.reduceBNe, not_false_eq_true, not_true_eq_false]
        · simp only [go_sem, Nat.reduceAdd, Nat.reduceMul, ↓reduceIte, reduceCtorEq, Nat.reduceLeDiff, Int.reduceToNat, Int.reduceLT, Int.reduceLE, Int.reduceEq, Int.reduceNe, Int.reduceBEq, Int.reduceBNe, not_false_eq_true, not_true_eq_false]

end Go.Proofs.YthdhbdjhjfflnaaDoor

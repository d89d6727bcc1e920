/-
  Contracts of the numbers of scripts, as the program and as the reference read them. Own work; no statement of the seat is proved here.
-/
import Derived.Test.YthdhbdjhjfflnaaDoorSb
namespace Go.Proofs.YthdhbdjhjfflnaaDoor
set_option linter.unusedSimpArgs false
set_option linter.unusedVariables false
open Go Go.Abs Go.RowKit

theorem numM_bad {s : List UInt8} (h : s.length < 1 ∨ 10 < s.length ∨ (1 < s.length ∧ s.getD 0 0 = 48)) : numM s = (0, false) := by
  unfold numM
  rw [if_pos]
  rcases h with h | h | ⟨h, g⟩
  · exact .inl h
  · exact .inr (.inl h)
  · exact .inr (.inr ⟨h, by rw [getD_at (d := 0) (by omega), g]⟩)
theorem numM_go {s : List UInt8} (h1 : ¬ s.length < 1) (h2 : ¬ 10 < s.length) (h3 : ¬ (1 < s.length ∧ s.getD 0 0 = 48)) : numM s = match digM s 0 with
    | none => (0, false)
    | some n => (n, decide (n ≤ 2147483647)) := by
  unfold numM
  rw [if_neg]
  · rfl
  · rintro (h | h | ⟨h, g⟩)
    · exact h1 h
    · exact h2 h
    · rw [getD_at (d := 0) (by omega)] at g; exact h3 ⟨h, Option.some.inj g⟩
theorem drop_at {α : Type} {s : List α} {i : Nat} {d : α} (h : i < s.length) : s.drop i = s.getD i d :: s.drop (i + 1) := by
  rw [List.drop_eq_getElem_cons h]; simp [List.getD_eq_getElem?_getD, h]
theorem digM_no {s : List UInt8} {i : Nat} {a : Int} (hi : i < s.length) (h : s.getD i 0 < 48 ∨ 57 < s.getD i 0) : digM (s.drop i) a = none := by
  rw [drop_at (d := 0) hi, digM, if_pos h]
theorem digM_go {s : List UInt8} {i : Nat} {a : Int} (hi : i < s.length) (h : ¬ (s.getD i 0 < 48 ∨ 57 < s.getD i 0)) : digM (s.drop i) a = digM (s.drop (i + 1)) (10 * a + (((s.getD i 0).toNat : Int) - 48)) := by
  rw [drop_at (d := 0) hi, digM, if_neg h]
theorem pow10_le {i : Nat} (h : i ≤ 10) : (10 : Int) ^ i ≤ 10000000000 := by
  have := Nat.pow_le_pow_right (n := 10) (by decide) h
  have e : ((10 ^ i : Nat) : Int) = (10 : Int) ^ i := by simp
  rw [← e]
  have : 10 ^ 10 = 10000000000 := rfl
  omega

theorem y_lt (x : UInt8) : x < 48 ↔ (x.toNat : Int) < 48 := by rw [UInt8.lt_iff_toNat_lt]; show x.toNat < 48 ↔ _; omega
theorem y_gt (x : UInt8) : 57 < x ↔ (x.toNat : Int) > 57 := by rw [UInt8.lt_iff_toNat_lt]; show 57 < x.toNat ↔ _; omega
set_option maxHeartbeats 1000000 in
theorem num_c (s : List UInt8) : FPure Tryd.prog 33 [sv s] (.tup [.i (numM s).1, .b (numM s).2]) := by
  refine fpure_x hmix Tryd.func33 rfl (by kernel_rfl) Tryd.ntmps33 Tryd.results33 (by simp) (by simp [idsL, idsA]) [0, 2, 3, 4, 5, 23, 25, 26, 27, 38] ?_; intro c hP h0 hE
  by_cases c1 : (s.length : Int) < 1
  · rw [numM_bad (.inl (by omega))]
    simp only [go_sem, Nat.reduceAdd, Nat.reduceMul, ↓reduceIte, reduceCtorEq, Nat.reduceLeDiff, Int.reduceToNat, Int.reduceLT, Int.reduceLE, Int.reduceEq, Int.reduceNe, Int.reduceBEq, Int.reduceBNe, not_false_eq_true, not_true_eq_false, hP, c1, decide_true]
  by_cases c2 : (s.length : Int) > 10
  · rw [numM_bad (.inr (.inl (by omega)))]
    simp only [go_sem, Nat.reduceAdd, Nat.reduceMul, ↓reduceIte, reduceCtorEq, Nat.reduceLeDiff, Int.reduceToNat, Int.reduceLT, Int.reduceLE, Int.reduceEq, Int.reduceNe, Int.reduceBEq, Int.reduceBNe, not_false_eq_true, not_true_eq_false, hP, c1, c2, decide_true, decide_false]
  by_cases c3 : (s.length : Int) > 1 ∧ s.getD 0 0 = 48
  · rw [numM_bad (.inr (.inr ⟨by omega, c3.2⟩))]
    simp only [go_sem, Nat.reduceAdd, Nat.reduceMul, ↓reduceIte, reduceCtorEq, Nat.reduceLeDiff, Int.reduceToNat, Int.reduceLT, Int.reduceLE, Int.reduceEq, Int.reduceNe, Int.reduceBEq, Int.reduceBNe, not_false_eq_true, not_true_eq_false, hP, c1, c2, c3.1, c3.2, decide_true, decide_false]
    omega
  have hgo := numM_go (s := s) (by omega) (by omega) (fun h => c3 ⟨by omega, h.2⟩)
  obtain ⟨R, hR⟩ : ∃ R, numM s = R := ⟨_, rfl⟩; rw [hR] at hE; (try rw [hR])
  rw [hR] at hgo
  by_cases c4 : (s.length : Int) > 1
  all_goals first
    | (have c5 : ¬ s.getD 0 0 = 48 := fun e => c3 ⟨c4, e⟩
       simp only [go_sem, Nat.reduceAdd, Nat.reduceMul, ↓reduceIte, reduceCtorEq, Nat.reduceLeDiff, Int.reduceToNat, Int.reduceLT, Int.reduceLE, Int.reduceEq, Int.reduceNe, Int.reduceBEq, Int.reduceBNe, not_false_eq_true, not_true_eq_false, hP, c1, c2, c4, c5, decide_true, decide_false]
       refine ⟨by omega, ?_⟩)
    | simp only [go_sem, Nat.reduceAdd, Nat.reduceMul, ↓reduceIte, reduceCtorEq, Nat.reduceLeDiff, Int.reduceToNat, Int.reduceLT, Int.reduceLE, Int.reduceEq, Int.reduceNe, Int.reduceBEq, Int.reduceBNe, not_false_eq_true, not_true_eq_false, hP, c1, c2, c4, decide_true, decide_false]
  all_goals
    refine xw_loop hE h0 [0, 2, 3, 4, 5, 23, 25, 26, 27, 38] (α := { p : Nat × Int // p.1 ≤ s.length ∧ 0 ≤ p.2 ∧ p.2 < 10 ^ p.1 ∧ digM (s.drop p.1) p.2 = digM s 0 }) (fun p => ⟨51, [(0, sv s), (4, .i p.1.2), (25, .i s.length), (26, .i p.1.1)], [], 0⟩) (fun p => s.length - p.1.1) ⟨(0, 0), Nat.zero_le _, by simp, by simp, by simp⟩ [] (fun i => i) ?_ ?_
    · refine ⟨rfl, ?_, trivial, rfl, rfl, trivial, fun i h => h⟩
      simp only [go_sem, Nat.reduceAdd, Nat.reduceMul, ↓reduceIte, reduceCtorEq, Nat.reduceLeDiff, Int.reduceToNat, Int.reduceLT, Int.reduceLE, Int.reduceEq, Int.reduceNe, Int.reduceBEq, Int.reduceBNe, not_false_eq_true, not_true_eq_false]
    · rintro ⟨⟨i, a⟩, hi, ha0, ha1, hd⟩
      simp only at hi ha0 ha1 hd
      have hp := pow10_le (i := i) (by omega)
      rcases Nat.lt_or_ge i s.length with hin | hin
      · have hc : ((i : Int) < (s.length : Int)) := by omega
        have hw := w_succ (i := i) (by omega)
        by_cases hx : s.getD i 0 < 48 ∨ 57 < s.getD i 0
        · rw [digM_no hin hx] at hd
          rw [← hd] at hgo
          simp only at hgo
          subst hgo
          rcases hx with hx | hx
          · have hx' : ((s.getD i 0).toNat : Int) < 48 := (y_lt _).1 hx
            simp only [go_sem, Nat.reduceAdd, Nat.reduceMul, ↓reduceIte, reduceCtorEq, Nat.reduceLeDiff, Int.reduceToNat, Int.reduceLT, Int.reduceLE, Int.reduceEq, Int.reduceNe, Int.reduceBEq, Int.reduceBNe, not_false_eq_true, not_true_eq_false, hP, hc, hw, hx', decide_true]
            omega
          · have hx' : ((s.getD i 0).toNat : Int) > 57 := (y_gt _).1 hx
            have hx2 : ¬ ((s.getD i 0).toNat : Int) < 48 := by omega
            simp only [go_sem, Nat.reduceAdd, Nat.reduceMul, ↓reduceIte, reduceCtorEq, Nat.reduceLeDiff, Int.reduceToNat, Int.reduceLT, Int.reduceLE, Int.reduceEq, Int.reduceNe, Int.reduceBEq, Int.reduceBNe, not_false_eq_true, not_true_eq_false, hP, hc, hw, hx', hx2, decide_true, decide_false]
            omega
        · have h1 : ¬ ((s.getD i 0).toNat : Int) < 48 := fun e => hx (.inl ((y_lt _).2 e))
          have h2 : ¬ ((s.getD i 0).toNat : Int) > 57 := fun e => hx (.inr ((y_gt _).2 e))
          rw [digM_go hin hx] at hd
          have hw1 : IntKind.i64.wrap (10 * a) = 10 * a := wrap_i64_id (by omega) (by omega)
          have hw2 : IntKind.u8.wrap (((s.getD i 0).toNat : Int) - 48) = ((s.getD i 0).toNat : Int) - 48 := by rw [wrap_u8_def]; omega
          have hw3 : IntKind.i64.wrap (((s.getD i 0).toNat : Int) - 48) = ((s.getD i 0).toNat : Int) - 48 := wrap_i64_id (by omega) (by omega)
          have hw4 : IntKind.i64.wrap (10 * a + (((s.getD i 0).toNat : Int) - 48)) = 10 * a + (((s.getD i 0).toNat : Int) - 48) := wrap_i64_id (by omega) (by omega)
          simp only [go_sem, Nat.reduceAdd, Nat.reduceMul, ↓reduceIte, reduceCtorEq, Nat.reduceLeDiff, Int.reduceToNat, Int.reduceLT, Int.reduceLE, Int.reduceEq, Int.reduceNe, Int.reduceBEq, Int.reduceBNe, not_false_eq_true, not_true_eq_false, hP, hc, hw, h1, h2, hw1, hw2, hw3, hw4, decide_true, decide_false]
          refine ⟨by omega, by omega, by omega, ⟨(i + 1, _), by simp only; omega, ?_, ?_, hd⟩, by show s.length - (i + 1) < s.length - i; omega, subI rfl ?_ ?_ rfl rfl (Nat.le_refl _)⟩
          · simp only; omega
          · simp only; rw [Int.pow_succ]; omega
          · simp only [go_sem, Nat.reduceAdd, Nat.reduceMul, ↓reduceIte, reduceCtorEq, Nat.reduceLeDiff, Int.reduceToNat, Int.reduceLT, Int.reduceLE, Int.reduceEq, Int.reduceNe, Int.reduceBEq, Int.reduceBNe, not_false_eq_true, not_true_eq_false]
          · simp only [go_sem, Nat.reduceAdd, Nat.reduceMul, ↓reduceIte, reduceCtorEq, Nat.reduceLeDiff, Int.reduceToNat, Int.reduceLT, Int.reduceLE, Int.reduceEq, Int.reduceNe, Int.reduceBEq, Int.reduceBNe, not_false_eq_true, not_true_eq_false]
      · obtain rfl : i = s.length := by omega
        have hnc : ¬ ((s.length : Int) < (s.length : Int)) := by omega
        rw [List.drop_eq_nil_of_le (Nat.le_refl _), digM] at hd
        rw [← hd] at hgo
        simp only at hgo
        subst hgo
        simp only [go_sem, Nat.reduceAdd, Nat.reduceMul, ↓reduceIte, reduceCtorEq, Nat.reduceLeDiff, Int.reduceToNat, Int.reduceLT, Int.reduceLE, Int.reduceEq, Int.reduceNe, Int.reduceBEq, Int.reduceBNe, not_false_eq_true, not_true_eq_false, hP, hnc]

set_option maxHeartbeats 1000000 in
theorem dig_c (s : List UInt8) : FPure Tryd.prog 45 [sv s] (.tup [.i (numM s).1, .b (numM s).2]) := by
  refine fpure_x hmix Tryd.func45 rfl (by kernel_rfl) Tryd.ntmps45 Tryd.results45 (by simp) (by simp [idsL, idsA]) [0, 2, 3, 4, 5, 23, 27, 39] ?_; intro c hP h0 hE
  by_cases c1 : (s.length : Int) < 1
  · rw [numM_bad (.inl (by omega))]
    simp only [go_sem, Nat.reduceAdd, Nat.reduceMul, ↓reduceIte, reduceCtorEq, Nat.reduceLeDiff, Int.reduceToNat, Int.reduceLT, Int.reduceLE, Int.reduceEq, Int.reduceNe, Int.reduceBEq, Int.reduceBNe, not_false_eq_true, not_true_eq_false, hP, c1, decide_true]
  by_cases c2 : (s.length : Int) > 10
  · rw [numM_bad (.inr (.inl (by omega)))]
    simp only [go_sem, Nat.reduceAdd, Nat.reduceMul, ↓reduceIte, reduceCtorEq, Nat.reduceLeDiff, Int.reduceToNat, Int.reduceLT, Int.reduceLE, Int.reduceEq, Int.reduceNe, Int.reduceBEq, Int.reduceBNe, not_false_eq_true, not_true_eq_false, hP, c1, c2, decide_true, decide_false]
  by_cases c3 : (s.length : Int) > 1 ∧ s.getD 0 0 = 48
  · rw [numM_bad (.inr (.inr ⟨by omega, c3.2⟩))]
    simp only [go_sem, Nat.reduceAdd, Nat.reduceMul, ↓reduceIte, reduceCtorEq, Nat.reduceLeDiff, Int.reduceToNat, Int.reduceLT, Int.reduceLE, Int.reduceEq, Int.reduceNe, Int.reduceBEq, Int.reduceBNe, not_false_eq_true, not_true_eq_false, hP, c1, c2, c3.1, c3.2, decide_true, decide_false]
    omega
  have hgo := numM_go (s := s) (by omega) (by omega) (fun h => c3 ⟨by omega, h.2⟩)
  obtain ⟨R, hR⟩ : ∃ R, numM s = R := ⟨_, rfl⟩; rw [hR] at hE; (try rw [hR])
  rw [hR] at hgo
  by_cases c4 : (s.length : Int) > 1
  all_goals first
    | (have c5 : ¬ s.getD 0 0 = 48 := fun e => c3 ⟨c4, e⟩
       simp only [go_sem, Nat.reduceAdd, Nat.reduceMul, ↓reduceIte, reduceCtorEq, Nat.reduceLeDiff, Int.reduceToNat, Int.reduceLT, Int.reduceLE, Int.reduceEq, Int.reduceNe, Int.reduceBEq, Int.reduceBNe, not_false_eq_true, not_true_eq_false, hP, c1, c2, c4, c5, decide_true, decide_false]
       refine ⟨by omega, ?_⟩)
    | simp only [go_sem, Nat.reduceAdd, Nat.reduceMul, ↓reduceIte, reduceCtorEq, Nat.reduceLeDiff, Int.reduceToNat, Int.reduceLT, Int.reduceLE, Int.reduceEq, Int.reduceNe, Int.reduceBEq, Int.reduceBNe, not_false_eq_true, not_true_eq_false, hP, c1, c2, c4, decide_true, decide_false]
  all_goals
    refine xw_loop hE h0 [0, 2, 3, 4, 5, 23, 27, 39] (α := { p : Nat × Int // p.1 ≤ s.length ∧ 0 ≤ p.2 ∧ p.2 < 10 ^ p.1 ∧ digM (s.drop p.1) p.2 = digM s 0 }) (fun p => ⟨51, [(0, sv s), (4, .i p.1.2), (5, .i p.1.1)], [], 0⟩) (fun p => s.length - p.1.1) ⟨(0, 0), Nat.zero_le _, by simp, by simp, by simp⟩ [] (fun i => i) ?_ ?_
    · refine ⟨rfl, ?_, trivial, rfl, rfl, trivial, fun i h => h⟩
      simp only [go_sem, Nat.reduceAdd, Nat.reduceMul, ↓reduceIte, reduceCtorEq, Nat.reduceLeDiff, Int.reduceToNat, Int.reduceLT, Int.reduceLE, Int.reduceEq, Int.reduceNe, Int.reduceBEq, Int.reduceBNe, not_false_eq_true, not_true_eq_false]
    · rintro ⟨⟨i, a⟩, hi, ha0, ha1, hd⟩
      simp only at hi ha0 ha1 hd
      have hp := pow10_le (i := i) (by omega)
      rcases Nat.lt_or_ge i s.length with hin | hin
      · have hc : ((i : Int) < (s.length : Int)) := by omega
        have hw := w_succ (i := i) (by omega)
        by_cases hx : s.getD i 0 < 48 ∨ 57 < s.getD i 0
        · rw [digM_no hin hx] at hd
          rw [← hd] at hgo
          simp only at hgo
          subst hgo
          rcases hx with hx | hx
          · have hx' : ((s.getD i 0).toNat : Int) < 48 := (y_lt _).1 hx
            simp only [go_sem, Nat.reduceAdd, Nat.reduceMul, ↓reduceIte, reduceCtorEq, Nat.reduceLeDiff, Int.reduceToNat, Int.reduceLT, Int.reduceLE, Int.reduceEq, Int.reduceNe, Int.reduceBEq, Int.reduceBNe, not_false_eq_true, not_true_eq_false, hP, hc, hw, hx', decide_true]
            omega
          · have hx' : ((s.getD i 0).toNat : Int) > 57 := (y_gt _).1 hx
            have hx2 : ¬ ((s.getD i 0).toNat : Int) < 48 := by omega
            simp only [go_sem, Nat.reduceAdd, Nat.reduceMul, ↓reduceIte, reduceCtorEq, Nat.reduceLeDiff, Int.reduceToNat, Int.reduceLT, Int.reduceLE, Int.reduceEq, Int.reduceNe, Int.reduceBEq, Int.reduceBNe, not_false_eq_true, not_true_eq_false, hP, hc, hw, hx', hx2, decide_true, decide_false]
            omega
        · have h1 : ¬ ((s.getD i 0).toNat : Int) < 48 := fun e => hx (.inl ((y_lt _).2 e))
          have h2 : ¬ ((s.getD i 0).toNat : Int) > 57 := fun e => hx (.inr ((y_gt _).2 e))
          rw [digM_go hin hx] at hd
          have hw1 : IntKind.i64.wrap (10 * a) = 10 * a := wrap_i64_id (by omega) (by omega)
          have hw2 : IntKind.u8.wrap (((s.getD i 0).toNat : Int) - 48) = ((s.getD i 0).toNat : Int) - 48 := by rw [wrap_u8_def]; omega
          have hw3 : IntKind.i64.wrap (((s.getD i 0).toNat : Int) - 48) = ((s.getD i 0).toNat : Int) - 48 := wrap_i64_id (by omega) (by omega)
          have hw4 : IntKind.i64.wrap (10 * a + (((s.getD i 0).toNat : Int) - 48)) = 10 * a + (((s.getD i 0).toNat : Int) - 48) := wrap_i64_id (by omega) (by omega)
          simp only [go_sem, Nat.reduceAdd, Nat.reduceMul, ↓reduceIte, reduceCtorEq, Nat.reduceLeDiff, Int.reduceToNat, Int.reduceLT, Int.reduceLE, Int.reduceEq, Int.reduceNe, Int.reduceBEq, Int.reduceBNe, not_false_eq_true, not_true_eq_false, hP, hc, hw, h1, h2, hw1, hw2, hw3, hw4, decide_true, decide_false]
          refine ⟨by omega, by omega, by omega, ⟨(i + 1, _), by simp only; omega, ?_, ?_, hd⟩, by show s.length - (i + 1) < s.length - i; omega, subI rfl ?_ ?_ rfl rfl (Nat.le_refl _)⟩
          · simp only; omega
          · simp only; rw [Int.pow_succ]; omega
          · simp only [go_sem, Nat.reduceAdd, Nat.reduceMul, ↓reduceIte, reduceCtorEq, Nat.reduceLeDiff, Int.reduceToNat, Int.reduceLT, Int.reduceLE, Int.reduceEq, Int.reduceNe, Int.reduceBEq, Int.reduceBNe, not_false_eq_true, not_true_eq_false]
          · simp only [go_sem, Nat.reduceAdd, Nat.reduceMul, ↓reduceIte, reduceCtorEq, Nat.reduceLeDiff, Int.reduceToNat, Int.reduceLT, Int.reduceLE, Int.reduceEq, Int.reduceNe, Int.reduceBEq, Int.reduceBNe, not_false_eq_true, not_true_eq_false]
      · obtain rfl : i = s.length := by omega
        have hnc : ¬ ((s.length : Int) < (s.length : Int)) := by omega
        rw [List.drop_eq_nil_of_le (Nat.le_refl _), digM] at hd
        rw [← hd] at hgo
        simp only at hgo
        subst hgo
        simp only [go_sem, Nat.reduceAdd, Nat.reduceMul, ↓reduceIte, reduceCtorEq, Nat.reduceLeDiff, Int.reduceToNat, Int.reduceLT, Int.reduceLE, Int.reduceEq, Int.reduceNe, Int.reduceBEq, Int.reduceBNe, not_false_eq_true, not_true_eq_false, hP, hnc]

end Go.Proofs.YthdhbdjhjfflnaaDoor

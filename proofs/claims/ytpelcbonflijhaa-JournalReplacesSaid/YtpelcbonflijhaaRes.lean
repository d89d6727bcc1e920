/-
  Contract of the law's helper records (package passkeylaw8). Own work; no statement of the seat is proved here.
-/
import Derived.Test.YtpelcbonflijhaaRec
namespace Go.Proofs.Ytpelcbonflijhaa
set_option linter.unusedSimpArgs false
set_option linter.unusedVariables false
open Go Go.Abs Go.RowKit

def recsN (n : Int) (m : Nat) : List (List UInt8) := (List.range m).map fun (i : Nat) => recordM (band .i64 (ishr .i64 n ((4 + i : Nat) : Int)) 8191)
def recordsM (n : Int) : List (List UInt8) := recsN n (band .i64 (ishr .i64 n 2) 3).toNat
theorem recsN_len (n : Int) (m : Nat) : (recsN n m).length = m := by simp [recsN]
theorem recsN_succ (n : Int) (m : Nat) : recsN n (m + 1) = recsN n m ++ [recordM (band .i64 (ishr .i64 n ((4 + m : Nat) : Int)) 8191)] := by simp [recsN, List.range_succ]
theorem recordsM_len (n : Int) : (recordsM n).length < 4 := by
  have := band_bd (ishr .i64 n 2) 3 (by decide) (by decide)
  unfold recordsM; rw [recsN_len]; omega
theorem recordsM_le (n : Int) (b : List UInt8) (h : b ∈ recordsM n) : b.length < 300 := by
  obtain ⟨i, _, rfl⟩ := List.mem_map.1 h
  rw [recordM_len]; exact recSz_lt _

set_option maxHeartbeats 1000000 in
theorem lrecords_c (n : Int) : FPure Try.prog 28 [.i n] (.p (.data 1 (recordsM n).length ((recordsM n).map byP))) := by
  refine fpure_x hmix Try.func28 rfl (by kernel_rfl) Try.ntmps28 Try.results28 (by simp) (by simp [idsL, idsA]) [0, 2, 3, 4, 9] ?_; intro c hP h0 hE
  simp only [go_sem, Nat.reduceAdd, Nat.reduceMul, ↓reduceIte, reduceCtorEq, Nat.reduceLeDiff, Int.reduceToNat, Int.reduceLT, Int.reduceLE, Int.reduceEq, Int.reduceNe, Int.reduceBEq, Int.reduceBNe, not_false_eq_true, not_true_eq_false, hP]
  have hc := band_bd (ishr .i64 n 2) 3 (by decide) (by decide)
  obtain ⟨m, hm⟩ : ∃ m : Nat, band .i64 (ishr .i64 n 2) 3 = (m : Int) := Int.eq_ofNat_of_zero_le hc.1
  have hr : recordsM n = recsN n m := by unfold recordsM; rw [hm]; rfl
  rw [hm] at hc
  rw [hr] at hE
  refine saw_new bytesT ?_
  refine xw_for hE h0 [0, 2, 3, 4, 9] m (fun i => ⟨23, [(0, .i n), (3, .sl 0 0 (recsN n i).length 1), (4, .i i)], [(0, some ⟨bytesT, byL (recsN n i)⟩)], 1⟩) [] (fun i => i) ?_ ?_
  · refine ⟨rfl, ?_, ?_, rfl, rfl, trivial, fun i h => h⟩
    · simp only [go_sem, Nat.reduceAdd, Nat.reduceMul, ↓reduceIte, reduceCtorEq, Nat.reduceLeDiff, Int.reduceToNat, Int.reduceLT, Int.reduceLE, Int.reduceEq, Int.reduceNe, Int.reduceBEq, Int.reduceBNe, not_false_eq_true, not_true_eq_false]
      simp [recsN]
    · simp only [go_sem, Nat.reduceAdd, Nat.reduceMul, ↓reduceIte, reduceCtorEq, Nat.reduceLeDiff, Int.reduceToNat, Int.reduceLT, Int.reduceLE, Int.reduceEq, Int.reduceNe, Int.reduceBEq, Int.reduceBNe, not_false_eq_true, not_true_eq_false]
      simp [recsN, byL, viewAs]
  · intro i hi
    simp only [go_sem, Nat.reduceAdd, Nat.reduceMul, ↓reduceIte, reduceCtorEq, Nat.reduceLeDiff, Int.reduceToNat, Int.reduceLT, Int.reduceLE, Int.reduceEq, Int.reduceNe, Int.reduceBEq, Int.reduceBNe, not_false_eq_true, not_true_eq_false, hP, hm]
    split
    · have e : IntKind.u64.wrap (IntKind.i64.wrap (4 + (i : Int))) = ((4 + i : Nat) : Int) := by
        rw [wrap_i64_id (by omega) (by omega)]
        rw [wrap_u64_def]; omega
      rw [e]
      first | refine xw_call hE (ks := [0, 2, 3, 4, 9]) (n := 2000) (by rw [hP]; exact lrecord_c (band .i64 (ishr .i64 n ((4 + i : Nat) : Int)) 8191)) ?_ | refine xd_call hE (ks := [0, 2, 3, 4, 9]) (n := 2000) (by rw [hP]; exact lrecord_c (band .i64 (ishr .i64 n ((4 + i : Nat) : Int)) 8191)) ?_
      rw [← recordM_len]
      simp only [go_sem, Nat.reduceAdd, Nat.reduceMul, ↓reduceIte, reduceCtorEq, Nat.reduceLeDiff, Int.reduceToNat, Int.reduceLT, Int.reduceLE, Int.reduceEq, Int.reduceNe, Int.reduceBEq, Int.reduceBNe, not_false_eq_true, not_true_eq_false, hP]
      (try go_unwrap)
      have hl := recsN_len n i
      refine ⟨by omega, by omega, subG [2] rfl ?_ ?_ rfl rfl (Nat.le_refl _)⟩
      · simp only [go_sem, Nat.reduceAdd, Nat.reduceMul, ↓reduceIte, reduceCtorEq, Nat.reduceLeDiff, Int.reduceToNat, Int.reduceLT, Int.reduceLE, Int.reduceEq, Int.reduceNe, Int.reduceBEq, Int.reduceBNe, not_false_eq_true, not_true_eq_false, recsN_succ]
        simp
      · simp only [go_sem, Nat.reduceAdd, Nat.reduceMul, ↓reduceIte, reduceCtorEq, Nat.reduceLeDiff, Int.reduceToNat, Int.reduceLT, Int.reduceLE, Int.reduceEq, Int.reduceNe, Int.reduceBEq, Int.reduceBNe, not_false_eq_true, not_true_eq_false, recsN_succ]
        exact byL_view _ _ _ _
    · obtain rfl : i = m := by omega
      exact ⟨Nat.le_refl _, rfl, by rw [List.take_of_length_le (Nat.le_refl _)]⟩

end Go.Proofs.Ytpelcbonflijhaa

/-
  Joins of branches; contracts of the law's own helpers value and pairs (package passkeylaw9). Own work; no statement of the seat is proved here.
-/
import Derived.Test.YtcnpgmlkocbhkaaGreatVk
namespace Go.Proofs.YtcnpgmlkocbhkaaGreat
set_option linter.unusedSimpArgs false
set_option linter.unusedVariables false
open Go Go.Abs Go.RowKit

theorem saw_join {α : Type} {c : Ctx} {k : List It} {G : Prop} (S : α → AS) (Q : α → Prop) (tree : (∀ z, Q z → SAW c k (S z)) → G) (cont : ∀ z, Q z → SAW c k (S z)) : G := tree cont
theorem saw_to {c : Ctx} (h0 : ∀ i, c.ρ0 i ≠ none → False) {k : List It} {st st' : AS} (h : SAW c k st') (hs : ∃ S σ, Sub S σ st st') : SAW c k st := by
  obtain ⟨S, σ, hs⟩ := hs
  exact saw_sub hs (fun i hi => (h0 i hi).elim) h
theorem xw_go {c : Ctx} {E : AS → Prop} (hE : XOk c E) {ks : List Nat} {n : Nat} {k : List It} {st : AS} (h : XW c E ks n k st) : SAW c k st := XW_sound hE ks n _ _ h

def valSz (n : Int) : Nat :=
  if band .i64 (ishr .i64 n 4) 15 = 0 then 120 else if band .i64 (ishr .i64 n 4) 15 = 1 then 0 else if band .i64 (ishr .i64 n 4) 15 = 2 then 0 else if band .i64 (ishr .i64 n 4) 15 = 3 then 0 else (band .i64 n 15).toNat
def valB (n : Int) (i : Nat) : UInt8 := UInt8.ofNat (IntKind.u8.wrap (IntKind.i64.wrap (ishr .i64 n 8 + (i : Int)))).toNat
def valM (n : Int) : List UInt8 := (List.range (valSz n)).map (valB n)
theorem valSz_lt (n : Int) : valSz n < 150 := by
  have h2 := band_bd n 15 (by decide) (by decide)
  unfold valSz
  repeat' split
  all_goals omega
def valA (n : Int) (i : Nat) : List UInt8 := (List.range i).map (valB n) ++ List.replicate (valSz n - i) 0
theorem valA_len (n : Int) (i : Nat) (h : i ≤ valSz n) : (valA n i).length = valSz n := by simp [valA]; omega
theorem valA_0 (n : Int) : valA n 0 = List.replicate (valSz n) 0 := by simp [valA]
theorem valA_end (n : Int) : valA n (valSz n) = valM n := by simp [valA, valM]
theorem valA_set (n : Int) (i : Nat) (h : i < valSz n) : (valA n i).set i (valB n i) = valA n (i + 1) := by
  unfold valA
  rw [List.set_append_right _ _ (by simp), show valSz n - i = (valSz n - (i + 1)) + 1 by omega, List.replicate_succ]
  simp [List.range_succ]
theorem valM_len (n : Int) : (valM n).length = valSz n := by simp [valM]

set_option maxHeartbeats 1000000 in
theorem lvalue_c (n : Int) : FPure Tryz.prog 33 [.i n] (.p (.data 1 (valSz n) ((valM n).map bt))) := by
  refine fpure_x hmix Tryz.func33 rfl (by kernel_rfl) Tryz.ntmps33 Tryz.results33 (by simp) (by simp [idsL, idsA]) (1000009 :: [0, 2, 3, 4, 5, 10, 11, 13, 22]) ?_; intro c hP h0 hE
  apply saw_join (fun _ : Unit => (⟨34, [(0, .i n), (3, .i (valSz n))], [], 0⟩ : AS)) (fun _ => True)
  case tree =>
    intro hj
    simp only [go_sem, Nat.reduceAdd, Nat.reduceMul, ↓reduceIte, reduceCtorEq, Nat.reduceLeDiff, Int.reduceToNat, Int.reduceLT, Int.reduceLE, Int.reduceEq, Int.reduceNe, Int.reduceBEq, Int.reduceBNe, not_false_eq_true, not_true_eq_false, hP]
    have h15 := band_bd n 15 (by decide) (by decide)
    repeat' split
    all_goals refine saw_to h0 (hj () trivial) (subG [] rfl ?_ ?_ rfl rfl (Nat.le_refl _))
    all_goals simp only [go_sem, Nat.reduceAdd, Nat.reduceMul, ↓reduceIte, reduceCtorEq, Nat.reduceLeDiff, Int.reduceToNat, Int.reduceLT, Int.reduceLE, Int.reduceEq, Int.reduceNe, Int.reduceBEq, Int.reduceBNe, not_false_eq_true, not_true_eq_false]
    all_goals unfold valSz
    all_goals simp only [*, Nat.reduceAdd, Nat.reduceMul, ↓reduceIte, reduceCtorEq, Nat.reduceLeDiff, Int.reduceToNat, Int.reduceLT, Int.reduceLE, Int.reduceEq, Int.reduceNe, Int.reduceBEq, Int.reduceBNe, not_false_eq_true, not_true_eq_false, if_true, if_false]
    all_goals first | rfl | omega
  rintro _ -
  refine xw_go hE (ks := [0, 2, 3, 4, 5, 10, 11, 13, 22]) (n := 2000) ?_
  simp only [go_sem, Nat.reduceAdd, Nat.reduceMul, ↓reduceIte, reduceCtorEq, Nat.reduceLeDiff, Int.reduceToNat, Int.reduceLT, Int.reduceLE, Int.reduceEq, Int.reduceNe, Int.reduceBEq, Int.reduceBNe, not_false_eq_true, not_true_eq_false, hP]
  have hsz := valSz_lt n
  rw [cb_rep]
  refine ⟨⟨by omega, by omega, by omega, by omega⟩, ?_⟩
  refine xw_for hE h0 [0, 2, 3, 4, 5, 10, 11, 13, 22] (valSz n) (fun i => ⟨34, [(0, .i n), (4, .sl 0 0 (valSz n) 1), (5, .i i)], [(0, some ⟨byteT, cb (valA n i)⟩)], 1⟩) [] (fun i => i) ?_ ?_
  · refine ⟨rfl, ?_, ?_, rfl, rfl, trivial, fun i h => h⟩
    · simp only [go_sem, Nat.reduceAdd, Nat.reduceMul, ↓reduceIte, reduceCtorEq, Nat.reduceLeDiff, Int.reduceToNat, Int.reduceLT, Int.reduceLE, Int.reduceEq, Int.reduceNe, Int.reduceBEq, Int.reduceBNe, not_false_eq_true, not_true_eq_false]
    · rw [valA_0]
      simp only [go_sem, Nat.reduceAdd, Nat.reduceMul, ↓reduceIte, reduceCtorEq, Nat.reduceLeDiff, Int.reduceToNat, Int.reduceLT, Int.reduceLE, Int.reduceEq, Int.reduceNe, Int.reduceBEq, Int.reduceBNe, not_false_eq_true, not_true_eq_false]
      exact cb_viewA _ _ _ _
  · intro i hi
    have hlen := valA_len n i hi
    have hset := valA_set n i
    simp only [go_sem, Nat.reduceAdd, Nat.reduceMul, ↓reduceIte, reduceCtorEq, Nat.reduceLeDiff, Int.reduceToNat, Int.reduceLT, Int.reduceLE, Int.reduceEq, Int.reduceNe, Int.reduceBEq, Int.reduceBNe, not_false_eq_true, not_true_eq_false, hP]
    split
    · have hlt : i < valSz n := by omega
      have hs := hset hlt
      have hc := cb_set (valA n i) i (valB n i)
      have hb : valB n i = UInt8.ofNat (IntKind.u8.wrap (IntKind.i64.wrap (ishr .i64 n 8 + (i : Int)))).toNat := rfl
      rw [hs, hb, u8w] at hc
      refine ⟨⟨by omega, by omega⟩, by omega, by omega, ?_⟩
      (try go_unwrap)
      refine subG [0] rfl ?_ ?_ rfl rfl (Nat.le_refl _)
      · simp only [go_sem, Nat.reduceAdd, Nat.reduceMul, ↓reduceIte, reduceCtorEq, Nat.reduceLeDiff, Int.reduceToNat, Int.reduceLT, Int.reduceLE, Int.reduceEq, Int.reduceNe, Int.reduceBEq, Int.reduceBNe, not_false_eq_true, not_true_eq_false]
        omega
      · simp only [go_sem, Nat.reduceAdd, Nat.reduceMul, ↓reduceIte, reduceCtorEq, Nat.reduceLeDiff, Int.reduceToNat, Int.reduceLT, Int.reduceLE, Int.reduceEq, Int.reduceNe, Int.reduceBEq, Int.reduceBNe, not_false_eq_true, not_true_eq_false]
        rw [hc]
        exact cb_viewA _ _ _ _
    · obtain rfl : i = valSz n := by omega
      rw [valA_end] at hlen ⊢
      exact ⟨by omega, by rw [List.take_of_length_le (by omega)]⟩

end Go.Proofs.YtcnpgmlkocbhkaaGreat

/-
  Contracts of the law's own helpers: record, records (package passkeylaw8). Own work; no statement of the seat is proved here.
-/
import Derived.Test.YtpelcbonflijhaaRj
import Derived.Test.YtpelcbonflijhaaAw
namespace Go.Proofs.Ytpelcbonflijhaa
set_option linter.unusedSimpArgs false
set_option linter.unusedVariables false
open Go Go.Abs Go.RowKit

theorem band_bd (a m : Int) (h0 : 0 ≤ m) (hm : m < 9223372036854775808) : 0 ≤ band .i64 a m ∧ band .i64 a m ≤ m := by
  obtain ⟨m, rfl⟩ := Int.eq_ofNat_of_zero_le h0
  unfold band
  have h1 : (BitVec.ofInt IntKind.i64.bits a &&& BitVec.ofInt IntKind.i64.bits (m : Int)).toNat ≤ m := by
    rw [BitVec.toNat_and]
    refine Nat.le_trans Nat.and_le_right ?_
    simp [IntKind.bits]
    omega
  rw [wrap_i64_id (by omega) (by omega)]
  omega
theorem u8w (z : Int) : ((UInt8.ofNat (IntKind.u8.wrap z).toNat).toNat : Int) = IntKind.u8.wrap z := by
  rw [wrap_u8_def]
  simp
  omega

def recSz (n : Int) : Nat :=
  if band .i64 (ishr .i64 n 5) 15 = 0 then 200 + (band .i64 (ishr .i64 n 9) 63).toNat else
  if band .i64 (ishr .i64 n 5) 15 = 1 then 100 else (band .i64 n 31).toNat
def recB (n : Int) (i : Nat) : UInt8 :=
  if band .i64 (ishr .i64 n 9) 3 = 3 then 255 else UInt8.ofNat (IntKind.u8.wrap (IntKind.i64.wrap (ishr .i64 n 3 + (i : Int)))).toNat
def recordM (n : Int) : List UInt8 := (List.range (recSz n)).map (recB n)
theorem recSz_lt (n : Int) : recSz n < 300 := by
  have h1 := band_bd (ishr .i64 n 9) 63 (by decide) (by decide)
  have h2 := band_bd n 31 (by decide) (by decide)
  unfold recSz
  split
  · omega
  · split <;> omega
/-- the bytes behind i rounds -/
def recA (n : Int) (i : Nat) : List UInt8 := (List.range i).map (recB n) ++ List.replicate (recSz n - i) 0
theorem recA_len (n : Int) (i : Nat) (h : i ≤ recSz n) : (recA n i).length = recSz n := by simp [recA]; omega
theorem recA_0 (n : Int) : recA n 0 = List.replicate (recSz n) 0 := by simp [recA]
theorem recA_end (n : Int) : recA n (recSz n) = recordM n := by simp [recA, recordM]
theorem recA_set (n : Int) (i : Nat) (h : i < recSz n) : (recA n i).set i (recB n i) = recA n (i + 1) := by
  unfold recA
  rw [List.set_append_right _ _ (by simp), show recSz n - i = (recSz n - (i + 1)) + 1 by omega, List.replicate_succ]
  simp [List.range_succ]
theorem recordM_len (n : Int) : (recordM n).length = recSz n := by simp [recordM]

set_option maxHeartbeats 1000000 in
theorem lrecord_c (n : Int) : FPure Try.prog 27 [.i n] (.p (.data 1 (recSz n) ((recordM n).map bt))) := by
  refine fpure_x hmix Try.func27 rfl (by kernel_rfl) Try.ntmps27 Try.results27 (by simp) (by simp [idsL, idsA]) [0, 2, 3, 4, 5, 10, 11, 17, 24, 38] ?_; intro c hP h0 hE
  simp only [go_sem, Nat.reduceAdd, Nat.reduceMul, ↓reduceIte, reduceCtorEq, Nat.reduceLeDiff, Int.reduceToNat, Int.reduceLT, Int.reduceLE, Int.reduceEq, Int.reduceNe, Int.reduceBEq, Int.reduceBNe, not_false_eq_true, not_true_eq_false, hP]
  have hsz := recSz_lt n
  have h63 := band_bd (ishr .i64 n 9) 63 (by decide) (by decide)
  have h31 := band_bd n 31 (by decide) (by decide)
  split
  · rename_i h
    have e : IntKind.i64.wrap (200 + band .i64 (ishr .i64 n 9) 63) = ((recSz n : Nat) : Int) := by
      rw [wrap_i64_id (by omega) (by omega)]; unfold recSz; rw [if_pos h]; omega
    rw [e, Int.toNat_natCast, cb_rep]
    refine ⟨⟨by omega, by omega, by omega, by omega⟩, ?_⟩
    refine xw_for hE h0 [0, 2, 3, 4, 5, 10, 11, 17, 24, 38] (recSz n) (fun i => ⟨43, [(0, .i n), (4, .sl 0 0 (recSz n) 1), (5, .i i)], [(0, some ⟨byteT, cb (recA n i)⟩)], 1⟩) [] (fun i => i) ?_ ?_
    · refine ⟨rfl, ?_, ?_, rfl, rfl, trivial, fun i h => h⟩
      · simp only [go_sem, Nat.reduceAdd, Nat.reduceMul, ↓reduceIte, reduceCtorEq, Nat.reduceLeDiff, Int.reduceToNat, Int.reduceLT, Int.reduceLE, Int.reduceEq, Int.reduceNe, Int.reduceBEq, Int.reduceBNe, not_false_eq_true, not_true_eq_false, e]
      · rw [recA_0]
        simp only [go_sem, Nat.reduceAdd, Nat.reduceMul, ↓reduceIte, reduceCtorEq, Nat.reduceLeDiff, Int.reduceToNat, Int.reduceLT, Int.reduceLE, Int.reduceEq, Int.reduceNe, Int.reduceBEq, Int.reduceBNe, not_false_eq_true, not_true_eq_false]
        exact cb_viewA _ _ _ _
    · intro i hi
      have hlen := recA_len n i hi
      have hset := recA_set n i
      simp only [go_sem, Nat.reduceAdd, Nat.reduceMul, ↓reduceIte, reduceCtorEq, Nat.reduceLeDiff, Int.reduceToNat, Int.reduceLT, Int.reduceLE, Int.reduceEq, Int.reduceNe, Int.reduceBEq, Int.reduceBNe, not_false_eq_true, not_true_eq_false, hP]
      split
      · refine ⟨⟨by omega, by omega⟩, by omega, ?_⟩
        have hlt : i < recSz n := by omega
        split
        · rename_i h3
          have hb : recB n i = 255 := by unfold recB; rw [if_pos h3]
          refine ⟨⟨by omega, by omega⟩, by simp; omega, by omega, ?_⟩
          (try go_unwrap)
          refine subG [0] rfl ?_ ?_ rfl rfl (Nat.le_refl _)
          · simp only [go_sem, Nat.reduceAdd, Nat.reduceMul, ↓reduceIte, reduceCtorEq, Nat.reduceLeDiff, Int.reduceToNat, Int.reduceLT, Int.reduceLE, Int.reduceEq, Int.reduceNe, Int.reduceBEq, Int.reduceBNe, not_false_eq_true, not_true_eq_false]
            omega
          · have hs := hset hlt
            rw [hb] at hs
            have hc := cb_set (recA n i) i 255
            rw [hs] at hc
            simp only [go_sem, Nat.reduceAdd, Nat.reduceMul, ↓reduceIte, reduceCtorEq, Nat.reduceLeDiff, Int.reduceToNat, Int.reduceLT, Int.reduceLE, Int.reduceEq, Int.reduceNe, Int.reduceBEq, Int.reduceBNe, not_false_eq_true, not_true_eq_false, List.set_set]
            rw [show (AV.p (PV.v (Value.int IntKind.u8 255))) = .p (.v (.int .u8 (((255 : UInt8).toNat : Nat) : Int))) from rfl, hc]
            exact cb_viewA _ _ _ _
        · rename_i h3
          have hb : recB n i = UInt8.ofNat (IntKind.u8.wrap (IntKind.i64.wrap (ishr .i64 n 3 + (i : Int)))).toNat := by unfold recB; rw [if_neg h3]
          refine ⟨by omega, ?_⟩
          have hs := hset hlt
          have hc := cb_set (recA n i) i (recB n i)
          rw [hs, hb, u8w] at hc
          (try go_unwrap)
          refine subG [0] rfl ?_ ?_ rfl rfl (Nat.le_refl _)
          · simp only [go_sem, Nat.reduceAdd, Nat.reduceMul, ↓reduceIte, reduceCtorEq, Nat.reduceLeDiff, Int.reduceToNat, Int.reduceLT, Int.reduceLE, Int.reduceEq, Int.reduceNe, Int.reduceBEq, Int.reduceBNe, not_false_eq_true, not_true_eq_false]
            omega
          · simp only [go_sem, Nat.reduceAdd, Nat.reduceMul, ↓reduceIte, reduceCtorEq, Nat.reduceLeDiff, Int.reduceToNat, Int.reduceLT, Int.reduceLE, Int.reduceEq, Int.reduceNe, Int.reduceBEq, Int.reduceBNe, not_false_eq_true, not_true_eq_false]
            rw [hc]
            exact cb_viewA _ _ _ _
      · obtain rfl : i = recSz n := by omega
        rw [recA_end] at hlen ⊢
        exact ⟨by omega, by rw [List.take_of_length_le (by omega)]⟩
  · rename_i h
    split
    · rename_i h2
      have e : recSz n = 100 := by unfold recSz; rw [if_neg h, if_pos h2]
      refine ⟨by decide, ?_⟩
      refine xw_for hE h0 [0, 2, 3, 4, 5, 10, 11, 17, 24, 38] (recSz n) (fun i => ⟨43, [(0, .i n), (4, .sl 0 0 (recSz n) 1), (5, .i i)], [(0, some ⟨byteT, cb (recA n i)⟩)], 1⟩) [] (fun i => i) ?_ ?_
      · refine ⟨rfl, ?_, ?_, rfl, rfl, trivial, fun i h => h⟩
        · simp only [go_sem, Nat.reduceAdd, Nat.reduceMul, ↓reduceIte, reduceCtorEq, Nat.reduceLeDiff, Int.reduceToNat, Int.reduceLT, Int.reduceLE, Int.reduceEq, Int.reduceNe, Int.reduceBEq, Int.reduceBNe, not_false_eq_true, not_true_eq_false, e]
        · rw [recA_0, e]
          simp only [go_sem, Nat.reduceAdd, Nat.reduceMul, ↓reduceIte, reduceCtorEq, Nat.reduceLeDiff, Int.reduceToNat, Int.reduceLT, Int.reduceLE, Int.reduceEq, Int.reduceNe, Int.reduceBEq, Int.reduceBNe, not_false_eq_true, not_true_eq_false]
          exact cb_viewA _ _ _ _
      · intro i hi
        have hlen := recA_len n i hi
        have hset := recA_set n i
        simp only [go_sem, Nat.reduceAdd, Nat.reduceMul, ↓reduceIte, reduceCtorEq, Nat.reduceLeDiff, Int.reduceToNat, Int.reduceLT, Int.reduceLE, Int.reduceEq, Int.reduceNe, Int.reduceBEq, Int.reduceBNe, not_false_eq_true, not_true_eq_false, hP]
        split
        · refine ⟨⟨by omega, by omega⟩, by omega, ?_⟩
          have hlt : i < recSz n := by omega
          split
          · rename_i h3
            have hb : recB n i = 255 := by unfold recB; rw [if_pos h3]
            refine ⟨⟨by omega, by omega⟩, by simp; omega, by omega, ?_⟩
            (try go_unwrap)
            refine subG [0] rfl ?_ ?_ rfl rfl (Nat.le_refl _)
            · simp only [go_sem, Nat.reduceAdd, Nat.reduceMul, ↓reduceIte, reduceCtorEq, Nat.reduceLeDiff, Int.reduceToNat, Int.reduceLT, Int.reduceLE, Int.reduceEq, Int.reduceNe, Int.reduceBEq, Int.reduceBNe, not_false_eq_true, not_true_eq_false]
              omega
            · have hs := hset hlt
              rw [hb] at hs
              have hc := cb_set (recA n i) i 255
              rw [hs] at hc
              simp only [go_sem, Nat.reduceAdd, Nat.reduceMul, ↓reduceIte, reduceCtorEq, Nat.reduceLeDiff, Int.reduceToNat, Int.reduceLT, Int.reduceLE, Int.reduceEq, Int.reduceNe, Int.reduceBEq, Int.reduceBNe, not_false_eq_true, not_true_eq_false, List.set_set]
              rw [show (AV.p (PV.v (Value.int IntKind.u8 255))) = .p (.v (.int .u8 (((255 : UInt8).toNat : Nat) : Int))) from rfl, hc]
              exact cb_viewA _ _ _ _
          · rename_i h3
            have hb : recB n i = UInt8.ofNat (IntKind.u8.wrap (IntKind.i64.wrap (ishr .i64 n 3 + (i : Int)))).toNat := by unfold recB; rw [if_neg h3]
            refine ⟨by omega, ?_⟩
            have hs := hset hlt
            have hc := cb_set (recA n i) i (recB n i)
            rw [hs, hb, u8w] at hc
            (try go_unwrap)
            refine subG [0] rfl ?_ ?_ rfl rfl (Nat.le_refl _)
            · simp only [go_sem, Nat.reduceAdd, Nat.reduceMul, ↓reduceIte, reduceCtorEq, Nat.reduceLeDiff, Int.reduceToNat, Int.reduceLT, Int.reduceLE, Int.reduceEq, Int.reduceNe, Int.reduceBEq, Int.reduceBNe, not_false_eq_true, not_true_eq_false]
              omega
            · simp only [go_sem, Nat.reduceAdd, Nat.reduceMul, ↓reduceIte, reduceCtorEq, Nat.reduceLeDiff, Int.reduceToNat, Int.reduceLT, Int.reduceLE, Int.reduceEq, Int.reduceNe, Int.reduceBEq, Int.reduceBNe, not_false_eq_true, not_true_eq_false]
              rw [hc]
              exact cb_viewA _ _ _ _
        · obtain rfl : i = recSz n := by omega
          rw [recA_end] at hlen ⊢
          exact ⟨by omega, by rw [List.take_of_length_le (by omega)]⟩
    · rename_i h2
      have e : band .i64 n 31 = ((recSz n : Nat) : Int) := by unfold recSz; rw [if_neg h, if_neg h2]; omega
      rw [e, Int.toNat_natCast, cb_rep]
      refine ⟨⟨by omega, by omega, by omega, by omega⟩, ?_⟩
      refine xw_for hE h0 [0, 2, 3, 4, 5, 10, 11, 17, 24, 38] (recSz n) (fun i => ⟨43, [(0, .i n), (4, .sl 0 0 (recSz n) 1), (5, .i i)], [(0, some ⟨byteT, cb (recA n i)⟩)], 1⟩) [] (fun i => i) ?_ ?_
      · refine ⟨rfl, ?_, ?_, rfl, rfl, trivial, fun i h => h⟩
        · simp only [go_sem, Nat.reduceAdd, Nat.reduceMul, ↓reduceIte, reduceCtorEq, Nat.reduceLeDiff, Int.reduceToNat, Int.reduceLT, Int.reduceLE, Int.reduceEq, Int.reduceNe, Int.reduceBEq, Int.reduceBNe, not_false_eq_true, not_true_eq_false, e]
        · rw [recA_0]
          simp only [go_sem, Nat.reduceAdd, Nat.reduceMul, ↓reduceIte, reduceCtorEq, Nat.reduceLeDiff, Int.reduceToNat, Int.reduceLT, Int.reduceLE, Int.reduceEq, Int.reduceNe, Int.reduceBEq, Int.reduceBNe, not_false_eq_true, not_true_eq_false]
          exact cb_viewA _ _ _ _
      · intro i hi
        have hlen := recA_len n i hi
        have hset := recA_set n i
        simp only [go_sem, Nat.reduceAdd, Nat.reduceMul, ↓reduceIte, reduceCtorEq, Nat.reduceLeDiff, Int.reduceToNat, Int.reduceLT, Int.reduceLE, Int.reduceEq, Int.reduceNe, Int.reduceBEq, Int.reduceBNe, not_false_eq_true, not_true_eq_false, hP]
        split
        · refine ⟨⟨by omega, by omega⟩, by omega, ?_⟩
          have hlt : i < recSz n := by omega
          split
          · rename_i h3
            have hb : recB n i = 255 := by unfold recB; rw [if_pos h3]
            refine ⟨⟨by omega, by omega⟩, by simp; omega, by omega, ?_⟩
            (try go_unwrap)
            refine subG [0] rfl ?_ ?_ rfl rfl (Nat.le_refl _)
            · simp only [go_sem, Nat.reduceAdd, Nat.reduceMul, ↓reduceIte, reduceCtorEq, Nat.reduceLeDiff, Int.reduceToNat, Int.reduceLT, Int.reduceLE, Int.reduceEq, Int.reduceNe, Int.reduceBEq, Int.reduceBNe, not_false_eq_true, not_true_eq_false]
              omega
            · have hs := hset hlt
              rw [hb] at hs
              have hc := cb_set (recA n i) i 255
              rw [hs] at hc
              simp only [go_sem, Nat.reduceAdd, Nat.reduceMul, ↓reduceIte, reduceCtorEq, Nat.reduceLeDiff, Int.reduceToNat, Int.reduceLT, Int.reduceLE, Int.reduceEq, Int.reduceNe, Int.reduceBEq, Int.reduceBNe, not_false_eq_true, not_true_eq_false, List.set_set]
              rw [show (AV.p (PV.v (Value.int IntKind.u8 255))) = .p (.v (.int .u8 (((255 : UInt8).toNat : Nat) : Int))) from rfl, hc]
              exact cb_viewA _ _ _ _
          · rename_i h3
            have hb : recB n i = UInt8.ofNat (IntKind.u8.wrap (IntKind.i64.wrap (ishr .i64 n 3 + (i : Int)))).toNat := by unfold recB; rw [if_neg h3]
            refine ⟨by omega, ?_⟩
            have hs := hset hlt
            have hc := cb_set (recA n i) i (recB n i)
            rw [hs, hb, u8w] at hc
            (try go_unwrap)
            refine subG [0] rfl ?_ ?_ rfl rfl (Nat.le_refl _)
            · simp only [go_sem, Nat.reduceAdd, Nat.reduceMul, ↓reduceIte, reduceCtorEq, Nat.reduceLeDiff, Int.reduceToNat, Int.reduceLT, Int.reduceLE, Int.reduceEq, Int.reduceNe, Int.reduceBEq, Int.reduceBNe, not_false_eq_true, not_true_eq_false]
              omega
            · simp only [go_sem, Nat.reduceAdd, Nat.reduceMul, ↓reduceIte, reduceCtorEq, Nat.reduceLeDiff, Int.reduceToNat, Int.reduceLT, Int.reduceLE, Int.reduceEq, Int.reduceNe, Int.reduceBEq, Int.reduceBNe, not_false_eq_true, not_true_eq_false]
              rw [hc]
              exact cb_viewA _ _ _ _
        · obtain rfl : i = recSz n := by omega
          rw [recA_end] at hlen ⊢
          exact ⟨by omega, by rw [List.take_of_length_le (by omega)]⟩

end Go.Proofs.Ytpelcbonflijhaa

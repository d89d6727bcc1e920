/-
  Contracts of bytes.Clone, bytes.Equal, slices.Grow, slices.Concat (of bytes). Own work; no statement of the seat is proved here.
-/
import Derived.Test.YtcnpgmlkocbhkaaGreatRef1
namespace Go.Proofs.YtcnpgmlkocbhkaaGreat
set_option linter.unusedSimpArgs false
set_option linter.unusedVariables false
open Go Go.Abs Go.RowKit

theorem clone_c (cs : List PV) (n : Nat) (hn : cs.length = n) (h1 : n ≠ 0) (hb : n < 1000000000) : Con Tryz.prog 50 [.p (.data 1 n cs)] [] (.sl 0 0 n 1) [(0, some ⟨byteT, cs.map .p⟩)] := by
  refine con_x 0 hmix Tryz.func50 rfl (by kernel_rfl) Tryz.ntmps50 Tryz.results50 (by simp) rfl (by simp [idsL, idsA]) trivial (fun i hi => by cases hi) [0, 2, 4] ?_; intro c hP h0' hE; have h0 : ∀ i, c.ρ0 i ≠ none → False := fun i hi => by cases h0' i hi
  simp only [go_sem, Nat.reduceAdd, Nat.reduceMul, ↓reduceIte, reduceCtorEq, Nat.reduceLeDiff, Int.reduceToNat, Int.reduceLT, Int.reduceLE, Int.reduceEq, Int.reduceNe, Int.reduceBEq, Int.reduceBNe, not_false_eq_true, not_true_eq_false, hP]
  refine ⟨h1, ⟨by omega, by omega⟩, endC_of [1] rfl ?_ ?_ rfl rfl (fun i hi => ?_)⟩
  · simp only [go_sem, Nat.reduceAdd, Nat.reduceMul, ↓reduceIte, reduceCtorEq, Nat.reduceLeDiff, Int.reduceToNat, Int.reduceLT, Int.reduceLE, Int.reduceEq, Int.reduceNe, Int.reduceBEq, Int.reduceBNe, not_false_eq_true, not_true_eq_false]
  · simp only [go_sem, Nat.reduceAdd, Nat.reduceMul, ↓reduceIte, reduceCtorEq, Nat.reduceLeDiff, Int.reduceToNat, Int.reduceLT, Int.reduceLE, Int.reduceEq, Int.reduceNe, Int.reduceBEq, Int.reduceBNe, not_false_eq_true, not_true_eq_false]
    exact viewAs_pure _ _ _ _
  · simp [liveK] at hi; simp; omega

theorem clone_b (bs : List UInt8) (n : Nat) (hn : bs.length = n) (h1 : n ≠ 0) (hb : n < 1000000000) : Con Tryz.prog 50 [.p (.data 1 n (bs.map bt))] [] (.sl 0 0 n 1) [(0, some ⟨byteT, cb bs⟩)] :=
  clone_c (bs.map bt) n (by simpa using hn) h1 hb

theorem toList_of (l : List UInt8) : (⟨l.toArray⟩ : ByteArray).toList = l := by
  rw [ByteArray.toList_eq]

theorem equal_c (xs ys : List UInt8) (m n : Nat) : FPure Tryz.prog 74 [.p (.data 1 m (xs.map bt)), .p (.data 1 n (ys.map bt))] (.b (xs == ys)) := by
  refine fpure_x hmix Tryz.func74 rfl (by kernel_rfl) Tryz.ntmps74 Tryz.results74 (by simp) (by simp [idsL, idsA]) [0, 1, 4] ?_; intro c hP h0 hE
  simp only [go_sem, Nat.reduceAdd, Nat.reduceMul, ↓reduceIte, reduceCtorEq, Nat.reduceLeDiff, Int.reduceToNat, Int.reduceLT, Int.reduceLE, Int.reduceEq, Int.reduceNe, Int.reduceBEq, Int.reduceBNe, not_false_eq_true, not_true_eq_false, hP, unBs_bt, strOf, allB_bt, toList_of]

theorem grow_c (m : Nat) (hm : m < 1000000000) : Con Tryz.prog 101 [.p (.v (.slice none 0 0)), .i m] [] (.sl 0 0 0 1) [(0, some ⟨byteT, []⟩)] := by
  refine con_x 0 hmix Tryz.func101 rfl (by kernel_rfl) Tryz.ntmps101 Tryz.results101 (by simp) rfl (by simp [idsL, idsA]) trivial (fun i hi => by cases hi) [0, 1, 4, 6, 16] ?_; intro c hP h0' hE; have h0 : ∀ i, c.ρ0 i ≠ none → False := fun i hi => by cases h0' i hi
  have e1 : IntKind.i64.wrap (0 - 0) = 0 := rfl
  have e2 : IntKind.i64.wrap ((m : Int) - 0) = m := by rw [wrap_i64_id (by omega) (by omega)]; omega
  simp only [go_sem, Nat.reduceAdd, Nat.reduceMul, ↓reduceIte, reduceCtorEq, Nat.reduceLeDiff, Int.reduceToNat, Int.reduceLT, Int.reduceLE, Int.reduceEq, Int.reduceNe, Int.reduceBEq, Int.reduceBNe, not_false_eq_true, not_true_eq_false, hP, e1, e2]
  split
  · omega
  · split
    · refine ⟨⟨by omega, by omega, by omega⟩, by omega, endC_of [0] rfl ?_ ?_ rfl rfl (fun i hi => ?_)⟩
      · simp only [go_sem, Nat.reduceAdd, Nat.reduceMul, ↓reduceIte, reduceCtorEq, Nat.reduceLeDiff, Int.reduceToNat, Int.reduceLT, Int.reduceLE, Int.reduceEq, Int.reduceNe, Int.reduceBEq, Int.reduceBNe, not_false_eq_true, not_true_eq_false]
      · simp only [go_sem, Nat.reduceAdd, Nat.reduceMul, ↓reduceIte, reduceCtorEq, Nat.reduceLeDiff, Int.reduceToNat, Int.reduceLT, Int.reduceLE, Int.reduceEq, Int.reduceNe, Int.reduceBEq, Int.reduceBNe, not_false_eq_true, not_true_eq_false]
      · simp [liveK] at hi; simp; omega
    · refine endC_new byteT [0] rfl ?_ ?_ rfl rfl (fun i hi => ?_)
      · simp only [go_sem, Nat.reduceAdd, Nat.reduceMul, ↓reduceIte, reduceCtorEq, Nat.reduceLeDiff, Int.reduceToNat, Int.reduceLT, Int.reduceLE, Int.reduceEq, Int.reduceNe, Int.reduceBEq, Int.reduceBNe, not_false_eq_true, not_true_eq_false, newB]
      · simp only [go_sem, Nat.reduceAdd, Nat.reduceMul, ↓reduceIte, reduceCtorEq, Nat.reduceLeDiff, Int.reduceToNat, Int.reduceLT, Int.reduceLE, Int.reduceEq, Int.reduceNe, Int.reduceBEq, Int.reduceBNe, not_false_eq_true, not_true_eq_false, newB]
      · simp [liveK] at hi; simp; omega

/-- a list of byte strings as data -/
def byP (b : List UInt8) : PV := .data 1 b.length (b.map bt)
def byL (l : List (List UInt8)) : List AV := l.map fun b => .p (byP b)
theorem byL_len (l : List (List UInt8)) : (byL l).length = l.length := by simp [byL]
theorem byL_snoc (l : List (List UInt8)) (b : List UInt8) : byL l ++ [.p (.data 1 b.length (b.map bt))] = byL (l ++ [b]) := by simp [byL, byP]
theorem byL_view (h : Heap) (S : List Nat) (σ : Nat → Nat) (l : List (List UInt8)) : viewAs h S σ (byL l) (byL l) := by
  have : byL l = (l.map byP).map .p := by simp [byL]
  rw [this]; exact viewAs_pure h S σ _
theorem allP_byL (l : List (List UInt8)) : allP (byL l) := by
  intro c hc
  obtain ⟨x, _, rfl⟩ := List.mem_map.1 hc
  trivial
theorem byL_map (l : List (List UInt8)) : byL l = (l.map byP).map .p := by simp [byL]
theorem allQ_byL (l : List (List UInt8)) : allQ (byL l) := by rw [byL_map]; exact allQ_map _
theorem unQs_byL (l : List (List UInt8)) : unQs (byL l) = l.map byP := by rw [byL_map, unQs_map]
theorem idsL_byL (T : List Nat) (l : List (List UInt8)) : idsL T (byL l) := by rw [byL_map]; exact idsL_map T _
theorem renL_byL (τ : Nat → Nat) (l : List (List UInt8)) : renL τ (byL l) = byL l := by rw [byL_map]; exact renL_map τ _
theorem byL_take (l : List (List UInt8)) (n : Nat) : (byL l).take n = byL (l.take n) := by simp [byL]
theorem fz1L_byL (id : Nat) (b : Blk) (l : List (List UInt8)) : fz1L id b (byL l) = byL l := fz1L_pure id b _ (allP_byL l)
theorem fz1OL_byL (id : Nat) (b : Blk) (l : List (List UInt8)) : fz1OL id b (byL l) := fz1OL_pure id b _ (allP_byL l)
theorem head_byL (l : List (List UInt8)) (i : Nat) : headA (.data 1 0 []) ((byL l).drop i) = .p (byP (l.getD i [])) := by
  induction l generalizing i with
  | nil => simp [headA, byP, byL]
  | cons b r ih => cases i with
    | zero => simp [headA, byL]
    | succ i => simpa [byL] using ih i
theorem byL_set (l : List (List UInt8)) (i : Nat) (b : List UInt8) : (byL l).set i (.p (.data 1 b.length (b.map bt))) = byL (l.set i b) := by simp [byL, byP, List.map_set]
attribute [go_sem] head_byL fz1L_byL fz1OL_byL byL_len byL_snoc allP_byL allQ_byL unQs_byL byL_take renL_byL
def catN (l : List (List UInt8)) (i : Nat) : List UInt8 := (l.take i).flatten
theorem head_by (l : List (List UInt8)) (i : Nat) : headP (.data 1 0 []) ((l.map byP).drop i) = byP (l.getD i []) := by
  induction l generalizing i with
  | nil => simp [headP, byP]
  | cons b r ih => cases i with
    | zero => simp [headP]
    | succ i => simpa using ih i

theorem catN_succ (l : List (List UInt8)) (i : Nat) (h : i < l.length) : catN l (i + 1) = catN l i ++ l.getD i [] := by
  unfold catN
  rw [List.take_succ_eq_append_getElem h, List.flatten_append]
  simp [List.getD_eq_getElem?_getD, h]
theorem catN_mono (l : List (List UInt8)) (i : Nat) : (catN l i).length ≤ l.flatten.length := by
  unfold catN
  conv => rhs; rw [← List.take_append_drop i l]
  simp only [List.flatten_append, List.length_append]; omega

set_option maxHeartbeats 1000000 in
theorem concat_c (l : List (List UInt8)) (n : Nat) (hn : l.length = n) (hb : l.flatten.length < 1000000000) (hb' : n < 1000000000) : FPure Tryz.prog 90 [.p (.data 1 n (l.map byP))] (.p (.data 1 l.flatten.length (l.flatten.map bt))) := by
  refine fpure_x hmix Tryz.func90 rfl (by kernel_rfl) Tryz.ntmps90 Tryz.results90 (by simp) (by simp [idsL, idsA]) [0, 2, 3, 5, 6, 8, 9, 10, 11, 12, 20, 25, 26, 27, 28] ?_; intro c hP h0 hE
  simp only [go_sem, Nat.reduceAdd, Nat.reduceMul, ↓reduceIte, reduceCtorEq, Nat.reduceLeDiff, Int.reduceToNat, Int.reduceLT, Int.reduceLE, Int.reduceEq, Int.reduceNe, Int.reduceBEq, Int.reduceBNe, not_false_eq_true, not_true_eq_false, hP]
  have hlast : catN l n = l.flatten := by unfold catN; rw [List.take_of_length_le (by omega)]
  refine xw_for hE h0 [0, 2, 3, 5, 6, 8, 9, 10, 11, 12, 20, 25, 26, 27, 28] n (fun i => ⟨36, [(0, .p (.data 1 n (l.map byP))), (3, .i ((catN l i).length : Int)), (9, .p (.data 1 n (l.map byP))), (10, .i n), (11, .i i)], [], 0⟩) [] (fun i => i) ?_ ?_
  · refine ⟨rfl, ?_, trivial, rfl, rfl, trivial, fun i h => h⟩
    simp only [go_sem, Nat.reduceAdd, Nat.reduceMul, ↓reduceIte, reduceCtorEq, Nat.reduceLeDiff, Int.reduceToNat, Int.reduceLT, Int.reduceLE, Int.reduceEq, Int.reduceNe, Int.reduceBEq, Int.reduceBNe, not_false_eq_true, not_true_eq_false]
    simp [catN]
  · intro i hi
    simp only [go_sem, Nat.reduceAdd, Nat.reduceMul, ↓reduceIte, reduceCtorEq, Nat.reduceLeDiff, Int.reduceToNat, Int.reduceLT, Int.reduceLE, Int.reduceEq, Int.reduceNe, Int.reduceBEq, Int.reduceBNe, not_false_eq_true, not_true_eq_false, hP, head_by, byP]
    split
    · have hs := catN_succ l i (by omega)
      have hm := catN_mono l (i + 1)
      rw [hs, List.length_append] at hm
      (try go_unwrap)
      refine ⟨⟨by omega, by omega⟩, by omega, ?_⟩
      rw [if_neg (by omega)]
      refine ⟨by omega, subI rfl ?_ trivial rfl rfl (Nat.le_refl _)⟩
      simp only [go_sem, Nat.reduceAdd, Nat.reduceMul, ↓reduceIte, reduceCtorEq, Nat.reduceLeDiff, Int.reduceToNat, Int.reduceLT, Int.reduceLE, Int.reduceEq, Int.reduceNe, Int.reduceBEq, Int.reduceBNe, not_false_eq_true, not_true_eq_false, hs, byP]
      omega
    · obtain rfl : i = n := by omega
      first | refine xw_new hE (ks := [0, 2, 3, 5, 6, 8, 9, 10, 11, 12, 20, 25, 26, 27, 28]) (n := 2000) 1 (by rw [hP]; exact grow_c (catN l i).length (by have := catN_mono l i; omega)) rfl rfl (by simp [idsA, idsL, keys]) (by simp only [idsH, idsL, idsL_map, idsL_cb, idsL_byL, and_self]) ?_ | refine xd_new hE (ks := [0, 2, 3, 5, 6, 8, 9, 10, 11, 12, 20, 25, 26, 27, 28]) (n := 2000) 1 (by rw [hP]; exact grow_c (catN l i).length (by have := catN_mono l i; omega)) rfl rfl (by simp [idsA, idsL, keys]) (by simp only [idsH, idsL, idsL_map, idsL_cb, idsL_byL, and_self]) ?_
      simp only [go_sem, Nat.reduceAdd, Nat.reduceMul, ↓reduceIte, reduceCtorEq, Nat.reduceLeDiff, Int.reduceToNat, Int.reduceLT, Int.reduceLE, Int.reduceEq, Int.reduceNe, Int.reduceBEq, Int.reduceBNe, not_false_eq_true, not_true_eq_false, hP]
      refine xw_for hE h0 [0, 2, 3, 5, 6, 8, 9, 10, 11, 12, 20, 25, 26, 27, 28] i (fun j => ⟨36, [(6, .sl 0 0 (catN l j).length 1), (25, .p (.data 1 i (l.map byP))), (26, .i i), (27, .i j)], [(0, some ⟨byteT, cb (catN l j)⟩)], 1⟩) [] (fun i => i) ?_ ?_
      · refine ⟨rfl, ?_, ?_, rfl, rfl, trivial, fun i h => h⟩
        · simp only [go_sem, Nat.reduceAdd, Nat.reduceMul, ↓reduceIte, reduceCtorEq, Nat.reduceLeDiff, Int.reduceToNat, Int.reduceLT, Int.reduceLE, Int.reduceEq, Int.reduceNe, Int.reduceBEq, Int.reduceBNe, not_false_eq_true, not_true_eq_false]
          simp [catN]
        · simp only [go_sem, Nat.reduceAdd, Nat.reduceMul, ↓reduceIte, reduceCtorEq, Nat.reduceLeDiff, Int.reduceToNat, Int.reduceLT, Int.reduceLE, Int.reduceEq, Int.reduceNe, Int.reduceBEq, Int.reduceBNe, not_false_eq_true, not_true_eq_false]
          simp [catN, cb, viewAs]
      · intro j hj
        simp only [go_sem, Nat.reduceAdd, Nat.reduceMul, ↓reduceIte, reduceCtorEq, Nat.reduceLeDiff, Int.reduceToNat, Int.reduceLT, Int.reduceLE, Int.reduceEq, Int.reduceNe, Int.reduceBEq, Int.reduceBNe, not_false_eq_true, not_true_eq_false, hP, head_by, byP, cb_def, cb_app]
        split
        · have hs := catN_succ l j (by omega)
          have hm := catN_mono l (j + 1)
          rw [hs, List.length_append] at hm
          (try go_unwrap)
          refine ⟨⟨by omega, by omega⟩, by omega, ⟨by omega, by omega⟩, by omega, subG [1] rfl ?_ ?_ rfl rfl (Nat.le_refl _)⟩
          · simp only [go_sem, Nat.reduceAdd, Nat.reduceMul, ↓reduceIte, reduceCtorEq, Nat.reduceLeDiff, Int.reduceToNat, Int.reduceLT, Int.reduceLE, Int.reduceEq, Int.reduceNe, Int.reduceBEq, Int.reduceBNe, not_false_eq_true, not_true_eq_false, hs, byP]
            omega
          · simp only [go_sem, Nat.reduceAdd, Nat.reduceMul, ↓reduceIte, reduceCtorEq, Nat.reduceLeDiff, Int.reduceToNat, Int.reduceLT, Int.reduceLE, Int.reduceEq, Int.reduceNe, Int.reduceBEq, Int.reduceBNe, not_false_eq_true, not_true_eq_false, hs]
            exact cb_viewA _ _ _ _
        · obtain rfl : j = i := by omega
          simp only [hlast]
          exact ⟨Nat.le_refl _, trivial, by rw [List.take_of_length_le (Nat.le_refl _)]⟩

end Go.Proofs.YtcnpgmlkocbhkaaGreat

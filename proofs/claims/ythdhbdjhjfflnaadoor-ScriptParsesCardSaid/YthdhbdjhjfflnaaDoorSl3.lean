/-
  The contract of Format at events that have lines. Own work; no statement of the seat is proved here.
-/
import Derived.Test.YthdhbdjhjfflnaaDoorSl2
namespace Go.Proofs.YthdhbdjhjfflnaaDoor
set_option linter.unusedSimpArgs false
set_option linter.unusedVariables false
open Go Go.Abs Go.RowKit

abbrev EL := Ev × List UInt8
def el0 : EL := (ev0, [])
/-- the text of lines -/
def txtM (L : List EL) : List UInt8 := L.flatMap fun p => p.2 ++ [10]
theorem txt_snoc (L : List EL) (i : Nat) (h : i < L.length) : txtM (L.take (i + 1)) = txtM (L.take i) ++ (L.getD i el0).2 ++ [10] := by
  have e : L.take (i + 1) = L.take i ++ [L.getD i el0] := by
    rw [List.take_succ_eq_append_getElem h]
    simp [List.getD_eq_getElem?_getD, h]
  rw [e]
  unfold txtM
  rw [List.flatMap_append, List.append_assoc]
  simp
theorem txt_len (L : List EL) (h : ∀ p, p ∈ L → p.2.length < 1000) : (txtM L).length ≤ 1000 * L.length := by
  induction L with
  | nil => simp [txtM]
  | cons p L ih =>
    have h1 := h p (by simp)
    have h2 := ih (fun q hq => h q (by simp [hq]))
    simp only [txtM, List.flatMap_cons, List.length_append, List.length_cons, List.length_nil] at *
    omega
theorem txt_take (L : List EL) (i : Nat) (hi : i ≤ L.length) (hn : L.length < 100) (h : ∀ p, p ∈ L → p.2.length < 1000) : (txtM (L.take i)).length < 100000 := by
  have := txt_len (L.take i) (fun p hp => h p (List.mem_of_mem_take hp))
  rw [List.length_take] at this
  omega

def fmtI (L : List EL) (i : Nat) : List (Nat × Option Blk) :=
  match i with
  | 0 => [(0, some ⟨bldT, [.p (.v (.pointer none)), .p (.v (.slice none 0 0))]⟩)]
  | i + 1 => [(0, some ⟨bldT, [.ptr 0 0, .sl 1 0 (txtM (L.take (i + 1))).length 1]⟩), (1, some ⟨byT, ((txtM (L.take (i + 1))).map bt).map .p⟩)]

theorem fmtI_end (L : List EL) (h : 1 ≤ L.length) : fmtI L L.length = [(0, some ⟨bldT, [.ptr 0 0, .sl 1 0 (txtM L).length 1]⟩), (1, some ⟨byT, ((txtM L).map bt).map .p⟩)] := by
  obtain ⟨m, hm⟩ : ∃ m, L.length = m + 1 := ⟨L.length - 1, by omega⟩
  have ht : L.take (m + 1) = L := List.take_of_length_le (by omega)
  rw [hm]; simp only [fmtI, ht]
theorem txt_pos (L : List EL) (h : 1 ≤ L.length) : 1 ≤ (txtM L).length := by
  cases L with
  | nil => simp at h
  | cons p L => simp only [txtM, List.flatMap_cons, List.length_append, List.length_cons]; omega

theorem wb10_c (b : List UInt8) (hb : b.length < 1000000) : Con Tryd.prog 19 [.ptr 0 0, .p (.v (.int .u8 10))] [(0, some ⟨bldT, [.ptr 0 0, .sl 1 0 b.length 1]⟩), (1, some ⟨byT, (b.map bt).map .p⟩)] (.p (.v .nilIface)) [(0, some ⟨bldT, [.ptr 0 0, .sl 2 0 (b ++ [10]).length 1]⟩), (1, none), (2, some ⟨byT, ((b ++ [10]).map bt).map .p⟩)] := wbN_c b 10 hb

set_option maxHeartbeats 4000000 in
theorem format_c (L : List EL) (h1 : 1 ≤ L.length) (hn : L.length < 100) (hl : ∀ p, p ∈ L → p.2.length < 1000)
    (hf : ∀ p, p ∈ L → FPure Tryd.prog 17 [evA p.1] (.tup [sv p.2, .b true])) :
    FPure Tryd.prog 10 [.p (.data 26 L.length (evsP (L.map (·.1))))] (.tup [sv (txtM L), .i 0]) := by
  refine fpure_x hmix Tryd.func10 rfl (by kernel_rfl) Tryd.ntmps10 Tryd.results10 (by simp) (by simp [idsL, idsA]) [0, 2, 3, 4, 6, 7, 8, 9, 10, 11, 12, 21] ?_; intro c hP h0 hE
  simp only [go_sem, Nat.reduceAdd, Nat.reduceMul, ↓reduceIte, reduceCtorEq, Nat.reduceLeDiff, Int.reduceToNat, Int.reduceLT, Int.reduceLE, Int.reduceEq, Int.reduceNe, Int.reduceBEq, Int.reduceBNe, not_false_eq_true, not_true_eq_false, hP]
  refine xw_loop hE h0 [0, 2, 3, 4, 6, 7, 8, 9, 10, 11, 12, 21] (α := { i : Nat // i ≤ L.length }) (fun i => ⟨27, [(4, .ptr 0 0), (9, .p (.data 26 L.length (evsP (L.map (·.1))))), (10, .i L.length), (11, .i i.1)], fmtI L i.1, 2⟩) (fun i => L.length - i.1) ⟨0, Nat.zero_le _⟩ [] (fun i => i) ?_ ?_
  · refine ⟨rfl, ?_, ?_, rfl, rfl, trivial, fun i h => Nat.le_trans (m := 2) (Nat.le_of_ble_eq_true rfl) h⟩
    · simp only [go_sem, Nat.reduceAdd, Nat.reduceMul, ↓reduceIte, reduceCtorEq, Nat.reduceLeDiff, Int.reduceToNat, Int.reduceLT, Int.reduceLE, Int.reduceEq, Int.reduceNe, Int.reduceBEq, Int.reduceBNe, not_false_eq_true, not_true_eq_false]
    · simp only [go_sem, Nat.reduceAdd, Nat.reduceMul, ↓reduceIte, reduceCtorEq, Nat.reduceLeDiff, Int.reduceToNat, Int.reduceLT, Int.reduceLE, Int.reduceEq, Int.reduceNe, Int.reduceBEq, Int.reduceBNe, not_false_eq_true, not_true_eq_false, fmtI]
  · rintro ⟨i, hi⟩
    rcases Nat.lt_or_ge i L.length with hin | hin
    · have hc : ((i : Int) < (L.length : Int)) := by omega
      have hw := w_succ (i := i) (by omega)
      have hat := evsP_at (L.map (·.1)) i (by simpa using hin)
      have hg : (L.map (·.1)).getD i ev0 = (L.getD i el0).1 := by simp [List.getD_eq_getElem?_getD, hin]
      have hm : L.getD i el0 ∈ L := List.mem_of_getElem? (getD_at (d := el0) hin)
      have hs := txt_snoc L i hin
      have hb := txt_take L i hi hn hl
      have hpl := hl _ hm
      have hpf := hf _ hm
      rw [hg] at hat
      generalize L.getD i el0 = p at *
      cases i with
      | zero =>
        have hc0 : ((0 : Int) < (L.length : Int)) := by omega
        have hw0 : IntKind.i64.wrap ((0 : Int) + 1) = 1 := by decide
        simp only [fmtI]
        simp only [Nat.zero_mul, List.drop_zero] at hat
        simp only [go_sem, Nat.reduceAdd, Nat.reduceMul, ↓reduceIte, reduceCtorEq, Nat.reduceLeDiff, Int.reduceToNat, Int.reduceLT, Int.reduceLE, Int.reduceEq, Int.reduceNe, Int.reduceBEq, Int.reduceBNe, not_false_eq_true, not_true_eq_false, hP, hc0, hw0, hat]
        refine ⟨by omega, ?_⟩
        first | refine xw_call hE (ks := [0, 2, 3, 4, 6, 7, 8, 9, 10, 11, 12, 21]) (n := 2000) (by rw [hP]; exact hpf) ?_ | refine xd_call hE (ks := [0, 2, 3, 4, 6, 7, 8, 9, 10, 11, 12, 21]) (n := 2000) (by rw [hP]; exact hpf) ?_
        simp only [go_sem, Nat.reduceAdd, Nat.reduceMul, ↓reduceIte, reduceCtorEq, Nat.reduceLeDiff, Int.reduceToNat, Int.reduceLT, Int.reduceLE, Int.reduceEq, Int.reduceNe, Int.reduceBEq, Int.reduceBNe, not_false_eq_true, not_true_eq_false, hP]
        refine xw_con hE (ks := [0, 2, 3, 4, 6, 7, 8, 9, 10, 11, 12, 21]) (n := 2000) [] (sg 4 [0, 3]) 4 (by rw [hP]; exact ws1_c p.2 (by omega)) ⟨by simp only [go_sem, Nat.reduceAdd, Nat.reduceMul, ↓reduceIte, reduceCtorEq, Nat.reduceLeDiff, Int.reduceToNat, Int.reduceLT, Int.reduceLE, Int.reduceEq, Int.reduceNe, Int.reduceBEq, Int.reduceBNe, not_false_eq_true, not_true_eq_false], by simp only [go_sem, Nat.reduceAdd, Nat.reduceMul, ↓reduceIte, reduceCtorEq, Nat.reduceLeDiff, Int.reduceToNat, Int.reduceLT, Int.reduceLE, Int.reduceEq, Int.reduceNe, Int.reduceBEq, Int.reduceBNe, not_false_eq_true, not_true_eq_false], rfl, trivial, Nat.le_of_ble_eq_true rfl, fun i hi => ?_, by simp [idsA, idsL], ?_, rfl⟩ ?_
        · simp [keys] at hi; rcases hi with rfl | rfl <;> simp [liveK, sg]
        · simp only [idsH, idsL, idsA, keys, List.map_cons, List.map_nil]
          first | exact ⟨by simp, idsL_map _ _, trivial⟩ | exact ⟨by simp, trivial, idsL_map _ _, trivial⟩
        simp only [go_sem, Nat.reduceAdd, Nat.reduceMul, ↓reduceIte, reduceCtorEq, Nat.reduceLeDiff, Int.reduceToNat, Int.reduceLT, Int.reduceLE, Int.reduceEq, Int.reduceNe, Int.reduceBEq, Int.reduceBNe, not_false_eq_true, not_true_eq_false, hP, renL_map, hw0]
        refine xw_con hE (ks := [0, 2, 3, 4, 6, 7, 8, 9, 10, 11, 12, 21]) (n := 2000) [] (sg 5 [0, 3, 4]) 5 (by rw [hP]; exact wb10_c p.2 (by omega)) ⟨by simp only [go_sem, Nat.reduceAdd, Nat.reduceMul, ↓reduceIte, reduceCtorEq, Nat.reduceLeDiff, Int.reduceToNat, Int.reduceLT, Int.reduceLE, Int.reduceEq, Int.reduceNe, Int.reduceBEq, Int.reduceBNe, not_false_eq_true, not_true_eq_false], ?_, rfl, trivial, Nat.le_of_ble_eq_true rfl, fun i hi => ?_, by simp [idsA, idsL], ?_, rfl⟩ ?_
        · simp only [go_sem, Nat.reduceAdd, Nat.reduceMul, ↓reduceIte, reduceCtorEq, Nat.reduceLeDiff, Int.reduceToNat, Int.reduceLT, Int.reduceLE, Int.reduceEq, Int.reduceNe, Int.reduceBEq, Int.reduceBNe, not_false_eq_true, not_true_eq_false]
          exact viewAs_pure _ _ _ _
        · simp [keys] at hi; rcases hi with rfl | rfl | rfl <;> simp [liveK, sg]
        · simp only [idsH, idsL, idsA, keys, List.map_cons, List.map_nil]
          first | exact ⟨by simp, idsL_map _ _, trivial⟩ | exact ⟨by simp, trivial, idsL_map _ _, trivial⟩
        simp only [go_sem, Nat.reduceAdd, Nat.reduceMul, ↓reduceIte, reduceCtorEq, Nat.reduceLeDiff, Int.reduceToNat, Int.reduceLT, Int.reduceLE, Int.reduceEq, Int.reduceNe, Int.reduceBEq, Int.reduceBNe, not_false_eq_true, not_true_eq_false, hP, renL_map, hw0]
        have hs0 : txtM (L.take 1) = p.2 ++ [10] := by rw [show (1 : Nat) = 0 + 1 from rfl, hs]; simp [txtM]
        refine ⟨⟨1, h1⟩, by show L.length - 1 < L.length - 0; omega, subG [0, 4] rfl ?_ ?_ rfl rfl (Nat.le_refl _)⟩
        · simp only [go_sem, Nat.reduceAdd, Nat.reduceMul, ↓reduceIte, reduceCtorEq, Nat.reduceLeDiff, Int.reduceToNat, Int.reduceLT, Int.reduceLE, Int.reduceEq, Int.reduceNe, Int.reduceBEq, Int.reduceBNe, not_false_eq_true, not_true_eq_false]
        · simp only [fmtI, Nat.zero_add, hs0]
          simp only [go_sem, Nat.reduceAdd, Nat.reduceMul, ↓reduceIte, reduceCtorEq, Nat.reduceLeDiff, Int.reduceToNat, Int.reduceLT, Int.reduceLE, Int.reduceEq, Int.reduceNe, Int.reduceBEq, Int.reduceBNe, not_false_eq_true, not_true_eq_false]
          exact viewAs_pure _ _ _ _
      | succ i =>
        have hw0 := hw
        simp only [fmtI]
        simp only [go_sem, Nat.reduceAdd, Nat.reduceMul, ↓reduceIte, reduceCtorEq, Nat.reduceLeDiff, Int.reduceToNat, Int.reduceLT, Int.reduceLE, Int.reduceEq, Int.reduceNe, Int.reduceBEq, Int.reduceBNe, not_false_eq_true, not_true_eq_false, hP, hc, hw, hat]
        refine ⟨by omega, by omega, ?_⟩
        first | refine xw_call hE (ks := [0, 2, 3, 4, 6, 7, 8, 9, 10, 11, 12, 21]) (n := 2000) (by rw [hP]; exact hpf) ?_ | refine xd_call hE (ks := [0, 2, 3, 4, 6, 7, 8, 9, 10, 11, 12, 21]) (n := 2000) (by rw [hP]; exact hpf) ?_
        simp only [go_sem, Nat.reduceAdd, Nat.reduceMul, ↓reduceIte, reduceCtorEq, Nat.reduceLeDiff, Int.reduceToNat, Int.reduceLT, Int.reduceLE, Int.reduceEq, Int.reduceNe, Int.reduceBEq, Int.reduceBNe, not_false_eq_true, not_true_eq_false, hP]
        refine xw_con hE (ks := [0, 2, 3, 4, 6, 7, 8, 9, 10, 11, 12, 21]) (n := 2000) [] (sg 4 [0, 1, 3]) 4 (by rw [hP]; exact wsN_c (txtM (L.take (i + 1))) p.2 (by omega) (by omega)) ⟨by simp only [go_sem, Nat.reduceAdd, Nat.reduceMul, ↓reduceIte, reduceCtorEq, Nat.reduceLeDiff, Int.reduceToNat, Int.reduceLT, Int.reduceLE, Int.reduceEq, Int.reduceNe, Int.reduceBEq, Int.reduceBNe, not_false_eq_true, not_true_eq_false], ?_, rfl, trivial, Nat.le_of_ble_eq_true rfl, fun i hi => ?_, by simp [idsA, idsL], ?_, rfl⟩ ?_
        · simp only [go_sem, Nat.reduceAdd, Nat.reduceMul, ↓reduceIte, reduceCtorEq, Nat.reduceLeDiff, Int.reduceToNat, Int.reduceLT, Int.reduceLE, Int.reduceEq, Int.reduceNe, Int.reduceBEq, Int.reduceBNe, not_false_eq_true, not_true_eq_false]
          exact viewAs_pure _ _ _ _
        · simp [keys] at hi; rcases hi with rfl | rfl | rfl <;> simp [liveK, sg]
        · simp only [idsH, idsL, idsA, keys, List.map_cons, List.map_nil]
          first | exact ⟨by simp, idsL_map _ _, trivial⟩ | exact ⟨by simp, trivial, idsL_map _ _, trivial⟩
        simp only [go_sem, Nat.reduceAdd, Nat.reduceMul, ↓reduceIte, reduceCtorEq, Nat.reduceLeDiff, Int.reduceToNat, Int.reduceLT, Int.reduceLE, Int.reduceEq, Int.reduceNe, Int.reduceBEq, Int.reduceBNe, not_false_eq_true, not_true_eq_false, hP, renL_map, hw0]
        refine xw_con hE (ks := [0, 2, 3, 4, 6, 7, 8, 9, 10, 11, 12, 21]) (n := 2000) [] (sg 5 [0, 3, 4]) 5 (by rw [hP]; exact wb10_c (txtM (L.take (i + 1)) ++ p.2) (by simp only [List.length_append]; omega)) ⟨by simp only [go_sem, Nat.reduceAdd, Nat.reduceMul, ↓reduceIte, reduceCtorEq, Nat.reduceLeDiff, Int.reduceToNat, Int.reduceLT, Int.reduceLE, Int.reduceEq, Int.reduceNe, Int.reduceBEq, Int.reduceBNe, not_false_eq_true, not_true_eq_false], ?_, rfl, trivial, Nat.le_of_ble_eq_true rfl, fun i hi => ?_, by simp [idsA, idsL], ?_, rfl⟩ ?_
        · simp only [go_sem, Nat.reduceAdd, Nat.reduceMul, ↓reduceIte, reduceCtorEq, Nat.reduceLeDiff, Int.reduceToNat, Int.reduceLT, Int.reduceLE, Int.reduceEq, Int.reduceNe, Int.reduceBEq, Int.reduceBNe, not_false_eq_true, not_true_eq_false]
          exact viewAs_pure _ _ _ _
        · simp [keys] at hi; rcases hi with rfl | rfl | rfl <;> simp [liveK, sg]
        · simp only [idsH, idsL, idsA, keys, List.map_cons, List.map_nil]
          first | exact ⟨by simp, idsL_map _ _, trivial⟩ | exact ⟨by simp, trivial, idsL_map _ _, trivial⟩
        simp only [go_sem, Nat.reduceAdd, Nat.reduceMul, ↓reduceIte, reduceCtorEq, Nat.reduceLeDiff, Int.reduceToNat, Int.reduceLT, Int.reduceLE, Int.reduceEq, Int.reduceNe, Int.reduceBEq, Int.reduceBNe, not_false_eq_true, not_true_eq_false, hP, renL_map, hw0]
        refine ⟨⟨i + 1 + 1, by omega⟩, by show L.length - (i + 1 + 1) < L.length - (i + 1); omega, subG [0, 4] rfl ?_ ?_ rfl rfl (Nat.le_refl _)⟩
        · simp only [go_sem, Nat.reduceAdd, Nat.reduceMul, ↓reduceIte, reduceCtorEq, Nat.reduceLeDiff, Int.reduceToNat, Int.reduceLT, Int.reduceLE, Int.reduceEq, Int.reduceNe, Int.reduceBEq, Int.reduceBNe, not_false_eq_true, not_true_eq_false]
        · simp only [fmtI, hs]
          simp only [go_sem, Nat.reduceAdd, Nat.reduceMul, ↓reduceIte, reduceCtorEq, Nat.reduceLeDiff, Int.reduceToNat, Int.reduceLT, Int.reduceLE, Int.reduceEq, Int.reduceNe, Int.reduceBEq, Int.reduceBNe, not_false_eq_true, not_true_eq_false]
          exact viewAs_pure _ _ _ _
    · obtain rfl : i = L.length := by omega
      have hnc : ¬ ((L.length : Int) < (L.length : Int)) := by omega
      have hb := txt_take L L.length hi hn hl
      rw [List.take_of_length_le (Nat.le_refl _)] at hb
      have he := fmtI_end L h1
      simp only [he]
      simp only [go_sem, Nat.reduceAdd, Nat.reduceMul, ↓reduceIte, reduceCtorEq, Nat.reduceLeDiff, Int.reduceToNat, Int.reduceLT, Int.reduceLE, Int.reduceEq, Int.reduceNe, Int.reduceBEq, Int.reduceBNe, not_false_eq_true, not_true_eq_false, hP, hnc]
      refine xw_con hE (ks := [0, 2, 3, 4, 6, 7, 8, 9, 10, 11, 12, 21]) (n := 2000) [] (fun i => i) 2 (by rw [hP]; exact bstr_c (txtM L) (by omega) (txt_pos L h1)) ⟨by simp only [go_sem, Nat.reduceAdd, Nat.reduceMul, ↓reduceIte, reduceCtorEq, Nat.reduceLeDiff, Int.reduceToNat, Int.reduceLT, Int.reduceLE, Int.reduceEq, Int.reduceNe, Int.reduceBEq, Int.reduceBNe, not_false_eq_true, not_true_eq_false], by (simp only [go_sem, Nat.reduceAdd, Nat.reduceMul, ↓reduceIte, reduceCtorEq, Nat.reduceLeDiff, Int.reduceToNat, Int.reduceLT, Int.reduceLE, Int.reduceEq, Int.reduceNe, Int.reduceBEq, Int.reduceBNe, not_false_eq_true, not_true_eq_false]; exact viewAs_pure _ _ _ _), rfl, trivial, Nat.le_of_ble_eq_true rfl, fun i hi => .inl (by simp [keys] at hi; simp [liveK, hi]), by simp [idsA, idsL], by simp [idsH], rfl⟩ ?_
      simp only [go_sem, Nat.reduceAdd, Nat.reduceMul, ↓reduceIte, reduceCtorEq, Nat.reduceLeDiff, Int.reduceToNat, Int.reduceLT, Int.reduceLE, Int.reduceEq, Int.reduceNe, Int.reduceBEq, Int.reduceBNe, not_false_eq_true, not_true_eq_false, hP]

end Go.Proofs.YthdhbdjhjfflnaaDoor

/-
  Contracts of Parse: the program's and the reference's. Own work; no statement of the seat is proved here.
-/
import Derived.Test.YthdhbdjhjfflnaaDoorSg
namespace Go.Proofs.YthdhbdjhjfflnaaDoor
set_option linter.unusedSimpArgs false
set_option linter.unusedVariables false
open Go Go.Abs Go.RowKit

/-- the cells of a list of events -/
def evsP (l : List Ev) : List PV := l.flatMap fun e => (evC e).map unP
def evsA (l : List Ev) : List AV := l.flatMap evC
theorem evsA_map (l : List Ev) : evsA l = (evsP l).map .p := by
  unfold evsA evsP; rw [List.map_flatMap]; rfl
theorem evsA_len (l : List Ev) : (evsA l).length = l.length * 26 := flat_len evC 26 (fun _ => rfl) l
theorem evsP_len (l : List Ev) : (evsP l).length = l.length * 26 := flat_len _ 26 (fun _ => rfl) l
theorem evsA_snoc (l : List Ev) (e : Ev) : evsA l ++ evC e = evsA (l ++ [e]) := by simp [evsA]
theorem evsA_view (h : Heap) (S : List Nat) (σ : Nat → Nat) (l : List Ev) : viewAs h S σ (evsA l) (evsA l) := by rw [evsA_map]; exact viewAs_pure h S σ _
theorem allQ_evsA (l : List Ev) : allQ (evsA l) := by rw [evsA_map]; exact allQ_map _
theorem unQs_evsA (l : List Ev) : unQs (evsA l) = evsP l := by rw [evsA_map, unQs_map]
theorem allP_evsA (l : List Ev) : allP (evsA l) := by
  rw [evsA_map]; intro c hc; obtain ⟨x, _, rfl⟩ := List.mem_map.1 hc; trivial
theorem evsA_take (l : List Ev) : (evsA l).take (l.length * 26) = evsA l := List.take_of_length_le (by rw [evsA_len]; omega)
theorem renL_evsA (τ : Nat → Nat) (l : List Ev) : renL τ (evsA l) = evsA l := by rw [evsA_map]; exact renL_map τ _
attribute [go_sem] List.flatten_cons List.flatten_nil List.append_nil evsA_take evsA_len evsP_len evsA_snoc evsA_view allQ_evsA unQs_evsA allP_evsA renL_evsA
theorem ev_zrep (n : Nat) : zrep n z43 = (List.replicate n (evC ev0)).flatten := rfl
attribute [go_sem] ev_zrep
theorem evsP_nil : evsP [] = [] := rfl
attribute [go_sem] evsP_nil
/-- what a reading gives -/
abbrev parA (r : List Ev × Nat × Int) : AV := .tup [.p (.data 26 r.1.length (evsP r.1)), .i r.2.1, .i r.2.2]

set_option maxHeartbeats 4000000 in
theorem pparse_c (s : List UInt8) (hs : s.length < 1000000) : FPure Tryd.prog 9 [sv s] (parA (parseM s)) := by
  refine fpure_x hmix Tryd.func9 rfl (by kernel_rfl) Tryd.ntmps9 Tryd.results9 (by simp) (by simp [idsL, idsA]) [0, 2, 3, 4, 5, 6, 7, 8, 9, 11, 26, 33] ?_; intro c hP h0 hE
  generalize hR : parseM s = R at *
  unfold parseM at hR
  simp only [go_sem, Nat.reduceAdd, Nat.reduceMul, ↓reduceIte, reduceCtorEq, Nat.reduceLeDiff, Int.reduceToNat, Int.reduceLT, Int.reduceLE, Int.reduceEq, Int.reduceNe, Int.reduceBEq, Int.reduceBNe, not_false_eq_true, not_true_eq_false, hP]
  refine saw_new evT ?_
  refine xw_loop hE h0 [0, 2, 3, 4, 5, 6, 7, 8, 9, 11, 26, 33] (α := { p : List UInt8 × Nat × List Ev // p.2.1 + p.1.length ≤ s.length + 1 ∧ p.2.2.length < p.2.1 ∧ parseL (linesM p.1) p.2.1 p.2.2 = R }) (fun p => ⟨40, [(0, sv p.1.1), (5, .sl 0 0 p.1.2.2.length 26), (6, .i p.1.2.1)], [(0, some ⟨evT, evsA p.1.2.2⟩)], 1⟩) (fun p => p.1.1.length) ⟨(s, 1, []), by simp only; omega, by simp, hR⟩ [] (fun i => i) ?_ ?_
  · refine ⟨rfl, ?_, ?_, rfl, rfl, trivial, fun i h => h⟩
    · simp only [go_sem, Nat.reduceAdd, Nat.reduceMul, ↓reduceIte, reduceCtorEq, Nat.reduceLeDiff, Int.reduceToNat, Int.reduceLT, Int.reduceLE, Int.reduceEq, Int.reduceNe, Int.reduceBEq, Int.reduceBNe, not_false_eq_true, not_true_eq_false]
    · simp only [go_sem, Nat.reduceAdd, Nat.reduceMul, ↓reduceIte, reduceCtorEq, Nat.reduceLeDiff, Int.reduceToNat, Int.reduceLT, Int.reduceLE, Int.reduceEq, Int.reduceNe, Int.reduceBEq, Int.reduceBNe, not_false_eq_true, not_true_eq_false, evsA, List.flatMap_nil]
  · rintro ⟨⟨text, n, l⟩, h1, h2, hr⟩
    simp only at h1 h2 hr
    by_cases ht : text = []
    · subst ht
      rw [linesM_nil, parseL] at hr
      subst hr
      simp only [go_sem, Nat.reduceAdd, Nat.reduceMul, ↓reduceIte, reduceCtorEq, Nat.reduceLeDiff, Int.reduceToNat, Int.reduceLT, Int.reduceLE, Int.reduceEq, Int.reduceNe, Int.reduceBEq, Int.reduceBNe, not_false_eq_true, not_true_eq_false, hP]
      omega
    · have hlt := cutM_lt 10 text ht
      have hle := cutM_le 10 text
      rw [linesM_cons ht, parseL] at hr
      simp only [go_sem, Nat.reduceAdd, Nat.reduceMul, ↓reduceIte, reduceCtorEq, Nat.reduceLeDiff, Int.reduceToNat, Int.reduceLT, Int.reduceLE, Int.reduceEq, Int.reduceNe, Int.reduceBEq, Int.reduceBNe, not_false_eq_true, not_true_eq_false, hP, ht]
      first | refine xw_call hE (ks := [0, 2, 3, 4, 5, 6, 7, 8, 9, 11, 26, 33]) (n := 2000) (by rw [hP]; exact scut_c text 10 (by omega)) ?_ | refine xd_call hE (ks := [0, 2, 3, 4, 5, 6, 7, 8, 9, 11, 26, 33]) (n := 2000) (by rw [hP]; exact scut_c text 10 (by omega)) ?_
      generalize cutM 10 text = C at *
      have hwn := w_succ (i := n) (by omega)
      have next : ∀ l', l'.length ≤ l.length + 1 → parseL (linesM C.2.1) (n + 1) l' = R → ∃ y : { p : List UInt8 × Nat × List Ev // p.2.1 + p.1.length ≤ s.length + 1 ∧ p.2.2.length < p.2.1 ∧ parseL (linesM p.1) p.2.1 p.2.2 = R }, y.1 = (C.2.1, n + 1, l') := fun l' hl' h => ⟨⟨(C.2.1, n + 1, l'), by simp only; omega, by simp only; omega, h⟩, rfl⟩
      by_cases hsk : C.1 = [] ∨ C.1[0]? = some 35
      · rw [if_pos hsk] at hr
        obtain ⟨y, hy⟩ := next l (by omega) hr
        by_cases he : C.1 = []
        · simp only [go_sem, Nat.reduceAdd, Nat.reduceMul, ↓reduceIte, reduceCtorEq, Nat.reduceLeDiff, Int.reduceToNat, Int.reduceLT, Int.reduceLE, Int.reduceEq, Int.reduceNe, Int.reduceBEq, Int.reduceBNe, not_false_eq_true, not_true_eq_false, hP, ht, he, hwn]
          refine ⟨y, by rw [hy]; exact hlt, ?_⟩
          rw [hy]
          refine subI rfl ?_ ?_ rfl rfl (Nat.le_refl _)
          · simp only [go_sem, Nat.reduceAdd, Nat.reduceMul, ↓reduceIte, reduceCtorEq, Nat.reduceLeDiff, Int.reduceToNat, Int.reduceLT, Int.reduceLE, Int.reduceEq, Int.reduceNe, Int.reduceBEq, Int.reduceBNe, not_false_eq_true, not_true_eq_false]
          · simp only [go_sem, Nat.reduceAdd, Nat.reduceMul, ↓reduceIte, reduceCtorEq, Nat.reduceLeDiff, Int.reduceToNat, Int.reduceLT, Int.reduceLE, Int.reduceEq, Int.reduceNe, Int.reduceBEq, Int.reduceBNe, not_false_eq_true, not_true_eq_false]
        · have h35 : C.1.getD 0 0 = 35 := by
            rcases hsk with h | h
            · exact absurd h he
            · simp [List.getD_eq_getElem?_getD, h]
          have hpos : 0 < C.1.length := List.length_pos_iff.2 he
          simp only [go_sem, Nat.reduceAdd, Nat.reduceMul, ↓reduceIte, reduceCtorEq, Nat.reduceLeDiff, Int.reduceToNat, Int.reduceLT, Int.reduceLE, Int.reduceEq, Int.reduceNe, Int.reduceBEq, Int.reduceBNe, not_false_eq_true, not_true_eq_false, hP, ht, he, hwn, h35]
          refine ⟨by omega, ?_⟩
          refine ⟨y, by rw [hy]; exact hlt, ?_⟩
          rw [hy]
          refine subI rfl ?_ ?_ rfl rfl (Nat.le_refl _)
          · simp only [go_sem, Nat.reduceAdd, Nat.reduceMul, ↓reduceIte, reduceCtorEq, Nat.reduceLeDiff, Int.reduceToNat, Int.reduceLT, Int.reduceLE, Int.reduceEq, Int.reduceNe, Int.reduceBEq, Int.reduceBNe, not_false_eq_true, not_true_eq_false]
          · simp only [go_sem, Nat.reduceAdd, Nat.reduceMul, ↓reduceIte, reduceCtorEq, Nat.reduceLeDiff, Int.reduceToNat, Int.reduceLT, Int.reduceLE, Int.reduceEq, Int.reduceNe, Int.reduceBEq, Int.reduceBNe, not_false_eq_true, not_true_eq_false]
      · rw [if_neg hsk] at hr
        have he : ¬ C.1 = [] := fun e => hsk (.inl e)
        have hpos : 0 < C.1.length := List.length_pos_iff.2 he
        have h35 : ¬ C.1.getD 0 0 = 35 := fun e => hsk (.inr (by rw [getD_at (d := 0) hpos, e]))
        rw [← lineXM_eq] at hr
        simp only [go_sem, Nat.reduceAdd, Nat.reduceMul, ↓reduceIte, reduceCtorEq, Nat.reduceLeDiff, Int.reduceToNat, Int.reduceLT, Int.reduceLE, Int.reduceEq, Int.reduceNe, Int.reduceBEq, Int.reduceBNe, not_false_eq_true, not_true_eq_false, hP, ht, he, h35]
        refine ⟨by omega, ?_⟩
        first | refine xw_call hE (ks := [0, 2, 3, 4, 5, 6, 7, 8, 9, 11, 26, 33]) (n := 2000) (by rw [hP]; exact pline_c C.1 (by omega)) ?_ | refine xd_call hE (ks := [0, 2, 3, 4, 5, 6, 7, 8, 9, 11, 26, 33]) (n := 2000) (by rw [hP]; exact pline_c C.1 (by omega)) ?_
        generalize lineXM C.1 = G at *
        obtain ⟨e, ok⟩ := G
        cases ok with
        | false =>
          simp only [optE] at hr
          subst hr
          simp only [go_sem, Nat.reduceAdd, Nat.reduceMul, ↓reduceIte, reduceCtorEq, Nat.reduceLeDiff, Int.reduceToNat, Int.reduceLT, Int.reduceLE, Int.reduceEq, Int.reduceNe, Int.reduceBEq, Int.reduceBNe, not_false_eq_true, not_true_eq_false, hP]
        | true =>
          simp only [optE] at hr
          obtain ⟨y, hy⟩ := next (l ++ [e]) (by simp) hr
          simp only [go_sem, Nat.reduceAdd, Nat.reduceMul, ↓reduceIte, reduceCtorEq, Nat.reduceLeDiff, Int.reduceToNat, Int.reduceLT, Int.reduceLE, Int.reduceEq, Int.reduceNe, Int.reduceBEq, Int.reduceBNe, not_false_eq_true, not_true_eq_false, hP, hwn]
          refine ⟨by omega, ?_⟩
          refine ⟨y, by rw [hy]; exact hlt, ?_⟩
          rw [hy]
          refine subG [3] rfl ?_ ?_ rfl rfl (Nat.le_refl _)
          · simp only [go_sem, Nat.reduceAdd, Nat.reduceMul, ↓reduceIte, reduceCtorEq, Nat.reduceLeDiff, Int.reduceToNat, Int.reduceLT, Int.reduceLE, Int.reduceEq, Int.reduceNe, Int.reduceBEq, Int.reduceBNe, not_false_eq_true, not_true_eq_false]
          · simp only [go_sem, Nat.reduceAdd, Nat.reduceMul, ↓reduceIte, reduceCtorEq, Nat.reduceLeDiff, Int.reduceToNat, Int.reduceLT, Int.reduceLE, Int.reduceEq, Int.reduceNe, Int.reduceBEq, Int.reduceBNe, not_false_eq_true, not_true_eq_false]

end Go.Proofs.YthdhbdjhjfflnaaDoor

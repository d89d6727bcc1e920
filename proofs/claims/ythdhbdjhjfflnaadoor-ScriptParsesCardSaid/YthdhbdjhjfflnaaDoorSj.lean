/-
  Contracts of the law's comparison, of its words and lines. Own work; no statement of the seat is proved here.
-/
import Derived.Test.YthdhbdjhjfflnaaDoorSi
namespace Go.Proofs.YthdhbdjhjfflnaaDoor
set_option linter.unusedSimpArgs false
set_option linter.unusedVariables false
open Go Go.Abs Go.RowKit

set_option maxHeartbeats 4000000 in
theorem sameEv_c (e : Ev) : FPure Tryd.prog 23 [evA e, evA e] (.b true) := by
  have hid := idsL_ev [] e
  refine fpure_x hmix Tryd.func23 rfl (by kernel_rfl) Tryd.ntmps23 Tryd.results23 (by simp) (by simp [idsL, idsA, *]) [0, 1, 2, 3, 4] ?_; intro c hP h0 hE
  simp only [go_sem, Nat.reduceAdd, Nat.reduceMul, ↓reduceIte, reduceCtorEq, Nat.reduceLeDiff, Int.reduceToNat, Int.reduceLT, Int.reduceLE, Int.reduceEq, Int.reduceNe, Int.reduceBEq, Int.reduceBNe, not_false_eq_true, not_true_eq_false, hP, BEq.rfl]
set_option maxHeartbeats 4000000 in
set_option maxRecDepth 20000 in
theorem plain_c (e : Ev) : FPure Tryd.prog 24 [evA e] (.b true) := by
  have hid := idsL_ev [] e
  refine fpure_x hmix Tryd.func24 rfl (by kernel_rfl) Tryd.ntmps24 Tryd.results24 (by simp) (by simp [idsL, idsA, *]) [0, 1, 2, 3, 4] ?_; intro c hP h0 hE
  simp only [go_sem, Nat.reduceAdd, Nat.reduceMul, ↓reduceIte, reduceCtorEq, Nat.reduceLeDiff, Int.reduceToNat, Int.reduceLT, Int.reduceLE, Int.reduceEq, Int.reduceNe, Int.reduceBEq, Int.reduceBNe, not_false_eq_true, not_true_eq_false, hP, evC, BEq.rfl, List.append_eq]
  exact (by kernel_rfl)

theorem evsP_at (l : List Ev) (i : Nat) (h : i < l.length) : (((evsP l).drop (i * 26)).take 26).map .p = evC (l.getD i ev0) := by
  unfold evsP
  rw [flat_drop (fun e => (evC e).map unP) 26 (fun _ => rfl) l i ev0 h]
  rfl
set_option maxHeartbeats 4000000 in
theorem same_c (l : List Ev) (hl : l.length < 1000000) : FPure Tryd.prog 14 [.p (.data 26 l.length (evsP l)), .p (.data 26 l.length (evsP l))] (.b true) := by
  refine fpure_x hmix Tryd.func14 rfl (by kernel_rfl) Tryd.ntmps14 Tryd.results14 (by simp) (by simp [idsL, idsA]) [0, 1, 4, 5, 10, 14, 34] ?_; intro c hP h0 hE
  simp only [go_sem, Nat.reduceAdd, Nat.reduceMul, ↓reduceIte, reduceCtorEq, Nat.reduceLeDiff, Int.reduceToNat, Int.reduceLT, Int.reduceLE, Int.reduceEq, Int.reduceNe, Int.reduceBEq, Int.reduceBNe, not_false_eq_true, not_true_eq_false, hP, BEq.rfl]
  refine xw_for hE h0 [0, 1, 4, 5, 10, 14, 34] l.length (fun i => ⟨35, [(0, .p (.data 26 l.length (evsP l))), (1, .p (.data 26 l.length (evsP l))), (5, .i i)], [], 0⟩) [] (fun i => i) ?_ ?_
  · refine ⟨rfl, ?_, trivial, rfl, rfl, trivial, fun i h => h⟩
    simp only [go_sem, Nat.reduceAdd, Nat.reduceMul, ↓reduceIte, reduceCtorEq, Nat.reduceLeDiff, Int.reduceToNat, Int.reduceLT, Int.reduceLE, Int.reduceEq, Int.reduceNe, Int.reduceBEq, Int.reduceBNe, not_false_eq_true, not_true_eq_false]
  · intro i hi
    rcases Nat.lt_or_ge i l.length with hin | hin
    · have hc : ((i : Int) < (l.length : Int)) := by omega
      have hw := w_succ (i := i) (by omega)
      have hat := evsP_at l i hin
      generalize l.getD i ev0 = e at *
      simp only [go_sem, Nat.reduceAdd, Nat.reduceMul, ↓reduceIte, reduceCtorEq, Nat.reduceLeDiff, Int.reduceToNat, Int.reduceLT, Int.reduceLE, Int.reduceEq, Int.reduceNe, Int.reduceBEq, Int.reduceBNe, not_false_eq_true, not_true_eq_false, hP, hc, hw, hat]
      refine ⟨by omega, by omega, by omega, by omega, ?_⟩
      first | refine xw_call hE (ks := [0, 1, 4, 5, 10, 14, 34]) (n := 2000) (by rw [hP]; exact sameEv_c e) ?_ | refine xd_call hE (ks := [0, 1, 4, 5, 10, 14, 34]) (n := 2000) (by rw [hP]; exact sameEv_c e) ?_
      simp only [go_sem, Nat.reduceAdd, Nat.reduceMul, ↓reduceIte, reduceCtorEq, Nat.reduceLeDiff, Int.reduceToNat, Int.reduceLT, Int.reduceLE, Int.reduceEq, Int.reduceNe, Int.reduceBEq, Int.reduceBNe, not_false_eq_true, not_true_eq_false, hP, hw, hat]
      refine ⟨by omega, by omega, ?_⟩
      first | refine xw_call hE (ks := [0, 1, 4, 5, 10, 14, 34]) (n := 2000) (by rw [hP]; exact plain_c e) ?_ | refine xd_call hE (ks := [0, 1, 4, 5, 10, 14, 34]) (n := 2000) (by rw [hP]; exact plain_c e) ?_
      simp only [go_sem, Nat.reduceAdd, Nat.reduceMul, ↓reduceIte, reduceCtorEq, Nat.reduceLeDiff, Int.reduceToNat, Int.reduceLT, Int.reduceLE, Int.reduceEq, Int.reduceNe, Int.reduceBEq, Int.reduceBNe, not_false_eq_true, not_true_eq_false, hP, hw]
      refine ⟨by kernel_rfl, by omega, subI rfl ?_ ?_ rfl rfl (Nat.le_refl _)⟩
      · simp only [go_sem, Nat.reduceAdd, Nat.reduceMul, ↓reduceIte, reduceCtorEq, Nat.reduceLeDiff, Int.reduceToNat, Int.reduceLT, Int.reduceLE, Int.reduceEq, Int.reduceNe, Int.reduceBEq, Int.reduceBNe, not_false_eq_true, not_true_eq_false]
      · simp only [go_sem, Nat.reduceAdd, Nat.reduceMul, ↓reduceIte, reduceCtorEq, Nat.reduceLeDiff, Int.reduceToNat, Int.reduceLT, Int.reduceLE, Int.reduceEq, Int.reduceNe, Int.reduceBEq, Int.reduceBNe, not_false_eq_true, not_true_eq_false]
    · obtain rfl : i = l.length := by omega
      have hnc : ¬ ((l.length : Int) < (l.length : Int)) := by omega
      simp only [go_sem, Nat.reduceAdd, Nat.reduceMul, ↓reduceIte, reduceCtorEq, Nat.reduceLeDiff, Int.reduceToNat, Int.reduceLT, Int.reduceLE, Int.reduceEq, Int.reduceNe, Int.reduceBEq, Int.reduceBNe, not_false_eq_true, not_true_eq_false, hP, hnc]

theorem parse_len (s : List UInt8) : (parseM s).1.length ≤ s.length := by
  have key : ∀ (L : List (List UInt8)) (n : Nat) (acc : List Ev), (parseL L n acc).1.length ≤ acc.length + L.length := by
    intro L
    induction L with
    | nil => intro n acc; simp [parseL]
    | cons x L ih =>
      intro n acc
      unfold parseL
      split
      · have := ih (n + 1) acc; simp only [List.length_cons]; omega
      · split
        · rename_i e _
          have := ih (n + 1) (acc ++ [e])
          simp only [List.length_append, List.length_cons, List.length_nil] at this ⊢; omega
        · simp
  have h1 := key (linesM s) 1 []
  have h2 := (lines_len s.length s (Nat.le_refl _)).1
  simp only [List.length_nil] at h1
  unfold parseM; omega
theorem parses_c (s : List UInt8) (hs : s.length < 1000000) : FPure Tryd.prog 8 [sv s] (.b true) := by
  refine fpure_x hmix Tryd.func8 rfl (by kernel_rfl) Tryd.ntmps8 Tryd.results8 (by simp) (by simp [idsL, idsA]) [0, 2, 3, 4, 5, 6, 7, 8] ?_; intro c hP h0 hE
  simp only [go_sem, Nat.reduceAdd, Nat.reduceMul, ↓reduceIte, reduceCtorEq, Nat.reduceLeDiff, Int.reduceToNat, Int.reduceLT, Int.reduceLE, Int.reduceEq, Int.reduceNe, Int.reduceBEq, Int.reduceBNe, not_false_eq_true, not_true_eq_false, hP]
  first | refine xw_call hE (ks := [0, 2, 3, 4, 5, 6, 7, 8]) (n := 2000) (by rw [hP]; exact pparse_c s hs) ?_ | refine xd_call hE (ks := [0, 2, 3, 4, 5, 6, 7, 8]) (n := 2000) (by rw [hP]; exact pparse_c s hs) ?_
  have hle := parse_len s
  simp only [go_sem, Nat.reduceAdd, Nat.reduceMul, ↓reduceIte, reduceCtorEq, Nat.reduceLeDiff, Int.reduceToNat, Int.reduceLT, Int.reduceLE, Int.reduceEq, Int.reduceNe, Int.reduceBEq, Int.reduceBNe, not_false_eq_true, not_true_eq_false, hP]
  first | refine xw_call hE (ks := [0, 2, 3, 4, 5, 6, 7, 8]) (n := 2000) (by rw [hP]; exact rparse_c s hs) ?_ | refine xd_call hE (ks := [0, 2, 3, 4, 5, 6, 7, 8]) (n := 2000) (by rw [hP]; exact rparse_c s hs) ?_
  generalize parseM s = R at *
  simp only [go_sem, Nat.reduceAdd, Nat.reduceMul, ↓reduceIte, reduceCtorEq, Nat.reduceLeDiff, Int.reduceToNat, Int.reduceLT, Int.reduceLE, Int.reduceEq, Int.reduceNe, Int.reduceBEq, Int.reduceBNe, not_false_eq_true, not_true_eq_false, hP, BEq.rfl]
  first | refine xw_call hE (ks := [0, 2, 3, 4, 5, 6, 7, 8]) (n := 2000) (by rw [hP]; exact same_c R.1 (by omega)) ?_ | refine xd_call hE (ks := [0, 2, 3, 4, 5, 6, 7, 8]) (n := 2000) (by rw [hP]; exact same_c R.1 (by omega)) ?_
  simp only [go_sem, Nat.reduceAdd, Nat.reduceMul, ↓reduceIte, reduceCtorEq, Nat.reduceLeDiff, Int.reduceToNat, Int.reduceLT, Int.reduceLE, Int.reduceEq, Int.reduceNe, Int.reduceBEq, Int.reduceBNe, not_false_eq_true, not_true_eq_false, hP]

end Go.Proofs.YthdhbdjhjfflnaaDoor

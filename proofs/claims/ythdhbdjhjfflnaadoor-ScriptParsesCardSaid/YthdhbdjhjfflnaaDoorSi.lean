/-
  Contracts of the reference's lines and Parse. Own work; no statement of the seat is proved here.
-/
import Derived.Test.YthdhbdjhjfflnaaDoorSh
namespace Go.Proofs.YthdhbdjhjfflnaaDoor
set_option linter.unusedSimpArgs false
set_option linter.unusedVariables false
open Go Go.Abs Go.RowKit

theorem lines_at {s : List UInt8} {i : Nat} (hn : (10 : UInt8) ∉ s.take i) (h : s[i]? = some 10) : linesM s = s.take i :: linesM (s.drop (i + 1)) := by
  have hne : s ≠ [] := by rintro rfl; simp at h
  rw [linesM_cons hne, cutM_at hn h]
theorem lines_no {s : List UInt8} (hn : (10 : UInt8) ∉ s) : linesM s = if s = [] then [] else [s] := by
  by_cases h : s = []
  · rw [if_pos h, h, linesM_nil]
  · rw [if_neg h, linesM_cons h, cutM_no hn, linesM_nil]
theorem lines_len : ∀ (n : Nat) (s : List UInt8), s.length ≤ n → (linesM s).length ≤ s.length ∧ ∀ x, x ∈ linesM s → x.length ≤ s.length := by
  intro n
  induction n with
  | zero =>
    intro s h
    have : s = [] := List.eq_nil_of_length_eq_zero (by omega)
    subst this
    rw [linesM_nil]; simp
  | succ n ih =>
    intro s h
    by_cases hs : s = []
    · subst hs; rw [linesM_nil]; simp
    · have hlt := cutM_lt 10 s hs
      have hle := cutM_le 10 s
      have := ih (cutM 10 s).2.1 (by omega)
      rw [linesM_cons hs]
      refine ⟨by simp only [List.length_cons]; omega, fun x hx => ?_⟩
      rcases List.mem_cons.1 hx with rfl | hx
      · exact hle.1
      · have := this.2 x hx; omega
abbrev stT : Nat := 9
theorem sv_len (l : List (List UInt8)) : (l.map sv).length = l.length := by simp
theorem sv_snoc (l : List (List UInt8)) (x : List UInt8) : l.map sv ++ [.p (.v (.string ⟨x.toArray⟩))] = (l ++ [x]).map sv := by simp
theorem sv_map (l : List (List UInt8)) : l.map sv = (l.map strP).map .p := by simp [strP]
theorem sv_allQ (l : List (List UInt8)) : allQ (l.map sv) := by rw [sv_map]; exact allQ_map _
theorem sv_unQ (l : List (List UInt8)) : unQs (l.map sv) = l.map strP := by rw [sv_map, unQs_map]
theorem sv_take (l : List (List UInt8)) : (l.map sv).take l.length = l.map sv := List.take_of_length_le (by simp)
attribute [go_sem] sv_len sv_snoc sv_allQ sv_unQ sv_take

set_option maxHeartbeats 4000000 in
theorem lines_c (s : List UInt8) (hs : s.length < 1000000) : FPure Tryd.prog 21 [sv s] (.p (.data 1 (linesM s).length ((linesM s).map strP))) := by
  refine fpure_x hmix Tryd.func21 rfl (by kernel_rfl) Tryd.ntmps21 Tryd.results21 (by simp) (by simp [idsL, idsA]) [0, 2, 3, 4, 5, 9, 15, 28] ?_; intro c hP h0 hE
  generalize hR : linesM s = R at *
  simp only [go_sem, Nat.reduceAdd, Nat.reduceMul, ↓reduceIte, reduceCtorEq, Nat.reduceLeDiff, Int.reduceToNat, Int.reduceLT, Int.reduceLE, Int.reduceEq, Int.reduceNe, Int.reduceBEq, Int.reduceBNe, not_false_eq_true, not_true_eq_false, hP]
  refine saw_new stT ?_
  refine xw_loop hE h0 [0, 2, 3, 4, 5, 9, 15, 28] (α := { p : Nat × Nat × List (List UInt8) // p.1 ≤ p.2.1 ∧ p.2.1 ≤ s.length ∧ (10 : UInt8) ∉ (s.drop p.1).take (p.2.1 - p.1) ∧ p.2.2.length ≤ p.1 ∧ p.2.2 ++ linesM (s.drop p.1) = R }) (fun p => ⟨36, [(0, sv s), (3, .sl 0 0 p.1.2.2.length 1), (4, .i p.1.1), (5, .i p.1.2.1)], [(0, some ⟨stT, p.1.2.2.map sv⟩)], 1⟩) (fun p => s.length - p.1.2.1) ⟨(0, 0, []), by simp, by simp, by simp, by simp, by simpa using hR⟩ [] (fun i => i) ?_ ?_
  · refine ⟨rfl, ?_, ?_, rfl, rfl, trivial, fun i h => h⟩
    · simp only [go_sem, Nat.reduceAdd, Nat.reduceMul, ↓reduceIte, reduceCtorEq, Nat.reduceLeDiff, Int.reduceToNat, Int.reduceLT, Int.reduceLE, Int.reduceEq, Int.reduceNe, Int.reduceBEq, Int.reduceBNe, not_false_eq_true, not_true_eq_false]
    · simp only [go_sem, Nat.reduceAdd, Nat.reduceMul, ↓reduceIte, reduceCtorEq, Nat.reduceLeDiff, Int.reduceToNat, Int.reduceLT, Int.reduceLE, Int.reduceEq, Int.reduceNe, Int.reduceBEq, Int.reduceBNe, not_false_eq_true, not_true_eq_false]
  · rintro ⟨⟨a, i, l⟩, h1, h2, h3, h4, hr⟩
    simp only at h1 h2 h3 h4 hr
    rcases Nat.lt_or_ge i s.length with hin | hin
    · have hc : ((i : Int) < (s.length : Int)) := by omega
      have hw := w_succ (i := i) (by omega)
      have hgi : (s.drop a)[i - a]? = some (s.getD i 0) := by rw [List.getElem?_drop, show a + (i - a) = i by omega]; exact getD_at hin
      by_cases hx : s.getD i 0 = 10
      · have hl := lines_at h3 (by rw [hgi, hx])
        rw [List.drop_drop, show a + (i - a + 1) = i + 1 by omega] at hl
        rw [hl] at hr
        have hdt : (s.take i).drop a = (s.drop a).take (i - a) := List.drop_take
        simp only [go_sem, Nat.reduceAdd, Nat.reduceMul, ↓reduceIte, reduceCtorEq, Nat.reduceLeDiff, Int.reduceToNat, Int.reduceLT, Int.reduceLE, Int.reduceEq, Int.reduceNe, Int.reduceBEq, Int.reduceBNe, not_false_eq_true, not_true_eq_false, hP, hc, hw, hx]
        refine ⟨by omega, ⟨by omega, by omega, by omega⟩, ⟨by omega, by omega⟩, ⟨(i + 1, i + 1, l ++ [(s.take i).drop a]), by simp, by simp only; omega, by simp, by simp; omega, by rw [hdt, List.append_assoc]; exact hr⟩, by show s.length - (i + 1) < s.length - i; omega, subG [2] rfl ?_ ?_ rfl rfl (Nat.le_refl _)⟩
        · simp only [go_sem, Nat.reduceAdd, Nat.reduceMul, ↓reduceIte, reduceCtorEq, Nat.reduceLeDiff, Int.reduceToNat, Int.reduceLT, Int.reduceLE, Int.reduceEq, Int.reduceNe, Int.reduceBEq, Int.reduceBNe, not_false_eq_true, not_true_eq_false]
        · simp only [go_sem, Nat.reduceAdd, Nat.reduceMul, ↓reduceIte, reduceCtorEq, Nat.reduceLeDiff, Int.reduceToNat, Int.reduceLT, Int.reduceLE, Int.reduceEq, Int.reduceNe, Int.reduceBEq, Int.reduceBNe, not_false_eq_true, not_true_eq_false]
      · simp only [go_sem, Nat.reduceAdd, Nat.reduceMul, ↓reduceIte, reduceCtorEq, Nat.reduceLeDiff, Int.reduceToNat, Int.reduceLT, Int.reduceLE, Int.reduceEq, Int.reduceNe, Int.reduceBEq, Int.reduceBNe, not_false_eq_true, not_true_eq_false, hP, hc, hw, hx]
        refine ⟨by omega, ⟨(a, i + 1, l), by simp only; omega, by simp only; omega, ?_, h4, hr⟩, by show s.length - (i + 1) < s.length - i; omega, subI rfl ?_ ?_ rfl rfl (Nat.le_refl _)⟩
        · simp only
          rw [show i + 1 - a = (i - a) + 1 by omega, List.take_add_one, hgi]
          intro hm
          rcases List.mem_append.1 hm with hm | hm
          · exact h3 hm
          · simp at hm; exact hx (by simpa using hm.symm)
        · simp only [go_sem, Nat.reduceAdd, Nat.reduceMul, ↓reduceIte, reduceCtorEq, Nat.reduceLeDiff, Int.reduceToNat, Int.reduceLT, Int.reduceLE, Int.reduceEq, Int.reduceNe, Int.reduceBEq, Int.reduceBNe, not_false_eq_true, not_true_eq_false]
        · simp only [go_sem, Nat.reduceAdd, Nat.reduceMul, ↓reduceIte, reduceCtorEq, Nat.reduceLeDiff, Int.reduceToNat, Int.reduceLT, Int.reduceLE, Int.reduceEq, Int.reduceNe, Int.reduceBEq, Int.reduceBNe, not_false_eq_true, not_true_eq_false]
    · obtain rfl : i = s.length := by omega
      have hnc : ¬ ((s.length : Int) < (s.length : Int)) := by omega
      rw [List.take_of_length_le (by simp)] at h3
      rw [lines_no h3] at hr
      simp only [go_sem, Nat.reduceAdd, Nat.reduceMul, ↓reduceIte, reduceCtorEq, Nat.reduceLeDiff, Int.reduceToNat, Int.reduceLT, Int.reduceLE, Int.reduceEq, Int.reduceNe, Int.reduceBEq, Int.reduceBNe, not_false_eq_true, not_true_eq_false, hP, hnc]
      have hts : s.take s.length = s := List.take_length
      by_cases ha : a < s.length
      · rw [if_neg (by simp; omega)] at hr
        subst hr
        rw [if_pos (by omega), hts]
        have e : (l ++ [s.drop a]).length = l.length + 1 := by simp
        have e2 : ((l ++ [s.drop a]).map sv).take (l.length + 1) = (l ++ [s.drop a]).map sv := by rw [← e]; exact sv_take _
        rw [e2]
        exact ⟨⟨by omega, by omega, by omega⟩, ⟨by omega, by omega⟩, ⟨by omega, sv_allQ _⟩, e.symm, sv_unQ _⟩
      · rw [if_pos (by simp; omega), List.append_nil] at hr
        subst hr
        rw [if_neg (by omega)]
        exact ⟨by omega, rfl, rfl⟩

set_option maxHeartbeats 4000000 in
theorem rparse_c (s : List UInt8) (hs : s.length < 1000000) : FPure Tryd.prog 13 [sv s] (parA (parseM s)) := by
  refine fpure_x hmix Tryd.func13 rfl (by kernel_rfl) Tryd.ntmps13 Tryd.results13 (by simp) (by simp [idsL, idsA]) [0, 2, 3, 4, 5, 6, 7, 8, 9, 15, 30, 40] ?_; intro c hP h0 hE
  generalize hR : parseM s = R at *
  unfold parseM at hR
  simp only [go_sem, Nat.reduceAdd, Nat.reduceMul, ↓reduceIte, reduceCtorEq, Nat.reduceLeDiff, Int.reduceToNat, Int.reduceLT, Int.reduceLE, Int.reduceEq, Int.reduceNe, Int.reduceBEq, Int.reduceBNe, not_false_eq_true, not_true_eq_false, hP]
  first | refine xw_call hE (ks := [0, 2, 3, 4, 5, 6, 7, 8, 9, 15, 30, 40]) (n := 2000) (by rw [hP]; exact lines_c s hs) ?_ | refine xd_call hE (ks := [0, 2, 3, 4, 5, 6, 7, 8, 9, 15, 30, 40]) (n := 2000) (by rw [hP]; exact lines_c s hs) ?_
  obtain ⟨hln, hle⟩ := lines_len s.length s (Nat.le_refl _)
  generalize linesM s = L at *
  simp only [go_sem, Nat.reduceAdd, Nat.reduceMul, ↓reduceIte, reduceCtorEq, Nat.reduceLeDiff, Int.reduceToNat, Int.reduceLT, Int.reduceLE, Int.reduceEq, Int.reduceNe, Int.reduceBEq, Int.reduceBNe, not_false_eq_true, not_true_eq_false, hP]
  refine saw_new evT ?_
  refine xw_loop hE h0 [0, 2, 3, 4, 5, 6, 7, 8, 9, 15, 30, 40] (α := { p : Nat × List Ev // p.1 ≤ L.length ∧ p.2.length ≤ p.1 ∧ parseL (L.drop p.1) (p.1 + 1) p.2 = R }) (fun p => ⟨48, [(5, .p (.data 1 L.length (L.map strP))), (6, .sl 0 0 p.1.2.length 26), (7, .i p.1.1)], [(0, some ⟨evT, evsA p.1.2⟩)], 1⟩) (fun p => L.length - p.1.1) ⟨(0, []), by simp, by simp, by simpa using hR⟩ [] (fun i => i) ?_ ?_
  · refine ⟨rfl, ?_, ?_, rfl, rfl, trivial, fun i h => h⟩
    · simp only [go_sem, Nat.reduceAdd, Nat.reduceMul, ↓reduceIte, reduceCtorEq, Nat.reduceLeDiff, Int.reduceToNat, Int.reduceLT, Int.reduceLE, Int.reduceEq, Int.reduceNe, Int.reduceBEq, Int.reduceBNe, not_false_eq_true, not_true_eq_false]
    · simp only [go_sem, Nat.reduceAdd, Nat.reduceMul, ↓reduceIte, reduceCtorEq, Nat.reduceLeDiff, Int.reduceToNat, Int.reduceLT, Int.reduceLE, Int.reduceEq, Int.reduceNe, Int.reduceBEq, Int.reduceBNe, not_false_eq_true, not_true_eq_false, evsA, List.flatMap_nil]
  · rintro ⟨⟨i, l⟩, h1, h2, hr⟩
    simp only at h1 h2 hr
    rcases Nat.lt_or_ge i L.length with hin | hin
    · have hc : ((i : Int) < (L.length : Int)) := by omega
      have hw := w_succ (i := i) (by omega)
      have hat := head_str L i hin
      have hx := hle (L.getD i []) (List.mem_of_getElem? (getD_at hin))
      rw [drop_at (d := []) hin, parseL] at hr
      generalize L.getD i [] = x at *
      have next : ∀ l', l'.length ≤ l.length + 1 → parseL (L.drop (i + 1)) (i + 1 + 1) l' = R → ∃ y : { p : Nat × List Ev // p.1 ≤ L.length ∧ p.2.length ≤ p.1 ∧ parseL (L.drop p.1) (p.1 + 1) p.2 = R }, y.1 = (i + 1, l') := fun l' hl' h => ⟨⟨(i + 1, l'), by simp only; omega, by simp only; omega, h⟩, rfl⟩
      by_cases hsk : x = [] ∨ x[0]? = some 35
      · rw [if_pos hsk] at hr
        obtain ⟨y, hy⟩ := next l (by omega) hr
        by_cases he : x = []
        · simp only [go_sem, Nat.reduceAdd, Nat.reduceMul, ↓reduceIte, reduceCtorEq, Nat.reduceLeDiff, Int.reduceToNat, Int.reduceLT, Int.reduceLE, Int.reduceEq, Int.reduceNe, Int.reduceBEq, Int.reduceBNe, not_false_eq_true, not_true_eq_false, hP, hc, hw, hat, strP, he]
          refine ⟨by omega, by omega, y, by rw [hy]; show L.length - (i + 1) < L.length - i; omega, ?_⟩
          rw [hy]
          refine subI rfl ?_ ?_ rfl rfl (Nat.le_refl _)
          · simp only [go_sem, Nat.reduceAdd, Nat.reduceMul, ↓reduceIte, reduceCtorEq, Nat.reduceLeDiff, Int.reduceToNat, Int.reduceLT, Int.reduceLE, Int.reduceEq, Int.reduceNe, Int.reduceBEq, Int.reduceBNe, not_false_eq_true, not_true_eq_false]
          · simp only [go_sem, Nat.reduceAdd, Nat.reduceMul, ↓reduceIte, reduceCtorEq, Nat.reduceLeDiff, Int.reduceToNat, Int.reduceLT, Int.reduceLE, Int.reduceEq, Int.reduceNe, Int.reduceBEq, Int.reduceBNe, not_false_eq_true, not_true_eq_false]
        · have h35 : x.getD 0 0 = 35 := by
            rcases hsk with h | h
            · exact absurd h he
            · simp [List.getD_eq_getElem?_getD, h]
          have hpos : 0 < x.length := List.length_pos_iff.2 he
          simp only [go_sem, Nat.reduceAdd, Nat.reduceMul, ↓reduceIte, reduceCtorEq, Nat.reduceLeDiff, Int.reduceToNat, Int.reduceLT, Int.reduceLE, Int.reduceEq, Int.reduceNe, Int.reduceBEq, Int.reduceBNe, not_false_eq_true, not_true_eq_false, hP, hc, hw, hat, strP, he, h35]
          refine ⟨by omega, by omega, by omega, by omega, by omega, y, by rw [hy]; show L.length - (i + 1) < L.length - i; omega, ?_⟩
          rw [hy]
          refine subI rfl ?_ ?_ rfl rfl (Nat.le_refl _)
          · simp only [go_sem, Nat.reduceAdd, Nat.reduceMul, ↓reduceIte, reduceCtorEq, Nat.reduceLeDiff, Int.reduceToNat, Int.reduceLT, Int.reduceLE, Int.reduceEq, Int.reduceNe, Int.reduceBEq, Int.reduceBNe, not_false_eq_true, not_true_eq_false]
          · simp only [go_sem, Nat.reduceAdd, Nat.reduceMul, ↓reduceIte, reduceCtorEq, Nat.reduceLeDiff, Int.reduceToNat, Int.reduceLT, Int.reduceLE, Int.reduceEq, Int.reduceNe, Int.reduceBEq, Int.reduceBNe, not_false_eq_true, not_true_eq_false]
      · rw [if_neg hsk] at hr
        have he : ¬ x = [] := fun e => hsk (.inl e)
        have hpos : 0 < x.length := List.length_pos_iff.2 he
        have h35 : ¬ x.getD 0 0 = 35 := fun e => hsk (.inr (by rw [getD_at (d := 0) hpos, e]))
        obtain ⟨e, ok, hev, hlm⟩ := event_c x (by omega)
        rw [hlm] at hr
        simp only [go_sem, Nat.reduceAdd, Nat.reduceMul, ↓reduceIte, reduceCtorEq, Nat.reduceLeDiff, Int.reduceToNat, Int.reduceLT, Int.reduceLE, Int.reduceEq, Int.reduceNe, Int.reduceBEq, Int.reduceBNe, not_false_eq_true, not_true_eq_false, hP, hc, hw, hat, strP, he, h35]
        refine ⟨by omega, by omega, by omega, by omega, by omega, by omega, by omega, ?_⟩
        first | refine xw_call hE (ks := [0, 2, 3, 4, 5, 6, 7, 8, 9, 15, 30, 40]) (n := 2000) (by rw [hP]; exact hev) ?_ | refine xd_call hE (ks := [0, 2, 3, 4, 5, 6, 7, 8, 9, 15, 30, 40]) (n := 2000) (by rw [hP]; exact hev) ?_
        cases ok with
        | false =>
          simp only [Bool.false_eq_true, ↓reduceIte] at hr
          subst hr
          simp only [go_sem, Nat.reduceAdd, Nat.reduceMul, ↓reduceIte, reduceCtorEq, Nat.reduceLeDiff, Int.reduceToNat, Int.reduceLT, Int.reduceLE, Int.reduceEq, Int.reduceNe, Int.reduceBEq, Int.reduceBNe, not_false_eq_true, not_true_eq_false, hP, hw]
        | true =>
          simp only [↓reduceIte] at hr
          obtain ⟨y, hy⟩ := next (l ++ [e]) (by simp) hr
          simp only [go_sem, Nat.reduceAdd, Nat.reduceMul, ↓reduceIte, reduceCtorEq, Nat.reduceLeDiff, Int.reduceToNat, Int.reduceLT, Int.reduceLE, Int.reduceEq, Int.reduceNe, Int.reduceBEq, Int.reduceBNe, not_false_eq_true, not_true_eq_false, hP, hw]
          refine ⟨by omega, ?_⟩
          refine ⟨y, by rw [hy]; show L.length - (i + 1) < L.length - i; omega, ?_⟩
          rw [hy]
          refine subG [3] rfl ?_ ?_ rfl rfl (Nat.le_refl _)
          · simp only [go_sem, Nat.reduceAdd, Nat.reduceMul, ↓reduceIte, reduceCtorEq, Nat.reduceLeDiff, Int.reduceToNat, Int.reduceLT, Int.reduceLE, Int.reduceEq, Int.reduceNe, Int.reduceBEq, Int.reduceBNe, not_false_eq_true, not_true_eq_false]
          · simp only [go_sem, Nat.reduceAdd, Nat.reduceMul, ↓reduceIte, reduceCtorEq, Nat.reduceLeDiff, Int.reduceToNat, Int.reduceLT, Int.reduceLE, Int.reduceEq, Int.reduceNe, Int.reduceBEq, Int.reduceBNe, not_false_eq_true, not_true_eq_false]
    · obtain rfl : i = L.length := by omega
      have hnc : ¬ ((L.length : Int) < (L.length : Int)) := by omega
      rw [List.drop_eq_nil_of_le (Nat.le_refl _), parseL] at hr
      subst hr
      simp only [go_sem, Nat.reduceAdd, Nat.reduceMul, ↓reduceIte, reduceCtorEq, Nat.reduceLeDiff, Int.reduceToNat, Int.reduceLT, Int.reduceLE, Int.reduceEq, Int.reduceNe, Int.reduceBEq, Int.reduceBNe, not_false_eq_true, not_true_eq_false, hP, hnc]
      omega

end Go.Proofs.YthdhbdjhjfflnaaDoor

/-
  Contract of journal.Rewrite. Own work; no statement of the seat is proved here.
-/
import Derived.Test.YtcnpgmlkocbhkaaGreatJn
namespace Go.Proofs.YtcnpgmlkocbhkaaGreat
set_option linter.unusedSimpArgs false
set_option linter.unusedVariables false
open Go Go.Abs Go.RowKit

def sizedL (l : List (List UInt8)) : Bool := l.all fun b => decide (1 ≤ b.length ∧ b.length ≤ 256)
def rsM (g : UInt64) (l : List (List UInt8)) : List UInt8 := (l.map (recM g)).flatten
def rewriteM (j : Jn) (l : List (List UInt8)) (budget : Int) : JR :=
  if genuineM j = false then ⟨jn0, 0, 18⟩ else
  if sizedL l = false then ⟨jn0, 0, 9⟩ else
  if j.ps < 16 + (totM l : Int) then ⟨jn0, 0, 12⟩ else
  if 1099511627776 ≤ j.gen then ⟨jn0, 0, 13⟩ else
  performM (flOf j) budget [.er (1 - j.page), .wr (1 - j.page) 16 (rsM (UInt64.ofNat (j.gen + 1).toNat) l), .wr (1 - j.page) 0 (headM (UInt64.ofNat (j.gen + 1).toNat))]

theorem rsM_len (g : UInt64) : ∀ l, (rsM g l).length = totM l
  | [] => rfl
  | b :: l => by
    have := rsM_len g l
    unfold rsM at *
    simp only [List.map_cons, List.flatten_cons, List.length_append, recM_len, totM, this]; omega
theorem rsM_snoc (g : UInt64) (l : List (List UInt8)) (b : List UInt8) : rsM g (l ++ [b]) = rsM g l ++ recM g b := by simp [rsM]
theorem totM_app : ∀ (l r : List (List UInt8)), totM (l ++ r) = totM l + totM r
  | [], r => by simp [totM]
  | b :: l, r => by simp only [List.cons_append, totM, totM_app l r]; omega
theorem take_snoc' (l : List (List UInt8)) (i : Nat) (h : i < l.length) : l.take (i + 1) = l.take i ++ [l.getD i []] := by
  rw [List.take_succ_eq_append_getElem h]; simp [List.getD_eq_getElem?_getD, h]
theorem totM_take (l : List (List UInt8)) (i : Nat) : totM (l.take i) ≤ totM l := by
  conv => rhs; rw [← List.take_append_drop i l, totM_app]
  omega
theorem totM_bd : ∀ (l : List (List UInt8)), (∀ b, b ∈ l → b.length < 1000000) → totM l ≤ 1000010 * l.length
  | [], _ => by simp [totM]
  | b :: l, h => by
    have := totM_bd l fun x hx => h x (by simp [hx])
    have := h b (by simp)
    simp only [totM, List.length_cons]; omega
theorem sizedL_no {l : List (List UInt8)} {i : Nat} (hi : i < l.length) (h : ¬ (1 ≤ (l.getD i []).length ∧ (l.getD i []).length ≤ 256)) : sizedL l = false := by
  have e : l.getD i [] = l[i] := by simp [List.getD_eq_getElem?_getD, hi]
  rw [e] at h
  unfold sizedL
  rw [List.all_eq_false]
  exact ⟨l[i], List.getElem_mem hi, by simpa using h⟩
theorem sizedL_get {l : List (List UInt8)} (h : sizedL l = true) {b : List UInt8} (hb : b ∈ l) : 1 ≤ b.length ∧ b.length ≤ 256 := by
  unfold sizedL at h
  rw [List.all_eq_true] at h
  simpa using h b hb

theorem ok_ops3 (a : Int) (p at_ : Int) (x : List UInt8) (p' at' : Int) (y : List UInt8) (h : x.length < 1000000000) (h' : y.length < 1000000000) : ∀ o, o ∈ [JOp.er a, .wr p at_ x, .wr p' at' y] → okOp o := by
  intro o ho
  simp only [List.mem_cons, List.not_mem_nil, or_false] at ho
  rcases ho with rfl | rfl | rfl
  · trivial
  · exact h
  · exact h'

set_option maxHeartbeats 4000000 in
theorem jRewrite_c (j : Jn) (n : Nat) (l : List (List UInt8)) (m : Nat) (budget : Int) (hn : j.bs.length = n) (hb : n < 1000000000) (hm : l.length = m) (hmb : m < 1000000) (hlb : ∀ b, b ∈ l → b.length < 1000000) (hB : i64 budget) :
    FPure Tryz.prog 36 [.agg [.i j.ps, .p (.data 1 n (j.bs.map bt)), .i j.page, .i j.gen, .i j.tail, .b j.torn], .p (.data 1 m (l.map byP)), .i budget] (jrAV (rewriteM j l budget)) := by
  refine fpure_x hmix Tryz.func36 rfl (by kernel_rfl) Tryz.ntmps36 Tryz.results36 (by simp) (by simp [idsL, idsA]) [0, 1, 2, 3, 6, 7, 8, 9, 11, 12, 13, 14, 16, 19, 21, 22, 23, 24, 29, 41, 45, 53, 54, 55, 56] ?_; intro c hP h0 hE
  simp only [go_sem, Nat.reduceAdd, Nat.reduceMul, ↓reduceIte, reduceCtorEq, Nat.reduceLeDiff, Int.reduceToNat, Int.reduceLT, Int.reduceLE, Int.reduceEq, Int.reduceNe, Int.reduceBEq, Int.reduceBNe, not_false_eq_true, not_true_eq_false, hP]
  first | refine xw_call hE (ks := [0, 1, 2, 3, 6, 7, 8, 9, 11, 12, 13, 14, 16, 19, 21, 22, 23, 24, 29, 41, 45, 53, 54, 55, 56]) (n := 2000) (by rw [hP]; exact genuine_c j n hn hb) ?_ | refine xd_call hE (ks := [0, 1, 2, 3, 6, 7, 8, 9, 11, 12, 13, 14, 16, 19, 21, 22, 23, 24, 29, 41, 45, 53, 54, 55, 56]) (n := 2000) (by rw [hP]; exact genuine_c j n hn hb) ?_
  simp only [go_sem, Nat.reduceAdd, Nat.reduceMul, ↓reduceIte, reduceCtorEq, Nat.reduceLeDiff, Int.reduceToNat, Int.reduceLT, Int.reduceLE, Int.reduceEq, Int.reduceNe, Int.reduceBEq, Int.reduceBNe, not_false_eq_true, not_true_eq_false, hP]
  obtain ⟨R, hR⟩ : ∃ R, rewriteM j l budget = R := ⟨_, rfl⟩; rw [hR] at hE; (try rw [hR])
  unfold rewriteM at hR
  split
  · rename_i h
    rw [if_pos h] at hR
    subst hR
    simp only [jn0, List.length_nil, List.map_nil, and_self]
  · rename_i h
    rw [if_neg h] at hR
    have h : genuineM j = true := by simpa using h
    obtain ⟨p, k, q, e1, e2, e3, e4, e5, e6, e7, e8, e9, e10, -⟩ := genuineM_ok h
    have htb := totM_bd l hlb
    refine xw_loop hE h0 [0, 1, 2, 3, 6, 7, 8, 9, 11, 12, 13, 14, 16, 19, 21, 22, 23, 24, 29, 41, 45, 53, 54, 55, 56] (α := { i : Nat // i ≤ m ∧ sizedL (l.take i) = true }) (fun i => ⟨85, [(1, .p (.data 1 m (l.map byP))), (2, .i budget), (3, .ptr 0 0), (6, .ptr 1 0), (9, .i ((16 + totM (l.take i.1) : Nat) : Int)), (21, .p (.data 1 m (l.map byP))), (22, .i m), (23, .i i.1)],
      [(1, some ⟨27, [.i 0, .p (.v (.slice none 0 0)), .i 0, .i 0, .i 0, .b false]⟩), (0, some ⟨27, [.i j.ps, .p (.data 1 n (j.bs.map bt)), .i j.page, .i j.gen, .i j.tail, .b j.torn]⟩)], 2⟩) (fun i => m - i.1) ⟨0, Nat.zero_le _, by simp [sizedL]⟩ [] (fun i => i) ?_ ?_
    · refine ⟨rfl, ?_, ?_, rfl, rfl, trivial, fun i h => h⟩
      · simp only [go_sem, Nat.reduceAdd, Nat.reduceMul, ↓reduceIte, reduceCtorEq, Nat.reduceLeDiff, Int.reduceToNat, Int.reduceLT, Int.reduceLE, Int.reduceEq, Int.reduceNe, Int.reduceBEq, Int.reduceBNe, not_false_eq_true, not_true_eq_false]
        simp [totM]
      · simp only [go_sem, Nat.reduceAdd, Nat.reduceMul, ↓reduceIte, reduceCtorEq, Nat.reduceLeDiff, Int.reduceToNat, Int.reduceLT, Int.reduceLE, Int.reduceEq, Int.reduceNe, Int.reduceBEq, Int.reduceBNe, not_false_eq_true, not_true_eq_false]
    · rintro ⟨i, hi, hs⟩
      have ht1 := totM_take l i
      simp only [go_sem, Nat.reduceAdd, Nat.reduceMul, ↓reduceIte, reduceCtorEq, Nat.reduceLeDiff, Int.reduceToNat, Int.reduceLT, Int.reduceLE, Int.reduceEq, Int.reduceNe, Int.reduceBEq, Int.reduceBNe, not_false_eq_true, not_true_eq_false, hP, head_by, byP]
      split
      · refine ⟨⟨by omega, by omega⟩, by omega, ?_⟩
        first | refine xw_call hE (ks := [0, 1, 2, 3, 6, 7, 8, 9, 11, 12, 13, 14, 16, 19, 21, 22, 23, 24, 29, 41, 45, 53, 54, 55, 56]) (n := 2000) (by rw [hP]; exact jsized_c _ _) ?_ | refine xd_call hE (ks := [0, 1, 2, 3, 6, 7, 8, 9, 11, 12, 13, 14, 16, 19, 21, 22, 23, 24, 29, 41, 45, 53, 54, 55, 56]) (n := 2000) (by rw [hP]; exact jsized_c _ _) ?_
        simp only [go_sem, Nat.reduceAdd, Nat.reduceMul, ↓reduceIte, reduceCtorEq, Nat.reduceLeDiff, Int.reduceToNat, Int.reduceLT, Int.reduceLE, Int.reduceEq, Int.reduceNe, Int.reduceBEq, Int.reduceBNe, not_false_eq_true, not_true_eq_false, hP]
        split
        · rename_i h2
          rw [if_pos (sizedL_no (by omega) h2)] at hR
          subst hR
          simp only [jn0, List.length_nil, List.map_nil, and_self]
        · rename_i h2
          have hts := take_snoc' l i (by omega)
          have ht2 := totM_take l (i + 1)
          rw [hts, totM_app] at ht2
          simp only [totM] at ht2
          (try go_unwrap)
          refine ⟨⟨i + 1, by omega, ?_⟩, by show m - (i + 1) < m - i; omega, subI rfl ?_ ?_ rfl rfl (Nat.le_refl _)⟩
          · rw [hts]; unfold sizedL at hs ⊢; rw [List.all_append, hs]; simp only [List.all_cons, List.all_nil]; simpa using h2
          · simp only [go_sem, Nat.reduceAdd, Nat.reduceMul, ↓reduceIte, reduceCtorEq, Nat.reduceLeDiff, Int.reduceToNat, Int.reduceLT, Int.reduceLE, Int.reduceEq, Int.reduceNe, Int.reduceBEq, Int.reduceBNe, not_false_eq_true, not_true_eq_false, hts, totM_app, totM, byP]
            omega
          · simp only [go_sem, Nat.reduceAdd, Nat.reduceMul, ↓reduceIte, reduceCtorEq, Nat.reduceLeDiff, Int.reduceToNat, Int.reduceLT, Int.reduceLE, Int.reduceEq, Int.reduceNe, Int.reduceBEq, Int.reduceBNe, not_false_eq_true, not_true_eq_false]
      · obtain rfl : i = m := by omega
        rw [List.take_of_length_le (by omega)] at hs ht1 ⊢
        rw [if_neg (by rw [hs]; decide)] at hR
        split
        · rename_i h2
          rw [if_pos (by omega)] at hR
          subst hR
          simp only [jn0, List.length_nil, List.map_nil, and_self]
        · rename_i h2
          rw [if_neg (by omega)] at hR
          split
          · rename_i h3
            rw [if_pos h3] at hR
            subst hR
            simp only [jn0, List.length_nil, List.map_nil, and_self]
          · rename_i h3
            rw [if_neg h3] at hR
            refine ⟨by kernel_rfl, ?_⟩
            rw [wrap_i64_id (n := 1 - j.page) (by omega) (by omega), wrap_i64_id (n := j.gen + 1) (by omega) (by omega)]
            have hgu := gen_u64 (j.gen + 1) (by omega) (by omega)
            generalize hg : UInt64.ofNat (j.gen + 1).toNat = g at *
            refine saw_new byteT ?_
            refine xw_for hE h0 (1000022 :: [0, 1, 2, 3, 6, 7, 8, 9, 11, 12, 13, 14, 16, 19, 21, 22, 23, 24, 29, 41, 45, 53, 54, 55, 56]) i (fun a => ⟨85, [(2, .i budget), (3, .ptr 0 0), (6, .ptr 1 0), (12, .i (1 - j.page)), (13, .i (j.gen + 1)), (14, .sl 2 0 (totM (l.take a)) 1), (53, .p (.data 1 i (l.map byP))), (54, .i i), (55, .i a)],
              [(2, some ⟨byteT, cb (rsM g (l.take a))⟩), (1, some ⟨27, [.i 0, .p (.v (.slice none 0 0)), .i 0, .i 0, .i 0, .b false]⟩), (0, some ⟨27, [.i j.ps, .p (.data 1 n (j.bs.map bt)), .i j.page, .i j.gen, .i j.tail, .b j.torn]⟩)], 3⟩) [] (fun i => i) ?_ ?_
            · refine ⟨rfl, ?_, ?_, rfl, rfl, trivial, fun i h => h⟩
              · simp only [go_sem, Nat.reduceAdd, Nat.reduceMul, ↓reduceIte, reduceCtorEq, Nat.reduceLeDiff, Int.reduceToNat, Int.reduceLT, Int.reduceLE, Int.reduceEq, Int.reduceNe, Int.reduceBEq, Int.reduceBNe, not_false_eq_true, not_true_eq_false]
                simp [totM]
              · simp only [go_sem, Nat.reduceAdd, Nat.reduceMul, ↓reduceIte, reduceCtorEq, Nat.reduceLeDiff, Int.reduceToNat, Int.reduceLT, Int.reduceLE, Int.reduceEq, Int.reduceNe, Int.reduceBEq, Int.reduceBNe, not_false_eq_true, not_true_eq_false]
                simp [rsM, cb, viewAs]
            · intro a ha
              have hta := totM_take l a
              have hlen := rsM_len g (l.take a)
              simp only [go_sem, Nat.reduceAdd, Nat.reduceMul, ↓reduceIte, reduceCtorEq, Nat.reduceLeDiff, Int.reduceToNat, Int.reduceLT, Int.reduceLE, Int.reduceEq, Int.reduceNe, Int.reduceBEq, Int.reduceBNe, not_false_eq_true, not_true_eq_false, hP, head_by, byP]
              split
              · refine ⟨⟨by omega, by omega⟩, by omega, ?_⟩
                have hel : 1 ≤ (l.getD a []).length ∧ (l.getD a []).length ≤ 256 := by
                  have e : l.getD a [] = l[a]'(by omega) := by simp [List.getD_eq_getElem?_getD, show a < l.length by omega]
                  rw [e]; exact sizedL_get hs (List.getElem_mem _)
                first | refine xw_call hE (ks := [0, 1, 2, 3, 6, 7, 8, 9, 11, 12, 13, 14, 16, 19, 21, 22, 23, 24, 29, 41, 45, 53, 54, 55, 56]) (n := 2000) (by rw [hP]; exact record_c g (j.gen + 1) hgu (l.getD a []) _ rfl (by omega)) ?_ | refine xd_call hE (ks := [0, 1, 2, 3, 6, 7, 8, 9, 11, 12, 13, 14, 16, 19, 21, 22, 23, 24, 29, 41, 45, 53, 54, 55, 56]) (n := 2000) (by rw [hP]; exact record_c g (j.gen + 1) hgu (l.getD a []) _ rfl (by omega)) ?_
                simp only [go_sem, Nat.reduceAdd, Nat.reduceMul, ↓reduceIte, reduceCtorEq, Nat.reduceLeDiff, Int.reduceToNat, Int.reduceLT, Int.reduceLE, Int.reduceEq, Int.reduceNe, Int.reduceBEq, Int.reduceBNe, not_false_eq_true, not_true_eq_false, hP, cb_def, cb_app]
                have hts := take_snoc' l a (by omega)
                have ht2 := totM_take l (a + 1)
                rw [hts, totM_app] at ht2
                simp only [totM] at ht2
                (try go_unwrap)
                refine ⟨⟨by omega, by omega, by omega⟩, by omega, subG [0, 1, 3] rfl ?_ ?_ rfl rfl (Nat.le_refl _)⟩
                · simp only [go_sem, Nat.reduceAdd, Nat.reduceMul, ↓reduceIte, reduceCtorEq, Nat.reduceLeDiff, Int.reduceToNat, Int.reduceLT, Int.reduceLE, Int.reduceEq, Int.reduceNe, Int.reduceBEq, Int.reduceBNe, not_false_eq_true, not_true_eq_false, hts, totM_app, totM, AV.sl.injEq]
                  exact ⟨by omega, by omega⟩
                · simp only [go_sem, Nat.reduceAdd, Nat.reduceMul, ↓reduceIte, reduceCtorEq, Nat.reduceLeDiff, Int.reduceToNat, Int.reduceLT, Int.reduceLE, Int.reduceEq, Int.reduceNe, Int.reduceBEq, Int.reduceBNe, not_false_eq_true, not_true_eq_false, hts, rsM_snoc]
                  exact cb_viewA _ _ _ _
              · obtain rfl : a = i := by omega
                rw [List.take_of_length_le (show l.length ≤ a by omega)] at hlen ⊢
                refine saw_frz1 hE (ks := [0, 1, 2, 3, 6, 7, 8, 9, 11, 12, 13, 14, 16, 19, 21, 22, 23, 24, 29, 41, 45, 53, 54, 55, 56]) (n := 2000) 2 ?_ ?_
                · simp only [go_sem, Nat.reduceAdd, Nat.reduceMul, ↓reduceIte, reduceCtorEq, Nat.reduceLeDiff, Int.reduceToNat, Int.reduceLT, Int.reduceLE, Int.reduceEq, Int.reduceNe, Int.reduceBEq, Int.reduceBNe, not_false_eq_true, not_true_eq_false, hP]
                  omega
                · simp only [go_sem, Nat.reduceAdd, Nat.reduceMul, ↓reduceIte, reduceCtorEq, Nat.reduceLeDiff, Int.reduceToNat, Int.reduceLT, Int.reduceLE, Int.reduceEq, Int.reduceNe, Int.reduceBEq, Int.reduceBNe, not_false_eq_true, not_true_eq_false, hP]
                  rw [List.take_of_length_le (show (rsM g l).length ≤ totM l by omega)]
                  refine xd_call hE (ks := [0, 1, 2, 3, 6, 7, 8, 9, 11, 12, 13, 14, 16, 19, 21, 22, 23, 24, 29, 41, 45, 53, 54, 55, 56]) (n := 2000) (by rw [hP]; exact header_c g (j.gen + 1) hgu) ?_
                  simp only [go_sem, Nat.reduceAdd, Nat.reduceMul, ↓reduceIte, reduceCtorEq, Nat.reduceLeDiff, Int.reduceToNat, Int.reduceLT, Int.reduceLE, Int.reduceEq, Int.reduceNe, Int.reduceBEq, Int.reduceBNe, not_false_eq_true, not_true_eq_false, hP]
                  have hpc := perform_c j.ps j.bs n budget [.er (1 - j.page), .wr (1 - j.page) 16 (rsM g l), .wr (1 - j.page) 0 (headM g)] 3 rfl (by decide) hn hb hB (ok_ops3 _ _ _ _ _ _ _ (by omega) (by rw [headM_len]; decide))
                  simp only [List.map_cons, List.map_nil, opP, hlen, headM_len] at hpc
                  refine xd_callF hE (ks := [0, 1, 2, 3, 6, 7, 8, 9, 11, 12, 13, 14, 16, 19, 21, 22, 23, 24, 29, 41, 45, 53, 54, 55, 56]) (n := 2000) (by simp only [go_sem, Nat.reduceAdd, Nat.reduceMul, ↓reduceIte, reduceCtorEq, Nat.reduceLeDiff, Int.reduceToNat, Int.reduceLT, Int.reduceLE, Int.reduceEq, Int.reduceNe, Int.reduceBEq, Int.reduceBNe, not_false_eq_true, not_true_eq_false]; rfl) (by simp only [go_sem, Nat.reduceAdd, Nat.reduceMul, ↓reduceIte, reduceCtorEq, Nat.reduceLeDiff, Int.reduceToNat, Int.reduceLT, Int.reduceLE, Int.reduceEq, Int.reduceNe, Int.reduceBEq, Int.reduceBNe, not_false_eq_true, not_true_eq_false]) rfl (by rw [hP]; exact hpc) (by simp only [go_sem, idsA, idsL, and_self]) ?_
                  simp only [go_sem, Nat.reduceAdd, Nat.reduceMul, ↓reduceIte, reduceCtorEq, Nat.reduceLeDiff, Int.reduceToNat, Int.reduceLT, Int.reduceLE, Int.reduceEq, Int.reduceNe, Int.reduceBEq, Int.reduceBNe, not_false_eq_true, not_true_eq_false, hP]
                  have hR : performM ⟨j.ps, j.bs⟩ budget [.er (1 - j.page), .wr (1 - j.page) 16 (rsM g l), .wr (1 - j.page) 0 (headM g)] = R := hR
                  rw [hR]
                  exact ⟨by kernel_rfl, by simp only [and_self]⟩

end Go.Proofs.YtcnpgmlkocbhkaaGreat

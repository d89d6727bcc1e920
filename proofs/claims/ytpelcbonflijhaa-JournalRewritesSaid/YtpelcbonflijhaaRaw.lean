/-
  The law JournalRaw: the contract of its function. Own work.
-/
import Derived.Test.YtpelcbonflijhaaRow
namespace Go.Proofs.Ytpelcbonflijhaa
set_option linter.unusedSimpArgs false
set_option linter.unusedVariables false
open Go Go.Abs Go.RowKit

theorem same_c (a b : Jn) (i k e f : Int) (n1 n2 : Nat) : FPure Try.prog 15 [.agg [.i a.ps, .p (.data 1 n1 (a.bs.map bt)), .i a.page, .i a.gen, .i a.tail, .b a.torn], .i i, .i e, .agg [.i b.ps, .p (.data 1 n2 (b.bs.map bt)), .i b.page, .i b.gen, .i b.tail, .b b.torn], .i k, .i f] (.b (sameJ a b && i == k && e == f)) := by
  refine fpure_x hmix Try.func15 rfl (by kernel_rfl) Try.ntmps15 Try.results15 (by simp) (by simp [idsL, idsA]) [0, 1, 2, 3, 4, 5, 6, 9, 12] ?_; intro c hP h0 hE
  simp only [go_sem, Nat.reduceAdd, Nat.reduceMul, ↓reduceIte, reduceCtorEq, Nat.reduceLeDiff, Int.reduceToNat, Int.reduceLT, Int.reduceLE, Int.reduceEq, Int.reduceNe, Int.reduceBEq, Int.reduceBNe, not_false_eq_true, not_true_eq_false, hP]
  first | refine xw_call hE (ks := [0, 1, 2, 3, 4, 5, 6, 9, 12]) (n := 2000) (by rw [hP]; exact sameJournal_c a b n1 n2) ?_ | refine xd_call hE (ks := [0, 1, 2, 3, 4, 5, 6, 9, 12]) (n := 2000) (by rw [hP]; exact sameJournal_c a b n1 n2) ?_
  simp only [go_sem, Nat.reduceAdd, Nat.reduceMul, ↓reduceIte, reduceCtorEq, Nat.reduceLeDiff, Int.reduceToNat, Int.reduceLT, Int.reduceLE, Int.reduceEq, Int.reduceNe, Int.reduceBEq, Int.reduceBNe, not_false_eq_true, not_true_eq_false, hP]
  generalize sameJ a b = u
  cases u <;> by_cases h : i = k <;> simp [h]

theorem performM_len {f : Fl} {budget : Int} (l : List JOp) (hB : i64 budget) (hb : f.bs.length < 1000000000) (hl : ∀ o, o ∈ l → okOp o) : (performM f budget l).j.bs.length ≤ f.bs.length := by
  induction l generalizing f budget with
  | nil =>
    rw [perform_nil _ _ _ rfl]
    split
    · simp [jn0]
    · rename_i h
      obtain ⟨p, k, q, -, -, -, -, -, -, -, -, -, -, e8⟩ := mountM_ok (show (mountM f).err = 0 by omega)
      rw [e8]; exact Nat.le_refl _
  | cons o r ih =>
    rw [perform_cons _ _ _ _ _ rfl]
    have hr := runM_ok (f := f) (budget := budget) o hB hb (hl o (by simp))
    split
    · exact hr.2
    · split
      · simp [jn0]
      · exact Nat.le_trans (ih hr.1 (by omega) (fun o ho => hl o (by simp [ho]))) hr.2

theorem sameJ_self (j : Jn) : sameJ j j = true := (sameJ_iff j j).2 rfl
theorem recs_len (j : Jn) (hb : j.bs.length < 1000000000) : (recsM j).length < 1000000000 := by
  unfold recsM
  split
  · rename_i h
    obtain ⟨p, k, q, e1, e2, e3, e4, e5, e6, e7, e8, e9, e10, -⟩ := genuineM_ok h
    rw [e10, Int.toNat_natCast]
    have hw : (pgM (flOf j) q).length = p := pgM_len (k := k) e1 e4 (by omega)
    have h1 := scanM_le (pgM (flOf j) q) (UInt64.ofNat j.gen.toNat) (by omega)
    have h2 := scanN_tail (pgM (flOf j) q) (UInt64.ofNat j.gen.toNat) (pgM (flOf j) q).length 16
    have h4 := totM_len (scanM (pgM (flOf j) q) (UInt64.ofNat j.gen.toNat)).1
    unfold scanM at h1 h4 ⊢
    omega
  · simp

set_option maxHeartbeats 2000000 in
theorem raw_c (f : Fl) (j : Jn) (b : List UInt8) (hf : f.bs.length ≤ maxLen) (hj : j.bs.length ≤ maxLen) (hb : b.length ≤ maxLen) :
    FPure Try.prog 5 [.agg [.i f.ps, .p (.data 1 f.bs.length (f.bs.map bt))], .agg [.i j.ps, .p (.data 1 j.bs.length (j.bs.map bt)), .i j.page, .i j.gen, .i j.tail, .b j.torn], .p (.data 1 b.length (b.map bt))] (.b true) := by
  refine fpure_x hmix Try.func5 rfl (by kernel_rfl) Try.ntmps5 Try.results5 (by simp) (by simp [idsL, idsA]) [0, 1, 2, 3, 4, 6, 7, 8, 9, 10, 11, 12, 13, 14, 15, 16, 32] ?_; intro c hP h0 hE
  simp only [go_sem, Nat.reduceAdd, Nat.reduceMul, ↓reduceIte, reduceCtorEq, Nat.reduceLeDiff, Int.reduceToNat, Int.reduceLT, Int.reduceLE, Int.reduceEq, Int.reduceNe, Int.reduceBEq, Int.reduceBNe, not_false_eq_true, not_true_eq_false, hP]
  split
  · split
    · split
      · first | refine xw_call hE (ks := [0, 1, 2, 3, 4, 6, 7, 8, 9, 10, 11, 12, 13, 14, 15, 16, 32]) (n := 2000) (by rw [hP]; exact awake_c) ?_ | refine xd_call hE (ks := [0, 1, 2, 3, 4, 6, 7, 8, 9, 10, 11, 12, 13, 14, 15, 16, 32]) (n := 2000) (by rw [hP]; exact awake_c) ?_
        simp only [go_sem, Nat.reduceAdd, Nat.reduceMul, ↓reduceIte, reduceCtorEq, Nat.reduceLeDiff, Int.reduceToNat, Int.reduceLT, Int.reduceLE, Int.reduceEq, Int.reduceNe, Int.reduceBEq, Int.reduceBNe, not_false_eq_true, not_true_eq_false, hP]
      · first | refine xw_call hE (ks := [0, 1, 2, 3, 4, 6, 7, 8, 9, 10, 11, 12, 13, 14, 15, 16, 32]) (n := 2000) (by rw [hP]; exact jMount_c f.ps f.bs _ rfl (by omega)) ?_ | refine xd_call hE (ks := [0, 1, 2, 3, 4, 6, 7, 8, 9, 10, 11, 12, 13, 14, 15, 16, 32]) (n := 2000) (by rw [hP]; exact jMount_c f.ps f.bs _ rfl (by omega)) ?_
        simp only [go_sem, Nat.reduceAdd, Nat.reduceMul, ↓reduceIte, reduceCtorEq, Nat.reduceLeDiff, Int.reduceToNat, Int.reduceLT, Int.reduceLE, Int.reduceEq, Int.reduceNe, Int.reduceBEq, Int.reduceBNe, not_false_eq_true, not_true_eq_false, hP]
        first | refine xw_call hE (ks := [0, 1, 2, 3, 4, 6, 7, 8, 9, 10, 11, 12, 13, 14, 15, 16, 32]) (n := 2000) (by rw [hP]; exact rMount_c f.ps f.bs _ rfl (by omega)) ?_ | refine xd_call hE (ks := [0, 1, 2, 3, 4, 6, 7, 8, 9, 10, 11, 12, 13, 14, 15, 16, 32]) (n := 2000) (by rw [hP]; exact rMount_c f.ps f.bs _ rfl (by omega)) ?_
        generalize hM : mountM ⟨f.ps, f.bs⟩ = M
        simp only [go_sem, Nat.reduceAdd, Nat.reduceMul, ↓reduceIte, reduceCtorEq, Nat.reduceLeDiff, Int.reduceToNat, Int.reduceLT, Int.reduceLE, Int.reduceEq, Int.reduceNe, Int.reduceBEq, Int.reduceBNe, not_false_eq_true, not_true_eq_false, hP]
        first | refine xw_call hE (ks := [0, 1, 2, 3, 4, 6, 7, 8, 9, 10, 11, 12, 13, 14, 15, 16, 32]) (n := 2000) (by rw [hP]; exact jAppend_c j _ b _ (-1) rfl (by omega) rfl (by omega) (by unfold i64; decide)) ?_ | refine xd_call hE (ks := [0, 1, 2, 3, 4, 6, 7, 8, 9, 10, 11, 12, 13, 14, 15, 16, 32]) (n := 2000) (by rw [hP]; exact jAppend_c j _ b _ (-1) rfl (by omega) rfl (by omega) (by unfold i64; decide)) ?_
        simp only [go_sem, Nat.reduceAdd, Nat.reduceMul, ↓reduceIte, reduceCtorEq, Nat.reduceLeDiff, Int.reduceToNat, Int.reduceLT, Int.reduceLE, Int.reduceEq, Int.reduceNe, Int.reduceBEq, Int.reduceBNe, not_false_eq_true, not_true_eq_false, hP]
        first | refine xw_call hE (ks := [0, 1, 2, 3, 4, 6, 7, 8, 9, 10, 11, 12, 13, 14, 15, 16, 32]) (n := 2000) (by rw [hP]; exact rAppend_c j _ b _ (-1) rfl (by omega) rfl (by omega) (by unfold i64; decide)) ?_ | refine xd_call hE (ks := [0, 1, 2, 3, 4, 6, 7, 8, 9, 10, 11, 12, 13, 14, 15, 16, 32]) (n := 2000) (by rw [hP]; exact rAppend_c j _ b _ (-1) rfl (by omega) rfl (by omega) (by unfold i64; decide)) ?_
        rw [append_law]
        generalize hA : rappendM j b (-1) = G
        simp only [go_sem, Nat.reduceAdd, Nat.reduceMul, ↓reduceIte, reduceCtorEq, Nat.reduceLeDiff, Int.reduceToNat, Int.reduceLT, Int.reduceLE, Int.reduceEq, Int.reduceNe, Int.reduceBEq, Int.reduceBNe, not_false_eq_true, not_true_eq_false, hP]
        first | refine xw_call hE (ks := [0, 1, 2, 3, 4, 6, 7, 8, 9, 10, 11, 12, 13, 14, 15, 16, 32]) (n := 2000) (by rw [hP]; exact sameJournal_c M.j M.j _ _) ?_ | refine xd_call hE (ks := [0, 1, 2, 3, 4, 6, 7, 8, 9, 10, 11, 12, 13, 14, 15, 16, 32]) (n := 2000) (by rw [hP]; exact sameJournal_c M.j M.j _ _) ?_
        rw [sameJ_self]
        simp only [go_sem, Nat.reduceAdd, Nat.reduceMul, ↓reduceIte, reduceCtorEq, Nat.reduceLeDiff, Int.reduceToNat, Int.reduceLT, Int.reduceLE, Int.reduceEq, Int.reduceNe, Int.reduceBEq, Int.reduceBNe, not_false_eq_true, not_true_eq_false, hP]
        first | refine xw_call hE (ks := [0, 1, 2, 3, 4, 6, 7, 8, 9, 10, 11, 12, 13, 14, 15, 16, 32]) (n := 2000) (by rw [hP]; exact same_c G.j G.j G.left G.left G.err G.err _ _) ?_ | refine xd_call hE (ks := [0, 1, 2, 3, 4, 6, 7, 8, 9, 10, 11, 12, 13, 14, 15, 16, 32]) (n := 2000) (by rw [hP]; exact same_c G.j G.j G.left G.left G.err G.err _ _) ?_
        simp only [sameJ_self, beq_self_eq_true, Bool.and_self]
        simp only [go_sem, Nat.reduceAdd, Nat.reduceMul, ↓reduceIte, reduceCtorEq, Nat.reduceLeDiff, Int.reduceToNat, Int.reduceLT, Int.reduceLE, Int.reduceEq, Int.reduceNe, Int.reduceBEq, Int.reduceBNe, not_false_eq_true, not_true_eq_false, hP]
        first | refine xw_call hE (ks := [0, 1, 2, 3, 4, 6, 7, 8, 9, 10, 11, 12, 13, 14, 15, 16, 32]) (n := 2000) (by rw [hP]; exact jRoom_c j _ rfl (by omega)) ?_ | refine xd_call hE (ks := [0, 1, 2, 3, 4, 6, 7, 8, 9, 10, 11, 12, 13, 14, 15, 16, 32]) (n := 2000) (by rw [hP]; exact jRoom_c j _ rfl (by omega)) ?_
        simp only [go_sem, Nat.reduceAdd, Nat.reduceMul, ↓reduceIte, reduceCtorEq, Nat.reduceLeDiff, Int.reduceToNat, Int.reduceLT, Int.reduceLE, Int.reduceEq, Int.reduceNe, Int.reduceBEq, Int.reduceBNe, not_false_eq_true, not_true_eq_false, hP]
        first | refine xw_call hE (ks := [0, 1, 2, 3, 4, 6, 7, 8, 9, 10, 11, 12, 13, 14, 15, 16, 32]) (n := 2000) (by rw [hP]; exact rRoom_c j _ rfl (by omega)) ?_ | refine xd_call hE (ks := [0, 1, 2, 3, 4, 6, 7, 8, 9, 10, 11, 12, 13, 14, 15, 16, 32]) (n := 2000) (by rw [hP]; exact rRoom_c j _ rfl (by omega)) ?_
        simp only [go_sem, Nat.reduceAdd, Nat.reduceMul, ↓reduceIte, reduceCtorEq, Nat.reduceLeDiff, Int.reduceToNat, Int.reduceLT, Int.reduceLE, Int.reduceEq, Int.reduceNe, Int.reduceBEq, Int.reduceBNe, not_false_eq_true, not_true_eq_false, hP]
        first | refine xw_call hE (ks := [0, 1, 2, 3, 4, 6, 7, 8, 9, 10, 11, 12, 13, 14, 15, 16, 32]) (n := 2000) (by rw [hP]; exact jRecords_c j _ rfl (by omega)) ?_ | refine xd_call hE (ks := [0, 1, 2, 3, 4, 6, 7, 8, 9, 10, 11, 12, 13, 14, 15, 16, 32]) (n := 2000) (by rw [hP]; exact jRecords_c j _ rfl (by omega)) ?_
        simp only [go_sem, Nat.reduceAdd, Nat.reduceMul, ↓reduceIte, reduceCtorEq, Nat.reduceLeDiff, Int.reduceToNat, Int.reduceLT, Int.reduceLE, Int.reduceEq, Int.reduceNe, Int.reduceBEq, Int.reduceBNe, not_false_eq_true, not_true_eq_false, hP]
        first | refine xw_call hE (ks := [0, 1, 2, 3, 4, 6, 7, 8, 9, 10, 11, 12, 13, 14, 15, 16, 32]) (n := 2000) (by rw [hP]; exact rRecords_c j _ rfl (by omega)) ?_ | refine xd_call hE (ks := [0, 1, 2, 3, 4, 6, 7, 8, 9, 10, 11, 12, 13, 14, 15, 16, 32]) (n := 2000) (by rw [hP]; exact rRecords_c j _ rfl (by omega)) ?_
        simp only [go_sem, Nat.reduceAdd, Nat.reduceMul, ↓reduceIte, reduceCtorEq, Nat.reduceLeDiff, Int.reduceToNat, Int.reduceLT, Int.reduceLE, Int.reduceEq, Int.reduceNe, Int.reduceBEq, Int.reduceBNe, not_false_eq_true, not_true_eq_false, hP]
        first | refine xw_call hE (ks := [0, 1, 2, 3, 4, 6, 7, 8, 9, 10, 11, 12, 13, 14, 15, 16, 32]) (n := 2000) (by rw [hP]; exact sameBytes_c (recsM j) (recsM j) _ _ rfl rfl (recs_len j (by omega))) ?_ | refine xd_call hE (ks := [0, 1, 2, 3, 4, 6, 7, 8, 9, 10, 11, 12, 13, 14, 15, 16, 32]) (n := 2000) (by rw [hP]; exact sameBytes_c (recsM j) (recsM j) _ _ rfl rfl (recs_len j (by omega))) ?_
        rw [beq_self_eq_true]
        simp only [go_sem, Nat.reduceAdd, Nat.reduceMul, ↓reduceIte, reduceCtorEq, Nat.reduceLeDiff, Int.reduceToNat, Int.reduceLT, Int.reduceLE, Int.reduceEq, Int.reduceNe, Int.reduceBEq, Int.reduceBNe, not_false_eq_true, not_true_eq_false, hP]
        first | refine xw_call hE (ks := [0, 1, 2, 3, 4, 6, 7, 8, 9, 10, 11, 12, 13, 14, 15, 16, 32]) (n := 2000) (by rw [hP]; exact awake_c) ?_ | refine xd_call hE (ks := [0, 1, 2, 3, 4, 6, 7, 8, 9, 10, 11, 12, 13, 14, 15, 16, 32]) (n := 2000) (by rw [hP]; exact awake_c) ?_
        simp only [go_sem, Nat.reduceAdd, Nat.reduceMul, ↓reduceIte, reduceCtorEq, Nat.reduceLeDiff, Int.reduceToNat, Int.reduceLT, Int.reduceLE, Int.reduceEq, Int.reduceNe, Int.reduceBEq, Int.reduceBNe, not_false_eq_true, not_true_eq_false, hP]
        first | kernel_rfl | exact ⟨by kernel_rfl, trivial⟩ | trivial
    · first | refine xw_call hE (ks := [0, 1, 2, 3, 4, 6, 7, 8, 9, 10, 11, 12, 13, 14, 15, 16, 32]) (n := 2000) (by rw [hP]; exact awake_c) ?_ | refine xd_call hE (ks := [0, 1, 2, 3, 4, 6, 7, 8, 9, 10, 11, 12, 13, 14, 15, 16, 32]) (n := 2000) (by rw [hP]; exact awake_c) ?_
      simp only [go_sem, Nat.reduceAdd, Nat.reduceMul, ↓reduceIte, reduceCtorEq, Nat.reduceLeDiff, Int.reduceToNat, Int.reduceLT, Int.reduceLE, Int.reduceEq, Int.reduceNe, Int.reduceBEq, Int.reduceBNe, not_false_eq_true, not_true_eq_false, hP]
  · first | refine xw_call hE (ks := [0, 1, 2, 3, 4, 6, 7, 8, 9, 10, 11, 12, 13, 14, 15, 16, 32]) (n := 2000) (by rw [hP]; exact awake_c) ?_ | refine xd_call hE (ks := [0, 1, 2, 3, 4, 6, 7, 8, 9, 10, 11, 12, 13, 14, 15, 16, 32]) (n := 2000) (by rw [hP]; exact awake_c) ?_
    simp only [go_sem, Nat.reduceAdd, Nat.reduceMul, ↓reduceIte, reduceCtorEq, Nat.reduceLeDiff, Int.reduceToNat, Int.reduceLT, Int.reduceLE, Int.reduceEq, Int.reduceNe, Int.reduceBEq, Int.reduceBNe, not_false_eq_true, not_true_eq_false, hP]

end Go.Proofs.Ytpelcbonflijhaa

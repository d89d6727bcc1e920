/-
  The laws JournalFormats, JournalMounts, JournalReads, JournalAppends: the contracts of their functions. Own work.
-/
import Derived.Test.YtpelcbonflijhaaMd
namespace Go.Proofs.Ytpelcbonflijhaa
set_option linter.unusedSimpArgs false
set_option linter.unusedVariables false
open Go Go.Abs Go.RowKit

set_option maxHeartbeats 2000000 in
theorem formats_c (n : Int) (l : List Int) (budget s : Int) (hB : i64 budget) : FPure Try.prog 3 [.i n, .p (.data 1 l.length (l.map it)), .i budget, .i s] (.b true) := by
  refine fpure_x hmix Try.func3 rfl (by kernel_rfl) Try.ntmps3 Try.results3 (by simp) (by simp [idsL, idsA]) [0, 1, 2, 3, 8, 9, 10, 11, 12, 13, 14, 15, 16, 17, 18, 19, 20, 21] ?_; intro c hP h0 hE
  simp only [go_sem, Nat.reduceAdd, Nat.reduceMul, ↓reduceIte, reduceCtorEq, Nat.reduceLeDiff, Int.reduceToNat, Int.reduceLT, Int.reduceLE, Int.reduceEq, Int.reduceNe, Int.reduceBEq, Int.reduceBNe, not_false_eq_true, not_true_eq_false, hP]
  first | refine xw_call hE (ks := [0, 1, 2, 3, 8, 9, 10, 11, 12, 13, 14, 15, 16, 17, 18, 19, 20, 21]) (n := 2000) (by rw [hP]; exact lmade_c n l _ rfl) ?_ | refine xd_call hE (ks := [0, 1, 2, 3, 8, 9, 10, 11, 12, 13, 14, 15, 16, 17, 18, 19, 20, 21]) (n := 2000) (by rw [hP]; exact lmade_c n l _ rfl) ?_
  have hok := (made_ok n l).len
  generalize madeM n l = j at *
  simp only [go_sem, Nat.reduceAdd, Nat.reduceMul, ↓reduceIte, reduceCtorEq, Nat.reduceLeDiff, Int.reduceToNat, Int.reduceLT, Int.reduceLE, Int.reduceEq, Int.reduceNe, Int.reduceBEq, Int.reduceBNe, not_false_eq_true, not_true_eq_false, hP]
  first | refine xw_call hE (ks := [0, 1, 2, 3, 8, 9, 10, 11, 12, 13, 14, 15, 16, 17, 18, 19, 20, 21]) (n := 2000) (by rw [hP]; exact lspoil_c j _ rfl hok.1 (by omega) s) ?_ | refine xd_call hE (ks := [0, 1, 2, 3, 8, 9, 10, 11, 12, 13, 14, 15, 16, 17, 18, 19, 20, 21]) (n := 2000) (by rw [hP]; exact lspoil_c j _ rfl hok.1 (by omega) s) ?_
  have hsl := spoilM_len j s
  generalize spoilM j s = x at *
  simp only [go_sem, Nat.reduceAdd, Nat.reduceMul, ↓reduceIte, reduceCtorEq, Nat.reduceLeDiff, Int.reduceToNat, Int.reduceLT, Int.reduceLE, Int.reduceEq, Int.reduceNe, Int.reduceBEq, Int.reduceBNe, not_false_eq_true, not_true_eq_false, hP]
  have hb1 := band_bd budget 4095 (by decide) (by decide)
  obtain ⟨B, hw⟩ : ∃ B, IntKind.i64.wrap (band .i64 budget 4095 - 500) = B := ⟨_, rfl⟩
  have hBB : i64 B := by rw [← hw, wrap_i64_id (by omega) (by omega)]; unfold i64; omega
  rw [hw]
  first | refine xw_call hE (ks := [0, 1, 2, 3, 8, 9, 10, 11, 12, 13, 14, 15, 16, 17, 18, 19, 20, 21]) (n := 2000) (by rw [hP]; exact jFormat_c x.ps x.bs _ B rfl (by omega) hBB) ?_ | refine xd_call hE (ks := [0, 1, 2, 3, 8, 9, 10, 11, 12, 13, 14, 15, 16, 17, 18, 19, 20, 21]) (n := 2000) (by rw [hP]; exact jFormat_c x.ps x.bs _ B rfl (by omega) hBB) ?_
  rw [format_law]
  simp only [go_sem, Nat.reduceAdd, Nat.reduceMul, ↓reduceIte, reduceCtorEq, Nat.reduceLeDiff, Int.reduceToNat, Int.reduceLT, Int.reduceLE, Int.reduceEq, Int.reduceNe, Int.reduceBEq, Int.reduceBNe, not_false_eq_true, not_true_eq_false, hP, hw]
  first | refine xw_call hE (ks := [0, 1, 2, 3, 8, 9, 10, 11, 12, 13, 14, 15, 16, 17, 18, 19, 20, 21]) (n := 2000) (by rw [hP]; exact rFormat_c x.ps x.bs _ B rfl (by omega) hBB) ?_ | refine xd_call hE (ks := [0, 1, 2, 3, 8, 9, 10, 11, 12, 13, 14, 15, 16, 17, 18, 19, 20, 21]) (n := 2000) (by rw [hP]; exact rFormat_c x.ps x.bs _ B rfl (by omega) hBB) ?_
  generalize rformatM ⟨x.ps, x.bs⟩ B = G
  simp only [go_sem, Nat.reduceAdd, Nat.reduceMul, ↓reduceIte, reduceCtorEq, Nat.reduceLeDiff, Int.reduceToNat, Int.reduceLT, Int.reduceLE, Int.reduceEq, Int.reduceNe, Int.reduceBEq, Int.reduceBNe, not_false_eq_true, not_true_eq_false, hP]
  first | refine xw_call hE (ks := [0, 1, 2, 3, 8, 9, 10, 11, 12, 13, 14, 15, 16, 17, 18, 19, 20, 21]) (n := 2000) (by rw [hP]; exact jFormat_c x.ps x.bs _ budget rfl (by omega) hB) ?_ | refine xd_call hE (ks := [0, 1, 2, 3, 8, 9, 10, 11, 12, 13, 14, 15, 16, 17, 18, 19, 20, 21]) (n := 2000) (by rw [hP]; exact jFormat_c x.ps x.bs _ budget rfl (by omega) hB) ?_
  rw [format_law]
  simp only [go_sem, Nat.reduceAdd, Nat.reduceMul, ↓reduceIte, reduceCtorEq, Nat.reduceLeDiff, Int.reduceToNat, Int.reduceLT, Int.reduceLE, Int.reduceEq, Int.reduceNe, Int.reduceBEq, Int.reduceBNe, not_false_eq_true, not_true_eq_false, hP]
  first | refine xw_call hE (ks := [0, 1, 2, 3, 8, 9, 10, 11, 12, 13, 14, 15, 16, 17, 18, 19, 20, 21]) (n := 2000) (by rw [hP]; exact rFormat_c x.ps x.bs _ budget rfl (by omega) hB) ?_ | refine xd_call hE (ks := [0, 1, 2, 3, 8, 9, 10, 11, 12, 13, 14, 15, 16, 17, 18, 19, 20, 21]) (n := 2000) (by rw [hP]; exact rFormat_c x.ps x.bs _ budget rfl (by omega) hB) ?_
  generalize rformatM ⟨x.ps, x.bs⟩ budget = H
  simp only [go_sem, Nat.reduceAdd, Nat.reduceMul, ↓reduceIte, reduceCtorEq, Nat.reduceLeDiff, Int.reduceToNat, Int.reduceLT, Int.reduceLE, Int.reduceEq, Int.reduceNe, Int.reduceBEq, Int.reduceBNe, not_false_eq_true, not_true_eq_false, hP]
  first | refine xw_call hE (ks := [0, 1, 2, 3, 8, 9, 10, 11, 12, 13, 14, 15, 16, 17, 18, 19, 20, 21]) (n := 2000) (by rw [hP]; exact same_c G.j G.j G.left G.left G.err G.err _ _) ?_ | refine xd_call hE (ks := [0, 1, 2, 3, 8, 9, 10, 11, 12, 13, 14, 15, 16, 17, 18, 19, 20, 21]) (n := 2000) (by rw [hP]; exact same_c G.j G.j G.left G.left G.err G.err _ _) ?_
  simp only [sameJ_self, beq_self_eq_true, Bool.and_self]
  simp only [go_sem, Nat.reduceAdd, Nat.reduceMul, ↓reduceIte, reduceCtorEq, Nat.reduceLeDiff, Int.reduceToNat, Int.reduceLT, Int.reduceLE, Int.reduceEq, Int.reduceNe, Int.reduceBEq, Int.reduceBNe, not_false_eq_true, not_true_eq_false, hP]
  first | refine xw_call hE (ks := [0, 1, 2, 3, 8, 9, 10, 11, 12, 13, 14, 15, 16, 17, 18, 19, 20, 21]) (n := 2000) (by rw [hP]; exact same_c H.j H.j H.left H.left H.err H.err _ _) ?_ | refine xd_call hE (ks := [0, 1, 2, 3, 8, 9, 10, 11, 12, 13, 14, 15, 16, 17, 18, 19, 20, 21]) (n := 2000) (by rw [hP]; exact same_c H.j H.j H.left H.left H.err H.err _ _) ?_
  simp only [sameJ_self, beq_self_eq_true, Bool.and_self]
  simp only [go_sem, Nat.reduceAdd, Nat.reduceMul, ↓reduceIte, reduceCtorEq, Nat.reduceLeDiff, Int.reduceToNat, Int.reduceLT, Int.reduceLE, Int.reduceEq, Int.reduceNe, Int.reduceBEq, Int.reduceBNe, not_false_eq_true, not_true_eq_false, hP]
  first | refine xw_call hE (ks := [0, 1, 2, 3, 8, 9, 10, 11, 12, 13, 14, 15, 16, 17, 18, 19, 20, 21]) (n := 2000) (by rw [hP]; exact awake_c) ?_ | refine xd_call hE (ks := [0, 1, 2, 3, 8, 9, 10, 11, 12, 13, 14, 15, 16, 17, 18, 19, 20, 21]) (n := 2000) (by rw [hP]; exact awake_c) ?_
  simp only [go_sem, Nat.reduceAdd, Nat.reduceMul, ↓reduceIte, reduceCtorEq, Nat.reduceLeDiff, Int.reduceToNat, Int.reduceLT, Int.reduceLE, Int.reduceEq, Int.reduceNe, Int.reduceBEq, Int.reduceBNe, not_false_eq_true, not_true_eq_false, hP]

theorem sp_len {j : Jn} (h : MtOk j) (s : Int) : 1 ≤ (spoilM j s).bs.length ∧ (spoilM j s).bs.length < 1000000 := by
  rw [spoilM_len]; exact h.len

set_option maxHeartbeats 2000000 in
theorem mounts_c (n : Int) (l : List Int) (s : Int) : FPure Try.prog 4 [.i n, .p (.data 1 l.length (l.map it)), .i s] (.b true) := by
  refine fpure_x hmix Try.func4 rfl (by kernel_rfl) Try.ntmps4 Try.results4 (by simp) (by simp [idsL, idsA]) [0, 1, 2, 6, 7, 8, 9, 10, 11, 12, 13, 14] ?_; intro c hP h0 hE
  simp only [go_sem, Nat.reduceAdd, Nat.reduceMul, ↓reduceIte, reduceCtorEq, Nat.reduceLeDiff, Int.reduceToNat, Int.reduceLT, Int.reduceLE, Int.reduceEq, Int.reduceNe, Int.reduceBEq, Int.reduceBNe, not_false_eq_true, not_true_eq_false, hP]
  first | refine xw_call hE (ks := [0, 1, 2, 6, 7, 8, 9, 10, 11, 12, 13, 14]) (n := 2000) (by rw [hP]; exact lmade_c n l _ rfl) ?_ | refine xd_call hE (ks := [0, 1, 2, 6, 7, 8, 9, 10, 11, 12, 13, 14]) (n := 2000) (by rw [hP]; exact lmade_c n l _ rfl) ?_
  have hm := made_ok n l
  have hok := hm.len
  generalize madeM n l = j at *
  simp only [go_sem, Nat.reduceAdd, Nat.reduceMul, ↓reduceIte, reduceCtorEq, Nat.reduceLeDiff, Int.reduceToNat, Int.reduceLT, Int.reduceLE, Int.reduceEq, Int.reduceNe, Int.reduceBEq, Int.reduceBNe, not_false_eq_true, not_true_eq_false, hP]
  first | refine xw_call hE (ks := [0, 1, 2, 6, 7, 8, 9, 10, 11, 12, 13, 14]) (n := 2000) (by rw [hP]; exact jMount_c j.ps j.bs _ rfl (by omega)) ?_ | refine xd_call hE (ks := [0, 1, 2, 6, 7, 8, 9, 10, 11, 12, 13, 14]) (n := 2000) (by rw [hP]; exact jMount_c j.ps j.bs _ rfl (by omega)) ?_
  have hm2 : mountM ⟨j.ps, j.bs⟩ = ⟨j, 0⟩ := hm
  rw [hm2]
  simp only [go_sem, Nat.reduceAdd, Nat.reduceMul, ↓reduceIte, reduceCtorEq, Nat.reduceLeDiff, Int.reduceToNat, Int.reduceLT, Int.reduceLE, Int.reduceEq, Int.reduceNe, Int.reduceBEq, Int.reduceBNe, not_false_eq_true, not_true_eq_false, hP]
  first | refine xw_call hE (ks := [0, 1, 2, 6, 7, 8, 9, 10, 11, 12, 13, 14]) (n := 2000) (by rw [hP]; exact lspoil_c j _ rfl hok.1 (by omega) s) ?_ | refine xd_call hE (ks := [0, 1, 2, 6, 7, 8, 9, 10, 11, 12, 13, 14]) (n := 2000) (by rw [hP]; exact lspoil_c j _ rfl hok.1 (by omega) s) ?_
  have hsl := spoilM_len j s
  generalize spoilM j s = x at *
  simp only [go_sem, Nat.reduceAdd, Nat.reduceMul, ↓reduceIte, reduceCtorEq, Nat.reduceLeDiff, Int.reduceToNat, Int.reduceLT, Int.reduceLE, Int.reduceEq, Int.reduceNe, Int.reduceBEq, Int.reduceBNe, not_false_eq_true, not_true_eq_false, hP]
  first | refine xw_call hE (ks := [0, 1, 2, 6, 7, 8, 9, 10, 11, 12, 13, 14]) (n := 2000) (by rw [hP]; exact jMount_c x.ps x.bs _ rfl (by omega)) ?_ | refine xd_call hE (ks := [0, 1, 2, 6, 7, 8, 9, 10, 11, 12, 13, 14]) (n := 2000) (by rw [hP]; exact jMount_c x.ps x.bs _ rfl (by omega)) ?_
  simp only [go_sem, Nat.reduceAdd, Nat.reduceMul, ↓reduceIte, reduceCtorEq, Nat.reduceLeDiff, Int.reduceToNat, Int.reduceLT, Int.reduceLE, Int.reduceEq, Int.reduceNe, Int.reduceBEq, Int.reduceBNe, not_false_eq_true, not_true_eq_false, hP]
  first | refine xw_call hE (ks := [0, 1, 2, 6, 7, 8, 9, 10, 11, 12, 13, 14]) (n := 2000) (by rw [hP]; exact rMount_c x.ps x.bs _ rfl (by omega)) ?_ | refine xd_call hE (ks := [0, 1, 2, 6, 7, 8, 9, 10, 11, 12, 13, 14]) (n := 2000) (by rw [hP]; exact rMount_c x.ps x.bs _ rfl (by omega)) ?_
  generalize mountM ⟨x.ps, x.bs⟩ = M at *
  simp only [go_sem, Nat.reduceAdd, Nat.reduceMul, ↓reduceIte, reduceCtorEq, Nat.reduceLeDiff, Int.reduceToNat, Int.reduceLT, Int.reduceLE, Int.reduceEq, Int.reduceNe, Int.reduceBEq, Int.reduceBNe, not_false_eq_true, not_true_eq_false, hP]
  first | refine xw_call hE (ks := [0, 1, 2, 6, 7, 8, 9, 10, 11, 12, 13, 14]) (n := 2000) (by rw [hP]; exact sameJournal_c j j _ _) ?_ | refine xd_call hE (ks := [0, 1, 2, 6, 7, 8, 9, 10, 11, 12, 13, 14]) (n := 2000) (by rw [hP]; exact sameJournal_c j j _ _) ?_
  rw [sameJ_self]
  simp only [go_sem, Nat.reduceAdd, Nat.reduceMul, ↓reduceIte, reduceCtorEq, Nat.reduceLeDiff, Int.reduceToNat, Int.reduceLT, Int.reduceLE, Int.reduceEq, Int.reduceNe, Int.reduceBEq, Int.reduceBNe, not_false_eq_true, not_true_eq_false, hP]
  first | refine xw_call hE (ks := [0, 1, 2, 6, 7, 8, 9, 10, 11, 12, 13, 14]) (n := 2000) (by rw [hP]; exact sameJournal_c M.j M.j _ _) ?_ | refine xd_call hE (ks := [0, 1, 2, 6, 7, 8, 9, 10, 11, 12, 13, 14]) (n := 2000) (by rw [hP]; exact sameJournal_c M.j M.j _ _) ?_
  rw [sameJ_self]
  simp only [go_sem, Nat.reduceAdd, Nat.reduceMul, ↓reduceIte, reduceCtorEq, Nat.reduceLeDiff, Int.reduceToNat, Int.reduceLT, Int.reduceLE, Int.reduceEq, Int.reduceNe, Int.reduceBEq, Int.reduceBNe, not_false_eq_true, not_true_eq_false, hP]
  first | refine xw_call hE (ks := [0, 1, 2, 6, 7, 8, 9, 10, 11, 12, 13, 14]) (n := 2000) (by rw [hP]; exact awake_c) ?_ | refine xd_call hE (ks := [0, 1, 2, 6, 7, 8, 9, 10, 11, 12, 13, 14]) (n := 2000) (by rw [hP]; exact awake_c) ?_
  simp only [go_sem, Nat.reduceAdd, Nat.reduceMul, ↓reduceIte, reduceCtorEq, Nat.reduceLeDiff, Int.reduceToNat, Int.reduceLT, Int.reduceLE, Int.reduceEq, Int.reduceNe, Int.reduceBEq, Int.reduceBNe, not_false_eq_true, not_true_eq_false, hP]

set_option maxHeartbeats 2000000 in
theorem reads_c (n : Int) (l : List Int) (s : Int) : FPure Try.prog 6 [.i n, .p (.data 1 l.length (l.map it)), .i s] (.b true) := by
  refine fpure_x hmix Try.func6 rfl (by kernel_rfl) Try.ntmps6 Try.results6 (by simp) (by simp [idsL, idsA]) [0, 1, 2, 6, 7, 8] ?_; intro c hP h0 hE
  simp only [go_sem, Nat.reduceAdd, Nat.reduceMul, ↓reduceIte, reduceCtorEq, Nat.reduceLeDiff, Int.reduceToNat, Int.reduceLT, Int.reduceLE, Int.reduceEq, Int.reduceNe, Int.reduceBEq, Int.reduceBNe, not_false_eq_true, not_true_eq_false, hP]
  first | refine xw_call hE (ks := [0, 1, 2, 6, 7, 8]) (n := 2000) (by rw [hP]; exact lmade_c n l _ rfl) ?_ | refine xd_call hE (ks := [0, 1, 2, 6, 7, 8]) (n := 2000) (by rw [hP]; exact lmade_c n l _ rfl) ?_
  have hm := made_ok n l
  have hok := hm.len
  generalize madeM n l = j at *
  simp only [go_sem, Nat.reduceAdd, Nat.reduceMul, ↓reduceIte, reduceCtorEq, Nat.reduceLeDiff, Int.reduceToNat, Int.reduceLT, Int.reduceLE, Int.reduceEq, Int.reduceNe, Int.reduceBEq, Int.reduceBNe, not_false_eq_true, not_true_eq_false, hP]
  first | refine xw_call hE (ks := [0, 1, 2, 6, 7, 8]) (n := 2000) (by rw [hP]; exact lspoil_c j _ rfl hok.1 (by omega) s) ?_ | refine xd_call hE (ks := [0, 1, 2, 6, 7, 8]) (n := 2000) (by rw [hP]; exact lspoil_c j _ rfl hok.1 (by omega) s) ?_
  have hsl := spoilM_len j s
  generalize spoilM j s = x at *
  simp only [go_sem, Nat.reduceAdd, Nat.reduceMul, ↓reduceIte, reduceCtorEq, Nat.reduceLeDiff, Int.reduceToNat, Int.reduceLT, Int.reduceLE, Int.reduceEq, Int.reduceNe, Int.reduceBEq, Int.reduceBNe, not_false_eq_true, not_true_eq_false, hP]
  first | refine xw_call hE (ks := [0, 1, 2, 6, 7, 8]) (n := 2000) (by rw [hP]; exact jRecords_c j _ rfl (by omega)) ?_ | refine xd_call hE (ks := [0, 1, 2, 6, 7, 8]) (n := 2000) (by rw [hP]; exact jRecords_c j _ rfl (by omega)) ?_
  simp only [go_sem, Nat.reduceAdd, Nat.reduceMul, ↓reduceIte, reduceCtorEq, Nat.reduceLeDiff, Int.reduceToNat, Int.reduceLT, Int.reduceLE, Int.reduceEq, Int.reduceNe, Int.reduceBEq, Int.reduceBNe, not_false_eq_true, not_true_eq_false, hP]
  first | refine xw_call hE (ks := [0, 1, 2, 6, 7, 8]) (n := 2000) (by rw [hP]; exact rRecords_c j _ rfl (by omega)) ?_ | refine xd_call hE (ks := [0, 1, 2, 6, 7, 8]) (n := 2000) (by rw [hP]; exact rRecords_c j _ rfl (by omega)) ?_
  simp only [go_sem, Nat.reduceAdd, Nat.reduceMul, ↓reduceIte, reduceCtorEq, Nat.reduceLeDiff, Int.reduceToNat, Int.reduceLT, Int.reduceLE, Int.reduceEq, Int.reduceNe, Int.reduceBEq, Int.reduceBNe, not_false_eq_true, not_true_eq_false, hP]
  first | refine xw_call hE (ks := [0, 1, 2, 6, 7, 8]) (n := 2000) (by rw [hP]; exact sameBytes_c (recsM j) (recsM j) _ _ rfl rfl (recs_len j (by omega))) ?_ | refine xd_call hE (ks := [0, 1, 2, 6, 7, 8]) (n := 2000) (by rw [hP]; exact sameBytes_c (recsM j) (recsM j) _ _ rfl rfl (recs_len j (by omega))) ?_
  rw [beq_self_eq_true]
  simp only [go_sem, Nat.reduceAdd, Nat.reduceMul, ↓reduceIte, reduceCtorEq, Nat.reduceLeDiff, Int.reduceToNat, Int.reduceLT, Int.reduceLE, Int.reduceEq, Int.reduceNe, Int.reduceBEq, Int.reduceBNe, not_false_eq_true, not_true_eq_false, hP]
  first | refine xw_call hE (ks := [0, 1, 2, 6, 7, 8]) (n := 2000) (by rw [hP]; exact jRoom_c j _ rfl (by omega)) ?_ | refine xd_call hE (ks := [0, 1, 2, 6, 7, 8]) (n := 2000) (by rw [hP]; exact jRoom_c j _ rfl (by omega)) ?_
  simp only [go_sem, Nat.reduceAdd, Nat.reduceMul, ↓reduceIte, reduceCtorEq, Nat.reduceLeDiff, Int.reduceToNat, Int.reduceLT, Int.reduceLE, Int.reduceEq, Int.reduceNe, Int.reduceBEq, Int.reduceBNe, not_false_eq_true, not_true_eq_false, hP]
  first | refine xw_call hE (ks := [0, 1, 2, 6, 7, 8]) (n := 2000) (by rw [hP]; exact rRoom_c j _ rfl (by omega)) ?_ | refine xd_call hE (ks := [0, 1, 2, 6, 7, 8]) (n := 2000) (by rw [hP]; exact rRoom_c j _ rfl (by omega)) ?_
  simp only [go_sem, Nat.reduceAdd, Nat.reduceMul, ↓reduceIte, reduceCtorEq, Nat.reduceLeDiff, Int.reduceToNat, Int.reduceLT, Int.reduceLE, Int.reduceEq, Int.reduceNe, Int.reduceBEq, Int.reduceBNe, not_false_eq_true, not_true_eq_false, hP]
  first | refine xw_call hE (ks := [0, 1, 2, 6, 7, 8]) (n := 2000) (by rw [hP]; exact jRecords_c x _ rfl (by omega)) ?_ | refine xd_call hE (ks := [0, 1, 2, 6, 7, 8]) (n := 2000) (by rw [hP]; exact jRecords_c x _ rfl (by omega)) ?_
  simp only [go_sem, Nat.reduceAdd, Nat.reduceMul, ↓reduceIte, reduceCtorEq, Nat.reduceLeDiff, Int.reduceToNat, Int.reduceLT, Int.reduceLE, Int.reduceEq, Int.reduceNe, Int.reduceBEq, Int.reduceBNe, not_false_eq_true, not_true_eq_false, hP]
  first | refine xw_call hE (ks := [0, 1, 2, 6, 7, 8]) (n := 2000) (by rw [hP]; exact rRecords_c x _ rfl (by omega)) ?_ | refine xd_call hE (ks := [0, 1, 2, 6, 7, 8]) (n := 2000) (by rw [hP]; exact rRecords_c x _ rfl (by omega)) ?_
  simp only [go_sem, Nat.reduceAdd, Nat.reduceMul, ↓reduceIte, reduceCtorEq, Nat.reduceLeDiff, Int.reduceToNat, Int.reduceLT, Int.reduceLE, Int.reduceEq, Int.reduceNe, Int.reduceBEq, Int.reduceBNe, not_false_eq_true, not_true_eq_false, hP]
  first | refine xw_call hE (ks := [0, 1, 2, 6, 7, 8]) (n := 2000) (by rw [hP]; exact sameBytes_c (recsM x) (recsM x) _ _ rfl rfl (recs_len x (by omega))) ?_ | refine xd_call hE (ks := [0, 1, 2, 6, 7, 8]) (n := 2000) (by rw [hP]; exact sameBytes_c (recsM x) (recsM x) _ _ rfl rfl (recs_len x (by omega))) ?_
  rw [beq_self_eq_true]
  simp only [go_sem, Nat.reduceAdd, Nat.reduceMul, ↓reduceIte, reduceCtorEq, Nat.reduceLeDiff, Int.reduceToNat, Int.reduceLT, Int.reduceLE, Int.reduceEq, Int.reduceNe, Int.reduceBEq, Int.reduceBNe, not_false_eq_true, not_true_eq_false, hP]
  first | refine xw_call hE (ks := [0, 1, 2, 6, 7, 8]) (n := 2000) (by rw [hP]; exact jRoom_c x _ rfl (by omega)) ?_ | refine xd_call hE (ks := [0, 1, 2, 6, 7, 8]) (n := 2000) (by rw [hP]; exact jRoom_c x _ rfl (by omega)) ?_
  simp only [go_sem, Nat.reduceAdd, Nat.reduceMul, ↓reduceIte, reduceCtorEq, Nat.reduceLeDiff, Int.reduceToNat, Int.reduceLT, Int.reduceLE, Int.reduceEq, Int.reduceNe, Int.reduceBEq, Int.reduceBNe, not_false_eq_true, not_true_eq_false, hP]
  first | refine xw_call hE (ks := [0, 1, 2, 6, 7, 8]) (n := 2000) (by rw [hP]; exact rRoom_c x _ rfl (by omega)) ?_ | refine xd_call hE (ks := [0, 1, 2, 6, 7, 8]) (n := 2000) (by rw [hP]; exact rRoom_c x _ rfl (by omega)) ?_
  simp only [go_sem, Nat.reduceAdd, Nat.reduceMul, ↓reduceIte, reduceCtorEq, Nat.reduceLeDiff, Int.reduceToNat, Int.reduceLT, Int.reduceLE, Int.reduceEq, Int.reduceNe, Int.reduceBEq, Int.reduceBNe, not_false_eq_true, not_true_eq_false, hP]
  first | refine xw_call hE (ks := [0, 1, 2, 6, 7, 8]) (n := 2000) (by rw [hP]; exact awake_c) ?_ | refine xd_call hE (ks := [0, 1, 2, 6, 7, 8]) (n := 2000) (by rw [hP]; exact awake_c) ?_
  simp only [go_sem, Nat.reduceAdd, Nat.reduceMul, ↓reduceIte, reduceCtorEq, Nat.reduceLeDiff, Int.reduceToNat, Int.reduceLT, Int.reduceLE, Int.reduceEq, Int.reduceNe, Int.reduceBEq, Int.reduceBNe, not_false_eq_true, not_true_eq_false, hP]
  first | kernel_rfl | exact ⟨by kernel_rfl, trivial⟩ | trivial

set_option maxHeartbeats 2000000 in
theorem appends_c (n : Int) (l : List Int) (r budget s : Int) : FPure Try.prog 7 [.i n, .p (.data 1 l.length (l.map it)), .i r, .i budget, .i s] (.b true) := by
  refine fpure_x hmix Try.func7 rfl (by kernel_rfl) Try.ntmps7 Try.results7 (by simp) (by simp [idsL, idsA]) [0, 1, 2, 3, 4, 10, 11, 12, 13, 14, 15, 16, 17, 18, 30] ?_; intro c hP h0 hE
  simp only [go_sem, Nat.reduceAdd, Nat.reduceMul, ↓reduceIte, reduceCtorEq, Nat.reduceLeDiff, Int.reduceToNat, Int.reduceLT, Int.reduceLE, Int.reduceEq, Int.reduceNe, Int.reduceBEq, Int.reduceBNe, not_false_eq_true, not_true_eq_false, hP]
  first | refine xw_call hE (ks := [0, 1, 2, 3, 4, 10, 11, 12, 13, 14, 15, 16, 17, 18, 30]) (n := 2000) (by rw [hP]; exact lmade_c n l _ rfl) ?_ | refine xd_call hE (ks := [0, 1, 2, 3, 4, 10, 11, 12, 13, 14, 15, 16, 17, 18, 30]) (n := 2000) (by rw [hP]; exact lmade_c n l _ rfl) ?_
  have hm := made_ok n l
  have hok := hm.len
  generalize madeM n l = j at *
  simp only [go_sem, Nat.reduceAdd, Nat.reduceMul, ↓reduceIte, reduceCtorEq, Nat.reduceLeDiff, Int.reduceToNat, Int.reduceLT, Int.reduceLE, Int.reduceEq, Int.reduceNe, Int.reduceBEq, Int.reduceBNe, not_false_eq_true, not_true_eq_false, hP]
  first | refine xw_call hE (ks := [0, 1, 2, 3, 4, 10, 11, 12, 13, 14, 15, 16, 17, 18, 30]) (n := 2000) (by rw [hP]; exact lspoil_c j _ rfl hok.1 (by omega) s) ?_ | refine xd_call hE (ks := [0, 1, 2, 3, 4, 10, 11, 12, 13, 14, 15, 16, 17, 18, 30]) (n := 2000) (by rw [hP]; exact lspoil_c j _ rfl hok.1 (by omega) s) ?_
  have hsl := spoilM_len j s
  generalize spoilM j s = x at *
  simp only [go_sem, Nat.reduceAdd, Nat.reduceMul, ↓reduceIte, reduceCtorEq, Nat.reduceLeDiff, Int.reduceToNat, Int.reduceLT, Int.reduceLE, Int.reduceEq, Int.reduceNe, Int.reduceBEq, Int.reduceBNe, not_false_eq_true, not_true_eq_false, hP]
  have hrl := recSz_lt (band .i64 r 65535)
  have hrl2 := recordM_len (band .i64 r 65535)
  first | refine xw_call hE (ks := [0, 1, 2, 3, 4, 10, 11, 12, 13, 14, 15, 16, 17, 18, 30]) (n := 2000) (by rw [hP]; exact lrecord_c (band .i64 r 65535)) ?_ | refine xd_call hE (ks := [0, 1, 2, 3, 4, 10, 11, 12, 13, 14, 15, 16, 17, 18, 30]) (n := 2000) (by rw [hP]; exact lrecord_c (band .i64 r 65535)) ?_
  simp only [go_sem, Nat.reduceAdd, Nat.reduceMul, ↓reduceIte, reduceCtorEq, Nat.reduceLeDiff, Int.reduceToNat, Int.reduceLT, Int.reduceLE, Int.reduceEq, Int.reduceNe, Int.reduceBEq, Int.reduceBNe, not_false_eq_true, not_true_eq_false, hP]
  have hb1 := band_bd budget 511 (by decide) (by decide)
  have hb2 := band_bd (ishr .i64 r 20) 3 (by decide) (by decide)
  obtain ⟨m, hmm⟩ : ∃ m : Nat, 255 + band .i64 (ishr .i64 r 20) 3 = (m : Int) := Int.eq_ofNat_of_zero_le (by omega)
  obtain ⟨B, hw⟩ : ∃ B, IntKind.i64.wrap (band .i64 budget 511 - 100) = B := ⟨_, rfl⟩
  have hBB : i64 B := by rw [← hw, wrap_i64_id (by omega) (by omega)]; unfold i64; omega
  rw [hw, wrap_i64_id (n := 255 + band .i64 (ishr .i64 r 20) 3) (by omega) (by omega), hmm, Int.toNat_natCast, cb_rep]
  have hlr : (List.replicate m (0 : UInt8)).length = m := List.length_replicate
  have htr : (List.replicate m (0 : UInt8)).take m = List.replicate m 0 := List.take_of_length_le (by omega)
  split
  · refine ⟨⟨by omega, by omega, by omega, by omega⟩, ?_⟩
    refine xw_frz hE (ks := [0, 1, 2, 3, 4, 10, 11, 12, 13, 14, 15, 16, 17, 18, 30]) (n := 2000) 1 ?_ ?_
    · simp only [go_sem, Nat.reduceAdd, Nat.reduceMul, ↓reduceIte, reduceCtorEq, Nat.reduceLeDiff, Int.reduceToNat, Int.reduceLT, Int.reduceLE, Int.reduceEq, Int.reduceNe, Int.reduceBEq, Int.reduceBNe, not_false_eq_true, not_true_eq_false, hP]
      omega
    · simp only [go_sem, Nat.reduceAdd, Nat.reduceMul, ↓reduceIte, reduceCtorEq, Nat.reduceLeDiff, Int.reduceToNat, Int.reduceLT, Int.reduceLE, Int.reduceEq, Int.reduceNe, Int.reduceBEq, Int.reduceBNe, not_false_eq_true, not_true_eq_false, hP, htr, hw]
      first | refine xw_call hE (ks := [0, 1, 2, 3, 4, 10, 11, 12, 13, 14, 15, 16, 17, 18, 30]) (n := 2000) (by rw [hP]; exact jAppend_c x _ (List.replicate m 0) _ B rfl (by omega) hlr (by omega) hBB) ?_ | refine xd_call hE (ks := [0, 1, 2, 3, 4, 10, 11, 12, 13, 14, 15, 16, 17, 18, 30]) (n := 2000) (by rw [hP]; exact jAppend_c x _ (List.replicate m 0) _ B rfl (by omega) hlr (by omega) hBB) ?_
      rw [append_law]
      simp only [go_sem, Nat.reduceAdd, Nat.reduceMul, ↓reduceIte, reduceCtorEq, Nat.reduceLeDiff, Int.reduceToNat, Int.reduceLT, Int.reduceLE, Int.reduceEq, Int.reduceNe, Int.reduceBEq, Int.reduceBNe, not_false_eq_true, not_true_eq_false, hP, hw]
      first | refine xw_call hE (ks := [0, 1, 2, 3, 4, 10, 11, 12, 13, 14, 15, 16, 17, 18, 30]) (n := 2000) (by rw [hP]; exact rAppend_c x _ (List.replicate m 0) _ B rfl (by omega) hlr (by omega) hBB) ?_ | refine xd_call hE (ks := [0, 1, 2, 3, 4, 10, 11, 12, 13, 14, 15, 16, 17, 18, 30]) (n := 2000) (by rw [hP]; exact rAppend_c x _ (List.replicate m 0) _ B rfl (by omega) hlr (by omega) hBB) ?_
      generalize rappendM x (List.replicate m 0) B = G
      simp only [go_sem, Nat.reduceAdd, Nat.reduceMul, ↓reduceIte, reduceCtorEq, Nat.reduceLeDiff, Int.reduceToNat, Int.reduceLT, Int.reduceLE, Int.reduceEq, Int.reduceNe, Int.reduceBEq, Int.reduceBNe, not_false_eq_true, not_true_eq_false, hP]
      first | refine xw_call hE (ks := [0, 1, 2, 3, 4, 10, 11, 12, 13, 14, 15, 16, 17, 18, 30]) (n := 2000) (by rw [hP]; exact same_c G.j G.j G.left G.left G.err G.err _ _) ?_ | refine xd_call hE (ks := [0, 1, 2, 3, 4, 10, 11, 12, 13, 14, 15, 16, 17, 18, 30]) (n := 2000) (by rw [hP]; exact same_c G.j G.j G.left G.left G.err G.err _ _) ?_
      simp only [sameJ_self, beq_self_eq_true, Bool.and_self]
      simp only [go_sem, Nat.reduceAdd, Nat.reduceMul, ↓reduceIte, reduceCtorEq, Nat.reduceLeDiff, Int.reduceToNat, Int.reduceLT, Int.reduceLE, Int.reduceEq, Int.reduceNe, Int.reduceBEq, Int.reduceBNe, not_false_eq_true, not_true_eq_false, hP]
      first | refine xw_call hE (ks := [0, 1, 2, 3, 4, 10, 11, 12, 13, 14, 15, 16, 17, 18, 30]) (n := 2000) (by rw [hP]; exact awake_c) ?_ | refine xd_call hE (ks := [0, 1, 2, 3, 4, 10, 11, 12, 13, 14, 15, 16, 17, 18, 30]) (n := 2000) (by rw [hP]; exact awake_c) ?_
      simp only [go_sem, Nat.reduceAdd, Nat.reduceMul, ↓reduceIte, reduceCtorEq, Nat.reduceLeDiff, Int.reduceToNat, Int.reduceLT, Int.reduceLE, Int.reduceEq, Int.reduceNe, Int.reduceBEq, Int.reduceBNe, not_false_eq_true, not_true_eq_false, hP]
  · first | refine xw_call hE (ks := [0, 1, 2, 3, 4, 10, 11, 12, 13, 14, 15, 16, 17, 18, 30]) (n := 2000) (by rw [hP]; exact jAppend_c x _ (recordM (band .i64 r 65535)) _ B rfl (by omega) hrl2 (by omega) hBB) ?_ | refine xd_call hE (ks := [0, 1, 2, 3, 4, 10, 11, 12, 13, 14, 15, 16, 17, 18, 30]) (n := 2000) (by rw [hP]; exact jAppend_c x _ (recordM (band .i64 r 65535)) _ B rfl (by omega) hrl2 (by omega) hBB) ?_
    rw [append_law]
    simp only [go_sem, Nat.reduceAdd, Nat.reduceMul, ↓reduceIte, reduceCtorEq, Nat.reduceLeDiff, Int.reduceToNat, Int.reduceLT, Int.reduceLE, Int.reduceEq, Int.reduceNe, Int.reduceBEq, Int.reduceBNe, not_false_eq_true, not_true_eq_false, hP, hw]
    first | refine xw_call hE (ks := [0, 1, 2, 3, 4, 10, 11, 12, 13, 14, 15, 16, 17, 18, 30]) (n := 2000) (by rw [hP]; exact rAppend_c x _ (recordM (band .i64 r 65535)) _ B rfl (by omega) hrl2 (by omega) hBB) ?_ | refine xd_call hE (ks := [0, 1, 2, 3, 4, 10, 11, 12, 13, 14, 15, 16, 17, 18, 30]) (n := 2000) (by rw [hP]; exact rAppend_c x _ (recordM (band .i64 r 65535)) _ B rfl (by omega) hrl2 (by omega) hBB) ?_
    generalize rappendM x (recordM (band .i64 r 65535)) B = G
    simp only [go_sem, Nat.reduceAdd, Nat.reduceMul, ↓reduceIte, reduceCtorEq, Nat.reduceLeDiff, Int.reduceToNat, Int.reduceLT, Int.reduceLE, Int.reduceEq, Int.reduceNe, Int.reduceBEq, Int.reduceBNe, not_false_eq_true, not_true_eq_false, hP]
    first | refine xw_call hE (ks := [0, 1, 2, 3, 4, 10, 11, 12, 13, 14, 15, 16, 17, 18, 30]) (n := 2000) (by rw [hP]; exact same_c G.j G.j G.left G.left G.err G.err _ _) ?_ | refine xd_call hE (ks := [0, 1, 2, 3, 4, 10, 11, 12, 13, 14, 15, 16, 17, 18, 30]) (n := 2000) (by rw [hP]; exact same_c G.j G.j G.left G.left G.err G.err _ _) ?_
    simp only [sameJ_self, beq_self_eq_true, Bool.and_self]
    simp only [go_sem, Nat.reduceAdd, Nat.reduceMul, ↓reduceIte, reduceCtorEq, Nat.reduceLeDiff, Int.reduceToNat, Int.reduceLT, Int.reduceLE, Int.reduceEq, Int.reduceNe, Int.reduceBEq, Int.reduceBNe, not_false_eq_true, not_true_eq_false, hP]
    first | refine xw_call hE (ks := [0, 1, 2, 3, 4, 10, 11, 12, 13, 14, 15, 16, 17, 18, 30]) (n := 2000) (by rw [hP]; exact awake_c) ?_ | refine xd_call hE (ks := [0, 1, 2, 3, 4, 10, 11, 12, 13, 14, 15, 16, 17, 18, 30]) (n := 2000) (by rw [hP]; exact awake_c) ?_
    simp only [go_sem, Nat.reduceAdd, Nat.reduceMul, ↓reduceIte, reduceCtorEq, Nat.reduceLeDiff, Int.reduceToNat, Int.reduceLT, Int.reduceLE, Int.reduceEq, Int.reduceNe, Int.reduceBEq, Int.reduceBNe, not_false_eq_true, not_true_eq_false, hP]

end Go.Proofs.Ytpelcbonflijhaa

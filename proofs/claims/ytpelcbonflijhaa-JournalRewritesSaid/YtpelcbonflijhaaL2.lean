/-
  The laws JournalSurvives, JournalReplaces: the contracts of their functions. Own work.
-/
import Derived.Test.YtpelcbonflijhaaLe
namespace Go.Proofs.Ytpelcbonflijhaa
set_option linter.unusedSimpArgs false
set_option linter.unusedVariables false
open Go Go.Abs Go.RowKit

theorem u16_wf {z : Int} (h : (Lit.int .u16 z).wf = true) : 0 ≤ z ∧ z ≤ 65535 := by
  have hmin : IntKind.u16.min = 0 := rfl
  have hmax : IntKind.u16.max = 65535 := rfl
  simpa only [Lit.wf, hmin, hmax, Bool.and_eq_true, decide_eq_true_eq] using h
theorem rewrite_lenM (j : Jn) (l : List (List UInt8)) (budget : Int) (hB : i64 budget) (hb : j.bs.length < 1000000000) (hl : ∀ b, b ∈ l → b.length < 1000000) : (rewriteM j l budget).j.bs.length ≤ j.bs.length := by
  rw [rewrite_law]; exact rrewrite_len j l budget hB hb hl
theorem append_lenM (j : Jn) (b : List UInt8) (budget : Int) (hB : i64 budget) (hb : j.bs.length < 1000000000) (hl : b.length < 1000000) : (appendM j b budget).j.bs.length ≤ j.bs.length := by
  rw [append_law]; exact rappend_len j b budget hB hb hl
theorem mount_len (f : Fl) : (mountM f).j.bs.length ≤ f.bs.length := by
  by_cases h : (mountM f).err = 0
  · have := mount_fl h
    have e : (mountM f).j.bs = f.bs := congrArg Fl.bs this
    rw [e]; exact Nat.le_refl _
  · have : (mountM f).j = jn0 := by
      unfold mountM at h ⊢
      split
      · rfl
      · rename_i h1
        rw [if_neg h1] at h
        split
        · rename_i h2; rw [if_pos h2] at h; exact absurd rfl h
        · rename_i h2
          rw [if_neg h2] at h
          split
          · rfl
          · rename_i h3; rw [if_neg h3] at h; exact absurd rfl h
    rw [this]; simp [jn0]

set_option maxHeartbeats 2000000 in
theorem replaces_c (n : Int) (l : List Int) (r z : Int) (hz : 0 ≤ z ∧ z ≤ 65535) : FPure Try.prog 10 [.i n, .p (.data 1 l.length (l.map it)), .i r, .p (.v (.int .u16 z))] (.b true) := by
  refine fpure_x hmix Try.func10 rfl (by kernel_rfl) Try.ntmps10 Try.results10 (by simp) (by simp [idsL, idsA]) [0, 1, 2, 3, 8, 9, 10, 11, 12, 13, 14, 15, 16, 17, 20, 47, 48, 74] ?_; intro c hP h0 hE
  simp only [go_sem, Nat.reduceAdd, Nat.reduceMul, ↓reduceIte, reduceCtorEq, Nat.reduceLeDiff, Int.reduceToNat, Int.reduceLT, Int.reduceLE, Int.reduceEq, Int.reduceNe, Int.reduceBEq, Int.reduceBNe, not_false_eq_true, not_true_eq_false, hP]
  first | refine xw_call hE (ks := [0, 1, 2, 3, 8, 9, 10, 11, 12, 13, 14, 15, 16, 17, 20, 47, 48, 74]) (n := 2000) (by rw [hP]; exact lmade_c n l _ rfl) ?_ | refine xd_call hE (ks := [0, 1, 2, 3, 8, 9, 10, 11, 12, 13, 14, 15, 16, 17, 20, 47, 48, 74]) (n := 2000) (by rw [hP]; exact lmade_c n l _ rfl) ?_
  have hm := made_ok n l
  have hok := hm.len
  generalize madeM n l = j at *
  simp only [go_sem, Nat.reduceAdd, Nat.reduceMul, ↓reduceIte, reduceCtorEq, Nat.reduceLeDiff, Int.reduceToNat, Int.reduceLT, Int.reduceLE, Int.reduceEq, Int.reduceNe, Int.reduceBEq, Int.reduceBNe, not_false_eq_true, not_true_eq_false, hP]
  first | refine xw_call hE (ks := [0, 1, 2, 3, 8, 9, 10, 11, 12, 13, 14, 15, 16, 17, 20, 47, 48, 74]) (n := 2000) (by rw [hP]; exact rRecords_c j _ rfl (by omega)) ?_ | refine xd_call hE (ks := [0, 1, 2, 3, 8, 9, 10, 11, 12, 13, 14, 15, 16, 17, 20, 47, 48, 74]) (n := 2000) (by rw [hP]; exact rRecords_c j _ rfl (by omega)) ?_
  simp only [go_sem, Nat.reduceAdd, Nat.reduceMul, ↓reduceIte, reduceCtorEq, Nat.reduceLeDiff, Int.reduceToNat, Int.reduceLT, Int.reduceLE, Int.reduceEq, Int.reduceNe, Int.reduceBEq, Int.reduceBNe, not_false_eq_true, not_true_eq_false, hP]
  first | refine xw_call hE (ks := [0, 1, 2, 3, 8, 9, 10, 11, 12, 13, 14, 15, 16, 17, 20, 47, 48, 74]) (n := 2000) (by rw [hP]; exact lrecords_c (band .i64 r 16777215)) ?_ | refine xd_call hE (ks := [0, 1, 2, 3, 8, 9, 10, 11, 12, 13, 14, 15, 16, 17, 20, 47, 48, 74]) (n := 2000) (by rw [hP]; exact lrecords_c (band .i64 r 16777215)) ?_
  have hxl := recordsM_len (band .i64 r 16777215)
  have hxb := recordsM_le (band .i64 r 16777215)
  generalize recordsM (band .i64 r 16777215) = x at *
  simp only [go_sem, Nat.reduceAdd, Nat.reduceMul, ↓reduceIte, reduceCtorEq, Nat.reduceLeDiff, Int.reduceToNat, Int.reduceLT, Int.reduceLE, Int.reduceEq, Int.reduceNe, Int.reduceBEq, Int.reduceBNe, not_false_eq_true, not_true_eq_false, hP]
  have hz1 := Int.tmod_nonneg (2000 : Int) hz.1
  have hz2 := Int.tmod_lt_of_pos z (show (0 : Int) < 2000 by decide)
  rw [wrap_i64_id (n := z.tmod 2000) (by omega) (by omega)]
  have hB : i64 (z.tmod 2000) := by unfold i64; omega
  generalize z.tmod 2000 = B at *
  have hel : ∀ b, b ∈ x → b.length < 1000000 := fun b hb => by have := hxb b hb; omega
  first | refine xw_call hE (ks := [0, 1, 2, 3, 8, 9, 10, 11, 12, 13, 14, 15, 16, 17, 20, 47, 48, 74]) (n := 2000) (by rw [hP]; exact jRewrite_c j _ x _ B rfl (by omega) rfl (by omega) hel hB) ?_ | refine xd_call hE (ks := [0, 1, 2, 3, 8, 9, 10, 11, 12, 13, 14, 15, 16, 17, 20, 47, 48, 74]) (n := 2000) (by rw [hP]; exact jRewrite_c j _ x _ B rfl (by omega) rfl (by omega) hel hB) ?_
  have hends := rewrite_ends hm x B
  have hlen := rewrite_lenM j x B hB (by omega) hel
  generalize rewriteM j x B = G at *
  simp only [go_sem, Nat.reduceAdd, Nat.reduceMul, ↓reduceIte, reduceCtorEq, Nat.reduceLeDiff, Int.reduceToNat, Int.reduceLT, Int.reduceLE, Int.reduceEq, Int.reduceNe, Int.reduceBEq, Int.reduceBNe, not_false_eq_true, not_true_eq_false, hP]
  first | refine xw_call hE (ks := [0, 1, 2, 3, 8, 9, 10, 11, 12, 13, 14, 15, 16, 17, 20, 47, 48, 74]) (n := 2000) (by rw [hP]; exact jMount_c G.j.ps G.j.bs _ rfl (by omega)) ?_ | refine xd_call hE (ks := [0, 1, 2, 3, 8, 9, 10, 11, 12, 13, 14, 15, 16, 17, 20, 47, 48, 74]) (n := 2000) (by rw [hP]; exact jMount_c G.j.ps G.j.bs _ rfl (by omega)) ?_
  have hmf : mountM (flOf G.j) = mountM ⟨G.j.ps, G.j.bs⟩ := rfl
  have hml := mount_len (flOf G.j)
  have hfb : (flOf G.j).bs = G.j.bs := rfl
  rw [hfb] at hml
  rw [← hmf]
  generalize mountM (flOf G.j) = M at *
  simp only [go_sem, Nat.reduceAdd, Nat.reduceMul, ↓reduceIte, reduceCtorEq, Nat.reduceLeDiff, Int.reduceToNat, Int.reduceLT, Int.reduceLE, Int.reduceEq, Int.reduceNe, Int.reduceBEq, Int.reduceBNe, not_false_eq_true, not_true_eq_false, hP]
  first | refine xw_call hE (ks := [0, 1, 2, 3, 8, 9, 10, 11, 12, 13, 14, 15, 16, 17, 20, 47, 48, 74]) (n := 2000) (by rw [hP]; exact jRecords_c M.j _ rfl (by omega)) ?_ | refine xd_call hE (ks := [0, 1, 2, 3, 8, 9, 10, 11, 12, 13, 14, 15, 16, 17, 20, 47, 48, 74]) (n := 2000) (by rw [hP]; exact jRecords_c M.j _ rfl (by omega)) ?_
  have hrl := recs_len M.j (by omega)
  have hrj := recs_len j (by omega)
  generalize hnow : recsM M.j = now at *
  simp only [go_sem, Nat.reduceAdd, Nat.reduceMul, ↓reduceIte, reduceCtorEq, Nat.reduceLeDiff, Int.reduceToNat, Int.reduceLT, Int.reduceLE, Int.reduceEq, Int.reduceNe, Int.reduceBEq, Int.reduceBNe, not_false_eq_true, not_true_eq_false, hP]
  rcases hends with ⟨h1, h2, h3, h4, h5⟩ | ⟨h1, h2, h3, h4⟩ | ⟨h1, h2, h3⟩
  · subst h2
    simp only at hnow
    rw [if_pos h1, if_pos rfl, if_pos (h5 hz1)]
    first | refine xw_call hE (ks := [0, 1, 2, 3, 8, 9, 10, 11, 12, 13, 14, 15, 16, 17, 20, 47, 48, 74]) (n := 2000) (by rw [hP]; exact sameJournal_c G.j G.j _ _) ?_ | refine xd_call hE (ks := [0, 1, 2, 3, 8, 9, 10, 11, 12, 13, 14, 15, 16, 17, 20, 47, 48, 74]) (n := 2000) (by rw [hP]; exact sameJournal_c G.j G.j _ _) ?_
    rw [sameJ_self]
    simp only [go_sem, Nat.reduceAdd, Nat.reduceMul, ↓reduceIte, reduceCtorEq, Nat.reduceLeDiff, Int.reduceToNat, Int.reduceLT, Int.reduceLE, Int.reduceEq, Int.reduceNe, Int.reduceBEq, Int.reduceBNe, not_false_eq_true, not_true_eq_false, hP, h3]
    first | refine xw_call hE (ks := [0, 1, 2, 3, 8, 9, 10, 11, 12, 13, 14, 15, 16, 17, 20, 47, 48, 74]) (n := 2000) (by rw [hP]; exact sameBytes_c now x _ _ rfl rfl (by omega)) ?_ | refine xd_call hE (ks := [0, 1, 2, 3, 8, 9, 10, 11, 12, 13, 14, 15, 16, 17, 20, 47, 48, 74]) (n := 2000) (by rw [hP]; exact sameBytes_c now x _ _ rfl rfl (by omega)) ?_
    rw [← hnow, h4, beq_self_eq_true]
    simp only [go_sem, Nat.reduceAdd, Nat.reduceMul, ↓reduceIte, reduceCtorEq, Nat.reduceLeDiff, Int.reduceToNat, Int.reduceLT, Int.reduceLE, Int.reduceEq, Int.reduceNe, Int.reduceBEq, Int.reduceBNe, not_false_eq_true, not_true_eq_false, hP]
    first | refine xw_call hE (ks := [0, 1, 2, 3, 8, 9, 10, 11, 12, 13, 14, 15, 16, 17, 20, 47, 48, 74]) (n := 2000) (by rw [hP]; exact awake_c) ?_ | refine xd_call hE (ks := [0, 1, 2, 3, 8, 9, 10, 11, 12, 13, 14, 15, 16, 17, 20, 47, 48, 74]) (n := 2000) (by rw [hP]; exact awake_c) ?_
    simp only [go_sem, Nat.reduceAdd, Nat.reduceMul, ↓reduceIte, reduceCtorEq, Nat.reduceLeDiff, Int.reduceToNat, Int.reduceLT, Int.reduceLE, Int.reduceEq, Int.reduceNe, Int.reduceBEq, Int.reduceBNe, not_false_eq_true, not_true_eq_false, hP]
  · rw [if_neg (by omega), if_pos h1, if_pos h3, if_pos h2]
    first | refine xw_call hE (ks := [0, 1, 2, 3, 8, 9, 10, 11, 12, 13, 14, 15, 16, 17, 20, 47, 48, 74]) (n := 2000) (by rw [hP]; exact sameBytes_c now (recsM j) _ _ rfl rfl (by omega)) ?_ | refine xd_call hE (ks := [0, 1, 2, 3, 8, 9, 10, 11, 12, 13, 14, 15, 16, 17, 20, 47, 48, 74]) (n := 2000) (by rw [hP]; exact sameBytes_c now (recsM j) _ _ rfl rfl (by omega)) ?_
    by_cases hc : now = recsM j
    · rw [hc, beq_self_eq_true]
      simp only [go_sem, Nat.reduceAdd, Nat.reduceMul, ↓reduceIte, reduceCtorEq, Nat.reduceLeDiff, Int.reduceToNat, Int.reduceLT, Int.reduceLE, Int.reduceEq, Int.reduceNe, Int.reduceBEq, Int.reduceBNe, not_false_eq_true, not_true_eq_false, hP]
      first | refine xw_call hE (ks := [0, 1, 2, 3, 8, 9, 10, 11, 12, 13, 14, 15, 16, 17, 20, 47, 48, 74]) (n := 2000) (by rw [hP]; exact awake_c) ?_ | refine xd_call hE (ks := [0, 1, 2, 3, 8, 9, 10, 11, 12, 13, 14, 15, 16, 17, 20, 47, 48, 74]) (n := 2000) (by rw [hP]; exact awake_c) ?_
      simp only [go_sem, Nat.reduceAdd, Nat.reduceMul, ↓reduceIte, reduceCtorEq, Nat.reduceLeDiff, Int.reduceToNat, Int.reduceLT, Int.reduceLE, Int.reduceEq, Int.reduceNe, Int.reduceBEq, Int.reduceBNe, not_false_eq_true, not_true_eq_false, hP]
    · have h4 : now = x := h4.resolve_left hc
      have hb : (now == recsM j) = false := by simpa using hc
      rw [hb]
      simp only [go_sem, Nat.reduceAdd, Nat.reduceMul, ↓reduceIte, reduceCtorEq, Nat.reduceLeDiff, Int.reduceToNat, Int.reduceLT, Int.reduceLE, Int.reduceEq, Int.reduceNe, Int.reduceBEq, Int.reduceBNe, not_false_eq_true, not_true_eq_false, hP]
      first | refine xw_call hE (ks := [0, 1, 2, 3, 8, 9, 10, 11, 12, 13, 14, 15, 16, 17, 20, 47, 48, 74]) (n := 2000) (by rw [hP]; exact sameBytes_c now x _ _ rfl rfl (by omega)) ?_ | refine xd_call hE (ks := [0, 1, 2, 3, 8, 9, 10, 11, 12, 13, 14, 15, 16, 17, 20, 47, 48, 74]) (n := 2000) (by rw [hP]; exact sameBytes_c now x _ _ rfl rfl (by omega)) ?_
      rw [h4, beq_self_eq_true]
      simp only [go_sem, Nat.reduceAdd, Nat.reduceMul, ↓reduceIte, reduceCtorEq, Nat.reduceLeDiff, Int.reduceToNat, Int.reduceLT, Int.reduceLE, Int.reduceEq, Int.reduceNe, Int.reduceBEq, Int.reduceBNe, not_false_eq_true, not_true_eq_false, hP]
      first | refine xw_call hE (ks := [0, 1, 2, 3, 8, 9, 10, 11, 12, 13, 14, 15, 16, 17, 20, 47, 48, 74]) (n := 2000) (by rw [hP]; exact awake_c) ?_ | refine xd_call hE (ks := [0, 1, 2, 3, 8, 9, 10, 11, 12, 13, 14, 15, 16, 17, 20, 47, 48, 74]) (n := 2000) (by rw [hP]; exact awake_c) ?_
      simp only [go_sem, Nat.reduceAdd, Nat.reduceMul, ↓reduceIte, reduceCtorEq, Nat.reduceLeDiff, Int.reduceToNat, Int.reduceLT, Int.reduceLE, Int.reduceEq, Int.reduceNe, Int.reduceBEq, Int.reduceBNe, not_false_eq_true, not_true_eq_false, hP]
  · rw [if_neg h1, if_neg h2]
    first | refine xw_call hE (ks := [0, 1, 2, 3, 8, 9, 10, 11, 12, 13, 14, 15, 16, 17, 20, 47, 48, 74]) (n := 2000) (by rw [hP]; exact rRewrite_c j _ x _ (-1) rfl (by omega) rfl (by omega) hel (by unfold i64; decide)) ?_ | refine xd_call hE (ks := [0, 1, 2, 3, 8, 9, 10, 11, 12, 13, 14, 15, 16, 17, 20, 47, 48, 74]) (n := 2000) (by rw [hP]; exact rRewrite_c j _ x _ (-1) rfl (by omega) rfl (by omega) hel (by unfold i64; decide)) ?_
    rw [rewrite_law] at h3
    generalize rrewriteM j x (-1) = K at *
    simp only [go_sem, Nat.reduceAdd, Nat.reduceMul, ↓reduceIte, reduceCtorEq, Nat.reduceLeDiff, Int.reduceToNat, Int.reduceLT, Int.reduceLE, Int.reduceEq, Int.reduceNe, Int.reduceBEq, Int.reduceBNe, not_false_eq_true, not_true_eq_false, hP, h3]
    rw [if_pos (by rw [← h3]; exact h1)]
    first | refine xw_call hE (ks := [0, 1, 2, 3, 8, 9, 10, 11, 12, 13, 14, 15, 16, 17, 20, 47, 48, 74]) (n := 2000) (by rw [hP]; exact awake_c) ?_ | refine xd_call hE (ks := [0, 1, 2, 3, 8, 9, 10, 11, 12, 13, 14, 15, 16, 17, 20, 47, 48, 74]) (n := 2000) (by rw [hP]; exact awake_c) ?_
    simp only [go_sem, Nat.reduceAdd, Nat.reduceMul, ↓reduceIte, reduceCtorEq, Nat.reduceLeDiff, Int.reduceToNat, Int.reduceLT, Int.reduceLE, Int.reduceEq, Int.reduceNe, Int.reduceBEq, Int.reduceBNe, not_false_eq_true, not_true_eq_false, hP]

set_option maxHeartbeats 2000000 in
theorem survives_c (n : Int) (l : List Int) (r z : Int) (hz : 0 ≤ z ∧ z ≤ 65535) : FPure Try.prog 8 [.i n, .p (.data 1 l.length (l.map it)), .i r, .p (.v (.int .u16 z))] (.b true) := by
  refine fpure_x hmix Try.func8 rfl (by kernel_rfl) Try.ntmps8 Try.results8 (by simp) (by simp [idsL, idsA]) [0, 1, 2, 3, 8, 9, 10, 11, 12, 13, 14, 15, 16, 17, 18, 21, 54, 55, 76] ?_; intro c hP h0 hE
  simp only [go_sem, Nat.reduceAdd, Nat.reduceMul, ↓reduceIte, reduceCtorEq, Nat.reduceLeDiff, Int.reduceToNat, Int.reduceLT, Int.reduceLE, Int.reduceEq, Int.reduceNe, Int.reduceBEq, Int.reduceBNe, not_false_eq_true, not_true_eq_false, hP]
  first | refine xw_call hE (ks := [0, 1, 2, 3, 8, 9, 10, 11, 12, 13, 14, 15, 16, 17, 18, 21, 54, 55, 76]) (n := 2000) (by rw [hP]; exact lmade_c n l _ rfl) ?_ | refine xd_call hE (ks := [0, 1, 2, 3, 8, 9, 10, 11, 12, 13, 14, 15, 16, 17, 18, 21, 54, 55, 76]) (n := 2000) (by rw [hP]; exact lmade_c n l _ rfl) ?_
  have hm := made_ok n l
  have hok := hm.len
  generalize madeM n l = j at *
  simp only [go_sem, Nat.reduceAdd, Nat.reduceMul, ↓reduceIte, reduceCtorEq, Nat.reduceLeDiff, Int.reduceToNat, Int.reduceLT, Int.reduceLE, Int.reduceEq, Int.reduceNe, Int.reduceBEq, Int.reduceBNe, not_false_eq_true, not_true_eq_false, hP]
  first | refine xw_call hE (ks := [0, 1, 2, 3, 8, 9, 10, 11, 12, 13, 14, 15, 16, 17, 18, 21, 54, 55, 76]) (n := 2000) (by rw [hP]; exact rRecords_c j _ rfl (by omega)) ?_ | refine xd_call hE (ks := [0, 1, 2, 3, 8, 9, 10, 11, 12, 13, 14, 15, 16, 17, 18, 21, 54, 55, 76]) (n := 2000) (by rw [hP]; exact rRecords_c j _ rfl (by omega)) ?_
  have hrj := recs_len j (by omega)
  simp only [go_sem, Nat.reduceAdd, Nat.reduceMul, ↓reduceIte, reduceCtorEq, Nat.reduceLeDiff, Int.reduceToNat, Int.reduceLT, Int.reduceLE, Int.reduceEq, Int.reduceNe, Int.reduceBEq, Int.reduceBNe, not_false_eq_true, not_true_eq_false, hP]
  first | refine xw_call hE (ks := [0, 1, 2, 3, 8, 9, 10, 11, 12, 13, 14, 15, 16, 17, 18, 21, 54, 55, 76]) (n := 2000) (by rw [hP]; exact lrecord_c (bor .i64 (band .i64 r 65535) 1)) ?_ | refine xd_call hE (ks := [0, 1, 2, 3, 8, 9, 10, 11, 12, 13, 14, 15, 16, 17, 18, 21, 54, 55, 76]) (n := 2000) (by rw [hP]; exact lrecord_c (bor .i64 (band .i64 r 65535) 1)) ?_
  have hrl := recSz_lt (bor .i64 (band .i64 r 65535) 1)
  rw [← recordM_len] at hrl ⊢
  generalize recordM (bor .i64 (band .i64 r 65535) 1) = b at *
  simp only [go_sem, Nat.reduceAdd, Nat.reduceMul, ↓reduceIte, reduceCtorEq, Nat.reduceLeDiff, Int.reduceToNat, Int.reduceLT, Int.reduceLE, Int.reduceEq, Int.reduceNe, Int.reduceBEq, Int.reduceBNe, not_false_eq_true, not_true_eq_false, hP]
  have hz1 := Int.tmod_nonneg (300 : Int) hz.1
  have hz2 := Int.tmod_lt_of_pos z (show (0 : Int) < 300 by decide)
  rw [wrap_i64_id (n := z.tmod 300) (by omega) (by omega)]
  have hB : i64 (z.tmod 300) := by unfold i64; omega
  generalize z.tmod 300 = B at *
  first | refine xw_call hE (ks := [0, 1, 2, 3, 8, 9, 10, 11, 12, 13, 14, 15, 16, 17, 18, 21, 54, 55, 76]) (n := 2000) (by rw [hP]; exact jAppend_c j _ b _ B rfl (by omega) rfl (by omega) hB) ?_ | refine xd_call hE (ks := [0, 1, 2, 3, 8, 9, 10, 11, 12, 13, 14, 15, 16, 17, 18, 21, 54, 55, 76]) (n := 2000) (by rw [hP]; exact jAppend_c j _ b _ B rfl (by omega) rfl (by omega) hB) ?_
  have hends := append_ends hm b B
  have hlen := append_lenM j b B hB (by omega) (by omega)
  generalize appendM j b B = G at *
  simp only [go_sem, Nat.reduceAdd, Nat.reduceMul, ↓reduceIte, reduceCtorEq, Nat.reduceLeDiff, Int.reduceToNat, Int.reduceLT, Int.reduceLE, Int.reduceEq, Int.reduceNe, Int.reduceBEq, Int.reduceBNe, not_false_eq_true, not_true_eq_false, hP]
  first | refine xw_call hE (ks := [0, 1, 2, 3, 8, 9, 10, 11, 12, 13, 14, 15, 16, 17, 18, 21, 54, 55, 76]) (n := 2000) (by rw [hP]; exact jMount_c G.j.ps G.j.bs _ rfl (by omega)) ?_ | refine xd_call hE (ks := [0, 1, 2, 3, 8, 9, 10, 11, 12, 13, 14, 15, 16, 17, 18, 21, 54, 55, 76]) (n := 2000) (by rw [hP]; exact jMount_c G.j.ps G.j.bs _ rfl (by omega)) ?_
  have hmf : mountM (flOf G.j) = mountM ⟨G.j.ps, G.j.bs⟩ := rfl
  have hml := mount_len (flOf G.j)
  have hfb : (flOf G.j).bs = G.j.bs := rfl
  rw [hfb] at hml
  rw [← hmf]
  generalize mountM (flOf G.j) = M at *
  simp only [go_sem, Nat.reduceAdd, Nat.reduceMul, ↓reduceIte, reduceCtorEq, Nat.reduceLeDiff, Int.reduceToNat, Int.reduceLT, Int.reduceLE, Int.reduceEq, Int.reduceNe, Int.reduceBEq, Int.reduceBNe, not_false_eq_true, not_true_eq_false, hP]
  first | refine xw_call hE (ks := [0, 1, 2, 3, 8, 9, 10, 11, 12, 13, 14, 15, 16, 17, 18, 21, 54, 55, 76]) (n := 2000) (by rw [hP]; exact jRecords_c M.j _ rfl (by omega)) ?_ | refine xd_call hE (ks := [0, 1, 2, 3, 8, 9, 10, 11, 12, 13, 14, 15, 16, 17, 18, 21, 54, 55, 76]) (n := 2000) (by rw [hP]; exact jRecords_c M.j _ rfl (by omega)) ?_
  have hrl := recs_len M.j (by omega)
  generalize hnow : recsM M.j = now at *
  generalize recsM j = old at *
  simp only [go_sem, Nat.reduceAdd, Nat.reduceMul, ↓reduceIte, reduceCtorEq, Nat.reduceLeDiff, Int.reduceToNat, Int.reduceLT, Int.reduceLE, Int.reduceEq, Int.reduceNe, Int.reduceBEq, Int.reduceBNe, not_false_eq_true, not_true_eq_false, hP]
  rw [← byL_map, byL_snoc]
  refine ⟨⟨by omega, by omega⟩, ⟨by omega, by omega⟩, ?_⟩
  have hwl : (old ++ [b]).length = old.length + 1 := by simp
  have htk : (old ++ [b]).take (old.length + 1) = old ++ [b] := List.take_of_length_le (by omega)
  rcases hends with ⟨h1, h2, h4, h5⟩ | ⟨h1, h2, h3, h4⟩ | ⟨h1, h2, h3⟩
  · subst h2
    rw [if_pos h1, if_pos rfl, if_pos (h5 hz1)]
    first | refine xw_call hE (ks := [0, 1, 2, 3, 8, 9, 10, 11, 12, 13, 14, 15, 16, 17, 18, 21, 54, 55, 76]) (n := 2000) (by rw [hP]; exact sameJournal_c G.j G.j _ _) ?_ | refine xd_call hE (ks := [0, 1, 2, 3, 8, 9, 10, 11, 12, 13, 14, 15, 16, 17, 18, 21, 54, 55, 76]) (n := 2000) (by rw [hP]; exact sameJournal_c G.j G.j _ _) ?_
    rw [sameJ_self]
    simp only [go_sem, Nat.reduceAdd, Nat.reduceMul, ↓reduceIte, reduceCtorEq, Nat.reduceLeDiff, Int.reduceToNat, Int.reduceLT, Int.reduceLE, Int.reduceEq, Int.reduceNe, Int.reduceBEq, Int.reduceBNe, not_false_eq_true, not_true_eq_false, hP]
    refine xw_frz hE (ks := [0, 1, 2, 3, 8, 9, 10, 11, 12, 13, 14, 15, 16, 17, 18, 21, 54, 55, 76]) (n := 2000) 5 ?_ ?_
    · simp only [go_sem, Nat.reduceAdd, Nat.reduceMul, ↓reduceIte, reduceCtorEq, Nat.reduceLeDiff, Int.reduceToNat, Int.reduceLT, Int.reduceLE, Int.reduceEq, Int.reduceNe, Int.reduceBEq, Int.reduceBNe, not_false_eq_true, not_true_eq_false, hP]
      omega
    · simp only [go_sem, Nat.reduceAdd, Nat.reduceMul, ↓reduceIte, reduceCtorEq, Nat.reduceLeDiff, Int.reduceToNat, Int.reduceLT, Int.reduceLE, Int.reduceEq, Int.reduceNe, Int.reduceBEq, Int.reduceBNe, not_false_eq_true, not_true_eq_false, hP, htk]
      first | refine xw_call hE (ks := [0, 1, 2, 3, 8, 9, 10, 11, 12, 13, 14, 15, 16, 17, 18, 21, 54, 55, 76]) (n := 2000) (by rw [hP]; exact sameBytes_c now (old ++ [b]) _ _ rfl hwl (by omega)) ?_ | refine xd_call hE (ks := [0, 1, 2, 3, 8, 9, 10, 11, 12, 13, 14, 15, 16, 17, 18, 21, 54, 55, 76]) (n := 2000) (by rw [hP]; exact sameBytes_c now (old ++ [b]) _ _ rfl hwl (by omega)) ?_
      rw [← hnow, h4, beq_self_eq_true]
      simp only [go_sem, Nat.reduceAdd, Nat.reduceMul, ↓reduceIte, reduceCtorEq, Nat.reduceLeDiff, Int.reduceToNat, Int.reduceLT, Int.reduceLE, Int.reduceEq, Int.reduceNe, Int.reduceBEq, Int.reduceBNe, not_false_eq_true, not_true_eq_false, hP]
      first | refine xw_call hE (ks := [0, 1, 2, 3, 8, 9, 10, 11, 12, 13, 14, 15, 16, 17, 18, 21, 54, 55, 76]) (n := 2000) (by rw [hP]; exact awake_c) ?_ | refine xd_call hE (ks := [0, 1, 2, 3, 8, 9, 10, 11, 12, 13, 14, 15, 16, 17, 18, 21, 54, 55, 76]) (n := 2000) (by rw [hP]; exact awake_c) ?_
      simp only [go_sem, Nat.reduceAdd, Nat.reduceMul, ↓reduceIte, reduceCtorEq, Nat.reduceLeDiff, Int.reduceToNat, Int.reduceLT, Int.reduceLE, Int.reduceEq, Int.reduceNe, Int.reduceBEq, Int.reduceBNe, not_false_eq_true, not_true_eq_false, hP]
  · rw [if_neg (by omega), if_pos h1, if_pos h3, if_pos h2]
    first | refine xw_call hE (ks := [0, 1, 2, 3, 8, 9, 10, 11, 12, 13, 14, 15, 16, 17, 18, 21, 54, 55, 76]) (n := 2000) (by rw [hP]; exact sameBytes_c now old _ _ rfl rfl (by omega)) ?_ | refine xd_call hE (ks := [0, 1, 2, 3, 8, 9, 10, 11, 12, 13, 14, 15, 16, 17, 18, 21, 54, 55, 76]) (n := 2000) (by rw [hP]; exact sameBytes_c now old _ _ rfl rfl (by omega)) ?_
    by_cases hc : now = old
    · rw [hc, beq_self_eq_true]
      simp only [go_sem, Nat.reduceAdd, Nat.reduceMul, ↓reduceIte, reduceCtorEq, Nat.reduceLeDiff, Int.reduceToNat, Int.reduceLT, Int.reduceLE, Int.reduceEq, Int.reduceNe, Int.reduceBEq, Int.reduceBNe, not_false_eq_true, not_true_eq_false, hP]
      first | refine xw_call hE (ks := [0, 1, 2, 3, 8, 9, 10, 11, 12, 13, 14, 15, 16, 17, 18, 21, 54, 55, 76]) (n := 2000) (by rw [hP]; exact awake_c) ?_ | refine xd_call hE (ks := [0, 1, 2, 3, 8, 9, 10, 11, 12, 13, 14, 15, 16, 17, 18, 21, 54, 55, 76]) (n := 2000) (by rw [hP]; exact awake_c) ?_
      simp only [go_sem, Nat.reduceAdd, Nat.reduceMul, ↓reduceIte, reduceCtorEq, Nat.reduceLeDiff, Int.reduceToNat, Int.reduceLT, Int.reduceLE, Int.reduceEq, Int.reduceNe, Int.reduceBEq, Int.reduceBNe, not_false_eq_true, not_true_eq_false, hP]
    · have h4 : now = old ++ [b] := h4.resolve_left hc
      have hb : (now == old) = false := by simpa using hc
      rw [hb]
      simp only [go_sem, Nat.reduceAdd, Nat.reduceMul, ↓reduceIte, reduceCtorEq, Nat.reduceLeDiff, Int.reduceToNat, Int.reduceLT, Int.reduceLE, Int.reduceEq, Int.reduceNe, Int.reduceBEq, Int.reduceBNe, not_false_eq_true, not_true_eq_false, hP]
      refine xw_frz hE (ks := [0, 1, 2, 3, 8, 9, 10, 11, 12, 13, 14, 15, 16, 17, 18, 21, 54, 55, 76]) (n := 2000) 5 ?_ ?_
      · simp only [go_sem, Nat.reduceAdd, Nat.reduceMul, ↓reduceIte, reduceCtorEq, Nat.reduceLeDiff, Int.reduceToNat, Int.reduceLT, Int.reduceLE, Int.reduceEq, Int.reduceNe, Int.reduceBEq, Int.reduceBNe, not_false_eq_true, not_true_eq_false, hP]
        omega
      · simp only [go_sem, Nat.reduceAdd, Nat.reduceMul, ↓reduceIte, reduceCtorEq, Nat.reduceLeDiff, Int.reduceToNat, Int.reduceLT, Int.reduceLE, Int.reduceEq, Int.reduceNe, Int.reduceBEq, Int.reduceBNe, not_false_eq_true, not_true_eq_false, hP, htk]
        first | refine xw_call hE (ks := [0, 1, 2, 3, 8, 9, 10, 11, 12, 13, 14, 15, 16, 17, 18, 21, 54, 55, 76]) (n := 2000) (by rw [hP]; exact sameBytes_c now (old ++ [b]) _ _ rfl hwl (by omega)) ?_ | refine xd_call hE (ks := [0, 1, 2, 3, 8, 9, 10, 11, 12, 13, 14, 15, 16, 17, 18, 21, 54, 55, 76]) (n := 2000) (by rw [hP]; exact sameBytes_c now (old ++ [b]) _ _ rfl hwl (by omega)) ?_
        rw [h4, beq_self_eq_true]
        simp only [go_sem, Nat.reduceAdd, Nat.reduceMul, ↓reduceIte, reduceCtorEq, Nat.reduceLeDiff, Int.reduceToNat, Int.reduceLT, Int.reduceLE, Int.reduceEq, Int.reduceNe, Int.reduceBEq, Int.reduceBNe, not_false_eq_true, not_true_eq_false, hP]
        first | refine xw_call hE (ks := [0, 1, 2, 3, 8, 9, 10, 11, 12, 13, 14, 15, 16, 17, 18, 21, 54, 55, 76]) (n := 2000) (by rw [hP]; exact awake_c) ?_ | refine xd_call hE (ks := [0, 1, 2, 3, 8, 9, 10, 11, 12, 13, 14, 15, 16, 17, 18, 21, 54, 55, 76]) (n := 2000) (by rw [hP]; exact awake_c) ?_
        simp only [go_sem, Nat.reduceAdd, Nat.reduceMul, ↓reduceIte, reduceCtorEq, Nat.reduceLeDiff, Int.reduceToNat, Int.reduceLT, Int.reduceLE, Int.reduceEq, Int.reduceNe, Int.reduceBEq, Int.reduceBNe, not_false_eq_true, not_true_eq_false, hP]
  · rw [if_neg h1, if_neg h2]
    first | refine xw_call hE (ks := [0, 1, 2, 3, 8, 9, 10, 11, 12, 13, 14, 15, 16, 17, 18, 21, 54, 55, 76]) (n := 2000) (by rw [hP]; exact rAppend_c j _ b _ (-1) rfl (by omega) rfl (by omega) (by unfold i64; decide)) ?_ | refine xd_call hE (ks := [0, 1, 2, 3, 8, 9, 10, 11, 12, 13, 14, 15, 16, 17, 18, 21, 54, 55, 76]) (n := 2000) (by rw [hP]; exact rAppend_c j _ b _ (-1) rfl (by omega) rfl (by omega) (by unfold i64; decide)) ?_
    rw [append_law] at h3
    generalize rappendM j b (-1) = K at *
    simp only [go_sem, Nat.reduceAdd, Nat.reduceMul, ↓reduceIte, reduceCtorEq, Nat.reduceLeDiff, Int.reduceToNat, Int.reduceLT, Int.reduceLE, Int.reduceEq, Int.reduceNe, Int.reduceBEq, Int.reduceBNe, not_false_eq_true, not_true_eq_false, hP, h3]
    rw [if_pos (by rw [← h3]; exact h1)]
    first | refine xw_call hE (ks := [0, 1, 2, 3, 8, 9, 10, 11, 12, 13, 14, 15, 16, 17, 18, 21, 54, 55, 76]) (n := 2000) (by rw [hP]; exact awake_c) ?_ | refine xd_call hE (ks := [0, 1, 2, 3, 8, 9, 10, 11, 12, 13, 14, 15, 16, 17, 18, 21, 54, 55, 76]) (n := 2000) (by rw [hP]; exact awake_c) ?_
    simp only [go_sem, Nat.reduceAdd, Nat.reduceMul, ↓reduceIte, reduceCtorEq, Nat.reduceLeDiff, Int.reduceToNat, Int.reduceLT, Int.reduceLE, Int.reduceEq, Int.reduceNe, Int.reduceBEq, Int.reduceBNe, not_false_eq_true, not_true_eq_false, hP]

end Go.Proofs.Ytpelcbonflijhaa

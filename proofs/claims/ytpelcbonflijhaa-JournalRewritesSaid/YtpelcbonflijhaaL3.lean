/-
  The law JournalRewrites: the contract of its function. Own work.
-/
import Derived.Test.YtpelcbonflijhaaL2
namespace Go.Proofs.Ytpelcbonflijhaa
set_option linter.unusedSimpArgs false
set_option linter.unusedVariables false
open Go Go.Abs Go.RowKit

set_option maxHeartbeats 1000000 in
theorem lrecords_n (n : Int) : Con Try.prog 28 [.i n] [] (.sl 0 0 (recordsM n).length 1) [(0, some ⟨bytesT, byL (recordsM n)⟩)] := by
  refine con_x 0 hmix Try.func28 rfl (by kernel_rfl) Try.ntmps28 Try.results28 (by simp) rfl (by simp [idsL, idsA]) trivial (fun i hi => by cases hi) [0, 2, 3, 4, 9] ?_; intro c hP h0' hE; have h0 : ∀ i, c.ρ0 i ≠ none → False := fun i hi => by cases h0' i hi
  simp only [go_sem, Nat.reduceAdd, Nat.reduceMul, ↓reduceIte, reduceCtorEq, Nat.reduceLeDiff, Int.reduceToNat, Int.reduceLT, Int.reduceLE, Int.reduceEq, Int.reduceNe, Int.reduceBEq, Int.reduceBNe, not_false_eq_true, not_true_eq_false, hP]
  have hc := band_bd (ishr .i64 n 2) 3 (by decide) (by decide)
  obtain ⟨m, hm⟩ : ∃ m : Nat, band .i64 (ishr .i64 n 2) 3 = (m : Int) := Int.eq_ofNat_of_zero_le hc.1
  have hr : recordsM n = recsN n m := by unfold recordsM; rw [hm]; rfl
  rw [hm] at hc
  rw [hr] at hE
  refine saw_new bytesT ?_
  refine xw_for hE h0 [0, 2, 3, 4, 9] m (fun i => ⟨23, [(0, .i n), (3, .sl 0 0 (recsN n i).length 1), (4, .i i)], [(0, some ⟨bytesT, byL (recsN n i)⟩)], 1⟩) [] (fun i => i) ?_ ?_
  · refine ⟨rfl, ?_, ?_, rfl, rfl, trivial, fun i h => h⟩
    · simp only [go_sem, Nat.reduceAdd, Nat.reduceMul, ↓reduceIte, reduceCtorEq, Nat.reduceLeDiff, Int.reduceToNat, Int.reduceLT, Int.reduceLE, Int.reduceEq, Int.reduceNe, Int.reduceBEq, Int.reduceBNe, not_false_eq_true, not_true_eq_false]
      simp [recsN]
    · simp only [go_sem, Nat.reduceAdd, Nat.reduceMul, ↓reduceIte, reduceCtorEq, Nat.reduceLeDiff, Int.reduceToNat, Int.reduceLT, Int.reduceLE, Int.reduceEq, Int.reduceNe, Int.reduceBEq, Int.reduceBNe, not_false_eq_true, not_true_eq_false]
      simp [recsN, byL, viewAs]
  · intro i hi
    simp only [go_sem, Nat.reduceAdd, Nat.reduceMul, ↓reduceIte, reduceCtorEq, Nat.reduceLeDiff, Int.reduceToNat, Int.reduceLT, Int.reduceLE, Int.reduceEq, Int.reduceNe, Int.reduceBEq, Int.reduceBNe, not_false_eq_true, not_true_eq_false, hP, hm]
    split
    · have e : IntKind.u64.wrap (IntKind.i64.wrap (4 + (i : Int))) = ((4 + i : Nat) : Int) := by
        rw [wrap_i64_id (by omega) (by omega)]
        rw [wrap_u64_def]; omega
      rw [e]
      first | refine xw_call hE (ks := [0, 2, 3, 4, 9]) (n := 2000) (by rw [hP]; exact lrecord_c (band .i64 (ishr .i64 n ((4 + i : Nat) : Int)) 8191)) ?_ | refine xd_call hE (ks := [0, 2, 3, 4, 9]) (n := 2000) (by rw [hP]; exact lrecord_c (band .i64 (ishr .i64 n ((4 + i : Nat) : Int)) 8191)) ?_
      rw [← recordM_len]
      simp only [go_sem, Nat.reduceAdd, Nat.reduceMul, ↓reduceIte, reduceCtorEq, Nat.reduceLeDiff, Int.reduceToNat, Int.reduceLT, Int.reduceLE, Int.reduceEq, Int.reduceNe, Int.reduceBEq, Int.reduceBNe, not_false_eq_true, not_true_eq_false, hP]
      (try go_unwrap)
      have hl := recsN_len n i
      refine ⟨by omega, by omega, subG [2] rfl ?_ ?_ rfl rfl (Nat.le_refl _)⟩
      · simp only [go_sem, Nat.reduceAdd, Nat.reduceMul, ↓reduceIte, reduceCtorEq, Nat.reduceLeDiff, Int.reduceToNat, Int.reduceLT, Int.reduceLE, Int.reduceEq, Int.reduceNe, Int.reduceBEq, Int.reduceBNe, not_false_eq_true, not_true_eq_false, recsN_succ]
        simp
      · simp only [go_sem, Nat.reduceAdd, Nat.reduceMul, ↓reduceIte, reduceCtorEq, Nat.reduceLeDiff, Int.reduceToNat, Int.reduceLT, Int.reduceLE, Int.reduceEq, Int.reduceNe, Int.reduceBEq, Int.reduceBNe, not_false_eq_true, not_true_eq_false, recsN_succ]
        exact byL_view _ _ _ _
    · obtain rfl : i = m := by omega
      refine endC_of [0] rfl ?_ ?_ rfl rfl (fun i hi => ?_)
      · simp only [go_sem, Nat.reduceAdd, Nat.reduceMul, ↓reduceIte, reduceCtorEq, Nat.reduceLeDiff, Int.reduceToNat, Int.reduceLT, Int.reduceLE, Int.reduceEq, Int.reduceNe, Int.reduceBEq, Int.reduceBNe, not_false_eq_true, not_true_eq_false]
      · simp only [go_sem, Nat.reduceAdd, Nat.reduceMul, ↓reduceIte, reduceCtorEq, Nat.reduceLeDiff, Int.reduceToNat, Int.reduceLT, Int.reduceLE, Int.reduceEq, Int.reduceNe, Int.reduceBEq, Int.reduceBNe, not_false_eq_true, not_true_eq_false]
        exact byL_view _ _ _ _
      · simp [liveK] at hi; simp; omega

/-- zeros, not to be unrolled -/
def zb (n : Nat) : List UInt8 := List.replicate n 0
theorem zb_len (n : Nat) : (zb n).length = n := List.length_replicate
theorem cb_zb (n : Nat) : List.replicate n (AV.p (.v (.int .u8 0))) = cb (zb n) := cb_rep n

theorem zb_take (n : Nat) : (zb n).take n = zb n := List.take_of_length_le (by rw [zb_len]; exact Nat.le_refl _)
theorem fz1L_app (id : Nat) (b : Blk) : ∀ xs ys, fz1L id b (xs ++ ys) = fz1L id b xs ++ fz1L id b ys
  | [], _ => rfl
  | x :: xs, ys => by simp only [List.cons_append, fz1L, fz1L_app id b xs ys]
theorem fz1OL_app (id : Nat) (b : Blk) : ∀ xs ys, fz1OL id b (xs ++ ys) ↔ fz1OL id b xs ∧ fz1OL id b ys
  | [], _ => by simp [fz1OL]
  | x :: xs, ys => by simp only [List.cons_append, fz1OL, fz1OL_app id b xs ys, and_assoc]
theorem byL_zb (y : List (List UInt8)) (m : Nat) : byL y ++ [.p (.data 1 200 ((zb 200).map bt)), .p (.data 1 256 ((zb 256).map bt)), .p (.data 1 m ((zb m).map bt))] = byL (y ++ [zb 200, zb 256, zb m]) := by
  simp [byL, byP, zb_len]

set_option maxHeartbeats 2000000 in
theorem rewrites_c (n : Int) (l : List Int) (r budget s : Int) : FPure Try.prog 9 [.i n, .p (.data 1 l.length (l.map it)), .i r, .i budget, .i s] (.b true) := by
  refine fpure_x hmix Try.func9 rfl (by kernel_rfl) Try.ntmps9 Try.results9 (by simp) (by simp [idsL, idsA]) [0, 1, 2, 3, 4, 10, 11, 12, 13, 14, 15, 16, 17, 18, 30] ?_; intro c hP h0 hE
  simp only [go_sem, Nat.reduceAdd, Nat.reduceMul, ↓reduceIte, reduceCtorEq, Nat.reduceLeDiff, Int.reduceToNat, Int.reduceLT, Int.reduceLE, Int.reduceEq, Int.reduceNe, Int.reduceBEq, Int.reduceBNe, not_false_eq_true, not_true_eq_false, hP]
  first | refine xw_call hE (ks := [0, 1, 2, 3, 4, 10, 11, 12, 13, 14, 15, 16, 17, 18, 30]) (n := 2000) (by rw [hP]; exact lmade_c n l _ rfl) ?_ | refine xd_call hE (ks := [0, 1, 2, 3, 4, 10, 11, 12, 13, 14, 15, 16, 17, 18, 30]) (n := 2000) (by rw [hP]; exact lmade_c n l _ rfl) ?_
  have hm := made_ok n l
  have hok := hm.len
  generalize madeM n l = j at *
  simp only [go_sem, Nat.reduceAdd, Nat.reduceMul, ↓reduceIte, reduceCtorEq, Nat.reduceLeDiff, Int.reduceToNat, Int.reduceLT, Int.reduceLE, Int.reduceEq, Int.reduceNe, Int.reduceBEq, Int.reduceBNe, not_false_eq_true, not_true_eq_false, hP]
  first | refine xw_call hE (ks := [0, 1, 2, 3, 4, 10, 11, 12, 13, 14, 15, 16, 17, 18, 30]) (n := 2000) (by rw [hP]; exact lspoil_c j _ rfl hok.1 (by omega) s) ?_ | refine xd_call hE (ks := [0, 1, 2, 3, 4, 10, 11, 12, 13, 14, 15, 16, 17, 18, 30]) (n := 2000) (by rw [hP]; exact lspoil_c j _ rfl hok.1 (by omega) s) ?_
  have hsl := spoilM_len j s
  generalize spoilM j s = x at *
  simp only [go_sem, Nat.reduceAdd, Nat.reduceMul, ↓reduceIte, reduceCtorEq, Nat.reduceLeDiff, Int.reduceToNat, Int.reduceLT, Int.reduceLE, Int.reduceEq, Int.reduceNe, Int.reduceBEq, Int.reduceBNe, not_false_eq_true, not_true_eq_false, hP]
  have hxl := recordsM_len (band .i64 r 16777215)
  have hxb := recordsM_le (band .i64 r 16777215)
  first | refine xw_new hE (ks := [0, 1, 2, 3, 4, 10, 11, 12, 13, 14, 15, 16, 17, 18, 30]) (n := 2000) 1 (by rw [hP]; exact lrecords_n (band .i64 r 16777215)) rfl rfl (by simp [idsA, idsL, keys]) (by simp only [idsH, idsL, idsL_map, idsL_cb, idsL_byL, and_self]) ?_ | refine xd_new hE (ks := [0, 1, 2, 3, 4, 10, 11, 12, 13, 14, 15, 16, 17, 18, 30]) (n := 2000) 1 (by rw [hP]; exact lrecords_n (band .i64 r 16777215)) rfl rfl (by simp [idsA, idsL, keys]) (by simp only [idsH, idsL, idsL_map, idsL_cb, idsL_byL, and_self]) ?_
  generalize recordsM (band .i64 r 16777215) = y at *
  simp only [go_sem, Nat.reduceAdd, Nat.reduceMul, ↓reduceIte, reduceCtorEq, Nat.reduceLeDiff, Int.reduceToNat, Int.reduceLT, Int.reduceLE, Int.reduceEq, Int.reduceNe, Int.reduceBEq, Int.reduceBNe, not_false_eq_true, not_true_eq_false, hP, ↓cb_zb, zb_len]
  have hb1 := band_bd budget 4095 (by decide) (by decide)
  have hb2 := band_bd (ishr .i64 r 28) 63 (by decide) (by decide)
  obtain ⟨m, hmm⟩ : ∃ m : Nat, 30 + band .i64 (ishr .i64 r 28) 63 = (m : Int) := Int.eq_ofNat_of_zero_le (by omega)
  obtain ⟨B, hw⟩ : ∃ B, IntKind.i64.wrap (band .i64 budget 4095 - 500) = B := ⟨_, rfl⟩
  have hBB : i64 B := by rw [← hw, wrap_i64_id (by omega) (by omega)]; unfold i64; omega
  rw [hw, wrap_i64_id (n := 30 + band .i64 (ishr .i64 r 28) 63) (by omega) (by omega), hmm, Int.toNat_natCast]
  split
  · refine ⟨by decide, by decide, ⟨by omega, by omega, by omega, by omega⟩, ⟨by omega, by omega⟩, by kernel_rfl, ?_⟩
    refine xw_frz hE (ks := [0, 1, 2, 3, 4, 10, 11, 12, 13, 14, 15, 16, 17, 18, 30]) (n := 2000) 2 ?_ ?_
    · simp only [go_sem, Nat.reduceAdd, Nat.reduceMul, ↓reduceIte, reduceCtorEq, Nat.reduceLeDiff, Int.reduceToNat, Int.reduceLT, Int.reduceLE, Int.reduceEq, Int.reduceNe, Int.reduceBEq, Int.reduceBNe, not_false_eq_true, not_true_eq_false, hP, zb_len, fz1OL_app]
    · simp only [go_sem, Nat.reduceAdd, Nat.reduceMul, ↓reduceIte, reduceCtorEq, Nat.reduceLeDiff, Int.reduceToNat, Int.reduceLT, Int.reduceLE, Int.reduceEq, Int.reduceNe, Int.reduceBEq, Int.reduceBNe, not_false_eq_true, not_true_eq_false, hP, zb_len, zb_take, fz1L_app]
      refine xw_frz hE (ks := [0, 1, 2, 3, 4, 10, 11, 12, 13, 14, 15, 16, 17, 18, 30]) (n := 2000) 3 ?_ ?_
      · simp only [go_sem, Nat.reduceAdd, Nat.reduceMul, ↓reduceIte, reduceCtorEq, Nat.reduceLeDiff, Int.reduceToNat, Int.reduceLT, Int.reduceLE, Int.reduceEq, Int.reduceNe, Int.reduceBEq, Int.reduceBNe, not_false_eq_true, not_true_eq_false, hP, zb_len, fz1OL_app]
      · simp only [go_sem, Nat.reduceAdd, Nat.reduceMul, ↓reduceIte, reduceCtorEq, Nat.reduceLeDiff, Int.reduceToNat, Int.reduceLT, Int.reduceLE, Int.reduceEq, Int.reduceNe, Int.reduceBEq, Int.reduceBNe, not_false_eq_true, not_true_eq_false, hP, zb_len, zb_take, fz1L_app]
        refine xw_frz hE (ks := [0, 1, 2, 3, 4, 10, 11, 12, 13, 14, 15, 16, 17, 18, 30]) (n := 2000) 4 ?_ ?_
        · simp only [go_sem, Nat.reduceAdd, Nat.reduceMul, ↓reduceIte, reduceCtorEq, Nat.reduceLeDiff, Int.reduceToNat, Int.reduceLT, Int.reduceLE, Int.reduceEq, Int.reduceNe, Int.reduceBEq, Int.reduceBNe, not_false_eq_true, not_true_eq_false, hP, zb_len, fz1OL_app]
          omega
        · simp only [go_sem, Nat.reduceAdd, Nat.reduceMul, ↓reduceIte, reduceCtorEq, Nat.reduceLeDiff, Int.reduceToNat, Int.reduceLT, Int.reduceLE, Int.reduceEq, Int.reduceNe, Int.reduceBEq, Int.reduceBNe, not_false_eq_true, not_true_eq_false, hP, zb_len, zb_take, fz1L_app, byL_zb]
          have hyl : (y ++ [zb 200, zb 256, zb m]).length = y.length + 3 := by simp
          have hyt : (y ++ [zb 200, zb 256, zb m]).take (y.length + 3) = y ++ [zb 200, zb 256, zb m] := List.take_of_length_le (by omega)
          have hel : ∀ b, b ∈ y ++ [zb 200, zb 256, zb m] → b.length < 1000000 := fun b hb => by
            simp only [List.mem_append, List.mem_cons, List.not_mem_nil, or_false] at hb
            rcases hb with hb | rfl | rfl | rfl
            · have := hxb b hb; omega
            · rw [zb_len]; decide
            · rw [zb_len]; decide
            · rw [zb_len]; omega
          generalize y ++ [zb 200, zb 256, zb m] = Y at *
          refine xw_frz hE (ks := [0, 1, 2, 3, 4, 10, 11, 12, 13, 14, 15, 16, 17, 18, 30]) (n := 2000) 6 ?_ ?_
          · simp only [go_sem, Nat.reduceAdd, Nat.reduceMul, ↓reduceIte, reduceCtorEq, Nat.reduceLeDiff, Int.reduceToNat, Int.reduceLT, Int.reduceLE, Int.reduceEq, Int.reduceNe, Int.reduceBEq, Int.reduceBNe, not_false_eq_true, not_true_eq_false, hP]
            omega
          · simp only [go_sem, Nat.reduceAdd, Nat.reduceMul, ↓reduceIte, reduceCtorEq, Nat.reduceLeDiff, Int.reduceToNat, Int.reduceLT, Int.reduceLE, Int.reduceEq, Int.reduceNe, Int.reduceBEq, Int.reduceBNe, not_false_eq_true, not_true_eq_false, hP, hyt]
            first | refine xw_call hE (ks := [0, 1, 2, 3, 4, 10, 11, 12, 13, 14, 15, 16, 17, 18, 30]) (n := 2000) (by rw [hP]; exact jRewrite_c x _ Y _ B rfl (by omega) hyl (by omega) hel hBB) ?_ | refine xd_call hE (ks := [0, 1, 2, 3, 4, 10, 11, 12, 13, 14, 15, 16, 17, 18, 30]) (n := 2000) (by rw [hP]; exact jRewrite_c x _ Y _ B rfl (by omega) hyl (by omega) hel hBB) ?_
            rw [rewrite_law]
            simp only [go_sem, Nat.reduceAdd, Nat.reduceMul, ↓reduceIte, reduceCtorEq, Nat.reduceLeDiff, Int.reduceToNat, Int.reduceLT, Int.reduceLE, Int.reduceEq, Int.reduceNe, Int.reduceBEq, Int.reduceBNe, not_false_eq_true, not_true_eq_false, hP, hw]
            first | refine xw_call hE (ks := [0, 1, 2, 3, 4, 10, 11, 12, 13, 14, 15, 16, 17, 18, 30]) (n := 2000) (by rw [hP]; exact rRewrite_c x _ Y _ B rfl (by omega) hyl (by omega) hel hBB) ?_ | refine xd_call hE (ks := [0, 1, 2, 3, 4, 10, 11, 12, 13, 14, 15, 16, 17, 18, 30]) (n := 2000) (by rw [hP]; exact rRewrite_c x _ Y _ B rfl (by omega) hyl (by omega) hel hBB) ?_
            generalize rrewriteM x Y B = G
            simp only [go_sem, Nat.reduceAdd, Nat.reduceMul, ↓reduceIte, reduceCtorEq, Nat.reduceLeDiff, Int.reduceToNat, Int.reduceLT, Int.reduceLE, Int.reduceEq, Int.reduceNe, Int.reduceBEq, Int.reduceBNe, not_false_eq_true, not_true_eq_false, hP]
            first | refine xw_call hE (ks := [0, 1, 2, 3, 4, 10, 11, 12, 13, 14, 15, 16, 17, 18, 30]) (n := 2000) (by rw [hP]; exact same_c G.j G.j G.left G.left G.err G.err _ _) ?_ | refine xd_call hE (ks := [0, 1, 2, 3, 4, 10, 11, 12, 13, 14, 15, 16, 17, 18, 30]) (n := 2000) (by rw [hP]; exact same_c G.j G.j G.left G.left G.err G.err _ _) ?_
            simp only [sameJ_self, beq_self_eq_true, Bool.and_self]
            simp only [go_sem, Nat.reduceAdd, Nat.reduceMul, ↓reduceIte, reduceCtorEq, Nat.reduceLeDiff, Int.reduceToNat, Int.reduceLT, Int.reduceLE, Int.reduceEq, Int.reduceNe, Int.reduceBEq, Int.reduceBNe, not_false_eq_true, not_true_eq_false, hP]
            first | refine xw_call hE (ks := [0, 1, 2, 3, 4, 10, 11, 12, 13, 14, 15, 16, 17, 18, 30]) (n := 2000) (by rw [hP]; exact awake_c) ?_ | refine xd_call hE (ks := [0, 1, 2, 3, 4, 10, 11, 12, 13, 14, 15, 16, 17, 18, 30]) (n := 2000) (by rw [hP]; exact awake_c) ?_
            simp only [go_sem, Nat.reduceAdd, Nat.reduceMul, ↓reduceIte, reduceCtorEq, Nat.reduceLeDiff, Int.reduceToNat, Int.reduceLT, Int.reduceLE, Int.reduceEq, Int.reduceNe, Int.reduceBEq, Int.reduceBNe, not_false_eq_true, not_true_eq_false, hP]
  · have hel : ∀ b, b ∈ y → b.length < 1000000 := fun b hb => by have := hxb b hb; omega
    have hyt : y.take y.length = y := List.take_of_length_le (Nat.le_refl _)
    refine xw_frz hE (ks := [0, 1, 2, 3, 4, 10, 11, 12, 13, 14, 15, 16, 17, 18, 30]) (n := 2000) 1 ?_ ?_
    · simp only [go_sem, Nat.reduceAdd, Nat.reduceMul, ↓reduceIte, reduceCtorEq, Nat.reduceLeDiff, Int.reduceToNat, Int.reduceLT, Int.reduceLE, Int.reduceEq, Int.reduceNe, Int.reduceBEq, Int.reduceBNe, not_false_eq_true, not_true_eq_false, hP]
      omega
    · simp only [go_sem, Nat.reduceAdd, Nat.reduceMul, ↓reduceIte, reduceCtorEq, Nat.reduceLeDiff, Int.reduceToNat, Int.reduceLT, Int.reduceLE, Int.reduceEq, Int.reduceNe, Int.reduceBEq, Int.reduceBNe, not_false_eq_true, not_true_eq_false, hP, hyt]
      first | refine xw_call hE (ks := [0, 1, 2, 3, 4, 10, 11, 12, 13, 14, 15, 16, 17, 18, 30]) (n := 2000) (by rw [hP]; exact jRewrite_c x _ y _ B rfl (by omega) rfl (by omega) hel hBB) ?_ | refine xd_call hE (ks := [0, 1, 2, 3, 4, 10, 11, 12, 13, 14, 15, 16, 17, 18, 30]) (n := 2000) (by rw [hP]; exact jRewrite_c x _ y _ B rfl (by omega) rfl (by omega) hel hBB) ?_
      rw [rewrite_law]
      simp only [go_sem, Nat.reduceAdd, Nat.reduceMul, ↓reduceIte, reduceCtorEq, Nat.reduceLeDiff, Int.reduceToNat, Int.reduceLT, Int.reduceLE, Int.reduceEq, Int.reduceNe, Int.reduceBEq, Int.reduceBNe, not_false_eq_true, not_true_eq_false, hP, hw]
      first | refine xw_call hE (ks := [0, 1, 2, 3, 4, 10, 11, 12, 13, 14, 15, 16, 17, 18, 30]) (n := 2000) (by rw [hP]; exact rRewrite_c x _ y _ B rfl (by omega) rfl (by omega) hel hBB) ?_ | refine xd_call hE (ks := [0, 1, 2, 3, 4, 10, 11, 12, 13, 14, 15, 16, 17, 18, 30]) (n := 2000) (by rw [hP]; exact rRewrite_c x _ y _ B rfl (by omega) rfl (by omega) hel hBB) ?_
      generalize rrewriteM x y B = G
      simp only [go_sem, Nat.reduceAdd, Nat.reduceMul, ↓reduceIte, reduceCtorEq, Nat.reduceLeDiff, Int.reduceToNat, Int.reduceLT, Int.reduceLE, Int.reduceEq, Int.reduceNe, Int.reduceBEq, Int.reduceBNe, not_false_eq_true, not_true_eq_false, hP]
      first | refine xw_call hE (ks := [0, 1, 2, 3, 4, 10, 11, 12, 13, 14, 15, 16, 17, 18, 30]) (n := 2000) (by rw [hP]; exact same_c G.j G.j G.left G.left G.err G.err _ _) ?_ | refine xd_call hE (ks := [0, 1, 2, 3, 4, 10, 11, 12, 13, 14, 15, 16, 17, 18, 30]) (n := 2000) (by rw [hP]; exact same_c G.j G.j G.left G.left G.err G.err _ _) ?_
      simp only [sameJ_self, beq_self_eq_true, Bool.and_self]
      simp only [go_sem, Nat.reduceAdd, Nat.reduceMul, ↓reduceIte, reduceCtorEq, Nat.reduceLeDiff, Int.reduceToNat, Int.reduceLT, Int.reduceLE, Int.reduceEq, Int.reduceNe, Int.reduceBEq, Int.reduceBNe, not_false_eq_true, not_true_eq_false, hP]
      first | refine xw_call hE (ks := [0, 1, 2, 3, 4, 10, 11, 12, 13, 14, 15, 16, 17, 18, 30]) (n := 2000) (by rw [hP]; exact awake_c) ?_ | refine xd_call hE (ks := [0, 1, 2, 3, 4, 10, 11, 12, 13, 14, 15, 16, 17, 18, 30]) (n := 2000) (by rw [hP]; exact awake_c) ?_
      simp only [go_sem, Nat.reduceAdd, Nat.reduceMul, ↓reduceIte, reduceCtorEq, Nat.reduceLeDiff, Int.reduceToNat, Int.reduceLT, Int.reduceLE, Int.reduceEq, Int.reduceNe, Int.reduceBEq, Int.reduceBNe, not_false_eq_true, not_true_eq_false, hP]

end Go.Proofs.Ytpelcbonflijhaa

/-
  The laws VaultPuts and VaultOpens: the contracts of their functions. Own work.
-/
import Derived.Test.YtcnpgmlkocbhkaaGreatVq
namespace Go.Proofs.YtcnpgmlkocbhkaaGreat
set_option linter.unusedSimpArgs false
set_option linter.unusedVariables false
open Go Go.Abs Go.RowKit

theorem ropen_len (f : Fl) (B : Int) (hB : i64 B) (hb : f.bs.length < 1000000000) : (ropenM f B).v.j.bs.length ≤ f.bs.length ∧ (ropenM f B).v.prs.length ≤ 8192 := by
  have h0 : ∀ j e, (lostM j e).v.prs.length ≤ 8192 := fun j e => by unfold lostM; split <;> exact Nat.zero_le _
  have hE : ∀ j left, i64 left → j.bs.length ≤ f.bs.length → (ropenE j left).v.j.bs.length ≤ f.bs.length ∧ (ropenE j left).v.prs.length ≤ 8192 := fun j left hl hj => by
    have := rrewrite_len j (snapM (storedM j)) left hl (by omega) (fun b hb => by
      obtain ⟨p, hp, rfl⟩ := List.mem_map.1 hb
      rw [prec1_len]
      have := (stored_mem hp).2.2.2
      omega)
    unfold ropenE
    split
    · exact ⟨hj, stored_bd _⟩
    · split
      · exact ⟨Nat.le_trans (lost_len _ _) (by omega), h0 _ _⟩
      · exact ⟨by show (rrewriteM _ _ _).j.bs.length ≤ _; omega, stored_bd _⟩
  have hf := rformat_bd f B hB hb
  have hm := mount_len f
  unfold ropenM
  split
  · split
    · exact ⟨Nat.le_trans (lost_len _ _) hf.2, h0 _ _⟩
    · exact hE _ _ hf.1 hf.2
  · split
    · exact ⟨Nat.le_trans (lost_len _ _) hm, h0 _ _⟩
    · exact hE _ _ hB hm

set_option maxHeartbeats 2000000 in
theorem vputs_c (n : Int) (l : List Int) (r budget s : Int) : FPure Tryz.prog 5 [.i n, .p (.data 1 l.length (l.map it)), .i r, .i budget, .i s] (.b true) := by
  refine fpure_x hmix Tryz.func5 rfl (by kernel_rfl) Tryz.ntmps5 Tryz.results5 (by simp) (by simp [idsL, idsA]) [0, 1, 2, 3, 4, 10, 11, 12, 13, 14, 15, 16, 17, 18] ?_; intro c hP h0 hE
  simp only [go_sem, Nat.reduceAdd, Nat.reduceMul, ↓reduceIte, reduceCtorEq, Nat.reduceLeDiff, Int.reduceToNat, Int.reduceLT, Int.reduceLE, Int.reduceEq, Int.reduceNe, Int.reduceBEq, Int.reduceBNe, not_false_eq_true, not_true_eq_false, hP]
  first | refine xw_call hE (ks := [0, 1, 2, 3, 4, 10, 11, 12, 13, 14, 15, 16, 17, 18]) (n := 2000) (by rw [hP]; exact lmade9_c n l _ rfl) ?_ | refine xd_call hE (ks := [0, 1, 2, 3, 4, 10, 11, 12, 13, 14, 15, 16, 17, 18]) (n := 2000) (by rw [hP]; exact lmade9_c n l _ rfl) ?_
  have hok := vmade_ok n l
  generalize vmadeM n l = v at *
  have hvl := hok.mt.len
  have hvp := hok.prl
  simp only [go_sem, Nat.reduceAdd, Nat.reduceMul, ↓reduceIte, reduceCtorEq, Nat.reduceLeDiff, Int.reduceToNat, Int.reduceLT, Int.reduceLE, Int.reduceEq, Int.reduceNe, Int.reduceBEq, Int.reduceBNe, not_false_eq_true, not_true_eq_false, hP]
  first | refine xw_call hE (ks := [0, 1, 2, 3, 4, 10, 11, 12, 13, 14, 15, 16, 17, 18]) (n := 2000) (by rw [hP]; exact lspoil9_c v _ rfl hvl.1 (by omega) (by omega) s) ?_ | refine xd_call hE (ks := [0, 1, 2, 3, 4, 10, 11, 12, 13, 14, 15, 16, 17, 18]) (n := 2000) (by rw [hP]; exact lspoil9_c v _ rfl hvl.1 (by omega) (by omega) s) ?_
  have hsl := vspoil_len v s
  generalize vspoilM v s = x at *
  simp only [go_sem, Nat.reduceAdd, Nat.reduceMul, ↓reduceIte, reduceCtorEq, Nat.reduceLeDiff, Int.reduceToNat, Int.reduceLT, Int.reduceLE, Int.reduceEq, Int.reduceNe, Int.reduceBEq, Int.reduceBNe, not_false_eq_true, not_true_eq_false, hP]
  have hk := band_bd r 33554431 (by decide) (by decide)
  first | refine xw_call hE (ks := [0, 1, 2, 3, 4, 10, 11, 12, 13, 14, 15, 16, 17, 18]) (n := 2000) (by rw [hP]; exact lpairs_c (band .i64 r 33554431) hk.1) ?_ | refine xd_call hE (ks := [0, 1, 2, 3, 4, 10, 11, 12, 13, 14, 15, 16, 17, 18]) (n := 2000) (by rw [hP]; exact lpairs_c (band .i64 r 33554431) hk.1) ?_
  have hpl := pairsM_len (band .i64 r 33554431)
  have hpm := pairsM_mem (band .i64 r 33554431)
  generalize pairsM (band .i64 r 33554431) = q at *
  simp only [go_sem, Nat.reduceAdd, Nat.reduceMul, ↓reduceIte, reduceCtorEq, Nat.reduceLeDiff, Int.reduceToNat, Int.reduceLT, Int.reduceLE, Int.reduceEq, Int.reduceNe, Int.reduceBEq, Int.reduceBNe, not_false_eq_true, not_true_eq_false, hP]
  have hb1 := band_bd budget 2047 (by decide) (by decide)
  obtain ⟨B, hw⟩ : ∃ B, IntKind.i64.wrap (band .i64 budget 2047 - 500) = B := ⟨_, rfl⟩
  have hBB : i64 B := by rw [← hw, wrap_i64_id (by omega) (by omega)]; unfold i64; omega
  rw [hw]
  have hlen := rput_len x q B hBB (by omega) (fun x hx => by have := (hpm x hx).2; omega) (by omega)
  first | refine xw_call hE (ks := [0, 1, 2, 3, 4, 10, 11, 12, 13, 14, 15, 16, 17, 18]) (n := 2000) (by rw [hP]; exact vput_c x _ q B rfl (by omega) (by omega) (fun x hx => by have := (hpm x hx).2; omega) hBB) ?_ | refine xd_call hE (ks := [0, 1, 2, 3, 4, 10, 11, 12, 13, 14, 15, 16, 17, 18]) (n := 2000) (by rw [hP]; exact vput_c x _ q B rfl (by omega) (by omega) (fun x hx => by have := (hpm x hx).2; omega) hBB) ?_
  rw [put_law]
  simp only [go_sem, Nat.reduceAdd, Nat.reduceMul, ↓reduceIte, reduceCtorEq, Nat.reduceLeDiff, Int.reduceToNat, Int.reduceLT, Int.reduceLE, Int.reduceEq, Int.reduceNe, Int.reduceBEq, Int.reduceBNe, not_false_eq_true, not_true_eq_false, hP, hw]
  first | refine xw_call hE (ks := [0, 1, 2, 3, 4, 10, 11, 12, 13, 14, 15, 16, 17, 18]) (n := 2000) (by rw [hP]; exact rput_c x _ q B rfl (by omega) (by omega) (by omega) (fun x hx => by have := (hpm x hx).2; omega) hBB) ?_ | refine xd_call hE (ks := [0, 1, 2, 3, 4, 10, 11, 12, 13, 14, 15, 16, 17, 18]) (n := 2000) (by rw [hP]; exact rput_c x _ q B rfl (by omega) (by omega) (by omega) (fun x hx => by have := (hpm x hx).2; omega) hBB) ?_
  generalize rputM x q B = G at *
  simp only [go_sem, Nat.reduceAdd, Nat.reduceMul, ↓reduceIte, reduceCtorEq, Nat.reduceLeDiff, Int.reduceToNat, Int.reduceLT, Int.reduceLE, Int.reduceEq, Int.reduceNe, Int.reduceBEq, Int.reduceBNe, not_false_eq_true, not_true_eq_false, hP]
  first | refine xw_call hE (ks := [0, 1, 2, 3, 4, 10, 11, 12, 13, 14, 15, 16, 17, 18]) (n := 2000) (by rw [hP]; exact same9_c G.v G.v G.left G.err G.left G.err _ _ (by omega)) ?_ | refine xd_call hE (ks := [0, 1, 2, 3, 4, 10, 11, 12, 13, 14, 15, 16, 17, 18]) (n := 2000) (by rw [hP]; exact same9_c G.v G.v G.left G.err G.left G.err _ _ (by omega)) ?_
  simp only [sameJ_self, beq_self_eq_true, Bool.and_self, decide_true]
  simp only [go_sem, Nat.reduceAdd, Nat.reduceMul, ↓reduceIte, reduceCtorEq, Nat.reduceLeDiff, Int.reduceToNat, Int.reduceLT, Int.reduceLE, Int.reduceEq, Int.reduceNe, Int.reduceBEq, Int.reduceBNe, not_false_eq_true, not_true_eq_false, hP]
  first | refine xw_call hE (ks := [0, 1, 2, 3, 4, 10, 11, 12, 13, 14, 15, 16, 17, 18]) (n := 2000) (by rw [hP]; exact awake9_c) ?_ | refine xd_call hE (ks := [0, 1, 2, 3, 4, 10, 11, 12, 13, 14, 15, 16, 17, 18]) (n := 2000) (by rw [hP]; exact awake9_c) ?_
  simp only [go_sem, Nat.reduceAdd, Nat.reduceMul, ↓reduceIte, reduceCtorEq, Nat.reduceLeDiff, Int.reduceToNat, Int.reduceLT, Int.reduceLE, Int.reduceEq, Int.reduceNe, Int.reduceBEq, Int.reduceBNe, not_false_eq_true, not_true_eq_false, hP]

set_option maxHeartbeats 2000000 in
theorem vopens_c (n : Int) (l : List Int) (r budget s : Int) : FPure Tryz.prog 3 [.i n, .p (.data 1 l.length (l.map it)), .i r, .i budget, .i s] (.b true) := by
  refine fpure_x hmix Tryz.func3 rfl (by kernel_rfl) Tryz.ntmps3 Tryz.results3 (by simp) (by simp [idsL, idsA]) [0, 1, 2, 3, 4, 10, 11, 12, 15, 16, 17, 18, 19, 20, 21, 22, 23, 24, 25, 26, 27, 48] ?_; intro c hP h0 hE
  simp only [go_sem, Nat.reduceAdd, Nat.reduceMul, ↓reduceIte, reduceCtorEq, Nat.reduceLeDiff, Int.reduceToNat, Int.reduceLT, Int.reduceLE, Int.reduceEq, Int.reduceNe, Int.reduceBEq, Int.reduceBNe, not_false_eq_true, not_true_eq_false, hP]
  first | refine xw_call hE (ks := [0, 1, 2, 3, 4, 10, 11, 12, 15, 16, 17, 18, 19, 20, 21, 22, 23, 24, 25, 26, 27, 48]) (n := 2000) (by rw [hP]; exact lmade9_c n l _ rfl) ?_ | refine xd_call hE (ks := [0, 1, 2, 3, 4, 10, 11, 12, 15, 16, 17, 18, 19, 20, 21, 22, 23, 24, 25, 26, 27, 48]) (n := 2000) (by rw [hP]; exact lmade9_c n l _ rfl) ?_
  have hok := vmade_ok n l
  generalize vmadeM n l = v at *
  have hvl := hok.mt.len
  have hvp := hok.prl
  simp only [go_sem, Nat.reduceAdd, Nat.reduceMul, ↓reduceIte, reduceCtorEq, Nat.reduceLeDiff, Int.reduceToNat, Int.reduceLT, Int.reduceLE, Int.reduceEq, Int.reduceNe, Int.reduceBEq, Int.reduceBNe, not_false_eq_true, not_true_eq_false, hP]
  have hk := band_bd r 33554431 (by decide) (by decide)
  first | refine xw_call hE (ks := [0, 1, 2, 3, 4, 10, 11, 12, 15, 16, 17, 18, 19, 20, 21, 22, 23, 24, 25, 26, 27, 48]) (n := 2000) (by rw [hP]; exact lpairs_c (band .i64 r 33554431) hk.1) ?_ | refine xd_call hE (ks := [0, 1, 2, 3, 4, 10, 11, 12, 15, 16, 17, 18, 19, 20, 21, 22, 23, 24, 25, 26, 27, 48]) (n := 2000) (by rw [hP]; exact lpairs_c (band .i64 r 33554431) hk.1) ?_
  have hpl := pairsM_len (band .i64 r 33554431)
  have hpm := pairsM_mem (band .i64 r 33554431)
  generalize pairsM (band .i64 r 33554431) = q at *
  simp only [go_sem, Nat.reduceAdd, Nat.reduceMul, ↓reduceIte, reduceCtorEq, Nat.reduceLeDiff, Int.reduceToNat, Int.reduceLT, Int.reduceLE, Int.reduceEq, Int.reduceNe, Int.reduceBEq, Int.reduceBNe, not_false_eq_true, not_true_eq_false, hP]
  have hb1 := band_bd (ishr .i64 r 12) 511 (by decide) (by decide)
  have hBB : i64 (band .i64 (ishr .i64 r 12) 511) := by unfold i64; omega
  generalize band .i64 (ishr .i64 r 12) 511 = B at *
  have hlen := rput_len v q B hBB (by omega) (fun x hx => by have := (hpm x hx).2; omega) (by omega)
  first | refine xw_call hE (ks := (1000006 :: [0, 1, 2, 3, 4, 10, 11, 12, 15, 16, 17, 18, 19, 20, 21, 22, 23, 24, 25, 26, 27, 48])) (n := 2000) (by rw [hP]; exact rput_c v _ q B rfl (by omega) (by omega) (by omega) (fun x hx => by have := (hpm x hx).2; omega) hBB) ?_ | refine xd_call hE (ks := (1000006 :: [0, 1, 2, 3, 4, 10, 11, 12, 15, 16, 17, 18, 19, 20, 21, 22, 23, 24, 25, 26, 27, 48])) (n := 2000) (by rw [hP]; exact rput_c v _ q B rfl (by omega) (by omega) (by omega) (fun x hx => by have := (hpm x hx).2; omega) hBB) ?_
  generalize rputM v q B = X at *
  simp only [go_sem, Nat.reduceAdd, Nat.reduceMul, ↓reduceIte, reduceCtorEq, Nat.reduceLeDiff, Int.reduceToNat, Int.reduceLT, Int.reduceLE, Int.reduceEq, Int.reduceNe, Int.reduceBEq, Int.reduceBNe, not_false_eq_true, not_true_eq_false, hP]
  refine ⟨by kernel_rfl, ?_⟩
  apply saw_join (fun f : Fl => (⟨103, [(3, .i budget), (15, .ptr 0 0)], [(0, some ⟨25, [.i f.ps, .p (.data 1 f.bs.length (f.bs.map bt))]⟩)], 1⟩ : AS)) (fun f => f.bs.length < 1000000)
  case tree =>
    intro hj
    split
    · first | refine xw_call hE (ks := (1000006 :: [0, 1, 2, 3, 4, 10, 11, 12, 15, 16, 17, 18, 19, 20, 21, 22, 23, 24, 25, 26, 27, 48])) (n := 2000) (by rw [hP]; exact lspoil9_c v _ rfl hvl.1 (by omega) (by omega) s) ?_ | refine xd_call hE (ks := (1000006 :: [0, 1, 2, 3, 4, 10, 11, 12, 15, 16, 17, 18, 19, 20, 21, 22, 23, 24, 25, 26, 27, 48])) (n := 2000) (by rw [hP]; exact lspoil9_c v _ rfl hvl.1 (by omega) (by omega) s) ?_
      have hsl := vspoil_len v s
      generalize vspoilM v s = x at *
      simp only [go_sem, Nat.reduceAdd, Nat.reduceMul, ↓reduceIte, reduceCtorEq, Nat.reduceLeDiff, Int.reduceToNat, Int.reduceLT, Int.reduceLE, Int.reduceEq, Int.reduceNe, Int.reduceBEq, Int.reduceBNe, not_false_eq_true, not_true_eq_false, hP]
      refine saw_to h0 (hj ⟨x.j.ps, x.j.bs⟩ (by show x.j.bs.length < 1000000; omega)) (subG [2] rfl ?_ ?_ rfl rfl (Nat.le_refl _))
      · simp only [go_sem, Nat.reduceAdd, Nat.reduceMul, ↓reduceIte, reduceCtorEq, Nat.reduceLeDiff, Int.reduceToNat, Int.reduceLT, Int.reduceLE, Int.reduceEq, Int.reduceNe, Int.reduceBEq, Int.reduceBNe, not_false_eq_true, not_true_eq_false]
      · simp only [go_sem, Nat.reduceAdd, Nat.reduceMul, ↓reduceIte, reduceCtorEq, Nat.reduceLeDiff, Int.reduceToNat, Int.reduceLT, Int.reduceLE, Int.reduceEq, Int.reduceNe, Int.reduceBEq, Int.reduceBNe, not_false_eq_true, not_true_eq_false]
    · refine saw_to h0 (hj ⟨X.v.j.ps, X.v.j.bs⟩ (by show X.v.j.bs.length < 1000000; omega)) (subG [2] rfl ?_ ?_ rfl rfl (Nat.le_refl _))
      · simp only [go_sem, Nat.reduceAdd, Nat.reduceMul, ↓reduceIte, reduceCtorEq, Nat.reduceLeDiff, Int.reduceToNat, Int.reduceLT, Int.reduceLE, Int.reduceEq, Int.reduceNe, Int.reduceBEq, Int.reduceBNe, not_false_eq_true, not_true_eq_false]
      · simp only [go_sem, Nat.reduceAdd, Nat.reduceMul, ↓reduceIte, reduceCtorEq, Nat.reduceLeDiff, Int.reduceToNat, Int.reduceLT, Int.reduceLE, Int.reduceEq, Int.reduceNe, Int.reduceBEq, Int.reduceBNe, not_false_eq_true, not_true_eq_false]
  intro f hf
  refine xw_go hE (ks := [0, 1, 2, 3, 4, 10, 11, 12, 15, 16, 17, 18, 19, 20, 21, 22, 23, 24, 25, 26, 27, 48]) (n := 2000) ?_
  have hb2 := band_bd budget 4095 (by decide) (by decide)
  obtain ⟨D, hw⟩ : ∃ D, IntKind.i64.wrap (band .i64 budget 4095 - 1500) = D := ⟨_, rfl⟩
  have hDD : i64 D := by rw [← hw, wrap_i64_id (by omega) (by omega)]; unfold i64; omega
  simp only [go_sem, Nat.reduceAdd, Nat.reduceMul, ↓reduceIte, reduceCtorEq, Nat.reduceLeDiff, Int.reduceToNat, Int.reduceLT, Int.reduceLE, Int.reduceEq, Int.reduceNe, Int.reduceBEq, Int.reduceBNe, not_false_eq_true, not_true_eq_false, hP, hw]
  first | refine xw_call hE (ks := [0, 1, 2, 3, 4, 10, 11, 12, 15, 16, 17, 18, 19, 20, 21, 22, 23, 24, 25, 26, 27, 48]) (n := 2000) (by rw [hP]; exact vopen_c f.ps f.bs _ D rfl (by omega) hDD) ?_ | refine xd_call hE (ks := [0, 1, 2, 3, 4, 10, 11, 12, 15, 16, 17, 18, 19, 20, 21, 22, 23, 24, 25, 26, 27, 48]) (n := 2000) (by rw [hP]; exact vopen_c f.ps f.bs _ D rfl (by omega) hDD) ?_
  rw [open_law]
  have hl1 := ropen_len ⟨f.ps, f.bs⟩ D hDD (by show f.bs.length < _; omega)
  simp only [go_sem, Nat.reduceAdd, Nat.reduceMul, ↓reduceIte, reduceCtorEq, Nat.reduceLeDiff, Int.reduceToNat, Int.reduceLT, Int.reduceLE, Int.reduceEq, Int.reduceNe, Int.reduceBEq, Int.reduceBNe, not_false_eq_true, not_true_eq_false, hP, hw]
  first | refine xw_call hE (ks := [0, 1, 2, 3, 4, 10, 11, 12, 15, 16, 17, 18, 19, 20, 21, 22, 23, 24, 25, 26, 27, 48]) (n := 2000) (by rw [hP]; exact ropen_c f.ps f.bs _ D rfl (by omega) hDD) ?_ | refine xd_call hE (ks := [0, 1, 2, 3, 4, 10, 11, 12, 15, 16, 17, 18, 19, 20, 21, 22, 23, 24, 25, 26, 27, 48]) (n := 2000) (by rw [hP]; exact ropen_c f.ps f.bs _ D rfl (by omega) hDD) ?_
  generalize ropenM ⟨f.ps, f.bs⟩ D = G at *
  simp only [go_sem, Nat.reduceAdd, Nat.reduceMul, ↓reduceIte, reduceCtorEq, Nat.reduceLeDiff, Int.reduceToNat, Int.reduceLT, Int.reduceLE, Int.reduceEq, Int.reduceNe, Int.reduceBEq, Int.reduceBNe, not_false_eq_true, not_true_eq_false, hP]
  first | refine xw_call hE (ks := [0, 1, 2, 3, 4, 10, 11, 12, 15, 16, 17, 18, 19, 20, 21, 22, 23, 24, 25, 26, 27, 48]) (n := 2000) (by rw [hP]; exact vopen_c f.ps f.bs _ (-1) rfl (by omega) (by unfold i64; decide)) ?_ | refine xd_call hE (ks := [0, 1, 2, 3, 4, 10, 11, 12, 15, 16, 17, 18, 19, 20, 21, 22, 23, 24, 25, 26, 27, 48]) (n := 2000) (by rw [hP]; exact vopen_c f.ps f.bs _ (-1) rfl (by omega) (by unfold i64; decide)) ?_
  rw [open_law]
  have hl2 := ropen_len ⟨f.ps, f.bs⟩ (-1) (by unfold i64; decide) (by show f.bs.length < _; omega)
  simp only [go_sem, Nat.reduceAdd, Nat.reduceMul, ↓reduceIte, reduceCtorEq, Nat.reduceLeDiff, Int.reduceToNat, Int.reduceLT, Int.reduceLE, Int.reduceEq, Int.reduceNe, Int.reduceBEq, Int.reduceBNe, not_false_eq_true, not_true_eq_false, hP]
  first | refine xw_call hE (ks := [0, 1, 2, 3, 4, 10, 11, 12, 15, 16, 17, 18, 19, 20, 21, 22, 23, 24, 25, 26, 27, 48]) (n := 2000) (by rw [hP]; exact ropen_c f.ps f.bs _ (-1) rfl (by omega) (by unfold i64; decide)) ?_ | refine xd_call hE (ks := [0, 1, 2, 3, 4, 10, 11, 12, 15, 16, 17, 18, 19, 20, 21, 22, 23, 24, 25, 26, 27, 48]) (n := 2000) (by rw [hP]; exact ropen_c f.ps f.bs _ (-1) rfl (by omega) (by unfold i64; decide)) ?_
  generalize ropenM ⟨f.ps, f.bs⟩ (-1) = H at *
  simp only [go_sem, Nat.reduceAdd, Nat.reduceMul, ↓reduceIte, reduceCtorEq, Nat.reduceLeDiff, Int.reduceToNat, Int.reduceLT, Int.reduceLE, Int.reduceEq, Int.reduceNe, Int.reduceBEq, Int.reduceBNe, not_false_eq_true, not_true_eq_false, hP]
  first | refine xw_call hE (ks := [0, 1, 2, 3, 4, 10, 11, 12, 15, 16, 17, 18, 19, 20, 21, 22, 23, 24, 25, 26, 27, 48]) (n := 2000) (by rw [hP]; exact same9_c G.v G.v G.left G.err G.left G.err _ _ (by omega)) ?_ | refine xd_call hE (ks := [0, 1, 2, 3, 4, 10, 11, 12, 15, 16, 17, 18, 19, 20, 21, 22, 23, 24, 25, 26, 27, 48]) (n := 2000) (by rw [hP]; exact same9_c G.v G.v G.left G.err G.left G.err _ _ (by omega)) ?_
  simp only [sameJ_self, beq_self_eq_true, Bool.and_self, decide_true]
  simp only [go_sem, Nat.reduceAdd, Nat.reduceMul, ↓reduceIte, reduceCtorEq, Nat.reduceLeDiff, Int.reduceToNat, Int.reduceLT, Int.reduceLE, Int.reduceEq, Int.reduceNe, Int.reduceBEq, Int.reduceBNe, not_false_eq_true, not_true_eq_false, hP]
  first | refine xw_call hE (ks := [0, 1, 2, 3, 4, 10, 11, 12, 15, 16, 17, 18, 19, 20, 21, 22, 23, 24, 25, 26, 27, 48]) (n := 2000) (by rw [hP]; exact same9_c H.v H.v H.left H.err H.left H.err _ _ (by omega)) ?_ | refine xd_call hE (ks := [0, 1, 2, 3, 4, 10, 11, 12, 15, 16, 17, 18, 19, 20, 21, 22, 23, 24, 25, 26, 27, 48]) (n := 2000) (by rw [hP]; exact same9_c H.v H.v H.left H.err H.left H.err _ _ (by omega)) ?_
  simp only [sameJ_self, beq_self_eq_true, Bool.and_self, decide_true]
  simp only [go_sem, Nat.reduceAdd, Nat.reduceMul, ↓reduceIte, reduceCtorEq, Nat.reduceLeDiff, Int.reduceToNat, Int.reduceLT, Int.reduceLE, Int.reduceEq, Int.reduceNe, Int.reduceBEq, Int.reduceBNe, not_false_eq_true, not_true_eq_false, hP]
  first | refine xw_call hE (ks := [0, 1, 2, 3, 4, 10, 11, 12, 15, 16, 17, 18, 19, 20, 21, 22, 23, 24, 25, 26, 27, 48]) (n := 2000) (by rw [hP]; exact awake9_c) ?_ | refine xd_call hE (ks := [0, 1, 2, 3, 4, 10, 11, 12, 15, 16, 17, 18, 19, 20, 21, 22, 23, 24, 25, 26, 27, 48]) (n := 2000) (by rw [hP]; exact awake9_c) ?_
  simp only [go_sem, Nat.reduceAdd, Nat.reduceMul, ↓reduceIte, reduceCtorEq, Nat.reduceLeDiff, Int.reduceToNat, Int.reduceLT, Int.reduceLE, Int.reduceEq, Int.reduceNe, Int.reduceBEq, Int.reduceBNe, not_false_eq_true, not_true_eq_false, hP]

end Go.Proofs.YtcnpgmlkocbhkaaGreat

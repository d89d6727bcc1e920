/-
  The law VaultAtomic: the contract of its function. Own work.
-/
import Derived.Test.YtcnpgmlkocbhkaaGreatVs
namespace Go.Proofs.YtcnpgmlkocbhkaaGreat
set_option linter.unusedSimpArgs false
set_option linter.unusedVariables false
open Go Go.Abs Go.RowKit

set_option maxRecDepth 4000 in
set_option maxHeartbeats 2000000 in
theorem vatomic_c (n : Int) (l : List Int) (r z : Int) (hz : 0 ≤ z ∧ z ≤ 65535) : FPure Tryz.prog 7 [.i n, .p (.data 1 l.length (l.map it)), .i r, .p (.v (.int .u16 z))] (.b true) := by
  refine fpure_x hmix Tryz.func7 rfl (by kernel_rfl) Tryz.ntmps7 Tryz.results7 (by simp) (by simp [idsL, idsA]) [0, 1, 2, 3, 8, 9, 10, 11, 12, 13, 16, 17, 19, 37, 53] ?_; intro c hP h0 hE
  simp only [go_sem, Nat.reduceAdd, Nat.reduceMul, ↓reduceIte, reduceCtorEq, Nat.reduceLeDiff, Int.reduceToNat, Int.reduceLT, Int.reduceLE, Int.reduceEq, Int.reduceNe, Int.reduceBEq, Int.reduceBNe, not_false_eq_true, not_true_eq_false, hP]
  first | refine xw_call hE (ks := [0, 1, 2, 3, 8, 9, 10, 11, 12, 13, 16, 17, 19, 37, 53]) (n := 2000) (by rw [hP]; exact lmade9_c n l _ rfl) ?_ | refine xd_call hE (ks := [0, 1, 2, 3, 8, 9, 10, 11, 12, 13, 16, 17, 19, 37, 53]) (n := 2000) (by rw [hP]; exact lmade9_c n l _ rfl) ?_
  have hok := vmade_ok n l
  generalize vmadeM n l = v at *
  have hvl := hok.mt.len
  have hvp := hok.prl
  simp only [go_sem, Nat.reduceAdd, Nat.reduceMul, ↓reduceIte, reduceCtorEq, Nat.reduceLeDiff, Int.reduceToNat, Int.reduceLT, Int.reduceLE, Int.reduceEq, Int.reduceNe, Int.reduceBEq, Int.reduceBNe, not_false_eq_true, not_true_eq_false, hP]
  have hk := band_bd r 33554431 (by decide) (by decide)
  first | refine xw_call hE (ks := [0, 1, 2, 3, 8, 9, 10, 11, 12, 13, 16, 17, 19, 37, 53]) (n := 2000) (by rw [hP]; exact lpairs_c (band .i64 r 33554431) hk.1) ?_ | refine xd_call hE (ks := [0, 1, 2, 3, 8, 9, 10, 11, 12, 13, 16, 17, 19, 37, 53]) (n := 2000) (by rw [hP]; exact lpairs_c (band .i64 r 33554431) hk.1) ?_
  have hpl := pairsM_len (band .i64 r 33554431)
  have hpm := pairsM_mem (band .i64 r 33554431)
  generalize pairsM (band .i64 r 33554431) = q at *
  simp only [go_sem, Nat.reduceAdd, Nat.reduceMul, ↓reduceIte, reduceCtorEq, Nat.reduceLeDiff, Int.reduceToNat, Int.reduceLT, Int.reduceLE, Int.reduceEq, Int.reduceNe, Int.reduceBEq, Int.reduceBNe, not_false_eq_true, not_true_eq_false, hP]
  have hz1 := Int.tmod_nonneg (1500 : Int) hz.1
  have hz2 := Int.tmod_lt_of_pos z (show (0 : Int) < 1500 by decide)
  rw [wrap_i64_id (n := z.tmod 1500) (by omega) (by omega)]
  have hB : i64 (z.tmod 1500) := by unfold i64; omega
  generalize z.tmod 1500 = B at *
  have hends := put_ok hok (by decide) q B
  first | refine xw_call hE (ks := [0, 1, 2, 3, 8, 9, 10, 11, 12, 13, 16, 17, 19, 37, 53]) (n := 2000) (by rw [hP]; exact vput_c v _ q B rfl (by omega) (by omega) (fun x hx => by have := (hpm x hx).2; omega) hB) ?_ | refine xd_call hE (ks := [0, 1, 2, 3, 8, 9, 10, 11, 12, 13, 16, 17, 19, 37, 53]) (n := 2000) (by rw [hP]; exact vput_c v _ q B rfl (by omega) (by omega) (fun x hx => by have := (hpm x hx).2; omega) hB) ?_
  rw [put_law]
  have hlen := rput_len v q B hB (by omega) (fun x hx => by have := (hpm x hx).2; omega) (by omega)
  obtain ⟨G, hG⟩ : ∃ G, rputM v q B = G := ⟨_, rfl⟩
  rw [hG] at hends hlen ⊢
  have hwl := withM_len v.prs q
  simp only [go_sem, Nat.reduceAdd, Nat.reduceMul, ↓reduceIte, reduceCtorEq, Nat.reduceLeDiff, Int.reduceToNat, Int.reduceLT, Int.reduceLE, Int.reduceEq, Int.reduceNe, Int.reduceBEq, Int.reduceBNe, not_false_eq_true, not_true_eq_false, hP]
  split
  · rename_i he
    rcases hends with ⟨_, hw, hpr, hlf, _⟩ | ⟨h1, _⟩ | ⟨h1, _⟩
    case inr.inl => rw [he] at h1; cases h1
    case inr.inr => exact absurd he h1
    have hlf := hlf hz1
    rw [if_pos hlf]
    first | refine xw_call hE (ks := [0, 1, 2, 3, 8, 9, 10, 11, 12, 13, 16, 17, 19, 37, 53]) (n := 2000) (by rw [hP]; exact rwith_c v.prs q (by omega)) ?_ | refine xd_call hE (ks := [0, 1, 2, 3, 8, 9, 10, 11, 12, 13, 16, 17, 19, 37, 53]) (n := 2000) (by rw [hP]; exact rwith_c v.prs q (by omega)) ?_
    simp only [go_sem, Nat.reduceAdd, Nat.reduceMul, ↓reduceIte, reduceCtorEq, Nat.reduceLeDiff, Int.reduceToNat, Int.reduceLT, Int.reduceLE, Int.reduceEq, Int.reduceNe, Int.reduceBEq, Int.reduceBNe, not_false_eq_true, not_true_eq_false, hP]
    first | refine xw_call hE (ks := [0, 1, 2, 3, 8, 9, 10, 11, 12, 13, 16, 17, 19, 37, 53]) (n := 2000) (by rw [hP]; exact rsamePairs_c G.v.prs (withM v.prs q) (by omega)) ?_ | refine xd_call hE (ks := [0, 1, 2, 3, 8, 9, 10, 11, 12, 13, 16, 17, 19, 37, 53]) (n := 2000) (by rw [hP]; exact rsamePairs_c G.v.prs (withM v.prs q) (by omega)) ?_
    rw [hpr, decide_eq_true rfl]
    simp only [go_sem, Nat.reduceAdd, Nat.reduceMul, ↓reduceIte, reduceCtorEq, Nat.reduceLeDiff, Int.reduceToNat, Int.reduceLT, Int.reduceLE, Int.reduceEq, Int.reduceNe, Int.reduceBEq, Int.reduceBNe, not_false_eq_true, not_true_eq_false, hP]
    first | refine xw_call hE (ks := [0, 1, 2, 3, 8, 9, 10, 11, 12, 13, 16, 17, 19, 37, 53]) (n := 2000) (by rw [hP]; exact awake9_c) ?_ | refine xd_call hE (ks := [0, 1, 2, 3, 8, 9, 10, 11, 12, 13, 16, 17, 19, 37, 53]) (n := 2000) (by rw [hP]; exact awake9_c) ?_
    simp only [go_sem, Nat.reduceAdd, Nat.reduceMul, ↓reduceIte, reduceCtorEq, Nat.reduceLeDiff, Int.reduceToNat, Int.reduceLT, Int.reduceLE, Int.reduceEq, Int.reduceNe, Int.reduceBEq, Int.reduceBNe, not_false_eq_true, not_true_eq_false, hP]
    kernel_rfl
  · rename_i he
    split
    · rename_i he16
      rcases hends with ⟨h1, _⟩ | ⟨h1, _⟩ | ⟨h1, h2, h3, _⟩
      · exact absurd h1 he
      · exact absurd h1 he16
      first | refine xw_call hE (ks := [0, 1, 2, 3, 8, 9, 10, 11, 12, 13, 16, 17, 19, 37, 53]) (n := 2000) (by rw [hP]; exact rput_c v _ q (-1) rfl (by omega) (by omega) (by omega) (fun x hx => by have := (hpm x hx).2; omega) (by unfold i64; decide)) ?_ | refine xd_call hE (ks := [0, 1, 2, 3, 8, 9, 10, 11, 12, 13, 16, 17, 19, 37, 53]) (n := 2000) (by rw [hP]; exact rput_c v _ q (-1) rfl (by omega) (by omega) (by omega) (fun x hx => by have := (hpm x hx).2; omega) (by unfold i64; decide)) ?_
      generalize rputM v q (-1) = H at *
      simp only [go_sem, Nat.reduceAdd, Nat.reduceMul, ↓reduceIte, reduceCtorEq, Nat.reduceLeDiff, Int.reduceToNat, Int.reduceLT, Int.reduceLE, Int.reduceEq, Int.reduceNe, Int.reduceBEq, Int.reduceBNe, not_false_eq_true, not_true_eq_false, hP]
      rw [if_pos h3, if_pos (by rw [← h3]; exact h1)]
      first | refine xw_call hE (ks := [0, 1, 2, 3, 8, 9, 10, 11, 12, 13, 16, 17, 19, 37, 53]) (n := 2000) (by rw [hP]; exact awake9_c) ?_ | refine xd_call hE (ks := [0, 1, 2, 3, 8, 9, 10, 11, 12, 13, 16, 17, 19, 37, 53]) (n := 2000) (by rw [hP]; exact awake9_c) ?_
      simp only [go_sem, Nat.reduceAdd, Nat.reduceMul, ↓reduceIte, reduceCtorEq, Nat.reduceLeDiff, Int.reduceToNat, Int.reduceLT, Int.reduceLE, Int.reduceEq, Int.reduceNe, Int.reduceBEq, Int.reduceBNe, not_false_eq_true, not_true_eq_false, hP]
    · rename_i he16
      have he16 : G.err = 16 := by simpa using he16
      rcases hends with ⟨h1, _⟩ | ⟨_, hlf, _, _, hf⟩ | ⟨_, h1, _⟩
      case inl => exact absurd h1 he
      case inr.inr => exact absurd he16 h1
      first | refine xw_call hE (ks := [0, 1, 2, 3, 8, 9, 10, 11, 12, 13, 16, 17, 19, 37, 53]) (n := 2000) (by rw [hP]; exact vopen_c G.v.j.ps G.v.j.bs _ (-1) rfl (by omega) (by unfold i64; decide)) ?_ | refine xd_call hE (ks := [0, 1, 2, 3, 8, 9, 10, 11, 12, 13, 16, 17, 19, 37, 53]) (n := 2000) (by rw [hP]; exact vopen_c G.v.j.ps G.v.j.bs _ (-1) rfl (by omega) (by unfold i64; decide)) ?_
      rw [open_law]
      have hl1 := ropen_len ⟨G.v.j.ps, G.v.j.bs⟩ (-1) (by unfold i64; decide) (by show G.v.j.bs.length < _; omega)
      have hop : (ropenM ⟨G.v.j.ps, G.v.j.bs⟩ (-1)).err = 0 ∧ ((ropenM ⟨G.v.j.ps, G.v.j.bs⟩ (-1)).v.prs = v.prs ∨ (ropenM ⟨G.v.j.ps, G.v.j.bs⟩ (-1)).v.prs = withM v.prs q) := by
        have hfl : flOf G.v.j = ⟨G.v.j.ps, G.v.j.bs⟩ := rfl
        rw [hfl] at hf
        rcases hf with hf | hf
        · rcases open_ok hf (by decide) (-1) with ⟨h1, _, h2, _⟩ | ⟨_, h2, _⟩
          · exact ⟨h1, .inl h2⟩
          · omega
        · rcases open_ok hf (by decide) (-1) with ⟨h1, _, h2, _⟩ | ⟨_, h2, _⟩
          · exact ⟨h1, .inr h2⟩
          · omega
      generalize ropenM ⟨G.v.j.ps, G.v.j.bs⟩ (-1) = H at *
      obtain ⟨hH, hpr⟩ := hop
      simp only [go_sem, Nat.reduceAdd, Nat.reduceMul, ↓reduceIte, reduceCtorEq, Nat.reduceLeDiff, Int.reduceToNat, Int.reduceLT, Int.reduceLE, Int.reduceEq, Int.reduceNe, Int.reduceBEq, Int.reduceBNe, not_false_eq_true, not_true_eq_false, hP]
      rw [if_pos hH, if_pos hlf]
      first | refine xw_call hE (ks := [0, 1, 2, 3, 8, 9, 10, 11, 12, 13, 16, 17, 19, 37, 53]) (n := 2000) (by rw [hP]; exact rsamePairs_c H.v.prs v.prs (by omega)) ?_ | refine xd_call hE (ks := [0, 1, 2, 3, 8, 9, 10, 11, 12, 13, 16, 17, 19, 37, 53]) (n := 2000) (by rw [hP]; exact rsamePairs_c H.v.prs v.prs (by omega)) ?_
      by_cases ha : H.v.prs = v.prs
      · rw [decide_eq_true ha]
        simp only [go_sem, Nat.reduceAdd, Nat.reduceMul, ↓reduceIte, reduceCtorEq, Nat.reduceLeDiff, Int.reduceToNat, Int.reduceLT, Int.reduceLE, Int.reduceEq, Int.reduceNe, Int.reduceBEq, Int.reduceBNe, not_false_eq_true, not_true_eq_false, hP]
        first | refine xw_call hE (ks := [0, 1, 2, 3, 8, 9, 10, 11, 12, 13, 16, 17, 19, 37, 53]) (n := 2000) (by rw [hP]; exact awake9_c) ?_ | refine xd_call hE (ks := [0, 1, 2, 3, 8, 9, 10, 11, 12, 13, 16, 17, 19, 37, 53]) (n := 2000) (by rw [hP]; exact awake9_c) ?_
        simp only [go_sem, Nat.reduceAdd, Nat.reduceMul, ↓reduceIte, reduceCtorEq, Nat.reduceLeDiff, Int.reduceToNat, Int.reduceLT, Int.reduceLE, Int.reduceEq, Int.reduceNe, Int.reduceBEq, Int.reduceBNe, not_false_eq_true, not_true_eq_false, hP]
        kernel_rfl
      · rw [decide_eq_false ha]
        simp only [go_sem, Nat.reduceAdd, Nat.reduceMul, ↓reduceIte, reduceCtorEq, Nat.reduceLeDiff, Int.reduceToNat, Int.reduceLT, Int.reduceLE, Int.reduceEq, Int.reduceNe, Int.reduceBEq, Int.reduceBNe, not_false_eq_true, not_true_eq_false, hP]
        first | refine xw_call hE (ks := [0, 1, 2, 3, 8, 9, 10, 11, 12, 13, 16, 17, 19, 37, 53]) (n := 2000) (by rw [hP]; exact rwith_c v.prs q (by omega)) ?_ | refine xd_call hE (ks := [0, 1, 2, 3, 8, 9, 10, 11, 12, 13, 16, 17, 19, 37, 53]) (n := 2000) (by rw [hP]; exact rwith_c v.prs q (by omega)) ?_
        simp only [go_sem, Nat.reduceAdd, Nat.reduceMul, ↓reduceIte, reduceCtorEq, Nat.reduceLeDiff, Int.reduceToNat, Int.reduceLT, Int.reduceLE, Int.reduceEq, Int.reduceNe, Int.reduceBEq, Int.reduceBNe, not_false_eq_true, not_true_eq_false, hP]
        first | refine xw_call hE (ks := [0, 1, 2, 3, 8, 9, 10, 11, 12, 13, 16, 17, 19, 37, 53]) (n := 2000) (by rw [hP]; exact rsamePairs_c H.v.prs (withM v.prs q) (by omega)) ?_ | refine xd_call hE (ks := [0, 1, 2, 3, 8, 9, 10, 11, 12, 13, 16, 17, 19, 37, 53]) (n := 2000) (by rw [hP]; exact rsamePairs_c H.v.prs (withM v.prs q) (by omega)) ?_
        rw [decide_eq_true (hpr.resolve_left ha)]
        simp only [go_sem, Nat.reduceAdd, Nat.reduceMul, ↓reduceIte, reduceCtorEq, Nat.reduceLeDiff, Int.reduceToNat, Int.reduceLT, Int.reduceLE, Int.reduceEq, Int.reduceNe, Int.reduceBEq, Int.reduceBNe, not_false_eq_true, not_true_eq_false, hP]
        first | refine xw_call hE (ks := [0, 1, 2, 3, 8, 9, 10, 11, 12, 13, 16, 17, 19, 37, 53]) (n := 2000) (by rw [hP]; exact awake9_c) ?_ | refine xd_call hE (ks := [0, 1, 2, 3, 8, 9, 10, 11, 12, 13, 16, 17, 19, 37, 53]) (n := 2000) (by rw [hP]; exact awake9_c) ?_
        simp only [go_sem, Nat.reduceAdd, Nat.reduceMul, ↓reduceIte, reduceCtorEq, Nat.reduceLeDiff, Int.reduceToNat, Int.reduceLT, Int.reduceLE, Int.reduceEq, Int.reduceNe, Int.reduceBEq, Int.reduceBNe, not_false_eq_true, not_true_eq_false, hP]
        kernel_rfl

end Go.Proofs.YtcnpgmlkocbhkaaGreat

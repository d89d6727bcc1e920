/-
  The law VaultGets: the contract of its function. Own work.
-/
import Derived.Test.YtcnpgmlkocbhkaaGreatVr
namespace Go.Proofs.YtcnpgmlkocbhkaaGreat
set_option linter.unusedSimpArgs false
set_option linter.unusedVariables false
open Go Go.Abs Go.RowKit

theorem vget_del (k k' : Int) : ∀ s : Store, vgetM k (delS k' s) = if k' = k then [] else vgetM k s
  | [] => by simp [delS, vgetM]
  | q :: r => by
    rw [delS_cons]
    have ih := vget_del k k' r
    by_cases h1 : q.1 = k'
    · rw [if_neg (fun c => c h1), ih]
      by_cases h2 : k' = k
      · rw [if_pos h2, if_pos h2]
      · rw [if_neg h2, if_neg h2]
        simp only [vgetM]
        rw [if_neg (by omega)]
    · rw [if_pos h1]
      simp only [vgetM]
      by_cases h3 : q.1 = k
      · rw [if_pos h3, if_neg (by omega), if_pos h3]
      · rw [if_neg h3, ih, if_neg h3]
theorem vget_ins (k k' : Int) (v : List UInt8) : ∀ s : Store, (∀ x, x ∈ s → x.1 ≠ k') → vgetM k (insS k' v s) = if k' = k then v else vgetM k s
  | [], _ => by simp [insS, vgetM]
  | q :: r, h => by
    have ih := vget_ins k k' v r (fun x hx => h x (by simp [hx]))
    have hq := h q (by simp)
    simp only [insS]
    split
    · simp only [vgetM]
    · simp only [vgetM]
      rw [ih]
      by_cases h3 : q.1 = k
      · rw [if_pos h3, if_neg (by omega), if_pos h3]
      · rw [if_neg h3, if_neg h3]
theorem vget_apply1 (k : Int) (s : Store) (p : Int × List UInt8) : vgetM k (apply1 s p) = if p.1 = k then p.2 else vgetM k s := by
  unfold apply1
  split
  · rename_i h
    rw [vget_del, List.eq_nil_of_length_eq_zero h]
  · unfold putS
    rw [vget_ins _ _ _ _ (fun x hx => by have := (List.mem_filter.1 hx).2; simpa using this), vget_del]
    by_cases h : p.1 = k
    · rw [if_pos h, if_pos h]
    · rw [if_neg h, if_neg h, if_neg h]
def wantM (k : Int) (s x : Store) : List UInt8 := x.foldl (fun w p => if p.1 = k then p.2 else w) (vgetM k s)
theorem wantM_take (k : Int) (s x : Store) (i : Nat) (h : i < x.length) : wantM k s (x.take (i + 1)) = if (x.getD i (0, [])).1 = k then (x.getD i (0, [])).2 else wantM k s (x.take i) := by
  unfold wantM; rw [take_at x i h, List.foldl_append]; rfl
theorem wantM_apply (k : Int) : ∀ (x s : Store), vgetM k (applyM s x) = wantM k s x
  | [], s => rfl
  | p :: x, s => by
    show vgetM k (applyM (apply1 s p) x) = _
    rw [wantM_apply k x (apply1 s p)]
    unfold wantM
    rw [List.foldl_cons, vget_apply1]
theorem wantM_with (k : Int) {s : Store} (h : Srt s) (x : Store) : vgetM k (withM s x) = wantM k s x := by
  rw [(withM_apply x s h).1, wantM_apply]
theorem vgetM_len (k : Int) (s : Store) (M : Nat) (h : ∀ x, x ∈ s → x.2.length ≤ M) : (vgetM k s).length ≤ M := by
  induction s with
  | nil => simp [vgetM]
  | cons p s ih =>
    simp only [vgetM]
    split
    · exact h p (by simp)
    · exact ih (fun x hx => h x (by simp [hx]))

set_option maxRecDepth 4000 in
set_option maxHeartbeats 2000000 in
theorem vgets_c (n : Int) (l : List Int) (r : Int) : FPure Tryz.prog 6 [.i n, .p (.data 1 l.length (l.map it)), .i r] (.b true) := by
  refine fpure_x hmix Tryz.func6 rfl (by kernel_rfl) Tryz.ntmps6 Tryz.results6 (by simp) (by simp [idsL, idsA]) [0, 1, 2, 6, 7, 8, 9, 11, 14, 15, 16, 17, 32, 47, 56, 65, 77] ?_; intro c hP h0 hE
  simp only [go_sem, Nat.reduceAdd, Nat.reduceMul, ↓reduceIte, reduceCtorEq, Nat.reduceLeDiff, Int.reduceToNat, Int.reduceLT, Int.reduceLE, Int.reduceEq, Int.reduceNe, Int.reduceBEq, Int.reduceBNe, not_false_eq_true, not_true_eq_false, hP]
  first | refine xw_call hE (ks := [0, 1, 2, 6, 7, 8, 9, 11, 14, 15, 16, 17, 32, 47, 56, 65, 77]) (n := 2000) (by rw [hP]; exact lmade9_c n l _ rfl) ?_ | refine xd_call hE (ks := [0, 1, 2, 6, 7, 8, 9, 11, 14, 15, 16, 17, 32, 47, 56, 65, 77]) (n := 2000) (by rw [hP]; exact lmade9_c n l _ rfl) ?_
  have hok := vmade_ok n l
  generalize vmadeM n l = v at *
  have hvl := hok.mt.len
  have hvp := hok.prl
  simp only [go_sem, Nat.reduceAdd, Nat.reduceMul, ↓reduceIte, reduceCtorEq, Nat.reduceLeDiff, Int.reduceToNat, Int.reduceLT, Int.reduceLE, Int.reduceEq, Int.reduceNe, Int.reduceBEq, Int.reduceBNe, not_false_eq_true, not_true_eq_false, hP]
  have hk := band_bd r 33554431 (by decide) (by decide)
  first | refine xw_call hE (ks := [0, 1, 2, 6, 7, 8, 9, 11, 14, 15, 16, 17, 32, 47, 56, 65, 77]) (n := 2000) (by rw [hP]; exact lpairs_c (band .i64 r 33554431) hk.1) ?_ | refine xd_call hE (ks := [0, 1, 2, 6, 7, 8, 9, 11, 14, 15, 16, 17, 32, 47, 56, 65, 77]) (n := 2000) (by rw [hP]; exact lpairs_c (band .i64 r 33554431) hk.1) ?_
  have hpl := pairsM_len (band .i64 r 33554431)
  have hpm := pairsM_mem (band .i64 r 33554431)
  generalize pairsM (band .i64 r 33554431) = q at *
  simp only [go_sem, Nat.reduceAdd, Nat.reduceMul, ↓reduceIte, reduceCtorEq, Nat.reduceLeDiff, Int.reduceToNat, Int.reduceLT, Int.reduceLE, Int.reduceEq, Int.reduceNe, Int.reduceBEq, Int.reduceBNe, not_false_eq_true, not_true_eq_false, hP]
  have hBB : i64 (-1) := by unfold i64; decide
  have hends := put_ok hok (by decide) q (-1)
  first | refine xw_call hE (ks := [0, 1, 2, 6, 7, 8, 9, 11, 14, 15, 16, 17, 32, 47, 56, 65, 77]) (n := 2000) (by rw [hP]; exact vput_c v _ q (-1) rfl (by omega) (by omega) (fun x hx => by have := (hpm x hx).2; omega) hBB) ?_ | refine xd_call hE (ks := [0, 1, 2, 6, 7, 8, 9, 11, 14, 15, 16, 17, 32, 47, 56, 65, 77]) (n := 2000) (by rw [hP]; exact vput_c v _ q (-1) rfl (by omega) (by omega) (fun x hx => by have := (hpm x hx).2; omega) hBB) ?_
  rw [put_law]
  have hlen := rput_len v q (-1) hBB (by omega) (fun x hx => by have := (hpm x hx).2; omega) (by omega)
  obtain ⟨G, hG⟩ : ∃ G, rputM v q (-1) = G := ⟨_, rfl⟩
  rw [hG] at hends hlen ⊢
  simp only [go_sem, Nat.reduceAdd, Nat.reduceMul, ↓reduceIte, reduceCtorEq, Nat.reduceLeDiff, Int.reduceToNat, Int.reduceLT, Int.reduceLE, Int.reduceEq, Int.reduceNe, Int.reduceBEq, Int.reduceBNe, not_false_eq_true, not_true_eq_false, hP]
  split
  · rename_i he
    rcases hends with ⟨h1, _⟩ | ⟨_, _, h1, _⟩ | hends
    · exact absurd h1 he
    · omega
    first | refine xw_call hE (ks := [0, 1, 2, 6, 7, 8, 9, 11, 14, 15, 16, 17, 32, 47, 56, 65, 77]) (n := 2000) (by rw [hP]; exact rput_c v _ q (-1) rfl (by omega) (by omega) (by omega) (fun x hx => by have := (hpm x hx).2; omega) hBB) ?_ | refine xd_call hE (ks := [0, 1, 2, 6, 7, 8, 9, 11, 14, 15, 16, 17, 32, 47, 56, 65, 77]) (n := 2000) (by rw [hP]; exact rput_c v _ q (-1) rfl (by omega) (by omega) (by omega) (fun x hx => by have := (hpm x hx).2; omega) hBB) ?_
    rw [hG]
    simp only [go_sem, Nat.reduceAdd, Nat.reduceMul, ↓reduceIte, reduceCtorEq, Nat.reduceLeDiff, Int.reduceToNat, Int.reduceLT, Int.reduceLE, Int.reduceEq, Int.reduceNe, Int.reduceBEq, Int.reduceBNe, not_false_eq_true, not_true_eq_false, hP]
    first | refine xw_call hE (ks := [0, 1, 2, 6, 7, 8, 9, 11, 14, 15, 16, 17, 32, 47, 56, 65, 77]) (n := 2000) (by rw [hP]; exact awake9_c) ?_ | refine xd_call hE (ks := [0, 1, 2, 6, 7, 8, 9, 11, 14, 15, 16, 17, 32, 47, 56, 65, 77]) (n := 2000) (by rw [hP]; exact awake9_c) ?_
    simp only [go_sem, Nat.reduceAdd, Nat.reduceMul, ↓reduceIte, reduceCtorEq, Nat.reduceLeDiff, Int.reduceToNat, Int.reduceLT, Int.reduceLE, Int.reduceEq, Int.reduceNe, Int.reduceBEq, Int.reduceBNe, not_false_eq_true, not_true_eq_false, hP]
  · rename_i he
    rcases hends with ⟨_, hw, hpr, _, _⟩ | ⟨h1, _⟩ | ⟨h1, _⟩
    case inr.inl => rw [h1] at he; exact absurd (by decide) he
    case inr.inr => exact absurd h1 he
    have hwp := hw.prl
    have hwl := hw.mt.len
    have hvs : ∀ x, x ∈ v.prs → x.2.length ≤ 8192 := fun x hx => by have := hok.so.el x hx; omega
    have hgs : ∀ x, x ∈ G.v.prs → x.2.length < 1000000000 ∧ x.2 ≠ [] := fun x hx => by have := hw.so.el x hx; exact ⟨by omega, this.1⟩
    have hwant : ∀ k, vgetM k G.v.prs = wantM k v.prs q := fun k => by rw [hpr]; exact wantM_with k hok.so.srt q
    clear hG
    obtain ⟨N256, h256⟩ : ∃ N : Nat, N = 256 := ⟨_, rfl⟩
    refine xw_for hE h0 [0, 1, 2, 6, 7, 8, 9, 11, 14, 15, 16, 17, 32, 47, 56, 65, 77] N256 (fun i => ⟨79, [(7, .ptr 0 0), (8, .p (PL q)), (9, .ptr 1 0), (15, .i i)], [(1, some ⟨30, vtC G.v⟩), (0, some ⟨30, vtC v⟩)], 2⟩) [] (fun i => i) ?_ ?_
    · refine ⟨rfl, ?_, ?_, rfl, rfl, trivial, fun i h => h⟩
      · simp only [go_sem, Nat.reduceAdd, Nat.reduceMul, ↓reduceIte, reduceCtorEq, Nat.reduceLeDiff, Int.reduceToNat, Int.reduceLT, Int.reduceLE, Int.reduceEq, Int.reduceNe, Int.reduceBEq, Int.reduceBNe, not_false_eq_true, not_true_eq_false]
      · simp only [go_sem, Nat.reduceAdd, Nat.reduceMul, ↓reduceIte, reduceCtorEq, Nat.reduceLeDiff, Int.reduceToNat, Int.reduceLT, Int.reduceLE, Int.reduceEq, Int.reduceNe, Int.reduceBEq, Int.reduceBNe, not_false_eq_true, not_true_eq_false, vtC]
    · intro i hi
      by_cases hin : i < N256
      · have hc : ((i : Int) < 256) := by omega
        simp only [go_sem, Nat.reduceAdd, Nat.reduceMul, ↓reduceIte, reduceCtorEq, Nat.reduceLeDiff, Int.reduceToNat, Int.reduceLT, Int.reduceLE, Int.reduceEq, Int.reduceNe, Int.reduceBEq, Int.reduceBNe, not_false_eq_true, not_true_eq_false, hP, vtC, hc]
        have hvg := vgetM_len i v.prs 8192 hvs
        first | refine xw_call hE (ks := [0, 1, 2, 6, 7, 8, 9, 11, 14, 15, 16, 17, 32, 47, 56, 65, 77]) (n := 2000) (by rw [hP]; exact rget_c v _ (i : Int) (by omega) (fun x hx => by have := hvs x hx; omega)) ?_ | refine xd_call hE (ks := [0, 1, 2, 6, 7, 8, 9, 11, 14, 15, 16, 17, 32, 47, 56, 65, 77]) (n := 2000) (by rw [hP]; exact rget_c v _ (i : Int) (by omega) (fun x hx => by have := hvs x hx; omega)) ?_
        simp only [go_sem, Nat.reduceAdd, Nat.reduceMul, ↓reduceIte, reduceCtorEq, Nat.reduceLeDiff, Int.reduceToNat, Int.reduceLT, Int.reduceLE, Int.reduceEq, Int.reduceNe, Int.reduceBEq, Int.reduceBNe, not_false_eq_true, not_true_eq_false, hP]
        refine xw_for hE h0 [0, 1, 2, 6, 7, 8, 9, 11, 14, 15, 16, 17, 32, 47, 56, 65, 77] q.length (fun m => ⟨79, [(7, .ptr 0 0), (8, .p (PL q)), (9, .ptr 1 0), (15, .i i), (16, .p (.data 1 (wantM i v.prs (q.take m)).length ((wantM i v.prs (q.take m)).map bt))), (17, .i m)], [(1, some ⟨30, vtC G.v⟩), (0, some ⟨30, vtC v⟩)], 2⟩) [] (fun i => i) ?_ ?_
        · refine ⟨rfl, ?_, ?_, rfl, rfl, trivial, fun i h => h⟩
          · simp only [go_sem, Nat.reduceAdd, Nat.reduceMul, ↓reduceIte, reduceCtorEq, Nat.reduceLeDiff, Int.reduceToNat, Int.reduceLT, Int.reduceLE, Int.reduceEq, Int.reduceNe, Int.reduceBEq, Int.reduceBNe, not_false_eq_true, not_true_eq_false]
            exact ⟨rfl, rfl⟩
          · simp only [go_sem, Nat.reduceAdd, Nat.reduceMul, ↓reduceIte, reduceCtorEq, Nat.reduceLeDiff, Int.reduceToNat, Int.reduceLT, Int.reduceLE, Int.reduceEq, Int.reduceNe, Int.reduceBEq, Int.reduceBNe, not_false_eq_true, not_true_eq_false, vtC]
        · intro m hm
          rcases Nat.lt_or_ge m q.length with hmn | hmn
          · have hc2 : ((m : Int) < (q.length : Int)) := by omega
            have hat := prCs_at q m hmn
            have hst := wantM_take i v.prs q m hmn
            have hw1 : IntKind.i64.wrap ((m : Int) + 1) = ((m + 1 : Nat) : Int) := by rw [wrap_i64_id (by omega) (by omega)]; omega
            generalize wantM i v.prs (q.take m) = W at *
            generalize q.getD m (0, []) = p at *
            simp only [go_sem, Nat.reduceAdd, Nat.reduceMul, ↓reduceIte, reduceCtorEq, Nat.reduceLeDiff, Int.reduceToNat, Int.reduceLT, Int.reduceLE, Int.reduceEq, Int.reduceNe, Int.reduceBEq, Int.reduceBNe, not_false_eq_true, not_true_eq_false, hP, vtC, hat, hc2, byP, hw1]
            refine ⟨by omega, ?_⟩
            split
            · rename_i hpk
              rw [if_pos hpk] at hst
              refine ⟨by omega, hmn, subG [0, 1] rfl ?_ ?_ rfl rfl (Nat.le_refl _)⟩
              · simp only [go_sem, Nat.reduceAdd, Nat.reduceMul, ↓reduceIte, reduceCtorEq, Nat.reduceLeDiff, Int.reduceToNat, Int.reduceLT, Int.reduceLE, Int.reduceEq, Int.reduceNe, Int.reduceBEq, Int.reduceBNe, not_false_eq_true, not_true_eq_false, hst]
              · simp only [go_sem, Nat.reduceAdd, Nat.reduceMul, ↓reduceIte, reduceCtorEq, Nat.reduceLeDiff, Int.reduceToNat, Int.reduceLT, Int.reduceLE, Int.reduceEq, Int.reduceNe, Int.reduceBEq, Int.reduceBNe, not_false_eq_true, not_true_eq_false]
            · rename_i hpk
              rw [if_neg hpk] at hst
              refine ⟨hmn, subG [0, 1] rfl ?_ ?_ rfl rfl (Nat.le_refl _)⟩
              · simp only [go_sem, Nat.reduceAdd, Nat.reduceMul, ↓reduceIte, reduceCtorEq, Nat.reduceLeDiff, Int.reduceToNat, Int.reduceLT, Int.reduceLE, Int.reduceEq, Int.reduceNe, Int.reduceBEq, Int.reduceBNe, not_false_eq_true, not_true_eq_false, hst]
              · simp only [go_sem, Nat.reduceAdd, Nat.reduceMul, ↓reduceIte, reduceCtorEq, Nat.reduceLeDiff, Int.reduceToNat, Int.reduceLT, Int.reduceLE, Int.reduceEq, Int.reduceNe, Int.reduceBEq, Int.reduceBNe, not_false_eq_true, not_true_eq_false]
          · obtain rfl : m = q.length := by omega
            have hnc : ¬ ((q.length : Int) < (q.length : Int)) := by omega
            rw [List.take_of_length_le (Nat.le_refl _), ← hwant i]
            simp only [go_sem, Nat.reduceAdd, Nat.reduceMul, ↓reduceIte, reduceCtorEq, Nat.reduceLeDiff, Int.reduceToNat, Int.reduceLT, Int.reduceLE, Int.reduceEq, Int.reduceNe, Int.reduceBEq, Int.reduceBNe, not_false_eq_true, not_true_eq_false, hP, hnc, vtC]
            first | refine xw_call hE (ks := [0, 1, 2, 6, 7, 8, 9, 11, 14, 15, 16, 17, 32, 47, 56, 65, 77]) (n := 2000) (by rw [hP]; exact vget_c G.v _ (i : Int) (by omega) hgs) ?_ | refine xd_call hE (ks := [0, 1, 2, 6, 7, 8, 9, 11, 14, 15, 16, 17, 32, 47, 56, 65, 77]) (n := 2000) (by rw [hP]; exact vget_c G.v _ (i : Int) (by omega) hgs) ?_
            generalize vgetM i G.v.prs = W at *
            have hw1 : IntKind.i64.wrap ((i : Int) + 1) = ((i + 1 : Nat) : Int) := by rw [wrap_i64_id (by omega) (by omega)]; omega
            simp only [go_sem, Nat.reduceAdd, Nat.reduceMul, ↓reduceIte, reduceCtorEq, Nat.reduceLeDiff, Int.reduceToNat, Int.reduceLT, Int.reduceLE, Int.reduceEq, Int.reduceNe, Int.reduceBEq, Int.reduceBNe, not_false_eq_true, not_true_eq_false, hP, unBs_bt, Abs.strOf, allB_bt, toList_of, hw1]
            refine ⟨by kernel_rfl, hin, subG [0, 1] rfl ?_ ?_ rfl rfl (Nat.le_refl _)⟩
            · simp only [go_sem, Nat.reduceAdd, Nat.reduceMul, ↓reduceIte, reduceCtorEq, Nat.reduceLeDiff, Int.reduceToNat, Int.reduceLT, Int.reduceLE, Int.reduceEq, Int.reduceNe, Int.reduceBEq, Int.reduceBNe, not_false_eq_true, not_true_eq_false]
            · simp only [go_sem, Nat.reduceAdd, Nat.reduceMul, ↓reduceIte, reduceCtorEq, Nat.reduceLeDiff, Int.reduceToNat, Int.reduceLT, Int.reduceLE, Int.reduceEq, Int.reduceNe, Int.reduceBEq, Int.reduceBNe, not_false_eq_true, not_true_eq_false]
      · have hnc : ¬ ((i : Int) < 256) := by omega
        simp only [go_sem, Nat.reduceAdd, Nat.reduceMul, ↓reduceIte, reduceCtorEq, Nat.reduceLeDiff, Int.reduceToNat, Int.reduceLT, Int.reduceLE, Int.reduceEq, Int.reduceNe, Int.reduceBEq, Int.reduceBNe, not_false_eq_true, not_true_eq_false, hP, vtC, hnc]
        first | refine xw_call hE (ks := [0, 1, 2, 6, 7, 8, 9, 11, 14, 15, 16, 17, 32, 47, 56, 65, 77]) (n := 2000) (by rw [hP]; exact awake9_c) ?_ | refine xd_call hE (ks := [0, 1, 2, 6, 7, 8, 9, 11, 14, 15, 16, 17, 32, 47, 56, 65, 77]) (n := 2000) (by rw [hP]; exact awake9_c) ?_
        simp only [go_sem, Nat.reduceAdd, Nat.reduceMul, ↓reduceIte, reduceCtorEq, Nat.reduceLeDiff, Int.reduceToNat, Int.reduceLT, Int.reduceLE, Int.reduceEq, Int.reduceNe, Int.reduceBEq, Int.reduceBNe, not_false_eq_true, not_true_eq_false, hP]

end Go.Proofs.YtcnpgmlkocbhkaaGreat

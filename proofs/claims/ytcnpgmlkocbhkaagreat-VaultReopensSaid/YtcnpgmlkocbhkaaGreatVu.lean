/-
  The law VaultReopens: the contract of its function. Own work.
-/
import Derived.Test.YtcnpgmlkocbhkaaGreatVt
namespace Go.Proofs.YtcnpgmlkocbhkaaGreat
set_option linter.unusedSimpArgs false
set_option linter.unusedVariables false
open Go Go.Abs Go.RowKit

def ut (x : Int) : PV := .v (.int .u16 x)
theorem head_ut (l : List Int) (i : Nat) : headP (.v (.int .u16 0)) ((l.map ut).drop i) = ut (l.getD i 0) := by
  induction l generalizing i with
  | nil => simp [headP, ut]
  | cons b r ih => cases i with
    | zero => simp [headP]
    | succ i => simpa using ih i
theorem VOk.fok {v : Vt} {G : Int} (h : VOk v G) : FOk (flOf v.j) v.prs G := by
  have hm : mountM (flOf v.j) = ⟨v.j, 0⟩ := h.mt
  exact ⟨by rw [hm], by rw [hm]; exact h.pr.symm, h.so, by rw [hm]; exact h.gen⟩
theorem FOk.mono {f : Fl} {s : Store} {G H : Int} (h : FOk f s G) (hg : G ≤ H) : FOk f s H := ⟨h.err, h.st, h.so, Int.le_trans h.gen hg⟩

theorem lost_ps (j : Jn) (e : Int) (h : (lostM j e).err ≠ 16) : (lostM j e).v.j.ps = 0 := by
  unfold lostM at h ⊢
  split
  · rename_i he; rw [if_pos he] at h; exact absurd rfl h
  · rfl
theorem rput_lost (v : Vt) (l : Store) (B : Int) (h : (rputM v l B).v.j.ps ≠ 0) : (rputM v l B).err = 0 ∨ (rputM v l B).err = 16 := by
  have key : ∀ j e, (lostM j e).v.j.ps ≠ 0 → (lostM j e).err = 0 ∨ (lostM j e).err = 16 := fun j e hp => by
    by_cases h16 : (lostM j e).err = 16
    · exact .inr h16
    · exact absurd (lost_ps j e h16) hp
  unfold rputM at h ⊢
  split
  · rename_i h1; rw [if_pos h1] at h; exact key _ _ h
  · rename_i h1; rw [if_neg h1] at h
    split
    · rename_i h2; rw [if_pos h2] at h; exact key _ _ h
    · rename_i h2; rw [if_neg h2] at h
      split
      · rename_i h3; rw [if_pos h3] at h; exact key _ _ h
      · rename_i h3; rw [if_neg h3] at h
        split
        · rename_i h4; rw [if_pos h4] at h; exact key _ _ h
        · exact .inl rfl

set_option maxRecDepth 4000 in
set_option maxHeartbeats 2000000 in
theorem vreopens_c (n : Int) (l : List Int) (r : Int) (bs : List Int) (hbs : ∀ x, x ∈ bs → 0 ≤ x ∧ x ≤ 65535) : FPure Tryz.prog 8 [.i n, .p (.data 1 l.length (l.map it)), .i r, .p (.data 1 bs.length (bs.map ut))] (.b true) := by
  refine fpure_x hmix Tryz.func8 rfl (by kernel_rfl) Tryz.ntmps8 Tryz.results8 (by simp) (by simp [idsL, idsA]) [0, 1, 2, 3, 8, 9, 10, 13, 14, 17, 18, 20, 21, 23, 44, 61, 77, 96] ?_; intro c hP h0 hE
  simp only [go_sem, Nat.reduceAdd, Nat.reduceMul, ↓reduceIte, reduceCtorEq, Nat.reduceLeDiff, Int.reduceToNat, Int.reduceLT, Int.reduceLE, Int.reduceEq, Int.reduceNe, Int.reduceBEq, Int.reduceBNe, not_false_eq_true, not_true_eq_false, hP]
  first | refine xw_call hE (ks := [0, 1, 2, 3, 8, 9, 10, 13, 14, 17, 18, 20, 21, 23, 44, 61, 77, 96]) (n := 2000) (by rw [hP]; exact lmade9_c n l _ rfl) ?_ | refine xd_call hE (ks := [0, 1, 2, 3, 8, 9, 10, 13, 14, 17, 18, 20, 21, 23, 44, 61, 77, 96]) (n := 2000) (by rw [hP]; exact lmade9_c n l _ rfl) ?_
  have hok := vmade_ok n l
  generalize vmadeM n l = v at *
  have hvl := hok.mt.len
  have hvp := hok.prl
  simp only [go_sem, Nat.reduceAdd, Nat.reduceMul, ↓reduceIte, reduceCtorEq, Nat.reduceLeDiff, Int.reduceToNat, Int.reduceLT, Int.reduceLE, Int.reduceEq, Int.reduceNe, Int.reduceBEq, Int.reduceBNe, not_false_eq_true, not_true_eq_false, hP]
  have hk := band_bd r 33554431 (by decide) (by decide)
  first | refine xw_call hE (ks := [0, 1, 2, 3, 8, 9, 10, 13, 14, 17, 18, 20, 21, 23, 44, 61, 77, 96]) (n := 2000) (by rw [hP]; exact lpairs_c (band .i64 r 33554431) hk.1) ?_ | refine xd_call hE (ks := [0, 1, 2, 3, 8, 9, 10, 13, 14, 17, 18, 20, 21, 23, 44, 61, 77, 96]) (n := 2000) (by rw [hP]; exact lpairs_c (band .i64 r 33554431) hk.1) ?_
  have hpl := pairsM_len (band .i64 r 33554431)
  have hpm := pairsM_mem (band .i64 r 33554431)
  generalize pairsM (band .i64 r 33554431) = q at *
  simp only [go_sem, Nat.reduceAdd, Nat.reduceMul, ↓reduceIte, reduceCtorEq, Nat.reduceLeDiff, Int.reduceToNat, Int.reduceLT, Int.reduceLE, Int.reduceEq, Int.reduceNe, Int.reduceBEq, Int.reduceBNe, not_false_eq_true, not_true_eq_false, hP]
  have hb1 := band_bd (ishr .i64 r 12) 511 (by decide) (by decide)
  have hBB : i64 (band .i64 (ishr .i64 r 12) 511) := by unfold i64; omega
  generalize band .i64 (ishr .i64 r 12) 511 = B at *
  have hends := put_ok hok (by decide) q B
  have hlen := rput_len v q B hBB (by omega) (fun x hx => by have := (hpm x hx).2; omega) (by omega)
  have hlost : (rputM v q B).v.j.ps ≠ 0 → (rputM v q B).err = 0 ∨ (rputM v q B).err = 16 := rput_lost v q B
  first | refine xw_call hE (ks := (1000006 :: [0, 1, 2, 3, 8, 9, 10, 13, 14, 17, 18, 20, 21, 23, 44, 61, 77, 96])) (n := 2000) (by rw [hP]; exact rput_c v _ q B rfl (by omega) (by omega) (by omega) (fun x hx => by have := (hpm x hx).2; omega) hBB) ?_ | refine xd_call hE (ks := (1000006 :: [0, 1, 2, 3, 8, 9, 10, 13, 14, 17, 18, 20, 21, 23, 44, 61, 77, 96])) (n := 2000) (by rw [hP]; exact rput_c v _ q B rfl (by omega) (by omega) (by omega) (fun x hx => by have := (hpm x hx).2; omega) hBB) ?_
  generalize rputM v q B = X at *
  simp only [go_sem, Nat.reduceAdd, Nat.reduceMul, ↓reduceIte, reduceCtorEq, Nat.reduceLeDiff, Int.reduceToNat, Int.reduceLT, Int.reduceLE, Int.reduceEq, Int.reduceNe, Int.reduceBEq, Int.reduceBNe, not_false_eq_true, not_true_eq_false, hP]
  refine ⟨by kernel_rfl, ?_⟩
  apply saw_join (fun f : Fl => (⟨118, [(3, .p (.data 1 bs.length (bs.map ut))), (13, .ptr 0 0)], [(0, some ⟨25, [.i f.ps, .p (.data 1 f.bs.length (f.bs.map bt))]⟩)], 1⟩ : AS)) (fun f => f.bs.length < 1000000 ∧ ∃ s, FOk f s 22)
  case tree =>
    intro hj
    split
    · refine saw_to h0 (hj ⟨v.j.ps, v.j.bs⟩ ⟨by show v.j.bs.length < 1000000; omega, _, hok.fok.mono (by decide)⟩) (subG [2] rfl ?_ ?_ rfl rfl (Nat.le_refl _))
      · simp only [go_sem, Nat.reduceAdd, Nat.reduceMul, ↓reduceIte, reduceCtorEq, Nat.reduceLeDiff, Int.reduceToNat, Int.reduceLT, Int.reduceLE, Int.reduceEq, Int.reduceNe, Int.reduceBEq, Int.reduceBNe, not_false_eq_true, not_true_eq_false]
      · simp only [go_sem, Nat.reduceAdd, Nat.reduceMul, ↓reduceIte, reduceCtorEq, Nat.reduceLeDiff, Int.reduceToNat, Int.reduceLT, Int.reduceLE, Int.reduceEq, Int.reduceNe, Int.reduceBEq, Int.reduceBNe, not_false_eq_true, not_true_eq_false]
    · rename_i hp0
      refine saw_to h0 (hj ⟨X.v.j.ps, X.v.j.bs⟩ ⟨by show X.v.j.bs.length < 1000000; omega, ?_⟩) (subG [2] rfl ?_ ?_ rfl rfl (Nat.le_refl _))
      · rcases hends with ⟨_, h2, _⟩ | ⟨_, _, _, _, h2 | h2⟩ | ⟨h1, h2, _⟩
        · exact ⟨_, h2.fok.mono (by decide)⟩
        · exact ⟨_, h2⟩
        · exact ⟨_, h2⟩
        · rcases hlost hp0 with h | h
          · exact absurd h h1
          · exact absurd h h2
      · simp only [go_sem, Nat.reduceAdd, Nat.reduceMul, ↓reduceIte, reduceCtorEq, Nat.reduceLeDiff, Int.reduceToNat, Int.reduceLT, Int.reduceLE, Int.reduceEq, Int.reduceNe, Int.reduceBEq, Int.reduceBNe, not_false_eq_true, not_true_eq_false]
      · simp only [go_sem, Nat.reduceAdd, Nat.reduceMul, ↓reduceIte, reduceCtorEq, Nat.reduceLeDiff, Int.reduceToNat, Int.reduceLT, Int.reduceLE, Int.reduceEq, Int.reduceNe, Int.reduceBEq, Int.reduceBNe, not_false_eq_true, not_true_eq_false]
  rintro f ⟨hfl, s, hf⟩
  clear hends hlen hlost
  refine xw_go hE (ks := [0, 1, 2, 3, 8, 9, 10, 13, 14, 17, 18, 20, 21, 23, 44, 61, 77, 96]) (n := 2000) ?_
  simp only [go_sem, Nat.reduceAdd, Nat.reduceMul, ↓reduceIte, reduceCtorEq, Nat.reduceLeDiff, Int.reduceToNat, Int.reduceLT, Int.reduceLE, Int.reduceEq, Int.reduceNe, Int.reduceBEq, Int.reduceBNe, not_false_eq_true, not_true_eq_false, hP]
  first | refine xw_call hE (ks := [0, 1, 2, 3, 8, 9, 10, 13, 14, 17, 18, 20, 21, 23, 44, 61, 77, 96]) (n := 2000) (by rw [hP]; exact ropen_c f.ps f.bs _ (-1) rfl (by omega) (by unfold i64; decide)) ?_ | refine xd_call hE (ks := [0, 1, 2, 3, 8, 9, 10, 13, 14, 17, 18, 20, 21, 23, 44, 61, 77, 96]) (n := 2000) (by rw [hP]; exact ropen_c f.ps f.bs _ (-1) rfl (by omega) (by unfold i64; decide)) ?_
  have hl1 := ropen_len ⟨f.ps, f.bs⟩ (-1) (by unfold i64; decide) (by show f.bs.length < _; omega)
  have hwant : (ropenM ⟨f.ps, f.bs⟩ (-1)).v.prs = s := by
    rcases open_ok hf (by decide) (-1) with ⟨_, _, h2, _⟩ | ⟨_, h2, _⟩
    · exact h2
    · omega
  generalize ropenM ⟨f.ps, f.bs⟩ (-1) = W at *
  simp only [go_sem, Nat.reduceAdd, Nat.reduceMul, ↓reduceIte, reduceCtorEq, Nat.reduceLeDiff, Int.reduceToNat, Int.reduceLT, Int.reduceLE, Int.reduceEq, Int.reduceNe, Int.reduceBEq, Int.reduceBNe, not_false_eq_true, not_true_eq_false, hP]
  refine xw_loop hE h0 [0, 1, 2, 3, 8, 9, 10, 13, 14, 17, 18, 20, 21, 23, 44, 61, 77, 96] (α := { x : Nat × Fl // x.1 ≤ bs.length ∧ x.1 ≤ 6 ∧ FOk x.2 s (22 + x.1) ∧ x.2.bs.length < 1000000 }) (fun x => ⟨118, [(3, .p (.data 1 bs.length (bs.map ut))), (13, .ptr 0 0), (14, .ptr 1 0), (17, .i x.1.1)],
    [(1, some ⟨30, vtC W.v⟩), (0, some ⟨25, [.i x.1.2.ps, .p (.data 1 x.1.2.bs.length (x.1.2.bs.map bt))]⟩)], 2⟩) (fun x => 6 - x.1.1) ⟨(0, f), Nat.zero_le _, Nat.zero_le _, hf, hfl⟩ [] (fun i => i) ?_ ?_
  · refine ⟨rfl, ?_, ?_, rfl, rfl, trivial, fun i h => h⟩
    · simp only [go_sem, Nat.reduceAdd, Nat.reduceMul, ↓reduceIte, reduceCtorEq, Nat.reduceLeDiff, Int.reduceToNat, Int.reduceLT, Int.reduceLE, Int.reduceEq, Int.reduceNe, Int.reduceBEq, Int.reduceBNe, not_false_eq_true, not_true_eq_false]
    · simp only [go_sem, Nat.reduceAdd, Nat.reduceMul, ↓reduceIte, reduceCtorEq, Nat.reduceLeDiff, Int.reduceToNat, Int.reduceLT, Int.reduceLE, Int.reduceEq, Int.reduceNe, Int.reduceBEq, Int.reduceBNe, not_false_eq_true, not_true_eq_false, vtC]
  · rintro ⟨⟨i, g⟩, hi, hi6, hg, hgl⟩
    simp only at hi hi6 hg hgl
    have last : ∀ a : VR, ropenM ⟨g.ps, g.bs⟩ (-1) = a → a.err = 0 ∧ a.v.prs = s := fun a ha => by
      subst ha
      rcases open_ok hg (by omega) (-1) with ⟨h1, _, h2, _⟩ | ⟨_, h2, _⟩
      · exact ⟨h1, h2⟩
      · omega
    simp only [go_sem, Nat.reduceAdd, Nat.reduceMul, ↓reduceIte, reduceCtorEq, Nat.reduceLeDiff, Int.reduceToNat, Int.reduceLT, Int.reduceLE, Int.reduceEq, Int.reduceNe, Int.reduceBEq, Int.reduceBNe, not_false_eq_true, not_true_eq_false, hP, head_ut, ut, vtC]
    split
    · rename_i hib
      split
      · rename_i hi6'
        refine ⟨⟨by omega, by omega⟩, by omega, ?_⟩
        clear last
        have hz : 0 ≤ bs.getD i 0 ∧ bs.getD i 0 ≤ 65535 := hbs _ (by rw [show bs.getD i 0 = bs[i]'(by omega) from by simp [List.getD_eq_getElem?_getD, show i < bs.length by omega]]; exact List.getElem_mem _)
        have hz1 := Int.tmod_nonneg (1500 : Int) hz.1
        have hz2 := Int.tmod_lt_of_pos (bs.getD i 0) (show (0 : Int) < 1500 by decide)
        rw [wrap_i64_id (n := (bs.getD i 0).tmod 1500) (by omega) (by omega)]
        have hB : i64 ((bs.getD i 0).tmod 1500) := by unfold i64; omega
        generalize (bs.getD i 0).tmod 1500 = D at *
        first | refine xw_call hE (ks := [0, 1, 2, 3, 8, 9, 10, 13, 14, 17, 18, 20, 21, 23, 44, 61, 77, 96]) (n := 2000) (by rw [hP]; exact vopen_c g.ps g.bs _ D rfl (by omega) hB) ?_ | refine xd_call hE (ks := [0, 1, 2, 3, 8, 9, 10, 13, 14, 17, 18, 20, 21, 23, 44, 61, 77, 96]) (n := 2000) (by rw [hP]; exact vopen_c g.ps g.bs _ D rfl (by omega) hB) ?_
        rw [open_law]
        have hl2 := ropen_len ⟨g.ps, g.bs⟩ D hB (by show g.bs.length < _; omega)
        have hop := open_ok hg (by omega) D
        have hge : ropenM g D = ropenM ⟨g.ps, g.bs⟩ D := rfl
        rw [hge] at hop
        generalize ropenM ⟨g.ps, g.bs⟩ D = H at *
        simp only [go_sem, Nat.reduceAdd, Nat.reduceMul, ↓reduceIte, reduceCtorEq, Nat.reduceLeDiff, Int.reduceToNat, Int.reduceLT, Int.reduceLE, Int.reduceEq, Int.reduceNe, Int.reduceBEq, Int.reduceBNe, not_false_eq_true, not_true_eq_false, hP]
        refine ⟨by kernel_rfl, ?_⟩
        rcases hop with ⟨he, _, hpr, _⟩ | ⟨he, _, hf2, hps⟩
        · rw [if_pos he]
          first | refine xw_call hE (ks := [0, 1, 2, 3, 8, 9, 10, 13, 14, 17, 18, 20, 21, 23, 44, 61, 77, 96]) (n := 2000) (by rw [hP]; exact rsamePairs_c H.v.prs W.v.prs (by omega)) ?_ | refine xd_call hE (ks := [0, 1, 2, 3, 8, 9, 10, 13, 14, 17, 18, 20, 21, 23, 44, 61, 77, 96]) (n := 2000) (by rw [hP]; exact rsamePairs_c H.v.prs W.v.prs (by omega)) ?_
          rw [decide_eq_true (hpr.trans hwant.symm)]
          simp only [go_sem, Nat.reduceAdd, Nat.reduceMul, ↓reduceIte, reduceCtorEq, Nat.reduceLeDiff, Int.reduceToNat, Int.reduceLT, Int.reduceLE, Int.reduceEq, Int.reduceNe, Int.reduceBEq, Int.reduceBNe, not_false_eq_true, not_true_eq_false, hP]
          first | refine xw_call hE (ks := [0, 1, 2, 3, 8, 9, 10, 13, 14, 17, 18, 20, 21, 23, 44, 61, 77, 96]) (n := 2000) (by rw [hP]; exact awake9_c) ?_ | refine xd_call hE (ks := [0, 1, 2, 3, 8, 9, 10, 13, 14, 17, 18, 20, 21, 23, 44, 61, 77, 96]) (n := 2000) (by rw [hP]; exact awake9_c) ?_
          simp only [go_sem, Nat.reduceAdd, Nat.reduceMul, ↓reduceIte, reduceCtorEq, Nat.reduceLeDiff, Int.reduceToNat, Int.reduceLT, Int.reduceLE, Int.reduceEq, Int.reduceNe, Int.reduceBEq, Int.reduceBNe, not_false_eq_true, not_true_eq_false, hP]
        · rw [if_neg (by rw [he]; decide), if_pos he]
          first | rw [if_pos hps] | rw [if_neg (fun c => c hps)]
          (try go_unwrap)
          refine ⟨⟨(i + 1, flOf H.v.j), by show i + 1 ≤ _; omega, by show i + 1 ≤ 6; omega, hf2.mono (by show (22 : Int) + i + 1 ≤ 22 + ((i + 1 : Nat) : Int); omega), by show H.v.j.bs.length < 1000000; have : H.v.j.bs.length ≤ g.bs.length := hl2.1; omega⟩, by show 6 - (i + 1) < 6 - i; omega, subG [0, 1] rfl ?_ ?_ rfl rfl (Nat.le_refl _)⟩
          · simp only [go_sem, Nat.reduceAdd, Nat.reduceMul, ↓reduceIte, reduceCtorEq, Nat.reduceLeDiff, Int.reduceToNat, Int.reduceLT, Int.reduceLE, Int.reduceEq, Int.reduceNe, Int.reduceBEq, Int.reduceBNe, not_false_eq_true, not_true_eq_false]
            omega
          · simp only [go_sem, Nat.reduceAdd, Nat.reduceMul, ↓reduceIte, reduceCtorEq, Nat.reduceLeDiff, Int.reduceToNat, Int.reduceLT, Int.reduceLE, Int.reduceEq, Int.reduceNe, Int.reduceBEq, Int.reduceBNe, not_false_eq_true, not_true_eq_false, flOf]
      · first | refine xw_call hE (ks := [0, 1, 2, 3, 8, 9, 10, 13, 14, 17, 18, 20, 21, 23, 44, 61, 77, 96]) (n := 2000) (by rw [hP]; exact vopen_c g.ps g.bs _ (-1) rfl (by omega) (by unfold i64; decide)) ?_ | refine xd_call hE (ks := [0, 1, 2, 3, 8, 9, 10, 13, 14, 17, 18, 20, 21, 23, 44, 61, 77, 96]) (n := 2000) (by rw [hP]; exact vopen_c g.ps g.bs _ (-1) rfl (by omega) (by unfold i64; decide)) ?_
        rw [open_law]
        have hl2 := ropen_len ⟨g.ps, g.bs⟩ (-1) (by unfold i64; decide) (by show g.bs.length < _; omega)
        obtain ⟨H, hH⟩ : ∃ H, ropenM ⟨g.ps, g.bs⟩ (-1) = H := ⟨_, rfl⟩
        obtain ⟨he, hpr⟩ := last H hH
        rw [hH] at hl2 ⊢
        simp only [go_sem, Nat.reduceAdd, Nat.reduceMul, ↓reduceIte, reduceCtorEq, Nat.reduceLeDiff, Int.reduceToNat, Int.reduceLT, Int.reduceLE, Int.reduceEq, Int.reduceNe, Int.reduceBEq, Int.reduceBNe, not_false_eq_true, not_true_eq_false, hP]
        rw [if_pos he]
        first | refine xw_call hE (ks := [0, 1, 2, 3, 8, 9, 10, 13, 14, 17, 18, 20, 21, 23, 44, 61, 77, 96]) (n := 2000) (by rw [hP]; exact rsamePairs_c H.v.prs W.v.prs (by omega)) ?_ | refine xd_call hE (ks := [0, 1, 2, 3, 8, 9, 10, 13, 14, 17, 18, 20, 21, 23, 44, 61, 77, 96]) (n := 2000) (by rw [hP]; exact rsamePairs_c H.v.prs W.v.prs (by omega)) ?_
        rw [decide_eq_true (hpr.trans hwant.symm)]
        simp only [go_sem, Nat.reduceAdd, Nat.reduceMul, ↓reduceIte, reduceCtorEq, Nat.reduceLeDiff, Int.reduceToNat, Int.reduceLT, Int.reduceLE, Int.reduceEq, Int.reduceNe, Int.reduceBEq, Int.reduceBNe, not_false_eq_true, not_true_eq_false, hP]
        first | refine xw_call hE (ks := [0, 1, 2, 3, 8, 9, 10, 13, 14, 17, 18, 20, 21, 23, 44, 61, 77, 96]) (n := 2000) (by rw [hP]; exact awake9_c) ?_ | refine xd_call hE (ks := [0, 1, 2, 3, 8, 9, 10, 13, 14, 17, 18, 20, 21, 23, 44, 61, 77, 96]) (n := 2000) (by rw [hP]; exact awake9_c) ?_
        simp only [go_sem, Nat.reduceAdd, Nat.reduceMul, ↓reduceIte, reduceCtorEq, Nat.reduceLeDiff, Int.reduceToNat, Int.reduceLT, Int.reduceLE, Int.reduceEq, Int.reduceNe, Int.reduceBEq, Int.reduceBNe, not_false_eq_true, not_true_eq_false, hP]
    · first | refine xw_call hE (ks := [0, 1, 2, 3, 8, 9, 10, 13, 14, 17, 18, 20, 21, 23, 44, 61, 77, 96]) (n := 2000) (by rw [hP]; exact vopen_c g.ps g.bs _ (-1) rfl (by omega) (by unfold i64; decide)) ?_ | refine xd_call hE (ks := [0, 1, 2, 3, 8, 9, 10, 13, 14, 17, 18, 20, 21, 23, 44, 61, 77, 96]) (n := 2000) (by rw [hP]; exact vopen_c g.ps g.bs _ (-1) rfl (by omega) (by unfold i64; decide)) ?_
      rw [open_law]
      have hl2 := ropen_len ⟨g.ps, g.bs⟩ (-1) (by unfold i64; decide) (by show g.bs.length < _; omega)
      obtain ⟨H, hH⟩ : ∃ H, ropenM ⟨g.ps, g.bs⟩ (-1) = H := ⟨_, rfl⟩
      obtain ⟨he, hpr⟩ := last H hH
      rw [hH] at hl2 ⊢
      simp only [go_sem, Nat.reduceAdd, Nat.reduceMul, ↓reduceIte, reduceCtorEq, Nat.reduceLeDiff, Int.reduceToNat, Int.reduceLT, Int.reduceLE, Int.reduceEq, Int.reduceNe, Int.reduceBEq, Int.reduceBNe, not_false_eq_true, not_true_eq_false, hP]
      rw [if_pos he]
      first | refine xw_call hE (ks := [0, 1, 2, 3, 8, 9, 10, 13, 14, 17, 18, 20, 21, 23, 44, 61, 77, 96]) (n := 2000) (by rw [hP]; exact rsamePairs_c H.v.prs W.v.prs (by omega)) ?_ | refine xd_call hE (ks := [0, 1, 2, 3, 8, 9, 10, 13, 14, 17, 18, 20, 21, 23, 44, 61, 77, 96]) (n := 2000) (by rw [hP]; exact rsamePairs_c H.v.prs W.v.prs (by omega)) ?_
      rw [decide_eq_true (hpr.trans hwant.symm)]
      simp only [go_sem, Nat.reduceAdd, Nat.reduceMul, ↓reduceIte, reduceCtorEq, Nat.reduceLeDiff, Int.reduceToNat, Int.reduceLT, Int.reduceLE, Int.reduceEq, Int.reduceNe, Int.reduceBEq, Int.reduceBNe, not_false_eq_true, not_true_eq_false, hP]
      first | refine xw_call hE (ks := [0, 1, 2, 3, 8, 9, 10, 13, 14, 17, 18, 20, 21, 23, 44, 61, 77, 96]) (n := 2000) (by rw [hP]; exact awake9_c) ?_ | refine xd_call hE (ks := [0, 1, 2, 3, 8, 9, 10, 13, 14, 17, 18, 20, 21, 23, 44, 61, 77, 96]) (n := 2000) (by rw [hP]; exact awake9_c) ?_
      simp only [go_sem, Nat.reduceAdd, Nat.reduceMul, ↓reduceIte, reduceCtorEq, Nat.reduceLeDiff, Int.reduceToNat, Int.reduceLT, Int.reduceLE, Int.reduceEq, Int.reduceNe, Int.reduceBEq, Int.reduceBNe, not_false_eq_true, not_true_eq_false, hP]

end Go.Proofs.YtcnpgmlkocbhkaaGreat

/-
  Contracts of the reference of the journal: Format, Rewrite, NewFlash, SameBytes (package passkeyref7). Own work; no statement of the seat is proved here.
-/
import Derived.Test.YtcnpgmlkocbhkaaGreatRh
namespace Go.Proofs.YtcnpgmlkocbhkaaGreat
set_option linter.unusedSimpArgs false
set_option linter.unusedVariables false
open Go Go.Abs Go.RowKit

/-- operations one after another, till the first error -/
def seqM (f : Fl) (budget : Int) : List JOp → FR
  | [] => ⟨f, budget, 0⟩
  | o :: r => if (runM f budget o).err ≠ 0 then runM f budget o else seqM (runM f budget o).f (runM f budget o).left r
def rformatM (f : Fl) (budget : Int) : JR :=
  if examM f ≠ 0 then ⟨jn0, 0, examM f⟩ else
  if (seqM f budget [.er 0, .er 1, .wr 0 0 (headM 1)]).err ≠ 0 then brokenM (seqM f budget [.er 0, .er 1, .wr 0 0 (headM 1)]).f (seqM f budget [.er 0, .er 1, .wr 0 0 (headM 1)]).err
  else ⟨(mountM (seqM f budget [.er 0, .er 1, .wr 0 0 (headM 1)]).f).j, (seqM f budget [.er 0, .er 1, .wr 0 0 (headM 1)]).left, 0⟩

theorem seq_cons (f : Fl) (budget : Int) (o : JOp) (r : List JOp) (G : FR) (h : runM f budget o = G) : seqM f budget (o :: r) = if G.err ≠ 0 then G else seqM G.f G.left r := by
  rw [← h]; rfl

theorem rFormat_c (ps : Int) (bs : List UInt8) (n : Nat) (budget : Int) (hn : bs.length = n) (hb : n < 1000000000) (hB : i64 budget) :
    FPure Tryz.prog 41 [.agg [.i ps, .p (.data 1 n (bs.map bt))], .i budget] (jrAV (rformatM ⟨ps, bs⟩ budget)) := by
  refine fpure_x hmix Tryz.func41 rfl (by kernel_rfl) Tryz.ntmps41 Tryz.results41 (by simp) (by simp [idsL, idsA]) [0, 1, 2, 4, 5, 6, 7, 8, 9, 14, 27, 41, 50, 60] ?_; intro c hP h0 hE
  simp only [go_sem, Nat.reduceAdd, Nat.reduceMul, ↓reduceIte, reduceCtorEq, Nat.reduceLeDiff, Int.reduceToNat, Int.reduceLT, Int.reduceLE, Int.reduceEq, Int.reduceNe, Int.reduceBEq, Int.reduceBNe, not_false_eq_true, not_true_eq_false, hP]
  first | refine xw_call hE (ks := [0, 1, 2, 4, 5, 6, 7, 8, 9, 14, 27, 41, 50, 60]) (n := 2000) (by rw [hP]; exact rValidate_c ps n _ hb) ?_ | refine xd_call hE (ks := [0, 1, 2, 4, 5, 6, 7, 8, 9, 14, 27, 41, 50, 60]) (n := 2000) (by rw [hP]; exact rValidate_c ps n _ hb) ?_
  simp only [go_sem, Nat.reduceAdd, Nat.reduceMul, ↓reduceIte, reduceCtorEq, Nat.reduceLeDiff, Int.reduceToNat, Int.reduceLT, Int.reduceLE, Int.reduceEq, Int.reduceNe, Int.reduceBEq, Int.reduceBNe, not_false_eq_true, not_true_eq_false, hP]
  obtain ⟨R, hR⟩ : ∃ R, rformatM ⟨ps, bs⟩ budget = R := ⟨_, rfl⟩; rw [hR] at hE; (try rw [hR])
  unfold rformatM at hR
  have br : ∀ e, e ≠ 16 → brokenM ⟨ps, bs⟩ e = ⟨jn0, 0, e⟩ := fun e he => by unfold brokenM; rw [if_neg he]
  have hv16 : validM ps n ≠ 16 := by unfold validM; split <;> (try split) <;> decide
  split
  · rename_i h
    have hx : examM ⟨ps, bs⟩ = validM ps n := by unfold examM; simp only [hn]; rw [if_pos h]
    rw [hx, if_pos h] at hR
    subst hR
    first | refine xw_call hE (ks := [0, 1, 2, 4, 5, 6, 7, 8, 9, 14, 27, 41, 50, 60]) (n := 2000) (by rw [hP]; exact broken_c ps bs n _ hn) ?_ | refine xd_call hE (ks := [0, 1, 2, 4, 5, 6, 7, 8, 9, 14, 27, 41, 50, 60]) (n := 2000) (by rw [hP]; exact broken_c ps bs n _ hn) ?_
    rw [br _ hv16]
    simp only [go_sem, Nat.reduceAdd, Nat.reduceMul, ↓reduceIte, reduceCtorEq, Nat.reduceLeDiff, Int.reduceToNat, Int.reduceLT, Int.reduceLE, Int.reduceEq, Int.reduceNe, Int.reduceBEq, Int.reduceBNe, not_false_eq_true, not_true_eq_false, hP]
  · rename_i h
    obtain ⟨p, k, hp, hp1, hp2, hnk, hk1, hk2⟩ := valid_ok (show validM ps n = 0 by omega)
    (try go_unwrap)
    split
    · have hx : examM ⟨ps, bs⟩ = 4 := by unfold examM; simp only [hn]; rw [if_neg h, if_pos (by omega)]
      rw [hx, if_pos (by decide)] at hR
      subst hR
      first | refine xw_call hE (ks := [0, 1, 2, 4, 5, 6, 7, 8, 9, 14, 27, 41, 50, 60]) (n := 2000) (by rw [hP]; exact broken_c ps bs n 4 hn) ?_ | refine xd_call hE (ks := [0, 1, 2, 4, 5, 6, 7, 8, 9, 14, 27, 41, 50, 60]) (n := 2000) (by rw [hP]; exact broken_c ps bs n 4 hn) ?_
      rw [br 4 (by decide)]
      simp only [go_sem, Nat.reduceAdd, Nat.reduceMul, ↓reduceIte, reduceCtorEq, Nat.reduceLeDiff, Int.reduceToNat, Int.reduceLT, Int.reduceLE, Int.reduceEq, Int.reduceNe, Int.reduceBEq, Int.reduceBNe, not_false_eq_true, not_true_eq_false, hP]
    · have hx : examM ⟨ps, bs⟩ = 0 := by unfold examM; simp only [hn]; rw [if_neg h, if_neg (by omega)]
      rw [hx, if_neg (by decide)] at hR
      obtain ⟨X, hX⟩ : ∃ X, seqM ⟨ps, bs⟩ budget [.er 0, .er 1, .wr 0 0 (headM 1)] = X := ⟨_, rfl⟩
      rw [hX] at hR
      have fin : ∀ (G : FR), G.err ≠ 0 → G = X → brokenM ⟨G.f.ps, G.f.bs⟩ G.err = R := fun G h1 h2 => by subst h2; rw [if_pos h1] at hR; exact hR
      first | refine xw_call hE (ks := [0, 1, 2, 4, 5, 6, 7, 8, 9, 14, 27, 41, 50, 60]) (n := 2000) (by rw [hP]; exact rErase_c ps bs n 0 budget hn hb hB) ?_ | refine xd_call hE (ks := [0, 1, 2, 4, 5, 6, 7, 8, 9, 14, 27, 41, 50, 60]) (n := 2000) (by rw [hP]; exact rErase_c ps bs n 0 budget hn hb hB) ?_
      have h1 := runM_ok (f := ⟨ps, bs⟩) (budget := budget) (.er 0) hB (by show bs.length < _; omega) trivial
      have e1 : runM ⟨ps, bs⟩ budget (.er 0) = eraseM ⟨ps, bs⟩ 0 budget := rfl
      generalize eraseM ⟨ps, bs⟩ 0 budget = G1 at *
      rw [e1] at h1
      simp only at h1
      rw [seq_cons _ _ _ _ _ e1] at hX
      simp only [go_sem, Nat.reduceAdd, Nat.reduceMul, ↓reduceIte, reduceCtorEq, Nat.reduceLeDiff, Int.reduceToNat, Int.reduceLT, Int.reduceLE, Int.reduceEq, Int.reduceNe, Int.reduceBEq, Int.reduceBNe, not_false_eq_true, not_true_eq_false, hP]
      split
      · rename_i hG1
        rw [if_neg (fun e => e hG1)] at hX
        first | refine xw_call hE (ks := [0, 1, 2, 4, 5, 6, 7, 8, 9, 14, 27, 41, 50, 60]) (n := 2000) (by rw [hP]; exact rErase_c G1.f.ps G1.f.bs _ 1 G1.left rfl (by omega) h1.1) ?_ | refine xd_call hE (ks := [0, 1, 2, 4, 5, 6, 7, 8, 9, 14, 27, 41, 50, 60]) (n := 2000) (by rw [hP]; exact rErase_c G1.f.ps G1.f.bs _ 1 G1.left rfl (by omega) h1.1) ?_
        have h2 := runM_ok (f := G1.f) (budget := G1.left) (.er 1) h1.1 (by omega) trivial
        have e2 : runM G1.f G1.left (.er 1) = eraseM ⟨G1.f.ps, G1.f.bs⟩ 1 G1.left := rfl
        generalize eraseM ⟨G1.f.ps, G1.f.bs⟩ 1 G1.left = G2 at *
        rw [e2] at h2
        rw [seq_cons _ _ _ _ _ e2] at hX
        simp only [go_sem, Nat.reduceAdd, Nat.reduceMul, ↓reduceIte, reduceCtorEq, Nat.reduceLeDiff, Int.reduceToNat, Int.reduceLT, Int.reduceLE, Int.reduceEq, Int.reduceNe, Int.reduceBEq, Int.reduceBNe, not_false_eq_true, not_true_eq_false, hP]
        split
        · rename_i hG2
          rw [if_neg (fun e => e hG2)] at hX
          first | refine xw_call hE (ks := [0, 1, 2, 4, 5, 6, 7, 8, 9, 14, 27, 41, 50, 60]) (n := 2000) (by rw [hP]; exact rheader_c 1 1 rfl) ?_ | refine xd_call hE (ks := [0, 1, 2, 4, 5, 6, 7, 8, 9, 14, 27, 41, 50, 60]) (n := 2000) (by rw [hP]; exact rheader_c 1 1 rfl) ?_
          simp only [go_sem, Nat.reduceAdd, Nat.reduceMul, ↓reduceIte, reduceCtorEq, Nat.reduceLeDiff, Int.reduceToNat, Int.reduceLT, Int.reduceLE, Int.reduceEq, Int.reduceNe, Int.reduceBEq, Int.reduceBNe, not_false_eq_true, not_true_eq_false, hP]
          first | refine xw_call hE (ks := [0, 1, 2, 4, 5, 6, 7, 8, 9, 14, 27, 41, 50, 60]) (n := 2000) (by rw [hP]; exact rProgram_c G2.f.ps G2.f.bs _ 0 0 (headM 1) 16 G2.left rfl (by omega) (headM_len _) (by decide) h2.1) ?_ | refine xd_call hE (ks := [0, 1, 2, 4, 5, 6, 7, 8, 9, 14, 27, 41, 50, 60]) (n := 2000) (by rw [hP]; exact rProgram_c G2.f.ps G2.f.bs _ 0 0 (headM 1) 16 G2.left rfl (by omega) (headM_len _) (by decide) h2.1) ?_
          have h3 := runM_ok (f := G2.f) (budget := G2.left) (.wr 0 0 (headM 1)) h2.1 (by omega) (by show (headM 1).length < _; rw [headM_len]; decide)
          have e3 : runM G2.f G2.left (.wr 0 0 (headM 1)) = progM ⟨G2.f.ps, G2.f.bs⟩ 0 0 (headM 1) G2.left := rfl
          generalize progM ⟨G2.f.ps, G2.f.bs⟩ 0 0 (headM 1) G2.left = G3 at *
          rw [e3] at h3
          rw [seq_cons _ _ _ _ _ e3] at hX
          simp only [go_sem, Nat.reduceAdd, Nat.reduceMul, ↓reduceIte, reduceCtorEq, Nat.reduceLeDiff, Int.reduceToNat, Int.reduceLT, Int.reduceLE, Int.reduceEq, Int.reduceNe, Int.reduceBEq, Int.reduceBNe, not_false_eq_true, not_true_eq_false, hP]
          refine ⟨by kernel_rfl, ?_⟩
          split
          · rename_i hG3
            rw [if_pos hG3] at hX
            first | refine xw_call hE (ks := [0, 1, 2, 4, 5, 6, 7, 8, 9, 14, 27, 41, 50, 60]) (n := 2000) (by rw [hP]; exact broken_c G3.f.ps G3.f.bs _ G3.err rfl) ?_ | refine xd_call hE (ks := [0, 1, 2, 4, 5, 6, 7, 8, 9, 14, 27, 41, 50, 60]) (n := 2000) (by rw [hP]; exact broken_c G3.f.ps G3.f.bs _ G3.err rfl) ?_
            rw [fin G3 hG3 hX]
            simp only [go_sem, Nat.reduceAdd, Nat.reduceMul, ↓reduceIte, reduceCtorEq, Nat.reduceLeDiff, Int.reduceToNat, Int.reduceLT, Int.reduceLE, Int.reduceEq, Int.reduceNe, Int.reduceBEq, Int.reduceBNe, not_false_eq_true, not_true_eq_false, hP]
          · rename_i hG3
            rw [if_neg hG3] at hX
            simp only [seqM] at hX
            subst hX
            rw [if_neg (fun e => e rfl)] at hR
            first | refine xw_call hE (ks := [0, 1, 2, 4, 5, 6, 7, 8, 9, 14, 27, 41, 50, 60]) (n := 2000) (by rw [hP]; exact rMount_c G3.f.ps G3.f.bs _ rfl (by omega)) ?_ | refine xd_call hE (ks := [0, 1, 2, 4, 5, 6, 7, 8, 9, 14, 27, 41, 50, 60]) (n := 2000) (by rw [hP]; exact rMount_c G3.f.ps G3.f.bs _ rfl (by omega)) ?_
            subst hR
            simp only [go_sem, Nat.reduceAdd, Nat.reduceMul, ↓reduceIte, reduceCtorEq, Nat.reduceLeDiff, Int.reduceToNat, Int.reduceLT, Int.reduceLE, Int.reduceEq, Int.reduceNe, Int.reduceBEq, Int.reduceBNe, not_false_eq_true, not_true_eq_false, hP]
        · rename_i hG2
          rw [if_pos hG2] at hX
          first | refine xw_call hE (ks := [0, 1, 2, 4, 5, 6, 7, 8, 9, 14, 27, 41, 50, 60]) (n := 2000) (by rw [hP]; exact broken_c G2.f.ps G2.f.bs _ G2.err rfl) ?_ | refine xd_call hE (ks := [0, 1, 2, 4, 5, 6, 7, 8, 9, 14, 27, 41, 50, 60]) (n := 2000) (by rw [hP]; exact broken_c G2.f.ps G2.f.bs _ G2.err rfl) ?_
          rw [fin G2 hG2 hX]
          simp only [go_sem, Nat.reduceAdd, Nat.reduceMul, ↓reduceIte, reduceCtorEq, Nat.reduceLeDiff, Int.reduceToNat, Int.reduceLT, Int.reduceLE, Int.reduceEq, Int.reduceNe, Int.reduceBEq, Int.reduceBNe, not_false_eq_true, not_true_eq_false, hP]
      · rename_i hG1
        rw [if_pos hG1] at hX
        first | refine xw_call hE (ks := [0, 1, 2, 4, 5, 6, 7, 8, 9, 14, 27, 41, 50, 60]) (n := 2000) (by rw [hP]; exact broken_c G1.f.ps G1.f.bs _ G1.err rfl) ?_ | refine xd_call hE (ks := [0, 1, 2, 4, 5, 6, 7, 8, 9, 14, 27, 41, 50, 60]) (n := 2000) (by rw [hP]; exact broken_c G1.f.ps G1.f.bs _ G1.err rfl) ?_
        rw [fin G1 hG1 hX]
        simp only [go_sem, Nat.reduceAdd, Nat.reduceMul, ↓reduceIte, reduceCtorEq, Nat.reduceLeDiff, Int.reduceToNat, Int.reduceLT, Int.reduceLE, Int.reduceEq, Int.reduceNe, Int.reduceBEq, Int.reduceBNe, not_false_eq_true, not_true_eq_false, hP]

def newFl (ps pages : Int) : Fl := if ps < 512 ∨ 8192 < ps ∨ pages < 1 ∨ 8 < pages then ⟨0, []⟩ else ⟨ps, List.replicate (ps * pages).toNat 255⟩
def newErr (ps pages : Int) : Int := if ps < 512 ∨ 8192 < ps ∨ pages < 1 ∨ 8 < pages then 9 else 0
set_option maxHeartbeats 1000000 in
theorem newFlash_c (ps pages : Int) : FPure Tryz.prog 24 [.i ps, .i pages] (.tup [flAV (newFl ps pages), .i (newErr ps pages)]) := by
  refine fpure_x hmix Tryz.func24 rfl (by kernel_rfl) Tryz.ntmps24 Tryz.results24 (by simp) (by simp [idsL, idsA]) [0, 1, 4, 5, 6, 7, 21, 29] ?_; intro c hP h0 hE
  simp only [go_sem, Nat.reduceAdd, Nat.reduceMul, ↓reduceIte, reduceCtorEq, Nat.reduceLeDiff, Int.reduceToNat, Int.reduceLT, Int.reduceLE, Int.reduceEq, Int.reduceNe, Int.reduceBEq, Int.reduceBNe, not_false_eq_true, not_true_eq_false, hP]
  obtain ⟨F, hF⟩ : ∃ F, newFl ps pages = F := ⟨_, rfl⟩
  obtain ⟨e, he⟩ : ∃ e, newErr ps pages = e := ⟨_, rfl⟩
  rw [hF, he] at hE ⊢
  unfold newFl at hF
  unfold newErr at he
  have bad : (ps < 512 ∨ 8192 < ps ∨ pages < 1 ∨ 8 < pages) → F = ⟨0, []⟩ ∧ e = 9 := fun h => by rw [if_pos h] at hF he; exact ⟨hF.symm, he.symm⟩
  split
  · split
    · split
      · split
        · obtain ⟨rfl, rfl⟩ := bad (by omega)
          exact ⟨⟨rfl, rfl, rfl⟩, rfl⟩
        · rw [if_neg (by omega)] at hF he
          subst hF he
          obtain ⟨p, rfl⟩ := Int.eq_ofNat_of_zero_le (show 0 ≤ ps by omega)
          obtain ⟨k, rfl⟩ := Int.eq_ofNat_of_zero_le (show 0 ≤ pages by omega)
          have hbk : p * k ≤ 8192 * 8 := Nat.mul_le_mul (by omega) (by omega)
          have hpk : ((p : Int) * (k : Int)).toNat = p * k := by have e : (p : Int) * (k : Int) = ((p * k : Nat) : Int) := by simp
                                                                 rw [e]; omega
          rw [hpk] at hE
          refine saw_new byteT ?_
          refine xw_for hE h0 [0, 1, 4, 5, 6, 7, 21, 29] (p * k) (fun i => ⟨38, [(0, .i p), (1, .i k), (4, .ptr 0 0), (6, .ptr 1 0), (7, .i i)], [(2, some ⟨byteT, cb (List.replicate i 255)⟩), (1, some ⟨25, [.i p, .sl 2 0 i 1]⟩), (0, some ⟨25, [.i 0, .p (.v (.slice none 0 0))]⟩)], 3⟩) [] (fun i => i) ?_ ?_
          · refine ⟨rfl, ?_, ?_, rfl, rfl, trivial, fun i h => h⟩
            · simp only [go_sem, Nat.reduceAdd, Nat.reduceMul, ↓reduceIte, reduceCtorEq, Nat.reduceLeDiff, Int.reduceToNat, Int.reduceLT, Int.reduceLE, Int.reduceEq, Int.reduceNe, Int.reduceBEq, Int.reduceBNe, not_false_eq_true, not_true_eq_false]
            · simp only [go_sem, Nat.reduceAdd, Nat.reduceMul, ↓reduceIte, reduceCtorEq, Nat.reduceLeDiff, Int.reduceToNat, Int.reduceLT, Int.reduceLE, Int.reduceEq, Int.reduceNe, Int.reduceBEq, Int.reduceBNe, not_false_eq_true, not_true_eq_false, List.replicate_zero, cb_nil]
          · intro i hi
            have hs : cb (List.replicate i 255) ++ [.p (.v (.int .u8 255))] = cb (List.replicate (i + 1) 255) := by
              rw [List.replicate_succ', ← cb_snoc]; rfl
            simp only [go_sem, Nat.reduceAdd, Nat.reduceMul, ↓reduceIte, reduceCtorEq, Nat.reduceLeDiff, Int.reduceToNat, Int.reduceLT, Int.reduceLE, Int.reduceEq, Int.reduceNe, Int.reduceBEq, Int.reduceBNe, not_false_eq_true, not_true_eq_false, hP, mul_i64 p k (by omega), hs]
            split
            · (try go_unwrap)
              refine ⟨⟨by omega, by omega⟩, by omega, subG [0, 1, 4] rfl ?_ ?_ rfl rfl (Nat.le_refl _)⟩
              · simp only [go_sem, Nat.reduceAdd, Nat.reduceMul, ↓reduceIte, reduceCtorEq, Nat.reduceLeDiff, Int.reduceToNat, Int.reduceLT, Int.reduceLE, Int.reduceEq, Int.reduceNe, Int.reduceBEq, Int.reduceBNe, not_false_eq_true, not_true_eq_false]
                omega
              · simp only [go_sem, Nat.reduceAdd, Nat.reduceMul, ↓reduceIte, reduceCtorEq, Nat.reduceLeDiff, Int.reduceToNat, Int.reduceLT, Int.reduceLE, Int.reduceEq, Int.reduceNe, Int.reduceBEq, Int.reduceBNe, not_false_eq_true, not_true_eq_false]
                exact cb_viewA _ _ _ _
            · obtain rfl : i = p * k := by omega
              simp only [List.length_replicate, List.take_of_length_le (Nat.le_of_eq (List.length_replicate)), and_self, Nat.le_refl]
      · obtain ⟨rfl, rfl⟩ := bad (by omega)
        exact ⟨⟨rfl, rfl, rfl⟩, rfl⟩
    · obtain ⟨rfl, rfl⟩ := bad (by omega)
      exact ⟨⟨rfl, rfl, rfl⟩, rfl⟩
  · obtain ⟨rfl, rfl⟩ := bad (by omega)
    exact ⟨⟨rfl, rfl, rfl⟩, rfl⟩

end Go.Proofs.YtcnpgmlkocbhkaaGreat

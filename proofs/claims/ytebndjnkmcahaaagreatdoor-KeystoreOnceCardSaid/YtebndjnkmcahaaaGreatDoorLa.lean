/- joined of several texts; own work; no statement of the seat is proved but in the last -/
import Derived.Test.YtebndjnkmcahaaaGreatDoorRh
/-
  Contracts of the reference of the journal: Format, Rewrite, NewFlash, SameBytes (package passkeyref7). Own work; no statement of the seat is proved here.
-/
section
namespace Go.Proofs.YtebndjnkmcahaaaGreatDoor
set_option linter.unusedSimpArgs false
set_option linter.unusedVariables false
open Go Go.Abs Go.RowKit

/-- operations one after another, till the first error -/
def seqM (f : Fl) (budget : Int) : List JOp → FR
  | [] => ⟨f, budget, 0⟩
  | o :: r => if (runM f budget o).err ≠ 0 then runM f budget o else seqM (runM f budget o).f (runM f budget o).left r
def rformatM (f : Fl) (budget : Int) : JR :=
  if examM f ≠ 0 then ⟨jn0, 0, examM f⟩ else
  if (seqM f budget [.er 0, .er 1, .wr 0 0 (headM 1)]).err ≠ 0 then brokenM (seqM f budget [.er 0, .er 1, .wr 0 0 (headM 1)]).f (seqM f budget [.er 0, .er 1, .wr 0 0 (headM 1)]).err
  else ⟨(mountM (seqM f budget [.er 0, .er 1, .wr 0 0 (headM 1)]).f).j, (seqM f budget [.er 0, .er 1, .wr 0 0 (headM 1)]).left, 0⟩

theorem seq_cons (f : Fl) (budget : Int) (o : JOp) (r : List JOp) (G : FR) (h : runM f budget o = G) : seqM f budget (o :: r) = if G.err ≠ 0 then G else seqM G.f G.left r := by
  rw [← h]; rfl

theorem rFormat_c (ps : Int) (bs : List UInt8) (n : Nat) (budget : Int) (hn : bs.length = n) (hb : n < 1000000000) (hB : i64 budget) :
    FPure Tryz.prog 135 [.agg [.i ps, .p (.data 1 n (bs.map bt))], .i budget] (jrAV (rformatM ⟨ps, bs⟩ budget)) := by
  refine fpure_x hmix Tryz.func135 rfl (by kernel_rfl) Tryz.ntmps135 Tryz.results135 (by simp) (by simp [idsL, idsA]) [0, 1, 2, 4, 5, 6, 7, 8, 9, 14, 27, 41, 50, 60] ?_; intro c hP h0 hE
  simp only [go_sem, ↓reduceIte, hP]
  first | refine xw_call hE (ks := [0, 1, 2, 4, 5, 6, 7, 8, 9, 14, 27, 41, 50, 60]) (n := 2000) (by rw [hP]; exact rValidate_c ps n _ hb) ?_ | refine xd_call hE (ks := [0, 1, 2, 4, 5, 6, 7, 8, 9, 14, 27, 41, 50, 60]) (n := 2000) (by rw [hP]; exact rValidate_c ps n _ hb) ?_
  simp only [go_sem, ↓reduceIte, hP]
  obtain ⟨R, hR⟩ : ∃ R, rformatM ⟨ps, bs⟩ budget = R := ⟨_, rfl⟩; rw [hR] at hE; (try rw [hR])
  unfold rformatM at hR
  have br : ∀ e, e ≠ 16 → brokenM ⟨ps, bs⟩ e = ⟨jn0, 0, e⟩ := fun e he => by unfold brokenM; rw [if_neg he]
  have hv16 : validM ps n ≠ 16 := by unfold validM; split <;> (try split) <;> decide
  split
  · rename_i h
    have hx : examM ⟨ps, bs⟩ = validM ps n := by unfold examM; simp only [hn]; rw [if_pos h]
    rw [hx, if_pos h] at hR
    subst hR
    first | refine xw_call hE (ks := [0, 1, 2, 4, 5, 6, 7, 8, 9, 14, 27, 41, 50, 60]) (n := 2000) (by rw [hP]; exact broken_c ps bs n _ hn) ?_ | refine xd_call hE (ks := [0, 1, 2, 4, 5, 6, 7, 8, 9, 14, 27, 41, 50, 60]) (n := 2000) (by rw [hP]; exact broken_c ps bs n _ hn) ?_
    rw [br _ hv16]
    simp only [go_sem, ↓reduceIte, hP]
  · rename_i h
    obtain ⟨p, k, hp, hp1, hp2, hnk, hk1, hk2⟩ := valid_ok (show validM ps n = 0 by omega)
    (try go_unwrap)
    split
    · have hx : examM ⟨ps, bs⟩ = 4 := by unfold examM; simp only [hn]; rw [if_neg h, if_pos (by omega)]
      rw [hx, if_pos (by decide)] at hR
      subst hR
      first | refine xw_call hE (ks := [0, 1, 2, 4, 5, 6, 7, 8, 9, 14, 27, 41, 50, 60]) (n := 2000) (by rw [hP]; exact broken_c ps bs n 4 hn) ?_ | refine xd_call hE (ks := [0, 1, 2, 4, 5, 6, 7, 8, 9, 14, 27, 41, 50, 60]) (n := 2000) (by rw [hP]; exact broken_c ps bs n 4 hn) ?_
      rw [br 4 (by decide)]
      simp only [go_sem, ↓reduceIte, hP]
    · have hx : examM ⟨ps, bs⟩ = 0 := by unfold examM; simp only [hn]; rw [if_neg h, if_neg (by omega)]
      rw [hx, if_neg (by decide)] at hR
      obtain ⟨X, hX⟩ : ∃ X, seqM ⟨ps, bs⟩ budget [.er 0, .er 1, .wr 0 0 (headM 1)] = X := ⟨_, rfl⟩
      rw [hX] at hR
      have fin : ∀ (G : FR), G.err ≠ 0 → G = X → brokenM ⟨G.f.ps, G.f.bs⟩ G.err = R := fun G h1 h2 => by subst h2; rw [if_pos h1] at hR; exact hR
      first | refine xw_call hE (ks := [0, 1, 2, 4, 5, 6, 7, 8, 9, 14, 27, 41, 50, 60]) (n := 2000) (by rw [hP]; exact rErase_c ps bs n 0 budget hn hb hB) ?_ | refine xd_call hE (ks := [0, 1, 2, 4, 5, 6, 7, 8, 9, 14, 27, 41, 50, 60]) (n := 2000) (by rw [hP]; exact rErase_c ps bs n 0 budget hn hb hB) ?_
      have h1 := runM_ok (f := ⟨ps, bs⟩) (budget := budget) (.er 0) hB (by show bs.length < _; omega) trivial
      have e1 : runM ⟨ps, bs⟩ budget (.er 0) = eraseM ⟨ps, bs⟩ 0 budget := rfl
      generalize eraseM ⟨ps, bs⟩ 0 budget = G1 at *
      rw [e1] at h1
      simp only at h1
      rw [seq_cons _ _ _ _ _ e1] at hX
      simp only [go_sem, ↓reduceIte, hP]
      split
      · rename_i hG1
        rw [if_neg (fun e => e hG1)] at hX
        first | refine xw_call hE (ks := [0, 1, 2, 4, 5, 6, 7, 8, 9, 14, 27, 41, 50, 60]) (n := 2000) (by rw [hP]; exact rErase_c G1.f.ps G1.f.bs _ 1 G1.left rfl (by omega) h1.1) ?_ | refine xd_call hE (ks := [0, 1, 2, 4, 5, 6, 7, 8, 9, 14, 27, 41, 50, 60]) (n := 2000) (by rw [hP]; exact rErase_c G1.f.ps G1.f.bs _ 1 G1.left rfl (by omega) h1.1) ?_
        have h2 := runM_ok (f := G1.f) (budget := G1.left) (.er 1) h1.1 (by omega) trivial
        have e2 : runM G1.f G1.left (.er 1) = eraseM ⟨G1.f.ps, G1.f.bs⟩ 1 G1.left := rfl
        generalize eraseM ⟨G1.f.ps, G1.f.bs⟩ 1 G1.left = G2 at *
        rw [e2] at h2
        rw [seq_cons _ _ _ _ _ e2] at hX
        simp only [go_sem, ↓reduceIte, hP]
        split
        · rename_i hG2
          rw [if_neg (fun e => e hG2)] at hX
          first | refine xw_call hE (ks := [0, 1, 2, 4, 5, 6, 7, 8, 9, 14, 27, 41, 50, 60]) (n := 2000) (by rw [hP]; exact rheader_c 1 1 rfl) ?_ | refine xd_call hE (ks := [0, 1, 2, 4, 5, 6, 7, 8, 9, 14, 27, 41, 50, 60]) (n := 2000) (by rw [hP]; exact rheader_c 1 1 rfl) ?_
          simp only [go_sem, ↓reduceIte, hP]
          first | refine xw_call hE (ks := [0, 1, 2, 4, 5, 6, 7, 8, 9, 14, 27, 41, 50, 60]) (n := 2000) (by rw [hP]; exact rProgram_c G2.f.ps G2.f.bs _ 0 0 (headM 1) 16 G2.left rfl (by omega) (headM_len _) (by decide) h2.1) ?_ | refine xd_call hE (ks := [0, 1, 2, 4, 5, 6, 7, 8, 9, 14, 27, 41, 50, 60]) (n := 2000) (by rw [hP]; exact rProgram_c G2.f.ps G2.f.bs _ 0 0 (headM 1) 16 G2.left rfl (by omega) (headM_len _) (by decide) h2.1) ?_
          have h3 := runM_ok (f := G2.f) (budget := G2.left) (.wr 0 0 (headM 1)) h2.1 (by omega) (by show (headM 1).length < _; rw [headM_len]; decide)
          have e3 : runM G2.f G2.left (.wr 0 0 (headM 1)) = progM ⟨G2.f.ps, G2.f.bs⟩ 0 0 (headM 1) G2.left := rfl
          generalize progM ⟨G2.f.ps, G2.f.bs⟩ 0 0 (headM 1) G2.left = G3 at *
          rw [e3] at h3
          rw [seq_cons _ _ _ _ _ e3] at hX
          simp only [go_sem, ↓reduceIte, hP]
          refine ⟨by kernel_rfl, ?_⟩
          split
          · rename_i hG3
            rw [if_pos hG3] at hX
            first | refine xw_call hE (ks := [0, 1, 2, 4, 5, 6, 7, 8, 9, 14, 27, 41, 50, 60]) (n := 2000) (by rw [hP]; exact broken_c G3.f.ps G3.f.bs _ G3.err rfl) ?_ | refine xd_call hE (ks := [0, 1, 2, 4, 5, 6, 7, 8, 9, 14, 27, 41, 50, 60]) (n := 2000) (by rw [hP]; exact broken_c G3.f.ps G3.f.bs _ G3.err rfl) ?_
            rw [fin G3 hG3 hX]
            simp only [go_sem, ↓reduceIte, hP]
          · rename_i hG3
            rw [if_neg hG3] at hX
            simp only [seqM] at hX
            subst hX
            rw [if_neg (fun e => e rfl)] at hR
            first | refine xw_call hE (ks := [0, 1, 2, 4, 5, 6, 7, 8, 9, 14, 27, 41, 50, 60]) (n := 2000) (by rw [hP]; exact rMount_c G3.f.ps G3.f.bs _ rfl (by omega)) ?_ | refine xd_call hE (ks := [0, 1, 2, 4, 5, 6, 7, 8, 9, 14, 27, 41, 50, 60]) (n := 2000) (by rw [hP]; exact rMount_c G3.f.ps G3.f.bs _ rfl (by omega)) ?_
            subst hR
            simp only [go_sem, ↓reduceIte, hP]
        · rename_i hG2
          rw [if_pos hG2] at hX
          first | refine xw_call hE (ks := [0, 1, 2, 4, 5, 6, 7, 8, 9, 14, 27, 41, 50, 60]) (n := 2000) (by rw [hP]; exact broken_c G2.f.ps G2.f.bs _ G2.err rfl) ?_ | refine xd_call hE (ks := [0, 1, 2, 4, 5, 6, 7, 8, 9, 14, 27, 41, 50, 60]) (n := 2000) (by rw [hP]; exact broken_c G2.f.ps G2.f.bs _ G2.err rfl) ?_
          rw [fin G2 hG2 hX]
          simp only [go_sem, ↓reduceIte, hP]
      · rename_i hG1
        rw [if_pos hG1] at hX
        first | refine xw_call hE (ks := [0, 1, 2, 4, 5, 6, 7, 8, 9, 14, 27, 41, 50, 60]) (n := 2000) (by rw [hP]; exact broken_c G1.f.ps G1.f.bs _ G1.err rfl) ?_ | refine xd_call hE (ks := [0, 1, 2, 4, 5, 6, 7, 8, 9, 14, 27, 41, 50, 60]) (n := 2000) (by rw [hP]; exact broken_c G1.f.ps G1.f.bs _ G1.err rfl) ?_
        rw [fin G1 hG1 hX]
        simp only [go_sem, ↓reduceIte, hP]

def newFl (ps pages : Int) : Fl := if ps < 512 ∨ 8192 < ps ∨ pages < 1 ∨ 8 < pages then ⟨0, []⟩ else ⟨ps, List.replicate (ps * pages).toNat 255⟩
def newErr (ps pages : Int) : Int := if ps < 512 ∨ 8192 < ps ∨ pages < 1 ∨ 8 < pages then 9 else 0
set_option maxHeartbeats 1000000 in
theorem newFlash_c (ps pages : Int) : FPure Tryz.prog 27 [.i ps, .i pages] (.tup [flAV (newFl ps pages), .i (newErr ps pages)]) := by
  refine fpure_x hmix Tryz.func27 rfl (by kernel_rfl) Tryz.ntmps27 Tryz.results27 (by simp) (by simp [idsL, idsA]) [0, 1, 4, 5, 6, 7, 21, 29] ?_; intro c hP h0 hE
  simp only [go_sem, ↓reduceIte, hP]
  obtain ⟨F, hF⟩ : ∃ F, newFl ps pages = F := ⟨_, rfl⟩
  obtain ⟨e, he⟩ : ∃ e, newErr ps pages = e := ⟨_, rfl⟩
  rw [hF, he] at hE ⊢
  unfold newFl at hF
  unfold newErr at he
  have bad : (ps < 512 ∨ 8192 < ps ∨ pages < 1 ∨ 8 < pages) → F = ⟨0, []⟩ ∧ e = 9 := fun h => by rw [if_pos h] at hF he; exact ⟨hF.symm, he.symm⟩
  split
  · split
    · split
      · split
        · obtain ⟨rfl, rfl⟩ := bad (by omega)
          exact ⟨⟨rfl, rfl, rfl⟩, rfl⟩
        · rw [if_neg (by omega)] at hF he
          subst hF he
          obtain ⟨p, rfl⟩ := Int.eq_ofNat_of_zero_le (show 0 ≤ ps by omega)
          obtain ⟨k, rfl⟩ := Int.eq_ofNat_of_zero_le (show 0 ≤ pages by omega)
          have hbk : p * k ≤ 8192 * 8 := Nat.mul_le_mul (by omega) (by omega)
          have hpk : ((p : Int) * (k : Int)).toNat = p * k := by have e : (p : Int) * (k : Int) = ((p * k : Nat) : Int) := by simp
                                                                 rw [e]; omega
          rw [hpk] at hE
          refine saw_new byteT ?_
          refine xw_for hE h0 [0, 1, 4, 5, 6, 7, 21, 29] (p * k) (fun i => ⟨38, [(0, .i p), (1, .i k), (4, .ptr 0 0), (6, .ptr 1 0), (7, .i i)], [(2, some ⟨byteT, cb (List.replicate i 255)⟩), (1, some ⟨32, [.i p, .sl 2 0 i 1]⟩), (0, some ⟨32, [.i 0, .p (.v (.slice none 0 0))]⟩)], 3⟩) [] (fun i => i) ?_ ?_
          · refine ⟨rfl, ?_, ?_, rfl, rfl, trivial, fun i h => h⟩
            · simp only [go_sem, ↓reduceIte]
            · simp only [go_sem, ↓reduceIte, List.replicate_zero, cb_nil]
          · intro i hi
            have hs : cb (List.replicate i 255) ++ [.p (.v (.int .u8 255))] = cb (List.replicate (i + 1) 255) := by
              rw [List.replicate_succ', ← cb_snoc]; rfl
            simp only [go_sem, ↓reduceIte, hP, mul_i64 p k (by omega), hs]
            split
            · (try go_unwrap)
              refine ⟨⟨by omega, by omega⟩, by omega, subG [0, 1, 4] rfl ?_ ?_ rfl rfl (Nat.le_refl _)⟩
              · simp only [go_sem, ↓reduceIte]
                omega
              · simp only [go_sem, ↓reduceIte]
                exact cb_viewA _ _ _ _
            · obtain rfl : i = p * k := by omega
              simp only [List.length_replicate, List.take_of_length_le (Nat.le_of_eq (List.length_replicate)), and_self, Nat.le_refl]
      · obtain ⟨rfl, rfl⟩ := bad (by omega)
        exact ⟨⟨rfl, rfl, rfl⟩, rfl⟩
    · obtain ⟨rfl, rfl⟩ := bad (by omega)
      exact ⟨⟨rfl, rfl, rfl⟩, rfl⟩
  · obtain ⟨rfl, rfl⟩ := bad (by omega)
    exact ⟨⟨rfl, rfl, rfl⟩, rfl⟩

end Go.Proofs.YtebndjnkmcahaaaGreatDoor
end
/-
  Plain facts on journals: what a page reads as behind a record that was added. Own work; no statement of the seat is proved here.
-/
section
namespace Go.Proofs.YtebndjnkmcahaaaGreatDoor
set_option linter.unusedSimpArgs false
set_option linter.unusedVariables false
open Go Go.Abs

/-! scanning without fuel -/
theorem scanN_enough (page : List UInt8) (g : UInt64) : ∀ (f f' a : Nat), page.length < a + f → page.length < a + f' → scanN page g f a = scanN page g f' a
  | 0, 0, a, _, _ => rfl
  | 0, f' + 1, a, h, _ => by
    have : payM page g a = [] := by unfold payM; rw [if_pos (by omega)]
    simp [scanN, this]
  | f + 1, 0, a, _, h => by
    have : payM page g a = [] := by unfold payM; rw [if_pos (by omega)]
    simp [scanN, this]
  | f + 1, f' + 1, a, h, h' => by
    simp only [scanN]
    split
    · rfl
    · rename_i hp
      have := payM_le page g a hp
      rw [scanN_enough page g f f' _ (by omega) (by omega)]
def scanA (page : List UInt8) (g : UInt64) (a : Nat) : List (List UInt8) × Nat := scanN page g (page.length + 1) a
theorem scanM_A (page : List UInt8) (g : UInt64) (h : 1 ≤ page.length) : scanM page g = scanA page g 16 := scanN_enough page g _ _ _ (by omega) (by omega)
theorem scanA_stop (page : List UInt8) (g : UInt64) (a : Nat) (h : payM page g a = []) : scanA page g a = ([], a) := by
  unfold scanA; simp only [scanN, h, if_true]
theorem scanA_next (page : List UInt8) (g : UInt64) (a : Nat) (h : payM page g a ≠ []) :
    scanA page g a = (payM page g a :: (scanA page g (a + 10 + (payM page g a).length)).1, (scanA page g (a + 10 + (payM page g a).length)).2) := by
  unfold scanA
  have hle := payM_le page g a h
  rw [show scanN page g (page.length + 1) a = (payM page g a :: (scanN page g page.length (a + 10 + (payM page g a).length)).1, (scanN page g page.length (a + 10 + (payM page g a).length)).2) by simp only [scanN, if_neg h]]
  rw [scanN_enough page g page.length (page.length + 1) _ (by omega) (by omega)]
theorem scanA_ge (page : List UInt8) (g : UInt64) (a : Nat) (h : a ≤ page.length) : a ≤ (scanA page g a).2 ∧ (scanA page g a).2 ≤ page.length := by
  have := scanN_le page g (page.length + 1) a h
  exact ⟨this.2, this.1⟩
theorem scanA_end (page : List UInt8) (g : UInt64) : ∀ (m a : Nat), page.length - a ≤ m → payM page g (scanA page g a).2 = []
  | 0, a, h => by
    have : payM page g a = [] := by unfold payM; rw [if_pos (by omega)]
    rw [scanA_stop _ _ _ this]; exact this
  | m + 1, a, h => by
    by_cases hp : payM page g a = []
    · rw [scanA_stop _ _ _ hp]; exact hp
    · rw [scanA_next _ _ _ hp]
      have := payM_le page g a hp
      exact scanA_end page g m _ (by omega)

/-- two pages that agree up to an offset -/
structure Agree (t : Nat) (x y : List UInt8) : Prop where
  len : x.length = y.length
  get : ∀ i, i < t → x.getD i 0 = y.getD i 0
theorem Agree.cut {t : Nat} {x y : List UInt8} (h : Agree t x y) {a m : Nat} (hm : a + m ≤ t) : (x.drop a).take m = (y.drop a).take m := by
  apply List.ext_getElem
  · simp [h.len]
  · intro i h1 h2
    have hi : i < m := by simp at h1; omega
    have hx : a + i < x.length := by simp at h1; omega
    have hy : a + i < y.length := by simp at h2; omega
    have := h.get (a + i) (by omega)
    simp only [List.getElem_take, List.getElem_drop]
    simpa [List.getD_eq_getElem?_getD, hx, hy] using this
theorem Agree.lenA {t : Nat} {x y : List UInt8} (h : Agree t x y) {a : Nat} (ha : a + 2 ≤ t) : lenAt x a = lenAt y a := by
  unfold lenAt; rw [h.get a (by omega), h.get (a + 1) (by omega)]
theorem payM_some {page : List UInt8} {g : UInt64} {a : Nat} (h : payM page g a ≠ []) : payM page g a = (page.drop (a + 2)).take (lenAt page a) ∧ a + 10 + lenAt page a ≤ page.length ∧ 1 ≤ lenAt page a ∧ lenAt page a ≤ 256 ∧ (payM page g a).length = lenAt page a ∧
    (page.drop (a + 2 + lenAt page a)).take 8 = chkM g ((page.drop (a + 2)).take (lenAt page a)) := by
  unfold payM at h ⊢
  split at h
  · exact absurd rfl h
  · rename_i h1
    rw [if_neg h1]
    split at h
    · exact absurd rfl h
    · rename_i h2
      rw [if_neg h2]
      split at h
      · exact absurd rfl h
      · rename_i h3
        rw [if_neg h3]
        exact ⟨rfl, by omega, by omega, by omega, by simp; omega, by simpa using h3⟩
theorem payM_mk {page : List UInt8} {g : UInt64} {a n : Nat} (hn : lenAt page a = n) (h1 : a + 10 + n ≤ page.length) (h2 : 1 ≤ n) (h3 : n ≤ 256) (h4 : (page.drop (a + 2 + n)).take 8 = chkM g ((page.drop (a + 2)).take n)) : payM page g a = (page.drop (a + 2)).take n := by
  subst hn
  unfold payM
  rw [if_neg (by omega), if_neg (by omega), if_neg (fun e => e h4)]
theorem Agree.pay {t : Nat} {x y : List UInt8} (h : Agree t x y) {g : UInt64} {a : Nat} (hp : payM x g a ≠ []) (ht : a + 10 + (payM x g a).length ≤ t) : payM y g a = payM x g a := by
  obtain ⟨e1, e2, e3, e4, e5, e6⟩ := payM_some hp
  have hl := h.lenA (a := a) (by omega)
  rw [e1, hl]
  rw [hl] at e2 e3 e4 e5 e6
  rw [e5] at ht
  rw [h.cut (show a + 2 + lenAt y a ≤ t by omega), h.cut (show a + 2 + lenAt y a + 8 ≤ t by omega)] at e6
  rw [h.cut (show a + 2 + lenAt y a ≤ t by omega)]
  exact payM_mk rfl (by rw [← h.len]; omega) e3 e4 e6

/-- the pages agree up to where the first one's records end: the second one has these records, and goes on from there -/
theorem scan_agree {x y : List UInt8} {g : UInt64} : ∀ (m a : Nat), x.length - a ≤ m → Agree (scanA x g a).2 x y → scanA y g a = ((scanA x g a).1 ++ (scanA y g (scanA x g a).2).1, (scanA y g (scanA x g a).2).2)
  | 0, a, h, hag => by
    have hp : payM x g a = [] := by unfold payM; rw [if_pos (by omega)]
    rw [scanA_stop _ _ _ hp]; simp
  | m + 1, a, h, hag => by
    by_cases hp : payM x g a = []
    · rw [scanA_stop _ _ _ hp]; simp
    · have hn := scanA_next x g a hp
      have hle := payM_le x g a hp
      have hge := scanA_ge x g (a + 10 + (payM x g a).length) hle.1
      rw [hn] at hag
      have hy : payM y g a = payM x g a := hag.pay hp hge.1
      have ih := scan_agree m (a + 10 + (payM x g a).length) (by omega) hag
      rw [scanA_next y g a (by rw [hy]; exact hp), hy, ih, hn]
      simp

/-! numbers and bytes of a header -/
theorem getD_app (x y : List UInt8) (i : Nat) : (x ++ y).getD i 0 = if i < x.length then x.getD i 0 else y.getD (i - x.length) 0 := by
  simp only [List.getD_eq_getElem?_getD, List.getElem?_append]
  split <;> rfl
theorem wordB_get (w : UInt64) : ∀ k i, i < k → (wordB w k).getD i 0 = (shrN w (56 - 8 * i)).toUInt8
  | 0, i, h => by omega
  | k + 1, i, h => by
    simp only [wordB, getD_app, wordB_len]
    split
    · exact wordB_get w k i ‹_›
    · obtain rfl : i = k := by omega
      simp
theorem wordsM1 (w : UInt64) (r : List UInt64) : wordsM (w :: r) 1 = wordB w 8 := by simp [wordsM]
theorem wordsM2 (w v : UInt64) (r : List UInt64) : wordsM (w :: v :: r) 2 = wordB w 8 ++ wordB v 8 := by simp [wordsM]
theorem wordN_congr {x y : List UInt8} : ∀ k, (∀ i, i < k → x.getD i 0 = y.getD i 0) → wordN x k = wordN y k
  | 0, _ => rfl
  | k + 1, h => by simp only [wordN]; rw [wordN_congr k fun i hi => h i (by omega), h k (by omega)]

theorem wordN_nat (x : List UInt8) : ∀ k, k ≤ 8 → (wordN x k).toNat < 2 ^ (8 * k)
  | 0, _ => by simp [wordN]
  | k + 1, h => by
    have ih := wordN_nat x k (by omega)
    simp only [wordN, UInt64.toNat_or, shlN, UInt64.toNat_ofNat', UInt8.toNat_toUInt64]
    have hx := (x.getD k 0).toNat_lt
    have h8 : 2 ^ (8 * (k + 1)) = 2 ^ (8 * k) * 256 := by rw [Nat.mul_add, Nat.pow_add]
    have hp : 2 ^ (8 * (k + 1)) ≤ 2 ^ 64 := Nat.pow_le_pow_right (by decide) (by omega)
    refine Nat.or_lt_two_pow ?_ ?_
    · have : (wordN x k).toNat * 2 ^ 8 < 2 ^ (8 * (k + 1)) := by rw [h8]; omega
      omega
    · have : 256 ≤ 2 ^ (8 * (k + 1)) := by rw [h8]; have := Nat.one_le_two_pow (n := 8 * k); omega
      omega
theorem wordN_step (x : List UInt8) (k : Nat) (h : k < 8) : (wordN x (k + 1)).toNat = (wordN x k).toNat * 256 + (x.getD k 0).toNat := by
  have ih := wordN_nat x k (by omega)
  have hx := (x.getD k 0).toNat_lt
  have h8 : 2 ^ (8 * (k + 1)) = 2 ^ (8 * k) * 256 := by rw [Nat.mul_add, Nat.pow_add]
  have hp : 2 ^ (8 * (k + 1)) ≤ 2 ^ 64 := Nat.pow_le_pow_right (by decide) (by omega)
  simp only [wordN, UInt64.toNat_or, shlN, UInt64.toNat_ofNat', UInt8.toNat_toUInt64]
  have hlt : (wordN x k).toNat * 2 ^ 8 < 2 ^ 64 := by
    have : (wordN x k).toNat * 2 ^ 8 < 2 ^ (8 * (k + 1)) := by rw [h8]; omega
    omega
  rw [Nat.mod_eq_of_lt hlt, Nat.mul_comm, ← Nat.two_pow_add_eq_or_of_lt (by omega), Nat.mul_comm]
theorem word_back (w : UInt64) : ∀ k, k ≤ 8 → (wordN (wordB w 8) k).toNat = w.toNat / 2 ^ (64 - 8 * k)
  | 0, _ => by
    have := w.toNat_lt
    simp only [wordN, Nat.mul_zero, Nat.sub_zero]
    rw [Nat.div_eq_of_lt this]; rfl
  | k + 1, h => by
    rw [wordN_step _ _ (by omega), word_back w k (by omega), wordB_get w 8 k (by omega)]
    simp only [shrN]
    have hw := w.toNat_lt
    rw [UInt64.toNat_toUInt8, UInt64.toNat_ofNat']
    have e : 64 - 8 * k = (64 - 8 * (k + 1)) + 8 := by omega
    have e' : 56 - 8 * k = 64 - 8 * (k + 1) := by omega
    rw [e', e, Nat.pow_add]
    generalize hd : w.toNat / 2 ^ (64 - 8 * (k + 1)) = d
    have hdl : d < 2 ^ 64 := by rw [← hd]; exact Nat.lt_of_le_of_lt (Nat.div_le_self _ _) hw
    rw [Nat.mod_eq_of_lt hdl, ← Nat.div_div_eq_div_mul, hd]
    omega
theorem word_id (w : UInt64) : wordN (wordB w 8) 8 = w := by
  apply UInt64.toNat_inj.1
  rw [word_back w 8 (Nat.le_refl _)]; simp
theorem headM_word (g : UInt64) (r : List UInt8) : wordN (headM g ++ r) 8 = g := by
  have : wordN (headM g ++ r) 8 = wordN (wordB g 8) 8 := by
    refine wordN_congr 8 fun i hi => ?_
    rw [getD_app, headM_len, if_pos (by omega)]
    unfold headM
    rw [wordsM2, getD_app, wordB_len, if_pos hi]
  rw [this, word_id]
theorem genM_of {page : List UInt8} {g : UInt64} (h : page.take 16 = headM g) (h1 : 1 ≤ g.toNat) (h2 : g.toNat ≤ 1099511627776) : genM page = g.toNat := by
  have hw : wordN page 8 = g := by
    rw [← wordN_take page 16 8 (by decide), h]
    have := headM_word g []
    rwa [List.append_nil] at this
  unfold genM
  rw [hw, if_neg]
  rintro (h | h | h)
  · omega
  · omega
  · exact h ‹_›
theorem genM_take {x y : List UInt8} (h : x.take 16 = y.take 16) : genM x = genM y := by
  have hw : wordN x 8 = wordN y 8 := by rw [← wordN_take x 16 8 (by decide), h, wordN_take y 16 8 (by decide)]
  unfold genM; rw [hw, h]

end Go.Proofs.YtebndjnkmcahaaaGreatDoor
end

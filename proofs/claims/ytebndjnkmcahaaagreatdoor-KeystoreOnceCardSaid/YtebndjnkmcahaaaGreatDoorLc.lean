/-
  Plain facts on journals: the journal behind Format is the reference's. Own work; no statement of the seat is proved here.
-/
import Derived.Test.YtebndjnkmcahaaaGreatDoorLb
namespace Go.Proofs.YtebndjnkmcahaaaGreatDoor
set_option linter.unusedSimpArgs false
set_option linter.unusedVariables false
open Go Go.Abs

theorem perform_seq (f : Fl) (budget : Int) (l : List JOp) : performM f budget l = if (seqM f budget l).err ≠ 0 then brokenM (seqM f budget l).f (seqM f budget l).err else performM (seqM f budget l).f (seqM f budget l).left [] := by
  induction l generalizing f budget with
  | nil =>
    show performM f budget [] = if (0 : Int) ≠ 0 then brokenM f 0 else performM f budget []
    rw [if_neg (by decide)]
  | cons o r ih =>
    rw [perform_cons _ _ _ _ _ rfl]
    have hs := seq_cons f budget o r _ rfl
    generalize runM f budget o = G at *
    by_cases h16 : G.err = 16
    · rw [if_pos (show G.err ≠ 0 by omega)] at hs
      rw [hs, if_pos h16, if_pos (show G.err ≠ 0 by omega)]
      unfold brokenM; rw [if_pos h16]
    · rw [if_neg h16]
      by_cases h0 : G.err = 0
      · rw [if_neg (fun e => e h0)] at hs
        rw [hs, if_neg (fun e => e h0)]
        exact ih _ _
      · rw [if_pos h0] at hs
        rw [hs, if_pos h0, if_pos h0]
        unfold brokenM; rw [if_neg h16]

/-- a flash of k pages of p bytes -/
structure VFl (f : Fl) (p k : Nat) : Prop where
  ps : f.ps = p
  p1 : 512 ≤ p
  p2 : p ≤ 8192
  len : f.bs.length = p * k
  k1 : 2 ≤ k
  k2 : k ≤ 8
theorem VFl.alter {f : Fl} {p k : Nat} (h : VFl f p k) (a m : Nat) (budget : Int) (ch : Nat → UInt8 → UInt8) : VFl (alterM f a m budget ch).f p k :=
  ⟨h.ps, h.p1, h.p2, by simp [alterM, updN_len, h.len], h.k1, h.k2⟩
theorem VFl.pg {f : Fl} {p k : Nat} (h : VFl f p k) {q : Nat} (hq : q < k) : (pgM f q).length = p := pgM_len h.ps h.len hq
theorem VFl.area {f : Fl} {p k : Nat} (h : VFl f p k) {q t m : Nat} (hq : q < k) (ht : t + m ≤ p) : areaM f q t m = 0 := by
  have hf : f = ⟨p, f.bs⟩ := by rw [← h.ps]
  rw [hf]
  exact areaM_in (k := k) h.p1 h.p2 (by have := h.k1; omega) h.k2 h.len ⟨by omega, by omega, by omega, by omega⟩
theorem VFl.erase {f : Fl} {p k : Nat} (h : VFl f p k) {q : Nat} (hq : q < k) (budget : Int) : eraseM f q budget = alterM f (q * p + 0) p budget (fun _ _ => 255) := by
  have ha := h.area hq (t := 0) (m := 0) (by omega)
  rw [eraseM_ok (by exact_mod_cast ha), h.ps, Int.toNat_natCast]
  have : ((q : Int) * (p : Int)).toNat = q * p := by have e : (q : Int) * (p : Int) = ((q * p : Nat) : Int) := by simp
                                                     rw [e]; omega
  rw [this]; rfl
theorem VFl.prog {f : Fl} {p k : Nat} (h : VFl f p k) {q t : Nat} {s : List UInt8} (hq : q < k) (ht : t + s.length ≤ p) (budget : Int) : progM f q t s budget = alterM f (q * p + t) s.length budget (progCh s) := by
  rw [progM_ok rfl (h.area hq ht), h.ps]
  have : ((q : Int) * (p : Int) + (t : Int)).toNat = q * p + t := by have e : (q : Int) * (p : Int) = ((q * p : Nat) : Int) := by simp
                                                                     rw [e]; omega
  rw [this]
theorem VFl.exam {f : Fl} {p k : Nat} (h : VFl f p k) : examM f = 0 := by
  unfold examM
  rw [h.ps, h.len, valid_mk p k h.p1 h.p2 (by have := h.k1; omega) h.k2, if_neg (by decide), if_neg]
  have : p * 2 ≤ p * k := Nat.mul_le_mul_left p h.k1
  omega
theorem VFl.of {f : Fl} (h : examM f = 0) : ∃ p k, VFl f p k := by
  obtain ⟨p, k, h1, h2, h3, h4, h5, h6⟩ := examM_ok h
  exact ⟨p, k, h1, h2, h3, h4, h5, h6⟩
theorem VFl.page {f : Fl} {p k : Nat} (h : VFl f p k) {q t m : Nat} (hq : q < k) (ht : t + m ≤ p) (budget : Int) (ch : Nat → UInt8 → UInt8) {q' : Nat} (hq' : q' < k) (i : Nat) :
    (pgM (alterM f (q * p + t) m budget ch).f q').getD i 0 = if q' = q ∧ t ≤ i ∧ i < t + reachM m budget then ch (i - t) ((pgM f q').getD i 0) else (pgM f q').getD i 0 :=
  alter_page h.ps h.len hq ht q' hq' i
theorem pow_0 {m : Nat} {budget : Int} (h : powM m budget = 0) : reachM m budget = m := by
  unfold powM at h; unfold reachM
  split at h
  · cases h
  · rename_i hx; rw [if_neg hx]
theorem pow_or (m : Nat) (budget : Int) : powM m budget = 0 ∨ powM m budget = 16 := by unfold powM; split <;> simp

theorem gen_erased {page : List UInt8} (h0 : page.getD 0 0 = 255) : genM page = 0 := by
  have h1 : (wordN page 1).toNat = 255 := by rw [wordN_step _ _ (by decide), h0]; simp [wordN]
  have step : ∀ k, k < 8 → (wordN page k).toNat * 256 ≤ (wordN page (k + 1)).toNat := fun k hk => by rw [wordN_step _ _ hk]; omega
  have h8 : (wordN page 7).toNat * 256 ≤ (wordN page 8).toNat := step 7 (by decide)
  have h7 : (wordN page 6).toNat * 256 ≤ (wordN page 7).toNat := step 6 (by decide)
  have h6 : (wordN page 5).toNat * 256 ≤ (wordN page 6).toNat := step 5 (by decide)
  have h5 : (wordN page 4).toNat * 256 ≤ (wordN page 5).toNat := step 4 (by decide)
  have h4 : (wordN page 3).toNat * 256 ≤ (wordN page 4).toNat := step 3 (by decide)
  have h3 : (wordN page 2).toNat * 256 ≤ (wordN page 3).toNat := step 2 (by decide)
  have h2 : (wordN page 1).toNat * 256 ≤ (wordN page 2).toNat := step 1 (by decide)
  unfold genM
  rw [if_pos (by omega)]

/-- a page whose bytes from the 16th on are erased has no record -/
theorem scan_empty {page : List UInt8} {g : UInt64} (h : ∀ i, 16 ≤ i → i < page.length → page.getD i 0 = 255) (h16 : 16 ≤ page.length) : scanM page g = ([], 16) ∧ (page.drop 16).all (· == 255) = true := by
  refine ⟨?_, all255_of fun i hi => ?_⟩
  · rw [scanM_A _ _ (by omega)]; exact scanA_stop _ _ _ (pay_erased h)
  · rw [drop_get]; simp at hi; exact h _ (by omega) (by omega)

theorem format_seq {f : Fl} {p k : Nat} (hv : VFl f p k) {budget : Int} (h : (seqM f budget [.er 0, .er 1, .wr 0 0 (headM 1)]).err = 0) :
    VFl (seqM f budget [.er 0, .er 1, .wr 0 0 (headM 1)]).f p k ∧ mountM (seqM f budget [.er 0, .er 1, .wr 0 0 (headM 1)]).f = ⟨⟨f.ps, (seqM f budget [.er 0, .er 1, .wr 0 0 (headM 1)]).f.bs, 0, 1, 16, false⟩, 0⟩ := by
  have hk1 := hv.k1
  have hp1 := hv.p1
  have r1 : runM f budget (.er 0) = _ := hv.erase (q := 0) (by omega) budget
  rw [seq_cons _ _ _ _ _ r1] at h ⊢
  have hv1 := hv.alter (0 * p + 0) p budget (fun _ _ => 255)
  have hg1 : ∀ q', q' < k → ∀ i, _ := fun q' h i => hv.page (q := 0) (t := 0) (m := p) (by omega) (by omega) budget (fun _ _ => 255) (q' := q') h i
  have hpw1 : (alterM f (0 * p + 0) p budget (fun _ _ => 255)).err = powM p budget := rfl
  generalize alterM f (0 * p + 0) p budget (fun _ _ => 255) = G1 at *
  by_cases hz1 : powM p budget = 0
  · rw [hpw1, hz1, if_neg (by decide)] at h
    rw [hpw1, hz1, if_neg (by decide)]
    rw [pow_0 hz1] at hg1
    have r2 : runM G1.f G1.left (.er 1) = _ := hv1.erase (q := 1) (by omega) G1.left
    rw [seq_cons _ _ _ _ _ r2] at h ⊢
    have hv2 := hv1.alter (1 * p + 0) p G1.left (fun _ _ => 255)
    have hg2 : ∀ q', q' < k → ∀ i, _ := fun q' h i => hv1.page (q := 1) (t := 0) (m := p) (by omega) (by omega) G1.left (fun _ _ => 255) (q' := q') h i
    have hpw2 : (alterM G1.f (1 * p + 0) p G1.left (fun _ _ => 255)).err = powM p G1.left := rfl
    generalize alterM G1.f (1 * p + 0) p G1.left (fun _ _ => 255) = G2 at *
    by_cases hz2 : powM p G1.left = 0
    · rw [hpw2, hz2, if_neg (by decide)] at h
      rw [hpw2, hz2, if_neg (by decide)]
      rw [pow_0 hz2] at hg2
      have r3 : runM G2.f G2.left (.wr 0 0 (headM 1)) = _ := hv2.prog (q := 0) (t := 0) (s := headM 1) (by omega) (by rw [headM_len]; omega) G2.left
      rw [seq_cons _ _ _ _ _ r3] at h ⊢
      have hv3 := hv2.alter (0 * p + 0) (headM 1).length G2.left (progCh (headM 1))
      have hg3 : ∀ q', q' < k → ∀ i, _ := fun q' h i => hv2.page (q := 0) (t := 0) (m := (headM 1).length) (by omega) (by rw [headM_len]; omega) G2.left (progCh (headM 1)) (q' := q') h i
      have hpw3 : (alterM G2.f (0 * p + 0) (headM 1).length G2.left (progCh (headM 1))).err = powM (headM 1).length G2.left := rfl
      generalize alterM G2.f (0 * p + 0) (headM 1).length G2.left (progCh (headM 1)) = G3 at *
      by_cases hz3 : powM (headM 1).length G2.left = 0
      · rw [hpw3, hz3, if_neg (by decide)]
        simp only [seqM]
        rw [pow_0 hz3, headM_len] at hg3
        have e0 : ∀ i, i < p → (pgM G2.f 0).getD i 0 = 255 := fun i hi => by
          rw [hg2 0 (by omega), if_neg (by omega), hg1 0 (by omega), if_pos (by omega)]
        have e1 : (pgM G3.f 1).getD 0 0 = 255 := by
          rw [hg3 1 (by omega), if_neg (by omega), hg2 1 (by omega), if_pos (by omega)]
        have f0 : (pgM G3.f 0).take 16 = headM 1 := by
          have := cut_eq (x := pgM G3.f 0) (y := headM 1) (a := 0) (b := 0) (m := 16) (by rw [hv3.pg (by omega)]; omega) (by rw [headM_len]; omega) (fun i hi => by
            rw [hg3 0 (by omega), if_pos (by omega), Nat.zero_add, e0 i (by omega)]
            exact and255 _)
          simpa [List.take_of_length_le (Nat.le_of_eq (headM_len 1))] using this
        have g0 : genM (pgM G3.f 0) = 1 := genM_of f0 (by decide) (by decide)
        have g1 : genM (pgM G3.f 1) = 0 := gen_erased e1
        have hm := mount_of (q := 0) hv3.ps hv3.p1 hv3.p2 hv3.len hv3.k1 hv3.k2 (by decide) (by omega) (by show genM (pgM G3.f 1) ≤ _; omega) (fun e => by omega)
        refine ⟨hv3, ?_⟩
        rw [hm, g0]
        obtain ⟨hs1, hs2⟩ := scan_empty (page := pgM G3.f 0) (g := UInt64.ofNat (1 : Int).toNat) (fun i h1 h2 => by
          rw [hv3.pg (by omega)] at h2
          rw [hg3 0 (by omega), if_neg (by omega), e0 i h2]) (by rw [hv3.pg (by omega)]; omega)
        unfold mountAt
        rw [hs1]
        simp only [hs2, Bool.not_true]
        have : G3.f.ps = f.ps := by rw [hv3.ps, hv.ps]
        rw [this]
        rfl
      · rw [hpw3, if_pos hz3] at h
        exact absurd (hpw3 ▸ h) hz3
    · rw [hpw2, if_pos hz2] at h
      exact absurd (hpw2 ▸ h) hz2
  · rw [hpw1, if_pos hz1] at h
    exact absurd (hpw1 ▸ h) hz1

theorem format_law (f : Fl) (budget : Int) : formatM f budget = rformatM f budget := by
  unfold formatM rformatM
  split
  · rfl
  · rename_i hx
    obtain ⟨p, k, hv⟩ := VFl.of (show examM f = 0 by omega)
    rw [perform_seq]
    by_cases h : (seqM f budget [.er 0, .er 1, .wr 0 0 (headM 1)]).err = 0
    · obtain ⟨_, hm⟩ := format_seq hv h
      rw [if_neg (fun e => e h), if_neg (fun e => e h), perform_nil _ _ _ hm, if_neg (fun e => e rfl), hm]
    · rw [if_pos h, if_pos h]

/-! without a budget the power does not fail -/
theorem pow_neg (m : Nat) : powM m (-1) = 0 ∧ reachM m (-1) = m ∧ leftM m (-1) = -1 := by
  unfold powM reachM leftM
  rw [if_neg (by omega), if_neg (by omega), if_neg (by omega), if_neg (by omega)]
  exact ⟨rfl, rfl, rfl⟩
theorem format_neg {f : Fl} {p k : Nat} (hv : VFl f p k) : (seqM f (-1) [.er 0, .er 1, .wr 0 0 (headM 1)]).err = 0 ∧ (seqM f (-1) [.er 0, .er 1, .wr 0 0 (headM 1)]).left = -1 := by
  have hk1 := hv.k1
  have hp1 := hv.p1
  have r1 : runM f (-1) (.er 0) = _ := hv.erase (q := 0) (by omega) (-1)
  rw [seq_cons _ _ _ _ _ r1]
  have hv1 := hv.alter (0 * p + 0) p (-1) (fun _ _ => 255)
  have a1 : (alterM f (0 * p + 0) p (-1) (fun _ _ => 255)).err = 0 ∧ (alterM f (0 * p + 0) p (-1) (fun _ _ => 255)).left = -1 := ⟨(pow_neg p).1, (pow_neg p).2.2⟩
  generalize alterM f (0 * p + 0) p (-1) (fun _ _ => 255) = G1 at *
  rw [if_neg (fun e => e a1.1), a1.2]
  have r2 : runM G1.f (-1) (.er 1) = _ := hv1.erase (q := 1) (by omega) (-1)
  rw [seq_cons _ _ _ _ _ r2]
  have hv2 := hv1.alter (1 * p + 0) p (-1) (fun _ _ => 255)
  have a2 : (alterM G1.f (1 * p + 0) p (-1) (fun _ _ => 255)).err = 0 ∧ (alterM G1.f (1 * p + 0) p (-1) (fun _ _ => 255)).left = -1 := ⟨(pow_neg p).1, (pow_neg p).2.2⟩
  generalize alterM G1.f (1 * p + 0) p (-1) (fun _ _ => 255) = G2 at *
  rw [if_neg (fun e => e a2.1), a2.2]
  have r3 : runM G2.f (-1) (.wr 0 0 (headM 1)) = _ := hv2.prog (q := 0) (t := 0) (s := headM 1) (by omega) (by rw [headM_len]; omega) (-1)
  rw [seq_cons _ _ _ _ _ r3]
  have a3 : (alterM G2.f (0 * p + 0) (headM 1).length (-1) (progCh (headM 1))).err = 0 ∧ (alterM G2.f (0 * p + 0) (headM 1).length (-1) (progCh (headM 1))).left = -1 := ⟨(pow_neg (headM 1).length).1, (pow_neg (headM 1).length).2.2⟩
  generalize alterM G2.f (0 * p + 0) (headM 1).length (-1) (progCh (headM 1)) = G3 at *
  rw [if_neg (fun e => e a3.1)]
  exact ⟨rfl, a3.2⟩
theorem format_fresh {f : Fl} {p k : Nat} (hv : VFl f p k) : ∃ j, formatM f (-1) = ⟨j, -1, 0⟩ ∧ mountM (flOf j) = ⟨j, 0⟩ ∧ VFl (flOf j) p k ∧ j.tail = 16 ∧ j.torn = false ∧ j.ps = p ∧ recsM j = [] ∧ j.gen = 1 := by
  obtain ⟨h1, h2⟩ := format_neg hv
  obtain ⟨hv', hm⟩ := format_seq hv h1
  have hps : (seqM f (-1) [.er 0, .er 1, .wr 0 0 (headM 1)]).f.ps = f.ps := by rw [hv'.ps, hv.ps]
  have hfl : flOf ⟨f.ps, (seqM f (-1) [.er 0, .er 1, .wr 0 0 (headM 1)]).f.bs, 0, 1, 16, false⟩ = (seqM f (-1) [.er 0, .er 1, .wr 0 0 (headM 1)]).f := by
    rw [← hps]; rfl
  refine ⟨⟨f.ps, (seqM f (-1) [.er 0, .er 1, .wr 0 0 (headM 1)]).f.bs, 0, 1, 16, false⟩, ?_, by rw [hfl]; exact hm, by rw [hfl]; exact hv', rfl, rfl, hv.ps, ?_, rfl⟩
  · unfold formatM
    rw [hv.exam, if_neg (by decide), perform_seq, if_neg (fun e => e h1), perform_nil _ _ _ hm, if_neg (fun e => e rfl), h2]
  · have hgn := genuine_of (show mountM (flOf ⟨f.ps, (seqM f (-1) [.er 0, .er 1, .wr 0 0 (headM 1)]).f.bs, 0, 1, 16, false⟩) = _ by rw [hfl]; exact hm)
    obtain ⟨p', k', q, t, g, h⟩ := JAt.of hgn
    have ht : (16 : Int) = t := h.tail
    rw [h.recs]
    have hsc := h.scan
    have htl := scanN_tail (pgM (flOf ⟨f.ps, (seqM f (-1) [.er 0, .er 1, .wr 0 0 (headM 1)]).f.bs, 0, 1, 16, false⟩) q) g ((pgM (flOf ⟨f.ps, (seqM f (-1) [.er 0, .er 1, .wr 0 0 (headM 1)]).f.bs, 0, 1, 16, false⟩) q).length + 1) 16
    have htl2 := totM_len (scanA (pgM (flOf ⟨f.ps, (seqM f (-1) [.er 0, .er 1, .wr 0 0 (headM 1)]).f.bs, 0, 1, 16, false⟩) q) g 16).1
    unfold scanA at hsc htl2 ⊢
    exact List.eq_nil_of_length_eq_zero (by omega)

theorem newFl_ok : VFl (newFl 512 2) 512 2 := by
  have : newFl 512 2 = ⟨512, List.replicate 1024 255⟩ := by unfold newFl; rw [if_neg (by decide)]; rfl
  rw [this]
  exact ⟨rfl, by decide, by decide, List.length_replicate, by decide, by decide⟩

theorem append_fresh {j : Jn} (hm : mountM (flOf j) = ⟨j, 0⟩) (htn : j.torn = false) {b : List UInt8} (h1 : 1 ≤ b.length) (h2 : b.length ≤ 256) (hfit : j.tail + 10 + b.length ≤ j.ps) :
    ∃ j', appendM j b (-1) = ⟨j', -1, 0⟩ ∧ mountM (flOf j') = ⟨j', 0⟩ ∧ recsM j' = recsM j ++ [b] := by
  have hg := genuine_of hm
  obtain ⟨p, k, q, t, g, h⟩ := JAt.of hg
  have e1 : j.ps = p := h.ps
  have htt := h.tail
  rw [append_law]
  unfold rappendM
  rw [if_neg (by rw [hg]; decide), if_neg (by omega), if_neg (by rw [htn]; decide)]
  have hr : ¬ ((b.length : Int) > roomM j.ps j.tail j.torn) := by
    unfold roomM
    rw [htn, if_neg (by decide)]
    split
    · omega
    · split <;> omega
  rw [if_neg hr, h.gg]
  have hfit' : t + (b.length + 10) ≤ p := by omega
  rw [h.prog (s := recM g b) (by rw [recM_len]; exact hfit') (-1)]
  obtain ⟨hm', hrec⟩ := append_full h htn h1 h2 hfit' (budget := -1) (by rw [(pow_neg _).2.1, recM_len]) rfl
  have a3 : (alterM (flOf j) (q * p + t) (recM g b).length (-1) (progCh (recM g b))).err = 0 ∧ (alterM (flOf j) (q * p + t) (recM g b).length (-1) (progCh (recM g b))).left = -1 := ⟨(pow_neg (recM g b).length).1, (pow_neg (recM g b).length).2.2⟩
  generalize alterM (flOf j) (q * p + t) (recM g b).length (-1) (progCh (recM g b)) = G at *
  rw [if_neg (fun e => e a3.1), a3.2]
  exact ⟨_, rfl, hm', hrec⟩

end Go.Proofs.YtebndjnkmcahaaaGreatDoor

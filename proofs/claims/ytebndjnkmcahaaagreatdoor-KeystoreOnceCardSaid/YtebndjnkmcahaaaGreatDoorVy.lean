/- joined of several texts; own work; no statement of the seat is proved but in the last -/
import Derived.Test.YtebndjnkmcahaaaGreatDoorVk
/-
  Plain laws of the vault: what a change and an opening leave behind, also behind a power loss. Own work; no statement of the seat is proved here.
-/
section
namespace Go.Proofs.YtebndjnkmcahaaaGreatDoor
set_option linter.unusedSimpArgs false
set_option linter.unusedVariables false
open Go Go.Abs Go.RowKit

theorem prec1_len (p : Int × List UInt8) : (precM [p]).length = 3 + p.2.length := by rw [precM_len]; simp [szM]
theorem tot_snap : ∀ s : Store, totM (snapM s) = 10 * s.length + szM s
  | [] => rfl
  | p :: s => by
    show totM (precM [p] :: snapM s) = _
    rw [totM, prec1_len, tot_snap s]
    simp only [szM, List.length_cons]
    omega
theorem sized_snap {s : Store} (h : ∀ x, x ∈ s → 3 + x.2.length ≤ 256) : sizedL (snapM s) = true := by
  unfold sizedL snapM
  rw [List.all_eq_true]
  intro b hb
  obtain ⟨p, hp, rfl⟩ := List.mem_map.1 hb
  have := h p hp
  rw [prec1_len]
  simp; omega

theorem parse_prec : ∀ l : Store, (∀ x, x ∈ l → 0 ≤ x.1 ∧ x.1 ≤ 255 ∧ x.2.length < 65536) → parseO (precM l) = some l
  | [], _ => rfl
  | p :: l, h => by
    obtain ⟨h1, h2, h3⟩ := h p (by simp)
    have ih := parse_prec l (fun x hx => h x (by simp [hx]))
    have hb : precM (p :: l) = u8i p.1 :: UInt8.ofNat (p.2.length / 256) :: UInt8.ofNat p.2.length :: (p.2 ++ precM l) := by simp [precM]
    have hl : (precM (p :: l)).length = 3 + p.2.length + (precM l).length := by rw [hb]; simp; omega
    have hla : lenAt (precM (p :: l)) 1 = p.2.length := by
      rw [hb]
      show (UInt8.ofNat (p.2.length / 256)).toNat * 256 + (UInt8.ofNat p.2.length).toNat = _
      rw [UInt8.toNat_ofNat', UInt8.toNat_ofNat']
      omega
    have hk : (((precM (p :: l)).getD 0 0).toNat : Int) = p.1 := by
      rw [hb]
      show ((u8i p.1).toNat : Int) = _
      rw [u8i_nat, wrap_u8_def]; omega
    have hn := parseO_next (precM (p :: l)) (by rw [hb]; simp) (by omega) (by omega)
    rw [hla, hk] at hn
    have hd : (precM (p :: l)).drop (3 + p.2.length) = precM l := by rw [hb, ← List.drop_drop]; simp
    have ht : ((precM (p :: l)).drop 3).take p.2.length = p.2 := by rw [hb]; simp
    rw [hd, ht, ih] at hn
    rw [hn]; rfl
theorem stored_app (r : List (List UInt8)) (b : List UInt8) : storedL (r ++ [b]) = withM (storedL r) (parseM b) := by
  unfold storedL; rw [List.foldl_append]; rfl

theorem dup_is : ∀ (l : Store) (seen : List Int), dupN seen l = 0 → ∀ x, x ∈ l → 0 ≤ x.1 ∧ x.1 ≤ 255
  | [], _, _, x, hx => by cases hx
  | p :: l, seen, h, x, hx => by
    simp only [dupN] at h
    split at h
    · cases h
    · rename_i h1
      split at h
      · cases h
      · rcases List.mem_cons.1 hx with rfl | hx
        · omega
        · exact dup_is l _ h x hx
theorem szM_mem : ∀ {l : Store} {x : Int × List UInt8}, x ∈ l → 3 + x.2.length ≤ szM l
  | p :: l, x, h => by
    simp only [szM]
    rcases List.mem_cons.1 h with rfl | h
    · omega
    · have := szM_mem h; omega
theorem admit_is {l : Store} (h : admitM l = 0) : 1 ≤ szM l ∧ szM l ≤ 256 ∧ ∀ x, x ∈ l → 0 ≤ x.1 ∧ x.1 ≤ 255 ∧ 3 + x.2.length ≤ 256 := by
  unfold admitM at h
  split at h
  · cases h
  · rename_i hne
    split at h
    · rename_i h1; exact absurd h h1
    · rename_i h1
      split at h
      · cases h
      · rename_i h2
        have h1 : dupN [] l = 0 := by simpa using h1
        refine ⟨?_, by omega, fun x hx => ?_⟩
        · cases l with
          | nil => exact absurd rfl hne
          | cons p l => simp only [szM]; omega
        · have := dup_is l [] h1 x hx
          have := szM_mem hx
          omega

structure SOk (s : Store) (ps : Int) : Prop where
  srt : Srt s
  el : ∀ x, x ∈ s → x.2 ≠ [] ∧ 0 ≤ x.1 ∧ x.1 ≤ 255 ∧ 3 + x.2.length ≤ 256
  fit : 16 + 10 * (s.length : Int) + (szM s : Int) ≤ ps
theorem SOk.snap {s : Store} {ps : Int} (h : SOk s ps) : storedL (snapM s) = s := stored_snap h.srt (fun x hx => by have := h.el x hx; exact ⟨this.1, this.2.1, this.2.2.1, by omega⟩)
theorem SOk.with {s l : Store} {ps : Int} (h : SOk s ps) (ha : admitM l = 0) (hf : ¬ ps < 16 + 10 * ((withM s l).length : Int) + (szM (withM s l) : Int)) : SOk (withM s l) ps := by
  obtain ⟨_, _, hal⟩ := admit_is ha
  obtain ⟨h1, h2⟩ := withM_apply l s h.srt
  refine ⟨by rw [h1]; exact h2, fun x hx => ?_, by omega⟩
  rcases withM_mem hx with ⟨hx, hn⟩ | hx
  · exact ⟨hn, hal x hx⟩
  · exact h.el x hx

structure VOk (v : Vt) (G : Int) : Prop where
  mt : MtOk v.j
  pr : v.prs = storedM v.j
  so : SOk v.prs v.j.ps
  gen : v.j.gen ≤ G
structure FOk (f : Fl) (s : Store) (G : Int) : Prop where
  err : (mountM f).err = 0
  st : storedM (mountM f).j = s
  so : SOk s f.ps
  gen : (mountM f).j.gen ≤ G

theorem open_ok {f : Fl} {s : Store} {G : Int} (h : FOk f s G) (hG : G < 1099511627776) (B : Int) :
    ((ropenM f B).err = 0 ∧ VOk (ropenM f B).v (G + 1) ∧ (ropenM f B).v.prs = s ∧ (ropenM f B).v.j.ps = f.ps) ∨
    ((ropenM f B).err = 16 ∧ 0 ≤ B ∧ FOk (flOf (ropenM f B).v.j) s (G + 1) ∧ (ropenM f B).v.j.ps = f.ps) := by
  have hm := MtOk.of h.err
  have hfl := mount_fl h.err
  have hps : (mountM f).j.ps = f.ps := congrArg Fl.ps hfl
  have hst := h.st
  have hgn := h.gen
  have hopen : ropenM f B = ropenE (mountM f).j B := by
    unfold ropenM
    rw [if_neg (by rw [h.err]; decide), if_neg (by rw [h.err]; decide)]
  rw [hopen]
  generalize (mountM f).j = j at *
  have hso := h.so
  unfold ropenE
  by_cases ht : j.torn = false
  · left
    rw [if_pos ht]
    exact ⟨rfl, ⟨hm, rfl, by rw [hst, hps]; exact hso, by show j.gen ≤ G + 1; omega⟩, hst, hps⟩
  · rw [if_neg ht]
    have hends := rewrite_endsG hm (snapM (storedM j)) B
    have hsr := stored_rewrite hm B
    rw [rewrite_law, hst] at hends
    rw [hst] at hsr ⊢
    generalize rrewriteM j (snapM s) B = X at *
    rcases hends with ⟨he, hmt, htn, hrec, hlf, hg, hp⟩ | ⟨he, hlf, hme, hrec, hg, hp, hB⟩ | ⟨_, _, _, hbad⟩
    · left
      have hne : ¬ X.err ≠ 0 := fun c => c he
      rw [if_neg hne]
      exact ⟨rfl, ⟨hmt, (hsr he).symm, by show SOk s X.j.ps; rw [hp, hps]; exact hso, by show X.j.gen ≤ G + 1; omega⟩, rfl, by show X.j.ps = _; rw [hp, hps]⟩
    · right
      have hne : X.err ≠ 0 := by rw [he]; decide
      rw [if_pos hne, he]
      have hlo : lostM X.j 16 = ⟨⟨⟨X.j.ps, X.j.bs, 0, 0, 0, false⟩, []⟩, 0, 16⟩ := by unfold lostM; rw [if_pos rfl]
      rw [hlo]
      refine ⟨rfl, hB, ⟨hme, ?_, by show SOk s X.j.ps; rw [hp, hps]; exact hso, ?_⟩, by show X.j.ps = _; rw [hp, hps]⟩
      · show storedL (recsM (mountM (flOf X.j)).j) = s
        rcases hrec with hr | hr
        · rw [hr]; exact hst
        · rw [hr]; exact hso.snap
      · show (mountM (flOf X.j)).j.gen ≤ G + 1
        omega
    · exfalso
      rcases hbad with hb | hb | hb
      · rw [sized_snap (fun x hx => (hso.el x hx).2.2.2)] at hb; cases hb
      · have := hso.fit
        rw [tot_snap] at hb
        omega
      · omega

theorem put_ok {v : Vt} {G : Int} (h : VOk v G) (hG : G < 1099511627776) (l : Store) (B : Int) :
    ((rputM v l B).err = 0 ∧ VOk (rputM v l B).v (G + 1) ∧ (rputM v l B).v.prs = withM v.prs l ∧ (0 ≤ B → 0 ≤ (rputM v l B).left) ∧ (rputM v l B).v.j.ps = v.j.ps) ∨
    ((rputM v l B).err = 16 ∧ (rputM v l B).left = 0 ∧ 0 ≤ B ∧ (rputM v l B).v.j.ps = v.j.ps ∧ (FOk (flOf (rputM v l B).v.j) v.prs (G + 1) ∨ FOk (flOf (rputM v l B).v.j) (withM v.prs l) (G + 1))) ∨
    ((rputM v l B).err ≠ 0 ∧ (rputM v l B).err ≠ 16 ∧ (rputM v l B).err = (rputM v l (-1)).err ∧ (admitM l ≠ 0 ∨ v.j.ps < 16 + 10 * ((withM v.prs l).length : Int) + (szM (withM v.prs l) : Int))) := by
  have hgv : ¬ genVM v = false := by
    unfold genVM
    rw [h.mt.gen, h.pr]; simp
  have hgn := h.gen
  by_cases ha : admitM l = 0
  case neg =>
    right; right
    unfold rputM
    rw [if_neg hgv, if_neg hgv, if_pos ha, if_pos ha, lost_ne _ _ (admit_ne l)]
    exact ⟨ha, admit_ne l, rfl, .inl ha⟩
  have hna : ¬ admitM l ≠ 0 := fun c => c ha
  by_cases hf : v.j.ps < 16 + 10 * ((withM v.prs l).length : Int) + (szM (withM v.prs l) : Int)
  · right; right
    unfold rputM
    rw [if_neg hgv, if_neg hgv, if_neg hna, if_neg hna, if_pos hf, if_pos hf, lost_ne _ 12 (by decide)]
    exact ⟨by decide, by decide, rfl, .inr hf⟩
  have hso := h.so
  have hsw := hso.with ha hf
  obtain ⟨ha1, ha2, hal⟩ := admit_is ha
  have hput : ∀ B, rputM v l B = if (rputX v l B).err ≠ 0 then lostM (rputX v l B).j (rputX v l B).err else ⟨⟨(rputX v l B).j, storedM (rputX v l B).j⟩, (rputX v l B).left, 0⟩ := fun B => by
    unfold rputM; rw [if_neg hgv, if_neg hna, if_neg hf]
  -- what the journal's operation leaves
  have key : ((rputX v l B).err = 0 ∧ MtOk (rputX v l B).j ∧ storedM (rputX v l B).j = withM v.prs l ∧ (0 ≤ B → 0 ≤ (rputX v l B).left) ∧ (rputX v l B).j.gen ≤ G + 1 ∧ (rputX v l B).j.ps = v.j.ps) ∨
      ((rputX v l B).err = 16 ∧ 0 ≤ B ∧ (mountM (flOf (rputX v l B).j)).err = 0 ∧ (storedM (mountM (flOf (rputX v l B).j)).j = v.prs ∨ storedM (mountM (flOf (rputX v l B).j)).j = withM v.prs l) ∧ (mountM (flOf (rputX v l B).j)).j.gen ≤ G + 1 ∧ (rputX v l B).j.ps = v.j.ps) := by
    have hpa : parseM (precM l) = l := by
      unfold parseM; rw [parse_prec l (fun x hx => by have := hal x hx; omega)]; rfl
    have hst : storedL (recsM v.j) = v.prs := h.pr.symm
    unfold rputX
    by_cases hr : (szM l : Int) ≤ jroomM v.j
    · rw [if_pos hr, ← append_law]
      have happ : storedL (recsM v.j ++ [precM l]) = withM v.prs l := by rw [stored_app, hpa, hst]
      rcases append_endsG h.mt (precM l) B with ⟨he, hmt, hrec, hlf, hg, hp⟩ | ⟨he, hlf, hme, hrec, hg, hp, hB⟩ | ⟨_, _, _, hc⟩
      · exact .inl ⟨he, hmt, by show storedL (recsM _) = _; rw [hrec, happ], hlf, by omega, hp⟩
      · refine .inr ⟨he, hB, hme, ?_, by omega, hp⟩
        rcases hrec with hr | hr
        · left; show storedL (recsM _) = _; rw [hr, hst]
        · right; show storedL (recsM _) = _; rw [hr, happ]
      · exfalso
        unfold jroomM at hr
        rw [h.mt.gen, if_pos rfl] at hr
        rw [precM_len] at hc
        rcases hc with hc | hc | hc
        · exact hc ⟨ha1, ha2⟩
        · rw [hc] at hr; unfold roomM at hr; rw [if_pos rfl] at hr; omega
        · omega
    · rw [if_neg hr, ← rewrite_law]
      rcases rewrite_endsG h.mt (snapM (withM v.prs l)) B with ⟨he, hmt, htn, hrec, hlf, hg, hp⟩ | ⟨he, hlf, hme, hrec, hg, hp, hB⟩ | ⟨_, _, _, hbad⟩
      · exact .inl ⟨he, hmt, by show storedL (recsM _) = _; rw [hrec, hsw.snap], hlf, by omega, hp⟩
      · refine .inr ⟨he, hB, hme, ?_, by omega, hp⟩
        rcases hrec with hr | hr
        · left; show storedL (recsM _) = _; rw [hr, hst]
        · right; show storedL (recsM _) = _; rw [hr, hsw.snap]
      · exfalso
        rcases hbad with hb | hb | hb
        · rw [sized_snap (fun x hx => (hsw.el x hx).2.2.2)] at hb; cases hb
        · have := hsw.fit
          rw [tot_snap] at hb
          omega
        · omega
  rw [hput B]
  generalize rputX v l B = X at *
  rcases key with ⟨he, hmt, hst, hlf, hg, hp⟩ | ⟨he, hB, hme, hst, hg, hp⟩
  · left
    have hne : ¬ X.err ≠ 0 := fun c => c he
    rw [if_neg hne]
    exact ⟨rfl, ⟨hmt, rfl, by show SOk (storedM X.j) X.j.ps; rw [hst, hp]; exact hsw, hg⟩, hst, hlf, hp⟩
  · right; left
    have hne : X.err ≠ 0 := by rw [he]; decide
    rw [if_pos hne, he]
    have hlo : lostM X.j 16 = ⟨⟨⟨X.j.ps, X.j.bs, 0, 0, 0, false⟩, []⟩, 0, 16⟩ := by unfold lostM; rw [if_pos rfl]
    rw [hlo]
    refine ⟨rfl, rfl, hB, hp, ?_⟩
    rcases hst with hs | hs
    · exact .inl ⟨hme, hs, by show SOk v.prs X.j.ps; rw [hp]; exact hso, hg⟩
    · exact .inr ⟨hme, hs, by show SOk (withM v.prs l) X.j.ps; rw [hp]; exact hsw, hg⟩

end Go.Proofs.YtebndjnkmcahaaaGreatDoor
end
/-
  Plain laws of the vault: lengths, and what is left of the budget. Own work; no statement of the seat is proved here.
-/
section
namespace Go.Proofs.YtebndjnkmcahaaaGreatDoor
set_option linter.unusedSimpArgs false
set_option linter.unusedVariables false
open Go Go.Abs Go.RowKit

/-- a vault on a flash that was formatted just now -/
theorem fresh_ok {f : Fl} {p k : Nat} (hv : VFl f p k) (h11 : (mountM f).err = 11) : (ropenM f (-1)).err = 0 ∧ VOk (ropenM f (-1)).v 1 ∧ (ropenM f (-1)).v.prs = [] := by
  obtain ⟨j, hj, hm, hvj, ht, htn, hps, hrec, hgen⟩ := format_fresh hv
  have hj' : rformatM f (-1) = ⟨j, -1, 0⟩ := by rw [← format_law, hj]
  have hst : storedM j = [] := by unfold storedM; rw [hrec]; rfl
  have ho : ropenM f (-1) = ⟨⟨j, []⟩, -1, 0⟩ := by
    unfold ropenM
    rw [if_pos h11, hj', if_neg (fun c => c rfl)]
    unfold ropenE
    rw [if_pos htn, hst]
  rw [ho]
  refine ⟨rfl, ⟨hm, hst.symm, ⟨by simp [Srt], (fun x hx => by cases hx), ?_⟩, ?_⟩, rfl⟩
  · have := hv.p1
    show 16 + 10 * (([] : Store).length : Int) + (szM [] : Int) ≤ j.ps
    rw [hps]; simp [szM]; omega
  · show j.gen ≤ 1
    omega
theorem blank_11 {f : Fl} {p k : Nat} (hv : VFl f p k) (hb : f.bs = List.replicate (p * k) 255) : (mountM f).err = 11 := by
  have hp1 := hv.p1
  have hk1 := hv.k1
  have hpk : p * 2 ≤ p * k := Nat.mul_le_mul_left p hk1
  have h0 : ∀ q, q < 2 → genM (pgM f q) = 0 := fun q hq => by
    refine gen_erased ?_
    unfold pgM
    rw [hb, hv.ps, Int.toNat_natCast]
    have : q * p ≤ 1 * p := Nat.mul_le_mul_right p (by omega)
    rw [List.drop_replicate, List.take_replicate]
    have hmin : min p (p * k - q * p) = p := by omega
    rw [hmin]
    obtain ⟨m, rfl⟩ : ∃ m, p = m + 1 := ⟨p - 1, by omega⟩
    rfl
  unfold mountM
  rw [if_neg (by rw [hv.exam]; decide), if_neg (by rw [h0 0 (by decide), h0 1 (by decide)]; decide), if_pos (h0 0 (by decide))]

theorem VOk.prl {v : Vt} {G : Int} (h : VOk v G) : v.prs.length ≤ 8192 := by rw [h.pr]; exact stored_bd _

/-- the sizes of what the reference gives -/
theorem rputX_len (v : Vt) (l : Store) (B : Int) (hB : i64 B) (hb : v.j.bs.length < 1000000000) (hl : ∀ x, x ∈ l → x.2.length < 1000) (hll : l.length < 100) (hv : ∀ x, x ∈ v.prs → x.2.length ≤ 8192) : (rputX v l B).j.bs.length ≤ v.j.bs.length := by
  unfold rputX
  have hsz : szM l ≤ l.length * (3 + 1000) := szM_bd l 1000 (fun x hx => Nat.le_of_lt (hl x hx))
  have : l.length * (3 + 1000) ≤ 100 * (3 + 1000) := Nat.mul_le_mul_right _ (by omega)
  split
  · exact rappend_len _ _ _ hB hb (by rw [precM_len]; omega)
  · refine rrewrite_len _ _ _ hB hb (fun b hb => ?_)
    obtain ⟨p, hp, rfl⟩ := List.mem_map.1 hb
    rw [prec1_len]
    rcases withM_mem hp with ⟨hp, _⟩ | hp
    · have := hl p hp; omega
    · have := hv p hp; omega
theorem lost_len (j : Jn) (e : Int) : (lostM j e).v.j.bs.length ≤ j.bs.length := by
  unfold lostM; split
  · exact Nat.le_refl _
  · exact Nat.zero_le _
theorem rput_len (v : Vt) (l : Store) (B : Int) (hB : i64 B) (hb : v.j.bs.length < 1000000000) (hl : ∀ x, x ∈ l → x.2.length < 1000) (hll : l.length < 100) : (rputM v l B).v.j.bs.length ≤ v.j.bs.length ∧ (rputM v l B).v.prs.length ≤ 8192 := by
  have h0 : ∀ j e, (lostM j e).v.prs.length ≤ 8192 := fun j e => by unfold lostM; split <;> exact Nat.zero_le _
  unfold rputM
  split
  · exact ⟨lost_len _ _, h0 _ _⟩
  · rename_i hg
    have hv : ∀ x, x ∈ v.prs → x.2.length ≤ 8192 := fun x hx => by rw [(genVM_is hg).2] at hx; exact (stored_mem hx).2.2.2
    have := rputX_len v l B hB hb hl hll hv
    split
    · exact ⟨lost_len _ _, h0 _ _⟩
    · split
      · exact ⟨lost_len _ _, h0 _ _⟩
      · split
        · exact ⟨Nat.le_trans (lost_len _ _) this, h0 _ _⟩
        · exact ⟨this, stored_bd _⟩

theorem ropen_len (f : Fl) (B : Int) (hB : i64 B) (hb : f.bs.length < 1000000000) : (ropenM f B).v.j.bs.length ≤ f.bs.length ∧ (ropenM f B).v.prs.length ≤ 8192 := by
  have h0 : ∀ j e, (lostM j e).v.prs.length ≤ 8192 := fun j e => by unfold lostM; split <;> exact Nat.zero_le _
  have hE : ∀ j left, i64 left → j.bs.length ≤ f.bs.length → (ropenE j left).v.j.bs.length ≤ f.bs.length ∧ (ropenE j left).v.prs.length ≤ 8192 := fun j left hl hj => by
    have := rrewrite_len j (snapM (storedM j)) left hl (by omega) (fun b hb => by
      obtain ⟨p, hp, rfl⟩ := List.mem_map.1 hb
      rw [prec1_len]
      have := (stored_mem hp).2.2.2
      omega)
    unfold ropenE
    split
    · exact ⟨hj, stored_bd _⟩
    · split
      · exact ⟨Nat.le_trans (lost_len _ _) (by omega), h0 _ _⟩
      · exact ⟨by show (rrewriteM _ _ _).j.bs.length ≤ _; omega, stored_bd _⟩
  have hf := rformat_bd f B hB hb
  have hm := mount_len f
  unfold ropenM
  split
  · split
    · exact ⟨Nat.le_trans (lost_len _ _) hf.2, h0 _ _⟩
    · exact hE _ _ hf.1 hf.2
  · split
    · exact ⟨Nat.le_trans (lost_len _ _) hm, h0 _ _⟩
    · exact hE _ _ hB hm


theorem z64 : i64 0 := by unfold i64; decide
theorem broken_left (f : Fl) (e : Int) : (brokenM f e).left = 0 := by unfold brokenM; split <;> rfl
theorem lost_left (j : Jn) (e : Int) : (lostM j e).left = 0 := by unfold lostM; split <;> rfl
theorem rrew_left (j : Jn) (l : List (List UInt8)) (B : Int) (hB : i64 B) (hb : j.bs.length < 1000000000) (hl : ∀ b, b ∈ l → b.length < 1000000) : i64 (rrewriteM j l B).left := by
  unfold rrewriteM
  split
  · exact z64
  split
  · exact z64
  split
  · exact z64
  split
  · exact z64
  have hs := seqM_left (f := flOf j) (budget := B) (rrewOps j l) hB hb (fun o ho => by
    unfold rrewOps at ho
    simp only [List.mem_cons, List.mem_append, List.not_mem_nil, or_false] at ho
    rcases ho with rfl | ho | rfl
    · trivial
    · exact wrs_ok _ _ _ _ hl o ho
    · show (headM _).length < _; rw [headM_len]; decide)
  unfold rrewEnd
  split
  · rw [broken_left]; exact z64
  · exact hs
theorem rapp_left (j : Jn) (b : List UInt8) (B : Int) (hB : i64 B) (hb : j.bs.length < 1000000000) (hl : b.length < 1000000) : i64 (rappendM j b B).left := by
  have hp := (runM_ok (f := flOf j) (budget := B) (.wr j.page j.tail (recM (UInt64.ofNat j.gen.toNat) b)) hB hb (by show (recM _ _).length < _; rw [recM_len]; omega)).1
  unfold rappendM
  split
  · exact z64
  split
  · exact z64
  split
  · exact z64
  split
  · exact z64
  split
  · rw [broken_left]; exact z64
  · exact hp
theorem snap_small (j : Jn) : ∀ b, b ∈ snapM (storedM j) → b.length < 1000000 := fun b hb => by
  obtain ⟨p, hp, rfl⟩ := List.mem_map.1 hb
  rw [prec1_len]
  have := (stored_mem hp).2.2.2
  omega
theorem ropen_left (f : Fl) (B : Int) (hB : i64 B) (hb : f.bs.length < 1000000000) : i64 (ropenM f B).left := by
  have hE : ∀ j left, i64 left → j.bs.length ≤ f.bs.length → i64 (ropenE j left).left := fun j left hl hj => by
    unfold ropenE
    split
    · exact hl
    · split
      · rw [lost_left]; exact z64
      · exact rrew_left j _ left hl (by omega) (snap_small j)
  have hf := rformat_bd f B hB hb
  have hm := mount_len f
  unfold ropenM
  split
  · split
    · rw [lost_left]; exact z64
    · exact hE _ _ hf.1 hf.2
  · split
    · rw [lost_left]; exact z64
    · exact hE _ _ hB hm
/-! without a budget -/
theorem alter_neg (f : Fl) (a m : Nat) (ch : Nat → UInt8 → UInt8) : (alterM f a m (-1) ch).left = -1 := (pow_neg m).2.2
theorem fail_ne (e : Int) (h : e ≠ 0) : (failF e).err ≠ 0 := h
theorem erase_neg (f : Fl) (p : Int) (h : (eraseM f p (-1)).err = 0) : (eraseM f p (-1)).left = -1 := by
  unfold eraseM at h ⊢
  by_cases ha : areaM f p 0 0 ≠ 0
  · rw [if_pos ha] at h; exact absurd h ha
  · rw [if_neg ha]; exact alter_neg _ _ _ _
theorem prog_neg (f : Fl) (p a : Int) (b : List UInt8) (h : (progM f p a b (-1)).err = 0) : (progM f p a b (-1)).left = -1 := by
  unfold progM at h ⊢
  by_cases ha : areaM f p a b.length ≠ 0
  · rw [if_pos ha] at h; exact absurd h ha
  · rw [if_neg ha]; exact alter_neg _ _ _ _
theorem run_neg (f : Fl) (o : JOp) (h : (runM f (-1) o).err = 0) : (runM f (-1) o).left = -1 := by
  cases o with
  | er p => exact erase_neg f p h
  | wr p a b => exact prog_neg f p a b h
theorem seq_neg : ∀ (l : List JOp) (f : Fl), (seqM f (-1) l).err = 0 → (seqM f (-1) l).left = -1
  | [], f, _ => rfl
  | o :: r, f, h => by
    simp only [seqM] at h ⊢
    by_cases he : (runM f (-1) o).err ≠ 0
    · rw [if_pos he] at h; exact absurd h he
    · rw [if_neg he] at h ⊢
      have hr := run_neg f o (by simpa using he)
      rw [hr] at h ⊢
      exact seq_neg r _ h
theorem rrew_neg (j : Jn) (l : List (List UInt8)) (h : (rrewriteM j l (-1)).err = 0) : (rrewriteM j l (-1)).left = -1 := by
  unfold rrewriteM at h ⊢
  split at h
  · cases h
  rename_i h1
  rw [if_neg h1]
  split at h
  · cases h
  rename_i h2
  rw [if_neg h2]
  split at h
  · cases h
  rename_i h3
  rw [if_neg h3]
  split at h
  · cases h
  rename_i h4
  rw [if_neg h4]
  unfold rrewEnd at h ⊢
  by_cases he : (seqM (flOf j) (-1) (rrewOps j l)).err ≠ 0
  · rw [if_pos he] at h
    unfold brokenM at h
    split at h
    · cases h
    · exact absurd h he
  · rw [if_neg he]
    exact seq_neg _ _ (by simpa using he)
theorem rapp_neg (j : Jn) (b : List UInt8) (h : (rappendM j b (-1)).err = 0) : (rappendM j b (-1)).left = -1 := by
  unfold rappendM at h ⊢
  split at h
  · cases h
  rename_i h1
  rw [if_neg h1]
  split at h
  · cases h
  rename_i h2
  rw [if_neg h2]
  split at h
  · cases h
  rename_i h3
  rw [if_neg h3]
  split at h
  · cases h
  rename_i h4
  rw [if_neg h4]
  split at h
  · rename_i he
    unfold brokenM at h
    split at h
    · cases h
    · exact absurd h he
  · rename_i he
    rw [if_neg he]
    exact prog_neg (flOf j) j.page j.tail (recM (UInt64.ofNat j.gen.toNat) b) (by simpa using he)
theorem rputX_left (v : Vt) (l : Store) (B : Int) (hB : i64 B) (hb : v.j.bs.length < 1000000000) (hl : ∀ x, x ∈ l → x.2.length < 1000) (hll : l.length < 100) (hv : ∀ x, x ∈ v.prs → x.2.length ≤ 8192) : i64 (rputX v l B).left := by
  unfold rputX
  have hsz : szM l ≤ l.length * (3 + 1000) := szM_bd l 1000 (fun x hx => Nat.le_of_lt (hl x hx))
  have : l.length * (3 + 1000) ≤ 100 * (3 + 1000) := Nat.mul_le_mul_right _ (by omega)
  split
  · exact rapp_left _ _ _ hB hb (by rw [precM_len]; omega)
  · refine rrew_left _ _ _ hB hb (fun b hb => ?_)
    obtain ⟨p, hp, rfl⟩ := List.mem_map.1 hb
    rw [prec1_len]
    rcases withM_mem hp with ⟨hp, _⟩ | hp
    · have := hl p hp; omega
    · have := hv p hp; omega
theorem rput_left (v : Vt) (l : Store) (B : Int) (hB : i64 B) (hb : v.j.bs.length < 1000000000) (hl : ∀ x, x ∈ l → x.2.length < 1000) (hll : l.length < 100) : i64 (rputM v l B).left := by
  unfold rputM
  split
  · rw [lost_left]; exact z64
  · rename_i hg
    have hv : ∀ x, x ∈ v.prs → x.2.length ≤ 8192 := fun x hx => by rw [(genVM_is hg).2] at hx; exact (stored_mem hx).2.2.2
    split
    · rw [lost_left]; exact z64
    · split
      · rw [lost_left]; exact z64
      · split
        · rw [lost_left]; exact z64
        · exact rputX_left v l B hB hb hl hll hv
theorem lost_err (j : Jn) (e : Int) (he : e ≠ 0) : (lostM j e).err ≠ 0 := by
  unfold lostM
  split
  · show (16 : Int) ≠ 0; decide
  · exact he
theorem rput_neg (v : Vt) (l : Store) (h : (rputM v l (-1)).err = 0) : (rputM v l (-1)).left = -1 := by
  have hlo := @lost_err
  unfold rputM at h ⊢
  split at h
  · exact absurd h (hlo _ _ (by decide))
  rename_i h1
  rw [if_neg h1]
  split at h
  · rename_i he; exact absurd h (hlo _ _ he)
  rename_i h2
  rw [if_neg h2]
  split at h
  · exact absurd h (hlo _ _ (by decide))
  rename_i h3
  rw [if_neg h3]
  split at h
  · rename_i he; exact absurd h (hlo _ _ he)
  rename_i h4
  rw [if_neg h4]
  show (rputX v l (-1)).left = -1
  have h4 : (rputX v l (-1)).err = 0 := by simpa using h4
  unfold rputX at h4 ⊢
  split at h4
  · rename_i hc; rw [if_pos hc]; exact rapp_neg _ _ h4
  · rename_i hc; rw [if_neg hc]; exact rrew_neg _ _ h4
theorem fresh_left {f : Fl} {p k : Nat} (hv : VFl f p k) (h11 : (mountM f).err = 11) : (ropenM f (-1)).left = -1 := by
  obtain ⟨j, hj, hm, hvj, ht, htn, hps, hrec, hgen⟩ := format_fresh hv
  have hj' : rformatM f (-1) = ⟨j, -1, 0⟩ := by rw [← format_law, hj]
  unfold ropenM
  rw [if_pos h11, hj', if_neg (fun c => c rfl)]
  unfold ropenE
  rw [if_pos htn]
theorem VOk.ps512 {v : Vt} {G : Int} (h : VOk v G) : (512 : Int) ≤ v.j.ps ∧ v.j.ps ≤ 8192 := by
  obtain ⟨p, k, h⟩ := h.mt.vfl
  have h1 : v.j.ps = p := h.ps
  have h2 := h.p1
  have h3 := h.p2
  omega
def cP : Store := [(0, [97, 98, 99])]
def oneA : List UInt8 := [97]
def aP : Store := [(1, [97])]
def bP : Store := [(1, [])]
end Go.Proofs.YtebndjnkmcahaaaGreatDoor
end

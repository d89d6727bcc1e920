/-
  Contract of the law's helper made (package passkeylaw9). Own work; no statement of the seat is proved here.
-/
import Derived.Test.YtcnpgmlkocbhkaaGreatVn
namespace Go.Proofs.YtcnpgmlkocbhkaaGreat
set_option linter.unusedSimpArgs false
set_option linter.unusedVariables false
open Go Go.Abs Go.RowKit

def it (x : Int) : PV := .v (.int .i64 x)
theorem head_it (l : List Int) (i : Nat) : headP (.v (.int .i64 0)) ((l.map it).drop i) = it (l.getD i 0) := by
  induction l generalizing i with
  | nil => simp [headP, it]
  | cons b r ih => cases i with
    | zero => simp [headP]
    | succ i => simpa using ih i

def vmB (x : Int) : Int := if band .i64 (ishr .i64 x 25) 3 = 3 then band .i64 (ishr .i64 x 12) 1023 else -1
def vmX (v : Vt) (x : Int) : VR := rputM v (pairsM (band .i64 x 33554431)) (vmB x)
def vmStep (v : Vt) (x : Int) : Vt :=
  if (vmX v x).err = 0 then (vmX v x).v else if (vmX v x).err = 16 then (ropenM (flOf (vmX v x).v.j) (-1)).v else v
def vmF (n : Int) : Fl := newFl ([512, 600, 1024].getD ((band .i64 n 65535).tmod 3).toNat 0) 2
def vmN (n : Int) (l : List Int) (i : Nat) : Vt := (l.take i).foldl vmStep (ropenM (vmF n) (-1)).v
def vmadeM (n : Int) (l : List Int) : Vt := vmN n l 10
theorem vmN_succ (n : Int) (l : List Int) (i : Nat) (h : i < l.length) : vmN n l (i + 1) = vmStep (vmN n l i) (l.getD i 0) := by
  unfold vmN
  rw [List.take_succ_eq_append_getElem h, List.foldl_append]
  simp [List.getD_eq_getElem?_getD, h]
theorem vmN_end (n : Int) (l : List Int) (i : Nat) (h : l.length ≤ i) (h8 : i ≤ 10) : vmN n l i = vmadeM n l := by
  unfold vmadeM vmN
  rw [List.take_of_length_le h, List.take_of_length_le (by omega)]
theorem vmB_ok (x : Int) : i64 (vmB x) := by
  have := band_bd (ishr .i64 x 12) 1023 (by decide) (by decide)
  unfold vmB i64; split <;> omega

theorem vmF_ok (n : Int) : ∃ p k, VFl (vmF n) p k ∧ (vmF n).bs = List.replicate (p * k) 255 := by
  have h1 := band_bd n 65535 (by decide) (by decide)
  have h3 := Int.tmod_nonneg (3 : Int) h1.1
  have h4 := Int.tmod_lt_of_pos (band .i64 n 65535) (show (0 : Int) < 3 by decide)
  unfold vmF
  obtain ⟨b, hb⟩ : ∃ b : Nat, (band .i64 n 65535).tmod 3 = b := Int.eq_ofNat_of_zero_le h3
  rw [hb] at h4 ⊢
  have key : ∀ p k : Nat, 512 ≤ p → p ≤ 1024 → 2 ≤ k → k ≤ 3 → VFl (newFl p k) p k ∧ (newFl p k).bs = List.replicate (p * k) 255 := fun p k q1 q2 q3 q4 => by
    have : newFl p k = ⟨p, List.replicate (p * k) 255⟩ := by
      unfold newFl; rw [if_neg (by omega)]
      have : ((p : Int) * (k : Int)).toNat = p * k := by rw [show (p : Int) * (k : Int) = ((p * k : Nat) : Int) by simp]; rfl
      rw [this]
    rw [this]
    exact ⟨⟨rfl, q1, by omega, List.length_replicate, q3, by omega⟩, rfl⟩
  have hb' : b = 0 ∨ b = 1 ∨ b = 2 := by omega
  rcases hb' with rfl | rfl | rfl
  · exact ⟨_, _, key 512 2 (by decide) (by decide) (by decide) (by decide)⟩
  · exact ⟨_, _, key 600 2 (by decide) (by decide) (by decide) (by decide)⟩
  · exact ⟨_, _, key 1024 2 (by decide) (by decide) (by decide) (by decide)⟩

/-- a vault on a flash that was formatted just now -/
theorem fresh_ok {f : Fl} {p k : Nat} (hv : VFl f p k) (h11 : (mountM f).err = 11) : (ropenM f (-1)).err = 0 ∧ VOk (ropenM f (-1)).v 1 ∧ (ropenM f (-1)).v.prs = [] := by
  obtain ⟨j, hj, hm, hvj, ht, htn, hps, hrec, hgen⟩ := format_fresh hv
  have hj' : rformatM f (-1) = ⟨j, -1, 0⟩ := by rw [← format_law, hj]
  have hst : storedM j = [] := by unfold storedM; rw [hrec]; rfl
  have ho : ropenM f (-1) = ⟨⟨j, []⟩, -1, 0⟩ := by
    unfold ropenM
    rw [if_pos h11, hj', if_neg (fun c => c rfl)]
    unfold ropenE
    rw [if_pos htn, hst]
  rw [ho]
  refine ⟨rfl, ⟨hm, hst.symm, ⟨by simp [Srt], (fun x hx => by cases hx), ?_⟩, ?_⟩, rfl⟩
  · have := hv.p1
    show 16 + 10 * (([] : Store).length : Int) + (szM [] : Int) ≤ j.ps
    rw [hps]; simp [szM]; omega
  · show j.gen ≤ 1
    omega
theorem blank_11 {f : Fl} {p k : Nat} (hv : VFl f p k) (hb : f.bs = List.replicate (p * k) 255) : (mountM f).err = 11 := by
  have hp1 := hv.p1
  have hk1 := hv.k1
  have hpk : p * 2 ≤ p * k := Nat.mul_le_mul_left p hk1
  have h0 : ∀ q, q < 2 → genM (pgM f q) = 0 := fun q hq => by
    refine gen_erased ?_
    unfold pgM
    rw [hb, hv.ps, Int.toNat_natCast]
    have : q * p ≤ 1 * p := Nat.mul_le_mul_right p (by omega)
    rw [List.drop_replicate, List.take_replicate]
    have hmin : min p (p * k - q * p) = p := by omega
    rw [hmin]
    obtain ⟨m, rfl⟩ : ∃ m, p = m + 1 := ⟨p - 1, by omega⟩
    rfl
  unfold mountM
  rw [if_neg (by rw [hv.exam]; decide), if_neg (by rw [h0 0 (by decide), h0 1 (by decide)]; decide), if_pos (h0 0 (by decide))]

theorem vmN_ok (n : Int) (l : List Int) : ∀ i : Nat, i ≤ 10 → VOk (vmN n l i) (1 + 2 * (i : Int)) := by
  intro i hi
  induction i with
  | zero =>
    obtain ⟨p, k, hv, hb⟩ := vmF_ok n
    exact (fresh_ok hv (blank_11 hv hb)).2.1
  | succ i ih =>
    have ih := ih (by omega)
    by_cases hl : i < l.length
    · rw [vmN_succ n l i hl]
      unfold vmStep
      generalize l.getD i 0 = x
      rcases put_ok ih (by omega) (pairsM (band .i64 x 33554431)) (vmB x) with ⟨h1, h2, _⟩ | ⟨h1, _, _, _, h2⟩ | ⟨h1, h2, _⟩
      · rw [if_pos (show (vmX (vmN n l i) x).err = 0 from h1)]
        exact ⟨h2.mt, h2.pr, h2.so, by have := h2.gen; show (rputM _ _ _).v.j.gen ≤ _; omega⟩
      · have he : (vmX (vmN n l i) x).err = 16 := h1
        rw [if_neg (by rw [he]; decide), if_pos he]
        rcases h2 with h2 | h2
        · rcases open_ok h2 (by omega) (-1) with ⟨_, h3, _⟩ | ⟨_, h3, _⟩
          · exact ⟨h3.mt, h3.pr, h3.so, by have := h3.gen; show (ropenM _ _).v.j.gen ≤ _; unfold vmX; omega⟩
          · omega
        · rcases open_ok h2 (by omega) (-1) with ⟨_, h3, _⟩ | ⟨_, h3, _⟩
          · exact ⟨h3.mt, h3.pr, h3.so, by have := h3.gen; show (ropenM _ _).v.j.gen ≤ _; unfold vmX; omega⟩
          · omega
      · have he1 : (vmX (vmN n l i) x).err ≠ 0 := h1
        have he2 : (vmX (vmN n l i) x).err ≠ 16 := h2
        rw [if_neg he1, if_neg he2]
        exact ⟨ih.mt, ih.pr, ih.so, by have := ih.gen; omega⟩
    · have : vmN n l (i + 1) = vmN n l i := by
        unfold vmN
        rw [List.take_of_length_le (by omega), List.take_of_length_le (by omega)]
      rw [this]
      exact ⟨ih.mt, ih.pr, ih.so, by have := ih.gen; omega⟩
theorem vmade_ok (n : Int) (l : List Int) : VOk (vmadeM n l) 21 := vmN_ok n l 10 (Nat.le_refl _)
theorem VOk.prl {v : Vt} {G : Int} (h : VOk v G) : v.prs.length ≤ 8192 := by rw [h.pr]; exact stored_bd _

/-- the sizes of what the reference gives -/
theorem rputX_len (v : Vt) (l : Store) (B : Int) (hB : i64 B) (hb : v.j.bs.length < 1000000000) (hl : ∀ x, x ∈ l → x.2.length < 1000) (hll : l.length < 100) (hv : ∀ x, x ∈ v.prs → x.2.length ≤ 8192) : (rputX v l B).j.bs.length ≤ v.j.bs.length := by
  unfold rputX
  have hsz : szM l ≤ l.length * (3 + 1000) := szM_bd l 1000 (fun x hx => Nat.le_of_lt (hl x hx))
  have : l.length * (3 + 1000) ≤ 100 * (3 + 1000) := Nat.mul_le_mul_right _ (by omega)
  split
  · exact rappend_len _ _ _ hB hb (by rw [precM_len]; omega)
  · refine rrewrite_len _ _ _ hB hb (fun b hb => ?_)
    obtain ⟨p, hp, rfl⟩ := List.mem_map.1 hb
    rw [prec1_len]
    rcases withM_mem hp with ⟨hp, _⟩ | hp
    · have := hl p hp; omega
    · have := hv p hp; omega
theorem lost_len (j : Jn) (e : Int) : (lostM j e).v.j.bs.length ≤ j.bs.length := by
  unfold lostM; split
  · exact Nat.le_refl _
  · exact Nat.zero_le _
theorem rput_len (v : Vt) (l : Store) (B : Int) (hB : i64 B) (hb : v.j.bs.length < 1000000000) (hl : ∀ x, x ∈ l → x.2.length < 1000) (hll : l.length < 100) : (rputM v l B).v.j.bs.length ≤ v.j.bs.length ∧ (rputM v l B).v.prs.length ≤ 8192 := by
  have h0 : ∀ j e, (lostM j e).v.prs.length ≤ 8192 := fun j e => by unfold lostM; split <;> exact Nat.zero_le _
  unfold rputM
  split
  · exact ⟨lost_len _ _, h0 _ _⟩
  · rename_i hg
    have hv : ∀ x, x ∈ v.prs → x.2.length ≤ 8192 := fun x hx => by rw [(genVM_is hg).2] at hx; exact (stored_mem hx).2.2.2
    have := rputX_len v l B hB hb hl hll hv
    split
    · exact ⟨lost_len _ _, h0 _ _⟩
    · split
      · exact ⟨lost_len _ _, h0 _ _⟩
      · split
        · exact ⟨Nat.le_trans (lost_len _ _) this, h0 _ _⟩
        · exact ⟨this, stored_bd _⟩

end Go.Proofs.YtcnpgmlkocbhkaaGreat

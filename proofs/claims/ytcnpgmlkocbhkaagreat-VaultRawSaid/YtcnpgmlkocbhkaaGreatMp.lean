/-
  What a mount gives, bounds, small facts. Own work; no statement of the seat is proved here.
-/
import Derived.Test.YtcnpgmlkocbhkaaGreatLc
import Derived.Test.YtcnpgmlkocbhkaaGreatRj
namespace Go.Proofs.YtcnpgmlkocbhkaaGreat
set_option linter.unusedSimpArgs false
set_option linter.unusedVariables false
open Go Go.Abs Go.RowKit

theorem band_bd (a m : Int) (h0 : 0 ≤ m) (hm : m < 9223372036854775808) : 0 ≤ band .i64 a m ∧ band .i64 a m ≤ m := by
  obtain ⟨m, rfl⟩ := Int.eq_ofNat_of_zero_le h0
  unfold band
  have h1 : (BitVec.ofInt IntKind.i64.bits a &&& BitVec.ofInt IntKind.i64.bits (m : Int)).toNat ≤ m := by
    rw [BitVec.toNat_and]
    refine Nat.le_trans Nat.and_le_right ?_
    simp [IntKind.bits]
    omega
  rw [wrap_i64_id (by omega) (by omega)]
  omega
theorem u8w (z : Int) : ((UInt8.ofNat (IntKind.u8.wrap z).toNat).toNat : Int) = IntKind.u8.wrap z := by
  rw [wrap_u8_def]
  simp
  omega

theorem performM_len {f : Fl} {budget : Int} (l : List JOp) (hB : i64 budget) (hb : f.bs.length < 1000000000) (hl : ∀ o, o ∈ l → okOp o) : (performM f budget l).j.bs.length ≤ f.bs.length := by
  induction l generalizing f budget with
  | nil =>
    rw [perform_nil _ _ _ rfl]
    split
    · simp [jn0]
    · rename_i h
      obtain ⟨p, k, q, -, -, -, -, -, -, -, -, -, -, e8⟩ := mountM_ok (show (mountM f).err = 0 by omega)
      rw [e8]; exact Nat.le_refl _
  | cons o r ih =>
    rw [perform_cons _ _ _ _ _ rfl]
    have hr := runM_ok (f := f) (budget := budget) o hB hb (hl o (by simp))
    split
    · exact hr.2
    · split
      · simp [jn0]
      · exact Nat.le_trans (ih hr.1 (by omega) (fun o ho => hl o (by simp [ho]))) hr.2

theorem sameJ_self (j : Jn) : sameJ j j = true := (sameJ_iff j j).2 rfl
theorem recs_len (j : Jn) (hb : j.bs.length < 1000000000) : (recsM j).length < 1000000000 := by
  unfold recsM
  split
  · rename_i h
    obtain ⟨p, k, q, e1, e2, e3, e4, e5, e6, e7, e8, e9, e10, -⟩ := genuineM_ok h
    rw [e10, Int.toNat_natCast]
    have hw : (pgM (flOf j) q).length = p := pgM_len (k := k) e1 e4 (by omega)
    have h1 := scanM_le (pgM (flOf j) q) (UInt64.ofNat j.gen.toNat) (by omega)
    have h2 := scanN_tail (pgM (flOf j) q) (UInt64.ofNat j.gen.toNat) (pgM (flOf j) q).length 16
    have h4 := totM_len (scanM (pgM (flOf j) q) (UInt64.ofNat j.gen.toNat)).1
    unfold scanM at h1 h4 ⊢
    omega
  · simp

/-- a journal as a mount gives it -/
def MtOk (j : Jn) : Prop := mountM (flOf j) = ⟨j, 0⟩
theorem MtOk.gen {j : Jn} (h : MtOk j) : genuineM j = true := genuine_of h
theorem MtOk.vfl {j : Jn} (h : MtOk j) : ∃ p k, VFl (flOf j) p k := by
  obtain ⟨p, k, q, e1, e2, e3, e4, e5, e6, -⟩ := genuineM_ok h.gen
  exact ⟨p, k, e1, e2, e3, e4, e5, e6⟩
theorem MtOk.len {j : Jn} (h : MtOk j) : 1 ≤ j.bs.length ∧ j.bs.length < 1000000 := by
  obtain ⟨p, k, hv⟩ := h.vfl
  have h1 : j.bs.length = p * k := hv.len
  have h2 : p * k ≤ 8192 * 8 := Nat.mul_le_mul hv.p2 hv.k2
  have h3 : 512 * 2 ≤ p * k := Nat.mul_le_mul hv.p1 hv.k1
  omega
theorem mount_fl {f : Fl} (h : (mountM f).err = 0) : flOf (mountM f).j = f := by
  obtain ⟨p, k, q, -, -, -, -, -, -, -, -, -, -, e8⟩ := mountM_ok h
  rw [e8]; rfl
theorem MtOk.of {f : Fl} (h : (mountM f).err = 0) : MtOk (mountM f).j := by
  unfold MtOk
  rw [mount_fl h]
  cases hm : mountM f with | mk j e => rw [hm] at h; simp only at h; rw [h]
theorem seqM_len {f : Fl} {budget : Int} (l : List JOp) (hB : i64 budget) (hb : f.bs.length < 1000000000) (hl : ∀ o, o ∈ l → okOp o) : (seqM f budget l).f.bs.length ≤ f.bs.length := by
  induction l generalizing f budget with
  | nil => exact Nat.le_refl _
  | cons o r ih =>
    rw [seq_cons _ _ _ _ _ rfl]
    have hr := runM_ok (f := f) (budget := budget) o hB hb (hl o (by simp))
    split
    · exact hr.2
    · exact Nat.le_trans (ih hr.1 (by omega) (fun o ho => hl o (by simp [ho]))) hr.2
theorem brokenM_len (f : Fl) (e : Int) : (brokenM f e).j.bs.length ≤ f.bs.length := by
  unfold brokenM; split <;> simp [jn0]
theorem wrs_ok (page : Int) (g : UInt64) : ∀ (l : List (List UInt8)) (t : Nat), (∀ b, b ∈ l → b.length < 1000000) → ∀ o, o ∈ wrsM page g t l → okOp o
  | [], _, _, o, ho => by simp [wrsM] at ho
  | b :: l, t, h, o, ho => by
    simp only [wrsM, List.mem_cons] at ho
    rcases ho with rfl | ho
    · show (recM g b).length < _
      rw [recM_len]; have := h b (by simp); omega
    · exact wrs_ok page g l _ (fun b hb => h b (by simp [hb])) o ho
theorem rrewrite_len (j : Jn) (l : List (List UInt8)) (budget : Int) (hB : i64 budget) (hb : j.bs.length < 1000000000) (hl : ∀ b, b ∈ l → b.length < 1000000) : (rrewriteM j l budget).j.bs.length ≤ j.bs.length := by
  unfold rrewriteM
  split
  · simp [jn0]
  split
  · simp [jn0]
  split
  · simp [jn0]
  split
  · simp [jn0]
  have hs := seqM_len (f := flOf j) (budget := budget) (rrewOps j l) hB hb (fun o ho => by
    unfold rrewOps at ho
    simp only [List.mem_cons, List.mem_append, List.not_mem_nil, or_false] at ho
    rcases ho with rfl | ho | rfl
    · trivial
    · exact wrs_ok _ _ _ _ hl o ho
    · show (headM _).length < _; rw [headM_len]; decide)
  unfold rrewEnd
  split
  · exact Nat.le_trans (brokenM_len _ _) hs
  · exact hs
theorem rappend_len (j : Jn) (b : List UInt8) (budget : Int) (hB : i64 budget) (hb : j.bs.length < 1000000000) (hl : b.length < 1000000) : (rappendM j b budget).j.bs.length ≤ j.bs.length := by
  have hp := (runM_ok (f := flOf j) (budget := budget) (.wr j.page j.tail (recM (UInt64.ofNat j.gen.toNat) b)) hB hb (by show (recM _ _).length < _; rw [recM_len]; omega)).2
  have hp : (progM (flOf j) j.page j.tail (recM (UInt64.ofNat j.gen.toNat) b) budget).f.bs.length ≤ j.bs.length := hp
  unfold rappendM
  split
  · simp [jn0]
  split
  · simp [jn0]
  split
  · simp [jn0]
  split
  · simp [jn0]
  split
  · exact Nat.le_trans (brokenM_len _ _) hp
  · exact hp

end Go.Proofs.YtcnpgmlkocbhkaaGreat

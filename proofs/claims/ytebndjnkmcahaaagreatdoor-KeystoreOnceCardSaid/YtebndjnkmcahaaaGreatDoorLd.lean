/- joined of several texts; own work; no statement of the seat is proved but in the last -/
import Derived.Test.YtebndjnkmcahaaaGreatDoorLc
import Derived.Test.YtebndjnkmcahaaaGreatDoorRj
/-
  What a mount gives, bounds, small facts. Own work; no statement of the seat is proved here.
-/
section
namespace Go.Proofs.YtebndjnkmcahaaaGreatDoor
set_option linter.unusedSimpArgs false
set_option linter.unusedVariables false
open Go Go.Abs Go.RowKit

theorem band_bd (a m : Int) (h0 : 0 ≤ m) (hm : m < 9223372036854775808) : 0 ≤ band .i64 a m ∧ band .i64 a m ≤ m := by
  obtain ⟨m, rfl⟩ := Int.eq_ofNat_of_zero_le h0
  unfold band
  have h1 : (BitVec.ofInt IntKind.i64.bits a &&& BitVec.ofInt IntKind.i64.bits (m : Int)).toNat ≤ m := by
    rw [BitVec.toNat_and]
    refine Nat.le_trans Nat.and_le_right ?_
    simp [IntKind.bits]
    omega
  rw [wrap_i64_id (by omega) (by omega)]
  omega
theorem u8w (z : Int) : ((UInt8.ofNat (IntKind.u8.wrap z).toNat).toNat : Int) = IntKind.u8.wrap z := by
  rw [wrap_u8_def]
  simp
  omega

theorem performM_len {f : Fl} {budget : Int} (l : List JOp) (hB : i64 budget) (hb : f.bs.length < 1000000000) (hl : ∀ o, o ∈ l → okOp o) : (performM f budget l).j.bs.length ≤ f.bs.length := by
  induction l generalizing f budget with
  | nil =>
    rw [perform_nil _ _ _ rfl]
    split
    · simp [jn0]
    · rename_i h
      obtain ⟨p, k, q, -, -, -, -, -, -, -, -, -, -, e8⟩ := mountM_ok (show (mountM f).err = 0 by omega)
      rw [e8]; exact Nat.le_refl _
  | cons o r ih =>
    rw [perform_cons _ _ _ _ _ rfl]
    have hr := runM_ok (f := f) (budget := budget) o hB hb (hl o (by simp))
    split
    · exact hr.2
    · split
      · simp [jn0]
      · exact Nat.le_trans (ih hr.1 (by omega) (fun o ho => hl o (by simp [ho]))) hr.2

theorem sameJ_self (j : Jn) : sameJ j j = true := (sameJ_iff j j).2 rfl
theorem recs_len (j : Jn) (hb : j.bs.length < 1000000000) : (recsM j).length < 1000000000 := by
  unfold recsM
  split
  · rename_i h
    obtain ⟨p, k, q, e1, e2, e3, e4, e5, e6, e7, e8, e9, e10, -⟩ := genuineM_ok h
    rw [e10, Int.toNat_natCast]
    have hw : (pgM (flOf j) q).length = p := pgM_len (k := k) e1 e4 (by omega)
    have h1 := scanM_le (pgM (flOf j) q) (UInt64.ofNat j.gen.toNat) (by omega)
    have h2 := scanN_tail (pgM (flOf j) q) (UInt64.ofNat j.gen.toNat) (pgM (flOf j) q).length 16
    have h4 := totM_len (scanM (pgM (flOf j) q) (UInt64.ofNat j.gen.toNat)).1
    unfold scanM at h1 h4 ⊢
    omega
  · simp

/-- a journal as a mount gives it -/
def MtOk (j : Jn) : Prop := mountM (flOf j) = ⟨j, 0⟩
theorem MtOk.gen {j : Jn} (h : MtOk j) : genuineM j = true := genuine_of h
theorem MtOk.vfl {j : Jn} (h : MtOk j) : ∃ p k, VFl (flOf j) p k := by
  obtain ⟨p, k, q, e1, e2, e3, e4, e5, e6, -⟩ := genuineM_ok h.gen
  exact ⟨p, k, e1, e2, e3, e4, e5, e6⟩
theorem MtOk.len {j : Jn} (h : MtOk j) : 1 ≤ j.bs.length ∧ j.bs.length < 1000000 := by
  obtain ⟨p, k, hv⟩ := h.vfl
  have h1 : j.bs.length = p * k := hv.len
  have h2 : p * k ≤ 8192 * 8 := Nat.mul_le_mul hv.p2 hv.k2
  have h3 : 512 * 2 ≤ p * k := Nat.mul_le_mul hv.p1 hv.k1
  omega
theorem mount_fl {f : Fl} (h : (mountM f).err = 0) : flOf (mountM f).j = f := by
  obtain ⟨p, k, q, -, -, -, -, -, -, -, -, -, -, e8⟩ := mountM_ok h
  rw [e8]; rfl
theorem MtOk.of {f : Fl} (h : (mountM f).err = 0) : MtOk (mountM f).j := by
  unfold MtOk
  rw [mount_fl h]
  cases hm : mountM f with | mk j e => rw [hm] at h; simp only at h; rw [h]
theorem seqM_len {f : Fl} {budget : Int} (l : List JOp) (hB : i64 budget) (hb : f.bs.length < 1000000000) (hl : ∀ o, o ∈ l → okOp o) : (seqM f budget l).f.bs.length ≤ f.bs.length := by
  induction l generalizing f budget with
  | nil => exact Nat.le_refl _
  | cons o r ih =>
    rw [seq_cons _ _ _ _ _ rfl]
    have hr := runM_ok (f := f) (budget := budget) o hB hb (hl o (by simp))
    split
    · exact hr.2
    · exact Nat.le_trans (ih hr.1 (by omega) (fun o ho => hl o (by simp [ho]))) hr.2
theorem brokenM_len (f : Fl) (e : Int) : (brokenM f e).j.bs.length ≤ f.bs.length := by
  unfold brokenM; split <;> simp [jn0]
theorem wrs_ok (page : Int) (g : UInt64) : ∀ (l : List (List UInt8)) (t : Nat), (∀ b, b ∈ l → b.length < 1000000) → ∀ o, o ∈ wrsM page g t l → okOp o
  | [], _, _, o, ho => by simp [wrsM] at ho
  | b :: l, t, h, o, ho => by
    simp only [wrsM, List.mem_cons] at ho
    rcases ho with rfl | ho
    · show (recM g b).length < _
      rw [recM_len]; have := h b (by simp); omega
    · exact wrs_ok page g l _ (fun b hb => h b (by simp [hb])) o ho
theorem rrewrite_len (j : Jn) (l : List (List UInt8)) (budget : Int) (hB : i64 budget) (hb : j.bs.length < 1000000000) (hl : ∀ b, b ∈ l → b.length < 1000000) : (rrewriteM j l budget).j.bs.length ≤ j.bs.length := by
  unfold rrewriteM
  split
  · simp [jn0]
  split
  · simp [jn0]
  split
  · simp [jn0]
  split
  · simp [jn0]
  have hs := seqM_len (f := flOf j) (budget := budget) (rrewOps j l) hB hb (fun o ho => by
    unfold rrewOps at ho
    simp only [List.mem_cons, List.mem_append, List.not_mem_nil, or_false] at ho
    rcases ho with rfl | ho | rfl
    · trivial
    · exact wrs_ok _ _ _ _ hl o ho
    · show (headM _).length < _; rw [headM_len]; decide)
  unfold rrewEnd
  split
  · exact Nat.le_trans (brokenM_len _ _) hs
  · exact hs
theorem rappend_len (j : Jn) (b : List UInt8) (budget : Int) (hB : i64 budget) (hb : j.bs.length < 1000000000) (hl : b.length < 1000000) : (rappendM j b budget).j.bs.length ≤ j.bs.length := by
  have hp := (runM_ok (f := flOf j) (budget := budget) (.wr j.page j.tail (recM (UInt64.ofNat j.gen.toNat) b)) hB hb (by show (recM _ _).length < _; rw [recM_len]; omega)).2
  have hp : (progM (flOf j) j.page j.tail (recM (UInt64.ofNat j.gen.toNat) b) budget).f.bs.length ≤ j.bs.length := hp
  unfold rappendM
  split
  · simp [jn0]
  split
  · simp [jn0]
  split
  · simp [jn0]
  split
  · simp [jn0]
  split
  · exact Nat.le_trans (brokenM_len _ _) hp
  · exact hp

end Go.Proofs.YtebndjnkmcahaaaGreatDoor
end
/-
  Plain laws of Rewrite, and of power losses: what is mounted behind operations that were cut off. Own work; no statement of the seat is proved here.
-/
section
namespace Go.Proofs.YtebndjnkmcahaaaGreatDoor
set_option linter.unusedSimpArgs false
set_option linter.unusedVariables false
open Go Go.Abs Go.RowKit

theorem updN_cg {ch ch' : Nat → UInt8 → UInt8} (bs : List UInt8) (a : Nat) : ∀ n, (∀ i, i < n → ch i = ch' i) → updN ch bs a n = updN ch' bs a n
  | 0, _ => rfl
  | n + 1, h => by simp only [updN]; rw [updN_cg bs a n fun i hi => h i (by omega), h n (by omega)]
theorem updN_add (ch : Nat → UInt8 → UInt8) (bs : List UInt8) (a m : Nat) : ∀ r, updN ch bs a (m + r) = updN (fun i => ch (m + i)) (updN ch bs a m) (a + m) r
  | 0 => rfl
  | r + 1 => by
    rw [← Nat.add_assoc]
    simp only [updN]
    rw [updN_add ch bs a m r, Nat.add_assoc]
theorem progCh_l (x y : List UInt8) (i : Nat) (h : i < x.length) : progCh (x ++ y) i = progCh x i := by
  funext z; unfold progCh; rw [getD_app, if_pos h]
theorem progCh_r (x y : List UInt8) (i : Nat) : progCh (x ++ y) (x.length + i) = progCh y i := by
  funext z; unfold progCh; rw [getD_app, if_neg (by omega), Nat.add_sub_cancel_left]

/-- a write in two parts -/
theorem alter_split (f : Fl) (a : Nat) (x y : List UInt8) (B : Int) :
    alterM f a (x ++ y).length B (progCh (x ++ y)) =
      if (alterM f a x.length B (progCh x)).err ≠ 0 then alterM f a x.length B (progCh x)
      else alterM (alterM f a x.length B (progCh x)).f (a + x.length) y.length (alterM f a x.length B (progCh x)).left (progCh y) := by
  have e1 : ∀ r, r ≤ x.length → updN (progCh (x ++ y)) f.bs a r = updN (progCh x) f.bs a r := fun r hr => updN_cg _ _ r fun i hi => progCh_l x y i (by omega)
  have e2 : ∀ r, updN (progCh (x ++ y)) f.bs a (x.length + r) = updN (progCh y) (updN (progCh x) f.bs a x.length) (a + x.length) r := fun r => by
    rw [updN_add, e1 _ (Nat.le_refl _)]
    exact updN_cg _ _ r fun i _ => progCh_r x y i
  have hl : (x ++ y).length = x.length + y.length := List.length_append
  by_cases h1 : 0 ≤ B ∧ B < x.length
  · have p1 : powM x.length B = 16 := by unfold powM; rw [if_pos h1]
    have : (alterM f a x.length B (progCh x)).err ≠ 0 := by show powM _ _ ≠ 0; rw [p1]; decide
    rw [if_pos this]
    have h2 : 0 ≤ B ∧ B < ((x ++ y).length : Nat) := by rw [hl]; omega
    unfold alterM reachM leftM powM
    rw [if_pos h1, if_pos h1, if_pos h1, if_pos h2, if_pos h2, if_pos h2, e1 _ (by omega)]
  · have p1 : powM x.length B = 0 := by unfold powM; rw [if_neg h1]
    have : ¬ (alterM f a x.length B (progCh x)).err ≠ 0 := by show ¬ powM _ _ ≠ 0; rw [p1]; decide
    rw [if_neg this]
    have r1 : reachM x.length B = x.length := pow_0 p1
    show (⟨⟨f.ps, updN (progCh (x ++ y)) f.bs a (reachM (x ++ y).length B)⟩, leftM (x ++ y).length B, powM (x ++ y).length B⟩ : FR) =
      ⟨⟨f.ps, updN (progCh y) (updN (progCh x) f.bs a (reachM x.length B)) (a + x.length) (reachM y.length (leftM x.length B))⟩, leftM y.length (leftM x.length B), powM y.length (leftM x.length B)⟩
    rw [r1, ← e2]
    rw [hl]
    by_cases h0 : 0 ≤ B
    · have l1 : leftM x.length B = B - x.length := by unfold leftM; rw [if_neg h1, if_pos h0]
      rw [l1]
      unfold reachM leftM powM
      by_cases h2 : B < ((x.length + y.length : Nat) : Int)
      · have c1 : 0 ≤ B ∧ B < ((x.length + y.length : Nat) : Int) := ⟨h0, h2⟩
        have c2 : 0 ≤ B - x.length ∧ B - x.length < (y.length : Int) := by omega
        simp only [if_pos c1, if_pos c2]
        rw [show x.length + (B - (x.length : Int)).toNat = B.toNat by omega]
      · have c1 : ¬ (0 ≤ B ∧ B < ((x.length + y.length : Nat) : Int)) := fun e => h2 e.2
        have c2 : ¬ (0 ≤ B - x.length ∧ B - x.length < (y.length : Int)) := by omega
        simp only [if_neg c1, if_neg c2, if_pos h0, if_pos (show 0 ≤ B - x.length by omega)]
        rw [show B - ((x.length + y.length : Nat) : Int) = B - x.length - y.length by omega]
    · have l1 : leftM x.length B = B := by unfold leftM; rw [if_neg h1, if_neg h0]
      rw [l1]
      unfold reachM leftM powM
      have c1 : ¬ (0 ≤ B ∧ B < ((x.length + y.length : Nat) : Int)) := fun e => h0 e.1
      have c2 : ¬ (0 ≤ B ∧ B < (y.length : Int)) := fun e => h0 e.1
      simp only [if_neg c1, if_neg c2, if_neg h0]

theorem alter_0 (f : Fl) (a : Nat) (B : Int) (ch : Nat → UInt8 → UInt8) : alterM f a 0 B ch = ⟨f, B, 0⟩ := by
  have c : ¬ (0 ≤ B ∧ B < ((0 : Nat) : Int)) := by omega
  unfold alterM reachM leftM powM
  simp only [if_neg c, updN]
  by_cases h : 0 ≤ B <;> simp [h]

/-- one write of all records is as one of each -/
theorem seq_wrs {p k q : Nat} (hq : q < k) (g : UInt64) (rest : List JOp) : ∀ (l : List (List UInt8)) (t : Nat) (f : Fl) (B : Int), VFl f p k → t + totM l ≤ p →
    seqM f B (wrsM (q : Int) g t l ++ rest) = seqM f B (.wr (q : Int) (t : Int) (rsM g l) :: rest)
  | [], t, f, B, hv, ht => by
    have r1 : runM f B (.wr (q : Int) (t : Int) (rsM g [])) = ⟨f, B, 0⟩ := by
      show progM f q t [] B = _
      rw [hv.prog hq (by simpa [totM] using ht)]
      exact alter_0 _ _ _ _
    rw [seq_cons _ _ _ _ _ r1, if_neg (by simp)]
    rfl
  | b :: l, t, f, B, hv, ht => by
    simp only [totM] at ht
    have hl := recM_len g b
    have hrs : rsM g (b :: l) = recM g b ++ rsM g l := by simp [rsM]
    have hrl := rsM_len g l
    have r1 : runM f B (.wr (q : Int) (t : Int) (recM g b)) = alterM f (q * p + t) (recM g b).length B (progCh (recM g b)) := hv.prog hq (by omega) B
    have r2 : runM f B (.wr (q : Int) (t : Int) (rsM g (b :: l))) = alterM f (q * p + t) (recM g b ++ rsM g l).length B (progCh (recM g b ++ rsM g l)) := by
      rw [hrs]; exact hv.prog hq (by simp; omega) B
    have hv1 := hv.alter (q * p + t) (recM g b).length B (progCh (recM g b))
    simp only [wrsM, List.cons_append]
    rw [seq_cons _ _ _ _ _ r1, seq_cons _ _ _ _ _ r2, alter_split]
    generalize alterM f (q * p + t) (recM g b).length B (progCh (recM g b)) = G at *
    by_cases he : G.err ≠ 0
    · rw [if_pos he, if_pos he, if_pos he]
    · rw [if_neg he, if_neg he, seq_wrs hq g rest l (t + 10 + b.length) G.f G.left hv1 (by omega)]
      have r3 : runM G.f G.left (.wr (q : Int) ((t + 10 + b.length : Nat) : Int) (rsM g l)) = alterM G.f (q * p + t + (recM g b).length) (rsM g l).length G.left (progCh (rsM g l)) := by
        rw [hl, show q * p + t + (b.length + 10) = q * p + (t + 10 + b.length) by omega]
        exact hv1.prog hq (by omega) _
      rw [seq_cons _ _ _ _ _ r3]

/-- bytes that stand at a place of a page -/
structure Put (page : List UInt8) (a : Nat) (s : List UInt8) : Prop where
  fits : a + s.length ≤ page.length
  get : ∀ i, i < s.length → page.getD (a + i) 0 = s.getD i 0
theorem Put.cut {page s : List UInt8} {a : Nat} (h : Put page a s) {c m : Nat} (hm : c + m ≤ s.length) : (page.drop (a + c)).take m = (s.drop c).take m := by
  have := h.fits
  refine cut_eq (by omega) (by omega) fun i hi => ?_
  rw [show a + c + i = a + (c + i) by omega, h.get _ (by omega)]
theorem Put.left {page x y : List UInt8} {a : Nat} (h : Put page a (x ++ y)) : Put page a x := by
  have := h.fits
  simp at this
  exact ⟨by omega, fun i hi => by rw [h.get i (by simp; omega), getD_app, if_pos hi]⟩
theorem Put.right {page x y : List UInt8} {a : Nat} (h : Put page a (x ++ y)) : Put page (a + x.length) y := by
  have := h.fits
  simp at this
  exact ⟨by omega, fun i hi => by rw [Nat.add_assoc, h.get _ (by simp; omega), getD_app, if_neg (by omega), Nat.add_sub_cancel_left]⟩
theorem Put.pay {page b : List UInt8} {a : Nat} {g : UInt64} (h : Put page a (recM g b)) (h1 : 1 ≤ b.length) (h2 : b.length ≤ 256) : payM page g a = b := by
  have hf := h.fits
  rw [recM_len] at hf
  have hn : lenAt page a = b.length := by
    unfold lenAt
    have e0 := h.get 0 (by rw [recM_len]; omega)
    have e1 := h.get 1 (by rw [recM_len]; omega)
    rw [Nat.add_zero] at e0
    rw [e0, e1, rec_get0, rec_get1]
    exact len_bytes _ h2
  have e1 : (page.drop (a + 2)).take b.length = b := by rw [h.cut (by rw [recM_len]; omega), rec_pay]
  rw [payM_mk hn (by omega) h1 h2 (by rw [e1, show a + 2 + b.length = a + (2 + b.length) by omega, h.cut (by rw [recM_len]; omega), rec_chk]), e1]
theorem scan_put {page : List UInt8} {g : UInt64} : ∀ (l : List (List UInt8)) (a : Nat), Put page a (rsM g l) → sizedL l = true → (∀ i, a + totM l ≤ i → i < page.length → page.getD i 0 = 255) → scanA page g a = (l, a + totM l)
  | [], a, _, _, he => scanA_stop _ _ _ (pay_erased he)
  | b :: l, a, h, hs, he => by
    have hrs : rsM g (b :: l) = recM g b ++ rsM g l := by simp [rsM]
    rw [hrs] at h
    simp only [sizedL, List.all_cons, Bool.and_eq_true, decide_eq_true_eq] at hs
    have hp := h.left.pay hs.1.1 hs.1.2
    have hne : payM page g a ≠ [] := by rw [hp]; intro e; rw [e] at hs; simp at hs
    rw [scanA_next _ _ _ hne, hp]
    have hr := h.right
    rw [recM_len, show a + (b.length + 10) = a + 10 + b.length by omega] at hr
    rw [scan_put l (a + 10 + b.length) hr hs.2 (fun i hi => he i (by simp only [totM]; omega))]
    simp only [totM]
    rw [show a + 10 + b.length + totM l = a + (10 + b.length + totM l) by omega]

theorem word_first (w : UInt64) (r : List UInt64) : ((wordsM (shrN w 1 :: r) 1).getD 0 0).toNat < 128 := by
  rw [wordsM1, wordB_get _ _ _ (by decide)]
  unfold shrN
  have := w.toNat_lt
  have h1 : (UInt64.ofNat (w.toNat / 2 ^ 1)).toNat = w.toNat / 2 := by rw [UInt64.toNat_ofNat']; omega
  rw [h1]
  have h2 : (UInt64.ofNat (w.toNat / 2 / 2 ^ (56 - 8 * 0))).toNat = w.toNat / 2 / 2 ^ 56 := by rw [UInt64.toNat_ofNat']; omega
  rw [UInt64.toNat_toUInt8, h2]
  omega
theorem chk_first (g : UInt64) (b : List UInt8) : ((chkM g b).getD 0 0).toNat < 128 := word_first _ []
theorem head_8 (g : UInt64) : ((headM g).getD 8 0).toNat < 128 := by
  unfold headM
  rw [wordsM2, getD_app, wordB_len, if_neg (by decide)]
  have := word_first (sumM 7 0 (wordsM [g] 1)) []
  rw [wordsM1] at this
  exact this
theorem cut0 {x y : List UInt8} {m : Nat} (h : x.take m = y) (i : Nat) (hi : i < m) : y.getD i 0 = x.getD i 0 := by
  subst h; simp [List.getD_eq_getElem?_getD, List.getElem?_take, hi]

end Go.Proofs.YtebndjnkmcahaaaGreatDoor
end

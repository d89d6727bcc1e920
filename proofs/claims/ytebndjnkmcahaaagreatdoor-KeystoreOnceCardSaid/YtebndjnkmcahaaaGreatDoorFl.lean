/-
  Contracts of package flash. Own work; no statement of the seat is proved here.
-/
import Derived.Test.YtebndjnkmcahaaaGreatDoorLib
namespace Go.Proofs.YtebndjnkmcahaaaGreatDoor
set_option linter.unusedSimpArgs false
set_option linter.unusedVariables false
open Go Go.Abs Go.RowKit

/-- the error of a flash -/
def validM (ps : Int) (n : Nat) : Int :=
  if ps < 512 ∨ 8192 < ps then 9 else if n = 0 ∨ n % ps.toNat ≠ 0 ∨ 8 < n / ps.toNat then 4 else 0

theorem tdiv_nat (n : Nat) (ps : Int) (h : 0 < ps) : (n : Int).tdiv ps = ((n / ps.toNat : Nat) : Int) := by
  obtain ⟨p, rfl⟩ := Int.eq_ofNat_of_zero_le (Int.le_of_lt h)
  rw [Int.tdiv_eq_ediv_of_nonneg (by omega)]; simp
theorem tmod_nat (n : Nat) (ps : Int) (h : 0 < ps) : (n : Int).tmod ps = ((n % ps.toNat : Nat) : Int) := by
  obtain ⟨p, rfl⟩ := Int.eq_ofNat_of_zero_le (Int.le_of_lt h)
  rw [Int.tmod_eq_emod_of_nonneg (by omega)]; simp

theorem fsized_c (ps : Int) : FPure Tryz.prog 73 [.i ps] (.b (decide (512 ≤ ps ∧ ps ≤ 8192))) := by
  refine fpure_x hmix Tryz.func73 rfl (by kernel_rfl) Tryz.ntmps73 Tryz.results73 (by simp) (by simp [idsL, idsA]) [0, 2] ?_; intro c hP h0 hE
  simp only [go_sem, ↓reduceIte, hP]
  split <;> simp <;> omega

theorem validate_c (ps : Int) (n : Nat) (bs : List PV) (hb : n < 1000000000) : FPure Tryz.prog 201 [.agg [.i ps, .p (.data 1 n bs)]] (.i (validM ps n)) := by
  refine fpure_x hmix Tryz.func201 rfl (by kernel_rfl) Tryz.ntmps201 Tryz.results201 (by simp) (by simp [idsL, idsA]) [0, 1, 2, 3, 7, 26] ?_; intro c hP h0 hE
  simp only [go_sem, ↓reduceIte, hP]
  first | refine xw_call hE (ks := [0, 1, 2, 3, 7, 26]) (n := 2000) (by rw [hP]; exact fsized_c ps) ?_ | refine xd_call hE (ks := [0, 1, 2, 3, 7, 26]) (n := 2000) (by rw [hP]; exact fsized_c ps) ?_
  simp only [go_sem, ↓reduceIte, hP]
  unfold validM
  split
  · rw [if_pos (by omega)]
  · have hr : 512 ≤ ps ∧ ps ≤ 8192 := by omega
    rw [if_neg (show ¬ (ps < 512 ∨ 8192 < ps) by omega)]
    rw [tmod_nat n ps (by omega), tdiv_nat n ps (by omega)]
    have hd : n / ps.toNat ≤ n := Nat.div_le_self _ _
    generalize n / ps.toNat = d at *
    generalize n % ps.toNat = r at *
    (try go_unwrap)
    split
    · refine ⟨by omega, ?_⟩
      split
      · refine ⟨by omega, ?_⟩
        split
        · rw [if_pos (by omega)]
        · rw [if_neg (by omega)]
      · rw [if_pos (by omega)]
    · rw [if_pos (by omega)]

theorem valid_ok {ps : Int} {n : Nat} (h : validM ps n = 0) : ∃ p k : Nat, ps = p ∧ 512 ≤ p ∧ p ≤ 8192 ∧ n = p * k ∧ 1 ≤ k ∧ k ≤ 8 := by
  unfold validM at h
  split at h
  · cases h
  · split at h
    · cases h
    · obtain ⟨p, rfl⟩ := Int.eq_ofNat_of_zero_le (show 0 ≤ ps by omega)
      have h2 : ¬ (n = 0 ∨ n % p ≠ 0 ∨ 8 < n / p) := by assumption
      have hm : p * (n / p) + n % p = n := Nat.div_add_mod n p
      refine ⟨p, n / p, rfl, by omega, by omega, by omega, ?_, by omega⟩
      rcases Nat.eq_zero_or_pos (n / p) with h3 | h3
      · rw [h3] at hm; omega
      · exact h3
theorem valid_mk (p k : Nat) (h1 : 512 ≤ p) (h2 : p ≤ 8192) (h3 : 1 ≤ k) (h4 : k ≤ 8) : validM p (p * k) = 0 := by
  unfold validM
  rw [if_neg (by omega), if_neg]
  have e1 : p * k % p = 0 := Nat.mul_mod_right p k
  have e2 : p * k / p = k := Nat.mul_div_cancel_left k (by omega)
  have e3 : 1 * 1 ≤ p * k := Nat.mul_le_mul (by omega) h3
  simp only [Int.toNat_natCast, e1, e2]
  omega

theorem exists_c (p k n : Nat) (page : Int) (cs : List PV) (h1 : 1 ≤ p) (hn : n = p * k) (hb : n < 1000000000) : FPure Tryz.prog 301 [.agg [.i p, .p (.data 1 n cs)], .i page] (.b (decide (0 ≤ page ∧ page < k))) := by
  refine fpure_x hmix Tryz.func301 rfl (by kernel_rfl) Tryz.ntmps301 Tryz.results301 (by simp) (by simp [idsL, idsA]) [0, 1, 2, 4] ?_; intro c hP h0 hE
  have e : (n : Int).tdiv p = k := by rw [tdiv_nat n p (by omega), hn]; rw [Int.toNat_natCast, Nat.mul_div_cancel_left k (by omega)]
  have hk : k ≤ n := by rw [hn]; exact Nat.le_mul_of_pos_left k (by omega)
  simp only [go_sem, ↓reduceIte, hP, e]
  rw [wrap_i64_id (by omega) (by omega)]
  split
  · refine ⟨by omega, ?_⟩
    simp; omega
  · simp; omega

/-- the bytes from an index on, changed one after another -/
def updN (ch : Nat → UInt8 → UInt8) (bs : List UInt8) (at_ : Nat) : Nat → List UInt8
  | 0 => bs
  | i + 1 => (updN ch bs at_ i).set (at_ + i) (ch i ((updN ch bs at_ i).getD (at_ + i) 0))
theorem updN_len (ch : Nat → UInt8 → UInt8) (bs : List UInt8) (a i : Nat) : (updN ch bs a i).length = bs.length := by
  induction i with
  | zero => rfl
  | succ i ih => simp [updN, ih]
/-- how many bytes a budget lets be changed; what remains of it; the error -/
def reachM (n : Nat) (budget : Int) : Nat := if 0 ≤ budget ∧ budget < n then budget.toNat else n
def leftM (n : Nat) (budget : Int) : Int := if 0 ≤ budget ∧ budget < n then 0 else if 0 ≤ budget then budget - n else budget
def powM (n : Nat) (budget : Int) : Int := if 0 ≤ budget ∧ budget < n then 16 else 0

set_option maxHeartbeats 2000000 in
theorem alter_c (ps : Int) (bs : List UInt8) (n a m : Nat) (budget : Int) (g : AV) (fid : FuncId) (cap : List AV) (hg : ∀ l, callV l g = .call fid (l ++ cap)) (ch : Nat → UInt8 → UInt8) (hcap : idsA [] g) (hn : bs.length = n) (h1 : 1 ≤ n) (ha : a + m ≤ n) (hb : n < 1000000000)
    (hB : -9223372036854775808 ≤ budget ∧ budget ≤ 9223372036854775807)
    (hch : ∀ i x, i < m → FPure Tryz.prog fid (.i i :: .y x :: cap) (.y (ch i x))) :
    FPure Tryz.prog 302 [.agg [.i ps, .p (.data 1 n (bs.map bt))], .i a, .i m, .i budget, g] (.tup [.agg [.i ps, .p (.data 1 n ((updN ch bs a (reachM m budget)).map bt))], .i (leftM m budget), .i (powM m budget)]) := by
  refine fpure_x hmix Tryz.func302 rfl (by kernel_rfl) Tryz.ntmps302 Tryz.results302 (by simp) (by simp [idsL, idsA, *]) [0, 1, 2, 3, 4, 5, 10, 11, 12, 13, 14, 15, 16, 17, 24, 39, 40, 41, 42, 55] ?_; intro c hP h0 hE
  simp only [go_sem, ↓reduceIte, hP]
  obtain ⟨q, hq⟩ : ∃ q, reachM m budget = q := ⟨_, rfl⟩
  obtain ⟨e, he⟩ : ∃ e, powM m budget = e := ⟨_, rfl⟩
  obtain ⟨lf, hlf⟩ : ∃ lf, leftM m budget = lf := ⟨_, rfl⟩
  rw [hq, he, hlf] at hE
  have hqm : q ≤ m := by rw [← hq]; unfold reachM; split <;> omega
  unfold reachM at hq
  unfold powM at he
  unfold leftM at hlf
  split
  all_goals try split
  all_goals
    first
      | rw [if_pos ⟨by omega, by omega⟩] at hq he hlf
      | (rw [if_neg (by omega)] at hq he hlf; first | rw [if_pos (by omega)] at hlf | rw [if_neg (by omega)] at hlf)
    refine xd_new hE (ks := [0, 1, 2, 3, 4, 5, 10, 11, 12, 13, 14, 15, 16, 17, 24, 39, 40, 41, 42, 55]) (n := 2000) 1 (by rw [hP]; exact clone_b bs n hn (by omega) hb) rfl rfl (by simp [idsA, idsL, keys]) (by simp only [idsH, idsL, idsL_map, idsL_cb, idsL_byL, and_self]) ?_
    simp only [go_sem, ↓reduceIte, hP]
    (try go_unwrap)
    refine ⟨by kernel_rfl, ⟨by omega, by omega, by omega⟩, ?_⟩
    refine xw_for hE h0 [0, 1, 2, 3, 4, 5, 10, 11, 12, 13, 14, 15, 16, 17, 24, 39, 40, 41, 42, 55] q (fun i => ⟨62, [(2, .i q), (3, .i budget), (4, g), (10, .ptr 1 0), (13, .i e), (14, .ptr 3 0), (15, .sl 2 a q 1), (39, .sl 2 a q 1), (40, .i q), (41, .i i)], [(3, some ⟨32, [.i ps, .sl 2 0 n 1]⟩), (2, some ⟨byteT, cb (updN ch bs a i)⟩), (1, some ⟨32, [.i 0, .p (.v (.slice none 0 0))]⟩)], 4⟩) [] (fun i => i) ?_ ?_
    · refine ⟨rfl, ?_, ?_, rfl, rfl, trivial, fun i h => h⟩
      · simp only [go_sem, ↓reduceIte, AV.sl.injEq]
        exact ⟨by omega, viewA_pure _ _ _ _ hcap, by omega, by omega, by omega, by omega⟩
      · simp only [go_sem, ↓reduceIte, updN]
        exact cb_viewA _ _ _ _
    · intro i hi
      generalize hu : updN ch bs a i = us
      have hul : us.length = n := by rw [← hu, updN_len, hn]
      simp only [go_sem, ↓reduceIte, hP, hg]
      split
      · refine ⟨⟨by omega, by omega⟩, by omega, ?_⟩
        first | refine xw_call hE (ks := [0, 1, 2, 3, 4, 5, 10, 11, 12, 13, 14, 15, 16, 17, 24, 39, 40, 41, 42, 55]) (n := 2000) (by rw [hP]; exact hch i _ (by omega)) ?_ | refine xd_call hE (ks := [0, 1, 2, 3, 4, 5, 10, 11, 12, 13, 14, 15, 16, 17, 24, 39, 40, 41, 42, 55]) (n := 2000) (by rw [hP]; exact hch i _ (by omega)) ?_
        simp only [go_sem, ↓reduceIte, hP]
        (try go_unwrap)
        refine ⟨⟨by omega, by omega⟩, by omega, by omega, subI rfl ?_ ?_ rfl rfl (Nat.le_refl _)⟩
        · simp only [go_sem, ↓reduceIte]
          exact ⟨viewA_pure _ _ _ _ hcap, by omega⟩
        · simp only [go_sem, ↓reduceIte, updN, hu, cb_set]
          exact cb_viewA _ _ _ _
      · obtain rfl : i = q := by omega
        rw [hu, List.take_of_length_le (by omega)]
        (try go_unwrap)
        first
          | exact ⟨by omega, trivial, by omega⟩
          | exact ⟨by omega, trivial⟩

theorem eraseF_c (i : Int) (x : UInt8) : FPure Tryz.prog 303 [.i i, .y x] (.y 255) := by
  refine fpure_x hmix Tryz.func303 rfl (by kernel_rfl) Tryz.ntmps303 Tryz.results303 (by simp) (by simp [idsL, idsA]) [4] ?_; intro c hP h0 hE
  simp only [go_sem, ↓reduceIte, hP]
  rfl

theorem w_and8 (x y : UInt8) : band .u8 (x.toNat : Int) (y.toNat : Int) = ((x &&& y).toNat : Int) := by
  show IntKind.u8.wrap (((BitVec.ofInt 8 (x.toNat : Int)) &&& (BitVec.ofInt 8 (y.toNat : Int))).toNat : Int) = _
  have e : ∀ z : UInt8, BitVec.ofInt 8 (z.toNat : Int) = z.toBitVec := fun z => by
    rw [BitVec.ofInt_natCast]
    exact BitVec.eq_of_toNat_eq (by rw [BitVec.toNat_ofNat]; exact Nat.mod_eq_of_lt z.toBitVec.isLt)
  rw [e, e]
  have := (x.toBitVec &&& y.toBitVec).isLt
  rw [wrap_u8_def]
  show ((x.toBitVec &&& y.toBitVec).toNat : Int) % 256 = ((x.toBitVec &&& y.toBitVec).toNat : Int)
  omega

def progCh (b : List UInt8) (i : Nat) (x : UInt8) : UInt8 := x &&& b.getD i 0
theorem programF_c (i m : Nat) (x : UInt8) (b : List UInt8) (hm : b.length = m) (hi : i < m) : FPure Tryz.prog 306 [.i i, .y x, .cp [.data 1 m (b.map bt)]] (.y (progCh b i x)) := by
  refine fpure_x hmix Tryz.func306 rfl (by kernel_rfl) Tryz.ntmps306 Tryz.results306 (by simp) (by simp [idsL, idsA]) [0, 1, 2, 5] ?_; intro c hP h0 hE
  simp only [go_sem, ↓reduceIte, hP, w_and8]
  exact ⟨⟨by omega, by omega⟩, by omega, rfl⟩

structure Fl where
  ps : Int
  bs : List UInt8
structure FR where
  f : Fl
  left : Int
  err : Int
def flAV (f : Fl) : AV := .agg [.i f.ps, .p (.data 1 f.bs.length (f.bs.map bt))]
def frAV (r : FR) : AV := .tup [flAV r.f, .i r.left, .i r.err]
attribute [go_sem] flAV frAV
def alterM (f : Fl) (a m : Nat) (budget : Int) (ch : Nat → UInt8 → UInt8) : FR := ⟨⟨f.ps, updN ch f.bs a (reachM m budget)⟩, leftM m budget, powM m budget⟩
def failF (e : Int) : FR := ⟨⟨0, []⟩, 0, e⟩
def areaM (f : Fl) (page at_ m : Int) : Int :=
  if validM f.ps f.bs.length ≠ 0 then validM f.ps f.bs.length
  else if page < 0 ∨ (f.bs.length / f.ps.toNat : Nat) ≤ page ∨ at_ < 0 ∨ f.ps - m < at_ then 9 else 0
def progM (f : Fl) (page at_ : Int) (b : List UInt8) (budget : Int) : FR :=
  if areaM f page at_ b.length ≠ 0 then failF (areaM f page at_ b.length)
  else alterM f (page * f.ps + at_).toNat b.length budget (progCh b)
def eraseM (f : Fl) (page : Int) (budget : Int) : FR :=
  if areaM f page 0 0 ≠ 0 then failF (areaM f page 0 0)
  else alterM f (page * f.ps).toNat f.ps.toNat budget (fun _ _ => 255)

def i64 (n : Int) : Prop := -9223372036854775808 ≤ n ∧ n ≤ 9223372036854775807

theorem areaM_inv {f : Fl} (page at_ m : Int) (h : validM f.ps f.bs.length ≠ 0) : areaM f page at_ m = validM f.ps f.bs.length := by
  unfold areaM; rw [if_pos h]
theorem areaM_in {p k : Nat} {bs : List UInt8} {page at_ m : Int} (h1 : 512 ≤ p) (h2 : p ≤ 8192) (h3 : 1 ≤ k) (h4 : k ≤ 8) (hn : bs.length = p * k) (hi : 0 ≤ page ∧ page < k ∧ 0 ≤ at_ ∧ at_ ≤ p - m) : areaM ⟨p, bs⟩ page at_ m = 0 := by
  have hv := valid_mk p k h1 h2 h3 h4
  unfold areaM
  simp only [hn, hv, ne_eq, not_true_eq_false, if_false, Int.toNat_natCast, Nat.mul_div_cancel_left k (show 0 < p by omega)]
  rw [if_neg (by omega)]
theorem areaM_out {p k : Nat} {bs : List UInt8} {page at_ m : Int} (h1 : 512 ≤ p) (h2 : p ≤ 8192) (h3 : 1 ≤ k) (h4 : k ≤ 8) (hn : bs.length = p * k) (hi : ¬ (0 ≤ page ∧ page < k ∧ 0 ≤ at_ ∧ at_ ≤ p - m)) : areaM ⟨p, bs⟩ page at_ m = 9 := by
  have hv := valid_mk p k h1 h2 h3 h4
  unfold areaM
  simp only [hn, hv, ne_eq, not_true_eq_false, if_false, Int.toNat_natCast, Nat.mul_div_cancel_left k (show 0 < p by omega)]
  rw [if_pos (by omega)]
theorem progM_fail {f : Fl} {page at_ : Int} {b : List UInt8} {m : Nat} {budget e : Int} (hm : b.length = m) (h : areaM f page at_ m = e) (he : e ≠ 0) : progM f page at_ b budget = failF e := by
  subst hm; unfold progM; rw [h, if_pos he]
theorem progM_ok {f : Fl} {page at_ : Int} {b : List UInt8} {m : Nat} {budget : Int} (hm : b.length = m) (h : areaM f page at_ m = 0) : progM f page at_ b budget = alterM f (page * f.ps + at_).toNat m budget (progCh b) := by
  subst hm; unfold progM; rw [h, if_neg (by decide)]
theorem eraseM_fail {f : Fl} {page budget e : Int} (h : areaM f page 0 0 = e) (he : e ≠ 0) : eraseM f page budget = failF e := by
  unfold eraseM; rw [h, if_pos he]
theorem eraseM_ok {f : Fl} {page budget : Int} (h : areaM f page 0 0 = 0) : eraseM f page budget = alterM f (page * f.ps).toNat f.ps.toNat budget (fun _ _ => 255) := by
  unfold eraseM; rw [h, if_neg (by decide)]
theorem mul_i64 (q p : Nat) (h : q * p < 1000000000000) : IntKind.i64.wrap ((q : Int) * (p : Int)) = ((q * p : Nat) : Int) := by
  have e : (q : Int) * (p : Int) = ((q * p : Nat) : Int) := by simp
  rw [e, wrap_i64_id (by omega) (by omega)]
theorem page_le {q p k : Nat} (h : q < k) : q * p + p ≤ p * k := by
  have : (q + 1) * p ≤ k * p := Nat.mul_le_mul_right p (by omega)
  rw [Nat.mul_comm p k]; rw [Nat.add_mul] at this; omega

theorem program_c (ps : Int) (bs : List UInt8) (n : Nat) (page at_ : Int) (b : List UInt8) (m : Nat) (budget : Int) (hn : bs.length = n) (hb : n < 1000000000) (hm : b.length = m) (hmb : m < 1000000000) (hB : i64 budget) :
    FPure Tryz.prog 305 [.agg [.i ps, .p (.data 1 n (bs.map bt))], .i page, .i at_, .p (.data 1 m (b.map bt)), .i budget] (frAV (progM ⟨ps, bs⟩ page at_ b budget)) := by
  refine fpure_x hmix Tryz.func305 rfl (by kernel_rfl) Tryz.ntmps305 Tryz.results305 (by simp) (by simp [idsL, idsA]) [0, 1, 2, 3, 4, 5, 8, 10, 11, 12, 13, 17, 36] ?_; intro c hP h0 hE
  simp only [go_sem, ↓reduceIte, hP]
  first | refine xw_call hE (ks := [0, 1, 2, 3, 4, 5, 8, 10, 11, 12, 13, 17, 36]) (n := 2000) (by rw [hP]; exact validate_c ps n _ hb) ?_ | refine xd_call hE (ks := [0, 1, 2, 3, 4, 5, 8, 10, 11, 12, 13, 17, 36]) (n := 2000) (by rw [hP]; exact validate_c ps n _ hb) ?_
  simp only [go_sem, ↓reduceIte, hP]
  split
  · rename_i h
    have hv : validM ps bs.length ≠ 0 := by rw [hn]; exact h
    rw [progM_fail hm (areaM_inv (f := ⟨ps, bs⟩) page at_ m hv) hv]
    simp only [failF, List.length_nil, List.map_nil, and_self, hn]
  · rename_i h
    have h : validM ps n = 0 := by omega
    obtain ⟨p, k, rfl, hp1, hp2, rfl, hk1, hk2⟩ := valid_ok h
    first | refine xw_call hE (ks := [0, 1, 2, 3, 4, 5, 8, 10, 11, 12, 13, 17, 36]) (n := 2000) (by rw [hP]; exact exists_c p k _ page _ (by omega) rfl hb) ?_ | refine xd_call hE (ks := [0, 1, 2, 3, 4, 5, 8, 10, 11, 12, 13, 17, 36]) (n := 2000) (by rw [hP]; exact exists_c p k _ page _ (by omega) rfl hb) ?_
    simp only [go_sem, ↓reduceIte, hP]
    (try go_unwrap)
    have fail : ¬ (0 ≤ page ∧ page < k ∧ 0 ≤ at_ ∧ at_ ≤ p - m) → progM ⟨p, bs⟩ page at_ b budget = failF 9 := fun hx => progM_fail hm (areaM_out hp1 hp2 hk1 hk2 hn hx) (by decide)
    split
    · split
      · split
        · rw [fail (by omega)]
          simp only [failF, List.length_nil, List.map_nil, and_self]
        · have hR := progM_ok (budget := budget) hm (areaM_in (m := m) hp1 hp2 hk1 hk2 hn (by omega : 0 ≤ page ∧ page < k ∧ 0 ≤ at_ ∧ at_ ≤ p - m))
          obtain ⟨q, rfl⟩ := Int.eq_ofNat_of_zero_le (show 0 ≤ page by omega)
          obtain ⟨a, rfl⟩ := Int.eq_ofNat_of_zero_le (show 0 ≤ at_ by omega)
          have hle := page_le (p := p) (show q < k by omega)
          have hqp : ((q : Int) * (p : Int) + a).toNat = q * p + a := by have e : (q : Int) * (p : Int) = ((q * p : Nat) : Int) := by simp
                                                                         rw [e]; omega
          have hw : IntKind.i64.wrap (((q * p : Nat) : Int) + (a : Int)) = ((q * p + a : Nat) : Int) := by rw [wrap_i64_id (by omega) (by omega)]; simp
          rw [mul_i64 q p (by omega), hw]
          simp only [hqp] at hR
          refine xw_frz hE (ks := [0, 1, 2, 3, 4, 5, 8, 10, 11, 12, 13, 17, 36]) (n := 2000) 1 ?_ ?_
          · simp only [go_sem, ↓reduceIte, hP]
          · simp only [go_sem, ↓reduceIte, hP]
            first | refine xw_call hE (ks := [0, 1, 2, 3, 4, 5, 8, 10, 11, 12, 13, 17, 36]) (n := 2000) (by rw [hP]; exact alter_c p bs _ (q * p + a) m budget _ 306 _ (fun _ => rfl) (progCh b) (by simp [idsL, idsA]) hn (by omega) (by omega) hb hB (fun i x hi => programF_c i m x b hm hi)) ?_ | refine xd_call hE (ks := [0, 1, 2, 3, 4, 5, 8, 10, 11, 12, 13, 17, 36]) (n := 2000) (by rw [hP]; exact alter_c p bs _ (q * p + a) m budget _ 306 _ (fun _ => rfl) (progCh b) (by simp [idsL, idsA]) hn (by omega) (by omega) hb hB (fun i x hi => programF_c i m x b hm hi)) ?_
            simp only [go_sem, ↓reduceIte, hP]
            simp only [hR, alterM, updN_len, hn, and_self]
      · rw [fail (by omega)]
        simp only [failF, List.length_nil, List.map_nil, and_self]
    · rw [fail (by omega)]
      simp only [failF, List.length_nil, List.map_nil, and_self]

theorem erase_c (ps : Int) (bs : List UInt8) (n : Nat) (page budget : Int) (hn : bs.length = n) (hb : n < 1000000000) (hB : i64 budget) :
    FPure Tryz.prog 300 [.agg [.i ps, .p (.data 1 n (bs.map bt))], .i page, .i budget] (frAV (eraseM ⟨ps, bs⟩ page budget)) := by
  refine fpure_x hmix Tryz.func300 rfl (by kernel_rfl) Tryz.ntmps300 Tryz.results300 (by simp) (by simp [idsL, idsA]) [0, 1, 2, 3, 6, 7, 8, 9, 13, 19] ?_; intro c hP h0 hE
  simp only [go_sem, ↓reduceIte, hP]
  first | refine xw_call hE (ks := [0, 1, 2, 3, 6, 7, 8, 9, 13, 19]) (n := 2000) (by rw [hP]; exact validate_c ps n _ hb) ?_ | refine xd_call hE (ks := [0, 1, 2, 3, 6, 7, 8, 9, 13, 19]) (n := 2000) (by rw [hP]; exact validate_c ps n _ hb) ?_
  simp only [go_sem, ↓reduceIte, hP]
  split
  · rename_i h
    have hv : validM ps bs.length ≠ 0 := by rw [hn]; exact h
    rw [eraseM_fail (areaM_inv (f := ⟨ps, bs⟩) page 0 0 hv) hv]
    simp only [failF, List.length_nil, List.map_nil, and_self, hn]
  · rename_i h
    have h : validM ps n = 0 := by omega
    obtain ⟨p, k, rfl, hp1, hp2, rfl, hk1, hk2⟩ := valid_ok h
    first | refine xw_call hE (ks := [0, 1, 2, 3, 6, 7, 8, 9, 13, 19]) (n := 2000) (by rw [hP]; exact exists_c p k _ page _ (by omega) rfl hb) ?_ | refine xd_call hE (ks := [0, 1, 2, 3, 6, 7, 8, 9, 13, 19]) (n := 2000) (by rw [hP]; exact exists_c p k _ page _ (by omega) rfl hb) ?_
    simp only [go_sem, ↓reduceIte, hP]
    split
    · rw [eraseM_fail (areaM_out hp1 hp2 hk1 hk2 hn (by omega)) (by decide)]
      simp only [failF, List.length_nil, List.map_nil, and_self]
    · have hR := eraseM_ok (budget := budget) (areaM_in hp1 hp2 hk1 hk2 hn (by omega : 0 ≤ page ∧ page < k ∧ 0 ≤ (0 : Int) ∧ (0 : Int) ≤ p - 0))
      obtain ⟨q, rfl⟩ := Int.eq_ofNat_of_zero_le (show 0 ≤ page by omega)
      have hle := page_le (p := p) (show q < k by omega)
      rw [mul_i64 q p (by omega)]
      first | refine xw_call hE (ks := [0, 1, 2, 3, 6, 7, 8, 9, 13, 19]) (n := 2000) (by rw [hP]; exact alter_c p bs _ (q * p) p budget _ 303 [] (fun l => by simp [callV]) (fun _ _ => 255) (by simp [idsA]) hn (by omega) (by omega) hb hB (fun i x hi => eraseF_c i x)) ?_ | refine xd_call hE (ks := [0, 1, 2, 3, 6, 7, 8, 9, 13, 19]) (n := 2000) (by rw [hP]; exact alter_c p bs _ (q * p) p budget _ 303 [] (fun l => by simp [callV]) (fun _ _ => 255) (by simp [idsA]) hn (by omega) (by omega) hb hB (fun i x hi => eraseF_c i x)) ?_
      have hqp : ((q : Int) * (p : Int)).toNat = q * p := by have e : (q : Int) * (p : Int) = ((q * p : Nat) : Int) := by simp
                                                             rw [e]; omega
      simp only [go_sem, ↓reduceIte, hP]
      simp only [hR, alterM, updN_len, hn, and_self, hqp, Int.toNat_natCast]

end Go.Proofs.YtebndjnkmcahaaaGreatDoor

/-
  Plain facts: machine words of 64 and 8 bits as the model's integers. Own work; no statement of the seat is proved here.
-/
import Derived.Test.YtebndjnkmcahaaaGreatDoorAbsT
namespace Go.Abs
set_option linter.unusedSimpArgs false
set_option linter.unusedVariables false
open Go Go.RowKit

abbrev wd (x : UInt64) : PV := .v (.int .u64 (x.toNat : Int))
abbrev AV.w (x : UInt64) : AV := .p (wd x)
abbrev AV.y (x : UInt8) : AV := .p (.v (.int .u8 (x.toNat : Int)))

theorem u64_lt (x : UInt64) : x.toNat < 18446744073709551616 := x.toNat_lt
theorem u8_lt (x : UInt8) : x.toNat < 256 := x.toNat_lt

theorem wrap_u64_def (n : Int) : IntKind.u64.wrap n = n % 18446744073709551616 := by
  simp [IntKind.wrap, IntKind.bits, IntKind.signed]
theorem wrap_u8_def (n : Int) : IntKind.u8.wrap n = n % 256 := by
  simp [IntKind.wrap, IntKind.bits, IntKind.signed]
theorem wrap_i64_id {n : Int} (h1 : -9223372036854775808 ≤ n) (h2 : n ≤ 9223372036854775807) : IntKind.i64.wrap n = n := by
  rw [IntKind.wrap_i64]; omega
theorem wrap_u64_id {n : Int} (h1 : 0 ≤ n) (h2 : n < 18446744073709551616) : IntKind.u64.wrap n = n := by
  rw [wrap_u64_def]; omega

theorem w_add (x y : UInt64) : IntKind.u64.wrap ((x.toNat : Int) + (y.toNat : Int)) = ((x + y).toNat : Int) := by
  rw [wrap_u64_def, UInt64.toNat_add]; omega
theorem bv_u64 (x : UInt64) : BitVec.ofInt 64 (x.toNat : Int) = x.toBitVec := by
  rw [BitVec.ofInt_natCast]
  exact BitVec.eq_of_toNat_eq (by rw [BitVec.toNat_ofNat]; exact Nat.mod_eq_of_lt x.toBitVec.isLt)
theorem wrap_bv (b : BitVec 64) : IntKind.u64.wrap (b.toNat : Int) = (b.toNat : Int) := by
  have := b.isLt
  rw [wrap_u64_def]; omega
theorem w_xor (x y : UInt64) : bxor .u64 (x.toNat : Int) (y.toNat : Int) = ((x ^^^ y).toNat : Int) := by
  show IntKind.u64.wrap (((BitVec.ofInt 64 (x.toNat : Int)) ^^^ (BitVec.ofInt 64 (y.toNat : Int))).toNat : Int) = _
  rw [bv_u64, bv_u64, wrap_bv]; rfl
theorem w_or (x y : UInt64) : bor .u64 (x.toNat : Int) (y.toNat : Int) = ((x ||| y).toNat : Int) := by
  show IntKind.u64.wrap (((BitVec.ofInt 64 (x.toNat : Int)) ||| (BitVec.ofInt 64 (y.toNat : Int))).toNat : Int) = _
  rw [bv_u64, bv_u64, wrap_bv]; rfl
theorem w_and (x y : UInt64) : band .u64 (x.toNat : Int) (y.toNat : Int) = ((x &&& y).toNat : Int) := by
  show IntKind.u64.wrap (((BitVec.ofInt 64 (x.toNat : Int)) &&& (BitVec.ofInt 64 (y.toNat : Int))).toNat : Int) = _
  rw [bv_u64, bv_u64, wrap_bv]; rfl

/-- shifts by a number: to be unfolded at a numeral below 64 -/
def shlN (x : UInt64) (n : Nat) : UInt64 := UInt64.ofNat (x.toNat * 2 ^ n)
def shrN (x : UInt64) (n : Nat) : UInt64 := UInt64.ofNat (x.toNat / 2 ^ n)

theorem w_shl (x : UInt64) (n : Int) (h : n.toNat ≤ 64) : ishl .u64 (x.toNat : Int) n = ((shlN x n.toNat).toNat : Int) := by
  show IntKind.u64.wrap ((x.toNat : Int) * 2 ^ (min n.toNat 64)) = _
  rw [Nat.min_eq_left h, wrap_u64_def]
  unfold shlN
  rw [UInt64.toNat_ofNat', Int.natCast_emod, Int.natCast_mul, Int.natCast_pow]
  rfl
theorem w_shr (x : UInt64) (n : Int) (h : n.toNat ≤ 64) : ishr .u64 (x.toNat : Int) n = ((shrN x n.toNat).toNat : Int) := by
  show Int.fdiv (x.toNat : Int) (2 ^ (min n.toNat 64)) = _
  rw [Nat.min_eq_left h]
  unfold shrN
  have hlt : x.toNat / 2 ^ n.toNat < 18446744073709551616 := Nat.lt_of_le_of_lt (Nat.div_le_self _ _) x.toNat_lt
  rw [UInt64.toNat_ofNat', Nat.mod_eq_of_lt (by simpa using hlt)]
  have e : ((2 : Int) ^ n.toNat) = ((2 ^ n.toNat : Nat) : Int) := by rw [Int.natCast_pow]; rfl
  rw [e, Int.fdiv_eq_ediv_of_nonneg _ (Int.natCast_nonneg _)]
  rfl

def rotlN (x : UInt64) (n : Nat) : UInt64 := shlN x n ||| shrN x (64 - n)

theorem lit_u64 (n : Nat) (h : n < 18446744073709551616) : (n : Int) = ((UInt64.ofNat n).toNat : Int) := by
  rw [UInt64.toNat_ofNat', Nat.mod_eq_of_lt (by simpa using h)]

theorem bv_nat (a : Nat) (ha : a < 18446744073709551616) : (BitVec.ofInt 64 (a : Int)).toNat = a := by
  rw [BitVec.ofInt_natCast, BitVec.toNat_ofNat]; exact Nat.mod_eq_of_lt (by simpa using ha)
theorem band_u64_nat (a b : Nat) (ha : a < 18446744073709551616) (hb : b < 18446744073709551616) : band .u64 (a : Int) (b : Int) = ((a &&& b : Nat) : Int) := by
  show IntKind.u64.wrap (((BitVec.ofInt 64 (a : Int)) &&& (BitVec.ofInt 64 (b : Int))).toNat : Int) = _
  rw [wrap_bv, BitVec.toNat_and, bv_nat a ha, bv_nat b hb]
theorem band63 (k : Nat) (hk : k < 64) : band .u64 (k : Int) 63 = (k : Int) := by
  have := band_u64_nat k 63 (by omega) (by omega)
  rw [show ((63 : Nat) : Int) = 63 from rfl] at this
  rw [this, show (63 : Nat) = 2 ^ 6 - 1 from rfl, Nat.and_two_pow_sub_one_eq_mod, Nat.mod_eq_of_lt (by simpa using hk)]

theorem conv_u8_u64 (x : UInt8) : IntKind.u64.wrap (x.toNat : Int) = ((x.toUInt64).toNat : Int) := by
  have := x.toNat_lt
  rw [wrap_u64_id (by omega) (by omega)]
  simp

/-- reading a byte of frozen data -/
theorem head_bt (bs : List UInt8) (i : Nat) : headP (.v (.int .u8 0)) ((bs.map bt).drop i) = bt (bs.getD i 0) := by
  induction bs generalizing i with
  | nil => simp [headP, bt]
  | cons b r ih => cases i with
    | zero => simp [headP]
    | succ i => simpa using ih i
theorem head_wd (ws : List UInt64) (i : Nat) : headP (.v (.int .u64 0)) ((ws.map wd).drop i) = wd (ws.getD i 0) := by
  induction ws generalizing i with
  | nil => simp [headP]
  | cons b r ih => cases i with
    | zero => simp [headP]
    | succ i => simpa using ih i

theorem cut_bt (bs : List UInt8) (a b : Nat) : ((bs.map bt).drop a).take b = ((bs.drop a).take b).map bt := by
  rw [← List.map_drop, ← List.map_take]

theorem take_bt (bs : List UInt8) (b : Nat) : (bs.map bt).take b = (bs.take b).map bt := List.map_take.symm

/-! bytes in a block of one's own -/
def cb (bs : List UInt8) : List AV := (bs.map bt).map .p
theorem cb_def (bs : List UInt8) : (bs.map bt).map AV.p = cb bs := rfl
theorem cb_nil : cb [] = [] := rfl
theorem cb_cons (x : UInt8) (bs : List UInt8) : cb (x :: bs) = .p (.v (.int .u8 (x.toNat : Int))) :: cb bs := rfl
@[simp] theorem cb_len (bs : List UInt8) : (cb bs).length = bs.length := by simp [cb]
theorem cb_snoc (bs : List UInt8) (x : UInt8) : cb bs ++ [.p (.v (.int .u8 (x.toNat : Int)))] = cb (bs ++ [x]) := by simp [cb, bt]
theorem cb_app (bs cs : List UInt8) : cb bs ++ cb cs = cb (bs ++ cs) := by simp [cb]
theorem cb_drop (bs : List UInt8) (n : Nat) : (cb bs).drop n = cb (bs.drop n) := by simp [cb]
theorem cb_take (bs : List UInt8) (n : Nat) : (cb bs).take n = cb (bs.take n) := by simp [cb]
theorem cb_set (bs : List UInt8) (n : Nat) (x : UInt8) : (cb bs).set n (.p (.v (.int .u8 (x.toNat : Int)))) = cb (bs.set n x) := by simp [cb, bt, List.map_set]
theorem cb_rep (n : Nat) : List.replicate n (AV.p (.v (.int .u8 0))) = cb (List.replicate n 0) := by simp [cb, bt]
theorem cb_view (h : Heap) (S : List Nat) (bs : List UInt8) : viewPs h S (bs.map bt) (cb bs) := viewPs_refl h S _
theorem cb_viewA (h : Heap) (S : List Nat) (σ : Nat → Nat) (bs : List UInt8) : viewAs h S σ (cb bs) (cb bs) := viewAs_pure h S σ _
theorem view_cb {h : Heap} {S : List Nat} {id n : Nat} {t : TypeId} {bs : List UInt8} (hS : id ∈ S) (hb : h id = some ⟨t, cb bs⟩) (hn : bs.length = n) : viewP h S (.data 1 n (bs.map bt)) (.sl id 0 n 1) := by
  simp only [viewP, true_and]
  refine ⟨hS, _, hb, by simp; omega, ?_⟩
  simp only [List.drop_zero]
  rw [cb_take, List.take_of_length_le (by omega)]
  exact cb_view h S bs

theorem head_cb (bs : List UInt8) (i : Nat) : headA (.v (.int .u8 0)) ((cb bs).drop i) = .p (bt (bs.getD i 0)) := by
  induction bs generalizing i with
  | nil => simp [headA, bt, cb]
  | cons b r ih => cases i with
    | zero => simp [headA, cb]
    | succ i => simpa [cb] using ih i

theorem head_cb2 (bs : List UInt8) (i : Nat) : headA (.v (.int .u8 0)) (cb (bs.drop i)) = .p (bt (bs.getD i 0)) := by
  rw [← cb_drop]; exact head_cb bs i
theorem allP_cb (bs : List UInt8) : allP (cb bs) := by
  intro c hc
  obtain ⟨x, _, rfl⟩ := List.mem_map.1 hc
  trivial
theorem idsL_cb (T : List Nat) (bs : List UInt8) : idsL T (cb bs) := idsL_map T _
theorem renL_cb (τ : Nat → Nat) (bs : List UInt8) : renL τ (cb bs) = cb bs := renL_map τ _
theorem unPs_cb (bs : List UInt8) : unPs (cb bs) = bs.map bt := by
  unfold unPs cb
  rw [List.map_map]
  conv => rhs; rw [← List.map_id (bs.map bt)]
  exact List.map_congr_left fun x _ => rfl
theorem conv_u64_u8 (x : UInt64) : IntKind.u8.wrap (x.toNat : Int) = ((x.toUInt8).toNat : Int) := by
  rw [wrap_u8_def, UInt64.toNat_toUInt8]; omega
theorem unBs_bt (bs : List UInt8) : unBs (bs.map bt) = bs := by
  unfold unBs
  rw [List.map_map]
  conv => rhs; rw [← List.map_id bs]
  refine List.map_congr_left fun x _ => ?_
  simp [unB, bt]
theorem allB_bt (bs : List UInt8) : allB (bs.map bt) := by
  intro c hc
  obtain ⟨x, _, rfl⟩ := List.mem_map.1 hc
  exact ⟨x, rfl⟩

theorem allQ_cb (bs : List UInt8) : allQ (cb bs) := allQ_map _
theorem unQs_cb (bs : List UInt8) : unQs (cb bs) = bs.map bt := unQs_map _
theorem fz1L_pure (id : Nat) (b : Blk) : ∀ (l : List AV), allP l → fz1L id b l = l
  | [], _ => rfl
  | a :: l, h => by
    have h1 : isP a := h a (by simp)
    cases a <;> simp only [isP] at h1
    simp only [fz1L, fz1, fz1L_pure id b l fun c hc => h c (by simp [hc])]
theorem fz1OL_pure (id : Nat) (b : Blk) : ∀ (l : List AV), allP l → fz1OL id b l
  | [], _ => trivial
  | a :: l, h => by
    have h1 : isP a := h a (by simp)
    cases a <;> simp only [isP] at h1
    exact ⟨trivial, fz1OL_pure id b l fun c hc => h c (by simp [hc])⟩
theorem fz1L_cb (id : Nat) (b : Blk) (bs : List UInt8) : fz1L id b (cb bs) = cb bs := fz1L_pure id b _ (allP_cb bs)
theorem fz1OL_cb (id : Nat) (b : Blk) (bs : List UInt8) : fz1OL id b (cb bs) := fz1OL_pure id b _ (allP_cb bs)

end Go.Abs

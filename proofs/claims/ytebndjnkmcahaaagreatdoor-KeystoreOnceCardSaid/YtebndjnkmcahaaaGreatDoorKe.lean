/-
  What a device reads of its vault: numbers, the master secret, draws. Own work; no statement of the seat is proved here.
-/
import Derived.Test.YtebndjnkmcahaaaGreatDoorKd
import Derived.Test.YtebndjnkmcahaaaGreatDoorVx
import Derived.Test.YtebndjnkmcahaaaGreatDoorVy
namespace Go.Proofs.YtebndjnkmcahaaaGreatDoor
set_option linter.unusedSimpArgs false
set_option linter.unusedVariables false
open Go Go.Abs Go.RowKit

def numM (b : List UInt8) : UInt64 := wordN b b.length
/-- the values of a vault are not too long -/
def VLen (s : Store) : Prop := s.length < 1000000000 ∧ ∀ x, x ∈ s → x.2.length < 1000000000
theorem VLen.get {s : Store} (h : VLen s) (k : Int) : (vgetM k s).length < 1000000000 := by
  have key : ∀ {l : Store}, (∀ x, x ∈ l → x.2.length < 1000000000) → (vgetM k l).length < 1000000000 := by
    intro l hl
    induction l with
    | nil => simp [vgetM]
    | cons p l ih =>
      unfold vgetM
      split
      · exact hl p (by simp)
      · exact ih fun x hx => hl x (by simp [hx])
  exact key h.2
def vtC (v : Vt) : List AV := [.i v.j.ps, .p (.data 1 v.j.bs.length (v.j.bs.map bt)), .i v.j.page, .i v.j.gen, .i v.j.tail, .b v.j.torn, .p (.data 2 v.prs.length (prCs v.prs))]
attribute [go_sem] vtC
@[simp] theorem vtC_ids (T : List Nat) (v : Vt) : idsL T (vtC v) := by simp [vtC, idsL, idsA]
theorem bor_byte (a b : Nat) (ha : a < 16777216) (hb : b < 256) : bor .i64 (ishl .i64 (a : Int) 8) (b : Int) = ((a * 256 + b : Nat) : Int) := by
  have e : ishl .i64 (a : Int) 8 = ((a * 256 : Nat) : Int) := by
    show IntKind.i64.wrap ((a : Int) * 2 ^ 8) = _
    rw [wrap_i64_id (by omega) (by omega)]; omega
  rw [e]
  show IntKind.i64.wrap ((((BitVec.ofInt 64 ((a * 256 : Nat) : Int)) ||| (BitVec.ofInt 64 (b : Int))).toNat : Nat) : Int) = _
  rw [BitVec.toNat_or, bv_nat _ (by omega), bv_nat _ (by omega)]
  have e2 : a * 256 ||| b = a * 256 + b := by
    rw [show (256 : Nat) = 2 ^ 8 from rfl, Nat.mul_comm, ← Nat.two_pow_add_eq_or_of_lt (by omega)]
  rw [e2, wrap_i64_id (by omega) (by omega)]
set_option maxHeartbeats 1000000 in
theorem number_c (v : Vt) (k : Int) (hv : VLen v.prs) : FPure Tryz.prog 38 [.agg (vtC v), .i k] (.w (numM (vgetM k v.prs))) := by
  refine fpure_x hmix Tryz.func38 rfl (by kernel_rfl) Tryz.ntmps38 Tryz.results38 (by simp) (by simp [idsL, idsA]) [0, 1, 2, 4, 5, 7, 10, 11, 12, 13] ?_; intro c hP h0 hE
  simp only [go_sem, ↓reduceIte, hP]
  first | refine xw_call hE (ks := [0, 1, 2, 4, 5, 7, 10, 11, 12, 13]) (n := 2000) (by rw [hP]; exact vgetA_c v _ k hv.1 (fun x hx => by have := hv.2 x hx; omega)) ?_ | refine xd_call hE (ks := [0, 1, 2, 4, 5, 7, 10, 11, 12, 13]) (n := 2000) (by rw [hP]; exact vgetA_c v _ k hv.1 (fun x hx => by have := hv.2 x hx; omega)) ?_
  have hg := hv.get k
  generalize vgetM k v.prs = b at *
  simp only [go_sem, ↓reduceIte, hP]
  refine xw_for hE h0 [0, 1, 2, 4, 5, 7, 10, 11, 12, 13] b.length (fun i => ⟨23, [(5, .w (wordN b i)), (10, .p (.data 1 b.length (b.map bt))), (11, .i b.length), (12, .i i)], [], 1⟩) [] (fun i => i) ?_ ?_
  · refine ⟨rfl, ?_, trivial, rfl, rfl, trivial, fun i h => h⟩
    simp only [go_sem, ↓reduceIte, wordN]
    rfl
  · intro i hi
    generalize hm : wordN b i = m
    rcases Nat.lt_or_ge i b.length with hin | hin
    · have hw : IntKind.i64.wrap ((i : Int) + 1) = ((i + 1 : Nat) : Int) := by rw [wrap_i64_id (by omega) (by omega)]; omega
      simp only [go_sem, ↓reduceIte, hP, conv_u8_u64, w_shl m 8 (by decide), w_add, w_xor, w_or, w_and, show ((i : Int) < (b.length : Int)) from by omega]
      refine ⟨by omega, by omega, hin, subG [] rfl ?_ trivial rfl rfl (Nat.zero_le _)⟩
      simp only [go_sem, ↓reduceIte, wordN, hm, hw]
    · obtain rfl : i = b.length := by omega
      subst hm
      have hc : ¬ ((b.length : Int) < (b.length : Int)) := by omega
      simp only [go_sem, ↓reduceIte, hP, hc]
      rfl
theorem boots_c (v : Vt) (hv : VLen v.prs) (h4 : (vgetM 2 v.prs).length ≤ 4) : FPure Tryz.prog 80 [.agg (vtC v)] (.i (numM (vgetM 2 v.prs)).toNat) := by
  refine fpure_x hmix Tryz.func80 rfl (by kernel_rfl) Tryz.ntmps80 Tryz.results80 (by simp) (by simp [idsL, idsA]) [0, 1, 2, 3, 4, 5, 11] ?_; intro c hP h0 hE
  simp only [go_sem, ↓reduceIte, hP]
  first | refine xw_call hE (ks := [0, 1, 2, 3, 4, 5, 11]) (n := 2000) (by rw [hP]; exact rget_c v _ 2 hv.1 (fun x hx => by have := hv.2 x hx; omega)) ?_ | refine xd_call hE (ks := [0, 1, 2, 3, 4, 5, 11]) (n := 2000) (by rw [hP]; exact rget_c v _ 2 hv.1 (fun x hx => by have := hv.2 x hx; omega)) ?_
  generalize vgetM 2 v.prs = b at *
  simp only [go_sem, ↓reduceIte, hP]
  refine xw_for hE h0 [0, 1, 2, 3, 4, 5, 11] b.length (fun i => ⟨23, [(3, .i (wordN b i).toNat), (4, .p (.data 1 b.length (b.map bt))), (5, .i i)], [], 1⟩) [] (fun i => i) ?_ ?_
  · refine ⟨rfl, ?_, trivial, rfl, rfl, trivial, fun i h => h⟩
    simp only [go_sem, ↓reduceIte, wordN]
    rfl
  · intro i hi
    rcases Nat.lt_or_ge i b.length with hin | hin
    · have hw : IntKind.i64.wrap ((i : Int) + 1) = ((i + 1 : Nat) : Int) := by rw [wrap_i64_id (by omega) (by omega)]; omega
      have hst := wordN_step b i (by omega)
      have hlt := wordN_nat b i (by omega)
      have hpw : 2 ^ (8 * i) ≤ 2 ^ 24 := Nat.pow_le_pow_right (by decide) (by omega)
      have hbo := bor_byte (wordN b i).toNat (b.getD i 0).toNat (by omega) (b.getD i 0).toNat_lt
      rw [← hst] at hbo
      generalize wordN b i = m at *
      simp only [go_sem, ↓reduceIte, hP, conv_u8_i64, hbo, hw, show ((i : Int) < (b.length : Int)) from by omega]
      refine ⟨by omega, by omega, hin, subG [] rfl ?_ trivial rfl rfl (Nat.zero_le _)⟩
      simp only [go_sem, ↓reduceIte]
    · obtain rfl : i = b.length := by omega
      have hc : ¬ ((b.length : Int) < (b.length : Int)) := by omega
      simp only [go_sem, ↓reduceIte, hP, hc]
      rfl
theorem master_c (d : DevM) (hv : VLen d.v.prs) : FPure Tryz.prog 106 [devA d] (.w (numM (vgetM 1 d.v.prs))) := by
  refine fpure_x hmix Tryz.func106 rfl (by kernel_rfl) Tryz.ntmps106 Tryz.results106 (by simp) (by simp [idsL, idsA]) [0, 1, 2] ?_; intro c hP h0 hE
  simp only [go_sem, ↓reduceIte, hP]
  first | refine xw_call hE (ks := [0, 1, 2]) (n := 2000) (by rw [hP]; exact number_c d.v 1 hv) ?_ | refine xd_call hE (ks := [0, 1, 2]) (n := 2000) (by rw [hP]; exact number_c d.v 1 hv) ?_
  simp only [go_sem, ↓reduceIte, hP]
theorem rmaster_c (d : DevM) (hv : VLen d.v.prs) (h8 : (vgetM 1 d.v.prs).length ≤ 8) : FPure Tryz.prog 17 [devA d] (.w (numM (vgetM 1 d.v.prs))) := by
  refine fpure_x hmix Tryz.func17 rfl (by kernel_rfl) Tryz.ntmps17 Tryz.results17 (by simp) (by simp [idsL, idsA]) [0, 1, 2] ?_; intro c hP h0 hE
  simp only [go_sem, ↓reduceIte, hP]
  first | refine xw_call hE (ks := [0, 1, 2]) (n := 2000) (by rw [hP]; exact rget_c d.v _ 1 hv.1 (fun x hx => by have := hv.2 x hx; omega)) ?_ | refine xd_call hE (ks := [0, 1, 2]) (n := 2000) (by rw [hP]; exact rget_c d.v _ 1 hv.1 (fun x hx => by have := hv.2 x hx; omega)) ?_
  simp only [go_sem, ↓reduceIte, hP]
  first | refine xw_call hE (ks := [0, 1, 2]) (n := 2000) (by rw [hP]; exact rwordG_c (vgetM 1 d.v.prs) _ rfl h8) ?_ | refine xd_call hE (ks := [0, 1, 2]) (n := 2000) (by rw [hP]; exact rwordG_c (vgetM 1 d.v.prs) _ rfl h8) ?_
  simp only [go_sem, ↓reduceIte, hP]
  rfl
def drawW (d : DevM) : UInt64 := derM (numM (vgetM 1 d.v.prs)) [100, 114, 97, 119] (IntKind.i64.wrap (((numM (vgetM 2 d.v.prs)).toNat * 1048576 : Nat) + band .i64 d.dr 1048575))
def drawD (d : DevM) : DevM := { d with dr := IntKind.i64.wrap (d.dr + 1) }
set_option maxRecDepth 100000 in
theorem draw_c (d : DevM) (hv : VLen d.v.prs) (h4 : (vgetM 2 d.v.prs).length ≤ 4) : FPure Tryz.prog 41 [devA d] (.tup [devA (drawD d), .w (drawW d)]) := by
  have hlt := wordN_nat (vgetM 2 d.v.prs) _ (show (vgetM 2 d.v.prs).length ≤ 8 by omega)
  have hpw : 2 ^ (8 * (vgetM 2 d.v.prs).length) ≤ 2 ^ 32 := Nat.pow_le_pow_right (by decide) (by omega)
  have hnm : (numM (vgetM 2 d.v.prs)).toNat < 4294967296 := by unfold numM; omega
  refine fpure_x hmix Tryz.func41 rfl (by kernel_rfl) Tryz.ntmps41 Tryz.results41 (by simp) (by simp [idsL, idsA]) [0, 1, 2, 3, 4, 5] ?_; intro c hP h0 hE
  simp only [go_sem, ↓reduceIte, hP]
  first | refine xw_call hE (ks := [0, 1, 2, 3, 4, 5]) (n := 2000) (by rw [hP]; exact number_c d.v 2 hv) ?_ | refine xd_call hE (ks := [0, 1, 2, 3, 4, 5]) (n := 2000) (by rw [hP]; exact number_c d.v 2 hv) ?_
  unfold drawW at hE
  generalize numM (vgetM 2 d.v.prs) = nb at *
  have hc : IntKind.i64.wrap (nb.toNat : Int) = nb.toNat := wrap_i64_id (by omega) (by omega)
  have hs : ishl .i64 (nb.toNat : Int) 20 = ((nb.toNat * 1048576 : Nat) : Int) := by
    show IntKind.i64.wrap ((nb.toNat : Int) * 2 ^ 20) = _
    rw [wrap_i64_id (by omega) (by omega)]; omega
  simp only [go_sem, ↓reduceIte, hP, hc]
  first | refine xw_call hE (ks := [0, 1, 2, 3, 4, 5]) (n := 2000) (by rw [hP]; exact master_c d hv) ?_ | refine xd_call hE (ks := [0, 1, 2, 3, 4, 5]) (n := 2000) (by rw [hP]; exact master_c d hv) ?_
  simp only [go_sem, ↓reduceIte, hP, hs]
  first | refine xw_call hE (ks := [0, 1, 2, 3, 4, 5]) (n := 2000) (by rw [hP]; exact derive_c (numM (vgetM 1 d.v.prs)) [100, 114, 97, 119] _ (by decide)) ?_ | refine xd_call hE (ks := [0, 1, 2, 3, 4, 5]) (n := 2000) (by rw [hP]; exact derive_c (numM (vgetM 1 d.v.prs)) [100, 114, 97, 119] _ (by decide)) ?_
  simp only [go_sem, ↓reduceIte, hP]
  exact ⟨by kernel_rfl, eqNL_refl _⟩
set_option maxRecDepth 100000 in
theorem rdraw_c (d : DevM) (hv : VLen d.v.prs) (h4 : (vgetM 2 d.v.prs).length ≤ 4) (h8 : (vgetM 1 d.v.prs).length ≤ 8) : FPure Tryz.prog 83 [devA d] (.tup [devA (drawD d), .w (drawW d)]) := by
  have hlt := wordN_nat (vgetM 2 d.v.prs) _ (show (vgetM 2 d.v.prs).length ≤ 8 by omega)
  have hpw : 2 ^ (8 * (vgetM 2 d.v.prs).length) ≤ 2 ^ 32 := Nat.pow_le_pow_right (by decide) (by omega)
  have hnm : (numM (vgetM 2 d.v.prs)).toNat < 4294967296 := by unfold numM; omega
  refine fpure_x hmix Tryz.func83 rfl (by kernel_rfl) Tryz.ntmps83 Tryz.results83 (by simp) (by simp [idsL, idsA]) [0, 1, 2, 3, 4] ?_; intro c hP h0 hE
  simp only [go_sem, ↓reduceIte, hP]
  first | refine xw_call hE (ks := [0, 1, 2, 3, 4]) (n := 2000) (by rw [hP]; exact rmaster_c d hv h8) ?_ | refine xd_call hE (ks := [0, 1, 2, 3, 4]) (n := 2000) (by rw [hP]; exact rmaster_c d hv h8) ?_
  simp only [go_sem, ↓reduceIte, hP]
  first | refine xw_call hE (ks := [0, 1, 2, 3, 4]) (n := 2000) (by rw [hP]; exact boots_c d.v hv h4) ?_ | refine xd_call hE (ks := [0, 1, 2, 3, 4]) (n := 2000) (by rw [hP]; exact boots_c d.v hv h4) ?_
  unfold drawW at hE
  generalize numM (vgetM 2 d.v.prs) = nb at *
  have hs : ishl .i64 (nb.toNat : Int) 20 = ((nb.toNat * 1048576 : Nat) : Int) := by
    show IntKind.i64.wrap ((nb.toNat : Int) * 2 ^ 20) = _
    rw [wrap_i64_id (by omega) (by omega)]; omega
  simp only [go_sem, ↓reduceIte, hP, hs]
  first | refine xw_call hE (ks := [0, 1, 2, 3, 4]) (n := 2000) (by rw [hP]; exact rderive_c (numM (vgetM 1 d.v.prs)) [100, 114, 97, 119] _ (by decide)) ?_ | refine xd_call hE (ks := [0, 1, 2, 3, 4]) (n := 2000) (by rw [hP]; exact rderive_c (numM (vgetM 1 d.v.prs)) [100, 114, 97, 119] _ (by decide)) ?_
  simp only [go_sem, ↓reduceIte, hP]
  exact ⟨by kernel_rfl, eqNL_refl _⟩
end Go.Proofs.YtebndjnkmcahaaaGreatDoor

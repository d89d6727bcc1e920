/-
  Switching a device on and off, and storing: both sides. Own work; no statement of the seat is proved here.
-/
import Derived.Test.YtebndjnkmcahaaaGreatDoorKe
import Derived.Test.YtebndjnkmcahaaaGreatDoorVk
namespace Go.Proofs.YtebndjnkmcahaaaGreatDoor
set_option linter.unusedSimpArgs false
set_option linter.unusedVariables false
open Go Go.Abs Go.RowKit

structure DR where
  d : DevM
  left : Int
  e : Int
def drAV (r : DR) : AV := .tup [devA r.d, .i r.left, .i r.e]
attribute [go_sem] drAV
/-- the device beside an error of the vault -/
def failM (d : DevM) (v : Vt) (e : Int) : DR := if e = 16 then ⟨offM d.fac d.now (flOf v.j), 0, 16⟩ else ⟨d, 0, e⟩
def beB (n : Nat) : List UInt8 := [UInt8.ofNat (n / 16777216), UInt8.ofNat (n / 65536), UInt8.ofNat (n / 256), UInt8.ofNat n]
def masterS : List UInt8 := [109, 97, 115, 116, 101, 114]
/-- what is stored at the boot with the number n -/
def bootL (f : FacM) (s : Store) (n : Nat) : Store :=
  if (vgetM 1 s).length = 0 then [(1, wordB (derM f.se masterS ((n * 1048576 : Nat) : Int)) 8), (2, beB n), (16, lencM ⟨0, f.af, f.ato, f.af⟩)] else [(2, beB n)]

theorem poffD_c (d : DevM) : FPure Tryz.prog 14 [devA d] (devA (offM d.fac d.now (flOf d.v.j))) := by
  refine fpure_x hmix Tryz.func14 rfl (by kernel_rfl) Tryz.ntmps14 Tryz.results14 (by simp) (by simp [idsL, idsA]) [0, 1, 2] ?_; intro c hP h0 hE
  simp only [go_sem, ↓reduceIte, hP]
  first | refine xw_call hE (ks := [0, 1, 2]) (n := 2000) (by rw [hP]; exact poff_c d.fac d.now (flOf d.v.j) _ rfl) ?_ | refine xd_call hE (ks := [0, 1, 2]) (n := 2000) (by rw [hP]; exact poff_c d.fac d.now (flOf d.v.j) _ rfl) ?_
  simp only [go_sem, ↓reduceIte, hP]
theorem roff_c (d : DevM) : FPure Tryz.prog 140 [devA d] (devA (offM d.fac d.now (flOf d.v.j))) := by
  refine fpure_x hmix Tryz.func140 rfl (by kernel_rfl) Tryz.ntmps140 Tryz.results140 (by simp) (by simp [idsL, idsA]) [0, 1, 2] ?_; intro c hP h0 hE
  simp only [go_sem, ↓reduceIte, hP]
  exact dv_eqI _ _ _ _ _ (eqP_refl _) (eqP_refl _) ⟨rfl, rfl⟩ ⟨rfl, rfl⟩
theorem pfailed_c (d : DevM) (v : Vt) (e : Int) : FPure Tryz.prog 37 [devA d, .agg (vtC v), .i e] (drAV (failM d v e)) := by
  refine fpure_x hmix Tryz.func37 rfl (by kernel_rfl) Tryz.ntmps37 Tryz.results37 (by simp) (by simp [idsL, idsA]) [0, 1, 2, 3, 4, 6, 7, 8, 10] ?_; intro c hP h0 hE
  obtain ⟨R, hR⟩ : ∃ R, failM d v e = R := ⟨_, rfl⟩; rw [hR] at hE; (try rw [hR])
  unfold failM at hR
  by_cases h : e = 16
  · rw [if_pos h] at hR
    subst hR
    simp only [go_sem, ↓reduceIte, hP, h]
    first | refine xw_call hE (ks := [0, 1, 2, 3, 4, 6, 7, 8, 10]) (n := 2000) (by rw [hP]; exact poff_c d.fac d.now (flOf v.j) _ rfl) ?_ | refine xd_call hE (ks := [0, 1, 2, 3, 4, 6, 7, 8, 10]) (n := 2000) (by rw [hP]; exact poff_c d.fac d.now (flOf v.j) _ rfl) ?_
    simp only [go_sem, ↓reduceIte, hP]
  · rw [if_neg h] at hR
    subst hR
    simp only [go_sem, ↓reduceIte, hP, h]
theorem rfailed_c (d : DevM) (v : Vt) (e : Int) : FPure Tryz.prog 79 [devA d, .agg (vtC v), .i e] (drAV (failM d v e)) := by
  refine fpure_x hmix Tryz.func79 rfl (by kernel_rfl) Tryz.ntmps79 Tryz.results79 (by simp) (by simp [idsL, idsA]) [0, 1, 2, 3, 4, 6, 7, 8, 10] ?_; intro c hP h0 hE
  obtain ⟨R, hR⟩ : ∃ R, failM d v e = R := ⟨_, rfl⟩; rw [hR] at hE; (try rw [hR])
  unfold failM at hR
  by_cases h : e = 16
  · rw [if_pos h] at hR
    subst hR
    simp only [go_sem, ↓reduceIte, hP, h]
    first | refine xw_call hE (ks := [0, 1, 2, 3, 4, 6, 7, 8, 10]) (n := 2000) (by rw [hP]; exact roff_c { d with v := v }) ?_ | refine xd_call hE (ks := [0, 1, 2, 3, 4, 6, 7, 8, 10]) (n := 2000) (by rw [hP]; exact roff_c { d with v := v }) ?_
    simp only [go_sem, ↓reduceIte, hP]
  · rw [if_neg h] at hR
    subst hR
    simp only [go_sem, ↓reduceIte, hP, h]
theorem pstart_c (x : UInt64) : FPure Tryz.prog 42 [.w x] (.agg [.w x, .b false, .w 0, .i 0, sv [], .i 0]) := by
  refine fpure_x hmix Tryz.func42 rfl (by kernel_rfl) Tryz.ntmps42 Tryz.results42 (by simp) (by simp [idsL, idsA]) [0, 2] ?_; intro c hP h0 hE
  simp only [go_sem, ↓reduceIte, hP]
  rfl
theorem rstart_c (x : UInt64) : FPure Tryz.prog 84 [.w x] (.agg [.w x, .b false, .w 0, .i 0, sv [], .i 0]) := by
  refine fpure_x hmix Tryz.func84 rfl (by kernel_rfl) Tryz.ntmps84 Tryz.results84 (by simp) (by simp [idsL, idsA]) [0, 2] ?_; intro c hP h0 hE
  simp only [go_sem, ↓reduceIte, hP]
  rfl
theorem shr_u64 (n k : Nat) (h : k ≤ 64) : ishr .u64 (n : Int) (k : Int) = ((n / 2 ^ k : Nat) : Int) := by
  show Int.fdiv (n : Int) (2 ^ (min (k : Int).toNat 64)) = _
  rw [Int.toNat_natCast, Nat.min_eq_left h, Int.fdiv_eq_ediv_of_nonneg _ (by have : (0 : Int) < 2 ^ k := Int.pow_pos (by decide); omega)]
  simp
theorem be_cells (n : Nat) : [AV.p (.v (.int .u8 (IntKind.u8.wrap (ishr .u64 (n : Int) 24)))), AV.p (.v (.int .u8 (IntKind.u8.wrap (ishr .u64 (n : Int) 16)))), AV.p (.v (.int .u8 (IntKind.u8.wrap (ishr .u64 (n : Int) 8)))), AV.p (.v (.int .u8 (IntKind.u8.wrap (n : Int))))] = cb (beB n) := by
  have h24 := shr_u64 n 24 (by decide)
  have h16 := shr_u64 n 16 (by decide)
  have h8 := shr_u64 n 8 (by decide)
  simp only [show ((24 : Nat) : Int) = 24 from rfl, show ((16 : Nat) : Int) = 16 from rfl, show ((8 : Nat) : Int) = 8 from rfl] at h24 h16 h8
  rw [h24, h16, h8, lo8, lo8, lo8, lo8]
  rfl
set_option maxHeartbeats 1000000 in
theorem bootPairs_c (f : FacM) (v : Vt) (n : Nat) (hv : VLen v.prs) (hn : n ≤ 4294967295) : FPure Tryz.prog 40 [.agg (facC f), .agg (vtC v), .p (.v (.int .u64 n))] (.p (PL (bootL f v.prs n))) := by
  refine fpure_x hmix Tryz.func40 rfl (by kernel_rfl) Tryz.ntmps40 Tryz.results40 (by simp) (by simp [idsL, idsA]) [0, 1, 2, 3, 4, 6, 7, 8, 9, 26] ?_; intro c hP h0 hE
  obtain ⟨R, hR⟩ : ∃ R, bootL f v.prs n = R := ⟨_, rfl⟩; rw [hR] at hE; (try rw [hR])
  unfold bootL at hR
  have hsh : ishl .u64 (n : Int) 20 = ((n * 1048576 : Nat) : Int) := by
    show IntKind.u64.wrap ((n : Int) * 2 ^ 20) = _
    rw [wrap_u64_id (by omega) (by omega)]; omega
  have hwi : IntKind.i64.wrap ((n * 1048576 : Nat) : Int) = ((n * 1048576 : Nat) : Int) := wrap_i64_id (by omega) (by omega)
  simp only [go_sem, ↓reduceIte, hP]
  simp only [be_cells]
  refine xw_frz hE (ks := [0, 1, 2, 3, 4, 6, 7, 8, 9, 26]) (n := 2000) 2 ?_ ?_
  · simp only [go_sem, ↓reduceIte]
    exact Nat.le_refl _
  simp only [go_sem, ↓reduceIte, hP]
  first | refine xw_call hE (ks := [0, 1, 2, 3, 4, 6, 7, 8, 9, 26]) (n := 2000) (by rw [hP]; exact vgetA_c v _ 1 hv.1 (fun x hx => by have := hv.2 x hx; omega)) ?_ | refine xd_call hE (ks := [0, 1, 2, 3, 4, 6, 7, 8, 9, 26]) (n := 2000) (by rw [hP]; exact vgetA_c v _ 1 hv.1 (fun x hx => by have := hv.2 x hx; omega)) ?_
  generalize vgetM 1 v.prs = b at *
  by_cases hb : b.length = 0
  · rw [if_pos hb] at hR
    simp only [go_sem, ↓reduceIte, hP, hb, hsh, hwi, show ¬ (((0 : Nat) : Int) > 0) from by omega]
    first | refine xw_call hE (ks := [0, 1, 2, 3, 4, 6, 7, 8, 9, 26]) (n := 2000) (by rw [hP]; exact derive_c f.se masterS _ (by decide)) ?_ | refine xd_call hE (ks := [0, 1, 2, 3, 4, 6, 7, 8, 9, 26]) (n := 2000) (by rw [hP]; exact derive_c f.se masterS _ (by decide)) ?_
    generalize derM f.se masterS ((n * 1048576 : Nat) : Int) = m at *
    simp only [go_sem, ↓reduceIte, hP]
    first | refine xw_callF hE (ks := [0, 1, 2, 3, 4, 6, 7, 8, 9, 26]) (n := 2000) (by simp only [go_sem, ↓reduceIte]; rfl) (by simp only [go_sem, ↓reduceIte]) rfl (by rw [hP]; exact words1_c m) (by simp only [go_sem, idsA, idsL, and_self]) ?_ | refine xd_callF hE (ks := [0, 1, 2, 3, 4, 6, 7, 8, 9, 26]) (n := 2000) (by simp only [go_sem, ↓reduceIte]; rfl) (by simp only [go_sem, ↓reduceIte]) rfl (by rw [hP]; exact words1_c m) (by simp only [go_sem, idsA, idsL, and_self]) ?_
    simp only [go_sem, ↓reduceIte, hP, words1]
    first | refine xw_call hE (ks := [0, 1, 2, 3, 4, 6, 7, 8, 9, 26]) (n := 2000) (by rw [hP]; exact lenc_c ⟨0, f.af, f.ato, f.af⟩) ?_ | refine xd_call hE (ks := [0, 1, 2, 3, 4, 6, 7, 8, 9, 26]) (n := 2000) (by rw [hP]; exact lenc_c ⟨0, f.af, f.ato, f.af⟩) ?_
    generalize lencM ⟨0, f.af, f.ato, f.af⟩ = le at *
    simp only [go_sem, ↓reduceIte, hP]
    subst hR
    refine ⟨by kernel_rfl, rfl, ?_⟩
    simp only [prCs_cons, prCs_nil, byP, wordB_len]
    rfl
  · rw [if_neg hb] at hR
    subst hR
    simp only [go_sem, ↓reduceIte, hP, show ((b.length : Int) > 0) from by omega]
    rfl
theorem masterB_c (d : DevM) (n : Int) : FPure Tryz.prog 81 [devA d, .i n] (.p (.data 1 8 ((wordB (derM d.fac.se masterS n) 8).map bt))) := by
  refine fpure_x hmix Tryz.func81 rfl (by kernel_rfl) Tryz.ntmps81 Tryz.results81 (by simp) (by simp [idsL, idsA]) [0, 1, 2, 4] ?_; intro c hP h0 hE
  simp only [go_sem, ↓reduceIte, hP]
  first | refine xw_call hE (ks := [0, 1, 2, 4]) (n := 2000) (by rw [hP]; exact rderive_c d.fac.se masterS n (by decide)) ?_ | refine xd_call hE (ks := [0, 1, 2, 4]) (n := 2000) (by rw [hP]; exact rderive_c d.fac.se masterS n (by decide)) ?_
  simp only [go_sem, ↓reduceIte, hP]
  first | refine xw_callF hE (ks := [0, 1, 2, 4]) (n := 2000) (by simp only [go_sem, ↓reduceIte]; rfl) (by simp only [go_sem, ↓reduceIte]) rfl (by rw [hP]; exact rwords1_c (derM d.fac.se masterS n)) (by simp only [go_sem, idsA, idsL, and_self]) ?_ | refine xd_callF hE (ks := [0, 1, 2, 4]) (n := 2000) (by simp only [go_sem, ↓reduceIte]; rfl) (by simp only [go_sem, ↓reduceIte]) rfl (by rw [hP]; exact rwords1_c (derM d.fac.se masterS n)) (by simp only [go_sem, idsA, idsL, and_self]) ?_
  simp only [go_sem, ↓reduceIte, hP, words1]
def dv0' : DR := ⟨dev0, 0, 0⟩
/-- Boot, as both sides do it, where the values of the vault have their lengths -/
def bootM (d : DevM) (now B : Int) : DR :=
  if d.on then ⟨d, 0, 18⟩ else
  if now < 0 ∨ now > 1099511627776 then ⟨d, 0, 9⟩ else
  let O := ropenM (flOf d.v.j) B
  if O.err ≠ 0 then failM d O.v O.err else
  let n := (numM (vgetM 2 O.v.prs)).toNat
  if n = 4294967295 then ⟨d, 0, 13⟩ else
  let P := rputM O.v (bootL d.fac O.v.prs (n + 1)) O.left
  if P.err ≠ 0 then failM d P.v P.err else
  let t := if d.now < now then now else d.now
  let x : DevM := ⟨d.fac, P.v, true, t, t, 0, 0, tok0, it0⟩
  ⟨{ drawD x with tok := { tok0 with sec := drawW x } }, P.left, 0⟩
/-- what Boot asks of the vaults that it meets -/
structure BootOk (d : DevM) (B : Int) : Prop where
  i64 : i64 B
  len : d.v.j.bs.length < 1000000000
  op : (ropenM (flOf d.v.j) B).err = 0 → VLen (ropenM (flOf d.v.j) B).v.prs ∧ (vgetM 2 (ropenM (flOf d.v.j) B).v.prs).length ≤ 4
  pu : ∀ n, (ropenM (flOf d.v.j) B).err = 0 → (rputM (ropenM (flOf d.v.j) B).v (bootL d.fac (ropenM (flOf d.v.j) B).v.prs n) (ropenM (flOf d.v.j) B).left).err = 0 →
    VLen (rputM (ropenM (flOf d.v.j) B).v (bootL d.fac (ropenM (flOf d.v.j) B).v.prs n) (ropenM (flOf d.v.j) B).left).v.prs ∧ (vgetM 2 (rputM (ropenM (flOf d.v.j) B).v (bootL d.fac (ropenM (flOf d.v.j) B).v.prs n) (ropenM (flOf d.v.j) B).left).v.prs).length ≤ 4 ∧
    (vgetM 1 (rputM (ropenM (flOf d.v.j) B).v (bootL d.fac (ropenM (flOf d.v.j) B).v.prs n) (ropenM (flOf d.v.j) B).left).v.prs).length ≤ 8
theorem lenc_le (x : Ls) : (lencM x).length ≤ 11 := by unfold lencM; split <;> simp [wordB_len]
theorem bootL_ok (f : FacM) (s : Store) (n : Nat) : (bootL f s n).length < 100 ∧ ∀ x, x ∈ bootL f s n → x.2.length < 1000 := by
  have := lenc_le ⟨0, f.af, f.ato, f.af⟩
  unfold bootL
  split
  · refine ⟨by simp, fun x hx => ?_⟩
    simp only [List.mem_cons, List.not_mem_nil, or_false] at hx
    rcases hx with rfl | rfl | rfl
    · simp [wordB_len]
    · simp [beB]
    · show (lencM _).length < 1000; omega
  · refine ⟨by simp, fun x hx => ?_⟩
    simp only [List.mem_cons, List.not_mem_nil, or_false] at hx
    subst hx
    simp [beB]

set_option maxRecDepth 100000 in
set_option maxHeartbeats 4000000 in
theorem pboot_c (d : DevM) (now B : Int) (h : BootOk d B) : FPure Tryz.prog 13 [devA d, .i now, .i B] (drAV (bootM d now B)) := by
  refine fpure_x hmix Tryz.func13 rfl (by kernel_rfl) Tryz.ntmps13 Tryz.results13 (by simp) (by simp [idsL, idsA]) [0, 1, 2, 3, 6, 7, 8, 9, 10, 11, 12, 13, 15, 22, 35, 46, 62] ?_; intro c hP h0 hE
  obtain ⟨R, hR⟩ : ∃ R, bootM d now B = R := ⟨_, rfl⟩; rw [hR] at hE; (try rw [hR])
  unfold bootM at hR
  by_cases hon : d.on = true
  · rw [if_pos hon] at hR
    subst hR
    simp only [go_sem, ↓reduceIte, hP, hon]
  rw [if_neg hon] at hR
  have hon' : d.on = false := by simpa using hon
  by_cases h1 : now < 0
  · rw [if_pos (.inl h1)] at hR
    subst hR
    simp only [go_sem, ↓reduceIte, hP, hon', h1]
  by_cases h2 : now > 1099511627776
  · rw [if_pos (.inr h2)] at hR
    subst hR
    simp only [go_sem, ↓reduceIte, hP, hon', h1, h2]
  rw [if_neg (by omega)] at hR
  simp only [go_sem, ↓reduceIte, hP, hon', h1, h2]
  first | refine xw_call hE (ks := [0, 1, 2, 3, 6, 7, 8, 9, 10, 11, 12, 13, 15, 22, 35, 46, 62]) (n := 2000) (by rw [hP]; exact vopen_c d.v.j.ps d.v.j.bs _ B rfl h.len h.i64) ?_ | refine xd_call hE (ks := [0, 1, 2, 3, 6, 7, 8, 9, 10, 11, 12, 13, 15, 22, 35, 46, 62]) (n := 2000) (by rw [hP]; exact vopen_c d.v.j.ps d.v.j.bs _ B rfl h.len h.i64) ?_
  rw [open_law, show (⟨d.v.j.ps, d.v.j.bs⟩ : Fl) = flOf d.v.j from rfl]
  have hol := ropen_len (flOf d.v.j) B h.i64 h.len
  have hof := ropen_left (flOf d.v.j) B h.i64 h.len
  have hop := h.op
  have hpu := h.pu
  have hlen : (flOf d.v.j).bs.length < 1000000000 := h.len
  generalize ropenM (flOf d.v.j) B = O at *
  simp only [go_sem, ↓reduceIte, hP]
  by_cases he : O.err = 0
  case neg =>
    rw [if_pos he] at hR ⊢
    subst hR
    first | refine xw_call hE (ks := [0, 1, 2, 3, 6, 7, 8, 9, 10, 11, 12, 13, 15, 22, 35, 46, 62]) (n := 2000) (by rw [hP]; exact pfailed_c d O.v O.err) ?_ | refine xd_call hE (ks := [0, 1, 2, 3, 6, 7, 8, 9, 10, 11, 12, 13, 15, 22, 35, 46, 62]) (n := 2000) (by rw [hP]; exact pfailed_c d O.v O.err) ?_
    simp only [go_sem, ↓reduceIte, hP]
  rw [if_neg (by omega)]
  rw [if_neg (by omega)] at hR
  obtain ⟨hvl, h24⟩ := hop he
  first | refine xw_call hE (ks := [0, 1, 2, 3, 6, 7, 8, 9, 10, 11, 12, 13, 15, 22, 35, 46, 62]) (n := 2000) (by rw [hP]; exact number_c O.v 2 hvl) ?_ | refine xd_call hE (ks := [0, 1, 2, 3, 6, 7, 8, 9, 10, 11, 12, 13, 15, 22, 35, 46, 62]) (n := 2000) (by rw [hP]; exact number_c O.v 2 hvl) ?_
  have hlt := wordN_nat (vgetM 2 O.v.prs) _ (show (vgetM 2 O.v.prs).length ≤ 8 by omega)
  have hpw : 2 ^ (8 * (vgetM 2 O.v.prs).length) ≤ 2 ^ 32 := Nat.pow_le_pow_right (by decide) (by omega)
  have hnm : (numM (vgetM 2 O.v.prs)).toNat < 4294967296 := by unfold numM; omega
  generalize hk : (numM (vgetM 2 O.v.prs)).toNat = k at *
  by_cases hmx : k = 4294967295
  · rw [if_pos hmx] at hR
    subst hR
    simp only [go_sem, ↓reduceIte, hP, hk, show ((k : Int) ≥ 4294967295) from by omega]
  rw [if_neg hmx] at hR
  have hw1 : IntKind.u64.wrap ((k : Int) + 1) = ((k + 1 : Nat) : Int) := by rw [wrap_u64_id (by omega) (by omega)]; omega
  simp only [go_sem, ↓reduceIte, hP, hk, show ¬ ((k : Int) ≥ 4294967295) from by omega, hw1]
  first | refine xw_call hE (ks := [0, 1, 2, 3, 6, 7, 8, 9, 10, 11, 12, 13, 15, 22, 35, 46, 62]) (n := 2000) (by rw [hP]; exact bootPairs_c d.fac O.v (k + 1) hvl (by omega)) ?_ | refine xd_call hE (ks := [0, 1, 2, 3, 6, 7, 8, 9, 10, 11, 12, 13, 15, 22, 35, 46, 62]) (n := 2000) (by rw [hP]; exact bootPairs_c d.fac O.v (k + 1) hvl (by omega)) ?_
  have hbl := bootL_ok d.fac O.v.prs (k + 1)
  have hpl := rput_len O.v (bootL d.fac O.v.prs (k + 1)) O.left hof (by omega) hbl.2 hbl.1
  have hpf := rput_left O.v (bootL d.fac O.v.prs (k + 1)) O.left hof (by omega) hbl.2 hbl.1
  have hpu := hpu (k + 1) he
  simp only [go_sem, ↓reduceIte, hP]
  first | refine xw_call hE (ks := [0, 1, 2, 3, 6, 7, 8, 9, 10, 11, 12, 13, 15, 22, 35, 46, 62]) (n := 2000) (by rw [hP]; exact vput_c O.v _ (bootL d.fac O.v.prs (k + 1)) O.left rfl (by omega) (by have := hbl.1; omega) (fun x hx => by have := hbl.2 x hx; omega) hof) ?_ | refine xd_call hE (ks := [0, 1, 2, 3, 6, 7, 8, 9, 10, 11, 12, 13, 15, 22, 35, 46, 62]) (n := 2000) (by rw [hP]; exact vput_c O.v _ (bootL d.fac O.v.prs (k + 1)) O.left rfl (by omega) (by have := hbl.1; omega) (fun x hx => by have := hbl.2 x hx; omega) hof) ?_
  rw [put_law]
  generalize rputM O.v (bootL d.fac O.v.prs (k + 1)) O.left = P at *
  simp only [go_sem, ↓reduceIte, hP]
  by_cases hpe : P.err = 0
  case neg =>
    rw [if_pos hpe] at hR ⊢
    subst hR
    refine ⟨by kernel_rfl, ?_⟩
    first | refine xw_call hE (ks := [0, 1, 2, 3, 6, 7, 8, 9, 10, 11, 12, 13, 15, 22, 35, 46, 62]) (n := 2000) (by rw [hP]; exact pfailed_c d P.v P.err) ?_ | refine xd_call hE (ks := [0, 1, 2, 3, 6, 7, 8, 9, 10, 11, 12, 13, 15, 22, 35, 46, 62]) (n := 2000) (by rw [hP]; exact pfailed_c d P.v P.err) ?_
    simp only [go_sem, ↓reduceIte, hP]
  rw [if_neg (by omega)]
  rw [if_neg (by omega)] at hR
  obtain ⟨hpv, hp2, hp1⟩ := hpu hpe
  refine ⟨by kernel_rfl, ?_⟩
  generalize ht : (if now > d.now then now else d.now) = t at *
  dsimp only at hR
  first | refine xw_call hE (ks := [0, 1, 2, 3, 6, 7, 8, 9, 10, 11, 12, 13, 15, 22, 35, 46, 62]) (n := 2000) (by rw [hP]; exact (draw_c ⟨d.fac, P.v, true, t, t, 0, 0, d.tok, it0⟩ hpv hp2).nil ⟨dv_eqI _ _ _ _ _ (eqP_refl _) (eqP_refl _) (eqP_refl _) ⟨rfl, rfl⟩, trivial⟩) ?_ | refine xd_call hE (ks := [0, 1, 2, 3, 6, 7, 8, 9, 10, 11, 12, 13, 15, 22, 35, 46, 62]) (n := 2000) (by rw [hP]; exact (draw_c ⟨d.fac, P.v, true, t, t, 0, 0, d.tok, it0⟩ hpv hp2).nil ⟨dv_eqI _ _ _ _ _ (eqP_refl _) (eqP_refl _) (eqP_refl _) ⟨rfl, rfl⟩, trivial⟩) ?_
  have hdw : drawW ⟨d.fac, P.v, true, t, t, 0, 0, d.tok, it0⟩ = drawW ⟨d.fac, P.v, true, t, t, 0, 0, tok0, it0⟩ := rfl
  rw [hdw]
  generalize drawW ⟨d.fac, P.v, true, t, t, 0, 0, tok0, it0⟩ = w at *
  simp only [go_sem, ↓reduceIte, hP]
  first | refine xw_call hE (ks := [0, 1, 2, 3, 6, 7, 8, 9, 10, 11, 12, 13, 15, 22, 35, 46, 62]) (n := 2000) (by rw [hP]; exact pstart_c w) ?_ | refine xd_call hE (ks := [0, 1, 2, 3, 6, 7, 8, 9, 10, 11, 12, 13, 15, 22, 35, 46, 62]) (n := 2000) (by rw [hP]; exact pstart_c w) ?_
  subst hR
  simp only [go_sem, ↓reduceIte, hP]
  exact eqNL_refl _
end Go.Proofs.YtebndjnkmcahaaaGreatDoor

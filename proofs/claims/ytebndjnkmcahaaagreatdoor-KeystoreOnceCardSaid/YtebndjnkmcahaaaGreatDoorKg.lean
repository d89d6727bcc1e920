/-
  Switching a device on: the reference. Own work; no statement of the seat is proved here.
-/
import Derived.Test.YtebndjnkmcahaaaGreatDoorKf
namespace Go.Proofs.YtebndjnkmcahaaaGreatDoor
set_option linter.unusedSimpArgs false
set_option linter.unusedVariables false
open Go Go.Abs Go.RowKit

theorem shr_i64 (n k : Nat) (h : k ≤ 64) : ishr .i64 (n : Int) (k : Int) = ((n / 2 ^ k : Nat) : Int) := by
  show Int.fdiv (n : Int) (2 ^ (min (k : Int).toNat 64)) = _
  rw [Int.toNat_natCast, Nat.min_eq_left h, Int.fdiv_eq_ediv_of_nonneg _ (by have : (0 : Int) < 2 ^ k := Int.pow_pos (by decide); omega)]
  simp
theorem be_cellsI (n : Nat) : [AV.p (.v (.int .u8 (IntKind.u8.wrap (ishr .i64 (n : Int) 24)))), AV.p (.v (.int .u8 (IntKind.u8.wrap (ishr .i64 (n : Int) 16)))), AV.p (.v (.int .u8 (IntKind.u8.wrap (ishr .i64 (n : Int) 8)))), AV.p (.v (.int .u8 (IntKind.u8.wrap (n : Int))))] = cb (beB n) := by
  have h24 := shr_i64 n 24 (by decide)
  have h16 := shr_i64 n 16 (by decide)
  have h8 := shr_i64 n 8 (by decide)
  simp only [show ((24 : Nat) : Int) = 24 from rfl, show ((16 : Nat) : Int) = 16 from rfl, show ((8 : Nat) : Int) = 8 from rfl] at h24 h16 h8
  rw [h24, h16, h8, lo8, lo8, lo8, lo8]
  rfl
set_option maxRecDepth 100000 in
set_option maxHeartbeats 4000000 in
theorem rboot_c (d : DevM) (now B : Int) (h : BootOk d B) : FPure Tryz.prog 31 [devA d, .i now, .i B] (drAV (bootM d now B)) := by
  refine fpure_x hmix Tryz.func31 rfl (by kernel_rfl) Tryz.ntmps31 Tryz.results31 (by simp) (by simp [idsL, idsA]) [0, 1, 2, 3, 6, 7, 8, 9, 10, 11, 12, 13, 14, 15, 16, 18, 25, 38, 49, 57, 82, 108] ?_; intro c hP h0 hE
  obtain ⟨R, hR⟩ : ∃ R, bootM d now B = R := ⟨_, rfl⟩; rw [hR] at hE; (try rw [hR])
  unfold bootM at hR
  by_cases hon : d.on = true
  · rw [if_pos hon] at hR
    subst hR
    simp only [go_sem, ↓reduceIte, hP, hon]
  rw [if_neg hon] at hR
  have hon' : d.on = false := by simpa using hon
  by_cases h1 : now < 0
  · rw [if_pos (.inl h1)] at hR
    subst hR
    simp only [go_sem, ↓reduceIte, hP, hon', h1]
  by_cases h2 : now > 1099511627776
  · rw [if_pos (.inr h2)] at hR
    subst hR
    simp only [go_sem, ↓reduceIte, hP, hon', h1, h2]
  rw [if_neg (by omega)] at hR
  simp only [go_sem, ↓reduceIte, hP, hon', h1, h2]
  first | refine xw_call hE (ks := [0, 1, 2, 3, 6, 7, 8, 9, 10, 11, 12, 13, 14, 15, 16, 18, 25, 38, 49, 57, 82, 108]) (n := 2000) (by rw [hP]; exact ropen_c d.v.j.ps d.v.j.bs _ B rfl h.len h.i64) ?_ | refine xd_call hE (ks := [0, 1, 2, 3, 6, 7, 8, 9, 10, 11, 12, 13, 14, 15, 16, 18, 25, 38, 49, 57, 82, 108]) (n := 2000) (by rw [hP]; exact ropen_c d.v.j.ps d.v.j.bs _ B rfl h.len h.i64) ?_
  rw [show (⟨d.v.j.ps, d.v.j.bs⟩ : Fl) = flOf d.v.j from rfl]
  have hol := ropen_len (flOf d.v.j) B h.i64 h.len
  have hof := ropen_left (flOf d.v.j) B h.i64 h.len
  have hop := h.op
  have hpu := h.pu
  have hlen : (flOf d.v.j).bs.length < 1000000000 := h.len
  generalize ropenM (flOf d.v.j) B = O at *
  simp only [go_sem, ↓reduceIte, hP]
  by_cases he : O.err = 0
  case neg =>
    rw [if_pos he] at hR ⊢
    subst hR
    first | refine xw_call hE (ks := [0, 1, 2, 3, 6, 7, 8, 9, 10, 11, 12, 13, 14, 15, 16, 18, 25, 38, 49, 57, 82, 108]) (n := 2000) (by rw [hP]; exact rfailed_c d O.v O.err) ?_ | refine xd_call hE (ks := [0, 1, 2, 3, 6, 7, 8, 9, 10, 11, 12, 13, 14, 15, 16, 18, 25, 38, 49, 57, 82, 108]) (n := 2000) (by rw [hP]; exact rfailed_c d O.v O.err) ?_
    simp only [go_sem, ↓reduceIte, hP]
  rw [if_neg (by omega)]
  rw [if_neg (by omega)] at hR
  obtain ⟨hvl, h24⟩ := hop he
  first | refine xw_call hE (ks := [0, 1, 2, 3, 6, 7, 8, 9, 10, 11, 12, 13, 14, 15, 16, 18, 25, 38, 49, 57, 82, 108]) (n := 2000) (by rw [hP]; exact boots_c O.v hvl h24) ?_ | refine xd_call hE (ks := [0, 1, 2, 3, 6, 7, 8, 9, 10, 11, 12, 13, 14, 15, 16, 18, 25, 38, 49, 57, 82, 108]) (n := 2000) (by rw [hP]; exact boots_c O.v hvl h24) ?_
  have hlt := wordN_nat (vgetM 2 O.v.prs) _ (show (vgetM 2 O.v.prs).length ≤ 8 by omega)
  have hpw : 2 ^ (8 * (vgetM 2 O.v.prs).length) ≤ 2 ^ 32 := Nat.pow_le_pow_right (by decide) (by omega)
  have hnm : (numM (vgetM 2 O.v.prs)).toNat < 4294967296 := by unfold numM; omega
  generalize hk : (numM (vgetM 2 O.v.prs)).toNat = k at *
  by_cases hmx : k = 4294967295
  · rw [if_pos hmx] at hR
    subst hR
    simp only [go_sem, ↓reduceIte, hP, hk, show ((k : Int) = 4294967295) from by omega]
  rw [if_neg hmx] at hR
  have hw1 : IntKind.i64.wrap ((k : Int) + 1) = ((k + 1 : Nat) : Int) := by rw [wrap_i64_id (by omega) (by omega)]; omega
  simp only [go_sem, ↓reduceIte, hP, hk, show ¬ ((k : Int) = 4294967295) from by omega, hw1]
  first | refine xw_call hE (ks := [0, 1, 2, 3, 6, 7, 8, 9, 10, 11, 12, 13, 14, 15, 16, 18, 25, 38, 49, 57, 82, 108]) (n := 2000) (by rw [hP]; exact rget_c O.v _ 1 hvl.1 (fun x hx => by have := hvl.2 x hx; omega)) ?_ | refine xd_call hE (ks := [0, 1, 2, 3, 6, 7, 8, 9, 10, 11, 12, 13, 14, 15, 16, 18, 25, 38, 49, 57, 82, 108]) (n := 2000) (by rw [hP]; exact rget_c O.v _ 1 hvl.1 (fun x hx => by have := hvl.2 x hx; omega)) ?_
  have hbl := bootL_ok d.fac O.v.prs (k + 1)
  have hpl := rput_len O.v (bootL d.fac O.v.prs (k + 1)) O.left hof (by omega) hbl.2 hbl.1
  have hpf := rput_left O.v (bootL d.fac O.v.prs (k + 1)) O.left hof (by omega) hbl.2 hbl.1
  have hpu := hpu (k + 1) he
  by_cases hb : (vgetM 1 O.v.prs).length = 0
  · have hL : bootL d.fac O.v.prs (k + 1) = [(1, wordB (derM d.fac.se masterS (((k + 1) * 1048576 : Nat) : Int)) 8), (2, beB (k + 1)), (16, lencM ⟨0, d.fac.af, d.fac.ato, d.fac.af⟩)] := by unfold bootL; rw [if_pos hb]
    have hsh : ishl .i64 ((k + 1 : Nat) : Int) 20 = (((k + 1) * 1048576 : Nat) : Int) := by
      show IntKind.i64.wrap (((k + 1 : Nat) : Int) * 2 ^ 20) = _
      rw [wrap_i64_id (by omega) (by omega)]; omega
    simp only [go_sem, ↓reduceIte, hP, hb, hsh]
    first | refine xw_call hE (ks := [0, 1, 2, 3, 6, 7, 8, 9, 10, 11, 12, 13, 14, 15, 16, 18, 25, 38, 49, 57, 82, 108]) (n := 2000) (by rw [hP]; exact masterB_c d _) ?_ | refine xd_call hE (ks := [0, 1, 2, 3, 6, 7, 8, 9, 10, 11, 12, 13, 14, 15, 16, 18, 25, 38, 49, 57, 82, 108]) (n := 2000) (by rw [hP]; exact masterB_c d _) ?_
    generalize hm : derM d.fac.se masterS (((k + 1) * 1048576 : Nat) : Int) = m at *
    simp only [go_sem, ↓reduceIte, hP]
    simp only [be_cellsI]
    refine xw_frz hE (ks := [0, 1, 2, 3, 6, 7, 8, 9, 10, 11, 12, 13, 14, 15, 16, 18, 25, 38, 49, 57, 82, 108]) (n := 2000) 5 ?_ ?_
    · simp only [go_sem, ↓reduceIte]
      exact Nat.le_refl _
    simp only [go_sem, ↓reduceIte, hP]
    first | refine xw_call hE (ks := [0, 1, 2, 3, 6, 7, 8, 9, 10, 11, 12, 13, 14, 15, 16, 18, 25, 38, 49, 57, 82, 108]) (n := 2000) (by rw [hP]; exact rlenc_c ⟨0, d.fac.af, d.fac.ato, d.fac.af⟩) ?_ | refine xd_call hE (ks := [0, 1, 2, 3, 6, 7, 8, 9, 10, 11, 12, 13, 14, 15, 16, 18, 25, 38, 49, 57, 82, 108]) (n := 2000) (by rw [hP]; exact rlenc_c ⟨0, d.fac.af, d.fac.ato, d.fac.af⟩) ?_
    generalize lencM ⟨0, d.fac.af, d.fac.ato, d.fac.af⟩ = le at *
    simp only [go_sem, ↓reduceIte, hP]
    first | refine xw_callF hE (ks := [0, 1, 2, 3, 6, 7, 8, 9, 10, 11, 12, 13, 14, 15, 16, 18, 25, 38, 49, 57, 82, 108]) (n := 2000) ?_ ?_ rfl (by rw [hP]; exact rput_c O.v _ (bootL d.fac O.v.prs (k + 1)) O.left rfl (by omega) (by omega) (by have := hbl.1; omega) (fun x hx => by have := hbl.2 x hx; omega) hof) (by simp only [go_sem, idsA, idsL, and_self]) ?_ | refine xd_callF hE (ks := [0, 1, 2, 3, 6, 7, 8, 9, 10, 11, 12, 13, 14, 15, 16, 18, 25, 38, 49, 57, 82, 108]) (n := 2000) ?_ ?_ rfl (by rw [hP]; exact rput_c O.v _ (bootL d.fac O.v.prs (k + 1)) O.left rfl (by omega) (by omega) (by have := hbl.1; omega) (fun x hx => by have := hbl.2 x hx; omega) hof) (by simp only [go_sem, idsA, idsL, and_self]) ?_
    · rw [hL]
      simp only [go_sem, ↓reduceIte, prCs_cons, prCs_nil, byP, wordB_len]
      exact ⟨rfl, rfl⟩
    · simp only [go_sem, ↓reduceIte]
    rw [← hL] at *
    generalize rputM O.v (bootL d.fac O.v.prs (k + 1)) O.left = P at *
    simp only [go_sem, ↓reduceIte, hP]
    by_cases hpe : P.err = 0
    case neg =>
      rw [if_pos hpe] at hR ⊢
      subst hR
      first | refine xw_call hE (ks := [0, 1, 2, 3, 6, 7, 8, 9, 10, 11, 12, 13, 14, 15, 16, 18, 25, 38, 49, 57, 82, 108]) (n := 2000) (by rw [hP]; exact rfailed_c d P.v P.err) ?_ | refine xd_call hE (ks := [0, 1, 2, 3, 6, 7, 8, 9, 10, 11, 12, 13, 14, 15, 16, 18, 25, 38, 49, 57, 82, 108]) (n := 2000) (by rw [hP]; exact rfailed_c d P.v P.err) ?_
      simp only [go_sem, ↓reduceIte, hP]
    rw [if_neg (by omega)]
    rw [if_neg (by omega)] at hR
    obtain ⟨hpv, hp2, hp1⟩ := hpu hpe
    generalize ht : (if now > d.now then now else d.now) = t at *
    dsimp only at hR
    first | refine xw_call hE (ks := [0, 1, 2, 3, 6, 7, 8, 9, 10, 11, 12, 13, 14, 15, 16, 18, 25, 38, 49, 57, 82, 108]) (n := 2000) (by rw [hP]; exact (rdraw_c ⟨d.fac, P.v, true, t, t, 0, 0, tok0, it0⟩ hpv hp2 hp1).nil ⟨dv_eqI _ _ _ _ _ (eqP_refl _) (eqP_refl _) (eqP_refl _) ⟨rfl, rfl⟩, trivial⟩) ?_ | refine xd_call hE (ks := [0, 1, 2, 3, 6, 7, 8, 9, 10, 11, 12, 13, 14, 15, 16, 18, 25, 38, 49, 57, 82, 108]) (n := 2000) (by rw [hP]; exact (rdraw_c ⟨d.fac, P.v, true, t, t, 0, 0, tok0, it0⟩ hpv hp2 hp1).nil ⟨dv_eqI _ _ _ _ _ (eqP_refl _) (eqP_refl _) (eqP_refl _) ⟨rfl, rfl⟩, trivial⟩) ?_
    generalize drawW ⟨d.fac, P.v, true, t, t, 0, 0, tok0, it0⟩ = w at *
    simp only [go_sem, ↓reduceIte, hP]
    first | refine xw_call hE (ks := [0, 1, 2, 3, 6, 7, 8, 9, 10, 11, 12, 13, 14, 15, 16, 18, 25, 38, 49, 57, 82, 108]) (n := 2000) (by rw [hP]; exact rstart_c w) ?_ | refine xd_call hE (ks := [0, 1, 2, 3, 6, 7, 8, 9, 10, 11, 12, 13, 14, 15, 16, 18, 25, 38, 49, 57, 82, 108]) (n := 2000) (by rw [hP]; exact rstart_c w) ?_
    subst hR
    simp only [go_sem, ↓reduceIte, hP]
    exact eqNL_refl _
  · have hL : bootL d.fac O.v.prs (k + 1) = [(2, beB (k + 1))] := by unfold bootL; rw [if_neg hb]
    simp only [go_sem, ↓reduceIte, hP, show ¬ (((vgetM 1 O.v.prs).length : Int) = 0) from by omega]
    simp only [be_cellsI]
    refine xw_frz hE (ks := [0, 1, 2, 3, 6, 7, 8, 9, 10, 11, 12, 13, 14, 15, 16, 18, 25, 38, 49, 57, 82, 108]) (n := 2000) 3 ?_ ?_
    · simp only [go_sem, ↓reduceIte]
      exact Nat.le_refl _
    simp only [go_sem, ↓reduceIte, hP]
    first | refine xw_callF hE (ks := [0, 1, 2, 3, 6, 7, 8, 9, 10, 11, 12, 13, 14, 15, 16, 18, 25, 38, 49, 57, 82, 108]) (n := 2000) ?_ ?_ rfl (by rw [hP]; exact rput_c O.v _ (bootL d.fac O.v.prs (k + 1)) O.left rfl (by omega) (by omega) (by have := hbl.1; omega) (fun x hx => by have := hbl.2 x hx; omega) hof) (by simp only [go_sem, idsA, idsL, and_self]) ?_ | refine xd_callF hE (ks := [0, 1, 2, 3, 6, 7, 8, 9, 10, 11, 12, 13, 14, 15, 16, 18, 25, 38, 49, 57, 82, 108]) (n := 2000) ?_ ?_ rfl (by rw [hP]; exact rput_c O.v _ (bootL d.fac O.v.prs (k + 1)) O.left rfl (by omega) (by omega) (by have := hbl.1; omega) (fun x hx => by have := hbl.2 x hx; omega) hof) (by simp only [go_sem, idsA, idsL, and_self]) ?_
    · rw [hL]
      simp only [go_sem, ↓reduceIte]
      rfl
    · simp only [go_sem, ↓reduceIte]
    rw [← hL] at *
    generalize rputM O.v (bootL d.fac O.v.prs (k + 1)) O.left = P at *
    simp only [go_sem, ↓reduceIte, hP]
    by_cases hpe : P.err = 0
    case neg =>
      rw [if_pos hpe] at hR ⊢
      subst hR
      first | refine xw_call hE (ks := [0, 1, 2, 3, 6, 7, 8, 9, 10, 11, 12, 13, 14, 15, 16, 18, 25, 38, 49, 57, 82, 108]) (n := 2000) (by rw [hP]; exact rfailed_c d P.v P.err) ?_ | refine xd_call hE (ks := [0, 1, 2, 3, 6, 7, 8, 9, 10, 11, 12, 13, 14, 15, 16, 18, 25, 38, 49, 57, 82, 108]) (n := 2000) (by rw [hP]; exact rfailed_c d P.v P.err) ?_
      simp only [go_sem, ↓reduceIte, hP]
    rw [if_neg (by omega)]
    rw [if_neg (by omega)] at hR
    obtain ⟨hpv, hp2, hp1⟩ := hpu hpe
    generalize ht : (if now > d.now then now else d.now) = t at *
    dsimp only at hR
    first | refine xw_call hE (ks := [0, 1, 2, 3, 6, 7, 8, 9, 10, 11, 12, 13, 14, 15, 16, 18, 25, 38, 49, 57, 82, 108]) (n := 2000) (by rw [hP]; exact (rdraw_c ⟨d.fac, P.v, true, t, t, 0, 0, tok0, it0⟩ hpv hp2 hp1).nil ⟨dv_eqI _ _ _ _ _ (eqP_refl _) (eqP_refl _) (eqP_refl _) ⟨rfl, rfl⟩, trivial⟩) ?_ | refine xd_call hE (ks := [0, 1, 2, 3, 6, 7, 8, 9, 10, 11, 12, 13, 14, 15, 16, 18, 25, 38, 49, 57, 82, 108]) (n := 2000) (by rw [hP]; exact (rdraw_c ⟨d.fac, P.v, true, t, t, 0, 0, tok0, it0⟩ hpv hp2 hp1).nil ⟨dv_eqI _ _ _ _ _ (eqP_refl _) (eqP_refl _) (eqP_refl _) ⟨rfl, rfl⟩, trivial⟩) ?_
    generalize drawW ⟨d.fac, P.v, true, t, t, 0, 0, tok0, it0⟩ = w at *
    simp only [go_sem, ↓reduceIte, hP]
    first | refine xw_call hE (ks := [0, 1, 2, 3, 6, 7, 8, 9, 10, 11, 12, 13, 14, 15, 16, 18, 25, 38, 49, 57, 82, 108]) (n := 2000) (by rw [hP]; exact rstart_c w) ?_ | refine xd_call hE (ks := [0, 1, 2, 3, 6, 7, 8, 9, 10, 11, 12, 13, 14, 15, 16, 18, 25, 38, 49, 57, 82, 108]) (n := 2000) (by rw [hP]; exact rstart_c w) ?_
    subst hR
    simp only [go_sem, ↓reduceIte, hP]
    exact eqNL_refl _
end Go.Proofs.YtebndjnkmcahaaaGreatDoor

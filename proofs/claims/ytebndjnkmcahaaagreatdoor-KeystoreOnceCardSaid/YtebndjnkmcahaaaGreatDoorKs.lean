/-
  The law KeystoreOnce: the contract of its function. Own work.
-/
import Derived.Test.YtebndjnkmcahaaaGreatDoorKq
namespace Go.Proofs.YtebndjnkmcahaaaGreatDoor
set_option linter.unusedSimpArgs false
set_option linter.unusedVariables false
open Go Go.Abs Go.RowKit

def utK (x : Int) : PV := .v (.int .u16 x)
theorem head_utK (l : List Int) (i : Nat) : headP (.v (.int .u16 0)) ((l.map utK).drop i) = utK (l.getD i 0) := by
  induction l generalizing i with
  | nil => simp [headP, utK]
  | cons b r ih => cases i with
    | zero => simp [headP]
    | succ i => simpa using ih i
theorem fresh_ps {f : Fl} {p k : Nat} (hv : VFl f p k) (h11 : (mountM f).err = 11) : (ropenM f (-1)).v.j.ps = (p : Int) := by
  obtain ⟨j, hj, hm, hvj, ht, htn, hps, hrec, hgen⟩ := format_fresh hv
  have hj' : rformatM f (-1) = ⟨j, -1, 0⟩ := by rw [← format_law, hj]
  unfold ropenM
  rw [if_pos h11, hj', if_neg (fun c => c rfl)]
  unfold ropenE
  rw [if_pos htn]
  exact hps
theorem booted_kd {f : FacM} (h : newE f = 0) (now : Int) : KD f (bootedM f now) 2 1 f.af := by
  obtain ⟨hb, -, -⟩ := newE_ok h
  have h5 : 512 ≤ f.ps ∧ f.ps ≤ 8192 := by unfold badF at hb; omega
  obtain ⟨hv, hbs, hps⟩ := blank_vfl h5.1 h5.2
  have h11 := blank_11 hv hbs
  obtain ⟨e1, e2⟩ := booted_prs h now
  obtain ⟨he, hok, hpr⟩ := fresh_ok hv h11
  have hfps := fresh_ps hv h11
  have hlf : (newFl f.ps 2).bs.length < 1000000000 := by rw [hbs, List.length_replicate]; omega
  have hi : i64 (-1) := by unfold i64; decide
  have hol := ropen_len (newFl f.ps 2) (-1) hi hlf
  have hlen := rput_len (ropenM (newFl f.ps 2) (-1)).v (freshL f 1) (-1) hi (by omega) (fun x hx => by rw [← freshL_is] at hx; exact (bootL_ok f [] 1).2 x hx) (by simp [freshL])
  have hpp : (rputM (ropenM (newFl f.ps 2) (-1)).v (freshL f 1) (-1)).v.j.ps = (ropenM (newFl f.ps 2) (-1)).v.j.ps := by
    rcases put_ok hok (by decide) (freshL f 1) (-1) with ⟨-, -, -, -, h6⟩ | ⟨-, -, -, h6, -⟩ | ⟨h7, -, -, -⟩
    · exact h6
    · exact h6
    · exact absurd (fresh_put hb 1).2.2.2.1 h7
  exact ⟨rfl, rfl, hpp.trans (hfps.trans (by omega)), Nat.lt_of_le_of_lt hlen.1 (Nat.lt_of_le_of_lt hol.1 hlf), e2, wordB (derM f.se masterS ((1 * 1048576 : Nat) : Int)) 8, 1, wordB_len _ _, Nat.le_refl _, e1⟩
theorem KD.mono {f : FacM} {d : DevM} {G H : Int} {N M : Nat} {k : Int} (h : KD f d G N k) (hg : G ≤ H) (hn : N ≤ M) : KD f d H M k := by
  obtain ⟨w, n, h1, h2, h3⟩ := h.st
  exact ⟨h.fac, h.on, h.ps, h.len, ⟨h.ok.mt, h.ok.pr, h.ok.so, Int.le_trans h.ok.gen hg⟩, w, n, h1, by omega, h3⟩
theorem KD.lease {f : FacM} (hb : ¬ badF f) {d : DevM} {G : Int} {N : Nat} {k : Int} (h : KD f d G N k) (h1 : f.af ≤ k) (h2 : k ≤ f.ato) : VLen d.v.prs ∧ leasesM d.v.prs = [(0, ⟨0, f.af, f.ato, k⟩)] := by
  obtain ⟨w, n, hw, -, hp⟩ := h.st
  rw [hp]
  exact ⟨kS_vlen hw, kS_leases (klease_ok hb h1 h2)⟩
set_option maxHeartbeats 4000000 in
theorem once_c (n : Int) (l : List Int) (hll : l.length ≤ 9223372036854775807) (hlu : ∀ x, x ∈ l → 0 ≤ x ∧ x ≤ 65535) : FPure Tryz.prog 4 [.i n, .p (.data 1 l.length (l.map utK))] (.b true) := by
  refine fpure_x hmix Tryz.func4 rfl (by kernel_rfl) Tryz.ntmps4 Tryz.results4 (by simp) (by simp [idsL, idsA]) [0, 1, 4, 5, 6, 7, 8, 9, 11, 12, 14, 26, 44, 54, 65, 78, 87] ?_; intro c hP h0 hE
  simp only [go_sem, ↓reduceIte, hP]
  first | refine xw_call hE (ks := [0, 1, 4, 5, 6, 7, 8, 9, 11, 12, 14, 26, 44, 54, 65, 78, 87]) (n := 2000) (by rw [hP]; exact start_c (band .i64 n 65535)) ?_ | refine xd_call hE (ks := [0, 1, 4, 5, 6, 7, 8, 9, 11, 12, 14, 26, 44, 54, 65, 78, 87]) (n := 2000) (by rw [hP]; exact start_c (band .i64 n 65535)) ?_
  have he := fac_ok (band .i64 n 65535)
  generalize facM (band .i64 n 65535) = f at *
  have hb := (newE_ok he).1
  have hbad := hb
  unfold badF at hbad
  have hkd := booted_kd he (band .i64 (band .i64 n 65535) 7)
  generalize bootedM f (band .i64 (band .i64 n 65535) 7) = d0 at *
  simp only [go_sem, ↓reduceIte, hP]
  refine xw_loop hE h0 [0, 1, 4, 5, 6, 7, 8, 9, 11, 12, 14, 26, 44, 54, 65, 78, 87] (α := { a : Nat × DevM × Int × Int // a.1 ≤ l.length ∧ a.1 ≤ 12 ∧ KD f a.2.1 (2 + 3 * a.1) (1 + a.1) a.2.2.2 ∧ -1 ≤ a.2.2.1 ∧ a.2.2.1 < a.2.2.2 ∧ f.af ≤ a.2.2.2 ∧ a.2.2.2 ≤ f.ato }) (fun a => ⟨90, [(1, .p (.data 1 l.length (l.map utK))), (5, .ptr 0 0), (6, .i a.1.2.2.1), (7, .i a.1.1)], [(0, some ⟨43, dvC (devP a.1.2.1)⟩)], 1⟩) (fun a => l.length - a.1.1) ⟨(0, d0, -1, f.af), by simp only; exact ⟨Nat.zero_le _, by decide, by simpa using hkd, by decide, by omega, Int.le_refl _, by omega⟩⟩ [] (fun i => i) ?_ ?_
  · refine ⟨rfl, ?_, ?_, rfl, rfl, trivial, fun i h => h⟩
    · simp only [go_sem, ↓reduceIte]
    · simp only [go_sem, ↓reduceIte]
  rintro ⟨⟨i, d, la, k⟩, hi, hi12, hd, hla, hlk, hk1, hk2⟩
  dsimp only at hi hi12 hd hla hlk hk1 hk2 ⊢
  rcases Nat.lt_or_ge i l.length with hin | hin
  case inr =>
    obtain rfl : i = l.length := by omega
    simp only [go_sem, ↓reduceIte, hP, show ¬ ((l.length : Int) < (l.length : Int)) from by omega]
    first | refine xw_call hE (ks := [0, 1, 4, 5, 6, 7, 8, 9, 11, 12, 14, 26, 44, 54, 65, 78, 87]) (n := 2000) (by rw [hP]; exact awake17_c) ?_ | refine xd_call hE (ks := [0, 1, 4, 5, 6, 7, 8, 9, 11, 12, 14, 26, 44, 54, 65, 78, 87]) (n := 2000) (by rw [hP]; exact awake17_c) ?_
    simp only [go_sem, ↓reduceIte, hP]
  by_cases h12 : i < 12
  case neg =>
    simp only [go_sem, ↓reduceIte, hP, show ((i : Int) < (l.length : Int)) from by omega, show ¬ ((i : Int) < 12) from by omega]
    first | refine xw_call hE (ks := [0, 1, 4, 5, 6, 7, 8, 9, 11, 12, 14, 26, 44, 54, 65, 78, 87]) (n := 2000) (by rw [hP]; exact awake17_c) ?_ | refine xd_call hE (ks := [0, 1, 4, 5, 6, 7, 8, 9, 11, 12, 14, 26, 44, 54, 65, 78, 87]) (n := 2000) (by rw [hP]; exact awake17_c) ?_
    simp only [go_sem, ↓reduceIte, hP]
  obtain ⟨hvl, hls⟩ := hd.lease hb hk1 hk2
  have hmem : l.getD i 0 ∈ l := by rw [show l.getD i 0 = l[i]'hin from by simp [List.getD_eq_getElem?_getD, hin]]; exact List.getElem_mem _
  have hlx := hlu _ hmem
  have hx := head_utK l i
  generalize l.getD i 0 = x at *
  simp only [go_sem, ↓reduceIte, hP, show ((i : Int) < (l.length : Int)) from by omega, show ((i : Int) < 12) from by omega, hx, utK]
  -- BODY
  refine ⟨by omega, by omega, ?_⟩
  have hB : i64 (IntKind.i64.wrap (IntKind.i64.wrap (band .u16 x 127) - 40)) := by
    rw [IntKind.wrap_i64 (IntKind.i64.wrap (band .u16 x 127) - 40)]
    unfold i64
    omega
  generalize IntKind.i64.wrap (IntKind.i64.wrap (band .u16 x 127) - 40) = B at *
  first | refine xw_call hE (ks := [0, 1, 4, 5, 6, 7, 8, 9, 11, 12, 14, 26, 44, 54, 65, 78, 87]) (n := 2000) (by rw [hP]; exact preserve_c d ⟨0, f.af, f.ato, k⟩ [] B hvl hls (klease_ok hb hk1 hk2) hd.len hB) ?_ | refine xd_call hE (ks := [0, 1, 4, 5, 6, 7, 8, 9, 11, 12, 14, 26, 44, 54, 65, 78, 87]) (n := 2000) (by rw [hP]; exact preserve_c d ⟨0, f.af, f.ato, k⟩ [] B hvl hls (klease_ok hb hk1 hk2) hd.len hB) ?_
  have hres := reserve_ok hb hd (by omega) hk1 hk2 B hB
  generalize reserveM d ⟨0, f.af, f.ato, k⟩ B = R at *
  have hw : IntKind.i64.wrap ((i : Int) + 1) = ((i + 1 : Nat) : Int) := by rw [wrap_i64_id (by omega) (by omega)]; omega
  have hboot : ∀ g t y k', g = f → KF f y (2 + 3 * (i : Int) + 1) (1 + i) k' → f.af ≤ k' → k' ≤ f.ato → BootOk (offM g t y) (-1) ∧ (bootM (offM g t y) 1 (-1)).e = 0 ∧ KD f (bootM (offM g t y) 1 (-1)).d (2 + 3 * (i : Int) + 1 + 2) (1 + i + 1) k' :=
    fun g t y k' hg h h1 h2 => by rw [hg]; exact boot_ok hb h (by omega) (by omega) h1 h2
  have hdo := hd.on
  have hdf := hd.fac
  have hfb : f.af ≥ 0 := by omega
  rcases hres with ⟨e1, e2⟩ | ⟨e1, e2, e3, e4⟩ | ⟨e1, e2, y, k', e3, e4, e5, e6⟩
  · by_cases hs : band .u16 (ishr .u16 x 7) 3 = 3
    · simp only [go_sem, ↓reduceIte, hP, e1, e2, hdo, hw, hx, utK, hs]
      refine ⟨by kernel_rfl, ⟨by omega, by omega⟩, by omega, ?_⟩
      first | refine xw_call hE (ks := [0, 1, 4, 5, 6, 7, 8, 9, 11, 12, 14, 26, 44, 54, 65, 78, 87]) (n := 2000) (by rw [hP]; exact poffD_c d) ?_ | refine xd_call hE (ks := [0, 1, 4, 5, 6, 7, 8, 9, 11, 12, 14, 26, 44, 54, 65, 78, 87]) (n := 2000) (by rw [hP]; exact poffD_c d) ?_
      obtain ⟨b1, b2, b3⟩ := hboot (d).fac (d).now (flOf (d).v.j) k hdf (hd.mono (by omega) (Nat.le_refl _)).kf hk1 hk2
      simp only [go_sem, ↓reduceIte, hP]
      first | refine xw_call hE (ks := [0, 1, 4, 5, 6, 7, 8, 9, 11, 12, 14, 26, 44, 54, 65, 78, 87]) (n := 2000) (by rw [hP]; exact pboot_c (offM (d).fac (d).now (flOf (d).v.j)) 1 (-1) b1) ?_ | refine xd_call hE (ks := [0, 1, 4, 5, 6, 7, 8, 9, 11, 12, 14, 26, 44, 54, 65, 78, 87]) (n := 2000) (by rw [hP]; exact pboot_c (offM (d).fac (d).now (flOf (d).v.j)) 1 (-1) b1) ?_
      generalize bootM (offM (d).fac (d).now (flOf (d).v.j)) 1 (-1) = b at *
      simp only [go_sem, ↓reduceIte, hP, b2, hw]
      refine ⟨⟨(i + 1, b.d, la, k), hin, h12, (b3).mono (by first | omega | (dsimp only; omega)) (by first | omega | (dsimp only; omega)), hla, hlk, hk1, hk2⟩, by first | omega | (dsimp only; omega), subG [0] rfl ?_ ?_ rfl rfl (Nat.le_refl _)⟩
      · simp only [go_sem, ↓reduceIte]
      · simp only [go_sem, ↓reduceIte]
    · simp only [go_sem, ↓reduceIte, hP, e1, e2, hdo, hw, hx, utK, hs]
      refine ⟨by kernel_rfl, ⟨by omega, by omega⟩, by omega, ⟨⟨(i + 1, d, la, k), hin, h12, (hd).mono (by first | omega | (dsimp only; omega)) (by first | omega | (dsimp only; omega)), hla, hlk, hk1, hk2⟩, by first | omega | (dsimp only; omega), subG [0] rfl ?_ ?_ rfl rfl (Nat.le_refl _)⟩⟩
      · simp only [go_sem, ↓reduceIte]
      · simp only [go_sem, ↓reduceIte]
  · have e4o := e4.on
    have e4f := e4.fac
    by_cases hs : band .u16 (ishr .u16 x 7) 3 = 3
    · simp only [go_sem, ↓reduceIte, hP, e1, e2, hdf, show ¬ k ≤ la from by omega, show ¬ k ≥ f.ato from by omega, e4o, hw, hx, utK, hs]
      refine ⟨by kernel_rfl, ⟨by omega, by omega⟩, by omega, ?_⟩
      first | refine xw_call hE (ks := [0, 1, 4, 5, 6, 7, 8, 9, 11, 12, 14, 26, 44, 54, 65, 78, 87]) (n := 2000) (by rw [hP]; exact poffD_c R.d) ?_ | refine xd_call hE (ks := [0, 1, 4, 5, 6, 7, 8, 9, 11, 12, 14, 26, 44, 54, 65, 78, 87]) (n := 2000) (by rw [hP]; exact poffD_c R.d) ?_
      obtain ⟨b1, b2, b3⟩ := hboot (R.d).fac (R.d).now (flOf (R.d).v.j) (k + 1) e4f e4.kf (by omega) (by omega)
      simp only [go_sem, ↓reduceIte, hP]
      first | refine xw_call hE (ks := [0, 1, 4, 5, 6, 7, 8, 9, 11, 12, 14, 26, 44, 54, 65, 78, 87]) (n := 2000) (by rw [hP]; exact pboot_c (offM (R.d).fac (R.d).now (flOf (R.d).v.j)) 1 (-1) b1) ?_ | refine xd_call hE (ks := [0, 1, 4, 5, 6, 7, 8, 9, 11, 12, 14, 26, 44, 54, 65, 78, 87]) (n := 2000) (by rw [hP]; exact pboot_c (offM (R.d).fac (R.d).now (flOf (R.d).v.j)) 1 (-1) b1) ?_
      generalize bootM (offM (R.d).fac (R.d).now (flOf (R.d).v.j)) 1 (-1) = b at *
      simp only [go_sem, ↓reduceIte, hP, b2, hw]
      refine ⟨⟨(i + 1, b.d, k, (k + 1)), hin, h12, (b3).mono (by first | omega | (dsimp only; omega)) (by first | omega | (dsimp only; omega)), by first | omega | (dsimp only; omega), by first | omega | (dsimp only; omega), by first | omega | (dsimp only; omega), by first | omega | (dsimp only; omega)⟩, by first | omega | (dsimp only; omega), subG [0] rfl ?_ ?_ rfl rfl (Nat.le_refl _)⟩
      · simp only [go_sem, ↓reduceIte]
      · simp only [go_sem, ↓reduceIte]
    · simp only [go_sem, ↓reduceIte, hP, e1, e2, hdf, show ¬ k ≤ la from by omega, show ¬ k ≥ f.ato from by omega, e4o, hw, hx, utK, hs]
      refine ⟨by kernel_rfl, ⟨by omega, by omega⟩, by omega, ⟨⟨(i + 1, R.d, k, (k + 1)), hin, h12, (e4).mono (by first | omega | (dsimp only; omega)) (by first | omega | (dsimp only; omega)), by first | omega | (dsimp only; omega), by first | omega | (dsimp only; omega), by first | omega | (dsimp only; omega), by first | omega | (dsimp only; omega)⟩, by first | omega | (dsimp only; omega), subG [0] rfl ?_ ?_ rfl rfl (Nat.le_refl _)⟩⟩
      · simp only [go_sem, ↓reduceIte]
      · simp only [go_sem, ↓reduceIte]
  · simp only [go_sem, ↓reduceIte, hP, e1, e3, show (offM f d.now y).on = false from rfl, hw]
    refine ⟨by kernel_rfl, ?_⟩
    first | refine xw_call hE (ks := [0, 1, 4, 5, 6, 7, 8, 9, 11, 12, 14, 26, 44, 54, 65, 78, 87]) (n := 2000) (by rw [hP]; exact poffD_c (offM f d.now y)) ?_ | refine xd_call hE (ks := [0, 1, 4, 5, 6, 7, 8, 9, 11, 12, 14, 26, 44, 54, 65, 78, 87]) (n := 2000) (by rw [hP]; exact poffD_c (offM f d.now y)) ?_
    obtain ⟨b1, b2, b3⟩ := hboot ((offM f d.now y)).fac ((offM f d.now y)).now (flOf ((offM f d.now y)).v.j) k' rfl e6 (by omega) e5
    simp only [go_sem, ↓reduceIte, hP]
    first | refine xw_call hE (ks := [0, 1, 4, 5, 6, 7, 8, 9, 11, 12, 14, 26, 44, 54, 65, 78, 87]) (n := 2000) (by rw [hP]; exact pboot_c (offM ((offM f d.now y)).fac ((offM f d.now y)).now (flOf ((offM f d.now y)).v.j)) 1 (-1) b1) ?_ | refine xd_call hE (ks := [0, 1, 4, 5, 6, 7, 8, 9, 11, 12, 14, 26, 44, 54, 65, 78, 87]) (n := 2000) (by rw [hP]; exact pboot_c (offM ((offM f d.now y)).fac ((offM f d.now y)).now (flOf ((offM f d.now y)).v.j)) 1 (-1) b1) ?_
    generalize bootM (offM ((offM f d.now y)).fac ((offM f d.now y)).now (flOf ((offM f d.now y)).v.j)) 1 (-1) = b at *
    simp only [go_sem, ↓reduceIte, hP, b2, hw]
    refine ⟨⟨(i + 1, b.d, la, k'), hin, h12, (b3).mono (by first | omega | (dsimp only; omega)) (by first | omega | (dsimp only; omega)), hla, by first | omega | (dsimp only; omega), by first | omega | (dsimp only; omega), e5⟩, by first | omega | (dsimp only; omega), subG [0] rfl ?_ ?_ rfl rfl (Nat.le_refl _)⟩
    · simp only [go_sem, ↓reduceIte]
    · simp only [go_sem, ↓reduceIte]
end Go.Proofs.YtebndjnkmcahaaaGreatDoor

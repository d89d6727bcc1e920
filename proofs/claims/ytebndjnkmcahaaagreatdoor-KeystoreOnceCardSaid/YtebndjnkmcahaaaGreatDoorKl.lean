/- joined of several texts; own work; no statement of the seat is proved but in the last -/
import Derived.Test.YtebndjnkmcahaaaGreatDoorKi
/-
  The resident credentials of a device. Own work; no statement of the seat is proved here.
-/
section
namespace Go.Proofs.YtebndjnkmcahaaaGreatDoor
set_option linter.unusedSimpArgs false
set_option linter.unusedVariables false
open Go Go.Abs Go.RowKit

/-- the credentials that were read with their numbers, out of what reading each key gave -/
def crsN (D : Nat → CR) (n : Nat) : List (Nat × Cr) := (List.range n).filterMap fun i => if (D i).e = 0 then some (i, (D i).x) else none
theorem crsN_succ (D : Nat → CR) (n : Nat) : crsN D (n + 1) = if (D n).e = 0 then crsN D n ++ [(n, (D n).x)] else crsN D n := by
  unfold crsN
  rw [List.range_succ, List.filterMap_append]
  split
  · rename_i h; simp [h]
  · rename_i h; simp [h]
theorem crsN_len (D : Nat → CR) (n : Nat) : (crsN D n).length ≤ n := by
  have := List.length_filterMap_le (fun i => if (D i).e = 0 then some (i, (D i).x) else none) (List.range n)
  unfold crsN
  simpa using this
def ncP (p : Nat × Cr) : List PV := .v (.int .i64 p.1) :: crP p.2
def ncPs (l : List (Nat × Cr)) : List PV := l.flatMap ncP
def ncA (l : List (Nat × Cr)) : List AV := (ncPs l).map .p
theorem ncA_snoc (l : List (Nat × Cr)) (p : Nat × Cr) : ncA l ++ [.i p.1, sv p.2.rp, sv p.2.us, sv p.2.nm, .w p.2.sd, .i p.2.hg, .b p.2.rs, .i p.2.pt, .b p.2.sh, .b p.2.bk] = ncA (l ++ [p]) := by simp [ncA, ncPs, ncP, crP]
theorem ncPs_len (l : List (Nat × Cr)) : (ncPs l).length = l.length * 10 := by
  induction l with
  | nil => rfl
  | cons p l ih => simp only [ncPs, List.flatMap_cons, List.length_append, List.length_cons] at ih ⊢; rw [ih]; simp [ncP, crP]; omega
theorem ncA_len (l : List (Nat × Cr)) : (ncA l).length = l.length * 10 := by unfold ncA; rw [List.length_map, ncPs_len]
theorem ncA_view (h : Heap) (S : List Nat) (σ : Nat → Nat) (l : List (Nat × Cr)) : viewAs h S σ (ncA l) (ncA l) := viewAs_pure h S σ _

set_option maxHeartbeats 4000000 in
theorem collectC_c (d : DevM) (D : Nat → CR) (hv : VLen d.v.prs) (hD : ∀ i : Nat, i < 8 → FPure Tryz.prog 130 [.p (.data 1 (vgetM (64 + (i : Int)) d.v.prs).length ((vgetM (64 + (i : Int)) d.v.prs).map bt))] (crAV (D i))) : FPure Tryz.prog 129 [devA d, .i 64, .i 8, .p (.v (.func (.func 130) #[] #[]))] (.p (.data 10 (crsN D 8).length (ncPs (crsN D 8)))) := by
  refine fpure_x hmix Tryz.func129 rfl (by kernel_rfl) Tryz.ntmps129 Tryz.results129 (by simp) (by simp [idsL, idsA]) [0, 1, 2, 3, 4, 8, 9, 10, 11, 12, 13, 14, 15, 29] ?_; intro c hP h0 hE
  simp only [go_sem, ↓reduceIte, hP]
  refine saw_new 183 ?_
  refine xw_for hE h0 [0, 1, 2, 3, 4, 8, 9, 10, 11, 12, 13, 14, 15, 29] 8 (fun i => ⟨38, [(1, .i 64), (3, .p (.v (.func (.func 130) #[] #[]))), (4, .ptr 0 0), (9, .sl 1 0 (crsN D i).length 10), (13, .i 8), (14, .i i)], [(1, some ⟨183, ncA (crsN D i)⟩), (0, some ⟨43, dvC (devP d)⟩)], 2⟩) [] (fun i => i) ?_ ?_
  · refine ⟨rfl, ?_, ?_, rfl, rfl, trivial, fun i h => h⟩
    · simp only [go_sem, ↓reduceIte]
      rfl
    · simp only [go_sem, ↓reduceIte]
      exact (show viewAs _ _ _ [] [] from by simp [viewAs])
  · intro i hi
    rcases Nat.lt_or_ge i 8 with hin | hin
    · have hw : IntKind.i64.wrap ((i : Int) + 1) = ((i + 1 : Nat) : Int) := by rw [wrap_i64_id (by omega) (by omega)]; omega
      have hk : IntKind.i64.wrap (64 + (i : Int)) = 64 + (i : Int) := wrap_i64_id (by omega) (by omega)
      have hs := crsN_succ D i
      have hll := crsN_len D i
      simp only [go_sem, ↓reduceIte, hP, hk, show ((i : Int) < 8) from by omega]
      first | refine xw_call hE (ks := [0, 1, 2, 3, 4, 8, 9, 10, 11, 12, 13, 14, 15, 29]) (n := 2000) (by rw [hP]; exact vgetA_c d.v _ (64 + (i : Int)) hv.1 (fun x hx => by have := hv.2 x hx; omega)) ?_ | refine xd_call hE (ks := [0, 1, 2, 3, 4, 8, 9, 10, 11, 12, 13, 14, 15, 29]) (n := 2000) (by rw [hP]; exact vgetA_c d.v _ (64 + (i : Int)) hv.1 (fun x hx => by have := hv.2 x hx; omega)) ?_
      have hg := hv.get (64 + (i : Int))
      have hDi := hD i hin
      generalize hb : vgetM (64 + (i : Int)) d.v.prs = b at *
      simp only [go_sem, ↓reduceIte, hP]
      first | refine xw_call hE (ks := [0, 1, 2, 3, 4, 8, 9, 10, 11, 12, 13, 14, 15, 29]) (n := 2000) (by rw [hP]; exact hDi) ?_ | refine xd_call hE (ks := [0, 1, 2, 3, 4, 8, 9, 10, 11, 12, 13, 14, 15, 29]) (n := 2000) (by rw [hP]; exact hDi) ?_
      clear hDi
      generalize D i = L at *
      generalize hN : crsN D i = N at *
      generalize crsN D (i + 1) = N' at *
      by_cases he : L.e = 0
      · rw [if_pos he] at hs
        subst hs
        simp only [go_sem, ↓reduceIte, hP, he, hw]
        refine ⟨⟨ncA_len N, by omega, by omega⟩, hin, subG [0, 4] rfl ?_ ?_ rfl rfl (Nat.le_refl _)⟩
        · simp only [go_sem, ↓reduceIte]
        · rw [ncA_snoc N (i, L.x)]
          simp only [go_sem, ↓reduceIte]
          exact ncA_view _ _ _ _
      · rw [if_neg he] at hs
        subst hs
        simp only [go_sem, ↓reduceIte, hP, he, hw]
        refine ⟨hin, subG [0, 1] rfl ?_ ?_ rfl rfl (Nat.le_refl _)⟩
        · simp only [go_sem, ↓reduceIte]
        · simp only [go_sem, ↓reduceIte]
          exact ncA_view _ _ _ _
    · obtain rfl : i = 8 := by omega
      have hll := ncA_len (crsN D 8)
      simp only [go_sem, ↓reduceIte, hP, show ¬ ((8 : Int) < 8) from by omega]
      rw [List.take_of_length_le (by omega)]
      first
        | exact ⟨⟨by omega, allQ_map _⟩, rfl, unQs_map _⟩
        | exact ⟨⟨by omega, allQ_map _⟩, unQs_map _⟩
theorem credentials_c (d : DevM) (D : Nat → CR) (hv : VLen d.v.prs) (hD : ∀ i : Nat, i < 8 → FPure Tryz.prog 130 [.p (.data 1 (vgetM (64 + (i : Int)) d.v.prs).length ((vgetM (64 + (i : Int)) d.v.prs).map bt))] (crAV (D i))) : FPure Tryz.prog 71 [devA d] (.p (.data 10 (crsN D 8).length (ncPs (crsN D 8)))) := by
  refine fpure_x hmix Tryz.func71 rfl (by kernel_rfl) Tryz.ntmps71 Tryz.results71 (by simp) (by simp [idsL, idsA]) [0, 1, 2] ?_; intro c hP h0 hE
  simp only [go_sem, ↓reduceIte, hP]
  first | refine xw_call hE (ks := [0, 1, 2]) (n := 2000) (by rw [hP]; exact collectC_c d D hv hD) ?_ | refine xd_call hE (ks := [0, 1, 2]) (n := 2000) (by rw [hP]; exact collectC_c d D hv hD) ?_
  simp only [go_sem, ↓reduceIte, hP]
/-- credentials without their numbers -/
def csPs (l : List Cr) : List PV := l.flatMap crP
theorem csPs_len (l : List Cr) : (csPs l).length = l.length * 9 := by
  induction l with
  | nil => rfl
  | cons p l ih => simp only [csPs, List.flatMap_cons, List.length_append, List.length_cons] at ih ⊢; rw [ih]; simp [crP]; omega
def csA (l : List Cr) : List AV := (csPs l).map .p
theorem csA_snoc (l : List Cr) (p : Cr) : csA l ++ [sv p.rp, sv p.us, sv p.nm, .w p.sd, .i p.hg, .b p.rs, .i p.pt, .b p.sh, .b p.bk] = csA (l ++ [p]) := by simp [csA, csPs, crP]
theorem csA_len (l : List Cr) : (csA l).length = l.length * 9 := by unfold csA; rw [List.length_map, csPs_len]
theorem csA_view (h : Heap) (S : List Nat) (σ : Nat → Nat) (l : List Cr) : viewAs h S σ (csA l) (csA l) := viewAs_pure h S σ _
theorem ncPs_at (l : List (Nat × Cr)) (i : Nat) (h : i < l.length) : (ncPs l).drop (i * 10) = ncP (l.getD i (0, cr0)) ++ ncPs (l.drop (i + 1)) := by
  induction l generalizing i with
  | nil => simp at h
  | cons p l ih =>
    cases i with
    | zero => simp [ncPs]
    | succ i =>
      have := ih i (by simpa using h)
      have e : (ncPs (p :: l)).drop ((i + 1) * 10) = (ncPs l).drop (i * 10) := by
        rw [show ncPs (p :: l) = ncP p ++ ncPs l from by simp [ncPs], show (i + 1) * 10 = (ncP p).length + i * 10 from by simp [ncP, crP]; omega, List.drop_length_add_append]
      rw [e, this]
      simp
set_option maxHeartbeats 1000000 in
theorem valuesC_c (l : List (Nat × Cr)) (hb : l.length < 1000) : FPure Tryz.prog 70 [.p (.data 10 l.length (ncPs l))] (.p (.data 9 l.length (csPs (l.map (·.2))))) := by
  refine fpure_x hmix Tryz.func70 rfl (by kernel_rfl) Tryz.ntmps70 Tryz.results70 (by simp) (by simp [idsL, idsA]) [0, 2, 3, 5, 6, 7, 8, 9] ?_; intro c hP h0 hE
  simp only [go_sem, ↓reduceIte, hP]
  refine saw_new 61 ?_
  refine xw_for hE h0 [0, 2, 3, 5, 6, 7, 8, 9] l.length (fun i => ⟨19, [(3, .sl 0 0 i 9), (6, .p (.data 10 l.length (ncPs l))), (7, .i l.length), (8, .i i)], [(0, some ⟨61, csA ((l.take i).map (·.2))⟩)], 1⟩) [] (fun i => i) ?_ ?_
  · refine ⟨rfl, ?_, ?_, rfl, rfl, trivial, fun i h => h⟩
    · simp only [go_sem, ↓reduceIte]
    · simp only [go_sem, ↓reduceIte, List.take_zero]
      exact (show viewAs _ _ _ [] [] from by simp [viewAs])
  · intro i hi
    rcases Nat.lt_or_ge i l.length with hin | hin
    · have hw : IntKind.i64.wrap ((i : Int) + 1) = ((i + 1 : Nat) : Int) := by rw [wrap_i64_id (by omega) (by omega)]; omega
      have hat := ncPs_at l i hin
      have hta : l.take (i + 1) = l.take i ++ [l.getD i (0, cr0)] := by rw [List.take_add_one]; simp [List.getD_eq_getElem?_getD, hin]
      generalize l.getD i (0, cr0) = p at *
      simp only [go_sem, ↓reduceIte, hP, hw, hat, ncP, crP, show ((i : Int) < (l.length : Int)) from by omega]
      refine ⟨by omega, ⟨by rw [csA_len]; simp; omega, by omega, by omega⟩, hin, subG [3] rfl ?_ ?_ rfl rfl (Nat.le_refl _)⟩
      · simp only [go_sem, ↓reduceIte]
      · rw [csA_snoc, hta]
        simp only [go_sem, ↓reduceIte, List.map_append]
        exact csA_view _ _ _ _
    · obtain rfl : i = l.length := by omega
      have hll := csA_len ((l.take l.length).map (·.2))
      have hmm : (List.map (fun x => x.2) (l.take l.length)).length = l.length := by simp
      rw [List.take_length] at hll
      simp only [go_sem, ↓reduceIte, hP, show ¬ ((l.length : Int) < (l.length : Int)) from by omega]
      rw [List.take_length, List.take_of_length_le (by rw [hll]; simp)]
      exact ⟨⟨by rw [hll]; simp, allQ_map _⟩, unQs_map _⟩
theorem pCredentials_c (d : DevM) (D : Nat → CR) (hv : VLen d.v.prs) (hD : ∀ i : Nat, i < 8 → FPure Tryz.prog 130 [.p (.data 1 (vgetM (64 + (i : Int)) d.v.prs).length ((vgetM (64 + (i : Int)) d.v.prs).map bt))] (crAV (D i))) : FPure Tryz.prog 22 [devA d] (.p (.data 9 (crsN D 8).length (csPs ((crsN D 8).map (·.2))))) := by
  refine fpure_x hmix Tryz.func22 rfl (by kernel_rfl) Tryz.ntmps22 Tryz.results22 (by simp) (by simp [idsL, idsA]) [0, 1, 2] ?_; intro c hP h0 hE
  simp only [go_sem, ↓reduceIte, hP]
  first | refine xw_call hE (ks := [0, 1, 2]) (n := 2000) (by rw [hP]; exact credentials_c d D hv hD) ?_ | refine xd_call hE (ks := [0, 1, 2]) (n := 2000) (by rw [hP]; exact credentials_c d D hv hD) ?_
  have : (crsN D 8).length ≤ 8 := crsN_len D 8
  simp only [go_sem, ↓reduceIte, hP]
  first | refine xw_call hE (ks := [0, 1, 2]) (n := 2000) (by rw [hP]; exact valuesC_c (crsN D 8) (by omega)) ?_ | refine xd_call hE (ks := [0, 1, 2]) (n := 2000) (by rw [hP]; exact valuesC_c (crsN D 8) (by omega)) ?_
  simp only [go_sem, ↓reduceIte, hP]
end Go.Proofs.YtebndjnkmcahaaaGreatDoor
end
/- joined of several texts; own work; no statement of the seat is proved but in the last -/
section
/-
  A device that is switched on for the first time: plain laws. Own work; no statement of the seat is proved here.
-/
section
namespace Go.Proofs.YtebndjnkmcahaaaGreatDoor
set_option linter.unusedSimpArgs false
set_option linter.unusedVariables false
open Go Go.Abs Go.RowKit

theorem newE_ok {f : FacM} (h : newE f = 0) : ¬ badF f ∧ f.ce.length ≤ 3 ∧ newD f = offM f 0 (newFl f.ps 2) := by
  have hd : newD f = offM f 0 (newFl f.ps 2) := by unfold newD; rw [if_pos h]
  unfold newE at h
  split at h
  · cases h
  · rename_i h1
    split at h
    · cases h
    · exact ⟨h1, by omega, hd⟩
theorem blank_vfl {ps : Int} (h1 : 512 ≤ ps) (h2 : ps ≤ 8192) : VFl (newFl ps 2) ps.toNat 2 ∧ (newFl ps 2).bs = List.replicate (ps.toNat * 2) 255 ∧ (newFl ps 2).ps = ps := by
  have e : newFl ps 2 = ⟨ps, List.replicate (ps * 2).toNat 255⟩ := by unfold newFl; rw [if_neg (by omega)]
  have e2 : (ps * 2).toNat = ps.toNat * 2 := by omega
  rw [e, e2]
  exact ⟨⟨by show ps = _; omega, by omega, by omega, by simp, by omega, by omega⟩, rfl, rfl⟩
theorem lease_ok {f : FacM} (h : ¬ badF f) : lvalM ⟨0, f.af, f.ato, f.af⟩ = true := by
  unfold badF at h
  unfold lvalM
  have h4 : ishl .i64 1 f.ah ≤ 16 := by
    have h1 : 0 ≤ f.ah := by omega
    have h2 : f.ah ≤ 4 := by omega
    obtain ⟨k, hk⟩ := Int.eq_ofNat_of_zero_le h1
    rw [hk] at h2 ⊢
    have : k = 0 ∨ k = 1 ∨ k = 2 ∨ k = 3 ∨ k = 4 := by omega
    rcases this with rfl | rfl | rfl | rfl | rfl <;> decide
  simp only [decide_eq_true_eq]
  omega
theorem lenc_len {x : Ls} (h : lvalM x = true) : (lencM x).length = 11 := by unfold lencM; rw [if_pos h]; simp [wordB_len]
/-- what a fresh device stores at its first boot -/
def freshL (f : FacM) (n : Nat) : Store := [(1, wordB (derM f.se masterS ((n * 1048576 : Nat) : Int)) 8), (2, beB n), (16, lencM ⟨0, f.af, f.ato, f.af⟩)]
theorem freshL_is (f : FacM) (n : Nat) : bootL f [] n = freshL f n := by unfold bootL; rw [if_pos (by rfl)]; rfl
theorem freshL_sz {f : FacM} (h : ¬ badF f) (n : Nat) : szM (freshL f n) = 32 := by
  have := lenc_len (lease_ok h)
  simp only [freshL, szM, wordB_len, beB, List.length_cons, List.length_nil, this]
theorem freshL_admit {f : FacM} (h : ¬ badF f) (n : Nat) : admitM (freshL f n) = 0 := by
  have hs := freshL_sz h n
  unfold admitM
  rw [if_neg (by simp [freshL]), if_neg (by simp [freshL, dupN]), if_neg (by omega)]
theorem freshL_srt (f : FacM) (n : Nat) : Srt (freshL f n) := by
  unfold Srt freshL
  simp
theorem freshL_with {f : FacM} (h : ¬ badF f) (n : Nat) : withM [] (freshL f n) = freshL f n := by
  have hl := lenc_len (lease_ok h)
  rw [(withM_apply _ [] (by simp [Srt])).1, applyM_srt _ [] (freshL_srt f n) ?_ (fun x hx => by cases hx)]
  · rfl
  · intro x hx
    simp only [freshL, List.mem_cons, List.not_mem_nil, or_false] at hx
    rcases hx with rfl | rfl | rfl
    · intro e; have := congrArg List.length e; simp [wordB_len] at this
    · simp [beB]
    · intro e; have := congrArg List.length e; rw [hl] at this; simp at this
theorem freshL_vlen {f : FacM} (h : ¬ badF f) (n : Nat) : VLen (freshL f n) := by
  have hl := lenc_len (lease_ok h)
  refine ⟨by simp [freshL], fun x hx => ?_⟩
  simp only [freshL, List.mem_cons, List.not_mem_nil, or_false] at hx
  rcases hx with rfl | rfl | rfl
  · simp [wordB_len]
  · simp [beB]
  · simp only; omega
theorem freshL_g1 (f : FacM) (n : Nat) : vgetM 1 (freshL f n) = wordB (derM f.se masterS ((n * 1048576 : Nat) : Int)) 8 := rfl
theorem freshL_g2 (f : FacM) (n : Nat) : vgetM 2 (freshL f n) = beB n := by simp [freshL, vgetM]
/-- the first opening of a blank flash, and the put that follows -/
theorem fresh_put {f : FacM} (h : ¬ badF f) (n : Nat) :
    (ropenM (newFl f.ps 2) (-1)).err = 0 ∧ (ropenM (newFl f.ps 2) (-1)).left = -1 ∧ (ropenM (newFl f.ps 2) (-1)).v.prs = [] ∧
    (rputM (ropenM (newFl f.ps 2) (-1)).v (freshL f n) (-1)).err = 0 ∧ (rputM (ropenM (newFl f.ps 2) (-1)).v (freshL f n) (-1)).left = -1 ∧
    VOk (rputM (ropenM (newFl f.ps 2) (-1)).v (freshL f n) (-1)).v 2 ∧ (rputM (ropenM (newFl f.ps 2) (-1)).v (freshL f n) (-1)).v.prs = freshL f n := by
  have hb : 512 ≤ f.ps ∧ f.ps ≤ 8192 := by unfold badF at h; omega
  obtain ⟨hv, hbs, hps⟩ := blank_vfl hb.1 hb.2
  have h11 := blank_11 hv hbs
  obtain ⟨he, hok, hpr⟩ := fresh_ok hv h11
  have hl := fresh_left hv h11
  refine ⟨he, hl, hpr, ?_⟩
  have h512 := hok.ps512
  have hsz := freshL_sz h n
  have hw : withM (ropenM (newFl f.ps 2) (-1)).v.prs (freshL f n) = freshL f n := by rw [hpr, freshL_with h]
  rcases put_ok hok (by decide) (freshL f n) (-1) with ⟨h1, h2, h3, -, -⟩ | ⟨-, -, h0, -, -⟩ | ⟨-, -, -, hbad⟩
  · exact ⟨h1, rput_neg _ _ h1, h2, by rw [h3, hw]⟩
  · omega
  · exfalso
    rcases hbad with hbad | hbad
    · exact hbad (freshL_admit h n)
    · rw [hw, hsz] at hbad
      simp only [freshL, List.length_cons, List.length_nil] at hbad
      omega
theorem fresh_boot {f : FacM} (h : newE f = 0) (hc : (newFl f.ps 2).bs.length < 1000000000) : BootOk (newD f) (-1) := by
  obtain ⟨hb, -, hd⟩ := newE_ok h
  rw [hd]
  have hfl : flOf (offM f 0 (newFl f.ps 2)).v.j = newFl f.ps 2 := rfl
  have hfac : (offM f 0 (newFl f.ps 2)).fac = f := rfl
  refine ⟨by unfold i64; decide, hc, fun _ => ?_, fun n _ _ => ?_⟩
  · rw [hfl, (fresh_put hb 1).2.2.1]
    exact ⟨⟨by simp, fun x hx => by cases hx⟩, by simp [vgetM]⟩
  · rw [hfl, hfac, (fresh_put hb 1).2.2.1, freshL_is, (fresh_put hb 1).2.1, (fresh_put hb n).2.2.2.2.2.2]
    exact ⟨freshL_vlen hb n, by rw [freshL_g2]; simp [beB], by rw [freshL_g1, wordB_len]; exact Nat.le_refl _⟩
def bootedM (f : FacM) (now : Int) : DevM :=
  let x : DevM := ⟨f, (rputM (ropenM (newFl f.ps 2) (-1)).v (freshL f 1) (-1)).v, true, now, now, 0, 0, tok0, it0⟩
  { drawD x with tok := { tok0 with sec := drawW x } }
theorem boot_fresh {f : FacM} (h : newE f = 0) {now : Int} (h1 : 0 ≤ now) (h2 : now ≤ 1099511627776) : bootM (newD f) now (-1) = ⟨bootedM f now, -1, 0⟩ := by
  obtain ⟨hb, -, hd⟩ := newE_ok h
  have hp := fresh_put hb 1
  rw [hd]
  have hfl : flOf (offM f 0 (newFl f.ps 2)).v.j = newFl f.ps 2 := rfl
  have hfac : (offM f 0 (newFl f.ps 2)).fac = f := rfl
  have hon : (offM f 0 (newFl f.ps 2)).on = false := rfl
  have hnw : (offM f 0 (newFl f.ps 2)).now = 0 := rfl
  unfold bootM
  rw [hon, hfl, hfac, hnw]
  simp only [Bool.false_eq_true, if_false]
  rw [if_neg (by omega), if_neg (by rw [hp.1]; decide), hp.2.2.1, if_neg (by decide)]
  have hn : (numM (vgetM 2 [])).toNat + 1 = 1 := by decide
  rw [hn, freshL_is, hp.2.1, if_neg (by rw [hp.2.2.2.1]; decide), hp.2.2.2.2.1]
  have ht : (if 0 < now then now else 0) = now := by split <;> omega
  rw [ht]
  rfl
theorem booted_prs {f : FacM} (h : newE f = 0) (now : Int) : (bootedM f now).v.prs = freshL f 1 ∧ VOk (bootedM f now).v 2 := by
  obtain ⟨hb, -, hd⟩ := newE_ok h
  have hp := fresh_put hb 1
  exact ⟨hp.2.2.2.2.2.2, hp.2.2.2.2.2.1⟩
end Go.Proofs.YtebndjnkmcahaaaGreatDoor
end
/-
  The laws' sanity check, and factories. Own work; no statement of the seat is proved here.
-/
section
namespace Go.Proofs.YtebndjnkmcahaaaGreatDoor
set_option linter.unusedSimpArgs false
set_option linter.unusedVariables false
open Go Go.Abs Go.RowKit

theorem u8i_small {z : Int} (h0 : 0 ≤ z) (h1 : z ≤ 255) : ((u8i z).toNat : Int) = z := by
  unfold u8i
  rw [u8w, wrap_u8_def]
  omega
theorem ldec_enc {x : Ls} (h : lvalM x = true) : ldecM (lencM x) = ⟨x, 0⟩ := by
  have hl := lenc_len h
  have hv := h
  unfold lvalM at hv
  simp only [decide_eq_true_eq] at hv
  have he : lencM x = wordB x.tag 8 ++ [u8i x.fr, u8i x.to, u8i x.nx] := by unfold lencM; rw [if_pos h]
  have hx : lsOf (lencM x) = x := by
    unfold lsOf
    have e8 : (lencM x).getD 8 0 = u8i x.fr := by rw [he, getD_app, if_neg (by simp [wordB_len]), wordB_len]; rfl
    have e9 : (lencM x).getD 9 0 = u8i x.to := by rw [he, getD_app, if_neg (by simp [wordB_len]), wordB_len]; rfl
    have e10 : (lencM x).getD 10 0 = u8i x.nx := by rw [he, getD_app, if_neg (by simp [wordB_len]), wordB_len]; rfl
    have ew : wordN (lencM x) 8 = x.tag := by
      rw [← word_id x.tag]
      refine wordN_congr 8 fun i hi => ?_
      rw [he, getD_app, if_pos (by rw [wordB_len]; omega)]
    rw [e8, e9, e10, ew, u8i_small (by omega) (by omega), u8i_small (by omega) (by omega), u8i_small (by omega) (by omega)]
  unfold ldecM
  rw [hx, if_pos ⟨hl, h⟩]
theorem ldec_nil : ldecM [] = ⟨ls0, 2⟩ := rfl
theorem fresh_leases {f : FacM} (h : ¬ badF f) : leasesM (freshL f 1) = [(0, ⟨0, f.af, f.ato, f.af⟩)] := by
  have h0 : leaseR (freshL f 1) 0 = ⟨⟨0, f.af, f.ato, f.af⟩, 0⟩ := by
    unfold leaseR
    have : vgetM (16 + ((0 : Nat) : Int)) (freshL f 1) = lencM ⟨0, f.af, f.ato, f.af⟩ := by simp [freshL, vgetM]
    rw [this, ldec_enc (lease_ok h)]
  have hn : ∀ i, 1 ≤ i → leaseR (freshL f 1) i = ⟨ls0, 2⟩ := fun i hi => by
    unfold leaseR
    have : vgetM (16 + (i : Int)) (freshL f 1) = [] := by
      unfold freshL
      simp only [vgetM]
      rw [if_neg (by omega), if_neg (by omega), if_neg (by omega)]
    rw [this, ldec_nil]
  have key : ∀ n, 1 ≤ n → leasesN (freshL f 1) n = [(0, ⟨0, f.af, f.ato, f.af⟩)] := by
    intro n
    induction n with
    | zero => intro h; omega
    | succ n ih =>
      intro _
      rw [leasesN_succ]
      by_cases hn0 : n = 0
      · subst hn0
        rw [h0, if_pos rfl]
        rfl
      · rw [hn n (by omega), if_neg (by decide)]
        exact ih (by omega)
  exact key 16 (by decide)
theorem fresh_cr (f : FacM) (i : Nat) : vgetM (64 + (i : Int)) (freshL f 1) = [] := by
  unfold freshL
  simp only [vgetM]
  rw [if_neg (by omega), if_neg (by omega), if_neg (by omega)]
theorem crs_none : crsN (fun _ => ⟨cr0, 2⟩) 8 = [] := rfl

set_option maxRecDepth 100000 in
theorem pin0_c (d : DevM) (hv : VLen d.v.prs) (h : vgetM 3 d.v.prs = []) : FPure Tryz.prog 23 [devA d] (.agg [.b false, .w 0, .i 0, .i d.wr]) := by
  refine fpure_x hmix Tryz.func23 rfl (by kernel_rfl) Tryz.ntmps23 Tryz.results23 (by simp) (by simp [idsL, idsA]) [0, 1, 2, 7] ?_; intro c hP h0 hE
  simp only [go_sem, ↓reduceIte, hP]
  first | refine xw_call hE (ks := [0, 1, 2, 7]) (n := 2000) (by rw [hP]; exact vgetA_c d.v _ 3 hv.1 (fun x hx => by have := hv.2 x hx; omega)) ?_ | refine xd_call hE (ks := [0, 1, 2, 7]) (n := 2000) (by rw [hP]; exact vgetA_c d.v _ 3 hv.1 (fun x hx => by have := hv.2 x hx; omega)) ?_
  simp only [go_sem, ↓reduceIte, hP, h, show ((([] : List UInt8).length : Int) = 0) from rfl]
  rfl

def pick4 (k : Int) : Int := if k = 0 then 2048 else if k = 1 then 1024 else if k = 2 then 512 else 640
def facM (n : Int) : FacM :=
  ⟨u64i (band .i64 n 3), u64i (((u64i (band .i64 (ishr .i64 n 2) 255)).toNat : Int) + 1), pick4 (band .i64 (ishr .i64 n 4) 3), band .i64 (ishr .i64 n 6) 1 == 1, 77, 2, band .i64 (ishr .i64 n 7) 1, IntKind.i64.wrap (2 + band .i64 (ishr .i64 n 8) 1),
    ([[111, 110, 101], [116, 119, 111]] : List (List UInt8)).take (1 + band .i64 (ishr .i64 n 9) 1).toNat⟩
theorem pick4_at {k : Int} (h0 : 0 ≤ k) (h3 : k ≤ 3) : headA (.v (.int .i64 0)) (List.drop k.toNat [AV.i 2048, .i 1024, .i 512, .i 640]) = .i (pick4 k) := by
  have : k = 0 ∨ k = 1 ∨ k = 2 ∨ k = 3 := by omega
  rcases this with rfl | rfl | rfl | rfl <;> rfl
set_option maxRecDepth 100000 in
theorem factory_c (n : Int) : FPure Tryz.prog 7 [.i n] (.agg (facC (facM n))) := by
  refine fpure_x hmix Tryz.func7 rfl (by kernel_rfl) Tryz.ntmps7 Tryz.results7 (by simp) (by simp [idsL, idsA]) [0, 2, 3] ?_; intro c hP h0 hE
  have b4 := band_bd (ishr .i64 n 4) 3 (by decide) (by decide)
  have b9 := band_bd (ishr .i64 n 9) 1 (by decide) (by decide)
  have hp4 := pick4_at b4.1 b4.2
  simp only [go_sem, ↓reduceIte, hP, conv_u64i, hp4]
  have hc : (facM n).ce = ([[111, 110, 101], [116, 119, 111]] : List (List UInt8)).take (1 + band .i64 (ishr .i64 n 9) 1).toNat := rfl
  rw [hc]
  generalize band .i64 (ishr .i64 n 9) 1 = k at *
  have hk : k = 0 ∨ k = 1 := by omega
  rcases hk with rfl | rfl
  · exact ⟨⟨by omega, by omega⟩, by omega, by decide, ⟨by decide, allQ_map [byP [111, 110, 101]]⟩, rfl, rfl, rfl, rfl, rfl, rfl, rfl, rfl, rfl, rfl⟩
  · exact ⟨⟨by omega, by omega⟩, by omega, by decide, ⟨by decide, allQ_map [byP [111, 110, 101], byP [116, 119, 111]]⟩, rfl, rfl, rfl, rfl, rfl, rfl, rfl, rfl, rfl, rfl⟩
theorem fac0_ok : newE (facM 0) = 0 := by decide
set_option maxRecDepth 100000 in
set_option maxHeartbeats 4000000 in
theorem awake17_c : FPure Tryz.prog 6 [] (.b true) := by
  refine fpure_x hmix Tryz.func6 rfl (by kernel_rfl) Tryz.ntmps6 Tryz.results6 (by simp) (by simp [idsL, idsA]) [0, 1, 2, 3, 4, 5] ?_; intro c hP h0 hE
  simp only [go_sem, ↓reduceIte, hP]
  have he := fac0_ok
  obtain ⟨hb, hc3, hd⟩ := newE_ok he
  have hsm : ∀ b, b ∈ (facM 0).ce → b.length < 1000000000 := by decide
  have hln : (newFl (facM 0).ps 2).bs.length < 1000000000 := by decide
  have hbo := fresh_boot he hln
  have hbf := boot_fresh he (now := 5) (by decide) (by decide)
  obtain ⟨hpr, -⟩ := booted_prs he 5
  have hfl := fresh_leases hb
  have hfc := fresh_cr (facM 0)
  have hvl := freshL_vlen hb 1
  have h3 : vgetM 3 (freshL (facM 0) 1) = [] := by simp [freshL, vgetM]
  have hon : (newD (facM 0)).on = false := by rw [hd]; rfl
  have hbon : (bootedM (facM 0) 5).on = true := rfl
  have hbnow : (bootedM (facM 0) 5).now = 5 := rfl
  first | refine xw_call hE (ks := [0, 1, 2, 3, 4, 5]) (n := 2000) (by rw [hP]; exact factory_c 0) ?_ | refine xd_call hE (ks := [0, 1, 2, 3, 4, 5]) (n := 2000) (by rw [hP]; exact factory_c 0) ?_
  generalize facM 0 = f at *
  simp only [go_sem, ↓reduceIte, hP]
  first | refine xw_call hE (ks := [0, 1, 2, 3, 4, 5]) (n := 2000) (by rw [hP]; exact pnew_c f (by omega) hsm) ?_ | refine xd_call hE (ks := [0, 1, 2, 3, 4, 5]) (n := 2000) (by rw [hP]; exact pnew_c f (by omega) hsm) ?_
  rw [he]
  generalize newD f = D at *
  simp only [go_sem, ↓reduceIte, hP]
  first | refine xw_call hE (ks := [0, 1, 2, 3, 4, 5]) (n := 2000) (by rw [hP]; exact pboot_c D 5 (-1) hbo) ?_ | refine xd_call hE (ks := [0, 1, 2, 3, 4, 5]) (n := 2000) (by rw [hP]; exact pboot_c D 5 (-1) hbo) ?_
  rw [hbf]
  generalize bootedM f 5 = X at *
  rw [← hpr] at hfl hfc hvl h3
  simp only [go_sem, ↓reduceIte, hP, hon, hbon, hbnow]
  first | refine xw_call hE (ks := [0, 1, 2, 3, 4, 5]) (n := 2000) (by rw [hP]; exact pLeases_c X hvl) ?_ | refine xd_call hE (ks := [0, 1, 2, 3, 4, 5]) (n := 2000) (by rw [hP]; exact pLeases_c X hvl) ?_
  rw [hfl]
  simp only [go_sem, ↓reduceIte, hP]
  first | refine xw_call hE (ks := [0, 1, 2, 3, 4, 5]) (n := 2000) (by rw [hP]; exact pCredentials_c X (fun _ => ⟨cr0, 2⟩) hvl (fun i hi => by rw [hfc i]; exact cdec0_c)) ?_ | refine xd_call hE (ks := [0, 1, 2, 3, 4, 5]) (n := 2000) (by rw [hP]; exact pCredentials_c X (fun _ => ⟨cr0, 2⟩) hvl (fun i hi => by rw [hfc i]; exact cdec0_c)) ?_
  rw [crs_none]
  simp only [go_sem, ↓reduceIte, hP]
  first | refine xw_call hE (ks := [0, 1, 2, 3, 4, 5]) (n := 2000) (by rw [hP]; exact pin0_c X hvl h3) ?_ | refine xd_call hE (ks := [0, 1, 2, 3, 4, 5]) (n := 2000) (by rw [hP]; exact pin0_c X hvl h3) ?_
  simp only [go_sem, ↓reduceIte, hP]
end Go.Proofs.YtebndjnkmcahaaaGreatDoor
end
end

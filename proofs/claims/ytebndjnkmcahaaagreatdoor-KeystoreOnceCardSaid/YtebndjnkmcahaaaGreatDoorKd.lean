/- joined of several texts; own work; no statement of the seat is proved but in the last -/
import Derived.Test.YtebndjnkmcahaaaGreatDoorKr
/-
  A device as it leaves the factory: both sides. Own work; no statement of the seat is proved here.
-/
section
namespace Go.Proofs.YtebndjnkmcahaaaGreatDoor
set_option linter.unusedSimpArgs false
set_option linter.unusedVariables false
open Go Go.Abs Go.RowKit

def facC (f : FacM) : List AV := [.w f.mo, .w f.se, .i f.ps, .b f.fi, .w f.ase, .i f.ah, .i f.af, .i f.ato, .p (.data 1 f.ce.length (f.ce.map byP))]
attribute [go_sem] facC
def badF (f : FacM) : Prop := f.ps < 512 ∨ f.ps > 8192 ∨ f.ah < 0 ∨ f.ah > 4 ∨ f.af < 0 ∨ f.af > f.ato ∨ f.ato > ishl .i64 1 f.ah
instance (f : FacM) : Decidable (badF f) := by unfold badF; infer_instance
def newE (f : FacM) : Int := if badF f then 9 else if 3 < f.ce.length then 8 else if f.ce.all (fun c => decide (c.length ≤ 512)) then 0 else 8
def newD (f : FacM) : DevM := if newE f = 0 then offM f 0 (newFl f.ps 2) else dev0
theorem dv_eqI (y : Dvp) (ce bs pr ids : SlP) (h1 : eqP ce.pv y.fac.ce.pv) (h2 : eqP bs.pv y.v.bs.pv) (h3 : eqP pr.pv y.v.pr.pv) (h4 : eqP ids.pv y.nx.ids.pv) :
    eqNL (dvC { y with fac := { y.fac with ce := ce }, v := { y.v with bs := bs, pr := pr }, nx := { y.nx with ids := ids } }) (dvC y) :=
  ⟨rfl, rfl, rfl, rfl, rfl, rfl, rfl, rfl, h1, rfl, h2, rfl, rfl, rfl, rfl, h3, rfl, rfl, rfl, rfl, rfl, rfl, rfl, rfl, rfl, rfl, rfl, rfl, rfl, rfl, rfl, h4, trivial⟩
theorem dv0_eq : eqNL (dvC (devP dev0)) (dvC dv0) := dv_eqI dv0 _ _ _ _ ⟨rfl, rfl⟩ ⟨rfl, rfl⟩ ⟨rfl, rfl⟩ ⟨rfl, rfl⟩
theorem dv_eqR (x : Dvp) : eqNL (dvC x) (dvC x) := eqNL_refl _
attribute [go_sem] dv_eqR
@[simp] theorem facC_ids (T : List Nat) (f : FacM) : idsL T (facC f) := by simp [facC, idsL, idsA]

theorem poff_c (f : FacM) (now : Int) (m : Fl) (n : Nat) (hn : m.bs.length = n) : FPure Tryz.prog 26 [.agg (facC f), .i now, .agg [.i m.ps, .p (.data 1 n (m.bs.map bt))]] (devA (offM f now m)) := by
  refine fpure_x hmix Tryz.func26 rfl (by kernel_rfl) Tryz.ntmps26 Tryz.results26 (by simp) (by simp [idsL, idsA]) [0, 1, 2, 3, 5, 6] ?_; intro c hP h0 hE
  subst hn
  simp only [go_sem, ↓reduceIte, hP]
  exact dv_eqI _ _ _ _ _ (eqP_refl _) (eqP_refl _) ⟨rfl, rfl⟩ ⟨rfl, rfl⟩
set_option maxRecDepth 100000 in
set_option maxHeartbeats 4000000 in
theorem pnew_c (f : FacM) (hc : f.ce.length < 1000000000) (hl : ∀ b, b ∈ f.ce → b.length < 1000000000) : FPure Tryz.prog 8 [.agg (facC f)] (.tup [devA (newD f), .i (newE f)]) := by
  refine fpure_x hmix Tryz.func8 rfl (by kernel_rfl) Tryz.ntmps8 Tryz.results8 (by simp) (by simp [idsL, idsA]) [0, 1, 2, 3, 4, 6, 7, 8, 46, 51, 54, 55, 56, 57, 62, 79] ?_; intro c hP h0 hE
  obtain ⟨R, hR⟩ : ∃ R, newE f = R := ⟨_, rfl⟩; rw [hR] at hE; (try rw [hR])
  have hD : newD f = if R = 0 then offM f 0 (newFl f.ps 2) else dev0 := by unfold newD; rw [hR]
  have bad : badF f → R = 9 ∧ newD f = dev0 := fun h => by unfold newE at hR; rw [if_pos h] at hR; subst hR; exact ⟨rfl, by rw [hD, if_neg (by decide)]⟩
  generalize newD f = D at *
  by_cases h1 : f.ps < 512
  · obtain ⟨rfl, rfl⟩ := bad (.inl h1)
    simp only [go_sem, ↓reduceIte, hP, h1]
    exact ⟨by kernel_rfl, dv0_eq⟩
  by_cases h2 : f.ps > 8192
  · obtain ⟨rfl, rfl⟩ := bad (.inr (.inl h2))
    simp only [go_sem, ↓reduceIte, hP, h1, h2]
    exact ⟨by kernel_rfl, dv0_eq⟩
  by_cases h3 : f.ah < 0
  · obtain ⟨rfl, rfl⟩ := bad (.inr (.inr (.inl h3)))
    simp only [go_sem, ↓reduceIte, hP, h1, h2, h3]
    exact ⟨by kernel_rfl, dv0_eq⟩
  by_cases h4 : f.ah > 4
  · obtain ⟨rfl, rfl⟩ := bad (.inr (.inr (.inr (.inl h4))))
    simp only [go_sem, ↓reduceIte, hP, h1, h2, h3, h4]
    exact ⟨by kernel_rfl, dv0_eq⟩
  by_cases h5 : f.af < 0
  · obtain ⟨rfl, rfl⟩ := bad (.inr (.inr (.inr (.inr (.inl h5)))))
    simp only [go_sem, ↓reduceIte, hP, h1, h2, h3, h4, h5]
    exact ⟨by kernel_rfl, dv0_eq⟩
  by_cases h6 : f.af > f.ato
  · obtain ⟨rfl, rfl⟩ := bad (.inr (.inr (.inr (.inr (.inr (.inl h6))))))
    simp only [go_sem, ↓reduceIte, hP, h1, h2, h3, h4, h5, h6]
    exact ⟨by kernel_rfl, dv0_eq⟩
  by_cases h7 : f.ato > ishl .i64 1 f.ah
  · obtain ⟨rfl, rfl⟩ := bad (.inr (.inr (.inr (.inr (.inr (.inr h7))))))
    simp only [go_sem, ↓reduceIte, hP, h1, h2, h3, h4, h5, h6, h7]
    exact ⟨by omega, by kernel_rfl, dv0_eq⟩
  have hng : ¬ badF f := fun h => by unfold badF at h; simp only [h1, h2, h3, h4, h5, h6, h7, or_self] at h
  unfold newE at hR
  rw [if_neg hng] at hR
  by_cases h8 : (f.ce.length : Int) > 3
  · rw [if_pos (by omega)] at hR
    subst hR
    rw [if_neg (by decide)] at hD
    subst hD
    simp only [go_sem, ↓reduceIte, hP, h1, h2, h3, h4, h5, h6, h7, h8]
    exact ⟨by omega, by kernel_rfl, dv0_eq⟩
  rw [if_neg (by omega)] at hR
  simp only [go_sem, ↓reduceIte, hP, h1, h2, h3, h4, h5, h6, h7, h8]
  refine ⟨by omega, by kernel_rfl, saw_new bytesT ?_⟩
  generalize hce : f.ce = l at *
  refine xw_loop hE h0 [0, 1, 2, 3, 4, 6, 7, 8, 46, 51, 54, 55, 56, 57, 62, 79] (α := { i : Nat // i ≤ l.length ∧ ∀ b, b ∈ l.take i → b.length ≤ 512 }) (fun i => ⟨85, [(1, .ptr 0 0), (2, .ptr 1 0), (3, .i 0), (4, .sl 2 0 i.1 1), (54, .p (.data 1 l.length (l.map byP))), (55, .i l.length), (56, .i i.1)], [(2, some ⟨bytesT, byL (l.take i.1)⟩), (1, some ⟨43, dvC dv0⟩), (0, some ⟨25, [.w f.mo, .w f.se, .i f.ps, .b f.fi, .w f.ase, .i f.ah, .i f.af, .i f.ato, .p (.data 1 l.length (l.map byP))]⟩)], 3⟩) (fun i => l.length - i.1) ⟨0, Nat.zero_le _, by simp⟩ [] (fun i => i) ?_ ?_
  · refine ⟨rfl, ?_, ?_, rfl, rfl, trivial, fun i h => h⟩
    · simp only [go_sem, ↓reduceIte]
    · simp only [go_sem, ↓reduceIte, List.take_zero, byL, List.map_nil]
  · rintro ⟨i, hi, hsm⟩
    rcases Nat.lt_or_ge i l.length with hin | hin
    · have hc' : ((i : Int) < (l.length : Int)) := by omega
      have hmem : l.getD i [] ∈ l := by rw [show l.getD i [] = l[i]'hin from by simp [List.getD_eq_getElem?_getD, hin]]; exact List.getElem_mem _
      have hta : l.take (i + 1) = l.take i ++ [l.getD i []] := by rw [List.take_add_one]; simp [List.getD_eq_getElem?_getD, hin]
      have hlb := hl _ hmem
      generalize hb : l.getD i [] = b at *
      have hw : IntKind.i64.wrap ((i : Int) + 1) = ((i + 1 : Nat) : Int) := by rw [wrap_i64_id (by omega) (by omega)]; omega
      by_cases h9 : (b.length : Int) > 512
      · have hall : l.all (fun c => decide (c.length ≤ 512)) = false := by
          rw [List.all_eq_false]
          exact ⟨b, hmem, by simp; omega⟩
        rw [if_neg (by rw [hall]; simp)] at hR
        subst hR
        rw [if_neg (by decide)] at hD
        subst hD
        simp only [go_sem, ↓reduceIte, hP, hc', head_by, hb, byP, h9]
        exact ⟨by omega, by omega, dv0_eq⟩
      · simp only [go_sem, ↓reduceIte, hP, hc', head_by, hb, byP, h9]
        refine ⟨by omega, by omega, ?_⟩
        first | refine xw_call hE (ks := [0, 1, 2, 3, 4, 6, 7, 8, 46, 51, 54, 55, 56, 57, 62, 79]) (n := 2000) (by rw [hP]; exact clone_all (b.map bt) b.length (by simp) (by omega)) ?_ | refine xd_call hE (ks := [0, 1, 2, 3, 4, 6, 7, 8, 46, 51, 54, 55, 56, 57, 62, 79]) (n := 2000) (by rw [hP]; exact clone_all (b.map bt) b.length (by simp) (by omega)) ?_
        simp only [go_sem, ↓reduceIte, hP, hw]
        refine ⟨⟨by omega, by omega, by omega⟩, ⟨i + 1, hin, fun x hx => ?_⟩, by simp only; omega, subG [0, 1, 4] rfl ?_ ?_ rfl rfl (Nat.le_refl _)⟩
        · rw [hta] at hx
          rcases List.mem_append.1 hx with hx | hx
          · exact hsm x hx
          · simp at hx; subst hx; omega
        · simp only [go_sem, ↓reduceIte]
        · simp only [go_sem, ↓reduceIte, hta]
          exact byL_view _ _ _ _
    · obtain rfl : i = l.length := by omega
      rw [List.take_of_length_le (Nat.le_refl _)] at hsm
      have hc' : ¬ ((l.length : Int) < (l.length : Int)) := by omega
      have hall : l.all (fun c => decide (c.length ≤ 512)) = true := by
        rw [List.all_eq_true]
        exact fun c hcm => by simpa using hsm c hcm
      rw [if_pos hall] at hR
      subst hR
      rw [if_pos rfl] at hD
      have hne : newErr f.ps 2 = 0 := by unfold newErr; rw [if_neg (by omega)]
      simp only [go_sem, ↓reduceIte, hP, hc']
      refine xw_frz hE (ks := [0, 1, 2, 3, 4, 6, 7, 8, 46, 51, 54, 55, 56, 57, 62, 79]) (n := 2000) 2 ?_ ?_
      · simp only [go_sem, ↓reduceIte]
        omega
      · simp only [go_sem, ↓reduceIte, hP]
        first | refine xw_call hE (ks := [0, 1, 2, 3, 4, 6, 7, 8, 46, 51, 54, 55, 56, 57, 62, 79]) (n := 2000) (by rw [hP]; exact pnewFlash_c f.ps) ?_ | refine xd_call hE (ks := [0, 1, 2, 3, 4, 6, 7, 8, 46, 51, 54, 55, 56, 57, 62, 79]) (n := 2000) (by rw [hP]; exact pnewFlash_c f.ps) ?_
        simp only [go_sem, ↓reduceIte, hP, hne, List.take_length]
        subst hce
        first | refine xw_call hE (ks := [0, 1, 2, 3, 4, 6, 7, 8, 46, 51, 54, 55, 56, 57, 62, 79]) (n := 2000) (by rw [hP]; exact poff_c f 0 (newFl f.ps 2) _ rfl) ?_ | refine xd_call hE (ks := [0, 1, 2, 3, 4, 6, 7, 8, 46, 51, 54, 55, 56, 57, 62, 79]) (n := 2000) (by rw [hP]; exact poff_c f 0 (newFl f.ps 2) _ rfl) ?_
        rw [← hD]
        simp only [go_sem, ↓reduceIte, hP]
set_option maxRecDepth 100000 in
set_option maxHeartbeats 4000000 in
theorem rnew_c (f : FacM) (hc : f.ce.length < 1000000000) (hl : ∀ b, b ∈ f.ce → b.length < 1000000000) : FPure Tryz.prog 9 [.agg (facC f)] (.tup [devA (newD f), .i (newE f)]) := by
  refine fpure_x hmix Tryz.func9 rfl (by kernel_rfl) Tryz.ntmps9 Tryz.results9 (by simp) (by simp [idsL, idsA]) [0, 1, 2, 3, 4, 5, 44, 49, 55, 64] ?_; intro c hP h0 hE
  obtain ⟨R, hR⟩ : ∃ R, newE f = R := ⟨_, rfl⟩; rw [hR] at hE; (try rw [hR])
  have hD : newD f = if R = 0 then offM f 0 (newFl f.ps 2) else dev0 := by unfold newD; rw [hR]
  have bad : badF f → R = 9 ∧ newD f = dev0 := fun h => by unfold newE at hR; rw [if_pos h] at hR; subst hR; exact ⟨rfl, by rw [hD, if_neg (by decide)]⟩
  generalize newD f = D at *
  by_cases h1 : f.ps < 512
  · obtain ⟨rfl, rfl⟩ := bad (.inl h1)
    simp only [go_sem, ↓reduceIte, hP, h1]
    exact dv0_eq
  by_cases h2 : f.ps > 8192
  · obtain ⟨rfl, rfl⟩ := bad (.inr (.inl h2))
    simp only [go_sem, ↓reduceIte, hP, h1, h2]
    exact dv0_eq
  by_cases h3 : f.ah < 0
  · obtain ⟨rfl, rfl⟩ := bad (.inr (.inr (.inl h3)))
    simp only [go_sem, ↓reduceIte, hP, h1, h2, h3]
    exact dv0_eq
  by_cases h4 : f.ah > 4
  · obtain ⟨rfl, rfl⟩ := bad (.inr (.inr (.inr (.inl h4))))
    simp only [go_sem, ↓reduceIte, hP, h1, h2, h3, h4]
    exact dv0_eq
  by_cases h5 : f.af < 0
  · obtain ⟨rfl, rfl⟩ := bad (.inr (.inr (.inr (.inr (.inl h5)))))
    simp only [go_sem, ↓reduceIte, hP, h1, h2, h3, h4, h5]
    exact dv0_eq
  by_cases h6 : f.af > f.ato
  · obtain ⟨rfl, rfl⟩ := bad (.inr (.inr (.inr (.inr (.inr (.inl h6))))))
    simp only [go_sem, ↓reduceIte, hP, h1, h2, h3, h4, h5, h6]
    exact dv0_eq
  have hwu : IntKind.u64.wrap f.ah = f.ah := wrap_u64_id (by omega) (by omega)
  by_cases h7 : f.ato > ishl .i64 1 f.ah
  · obtain ⟨rfl, rfl⟩ := bad (.inr (.inr (.inr (.inr (.inr (.inr h7))))))
    simp only [go_sem, ↓reduceIte, hP, h1, h2, h3, h4, h5, h6, hwu, h7]
    exact ⟨by omega, dv0_eq⟩
  have hng : ¬ badF f := fun h => by unfold badF at h; simp only [h1, h2, h3, h4, h5, h6, h7, or_self] at h
  unfold newE at hR
  rw [if_neg hng] at hR
  by_cases h8 : (f.ce.length : Int) > 3
  · rw [if_pos (by omega)] at hR
    subst hR
    rw [if_neg (by decide)] at hD
    subst hD
    simp only [go_sem, ↓reduceIte, hP, h1, h2, h3, h4, h5, h6, hwu, h7, h8]
    exact ⟨by omega, dv0_eq⟩
  rw [if_neg (by omega)] at hR
  simp only [go_sem, ↓reduceIte, hP, h1, h2, h3, h4, h5, h6, hwu, h7, h8]
  refine ⟨by omega, ?_⟩
  generalize hce : f.ce = l at *
  refine xw_loop hE h0 [0, 1, 2, 3, 4, 5, 44, 49, 55, 64] (α := { i : Nat // i ≤ l.length ∧ ∀ b, b ∈ l.take i → b.length ≤ 512 }) (fun i => ⟨78, [(1, .ptr 0 0), (2, .ptr 1 0), (3, .i 0), (4, .i i.1)], [(1, some ⟨43, dvC dv0⟩), (0, some ⟨25, [.w f.mo, .w f.se, .i f.ps, .b f.fi, .w f.ase, .i f.ah, .i f.af, .i f.ato, .p (.data 1 l.length (l.map byP))]⟩)], 2⟩) (fun i => l.length - i.1) ⟨0, Nat.zero_le _, by simp⟩ [] (fun i => i) ?_ ?_
  · refine ⟨rfl, ?_, ?_, rfl, rfl, trivial, fun i h => h⟩
    · simp only [go_sem, ↓reduceIte]
    · simp only [go_sem, ↓reduceIte]
  · rintro ⟨i, hi, hsm⟩
    rcases Nat.lt_or_ge i l.length with hin | hin
    · have hc' : ((i : Int) < (l.length : Int)) := by omega
      have hmem : l.getD i [] ∈ l := by rw [show l.getD i [] = l[i]'hin from by simp [List.getD_eq_getElem?_getD, hin]]; exact List.getElem_mem _
      have hta : l.take (i + 1) = l.take i ++ [l.getD i []] := by rw [List.take_add_one]; simp [List.getD_eq_getElem?_getD, hin]
      have hlb := hl _ hmem
      generalize hb : l.getD i [] = b at *
      have hw : IntKind.i64.wrap ((i : Int) + 1) = ((i + 1 : Nat) : Int) := by rw [wrap_i64_id (by omega) (by omega)]; omega
      by_cases h9 : (b.length : Int) > 512
      · have hall : l.all (fun c => decide (c.length ≤ 512)) = false := by
          rw [List.all_eq_false]
          exact ⟨b, hmem, by simp; omega⟩
        rw [if_neg (by rw [hall]; simp)] at hR
        subst hR
        rw [if_neg (by decide)] at hD
        subst hD
        simp only [go_sem, ↓reduceIte, hP, hc', head_by, hb, byP, h9]
        exact ⟨by omega, by omega, dv0_eq⟩
      · simp only [go_sem, ↓reduceIte, hP, hc', head_by, hb, byP, h9, hw]
        refine ⟨by omega, by omega, ⟨i + 1, hin, fun x hx => ?_⟩, by simp only; omega, subG [0, 1] rfl ?_ ?_ rfl rfl (Nat.le_refl _)⟩
        · rw [hta] at hx
          rcases List.mem_append.1 hx with hx | hx
          · exact hsm x hx
          · simp at hx; subst hx; omega
        · simp only [go_sem, ↓reduceIte]
        · simp only [go_sem, ↓reduceIte]
    · obtain rfl : i = l.length := by omega
      rw [List.take_of_length_le (Nat.le_refl _)] at hsm
      have hc' : ¬ ((l.length : Int) < (l.length : Int)) := by omega
      have hall : l.all (fun c => decide (c.length ≤ 512)) = true := by
        rw [List.all_eq_true]
        exact fun c hcm => by simpa using hsm c hcm
      rw [if_pos hall] at hR
      subst hR
      rw [if_pos rfl] at hD
      simp only [go_sem, ↓reduceIte, hP, hc']
      first | refine xw_call hE (ks := [0, 1, 2, 3, 4, 5, 44, 49, 55, 64]) (n := 2000) (by rw [hP]; exact newFlash_c f.ps 2) ?_ | refine xd_call hE (ks := [0, 1, 2, 3, 4, 5, 44, 49, 55, 64]) (n := 2000) (by rw [hP]; exact newFlash_c f.ps 2) ?_
      subst hce
      generalize hF : newFl f.ps 2 = F at *
      subst hD
      simp only [go_sem, ↓reduceIte, hP]
      exact dv_eqI _ _ _ _ _ (eqP_refl _) (eqP_refl _) ⟨rfl, rfl⟩ ⟨rfl, rfl⟩
end Go.Proofs.YtebndjnkmcahaaaGreatDoor
end
/-
  Equal devices are found equal. Own work; no statement of the seat is proved here.
-/
section
namespace Go.Proofs.YtebndjnkmcahaaaGreatDoor
set_option linter.unusedSimpArgs false
set_option linter.unusedVariables false
open Go Go.Abs Go.RowKit

set_option maxHeartbeats 1000000 in
theorem sameBytes_c (l : List (List UInt8)) (n : Nat) (hn : l.length = n) (hb : n < 1000000000) : FPure Tryz.prog 75 [.p (.data 1 n (l.map byP)), .p (.data 1 n (l.map byP))] (.b true) := by
  refine fpure_x hmix Tryz.func75 rfl (by kernel_rfl) Tryz.ntmps75 Tryz.results75 (by simp) (by simp [idsL, idsA]) [0, 1, 4, 5, 10, 14, 27] ?_; intro c hP h0 hE
  simp only [go_sem, ↓reduceIte, hP]
  subst hn
  refine xw_for hE h0 [0, 1, 4, 5, 10, 14, 27] l.length (fun i => ⟨28, [(0, .p (.data 1 l.length (l.map byP))), (1, .p (.data 1 l.length (l.map byP))), (5, .i i)], [], 0⟩) [] (fun i => i) ?_ ?_
  · refine ⟨rfl, ?_, trivial, rfl, rfl, trivial, fun i h => h⟩
    simp only [go_sem, ↓reduceIte]
  · intro i hi
    rcases Nat.lt_or_ge i l.length with hin | hin
    · have hc : ((i : Int) < (l.length : Int)) := by omega
      have hw : IntKind.i64.wrap ((i : Int) + 1) = ((i + 1 : Nat) : Int) := by rw [wrap_i64_id (by omega) (by omega)]; omega
      simp only [go_sem, ↓reduceIte, hP, hc, head_by, byP, hw, unBs_bt, Abs.strOf, allB_bt, toList_of, beq_self_eq_true]
      refine ⟨by omega, by omega, by omega, by omega, by kernel_rfl, hin, subI rfl ?_ trivial rfl rfl (Nat.le_refl _)⟩
      simp only [go_sem, ↓reduceIte]
    · obtain rfl : i = l.length := by omega
      have hc : ¬ ((l.length : Int) < (l.length : Int)) := by omega
      simp only [go_sem, ↓reduceIte, hP, hc]

theorem sameFac_c (f : FacM) (hb : f.ce.length < 1000000000) : FPure Tryz.prog 28 [.agg (facC f), .agg (facC f)] (.b true) := by
  refine fpure_x hmix Tryz.func28 rfl (by kernel_rfl) Tryz.ntmps28 Tryz.results28 (by simp) (by simp [idsL, idsA]) [0, 1, 2, 3, 4] ?_; intro c hP h0 hE
  simp only [go_sem, ↓reduceIte, hP]
  first | refine xw_call hE (ks := [0, 1, 2, 3, 4]) (n := 2000) (by rw [hP]; exact sameBytes_c f.ce _ rfl hb) ?_ | refine xd_call hE (ks := [0, 1, 2, 3, 4]) (n := 2000) (by rw [hP]; exact sameBytes_c f.ce _ rfl hb) ?_
  simp only [go_sem, ↓reduceIte, hP]
def itC (x : ItM) : List AV := [.b x.act, .i x.sin, .w x.hsh, .i x.flg, .p (.data 1 x.ids.length (x.ids.map byP))]
attribute [go_sem] itC
@[simp] theorem itC_ids (T : List Nat) (f : ItM) : idsL T (itC f) := by simp [itC, idsL, idsA]
theorem sameNext_c (x : ItM) (hb : x.ids.length < 1000000000) : FPure Tryz.prog 30 [.agg (itC x), .agg (itC x)] (.b true) := by
  refine fpure_x hmix Tryz.func30 rfl (by kernel_rfl) Tryz.ntmps30 Tryz.results30 (by simp) (by simp [idsL, idsA]) [0, 1, 2, 3, 4] ?_; intro c hP h0 hE
  simp only [go_sem, ↓reduceIte, hP]
  first | refine xw_call hE (ks := [0, 1, 2, 3, 4]) (n := 2000) (by rw [hP]; exact sameBytes_c x.ids _ rfl hb) ?_ | refine xd_call hE (ks := [0, 1, 2, 3, 4]) (n := 2000) (by rw [hP]; exact sameBytes_c x.ids _ rfl hb) ?_
  simp only [go_sem, ↓reduceIte, hP]
set_option maxRecDepth 100000 in
theorem sameDev_c (d : DevM) (h1 : d.fac.ce.length < 1000000000) (h2 : d.nx.ids.length < 1000000000) (h3 : d.v.prs.length < 1000000000) : FPure Tryz.prog 10 [devA d, devA d] (.b true) := by
  refine fpure_x hmix Tryz.func10 rfl (by kernel_rfl) Tryz.ntmps10 Tryz.results10 (by simp) (by simp [idsL, idsA]) [0, 1, 2, 3, 4] ?_; intro c hP h0 hE
  simp only [go_sem, ↓reduceIte, hP]
  first | refine xw_call hE (ks := [0, 1, 2, 3, 4]) (n := 2000) (by rw [hP]; exact sameFac_c d.fac h1) ?_ | refine xd_call hE (ks := [0, 1, 2, 3, 4]) (n := 2000) (by rw [hP]; exact sameFac_c d.fac h1) ?_
  simp only [go_sem, ↓reduceIte, hP]
  first | refine xw_call hE (ks := [0, 1, 2, 3, 4]) (n := 2000) (by rw [hP]; exact sameVault_c d.v d.v _ _ h3) ?_ | refine xd_call hE (ks := [0, 1, 2, 3, 4]) (n := 2000) (by rw [hP]; exact sameVault_c d.v d.v _ _ h3) ?_
  have hsv : (sameJ d.v.j d.v.j && decide (d.v.prs = d.v.prs)) = true := by rw [sameJ_self]; simp
  rw [hsv]
  simp only [go_sem, ↓reduceIte, hP, beq_self_eq_true, Bool.and_self]
  first | refine xw_call hE (ks := [0, 1, 2, 3, 4]) (n := 2000) (by rw [hP]; exact sameNext_c d.nx h2) ?_ | refine xd_call hE (ks := [0, 1, 2, 3, 4]) (n := 2000) (by rw [hP]; exact sameNext_c d.nx h2) ?_
  simp only [go_sem, ↓reduceIte, hP]
end Go.Proofs.YtebndjnkmcahaaaGreatDoor
end

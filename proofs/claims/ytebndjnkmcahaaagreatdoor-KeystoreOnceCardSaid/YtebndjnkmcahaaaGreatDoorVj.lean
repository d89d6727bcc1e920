/-
  Contracts of the vault's admit, Get, Put. Own work; no statement of the seat is proved here.
-/
import Derived.Test.YtebndjnkmcahaaaGreatDoorVi
namespace Go.Proofs.YtebndjnkmcahaaaGreatDoor
set_option linter.unusedSimpArgs false
set_option linter.unusedVariables false
open Go Go.Abs Go.RowKit

def seenA (ks : List Int) : List AV := (List.range 256).map fun (k : Nat) => .b (decide ((k : Int) ∈ ks))
theorem seenA_len (ks : List Int) : (seenA ks).length = 256 := by simp [seenA]
theorem seenA_head (ks : List Int) (k : Nat) (h : k < 256) : headA (.v (.bool false)) ((seenA ks).drop k) = .b (decide ((k : Int) ∈ ks)) := by
  have : (seenA ks).drop k = .b (decide ((k : Int) ∈ ks)) :: (seenA ks).drop (k + 1) := by
    rw [List.drop_eq_getElem_cons (by rw [seenA_len]; exact h)]
    simp [seenA]
  rw [this]; rfl
theorem seenA_set (ks : List Int) (k : Nat) : (seenA ks).set k (.b true) = seenA (ks ++ [(k : Int)]) := by
  apply List.ext_getElem
  · simp [seenA]
  · intro i h1 h2
    rw [List.getElem_set]
    split
    · rename_i e; subst e; simp [seenA]
    · rename_i e
      have hi : ¬ (i : Int) = (k : Int) := by omega
      simp [seenA, hi]
theorem seenA_view (h : Heap) (S : List Nat) (σ : Nat → Nat) (ks : List Int) : viewAs h S σ (seenA ks) (seenA ks) := by
  have : seenA ks = ((List.range 256).map fun (k : Nat) => PV.v (.bool (decide ((k : Int) ∈ ks)))).map .p := by simp [seenA]
  rw [this]; exact viewAs_pure h S σ _
theorem seenA_0 : seenA [] = List.replicate 256 (.b false) := by
  unfold seenA
  rw [List.eq_replicate_iff]
  simp

def zbool : List Value := List.replicate 256 (.bool false)
theorem oneVs_rep (n : Nat) : oneVs (List.replicate n (.bool false)) = true := by
  induction n with
  | zero => rfl
  | succ n ih => rw [List.replicate_succ]; simp only [oneVs, Value.oneCell']; exact ih
theorem pvs_rep (n : Nat) : pvs (List.replicate n (.bool false)) = List.replicate n (.b false) := by
  induction n with
  | zero => rfl
  | succ n ih => rw [List.replicate_succ, List.replicate_succ]; simp only [pvs, ih]
theorem oneVs_z : oneVs zbool = true := oneVs_rep 256
theorem pvs_z : pvs zbool = seenA [] := by rw [seenA_0]; exact pvs_rep 256
set_option maxRecDepth 100000 in
theorem z_seen : z209 = zbool := by kernel_rfl
attribute [go_sem] z_seen oneVs_z pvs_z seenA_len

set_option maxHeartbeats 4000000 in
theorem vadmit_c (l : Store) (hl : l.length < 100000) (hsz : szM l < 1000000000000) : FPure Tryz.prog 98 [.p (PL l)] (.i (admitM l)) := by
  refine fpure_x hmix Tryz.func98 rfl (by kernel_rfl) Tryz.ntmps98 Tryz.results98 (by simp) (by simp [idsL, idsA]) [0, 2, 3, 5, 8, 9, 10, 11, 12, 22, 26, 33] ?_; intro c hP h0 hE
  obtain ⟨R, hR⟩ : ∃ R, admitM l = R := ⟨_, rfl⟩; rw [hR] at hE; (try rw [hR])
  unfold admitM at hR
  simp only [go_sem, ↓reduceIte, hP]
  by_cases hl0 : l = []
  · rw [if_pos (by rw [hl0]; rfl)]
    rw [if_pos hl0] at hR
    exact hR
  · have hlp : 0 < l.length := List.length_pos_iff.2 hl0
    rw [if_neg (by omega)]
    rw [if_neg hl0] at hR
    refine xw_loop hE h0 [0, 2, 3, 5, 8, 9, 10, 11, 12, 22, 26, 33] (α := { i : Nat // i ≤ l.length ∧ dupN [] l = dupN ((l.take i).map (·.1)) (l.drop i) }) (fun i => ⟨34, [(0, .p (PL l)), (3, .ptr 0 0), (9, .p (PL l)), (10, .i l.length), (11, .i i.1)],
        [(0, some ⟨209, seenA ((l.take i.1).map (·.1))⟩)], 1⟩) (fun i => l.length - i.1) ⟨0, Nat.zero_le _, by simp⟩ [] (fun i => i) ?_ ?_
    · refine ⟨rfl, ?_, ?_, rfl, rfl, trivial, fun i h => h⟩
      · simp only [go_sem, ↓reduceIte]
      · simp only [go_sem, ↓reduceIte]
        exact seenA_view _ _ _ _
    · rintro ⟨i, hi, hdup⟩
      rcases Nat.lt_or_ge i l.length with hin | hin
      · have hc : ((i : Int) < (l.length : Int)) := by omega
        have hat := prCs_at l i hin
        have hkt := keys_take l i hin
        rw [dup_step l i hin] at hdup
        simp only [dupN] at hdup
        generalize l.getD i (0, []) = p at *
        have hw : IntKind.i64.wrap ((i : Int) + 1) = ((i + 1 : Nat) : Int) := by rw [wrap_i64_id (by omega) (by omega)]; omega
        simp only [go_sem, ↓reduceIte, hP, hat, hc, byP, hw]
        refine ⟨by omega, ?_⟩
        by_cases hr : p.1 < 0 ∨ 255 < p.1
        · rw [if_pos hr] at hdup
          rw [hdup, if_pos (by decide)] at hR
          by_cases hneg : p.1 < 0
          · rw [if_neg (fun h => h hneg)]; exact hR
          · rw [if_pos hneg, if_pos (by omega)]; exact hR
        · rw [if_neg hr] at hdup
          rw [if_pos (by omega), if_neg (by omega)]
          obtain ⟨k, hk⟩ : ∃ k : Nat, p.1 = k := Int.eq_ofNat_of_zero_le (by omega)
          have hk2 : k < 256 := by omega
          refine ⟨⟨by omega, by omega⟩, by omega, ?_⟩
          rw [hk] at hdup hkt
          rw [hk, Int.toNat_natCast, seenA_head _ k hk2]
          simp only [go_sem, ↓reduceIte, hP]
          by_cases hin2 : (k : Int) ∈ (l.take i).map (·.1)
          · rw [if_pos hin2] at hdup
            rw [hdup, if_pos (by decide)] at hR
            rw [if_pos (by simpa using hin2)]
            exact hR
          · rw [if_neg hin2, ← hkt] at hdup
            rw [if_neg (by simpa using hin2)]
            simp only [go_sem, ↓reduceIte, hP, hw, seenA_set]
            rw [← hkt]
            refine ⟨⟨by omega, by omega⟩, by omega, ⟨i + 1, by omega, hdup⟩, by show l.length - (i + 1) < l.length - i; omega, subG [0] rfl ?_ ?_ rfl rfl (Nat.le_refl _)⟩
            · simp only [go_sem, ↓reduceIte]
            · simp only [go_sem, ↓reduceIte]
              exact seenA_view _ _ _ _
      · obtain rfl : i = l.length := by omega
        have hnc : ¬ ((l.length : Int) < (l.length : Int)) := by omega
        rw [List.drop_eq_nil_of_le (Nat.le_refl _)] at hdup
        simp only [dupN] at hdup
        rw [hdup] at hR
        simp only [ne_eq, not_true_eq_false, if_false] at hR
        simp only [go_sem, ↓reduceIte, hP, hnc]
        first | refine xw_call hE (ks := [0, 2, 3, 5, 8, 9, 10, 11, 12, 22, 26, 33]) (n := 2000) (by rw [hP]; exact vsize_c l hsz) ?_ | refine xd_call hE (ks := [0, 2, 3, 5, 8, 9, 10, 11, 12, 22, 26, 33]) (n := 2000) (by rw [hP]; exact vsize_c l hsz) ?_
        simp only [go_sem, ↓reduceIte, hP]
        by_cases h256 : 256 < szM l
        · rw [if_pos (by omega)]
          rw [if_pos h256] at hR
          exact hR
        · rw [if_neg (by omega)]
          rw [if_neg h256] at hR
          exact hR

set_option maxHeartbeats 2000000 in
theorem vget_c (v : Vt) (n : Nat) (k : Int) (hp : v.prs.length < 1000000000) (hl : ∀ x, x ∈ v.prs → x.2.length < 1000000000 ∧ x.2 ≠ []) : FPure Tryz.prog 72 [.agg [.i v.j.ps, .p (.data 1 n (v.j.bs.map bt)), .i v.j.page, .i v.j.gen, .i v.j.tail, .b v.j.torn, .p (PL v.prs)], .i k] (.p (.data 1 (vgetM k v.prs).length ((vgetM k v.prs).map bt))) := by
  refine fpure_x hmix Tryz.func72 rfl (by kernel_rfl) Tryz.ntmps72 Tryz.results72 (by simp) (by simp [idsL, idsA]) [0, 1, 2, 4, 6, 8, 9, 10, 11, 17] ?_; intro c hP h0 hE
  simp only [go_sem, ↓reduceIte, hP]
  generalize hv : v.prs = l at *
  refine xw_loop hE h0 [0, 1, 2, 4, 6, 8, 9, 10, 11, 17] (α := { i : Nat // i ≤ l.length ∧ ∀ x, x ∈ l.take i → x.1 ≠ k }) (fun i => ⟨22, [(1, .i k), (8, .p (PL l)), (9, .i l.length), (10, .i i.1)], [], 1⟩) (fun i => l.length - i.1) ⟨0, Nat.zero_le _, by simp⟩ [] (fun i => i) ?_ ?_
  · refine ⟨rfl, ?_, trivial, rfl, rfl, trivial, fun i h => h⟩
    simp only [go_sem, ↓reduceIte]
  · rintro ⟨i, hi, hno⟩
    rcases Nat.lt_or_ge i l.length with hin | hin
    · have hc : ((i : Int) < (l.length : Int)) := by omega
      have hat := prCs_at l i hin
      have hta := take_at l i hin
      have hmem : l.getD i (0, []) ∈ l := by rw [show l.getD i (0, []) = l[i]'hin from by simp [List.getD_eq_getElem?_getD, hin]]; exact List.getElem_mem _
      have hgl := hl _ hmem
      have hw : IntKind.i64.wrap ((i : Int) + 1) = ((i + 1 : Nat) : Int) := by rw [wrap_i64_id (by omega) (by omega)]; omega
      have hgt := vgetM_at k l i hin hno
      generalize l.getD i (0, []) = p at *
      simp only [go_sem, ↓reduceIte, hP, hat, hc, byP, hw]
      refine ⟨by omega, ?_⟩
      by_cases he : p.1 = k
      · rw [if_pos he]
        have hgt := hgt he
        first | refine xw_call hE (ks := [0, 1, 2, 4, 6, 8, 9, 10, 11, 17]) (n := 2000) (by rw [hP]; exact clone_p (p.2.map bt) _ (by simp) (fun e => hgl.2 (List.eq_nil_of_length_eq_zero e)) hgl.1) ?_ | refine xd_call hE (ks := [0, 1, 2, 4, 6, 8, 9, 10, 11, 17]) (n := 2000) (by rw [hP]; exact clone_p (p.2.map bt) _ (by simp) (fun e => hgl.2 (List.eq_nil_of_length_eq_zero e)) hgl.1) ?_
        rw [← hgt]
        simp only [go_sem, ↓reduceIte, hP]
      · rw [if_neg he]
        refine ⟨⟨i + 1, by omega, ?_⟩, by show l.length - (i + 1) < l.length - i; omega, subG [0] rfl ?_ ?_ rfl rfl (Nat.le_refl _)⟩
        · intro x hx
          rw [hta] at hx
          rcases List.mem_append.1 hx with hx | hx
          · exact hno x hx
          · simp at hx; rw [hx]; exact he
        · simp only [go_sem, ↓reduceIte]
        · simp only [go_sem, ↓reduceIte]
    · obtain rfl : i = l.length := by omega
      have hnc : ¬ ((l.length : Int) < (l.length : Int)) := by omega
      rw [List.take_of_length_le (Nat.le_refl _)] at hno
      simp only [go_sem, ↓reduceIte, hP, hnc, vgetM_no k l hno]

/-! Put -/
def vputX (v : Vt) (l now : Store) (budget : Int) : JR :=
  if (szM l : Int) ≤ jroomM v.j then appendM v.j (precM l) budget else rewriteM v.j (snapM now) budget
def vnowM (v : Vt) (l : Store) : Store := orderedM (applyM (applyM [] v.prs) l)
def vputM (v : Vt) (l : Store) (budget : Int) : VR :=
  if vgenM v = false then ⟨vt0, 0, 18⟩ else
  if admitM l ≠ 0 then ⟨vt0, 0, admitM l⟩ else
  if v.j.ps < 16 + 10 * ((vnowM v l).length : Int) + (szM (vnowM v l) : Int) then ⟨vt0, 0, 12⟩ else
  vfinM (vputX v l (vnowM v l) budget).j (vputX v l (vnowM v l) budget).left (vputX v l (vnowM v l) budget).err
theorem vgenM_is {v : Vt} (h : ¬ vgenM v = false) : genuineM v.j = true ∧ vpairsM v.j = v.prs := by
  unfold vgenM at h
  simpa using h
theorem vnow_mem {v : Vt} {l : Store} {x : Int × List UInt8} (h : x ∈ vnowM v l) : ((x ∈ l ∧ x.2 ≠ []) ∨ (x ∈ v.prs ∧ x.2 ≠ [])) := by
  unfold vnowM orderedM at h
  obtain ⟨y, hy, rfl⟩ := List.mem_map.1 h
  have hg := getS_of (k := y.1) ⟨y, hy, rfl⟩
  rcases applyM_mem hg with h1 | h1
  · exact .inl h1
  · rcases applyM_mem h1 with h1 | h1
    · exact .inr h1
    · cases h1

set_option maxHeartbeats 8000000 in
theorem vput_c (v : Vt) (n : Nat) (l : Store) (budget : Int) (hn : v.j.bs.length = n) (hb : n < 1000000000) (hl : l.length < 100000) (hls : ∀ x, x ∈ l → x.2.length < 1000000) (hB : i64 budget) :
    FPure Tryz.prog 39 [.agg [.i v.j.ps, .p (.data 1 n (v.j.bs.map bt)), .i v.j.page, .i v.j.gen, .i v.j.tail, .b v.j.torn, .p (PL v.prs)], .p (PL l), .i budget] (vrAV (vputM v l budget)) := by
  refine fpure_x hmix Tryz.func39 rfl (by kernel_rfl) Tryz.ntmps39 Tryz.results39 (by simp) (by simp [idsL, idsA]) [0, 1, 2, 3, 6, 7, 8, 9, 10, 11, 14, 19, 43, 50] ?_; intro c hP h0 hE
  obtain ⟨R, hR⟩ : ∃ R, vputM v l budget = R := ⟨_, rfl⟩; rw [hR] at hE; (try rw [hR])
  unfold vputM at hR
  have hlsz : szM l ≤ l.length * (3 + 1000000) := szM_bd l 1000000 (fun x hx => Nat.le_of_lt (hls x hx))
  have hlsz2 : l.length * (3 + 1000000) ≤ 100000 * (3 + 1000000) := Nat.mul_le_mul_right _ (by omega)
  simp only [go_sem, ↓reduceIte, hP]
  first | refine xw_call hE (ks := [0, 1, 2, 3, 6, 7, 8, 9, 10, 11, 14, 19, 43, 50]) (n := 2000) (by rw [hP]; exact vgenuine_c v n hn hb) ?_ | refine xd_call hE (ks := [0, 1, 2, 3, 6, 7, 8, 9, 10, 11, 14, 19, 43, 50]) (n := 2000) (by rw [hP]; exact vgenuine_c v n hn hb) ?_
  simp only [go_sem, ↓reduceIte, hP]
  by_cases hg : vgenM v = false
  · rw [if_pos hg] at hR ⊢
    subst hR
    exact ⟨⟨rfl, ⟨rfl, rfl⟩, rfl, rfl, rfl, rfl, rfl, rfl⟩, rfl, rfl⟩
  · rw [if_neg hg] at hR ⊢
    obtain ⟨hgj, hpr⟩ := vgenM_is hg
    have hssz := vpairs_sz v.j
    have hsbd := vpairs_len v.j
    have hsm := fun x (hx : x ∈ vpairsM v.j) => vpairs_mem hx
    rw [hpr] at hssz hsbd hsm
    first | refine xw_call hE (ks := [0, 1, 2, 3, 6, 7, 8, 9, 10, 11, 14, 19, 43, 50]) (n := 2000) (by rw [hP]; exact vadmit_c l hl (by omega)) ?_ | refine xd_call hE (ks := [0, 1, 2, 3, 6, 7, 8, 9, 10, 11, 14, 19, 43, 50]) (n := 2000) (by rw [hP]; exact vadmit_c l hl (by omega)) ?_
    simp only [go_sem, ↓reduceIte, hP]
    by_cases hadm : admitM l = 0
    · rw [if_neg (fun h => h hadm)] at hR ⊢
      have h256 : szM l ≤ 256 := by
        unfold admitM at hadm
        split at hadm
        · cases hadm
        · split at hadm
          · rename_i h1 h2; exact absurd hadm h2
          · split at hadm
            · cases hadm
            · omega
      have hkeys : ∀ x, x ∈ l → 0 ≤ x.1 ∧ x.1 ≤ 255 := by
        have key : ∀ (l : Store) (seen : List Int), dupN seen l = 0 → ∀ x, x ∈ l → 0 ≤ x.1 ∧ x.1 ≤ 255 := by
          intro l
          induction l with
          | nil => intro _ _ x hx; cases hx
          | cons p l ih =>
            intro seen h x hx
            simp only [dupN] at h
            split at h
            · cases h
            · split at h
              · cases h
              · rcases List.mem_cons.1 hx with rfl | hx
                · omega
                · exact ih _ h x hx
        refine key l [] ?_
        unfold admitM at hadm
        split at hadm
        · cases hadm
        · split at hadm
          · rename_i h1 h2; exact absurd hadm h2
          · rename_i h1 h2; simpa using h2
      have hal1 := applyM_len [] v.prs
      have hal2 := applyM_len (applyM [] v.prs) l
      have hge := szM_ge l
      have hnm := fun x (hx : x ∈ vnowM v l) => vnow_mem hx
      simp only [List.length_nil] at hal1
      refine xw_con hE (ks := [0, 1, 2, 3, 6, 7, 8, 9, 10, 11, 14, 19, 43, 50]) (n := 2000) [] (fun i => i + 2) 3 (by rw [hP]; exact apply_c [] v.prs (by simp; omega) (fun x hx => by have := hsm x hx; unfold i64; omega)) ⟨by simp only [go_sem, ↓reduceIte], by simp only [go_sem, ↓reduceIte], rfl, trivial, Nat.le_refl _, fun i hi => ?_, by simp [idsA, idsL, keys], by simp [idsH, idsL, idsA, keys], rfl⟩ ?_
      · simp [keys] at hi; simp [liveK]; omega
      simp only [go_sem, ↓reduceIte, hP]
      refine xw_con hE (ks := [0, 1, 2, 3, 6, 7, 8, 9, 10, 11, 14, 19, 43, 50]) (n := 2000) [] (fun i => i + 2) 3 (by rw [hP]; exact apply_c (applyM [] v.prs) l (by omega) (fun x hx => by have := hkeys x hx; unfold i64; omega)) ⟨by simp only [go_sem, ↓reduceIte], by simp only [go_sem, ↓reduceIte], rfl, trivial, Nat.le_refl _, fun i hi => ?_, by simp [idsA, idsL, keys], by simp [idsH, idsL, idsA, keys], rfl⟩ ?_
      · simp [keys] at hi; simp [liveK]; omega
      unfold vnowM at hR hnm
      generalize hst : applyM (applyM [] v.prs) l = st at *
      simp only [go_sem, ↓reduceIte, hP]
      refine xw_con hE (ks := 1000010 :: [0, 1, 2, 3, 6, 7, 8, 9, 10, 11, 14, 19, 43, 50]) (n := 2000) [] (fun i => i + 2) 4 (by rw [hP]; exact ordered_c st (by omega) (fun x hx => by
        have hg := getS_of (k := x.1) ⟨x, hx, rfl⟩
        have hm : (x.1, getS x.1 st) ∈ orderedM st := List.mem_map.2 ⟨x, hx, rfl⟩
        rcases hnm _ hm with ⟨h1, h2⟩ | ⟨h1, h2⟩
        · have q1 := hkeys _ h1
          have q2 := hls _ h1
          simp only at q1 q2 h2
          exact ⟨by unfold i64; omega, h2, by omega⟩
        · have q1 := hsm _ h1
          simp only at q1 h2
          exact ⟨by unfold i64; omega, h2, by omega⟩)) ⟨by simp only [go_sem, ↓reduceIte], by simp only [go_sem, ↓reduceIte], rfl, trivial, Nat.le_of_ble_eq_true rfl, fun i hi => ?_, by simp [idsA, idsL, keys], by simp only [idsH, idsL, idsL_prA, and_self], rfl⟩ ?_
      · simp [keys] at hi; simp [liveK]; omega
      have hol : (orderedM st).length = st.length := by simp [orderedM]
      have htp : (prA (orderedM st)).take (st.length * 2) = prA (orderedM st) := by rw [← hol, prA_all]
      simp only [go_sem, ↓reduceIte, hP]
      refine saw_frz1 hE (ks := [0, 1, 2, 3, 6, 7, 8, 9, 10, 11, 14, 19, 43, 50]) (n := 2000) 3 ?_ ?_
      · simp only [go_sem, ↓reduceIte, hP]
        exact ⟨by omega, fz1OL_pure _ _ _ (fun c hc => by
          obtain ⟨x, _, rfl⟩ := List.mem_map.1 hc
          trivial)⟩
      · simp only [go_sem, ↓reduceIte, hP, htp]
        have hnl : ∀ x, x ∈ orderedM st → x.2.length ≤ 8192 := fun x hx => by
          rcases hnm x hx with ⟨h1, _⟩ | ⟨h1, _⟩
          · have : ∀ l : Store, x ∈ l → 3 + x.2.length ≤ szM l := by
              intro l
              induction l with
              | nil => intro h; cases h
              | cons q l ih =>
                intro h
                simp only [szM]
                rcases List.mem_cons.1 h with rfl | h
                · omega
                · have := ih h; omega
            have := this l h1
            omega
          · exact (hsm x h1).2.2.2
        have hnsz := szM_bd (orderedM st) 8192 hnl
        have hnsz2 : (orderedM st).length * (3 + 8192) ≤ 10000 * (3 + 8192) := Nat.mul_le_mul_right _ (by omega)
        rw [← hol]
        rw [← hol] at hal2
        clear hol htp
        generalize orderedM st = now at *
        obtain ⟨pp, kk, qq, e1, e2, e3, -⟩ := genuineM_ok hgj
        first | refine xw_call hE (ks := [0, 1, 2, 3, 6, 7, 8, 9, 10, 11, 14, 19, 43, 50]) (n := 2000) (by rw [hP]; exact vsize_c now (by omega)) ?_ | refine xd_call hE (ks := [0, 1, 2, 3, 6, 7, 8, 9, 10, 11, 14, 19, 43, 50]) (n := 2000) (by rw [hP]; exact vsize_c now (by omega)) ?_
        simp only [go_sem, ↓reduceIte, hP]
        rw [wrap_i64_id (n := 10 * ((List.length now : Nat) : Int)) (by omega) (by omega), wrap_i64_id (n := 16 + 10 * ((List.length now : Nat) : Int)) (by omega) (by omega), wrap_i64_id (n := 16 + 10 * ((List.length now : Nat) : Int) + ((szM now : Nat) : Int)) (by omega) (by omega)]
        refine ⟨by kernel_rfl, ?_⟩
        by_cases hfull : v.j.ps < 16 + 10 * ((List.length now : Nat) : Int) + ((szM now : Nat) : Int)
        · rw [if_pos (by omega)]
          rw [if_pos hfull] at hR
          subst hR
          exact ⟨⟨rfl, ⟨rfl, rfl⟩, rfl, rfl, rfl, rfl, rfl, rfl⟩, rfl, rfl⟩
        · rw [if_neg (by omega)]
          rw [if_neg hfull] at hR
          unfold vputX at hR
          first | refine xw_call hE (ks := [0, 1, 2, 3, 6, 7, 8, 9, 10, 11, 14, 19, 43, 50]) (n := 2000) (by rw [hP]; exact vsize_c l (by omega)) ?_ | refine xd_call hE (ks := [0, 1, 2, 3, 6, 7, 8, 9, 10, 11, 14, 19, 43, 50]) (n := 2000) (by rw [hP]; exact vsize_c l (by omega)) ?_
          simp only [go_sem, ↓reduceIte, hP]
          first | refine xw_call hE (ks := [0, 1, 2, 3, 6, 7, 8, 9, 10, 11, 14, 19, 43, 50]) (n := 2000) (by rw [hP]; exact jRoom_c v.j n hn hb) ?_ | refine xd_call hE (ks := [0, 1, 2, 3, 6, 7, 8, 9, 10, 11, 14, 19, 43, 50]) (n := 2000) (by rw [hP]; exact jRoom_c v.j n hn hb) ?_
          simp only [go_sem, ↓reduceIte, hP]
          refine ⟨by kernel_rfl, ?_⟩
          by_cases hroom : ((szM l : Nat) : Int) ≤ jroomM v.j
          · rw [if_pos hroom] at hR ⊢
            first | refine xw_call hE (ks := [0, 1, 2, 3, 6, 7, 8, 9, 10, 11, 14, 19, 43, 50]) (n := 2000) (by rw [hP]; exact vrecord_c l (by omega)) ?_ | refine xd_call hE (ks := [0, 1, 2, 3, 6, 7, 8, 9, 10, 11, 14, 19, 43, 50]) (n := 2000) (by rw [hP]; exact vrecord_c l (by omega)) ?_
            have hpl := precM_len l
            have hxl := rappend_len v.j (precM l) budget hB (by omega) (by omega)
            rw [← append_law] at hxl
            simp only [go_sem, ↓reduceIte, hP]
            first | refine xw_call hE (ks := [0, 1, 2, 3, 6, 7, 8, 9, 10, 11, 14, 19, 43, 50]) (n := 2000) (by rw [hP]; exact jAppend_c v.j n (precM l) _ budget hn hb hpl (by omega) hB) ?_ | refine xd_call hE (ks := [0, 1, 2, 3, 6, 7, 8, 9, 10, 11, 14, 19, 43, 50]) (n := 2000) (by rw [hP]; exact jAppend_c v.j n (precM l) _ budget hn hb hpl (by omega) hB) ?_
            generalize appendM v.j (precM l) budget = X at *
            simp only [go_sem, ↓reduceIte, hP]
            first | refine xw_call hE (ks := [0, 1, 2, 3, 6, 7, 8, 9, 10, 11, 14, 19, 43, 50]) (n := 2000) (by rw [hP]; exact vfinish_c X.j _ X.left X.err rfl (by omega)) ?_ | refine xd_call hE (ks := [0, 1, 2, 3, 6, 7, 8, 9, 10, 11, 14, 19, 43, 50]) (n := 2000) (by rw [hP]; exact vfinish_c X.j _ X.left X.err rfl (by omega)) ?_
            have hfe : (if X.err = 0 then (⟨⟨X.j, vpairsM X.j⟩, X.left, 0⟩ : VR) else lostM X.j X.err) = vfinM X.j X.left X.err := rfl
            rw [hfe, hR]
            simp only [go_sem, ↓reduceIte, hP]
            (try exact ⟨by kernel_rfl, ⟨rfl, ⟨rfl, rfl⟩, rfl, rfl, rfl, rfl, rfl, rfl⟩, rfl, rfl⟩)
            refine Eq.trans (b := true) ?_ rfl
            kernel_rfl
          · rw [if_neg hroom] at hR ⊢
            first | refine xw_call hE (ks := [0, 1, 2, 3, 6, 7, 8, 9, 10, 11, 14, 19, 43, 50]) (n := 2000) (by rw [hP]; exact vsingle_c now (by omega)) ?_ | refine xd_call hE (ks := [0, 1, 2, 3, 6, 7, 8, 9, 10, 11, 14, 19, 43, 50]) (n := 2000) (by rw [hP]; exact vsingle_c now (by omega)) ?_
            have hel : ∀ b, b ∈ snapM now → b.length < 1000000 := fun b hb => by
              have := snap_le hb
              omega
            have hxl := rrewrite_len v.j (snapM now) budget hB (by omega) hel
            rw [← rewrite_law] at hxl
            simp only [go_sem, ↓reduceIte, hP]
            first | refine xw_call hE (ks := [0, 1, 2, 3, 6, 7, 8, 9, 10, 11, 14, 19, 43, 50]) (n := 2000) (by rw [hP]; exact jRewrite_c v.j n (snapM now) _ budget hn hb (snap_len now) (by omega) hel hB) ?_ | refine xd_call hE (ks := [0, 1, 2, 3, 6, 7, 8, 9, 10, 11, 14, 19, 43, 50]) (n := 2000) (by rw [hP]; exact jRewrite_c v.j n (snapM now) _ budget hn hb (snap_len now) (by omega) hel hB) ?_
            generalize rewriteM v.j (snapM now) budget = X at *
            simp only [go_sem, ↓reduceIte, hP]
            first | refine xw_call hE (ks := [0, 1, 2, 3, 6, 7, 8, 9, 10, 11, 14, 19, 43, 50]) (n := 2000) (by rw [hP]; exact vfinish_c X.j _ X.left X.err rfl (by omega)) ?_ | refine xd_call hE (ks := [0, 1, 2, 3, 6, 7, 8, 9, 10, 11, 14, 19, 43, 50]) (n := 2000) (by rw [hP]; exact vfinish_c X.j _ X.left X.err rfl (by omega)) ?_
            have hfe : (if X.err = 0 then (⟨⟨X.j, vpairsM X.j⟩, X.left, 0⟩ : VR) else lostM X.j X.err) = vfinM X.j X.left X.err := rfl
            rw [hfe, hR]
            simp only [go_sem, ↓reduceIte, hP]
            (try exact ⟨by kernel_rfl, ⟨rfl, ⟨rfl, rfl⟩, rfl, rfl, rfl, rfl, rfl, rfl⟩, rfl, rfl⟩)
            refine Eq.trans (b := true) ?_ rfl
            kernel_rfl
    · rw [if_pos hadm] at hR ⊢
      subst hR
      exact ⟨⟨rfl, ⟨rfl, rfl⟩, rfl, rfl, rfl, rfl, rfl, rfl⟩, rfl, rfl⟩

end Go.Proofs.YtebndjnkmcahaaaGreatDoor

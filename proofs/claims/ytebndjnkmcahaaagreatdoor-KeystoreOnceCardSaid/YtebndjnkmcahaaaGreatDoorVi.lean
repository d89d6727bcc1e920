/-
  Contracts of the vault's genuine, finish, Open, Get, admit, Put. Own work; no statement of the seat is proved here.
-/
import Derived.Test.YtebndjnkmcahaaaGreatDoorVh
namespace Go.Proofs.YtebndjnkmcahaaaGreatDoor
set_option linter.unusedSimpArgs false
set_option linter.unusedVariables false
open Go Go.Abs Go.RowKit

set_option maxHeartbeats 1000000 in
theorem pairEq_c (x y : Int × List UInt8) (m n : Nat) : FPure Tryz.prog 157 [.agg [.i x.1, .p (.data 1 m (x.2.map bt))], .agg [.i y.1, .p (.data 1 n (y.2.map bt))]] (.b (decide (x = y))) := by
  refine fpure_x hmix Tryz.func157 rfl (by kernel_rfl) Tryz.ntmps157 Tryz.results157 (by simp) (by simp [idsL, idsA]) [0, 1, 2, 3, 4] ?_; intro c hP h0 hE
  simp only [go_sem, ↓reduceIte, hP]
  by_cases h : x.1 = y.1
  · rw [if_pos h]
    first | refine xw_call hE (ks := [0, 1, 2, 3, 4]) (n := 2000) (by rw [hP]; exact equal_c x.2 y.2 m n) ?_ | refine xd_call hE (ks := [0, 1, 2, 3, 4]) (n := 2000) (by rw [hP]; exact equal_c x.2 y.2 m n) ?_
    simp only [go_sem, ↓reduceIte, hP]
    have : (x.2 == y.2) = decide (x = y) := by
      by_cases h2 : x.2 = y.2
      · have : x = y := Prod.ext h h2
        simp [this]
      · have hne : x ≠ y := fun e => h2 (by rw [e])
        simp [h2, hne]
    (try rw [this])
  · rw [if_neg h]
    have hne : x ≠ y := fun e => h (by rw [e])
    simp [hne]

set_option maxHeartbeats 2000000 in
theorem equalFunc_c (a b : Store) (ha : a.length < 1000000000) : FPure Tryz.prog 156 [.p (PL a), .p (PL b), .p (.v (.func (.func 157) #[] #[]))] (.b (decide (a = b))) := by
  refine fpure_x hmix Tryz.func156 rfl (by kernel_rfl) Tryz.ntmps156 Tryz.results156 (by simp) (by simp [idsL, idsA]) [0, 1, 2, 6, 7, 8, 9, 14, 15, 16, 17, 18, 30] ?_; intro c hP h0 hE
  simp only [go_sem, ↓reduceIte, hP]
  by_cases hl : a.length = b.length
  · rw [if_neg (by omega)]
    refine xw_loop hE h0 [0, 1, 2, 6, 7, 8, 9, 14, 15, 16, 17, 18, 30] (α := { i : Nat // i ≤ a.length ∧ a.take i = b.take i }) (fun i => ⟨32, [(1, .p (PL b)), (2, .p (.v (.func (.func 157) #[] #[]))), (15, .p (PL a)), (16, .i a.length), (17, .i i.1)], [], 0⟩) (fun i => a.length - i.1) ⟨0, Nat.zero_le _, by simp⟩ [] (fun i => i) ?_ ?_
    · refine ⟨rfl, ?_, trivial, rfl, rfl, trivial, fun i h => h⟩
      simp only [go_sem, ↓reduceIte]
    · rintro ⟨i, hi, he⟩
      rcases Nat.lt_or_ge i a.length with hin | hin
      · have hc : ((i : Int) < (a.length : Int)) := by omega
        have hc2 : ((i : Int) < (b.length : Int)) := by omega
        have hat := prCs_at a i hin
        have hat2 := prCs_at b i (by omega)
        have hta := take_at a i hin
        have htb := take_at b i (by omega)
        have hw : IntKind.i64.wrap ((i : Int) + 1) = ((i + 1 : Nat) : Int) := by rw [wrap_i64_id (by omega) (by omega)]; omega
        have hne : a.getD i (0, []) ≠ b.getD i (0, []) → a ≠ b := fun h e => by subst e; exact h rfl
        generalize a.getD i (0, []) = x at *
        generalize b.getD i (0, []) = y at *
        simp only [go_sem, ↓reduceIte, hP, hat, hat2, hc, hc2, hw, byP]
        refine ⟨by omega, by omega, ?_⟩
        first | refine xw_call hE (ks := [0, 1, 2, 6, 7, 8, 9, 14, 15, 16, 17, 18, 30]) (n := 2000) (by rw [hP]; exact pairEq_c x y _ _) ?_ | refine xd_call hE (ks := [0, 1, 2, 6, 7, 8, 9, 14, 15, 16, 17, 18, 30]) (n := 2000) (by rw [hP]; exact pairEq_c x y _ _) ?_
        simp only [go_sem, ↓reduceIte, hP, hw]
        by_cases hxy : x = y
        · rw [if_neg (by simp [hxy])]
          refine ⟨⟨i + 1, by omega, by rw [hta, htb, he, hxy]⟩, by show a.length - (i + 1) < a.length - i; omega, subG [] rfl ?_ ?_ rfl rfl (Nat.le_refl _)⟩
          · simp only [go_sem, ↓reduceIte]
          · simp only [go_sem, ↓reduceIte]
        · rw [if_pos (by simp [hxy])]
          simp [hne hxy]
      · obtain rfl : i = a.length := by omega
        have hnc : ¬ ((a.length : Int) < (a.length : Int)) := by omega
        have hab : a = b := by
          rw [List.take_of_length_le (Nat.le_refl _), List.take_of_length_le (by omega)] at he
          exact he
        simp only [go_sem, ↓reduceIte, hP, hnc]
        simp [hab]
  · rw [if_pos (by omega)]
    have : a ≠ b := fun e => hl (by rw [e])
    simp [this]

def vgenM (v : Vt) : Bool := genuineM v.j && decide (vpairsM v.j = v.prs)
theorem vpairs_len (j : Jn) : (vpairsM j).length ≤ 8192 := by
  have h1 := storeL_len (recsM j)
  have h2 := (recs_tot j).1
  have : (vpairsM j).length = (storeL (recsM j)).length := by simp [vpairsM, orderedM]
  omega

set_option maxHeartbeats 4000000 in
theorem vgenuine_c (v : Vt) (n : Nat) (hn : v.j.bs.length = n) (hb : n < 1000000000) : FPure Tryz.prog 97 [.agg [.i v.j.ps, .p (.data 1 n (v.j.bs.map bt)), .i v.j.page, .i v.j.gen, .i v.j.tail, .b v.j.torn, .p (PL v.prs)]] (.b (vgenM v)) := by
  refine fpure_x hmix Tryz.func97 rfl (by kernel_rfl) Tryz.ntmps97 Tryz.results97 (by simp) (by simp [idsL, idsA]) [0, 1, 2, 3, 4, 13, 43] ?_; intro c hP h0 hE
  simp only [go_sem, ↓reduceIte, hP]
  first | refine xw_call hE (ks := [0, 1, 2, 3, 4, 13, 43]) (n := 2000) (by rw [hP]; exact jMount_c v.j.ps v.j.bs n hn hb) ?_ | refine xd_call hE (ks := [0, 1, 2, 3, 4, 13, 43]) (n := 2000) (by rw [hP]; exact jMount_c v.j.ps v.j.bs n hn hb) ?_
  have hg : genuineM v.j = ((mountM ⟨v.j.ps, v.j.bs⟩).err == 0 && (mountM ⟨v.j.ps, v.j.bs⟩).j.page == v.j.page && (mountM ⟨v.j.ps, v.j.bs⟩).j.gen == v.j.gen && (mountM ⟨v.j.ps, v.j.bs⟩).j.tail == v.j.tail && (mountM ⟨v.j.ps, v.j.bs⟩).j.torn == v.j.torn) := rfl
  have hml : (mountM ⟨v.j.ps, v.j.bs⟩).j.bs.length ≤ n := by rw [← hn]; exact mount_len ⟨v.j.ps, v.j.bs⟩
  have hfl : (mountM ⟨v.j.ps, v.j.bs⟩).err = 0 → flOf (mountM ⟨v.j.ps, v.j.bs⟩).j = ⟨v.j.ps, v.j.bs⟩ := fun h => mount_fl h
  have hv : vgenM v = (genuineM v.j && decide (vpairsM v.j = v.prs)) := rfl
  generalize mountM ⟨v.j.ps, v.j.bs⟩ = M at *
  simp only [go_sem, ↓reduceIte, hP]
  by_cases h1 : M.err = 0
  · rw [if_neg (fun h => h h1)]
    by_cases h2 : M.j.page = v.j.page
    · rw [if_pos h2]
      by_cases h3 : M.j.gen = v.j.gen
      · rw [if_pos h3]
        by_cases h4 : M.j.tail = v.j.tail
        · rw [if_pos h4]
          by_cases h5 : M.j.torn = v.j.torn
          · rw [if_neg (fun h => h h5)]
            have hj : M.j = v.j := by
              have hf := hfl h1
              have f1 : M.j.ps = v.j.ps := congrArg Fl.ps hf
              have f2 : M.j.bs = v.j.bs := congrArg Fl.bs hf
              cases hM : M.j with | mk a b c d e f => cases hV : v.j with | mk a' b' c' d' e' f' => rw [hM, hV] at h2 h3 h4 h5 f1 f2; simp only at h2 h3 h4 h5 f1 f2; rw [h2, h3, h4, h5, f1, f2]
            have hgt : genuineM v.j = true := by rw [hg]; simp [h1, h2, h3, h4, h5]
            rw [hgt, Bool.true_and] at hv
            first | refine xw_call hE (ks := [0, 1, 2, 3, 4, 13, 43]) (n := 2000) (by rw [hP]; exact vpairs_c M.j _ rfl (by omega)) ?_ | refine xd_call hE (ks := [0, 1, 2, 3, 4, 13, 43]) (n := 2000) (by rw [hP]; exact vpairs_c M.j _ rfl (by omega)) ?_
            simp only [go_sem, ↓reduceIte, hP]
            first | refine xw_call hE (ks := [0, 1, 2, 3, 4, 13, 43]) (n := 2000) (by rw [hP]; exact equalFunc_c (vpairsM M.j) v.prs (by have := vpairs_len M.j; omega)) ?_ | refine xd_call hE (ks := [0, 1, 2, 3, 4, 13, 43]) (n := 2000) (by rw [hP]; exact equalFunc_c (vpairsM M.j) v.prs (by have := vpairs_len M.j; omega)) ?_
            rw [hj]
            simp only [go_sem, ↓reduceIte, hP]
            exact ⟨by kernel_rfl, by rw [hv]⟩
          · rw [if_pos h5]
            rw [hv, hg]; simp [h5]
        · rw [if_neg h4]
          rw [hv, hg]; simp [h4]
      · rw [if_neg h3]
        rw [hv, hg]; simp [h3]
    · rw [if_neg h2]
      rw [hv, hg]; simp [h2]
  · rw [if_pos h1]
    rw [hv, hg]; simp [h1]

set_option maxHeartbeats 1000000 in
theorem vfinish_c (j : Jn) (n : Nat) (left e : Int) (hn : j.bs.length = n) (hb : n < 1000000000) : FPure Tryz.prog 96 [.agg [.i j.ps, .p (.data 1 n (j.bs.map bt)), .i j.page, .i j.gen, .i j.tail, .b j.torn], .i left, .i e] (vrAV (if e = 0 then ⟨⟨j, vpairsM j⟩, left, 0⟩ else lostM j e)) := by
  refine fpure_x hmix Tryz.func96 rfl (by kernel_rfl) Tryz.ntmps96 Tryz.results96 (by simp) (by simp [idsL, idsA]) [0, 1, 2, 3, 6, 7, 8, 9, 10, 17] ?_; intro c hP h0 hE
  obtain ⟨R, hR⟩ : ∃ R, (if e = 0 then (⟨⟨j, vpairsM j⟩, left, 0⟩ : VR) else lostM j e) = R := ⟨_, rfl⟩; rw [hR] at hE; (try rw [hR])
  simp only [go_sem, ↓reduceIte, hP]
  by_cases h0 : e = 0
  · rw [if_pos h0] at hR ⊢
    first | refine xw_call hE (ks := [0, 1, 2, 3, 6, 7, 8, 9, 10, 17]) (n := 2000) (by rw [hP]; exact vpairs_c j n hn hb) ?_ | refine xd_call hE (ks := [0, 1, 2, 3, 6, 7, 8, 9, 10, 17]) (n := 2000) (by rw [hP]; exact vpairs_c j n hn hb) ?_
    simp only [go_sem, ↓reduceIte, hP]
    subst hR
    exact ⟨by kernel_rfl, ⟨rfl, ⟨hn.symm, rfl⟩, rfl, rfl, rfl, rfl, rfl, rfl⟩, rfl, rfl⟩
  · rw [if_neg h0] at hR ⊢
    unfold lostM at hR
    by_cases h16 : e = 16
    · rw [if_pos h16] at hR ⊢
      subst hR
      exact ⟨⟨rfl, ⟨hn.symm, rfl⟩, rfl, rfl, rfl, rfl, rfl, rfl⟩, rfl, h16⟩
    · rw [if_neg h16] at hR ⊢
      subst hR
      exact ⟨⟨rfl, ⟨rfl, rfl⟩, rfl, rfl, rfl, rfl, rfl, rfl⟩, rfl, rfl⟩

def vfinM (j : Jn) (left e : Int) : VR := if e = 0 then ⟨⟨j, vpairsM j⟩, left, 0⟩ else lostM j e
def vopenT (j : Jn) (left e : Int) : VR :=
  if e = 0 ∧ j.torn = true then vfinM (rewriteM j (snapM (vpairsM j)) left).j (rewriteM j (snapM (vpairsM j)) left).left (rewriteM j (snapM (vpairsM j)) left).err else vfinM j left e
def vopenM (f : Fl) (budget : Int) : VR :=
  if (mountM f).err = 11 then vopenT (formatM f budget).j (formatM f budget).left (formatM f budget).err else vopenT (mountM f).j budget (mountM f).err
theorem vpairs_mem {j : Jn} {x : Int × List UInt8} (h : x ∈ vpairsM j) : x.2 ≠ [] ∧ 0 ≤ x.1 ∧ x.1 ≤ 255 ∧ x.2.length ≤ 8192 := by
  unfold vpairsM orderedM at h
  obtain ⟨y, hy, rfl⟩ := List.mem_map.1 h
  have hg := getS_of (k := y.1) ⟨y, hy, rfl⟩
  obtain ⟨g1, b, hb, hg2⟩ := storeL_mem hg
  have h1 := parseM_mem hg2
  have h2 := (recs_tot j).2 b hb
  exact ⟨g1, h1.1, h1.2.1, by simp only at h1 ⊢; omega⟩
theorem vpairs_sz (j : Jn) : szM (vpairsM j) < 100000000 := by
  have h1 := szM_bd (vpairsM j) 8192 (fun x hx => (vpairs_mem hx).2.2.2)
  have h2 := Nat.mul_le_mul_right (3 + 8192) (vpairs_len j)
  omega

set_option maxHeartbeats 4000000 in
theorem vopen_c (ps : Int) (bs : List UInt8) (n : Nat) (budget : Int) (hn : bs.length = n) (hb : n < 1000000000) (hB : i64 budget) :
    FPure Tryz.prog 36 [.agg [.i ps, .p (.data 1 n (bs.map bt))], .i budget] (vrAV (vopenM ⟨ps, bs⟩ budget)) := by
  refine fpure_x hmix Tryz.func36 rfl (by kernel_rfl) Tryz.ntmps36 Tryz.results36 (by simp) (by simp [idsL, idsA]) [0, 1, 2, 4, 5, 6, 7, 8, 15, 28] ?_; intro c hP h0 hE
  obtain ⟨R, hR⟩ : ∃ R, vopenM ⟨ps, bs⟩ budget = R := ⟨_, rfl⟩; rw [hR] at hE; (try rw [hR])
  unfold vopenM at hR
  simp only [go_sem, ↓reduceIte, hP]
  first | refine xw_call hE (ks := [0, 1, 2, 4, 5, 6, 7, 8, 15, 28]) (n := 2000) (by rw [hP]; exact jMount_c ps bs n hn hb) ?_ | refine xd_call hE (ks := [0, 1, 2, 4, 5, 6, 7, 8, 15, 28]) (n := 2000) (by rw [hP]; exact jMount_c ps bs n hn hb) ?_
  have hml : (mountM ⟨ps, bs⟩).j.bs.length ≤ n := by rw [← hn]; exact mount_len ⟨ps, bs⟩
  generalize mountM ⟨ps, bs⟩ = M at *
  simp only [go_sem, ↓reduceIte, hP]
  by_cases h11 : M.err = 11
  · rw [if_pos h11] at hR ⊢
    first | refine xw_call hE (ks := [0, 1, 2, 4, 5, 6, 7, 8, 15, 28]) (n := 2000) (by rw [hP]; exact jFormat_c ps bs n budget hn hb hB) ?_ | refine xd_call hE (ks := [0, 1, 2, 4, 5, 6, 7, 8, 15, 28]) (n := 2000) (by rw [hP]; exact jFormat_c ps bs n budget hn hb hB) ?_
    rw [format_law] at hR ⊢
    obtain ⟨hfl, hfb⟩ := rformat_bd ⟨ps, bs⟩ budget hB (by show bs.length < _; omega)
    have hfb : (rformatM ⟨ps, bs⟩ budget).j.bs.length ≤ bs.length := hfb
    generalize rformatM ⟨ps, bs⟩ budget = G at *
    simp only [go_sem, ↓reduceIte, hP]
    unfold vopenT at hR
    by_cases he : G.err = 0
    · rw [if_pos he]
      by_cases htn : G.j.torn = true
      · rw [if_pos htn]
        rw [if_pos ⟨he, htn⟩] at hR
        first | refine xw_call hE (ks := [0, 1, 2, 4, 5, 6, 7, 8, 15, 28]) (n := 2000) (by rw [hP]; exact vpairs_c G.j _ rfl (by omega)) ?_ | refine xd_call hE (ks := [0, 1, 2, 4, 5, 6, 7, 8, 15, 28]) (n := 2000) (by rw [hP]; exact vpairs_c G.j _ rfl (by omega)) ?_
        have hsz := vpairs_sz G.j
        have hbd := vpairs_len G.j
        have hmem := fun x (hx : x ∈ vpairsM G.j) => (vpairs_mem hx).2.2.2
        generalize vpairsM G.j = l at *
        simp only [go_sem, ↓reduceIte, hP]
        first | refine xw_call hE (ks := [0, 1, 2, 4, 5, 6, 7, 8, 15, 28]) (n := 2000) (by rw [hP]; exact vsingle_c l (by omega)) ?_ | refine xd_call hE (ks := [0, 1, 2, 4, 5, 6, 7, 8, 15, 28]) (n := 2000) (by rw [hP]; exact vsingle_c l (by omega)) ?_
        have hel : ∀ b, b ∈ snapM l → b.length < 1000000 := fun b hb => by have := (snap_el hsz hb).2 8192 hmem; omega
        have hxl := rrewrite_len G.j (snapM l) G.left hfl (by omega) hel
        rw [← rewrite_law] at hxl
        simp only [go_sem, ↓reduceIte, hP]
        first | refine xw_call hE (ks := [0, 1, 2, 4, 5, 6, 7, 8, 15, 28]) (n := 2000) (by rw [hP]; exact jRewrite_c G.j _ (snapM l) _ G.left rfl (by omega) (snap_len l) (by omega) hel hfl) ?_ | refine xd_call hE (ks := [0, 1, 2, 4, 5, 6, 7, 8, 15, 28]) (n := 2000) (by rw [hP]; exact jRewrite_c G.j _ (snapM l) _ G.left rfl (by omega) (snap_len l) (by omega) hel hfl) ?_
        generalize rewriteM G.j (snapM l) G.left = X at *
        simp only [go_sem, ↓reduceIte, hP]
        refine ⟨by kernel_rfl, ?_⟩
        first | refine xw_call hE (ks := [0, 1, 2, 4, 5, 6, 7, 8, 15, 28]) (n := 2000) (by rw [hP]; exact vfinish_c X.j _ X.left X.err rfl (by omega)) ?_ | refine xd_call hE (ks := [0, 1, 2, 4, 5, 6, 7, 8, 15, 28]) (n := 2000) (by rw [hP]; exact vfinish_c X.j _ X.left X.err rfl (by omega)) ?_
        have hfe : (if X.err = 0 then (⟨⟨X.j, vpairsM X.j⟩, X.left, 0⟩ : VR) else lostM X.j X.err) = vfinM X.j X.left X.err := rfl
        rw [hfe, hR]
        simp only [go_sem, ↓reduceIte, hP]
        (try exact ⟨⟨rfl, ⟨rfl, rfl⟩, rfl, rfl, rfl, rfl, rfl, rfl⟩, rfl, rfl⟩)
      · rw [if_neg htn]
        rw [if_neg (fun h => htn h.2)] at hR
        first | refine xw_call hE (ks := [0, 1, 2, 4, 5, 6, 7, 8, 15, 28]) (n := 2000) (by rw [hP]; exact vfinish_c G.j _ G.left G.err rfl (by omega)) ?_ | refine xd_call hE (ks := [0, 1, 2, 4, 5, 6, 7, 8, 15, 28]) (n := 2000) (by rw [hP]; exact vfinish_c G.j _ G.left G.err rfl (by omega)) ?_
        have hfe : (if G.err = 0 then (⟨⟨G.j, vpairsM G.j⟩, G.left, 0⟩ : VR) else lostM G.j G.err) = vfinM G.j G.left G.err := rfl
        rw [hfe, hR]
        simp only [go_sem, ↓reduceIte, hP]
        (try exact ⟨⟨rfl, ⟨rfl, rfl⟩, rfl, rfl, rfl, rfl, rfl, rfl⟩, rfl, rfl⟩)
    · rw [if_neg he]
      rw [if_neg (fun h => he h.1)] at hR
      first | refine xw_call hE (ks := [0, 1, 2, 4, 5, 6, 7, 8, 15, 28]) (n := 2000) (by rw [hP]; exact vfinish_c G.j _ G.left G.err rfl (by omega)) ?_ | refine xd_call hE (ks := [0, 1, 2, 4, 5, 6, 7, 8, 15, 28]) (n := 2000) (by rw [hP]; exact vfinish_c G.j _ G.left G.err rfl (by omega)) ?_
      have hfe : (if G.err = 0 then (⟨⟨G.j, vpairsM G.j⟩, G.left, 0⟩ : VR) else lostM G.j G.err) = vfinM G.j G.left G.err := rfl
      rw [hfe, hR]
      simp only [go_sem, ↓reduceIte, hP]
      (try exact ⟨⟨rfl, ⟨rfl, rfl⟩, rfl, rfl, rfl, rfl, rfl, rfl⟩, rfl, rfl⟩)
  · rw [if_neg h11] at hR ⊢
    unfold vopenT at hR
    by_cases he : M.err = 0
    · rw [if_pos he]
      by_cases htn : M.j.torn = true
      · rw [if_pos htn]
        rw [if_pos ⟨he, htn⟩] at hR
        first | refine xw_call hE (ks := [0, 1, 2, 4, 5, 6, 7, 8, 15, 28]) (n := 2000) (by rw [hP]; exact vpairs_c M.j _ rfl (by omega)) ?_ | refine xd_call hE (ks := [0, 1, 2, 4, 5, 6, 7, 8, 15, 28]) (n := 2000) (by rw [hP]; exact vpairs_c M.j _ rfl (by omega)) ?_
        have hsz := vpairs_sz M.j
        have hbd := vpairs_len M.j
        have hmem := fun x (hx : x ∈ vpairsM M.j) => (vpairs_mem hx).2.2.2
        generalize vpairsM M.j = l at *
        simp only [go_sem, ↓reduceIte, hP]
        first | refine xw_call hE (ks := [0, 1, 2, 4, 5, 6, 7, 8, 15, 28]) (n := 2000) (by rw [hP]; exact vsingle_c l (by omega)) ?_ | refine xd_call hE (ks := [0, 1, 2, 4, 5, 6, 7, 8, 15, 28]) (n := 2000) (by rw [hP]; exact vsingle_c l (by omega)) ?_
        have hel : ∀ b, b ∈ snapM l → b.length < 1000000 := fun b hb => by have := (snap_el hsz hb).2 8192 hmem; omega
        have hxl := rrewrite_len M.j (snapM l) budget hB (by omega) hel
        rw [← rewrite_law] at hxl
        simp only [go_sem, ↓reduceIte, hP]
        first | refine xw_call hE (ks := [0, 1, 2, 4, 5, 6, 7, 8, 15, 28]) (n := 2000) (by rw [hP]; exact jRewrite_c M.j _ (snapM l) _ budget rfl (by omega) (snap_len l) (by omega) hel hB) ?_ | refine xd_call hE (ks := [0, 1, 2, 4, 5, 6, 7, 8, 15, 28]) (n := 2000) (by rw [hP]; exact jRewrite_c M.j _ (snapM l) _ budget rfl (by omega) (snap_len l) (by omega) hel hB) ?_
        generalize rewriteM M.j (snapM l) budget = X at *
        simp only [go_sem, ↓reduceIte, hP]
        refine ⟨by kernel_rfl, ?_⟩
        first | refine xw_call hE (ks := [0, 1, 2, 4, 5, 6, 7, 8, 15, 28]) (n := 2000) (by rw [hP]; exact vfinish_c X.j _ X.left X.err rfl (by omega)) ?_ | refine xd_call hE (ks := [0, 1, 2, 4, 5, 6, 7, 8, 15, 28]) (n := 2000) (by rw [hP]; exact vfinish_c X.j _ X.left X.err rfl (by omega)) ?_
        have hfe : (if X.err = 0 then (⟨⟨X.j, vpairsM X.j⟩, X.left, 0⟩ : VR) else lostM X.j X.err) = vfinM X.j X.left X.err := rfl
        rw [hfe, hR]
        simp only [go_sem, ↓reduceIte, hP]
        (try exact ⟨⟨rfl, ⟨rfl, rfl⟩, rfl, rfl, rfl, rfl, rfl, rfl⟩, rfl, rfl⟩)
      · rw [if_neg htn]
        rw [if_neg (fun h => htn h.2)] at hR
        first | refine xw_call hE (ks := [0, 1, 2, 4, 5, 6, 7, 8, 15, 28]) (n := 2000) (by rw [hP]; exact vfinish_c M.j _ budget M.err rfl (by omega)) ?_ | refine xd_call hE (ks := [0, 1, 2, 4, 5, 6, 7, 8, 15, 28]) (n := 2000) (by rw [hP]; exact vfinish_c M.j _ budget M.err rfl (by omega)) ?_
        have hfe : (if M.err = 0 then (⟨⟨M.j, vpairsM M.j⟩, budget, 0⟩ : VR) else lostM M.j M.err) = vfinM M.j budget M.err := rfl
        rw [hfe, hR]
        simp only [go_sem, ↓reduceIte, hP]
        (try exact ⟨⟨rfl, ⟨rfl, rfl⟩, rfl, rfl, rfl, rfl, rfl, rfl⟩, rfl, rfl⟩)
    · rw [if_neg he]
      rw [if_neg (fun h => he h.1)] at hR
      first | refine xw_call hE (ks := [0, 1, 2, 4, 5, 6, 7, 8, 15, 28]) (n := 2000) (by rw [hP]; exact vfinish_c M.j _ budget M.err rfl (by omega)) ?_ | refine xd_call hE (ks := [0, 1, 2, 4, 5, 6, 7, 8, 15, 28]) (n := 2000) (by rw [hP]; exact vfinish_c M.j _ budget M.err rfl (by omega)) ?_
      have hfe : (if M.err = 0 then (⟨⟨M.j, vpairsM M.j⟩, budget, 0⟩ : VR) else lostM M.j M.err) = vfinM M.j budget M.err := rfl
      rw [hfe, hR]
      simp only [go_sem, ↓reduceIte, hP]
      (try exact ⟨⟨rfl, ⟨rfl, rfl⟩, rfl, rfl, rfl, rfl, rfl, rfl⟩, rfl, rfl⟩)

end Go.Proofs.YtebndjnkmcahaaaGreatDoor

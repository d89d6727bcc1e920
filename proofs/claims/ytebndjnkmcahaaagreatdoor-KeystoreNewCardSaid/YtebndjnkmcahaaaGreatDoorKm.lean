/-
  The law KeystoreNew: the contract of its function. Own work.
-/
import Derived.Test.YtebndjnkmcahaaaGreatDoorKl
namespace Go.Proofs.YtebndjnkmcahaaaGreatDoor
set_option linter.unusedSimpArgs false
set_option linter.unusedVariables false
open Go Go.Abs Go.RowKit

theorem newD_small (f : FacM) (h : f.ce.length < 1000000000) : (newD f).fac.ce.length < 1000000000 ∧ (newD f).nx.ids.length < 1000000000 ∧ (newD f).v.prs.length < 1000000000 := by
  unfold newD
  split
  · exact ⟨h, Nat.zero_lt_of_lt h, Nat.zero_lt_of_lt h⟩
  · exact ⟨Nat.zero_lt_of_lt h, Nat.zero_lt_of_lt h, Nat.zero_lt_of_lt h⟩
def zeroB (n : Nat) : List UInt8 := List.replicate n 0
theorem zero_data (n : Nat) : PV.data 1 n (List.replicate n (.v (.int .u8 0))) = byP (zeroB n) := by simp [byP, zeroB, bt]
theorem take_rep {α : Type} (n : Nat) (x : α) : List.take n (List.replicate n x) = List.replicate n x := List.take_of_length_le (by simp)
theorem allQ_rep (n : Nat) (x : PV) : allQ (List.replicate n (.p x)) := by
  have : List.replicate n (AV.p x) = (List.replicate n x).map .p := by simp
  rw [this]; exact allQ_map _
theorem unQs_rep (n : Nat) (x : PV) : unQs (List.replicate n (.p x)) = List.replicate n x := by
  have : List.replicate n (AV.p x) = (List.replicate n x).map .p := by simp
  rw [this]; exact unQs_map _
theorem allP_rep (n : Nat) (x : PV) : allP (List.replicate n (.p x)) := by
  intro c hc
  rw [(List.mem_replicate.1 hc).2]
  trivial
theorem fz1L_rep (i : Nat) (b : Blk) (n : Nat) (x : PV) : fz1L i b (List.replicate n (.p x)) = List.replicate n (.p x) := fz1L_pure i b _ (allP_rep n x)
theorem fz1OL_rep (i : Nat) (b : Blk) (n : Nat) (x : PV) : fz1OL i b (List.replicate n (.p x)) := fz1OL_pure i b _ (allP_rep n x)
def noneB (n : Nat) : List (List UInt8) := List.replicate n []
theorem noneB_small {n : Nat} (h : n < 1000000000) : (noneB n).length < 1000000000 ∧ ∀ b, b ∈ noneB n → b.length < 1000000000 :=
  ⟨by simpa [noneB] using h, fun b hb => by rw [(List.mem_replicate.1 hb).2]; decide⟩
theorem zeroB_small {n : Nat} (h : n < 1000000000) : [zeroB n].length < 1000000000 ∧ ∀ b, b ∈ [zeroB n] → b.length < 1000000000 :=
  ⟨by simp, fun b hb => by rw [List.mem_singleton.1 hb]; simpa [zeroB] using h⟩
theorem rdP_nils {F : FSet} {w : World} {n : Nat} {cs : List PV} {u : Value} (h : RdP F w (.data 1 n cs) u) (hc : ∀ c, c ∈ cs → c = .v (.slice none 0 0)) : RdP F w (.data 1 n (List.replicate cs.length (.data 1 0 []))) u := by
  cases h with
  | nil _ A cap => exact .nil _ _ _
  | data _ _ _ b off cap f hl hcap hF hcl h1 hr =>
    refine .data _ _ _ b off cap f (by simpa using hl) hcap hF (fun j hj => hcl j (by simpa using hj)) (fun j hj => h1 j (by simpa using hj)) (fun j c hj => ?_)
    obtain ⟨hj1, rfl⟩ := List.getElem?_eq_some_iff.1 hj
    have hlt : j < cs.length := by simpa using hj1
    have := hr j _ (List.getElem?_eq_getElem hlt)
    rw [hc _ (List.getElem_mem hlt)] at this
    rw [List.getElem_replicate]
    generalize f j = u at this ⊢
    cases this
    exact .nil _ _ _
theorem nil_fac {P : Program} {f : FuncId} {v : AV} (g : FacM) (m : Nat) (h : FPure P f [.agg (facC { g with ce := noneB m })] v) : FPure P f [.agg [.w g.mo, .w g.se, .i g.ps, .b g.fi, .w g.ase, .i g.ah, .i g.af, .i g.ato, .p (.data 1 m (List.replicate m (.v (.slice none 0 0))))]] v := by
  intro hh
  obtain ⟨h2⟩ := h hh
  refine ⟨fun ρ F us w hpre hz hr => h2 ρ F us w hpre hz ?_⟩
  intro j c hj
  rcases j with _ | j
  · simp only [List.getElem?_cons_zero, Option.some.injEq] at hj
    subst hj
    have h0 := hr 0 _ rfl
    generalize us.getD 0 undef = u at h0 ⊢
    cases h0 with
    | agg _ us hl hr' =>
      refine .agg _ us hl fun j c hj => ?_
      rcases j with _ | _ | _ | _ | _ | _ | _ | _ | _ | j
      · exact hr' 0 c hj
      · exact hr' 1 c hj
      · exact hr' 2 c hj
      · exact hr' 3 c hj
      · exact hr' 4 c hj
      · exact hr' 5 c hj
      · exact hr' 6 c hj
      · exact hr' 7 c hj
      · have h8 := hr' 8 _ rfl
        simp only [facC, List.getElem?_cons_succ, List.getElem?_cons_zero, Option.some.injEq] at hj
        subst hj
        cases h8 with
        | p _ _ h =>
          have := rdP_nils h (fun c hc => (List.mem_replicate.1 hc).2)
          rw [List.length_replicate] at this
          refine .p _ _ ?_
          have e : (noneB m).map byP = List.replicate m (.data 1 0 []) := by simp [noneB, byP]
          rw [e, show (noneB m).length = m from List.length_replicate]
          exact this
      · simp [facC] at hj
  · simp at hj
theorem fac_small (n : Int) : (facM n).ce.length < 1000000000 ∧ ∀ b, b ∈ (facM n).ce → b.length < 1000000000 := by
  have hc : (facM n).ce = ([[111, 110, 101], [116, 119, 111]] : List (List UInt8)).take (1 + band .i64 (ishr .i64 n 9) 1).toNat := rfl
  rw [hc]
  constructor
  · rw [List.length_take]; simp; omega
  · intro b hb
    have := List.mem_of_mem_take hb
    simp only [List.mem_cons, List.not_mem_nil, or_false] at this
    rcases this with rfl | rfl <;> decide
set_option maxRecDepth 100000 in
set_option maxHeartbeats 8000000 in
theorem knew_c (f : FacM) (n : Int) (hc : f.ce.length ≤ 9223372036854775807) (hl : ∀ b, b ∈ f.ce → b.length ≤ 9223372036854775807) : FPure Tryz.prog 3 [.agg (facC f), .i n] (.b true) := by
  refine fpure_x hmix Tryz.func3 rfl (by kernel_rfl) Tryz.ntmps3 Tryz.results3 (by simp) (by simp [idsL, idsA]) [0, 1, 2, 4, 5, 6, 7, 8, 9, 10, 11, 12, 13, 14, 15, 24, 30, 39, 49, 50, 58, 64, 70, 76, 82] ?_; intro c hP h0 hE
  by_cases h1 : (f.ce.length : Int) > 10
  · simp only [go_sem, ↓reduceIte, hP, h1]
    first | refine xw_call hE (ks := [0, 1, 2, 4, 5, 6, 7, 8, 9, 10, 11, 12, 13, 14, 15, 24, 30, 39, 49, 50, 58, 64, 70, 76, 82]) (n := 2000) (by rw [hP]; exact awake17_c) ?_ | refine xd_call hE (ks := [0, 1, 2, 4, 5, 6, 7, 8, 9, 10, 11, 12, 13, 14, 15, 24, 30, 39, 49, 50, 58, 64, 70, 76, 82]) (n := 2000) (by rw [hP]; exact awake17_c) ?_
    simp only [go_sem, ↓reduceIte, hP]
  by_cases h2 : f.ps > 8192
  · simp only [go_sem, ↓reduceIte, hP, h1, h2]
    first | refine xw_call hE (ks := [0, 1, 2, 4, 5, 6, 7, 8, 9, 10, 11, 12, 13, 14, 15, 24, 30, 39, 49, 50, 58, 64, 70, 76, 82]) (n := 2000) (by rw [hP]; exact awake17_c) ?_ | refine xd_call hE (ks := [0, 1, 2, 4, 5, 6, 7, 8, 9, 10, 11, 12, 13, 14, 15, 24, 30, 39, 49, 50, 58, 64, 70, 76, 82]) (n := 2000) (by rw [hP]; exact awake17_c) ?_
    simp only [go_sem, ↓reduceIte, hP]
  simp only [go_sem, ↓reduceIte, hP, h1, h2]
  generalize hce : f.ce = l at *
  refine xw_loop hE h0 [0, 1, 2, 4, 5, 6, 7, 8, 9, 10, 11, 12, 13, 14, 15, 24, 30, 39, 49, 50, 58, 64, 70, 76, 82] (α := { i : Nat // i ≤ l.length ∧ ∀ b, b ∈ l.take i → b.length ≤ 600 }) (fun i => ⟨131, [(1, .i n), (2, .ptr 0 0), (5, .i i.1)], [(0, some ⟨25, [.w f.mo, .w f.se, .i f.ps, .b f.fi, .w f.ase, .i f.ah, .i f.af, .i f.ato, .p (.data 1 l.length (l.map byP))]⟩)], 1⟩) (fun i => l.length - i.1) ⟨0, Nat.zero_le _, by simp⟩ [] (fun i => i) ?_ ?_
  · refine ⟨rfl, ?_, ?_, rfl, rfl, trivial, fun i h => h⟩
    · simp only [go_sem, ↓reduceIte]
    · simp only [go_sem, ↓reduceIte]
  rintro ⟨i, hi, hsm⟩
  rcases Nat.lt_or_ge i l.length with hin | hin
  · have hc' : ((i : Int) < (l.length : Int)) := by omega
    have hta : l.take (i + 1) = l.take i ++ [l.getD i []] := by rw [List.take_add_one]; simp [List.getD_eq_getElem?_getD, hin]
    generalize hb : l.getD i [] = b at *
    have hw : IntKind.i64.wrap ((i : Int) + 1) = ((i + 1 : Nat) : Int) := by rw [wrap_i64_id (by omega) (by omega)]; omega
    by_cases h9 : (b.length : Int) > 600
    · simp only [go_sem, ↓reduceIte, hP, hc', head_by, hb, byP, h9]
      refine ⟨by omega, by omega, ?_⟩
      first | refine xw_call hE (ks := [0, 1, 2, 4, 5, 6, 7, 8, 9, 10, 11, 12, 13, 14, 15, 24, 30, 39, 49, 50, 58, 64, 70, 76, 82]) (n := 2000) (by rw [hP]; exact awake17_c) ?_ | refine xd_call hE (ks := [0, 1, 2, 4, 5, 6, 7, 8, 9, 10, 11, 12, 13, 14, 15, 24, 30, 39, 49, 50, 58, 64, 70, 76, 82]) (n := 2000) (by rw [hP]; exact awake17_c) ?_
      simp only [go_sem, ↓reduceIte, hP]
    · simp only [go_sem, ↓reduceIte, hP, hc', head_by, hb, byP, h9, hw]
      refine ⟨by omega, by omega, ⟨i + 1, hin, fun x hx => ?_⟩, by simp only; omega, subG [0] rfl ?_ ?_ rfl rfl (Nat.le_refl _)⟩
      · rw [hta] at hx
        rcases List.mem_append.1 hx with hx | hx
        · exact hsm x hx
        · simp at hx; subst hx; omega
      · simp only [go_sem, ↓reduceIte]
      · simp only [go_sem, ↓reduceIte]
  obtain rfl : i = l.length := by omega
  rw [List.take_of_length_le (Nat.le_refl _)] at hsm
  subst hce
  simp only [go_sem, ↓reduceIte, hP, show ¬ ((f.ce.length : Int) < (f.ce.length : Int)) from by omega]
  obtain ⟨d1, d2, d3⟩ := newD_small f (by omega)
  first | refine xw_call hE (ks := [0, 1, 2, 4, 5, 6, 7, 8, 9, 10, 11, 12, 13, 14, 15, 24, 30, 39, 49, 50, 58, 64, 70, 76, 82]) (n := 2000) (by rw [hP]; exact factory_c (band .i64 n 65535)) ?_ | refine xd_call hE (ks := [0, 1, 2, 4, 5, 6, 7, 8, 9, 10, 11, 12, 13, 14, 15, 24, 30, 39, 49, 50, 58, 64, 70, 76, 82]) (n := 2000) (by rw [hP]; exact factory_c (band .i64 n 65535)) ?_
  obtain ⟨hg1, hg2⟩ := fac_small (band .i64 n 65535)
  generalize facM (band .i64 n 65535) = g at *
  have hk := band_bd (ishr .i64 n 19) 31 (by decide) (by decide)
  generalize hK : band .i64 (ishr .i64 n 19) 31 = k at *
  generalize hS : band .i64 (ishr .i64 n 16) 7 = s at *
  have hk3 := band_bd k 3 (by decide) (by decide)
  have hk7 := band_bd k 7 (by decide) (by decide)
  by_cases s0 : s = 0
  · have hp4 : ∃ z, headA (.v (.int .i64 0)) (List.drop (band .i64 k 3).toNat [AV.i 0, .i 511, .i 512, .i 8193]) = .i z := by
      have : band .i64 k 3 = 0 ∨ band .i64 k 3 = 1 ∨ band .i64 k 3 = 2 ∨ band .i64 k 3 = 3 := by omega
      rcases this with h | h | h | h <;> rw [h] <;> exact ⟨_, rfl⟩
    obtain ⟨z, hz⟩ := hp4
    simp only [go_sem, ↓reduceIte, hP, hK, hS, s0, hz]
    refine ⟨⟨by omega, by omega⟩, by omega, ?_⟩
    first | refine xw_call hE (ks := [0, 1, 2, 4, 5, 6, 7, 8, 9, 10, 11, 12, 13, 14, 15, 24, 30, 39, 49, 50, 58, 64, 70, 76, 82]) (n := 2000) (by rw [hP]; exact pnew_c f (by omega) (fun b hb => by have := hsm b hb; omega)) ?_ | refine xd_call hE (ks := [0, 1, 2, 4, 5, 6, 7, 8, 9, 10, 11, 12, 13, 14, 15, 24, 30, 39, 49, 50, 58, 64, 70, 76, 82]) (n := 2000) (by rw [hP]; exact pnew_c f (by omega) (fun b hb => by have := hsm b hb; omega)) ?_
    simp only [go_sem, ↓reduceIte, hP]
    first | refine xw_call hE (ks := [0, 1, 2, 4, 5, 6, 7, 8, 9, 10, 11, 12, 13, 14, 15, 24, 30, 39, 49, 50, 58, 64, 70, 76, 82]) (n := 2000) (by rw [hP]; exact rnew_c f (by omega) (fun b hb => by have := hsm b hb; omega)) ?_ | refine xd_call hE (ks := [0, 1, 2, 4, 5, 6, 7, 8, 9, 10, 11, 12, 13, 14, 15, 24, 30, 39, 49, 50, 58, 64, 70, 76, 82]) (n := 2000) (by rw [hP]; exact rnew_c f (by omega) (fun b hb => by have := hsm b hb; omega)) ?_
    generalize newE f = e at *
    simp only [go_sem, ↓reduceIte, hP]
    first | refine xw_call hE (ks := [0, 1, 2, 4, 5, 6, 7, 8, 9, 10, 11, 12, 13, 14, 15, 24, 30, 39, 49, 50, 58, 64, 70, 76, 82]) (n := 2000) (by rw [hP]; exact (pnew_c ({ g with ps := z }) hg1 hg2)) ?_ | refine xd_call hE (ks := [0, 1, 2, 4, 5, 6, 7, 8, 9, 10, 11, 12, 13, 14, 15, 24, 30, 39, 49, 50, 58, 64, 70, 76, 82]) (n := 2000) (by rw [hP]; exact (pnew_c ({ g with ps := z }) hg1 hg2)) ?_
    simp only [go_sem, ↓reduceIte, hP]
    first | refine xw_call hE (ks := [0, 1, 2, 4, 5, 6, 7, 8, 9, 10, 11, 12, 13, 14, 15, 24, 30, 39, 49, 50, 58, 64, 70, 76, 82]) (n := 2000) (by rw [hP]; exact (rnew_c ({ g with ps := z }) hg1 hg2)) ?_ | refine xd_call hE (ks := [0, 1, 2, 4, 5, 6, 7, 8, 9, 10, 11, 12, 13, 14, 15, 24, 30, 39, 49, 50, 58, 64, 70, 76, 82]) (n := 2000) (by rw [hP]; exact (rnew_c ({ g with ps := z }) hg1 hg2)) ?_
    obtain ⟨c1, c2, c3⟩ := newD_small ({ g with ps := z }) hg1
    generalize newE ({ g with ps := z }) = e' at *
    simp only [go_sem, ↓reduceIte, hP, beq_self_eq_true]
    first | refine xw_call hE (ks := [0, 1, 2, 4, 5, 6, 7, 8, 9, 10, 11, 12, 13, 14, 15, 24, 30, 39, 49, 50, 58, 64, 70, 76, 82]) (n := 2000) (by rw [hP]; exact sameDev_c (newD f) d1 d2 d3) ?_ | refine xd_call hE (ks := [0, 1, 2, 4, 5, 6, 7, 8, 9, 10, 11, 12, 13, 14, 15, 24, 30, 39, 49, 50, 58, 64, 70, 76, 82]) (n := 2000) (by rw [hP]; exact sameDev_c (newD f) d1 d2 d3) ?_
    simp only [go_sem, ↓reduceIte, hP]
    first | refine xw_call hE (ks := [0, 1, 2, 4, 5, 6, 7, 8, 9, 10, 11, 12, 13, 14, 15, 24, 30, 39, 49, 50, 58, 64, 70, 76, 82]) (n := 2000) (by rw [hP]; exact sameDev_c (newD ({ g with ps := z })) c1 c2 c3) ?_ | refine xd_call hE (ks := [0, 1, 2, 4, 5, 6, 7, 8, 9, 10, 11, 12, 13, 14, 15, 24, 30, 39, 49, 50, 58, 64, 70, 76, 82]) (n := 2000) (by rw [hP]; exact sameDev_c (newD ({ g with ps := z })) c1 c2 c3) ?_
    simp only [go_sem, ↓reduceIte, hP]
    first | refine xw_call hE (ks := [0, 1, 2, 4, 5, 6, 7, 8, 9, 10, 11, 12, 13, 14, 15, 24, 30, 39, 49, 50, 58, 64, 70, 76, 82]) (n := 2000) (by rw [hP]; exact awake17_c) ?_ | refine xd_call hE (ks := [0, 1, 2, 4, 5, 6, 7, 8, 9, 10, 11, 12, 13, 14, 15, 24, 30, 39, 49, 50, 58, 64, 70, 76, 82]) (n := 2000) (by rw [hP]; exact awake17_c) ?_
    simp only [go_sem, ↓reduceIte, hP]
  by_cases s1 : s = 1
  · simp only [go_sem, ↓reduceIte, hP, hK, hS, s0, s1]
    first | refine xw_call hE (ks := [0, 1, 2, 4, 5, 6, 7, 8, 9, 10, 11, 12, 13, 14, 15, 24, 30, 39, 49, 50, 58, 64, 70, 76, 82]) (n := 2000) (by rw [hP]; exact pnew_c f (by omega) (fun b hb => by have := hsm b hb; omega)) ?_ | refine xd_call hE (ks := [0, 1, 2, 4, 5, 6, 7, 8, 9, 10, 11, 12, 13, 14, 15, 24, 30, 39, 49, 50, 58, 64, 70, 76, 82]) (n := 2000) (by rw [hP]; exact pnew_c f (by omega) (fun b hb => by have := hsm b hb; omega)) ?_
    simp only [go_sem, ↓reduceIte, hP]
    first | refine xw_call hE (ks := [0, 1, 2, 4, 5, 6, 7, 8, 9, 10, 11, 12, 13, 14, 15, 24, 30, 39, 49, 50, 58, 64, 70, 76, 82]) (n := 2000) (by rw [hP]; exact rnew_c f (by omega) (fun b hb => by have := hsm b hb; omega)) ?_ | refine xd_call hE (ks := [0, 1, 2, 4, 5, 6, 7, 8, 9, 10, 11, 12, 13, 14, 15, 24, 30, 39, 49, 50, 58, 64, 70, 76, 82]) (n := 2000) (by rw [hP]; exact rnew_c f (by omega) (fun b hb => by have := hsm b hb; omega)) ?_
    generalize newE f = e at *
    simp only [go_sem, ↓reduceIte, hP]
    first | refine xw_call hE (ks := [0, 1, 2, 4, 5, 6, 7, 8, 9, 10, 11, 12, 13, 14, 15, 24, 30, 39, 49, 50, 58, 64, 70, 76, 82]) (n := 2000) (by rw [hP]; exact (pnew_c ({ g with ah := IntKind.i64.wrap (band .i64 k 7 - 1) }) hg1 hg2)) ?_ | refine xd_call hE (ks := [0, 1, 2, 4, 5, 6, 7, 8, 9, 10, 11, 12, 13, 14, 15, 24, 30, 39, 49, 50, 58, 64, 70, 76, 82]) (n := 2000) (by rw [hP]; exact (pnew_c ({ g with ah := IntKind.i64.wrap (band .i64 k 7 - 1) }) hg1 hg2)) ?_
    simp only [go_sem, ↓reduceIte, hP]
    first | refine xw_call hE (ks := [0, 1, 2, 4, 5, 6, 7, 8, 9, 10, 11, 12, 13, 14, 15, 24, 30, 39, 49, 50, 58, 64, 70, 76, 82]) (n := 2000) (by rw [hP]; exact (rnew_c ({ g with ah := IntKind.i64.wrap (band .i64 k 7 - 1) }) hg1 hg2)) ?_ | refine xd_call hE (ks := [0, 1, 2, 4, 5, 6, 7, 8, 9, 10, 11, 12, 13, 14, 15, 24, 30, 39, 49, 50, 58, 64, 70, 76, 82]) (n := 2000) (by rw [hP]; exact (rnew_c ({ g with ah := IntKind.i64.wrap (band .i64 k 7 - 1) }) hg1 hg2)) ?_
    obtain ⟨c1, c2, c3⟩ := newD_small ({ g with ah := IntKind.i64.wrap (band .i64 k 7 - 1) }) hg1
    generalize newE ({ g with ah := IntKind.i64.wrap (band .i64 k 7 - 1) }) = e' at *
    simp only [go_sem, ↓reduceIte, hP, beq_self_eq_true]
    first | refine xw_call hE (ks := [0, 1, 2, 4, 5, 6, 7, 8, 9, 10, 11, 12, 13, 14, 15, 24, 30, 39, 49, 50, 58, 64, 70, 76, 82]) (n := 2000) (by rw [hP]; exact sameDev_c (newD f) d1 d2 d3) ?_ | refine xd_call hE (ks := [0, 1, 2, 4, 5, 6, 7, 8, 9, 10, 11, 12, 13, 14, 15, 24, 30, 39, 49, 50, 58, 64, 70, 76, 82]) (n := 2000) (by rw [hP]; exact sameDev_c (newD f) d1 d2 d3) ?_
    simp only [go_sem, ↓reduceIte, hP]
    first | refine xw_call hE (ks := [0, 1, 2, 4, 5, 6, 7, 8, 9, 10, 11, 12, 13, 14, 15, 24, 30, 39, 49, 50, 58, 64, 70, 76, 82]) (n := 2000) (by rw [hP]; exact sameDev_c (newD ({ g with ah := IntKind.i64.wrap (band .i64 k 7 - 1) })) c1 c2 c3) ?_ | refine xd_call hE (ks := [0, 1, 2, 4, 5, 6, 7, 8, 9, 10, 11, 12, 13, 14, 15, 24, 30, 39, 49, 50, 58, 64, 70, 76, 82]) (n := 2000) (by rw [hP]; exact sameDev_c (newD ({ g with ah := IntKind.i64.wrap (band .i64 k 7 - 1) })) c1 c2 c3) ?_
    simp only [go_sem, ↓reduceIte, hP]
    first | refine xw_call hE (ks := [0, 1, 2, 4, 5, 6, 7, 8, 9, 10, 11, 12, 13, 14, 15, 24, 30, 39, 49, 50, 58, 64, 70, 76, 82]) (n := 2000) (by rw [hP]; exact awake17_c) ?_ | refine xd_call hE (ks := [0, 1, 2, 4, 5, 6, 7, 8, 9, 10, 11, 12, 13, 14, 15, 24, 30, 39, 49, 50, 58, 64, 70, 76, 82]) (n := 2000) (by rw [hP]; exact awake17_c) ?_
    simp only [go_sem, ↓reduceIte, hP]
  by_cases s2 : s = 2
  · simp only [go_sem, ↓reduceIte, hP, hK, hS, s0, s1, s2]
    first | refine xw_call hE (ks := [0, 1, 2, 4, 5, 6, 7, 8, 9, 10, 11, 12, 13, 14, 15, 24, 30, 39, 49, 50, 58, 64, 70, 76, 82]) (n := 2000) (by rw [hP]; exact pnew_c f (by omega) (fun b hb => by have := hsm b hb; omega)) ?_ | refine xd_call hE (ks := [0, 1, 2, 4, 5, 6, 7, 8, 9, 10, 11, 12, 13, 14, 15, 24, 30, 39, 49, 50, 58, 64, 70, 76, 82]) (n := 2000) (by rw [hP]; exact pnew_c f (by omega) (fun b hb => by have := hsm b hb; omega)) ?_
    simp only [go_sem, ↓reduceIte, hP]
    first | refine xw_call hE (ks := [0, 1, 2, 4, 5, 6, 7, 8, 9, 10, 11, 12, 13, 14, 15, 24, 30, 39, 49, 50, 58, 64, 70, 76, 82]) (n := 2000) (by rw [hP]; exact rnew_c f (by omega) (fun b hb => by have := hsm b hb; omega)) ?_ | refine xd_call hE (ks := [0, 1, 2, 4, 5, 6, 7, 8, 9, 10, 11, 12, 13, 14, 15, 24, 30, 39, 49, 50, 58, 64, 70, 76, 82]) (n := 2000) (by rw [hP]; exact rnew_c f (by omega) (fun b hb => by have := hsm b hb; omega)) ?_
    generalize newE f = e at *
    simp only [go_sem, ↓reduceIte, hP]
    first | refine xw_call hE (ks := [0, 1, 2, 4, 5, 6, 7, 8, 9, 10, 11, 12, 13, 14, 15, 24, 30, 39, 49, 50, 58, 64, 70, 76, 82]) (n := 2000) (by rw [hP]; exact (pnew_c ({ g with af := IntKind.i64.wrap (band .i64 k 7 - 1) }) hg1 hg2)) ?_ | refine xd_call hE (ks := [0, 1, 2, 4, 5, 6, 7, 8, 9, 10, 11, 12, 13, 14, 15, 24, 30, 39, 49, 50, 58, 64, 70, 76, 82]) (n := 2000) (by rw [hP]; exact (pnew_c ({ g with af := IntKind.i64.wrap (band .i64 k 7 - 1) }) hg1 hg2)) ?_
    simp only [go_sem, ↓reduceIte, hP]
    first | refine xw_call hE (ks := [0, 1, 2, 4, 5, 6, 7, 8, 9, 10, 11, 12, 13, 14, 15, 24, 30, 39, 49, 50, 58, 64, 70, 76, 82]) (n := 2000) (by rw [hP]; exact (rnew_c ({ g with af := IntKind.i64.wrap (band .i64 k 7 - 1) }) hg1 hg2)) ?_ | refine xd_call hE (ks := [0, 1, 2, 4, 5, 6, 7, 8, 9, 10, 11, 12, 13, 14, 15, 24, 30, 39, 49, 50, 58, 64, 70, 76, 82]) (n := 2000) (by rw [hP]; exact (rnew_c ({ g with af := IntKind.i64.wrap (band .i64 k 7 - 1) }) hg1 hg2)) ?_
    obtain ⟨c1, c2, c3⟩ := newD_small ({ g with af := IntKind.i64.wrap (band .i64 k 7 - 1) }) hg1
    generalize newE ({ g with af := IntKind.i64.wrap (band .i64 k 7 - 1) }) = e' at *
    simp only [go_sem, ↓reduceIte, hP, beq_self_eq_true]
    first | refine xw_call hE (ks := [0, 1, 2, 4, 5, 6, 7, 8, 9, 10, 11, 12, 13, 14, 15, 24, 30, 39, 49, 50, 58, 64, 70, 76, 82]) (n := 2000) (by rw [hP]; exact sameDev_c (newD f) d1 d2 d3) ?_ | refine xd_call hE (ks := [0, 1, 2, 4, 5, 6, 7, 8, 9, 10, 11, 12, 13, 14, 15, 24, 30, 39, 49, 50, 58, 64, 70, 76, 82]) (n := 2000) (by rw [hP]; exact sameDev_c (newD f) d1 d2 d3) ?_
    simp only [go_sem, ↓reduceIte, hP]
    first | refine xw_call hE (ks := [0, 1, 2, 4, 5, 6, 7, 8, 9, 10, 11, 12, 13, 14, 15, 24, 30, 39, 49, 50, 58, 64, 70, 76, 82]) (n := 2000) (by rw [hP]; exact sameDev_c (newD ({ g with af := IntKind.i64.wrap (band .i64 k 7 - 1) })) c1 c2 c3) ?_ | refine xd_call hE (ks := [0, 1, 2, 4, 5, 6, 7, 8, 9, 10, 11, 12, 13, 14, 15, 24, 30, 39, 49, 50, 58, 64, 70, 76, 82]) (n := 2000) (by rw [hP]; exact sameDev_c (newD ({ g with af := IntKind.i64.wrap (band .i64 k 7 - 1) })) c1 c2 c3) ?_
    simp only [go_sem, ↓reduceIte, hP]
    first | refine xw_call hE (ks := [0, 1, 2, 4, 5, 6, 7, 8, 9, 10, 11, 12, 13, 14, 15, 24, 30, 39, 49, 50, 58, 64, 70, 76, 82]) (n := 2000) (by rw [hP]; exact awake17_c) ?_ | refine xd_call hE (ks := [0, 1, 2, 4, 5, 6, 7, 8, 9, 10, 11, 12, 13, 14, 15, 24, 30, 39, 49, 50, 58, 64, 70, 76, 82]) (n := 2000) (by rw [hP]; exact awake17_c) ?_
    simp only [go_sem, ↓reduceIte, hP]
  by_cases s3 : s = 3
  · simp only [go_sem, ↓reduceIte, hP, hK, hS, s0, s1, s2, s3]
    first | refine xw_call hE (ks := [0, 1, 2, 4, 5, 6, 7, 8, 9, 10, 11, 12, 13, 14, 15, 24, 30, 39, 49, 50, 58, 64, 70, 76, 82]) (n := 2000) (by rw [hP]; exact pnew_c f (by omega) (fun b hb => by have := hsm b hb; omega)) ?_ | refine xd_call hE (ks := [0, 1, 2, 4, 5, 6, 7, 8, 9, 10, 11, 12, 13, 14, 15, 24, 30, 39, 49, 50, 58, 64, 70, 76, 82]) (n := 2000) (by rw [hP]; exact pnew_c f (by omega) (fun b hb => by have := hsm b hb; omega)) ?_
    simp only [go_sem, ↓reduceIte, hP]
    first | refine xw_call hE (ks := [0, 1, 2, 4, 5, 6, 7, 8, 9, 10, 11, 12, 13, 14, 15, 24, 30, 39, 49, 50, 58, 64, 70, 76, 82]) (n := 2000) (by rw [hP]; exact rnew_c f (by omega) (fun b hb => by have := hsm b hb; omega)) ?_ | refine xd_call hE (ks := [0, 1, 2, 4, 5, 6, 7, 8, 9, 10, 11, 12, 13, 14, 15, 24, 30, 39, 49, 50, 58, 64, 70, 76, 82]) (n := 2000) (by rw [hP]; exact rnew_c f (by omega) (fun b hb => by have := hsm b hb; omega)) ?_
    generalize newE f = e at *
    simp only [go_sem, ↓reduceIte, hP]
    first | refine xw_call hE (ks := [0, 1, 2, 4, 5, 6, 7, 8, 9, 10, 11, 12, 13, 14, 15, 24, 30, 39, 49, 50, 58, 64, 70, 76, 82]) (n := 2000) (by rw [hP]; exact (pnew_c ({ g with ato := IntKind.i64.wrap (band .i64 k 7 - 1) }) hg1 hg2)) ?_ | refine xd_call hE (ks := [0, 1, 2, 4, 5, 6, 7, 8, 9, 10, 11, 12, 13, 14, 15, 24, 30, 39, 49, 50, 58, 64, 70, 76, 82]) (n := 2000) (by rw [hP]; exact (pnew_c ({ g with ato := IntKind.i64.wrap (band .i64 k 7 - 1) }) hg1 hg2)) ?_
    simp only [go_sem, ↓reduceIte, hP]
    first | refine xw_call hE (ks := [0, 1, 2, 4, 5, 6, 7, 8, 9, 10, 11, 12, 13, 14, 15, 24, 30, 39, 49, 50, 58, 64, 70, 76, 82]) (n := 2000) (by rw [hP]; exact (rnew_c ({ g with ato := IntKind.i64.wrap (band .i64 k 7 - 1) }) hg1 hg2)) ?_ | refine xd_call hE (ks := [0, 1, 2, 4, 5, 6, 7, 8, 9, 10, 11, 12, 13, 14, 15, 24, 30, 39, 49, 50, 58, 64, 70, 76, 82]) (n := 2000) (by rw [hP]; exact (rnew_c ({ g with ato := IntKind.i64.wrap (band .i64 k 7 - 1) }) hg1 hg2)) ?_
    obtain ⟨c1, c2, c3⟩ := newD_small ({ g with ato := IntKind.i64.wrap (band .i64 k 7 - 1) }) hg1
    generalize newE ({ g with ato := IntKind.i64.wrap (band .i64 k 7 - 1) }) = e' at *
    simp only [go_sem, ↓reduceIte, hP, beq_self_eq_true]
    first | refine xw_call hE (ks := [0, 1, 2, 4, 5, 6, 7, 8, 9, 10, 11, 12, 13, 14, 15, 24, 30, 39, 49, 50, 58, 64, 70, 76, 82]) (n := 2000) (by rw [hP]; exact sameDev_c (newD f) d1 d2 d3) ?_ | refine xd_call hE (ks := [0, 1, 2, 4, 5, 6, 7, 8, 9, 10, 11, 12, 13, 14, 15, 24, 30, 39, 49, 50, 58, 64, 70, 76, 82]) (n := 2000) (by rw [hP]; exact sameDev_c (newD f) d1 d2 d3) ?_
    simp only [go_sem, ↓reduceIte, hP]
    first | refine xw_call hE (ks := [0, 1, 2, 4, 5, 6, 7, 8, 9, 10, 11, 12, 13, 14, 15, 24, 30, 39, 49, 50, 58, 64, 70, 76, 82]) (n := 2000) (by rw [hP]; exact sameDev_c (newD ({ g with ato := IntKind.i64.wrap (band .i64 k 7 - 1) })) c1 c2 c3) ?_ | refine xd_call hE (ks := [0, 1, 2, 4, 5, 6, 7, 8, 9, 10, 11, 12, 13, 14, 15, 24, 30, 39, 49, 50, 58, 64, 70, 76, 82]) (n := 2000) (by rw [hP]; exact sameDev_c (newD ({ g with ato := IntKind.i64.wrap (band .i64 k 7 - 1) })) c1 c2 c3) ?_
    simp only [go_sem, ↓reduceIte, hP]
    first | refine xw_call hE (ks := [0, 1, 2, 4, 5, 6, 7, 8, 9, 10, 11, 12, 13, 14, 15, 24, 30, 39, 49, 50, 58, 64, 70, 76, 82]) (n := 2000) (by rw [hP]; exact awake17_c) ?_ | refine xd_call hE (ks := [0, 1, 2, 4, 5, 6, 7, 8, 9, 10, 11, 12, 13, 14, 15, 24, 30, 39, 49, 50, 58, 64, 70, 76, 82]) (n := 2000) (by rw [hP]; exact awake17_c) ?_
    simp only [go_sem, ↓reduceIte, hP]
  by_cases s4 : s = 4
  · simp only [go_sem, ↓reduceIte, hP, hK, hS, s0, s1, s2, s3, s4]
    refine ⟨by omega, ?_⟩
    refine xw_frz hE (ks := [0, 1, 2, 4, 5, 6, 7, 8, 9, 10, 11, 12, 13, 14, 15, 24, 30, 39, 49, 50, 58, 64, 70, 76, 82]) (n := 2000) 2 ?_ ?_
    · simp only [go_sem, ↓reduceIte, hP, allQ_rep, fz1OL_rep, Nat.le_refl]
    simp only [go_sem, ↓reduceIte, hP, unQs_rep, take_rep, fz1L_rep]
    obtain ⟨q1, q2⟩ := noneB_small (n := (band .i64 k 7).toNat) (by omega)
    generalize (band .i64 k 7).toNat = m at *
    first | refine xw_call hE (ks := [0, 1, 2, 4, 5, 6, 7, 8, 9, 10, 11, 12, 13, 14, 15, 24, 30, 39, 49, 50, 58, 64, 70, 76, 82]) (n := 2000) (by rw [hP]; exact pnew_c f (by omega) (fun b hb => by have := hsm b hb; omega)) ?_ | refine xd_call hE (ks := [0, 1, 2, 4, 5, 6, 7, 8, 9, 10, 11, 12, 13, 14, 15, 24, 30, 39, 49, 50, 58, 64, 70, 76, 82]) (n := 2000) (by rw [hP]; exact pnew_c f (by omega) (fun b hb => by have := hsm b hb; omega)) ?_
    simp only [go_sem, ↓reduceIte, hP]
    first | refine xw_call hE (ks := [0, 1, 2, 4, 5, 6, 7, 8, 9, 10, 11, 12, 13, 14, 15, 24, 30, 39, 49, 50, 58, 64, 70, 76, 82]) (n := 2000) (by rw [hP]; exact rnew_c f (by omega) (fun b hb => by have := hsm b hb; omega)) ?_ | refine xd_call hE (ks := [0, 1, 2, 4, 5, 6, 7, 8, 9, 10, 11, 12, 13, 14, 15, 24, 30, 39, 49, 50, 58, 64, 70, 76, 82]) (n := 2000) (by rw [hP]; exact rnew_c f (by omega) (fun b hb => by have := hsm b hb; omega)) ?_
    generalize newE f = e at *
    simp only [go_sem, ↓reduceIte, hP]
    first | refine xw_call hE (ks := [0, 1, 2, 4, 5, 6, 7, 8, 9, 10, 11, 12, 13, 14, 15, 24, 30, 39, 49, 50, 58, 64, 70, 76, 82]) (n := 2000) (by rw [hP]; exact nil_fac g m (pnew_c ({ g with ce := noneB m }) q1 q2)) ?_ | refine xd_call hE (ks := [0, 1, 2, 4, 5, 6, 7, 8, 9, 10, 11, 12, 13, 14, 15, 24, 30, 39, 49, 50, 58, 64, 70, 76, 82]) (n := 2000) (by rw [hP]; exact nil_fac g m (pnew_c ({ g with ce := noneB m }) q1 q2)) ?_
    simp only [go_sem, ↓reduceIte, hP]
    first | refine xw_call hE (ks := [0, 1, 2, 4, 5, 6, 7, 8, 9, 10, 11, 12, 13, 14, 15, 24, 30, 39, 49, 50, 58, 64, 70, 76, 82]) (n := 2000) (by rw [hP]; exact nil_fac g m (rnew_c ({ g with ce := noneB m }) q1 q2)) ?_ | refine xd_call hE (ks := [0, 1, 2, 4, 5, 6, 7, 8, 9, 10, 11, 12, 13, 14, 15, 24, 30, 39, 49, 50, 58, 64, 70, 76, 82]) (n := 2000) (by rw [hP]; exact nil_fac g m (rnew_c ({ g with ce := noneB m }) q1 q2)) ?_
    obtain ⟨c1, c2, c3⟩ := newD_small ({ g with ce := noneB m }) q1
    generalize newE ({ g with ce := noneB m }) = e' at *
    simp only [go_sem, ↓reduceIte, hP, beq_self_eq_true]
    first | refine xw_call hE (ks := [0, 1, 2, 4, 5, 6, 7, 8, 9, 10, 11, 12, 13, 14, 15, 24, 30, 39, 49, 50, 58, 64, 70, 76, 82]) (n := 2000) (by rw [hP]; exact sameDev_c (newD f) d1 d2 d3) ?_ | refine xd_call hE (ks := [0, 1, 2, 4, 5, 6, 7, 8, 9, 10, 11, 12, 13, 14, 15, 24, 30, 39, 49, 50, 58, 64, 70, 76, 82]) (n := 2000) (by rw [hP]; exact sameDev_c (newD f) d1 d2 d3) ?_
    simp only [go_sem, ↓reduceIte, hP]
    first | refine xw_call hE (ks := [0, 1, 2, 4, 5, 6, 7, 8, 9, 10, 11, 12, 13, 14, 15, 24, 30, 39, 49, 50, 58, 64, 70, 76, 82]) (n := 2000) (by rw [hP]; exact sameDev_c (newD ({ g with ce := noneB m })) c1 c2 c3) ?_ | refine xd_call hE (ks := [0, 1, 2, 4, 5, 6, 7, 8, 9, 10, 11, 12, 13, 14, 15, 24, 30, 39, 49, 50, 58, 64, 70, 76, 82]) (n := 2000) (by rw [hP]; exact sameDev_c (newD ({ g with ce := noneB m })) c1 c2 c3) ?_
    simp only [go_sem, ↓reduceIte, hP]
    first | refine xw_call hE (ks := [0, 1, 2, 4, 5, 6, 7, 8, 9, 10, 11, 12, 13, 14, 15, 24, 30, 39, 49, 50, 58, 64, 70, 76, 82]) (n := 2000) (by rw [hP]; exact awake17_c) ?_ | refine xd_call hE (ks := [0, 1, 2, 4, 5, 6, 7, 8, 9, 10, 11, 12, 13, 14, 15, 24, 30, 39, 49, 50, 58, 64, 70, 76, 82]) (n := 2000) (by rw [hP]; exact awake17_c) ?_
    simp only [go_sem, ↓reduceIte, hP]
  by_cases s5 : s = 5
  · simp only [go_sem, ↓reduceIte, hP, hK, hS, s0, s1, s2, s3, s4, s5]
    rw [wrap_i64_id (n := 510 + band .i64 k 3) (by omega) (by omega)]
    refine ⟨by omega, ?_⟩
    refine xw_frz hE (ks := [0, 1, 2, 4, 5, 6, 7, 8, 9, 10, 11, 12, 13, 14, 15, 24, 30, 39, 49, 50, 58, 64, 70, 76, 82]) (n := 2000) 2 ?_ ?_
    · simp only [go_sem, ↓reduceIte, hP, allQ_rep, fz1OL_rep, Nat.le_refl]
    obtain ⟨q1, q2⟩ := zeroB_small (n := (510 + band .i64 k 3).toNat) (by omega)
    generalize (510 + band .i64 k 3).toNat = m at *
    simp only [go_sem, ↓reduceIte, hP, unQs_rep, take_rep, fz1L_rep, zero_data]
    refine xw_frz hE (ks := [0, 1, 2, 4, 5, 6, 7, 8, 9, 10, 11, 12, 13, 14, 15, 24, 30, 39, 49, 50, 58, 64, 70, 76, 82]) (n := 2000) 3 ?_ ?_
    · simp only [go_sem, ↓reduceIte, hP, fz1OL_rep]
    simp only [go_sem, ↓reduceIte, hP]
    first | refine xw_call hE (ks := [0, 1, 2, 4, 5, 6, 7, 8, 9, 10, 11, 12, 13, 14, 15, 24, 30, 39, 49, 50, 58, 64, 70, 76, 82]) (n := 2000) (by rw [hP]; exact pnew_c f (by omega) (fun b hb => by have := hsm b hb; omega)) ?_ | refine xd_call hE (ks := [0, 1, 2, 4, 5, 6, 7, 8, 9, 10, 11, 12, 13, 14, 15, 24, 30, 39, 49, 50, 58, 64, 70, 76, 82]) (n := 2000) (by rw [hP]; exact pnew_c f (by omega) (fun b hb => by have := hsm b hb; omega)) ?_
    simp only [go_sem, ↓reduceIte, hP]
    first | refine xw_call hE (ks := [0, 1, 2, 4, 5, 6, 7, 8, 9, 10, 11, 12, 13, 14, 15, 24, 30, 39, 49, 50, 58, 64, 70, 76, 82]) (n := 2000) (by rw [hP]; exact rnew_c f (by omega) (fun b hb => by have := hsm b hb; omega)) ?_ | refine xd_call hE (ks := [0, 1, 2, 4, 5, 6, 7, 8, 9, 10, 11, 12, 13, 14, 15, 24, 30, 39, 49, 50, 58, 64, 70, 76, 82]) (n := 2000) (by rw [hP]; exact rnew_c f (by omega) (fun b hb => by have := hsm b hb; omega)) ?_
    generalize newE f = e at *
    simp only [go_sem, ↓reduceIte, hP]
    first | refine xw_call hE (ks := [0, 1, 2, 4, 5, 6, 7, 8, 9, 10, 11, 12, 13, 14, 15, 24, 30, 39, 49, 50, 58, 64, 70, 76, 82]) (n := 2000) (by rw [hP]; exact (pnew_c ({ g with ce := [zeroB m] }) q1 q2)) ?_ | refine xd_call hE (ks := [0, 1, 2, 4, 5, 6, 7, 8, 9, 10, 11, 12, 13, 14, 15, 24, 30, 39, 49, 50, 58, 64, 70, 76, 82]) (n := 2000) (by rw [hP]; exact (pnew_c ({ g with ce := [zeroB m] }) q1 q2)) ?_
    simp only [go_sem, ↓reduceIte, hP]
    first | refine xw_call hE (ks := [0, 1, 2, 4, 5, 6, 7, 8, 9, 10, 11, 12, 13, 14, 15, 24, 30, 39, 49, 50, 58, 64, 70, 76, 82]) (n := 2000) (by rw [hP]; exact (rnew_c ({ g with ce := [zeroB m] }) q1 q2)) ?_ | refine xd_call hE (ks := [0, 1, 2, 4, 5, 6, 7, 8, 9, 10, 11, 12, 13, 14, 15, 24, 30, 39, 49, 50, 58, 64, 70, 76, 82]) (n := 2000) (by rw [hP]; exact (rnew_c ({ g with ce := [zeroB m] }) q1 q2)) ?_
    obtain ⟨c1, c2, c3⟩ := newD_small ({ g with ce := [zeroB m] }) q1
    generalize newE ({ g with ce := [zeroB m] }) = e' at *
    simp only [go_sem, ↓reduceIte, hP, beq_self_eq_true]
    first | refine xw_call hE (ks := [0, 1, 2, 4, 5, 6, 7, 8, 9, 10, 11, 12, 13, 14, 15, 24, 30, 39, 49, 50, 58, 64, 70, 76, 82]) (n := 2000) (by rw [hP]; exact sameDev_c (newD f) d1 d2 d3) ?_ | refine xd_call hE (ks := [0, 1, 2, 4, 5, 6, 7, 8, 9, 10, 11, 12, 13, 14, 15, 24, 30, 39, 49, 50, 58, 64, 70, 76, 82]) (n := 2000) (by rw [hP]; exact sameDev_c (newD f) d1 d2 d3) ?_
    simp only [go_sem, ↓reduceIte, hP]
    first | refine xw_call hE (ks := [0, 1, 2, 4, 5, 6, 7, 8, 9, 10, 11, 12, 13, 14, 15, 24, 30, 39, 49, 50, 58, 64, 70, 76, 82]) (n := 2000) (by rw [hP]; exact sameDev_c (newD ({ g with ce := [zeroB m] })) c1 c2 c3) ?_ | refine xd_call hE (ks := [0, 1, 2, 4, 5, 6, 7, 8, 9, 10, 11, 12, 13, 14, 15, 24, 30, 39, 49, 50, 58, 64, 70, 76, 82]) (n := 2000) (by rw [hP]; exact sameDev_c (newD ({ g with ce := [zeroB m] })) c1 c2 c3) ?_
    simp only [go_sem, ↓reduceIte, hP]
    first | refine xw_call hE (ks := [0, 1, 2, 4, 5, 6, 7, 8, 9, 10, 11, 12, 13, 14, 15, 24, 30, 39, 49, 50, 58, 64, 70, 76, 82]) (n := 2000) (by rw [hP]; exact awake17_c) ?_ | refine xd_call hE (ks := [0, 1, 2, 4, 5, 6, 7, 8, 9, 10, 11, 12, 13, 14, 15, 24, 30, 39, 49, 50, 58, 64, 70, 76, 82]) (n := 2000) (by rw [hP]; exact awake17_c) ?_
    simp only [go_sem, ↓reduceIte, hP]
  simp only [go_sem, ↓reduceIte, hP, hK, hS, s0, s1, s2, s3, s4, s5]
  first | refine xw_call hE (ks := [0, 1, 2, 4, 5, 6, 7, 8, 9, 10, 11, 12, 13, 14, 15, 24, 30, 39, 49, 50, 58, 64, 70, 76, 82]) (n := 2000) (by rw [hP]; exact pnew_c f (by omega) (fun b hb => by have := hsm b hb; omega)) ?_ | refine xd_call hE (ks := [0, 1, 2, 4, 5, 6, 7, 8, 9, 10, 11, 12, 13, 14, 15, 24, 30, 39, 49, 50, 58, 64, 70, 76, 82]) (n := 2000) (by rw [hP]; exact pnew_c f (by omega) (fun b hb => by have := hsm b hb; omega)) ?_
  simp only [go_sem, ↓reduceIte, hP]
  first | refine xw_call hE (ks := [0, 1, 2, 4, 5, 6, 7, 8, 9, 10, 11, 12, 13, 14, 15, 24, 30, 39, 49, 50, 58, 64, 70, 76, 82]) (n := 2000) (by rw [hP]; exact rnew_c f (by omega) (fun b hb => by have := hsm b hb; omega)) ?_ | refine xd_call hE (ks := [0, 1, 2, 4, 5, 6, 7, 8, 9, 10, 11, 12, 13, 14, 15, 24, 30, 39, 49, 50, 58, 64, 70, 76, 82]) (n := 2000) (by rw [hP]; exact rnew_c f (by omega) (fun b hb => by have := hsm b hb; omega)) ?_
  generalize newE f = e at *
  simp only [go_sem, ↓reduceIte, hP]
  first | refine xw_call hE (ks := [0, 1, 2, 4, 5, 6, 7, 8, 9, 10, 11, 12, 13, 14, 15, 24, 30, 39, 49, 50, 58, 64, 70, 76, 82]) (n := 2000) (by rw [hP]; exact (pnew_c (g) hg1 hg2)) ?_ | refine xd_call hE (ks := [0, 1, 2, 4, 5, 6, 7, 8, 9, 10, 11, 12, 13, 14, 15, 24, 30, 39, 49, 50, 58, 64, 70, 76, 82]) (n := 2000) (by rw [hP]; exact (pnew_c (g) hg1 hg2)) ?_
  simp only [go_sem, ↓reduceIte, hP]
  first | refine xw_call hE (ks := [0, 1, 2, 4, 5, 6, 7, 8, 9, 10, 11, 12, 13, 14, 15, 24, 30, 39, 49, 50, 58, 64, 70, 76, 82]) (n := 2000) (by rw [hP]; exact (rnew_c (g) hg1 hg2)) ?_ | refine xd_call hE (ks := [0, 1, 2, 4, 5, 6, 7, 8, 9, 10, 11, 12, 13, 14, 15, 24, 30, 39, 49, 50, 58, 64, 70, 76, 82]) (n := 2000) (by rw [hP]; exact (rnew_c (g) hg1 hg2)) ?_
  obtain ⟨c1, c2, c3⟩ := newD_small (g) hg1
  generalize newE (g) = e' at *
  simp only [go_sem, ↓reduceIte, hP, beq_self_eq_true]
  first | refine xw_call hE (ks := [0, 1, 2, 4, 5, 6, 7, 8, 9, 10, 11, 12, 13, 14, 15, 24, 30, 39, 49, 50, 58, 64, 70, 76, 82]) (n := 2000) (by rw [hP]; exact sameDev_c (newD f) d1 d2 d3) ?_ | refine xd_call hE (ks := [0, 1, 2, 4, 5, 6, 7, 8, 9, 10, 11, 12, 13, 14, 15, 24, 30, 39, 49, 50, 58, 64, 70, 76, 82]) (n := 2000) (by rw [hP]; exact sameDev_c (newD f) d1 d2 d3) ?_
  simp only [go_sem, ↓reduceIte, hP]
  first | refine xw_call hE (ks := [0, 1, 2, 4, 5, 6, 7, 8, 9, 10, 11, 12, 13, 14, 15, 24, 30, 39, 49, 50, 58, 64, 70, 76, 82]) (n := 2000) (by rw [hP]; exact sameDev_c (newD (g)) c1 c2 c3) ?_ | refine xd_call hE (ks := [0, 1, 2, 4, 5, 6, 7, 8, 9, 10, 11, 12, 13, 14, 15, 24, 30, 39, 49, 50, 58, 64, 70, 76, 82]) (n := 2000) (by rw [hP]; exact sameDev_c (newD (g)) c1 c2 c3) ?_
  simp only [go_sem, ↓reduceIte, hP]
  first | refine xw_call hE (ks := [0, 1, 2, 4, 5, 6, 7, 8, 9, 10, 11, 12, 13, 14, 15, 24, 30, 39, 49, 50, 58, 64, 70, 76, 82]) (n := 2000) (by rw [hP]; exact awake17_c) ?_ | refine xd_call hE (ks := [0, 1, 2, 4, 5, 6, 7, 8, 9, 10, 11, 12, 13, 14, 15, 24, 30, 39, 49, 50, 58, 64, 70, 76, 82]) (n := 2000) (by rw [hP]; exact awake17_c) ?_
  simp only [go_sem, ↓reduceIte, hP]
end Go.Proofs.YtebndjnkmcahaaaGreatDoor

/-
  Contract of the reference's Put. Own work; no statement of the seat is proved here.
-/
import Derived.Test.YtebndjnkmcahaaaGreatDoorVe
namespace Go.Proofs.YtebndjnkmcahaaaGreatDoor
set_option linter.unusedSimpArgs false
set_option linter.unusedVariables false
open Go Go.Abs Go.RowKit

/-- the first fault of the pairs that are to be put -/
def dupN (seen : List Int) : Store → Int
  | [] => 0
  | p :: l => if p.1 < 0 ∨ 255 < p.1 then 9 else if p.1 ∈ seen then 10 else dupN (seen ++ [p.1]) l
def admitM (l : Store) : Int := if l = [] then 4 else if dupN [] l ≠ 0 then dupN [] l else if 256 < szM l then 8 else 0
def rputX (v : Vt) (l : Store) (budget : Int) : JR :=
  if (szM l : Int) ≤ jroomM v.j then rappendM v.j (precM l) budget else rrewriteM v.j (snapM (withM v.prs l)) budget
def rputM (v : Vt) (l : Store) (budget : Int) : VR :=
  if genVM v = false then lostM v.j 18 else
  if admitM l ≠ 0 then lostM v.j (admitM l) else
  if v.j.ps < 16 + 10 * ((withM v.prs l).length : Int) + (szM (withM v.prs l) : Int) then lostM v.j 12 else
  if (rputX v l budget).err ≠ 0 then lostM (rputX v l budget).j (rputX v l budget).err
  else ⟨⟨(rputX v l budget).j, storedM (rputX v l budget).j⟩, (rputX v l budget).left, 0⟩

theorem with1_sz (p : Int × List UInt8) : ∀ (d : Bool) (r : Store), szM (with1 p d r) ≤ szM r + (if d then 0 else 3 + p.2.length)
  | d, [] => by simp only [with1]; cases d <;> simp [szM]
  | d, q :: r => by
    have ih := with1_sz p (d || decide (q.1 ≥ p.1)) r
    simp only [with1, szM_app, szM]
    cases d with
    | true =>
      simp only [Bool.true_or, if_true] at ih ⊢
      split <;> split <;> simp [szM] at * <;> omega
    | false =>
      by_cases h : q.1 ≥ p.1
      · simp only [h, decide_true, Bool.or_true, and_self, if_true, Bool.false_eq_true, if_false] at ih ⊢
        split <;> simp [szM] at * <;> omega
      · simp only [h, decide_false, Bool.or_false, and_false, if_false, Bool.false_eq_true] at ih ⊢
        split <;> simp [szM] at * <;> omega
theorem withM_sz : ∀ (l old : Store), szM (withM old l) ≤ szM old + szM l := by
  intro l
  unfold withM
  induction l with
  | nil => intro old; simp [szM]
  | cons p l ih =>
    intro old
    rw [List.foldl_cons]
    have h1 := ih (with1 p (decide (p.2.length = 0)) old)
    have h2 := with1_sz p (decide (p.2.length = 0)) old
    simp only [szM]
    split at h2 <;> omega
theorem snap_le {l : Store} {b : List UInt8} (hb : b ∈ snapM l) : b.length ≤ szM l := by
  obtain ⟨p, hp, rfl⟩ := List.mem_map.1 hb
  rw [precM_len]
  simp only [szM]
  induction l with
  | nil => cases hp
  | cons q l ih =>
    simp only [szM]
    rcases List.mem_cons.1 hp with rfl | hp
    · omega
    · have := ih hp (List.mem_map.2 ⟨p, hp, rfl⟩); omega
theorem dup_step (l : Store) (i : Nat) (h : i < l.length) : l.drop i = l.getD i (0, []) :: l.drop (i + 1) := by
  rw [List.drop_eq_getElem_cons h]; simp [List.getD_eq_getElem?_getD, h]
theorem keys_take (l : Store) (i : Nat) (h : i < l.length) : (l.take (i + 1)).map (·.1) = (l.take i).map (·.1) ++ [(l.getD i (0, [])).1] := by
  rw [take_at l i h]; simp
theorem genVM_is {v : Vt} (h : ¬ genVM v = false) : genuineM v.j = true ∧ v.prs = storedM v.j := by
  unfold genVM at h
  simpa using h

set_option maxHeartbeats 8000000 in
theorem rput_c (v : Vt) (n : Nat) (l : Store) (budget : Int) (hn : v.j.bs.length = n) (hb : n < 1000000000) (hp : v.prs.length < 1000000000) (hl : l.length < 100000) (hls : ∀ x, x ∈ l → x.2.length < 1000000) (hB : i64 budget) :
    FPure Tryz.prog 82 [.agg [.i v.j.ps, .p (.data 1 n (v.j.bs.map bt)), .i v.j.page, .i v.j.gen, .i v.j.tail, .b v.j.torn, .p (PL v.prs)], .p (PL l), .i budget] (vrAV (rputM v l budget)) := by
  refine fpure_x hmix Tryz.func82 rfl (by kernel_rfl) Tryz.ntmps82 Tryz.results82 (by simp) (by simp [idsL, idsA]) [0, 1, 2, 3, 6, 7, 8, 9, 10, 11, 12, 13, 16, 25, 35, 51, 60, 73, 82, 104, 117, 137] ?_; intro c hP h0 hE
  obtain ⟨R, hR⟩ : ∃ R, rputM v l budget = R := ⟨_, rfl⟩; rw [hR] at hE; (try rw [hR])
  unfold rputM at hR
  simp only [go_sem, ↓reduceIte, hP]
  first | refine xw_call hE (ks := [0, 1, 2, 3, 6, 7, 8, 9, 10, 11, 12, 13, 16, 25, 35, 51, 60, 73, 82, 104, 117, 137]) (n := 2000) (by rw [hP]; exact genVault_c v n hn hb hp) ?_ | refine xd_call hE (ks := [0, 1, 2, 3, 6, 7, 8, 9, 10, 11, 12, 13, 16, 25, 35, 51, 60, 73, 82, 104, 117, 137]) (n := 2000) (by rw [hP]; exact genVault_c v n hn hb hp) ?_
  simp only [go_sem, ↓reduceIte, hP]
  by_cases hg : genVM v = false
  · rw [if_pos hg] at hR ⊢
    subst hR
    first | refine xw_call hE (ks := [0, 1, 2, 3, 6, 7, 8, 9, 10, 11, 12, 13, 16, 25, 35, 51, 60, 73, 82, 104, 117, 137]) (n := 2000) (by rw [hP]; exact rlost_c v.j n 18 hn) ?_ | refine xd_call hE (ks := [0, 1, 2, 3, 6, 7, 8, 9, 10, 11, 12, 13, 16, 25, 35, 51, 60, 73, 82, 104, 117, 137]) (n := 2000) (by rw [hP]; exact rlost_c v.j n 18 hn) ?_
    generalize lostM v.j 18 = Y at *
    simp only [go_sem, ↓reduceIte, hP]
    (try exact ⟨⟨rfl, ⟨rfl, rfl⟩, rfl, rfl, rfl, rfl, rfl, rfl⟩, rfl, rfl⟩)
  · rw [if_neg hg] at hR ⊢
    obtain ⟨hgj, hpr⟩ := genVM_is hg
    have hssz := stored_sz v.j
    have hsbd := stored_bd v.j
    rw [← hpr] at hssz hsbd
    have hlsz : szM l ≤ l.length * (3 + 1000000) := szM_bd l 1000000 (fun x hx => Nat.le_of_lt (hls x hx))
    have hlsz2 : l.length * (3 + 1000000) ≤ 100000 * (3 + 1000000) := Nat.mul_le_mul_right _ (by omega)
    by_cases hl00 : l = []
    · rw [if_pos (by rw [hl00]; rfl)]
      have ha : admitM l = 4 := by unfold admitM; rw [if_pos hl00]
      rw [ha, if_pos (by decide)] at hR
      subst hR
      first | refine xw_call hE (ks := [0, 1, 2, 3, 6, 7, 8, 9, 10, 11, 12, 13, 16, 25, 35, 51, 60, 73, 82, 104, 117, 137]) (n := 2000) (by rw [hP]; exact rlost_c v.j n 4 hn) ?_ | refine xd_call hE (ks := [0, 1, 2, 3, 6, 7, 8, 9, 10, 11, 12, 13, 16, 25, 35, 51, 60, 73, 82, 104, 117, 137]) (n := 2000) (by rw [hP]; exact rlost_c v.j n 4 hn) ?_
      generalize lostM v.j 4 = Y at *
      simp only [go_sem, ↓reduceIte, hP]
      (try exact ⟨⟨rfl, ⟨rfl, rfl⟩, rfl, rfl, rfl, rfl, rfl, rfl⟩, rfl, rfl⟩)
    · have hl0 : 0 < l.length := List.length_pos_iff.2 hl00
      rw [if_neg (by omega)]
      have hadm : admitM l = if dupN [] l ≠ 0 then dupN [] l else if 256 < szM l then 8 else 0 := by unfold admitM; rw [if_neg hl00]
      refine xw_loop hE h0 [0, 1, 2, 3, 6, 7, 8, 9, 10, 11, 12, 13, 16, 25, 35, 51, 60, 73, 82, 104, 117, 137] (α := { i : Nat // i ≤ l.length ∧ dupN [] l = dupN ((l.take i).map (·.1)) (l.drop i) }) (fun i => ⟨149, [(1, .p (PL l)), (2, .i budget), (3, .ptr 0 0), (6, .ptr 1 0), (7, .i 0), (8, .i 0), (9, .i i.1)],
        [(1, some ⟨37, [.i 0, .p (.v (.slice none 0 0)), .i 0, .i 0, .i 0, .b false, .p (.v (.slice none 0 0))]⟩), (0, some ⟨37, [.i v.j.ps, .p (.data 1 n (v.j.bs.map bt)), .i v.j.page, .i v.j.gen, .i v.j.tail, .b v.j.torn, .p (PL v.prs)]⟩)], 2⟩) (fun i => l.length - i.1) ⟨0, Nat.zero_le _, by simp⟩ [] (fun i => i) ?_ ?_
      · refine ⟨rfl, ?_, ?_, rfl, rfl, trivial, fun i h => h⟩
        · simp only [go_sem, ↓reduceIte]
        · simp only [go_sem, ↓reduceIte]
      · rintro ⟨i, hi, hdup⟩
        rcases Nat.lt_or_ge i l.length with hin | hin
        · have hc : ((i : Int) < (l.length : Int)) := by omega
          have hat := prCs_at l i hin
          have hkt := keys_take l i hin
          rw [dup_step l i hin] at hdup
          simp only [dupN] at hdup
          generalize l.getD i (0, []) = p at *
          have hw : IntKind.i64.wrap ((i : Int) + 1) = ((i + 1 : Nat) : Int) := by rw [wrap_i64_id (by omega) (by omega)]; omega
          simp only [go_sem, ↓reduceIte, hP, hat, hc, byP, hw]
          refine ⟨by omega, ?_⟩
          by_cases hr : p.1 < 0 ∨ 255 < p.1
          · rw [if_pos hr] at hdup
            have ha : admitM l = 9 := by rw [hadm, hdup]; rfl
            rw [ha, if_pos (by decide)] at hR
            subst hR
            by_cases hneg : p.1 < 0
            · rw [if_neg (fun h => h hneg)]
              first | refine xw_call hE (ks := [0, 1, 2, 3, 6, 7, 8, 9, 10, 11, 12, 13, 16, 25, 35, 51, 60, 73, 82, 104, 117, 137]) (n := 2000) (by rw [hP]; exact rlost_c v.j n 9 hn) ?_ | refine xd_call hE (ks := [0, 1, 2, 3, 6, 7, 8, 9, 10, 11, 12, 13, 16, 25, 35, 51, 60, 73, 82, 104, 117, 137]) (n := 2000) (by rw [hP]; exact rlost_c v.j n 9 hn) ?_
              generalize lostM v.j 9 = Y at *
              simp only [go_sem, ↓reduceIte, hP]
              (try exact ⟨⟨rfl, ⟨rfl, rfl⟩, rfl, rfl, rfl, rfl, rfl, rfl⟩, rfl, rfl⟩)
            · rw [if_pos hneg]
              refine ⟨by omega, ?_⟩
              rw [if_pos (by omega)]
              first | refine xw_call hE (ks := [0, 1, 2, 3, 6, 7, 8, 9, 10, 11, 12, 13, 16, 25, 35, 51, 60, 73, 82, 104, 117, 137]) (n := 2000) (by rw [hP]; exact rlost_c v.j n 9 hn) ?_ | refine xd_call hE (ks := [0, 1, 2, 3, 6, 7, 8, 9, 10, 11, 12, 13, 16, 25, 35, 51, 60, 73, 82, 104, 117, 137]) (n := 2000) (by rw [hP]; exact rlost_c v.j n 9 hn) ?_
              generalize lostM v.j 9 = Y at *
              simp only [go_sem, ↓reduceIte, hP]
              (try exact ⟨⟨rfl, ⟨rfl, rfl⟩, rfl, rfl, rfl, rfl, rfl, rfl⟩, rfl, rfl⟩)
          · rw [if_neg hr] at hdup
            rw [if_pos (by omega)]
            refine ⟨by omega, ?_⟩
            rw [if_neg (by omega)]
            refine xw_loop hE h0 [0, 1, 2, 3, 6, 7, 8, 9, 10, 11, 12, 13, 16, 25, 35, 51, 60, 73, 82, 104, 117, 137] (α := { k : Nat // k ≤ i ∧ ∀ x, x ∈ l.take k → x.1 ≠ p.1 }) (fun k => ⟨149, [(1, .p (PL l)), (2, .i budget), (3, .ptr 0 0), (6, .ptr 1 0), (7, .i 0), (8, .i 0), (9, .i i), (10, .i k.1)],
              [(1, some ⟨37, [.i 0, .p (.v (.slice none 0 0)), .i 0, .i 0, .i 0, .b false, .p (.v (.slice none 0 0))]⟩), (0, some ⟨37, [.i v.j.ps, .p (.data 1 n (v.j.bs.map bt)), .i v.j.page, .i v.j.gen, .i v.j.tail, .b v.j.torn, .p (PL v.prs)]⟩)], 2⟩) (fun k => i - k.1) ⟨0, Nat.zero_le _, by simp⟩ [] (fun i => i) ?_ ?_
            · refine ⟨rfl, ?_, ?_, rfl, rfl, trivial, fun i h => h⟩
              · simp only [go_sem, ↓reduceIte]
              · simp only [go_sem, ↓reduceIte]
            · rintro ⟨k, hk, hno⟩
              rcases Nat.lt_or_ge k i with hki | hki
              · have hc2 : ((k : Int) < (i : Int)) := by omega
                have hc3 : ((k : Int) < (l.length : Int)) := by omega
                have hat2 := prCs_at l k (by omega)
                have hta := take_at l k (by omega)
                have hmem : l.getD k (0, []) ∈ l.take i := by
                  rw [show l.getD k (0, []) = (l.take i)[k]'(by simp; omega) from by simp [List.getD_eq_getElem?_getD, show k < l.length by omega]]
                  exact List.getElem_mem _
                generalize l.getD k (0, []) = q at *
                have hw2 : IntKind.i64.wrap ((k : Int) + 1) = ((k + 1 : Nat) : Int) := by rw [wrap_i64_id (by omega) (by omega)]; omega
                simp only [go_sem, ↓reduceIte, hP, hat, hat2, hc, hc2, hc3, byP, hw2]
                refine ⟨by omega, by omega, by kernel_rfl, ?_⟩
                by_cases he : q.1 = p.1
                · rw [if_pos he]
                  have hin2 : p.1 ∈ (l.take i).map (·.1) := by rw [← he]; exact List.mem_map.2 ⟨q, hmem, rfl⟩
                  rw [if_pos hin2] at hdup
                  have ha : admitM l = 10 := by rw [hadm, hdup]; rfl
                  rw [ha, if_pos (by decide)] at hR
                  subst hR
                  first | refine xw_call hE (ks := [0, 1, 2, 3, 6, 7, 8, 9, 10, 11, 12, 13, 16, 25, 35, 51, 60, 73, 82, 104, 117, 137]) (n := 2000) (by rw [hP]; exact rlost_c v.j n 10 hn) ?_ | refine xd_call hE (ks := [0, 1, 2, 3, 6, 7, 8, 9, 10, 11, 12, 13, 16, 25, 35, 51, 60, 73, 82, 104, 117, 137]) (n := 2000) (by rw [hP]; exact rlost_c v.j n 10 hn) ?_
                  generalize lostM v.j 10 = Y at *
                  simp only [go_sem, ↓reduceIte, hP]
                  (try exact ⟨⟨rfl, ⟨rfl, rfl⟩, rfl, rfl, rfl, rfl, rfl, rfl⟩, rfl, rfl⟩)
                · rw [if_neg he]
                  refine ⟨⟨k + 1, by omega, ?_⟩, by show i - (k + 1) < i - k; omega, subI rfl ?_ ?_ rfl rfl (Nat.le_refl _)⟩
                  · intro x hx
                    rw [hta] at hx
                    rcases List.mem_append.1 hx with hx | hx
                    · exact hno x hx
                    · simp at hx; rw [hx]; exact he
                  · simp only [go_sem, ↓reduceIte]
                  · simp only [go_sem, ↓reduceIte]
              · obtain rfl : k = i := by omega
                have hnc : ¬ ((k : Int) < (k : Int)) := by omega
                have hnin : ¬ p.1 ∈ (l.take k).map (·.1) := fun h => by
                  obtain ⟨x, hx, hxe⟩ := List.mem_map.1 h
                  exact hno x hx hxe
                rw [if_neg hnin, ← hkt] at hdup
                simp only [go_sem, ↓reduceIte, hP, hnc, hw]
                refine ⟨⟨k + 1, by omega, hdup⟩, by show l.length - (k + 1) < l.length - k; omega, subI rfl ?_ ?_ rfl rfl (Nat.le_refl _)⟩
                · simp only [go_sem, ↓reduceIte]
                · simp only [go_sem, ↓reduceIte]
        · obtain rfl : i = l.length := by omega
          have hnc : ¬ ((l.length : Int) < (l.length : Int)) := by omega
          rw [List.drop_eq_nil_of_le (Nat.le_refl _)] at hdup
          simp only [dupN] at hdup
          rw [hdup] at hadm
          simp only [ne_eq, not_true_eq_false, if_false] at hadm
          simp only [go_sem, ↓reduceIte, hP, hnc]
          first | refine xw_call hE (ks := [0, 1, 2, 3, 6, 7, 8, 9, 10, 11, 12, 13, 16, 25, 35, 51, 60, 73, 82, 104, 117, 137]) (n := 2000) (by rw [hP]; exact rsize_c l (by omega)) ?_ | refine xd_call hE (ks := [0, 1, 2, 3, 6, 7, 8, 9, 10, 11, 12, 13, 16, 25, 35, 51, 60, 73, 82, 104, 117, 137]) (n := 2000) (by rw [hP]; exact rsize_c l (by omega)) ?_
          simp only [go_sem, ↓reduceIte, hP]
          by_cases h256 : 256 < szM l
          · rw [if_pos (by omega)]
            rw [if_pos h256] at hadm
            rw [hadm, if_pos (by decide)] at hR
            subst hR
            first | refine xw_call hE (ks := [0, 1, 2, 3, 6, 7, 8, 9, 10, 11, 12, 13, 16, 25, 35, 51, 60, 73, 82, 104, 117, 137]) (n := 2000) (by rw [hP]; exact rlost_c v.j n 8 hn) ?_ | refine xd_call hE (ks := [0, 1, 2, 3, 6, 7, 8, 9, 10, 11, 12, 13, 16, 25, 35, 51, 60, 73, 82, 104, 117, 137]) (n := 2000) (by rw [hP]; exact rlost_c v.j n 8 hn) ?_
            generalize lostM v.j 8 = Y at *
            simp only [go_sem, ↓reduceIte, hP]
            (try exact ⟨⟨rfl, ⟨rfl, rfl⟩, rfl, rfl, rfl, rfl, rfl, rfl⟩, rfl, rfl⟩)
          · rw [if_neg (by omega)]
            rw [if_neg h256] at hadm
            rw [hadm, if_neg (fun h => h rfl)] at hR
            have hwl := withM_len v.prs l
            have hws := withM_sz l v.prs
            first | refine xw_call hE (ks := [0, 1, 2, 3, 6, 7, 8, 9, 10, 11, 12, 13, 16, 25, 35, 51, 60, 73, 82, 104, 117, 137]) (n := 2000) (by rw [hP]; exact rwith_c v.prs l (by omega)) ?_ | refine xd_call hE (ks := [0, 1, 2, 3, 6, 7, 8, 9, 10, 11, 12, 13, 16, 25, 35, 51, 60, 73, 82, 104, 117, 137]) (n := 2000) (by rw [hP]; exact rwith_c v.prs l (by omega)) ?_
            unfold rputX at hR
            generalize hwm : withM v.prs l = now at *
            simp only [go_sem, ↓reduceIte, hP]
            first | refine xw_call hE (ks := [0, 1, 2, 3, 6, 7, 8, 9, 10, 11, 12, 13, 16, 25, 35, 51, 60, 73, 82, 104, 117, 137]) (n := 2000) (by rw [hP]; exact rsize_c now (by omega)) ?_ | refine xd_call hE (ks := [0, 1, 2, 3, 6, 7, 8, 9, 10, 11, 12, 13, 16, 25, 35, 51, 60, 73, 82, 104, 117, 137]) (n := 2000) (by rw [hP]; exact rsize_c now (by omega)) ?_
            simp only [go_sem, ↓reduceIte, hP]
            have hps := genuine_tail hgj
            obtain ⟨pp, kk, qq, e1, e2, e3, -⟩ := genuineM_ok hgj
            rw [wrap_i64_id (n := 10 * ((List.length now : Nat) : Int)) (by omega) (by omega), wrap_i64_id (n := 16 + 10 * ((List.length now : Nat) : Int)) (by omega) (by omega), wrap_i64_id (n := 16 + 10 * ((List.length now : Nat) : Int) + ((szM now : Nat) : Int)) (by omega) (by omega)]
            refine ⟨by kernel_rfl, ?_⟩
            by_cases hfull : v.j.ps < 16 + 10 * ((List.length now : Nat) : Int) + ((szM now : Nat) : Int)
            · rw [if_pos (by omega)]
              rw [if_pos hfull] at hR
              subst hR
              first | refine xw_call hE (ks := [0, 1, 2, 3, 6, 7, 8, 9, 10, 11, 12, 13, 16, 25, 35, 51, 60, 73, 82, 104, 117, 137]) (n := 2000) (by rw [hP]; exact rlost_c v.j n 12 hn) ?_ | refine xd_call hE (ks := [0, 1, 2, 3, 6, 7, 8, 9, 10, 11, 12, 13, 16, 25, 35, 51, 60, 73, 82, 104, 117, 137]) (n := 2000) (by rw [hP]; exact rlost_c v.j n 12 hn) ?_
              generalize lostM v.j 12 = Y at *
              simp only [go_sem, ↓reduceIte, hP]
              (try exact ⟨⟨rfl, ⟨rfl, rfl⟩, rfl, rfl, rfl, rfl, rfl, rfl⟩, rfl, rfl⟩)
            · rw [if_neg (by omega)]
              rw [if_neg hfull] at hR
              first | refine xw_call hE (ks := [0, 1, 2, 3, 6, 7, 8, 9, 10, 11, 12, 13, 16, 25, 35, 51, 60, 73, 82, 104, 117, 137]) (n := 2000) (by rw [hP]; exact rsize_c l (by omega)) ?_ | refine xd_call hE (ks := [0, 1, 2, 3, 6, 7, 8, 9, 10, 11, 12, 13, 16, 25, 35, 51, 60, 73, 82, 104, 117, 137]) (n := 2000) (by rw [hP]; exact rsize_c l (by omega)) ?_
              simp only [go_sem, ↓reduceIte, hP]
              first | refine xw_call hE (ks := [0, 1, 2, 3, 6, 7, 8, 9, 10, 11, 12, 13, 16, 25, 35, 51, 60, 73, 82, 104, 117, 137]) (n := 2000) (by rw [hP]; exact rRoom_c v.j n hn hb) ?_ | refine xd_call hE (ks := [0, 1, 2, 3, 6, 7, 8, 9, 10, 11, 12, 13, 16, 25, 35, 51, 60, 73, 82, 104, 117, 137]) (n := 2000) (by rw [hP]; exact rRoom_c v.j n hn hb) ?_
              simp only [go_sem, ↓reduceIte, hP]
              refine ⟨by kernel_rfl, ?_⟩
              by_cases hroom : ((szM l : Nat) : Int) ≤ jroomM v.j
              · rw [if_pos hroom] at hR ⊢
                first | refine xw_call hE (ks := [0, 1, 2, 3, 6, 7, 8, 9, 10, 11, 12, 13, 16, 25, 35, 51, 60, 73, 82, 104, 117, 137]) (n := 2000) (by rw [hP]; exact rrecord_c l (by omega)) ?_ | refine xd_call hE (ks := [0, 1, 2, 3, 6, 7, 8, 9, 10, 11, 12, 13, 16, 25, 35, 51, 60, 73, 82, 104, 117, 137]) (n := 2000) (by rw [hP]; exact rrecord_c l (by omega)) ?_
                have hpl := precM_len l
                have hxl := rappend_len v.j (precM l) budget hB (by omega) (by omega)
                simp only [go_sem, ↓reduceIte, hP]
                first | refine xw_call hE (ks := [0, 1, 2, 3, 6, 7, 8, 9, 10, 11, 12, 13, 16, 25, 35, 51, 60, 73, 82, 104, 117, 137]) (n := 2000) (by rw [hP]; exact rAppend_c v.j n (precM l) _ budget hn hb hpl (by omega) hB) ?_ | refine xd_call hE (ks := [0, 1, 2, 3, 6, 7, 8, 9, 10, 11, 12, 13, 16, 25, 35, 51, 60, 73, 82, 104, 117, 137]) (n := 2000) (by rw [hP]; exact rAppend_c v.j n (precM l) _ budget hn hb hpl (by omega) hB) ?_
                generalize rappendM v.j (precM l) budget = X at *
                simp only [go_sem, ↓reduceIte, hP]
                refine ⟨by kernel_rfl, ?_⟩
                by_cases hx : X.err = 0
                · rw [if_neg (fun h => h hx)] at hR ⊢
                  first | refine xw_call hE (ks := [0, 1, 2, 3, 6, 7, 8, 9, 10, 11, 12, 13, 16, 25, 35, 51, 60, 73, 82, 104, 117, 137]) (n := 2000) (by rw [hP]; exact rstored_c X.j _ rfl (by omega)) ?_ | refine xd_call hE (ks := [0, 1, 2, 3, 6, 7, 8, 9, 10, 11, 12, 13, 16, 25, 35, 51, 60, 73, 82, 104, 117, 137]) (n := 2000) (by rw [hP]; exact rstored_c X.j _ rfl (by omega)) ?_
                  simp only [go_sem, ↓reduceIte, hP]
                  subst hR
                  exact ⟨by kernel_rfl, ⟨rfl, ⟨rfl, rfl⟩, rfl, rfl, rfl, rfl, rfl, rfl⟩, rfl, rfl⟩
                · rw [if_pos hx] at hR ⊢
                  subst hR
                  first | refine xw_call hE (ks := [0, 1, 2, 3, 6, 7, 8, 9, 10, 11, 12, 13, 16, 25, 35, 51, 60, 73, 82, 104, 117, 137]) (n := 2000) (by rw [hP]; exact rlost_c X.j _ X.err rfl) ?_ | refine xd_call hE (ks := [0, 1, 2, 3, 6, 7, 8, 9, 10, 11, 12, 13, 16, 25, 35, 51, 60, 73, 82, 104, 117, 137]) (n := 2000) (by rw [hP]; exact rlost_c X.j _ X.err rfl) ?_
                  generalize lostM X.j X.err = Y at *
                  simp only [go_sem, ↓reduceIte, hP]
                  (try exact ⟨⟨rfl, ⟨rfl, rfl⟩, rfl, rfl, rfl, rfl, rfl, rfl⟩, rfl, rfl⟩)
              · rw [if_neg hroom] at hR ⊢
                first | refine xw_call hE (ks := [0, 1, 2, 3, 6, 7, 8, 9, 10, 11, 12, 13, 16, 25, 35, 51, 60, 73, 82, 104, 117, 137]) (n := 2000) (by rw [hP]; exact rsnap_c now (by omega)) ?_ | refine xd_call hE (ks := [0, 1, 2, 3, 6, 7, 8, 9, 10, 11, 12, 13, 16, 25, 35, 51, 60, 73, 82, 104, 117, 137]) (n := 2000) (by rw [hP]; exact rsnap_c now (by omega)) ?_
                have hel : ∀ b, b ∈ snapM now → b.length < 1000000 := fun b hb => by
                  have := snap_le hb
                  omega
                have hxl := rrewrite_len v.j (snapM now) budget hB (by omega) hel
                simp only [go_sem, ↓reduceIte, hP]
                first | refine xw_call hE (ks := [0, 1, 2, 3, 6, 7, 8, 9, 10, 11, 12, 13, 16, 25, 35, 51, 60, 73, 82, 104, 117, 137]) (n := 2000) (by rw [hP]; exact rRewrite_c v.j n (snapM now) _ budget hn hb (snap_len now) (by omega) hel hB) ?_ | refine xd_call hE (ks := [0, 1, 2, 3, 6, 7, 8, 9, 10, 11, 12, 13, 16, 25, 35, 51, 60, 73, 82, 104, 117, 137]) (n := 2000) (by rw [hP]; exact rRewrite_c v.j n (snapM now) _ budget hn hb (snap_len now) (by omega) hel hB) ?_
                generalize rrewriteM v.j (snapM now) budget = X at *
                simp only [go_sem, ↓reduceIte, hP]
                refine ⟨by kernel_rfl, ?_⟩
                by_cases hx : X.err = 0
                · rw [if_neg (fun h => h hx)] at hR ⊢
                  first | refine xw_call hE (ks := [0, 1, 2, 3, 6, 7, 8, 9, 10, 11, 12, 13, 16, 25, 35, 51, 60, 73, 82, 104, 117, 137]) (n := 2000) (by rw [hP]; exact rstored_c X.j _ rfl (by omega)) ?_ | refine xd_call hE (ks := [0, 1, 2, 3, 6, 7, 8, 9, 10, 11, 12, 13, 16, 25, 35, 51, 60, 73, 82, 104, 117, 137]) (n := 2000) (by rw [hP]; exact rstored_c X.j _ rfl (by omega)) ?_
                  simp only [go_sem, ↓reduceIte, hP]
                  subst hR
                  exact ⟨by kernel_rfl, ⟨rfl, ⟨rfl, rfl⟩, rfl, rfl, rfl, rfl, rfl, rfl⟩, rfl, rfl⟩
                · rw [if_pos hx] at hR ⊢
                  subst hR
                  first | refine xw_call hE (ks := [0, 1, 2, 3, 6, 7, 8, 9, 10, 11, 12, 13, 16, 25, 35, 51, 60, 73, 82, 104, 117, 137]) (n := 2000) (by rw [hP]; exact rlost_c X.j _ X.err rfl) ?_ | refine xd_call hE (ks := [0, 1, 2, 3, 6, 7, 8, 9, 10, 11, 12, 13, 16, 25, 35, 51, 60, 73, 82, 104, 117, 137]) (n := 2000) (by rw [hP]; exact rlost_c X.j _ X.err rfl) ?_
                  generalize lostM X.j X.err = Y at *
                  simp only [go_sem, ↓reduceIte, hP]
                  (try exact ⟨⟨rfl, ⟨rfl, rfl⟩, rfl, rfl, rfl, rfl, rfl, rfl⟩, rfl, rfl⟩)

end Go.Proofs.YtebndjnkmcahaaaGreatDoor

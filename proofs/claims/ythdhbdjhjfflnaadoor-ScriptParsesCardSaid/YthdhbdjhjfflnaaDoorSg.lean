/-
  Contracts of the lines of scripts: the program. Own work; no statement of the seat is proved here.
-/
import Derived.Test.YthdhbdjhjfflnaaDoorSf
import Derived.KernelRfl
namespace Go.Proofs.YthdhbdjhjfflnaaDoor
set_option linter.unusedSimpArgs false
set_option linter.unusedVariables false
open Go Go.Abs Go.RowKit

abbrev fpT : Nat := 70
def formPC (f : FormP) : List AV := [sv f.verb, .i f.kind, .i f.n, sv f.fields]
def formsA : List AV := formsP.flatMap formPC
theorem formsV_eq : ((formsV.map PV.v).take 100).map AV.p = formsA := by kernel_rfl
theorem formsV_len : formsV.length = 100 := by kernel_rfl
theorem formsA_len : formsA.length = 100 := by unfold formsA; rw [flat_len formPC 4 (fun _ => rfl)]; rfl
def formPP (f : FormP) : List PV := [strP f.verb, .v (.int .i64 f.kind), .v (.int .i64 f.n), strP f.fields]
theorem formsA_map : formsA = (formsP.flatMap formPP).map .p := by unfold formsA; rw [List.map_flatMap]; rfl
theorem formsA_view (h : Heap) (S : List Nat) (σ : Nat → Nat) : viewAs h S σ formsA formsA := by rw [formsA_map]; exact viewAs_pure h S σ _
theorem e0k : ev0.kind = 0 := rfl
theorem e0w : ev0.who = 0 := rfl
theorem e0t : ev0.to = 0 := rfl
theorem e0n : ev0.n = 0 := rfl
theorem e0b : ev0.b = 0 := rfl
theorem e0x : ev0.text = [] := rfl
attribute [go_sem] e0k e0w e0t e0n e0b e0x
/-- as the program answers, also where it fails -/
def fromX : List UInt8 → Ev → List UInt8 → Bool → Ev × Bool
  | [], e, _, more => (e, !more)
  | l :: fs, e, rest, more =>
    if more = false then (ev0, false) else
    if l = 88 then (if (putP l e rest).2 = true then fromX fs (putP l e rest).1 rest false else (ev0, false))
    else if (putP l e (cutM 32 rest).1).2 = true then fromX fs (putP l e (cutM 32 rest).1).1 (cutM 32 rest).2.1 (cutM 32 rest).2.2 else (ev0, false)
def lineX (verb rest : List UInt8) (more : Bool) : List FormP → Ev × Bool
  | [] => (ev0, false)
  | f :: fs => if f.verb = verb then fromX f.fields ⟨f.kind, 0, 0, f.n, 0, []⟩ rest more else lineX verb rest more fs
def lineXM (line : List UInt8) : Ev × Bool := lineX (cutM 32 line).1 (cutM 32 line).2.1 (cutM 32 line).2.2 formsP
theorem fromX_eq : ∀ (fs : List UInt8) (e : Ev) (rest : List UInt8) (more : Bool), optE (fromX fs e rest more) = fromP fs e rest more
  | [], e, rest, more => by cases more <;> simp [fromX, fromP, optE]
  | l :: fs, e, rest, more => by
    unfold fromX fromP
    repeat' split
    all_goals first | rfl | exact fromX_eq fs _ _ _ | contradiction
theorem lineX_eq (verb rest : List UInt8) (more : Bool) : ∀ fs, optE (lineX verb rest more fs) = lineFrom verb rest more fs
  | [] => rfl
  | f :: fs => by
    unfold lineX lineFrom
    split
    · exact fromX_eq _ _ _ _
    · exact lineX_eq verb rest more fs
theorem lineXM_eq (line : List UInt8) : optE (lineXM line) = lineM line := lineX_eq _ _ _ _
def fp0 : FormP := ⟨[], 0, 0, []⟩

set_option maxHeartbeats 8000000 in
set_option maxRecDepth 20000 in
theorem pline_c (line : List UInt8) (hl : line.length < 1000000000) : FPure Tryd.prog 16 [sv line] (.tup [evA (lineXM line).1, .b (lineXM line).2]) := by
  refine fpure_x hmix Tryd.func16 rfl (by kernel_rfl) Tryd.ntmps16 Tryd.results16 (by simp) (by simp [idsL, idsA]) [0, 2, 3, 4, 5, 6, 8, 9, 10, 11, 18, 19, 20, 25, 33, 34, 35, 38, 45, 58] ?_; intro c hP h0 hE
  simp only [go_sem, Nat.reduceAdd, Nat.reduceMul, ↓reduceIte, reduceCtorEq, Nat.reduceLeDiff, Int.reduceToNat, Int.reduceLT, Int.reduceLE, Int.reduceEq, Int.reduceNe, Int.reduceBEq, Int.reduceBNe, not_false_eq_true, not_true_eq_false, hP]
  first | refine xw_call hE (ks := [0, 2, 3, 4, 5, 6, 8, 9, 10, 11, 18, 19, 20, 25, 33, 34, 35, 38, 45, 58]) (n := 2000) (by rw [hP]; exact scut_c line 32 (by omega)) ?_ | refine xd_call hE (ks := [0, 2, 3, 4, 5, 6, 8, 9, 10, 11, 18, 19, 20, 25, 33, 34, 35, 38, 45, 58]) (n := 2000) (by rw [hP]; exact scut_c line 32 (by omega)) ?_
  generalize hR : lineXM line = R at *
  unfold lineXM at hR
  have hb := (cutM_le 32 line).2
  generalize cutM 32 line = C at *
  simp only [go_sem, Nat.reduceAdd, Nat.reduceMul, ↓reduceIte, reduceCtorEq, Nat.reduceLeDiff, Int.reduceToNat, Int.reduceLT, Int.reduceLE, Int.reduceEq, Int.reduceNe, Int.reduceBEq, Int.reduceBNe, not_false_eq_true, not_true_eq_false, hP, formsV_eq, formsV_len]
  refine xw_loop hE h0 [0, 2, 3, 4, 5, 6, 8, 9, 10, 11, 18, 19, 20, 25, 33, 34, 35, 38, 45, 58] (α := { i : Nat // i ≤ 25 ∧ lineX C.1 C.2.1 C.2.2 (formsP.drop i) = R }) (fun i => ⟨66, [(2, .ptr 0 0), (4, sv C.1), (5, sv C.2.1), (6, .b C.2.2), (18, .agg formsA), (19, .i i.1)], [(0, some ⟨evT, evC ev0⟩)], 1⟩) (fun i => 25 - i.1) ⟨0, by omega, hR⟩ [] (fun i => i) ?_ ?_
  · refine ⟨rfl, ?_, ?_, rfl, rfl, trivial, fun i h => h⟩
    · simp only [go_sem, Nat.reduceAdd, Nat.reduceMul, ↓reduceIte, reduceCtorEq, Nat.reduceLeDiff, Int.reduceToNat, Int.reduceLT, Int.reduceLE, Int.reduceEq, Int.reduceNe, Int.reduceBEq, Int.reduceBNe, not_false_eq_true, not_true_eq_false, formsA_view]
    · simp only [go_sem, Nat.reduceAdd, Nat.reduceMul, ↓reduceIte, reduceCtorEq, Nat.reduceLeDiff, Int.reduceToNat, Int.reduceLT, Int.reduceLE, Int.reduceEq, Int.reduceNe, Int.reduceBEq, Int.reduceBNe, not_false_eq_true, not_true_eq_false]
  · rintro ⟨i, hi, hr⟩
    rcases Nat.lt_or_ge i 25 with hin | hin
    · have hc : ((i : Int) < 25) := by omega
      have hw := w_succ (i := i) (by omega)
      have hat := flat_drop formPC 4 (fun _ => rfl) formsP i fp0 hin
      have hff : (formsP.getD i fp0).fields.length < 1000 := by
        have ha : ∀ f, f ∈ formsP → f.fields.length < 1000 := by decide
        refine ha _ ?_
        have := getD_at (d := fp0) (s := formsP) (i := i) hin
        exact List.mem_of_getElem? this
      rw [drop_at (d := fp0) hin, lineX] at hr
      generalize formsP.getD i fp0 = f at *
      rw [show formsP.flatMap formPC = formsA from rfl] at hat
      by_cases hv : f.verb = C.1
      · rw [if_pos hv] at hr
        simp only [go_sem, Nat.reduceAdd, Nat.reduceMul, ↓reduceIte, reduceCtorEq, Nat.reduceLeDiff, Int.reduceToNat, Int.reduceLT, Int.reduceLE, Int.reduceEq, Int.reduceNe, Int.reduceBEq, Int.reduceBNe, not_false_eq_true, not_true_eq_false, hP, hc, hw, hat, formsA_len, formPC, hv]
        refine ⟨by omega, ?_⟩
        refine xw_loop hE h0 [0, 2, 3, 4, 5, 6, 8, 9, 10, 11, 18, 19, 20, 25, 33, 34, 35, 38, 45, 58] (α := { p : Nat × Ev × List UInt8 × Bool // p.1 ≤ f.fields.length ∧ p.2.2.1.length ≤ line.length ∧ fromX (f.fields.drop p.1) p.2.1 p.2.2.1 p.2.2.2 = R }) (fun p => ⟨66, [(2, .ptr 0 0), (5, sv p.1.2.2.1), (6, .b p.1.2.2.2), (8, .ptr 1 0), (9, .ptr 2 0), (33, .i f.fields.length), (34, .i p.1.1)], [(0, some ⟨evT, evC ev0⟩), (1, some ⟨fpT, [sv C.1, .i f.kind, .i f.n, sv f.fields]⟩), (2, some ⟨evT, evC p.1.2.1⟩)], 3⟩) (fun p => f.fields.length - p.1.1) ⟨(0, ⟨f.kind, 0, 0, f.n, 0, []⟩, C.2.1, C.2.2), Nat.zero_le _, hb, hr⟩ [] (fun i => i) ?_ ?_
        · refine ⟨rfl, ?_, ?_, rfl, rfl, trivial, fun i h => h⟩
          · simp only [go_sem, Nat.reduceAdd, Nat.reduceMul, ↓reduceIte, reduceCtorEq, Nat.reduceLeDiff, Int.reduceToNat, Int.reduceLT, Int.reduceLE, Int.reduceEq, Int.reduceNe, Int.reduceBEq, Int.reduceBNe, not_false_eq_true, not_true_eq_false]
          · simp only [go_sem, Nat.reduceAdd, Nat.reduceMul, ↓reduceIte, reduceCtorEq, Nat.reduceLeDiff, Int.reduceToNat, Int.reduceLT, Int.reduceLE, Int.reduceEq, Int.reduceNe, Int.reduceBEq, Int.reduceBNe, not_false_eq_true, not_true_eq_false]
        · rintro ⟨⟨j, e, rest, more⟩, hj, hrl, hr⟩
          simp only at hj hrl hr
          rcases Nat.lt_or_ge j f.fields.length with hjn | hjn
          · have hcj : ((j : Int) < (f.fields.length : Int)) := by omega
            have hwj := w_succ (i := j) (by omega)
            rw [drop_at (d := 0) hjn, fromX] at hr
            cases more with
            | false =>
              rw [if_pos rfl] at hr
              subst hr
              simp only [go_sem, Nat.reduceAdd, Nat.reduceMul, ↓reduceIte, reduceCtorEq, Nat.reduceLeDiff, Int.reduceToNat, Int.reduceLT, Int.reduceLE, Int.reduceEq, Int.reduceNe, Int.reduceBEq, Int.reduceBNe, not_false_eq_true, not_true_eq_false, hP, hcj, hwj]
            | true =>
              rw [if_neg (by simp)] at hr
              by_cases hx : f.fields.getD j 0 = 88
              · rw [if_pos hx] at hr
                simp only [go_sem, Nat.reduceAdd, Nat.reduceMul, ↓reduceIte, reduceCtorEq, Nat.reduceLeDiff, Int.reduceToNat, Int.reduceLT, Int.reduceLE, Int.reduceEq, Int.reduceNe, Int.reduceBEq, Int.reduceBNe, not_false_eq_true, not_true_eq_false, hP, hcj, hwj, hx]
                refine ⟨by omega, by omega, ?_⟩
                rw [hx] at hr
                refine xw_con hE (ks := [0, 2, 3, 4, 5, 6, 8, 9, 10, 11, 18, 19, 20, 25, 33, 34, 35, 38, 45, 58]) (n := 2000) [] (fun i => i + 2) 3 (by rw [hP]; exact pput_c 88 e rest) ⟨by simp only [go_sem, Nat.reduceAdd, Nat.reduceMul, ↓reduceIte, reduceCtorEq, Nat.reduceLeDiff, Int.reduceToNat, Int.reduceLT, Int.reduceLE, Int.reduceEq, Int.reduceNe, Int.reduceBEq, Int.reduceBNe, not_false_eq_true, not_true_eq_false], by simp only [go_sem, Nat.reduceAdd, Nat.reduceMul, ↓reduceIte, reduceCtorEq, Nat.reduceLeDiff, Int.reduceToNat, Int.reduceLT, Int.reduceLE, Int.reduceEq, Int.reduceNe, Int.reduceBEq, Int.reduceBNe, not_false_eq_true, not_true_eq_false], rfl, trivial, Nat.le_of_ble_eq_true rfl, fun i hi => .inl (by simp [keys] at hi; simp [liveK, hi]), by simp [idsA], by simp only [idsH]; exact ⟨idsL_ev _ _, trivial⟩, rfl⟩ ?_
                generalize putP 88 e rest = G at *
                obtain ⟨e', ok⟩ := G
                cases ok with
                | false =>
                  simp only [Bool.false_eq_true, ↓reduceIte] at hr
                  subst hr
                  simp only [go_sem, Nat.reduceAdd, Nat.reduceMul, ↓reduceIte, reduceCtorEq, Nat.reduceLeDiff, Int.reduceToNat, Int.reduceLT, Int.reduceLE, Int.reduceEq, Int.reduceNe, Int.reduceBEq, Int.reduceBNe, not_false_eq_true, not_true_eq_false, hP, hwj]
                | true =>
                  simp only [↓reduceIte] at hr
                  simp only [go_sem, Nat.reduceAdd, Nat.reduceMul, ↓reduceIte, reduceCtorEq, Nat.reduceLeDiff, Int.reduceToNat, Int.reduceLT, Int.reduceLE, Int.reduceEq, Int.reduceNe, Int.reduceBEq, Int.reduceBNe, not_false_eq_true, not_true_eq_false, hP, hwj]
                  refine ⟨⟨(j + 1, e', rest, false), by simp only; omega, by simp only; omega, hr⟩, by show f.fields.length - (j + 1) < f.fields.length - j; omega, subI rfl ?_ ?_ rfl rfl (Nat.le_refl _)⟩
                  · simp only [go_sem, Nat.reduceAdd, Nat.reduceMul, ↓reduceIte, reduceCtorEq, Nat.reduceLeDiff, Int.reduceToNat, Int.reduceLT, Int.reduceLE, Int.reduceEq, Int.reduceNe, Int.reduceBEq, Int.reduceBNe, not_false_eq_true, not_true_eq_false]
                  · simp only [go_sem, Nat.reduceAdd, Nat.reduceMul, ↓reduceIte, reduceCtorEq, Nat.reduceLeDiff, Int.reduceToNat, Int.reduceLT, Int.reduceLE, Int.reduceEq, Int.reduceNe, Int.reduceBEq, Int.reduceBNe, not_false_eq_true, not_true_eq_false]
              · rw [if_neg hx] at hr
                have hb2 := (cutM_le 32 rest).2
                simp only [go_sem, Nat.reduceAdd, Nat.reduceMul, ↓reduceIte, reduceCtorEq, Nat.reduceLeDiff, Int.reduceToNat, Int.reduceLT, Int.reduceLE, Int.reduceEq, Int.reduceNe, Int.reduceBEq, Int.reduceBNe, not_false_eq_true, not_true_eq_false, hP, hcj, hwj, hx]
                refine ⟨by omega, ?_⟩
                first | refine xw_call hE (ks := [0, 2, 3, 4, 5, 6, 8, 9, 10, 11, 18, 19, 20, 25, 33, 34, 35, 38, 45, 58]) (n := 2000) (by rw [hP]; exact scut_c rest 32 (by omega)) ?_ | refine xd_call hE (ks := [0, 2, 3, 4, 5, 6, 8, 9, 10, 11, 18, 19, 20, 25, 33, 34, 35, 38, 45, 58]) (n := 2000) (by rw [hP]; exact scut_c rest 32 (by omega)) ?_
                generalize cutM 32 rest = D at *
                simp only [go_sem, Nat.reduceAdd, Nat.reduceMul, ↓reduceIte, reduceCtorEq, Nat.reduceLeDiff, Int.reduceToNat, Int.reduceLT, Int.reduceLE, Int.reduceEq, Int.reduceNe, Int.reduceBEq, Int.reduceBNe, not_false_eq_true, not_true_eq_false, hP, hcj, hwj, hx]
                refine ⟨by omega, ?_⟩
                refine xw_con hE (ks := [0, 2, 3, 4, 5, 6, 8, 9, 10, 11, 18, 19, 20, 25, 33, 34, 35, 38, 45, 58]) (n := 2000) [] (fun i => i + 2) 3 (by rw [hP]; exact pput_c (f.fields.getD j 0) e D.1) ⟨by simp only [go_sem, Nat.reduceAdd, Nat.reduceMul, ↓reduceIte, reduceCtorEq, Nat.reduceLeDiff, Int.reduceToNat, Int.reduceLT, Int.reduceLE, Int.reduceEq, Int.reduceNe, Int.reduceBEq, Int.reduceBNe, not_false_eq_true, not_true_eq_false], by simp only [go_sem, Nat.reduceAdd, Nat.reduceMul, ↓reduceIte, reduceCtorEq, Nat.reduceLeDiff, Int.reduceToNat, Int.reduceLT, Int.reduceLE, Int.reduceEq, Int.reduceNe, Int.reduceBEq, Int.reduceBNe, not_false_eq_true, not_true_eq_false], rfl, trivial, Nat.le_of_ble_eq_true rfl, fun i hi => .inl (by simp [keys] at hi; simp [liveK, hi]), by simp [idsA], by simp only [idsH]; exact ⟨idsL_ev _ _, trivial⟩, rfl⟩ ?_
                generalize putP (f.fields.getD j 0) e D.1 = G at *
                obtain ⟨e', ok⟩ := G
                cases ok with
                | false =>
                  simp only [Bool.false_eq_true, ↓reduceIte] at hr
                  subst hr
                  simp only [go_sem, Nat.reduceAdd, Nat.reduceMul, ↓reduceIte, reduceCtorEq, Nat.reduceLeDiff, Int.reduceToNat, Int.reduceLT, Int.reduceLE, Int.reduceEq, Int.reduceNe, Int.reduceBEq, Int.reduceBNe, not_false_eq_true, not_true_eq_false, hP, hwj]
                | true =>
                  simp only [↓reduceIte] at hr
                  simp only [go_sem, Nat.reduceAdd, Nat.reduceMul, ↓reduceIte, reduceCtorEq, Nat.reduceLeDiff, Int.reduceToNat, Int.reduceLT, Int.reduceLE, Int.reduceEq, Int.reduceNe, Int.reduceBEq, Int.reduceBNe, not_false_eq_true, not_true_eq_false, hP, hwj]
                  refine ⟨⟨(j + 1, e', D.2.1, D.2.2), by simp only; omega, by simp only; omega, hr⟩, by show f.fields.length - (j + 1) < f.fields.length - j; omega, subI rfl ?_ ?_ rfl rfl (Nat.le_refl _)⟩
                  · simp only [go_sem, Nat.reduceAdd, Nat.reduceMul, ↓reduceIte, reduceCtorEq, Nat.reduceLeDiff, Int.reduceToNat, Int.reduceLT, Int.reduceLE, Int.reduceEq, Int.reduceNe, Int.reduceBEq, Int.reduceBNe, not_false_eq_true, not_true_eq_false]
                  · simp only [go_sem, Nat.reduceAdd, Nat.reduceMul, ↓reduceIte, reduceCtorEq, Nat.reduceLeDiff, Int.reduceToNat, Int.reduceLT, Int.reduceLE, Int.reduceEq, Int.reduceNe, Int.reduceBEq, Int.reduceBNe, not_false_eq_true, not_true_eq_false]
          · obtain rfl : j = f.fields.length := by omega
            have hnc : ¬ ((f.fields.length : Int) < (f.fields.length : Int)) := by omega
            rw [List.drop_eq_nil_of_le (Nat.le_refl _), fromX] at hr
            subst hr
            simp only [go_sem, Nat.reduceAdd, Nat.reduceMul, ↓reduceIte, reduceCtorEq, Nat.reduceLeDiff, Int.reduceToNat, Int.reduceLT, Int.reduceLE, Int.reduceEq, Int.reduceNe, Int.reduceBEq, Int.reduceBNe, not_false_eq_true, not_true_eq_false, hP, hnc]
      · rw [if_neg hv] at hr
        simp only [go_sem, Nat.reduceAdd, Nat.reduceMul, ↓reduceIte, reduceCtorEq, Nat.reduceLeDiff, Int.reduceToNat, Int.reduceLT, Int.reduceLE, Int.reduceEq, Int.reduceNe, Int.reduceBEq, Int.reduceBNe, not_false_eq_true, not_true_eq_false, hP, hc, hw, hat, formsA_len, formPC, hv]
        refine ⟨by omega, ⟨i + 1, by omega, hr⟩, by show 25 - (i + 1) < 25 - i; omega, subG [0] rfl ?_ ?_ rfl rfl (Nat.le_refl _)⟩
        · simp only [go_sem, Nat.reduceAdd, Nat.reduceMul, ↓reduceIte, reduceCtorEq, Nat.reduceLeDiff, Int.reduceToNat, Int.reduceLT, Int.reduceLE, Int.reduceEq, Int.reduceNe, Int.reduceBEq, Int.reduceBNe, not_false_eq_true, not_true_eq_false, formsA_view]
        · simp only [go_sem, Nat.reduceAdd, Nat.reduceMul, ↓reduceIte, reduceCtorEq, Nat.reduceLeDiff, Int.reduceToNat, Int.reduceLT, Int.reduceLE, Int.reduceEq, Int.reduceNe, Int.reduceBEq, Int.reduceBNe, not_false_eq_true, not_true_eq_false]
    · obtain rfl : i = 25 := by omega
      have : R = (ev0, false) := hr.symm
      subst this
      simp only [go_sem, Nat.reduceAdd, Nat.reduceMul, ↓reduceIte, reduceCtorEq, Nat.reduceLeDiff, Int.reduceToNat, Int.reduceLT, Int.reduceLE, Int.reduceEq, Int.reduceNe, Int.reduceBEq, Int.reduceBNe, not_false_eq_true, not_true_eq_false, hP]

end Go.Proofs.YthdhbdjhjfflnaaDoor

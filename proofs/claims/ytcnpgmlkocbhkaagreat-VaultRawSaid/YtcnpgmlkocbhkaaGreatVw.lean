/-
  The law VaultRaw: the contract of its function. Own work.
-/
import Derived.Test.YtcnpgmlkocbhkaaGreatVr
import Derived.Test.YtcnpgmlkocbhkaaGreatCl
namespace Go.Proofs.YtcnpgmlkocbhkaaGreat
set_option linter.unusedSimpArgs false
set_option linter.unusedVariables false
open Go Go.Abs Go.RowKit

set_option maxHeartbeats 2000000 in
theorem vgetA_c (v : Vt) (n : Nat) (k : Int) (hp : v.prs.length < 1000000000) (hl : ∀ x, x ∈ v.prs → x.2.length ≤ 140737488355328) : FPure Tryz.prog 20 [.agg [.i v.j.ps, .p (.data 1 n (v.j.bs.map bt)), .i v.j.page, .i v.j.gen, .i v.j.tail, .b v.j.torn, .p (PL v.prs)], .i k] (.p (.data 1 (vgetM k v.prs).length ((vgetM k v.prs).map bt))) := by
  refine fpure_x hmix Tryz.func20 rfl (by kernel_rfl) Tryz.ntmps20 Tryz.results20 (by simp) (by simp [idsL, idsA]) [0, 1, 2, 4, 6, 8, 9, 10, 11, 17] ?_; intro c hP h0 hE
  simp only [go_sem, Nat.reduceAdd, Nat.reduceMul, ↓reduceIte, reduceCtorEq, Nat.reduceLeDiff, Int.reduceToNat, Int.reduceLT, Int.reduceLE, Int.reduceEq, Int.reduceNe, Int.reduceBEq, Int.reduceBNe, not_false_eq_true, not_true_eq_false, hP]
  generalize hv : v.prs = l at *
  refine xw_loop hE h0 [0, 1, 2, 4, 6, 8, 9, 10, 11, 17] (α := { i : Nat // i ≤ l.length ∧ ∀ x, x ∈ l.take i → x.1 ≠ k }) (fun i => ⟨22, [(1, .i k), (8, .p (PL l)), (9, .i l.length), (10, .i i.1)], [], 1⟩) (fun i => l.length - i.1) ⟨0, Nat.zero_le _, by simp⟩ [] (fun i => i) ?_ ?_
  · refine ⟨rfl, ?_, trivial, rfl, rfl, trivial, fun i h => h⟩
    simp only [go_sem, Nat.reduceAdd, Nat.reduceMul, ↓reduceIte, reduceCtorEq, Nat.reduceLeDiff, Int.reduceToNat, Int.reduceLT, Int.reduceLE, Int.reduceEq, Int.reduceNe, Int.reduceBEq, Int.reduceBNe, not_false_eq_true, not_true_eq_false]
  · rintro ⟨i, hi, hno⟩
    rcases Nat.lt_or_ge i l.length with hin | hin
    · have hc : ((i : Int) < (l.length : Int)) := by omega
      have hat := prCs_at l i hin
      have hta := take_at l i hin
      have hmem : l.getD i (0, []) ∈ l := by rw [show l.getD i (0, []) = l[i]'hin from by simp [List.getD_eq_getElem?_getD, hin]]; exact List.getElem_mem _
      have hgl := hl _ hmem
      have hw : IntKind.i64.wrap ((i : Int) + 1) = ((i + 1 : Nat) : Int) := by rw [wrap_i64_id (by omega) (by omega)]; omega
      have hgt := vgetM_at k l i hin hno
      generalize l.getD i (0, []) = p at *
      simp only [go_sem, Nat.reduceAdd, Nat.reduceMul, ↓reduceIte, reduceCtorEq, Nat.reduceLeDiff, Int.reduceToNat, Int.reduceLT, Int.reduceLE, Int.reduceEq, Int.reduceNe, Int.reduceBEq, Int.reduceBNe, not_false_eq_true, not_true_eq_false, hP, hat, hc, byP, hw]
      refine ⟨by omega, ?_⟩
      by_cases he : p.1 = k
      · rw [if_pos he]
        have hgt := hgt he
        first | refine xw_call hE (ks := [0, 1, 2, 4, 6, 8, 9, 10, 11, 17]) (n := 2000) (by rw [hP]; exact clone_all (p.2.map bt) _ (by simp) hgl) ?_ | refine xd_call hE (ks := [0, 1, 2, 4, 6, 8, 9, 10, 11, 17]) (n := 2000) (by rw [hP]; exact clone_all (p.2.map bt) _ (by simp) hgl) ?_
        rw [← hgt]
        simp only [go_sem, Nat.reduceAdd, Nat.reduceMul, ↓reduceIte, reduceCtorEq, Nat.reduceLeDiff, Int.reduceToNat, Int.reduceLT, Int.reduceLE, Int.reduceEq, Int.reduceNe, Int.reduceBEq, Int.reduceBNe, not_false_eq_true, not_true_eq_false, hP]
      · rw [if_neg he]
        refine ⟨⟨i + 1, by omega, ?_⟩, by show l.length - (i + 1) < l.length - i; omega, subG [0] rfl ?_ ?_ rfl rfl (Nat.le_refl _)⟩
        · intro x hx
          rw [hta] at hx
          rcases List.mem_append.1 hx with hx | hx
          · exact hno x hx
          · simp at hx; rw [hx]; exact he
        · simp only [go_sem, Nat.reduceAdd, Nat.reduceMul, ↓reduceIte, reduceCtorEq, Nat.reduceLeDiff, Int.reduceToNat, Int.reduceLT, Int.reduceLE, Int.reduceEq, Int.reduceNe, Int.reduceBEq, Int.reduceBNe, not_false_eq_true, not_true_eq_false]
        · simp only [go_sem, Nat.reduceAdd, Nat.reduceMul, ↓reduceIte, reduceCtorEq, Nat.reduceLeDiff, Int.reduceToNat, Int.reduceLT, Int.reduceLE, Int.reduceEq, Int.reduceNe, Int.reduceBEq, Int.reduceBNe, not_false_eq_true, not_true_eq_false]
    · obtain rfl : i = l.length := by omega
      have hnc : ¬ ((l.length : Int) < (l.length : Int)) := by omega
      rw [List.take_of_length_le (Nat.le_refl _)] at hno
      simp only [go_sem, Nat.reduceAdd, Nat.reduceMul, ↓reduceIte, reduceCtorEq, Nat.reduceLeDiff, Int.reduceToNat, Int.reduceLT, Int.reduceLE, Int.reduceEq, Int.reduceNe, Int.reduceBEq, Int.reduceBNe, not_false_eq_true, not_true_eq_false, hP, hnc, vgetM_no k l hno]

theorem vgetM_le {k : Int} {M : Nat} : ∀ {l : Store}, (∀ x, x ∈ l → x.2.length ≤ M) → (vgetM k l).length ≤ M
  | [], _ => Nat.zero_le _
  | p :: l, h => by
    unfold vgetM
    split
    · exact h p (by simp)
    · exact vgetM_le fun x hx => h x (by simp [hx])
theorem szM_le {M : Nat} : ∀ {l : Store}, (∀ x, x ∈ l → x.2.length ≤ M) → szM l ≤ l.length * (M + 3)
  | [], _ => by simp [szM]
  | p :: l, h => by
    have := szM_le (l := l) fun x hx => h x (by simp [hx])
    have := h p (by simp)
    simp only [szM, List.length_cons, Nat.succ_mul]
    omega

set_option maxHeartbeats 4000000 in
theorem vraw_c (f : Fl) (v : Vt) (l : Store) (key : Int) (hf : f.bs.length ≤ reachBytes) (hj : v.j.bs.length ≤ reachBytes) (hvl : v.prs.length ≤ reachBytes) (hvp : ∀ x, x ∈ v.prs → x.2.length ≤ reachBytes) (hll : l.length ≤ reachBytes) (hlp : ∀ x, x ∈ l → x.2.length ≤ reachBytes) :
    FPure Tryz.prog 4 [.agg [.i f.ps, .p (.data 1 f.bs.length (f.bs.map bt))], .agg [.i v.j.ps, .p (.data 1 v.j.bs.length (v.j.bs.map bt)), .i v.j.page, .i v.j.gen, .i v.j.tail, .b v.j.torn, .p (PL v.prs)], .p (PL l), .i key] (.b true) := by
  have hmx : reachBytes = 140737488351232 := rfl
  refine fpure_x hmix Tryz.func4 rfl (by kernel_rfl) Tryz.ntmps4 Tryz.results4 (by simp) (by simp [idsL, idsA]) [0, 1, 2, 3, 4, 5, 8, 9, 10, 11, 12, 13, 14, 15, 16, 17, 18, 19, 20, 21, 44, 49, 58] ?_; intro c hP h0 hE
  by_cases c1 : (f.bs.length : Int) > 3000
  · simp only [go_sem, Nat.reduceAdd, Nat.reduceMul, ↓reduceIte, reduceCtorEq, Nat.reduceLeDiff, Int.reduceToNat, Int.reduceLT, Int.reduceLE, Int.reduceEq, Int.reduceNe, Int.reduceBEq, Int.reduceBNe, not_false_eq_true, not_true_eq_false, hP, c1, decide_true]
    first | refine xw_call hE (ks := [0, 1, 2, 3, 4, 5, 8, 9, 10, 11, 12, 13, 14, 15, 16, 17, 18, 19, 20, 21, 44, 49, 58]) (n := 2000) (by rw [hP]; exact awake9_c) ?_ | refine xd_call hE (ks := [0, 1, 2, 3, 4, 5, 8, 9, 10, 11, 12, 13, 14, 15, 16, 17, 18, 19, 20, 21, 44, 49, 58]) (n := 2000) (by rw [hP]; exact awake9_c) ?_
    simp only [go_sem, Nat.reduceAdd, Nat.reduceMul, ↓reduceIte, reduceCtorEq, Nat.reduceLeDiff, Int.reduceToNat, Int.reduceLT, Int.reduceLE, Int.reduceEq, Int.reduceNe, Int.reduceBEq, Int.reduceBNe, not_false_eq_true, not_true_eq_false, hP]
  by_cases c2 : (v.j.bs.length : Int) > 3000
  · simp only [go_sem, Nat.reduceAdd, Nat.reduceMul, ↓reduceIte, reduceCtorEq, Nat.reduceLeDiff, Int.reduceToNat, Int.reduceLT, Int.reduceLE, Int.reduceEq, Int.reduceNe, Int.reduceBEq, Int.reduceBNe, not_false_eq_true, not_true_eq_false, hP, c1, c2, decide_true]
    first | refine xw_call hE (ks := [0, 1, 2, 3, 4, 5, 8, 9, 10, 11, 12, 13, 14, 15, 16, 17, 18, 19, 20, 21, 44, 49, 58]) (n := 2000) (by rw [hP]; exact awake9_c) ?_ | refine xd_call hE (ks := [0, 1, 2, 3, 4, 5, 8, 9, 10, 11, 12, 13, 14, 15, 16, 17, 18, 19, 20, 21, 44, 49, 58]) (n := 2000) (by rw [hP]; exact awake9_c) ?_
    simp only [go_sem, Nat.reduceAdd, Nat.reduceMul, ↓reduceIte, reduceCtorEq, Nat.reduceLeDiff, Int.reduceToNat, Int.reduceLT, Int.reduceLE, Int.reduceEq, Int.reduceNe, Int.reduceBEq, Int.reduceBNe, not_false_eq_true, not_true_eq_false, hP]
  by_cases c3 : (v.prs.length : Int) > 50
  · simp only [go_sem, Nat.reduceAdd, Nat.reduceMul, ↓reduceIte, reduceCtorEq, Nat.reduceLeDiff, Int.reduceToNat, Int.reduceLT, Int.reduceLE, Int.reduceEq, Int.reduceNe, Int.reduceBEq, Int.reduceBNe, not_false_eq_true, not_true_eq_false, hP, c1, c2, c3, decide_true]
    first | refine xw_call hE (ks := [0, 1, 2, 3, 4, 5, 8, 9, 10, 11, 12, 13, 14, 15, 16, 17, 18, 19, 20, 21, 44, 49, 58]) (n := 2000) (by rw [hP]; exact awake9_c) ?_ | refine xd_call hE (ks := [0, 1, 2, 3, 4, 5, 8, 9, 10, 11, 12, 13, 14, 15, 16, 17, 18, 19, 20, 21, 44, 49, 58]) (n := 2000) (by rw [hP]; exact awake9_c) ?_
    simp only [go_sem, Nat.reduceAdd, Nat.reduceMul, ↓reduceIte, reduceCtorEq, Nat.reduceLeDiff, Int.reduceToNat, Int.reduceLT, Int.reduceLE, Int.reduceEq, Int.reduceNe, Int.reduceBEq, Int.reduceBNe, not_false_eq_true, not_true_eq_false, hP]
  by_cases c4 : (l.length : Int) > 20
  · simp only [go_sem, Nat.reduceAdd, Nat.reduceMul, ↓reduceIte, reduceCtorEq, Nat.reduceLeDiff, Int.reduceToNat, Int.reduceLT, Int.reduceLE, Int.reduceEq, Int.reduceNe, Int.reduceBEq, Int.reduceBNe, not_false_eq_true, not_true_eq_false, hP, c1, c2, c3, c4, decide_true]
    first | refine xw_call hE (ks := [0, 1, 2, 3, 4, 5, 8, 9, 10, 11, 12, 13, 14, 15, 16, 17, 18, 19, 20, 21, 44, 49, 58]) (n := 2000) (by rw [hP]; exact awake9_c) ?_ | refine xd_call hE (ks := [0, 1, 2, 3, 4, 5, 8, 9, 10, 11, 12, 13, 14, 15, 16, 17, 18, 19, 20, 21, 44, 49, 58]) (n := 2000) (by rw [hP]; exact awake9_c) ?_
    simp only [go_sem, Nat.reduceAdd, Nat.reduceMul, ↓reduceIte, reduceCtorEq, Nat.reduceLeDiff, Int.reduceToNat, Int.reduceLT, Int.reduceLE, Int.reduceEq, Int.reduceNe, Int.reduceBEq, Int.reduceBNe, not_false_eq_true, not_true_eq_false, hP]
  simp only [go_sem, Nat.reduceAdd, Nat.reduceMul, ↓reduceIte, reduceCtorEq, Nat.reduceLeDiff, Int.reduceToNat, Int.reduceLT, Int.reduceLE, Int.reduceEq, Int.reduceNe, Int.reduceBEq, Int.reduceBNe, not_false_eq_true, not_true_eq_false, hP, c1, c2, c3, c4]
  have d1 : f.bs.length ≤ 3000 := by omega
  have d2 : v.j.bs.length ≤ 3000 := by omega
  have d3 : v.prs.length ≤ 50 := by omega
  have d4 : l.length ≤ 20 := by omega
  refine xw_loop hE h0 [0, 1, 2, 3, 4, 5, 8, 9, 10, 11, 12, 13, 14, 15, 16, 17, 18, 19, 20, 21, 44, 49, 58] (α := { i : Nat // i ≤ l.length ∧ ∀ x, x ∈ l.take i → x.2.length ≤ 300 }) (fun i => ⟨123, [(2, .p (PL l)), (3, .i key), (4, .ptr 0 0), (5, .ptr 1 0), (9, .i i.1)], [(1, some ⟨30, vtC v⟩), (0, some ⟨25, [.i f.ps, .p (.data 1 f.bs.length (f.bs.map bt))]⟩)], 2⟩) (fun i => l.length - i.1) ⟨0, Nat.zero_le _, by simp⟩ [] (fun i => i) ?_ ?_
  · refine ⟨rfl, ?_, ?_, rfl, rfl, trivial, fun i h => h⟩
    · simp only [go_sem, Nat.reduceAdd, Nat.reduceMul, ↓reduceIte, reduceCtorEq, Nat.reduceLeDiff, Int.reduceToNat, Int.reduceLT, Int.reduceLE, Int.reduceEq, Int.reduceNe, Int.reduceBEq, Int.reduceBNe, not_false_eq_true, not_true_eq_false]
    · simp only [go_sem, Nat.reduceAdd, Nat.reduceMul, ↓reduceIte, reduceCtorEq, Nat.reduceLeDiff, Int.reduceToNat, Int.reduceLT, Int.reduceLE, Int.reduceEq, Int.reduceNe, Int.reduceBEq, Int.reduceBNe, not_false_eq_true, not_true_eq_false, vtC]
  · rintro ⟨i, hi, hle⟩
    rcases Nat.lt_or_ge i l.length with hin | hin
    · have hc : ((i : Int) < (l.length : Int)) := by omega
      have hat := prCs_at l i hin
      have hta := take_at l i hin
      have hw : IntKind.i64.wrap ((i : Int) + 1) = ((i + 1 : Nat) : Int) := by rw [wrap_i64_id (by omega) (by omega)]; omega
      generalize l.getD i (0, []) = p at *
      by_cases h3 : p.2.length ≤ 300
      · have h3' : ¬ ((p.2.length : Int) > 300) := by omega
        simp only [go_sem, Nat.reduceAdd, Nat.reduceMul, ↓reduceIte, reduceCtorEq, Nat.reduceLeDiff, Int.reduceToNat, Int.reduceLT, Int.reduceLE, Int.reduceEq, Int.reduceNe, Int.reduceBEq, Int.reduceBNe, not_false_eq_true, not_true_eq_false, hP, hat, hc, byP, hw, vtC, h3']
        refine ⟨by omega, ⟨i + 1, by omega, ?_⟩, by show l.length - (i + 1) < l.length - i; omega, subI rfl ?_ ?_ rfl rfl (Nat.le_refl _)⟩
        · intro x hx
          rw [hta] at hx
          rcases List.mem_append.1 hx with hx | hx
          · exact hle x hx
          · simp at hx; rw [hx]; exact h3
        · simp only [go_sem, Nat.reduceAdd, Nat.reduceMul, ↓reduceIte, reduceCtorEq, Nat.reduceLeDiff, Int.reduceToNat, Int.reduceLT, Int.reduceLE, Int.reduceEq, Int.reduceNe, Int.reduceBEq, Int.reduceBNe, not_false_eq_true, not_true_eq_false]
        · simp only [go_sem, Nat.reduceAdd, Nat.reduceMul, ↓reduceIte, reduceCtorEq, Nat.reduceLeDiff, Int.reduceToNat, Int.reduceLT, Int.reduceLE, Int.reduceEq, Int.reduceNe, Int.reduceBEq, Int.reduceBNe, not_false_eq_true, not_true_eq_false, vtC]
      · have h3' : ((p.2.length : Int) > 300) := by omega
        simp only [go_sem, Nat.reduceAdd, Nat.reduceMul, ↓reduceIte, reduceCtorEq, Nat.reduceLeDiff, Int.reduceToNat, Int.reduceLT, Int.reduceLE, Int.reduceEq, Int.reduceNe, Int.reduceBEq, Int.reduceBNe, not_false_eq_true, not_true_eq_false, hP, hat, hc, byP, hw, vtC, h3']
        refine ⟨by omega, ?_⟩
        first | refine xw_call hE (ks := [0, 1, 2, 3, 4, 5, 8, 9, 10, 11, 12, 13, 14, 15, 16, 17, 18, 19, 20, 21, 44, 49, 58]) (n := 2000) (by rw [hP]; exact awake9_c) ?_ | refine xd_call hE (ks := [0, 1, 2, 3, 4, 5, 8, 9, 10, 11, 12, 13, 14, 15, 16, 17, 18, 19, 20, 21, 44, 49, 58]) (n := 2000) (by rw [hP]; exact awake9_c) ?_
        simp only [go_sem, Nat.reduceAdd, Nat.reduceMul, ↓reduceIte, reduceCtorEq, Nat.reduceLeDiff, Int.reduceToNat, Int.reduceLT, Int.reduceLE, Int.reduceEq, Int.reduceNe, Int.reduceBEq, Int.reduceBNe, not_false_eq_true, not_true_eq_false, hP]
    · obtain rfl : i = l.length := by omega
      have hnc : ¬ ((l.length : Int) < (l.length : Int)) := by omega
      rw [List.take_of_length_le (Nat.le_refl _)] at hle
      simp only [go_sem, Nat.reduceAdd, Nat.reduceMul, ↓reduceIte, reduceCtorEq, Nat.reduceLeDiff, Int.reduceToNat, Int.reduceLT, Int.reduceLE, Int.reduceEq, Int.reduceNe, Int.reduceBEq, Int.reduceBNe, not_false_eq_true, not_true_eq_false, hP, hnc, vtC]
      first | refine xw_call hE (ks := [0, 1, 2, 3, 4, 5, 8, 9, 10, 11, 12, 13, 14, 15, 16, 17, 18, 19, 20, 21, 44, 49, 58]) (n := 2000) (by rw [hP]; exact vopen_c f.ps f.bs _ (-1) rfl (by omega) (by unfold i64; decide)) ?_ | refine xd_call hE (ks := [0, 1, 2, 3, 4, 5, 8, 9, 10, 11, 12, 13, 14, 15, 16, 17, 18, 19, 20, 21, 44, 49, 58]) (n := 2000) (by rw [hP]; exact vopen_c f.ps f.bs _ (-1) rfl (by omega) (by unfold i64; decide)) ?_
      rw [open_law]
      have hl1 := ropen_len ⟨f.ps, f.bs⟩ (-1) (by unfold i64; decide) (by show f.bs.length < _; omega)
      simp only [go_sem, Nat.reduceAdd, Nat.reduceMul, ↓reduceIte, reduceCtorEq, Nat.reduceLeDiff, Int.reduceToNat, Int.reduceLT, Int.reduceLE, Int.reduceEq, Int.reduceNe, Int.reduceBEq, Int.reduceBNe, not_false_eq_true, not_true_eq_false, hP]
      first | refine xw_call hE (ks := [0, 1, 2, 3, 4, 5, 8, 9, 10, 11, 12, 13, 14, 15, 16, 17, 18, 19, 20, 21, 44, 49, 58]) (n := 2000) (by rw [hP]; exact ropen_c f.ps f.bs _ (-1) rfl (by omega) (by unfold i64; decide)) ?_ | refine xd_call hE (ks := [0, 1, 2, 3, 4, 5, 8, 9, 10, 11, 12, 13, 14, 15, 16, 17, 18, 19, 20, 21, 44, 49, 58]) (n := 2000) (by rw [hP]; exact ropen_c f.ps f.bs _ (-1) rfl (by omega) (by unfold i64; decide)) ?_
      generalize ropenM ⟨f.ps, f.bs⟩ (-1) = G at *
      simp only [go_sem, Nat.reduceAdd, Nat.reduceMul, ↓reduceIte, reduceCtorEq, Nat.reduceLeDiff, Int.reduceToNat, Int.reduceLT, Int.reduceLE, Int.reduceEq, Int.reduceNe, Int.reduceBEq, Int.reduceBNe, not_false_eq_true, not_true_eq_false, hP]
      first | refine xw_call hE (ks := [0, 1, 2, 3, 4, 5, 8, 9, 10, 11, 12, 13, 14, 15, 16, 17, 18, 19, 20, 21, 44, 49, 58]) (n := 2000) (by rw [hP]; exact vput_c v _ l (-1) rfl (by omega) (by omega) (fun x hx => by have := hle x hx; omega) (by unfold i64; decide)) ?_ | refine xd_call hE (ks := [0, 1, 2, 3, 4, 5, 8, 9, 10, 11, 12, 13, 14, 15, 16, 17, 18, 19, 20, 21, 44, 49, 58]) (n := 2000) (by rw [hP]; exact vput_c v _ l (-1) rfl (by omega) (by omega) (fun x hx => by have := hle x hx; omega) (by unfold i64; decide)) ?_
      rw [put_law]
      have hl2 := rput_len v l (-1) (by unfold i64; decide) (by omega) (fun x hx => by have := hle x hx; omega) (by omega)
      simp only [go_sem, Nat.reduceAdd, Nat.reduceMul, ↓reduceIte, reduceCtorEq, Nat.reduceLeDiff, Int.reduceToNat, Int.reduceLT, Int.reduceLE, Int.reduceEq, Int.reduceNe, Int.reduceBEq, Int.reduceBNe, not_false_eq_true, not_true_eq_false, hP]
      first | refine xw_call hE (ks := [0, 1, 2, 3, 4, 5, 8, 9, 10, 11, 12, 13, 14, 15, 16, 17, 18, 19, 20, 21, 44, 49, 58]) (n := 2000) (by rw [hP]; exact rput_c v _ l (-1) rfl (by omega) (by omega) (by omega) (fun x hx => by have := hle x hx; omega) (by unfold i64; decide)) ?_ | refine xd_call hE (ks := [0, 1, 2, 3, 4, 5, 8, 9, 10, 11, 12, 13, 14, 15, 16, 17, 18, 19, 20, 21, 44, 49, 58]) (n := 2000) (by rw [hP]; exact rput_c v _ l (-1) rfl (by omega) (by omega) (by omega) (fun x hx => by have := hle x hx; omega) (by unfold i64; decide)) ?_
      generalize rputM v l (-1) = H at *
      simp only [go_sem, Nat.reduceAdd, Nat.reduceMul, ↓reduceIte, reduceCtorEq, Nat.reduceLeDiff, Int.reduceToNat, Int.reduceLT, Int.reduceLE, Int.reduceEq, Int.reduceNe, Int.reduceBEq, Int.reduceBNe, not_false_eq_true, not_true_eq_false, hP]
      first | refine xw_call hE (ks := [0, 1, 2, 3, 4, 5, 8, 9, 10, 11, 12, 13, 14, 15, 16, 17, 18, 19, 20, 21, 44, 49, 58]) (n := 2000) (by rw [hP]; exact same9_c G.v G.v G.left G.err G.left G.err _ _ (by omega)) ?_ | refine xd_call hE (ks := [0, 1, 2, 3, 4, 5, 8, 9, 10, 11, 12, 13, 14, 15, 16, 17, 18, 19, 20, 21, 44, 49, 58]) (n := 2000) (by rw [hP]; exact same9_c G.v G.v G.left G.err G.left G.err _ _ (by omega)) ?_
      simp only [sameJ_self, beq_self_eq_true, Bool.and_self, decide_true]
      simp only [go_sem, Nat.reduceAdd, Nat.reduceMul, ↓reduceIte, reduceCtorEq, Nat.reduceLeDiff, Int.reduceToNat, Int.reduceLT, Int.reduceLE, Int.reduceEq, Int.reduceNe, Int.reduceBEq, Int.reduceBNe, not_false_eq_true, not_true_eq_false, hP]
      first | refine xw_call hE (ks := [0, 1, 2, 3, 4, 5, 8, 9, 10, 11, 12, 13, 14, 15, 16, 17, 18, 19, 20, 21, 44, 49, 58]) (n := 2000) (by rw [hP]; exact same9_c H.v H.v H.left H.err H.left H.err _ _ (by omega)) ?_ | refine xd_call hE (ks := [0, 1, 2, 3, 4, 5, 8, 9, 10, 11, 12, 13, 14, 15, 16, 17, 18, 19, 20, 21, 44, 49, 58]) (n := 2000) (by rw [hP]; exact same9_c H.v H.v H.left H.err H.left H.err _ _ (by omega)) ?_
      simp only [sameJ_self, beq_self_eq_true, Bool.and_self, decide_true]
      simp only [go_sem, Nat.reduceAdd, Nat.reduceMul, ↓reduceIte, reduceCtorEq, Nat.reduceLeDiff, Int.reduceToNat, Int.reduceLT, Int.reduceLE, Int.reduceEq, Int.reduceNe, Int.reduceBEq, Int.reduceBNe, not_false_eq_true, not_true_eq_false, hP]
      have hsz : szM l < 1000000000000 := by
        have := szM_le hle
        have : l.length * (300 + 3) ≤ 20 * 303 := Nat.mul_le_mul d4 (Nat.le_refl _)
        omega
      first | refine xw_call hE (ks := [0, 1, 2, 3, 4, 5, 8, 9, 10, 11, 12, 13, 14, 15, 16, 17, 18, 19, 20, 21, 44, 49, 58]) (n := 2000) (by rw [hP]; exact vsize_c l hsz) ?_ | refine xd_call hE (ks := [0, 1, 2, 3, 4, 5, 8, 9, 10, 11, 12, 13, 14, 15, 16, 17, 18, 19, 20, 21, 44, 49, 58]) (n := 2000) (by rw [hP]; exact vsize_c l hsz) ?_
      simp only [go_sem, Nat.reduceAdd, Nat.reduceMul, ↓reduceIte, reduceCtorEq, Nat.reduceLeDiff, Int.reduceToNat, Int.reduceLT, Int.reduceLE, Int.reduceEq, Int.reduceNe, Int.reduceBEq, Int.reduceBNe, not_false_eq_true, not_true_eq_false, hP]
      first | refine xw_call hE (ks := [0, 1, 2, 3, 4, 5, 8, 9, 10, 11, 12, 13, 14, 15, 16, 17, 18, 19, 20, 21, 44, 49, 58]) (n := 2000) (by rw [hP]; exact rsize_c l hsz) ?_ | refine xd_call hE (ks := [0, 1, 2, 3, 4, 5, 8, 9, 10, 11, 12, 13, 14, 15, 16, 17, 18, 19, 20, 21, 44, 49, 58]) (n := 2000) (by rw [hP]; exact rsize_c l hsz) ?_
      simp only [go_sem, Nat.reduceAdd, Nat.reduceMul, ↓reduceIte, reduceCtorEq, Nat.reduceLeDiff, Int.reduceToNat, Int.reduceLT, Int.reduceLE, Int.reduceEq, Int.reduceNe, Int.reduceBEq, Int.reduceBNe, not_false_eq_true, not_true_eq_false, hP]
      first | refine xw_call hE (ks := [0, 1, 2, 3, 4, 5, 8, 9, 10, 11, 12, 13, 14, 15, 16, 17, 18, 19, 20, 21, 44, 49, 58]) (n := 2000) (by rw [hP]; exact vgetA_c v _ key (by omega) (fun x hx => by have := hvp x hx; omega)) ?_ | refine xd_call hE (ks := [0, 1, 2, 3, 4, 5, 8, 9, 10, 11, 12, 13, 14, 15, 16, 17, 18, 19, 20, 21, 44, 49, 58]) (n := 2000) (by rw [hP]; exact vgetA_c v _ key (by omega) (fun x hx => by have := hvp x hx; omega)) ?_
      simp only [go_sem, Nat.reduceAdd, Nat.reduceMul, ↓reduceIte, reduceCtorEq, Nat.reduceLeDiff, Int.reduceToNat, Int.reduceLT, Int.reduceLE, Int.reduceEq, Int.reduceNe, Int.reduceBEq, Int.reduceBNe, not_false_eq_true, not_true_eq_false, hP, unBs_bt, Abs.strOf, allB_bt, toList_of]
      first | refine xw_call hE (ks := [0, 1, 2, 3, 4, 5, 8, 9, 10, 11, 12, 13, 14, 15, 16, 17, 18, 19, 20, 21, 44, 49, 58]) (n := 2000) (by rw [hP]; exact rget_c v _ key (by omega) (fun x hx => by have := hvp x hx; omega)) ?_ | refine xd_call hE (ks := [0, 1, 2, 3, 4, 5, 8, 9, 10, 11, 12, 13, 14, 15, 16, 17, 18, 19, 20, 21, 44, 49, 58]) (n := 2000) (by rw [hP]; exact rget_c v _ key (by omega) (fun x hx => by have := hvp x hx; omega)) ?_
      simp only [go_sem, Nat.reduceAdd, Nat.reduceMul, ↓reduceIte, reduceCtorEq, Nat.reduceLeDiff, Int.reduceToNat, Int.reduceLT, Int.reduceLE, Int.reduceEq, Int.reduceNe, Int.reduceBEq, Int.reduceBNe, not_false_eq_true, not_true_eq_false, hP, unBs_bt, Abs.strOf, allB_bt, toList_of]
      first | refine xw_call hE (ks := [0, 1, 2, 3, 4, 5, 8, 9, 10, 11, 12, 13, 14, 15, 16, 17, 18, 19, 20, 21, 44, 49, 58]) (n := 2000) (by rw [hP]; exact awake9_c) ?_ | refine xd_call hE (ks := [0, 1, 2, 3, 4, 5, 8, 9, 10, 11, 12, 13, 14, 15, 16, 17, 18, 19, 20, 21, 44, 49, 58]) (n := 2000) (by rw [hP]; exact awake9_c) ?_
      simp only [go_sem, Nat.reduceAdd, Nat.reduceMul, ↓reduceIte, reduceCtorEq, Nat.reduceLeDiff, Int.reduceToNat, Int.reduceLT, Int.reduceLE, Int.reduceEq, Int.reduceNe, Int.reduceBEq, Int.reduceBNe, not_false_eq_true, not_true_eq_false, hP]
      kernel_rfl

end Go.Proofs.YtcnpgmlkocbhkaaGreat

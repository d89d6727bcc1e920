/- joined of several texts; own work; no statement of the seat is proved but in the last -/
import Derived.Test.YtebndjnkmcahaaaGreatDoorVj
/-
  Clones of any bytes. Own work; no statement of the seat is proved here.
-/
section
namespace Go.Proofs.YtebndjnkmcahaaaGreatDoor
set_option linter.unusedSimpArgs false
set_option linter.unusedVariables false
open Go Go.Abs Go.RowKit

theorem FPure.ofNil {P : Program} {f : FuncId} {s : Nat} {v : AV} (h : ∀ A c, FPure P f [.p (.v (.slice A 0 c))] v) : FPure P f [.p (.data s 0 [])] v := by
  intro hh
  refine ⟨fun ρ F us w hpre hz hr => ?_⟩
  have h0 := hr 0 _ rfl
  have key : ∀ A c, us.getD 0 undef = .slice A 0 c → _ := fun A c e => ((h A c) hh).tri ρ F us w hpre hz (fun j x hj => by
    cases j with
    | zero => simp at hj; subst hj; rw [e]; exact .p _ _ (.v _ rfl)
    | succ j => simp at hj)
  rcases h0.dataInv with ⟨_, _, A, cap, e⟩ | ⟨b, off, cap, f, e, _⟩
  · exact key _ _ e
  · exact key _ _ e
theorem clone_n (c : Nat) : FPure Tryz.prog 24 [.p (.v (.slice none 0 c))] (.p (.data 1 0 [])) := by
  refine fpure_x hmix Tryz.func24 rfl (by kernel_rfl) Tryz.ntmps24 Tryz.results24 (by simp) (by simp [idsL, idsA]) [0, 2, 4] ?_; intro c hP h0 hE
  simp only [go_sem, ↓reduceIte, hP]
theorem clone_e (a : Addr) (c : Nat) : FPure Tryz.prog 24 [.p (.v (.slice (some a) 0 c))] (.p (.data 1 0 [])) := by
  refine fpure_x hmix Tryz.func24 rfl (by kernel_rfl) Tryz.ntmps24 Tryz.results24 (by simp) (by simp [idsL, idsA]) [0, 2, 4] ?_; intro c hP h0 hE
  simp only [go_sem, ↓reduceIte, hP]
theorem clone_all (cs : List PV) (n : Nat) (hn : cs.length = n) (hb : n ≤ 140737488355328) : FPure Tryz.prog 24 [.p (.data 1 n cs)] (.p (.data 1 n cs)) := by
  by_cases h : n = 0
  · subst h
    obtain rfl := List.eq_nil_of_length_eq_zero hn
    exact FPure.ofNil fun A c => by cases A with | none => exact clone_n c | some a => exact clone_e a c
  · refine fpure_x hmix Tryz.func24 rfl (by kernel_rfl) Tryz.ntmps24 Tryz.results24 (by simp) (by simp [idsL, idsA]) [0, 2, 4] ?_; intro c hP h0 hE
    simp only [go_sem, ↓reduceIte, hP]
    rw [List.take_of_length_le (by simp; omega)]
    exact ⟨h, ⟨by omega, by omega⟩, ⟨by omega, allQ_map _⟩, unQs_map _⟩

end Go.Proofs.YtebndjnkmcahaaaGreatDoor
end
/-
  The program's Get at any vault. Own work; no statement of the seat is proved here.
-/
section
namespace Go.Proofs.YtebndjnkmcahaaaGreatDoor
set_option linter.unusedSimpArgs false
set_option linter.unusedVariables false
open Go Go.Abs Go.RowKit

set_option maxHeartbeats 2000000 in
theorem vgetA_c (v : Vt) (n : Nat) (k : Int) (hp : v.prs.length < 1000000000) (hl : ∀ x, x ∈ v.prs → x.2.length ≤ 140737488355328) : FPure Tryz.prog 72 [.agg [.i v.j.ps, .p (.data 1 n (v.j.bs.map bt)), .i v.j.page, .i v.j.gen, .i v.j.tail, .b v.j.torn, .p (PL v.prs)], .i k] (.p (.data 1 (vgetM k v.prs).length ((vgetM k v.prs).map bt))) := by
  refine fpure_x hmix Tryz.func72 rfl (by kernel_rfl) Tryz.ntmps72 Tryz.results72 (by simp) (by simp [idsL, idsA]) [0, 1, 2, 4, 6, 8, 9, 10, 11, 17] ?_; intro c hP h0 hE
  simp only [go_sem, ↓reduceIte, hP]
  generalize hv : v.prs = l at *
  refine xw_loop hE h0 [0, 1, 2, 4, 6, 8, 9, 10, 11, 17] (α := { i : Nat // i ≤ l.length ∧ ∀ x, x ∈ l.take i → x.1 ≠ k }) (fun i => ⟨22, [(1, .i k), (8, .p (PL l)), (9, .i l.length), (10, .i i.1)], [], 1⟩) (fun i => l.length - i.1) ⟨0, Nat.zero_le _, by simp⟩ [] (fun i => i) ?_ ?_
  · refine ⟨rfl, ?_, trivial, rfl, rfl, trivial, fun i h => h⟩
    simp only [go_sem, ↓reduceIte]
  · rintro ⟨i, hi, hno⟩
    rcases Nat.lt_or_ge i l.length with hin | hin
    · have hc : ((i : Int) < (l.length : Int)) := by omega
      have hat := prCs_at l i hin
      have hta := take_at l i hin
      have hmem : l.getD i (0, []) ∈ l := by rw [show l.getD i (0, []) = l[i]'hin from by simp [List.getD_eq_getElem?_getD, hin]]; exact List.getElem_mem _
      have hgl := hl _ hmem
      have hw : IntKind.i64.wrap ((i : Int) + 1) = ((i + 1 : Nat) : Int) := by rw [wrap_i64_id (by omega) (by omega)]; omega
      have hgt := vgetM_at k l i hin hno
      generalize l.getD i (0, []) = p at *
      simp only [go_sem, ↓reduceIte, hP, hat, hc, byP, hw]
      refine ⟨by omega, ?_⟩
      by_cases he : p.1 = k
      · rw [if_pos he]
        have hgt := hgt he
        first | refine xw_call hE (ks := [0, 1, 2, 4, 6, 8, 9, 10, 11, 17]) (n := 2000) (by rw [hP]; exact clone_all (p.2.map bt) _ (by simp) hgl) ?_ | refine xd_call hE (ks := [0, 1, 2, 4, 6, 8, 9, 10, 11, 17]) (n := 2000) (by rw [hP]; exact clone_all (p.2.map bt) _ (by simp) hgl) ?_
        rw [← hgt]
        simp only [go_sem, ↓reduceIte, hP]
      · rw [if_neg he]
        refine ⟨⟨i + 1, by omega, ?_⟩, by show l.length - (i + 1) < l.length - i; omega, subG [0] rfl ?_ ?_ rfl rfl (Nat.le_refl _)⟩
        · intro x hx
          rw [hta] at hx
          rcases List.mem_append.1 hx with hx | hx
          · exact hno x hx
          · simp at hx; rw [hx]; exact he
        · simp only [go_sem, ↓reduceIte]
        · simp only [go_sem, ↓reduceIte]
    · obtain rfl : i = l.length := by omega
      have hnc : ¬ ((l.length : Int) < (l.length : Int)) := by omega
      rw [List.take_of_length_le (Nat.le_refl _)] at hno
      simp only [go_sem, ↓reduceIte, hP, hnc, vgetM_no k l hno]

end Go.Proofs.YtebndjnkmcahaaaGreatDoor
end

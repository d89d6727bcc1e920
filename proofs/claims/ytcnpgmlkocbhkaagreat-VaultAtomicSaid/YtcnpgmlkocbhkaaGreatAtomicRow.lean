/-
  VaultAtomic: for all arguments the law returns true, and its arguments read as before. No condition.
-/
import Derived.Test.YtcnpgmlkocbhkaaGreatRow
import Derived.Test.YtcnpgmlkocbhkaaGreatVt
namespace Go.Proofs.YtcnpgmlkocbhkaaGreat
set_option linter.unusedSimpArgs false
set_option linter.unusedVariables false
open Go Go.Abs Go.RowKit Go.WideShapes Go.ChangeShapes Go.ChangeAt

set_option maxRecDepth 100000 in
theorem atomic_lifted (os : Os) (started : os.Started) (H : Type) (enc : TypeId × Value → H) :
    ReturnsInHanded {} Tryz.checked os 7 .any (Rows.vaultAtomicSpec.pre6 enc Tryz.prog Tryz.f7 Rows.vaultAtomicRow.domain false) (Rows.vaultAtomicSpec.post enc Tryz.prog Tryz.f7 false true false false) := by
  refine returnsInHanded_of_change (C := Tryz.checked) own started (by kernel_rfl) Tryz.func7
    (ChangeSpec.witness6 (enc := enc) (C := Tryz.checked) false ⟨#[], #[.int .i64 0, .slice none 0 0, .int .i64 0, .int .u16 0], []⟩ 8 (by kernel_rfl) (by kernel_rfl) (by kernel_rfl) (by kernel_rfl)) ?_
  intro W base args ds gs before hval0 hW hcnd _
  have hval : ∀ (j : Nat) t v, Tryz.f7.params[j]? = some t → args[j]? = some v → Value.okWide Tryz.prog W .any base t v := hval0
  have hW' := hW
  obtain ⟨p, q, hA0, hV, rfl, hfz, hnd⟩ := hW
  have hA : DataW.TrodAll enc Tryz.prog W 0 (fun _ => true) true Tryz.f7.params.toList args.toList ds p := hA0
  have hAk := hA
  rw [Tryz.params7] at hA hval
  obtain ⟨v0, vs0, d0, ds0, p0, q0, hargs, rfl, rfl, h0, r0⟩ := trodAll_cons hA
  obtain ⟨v1, vs1, d1, ds1, p1, q1, rfl, rfl, rfl, h1, r1⟩ := trodAll_cons r0
  obtain ⟨v2, vs2, d2, ds2, p2, q2, rfl, rfl, rfl, h2, r2⟩ := trodAll_cons r1
  obtain ⟨v3, vs3, d3, ds3, p3, q3, rfl, rfl, rfl, h3, r3⟩ := trodAll_cons r2
  obtain ⟨rfl, rfl, rfl⟩ := trodAll_nil r3
  obtain rfl : args = #[v0, v1, v2, v3] := by cases args; simp_all
  obtain ⟨rfl, rfl⟩ := trodVars_none hV
  have hlt : ∀ x ∈ p0 ++ (p1 ++ (p2 ++ (p3 ++ []))), x.block < W.heap.size := fun x hx => hW'.lt x (by simpa using hx)
  obtain ⟨z0, hz0, -, -, w0⟩ := open_int Tryz.underlying3 (hval 0 _ v0 rfl rfl) h0
  have w0 := i64_wf w0
  obtain ⟨A1, L1, C1, hv1⟩ := okWide_slice Tryz.underlying22 (hval 1 _ v1 rfl rfl)
  have e1 : v1.cells.toList = [v1] := by rw [hv1]; rfl
  obtain ⟨n1, t1⟩ := h1
  rw [e1] at t1
  obtain ⟨l1, m1, -, g1⟩ := open_rd Tryz.underlying22 Tryz.underlying3 cells_int t1
  obtain ⟨z2, hz2, -, -, w2⟩ := open_int Tryz.underlying3 (hval 2 _ v2 rfl rfl) h2
  have w2 := i64_wf w2
  obtain ⟨z3, hz3, -, -, w3⟩ := open_int Tryz.underlying48 (hval 3 _ v3 rfl rfl) h3
  have w3 := u16_wf w3
  refine (calls_law (vatomic_c z0 l1 z2 z3 w3) rfl ?_).mono fun e W' ⟨he, hb⟩ => ?_
  · intro i c hi
    match i, hi with
    | 0, hi =>
      simp only [List.getElem?_cons_zero, Option.some.injEq] at hi
      subst hi
      subst hz0
      exact .p _ _ (.v _ rfl)
    | 1, hi =>
      simp only [List.getElem?_cons_succ, List.getElem?_cons_zero, Option.some.injEq] at hi
      subst hi
      exact .p _ _ g1
    | 2, hi =>
      simp only [List.getElem?_cons_succ, List.getElem?_cons_zero, Option.some.injEq] at hi
      subst hi
      subst hz2
      exact .p _ _ (.v _ rfl)
    | 3, hi =>
      simp only [List.getElem?_cons_succ, List.getElem?_cons_zero, Option.some.injEq] at hi
      subst hi
      subst hz3
      exact .p _ _ (.v _ rfl)
    | i + 4, hi => simp at hi
  · subst he
    refine ⟨_, rfl, post_of_below (pa := p0 ++ (p1 ++ (p2 ++ (p3 ++ [])))) (pv := []) hW' (fun _ _ _ => trodAll_cons_mk (shut_bool Tryz.underlying4 _) trodAll_mk0) (fun sp hsp => trodAll_stays hb ?_ hAk hlt sp (fun x hx => hsp x (by simpa using hx))) (fun _ _ => rfl) rfl hb (ok_one (by kernel_rfl) rfl (okWide_bool_mk Tryz.underlying4 _))⟩
    rw [Tryz.params7]
    intro t ht
    simp only [List.mem_cons, List.not_mem_nil, or_false] at ht
    rcases ht with rfl | rfl | rfl | rfl
    · exact ⟨by kernel_rfl, of_decide_eq_true (by kernel_rfl)⟩
    · exact ⟨by kernel_rfl, of_decide_eq_true (by kernel_rfl)⟩
    · exact ⟨by kernel_rfl, of_decide_eq_true (by kernel_rfl)⟩
    · exact ⟨by kernel_rfl, of_decide_eq_true (by kernel_rfl)⟩

theorem atomic_over : Rows.vaultAtomicRow.holds Tryz.pinned (OpenSpec.ofChange Rows.vaultAtomicSpec) :=
  OpenClaim.holds_of_wide 7 Tryz.f7 rfl rfl rfl rfl rfl rfl rfl ⟨rfl, rfl, rfl, rfl, rfl⟩ rfl rfl rfl rfl rfl (by kernel_rfl) Tryz.func7 (by kernel_rfl)
    (of_decide_eq_true (by kernel_rfl)) (by unfold Func.isWrapper; first | (rw [if_pos (by decide +kernel)]; kernel_rfl) | (rw [if_neg (by decide +kernel)]; exact ⟨rfl, rfl⟩))
    (fun os started H enc _ => atomic_lifted os started H enc)

theorem atomic_holds : Rows.VaultAtomicSaid := atomic_over

end Go.Proofs.YtcnpgmlkocbhkaaGreat

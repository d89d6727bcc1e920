/-
  JournalRaw: for every flash, every journal and all bytes the law returns true, and its arguments read as before. No condition.
-/
import Derived.Test.YtpelcbonflijhaaRaw
namespace Go.Proofs.Ytpelcbonflijhaa
set_option linter.unusedSimpArgs false
set_option linter.unusedVariables false
open Go Go.Abs Go.RowKit Go.WideShapes Go.ChangeShapes Go.ChangeAt

set_option maxRecDepth 100000 in
theorem raw_lifted (os : Os) (started : os.Started) (H : Type) (enc : TypeId × Value → H) :
    ReturnsInHanded {} Try.checked os 5 .any (Rows.journalRawSpec.pre6 enc Try.prog Try.f5 Rows.journalRawRow.domain false) (Rows.journalRawSpec.post enc Try.prog Try.f5 false true false false) := by
  refine returnsInHanded_of_change (C := Try.checked) own started (by kernel_rfl) Try.func5
    (ChangeSpec.witness6 (enc := enc) (C := Try.checked) false ⟨#[], #[.agg #[.int .i64 0, .slice none 0 0], .agg #[.int .i64 0, .slice none 0 0, .int .i64 0, .int .i64 0, .int .i64 0, .bool false], .slice none 0 0], []⟩ 8 (by kernel_rfl) (by kernel_rfl) (by kernel_rfl) (by kernel_rfl)) ?_
  intro W base args ds gs before hval0 hW hcnd _
  have hval : ∀ (j : Nat) t v, Try.f5.params[j]? = some t → args[j]? = some v → Value.okWide Try.prog W .any base t v := hval0
  have hW' := hW
  obtain ⟨p, q, hA0, hV, rfl, hfz, hnd⟩ := hW
  have hA : DataW.TrodAll enc Try.prog W 0 (fun _ => true) true Try.f5.params.toList args.toList ds p := hA0
  have hAk := hA
  rw [Try.params5] at hA hval
  obtain ⟨v0, vs0, d0, ds0, p0, q0, hargs, rfl, rfl, h0, r0⟩ := trodAll_cons hA
  obtain ⟨v1, vs1, d1, ds1, p1, q1, rfl, rfl, rfl, h1, r1⟩ := trodAll_cons r0
  obtain ⟨v2, vs2, d2, ds2, p2, q2, rfl, rfl, rfl, h2, r2⟩ := trodAll_cons r1
  obtain ⟨rfl, rfl, rfl⟩ := trodAll_nil r2
  obtain rfl : args = #[v0, v1, v2] := by cases args; simp_all
  obtain ⟨rfl, rfl⟩ := trodVars_none hV
  obtain ⟨c0, rfl, hz0⟩ := okWide_struct Try.underlying25 (hval 0 _ v0 rfl rfl)
  obtain ⟨c1, rfl, hz1⟩ := okWide_struct Try.underlying27 (hval 1 _ v1 rfl rfl)
  obtain ⟨n0, t0⟩ := h0
  obtain ⟨n1, t1⟩ := h1
  obtain ⟨n2, t2⟩ := h2
  obtain ⟨ps, u0, fb, e0, -, l0, g0⟩ := trod_flash t0
  obtain ⟨j, u1, e1, l1, g1⟩ := trod_journal t1
  have hc0 : c0 = #[.int .i64 ps, u0] := by simpa [Value.cells] using congrArg List.toArray e0
  have hc1 : c1 = #[.int .i64 j.ps, u1, .int .i64 j.page, .int .i64 j.gen, .int .i64 j.tail, .bool j.torn] := by simpa [Value.cells] using congrArg List.toArray e1
  obtain ⟨A2, L2, C2, hv2⟩ := okWide_slice Try.underlying23 (hval 2 _ v2 rfl rfl)
  have e2 : v2.cells.toList = [v2] := by rw [hv2]; rfl
  rw [e2] at t2
  obtain ⟨b, l2, g2⟩ := rd_bytes Try.underlying23 Try.underlying5 cells_byte t2
  subst hc0 hc1
  have hlt : ∀ x ∈ p0 ++ (p1 ++ (p2 ++ [])), x.block < W.heap.size := fun x hx => hW'.lt x (by simpa using hx)
  refine (calls_law (raw_c ⟨ps, fb⟩ j b l0 l1 l2) rfl ?_).mono fun e W' ⟨he, hb⟩ => ?_
  · intro i c hi
    match i, hi with
    | 0, hi =>
      simp only [List.getElem?_cons_zero, Option.some.injEq] at hi
      subst hi
      refine .agg _ _ rfl fun i c hi => ?_
      match i, hi with
      | 0, hi => simp only [List.getElem?_cons_zero, Option.some.injEq] at hi; subst hi; exact .p _ _ (.v _ rfl)
      | 1, hi => simp only [List.getElem?_cons_succ, List.getElem?_cons_zero, Option.some.injEq] at hi; subst hi; exact .p _ _ g0
      | i + 2, hi => simp at hi
    | 1, hi =>
      simp only [List.getElem?_cons_succ, List.getElem?_cons_zero, Option.some.injEq] at hi
      subst hi
      refine .agg _ _ rfl fun i c hi => ?_
      match i, hi with
      | 0, hi => simp only [List.getElem?_cons_zero, Option.some.injEq] at hi; subst hi; exact .p _ _ (.v _ rfl)
      | 1, hi => simp only [List.getElem?_cons_succ, List.getElem?_cons_zero, Option.some.injEq] at hi; subst hi; exact .p _ _ g1
      | 2, hi => simp only [List.getElem?_cons_succ, List.getElem?_cons_zero, Option.some.injEq] at hi; subst hi; exact .p _ _ (.v _ rfl)
      | 3, hi => simp only [List.getElem?_cons_succ, List.getElem?_cons_zero, Option.some.injEq] at hi; subst hi; exact .p _ _ (.v _ rfl)
      | 4, hi => simp only [List.getElem?_cons_succ, List.getElem?_cons_zero, Option.some.injEq] at hi; subst hi; exact .p _ _ (.v _ rfl)
      | 5, hi => simp only [List.getElem?_cons_succ, List.getElem?_cons_zero, Option.some.injEq] at hi; subst hi; exact .p _ _ (.v _ rfl)
      | i + 6, hi => simp at hi
    | 2, hi =>
      simp only [List.getElem?_cons_succ, List.getElem?_cons_zero, Option.some.injEq] at hi
      subst hi
      exact .p _ _ g2
    | i + 3, hi => simp at hi
  · subst he
    refine ⟨_, rfl, post_of_below (pa := p0 ++ (p1 ++ (p2 ++ []))) (pv := []) hW' (fun _ _ _ => trodAll_cons_mk (shut_bool Try.underlying4 _) trodAll_mk0) (fun sp hsp => trodAll_stays hb ?_ hAk hlt sp (fun x hx => hsp x (by simpa using hx))) (fun _ _ => rfl) rfl hb (ok_one (by kernel_rfl) rfl (okWide_bool_mk Try.underlying4 _))⟩
    rw [Try.params5]
    intro t ht
    simp only [List.mem_cons, List.not_mem_nil, or_false] at ht
    rcases ht with rfl | rfl | rfl
    · exact ⟨by kernel_rfl, of_decide_eq_true (by kernel_rfl)⟩
    · exact ⟨by kernel_rfl, of_decide_eq_true (by kernel_rfl)⟩
    · exact ⟨by kernel_rfl, of_decide_eq_true (by kernel_rfl)⟩

theorem raw_over : Rows.journalRawRow.holds Try.pinned (OpenSpec.ofChange Rows.journalRawSpec) :=
  OpenClaim.holds_of_wide 5 Try.f5 rfl rfl rfl rfl rfl rfl rfl ⟨rfl, rfl, rfl, rfl, rfl⟩ rfl rfl rfl rfl rfl (by kernel_rfl) Try.func5 (by kernel_rfl)
    (of_decide_eq_true (by kernel_rfl)) (by unfold Func.isWrapper; first | (rw [if_pos (by decide +kernel)]; kernel_rfl) | (rw [if_neg (by decide +kernel)]; exact ⟨rfl, rfl⟩))
    (fun os started H enc _ => raw_lifted os started H enc)

theorem raw_holds : Rows.JournalRawSaid := raw_over

end Go.Proofs.Ytpelcbonflijhaa

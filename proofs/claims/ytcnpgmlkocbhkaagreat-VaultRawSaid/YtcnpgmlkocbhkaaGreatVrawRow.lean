/-
  VaultRaw: for every flash, every vault, all pairs and every key the law returns true, and its arguments read as before. No condition.
-/
import Derived.Test.YtcnpgmlkocbhkaaGreatOpen
import Derived.Test.YtcnpgmlkocbhkaaGreatVw
namespace Go.Proofs.YtcnpgmlkocbhkaaGreat
set_option linter.unusedSimpArgs false
set_option linter.unusedVariables false
open Go Go.Abs Go.RowKit Go.WideShapes Go.ChangeShapes Go.ChangeAt

set_option maxRecDepth 100000 in
theorem sh_flash {n : Nat} {ps : List PV} (h : Sh Tryz.prog (n + 3) 25 ps) : ∃ f : Fl, ps = [.v (.int .i64 f.ps), .data 1 f.bs.length (f.bs.map bt)] ∧ f.bs.length ≤ reachBytes := by
  obtain ⟨a, b, rfl, h0, c, d, rfl, h1, rfl⟩ := sh_struct Tryz.underlying25 h
  obtain ⟨z, rfl, -⟩ := sh_int Tryz.underlying3 h0
  obtain ⟨bs, rfl, hb⟩ := sh_bytes Tryz.underlying23 Tryz.underlying5 cells_byte (by kernel_rfl) h1
  exact ⟨⟨z, bs⟩, rfl, hb⟩
set_option maxRecDepth 100000 in
theorem sh_journal {n : Nat} {ps : List PV} (h : Sh Tryz.prog (n + 4) 27 ps) : ∃ j : Jn, ps = [.v (.int .i64 j.ps), .data 1 j.bs.length (j.bs.map bt), .v (.int .i64 j.page), .v (.int .i64 j.gen), .v (.int .i64 j.tail), .v (.bool j.torn)] ∧ j.bs.length ≤ reachBytes := by
  obtain ⟨a0, b0, rfl, h0, a1, b1, rfl, h1, a2, b2, rfl, h2, a3, b3, rfl, h3, a4, b4, rfl, h4, rfl⟩ := sh_struct Tryz.underlying27 h
  obtain ⟨f, rfl, hf⟩ := sh_flash h0
  obtain ⟨z1, rfl, -⟩ := sh_int Tryz.underlying3 h1
  obtain ⟨z2, rfl, -⟩ := sh_int Tryz.underlying3 h2
  obtain ⟨z3, rfl, -⟩ := sh_int Tryz.underlying3 h3
  obtain ⟨z4, rfl⟩ := sh_bool Tryz.underlying4 h4
  exact ⟨⟨f.ps, f.bs, z1, z2, z3, z4⟩, rfl, hf⟩
set_option maxRecDepth 100000 in
theorem sh_pairs {n : Nat} {ps : List PV} (h : Sh Tryz.prog (n + 4) 28 ps) : ∃ l : Store, ps = [PL l] ∧ l.length ≤ reachBytes ∧ ∀ x, x ∈ l → x.2.length ≤ reachBytes := by
  obtain ⟨l, rfl, hl, hq⟩ := sh_list (fun p : Int × List UInt8 => [.v (.int .i64 p.1), .data 1 p.2.length (p.2.map bt)]) (fun p => p.2.length ≤ reachBytes) Tryz.underlying28 (by kernel_rfl) (fun q hq => by
    obtain ⟨a, b, rfl, h0, c, d, rfl, h1, rfl⟩ := sh_struct Tryz.underlying43 hq
    obtain ⟨z, rfl, -⟩ := sh_int Tryz.underlying3 h0
    obtain ⟨bs, rfl, hb⟩ := sh_bytes Tryz.underlying23 Tryz.underlying5 cells_byte (by kernel_rfl) h1
    exact ⟨(z, bs), rfl, hb⟩) h
  refine ⟨l, ?_, hl, hq⟩
  have : Tryz.prog.cellsOf 43 = 2 := by kernel_rfl
  rw [this]
  rfl
set_option maxRecDepth 100000 in
theorem sh_vault {n : Nat} {ps : List PV} (h : Sh Tryz.prog (n + 5) 30 ps) : ∃ v : Vt, ps = [.v (.int .i64 v.j.ps), .data 1 v.j.bs.length (v.j.bs.map bt), .v (.int .i64 v.j.page), .v (.int .i64 v.j.gen), .v (.int .i64 v.j.tail), .v (.bool v.j.torn), PL v.prs] ∧ v.j.bs.length ≤ reachBytes ∧
    v.prs.length ≤ reachBytes ∧ ∀ x, x ∈ v.prs → x.2.length ≤ reachBytes := by
  obtain ⟨a, b, rfl, h0, c, d, rfl, h1, rfl⟩ := sh_struct Tryz.underlying30 h
  obtain ⟨j, rfl, hj⟩ := sh_journal h0
  obtain ⟨l, rfl, hl, hq⟩ := sh_pairs h1
  exact ⟨⟨j, l⟩, rfl, hj, hl, hq⟩

set_option maxRecDepth 100000 in
theorem vraw_lifted (os : Os) (started : os.Started) (H : Type) (enc : TypeId × Value → H) :
    ReturnsInHanded {} Tryz.checked os 4 .any (Rows.vaultRawSpec.pre6 enc Tryz.prog Tryz.f4 Rows.vaultRawRow.domain false) (Rows.vaultRawSpec.post enc Tryz.prog Tryz.f4 false true false false) := by
  refine returnsInHanded_of_change_sized (C := Tryz.checked) own started (by kernel_rfl) Tryz.func4
    (ChangeSpec.witness6 (enc := enc) (C := Tryz.checked) false ⟨#[], #[.agg #[.int .i64 0, .slice none 0 0], .agg #[.int .i64 0, .slice none 0 0, .int .i64 0, .int .i64 0, .int .i64 0, .bool false, .slice none 0 0], .slice none 0 0, .int .i64 0], []⟩ 8 (by kernel_rfl) (by kernel_rfl) (by kernel_rfl) (by kernel_rfl)) ?_
  intro W base args ds gs before hval0 hW hcnd hsz _
  have hval : ∀ (j : Nat) t v, Tryz.f4.params[j]? = some t → args[j]? = some v → Value.okWide Tryz.prog W .any base t v := hval0
  have hW' := hW
  obtain ⟨p, q, hA0, hV, rfl, hfz, hnd⟩ := hW
  have hA : DataW.TrodAll enc Tryz.prog W 0 (fun _ => true) true Tryz.f4.params.toList args.toList ds p := hA0
  have hAk := hA
  rw [Tryz.params4] at hA hval
  obtain ⟨v0, vs0, d0, ds0, p0, q0, hargs, rfl, rfl, h0, r0⟩ := trodAll_cons hA
  obtain ⟨v1, vs1, d1, ds1, p1, q1, rfl, rfl, rfl, h1, r1⟩ := trodAll_cons r0
  obtain ⟨v2, vs2, d2, ds2, p2, q2, rfl, rfl, rfl, h2, r2⟩ := trodAll_cons r1
  obtain ⟨v3, vs3, d3, ds3, p3, q3, rfl, rfl, rfl, h3, r3⟩ := trodAll_cons r2
  obtain ⟨rfl, rfl, rfl⟩ := trodAll_nil r3
  obtain rfl : args = #[v0, v1, v2, v3] := by cases args; simp_all
  obtain ⟨rfl, rfl⟩ := trodVars_none hV
  obtain ⟨c0, rfl, hz0⟩ := okWide_struct Tryz.underlying25 (hval 0 _ v0 rfl rfl)
  obtain ⟨c1, rfl, hz1⟩ := okWide_struct Tryz.underlying30 (hval 1 _ v1 rfl rfl)
  obtain ⟨A2, L2, C2, hv2⟩ := okWide_slice Tryz.underlying28 (hval 2 _ v2 rfl rfl)
  obtain ⟨n0, t0⟩ := h0
  obtain ⟨n1, t1⟩ := h1
  obtain ⟨n2, t2⟩ := h2
  obtain ⟨z3, hz3, -, -, w3⟩ := open_int Tryz.underlying3 (hval 3 _ v3 rfl rfl) h3
  have hwt : ∀ (j : Nat) (t : TypeId) (d : DataW H), Tryz.f4.params.toList[j]? = some t → [d0, d1, d2, d3][j]? = some d → ∀ n, n ∈ d.weights Tryz.prog t → n ≤ reachBytes := fun j t d ht hd n hn => by
    have hl := (List.getElem?_eq_some_iff.1 hd).1
    have := List.all_eq_true.1 hsz n (DataW.weights_mem_each (j := j) (t := t) (d := d) (by rw [List.getElem?_append_left (List.getElem?_eq_some_iff.1 ht).1]; exact ht) (by rw [List.getElem?_append_left hl]; exact hd) n hn)
    simpa using this
  obtain ⟨s0, k0, g0⟩ := trod_sh (P := Tryz.prog) 8 _ _ _ _ (by kernel_rfl) t0 (hwt 0 _ _ rfl rfl)
  obtain ⟨s1, k1, g1⟩ := trod_sh (P := Tryz.prog) 8 _ _ _ _ (by kernel_rfl) t1 (hwt 1 _ _ rfl rfl)
  obtain ⟨s2, k2, g2⟩ := trod_sh (P := Tryz.prog) 8 _ _ _ _ (by kernel_rfl) t2 (hwt 2 _ _ rfl rfl)
  obtain ⟨f, rfl, hf⟩ := sh_flash g0
  obtain ⟨v, rfl, hj, hl, hq⟩ := sh_vault g1
  obtain ⟨l, rfl, hll, hlq⟩ := sh_pairs g2
  have hlt : ∀ x ∈ p0 ++ (p1 ++ (p2 ++ (p3 ++ []))), x.block < W.heap.size := fun x hx => hW'.lt x (by simpa using hx)
  refine (calls_law (vraw_c f v l z3 hf hj hl hq hll hlq) (glob_none fun _ => rfl) rfl ?_).mono fun e W' ⟨he, hb⟩ => ?_
  · intro i c hi
    match i, hi with
    | 0, hi =>
      simp only [List.getElem?_cons_zero, Option.some.injEq] at hi
      subst hi
      exact Rds.agg (us := c0) (by simpa [Value.cells] using k0)
    | 1, hi =>
      simp only [List.getElem?_cons_succ, List.getElem?_cons_zero, Option.some.injEq] at hi
      subst hi
      exact Rds.agg (us := c1) (by simpa [Value.cells] using k1)
    | 2, hi =>
      simp only [List.getElem?_cons_succ, List.getElem?_cons_zero, Option.some.injEq] at hi
      subst hi
      have e2 : v2.cells.toList = [v2] := by rw [hv2]; rfl
      rw [e2] at k2
      exact k2.val
    | 3, hi =>
      simp only [List.getElem?_cons_succ, List.getElem?_cons_zero, Option.some.injEq] at hi
      subst hi
      subst hz3
      exact .p _ _ (.v _ rfl)
    | i + 4, hi => simp at hi
  · subst he
    refine ⟨_, rfl, post_of_below (pa := p0 ++ (p1 ++ (p2 ++ (p3 ++ [])))) (pv := []) hW' (fun _ _ _ => trodAll_cons_mk (shut_bool Tryz.underlying4 _) trodAll_mk0) (fun sp hsp => trodAll_stays hb ?_ hAk hlt sp (fun x hx => hsp x (by simpa using hx))) (fun _ _ => rfl) rfl hb (ok_one (by kernel_rfl) rfl (okWide_bool_mk Tryz.underlying4 _))⟩
    rw [Tryz.params4]
    intro t ht
    simp only [List.mem_cons, List.not_mem_nil, or_false] at ht
    rcases ht with rfl | rfl | rfl | rfl
    · exact ⟨by kernel_rfl, of_decide_eq_true (by kernel_rfl)⟩
    · exact ⟨by kernel_rfl, of_decide_eq_true (by kernel_rfl)⟩
    · exact ⟨by kernel_rfl, of_decide_eq_true (by kernel_rfl)⟩
    · exact ⟨by kernel_rfl, of_decide_eq_true (by kernel_rfl)⟩

theorem vraw_over : Rows.vaultRawRow.holds Tryz.pinned (OpenSpec.ofChange Rows.vaultRawSpec) :=
  OpenClaim.holds_of_wide 4 Tryz.f4 rfl rfl rfl rfl rfl rfl rfl ⟨rfl, rfl, rfl, rfl, rfl⟩ rfl rfl rfl rfl rfl (by kernel_rfl) Tryz.func4 (by kernel_rfl)
    (of_decide_eq_true (by kernel_rfl)) (by unfold Func.isWrapper; first | (rw [if_pos (by decide +kernel)]; kernel_rfl) | (rw [if_neg (by decide +kernel)]; exact ⟨rfl, rfl⟩))
    (fun os started H enc _ => vraw_lifted os started H enc)

theorem vraw_holds : Rows.VaultRawSaid := vraw_over

end Go.Proofs.YtcnpgmlkocbhkaaGreat

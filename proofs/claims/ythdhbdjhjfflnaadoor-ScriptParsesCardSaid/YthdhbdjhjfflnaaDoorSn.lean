/-
  The package variables of scripts: what the row's condition says of their cells. Own work.
-/
import Derived.Test.YthdhbdjhjfflnaaDoorSm
import Derived.Test.YthdhbdjhjfflnaaDoorRow0
import Derived.Test.YthdhbdjhjfflnaaDoorTie
import Derived.OpenShut
import Derived.LaidMore
import Derived.Stop.Joined
namespace Go.Proofs.YthdhbdjhjfflnaaDoor
set_option linter.unusedSimpArgs false
set_option linter.unusedVariables false
open Go Go.Abs Go.RowKit Go.WideShapes Go.ChangeShapes Go.ChangeAt

theorem arr_flat {D : Type} (k : Nat) (f : D → List Value) : ∀ (n : Nat) (cs : List Value) (ds : List D), cs.length = n * k → ds.length = n →
    (∀ i d, ds[i]? = some d → (cs.drop (i * k)).take k = f d) → cs = ds.flatMap f := by
  intro n
  induction n with
  | zero =>
    intro cs ds hc hd _
    have hc' : cs = [] := List.length_eq_zero_iff.1 (by omega)
    have hd' : ds = [] := List.length_eq_zero_iff.1 hd
    subst hc'; subst hd'; rfl
  | succ n ih =>
    intro cs ds hc hd h
    cases ds with
    | nil => cases hd
    | cons d ds =>
      have h0 := h 0 d rfl
      rw [Nat.zero_mul, List.drop_zero] at h0
      have h1 := ih (cs.drop k) ds (by rw [List.length_drop, hc, Nat.succ_mul]; omega) (by simpa using hd) (fun i x hx => by
        have := h (i + 1) x (by simpa using hx)
        rw [List.drop_drop, Nat.add_comm k, ← Nat.succ_mul]
        exact this)
      rw [List.flatMap_cons, ← h1, ← h0, List.take_append_drop]

theorem ba_eq (s : ByteArray) : s = ⟨s.data.toList.toArray⟩ := by cases s; simp

/-- the cells of a datum of literals -/
def litV : DataW Unit → Value
  | .lit (.string s) => .string ⟨s.toArray⟩
  | .lit (.int k n) => .int k n
  | _ => undef
def aggV : DataW Unit → List Value
  | .agg l => l.map litV
  | d => [litV d]

section
variable {w : World} {fuel : Nat} {base : Nat} {sp : Nat → Bool} {held : Bool} {e : TypeId × Value → Unit}
theorem str_lit {t : TypeId} {cs : List Value} {x : DataW Unit × List MemPlace} (ht : Tryd.prog.underlying t = some .string) (h : DataW.trod e Tryd.prog w base sp held fuel t cs = some x) : cs = [litV x.1] := by
  obtain ⟨s, rfl, rfl, -⟩ := DataW.trod_string ht h
  simp only [litV]
theorem int_lit {t : TypeId} {k : IntKind} {cs : List Value} {x : DataW Unit × List MemPlace} (ht : Tryd.prog.underlying t = some (.int k)) (h : DataW.trod e Tryd.prog w base sp held fuel t cs = some x) : cs = [litV x.1] := by
  obtain ⟨n, rfl, rfl, -⟩ := DataW.trod_int ht h
  rfl
theorem strs_lit {t : TypeId} {n : Nat} {cs : List Value} {ds : List (DataW Unit)} {p : List MemPlace} (ht : Tryd.prog.underlying t = some (.array n 9)) (hn : Tryd.prog.cellsOf t = n)
    (h : DataW.trod e Tryd.prog w base sp held fuel t cs = some (.agg ds, p)) : cs = ds.map litV := by
  obtain ⟨xs, m, -, hx, hl, hxn, hf⟩ := DataW.trod_array ht h
  have hc : Tryd.prog.cellsOf 9 = 1 := by kernel_rfl
  simp only [Prod.mk.injEq, DataW.agg.injEq] at hx
  obtain ⟨rfl, -⟩ := hx
  have := arr_flat 1 (fun x : DataW Unit × List MemPlace => [litV x.1]) n cs xs (by omega) hxn (fun i d hi => by
    have hlt : i < n := by
      rw [← hxn]; exact (List.getElem?_eq_some_iff.1 hi).1
    have := hf i hlt
    rw [hi, hc] at this
    exact str_lit Tryd.underlying9 this)
  rw [this]
  clear this hf hl hxn h
  induction xs with
  | nil => rfl
  | cons a l ih => simp_all
theorem form_lit {cs : List Value} {x : DataW Unit × List MemPlace} (h : DataW.trod e Tryd.prog w base sp held fuel 70 cs = some x) : cs = aggV x.1 := by
  obtain ⟨xs, m, -, hx, hl, hxn, hf⟩ := DataW.trod_struct Tryd.underlying70 h
  have hc : Tryd.prog.cellsOf 70 = 4 := by kernel_rfl
  have hs : Tryd.prog.cellsOf 9 = 1 := by kernel_rfl
  have hi : Tryd.prog.cellsOf 3 = 1 := by kernel_rfl
  rw [hc] at hl
  have f0 : DataW.trod e Tryd.prog w base sp held m 9 ((cs.drop 0).take (Tryd.prog.cellsOf 9)) = xs[0]? := hf 0 _ rfl
  have f1 : DataW.trod e Tryd.prog w base sp held m 3 ((cs.drop 1).take (Tryd.prog.cellsOf 3)) = xs[1]? := hf 1 _ rfl
  have f2 : DataW.trod e Tryd.prog w base sp held m 3 ((cs.drop 2).take (Tryd.prog.cellsOf 3)) = xs[2]? := hf 2 _ rfl
  have f3 : DataW.trod e Tryd.prog w base sp held m 9 ((cs.drop 3).take (Tryd.prog.cellsOf 9)) = xs[3]? := hf 3 _ rfl
  rw [hs] at f0 f3
  rw [hi] at f1 f2
  have hxn' : xs.length = 4 := hxn
  match xs, hxn', hx, f0, f1, f2, f3 with
  | [x0, x1, x2, x3], _, hx, f0, f1, f2, f3 =>
    have g0 := str_lit Tryd.underlying9 (show _ = some x0 from f0)
    have g1 := int_lit Tryd.underlying3 (show _ = some x1 from f1)
    have g2 := int_lit Tryd.underlying3 (show _ = some x2 from f2)
    have g3 := str_lit Tryd.underlying9 (show _ = some x3 from f3)
    have hx1 : x.1 = .agg [x0.1, x1.1, x2.1, x3.1] := by rw [hx]; rfl
    rw [hx1]
    clear hx hx1 f0 f1 f2 f3 h hf hxn
    match cs, hl, g0, g1, g2, g3 with
    | [c0, c1, c2, c3], _, g0, g1, g2, g3 =>
      have k0 : c0 = litV x0.1 := List.head_eq_of_cons_eq g0
      have k1 : c1 = litV x1.1 := List.head_eq_of_cons_eq g1
      have k2 : c2 = litV x2.1 := List.head_eq_of_cons_eq g2
      have k3 : c3 = litV x3.1 := List.head_eq_of_cons_eq g3
      rw [k0, k1, k2, k3]
      rfl
theorem forms_lit {t : TypeId} {n : Nat} {cs : List Value} {ds : List (DataW Unit)} {p : List MemPlace} (ht : Tryd.prog.underlying t = some (.array n 70)) (hn : Tryd.prog.cellsOf t = n * 4)
    (h : DataW.trod e Tryd.prog w base sp held fuel t cs = some (.agg ds, p)) : cs = ds.flatMap aggV := by
  obtain ⟨xs, m, -, hx, hl, hxn, hf⟩ := DataW.trod_array ht h
  have hc : Tryd.prog.cellsOf 70 = 4 := by kernel_rfl
  simp only [Prod.mk.injEq, DataW.agg.injEq] at hx
  obtain ⟨rfl, -⟩ := hx
  have := arr_flat 4 (fun x : DataW Unit × List MemPlace => aggV x.1) n cs xs (by omega) hxn (fun i d hi => by
    have hlt : i < n := by
      rw [← hxn]; exact (List.getElem?_eq_some_iff.1 hi).1
    have := hf i hlt
    rw [hi, hc] at this
    exact form_lit this)
  rw [this]
  clear this hf hl hxn h
  induction xs with
  | nil => rfl
  | cons a l ih => simp_all
end

theorem gForms : Tryd.prog.globalNamed "passkey/script.forms" = some 0 := by kernel_rfl
theorem gCalls : Tryd.prog.globalNamed "passkey/script.calls" = some 1 := by kernel_rfl
theorem gStats : Tryd.prog.globalNamed "passkey/script.statuses" = some 2 := by kernel_rfl

/-- the variable's cells as the executor knows them -/
theorem glob_cells {W : World} {n : String} {g : Nat} {cs : Array Value} {l : List Value} (hg : Tryd.prog.globalNamed n = some g) (hv : W.var? Tryd.prog n = some cs) (hl : cs.toList = l) (h1 : l.all (fun v => v.oneCell') = true) (h0 : l ≠ []) :
    g < W.heap.size ∧ ∀ j v, l[j]? = some v → v.oneCell' = true ∧ W.cell? ⟨g, j, none⟩ = some v := by
  have hcell : ∀ j v, l[j]? = some v → v.oneCell' = true ∧ W.cell? ⟨g, j, none⟩ = some v := by
    intro j v hj
    refine ⟨List.all_eq_true.1 h1 v (List.mem_of_getElem? hj), ?_⟩
    rw [World.var?_cell hg hv j, ← hj, ← hl, Array.getElem?_toList]
  refine ⟨?_, hcell⟩
  cases l with
  | nil => exact absurd rfl h0
  | cons v r =>
    have := (hcell 0 v rfl).2
    rcases Nat.lt_or_ge g W.heap.size with h | h
    · exact h
    · simp [World.cell?, Array.getElem?_eq_none h] at this

theorem glob_ok {W : World} (h : laidMetH Tryd.prog Rows.scriptParsesRow.laid W) : GlobOk (fun b => b < W.heap.size) W := by
  rw [MakeChecks.laidMetH_plain _ _ _ (by kernel_rfl)] at h
  obtain ⟨ps, ⟨_, _, _, _, _, _, _, _, _, _, ⟨_, _, _, _, _, _, _, _, _, _, ⟨_, _, _, _, _, _, _, _, _, _, ⟨g0, t0, cs0, f0, p0, q0, hg0, ht0, hv0, hd0, ⟨g1, t1, cs1, f1, p1, q1, hg1, ht1, hv1, hd1, ⟨g2, t2, cs2, f2, p2, q2, hg2, ht2, hv2, hd2, _, _⟩, _⟩, _⟩, _⟩, _⟩, _⟩, _, _⟩ := h
  obtain rfl := Option.some.inj (gForms.symm.trans hg0)
  obtain rfl := Option.some.inj (gCalls.symm.trans hg1)
  obtain rfl := Option.some.inj (gStats.symm.trans hg2)
  have e0 : (Tryd.prog.globals[0]?).map (·.type) = some 71 := by kernel_rfl
  have e1 : (Tryd.prog.globals[1]?).map (·.type) = some 84 := by kernel_rfl
  have e2 : (Tryd.prog.globals[2]?).map (·.type) = some 85 := by kernel_rfl
  obtain rfl := Option.some.inj (e0.symm.trans ht0)
  obtain rfl := Option.some.inj (e1.symm.trans ht1)
  obtain rfl := Option.some.inj (e2.symm.trans ht2)
  have l0 := forms_lit Tryd.underlying71 (by kernel_rfl) hd0
  have l1 := strs_lit Tryd.underlying84 (by kernel_rfl) hd1
  have l2 := strs_lit Tryd.underlying85 (by kernel_rfl) hd2
  have r0 := glob_cells (l := formsV) hg0 hv0 l0 (by kernel_rfl) (by simp [formsV])
  have r1 := glob_cells (l := callsV) hg1 hv1 l1 (by kernel_rfl) (by simp [callsV])
  have r2 := glob_cells (l := statsV) hg2 hv2 l2 (by kernel_rfl) (by simp [statsV])
  intro g cs hg
  unfold globT at hg
  cases hb0 : Nat.beq g 0 with
  | true => rw [hb0] at hg; simp only [Option.some.injEq] at hg; subst hg; rw [Nat.eq_of_beq_eq_true hb0]; exact r0
  | false =>
    cases hb1 : Nat.beq g 1 with
    | true => rw [hb0, hb1] at hg; simp only [Option.some.injEq] at hg; subst hg; rw [Nat.eq_of_beq_eq_true hb1]; exact r1
    | false =>
      cases hb2 : Nat.beq g 2 with
      | true => rw [hb0, hb1, hb2] at hg; simp only [Option.some.injEq] at hg; subst hg; rw [Nat.eq_of_beq_eq_true hb2]; exact r2
      | false => rw [hb0, hb1, hb2] at hg; cases hg

end Go.Proofs.YthdhbdjhjfflnaaDoor

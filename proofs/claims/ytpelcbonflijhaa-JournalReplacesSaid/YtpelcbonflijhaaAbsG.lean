/-
  The executor's operations are sound: composite literals, make, append, copy, strings and bytes. Own work; no statement of the seat is proved here.
-/
import Derived.Test.YtpelcbonflijhaaAbsF
import Derived.Laws.MakeOwn
import Derived.Laws.IdiomStrings
namespace Go.Abs
set_option linter.unusedSimpArgs false
set_option linter.unusedVariables false
open Go Go.RowKit
variable {P : Program}

/-! composite literals -/
def fillA (place : Nat → Option (Nat × Nat)) : List AV → List (Nat × AV) → Option (List AV)
  | cs, [] => some cs
  | cs, (i, v) :: rest => match place i with
    | some (off, size) => match Nat.beq (cells v).length size, oneCs (cells v), Nat.ble (off + (cells v).length) cs.length with
      | true, true, true => fillA place (setAt cs off (cells v)) rest
      | _, _, _ => none
    | none => none

def evp (st : AS) : List (Nat × Operand) → List (Nat × AV)
  | [] => []
  | (i, x) :: r => (i, ev st x) :: evp st r

theorem foldl_set (off : Nat) : ∀ (l : List Value) (k : Nat) (cs : Array Value) (j : Nat), off + k + l.length ≤ cs.size →
    ((l.zipIdx k).foldl (fun (cs : Array Value) (x : Value × Nat) => cs.setIfInBounds (off + x.2) x.1) cs).size = cs.size ∧
    ((l.zipIdx k).foldl (fun (cs : Array Value) (x : Value × Nat) => cs.setIfInBounds (off + x.2) x.1) cs).getD j undef = if off + k ≤ j ∧ j < off + k + l.length then l.getD (j - (off + k)) undef else cs.getD j undef := by
  intro l
  induction l with
  | nil => intro k cs j h; simp; omega
  | cons v r ih =>
    intro k cs j h
    simp only [List.length_cons] at h
    simp only [List.zipIdx_cons, List.foldl_cons, List.length_cons]
    obtain ⟨h1, h2⟩ := ih (k + 1) (cs.setIfInBounds (off + k) v) j (by simp; omega)
    refine ⟨by rw [h1]; simp, ?_⟩
    rw [h2]
    by_cases hj : off + (k + 1) ≤ j ∧ j < off + (k + 1) + r.length
    · rw [if_pos hj, if_pos (by omega)]
      obtain ⟨q, hq⟩ : ∃ q, j = off + (k + 1) + q := ⟨j - (off + (k + 1)), by omega⟩
      subst hq
      rw [show off + (k + 1) + q - (off + (k + 1)) = q by omega, show off + (k + 1) + q - (off + k) = q + 1 by omega]
      simp [List.getD_eq_getElem?_getD]
    · rw [if_neg hj]
      by_cases he : j = off + k
      · subst he
        rw [if_pos (by omega)]
        have : off + k < cs.size := by omega
        simp [getD_of, this]
      · rw [if_neg (by omega)]
        simp [getD_of, Array.getElem?_setIfInBounds_ne (fun h => he h.symm)]

theorem fill_rd {ρ : IdMap} {F : FSet} {w : World} {st : AS} {a : Act} (place : Nat → Option (Nat × Nat)) : ∀ (parts : List (Nat × Operand)) (cs : List AV) (us : Array Value) (r : List AV),
    (∀ p, p ∈ parts → Rd ρ F w (ev st p.2) (a.eval p.2)) → us.size = cs.length → (∀ j c, cs[j]? = some c → (us.getD j undef).oneCell' = true ∧ Rd ρ F w c (us.getD j undef)) → fillA place cs (evp st parts) = some r →
    ∃ us', Instr.fill place us (parts.map fun (i, x) => (i, a.eval x)) = some us' ∧ us'.size = r.length ∧ ∀ j c, r[j]? = some c → (us'.getD j undef).oneCell' = true ∧ Rd ρ F w c (us'.getD j undef) := by
  intro parts
  induction parts with
  | nil => intro cs us r _ hl hc h; simp [evp, fillA] at h; subst h; exact ⟨us, rfl, hl, hc⟩
  | cons p rest ih =>
    obtain ⟨i, x⟩ := p
    intro cs us r hin hl hc h
    simp only [evp, fillA] at h
    cases hp : place i with
    | none => rw [hp] at h; cases h
    | some os =>
      obtain ⟨off, size⟩ := os
      rw [hp] at h
      simp only at h
      split at h
      · rename_i e1 e2 e3
        have hr := hin (i, x) (by simp)
        simp only at hr
        obtain ⟨hz, hcx⟩ := hr.cells e2
        have e1' : (cells (ev st x)).length = size := Nat.eq_of_beq_eq_true e1
        have e3' : off + (cells (ev st x)).length ≤ cs.length := Nat.le_of_ble_eq_true e3
        have hf : ∀ j, _ := fun j => foldl_set off (a.eval x).cells.toList 0 us j (by simp; omega)
        have hcond : ¬ ((a.eval x).cells.size ≠ size || off + (a.eval x).cells.size > us.size) = true := by simp; omega
        obtain ⟨us', h1, h2, h3⟩ := ih (setAt cs off (cells (ev st x))) (((a.eval x).cells.toList.zipIdx 0).foldl (fun (cs : Array Value) (x : Value × Nat) => cs.setIfInBounds (off + x.2) x.1) us) r (fun p hp => hin p (by simp [hp])) (by rw [(hf 0).1, setAt_len, hl]) (fun j c hj => by
          rw [setAt_get _ _ _ _ e3'] at hj
          rw [(hf j).2]
          simp only [Nat.add_zero, Array.length_toList, hz]
          split at hj
          · rename_i hh
            rw [if_pos hh]
            have e : (a.eval x).cells.toList.getD (j - off) undef = (a.eval x).cells.getD (j - off) undef := by simp [getD_of, List.getD_eq_getElem?_getD]
            rw [e]
            exact ⟨(hcx _ _ hj).one (oneCs_get e2 hj), hcx _ _ hj⟩
          · rename_i hh
            rw [if_neg hh]
            exact hc _ _ hj) h
        refine ⟨us', ?_, h2, h3⟩
        simp only [List.map_cons, Instr.fill, hp]
        rw [if_neg hcond]
        have e : (a.eval x).cells.zipIdx.foldl (fun cs (x : Value × Nat) => match x with | (c, j) => cs.setIfInBounds (off + j) c) us = ((a.eval x).cells.toList.zipIdx 0).foldl (fun (cs : Array Value) (x : Value × Nat) => cs.setIfInBounds (off + x.2) x.1) us := by
          rw [← Array.foldl_toList]
          simp
        rw [← e] at h1
        exact h1
      · cases h

def posF : List (Nat × Nat × TK) → Bool
  | [] => true
  | (_, s, _) :: r => match Nat.ble 1 s with | true => posF r | false => false
def placeF (fl : List (Nat × Nat × TK)) (i : Nat) : Option (Nat × Nat) := match fl[i]? with | some (o, s, _) => some (o, s) | none => none

def buildR (st : AS) (ti : TI) (es : Nat) (parts : List (Nat × AV)) : R :=
  match ti.kind, ti.zero with
  | .struct, some z => match posF ti.flds, oneVs z with
    | true, true => match fillA (placeF ti.flds) (pvs z) parts with
      | some cs => .pure st (.agg cs)
      | none => .bad
    | _, _ => .bad
  | .array, some z => match Nat.ble 1 es, oneVs z with
    | true, true => match fillA (fun i => some (i * es, es)) (pvs z) parts with
      | some cs => .pure st (.agg cs)
      | none => .bad
    | _, _ => .bad
  | _, _ => .bad

theorem ti_struct {t : TypeId} (h : (tiOf P t).kind = .struct) : ∃ fs, P.underlying t = some (.struct fs) := by
  simp only [tiOf] at h
  revert h
  cases hu : P.underlying t with
  | none => intro h; cases h
  | some d => cases d <;> intro h <;> first | exact ⟨_, rfl⟩ | cases h

theorem posF_get {fl : List (Nat × Nat × TK)} (h : posF fl = true) {x : Nat × Nat × TK} (hx : x ∈ fl) : 1 ≤ x.2.1 := by
  induction fl with
  | nil => cases hx
  | cons y r ih =>
    obtain ⟨o, s, k⟩ := y
    unfold posF at h
    cases hb : Nat.ble 1 s with
    | false => rw [hb] at h; cases h
    | true =>
      rw [hb] at h
      rcases List.mem_cons.1 hx with rfl | hx
      · exact Nat.le_of_ble_eq_true hb
      · exact ih h hx

theorem places_struct {fs : List Field} (h : ∀ f, f ∈ fs → 1 ≤ szOf P f.type) : fs.mapM (fun f => (P.info? f.type).map fun i => (f.offset, i.size)) = some (fs.map fun f => (f.offset, szOf P f.type)) := by
  induction fs with
  | nil => rfl
  | cons f r ih =>
    obtain ⟨d, i, hd, hi, hz⟩ := szOf_pos (h f (by simp))
    simp [List.mapM_cons, ih (fun g hg => h g (by simp [hg])), hi, hz]

theorem zero_inv {t : TypeId} {z : List Value} (hz : (tiOf P t).zero = some z) : ∃ i zv, P.info? t = some i ∧ i.zero = some zv ∧ zv.cells.toList = z := by
  simp only [tiOf, Option.bind_eq_some_iff, Option.map_eq_some_iff] at hz
  obtain ⟨i, hi, zv, hzv, hh⟩ := hz
  exact ⟨i, zv, hi, hzv, hh⟩

theorem pvs_rd {ρ : IdMap} {F : FSet} {w : World} {z : Array Value} (h1 : oneVs z.toList = true) : z.size = (pvs z.toList).length ∧ ∀ j c, (pvs z.toList)[j]? = some c → (z.getD j undef).oneCell' = true ∧ Rd ρ F w c (z.getD j undef) := by
  refine ⟨by simp [pvs_len], fun j c hj => ?_⟩
  obtain ⟨y, hy, rfl⟩ := pvs_get hj
  have hy1 := oneVs_get h1 hy
  have hy' : z[j]? = some y := by simpa using hy
  have : z.getD j undef = y := by simp [getD_of, hy']
  rw [this]
  exact ⟨hy1, .ofV hy1⟩

theorem ok_build {o : Oper} {st : AS} {t : TypeId} {parts : Array (Nat × Operand)} (ho : o.op = .build t parts) {v : AV} {T : List Nat} {u : List (Nat × Option Blk)} {nx : Nat}
    (h : buildR st (tiOf P t) (szOf P (tiOf P t).elem) (evp st parts.toList) = .ok v T u nx) : OpOk P o st v T u nx := by
  have hops : ∀ (a : Act) (ρ : IdMap) (F : FSet) (w : World), (∀ x, x ∈ o.op.operands.toList → Rd ρ F w (ev st x) (a.eval x)) → ∀ p, p ∈ parts.toList → Rd ρ F w (ev st p.2) (a.eval p.2) := by
    intro a ρ F w hin p hp
    exact hin p.2 (by simp only [ho, Op.operands]; simp; exact ⟨p.1, by simpa using hp⟩)
  unfold buildR at h
  split at h
  · rename_i hk hz0
    rename_i z
    split at h
    · rename_i hpos h1
      split at h
      · rename_i cs hf
        simp only [R.pure, R.ok.injEq] at h
        obtain ⟨rfl, rfl, rfl, rfl⟩ := h
        refine ok_pure fun ρ F a w hin => ?_
        obtain ⟨i, zv, hi, hzv, rfl⟩ := zero_inv hz0
        obtain ⟨fs, hu⟩ := ti_struct hk
        obtain ⟨hl, hc⟩ := pvs_rd (ρ := ρ) (F := F) (w := w) h1
        obtain ⟨us', h2, h3, h4⟩ := fill_rd (a := a) (placeF (tiOf P t).flds) parts.toList _ _ cs (hops a ρ F w hin) hl hc hf
        have hfl : (tiOf P t).flds = fs.toList.map fun f => (f.offset, szOf P f.type, tkOf (P.underlying f.type)) := by simp [tiOf, fldsOfD, hu]
        have hplace : placeF (tiOf P t).flds = fun i => (fs.toList.map fun f => (f.offset, szOf P f.type)).toArray[i]? := by
          funext i
          rw [hfl]
          simp only [placeF, List.getElem?_map, List.getElem?_toArray, Array.getElem?_toList]
          cases fs[i]? <;> rfl
        have hb : P.built t (parts.map fun (i, x) => (i, a.eval x)).toList = some us' := by
          unfold Program.built
          simp only [hi, hu, hzv]
          rw [places_struct (fun f hf => posF_get hpos (x := (f.offset, szOf P f.type, tkOf (P.underlying f.type))) (by rw [hfl]; exact List.mem_map.2 ⟨f, hf, rfl⟩))]
          simp only [Array.toList_map]
          rw [← hplace]
          exact h2
        refine ⟨.agg us', ?_, .agg _ _ h3 (fun j c hj => (h4 j c hj).2)⟩
        simp only [execOp, ho, Sem.run_bind, run_build w t _ us' hb, Result.andThen_ok, Sem.run_pure]
      · cases h
    · cases h
  · rename_i hk hz0
    rename_i z
    split at h
    · rename_i hpos h1
      split at h
      · rename_i cs hf
        simp only [R.pure, R.ok.injEq] at h
        obtain ⟨rfl, rfl, rfl, rfl⟩ := h
        refine ok_pure fun ρ F a w hin => ?_
        obtain ⟨i, zv, hi, hzv, rfl⟩ := zero_inv hz0
        have hu := ti_array hk
        obtain ⟨d, ie, hd, hie, hz⟩ := szOf_pos (P := P) (t := (tiOf P t).elem) (Nat.le_of_ble_eq_true hpos)
        obtain ⟨hl, hc⟩ := pvs_rd (ρ := ρ) (F := F) (w := w) h1
        obtain ⟨us', h2, h3, h4⟩ := fill_rd (a := a) (fun i => some (i * szOf P (tiOf P t).elem, szOf P (tiOf P t).elem)) parts.toList _ _ cs (hops a ρ F w hin) hl hc hf
        have hb : P.built t (parts.map fun (i, x) => (i, a.eval x)).toList = some us' := by
          unfold Program.built
          simp only [hi, hu, hzv, hie, Array.toList_map, hz]
          exact h2
        refine ⟨.agg us', ?_, .agg _ _ h3 (fun j c hj => (h4 j c hj).2)⟩
        simp only [execOp, ho, Sem.run_bind, run_build w t _ us' hb, Result.andThen_ok, Sem.run_pure]
      · cases h
    · cases h
  · cases h

end Go.Abs

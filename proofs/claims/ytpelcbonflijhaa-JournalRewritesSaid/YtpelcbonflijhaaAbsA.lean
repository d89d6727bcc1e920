/-
  Abstract values and how they read memory: owned blocks (known cell by cell, writable) and frozen data (lists). Own work; no statement of the seat is proved here.
-/
import Derived.Calls
import Derived.Orders
import Derived.Below
import Derived.Tactics
import Derived.WalkKit
import Derived.Laws.CopyRow
import Derived.Laws.AppendOwn
import Derived.Laws.OwnMore
namespace Go.Abs
set_option linter.unusedSimpArgs false
set_option linter.unusedVariables false
open Go Go.RowKit

/-- a pure value: no owned address inside -/
inductive PV where
  | v (x : Value)
  | data (s n : Nat) (cs : List PV)
  | iface (t : TypeId) (x : PV)
  | agg (cs : List PV)
  deriving Inhabited

inductive AV where
  | p (x : PV)
  | ptr (id off : Nat)
  | sl (id off len s : Nat)
  | cp (cs : List PV)
  | agg (cs : List AV)
  | tup (vs : List AV)
  | iface (t : TypeId) (x : AV)
  | fn (f : Fn) (first captured : List AV)
  | any
  deriving Inhabited

structure Blk where
  t : TypeId
  cs : List AV

abbrev FSet := Nat → Prop
abbrev IdMap := Nat → Option Nat

def hasCells (w : World) (b n : Nat) : Prop := ∃ arr t fr, w.heap[b]? = some (.cells arr t fr) ∧ n ≤ arr.size

inductive RdP (F : FSet) (w : World) : PV → Value → Prop
  | v (x : Value) (h1 : x.oneCell' = true) : RdP F w (.v x) x
  | nil (s : Nat) (A : Option Addr) (cap : Nat) : RdP F w (.data s 0 []) (.slice A 0 cap)
  | data (s n : Nat) (cs : List PV) (b off cap : Nat) (f : Nat → Value) (hl : cs.length = n * s) (hcap : n ≤ cap) (hF : F b)
      (hc : ∀ j, j < cs.length → w.cell? ⟨b, off + j, none⟩ = some (f j)) (h1 : ∀ j, j < cs.length → (f j).oneCell' = true) (hr : ∀ j c, cs[j]? = some c → RdP F w c (f j)) :
      RdP F w (.data s n cs) (.slice (some ⟨b, off, none⟩) n cap)
  | iface (t : TypeId) (x : PV) (u : Value) (h : RdP F w x u) : RdP F w (.iface t x) (.iface t u)
  | agg (cs : List PV) (us : Array Value) (hl : us.size = cs.length) (hr : ∀ j c, cs[j]? = some c → RdP F w c (us.getD j undef)) : RdP F w (.agg cs) (.agg us)

inductive Rd (ρ : IdMap) (F : FSet) (w : World) : AV → Value → Prop
  | p (x : PV) (u : Value) (h : RdP F w x u) : Rd ρ F w (.p x) u
  | ptr (id off b : Nat) (h : ρ id = some b) : Rd ρ F w (.ptr id off) (.pointer (some ⟨b, off, none⟩))
  | sl (id off len s b cap : Nat) (h : ρ id = some b) (hcap : len ≤ cap) (hs : hasCells w b (off + cap * s)) :
      Rd ρ F w (.sl id off len s) (.slice (some ⟨b, off, none⟩) len cap)
  | slz (id off s : Nat) (A : Option Addr) : Rd ρ F w (.sl id off 0 s) (.slice A 0 0)
  | cp (cs : List PV) (b off : Nat) (f : Nat → Value) (hF : F b) (hc : ∀ j, j < cs.length → w.cell? ⟨b, off + j, none⟩ = some (f j)) (h1 : ∀ j, j < cs.length → (f j).oneCell' = true)
      (hr : ∀ j c, cs[j]? = some c → RdP F w c (f j)) : Rd ρ F w (.cp cs) (.pointer (some ⟨b, off, none⟩))
  | agg (cs : List AV) (us : Array Value) (hl : us.size = cs.length) (hr : ∀ j c, cs[j]? = some c → Rd ρ F w c (us.getD j undef)) : Rd ρ F w (.agg cs) (.agg us)
  | tup (cs : List AV) (us : Array Value) (hl : us.size = cs.length) (hr : ∀ j c, cs[j]? = some c → Rd ρ F w c (us.getD j undef)) : Rd ρ F w (.tup cs) (.tuple us)
  | iface (t : TypeId) (x : AV) (u : Value) (h : Rd ρ F w x u) : Rd ρ F w (.iface t x) (.iface t u)
  | fn (f : Fn) (as bs : List AV) (us vs : Array Value) (hl : us.size = as.length) (hr : ∀ j c, as[j]? = some c → Rd ρ F w c (us.getD j undef))
      (hl' : vs.size = bs.length) (hr' : ∀ j c, bs[j]? = some c → Rd ρ F w c (vs.getD j undef)) : Rd ρ F w (.fn f as bs) (.func f us vs)
  | any (u : Value) : Rd ρ F w .any u

theorem RdP.mono {F F' : FSet} {w w' : World} (hF : ∀ b, F b → F' b) (hw : ∀ b, F b → w'.heap[b]? = w.heap[b]?) {x : PV} {u : Value}
    (h : RdP F w x u) : RdP F' w' x u := by
  induction h with
  | v x h1 => exact .v x h1
  | nil s A cap => exact .nil s A cap
  | data s n cs b off cap f hl hcap hFb hc h1 _ ih =>
    refine .data s n cs b off cap f hl hcap (hF _ hFb) (fun j hj => ?_) h1 ih
    rw [← hc j hj]; simp only [World.cell?, hw b hFb]
  | iface t x u _ ih => exact .iface t x u ih
  | agg cs us hl _ ih => exact .agg cs us hl ih

theorem Rd.mono {ρ ρ' : IdMap} {F F' : FSet} {w w' : World} (hρ : ∀ i b, ρ i = some b → ρ' i = some b) (hF : ∀ b, F b → F' b)
    (hw : ∀ b, F b → w'.heap[b]? = w.heap[b]?) (hs : ∀ b n, hasCells w b n → hasCells w' b n) {x : AV} {u : Value} (h : Rd ρ F w x u) : Rd ρ' F' w' x u := by
  induction h with
  | p x u h => exact .p x u (h.mono hF hw)
  | ptr id off b h => exact .ptr id off b (hρ _ _ h)
  | sl id off len s b cap h hcap hc => exact .sl id off len s b cap (hρ _ _ h) hcap (hs _ _ hc)
  | slz id off s A => exact .slz id off s A
  | cp cs b off f hFb hc h1 hr =>
    refine .cp cs b off f (hF _ hFb) (fun j hj => ?_) h1 (fun j c hj => (hr j c hj).mono hF hw)
    rw [← hc j hj]; simp only [World.cell?, hw b hFb]
  | agg cs us hl _ ih => exact .agg cs us hl ih
  | tup cs us hl _ ih => exact .tup cs us hl ih
  | iface t x u _ ih => exact .iface t x u ih
  | fn f as bs us vs hl _ hl' _ ih ih' => exact .fn f as bs us vs hl ih hl' ih'
  | any u => exact .any u

abbrev Heap := Nat → Option Blk

structure BlkOk (ρ : IdMap) (F : FSet) (w : World) (b : Nat) (k : Blk) : Prop where
  own : ¬ F b
  is : ∃ arr, w.heap[b]? = some (.cells arr k.t (0, 0)) ∧ k.cs.length ≤ arr.size ∧ ∀ j c, k.cs[j]? = some c → (arr.getD j undef).oneCell' = true ∧ Rd ρ F w c (arr.getD j undef)

structure HpOk (ρ : IdMap) (F : FSet) (w : World) (h : Heap) : Prop where
  ok : ∀ i k, h i = some k → (k.cs = [] ∧ ρ i = none) ∨ ∃ b, ρ i = some b ∧ BlkOk ρ F w b k
  inj : ∀ i j b, h i ≠ none → h j ≠ none → ρ i = some b → ρ j = some b → i = j

def FOk (F : FSet) (w : World) : Prop := ∀ b, F b → b < w.heap.size

structure Chg (O : FSet) (F F' : FSet) (w w' : World) : Prop where
  os : w'.os = w.os
  tape : w'.tape = w.tape
  output : w'.output = w.output
  size : w.heap.size ≤ w'.heap.size
  same : ∀ b, b < w.heap.size → ¬ O b → w'.heap[b]? = w.heap[b]?
  cells : ∀ b n, hasCells w b n → hasCells w' b n
  sub : ∀ b, F b → F' b
  new : ∀ b, F' b → F b ∨ w.heap.size ≤ b ∨ O b

theorem Chg.refl (O F : FSet) (w : World) : Chg O F F w w :=
  ⟨rfl, rfl, rfl, Nat.le_refl _, fun _ _ _ => rfl, fun _ _ h => h, fun _ h => h, fun _ h => .inl h⟩

theorem Chg.trans {O O' F F' F'' : FSet} {w w' w'' : World} (h : Chg O F F' w w') (h' : Chg O' F' F'' w' w'')
    (hO : ∀ b, O' b → O b ∨ w.heap.size ≤ b) : Chg O F F'' w w'' where
  os := h'.os.trans h.os
  tape := h'.tape.trans h.tape
  output := h'.output.trans h.output
  size := Nat.le_trans h.size h'.size
  same b hb hn := (h'.same b (Nat.lt_of_lt_of_le hb h.size) (fun hx => by rcases hO b hx with h1 | h1; exact hn h1; omega)).trans (h.same b hb hn)
  cells b n hc := h'.cells b n (h.cells b n hc)
  sub b hb := h'.sub b (h.sub b hb)
  new b hb := by
    rcases h'.new b hb with h1 | h1 | h1
    · exact h.new b h1
    · exact .inr (.inl (Nat.le_trans h.size h1))
    · rcases hO b h1 with h2 | h2
      · exact .inr (.inr h2)
      · exact .inr (.inl h2)

theorem Chg.mono {O O' F F' : FSet} {w w' : World} (h : Chg O F F' w w') (hO : ∀ b, O b → O' b) : Chg O' F F' w w' where
  os := h.os
  tape := h.tape
  output := h.output
  size := h.size
  same b hb hn := h.same b hb (fun hx => hn (hO b hx))
  cells := h.cells
  sub := h.sub
  new b hb := by
    rcases h.new b hb with h1 | h1 | h1
    · exact .inl h1
    · exact .inr (.inl h1)
    · exact .inr (.inr (hO b h1))

theorem Chg.below {F F' : FSet} {w w' : World} (h : Chg (fun _ => False) F F' w w') : Below w.heap.size w w' :=
  ⟨h.os, h.tape, h.output, h.size, fun b hb => h.same b hb (fun hx => hx)⟩

theorem hasCells.alloc {w : World} {b n : Nat} (o : Obj) (h : hasCells w b n) : hasCells (w.alloc o) b n := by
  obtain ⟨arr, t, fr, hb, hn⟩ := h
  have hlt : b < w.heap.size := by
    rcases Nat.lt_or_ge b w.heap.size with h1 | h1
    · exact h1
    · rw [Array.getElem?_eq_none h1] at hb; cases hb
  exact ⟨arr, t, fr, (Below.heap_alloc w o b hlt).trans hb, hn⟩

theorem Chg.alloc (O F : FSet) (w : World) (o : Obj) : Chg O F F w (w.alloc o) where
  os := rfl
  tape := rfl
  output := rfl
  size := by simp
  same b hb _ := Below.heap_alloc w o b hb
  cells _ _ h := h.alloc o
  sub _ h := h
  new _ h := .inl h

theorem hasCells.setCell {w : World} {b n : Nat} (p : Addr) (u : Value) (h : hasCells w b n) : hasCells (w.setCell p u) b n := by
  obtain ⟨arr, t, fr, hb, hn⟩ := h
  unfold hasCells World.setCell
  simp only [Array.getElem?_modify]
  by_cases hp : p.block = b
  · subst hp
    simp only [if_true, hb, Option.map_some]
    refine ⟨_, _, _, rfl, ?_⟩
    split <;> simpa using hn
  · simp only [if_neg hp]
    exact ⟨arr, t, fr, hb, hn⟩

theorem Chg.setCell (O F : FSet) (w : World) (p : Addr) (u : Value) (hO : O p.block) : Chg O F F w (w.setCell p u) where
  os := rfl
  tape := rfl
  output := rfl
  size := by simp [World.setCell]
  same b _ hn := Below.heap_setCell w p u b (fun e => hn (e ▸ hO))
  cells _ _ h := h.setCell p u
  sub _ h := h
  new _ h := .inl h

theorem Chg.drew (O F : FSet) (w : World) : Chg O F F w w.drew :=
  ⟨rfl, rfl, rfl, Nat.le_refl _, fun _ _ _ => rfl, fun _ _ h => h, fun _ h => h, fun _ h => .inl h⟩

end Go.Abs

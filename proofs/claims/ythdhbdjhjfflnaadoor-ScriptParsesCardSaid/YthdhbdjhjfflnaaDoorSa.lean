/-
  Scripts: what a text says, as the program reads it and as the reference reads it, and that both are the same. Own work; plain lists of bytes, no program in sight.
-/
import Derived.Test.YthdhbdjhjfflnaaDoorAbsT
namespace Go.Proofs.YthdhbdjhjfflnaaDoor
set_option linter.unusedSimpArgs false
set_option linter.unusedVariables false

structure Ev where
  kind : Int
  who : Int
  to : Int
  n : Int
  b : Int
  text : List UInt8
  deriving DecidableEq

structure FormP where
  verb : List UInt8
  kind : Int
  n : Int
  fields : List UInt8
structure FormR where
  kind : Int
  word : List UInt8
  fields : List UInt8
  text : Bool
  n : Int

def formsP : List FormP := [⟨[116, 105, 99, 107], 1, 0, [78]⟩,
  ⟨[111, 110], 2, 0, [87]⟩,
  ⟨[111, 102, 102], 3, 0, [87]⟩,
  ⟨[98, 117, 100, 103, 101, 116], 4, 0, [87, 78]⟩,
  ⟨[99, 97, 110, 99, 101, 108], 8, 0, [87]⟩,
  ⟨[99, 111, 112, 121], 10, 0, [87]⟩,
  ⟨[97, 100, 100], 16, 0, [87]⟩,
  ⟨[114, 101, 109, 111, 118, 101], 17, 0, [87]⟩,
  ⟨[110, 101, 101, 100], 18, 0, [78]⟩,
  ⟨[118, 111, 116, 101], 21, 0, [87]⟩,
  ⟨[99, 111, 109, 109, 105, 116], 22, 0, []⟩,
  ⟨[110, 111, 105, 115, 101], 13, 0, [78, 66]⟩,
  ⟨[116, 111, 117, 99, 104], 5, 1, [87]⟩,
  ⟨[102, 105, 110, 103, 101, 114], 5, 2, [87]⟩,
  ⟨[119, 114, 111, 110, 103], 5, 3, [87]⟩,
  ⟨[114, 101, 102, 117, 115, 101], 5, 4, [87]⟩,
  ⟨[98, 101, 103, 105, 110], 6, 0, [87, 84, 78, 88]⟩,
  ⟨[112, 105, 110], 7, 0, [87, 88]⟩,
  ⟨[99, 97, 108, 108], 9, 0, [87, 67, 77, 88]⟩,
  ⟨[115, 112, 108, 105, 99, 101], 12, 0, [78, 66, 84]⟩,
  ⟨[109, 111, 100, 101, 108], 14, 0, [87, 83]⟩,
  ⟨[115, 104, 97, 114, 101], 15, 0, [87, 84, 78, 66]⟩,
  ⟨[115, 116, 111, 114, 101], 19, 0, [87, 78, 66, 84]⟩,
  ⟨[114, 101, 116, 117, 114, 110], 20, 0, [78, 84]⟩,
  ⟨[114, 101, 115, 116, 111, 114, 101], 23, 0, [78, 84, 66]⟩]
def formsR : List FormR := [⟨1, [116, 105, 99, 107], [110], false, 0⟩,
  ⟨2, [111, 110], [119], false, 0⟩,
  ⟨3, [111, 102, 102], [119], false, 0⟩,
  ⟨4, [98, 117, 100, 103, 101, 116], [119, 110], false, 0⟩,
  ⟨8, [99, 97, 110, 99, 101, 108], [119], false, 0⟩,
  ⟨10, [99, 111, 112, 121], [119], false, 0⟩,
  ⟨16, [97, 100, 100], [119], false, 0⟩,
  ⟨17, [114, 101, 109, 111, 118, 101], [119], false, 0⟩,
  ⟨18, [110, 101, 101, 100], [110], false, 0⟩,
  ⟨21, [118, 111, 116, 101], [119], false, 0⟩,
  ⟨22, [99, 111, 109, 109, 105, 116], [], false, 0⟩,
  ⟨13, [110, 111, 105, 115, 101], [110, 98], false, 0⟩,
  ⟨5, [116, 111, 117, 99, 104], [119], false, 1⟩,
  ⟨5, [102, 105, 110, 103, 101, 114], [119], false, 2⟩,
  ⟨5, [119, 114, 111, 110, 103], [119], false, 3⟩,
  ⟨5, [114, 101, 102, 117, 115, 101], [119], false, 4⟩,
  ⟨6, [98, 101, 103, 105, 110], [119, 116, 110], true, 0⟩,
  ⟨7, [112, 105, 110], [119], true, 0⟩,
  ⟨9, [99, 97, 108, 108], [119, 99, 66], true, 0⟩,
  ⟨12, [115, 112, 108, 105, 99, 101], [110, 98, 116], false, 0⟩,
  ⟨14, [109, 111, 100, 101, 108], [119, 115], false, 0⟩,
  ⟨15, [115, 104, 97, 114, 101], [119, 116, 110, 98], false, 0⟩,
  ⟨19, [115, 116, 111, 114, 101], [119, 110, 98, 116], false, 0⟩,
  ⟨20, [114, 101, 116, 117, 114, 110], [110, 116], false, 0⟩,
  ⟨23, [114, 101, 115, 116, 111, 114, 101], [110, 116, 98], false, 0⟩]
def callsM : List (List UInt8) := [[115, 116, 97, 114, 116, 45, 109, 97, 107, 101], [102, 105, 110, 105, 115, 104, 45, 109, 97, 107, 101], [115, 116, 97, 114, 116, 45, 103, 101, 116], [102, 105, 110, 105, 115, 104, 45, 103, 101, 116], [117, 115, 101], [108, 101, 97, 118, 101], [109, 101, 116, 97]]
def statsM : List (List UInt8) := [[99, 101, 114, 116, 105, 102, 105, 101, 100], [111, 117, 116, 100, 97, 116, 101, 100], [99, 111, 109, 112, 114, 111, 109, 105, 115, 101, 100], [119, 105, 116, 104, 100, 114, 97, 119, 110]]

def cutM (c : UInt8) (s : List UInt8) : List UInt8 × List UInt8 × Bool :=
  if s.idxOf c < s.length then (s.take (s.idxOf c), s.drop (s.idxOf c + 1), true) else (s, [], false)

theorem cutM_rest (c : UInt8) (s : List UInt8) (h : (cutM c s).2.2 = false) : (cutM c s).2.1 = [] := by
  unfold cutM at *
  by_cases g : s.idxOf c < s.length
  · rw [if_pos g] at h; cases h
  · rw [if_neg g]
theorem cutM_lt (c : UInt8) (s : List UInt8) (h : s ≠ []) : (cutM c s).2.1.length < s.length := by
  have : 0 < s.length := List.length_pos_iff.2 h
  unfold cutM; split <;> simp <;> omega
theorem cutM_le (c : UInt8) (s : List UInt8) : (cutM c s).1.length ≤ s.length ∧ (cutM c s).2.1.length ≤ s.length := by
  unfold cutM; split <;> simp <;> omega
theorem idxOf_at {c : UInt8} : ∀ {s : List UInt8} {i : Nat}, c ∉ s.take i → s[i]? = some c → s.idxOf c = i
  | [], i, _, h => by simp at h
  | x :: s, 0, _, h => by simp at h; subst h; simp [List.idxOf_cons]
  | x :: s, i + 1, hn, h => by
    simp only [List.take_succ_cons, List.mem_cons, not_or] at hn
    simp only [List.getElem?_cons_succ] at h
    rw [List.idxOf_cons, idxOf_at hn.2 h]
    have : (x == c) = false := by simp; exact fun e => hn.1 e.symm
    simp [this]
theorem cutM_at {c : UInt8} {s : List UInt8} {i : Nat} (hn : c ∉ s.take i) (h : s[i]? = some c) : cutM c s = (s.take i, s.drop (i + 1), true) := by
  have hi : i < s.length := by
    rcases Nat.lt_or_ge i s.length with g | g
    · exact g
    · rw [List.getElem?_eq_none g] at h; cases h
  unfold cutM; rw [idxOf_at hn h, if_pos hi]
theorem cutM_no {c : UInt8} {s : List UInt8} (hn : c ∉ s) : cutM c s = (s, [], false) := by
  have : s.idxOf c = s.length := List.idxOf_eq_length hn
  unfold cutM; rw [this, if_neg (Nat.lt_irrefl _)]

def linesM (s : List UInt8) : List (List UInt8) :=
  if h : s = [] then [] else (cutM 10 s).1 :: linesM (cutM 10 s).2.1
termination_by s.length
decreasing_by exact cutM_lt 10 s h
theorem linesM_nil : linesM [] = [] := by rw [linesM]; simp
theorem linesM_cons {s : List UInt8} (h : s ≠ []) : linesM s = (cutM 10 s).1 :: linesM (cutM 10 s).2.1 := by rw [linesM]; simp [h]

def digM : List UInt8 → Int → Option Int
  | [], a => some a
  | x :: r, a => if x < 48 ∨ 57 < x then none else digM r (10 * a + ((x.toNat : Int) - 48))
def numM (s : List UInt8) : Int × Bool :=
  if s.length < 1 ∨ 10 < s.length ∨ (1 < s.length ∧ s[0]? = some 48) then (0, false) else
  match digM s 0 with
  | none => (0, false)
  | some n => (n, decide (n ≤ 2147483647))

/-- the number of a word in a list: from 1 on, 0 if it is not there -/
def indexM (l : List (List UInt8)) (s : List UInt8) : Nat := if l.idxOf s < l.length then l.idxOf s + 1 else 0

def putP (l : UInt8) (e : Ev) (s : List UInt8) : Ev × Bool :=
  if l = 87 then ({ e with who := (numM s).1 }, (numM s).2)
  else if l = 84 then ({ e with to := (numM s).1 }, (numM s).2)
  else if l = 78 then ({ e with n := (numM s).1 }, (numM s).2)
  else if l = 66 then ({ e with b := (numM s).1 }, (numM s).2)
  else if l = 77 then (if s = [45] then ({ e with b := -1 }, true) else ({ e with b := (numM s).1 }, (numM s).2))
  else if l = 67 then (if 0 < indexM callsM s then ({ e with n := indexM callsM s }, true) else (e, false))
  else if l = 83 then (if 0 < indexM statsM s then ({ e with n := indexM statsM s }, true) else (e, false))
  else if l = 88 then ({ e with text := s }, true)
  else (e, (numM s).2)
def putR (l : UInt8) (e : Ev) (s : List UInt8) : Ev × Bool :=
  if l = 119 then ({ e with who := (numM s).1 }, (numM s).2)
  else if l = 116 then ({ e with to := (numM s).1 }, (numM s).2)
  else if l = 110 then ({ e with n := (numM s).1 }, (numM s).2)
  else if l = 98 then ({ e with b := (numM s).1 }, (numM s).2)
  else if l = 66 then (if s = [45] then ({ e with b := -1 }, true) else ({ e with b := (numM s).1 }, (numM s).2))
  else if l = 99 then ({ e with n := indexM callsM s }, decide (0 < indexM callsM s))
  else if l = 115 then ({ e with n := indexM statsM s }, decide (0 < indexM statsM s))
  else (e, (numM s).2)

/-- the rest of a line, field by field: as the program reads it -/
def fromP : List UInt8 → Ev → List UInt8 → Bool → Option Ev
  | [], e, _, more => if more = true then none else some e
  | l :: fs, e, rest, more =>
    if more = false then none else
    if l = 88 then (if (putP l e rest).2 = true then fromP fs (putP l e rest).1 rest false else none)
    else if (putP l e (cutM 32 rest).1).2 = true then fromP fs (putP l e (cutM 32 rest).1).1 (cutM 32 rest).2.1 (cutM 32 rest).2.2 else none
def lineFrom (verb rest : List UInt8) (more : Bool) : List FormP → Option Ev
  | [] => none
  | f :: fs => if f.verb = verb then fromP f.fields ⟨f.kind, 0, 0, f.n, 0, []⟩ rest more else lineFrom verb rest more fs
def lineM (line : List UInt8) : Option Ev := lineFrom (cutM 32 line).1 (cutM 32 line).2.1 (cutM 32 line).2.2 formsP

/-- as the reference reads it -/
def fromR (text : Bool) : List UInt8 → Ev → List UInt8 → Bool → Ev × Bool
  | [], e, rest, more => if more = text then ({ e with text := rest }, true) else (e, false)
  | l :: fs, e, rest, more =>
    if more = false then (e, false) else
    if (putR l e (cutM 32 rest).1).2 = true then fromR text fs (putR l e (cutM 32 rest).1).1 (cutM 32 rest).2.1 (cutM 32 rest).2.2 else ((putR l e (cutM 32 rest).1).1, false)
def fitsR (f : FormR) (line : List UInt8) : Ev × Bool :=
  if (cutM 32 line).1 = f.word then fromR f.text f.fields ⟨f.kind, 0, 0, f.n, 0, []⟩ (cutM 32 line).2.1 (cutM 32 line).2.2 else (⟨f.kind, 0, 0, f.n, 0, []⟩, false)
def eventFrom (line : List UInt8) : List FormR → Option Ev
  | [] => none
  | f :: fs => if (fitsR f line).2 = true then some (fitsR f line).1 else eventFrom line fs

def optE : Ev × Bool → Option Ev
  | (e, true) => some e
  | (_, false) => none

def upL (l : UInt8) : UInt8 := if l = 119 then 87 else if l = 116 then 84 else if l = 110 then 78 else if l = 98 then 66 else if l = 66 then 77 else if l = 99 then 67 else 83
def lowL : List UInt8 := [119, 116, 110, 98, 66, 99, 115]
def toP (f : FormR) : FormP := ⟨f.word, f.kind, f.n, f.fields.map upL ++ (if f.text = true then [88] else [])⟩
theorem forms_toP : formsP = formsR.map toP := rfl

theorem put_up {l : UInt8} (hl : l ∈ lowL) (e : Ev) (s : List UInt8) : optE (putP (upL l) e s) = optE (putR l e s) ∧ (putP (upL l) e s).1.text = e.text ∧ upL l ≠ 88 := by
  simp only [lowL, List.mem_cons, List.not_mem_nil, or_false] at hl
  rcases hl with rfl | rfl | rfl | rfl | rfl | rfl | rfl
  all_goals refine ⟨?_, ?_, by decide⟩
  all_goals simp (config := { decide := true }) only [putP, putR, upL, ↓reduceIte]
  · by_cases h : s = [45] <;> simp [h]
  · by_cases h : 0 < indexM callsM s <;> simp [h, optE]
  · by_cases h : 0 < indexM callsM s <;> simp [h]
  · by_cases h : 0 < indexM statsM s <;> simp [h, optE]
  · by_cases h : 0 < indexM statsM s <;> simp [h]

theorem optE_eq {a b : Ev × Bool} (h : optE a = optE b) : a.2 = b.2 ∧ (a.2 = true → a.1 = b.1) := by
  obtain ⟨x, p⟩ := a; obtain ⟨y, q⟩ := b
  cases p <;> cases q <;> simp_all [optE]

theorem from_eq (text : Bool) : ∀ (fs : List UInt8) (e : Ev) (rest : List UInt8) (more : Bool), (∀ l, l ∈ fs → l ∈ lowL) → e.text = [] → (more = false → rest = []) →
    fromP (fs.map upL ++ (if text = true then [88] else [])) e rest more = optE (fromR text fs e rest more)
  | [], e, rest, more, _, ht, hr => by
    obtain ⟨k, w, t, n, b, x⟩ := e
    simp only at ht; subst ht
    cases text <;> cases more <;> simp_all [fromP, fromR, optE, putP]
  | l :: fs, e, rest, more, hl, ht, hr => by
    have hl0 := hl l (by simp)
    cases more with
    | false => simp [fromP, fromR, optE]
    | true =>
      obtain ⟨h1, h2, h3⟩ := put_up hl0 e (cutM 32 rest).1
      obtain ⟨h4, h5⟩ := optE_eq h1
      simp only [List.map_cons, List.cons_append, fromP, fromR, if_neg h3, reduceCtorEq, ↓reduceIte, h4]
      by_cases hp : (putR l e (cutM 32 rest).1).2 = true
      · rw [if_pos hp, if_pos hp]
        have h6 := h5 (h4.trans hp)
        rw [h6] at h2 ⊢
        exact from_eq text fs _ _ _ (fun l h => hl l (by simp [h])) (h2.trans ht) (cutM_rest 32 rest)
      · rw [if_neg hp, if_neg hp]; rfl

theorem event_no (line : List UInt8) : ∀ (fs : List FormR), (∀ f, f ∈ fs → f.word ≠ (cutM 32 line).1) → eventFrom line fs = none
  | [], _ => rfl
  | f :: fs, h => by
    have h0 : ¬ (cutM 32 line).1 = f.word := fun e => h f (by simp) e.symm
    rw [eventFrom, fitsR, if_neg h0]
    simp only [reduceCtorEq, ↓reduceIte, Bool.false_eq_true]
    exact event_no line fs fun g hg => h g (by simp [hg])
theorem event_eq (line : List UInt8) : ∀ (fs : List FormR), (fs.map (·.word)).Nodup → (∀ f, f ∈ fs → ∀ l, l ∈ f.fields → l ∈ lowL) →
    eventFrom line fs = lineFrom (cutM 32 line).1 (cutM 32 line).2.1 (cutM 32 line).2.2 (fs.map toP)
  | [], _, _ => rfl
  | f :: fs, hn, hl => by
    simp only [List.map_cons, List.nodup_cons] at hn
    by_cases h : (cutM 32 line).1 = f.word
    · have hno : eventFrom line fs = none := event_no line fs fun g hg e => hn.1 (by rw [← h, ← e]; exact List.mem_map_of_mem hg)
      rw [eventFrom, fitsR, if_pos h, hno, List.map_cons, lineFrom, if_pos (show (toP f).verb = _ from h.symm)]
      rw [show (toP f).fields = f.fields.map upL ++ (if f.text = true then [88] else []) from rfl, from_eq f.text f.fields _ _ _ (hl f (by simp)) rfl (cutM_rest 32 line)]
      show _ = optE (fromR f.text f.fields ⟨f.kind, 0, 0, f.n, 0, []⟩ _ _)
      generalize fromR f.text f.fields ⟨f.kind, 0, 0, f.n, 0, []⟩ (cutM 32 line).2.1 (cutM 32 line).2.2 = r
      obtain ⟨e, b⟩ := r
      cases b <;> simp [optE]
    · rw [eventFrom, fitsR, if_neg h, List.map_cons, lineFrom, if_neg (fun e => h (show f.word = _ from e).symm : ¬ (toP f).verb = _)]
      simp only [reduceCtorEq, ↓reduceIte, Bool.false_eq_true]
      exact event_eq line fs hn.2 fun g hg => hl g (by simp [hg])
theorem event_law (line : List UInt8) : eventFrom line formsR = lineM line := by
  rw [event_eq line formsR (by decide) (by decide), lineM, forms_toP]

def parseL : List (List UInt8) → Nat → List Ev → List Ev × Nat × Int
  | [], _, acc => (acc, 0, 0)
  | x :: r, n, acc => if x = [] ∨ x[0]? = some 35 then parseL r (n + 1) acc else
    match lineM x with
    | some e => parseL r (n + 1) (acc ++ [e])
    | none => ([], n, 2)
def parseM (s : List UInt8) : List Ev × Nat × Int := parseL (linesM s) 1 []

end Go.Proofs.YthdhbdjhjfflnaaDoor

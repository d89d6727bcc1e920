/-
  The machine that walks a body, and that it is sound. Own work; no statement of the seat is proved here.
-/
import Derived.Test.YtpelcbonflijhaaAbsL
namespace Go.Abs
set_option linter.unusedSimpArgs false
set_option linter.unusedVariables false
open Go Go.RowKit

inductive It where
  | code (c : Code)
  | ops (all : Array Oper) (l : List Oper)
  | blk (id : Nat)
  | inv (J : AS → Prop)

/-- what must hold of the concrete run where the rest is k -/
def Wk (c : Ctx) : List It → Exit → Act → World → Prop
  | [], e, a, w => bodyPost c.P c.fn c.R e a w
  | .code x :: k, .normal, a, w => x.wp c.P (Wk c k) a w
  | .ops all l :: k, .normal, a, w => wpList c.P all (Wk c k) l a w
  | .blk _ :: k, .normal, a, w => Wk c k .normal a w
  | .blk id :: k, .exit i, a, w => if i = id then Wk c k .normal a w else Wk c k (.exit i) a w
  | .inv J :: _, .normal, a, w => ∃ ρ F st, J st ∧ Conc c ρ F st a w
  | _ :: k, e, a, w => Wk c k e a w

def SAW (c : Ctx) (k : List It) (st : AS) : Prop := ∀ ρ F a w, Conc c ρ F st a w → Wk c k .normal a w

/-- an operation without its guard, then the rest -/
def SOp (c : Ctx) (o : Oper) (all : Array Oper) (os : List Oper) (k : List It) (st : AS) : Prop :=
  ∀ ρ F a w, Conc c ρ F st a w → o.wp c.P a w (wpList c.P all (Wk c k) os) (Wk c k)

/-- the walk stands at a call of function f with the arguments vs -/
def CallG (c : Ctx) (f : FuncId) (vs : List AV) (o : Oper) (all : Array Oper) (os : List Oper) (k : List It) (st : AS) : Prop :=
  CallIs c.P o st f vs → SOp c o all os k st

def memB : List Nat → Nat → Bool
  | [], _ => false
  | k :: r, n => match Nat.beq k n with | true => true | false => memB r n
def hpr (seen : List Nat) : List (Nat × Option Blk) → List (Nat × Option Blk)
  | [] => []
  | (k, b) :: r => match memB seen k, b with
    | true, _ => hpr seen r
    | false, some b => (k, some b) :: hpr (k :: seen) r
    | false, none => hpr (k :: seen) r
def pickS (sl : List (Nat × AV)) : List Nat → List (Nat × AV)
  | [] => []
  | k :: r => (k, lk sl k) :: pickS sl r
def prune (ks : List Nat) (st : AS) : AS := ⟨st.n, pickS st.sl ks, hpr [] st.hp, st.nx⟩

def dropTo (id : Nat) : List It → Option (List It)
  | [] => none
  | .blk i :: k => match Nat.beq i id with | true => some k | false => dropTo id k
  | .code _ :: k => dropTo id k
  | .ops _ _ :: k => dropTo id k
  | .inv _ :: k => dropTo id k

def exitA (rec : List It → AS → Prop) (st : AS) : Option (List It) → Prop
  | some k => rec k st
  | none => False

def condA (rec : List It → AS → Prop) (x y : Code) (k : List It) (st : AS) : AV → Prop
  | .p (.v (.bool b)) => if b = true then rec (.code x :: k) st else rec (.code y :: k) st
  | _ => False

def resA (c : Ctx) (rec : List It → AS → Prop) (o : Oper) (all : Array Oper) (os : List Oper) (k : List It) (st : AS) : R → Prop
  | .ok v _ u nx => rec (.ops all os :: k) (eff st o.dst v u nx)
  | .okS s v _ u nx => s ∧ rec (.ops all os :: k) (eff st o.dst v u nx)
  | .call f vs => CallG c f vs o all os k st
  | .bad => False

def dstL : List Oper → Nat → Option Nat
  | [], _ => none
  | o :: _, 0 => o.dst
  | _ :: r, j + 1 => dstL r j

theorem dstL_get (l : List Oper) (j : Nat) : dstL l j = (l[j]?).bind (·.dst) := by
  induction l generalizing j with
  | nil => simp [dstL]
  | cons o r ih => cases j <;> simp [dstL, ih]

def setB (st : AS) (d : Nat) (b : Bool) : AS := ⟨st.n, (d, .b b) :: st.sl, st.hp, st.nx⟩

def guardA (c : Ctx) (rec : List It → AS → Prop) (o : Oper) (all : Array Oper) (os : List Oper) (k : List It) (st : AS) (d : Nat) (want : Bool) : AV → Prop
  | .p (.v (.bool b)) => if b = want then resA c rec o all os k (setB st d want) (aop c.P o.op (setB st d want)) else rec (.ops all os :: k) (put (setB st d (!want)) o.dst .any)
  | _ => False

def guardO (c : Ctx) (rec : List It → AS → Prop) (o : Oper) (all : Array Oper) (os : List Oper) (k : List It) (st : AS) (want : Bool) : Option Nat → Prop
  | some d => guardA c rec o all os k st d want (lk st.sl d)
  | none => False

def gA (c : Ctx) (rec : List It → AS → Prop) (o : Oper) (all : Array Oper) (os : List Oper) (k : List It) (st : AS) : Option (Nat × Bool) → Prop
  | none => resA c rec o all os k st (aop c.P o.op st)
  | some (j, want) => guardO c rec o all os k st want (dstL all.toList j)

def AW (c : Ctx) (ks : List Nat) : Nat → List It → AS → Prop
  | 0, k, st => SAW c k st
  | n + 1, .code (.seq a b) :: k, st => AW c ks n (.code a :: .code b :: k) st
  | n + 1, .code .skip :: k, st => AW c ks n k st
  | n + 1, .code (.block id x) :: k, st => AW c ks n (.code x :: .blk id :: k) st
  | n + 1, .blk _ :: k, st => AW c ks n k st
  | n + 1, .code (.exit id) :: k, st => exitA (AW c ks n) st (dropTo id k)
  | n + 1, .code (.cond x y z) :: k, st => condA (AW c ks n) y z k st (ev st x)
  | n + 1, .code (.region _ ops false) :: k, st => AW c ks n (.ops ops ops.toList :: k) st
  | n + 1, .ops _ [] :: k, st => AW c ks n k (prune ks st)
  | n + 1, .ops all (o :: os) :: k, st => gA c (AW c ks n) o all os k st o.guard
  | _ + 1, .inv J :: _, st => J st
  | _ + 1, k, st => SAW c k st

theorem memB_iff (l : List Nat) (n : Nat) : memB l n = true ↔ n ∈ l := by
  induction l with
  | nil => simp [memB]
  | cons k r ih =>
    unfold memB
    by_cases h : k = n
    · subst h; simp
    · rw [beq_no h]; simp [ih]; omega

theorem hpr_get (hp : List (Nat × Option Blk)) : ∀ (seen : List Nat) (i : Nat), hget (hpr seen hp) i = if i ∈ seen then none else hget hp i := by
  induction hp with
  | nil => intro seen i; simp [hpr, hget]
  | cons x r ih =>
    obtain ⟨k, b⟩ := x
    intro seen i
    have hcons : ∀ (b : Option Blk), hget ((k, b) :: r) i = if k = i then b else hget r i := fun b => by
      show (match Nat.beq k i with | true => b | false => hget r i) = _
      by_cases h : k = i
      · subst h; simp
      · rw [beq_no h, if_neg h]
    unfold hpr
    cases hm : memB seen k with
    | true =>
      have hk := (memB_iff seen k).1 hm
      simp only [ih, hcons]
      by_cases hi : i ∈ seen
      · simp [hi]
      · have : ¬ k = i := fun e => hi (e ▸ hk)
        simp [hi, this]
    | false =>
      have hk : k ∉ seen := fun h => by rw [(memB_iff seen k).2 h] at hm; cases hm
      cases b with
      | some b =>
        show (match Nat.beq k i with | true => some b | false => hget (hpr (k :: seen) r) i) = _
        rw [hcons]
        by_cases h : k = i
        · subst h; simp [hk]
        · rw [beq_no h, ih]
          have h' : ¬ i = k := fun e => h e.symm
          simp [h, h']
      | none =>
        simp only [ih, hcons, List.mem_cons]
        by_cases h : k = i
        · subst h; simp
        · have h' : ¬ i = k := fun e => h e.symm
          simp [h, h']

theorem pickS_get (sl : List (Nat × AV)) (ks : List Nat) (s : Nat) : lk (pickS sl ks) s = if s ∈ ks then lk sl s else .any := by
  induction ks with
  | nil => simp [pickS, lk]
  | cons k r ih =>
    simp only [pickS, lk_cons, ih, List.mem_cons]
    by_cases h : k = s
    · subst h; simp
    · have h' : ¬ s = k := fun e => h e.symm
      simp [h, h']

theorem Conc.prune {c : Ctx} {ρ : IdMap} {F : FSet} {st : AS} {a : Act} {w : World} (h : Conc c ρ F st a w) (ks : List Nat) : Conc c ρ F (Abs.prune ks st) a w := by
  have hh : hget (Abs.prune ks st).hp = hget st.hp := by funext i; simp only [Abs.prune, hpr_get]; simp
  refine ⟨h.defers, h.size, fun s => ?_, by rw [hh]; exact h.heap, h.fresh, h.fok, h.chg, by rw [hh]; exact h.dom, by rw [hh]; exact h.own, h.keep⟩
  simp only [Abs.prune, pickS_get]
  split
  · exact h.slots s
  · exact .any _

theorem Conc.setB {c : Ctx} {ρ : IdMap} {F : FSet} {st : AS} {a : Act} {w : World} (h : Conc c ρ F st a w) {d : Nat} {b : Bool} (hd : lk st.sl d = .b b) : Conc c ρ F (Abs.setB st d b) a w := by
  refine ⟨h.defers, h.size, fun s => ?_, h.heap, h.fresh, h.fok, h.chg, h.dom, h.own, h.keep⟩
  simp only [Abs.setB, lk_cons]
  split
  · rename_i e; subst e; rw [← hd]; exact h.slots d
  · exact h.slots s

theorem Conc.putAny {c : Ctx} {ρ : IdMap} {F : FSet} {st : AS} {a : Act} {w : World} (h : Conc c ρ F st a w) (d : Option Nat) : Conc c ρ F (put st d .any) (a.put d undef) w := by
  have e1 : (put st d .any).n = st.n := by unfold put; cases d with | none => rfl | some d => dsimp only; cases Nat.blt d st.n <;> rfl
  have e2 : (put st d .any).hp = st.hp := by unfold put; cases d with | none => rfl | some d => dsimp only; cases Nat.blt d st.n <;> rfl
  have e3 : (put st d .any).nx = st.nx := by unfold put; cases d with | none => rfl | some d => dsimp only; cases Nat.blt d st.n <;> rfl
  refine ⟨?_, ?_, fun s => ?_, by rw [e2]; exact h.heap, by rw [e3]; exact h.fresh, h.fok, h.chg, by rw [e2, e3]; exact h.dom, by rw [e2]; exact h.own, h.keep⟩
  · cases d <;> simp [Act.put, h.defers]
  · rw [e1, ← h.size]; cases d <;> simp [Act.put]
  · cases d with
    | none => exact h.slots s
    | some d =>
      have hold := h.slots s
      simp only [put, Act.put]
      cases hdn : Nat.blt d st.n with
      | false =>
        have hge : a.tmps.size ≤ d := by
          rw [h.size]
          rcases Nat.lt_or_ge d st.n with h1 | h1
          · have : Nat.blt d st.n = true := by simpa [Nat.blt_eq] using h1
            rw [hdn] at this; cases this
          · exact h1
        simp only [Array.setIfInBounds_eq_of_size_le hge]
        exact hold
      | true =>
        simp only [lk_cons]
        by_cases hd : d = s
        · rw [if_pos hd]; exact .any _
        · simp only [if_neg hd]
          simpa [Array.getD_eq_getD_getElem?, Array.getElem?_setIfInBounds_ne hd] using hold

theorem Wk_exit {c : Ctx} {id : Nat} {k k' : List It} {a : Act} {w : World} (hd : dropTo id k = some k') (h : Wk c k' .normal a w) : Wk c k (.exit id) a w := by
  induction k with
  | nil => cases hd
  | cons x r ih =>
    cases x with
    | blk i =>
      simp only [dropTo] at hd
      by_cases hi : i = id
      · subst hi
        simp at hd
        subst hd
        simp only [Wk, if_true]
        exact h
      · rw [beq_no hi] at hd
        simp only [Wk]
        rw [if_neg (fun e => hi e.symm)]
        exact ih hd
    | code x => exact ih hd
    | ops all l => exact ih hd
    | inv J => exact ih hd

theorem Wk_then {c : Ctx} {x : Code} {k : List It} : Exit.then (x.wp c.P (Wk c k)) (Wk c k) = Wk c (.code x :: k) := by
  funext e a w
  cases e <;> rfl
theorem Wk_block {c : Ctx} {id : Nat} {k : List It} : Exit.inBlock id (Wk c k) = Wk c (.blk id :: k) := by
  funext e a w
  cases e <;> rfl

theorem wanted_of {c : Ctx} {ρ : IdMap} {F : FSet} {st : AS} {a : Act} {w : World} (h : Conc c ρ F st a w) {all : Array Oper} {o : Oper} {j d : Nat} {want b : Bool} (hg : o.guard = some (j, want)) (hd : dstL all.toList j = some d)
    (hv : lk st.sl d = .b b) (hdn : d < st.n) : Region.wanted o (yielded all a.tmps) = decide (b = want) := by
  have hs := h.slots d
  rw [hv] at hs
  have hpv := hs.pv
  have hlt : d < a.tmps.size := by rw [h.size]; exact hdn
  have hget' : a.tmps[d]? = some (.bool b) := by
    have : a.tmps.getD d undef = a.tmps[d] := by simp [Array.getD, hlt]
    rw [Array.getElem?_eq_getElem hlt, ← this, hpv]
  have hy : yielded all a.tmps j = some b := by
    unfold yielded
    have : (all[j]?).bind (·.dst) = some d := by
      rw [dstL_get] at hd
      simpa using hd
    rw [this]
    simp [hget']
  unfold Region.wanted
  rw [hg]
  simp only [hy]
  cases b <;> cases want <;> rfl

theorem resA_sound {c : Ctx} {rec : List It → AS → Prop} (hrec : ∀ k st, rec k st → SAW c k st) {o : Oper} {all : Array Oper} {os : List Oper} {k : List It} {st : AS} (h : resA c rec o all os k st (aop c.P o.op st)) : SOp c o all os k st := by
  intro ρ F a w hc
  obtain ⟨h1, h2⟩ := aop_ok (P := c.P) o st
  cases hr : aop c.P o.op st with
  | ok v T u nx =>
    rw [hr] at h
    exact step_ok (h1 v T u nx hr) hc _ _ (fun ρ' F' a' w' hc' => hrec _ _ h ρ' F' a' w' hc')
  | okS s v T u nx =>
    rw [hr] at h
    exact step_ok (h2 s v T u nx hr h.1) hc _ _ (fun ρ' F' a' w' hc' => hrec _ _ h.2 ρ' F' a' w' hc')
  | call f vs =>
    rw [hr] at h
    exact h (aop_call hr) ρ F a w hc
  | bad => rw [hr] at h; exact h.elim

theorem gA_sound {c : Ctx} {rec : List It → AS → Prop} (hrec : ∀ k st, rec k st → SAW c k st) {o : Oper} {all : Array Oper} {os : List Oper} {k : List It} {st : AS} (h : gA c rec o all os k st o.guard) : SAW c (.ops all (o :: os) :: k) st := by
  intro ρ F a w hc
  show wpList c.P all (Wk c k) (o :: os) a w
  cases hg : o.guard with
  | none =>
    rw [hg] at h
    unfold wpList
    have hw : Region.wanted o (yielded all a.tmps) = true := by simp [Region.wanted, hg]
    rw [if_pos hw]
    exact .inl (resA_sound hrec h ρ F a w hc)
  | some jw =>
    obtain ⟨j, want⟩ := jw
    rw [hg] at h
    simp only [gA] at h
    cases hd : dstL all.toList j with
    | none => rw [hd] at h; exact h.elim
    | some d =>
      rw [hd] at h
      simp only [guardO] at h
      unfold guardA at h
      split at h
      · rename_i b hv
        have hdn : d < st.n := by
          rcases Nat.lt_or_ge d st.n with h1 | h1
          · exact h1
          · exfalso
            have hs := hc.slots d
            rw [hv] at hs
            have := hs.pv
            have hge : a.tmps.size ≤ d := by rw [hc.size]; exact h1
            simp [Array.getD_eq_getD_getElem?, Array.getElem?_eq_none hge, undef] at this
        have hw := wanted_of hc hg hd hv hdn
        unfold wpList
        split at h
        · rename_i hb
          subst hb
          have hw' : Region.wanted o (yielded all a.tmps) = true := by rw [hw]; simp
          rw [if_pos hw']
          exact .inl (resA_sound hrec h ρ F a w (hc.setB hv))
        · rename_i hb
          have hw' : ¬ Region.wanted o (yielded all a.tmps) = true := by rw [hw]; simpa using hb
          rw [if_neg hw']
          have hbn : b = !want := by cases b <;> cases want <;> simp_all
          rw [hbn] at hv
          exact hrec _ _ h ρ F _ w ((hc.setB hv).putAny o.dst)
      · exact h.elim

theorem AW_sound (c : Ctx) (ks : List Nat) : ∀ (n : Nat) (k : List It) (st : AS), AW c ks n k st → SAW c k st := by
  intro n
  induction n with
  | zero => intro k st h; exact h
  | succ n ih =>
    intro k st h
    unfold AW at h
    split at h
    · cases ‹n + 1 = 0›
    · rename_i hh; cases hh
      intro ρ F a w hc
      have := ih _ _ h ρ F a w hc
      refine wp_seq ?_
      rw [Wk_then]
      exact this
    · rename_i hh; cases hh
      intro ρ F a w hc
      exact wp_skip (ih _ _ h ρ F a w hc)
    · rename_i hh; cases hh
      intro ρ F a w hc
      refine wp_block ?_
      rw [Wk_block]
      exact ih _ _ h ρ F a w hc
    · rename_i hh; cases hh
      intro ρ F a w hc
      exact ih _ _ h ρ F a w hc
    · rename_i hh; cases hh
      intro ρ F a w hc
      unfold exitA at h
      split at h
      · rename_i hd
        exact wp_exit (Wk_exit hd (ih _ _ h ρ F a w hc))
      · exact h.elim
    · rename_i hh; cases hh
      intro ρ F a w hc
      unfold condA at h
      split at h
      · rename_i b hx
        refine wp_cond (hx ▸ hc.ev _ : Rd ρ F w (.p (.v (.bool b))) _).pv ?_
        split at h
        · rename_i hb; subst hb; exact ih _ _ h ρ F a w hc
        · rename_i hb
          have : b = false := by simpa using hb
          subst this
          exact ih _ _ h ρ F a w hc
      · exact h.elim
    · rename_i hh; cases hh
      intro ρ F a w hc
      exact wp_region_list (ih _ _ h ρ F a w hc)
    · rename_i hh; cases hh
      intro ρ F a w hc
      exact wpList_nil (ih _ _ h ρ F a w (hc.prune ks))
    · rename_i hh; cases hh
      exact gA_sound ih h
    · rename_i hh; cases hh
      intro ρ F a w hc
      exact ⟨ρ, F, _, h, hc⟩
    · exact h

end Go.Abs

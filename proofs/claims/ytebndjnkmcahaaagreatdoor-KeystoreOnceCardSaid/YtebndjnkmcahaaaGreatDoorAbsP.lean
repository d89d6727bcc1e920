/-
  Calls by contract; the machine that walks a body; that it is sound. Own work; no statement of the seat is proved here.
  The machine that walks a body, and that it is sound. Own work; no statement of the seat is proved here.
  Rules of the walk: a state seen as another (frozen, renamed, less known), calls, loops, returns; a contract out of a walk. Own work; no statement of the seat is proved here.
  A contract out of a walk; a contract at a call. Own work; no statement of the seat is proved here.
  Contracts of pure functions: in and out. Own work; no statement of the seat is proved here.
-/
import Derived.Test.YtebndjnkmcahaaaGreatDoorAbsK
import Derived.LoopN
namespace Go.Abs
set_option linter.unusedSimpArgs false
set_option linter.unusedVariables false
open Go Go.RowKit
variable {P : Program}

def CallIs (P : Program) (o : Oper) (st : AS) (f : FuncId) (vs : List AV) : Prop :=
  ∀ (ρ : IdMap) (F : FSet) (a : Act) (w : World), (∀ x, x ∈ o.op.operands.toList → Rd ρ F w (ev st x) (a.eval x)) →
    ∃ us : Array Value, us.size = vs.length ∧ (∀ j c, vs[j]? = some c → Rd ρ F w c (us.getD j undef)) ∧ (execOp a.eval o).run P w = (callFunc f us).run P w

theorem rd_append {ρ : IdMap} {F : FSet} {w : World} {us vs : Array Value} {xs ys : List AV} (h1 : us.size = xs.length) (h2 : vs.size = ys.length)
    (hx : ∀ j c, xs[j]? = some c → Rd ρ F w c (us.getD j undef)) (hy : ∀ j c, ys[j]? = some c → Rd ρ F w c (vs.getD j undef)) :
    (us ++ vs).size = (xs ++ ys).length ∧ ∀ j c, (xs ++ ys)[j]? = some c → Rd ρ F w c ((us ++ vs).getD j undef) := by
  refine ⟨by simp [h1, h2], fun j c hj => ?_⟩
  rw [List.getElem?_append] at hj
  split at hj
  · rename_i hlt
    have : (us ++ vs).getD j undef = us.getD j undef := by simp [getD_of, Array.getElem?_append, h1, hlt]
    rw [this]; exact hx j c hj
  · rename_i hlt
    have : (us ++ vs).getD j undef = vs.getD (j - xs.length) undef := by simp [getD_of, Array.getElem?_append, h1, hlt]
    rw [this]; exact hy _ c hj

theorem methF_run {t : TypeId} {name : String} {f : FuncId} (h : methF P t name = some f) (v : Value) (w : World) : ∀ fuel, (method (fuel + 1) t v name).run P w = .ok (f, v) w := by
  intro fuel
  unfold methF at h
  split at h
  · rename_i i d hi hd
    split at h
    · rename_i m hm
      have hme : (typeInfo t).run P w = .ok i w := by simp [typeInfo, hi]
      split at h
      · rename_i f' hp hf hk
        injection h with h; subst h
        have hpe : m.path = #[] := by simpa using arr_of hp
        have hu : ∃ e, d = .pointer e := by cases d <;> first | exact ⟨_, rfl⟩ | cases hk
        obtain ⟨e, rfl⟩ := hu
        simp [method, hme, hm, hpe, hf, follow, receiverAt, run_underlying hd, Place.get]
      · cases h
      · rename_i f' hp hf hne
        injection h with h; subst h
        have hpe : m.path = #[] := by simpa using arr_of hp
        simp only [method, Sem.run_bind, hme, Result.andThen_ok, hm, hpe, List.toList_toArray, follow, Sem.run_pure, hf, receiverAt, run_underlying hd]
        cases d <;> first | (exact absurd rfl hne) | (simp [Place.get])
      · cases h
    · cases h
  · cases h

theorem aop_call {o : Oper} {st : AS} {f : FuncId} {vs : List AV} (h : aop P o.op st = .call f vs) : CallIs P o st f vs := by
  cases ho : o.op with
  | call c =>
    obtain ⟨callee, args, tys⟩ := c
    rw [ho] at h
    simp only [aop] at h
    cases callee with
    | builtin b =>
      exfalso
      simp only [callR] at h
      unfold callB at h
      repeat' split at h
      all_goals first | (cases h; done) | skip
      all_goals first
        | (unfold lenR at h; repeat' split at h) 
        | (unfold max2R at h; repeat' split at h)
        | (unfold min2R at h; repeat' split at h)
        | (unfold appendR at h; repeat' split at h)
        | (unfold appZR at h; repeat' split at h)
        | (unfold copyR at h; repeat' split at h)
        | (unfold capR at h; repeat' split at h)
        | (unfold delMR at h; repeat' split at h)
        | (unfold dataR at h; repeat' split at h)
        | (unfold ustrR at h; repeat' split at h)
      all_goals cases h
    | value g =>
      simp only [callR] at h
      intro ρ F a w hin
      have hg := hin g (by simp [ho, Op.operands, Call.operands])
      obtain ⟨l1, r1⟩ := rd_evs (xs := args) (st := st) (a := a) (ρ := ρ) (F := F) (w := w) (fun x hx => hin x (by simp [ho, Op.operands, Call.operands, hx]))
      unfold callV at h
      split at h
      · rename_i fi as bs hx
        split at h
        · rename_i ha hb
          injection h with h1 h2; subst h1 h2
          rw [hx] at hg
          have ha' : as = #[] := Array.eq_empty_of_size_eq_zero (Nat.eq_of_beq_eq_true ha)
          have hb' : bs = #[] := Array.eq_empty_of_size_eq_zero (Nat.eq_of_beq_eq_true hb)
          subst ha' hb'
          refine ⟨_, l1, r1, ?_⟩
          simp only [execOp, ho, resolve, hg.pv, Deferred.ofValue, Sem.run_bind, Sem.run_pure, Result.andThen_ok, invoke]
          simp
        · cases h
      · rename_i fi as bs hx
        injection h with h1 h2; subst h1 h2
        rw [hx] at hg
        generalize hv : a.eval g = v at hg
        cases hg with
        | fn _ _ _ us vs hl hr hl' hr' =>
          obtain ⟨l2, r2⟩ := rd_append hl l1 hr r1
          obtain ⟨l3, r3⟩ := rd_append l2 hl' r2 hr'
          refine ⟨_, l3, r3, ?_⟩
          simp only [execOp, ho, resolve, hv, Deferred.ofValue, Sem.run_bind, Sem.run_pure, Result.andThen_ok, invoke]
      · cases h
    | invoke r m =>
      simp only [callR] at h
      intro ρ F a w hin
      have hg := hin r (by simp [ho, Op.operands, Call.operands])
      obtain ⟨l1, r1⟩ := rd_evs (xs := args) (st := st) (a := a) (ρ := ρ) (F := F) (w := w) (fun x hx => hin x (by simp [ho, Op.operands, Call.operands, hx]))
      have fin : ∀ (t : TypeId) (x : AV) (u : Value), a.eval r = .iface t u → Rd ρ F w x u → (∃ f', methF P t m = some f' ∧ f' = f) → vs = x :: evs st args.toList →
          ∃ us : Array Value, us.size = vs.length ∧ (∀ j c, vs[j]? = some c → Rd ρ F w c (us.getD j undef)) ∧ (execOp a.eval o).run P w = (callFunc f us).run P w := by
        intro t x u hv hr ⟨f', hm, hff⟩ hvs
        subst hff hvs
        obtain ⟨l2, r2⟩ := rd_append (us := #[u]) (xs := [x]) rfl l1 (fun j c hj => by
          cases j with
          | zero => simp at hj; subst hj; simpa using hr
          | succ j => simp at hj) r1
        refine ⟨#[u] ++ args.map a.eval, l2, r2, ?_⟩
        have hmr := methF_run (P := P) hm u w (P.types.size + Made.depth - 1)
        have hpos : P.types.size + Made.depth - 1 + 1 = P.types.size + Made.depth := by
          have : 0 < Made.depth := by decide
          omega
        rw [hpos] at hmr
        simp only [execOp, ho, resolve, hv, Sem.run_bind, Sem.run_pure, Result.andThen_ok, invoke]
        have e0 : (#[Value.iface t u] ++ args.map a.eval)[0]? = some (.iface t u) := by rw [Array.getElem?_append_left (by simp)]; rfl
        have e1 : (#[Value.iface t u] ++ args.map a.eval).extract 1 (#[Value.iface t u] ++ args.map a.eval).size = args.map a.eval := by
          apply Array.ext'
          simp
          exact List.take_of_length_le (by simp)
        simp only [e0, e1, callMethod, Sem.run_bind, run_program, Result.andThen_ok, hmr]
      unfold invokeR at h
      split at h
      · rename_i t x hx
        unfold invK at h
        split at h
        · rename_i f' hm
          injection h with h1 h2
          rw [hx] at hg
          generalize hv : a.eval r = v at hg
          cases hg with
          | iface _ _ u hu => exact fin t x u hv hu ⟨f', hm, h1⟩ h2.symm
        · cases h
      · rename_i t x hx
        unfold invK at h
        split at h
        · rename_i f' hm
          injection h with h1 h2
          rw [hx] at hg
          generalize hv : a.eval r = v at hg
          cases hg with
          | p _ _ hu =>
            cases hu with
            | iface _ _ u hu => exact fin t (unI x) u hv (unI_rd hu) ⟨f', hm, h1⟩ h2.symm
        · cases h
      · cases h
  | pick c a b => exfalso; rw [ho] at h; simp only [aop] at h; unfold pickR at h; split at h <;> simp [R.pure] at h
  | alloc t => exfalso; rw [ho] at h; simp only [aop] at h; unfold allocR at h; (repeat' split at h) <;> cases h
  | box t x => exfalso; rw [ho] at h; simp only [aop] at h; unfold boxR at h; (repeat' split at h) <;> cases h
  | build t parts => exfalso; rw [ho] at h; simp only [aop] at h; unfold buildR at h; (repeat' split at h) <;> simp [R.pure] at h
  | buildSlice t l parts => exfalso; rw [ho] at h; simp only [aop] at h; unfold sliceLitR at h; (repeat' split at h) <;> cases h
  | load t x => exfalso; rw [ho] at h; simp only [aop] at h; unfold loadR at h; split at h <;> first | (unfold loadB at h; (repeat' split at h) <;> cases h) | ((repeat' split at h) <;> simp [R.pureS] at h) | cases h
  | store t x y => exfalso; rw [ho] at h; simp only [aop] at h; unfold storeR at h; split at h <;> first | (unfold storeB at h; (repeat' split at h) <;> cases h) | cases h
  | nilCheck x => exfalso; rw [ho] at h; simp only [aop] at h; unfold nilR at h; split at h <;> simp [R.pure] at h
  | binOp op t x y t' =>
    exfalso; rw [ho] at h; simp only [aop] at h; unfold binR at h
    split at h
    · unfold arithR at h; split at h <;> simp [R.pure, R.pureS] at h
    · unfold strR at h; split at h <;> simp [R.pure, R.pureS] at h
    · unfold boolR at h; (repeat' split at h) <;> simp [R.pure] at h
    · split at h <;> first | cases h; done | (unfold nilEq at h; split at h <;> simp [R.pureS] at h)
    · split at h <;> first | cases h; done | (unfold nilEq at h; split at h <;> simp [R.pureS] at h)
    · split at h <;> first | cases h; done | (unfold nilEq at h; split at h <;> simp [R.pureS] at h)
    · split at h <;> first | cases h; done | (unfold nilEq at h; split at h <;> simp [R.pureS] at h)
    · split at h <;> first | cases h; done | (unfold aggR at h; (repeat' split at h) <;> simp [R.pure] at h)
    · split at h <;> first | cases h; done | (unfold nilEq at h; split at h <;> simp [R.pureS] at h)
    · split at h <;> first | cases h; done | (unfold nilEq at h; split at h <;> simp [R.pureS] at h)
    · split at h <;> first | cases h; done | (unfold nilEq at h; split at h <;> simp [R.pureS] at h)
    · cases h
  | unOp op t x => exfalso; rw [ho] at h; simp only [aop] at h; unfold unR at h; split at h <;> simp [R.pure] at h
  | convert s d x => exfalso; rw [ho] at h; simp only [aop] at h; unfold convR at h; (repeat' split at h) <;> simp [R.pure, R.pureS] at h
  | makeInterface t x => exfalso; rw [ho] at h; simp only [aop] at h; unfold ifaceR at h; split at h <;> simp [R.pure] at h
  | makeSlice t x y => exfalso; rw [ho] at h; simp only [aop] at h; unfold makeR at h; (repeat' split at h) <;> cases h
  | slice t x lo hi mx => exfalso; rw [ho] at h; simp only [aop] at h; unfold sliceR at h; (repeat' split at h) <;> simp [R.pureS] at h
  | fieldAddr t x f => exfalso; rw [ho] at h; simp only [aop] at h; unfold fieldR at h; (repeat' split at h) <;> simp [R.pure] at h
  | field t x f => exfalso; rw [ho] at h; simp only [aop] at h; unfold fieldV at h; (repeat' split at h) <;> simp [R.pureS] at h
  | indexAddr t x y => exfalso; rw [ho] at h; simp only [aop] at h; unfold indexR at h; (repeat' split at h) <;> simp [R.pureS] at h
  | index t x y => exfalso; rw [ho] at h; simp only [aop] at h; unfold idxVR at h; (repeat' split at h) <;> simp [R.pureS] at h
  | extract x i => exfalso; rw [ho] at h; simp only [aop] at h; unfold extractR at h; (repeat' split at h) <;> simp [R.pure] at h
  | makeMap t r => exfalso; rw [ho] at h; cases r <;> simp [aop] at h
  | mapUpdate t m x y => exfalso; rw [ho] at h; simp only [aop] at h; unfold updMR at h; (repeat' split at h) <;> cases h
  | lookup t m x c => exfalso; rw [ho] at h; cases c <;> simp only [aop] at h <;> first | (cases h; done) | (unfold lookMR at h; (repeat' split at h) <;> cases h)
  | _ => exfalso; rw [ho] at h; simp [aop, R.pure] at h

/-- a call: its body is entered, or it is one of the model's entries and answers at once -/
def CallW (P : Program) (f : FuncId) (us : Array Value) (w : World) (R : Value → World → Prop) : Prop :=
  ((callFunc f us).run P w = .ok (.enter f us) w ∧ Calls P f us w fun e w' => ∃ x, e = .returned x ∧ R x w') ∨ ∃ x w', (callFunc f us).run P w = .ok (.value x) w' ∧ R x w'
theorem CallW.upon {f : FuncId} {us : Array Value} {w : World} {R : Value → World → Prop} (h : CallW P f us w R) {o : Oper} {a : Act} {K : Act → World → Prop} {Q : Exit → Act → World → Prop} (hK : ∀ x w', R x w' → K (a.put o.dst x) w') :
    o.upon P a K Q ((callFunc f us).run P w) := by
  rcases h with ⟨he, h⟩ | ⟨x, w', he, h⟩
  · rw [he, Oper.upon_enter]
    refine h.mono ?_
    rintro e w' ⟨x, rfl, hr⟩
    exact hK x w' hr
  · rw [he, Oper.upon_value]
    exact hK x w' h
structure FCall (P : Program) (f : FuncId) (vs : List AV) (h : Heap) (v : AV) (T : List Nat) (u : List (Nat × Option Blk)) : Prop where
  tri : ∀ (ρ : IdMap) (F : FSet) (us : Array Value) (w : World), Pre ρ F w T u h → us.size = vs.length → (∀ j c, vs[j]? = some c → Rd ρ F w c (us.getD j undef)) →
    CallW P f us w (fun x w' => ∃ ρ' F', Post ρ F w T u h v x ρ' F' w')
theorem FCall.calls {f : FuncId} {vs : List AV} {h : Heap} {v : AV} {T : List Nat} {u : List (Nat × Option Blk)} (hf : FCall P f vs h v T u) (he : ∀ us w, (callFunc f us).run P w = .ok (.enter f us) w) {ρ : IdMap} {F : FSet} {us : Array Value} {w : World}
    (hp : Pre ρ F w T u h) (hz : us.size = vs.length) (hr : ∀ j c, vs[j]? = some c → Rd ρ F w c (us.getD j undef)) : Calls P f us w (fun e w' => ∃ x ρ' F', e = .returned x ∧ Post ρ F w T u h v x ρ' F' w') := by
  rcases hf.tri ρ F us w hp hz hr with ⟨_, h⟩ | ⟨x, w', h, _⟩
  · refine h.mono ?_
    rintro e w' ⟨x, rfl, ρ', F', hr⟩
    exact ⟨x, ρ', F', rfl, hr⟩
  · rw [he] at h; cases h

theorem call_ok {o : Oper} {st : AS} {f : FuncId} {vs : List AV} {v : AV} {T : List Nat} {u : List (Nat × Option Blk)} {nx : Nat} (hc : CallIs P o st f vs) (hf : FCall P f vs (hget st.hp) v T u) (le : st.nx ≤ nx)
    (keysOk : ∀ i, i ∈ keys u → i ∈ T ∨ (st.nx ≤ i ∧ i < nx)) (live : ∀ i, i ∈ T → hget st.hp i ≠ none) : OpOk P o st v T u nx where
  tri ρ F a w hpre hin K Q hK := by
    obtain ⟨us, hz, hr, he⟩ := hc ρ F a w hin
    unfold Oper.wp
    rw [he]
    refine (hf.tri ρ F us w hpre hz hr).upon ?_
    rintro x w' ⟨ρ', F', hp⟩
    exact hK x ρ' F' w' hp
  le := le
  keysOk := keysOk
  live := live

end Go.Abs

namespace Go.Abs
set_option linter.unusedSimpArgs false
set_option linter.unusedVariables false
open Go Go.RowKit

inductive It where
  | code (c : Code)
  | ops (all : Array Oper) (l : List Oper)
  | blk (id : Nat)
  | inv (J : AS → Prop)

/-- what must hold of the concrete run where the rest is k -/
def Wk (c : Ctx) : List It → Exit → Act → World → Prop
  | [], e, a, w => bodyPost c.P c.fn c.R e a w
  | .code x :: k, .normal, a, w => x.wp c.P (Wk c k) a w
  | .ops all l :: k, .normal, a, w => wpList c.P all (Wk c k) l a w
  | .blk _ :: k, .normal, a, w => Wk c k .normal a w
  | .blk id :: k, .exit i, a, w => if i = id then Wk c k .normal a w else Wk c k (.exit i) a w
  | .inv J :: _, .normal, a, w => ∃ ρ F st, J st ∧ Conc c ρ F st a w
  | _ :: k, e, a, w => Wk c k e a w

def SAW (c : Ctx) (k : List It) (st : AS) : Prop := ∀ ρ F a w, Conc c ρ F st a w → Wk c k .normal a w

/-- an operation without its guard, then the rest -/
def SOp (c : Ctx) (o : Oper) (all : Array Oper) (os : List Oper) (k : List It) (st : AS) : Prop :=
  ∀ ρ F a w, Conc c ρ F st a w → o.wp c.P a w (wpList c.P all (Wk c k) os) (Wk c k)

/-- the walk stands at a call of function f with the arguments vs -/
def CallG (c : Ctx) (f : FuncId) (vs : List AV) (o : Oper) (all : Array Oper) (os : List Oper) (k : List It) (st : AS) : Prop :=
  CallIs c.P o st f vs → SOp c o all os k st

def memB : List Nat → Nat → Bool
  | [], _ => false
  | k :: r, n => match Nat.beq k n with | true => true | false => memB r n
def hpr (seen : List Nat) : List (Nat × Option Blk) → List (Nat × Option Blk)
  | [] => []
  | (k, b) :: r => match memB seen k, b with
    | true, _ => hpr seen r
    | false, some b => (k, some b) :: hpr (k :: seen) r
    | false, none => hpr (k :: seen) r
def pickS (sl : List (Nat × AV)) : List Nat → List (Nat × AV)
  | [] => []
  | k :: r => (k, lk sl k) :: pickS sl r
def prune (ks : List Nat) (st : AS) : AS := ⟨st.n, pickS st.sl ks, hpr [] st.hp, st.nx⟩

def dropTo (id : Nat) : List It → Option (List It)
  | [] => none
  | .blk i :: k => match Nat.beq i id with | true => some k | false => dropTo id k
  | .code _ :: k => dropTo id k
  | .ops _ _ :: k => dropTo id k
  | .inv _ :: k => dropTo id k

def exitA (rec : List It → AS → Prop) (st : AS) : Option (List It) → Prop
  | some k => rec k st
  | none => False

def condA (rec : List It → AS → Prop) (x y : Code) (k : List It) (st : AS) : AV → Prop
  | .p (.v (.bool b)) => if b = true then rec (.code x :: k) st else rec (.code y :: k) st
  | _ => False

def resA (c : Ctx) (rec : List It → AS → Prop) (o : Oper) (all : Array Oper) (os : List Oper) (k : List It) (st : AS) : R → Prop
  | .ok v _ u nx => rec (.ops all os :: k) (eff st o.dst v u nx)
  | .okS s v _ u nx => s ∧ rec (.ops all os :: k) (eff st o.dst v u nx)
  | .call f vs => CallG c f vs o all os k st
  | .bad => False

def dstL : List Oper → Nat → Option Nat
  | [], _ => none
  | o :: _, 0 => o.dst
  | _ :: r, j + 1 => dstL r j

theorem dstL_get (l : List Oper) (j : Nat) : dstL l j = (l[j]?).bind (·.dst) := by
  induction l generalizing j with
  | nil => simp [dstL]
  | cons o r ih => cases j <;> simp [dstL, ih]

def setB (st : AS) (d : Nat) (b : Bool) : AS := ⟨st.n, (d, .b b) :: st.sl, st.hp, st.nx⟩

def guardA (c : Ctx) (rec : List It → AS → Prop) (o : Oper) (all : Array Oper) (os : List Oper) (k : List It) (st : AS) (d : Nat) (want : Bool) : AV → Prop
  | .p (.v (.bool b)) => if b = want then resA c rec o all os k (setB st d want) (aop c.P o.op (setB st d want)) else rec (.ops all os :: k) (put (setB st d (!want)) o.dst (.tup []))
  | .tup [] => rec (.ops all os :: k) (put st o.dst (.tup []))
  | _ => False

def guardO (c : Ctx) (rec : List It → AS → Prop) (o : Oper) (all : Array Oper) (os : List Oper) (k : List It) (st : AS) (want : Bool) : Option Nat → Prop
  | some d => guardA c rec o all os k st d want (lk st.sl d)
  | none => False

def gA (c : Ctx) (rec : List It → AS → Prop) (o : Oper) (all : Array Oper) (os : List Oper) (k : List It) (st : AS) : Option (Nat × Bool) → Prop
  | none => resA c rec o all os k st (aop c.P o.op st)
  | some (j, want) => guardO c rec o all os k st want (dstL all.toList j)

def AW (c : Ctx) (ks : List Nat) : Nat → List It → AS → Prop
  | 0, k, st => SAW c k st
  | n + 1, .code (.seq a b) :: k, st => AW c ks n (.code a :: .code b :: k) st
  | n + 1, .code .skip :: k, st => AW c ks n k st
  | n + 1, .code (.block id x) :: k, st => AW c ks n (.code x :: .blk id :: k) st
  | n + 1, .blk _ :: k, st => AW c ks n k st
  | n + 1, .code (.exit id) :: k, st => exitA (AW c ks n) st (dropTo id k)
  | n + 1, .code (.cond x y z) :: k, st => condA (AW c ks n) y z k st (ev st x)
  | n + 1, .code (.region _ ops false) :: k, st => AW c ks n (.ops ops ops.toList :: k) st
  | n + 1, .ops _ [] :: k, st => AW c ks n k (prune ks st)
  | n + 1, .ops all (o :: os) :: k, st => gA c (AW c ks n) o all os k st o.guard
  | _ + 1, .inv J :: _, st => J st
  | _ + 1, k, st => SAW c k st

theorem memB_iff (l : List Nat) (n : Nat) : memB l n = true ↔ n ∈ l := by
  induction l with
  | nil => simp [memB]
  | cons k r ih =>
    unfold memB
    by_cases h : k = n
    · subst h; simp
    · rw [beq_no h]; simp [ih]; omega

theorem hpr_get (hp : List (Nat × Option Blk)) : ∀ (seen : List Nat) (i : Nat), hget (hpr seen hp) i = if i ∈ seen then none else hget hp i := by
  induction hp with
  | nil => intro seen i; simp [hpr, hget]
  | cons x r ih =>
    obtain ⟨k, b⟩ := x
    intro seen i
    have hcons : ∀ (b : Option Blk), hget ((k, b) :: r) i = if k = i then b else hget r i := fun b => by
      show (match Nat.beq k i with | true => b | false => hget r i) = _
      by_cases h : k = i
      · subst h; simp
      · rw [beq_no h, if_neg h]
    unfold hpr
    cases hm : memB seen k with
    | true =>
      have hk := (memB_iff seen k).1 hm
      simp only [ih, hcons]
      by_cases hi : i ∈ seen
      · simp [hi]
      · have : ¬ k = i := fun e => hi (e ▸ hk)
        simp [hi, this]
    | false =>
      have hk : k ∉ seen := fun h => by rw [(memB_iff seen k).2 h] at hm; cases hm
      cases b with
      | some b =>
        show (match Nat.beq k i with | true => some b | false => hget (hpr (k :: seen) r) i) = _
        rw [hcons]
        by_cases h : k = i
        · subst h; simp [hk]
        · rw [beq_no h, ih]
          have h' : ¬ i = k := fun e => h e.symm
          simp [h, h']
      | none =>
        simp only [ih, hcons, List.mem_cons]
        by_cases h : k = i
        · subst h; simp
        · have h' : ¬ i = k := fun e => h e.symm
          simp [h, h']

theorem pickS_get (sl : List (Nat × AV)) (ks : List Nat) (s : Nat) : lk (pickS sl ks) s = if s ∈ ks then lk sl s else .any := by
  induction ks with
  | nil => simp [pickS, lk]
  | cons k r ih =>
    simp only [pickS, lk_cons, ih, List.mem_cons]
    by_cases h : k = s
    · subst h; simp
    · have h' : ¬ s = k := fun e => h e.symm
      simp [h, h']

theorem Conc.prune {c : Ctx} {ρ : IdMap} {F : FSet} {st : AS} {a : Act} {w : World} (h : Conc c ρ F st a w) (ks : List Nat) : Conc c ρ F (Abs.prune ks st) a w := by
  have hh : hget (Abs.prune ks st).hp = hget st.hp := by funext i; simp only [Abs.prune, hpr_get]; simp
  refine ⟨h.defers, h.size, fun s => ?_, by rw [hh]; exact h.heap, h.fresh, h.fok, h.chg, by rw [hh]; exact h.dom, by rw [hh]; exact h.own, h.keep, h.glob⟩
  simp only [Abs.prune, pickS_get]
  split
  · exact h.slots s
  · exact .any _

theorem Conc.setB {c : Ctx} {ρ : IdMap} {F : FSet} {st : AS} {a : Act} {w : World} (h : Conc c ρ F st a w) {d : Nat} {b : Bool} (hd : lk st.sl d = .b b) : Conc c ρ F (Abs.setB st d b) a w := by
  refine ⟨h.defers, h.size, fun s => ?_, h.heap, h.fresh, h.fok, h.chg, h.dom, h.own, h.keep, h.glob⟩
  simp only [Abs.setB, lk_cons]
  split
  · rename_i e; subst e; rw [← hd]; exact h.slots d
  · exact h.slots s

theorem Conc.putAny {c : Ctx} {ρ : IdMap} {F : FSet} {st : AS} {a : Act} {w : World} (h : Conc c ρ F st a w) (d : Option Nat) : Conc c ρ F (put st d .any) (a.put d undef) w := by
  have e1 : (put st d .any).n = st.n := by unfold put; cases d with | none => rfl | some d => dsimp only; cases Nat.blt d st.n <;> rfl
  have e2 : (put st d .any).hp = st.hp := by unfold put; cases d with | none => rfl | some d => dsimp only; cases Nat.blt d st.n <;> rfl
  have e3 : (put st d .any).nx = st.nx := by unfold put; cases d with | none => rfl | some d => dsimp only; cases Nat.blt d st.n <;> rfl
  refine ⟨?_, ?_, fun s => ?_, by rw [e2]; exact h.heap, by rw [e3]; exact h.fresh, h.fok, h.chg, by rw [e2, e3]; exact h.dom, by rw [e2]; exact h.own, h.keep, h.glob⟩
  · cases d <;> simp [Act.put, h.defers]
  · rw [e1, ← h.size]; cases d <;> simp [Act.put]
  · cases d with
    | none => exact h.slots s
    | some d =>
      have hold := h.slots s
      simp only [put, Act.put]
      cases hdn : Nat.blt d st.n with
      | false =>
        have hge : a.tmps.size ≤ d := by
          rw [h.size]
          rcases Nat.lt_or_ge d st.n with h1 | h1
          · have : Nat.blt d st.n = true := by simpa [Nat.blt_eq] using h1
            rw [hdn] at this; cases this
          · exact h1
        simp only [Array.setIfInBounds_eq_of_size_le hge]
        exact hold
      | true =>
        simp only [lk_cons]
        by_cases hd : d = s
        · rw [if_pos hd]; exact .any _
        · simp only [if_neg hd]
          simpa [Array.getD_eq_getD_getElem?, Array.getElem?_setIfInBounds_ne hd] using hold

theorem Conc.putSkip {c : Ctx} {ρ : IdMap} {F : FSet} {st : AS} {a : Act} {w : World} (h : Conc c ρ F st a w) (d : Option Nat) : Conc c ρ F (put st d (.tup [])) (a.put d undef) w := by
  have e1 : (put st d (.tup [])).n = st.n := by unfold put; cases d with | none => rfl | some d => dsimp only; cases Nat.blt d st.n <;> rfl
  have e2 : (put st d (.tup [])).hp = st.hp := by unfold put; cases d with | none => rfl | some d => dsimp only; cases Nat.blt d st.n <;> rfl
  have e3 : (put st d (.tup [])).nx = st.nx := by unfold put; cases d with | none => rfl | some d => dsimp only; cases Nat.blt d st.n <;> rfl
  refine ⟨?_, ?_, fun s => ?_, by rw [e2]; exact h.heap, by rw [e3]; exact h.fresh, h.fok, h.chg, by rw [e2, e3]; exact h.dom, by rw [e2]; exact h.own, h.keep, h.glob⟩
  · cases d <;> simp [Act.put, h.defers]
  · rw [e1, ← h.size]; cases d <;> simp [Act.put]
  · cases d with
    | none => exact h.slots s
    | some d =>
      have hold := h.slots s
      simp only [put, Act.put]
      cases hdn : Nat.blt d st.n with
      | false =>
        have hge : a.tmps.size ≤ d := by
          rw [h.size]
          rcases Nat.lt_or_ge d st.n with h1 | h1
          · have : Nat.blt d st.n = true := by simpa [Nat.blt_eq] using h1
            rw [hdn] at this; cases this
          · exact h1
        simp only [Array.setIfInBounds_eq_of_size_le hge]
        exact hold
      | true =>
        simp only [lk_cons]
        by_cases hd : d = s
        · rw [if_pos hd]; subst hd; rw [show (a.tmps.setIfInBounds d undef).getD d undef = undef from by simp [Array.getD_eq_getD_getElem?, Array.getElem?_setIfInBounds]; split <;> rfl]; exact .tup [] #[] rfl (fun j c hj => by simp at hj)
        · simp only [if_neg hd]
          simpa [Array.getD_eq_getD_getElem?, Array.getElem?_setIfInBounds_ne hd] using hold

theorem Wk_exit {c : Ctx} {id : Nat} {k k' : List It} {a : Act} {w : World} (hd : dropTo id k = some k') (h : Wk c k' .normal a w) : Wk c k (.exit id) a w := by
  induction k with
  | nil => cases hd
  | cons x r ih =>
    cases x with
    | blk i =>
      simp only [dropTo] at hd
      by_cases hi : i = id
      · subst hi
        simp at hd
        subst hd
        simp only [Wk, if_true]
        exact h
      · rw [beq_no hi] at hd
        simp only [Wk]
        rw [if_neg (fun e => hi e.symm)]
        exact ih hd
    | code x => exact ih hd
    | ops all l => exact ih hd
    | inv J => exact ih hd

theorem Wk_then {c : Ctx} {x : Code} {k : List It} : Exit.then (x.wp c.P (Wk c k)) (Wk c k) = Wk c (.code x :: k) := by
  funext e a w
  cases e <;> rfl
theorem Wk_block {c : Ctx} {id : Nat} {k : List It} : Exit.inBlock id (Wk c k) = Wk c (.blk id :: k) := by
  funext e a w
  cases e <;> rfl

theorem wanted_of {c : Ctx} {ρ : IdMap} {F : FSet} {st : AS} {a : Act} {w : World} (h : Conc c ρ F st a w) {all : Array Oper} {o : Oper} {j d : Nat} {want b : Bool} (hg : o.guard = some (j, want)) (hd : dstL all.toList j = some d)
    (hv : lk st.sl d = .b b) (hdn : d < st.n) : Region.wanted o (yielded all a.tmps) = decide (b = want) := by
  have hs := h.slots d
  rw [hv] at hs
  have hpv := hs.pv
  have hlt : d < a.tmps.size := by rw [h.size]; exact hdn
  have hget' : a.tmps[d]? = some (.bool b) := by
    have : a.tmps.getD d undef = a.tmps[d] := by simp [Array.getD, hlt]
    rw [Array.getElem?_eq_getElem hlt, ← this, hpv]
  have hy : yielded all a.tmps j = some b := by
    unfold yielded
    have : (all[j]?).bind (·.dst) = some d := by
      rw [dstL_get] at hd
      simpa using hd
    rw [this]
    simp [hget']
  unfold Region.wanted
  rw [hg]
  simp only [hy]
  cases b <;> cases want <;> rfl

theorem resA_sound {c : Ctx} {rec : List It → AS → Prop} (hrec : ∀ k st, rec k st → SAW c k st) {o : Oper} {all : Array Oper} {os : List Oper} {k : List It} {st : AS} (h : resA c rec o all os k st (aop c.P o.op st)) : SOp c o all os k st := by
  intro ρ F a w hc
  obtain ⟨h1, h2⟩ := aop_ok (P := c.P) o st
  cases hr : aop c.P o.op st with
  | ok v T u nx =>
    rw [hr] at h
    exact step_ok (h1 v T u nx hr) hc _ _ (fun ρ' F' a' w' hc' => hrec _ _ h ρ' F' a' w' hc')
  | okS s v T u nx =>
    rw [hr] at h
    exact step_ok (h2 s v T u nx hr h.1) hc _ _ (fun ρ' F' a' w' hc' => hrec _ _ h.2 ρ' F' a' w' hc')
  | call f vs =>
    rw [hr] at h
    exact h (aop_call hr) ρ F a w hc
  | bad => rw [hr] at h; exact h.elim

theorem gA_sound {c : Ctx} {rec : List It → AS → Prop} (hrec : ∀ k st, rec k st → SAW c k st) {o : Oper} {all : Array Oper} {os : List Oper} {k : List It} {st : AS} (h : gA c rec o all os k st o.guard) : SAW c (.ops all (o :: os) :: k) st := by
  intro ρ F a w hc
  show wpList c.P all (Wk c k) (o :: os) a w
  cases hg : o.guard with
  | none =>
    rw [hg] at h
    unfold wpList
    have hw : Region.wanted o (yielded all a.tmps) = true := by simp [Region.wanted, hg]
    rw [if_pos hw]
    exact .inl (resA_sound hrec h ρ F a w hc)
  | some jw =>
    obtain ⟨j, want⟩ := jw
    rw [hg] at h
    simp only [gA] at h
    cases hd : dstL all.toList j with
    | none => rw [hd] at h; exact h.elim
    | some d =>
      rw [hd] at h
      simp only [guardO] at h
      unfold guardA at h
      split at h
      · rename_i b hv
        have hdn : d < st.n := by
          rcases Nat.lt_or_ge d st.n with h1 | h1
          · exact h1
          · exfalso
            have hs := hc.slots d
            rw [hv] at hs
            have := hs.pv
            have hge : a.tmps.size ≤ d := by rw [hc.size]; exact h1
            simp [Array.getD_eq_getD_getElem?, Array.getElem?_eq_none hge, undef] at this
        have hw := wanted_of hc hg hd hv hdn
        unfold wpList
        split at h
        · rename_i hb
          subst hb
          have hw' : Region.wanted o (yielded all a.tmps) = true := by rw [hw]; simp
          rw [if_pos hw']
          exact .inl (resA_sound hrec h ρ F a w (hc.setB hv))
        · rename_i hb
          have hw' : ¬ Region.wanted o (yielded all a.tmps) = true := by rw [hw]; simpa using hb
          rw [if_neg hw']
          have hbn : b = !want := by cases b <;> cases want <;> simp_all
          rw [hbn] at hv
          exact hrec _ _ h ρ F _ w ((hc.setB hv).putSkip o.dst)
      · rename_i hv
        have hy : yielded all a.tmps j = none := by
          have hs := hc.slots d
          rw [hv] at hs
          obtain ⟨us, hu, hz, _⟩ := hs.tupInv
          have hus : us = #[] := Array.eq_empty_of_size_eq_zero (by simpa using hz)
          subst hus
          unfold yielded
          have : (all[j]?).bind (·.dst) = some d := by rw [dstL_get] at hd; simpa using hd
          rw [this]
          simp only [Array.getD_eq_getD_getElem?] at hu
          cases hg' : a.tmps[d]? with
          | none => simp [hg']
          | some x => rw [hg'] at hu; simp at hu; subst hu; simp [hg']
        have hw' : ¬ Region.wanted o (yielded all a.tmps) = true := by unfold Region.wanted; rw [hg]; simp [hy]
        unfold wpList
        rw [if_neg hw']
        exact hrec _ _ h ρ F _ w (hc.putSkip o.dst)
      · exact h.elim

theorem AW_sound (c : Ctx) (ks : List Nat) : ∀ (n : Nat) (k : List It) (st : AS), AW c ks n k st → SAW c k st := by
  intro n
  induction n with
  | zero => intro k st h; exact h
  | succ n ih =>
    intro k st h
    unfold AW at h
    split at h
    · cases ‹n + 1 = 0›
    · rename_i hh; cases hh
      intro ρ F a w hc
      have := ih _ _ h ρ F a w hc
      refine wp_seq ?_
      rw [Wk_then]
      exact this
    · rename_i hh; cases hh
      intro ρ F a w hc
      exact wp_skip (ih _ _ h ρ F a w hc)
    · rename_i hh; cases hh
      intro ρ F a w hc
      refine wp_block ?_
      rw [Wk_block]
      exact ih _ _ h ρ F a w hc
    · rename_i hh; cases hh
      intro ρ F a w hc
      exact ih _ _ h ρ F a w hc
    · rename_i hh; cases hh
      intro ρ F a w hc
      unfold exitA at h
      split at h
      · rename_i hd
        exact wp_exit (Wk_exit hd (ih _ _ h ρ F a w hc))
      · exact h.elim
    · rename_i hh; cases hh
      intro ρ F a w hc
      unfold condA at h
      split at h
      · rename_i b hx
        refine wp_cond (hx ▸ hc.ev _ : Rd ρ F w (.p (.v (.bool b))) _).pv ?_
        split at h
        · rename_i hb; subst hb; exact ih _ _ h ρ F a w hc
        · rename_i hb
          have : b = false := by simpa using hb
          subst this
          exact ih _ _ h ρ F a w hc
      · exact h.elim
    · rename_i hh; cases hh
      intro ρ F a w hc
      exact wp_region_list (ih _ _ h ρ F a w hc)
    · rename_i hh; cases hh
      intro ρ F a w hc
      exact wpList_nil (ih _ _ h ρ F a w (hc.prune ks))
    · rename_i hh; cases hh
      exact gA_sound ih h
    · rename_i hh; cases hh
      intro ρ F a w hc
      exact ⟨ρ, F, _, h, hc⟩
    · exact h

end Go.Abs

namespace Go.Abs
set_option linter.unusedSimpArgs false
set_option linter.unusedVariables false
open Go Go.RowKit

/-! an abstract value seen as a pure one: the blocks S become frozen -/
mutual
def viewP (h : Heap) (S : List Nat) : PV → AV → Prop
  | .v x, a => a = .p (.v x)
  | .data s n cs, a => match a with
    | .p y => y = .data s n cs ∨ (y = .v (.slice none 0 0) ∧ n = 0 ∧ cs = [])
    | .sl id off n' s' => id ∈ S ∧ n' = n ∧ s' = s ∧ ∃ b, h id = some b ∧ off + n * s ≤ b.cs.length ∧ viewPs h S cs ((b.cs.drop off).take (n * s))
    | _ => False
  | .iface t x, a => match a with
    | .p y => y = .iface t x
    | .iface t' a' => t' = t ∧ viewP h S x a'
    | _ => False
  | .agg cs, a => match a with
    | .p y => y = .agg cs
    | .agg as => viewPs h S cs as
    | _ => False
def viewPs (h : Heap) (S : List Nat) : List PV → List AV → Prop
  | [], as => as = []
  | c :: cs, as => match as with
    | a :: as => viewP h S c a ∧ viewPs h S cs as
    | [] => False
end

theorem viewP_refl (h : Heap) (S : List Nat) (c : PV) : viewP h S c (.p c) := by
  cases c <;> simp [viewP]
theorem viewPs_refl (h : Heap) (S : List Nat) : ∀ (cs : List PV), viewPs h S cs (cs.map .p)
  | [] => by simp [viewPs]
  | c :: cs => by simp only [List.map_cons, viewPs]; exact ⟨viewP_refl h S c, viewPs_refl h S cs⟩

def unionS (F : FSet) (ρ : IdMap) (S : List Nat) : FSet := fun b => F b ∨ OSet ρ S b

mutual
theorem viewP_rd {h : Heap} {S : List Nat} {ρ : IdMap} {F : FSet} {w : World} (hH : HpOk ρ F w (restr S h)) : ∀ (y : PV) (a : AV) (u : Value), viewP h S y a → Rd ρ F w a u → RdP (unionS F ρ S) w y u
  | .v x, a, u, hv, hr => by
    simp only [viewP] at hv
    subst hv
    cases hr with
    | p _ _ h => exact h.mono (fun _ h => .inl h) (fun _ _ => rfl)
  | .data s n cs, a, u, hv, hr => by
    cases a with
    | p y =>
      simp only [viewP] at hv
      rcases hv with rfl | ⟨rfl, rfl, rfl⟩
      · cases hr with
        | p _ _ h => exact h.mono (fun _ h => .inl h) (fun _ _ => rfl)
      · have := hr.pv
        subst this
        exact .nil _ _ _
    | sl id off n' s' =>
      simp only [viewP] at hv
      obtain ⟨hS, rfl, rfl, b, hb, hl, hcs⟩ := hv
      rcases hr.slInv with ⟨rfl, A, rfl⟩ | ⟨bb, cap, hbb, rfl, hcap, hcc⟩
      · simp only [Nat.zero_mul, List.take_zero] at hcs
        cases cs with
        | nil => exact .nil _ _ _
        | cons c cs => simp [viewPs] at hcs
      · have hlen := viewPs_len hcs
        rcases hH.ok id b (by simp [restr, hS, hb]) with ⟨h1, h0⟩ | ⟨b2, hb2, hblk⟩
        · rw [h0] at hbb; cases hbb
        rw [hbb] at hb2; cases hb2
        obtain ⟨arr, fr, ha, hfr, hln, hcells⟩ := hblk.is (.inr ⟨_, hcc⟩)
        have hcl : cs.length = n' * s' := by rw [hlen]; simp; omega
        refine .data s' n' cs bb off cap (fun j => arr.getD (off + j) undef) hcl hcap (.inr ⟨id, hS, hbb⟩) (fun j hj => cell_of ha (by omega)) (fun j hj => ?_) ?_
        · have hj2 : off + j < b.cs.length := by omega
          exact (hcells (off + j) _ (List.getElem?_eq_getElem hj2)).1
        · refine viewPs_rd hH cs _ (fun j => arr.getD (off + j) undef) hcs (fun j c hj => ?_)
          rw [List.getElem?_take] at hj
          split at hj
          · exact (hcells (off + j) c (by simpa using hj)).2
          · cases hj
    | _ => simp [viewP] at hv
  | .iface t x, a, u, hv, hr => by
    cases a with
    | p y =>
      simp only [viewP] at hv
      subst hv
      cases hr with
      | p _ _ h => exact h.mono (fun _ h => .inl h) (fun _ _ => rfl)
    | iface t' a' =>
      simp only [viewP] at hv
      obtain ⟨rfl, hv⟩ := hv
      cases hr with
      | iface _ _ u' h => exact .iface _ _ _ (viewP_rd hH x a' u' hv h)
    | _ => simp [viewP] at hv
  | .agg cs, a, u, hv, hr => by
    cases a with
    | p y =>
      simp only [viewP] at hv
      subst hv
      cases hr with
      | p _ _ h => exact h.mono (fun _ h => .inl h) (fun _ _ => rfl)
    | agg as =>
      simp only [viewP] at hv
      obtain ⟨us, rfl, hz, hr'⟩ := hr.aggInv
      refine .agg cs us (by rw [hz, viewPs_len hv]) ?_
      exact viewPs_rd hH cs as (fun j => us.getD j undef) hv hr'
    | _ => simp [viewP] at hv
theorem viewPs_rd {h : Heap} {S : List Nat} {ρ : IdMap} {F : FSet} {w : World} (hH : HpOk ρ F w (restr S h)) : ∀ (cs : List PV) (as : List AV) (f : Nat → Value), viewPs h S cs as → (∀ j a, as[j]? = some a → Rd ρ F w a (f j)) →
    ∀ j c, cs[j]? = some c → RdP (unionS F ρ S) w c (f j)
  | [], as, f, _, _ => fun j c hj => by simp at hj
  | c :: cs, [], f, hv, _ => by simp [viewPs] at hv
  | c :: cs, a :: as, f, hv, hr => fun j c' hj => by
    simp only [viewPs] at hv
    cases j with
    | zero => simp at hj; subst hj; exact viewP_rd hH c a (f 0) hv.1 (hr 0 a rfl)
    | succ j => exact viewPs_rd hH cs as (fun j => f (j + 1)) hv.2 (fun j a ha => hr (j + 1) a (by simpa using ha)) j c' (by simpa using hj)
theorem viewPs_len {h : Heap} {S : List Nat} : ∀ {cs : List PV} {as : List AV}, viewPs h S cs as → cs.length = as.length
  | [], as, hv => by simp only [viewPs] at hv; subst hv; rfl
  | c :: cs, [], hv => by simp [viewPs] at hv
  | c :: cs, a :: as, hv => by simp only [viewPs] at hv; simp [viewPs_len hv.2]
end

/-! an abstract value seen as another -/
mutual
def viewA (h : Heap) (S : List Nat) (σ : Nat → Nat) : AV → AV → Prop
  | .any, _ => True
  | .p y, a => viewP h S y a
  | .ptr i off, a => a = .ptr (σ i) off
  | .sl i off n s, a => a = .sl (σ i) off n s ∨ (n = 0 ∧ a = .p (.v (.slice none 0 0)))
  | .cp cs, a => match a with
    | .cp cs' => cs' = cs
    | .ptr id off => id ∈ S ∧ ∃ b, h id = some b ∧ off + cs.length ≤ b.cs.length ∧ viewPs h S cs ((b.cs.drop off).take cs.length)
    | _ => False
  | .agg bs, a => match a with
    | .agg as => viewAs h S σ bs as
    | _ => False
  | .tup bs, a => match a with
    | .tup as => viewAs h S σ bs as
    | _ => False
  | .iface t b, a => match a with
    | .iface t' a' => t' = t ∧ viewA h S σ b a'
    | _ => False
  | .fn f bs cs, a => match a with
    | .fn f' bs' cs' => f' = f ∧ viewAs h S σ bs bs' ∧ viewAs h S σ cs cs'
    | _ => False
  | .mp i, a => a = .mp (σ i)
def viewAs (h : Heap) (S : List Nat) (σ : Nat → Nat) : List AV → List AV → Prop
  | [], as => as = []
  | b :: bs, as => match as with
    | a :: as => viewA h S σ b a ∧ viewAs h S σ bs as
    | [] => False
end

mutual
theorem viewA_rd {h : Heap} {S : List Nat} {σ : Nat → Nat} {ρ ρ' : IdMap} {F : FSet} {w : World} (hH : HpOk ρ F w (restr S h)) (hρ : ∀ i b, ρ (σ i) = some b → ρ' i = some b) :
    ∀ (b a : AV) (u : Value), viewA h S σ b a → Rd ρ F w a u → Rd ρ' (unionS F ρ S) w b u
  | .any, a, u, _, _ => .any _
  | .p y, a, u, hv, hr => .p _ _ (viewP_rd hH y a u (by simpa only [viewA] using hv) hr)
  | .ptr i off, a, u, hv, hr => by
    simp only [viewA] at hv
    subst hv
    obtain ⟨b, hb, rfl⟩ := hr.ptrInv
    exact .ptr _ _ _ (hρ _ _ hb)
  | .sl i off n s, a, u, hv, hr => by
    simp only [viewA] at hv
    rcases hv with hv | ⟨rfl, rfl⟩
    rotate_left
    · have := hr.pv
      subst this
      exact .slz _ _ _ _
    subst hv
    rcases hr.slInv with ⟨rfl, A, rfl⟩ | ⟨b, cap, hb, rfl, hcap, hcc⟩
    · exact .slz _ _ _ _
    · exact .sl _ _ _ _ _ _ (hρ _ _ hb) hcap hcc
  | .cp cs, a, u, hv, hr => by
    cases a with
    | cp cs' =>
      simp only [viewA] at hv
      subst hv
      obtain ⟨b, off, f, rfl, hF, hc, h1, hr'⟩ := hr.cpInv
      exact .cp _ _ _ f (.inl hF) hc h1 (fun j c hj => (hr' j c hj).mono (fun _ h => .inl h) (fun _ _ => rfl))
    | ptr id off =>
      simp only [viewA] at hv
      obtain ⟨hS, b, hb, hl, hcs⟩ := hv
      obtain ⟨bb, hbb, rfl⟩ := hr.ptrInv
      rcases hH.ok id b (by simp [restr, hS, hb]) with ⟨h1, h0⟩ | ⟨b2, hb2, hblk⟩
      · rw [h0] at hbb; cases hbb
      rw [hbb] at hb2; cases hb2
      rcases hblk.is0 with ⟨arr, fr, ha, hfr, hln, hcells⟩ | ⟨hnil, s, _, hmap⟩
      rotate_left
      · have hcs0 : cs = [] := List.eq_nil_of_length_eq_zero (by rw [hnil, List.length_nil] at hl; omega)
        subst hcs0
        exact .cp [] bb off (fun _ => undef) (.inr ⟨id, hS, hbb⟩) (fun j hj => by simp at hj) (fun j hj => by simp at hj) (fun j c hj => by simp at hj)
      refine .cp cs bb off (fun j => arr.getD (off + j) undef) (.inr ⟨id, hS, hbb⟩) (fun j hj => cell_of ha (by omega)) (fun j hj => ?_) ?_
      · have hj2 : off + j < b.cs.length := by omega
        exact (hcells (off + j) _ (List.getElem?_eq_getElem hj2)).1
      · refine viewPs_rd hH cs _ (fun j => arr.getD (off + j) undef) hcs (fun j c hj => ?_)
        rw [List.getElem?_take] at hj
        split at hj
        · exact (hcells (off + j) c (by simpa using hj)).2
        · cases hj
    | _ => simp [viewA] at hv
  | .agg bs, a, u, hv, hr => by
    cases a with
    | agg as =>
      simp only [viewA] at hv
      obtain ⟨us, rfl, hz, hr'⟩ := hr.aggInv
      exact .agg _ _ (by rw [hz, viewAs_len hv]) (viewAs_rd hH hρ bs as (fun j => us.getD j undef) hv hr')
    | _ => simp [viewA] at hv
  | .tup bs, a, u, hv, hr => by
    cases a with
    | tup as =>
      simp only [viewA] at hv
      obtain ⟨us, rfl, hz, hr'⟩ := hr.tupInv
      exact .tup _ _ (by rw [hz, viewAs_len hv]) (viewAs_rd hH hρ bs as (fun j => us.getD j undef) hv hr')
    | _ => simp [viewA] at hv
  | .iface t b, a, u, hv, hr => by
    cases a with
    | iface t' a' =>
      simp only [viewA] at hv
      obtain ⟨rfl, hv⟩ := hv
      cases hr with
      | iface _ _ u' h => exact .iface _ _ _ (viewA_rd hH hρ b a' u' hv h)
    | _ => simp [viewA] at hv
  | .fn f bs cs, a, u, hv, hr => by
    cases a with
    | fn f' bs' cs' =>
      simp only [viewA] at hv
      obtain ⟨rfl, h1, h2⟩ := hv
      cases hr with
      | fn _ _ _ us vs hl hr1 hl' hr2 => exact .fn _ _ _ us vs (by rw [hl, viewAs_len h1]) (viewAs_rd hH hρ bs bs' (fun j => us.getD j undef) h1 hr1) (by rw [hl', viewAs_len h2]) (viewAs_rd hH hρ cs cs' (fun j => vs.getD j undef) h2 hr2)
    | _ => simp [viewA] at hv
  | .mp i, a, u, hv, hr => by
    simp only [viewA] at hv
    subst hv
    cases hr with
    | mp _ b hb hm => exact .mp _ _ (hρ _ _ hb) hm
theorem viewAs_rd {h : Heap} {S : List Nat} {σ : Nat → Nat} {ρ ρ' : IdMap} {F : FSet} {w : World} (hH : HpOk ρ F w (restr S h)) (hρ : ∀ i b, ρ (σ i) = some b → ρ' i = some b) :
    ∀ (bs as : List AV) (f : Nat → Value), viewAs h S σ bs as → (∀ j a, as[j]? = some a → Rd ρ F w a (f j)) → ∀ j b, bs[j]? = some b → Rd ρ' (unionS F ρ S) w b (f j)
  | [], as, f, _, _ => fun j c hj => by simp at hj
  | c :: cs, [], f, hv, _ => by simp [viewAs] at hv
  | c :: cs, a :: as, f, hv, hr => fun j c' hj => by
    simp only [viewAs] at hv
    cases j with
    | zero => simp at hj; subst hj; exact viewA_rd hH hρ c a (f 0) hv.1 (hr 0 a rfl)
    | succ j => exact viewAs_rd hH hρ cs as (fun j => f (j + 1)) hv.2 (fun j a ha => hr (j + 1) a (by simpa using ha)) j c' (by simpa using hj)
theorem viewAs_len {h : Heap} {S : List Nat} {σ : Nat → Nat} : ∀ {bs as : List AV}, viewAs h S σ bs as → bs.length = as.length
  | [], as, hv => by simp only [viewAs] at hv; subst hv; rfl
  | c :: cs, [], hv => by simp [viewAs] at hv
  | c :: cs, a :: as, hv => by simp only [viewAs] at hv; simp [viewAs_len hv.2]
end

mutual
theorem viewA_refl (h : Heap) (S : List Nat) : ∀ (b : AV), viewA h S (fun i => i) b b
  | .any => trivial
  | .p y => by simp only [viewA]; exact viewP_refl h S y
  | .ptr i off => by simp [viewA]
  | .sl i off n s => by simp [viewA]
  | .cp cs => by simp [viewA]
  | .agg bs => by simp only [viewA]; exact viewAs_refl h S bs
  | .tup bs => by simp only [viewA]; exact viewAs_refl h S bs
  | .iface t b => by simp only [viewA, true_and]; exact viewA_refl h S b
  | .fn f bs cs => by simp only [viewA, true_and]; exact ⟨viewAs_refl h S bs, viewAs_refl h S cs⟩
  | .mp i => by simp [viewA]
theorem viewAs_refl (h : Heap) (S : List Nat) : ∀ (bs : List AV), viewAs h S (fun i => i) bs bs
  | [] => by simp [viewAs]
  | b :: bs => by simp only [viewAs]; exact ⟨viewA_refl h S b, viewAs_refl h S bs⟩
end
theorem viewAs_pure (h : Heap) (S : List Nat) (σ : Nat → Nat) : ∀ (cs : List PV), viewAs h S σ (cs.map .p) (cs.map .p)
  | [] => by simp [viewAs]
  | c :: cs => by simp only [List.map_cons, viewAs, viewA]; exact ⟨viewP_refl h S c, viewAs_pure h S σ cs⟩

/-! a state seen as another -/
def subSl (h : Heap) (S : List Nat) (σ : Nat → Nat) (sl : List (Nat × AV)) : List (Nat × AV) → Prop
  | [] => True
  | (s, b) :: r => viewA h S σ b (lk sl s) ∧ subSl h S σ sl r
def subBlk (h : Heap) (S : List Nat) (σ : Nat → Nat) (b' : Blk) : Option Blk → Prop
  | some b => b'.t = b.t ∧ viewAs h S σ b'.cs b.cs
  | none => False
def subHp (h : Heap) (S : List Nat) (σ : Nat → Nat) : List (Nat × Option Blk) → Prop
  | [] => True
  | (i, b) :: r => (match b with
    | some b' => memB S (σ i) = false ∧ subBlk h S σ b' (h (σ i))
    | none => True) ∧ subHp h S σ r
def liveK : List (Nat × Option Blk) → List Nat
  | [] => []
  | (i, b) :: r => match b with
    | some _ => i :: liveK r
    | none => liveK r
def nodupB : List Nat → Bool
  | [] => true
  | k :: r => match memB r k with | true => false | false => nodupB r
def ltAll (n : Nat) : List Nat → Bool
  | [] => true
  | k :: r => match Nat.blt k n with | true => ltAll n r | false => false
def liveS (hp : List (Nat × Option Blk)) : List Nat → Prop
  | [] => True
  | k :: r => (hget hp k).isSome = true ∧ liveS hp r

structure Sub (S : List Nat) (σ : Nat → Nat) (st st' : AS) : Prop where
  n : st'.n = st.n
  slots : subSl (hget st.hp) S σ st.sl st'.sl
  blocks : subHp (hget st.hp) S σ st'.hp
  nd : nodupB ((liveK st'.hp).map σ) = true
  lt : ltAll st'.nx (liveK st'.hp) = true
  live : liveS st.hp S
  fresh : ∀ i, st'.nx ≤ i → st.nx ≤ σ i

theorem subSl_get {h : Heap} {S : List Nat} {σ : Nat → Nat} {sl sl' : List (Nat × AV)} (hs : subSl h S σ sl sl') (s : Nat) : viewA h S σ (lk sl' s) (lk sl s) := by
  induction sl' with
  | nil => simp [lk, viewA]
  | cons x r ih =>
    obtain ⟨k, b⟩ := x
    rw [lk_cons]
    split
    · rename_i e; subst e; exact hs.1
    · exact ih hs.2

theorem hget_some {hp : List (Nat × Option Blk)} {i : Nat} {b : Blk} (h : hget hp i = some b) : (i, some b) ∈ hp := by
  induction hp with
  | nil => simp [hget] at h
  | cons x r ih =>
    obtain ⟨k, v⟩ := x
    by_cases hk : k = i
    · subst hk
      simp [hget] at h
      subst h; simp
    · have : hget ((k, v) :: r) i = hget r i := by show (match Nat.beq k i with | true => v | false => hget r i) = _; rw [beq_no hk]
      rw [this] at h
      exact List.mem_cons_of_mem _ (ih h)

theorem liveK_mem {hp : List (Nat × Option Blk)} {i : Nat} {b : Blk} (h : (i, some b) ∈ hp) : i ∈ liveK hp := by
  induction hp with
  | nil => cases h
  | cons x r ih =>
    obtain ⟨k, v⟩ := x
    rcases List.mem_cons.1 h with h1 | h1
    · cases h1; simp [liveK]
    · unfold liveK
      cases v with
      | some b => exact List.mem_cons_of_mem _ (ih h1)
      | none => exact ih h1

theorem subHp_get {h : Heap} {S : List Nat} {σ : Nat → Nat} {hp : List (Nat × Option Blk)} (hs : subHp h S σ hp) {i : Nat} {b : Blk} (hm : (i, some b) ∈ hp) : σ i ∉ S ∧ subBlk h S σ b (h (σ i)) := by
  induction hp with
  | nil => cases hm
  | cons x r ih =>
    obtain ⟨k, v⟩ := x
    rcases List.mem_cons.1 hm with h1 | h1
    · cases h1
      have := hs.1
      simp only at this
      exact ⟨fun hS => (by rw [(memB_iff S _).2 hS] at this; cases this.1), this.2⟩
    · exact ih hs.2 h1

theorem nodup_inj {σ : Nat → Nat} {l : List Nat} (h : nodupB (l.map σ) = true) {i j : Nat} (hi : i ∈ l) (hj : j ∈ l) (he : σ i = σ j) : i = j := by
  induction l with
  | nil => cases hi
  | cons k r ih =>
    simp only [List.map_cons, nodupB] at h
    cases hm : memB (r.map σ) (σ k) with
    | true => rw [hm] at h; cases h
    | false =>
      rw [hm] at h
      have hno : ∀ x, x ∈ r → σ x ≠ σ k := fun x hx e => by
        have : memB (r.map σ) (σ k) = true := (memB_iff _ _).2 (List.mem_map.2 ⟨x, hx, e⟩)
        rw [hm] at this; cases this
      rcases List.mem_cons.1 hi with hi | hi <;> rcases List.mem_cons.1 hj with hj | hj
      · rw [hi, hj]
      · rw [hi] at he; exact absurd he.symm (hno j hj)
      · rw [hj] at he; exact absurd he (hno i hi)
      · exact ih h hi hj

theorem ltAll_get {n : Nat} {l : List Nat} (h : ltAll n l = true) {i : Nat} (hi : i ∈ l) : i < n := by
  induction l with
  | nil => cases hi
  | cons k r ih =>
    unfold ltAll at h
    cases hb : Nat.blt k n with
    | false => rw [hb] at h; cases h
    | true =>
      rw [hb] at h
      rcases List.mem_cons.1 hi with rfl | hi
      · simpa [Nat.blt_eq] using hb
      · exact ih h hi

theorem liveS_get {hp : List (Nat × Option Blk)} {S : List Nat} (h : liveS hp S) {i : Nat} (hi : i ∈ S) : hget hp i ≠ none := by
  induction S with
  | nil => cases hi
  | cons k r ih =>
    rcases List.mem_cons.1 hi with rfl | hi
    · have := h.1; intro e; rw [e] at this; cases this
    · exact ih h.2 hi

theorem Sub.conc {S : List Nat} {σ : Nat → Nat} {st st' : AS} (hs : Sub S σ st st') {c : Ctx} (hσ : ∀ i, c.ρ0 i ≠ none → σ i = i) {ρ : IdMap} {F : FSet} {a : Act} {w : World} (h : Conc c ρ F st a w) :
    Conc c (fun i => ρ (σ i)) (unionS F ρ S) st' a w := by
  have hH := h.heap.restr S
  have hblk : ∀ i b', hget st'.hp i = some b' → i < st'.nx ∧ i ∈ liveK st'.hp ∧ σ i ∉ S ∧ ∃ b, hget st.hp (σ i) = some b ∧ b'.t = b.t ∧ viewAs (hget st.hp) S σ b'.cs b.cs := by
    intro i b' hb'
    have hm := hget_some hb'
    have hl := liveK_mem hm
    obtain ⟨h1, h2⟩ := subHp_get hs.blocks hm
    refine ⟨ltAll_get hs.lt hl, hl, h1, ?_⟩
    unfold subBlk at h2
    split at h2
    · rename_i b hb; exact ⟨b, hb, h2.1, h2.2⟩
    · exact h2.elim
  have hOlt : ∀ b, OSet ρ S b → b < w.heap.size ∧ (c.w0.heap.size ≤ b ∨ c.O b) := by
    rintro b ⟨i, hi, hb⟩
    have hl := liveS_get hs.live hi
    refine ⟨?_, h.own i b hl hb⟩
    obtain ⟨k, hk⟩ := Option.ne_none_iff_exists'.1 hl
    rcases h.heap.ok i k hk with ⟨_, h0⟩ | ⟨b2, hb2, ho⟩
    · rw [h0] at hb; cases hb
    · rw [hb] at hb2; cases hb2
      exact ho.lt
  refine ⟨h.defers, by rw [hs.n]; exact h.size, fun s => viewA_rd hH (fun i b hb => hb) _ _ _ (subSl_get hs.slots s) (h.slots s), ⟨fun i k hk => ?_, fun i j b hi hj h1 h2 => ?_⟩, fun i hi => h.fresh _ (hs.fresh i hi), ?_, ?_, fun i hi => ?_, fun i b hi hb => ?_, fun i b hb => ?_, h.glob.mono (fun _ h => .inl h) (fun _ _ => rfl)⟩
  · obtain ⟨hlt, hlk, hS, b, hb, ht, hv⟩ := hblk i k hk
    rcases h.heap.ok (σ i) b hb with ⟨h1, h0⟩ | ⟨bb, hbb, ho⟩
    · rw [h1] at hv
      refine .inl ⟨?_, h0⟩
      cases hcs : k.cs with
      | nil => rfl
      | cons x r => rw [hcs] at hv; simp [viewAs] at hv
    · refine .inr ⟨bb, hbb, ho.view (fun hF => ?_) ht (viewAs_len hv) (fun _ h => .inl h) (fun f hf => viewAs_rd hH (fun i b hb => hb) k.cs b.cs f hv hf)⟩
      rcases hF with hF | ⟨j, hj, hjb⟩
      · exact ho.own hF
      · have := h.heap.inj j (σ i) bb (liveS_get hs.live hj) (by rw [hb]; simp) hjb hbb
        exact hS (this ▸ hj)
  · obtain ⟨ki, hki⟩ := Option.ne_none_iff_exists'.1 hi
    obtain ⟨kj, hkj⟩ := Option.ne_none_iff_exists'.1 hj
    obtain ⟨_, hli, _, bi, hbi, _⟩ := hblk i ki hki
    obtain ⟨_, hlj, _, bj, hbj, _⟩ := hblk j kj hkj
    exact nodup_inj hs.nd hli hlj (h.heap.inj (σ i) (σ j) b (by rw [hbi]; simp) (by rw [hbj]; simp) h1 h2)
  · rintro b (hb | hb)
    · exact h.fok b hb
    · exact (hOlt b hb).1
  · exact ⟨h.chg.os, h.chg.tape, h.chg.output, h.chg.size, h.chg.same, h.chg.cells, fun b hb => .inl (h.chg.sub b hb), fun b hb => by
      rcases hb with hb | hb
      · exact h.chg.new b hb
      · exact .inr (hOlt b hb).2⟩
  · obtain ⟨k, hk⟩ := Option.ne_none_iff_exists'.1 hi
    exact (hblk i k hk).1
  · obtain ⟨k, hk⟩ := Option.ne_none_iff_exists'.1 hi
    obtain ⟨_, _, _, b', hb', _⟩ := hblk i k hk
    exact h.own (σ i) b (by rw [hb']; simp) hb
  · have := hσ i (by rw [hb]; simp)
    show ρ (σ i) = some b
    rw [this]
    exact h.keep i b hb

theorem saw_sub {c : Ctx} {S : List Nat} {σ : Nat → Nat} {k : List It} {st st' : AS} (hs : Sub S σ st st') (hσ : ∀ i, c.ρ0 i ≠ none → σ i = i) (h : SAW c k st') : SAW c k st :=
  fun _ _ a w hc => h _ _ a w (hs.conc hσ hc)

/-- a renaming given by a list: id i of the new state is the i-th of the old ids -/
def sg (base : Nat) : List Nat → Nat → Nat
  | [], i => base + i
  | k :: r, i => match i with
    | 0 => k
    | i + 1 => sg (base + 1) r i

theorem sg_fresh (l : List Nat) : ∀ (base i : Nat), l.length ≤ i → base ≤ sg base l i := by
  induction l with
  | nil => intro base i _; simp [sg]
  | cons k r ih =>
    intro base i hi
    cases i with
    | zero => simp at hi
    | succ i => have := ih (base + 1) i (by simpa using hi); simp only [sg]; omega

/-! freezing -/
def delL : List Nat → List (Nat × Option Blk)
  | [] => []
  | k :: r => (k, none) :: delL r
def frz (S : List Nat) (reps : List (Nat × AV)) (st : AS) : AS := ⟨st.n, reps ++ st.sl, delL S ++ st.hp, st.nx⟩
def viewR (h : Heap) (S : List Nat) (sl : List (Nat × AV)) : List (Nat × AV) → Prop
  | [] => True
  | (s, y) :: r => viewA h S (fun i => i) y (lk sl s) ∧ viewR h S sl r

/-! loops -/
theorem saw_loop {α : Type} {c : Ctx} {body : Code} {k : List It} {st : AS} (Inv : α → AS) (μ : α → Nat) (x0 : α) (h0 : ∀ {ρ F a w}, Conc c ρ F st a w → ∃ ρ' F', Conc c ρ' F' (Inv x0) a w)
    (hstep : ∀ x, SAW c (.code body :: .inv (fun st' => ∃ y, μ y < μ x ∧ ∃ S σ, Sub S σ st' (Inv y) ∧ ∀ i, c.ρ0 i ≠ none → σ i = i) :: k) (Inv x)) : SAW c (.code (.loop body) :: k) st := by
  have key : ∀ (N : Nat) (x : α), μ x < N → ∀ ρ F a w, Conc c ρ F (Inv x) a w → Code.rounds c.P body (Wk c k) N a w := by
    intro N
    induction N with
    | zero => intro x hx; omega
    | succ N ih =>
      intro x hx ρ F a w hc
      rw [rounds_succ]
      refine Code.wp_mono (fun e a' w' hq => ?_) (hstep x ρ F a w hc)
      cases e with
      | normal =>
        obtain ⟨ρ', F', st', ⟨y, hy, S, σ, hs, hσ⟩, hc'⟩ := hq
        exact ih y (by omega) _ _ a' w' (hs.conc hσ hc')
      | exit id => exact hq
      | goto l => exact hq
      | ret => exact hq
      | panic ch => exact hq
      | outgrown => exact hq
  intro ρ F a w hc
  obtain ⟨ρ', F', hc'⟩ := h0 hc
  exact wp_loop_rounds (μ x0 + 1) (key (μ x0 + 1) x0 (by omega) ρ' F' a w hc')

theorem Wk_ret (c : Ctx) : ∀ (k : List It) (a : Act) (w : World), Wk c k .ret a w = bodyPost c.P c.fn c.R .ret a w
  | [], a, w => rfl
  | .code x :: k, a, w => Wk_ret c k a w
  | .ops all l :: k, a, w => Wk_ret c k a w
  | .blk id :: k, a, w => Wk_ret c k a w
  | .inv J :: k, a, w => Wk_ret c k a w

end Go.Abs

namespace Go.Abs
set_option linter.unusedSimpArgs false
set_option linter.unusedVariables false
open Go Go.RowKit
variable {P : Program}

def resV (P : Program) (st : AS) : ResultVar → Option AV
  | .tmp t => some (lk st.sl t)
  | .cell a t => match lk st.sl a with
    | .ptr id off => match hget st.hp id, Nat.ble 1 (tiOf P t).size with
      | some b, true => match Nat.ble (off + (tiOf P t).size) b.cs.length with
        | true => some (takeAs (tiOf P t).kind (tiOf P t).size (b.cs.drop off))
        | false => none
      | _, _ => none
    | _ => none
def resVs (P : Program) (st : AS) : List ResultVar → Option (List AV)
  | [] => some []
  | r :: rs => match resV P st r, resVs P st rs with
    | some v, some vs => some (v :: vs)
    | _, _ => none
def retV : List AV → AV
  | [] => .tup []
  | [v] => v
  | v :: w :: r => .tup (v :: w :: r)

def resRun (tmps : Array Value) : ResultVar → Sem Value
  | .tmp t => pure (tmps.getD t undef)
  | .cell a t => do loadVar t (← asAddr (tmps.getD a undef))

theorem resV_run {c : Ctx} {ρ : IdMap} {F : FSet} {st : AS} {a : Act} {w : World} (h : Conc c ρ F st a w) {r : ResultVar} {v : AV} (hr : resV P st r = some v) :
    ∃ u, (resRun a.tmps r).run P w = .ok u w ∧ Rd ρ F w v u := by
  cases r with
  | tmp t =>
    simp only [resV, Option.some.injEq] at hr
    subst hr
    exact ⟨_, rfl, h.slots t⟩
  | cell x t =>
    simp only [resV] at hr
    split at hr
    · rename_i id off hx
      split at hr
      · rename_i b hb h1
        split at hr
        · rename_i hl
          simp only [Option.some.injEq] at hr
          subst hr
          have hs := h.slots x
          rw [hx] at hs
          obtain ⟨bb, hbb, hv⟩ := hs.ptrInv
          rcases h.heap.ok id b hb with ⟨_, h0⟩ | ⟨b2, hb2, hblk⟩
          · rw [h0] at hbb; cases hbb
          rw [hbb] at hb2; cases hb2
          have h1' := Nat.le_of_ble_eq_true h1
          have hl' := Nat.le_of_ble_eq_true hl
          rw [tiOf_size] at h1' hl'
          obtain ⟨arr, fr, ha, hfr, hlen, hc⟩ := hblk.is (.inl (by omega))
          have hrun := run_loadVar_cells (P := P) (t := t) (w := w) (b := bb) (o := off) (fun j => arr.getD (off + j) undef) h1' (fun j hj => cell_of ha (by omega))
          refine ⟨_, ?_, takeAs_rd h1' hl' (f := fun j => arr.getD j undef) (fun j c hj => (hc j c hj).2)⟩
          simp only [resRun, hv, asAddr, Sem.run_bind, Sem.run_pure, Result.andThen_ok, hrun]
        · cases hr
      · cases hr
    · cases hr

theorem resVs_run {c : Ctx} {ρ : IdMap} {F : FSet} {st : AS} {a : Act} {w : World} (h : Conc c ρ F st a w) : ∀ (rs : List ResultVar) (vs : List AV), resVs P st rs = some vs →
    ∃ us : List Value, (rs.mapM (resRun a.tmps)).run P w = .ok us w ∧ us.length = vs.length ∧ ∀ j x, vs[j]? = some x → Rd ρ F w x (us.getD j undef) := by
  intro rs
  induction rs with
  | nil => intro vs hv; simp [resVs] at hv; subst hv; exact ⟨[], rfl, rfl, fun j x hx => by simp at hx⟩
  | cons r rs ih =>
    intro vs hv
    simp only [resVs] at hv
    split at hv
    · rename_i v vs' h1 h2
      simp only [Option.some.injEq] at hv
      subst hv
      obtain ⟨u, hu, hru⟩ := resV_run h h1
      obtain ⟨us, hus, hl, hr⟩ := ih vs' h2
      refine ⟨u :: us, by simp only [List.mapM_cons, Sem.run_bind, hu, Result.andThen_ok, hus, Sem.run_pure], by simp [hl], fun j x hx => ?_⟩
      cases j with
      | zero => simp at hx; subst hx; simpa using hru
      | succ j => simpa using hr j x (by simpa using hx)
    · cases hv

theorem results_run {c : Ctx} {ρ : IdMap} {F : FSet} {st : AS} {a : Act} {w : World} (h : Conc c ρ F st a w) {fn : Func} {vs : List AV} (hv : resVs P st fn.results.toList = some vs) :
    ∃ u, (results fn a.tmps).run P w = .ok u w ∧ Rd ρ F w (retV vs) u := by
  obtain ⟨us, hus, hl, hr⟩ := resVs_run h _ _ hv
  have hm : (fn.results.mapM (resRun a.tmps)).run P w = .ok us.toArray w := by
    have e : fn.results = fn.results.toList.toArray := by simp
    rw [e, List.mapM_toArray]
    simp [hus]
  refine ⟨if h : us.toArray.size = 1 then us.toArray[0] else .tuple us.toArray, ?_, ?_⟩
  · have hfun : results fn a.tmps = (do let vs ← fn.results.mapM (resRun a.tmps); pure (if h : vs.size = 1 then vs[0] else .tuple vs)) := by
      unfold results
      congr 1
    rw [hfun, Sem.run_bind, hm]
    rfl
  · match vs, us, hl, hr with
    | [], [], _, _ => exact .tup _ _ rfl (fun j c hj => by simp at hj)
    | [v], [u], _, hr => simpa [retV] using hr 0 v rfl
    | v :: v2 :: r, u :: u2 :: r', hl, hr =>
      simp only [List.length_cons] at hl
      simp only [retV, List.size_toArray, List.length_cons, show ¬ (r'.length + 1 + 1 = 1) by omega, dite_false]
      refine .tup _ _ (by simp; omega) (fun j c hj => ?_)
      have := hr j c hj
      simpa [getD_of, List.getD_eq_getElem?_getD] using this

structure EndOk (P : Program) (rs : List ResultVar) (st : AS) (v : AV) (T : List Nat) (u : List (Nat × Option Blk)) (S : List Nat) (σ : Nat → Nat) : Prop where
  res : ∃ vs, resVs P st rs = some vs ∧ viewA (hget st.hp) S σ v (retV vs)
  blocks : subHp (hget st.hp) S σ u
  nd : nodupB (keys u) = true
  nd' : nodupB ((liveK u).map σ) = true
  live : liveS st.hp S
  sigT : ∀ i, i ∈ T → (i ∈ liveK u → σ i = i) ∧ i ∈ keys u
  sigN : ∀ i, i ∉ liveK u → st.nx ≤ σ i

theorem hget_mem {u : List (Nat × Option Blk)} (hn : nodupB (keys u) = true) {i : Nat} (hi : i ∈ liveK u) : ∃ b, hget u i = some b := by
  induction u with
  | nil => cases hi
  | cons x r ih =>
    obtain ⟨k, v⟩ := x
    simp only [keys, List.map_cons, nodupB] at hn
    cases hm : memB (r.map (·.1)) k with
    | true => rw [hm] at hn; cases hn
    | false =>
      rw [hm] at hn
      have hlive : ∀ (r : List (Nat × Option Blk)) (i : Nat), i ∈ liveK r → i ∈ r.map (·.1) := by
        intro r
        induction r with
        | nil => intro i hi; cases hi
        | cons y r ih =>
          obtain ⟨k', v'⟩ := y
          intro i hi
          unfold liveK at hi
          cases v' with
          | some b => rcases List.mem_cons.1 hi with rfl | hi; simp; exact List.mem_cons_of_mem _ (ih i hi)
          | none => exact List.mem_cons_of_mem _ (ih i hi)
      cases v with
      | some b =>
        unfold liveK at hi
        rcases List.mem_cons.1 hi with rfl | hi
        · exact ⟨b, by simp [hget]⟩
        · obtain ⟨b', hb'⟩ := ih hn hi
          have hne : ¬ k = i := fun e => by
            subst e
            have : memB (r.map (·.1)) k = true := (memB_iff _ _).2 (hlive r k hi)
            rw [hm] at this; cases this
          exact ⟨b', by show (match Nat.beq k i with | true => some b | false => hget r i) = _; rw [beq_no hne]; exact hb'⟩
      | none =>
        unfold liveK at hi
        obtain ⟨b', hb'⟩ := ih hn hi
        have hne : ¬ k = i := fun e => by
          subst e
          have : memB (r.map (·.1)) k = true := (memB_iff _ _).2 (hlive r k hi)
          rw [hm] at this; cases this
        exact ⟨b', by show (match Nat.beq k i with | true => none | false => hget r i) = _; rw [beq_no hne]; exact hb'⟩

theorem liveK_keys {u : List (Nat × Option Blk)} {i : Nat} (hi : i ∈ liveK u) : i ∈ keys u := by
  induction u with
  | nil => cases hi
  | cons y r ih =>
    obtain ⟨k', v'⟩ := y
    unfold liveK at hi
    unfold keys
    cases v' with
    | some b => rcases List.mem_cons.1 hi with rfl | hi; simp; exact List.mem_cons_of_mem _ (ih hi)
    | none => exact List.mem_cons_of_mem _ (ih hi)

def mkC (P : Program) (fn : Func) (ρ : IdMap) (F : FSet) (w : World) (T : List Nat) (u : List (Nat × Option Blk)) (h : Heap) (v : AV) : Ctx where
  P := P
  fn := fn
  R := fun e w' => ∃ x ρ' F', e = .returned x ∧ Post ρ F w T u h v x ρ' F' w'
  w0 := w
  F0 := F
  O := OSet ρ (keys u)
  ρ0 := fun i => if i ∈ T then ρ i else none

theorem end_ok {fn : Func} {ρ : IdMap} {F : FSet} {w : World} {T : List Nat} {u : List (Nat × Option Blk)} {h : Heap} {v : AV} (hpre : Pre ρ F w T u h) {ρe : IdMap} {Fe : FSet} {st : AS} {a : Act} {w' : World}
    (hc : Conc (mkC P fn ρ F w T u h v) ρe Fe st a w') {S : List Nat} {σ : Nat → Nat} (he : EndOk P fn.results.toList st v T u S σ) :
    a.defers = [] ∧ ∃ x, (results fn a.tmps).run P w' = .ok x w' ∧ ∃ y ρ' F', Ending.returned x = .returned y ∧ Post ρ F w T u h v y ρ' F' w' := by
  obtain ⟨vs, hvs, hv⟩ := he.res
  obtain ⟨x, hx, hr⟩ := results_run (P := P) hc hvs
  refine ⟨hc.defers, x, hx, x, fun i => if i ∈ liveK u then ρe (σ i) else ρ i, unionS Fe ρe S, rfl, ?_⟩
  have hH := hc.heap.restr S
  have hρ : ∀ i b, ρe (σ i) = some b → (if i ∈ liveK u then ρe (σ i) else ρ i) = some b := by
    intro i b hb
    by_cases hi : i ∈ liveK u
    · rw [if_pos hi]; exact hb
    · rw [hc.fresh _ (he.sigN i hi)] at hb; cases hb
  have hnew : ∀ i, i ∈ liveK u → i ∉ T → ρ i = none := fun i hi hT => hpre.fresh i (liveK_keys hi) hT
  have hOlt : ∀ b, OSet ρe S b → b < w'.heap.size ∧ (w.heap.size ≤ b ∨ OSet ρ (keys u) b) := by
    rintro b ⟨i, hi, hb⟩
    have hl := liveS_get he.live hi
    refine ⟨?_, hc.own i b hl hb⟩
    obtain ⟨k, hk⟩ := Option.ne_none_iff_exists'.1 hl
    rcases hc.heap.ok i k hk with ⟨_, h0⟩ | ⟨b2, hb2, ho⟩
    · rw [h0] at hb; cases hb
    · rw [hb] at hb2; cases hb2
      exact ho.lt
  have hblk : ∀ i b', restr (T ++ keys u) (updH u h) i = some b' → i ∈ liveK u ∧ σ i ∉ S ∧ ∃ b, hget st.hp (σ i) = some b ∧ b'.t = b.t ∧ viewAs (hget st.hp) S σ b'.cs b.cs := by
    intro i b' hb'
    obtain ⟨hm, hb'⟩ := restr_some hb'
    have hk : i ∈ keys u := by
      rcases List.mem_append.1 hm with h1 | h1
      · exact (he.sigT i h1).2
      · exact h1
    simp only [updH, if_pos hk] at hb'
    have hm := hget_some hb'
    obtain ⟨h1, h2⟩ := subHp_get he.blocks hm
    refine ⟨liveK_mem hm, h1, ?_⟩
    unfold subBlk at h2
    split at h2
    · rename_i b hb; exact ⟨b, hb, h2.1, h2.2⟩
    · exact h2.elim
  refine ⟨fun i b hb => ?_, fun i h1 h2 => ?_, fun i b h1 h2 => ?_, viewA_rd hH hρ _ _ _ hv hr, ⟨fun i k hk => ?_, fun i j b hi hj h1 h2 => ?_⟩, ?_, ?_⟩
  · by_cases hi : i ∈ liveK u
    · rw [if_pos hi]
      have hT : i ∈ T := by
        by_cases hT : i ∈ T
        · exact hT
        · rw [hnew i hi hT] at hb; cases hb
      rw [(he.sigT i hT).1 hi]
      exact hc.keep i b (by simp [mkC, hT, hb])
    · rw [if_neg hi]; exact hb
  · by_cases hi : i ∈ liveK u
    · exact liveK_keys hi
    · rw [if_neg hi] at h2; exact absurd h1 h2
  · by_cases hi : i ∈ liveK u
    · rw [if_pos hi] at h2
      obtain ⟨b', hb'⟩ := hget_mem he.nd hi
      have hm := hget_some hb'
      obtain ⟨_, hs⟩ := subHp_get he.blocks hm
      have hl : hget st.hp (σ i) ≠ none := by intro e; rw [e] at hs; exact hs
      exact hc.own (σ i) b hl h2
    · rw [if_neg hi, h1] at h2; cases h2
  · obtain ⟨hlk, hS, b, hb, ht, hvv⟩ := hblk i k hk
    rcases hc.heap.ok (σ i) b hb with ⟨h1, h0⟩ | ⟨bb, hbb, ho⟩
    · rw [h1] at hvv
      refine .inl ⟨?_, by rw [if_pos hlk]; exact h0⟩
      cases hcs : k.cs with
      | nil => rfl
      | cons x r => rw [hcs] at hvv; simp [viewAs] at hvv
    · refine .inr ⟨bb, by rw [if_pos hlk]; exact hbb, ho.view (fun hF => ?_) ht (viewAs_len hvv) (fun _ h => .inl h) (fun f hf => viewAs_rd hH hρ k.cs b.cs f hvv hf)⟩
      rcases hF with hF | ⟨j, hj, hjb⟩
      · exact ho.own hF
      · have := hc.heap.inj j (σ i) bb (liveS_get he.live hj) (by rw [hb]; simp) hjb hbb
        exact hS (this ▸ hj)
  · obtain ⟨ki, hki⟩ := Option.ne_none_iff_exists'.1 hi
    obtain ⟨kj, hkj⟩ := Option.ne_none_iff_exists'.1 hj
    obtain ⟨hli, _, bi, hbi, _⟩ := hblk i ki hki
    obtain ⟨hlj, _, bj, hbj, _⟩ := hblk j kj hkj
    rw [if_pos hli] at h1
    rw [if_pos hlj] at h2
    exact nodup_inj he.nd' hli hlj (hc.heap.inj (σ i) (σ j) b (by rw [hbi]; simp) (by rw [hbj]; simp) h1 h2)
  · rintro b (hb | hb)
    · exact hc.fok b hb
    · exact (hOlt b hb).1
  · exact ⟨hc.chg.os, hc.chg.tape, hc.chg.output, hc.chg.size, hc.chg.same, hc.chg.cells, fun b hb => .inl (hc.chg.sub b hb), fun b hb => by
      rcases hb with hb | hb
      · exact hc.chg.new b hb
      · exact .inr (hOlt b hb).2⟩

/-- what a walk may use of its context: the end is reached where the results read as v -/
def Fin (c : Ctx) (rs : List ResultVar) (v : AV) (T : List Nat) (u : List (Nat × Option Blk)) : Prop :=
  ∀ k st S σ, EndOk c.P rs st v T u S σ → SAW c (.code .ret :: k) st ∧ SAW c [] st

def argS : Nat → List AV → List (Nat × AV)
  | _, [] => []
  | i, v :: r => (i, v) :: argS (i + 1) r

theorem argS_get : ∀ (vs : List AV) (i s : Nat), lk (argS i vs) s = if i ≤ s then (vs[s - i]?).getD .any else .any := by
  intro vs
  induction vs with
  | nil => intro i s; simp [argS, lk]
  | cons v r ih =>
    intro i s
    simp only [argS, lk_cons, ih]
    by_cases h : i = s
    · subst h; simp
    · by_cases h2 : i ≤ s
      · rw [if_neg h, if_pos (by omega), if_pos h2]
        obtain ⟨q, rfl⟩ : ∃ q, s = i + 1 + q := ⟨s - (i + 1), by omega⟩
        rw [show i + 1 + q - (i + 1) = q by omega, show i + 1 + q - i = q + 1 by omega]
        simp
      · rw [if_neg h, if_neg (by omega), if_neg h2]

/-! the ids inside a value -/
mutual
def idsA (T : List Nat) : AV → Prop
  | .p _ => True
  | .ptr i _ => i ∈ T
  | .sl i _ _ _ => i ∈ T
  | .cp _ => True
  | .agg as => idsL T as
  | .tup as => idsL T as
  | .iface _ a => idsA T a
  | .fn _ as bs => idsL T as ∧ idsL T bs
  | .mp i => i ∈ T
  | .any => True
def idsL (T : List Nat) : List AV → Prop
  | [] => True
  | a :: as => idsA T a ∧ idsL T as
end
theorem idsL_map (T : List Nat) : ∀ cs : List PV, idsL T (cs.map .p)
  | [] => trivial
  | c :: cs => ⟨trivial, idsL_map T cs⟩
def idsH (T : List Nat) : List (Nat × Option Blk) → Prop
  | [] => True
  | (_, b) :: r => (match b with
    | some b => idsL T b.cs
    | none => True) ∧ idsH T r

theorem idsL_get {T : List Nat} : ∀ {as : List AV} {j : Nat} {a : AV}, idsL T as → as[j]? = some a → idsA T a
  | [], j, a, _, h => by simp at h
  | x :: xs, 0, a, hi, h => by simp at h; subst h; exact hi.1
  | x :: xs, j + 1, a, hi, h => idsL_get hi.2 (by simpa using h)

theorem ids_rd {T : List Nat} {ρ ρ' : IdMap} {F : FSet} {w : World} (he : ∀ i, i ∈ T → ρ' i = ρ i) {x : AV} {u : Value} (h : Rd ρ F w x u) : idsA T x → Rd ρ' F w x u := by
  induction h with
  | p x u h => intro _; exact .p _ _ h
  | ptr id off b h => intro hi; exact .ptr _ _ _ (by rw [he id hi]; exact h)
  | sl id off len s b cap h hcap hc => intro hi; exact .sl _ _ _ _ _ _ (by rw [he id hi]; exact h) hcap hc
  | slz id off s A => intro _; exact .slz _ _ _ _
  | cp cs b off f hF hc h1 hr => intro _; exact .cp _ _ _ f hF hc h1 hr
  | agg cs us hl _ ih => intro hi; exact .agg _ _ hl (fun j c hj => ih j c hj (idsL_get hi hj))
  | tup cs us hl _ ih => intro hi; exact .tup _ _ hl (fun j c hj => ih j c hj (idsL_get hi hj))
  | iface t x u _ ih => intro hi; exact .iface _ _ _ (ih hi)
  | fn f as bs us vs hl _ hl' _ ih ih' => intro hi; exact .fn _ _ _ _ _ hl (fun j c hj => ih j c hj (idsL_get hi.1 hj)) hl' (fun j c hj => ih' j c hj (idsL_get hi.2 hj))
  | mp id b h hm => intro hi; exact .mp _ _ (by rw [he id hi]; exact h) hm
  | any u => intro _; exact .any _

theorem idsH_get {T : List Nat} {hp : List (Nat × Option Blk)} (h : idsH T hp) {i : Nat} {b : Blk} (hm : (i, some b) ∈ hp) : idsL T b.cs := by
  induction hp with
  | nil => cases hm
  | cons x r ih =>
    obtain ⟨k, v⟩ := x
    rcases List.mem_cons.1 hm with h1 | h1
    · cases h1; exact h.1
    · exact ih h.2 h1

theorem callFunc_run {f : FuncId} {fn : Func} {code : Code} (hf : P.funcs[f]? = some fn) (hb : fn.body = some code) (hn : (fn.name == "runtime.NumGoroutine") = false) (us : Array Value) (w : World) : (callFunc f us).run P w = .ok (.enter f us) w := by
  simp only [callFunc, Sem.run_bind, run_program, Result.andThen_ok, hf]
  simp [hn, hb]

theorem fcall_of {f : FuncId} {fn : Func} {code : Code} {vs : List AV} {v : AV} {T : List Nat} {u : List (Nat × Option Blk)} {h : Heap} {hp0 : List (Nat × Option Blk)} {nx0 n : Nat}
    (hf : P.funcs[f]? = some fn) (hb : fn.body = some code) (hname : (fn.name == "runtime.NumGoroutine") = false) (hn : fn.ntmps = n) (hlen : vs.length ≤ n)
    (hh : hget hp0 = restr T h) (hnx : ∀ i, i ∈ T → i < nx0)
    (hargs : idsL T vs) (hids : idsH T hp0)
    (hT : ∀ i, i ∈ T → i ∈ keys u)
    (haw : ∀ c : Ctx, c.P = P → (∀ i, c.ρ0 i ≠ none → i ∈ T) → Fin c fn.results.toList v T u → SAW c [.code code] ⟨n, argS 0 vs, hp0, nx0⟩) : FCall P f vs h v T u where
  tri ρ F us w hpre hz hr := by
    refine .inl ⟨callFunc_run hf hb hname us w, Calls.mono (R := fun e w' => ∃ x ρ' F', e = .returned x ∧ Post ρ F w T u h v x ρ' F' w') ?_ (fun e w' ⟨x, ρ', F', he, hp⟩ => ⟨x, he, ρ', F', hp⟩)⟩
    refine calls_of_wp hf hb ?_
    have hfin : Fin (mkC P fn ρ F w T u h v) fn.results.toList v T u := by
      intro k st S σ he
      have key : ∀ ρe Fe a w', Conc (mkC P fn ρ F w T u h v) ρe Fe st a w' → bodyPost P fn (mkC P fn ρ F w T u h v).R .ret a w' ∧ bodyPost P fn (mkC P fn ρ F w T u h v).R .normal a w' := by
        intro ρe Fe a w' hc
        have := end_ok hpre hc he
        exact ⟨this, this⟩
      refine ⟨fun ρe Fe a w' hc => wp_ret ?_, fun ρe Fe a w' hc => (key ρe Fe a w' hc).2⟩
      rw [Wk_ret]
      exact (key ρe Fe a w' hc).1
    have hsaw := haw (mkC P fn ρ F w T u h v) rfl (fun i hi => by simp only [mkC] at hi; by_cases hT : i ∈ T; exact hT; simp [hT] at hi) hfin
    have hc0 : Conc (mkC P fn ρ F w T u h v) (fun i => if i ∈ T then ρ i else none) F ⟨n, argS 0 vs, hp0, nx0⟩ { tmps := us ++ Array.replicate (fn.ntmps - us.size) undef, defers := [] } w := by
      have hρT : ∀ i, i ∈ T → (fun i => if i ∈ T then ρ i else none) i = ρ i := fun i hi => by simp [hi]
      have hmono : ∀ i b, (if i ∈ T then ρ i else none) = some b → ρ i = some b := fun i b hb => by
        by_cases hi : i ∈ T
        · simpa [hi] using hb
        · simp [hi] at hb
      refine ⟨rfl, by simp; omega, fun s => ?_, ?_, fun i hi => ?_, hpre.fok, Chg.refl _ _ _, fun i hi => ?_, fun i b hi hb => ?_, fun i b hb => hb, hpre.glob⟩
      · simp only [argS_get, Nat.zero_le, if_true, Nat.sub_zero]
        cases hs : vs[s]? with
        | none => exact .any _
        | some x =>
          have hslt : s < us.size := by rw [hz]; exact (List.getElem?_eq_some_iff.1 hs).1
          have e : (us ++ Array.replicate (fn.ntmps - us.size) undef).getD s undef = us.getD s undef := by simp [getD_of, Array.getElem?_append, hslt]
          simp only [Option.getD_some]
          rw [e]
          exact ids_rd hρT (hr s x hs) (idsL_get hargs hs)
      · refine ⟨fun i k hk => ?_, fun i j b hi hj h1 h2 => ?_⟩
        · have hids' := idsH_get hids (hget_some hk)
          rw [hh] at hk
          have hiT := (restr_some hk).1
          rcases hpre.hp.ok i k hk with ⟨h1, h0⟩ | ⟨b, hb, ho⟩
          · exact .inl ⟨h1, by simp [hiT, h0]⟩
          · exact .inr ⟨b, by simp [hiT, hb], ho.view ho.own rfl rfl (fun _ h => h) (fun f hf j c hj => ids_rd hρT (hf j c hj) (idsL_get hids' hj))⟩
        · rw [hh] at hi hj
          exact hpre.hp.inj i j b hi hj (hmono i b h1) (hmono j b h2)
      · by_cases hiT : i ∈ T
        · have := hnx i hiT
          have hi' : nx0 ≤ i := hi
          omega
        · simp [hiT]
      · rw [hh] at hi
        obtain ⟨k, hk⟩ := Option.ne_none_iff_exists'.1 hi
        exact hnx i (restr_some hk).1
      · rw [hh] at hi
        obtain ⟨k, hk⟩ := Option.ne_none_iff_exists'.1 hi
        have hiT := (restr_some hk).1
        exact .inr ⟨i, hT i hiT, hmono i b hb⟩
    exact hsaw _ _ _ _ hc0

end Go.Abs

namespace Go.Abs
set_option linter.unusedSimpArgs false
set_option linter.unusedVariables false
open Go Go.RowKit
variable {P : Program}

/-- called with vs (no owned block inside) the function returns v and touches no block that was there -/
def FPure (P : Program) (f : FuncId) (vs : List AV) (v : AV) : Prop := ∀ h, FCall P f vs h v [] []

def EndP (P : Program) (rs : List ResultVar) (st : AS) (v : AV) : Prop :=
  ∃ S, liveS st.hp S ∧ ∃ vs, resVs P st rs = some vs ∧ viewA (hget st.hp) S (fun _ => st.nx) v (retV vs)

theorem fpure_of {f : FuncId} {fn : Func} {code : Code} {vs : List AV} {v : AV} {n : Nat} (hf : P.funcs[f]? = some fn) (hb : fn.body = some code) (hname : (fn.name == "runtime.NumGoroutine") = false) (hn : fn.ntmps = n)
    (hlen : vs.length ≤ n) (hargs : idsL [] vs)
    (haw : ∀ c : Ctx, c.P = P → (∀ i, c.ρ0 i ≠ none → False) → (∀ k st, EndP P fn.results.toList st v → SAW c (.code .ret :: k) st ∧ SAW c [] st) → SAW c [.code code] ⟨n, argS 0 vs, [], 0⟩) : FPure P f vs v := by
  intro h
  refine fcall_of hf hb hname hn hlen (hp0 := []) (nx0 := 0) (by funext i; simp [hget, restr]) (fun i hi => by cases hi) hargs trivial (fun i hi => by cases hi) ?_
  intro c hP h0 hfin
  refine haw c hP (fun i hi => by have := h0 i hi; cases this) (fun k st he => ?_)
  obtain ⟨S, hl, vs', hv, hvv⟩ := he
  exact hfin k st S (fun _ => st.nx) ⟨⟨vs', by rw [hP]; exact hv, hvv⟩, trivial, rfl, rfl, hl, fun i hi => (by cases hi), fun i _ => Nat.le_refl _⟩

theorem aw_callP {c : Ctx} {ks : List Nat} {n : Nat} {f : FuncId} {vs : List AV} {o : Oper} {all : Array Oper} {os : List Oper} {k : List It} {st : AS} {v : AV} (hf : FPure c.P f vs v) (h : AW c ks n (.ops all os :: k) (put st o.dst v)) :
    CallG c f vs o all os k st := by
  intro hc ρ F a w hcc
  have hok := call_ok (nx := st.nx) hc (hf (hget st.hp)) (Nat.le_refl _) (fun i hi => by simp [keys] at hi) (fun i hi => by cases hi)
  exact step_ok hok hcc _ _ (fun ρ' F' a' w' hc' => AW_sound c ks n _ _ h ρ' F' a' w' hc')

/-! freezing, as a step of its own -/
theorem lk_app (l sl : List (Nat × AV)) (s : Nat) : (∃ b, (s, b) ∈ l ∧ lk (l ++ sl) s = b) ∨ lk (l ++ sl) s = lk sl s := by
  induction l with
  | nil => exact .inr rfl
  | cons x r ih =>
    obtain ⟨k, v⟩ := x
    simp only [List.cons_append, lk_cons]
    by_cases h : k = s
    · subst h; rw [if_pos rfl]; exact .inl ⟨v, by simp, rfl⟩
    · rw [if_neg h]
      rcases ih with ⟨b, hm, hb⟩ | hb
      · exact .inl ⟨b, List.mem_cons_of_mem _ hm, hb⟩
      · exact .inr hb

theorem hget_del (S : List Nat) (hp : List (Nat × Option Blk)) (i : Nat) : hget (delL S ++ hp) i = if i ∈ S then none else hget hp i := by
  induction S with
  | nil => simp [delL]
  | cons k r ih =>
    simp only [delL, List.cons_append]
    show (match Nat.beq k i with | true => none | false => hget (delL r ++ hp) i) = _
    by_cases h : k = i
    · subst h; simp
    · have h' : ¬ i = k := fun e => h e.symm
      rw [beq_no h, ih]; simp [h']

theorem viewR_get {h : Heap} {S : List Nat} {sl : List (Nat × AV)} {reps : List (Nat × AV)} (hv : viewR h S sl reps) {s : Nat} {b : AV} (hm : (s, b) ∈ reps) : viewA h S (fun i => i) b (lk sl s) := by
  induction reps with
  | nil => cases hm
  | cons x r ih =>
    obtain ⟨k, y⟩ := x
    rcases List.mem_cons.1 hm with h1 | h1
    · cases h1; exact hv.1
    · exact ih hv.2 h1

theorem frz_conc {S : List Nat} {reps : List (Nat × AV)} {st : AS} (hl : liveS st.hp S) (hv : viewR (hget st.hp) S st.sl reps) {c : Ctx} {ρ : IdMap} {F : FSet} {a : Act} {w : World} (h : Conc c ρ F st a w) :
    Conc c ρ (unionS F ρ S) (frz S reps st) a w := by
  have hH := h.heap.restr S
  have hOlt : ∀ b, OSet ρ S b → b < w.heap.size ∧ (c.w0.heap.size ≤ b ∨ c.O b) := by
    rintro b ⟨i, hi, hb⟩
    have hl := liveS_get hl hi
    refine ⟨?_, h.own i b hl hb⟩
    obtain ⟨k, hk⟩ := Option.ne_none_iff_exists'.1 hl
    rcases h.heap.ok i k hk with ⟨_, h0⟩ | ⟨b2, hb2, ho⟩
    · rw [h0] at hb; cases hb
    · rw [hb] at hb2; cases hb2
      exact ho.lt
  have hsub : ∀ i, hget (frz S reps st).hp i ≠ none → i ∉ S ∧ hget st.hp i ≠ none := by
    intro i hi
    simp only [frz, hget_del] at hi
    by_cases hS : i ∈ S
    · simp [hS] at hi
    · exact ⟨hS, by simpa [hS] using hi⟩
  have hmono : ∀ {x : AV} {u : Value}, Rd ρ F w x u → Rd ρ (unionS F ρ S) w x u := fun hr => hr.mono (fun _ _ h => h) (fun _ h => .inl h) (fun _ _ => rfl) ⟨fun _ _ h => h, fun _ h => h⟩
  refine ⟨h.defers, h.size, fun s => ?_, ⟨fun i k hk => ?_, fun i j b hi hj h1 h2 => h.heap.inj i j b (hsub i hi).2 (hsub j hj).2 h1 h2⟩, h.fresh, ?_, ?_, fun i hi => h.dom i (hsub i hi).2, fun i b hi hb => h.own i b (hsub i hi).2 hb, h.keep, h.glob.mono (fun _ h => .inl h) (fun _ _ => rfl)⟩
  · rcases lk_app reps st.sl s with ⟨b, hm, hb⟩ | hb
    · simp only [frz]
      rw [hb]
      exact viewA_rd hH (fun _ _ h => h) _ _ _ (viewR_get hv hm) (h.slots s)
    · simp only [frz]
      rw [hb]
      exact hmono (h.slots s)
  · have hne : hget (frz S reps st).hp i ≠ none := by rw [hk]; simp
    obtain ⟨hS, hl'⟩ := hsub i hne
    have hk' : hget st.hp i = some k := by
      simp only [frz, hget_del, if_neg hS] at hk
      exact hk
    rcases h.heap.ok i k hk' with h1 | ⟨b, hb, ho⟩
    · exact .inl h1
    · refine .inr ⟨b, hb, ho.view (fun hF => ?_) rfl rfl (fun _ h => .inl h) (fun f hf j c hj => hmono (hf j c hj))⟩
      rcases hF with hF | ⟨j, hj, hjb⟩
      · exact ho.own hF
      · have := h.heap.inj j i b (liveS_get hl hj) hl' hjb hb
        exact hS (this ▸ hj)
  · rintro b (hb | hb)
    · exact h.fok b hb
    · exact (hOlt b hb).1
  · exact ⟨h.chg.os, h.chg.tape, h.chg.output, h.chg.size, h.chg.same, h.chg.cells, fun b hb => .inl (h.chg.sub b hb), fun b hb => by
      rcases hb with hb | hb
      · exact h.chg.new b hb
      · exact .inr (hOlt b hb).2⟩

theorem saw_frz {c : Ctx} {k : List It} {st : AS} (S : List Nat) (reps : List (Nat × AV)) (hl : liveS st.hp S) (hv : viewR (hget st.hp) S st.sl reps) (h : SAW c k (frz S reps st)) : SAW c k st :=
  fun _ _ a w hc => h _ _ a w (frz_conc hl hv hc)

/-- at a call: some slots are frozen first -/
theorem aw_frz {c : Ctx} {ks : List Nat} {n : Nat} {f : FuncId} {vs : List AV} {o : Oper} {all : Array Oper} {os : List Oper} {k : List It} {st : AS} (S : List Nat) (reps : List (Nat × AV)) (hl : liveS st.hp S) (hv : viewR (hget st.hp) S st.sl reps)
    (h : resA c (AW c ks n) o all os k (frz S reps st) (aop c.P o.op (frz S reps st))) : CallG c f vs o all os k st := by
  intro _ ρ F a w hc
  exact resA_sound (AW_sound c ks n) h ρ _ a w (frz_conc hl hv hc)

/-- an empty block more: nil can be seen as a slice of it -/
theorem saw_new {c : Ctx} {k : List It} {n : Nat} {sl : List (Nat × AV)} {hp : List (Nat × Option Blk)} {nx : Nat} (t : TypeId) (h : SAW c k ⟨n, sl, (nx, some ⟨t, []⟩) :: hp, nx + 1⟩) : SAW c k ⟨n, sl, hp, nx⟩ := by
  intro ρ F a w hc
  have hn : ρ nx = none := hc.fresh nx (Nat.le_refl _)
  have hg : ∀ i, hget ((nx, some ⟨t, []⟩) :: hp) i = if nx = i then some ⟨t, []⟩ else hget hp i := by
    intro i
    show (match Nat.beq nx i with | true => _ | false => hget hp i) = _
    by_cases h : nx = i
    · subst h; simp
    · rw [beq_no h, if_neg h]
  have hof : ∀ i, hget ((nx, some ⟨t, []⟩) :: hp) i ≠ none → ρ i ≠ none → hget hp i ≠ none := by
    intro i hi hr
    rw [hg] at hi
    by_cases h : nx = i
    · subst h; exact absurd hn hr
    · rwa [if_neg h] at hi
  refine h ρ F a w ⟨hc.defers, hc.size, hc.slots, ⟨fun i k hk => ?_, fun i j b hi hj h1 h2 => hc.heap.inj i j b (hof i hi (by rw [h1]; simp)) (hof j hj (by rw [h2]; simp)) h1 h2⟩, fun i hi => hc.fresh i (by simp at hi; show nx ≤ i; omega), hc.fok, hc.chg, fun i hi => ?_, fun i b hi hb => hc.own i b (hof i hi (by rw [hb]; simp)) hb, hc.keep, hc.glob⟩
  · simp only [hg] at hk
    by_cases h : nx = i
    · subst h
      rw [if_pos rfl] at hk
      cases hk
      exact .inl ⟨rfl, hn⟩
    · rw [if_neg h] at hk
      exact hc.heap.ok i k hk
  · simp only [hg] at hi
    by_cases h : nx = i
    · subst h; exact Nat.lt_succ_self _
    · rw [if_neg h] at hi
      exact Nat.lt_succ_of_lt (hc.dom i hi)

end Go.Abs

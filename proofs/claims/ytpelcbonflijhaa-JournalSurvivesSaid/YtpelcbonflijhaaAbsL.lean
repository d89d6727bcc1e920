/-
  Calls by contract; the machine that walks a body; that it is sound. Own work; no statement of the seat is proved here.
-/
import Derived.Test.YtpelcbonflijhaaAbsK
namespace Go.Abs
set_option linter.unusedSimpArgs false
set_option linter.unusedVariables false
open Go Go.RowKit
variable {P : Program}

def CallIs (P : Program) (o : Oper) (st : AS) (f : FuncId) (vs : List AV) : Prop :=
  ∀ (ρ : IdMap) (F : FSet) (a : Act) (w : World), (∀ x, x ∈ o.op.operands.toList → Rd ρ F w (ev st x) (a.eval x)) →
    ∃ us : Array Value, us.size = vs.length ∧ (∀ j c, vs[j]? = some c → Rd ρ F w c (us.getD j undef)) ∧ (execOp a.eval o).run P w = (callFunc f us).run P w

theorem rd_append {ρ : IdMap} {F : FSet} {w : World} {us vs : Array Value} {xs ys : List AV} (h1 : us.size = xs.length) (h2 : vs.size = ys.length)
    (hx : ∀ j c, xs[j]? = some c → Rd ρ F w c (us.getD j undef)) (hy : ∀ j c, ys[j]? = some c → Rd ρ F w c (vs.getD j undef)) :
    (us ++ vs).size = (xs ++ ys).length ∧ ∀ j c, (xs ++ ys)[j]? = some c → Rd ρ F w c ((us ++ vs).getD j undef) := by
  refine ⟨by simp [h1, h2], fun j c hj => ?_⟩
  rw [List.getElem?_append] at hj
  split at hj
  · rename_i hlt
    have : (us ++ vs).getD j undef = us.getD j undef := by simp [getD_of, Array.getElem?_append, h1, hlt]
    rw [this]; exact hx j c hj
  · rename_i hlt
    have : (us ++ vs).getD j undef = vs.getD (j - xs.length) undef := by simp [getD_of, Array.getElem?_append, h1, hlt]
    rw [this]; exact hy _ c hj

theorem methF_run {t : TypeId} {name : String} {f : FuncId} (h : methF P t name = some f) (v : Value) (w : World) : ∀ fuel, (method (fuel + 1) t v name).run P w = .ok (f, v) w := by
  intro fuel
  unfold methF at h
  split at h
  · rename_i i d hi hd
    split at h
    · rename_i m hm
      have hme : (typeInfo t).run P w = .ok i w := by simp [typeInfo, hi]
      split at h
      · rename_i f' hp hf hk
        injection h with h; subst h
        have hpe : m.path = #[] := by simpa using arr_of hp
        have hu : ∃ e, d = .pointer e := by cases d <;> first | exact ⟨_, rfl⟩ | cases hk
        obtain ⟨e, rfl⟩ := hu
        simp [method, hme, hm, hpe, hf, follow, receiverAt, run_underlying hd, Place.get]
      · cases h
      · rename_i f' hp hf hne
        injection h with h; subst h
        have hpe : m.path = #[] := by simpa using arr_of hp
        simp only [method, Sem.run_bind, hme, Result.andThen_ok, hm, hpe, List.toList_toArray, follow, Sem.run_pure, hf, receiverAt, run_underlying hd]
        cases d <;> first | (exact absurd rfl hne) | (simp [Place.get])
      · cases h
    · cases h
  · cases h

theorem aop_call {o : Oper} {st : AS} {f : FuncId} {vs : List AV} (h : aop P o.op st = .call f vs) : CallIs P o st f vs := by
  cases ho : o.op with
  | call c =>
    obtain ⟨callee, args, tys⟩ := c
    rw [ho] at h
    simp only [aop] at h
    cases callee with
    | builtin b =>
      exfalso
      simp only [callR] at h
      unfold callB at h
      repeat' split at h
      all_goals first | (cases h; done) | skip
      all_goals first
        | (unfold lenR at h; repeat' split at h) 
        | (unfold max2R at h; repeat' split at h)
        | (unfold min2R at h; repeat' split at h)
        | (unfold appendR at h; repeat' split at h)
        | (unfold appZR at h; repeat' split at h)
        | (unfold capR at h; repeat' split at h)
      all_goals cases h
    | value g =>
      simp only [callR] at h
      intro ρ F a w hin
      have hg := hin g (by simp [ho, Op.operands, Call.operands])
      obtain ⟨l1, r1⟩ := rd_evs (xs := args) (st := st) (a := a) (ρ := ρ) (F := F) (w := w) (fun x hx => hin x (by simp [ho, Op.operands, Call.operands, hx]))
      unfold callV at h
      split at h
      · rename_i fi as bs hx
        split at h
        · rename_i ha hb
          injection h with h1 h2; subst h1 h2
          rw [hx] at hg
          have ha' : as = #[] := Array.eq_empty_of_size_eq_zero (Nat.eq_of_beq_eq_true ha)
          have hb' : bs = #[] := Array.eq_empty_of_size_eq_zero (Nat.eq_of_beq_eq_true hb)
          subst ha' hb'
          refine ⟨_, l1, r1, ?_⟩
          simp only [execOp, ho, resolve, hg.pv, Deferred.ofValue, Sem.run_bind, Sem.run_pure, Result.andThen_ok, invoke]
          simp
        · cases h
      · rename_i fi as bs hx
        injection h with h1 h2; subst h1 h2
        rw [hx] at hg
        generalize hv : a.eval g = v at hg
        cases hg with
        | fn _ _ _ us vs hl hr hl' hr' =>
          obtain ⟨l2, r2⟩ := rd_append hl l1 hr r1
          obtain ⟨l3, r3⟩ := rd_append l2 hl' r2 hr'
          refine ⟨_, l3, r3, ?_⟩
          simp only [execOp, ho, resolve, hv, Deferred.ofValue, Sem.run_bind, Sem.run_pure, Result.andThen_ok, invoke]
      · cases h
    | invoke r m =>
      simp only [callR] at h
      intro ρ F a w hin
      have hg := hin r (by simp [ho, Op.operands, Call.operands])
      obtain ⟨l1, r1⟩ := rd_evs (xs := args) (st := st) (a := a) (ρ := ρ) (F := F) (w := w) (fun x hx => hin x (by simp [ho, Op.operands, Call.operands, hx]))
      have fin : ∀ (t : TypeId) (x : AV) (u : Value), a.eval r = .iface t u → Rd ρ F w x u → (∃ f', methF P t m = some f' ∧ f' = f) → vs = x :: evs st args.toList →
          ∃ us : Array Value, us.size = vs.length ∧ (∀ j c, vs[j]? = some c → Rd ρ F w c (us.getD j undef)) ∧ (execOp a.eval o).run P w = (callFunc f us).run P w := by
        intro t x u hv hr ⟨f', hm, hff⟩ hvs
        subst hff hvs
        obtain ⟨l2, r2⟩ := rd_append (us := #[u]) (xs := [x]) rfl l1 (fun j c hj => by
          cases j with
          | zero => simp at hj; subst hj; simpa using hr
          | succ j => simp at hj) r1
        refine ⟨#[u] ++ args.map a.eval, l2, r2, ?_⟩
        have hmr := methF_run (P := P) hm u w (P.types.size + Made.depth - 1)
        have hpos : P.types.size + Made.depth - 1 + 1 = P.types.size + Made.depth := by
          have : 0 < Made.depth := by decide
          omega
        rw [hpos] at hmr
        simp only [execOp, ho, resolve, hv, Sem.run_bind, Sem.run_pure, Result.andThen_ok, invoke]
        have e0 : (#[Value.iface t u] ++ args.map a.eval)[0]? = some (.iface t u) := by rw [Array.getElem?_append_left (by simp)]; rfl
        have e1 : (#[Value.iface t u] ++ args.map a.eval).extract 1 (#[Value.iface t u] ++ args.map a.eval).size = args.map a.eval := by
          apply Array.ext'
          simp
          exact List.take_of_length_le (by simp)
        simp only [e0, e1, callMethod, Sem.run_bind, run_program, Result.andThen_ok, hmr]
      unfold invokeR at h
      split at h
      · rename_i t x hx
        unfold invK at h
        split at h
        · rename_i f' hm
          injection h with h1 h2
          rw [hx] at hg
          generalize hv : a.eval r = v at hg
          cases hg with
          | iface _ _ u hu => exact fin t x u hv hu ⟨f', hm, h1⟩ h2.symm
        · cases h
      · rename_i t x hx
        unfold invK at h
        split at h
        · rename_i f' hm
          injection h with h1 h2
          rw [hx] at hg
          generalize hv : a.eval r = v at hg
          cases hg with
          | p _ _ hu =>
            cases hu with
            | iface _ _ u hu => exact fin t (unI x) u hv (unI_rd hu) ⟨f', hm, h1⟩ h2.symm
        · cases h
      · cases h
  | pick c a b => exfalso; rw [ho] at h; simp only [aop] at h; unfold pickR at h; split at h <;> simp [R.pure] at h
  | alloc t => exfalso; rw [ho] at h; simp only [aop] at h; unfold allocR at h; (repeat' split at h) <;> cases h
  | box t x => exfalso; rw [ho] at h; simp only [aop] at h; unfold boxR at h; (repeat' split at h) <;> cases h
  | build t parts => exfalso; rw [ho] at h; simp only [aop] at h; unfold buildR at h; (repeat' split at h) <;> simp [R.pure] at h
  | buildSlice t l parts => exfalso; rw [ho] at h; simp only [aop] at h; unfold sliceLitR at h; (repeat' split at h) <;> cases h
  | load t x => exfalso; rw [ho] at h; simp only [aop] at h; unfold loadR at h; split at h <;> first | (unfold loadB at h; (repeat' split at h) <;> cases h) | ((repeat' split at h) <;> simp [R.pureS] at h) | cases h
  | store t x y => exfalso; rw [ho] at h; simp only [aop] at h; unfold storeR at h; split at h <;> first | (unfold storeB at h; (repeat' split at h) <;> cases h) | cases h
  | nilCheck x => exfalso; rw [ho] at h; simp only [aop] at h; unfold nilR at h; split at h <;> simp [R.pure] at h
  | binOp op t x y t' =>
    exfalso; rw [ho] at h; simp only [aop] at h; unfold binR at h
    split at h
    · unfold arithR at h; split at h <;> simp [R.pure, R.pureS] at h
    · unfold strR at h; split at h <;> simp [R.pure, R.pureS] at h
    · unfold boolR at h; (repeat' split at h) <;> simp [R.pure] at h
    · split at h <;> first | cases h; done | (unfold nilEq at h; split at h <;> simp [R.pureS] at h)
    · split at h <;> first | cases h; done | (unfold nilEq at h; split at h <;> simp [R.pureS] at h)
    · split at h <;> first | cases h; done | (unfold nilEq at h; split at h <;> simp [R.pureS] at h)
    · cases h
  | unOp op t x => exfalso; rw [ho] at h; simp only [aop] at h; unfold unR at h; split at h <;> simp [R.pure] at h
  | convert s d x => exfalso; rw [ho] at h; simp only [aop] at h; unfold convR at h; (repeat' split at h) <;> simp [R.pure, R.pureS] at h
  | makeInterface t x => exfalso; rw [ho] at h; simp only [aop] at h; unfold ifaceR at h; split at h <;> simp [R.pure] at h
  | makeSlice t x y => exfalso; rw [ho] at h; simp only [aop] at h; unfold makeR at h; (repeat' split at h) <;> cases h
  | slice t x lo hi mx => exfalso; rw [ho] at h; simp only [aop] at h; unfold sliceR at h; (repeat' split at h) <;> simp [R.pureS] at h
  | fieldAddr t x f => exfalso; rw [ho] at h; simp only [aop] at h; unfold fieldR at h; (repeat' split at h) <;> simp [R.pure] at h
  | field t x f => exfalso; rw [ho] at h; simp only [aop] at h; unfold fieldV at h; (repeat' split at h) <;> simp [R.pureS] at h
  | indexAddr t x y => exfalso; rw [ho] at h; simp only [aop] at h; unfold indexR at h; (repeat' split at h) <;> simp [R.pureS] at h
  | index t x y => exfalso; rw [ho] at h; simp only [aop] at h; unfold idxVR at h; (repeat' split at h) <;> simp [R.pureS] at h
  | extract x i => exfalso; rw [ho] at h; simp only [aop] at h; unfold extractR at h; (repeat' split at h) <;> simp [R.pure] at h
  | _ => exfalso; rw [ho] at h; simp [aop, R.pure] at h

structure FCall (P : Program) (f : FuncId) (vs : List AV) (h : Heap) (v : AV) (T : List Nat) (u : List (Nat × Option Blk)) : Prop where
  enter : ∀ us w, (callFunc f us).run P w = .ok (.enter f us) w
  tri : ∀ (ρ : IdMap) (F : FSet) (us : Array Value) (w : World), Pre ρ F w T u h → us.size = vs.length → (∀ j c, vs[j]? = some c → Rd ρ F w c (us.getD j undef)) →
    Calls P f us w (fun e w' => ∃ x ρ' F', e = .returned x ∧ Post ρ F w T u h v x ρ' F' w')

theorem call_ok {o : Oper} {st : AS} {f : FuncId} {vs : List AV} {v : AV} {T : List Nat} {u : List (Nat × Option Blk)} {nx : Nat} (hc : CallIs P o st f vs) (hf : FCall P f vs (hget st.hp) v T u) (le : st.nx ≤ nx)
    (keysOk : ∀ i, i ∈ keys u → i ∈ T ∨ (st.nx ≤ i ∧ i < nx)) (live : ∀ i, i ∈ T → hget st.hp i ≠ none) : OpOk P o st v T u nx where
  tri ρ F a w hpre hin K Q hK := by
    obtain ⟨us, hz, hr, he⟩ := hc ρ F a w hin
    unfold Oper.wp
    rw [he, hf.enter]
    rw [Oper.upon_enter]
    refine (hf.tri ρ F us w hpre hz hr).mono ?_
    rintro e w' ⟨x, ρ', F', rfl, hp⟩
    exact hK x ρ' F' w' hp
  le := le
  keysOk := keysOk
  live := live

end Go.Abs

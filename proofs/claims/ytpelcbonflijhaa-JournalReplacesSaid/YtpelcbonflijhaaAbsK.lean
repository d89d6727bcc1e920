/-
  The executor, operation by operation, and that it is sound. Own work; no statement of the seat is proved here.
-/
import Derived.Test.YtpelcbonflijhaaAbsJb
namespace Go.Abs
set_option linter.unusedSimpArgs false
set_option linter.unusedVariables false
open Go Go.RowKit
variable {P : Program}

def TK.isNone : TK → Bool
  | .none => true
  | _ => false
def TK.isIface : TK → Bool
  | .iface => true
  | _ => false

def convR (st : AS) (same : Bool) (sk dk se de : TK) : AV → R
  | .p (.v (.int _ n)) => match dk, sk.isNone with
    | .int k, false => .pure st (.p (.v (.int k (k.wrap n))))
    | _, _ => .bad
  | .p (.v (.string s)) => match dk, sk, de with
    | .slice, .str, .int .u8 => .pure st (.p (.data 1 s.size (s.data.toList.map bt)))
    | _, _, _ => .bad
  | .p (.data s n cs) => match dk, sk, se, Nat.beq s 1 with
    | .str, .slice, .int .u8, true => .pureS st (allB cs) (.p (.v (strOf (unBs cs))))
    | _, _, _, _ => .bad
  | .sl id off n s => match dk, sk, se, Nat.beq s 1, hget st.hp id with
    | .str, .slice, .int .u8, true, some b => .okS (off + n ≤ b.cs.length ∧ allP ((b.cs.drop off).take n) ∧ allB (unPs ((b.cs.drop off).take n))) (.p (.v (strOf (unBs (unPs ((b.cs.drop off).take n)))))) [id] [] st.nx
    | .slice, .slice, .int .u8, true, some b => match same with
      | true => .okS (off + n ≤ b.cs.length ∧ n ≠ 0 ∧ allP ((b.cs.drop off).take n)) (.p (.data 1 n (unPs ((b.cs.drop off).take n)))) [id] [(id, none)] st.nx
      | false => .bad
    | _, _, _, _, _ => .bad
  | _ => .bad

def bndLo : Option AV → Option Int
  | none => some 0
  | some (.p (.v (.int _ n))) => some n
  | some _ => none
def bndHi (top : Int) : Option AV → Option Int
  | none => some top
  | some (.p (.v (.int _ n))) => some n
  | some _ => none
def bndMx (h : Option AV) : Option AV → Option (Option Int)
  | none => some none
  | some (.p (.v (.int _ n))) => match h with
    | some _ => some (some n)
    | none => none
  | some _ => none
def mxIs (h : Int) : Option Int → Prop
  | none => True
  | some m => m = h

def topOf (n : Nat) : AV → Int
  | .p (.v (.string s)) => s.size
  | .p (.data _ n _) => n
  | .sl _ _ n _ => n
  | .ptr _ _ => n
  | _ => 0

def sliceR (st : AS) (k : TK) (len es : Nat) (x : AV) (l h : Option Int) (m : Option (Option Int)) : R :=
  match x, l, h, m with
  | .p (.v (.string s)), some l, some h, some none => match k with
    | .str => .pureS st (0 ≤ l ∧ l ≤ h ∧ h ≤ s.size) (.p (.v (.string (s.extract l.toNat h.toNat))))
    | _ => .bad
  | .p (.v (.slice none 0 0)), some l, some h, some none => match k, Nat.ble 1 es with
    | .slice, true => .pureS st (0 ≤ l ∧ l ≤ h ∧ h ≤ 0) (.p (.v (.slice none 0 0)))
    | _, _ => .bad
  | .p (.data s n cs), some l, some h, some m => match k, Nat.beq s es, Nat.ble 1 es with
    | .slice, true, true => .pureS st (0 ≤ l ∧ l ≤ h ∧ h ≤ n ∧ mxIs h m) (.p (.data s (h.toNat - l.toNat) ((cs.drop (l.toNat * s)).take ((h.toNat - l.toNat) * s))))
    | _, _, _ => .bad
  | .sl id off n s, some l, some h, some m => match k, Nat.beq s es, Nat.ble 1 es with
    | .slice, true, true => .pureS st (0 ≤ l ∧ l ≤ h ∧ h ≤ n ∧ mxIs h m) (.sl id (off + l.toNat * s) (h.toNat - l.toNat) s)
    | _, _, _ => .bad
  | .ptr id off, some l, some h, some m => match k, Nat.ble 1 es, Nat.ble 1 len, hget st.hp id with
    | .array, true, true, some b => .okS (0 ≤ l ∧ l ≤ h ∧ h ≤ len ∧ mxIs h m ∧ off + len * es ≤ b.cs.length) (.sl id (off + l.toNat * es) (h.toNat - l.toNat) es) [id] [] st.nx
    | _, _, _, _ => .bad
  | _, _, _, _ => .bad

def nilR (st : AS) : AV → R
  | .ptr id off => .pure st (.ptr id off)
  | .cp cs => .pure st (.cp cs)
  | .fn (.func f) a b => .pure st (.fn (.func f) a b)
  | .p (.v (.func (.func f) a b)) => .pure st (.p (.v (.func (.func f) a b)))
  | _ => .bad

def ifaceR (st : AS) (t : TypeId) (k : TK) (x : AV) : R :=
  match k.isIface, k.isNone with
  | false, false => .pure st (.iface t x)
  | _, _ => .bad

def methF (P : Program) (t : TypeId) (name : String) : Option FuncId :=
  match P.info? t, P.underlying t with
  | some i, some d => match i.methods.find? (·.name == name) with
    | some m => match m.path.toList, m.func, tkOf (some d) with
      | [], some (f, true), .ptr => some f
      | [], some (_, false), .ptr => none
      | [], some (f, false), _ => some f
      | _, _, _ => none
    | none => none
  | _, _ => none

def callV (args : List AV) : AV → R
  | .p (.v (.func (.func f) a b)) => match Nat.beq a.size 0, Nat.beq b.size 0 with
    | true, true => .call f args
    | _, _ => .bad
  | .fn (.func f) a b => .call f (a ++ args ++ b)
  | _ => .bad

def unI : PV → AV
  | .agg cs => .agg (cs.map .p)
  | .v x => .p (.v x)
  | .data s n cs => .p (.data s n cs)
  | .iface t x => .p (.iface t x)
def invK (args : List AV) (x : AV) : Option FuncId → R
  | some f => .call f (x :: args)
  | none => .bad
def invokeR (P : Program) (args : List AV) (name : String) : AV → R
  | .iface t x => invK args x (methF P t name)
  | .p (.iface t x) => invK args (unI x) (methF P t name)
  | _ => .bad
theorem unI_rd {ρ : IdMap} {F : FSet} {w : World} {x : PV} {u : Value} (h : RdP F w x u) : Rd ρ F w (unI x) u := by
  cases h with
  | agg cs us hl hr =>
    refine .agg _ us (by simpa using hl) (fun j c hj => ?_)
    simp only [List.getElem?_map, Option.map_eq_some_iff] at hj
    obtain ⟨y, hy, rfl⟩ := hj
    exact .p _ _ (hr j y hy)
  | v _ h1 => exact .p _ _ (.v _ h1)
  | nil s A cap => exact .p _ _ (.nil s A cap)
  | data s n cs b off cap f hl hcap hF hc h1 hr => exact .p _ _ (.data s n cs b off cap f hl hcap hF hc h1 hr)
  | iface t x u h => exact .p _ _ (.iface t x u h)

def callB (P : Program) (st : AS) : Builtin → List Operand → List TypeId → R
  | .len, [x], [t] => lenR st (tiOf P t) (ev st x)
  | .max, [x, y], _ => max2R st (ev st x) (ev st y)
  | .min, [x, y], _ => min2R st (ev st x) (ev st y)
  | .append, [x, y], [t, t'] => match Nat.beq t t' with
    | true => appendR st (tiOf P t) (tiOf P (tiOf P t).elem) (ev st x) (srcOf st (tiOf P (tiOf P t).elem).size (ev st y))
    | false => match (tiOf P t').kind with
      | .int _ => appZR st (tiOf P t) (tiOf P (tiOf P t).elem) (ev st x) (ev st y)
      | _ => .bad
  | .cap, [x], [t] => capR st (tiOf P t) (ev st x)
  | _, _, _ => .bad

def callR (P : Program) (st : AS) (args : List Operand) (tys : List TypeId) : Callee → R
  | .builtin b => callB P st b args tys
  | .value f => callV (evs st args) (ev st f)
  | .invoke r m => invokeR P (evs st args) m (ev st r)

def aop (P : Program) (o : Op) (st : AS) : R :=
  match o with
  | .move x => .pure st (ev st x)
  | .assign x => .pure st (ev st x)
  | .pick c a b => pickR st (ev st c) (ev st a) (ev st b)
  | .alloc t => allocR st t (tiOf P t).zero
  | .box t x => boxR st t (ev st x)
  | .build t parts => buildR st (tiOf P t) (tiOf P (tiOf P t).elem).size (evp st parts.toList)
  | .buildSlice t len parts => sliceLitR st (tiOf P t) (tiOf P (tiOf P t).elem) len (evp st parts.toList)
  | .load t x => loadR st (tiOf P t) (ev st x)
  | .store t x y => storeR st (tiOf P t) (ev st x) (ev st y)
  | .nilCheck x => nilR st (ev st x)
  | .binOp op t x y _ => binR st op (tiOf P t).kind (ev st x) (ev st y)
  | .unOp op _ x => unR st op (ev st x)
  | .convert s d x => convR st (Nat.beq s d) (tiOf P s).kind (tiOf P d).kind (tiOf P (tiOf P s).elem).kind (tiOf P (tiOf P d).elem).kind (ev st x)
  | .makeInterface t x => ifaceR st t (tiOf P t).kind (ev st x)
  | .makeFunc f xs ys => .pure st (.fn f (evs st xs.toList) (evs st ys.toList))
  | .makeSlice t x y => makeR st (tiOf P t) (tiOf P (tiOf P t).elem) (ev st x) (ev st y)
  | .slice t x lo hi mx => sliceR st (tiOf P t).kind (tiOf P t).len (tiOf P (tiOf P t).elem).size (ev st x) (bndLo (lo.map (ev st))) (bndHi (topOf (tiOf P t).len (ev st x)) (hi.map (ev st))) (bndMx (hi.map (ev st)) (mx.map (ev st)))
  | .fieldAddr t x f => fieldR st (ev st x) (tiOf P t).flds[f]?
  | .field t x f => fieldV st (ev st x) (tiOf P t).flds[f]?
  | .indexAddr t x y => indexR st (tiOf P t) (tiOf P (tiOf P t).elem).size (ev st x) (ev st y)
  | .index t x y => idxVR st (tiOf P t) (tiOf P (tiOf P t).elem).size (tiOf P (tiOf P t).elem).kind (ev st x) (ev st y)
  | .extract x i => extractR st i (ev st x)
  | .call c => callR P st c.args.toList c.argTypes.toList c.callee
  | _ => .bad

def AopOk (P : Program) (o : Oper) (st : AS) (r : R) : Prop :=
  (∀ v T u nx, r = .ok v T u nx → OpOk P o st v T u nx) ∧ (∀ s v T u nx, r = .okS s v T u nx → s → OpOk P o st v T u nx)

theorem AopOk.bad {o : Oper} {st : AS} : AopOk P o st .bad := ⟨fun _ _ _ _ h => (by cases h), fun _ _ _ _ _ h => by cases h⟩
theorem AopOk.call {o : Oper} {st : AS} {f : FuncId} {vs : List AV} : AopOk P o st (.call f vs) := ⟨fun _ _ _ _ h => (by cases h), fun _ _ _ _ _ h => by cases h⟩
theorem AopOk.pure {o : Oper} {st : AS} {v : AV} (h : OpOk P o st v [] [] st.nx) : AopOk P o st (.pure st v) :=
  ⟨fun _ _ _ _ e => by simp only [R.pure, R.ok.injEq] at e; obtain ⟨rfl, rfl, rfl, rfl⟩ := e; exact h, fun _ _ _ _ _ e => by cases e⟩
theorem AopOk.ok {o : Oper} {st : AS} {v : AV} {T : List Nat} {u : List (Nat × Option Blk)} {nx : Nat} (h : OpOk P o st v T u nx) : AopOk P o st (.ok v T u nx) :=
  ⟨fun _ _ _ _ e => by simp only [R.ok.injEq] at e; obtain ⟨rfl, rfl, rfl, rfl⟩ := e; exact h, fun _ _ _ _ _ e => by cases e⟩
theorem AopOk.okS {o : Oper} {st : AS} {s : Prop} {v : AV} {T : List Nat} {u : List (Nat × Option Blk)} {nx : Nat} (h : s → OpOk P o st v T u nx) : AopOk P o st (.okS s v T u nx) :=
  ⟨fun _ _ _ _ e => (by cases e), fun _ _ _ _ _ e hs => by simp only [R.okS.injEq] at e; obtain ⟨rfl, rfl, rfl, rfl, rfl⟩ := e; exact h hs⟩
theorem AopOk.pureS {o : Oper} {st : AS} {s : Prop} {v : AV} (h : s → OpOk P o st v [] [] st.nx) : AopOk P o st (.pureS st s v) := AopOk.okS h

theorem bnds_of {st : AS} {lo hi mx : Option Operand} {top : Int} {l h : Int} {m : Option Int} (h1 : bndLo (lo.map (ev st)) = some l) (h2 : bndHi top (hi.map (ev st)) = some h) (h3 : bndMx (hi.map (ev st)) (mx.map (ev st)) = some m) (hm : mxIs h m) :
    Bnds st lo hi mx top l h := by
  refine ⟨?_, ?_, ?_⟩
  · cases lo with
    | none => simp [bndLo] at h1; exact .inl ⟨rfl, h1.symm⟩
    | some x =>
      simp only [Option.map_some] at h1
      unfold bndLo at h1
      split at h1
      · rename_i e; cases e
      · rename_i k n e
        injection h1 with h1; subst h1
        exact .inr ⟨x, k, rfl, by injection e⟩
      · cases h1
  · cases hi with
    | none =>
      simp [bndHi] at h2
      refine .inl ⟨rfl, h2.symm, ?_⟩
      cases mx with
      | none => rfl
      | some x =>
        simp only [Option.map_none, Option.map_some] at h3
        unfold bndMx at h3
        split at h3
        · rename_i e; cases e
        · cases h3
        · cases h3
    | some x =>
      simp only [Option.map_some] at h2
      unfold bndHi at h2
      split at h2
      · rename_i e; cases e
      · rename_i k n e
        injection h2 with h2; subst h2
        exact .inr ⟨x, k, rfl, by injection e⟩
      · cases h2
  · cases mx with
    | none => exact .inl rfl
    | some x =>
      simp only [Option.map_some] at h3
      unfold bndMx at h3
      split at h3
      · rename_i e; cases e
      · rename_i k n e
        split at h3
        · injection h3 with h3; subst h3
          simp only [mxIs] at hm
          subst hm
          exact .inr ⟨x, k, rfl, by injection e⟩
        · cases h3
      · cases h3

theorem ok_sliceStr {o : Oper} {st : AS} {t : TypeId} {x : Operand} {lo hi : Option Operand} (ho : o.op = .slice t x lo hi none) {s : ByteArray} (hx : ev st x = .p (.v (.string s))) (hk : (tiOf P t).kind = .str)
    {l h : Int} (hb : Bnds st lo hi none s.size l h) (h0 : 0 ≤ l) (h1 : l ≤ h) (h2 : h ≤ s.size) : OpOk P o st (.p (.v (.string (s.extract l.toNat h.toNat)))) [] [] st.nx :=
  ok_pure fun ρ F a w hin => by
    obtain ⟨hx1, hin'⟩ := slice_ops ho
    have hr := hin x hx1
    rw [hx] at hr
    obtain ⟨m, hm1, hm2, hrun⟩ := run_bnds (P := P) hb (fun y hy => hin y (hin' y hy)) h0 h1 h2 (Nat.le_refl _) false
    simp only [Option.map_none] at hrun
    refine ⟨_, ?_, .ofV rfl⟩
    simp [execOp, ho, hr.pv, Instr.sliceAt, run_underlying (ti_str hk), Instr.slice, hrun]

theorem aop_build {o : Oper} {st : AS} {t : TypeId} {parts : Array (Nat × Operand)} (ho : o.op = .build t parts) : AopOk P o st (buildR st (tiOf P t) (tiOf P (tiOf P t).elem).size (evp st parts.toList)) := by
  refine ⟨fun v T u nx h => ok_build ho h, fun s v T u nx h => ?_⟩
  unfold buildR at h
  repeat' split at h
  all_goals cases h

theorem aop_sliceLit {o : Oper} {st : AS} {t : TypeId} {len : Nat} {parts : Array (Nat × Operand)} (ho : o.op = .buildSlice t len parts) : AopOk P o st (sliceLitR st (tiOf P t) (tiOf P (tiOf P t).elem) len (evp st parts.toList)) := by
  refine ⟨fun v T u nx h => ok_sliceLit ho h, fun s v T u nx h => ?_⟩
  unfold sliceLitR at h
  repeat' split at h
  all_goals cases h

theorem aop_make {o : Oper} {st : AS} {t : TypeId} {x y : Operand} (ho : o.op = .makeSlice t x y) : AopOk P o st (makeR st (tiOf P t) (tiOf P (tiOf P t).elem) (ev st x) (ev st y)) := by
  refine ⟨fun v T u nx h => ?_, fun s v T u nx h hs => ok_make ho h hs⟩
  unfold makeR at h
  repeat' split at h
  all_goals cases h

theorem aop_append {o : Oper} {st : AS} {t : TypeId} {x y : Operand} (ho : o.op = .call ⟨.builtin .append, #[x, y], #[t, t]⟩) :
    AopOk P o st (appendR st (tiOf P t) (tiOf P (tiOf P t).elem) (ev st x) (srcOf st (tiOf P (tiOf P t).elem).size (ev st y))) := by
  refine ⟨fun v T u nx h => ?_, fun s v T u nx h hs => ok_append ho h hs⟩
  unfold appendR at h
  repeat' split at h
  all_goals cases h

theorem aop_load {o : Oper} {st : AS} {t : TypeId} {x : Operand} (ho : o.op = .load t x) : AopOk P o st (loadR st (tiOf P t) (ev st x)) := by
  cases hx : ev st x with
  | ptr id off =>
    simp only [loadR]
    cases hk : hget st.hp id with
    | none => exact .bad
    | some k =>
      simp only [loadB]
      split
      · rename_i h2
        exact .okS fun h1 => ok_load_blk ho hx hk (Nat.le_of_ble_eq_true h2) h1
      · exact .bad
  | cp cs =>
    simp only [loadR]
    split
    · rename_i h1 h2
      refine .pureS fun hl => ?_
      have := ok_loadCp ho hx (Nat.le_of_ble_eq_true h2) hl (dfl (tiOf P t).kind)
      have h1' : (tkOf (P.underlying t)).agg = true := h1
      rw [if_pos h1'] at this
      exact this
    · rename_i h1 h2
      refine .pureS fun hl => ?_
      have := ok_loadCp ho hx (Nat.le_of_ble_eq_true h2) hl (dfl (tiOf P t).kind)
      have h1' : ¬ (tkOf (P.underlying t)).agg = true := by
        have : (tkOf (P.underlying t)).agg = false := h1
        rw [this]; simp
      rw [if_neg h1'] at this
      exact this
    · exact .bad
  | _ => exact .bad

theorem aop_store {o : Oper} {st : AS} {t : TypeId} {x y : Operand} (ho : o.op = .store t x y) : AopOk P o st (storeR st (tiOf P t) (ev st x) (ev st y)) := by
  cases hx : ev st x with
  | ptr id off =>
    simp only [storeR]
    cases hk : hget st.hp id with
    | none => exact .bad
    | some k =>
      simp only [storeB]
      split
      · rename_i h1 h2 h3
        exact .okS fun hl => ok_store ho hx hk h1 hl (Nat.eq_of_beq_eq_true h2) (Nat.le_of_ble_eq_true h3)
      · exact .bad
  | _ => exact .bad

theorem aop_bin {o : Oper} {st : AS} {op : BinOp} {t t' : TypeId} {x y : Operand} (ho : o.op = .binOp op t x y t') : AopOk P o st (binR st op (tiOf P t).kind (ev st x) (ev st y)) := by
  unfold binR
  split
  · rename_i hx hy
    exact ok_arith ho hx hy
  · rename_i a b hx hy
    have key : ∀ r : Value, r.oneCell' = true → (∀ w, (binOp op t (.string a) (.string b)).run P w = .ok r w) → OpOk P o st (.p (.v r)) [] [] st.nx := fun r h1 h2 =>
      ok_bin ho hx hy (fun w => by rw [Sem.run_bind, run_guard_str]; exact h2 w) h1
    cases op <;> simp only [strR] <;> first
      | exact .bad
      | exact .pure (key _ rfl (fun w => by simp [binOp, Op.stringOp]))
      | skip
    refine .pureS fun hs => key _ rfl (fun w => ?_)
    have : ¬ (IntKind.i64.max < ((a.size + b.size : Nat) : Int)) := by
      have : IntKind.i64.max = 9223372036854775807 := rfl
      omega
    simp [binOp, Op.stringOp]
    simp at this
    omega
  · rename_i a b hx hy
    cases hk : (tiOf P t).kind with
    | bool =>
      have hu := ti_bool hk
      have key : ∀ r : Value, r.oneCell' = true → (∀ w, (binOp op t (.bool a) (.bool b)).run P w = .ok r w) → OpOk P o st (.p (.v r)) [] [] st.nx := fun r h1 h2 =>
        ok_bin ho hx hy (fun w => by rw [Sem.run_bind, run_guard_bool]; exact h2 w) h1
      have heq0 : ∀ (d : Nat) (w : World), (Op.equalIn (d + 1) t (.bool a) (.bool b)).run P w = .ok (a == b) w := fun d w => by simp [Op.equalIn, run_underlying hu]
      have heq : ∀ w, (Op.equal t (.bool a) (.bool b)).run P w = .ok (a == b) w := fun w => heq0 9999 w
      cases op <;> simp only [boolR] <;> first
        | exact .bad
        | exact .pure (key _ rfl (fun w => by simp [binOp, heq]))
    | _ => exact .bad
  · rename_i hx hy
    split
    · rename_i hk
      exact ok_eqNil ho hk hy (fun hn ρ F w u hr => by
        rw [hx] at hr
        rcases hr.dataInv with ⟨h0, _, _⟩ | ⟨b, off, cap, f, hv, _⟩
        · exact absurd h0 hn
        · exact ⟨_, _, _, hv, rfl⟩)
    · exact .bad
  · rename_i hx hy
    split
    · rename_i hk
      exact ok_eqNil ho hk hy (fun hn ρ F w u hr => by
        rw [hx] at hr
        rcases hr.slInv with ⟨h0, _⟩ | ⟨b, cap, hb, hv, _⟩
        · exact absurd h0 hn
        · exact ⟨_, _, _, hv, rfl⟩)
    · exact .bad
  · rename_i hx hy
    split
    · rename_i hk
      exact ok_eqNil ho hk hy (fun hn ρ F w u hr => by
        rw [hx] at hr
        exact ⟨_, _, _, hr.pv, rfl⟩)
    · exact .bad
  · exact .bad

theorem aop_un {o : Oper} {st : AS} {op : UnOp} {t : TypeId} {x : Operand} (ho : o.op = .unOp op t x) : AopOk P o st (unR st op (ev st x)) := by
  unfold unR
  split
  · rename_i hx; exact .pure (ok_un ho hx (fun w => by simp [Op.unary]) rfl)
  · rename_i hx; exact .pure (ok_un ho hx (fun w => by simp [Op.unary, Op.intArith]) rfl)
  · rename_i hx; exact .pure (ok_un ho hx (fun w => by simp [Op.unary, Op.intBits, bxor]) rfl)
  · exact .bad

theorem aop_conv {o : Oper} {st : AS} {s d : TypeId} {x : Operand} (ho : o.op = .convert s d x) : AopOk P o st (convR st (Nat.beq s d) (tiOf P s).kind (tiOf P d).kind (tiOf P (tiOf P s).elem).kind (tiOf P (tiOf P d).elem).kind (ev st x)) := by
  unfold convR
  split
  · rename_i hx
    split
    · rename_i hd hs
      exact .pure (ok_convInt ho hx hd (fun e => by rw [e] at hs; cases hs))
    · exact .bad
  · rename_i hx
    split
    · rename_i hd hs he
      exact .pure (ok_toBytes ho hx hs hd he)
    · exact .bad
  · rename_i s' n cs hx
    split
    · rename_i hd hs he h1
      have := Nat.eq_of_beq_eq_true h1
      subst this
      exact .pureS fun hb => ok_toStrData ho hx hd hs he hb
    · exact .bad
  · rename_i id off n s' hx
    split
    · rename_i hd hs he h1 hk
      have := Nat.eq_of_beq_eq_true h1
      subst this
      exact .okS fun hh => ok_toStrSl ho hx hd hs he hk hh.1 hh.2.1 hh.2.2
    · rename_i hd hs he h1 hk
      have := Nat.eq_of_beq_eq_true h1
      subst this
      split
      · rename_i hsame
        have := Nat.eq_of_beq_eq_true hsame
        subst this
        exact .okS fun hh => ok_mark ho hx hs he hk hh.1 hh.2.1 hh.2.2
      · exact .bad
    · exact .bad
  · exact .bad

theorem aop_slice {o : Oper} {st : AS} {t : TypeId} {x : Operand} {lo hi mx : Option Operand} (ho : o.op = .slice t x lo hi mx) :
    AopOk P o st (sliceR st (tiOf P t).kind (tiOf P t).len (tiOf P (tiOf P t).elem).size (ev st x) (bndLo (lo.map (ev st))) (bndHi (topOf (tiOf P t).len (ev st x)) (hi.map (ev st))) (bndMx (hi.map (ev st)) (mx.map (ev st)))) := by
  unfold sliceR
  split
  · rename_i s l h hx hl hh hm
    split
    · rename_i hk
      refine .pureS fun ⟨h0, h1, h2⟩ => ?_
      have hmx : mx = none := by
        cases mx with
        | none => rfl
        | some y =>
          simp only [Option.map_some] at hm
          unfold bndMx at hm
          split at hm
          · rename_i e; cases e
          · split at hm <;> cases hm
          · cases hm
      subst hmx
      rw [hx] at hh
      exact ok_sliceStr ho hx hk (bnds_of hl hh hm trivial) h0 h1 h2
    · exact .bad
  · rename_i l h hx hl hh hm
    split
    · rename_i hk hpos
      refine .pureS fun ⟨h0, h1, h2⟩ => ?_
      have hmx : mx = none := by
        cases mx with
        | none => rfl
        | some y =>
          simp only [Option.map_some] at hm
          unfold bndMx at hm
          split at hm
          · rename_i e; cases e
          · split at hm <;> cases hm
          · cases hm
      subst hmx
      rw [hx] at hh
      exact ok_sliceNil ho hx hk (Nat.le_of_ble_eq_true hpos) (bnds_of hl hh hm trivial) h0 h1 h2
    · exact .bad
  · rename_i s n cs l h m hx hl hh hm
    split
    · rename_i hk hs h1
      refine .pureS fun ⟨h0, h1', h2, h3⟩ => ?_
      rw [hx] at hh
      have hs' := Nat.eq_of_beq_eq_true hs
      exact ok_sliceData ho hx hk hs'.symm (by rw [hs']; exact Nat.le_of_ble_eq_true h1) (bnds_of hl hh hm h3) h0 h1' h2
    · exact .bad
  · rename_i id off n s l h m hx hl hh hm
    split
    · rename_i hk hs h1
      refine .pureS fun ⟨h0, h1', h2, h3⟩ => ?_
      rw [hx] at hh
      have hs' := Nat.eq_of_beq_eq_true hs
      exact ok_sliceSl ho hx hk hs'.symm (by rw [hs']; exact Nat.le_of_ble_eq_true h1) (bnds_of hl hh hm h3) h0 h1' h2
    · exact .bad
  · rename_i id off l h m hx hl hh hm
    split
    · rename_i hk h1 hlen hb
      refine .okS fun ⟨h0, h1', h2, h3, h4⟩ => ?_
      rw [hx] at hh
      exact ok_slicePtr ho hx hk (Nat.le_of_ble_eq_true h1) (bnds_of hl hh hm h3) h0 h1' h2 hb h4 (Nat.le_of_ble_eq_true hlen)
    · exact .bad
  · exact .bad

theorem aop_fieldAddr {o : Oper} {st : AS} {t : TypeId} {x : Operand} {f : Nat} (ho : o.op = .fieldAddr t x f) : AopOk P o st (fieldR st (ev st x) (tiOf P t).flds[f]?) := by
  cases hf : (tiOf P t).flds[f]? with
  | none => exact .bad
  | some p =>
    obtain ⟨fo, s, k⟩ := p
    simp only [fieldR]
    split
    · rename_i h1 hx
      exact .pure (ok_fieldPtr ho hx hf (Nat.le_of_ble_eq_true h1))
    · rename_i h1 hx
      exact .pure (ok_fieldCp ho hx hf (Nat.le_of_ble_eq_true h1))
    · exact .bad

theorem aop_field {o : Oper} {st : AS} {t : TypeId} {x : Operand} {f : Nat} (ho : o.op = .field t x f) : AopOk P o st (fieldV st (ev st x) (tiOf P t).flds[f]?) := by
  unfold fieldV
  split
  · rename_i hx hf
    split
    · rename_i h1
      exact .pureS fun hl => ok_field ho hx hf (Nat.le_of_ble_eq_true h1) hl
    · exact .bad
  · exact .bad

theorem aop_indexAddr {o : Oper} {st : AS} {t : TypeId} {x y : Operand} (ho : o.op = .indexAddr t x y) : AopOk P o st (indexR st (tiOf P t) (tiOf P (tiOf P t).elem).size (ev st x) (ev st y)) := by
  unfold indexR
  split
  · rename_i hx hy
    split
    · rename_i hk hs h1
      have hs' := Nat.eq_of_beq_eq_true hs
      exact .pureS fun h => ok_indexData ho hx hy hk hs'.symm (by rw [hs']; exact Nat.le_of_ble_eq_true h1) h.1 h.2
    · exact .bad
  · rename_i hx hy
    split
    · rename_i hk hs h1
      have hs' := Nat.eq_of_beq_eq_true hs
      exact .pureS fun h => ok_indexSl ho hx hy hk hs'.symm (by rw [hs']; exact Nat.le_of_ble_eq_true h1) h.1 h.2
    · exact .bad
  · rename_i hx hy
    split
    · rename_i hk h1
      exact .pureS fun h => ok_indexPtr ho hx hy hk (Nat.le_of_ble_eq_true h1) h.1 h.2
    · exact .bad
  · exact .bad

theorem aop_index {o : Oper} {st : AS} {t : TypeId} {x y : Operand} (ho : o.op = .index t x y) : AopOk P o st (idxVR st (tiOf P t) (tiOf P (tiOf P t).elem).size (tiOf P (tiOf P t).elem).kind (ev st x) (ev st y)) := by
  unfold idxVR
  split
  · rename_i hx hy
    split
    · rename_i hk
      exact .pureS fun h => ok_indexStr ho hx hy hk h.1 h.2
    · exact .bad
  · exact .bad

theorem arr_of {α : Type} {a : Array α} {l : List α} (h : a.toList = l) : a = l.toArray := by rw [← h]

theorem aop_callB {o : Oper} {st : AS} {b : Builtin} {args : Array Operand} {tys : Array TypeId} (ho : o.op = .call ⟨.builtin b, args, tys⟩) : AopOk P o st (callB P st b args.toList tys.toList) := by
  unfold callB
  split
  · rename_i x t ha ht
    have ho' : o.op = .call ⟨.builtin .len, #[x], #[t]⟩ := by
      rw [ho]; congr 2
      · exact arr_of ha
      · exact arr_of ht
    unfold lenR
    split
    · rename_i hx; split
      · rename_i hk; exact .pure (ok_len ho' (.inl ⟨hk, .inl ⟨_, _, hx⟩⟩))
      · exact .bad
    · rename_i hx; split
      · rename_i hk; exact .pure (ok_len ho' (.inl ⟨hk, .inr (.inl ⟨_, _, hx⟩)⟩))
      · exact .bad
    · rename_i hx; split
      · rename_i hk; exact .pure (ok_len ho' (.inl ⟨hk, .inr (.inr ⟨_, _, _, hx⟩)⟩))
      · exact .bad
    · rename_i hx; split
      · rename_i hk; exact .pure (ok_len ho' (.inr ⟨hk, _, rfl, hx⟩))
      · exact .bad
    · exact .bad
  · rename_i x y ha
    have ho' : o.op = .call ⟨.builtin .max, #[x, y], tys⟩ := by
      rw [ho]; congr 2
      exact arr_of ha
    unfold max2R
    split
    · rename_i hx hy; exact .pure (ok_max ho' hx hy)
    · exact .bad
  · rename_i x y ha
    have ho' : o.op = .call ⟨.builtin .min, #[x, y], tys⟩ := by
      rw [ho]; congr 2
      exact arr_of ha
    unfold min2R
    split
    · rename_i hx hy; exact .pure (ok_min ho' hx hy)
    · exact .bad
  · rename_i x y t t' ha ht
    split
    · rename_i he
      have := Nat.eq_of_beq_eq_true he
      subst this
      have ho' : o.op = .call ⟨.builtin .append, #[x, y], #[t, t]⟩ := by
        rw [ho]; congr 2
        · exact arr_of ha
        · exact arr_of ht
      exact aop_append ho'
    · split
      · rename_i hk
        have ho' : o.op = .call ⟨.builtin .append, #[x, y], #[t, t']⟩ := by
          rw [ho]; congr 2
          · exact arr_of ha
          · exact arr_of ht
        refine ⟨fun v T u nx h => ?_, fun s v T u nx h hs => ok_appendZ ho' hk h hs⟩
        unfold appZR at h
        repeat' split at h
        all_goals cases h
      · exact .bad
  · rename_i x t ha ht
    have ho' : o.op = .call ⟨.builtin .cap, #[x], #[t]⟩ := by
      rw [ho]; congr 2
      · exact arr_of ha
      · exact arr_of ht
    unfold capR
    split
    · rename_i hx
      split
      · rename_i hk; exact .pure (ok_cap ho' hk hx)
      · exact .bad
    · exact .bad
  · exact .bad

theorem aop_ok (o : Oper) (st : AS) : AopOk P o st (aop P o.op st) := by
  cases ho : o.op with
  | move x => exact .pure (ok_move (.inl ho))
  | assign x => exact .pure (ok_move (.inr ho))
  | pick c a b =>
    simp only [aop]
    unfold pickR
    split
    · rename_i hc; exact .pure (ok_pick ho hc)
    · exact .bad
  | alloc t =>
    simp only [aop]
    cases hz : (tiOf P t).zero with
    | none => exact .bad
    | some z =>
      simp only [allocR]
      split
      · rename_i h1; exact .ok (ok_alloc ho hz h1)
      · exact .bad
  | box t x =>
    simp only [aop, boxR]
    split
    · rename_i h1; exact .ok (ok_box ho h1)
    · exact .bad
  | build t parts => exact aop_build ho
  | buildSlice t len parts => exact aop_sliceLit ho
  | load t x => exact aop_load ho
  | store t x y => exact aop_store ho
  | nilCheck x =>
    simp only [aop]
    unfold nilR
    split
    · rename_i hx; exact .pure (hx ▸ ok_nilCheck ho (.inl ⟨_, _, hx⟩))
    · rename_i hx; exact .pure (hx ▸ ok_nilCheck ho (.inr (.inl ⟨_, hx⟩)))
    · rename_i hx; exact .pure (hx ▸ ok_nilCheck ho (.inr (.inr (.inl ⟨_, _, _, hx⟩))))
    · rename_i hx; exact .pure (hx ▸ ok_nilCheck ho (.inr (.inr (.inr ⟨_, _, _, hx⟩))))
    · exact .bad
  | binOp op t x y t' => exact aop_bin ho
  | unOp op t x => exact aop_un ho
  | convert s d x => exact aop_conv ho
  | makeInterface t x =>
    simp only [aop, ifaceR]
    split
    · rename_i h1 h2
      exact .pure (ok_iface ho (fun e => by rw [e] at h1; cases h1) (fun e => by rw [e] at h2; cases h2))
    · exact .bad
  | makeFunc f xs ys => exact .pure (ok_makeFunc ho)
  | makeSlice t x y => exact aop_make ho
  | slice t x lo hi mx => exact aop_slice ho
  | fieldAddr t x f => exact aop_fieldAddr ho
  | field t x f => exact aop_field ho
  | indexAddr t x y => exact aop_indexAddr ho
  | index t x y => exact aop_index ho
  | extract x i =>
    simp only [aop]
    unfold extractR
    split
    · rename_i hx
      split
      · rename_i hv; exact .pure (ok_extract ho hx hv)
      · exact .bad
    · exact .bad
  | call c =>
    obtain ⟨callee, args, tys⟩ := c
    simp only [aop]
    cases callee with
    | builtin b => exact aop_callB ho
    | value f =>
      simp only [callR]
      unfold callV
      split
      · split
        · exact .call
        · exact .bad
      · exact .call
      · exact .bad
    | invoke r m =>
      simp only [callR]
      unfold invokeR
      split
      · unfold invK
        split
        · exact .call
        · exact .bad
      · unfold invK
        split
        · exact .call
        · exact .bad
      · exact .bad
  | _ => exact .bad

end Go.Abs

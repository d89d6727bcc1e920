/-
  The executor's operations are sound: those that only compute, and those on single blocks. Own work; no statement of the seat is proved here.
-/
import Derived.Test.YtpelcbonflijhaaAbsC
namespace Go.Abs
set_option linter.unusedSimpArgs false
set_option linter.unusedVariables false
open Go Go.RowKit

section inv
variable {ρ : IdMap} {F : FSet} {w : World}
theorem Rd.pv {x : Value} {u : Value} (h : Rd ρ F w (.p (.v x)) u) : u = x := by
  cases h with
  | p _ _ h => cases h with | v _ _ => rfl
theorem Rd.ptrInv {i o : Nat} {u : Value} (h : Rd ρ F w (.ptr i o) u) : ∃ b, ρ i = some b ∧ u = .pointer (some ⟨b, o, none⟩) := by
  cases h with
  | ptr _ _ b h => exact ⟨b, h, rfl⟩
theorem Rd.aggInv {cs : List AV} {u : Value} (h : Rd ρ F w (.agg cs) u) : ∃ us : Array Value, u = .agg us ∧ us.size = cs.length ∧ ∀ j c, cs[j]? = some c → Rd ρ F w c (us.getD j undef) := by
  cases h with
  | agg _ us hl hr => exact ⟨us, rfl, hl, hr⟩
theorem Rd.tupInv {cs : List AV} {u : Value} (h : Rd ρ F w (.tup cs) u) : ∃ us : Array Value, u = .tuple us ∧ us.size = cs.length ∧ ∀ j c, cs[j]? = some c → Rd ρ F w c (us.getD j undef) := by
  cases h with
  | tup _ us hl hr => exact ⟨us, rfl, hl, hr⟩
theorem Rd.ofV {x : Value} (h : x.oneCell' = true) : Rd ρ F w (.p (.v x)) x := .p _ _ (.v _ h)
theorem Rd.ofI (k : IntKind) (n : Int) : Rd ρ F w (.p (.v (.int k n))) (.int k n) := .p _ _ (.v _ rfl)
theorem Rd.ofB (b : Bool) : Rd ρ F w (.p (.v (.bool b))) (.bool b) := .p _ _ (.v _ rfl)

theorem RdP.one {x : PV} {u : Value} (h : RdP F w x u) (h1 : oneP x = true) : u.oneCell' = true := by
  cases h with
  | v _ h => exact h
  | nil => rfl
  | data => rfl
  | iface => rfl
  | agg => cases h1
theorem Rd.one {x : AV} {u : Value} (h : Rd ρ F w x u) (h1 : oneC x = true) : u.oneCell' = true := by
  cases h with
  | p _ _ h => exact h.one h1
  | ptr => rfl
  | sl => rfl
  | slz => rfl
  | cp => rfl
  | agg => cases h1
  | tup => cases h1
  | iface => rfl
  | fn => rfl
  | any => cases h1

/-- the cells of a value, one by one -/
theorem Rd.cells {x : AV} {u : Value} (h : Rd ρ F w x u) (h1 : oneCs (cells x) = true) : u.cells.size = (cells x).length ∧ ∀ j c, (cells x)[j]? = some c → Rd ρ F w c (u.cells.getD j undef) := by
  have single : ∀ (y : AV), Abs.cells x = [y] → y = x → oneC x = true → u.cells.size = (Abs.cells x).length ∧ ∀ j c, (Abs.cells x)[j]? = some c → Rd ρ F w c (u.cells.getD j undef) := by
    intro y hy e ho
    subst e
    have hu : u.cells = #[u] := by
      have := h.one ho
      cases u <;> first | rfl | (simp [Value.oneCell'] at this)
    rw [hy, hu]
    refine ⟨rfl, fun j c hj => ?_⟩
    cases j with
    | zero => simp at hj; subst hj; simpa using h
    | succ j => simp at hj
  have one_of : ∀ y, oneCs [y] = true → oneC y = true := by
    intro y hy
    unfold oneCs at hy
    cases hc : oneC y with
    | true => rfl
    | false => rw [hc] at hy; cases hy
  cases x with
  | agg cs =>
    obtain ⟨us, rfl, hl, hr⟩ := h.aggInv
    exact ⟨hl, hr⟩
  | p x => exact single _ rfl rfl (one_of _ h1)
  | ptr => exact single _ rfl rfl rfl
  | sl => exact single _ rfl rfl rfl
  | cp => exact single _ rfl rfl rfl
  | tup => cases h1
  | iface => exact single _ rfl rfl rfl
  | fn => exact single _ rfl rfl rfl
  | any => cases h1

theorem oneCs_get {cs : List AV} (h : oneCs cs = true) {j : Nat} {c : AV} (hj : cs[j]? = some c) : oneC c = true := by
  induction cs generalizing j with
  | nil => simp at hj
  | cons x r ih =>
    unfold oneCs at h
    cases hc : oneC x with
    | false => rw [hc] at h; cases h
    | true =>
      rw [hc] at h
      cases j with
      | zero => simp at hj; subst hj; exact hc
      | succ j => exact ih h (by simpa using hj)
end inv

variable {P : Program}

theorem Post.pure {ρ : IdMap} {F : FSet} {w : World} {h : Heap} {v : AV} {x : Value} (hf : FOk F w) (hr : Rd ρ F w v x) : Post ρ F w [] [] h v x ρ F w where
  rho _ _ h := h
  new i h1 h2 := absurd h1 h2
  blk i b h1 h2 := by rw [h1] at h2; cases h2
  rd := hr
  hp := ⟨fun i k h => by simp [restr, keys] at h, fun i j b h => by simp [restr, keys] at h⟩
  fok := hf
  chg := Chg.refl _ _ _

/-- an operation that computes a value and leaves the world alone -/
theorem ok_pure {o : Oper} {st : AS} {v : AV}
    (h : ∀ (ρ : IdMap) (F : FSet) (a : Act) (w : World), (∀ x, x ∈ o.op.operands.toList → Rd ρ F w (ev st x) (a.eval x)) →
      ∃ x, (execOp a.eval o).run P w = .ok (.value x) w ∧ Rd ρ F w v x) : OpOk P o st v [] [] st.nx where
  tri ρ F a w hpre hin K Q hK := by
    obtain ⟨x, hx, hr⟩ := h ρ F a w hin
    unfold Oper.wp
    rw [hx]
    exact hK x ρ F w (Post.pure hpre.fok hr)
  le := Nat.le_refl _
  keysOk i hi := by simp [keys] at hi
  live i hi := by simp at hi

theorem ok_move {o : Oper} {st : AS} {x : Operand} (ho : o.op = .move x ∨ o.op = .assign x) : OpOk P o st (ev st x) [] [] st.nx :=
  ok_pure fun ρ F a w hin => ⟨a.eval x, by rcases ho with ho | ho <;> simp [execOp, ho], hin x (by rcases ho with ho | ho <;> simp [ho, Op.operands])⟩

theorem ok_pick {o : Oper} {st : AS} {c x y : Operand} (ho : o.op = .pick c x y) {b : Bool} (hc : ev st c = .p (.v (.bool b))) :
    OpOk P o st (if b = true then ev st x else ev st y) [] [] st.nx :=
  ok_pure fun ρ F a w hin => by
    have h1 := hin c (by simp [ho, Op.operands])
    have h2 := hin x (by simp [ho, Op.operands])
    have h3 := hin y (by simp [ho, Op.operands])
    rw [hc] at h1
    refine ⟨if b = true then a.eval x else a.eval y, ?_, by cases b <;> assumption⟩
    simp only [execOp, ho, h1.pv, asBool]
    cases b <;> rfl

theorem ok_bin {o : Oper} {st : AS} {op : BinOp} {t t' : TypeId} {x y : Operand} (ho : o.op = .binOp op t x y t') {vx vy : Value} (hx : ev st x = .p (.v vx)) (hy : ev st y = .p (.v vy)) {r : Value}
    (hr : ∀ w, (do eqGuard op t x y vx vy; binOp op t vx vy : Sem Value).run P w = .ok r w) (h1 : r.oneCell' = true) : OpOk P o st (.p (.v r)) [] [] st.nx :=
  ok_pure fun ρ F a w hin => by
    have e1 := hin x (by simp [ho, Op.operands])
    have e2 := hin y (by simp [ho, Op.operands])
    rw [hx] at e1; rw [hy] at e2
    refine ⟨r, ?_, .ofV h1⟩
    have := hr w
    simp only [execOp, ho, e1.pv, e2.pv]
    rw [Sem.run_bind, this]
    rfl

theorem eqK_eq {a b : IntKind} (h : eqK a b = true) : a = b := by cases a <;> cases b <;> first | rfl | cases h

theorem run_guard_int (op : BinOp) (t : TypeId) (x y : Operand) (k j : IntKind) (a b : Int) (w : World) : (eqGuard op t x y (.int k a) (.int j b)).run P w = .ok () w := by
  cases op <;> simp [eqGuard]
theorem run_guard_bool (op : BinOp) (t : TypeId) (x y : Operand) (a b : Bool) (w : World) : (eqGuard op t x y (.bool a) (.bool b)).run P w = .ok () w := by
  cases op <;> simp [eqGuard]
theorem run_guard_str (op : BinOp) (t : TypeId) (x y : Operand) (a b : ByteArray) (w : World) : (eqGuard op t x y (.string a) (.string b)).run P w = .ok () w := by
  cases op <;> simp [eqGuard]

theorem ok_arith {o : Oper} {st : AS} {op : BinOp} {t t' : TypeId} {x y : Operand} (ho : o.op = .binOp op t x y t') {k j : IntKind} {a b : Int} (hx : ev st x = .p (.v (.int k a))) (hy : ev st y = .p (.v (.int j b))) :
    (∀ v T u nx, arithR st op k a b (eqK k j) = .ok v T u nx → OpOk P o st v T u nx) ∧ (∀ s v T u nx, arithR st op k a b (eqK k j) = .okS s v T u nx → s → OpOk P o st v T u nx) := by
  have key : ∀ r : Value, r.oneCell' = true → (∀ w, (binOp op t (.int k a) (.int j b)).run P w = .ok r w) → OpOk P o st (.p (.v r)) [] [] st.nx := fun r h1 h2 =>
    ok_bin ho hx hy (fun w => by rw [Sem.run_bind, run_guard_int]; exact h2 w) h1
  cases hk : eqK k j with
  | true =>
    have := eqK_eq hk; subst this
    refine ⟨fun v T u nx h => ?_, fun s v T u nx h hs => ?_⟩
    · cases op <;> simp only [arithR, R.pure, R.pureS, R.ok.injEq, reduceCtorEq] at h <;>
        (obtain ⟨rfl, rfl, rfl, rfl⟩ := h; exact key _ rfl (fun w => by simp [binOp, Op.intArith, Op.intCmp, Op.intBits, band, bor, bxor, bandn] <;> rfl))
    · cases op <;> simp only [arithR, R.pure, R.pureS, R.okS.injEq, reduceCtorEq] at h <;>
        (obtain ⟨rfl, rfl, rfl, rfl, rfl⟩ := h)
      · exact key _ rfl (fun w => by simp [binOp, Op.intDiv, hs])
      · exact key _ rfl (fun w => by simp [binOp, Op.intDiv, hs])
      · exact key _ rfl (fun w => by simp [binOp, Op.shift, ishl, show ¬ b < 0 by omega])
      · exact key _ rfl (fun w => by simp [binOp, Op.shift, ishr, show ¬ b < 0 by omega])
  | false =>
    refine ⟨fun v T u nx h => ?_, fun s v T u nx h hs => ?_⟩
    · cases op <;> simp only [arithR, R.pureS, reduceCtorEq] at h
    · cases op <;> simp only [arithR, R.pureS, R.okS.injEq, reduceCtorEq] at h <;>
        (obtain ⟨rfl, rfl, rfl, rfl, rfl⟩ := h)
      · exact key _ rfl (fun w => by simp [binOp, Op.shift, ishl, show ¬ b < 0 by omega])
      · exact key _ rfl (fun w => by simp [binOp, Op.shift, ishr, show ¬ b < 0 by omega])

/-! single blocks -/
theorem szOf_pos {t : TypeId} (h : 1 ≤ szOf P t) : ∃ d i, P.underlying t = some d ∧ P.info? t = some i ∧ i.size = szOf P t := by
  unfold szOf at h ⊢
  split at h
  · rename_i d i hd hi; exact ⟨d, i, hd, hi, by simp [hd, hi]⟩
  · omega

theorem addr_add (b o n : Nat) : (⟨b, o, none⟩ : Addr).add n = ⟨b, o + n, none⟩ := by
  unfold Addr.add; split <;> simp_all

theorem cell_of {w : World} {b : Nat} {arr : Array Value} {t : TypeId} {fr : Nat × Nat} (h : w.heap[b]? = some (.cells arr t fr)) {i : Nat} (hi : i < arr.size) :
    w.cell? ⟨b, i, none⟩ = some (arr.getD i undef) := by
  simp [World.cell?, h, hi, Array.getD_eq_getD_getElem?]

theorem run_isAgg {t : TypeId} {d : TypeDesc} (hd : P.underlying t = some d) (w : World) : (isAgg t).run P w = .ok (tkOf (some d)).agg w := by
  cases d <;> simp [isAgg, run_underlying hd, tkOf, TK.agg]

theorem run_loadVar_cells {t : TypeId} {w : World} {b o : Nat} (f : Nat → Value) (hs : 1 ≤ szOf P t) (hc : ∀ j, j < szOf P t → w.cell? ⟨b, o + j, none⟩ = some (f j)) :
    (loadVar t ⟨b, o, none⟩).run P w = .ok (if (tkOf (P.underlying t)).agg = true then .agg ((List.range (szOf P t)).map f).toArray else f 0) w := by
  obtain ⟨d, i, hd, hi, hz⟩ := szOf_pos hs
  have hl := run_loadCells (P := P) w ⟨b, o, none⟩ (szOf P t) f (fun j hj => by rw [addr_add]; exact hc j hj)
  have h0 := hc 0 (by omega)
  simp only [Nat.add_zero] at h0
  unfold loadVar
  rw [Sem.run_bind, run_isAgg hd, hd]
  cases ha : (tkOf (some d)).agg with
  | true => simp [sizeOf, typeInfo, hi, hz, hl]
  | false => simp [h0]

theorem getD_of {arr : Array Value} {j : Nat} : arr.getD j undef = (arr[j]?).getD undef := by simp [Array.getD_eq_getD_getElem?]

theorem takeAs_rd {ρ : IdMap} {F : FSet} {w : World} {t : TypeId} {cs : List AV} {off : Nat} {f : Nat → Value} (hs : 1 ≤ szOf P t) (hl : off + szOf P t ≤ cs.length)
    (hc : ∀ j c, cs[j]? = some c → Rd ρ F w c (f j)) :
    Rd ρ F w (takeAs (tkOf (P.underlying t)) (szOf P t) (cs.drop off)) (if (tkOf (P.underlying t)).agg = true then .agg ((List.range (szOf P t)).map fun j => f (off + j)).toArray else f (off + 0)) := by
  unfold takeAs
  cases ha : (tkOf (P.underlying t)).agg with
  | true =>
    simp only [if_true]
    refine .agg _ _ (by simp; omega) (fun j c hj => ?_)
    have hj' : j < szOf P t ∧ cs[off + j]? = some c := by
      rw [List.getElem?_take] at hj
      split at hj
      · exact ⟨‹_›, by simpa using hj⟩
      · cases hj
    simp [getD_of, hj'.1]
    exact hc _ _ hj'.2
  | false =>
    simp only [Bool.false_eq_true, if_false]
    cases hd : cs.drop off with
    | nil =>
      have := congrArg List.length hd
      simp at this
      omega
    | cons c r =>
      simp only [headA]
      have : cs[off]? = some c := by
        have h2 : (cs.drop off)[0]? = some c := by rw [hd]; rfl
        simpa using h2
      exact hc _ _ (by simpa using this)

theorem ok_load_blk {o : Oper} {st : AS} {t : TypeId} {x : Operand} (ho : o.op = .load t x) {id off : Nat} (hx : ev st x = .ptr id off) {k : Blk} (hk : hget st.hp id = some k)
    (hs : 1 ≤ szOf P t) (hl : off + szOf P t ≤ k.cs.length) : OpOk P o st (takeAs (tkOf (P.underlying t)) (szOf P t) (k.cs.drop off)) [id] [] st.nx where
  tri ρ F a w hpre hin K Q hK := by
    have h1 := hin x (by simp [ho, Op.operands])
    rw [hx] at h1
    obtain ⟨b, hb, hv⟩ := h1.ptrInv
    have hr : restr [id] (hget st.hp) id = some k := by simp [restr, hk]
    rcases hpre.hp.ok id k hr with ⟨_, h0⟩ | ⟨b', hb', hblk⟩
    · rw [h0] at hb; cases hb
    rw [hb] at hb'; cases hb'
    obtain ⟨arr, ha, hlen, hc⟩ := hblk.is
    have hrun := run_loadVar_cells (P := P) (t := t) (w := w) (b := b) (o := off) (fun j => arr.getD (off + j) undef) hs (fun j hj => cell_of ha (by omega))
    unfold Oper.wp
    have hex : (execOp a.eval o).run P w = .ok (.value (if (tkOf (P.underlying t)).agg = true then .agg ((List.range (szOf P t)).map fun j => arr.getD (off + j) undef).toArray else arr.getD (off + 0) undef)) w := by
      simp only [execOp, ho, hv, Instr.loadAt, Instr.sureAddr, Sem.run_bind, Sem.run_pure, Result.andThen_ok, hrun]
    rw [hex]
    refine hK _ ρ F w ⟨fun _ _ h => h, fun i h1 h2 => absurd h1 h2, fun i b h1 h2 => (by rw [h1] at h2; cases h2), takeAs_rd hs hl (f := fun j => arr.getD j undef) (fun j c hj => (hc j c hj).2), ?_, hpre.fok, Chg.refl _ _ _⟩
    have : restr ([id] ++ keys []) (updH [] (hget st.hp)) = restr [id] (hget st.hp) := by funext i; simp [restr, keys, updH]
    rw [this]
    exact hpre.hp
  le := Nat.le_refl _
  keysOk i hi := by simp [keys] at hi
  live i hi := by simp at hi; subst hi; rw [hk]; simp

def rset (ρ : IdMap) (id b : Nat) : IdMap := fun i => if i = id then some b else ρ i

/-- a new block -/
theorem Post.newBlk {ρ : IdMap} {F : FSet} {w w1 : World} {id : Nat} {t : TypeId} {cs : List AV} {arr : Array Value} {h : Heap} {v : AV} {x : Value}
    (hf : FOk F w) (hid : ρ id = none) (hl : cs.length ≤ arr.size) (hc : ∀ j c, cs[j]? = some c → (arr.getD j undef).oneCell' = true ∧ Rd ρ F w c (arr.getD j undef))
    (e1 : w1.heap = w.heap) (e2 : w1.os = w.os) (e3 : w1.tape = w.tape) (e4 : w1.output = w.output)
    (hv : Rd (rset ρ id w.heap.size) F (w1.alloc (.cells arr t)) v x) :
    Post ρ F w [] [(id, some ⟨t, cs⟩)] h v x (rset ρ id w.heap.size) F (w1.alloc (.cells arr t)) := by
  have hne : ∀ b, ¬ OSet ρ (keys [(id, some (⟨t, cs⟩ : Blk))]) b := by
    rintro b ⟨i, hi, hb⟩
    simp [keys] at hi
    subst hi
    rw [hid] at hb; cases hb
  have hsame : ∀ b, b < w.heap.size → (w1.alloc (.cells arr t)).heap[b]? = w.heap[b]? := fun b hb => by
    rw [← e1] at hb ⊢; exact Below.heap_alloc w1 _ b hb
  have hchg : Chg (OSet ρ (keys [(id, some (⟨t, cs⟩ : Blk))])) F F w (w1.alloc (.cells arr t)) :=
    ⟨e2, e3, e4, by simp [World.alloc, e1], fun b hb _ => hsame b hb, fun b n hcl => by
      obtain ⟨ar, t', fr, hb, hn⟩ := hcl
      exact ⟨ar, t', fr, (hsame b (Array.getElem?_eq_some_iff.1 hb).1).trans hb, hn⟩, fun _ h => h, fun _ h => .inl h⟩
  have hrho : ∀ i b, ρ i = some b → rset ρ id w.heap.size i = some b := fun i b hb => by
    unfold rset; split
    · subst_vars; rw [hid] at hb; cases hb
    · exact hb
  refine ⟨hrho, fun i h1 h2 => ?_, fun i b h1 h2 => ?_, hv, ⟨fun i k hk => ?_, fun i j b hi hj _ _ => ?_⟩, fun b hb => Nat.lt_of_lt_of_le (hf b hb) hchg.size, hchg⟩
  · unfold rset at h2; split at h2
    · subst_vars; simp [keys]
    · exact absurd h1 h2
  · unfold rset at h2; split at h2
    · left; cases h2; exact Nat.le_refl _
    · rw [h1] at h2; cases h2
  · obtain ⟨hi, hk⟩ := restr_some hk
    simp [keys] at hi
    subst hi
    simp [updH, keys, hget] at hk
    subst hk
    refine .inr ⟨w.heap.size, by simp [rset], ⟨fun hF => absurd (hf _ hF) (Nat.lt_irrefl _), arr, ?_, hl, fun j c hj => ⟨(hc j c hj).1, (hc j c hj).2.mono hrho hchg.sub (fun b hb => hsame b (hf b hb)) hchg.cells⟩⟩⟩
    rw [← e1]; exact heap_alloc_new w1 _
  · have key : ∀ i, restr ([] ++ keys [(id, some (⟨t, cs⟩ : Blk))]) (updH [(id, some ⟨t, cs⟩)] h) i ≠ none → i = id := fun i hi => by
      unfold restr at hi
      split at hi
      · rename_i hm; simpa [keys] using hm
      · exact absurd rfl hi
    rw [key i hi, key j hj]

theorem ok_box {o : Oper} {st : AS} {t : TypeId} {x : Operand} (ho : o.op = .box t x) (h1 : oneCs (cells (ev st x)) = true) :
    OpOk P o st (.ptr st.nx 0) [] [(st.nx, some ⟨t, cells (ev st x)⟩)] (st.nx + 1) where
  tri ρ F a w hpre hin K Q hK := by
    have hr := hin x (by simp [ho, Op.operands])
    obtain ⟨hl, hc⟩ := hr.cells h1
    have hid := hpre.fresh st.nx (by simp [keys]) (by simp)
    unfold Oper.wp
    have hex : (execOp a.eval o).run P w = .ok (.value (.pointer (some ⟨w.heap.size, 0, none⟩))) (w.alloc (.cells (a.eval x).cells t)) := by
      simp only [execOp, ho]; rfl
    rw [hex]
    exact hK _ _ F _ (Post.newBlk hpre.fok hid (by omega) (fun j c hj => ⟨(hc j c hj).one (oneCs_get h1 hj), hc j c hj⟩) rfl rfl rfl rfl (.ptr _ _ _ (by simp [rset])))
  le := Nat.le_succ _
  keysOk i hi := by simp [keys] at hi; subst hi; exact .inr ⟨Nat.le_refl _, Nat.lt_succ_self _⟩
  live i hi := by simp at hi

theorem pvs_get {z : List Value} {j : Nat} {c : AV} (h : (pvs z)[j]? = some c) : ∃ y, z[j]? = some y ∧ c = .p (.v y) := by
  induction z generalizing j with
  | nil => simp [pvs] at h
  | cons x r ih =>
    cases j with
    | zero => simp [pvs] at h; exact ⟨x, rfl, h.symm⟩
    | succ j => simp [pvs] at h; simpa using ih h
theorem pvs_len (z : List Value) : (pvs z).length = z.length := by induction z <;> simp_all [pvs]
theorem oneVs_get {z : List Value} (h : oneVs z = true) {j : Nat} {y : Value} (hj : z[j]? = some y) : y.oneCell' = true := by
  induction z generalizing j with
  | nil => simp at hj
  | cons x r ih =>
    unfold oneVs at h
    cases hc : x.oneCell' with
    | false => rw [hc] at h; cases h
    | true =>
      rw [hc] at h
      cases j with
      | zero => simp at hj; subst hj; exact hc
      | succ j => exact ih h (by simpa using hj)

theorem ok_alloc {o : Oper} {st : AS} {t : TypeId} (ho : o.op = .alloc t) {z : List Value} (hz : (tiOf P t).zero = some z) (h1 : oneVs z = true) :
    OpOk P o st (.ptr st.nx 0) [] [(st.nx, some ⟨t, pvs z⟩)] (st.nx + 1) where
  tri ρ F a w hpre hin K Q hK := by
    have hid := hpre.fresh st.nx (by simp [keys]) (by simp)
    simp only [tiOf, Option.bind_eq_some_iff, Option.map_eq_some_iff] at hz
    obtain ⟨i, hi, zv, hzv, rfl⟩ := hz
    unfold Oper.wp
    have hex : (execOp a.eval o).run P w = .ok (.value (.pointer (some ⟨w.heap.size, 0, none⟩))) (w.alloc (.cells zv.cells t)) := by
      simp [execOp, ho, Instr.alloc, zeroValue, typeInfo, hi, hzv]; rfl
    rw [hex]
    refine hK _ _ F _ (Post.newBlk hpre.fok hid (by simp [pvs_len]) (fun j c hj => ?_) rfl rfl rfl rfl (.ptr _ _ _ (by simp [rset])))
    obtain ⟨y, hy, rfl⟩ := pvs_get hj
    have hy1 := oneVs_get h1 hy
    have : zv.cells.getD j undef = y := by
      have hy' : zv.cells[j]? = some y := by simpa using hy
      simp [getD_of, hy']
    rw [this]
    exact ⟨hy1, .ofV hy1⟩
  le := Nat.le_succ _
  keysOk i hi := by simp [keys] at hi; subst hi; exact .inr ⟨Nat.le_refl _, Nat.lt_succ_self _⟩
  live i hi := by simp at hi

theorem setAt_len (vs : List AV) : ∀ (cs : List AV) (i : Nat), (setAt cs i vs).length = cs.length := by
  induction vs with
  | nil => intro cs i; rfl
  | cons v r ih => intro cs i; simp [setAt, ih]
theorem setAt_get (vs : List AV) : ∀ (cs : List AV) (i j : Nat), i + vs.length ≤ cs.length →
    (setAt cs i vs)[j]? = if i ≤ j ∧ j < i + vs.length then vs[j - i]? else cs[j]? := by
  induction vs with
  | nil => intro cs i j _; simp [setAt]; omega
  | cons v r ih =>
    intro cs i j h
    simp only [List.length_cons] at h
    simp only [setAt]
    rw [ih (cs.set i v) (i + 1) j (by simp; omega)]
    simp only [List.length_cons, List.getElem?_set]
    by_cases h1 : i + 1 ≤ j ∧ j < i + 1 + r.length
    · rw [if_pos h1, if_pos (by omega)]
      obtain ⟨k, rfl⟩ : ∃ k, j = i + 1 + k := ⟨j - (i + 1), by omega⟩
      rw [show i + 1 + k - (i + 1) = k by omega, show i + 1 + k - i = k + 1 by omega]
      simp
    · rw [if_neg h1]
      by_cases h2 : i = j
      · subst h2
        rw [if_pos rfl, if_pos (by omega), if_pos (by omega)]
        simp
      · rw [if_neg h2, if_neg (by omega)]

theorem setRow_same {w : World} {b : Nat} {arr arr' : Array Value} {t : TypeId} {fr : Nat × Nat} (ha : w.heap[b]? = some (.cells arr t fr)) (hz : arr'.size = arr.size) (O F : FSet) (hO : O b) :
    Chg O F F w (w.setRow b arr') where
  os := rfl
  tape := rfl
  output := rfl
  size := by simp [World.setRow]
  same k _ hk := setRow_other w b k arr' (fun e => hk (e ▸ hO))
  cells k n hc := by
    obtain ⟨ar, t', fr', hb, hn⟩ := hc
    by_cases hk : k = b
    · subst hk
      rw [ha] at hb
      cases hb
      exact ⟨arr', t, fr, setRow_heap w k arr arr' t fr ha, by omega⟩
    · exact ⟨ar, t', fr', (setRow_other w b k arr' hk).trans hb, hn⟩
  sub _ h := h
  new _ h := .inl h

/-- a block that is written -/
theorem Post.wrBlk {ρ : IdMap} {F : FSet} {w : World} {id b : Nat} {t : TypeId} {cs : List AV} {arr arr' : Array Value} {h : Heap} {v : AV} {x : Value}
    (hf : FOk F w) (hF : ¬ F b) (hid : ρ id = some b) (ha : w.heap[b]? = some (.cells arr t (0, 0))) (hz : arr'.size = arr.size) (hl : cs.length ≤ arr'.size)
    (hc : ∀ j c, cs[j]? = some c → (arr'.getD j undef).oneCell' = true ∧ Rd ρ F w c (arr'.getD j undef))
    (hv : Rd ρ F w v x) : Post ρ F w [id] [(id, some ⟨t, cs⟩)] h v x ρ F (w.setRow b arr') := by
  have hO : OSet ρ (keys [(id, some (⟨t, cs⟩ : Blk))]) b := ⟨id, by simp [keys], hid⟩
  have hchg := setRow_same ha hz (OSet ρ (keys [(id, some (⟨t, cs⟩ : Blk))])) F hO
  have hsame : ∀ k, F k → (w.setRow b arr').heap[k]? = w.heap[k]? := fun k hk => setRow_other w b k arr' (fun e => hF (e ▸ hk))
  refine ⟨fun _ _ h => h, fun i h1 h2 => absurd h1 h2, fun i b h1 h2 => (by rw [h1] at h2; cases h2), hv.mono (fun _ _ h => h) (fun _ h => h) hsame hchg.cells, ⟨fun i k hk => ?_, fun i j c hi hj _ _ => ?_⟩, fun k hk => Nat.lt_of_lt_of_le (hf k hk) hchg.size, hchg⟩
  · obtain ⟨hi, hk⟩ := restr_some hk
    simp [keys] at hi
    subst hi
    simp [updH, keys, hget] at hk
    subst hk
    exact .inr ⟨b, hid, ⟨hF, arr', setRow_heap w b arr arr' t _ ha, hl, fun j c hj => ⟨(hc j c hj).1, (hc j c hj).2.mono (fun _ _ h => h) (fun _ h => h) hsame hchg.cells⟩⟩⟩
  · have key : ∀ i, restr ([id] ++ keys [(id, some (⟨t, cs⟩ : Blk))]) (updH [(id, some ⟨t, cs⟩)] h) i ≠ none → i = id := fun i hi => by
      unfold restr at hi
      split at hi
      · rename_i hm; simpa [keys] using hm
      · exact absurd rfl hi
    rw [key i hi, key j hj]

/-- the cells of a block after a stretch of it has been written -/
theorem spliced {ρ : IdMap} {F : FSet} {w : World} {arr : Array Value} {cs vs : List AV} {us : List Value} {off : Nat} (hl : cs.length ≤ arr.size) (hfit : off + vs.length ≤ cs.length) (hn : us.length = vs.length)
    (hc : ∀ j c, cs[j]? = some c → (arr.getD j undef).oneCell' = true ∧ Rd ρ F w c (arr.getD j undef))
    (hv : ∀ j c, vs[j]? = some c → (us.getD j undef).oneCell' = true ∧ Rd ρ F w c (us.getD j undef)) :
    ∀ j c, (setAt cs off vs)[j]? = some c →
      (((arr.toList.take off ++ us ++ arr.toList.drop (off + us.length)).toArray).getD j undef).oneCell' = true ∧
      Rd ρ F w c (((arr.toList.take off ++ us ++ arr.toList.drop (off + us.length)).toArray).getD j undef) := by
  intro j c hj
  rw [setAt_get vs cs off j hfit] at hj
  have hget : ((arr.toList.take off ++ us ++ arr.toList.drop (off + us.length)).toArray).getD j undef = if off ≤ j ∧ j < off + vs.length then us.getD (j - off) undef else arr.getD j undef := by
    have hoff : min off arr.size = off := by omega
    simp only [getD_of, List.getElem?_toArray, List.getElem?_append, List.length_append, List.length_take, Array.length_toList, hoff, List.getElem?_take, List.getElem?_drop, Array.getElem?_toList, hn, List.getD_eq_getElem?_getD]
    by_cases h1 : j < off
    · simp [h1, show j < off + vs.length by omega, show ¬ (off ≤ j) by omega]
    · by_cases h2 : j < off + vs.length
      · simp [h1, h2, show off ≤ j by omega]
      · simp only [h1, h2, if_false, and_false]
        rw [show off + vs.length + (j - (off + vs.length)) = j by omega]
  rw [hget]
  split at hj
  · rename_i hh; rw [if_pos hh]; exact hv _ _ hj
  · rename_i hh; rw [if_neg hh]; exact hc _ _ hj

theorem ok_store {o : Oper} {st : AS} {t : TypeId} {x y : Operand} (ho : o.op = .store t x y) {id off : Nat} (hx : ev st x = .ptr id off) {k : Blk} (hk : hget st.hp id = some k)
    (h1 : oneCs (cells (ev st y)) = true) (hl : off + (cells (ev st y)).length ≤ k.cs.length) (hs : (cells (ev st y)).length = szOf P t) (hp : 1 ≤ szOf P t) :
    OpOk P o st .any [id] [(id, some ⟨k.t, setAt k.cs off (cells (ev st y))⟩)] st.nx where
  tri ρ F a w hpre hin K Q hK := by
    have hx1 := hin x (by simp [ho, Op.operands])
    have hy1 := hin y (by simp [ho, Op.operands])
    rw [hx] at hx1
    obtain ⟨b, hb, hv⟩ := hx1.ptrInv
    obtain ⟨hyl, hyc⟩ := hy1.cells h1
    have hr : restr [id] (hget st.hp) id = some k := by simp [restr, hk]
    rcases hpre.hp.ok id k hr with ⟨_, h0⟩ | ⟨b', hb', hblk⟩
    · rw [h0] at hb; cases hb
    rw [hb] at hb'; cases hb'
    obtain ⟨arr, ha, hlen, hc⟩ := hblk.is
    obtain ⟨d, i, hd, hi, hz⟩ := szOf_pos hp
    have hn : (a.eval y).cells.toList.length = (cells (ev st y)).length := by simpa using hyl
    have hvs : ∀ j c, (cells (ev st y))[j]? = some c → ((a.eval y).cells.toList.getD j undef).oneCell' = true ∧ Rd ρ F w c ((a.eval y).cells.toList.getD j undef) := by
      intro j c hj
      have e : (a.eval y).cells.toList.getD j undef = (a.eval y).cells.getD j undef := by simp [getD_of, List.getD_eq_getElem?_getD]
      rw [e]
      exact ⟨(hyc j c hj).one (oneCs_get h1 hj), hyc j c hj⟩
    have hone : ∀ v ∈ (a.eval y).cells.toList, v.oneCell' = true := by
      intro v hv
      obtain ⟨j, hj⟩ := List.getElem?_of_mem hv
      have hjl : j < (cells (ev st y)).length := by rw [← hn]; exact (List.getElem?_eq_some_iff.1 hj).1
      have := (hvs j _ (List.getElem?_eq_getElem hjl)).1
      simpa [List.getD_eq_getElem?_getD, hj] using this
    have hst := run_storeCells_at P b off k.t (a.eval y).cells.toList 0 arr w ha (by omega) hone
    simp only [Nat.add_zero] at hst
    unfold Oper.wp
    have hex : (execOp a.eval o).run P w = .ok .skip (w.setRow b (arr.toList.take off ++ (a.eval y).cells.toList ++ arr.toList.drop (off + (a.eval y).cells.toList.length)).toArray) := by
      have hsz : (a.eval y).cells.size = i.size := by rw [hyl, hs, hz]
      simp only [execOp, ho, hv, Instr.storeAt, Instr.sureAddr, storeVar, Sem.run_bind, Sem.run_pure, Result.andThen_ok, sizeOf, typeInfo, run_program, hi]
      simp [hsz, hst]
    rw [hex]
    refine hK _ ρ F _ (Post.wrBlk hpre.fok hblk.own hb ha ?_ ?_ (spliced hlen hl hn hc hvs) (.any _))
    · simp only [List.size_toArray, List.length_append, List.length_take, List.length_drop, Array.length_toList]; omega
    · simp only [setAt_len, List.size_toArray, List.length_append, List.length_take, List.length_drop, Array.length_toList]; omega
  le := Nat.le_refl _
  keysOk i hi := by simp [keys] at hi; subst hi; exact .inl (by simp)
  live i hi := by simp at hi; subst hi; rw [hk]; simp

end Go.Abs

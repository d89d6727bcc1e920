/-
  The executor's operations are sound: indexing, lengths, conversions, interfaces, literals. Own work; no statement of the seat is proved here.
-/
import Derived.Test.YtpelcbonflijhaaAbsE
namespace Go.Abs
set_option linter.unusedSimpArgs false
set_option linter.unusedVariables false
open Go Go.RowKit
variable {P : Program}

theorem run_indexSlice {t : TypeId} {A : Addr} {n cap : Nat} {k : IntKind} {i : Int} (hu : P.underlying t = some (.slice (tiOf P t).elem)) (hs1 : 1 ≤ szOf P (tiOf P t).elem) (h0 : 0 ≤ i) (h1 : i < n) (w : World) :
    (Instr.indexAt t (.slice (some A) n cap) (.int k i)).run P w = .ok (.pointer (some (A.add (i.toNat * szOf P (tiOf P t).elem)))) w := by
  obtain ⟨d, inf, hd, hi', hz⟩ := szOf_pos (P := P) (t := (tiOf P t).elem) hs1
  simp [Instr.indexAt, asIntOf, run_underlying hu, h0, h1, sizeOf, typeInfo, hi', hz]

theorem ok_indexData {o : Oper} {st : AS} {t : TypeId} {x y : Operand} (ho : o.op = .indexAddr t x y) {s n : Nat} {cs : List PV} (hx : ev st x = .p (.data s n cs)) {k : IntKind} {i : Int} (hy : ev st y = .p (.v (.int k i)))
    (hk : (tiOf P t).kind = .slice) (hs : szOf P (tiOf P t).elem = s) (hs1 : 1 ≤ s) (h0 : 0 ≤ i) (h1 : i < n) : OpOk P o st (.cp (cs.drop (i.toNat * s))) [] [] st.nx :=
  ok_pure fun ρ F a w hin => by
    have hr := hin x (by simp [ho, Op.operands])
    have hr2 := hin y (by simp [ho, Op.operands])
    rw [hx] at hr; rw [hy] at hr2
    rcases hr.dataInv with ⟨rfl, _⟩ | ⟨b, off, cap, f, hv, hl, hcap, hF, hc, h1c, hrc⟩
    · exfalso; omega
    · refine ⟨_, by simp only [execOp, ho, hv, hr2.pv, Sem.run_bind, run_indexSlice (ti_slice hk) (by omega) h0 h1, Result.andThen_ok, Sem.run_pure]; rfl, ?_⟩
      rw [addr_add, hs]
      exact .cpDrop hF hc h1c hrc _

theorem ok_indexSl {o : Oper} {st : AS} {t : TypeId} {x y : Operand} (ho : o.op = .indexAddr t x y) {id off n s : Nat} (hx : ev st x = .sl id off n s) {k : IntKind} {i : Int} (hy : ev st y = .p (.v (.int k i)))
    (hk : (tiOf P t).kind = .slice) (hs : szOf P (tiOf P t).elem = s) (hs1 : 1 ≤ s) (h0 : 0 ≤ i) (h1 : i < n) : OpOk P o st (.ptr id (off + i.toNat * s)) [] [] st.nx :=
  ok_pure fun ρ F a w hin => by
    have hr := hin x (by simp [ho, Op.operands])
    have hr2 := hin y (by simp [ho, Op.operands])
    rw [hx] at hr; rw [hy] at hr2
    rcases hr.slInv with ⟨rfl, _⟩ | ⟨b, cap, hb', hv, hcap, hc⟩
    · exfalso; omega
    · refine ⟨_, by simp only [execOp, ho, hv, hr2.pv, Sem.run_bind, run_indexSlice (ti_slice hk) (by omega) h0 h1, Result.andThen_ok, Sem.run_pure]; rfl, ?_⟩
      rw [addr_add, hs]
      exact .ptr _ _ _ hb'

theorem ok_indexPtr {o : Oper} {st : AS} {t : TypeId} {x y : Operand} (ho : o.op = .indexAddr t x y) {id off : Nat} (hx : ev st x = .ptr id off) {k : IntKind} {i : Int} (hy : ev st y = .p (.v (.int k i)))
    (hk : (tiOf P t).kind = .array) (hs1 : 1 ≤ szOf P (tiOf P t).elem) (h0 : 0 ≤ i) (h1 : i < (tiOf P t).len) : OpOk P o st (.ptr id (off + i.toNat * szOf P (tiOf P t).elem)) [] [] st.nx :=
  ok_pure fun ρ F a w hin => by
    have hr := hin x (by simp [ho, Op.operands])
    have hr2 := hin y (by simp [ho, Op.operands])
    rw [hx] at hr; rw [hy] at hr2
    obtain ⟨b, hb', hv⟩ := hr.ptrInv
    have hu := ti_array hk
    obtain ⟨d, inf, hd, hi', hz⟩ := szOf_pos (P := P) (t := (tiOf P t).elem) hs1
    refine ⟨_, ?_, .ptr _ _ _ hb'⟩
    simp [execOp, ho, hv, hr2.pv, Instr.indexAt, asIntOf, run_underlying hu, Instr.sureAddr, h0, h1, sizeOf, typeInfo, hi', hz, addr_add]

theorem ok_indexStr {o : Oper} {st : AS} {t : TypeId} {x y : Operand} (ho : o.op = .index t x y) {s : ByteArray} (hx : ev st x = .p (.v (.string s))) {k : IntKind} {i : Int} (hy : ev st y = .p (.v (.int k i)))
    (hk : (tiOf P t).kind = .str) (h0 : 0 ≤ i) (h1 : i < s.size) : OpOk P o st (.p (.v (.int .u8 ((s.data.toList.getD i.toNat 0).toNat : Int)))) [] [] st.nx :=
  ok_pure fun ρ F a w hin => by
    have hr := hin x (by simp [ho, Op.operands])
    have hr2 := hin y (by simp [ho, Op.operands])
    rw [hx] at hr; rw [hy] at hr2
    have hlt : i.toNat < s.size := by omega
    have hu := ti_str hk
    refine ⟨_, ?_, .ofI _ _⟩
    have e : s[i.toNat]? = some s[i.toNat] := by simp [hlt]
    have e2 : s.data.toList.getD i.toNat 0 = s[i.toNat] := by
      have : i.toNat < s.data.toList.length := by simpa using hlt
      rw [List.getD_eq_getElem?_getD, List.getElem?_eq_getElem this]
      rfl
    rw [e2]
    simp [execOp, ho, hr.pv, hr2.pv, Instr.index, asIntOf, run_underlying hu, h0, e]

/-- 'len' -/
theorem ok_len {o : Oper} {st : AS} {t : TypeId} {x : Operand} (ho : o.op = .call ⟨.builtin .len, #[x], #[t]⟩) {n : Nat}
    (h : ((tiOf P t).kind = .slice ∧ ((∃ s cs, ev st x = .p (.data s n cs)) ∨ (∃ A c, ev st x = .p (.v (.slice A n c))) ∨ ∃ id off s, ev st x = .sl id off n s)) ∨
      ((tiOf P t).kind = .str ∧ ∃ s : ByteArray, s.size = n ∧ ev st x = .p (.v (.string s)))) : OpOk P o st (.i n) [] [] st.nx :=
  ok_pure fun ρ F a w hin => by
    have hr := hin x (by simp [ho, Op.operands, Call.operands])
    rcases h with ⟨hk, h⟩ | ⟨hk, s, rfl, hx⟩
    · have hu := ti_slice hk
      have hv : ∃ A c, a.eval x = .slice A n c := by
        rcases h with ⟨s, cs, hx⟩ | ⟨A, c, hx⟩ | ⟨id, off, s, hx⟩
        · rw [hx] at hr
          rcases hr.dataInv with ⟨rfl, _, A, cap, hv⟩ | ⟨b, off, cap, f, hv, _⟩
          · exact ⟨A, cap, hv⟩
          · exact ⟨_, cap, hv⟩
        · rw [hx] at hr; exact ⟨A, c, hr.pv⟩
        · rw [hx] at hr
          rcases hr.slInv with ⟨rfl, A, hv⟩ | ⟨b, cap, _, hv, _⟩
          · exact ⟨A, 0, hv⟩
          · exact ⟨_, cap, hv⟩
      obtain ⟨A, c, hv⟩ := hv
      refine ⟨.int .i64 n, ?_, .ofI _ _⟩
      simp [execOp, ho, resolve, invoke, builtin, hv, Builtin.len_, run_underlying hu, goInt]
    · have hu := ti_str hk
      rw [hx] at hr
      refine ⟨.int .i64 s.size, ?_, .ofI _ _⟩
      simp [execOp, ho, resolve, invoke, builtin, hr.pv, Builtin.len_, run_underlying hu, goInt]

theorem ok_max {o : Oper} {st : AS} {ts : Array TypeId} {x y : Operand} (ho : o.op = .call ⟨.builtin .max, #[x, y], ts⟩) {k j : IntKind} {a b : Int} (hx : ev st x = .p (.v (.int k a))) (hy : ev st y = .p (.v (.int j b))) :
    OpOk P o st (.p (.v (.int k (if b > a then b else a)))) [] [] st.nx :=
  ok_pure fun ρ F ac w hin => by
    have hr := hin x (by simp [ho, Op.operands, Call.operands])
    have hr2 := hin y (by simp [ho, Op.operands, Call.operands])
    rw [hx] at hr; rw [hy] at hr2
    exact ⟨_, by simp [execOp, ho, resolve, invoke, builtin, hr.pv, hr2.pv, Builtin.max_, Builtin.max2], .ofI _ _⟩

theorem ok_min {o : Oper} {st : AS} {ts : Array TypeId} {x y : Operand} (ho : o.op = .call ⟨.builtin .min, #[x, y], ts⟩) {k j : IntKind} {a b : Int} (hx : ev st x = .p (.v (.int k a))) (hy : ev st y = .p (.v (.int j b))) :
    OpOk P o st (.p (.v (.int k (if b < a then b else a)))) [] [] st.nx :=
  ok_pure fun ρ F ac w hin => by
    have hr := hin x (by simp [ho, Op.operands, Call.operands])
    have hr2 := hin y (by simp [ho, Op.operands, Call.operands])
    rw [hx] at hr; rw [hy] at hr2
    exact ⟨_, by simp [execOp, ho, resolve, invoke, builtin, hr.pv, hr2.pv, Builtin.min_, Builtin.min2], .ofI _ _⟩

theorem ok_un {o : Oper} {st : AS} {op : UnOp} {t : TypeId} {x : Operand} (ho : o.op = .unOp op t x) {v r : Value} (hx : ev st x = .p (.v v)) (hr : ∀ w, (Op.unary op v).run P w = .ok r w) (h1 : r.oneCell' = true) :
    OpOk P o st (.p (.v r)) [] [] st.nx :=
  ok_pure fun ρ F a w hin => by
    have hr1 := hin x (by simp [ho, Op.operands])
    rw [hx] at hr1
    exact ⟨r, by simp only [execOp, ho, hr1.pv, Sem.run_bind, hr w, Result.andThen_ok, Sem.run_pure], .ofV h1⟩

theorem ok_convInt {o : Oper} {st : AS} {s d : TypeId} {x : Operand} (ho : o.op = .convert s d x) {j k : IntKind} {n : Int} (hx : ev st x = .p (.v (.int j n))) (hd : (tiOf P d).kind = .int k) (hs : (tiOf P s).kind ≠ .none) :
    OpOk P o st (.p (.v (.int k (k.wrap n)))) [] [] st.nx :=
  ok_pure fun ρ F a w hin => by
    have hr1 := hin x (by simp [ho, Op.operands])
    rw [hx] at hr1
    have hu := ti_int hd
    cases hus : P.underlying s with
    | none => exact absurd (by simp [tiOf, hus, tkOf]) hs
    | some ds => exact ⟨_, by simp [execOp, ho, hr1.pv, convert, run_underlying hu, run_underlying hus, Conv.intToInt], .ofI _ _⟩

theorem ok_iface {o : Oper} {st : AS} {t : TypeId} {x : Operand} (ho : o.op = .makeInterface t x) (hk : (tiOf P t).kind ≠ .iface) (hk' : (tiOf P t).kind ≠ .none) : OpOk P o st (.iface t (ev st x)) [] [] st.nx :=
  ok_pure fun ρ F a w hin => by
    have hr1 := hin x (by simp [ho, Op.operands])
    refine ⟨.iface t (a.eval x), ?_, .iface _ _ _ hr1⟩
    cases hu : P.underlying t with
    | none => exact absurd (by simp [tiOf, hu, tkOf]) hk'
    | some d =>
      have hni : ∀ ms, d ≠ .interface ms := fun ms e => hk (by subst e; simp [tiOf, hu, tkOf])
      simp only [execOp, ho, Instr.makeInterface, Sem.run_bind, run_underlying hu, Result.andThen_ok]
      cases d <;> first | rfl | exact absurd rfl (hni _)

theorem evs_get (st : AS) : ∀ (l : List Operand) (j : Nat) (c : AV), (evs st l)[j]? = some c → ∃ x, l[j]? = some x ∧ c = ev st x := by
  intro l
  induction l with
  | nil => intro j c h; simp [evs] at h
  | cons x r ih =>
    intro j c h
    cases j with
    | zero => simp [evs] at h; exact ⟨x, rfl, h.symm⟩
    | succ j => simp [evs] at h; simpa using ih j c h
theorem evs_len (st : AS) (l : List Operand) : (evs st l).length = l.length := by induction l <;> simp_all [evs]

theorem rd_evs {ρ : IdMap} {F : FSet} {w : World} {st : AS} {a : Act} {xs : Array Operand} (h : ∀ x, x ∈ xs → Rd ρ F w (ev st x) (a.eval x)) :
    (xs.map a.eval).size = (evs st xs.toList).length ∧ ∀ j c, (evs st xs.toList)[j]? = some c → Rd ρ F w c ((xs.map a.eval).getD j undef) := by
  refine ⟨by simp [evs_len], fun j c hj => ?_⟩
  obtain ⟨x, hx, rfl⟩ := evs_get st _ j c hj
  have hx' : xs[j]? = some x := by simpa using hx
  have : (xs.map a.eval).getD j undef = a.eval x := by simp [getD_of, hx']
  rw [this]
  exact h x (Array.mem_of_getElem? hx')

theorem ok_makeFunc {o : Oper} {st : AS} {f : Fn} {xs ys : Array Operand} (ho : o.op = .makeFunc f xs ys) : OpOk P o st (.fn f (evs st xs.toList) (evs st ys.toList)) [] [] st.nx :=
  ok_pure fun ρ F a w hin => by
    obtain ⟨l1, r1⟩ := rd_evs (xs := xs) (st := st) (a := a) (ρ := ρ) (F := F) (w := w) (fun x hx => hin x (by simp [ho, Op.operands, hx]))
    obtain ⟨l2, r2⟩ := rd_evs (xs := ys) (st := st) (a := a) (ρ := ρ) (F := F) (w := w) (fun x hx => hin x (by simp [ho, Op.operands, hx]))
    exact ⟨.func f (xs.map a.eval) (ys.map a.eval), by simp [execOp, ho, Instr.makeFunc], .fn _ _ _ _ _ l1 r1 l2 r2⟩

/-- 'x != nil' checks ahead of a load: pointers to owned or frozen memory are none -/
theorem ok_nilCheck {o : Oper} {st : AS} {x : Operand} (ho : o.op = .nilCheck x) (h : (∃ id off, ev st x = .ptr id off) ∨ (∃ cs, ev st x = .cp cs) ∨ (∃ f a b, ev st x = .fn (.func f) a b) ∨ ∃ f a b, ev st x = .p (.v (.func (.func f) a b))) : OpOk P o st (ev st x) [] [] st.nx :=
  ok_pure fun ρ F a w hin => by
    have hr1 := hin x (by simp [ho, Op.operands])
    rcases h with ⟨id, off, hx⟩ | ⟨cs, hx⟩ | ⟨f, as, bs, hx⟩ | ⟨f, as, bs, hx⟩
    · rw [hx] at hr1 ⊢
      obtain ⟨b, _, hv⟩ := hr1.ptrInv
      exact ⟨_, by simp only [execOp, ho, hv]; rfl, hv ▸ hr1⟩
    · rw [hx] at hr1 ⊢
      obtain ⟨b, off, g, hv, _⟩ := hr1.cpInv
      exact ⟨_, by simp only [execOp, ho, hv]; rfl, hv ▸ hr1⟩
    · rw [hx] at hr1 ⊢
      generalize hv : a.eval x = v at hr1
      cases hr1 with
      | fn _ _ _ us vs => exact ⟨.func (.func f) us vs, by simp only [execOp, ho, hv]; rfl, .fn _ _ _ _ _ ‹_› ‹_› ‹_› ‹_›⟩
    · rw [hx] at hr1 ⊢
      exact ⟨_, by simp only [execOp, ho, hr1.pv]; rfl, .ofV rfl⟩

end Go.Abs

/-
  The executor's operations are sound: comparison with nil, cap, slices of nil, append of zeros. Own work; no statement of the seat is proved here.
-/
import Derived.Test.YtpelcbonflijhaaAbsJ
namespace Go.Abs
set_option linter.unusedSimpArgs false
set_option linter.unusedVariables false
open Go Go.RowKit
variable {P : Program}

theorem run_guard_slice (op : BinOp) (t : TypeId) (x y : Operand) (A B : Option Addr) (n m c d : Nat) (w : World) : (eqGuard op t x y (.slice A n c) (.slice B m d)).run P w = .ok () w := by
  cases op <;> simp [eqGuard]

theorem run_eqNil {t : TypeId} {e : TypeId} (ht : P.underlying t = some (.slice e)) (b : Option Addr) (n c : Nat) (w : World) : (Op.equal t (.slice b n c) (.slice none 0 0)).run P w = .ok b.isNone w := by
  have h0 : ∀ (d : Nat), (Op.equalIn (d + 1) t (.slice b n c) (.slice none 0 0)).run P w = .ok b.isNone w := fun d => by
    cases b <;> simp [Op.equalIn, run_underlying ht]
  exact h0 9999

theorem ok_eqNil {o : Oper} {st : AS} {op : BinOp} {t t' : TypeId} {x y : Operand} (ho : o.op = .binOp op t x y t') (hk : (tiOf P t).kind = .slice) (hy : ev st y = .p (.v (.slice none 0 0))) {r : Bool} {side : Prop}
    (hr : side → ∀ (ρ : IdMap) (F : FSet) (w : World) (u : Value), Rd ρ F w (ev st x) u → ∃ b n c, u = .slice b n c ∧ b.isNone = r) :
    (∀ v T u nx, nilEq st op side r = .ok v T u nx → OpOk P o st v T u nx) ∧ (∀ s v T u nx, nilEq st op side r = .okS s v T u nx → s → OpOk P o st v T u nx) := by
  have ht := ti_slice hk
  have key : ∀ (q : Value) , side → q.oneCell' = true → (∀ b n c w, b.isNone = r → (binOp op t (.slice b n c) (.slice none 0 0)).run P w = .ok q w) → OpOk P o st (.p (.v q)) [] [] st.nx := fun q hs h1 h2 =>
    ok_pure fun ρ F a w hin => by
      have e1 := hin x (by simp [ho, Op.operands])
      have e2 := hin y (by simp [ho, Op.operands])
      obtain ⟨b, n, c, hu, hb⟩ := hr hs ρ F w _ e1
      rw [hy] at e2
      refine ⟨q, ?_, .ofV h1⟩
      simp only [execOp, ho, hu, e2.pv, Sem.run_bind, run_guard_slice, Result.andThen_ok, h2 b n c w hb, Sem.run_pure]
  refine ⟨fun v T u nx h => ?_, fun s v T u nx h hs => ?_⟩
  · cases op <;> simp [nilEq, R.pureS] at h
  · cases op <;> simp only [nilEq, R.pureS, R.okS.injEq] at h
    all_goals first
      | (obtain ⟨rfl, rfl, rfl, rfl, rfl⟩ := h
         exact key _ hs rfl (fun b n c w hb => by simp [binOp, run_eqNil ht, hb]))
      | cases h

def capR (st : AS) (ti : TI) : AV → R
  | .p (.v (.slice _ _ c)) => match ti.kind with | .slice => .pure st (.i c) | _ => .bad
  | _ => .bad

theorem ok_cap {o : Oper} {st : AS} {t : TypeId} {x : Operand} (ho : o.op = .call ⟨.builtin .cap, #[x], #[t]⟩) (hk : (tiOf P t).kind = .slice) {A : Option Addr} {n c : Nat} (hx : ev st x = .p (.v (.slice A n c))) :
    OpOk P o st (.i c) [] [] st.nx :=
  ok_pure fun ρ F a w hin => by
    have e1 := hin x (by simp [ho, Op.operands, Call.operands])
    rw [hx] at e1
    refine ⟨.int .i64 c, ?_, .ofV rfl⟩
    simp [execOp, ho, resolve, invoke, builtin, e1.pv, Builtin.cap_, run_underlying (ti_slice hk), goInt]

theorem ok_sliceNil {o : Oper} {st : AS} {t : TypeId} {x : Operand} {lo hi : Option Operand} (ho : o.op = .slice t x lo hi none) (hx : ev st x = .p (.v (.slice none 0 0))) (hk : (tiOf P t).kind = .slice) (hpos : 1 ≤ (tiOf P (tiOf P t).elem).size)
    {l h : Int} (hb : Bnds st lo hi none 0 l h) (h0 : 0 ≤ l) (h1 : l ≤ h) (h2 : h ≤ 0) : OpOk P o st (.p (.v (.slice none 0 0))) [] [] st.nx :=
  ok_pure fun ρ F a w hin => by
    obtain ⟨hx1, hin'⟩ := slice_ops ho
    have hr := hin x hx1
    rw [hx] at hr
    obtain ⟨m, hm1, hm2, hrun⟩ := run_bnds (P := P) (len := 0) (cap := 0) hb (fun y hy => hin y (hin' y hy)) h0 h1 h2 (Nat.le_refl _) true
    simp only [Option.map_none] at hrun
    have hm : m = 0 := by omega
    have hl : l.toNat = 0 := by omega
    have hh : h.toNat = 0 := by omega
    obtain ⟨d, i, hd, hi, hz⟩ := szOf_pos (P := P) (t := (tiOf P t).elem) hpos
    refine ⟨_, ?_, .ofV rfl⟩
    simp [execOp, ho, hr.pv, Instr.sliceAt, run_underlying (ti_slice hk), Instr.slice, hrun, hm, hl, hh, sizeOf, typeInfo, hi]

/-- zeros behind nil, of which nothing is remembered but the room -/
def appZR (st : AS) (ti ei : TI) (dst : AV) : AV → R
  | .p (.v (.int _ m)) => match ti.kind, ei.zero, Nat.ble 1 ei.size with
    | .slice, some z, true => match Nat.beq z.length ei.size, dst with
      | true, .p (.v (.slice none 0 0)) => .okS (0 ≤ m ∧ m * (ei.bytes : Int) ≤ 140737488355328 ∧ m ≤ 9223372036854775807) (.sl st.nx 0 m.toNat ei.size) [] [(st.nx, some ⟨ti.elem, []⟩)] (st.nx + 1)
      | _, _ => .bad
    | _, _, _ => .bad
  | _ => .bad

theorem run_appendZ {t t' ty e : TypeId} {i : TypeInfo} {z : Value} {kt k : IntKind} (ht : P.underlying t = some (.slice e)) (ht' : P.underlying t' = some (.int kt)) (hi : P.info? e = some i) (hz : i.zero = some z) (hp : 1 ≤ i.size) {m : Nat} {w : World}
    (h63 : m ≤ 9223372036854775807) (hb : m * i.bytes ≤ 140737488355328) :
    (0 < m → (Builtin.append_ #[t, t'] ty #[.slice none 0 0, .int k m]).run P w =
      .ok (.slice (some ⟨w.heap.size, 0, none⟩) m (grownCap w m 0 e)) (w.drew.alloc (.cells (Builtin.zeroCells z.cells m ++ Builtin.zeroCells z.cells (grownCap w m 0 e - m)) e))) ∧
    (m = 0 → (Builtin.append_ #[t, t'] ty #[.slice none 0 0, .int k m]).run P w = .ok (.slice none 0 0) w) := by
  have hw : IntKind.i64.wrap (m : Int) = m := by rw [IntKind.wrap_i64]; omega
  refine ⟨fun hg => ?_, fun hm => ?_⟩
  · have hn : ¬ (m ≤ 0) := by omega
    have h0 : ¬ ((m : Int) < 0) := by omega
    have h63' : ¬ (9223372036854775807 < (m : Int)) := by omega
    have h48 := growslice_fits (need := m) (old := 0) (bytes := i.bytes) hg hb
    have h48' : ¬ (281474976710656 < Builtin.nextslicecap m 0 * i.bytes) := by omega
    have hb' : ¬ (281474976710656 < (m : Int) * (i.bytes : Int)) := by
      rw [← Int.natCast_mul]; omega
    have hm0 : ¬ m = 0 := by omega
    have hms : ¬ (m * i.size = 0) := by have := Nat.mul_le_mul hg hp; omega
    simp [Builtin.append_, run_underlying ht, run_underlying ht', sizeOf, typeInfo, zeroValue, hi, hz, asInt, asIntOf, hw, hn, h0, h63', hb', h48', Question.forced, newRow, grownCap, hms, hm0, Builtin.firstCells]
  · subst hm
    have hw0 : IntKind.i64.wrap (0 : Int) = 0 := by rw [IntKind.wrap_i64]; decide
    simp [Builtin.append_, run_underlying ht, run_underlying ht', sizeOf, typeInfo, hi, asInt, asIntOf, hw0]

theorem ok_appendZ {o : Oper} {st : AS} {t t' : TypeId} {x y : Operand} (ho : o.op = .call ⟨.builtin .append, #[x, y], #[t, t']⟩) {kt : IntKind} (ht' : (tiOf P t').kind = .int kt) {s : Prop} {v : AV} {T : List Nat} {u : List (Nat × Option Blk)} {nx : Nat}
    (h : appZR st (tiOf P t) (tiOf P (tiOf P t).elem) (ev st x) (ev st y) = .okS s v T u nx) (hs : s) : OpOk P o st v T u nx := by
  unfold appZR at h
  split at h
  · rename_i ky m hy
    split at h
    · rename_i hk hz0 hpos
      rename_i z
      have hpos' := Nat.le_of_ble_eq_true hpos
      obtain ⟨i, zv, hi, hzv, rfl⟩ := zero_inv hz0
      obtain ⟨d, i', hd, hi', hz⟩ := szOf_pos (P := P) (t := (tiOf P t).elem) hpos'
      rw [hi] at hi'; cases hi'
      have hsz : (tiOf P (tiOf P t).elem).size = i.size := by rw [tiOf_size, hz]
      have hby : (tiOf P (tiOf P t).elem).bytes = i.bytes := by show ((P.info? (tiOf P t).elem).map (·.bytes)).getD 0 = i.bytes; rw [hi]; rfl
      have ht := ti_slice hk
      split at h
      · rename_i hzl hx
        simp only [R.okS.injEq] at h
        obtain ⟨rfl, rfl, rfl, rfl, rfl⟩ := h
        obtain ⟨h0, hb, h63⟩ := hs
        rw [hby] at hb
        obtain ⟨m, rfl⟩ := Int.eq_ofNat_of_zero_le h0
        refine ⟨?_, Nat.le_succ _, fun j hj => ?_, fun j hj => by simp at hj⟩
        · intro ρ F a w hpre hin K Q hK
          have hrx := hin x (by simp [ho, Op.operands, Call.operands])
          have hry := hin y (by simp [ho, Op.operands, Call.operands])
          rw [hx] at hrx; rw [hy] at hry
          have hid := hpre.fresh st.nx (by simp [keys]) (by simp)
          have hbn : m * i.bytes ≤ 140737488355328 := by
            have : ((m * i.bytes : Nat) : Int) ≤ 140737488355328 := by rw [Int.natCast_mul]; exact hb
            omega
          obtain ⟨hgrow, hstay⟩ := run_appendZ (P := P) (ty := o.type) (k := ky) (m := m) (w := w) ht (ti_int ht') hi hzv (by rw [← hsz]; exact hpos') (by omega) hbn
          unfold Oper.wp
          have hpref : ∀ r, (Builtin.append_ #[t, t'] o.type #[.slice none 0 0, .int ky m]).run P w = r → (execOp a.eval o).run P w = r.andThen fun v w => .ok (.value v) w := by
            intro r hr
            simp only [execOp, ho, resolve, invoke, builtin, Sem.run_bind, Sem.run_pure, Result.andThen_ok, List.map_toArray, List.map_cons, List.map_nil, hrx.pv, hry.pv, hr]
          by_cases hm : m = 0
          · rw [hpref _ (hstay hm)]
            subst hm
            refine hK _ ρ F w ⟨fun _ _ h => h, fun i h1 h2 => absurd h1 h2, fun i b h1 h2 => (by rw [h1] at h2; cases h2), .slz _ _ _ _, ⟨fun i k hk => ?_, fun i j b hi hj h1 h2 => ?_⟩, hpre.fok, Chg.refl _ _ _⟩
            · obtain ⟨hi, hk⟩ := restr_some hk
              have : i = st.nx := by simpa [keys] using hi
              subst this
              simp [updH, keys, hget] at hk
              subst hk
              exact .inl ⟨rfl, hid⟩
            · obtain ⟨k, hk⟩ := Option.ne_none_iff_exists'.1 hi
              obtain ⟨hi, hk⟩ := restr_some hk
              have : i = st.nx := by simpa [keys] using hi
              subst this
              rw [hid] at h1; cases h1
          · rw [hpref _ (hgrow (by omega))]
            have hpost := Post.newBlk (h := hget st.hp) (w1 := w.drew) (t := (tiOf P t).elem) (cs := []) hpre.fok hid (arr := Builtin.zeroCells zv.cells m ++ Builtin.zeroCells zv.cells (grownCap w m 0 (tiOf P t).elem - m)) (by simp) (fun j c hj => by simp at hj) rfl rfl rfl rfl (v := .sl st.nx 0 m (tiOf P (tiOf P t).elem).size) (x := .slice (some ⟨w.heap.size, 0, none⟩) m (grownCap w m 0 (tiOf P t).elem)) (by
              have hge := grownCap_ge w m 0 (tiOf P t).elem
              refine .sl _ _ _ _ w.heap.size _ (by simp [rset]) hge ⟨_, _, _, heap_alloc_new w.drew _, ?_⟩
              have hzs : zv.cells.size = i.size := by rw [← hsz]; simpa using Nat.eq_of_beq_eq_true hzl
              simp only [Array.size_append, size_zeroCells, hzs, hsz, Nat.zero_add, ← Nat.add_mul]
              rw [Nat.add_sub_cancel' hge]
              exact Nat.le_refl _)
            exact hK _ _ F _ hpost
        · simp [keys] at hj; subst hj; exact .inr ⟨Nat.le_refl _, Nat.lt_succ_self _⟩
      · cases h
    · cases h
  · cases h

end Go.Abs

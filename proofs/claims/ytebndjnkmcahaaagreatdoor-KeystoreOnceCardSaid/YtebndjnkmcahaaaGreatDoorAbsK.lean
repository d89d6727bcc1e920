/-
  The executor's operations are sound: comparison with nil, cap, slices of nil, append of zeros. Own work; no statement of the seat is proved here.
  The executor's operations are sound: maps from integers to bytes. Own work; no statement of the seat is proved here.
  The executor, operation by operation, and that it is sound. Own work; no statement of the seat is proved here.
-/
import Derived.Test.YtebndjnkmcahaaaGreatDoorAbsJ
import Derived.LaidEql
import Derived.Lib.Builder
import Derived.Lib.UnsafeStr
namespace Go.Abs
set_option linter.unusedSimpArgs false
set_option linter.unusedVariables false
open Go Go.RowKit
variable {P : Program}

theorem run_guard_slice (op : BinOp) (t : TypeId) (x y : Operand) (A B : Option Addr) (n m c d : Nat) (w : World) : (eqGuard op t x y (.slice A n c) (.slice B m d)).run P w = .ok () w := by
  cases op <;> simp [eqGuard]

theorem run_eqNil {t : TypeId} {e : TypeId} (ht : P.underlying t = some (.slice e)) (b : Option Addr) (n c : Nat) (w : World) : (Op.equal t (.slice b n c) (.slice none 0 0)).run P w = .ok b.isNone w := by
  have h0 : ∀ (d : Nat), (Op.equalIn (d + 1) t (.slice b n c) (.slice none 0 0)).run P w = .ok b.isNone w := fun d => by
    cases b <;> simp [Op.equalIn, run_underlying ht]
  exact h0 9999

theorem ok_eqNil {o : Oper} {st : AS} {op : BinOp} {t t' : TypeId} {x y : Operand} (ho : o.op = .binOp op t x y t') (hk : (tiOf P t).kind = .slice) (hy : ev st y = .p (.v (.slice none 0 0))) {r : Bool} {side : Prop}
    (hr : side → ∀ (ρ : IdMap) (F : FSet) (w : World) (u : Value), Rd ρ F w (ev st x) u → ∃ b n c, u = .slice b n c ∧ b.isNone = r) :
    (∀ v T u nx, nilEq st op side r = .ok v T u nx → OpOk P o st v T u nx) ∧ (∀ s v T u nx, nilEq st op side r = .okS s v T u nx → s → OpOk P o st v T u nx) := by
  have ht := ti_slice hk
  have key : ∀ (q : Value) , side → q.oneCell' = true → (∀ b n c w, b.isNone = r → (binOp op t (.slice b n c) (.slice none 0 0)).run P w = .ok q w) → OpOk P o st (.p (.v q)) [] [] st.nx := fun q hs h1 h2 =>
    ok_pure fun ρ F a w hin => by
      have e1 := hin x (by simp [ho, Op.operands])
      have e2 := hin y (by simp [ho, Op.operands])
      obtain ⟨b, n, c, hu, hb⟩ := hr hs ρ F w _ e1
      rw [hy] at e2
      refine ⟨q, ?_, .ofV h1⟩
      simp only [execOp, ho, hu, e2.pv, Sem.run_bind, run_guard_slice, Result.andThen_ok, h2 b n c w hb, Sem.run_pure]
  refine ⟨fun v T u nx h => ?_, fun s v T u nx h hs => ?_⟩
  · cases op <;> simp [nilEq, R.pureS] at h
  · cases op <;> simp only [nilEq, R.pureS, R.okS.injEq] at h
    all_goals first
      | (obtain ⟨rfl, rfl, rfl, rfl, rfl⟩ := h
         exact key _ hs rfl (fun b n c w hb => by simp [binOp, run_eqNil ht, hb]))
      | cases h

theorem run_guard_ptr (op : BinOp) (t : TypeId) (x y : Operand) (a b : Option Addr) (w : World) : (eqGuard op t x y (.pointer a) (.pointer b)).run P w = .ok () w := by
  cases op <;> simp [eqGuard]
theorem ok_eqPtr {o : Oper} {st : AS} {op : BinOp} {t t' : TypeId} {x y : Operand} (ho : o.op = .binOp op t x y t') {r : Bool}
    (hr : ∀ (ρ : IdMap) (F : FSet) (w : World) (u v : Value), Rd ρ F w (ev st x) u → Rd ρ F w (ev st y) v → ∃ a b, u = .pointer a ∧ v = .pointer b ∧ ∀ (d : Nat) (w' : World), (Op.equalIn (d + 1) t (.pointer a) (.pointer b)).run P w' = .ok r w') :
    (∀ v T u nx, nilEq st op True r = .ok v T u nx → OpOk P o st v T u nx) ∧ (∀ s v T u nx, nilEq st op True r = .okS s v T u nx → s → OpOk P o st v T u nx) := by
  have key : ∀ (q : Value), q.oneCell' = true → (∀ a b w, (Op.equal t (.pointer a) (.pointer b)).run P w = .ok r w → (binOp op t (.pointer a) (.pointer b)).run P w = .ok q w) → OpOk P o st (.p (.v q)) [] [] st.nx := fun q h1 h2 =>
    ok_pure fun ρ F a w hin => by
      have e1 := hin x (by simp [ho, Op.operands])
      have e2 := hin y (by simp [ho, Op.operands])
      obtain ⟨a', b', hu, hv, he⟩ := hr ρ F w _ _ e1 e2
      refine ⟨q, ?_, .ofV h1⟩
      simp only [execOp, ho, hu, hv, Sem.run_bind, run_guard_ptr, Result.andThen_ok, h2 a' b' w (he 9999 w), Sem.run_pure]
  refine ⟨fun v T u nx h => ?_, fun s v T u nx h hs => ?_⟩
  · cases op <;> simp [nilEq, R.pureS] at h
  · cases op <;> simp only [nilEq, R.pureS, R.okS.injEq] at h
    all_goals first
      | (obtain ⟨rfl, rfl, rfl, rfl, rfl⟩ := h
         exact key _ rfl (fun a b w hb => by simp [binOp, hb]))
      | cases h

/-! package unsafe: a pointer there and back, bytes as a string -/
theorem ok_ptrKeep {o : Oper} {st : AS} {x : Operand} (hx0 : x ∈ o.op.operands.toList) {id : Nat} (hx : ev st x = .ptr id 0) {k : Blk} (hk : hget st.hp id = some k) (hc : 1 ≤ k.cs.length)
    (hrun : ∀ (a : Act) (w : World) (b : Nat) (arr : Array Value) (fr : Nat × Nat), a.eval x = .pointer (some ⟨b, 0, none⟩) → w.heap[b]? = some (.cells arr k.t fr) → k.cs.length ≤ arr.size → (execOp a.eval o).run P w = .ok (.value (.pointer (some ⟨b, 0, none⟩))) w) :
    OpOk P o st (.ptr id 0) [id] [] st.nx where
  tri ρ F a w hpre hin K Q hK := by
    have hr := hin x hx0
    rw [hx] at hr
    obtain ⟨b, hb, hv⟩ := hr.ptrInv
    have hrs : restr [id] (hget st.hp) id = some k := by simp [restr, hk]
    rcases hpre.hp.ok id k hrs with ⟨_, h0⟩ | ⟨b2, hb2, hblk⟩
    · rw [h0] at hb; cases hb
    rw [hb] at hb2; cases hb2
    obtain ⟨arr, fr, ha, hfr, hlen, _⟩ := hblk.is (.inl hc)
    unfold Oper.wp
    rw [hrun a w b arr fr hv ha hlen]
    refine hK _ ρ F w ⟨fun _ _ h => h, fun i h1 h2 => absurd h1 h2, fun i b h1 h2 => (by rw [h1] at h2; cases h2), .ptr _ _ b hb, ?_, hpre.fok, Chg.refl _ _ _⟩
    have : restr ([id] ++ keys []) (updH [] (hget st.hp)) = restr [id] (hget st.hp) := by funext i; simp [restr, keys, updH]
    rw [this]
    exact hpre.hp
  le := Nat.le_refl _
  keysOk i hi := by simp [keys] at hi
  live i hi := by simp at hi; subst hi; rw [hk]; simp
theorem shape_of {w : World} {b : Nat} {arr : Array Value} {t : TypeId} {fr : Nat × Nat} (h : w.heap[b]? = some (.cells arr t fr)) : w.shape? b = some (t, arr.size) := by unfold World.shape?; rw [h]
theorem liesAt_self {e : TypeId} {count : Nat} (h : 1 ≤ count) (he : ¬ P.cellsOf e = 0) : liesAt P P.depth e count 0 e 1 = true := by
  have hd : P.depth = (2 * (P.types.size + Made.depth) + 1) + 1 := rfl
  rw [hd]
  simp only [liesAt, Bool.or_eq_true]
  left
  rw [hd]
  simp [rowAt, h, he, sameLayout]
theorem ok_toUnsafe {o : Oper} {st : AS} {s d : TypeId} {x : Operand} (ho : o.op = .convert s d x) {id : Nat} (hx : ev st x = .ptr id 0) (hs : (tiOf P s).kind = .ptr) (hd : (tiOf P d).kind = .uptr)
    {k : Blk} (hk : hget st.hp id = some k) (hc : 1 ≤ k.cs.length) (hss : 1 ≤ (tiOf P (tiOf P s).elem).size) : OpOk P o st (.ptr id 0) [id] [] st.nx :=
  ok_ptrKeep (by simp [ho, Op.operands]) hx hk hc (fun a w b arr fr hv ha hlen => by
    obtain ⟨dd, j, _, hj, hz⟩ := szOf_pos (P := P) (t := (tiOf P s).elem) hss
    have := Lib.run_to_unsafe (P := P) w ⟨b, 0, none⟩ (ti_ptr hs) (ti_uptr hd) hj (by have : 1 ≤ szOf P (tiOf P s).elem := hss; omega) (shape_of ha) (show 0 < arr.size by omega)
    simp only [execOp, ho, hv, Sem.run_bind, this, Result.andThen_ok, Sem.run_pure])
theorem ok_fromUnsafe {o : Oper} {st : AS} {s d : TypeId} {x : Operand} (ho : o.op = .convert s d x) {id : Nat} (hx : ev st x = .ptr id 0) (hs : (tiOf P s).kind = .uptr) (hd : (tiOf P d).kind = .ptr)
    {k : Blk} (hk : hget st.hp id = some k) (hds : 1 ≤ (tiOf P (tiOf P d).elem).size) (hc : (tiOf P (tiOf P d).elem).size ≤ k.cs.length) (ht : k.t = (tiOf P d).elem) : OpOk P o st (.ptr id 0) [id] [] st.nx :=
  ok_ptrKeep (by simp [ho, Op.operands]) hx hk (by omega) (fun a w b arr fr hv ha hlen => by
    obtain ⟨dd, j, _, hj, hz⟩ := szOf_pos (P := P) (t := (tiOf P d).elem) hds
    rw [ht] at ha
    have hc' : P.cellsOf (tiOf P d).elem = szOf P (tiOf P d).elem := by unfold Program.cellsOf; rw [hj]; exact hz
    have hds' : 1 ≤ szOf P (tiOf P d).elem := hds
    have hle : szOf P (tiOf P d).elem ≤ arr.size := Nat.le_trans hc hlen
    have := Lib.run_from_unsafe (P := P) w ⟨b, 0, none⟩ (ti_uptr hs) (ti_ptr hd) hj (shape_of ha) (liesAt_self (by rw [hc']; exact (Nat.le_div_iff_mul_le hds').2 (by omega)) (by rw [hc']; omega))
    simp only [execOp, ho, hv, Sem.run_bind, this, Result.andThen_ok, Sem.run_pure])
def dataR (st : AS) : AV → R
  | .sl id off n _ => .pureS st (1 ≤ n) (.ptr id off)
  | _ => .bad
theorem ok_uSliceData {o : Oper} {st : AS} {x : Operand} {t : TypeId} (ho : o.op = .call ⟨.builtin .unsafeSliceData, #[x], #[t]⟩) {id off n s : Nat} (hx : ev st x = .sl id off n s) (hn : 1 ≤ n) : OpOk P o st (.ptr id off) [] [] st.nx :=
  ok_pure fun ρ F a w hin => by
    have hr := hin x (by simp [ho, Op.operands, Call.operands])
    rw [hx] at hr
    rcases hr.slInv with ⟨h0, _⟩ | ⟨b, cap, hb, hv, hcap, _⟩
    · omega
    · refine ⟨_, ?_, .ptr _ _ b hb⟩
      have := Lib.run_unsafeSliceData_row (P := P) w #[t] o.type ⟨b, off, none⟩ n cap (by omega)
      simp only [execOp, ho, resolve, invoke, builtin, Sem.run_bind, Sem.run_pure, Result.andThen_ok, List.map_toArray, List.map_cons, List.map_nil, hv, this]
def ustrR (st : AS) (et : TypeId) (es : Nat) (ek : TK) : AV → AV → R
  | .ptr id off, .p (.v (.int .i64 n)) => match Nat.beq off 0, Nat.beq es 1, ek, hget st.hp id with
    | true, true, .int .u8, some b => .okS (1 ≤ n ∧ n.toNat ≤ b.cs.length ∧ n ≤ 9223372036854775807 ∧ b.t = et ∧ allP (b.cs.take n.toNat) ∧ allB (unPs (b.cs.take n.toNat))) (.p (.v (strOf (unBs (unPs (b.cs.take n.toNat)))))) [id] [(id, none)] st.nx
    | _, _, _, _ => .bad
  | _, _ => .bad
theorem ok_ustr {o : Oper} {st : AS} {x y : Operand} {pt it : TypeId} (ho : o.op = .call ⟨.builtin .unsafeString, #[x, y], #[pt, it]⟩) (hpt : (tiOf P pt).kind = .ptr) {id : Nat} (hx : ev st x = .ptr id 0) {n : Int} (hy : ev st y = .p (.v (.int .i64 n)))
    (hes : (tiOf P (tiOf P pt).elem).size = 1) {k : Blk} (hk : hget st.hp id = some k) (h1 : 1 ≤ n) (hn : n.toNat ≤ k.cs.length) (h63 : n ≤ 9223372036854775807) (ht : k.t = (tiOf P pt).elem) (hp : allP (k.cs.take n.toNat)) (hb : allB (unPs (k.cs.take n.toNat))) :
    OpOk P o st (.p (.v (strOf (unBs (unPs (k.cs.take n.toNat)))))) [id] [(id, none)] st.nx where
  tri ρ F a w hpre hin K Q hK := by
    have hr := hin x (by simp [ho, Op.operands, Call.operands])
    have hr2 := hin y (by simp [ho, Op.operands, Call.operands])
    rw [hx] at hr; rw [hy] at hr2
    obtain ⟨b, hb', hv⟩ := hr.ptrInv
    have hrs : restr [id] (hget st.hp) id = some k := by simp [restr, hk]
    rcases hpre.hp.ok id k hrs with ⟨_, h0⟩ | ⟨b2, hb2, hblk⟩
    · rw [h0] at hb'; cases hb'
    rw [hb'] at hb2; cases hb2
    obtain ⟨arr, fr, ha, hfr, hlen, hc⟩ := hblk.is (.inl (by omega))
    have hblt : b < w.heap.size := (Array.getElem?_eq_some_iff.1 ha).1
    have hes' : 1 ≤ szOf P (tiOf P pt).elem := by have : szOf P (tiOf P pt).elem = 1 := hes; omega
    obtain ⟨dd, j, _, hj, hz⟩ := szOf_pos (P := P) (t := (tiOf P pt).elem) hes'
    have hcell1 : P.cellsOf (tiOf P pt).elem = 1 := by unfold Program.cellsOf; rw [hj]; exact hz.trans hes
    have hll : (unBs (unPs (k.cs.take n.toNat))).length = n.toNat := by simp [unBs, unPs]; omega
    have hln : ((unBs (unPs (k.cs.take n.toNat))).length : Int) = n := by rw [hll]; omega
    rw [ht] at ha
    have hrun := Lib.run_unsafeString_row (P := P) w pt it o.type (tiOf P pt).elem (ti_ptr hpt) hcell1 b arr.size (shape_of ha) (unBs (unPs (k.cs.take n.toNat))) (fun e => by rw [e] at hll; simp at hll; omega) (by omega) (by omega) (fun j x hx => by
      rw [addr_add, Nat.zero_add]
      have hjl : j < n.toNat := by rw [← hll]; exact (List.getElem?_eq_some_iff.1 hx).1
      have hj1 : j < (k.cs.take n.toNat).length := by simp; omega
      have hget' : (k.cs.take n.toNat)[j]? = some (k.cs.take n.toNat)[j] := List.getElem?_eq_getElem hj1
      have hkj : k.cs[j]? = some (k.cs.take n.toNat)[j] := by rw [← hget', List.getElem?_take, if_pos hjl]
      have hrj := (hc _ _ hkj).2
      have hpj := hp _ (List.getElem_mem hj1)
      have hbj := hb (unP (k.cs.take n.toNat)[j]) (by unfold unPs; exact List.mem_map.2 ⟨_, List.getElem_mem hj1, rfl⟩)
      have e1 : (k.cs.take n.toNat)[j] = .p (unP (k.cs.take n.toNat)[j]) := by
        revert hpj
        cases (k.cs.take n.toNat)[j] <;> intro hpj <;> first | rfl | exact hpj.elim
      have e2 : unB (unP (k.cs.take n.toNat)[j]) = x := by
        simp only [unBs, unPs, List.getElem?_map, hget', Option.map_some, Option.some.injEq] at hx
        exact hx
      rw [e1, bt_inv hbj, e2] at hrj
      have hval := hrj.pv
      have := cell_of ha (i := j) (by omega)
      rw [this, hval])
    rw [hln] at hrun
    have hl0 : ¬ (unBs (unPs (k.cs.take n.toNat))).length = 0 := by omega
    have hex : (execOp a.eval o).run P w = .ok (.value (strOf (unBs (unPs (k.cs.take n.toNat))))) (w.freeze ⟨b, 0, none⟩ (unBs (unPs (k.cs.take n.toNat))).length) := by
      simp only [execOp, ho, resolve, invoke, builtin, Sem.run_bind, Sem.run_pure, Result.andThen_ok, List.map_toArray, List.map_cons, List.map_nil, hv, hr2.pv, hrun, strOf]
    generalize (unBs (unPs (k.cs.take n.toNat))).length = m at *
    obtain ⟨fq, hnew⟩ : ∃ fq, (w.freeze ⟨b, 0, none⟩ m).heap[b]? = some (.cells arr (tiOf P pt).elem fq) := by
      unfold World.freeze
      rw [if_neg hl0]
      obtain ⟨lo, hi⟩ := fr
      simp [Array.getElem?_modify, ha]
    have hold : ∀ c, c ≠ b → (w.freeze ⟨b, 0, none⟩ m).heap[c]? = w.heap[c]? := fun c hc => by
      unfold World.freeze
      rw [if_neg hl0]
      have hne : ¬ b = c := fun e => hc e.symm
      simp only [Array.getElem?_modify, if_neg hne]
    have hsz : (w.freeze ⟨b, 0, none⟩ m).heap.size = w.heap.size := by
      unfold World.freeze
      rw [if_neg hl0]
      simp
    unfold Oper.wp
    rw [hex]
    refine hK _ ρ F _ ⟨fun _ _ h => h, fun i h1 h2 => absurd h1 h2, fun i b h1 h2 => (by rw [h1] at h2; cases h2), .ofV rfl, ⟨fun i k' h => ?_, fun i j b' h => ?_⟩, ?_, ?_⟩
    · simp [restr, updH, keys, hget] at h
      obtain ⟨h1, h2⟩ := h
      subst h1
      simp at h2
    · simp [restr, updH, keys, hget] at h
      obtain ⟨h1, h2⟩ := h
      subst h1
      simp at h2
    · intro c hcF
      rw [hsz]
      exact hpre.fok c hcF
    · refine ⟨?_, ?_, ?_, by rw [hsz]; exact Nat.le_refl _, fun c _ hO => hold c (fun e => hO ⟨id, by simp [keys], by rw [e]; exact hb'⟩), ⟨fun c m hcm => ?_, fun c hcm => ?_⟩, fun c hcF => hcF, fun c hcF => .inl hcF⟩
      · unfold World.freeze; rw [if_neg hl0]
      · unfold World.freeze; rw [if_neg hl0]
      · unfold World.freeze; rw [if_neg hl0]
      · obtain ⟨ar2, t2, fr2, hb2, hm2⟩ := hcm
        by_cases e : c = b
        · subst e
          rw [ha] at hb2
          cases hb2
          exact ⟨arr, _, _, hnew, hm2⟩
        · exact ⟨ar2, t2, fr2, by rw [hold c e]; exact hb2, hm2⟩
      · obtain ⟨es2, c2, hb2⟩ := hcm
        by_cases e : c = b
        · subst e
          rw [ha] at hb2
          cases hb2
        · exact ⟨es2, c2, by rw [hold c e]; exact hb2⟩
  le := Nat.le_refl _
  keysOk i hi := by simp [keys] at hi; exact .inl (by simp [hi])
  live i hi := by simp at hi; subst hi; rw [hk]; simp

def capR (st : AS) (ti : TI) : AV → R
  | .p (.v (.slice _ _ c)) => match ti.kind with | .slice => .pure st (.i c) | _ => .bad
  | _ => .bad

theorem ok_cap {o : Oper} {st : AS} {t : TypeId} {x : Operand} (ho : o.op = .call ⟨.builtin .cap, #[x], #[t]⟩) (hk : (tiOf P t).kind = .slice) {A : Option Addr} {n c : Nat} (hx : ev st x = .p (.v (.slice A n c))) :
    OpOk P o st (.i c) [] [] st.nx :=
  ok_pure fun ρ F a w hin => by
    have e1 := hin x (by simp [ho, Op.operands, Call.operands])
    rw [hx] at e1
    refine ⟨.int .i64 c, ?_, .ofV rfl⟩
    simp [execOp, ho, resolve, invoke, builtin, e1.pv, Builtin.cap_, run_underlying (ti_slice hk), goInt]

theorem ok_sliceNil {o : Oper} {st : AS} {t : TypeId} {x : Operand} {lo hi : Option Operand} (ho : o.op = .slice t x lo hi none) (hx : ev st x = .p (.v (.slice none 0 0))) (hk : (tiOf P t).kind = .slice) (hpos : 1 ≤ (tiOf P (tiOf P t).elem).size)
    {l h : Int} (hb : Bnds st lo hi none 0 l h) (h0 : 0 ≤ l) (h1 : l ≤ h) (h2 : h ≤ 0) : OpOk P o st (.p (.v (.slice none 0 0))) [] [] st.nx :=
  ok_pure fun ρ F a w hin => by
    obtain ⟨hx1, hin'⟩ := slice_ops ho
    have hr := hin x hx1
    rw [hx] at hr
    obtain ⟨m, hm1, hm2, hrun⟩ := run_bnds (P := P) (len := 0) (cap := 0) hb (fun y hy => hin y (hin' y hy)) h0 h1 h2 (Nat.le_refl _) true
    simp only [Option.map_none] at hrun
    have hm : m = 0 := by omega
    have hl : l.toNat = 0 := by omega
    have hh : h.toNat = 0 := by omega
    obtain ⟨d, i, hd, hi, hz⟩ := szOf_pos (P := P) (t := (tiOf P t).elem) hpos
    refine ⟨_, ?_, .ofV rfl⟩
    simp [execOp, ho, hr.pv, Instr.sliceAt, run_underlying (ti_slice hk), Instr.slice, hrun, hm, hl, hh, sizeOf, typeInfo, hi]

/-- zeros behind nil, of which nothing is remembered but the room -/
def appZR (st : AS) (ti ei : TI) (dst : AV) : AV → R
  | .p (.v (.int _ m)) => match ti.kind, ei.zero, Nat.ble 1 ei.size with
    | .slice, some z, true => match Nat.beq z.length ei.size, dst with
      | true, .p (.v (.slice none 0 0)) => .okS (0 ≤ m ∧ m * (ei.bytes : Int) ≤ 140737488355328 ∧ m ≤ 9223372036854775807) (.sl st.nx 0 m.toNat ei.size) [] [(st.nx, some ⟨ti.elem, []⟩)] (st.nx + 1)
      | _, _ => .bad
    | _, _, _ => .bad
  | _ => .bad

theorem run_appendZ {t t' ty e : TypeId} {i : TypeInfo} {z : Value} {kt k : IntKind} (ht : P.underlying t = some (.slice e)) (ht' : P.underlying t' = some (.int kt)) (hi : P.info? e = some i) (hz : i.zero = some z) (hp : 1 ≤ i.size) {m : Nat} {w : World}
    (h63 : m ≤ 9223372036854775807) (hb : m * i.bytes ≤ 140737488355328) :
    (0 < m → (Builtin.append_ #[t, t'] ty #[.slice none 0 0, .int k m]).run P w =
      .ok (.slice (some ⟨w.heap.size, 0, none⟩) m (grownCap w m 0 e)) (w.drew.alloc (.cells (Builtin.zeroCells z.cells m ++ Builtin.zeroCells z.cells (grownCap w m 0 e - m)) e))) ∧
    (m = 0 → (Builtin.append_ #[t, t'] ty #[.slice none 0 0, .int k m]).run P w = .ok (.slice none 0 0) w) := by
  have hw : IntKind.i64.wrap (m : Int) = m := by rw [IntKind.wrap_i64]; omega
  refine ⟨fun hg => ?_, fun hm => ?_⟩
  · have hn : ¬ (m ≤ 0) := by omega
    have h0 : ¬ ((m : Int) < 0) := by omega
    have h63' : ¬ (9223372036854775807 < (m : Int)) := by omega
    have h48 := growslice_fits (need := m) (old := 0) (bytes := i.bytes) hg hb
    have h48' : ¬ (281474976710656 < Builtin.nextslicecap m 0 * i.bytes) := by omega
    have hb' : ¬ (281474976710656 < (m : Int) * (i.bytes : Int)) := by
      rw [← Int.natCast_mul]; omega
    have hm0 : ¬ m = 0 := by omega
    have hms : ¬ (m * i.size = 0) := by have := Nat.mul_le_mul hg hp; omega
    simp [Builtin.append_, run_underlying ht, run_underlying ht', sizeOf, typeInfo, zeroValue, hi, hz, asInt, asIntOf, hw, hn, h0, h63', hb', h48', Question.forced, newRow, grownCap, hms, hm0, Builtin.firstCells]
  · subst hm
    have hw0 : IntKind.i64.wrap (0 : Int) = 0 := by rw [IntKind.wrap_i64]; decide
    simp [Builtin.append_, run_underlying ht, run_underlying ht', sizeOf, typeInfo, hi, asInt, asIntOf, hw0]

theorem ok_appendZ {o : Oper} {st : AS} {t t' : TypeId} {x y : Operand} (ho : o.op = .call ⟨.builtin .append, #[x, y], #[t, t']⟩) {kt : IntKind} (ht' : (tiOf P t').kind = .int kt) {s : Prop} {v : AV} {T : List Nat} {u : List (Nat × Option Blk)} {nx : Nat}
    (h : appZR st (tiOf P t) (tiOf P (tiOf P t).elem) (ev st x) (ev st y) = .okS s v T u nx) (hs : s) : OpOk P o st v T u nx := by
  unfold appZR at h
  split at h
  · rename_i ky m hy
    split at h
    · rename_i hk hz0 hpos
      rename_i z
      have hpos' := Nat.le_of_ble_eq_true hpos
      obtain ⟨i, zv, hi, hzv, rfl⟩ := zero_inv hz0
      obtain ⟨d, i', hd, hi', hz⟩ := szOf_pos (P := P) (t := (tiOf P t).elem) hpos'
      rw [hi] at hi'; cases hi'
      have hsz : (tiOf P (tiOf P t).elem).size = i.size := by rw [tiOf_size, hz]
      have hby : (tiOf P (tiOf P t).elem).bytes = i.bytes := by show ((P.info? (tiOf P t).elem).map (·.bytes)).getD 0 = i.bytes; rw [hi]; rfl
      have ht := ti_slice hk
      split at h
      · rename_i hzl hx
        simp only [R.okS.injEq] at h
        obtain ⟨rfl, rfl, rfl, rfl, rfl⟩ := h
        obtain ⟨h0, hb, h63⟩ := hs
        rw [hby] at hb
        obtain ⟨m, rfl⟩ := Int.eq_ofNat_of_zero_le h0
        refine ⟨?_, Nat.le_succ _, fun j hj => ?_, fun j hj => by simp at hj⟩
        · intro ρ F a w hpre hin K Q hK
          have hrx := hin x (by simp [ho, Op.operands, Call.operands])
          have hry := hin y (by simp [ho, Op.operands, Call.operands])
          rw [hx] at hrx; rw [hy] at hry
          have hid := hpre.fresh st.nx (by simp [keys]) (by simp)
          have hbn : m * i.bytes ≤ 140737488355328 := by
            have : ((m * i.bytes : Nat) : Int) ≤ 140737488355328 := by rw [Int.natCast_mul]; exact hb
            omega
          obtain ⟨hgrow, hstay⟩ := run_appendZ (P := P) (ty := o.type) (k := ky) (m := m) (w := w) ht (ti_int ht') hi hzv (by rw [← hsz]; exact hpos') (by omega) hbn
          unfold Oper.wp
          have hpref : ∀ r, (Builtin.append_ #[t, t'] o.type #[.slice none 0 0, .int ky m]).run P w = r → (execOp a.eval o).run P w = r.andThen fun v w => .ok (.value v) w := by
            intro r hr
            simp only [execOp, ho, resolve, invoke, builtin, Sem.run_bind, Sem.run_pure, Result.andThen_ok, List.map_toArray, List.map_cons, List.map_nil, hrx.pv, hry.pv, hr]
          by_cases hm : m = 0
          · rw [hpref _ (hstay hm)]
            subst hm
            refine hK _ ρ F w ⟨fun _ _ h => h, fun i h1 h2 => absurd h1 h2, fun i b h1 h2 => (by rw [h1] at h2; cases h2), .slz _ _ _ _, ⟨fun i k hk => ?_, fun i j b hi hj h1 h2 => ?_⟩, hpre.fok, Chg.refl _ _ _⟩
            · obtain ⟨hi, hk⟩ := restr_some hk
              have : i = st.nx := by simpa [keys] using hi
              subst this
              simp [updH, keys, hget] at hk
              subst hk
              exact .inl ⟨rfl, hid⟩
            · obtain ⟨k, hk⟩ := Option.ne_none_iff_exists'.1 hi
              obtain ⟨hi, hk⟩ := restr_some hk
              have : i = st.nx := by simpa [keys] using hi
              subst this
              rw [hid] at h1; cases h1
          · rw [hpref _ (hgrow (by omega))]
            have hpost := Post.newBlk (h := hget st.hp) (w1 := w.drew) (t := (tiOf P t).elem) (cs := []) hpre.fok hid (arr := Builtin.zeroCells zv.cells m ++ Builtin.zeroCells zv.cells (grownCap w m 0 (tiOf P t).elem - m)) (by simp) (fun j c hj => by simp at hj) rfl rfl rfl rfl (v := .sl st.nx 0 m (tiOf P (tiOf P t).elem).size) (x := .slice (some ⟨w.heap.size, 0, none⟩) m (grownCap w m 0 (tiOf P t).elem)) (by
              have hge := grownCap_ge w m 0 (tiOf P t).elem
              refine .sl _ _ _ _ w.heap.size _ (by simp [rset]) hge ⟨_, _, _, heap_alloc_new w.drew _, ?_⟩
              have hzs : zv.cells.size = i.size := by rw [← hsz]; simpa using Nat.eq_of_beq_eq_true hzl
              simp only [Array.size_append, size_zeroCells, hzs, hsz, Nat.zero_add, ← Nat.add_mul]
              rw [Nat.add_sub_cancel' hge]
              exact Nat.le_refl _)
            exact hK _ _ F _ hpost
        · simp [keys] at hj; subst hj; exact .inr ⟨Nat.le_refl _, Nat.lt_succ_self _⟩
      · cases h
    · cases h
  · cases h

end Go.Abs

namespace Go.Abs
set_option linter.unusedSimpArgs false
set_option linter.unusedVariables false
open Go Go.RowKit Go.Maps Go.MapKept Go.ChangeMaps
open Go.WideElems (Fit rd rg)
variable {P : Program}

def insS (k : Int) (v : List UInt8) : Store → Store
  | [] => [(k, v)]
  | y :: r => if k < y.1 then (k, v) :: y :: r else y :: insS k v r
def delS (k : Int) (s : Store) : Store := s.filter fun e => decide (e.1 ≠ k)
def putS (k : Int) (v : List UInt8) (s : Store) : Store := insS k v (delS k s)
def getS (k : Int) : Store → List UInt8
  | [] => []
  | y :: r => if y.1 = k then y.2 else getS k r

noncomputable def unT (t : TypeId) : Store := @dite _ (∃ s, mapT s = t) (Classical.propDecidable _) (fun h => Classical.choose h) (fun _ => [])
theorem unT_mapT (s : Store) : unT (mapT s) = s := by
  have h : ∃ s', mapT s' = mapT s := ⟨s, rfl⟩
  unfold unT
  rw [dif_pos h]
  exact mapT_inj (Classical.choose_spec h)

/-! the same on entries -/
def insE (e : Ent) : List Ent → List Ent
  | [] => [e]
  | y :: r => if e.1 < y.1 then e :: y :: r else y :: insE e r
def delE (k : Int) (E : List Ent) : List Ent := E.filter fun e => decide (e.1 ≠ k)
theorem insE_store (e : Ent) : ∀ E, storeOf (insE e E) = insS e.1 e.2.1 (storeOf E)
  | [] => rfl
  | y :: r => by
    have ih := insE_store e r
    unfold storeOf at *
    simp only [insE, List.map_cons, insS]
    split
    · rfl
    · rw [List.map_cons, ih]
theorem insE_ent (e : Ent) : ∀ E, entries (insE e E) = DataW.insert (.int .i64 e.1, .held e.2.2) (entries E)
  | [] => rfl
  | y :: r => by
    have ih := insE_ent e r
    unfold entries at *
    simp only [insE, List.map_cons, DataW.insert, Lit.before, decide_eq_true_eq]
    split
    · rfl
    · rw [List.map_cons, ih]
theorem delE_store (k : Int) (E : List Ent) : storeOf (delE k E) = delS k (storeOf E) := by
  unfold storeOf delE delS
  rw [List.filter_map]; rfl
theorem delE_ent (k : Int) (E : List Ent) : entries (delE k E) = (entries E).filter (notKey (.int .i64 k)) := by
  unfold entries delE
  rw [List.filter_map]
  congr 1
  refine List.filter_congr fun e _ => ?_
  simp [notKey, Lit.sameKey]
theorem insE_len (e : Ent) : ∀ E, (insE e E).length = E.length + 1
  | [] => rfl
  | y :: r => by simp only [insE]; split <;> simp [insE_len e r]
theorem insE_mem {e x : Ent} : ∀ {E}, x ∈ insE e E → x = e ∨ x ∈ E
  | [], h => by simp [insE] at h; exact .inl h
  | y :: r, h => by
    simp only [insE] at h
    split at h
    · rcases List.mem_cons.1 h with h | h
      · exact .inl h
      · exact .inr h
    · rcases List.mem_cons.1 h with h | h
      · exact .inr (by simp [h])
      · rcases insE_mem h with h | h
        · exact .inl h
        · exact .inr (by simp [h])

/-- the key's type alone matters -/
theorem keyOf_int {P P' : Program} {k k' : TypeId} (h : P.underlying k = some (.int .i64)) (h' : P'.underlying k' = some (.int .i64)) (v : Value) : keyOf P k v = keyOf P' k' v := by
  unfold keyOf mapKey
  rw [h, h']
theorem rd_int {P P' : Program} {k k' : TypeId} (h : P.underlying k = some (.int .i64)) (h' : P'.underlying k' = some (.int .i64)) (x : MapEntry) : rd P k RV x = rd P' k' RV x := by
  unfold WideElems.rd
  rw [keyOf_int h h']
theorem rg_int {P P' : Program} {k k' : TypeId} (h : P.underlying k = some (.int .i64)) (h' : P'.underlying k' = some (.int .i64)) : rg P k RV = rg P' k' RV := by
  funext x
  unfold WideElems.rg
  rw [rd_int h h']
theorem owns_int {P P' : Program} {k k' : TypeId} (h : P.underlying k = some (.int .i64)) (h' : P'.underlying k' = some (.int .i64)) {w : World} {b n : Nat} {D : DataW Value} (ho : w.ownsMap P k RV b n D) : w.ownsMap P' k' RV b n D := by
  obtain ⟨es, c, hb, hF, hs, hD⟩ := ho
  refine ⟨es, c, hb, ⟨hF.size, hF.stamped, fun x hx => ?_⟩, hs, ?_⟩
  · obtain ⟨y, hy⟩ := hF.reads x hx
    exact ⟨y, by rw [← rd_int h h']; exact hy⟩
  · rw [hD, rg_int h h']

/-- a map's block that is written -/
theorem Post.wrMap {ρ : IdMap} {F : FSet} {w w' : World} {id b : Nat} {s' : Store} {h : Heap} {v : AV} {x : Value} (hf : FOk F w) (hF : ¬ F b) (hid : ρ id = some b) (hold : isMapO w b)
    (e2 : w'.os = w.os) (e3 : w'.tape = w.tape) (e4 : w'.output = w.output) (hs : w'.heap.size = w.heap.size) (ho : ∀ k, k ≠ b → w'.heap[k]? = w.heap[k]?) (hm : MapIs F w' b s') (hv : Rd ρ F w v x) :
    Post ρ F w [id] [(id, some ⟨mapT s', []⟩)] h v x ρ F w' := by
  have hsame : ∀ k, F k → w'.heap[k]? = w.heap[k]? := fun k hk => ho k (fun e => hF (e ▸ hk))
  have hchg : Chg (OSet ρ (keys [(id, some (⟨mapT s', []⟩ : Blk))])) F F w w' := by
    refine ⟨e2, e3, e4, by omega, fun k _ hn => ho k (fun e => hn ⟨id, by simp [keys], by rw [e]; exact hid⟩), ⟨fun k n hc => ?_, fun k hk => ?_⟩, fun _ h => h, fun _ h => .inl h⟩
    · have hne : k ≠ b := fun e => hold.no (n := n) (by rw [← e]; exact hc)
      obtain ⟨arr, t, fr, hb, hn⟩ := hc
      exact ⟨arr, t, fr, (ho k hne).trans hb, hn⟩
    · by_cases e : k = b
      · rw [e]; exact hm.obj
      · obtain ⟨es, c, hb⟩ := hk
        exact ⟨es, c, (ho k e).trans hb⟩
  refine ⟨fun _ _ h => h, fun i h1 h2 => absurd h1 h2, fun i b h1 h2 => (by rw [h1] at h2; cases h2), hv.mono (fun _ _ h => h) (fun _ h => h) hsame hchg.cells, ⟨fun i k hk => ?_, fun i j c hi hj _ _ => ?_⟩, fun k hk => Nat.lt_of_lt_of_le (hf k hk) hchg.size, hchg⟩
  · obtain ⟨hi, hk⟩ := restr_some hk
    simp [keys] at hi
    subst hi
    simp [updH, keys, hget] at hk
    subst hk
    exact .inr ⟨b, hid, ⟨hF, .inr ⟨rfl, s', rfl, hm⟩⟩⟩
  · have key : ∀ i, restr ([id] ++ keys [(id, some (⟨mapT s', []⟩ : Blk))]) (updH [(id, some ⟨mapT s', []⟩)] h) i ≠ none → i = id := fun i hi => by
      unfold restr at hi
      split at hi
      · rename_i hm; simpa [keys] using hm
      · exact absurd rfl hi
    rw [key i hi, key j hj]

/-- a new map -/
theorem Post.newMap {ρ : IdMap} {F : FSet} {w : World} {id : Nat} {h : Heap} (hf : FOk F w) (hid : ρ id = none) :
    Post ρ F w [] [(id, some ⟨mapT [], []⟩)] h (.mp id) (.map (some w.heap.size)) (rset ρ id w.heap.size) F (w.alloc (.map #[] 0)) := by
  have hne : ∀ b, ¬ OSet ρ (keys [(id, some (⟨mapT [], []⟩ : Blk))]) b := by
    rintro b ⟨i, hi, hb⟩
    simp [keys] at hi
    subst hi
    rw [hid] at hb; cases hb
  have hrho : ∀ i b, ρ i = some b → rset ρ id w.heap.size i = some b := fun i b hb => by
    unfold rset; split
    · subst_vars; rw [hid] at hb; cases hb
    · exact hb
  have hobj : isMapO (w.alloc (.map #[] 0)) w.heap.size := ⟨#[], 0, heap_alloc_new w _⟩
  have hmap : MapIs F (w.alloc (.map #[] 0)) w.heap.size [] := ⟨hobj, [], rfl, fun P k _ => World.ownsMap_made w P k RV, fun e he => by cases he⟩
  refine ⟨hrho, fun i h1 h2 => ?_, fun i b h1 h2 => ?_, .mp _ _ (by simp [rset]) hobj, ⟨fun i k hk => ?_, fun i j b hi hj _ _ => ?_⟩, fun b hb => Nat.lt_of_lt_of_le (hf b hb) (Chg.alloc (fun _ => False) F w (.map #[] 0)).size, Chg.alloc _ F w _⟩
  · unfold rset at h2; split at h2
    · subst_vars; simp [keys]
    · exact absurd h1 h2
  · unfold rset at h2; split at h2
    · left; cases h2; exact Nat.le_refl _
    · rw [h1] at h2; cases h2
  · obtain ⟨hi, hk⟩ := restr_some hk
    simp [keys] at hi
    subst hi
    simp [updH, keys, hget] at hk
    subst hk
    exact .inr ⟨w.heap.size, by simp [rset], ⟨fun hF => absurd (hf _ hF) (Nat.lt_irrefl _), .inr ⟨rfl, [], rfl, hmap⟩⟩⟩
  · have key : ∀ i, restr ([] ++ keys [(id, some (⟨mapT [], []⟩ : Blk))]) (updH [(id, some ⟨mapT [], []⟩)] h) i ≠ none → i = id := fun i hi => by
      unfold restr at hi
      split at hi
      · rename_i hm; simpa [keys] using hm
      · exact absurd rfl hi
    rw [key i hi, key j hj]

/-- a map from int to bytes -/
def mapK (P : Program) (t : TypeId) : Bool :=
  match P.underlying t with
  | some (.map k e) => match P.underlying k, (P.info? e).bind (·.zero) with
    | some (.int .i64), some (.slice none 0 0) => true
    | _, _ => false
  | _ => false
def mapE (P : Program) (t : TypeId) : TypeId := match P.underlying t with | some (.map _ e) => e | _ => 0
def mapKy (P : Program) (t : TypeId) : TypeId := match P.underlying t with | some (.map k _) => k | _ => 0
theorem mapK_is {t : TypeId} (h : mapK P t = true) : ∃ k e, P.underlying t = some (.map k e) ∧ P.underlying k = some (.int .i64) ∧ ∀ w : World, (zeroValue e).run P w = .ok (.slice none 0 0) w := by
  unfold mapK at h
  split at h
  · rename_i k e ht
    split at h
    · rename_i hk hz
      refine ⟨k, e, ht, hk, fun w => ?_⟩
      cases hi : P.info? e with
      | none => rw [hi] at hz; simp at hz
      | some i =>
        rw [hi] at hz
        simp only [Option.bind_some] at hz
        simp [zeroValue, typeInfo, hi, hz]
    · cases h
  · cases h

theorem isMap_blk {ρ : IdMap} {F : FSet} {w : World} {b : Nat} {k : Blk} (h : BlkOk ρ F w b k) (hm : isMapO w b) : k.cs = [] ∧ MapIs F w b (unT k.t) := by
  rcases h.is0 with ⟨arr, fr, ha, _⟩ | ⟨h1, s, hs, hmap⟩
  · obtain ⟨es, c, hb⟩ := hm
    rw [ha] at hb; cases hb
  · rw [hs, unT_mapT]; exact ⟨h1, hmap⟩

theorem Rd.mpInv {ρ : IdMap} {F : FSet} {w : World} {id : Nat} {u : Value} (h : Rd ρ F w (.mp id) u) : ∃ b, ρ id = some b ∧ u = .map (some b) ∧ isMapO w b := by
  cases h with
  | mp _ b h hm => exact ⟨b, h, rfl, hm⟩

theorem ok_makeMap {o : Oper} {st : AS} {t : TypeId} (ho : o.op = .makeMap t none) : OpOk P o st (.mp st.nx) [] [(st.nx, some ⟨mapT [], []⟩)] (st.nx + 1) where
  tri ρ F a w hpre hin K Q hK := by
    unfold Oper.wp
    have hex : (execOp a.eval o).run P w = .ok (.value (.map (some w.heap.size))) (w.alloc (.map #[] 0)) := by
      simp [execOp, ho, Instr.makeMap]
    rw [hex]
    exact hK _ _ _ _ (Post.newMap hpre.fok (hpre.fresh st.nx (by simp [keys]) (by simp)))
  le := Nat.le_succ _
  keysOk i hi := by simp [keys] at hi; exact .inr (by omega)
  live i hi := by cases hi

theorem i64_key {k : TypeId} (hk : P.underlying k = some (.int .i64)) {n : Int} (h : -9223372036854775808 ≤ n ∧ n ≤ 9223372036854775807) : keyOf P k (.int .i64 n) = some (.int .i64 n) := by
  refine keyOf_int_mk hk ?_
  have hmin : IntKind.i64.min = -9223372036854775808 := rfl
  have hmax : IntKind.i64.max = 9223372036854775807 := rfl
  simp only [Lit.wf, hmin, hmax, Bool.and_eq_true, decide_eq_true_eq]
  exact h

theorem sameB : ∀ (cs : List PV), allB cs → cs = (unBs cs).map fun x => .v (.int .u8 (x.toNat : Int))
  | [], _ => rfl
  | c :: cs, h => by
    have ih := sameB cs (fun x hx => h x (by simp [hx]))
    have hc := h c (by simp)
    unfold unBs at *
    simp only [List.map_cons]
    rw [← ih]
    congr 1
    unfold isB at hc
    split at hc
    · obtain ⟨x, rfl⟩ := hc
      simp [unB]
    · exact hc.elim

theorem ok_mapUpdate {o : Oper} {st : AS} {t : TypeId} {m x y : Operand} (ho : o.op = .mapUpdate t m x y) {id : Nat} (hm : ev st m = .mp id) {n : Int} (hx : ev st x = .p (.v (.int .i64 n))) {len : Nat} {cs : List PV} (hy : ev st y = .p (.data 1 len cs))
    (ht : mapK P t = true) {k : Blk} (hk : hget st.hp id = some k) (hn : -9223372036854775808 ≤ n ∧ n ≤ 9223372036854775807) (hb : allB cs) (hl : cs.length = len) (hs : (unT k.t).length < 1000000000) :
    OpOk P o st .any [id] [(id, some ⟨mapT (putS n (unBs cs) (unT k.t)), []⟩)] st.nx where
  tri ρ F a w hpre hin K Q hK := by
    have h1 := hin m (by simp [ho, Op.operands])
    have h2 := hin x (by simp [ho, Op.operands])
    have h3 := hin y (by simp [ho, Op.operands])
    rw [hm] at h1
    rw [hx] at h2
    rw [hy] at h3
    obtain ⟨b, hb', hv1, hobj⟩ := h1.mpInv
    have hv2 := h2.pv
    have hr : restr [id] (hget st.hp) id = some k := by simp [restr, hk]
    rcases hpre.hp.ok id k hr with ⟨_, h0⟩ | ⟨b2, hb2, hblk⟩
    · rw [h0] at hb'; cases hb'
    rw [hb'] at hb2; cases hb2
    obtain ⟨_, hmap⟩ := isMap_blk hblk hobj
    obtain ⟨_, E, hE, hown, hval⟩ := hmap
    obtain ⟨kt, et, hut, hkt, _⟩ := mapK_is ht
    have hlE : E.length < maxLen := by
      have : (unT k.t).length = E.length := by rw [hE]; simp [storeOf]
      have h2 : maxLen = 9223372036854775807 := rfl
      omega
    obtain ⟨es, clock, hheap, hF, hsz, hD⟩ := hown P kt hkt
    have hsz' : es.size < maxLen := Nat.lt_of_le_of_lt hsz hlE
    obtain ⟨es', clock', hrun, F', hput, _⟩ := fit_store (R' := RV) (yv := (.held (a.eval y), [])) (int_keyed hkt) hut hheap hF hsz' (fun _ _ _ _ hz => hz) (i64_key hkt hn) rfl
    simp only [DataW.map.injEq] at hD
    have hput2 : (es'.toList.map (rg P kt RV)).foldr DataW.insert [] = entries (insE (n, unBs cs, a.eval y) (delE n E)) := by
      rw [hput, ← hD, insE_ent, delE_ent]; rfl
    unfold Oper.wp
    have hex : (execOp a.eval o).run P w = .ok .skip (setBlock w b (.map es' clock')) := by
      simp [execOp, ho, hv1, hv2, hrun]
    rw [hex]
    have hdat : RdP F w (.data 1 (unBs cs).length ((unBs cs).map fun x => .v (.int .u8 (x.toNat : Int)))) (a.eval y) := by
      cases h3 with
      | p _ _ h3 =>
        rw [← sameB cs hb]
        have : (unBs cs).length = len := by simp [unBs, hl]
        rw [this]; exact h3
    have hone : (a.eval y).oneCell' = true := h3.one rfl
    have hFb : ∀ c, F c → (setBlock w b (.map es' clock')).heap[c]? = w.heap[c]? := fun c hc => heap_setBlock_other hheap _ (fun e => hblk.own (e ▸ hc))
    refine hK undef ρ F _ (Post.wrMap hpre.fok hblk.own hb' hobj rfl rfl rfl (by simp [setBlock]) (fun c hc => heap_setBlock_other hheap _ hc) ?_ (.any _))
    refine ⟨⟨es', clock', heap_setBlock_same hheap _⟩, insE (n, unBs cs, a.eval y) (delE n E), ?_, fun P' k' hk' => ?_, fun e he => ?_⟩
    · rw [insE_store, delE_store, ← hE]; rfl
    · refine owns_int hkt hk' ⟨es', clock', heap_setBlock_same hheap _, F', ?_, by rw [hput2]⟩
      have e1 : es'.size = ((es'.toList.map (rg P kt RV)).foldr DataW.insert []).length := by rw [length_sorted]; simp
      rw [e1, hput2]; simp [entries]
    · rcases insE_mem he with rfl | he
      · exact ⟨hone, hdat.mono (fun _ h => h) hFb⟩
      · have := hval e (List.mem_filter.1 he).1
        exact ⟨this.1, this.2.mono (fun _ h => h) hFb⟩
  le := Nat.le_refl _
  keysOk i hi := by simp [keys] at hi; exact .inl (by simp [hi])
  live i hi := by simp at hi; subst hi; rw [hk]; simp

theorem ok_mapDelete {o : Oper} {st : AS} {t kt0 : TypeId} {m x : Operand} (ho : o.op = .call ⟨.builtin .delete, #[m, x], #[t, kt0]⟩) {id : Nat} (hm : ev st m = .mp id) {n : Int} (hx : ev st x = .p (.v (.int .i64 n)))
    (ht : mapK P t = true) (hkt0 : P.underlying t = some (.map kt0 (mapE P t))) {k : Blk} (hk : hget st.hp id = some k) (hn : -9223372036854775808 ≤ n ∧ n ≤ 9223372036854775807) :
    OpOk P o st .any [id] [(id, some ⟨mapT (delS n (unT k.t)), []⟩)] st.nx where
  tri ρ F a w hpre hin K Q hK := by
    have h1 := hin m (by simp [ho, Op.operands, Call.operands])
    have h2 := hin x (by simp [ho, Op.operands, Call.operands])
    rw [hm] at h1
    rw [hx] at h2
    obtain ⟨b, hb', hv1, hobj⟩ := h1.mpInv
    have hv2 := h2.pv
    have hr : restr [id] (hget st.hp) id = some k := by simp [restr, hk]
    rcases hpre.hp.ok id k hr with ⟨_, h0⟩ | ⟨b2, hb2, hblk⟩
    · rw [h0] at hb'; cases hb'
    rw [hb'] at hb2; cases hb2
    obtain ⟨_, hmap⟩ := isMap_blk hblk hobj
    obtain ⟨_, E, hE, hown, hval⟩ := hmap
    obtain ⟨kt, et, hut, hkt, _⟩ := mapK_is ht
    obtain rfl : kt = kt0 := by rw [hut] at hkt0; injection hkt0 with h; injection h
    obtain ⟨es, clock, hheap, hF, hsz, hD⟩ := hown P kt hkt
    obtain ⟨es', hrun, F', hsz', hdel, _⟩ := fit_drop (R := RV) (ty := o.type) (int_keyed hkt) hut hheap hF (i64_key hkt hn)
    simp only [DataW.map.injEq] at hD
    have hdel2 : (es'.toList.map (rg P kt RV)).foldr DataW.insert [] = entries (delE n E) := by
      rw [hdel, ← hD, delE_ent]; rfl
    unfold Oper.wp
    have hex : (execOp a.eval o).run P w = .ok (.value (.tuple #[])) (setBlock w b (.map es' clock)) := by
      simp [execOp, ho, resolve, invoke, builtin, hv1, hv2, hrun]
    rw [hex]
    have hFb : ∀ c, F c → (setBlock w b (.map es' clock)).heap[c]? = w.heap[c]? := fun c hc => heap_setBlock_other hheap _ (fun e => hblk.own (e ▸ hc))
    refine hK _ ρ F _ (Post.wrMap hpre.fok hblk.own hb' hobj rfl rfl rfl (by simp [setBlock]) (fun c hc => heap_setBlock_other hheap _ hc) ?_ (.any _))
    refine ⟨⟨es', clock, heap_setBlock_same hheap _⟩, delE n E, ?_, fun P' k' hk' => ?_, fun e he => ?_⟩
    · rw [delE_store, ← hE]
    · refine owns_int hkt hk' ⟨es', clock, heap_setBlock_same hheap _, F', ?_, by rw [hdel2]⟩
      have e1 : es'.size = ((es'.toList.map (rg P kt RV)).foldr DataW.insert []).length := by rw [length_sorted]; simp
      rw [e1, hdel2]; simp [entries]
    · have := hval e (List.mem_filter.1 he).1
      exact ⟨this.1, this.2.mono (fun _ h => h) hFb⟩
  le := Nat.le_refl _
  keysOk i hi := by simp [keys] at hi; exact .inl (by simp [hi])
  live i hi := by simp at hi; subst hi; rw [hk]; simp

theorem atKey_ent (n : Int) (z : DataW Value) : ∀ E : List Ent, (DataW.map (entries E)).atKey (.int .i64 n) z = z ∧ getS n (storeOf E) = [] ∧ (∀ e, e ∈ E → e.1 ≠ n) ∨ ∃ e, e ∈ E ∧ (DataW.map (entries E)).atKey (.int .i64 n) z = .held e.2.2 ∧ getS n (storeOf E) = e.2.1
  | [] => .inl ⟨rfl, rfl, fun e he => by cases he⟩
  | y :: r => by
    by_cases h : y.1 = n
    · refine .inr ⟨y, by simp, ?_, ?_⟩
      · simp [DataW.atKey, entries, Lit.sameKey, h]
      · simp [storeOf, getS, h]
    · have e1 : (DataW.map (entries (y :: r))).atKey (.int .i64 n) z = (DataW.map (entries r)).atKey (.int .i64 n) z := by
        simp [DataW.atKey, entries, Lit.sameKey, h]
      have e2 : getS n (storeOf (y :: r)) = getS n (storeOf r) := by simp [storeOf, getS, h]
      rw [e1, e2]
      rcases atKey_ent n z r with ⟨h1, h2, h3⟩ | ⟨e, he, h1, h2⟩
      · exact .inl ⟨h1, h2, fun e he => by rcases List.mem_cons.1 he with rfl | he; exact h; exact h3 e he⟩
      · exact .inr ⟨e, by simp [he], h1, h2⟩

theorem ok_mapLookup {o : Oper} {st : AS} {t : TypeId} {m x : Operand} (ho : o.op = .lookup t m x false) {id : Nat} (hm : ev st m = .mp id) {n : Int} (hx : ev st x = .p (.v (.int .i64 n)))
    (ht : mapK P t = true) {k : Blk} (hk : hget st.hp id = some k) (hn : -9223372036854775808 ≤ n ∧ n ≤ 9223372036854775807) :
    OpOk P o st (.p (.data 1 (getS n (unT k.t)).length ((getS n (unT k.t)).map bt))) [id] [] st.nx where
  tri ρ F a w hpre hin K Q hK := by
    have h1 := hin m (by simp [ho, Op.operands])
    have h2 := hin x (by simp [ho, Op.operands])
    rw [hm] at h1
    rw [hx] at h2
    obtain ⟨b, hb', hv1, hobj⟩ := h1.mpInv
    have hv2 := h2.pv
    have hr : restr [id] (hget st.hp) id = some k := by simp [restr, hk]
    rcases hpre.hp.ok id k hr with ⟨_, h0⟩ | ⟨b2, hb2, hblk⟩
    · rw [h0] at hb'; cases hb'
    rw [hb'] at hb2; cases hb2
    obtain ⟨_, hmap⟩ := isMap_blk hblk hobj
    obtain ⟨_, E, hE, hown, hval⟩ := hmap
    obtain ⟨kt, et, hut, hkt, hz⟩ := mapK_is ht
    obtain ⟨v, ps, hrun, hR⟩ := (hown P kt hkt).lookup (int_keyed hkt) hut (hz w) (zd := .held (.slice none 0 0)) (zp := []) rfl (i64_key hkt hn)
    simp only [RV, Option.some.injEq, Prod.mk.injEq] at hR
    have hrd : RdP F w (.data 1 (getS n (unT k.t)).length ((getS n (unT k.t)).map bt)) v := by
      rw [hE]
      rcases atKey_ent n (.held (.slice none 0 0)) E with ⟨g1, g2, _⟩ | ⟨e, he, g1, g2⟩
      · rw [g1] at hR
        obtain ⟨hR, _⟩ := hR
        cases hR
        rw [g2]
        exact .nil _ _ _
      · rw [g1] at hR
        obtain ⟨hR, _⟩ := hR
        cases hR
        rw [g2]
        exact (hval e he).2
    unfold Oper.wp
    have hex : (execOp a.eval o).run P w = .ok (.value v) w := by
      simp [execOp, ho, hv1, hv2, hrun]
    rw [hex]
    refine hK _ ρ F w ⟨fun _ _ h => h, fun i h1 h2 => absurd h1 h2, fun i b h1 h2 => (by rw [h1] at h2; cases h2), .p _ _ hrd, ?_, hpre.fok, Chg.refl _ _ _⟩
    have : restr ([id] ++ keys []) (updH [] (hget st.hp)) = restr [id] (hget st.hp) := by funext i; simp [restr, keys, updH]
    rw [this]
    exact hpre.hp
  le := Nat.le_refl _
  keysOk i hi := by simp [keys] at hi
  live i hi := by simp at hi; subst hi; rw [hk]; simp

/-! the rules -/
noncomputable def updMR (st : AS) (mk : Bool) : AV → AV → AV → R
  | .mp id, .p (.v (.int .i64 n)), .p (.data 1 len cs) => match mk, hget st.hp id with
    | true, some b => .okS ((-9223372036854775808 ≤ n ∧ n ≤ 9223372036854775807) ∧ allB cs ∧ cs.length = len ∧ (unT b.t).length < 1000000000) .any [id] [(id, some ⟨mapT (putS n (unBs cs) (unT b.t)), []⟩)] st.nx
    | _, _ => .bad
  | _, _, _ => .bad
noncomputable def delMR (st : AS) (mk same : Bool) : AV → AV → R
  | .mp id, .p (.v (.int .i64 n)) => match mk, same, hget st.hp id with
    | true, true, some b => .okS (-9223372036854775808 ≤ n ∧ n ≤ 9223372036854775807) .any [id] [(id, some ⟨mapT (delS n (unT b.t)), []⟩)] st.nx
    | _, _, _ => .bad
  | _, _ => .bad
noncomputable def lookMR (st : AS) (mk : Bool) : AV → AV → R
  | .mp id, .p (.v (.int .i64 n)) => match mk, hget st.hp id with
    | true, some b => .okS (-9223372036854775808 ≤ n ∧ n ≤ 9223372036854775807) (.p (.data 1 (getS n (unT b.t)).length ((getS n (unT b.t)).map bt))) [id] [] st.nx
    | _, _ => .bad
  | _, _ => .bad

end Go.Abs

namespace Go.Abs
set_option linter.unusedSimpArgs false
set_option linter.unusedVariables false
open Go Go.RowKit
variable {P : Program}

def TK.isNone : TK → Bool
  | .none => true
  | _ => false
def TK.isIface : TK → Bool
  | .iface => true
  | _ => false

def isK : Operand → Bool
  | .const _ => true
  | _ => false
def convR (st : AS) (same isC : Bool) (et : TypeId) (ss ds : Nat) (sk dk se de : TK) : AV → R
  | .p (.v (.int _ n)) => match dk, sk.isNone with
    | .int k, false => .pure st (.p (.v (.int k (k.wrap n))))
    | _, _ => .bad
  | .p (.v (.string s)) => match dk, sk, de, isC with
    | .slice, .str, .int .u8, true => .pure st (.p (.data 1 s.size (s.data.toList.map bt)))
    | .slice, .str, .int .u8, false => .ok (.sl st.nx 0 s.size 1) [] [(st.nx, some ⟨et, (s.data.toList.map bt).map .p⟩)] (st.nx + 1)
    | _, _, _, _ => .bad
  | .p (.data s n cs) => match dk, sk, se, Nat.beq s 1 with
    | .str, .slice, .int .u8, true => .pureS st (allB cs) (.p (.v (strOf (unBs cs))))
    | _, _, _, _ => .bad
  | .sl id off n s => match dk, sk, se, Nat.beq s 1, hget st.hp id with
    | .str, .slice, .int .u8, true, some b => .okS (off + n ≤ b.cs.length ∧ allP ((b.cs.drop off).take n) ∧ allB (unPs ((b.cs.drop off).take n))) (.p (.v (strOf (unBs (unPs ((b.cs.drop off).take n)))))) [id] [] st.nx
    | .slice, .slice, .int .u8, true, some b => match same with
      | true => .okS (off + n ≤ b.cs.length ∧ n ≠ 0 ∧ allP ((b.cs.drop off).take n)) (.p (.data 1 n (unPs ((b.cs.drop off).take n)))) [id] [(id, none)] st.nx
      | false => .bad
    | _, _, _, _, _ => .bad
  | .ptr id off => match sk, dk, Nat.beq off 0, hget st.hp id with
    | .ptr, .uptr, true, some b => .okS (1 ≤ b.cs.length ∧ 1 ≤ ss) (.ptr id 0) [id] [] st.nx
    | .uptr, .ptr, true, some b => .okS (1 ≤ ds ∧ ds ≤ b.cs.length ∧ b.t = et) (.ptr id 0) [id] [] st.nx
    | _, _, _, _ => .bad
  | _ => .bad

def bndLo : Option AV → Option Int
  | none => some 0
  | some (.p (.v (.int _ n))) => some n
  | some _ => none
def bndHi (top : Int) : Option AV → Option Int
  | none => some top
  | some (.p (.v (.int _ n))) => some n
  | some _ => none
def bndMx (h : Option AV) : Option AV → Option (Option Int)
  | none => some none
  | some (.p (.v (.int _ n))) => match h with
    | some _ => some (some n)
    | none => none
  | some _ => none
def mxIs (h : Int) : Option Int → Prop
  | none => True
  | some m => m = h

def topOf (n : Nat) : AV → Int
  | .p (.v (.string s)) => s.size
  | .p (.data _ n _) => n
  | .sl _ _ n _ => n
  | .ptr _ _ => n
  | _ => 0

def sliceR (st : AS) (k : TK) (len es : Nat) (x : AV) (l h : Option Int) (m : Option (Option Int)) : R :=
  match x, l, h, m with
  | .p (.v (.string s)), some l, some h, some none => match k with
    | .str => .pureS st (0 ≤ l ∧ l ≤ h ∧ h ≤ s.size) (.p (.v (.string (s.extract l.toNat h.toNat))))
    | _ => .bad
  | .p (.v (.slice none 0 0)), some l, some h, some none => match k, Nat.ble 1 es with
    | .slice, true => .pureS st (0 ≤ l ∧ l ≤ h ∧ h ≤ 0) (.p (.v (.slice none 0 0)))
    | _, _ => .bad
  | .p (.data s n cs), some l, some h, some m => match k, Nat.beq s es, Nat.ble 1 es with
    | .slice, true, true => .pureS st (0 ≤ l ∧ l ≤ h ∧ h ≤ n ∧ mxIs h m) (.p (.data s (h.toNat - l.toNat) ((cs.drop (l.toNat * s)).take ((h.toNat - l.toNat) * s))))
    | _, _, _ => .bad
  | .sl id off n s, some l, some h, some m => match k, Nat.beq s es, Nat.ble 1 es with
    | .slice, true, true => .pureS st (0 ≤ l ∧ l ≤ h ∧ h ≤ n ∧ mxIs h m) (.sl id (off + l.toNat * s) (h.toNat - l.toNat) s)
    | _, _, _ => .bad
  | .ptr id off, some l, some h, some m => match k, Nat.ble 1 es, Nat.ble 1 len, hget st.hp id with
    | .array, true, true, some b => .okS (0 ≤ l ∧ l ≤ h ∧ h ≤ len ∧ mxIs h m ∧ off + len * es ≤ b.cs.length) (.sl id (off + l.toNat * es) (h.toNat - l.toNat) es) [id] [] st.nx
    | _, _, _, _ => .bad
  | _, _, _, _ => .bad

def nilR (st : AS) : AV → R
  | .ptr id off => .pure st (.ptr id off)
  | .cp cs => .pure st (.cp cs)
  | .fn (.func f) a b => .pure st (.fn (.func f) a b)
  | .p (.v (.func (.func f) a b)) => .pure st (.p (.v (.func (.func f) a b)))
  | _ => .bad

def ifaceR (st : AS) (t : TypeId) (k : TK) (x : AV) : R :=
  match k.isIface, k.isNone with
  | false, false => .pure st (.iface t x)
  | _, _ => .bad

def methF (P : Program) (t : TypeId) (name : String) : Option FuncId :=
  match P.info? t, P.underlying t with
  | some i, some d => match i.methods.find? (·.name == name) with
    | some m => match m.path.toList, m.func, tkOf (some d) with
      | [], some (f, true), .ptr => some f
      | [], some (_, false), .ptr => none
      | [], some (f, false), _ => some f
      | _, _, _ => none
    | none => none
  | _, _ => none

def callV (args : List AV) : AV → R
  | .p (.v (.func (.func f) a b)) => match Nat.beq a.size 0, Nat.beq b.size 0 with
    | true, true => .call f args
    | _, _ => .bad
  | .fn (.func f) a b => .call f (a ++ args ++ b)
  | _ => .bad

def unI : PV → AV
  | .agg cs => .agg (cs.map .p)
  | .v x => .p (.v x)
  | .data s n cs => .p (.data s n cs)
  | .iface t x => .p (.iface t x)
def invK (args : List AV) (x : AV) : Option FuncId → R
  | some f => .call f (x :: args)
  | none => .bad
def invokeR (P : Program) (args : List AV) (name : String) : AV → R
  | .iface t x => invK args x (methF P t name)
  | .p (.iface t x) => invK args (unI x) (methF P t name)
  | _ => .bad
theorem unI_rd {ρ : IdMap} {F : FSet} {w : World} {x : PV} {u : Value} (h : RdP F w x u) : Rd ρ F w (unI x) u := by
  cases h with
  | agg cs us hl hr =>
    refine .agg _ us (by simpa using hl) (fun j c hj => ?_)
    simp only [List.getElem?_map, Option.map_eq_some_iff] at hj
    obtain ⟨y, hy, rfl⟩ := hj
    exact .p _ _ (hr j y hy)
  | v _ h1 => exact .p _ _ (.v _ h1)
  | nil s A cap => exact .p _ _ (.nil s A cap)
  | data s n cs b off cap f hl hcap hF hc h1 hr => exact .p _ _ (.data s n cs b off cap f hl hcap hF hc h1 hr)
  | iface t x u h => exact .p _ _ (.iface t x u h)

noncomputable def callB (P : Program) (st : AS) : Builtin → List Operand → List TypeId → R
  | .len, [x], [t] => lenR st (tiOf P t) (ev st x)
  | .max, [x, y], _ => max2R st (ev st x) (ev st y)
  | .min, [x, y], _ => min2R st (ev st x) (ev st y)
  | .append, [x, y], [t, t'] => match Nat.beq t t' with
    | true => appendR st (tiOf P t) (tiOf P (tiOf P t).elem) (ev st x) (srcOf st (tiOf P (tiOf P t).elem).size (ev st y))
    | false => match (tiOf P t').kind with
      | .int _ => appZR st (tiOf P t) (tiOf P (tiOf P t).elem) (ev st x) (ev st y)
      | .str => appendR st (tiOf P t) (tiOf P (tiOf P t).elem) (ev st x) (srcOf st (tiOf P (tiOf P t).elem).size (ev st y))
      | _ => .bad
  | .cap, [x], [t] => capR st (tiOf P t) (ev st x)
  | .copy, [x, y], [t, _] => copyR st (tiOf P t) (tiOf P (tiOf P t).elem) (ev st x) (srcOf st (tiOf P (tiOf P t).elem).size (ev st y))
  | .delete, [x, y], [t, t'] => delMR st (mapK P t) (Nat.beq (mapKy P t) t') (ev st x) (ev st y)
  | .unsafeSliceData, [x], [_] => dataR st (ev st x)
  | .unsafeString, [x, y], [pt, _] => match (tiOf P pt).kind with
    | .ptr => ustrR st (tiOf P pt).elem (tiOf P (tiOf P pt).elem).size (tiOf P (tiOf P pt).elem).kind (ev st x) (ev st y)
    | _ => .bad
  | _, _, _ => .bad

noncomputable def callR (P : Program) (st : AS) (args : List Operand) (tys : List TypeId) : Callee → R
  | .builtin b => callB P st b args tys
  | .value f => callV (evs st args) (ev st f)
  | .invoke r m => invokeR P (evs st args) m (ev st r)

noncomputable def aop (P : Program) (o : Op) (st : AS) : R :=
  match o with
  | .move x => .pure st (ev st x)
  | .assign x => .pure st (ev st x)
  | .pick c a b => pickR st (ev st c) (ev st a) (ev st b)
  | .alloc t => allocR st t (tiOf P t).zero
  | .box t x => boxR st t (ev st x)
  | .build t parts => buildR st (tiOf P t) (tiOf P (tiOf P t).elem).size (evp st parts.toList)
  | .buildSlice t len parts => sliceLitR st (tiOf P t) (tiOf P (tiOf P t).elem) len (evp st parts.toList)
  | .load t x => loadR st (tiOf P t) (ev st x)
  | .store t x y => storeR st (tiOf P t) (ev st x) (ev st y)
  | .nilCheck x => nilR st (ev st x)
  | .binOp op t x y _ => binR st op (tiOf P t).kind (eqT P t) (tiOf P t).flds (ev st x) (ev st y)
  | .unOp op _ x => unR st op (ev st x)
  | .convert s d x => convR st (Nat.beq s d) (isK x) (tiOf P d).elem (tiOf P (tiOf P s).elem).size (tiOf P (tiOf P d).elem).size (tiOf P s).kind (tiOf P d).kind (tiOf P (tiOf P s).elem).kind (tiOf P (tiOf P d).elem).kind (ev st x)
  | .makeInterface t x => ifaceR st t (tiOf P t).kind (ev st x)
  | .makeFunc f xs ys => .pure st (.fn f (evs st xs.toList) (evs st ys.toList))
  | .makeSlice t x y => makeR st (tiOf P t) (tiOf P (tiOf P t).elem) (ev st x) (ev st y)
  | .slice t x lo hi mx => sliceR st (tiOf P t).kind (tiOf P t).len (tiOf P (tiOf P t).elem).size (ev st x) (bndLo (lo.map (ev st))) (bndHi (topOf (tiOf P t).len (ev st x)) (hi.map (ev st))) (bndMx (hi.map (ev st)) (mx.map (ev st)))
  | .fieldAddr t x f => fieldR st (ev st x) (tiOf P t).flds[f]?
  | .field t x f => fieldV st (ev st x) (tiOf P t).flds[f]?
  | .indexAddr t x y => indexR st (tiOf P t) (tiOf P (tiOf P t).elem).size (ev st x) (ev st y)
  | .index t x y => idxVR st (tiOf P t) (tiOf P (tiOf P t).elem).size (tiOf P (tiOf P t).elem).kind (ev st x) (ev st y)
  | .extract x i => extractR st i (ev st x)
  | .call c => callR P st c.args.toList c.argTypes.toList c.callee
  | .makeMap _ none => .ok (.mp st.nx) [] [(st.nx, some ⟨mapT [], []⟩)] (st.nx + 1)
  | .mapUpdate t m x y => updMR st (mapK P t) (ev st m) (ev st x) (ev st y)
  | .lookup t m x false => lookMR st (mapK P t) (ev st m) (ev st x)
  | _ => .bad

def AopOk (P : Program) (o : Oper) (st : AS) (r : R) : Prop :=
  (∀ v T u nx, r = .ok v T u nx → OpOk P o st v T u nx) ∧ (∀ s v T u nx, r = .okS s v T u nx → s → OpOk P o st v T u nx)

theorem AopOk.bad {o : Oper} {st : AS} : AopOk P o st .bad := ⟨fun _ _ _ _ h => (by cases h), fun _ _ _ _ _ h => by cases h⟩
theorem AopOk.call {o : Oper} {st : AS} {f : FuncId} {vs : List AV} : AopOk P o st (.call f vs) := ⟨fun _ _ _ _ h => (by cases h), fun _ _ _ _ _ h => by cases h⟩
theorem AopOk.pure {o : Oper} {st : AS} {v : AV} (h : OpOk P o st v [] [] st.nx) : AopOk P o st (.pure st v) :=
  ⟨fun _ _ _ _ e => by simp only [R.pure, R.ok.injEq] at e; obtain ⟨rfl, rfl, rfl, rfl⟩ := e; exact h, fun _ _ _ _ _ e => by cases e⟩
theorem AopOk.ok {o : Oper} {st : AS} {v : AV} {T : List Nat} {u : List (Nat × Option Blk)} {nx : Nat} (h : OpOk P o st v T u nx) : AopOk P o st (.ok v T u nx) :=
  ⟨fun _ _ _ _ e => by simp only [R.ok.injEq] at e; obtain ⟨rfl, rfl, rfl, rfl⟩ := e; exact h, fun _ _ _ _ _ e => by cases e⟩
theorem AopOk.okS {o : Oper} {st : AS} {s : Prop} {v : AV} {T : List Nat} {u : List (Nat × Option Blk)} {nx : Nat} (h : s → OpOk P o st v T u nx) : AopOk P o st (.okS s v T u nx) :=
  ⟨fun _ _ _ _ e => (by cases e), fun _ _ _ _ _ e hs => by simp only [R.okS.injEq] at e; obtain ⟨rfl, rfl, rfl, rfl, rfl⟩ := e; exact h hs⟩
theorem AopOk.pureS {o : Oper} {st : AS} {s : Prop} {v : AV} (h : s → OpOk P o st v [] [] st.nx) : AopOk P o st (.pureS st s v) := AopOk.okS h

theorem bnds_of {st : AS} {lo hi mx : Option Operand} {top : Int} {l h : Int} {m : Option Int} (h1 : bndLo (lo.map (ev st)) = some l) (h2 : bndHi top (hi.map (ev st)) = some h) (h3 : bndMx (hi.map (ev st)) (mx.map (ev st)) = some m) (hm : mxIs h m) :
    Bnds st lo hi mx top l h := by
  refine ⟨?_, ?_, ?_⟩
  · cases lo with
    | none => simp [bndLo] at h1; exact .inl ⟨rfl, h1.symm⟩
    | some x =>
      simp only [Option.map_some] at h1
      unfold bndLo at h1
      split at h1
      · rename_i e; cases e
      · rename_i k n e
        injection h1 with h1; subst h1
        exact .inr ⟨x, k, rfl, by injection e⟩
      · cases h1
  · cases hi with
    | none =>
      simp [bndHi] at h2
      refine .inl ⟨rfl, h2.symm, ?_⟩
      cases mx with
      | none => rfl
      | some x =>
        simp only [Option.map_none, Option.map_some] at h3
        unfold bndMx at h3
        split at h3
        · rename_i e; cases e
        · cases h3
        · cases h3
    | some x =>
      simp only [Option.map_some] at h2
      unfold bndHi at h2
      split at h2
      · rename_i e; cases e
      · rename_i k n e
        injection h2 with h2; subst h2
        exact .inr ⟨x, k, rfl, by injection e⟩
      · cases h2
  · cases mx with
    | none => exact .inl rfl
    | some x =>
      simp only [Option.map_some] at h3
      unfold bndMx at h3
      split at h3
      · rename_i e; cases e
      · rename_i k n e
        split at h3
        · injection h3 with h3; subst h3
          simp only [mxIs] at hm
          subst hm
          exact .inr ⟨x, k, rfl, by injection e⟩
        · cases h3
      · cases h3

theorem ok_sliceStr {o : Oper} {st : AS} {t : TypeId} {x : Operand} {lo hi : Option Operand} (ho : o.op = .slice t x lo hi none) {s : ByteArray} (hx : ev st x = .p (.v (.string s))) (hk : (tiOf P t).kind = .str)
    {l h : Int} (hb : Bnds st lo hi none s.size l h) (h0 : 0 ≤ l) (h1 : l ≤ h) (h2 : h ≤ s.size) : OpOk P o st (.p (.v (.string (s.extract l.toNat h.toNat)))) [] [] st.nx :=
  ok_pure fun ρ F a w hin => by
    obtain ⟨hx1, hin'⟩ := slice_ops ho
    have hr := hin x hx1
    rw [hx] at hr
    obtain ⟨m, hm1, hm2, hrun⟩ := run_bnds (P := P) hb (fun y hy => hin y (hin' y hy)) h0 h1 h2 (Nat.le_refl _) false
    simp only [Option.map_none] at hrun
    refine ⟨_, ?_, .ofV rfl⟩
    simp [execOp, ho, hr.pv, Instr.sliceAt, run_underlying (ti_str hk), Instr.slice, hrun]

theorem aop_build {o : Oper} {st : AS} {t : TypeId} {parts : Array (Nat × Operand)} (ho : o.op = .build t parts) : AopOk P o st (buildR st (tiOf P t) (tiOf P (tiOf P t).elem).size (evp st parts.toList)) := by
  refine ⟨fun v T u nx h => ok_build ho h, fun s v T u nx h => ?_⟩
  unfold buildR at h
  repeat' split at h
  all_goals cases h

theorem aop_sliceLit {o : Oper} {st : AS} {t : TypeId} {len : Nat} {parts : Array (Nat × Operand)} (ho : o.op = .buildSlice t len parts) : AopOk P o st (sliceLitR st (tiOf P t) (tiOf P (tiOf P t).elem) len (evp st parts.toList)) := by
  refine ⟨fun v T u nx h => ok_sliceLit ho h, fun s v T u nx h => ?_⟩
  unfold sliceLitR at h
  repeat' split at h
  all_goals cases h

theorem aop_make {o : Oper} {st : AS} {t : TypeId} {x y : Operand} (ho : o.op = .makeSlice t x y) : AopOk P o st (makeR st (tiOf P t) (tiOf P (tiOf P t).elem) (ev st x) (ev st y)) := by
  refine ⟨fun v T u nx h => ?_, fun s v T u nx h hs => ok_make ho h hs⟩
  unfold makeR at h
  repeat' split at h
  all_goals cases h

theorem appendR_bad {st : AS} {ti ei : TI} {x : AV} {s : Src} (h : ti.kind ≠ .slice) : appendR st ti ei x s = .bad := by
  unfold appendR
  split
  · split
    · rename_i hk _ _; exact absurd hk h
    · rfl
  · rfl
theorem aop_append {o : Oper} {st : AS} {t t' : TypeId} {x y : Operand} (ho : o.op = .call ⟨.builtin .append, #[x, y], #[t, t']⟩) {dt : TypeDesc} (hdt : P.underlying t' = some dt) (hni : ∀ k, dt ≠ .int k) :
    AopOk P o st (appendR st (tiOf P t) (tiOf P (tiOf P t).elem) (ev st x) (srcOf st (tiOf P (tiOf P t).elem).size (ev st y))) := by
  refine ⟨fun v T u nx h => ?_, fun s v T u nx h hs => ok_append ho hdt hni h hs⟩
  unfold appendR at h
  repeat' split at h
  all_goals cases h

theorem aop_load {o : Oper} {st : AS} {t : TypeId} {x : Operand} (ho : o.op = .load t x) : AopOk P o st (loadR st (tiOf P t) (ev st x)) := by
  cases hx : ev st x with
  | ptr id off =>
    simp only [loadR]
    cases hk : hget st.hp id with
    | none => exact .bad
    | some k =>
      simp only [loadB]
      split
      · rename_i h2
        exact .okS fun h1 => ok_load_blk ho hx hk (Nat.le_of_ble_eq_true h2) h1
      · exact .bad
  | cp cs =>
    simp only [loadR]
    split
    · rename_i h1 h2
      refine .pureS fun hl => ?_
      have := ok_loadCp ho hx (Nat.le_of_ble_eq_true h2) hl (dfl (tiOf P t).kind)
      have h1' : (tkOf (P.underlying t)).agg = true := h1
      rw [if_pos h1'] at this
      exact this
    · rename_i h1 h2
      refine .pureS fun hl => ?_
      have := ok_loadCp ho hx (Nat.le_of_ble_eq_true h2) hl (dfl (tiOf P t).kind)
      have h1' : ¬ (tkOf (P.underlying t)).agg = true := by
        have : (tkOf (P.underlying t)).agg = false := h1
        rw [this]; simp
      rw [if_neg h1'] at this
      exact this
    · exact .bad
  | _ => exact .bad

theorem aop_store {o : Oper} {st : AS} {t : TypeId} {x y : Operand} (ho : o.op = .store t x y) : AopOk P o st (storeR st (tiOf P t) (ev st x) (ev st y)) := by
  cases hx : ev st x with
  | ptr id off =>
    simp only [storeR]
    cases hk : hget st.hp id with
    | none => exact .bad
    | some k =>
      simp only [storeB]
      split
      · rename_i h1 h2 h3
        exact .okS fun hl => ok_store ho hx hk h1 hl (Nat.eq_of_beq_eq_true h2) (Nat.le_of_ble_eq_true h3)
      · exact .bad
  | _ => exact .bad

theorem headA_get (d : PV) (xs : List AV) (o : Nat) (x : AV) (h : headA d (xs.drop o) = x) (hx : x ≠ .p d) : xs[o]? = some x := by
  cases hd : xs.drop o with
  | nil => rw [hd] at h; simp [headA] at h; exact absurd h.symm hx
  | cons c r =>
    rw [hd] at h
    simp only [headA] at h
    subst h
    have := List.getElem?_drop (xs := xs) (i := o) (j := 0)
    rw [hd] at this
    simpa using this.symm
theorem run_cellEq {ρ : IdMap} {F : FSet} {w : World} {t : TypeId} {x y : AV} {u v : Value} {b : Bool} {d : Nat} (h : cellEq (tkOf (P.underlying t)) x y = some b) (hx : Rd ρ F w x u) (hy : Rd ρ F w y v) (w' : World) : (Op.equalIn (d + 1) t u v).run P w' = .ok b w' := by
  cases hu : P.underlying t with
  | none => rw [hu] at h; simp [tkOf, cellEq] at h
  | some dd =>
    rw [hu] at h
    unfold cellEq at h
    split at h
    · rename_i hk
      split at h
      · rename_i hij
        cases h
        have e1 := hx.pv
        have e2 := hy.pv
        subst e1 e2
        rename_i k i a j b' _
        have : i = j := by cases i <;> cases j <;> simp_all [eqK]
        subst this
        cases dd <;> simp [tkOf] at hk
        exact run_equalIn_int w' d t _ _ _ _ hu
      · cases h
    · rename_i hk
      cases h
      have e1 := hx.pv
      have e2 := hy.pv
      subst e1 e2
      cases dd <;> simp [tkOf] at hk
      exact run_equalIn_bool' w' d t _ _ hu
    · rename_i hk
      cases h
      have e1 := hx.pv
      have e2 := hy.pv
      subst e1 e2
      cases dd <;> simp [tkOf] at hk
      exact run_equalIn_string w' d t _ _ hu
    · cases h
theorem cellEq_ne {k : TK} {x y : AV} {b : Bool} (h : cellEq k x y = some b) : x ≠ .p (.v undef) ∧ y ≠ .p (.v undef) ∧ k.agg = false := by
  unfold cellEq at h
  split at h
  · exact ⟨by simp [undef], by simp [undef], rfl⟩
  · exact ⟨by simp [undef], by simp [undef], rfl⟩
  · exact ⟨by simp [undef], by simp [undef], rfl⟩
  · cases h
theorem run_part_one {t : TypeId} {xs : Array Value} {o : Nat} {v : Value} (hk : (tkOf (P.underlying t)).agg = false) (hu : P.underlying t ≠ none) (hv : xs[o]? = some v) (w : World) : (part t xs o).run P w = .ok v w := by
  cases h : P.underlying t with
  | none => exact absurd h hu
  | some d => cases d <;> simp [h, tkOf, TK.agg] at hk <;> simp [part, isAgg, run_underlying h, hv]
theorem run_fldsEq {ρ : IdMap} {F : FSet} {w : World} {cs ds : List AV} {us vs : Array Value} (hz : us.size = cs.length) (hz' : vs.size = ds.length) (hr : ∀ j c, cs[j]? = some c → Rd ρ F w c (us.getD j undef)) (hr' : ∀ j c, ds[j]? = some c → Rd ρ F w c (vs.getD j undef)) (d : Nat) (w' : World) :
    ∀ (fs : List Field) (b : Bool), (∀ f, f ∈ fs → f.name ≠ "_") → fldsEq (fs.map fun f => (f.offset, szOf P f.type, tkOf (P.underlying f.type))) cs ds = some b → (Op.eqFields (d + 1) us vs fs).run P w' = .ok b w'
  | [], b, _, h => by simp [fldsEq] at h; subst h; simp [Op.eqFields]
  | f :: fs, b, hn, h => by
    simp only [List.map_cons, fldsEq] at h
    cases hc : cellEq (tkOf (P.underlying f.type)) (headA (.v undef) (cs.drop f.offset)) (headA (.v undef) (ds.drop f.offset)) with
    | none => rw [hc] at h; simp [andO] at h
    | some b1 =>
      cases hq : fldsEq (fs.map fun f => (f.offset, szOf P f.type, tkOf (P.underlying f.type))) cs ds with
      | none => rw [hc, hq] at h; simp [andO] at h
      | some b2 =>
        rw [hc, hq] at h
        simp only [andO, Option.some.injEq] at h
        obtain ⟨n1, n2, n3⟩ := cellEq_ne hc
        have g1 := headA_get _ _ _ _ rfl n1
        have g2 := headA_get _ _ _ _ rfl n2
        have r1 := hr _ _ g1
        have r2 := hr' _ _ g2
        have l1 : f.offset < us.size := by rw [hz]; exact (List.getElem?_eq_some_iff.1 g1).1
        have l2 : f.offset < vs.size := by rw [hz']; exact (List.getElem?_eq_some_iff.1 g2).1
        have q1 : us[f.offset]? = some (us.getD f.offset undef) := by simp [l1]
        have q2 : vs[f.offset]? = some (vs.getD f.offset undef) := by simp [l2]
        have hu : P.underlying f.type ≠ none := fun e => by rw [e] at hc; simp [tkOf, cellEq] at hc
        simp only [Op.eqFields, if_pos (hn f (by simp)), Sem.run_bind, run_part_one n3 hu q1, run_part_one n3 hu q2, Result.andThen_ok, run_cellEq hc r1 r2 w']
        cases b1 with
        | false => simp at h; subst h; simp
        | true =>
          simp at h; subst h
          simpa using run_fldsEq hz hz' hr hr' d w' fs b2 (fun f hf => hn f (by simp [hf])) hq
theorem ok_aggEq {o : Oper} {st : AS} {op : BinOp} {t t' : TypeId} {x y : Operand} (ho : o.op = .binOp op t x y t') (hk : (tiOf P t).kind = .struct) {xs ys : List AV} (hx : ev st x = .agg xs) (hy : ev st y = .agg ys) :
    AopOk P o st (aggR st op (fldsEq (tiOf P t).flds xs ys) (eqT P t)) := by
  obtain ⟨fs, hu⟩ := ti_struct hk
  cases hb : fldsEq (tiOf P t).flds xs ys with
  | none => simp only [aggR]; exact .bad
  | some b =>
    cases hq : eqT P t with
    | false => simp only [aggR]; exact .bad
    | true =>
      simp only [eqT, hu, Bool.and_eq_true, Bool.not_eq_true', List.all_eq_true, bne_iff_ne, ne_eq] at hq
      obtain ⟨⟨hn, hs⟩, hg⟩ := hq
      have hfl : (tiOf P t).flds = fs.toList.map fun f => (f.offset, szOf P f.type, tkOf (P.underlying f.type)) := by simp [tiOf, fldsOfD, hu]
      rw [hfl] at hb
      have hfo : P.fieldsOf t = fs := by simp [Program.fieldsOf, hu]
      have key : ∀ (r : Bool), (∀ us vs w, (Op.equalIn 10000 t (.agg us) (.agg vs)).run P w = .ok b w → (binOp op t (.agg us) (.agg vs)).run P w = .ok (.bool r) w) → OpOk P o st (.b r) [] [] st.nx := fun r hr =>
        ok_pure fun ρ F a w hin => by
          have e1 := hin x (by simp [ho, Op.operands])
          have e2 := hin y (by simp [ho, Op.operands])
          rw [hx] at e1; rw [hy] at e2
          obtain ⟨us, hp, hz, hr1⟩ := e1.aggInv
          obtain ⟨vs, hp', hz', hr2⟩ := e2.aggInv
          refine ⟨.bool r, ?_, .ofV rfl⟩
          have hrun : (Op.equalIn 10000 t (.agg us) (.agg vs)).run P w = .ok b w := by
            rw [run_equalIn_agg w 9999 t us vs (by rw [hfo]; exact hu) hs, hfo]
            exact run_fldsEq hz hz' hr1 hr2 9998 w fs.toList b hn hb
          simp only [execOp, ho, hp, hp', Sem.run_bind, run_eqGuard_agg w op t x y us vs hg, Result.andThen_ok, hr us vs w hrun, Sem.run_pure]
      simp only [aggR]
      cases op <;> first
        | exact .bad
        | exact .pure (key _ (fun us vs w h => by rw [run_eql_struct, h]; rfl))
        | exact .pure (key _ (fun us vs w h => by rw [run_neq_struct, h]; rfl))

theorem aop_bin {o : Oper} {st : AS} {op : BinOp} {t t' : TypeId} {x y : Operand} (ho : o.op = .binOp op t x y t') : AopOk P o st (binR st op (tiOf P t).kind (eqT P t) (tiOf P t).flds (ev st x) (ev st y)) := by
  unfold binR
  split
  · rename_i hx hy
    exact ok_arith ho hx hy
  · rename_i a b hx hy
    have key : ∀ r : Value, r.oneCell' = true → (∀ w, (binOp op t (.string a) (.string b)).run P w = .ok r w) → OpOk P o st (.p (.v r)) [] [] st.nx := fun r h1 h2 =>
      ok_bin ho hx hy (fun w => by rw [Sem.run_bind, run_guard_str]; exact h2 w) h1
    cases op <;> simp only [strR] <;> first
      | exact .bad
      | exact .pure (key _ rfl (fun w => by simp [binOp, Op.stringOp]))
      | skip
    refine .pureS fun hs => key _ rfl (fun w => ?_)
    have : ¬ (IntKind.i64.max < ((a.size + b.size : Nat) : Int)) := by
      have : IntKind.i64.max = 9223372036854775807 := rfl
      omega
    simp [binOp, Op.stringOp]
    simp at this
    omega
  · rename_i a b hx hy
    cases hk : (tiOf P t).kind with
    | bool =>
      have hu := ti_bool hk
      have key : ∀ r : Value, r.oneCell' = true → (∀ w, (binOp op t (.bool a) (.bool b)).run P w = .ok r w) → OpOk P o st (.p (.v r)) [] [] st.nx := fun r h1 h2 =>
        ok_bin ho hx hy (fun w => by rw [Sem.run_bind, run_guard_bool]; exact h2 w) h1
      have heq0 : ∀ (d : Nat) (w : World), (Op.equalIn (d + 1) t (.bool a) (.bool b)).run P w = .ok (a == b) w := fun d w => by simp [Op.equalIn, run_underlying hu]
      have heq : ∀ w, (Op.equal t (.bool a) (.bool b)).run P w = .ok (a == b) w := fun w => heq0 9999 w
      cases op <;> simp only [boolR] <;> first
        | exact .bad
        | exact .pure (key _ rfl (fun w => by simp [binOp, heq]))
    | _ => exact .bad
  · rename_i hx hy
    split
    · rename_i hk
      exact ok_eqNil ho hk hy (fun hn ρ F w u hr => by
        rw [hx] at hr
        rcases hr.dataInv with ⟨h0, _, _⟩ | ⟨b, off, cap, f, hv, _⟩
        · exact absurd h0 hn
        · exact ⟨_, _, _, hv, rfl⟩)
    · exact .bad
  · rename_i hx hy
    split
    · rename_i hk
      exact ok_eqNil ho hk hy (fun hn ρ F w u hr => by
        rw [hx] at hr
        rcases hr.slInv with ⟨h0, _⟩ | ⟨b, cap, hb, hv, _⟩
        · exact absurd h0 hn
        · exact ⟨_, _, _, hv, rfl⟩)
    · exact .bad
  · rename_i hx hy
    split
    · rename_i hk
      exact ok_eqNil ho hk hy (fun hn ρ F w u hr => by
        rw [hx] at hr
        exact ⟨_, _, _, hr.pv, rfl⟩)
    · exact .bad
  · rename_i hx hy
    split
    · rename_i hk
      exact ok_eqNil ho hk hy (fun hn ρ F w u hr => by
        rw [hx] at hr
        exact ⟨_, _, _, hr.pv, rfl⟩)
    · exact .bad
  · rename_i xs ys hx hy
    split
    · rename_i hk
      exact ok_aggEq ho hk hx hy
    · exact .bad
  · rename_i hx hy
    split
    · rename_i hk
      exact ok_eqPtr ho (fun ρ F w u v hu hv => by
        rw [hx] at hu; rw [hy] at hv
        exact ⟨_, _, hu.pv, hv.pv, fun d w' => by simp [Op.equalIn, run_underlying (ti_ptr hk)]⟩)
    · exact .bad
  · rename_i hx hy
    split
    · rename_i hk
      exact ok_eqPtr ho (fun ρ F w u v hu hv => by
        rw [hx] at hu; rw [hy] at hv
        obtain ⟨b, _, rfl⟩ := hu.ptrInv
        exact ⟨_, _, rfl, hv.pv, fun d w' => by simp [Op.equalIn, run_underlying (ti_ptr hk)]⟩)
    · exact .bad
  · rename_i i a j b hx hy
    split
    · rename_i hk hq hij hab
      have e1 := Nat.eq_of_beq_eq_true hij
      have e2 := Nat.eq_of_beq_eq_true hab
      subst e1 e2
      have hinf : ∃ jj, P.info? (tiOf P t).elem = some jj := by
        unfold eqT at hq
        rw [ti_ptr hk] at hq
        exact Option.isSome_iff_exists.1 hq
      obtain ⟨jj, hjj⟩ := hinf
      exact ok_eqPtr ho (fun ρ F w u v hu hv => by
        rw [hx] at hu; rw [hy] at hv
        obtain ⟨b1, h1, rfl⟩ := hu.ptrInv
        obtain ⟨b2, h2, rfl⟩ := hv.ptrInv
        rw [h1] at h2; cases h2
        exact ⟨_, _, rfl, rfl, fun d w' => by simp [Op.equalIn, run_underlying (ti_ptr hk), sizeOf, typeInfo, hjj, run_sameAddr_same]⟩)
    · exact .bad
  · exact .bad

theorem aop_un {o : Oper} {st : AS} {op : UnOp} {t : TypeId} {x : Operand} (ho : o.op = .unOp op t x) : AopOk P o st (unR st op (ev st x)) := by
  unfold unR
  split
  · rename_i hx; exact .pure (ok_un ho hx (fun w => by simp [Op.unary]) rfl)
  · rename_i hx; exact .pure (ok_un ho hx (fun w => by simp [Op.unary, Op.intArith]) rfl)
  · rename_i hx; exact .pure (ok_un ho hx (fun w => by simp [Op.unary, Op.intBits, bxor]) rfl)
  · exact .bad

theorem aop_conv {o : Oper} {st : AS} {s d : TypeId} {x : Operand} (ho : o.op = .convert s d x) : AopOk P o st (convR st (Nat.beq s d) (isK x) (tiOf P d).elem (tiOf P (tiOf P s).elem).size (tiOf P (tiOf P d).elem).size (tiOf P s).kind (tiOf P d).kind (tiOf P (tiOf P s).elem).kind (tiOf P (tiOf P d).elem).kind (ev st x)) := by
  unfold convR
  split
  · rename_i hx
    split
    · rename_i hd hs
      exact .pure (ok_convInt ho hx hd (fun e => by rw [e] at hs; cases hs))
    · exact .bad
  · rename_i hx
    split
    · rename_i hd hs he hc
      exact .pure (ok_toBytes ho hx hs hd he)
    · rename_i hd hs he hc
      exact .ok (ok_toBytesO ho hx hs hd he)
    · exact .bad
  · rename_i s' n cs hx
    split
    · rename_i hd hs he h1
      have := Nat.eq_of_beq_eq_true h1
      subst this
      exact .pureS fun hb => ok_toStrData ho hx hd hs he hb
    · exact .bad
  · rename_i id off n s' hx
    split
    · rename_i hd hs he h1 hk
      have := Nat.eq_of_beq_eq_true h1
      subst this
      exact .okS fun hh => ok_toStrSl ho hx hd hs he hk hh.1 hh.2.1 hh.2.2
    · rename_i hd hs he h1 hk
      have := Nat.eq_of_beq_eq_true h1
      subst this
      split
      · rename_i hsame
        have := Nat.eq_of_beq_eq_true hsame
        subst this
        exact .okS fun hh => ok_mark ho hx hs he hk hh.1 hh.2.1 hh.2.2
      · exact .bad
    · exact .bad
  · rename_i id off hx
    split
    · rename_i hs hd h0 hk
      have := Nat.eq_of_beq_eq_true h0
      subst this
      exact .okS fun hh => ok_toUnsafe ho hx hs hd hk hh.1 hh.2
    · rename_i hs hd h0 hk
      have := Nat.eq_of_beq_eq_true h0
      subst this
      exact .okS fun hh => ok_fromUnsafe ho hx hs hd hk hh.1 hh.2.1 hh.2.2
    · exact .bad
  · exact .bad

theorem aop_slice {o : Oper} {st : AS} {t : TypeId} {x : Operand} {lo hi mx : Option Operand} (ho : o.op = .slice t x lo hi mx) :
    AopOk P o st (sliceR st (tiOf P t).kind (tiOf P t).len (tiOf P (tiOf P t).elem).size (ev st x) (bndLo (lo.map (ev st))) (bndHi (topOf (tiOf P t).len (ev st x)) (hi.map (ev st))) (bndMx (hi.map (ev st)) (mx.map (ev st)))) := by
  unfold sliceR
  split
  · rename_i s l h hx hl hh hm
    split
    · rename_i hk
      refine .pureS fun ⟨h0, h1, h2⟩ => ?_
      have hmx : mx = none := by
        cases mx with
        | none => rfl
        | some y =>
          simp only [Option.map_some] at hm
          unfold bndMx at hm
          split at hm
          · rename_i e; cases e
          · split at hm <;> cases hm
          · cases hm
      subst hmx
      rw [hx] at hh
      exact ok_sliceStr ho hx hk (bnds_of hl hh hm trivial) h0 h1 h2
    · exact .bad
  · rename_i l h hx hl hh hm
    split
    · rename_i hk hpos
      refine .pureS fun ⟨h0, h1, h2⟩ => ?_
      have hmx : mx = none := by
        cases mx with
        | none => rfl
        | some y =>
          simp only [Option.map_some] at hm
          unfold bndMx at hm
          split at hm
          · rename_i e; cases e
          · split at hm <;> cases hm
          · cases hm
      subst hmx
      rw [hx] at hh
      exact ok_sliceNil ho hx hk (Nat.le_of_ble_eq_true hpos) (bnds_of hl hh hm trivial) h0 h1 h2
    · exact .bad
  · rename_i s n cs l h m hx hl hh hm
    split
    · rename_i hk hs h1
      refine .pureS fun ⟨h0, h1', h2, h3⟩ => ?_
      rw [hx] at hh
      have hs' := Nat.eq_of_beq_eq_true hs
      exact ok_sliceData ho hx hk hs'.symm (by rw [hs']; exact Nat.le_of_ble_eq_true h1) (bnds_of hl hh hm h3) h0 h1' h2
    · exact .bad
  · rename_i id off n s l h m hx hl hh hm
    split
    · rename_i hk hs h1
      refine .pureS fun ⟨h0, h1', h2, h3⟩ => ?_
      rw [hx] at hh
      have hs' := Nat.eq_of_beq_eq_true hs
      exact ok_sliceSl ho hx hk hs'.symm (by rw [hs']; exact Nat.le_of_ble_eq_true h1) (bnds_of hl hh hm h3) h0 h1' h2
    · exact .bad
  · rename_i id off l h m hx hl hh hm
    split
    · rename_i hk h1 hlen hb
      refine .okS fun ⟨h0, h1', h2, h3, h4⟩ => ?_
      rw [hx] at hh
      exact ok_slicePtr ho hx hk (Nat.le_of_ble_eq_true h1) (bnds_of hl hh hm h3) h0 h1' h2 hb h4 (Nat.le_of_ble_eq_true hlen)
    · exact .bad
  · exact .bad

theorem aop_fieldAddr {o : Oper} {st : AS} {t : TypeId} {x : Operand} {f : Nat} (ho : o.op = .fieldAddr t x f) : AopOk P o st (fieldR st (ev st x) (tiOf P t).flds[f]?) := by
  cases hf : (tiOf P t).flds[f]? with
  | none => exact .bad
  | some p =>
    obtain ⟨fo, s, k⟩ := p
    simp only [fieldR]
    split
    · rename_i h1 hx
      exact .pure (ok_fieldPtr ho hx hf (Nat.le_of_ble_eq_true h1))
    · rename_i h1 hx
      exact .pure (ok_fieldCp ho hx hf (Nat.le_of_ble_eq_true h1))
    · exact .bad

theorem aop_field {o : Oper} {st : AS} {t : TypeId} {x : Operand} {f : Nat} (ho : o.op = .field t x f) : AopOk P o st (fieldV st (ev st x) (tiOf P t).flds[f]?) := by
  unfold fieldV
  split
  · rename_i hx hf
    split
    · rename_i h1
      exact .pureS fun hl => ok_field ho hx hf (Nat.le_of_ble_eq_true h1) hl
    · exact .bad
  · exact .bad

theorem aop_indexAddr {o : Oper} {st : AS} {t : TypeId} {x y : Operand} (ho : o.op = .indexAddr t x y) : AopOk P o st (indexR st (tiOf P t) (tiOf P (tiOf P t).elem).size (ev st x) (ev st y)) := by
  unfold indexR
  split
  · rename_i hx hy
    split
    · rename_i hk hs h1
      have hs' := Nat.eq_of_beq_eq_true hs
      exact .pureS fun h => ok_indexData ho hx hy hk hs'.symm (by rw [hs']; exact Nat.le_of_ble_eq_true h1) h.1 h.2
    · exact .bad
  · rename_i hx hy
    split
    · rename_i hk hs h1
      have hs' := Nat.eq_of_beq_eq_true hs
      exact .pureS fun h => ok_indexSl ho hx hy hk hs'.symm (by rw [hs']; exact Nat.le_of_ble_eq_true h1) h.1 h.2
    · exact .bad
  · rename_i hx hy
    split
    · rename_i hk h1
      exact .pureS fun h => ok_indexPtr ho hx hy hk (Nat.le_of_ble_eq_true h1) h.1 h.2
    · exact .bad
  · rename_i hx hy
    split
    · rename_i hk h1
      exact .pureS fun h => ok_indexCp ho hx hy hk (Nat.le_of_ble_eq_true h1) h.1 h.2
    · exact .bad
  · exact .bad

theorem aop_index {o : Oper} {st : AS} {t : TypeId} {x y : Operand} (ho : o.op = .index t x y) : AopOk P o st (idxVR st (tiOf P t) (tiOf P (tiOf P t).elem).size (tiOf P (tiOf P t).elem).kind (ev st x) (ev st y)) := by
  unfold idxVR
  split
  · rename_i hx hy
    split
    · rename_i hk
      exact .pureS fun h => ok_indexStr ho hx hy hk h.1 h.2
    · exact .bad
  · rename_i hx hy
    split
    · rename_i hk hs
      exact .pureS fun h => ok_indexAgg ho hx hy hk (Nat.le_of_ble_eq_true hs) h.1 h.2.1 h.2.2
    · exact .bad
  · exact .bad

theorem arr_of {α : Type} {a : Array α} {l : List α} (h : a.toList = l) : a = l.toArray := by rw [← h]

theorem aop_callB {o : Oper} {st : AS} {b : Builtin} {args : Array Operand} {tys : Array TypeId} (ho : o.op = .call ⟨.builtin b, args, tys⟩) : AopOk P o st (callB P st b args.toList tys.toList) := by
  unfold callB
  split
  · rename_i x t ha ht
    have ho' : o.op = .call ⟨.builtin .len, #[x], #[t]⟩ := by
      rw [ho]; congr 2
      · exact arr_of ha
      · exact arr_of ht
    unfold lenR
    split
    · rename_i hx; split
      · rename_i hk; exact .pure (ok_len ho' (.inl ⟨hk, .inl ⟨_, _, hx⟩⟩))
      · exact .bad
    · rename_i hx; split
      · rename_i hk; exact .pure (ok_len ho' (.inl ⟨hk, .inr (.inl ⟨_, _, hx⟩)⟩))
      · exact .bad
    · rename_i hx; split
      · rename_i hk; exact .pure (ok_len ho' (.inl ⟨hk, .inr (.inr ⟨_, _, _, hx⟩)⟩))
      · exact .bad
    · rename_i hx; split
      · rename_i hk; exact .pure (ok_len ho' (.inr ⟨hk, _, rfl, hx⟩))
      · exact .bad
    · exact .bad
  · rename_i x y ha
    have ho' : o.op = .call ⟨.builtin .max, #[x, y], tys⟩ := by
      rw [ho]; congr 2
      exact arr_of ha
    unfold max2R
    split
    · rename_i hx hy; exact .pure (ok_max ho' hx hy)
    · exact .bad
  · rename_i x y ha
    have ho' : o.op = .call ⟨.builtin .min, #[x, y], tys⟩ := by
      rw [ho]; congr 2
      exact arr_of ha
    unfold min2R
    split
    · rename_i hx hy; exact .pure (ok_min ho' hx hy)
    · exact .bad
  · rename_i x y t t' ha ht
    split
    · rename_i he
      have := Nat.eq_of_beq_eq_true he
      subst this
      have ho' : o.op = .call ⟨.builtin .append, #[x, y], #[t, t]⟩ := by
        rw [ho]; congr 2
        · exact arr_of ha
        · exact arr_of ht
      by_cases hk : (tiOf P t).kind = .slice
      · exact aop_append ho' (ti_slice hk) (fun k h => by cases h)
      · rw [appendR_bad hk]; exact .bad
    · split
      · rename_i hk
        have ho' : o.op = .call ⟨.builtin .append, #[x, y], #[t, t']⟩ := by
          rw [ho]; congr 2
          · exact arr_of ha
          · exact arr_of ht
        refine ⟨fun v T u nx h => ?_, fun s v T u nx h hs => ok_appendZ ho' hk h hs⟩
        unfold appZR at h
        repeat' split at h
        all_goals cases h
      · rename_i hk
        have ho' : o.op = .call ⟨.builtin .append, #[x, y], #[t, t']⟩ := by
          rw [ho]; congr 2
          · exact arr_of ha
          · exact arr_of ht
        exact aop_append ho' (ti_str hk) (fun k h => by cases h)
      · exact .bad
  · rename_i x t ha ht
    have ho' : o.op = .call ⟨.builtin .cap, #[x], #[t]⟩ := by
      rw [ho]; congr 2
      · exact arr_of ha
      · exact arr_of ht
    unfold capR
    split
    · rename_i hx
      split
      · rename_i hk; exact .pure (ok_cap ho' hk hx)
      · exact .bad
    · exact .bad
  · rename_i x y t t' ha ht
    have ho' : o.op = .call ⟨.builtin .copy, #[x, y], #[t, t']⟩ := by
      rw [ho]; congr 2
      · exact arr_of ha
      · exact arr_of ht
    refine ⟨fun v T u nx h => ?_, fun s v T u nx h hs => ok_copy ho' h hs⟩
    unfold copyR at h
    repeat' split at h
    all_goals cases h
  · rename_i x y t t' ha ht
    have ho' : o.op = .call ⟨.builtin .delete, #[x, y], #[t, t']⟩ := by
      rw [ho]; congr 2
      · exact arr_of ha
      · exact arr_of ht
    unfold delMR
    split
    · rename_i hm hx
      split
      · rename_i hmk hsame hk
        refine .okS fun h1 => ok_mapDelete ho' hm hx hmk ?_ hk h1
        have e := Nat.eq_of_beq_eq_true hsame
        obtain ⟨kt, et, hut, _⟩ := mapK_is hmk
        unfold mapKy at e
        unfold mapE
        rw [hut] at e ⊢
        simp only at e
        rw [e]
      · exact .bad
    · exact .bad
  · rename_i x t ha ht
    have ho' : o.op = .call ⟨.builtin .unsafeSliceData, #[x], #[t]⟩ := by
      rw [ho]; congr 2
      · exact arr_of ha
      · exact arr_of ht
    unfold dataR
    split
    · rename_i hx; exact .pureS fun h => ok_uSliceData ho' hx h
    · exact .bad
  · rename_i x y pt it ha ht
    have ho' : o.op = .call ⟨.builtin .unsafeString, #[x, y], #[pt, it]⟩ := by
      rw [ho]; congr 2
      · exact arr_of ha
      · exact arr_of ht
    split
    · rename_i hpt
      unfold ustrR
      split
      · rename_i hx hy
        split
        · rename_i h0 hes hek hk
          have := Nat.eq_of_beq_eq_true h0
          subst this
          exact .okS fun h => ok_ustr ho' hpt hx hy (Nat.eq_of_beq_eq_true hes) hk h.1 h.2.1 h.2.2.1 h.2.2.2.1 h.2.2.2.2.1 h.2.2.2.2.2
        · exact .bad
      · exact .bad
    · exact .bad
  · exact .bad

theorem aop_ok (o : Oper) (st : AS) : AopOk P o st (aop P o.op st) := by
  cases ho : o.op with
  | move x => exact .pure (ok_move (.inl ho))
  | assign x => exact .pure (ok_move (.inr ho))
  | pick c a b =>
    simp only [aop]
    unfold pickR
    split
    · rename_i hc; exact .pure (ok_pick ho hc)
    · exact .bad
  | alloc t =>
    simp only [aop]
    cases hz : (tiOf P t).zero with
    | none => exact .bad
    | some z =>
      simp only [allocR]
      split
      · rename_i h1; exact .ok (ok_alloc ho hz h1)
      · exact .bad
  | box t x =>
    simp only [aop, boxR]
    split
    · rename_i h1; exact .ok (ok_box ho h1)
    · exact .bad
  | build t parts => exact aop_build ho
  | buildSlice t len parts => exact aop_sliceLit ho
  | load t x => exact aop_load ho
  | store t x y => exact aop_store ho
  | nilCheck x =>
    simp only [aop]
    unfold nilR
    split
    · rename_i hx; exact .pure (hx ▸ ok_nilCheck ho (.inl ⟨_, _, hx⟩))
    · rename_i hx; exact .pure (hx ▸ ok_nilCheck ho (.inr (.inl ⟨_, hx⟩)))
    · rename_i hx; exact .pure (hx ▸ ok_nilCheck ho (.inr (.inr (.inl ⟨_, _, _, hx⟩))))
    · rename_i hx; exact .pure (hx ▸ ok_nilCheck ho (.inr (.inr (.inr ⟨_, _, _, hx⟩))))
    · exact .bad
  | binOp op t x y t' => exact aop_bin ho
  | unOp op t x => exact aop_un ho
  | convert s d x => exact aop_conv ho
  | makeInterface t x =>
    simp only [aop, ifaceR]
    split
    · rename_i h1 h2
      exact .pure (ok_iface ho (fun e => by rw [e] at h1; cases h1) (fun e => by rw [e] at h2; cases h2))
    · exact .bad
  | makeFunc f xs ys => exact .pure (ok_makeFunc ho)
  | makeSlice t x y => exact aop_make ho
  | slice t x lo hi mx => exact aop_slice ho
  | fieldAddr t x f => exact aop_fieldAddr ho
  | field t x f => exact aop_field ho
  | indexAddr t x y => exact aop_indexAddr ho
  | index t x y => exact aop_index ho
  | extract x i =>
    simp only [aop]
    unfold extractR
    split
    · rename_i hx
      split
      · rename_i hv; exact .pure (ok_extract ho hx hv)
      · exact .bad
    · exact .bad
  | call c =>
    obtain ⟨callee, args, tys⟩ := c
    simp only [aop]
    cases callee with
    | builtin b => exact aop_callB ho
    | value f =>
      simp only [callR]
      unfold callV
      split
      · split
        · exact .call
        · exact .bad
      · exact .call
      · exact .bad
    | invoke r m =>
      simp only [callR]
      unfold invokeR
      split
      · unfold invK
        split
        · exact .call
        · exact .bad
      · unfold invK
        split
        · exact .call
        · exact .bad
      · exact .bad
  | makeMap t r =>
    cases r with
    | none => exact .ok (ok_makeMap ho)
    | some r => exact .bad
  | mapUpdate t m x y =>
    simp only [aop]
    unfold updMR
    split
    · rename_i hm hx hy
      split
      · rename_i ht hk
        exact .okS fun ⟨h1, h2, h3, h4⟩ => ok_mapUpdate ho hm hx hy ht hk h1 h2 h3 h4
      · exact .bad
    · exact .bad
  | lookup t m x c =>
    cases c with
    | true => exact .bad
    | false =>
      simp only [aop]
      unfold lookMR
      split
      · rename_i hm hx
        split
        · rename_i ht hk
          exact .okS fun h1 => ok_mapLookup ho hm hx ht hk h1
        · exact .bad
      · exact .bad
  | _ => exact .bad

end Go.Abs

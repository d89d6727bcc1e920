/-
  The executor's operations are sound: addresses, slices, fields, conversions. Own work; no statement of the seat is proved here.
-/
import Derived.Test.YtpelcbonflijhaaAbsD
namespace Go.Abs
set_option linter.unusedSimpArgs false
set_option linter.unusedVariables false
open Go Go.RowKit
variable {P : Program}

theorem Rd.cpInv {ρ : IdMap} {F : FSet} {w : World} {cs : List PV} {u : Value} (h : Rd ρ F w (.cp cs) u) :
    ∃ (b off : Nat) (f : Nat → Value), u = .pointer (some ⟨b, off, none⟩) ∧ F b ∧ (∀ j, j < cs.length → w.cell? ⟨b, off + j, none⟩ = some (f j)) ∧ (∀ j, j < cs.length → (f j).oneCell' = true) ∧ (∀ j c, cs[j]? = some c → RdP F w c (f j)) := by
  cases h with
  | cp _ b off f hF hc h1 hr => exact ⟨b, off, f, rfl, hF, hc, h1, hr⟩

theorem Rd.cpDrop {ρ : IdMap} {F : FSet} {w : World} {cs : List PV} {b off : Nat} {f : Nat → Value} (hF : F b) (hc : ∀ j, j < cs.length → w.cell? ⟨b, off + j, none⟩ = some (f j))
    (h1 : ∀ j, j < cs.length → (f j).oneCell' = true) (hr : ∀ j c, cs[j]? = some c → RdP F w c (f j)) (k : Nat) : Rd ρ F w (.cp (cs.drop k)) (.pointer (some ⟨b, off + k, none⟩)) :=
  .cp _ b (off + k) (fun j => f (k + j)) hF (fun j hj => by rw [Nat.add_assoc]; exact hc _ (by simp at hj; omega)) (fun j hj => h1 _ (by simp at hj; omega)) (fun j c hj => hr _ _ (by simpa using hj))

theorem fld_inv {t : TypeId} {f o s : Nat} {k : TK} (h : (tiOf P t).flds[f]? = some (o, s, k)) (hs : 1 ≤ s) :
    ∃ (fs : Array Field) (fd : Field), P.underlying t = some (.struct fs) ∧ fs[f]? = some fd ∧ fd.offset = o ∧ szOf P fd.type = s ∧ tkOf (P.underlying fd.type) = k := by
  simp only [tiOf, fldsOfD] at h
  split at h
  · rename_i fs hfs
    simp only [List.getElem?_map, Option.map_eq_some_iff, Array.getElem?_toList] at h
    obtain ⟨fd, hfd, he⟩ := h
    simp only [Prod.mk.injEq] at he
    exact ⟨fs, fd, hfs, hfd, he.1, he.2.1, he.2.2⟩
  · simp at h

theorem run_fieldAt {t : TypeId} {f o s : Nat} {k : TK} (h : (tiOf P t).flds[f]? = some (o, s, k)) (hs : 1 ≤ s) (b off : Nat) (w : World) :
    (Instr.fieldAt t (.pointer (some ⟨b, off, none⟩)) f).run P w = .ok (.pointer (some ⟨b, off + o, none⟩)) w := by
  obtain ⟨fs, fd, hu, hf, ho, hz, _⟩ := fld_inv h hs
  obtain ⟨d, i, hd, hi, hz'⟩ := szOf_pos (P := P) (t := fd.type) (by omega)
  have hne : i.size ≠ 0 := by omega
  simp [Instr.fieldAt, run_underlying hu, hf, Instr.sureAddr, fieldPlace, sizeOf, typeInfo, hi, hne, addr_add, ho]

theorem ok_fieldPtr {o : Oper} {st : AS} {t : TypeId} {x : Operand} {f : Nat} (ho : o.op = .fieldAddr t x f) {id off : Nat} (hx : ev st x = .ptr id off) {fo s : Nat} {k : TK}
    (h : (tiOf P t).flds[f]? = some (fo, s, k)) (hs : 1 ≤ s) : OpOk P o st (.ptr id (off + fo)) [] [] st.nx :=
  ok_pure fun ρ F a w hin => by
    have h1 := hin x (by simp [ho, Op.operands])
    rw [hx] at h1
    obtain ⟨b, hb, hv⟩ := h1.ptrInv
    exact ⟨_, by simp only [execOp, ho, hv, Sem.run_bind, run_fieldAt h hs, Result.andThen_ok, Sem.run_pure], .ptr _ _ _ hb⟩

theorem ok_fieldCp {o : Oper} {st : AS} {t : TypeId} {x : Operand} {f : Nat} (ho : o.op = .fieldAddr t x f) {cs : List PV} (hx : ev st x = .cp cs) {fo s : Nat} {k : TK}
    (h : (tiOf P t).flds[f]? = some (fo, s, k)) (hs : 1 ≤ s) : OpOk P o st (.cp (cs.drop fo)) [] [] st.nx :=
  ok_pure fun ρ F a w hin => by
    have h1 := hin x (by simp [ho, Op.operands])
    rw [hx] at h1
    obtain ⟨b, off, g, hv, hF, hc, ho1, hr⟩ := h1.cpInv
    exact ⟨_, by simp only [execOp, ho, hv, Sem.run_bind, run_fieldAt h hs, Result.andThen_ok, Sem.run_pure], .cpDrop hF hc ho1 hr fo⟩

theorem run_part {t : TypeId} {us : Array Value} {off : Nat} (hs : 1 ≤ szOf P t) (hl : off + szOf P t ≤ us.size) (w : World) :
    (part t us off).run P w = .ok (if (tkOf (P.underlying t)).agg = true then .agg ((List.range (szOf P t)).map fun j => us.getD (off + j) undef).toArray else us.getD (off + 0) undef) w := by
  obtain ⟨d, i, hd, hi, hz⟩ := szOf_pos hs
  unfold part
  rw [Sem.run_bind, run_isAgg hd, hd]
  cases ha : (tkOf (some d)).agg with
  | true =>
    simp only [Result.andThen_ok, sizeOf, typeInfo, Sem.run_bind, run_program, hi, Sem.run_pure, if_true, hz]
    congr 2
    apply Array.ext_getElem?
    intro j
    simp only [Array.getElem?_extract, List.getElem?_toArray, List.getElem?_map, List.getElem?_range', getD_of]
    by_cases hj : j < szOf P t
    · have h2 : off + j < us.size := by omega
      simp [hj, h2]; omega
    · simp [hj]; omega
  | false =>
    have h2 : off < us.size := by omega
    simp [getD_of, h2]

theorem ok_field {o : Oper} {st : AS} {t : TypeId} {x : Operand} {f : Nat} (ho : o.op = .field t x f) {cs : List AV} (hx : ev st x = .agg cs) {fo s : Nat} {k : TK}
    (h : (tiOf P t).flds[f]? = some (fo, s, k)) (hs : 1 ≤ s) (hl : fo + s ≤ cs.length) : OpOk P o st (takeAs k s (cs.drop fo)) [] [] st.nx :=
  ok_pure fun ρ F a w hin => by
    have h1 := hin x (by simp [ho, Op.operands])
    rw [hx] at h1
    obtain ⟨us, hv, hz, hr⟩ := h1.aggInv
    obtain ⟨fs, fd, hu, hf, rfl, rfl, rfl⟩ := fld_inv h hs
    have hp := run_part (P := P) (t := fd.type) (us := us) (off := fd.offset) hs (by omega) w
    refine ⟨_, ?_, takeAs_rd hs hl (f := fun j => us.getD j undef) hr⟩
    simp only [execOp, ho, hv, Instr.field, asAgg, Sem.run_bind, run_underlying hu, Result.andThen_ok, hf, Sem.run_pure, hp]

theorem ok_extract {o : Oper} {st : AS} {x : Operand} {i : Nat} (ho : o.op = .extract x i) {vs : List AV} (hx : ev st x = .tup vs) {v : AV} (hv : vs[i]? = some v) : OpOk P o st v [] [] st.nx :=
  ok_pure fun ρ F a w hin => by
    have h1 := hin x (by simp [ho, Op.operands])
    rw [hx] at h1
    obtain ⟨us, hu, hz, hr⟩ := h1.tupInv
    have hi : i < us.size := by rw [hz]; exact (List.getElem?_eq_some_iff.1 hv).1
    refine ⟨us.getD i undef, ?_, hr i v hv⟩
    simp [execOp, ho, hu, Instr.extract, hi, getD_of]

theorem ok_loadCp {o : Oper} {st : AS} {t : TypeId} {x : Operand} (ho : o.op = .load t x) {cs : List PV} (hx : ev st x = .cp cs) (hs : 1 ≤ szOf P t) (hl : szOf P t ≤ cs.length) (d : PV) :
    OpOk P o st (if (tkOf (P.underlying t)).agg = true then .agg ((cs.take (szOf P t)).map .p) else .p (headP d cs)) [] [] st.nx :=
  ok_pure fun ρ F a w hin => by
    have h1 := hin x (by simp [ho, Op.operands])
    rw [hx] at h1
    obtain ⟨b, off, g, hv, hF, hc, ho1, hr⟩ := h1.cpInv
    have hrun := run_loadVar_cells (P := P) (t := t) (w := w) (b := b) (o := off) g hs (fun j hj => hc j (by omega))
    refine ⟨_, by simp only [execOp, ho, hv, Instr.loadAt, Instr.sureAddr, Sem.run_bind, Sem.run_pure, Result.andThen_ok, hrun]; rfl, ?_⟩
    cases ha : (tkOf (P.underlying t)).agg with
    | true =>
      simp only [if_true]
      refine .agg _ _ (by simp; omega) (fun j c hj => ?_)
      simp only [List.getElem?_map, Option.map_eq_some_iff, List.getElem?_take] at hj
      obtain ⟨y, hy, rfl⟩ := hj
      split at hy
      · rename_i hlt
        simp [getD_of, hlt]
        exact .p _ _ (hr j y hy)
      · cases hy
    | false =>
      simp only [Bool.false_eq_true, if_false]
      cases cs with
      | nil => simp at hl; omega
      | cons c r => exact .p _ _ (hr 0 c rfl)

/-! slices -/
theorem Rd.dataInv {ρ : IdMap} {F : FSet} {w : World} {s n : Nat} {cs : List PV} {u : Value} (h : Rd ρ F w (.p (.data s n cs)) u) :
    (n = 0 ∧ cs = [] ∧ ∃ A cap, u = .slice A 0 cap) ∨
    ∃ (b off cap : Nat) (f : Nat → Value), u = .slice (some ⟨b, off, none⟩) n cap ∧ cs.length = n * s ∧ n ≤ cap ∧ F b ∧ (∀ j, j < cs.length → w.cell? ⟨b, off + j, none⟩ = some (f j)) ∧ (∀ j, j < cs.length → (f j).oneCell' = true) ∧ (∀ j c, cs[j]? = some c → RdP F w c (f j)) := by
  cases h with
  | p _ _ h =>
    cases h with
    | nil _ A cap => exact .inl ⟨rfl, rfl, A, cap, rfl⟩
    | data _ _ _ b off cap f hl hcap hF hc h1 hr => exact .inr ⟨b, off, cap, f, rfl, hl, hcap, hF, hc, h1, hr⟩

theorem Rd.slInv {ρ : IdMap} {F : FSet} {w : World} {id off n s : Nat} {u : Value} (h : Rd ρ F w (.sl id off n s) u) :
    (n = 0 ∧ ∃ A, u = .slice A 0 0) ∨ ∃ b cap, ρ id = some b ∧ u = .slice (some ⟨b, off, none⟩) n cap ∧ n ≤ cap ∧ hasCells w b (off + cap * s) := by
  cases h with
  | sl _ _ _ _ b cap h hcap hs => exact .inr ⟨b, cap, h, rfl, hcap, hs⟩
  | slz _ _ _ A => exact .inl ⟨rfl, A, rfl⟩


theorem run_sliceBound {k : IntKind} {n : Int} {y : Nat} {c : BoundsCode} (h0 : 0 ≤ n) (h1 : n ≤ y) (w : World) : (Instr.sliceBound (.int k n) y c).run P w = .ok n.toNat w := by
  simp [Instr.sliceBound, asIntOf, h0, h1]

theorem run_sliceBounds {isS : Bool} {len cap : Nat} {lo hi mx : Option Value} {l h m : Int} (hlo : (lo = none ∧ l = 0) ∨ ∃ k, lo = some (.int k l)) (hhi : (hi = none ∧ h = len ∧ mx = none) ∨ ∃ k, hi = some (.int k h))
    (hmx : (mx = none ∧ m = cap) ∨ ∃ k, mx = some (.int k m)) (h0 : 0 ≤ l) (h1 : l ≤ h) (h2 : h ≤ m) (h3 : m ≤ cap) (w : World) :
    (Instr.sliceBounds isS len cap lo hi mx).run P w = .ok (l.toNat, h.toNat, m.toNat) w := by
  have hm0 : (m.toNat : Int) = m := Int.toNat_of_nonneg (by omega)
  have hh0 : (h.toNat : Int) = h := Int.toNat_of_nonneg (by omega)
  have b1 : ∀ k c, (Instr.sliceBound (.int k m) cap c).run P w = .ok m.toNat w := fun k c => run_sliceBound (by omega) h3 w
  have b2 : ∀ k c, (Instr.sliceBound (.int k h) m.toNat c).run P w = .ok h.toNat w := fun k c => run_sliceBound (by omega) (by omega) w
  have b3 : ∀ k c, (Instr.sliceBound (.int k l) h.toNat c).run P w = .ok l.toNat w := fun k c => run_sliceBound (by omega) (by omega) w
  rcases hmx with ⟨rfl, rfl⟩ | ⟨km, rfl⟩
  · simp only [Int.toNat_natCast] at b2 ⊢
    rcases hhi with ⟨rfl, rfl, _⟩ | ⟨kh, rfl⟩
    · simp only [Int.toNat_natCast] at b3 ⊢
      rcases hlo with ⟨rfl, rfl⟩ | ⟨kl, rfl⟩
      · simp [Instr.sliceBounds]
      · simp [Instr.sliceBounds, b3]
    · rcases hlo with ⟨rfl, rfl⟩ | ⟨kl, rfl⟩
      · simp [Instr.sliceBounds, b2]
      · simp [Instr.sliceBounds, b2, b3]
  · rcases hhi with ⟨rfl, rfl, hx⟩ | ⟨kh, rfl⟩
    · cases hx
    · rcases hlo with ⟨rfl, rfl⟩ | ⟨kl, rfl⟩
      · simp [Instr.sliceBounds, b1, b2]
      · simp [Instr.sliceBounds, b1, b2, b3]

/-- the three bounds of a slice expression, evaluated -/
structure Bnds (st : AS) (lo hi mx : Option Operand) (top l h : Int) : Prop where
  lo : (lo = none ∧ l = 0) ∨ ∃ x k, lo = some x ∧ ev st x = .p (.v (.int k l))
  hi : (hi = none ∧ h = top ∧ mx = none) ∨ ∃ x k, hi = some x ∧ ev st x = .p (.v (.int k h))
  mx : mx = none ∨ ∃ x k, mx = some x ∧ ev st x = .p (.v (.int k h))

theorem run_bnds {st : AS} {lo hi mx : Option Operand} {l h : Int} {len cap : Nat} (hb : Bnds st lo hi mx len l h) {ρ : IdMap} {F : FSet} {w : World} {a : Act}
    (hin : ∀ x, (lo = some x ∨ hi = some x ∨ mx = some x) → Rd ρ F w (ev st x) (a.eval x)) (h0 : 0 ≤ l) (h1 : l ≤ h) (h2 : h ≤ len) (h3 : len ≤ cap) (isS : Bool) :
    ∃ m : Nat, h.toNat ≤ m ∧ m ≤ cap ∧ (Instr.sliceBounds isS len cap (lo.map a.eval) (hi.map a.eval) (mx.map a.eval)).run P w = .ok (l.toNat, h.toNat, m) w := by
  have elo : ((lo.map a.eval = none) ∧ l = 0) ∨ ∃ k, lo.map a.eval = some (.int k l) := by
    rcases hb.lo with ⟨rfl, rfl⟩ | ⟨x, k, rfl, hx⟩
    · exact .inl ⟨rfl, rfl⟩
    · have := hin x (.inl rfl); rw [hx] at this; exact .inr ⟨k, by simp [this.pv]⟩
  have emx : (mx.map a.eval = none ∧ mx = none) ∨ ∃ k, mx.map a.eval = some (.int k h) := by
    rcases hb.mx with rfl | ⟨x, k, rfl, hx⟩
    · exact .inl ⟨rfl, rfl⟩
    · have := hin x (.inr (.inr rfl)); rw [hx] at this; exact .inr ⟨k, by simp [this.pv]⟩
  have ehi : ((hi.map a.eval = none) ∧ h = len ∧ mx.map a.eval = none) ∨ ∃ k, hi.map a.eval = some (.int k h) := by
    rcases hb.hi with ⟨rfl, rfl, rfl⟩ | ⟨x, k, rfl, hx⟩
    · exact .inl ⟨rfl, rfl, rfl⟩
    · have := hin x (.inr (.inl rfl)); rw [hx] at this; exact .inr ⟨k, by simp [this.pv]⟩
  rcases emx with ⟨e, _⟩ | ⟨k, e⟩
  · exact ⟨cap, by omega, Nat.le_refl _, by have := run_sliceBounds (P := P) (isS := isS) elo ehi (m := cap) (.inl ⟨e, rfl⟩) h0 h1 (by omega) (by omega) w; simpa using this⟩
  · exact ⟨h.toNat, Nat.le_refl _, by omega, run_sliceBounds elo ehi (m := h) (.inr ⟨k, e⟩) h0 h1 (by omega) (by omega) w⟩

theorem slice_ops {o : Oper} {t : TypeId} {x : Operand} {lo hi mx : Option Operand} (ho : o.op = .slice t x lo hi mx) : x ∈ o.op.operands.toList ∧ ∀ y, (lo = some y ∨ hi = some y ∨ mx = some y) → y ∈ o.op.operands.toList := by
  rw [ho]
  refine ⟨by simp [Op.operands], fun y hy => ?_⟩
  rcases hy with rfl | rfl | rfl <;> simp [Op.operands]

theorem ti_slice {t : TypeId} (h : (tiOf P t).kind = .slice) : P.underlying t = some (.slice (tiOf P t).elem) := by
  simp only [tiOf] at h ⊢
  revert h
  cases hu : P.underlying t with
  | none => intro h; cases h
  | some d => cases d <;> intro h <;> first | rfl | cases h
theorem ti_array {t : TypeId} (h : (tiOf P t).kind = .array) : P.underlying t = some (.array (tiOf P t).len (tiOf P t).elem) := by
  simp only [tiOf] at h ⊢
  revert h
  cases hu : P.underlying t with
  | none => intro h; cases h
  | some d => cases d <;> intro h <;> first | rfl | cases h
theorem ti_str {t : TypeId} (h : (tiOf P t).kind = .str) : P.underlying t = some .string := by
  simp only [tiOf] at h
  revert h
  cases hu : P.underlying t with
  | none => intro h; cases h
  | some d => cases d <;> intro h <;> first | rfl | cases h
theorem ti_bool {t : TypeId} (h : (tiOf P t).kind = .bool) : P.underlying t = some .bool := by
  simp only [tiOf] at h
  revert h
  cases hu : P.underlying t with
  | none => intro h; cases h
  | some d => cases d <;> intro h <;> first | rfl | cases h
theorem ti_int {t : TypeId} {k : IntKind} (h : (tiOf P t).kind = .int k) : P.underlying t = some (.int k) := by
  simp only [tiOf] at h
  revert h
  cases hu : P.underlying t with
  | none => intro h; cases h
  | some d => cases d <;> intro h <;> first | (cases h; rfl) | cases h

theorem ok_sliceData {o : Oper} {st : AS} {t : TypeId} {x : Operand} {lo hi mx : Option Operand} (ho : o.op = .slice t x lo hi mx) {s n : Nat} {cs : List PV} (hx : ev st x = .p (.data s n cs)) (hk : (tiOf P t).kind = .slice)
    (hs : szOf P (tiOf P t).elem = s) (hs1 : 1 ≤ s) {l h : Int} (hb : Bnds st lo hi mx n l h) (h0 : 0 ≤ l) (h1 : l ≤ h) (h2 : h ≤ n) :
    OpOk P o st (.p (.data s (h.toNat - l.toNat) ((cs.drop (l.toNat * s)).take ((h.toNat - l.toNat) * s)))) [] [] st.nx :=
  ok_pure fun ρ F a w hin => by
    obtain ⟨hx1, hin'⟩ := slice_ops ho
    have hr := hin x hx1
    rw [hx] at hr
    have hu := ti_slice hk
    obtain ⟨d, i, hd, hi', hz⟩ := szOf_pos (P := P) (t := (tiOf P t).elem) (by omega)
    have hex : ∀ A cap, n ≤ cap → a.eval x = .slice A n cap → ∃ m, h.toNat ≤ m ∧ m ≤ cap ∧ (execOp a.eval o).run P w = .ok (.value (.slice (if m = l.toNat then A else A.map (·.add (l.toNat * s))) (h.toNat - l.toNat) (m - l.toNat))) w := by
      intro A cap hcap hv
      obtain ⟨m, hm1, hm2, hrun⟩ := run_bnds (P := P) hb (fun y hy => hin y (hin' y hy)) h0 h1 h2 hcap true
      refine ⟨m, hm1, hm2, ?_⟩
      simp only [execOp, ho, hv, Instr.sliceAt, run_underlying hu, Sem.run_bind, Result.andThen_ok, Instr.slice, hrun, sizeOf, typeInfo, run_program, hi', Sem.run_pure, hz, hs]
    have htop : n = h.toNat - l.toNat + (n - (h.toNat - l.toNat)) := by omega
    rcases hr.dataInv with ⟨rfl, rfl, A, cap, hv⟩ | ⟨b, off, cap, f, hv, hl, hcap, hF, hc, h1c, hrc⟩
    · obtain ⟨m, hm1, hm2, hrun⟩ := hex A cap (Nat.zero_le _) hv
      refine ⟨_, hrun, ?_⟩
      have e1 : h.toNat - l.toNat = 0 := by omega
      simp only [e1, List.drop_nil, List.take_nil]
      exact .p _ _ (.nil _ _ _)
    · obtain ⟨m, hm1, hm2, hrun⟩ := hex _ cap hcap hv
      refine ⟨_, hrun, ?_⟩
      by_cases he : h.toNat - l.toNat = 0
      · rw [he]
        simp only [Nat.zero_mul, List.take_zero]
        exact .p _ _ (.nil _ _ _)
      · rw [if_neg (by omega)]
        simp only [Option.map_some, addr_add]
        have hlen : ((cs.drop (l.toNat * s)).take ((h.toNat - l.toNat) * s)).length = (h.toNat - l.toNat) * s := by
          rw [List.length_take, List.length_drop, hl, ← Nat.sub_mul]
          exact Nat.min_eq_left (Nat.mul_le_mul_right _ (by omega))
        have hle : l.toNat * s + (h.toNat - l.toNat) * s ≤ cs.length := by rw [hl, ← Nat.add_mul]; exact Nat.mul_le_mul_right _ (by omega)
        refine .p _ _ (.data s _ _ b _ _ (fun j => f (l.toNat * s + j)) hlen (by omega) hF (fun j hj => ?_) (fun j hj => ?_) (fun j c hj => ?_))
        · rw [hlen] at hj; rw [Nat.add_assoc]; exact hc _ (by omega)
        · rw [hlen] at hj; exact h1c _ (by omega)
        · rw [List.getElem?_take] at hj
          split at hj
          · exact hrc _ _ (by simpa using hj)
          · cases hj

theorem ok_sliceSl {o : Oper} {st : AS} {t : TypeId} {x : Operand} {lo hi mx : Option Operand} (ho : o.op = .slice t x lo hi mx) {id off n s : Nat} (hx : ev st x = .sl id off n s) (hk : (tiOf P t).kind = .slice)
    (hs : szOf P (tiOf P t).elem = s) (hs1 : 1 ≤ s) {l h : Int} (hb : Bnds st lo hi mx n l h) (h0 : 0 ≤ l) (h1 : l ≤ h) (h2 : h ≤ n) :
    OpOk P o st (.sl id (off + l.toNat * s) (h.toNat - l.toNat) s) [] [] st.nx :=
  ok_pure fun ρ F a w hin => by
    obtain ⟨hx1, hin'⟩ := slice_ops ho
    have hr := hin x hx1
    rw [hx] at hr
    have hu := ti_slice hk
    obtain ⟨d, i, hd, hi', hz⟩ := szOf_pos (P := P) (t := (tiOf P t).elem) (by omega)
    have hex : ∀ A cap, n ≤ cap → a.eval x = .slice A n cap → ∃ m, h.toNat ≤ m ∧ m ≤ cap ∧ (execOp a.eval o).run P w = .ok (.value (.slice (if m = l.toNat then A else A.map (·.add (l.toNat * s))) (h.toNat - l.toNat) (m - l.toNat))) w := by
      intro A cap hcap hv
      obtain ⟨m, hm1, hm2, hrun⟩ := run_bnds (P := P) hb (fun y hy => hin y (hin' y hy)) h0 h1 h2 hcap true
      refine ⟨m, hm1, hm2, ?_⟩
      simp only [execOp, ho, hv, Instr.sliceAt, run_underlying hu, Sem.run_bind, Result.andThen_ok, Instr.slice, hrun, sizeOf, typeInfo, run_program, hi', Sem.run_pure, hz, hs]
    rcases hr.slInv with ⟨rfl, A, hv⟩ | ⟨b, cap, hb', hv, hcap, hc⟩
    · obtain ⟨m, hm1, hm2, hrun⟩ := hex A 0 (Nat.le_refl _) hv
      refine ⟨_, hrun, ?_⟩
      rw [show h.toNat - l.toNat = 0 by omega, show m - l.toNat = 0 by omega]
      exact .slz _ _ _ _
    · obtain ⟨m, hm1, hm2, hrun⟩ := hex _ cap hcap hv
      refine ⟨_, hrun, ?_⟩
      by_cases hml : m = l.toNat
      · rw [if_pos hml, show h.toNat - l.toNat = 0 by omega, show m - l.toNat = 0 by omega]
        exact .slz _ _ _ _
      · rw [if_neg hml]
        simp only [Option.map_some, addr_add]
        refine .sl _ _ _ _ b _ hb' (by omega) ?_
        obtain ⟨arr, t', fr, ha, hn⟩ := hc
        refine ⟨arr, t', fr, ha, Nat.le_trans ?_ hn⟩
        have : l.toNat * s + (m - l.toNat) * s ≤ cap * s := by rw [← Nat.add_mul]; exact Nat.mul_le_mul_right _ (by omega)
        omega

theorem ok_slicePtr {o : Oper} {st : AS} {t : TypeId} {x : Operand} {lo hi mx : Option Operand} (ho : o.op = .slice t x lo hi mx) {id off : Nat} (hx : ev st x = .ptr id off) (hk : (tiOf P t).kind = .array)
    (hs1 : 1 ≤ szOf P (tiOf P t).elem) {l h : Int} (hb : Bnds st lo hi mx (tiOf P t).len l h) (h0 : 0 ≤ l) (h1 : l ≤ h) (h2 : h ≤ (tiOf P t).len)
    {k : Blk} (hk' : hget st.hp id = some k) (hfit : off + (tiOf P t).len * szOf P (tiOf P t).elem ≤ k.cs.length) (hpos : 1 ≤ (tiOf P t).len) :
    OpOk P o st (.sl id (off + l.toNat * szOf P (tiOf P t).elem) (h.toNat - l.toNat) (szOf P (tiOf P t).elem)) [id] [] st.nx where
  tri ρ F a w hpre hin K Q hK := by
    obtain ⟨hx1, hin'⟩ := slice_ops ho
    have hr := hin x hx1
    rw [hx] at hr
    obtain ⟨b, hb', hv⟩ := hr.ptrInv
    have hu := ti_array hk
    obtain ⟨d, i, hd, hi', hz⟩ := szOf_pos (P := P) (t := (tiOf P t).elem) hs1
    obtain ⟨m, hm1, hm2, hrun⟩ := run_bnds (P := P) (cap := (tiOf P t).len) hb (fun y hy => hin y (hin' y hy)) h0 h1 h2 (Nat.le_refl _) false
    have hrs : restr [id] (hget st.hp) id = some k := by simp [restr, hk']
    rcases hpre.hp.ok id k hrs with ⟨_, h0'⟩ | ⟨b', hb'', hblk⟩
    · rw [h0'] at hb'; cases hb'
    rw [hb'] at hb''; cases hb''
    obtain ⟨arr, ha, hlen, hc⟩ := hblk.is
    unfold Oper.wp
    have hex : (execOp a.eval o).run P w = .ok (.value (.slice (some (if m = l.toNat then ⟨b, off, none⟩ else ⟨b, off + l.toNat * szOf P (tiOf P t).elem, none⟩)) (h.toNat - l.toNat) (m - l.toNat))) w := by
      simp only [execOp, ho, hv, Instr.sliceAt, run_underlying hu, Sem.run_bind, Result.andThen_ok, Instr.sureAddr, hrun, sizeOf, typeInfo, run_program, hi', Sem.run_pure, hz, addr_add]
    rw [hex]
    refine hK _ ρ F w ⟨fun _ _ h => h, fun i h1 h2 => absurd h1 h2, fun i b h1 h2 => (by rw [h1] at h2; cases h2), ?_, ?_, hpre.fok, Chg.refl _ _ _⟩
    · by_cases hml : m = l.toNat
      · rw [if_pos hml, show h.toNat - l.toNat = 0 by omega, show m - l.toNat = 0 by omega]
        exact .slz _ _ _ _
      · rw [if_neg hml]
        refine .sl _ _ _ _ b _ hb' (by omega) ⟨arr, _, _, ha, ?_⟩
        have : l.toNat * szOf P (tiOf P t).elem + (m - l.toNat) * szOf P (tiOf P t).elem ≤ (tiOf P t).len * szOf P (tiOf P t).elem := by rw [← Nat.add_mul]; exact Nat.mul_le_mul_right _ (by omega)
        omega
    · have : restr ([id] ++ keys []) (updH [] (hget st.hp)) = restr [id] (hget st.hp) := by funext i; simp [restr, keys, updH]
      rw [this]
      exact hpre.hp
  le := Nat.le_refl _
  keysOk i hi := by simp [keys] at hi
  live i hi := by simp at hi; subst hi; rw [hk']; simp

end Go.Abs

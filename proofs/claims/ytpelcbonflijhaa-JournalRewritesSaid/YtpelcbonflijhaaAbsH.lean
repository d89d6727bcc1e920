/-
  The executor's operations are sound: make, slice literals, append, copy, strings and bytes. Own work; no statement of the seat is proved here.
-/
import Derived.Test.YtpelcbonflijhaaAbsG
namespace Go.Abs
set_option linter.unusedSimpArgs false
set_option linter.unusedVariables false
open Go Go.RowKit
variable {P : Program}

/-- n times the zero cells -/
def zrep (n : Nat) : List Value → List AV
  | [z] => List.replicate n (.p (.v z))
  | zs => (List.replicate n (pvs zs)).flatten

theorem flat_get {zs : List AV} (hz : 0 < zs.length) : ∀ (n j : Nat), (List.replicate n zs).flatten[j]? = if j < n * zs.length then zs[j % zs.length]? else none := by
  intro n
  induction n with
  | zero => intro j; simp
  | succ n ih =>
    intro j
    rw [List.replicate_succ, List.flatten_cons, List.getElem?_append]
    by_cases hj : j < zs.length
    · rw [if_pos hj, if_pos (by rw [Nat.succ_mul]; omega), Nat.mod_eq_of_lt hj]
    · rw [if_neg hj, ih]
      have e : (j - zs.length) % zs.length = j % zs.length := by rw [Nat.mod_eq_sub_mod (by omega : j ≥ zs.length)]
      rw [e, Nat.succ_mul]
      by_cases h2 : j - zs.length < n * zs.length
      · rw [if_pos h2, if_pos (by omega)]
      · rw [if_neg h2, if_neg (by omega)]

theorem zrep_get {zs : List Value} (hz : 0 < zs.length) (n j : Nat) : (zrep n zs)[j]? = if j < n * zs.length then (pvs zs)[j % zs.length]? else none := by
  have general : (List.replicate n (pvs zs)).flatten[j]? = if j < n * zs.length then (pvs zs)[j % zs.length]? else none := by
    have := flat_get (zs := pvs zs) (by rw [pvs_len]; exact hz) n j
    rw [pvs_len] at this
    exact this
  match zs, hz with
  | [z], _ =>
    simp only [zrep, List.length_singleton, Nat.mul_one, Nat.mod_one, pvs, List.getElem?_cons_zero]
    rw [List.getElem?_replicate]
  | a :: b :: r, _ => exact general

theorem zrep_len (zs : List Value) (n : Nat) : (zrep n zs).length = n * zs.length := by
  match zs with
  | [] => simp [zrep, pvs]
  | [z] => simp [zrep]
  | a :: b :: r => simp [zrep, List.length_flatten, pvs_len, List.map_replicate, List.sum_replicate_nat]

theorem made_rd {ρ : IdMap} {F : FSet} {w : World} {z : Array Value} (h1 : oneVs z.toList = true) (hz : 0 < z.size) (n : Nat) :
    (madeCells z (n * z.size)).size = (zrep n z.toList).length ∧ ∀ j c, (zrep n z.toList)[j]? = some c → ((madeCells z (n * z.size)).getD j undef).oneCell' = true ∧ Rd ρ F w c ((madeCells z (n * z.size)).getD j undef) := by
  refine ⟨by simp [zrep_len, size_madeCells], fun j c hj => ?_⟩
  rw [zrep_get (by simpa using hz)] at hj
  split at hj
  · rename_i hlt
    simp only [Array.length_toList] at hlt hj
    have e : (madeCells z (n * z.size)).getD j undef = z.getD (j % z.size) undef := by
      have hm : j % z.size < z.size := Nat.mod_lt _ hz
      simp [getD_of, madeCells, hlt, hm]
    rw [e]
    exact (pvs_rd h1).2 _ _ hj
  · cases hj

theorem zrep_le {zs : List Value} (hz : 0 < zs.length) {m n j : Nat} {c : AV} (h : m ≤ n) (hj : (zrep m zs)[j]? = some c) : (zrep n zs)[j]? = some c := by
  rw [zrep_get hz] at hj ⊢
  split at hj
  · rename_i hlt
    rw [if_pos (Nat.lt_of_lt_of_le hlt (Nat.mul_le_mul_right _ h))]; exact hj
  · cases hj

def makeR (st : AS) (ti ei : TI) : AV → AV → R
  | .p (.v (.int _ l)), .p (.v (.int _ c)) => match ti.kind, ei.zero, Nat.ble 1 ei.size with
    | .slice, some z, true => match oneVs z, Nat.beq z.length ei.size with
      | true, true => .okS (0 ≤ l ∧ l ≤ c ∧ (ei.bytes : Int) * c ≤ 281474976710656 ∧ c ≤ 9223372036854775807) (.sl st.nx 0 l.toNat ei.size) [] [(st.nx, some ⟨ti.elem, zrep l.toNat z⟩)] (st.nx + 1)
      | _, _ => .bad
    | _, _, _ => .bad
  | _, _ => .bad

theorem tiOf_size (t : TypeId) : (tiOf P t).size = szOf P t := rfl

theorem ok_make {o : Oper} {st : AS} {t : TypeId} {x y : Operand} (ho : o.op = .makeSlice t x y) {s : Prop} {v : AV} {T : List Nat} {u : List (Nat × Option Blk)} {nx : Nat}
    (h : makeR st (tiOf P t) (tiOf P (tiOf P t).elem) (ev st x) (ev st y) = .okS s v T u nx) (hs : s) : OpOk P o st v T u nx := by
  unfold makeR at h
  split at h
  · rename_i kl l kc c hx hy
    split at h
    · rename_i hk hz0 hpos
      rename_i z
      split at h
      · rename_i h1 hzl
        simp only [R.okS.injEq] at h
        obtain ⟨rfl, rfl, rfl, rfl, rfl⟩ := h
        obtain ⟨s0, s1, s2, s3⟩ := hs
        have hpos' := Nat.le_of_ble_eq_true hpos
        obtain ⟨i, zv, hi, hzv, rfl⟩ := zero_inv hz0
        obtain ⟨d, i', hd, hi', hz⟩ := szOf_pos (P := P) (t := (tiOf P t).elem) hpos'
        rw [hi] at hi'; cases hi'
        have hzs : zv.cells.size = i.size := by rw [hz, ← tiOf_size]; simpa using Nat.eq_of_beq_eq_true hzl
        refine ⟨?_, Nat.le_succ _, fun j hj => ?_, fun j hj => by simp at hj⟩
        · intro ρ F a w hpre hin K Q hK
          have hrx := hin x (by simp [ho, Op.operands])
          have hry := hin y (by simp [ho, Op.operands])
          rw [hx] at hrx; rw [hy] at hry
          have hid := hpre.fresh st.nx (by simp [keys]) (by simp)
          have hby : (tiOf P (tiOf P t).elem).bytes = i.bytes := by show ((P.info? (tiOf P t).elem).map (·.bytes)).getD 0 = i.bytes; rw [hi]; rfl
          rw [hby] at s2
          have hrun := run_make (P := P) w t (tiOf P t).elem i zv (ti_slice hk) hi hzv kl kc l c s0 s1 s2 s3
          obtain ⟨hl, hc⟩ := made_rd (ρ := ρ) (F := F) (w := w) h1 (by rw [hzs, hz]; exact hpos') c.toNat
          unfold Oper.wp
          have hex : (execOp a.eval o).run P w = .ok (.value (.slice (some ⟨w.heap.size, 0, none⟩) l.toNat c.toNat)) (w.alloc (.cells (madeCells zv.cells (c.toNat * i.size)) (tiOf P t).elem)) := by
            simp only [execOp, ho, hrx.pv, hry.pv, Sem.run_bind, hrun, Result.andThen_ok, Sem.run_pure]
          rw [hex, ← hzs]
          have hzp : 0 < zv.cells.toList.length := by rw [Array.length_toList, hzs, hz]; exact hpos'
          have hlc : l.toNat ≤ c.toNat := by omega
          refine hK _ _ F _ (Post.newBlk hpre.fok hid (by rw [hl, zrep_len, zrep_len]; exact Nat.mul_le_mul_right _ hlc) (fun j c hj => hc j c (zrep_le hzp hlc hj)) rfl rfl rfl rfl (.sl _ _ _ _ w.heap.size c.toNat (by simp [rset]) (by omega) ?_))
          refine ⟨_, _, _, heap_alloc_new w _, ?_⟩
          simp only [size_madeCells, tiOf_size, ← hz, hzs]; omega
        · simp [keys] at hj; subst hj; exact .inr ⟨Nat.le_refl _, Nat.lt_succ_self _⟩
      · cases h
    · cases h
  · cases h

def sliceLitR (st : AS) (ti ei : TI) (len : Nat) (parts : List (Nat × AV)) : R :=
  match ti.kind, ei.zero, Nat.ble 1 ei.size with
  | .slice, some z, true => match oneVs z, Nat.beq z.length ei.size, Nat.ble (len * ei.size) 16777216 with
    | true, true, true => match fillA (fun i => some (i * ei.size, ei.size)) (zrep len z) parts with
      | some cs => .ok (.sl st.nx 0 len ei.size) [] [(st.nx, some ⟨ti.elem, cs⟩)] (st.nx + 1)
      | none => .bad
    | _, _, _ => .bad
  | _, _, _ => .bad

theorem ok_sliceLit {o : Oper} {st : AS} {t : TypeId} {len : Nat} {parts : Array (Nat × Operand)} (ho : o.op = .buildSlice t len parts) {v : AV} {T : List Nat} {u : List (Nat × Option Blk)} {nx : Nat}
    (h : sliceLitR st (tiOf P t) (tiOf P (tiOf P t).elem) len (evp st parts.toList) = .ok v T u nx) : OpOk P o st v T u nx := by
  unfold sliceLitR at h
  split at h
  · rename_i hk hz0 hpos
    rename_i z
    split at h
    · rename_i h1 hzl hsm
      split at h
      · rename_i cs hf
        simp only [R.ok.injEq] at h
        obtain ⟨rfl, rfl, rfl, rfl⟩ := h
        have hpos' := Nat.le_of_ble_eq_true hpos
        obtain ⟨i, zv, hi, hzv, rfl⟩ := zero_inv hz0
        obtain ⟨d, i', hd, hi', hz⟩ := szOf_pos (P := P) (t := (tiOf P t).elem) hpos'
        rw [hi] at hi'; cases hi'
        have hzs : zv.cells.size = i.size := by rw [hz, ← tiOf_size]; simpa using Nat.eq_of_beq_eq_true hzl
        have hsz : (tiOf P (tiOf P t).elem).size = i.size := by rw [tiOf_size, hz]
        have hsm' : len * i.size ≤ 16777216 := by rw [← hsz]; exact Nat.le_of_ble_eq_true hsm
        refine ⟨?_, Nat.le_succ _, fun j hj => ?_, fun j hj => by simp at hj⟩
        · intro ρ F a w hpre hin K Q hK
          have hid := hpre.fresh st.nx (by simp [keys]) (by simp)
          obtain ⟨hl, hc⟩ := made_rd (ρ := ρ) (F := F) (w := w) h1 (by rw [hzs, ← hsz]; exact hpos') len
          have hops : ∀ p, p ∈ parts.toList → Rd ρ F w (ev st p.2) (a.eval p.2) := fun p hp => hin p.2 (by simp only [ho, Op.operands]; simp; exact ⟨p.1, by simpa using hp⟩)
          obtain ⟨us', h2, h3, h4⟩ := fill_rd (a := a) (fun i => some (i * (tiOf P (tiOf P t).elem).size, (tiOf P (tiOf P t).elem).size)) parts.toList _ _ cs hops hl hc hf
          unfold Oper.wp
          have hex : (execOp a.eval o).run P w = .ok (.value (.slice (some ⟨w.heap.size, 0, none⟩) len len)) (w.alloc (.cells us' (tiOf P t).elem)) := by
            have hmade : madeCells zv.cells (len * zv.cells.size) = (Array.range (len * i.size)).map ((if len * i.size = 0 then #[] else zv.cells)[· % (if len * i.size = 0 then #[] else zv.cells).size]!) := by
              rw [hzs]
              by_cases h0 : len * i.size = 0
              · rw [h0]; simp [madeCells]
              · rw [if_neg h0]; rfl
            rw [hmade, hsz] at h2
            have hno : ¬ (16777216 < len * i.size) := by omega
            by_cases h0 : len * i.size = 0
            · rw [if_pos h0] at h2
              simp only [execOp, ho, Instr.buildSlice, Sem.run_bind, run_underlying (ti_slice hk), Result.andThen_ok, sizeOf, typeInfo, run_program, hi, Sem.run_pure]
              simp [hno, h0]
              rw [h0] at h2
              simp at h2
              simp [h2, newRow]
            · rw [if_neg h0] at h2
              simp only [execOp, ho, Instr.buildSlice, Sem.run_bind, run_underlying (ti_slice hk), Result.andThen_ok, sizeOf, typeInfo, run_program, hi, Sem.run_pure]
              simp [hno, h0, zeroValue, typeInfo, hi, hzv]
              simp at h2
              simp [h2, newRow]
          rw [hex]
          refine hK _ _ F _ (Post.newBlk hpre.fok hid (by omega) h4 rfl rfl rfl rfl (.sl _ _ _ _ w.heap.size len (by simp [rset]) (Nat.le_refl _) ?_))
          refine ⟨_, _, _, heap_alloc_new w _, ?_⟩
          have hcl : cs.length = (zrep len zv.cells.toList).length := by
            have key : ∀ (place : Nat → Option (Nat × Nat)) (parts : List (Nat × AV)) (cs r : List AV), fillA place cs parts = some r → r.length = cs.length := by
              intro place parts
              induction parts with
              | nil => intro cs r h; simp [fillA] at h; subst h; rfl
              | cons p rest ih =>
                obtain ⟨i, x⟩ := p
                intro cs r h
                simp only [fillA] at h
                split at h
                · split at h
                  · rw [ih _ _ h, setAt_len]
                  · cases h
                · cases h
            exact key _ _ _ _ hf
          rw [h3, hcl, zrep_len, hsz]; simp [hzs]
        · simp [keys] at hj; subst hj; exact .inr ⟨Nat.le_refl _, Nat.lt_succ_self _⟩
      · cases h
    · cases h
  · cases h

end Go.Abs

/-
  The executor's operations are sound: copy, strings and bytes. Own work; no statement of the seat is proved here.
-/
import Derived.Test.YtpelcbonflijhaaAbsI
namespace Go.Abs
set_option linter.unusedSimpArgs false
set_option linter.unusedVariables false
open Go Go.RowKit
variable {P : Program}

theorem bt_inv {c : PV} (h : isB c) : c = bt (unB c) := by
  cases c with
  | v x =>
    cases x with
    | int k n =>
      cases k with
      | u8 =>
        obtain ⟨b, rfl⟩ := h
        simp [unB, bt]
      | _ => exact h.elim
    | _ => exact h.elim
  | _ => exact h.elim

theorem allB_map {cs : List PV} (h : allB cs) : cs = (unBs cs).map bt := by
  unfold unBs
  rw [List.map_map]
  conv => lhs; rw [← List.map_id cs]
  exact List.map_congr_left fun c hc => bt_inv (h c hc)

theorem run_toStr {s d : TypeId} {A : Option Addr} {n cap : Nat} {l : List UInt8} {w : World} (hs : P.underlying s = some (.slice (tiOf P s).elem)) (he : P.underlying (tiOf P s).elem = some (.int .u8)) (hd : P.underlying d = some .string)
    (hl : l.length = n) (hA : A = none → n = 0) (hc : ∀ ad, A = some ad → ∀ j, j < n → w.cell? (ad.add j) = some (.int .u8 ((l.getD j 0).toNat : Int))) :
    (convert s d (.slice A n cap)).run P w = .ok (strOf l) w := by
  cases A with
  | some ad =>
    subst hl
    exact run_convert_bytes_back w s d _ ad cap l hs he hd (fun j hj => by rw [hc ad rfl j hj]; simp [List.getD_eq_getElem?_getD, hj])
  | none =>
    have := hA rfl
    subst this
    have hl0 : l = [] := List.eq_nil_of_length_eq_zero hl
    subst hl0
    rw [run_convert_bytes_string w s d _ none 0 cap hs he hd]
    simp [Conv.bytesToString, strOf]; rfl

theorem ok_toStrData {o : Oper} {st : AS} {s d : TypeId} {x : Operand} (ho : o.op = .convert s d x) {n : Nat} {cs : List PV} (hx : ev st x = .p (.data 1 n cs)) (hd : (tiOf P d).kind = .str) (hs : (tiOf P s).kind = .slice)
    (he : (tiOf P (tiOf P s).elem).kind = .int .u8) (hb : allB cs) : OpOk P o st (.p (.v (strOf (unBs cs)))) [] [] st.nx :=
  ok_pure fun ρ F a w hin => by
    have hr := hin x (by simp [ho, Op.operands])
    rw [hx] at hr
    have e := allB_map hb
    have fin : ∀ A cap, a.eval x = .slice A n cap → (unBs cs).length = n → (A = none → n = 0) → (∀ ad, A = some ad → ∀ j, j < n → w.cell? (ad.add j) = some (.int .u8 (((unBs cs).getD j 0).toNat : Int))) →
        ∃ y, (execOp a.eval o).run P w = .ok (.value y) w ∧ Rd ρ F w (.p (.v (strOf (unBs cs)))) y := by
      intro A cap hv hl hA hc
      have := run_toStr (P := P) (cap := cap) (ti_slice hs) (ti_int he) (ti_str hd) hl hA hc
      exact ⟨_, by simp only [execOp, ho, hv, Sem.run_bind, this, Result.andThen_ok, Sem.run_pure], .ofV rfl⟩
    rcases hr.dataInv with ⟨rfl, rfl, A, cap, hv⟩ | ⟨b, off, cap, f, hv, hl, hcap, hF, hc, h1c, hrc⟩
    · exact fin A cap hv rfl (fun _ => rfl) (fun ad _ j hj => by omega)
    · have hl' : (unBs cs).length = n := by simp [unBs]; omega
      refine fin _ cap hv hl' (fun h => by cases h) (fun ad h j hj => ?_)
      cases h
      rw [addr_add, hc j (by omega)]
      have hj' : j < cs.length := by omega
      have hrj := hrc j _ (List.getElem?_eq_getElem hj')
      have hbj := bt_inv (hb _ (List.getElem_mem hj'))
      rw [hbj] at hrj
      have := (Rd.p (ρ := ρ) _ _ hrj).pv
      rw [this]
      simp [unBs, List.getD_eq_getElem?_getD, hj']

theorem allP_map {cs : List AV} (h : allP cs) : cs = (unPs cs).map .p := by
  unfold unPs
  rw [List.map_map]
  conv => lhs; rw [← List.map_id cs]
  refine List.map_congr_left fun c hc => ?_
  have := h c hc
  cases c <;> first | rfl | exact this.elim

theorem ok_toStrSl {o : Oper} {st : AS} {s d : TypeId} {x : Operand} (ho : o.op = .convert s d x) {id off n : Nat} (hx : ev st x = .sl id off n 1) (hd : (tiOf P d).kind = .str) (hs : (tiOf P s).kind = .slice)
    (he : (tiOf P (tiOf P s).elem).kind = .int .u8) {k : Blk} (hk : hget st.hp id = some k) (hl : off + n ≤ k.cs.length) (hp : allP ((k.cs.drop off).take n)) (hb : allB (unPs ((k.cs.drop off).take n))) :
    OpOk P o st (.p (.v (strOf (unBs (unPs ((k.cs.drop off).take n)))))) [id] [] st.nx where
  tri ρ F a w hpre hin K Q hK := by
    have hr := hin x (by simp [ho, Op.operands])
    rw [hx] at hr
    have hln : (unBs (unPs ((k.cs.drop off).take n))).length = n := by simp [unBs, unPs]; omega
    have fin : ∀ A cap, a.eval x = .slice A n cap → (A = none → n = 0) → (∀ ad, A = some ad → ∀ j, j < n → w.cell? (ad.add j) = some (.int .u8 (((unBs (unPs ((k.cs.drop off).take n))).getD j 0).toNat : Int))) → o.wp P a w K Q := by
      intro A cap hv hA hc
      have hrun := run_toStr (P := P) (cap := cap) (ti_slice hs) (ti_int he) (ti_str hd) hln hA hc
      unfold Oper.wp
      have hex : (execOp a.eval o).run P w = .ok (.value (strOf (unBs (unPs ((k.cs.drop off).take n))))) w := by simp only [execOp, ho, hv, Sem.run_bind, hrun, Result.andThen_ok, Sem.run_pure]
      rw [hex]
      refine hK _ ρ F w ⟨fun _ _ h => h, fun i h1 h2 => absurd h1 h2, fun i b h1 h2 => (by rw [h1] at h2; cases h2), .ofV rfl, ?_, hpre.fok, Chg.refl _ _ _⟩
      have : restr ([id] ++ keys []) (updH [] (hget st.hp)) = restr [id] (hget st.hp) := by funext i; simp [restr, keys, updH]
      rw [this]
      exact hpre.hp
    rcases hr.slInv with ⟨rfl, A, hv⟩ | ⟨b, cap, hb', hv, hcap, hcc⟩
    · exact fin A 0 hv (fun _ => rfl) (fun ad _ j hj => by omega)
    · have hrs : restr [id] (hget st.hp) id = some k := by simp [restr, hk]
      rcases hpre.hp.ok id k hrs with ⟨_, h0⟩ | ⟨b2, hb2, hblk⟩
      · rw [h0] at hb'; cases hb'
      rw [hb'] at hb2; cases hb2
      obtain ⟨arr, ha, hlen, hc⟩ := hblk.is
      refine fin _ cap hv (fun h => by cases h) (fun ad h j hj => ?_)
      cases h
      rw [addr_add, cell_of ha (by omega)]
      have hj1 : j < ((k.cs.drop off).take n).length := by simp; omega
      have hget' : ((k.cs.drop off).take n)[j]? = some ((k.cs.drop off).take n)[j] := List.getElem?_eq_getElem hj1
      have hkj : k.cs[off + j]? = some ((k.cs.drop off).take n)[j] := by
        rw [← hget', List.getElem?_take, if_pos hj, List.getElem?_drop]
      have hrj := (hc _ _ hkj).2
      have hpj := hp _ (List.getElem_mem hj1)
      have hbj := hb (unP ((k.cs.drop off).take n)[j]) (by unfold unPs; exact List.mem_map.2 ⟨_, List.getElem_mem hj1, rfl⟩)
      have e1 : ((k.cs.drop off).take n)[j] = .p (unP ((k.cs.drop off).take n)[j]) := by
        revert hpj
        cases ((k.cs.drop off).take n)[j] <;> intro hpj <;> first | rfl | exact hpj.elim
      rw [e1, bt_inv hbj] at hrj
      have := hrj.pv
      rw [this]
      have e2 : (unBs (unPs ((k.cs.drop off).take n))).getD j 0 = unB (unP ((k.cs.drop off).take n)[j]) := by
        simp only [unBs, unPs, List.getD_eq_getElem?_getD, List.getElem?_map, hget', Option.map_some, Option.getD_some]
      rw [e2]
  le := Nat.le_refl _
  keysOk i hi := by simp [keys] at hi
  live i hi := by simp at hi; subst hi; rw [hk]; simp

theorem ok_toBytes {o : Oper} {st : AS} {s d : TypeId} {x : Operand} (ho : o.op = .convert s d x) {b : ByteArray} (hx : ev st x = .p (.v (.string b))) (hs : (tiOf P s).kind = .str) (hd : (tiOf P d).kind = .slice)
    (he : (tiOf P (tiOf P d).elem).kind = .int .u8) : OpOk P o st (.p (.data 1 b.size (b.data.toList.map bt))) [] [] st.nx where
  tri ρ F a w hpre hin K Q hK := by
    have hr := hin x (by simp [ho, Op.operands])
    rw [hx] at hr
    have hrun := run_bytes_of_string (P := P) w s d (tiOf P d).elem b (ti_str hs) (ti_slice hd) (ti_int he)
    unfold Oper.wp
    have hex : (execOp a.eval o).run P w = .ok (.value (.slice (some ⟨w.heap.size, 0, none⟩) b.size (grownCap w b.size 0 (tiOf P d).elem)))
      (w.drew.alloc (.cells (bytesRow b (grownCap w b.size 0 (tiOf P d).elem)) (tiOf P d).elem ((bytesRow b (grownCap w b.size 0 (tiOf P d).elem)).size, (bytesRow b (grownCap w b.size 0 (tiOf P d).elem)).size + 1))) := by
      simp only [execOp, ho, hr.pv, Sem.run_bind, hrun, Result.andThen_ok, Sem.run_pure]
    rw [hex]
    generalize hrow : bytesRow b (grownCap w b.size 0 (tiOf P d).elem) = row
    have hge := grownCap_ge w b.size 0 (tiOf P d).elem
    have hcell : ∀ j, j < b.size → row[j]? = some (.int .u8 ((b.data.toList.getD j 0).toNat : Int)) := by
      intro j hj
      rw [← hrow]
      unfold bytesRow
      have hj' : j < b.data.size := hj
      rw [Array.getElem?_append_left (by simpa using hj')]
      simp [List.getD_eq_getElem?_getD, Array.getElem?_eq_getElem hj']
    refine hK _ ρ (fun k => F k ∨ k = w.heap.size) _ ⟨fun _ _ h => h, fun i h1 h2 => absurd h1 h2, fun i b h1 h2 => (by rw [h1] at h2; cases h2), ?_, ⟨fun i k h => by simp [restr, keys] at h, fun i j b h => by simp [restr, keys] at h⟩, ?_, ?_⟩
    · refine .p _ _ (.data 1 _ _ w.heap.size 0 _ (fun j => .int .u8 ((b.data.toList.getD j 0).toNat : Int)) (by simp) hge (.inr rfl) (fun j hj => ?_) (fun j _ => rfl) (fun j c hj => ?_))
      · have hj' : j < b.size := by simpa using hj
        have hnew := heap_alloc_new w.drew (.cells row (tiOf P d).elem (row.size, row.size + 1))
        simp only [World.cell?, Nat.zero_add]
        have : w.drew.heap.size = w.heap.size := rfl
        rw [this] at hnew
        rw [hnew]
        simpa using hcell j hj'
      · simp only [List.getElem?_map, Option.map_eq_some_iff] at hj
        obtain ⟨y, hy, rfl⟩ := hj
        have : b.data.toList.getD j 0 = y := by rw [List.getD_eq_getElem?_getD, hy]; rfl
        rw [this]
        exact .v _ rfl
    · intro k hk
      rcases hk with hk | rfl
      · have := hpre.fok k hk; simp; omega
      · simp
    · exact ⟨rfl, rfl, rfl, by simp, fun k hk _ => Below.heap_alloc w.drew _ k hk, fun k n hc => (show hasCells w.drew k n from hc).alloc _, fun k hk => .inl hk, fun k hk => by
        rcases hk with hk | rfl
        · exact .inl hk
        · exact .inr (.inl (Nat.le_refl _))⟩
  le := Nat.le_refl _
  keysOk i hi := by simp [keys] at hi
  live i hi := by simp at hi

/-- the row of a constant gets the run-time's mark: from then on it is frozen -/
theorem ok_mark {o : Oper} {st : AS} {s : TypeId} {x : Operand} (ho : o.op = .convert s s x) {id off n : Nat} (hx : ev st x = .sl id off n 1) (hs : (tiOf P s).kind = .slice)
    (he : (tiOf P (tiOf P s).elem).kind = .int .u8) {k : Blk} (hk : hget st.hp id = some k) (hl : off + n ≤ k.cs.length) (hn : n ≠ 0) (hp : allP ((k.cs.drop off).take n)) :
    OpOk P o st (.p (.data 1 n (unPs ((k.cs.drop off).take n)))) [id] [(id, none)] st.nx where
  tri ρ F a w hpre hin K Q hK := by
    have hr := hin x (by simp [ho, Op.operands])
    rw [hx] at hr
    rcases hr.slInv with ⟨h0, A, hv⟩ | ⟨b, cap, hb', hv, hcap, hcc⟩
    · exact absurd h0 hn
    · have hrs : restr [id] (hget st.hp) id = some k := by simp [restr, hk]
      rcases hpre.hp.ok id k hrs with ⟨_, h0⟩ | ⟨b2, hb2, hblk⟩
      · rw [h0] at hb'; cases hb'
      rw [hb'] at hb2; cases hb2
      obtain ⟨arr, ha, hlen, hc⟩ := hblk.is
      have hblt : b < w.heap.size := (Array.getElem?_eq_some_iff.1 ha).1
      have hex : (execOp a.eval o).run P w = .ok (.value (.slice (some ⟨b, off, none⟩) n cap)) (w.freeze ⟨b, arr.size, none⟩ 1) := by
        have hsh : w.shape? b = some (k.t, arr.size) := by unfold World.shape?; rw [ha]
        simp [execOp, ho, hv, convert, run_underlying (ti_slice hs), run_underlying (ti_int he), markStringish, hsh]
      have hnew : (w.freeze ⟨b, arr.size, none⟩ 1).heap[b]? = some (.cells arr k.t (arr.size, arr.size + 1)) := by
        unfold World.freeze
        rw [if_neg (by decide)]
        simp [Array.getElem?_modify, ha]
      have hold : ∀ c, c ≠ b → (w.freeze ⟨b, arr.size, none⟩ 1).heap[c]? = w.heap[c]? := fun c hc => by
        unfold World.freeze
        rw [if_neg (by decide)]
        have hne : ¬ b = c := fun e => hc e.symm
        simp only [Array.getElem?_modify, if_neg hne]
      have hsz : (w.freeze ⟨b, arr.size, none⟩ 1).heap.size = w.heap.size := by
        unfold World.freeze
        rw [if_neg (by decide)]
        simp
      unfold Oper.wp
      rw [hex]
      refine hK _ ρ (fun c => F c ∨ c = b) _ ⟨fun _ _ h => h, fun i h1 h2 => absurd h1 h2, fun i b h1 h2 => (by rw [h1] at h2; cases h2), ?_, ⟨fun i k' h => ?_, fun i j b' h => ?_⟩, ?_, ?_⟩
      · refine .p _ _ (.data 1 _ _ b off cap (fun j => arr.getD (off + j) undef) (by simp [unPs]; omega) hcap (.inr rfl) (fun j hj => ?_) (fun j hj => ?_) (fun j c hj => ?_))
        · have hj' : j < n := by simp [unPs] at hj; omega
          simp only [World.cell?, hnew]
          have : off + j < arr.size := by omega
          simp [Array.getD, this]
        · have hj' : j < n := by simp [unPs] at hj; omega
          have hlt : off + j < k.cs.length := by omega
          exact (hc (off + j) _ (List.getElem?_eq_getElem hlt)).1
        · simp only [unPs, List.getElem?_map, Option.map_eq_some_iff] at hj
          obtain ⟨y, hy, rfl⟩ := hj
          have hj' : j < n := by
            rw [List.getElem?_take] at hy
            split at hy
            · assumption
            · cases hy
          have hkj : k.cs[off + j]? = some y := by
            rw [List.getElem?_take, if_pos hj', List.getElem?_drop] at hy
            exact hy
          have hy1 : isP y := hp y (List.mem_of_getElem? hy)
          have hrd := (hc (off + j) y hkj).2
          cases y <;> simp only [isP] at hy1
          cases hrd with
          | p _ _ hrp =>
            have hnb : ¬ F b := hblk.own
            exact hrp.mono (fun c h => .inl h) (fun c hF => hold c (fun e => hnb (e ▸ hF)))
      · simp [restr, updH, keys, hget] at h
        obtain ⟨h1, h2⟩ := h
        subst h1
        simp at h2
      · simp [restr, updH, keys, hget] at h
        obtain ⟨h1, h2⟩ := h
        subst h1
        simp at h2
      · intro c hcF
        rw [hsz]
        rcases hcF with hcF | rfl
        · exact hpre.fok c hcF
        · exact hblt
      · refine ⟨?_, ?_, ?_, by rw [hsz]; exact Nat.le_refl _, fun c _ hO => hold c (fun e => hO ⟨id, by simp [keys], by rw [e]; exact hb'⟩), fun c m hcm => ?_, fun c hcF => .inl hcF, fun c hcF => ?_⟩
        · unfold World.freeze; rw [if_neg (by decide)]
        · unfold World.freeze; rw [if_neg (by decide)]
        · unfold World.freeze; rw [if_neg (by decide)]
        · obtain ⟨ar2, t2, fr2, hb2, hm2⟩ := hcm
          by_cases e : c = b
          · subst e
            rw [ha] at hb2
            cases hb2
            exact ⟨arr, _, _, hnew, hm2⟩
          · exact ⟨ar2, t2, fr2, by rw [hold c e]; exact hb2, hm2⟩
        · rcases hcF with hcF | rfl
          · exact .inl hcF
          · exact .inr (.inr ⟨id, by simp [keys], hb'⟩)
  le := Nat.le_refl _
  keysOk i hi := by simp [keys] at hi; exact .inl (by simp [hi])
  live i hi := by simp at hi; subst hi; rw [hk]; simp

end Go.Abs

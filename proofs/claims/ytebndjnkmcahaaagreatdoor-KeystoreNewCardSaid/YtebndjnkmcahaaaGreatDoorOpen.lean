/- joined of several texts; own work; no statement of the seat is proved but in the last -/
import Derived.Test.YtebndjnkmcahaaaGreatDoorLc
import Derived.Test.YtebndjnkmcahaaaGreatDoorRow0
import Derived.SizedLaws
/-
  Arguments of a law, opened: what came in as values of the executor. Own work; no statement of the seat is proved here.
-/
section
namespace Go.Proofs.YtebndjnkmcahaaaGreatDoor
set_option linter.unusedSimpArgs false
set_option linter.unusedVariables false
open Go Go.Abs Go.RowKit Go.WideShapes Go.ChangeShapes

variable {H : Type} {enc : TypeId × Value → H}

theorem cells_bytes : Tryz.prog.cellsOf 27 = 1 := by kernel_rfl
theorem cells_bool : Tryz.prog.cellsOf 4 = 1 := by kernel_rfl
theorem cells_flash : Tryz.prog.cellsOf 32 = 2 := by kernel_rfl
theorem cut_field {w : World} {t : TypeId} {fs : Array Field} {fuel : Nat} {cs : List Value} {x : DataW H × List MemPlace} (ht : Tryz.prog.underlying t = some (.struct fs)) (h : DataW.trod enc Tryz.prog w 0 (fun _ => true) true fuel t cs = some x) :
    ∃ n, cs.length = Tryz.prog.cellsOf t ∧ ∀ (i : Nat) (f : Field), fs[i]? = some f → ∃ y, DataW.trod enc Tryz.prog w 0 (fun _ => true) true n f.type ((cs.drop f.offset).take (Tryz.prog.cellsOf f.type)) = some y := by
  obtain ⟨xs, n, _, _, hl, hlen, hf⟩ := DataW.trod_struct ht h
  refine ⟨n, hl, fun i f hi => ?_⟩
  have := hf i f hi
  have hlt : i < xs.length := by rw [hlen]; exact (Array.getElem?_eq_some_iff.1 hi).1
  rw [List.getElem?_eq_getElem hlt] at this
  exact ⟨_, this⟩

theorem i64_wf {z : Int} (h : (Lit.int .i64 z).wf = true) : i64 z := by
  have hmin : IntKind.i64.min = -9223372036854775808 := rfl
  have hmax : IntKind.i64.max = 9223372036854775807 := rfl
  unfold i64
  simpa only [Lit.wf, hmin, hmax, Bool.and_eq_true, decide_eq_true_eq] using h

/-- a flash that came in -/
theorem trod_flash {w : World} {fuel : Nat} {cs : List Value} {x : DataW H × List MemPlace} (h : DataW.trod enc Tryz.prog w 0 (fun _ => true) true fuel 32 cs = some x) :
    ∃ (ps : Int) (u : Value) (bs : List UInt8), cs = [.int .i64 ps, u] ∧ i64 ps ∧ bs.length ≤ maxLen ∧ RdP (fun b => b < w.heap.size) w (.data 1 bs.length (bs.map bt)) u := by
  obtain ⟨n, hl, hf⟩ := cut_field Tryz.underlying32 h
  have hc : Tryz.prog.cellsOf 32 = 2 := by kernel_rfl
  rw [hc] at hl
  obtain ⟨c0, c1, rfl⟩ := len2 hl
  · obtain ⟨y0, h0⟩ := hf 0 _ rfl
    obtain ⟨y1, h1⟩ := hf 1 _ rfl
    have e0 : DataW.trod enc Tryz.prog w 0 (fun _ => true) true n 3 [c0] = some y0 := by simpa [cells_int, cells_bytes, cells_bool, cells_flash] using h0
    have e1 : DataW.trod enc Tryz.prog w 0 (fun _ => true) true n 27 [c1] = some y1 := by simpa [cells_int, cells_bytes, cells_bool, cells_flash] using h1
    obtain ⟨ps, hps, -, hwf⟩ := DataW.trod_int Tryz.underlying3 e0
    obtain ⟨bs, hb1, hb2⟩ := rd_bytes Tryz.underlying27 Tryz.underlying5 cells_byte e1
    simp only [List.cons.injEq, and_true] at hps
    subst hps
    exact ⟨ps, c1, bs, rfl, i64_wf hwf, hb1, hb2⟩

/-- a journal that came in -/
theorem trod_journal {w : World} {fuel : Nat} {cs : List Value} {x : DataW H × List MemPlace} (h : DataW.trod enc Tryz.prog w 0 (fun _ => true) true fuel 34 cs = some x) :
    ∃ (j : Jn) (u : Value), cs = [.int .i64 j.ps, u, .int .i64 j.page, .int .i64 j.gen, .int .i64 j.tail, .bool j.torn] ∧ j.bs.length ≤ maxLen ∧ RdP (fun b => b < w.heap.size) w (.data 1 j.bs.length (j.bs.map bt)) u := by
  obtain ⟨n, hl, hf⟩ := cut_field Tryz.underlying34 h
  have hc : Tryz.prog.cellsOf 34 = 6 := by kernel_rfl
  rw [hc] at hl
  obtain ⟨c0, c1, c2, c3, c4, c5, rfl⟩ := len6 hl
  · obtain ⟨y0, h0⟩ := hf 0 _ rfl
    obtain ⟨y1, h1⟩ := hf 1 _ rfl
    obtain ⟨y2, h2⟩ := hf 2 _ rfl
    obtain ⟨y3, h3⟩ := hf 3 _ rfl
    obtain ⟨y4, h4⟩ := hf 4 _ rfl
    have e0 : DataW.trod enc Tryz.prog w 0 (fun _ => true) true n 32 [c0, c1] = some y0 := by simpa [cells_int, cells_bytes, cells_bool, cells_flash] using h0
    have e1 : DataW.trod enc Tryz.prog w 0 (fun _ => true) true n 3 [c2] = some y1 := by simpa [cells_int, cells_bytes, cells_bool, cells_flash] using h1
    have e2 : DataW.trod enc Tryz.prog w 0 (fun _ => true) true n 3 [c3] = some y2 := by simpa [cells_int, cells_bytes, cells_bool, cells_flash] using h2
    have e3 : DataW.trod enc Tryz.prog w 0 (fun _ => true) true n 3 [c4] = some y3 := by simpa [cells_int, cells_bytes, cells_bool, cells_flash] using h3
    have e4 : DataW.trod enc Tryz.prog w 0 (fun _ => true) true n 4 [c5] = some y4 := by simpa [cells_int, cells_bytes, cells_bool, cells_flash] using h4
    obtain ⟨ps, u, bs, hps, -, hb1, hb2⟩ := trod_flash e0
    obtain ⟨a1, g1, -, -⟩ := DataW.trod_int Tryz.underlying3 e1
    obtain ⟨a2, g2, -, -⟩ := DataW.trod_int Tryz.underlying3 e2
    obtain ⟨a3, g3, -, -⟩ := DataW.trod_int Tryz.underlying3 e3
    obtain ⟨a4, g4, -⟩ := DataW.trod_bool Tryz.underlying4 e4
    simp only [List.cons.injEq, and_true] at hps g1 g2 g3 g4
    obtain ⟨rfl, rfl⟩ := hps
    subst g1 g2 g3 g4
    exact ⟨⟨ps, bs, a1, a2, a3, a4⟩, c1, rfl, hb1, hb2⟩

end Go.Proofs.YtebndjnkmcahaaaGreatDoor
end
/-
  Arguments of a law of any plain type, opened: what came in as values of the executor. Own work; no statement of the seat is proved here.
-/
section
namespace Go.Abs
set_option linter.unusedSimpArgs false
set_option linter.unusedVariables false
open Go Go.RowKit Go.WideShapes Go.ChangeShapes

/-- a type of integers, booleans, strings, slices and structures -/
def contig (P : Program) : Nat → List Field → Bool
  | _, [] => true
  | o, f :: r => Nat.beq f.offset o && contig P (o + P.cellsOf f.type) r
def sumC (P : Program) : List Field → Nat
  | [] => 0
  | f :: r => P.cellsOf f.type + sumC P r
def plainT (P : Program) : Nat → TypeId → Bool
  | 0, _ => false
  | n + 1, t => match P.underlying t with
    | some (.int _) => true
    | some .bool => true
    | some .string => true
    | some (.struct fs) => fs.toList.all (fun f => plainT P n f.type) && contig P 0 fs.toList && Nat.beq (sumC P fs.toList) (P.cellsOf t)
    | some (.slice e) => plainT P n e && Nat.ble 1 (P.cellsOf e)
    | _ => false

def ShF (S : TypeId → List PV → Prop) : List Field → List PV → Prop
  | [], ps => ps = []
  | f :: r, ps => ∃ a b, ps = a ++ b ∧ S f.type a ∧ ShF S r b
/-- how the cells of a value of a type read -/
def Sh (P : Program) : Nat → TypeId → List PV → Prop
  | 0, _, _ => False
  | n + 1, t, ps => match P.underlying t with
    | some (.int k) => ∃ z, ps = [.v (.int k z)] ∧ (Lit.int k z).wf = true
    | some .bool => ∃ b, ps = [.v (.bool b)]
    | some .string => ∃ s : ByteArray, ps = [.v (.string s)] ∧ s.size ≤ reachBytes
    | some (.struct fs) => ShF (Sh P n) fs.toList ps
    | some (.slice e) => ∃ l : List (List PV), ps = [.data (P.cellsOf e) l.length l.flatten] ∧ l.length * P.bytesOf e ≤ reachBytes ∧ ∀ q, q ∈ l → Sh P n e q
    | _ => False

structure Rds (w : World) (ps : List PV) (cs : List Value) : Prop where
  len : ps.length = cs.length
  rd : ∀ j c, ps[j]? = some c → (cs.getD j undef).oneCell' = true ∧ RdP (fun b => b < w.heap.size) w c (cs.getD j undef)

theorem Rds.one {w : World} {c : PV} {v : Value} (h1 : v.oneCell' = true) (h : RdP (fun b => b < w.heap.size) w c v) : Rds w [c] [v] :=
  ⟨rfl, fun j c' hj => by
    cases j with
    | zero => simp at hj; subst hj; exact ⟨h1, h⟩
    | succ j => simp at hj⟩
theorem Rds.app {w : World} {p q : List PV} {c d : List Value} (h : Rds w p c) (h' : Rds w q d) : Rds w (p ++ q) (c ++ d) :=
  ⟨by simp [h.len, h'.len], fun j x hj => by
    rcases Nat.lt_or_ge j p.length with hl | hl
    · rw [List.getElem?_append_left hl] at hj
      have := h.rd j x hj
      rwa [show (c ++ d).getD j undef = c.getD j undef from by simp [List.getD_eq_getElem?_getD, List.getElem?_append_left (show j < c.length by rw [← h.len]; exact hl)]]
    · rw [List.getElem?_append_right hl] at hj
      have := h'.rd _ x hj
      rwa [show (c ++ d).getD j undef = d.getD (j - p.length) undef from by simp [List.getD_eq_getElem?_getD, List.getElem?_append_right (show c.length ≤ j by rw [← h.len]; exact hl), h.len]]⟩

theorem choose_list {α : Type} (Q : Nat → α → Prop) : ∀ n, (∀ i, i < n → ∃ a, Q i a) → ∃ l : List α, l.length = n ∧ ∀ i a, l[i]? = some a → Q i a
  | 0, _ => ⟨[], rfl, fun i a h => by simp at h⟩
  | n + 1, h => by
    obtain ⟨l, hl, hq⟩ := choose_list Q n fun i hi => h i (by omega)
    obtain ⟨a, ha⟩ := h n (by omega)
    refine ⟨l ++ [a], by simp [hl], fun i b hb => ?_⟩
    rcases Nat.lt_trichotomy i n with h1 | h1 | h1
    · rw [List.getElem?_append_left (by omega)] at hb; exact hq i b hb
    · subst h1
      rw [List.getElem?_append_right (by omega), hl, Nat.sub_self] at hb
      simp at hb; subst hb; exact ha
    · rw [List.getElem?_append_right (by omega), hl] at hb
      rw [List.getElem?_eq_none (by simp; omega)] at hb; cases hb

theorem flatC {α : Type} {k : Nat} : ∀ (l : List (List α)), (∀ q, q ∈ l → q.length = k) → l.flatten.length = l.length * k ∧ ∀ j x, l.flatten[j]? = some x → 0 < k ∧ ∃ q, l[j / k]? = some q ∧ q[j % k]? = some x
  | [], _ => ⟨by simp, fun j x h => by simp at h⟩
  | q :: l, h => by
    obtain ⟨h1, h2⟩ := flatC l fun q hq => h q (by simp [hq])
    have hq := h q (by simp)
    refine ⟨by simp only [List.flatten_cons, List.length_append, List.length_cons, h1, hq, Nat.succ_mul]; omega, fun j x hj => ?_⟩
    rw [List.flatten_cons] at hj
    rcases Nat.lt_or_ge j q.length with hl | hl
    · rw [List.getElem?_append_left hl] at hj
      refine ⟨by omega, q, ?_, ?_⟩
      · rw [Nat.div_eq_of_lt (by omega)]; rfl
      · rw [Nat.mod_eq_of_lt (by omega)]; exact hj
    · rw [List.getElem?_append_right hl] at hj
      obtain ⟨hk, q', e1, e2⟩ := h2 _ x hj
      rw [hq] at e1 e2
      have hd : j / k = (j - k) / k + 1 := by
        have := Nat.add_div_right (j - k) hk
        rw [show j - k + k = j by omega] at this
        exact this
      have hm : j % k = (j - k) % k := by
        have := Nat.add_mod_right (j - k) k
        rwa [show j - k + k = j by omega] at this
      refine ⟨hk, q', ?_, ?_⟩
      · rw [hd]; simpa using e1
      · rw [hm]; exact e2

variable {H : Type} {enc : TypeId × Value → H} {P : Program}

theorem weightsAll_mem {e : TypeId} : ∀ {l : List (DataW H)} {d : DataW H}, d ∈ l → ∀ n, n ∈ d.weights P e → n ∈ DataW.weightsAll P e l
  | d0 :: l, d, hd, n, hn => by
    simp only [DataW.weightsAll, List.mem_append]
    rcases List.mem_cons.1 hd with rfl | hd
    · exact .inl hn
    · exact .inr (weightsAll_mem hd n hn)
theorem trod_sh {w : World} : ∀ (m : Nat) (t : TypeId) (cs : List Value) (fuel : Nat) (x : DataW H × List MemPlace), plainT P m t = true → DataW.trod enc P w 0 (fun _ => true) true fuel t cs = some x → (∀ n, n ∈ x.1.weights P t → n ≤ reachBytes) → ∃ ps, Rds w ps cs ∧ Sh P m t ps := by
  intro m
  induction m with
  | zero => intro t cs fuel x h; simp [plainT] at h
  | succ m ih =>
    intro t cs fuel x hp h hwt
    simp only [plainT] at hp
    simp only [Sh]
    split at hp
    · rename_i k ht
      obtain ⟨z, rfl, -, hw⟩ := DataW.trod_int ht h
      exact ⟨_, .one rfl (.v _ rfl), z, rfl, hw⟩
    · rename_i ht
      obtain ⟨b, rfl, -⟩ := DataW.trod_bool ht h
      exact ⟨_, .one rfl (.v _ rfl), b, rfl⟩
    · rename_i ht
      obtain ⟨s, rfl, hx, hs⟩ := DataW.trod_string ht h
      exact ⟨_, .one rfl (.v _ rfl), s, rfl, hwt _ (by rw [hx]; simp [DataW.weights])⟩
    · rename_i fs ht
      simp only [Bool.and_eq_true, List.all_eq_true] at hp
      obtain ⟨⟨hall, hcon⟩, hsum⟩ := hp
      obtain ⟨xs, n, _, hxx, hl, hlen, hf⟩ := DataW.trod_struct ht h
      have key : ∀ (l : List Field) (o : Nat), contig P o l = true → (∀ f, f ∈ l → plainT P m f.type = true) → (∀ f, f ∈ l → ∃ y, DataW.trod enc P w 0 (fun _ => true) true n f.type ((cs.drop f.offset).take (P.cellsOf f.type)) = some y ∧ ∀ n, n ∈ y.1.weights P f.type → n ≤ reachBytes) →
          o + sumC P l = cs.length → ∃ ps, Rds w ps (cs.drop o) ∧ ShF (Sh P m) l ps := by
        intro l
        induction l with
        | nil =>
          intro o _ _ _ ho
          refine ⟨[], ⟨?_, fun j c hj => by simp at hj⟩, rfl⟩
          simp only [sumC] at ho
          rw [List.drop_eq_nil_of_le (by omega)]; rfl
        | cons f l ihl =>
          intro o hc ha hy ho
          simp only [contig, Bool.and_eq_true] at hc
          simp only [sumC] at ho
          have hfo := Nat.eq_of_beq_eq_true hc.1
          obtain ⟨y, hy0, hyw⟩ := hy f (by simp)
          rw [hfo] at hy0
          obtain ⟨p, hp1, hp2⟩ := ih _ _ _ _ (ha f (by simp)) hy0 hyw
          obtain ⟨q, hq1, hq2⟩ := ihl (o + P.cellsOf f.type) hc.2 (fun g hg => ha g (by simp [hg])) (fun g hg => hy g (by simp [hg])) (by omega)
          refine ⟨p ++ q, ?_, p, q, rfl, hp2, hq2⟩
          have := hp1.app hq1
          rwa [← List.drop_drop, List.take_append_drop] at this
      obtain ⟨ps, h1, h2⟩ := key fs.toList 0 hcon hall (fun f hfm => by
        obtain ⟨i, hi⟩ := List.getElem?_of_mem hfm
        rw [Array.getElem?_toList] at hi
        have := hf i f hi
        have hlt : i < xs.length := by rw [hlen]; exact (Array.getElem?_eq_some_iff.1 hi).1
        rw [List.getElem?_eq_getElem hlt] at this
        refine ⟨_, this, fun k hk => hwt k ?_⟩
        rw [hxx]
        simp only [DataW.weights, ht]
        exact DataW.weights_mem_each (j := i) (t := f.type) (d := xs[i].1) (by simp [hi]) (by simp [hlt]) k hk) (by rw [Nat.eq_of_beq_eq_true hsum, hl]; omega)
      exact ⟨ps, by simpa using h1, h2⟩
    · rename_i e ht
      simp only [Bool.and_eq_true] at hp
      have hk1 := Nat.le_of_ble_eq_true hp.2
      rcases DataW.trod_slice ht h with ⟨rfl, _⟩ | ⟨a, len, cap, elems, rest, n, _, rfl, hxx, hb, hlc, hm, hlen, hel, -, -⟩
      · refine ⟨[.data (P.cellsOf e) 0 []], .one rfl (.nil _ none 0), [], rfl, by simp, fun q hq => by cases hq⟩
      · obtain ⟨l, hll, hq⟩ := choose_list (fun i (q : List PV × List Value) => w.cells? 0 (a.add (i * P.cellsOf e)) (P.cellsOf e) = some q.2 ∧ Rds w q.1 q.2 ∧ Sh P m e q.1) len (fun i hi => by
          have := hel i hi
          have hil : i < elems.length := by omega
          rw [List.getElem?_eq_getElem hil, Option.bind_eq_some_iff] at this
          obtain ⟨c, hc, hy⟩ := this
          obtain ⟨p, hp1, hp2⟩ := ih _ _ _ _ hp.1 hy (fun k hk => hwt k (by
            rw [hxx]
            simp only [DataW.weights, ht, List.mem_cons, List.mem_append]
            exact .inr (.inl (weightsAll_mem (List.mem_map.2 ⟨_, List.getElem_mem hil, rfl⟩) k hk))))
          exact ⟨(p, c), hc, hp1, hp2⟩)
        have hqm : ∀ q, q ∈ l → q.1.length = P.cellsOf e := by
          intro q hm
          obtain ⟨i, hi⟩ := List.getElem?_of_mem hm
          have h1 := hq i q hi
          rw [h1.2.1.len]
          exact (World.cells?_some h1.1).2.1
        obtain ⟨hfl, hfg⟩ := flatC (k := P.cellsOf e) (l.map (·.1)) (fun q hm => by obtain ⟨y, hy, rfl⟩ := List.mem_map.1 hm; exact hqm y hy)
        refine ⟨[.data (P.cellsOf e) (l.map (·.1)).length (l.map (·.1)).flatten], .one rfl ?_, l.map (·.1), rfl, ?_, fun q hm => ?_⟩
        · obtain ⟨gfl, gfg⟩ := flatC (k := P.cellsOf e) (l.map (·.2)) (fun q hm => by
            obtain ⟨y, hy, rfl⟩ := List.mem_map.1 hm
            have := hqm y hy
            obtain ⟨i, hi⟩ := List.getElem?_of_mem hy
            rw [← (hq i y hi).2.1.len]; exact this)
          simp only [List.length_map] at hfl gfl
          rw [List.length_map, hll]
          cases len with
          | zero =>
            have : l = [] := List.eq_nil_of_length_eq_zero hll
            subst this
            exact .nil _ _ _
          | succ len =>
            have hat : ∀ j, j < (len + 1) * P.cellsOf e → ∃ q, l[j / P.cellsOf e]? = some q ∧ j % P.cellsOf e < P.cellsOf e ∧ w.cell? ((a.add (j / P.cellsOf e * P.cellsOf e)).add (j % P.cellsOf e)) = q.2[j % P.cellsOf e]? := by
              intro j hj
              have hi : j / P.cellsOf e < l.length := by rw [hll]; exact Nat.div_lt_of_lt_mul (by rw [Nat.mul_comm]; exact hj)
              have hr := Nat.mod_lt j (show P.cellsOf e > 0 by omega)
              refine ⟨l[j / P.cellsOf e], List.getElem?_eq_getElem hi, hr, ?_⟩
              exact (World.cells?_some (hq _ _ (List.getElem?_eq_getElem hi)).1).2.2 _ hr
            obtain ⟨b, off, spot⟩ := a
            have hsp : spot = none ∧ b < w.heap.size := by
              have hpos : 0 < (len + 1) * P.cellsOf e := Nat.mul_pos (by omega) (by omega)
              obtain ⟨q, hq1, hr, hcl⟩ := hat 0 hpos
              have hql : q.2.length = P.cellsOf e := by rw [← (hq _ _ hq1).2.1.len]; exact hqm q (List.mem_of_getElem? hq1)
              rw [List.getElem?_eq_getElem (by omega)] at hcl
              constructor
              · cases spot with
                | none => rfl
                | some s => simp [World.cell?, Addr.add] at hcl; (repeat' split at hcl) <;> simp at hcl
              · rcases Nat.lt_or_ge b w.heap.size with h1 | h1
                · exact h1
                · cases spot <;> simp [World.cell?, Addr.add, Array.getElem?_eq_none h1] at hcl
            obtain ⟨rfl, hblt⟩ := hsp
            have hfj : ∀ j, j < (len + 1) * P.cellsOf e → ∃ q, l[j / P.cellsOf e]? = some q ∧ ((l.map (·.2)).flatten).getD j undef = q.2.getD (j % P.cellsOf e) undef ∧ j % P.cellsOf e < q.2.length := by
              intro j hj
              have hlt : j < ((l.map (·.2)).flatten).length := by rw [gfl, hll]; exact hj
              obtain ⟨-, q', e1, e2⟩ := gfg j _ (List.getElem?_eq_getElem hlt)
              simp only [List.getElem?_map, Option.map_eq_some_iff] at e1
              obtain ⟨q, hq1, rfl⟩ := e1
              refine ⟨q, hq1, ?_, (List.getElem?_eq_some_iff.1 e2).1⟩
              rw [List.getD_eq_getElem?_getD, List.getD_eq_getElem?_getD, e2, List.getElem?_eq_getElem hlt]
            refine .data _ _ _ b off cap (fun j => ((l.map (·.2)).flatten).getD j undef) (by rw [hfl, hll]) hlc hblt (fun j hj => ?_) (fun j hj => ?_) (fun j c hj => ?_)
            · rw [hfl, hll] at hj
              obtain ⟨q, hq1, hr, hcl⟩ := hat j hj
              obtain ⟨q', hq1', hfe, hlt⟩ := hfj j hj
              rw [hq1] at hq1'; cases hq1'
              rw [addr_add, addr_add, Nat.add_assoc, Nat.div_add_mod' j (P.cellsOf e)] at hcl
              rw [hfe, hcl, List.getD_eq_getElem?_getD, List.getElem?_eq_getElem hlt]; rfl
            · rw [hfl, hll] at hj
              obtain ⟨q, hq1, hfe, hlt⟩ := hfj j hj
              rw [hfe]
              have hR := (hq _ _ hq1).2.1
              exact (hR.rd _ _ (List.getElem?_eq_getElem (by rw [hR.len]; exact hlt))).1
            · have hj' : j < (len + 1) * P.cellsOf e := by have := (List.getElem?_eq_some_iff.1 hj).1; rwa [hfl, hll] at this
              obtain ⟨q, hq1, hfe, hlt⟩ := hfj j hj'
              obtain ⟨-, p, e1, e2⟩ := hfg j c hj
              simp only [List.getElem?_map, Option.map_eq_some_iff] at e1
              obtain ⟨q', hq1', rfl⟩ := e1
              rw [hq1] at hq1'; cases hq1'
              show RdP _ w c (((l.map (·.2)).flatten).getD j undef)
              rw [hfe]
              exact ((hq _ _ hq1).2.1.rd _ _ e2).2
        · have := hwt ((elems.length + rest.length) * P.bytesOf e) (by rw [hxx]; simp [DataW.weights, ht])
          rw [List.length_map, hll]
          exact Nat.le_trans (Nat.mul_le_mul_right _ (by omega)) this
        · obtain ⟨y, hy, rfl⟩ := List.mem_map.1 hm
          obtain ⟨i, hi⟩ := List.getElem?_of_mem hy
          exact (hq i y hi).2.2
    · cases hp

theorem Rds.agg {w : World} {ps : List PV} {us : Array Value} {ρ : IdMap} (h : Rds w ps us.toList) : Rd ρ (fun b => b < w.heap.size) w (.agg (ps.map .p)) (.agg us) := by
  refine .agg _ _ (by simpa using h.len.symm) fun j c hj => ?_
  simp only [List.getElem?_map, Option.map_eq_some_iff] at hj
  obtain ⟨y, hy, rfl⟩ := hj
  have := (h.rd j y hy).2
  rw [show us.toList.getD j undef = us.getD j undef from by simp [List.getD_eq_getElem?_getD]] at this
  exact .p _ _ this
theorem Rds.val {w : World} {c : PV} {v : Value} {ρ : IdMap} (h : Rds w [c] [v]) : Rd ρ (fun b => b < w.heap.size) w (.p c) v := .p _ _ (h.rd 0 c rfl).2

theorem sh_int {n : Nat} {t : TypeId} {k : IntKind} {ps : List PV} (ht : P.underlying t = some (.int k)) (h : Sh P (n + 1) t ps) : ∃ z, ps = [.v (.int k z)] ∧ (Lit.int k z).wf = true := by
  simp only [Sh, ht] at h; exact h
theorem sh_bool {n : Nat} {t : TypeId} {ps : List PV} (ht : P.underlying t = some .bool) (h : Sh P (n + 1) t ps) : ∃ b, ps = [.v (.bool b)] := by
  simp only [Sh, ht] at h; exact h
theorem sh_string {n : Nat} {t : TypeId} {ps : List PV} (ht : P.underlying t = some .string) (h : Sh P (n + 1) t ps) : ∃ s : ByteArray, ps = [.v (.string s)] ∧ s.size ≤ reachBytes := by
  simp only [Sh, ht] at h; exact h
theorem sh_struct {n : Nat} {t : TypeId} {fs : Array Field} {ps : List PV} (ht : P.underlying t = some (.struct fs)) (h : Sh P (n + 1) t ps) : ShF (Sh P n) fs.toList ps := by
  simp only [Sh, ht] at h; exact h
theorem list_of {α β : Type} (f : α → β) (Q : α → Prop) : ∀ l : List β, (∀ q, q ∈ l → ∃ a, q = f a ∧ Q a) → ∃ q : List α, l = q.map f ∧ ∀ a, a ∈ q → Q a
  | [], _ => ⟨[], rfl, fun a h => by cases h⟩
  | q :: l, h => by
    obtain ⟨a, rfl, ha⟩ := h q (by simp)
    obtain ⟨us, rfl, has⟩ := list_of f Q l fun q hq => h q (by simp [hq])
    exact ⟨a :: us, rfl, fun b hb => by rcases List.mem_cons.1 hb with rfl | hb; exact ha; exact has b hb⟩
theorem sh_list {α : Type} (f : α → List PV) (Q : α → Prop) {n : Nat} {t e : TypeId} {ps : List PV} (ht : P.underlying t = some (.slice e)) (hb : Nat.ble 1 (P.bytesOf e) = true) (hf : ∀ q, Sh P n e q → ∃ a, q = f a ∧ Q a) (h : Sh P (n + 1) t ps) :
    ∃ l : List α, ps = [.data (P.cellsOf e) l.length (l.flatMap f)] ∧ l.length ≤ reachBytes ∧ ∀ a, a ∈ l → Q a := by
  simp only [Sh, ht] at h
  obtain ⟨l, rfl, hl, hq⟩ := h
  obtain ⟨us, rfl, has⟩ := list_of f Q l fun q h => hf q (hq q h)
  refine ⟨us, by simp [List.flatMap], ?_, has⟩
  rw [List.length_map] at hl
  exact Nat.le_trans (Nat.le_mul_of_pos_right _ (Nat.le_of_ble_eq_true hb)) hl
theorem sh_bytes {n : Nat} {t e : TypeId} {ps : List PV} (ht : P.underlying t = some (.slice e)) (he : P.underlying e = some (.int .u8)) (hc : P.cellsOf e = 1) (hb : Nat.ble 1 (P.bytesOf e) = true) (h : Sh P (n + 2) t ps) : ∃ bs : List UInt8, ps = [.data 1 bs.length (bs.map bt)] ∧ bs.length ≤ reachBytes := by
  obtain ⟨l, rfl, hl, -⟩ := sh_list (fun b : UInt8 => [bt b]) (fun _ => True) ht hb (fun q hq => by
    obtain ⟨z, rfl, hw⟩ := sh_int he hq
    have hmin : IntKind.u8.min = 0 := rfl
    have hmax : IntKind.u8.max = 255 := rfl
    simp only [Lit.wf, hmin, hmax, Bool.and_eq_true, decide_eq_true_eq] at hw
    refine ⟨UInt8.ofNat z.toNat, ?_, trivial⟩
    simp only [bt, List.cons.injEq, and_true, PV.v.injEq, Value.int.injEq, true_and]
    rw [UInt8.toNat_ofNat']
    omega) h
  refine ⟨l, ?_, hl⟩
  have e : ∀ l : List UInt8, l.flatMap (fun b => [bt b]) = l.map bt := fun l => by
    induction l with
    | nil => rfl
    | cons b l ih => rw [List.flatMap_cons, ih]; rfl
  rw [hc, e]

end Go.Abs
end

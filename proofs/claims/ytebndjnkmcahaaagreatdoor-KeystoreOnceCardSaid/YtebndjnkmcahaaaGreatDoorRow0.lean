/-
  Arguments of a law, opened (the part without types of the program). Own work; no statement of the seat is proved here.
-/
import Derived.Test.YtebndjnkmcahaaaGreatDoorStr
import Derived.Test.YtebndjnkmcahaaaGreatDoorRows
import Derived.WalkKit
import Derived.ProofKit
import Derived.Carry
import Derived.ChangeSame
import Derived.Lib.SmallJoins
namespace Go.Proofs.YtebndjnkmcahaaaGreatDoor
set_option linter.unusedSimpArgs false
set_option linter.unusedVariables false
open Go Go.Abs Go.RowKit Go.WideShapes Go.ChangeShapes

variable {H : Type} {enc : TypeId × Value → H}

def iv (z : Int) : PV := .v (.int .i64 z)

/-- what is read of a slice of integers, as data -/
theorem open_rd {P : Program} {w : World} {t e : TypeId} {k : IntKind} {fuel : Nat} {v : Value} {x : DataW H × List MemPlace} (ht : P.underlying t = some (.slice e)) (he : P.underlying e = some (.int k)) (hc : P.cellsOf e = 1)
    (h : DataW.trod enc P w 0 (fun _ => true) true fuel t [v] = some x) :
    ∃ zs : List Int, zs.length ≤ maxLen ∧ (∀ z ∈ zs, (Lit.int k z).wf = true) ∧ RdP (fun b => b < w.heap.size) w (.data 1 zs.length (zs.map fun z => .v (.int k z))) v := by
  rcases open_ints ht he hc h with ⟨h0, _⟩ | ⟨a, len, cap, zs, h0, hb, hl, hm, hzl, _, hcell, hwf⟩
  · simp only [List.cons.injEq, and_true] at h0
    subst h0
    exact ⟨[], Nat.zero_le _, by simp, .nil 1 none 0⟩
  · simp only [List.cons.injEq, and_true] at h0
    subst h0
    simp only [if_true] at hzl
    refine ⟨zs.take len, by simp; omega, fun z hz => hwf z (List.mem_of_mem_take hz), ?_⟩
    have hlt : (zs.take len).length = len := by simp; omega
    rw [hlt]
    cases len with
    | zero =>
      simp only [List.take_zero, List.map_nil]
      exact .nil 1 _ _
    | succ len =>
      obtain ⟨b, off, spot⟩ := a
      have h0 := hcell 0 (by omega)
      have hsp : spot = none := by
        cases spot with
        | none => rfl
        | some s => simp [World.cell?, Addr.add] at h0; split at h0 <;> simp at h0
      subst hsp
      have hblt : b < w.heap.size := by
        rcases Nat.lt_or_ge b w.heap.size with h1 | h1
        · exact h1
        · simp [World.cell?, Addr.add, Array.getElem?_eq_none h1] at h0
      refine .data 1 (len + 1) _ b off cap (fun j => .int k (zs.getD j 0)) (by simp; omega) hl hblt (fun j hj => ?_) (fun j _ => rfl) (fun j c hj => ?_)
      · have hj' : j < zs.length := by simp at hj; omega
        have := hcell j hj'
        rw [addr_add] at this
        exact this
      · simp only [List.getElem?_map, Option.map_eq_some_iff] at hj
        obtain ⟨y, hy, rfl⟩ := hj
        rw [List.getElem?_take] at hy
        split at hy
        · have : zs.getD j 0 = y := by rw [List.getD_eq_getElem?_getD, hy]; rfl
          rw [this]
          exact .v _ rfl
        · cases hy

theorem bytes_of (zs : List Int) (h : ∀ z ∈ zs, (Lit.int .u8 z).wf = true) : ∃ bs : List UInt8, bs.length = zs.length ∧ (zs.map fun z => PV.v (.int .u8 z)) = bs.map bt := by
  refine ⟨zs.map fun z => UInt8.ofNat z.toNat, by simp, ?_⟩
  rw [List.map_map]
  refine List.map_congr_left fun z hz => ?_
  have := h z hz
  have hmin : IntKind.u8.min = 0 := rfl
  have hmax : IntKind.u8.max = 255 := rfl
  simp only [Lit.wf, hmin, hmax, Bool.and_eq_true, decide_eq_true_eq] at this
  simp only [Function.comp, bt]
  congr 2
  rw [UInt8.toNat_ofNat']
  omega

theorem rd_bytes {P : Program} {w : World} {t e : TypeId} {fuel : Nat} {v : Value} {x : DataW H × List MemPlace} (ht : P.underlying t = some (.slice e)) (he : P.underlying e = some (.int .u8)) (hc : P.cellsOf e = 1)
    (h : DataW.trod enc P w 0 (fun _ => true) true fuel t [v] = some x) :
    ∃ bs : List UInt8, bs.length ≤ maxLen ∧ RdP (fun b => b < w.heap.size) w (.data 1 bs.length (bs.map bt)) v := by
  obtain ⟨zs, h1, h2, h3⟩ := open_rd ht he hc h
  obtain ⟨bs, hl, hm⟩ := bytes_of zs h2
  rw [hm, ← hl] at h3
  exact ⟨bs, by omega, h3⟩

theorem own : ownKnob Tryz.prog.godebug = none := by kernel_rfl
theorem laid : laidOutB Tryz.prog = true := by kernel_rfl
theorem cells_byte : Tryz.prog.cellsOf 5 = 1 := by kernel_rfl
theorem cells_int : Tryz.prog.cellsOf 3 = 1 := by kernel_rfl

theorem u16_wf {z : Int} (h : (Lit.int .u16 z).wf = true) : 0 ≤ z ∧ z ≤ 65535 := by
  have hmin : IntKind.u16.min = 0 := rfl
  have hmax : IntKind.u16.max = 65535 := rfl
  simpa only [Lit.wf, hmin, hmax, Bool.and_eq_true, decide_eq_true_eq] using h
theorem len2 {l : List Value} (h : l.length = 2) : ∃ a b, l = [a, b] := by
  match l, h with
  | [a, b], _ => exact ⟨a, b, rfl⟩
theorem len6 {l : List Value} (h : l.length = 6) : ∃ a b c d e f, l = [a, b, c, d, e, f] := by
  match l, h with
  | [a, b, c, d, e, f], _ => exact ⟨a, b, c, d, e, f, rfl⟩

theorem trodAll_stays {W W' : World} (hb : Below W.heap.size W W') : ∀ {ts : List TypeId} {vs : List Value} {ds : List (DataW H)} {ps : List MemPlace}, (∀ t, t ∈ ts → Tryz.prog.readableRec t = true ∧ t < Tryz.prog.types.size) →
    DataW.TrodAll enc Tryz.prog W 0 (fun _ => true) true ts vs ds ps → (∀ x ∈ ps, x.block < W.heap.size) → ∀ sp : Nat → Bool, (∀ x ∈ ps, sp x.block = true) → DataW.TrodAll enc Tryz.prog W' 0 sp true ts vs ds ps
  | [], vs, ds, ps, _, h, _, sp, _ => by
    obtain ⟨rfl, rfl, rfl⟩ := trodAll_nil h
    exact trodAll_mk0
  | t :: ts, vs, ds, ps, hts, h, hlt, sp, hsp => by
    obtain ⟨v, vs', d, ds', p, q, rfl, rfl, rfl, h0, r0⟩ := trodAll_cons h
    have hr := hts t (by simp)
    exact trodAll_cons_mk (WideElems.Trod_stays laid hr.1 hr.2 h0 (fun x hx => hb.same (hlt x (by simp [hx]))) (fun x hx => hsp x (by simp [hx])))
      (trodAll_stays hb (fun t ht => hts t (by simp [ht])) r0 (fun x hx => hlt x (by simp [hx])) sp (fun x hx => hsp x (by simp [hx])))

theorem post_of_below {f : Func} {s : ChangeSpec} {apart fresh handsOn again : Bool} {P : Program} {W W' : World} {args : Array Value} {v : Value} {ds gs : List (DataW H)} {before pa pv : List MemPlace}
    (hW : DataW.Whole enc P f.params.toList s.vars apart W args.toList ds gs before)
    (hres : ∀ (b : Nat) (sp : Nat → Bool) (hd : Bool), DataW.TrodAll enc P W' b sp hd f.resultTypes.toList (v.resultList f.resultTypes.size) (s.fn H (ds ++ gs)).results [])
    (hargs : ∀ sp : Nat → Bool, (∀ p ∈ before, sp p.block = true) → DataW.TrodAll enc P W' 0 sp true f.params.toList args.toList (s.fn H (ds ++ gs)).args pa)
    (hvars : ∀ sp : Nat → Bool, (∀ p ∈ before, sp p.block = true) → DataW.TrodVars enc P W' sp s.vars (s.fn H (ds ++ gs)).vars pv)
    (hps : before = pa ++ pv) (hb : Below W.heap.size W W')
    (hok : ∀ (j : Nat) (t : TypeId) (r : Value), f.resultTypes[j]? = some t → (v.resultList f.resultTypes.size)[j]? = some r → Value.okWide P W' .any 0 t r) :
    s.post enc P f apart fresh handsOn again W args v W' := by
  have hlt : ∀ p ∈ before, p.block < W.heap.size := fun p hp => hW.lt p hp
  have hold : ∀ p ∈ before, (fun b => decide (b < W.heap.size)) p.block = true := fun p hp => by simpa using hlt p hp
  refine ⟨ds, gs, before, [], pa, pv, hW, hres _ _ _, hargs _ hold, hvars _ hold, World.keptBut_mono (fun p hp => ⟨hp, ?_⟩) (hb.frame (· ∈ before)), fun _ => ?_⟩
  · rw [hps, List.mem_append] at hp
    exact Or.inr hp
  · obtain ⟨_, _, _, _, _, hz, hn⟩ := hW
    refine ⟨hok, _, _, ([] ++ pa) ++ pv, ⟨[] ++ pa, pv, trodAll_append (hargs _ (fun _ _ => rfl)) (hres _ _ _), hvars _ (fun _ _ => rfl), rfl, ?_, ?_⟩, ?_⟩
    · intro b off hp
      have hin : MemPlace.cell b off ∈ before := by rw [hps]; simpa using hp
      rw [hb.frozen (hlt _ hin)]
      exact hz b off hin
    · intro ha
      have := hn ha
      rw [hps] at this
      simpa using this
    · intro p hp _
      rw [hps]
      simpa using hp

theorem glob_none {F : FSet} {w : World} (h : ∀ g, globT g = none) : GlobOk F w := fun g cs hg => by rw [h g] at hg; cases hg
theorem calls_law {P : Program} {f : FuncId} {vs : List AV} (h : FPure P f vs (.b true)) (he : ∀ us w, (callFunc f us).run P w = .ok (.enter f us) w) {us : Array Value} {w : World} (hg : GlobOk (fun b => b < w.heap.size) w) (hz : us.size = vs.length) (hr : ∀ j c, vs[j]? = some c → Rd (fun _ => none) (fun b => b < w.heap.size) w c (us.getD j undef)) :
    Calls P f us w (fun e w' => e = .returned (.bool true) ∧ Below w.heap.size w w') := by
  refine ((h (fun _ => none)).calls he (ρ := fun _ => none) (F := fun b => b < w.heap.size) ⟨fun b hb => hb, ⟨fun i k hk => by simp [restr] at hk, fun i j b hi => by simp [restr] at hi⟩, fun i _ _ => rfl, hg⟩ hz hr).mono ?_
  rintro e w' ⟨x, ρ', F', rfl, hp⟩
  refine ⟨by rw [hp.rd.pv], ?_⟩
  exact (hp.chg.mono (O' := fun _ => False) (fun b hb => by obtain ⟨i, hi, _⟩ := hb; simp [keys] at hi)).below

end Go.Proofs.YtebndjnkmcahaaaGreatDoor

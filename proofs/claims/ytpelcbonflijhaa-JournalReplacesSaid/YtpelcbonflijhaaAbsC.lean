/-
  What an operation's triple says, states over memory, one operation after another. Own work; no statement of the seat is proved here.
-/
import Derived.Test.YtpelcbonflijhaaAbsB
namespace Go.Abs
set_option linter.unusedSimpArgs false
set_option linter.unusedVariables false
open Go Go.RowKit

def keys (u : List (Nat × Option Blk)) : List Nat := u.map (·.1)
def updH (u : List (Nat × Option Blk)) (h : Heap) : Heap := fun i => if i ∈ keys u then hget u i else h i
def restr (T : List Nat) (h : Heap) : Heap := fun i => if i ∈ T then h i else none
def OSet (ρ : IdMap) (ids : List Nat) : FSet := fun b => ∃ i, i ∈ ids ∧ ρ i = some b

theorem beq_no {k i : Nat} (h : ¬ k = i) : Nat.beq k i = false := by
  cases hb : Nat.beq k i with
  | false => rfl
  | true => exact absurd (Nat.eq_of_beq_eq_true hb) h

theorem hget_append (u hp : List (Nat × Option Blk)) : hget (u ++ hp) = updH u (hget hp) := by
  funext i
  induction u with
  | nil => simp [updH, keys]
  | cons x r ih =>
    obtain ⟨k, v⟩ := x
    by_cases hk : k = i
    · subst hk; simp [hget, updH, keys]
    · have hb : Nat.beq k i = false := beq_no hk
      have hk' : ¬ i = k := fun h => hk h.symm
      simp only [List.cons_append, hget, hb, ih]
      simp only [updH, keys, List.map_cons, List.mem_cons, hk', false_or, hget, hb]
      rfl

structure Post (ρ : IdMap) (F : FSet) (w : World) (T : List Nat) (u : List (Nat × Option Blk)) (h : Heap) (v : AV) (x : Value) (ρ' : IdMap) (F' : FSet) (w' : World) : Prop where
  rho : ∀ i b, ρ i = some b → ρ' i = some b
  new : ∀ i, ρ i = none → ρ' i ≠ none → i ∈ keys u
  blk : ∀ i b, ρ i = none → ρ' i = some b → w.heap.size ≤ b ∨ OSet ρ (keys u) b
  rd : Rd ρ' F' w' v x
  hp : HpOk ρ' F' w' (restr (T ++ keys u) (updH u h))
  fok : FOk F' w'
  chg : Chg (OSet ρ (keys u)) F F' w w'

structure Pre (ρ : IdMap) (F : FSet) (w : World) (T : List Nat) (u : List (Nat × Option Blk)) (h : Heap) : Prop where
  fok : FOk F w
  hp : HpOk ρ F w (restr T h)
  fresh : ∀ i, i ∈ keys u → i ∉ T → ρ i = none

def OpT (P : Program) (o : Oper) (st : AS) (v : AV) (T : List Nat) (u : List (Nat × Option Blk)) : Prop :=
  ∀ (ρ : IdMap) (F : FSet) (a : Act) (w : World), Pre ρ F w T u (hget st.hp) → (∀ x, x ∈ o.op.operands.toList → Rd ρ F w (ev st x) (a.eval x)) →
    ∀ (K : Act → World → Prop) (Q : Exit → Act → World → Prop),
      (∀ x ρ' F' w', Post ρ F w T u (hget st.hp) v x ρ' F' w' → K (a.put o.dst x) w') → o.wp P a w K Q

structure OpOk (P : Program) (o : Oper) (st : AS) (v : AV) (T : List Nat) (u : List (Nat × Option Blk)) (nx : Nat) : Prop where
  tri : OpT P o st v T u
  le : st.nx ≤ nx
  keysOk : ∀ i, i ∈ keys u → i ∈ T ∨ (st.nx ≤ i ∧ i < nx)
  live : ∀ i, i ∈ T → hget st.hp i ≠ none

/-- what a whole call is about -/
structure Ctx where
  P : Program
  fn : Func
  R : Ending → World → Prop
  w0 : World
  F0 : FSet
  O : FSet
  ρ0 : IdMap

structure Conc (c : Ctx) (ρ : IdMap) (F : FSet) (st : AS) (a : Act) (w : World) : Prop where
  defers : a.defers = []
  size : a.tmps.size = st.n
  slots : ∀ s, Rd ρ F w (lk st.sl s) (a.tmps.getD s undef)
  heap : HpOk ρ F w (hget st.hp)
  fresh : ∀ i, st.nx ≤ i → ρ i = none
  fok : FOk F w
  chg : Chg c.O c.F0 F c.w0 w
  dom : ∀ i, hget st.hp i ≠ none → i < st.nx
  own : ∀ i b, hget st.hp i ≠ none → ρ i = some b → c.w0.heap.size ≤ b ∨ c.O b
  keep : ∀ i b, c.ρ0 i = some b → ρ i = some b

def put (st : AS) (d : Option Nat) (v : AV) : AS :=
  match d with
  | some d => match Nat.blt d st.n with
    | true => ⟨st.n, (d, v) :: st.sl, st.hp, st.nx⟩
    | false => st
  | none => st

def eff (st : AS) (d : Option Nat) (v : AV) (u : List (Nat × Option Blk)) (nx : Nat) : AS :=
  put ⟨st.n, st.sl, u ++ st.hp, nx⟩ d v

theorem restr_some {T : List Nat} {h : Heap} {i : Nat} {k : Blk} (hh : restr T h i = some k) : i ∈ T ∧ h i = some k := by
  unfold restr at hh
  split at hh
  · exact ⟨‹_›, hh⟩
  · cases hh

theorem HpOk.restr {ρ : IdMap} {F : FSet} {w : World} {h : Heap} (hh : HpOk ρ F w h) (T : List Nat) : HpOk ρ F w (restr T h) where
  ok i k hi := hh.ok i k (restr_some hi).2
  inj i j b hi hj h1 h2 := hh.inj i j b
    (by intro e; apply hi; unfold Abs.restr; split <;> simp [e]) (by intro e; apply hj; unfold Abs.restr; split <;> simp [e]) h1 h2

theorem Pre.notF {ρ : IdMap} {F : FSet} {w : World} {T : List Nat} {u : List (Nat × Option Blk)} {h : Heap} (hp : Pre ρ F w T u h) (live : ∀ i, i ∈ T → h i ≠ none)
    {b : Nat} (hO : OSet ρ (keys u) b) : ¬ F b := by
  obtain ⟨i, hi, hb⟩ := hO
  have hT : i ∈ T := by
    by_cases hT : i ∈ T
    · exact hT
    · have := hp.fresh i hi hT; rw [this] at hb; cases hb
  obtain ⟨k, hk⟩ := Option.ne_none_iff_exists'.1 (live i hT)
  rcases hp.hp.ok i k (by simp [restr, hT, hk]) with ⟨_, h0⟩ | ⟨b', hb', ho⟩
  · rw [h0] at hb; cases hb
  · rw [hb] at hb'; cases hb'; exact ho.own

theorem Post.keep {ρ : IdMap} {F : FSet} {w : World} {T : List Nat} {u : List (Nat × Option Blk)} {h : Heap} {v : AV} {x : Value} {ρ' : IdMap} {F' : FSet} {w' : World}
    (hpre : Pre ρ F w T u h) (live : ∀ i, i ∈ T → h i ≠ none) (hp : Post ρ F w T u h v x ρ' F' w') {y : AV} {z : Value} (hr : Rd ρ F w y z) : Rd ρ' F' w' y z :=
  hr.mono hp.rho hp.chg.sub (fun b hb => hp.chg.same b (hpre.fok b hb) (fun hO => hpre.notF live hO hb)) hp.chg.cells

/-- the frame: the blocks that an operation does not touch stay as they are -/
theorem Post.frame {ρ : IdMap} {F : FSet} {w : World} {T : List Nat} {u : List (Nat × Option Blk)} {h : Heap} {v : AV} {x : Value} {ρ' : IdMap} {F' : FSet} {w' : World}
    (hH : HpOk ρ F w h) (hlt : FOk F w) (hfr : ∀ i, i ∈ keys u → i ∉ T → ρ i = none) (live : ∀ i, i ∈ T → h i ≠ none) (hp : Post ρ F w T u h v x ρ' F' w') :
    HpOk ρ' F' w' (updH u h) := by
  have hpre : Pre ρ F w T u h := ⟨hlt, hH.restr T, hfr⟩
  have hin : ∀ i, i ∈ T ++ keys u → restr (T ++ keys u) (updH u h) i = updH u h i := fun i hi => by simp only [restr, if_pos hi]
  have hout : ∀ i, i ∉ T ++ keys u → updH u h i = h i := fun i hi => by
    have : i ∉ keys u := fun hk => hi (List.mem_append_right _ hk)
    simp only [updH, if_neg this]
  -- a framed block's number is not among those that are written
  have hfar : ∀ i b, i ∉ T ++ keys u → h i ≠ none → ρ i = some b → ¬ OSet ρ (keys u) b ∧ b < w.heap.size := by
    intro i b hi hn hb
    refine ⟨?_, ?_⟩
    · rintro ⟨j, hj, hjb⟩
      have hjT : j ∈ T := by
        by_cases hT : j ∈ T
        · exact hT
        · rw [hfr j hj hT] at hjb; cases hjb
      have := hH.inj i j b hn (live j hjT) hb hjb
      subst this
      exact hi (List.mem_append_left _ hjT)
    · obtain ⟨k, hk⟩ := Option.ne_none_iff_exists'.1 hn
      rcases hH.ok i k hk with ⟨_, h0⟩ | ⟨b', hb', ho⟩
      · rw [h0] at hb; cases hb
      · rw [hb] at hb'; cases hb'
        obtain ⟨arr, ha, _⟩ := ho.is
        exact (Array.getElem?_eq_some_iff.1 ha).1
  have hrho : ∀ i, i ∉ T ++ keys u → ρ' i = ρ i := by
    intro i hi
    cases hr : ρ i with
    | some b => exact hp.rho i b hr
    | none =>
      cases hr' : ρ' i with
      | none => rfl
      | some b => exact absurd (List.mem_append_right T (hp.new i hr (by rw [hr']; simp))) hi
  refine ⟨fun i k hk => ?_, fun i j b hi hj hib hjb => ?_⟩
  · by_cases hi : i ∈ T ++ keys u
    · exact hp.hp.ok i k (by rw [hin i hi]; exact hk)
    · rw [hout i hi] at hk
      rcases hH.ok i k hk with ⟨h1, h0⟩ | ⟨b, hb, ho⟩
      · exact .inl ⟨h1, by rw [hrho i hi, h0]⟩
      · refine .inr ⟨b, hp.rho _ _ hb, ?_⟩
        obtain ⟨hO, hbs⟩ := hfar i b hi (by rw [hk]; simp) hb
        refine ⟨fun hF' => ?_, ?_⟩
        · rcases hp.chg.new b hF' with h1 | h1 | h1
          · exact ho.own h1
          · omega
          · exact hO h1
        · obtain ⟨arr, ha, hl, hc⟩ := ho.is
          exact ⟨arr, (hp.chg.same b hbs hO).trans ha, hl, fun j c hj => ⟨(hc j c hj).1, Post.keep hpre live hp (hc j c hj).2⟩⟩
  · by_cases hiT : i ∈ T ++ keys u <;> by_cases hjT : j ∈ T ++ keys u
    · exact hp.hp.inj i j b (by rw [hin i hiT]; exact hi) (by rw [hin j hjT]; exact hj) hib hjb
    · -- j framed, i touched
      rw [hout j hjT] at hj
      rw [hrho j hjT] at hjb
      obtain ⟨hO, hbs⟩ := hfar j b hjT hj hjb
      cases hr : ρ i with
      | some b' =>
        have := hp.rho i b' hr
        rw [hib] at this; cases this
        by_cases hik : i ∈ keys u
        · exact absurd ⟨i, hik, hr⟩ hO
        · have hiT' : i ∈ T := by rcases List.mem_append.1 hiT with h1 | h1; exact h1; exact absurd h1 hik
          exact hH.inj i j b (live i hiT') hj hr hjb
      | none =>
        rcases hp.blk i b hr hib with h1 | h1
        · omega
        · exact absurd h1 hO
    · rw [hout i hiT] at hi
      rw [hrho i hiT] at hib
      obtain ⟨hO, hbs⟩ := hfar i b hiT hi hib
      cases hr : ρ j with
      | some b' =>
        have := hp.rho j b' hr
        rw [hjb] at this; cases this
        by_cases hjk : j ∈ keys u
        · exact absurd ⟨j, hjk, hr⟩ hO
        · have hjT' : j ∈ T := by rcases List.mem_append.1 hjT with h1 | h1; exact h1; exact absurd h1 hjk
          exact hH.inj i j b hi (live j hjT') hib hr
      | none =>
        rcases hp.blk j b hr hjb with h1 | h1
        · omega
        · exact absurd h1 hO
    · rw [hout i hiT] at hi
      rw [hout j hjT] at hj
      rw [hrho i hiT] at hib
      rw [hrho j hjT] at hjb
      exact hH.inj i j b hi hj hib hjb

theorem Conc.ev {c : Ctx} {ρ : IdMap} {F : FSet} {st : AS} {a : Act} {w : World} (h : Conc c ρ F st a w) (x : Operand) :
    Rd ρ F w (ev st x) (a.eval x) := by
  cases x with
  | tmp t =>
    simp only [Abs.ev, Act.eval]
    exact h.slots t
  | const v =>
    simp only [Abs.ev, Act.eval]
    cases v with
    | agg cs =>
      cases hc : constOk (.agg cs) with
      | false => exact .any _
      | true =>
        simp only [ofConst]
        refine .agg _ _ (by simp) (fun j x hj => ?_)
        simp only [List.getElem?_map, Option.map_eq_some_iff] at hj
        obtain ⟨y, hy, rfl⟩ := hj
        have hy' : cs[j]? = some y := by simpa using hy
        have : cs.getD j undef = y := by simp [Array.getD_eq_getD_getElem?, hy']
        rw [this]
        refine .p _ _ (.v _ ?_)
        simp only [constOk, List.all_eq_true] at hc
        exact hc y (List.mem_of_getElem? hy)
    | tuple vs => simp only [constOk, ofConst]; exact .any _
    | _ => simp only [constOk, ofConst]; exact .p _ _ (.v _ rfl)
  | global g => exact .any _
  | func f => exact .p _ _ (.v _ rfl)

theorem lk_cons (k : Nat) (v : AV) (r : List (Nat × AV)) (n : Nat) : lk ((k, v) :: r) n = if k = n then v else lk r n := by
  show (match Nat.beq k n with | true => v | false => lk r n) = _
  by_cases h : k = n
  · subst h; simp
  · rw [beq_no h, if_neg h]

theorem step_ok {P : Program} {o : Oper} {st : AS} {v : AV} {T : List Nat} {u : List (Nat × Option Blk)} {nx : Nat} (ho : OpOk P o st v T u nx)
    {c : Ctx} {ρ : IdMap} {F : FSet} {a : Act} {w : World} (h : Conc c ρ F st a w) (K : Act → World → Prop) (Q : Exit → Act → World → Prop)
    (hK : ∀ ρ' F' a' w', Conc c ρ' F' (eff st o.dst v u nx) a' w' → K a' w') : o.wp P a w K Q := by
  have hfr : ∀ i, i ∈ keys u → i ∉ T → ρ i = none := fun i hi hT => h.fresh i (by rcases ho.keysOk i hi with h1 | h1; exact absurd h1 hT; exact h1.1)
  have hpre : Pre ρ F w T u (hget st.hp) := ⟨h.fok, h.heap.restr T, hfr⟩
  refine ho.tri ρ F a w hpre (fun x _ => h.ev x) K Q (fun x ρ' F' w' hp => hK ρ' F' _ w' ?_)
  have hheap := Post.frame h.heap h.fok hfr ho.live hp
  have hO : ∀ b, OSet ρ (keys u) b → c.O b ∨ c.w0.heap.size ≤ b := by
    rintro b ⟨i, hi, hb⟩
    have hT : i ∈ T := by
      by_cases hT : i ∈ T
      · exact hT
      · rw [hfr i hi hT] at hb; cases hb
    rcases h.own i b (ho.live i hT) hb with h1 | h1
    · exact .inr h1
    · exact .inl h1
  have hsl : ∀ (d : Option Nat) (s : Nat), Rd ρ' F' w' (lk (eff st d v u nx).sl s) ((a.put d x).tmps.getD s undef) := by
    intro d s
    have hold := Post.keep hpre ho.live hp (h.slots s)
    cases d with
    | none => exact hold
    | some d =>
      simp only [eff, put, Act.put]
      cases hdn : Nat.blt d st.n with
      | false =>
        have hge : a.tmps.size ≤ d := by
          rw [h.size]
          rcases Nat.lt_or_ge d st.n with h1 | h1
          · have : Nat.blt d st.n = true := by simpa [Nat.blt_eq] using h1
            rw [hdn] at this; cases this
          · exact h1
        simp only [Array.setIfInBounds_eq_of_size_le hge]
        exact hold
      | true =>
        have hlt : d < st.n := by simpa [Nat.blt_eq] using hdn
        simp only [lk_cons]
        by_cases hd : d = s
        · subst hd
          have : d < a.tmps.size := by rw [h.size]; exact hlt
          simp [Array.getD_eq_getD_getElem?, this]
          exact hp.rd
        · simp only [if_neg hd]
          simpa [Array.getD_eq_getD_getElem?, Array.getElem?_setIfInBounds_ne hd] using hold
  have e1 : (eff st o.dst v u nx).n = st.n := by unfold eff put; cases o.dst with | none => rfl | some d => dsimp only; cases Nat.blt d st.n <;> rfl
  have e2 : (eff st o.dst v u nx).hp = u ++ st.hp := by unfold eff put; cases o.dst with | none => rfl | some d => dsimp only; cases Nat.blt d st.n <;> rfl
  have e3 : (eff st o.dst v u nx).nx = nx := by unfold eff put; cases o.dst with | none => rfl | some d => dsimp only; cases Nat.blt d st.n <;> rfl
  refine ⟨?_, ?_, ?_, ?_, ?_, hp.fok, h.chg.trans hp.chg hO, ?_, ?_, fun i b hb => hp.rho i b (h.keep i b hb)⟩
  · cases hd : o.dst <;> simp [Act.put, h.defers]
  · rw [e1, ← h.size]; cases hd : o.dst <;> simp [Act.put]
  · intro s; exact hsl o.dst s
  · rw [e2, hget_append]; exact hheap
  · intro i hi
    rw [e3] at hi
    have h0 := h.fresh i (Nat.le_trans ho.le hi)
    cases hr : ρ' i with
    | none => rfl
    | some b =>
      have hk := hp.new i h0 (by rw [hr]; simp)
      rcases ho.keysOk i hk with h1 | h1
      · have := h.dom i (ho.live i h1)
        have := ho.le
        omega
      · omega
  · intro i hi
    rw [e2, hget_append] at hi
    rw [e3]
    by_cases hk : i ∈ keys u
    · rcases ho.keysOk i hk with h1 | h1
      · exact Nat.lt_of_lt_of_le (h.dom i (ho.live i h1)) ho.le
      · exact h1.2
    · simp only [updH, if_neg hk] at hi
      exact Nat.lt_of_lt_of_le (h.dom i hi) ho.le
  · intro i b hi hb
    rw [e2, hget_append] at hi
    cases hr : ρ i with
    | some b' =>
      have := hp.rho i b' hr
      rw [hb] at this; cases this
      by_cases hn : hget st.hp i = none
      · -- an id that was dead is alive again: it is among the keys
        have hk : i ∈ keys u := by
          by_cases hk : i ∈ keys u
          · exact hk
          · exact absurd (by simp only [updH, if_neg hk]; exact hn) hi
        rcases ho.keysOk i hk with h1 | h1
        · exact absurd hn (ho.live i h1)
        · rw [h.fresh i h1.1] at hr; cases hr
      · exact h.own i b hn hr
    | none =>
      rcases hp.blk i b hr hb with h1 | h1
      · exact .inl (Nat.le_trans h.chg.size h1)
      · rcases hO b h1 with h2 | h2
        · exact .inr h2
        · exact .inl h2

end Go.Abs

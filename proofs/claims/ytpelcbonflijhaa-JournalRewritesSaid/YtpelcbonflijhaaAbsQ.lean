/-
  A region that draws its order: the walk in the order of the text serves for every order. Own work; no statement of the seat is proved here.
-/
import Derived.Test.YtpelcbonflijhaaAbsP
namespace Go.Abs
set_option linter.unusedSimpArgs false
set_option linter.unusedVariables false
open Go Go.RowKit
variable {P : Program}

/-- a state as functions -/
structure FS where
  n : Nat
  sl : Nat → AV
  hp : Heap
  al : Nat → Prop

def AS.fs (st : AS) : FS := ⟨st.n, lk st.sl, hget st.hp, fun i => i < st.nx⟩

def evF (fs : FS) : Operand → AV
  | .tmp t => fs.sl t
  | .const v => match constOk v with | true => ofConst v | false => .any
  | .func f => .p (.v (.func (.func f) #[] #[]))
  | .global _ => .any

theorem evF_fs (st : AS) (x : Operand) : evF st.fs x = ev st x := by cases x <;> rfl

structure ConcF (c : Ctx) (ρ : IdMap) (F : FSet) (fs : FS) (a : Act) (w : World) : Prop where
  defers : a.defers = []
  size : a.tmps.size = fs.n
  slots : ∀ s, Rd ρ F w (fs.sl s) (a.tmps.getD s undef)
  heap : HpOk ρ F w fs.hp
  fresh : ∀ i, ¬ fs.al i → ρ i = none
  fok : FOk F w
  chg : Chg c.O c.F0 F c.w0 w
  dom : ∀ i, fs.hp i ≠ none → fs.al i
  own : ∀ i b, fs.hp i ≠ none → ρ i = some b → c.w0.heap.size ≤ b ∨ c.O b
  keep : ∀ i b, c.ρ0 i = some b → ρ i = some b

theorem Conc.toF {c : Ctx} {ρ : IdMap} {F : FSet} {st : AS} {a : Act} {w : World} (h : Conc c ρ F st a w) : ConcF c ρ F st.fs a w :=
  ⟨h.defers, h.size, h.slots, h.heap, fun i hi => h.fresh i (by simpa [AS.fs] using hi), h.fok, h.chg, h.dom, h.own, h.keep⟩
theorem ConcF.ofF {c : Ctx} {ρ : IdMap} {F : FSet} {st : AS} {a : Act} {w : World} (h : ConcF c ρ F st.fs a w) : Conc c ρ F st a w :=
  ⟨h.defers, h.size, h.slots, h.heap, fun i hi => h.fresh i (by simpa [AS.fs] using hi), h.fok, h.chg, h.dom, h.own, h.keep⟩

def putF (fs : FS) (d : Option Nat) (v : AV) : FS :=
  { fs with sl := fun s => match d with
      | some d => if d = s ∧ d < fs.n then v else fs.sl s
      | none => fs.sl s }
def effF (fs : FS) (d : Option Nat) (v : AV) (u : List (Nat × Option Blk)) : FS :=
  putF ⟨fs.n, fs.sl, updH u fs.hp, fun i => fs.al i ∨ i ∈ keys u⟩ d v

inductive Stp where
  | run (v : AV) (T : List Nat) (u : List (Nat × Option Blk))
  | skip

def appF (o : Oper) (fs : FS) : Stp → FS
  | .run v _ u => effF fs o.dst v u
  | .skip => putF fs o.dst .any

def Stp.T : Stp → List Nat
  | .run _ T _ => T
  | .skip => []
def Stp.K : Stp → List Nat
  | .run _ _ u => keys u
  | .skip => []

def wantF (all : Array Oper) (o : Oper) (fs : FS) (b : Bool) : Prop :=
  match o.guard with
  | none => b = true
  | some (j, want) => ∃ d g, (all[j]?).bind (·.dst) = some d ∧ fs.sl d = .b g ∧ b = decide (g = want)

def OpF (P : Program) (o : Oper) (fs : FS) (v : AV) (T : List Nat) (u : List (Nat × Option Blk)) : Prop :=
  ∀ (ρ : IdMap) (F : FSet) (a : Act) (w : World), Pre ρ F w T u fs.hp → (∀ x, x ∈ o.op.operands.toList → Rd ρ F w (evF fs x) (a.eval x)) →
    ∀ (K : Act → World → Prop) (Q : Exit → Act → World → Prop), (∀ x ρ' F' w', Post ρ F w T u fs.hp v x ρ' F' w' → K (a.put o.dst x) w') → o.wp P a w K Q

def StpOk (P : Program) (all : Array Oper) (o : Oper) (fs : FS) : Stp → Prop
  | .run v T u => wantF all o fs true ∧ OpF P o fs v T u ∧ (∀ i, i ∈ keys u → i ∈ T ∨ ¬ fs.al i) ∧ (∀ i, i ∈ T → fs.hp i ≠ none)
  | .skip => wantF all o fs false

def RunF (P : Program) (all : Array Oper) : List (Nat × Oper × Stp) → FS → FS → Prop
  | [], fs, fe => fs = fe
  | (_, o, s) :: L, fs, fe => StpOk P all o fs s ∧ RunF P all L (appF o fs s) fe

structure Indep (all : Array Oper) (o o' : Oper) (s s' : Stp) : Prop where
  ap : o.apart all o' = true
  k1 : ∀ i, i ∈ s.K → i ∉ s'.T ∧ i ∉ s'.K
  k2 : ∀ i, i ∈ s'.K → i ∉ s.T

theorem evF_put {fs : FS} {d : Option Nat} {v : AV} {x : Operand} (h : ∀ e, d = some e → x ≠ .tmp e) : evF (putF fs d v) x = evF fs x := by
  cases x with
  | tmp t =>
    simp only [evF, putF]
    cases d with
    | none => rfl
    | some e =>
      have : ¬ e = t := fun he => h e rfl (he ▸ rfl)
      simp [this]
  | _ => rfl

theorem app_sl (o : Oper) (fs : FS) (s : Stp) : ∃ v, ∀ t, (appF o fs s).sl t = (putF fs o.dst v).sl t := by
  cases s with
  | run v T u => exact ⟨v, fun t => rfl⟩
  | skip => exact ⟨.any, fun t => rfl⟩

theorem evF_app {o : Oper} {fs : FS} {s : Stp} {x : Operand} (h : ∀ e, o.dst = some e → x ≠ .tmp e) : evF (appF o fs s) x = evF fs x := by
  obtain ⟨v, hv⟩ := app_sl o fs s
  have e : evF (appF o fs s) x = evF (putF fs o.dst v) x := by cases x <;> simp [evF, hv]
  rw [e, evF_put h]

theorem app_hp {o : Oper} {fs : FS} {s : Stp} {i : Nat} (h : i ∉ s.K) : (appF o fs s).hp i = fs.hp i := by
  cases s with
  | run v T u =>
    have h' : i ∉ keys u := h
    simp only [appF, effF, putF, updH, if_neg h']
  | skip => rfl
theorem app_n (o : Oper) (fs : FS) (s : Stp) : (appF o fs s).n = fs.n := by cases s <;> rfl
theorem app_al {o : Oper} {fs : FS} {s : Stp} {i : Nat} : (appF o fs s).al i ↔ fs.al i ∨ i ∈ s.K := by
  cases s with
  | run v T u => exact Iff.rfl
  | skip => simp [appF, putF, Stp.K]

theorem OpF.congr {o : Oper} {fs fs' : FS} {v : AV} {T : List Nat} {u : List (Nat × Option Blk)} (h : OpF P o fs v T u) (he : ∀ x, x ∈ o.op.operands.toList → evF fs' x = evF fs x) (hh : ∀ i, i ∈ T → fs'.hp i = fs.hp i) : OpF P o fs' v T u := by
  intro ρ F a w hpre hin K Q hK
  have e1 : restr T fs'.hp = restr T fs.hp := by funext i; unfold restr; split; exact hh i ‹_›; rfl
  have e2 : ∀ i, restr (T ++ keys u) (updH u fs'.hp) i = restr (T ++ keys u) (updH u fs.hp) i := by
    intro i
    unfold restr updH
    by_cases hk : i ∈ keys u
    · simp [hk]
    · by_cases hT : i ∈ T
      · simp [hk, hT, hh i hT]
      · simp [hk, hT]
  refine h ρ F a w ⟨hpre.fok, by rw [← e1]; exact hpre.hp, hpre.fresh⟩ (fun x hx => by rw [← he x hx]; exact hin x hx) K Q (fun x ρ' F' w' hp => hK x ρ' F' w' ⟨hp.rho, hp.new, hp.blk, hp.rd, ?_, hp.fok, hp.chg⟩)
  have : restr (T ++ keys u) (updH u fs'.hp) = restr (T ++ keys u) (updH u fs.hp) := funext e2
  rw [this]
  exact hp.hp

theorem wantF.congr {all : Array Oper} {o : Oper} {fs fs' : FS} {b : Bool} (h : wantF all o fs b) (he : ∀ j want d, o.guard = some (j, want) → (all[j]?).bind (·.dst) = some d → fs'.sl d = fs.sl d) : wantF all o fs' b := by
  unfold wantF at h ⊢
  cases hg : o.guard with
  | none => rw [hg] at h; exact h
  | some p =>
    obtain ⟨j, want⟩ := p
    rw [hg] at h
    obtain ⟨d, g, hd, hs, hb⟩ := h
    exact ⟨d, g, hd, by rw [he j want d hg hd]; exact hs, hb⟩

/-- what a step reads of the slots is kept by a step that is apart from it -/
theorem apart_ev {all : Array Oper} {o o' : Oper} (h : ∀ d, o.dst = some d → d ∉ o'.looksAt all) (fs : FS) (s : Stp) :
    (∀ x, x ∈ o'.op.operands.toList → evF (appF o fs s) x = evF fs x) ∧ (∀ j want d, o'.guard = some (j, want) → (all[j]?).bind (·.dst) = some d → (appF o fs s).sl d = fs.sl d) := by
  refine ⟨fun x hx => evF_app (fun e he hxe => ?_), fun j want d hg hd => ?_⟩
  · subst hxe
    refine h e he ?_
    unfold Oper.looksAt
    refine List.mem_append_left _ (List.mem_filterMap.2 ⟨_, hx, rfl⟩)
  · obtain ⟨v, hv⟩ := app_sl o fs s
    rw [hv]
    simp only [putF]
    cases hdst : o.dst with
    | none => rfl
    | some e =>
      have hne : ¬ e = d := fun he => by
        subst he
        refine h e hdst ?_
        unfold Oper.looksAt
        refine List.mem_append_right _ ?_
        rw [hg]
        simp [hd]
      simp [hne]

theorem stp_congr {all : Array Oper} {o o' : Oper} {fs : FS} {s s' : Stp} (hr : ∀ d, o.dst = some d → d ∉ o'.looksAt all) (hT : ∀ i, i ∈ s.K → i ∉ s'.T) (hK : ∀ i, i ∈ s.K → i ∉ s'.K) :
    StpOk P all o' fs s' ↔ StpOk P all o' (appF o fs s) s' := by
  obtain ⟨h1, h2⟩ := apart_ev hr fs s
  have hh : ∀ i, i ∈ s'.T → (appF o fs s).hp i = fs.hp i := fun i hi => app_hp (fun hk => hT i hk hi)
  cases s' with
  | skip => exact ⟨fun h => h.congr h2, fun h => h.congr (fun j w d a b => (h2 j w d a b).symm)⟩
  | run v T u =>
    refine ⟨fun ⟨a, b, c, d⟩ => ⟨a.congr h2, b.congr h1 hh, fun i hi => ?_, fun i hi => by rw [hh i hi]; exact d i hi⟩,
      fun ⟨a, b, c, d⟩ => ⟨a.congr (fun j w d a b => (h2 j w d a b).symm), b.congr (fun x hx => (h1 x hx).symm) (fun i hi => (hh i hi).symm), fun i hi => ?_, fun i hi => by rw [← hh i hi]; exact d i hi⟩⟩
    · rcases c i hi with h3 | h3
      · exact .inl h3
      · exact .inr (fun h4 => by rcases app_al.1 h4 with h5 | h5; exact h3 h5; exact hK i h5 hi)
    · rcases c i hi with h3 | h3
      · exact .inl h3
      · exact .inr (fun h4 => h3 (app_al.2 (.inl h4)))

theorem FS.ext' {a b : FS} (h1 : a.n = b.n) (h2 : ∀ s, a.sl s = b.sl s) (h3 : ∀ i, a.hp i = b.hp i) (h4 : ∀ i, a.al i ↔ b.al i) : a = b := by
  cases a; cases b
  simp only at h1 h2 h3 h4
  subst h1
  have : ∀ {α : Type} {f g : Nat → α}, (∀ s, f s = g s) → f = g := fun h => funext h
  rw [this h2, this h3, this (fun i => propext (h4 i))]

theorem app_comm {all : Array Oper} {o o' : Oper} {fs : FS} {s s' : Stp} (hi : Indep all o o' s s') : appF o' (appF o fs s) s' = appF o (appF o' fs s') s := by
  obtain ⟨ha, hb, hc⟩ := Oper.apart_spec hi.ap
  refine FS.ext' (by simp [app_n]) (fun t => ?_) (fun i => ?_) (fun i => ?_)
  · -- slots
    have key : ∀ (o : Oper) (s : Stp), ∃ v, ∀ fs t, (appF o fs s).sl t = match o.dst with | some d => if d = t ∧ d < fs.n then v else fs.sl t | none => fs.sl t := by
      intro o s
      cases s with
      | run v T u => exact ⟨v, fun fs t => rfl⟩
      | skip => exact ⟨.any, fun fs t => rfl⟩
    obtain ⟨v, hv⟩ := key o s
    obtain ⟨v', hv'⟩ := key o' s'
    rw [hv', hv]
    simp only [hv, hv', app_n]
    cases hd : o.dst with
    | none => rfl
    | some d =>
      cases hd' : o'.dst with
      | none => rfl
      | some d' =>
        have hne : d ≠ d' := fun e => hb d hd (by rw [hd', e])
        by_cases h1 : d = t
        · subst h1
          have hne' : ¬ d' = d := fun e => hne e.symm
          simp [hne']
        · simp [h1]
  · by_cases h1 : i ∈ s.K
    · have h2 : i ∉ s'.K := (hi.k1 i h1).2
      rw [app_hp h2]
      cases s with
      | run v T u =>
        have h1' : i ∈ keys u := h1
        show updH u fs.hp i = updH u (appF o' fs s').hp i
        simp only [updH, if_pos h1']
      | skip => cases h1
    · rw [app_hp (o := o) (s := s) h1]
      cases s' with
      | run v T u =>
        show updH u (appF o fs s).hp i = updH u fs.hp i
        unfold updH
        by_cases h2 : i ∈ keys u
        · rw [if_pos h2, if_pos h2]
        · rw [if_neg h2, if_neg h2]; exact app_hp h1
      | skip => exact app_hp h1
  · simp only [app_al]
    constructor
    · rintro ((h | h) | h) <;> simp [h]
    · rintro ((h | h) | h) <;> simp [h]

/-- a step that is apart from all before it may come first -/
theorem run_front {all : Array Oper} {x : Nat × Oper × Stp} : ∀ (L1 L2 : List (Nat × Oper × Stp)) (fs fe : FS), (∀ y, y ∈ L1 → Indep all y.2.1 x.2.1 y.2.2 x.2.2) → RunF P all (L1 ++ x :: L2) fs fe → RunF P all (x :: (L1 ++ L2)) fs fe := by
  intro L1
  induction L1 with
  | nil => intro L2 fs fe _ h; exact h
  | cons y L1 ih =>
    intro L2 fs fe hi h
    obtain ⟨iy, oy, sy⟩ := y
    obtain ⟨ix, ox, sx⟩ := x
    obtain ⟨hy, hrest⟩ := h
    obtain ⟨hx, hrest'⟩ := ih L2 _ fe (fun z hz => hi z (List.mem_cons_of_mem _ hz)) hrest
    have hind := hi (iy, oy, sy) (by simp)
    simp only at hind
    obtain ⟨ha, hb, hc⟩ := Oper.apart_spec hind.ap
    have hx' : StpOk P all ox fs sx := (stp_congr ha (fun i hi => (hind.k1 i hi).1) (fun i hi => (hind.k1 i hi).2)).2 hx
    have hy' : StpOk P all oy (appF ox fs sx) sy := (stp_congr hc (fun i hi => hind.k2 i hi) (fun i hi hi' => (hind.k1 i hi').2 hi)).1 hy
    refine ⟨hx', hy', ?_⟩
    rw [← app_comm hind]
    exact hrest'

end Go.Abs

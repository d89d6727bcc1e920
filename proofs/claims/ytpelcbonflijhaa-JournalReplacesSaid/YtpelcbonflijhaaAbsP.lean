/-
  Contracts of pure functions: in and out. Own work; no statement of the seat is proved here.
-/
import Derived.Test.YtpelcbonflijhaaAbsO
namespace Go.Abs
set_option linter.unusedSimpArgs false
set_option linter.unusedVariables false
open Go Go.RowKit
variable {P : Program}

/-- called with vs (no owned block inside) the function returns v and touches no block that was there -/
def FPure (P : Program) (f : FuncId) (vs : List AV) (v : AV) : Prop := ∀ h, FCall P f vs h v [] []

def EndP (P : Program) (rs : List ResultVar) (st : AS) (v : AV) : Prop :=
  ∃ S, liveS st.hp S ∧ ∃ vs, resVs P st rs = some vs ∧ viewA (hget st.hp) S (fun _ => st.nx) v (retV vs)

theorem fpure_of {f : FuncId} {fn : Func} {code : Code} {vs : List AV} {v : AV} {n : Nat} (hf : P.funcs[f]? = some fn) (hb : fn.body = some code) (hname : (fn.name == "runtime.NumGoroutine") = false) (hn : fn.ntmps = n)
    (hlen : vs.length ≤ n) (hargs : idsL [] vs)
    (haw : ∀ c : Ctx, c.P = P → (∀ i, c.ρ0 i ≠ none → False) → (∀ k st, EndP P fn.results.toList st v → SAW c (.code .ret :: k) st ∧ SAW c [] st) → SAW c [.code code] ⟨n, argS 0 vs, [], 0⟩) : FPure P f vs v := by
  intro h
  refine fcall_of hf hb hname hn hlen (hp0 := []) (nx0 := 0) (by funext i; simp [hget, restr]) (fun i hi => by cases hi) hargs trivial (fun i hi => by cases hi) ?_
  intro c hP h0 hfin
  refine haw c hP (fun i hi => by have := h0 i hi; cases this) (fun k st he => ?_)
  obtain ⟨S, hl, vs', hv, hvv⟩ := he
  exact hfin k st S (fun _ => st.nx) ⟨⟨vs', by rw [hP]; exact hv, hvv⟩, trivial, rfl, rfl, hl, fun i hi => (by cases hi), fun i _ => Nat.le_refl _⟩

theorem aw_callP {c : Ctx} {ks : List Nat} {n : Nat} {f : FuncId} {vs : List AV} {o : Oper} {all : Array Oper} {os : List Oper} {k : List It} {st : AS} {v : AV} (hf : FPure c.P f vs v) (h : AW c ks n (.ops all os :: k) (put st o.dst v)) :
    CallG c f vs o all os k st := by
  intro hc ρ F a w hcc
  have hok := call_ok (nx := st.nx) hc (hf (hget st.hp)) (Nat.le_refl _) (fun i hi => by simp [keys] at hi) (fun i hi => by cases hi)
  exact step_ok hok hcc _ _ (fun ρ' F' a' w' hc' => AW_sound c ks n _ _ h ρ' F' a' w' hc')

/-! freezing, as a step of its own -/
theorem lk_app (l sl : List (Nat × AV)) (s : Nat) : (∃ b, (s, b) ∈ l ∧ lk (l ++ sl) s = b) ∨ lk (l ++ sl) s = lk sl s := by
  induction l with
  | nil => exact .inr rfl
  | cons x r ih =>
    obtain ⟨k, v⟩ := x
    simp only [List.cons_append, lk_cons]
    by_cases h : k = s
    · subst h; rw [if_pos rfl]; exact .inl ⟨v, by simp, rfl⟩
    · rw [if_neg h]
      rcases ih with ⟨b, hm, hb⟩ | hb
      · exact .inl ⟨b, List.mem_cons_of_mem _ hm, hb⟩
      · exact .inr hb

theorem hget_del (S : List Nat) (hp : List (Nat × Option Blk)) (i : Nat) : hget (delL S ++ hp) i = if i ∈ S then none else hget hp i := by
  induction S with
  | nil => simp [delL]
  | cons k r ih =>
    simp only [delL, List.cons_append]
    show (match Nat.beq k i with | true => none | false => hget (delL r ++ hp) i) = _
    by_cases h : k = i
    · subst h; simp
    · have h' : ¬ i = k := fun e => h e.symm
      rw [beq_no h, ih]; simp [h']

theorem viewR_get {h : Heap} {S : List Nat} {sl : List (Nat × AV)} {reps : List (Nat × AV)} (hv : viewR h S sl reps) {s : Nat} {b : AV} (hm : (s, b) ∈ reps) : viewA h S (fun i => i) b (lk sl s) := by
  induction reps with
  | nil => cases hm
  | cons x r ih =>
    obtain ⟨k, y⟩ := x
    rcases List.mem_cons.1 hm with h1 | h1
    · cases h1; exact hv.1
    · exact ih hv.2 h1

theorem frz_conc {S : List Nat} {reps : List (Nat × AV)} {st : AS} (hl : liveS st.hp S) (hv : viewR (hget st.hp) S st.sl reps) {c : Ctx} {ρ : IdMap} {F : FSet} {a : Act} {w : World} (h : Conc c ρ F st a w) :
    Conc c ρ (unionS F ρ S) (frz S reps st) a w := by
  have hH := h.heap.restr S
  have hOlt : ∀ b, OSet ρ S b → b < w.heap.size ∧ (c.w0.heap.size ≤ b ∨ c.O b) := by
    rintro b ⟨i, hi, hb⟩
    have hl := liveS_get hl hi
    refine ⟨?_, h.own i b hl hb⟩
    obtain ⟨k, hk⟩ := Option.ne_none_iff_exists'.1 hl
    rcases h.heap.ok i k hk with ⟨_, h0⟩ | ⟨b2, hb2, ho⟩
    · rw [h0] at hb; cases hb
    · rw [hb] at hb2; cases hb2
      obtain ⟨arr, ha, _⟩ := ho.is
      exact (Array.getElem?_eq_some_iff.1 ha).1
  have hsub : ∀ i, hget (frz S reps st).hp i ≠ none → i ∉ S ∧ hget st.hp i ≠ none := by
    intro i hi
    simp only [frz, hget_del] at hi
    by_cases hS : i ∈ S
    · simp [hS] at hi
    · exact ⟨hS, by simpa [hS] using hi⟩
  have hmono : ∀ {x : AV} {u : Value}, Rd ρ F w x u → Rd ρ (unionS F ρ S) w x u := fun hr => hr.mono (fun _ _ h => h) (fun _ h => .inl h) (fun _ _ => rfl) (fun _ _ h => h)
  refine ⟨h.defers, h.size, fun s => ?_, ⟨fun i k hk => ?_, fun i j b hi hj h1 h2 => h.heap.inj i j b (hsub i hi).2 (hsub j hj).2 h1 h2⟩, h.fresh, ?_, ?_, fun i hi => h.dom i (hsub i hi).2, fun i b hi hb => h.own i b (hsub i hi).2 hb, h.keep⟩
  · rcases lk_app reps st.sl s with ⟨b, hm, hb⟩ | hb
    · simp only [frz]
      rw [hb]
      exact viewA_rd hH (fun _ _ h => h) _ _ _ (viewR_get hv hm) (h.slots s)
    · simp only [frz]
      rw [hb]
      exact hmono (h.slots s)
  · have hne : hget (frz S reps st).hp i ≠ none := by rw [hk]; simp
    obtain ⟨hS, hl'⟩ := hsub i hne
    have hk' : hget st.hp i = some k := by
      simp only [frz, hget_del, if_neg hS] at hk
      exact hk
    rcases h.heap.ok i k hk' with h1 | ⟨b, hb, ho⟩
    · exact .inl h1
    · refine .inr ⟨b, hb, ⟨fun hF => ?_, ?_⟩⟩
      · rcases hF with hF | ⟨j, hj, hjb⟩
        · exact ho.own hF
        · have := h.heap.inj j i b (liveS_get hl hj) hl' hjb hb
          exact hS (this ▸ hj)
      · obtain ⟨arr, ha, hlen, hc⟩ := ho.is
        exact ⟨arr, ha, hlen, fun j c hj => ⟨(hc j c hj).1, hmono (hc j c hj).2⟩⟩
  · rintro b (hb | hb)
    · exact h.fok b hb
    · exact (hOlt b hb).1
  · exact ⟨h.chg.os, h.chg.tape, h.chg.output, h.chg.size, h.chg.same, h.chg.cells, fun b hb => .inl (h.chg.sub b hb), fun b hb => by
      rcases hb with hb | hb
      · exact h.chg.new b hb
      · exact .inr (hOlt b hb).2⟩

theorem saw_frz {c : Ctx} {k : List It} {st : AS} (S : List Nat) (reps : List (Nat × AV)) (hl : liveS st.hp S) (hv : viewR (hget st.hp) S st.sl reps) (h : SAW c k (frz S reps st)) : SAW c k st :=
  fun _ _ a w hc => h _ _ a w (frz_conc hl hv hc)

/-- at a call: some slots are frozen first -/
theorem aw_frz {c : Ctx} {ks : List Nat} {n : Nat} {f : FuncId} {vs : List AV} {o : Oper} {all : Array Oper} {os : List Oper} {k : List It} {st : AS} (S : List Nat) (reps : List (Nat × AV)) (hl : liveS st.hp S) (hv : viewR (hget st.hp) S st.sl reps)
    (h : resA c (AW c ks n) o all os k (frz S reps st) (aop c.P o.op (frz S reps st))) : CallG c f vs o all os k st := by
  intro _ ρ F a w hc
  exact resA_sound (AW_sound c ks n) h ρ _ a w (frz_conc hl hv hc)

/-- an empty block more: nil can be seen as a slice of it -/
theorem saw_new {c : Ctx} {k : List It} {n : Nat} {sl : List (Nat × AV)} {hp : List (Nat × Option Blk)} {nx : Nat} (t : TypeId) (h : SAW c k ⟨n, sl, (nx, some ⟨t, []⟩) :: hp, nx + 1⟩) : SAW c k ⟨n, sl, hp, nx⟩ := by
  intro ρ F a w hc
  have hn : ρ nx = none := hc.fresh nx (Nat.le_refl _)
  have hg : ∀ i, hget ((nx, some ⟨t, []⟩) :: hp) i = if nx = i then some ⟨t, []⟩ else hget hp i := by
    intro i
    show (match Nat.beq nx i with | true => _ | false => hget hp i) = _
    by_cases h : nx = i
    · subst h; simp
    · rw [beq_no h, if_neg h]
  have hof : ∀ i, hget ((nx, some ⟨t, []⟩) :: hp) i ≠ none → ρ i ≠ none → hget hp i ≠ none := by
    intro i hi hr
    rw [hg] at hi
    by_cases h : nx = i
    · subst h; exact absurd hn hr
    · rwa [if_neg h] at hi
  refine h ρ F a w ⟨hc.defers, hc.size, hc.slots, ⟨fun i k hk => ?_, fun i j b hi hj h1 h2 => hc.heap.inj i j b (hof i hi (by rw [h1]; simp)) (hof j hj (by rw [h2]; simp)) h1 h2⟩, fun i hi => hc.fresh i (by simp at hi; show nx ≤ i; omega), hc.fok, hc.chg, fun i hi => ?_, fun i b hi hb => hc.own i b (hof i hi (by rw [hb]; simp)) hb, hc.keep⟩
  · simp only [hg] at hk
    by_cases h : nx = i
    · subst h
      rw [if_pos rfl] at hk
      cases hk
      exact .inl ⟨rfl, hn⟩
    · rw [if_neg h] at hk
      exact hc.heap.ok i k hk
  · simp only [hg] at hi
    by_cases h : nx = i
    · subst h; exact Nat.lt_succ_self _
    · rw [if_neg h] at hi
      exact Nat.lt_succ_of_lt (hc.dom i hi)

end Go.Abs

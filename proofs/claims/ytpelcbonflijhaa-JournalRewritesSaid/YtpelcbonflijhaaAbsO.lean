/-
  A contract out of a walk; a contract at a call. Own work; no statement of the seat is proved here.
-/
import Derived.Test.YtpelcbonflijhaaAbsN
namespace Go.Abs
set_option linter.unusedSimpArgs false
set_option linter.unusedVariables false
open Go Go.RowKit
variable {P : Program}

def resV (P : Program) (st : AS) : ResultVar → Option AV
  | .tmp t => some (lk st.sl t)
  | .cell a t => match lk st.sl a with
    | .ptr id off => match hget st.hp id, Nat.ble 1 (tiOf P t).size with
      | some b, true => match Nat.ble (off + (tiOf P t).size) b.cs.length with
        | true => some (takeAs (tiOf P t).kind (tiOf P t).size (b.cs.drop off))
        | false => none
      | _, _ => none
    | _ => none
def resVs (P : Program) (st : AS) : List ResultVar → Option (List AV)
  | [] => some []
  | r :: rs => match resV P st r, resVs P st rs with
    | some v, some vs => some (v :: vs)
    | _, _ => none
def retV : List AV → AV
  | [] => .tup []
  | [v] => v
  | v :: w :: r => .tup (v :: w :: r)

def resRun (tmps : Array Value) : ResultVar → Sem Value
  | .tmp t => pure (tmps.getD t undef)
  | .cell a t => do loadVar t (← asAddr (tmps.getD a undef))

theorem resV_run {c : Ctx} {ρ : IdMap} {F : FSet} {st : AS} {a : Act} {w : World} (h : Conc c ρ F st a w) {r : ResultVar} {v : AV} (hr : resV P st r = some v) :
    ∃ u, (resRun a.tmps r).run P w = .ok u w ∧ Rd ρ F w v u := by
  cases r with
  | tmp t =>
    simp only [resV, Option.some.injEq] at hr
    subst hr
    exact ⟨_, rfl, h.slots t⟩
  | cell x t =>
    simp only [resV] at hr
    split at hr
    · rename_i id off hx
      split at hr
      · rename_i b hb h1
        split at hr
        · rename_i hl
          simp only [Option.some.injEq] at hr
          subst hr
          have hs := h.slots x
          rw [hx] at hs
          obtain ⟨bb, hbb, hv⟩ := hs.ptrInv
          rcases h.heap.ok id b hb with ⟨_, h0⟩ | ⟨b2, hb2, hblk⟩
          · rw [h0] at hbb; cases hbb
          rw [hbb] at hb2; cases hb2
          obtain ⟨arr, ha, hlen, hc⟩ := hblk.is
          have h1' := Nat.le_of_ble_eq_true h1
          have hl' := Nat.le_of_ble_eq_true hl
          rw [tiOf_size] at h1' hl'
          have hrun := run_loadVar_cells (P := P) (t := t) (w := w) (b := bb) (o := off) (fun j => arr.getD (off + j) undef) h1' (fun j hj => cell_of ha (by omega))
          refine ⟨_, ?_, takeAs_rd h1' hl' (f := fun j => arr.getD j undef) (fun j c hj => (hc j c hj).2)⟩
          simp only [resRun, hv, asAddr, Sem.run_bind, Sem.run_pure, Result.andThen_ok, hrun]
        · cases hr
      · cases hr
    · cases hr

theorem resVs_run {c : Ctx} {ρ : IdMap} {F : FSet} {st : AS} {a : Act} {w : World} (h : Conc c ρ F st a w) : ∀ (rs : List ResultVar) (vs : List AV), resVs P st rs = some vs →
    ∃ us : List Value, (rs.mapM (resRun a.tmps)).run P w = .ok us w ∧ us.length = vs.length ∧ ∀ j x, vs[j]? = some x → Rd ρ F w x (us.getD j undef) := by
  intro rs
  induction rs with
  | nil => intro vs hv; simp [resVs] at hv; subst hv; exact ⟨[], rfl, rfl, fun j x hx => by simp at hx⟩
  | cons r rs ih =>
    intro vs hv
    simp only [resVs] at hv
    split at hv
    · rename_i v vs' h1 h2
      simp only [Option.some.injEq] at hv
      subst hv
      obtain ⟨u, hu, hru⟩ := resV_run h h1
      obtain ⟨us, hus, hl, hr⟩ := ih vs' h2
      refine ⟨u :: us, by simp only [List.mapM_cons, Sem.run_bind, hu, Result.andThen_ok, hus, Sem.run_pure], by simp [hl], fun j x hx => ?_⟩
      cases j with
      | zero => simp at hx; subst hx; simpa using hru
      | succ j => simpa using hr j x (by simpa using hx)
    · cases hv

theorem results_run {c : Ctx} {ρ : IdMap} {F : FSet} {st : AS} {a : Act} {w : World} (h : Conc c ρ F st a w) {fn : Func} {vs : List AV} (hv : resVs P st fn.results.toList = some vs) :
    ∃ u, (results fn a.tmps).run P w = .ok u w ∧ Rd ρ F w (retV vs) u := by
  obtain ⟨us, hus, hl, hr⟩ := resVs_run h _ _ hv
  have hm : (fn.results.mapM (resRun a.tmps)).run P w = .ok us.toArray w := by
    have e : fn.results = fn.results.toList.toArray := by simp
    rw [e, List.mapM_toArray]
    simp [hus]
  refine ⟨if h : us.toArray.size = 1 then us.toArray[0] else .tuple us.toArray, ?_, ?_⟩
  · have hfun : results fn a.tmps = (do let vs ← fn.results.mapM (resRun a.tmps); pure (if h : vs.size = 1 then vs[0] else .tuple vs)) := by
      unfold results
      congr 1
    rw [hfun, Sem.run_bind, hm]
    rfl
  · match vs, us, hl, hr with
    | [], [], _, _ => exact .tup _ _ rfl (fun j c hj => by simp at hj)
    | [v], [u], _, hr => simpa [retV] using hr 0 v rfl
    | v :: v2 :: r, u :: u2 :: r', hl, hr =>
      simp only [List.length_cons] at hl
      simp only [retV, List.size_toArray, List.length_cons, show ¬ (r'.length + 1 + 1 = 1) by omega, dite_false]
      refine .tup _ _ (by simp; omega) (fun j c hj => ?_)
      have := hr j c hj
      simpa [getD_of, List.getD_eq_getElem?_getD] using this

structure EndOk (P : Program) (rs : List ResultVar) (st : AS) (v : AV) (T : List Nat) (u : List (Nat × Option Blk)) (S : List Nat) (σ : Nat → Nat) : Prop where
  res : ∃ vs, resVs P st rs = some vs ∧ viewA (hget st.hp) S σ v (retV vs)
  blocks : subHp (hget st.hp) S σ u
  nd : nodupB (keys u) = true
  nd' : nodupB ((liveK u).map σ) = true
  live : liveS st.hp S
  sigT : ∀ i, i ∈ T → σ i = i ∧ i ∈ keys u
  sigN : ∀ i, i ∉ liveK u → st.nx ≤ σ i

theorem hget_mem {u : List (Nat × Option Blk)} (hn : nodupB (keys u) = true) {i : Nat} (hi : i ∈ liveK u) : ∃ b, hget u i = some b := by
  induction u with
  | nil => cases hi
  | cons x r ih =>
    obtain ⟨k, v⟩ := x
    simp only [keys, List.map_cons, nodupB] at hn
    cases hm : memB (r.map (·.1)) k with
    | true => rw [hm] at hn; cases hn
    | false =>
      rw [hm] at hn
      have hlive : ∀ (r : List (Nat × Option Blk)) (i : Nat), i ∈ liveK r → i ∈ r.map (·.1) := by
        intro r
        induction r with
        | nil => intro i hi; cases hi
        | cons y r ih =>
          obtain ⟨k', v'⟩ := y
          intro i hi
          unfold liveK at hi
          cases v' with
          | some b => rcases List.mem_cons.1 hi with rfl | hi; simp; exact List.mem_cons_of_mem _ (ih i hi)
          | none => exact List.mem_cons_of_mem _ (ih i hi)
      cases v with
      | some b =>
        unfold liveK at hi
        rcases List.mem_cons.1 hi with rfl | hi
        · exact ⟨b, by simp [hget]⟩
        · obtain ⟨b', hb'⟩ := ih hn hi
          have hne : ¬ k = i := fun e => by
            subst e
            have : memB (r.map (·.1)) k = true := (memB_iff _ _).2 (hlive r k hi)
            rw [hm] at this; cases this
          exact ⟨b', by show (match Nat.beq k i with | true => some b | false => hget r i) = _; rw [beq_no hne]; exact hb'⟩
      | none =>
        unfold liveK at hi
        obtain ⟨b', hb'⟩ := ih hn hi
        have hne : ¬ k = i := fun e => by
          subst e
          have : memB (r.map (·.1)) k = true := (memB_iff _ _).2 (hlive r k hi)
          rw [hm] at this; cases this
        exact ⟨b', by show (match Nat.beq k i with | true => none | false => hget r i) = _; rw [beq_no hne]; exact hb'⟩

theorem liveK_keys {u : List (Nat × Option Blk)} {i : Nat} (hi : i ∈ liveK u) : i ∈ keys u := by
  induction u with
  | nil => cases hi
  | cons y r ih =>
    obtain ⟨k', v'⟩ := y
    unfold liveK at hi
    unfold keys
    cases v' with
    | some b => rcases List.mem_cons.1 hi with rfl | hi; simp; exact List.mem_cons_of_mem _ (ih hi)
    | none => exact List.mem_cons_of_mem _ (ih hi)

def mkC (P : Program) (fn : Func) (ρ : IdMap) (F : FSet) (w : World) (T : List Nat) (u : List (Nat × Option Blk)) (h : Heap) (v : AV) : Ctx where
  P := P
  fn := fn
  R := fun e w' => ∃ x ρ' F', e = .returned x ∧ Post ρ F w T u h v x ρ' F' w'
  w0 := w
  F0 := F
  O := OSet ρ (keys u)
  ρ0 := fun i => if i ∈ T then ρ i else none

theorem end_ok {fn : Func} {ρ : IdMap} {F : FSet} {w : World} {T : List Nat} {u : List (Nat × Option Blk)} {h : Heap} {v : AV} (hpre : Pre ρ F w T u h) {ρe : IdMap} {Fe : FSet} {st : AS} {a : Act} {w' : World}
    (hc : Conc (mkC P fn ρ F w T u h v) ρe Fe st a w') {S : List Nat} {σ : Nat → Nat} (he : EndOk P fn.results.toList st v T u S σ) :
    a.defers = [] ∧ ∃ x, (results fn a.tmps).run P w' = .ok x w' ∧ ∃ y ρ' F', Ending.returned x = .returned y ∧ Post ρ F w T u h v y ρ' F' w' := by
  obtain ⟨vs, hvs, hv⟩ := he.res
  obtain ⟨x, hx, hr⟩ := results_run (P := P) hc hvs
  refine ⟨hc.defers, x, hx, x, fun i => if i ∈ liveK u then ρe (σ i) else ρ i, unionS Fe ρe S, rfl, ?_⟩
  have hH := hc.heap.restr S
  have hρ : ∀ i b, ρe (σ i) = some b → (if i ∈ liveK u then ρe (σ i) else ρ i) = some b := by
    intro i b hb
    by_cases hi : i ∈ liveK u
    · rw [if_pos hi]; exact hb
    · rw [hc.fresh _ (he.sigN i hi)] at hb; cases hb
  have hnew : ∀ i, i ∈ liveK u → i ∉ T → ρ i = none := fun i hi hT => hpre.fresh i (liveK_keys hi) hT
  have hOlt : ∀ b, OSet ρe S b → b < w'.heap.size ∧ (w.heap.size ≤ b ∨ OSet ρ (keys u) b) := by
    rintro b ⟨i, hi, hb⟩
    have hl := liveS_get he.live hi
    refine ⟨?_, hc.own i b hl hb⟩
    obtain ⟨k, hk⟩ := Option.ne_none_iff_exists'.1 hl
    rcases hc.heap.ok i k hk with ⟨_, h0⟩ | ⟨b2, hb2, ho⟩
    · rw [h0] at hb; cases hb
    · rw [hb] at hb2; cases hb2
      obtain ⟨arr, ha, _⟩ := ho.is
      exact (Array.getElem?_eq_some_iff.1 ha).1
  have hblk : ∀ i b', restr (T ++ keys u) (updH u h) i = some b' → i ∈ liveK u ∧ σ i ∉ S ∧ ∃ b, hget st.hp (σ i) = some b ∧ b'.t = b.t ∧ viewAs (hget st.hp) S σ b'.cs b.cs := by
    intro i b' hb'
    obtain ⟨hm, hb'⟩ := restr_some hb'
    have hk : i ∈ keys u := by
      rcases List.mem_append.1 hm with h1 | h1
      · exact (he.sigT i h1).2
      · exact h1
    simp only [updH, if_pos hk] at hb'
    have hm := hget_some hb'
    obtain ⟨h1, h2⟩ := subHp_get he.blocks hm
    refine ⟨liveK_mem hm, h1, ?_⟩
    unfold subBlk at h2
    split at h2
    · rename_i b hb; exact ⟨b, hb, h2.1, h2.2⟩
    · exact h2.elim
  refine ⟨fun i b hb => ?_, fun i h1 h2 => ?_, fun i b h1 h2 => ?_, viewA_rd hH hρ _ _ _ hv hr, ⟨fun i k hk => ?_, fun i j b hi hj h1 h2 => ?_⟩, ?_, ?_⟩
  · by_cases hi : i ∈ liveK u
    · rw [if_pos hi]
      have hT : i ∈ T := by
        by_cases hT : i ∈ T
        · exact hT
        · rw [hnew i hi hT] at hb; cases hb
      rw [(he.sigT i hT).1]
      exact hc.keep i b (by simp [mkC, hT, hb])
    · rw [if_neg hi]; exact hb
  · by_cases hi : i ∈ liveK u
    · exact liveK_keys hi
    · rw [if_neg hi] at h2; exact absurd h1 h2
  · by_cases hi : i ∈ liveK u
    · rw [if_pos hi] at h2
      obtain ⟨b', hb'⟩ := hget_mem he.nd hi
      have hm := hget_some hb'
      obtain ⟨_, hs⟩ := subHp_get he.blocks hm
      have hl : hget st.hp (σ i) ≠ none := by intro e; rw [e] at hs; exact hs
      exact hc.own (σ i) b hl h2
    · rw [if_neg hi, h1] at h2; cases h2
  · obtain ⟨hlk, hS, b, hb, ht, hvv⟩ := hblk i k hk
    rcases hc.heap.ok (σ i) b hb with ⟨h1, h0⟩ | ⟨bb, hbb, ho⟩
    · rw [h1] at hvv
      refine .inl ⟨?_, by rw [if_pos hlk]; exact h0⟩
      cases hcs : k.cs with
      | nil => rfl
      | cons x r => rw [hcs] at hvv; simp [viewAs] at hvv
    · refine .inr ⟨bb, by rw [if_pos hlk]; exact hbb, ⟨fun hF => ?_, ?_⟩⟩
      · rcases hF with hF | ⟨j, hj, hjb⟩
        · exact ho.own hF
        · have := hc.heap.inj j (σ i) bb (liveS_get he.live hj) (by rw [hb]; simp) hjb hbb
          exact hS (this ▸ hj)
      · obtain ⟨arr, ha, hl, hcc⟩ := ho.is
        refine ⟨arr, by rw [ht]; exact ha, by rw [viewAs_len hvv]; exact hl, fun j c hj => ?_⟩
        have hj' : j < b.cs.length := by rw [← viewAs_len hvv]; exact (List.getElem?_eq_some_iff.1 hj).1
        exact ⟨(hcc j _ (List.getElem?_eq_getElem hj')).1, viewAs_rd hH hρ k.cs b.cs (fun j => arr.getD j undef) hvv (fun j a ha => (hcc j a ha).2) j c hj⟩
  · obtain ⟨ki, hki⟩ := Option.ne_none_iff_exists'.1 hi
    obtain ⟨kj, hkj⟩ := Option.ne_none_iff_exists'.1 hj
    obtain ⟨hli, _, bi, hbi, _⟩ := hblk i ki hki
    obtain ⟨hlj, _, bj, hbj, _⟩ := hblk j kj hkj
    rw [if_pos hli] at h1
    rw [if_pos hlj] at h2
    exact nodup_inj he.nd' hli hlj (hc.heap.inj (σ i) (σ j) b (by rw [hbi]; simp) (by rw [hbj]; simp) h1 h2)
  · rintro b (hb | hb)
    · exact hc.fok b hb
    · exact (hOlt b hb).1
  · exact ⟨hc.chg.os, hc.chg.tape, hc.chg.output, hc.chg.size, hc.chg.same, hc.chg.cells, fun b hb => .inl (hc.chg.sub b hb), fun b hb => by
      rcases hb with hb | hb
      · exact hc.chg.new b hb
      · exact .inr (hOlt b hb).2⟩

/-- what a walk may use of its context: the end is reached where the results read as v -/
def Fin (c : Ctx) (rs : List ResultVar) (v : AV) (T : List Nat) (u : List (Nat × Option Blk)) : Prop :=
  ∀ k st S σ, EndOk c.P rs st v T u S σ → SAW c (.code .ret :: k) st ∧ SAW c [] st

def argS : Nat → List AV → List (Nat × AV)
  | _, [] => []
  | i, v :: r => (i, v) :: argS (i + 1) r

theorem argS_get : ∀ (vs : List AV) (i s : Nat), lk (argS i vs) s = if i ≤ s then (vs[s - i]?).getD .any else .any := by
  intro vs
  induction vs with
  | nil => intro i s; simp [argS, lk]
  | cons v r ih =>
    intro i s
    simp only [argS, lk_cons, ih]
    by_cases h : i = s
    · subst h; simp
    · by_cases h2 : i ≤ s
      · rw [if_neg h, if_pos (by omega), if_pos h2]
        obtain ⟨q, rfl⟩ : ∃ q, s = i + 1 + q := ⟨s - (i + 1), by omega⟩
        rw [show i + 1 + q - (i + 1) = q by omega, show i + 1 + q - i = q + 1 by omega]
        simp
      · rw [if_neg h, if_neg (by omega), if_neg h2]

/-! the ids inside a value -/
mutual
def idsA (T : List Nat) : AV → Prop
  | .p _ => True
  | .ptr i _ => i ∈ T
  | .sl i _ _ _ => i ∈ T
  | .cp _ => True
  | .agg as => idsL T as
  | .tup as => idsL T as
  | .iface _ a => idsA T a
  | .fn _ as bs => idsL T as ∧ idsL T bs
  | .any => True
def idsL (T : List Nat) : List AV → Prop
  | [] => True
  | a :: as => idsA T a ∧ idsL T as
end
theorem idsL_map (T : List Nat) : ∀ cs : List PV, idsL T (cs.map .p)
  | [] => trivial
  | c :: cs => ⟨trivial, idsL_map T cs⟩
def idsH (T : List Nat) : List (Nat × Option Blk) → Prop
  | [] => True
  | (_, b) :: r => (match b with
    | some b => idsL T b.cs
    | none => True) ∧ idsH T r

theorem idsL_get {T : List Nat} : ∀ {as : List AV} {j : Nat} {a : AV}, idsL T as → as[j]? = some a → idsA T a
  | [], j, a, _, h => by simp at h
  | x :: xs, 0, a, hi, h => by simp at h; subst h; exact hi.1
  | x :: xs, j + 1, a, hi, h => idsL_get hi.2 (by simpa using h)

theorem ids_rd {T : List Nat} {ρ ρ' : IdMap} {F : FSet} {w : World} (he : ∀ i, i ∈ T → ρ' i = ρ i) {x : AV} {u : Value} (h : Rd ρ F w x u) : idsA T x → Rd ρ' F w x u := by
  induction h with
  | p x u h => intro _; exact .p _ _ h
  | ptr id off b h => intro hi; exact .ptr _ _ _ (by rw [he id hi]; exact h)
  | sl id off len s b cap h hcap hc => intro hi; exact .sl _ _ _ _ _ _ (by rw [he id hi]; exact h) hcap hc
  | slz id off s A => intro _; exact .slz _ _ _ _
  | cp cs b off f hF hc h1 hr => intro _; exact .cp _ _ _ f hF hc h1 hr
  | agg cs us hl _ ih => intro hi; exact .agg _ _ hl (fun j c hj => ih j c hj (idsL_get hi hj))
  | tup cs us hl _ ih => intro hi; exact .tup _ _ hl (fun j c hj => ih j c hj (idsL_get hi hj))
  | iface t x u _ ih => intro hi; exact .iface _ _ _ (ih hi)
  | fn f as bs us vs hl _ hl' _ ih ih' => intro hi; exact .fn _ _ _ _ _ hl (fun j c hj => ih j c hj (idsL_get hi.1 hj)) hl' (fun j c hj => ih' j c hj (idsL_get hi.2 hj))
  | any u => intro _; exact .any _

theorem idsH_get {T : List Nat} {hp : List (Nat × Option Blk)} (h : idsH T hp) {i : Nat} {b : Blk} (hm : (i, some b) ∈ hp) : idsL T b.cs := by
  induction hp with
  | nil => cases hm
  | cons x r ih =>
    obtain ⟨k, v⟩ := x
    rcases List.mem_cons.1 hm with h1 | h1
    · cases h1; exact h.1
    · exact ih h.2 h1

theorem callFunc_run {f : FuncId} {fn : Func} {code : Code} (hf : P.funcs[f]? = some fn) (hb : fn.body = some code) (hn : (fn.name == "runtime.NumGoroutine") = false) (us : Array Value) (w : World) : (callFunc f us).run P w = .ok (.enter f us) w := by
  simp only [callFunc, Sem.run_bind, run_program, Result.andThen_ok, hf]
  simp [hn, hb]

theorem fcall_of {f : FuncId} {fn : Func} {code : Code} {vs : List AV} {v : AV} {T : List Nat} {u : List (Nat × Option Blk)} {h : Heap} {hp0 : List (Nat × Option Blk)} {nx0 n : Nat}
    (hf : P.funcs[f]? = some fn) (hb : fn.body = some code) (hname : (fn.name == "runtime.NumGoroutine") = false) (hn : fn.ntmps = n) (hlen : vs.length ≤ n)
    (hh : hget hp0 = restr T h) (hnx : ∀ i, i ∈ T → i < nx0)
    (hargs : idsL T vs) (hids : idsH T hp0)
    (hT : ∀ i, i ∈ T → i ∈ keys u)
    (haw : ∀ c : Ctx, c.P = P → (∀ i, c.ρ0 i ≠ none → i ∈ T) → Fin c fn.results.toList v T u → SAW c [.code code] ⟨n, argS 0 vs, hp0, nx0⟩) : FCall P f vs h v T u where
  enter := callFunc_run hf hb hname
  tri ρ F us w hpre hz hr := by
    refine calls_of_wp hf hb ?_
    have hfin : Fin (mkC P fn ρ F w T u h v) fn.results.toList v T u := by
      intro k st S σ he
      have key : ∀ ρe Fe a w', Conc (mkC P fn ρ F w T u h v) ρe Fe st a w' → bodyPost P fn (mkC P fn ρ F w T u h v).R .ret a w' ∧ bodyPost P fn (mkC P fn ρ F w T u h v).R .normal a w' := by
        intro ρe Fe a w' hc
        have := end_ok hpre hc he
        exact ⟨this, this⟩
      refine ⟨fun ρe Fe a w' hc => wp_ret ?_, fun ρe Fe a w' hc => (key ρe Fe a w' hc).2⟩
      rw [Wk_ret]
      exact (key ρe Fe a w' hc).1
    have hsaw := haw (mkC P fn ρ F w T u h v) rfl (fun i hi => by simp only [mkC] at hi; by_cases hT : i ∈ T; exact hT; simp [hT] at hi) hfin
    have hc0 : Conc (mkC P fn ρ F w T u h v) (fun i => if i ∈ T then ρ i else none) F ⟨n, argS 0 vs, hp0, nx0⟩ { tmps := us ++ Array.replicate (fn.ntmps - us.size) undef, defers := [] } w := by
      have hρT : ∀ i, i ∈ T → (fun i => if i ∈ T then ρ i else none) i = ρ i := fun i hi => by simp [hi]
      have hmono : ∀ i b, (if i ∈ T then ρ i else none) = some b → ρ i = some b := fun i b hb => by
        by_cases hi : i ∈ T
        · simpa [hi] using hb
        · simp [hi] at hb
      refine ⟨rfl, by simp; omega, fun s => ?_, ?_, fun i hi => ?_, hpre.fok, Chg.refl _ _ _, fun i hi => ?_, fun i b hi hb => ?_, fun i b hb => hb⟩
      · simp only [argS_get, Nat.zero_le, if_true, Nat.sub_zero]
        cases hs : vs[s]? with
        | none => exact .any _
        | some x =>
          have hslt : s < us.size := by rw [hz]; exact (List.getElem?_eq_some_iff.1 hs).1
          have e : (us ++ Array.replicate (fn.ntmps - us.size) undef).getD s undef = us.getD s undef := by simp [getD_of, Array.getElem?_append, hslt]
          simp only [Option.getD_some]
          rw [e]
          exact ids_rd hρT (hr s x hs) (idsL_get hargs hs)
      · refine ⟨fun i k hk => ?_, fun i j b hi hj h1 h2 => ?_⟩
        · have hids' := idsH_get hids (hget_some hk)
          rw [hh] at hk
          have hiT := (restr_some hk).1
          rcases hpre.hp.ok i k hk with ⟨h1, h0⟩ | ⟨b, hb, ho⟩
          · exact .inl ⟨h1, by simp [hiT, h0]⟩
          · refine .inr ⟨b, by simp [hiT, hb], ⟨ho.own, ?_⟩⟩
            obtain ⟨arr, ha, hl, hcc⟩ := ho.is
            exact ⟨arr, ha, hl, fun j c hj => ⟨(hcc j c hj).1, ids_rd hρT (hcc j c hj).2 (idsL_get hids' hj)⟩⟩
        · rw [hh] at hi hj
          exact hpre.hp.inj i j b hi hj (hmono i b h1) (hmono j b h2)
      · by_cases hiT : i ∈ T
        · have := hnx i hiT
          have hi' : nx0 ≤ i := hi
          omega
        · simp [hiT]
      · rw [hh] at hi
        obtain ⟨k, hk⟩ := Option.ne_none_iff_exists'.1 hi
        exact hnx i (restr_some hk).1
      · rw [hh] at hi
        obtain ⟨k, hk⟩ := Option.ne_none_iff_exists'.1 hi
        have hiT := (restr_some hk).1
        exact .inr ⟨i, hT i hiT, hmono i b hb⟩
    exact hsaw _ _ _ _ hc0

end Go.Abs

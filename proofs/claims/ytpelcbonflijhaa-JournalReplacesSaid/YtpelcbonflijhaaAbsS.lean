/-
  A contract with owned blocks at a call: its ids are renamed to the caller's. Own work; no statement of the seat is proved here.
-/
import Derived.Test.YtpelcbonflijhaaAbsR
namespace Go.Abs
set_option linter.unusedSimpArgs false
set_option linter.unusedVariables false
open Go Go.RowKit
variable {P : Program}

mutual
def renA (τ : Nat → Nat) : AV → AV
  | .p x => .p x
  | .ptr i off => .ptr (τ i) off
  | .sl i off n s => .sl (τ i) off n s
  | .cp cs => .cp cs
  | .agg as => .agg (renL τ as)
  | .tup as => .tup (renL τ as)
  | .iface t a => .iface t (renA τ a)
  | .fn f as bs => .fn f (renL τ as) (renL τ bs)
  | .any => .any
def renL (τ : Nat → Nat) : List AV → List AV
  | [] => []
  | a :: as => renA τ a :: renL τ as
end
theorem renL_map (τ : Nat → Nat) : ∀ cs : List PV, renL τ (cs.map .p) = cs.map .p
  | [] => rfl
  | c :: cs => by simp only [List.map_cons, renL, renA, renL_map τ cs]
theorem renL_get {τ : Nat → Nat} : ∀ {as : List AV} {j : Nat} {b : AV}, (renL τ as)[j]? = some b → ∃ a, as[j]? = some a ∧ b = renA τ a
  | [], j, b, h => by simp [renL] at h
  | a :: as, 0, b, h => by simp [renL] at h; exact ⟨a, rfl, h.symm⟩
  | a :: as, j + 1, b, h => by simp [renL] at h; simpa using renL_get h
theorem renL_len {τ : Nat → Nat} : ∀ (as : List AV), (renL τ as).length = as.length
  | [] => rfl
  | a :: as => by simp [renL, renL_len as]

def renU (τ : Nat → Nat) : List (Nat × Option Blk) → List (Nat × Option Blk)
  | [] => []
  | (i, b) :: r => (τ i, match b with | some b => some ⟨b.t, renL τ b.cs⟩ | none => none) :: renU τ r

theorem ren_rd {τ : Nat → Nat} {D : List Nat} {ρ ρ' : IdMap} {F : FSet} {w : World} (he : ∀ i, i ∈ D → ρ' (τ i) = ρ i) {x : AV} {u : Value} (h : Rd ρ F w x u) : idsA D x → Rd ρ' F w (renA τ x) u := by
  induction h with
  | p x u h => intro _; exact .p _ _ h
  | ptr id off b h => intro hi; exact .ptr _ _ _ (by rw [he id hi]; exact h)
  | sl id off len s b cap h hcap hc => intro hi; exact .sl _ _ _ _ _ _ (by rw [he id hi]; exact h) hcap hc
  | slz id off s A => intro _; exact .slz _ _ _ _
  | cp cs b off f hF hc h1 hr => intro _; exact .cp _ _ _ f hF hc h1 hr
  | agg cs us hl _ ih =>
    intro hi
    refine .agg _ _ (by rw [hl, renL_len]) (fun j c hj => ?_)
    obtain ⟨a, ha, rfl⟩ := renL_get hj
    exact ih j a ha (idsL_get hi ha)
  | tup cs us hl _ ih =>
    intro hi
    refine .tup _ _ (by rw [hl, renL_len]) (fun j c hj => ?_)
    obtain ⟨a, ha, rfl⟩ := renL_get hj
    exact ih j a ha (idsL_get hi ha)
  | iface t x u _ ih => intro hi; exact .iface _ _ _ (ih hi)
  | fn f as bs us vs hl _ hl' _ ih ih' =>
    intro hi
    refine .fn _ _ _ _ _ (by rw [hl, renL_len]) (fun j c hj => ?_) (by rw [hl', renL_len]) (fun j c hj => ?_)
    · obtain ⟨a, ha, rfl⟩ := renL_get hj
      exact ih j a ha (idsL_get hi.1 ha)
    · obtain ⟨a, ha, rfl⟩ := renL_get hj
      exact ih' j a ha (idsL_get hi.2 ha)
  | any u => intro _; exact .any _

theorem keys_ren (τ : Nat → Nat) (u : List (Nat × Option Blk)) : keys (renU τ u) = (keys u).map τ := by
  induction u with
  | nil => rfl
  | cons x r ih => obtain ⟨i, b⟩ := x; simp only [renU, keys, List.map_cons] at ih ⊢; rw [ih]

theorem hget_ren {τ : Nat → Nat} : ∀ {u : List (Nat × Option Blk)} {i : Nat}, nodupB ((keys u).map τ) = true → i ∈ keys u → hget (renU τ u) (τ i) = (hget u i).map fun b => ⟨b.t, renL τ b.cs⟩ := by
  intro u
  induction u with
  | nil => intro i _ hi; cases hi
  | cons x r ih =>
    obtain ⟨k, b⟩ := x
    intro i hn hi
    have hinj := @nodup_inj τ (keys ((k, b) :: r)) hn
    by_cases hk : k = i
    · subst hk
      simp only [renU, hget]
      have : Nat.beq (τ k) (τ k) = true := by simp
      have h2 : Nat.beq k k = true := by simp
      simp only [this, h2]
      cases b <;> rfl
    · have hne : ¬ τ k = τ i := fun e => hk (hinj (by simp [keys]) hi e)
      simp only [renU, hget, beq_no hne, beq_no hk]
      have hi' : i ∈ keys r := by
        simp only [keys, List.map_cons, List.mem_cons] at hi
        rcases hi with hi | hi
        · exact absurd hi.symm hk
        · exact hi
      refine ih ?_ hi'
      simp only [keys, List.map_cons, nodupB] at hn
      cases hm : memB ((r.map (·.1)).map τ) (τ k) with
      | true => rw [hm] at hn; cases hn
      | false => rw [hm] at hn; exact hn

structure Con (P : Program) (f : FuncId) (vs : List AV) (hp : List (Nat × Option Blk)) (v : AV) (u : List (Nat × Option Blk)) : Prop where
  call : FCall P f vs (hget hp) v (liveK hp) u
  ids : idsL (liveK hp) vs
  idh : idsH (liveK hp) hp
  sub : ∀ i, i ∈ liveK hp → i ∈ keys u

structure CallOk (st : AS) (vs : List AV) (vs0 : List AV) (hp0 : List (Nat × Option Blk)) (v0 : AV) (u0 : List (Nat × Option Blk)) (S : List Nat) (τ : Nat → Nat) (nx : Nat) : Prop where
  args : viewAs (hget st.hp) S τ vs0 vs
  blocks : subHp (hget st.hp) S τ hp0
  nd : nodupB ((keys u0).map τ) = true
  live : liveS st.hp S
  le : st.nx ≤ nx
  new : ∀ i, i ∈ keys u0 → i ∈ liveK hp0 ∨ (st.nx ≤ τ i ∧ τ i < nx)
  idv : idsA (keys u0) v0
  idu : idsH (keys u0) u0
  lt : ltAll st.nx S = true

theorem keys_app (a b : List (Nat × Option Blk)) : keys (a ++ b) = keys a ++ keys b := by simp [keys]
theorem keys_del (S : List Nat) : keys (delL S) = S := by
  induction S with
  | nil => rfl
  | cons k r ih => simp only [delL, keys, List.map_cons] at ih ⊢; rw [ih]

theorem callR_ok {o : Oper} {st : AS} {f : FuncId} {vs vs0 : List AV} {hp0 : List (Nat × Option Blk)} {v0 : AV} {u0 : List (Nat × Option Blk)} {S : List Nat} {τ : Nat → Nat} {nx : Nat} (hc : CallIs P o st f vs) (hf : Con P f vs0 hp0 v0 u0)
    (hk : CallOk st vs vs0 hp0 v0 u0 S τ nx) : OpOk P o st (renA τ v0) ((liveK hp0).map τ ++ S) (renU τ u0 ++ delL S) nx := by
  have hblk : ∀ i, i ∈ liveK hp0 → τ i ∉ S ∧ ∃ b0 b, (i, some b0) ∈ hp0 ∧ hget st.hp (τ i) = some b ∧ b0.t = b.t ∧ viewAs (hget st.hp) S τ b0.cs b.cs := by
    intro i hi
    have : ∃ b0, (i, some b0) ∈ hp0 := by
      have key : ∀ (hp : List (Nat × Option Blk)), i ∈ liveK hp → ∃ b0, (i, some b0) ∈ hp := by
        intro hp
        induction hp with
        | nil => intro h; cases h
        | cons x r ih =>
          obtain ⟨k, v⟩ := x
          intro h
          unfold liveK at h
          cases v with
          | some b =>
            rcases List.mem_cons.1 h with rfl | h
            · exact ⟨b, by simp⟩
            · obtain ⟨b0, hb0⟩ := ih h; exact ⟨b0, List.mem_cons_of_mem _ hb0⟩
          | none => obtain ⟨b0, hb0⟩ := ih h; exact ⟨b0, List.mem_cons_of_mem _ hb0⟩
      exact key hp0 hi
    obtain ⟨b0, hb0⟩ := this
    obtain ⟨h1, h2⟩ := subHp_get hk.blocks hb0
    unfold subBlk at h2
    split at h2
    · rename_i b hb; exact ⟨h1, b0, b, hb0, hb, h2.1, h2.2⟩
    · exact h2.elim
  have hlive : ∀ j, j ∈ (liveK hp0).map τ ++ S → hget st.hp j ≠ none := by
    intro j hj
    rcases List.mem_append.1 hj with h1 | h1
    · obtain ⟨i, hi, rfl⟩ := List.mem_map.1 h1
      obtain ⟨_, b0, b, _, hb, _⟩ := hblk i hi
      rw [hb]; simp
    · exact liveS_get hk.live h1
  have hkeys : ∀ j, j ∈ keys (renU τ u0 ++ delL S) ↔ (∃ i, i ∈ keys u0 ∧ τ i = j) ∨ j ∈ S := by
    intro j
    rw [keys_app, keys_ren, keys_del, List.mem_append, List.mem_map]
  have hinj : ∀ i i', i ∈ keys u0 → i' ∈ keys u0 → τ i = τ i' → i = i' := fun i i' h1 h2 he => nodup_inj hk.nd h1 h2 he
  have hkeysOk : ∀ j, j ∈ keys (renU τ u0 ++ delL S) → j ∈ (liveK hp0).map τ ++ S ∨ (st.nx ≤ j ∧ j < nx) := by
    intro j hj
    rcases (hkeys j).1 hj with ⟨i, hi, rfl⟩ | hj
    · rcases hk.new i hi with h1 | h1
      · exact .inl (List.mem_append_left _ (List.mem_map.2 ⟨i, h1, rfl⟩))
      · exact .inr h1
    · exact .inl (List.mem_append_right _ hj)
  have hmT : ∀ i, i ∈ liveK hp0 → τ i ∈ (liveK hp0).map τ ++ S := fun i hi => List.mem_append_left _ (List.mem_map.2 ⟨i, hi, rfl⟩)
  refine ⟨?_, hk.le, hkeysOk, hlive⟩
  intro ρ F a w hpre hin K Q hK
  obtain ⟨us, hz, hr, he⟩ := hc ρ F a w hin
  unfold Oper.wp
  rw [he, hf.call.enter, Oper.upon_enter]
  -- the callee's start
  have hHS : HpOk ρ F w (Abs.restr S (hget st.hp)) := by
    refine ⟨fun i k hik => ?_, fun i j b hi hj h1 h2 => ?_⟩
    · obtain ⟨h1, h2⟩ := restr_some hik
      exact hpre.hp.ok i k (by simp [Abs.restr, h1, h2])
    · have key : ∀ i, Abs.restr S (hget st.hp) i ≠ none → Abs.restr ((liveK hp0).map τ ++ S) (hget st.hp) i ≠ none := by
        intro i hi
        obtain ⟨k, hk'⟩ := Option.ne_none_iff_exists'.1 hi
        obtain ⟨h1, h2⟩ := restr_some hk'
        simp [Abs.restr, h1, h2]
      exact hpre.hp.inj i j b (key i hi) (key j hj) h1 h2
  let ρ0 : IdMap := fun i => if i ∈ liveK hp0 then ρ (τ i) else none
  have hρ0 : ∀ i, i ∈ liveK hp0 → ρ0 i = ρ (τ i) := fun i hi => by simp [ρ0, hi]
  have hfr0 : ∀ i, i ∈ keys u0 → i ∉ liveK hp0 → ρ (τ i) = none := by
    intro i hi hn
    rcases hk.new i hi with h1 | h1
    · exact absurd h1 hn
    · refine hpre.fresh (τ i) ((hkeys _).2 (.inl ⟨i, hi, rfl⟩)) (fun hm => ?_)
      rcases List.mem_append.1 hm with h2 | h2
      · obtain ⟨i', hi', he'⟩ := List.mem_map.1 h2
        have := hinj i' i (hf.sub i' hi') hi he'
        exact hn (this ▸ hi')
      · have := ltAll_get hk.lt h2; omega
  have hOS : ∀ b, OSet ρ S b → b < w.heap.size ∧ OSet ρ (keys (renU τ u0 ++ delL S)) b := by
    rintro b ⟨i, hi, hb⟩
    refine ⟨?_, i, (hkeys i).2 (.inr hi), hb⟩
    obtain ⟨k, hk'⟩ := Option.ne_none_iff_exists'.1 (liveS_get hk.live hi)
    rcases hHS.ok i k (by simp [Abs.restr, hi, hk']) with ⟨_, h0⟩ | ⟨b2, hb2, ho⟩
    · rw [h0] at hb; cases hb
    · rw [hb] at hb2; cases hb2
      obtain ⟨arr, ha, _⟩ := ho.is
      exact (Array.getElem?_eq_some_iff.1 ha).1
  have hfok0 : FOk (unionS F ρ S) w := by
    rintro b (hb | hb)
    · exact hpre.fok b hb
    · exact (hOS b hb).1
  have hpre0 : Pre ρ0 (unionS F ρ S) w (liveK hp0) u0 (hget hp0) := by
    refine ⟨hfok0, ⟨fun i k hik => ?_, fun i j b hi hj h1 h2 => ?_⟩, fun i hi hn => by simp [ρ0, hn]⟩
    · obtain ⟨hi, hik⟩ := restr_some hik
      have hm := hget_some hik
      obtain ⟨h1, h2⟩ := subHp_get hk.blocks hm
      unfold subBlk at h2
      split at h2
      · rename_i b hb
        obtain ⟨ht, hvv⟩ := h2
        rcases hpre.hp.ok (τ i) b (by simp only [Abs.restr, if_pos (hmT i hi), hb]) with ⟨h3, h0⟩ | ⟨bb, hbb, ho⟩
        · rw [h3] at hvv
          refine .inl ⟨?_, by rw [hρ0 i hi]; exact h0⟩
          cases hcs : k.cs with
          | nil => rfl
          | cons x r => rw [hcs] at hvv; simp [viewAs] at hvv
        · refine .inr ⟨bb, by rw [hρ0 i hi]; exact hbb, ⟨fun hF => ?_, ?_⟩⟩
          · rcases hF with hF | ⟨j, hj, hjb⟩
            · exact ho.own hF
            · have := hpre.hp.inj j (τ i) bb (by simp [Abs.restr, hj]; exact liveS_get hk.live hj) (by simp only [Abs.restr, if_pos (hmT i hi), hb]; exact fun h => by cases h) hjb hbb
              exact h1 (this ▸ hj)
          · obtain ⟨arr, ha, hl, hcc⟩ := ho.is
            refine ⟨arr, by rw [ht]; exact ha, by rw [viewAs_len hvv]; exact hl, fun j c hj => ?_⟩
            have hj' : j < b.cs.length := by rw [← viewAs_len hvv]; exact (List.getElem?_eq_some_iff.1 hj).1
            have hrd := viewAs_rd (ρ' := fun i => ρ (τ i)) hHS (fun i b hb => hb) k.cs b.cs (fun j => arr.getD j undef) hvv (fun j a ha => (hcc j a ha).2) j c hj
            exact ⟨(hcc j _ (List.getElem?_eq_getElem hj')).1, ids_rd hρ0 hrd (idsL_get (idsH_get hf.idh hm) hj)⟩
      · exact h2.elim
    · obtain ⟨ki, hki⟩ := Option.ne_none_iff_exists'.1 hi
      obtain ⟨kj, hkj⟩ := Option.ne_none_iff_exists'.1 hj
      have hi' := (restr_some hki).1
      have hj' := (restr_some hkj).1
      rw [hρ0 i hi'] at h1
      rw [hρ0 j hj'] at h2
      have := hpre.hp.inj (τ i) (τ j) b (by
        obtain ⟨_, _, b, _, hb, _⟩ := hblk i hi'
        simp only [Abs.restr, if_pos (hmT i hi'), hb]; exact fun h => by cases h) (by
        obtain ⟨_, _, b, _, hb, _⟩ := hblk j hj'
        simp only [Abs.restr, if_pos (hmT j hj'), hb]; exact fun h => by cases h) h1 h2
      exact hinj i j (hf.sub i hi') (hf.sub j hj') this
  have hargs : ∀ j c, vs0[j]? = some c → Rd ρ0 (unionS F ρ S) w c (us.getD j undef) := by
    intro j c hj
    have hrd := viewAs_rd (ρ' := fun i => ρ (τ i)) hHS (fun i b hb => hb) vs0 vs (fun j => us.getD j undef) hk.args hr j c hj
    exact ids_rd hρ0 hrd (idsL_get hf.ids hj)
  refine (hf.call.tri ρ0 (unionS F ρ S) us w hpre0 (by rw [hz, viewAs_len hk.args]) hargs).mono ?_
  rintro e w' ⟨x, ρ1, F', rfl, hp⟩
  -- back
  let back : Nat → Option Nat := fun j => (keys u0).find? (fun i => Nat.beq (τ i) j)
  have hback : ∀ i, i ∈ keys u0 → back (τ i) = some i := by
    intro i hi
    cases hb : back (τ i) with
    | none =>
      have := List.find?_eq_none.1 hb i hi
      simp at this
    | some i' =>
      have h1 := List.find?_some hb
      have h2 := List.mem_of_find?_eq_some hb
      have := hinj i' i h2 hi (Nat.eq_of_beq_eq_true h1)
      rw [this]
  have hbackN : ∀ j i, back j = some i → i ∈ keys u0 ∧ τ i = j := fun j i hb => ⟨List.mem_of_find?_eq_some hb, Nat.eq_of_beq_eq_true (List.find?_some (p := fun i => Nat.beq (τ i) j) hb)⟩
  let ρ' : IdMap := fun j => match back j with | some i => ρ1 i | none => ρ j
  have hρ' : ∀ i, i ∈ keys u0 → ρ' (τ i) = ρ1 i := fun i hi => by simp only [ρ', hback i hi]
  have hO : ∀ b, OSet ρ0 (keys u0) b → OSet ρ (keys (renU τ u0 ++ delL S)) b := by
    rintro b ⟨i, hi, hb⟩
    have hiT : i ∈ liveK hp0 := by
      by_cases hiT : i ∈ liveK hp0
      · exact hiT
      · simp [ρ0, hiT] at hb
    exact ⟨τ i, (hkeys _).2 (.inl ⟨i, hi, rfl⟩), by rw [← hρ0 i hiT]; exact hb⟩
  have hρ0none : ∀ i, i ∈ keys u0 → ρ (τ i) = none → ρ0 i = none := by
    intro i hi hn
    by_cases hiT : i ∈ liveK hp0
    · rw [hρ0 i hiT]; exact hn
    · simp [ρ0, hiT]
  have hSno : ∀ i, i ∈ keys u0 → τ i ∉ S := by
    intro i hi hS
    by_cases hiT : i ∈ liveK hp0
    · exact (hblk i hiT).1 hS
    · rcases hk.new i hi with h1 | h1
      · exact hiT h1
      · have := ltAll_get hk.lt hS; omega
  refine hK x ρ' F' w' ⟨fun j b hb => ?_, fun j h1 h2 => ?_, fun j b h1 h2 => ?_, ren_rd hρ' hp.rd hk.idv, ⟨fun j k hjk => ?_, fun j j' b hj hj' h1 h2 => ?_⟩, hp.fok, ?_⟩
  · cases hb' : back j with
    | none => simp only [ρ', hb']; exact hb
    | some i =>
      obtain ⟨hi, rfl⟩ := hbackN j i hb'
      rw [hρ' i hi]
      have hiT : i ∈ liveK hp0 := by
        by_cases hiT : i ∈ liveK hp0
        · exact hiT
        · rw [hfr0 i hi hiT] at hb; cases hb
      exact hp.rho i b (by rw [hρ0 i hiT]; exact hb)
  · cases hb' : back j with
    | none => simp only [ρ', hb'] at h2; exact absurd h1 h2
    | some i =>
      obtain ⟨hi, rfl⟩ := hbackN j i hb'
      exact (hkeys _).2 (.inl ⟨i, hi, rfl⟩)
  · cases hb' : back j with
    | none => simp only [ρ', hb'] at h2; rw [h1] at h2; cases h2
    | some i =>
      obtain ⟨hi, rfl⟩ := hbackN j i hb'
      rw [hρ' i hi] at h2
      rcases hp.blk i b (hρ0none i hi h1) h2 with h3 | h3
      · exact .inl h3
      · exact .inr (hO b h3)
  · obtain ⟨hm, hjk⟩ := restr_some hjk
    have hjk' : ∃ i, i ∈ keys u0 ∧ τ i = j := by
      rcases List.mem_append.1 hm with h1 | h1
      · rcases List.mem_append.1 h1 with h2 | h2
        · obtain ⟨i, hi, he⟩ := List.mem_map.1 h2
          exact ⟨i, hf.sub i hi, he⟩
        · exfalso
          have hjS : j ∈ keys (renU τ u0 ++ delL S) := (hkeys j).2 (.inr h2)
          simp only [updH, if_pos hjS, hget_append] at hjk
          have hn : j ∉ keys (renU τ u0) := by
            rw [keys_ren]
            intro hm
            obtain ⟨i, hi, he⟩ := List.mem_map.1 hm
            exact hSno i hi (he ▸ h2)
          simp only [updH, if_neg hn] at hjk
          have hdel := hget_del S [] j
          simp only [List.append_nil] at hdel
          rw [hdel, if_pos h2] at hjk
          cases hjk
      · rcases (hkeys j).1 h1 with h2 | h2
        · exact h2
        · exfalso
          simp only [updH, if_pos h1, hget_append] at hjk
          have hn : j ∉ keys (renU τ u0) := by
            rw [keys_ren]
            intro hm
            obtain ⟨i, hi, he⟩ := List.mem_map.1 hm
            exact hSno i hi (he ▸ h2)
          simp only [updH, if_neg hn] at hjk
          have hdel := hget_del S [] j
          simp only [List.append_nil] at hdel
          rw [hdel, if_pos h2] at hjk
          cases hjk
    obtain ⟨i, hi, rfl⟩ := hjk'
    have hk1 : τ i ∈ keys (renU τ u0 ++ delL S) := (hkeys _).2 (.inl ⟨i, hi, rfl⟩)
    have hk2 : τ i ∈ keys (renU τ u0) := by rw [keys_ren]; exact List.mem_map.2 ⟨i, hi, rfl⟩
    simp only [updH, if_pos hk1, hget_append, if_pos hk2] at hjk
    rw [hget_ren hk.nd hi] at hjk
    obtain ⟨b0, hb0, rfl⟩ := Option.map_eq_some_iff.1 hjk
    have hin0 : restr (liveK hp0 ++ keys u0) (updH u0 (hget hp0)) i = some b0 := by simp [restr, hi, updH, hb0]
    rcases hp.hp.ok i b0 hin0 with ⟨h3, h0⟩ | ⟨bb, hbb, ho⟩
    · exact .inl ⟨by simp [h3, renL], by rw [hρ' i hi]; exact h0⟩
    · refine .inr ⟨bb, by rw [hρ' i hi]; exact hbb, ⟨ho.own, ?_⟩⟩
      obtain ⟨arr, ha, hl, hcc⟩ := ho.is
      refine ⟨arr, ha, by simp only [renL_len]; exact hl, fun q c hq => ?_⟩
      obtain ⟨a', ha', rfl⟩ := renL_get hq
      exact ⟨(hcc q a' ha').1, ren_rd hρ' (hcc q a' ha').2 (idsL_get (idsH_get hk.idu (hget_some hb0)) ha')⟩
  · have key : ∀ (j b : Nat), restr (((liveK hp0).map τ ++ S) ++ keys (renU τ u0 ++ delL S)) (updH (renU τ u0 ++ delL S) (hget st.hp)) j ≠ none → ∃ i, i ∈ keys u0 ∧ τ i = j ∧ restr (liveK hp0 ++ keys u0) (updH u0 (hget hp0)) i ≠ none := by
      intro j b hj
      obtain ⟨k, hjk⟩ := Option.ne_none_iff_exists'.1 hj
      obtain ⟨hm, hjk⟩ := restr_some hjk
      have hjk' : (∃ i, i ∈ keys u0 ∧ τ i = j) ∨ j ∈ S := by
        rcases List.mem_append.1 hm with h1 | h1
        · rcases List.mem_append.1 h1 with h2 | h2
          · obtain ⟨i, hi, he⟩ := List.mem_map.1 h2
            exact .inl ⟨i, hf.sub i hi, he⟩
          · exact .inr h2
        · exact (hkeys j).1 h1
      by_cases hjS : j ∈ S
      · exfalso
        have h1 : j ∈ keys (renU τ u0 ++ delL S) := (hkeys j).2 (.inr hjS)
        simp only [updH, if_pos h1, hget_append] at hjk
        have hn : j ∉ keys (renU τ u0) := by
          rw [keys_ren]
          intro hm
          obtain ⟨i, hi, he⟩ := List.mem_map.1 hm
          exact hSno i hi (he ▸ hjS)
        simp only [updH, if_neg hn] at hjk
        have hdel := hget_del S [] j
        simp only [List.append_nil] at hdel
        rw [hdel, if_pos hjS] at hjk
        cases hjk
      · rcases hjk' with ⟨i, hi, rfl⟩ | h
        · refine ⟨i, hi, rfl, ?_⟩
          have hk1 : τ i ∈ keys (renU τ u0 ++ delL S) := (hkeys _).2 (.inl ⟨i, hi, rfl⟩)
          have hk2 : τ i ∈ keys (renU τ u0) := by rw [keys_ren]; exact List.mem_map.2 ⟨i, hi, rfl⟩
          simp only [updH, if_pos hk1, hget_append, if_pos hk2] at hjk
          rw [hget_ren hk.nd hi] at hjk
          obtain ⟨b0, hb0, _⟩ := Option.map_eq_some_iff.1 hjk
          simp [restr, hi, updH, hb0]
        · exact absurd h hjS
    obtain ⟨i, hi, rfl, hi'⟩ := key j b hj
    obtain ⟨i', hii, rfl, hi''⟩ := key j' b hj'
    rw [hρ' i hi] at h1
    rw [hρ' i' hii] at h2
    rw [hp.hp.inj i i' b hi' hi'' h1 h2]
  · refine ⟨hp.chg.os, hp.chg.tape, hp.chg.output, hp.chg.size, fun b hb hn => hp.chg.same b hb (fun h => hn (hO b h)), hp.chg.cells, fun b hb => hp.chg.sub b (.inl hb), fun b hb => ?_⟩
    rcases hp.chg.new b hb with (h1 | h1) | h1 | h1
    · exact .inl h1
    · exact .inr (.inr (hOS b h1).2)
    · exact .inr (.inl h1)
    · exact .inr (.inr (hO b h1))

theorem aw_call {c : Ctx} {ks : List Nat} {n : Nat} {f : FuncId} {vs vs0 : List AV} {hp0 : List (Nat × Option Blk)} {v0 : AV} {u0 : List (Nat × Option Blk)} {o : Oper} {all : Array Oper} {os : List Oper} {k : List It} {st : AS} (S : List Nat) (τ : Nat → Nat) (nx : Nat)
    (hf : Con c.P f vs0 hp0 v0 u0) (hk : CallOk st vs vs0 hp0 v0 u0 S τ nx) (h : AW c ks n (.ops all os :: k) (eff st o.dst (renA τ v0) (renU τ u0 ++ delL S) nx)) : CallG c f vs o all os k st := by
  intro hc ρ F a w hcc
  exact step_ok (callR_ok hc hf hk) hcc _ _ (fun ρ' F' a' w' hc' => AW_sound c ks n _ _ h ρ' F' a' w' hc')

theorem ad_call {c : Ctx} {ks : List Nat} {n : Nat} {f : FuncId} {vs vs0 : List AV} {hp0 : List (Nat × Option Blk)} {v0 : AV} {u0 : List (Nat × Option Blk)} {o : Oper} {all : Array Oper} {os : List Oper} {acc : List FP} {k : List It} {st : AS} (S : List Nat) (τ : Nat → Nat) (nx : Nat)
    (hf : Con c.P f vs0 hp0 v0 u0) (hk : CallOk st vs vs0 hp0 v0 u0 S τ nx) (hlt : ltAll nx ((liveK hp0).map τ ++ S) = true)
    (h : AD c ks n all k os (acc ++ [((liveK hp0).map τ ++ S, keys (renU τ u0 ++ delL S))]) (eff st o.dst (renA τ v0) (renU τ u0 ++ delL S) nx)) : CallD c f vs o all os acc k st := by
  intro hc
  exact ⟨_, _, _, nx, callR_ok hc hf hk, fun i hi => ltAll_get hlt hi, AD_sound c ks n all k _ _ _ h⟩

theorem restr_live (hp : List (Nat × Option Blk)) : hget hp = restr (liveK hp) (hget hp) := by
  funext i
  unfold restr
  split
  · rfl
  · rename_i hi
    cases h : hget hp i with
    | none => rfl
    | some b => exact absurd (liveK_mem (hget_some h)) hi

theorem con_of {f : FuncId} {fn : Func} {code : Code} {vs : List AV} {v : AV} {u : List (Nat × Option Blk)} {hp0 : List (Nat × Option Blk)} {n : Nat} (nx0 : Nat)
    (hf : P.funcs[f]? = some fn) (hb : fn.body = some code) (hname : (fn.name == "runtime.NumGoroutine") = false) (hn : fn.ntmps = n) (hlen : vs.length ≤ n)
    (hlt : ltAll nx0 (liveK hp0) = true) (hargs : idsL (liveK hp0) vs) (hids : idsH (liveK hp0) hp0) (hT : ∀ i, i ∈ liveK hp0 → i ∈ keys u)
    (haw : ∀ c : Ctx, c.P = P → (∀ i, c.ρ0 i ≠ none → i ∈ liveK hp0) → (∀ k st S σ, EndOk P fn.results.toList st v (liveK hp0) u S σ → SAW c (.code .ret :: k) st ∧ SAW c [] st) → SAW c [.code code] ⟨n, argS 0 vs, hp0, nx0⟩) : Con P f vs hp0 v u :=
  ⟨fcall_of hf hb hname hn hlen (restr_live hp0) (fun i hi => ltAll_get hlt hi) hargs hids hT (fun c hP h0 hfin => haw c hP h0 (fun k st S σ he => hfin k st S σ (hP ▸ he))), hargs, hids, hT⟩

theorem saw_loopS {α : Type} {c : Ctx} {body : Code} {k : List It} {st : AS} (Inv : α → AS) (μ : α → Nat) (x0 : α) (S : List Nat) (σ : Nat → Nat) (hs : Sub S σ st (Inv x0)) (hσ : ∀ i, c.ρ0 i ≠ none → σ i = i)
    (hstep : ∀ x, SAW c (.code body :: .inv (fun st' => ∃ y, μ y < μ x ∧ ∃ S σ, Sub S σ st' (Inv y) ∧ ∀ i, c.ρ0 i ≠ none → σ i = i) :: k) (Inv x)) : SAW c (.code (.loop body) :: k) st :=
  saw_loop Inv μ x0 (fun hc => ⟨_, _, hs.conc hσ hc⟩) hstep

theorem FPure.con {f : FuncId} {vs : List AV} {v : AV} (h : FPure P f vs v) (hi : idsL [] vs) : Con P f vs [] v [] := ⟨h _, hi, trivial, fun i hi => by cases hi⟩

end Go.Abs

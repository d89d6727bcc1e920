/-
  Rules of the walk: a state seen as another (frozen, renamed, less known), calls, loops, returns; a contract out of a walk. Own work; no statement of the seat is proved here.
-/
import Derived.Test.YtpelcbonflijhaaAbsM
import Derived.LoopN
namespace Go.Abs
set_option linter.unusedSimpArgs false
set_option linter.unusedVariables false
open Go Go.RowKit

/-! an abstract value seen as a pure one: the blocks S become frozen -/
mutual
def viewP (h : Heap) (S : List Nat) : PV → AV → Prop
  | .v x, a => a = .p (.v x)
  | .data s n cs, a => match a with
    | .p y => y = .data s n cs ∨ (y = .v (.slice none 0 0) ∧ n = 0 ∧ cs = [])
    | .sl id off n' s' => id ∈ S ∧ n' = n ∧ s' = s ∧ ∃ b, h id = some b ∧ off + n * s ≤ b.cs.length ∧ viewPs h S cs ((b.cs.drop off).take (n * s))
    | _ => False
  | .iface t x, a => match a with
    | .p y => y = .iface t x
    | .iface t' a' => t' = t ∧ viewP h S x a'
    | _ => False
  | .agg cs, a => match a with
    | .p y => y = .agg cs
    | .agg as => viewPs h S cs as
    | _ => False
def viewPs (h : Heap) (S : List Nat) : List PV → List AV → Prop
  | [], as => as = []
  | c :: cs, as => match as with
    | a :: as => viewP h S c a ∧ viewPs h S cs as
    | [] => False
end

theorem viewP_refl (h : Heap) (S : List Nat) (c : PV) : viewP h S c (.p c) := by
  cases c <;> simp [viewP]
theorem viewPs_refl (h : Heap) (S : List Nat) : ∀ (cs : List PV), viewPs h S cs (cs.map .p)
  | [] => by simp [viewPs]
  | c :: cs => by simp only [List.map_cons, viewPs]; exact ⟨viewP_refl h S c, viewPs_refl h S cs⟩

def unionS (F : FSet) (ρ : IdMap) (S : List Nat) : FSet := fun b => F b ∨ OSet ρ S b

mutual
theorem viewP_rd {h : Heap} {S : List Nat} {ρ : IdMap} {F : FSet} {w : World} (hH : HpOk ρ F w (restr S h)) : ∀ (y : PV) (a : AV) (u : Value), viewP h S y a → Rd ρ F w a u → RdP (unionS F ρ S) w y u
  | .v x, a, u, hv, hr => by
    simp only [viewP] at hv
    subst hv
    cases hr with
    | p _ _ h => exact h.mono (fun _ h => .inl h) (fun _ _ => rfl)
  | .data s n cs, a, u, hv, hr => by
    cases a with
    | p y =>
      simp only [viewP] at hv
      rcases hv with rfl | ⟨rfl, rfl, rfl⟩
      · cases hr with
        | p _ _ h => exact h.mono (fun _ h => .inl h) (fun _ _ => rfl)
      · have := hr.pv
        subst this
        exact .nil _ _ _
    | sl id off n' s' =>
      simp only [viewP] at hv
      obtain ⟨hS, rfl, rfl, b, hb, hl, hcs⟩ := hv
      rcases hr.slInv with ⟨rfl, A, rfl⟩ | ⟨bb, cap, hbb, rfl, hcap, hcc⟩
      · simp only [Nat.zero_mul, List.take_zero] at hcs
        cases cs with
        | nil => exact .nil _ _ _
        | cons c cs => simp [viewPs] at hcs
      · have hlen := viewPs_len hcs
        rcases hH.ok id b (by simp [restr, hS, hb]) with ⟨h1, h0⟩ | ⟨b2, hb2, hblk⟩
        · rw [h0] at hbb; cases hbb
        rw [hbb] at hb2; cases hb2
        obtain ⟨arr, ha, hln, hcells⟩ := hblk.is
        have hcl : cs.length = n' * s' := by rw [hlen]; simp; omega
        refine .data s' n' cs bb off cap (fun j => arr.getD (off + j) undef) hcl hcap (.inr ⟨id, hS, hbb⟩) (fun j hj => cell_of ha (by omega)) (fun j hj => ?_) ?_
        · have hj2 : off + j < b.cs.length := by omega
          exact (hcells (off + j) _ (List.getElem?_eq_getElem hj2)).1
        · refine viewPs_rd hH cs _ (fun j => arr.getD (off + j) undef) hcs (fun j c hj => ?_)
          rw [List.getElem?_take] at hj
          split at hj
          · exact (hcells (off + j) c (by simpa using hj)).2
          · cases hj
    | _ => simp [viewP] at hv
  | .iface t x, a, u, hv, hr => by
    cases a with
    | p y =>
      simp only [viewP] at hv
      subst hv
      cases hr with
      | p _ _ h => exact h.mono (fun _ h => .inl h) (fun _ _ => rfl)
    | iface t' a' =>
      simp only [viewP] at hv
      obtain ⟨rfl, hv⟩ := hv
      cases hr with
      | iface _ _ u' h => exact .iface _ _ _ (viewP_rd hH x a' u' hv h)
    | _ => simp [viewP] at hv
  | .agg cs, a, u, hv, hr => by
    cases a with
    | p y =>
      simp only [viewP] at hv
      subst hv
      cases hr with
      | p _ _ h => exact h.mono (fun _ h => .inl h) (fun _ _ => rfl)
    | agg as =>
      simp only [viewP] at hv
      obtain ⟨us, rfl, hz, hr'⟩ := hr.aggInv
      refine .agg cs us (by rw [hz, viewPs_len hv]) ?_
      exact viewPs_rd hH cs as (fun j => us.getD j undef) hv hr'
    | _ => simp [viewP] at hv
theorem viewPs_rd {h : Heap} {S : List Nat} {ρ : IdMap} {F : FSet} {w : World} (hH : HpOk ρ F w (restr S h)) : ∀ (cs : List PV) (as : List AV) (f : Nat → Value), viewPs h S cs as → (∀ j a, as[j]? = some a → Rd ρ F w a (f j)) →
    ∀ j c, cs[j]? = some c → RdP (unionS F ρ S) w c (f j)
  | [], as, f, _, _ => fun j c hj => by simp at hj
  | c :: cs, [], f, hv, _ => by simp [viewPs] at hv
  | c :: cs, a :: as, f, hv, hr => fun j c' hj => by
    simp only [viewPs] at hv
    cases j with
    | zero => simp at hj; subst hj; exact viewP_rd hH c a (f 0) hv.1 (hr 0 a rfl)
    | succ j => exact viewPs_rd hH cs as (fun j => f (j + 1)) hv.2 (fun j a ha => hr (j + 1) a (by simpa using ha)) j c' (by simpa using hj)
theorem viewPs_len {h : Heap} {S : List Nat} : ∀ {cs : List PV} {as : List AV}, viewPs h S cs as → cs.length = as.length
  | [], as, hv => by simp only [viewPs] at hv; subst hv; rfl
  | c :: cs, [], hv => by simp [viewPs] at hv
  | c :: cs, a :: as, hv => by simp only [viewPs] at hv; simp [viewPs_len hv.2]
end

/-! an abstract value seen as another -/
mutual
def viewA (h : Heap) (S : List Nat) (σ : Nat → Nat) : AV → AV → Prop
  | .any, _ => True
  | .p y, a => viewP h S y a
  | .ptr i off, a => a = .ptr (σ i) off
  | .sl i off n s, a => a = .sl (σ i) off n s ∨ (n = 0 ∧ a = .p (.v (.slice none 0 0)))
  | .cp cs, a => match a with
    | .cp cs' => cs' = cs
    | .ptr id off => id ∈ S ∧ ∃ b, h id = some b ∧ off + cs.length ≤ b.cs.length ∧ viewPs h S cs ((b.cs.drop off).take cs.length)
    | _ => False
  | .agg bs, a => match a with
    | .agg as => viewAs h S σ bs as
    | _ => False
  | .tup bs, a => match a with
    | .tup as => viewAs h S σ bs as
    | _ => False
  | .iface t b, a => match a with
    | .iface t' a' => t' = t ∧ viewA h S σ b a'
    | _ => False
  | .fn f bs cs, a => match a with
    | .fn f' bs' cs' => f' = f ∧ viewAs h S σ bs bs' ∧ viewAs h S σ cs cs'
    | _ => False
def viewAs (h : Heap) (S : List Nat) (σ : Nat → Nat) : List AV → List AV → Prop
  | [], as => as = []
  | b :: bs, as => match as with
    | a :: as => viewA h S σ b a ∧ viewAs h S σ bs as
    | [] => False
end

mutual
theorem viewA_rd {h : Heap} {S : List Nat} {σ : Nat → Nat} {ρ ρ' : IdMap} {F : FSet} {w : World} (hH : HpOk ρ F w (restr S h)) (hρ : ∀ i b, ρ (σ i) = some b → ρ' i = some b) :
    ∀ (b a : AV) (u : Value), viewA h S σ b a → Rd ρ F w a u → Rd ρ' (unionS F ρ S) w b u
  | .any, a, u, _, _ => .any _
  | .p y, a, u, hv, hr => .p _ _ (viewP_rd hH y a u (by simpa only [viewA] using hv) hr)
  | .ptr i off, a, u, hv, hr => by
    simp only [viewA] at hv
    subst hv
    obtain ⟨b, hb, rfl⟩ := hr.ptrInv
    exact .ptr _ _ _ (hρ _ _ hb)
  | .sl i off n s, a, u, hv, hr => by
    simp only [viewA] at hv
    rcases hv with hv | ⟨rfl, rfl⟩
    rotate_left
    · have := hr.pv
      subst this
      exact .slz _ _ _ _
    subst hv
    rcases hr.slInv with ⟨rfl, A, rfl⟩ | ⟨b, cap, hb, rfl, hcap, hcc⟩
    · exact .slz _ _ _ _
    · exact .sl _ _ _ _ _ _ (hρ _ _ hb) hcap hcc
  | .cp cs, a, u, hv, hr => by
    cases a with
    | cp cs' =>
      simp only [viewA] at hv
      subst hv
      obtain ⟨b, off, f, rfl, hF, hc, h1, hr'⟩ := hr.cpInv
      exact .cp _ _ _ f (.inl hF) hc h1 (fun j c hj => (hr' j c hj).mono (fun _ h => .inl h) (fun _ _ => rfl))
    | ptr id off =>
      simp only [viewA] at hv
      obtain ⟨hS, b, hb, hl, hcs⟩ := hv
      obtain ⟨bb, hbb, rfl⟩ := hr.ptrInv
      rcases hH.ok id b (by simp [restr, hS, hb]) with ⟨h1, h0⟩ | ⟨b2, hb2, hblk⟩
      · rw [h0] at hbb; cases hbb
      rw [hbb] at hb2; cases hb2
      obtain ⟨arr, ha, hln, hcells⟩ := hblk.is
      refine .cp cs bb off (fun j => arr.getD (off + j) undef) (.inr ⟨id, hS, hbb⟩) (fun j hj => cell_of ha (by omega)) (fun j hj => ?_) ?_
      · have hj2 : off + j < b.cs.length := by omega
        exact (hcells (off + j) _ (List.getElem?_eq_getElem hj2)).1
      · refine viewPs_rd hH cs _ (fun j => arr.getD (off + j) undef) hcs (fun j c hj => ?_)
        rw [List.getElem?_take] at hj
        split at hj
        · exact (hcells (off + j) c (by simpa using hj)).2
        · cases hj
    | _ => simp [viewA] at hv
  | .agg bs, a, u, hv, hr => by
    cases a with
    | agg as =>
      simp only [viewA] at hv
      obtain ⟨us, rfl, hz, hr'⟩ := hr.aggInv
      exact .agg _ _ (by rw [hz, viewAs_len hv]) (viewAs_rd hH hρ bs as (fun j => us.getD j undef) hv hr')
    | _ => simp [viewA] at hv
  | .tup bs, a, u, hv, hr => by
    cases a with
    | tup as =>
      simp only [viewA] at hv
      obtain ⟨us, rfl, hz, hr'⟩ := hr.tupInv
      exact .tup _ _ (by rw [hz, viewAs_len hv]) (viewAs_rd hH hρ bs as (fun j => us.getD j undef) hv hr')
    | _ => simp [viewA] at hv
  | .iface t b, a, u, hv, hr => by
    cases a with
    | iface t' a' =>
      simp only [viewA] at hv
      obtain ⟨rfl, hv⟩ := hv
      cases hr with
      | iface _ _ u' h => exact .iface _ _ _ (viewA_rd hH hρ b a' u' hv h)
    | _ => simp [viewA] at hv
  | .fn f bs cs, a, u, hv, hr => by
    cases a with
    | fn f' bs' cs' =>
      simp only [viewA] at hv
      obtain ⟨rfl, h1, h2⟩ := hv
      cases hr with
      | fn _ _ _ us vs hl hr1 hl' hr2 => exact .fn _ _ _ us vs (by rw [hl, viewAs_len h1]) (viewAs_rd hH hρ bs bs' (fun j => us.getD j undef) h1 hr1) (by rw [hl', viewAs_len h2]) (viewAs_rd hH hρ cs cs' (fun j => vs.getD j undef) h2 hr2)
    | _ => simp [viewA] at hv
theorem viewAs_rd {h : Heap} {S : List Nat} {σ : Nat → Nat} {ρ ρ' : IdMap} {F : FSet} {w : World} (hH : HpOk ρ F w (restr S h)) (hρ : ∀ i b, ρ (σ i) = some b → ρ' i = some b) :
    ∀ (bs as : List AV) (f : Nat → Value), viewAs h S σ bs as → (∀ j a, as[j]? = some a → Rd ρ F w a (f j)) → ∀ j b, bs[j]? = some b → Rd ρ' (unionS F ρ S) w b (f j)
  | [], as, f, _, _ => fun j c hj => by simp at hj
  | c :: cs, [], f, hv, _ => by simp [viewAs] at hv
  | c :: cs, a :: as, f, hv, hr => fun j c' hj => by
    simp only [viewAs] at hv
    cases j with
    | zero => simp at hj; subst hj; exact viewA_rd hH hρ c a (f 0) hv.1 (hr 0 a rfl)
    | succ j => exact viewAs_rd hH hρ cs as (fun j => f (j + 1)) hv.2 (fun j a ha => hr (j + 1) a (by simpa using ha)) j c' (by simpa using hj)
theorem viewAs_len {h : Heap} {S : List Nat} {σ : Nat → Nat} : ∀ {bs as : List AV}, viewAs h S σ bs as → bs.length = as.length
  | [], as, hv => by simp only [viewAs] at hv; subst hv; rfl
  | c :: cs, [], hv => by simp [viewAs] at hv
  | c :: cs, a :: as, hv => by simp only [viewAs] at hv; simp [viewAs_len hv.2]
end

mutual
theorem viewA_refl (h : Heap) (S : List Nat) : ∀ (b : AV), viewA h S (fun i => i) b b
  | .any => trivial
  | .p y => by simp only [viewA]; exact viewP_refl h S y
  | .ptr i off => by simp [viewA]
  | .sl i off n s => by simp [viewA]
  | .cp cs => by simp [viewA]
  | .agg bs => by simp only [viewA]; exact viewAs_refl h S bs
  | .tup bs => by simp only [viewA]; exact viewAs_refl h S bs
  | .iface t b => by simp only [viewA, true_and]; exact viewA_refl h S b
  | .fn f bs cs => by simp only [viewA, true_and]; exact ⟨viewAs_refl h S bs, viewAs_refl h S cs⟩
theorem viewAs_refl (h : Heap) (S : List Nat) : ∀ (bs : List AV), viewAs h S (fun i => i) bs bs
  | [] => by simp [viewAs]
  | b :: bs => by simp only [viewAs]; exact ⟨viewA_refl h S b, viewAs_refl h S bs⟩
end
theorem viewAs_pure (h : Heap) (S : List Nat) (σ : Nat → Nat) : ∀ (cs : List PV), viewAs h S σ (cs.map .p) (cs.map .p)
  | [] => by simp [viewAs]
  | c :: cs => by simp only [List.map_cons, viewAs, viewA]; exact ⟨viewP_refl h S c, viewAs_pure h S σ cs⟩

/-! a state seen as another -/
def subSl (h : Heap) (S : List Nat) (σ : Nat → Nat) (sl : List (Nat × AV)) : List (Nat × AV) → Prop
  | [] => True
  | (s, b) :: r => viewA h S σ b (lk sl s) ∧ subSl h S σ sl r
def subBlk (h : Heap) (S : List Nat) (σ : Nat → Nat) (b' : Blk) : Option Blk → Prop
  | some b => b'.t = b.t ∧ viewAs h S σ b'.cs b.cs
  | none => False
def subHp (h : Heap) (S : List Nat) (σ : Nat → Nat) : List (Nat × Option Blk) → Prop
  | [] => True
  | (i, b) :: r => (match b with
    | some b' => memB S (σ i) = false ∧ subBlk h S σ b' (h (σ i))
    | none => True) ∧ subHp h S σ r
def liveK : List (Nat × Option Blk) → List Nat
  | [] => []
  | (i, b) :: r => match b with
    | some _ => i :: liveK r
    | none => liveK r
def nodupB : List Nat → Bool
  | [] => true
  | k :: r => match memB r k with | true => false | false => nodupB r
def ltAll (n : Nat) : List Nat → Bool
  | [] => true
  | k :: r => match Nat.blt k n with | true => ltAll n r | false => false
def liveS (hp : List (Nat × Option Blk)) : List Nat → Prop
  | [] => True
  | k :: r => (hget hp k).isSome = true ∧ liveS hp r

structure Sub (S : List Nat) (σ : Nat → Nat) (st st' : AS) : Prop where
  n : st'.n = st.n
  slots : subSl (hget st.hp) S σ st.sl st'.sl
  blocks : subHp (hget st.hp) S σ st'.hp
  nd : nodupB ((liveK st'.hp).map σ) = true
  lt : ltAll st'.nx (liveK st'.hp) = true
  live : liveS st.hp S
  fresh : ∀ i, st'.nx ≤ i → st.nx ≤ σ i

theorem subSl_get {h : Heap} {S : List Nat} {σ : Nat → Nat} {sl sl' : List (Nat × AV)} (hs : subSl h S σ sl sl') (s : Nat) : viewA h S σ (lk sl' s) (lk sl s) := by
  induction sl' with
  | nil => simp [lk, viewA]
  | cons x r ih =>
    obtain ⟨k, b⟩ := x
    rw [lk_cons]
    split
    · rename_i e; subst e; exact hs.1
    · exact ih hs.2

theorem hget_some {hp : List (Nat × Option Blk)} {i : Nat} {b : Blk} (h : hget hp i = some b) : (i, some b) ∈ hp := by
  induction hp with
  | nil => simp [hget] at h
  | cons x r ih =>
    obtain ⟨k, v⟩ := x
    by_cases hk : k = i
    · subst hk
      simp [hget] at h
      subst h; simp
    · have : hget ((k, v) :: r) i = hget r i := by show (match Nat.beq k i with | true => v | false => hget r i) = _; rw [beq_no hk]
      rw [this] at h
      exact List.mem_cons_of_mem _ (ih h)

theorem liveK_mem {hp : List (Nat × Option Blk)} {i : Nat} {b : Blk} (h : (i, some b) ∈ hp) : i ∈ liveK hp := by
  induction hp with
  | nil => cases h
  | cons x r ih =>
    obtain ⟨k, v⟩ := x
    rcases List.mem_cons.1 h with h1 | h1
    · cases h1; simp [liveK]
    · unfold liveK
      cases v with
      | some b => exact List.mem_cons_of_mem _ (ih h1)
      | none => exact ih h1

theorem subHp_get {h : Heap} {S : List Nat} {σ : Nat → Nat} {hp : List (Nat × Option Blk)} (hs : subHp h S σ hp) {i : Nat} {b : Blk} (hm : (i, some b) ∈ hp) : σ i ∉ S ∧ subBlk h S σ b (h (σ i)) := by
  induction hp with
  | nil => cases hm
  | cons x r ih =>
    obtain ⟨k, v⟩ := x
    rcases List.mem_cons.1 hm with h1 | h1
    · cases h1
      have := hs.1
      simp only at this
      exact ⟨fun hS => (by rw [(memB_iff S _).2 hS] at this; cases this.1), this.2⟩
    · exact ih hs.2 h1

theorem nodup_inj {σ : Nat → Nat} {l : List Nat} (h : nodupB (l.map σ) = true) {i j : Nat} (hi : i ∈ l) (hj : j ∈ l) (he : σ i = σ j) : i = j := by
  induction l with
  | nil => cases hi
  | cons k r ih =>
    simp only [List.map_cons, nodupB] at h
    cases hm : memB (r.map σ) (σ k) with
    | true => rw [hm] at h; cases h
    | false =>
      rw [hm] at h
      have hno : ∀ x, x ∈ r → σ x ≠ σ k := fun x hx e => by
        have : memB (r.map σ) (σ k) = true := (memB_iff _ _).2 (List.mem_map.2 ⟨x, hx, e⟩)
        rw [hm] at this; cases this
      rcases List.mem_cons.1 hi with hi | hi <;> rcases List.mem_cons.1 hj with hj | hj
      · rw [hi, hj]
      · rw [hi] at he; exact absurd he.symm (hno j hj)
      · rw [hj] at he; exact absurd he (hno i hi)
      · exact ih h hi hj

theorem ltAll_get {n : Nat} {l : List Nat} (h : ltAll n l = true) {i : Nat} (hi : i ∈ l) : i < n := by
  induction l with
  | nil => cases hi
  | cons k r ih =>
    unfold ltAll at h
    cases hb : Nat.blt k n with
    | false => rw [hb] at h; cases h
    | true =>
      rw [hb] at h
      rcases List.mem_cons.1 hi with rfl | hi
      · simpa [Nat.blt_eq] using hb
      · exact ih h hi

theorem liveS_get {hp : List (Nat × Option Blk)} {S : List Nat} (h : liveS hp S) {i : Nat} (hi : i ∈ S) : hget hp i ≠ none := by
  induction S with
  | nil => cases hi
  | cons k r ih =>
    rcases List.mem_cons.1 hi with rfl | hi
    · have := h.1; intro e; rw [e] at this; cases this
    · exact ih h.2 hi

theorem Sub.conc {S : List Nat} {σ : Nat → Nat} {st st' : AS} (hs : Sub S σ st st') {c : Ctx} (hσ : ∀ i, c.ρ0 i ≠ none → σ i = i) {ρ : IdMap} {F : FSet} {a : Act} {w : World} (h : Conc c ρ F st a w) :
    Conc c (fun i => ρ (σ i)) (unionS F ρ S) st' a w := by
  have hH := h.heap.restr S
  have hblk : ∀ i b', hget st'.hp i = some b' → i < st'.nx ∧ i ∈ liveK st'.hp ∧ σ i ∉ S ∧ ∃ b, hget st.hp (σ i) = some b ∧ b'.t = b.t ∧ viewAs (hget st.hp) S σ b'.cs b.cs := by
    intro i b' hb'
    have hm := hget_some hb'
    have hl := liveK_mem hm
    obtain ⟨h1, h2⟩ := subHp_get hs.blocks hm
    refine ⟨ltAll_get hs.lt hl, hl, h1, ?_⟩
    unfold subBlk at h2
    split at h2
    · rename_i b hb; exact ⟨b, hb, h2.1, h2.2⟩
    · exact h2.elim
  have hOlt : ∀ b, OSet ρ S b → b < w.heap.size ∧ (c.w0.heap.size ≤ b ∨ c.O b) := by
    rintro b ⟨i, hi, hb⟩
    have hl := liveS_get hs.live hi
    refine ⟨?_, h.own i b hl hb⟩
    obtain ⟨k, hk⟩ := Option.ne_none_iff_exists'.1 hl
    rcases h.heap.ok i k hk with ⟨_, h0⟩ | ⟨b2, hb2, ho⟩
    · rw [h0] at hb; cases hb
    · rw [hb] at hb2; cases hb2
      obtain ⟨arr, ha, _⟩ := ho.is
      exact (Array.getElem?_eq_some_iff.1 ha).1
  refine ⟨h.defers, by rw [hs.n]; exact h.size, fun s => viewA_rd hH (fun i b hb => hb) _ _ _ (subSl_get hs.slots s) (h.slots s), ⟨fun i k hk => ?_, fun i j b hi hj h1 h2 => ?_⟩, fun i hi => h.fresh _ (hs.fresh i hi), ?_, ?_, fun i hi => ?_, fun i b hi hb => ?_, fun i b hb => ?_⟩
  · obtain ⟨hlt, hlk, hS, b, hb, ht, hv⟩ := hblk i k hk
    rcases h.heap.ok (σ i) b hb with ⟨h1, h0⟩ | ⟨bb, hbb, ho⟩
    · rw [h1] at hv
      refine .inl ⟨?_, h0⟩
      cases hcs : k.cs with
      | nil => rfl
      | cons x r => rw [hcs] at hv; simp [viewAs] at hv
    · refine .inr ⟨bb, hbb, ⟨fun hF => ?_, ?_⟩⟩
      · rcases hF with hF | ⟨j, hj, hjb⟩
        · exact ho.own hF
        · have := h.heap.inj j (σ i) bb (liveS_get hs.live hj) (by rw [hb]; simp) hjb hbb
          exact hS (this ▸ hj)
      · obtain ⟨arr, ha, hl, hc⟩ := ho.is
        refine ⟨arr, by rw [ht]; exact ha, by rw [viewAs_len hv]; exact hl, fun j c hj => ?_⟩
        have hj' : j < b.cs.length := by rw [← viewAs_len hv]; exact (List.getElem?_eq_some_iff.1 hj).1
        exact ⟨(hc j _ (List.getElem?_eq_getElem hj')).1, viewAs_rd hH (fun i b hb => hb) k.cs b.cs (fun j => arr.getD j undef) hv (fun j a ha => (hc j a ha).2) j c hj⟩
  · obtain ⟨ki, hki⟩ := Option.ne_none_iff_exists'.1 hi
    obtain ⟨kj, hkj⟩ := Option.ne_none_iff_exists'.1 hj
    obtain ⟨_, hli, _, bi, hbi, _⟩ := hblk i ki hki
    obtain ⟨_, hlj, _, bj, hbj, _⟩ := hblk j kj hkj
    exact nodup_inj hs.nd hli hlj (h.heap.inj (σ i) (σ j) b (by rw [hbi]; simp) (by rw [hbj]; simp) h1 h2)
  · rintro b (hb | hb)
    · exact h.fok b hb
    · exact (hOlt b hb).1
  · exact ⟨h.chg.os, h.chg.tape, h.chg.output, h.chg.size, h.chg.same, h.chg.cells, fun b hb => .inl (h.chg.sub b hb), fun b hb => by
      rcases hb with hb | hb
      · exact h.chg.new b hb
      · exact .inr (hOlt b hb).2⟩
  · obtain ⟨k, hk⟩ := Option.ne_none_iff_exists'.1 hi
    exact (hblk i k hk).1
  · obtain ⟨k, hk⟩ := Option.ne_none_iff_exists'.1 hi
    obtain ⟨_, _, _, b', hb', _⟩ := hblk i k hk
    exact h.own (σ i) b (by rw [hb']; simp) hb
  · have := hσ i (by rw [hb]; simp)
    show ρ (σ i) = some b
    rw [this]
    exact h.keep i b hb

theorem saw_sub {c : Ctx} {S : List Nat} {σ : Nat → Nat} {k : List It} {st st' : AS} (hs : Sub S σ st st') (hσ : ∀ i, c.ρ0 i ≠ none → σ i = i) (h : SAW c k st') : SAW c k st :=
  fun _ _ a w hc => h _ _ a w (hs.conc hσ hc)

/-- a renaming given by a list: id i of the new state is the i-th of the old ids -/
def sg (base : Nat) : List Nat → Nat → Nat
  | [], i => base + i
  | k :: r, i => match i with
    | 0 => k
    | i + 1 => sg (base + 1) r i

theorem sg_fresh (l : List Nat) : ∀ (base i : Nat), l.length ≤ i → base ≤ sg base l i := by
  induction l with
  | nil => intro base i _; simp [sg]
  | cons k r ih =>
    intro base i hi
    cases i with
    | zero => simp at hi
    | succ i => have := ih (base + 1) i (by simpa using hi); simp only [sg]; omega

/-! freezing -/
def delL : List Nat → List (Nat × Option Blk)
  | [] => []
  | k :: r => (k, none) :: delL r
def frz (S : List Nat) (reps : List (Nat × AV)) (st : AS) : AS := ⟨st.n, reps ++ st.sl, delL S ++ st.hp, st.nx⟩
def viewR (h : Heap) (S : List Nat) (sl : List (Nat × AV)) : List (Nat × AV) → Prop
  | [] => True
  | (s, y) :: r => viewA h S (fun i => i) y (lk sl s) ∧ viewR h S sl r

/-! loops -/
theorem saw_loop {α : Type} {c : Ctx} {body : Code} {k : List It} {st : AS} (Inv : α → AS) (μ : α → Nat) (x0 : α) (h0 : ∀ {ρ F a w}, Conc c ρ F st a w → ∃ ρ' F', Conc c ρ' F' (Inv x0) a w)
    (hstep : ∀ x, SAW c (.code body :: .inv (fun st' => ∃ y, μ y < μ x ∧ ∃ S σ, Sub S σ st' (Inv y) ∧ ∀ i, c.ρ0 i ≠ none → σ i = i) :: k) (Inv x)) : SAW c (.code (.loop body) :: k) st := by
  have key : ∀ (N : Nat) (x : α), μ x < N → ∀ ρ F a w, Conc c ρ F (Inv x) a w → Code.rounds c.P body (Wk c k) N a w := by
    intro N
    induction N with
    | zero => intro x hx; omega
    | succ N ih =>
      intro x hx ρ F a w hc
      rw [rounds_succ]
      refine Code.wp_mono (fun e a' w' hq => ?_) (hstep x ρ F a w hc)
      cases e with
      | normal =>
        obtain ⟨ρ', F', st', ⟨y, hy, S, σ, hs, hσ⟩, hc'⟩ := hq
        exact ih y (by omega) _ _ a' w' (hs.conc hσ hc')
      | exit id => exact hq
      | goto l => exact hq
      | ret => exact hq
      | panic ch => exact hq
      | outgrown => exact hq
  intro ρ F a w hc
  obtain ⟨ρ', F', hc'⟩ := h0 hc
  exact wp_loop_rounds (μ x0 + 1) (key (μ x0 + 1) x0 (by omega) ρ' F' a w hc')

theorem Wk_ret (c : Ctx) : ∀ (k : List It) (a : Act) (w : World), Wk c k .ret a w = bodyPost c.P c.fn c.R .ret a w
  | [], a, w => rfl
  | .code x :: k, a, w => Wk_ret c k a w
  | .ops all l :: k, a, w => Wk_ret c k a w
  | .blk id :: k, a, w => Wk_ret c k a w
  | .inv J :: k, a, w => Wk_ret c k a w

end Go.Abs

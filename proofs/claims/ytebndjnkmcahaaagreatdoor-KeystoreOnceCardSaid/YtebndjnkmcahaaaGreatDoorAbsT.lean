/-
  The machine once more: it ends and draws by itself; freezing of one block. Own work; no statement of the seat is proved here.
-/
import Derived.Test.YtebndjnkmcahaaaGreatDoorAbsS
namespace Go.Abs
set_option linter.unusedSimpArgs false
set_option linter.unusedVariables false
open Go Go.RowKit
variable {P : Program}

/-! values that are pure once their blocks are frozen -/
mutual
def isQ : AV → Prop
  | .p _ => True
  | .iface _ a => isQ a
  | .agg cs => allQ cs
  | .ptr _ _ => False
  | .sl _ _ _ _ => False
  | .cp _ => False
  | .tup _ => False
  | .fn _ _ _ => False
  | .mp _ => False
  | .any => False
def allQ : List AV → Prop
  | [] => True
  | c :: cs => isQ c ∧ allQ cs
end
mutual
def unQ : AV → PV
  | .p x => x
  | .iface t a => .iface t (unQ a)
  | .agg cs => .agg (unQs cs)
  | .ptr _ _ => .v undef
  | .sl _ _ _ _ => .v undef
  | .cp _ => .v undef
  | .tup _ => .v undef
  | .fn _ _ _ => .v undef
  | .mp _ => .v undef
  | .any => .v undef
def unQs : List AV → List PV
  | [] => []
  | c :: cs => unQ c :: unQs cs
end
mutual
theorem viewP_unQ (h : Heap) (S : List Nat) : ∀ (a : AV), isQ a → viewP h S (unQ a) a
  | .p x, _ => by simp only [unQ]; exact viewP_refl _ _ _
  | .iface t a, ha => by simp only [unQ, viewP]; exact ⟨trivial, viewP_unQ h S a ha⟩
  | .agg cs, ha => by simp only [unQ, viewP]; exact viewPs_unQ h S cs ha
  | .ptr _ _, ha => by simp [isQ] at ha
  | .sl _ _ _ _, ha => by simp [isQ] at ha
  | .cp _, ha => by simp [isQ] at ha
  | .tup _, ha => by simp [isQ] at ha
  | .fn _ _ _, ha => by simp [isQ] at ha
  | .mp _, ha => by simp [isQ] at ha
  | .any, ha => by simp [isQ] at ha
theorem viewPs_unQ (h : Heap) (S : List Nat) : ∀ (as : List AV), allQ as → viewPs h S (unQs as) as
  | [], _ => by simp [unQs, viewPs]
  | a :: as, ha => by simp only [unQs, viewPs]; exact ⟨viewP_unQ h S a ha.1, viewPs_unQ h S as ha.2⟩
end
theorem unQs_len : ∀ (as : List AV), (unQs as).length = as.length
  | [] => rfl
  | _ :: as => by simp [unQs, unQs_len as]
theorem unQs_drop : ∀ (as : List AV) (n : Nat), (unQs as).drop n = unQs (as.drop n)
  | [], n => by simp [unQs]
  | _ :: as, 0 => rfl
  | _ :: as, n + 1 => by simp [unQs, unQs_drop as n]
theorem allQ_drop : ∀ {as : List AV}, allQ as → ∀ (n : Nat), allQ (as.drop n)
  | [], h, n => by simpa using h
  | _ :: as, h, 0 => h
  | _ :: as, h, n + 1 => by simpa using allQ_drop h.2 n
theorem allQ_take : ∀ {as : List AV}, allQ as → ∀ (n : Nat), allQ (as.take n)
  | [], h, n => by simpa using h
  | _ :: as, h, 0 => trivial
  | _ :: as, h, n + 1 => ⟨h.1, allQ_take h.2 n⟩
theorem allQ_map : ∀ (cs : List PV), allQ (cs.map .p)
  | [] => trivial
  | _ :: cs => ⟨trivial, allQ_map cs⟩
theorem unQs_map : ∀ (cs : List PV), unQs (cs.map .p) = cs
  | [] => rfl
  | c :: cs => by simp [unQs, unQ, unQs_map cs]

/-! what a walk has to show at its end: the results, frozen -/
def fzB (n off s : Nat) : Option Blk → AV
  | some b => .p (.data s n (unQs ((b.cs.drop off).take (n * s))))
  | none => .any
def fzS (n off s : Nat) : Option Blk → Prop
  | some b => off + n * s ≤ b.cs.length ∧ allQ ((b.cs.drop off).take (n * s))
  | none => False
mutual
def fzA (h : List (Nat × Option Blk)) : AV → AV
  | .sl id off n s => fzB n off s (hget h id)
  | .agg cs => .agg (fzL h cs)
  | .tup cs => .tup (fzL h cs)
  | .iface t x => .iface t (fzA h x)
  | .p x => .p x
  | .cp cs => .cp cs
  | .ptr _ _ => .any
  | .fn _ _ _ => .any
  | .mp _ => .any
  | .any => .any
def fzL (h : List (Nat × Option Blk)) : List AV → List AV
  | [] => []
  | c :: cs => fzA h c :: fzL h cs
end
mutual
def fzO (h : List (Nat × Option Blk)) : AV → Prop
  | .sl id off n s => fzS n off s (hget h id)
  | .agg cs => fzOL h cs
  | .tup cs => fzOL h cs
  | .iface _ x => fzO h x
  | .p _ => True
  | .cp _ => True
  | .ptr _ _ => True
  | .fn _ _ _ => True
  | .mp _ => True
  | .any => True
def fzOL (h : List (Nat × Option Blk)) : List AV → Prop
  | [] => True
  | c :: cs => fzO h c ∧ fzOL h cs
end
mutual
def fzI : AV → List Nat
  | .sl id _ _ _ => [id]
  | .agg cs => fzIL cs
  | .tup cs => fzIL cs
  | .iface _ x => fzI x
  | _ => []
def fzIL : List AV → List Nat
  | [] => []
  | c :: cs => fzI c ++ fzIL cs
end

mutual
theorem fzA_view (h : List (Nat × Option Blk)) (S : List Nat) (σ : Nat → Nat) : ∀ (v : AV), (∀ i, i ∈ fzI v → i ∈ S) → fzO h v → viewA (hget h) S σ (fzA h v) v
  | .sl id off n s, hS, ho => by
    simp only [fzO] at ho
    simp only [fzA]
    cases hb : hget h id with
    | none => rw [hb] at ho; exact ho.elim
    | some b =>
      rw [hb] at ho
      simp only [fzB, viewA, viewP]
      exact ⟨hS id (by simp [fzI]), trivial, trivial, b, hb, ho.1, viewPs_unQ _ _ _ ho.2⟩
  | .agg cs, hS, ho => by simp only [fzA, viewA]; exact fzL_view h S σ cs hS ho
  | .tup cs, hS, ho => by simp only [fzA, viewA]; exact fzL_view h S σ cs hS ho
  | .iface t x, hS, ho => by simp only [fzA, viewA]; exact ⟨trivial, fzA_view h S σ x hS ho⟩
  | .p x, _, _ => by simp only [fzA, viewA]; exact viewP_refl _ _ _
  | .cp cs, _, _ => by simp only [fzA, viewA]
  | .ptr _ _, _, _ => by simp only [fzA, viewA]
  | .fn _ _ _, _, _ => by simp only [fzA, viewA]
  | .mp _, _, _ => by simp only [fzA, viewA]
  | .any, _, _ => by simp only [fzA, viewA]
theorem fzL_view (h : List (Nat × Option Blk)) (S : List Nat) (σ : Nat → Nat) : ∀ (vs : List AV), (∀ i, i ∈ fzIL vs → i ∈ S) → fzOL h vs → viewAs (hget h) S σ (fzL h vs) vs
  | [], _, _ => by simp [fzL, viewAs]
  | c :: cs, hS, ho => by
    simp only [fzL, viewAs]
    exact ⟨fzA_view h S σ c (fun i hi => hS i (by simp [fzIL, hi])) ho.1, fzL_view h S σ cs (fun i hi => hS i (by simp [fzIL, hi])) ho.2⟩
end
mutual
theorem fzI_live (h : List (Nat × Option Blk)) : ∀ (v : AV), fzO h v → ∀ i, i ∈ fzI v → (hget h i).isSome = true
  | .sl id off n s, ho, i, hi => by
    simp only [fzI, List.mem_singleton] at hi
    subst hi
    simp only [fzO] at ho
    cases hb : hget h i with
    | none => rw [hb] at ho; exact ho.elim
    | some b => rfl
  | .agg cs, ho, i, hi => fzIL_live h cs ho i (by simpa [fzI] using hi)
  | .tup cs, ho, i, hi => fzIL_live h cs ho i (by simpa [fzI] using hi)
  | .iface _ x, ho, i, hi => fzI_live h x ho i (by simpa [fzI] using hi)
  | .p _, _, i, hi => by simp [fzI] at hi
  | .cp _, _, i, hi => by simp [fzI] at hi
  | .ptr _ _, _, i, hi => by simp [fzI] at hi
  | .fn _ _ _, _, i, hi => by simp [fzI] at hi
  | .mp _, _, i, hi => by simp [fzI] at hi
  | .any, _, i, hi => by simp [fzI] at hi
theorem fzIL_live (h : List (Nat × Option Blk)) : ∀ (vs : List AV), fzOL h vs → ∀ i, i ∈ fzIL vs → (hget h i).isSome = true
  | [], _, i, hi => by simp [fzIL] at hi
  | c :: cs, ho, i, hi => by
    simp only [fzIL, List.mem_append] at hi
    rcases hi with hi | hi
    · exact fzI_live h c ho.1 i hi
    · exact fzIL_live h cs ho.2 i hi
end

/-- equal, but that nil may stand for data without elements -/
def eqP : PV → PV → Prop
  | .data _ n cs, .v (.slice none 0 0) => n = 0 ∧ cs = []
  | x, y => y = x
mutual
def eqN : AV → AV → Prop
  | .p x, .p y => eqP x y
  | .agg l, .agg l' => eqNL l l'
  | .tup l, .tup l' => eqNL l l'
  | v, a => a = v
def eqNL : List AV → List AV → Prop
  | [], [] => True
  | v :: l, a :: l' => eqN v a ∧ eqNL l l'
  | _, _ => False
end
theorem eqP_refl (x : PV) : eqP x x := by
  cases x <;> simp [eqP]
mutual
theorem eqN_refl : ∀ (v : AV), eqN v v
  | .p x => by simp only [eqN]; exact eqP_refl x
  | .agg l => by simp only [eqN]; exact eqNL_refl l
  | .tup l => by simp only [eqN]; exact eqNL_refl l
  | .ptr _ _ => by simp [eqN]
  | .sl _ _ _ _ => by simp [eqN]
  | .cp _ => by simp [eqN]
  | .iface _ _ => by simp [eqN]
  | .fn _ _ _ => by simp [eqN]
  | .mp _ => by simp [eqN]
  | .any => by simp [eqN]
theorem eqNL_refl : ∀ (l : List AV), eqNL l l
  | [] => by simp [eqNL]
  | v :: l => by simp only [eqNL]; exact ⟨eqN_refl v, eqNL_refl l⟩
end
theorem eqP_inv {x y : PV} (h : eqP x y) : y = x ∨ ∃ s, x = .data s 0 [] ∧ y = .v (.slice none 0 0) := by
  unfold eqP at h
  split at h
  · obtain ⟨rfl, rfl⟩ := h; exact .inr ⟨_, rfl, rfl⟩
  · exact .inl h
theorem eqN_p {v : AV} {y : PV} (h : eqN v (.p y)) : ∃ x, v = .p x ∧ eqP x y := by
  cases v <;> simp only [eqN] at h <;> first | exact ⟨_, rfl, h⟩ | cases h
mutual
theorem eqN_view (h : List (Nat × Option Blk)) (S : List Nat) (σ : Nat → Nat) : ∀ (a v : AV), eqN v (fzA h a) → (∀ i, i ∈ fzI a → i ∈ S) → fzO h a → viewA (hget h) S σ v a
  | .p y, v, he, _, _ => by
    simp only [fzA] at he
    obtain ⟨x, rfl, hx⟩ := eqN_p he
    simp only [viewA]
    rcases eqP_inv hx with rfl | ⟨s, rfl, rfl⟩
    · exact viewP_refl _ _ _
    · simp only [viewP]; exact .inr ⟨trivial, trivial, trivial⟩
  | .sl id off n s, v, he, hS, ho => by
    have hv := fzA_view h S σ (.sl id off n s) hS ho
    cases hb : hget h id with
    | none => simp only [fzO, hb, fzS] at ho
    | some b =>
      simp only [fzA, hb, fzB] at he hv
      obtain ⟨x, rfl, hx⟩ := eqN_p he
      rcases eqP_inv hx with rfl | ⟨s, rfl, h2⟩
      · exact hv
      · cases h2
  | .agg cs, v, he, hS, ho => by
    simp only [fzA] at he
    cases v <;> simp only [eqN] at he <;> first | (cases he; done) | skip
    simp only [viewA]
    exact eqNL_view h S σ cs _ he hS ho
  | .tup cs, v, he, hS, ho => by
    simp only [fzA] at he
    cases v <;> simp only [eqN] at he <;> first | (cases he; done) | skip
    simp only [viewA]
    exact eqNL_view h S σ cs _ he hS ho
  | .iface t x, v, he, hS, ho => by
    have hv := fzA_view h S σ (.iface t x) hS ho
    simp only [fzA] at he hv
    cases v <;> simp only [eqN] at he <;> first | (cases he; done) | skip
    cases he; exact hv
  | .cp cs, v, he, _, _ => by
    simp only [fzA] at he
    cases v <;> simp only [eqN] at he <;> first | (cases he; done) | skip
    cases he; simp only [viewA]
  | .ptr _ _, v, he, _, _ => by
    simp only [fzA] at he
    cases v <;> simp only [eqN] at he <;> first | (cases he; done) | simp only [viewA]
  | .fn _ _ _, v, he, _, _ => by
    simp only [fzA] at he
    cases v <;> simp only [eqN] at he <;> first | (cases he; done) | simp only [viewA]
  | .mp _, v, he, _, _ => by
    simp only [fzA] at he
    cases v <;> simp only [eqN] at he <;> first | (cases he; done) | simp only [viewA]
  | .any, v, he, _, _ => by
    simp only [fzA] at he
    cases v <;> simp only [eqN] at he <;> first | (cases he; done) | simp only [viewA]
theorem eqNL_view (h : List (Nat × Option Blk)) (S : List Nat) (σ : Nat → Nat) : ∀ (cs vs : List AV), eqNL vs (fzL h cs) → (∀ i, i ∈ fzIL cs → i ∈ S) → fzOL h cs → viewAs (hget h) S σ vs cs
  | [], vs, he, _, _ => by
    cases vs with
    | nil => simp only [viewAs]
    | cons v l => simp [fzL, eqNL] at he
  | c :: cs, vs, he, hS, ho => by
    cases vs with
    | nil => simp [fzL, eqNL] at he
    | cons v l =>
      simp only [fzL, eqNL] at he
      simp only [viewAs]
      exact ⟨eqN_view h S σ c v he.1 (fun i hi => hS i (by simp [fzIL, hi])) ho.1, eqNL_view h S σ cs l he.2 (fun i hi => hS i (by simp [fzIL, hi])) ho.2⟩
end

def EndV (h : List (Nat × Option Blk)) (v : AV) : Option (List AV) → Prop
  | some vs => fzO h (retV vs) ∧ eqN v (fzA h (retV vs))
  | none => False
def EndF (P : Program) (rs : List ResultVar) (v : AV) (st : AS) : Prop := EndV st.hp v (resVs P st rs)

theorem liveS_of {hp : List (Nat × Option Blk)} : ∀ {S : List Nat}, (∀ i, i ∈ S → (hget hp i).isSome = true) → liveS hp S
  | [], _ => trivial
  | k :: r, h => ⟨h k (by simp), liveS_of fun i hi => h i (by simp [hi])⟩

theorem EndF.endP {rs : List ResultVar} {v : AV} {st : AS} (h : EndF P rs v st) : EndP P rs st v := by
  unfold EndF at h
  cases hr : resVs P st rs with
  | none => rw [hr] at h; exact h.elim
  | some vs =>
    rw [hr] at h
    obtain ⟨h1, h2⟩ := h
    refine ⟨fzI (retV vs), liveS_of (fzI_live _ _ h1), vs, hr, ?_⟩
    exact eqN_view _ _ _ _ _ h2 (fun i hi => hi) h1

/-! the machine -/
def DK (c : Ctx) (ks : List Nat) (rec : List It → AS → Prop) (all : Array Oper) (k : List It) : List Oper → List FP → AS → Prop
  | [], acc, ⟨n, sl, hp, nx⟩ => okDraw all acc = true ∧ rec k (prune ks ⟨n, sl, hp, nx⟩)
  | o :: os, acc, ⟨n, sl, hp, nx⟩ => gD c (DK c ks rec all k os) o all os acc k ⟨n, sl, hp, nx⟩ o.guard

/-- the walk stops ahead of region i if 1000000 + i is among the first of the numbers -/
def brkB : List Nat → Nat → Bool
  | [], _ => false
  | k :: r, id => match Nat.blt k 1000000 with | true => false | false => match Nat.beq k (1000000 + id) with | true => true | false => brkB r id
def brkA (c : Ctx) (x : Code) (k : List It) (st : AS) (h : Prop) : Bool → Prop
  | true => SAW c (.code x :: k) st
  | false => h

def XW (c : Ctx) (E : AS → Prop) (ks : List Nat) : Nat → List It → AS → Prop
  | 0, k, st => SAW c k st
  | n + 1, .code (.seq a b) :: k, st => XW c E ks n (.code a :: .code b :: k) st
  | n + 1, .code .skip :: k, st => XW c E ks n k st
  | n + 1, .code (.block id x) :: k, st => XW c E ks n (.code x :: .blk id :: k) st
  | n + 1, .blk _ :: k, st => XW c E ks n k st
  | n + 1, .code (.exit id) :: k, st => exitA (XW c E ks n) st (dropTo id k)
  | n + 1, .code (.cond x y z) :: k, st => condA (XW c E ks n) y z k st (ev st x)
  | n + 1, .code (.region id ops false) :: k, st => brkA c (.region id ops false) k st (XW c E ks n (.ops ops ops.toList :: k) st) (brkB ks id)
  | n + 1, .code (.region id ops true) :: k, st => brkA c (.region id ops true) k st (DK c ks (XW c E ks n) ops k ops.toList [] st) (brkB ks id)
  | n + 1, .ops _ [] :: k, st => XW c E ks n k (prune ks st)
  | n + 1, .ops all (o :: os) :: k, st => gA c (XW c E ks n) o all os k st o.guard
  | _ + 1, .inv J :: _, st => J st
  | _ + 1, .code .ret :: _, st => E st
  | _ + 1, [], st => E st
  | _ + 1, k, st => SAW c k st

structure XOk (c : Ctx) (E : AS → Prop) : Prop where
  mix : c.P.follows .mixedOrders = true
  fin : ∀ k st, E st → SAW c (.code .ret :: k) st ∧ SAW c [] st

theorem DK_sound (c : Ctx) (ks : List Nat) (rec : List It → AS → Prop) (all : Array Oper) (k : List It) (hrec : ∀ st, rec k st → SAW c k st) : ∀ (l : List Oper) (acc : List FP) (st : AS), DK c ks rec all k l acc st → SD c all l acc k st.fs := by
  intro l
  induction l with
  | nil =>
    intro acc st h
    obtain ⟨n, sl, hp, nx⟩ := st
    exact ⟨[], AS.fs ⟨n, sl, hp, nx⟩, rfl, fun i => rfl, by simpa using h.1, fun ρ F a w hc => hrec _ h.2 ρ F a w (hc.ofF.prune ks)⟩
  | cons o os ih =>
    intro acc st h
    have h : gD c (DK c ks rec all k os) o all os acc k st o.guard := by cases st; exact h
    cases hg : o.guard with
    | none =>
      rw [hg] at h
      exact resD_sound ih (by simp [wantF, hg]) h
    | some p =>
      obtain ⟨j, want⟩ := p
      rw [hg] at h
      simp only [gD] at h
      cases hd : dstL all.toList j with
      | none => rw [hd] at h; exact h.elim
      | some d =>
        rw [hd] at h
        simp only [guardDO] at h
        have hd' : (all[j]?).bind (·.dst) = some d := by rw [dstL_get] at hd; simpa using hd
        unfold guardD at h
        split at h
        · rename_i b hv
          split at h
          · rename_i hb
            subst hb
            rw [← setB_fs hv]
            refine resD_sound ih ?_ h
            rw [setB_fs hv]
            unfold wantF
            rw [hg]
            exact ⟨d, b, hd', hv, by simp⟩
          · rename_i hb
            have hbn : b = !want := by cases b <;> cases want <;> simp_all
            rw [hbn] at hv
            rw [← setB_fs hv]
            refine SD.skip ?_ (ih _ _ h)
            rw [setB_fs hv]
            unfold wantF
            rw [hg]
            exact ⟨d, !want, hd', hv, by cases want <;> simp⟩
        · exact h.elim

theorem XW_sound {c : Ctx} {E : AS → Prop} (hE : XOk c E) (ks : List Nat) : ∀ (n : Nat) (k : List It) (st : AS), XW c E ks n k st → SAW c k st := by
  intro n
  induction n with
  | zero => intro k st h; exact h
  | succ n ih =>
    intro k st h
    unfold XW at h
    split at h
    · cases ‹n + 1 = 0›
    · rename_i hh; cases hh
      intro ρ F a w hc
      have := ih _ _ h ρ F a w hc
      refine wp_seq ?_
      rw [Wk_then]
      exact this
    · rename_i hh; cases hh
      intro ρ F a w hc
      exact wp_skip (ih _ _ h ρ F a w hc)
    · rename_i hh; cases hh
      intro ρ F a w hc
      refine wp_block ?_
      rw [Wk_block]
      exact ih _ _ h ρ F a w hc
    · rename_i hh; cases hh
      intro ρ F a w hc
      exact ih _ _ h ρ F a w hc
    · rename_i hh; cases hh
      intro ρ F a w hc
      unfold exitA at h
      split at h
      · rename_i hd
        exact wp_exit (Wk_exit hd (ih _ _ h ρ F a w hc))
      · exact h.elim
    · rename_i hh; cases hh
      intro ρ F a w hc
      unfold condA at h
      split at h
      · rename_i b hx
        refine wp_cond (hx ▸ hc.ev _ : Rd ρ F w (.p (.v (.bool b))) _).pv ?_
        split at h
        · rename_i hb; subst hb; exact ih _ _ h ρ F a w hc
        · rename_i hb
          have : b = false := by simpa using hb
          subst this
          exact ih _ _ h ρ F a w hc
      · exact h.elim
    · rename_i hh; cases hh
      unfold brkA at h
      split at h
      · exact h
      · intro ρ F a w hc
        exact wp_region_list (ih _ _ h ρ F a w hc)
    · rename_i hh; cases hh
      unfold brkA at h
      split at h
      · exact h
      · exact saw_draw0 hE.mix (DK_sound c ks _ _ _ (fun st h => ih _ st h) _ _ _ h)
    · rename_i hh; cases hh
      intro ρ F a w hc
      exact wpList_nil (ih _ _ h ρ F a w (hc.prune ks))
    · rename_i hh; cases hh
      exact gA_sound ih h
    · rename_i hh; cases hh
      intro ρ F a w hc
      exact ⟨ρ, F, _, h, hc⟩
    · rename_i hh; cases hh
      exact (hE.fin _ _ h).1
    · exact (hE.fin [] _ h).2
    · exact h

theorem xw_call {c : Ctx} {E : AS → Prop} (hE : XOk c E) {ks : List Nat} {n : Nat} {f : FuncId} {vs : List AV} {o : Oper} {all : Array Oper} {os : List Oper} {k : List It} {st : AS} {v : AV} (hf : FPure c.P f vs v) (h : XW c E ks n (.ops all os :: k) (put st o.dst v)) :
    CallG c f vs o all os k st := by
  intro hc ρ F a w hcc
  have hok := call_ok (nx := st.nx) hc (hf (hget st.hp)) (Nat.le_refl _) (fun i hi => by simp [keys] at hi) (fun i hi => by cases hi)
  exact step_ok hok hcc _ _ (fun ρ' F' a' w' hc' => XW_sound hE ks n _ _ h ρ' F' a' w' hc')

mutual
theorem eqN_rd {ρ : IdMap} {F : FSet} {w : World} : ∀ {v a : AV} {u : Value}, eqN v a → Rd ρ F w a u → Rd ρ F w v u
  | v, .p y, u, he, hr => by
    obtain ⟨x, rfl, hx⟩ := eqN_p he
    rcases eqP_inv hx with rfl | ⟨s, rfl, rfl⟩
    · exact hr
    · cases hr with
      | p _ _ h => cases h with
        | v _ h1 => exact .p _ _ (.nil _ _ _)
  | v, .agg l, u, he, hr => by
    cases v <;> simp only [eqN] at he <;> first | (cases he; done) | skip
    cases hr with
    | agg _ us hl hr' => exact .agg _ us (by rw [hl, eqNL_len he]) (eqNL_rd he hr')
  | v, .tup l, u, he, hr => by
    cases v <;> simp only [eqN] at he <;> first | (cases he; done) | skip
    cases hr with
    | tup _ us hl hr' => exact .tup _ us (by rw [hl, eqNL_len he]) (eqNL_rd he hr')
  | v, .ptr _ _, u, he, hr => by cases v <;> simp only [eqN] at he <;> first | (cases he; done) | (cases he; exact hr)
  | v, .sl _ _ _ _, u, he, hr => by cases v <;> simp only [eqN] at he <;> first | (cases he; done) | (cases he; exact hr)
  | v, .cp _, u, he, hr => by cases v <;> simp only [eqN] at he <;> first | (cases he; done) | (cases he; exact hr)
  | v, .iface _ _, u, he, hr => by cases v <;> simp only [eqN] at he <;> first | (cases he; done) | (cases he; exact hr)
  | v, .fn _ _ _, u, he, hr => by cases v <;> simp only [eqN] at he <;> first | (cases he; done) | (cases he; exact hr)
  | v, .mp _, u, he, hr => by cases v <;> simp only [eqN] at he <;> first | (cases he; done) | (cases he; exact hr)
  | v, .any, u, he, hr => by cases v <;> simp only [eqN] at he <;> first | (cases he; done) | (cases he; exact hr)
theorem eqNL_rd {ρ : IdMap} {F : FSet} {w : World} : ∀ {vs as : List AV} {f : Nat → Value}, eqNL vs as → (∀ j c, as[j]? = some c → Rd ρ F w c (f j)) → ∀ j c, vs[j]? = some c → Rd ρ F w c (f j)
  | [], _, _, _, _, j, c, hj => by simp at hj
  | v :: vs, [], _, he, _, _, _, _ => by simp [eqNL] at he
  | v :: vs, a :: as, f, he, hr, 0, c, hj => by
    simp only [eqNL] at he
    simp at hj; subst hj
    exact eqN_rd he.1 (hr 0 a rfl)
  | v :: vs, a :: as, f, he, hr, j + 1, c, hj => by
    simp only [eqNL] at he
    exact eqNL_rd (f := fun j => f (j + 1)) he.2 (fun j c hj => hr (j + 1) c (by simpa using hj)) j c (by simpa using hj)
theorem eqNL_len : ∀ {vs as : List AV}, eqNL vs as → as.length = vs.length
  | [], [], _ => rfl
  | [], a :: as, he => by simp [eqNL] at he
  | v :: vs, [], he => by simp [eqNL] at he
  | v :: vs, a :: as, he => by simp only [eqNL] at he; simp [eqNL_len he.2]
end

/-- nil may be handed over for data without elements -/
theorem FPure.nil {f : FuncId} {vs vs' : List AV} {v : AV} (h : FPure P f vs v) (he : eqNL vs vs') : FPure P f vs' v := by
  intro hh
  obtain ⟨h2⟩ := h hh
  exact ⟨fun ρ F us w hpre hz hr => h2 ρ F us w hpre (by rw [hz, eqNL_len he]) (eqNL_rd he hr)⟩

theorem xd_call {c : Ctx} {E : AS → Prop} (hE : XOk c E) {ks : List Nat} {n : Nat} {f : FuncId} {vs : List AV} {o : Oper} {all : Array Oper} {os : List Oper} {acc : List FP} {k : List It} {st : AS} {v : AV} (hf : FPure c.P f vs v)
    (h : DK c ks (XW c E ks n) all k os (acc ++ [([], [])]) (put st o.dst v)) : CallD c f vs o all os acc k st := by
  intro hc
  exact ⟨v, [], [], st.nx, call_ok hc (hf (hget st.hp)) (Nat.le_refl _) (fun i hi => by simp [keys] at hi) (fun i hi => by cases hi), fun i hi => (by cases hi), DK_sound c ks _ all k (fun st h => XW_sound hE ks n _ st h) _ _ _ h⟩

theorem xw_con {c : Ctx} {E : AS → Prop} (hE : XOk c E) {ks : List Nat} {n : Nat} {f : FuncId} {vs vs0 : List AV} {hp0 : List (Nat × Option Blk)} {v0 : AV} {u0 : List (Nat × Option Blk)} {o : Oper} {all : Array Oper} {os : List Oper} {k : List It} {st : AS} (S : List Nat) (τ : Nat → Nat) (nx : Nat)
    (hf : Con c.P f vs0 hp0 v0 u0) (hk : CallOk st vs vs0 hp0 v0 u0 S τ nx) (h : XW c E ks n (.ops all os :: k) (eff st o.dst (renA τ v0) (renU τ u0 ++ delL S) nx)) : CallG c f vs o all os k st := by
  intro hc ρ F a w hcc
  exact step_ok (callR_ok hc hf hk) hcc _ _ (fun ρ' F' a' w' hc' => XW_sound hE ks n _ _ h ρ' F' a' w' hc')

theorem xd_con {c : Ctx} {E : AS → Prop} (hE : XOk c E) {ks : List Nat} {n : Nat} {f : FuncId} {vs vs0 : List AV} {hp0 : List (Nat × Option Blk)} {v0 : AV} {u0 : List (Nat × Option Blk)} {o : Oper} {all : Array Oper} {os : List Oper} {acc : List FP} {k : List It} {st : AS} (S : List Nat) (τ : Nat → Nat) (nx : Nat)
    (hf : Con c.P f vs0 hp0 v0 u0) (hk : CallOk st vs vs0 hp0 v0 u0 S τ nx) (hlt : ltAll nx ((liveK hp0).map τ ++ S) = true)
    (h : DK c ks (XW c E ks n) all k os (acc ++ [((liveK hp0).map τ ++ S, keys (renU τ u0 ++ delL S))]) (eff st o.dst (renA τ v0) (renU τ u0 ++ delL S) nx)) : CallD c f vs o all os acc k st := by
  intro hc
  exact ⟨_, _, _, nx, callR_ok hc hf hk, fun i hi => ltAll_get hlt hi, DK_sound c ks _ all k (fun st h => XW_sound hE ks n _ st h) _ _ _ h⟩

mutual
theorem viewA_pure (h : Heap) (S : List Nat) (τ : Nat → Nat) : ∀ (v : AV), idsA [] v → viewA h S τ v v
  | .p x, _ => by simp only [viewA]; exact viewP_refl _ _ _
  | .ptr i _, hi => by simp [idsA] at hi
  | .sl i _ _ _, hi => by simp [idsA] at hi
  | .cp cs, _ => by simp only [viewA]
  | .agg vs, hi => by simp only [viewA]; exact viewL_pure h S τ vs hi
  | .tup vs, hi => by simp only [viewA]; exact viewL_pure h S τ vs hi
  | .iface t x, hi => by simp only [viewA]; exact ⟨trivial, viewA_pure h S τ x hi⟩
  | .fn f xs ys, hi => by simp only [viewA]; exact ⟨trivial, viewL_pure h S τ xs hi.1, viewL_pure h S τ ys hi.2⟩
  | .mp _, hi => by simp [idsA] at hi
  | .any, _ => by simp only [viewA]
theorem viewL_pure (h : Heap) (S : List Nat) (τ : Nat → Nat) : ∀ (vs : List AV), idsL [] vs → viewAs h S τ vs vs
  | [], _ => by simp only [viewAs]
  | v :: vs, hi => by simp only [viewAs]; exact ⟨viewA_pure h S τ v hi.1, viewL_pure h S τ vs hi.2⟩
end

def addN (a i : Nat) : Nat := a + i
theorem callOk_new {st : AS} {vs : List AV} {v0 : AV} {u0 : List (Nat × Option Blk)} {m : Nat} (ha : idsL [] vs) (nd : nodupB ((keys u0).map (addN st.nx)) = true) (hlt : ltAll m (keys u0) = true) (idv : idsA (keys u0) v0) (idu : idsH (keys u0) u0) :
    CallOk st vs vs [] v0 u0 [] (addN st.nx) (st.nx + m) :=
  ⟨viewL_pure _ _ _ vs ha, trivial, nd, trivial, by omega, fun i hi => .inr (by have := ltAll_get hlt hi; unfold addN; omega), idv, idu, rfl⟩

/-- a call that makes blocks -/
theorem xw_new {c : Ctx} {E : AS → Prop} (hE : XOk c E) {ks : List Nat} {n : Nat} {f : FuncId} {vs : List AV} {v0 : AV} {u0 : List (Nat × Option Blk)} {o : Oper} {all : Array Oper} {os : List Oper} {k : List It} {st : AS} (m : Nat)
    (hf : Con c.P f vs [] v0 u0) (nd : nodupB ((keys u0).map (addN st.nx)) = true) (hlt : ltAll m (keys u0) = true) (idv : idsA (keys u0) v0) (idu : idsH (keys u0) u0)
    (h : XW c E ks n (.ops all os :: k) (eff st o.dst (renA (addN st.nx) v0) (renU (addN st.nx) u0) (st.nx + m))) : CallG c f vs o all os k st := by
  refine xw_con hE (ks := ks) (n := n) [] (addN st.nx) (st.nx + m) hf (callOk_new hf.ids nd hlt idv idu) ?_
  simpa [delL] using h
theorem xd_new {c : Ctx} {E : AS → Prop} (hE : XOk c E) {ks : List Nat} {n : Nat} {f : FuncId} {vs : List AV} {v0 : AV} {u0 : List (Nat × Option Blk)} {o : Oper} {all : Array Oper} {os : List Oper} {acc : List FP} {k : List It} {st : AS} (m : Nat)
    (hf : Con c.P f vs [] v0 u0) (nd : nodupB ((keys u0).map (addN st.nx)) = true) (hlt : ltAll m (keys u0) = true) (idv : idsA (keys u0) v0) (idu : idsH (keys u0) u0)
    (h : DK c ks (XW c E ks n) all k os (acc ++ [([], keys (renU (addN st.nx) u0))]) (eff st o.dst (renA (addN st.nx) v0) (renU (addN st.nx) u0) (st.nx + m))) : CallD c f vs o all os acc k st := by
  refine xd_con hE (ks := ks) (n := n) [] (addN st.nx) (st.nx + m) hf (callOk_new hf.ids nd hlt idv idu) rfl ?_
  simpa [delL, liveK] using h

/-! a call whose arguments are frozen first: the blocks are gone afterwards -/
mutual
theorem fzA_ids (h : List (Nat × Option Blk)) (T : List Nat) : ∀ (v : AV), idsA T (fzA h v)
  | .p _ => by simp [fzA, idsA]
  | .ptr _ _ => by simp [fzA, idsA]
  | .sl id off n s => by simp only [fzA]; cases hget h id <;> simp [fzB, idsA]
  | .cp _ => by simp [fzA, idsA]
  | .agg vs => by simp only [fzA, idsA]; exact fzL_ids h T vs
  | .tup vs => by simp only [fzA, idsA]; exact fzL_ids h T vs
  | .iface _ x => by simp only [fzA, idsA]; exact fzA_ids h T x
  | .fn _ _ _ => by simp [fzA, idsA]
  | .mp _ => by simp [fzA, idsA]
  | .any => by simp [fzA, idsA]
theorem fzL_ids (h : List (Nat × Option Blk)) (T : List Nat) : ∀ (vs : List AV), idsL T (fzL h vs)
  | [] => by simp [fzL, idsL]
  | v :: vs => by simp only [fzL, idsL]; exact ⟨fzA_ids h T v, fzL_ids h T vs⟩
end
mutual
theorem renA_id : ∀ (v : AV), renA (fun i => i) v = v
  | .p _ => by simp [renA]
  | .ptr _ _ => by simp [renA]
  | .sl _ _ _ _ => by simp [renA]
  | .cp _ => by simp [renA]
  | .agg vs => by simp [renA, renL_id vs]
  | .tup vs => by simp [renA, renL_id vs]
  | .iface _ x => by simp [renA, renA_id x]
  | .fn _ xs ys => by simp [renA, renL_id xs, renL_id ys]
  | .mp _ => by simp [renA]
  | .any => by simp [renA]
theorem renL_id : ∀ (vs : List AV), renL (fun i => i) vs = vs
  | [] => by simp [renL]
  | v :: vs => by simp [renL, renA_id v, renL_id vs]
end
theorem callOk_fz {st : AS} {vs vs1 : List AV} {v : AV} (e : fzL st.hp vs = vs1) (ho : fzOL st.hp vs) (hlt : ltAll st.nx (fzIL vs) = true) (hv : idsA [] v) : CallOk st vs vs1 [] v [] (fzIL vs) (fun i => i) st.nx :=
  ⟨by rw [← e]; exact fzL_view _ _ _ vs (fun i hi => hi) ho, trivial, rfl, liveS_of (fzIL_live _ _ ho), Nat.le_refl _, fun i hi => (by cases hi), hv, trivial, hlt⟩

theorem xw_callF {c : Ctx} {E : AS → Prop} (hE : XOk c E) {ks : List Nat} {n : Nat} {f : FuncId} {vs vs1 : List AV} {o : Oper} {all : Array Oper} {os : List Oper} {k : List It} {st : AS} {v : AV} (e : fzL st.hp vs = vs1) (ho : fzOL st.hp vs) (hlt : ltAll st.nx (fzIL vs) = true)
    (hf : FPure c.P f vs1 v) (hv : idsA [] v) (h : XW c E ks n (.ops all os :: k) (eff st o.dst v (delL (fzIL vs)) st.nx)) : CallG c f vs o all os k st := by
  refine xw_con hE (ks := ks) (n := n) (fzIL vs) (fun i => i) st.nx (hf.con (by rw [← e]; exact fzL_ids _ _ _)) (callOk_fz e ho hlt hv) ?_
  rw [renA_id]
  exact h
theorem xd_callF {c : Ctx} {E : AS → Prop} (hE : XOk c E) {ks : List Nat} {n : Nat} {f : FuncId} {vs vs1 : List AV} {o : Oper} {all : Array Oper} {os : List Oper} {acc : List FP} {k : List It} {st : AS} {v : AV} (e : fzL st.hp vs = vs1) (ho : fzOL st.hp vs) (hlt : ltAll st.nx (fzIL vs) = true)
    (hf : FPure c.P f vs1 v) (hv : idsA [] v) (h : DK c ks (XW c E ks n) all k os (acc ++ [(fzIL vs, fzIL vs)]) (eff st o.dst v (delL (fzIL vs)) st.nx)) : CallD c f vs o all os acc k st := by
  refine xd_con hE (ks := ks) (n := n) (fzIL vs) (fun i => i) st.nx (hf.con (by rw [← e]; exact fzL_ids _ _ _)) (callOk_fz e ho hlt hv) (by simpa [liveK] using hlt) ?_
  rw [renA_id]
  simpa [liveK, renU, keys_del] using h

theorem fpure_x {f : FuncId} {fn : Func} {code : Code} {vs : List AV} {v : AV} {n : Nat} {rs : Array ResultVar} (hm : P.follows .mixedOrders = true) (hf : P.funcs[f]? = some fn) (hb : fn.body = some code) (hname : (fn.name == "runtime.NumGoroutine") = false) (hn : fn.ntmps = n) (hrs : fn.results = rs)
    (hlen : vs.length ≤ n) (hargs : idsL [] vs) (ks : List Nat)
    (haw : ∀ c : Ctx, c.P = P → (∀ i, c.ρ0 i ≠ none → False) → XOk c (EndF P rs.toList v) → XW c (EndF P rs.toList v) ks 2000 [.code code] ⟨n, argS 0 vs, [], 0⟩) : FPure P f vs v := by
  refine fpure_of hf hb hname hn hlen hargs ?_
  intro c hP h0 hfin
  have hE : XOk c (EndF P rs.toList v) := ⟨by rw [hP]; exact hm, fun k st h => hfin k st (by rw [hrs]; exact h.endP)⟩
  exact XW_sound hE ks 2000 _ _ (haw c hP h0 hE)

def newB (t : TypeId) (st : AS) : AS := ⟨st.n, st.sl, (st.nx, some ⟨t, []⟩) :: st.hp, st.nx + 1⟩
/-- the end of a walk with blocks of its own (it may add an empty block, as which nil is seen) -/
def EndC (P : Program) (rs : List ResultVar) (v : AV) (T : List Nat) (u : List (Nat × Option Blk)) (st : AS) : Prop := (∃ S σ, EndOk P rs st v T u S σ) ∨ ∃ t S σ, EndOk P rs (newB t st) v T u S σ
theorem endC_of {rs : List ResultVar} {v : AV} {u : List (Nat × Option Blk)} {st : AS} (l : List Nat) {vs : List AV} (hr : resVs P st rs = some vs) (hv : viewA (hget st.hp) [] (sg st.nx l) v (retV vs)) (hb : subHp (hget st.hp) [] (sg st.nx l) u)
    (nd : nodupB (keys u) = true) (nd' : nodupB ((liveK u).map (sg st.nx l)) = true) (hl : ∀ i, i ∉ liveK u → l.length ≤ i) : EndC P rs v [] u st :=
  .inl ⟨[], sg st.nx l, ⟨vs, hr, hv⟩, hb, nd, nd', trivial, fun i hi => (by cases hi), fun i hi => sg_fresh l _ i (hl i hi)⟩
theorem endC_new {rs : List ResultVar} {v : AV} {u : List (Nat × Option Blk)} {st : AS} (t : TypeId) (l : List Nat) {vs : List AV} (hr : resVs P (newB t st) rs = some vs) (hv : viewA (hget (newB t st).hp) [] (sg (st.nx + 1) l) v (retV vs)) (hb : subHp (hget (newB t st).hp) [] (sg (st.nx + 1) l) u)
    (nd : nodupB (keys u) = true) (nd' : nodupB ((liveK u).map (sg (st.nx + 1) l)) = true) (hl : ∀ i, i ∉ liveK u → l.length ≤ i) : EndC P rs v [] u st :=
  .inr ⟨t, [], sg (st.nx + 1) l, ⟨vs, hr, hv⟩, hb, nd, nd', trivial, fun i hi => (by cases hi), fun i hi => sg_fresh l _ i (hl i hi)⟩
theorem inv_go {c : Ctx} {rec : List It → AS → Prop} {o : Oper} {all : Array Oper} {os : List Oper} {k : List It} {st : AS} {args : List AV} {x : AV} {m : Option FuncId} {f : FuncId} (h : m = some f) (hh : CallG c f (x :: args) o all os k st) : resA c rec o all os k st (invK args x m) := by
  subst h; exact hh
theorem resA_bad {c : Ctx} {rec : List It → AS → Prop} {o : Oper} {all : Array Oper} {os : List Oper} {k : List It} {st : AS} : resA c rec o all os k st .bad = False := rfl
theorem resD_bad {c : Ctx} {rec : List FP → AS → Prop} {o : Oper} {all : Array Oper} {os : List Oper} {acc : List FP} {k : List It} {st : AS} : resD c rec o all os acc k st .bad = False := rfl

theorem con_x {f : FuncId} {fn : Func} {code : Code} {vs : List AV} {v : AV} {u : List (Nat × Option Blk)} {hp0 : List (Nat × Option Blk)} {n : Nat} {rs : Array ResultVar} (nx0 : Nat) (hm : P.follows .mixedOrders = true)
    (hf : P.funcs[f]? = some fn) (hb : fn.body = some code) (hname : (fn.name == "runtime.NumGoroutine") = false) (hn : fn.ntmps = n) (hrs : fn.results = rs) (hlen : vs.length ≤ n)
    (hlt : ltAll nx0 (liveK hp0) = true) (hargs : idsL (liveK hp0) vs) (hids : idsH (liveK hp0) hp0) (hT : ∀ i, i ∈ liveK hp0 → i ∈ keys u) (ks : List Nat)
    (haw : ∀ c : Ctx, c.P = P → (∀ i, c.ρ0 i ≠ none → i ∈ liveK hp0) → XOk c (EndC P rs.toList v (liveK hp0) u) → XW c (EndC P rs.toList v (liveK hp0) u) ks 2000 [.code code] ⟨n, argS 0 vs, hp0, nx0⟩) : Con P f vs hp0 v u := by
  refine con_of nx0 hf hb hname hn hlen hlt hargs hids hT ?_
  intro c hP h0 hfin
  have hE : XOk c (EndC P rs.toList v (liveK hp0) u) := ⟨by rw [hP]; exact hm, fun k st h => by
    rcases h with ⟨S, σ, h⟩ | ⟨t, S, σ, h⟩
    · exact hfin k st S σ (by rw [hrs]; exact h)
    · have := hfin k _ S σ (by rw [hrs]; exact h)
      exact ⟨saw_new t this.1, saw_new t this.2⟩⟩
  exact XW_sound hE ks 2000 _ _ (haw c hP h0 hE)

/-! freezing one block: the slots and the blocks that point to it hold data from then on -/
mutual
def fz1 (id : Nat) (b : Blk) : AV → AV
  | .sl i off n s => match Nat.beq i id with | true => .p (.data s n (unQs ((b.cs.drop off).take (n * s)))) | false => .sl i off n s
  | .ptr i off => match Nat.beq i id with | true => .cp (unQs (b.cs.drop off)) | false => .ptr i off
  | .agg cs => .agg (fz1L id b cs)
  | .tup cs => .tup (fz1L id b cs)
  | .iface t x => .iface t (fz1 id b x)
  | .fn f xs ys => .fn f (fz1L id b xs) (fz1L id b ys)
  | .mp i => match Nat.beq i id with | true => .any | false => .mp i
  | .p x => .p x
  | .cp cs => .cp cs
  | .any => .any
def fz1L (id : Nat) (b : Blk) : List AV → List AV
  | [] => []
  | c :: cs => fz1 id b c :: fz1L id b cs
end
mutual
def fz1O (id : Nat) (b : Blk) : AV → Prop
  | .sl i off n s => match Nat.beq i id with | true => off + n * s ≤ b.cs.length | false => True
  | .ptr i off => match Nat.beq i id with | true => off ≤ b.cs.length | false => True
  | .agg cs => fz1OL id b cs
  | .tup cs => fz1OL id b cs
  | .iface _ x => fz1O id b x
  | .fn _ xs ys => fz1OL id b xs ∧ fz1OL id b ys
  | .mp _ => True
  | .p _ => True
  | .cp _ => True
  | .any => True
def fz1OL (id : Nat) (b : Blk) : List AV → Prop
  | [] => True
  | c :: cs => fz1O id b c ∧ fz1OL id b cs
end
def fz1Sl (id : Nat) (b : Blk) : List (Nat × AV) → List (Nat × AV)
  | [] => []
  | (k, v) :: r => (k, fz1 id b v) :: fz1Sl id b r
def fz1SlO (id : Nat) (b : Blk) : List (Nat × AV) → Prop
  | [] => True
  | (_, v) :: r => fz1O id b v ∧ fz1SlO id b r
def fz1Hp (id : Nat) (b : Blk) : List (Nat × Option Blk) → List (Nat × Option Blk)
  | [] => []
  | (k, some x) :: r => (k, some ⟨x.t, fz1L id b x.cs⟩) :: fz1Hp id b r
  | (k, none) :: r => (k, none) :: fz1Hp id b r
def fz1HpO (id : Nat) (b : Blk) : List (Nat × Option Blk) → Prop
  | [] => True
  | (_, some x) :: r => fz1OL id b x.cs ∧ fz1HpO id b r
  | (_, none) :: r => fz1HpO id b r
def frz1 (id : Nat) (b : Blk) (st : AS) : AS := ⟨st.n, fz1Sl id b st.sl, (id, none) :: fz1Hp id b st.hp, st.nx⟩

mutual
theorem fz1_view {h : Heap} {id : Nat} {b : Blk} (hb : h id = some b) (hp : allQ b.cs) : ∀ (v : AV), fz1O id b v → viewA h [id] (fun i => i) (fz1 id b v) v
  | .sl i off n s, ho => by
    simp only [fz1O] at ho
    simp only [fz1]
    cases e : Nat.beq i id with
    | true =>
      rw [e] at ho
      have := Nat.eq_of_beq_eq_true e
      subst this
      simp only [viewA, viewP]
      exact ⟨by simp, trivial, trivial, b, hb, ho, viewPs_unQ _ _ _ (allQ_take (allQ_drop hp _) _)⟩
    | false => simp only [viewA]; exact .inl trivial
  | .ptr i off, ho => by
    simp only [fz1O] at ho
    simp only [fz1]
    cases e : Nat.beq i id with
    | true =>
      rw [e] at ho
      have := Nat.eq_of_beq_eq_true e
      subst this
      simp only [viewA]
      refine ⟨by simp, b, hb, by simp [unQs_len]; omega, ?_⟩
      have : (b.cs.drop off).take (unQs (b.cs.drop off)).length = b.cs.drop off := List.take_of_length_le (by simp [unQs_len])
      rw [this]
      exact viewPs_unQ _ _ _ (allQ_drop hp _)
    | false => simp only [viewA]
  | .agg cs, ho => by simp only [fz1, viewA]; exact fz1L_view hb hp cs ho
  | .tup cs, ho => by simp only [fz1, viewA]; exact fz1L_view hb hp cs ho
  | .iface t x, ho => by simp only [fz1, viewA]; exact ⟨trivial, fz1_view hb hp x ho⟩
  | .fn f xs ys, ho => by simp only [fz1, viewA]; exact ⟨trivial, fz1L_view hb hp xs ho.1, fz1L_view hb hp ys ho.2⟩
  | .mp i, _ => by
    simp only [fz1]
    cases e : Nat.beq i id with
    | true => simp only [viewA]
    | false => simp only [viewA]
  | .p x, _ => by simp only [fz1, viewA]; exact viewP_refl _ _ _
  | .cp cs, _ => by simp only [fz1, viewA]
  | .any, _ => by simp only [fz1, viewA]
theorem fz1L_view {h : Heap} {id : Nat} {b : Blk} (hb : h id = some b) (hp : allQ b.cs) : ∀ (vs : List AV), fz1OL id b vs → viewAs h [id] (fun i => i) (fz1L id b vs) vs
  | [], _ => by simp [fz1L, viewAs]
  | c :: cs, ho => by simp only [fz1L, viewAs]; exact ⟨fz1_view hb hp c ho.1, fz1L_view hb hp cs ho.2⟩
end

theorem fz1Sl_get {id : Nat} {b : Blk} (sl : List (Nat × AV)) (s : Nat) (h : fz1SlO id b sl) : lk (fz1Sl id b sl) s = fz1 id b (lk sl s) ∧ fz1O id b (lk sl s) := by
  induction sl with
  | nil => simp [fz1Sl, lk, fz1, fz1O]
  | cons x r ih =>
    obtain ⟨k, v⟩ := x
    simp only [fz1Sl, lk_cons]
    split
    · exact ⟨rfl, h.1⟩
    · exact ih h.2

theorem fz1Hp_get {id : Nat} {b : Blk} (hp : List (Nat × Option Blk)) (i : Nat) (h : fz1HpO id b hp) : hget (fz1Hp id b hp) i = (hget hp i).map (fun x => ⟨x.t, fz1L id b x.cs⟩) ∧ ∀ x, hget hp i = some x → fz1OL id b x.cs := by
  induction hp with
  | nil => simp [fz1Hp, hget]
  | cons x r ih =>
    obtain ⟨k, v⟩ := x
    cases v with
    | none =>
      have := ih h
      simp only [fz1Hp, hget]
      cases Nat.beq k i <;> simp [this]
      exact this.2
    | some v =>
      have := ih h.2
      simp only [fz1Hp, hget]
      cases e : Nat.beq k i <;> simp [this]
      · exact this.2
      · exact h.1

theorem viewAs_get {h : Heap} {S : List Nat} {σ : Nat → Nat} : ∀ {bs as : List AV}, viewAs h S σ bs as → ∀ (j : Nat) (b : AV), bs[j]? = some b → ∃ a, as[j]? = some a ∧ viewA h S σ b a
  | [], _, _, j, b, hj => by simp at hj
  | b :: bs, [], hv, _, _, _ => by simp [viewAs] at hv
  | b :: bs, a :: as, hv, 0, c, hj => by
    simp only [viewAs] at hv
    simp at hj; subst hj
    exact ⟨a, by simp, hv.1⟩
  | b :: bs, a :: as, hv, j + 1, c, hj => by
    simp only [viewAs] at hv
    obtain ⟨x, hx, hv'⟩ := viewAs_get hv.2 j c (by simpa using hj)
    exact ⟨x, by simpa using hx, hv'⟩

theorem frz1_conc {id : Nat} {b : Blk} {st : AS} (hb : hget st.hp id = some b) (hp : allQ b.cs) (hs : fz1SlO id b st.sl) (hh : fz1HpO id b st.hp) {c : Ctx} {ρ : IdMap} {F : FSet} {a : Act} {w : World} (h : Conc c ρ F st a w) :
    Conc c ρ (unionS F ρ [id]) (frz1 id b st) a w := by
  have hH := h.heap.restr [id]
  have hlive : hget st.hp id ≠ none := by rw [hb]; simp
  have hOlt : ∀ b, OSet ρ [id] b → b < w.heap.size ∧ (c.w0.heap.size ≤ b ∨ c.O b) := by
    rintro b' ⟨i, hi, hb'⟩
    simp at hi
    subst hi
    refine ⟨?_, h.own i b' hlive hb'⟩
    rcases h.heap.ok i b hb with ⟨_, h0⟩ | ⟨b2, hb2, ho⟩
    · rw [h0] at hb'; cases hb'
    · rw [hb'] at hb2; cases hb2
      exact ho.lt
  have hg : ∀ i, hget (frz1 id b st).hp i = if id = i then none else (hget st.hp i).map (fun x => ⟨x.t, fz1L id b x.cs⟩) := by
    intro i
    show (match Nat.beq id i with | true => none | false => hget (fz1Hp id b st.hp) i) = _
    by_cases e : id = i
    · subst e; simp
    · rw [beq_no e, if_neg e]; exact (fz1Hp_get st.hp i hh).1
  have hsub : ∀ i, hget (frz1 id b st).hp i ≠ none → i ≠ id ∧ hget st.hp i ≠ none := by
    intro i hi
    rw [hg] at hi
    by_cases e : id = i
    · simp [e] at hi
    · refine ⟨fun e' => e e'.symm, fun e' => ?_⟩
      simp [e, e'] at hi
  refine ⟨h.defers, h.size, fun s => ?_, ⟨fun i k hk => ?_, fun i j b hi hj h1 h2 => h.heap.inj i j b (hsub i hi).2 (hsub j hj).2 h1 h2⟩, h.fresh, ?_, ?_, fun i hi => h.dom i (hsub i hi).2, fun i b hi hb => h.own i b (hsub i hi).2 hb, h.keep, h.glob.mono (fun _ h => .inl h) (fun _ _ => rfl)⟩
  · simp only [frz1]
    obtain ⟨e1, e2⟩ := fz1Sl_get st.sl s hs
    rw [e1]
    exact viewA_rd hH (fun _ _ h => h) _ _ _ (fz1_view hb hp _ e2) (h.slots s)
  · have hne : hget (frz1 id b st).hp i ≠ none := by rw [hk]; simp
    obtain ⟨hS, hl'⟩ := hsub i hne
    rw [hg, if_neg (fun e => hS e.symm)] at hk
    obtain ⟨k0, hk0⟩ := Option.ne_none_iff_exists'.1 hl'
    rw [hk0] at hk
    simp only [Option.map_some, Option.some.injEq] at hk
    subst hk
    have ho' := (fz1Hp_get st.hp i hh).2 k0 hk0
    have hv := fz1L_view hb hp k0.cs ho'
    rcases h.heap.ok i k0 hk0 with h1 | ⟨b', hb', ho⟩
    · refine .inl ⟨?_, h1.2⟩
      show fz1L id b k0.cs = []
      rw [h1.1]; rfl
    · refine .inr ⟨b', hb', ho.view (fun hF => ?_) rfl (viewAs_len hv) (fun _ h => .inl h) (fun f hf j c' hj => ?_)⟩
      · rcases hF with hF | ⟨j, hj, hjb⟩
        · exact ho.own hF
        · simp at hj
          subst hj
          have := h.heap.inj j i b' hlive hl' hjb hb'
          exact hS this.symm
      · obtain ⟨x, hx, hvx⟩ := viewAs_get hv j c' hj
        exact viewA_rd hH (fun _ _ h => h) _ _ _ hvx (hf j x hx)
  · rintro b (hb | hb)
    · exact h.fok b hb
    · exact (hOlt b hb).1
  · exact ⟨h.chg.os, h.chg.tape, h.chg.output, h.chg.size, h.chg.same, h.chg.cells, fun b hb => .inl (h.chg.sub b hb), fun b hb => by
      rcases hb with hb | hb
      · exact h.chg.new b hb
      · exact .inr (hOlt b hb).2⟩

def FzOk (id : Nat) (st : AS) : Option Blk → Prop
  | some b => allQ b.cs ∧ fz1SlO id b st.sl ∧ fz1HpO id b st.hp
  | none => False
def frzB (id : Nat) (st : AS) : Option Blk → AS
  | some b => frz1 id b st
  | none => st

/-- at a call, or anywhere: a block is frozen first -/
theorem xw_frz {c : Ctx} {E : AS → Prop} (hE : XOk c E) {ks : List Nat} {n : Nat} (id : Nat) {f : FuncId} {vs : List AV} {o : Oper} {all : Array Oper} {os : List Oper} {k : List It} {st : AS}
    (hv : FzOk id st (hget st.hp id)) (h : resA c (XW c E ks n) o all os k (frzB id st (hget st.hp id)) (aop c.P o.op (frzB id st (hget st.hp id)))) : CallG c f vs o all os k st := by
  intro _ ρ F a w hc
  cases hb : hget st.hp id with
  | none => rw [hb] at hv; exact hv.elim
  | some b =>
    rw [hb] at hv h
    exact resA_sound (XW_sound hE ks n) h ρ _ a w (frz1_conc hb hv.1 hv.2.1 hv.2.2 hc)
theorem saw_frz1 {c : Ctx} {E : AS → Prop} (hE : XOk c E) {ks : List Nat} {n : Nat} (id : Nat) {k : List It} {st : AS}
    (hv : FzOk id st (hget st.hp id)) (h : XW c E ks n k (frzB id st (hget st.hp id))) : SAW c k st := by
  intro ρ F a w hc
  cases hb : hget st.hp id with
  | none => rw [hb] at hv; exact hv.elim
  | some b =>
    rw [hb] at hv h
    exact XW_sound hE ks n _ _ h ρ _ a w (frz1_conc hb hv.1 hv.2.1 hv.2.2 hc)

/-! loops -/
theorem xw_loop {α : Type} {c : Ctx} {E : AS → Prop} (hE : XOk c E) (h0 : ∀ i, c.ρ0 i ≠ none → False) (ks : List Nat) {body : Code} {k : List It} {st : AS} (Inv : α → AS) (μ : α → Nat) (x0 : α) (S : List Nat) (σ : Nat → Nat) (hs : Sub S σ st (Inv x0))
    (hstep : ∀ x, XW c E ks 2000 (.code body :: .inv (fun st' => ∃ y, μ y < μ x ∧ ∃ S σ, Sub S σ st' (Inv y)) :: k) (Inv x)) : SAW c (.code (.loop body) :: k) st := by
  refine saw_loopS Inv μ x0 S σ hs (fun i hi => (h0 i hi).elim) fun x => ?_
  have e : (fun st' => ∃ y, μ y < μ x ∧ ∃ S σ, Sub S σ st' (Inv y) ∧ ∀ i, c.ρ0 i ≠ none → σ i = i) = (fun st' => ∃ y, μ y < μ x ∧ ∃ S σ, Sub S σ st' (Inv y)) := by
    funext st'
    exact propext ⟨fun ⟨y, h1, S, σ, h2, _⟩ => ⟨y, h1, S, σ, h2⟩, fun ⟨y, h1, S, σ, h2⟩ => ⟨y, h1, S, σ, h2, fun i hi => (h0 i hi).elim⟩⟩
  rw [e]
  exact XW_sound hE ks 2000 _ _ (hstep x)

/-- a loop that counts -/
theorem xw_for {c : Ctx} {E : AS → Prop} (hE : XOk c E) (h0 : ∀ i, c.ρ0 i ≠ none → False) (ks : List Nat) {body : Code} {k : List It} {st : AS} (N : Nat) (Inv : Nat → AS) (S : List Nat) (σ : Nat → Nat) (hs : Sub S σ st (Inv 0))
    (hstep : ∀ i, i ≤ N → XW c E ks 2000 (.code body :: .inv (fun st' => i < N ∧ ∃ S σ, Sub S σ st' (Inv (i + 1))) :: k) (Inv i)) : SAW c (.code (.loop body) :: k) st := by
  refine saw_loopS (α := { i : Nat // i ≤ N }) (fun i => Inv i.1) (fun i => N - i.1) ⟨0, Nat.zero_le _⟩ S σ hs (fun i hi => (h0 i hi).elim) fun x => ?_
  obtain ⟨i, hi⟩ := x
  have h := XW_sound hE ks 2000 _ _ (hstep i hi)
  intro ρ F a w hc
  have key : ∀ e a w, Wk c (.inv (fun st' => i < N ∧ ∃ S σ, Sub S σ st' (Inv (i + 1))) :: k) e a w → Wk c (.inv (fun st' => ∃ y : { i : Nat // i ≤ N }, N - y.1 < N - i ∧ ∃ S σ, Sub S σ st' (Inv y.1) ∧ ∀ i, c.ρ0 i ≠ none → σ i = i) :: k) e a w := by
    intro e a w hw
    cases e with
    | normal =>
      obtain ⟨ρ, F, st', ⟨hlt, S, σ, hs⟩, hc⟩ := hw
      exact ⟨ρ, F, st', ⟨⟨i + 1, hlt⟩, by show N - (i + 1) < N - i; omega, S, σ, hs, fun i hi => (h0 i hi).elim⟩, hc⟩
    | _ => exact hw
  have hh := h ρ F a w hc
  exact Go.wp_mono (show body.wp c.P _ a w from hh) key

theorem subI {st st' : AS} (n : st'.n = st.n) (slots : subSl (hget st.hp) [] (fun i => i) st.sl st'.sl) (blocks : subHp (hget st.hp) [] (fun i => i) st'.hp) (nd : nodupB ((liveK st'.hp).map fun i => i) = true) (lt : ltAll st'.nx (liveK st'.hp) = true) (nx : st.nx ≤ st'.nx) :
    ∃ S σ, Sub S σ st st' := ⟨[], fun i => i, n, slots, blocks, nd, lt, trivial, fun _ h => Nat.le_trans nx h⟩
theorem subG (l : List Nat) {st st' : AS} (n : st'.n = st.n) (slots : subSl (hget st.hp) [] (sg st.nx l) st.sl st'.sl) (blocks : subHp (hget st.hp) [] (sg st.nx l) st'.hp) (nd : nodupB ((liveK st'.hp).map (sg st.nx l)) = true) (lt : ltAll st'.nx (liveK st'.hp) = true) (nx : l.length ≤ st'.nx) :
    ∃ S σ, Sub S σ st st' := ⟨[], sg st.nx l, n, slots, blocks, nd, lt, trivial, fun _ h => sg_fresh l _ _ (Nat.le_trans nx h)⟩

/-- a loop that counts, where blocks came in -/
theorem xw_forT {c : Ctx} {E : AS → Prop} (hE : XOk c E) (T : List Nat) (h0 : ∀ i, c.ρ0 i ≠ none → i ∈ T) (ks : List Nat) {body : Code} {k : List It} {st : AS} (N : Nat) (Inv : Nat → AS) (S : List Nat) (σ : Nat → Nat) (hs : Sub S σ st (Inv 0)) (hσ : ∀ i, i ∈ T → σ i = i)
    (hstep : ∀ i, i ≤ N → XW c E ks 2000 (.code body :: .inv (fun st' => i < N ∧ ∃ S σ, Sub S σ st' (Inv (i + 1)) ∧ ∀ i, i ∈ T → σ i = i) :: k) (Inv i)) : SAW c (.code (.loop body) :: k) st := by
  refine saw_loopS (α := { i : Nat // i ≤ N }) (fun i => Inv i.1) (fun i => N - i.1) ⟨0, Nat.zero_le _⟩ S σ hs (fun i hi => hσ i (h0 i hi)) fun x => ?_
  obtain ⟨i, hi⟩ := x
  have h := XW_sound hE ks 2000 _ _ (hstep i hi)
  intro ρ F a w hc
  have key : ∀ e a w, Wk c (.inv (fun st' => i < N ∧ ∃ S σ, Sub S σ st' (Inv (i + 1)) ∧ ∀ i, i ∈ T → σ i = i) :: k) e a w → Wk c (.inv (fun st' => ∃ y : { i : Nat // i ≤ N }, N - y.1 < N - i ∧ ∃ S σ, Sub S σ st' (Inv y.1) ∧ ∀ i, c.ρ0 i ≠ none → σ i = i) :: k) e a w := by
    intro e a w hw
    cases e with
    | normal =>
      obtain ⟨ρ, F, st', ⟨hlt, S, σ, hs, ht⟩, hc⟩ := hw
      exact ⟨ρ, F, st', ⟨⟨i + 1, hlt⟩, by show N - (i + 1) < N - i; omega, S, σ, hs, fun i hi => ht i (h0 i hi)⟩, hc⟩
    | _ => exact hw
  have hh := h ρ F a w hc
  exact Go.wp_mono (show body.wp c.P _ a w from hh) key
theorem subGT (T : List Nat) (l : List Nat) {st st' : AS} (n : st'.n = st.n) (slots : subSl (hget st.hp) [] (sg st.nx l) st.sl st'.sl) (blocks : subHp (hget st.hp) [] (sg st.nx l) st'.hp) (nd : nodupB ((liveK st'.hp).map (sg st.nx l)) = true) (lt : ltAll st'.nx (liveK st'.hp) = true) (nx : l.length ≤ st'.nx) (ht : ∀ i, i ∈ T → sg st.nx l i = i) :
    ∃ S σ, Sub S σ st st' ∧ ∀ i, i ∈ T → σ i = i := ⟨[], sg st.nx l, ⟨n, slots, blocks, nd, lt, trivial, fun _ h => sg_fresh l _ _ (Nat.le_trans nx h)⟩, ht⟩


/-- a loop, where blocks came in -/
theorem xw_loopT {α : Type} {c : Ctx} {E : AS → Prop} (hE : XOk c E) (T : List Nat) (h0 : ∀ i, c.ρ0 i ≠ none → i ∈ T) (ks : List Nat) {body : Code} {k : List It} {st : AS} (Inv : α → AS) (μ : α → Nat) (x0 : α) (S : List Nat) (σ : Nat → Nat) (hs : Sub S σ st (Inv x0)) (hσ : ∀ i, i ∈ T → σ i = i)
    (hstep : ∀ x, XW c E ks 2000 (.code body :: .inv (fun st' => ∃ y, μ y < μ x ∧ ∃ S σ, Sub S σ st' (Inv y) ∧ ∀ i, i ∈ T → σ i = i) :: k) (Inv x)) : SAW c (.code (.loop body) :: k) st := by
  refine saw_loopS Inv μ x0 S σ hs (fun i hi => hσ i (h0 i hi)) fun x => ?_
  have h := XW_sound hE ks 2000 _ _ (hstep x)
  intro ρ F a w hc
  have key : ∀ e a w, Wk c (.inv (fun st' => ∃ y, μ y < μ x ∧ ∃ S σ, Sub S σ st' (Inv y) ∧ ∀ i, i ∈ T → σ i = i) :: k) e a w → Wk c (.inv (fun st' => ∃ y, μ y < μ x ∧ ∃ S σ, Sub S σ st' (Inv y) ∧ ∀ i, c.ρ0 i ≠ none → σ i = i) :: k) e a w := by
    intro e a w hw
    cases e with
    | normal =>
      obtain ⟨ρ, F, st', ⟨y, hlt, S, σ, hs, ht⟩, hc⟩ := hw
      exact ⟨ρ, F, st', ⟨y, hlt, S, σ, hs, fun i hi => ht i (h0 i hi)⟩, hc⟩
    | _ => exact hw
  have hh := h ρ F a w hc
  exact Go.wp_mono (show body.wp c.P _ a w from hh) key
theorem endC_T {P : Program} {rs : List ResultVar} {v : AV} {T : List Nat} {u : List (Nat × Option Blk)} {st : AS} (l : List Nat) {vs : List AV} (hr : resVs P st rs = some vs) (hv : viewA (hget st.hp) [] (sg st.nx l) v (retV vs)) (hb : subHp (hget st.hp) [] (sg st.nx l) u)
    (nd : nodupB (keys u) = true) (nd' : nodupB ((liveK u).map (sg st.nx l)) = true) (hT : ∀ i, i ∈ T → sg st.nx l i = i ∧ i ∈ keys u) (hl : ∀ i, i ∉ liveK u → l.length ≤ i) : EndC P rs v T u st :=
  .inl ⟨[], sg st.nx l, ⟨vs, hr, hv⟩, hb, nd, nd', trivial, fun i hi => ⟨fun _ => (hT i hi).1, (hT i hi).2⟩, fun i hi => sg_fresh l _ i (hl i hi)⟩
/-- blocks that came in and are gone -/
theorem endC_D {P : Program} {rs : List ResultVar} {v : AV} {T : List Nat} {u : List (Nat × Option Blk)} {st : AS} (l : List Nat) {vs : List AV} (hr : resVs P st rs = some vs) (hv : viewA (hget st.hp) [] (sg st.nx l) v (retV vs)) (hb : subHp (hget st.hp) [] (sg st.nx l) u)
    (nd : nodupB (keys u) = true) (nd' : nodupB ((liveK u).map (sg st.nx l)) = true) (hT : ∀ i, i ∈ T → (i ∈ liveK u → sg st.nx l i = i) ∧ i ∈ keys u) (hl : ∀ i, i ∉ liveK u → st.nx ≤ sg st.nx l i) : EndC P rs v T u st :=
  .inl ⟨[], sg st.nx l, ⟨vs, hr, hv⟩, hb, nd, nd', trivial, hT, hl⟩

theorem viewAs_app {h : Heap} {S : List Nat} {σ : Nat → Nat} : ∀ {xs cs : List AV} (bs ds : List AV), viewAs h S σ xs cs → viewAs h S σ bs ds → viewAs h S σ (xs ++ bs) (cs ++ ds)
  | [], cs, bs, ds, h1, h2 => by simp only [viewAs] at h1; subst h1; exact h2
  | a :: xs, [], bs, ds, h1, _ => by simp [viewAs] at h1
  | a :: xs, c :: cs, bs, ds, h1, h2 => by
    simp only [viewAs] at h1
    simp only [List.cons_append, viewAs]
    exact ⟨h1.1, viewAs_app bs ds h1.2 h2⟩


end Go.Abs

/-
  A region that draws its order: every order. Own work; no statement of the seat is proved here.
-/
import Derived.Test.YtpelcbonflijhaaAbsQ
namespace Go.Abs
set_option linter.unusedSimpArgs false
set_option linter.unusedVariables false
open Go Go.RowKit

theorem ConcF.ev {c : Ctx} {ρ : IdMap} {F : FSet} {fs : FS} {a : Act} {w : World} (h : ConcF c ρ F fs a w) (x : Operand) : Rd ρ F w (evF fs x) (a.eval x) := by
  cases x with
  | tmp t => exact h.slots t
  | const v =>
    simp only [evF, Act.eval]
    cases v with
    | agg cs =>
      cases hc : constOk (.agg cs) with
      | false => exact .any _
      | true =>
        simp only [ofConst]
        refine .agg _ _ (by simp) (fun j x hj => ?_)
        simp only [List.getElem?_map, Option.map_eq_some_iff] at hj
        obtain ⟨y, hy, rfl⟩ := hj
        have hy' : cs[j]? = some y := by simpa using hy
        have : cs.getD j undef = y := by simp [Array.getD_eq_getD_getElem?, hy']
        rw [this]
        refine .p _ _ (.v _ ?_)
        simp only [constOk, List.all_eq_true] at hc
        exact hc y (List.mem_of_getElem? hy)
    | tuple vs => simp only [constOk, ofConst]; exact .any _
    | _ => simp only [constOk, ofConst]; exact .p _ _ (.v _ rfl)
  | global g => exact .any _
  | func f => exact .p _ _ (.v _ rfl)

theorem ConcF.putF {c : Ctx} {ρ : IdMap} {F : FSet} {fs : FS} {a : Act} {w : World} (h : ConcF c ρ F fs a w) (d : Option Nat) {v : AV} {x : Value} (hv : Rd ρ F w v x) : ConcF c ρ F (Abs.putF fs d v) (a.put d x) w := by
  refine ⟨?_, ?_, fun s => ?_, h.heap, h.fresh, h.fok, h.chg, h.dom, h.own, h.keep⟩
  · cases d <;> simp [Act.put, h.defers]
  · show (a.put d x).tmps.size = fs.n
    rw [← h.size]; cases d <;> simp [Act.put]
  · have hold := h.slots s
    cases d with
    | none => exact hold
    | some d =>
      simp only [Abs.putF, Act.put]
      by_cases hd : d = s ∧ d < fs.n
      · obtain ⟨rfl, hlt⟩ := hd
        have : d < a.tmps.size := by rw [h.size]; exact hlt
        simp [Array.getD_eq_getD_getElem?, this, hlt]
        exact hv
      · rw [if_neg hd]
        by_cases he : d = s
        · have hge : a.tmps.size ≤ d := by rw [h.size]; omega
          simp only [Array.setIfInBounds_eq_of_size_le hge]
          exact hold
        · simpa [Array.getD_eq_getD_getElem?, Array.getElem?_setIfInBounds_ne he] using hold

theorem step_okF {P : Program} {o : Oper} {fs : FS} {v : AV} {T : List Nat} {u : List (Nat × Option Blk)} (ho : OpF P o fs v T u) (hkeys : ∀ i, i ∈ keys u → i ∈ T ∨ ¬ fs.al i) (hlive : ∀ i, i ∈ T → fs.hp i ≠ none)
    {c : Ctx} {ρ : IdMap} {F : FSet} {a : Act} {w : World} (h : ConcF c ρ F fs a w) (K : Act → World → Prop) (Q : Exit → Act → World → Prop)
    (hK : ∀ ρ' F' a' w', ConcF c ρ' F' (effF fs o.dst v u) a' w' → K a' w') : o.wp P a w K Q := by
  have hfr : ∀ i, i ∈ keys u → i ∉ T → ρ i = none := fun i hi hT => h.fresh i (by rcases hkeys i hi with h1 | h1; exact absurd h1 hT; exact h1)
  have hpre : Pre ρ F w T u fs.hp := ⟨h.fok, h.heap.restr T, hfr⟩
  refine ho ρ F a w hpre (fun x _ => h.ev x) K Q (fun x ρ' F' w' hp => hK ρ' F' _ w' ?_)
  have hheap := Post.frame h.heap h.fok hfr hlive hp
  have hO : ∀ b, OSet ρ (keys u) b → c.O b ∨ c.w0.heap.size ≤ b := by
    rintro b ⟨i, hi, hb⟩
    have hT : i ∈ T := by
      by_cases hT : i ∈ T
      · exact hT
      · rw [hfr i hi hT] at hb; cases hb
    rcases h.own i b (hlive i hT) hb with h1 | h1
    · exact .inr h1
    · exact .inl h1
  have h1 : ConcF c ρ' F' ⟨fs.n, fs.sl, updH u fs.hp, fun i => fs.al i ∨ i ∈ keys u⟩ a w' := by
    refine ⟨h.defers, h.size, fun s => Post.keep hpre hlive hp (h.slots s), hheap, fun i hi => ?_, hp.fok, h.chg.trans hp.chg hO, fun i hi => ?_, fun i b hi hb => ?_, fun i b hb => hp.rho i b (h.keep i b hb)⟩
    · have h0 := h.fresh i (fun h2 => hi (.inl h2))
      cases hr : ρ' i with
      | none => rfl
      | some b => exact absurd (.inr (hp.new i h0 (by rw [hr]; simp))) hi
    · by_cases hk : i ∈ keys u
      · exact .inr hk
      · simp only [updH, if_neg hk] at hi
        exact .inl (h.dom i hi)
    · cases hr : ρ i with
      | some b' =>
        have := hp.rho i b' hr
        rw [hb] at this; cases this
        by_cases hn : fs.hp i = none
        · have hk : i ∈ keys u := by
            by_cases hk : i ∈ keys u
            · exact hk
            · exact absurd (by simp only [updH, if_neg hk]; exact hn) hi
          rcases hkeys i hk with h2 | h2
          · exact absurd hn (hlive i h2)
          · rw [h.fresh i h2] at hr; cases hr
        · exact h.own i b hn hr
      | none =>
        rcases hp.blk i b hr hb with h2 | h2
        · exact .inl (Nat.le_trans h.chg.size h2)
        · rcases hO b h2 with h3 | h3
          · exact .inr h3
          · exact .inl h3
  exact h1.putF o.dst hp.rd

theorem wanted_F {c : Ctx} {ρ : IdMap} {F : FSet} {fs : FS} {a : Act} {w : World} (h : ConcF c ρ F fs a w) {all : Array Oper} {o : Oper} {b : Bool} (hw : wantF all o fs b) : Region.wanted o (yielded all a.tmps) = b := by
  unfold wantF at hw
  unfold Region.wanted
  cases hg : o.guard with
  | none => rw [hg] at hw; subst hw; rfl
  | some p =>
    obtain ⟨j, want⟩ := p
    rw [hg] at hw
    obtain ⟨d, g, hd, hs, rfl⟩ := hw
    have hsl := h.slots d
    rw [hs] at hsl
    have hpv := hsl.pv
    have hlt : d < a.tmps.size := by
      rcases Nat.lt_or_ge d a.tmps.size with h1 | h1
      · exact h1
      · simp [Array.getD_eq_getD_getElem?, Array.getElem?_eq_none h1, undef] at hpv
    have hget' : a.tmps[d]? = some (.bool g) := by
      have : a.tmps.getD d undef = a.tmps[d] := by simp [Array.getD, hlt]
      rw [Array.getElem?_eq_getElem hlt, ← this, hpv]
    have hy : yielded all a.tmps j = some g := by
      unfold yielded
      rw [hd]
      simp [hget']
    simp only [hy]
    cases g <;> cases want <;> rfl

def edgeB (o : Oper) (i : Nat) : Bool := o.after.toList.any fun e => Region.binds .any e && Nat.beq e.on i

/-- operation j comes before operation i, whatever is drawn -/
inductive TP (all : Array Oper) : Nat → Nat → Prop
  | one {j i : Nat} {o : Oper} (h : all[i]? = some o) (he : edgeB o j = true) : TP all j i
  | more {j k i : Nat} {o : Oper} (hk : TP all j k) (h : all[i]? = some o) (he : edgeB o k = true) : TP all j i

def closedL (all : Array Oper) (listed : Array Bool) : Prop := ∀ i o, all[i]? = some o → listed.getD i false = true → ∀ j, edgeB o j = true → listed.getD j false = true

theorem TP.listed {all : Array Oper} {listed : Array Bool} (hc : closedL all listed) {j i : Nat} (h : TP all j i) : (∀ o, all[i]? = some o → ∀ k, edgeB o k = true → listed.getD k false = true) → listed.getD j false = true := by
  induction h with
  | one h he => intro hr; exact hr _ h _ he
  | more hk h he ih =>
    intro hr
    have h1 := hr _ h _ he
    exact ih (fun o ho k hk' => hc _ o ho h1 k hk')

theorem draw_any {c : Ctx} {all : Array Oper} {Q : Exit → Act → World → Prop} {fe : FS} (hQ : ∀ ρ F a w, ConcF c ρ F fe a w → Q .normal a w) :
    ∀ (fuel : Nat) (L : List (Nat × Oper × Stp)) (fs : FS) (ρ : IdMap) (F : FSet) (a : Act) (w : World) (listed : Array Bool), ConcF c ρ F fs a w → RunF c.P all L fs fe →
      L.Pairwise (fun x y => x.1 < y.1) → (∀ x, x ∈ L → all[x.1]? = some x.2.1) → L.Pairwise (fun x y => Indep all x.2.1 y.2.1 x.2.2 y.2.2 ∨ TP all x.1 y.1) →
      (∀ x, x ∈ L → ∀ i, edgeB x.2.1 i = true → i < x.1) → closedL all listed → listed.size = all.size → (∀ i, i < all.size → (listed.getD i true = false ↔ ∃ x, x ∈ L ∧ x.1 = i)) → L.length ≤ fuel →
      wpAny c.P .any all Q fuel listed a w := by
  intro fuel
  have notReady : ∀ (L : List (Nat × Oper × Stp)) (listed : Array Bool), L.Pairwise (fun x y => x.1 < y.1) → (∀ x, x ∈ L → all[x.1]? = some x.2.1) → (∀ x, x ∈ L → ∀ i, edgeB x.2.1 i = true → i < x.1) →
      listed.size = all.size → (∀ i, i < all.size → (listed.getD i true = false ↔ ∃ x, x ∈ L ∧ x.1 = i)) → Region.ready .any all listed = [] → L = [] := by
    intro L listed hs hall hedge hsz hl hr
    cases L with
    | nil => rfl
    | cons x L =>
      exfalso
      have hx := hall x (by simp)
      have hlt : x.1 < all.size := (Array.getElem?_eq_some_iff.1 hx).1
      have : x.1 ∈ Region.ready .any all listed := by
        unfold Region.ready
        rw [List.mem_filter]
        refine ⟨by simpa using hlt, ?_⟩
        have h1 : listed.getD x.1 true = false := (hl x.1 hlt).2 ⟨x, by simp, rfl⟩
        simp only [h1, Bool.not_false, Bool.true_and, hx, Option.map_some, Option.getD_some, Array.all_eq_true_iff_forall_mem, Bool.or_eq_true, Bool.not_eq_true']
        intro e he
        by_cases hb : Region.binds .any e = true
        · right
          have hei : edgeB x.2.1 e.on = true := by
            unfold edgeB
            rw [List.any_eq_true]
            exact ⟨e, by simpa using he, by simp [hb]⟩
          have hlt' := hedge x (by simp) e.on hei
          have hsz' : e.on < all.size := by omega
          cases hg : listed.getD e.on false with
          | true => rfl
          | false =>
            exfalso
            have hg' : listed.getD e.on true = false := by
              have : e.on < listed.size := by omega
              simp [Array.getD, this] at hg ⊢
              exact hg
            obtain ⟨y, hy, hye⟩ := (hl e.on hsz').1 hg'
            rcases List.mem_cons.1 hy with rfl | hy
            · omega
            · have := (List.pairwise_cons.1 hs).1 y hy
              omega
        · left
          simpa using hb
      rw [hr] at this
      cases this
  induction fuel with
  | zero =>
    intro L fs ρ F a w listed hc hrun hs hall hpair hedge hcl hsz hl hlen
    have hL : L = [] := List.eq_nil_of_length_eq_zero (by omega)
    subst hL
    refine ⟨?_, hQ ρ F a w (by have : fs = fe := hrun; rw [← this]; exact hc)⟩
    unfold Region.ready
    rw [List.filter_eq_nil_iff]
    intro i hi
    have hlt : i < all.size := by simpa using hi
    have : listed.getD i true = true := by
      cases hg : listed.getD i true with
      | true => rfl
      | false => obtain ⟨x, hx, _⟩ := (hl i hlt).1 hg; cases hx
    simp [this]
  | succ fuel ih =>
    intro L fs ρ F a w listed hc hrun hs hall hpair hedge hcl hsz hl hlen
    refine ⟨fun hr => ?_, fun i hi => ?_⟩
    · have hL := notReady L listed hs hall hedge hsz hl hr
      subst hL
      exact hQ ρ F a w (by have : fs = fe := hrun; rw [← this]; exact hc)
    · -- operation i is taken next
      unfold Region.ready at hi
      rw [List.mem_filter] at hi
      obtain ⟨hlt, hcond⟩ := hi
      have hlt' : i < all.size := by simpa using hlt
      simp only [Bool.and_eq_true, Bool.not_eq_true'] at hcond
      obtain ⟨hnl, hafter⟩ := hcond
      obtain ⟨x, hx, hxi⟩ := (hl i hlt').1 hnl
      obtain ⟨L1, L2, rfl⟩ := List.append_of_mem hx
      have hox := hall x hx
      have hdir : ∀ o, all[x.1]? = some o → ∀ k, edgeB o k = true → listed.getD k false = true := by
        intro o ho k hk
        rw [hox] at ho
        cases ho
        unfold edgeB at hk
        rw [List.any_eq_true] at hk
        obtain ⟨e, he, hee⟩ := hk
        simp only [Bool.and_eq_true] at hee
        have heo := Nat.eq_of_beq_eq_true hee.2
        rw [← hxi, hox] at hafter
        simp only [Option.map_some, Option.getD_some, Array.all_eq_true_iff_forall_mem, Bool.or_eq_true, Bool.not_eq_true'] at hafter
        rcases hafter e (by simpa using he) with h1 | h1
        · rw [hee.1] at h1; cases h1
        · rw [← heo]; exact h1
      have hind : ∀ y, y ∈ L1 → Indep all y.2.1 x.2.1 y.2.2 x.2.2 := by
        intro y hy
        have hp := (List.pairwise_append.1 hpair).2.2 y hy x (by simp)
        rcases hp with hp | hp
        · exact hp
        · exfalso
          have h1 := hp.listed hcl hdir
          have hyl : y.1 < all.size := (Array.getElem?_eq_some_iff.1 (hall y (by simp [hy]))).1
          have := (hl y.1 hyl).2 ⟨y, by simp [hy], rfl⟩
          have hsy : y.1 < listed.size := by omega
          simp [Array.getD, hsy] at h1 this
          rw [h1] at this; cases this
      have hrun' := run_front L1 L2 fs fe hind hrun
      obtain ⟨ix, ox, sx⟩ := x
      simp only at hxi hox
      subst hxi
      obtain ⟨hstp, hrest⟩ := hrun'
      have hsub : (L1 ++ L2).Sublist (L1 ++ (ix, ox, sx) :: L2) := List.Sublist.append (List.Sublist.refl _) (List.sublist_cons_self _ _)
      have hnext : ∀ ρ' F' a' w', ConcF c ρ' F' (appF ox fs sx) a' w' → wpAny c.P .any all Q fuel (listed.setIfInBounds ix true) a' w' := by
        intro ρ' F' a' w' hc'
        refine ih (L1 ++ L2) _ ρ' F' a' w' _ hc' hrest (hs.sublist hsub) (fun y hy => hall y (hsub.mem hy)) (hpair.sublist hsub) (fun y hy => hedge y (hsub.mem hy)) ?_ (by simpa using hsz) (fun j hj => ?_) (by simp at hlen ⊢; omega)
        · intro j o ho hj k hk
          have hmono : ∀ k, listed.getD k false = true → (listed.setIfInBounds ix true).getD k false = true := by
            intro k hk
            by_cases he : ix = k
            · subst he
              have : ix < listed.size := by omega
              simp [Array.getD, this]
            · simpa [Array.getD_eq_getD_getElem?, Array.getElem?_setIfInBounds_ne he] using hk
          by_cases hji : j = ix
          · subst hji
            exact hmono k (hdir o ho k hk)
          · have : listed.getD j false = true := by
              simpa [Array.getD_eq_getD_getElem?, Array.getElem?_setIfInBounds_ne (fun e => hji e.symm)] using hj
            exact hmono k (hcl j o ho this k hk)
        by_cases hji : j = ix
        · subst hji
          have hjs : j < listed.size := by omega
          simp [Array.getD, hjs]
          intro y1 y2
          rw [List.pairwise_append] at hs
          obtain ⟨_, hs2, hs3⟩ := hs
          refine ⟨fun hy => ?_, fun hy => ?_⟩
          · have := hs3 _ hy _ (List.mem_cons_self ..); simp at this
          · have := (List.pairwise_cons.1 hs2).1 _ hy; simp at this
        · have hjs : j < listed.size := by omega
          have e : (listed.setIfInBounds ix true).getD j true = listed.getD j true := by
            simp [Array.getD_eq_getD_getElem?, Array.getElem?_setIfInBounds_ne (fun e => hji e.symm)]
          rw [e, hl j hj]
          constructor
          · rintro ⟨y, hy, hyj⟩
            refine ⟨y, ?_, hyj⟩
            rcases List.mem_append.1 hy with h1 | h1
            · exact List.mem_append_left _ h1
            · rcases List.mem_cons.1 h1 with h2 | h2
              · subst h2; exact absurd hyj.symm hji
              · exact List.mem_append_right _ h2
          · rintro ⟨y, hy, hyj⟩
            exact ⟨y, hsub.mem hy, hyj⟩
      unfold wpOp
      rw [hox]
      simp only
      cases sx with
      | run v T u =>
        obtain ⟨hw, hop, hk, hlv⟩ := hstp
        rw [if_pos (wanted_F hc hw)]
        exact .inl (step_okF hop hk hlv hc _ _ hnext)
      | skip =>
        have hw : wantF all ox fs false := hstp
        have := wanted_F hc hw
        rw [if_neg (by rw [this]; simp)]
        exact hnext ρ F _ w (hc.putF ox.dst (.any _))

/-! the walk of such a region -/
abbrev FP := List Nat × List Nat
def Stp.fp (s : Stp) : FP := (s.T, s.K)

def memA : List Nat → List Nat → Bool
  | [], _ => false
  | k :: r, l => match memB l k with | true => true | false => memA r l

/-- for each operation those that surely come before it -/
def addAll : List Nat → List Nat → List Nat
  | [], l => l
  | k :: r, l => match memB l k with | true => addAll r l | false => addAll r (k :: l)
def nth : List (List Nat) → Nat → List Nat
  | [], _ => []
  | x :: _, 0 => x
  | _ :: r, i + 1 => nth r i
def cloE (acc : List (List Nat)) : List Edge → List Nat
  | [] => []
  | e :: r => match Region.binds .any e with
    | true => addAll (e.on :: nth acc e.on) (cloE acc r)
    | false => cloE acc r
def clo : List Oper → List (List Nat) → List (List Nat)
  | [], acc => acc
  | o :: os, acc => clo os (acc ++ [cloE acc o.after.toList])

theorem addAll_mem : ∀ (a b : List Nat) (x : Nat), x ∈ addAll a b → x ∈ a ∨ x ∈ b := by
  intro a
  induction a with
  | nil => intro b x h; exact .inr h
  | cons k r ih =>
    intro b x h
    unfold addAll at h
    split at h
    · rcases ih _ _ h with h1 | h1
      · exact .inl (List.mem_cons_of_mem _ h1)
      · exact .inr h1
    · rcases ih _ _ h with h1 | h1
      · exact .inl (List.mem_cons_of_mem _ h1)
      · rcases List.mem_cons.1 h1 with rfl | h1
        · exact .inl (by simp)
        · exact .inr h1

theorem nth_get (l : List (List Nat)) (i : Nat) : nth l i = (l[i]?).getD [] := by
  induction l generalizing i with
  | nil => simp [nth]
  | cons x r ih => cases i <;> simp [nth, ih]

theorem cloE_mem {all : Array Oper} {i : Nat} {o : Oper} (ho : all[i]? = some o) {acc : List (List Nat)} (hacc : ∀ k x, x ∈ nth acc k → TP all x k) : ∀ (es : List Edge), (∀ e, e ∈ es → e ∈ o.after.toList) → ∀ x, x ∈ cloE acc es → TP all x i := by
  intro es
  induction es with
  | nil => intro _ x hx; cases hx
  | cons e r ih =>
    intro hsub x hx
    unfold cloE at hx
    cases hb : Region.binds .any e with
    | false => rw [hb] at hx; exact ih (fun e he => hsub e (List.mem_cons_of_mem _ he)) x hx
    | true =>
      rw [hb] at hx
      have hedge : edgeB o e.on = true := by
        unfold edgeB
        rw [List.any_eq_true]
        exact ⟨e, hsub e (by simp), by simp [hb]⟩
      rcases addAll_mem _ _ _ hx with h1 | h1
      · rcases List.mem_cons.1 h1 with rfl | h1
        · exact .one ho hedge
        · exact .more (hacc _ _ h1) ho hedge
      · exact ih (fun e he => hsub e (List.mem_cons_of_mem _ he)) x h1

theorem clo_mem {all : Array Oper} : ∀ (os : List Oper) (acc : List (List Nat)), (∀ k o, os[k]? = some o → all[acc.length + k]? = some o) → (∀ k x, x ∈ nth acc k → TP all x k) → ∀ k x, x ∈ nth (clo os acc) k → TP all x k := by
  intro os
  induction os with
  | nil => intro acc _ h; exact h
  | cons o os ih =>
    intro acc hall hacc
    refine ih _ (fun k o' ho' => ?_) (fun k x hx => ?_)
    · have := hall (k + 1) o' (by simpa using ho')
      simpa [Nat.add_assoc, Nat.add_comm 1 k] using this
    · rw [nth_get] at hx
      by_cases hk : k < acc.length
      · rw [List.getElem?_append_left hk, ← nth_get] at hx
        exact hacc k x hx
      · by_cases hk2 : k = acc.length
        · subst hk2
          simp at hx
          exact cloE_mem (by simpa using hall 0 o rfl) hacc _ (fun e he => he) x hx
        · rw [List.getElem?_eq_none (by simp; omega)] at hx
          cases hx

def indB (all : Array Oper) (o o' : Oper) (f f' : FP) : Bool := o.apart all o' && !memA f.2 f'.1 && !memA f.2 f'.2 && !memA f'.2 f.1
def pairB (all : Array Oper) (cl : List (List Nat)) (i : Nat) (o : Oper) (f : FP) : Nat → List Oper → List FP → Bool
  | j, o' :: os, f' :: fs => (indB all o o' f f' || memB (nth cl j) i) && pairB all cl i o f (j + 1) os fs
  | _, _, _ => true
def ltEdges (o : Oper) (i : Nat) : Bool := o.after.toList.all fun e => !Region.binds .any e || Nat.blt e.on i
def okFrom (all : Array Oper) (cl : List (List Nat)) (i : Nat) : List Oper → List FP → Bool
  | o :: os, f :: fs => pairB all cl i o f (i + 1) os fs && ltEdges o i && okFrom all cl (i + 1) os fs
  | _, _ => true
def okDraw (all : Array Oper) (fs : List FP) : Bool := okFrom all (clo all.toList []) 0 all.toList fs

theorem memA_no {l m : List Nat} (h : memA l m = false) : ∀ i, i ∈ l → i ∉ m := by
  induction l with
  | nil => intro i hi; cases hi
  | cons k r ih =>
    intro i hi
    unfold memA at h
    cases hb : memB m k with
    | true => rw [hb] at h; cases h
    | false =>
      rw [hb] at h
      rcases List.mem_cons.1 hi with rfl | hi
      · intro hm; rw [(memB_iff m i).2 hm] at hb; cases hb
      · exact ih h i hi

theorem indB_ok {all : Array Oper} {o o' : Oper} {s s' : Stp} (h : indB all o o' s.fp s'.fp = true) : Indep all o o' s s' := by
  unfold indB at h
  simp only [Bool.and_eq_true, Bool.not_eq_true'] at h
  obtain ⟨⟨⟨h1, h2⟩, h3⟩, h4⟩ := h
  exact ⟨h1, fun i hi => ⟨memA_no h2 i hi, memA_no h3 i hi⟩, fun i hi => memA_no h4 i hi⟩

def mkL : Nat → List Oper → List Stp → List (Nat × Oper × Stp)
  | i, o :: os, s :: ss => (i, o, s) :: mkL (i + 1) os ss
  | _, _, _ => []

theorem mkL_ge : ∀ (os : List Oper) (ss : List Stp) (i : Nat) (x), x ∈ mkL i os ss → i ≤ x.1 ∧ os[x.1 - i]? = some x.2.1 := by
  intro os
  induction os with
  | nil => intro ss i x hx; simp [mkL] at hx
  | cons o os ih =>
    intro ss i x hx
    cases ss with
    | nil => simp [mkL] at hx
    | cons s ss =>
      rcases List.mem_cons.1 hx with rfl | hx
      · simp
      · obtain ⟨h1, h2⟩ := ih ss (i + 1) x hx
        refine ⟨by omega, ?_⟩
        rw [show x.1 - i = x.1 - (i + 1) + 1 by omega]
        simpa using h2

theorem mkL_all : ∀ (os : List Oper) (ss : List Stp) (i : Nat), os.length = ss.length → (∀ j, j < os.length → ∃ x, x ∈ mkL i os ss ∧ x.1 = i + j) ∧ (mkL i os ss).length = os.length := by
  intro os
  induction os with
  | nil => intro ss i _; exact ⟨fun j hj => by simp at hj, by simp [mkL]⟩
  | cons o os ih =>
    intro ss i hl
    cases ss with
    | nil => simp at hl
    | cons s ss =>
      obtain ⟨h1, h2⟩ := ih ss (i + 1) (by simpa using hl)
      refine ⟨fun j hj => ?_, by simp [mkL, h2]⟩
      cases j with
      | zero => exact ⟨(i, o, s), by simp [mkL], rfl⟩
      | succ j =>
        obtain ⟨x, hx, hxe⟩ := h1 j (by simpa using hj)
        exact ⟨x, by simp [mkL, hx], by omega⟩

theorem mkL_ok (all : Array Oper) {cl : List (List Nat)} (hcl : ∀ k x, x ∈ nth cl k → TP all x k) : ∀ (os : List Oper) (ss : List Stp) (i : Nat), okFrom all cl i os (ss.map Stp.fp) = true →
    (mkL i os ss).Pairwise (fun x y => x.1 < y.1) ∧ (mkL i os ss).Pairwise (fun x y => Indep all x.2.1 y.2.1 x.2.2 y.2.2 ∨ TP all x.1 y.1) ∧ (∀ x, x ∈ mkL i os ss → ∀ j, edgeB x.2.1 j = true → j < x.1) := by
  intro os
  induction os with
  | nil => intro ss i _; exact ⟨by simp [mkL], by simp [mkL], fun x hx => by simp [mkL] at hx⟩
  | cons o os ih =>
    intro ss i h
    cases ss with
    | nil => exact ⟨by simp [mkL], by simp [mkL], fun x hx => by simp [mkL] at hx⟩
    | cons s ss =>
      simp only [List.map_cons, okFrom, Bool.and_eq_true] at h
      obtain ⟨⟨hp, he⟩, hr⟩ := h
      obtain ⟨h1, h2, h3⟩ := ih ss (i + 1) hr
      have hpair : ∀ (os : List Oper) (ss : List Stp) (k : Nat), pairB all cl i o s.fp k os (ss.map Stp.fp) = true → ∀ y, y ∈ mkL k os ss → Indep all o y.2.1 s y.2.2 ∨ TP all i y.1 := by
        intro os
        induction os with
        | nil => intro ss k _ y hy; simp [mkL] at hy
        | cons o' os ih =>
          intro ss k hh y hy
          cases ss with
          | nil => simp [mkL] at hy
          | cons s' ss =>
            simp only [List.map_cons, pairB, Bool.and_eq_true, Bool.or_eq_true] at hh
            rcases List.mem_cons.1 hy with rfl | hy
            · rcases hh.1 with h1 | h1
              · exact .inl (indB_ok h1)
              · exact .inr (hcl k i ((memB_iff _ _).1 h1))
            · exact ih ss (k + 1) hh.2 y hy
      refine ⟨?_, ?_, fun x hx j hj => ?_⟩
      · simp only [mkL, List.pairwise_cons]
        exact ⟨fun y hy => (by have := (mkL_ge os ss (i + 1) y hy).1; omega), h1⟩
      · simp only [mkL, List.pairwise_cons]
        exact ⟨fun y hy => hpair os ss (i + 1) hp y hy, h2⟩
      · rcases List.mem_cons.1 hx with rfl | hx
        · unfold edgeB at hj
          rw [List.any_eq_true] at hj
          obtain ⟨e, hem, hee⟩ := hj
          simp only [Bool.and_eq_true] at hee
          unfold ltEdges at he
          rw [List.all_eq_true] at he
          have := he e hem
          simp only [Bool.or_eq_true, Bool.not_eq_true', hee.1] at this
          have heo := Nat.eq_of_beq_eq_true hee.2
          rcases this with h5 | h5
          · cases h5
          · simp only; rw [← heo]; simpa [Nat.blt_eq] using h5
        · exact h3 x hx j hj

/-- what the rest of such a walk must come to -/
def SD (c : Ctx) (all : Array Oper) (l : List Oper) (acc : List FP) (k : List It) (fs : FS) : Prop :=
  ∃ (ss : List Stp) (fe : FS), ss.length = l.length ∧ (∀ i, RunF c.P all (mkL i l ss) fs fe) ∧ okDraw all (acc ++ ss.map Stp.fp) = true ∧ ∀ ρ F a w, ConcF c ρ F fe a w → Wk c k .normal a w

theorem Rd.drew {ρ : IdMap} {F : FSet} {w : World} {x : AV} {u : Value} (h : Rd ρ F w x u) : Rd ρ F w.drew x u := Rd.mono (w := w) (w' := w.drew) (F := F) (F' := F) (ρ := ρ) (ρ' := ρ) (fun _ _ h => h) (fun _ h => h) (fun _ _ => rfl) (fun _ _ h => h) h

theorem saw_draw0 {c : Ctx} {all : Array Oper} {id : Nat} {k : List It} {st : AS} (hm : c.P.follows .mixedOrders = true) (h : SD c all all.toList [] k st.fs) : SAW c (.code (.region id all true) :: k) st := by
  intro ρ F a w hc
  obtain ⟨ss, fe, hl, hrun, hok, hfin⟩ := h
  refine wp_region_any hm ?_
  simp only [List.nil_append] at hok
  have hcl : ∀ k x, x ∈ nth (clo all.toList []) k → TP all x k := clo_mem all.toList [] (fun k o ho => by simpa using ho) (fun k x hx => by simp [nth] at hx)
  obtain ⟨h1, h2, h3⟩ := mkL_ok all hcl all.toList ss 0 hok
  obtain ⟨h4, h5⟩ := mkL_all all.toList ss 0 hl.symm
  have hcF : ConcF c ρ F st.fs a { w with drawn := w.drawn + 1 } := by
    have := hc.toF
    exact ⟨this.defers, this.size, fun s => (this.slots s).drew, ⟨fun i k hk => by
      rcases this.heap.ok i k hk with h1 | ⟨b, hb, ho⟩
      · exact .inl h1
      · refine .inr ⟨b, hb, ⟨ho.own, ?_⟩⟩
        obtain ⟨arr, ha, hl, hcc⟩ := ho.is
        exact ⟨arr, ha, hl, fun j c hj => ⟨(hcc j c hj).1, (hcc j c hj).2.drew⟩⟩, this.heap.inj⟩, this.fresh, this.fok, this.chg.trans (Chg.drew c.O F w) (fun b hb => .inl hb), this.dom, this.own, this.keep⟩
  refine draw_any hfin all.size (mkL 0 all.toList ss) st.fs ρ F a _ _ hcF (hrun 0) h1 (fun x hx => ?_) h2 h3 (fun i o _ hi => by by_cases h : i < all.size <;> simp [Array.getD, h] at hi) (by simp) (fun i hi => ?_) (by rw [h5]; simp)
  · have := (mkL_ge _ _ _ x hx).2
    simpa using this
  · constructor
    · intro _
      obtain ⟨x, hx, hxe⟩ := h4 i (by simpa using hi)
      exact ⟨x, hx, by omega⟩
    · intro _
      simp [Array.getD, hi]

structure LeA (fs fs' : FS) : Prop where
  n : fs'.n = fs.n
  sl : fs'.sl = fs.sl
  hp : fs'.hp = fs.hp
  al : ∀ i, fs'.al i → fs.al i

theorem LeA.app {fs fs' : FS} (h : LeA fs fs') (o : Oper) (s : Stp) : LeA (appF o fs s) (appF o fs' s) := by
  obtain ⟨n, sl, hp, al⟩ := fs
  obtain ⟨n', sl', hp', al'⟩ := fs'
  obtain ⟨h1, h2, h3, h4⟩ := h
  simp only at h1 h2 h3 h4
  subst h1 h2 h3
  cases s with
  | run v T u => exact ⟨rfl, rfl, rfl, fun i hi => by rcases hi with hi | hi; exact .inl (h4 i hi); exact .inr hi⟩
  | skip => exact ⟨rfl, rfl, rfl, h4⟩

theorem LeA.stp {P : Program} {all : Array Oper} {o : Oper} {fs fs' : FS} {s : Stp} (h : LeA fs fs') (hs : StpOk P all o fs s) : StpOk P all o fs' s := by
  obtain ⟨n, sl, hp, al⟩ := fs
  obtain ⟨n', sl', hp', al'⟩ := fs'
  obtain ⟨h1, h2, h3, h4⟩ := h
  simp only at h1 h2 h3 h4
  subst h1 h2 h3
  cases s with
  | run v T u =>
    obtain ⟨a, b, c, d⟩ := hs
    exact ⟨a, b, fun i hi => by rcases c i hi with h5 | h5; exact .inl h5; exact .inr (fun h6 => h5 (h4 i h6)), d⟩
  | skip => exact hs

theorem RunF.le {P : Program} {all : Array Oper} : ∀ (L : List (Nat × Oper × Stp)) {fs fs' fe : FS}, RunF P all L fs fe → LeA fs fs' → ∃ fe', RunF P all L fs' fe' ∧ LeA fe fe'
  | [], fs, fs', fe, h, hl => ⟨fs', rfl, by have : fs = fe := h; rw [← this]; exact hl⟩
  | (i, o, s) :: L, fs, fs', fe, h, hl => by
    obtain ⟨fe', h1, h2⟩ := RunF.le L h.2 (hl.app o s)
    exact ⟨fe', ⟨hl.stp h.1, h1⟩, h2⟩

theorem LeA.conc {c : Ctx} {ρ : IdMap} {F : FSet} {fs fs' : FS} {a : Act} {w : World} (h : LeA fs fs') (hc : ConcF c ρ F fs' a w) : ConcF c ρ F fs a w := by
  obtain ⟨n, sl, hp, al⟩ := fs
  obtain ⟨n', sl', hp', al'⟩ := fs'
  obtain ⟨h1, h2, h3, h4⟩ := h
  simp only at h1 h2 h3 h4
  subst h1 h2 h3
  exact ⟨hc.defers, hc.size, hc.slots, hc.heap, fun i hi => hc.fresh i (fun h5 => hi (h4 i h5)), hc.fok, hc.chg, fun i hi => h4 i (hc.dom i hi), hc.own, hc.keep⟩

/-- mkL's numbers do not matter to a run -/
theorem RunF.shift {P : Program} {all : Array Oper} : ∀ (l : List Oper) (ss : List Stp) (i j : Nat) (fs fe : FS), RunF P all (mkL i l ss) fs fe → RunF P all (mkL j l ss) fs fe
  | [], ss, i, j, fs, fe, h => h
  | o :: l, [], i, j, fs, fe, h => h
  | o :: l, s :: ss, i, j, fs, fe, h => ⟨h.1, RunF.shift l ss (i + 1) (j + 1) _ fe h.2⟩

theorem put_fs (st : AS) (d : Option Nat) (v : AV) : (put st d v).fs = putF st.fs d v := by
  cases d with
  | none => rfl
  | some d =>
    unfold put
    simp only
    cases hb : Nat.blt d st.n with
    | true =>
      have hlt : d < st.n := by simpa [Nat.blt_eq] using hb
      refine FS.ext' rfl (fun s => ?_) (fun _ => rfl) (fun _ => Iff.rfl)
      simp only [AS.fs, lk_cons, putF]
      by_cases h : d = s
      · subst h; simp [hlt]
      · simp [h]
    | false =>
      have hge : ¬ d < st.n := fun h => by
        have : Nat.blt d st.n = true := by simpa [Nat.blt_eq] using h
        rw [hb] at this; cases this
      refine FS.ext' rfl (fun s => ?_) (fun _ => rfl) (fun _ => Iff.rfl)
      exact (if_neg (fun h => hge h.2)).symm

theorem eff_le {st : AS} {d : Option Nat} {v : AV} {u : List (Nat × Option Blk)} {nx : Nat} (hle : st.nx ≤ nx) (hk : ∀ i, i ∈ keys u → i < nx) : LeA (eff st d v u nx).fs (effF st.fs d v u) := by
  unfold eff
  rw [put_fs]
  refine ⟨rfl, ?_, ?_, fun i hi => ?_⟩
  · rfl
  · show updH u (hget st.hp) = hget (u ++ st.hp)
    rw [hget_append]
  · rcases hi with hi | hi
    · exact Nat.lt_of_lt_of_le hi hle
    · exact hk i hi

theorem OpOk.toF {P : Program} {o : Oper} {st : AS} {v : AV} {T : List Nat} {u : List (Nat × Option Blk)} {nx : Nat} (h : OpOk P o st v T u nx) : OpF P o st.fs v T u := by
  intro ρ F a w hpre hin K Q hK
  exact h.tri ρ F a w hpre (fun x hx => by rw [← evF_fs]; exact hin x hx) K Q hK

theorem SD.step {c : Ctx} {all : Array Oper} {o : Oper} {os : List Oper} {acc : List FP} {k : List It} {st : AS} {v : AV} {T : List Nat} {u : List (Nat × Option Blk)} {nx : Nat} (hw : wantF all o st.fs true) (ho : OpOk c.P o st v T u nx) (hd : ∀ i, i ∈ T → i < nx)
    (h : SD c all os (acc ++ [(T, keys u)]) k (eff st o.dst v u nx).fs) : SD c all (o :: os) acc k st.fs := by
  obtain ⟨ss, fe, hl, hrun, hok, hfin⟩ := h
  have hle : LeA (eff st o.dst v u nx).fs (effF st.fs o.dst v u) := eff_le ho.le (fun i hi => by
    rcases ho.keysOk i hi with h1 | h1
    · exact hd i h1
    · exact h1.2)
  obtain ⟨fe', hr', hle'⟩ := RunF.le (mkL 0 os ss) (hrun 0) hle
  refine ⟨.run v T u :: ss, fe', by simp [hl], fun i => ⟨⟨hw, ho.toF, fun i hi => ?_, ho.live⟩, RunF.shift os ss 0 (i + 1) _ fe' hr'⟩, by simpa [Stp.fp, Stp.T, Stp.K, List.append_assoc] using hok, fun ρ F a w hc => hfin ρ F a w (hle'.conc hc)⟩
  rcases ho.keysOk i hi with h1 | h1
  · exact .inl h1
  · exact .inr (fun h2 => by have h2' : i < st.nx := h2; omega)

theorem SD.skip {c : Ctx} {all : Array Oper} {o : Oper} {os : List Oper} {acc : List FP} {k : List It} {st : AS} (hw : wantF all o st.fs false) (h : SD c all os (acc ++ [([], [])]) k (put st o.dst .any).fs) : SD c all (o :: os) acc k st.fs := by
  obtain ⟨ss, fe, hl, hrun, hok, hfin⟩ := h
  rw [put_fs] at hrun
  exact ⟨.skip :: ss, fe, by simp [hl], fun i => ⟨hw, hrun (i + 1)⟩, by simpa [Stp.fp, Stp.T, Stp.K, List.append_assoc] using hok, hfin⟩

/-- the walk stands at a call, inside a region that draws -/
def CallD (c : Ctx) (f : FuncId) (vs : List AV) (o : Oper) (all : Array Oper) (os : List Oper) (acc : List FP) (k : List It) (st : AS) : Prop :=
  CallIs c.P o st f vs → ∃ v T u nx, OpOk c.P o st v T u nx ∧ (∀ i, i ∈ T → i < nx) ∧ SD c all os (acc ++ [(T, keys u)]) k (eff st o.dst v u nx).fs

def resD (c : Ctx) (rec : List FP → AS → Prop) (o : Oper) (all : Array Oper) (os : List Oper) (acc : List FP) (k : List It) (st : AS) : R → Prop
  | .ok v T u nx => ltAll nx T = true ∧ rec (acc ++ [(T, keys u)]) (eff st o.dst v u nx)
  | .okS s v T u nx => s ∧ ltAll nx T = true ∧ rec (acc ++ [(T, keys u)]) (eff st o.dst v u nx)
  | .call f vs => CallD c f vs o all os acc k st
  | .bad => False

def guardD (c : Ctx) (rec : List FP → AS → Prop) (o : Oper) (all : Array Oper) (os : List Oper) (acc : List FP) (k : List It) (st : AS) (d : Nat) (want : Bool) : AV → Prop
  | .p (.v (.bool b)) => if b = want then resD c rec o all os acc k (setB st d want) (aop c.P o.op (setB st d want)) else rec (acc ++ [([], [])]) (put (setB st d (!want)) o.dst .any)
  | _ => False
def guardDO (c : Ctx) (rec : List FP → AS → Prop) (o : Oper) (all : Array Oper) (os : List Oper) (acc : List FP) (k : List It) (st : AS) (want : Bool) : Option Nat → Prop
  | some d => guardD c rec o all os acc k st d want (lk st.sl d)
  | none => False
def gD (c : Ctx) (rec : List FP → AS → Prop) (o : Oper) (all : Array Oper) (os : List Oper) (acc : List FP) (k : List It) (st : AS) : Option (Nat × Bool) → Prop
  | none => resD c rec o all os acc k st (aop c.P o.op st)
  | some (j, want) => guardDO c rec o all os acc k st want (dstL all.toList j)

def AD (c : Ctx) (ks : List Nat) (n : Nat) (all : Array Oper) (k : List It) : List Oper → List FP → AS → Prop
  | [], acc, st => okDraw all acc = true ∧ AW c ks n k (prune ks st)
  | o :: os, acc, st => gD c (AD c ks n all k os) o all os acc k st o.guard

theorem setB_fs {st : AS} {d : Nat} {b : Bool} (h : lk st.sl d = .b b) : (setB st d b).fs = st.fs := by
  refine FS.ext' rfl (fun s => ?_) (fun _ => rfl) (fun _ => Iff.rfl)
  simp only [AS.fs, setB, lk_cons]
  split
  · rename_i e; subst e; exact h.symm
  · rfl

theorem resD_sound {c : Ctx} {rec : List FP → AS → Prop} {o : Oper} {all : Array Oper} {os : List Oper} {acc : List FP} {k : List It} {st : AS} (hrec : ∀ acc st, rec acc st → SD c all os acc k st.fs) (hw : wantF all o st.fs true)
    (h : resD c rec o all os acc k st (aop c.P o.op st)) : SD c all (o :: os) acc k st.fs := by
  obtain ⟨h1, h2⟩ := aop_ok (P := c.P) o st
  cases hr : aop c.P o.op st with
  | ok v T u nx =>
    rw [hr] at h
    exact SD.step hw (h1 v T u nx hr) (fun i hi => ltAll_get h.1 hi) (hrec _ _ h.2)
  | okS s v T u nx =>
    rw [hr] at h
    exact SD.step hw (h2 s v T u nx hr h.1) (fun i hi => ltAll_get h.2.1 hi) (hrec _ _ h.2.2)
  | call f vs =>
    rw [hr] at h
    obtain ⟨v, T, u, nx, ho, hd, hs⟩ := h (aop_call hr)
    exact SD.step hw ho hd hs
  | bad => rw [hr] at h; exact h.elim

theorem AD_sound (c : Ctx) (ks : List Nat) (n : Nat) (all : Array Oper) (k : List It) : ∀ (l : List Oper) (acc : List FP) (st : AS), AD c ks n all k l acc st → SD c all l acc k st.fs := by
  intro l
  induction l with
  | nil =>
    intro acc st h
    exact ⟨[], st.fs, rfl, fun i => rfl, by simpa using h.1, fun ρ F a w hc => AW_sound c ks n k _ h.2 ρ F a w (hc.ofF.prune ks)⟩
  | cons o os ih =>
    intro acc st h
    unfold AD at h
    cases hg : o.guard with
    | none =>
      rw [hg] at h
      exact resD_sound ih (by simp [wantF, hg]) h
    | some p =>
      obtain ⟨j, want⟩ := p
      rw [hg] at h
      simp only [gD] at h
      cases hd : dstL all.toList j with
      | none => rw [hd] at h; exact h.elim
      | some d =>
        rw [hd] at h
        simp only [guardDO] at h
        have hd' : (all[j]?).bind (·.dst) = some d := by rw [dstL_get] at hd; simpa using hd
        unfold guardD at h
        split at h
        · rename_i b hv
          split at h
          · rename_i hb
            subst hb
            rw [← setB_fs hv]
            refine resD_sound ih ?_ h
            rw [setB_fs hv]
            unfold wantF
            rw [hg]
            exact ⟨d, b, hd', hv, by simp⟩
          · rename_i hb
            have hbn : b = !want := by cases b <;> cases want <;> simp_all
            rw [hbn] at hv
            rw [← setB_fs hv]
            refine SD.skip ?_ (ih _ _ h)
            rw [setB_fs hv]
            unfold wantF
            rw [hg]
            exact ⟨d, !want, hd', hv, by cases want <;> simp⟩
        · exact h.elim

theorem saw_draw {c : Ctx} {ks : List Nat} {all : Array Oper} {id : Nat} {k : List It} {st : AS} (n : Nat) (hm : c.P.follows .mixedOrders = true) (h : AD c ks n all k all.toList [] st) : SAW c (.code (.region id all true) :: k) st :=
  saw_draw0 hm (AD_sound c ks n all k _ _ _ h)

theorem ad_callP {c : Ctx} {ks : List Nat} {n : Nat} {f : FuncId} {vs : List AV} {o : Oper} {all : Array Oper} {os : List Oper} {acc : List FP} {k : List It} {st : AS} {v : AV} (hf : FPure c.P f vs v)
    (h : AD c ks n all k os (acc ++ [([], [])]) (put st o.dst v)) : CallD c f vs o all os acc k st := by
  intro hc
  exact ⟨v, [], [], st.nx, call_ok hc (hf (hget st.hp)) (Nat.le_refl _) (fun i hi => by simp [keys] at hi) (fun i hi => by cases hi), fun i hi => (by cases hi), AD_sound c ks n all k _ _ _ h⟩

end Go.Abs

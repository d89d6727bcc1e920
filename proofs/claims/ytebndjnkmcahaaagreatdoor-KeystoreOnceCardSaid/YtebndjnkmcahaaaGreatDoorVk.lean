/-
  Plain laws of the vault: the program's answers are the reference's. Own work; no statement of the seat is proved here.
-/
import Derived.Test.YtebndjnkmcahaaaGreatDoorVj
namespace Go.Proofs.YtebndjnkmcahaaaGreatDoor
set_option linter.unusedSimpArgs false
set_option linter.unusedVariables false
open Go Go.Abs Go.RowKit

def Srt (s : Store) : Prop := s.Pairwise fun a b => a.1 < b.1
theorem Srt.tail {p : Int × List UInt8} {s : Store} (h : Srt (p :: s)) : Srt s := (List.pairwise_cons.1 h).2
theorem Srt.head {p : Int × List UInt8} {s : Store} (h : Srt (p :: s)) : ∀ x, x ∈ s → p.1 < x.1 := (List.pairwise_cons.1 h).1
theorem delS_cons (k : Int) (q : Int × List UInt8) (r : Store) : delS k (q :: r) = if q.1 ≠ k then q :: delS k r else delS k r := by
  unfold delS
  rw [List.filter_cons]
  by_cases h : q.1 = k <;> simp [h]
theorem with1_true (p : Int × List UInt8) : ∀ s : Store, with1 p true s = delS p.1 s
  | [] => rfl
  | q :: r => by
    rw [delS_cons]
    simp only [with1, Bool.true_or, with1_true p r]
    by_cases h : q.1 = p.1 <;> simp [h]
theorem insS_front {k : Int} {v : List UInt8} : ∀ {s : Store}, (∀ x, x ∈ s → k < x.1) → insS k v s = (k, v) :: s
  | [], _ => rfl
  | q :: r, h => by simp only [insS]; rw [if_pos (h q (by simp))]
theorem with1_false (p : Int × List UInt8) : ∀ {s : Store}, Srt s → with1 p false s = insS p.1 p.2 (delS p.1 s)
  | [], _ => rfl
  | q :: r, h => by
    have hh := h.head
    rw [delS_cons]
    simp only [with1, Bool.false_or, true_and]
    by_cases h1 : q.1 ≥ p.1
    · simp only [h1, if_true, decide_true, with1_true]
      by_cases h2 : q.1 = p.1
      · rw [if_neg (fun h => h h2), if_neg (fun h => h h2)]
        rw [insS_front (fun x hx => by have := hh x (List.mem_filter.1 hx).1; omega)]
        rfl
      · rw [if_pos h2, if_pos h2]
        simp only [insS]
        rw [if_pos (by omega)]
        rfl
    · have h2 : q.1 ≠ p.1 := by omega
      rw [if_neg h1, if_pos h2, if_pos h2]
      simp only [insS]
      rw [if_neg (by omega)]
      simp only [h1, decide_false, List.nil_append, List.cons_append]
      rw [with1_false p h.tail]
theorem srt_del {s : Store} (h : Srt s) (k : Int) : Srt (delS k s) := List.Pairwise.filter _ h
theorem srt_ins {k : Int} {v : List UInt8} : ∀ {s : Store}, Srt s → (∀ x, x ∈ s → x.1 ≠ k) → Srt (insS k v s)
  | [], _, _ => by simp [insS, Srt]
  | q :: r, h, hn => by
    simp only [insS]
    split
    · rename_i hk
      refine List.pairwise_cons.2 ⟨fun x hx => ?_, h⟩
      rcases List.mem_cons.1 hx with rfl | hx
      · exact hk
      · have := h.head x hx; simp only; omega
    · rename_i hk
      refine List.pairwise_cons.2 ⟨fun x hx => ?_, srt_ins h.tail (fun x hx => hn x (by simp [hx]))⟩
      rcases insS_mem hx with rfl | hx
      · have := hn q (by simp); simp only; omega
      · exact h.head x hx
theorem srt_apply1 {s : Store} (h : Srt s) (p : Int × List UInt8) : Srt (apply1 s p) := by
  unfold apply1
  split
  · exact srt_del h _
  · exact srt_ins (srt_del h _) (fun x hx => by have := (List.mem_filter.1 hx).2; simpa using this)
theorem with1_apply {s : Store} (h : Srt s) (p : Int × List UInt8) : with1 p (decide (p.2.length = 0)) s = apply1 s p := by
  unfold apply1
  split
  · rename_i hz; simp only [hz, decide_true]; exact with1_true p s
  · rename_i hz; simp only [hz, decide_false]; exact with1_false p h
theorem withM_apply : ∀ (l old : Store), Srt old → withM old l = applyM old l ∧ Srt (applyM old l) := by
  intro l
  unfold withM applyM
  induction l with
  | nil => intro old h; exact ⟨rfl, h⟩
  | cons p l ih =>
    intro old h
    simp only [List.foldl_cons]
    rw [with1_apply h]
    exact ih _ (srt_apply1 h p)
theorem stored_store (l : List (List UInt8)) : storedL l = storeL l ∧ Srt (storeL l) := by
  have key : ∀ (l : List (List UInt8)) (o : Store), Srt o → l.foldl (fun o b => withM o (parseM b)) o = l.foldl (fun s b => applyM s (parseM b)) o ∧ Srt (l.foldl (fun s b => applyM s (parseM b)) o) := by
    intro l
    induction l with
    | nil => intro o h; exact ⟨rfl, h⟩
    | cons b l ih =>
      intro o h
      simp only [List.foldl_cons]
      obtain ⟨h1, h2⟩ := withM_apply (parseM b) o h
      rw [h1]
      exact ih _ h2
  exact key l [] (by simp [Srt])
theorem getS_srt : ∀ {s : Store}, Srt s → ∀ p, p ∈ s → getS p.1 s = p.2
  | [], _, p, hp => by cases hp
  | q :: r, h, p, hp => by
    simp only [getS]
    rcases List.mem_cons.1 hp with rfl | hp
    · rw [if_pos rfl]
    · have := h.head p hp
      rw [if_neg (by omega)]
      exact getS_srt h.tail p hp
theorem ordered_srt {s : Store} (h : Srt s) : orderedM s = s := by
  unfold orderedM
  conv => rhs; rw [← List.map_id s]
  refine List.map_congr_left fun p hp => ?_
  rw [getS_srt h p hp]; rfl
theorem vpairs_law (j : Jn) : vpairsM j = storedM j := by
  obtain ⟨h1, h2⟩ := stored_store (recsM j)
  unfold vpairsM storedM
  rw [ordered_srt h2, h1]
theorem stored_srt (j : Jn) : Srt (storedM j) := by
  obtain ⟨h1, h2⟩ := stored_store (recsM j)
  unfold storedM
  rw [h1]; exact h2
theorem insS_back {k : Int} {v : List UInt8} : ∀ {s : Store}, (∀ x, x ∈ s → x.1 < k) → insS k v s = s ++ [(k, v)]
  | [], _ => rfl
  | q :: r, h => by
    simp only [insS]
    rw [if_neg (by have := h q (by simp); omega), insS_back (fun x hx => h x (by simp [hx]))]
    rfl
theorem delS_id {k : Int} {s : Store} (h : ∀ x, x ∈ s → x.1 ≠ k) : delS k s = s := by
  unfold delS
  rw [List.filter_eq_self]
  intro x hx
  simpa using h x hx
theorem applyM_srt : ∀ (s o : Store), Srt s → (∀ x, x ∈ s → x.2 ≠ []) → (∀ x, x ∈ o → ∀ y, y ∈ s → x.1 < y.1) → applyM o s = o ++ s := by
  intro s
  induction s with
  | nil => intro o _ _ _; simp [applyM]
  | cons p s ih =>
    intro o h hn ho
    have hlt : ∀ x, x ∈ o → x.1 < p.1 := fun x hx => ho x hx p (by simp)
    have h1 : apply1 o p = o ++ [p] := by
      unfold apply1
      rw [if_neg (fun e => hn p (by simp) (List.eq_nil_of_length_eq_zero e))]
      unfold putS
      rw [delS_id (fun x hx => by have := hlt x hx; omega), insS_back hlt]
    show (p :: s).foldl apply1 o = _
    rw [List.foldl_cons, h1]
    have := ih (o ++ [p]) h.tail (fun x hx => hn x (by simp [hx])) (fun x hx y hy => by
      rcases List.mem_append.1 hx with hx | hx
      · exact ho x hx y (by simp [hy])
      · simp at hx; subst hx; exact h.head y hy)
    unfold applyM at this
    rw [this]; simp
theorem vgen_law (v : Vt) : vgenM v = genVM v := by
  unfold vgenM genVM
  rw [vpairs_law]
  congr 1
  by_cases h : storedM v.j = v.prs
  · simp [h]
  · have : v.prs ≠ storedM v.j := fun e => h e.symm
    simp [h, this]
theorem vnow_law {v : Vt} (h : v.prs = storedM v.j) (l : Store) : vnowM v l = withM v.prs l := by
  have hs : Srt v.prs := by rw [h]; exact stored_srt _
  have hn : ∀ x, x ∈ v.prs → x.2 ≠ [] := fun x hx => by rw [h] at hx; exact (stored_mem hx).1
  have ha : applyM [] v.prs = v.prs := by
    have := applyM_srt v.prs [] hs hn (fun x hx => by cases hx)
    simpa using this
  obtain ⟨h1, h2⟩ := withM_apply l v.prs hs
  unfold vnowM
  rw [ha, ordered_srt h2, h1]

theorem admit_ne (l : Store) : admitM l ≠ 16 := by
  have key : ∀ (l : Store) (seen : List Int), dupN seen l ≠ 16 := by
    intro l
    induction l with
    | nil => intro _; simp [dupN]
    | cons p l ih =>
      intro seen
      simp only [dupN]
      split
      · decide
      · split
        · decide
        · exact ih _
  unfold admitM
  split
  · decide
  · split
    · exact key l []
    · split <;> decide
theorem lost_ne (j : Jn) (e : Int) (h : e ≠ 16) : lostM j e = ⟨vt0, 0, e⟩ := by unfold lostM; rw [if_neg h]

theorem put_law (v : Vt) (l : Store) (budget : Int) : vputM v l budget = rputM v l budget := by
  unfold vputM rputM
  rw [vgen_law]
  by_cases hg : genVM v = false
  · rw [if_pos hg, if_pos hg, lost_ne v.j 18 (by decide)]
  · rw [if_neg hg, if_neg hg]
    obtain ⟨hgj, hpr⟩ := genVM_is hg
    by_cases ha : admitM l = 0
    · have hna : ¬ admitM l ≠ 0 := fun h => h ha
      rw [if_neg hna, if_neg hna, vnow_law hpr]
      have hX : vputX v l (withM v.prs l) budget = rputX v l budget := by
        unfold vputX rputX
        rw [append_law, rewrite_law]
      rw [hX, lost_ne v.j 12 (by decide)]
      split
      · rfl
      · generalize rputX v l budget = X
        unfold vfinM
        by_cases he : X.err = 0
        · have hne : ¬ X.err ≠ 0 := fun h => h he
          rw [if_pos he, if_neg hne, vpairs_law]
        · rw [if_neg he, if_pos he]
    · rw [if_pos ha, if_pos ha, lost_ne _ _ (admit_ne l)]

/-- a record of one pair -/
theorem parse_one (p : Int × List UInt8) (h1 : 0 ≤ p.1 ∧ p.1 ≤ 255) (h2 : p.2.length < 65536) : parseM (precM [p]) = [p] := by
  have hb : precM [p] = u8i p.1 :: UInt8.ofNat (p.2.length / 256) :: UInt8.ofNat p.2.length :: p.2 := by simp [precM]
  have hl : (precM [p]).length = 3 + p.2.length := by rw [hb]; simp; omega
  have hla : lenAt (precM [p]) 1 = p.2.length := by
    rw [hb]
    show (UInt8.ofNat (p.2.length / 256)).toNat * 256 + (UInt8.ofNat p.2.length).toNat = _
    rw [UInt8.toNat_ofNat', UInt8.toNat_ofNat']
    omega
  have hk : (((precM [p]).getD 0 0).toNat : Int) = p.1 := by
    rw [hb]
    show ((u8i p.1).toNat : Int) = _
    rw [u8i_nat, wrap_u8_def]; omega
  have hn := parseO_next (precM [p]) (by rw [hb]; simp) (by omega) (by omega)
  rw [hla, hk] at hn
  have hd : (precM [p]).drop (3 + p.2.length) = [] := List.drop_eq_nil_of_le (by omega)
  have ht : ((precM [p]).drop 3).take p.2.length = p.2 := by rw [hb]; simp
  rw [hd, ht, parseO_nil] at hn
  unfold parseM
  rw [hn]; rfl
theorem stored_snap {s : Store} (hs : Srt s) (hn : ∀ x, x ∈ s → x.2 ≠ [] ∧ 0 ≤ x.1 ∧ x.1 ≤ 255 ∧ x.2.length ≤ 8192) : storedL (snapM s) = s := by
  rw [(stored_store _).1]
  have key : ∀ (r o : Store), (∀ x, x ∈ r → 0 ≤ x.1 ∧ x.1 ≤ 255 ∧ x.2.length ≤ 8192) → (snapM r).foldl (fun s b => applyM s (parseM b)) o = applyM o r := by
    intro r
    induction r with
    | nil => intro o _; rfl
    | cons p r ih =>
      intro o h
      have hp := h p (by simp)
      show ((precM [p]) :: snapM r).foldl _ o = _
      rw [List.foldl_cons, parse_one p ⟨hp.1, hp.2.1⟩ (by omega), ih _ (fun x hx => h x (by simp [hx]))]
      rfl
  unfold storeL
  rw [key s [] (fun x hx => (hn x hx).2)]
  have := applyM_srt s [] hs (fun x hx => (hn x hx).1) (fun x hx => by cases hx)
  simpa using this
theorem stored_rewrite {j : Jn} (hm : MtOk j) (B : Int) (he : (rrewriteM j (snapM (storedM j)) B).err = 0) : storedM (rrewriteM j (snapM (storedM j)) B).j = storedM j := by
  rw [← rewrite_law] at he ⊢
  rcases rewrite_ends hm (snapM (storedM j)) B with ⟨_, _, _, h, _⟩ | ⟨h, _⟩ | ⟨h, _⟩
  · show storedL (recsM _) = _
    rw [h]
    exact stored_snap (stored_srt j) (fun x hx => stored_mem hx)
  · rw [h] at he; cases he
  · exact absurd he h

theorem openT_law {j : Jn} (left e : Int) (hm : e = 0 → j.torn = true → MtOk j) : vopenT j left e = if e ≠ 0 then lostM j e else ropenE j left := by
  unfold vopenT ropenE
  by_cases he : e = 0
  · have hne : ¬ e ≠ 0 := fun h => h he
    rw [if_neg hne]
    by_cases ht : j.torn = true
    · rw [if_pos ⟨he, ht⟩, if_neg (by rw [ht]; decide), rewrite_law, vpairs_law]
      have hs := stored_rewrite (hm he ht) left
      generalize rrewriteM j (snapM (storedM j)) left = X at *
      unfold vfinM
      by_cases hx : X.err = 0
      · have hnx : ¬ X.err ≠ 0 := fun h => h hx
        rw [if_pos hx, if_neg hnx, vpairs_law, hs hx]
      · rw [if_neg hx, if_pos hx]
    · rw [if_neg (fun h => ht h.2), if_pos (by simpa using ht)]
      unfold vfinM
      rw [if_pos he, vpairs_law]
  · rw [if_neg (fun h => he h.1), if_pos he]
    unfold vfinM
    rw [if_neg he]
theorem format_mt {f : Fl} {B : Int} (h : (rformatM f B).err = 0) : MtOk (rformatM f B).j ∧ (rformatM f B).j.torn = false := by
  unfold rformatM at h ⊢
  split at h
  · rename_i h1; exact absurd h h1
  · rename_i h1
    rw [if_neg h1]
    split at h
    · rename_i h2
      exfalso
      unfold brokenM at h
      split at h
      · cases h
      · exact h2 h
    · rename_i h2
      rw [if_neg h2]
      obtain ⟨p, k, hv⟩ := VFl.of (show examM f = 0 by simpa using h1)
      obtain ⟨_, hm⟩ := format_seq hv (show (seqM f B [.er 0, .er 1, .wr 0 0 (headM 1)]).err = 0 by simpa using h2)
      exact ⟨MtOk.of (by rw [hm]), by show (mountM _).j.torn = false; rw [hm]⟩
theorem open_law (f : Fl) (budget : Int) : vopenM f budget = ropenM f budget := by
  unfold vopenM ropenM
  by_cases h11 : (mountM f).err = 11
  · rw [if_pos h11, if_pos h11, format_law]
    exact openT_law _ _ (fun h _ => (format_mt h).1)
  · rw [if_neg h11, if_neg h11]
    exact openT_law _ _ (fun h _ => MtOk.of h)

end Go.Proofs.YtebndjnkmcahaaaGreatDoor

/-
  Contracts of the vault's apply, ordered, pairs. Own work; no statement of the seat is proved here.
-/
import Derived.Test.YtebndjnkmcahaaaGreatDoorVg
import Derived.Test.YtebndjnkmcahaaaGreatDoorVf
namespace Go.Proofs.YtebndjnkmcahaaaGreatDoor
set_option linter.unusedSimpArgs false
set_option linter.unusedVariables false
open Go Go.Abs Go.RowKit

theorem mapk : mapK Tryz.prog 152 = true := by kernel_rfl
theorem mapky : mapKy Tryz.prog 152 = 3 := by kernel_rfl
attribute [go_sem] mapk mapky

def apply1 (s : Store) (p : Int × List UInt8) : Store := if p.2.length = 0 then delS p.1 s else putS p.1 p.2 s
def applyM (s l : Store) : Store := l.foldl apply1 s
theorem applyM_take (s l : Store) (i : Nat) (h : i < l.length) : applyM s (l.take (i + 1)) = apply1 (applyM s (l.take i)) (l.getD i (0, [])) := by
  unfold applyM; rw [take_at l i h, List.foldl_append]; rfl
theorem insS_len (k : Int) (v : List UInt8) : ∀ s : Store, (insS k v s).length = s.length + 1
  | [] => rfl
  | y :: r => by simp only [insS]; split <;> simp [insS_len k v r]
theorem delS_len (k : Int) (s : Store) : (delS k s).length ≤ s.length := List.length_filter_le _ _
theorem apply1_len (s : Store) (p : Int × List UInt8) : (apply1 s p).length ≤ s.length + 1 := by
  unfold apply1
  split
  · have := delS_len p.1 s; omega
  · unfold putS; rw [insS_len]; have := delS_len p.1 s; omega
theorem applyM_len (s : Store) : ∀ l : Store, (applyM s l).length ≤ s.length + l.length := by
  intro l
  unfold applyM
  induction l generalizing s with
  | nil => simp
  | cons p l ih =>
    rw [List.foldl_cons]
    have h1 := ih (apply1 s p)
    have h2 := apply1_len s p
    simp only [List.length_cons]
    omega

set_option maxHeartbeats 2000000 in
theorem apply_c (s l : Store) (hs : s.length + l.length < 1000000000) (hk : ∀ x, x ∈ l → i64 x.1) : Con Tryz.prog 99 [.mp 0, .p (PL l)] [(0, some ⟨mapT s, []⟩)] (.tup []) [(0, some ⟨mapT (applyM s l), []⟩)] := by
  refine con_x 1 hmix Tryz.func99 rfl (by kernel_rfl) Tryz.ntmps99 Tryz.results99 (by simp) rfl (by simp [idsL, idsA, liveK]) (by simp [idsH, idsL, idsA]) (fun i hi => by simp [liveK] at hi; simp [keys, hi]) [0, 1, 5, 6, 7, 8, 9, 15] ?_; intro c hP h0 hE
  simp only [go_sem, ↓reduceIte, hP]
  refine xw_forT hE [0] (fun i hi => by have := h0 i hi; simpa [liveK] using this) [0, 1, 5, 6, 7, 8, 9, 15] l.length (fun i => ⟨25, [(0, .mp 0), (6, .p (PL l)), (7, .i l.length), (8, .i i)], [(0, some ⟨mapT (applyM s (l.take i)), []⟩)], 1⟩) [] (fun i => i) ?_ (fun i _ => rfl) ?_
  · refine ⟨rfl, ?_, ?_, rfl, rfl, trivial, fun i h => h⟩
    · simp only [go_sem, ↓reduceIte]
    · simp only [go_sem, ↓reduceIte]
      simp [applyM]
  · intro i hi
    rcases Nat.lt_or_ge i l.length with hin | hin
    · have hat := prCs_at l i hin
      have hc : ((i : Int) < (l.length : Int)) := by omega
      have hst := applyM_take s l i hin
      have hln := applyM_len s (l.take i)
      have htl : (l.take i).length ≤ l.length := by simp; omega
      have hmem : l.getD i (0, []) ∈ l := by rw [show l.getD i (0, []) = l[i]'hin from by simp [List.getD_eq_getElem?_getD, hin]]; exact List.getElem_mem _
      have hki := hk _ hmem
      have hw : IntKind.i64.wrap ((i : Int) + 1) = ((i + 1 : Nat) : Int) := by rw [wrap_i64_id (by omega) (by omega)]; omega
      generalize applyM s (l.take i) = o at *
      generalize l.getD i (0, []) = p at *
      simp only [go_sem, ↓reduceIte, hP, hat, hc, byP, hw, unBs_bt, allB_bt]
      have ht : ∀ i, i ∈ [0] → sg 2 [0] i = i := fun i hi => by simp at hi; subst hi; rfl
      refine ⟨by omega, ?_⟩
      by_cases hz : p.2.length = 0
      · rw [if_pos (by omega)]
        have hst : applyM s (l.take (i + 1)) = delS p.1 o := by rw [hst]; unfold apply1; rw [if_pos hz]
        rw [hst]
        refine ⟨hki, hin, subGT [0] [0] rfl ?_ ?_ rfl rfl (Nat.le_refl _) ht⟩
        · simp only [go_sem, ↓reduceIte]
        · simp only [go_sem, ↓reduceIte]
      · rw [if_neg (by omega)]
        have hst : applyM s (l.take (i + 1)) = putS p.1 p.2 o := by rw [hst]; unfold apply1; rw [if_neg hz]
        rw [hst]
        refine ⟨⟨hki, by omega⟩, hin, subGT [0] [0] rfl ?_ ?_ rfl rfl (Nat.le_refl _) ht⟩
        · simp only [go_sem, ↓reduceIte]
        · simp only [go_sem, ↓reduceIte]
    · obtain rfl : i = l.length := by omega
      have hnc : ¬ ((l.length : Int) < (l.length : Int)) := by omega
      simp only [go_sem, ↓reduceIte, hP, hnc]
      refine endC_T [0] rfl ?_ ?_ rfl rfl (fun i hi => ?_) (fun i hi => ?_)
      · simp only [go_sem, ↓reduceIte]
      · simp only [go_sem, ↓reduceIte]
        rw [List.take_of_length_le (Nat.le_refl _)]
      · simp at hi; subst hi; exact ⟨rfl, by simp [keys]⟩
      · simp [liveK] at hi; simp; omega

theorem clone_q (bs : List UInt8) (n : Nat) (hn : bs.length = n) (h1 : n ≠ 0) (hb : n < 1000000000) : FPure Tryz.prog 24 [.p (.data 1 n (bs.map bt))] (.p (.data 1 n (bs.map bt))) := by
  refine fpure_x hmix Tryz.func24 rfl (by kernel_rfl) Tryz.ntmps24 Tryz.results24 (by simp) (by simp [idsL, idsA]) [0, 2, 4] ?_; intro c hP h0 hE
  simp only [go_sem, ↓reduceIte, hP, cb_def]
  refine ⟨h1, ⟨by omega, by omega⟩, by omega, ?_⟩
  rw [List.take_of_length_le (by omega)]

def orderedM (s : Store) : Store := s.map fun p => (p.1, getS p.1 s)
theorem orderedM_take (s : Store) (i : Nat) (h : i < s.length) : (orderedM s).take (i + 1) = (orderedM s).take i ++ [((s.getD i (0, [])).1, getS (s.getD i (0, [])).1 s)] := by
  have := take_at (orderedM s) i (by simpa [orderedM] using h)
  rw [this]
  simp [orderedM, List.getD_eq_getElem?_getD, h]
def kA (s : Store) : List AV := s.map fun p => .p (.v (.int .i64 p.1))
theorem head_kA (s : Store) (i : Nat) : headA (.v (.int .i64 0)) ((kA s).drop i) = .p (.v (.int .i64 (s.getD i (0, [])).1)) := by
  induction s generalizing i with
  | nil => simp [headA, kA]
  | cons b r ih => cases i with
    | zero => simp [headA, kA]
    | succ i => simpa [kA] using ih i
theorem kA_len (s : Store) : (kA s).length = s.length := by simp [kA]
theorem kA_view (h : Heap) (S : List Nat) (σ : Nat → Nat) (s : Store) : viewAs h S σ (kA s) (kA s) := by
  have : kA s = (s.map fun p => PV.v (.int .i64 p.1)).map .p := by simp [kA]
  rw [this]; exact viewAs_pure h S σ _

theorem sorted_k (s : Store) (hs : s.length < 1000000000) : Con Tryz.prog 159 [.fn (.func 206) [] [.ptr 1 0]] [(0, some ⟨mapT s, []⟩), (1, some ⟨mapTy, [.mp 0]⟩)] (.sl 2 0 s.length 1)
    [(0, some ⟨mapT s, []⟩), (1, some ⟨mapTy, [.mp 0]⟩), (2, some ⟨3, kA s⟩)] := sorted_c s hs
set_option maxHeartbeats 2000000 in
theorem ordered_c (s : Store) (hs : s.length < 1000000) (hk : ∀ x, x ∈ s → i64 x.1 ∧ getS x.1 s ≠ [] ∧ (getS x.1 s).length < 1000000000) : Con Tryz.prog 100 [.mp 0] [(0, some ⟨mapT s, []⟩)] (.sl 1 0 s.length 2) [(0, some ⟨mapT s, []⟩), (1, some ⟨94, prA (orderedM s)⟩)] := by
  refine con_x 1 hmix Tryz.func100 rfl (by kernel_rfl) Tryz.ntmps100 Tryz.results100 (by simp) rfl (by simp [idsL, idsA, liveK]) (by simp [idsH, idsL, idsA]) (fun i hi => by simp [liveK] at hi; simp [keys, hi]) [0, 2, 3, 5, 8, 9, 10, 11] ?_; intro c hP h0 hE
  simp only [go_sem, ↓reduceIte, hP]
  refine xw_con hE (ks := [0, 2, 3, 5, 8, 9, 10, 11]) (n := 2000) [] (fun i => i) 2 (by rw [hP]; exact keys_c s) ⟨by simp only [go_sem, ↓reduceIte], by simp only [go_sem, ↓reduceIte], rfl, trivial, Nat.le_of_ble_eq_true rfl, fun i hi => ?_, by simp [idsA, idsL, keys], by simp [idsH, idsL, idsA, keys], rfl⟩ ?_
  · simp [keys] at hi; simp [liveK]; omega
  simp only [go_sem, ↓reduceIte, hP]
  refine xw_con hE (ks := [0, 2, 3, 5, 8, 9, 10, 11]) (n := 2000) [] (fun i => i) 3 (by rw [hP]; exact sorted_k s (by omega)) ⟨by simp only [go_sem, ↓reduceIte], by simp only [go_sem, ↓reduceIte], rfl, trivial, Nat.le_of_ble_eq_true rfl, fun i hi => ?_, by simp [idsA, idsL, keys], ?_, rfl⟩ ?_
  · simp [keys] at hi; simp [liveK]; omega
  · have : idsL [0, 1, 2] (kA s) := by
      have e : kA s = (s.map fun p => PV.v (.int .i64 p.1)).map .p := by simp [kA]
      rw [e]; exact idsL_map _ _
    simp only [idsH, idsL, idsA, keys, List.map_cons, List.map_nil]
    exact ⟨trivial, ⟨by simp, trivial⟩, this, trivial⟩
  have hren : renL (fun i => i) (kA s) = kA s := renL_id _
  simp only [go_sem, ↓reduceIte, hP, hren]
  refine saw_new 94 ?_
  refine xw_forT hE [0] (fun i hi => by have := h0 i hi; simpa [liveK] using this) [0, 2, 3, 5, 8, 9, 10, 11] s.length (fun i => ⟨25, [(0, .mp 0), (3, .sl 3 0 i 2), (8, .sl 2 0 s.length 1), (9, .i s.length), (10, .i i)], [(0, some ⟨mapT s, []⟩), (2, some ⟨3, kA s⟩), (3, some ⟨94, prA ((orderedM s).take i)⟩)], 4⟩) [] (fun i => i) ?_ (fun i _ => rfl) ?_
  · refine ⟨rfl, ?_, ?_, rfl, rfl, trivial, fun i h => h⟩
    · simp only [go_sem, ↓reduceIte]
    · simp only [go_sem, ↓reduceIte]
      refine ⟨kA_view _ _ _ _, ?_⟩
      simp [prA, prCs_nil, viewAs]
  · intro i hi
    have hol : (orderedM s).length = s.length := by simp [orderedM]
    have htl : ((orderedM s).take i).length = i := by simp; omega
    have hkl := kA_len s
    rcases Nat.lt_or_ge i s.length with hin | hin
    · have hc : ((i : Int) < (s.length : Int)) := by omega
      have hst := orderedM_take s i hin
      have hmem : s.getD i (0, []) ∈ s := by rw [show s.getD i (0, []) = s[i]'hin from by simp [List.getD_eq_getElem?_getD, hin]]; exact List.getElem_mem _
      obtain ⟨hk1, hk2, hk3⟩ := hk _ hmem
      have hw : IntKind.i64.wrap ((i : Int) + 1) = ((i + 1 : Nat) : Int) := by rw [wrap_i64_id (by omega) (by omega)]; omega
      generalize hpe : s.getD i (0, []) = p at *
      have hgl : (getS p.1 s).length ≠ 0 := fun e => hk2 (List.eq_nil_of_length_eq_zero e)
      have htp : (prA ((orderedM s).take i)).length = i * 2 := by rw [prA_len, htl]
      simp only [go_sem, ↓reduceIte, hP, hc, head_kA, hpe, hw, hkl]
      refine ⟨by omega, by omega, hk1, ?_⟩
      first | refine xw_call hE (ks := [0, 2, 3, 5, 8, 9, 10, 11]) (n := 2000) (by rw [hP]; exact clone_p ((getS p.1 s).map bt) _ (by simp) hgl hk3) ?_ | refine xd_call hE (ks := [0, 2, 3, 5, 8, 9, 10, 11]) (n := 2000) (by rw [hP]; exact clone_p ((getS p.1 s).map bt) _ (by simp) hgl hk3) ?_
      simp only [go_sem, ↓reduceIte, hP, hw, htl, htp]
      rw [← hst]
      refine ⟨⟨by omega, by omega⟩, hin, subGT [0] [0, 1, 2, 5] rfl ?_ ?_ rfl rfl (Nat.le_refl _) (fun i hi => by simp at hi; subst hi; rfl)⟩
      · simp only [go_sem, ↓reduceIte]
      · simp only [go_sem, ↓reduceIte]
        exact ⟨kA_view _ _ _ _, prA_view _ _ _ _⟩
    · obtain rfl : i = s.length := by omega
      have hnc : ¬ ((s.length : Int) < (s.length : Int)) := by omega
      simp only [go_sem, ↓reduceIte, hP, hnc]
      rw [List.take_of_length_le (by omega)]
      refine endC_T [0, 3] rfl ?_ ?_ rfl rfl (fun i hi => ?_) (fun i hi => ?_)
      · simp only [go_sem, ↓reduceIte]
      · simp only [go_sem, ↓reduceIte]
        exact prA_view _ _ _ _
      · simp at hi; subst hi; exact ⟨rfl, by simp [keys]⟩
      · simp [liveK] at hi; simp; omega

/-- the store of records -/
def storeL (l : List (List UInt8)) : Store := l.foldl (fun s b => applyM s (parseM b)) []
def vpairsM (j : Jn) : Store := orderedM (storeL (recsM j))
theorem storeL_take (l : List (List UInt8)) (i : Nat) (h : i < l.length) : storeL (l.take (i + 1)) = applyM (storeL (l.take i)) (parseM (l.getD i [])) := by
  unfold storeL
  rw [List.take_succ_eq_append_getElem h, List.foldl_append]
  simp [List.getD_eq_getElem?_getD, h]
theorem storeL_len (l : List (List UInt8)) : (storeL l).length ≤ totM l := by
  have key : ∀ (l : List (List UInt8)) (o : Store), (l.foldl (fun o b => applyM o (parseM b)) o).length ≤ o.length + totM l := by
    intro l
    induction l with
    | nil => intro o; simp
    | cons b l ih =>
      intro o
      rw [List.foldl_cons]
      have h1 := ih (applyM o (parseM b))
      have h2 := applyM_len o (parseM b)
      have h3 := parseM_len b
      simp only [totM]
      omega
  have := key l []
  unfold storeL
  simpa using this
theorem insS_mem {k : Int} {v : List UInt8} {x : Int × List UInt8} : ∀ {s : Store}, x ∈ insS k v s → x = (k, v) ∨ x ∈ s
  | [], h => by simp [insS] at h; exact .inl h
  | y :: r, h => by
    simp only [insS] at h
    split at h
    · rcases List.mem_cons.1 h with h | h
      · exact .inl h
      · exact .inr h
    · rcases List.mem_cons.1 h with h | h
      · exact .inr (by simp [h])
      · rcases insS_mem h with h | h
        · exact .inl h
        · exact .inr (by simp [h])
theorem applyM_mem {x : Int × List UInt8} : ∀ {l s : Store}, x ∈ applyM s l → (x ∈ l ∧ x.2 ≠ []) ∨ x ∈ s := by
  intro l
  unfold applyM
  induction l with
  | nil => intro s h; exact .inr h
  | cons p l ih =>
    intro s h
    rw [List.foldl_cons] at h
    rcases ih h with ⟨h1, h2⟩ | h1
    · exact .inl ⟨by simp [h1], h2⟩
    · unfold apply1 at h1
      split at h1
      · exact .inr (List.mem_filter.1 h1).1
      · rename_i hz
        rcases insS_mem h1 with rfl | h1
        · exact .inl ⟨by simp, fun e => hz (by rw [show p.2 = [] from e]; rfl)⟩
        · exact .inr (List.mem_filter.1 h1).1
theorem storeL_mem {x : Int × List UInt8} {l : List (List UInt8)} (h : x ∈ storeL l) : x.2 ≠ [] ∧ ∃ b, b ∈ l ∧ x ∈ parseM b := by
  have key : ∀ (l : List (List UInt8)) (o : Store), x ∈ l.foldl (fun o b => applyM o (parseM b)) o → (x.2 ≠ [] ∧ ∃ b, b ∈ l ∧ x ∈ parseM b) ∨ x ∈ o := by
    intro l
    induction l with
    | nil => intro o h; exact .inr h
    | cons b l ih =>
      intro o h
      rw [List.foldl_cons] at h
      rcases ih _ h with ⟨h1, b', h2, h3⟩ | h1
      · exact .inl ⟨h1, b', by simp [h2], h3⟩
      · rcases applyM_mem h1 with ⟨h2, h3⟩ | h2
        · exact .inl ⟨h3, b, by simp, h2⟩
        · exact .inr h2
  rcases key l [] h with h | h
  · exact h
  · cases h
theorem getS_of {k : Int} : ∀ {s : Store}, (∃ x, x ∈ s ∧ x.1 = k) → (k, getS k s) ∈ s
  | [], h => by obtain ⟨x, hx, _⟩ := h; cases hx
  | y :: r, h => by
    simp only [getS]
    split
    · rename_i e; subst e; simp
    · rename_i e
      obtain ⟨x, hx, hk⟩ := h
      rcases List.mem_cons.1 hx with rfl | hx
      · exact absurd hk e
      · have := getS_of (s := r) ⟨x, hx, hk⟩
        simp [this]

set_option maxHeartbeats 2000000 in
theorem vpairs_c (j : Jn) (n : Nat) (hn : j.bs.length = n) (hb : n < 1000000000) : FPure Tryz.prog 95 [.agg [.i j.ps, .p (.data 1 n (j.bs.map bt)), .i j.page, .i j.gen, .i j.tail, .b j.torn]] (.p (PL (vpairsM j))) := by
  refine fpure_x hmix Tryz.func95 rfl (by kernel_rfl) Tryz.ntmps95 Tryz.results95 (by simp) (by simp [idsL, idsA]) [0, 1, 2, 3, 5, 8, 9, 10, 11] ?_; intro c hP h0 hE
  simp only [go_sem, ↓reduceIte, hP]
  first | refine xw_call hE (ks := [0, 1, 2, 3, 5, 8, 9, 10, 11]) (n := 2000) (by rw [hP]; exact jRecords_c j n hn hb) ?_ | refine xd_call hE (ks := [0, 1, 2, 3, 5, 8, 9, 10, 11]) (n := 2000) (by rw [hP]; exact jRecords_c j n hn hb) ?_
  obtain ⟨ht, hbl⟩ := recs_tot j
  have hrl := totM_len (recsM j)
  unfold vpairsM at hE
  generalize recsM j = l at *
  simp only [go_sem, ↓reduceIte, hP]
  refine xw_for hE h0 [0, 1, 2, 3, 5, 8, 9, 10, 11] l.length (fun i => ⟨21, [(3, .mp 1), (8, .p (.data 1 l.length (l.map byP))), (9, .i l.length), (10, .i i)], [(1, some ⟨mapT (storeL (l.take i)), []⟩)], 2⟩) [] (fun i => i) ?_ ?_
  · refine ⟨rfl, ?_, ?_, rfl, rfl, trivial, fun i h => h⟩
    · simp only [go_sem, ↓reduceIte]
    · simp only [go_sem, ↓reduceIte]
      simp [storeL]
  · intro i hi
    rcases Nat.lt_or_ge i l.length with hin | hin
    · have hc : ((i : Int) < (l.length : Int)) := by omega
      have hst := storeL_take l i hin
      have hln := storeL_len (l.take i)
      have htl := totM_le_take l i
      have hel : (l.getD i []).length ≤ 8192 := hbl _ (by rw [show l.getD i [] = l[i]'hin from by simp [List.getD_eq_getElem?_getD, hin]]; exact List.getElem_mem _)
      have hpl := parseM_len (l.getD i [])
      have hw : IntKind.i64.wrap ((i : Int) + 1) = ((i + 1 : Nat) : Int) := by rw [wrap_i64_id (by omega) (by omega)]; omega
      simp only [go_sem, ↓reduceIte, hP, head_by, byP, hc, hw]
      refine ⟨by omega, by omega, ?_⟩
      first | refine xw_call hE (ks := [0, 1, 2, 3, 5, 8, 9, 10, 11]) (n := 2000) (by rw [hP]; exact vparse_c (l.getD i []) _ rfl (by omega)) ?_ | refine xd_call hE (ks := [0, 1, 2, 3, 5, 8, 9, 10, 11]) (n := 2000) (by rw [hP]; exact vparse_c (l.getD i []) _ rfl (by omega)) ?_
      generalize storeL (l.take i) = o at *
      simp only [go_sem, ↓reduceIte, hP]
      refine xw_con hE (ks := [0, 1, 2, 3, 5, 8, 9, 10, 11]) (n := 2000) [] (fun i => i + 1) 2 (by rw [hP]; exact apply_c o (parseM (l.getD i [])) (by omega) (fun x hx => by have := parseM_mem hx; unfold i64; omega)) ⟨by simp only [go_sem, ↓reduceIte], by simp only [go_sem, ↓reduceIte], rfl, trivial, Nat.le_refl _, fun i hi => ?_, by simp [idsA, idsL, keys], by simp [idsH, idsL, idsA, keys], rfl⟩ ?_
      · simp [keys] at hi; simp [liveK]; omega
      simp only [go_sem, ↓reduceIte, hP, hw]
      refine ⟨hin, subG [0, 1] rfl ?_ ?_ rfl rfl (Nat.le_refl _)⟩
      · simp only [go_sem, ↓reduceIte]
      · simp only [go_sem, ↓reduceIte, hst]
    · obtain rfl : i = l.length := by omega
      have hnc : ¬ ((l.length : Int) < (l.length : Int)) := by omega
      rw [List.take_of_length_le (Nat.le_refl _)]
      have hsl := storeL_len l
      simp only [go_sem, ↓reduceIte, hP, hnc]
      refine xw_con hE (ks := [0, 1, 2, 3, 5, 8, 9, 10, 11]) (n := 2000) [] (fun i => i + 1) 3 (by rw [hP]; exact ordered_c (storeL l) (by omega) (fun x hx => by
        have hg := getS_of (k := x.1) ⟨x, hx, rfl⟩
        obtain ⟨g1, b, hb, hg2⟩ := storeL_mem hg
        have h1 := parseM_mem hg2
        have h2 := hbl b hb
        simp only at g1 h1
        exact ⟨by unfold i64; omega, g1, by omega⟩)) ⟨by simp only [go_sem, ↓reduceIte], by simp only [go_sem, ↓reduceIte], rfl, trivial, Nat.le_of_ble_eq_true rfl, fun i hi => ?_, by simp [idsA, idsL, keys], by simp only [idsH, idsL, idsL_prA, and_self], rfl⟩ ?_
      · simp [keys] at hi; simp [liveK]; omega
      simp only [go_sem, ↓reduceIte, hP]
      have hol : (orderedM (storeL l)).length = (storeL l).length := by simp [orderedM]
      rw [← hol, prA_all]
      exact ⟨⟨Nat.le_refl _, allQ_prA _⟩, rfl, unQs_prA _⟩

end Go.Proofs.YtebndjnkmcahaaaGreatDoor

/-
  Contracts of the deck of numbers, and of the law's words and lines. Own work; no statement of the seat is proved here.
-/
import Derived.Test.YthdhbdjhjfflnaaDoorSj
namespace Go.Proofs.YthdhbdjhjfflnaaDoor
set_option linter.unusedSimpArgs false
set_option linter.unusedVariables false
open Go Go.Abs Go.RowKit

def modM (v n : Int) : Int := (v % 18446744073709551616).tmod n
theorem modM_ge (v n : Int) : 0 ≤ modM v n := Int.tmod_nonneg _ (by omega)
theorem modM_lt (v : Int) {n : Int} (h : 0 < n) : modM v n < n := Int.tmod_lt_of_pos _ h
theorem mod_c (v n : Int) (h1 : 0 < n) (h2 : n < 1000000) : FPure Tryd.prog 12 [.i v, .i n] (.i (modM v n)) := by
  have hlt := modM_lt v h1
  have hge := modM_ge v n
  unfold modM at *
  have e1 : IntKind.u64.wrap n = n := by rw [wrap_u64_def]; omega
  have e2 := wrap_u64_def v
  have e3 : IntKind.i64.wrap ((v % 18446744073709551616).tmod n) = (v % 18446744073709551616).tmod n := wrap_i64_id (by omega) (by omega)
  refine fpure_x hmix Tryd.func12 rfl (by kernel_rfl) Tryd.ntmps12 Tryd.results12 (by simp) (by simp [idsL, idsA]) [0, 1, 4] ?_; intro c hP h0 hE
  simp only [go_sem, Nat.reduceAdd, Nat.reduceMul, ↓reduceIte, reduceCtorEq, Nat.reduceLeDiff, Int.reduceToNat, Int.reduceLT, Int.reduceLE, Int.reduceEq, Int.reduceNe, Int.reduceBEq, Int.reduceBNe, not_false_eq_true, not_true_eq_false, hP, e1, e2, e3]
  omega

def intP (x : Int) : PV := .v (.int .i64 x)
/-- a deck: its numbers, and how many of them are used -/
abbrev deckC (l : List Int) (a : Nat) : List AV := [.p (.data 1 l.length (l.map intP)), .i a]
abbrev deckT : Nat := 45
abbrev deckB (l : List Int) (a : Nat) : List (Nat × Option Blk) := [(0, some ⟨deckT, deckC l a⟩)]
theorem head_int (l : List Int) (i : Nat) (h : i < l.length) : headP (.v (.int .i64 0)) ((l.map intP).drop i) = intP (l.getD i 0) := by
  rw [List.drop_eq_getElem_cons (by simpa using h)]
  simp [headP, List.getD_eq_getElem?_getD, h]

def nextM (l : List Int) (a : Nat) (n : Int) : Int × Nat := if a < l.length then (modM (l.getD a 0) n, a + 1) else (0, a)
theorem nextM_ok (l : List Int) {a : Nat} {n : Int} (ha : a ≤ l.length) (h1 : 0 < n) : 0 ≤ (nextM l a n).1 ∧ (nextM l a n).1 < n ∧ (nextM l a n).2 ≤ l.length := by
  unfold nextM
  split
  · exact ⟨modM_ge _ _, modM_lt _ h1, by simp only; omega⟩
  · exact ⟨by simp, h1, ha⟩
set_option maxHeartbeats 2000000 in
theorem next_c (l : List Int) (a : Nat) (n : Int) (hl : l.length ≤ 9223372036854775807) (ha : a ≤ l.length) (h1 : 0 < n) (h2 : n < 1000000) : Con Tryd.prog 7 [.ptr 0 0, .i n] (deckB l a) (.i (nextM l a n).1) (deckB l (nextM l a n).2) := by
  unfold nextM
  by_cases h : a < l.length
  · rw [if_pos h]
    have hm := mod_c (l.getD a 0) n h1 h2
    generalize modM (l.getD a 0) n = r at *
    have hc : ¬ ((a : Int) ≥ (l.length : Int)) := by omega
    have hw : IntKind.i64.wrap ((a : Int) + 1) = ((a + 1 : Nat) : Int) := by rw [wrap_i64_id (by omega) (by omega)]; omega
    have hw2 : IntKind.i64.wrap (((a + 1 : Nat) : Int) - 1) = (a : Int) := by rw [wrap_i64_id (by omega) (by omega)]; omega
    have hat := head_int l a h
    refine con_x 1 hmix Tryd.func7 rfl (by kernel_rfl) Tryd.ntmps7 Tryd.results7 (by simp) rfl (by simp [idsL, idsA, liveK]) (by simp [idsH, idsL, idsA]) (fun i hi => by simp [liveK] at hi; simp [keys, hi]) [0, 1, 4, 14] ?_; intro c hP h0 hE
    simp only [go_sem, Nat.reduceAdd, Nat.reduceMul, ↓reduceIte, reduceCtorEq, Nat.reduceLeDiff, Int.reduceToNat, Int.reduceLT, Int.reduceLE, Int.reduceEq, Int.reduceNe, Int.reduceBEq, Int.reduceBNe, not_false_eq_true, not_true_eq_false, hP, hc, hw, hw2, hat, intP]
    refine ⟨by kernel_rfl, ⟨by omega, by omega⟩, by omega, ?_⟩
    first | refine xw_call hE (ks := [0, 1, 4, 14]) (n := 2000) (by rw [hP]; exact hm) ?_ | refine xd_call hE (ks := [0, 1, 4, 14]) (n := 2000) (by rw [hP]; exact hm) ?_
    simp only [go_sem, Nat.reduceAdd, Nat.reduceMul, ↓reduceIte, reduceCtorEq, Nat.reduceLeDiff, Int.reduceToNat, Int.reduceLT, Int.reduceLE, Int.reduceEq, Int.reduceNe, Int.reduceBEq, Int.reduceBNe, not_false_eq_true, not_true_eq_false, hP]
    refine ⟨by kernel_rfl, endC_T [0] rfl ?_ ?_ rfl rfl (fun i hi => by simp at hi; subst hi; exact ⟨rfl, by simp [keys]⟩) (fun i hi => by simp [liveK] at hi; simp; omega)⟩
    · simp only [go_sem, Nat.reduceAdd, Nat.reduceMul, ↓reduceIte, reduceCtorEq, Nat.reduceLeDiff, Int.reduceToNat, Int.reduceLT, Int.reduceLE, Int.reduceEq, Int.reduceNe, Int.reduceBEq, Int.reduceBNe, not_false_eq_true, not_true_eq_false]
    · simp only [go_sem, Nat.reduceAdd, Nat.reduceMul, ↓reduceIte, reduceCtorEq, Nat.reduceLeDiff, Int.reduceToNat, Int.reduceLT, Int.reduceLE, Int.reduceEq, Int.reduceNe, Int.reduceBEq, Int.reduceBNe, not_false_eq_true, not_true_eq_false]
  · rw [if_neg h]
    have hc : ((a : Int) ≥ (l.length : Int)) := by omega
    refine con_x 1 hmix Tryd.func7 rfl (by kernel_rfl) Tryd.ntmps7 Tryd.results7 (by simp) rfl (by simp [idsL, idsA, liveK]) (by simp [idsH, idsL, idsA]) (fun i hi => by simp [liveK] at hi; simp [keys, hi]) [0, 1, 4, 14] ?_; intro c hP h0 hE
    simp only [go_sem, Nat.reduceAdd, Nat.reduceMul, ↓reduceIte, reduceCtorEq, Nat.reduceLeDiff, Int.reduceToNat, Int.reduceLT, Int.reduceLE, Int.reduceEq, Int.reduceNe, Int.reduceBEq, Int.reduceBNe, not_false_eq_true, not_true_eq_false, hP, hc]
    refine ⟨by kernel_rfl, endC_T [0] rfl ?_ ?_ rfl rfl (fun i hi => by simp at hi; subst hi; exact ⟨rfl, by simp [keys]⟩) (fun i hi => by simp [liveK] at hi; simp; omega)⟩
    · simp only [go_sem, Nat.reduceAdd, Nat.reduceMul, ↓reduceIte, reduceCtorEq, Nat.reduceLeDiff, Int.reduceToNat, Int.reduceLT, Int.reduceLE, Int.reduceEq, Int.reduceNe, Int.reduceBEq, Int.reduceBNe, not_false_eq_true, not_true_eq_false]
    · simp only [go_sem, Nat.reduceAdd, Nat.reduceMul, ↓reduceIte, reduceCtorEq, Nat.reduceLeDiff, Int.reduceToNat, Int.reduceLT, Int.reduceLE, Int.reduceEq, Int.reduceNe, Int.reduceBEq, Int.reduceBNe, not_false_eq_true, not_true_eq_false]

theorem new_c (l : List Int) : Con Tryd.prog 5 [.p (.data 1 l.length (l.map intP))] [] (.ptr 0 0) (deckB l 0) := by
  refine con_x 0 hmix Tryd.func5 rfl (by kernel_rfl) Tryd.ntmps5 Tryd.results5 (by simp) rfl (by simp [idsL, idsA]) trivial (fun i hi => by cases hi) [0, 2] ?_; intro c hP h0' hE; have h0 : ∀ i, c.ρ0 i ≠ none → False := fun i hi => by cases h0' i hi
  simp only [go_sem, Nat.reduceAdd, Nat.reduceMul, ↓reduceIte, reduceCtorEq, Nat.reduceLeDiff, Int.reduceToNat, Int.reduceLT, Int.reduceLE, Int.reduceEq, Int.reduceNe, Int.reduceBEq, Int.reduceBNe, not_false_eq_true, not_true_eq_false, hP]
  refine endC_of [0] rfl ?_ ?_ rfl rfl (fun i hi => ?_)
  · simp only [go_sem, Nat.reduceAdd, Nat.reduceMul, ↓reduceIte, reduceCtorEq, Nat.reduceLeDiff, Int.reduceToNat, Int.reduceLT, Int.reduceLE, Int.reduceEq, Int.reduceNe, Int.reduceBEq, Int.reduceBNe, not_false_eq_true, not_true_eq_false]
  · simp only [go_sem, Nat.reduceAdd, Nat.reduceMul, ↓reduceIte, reduceCtorEq, Nat.reduceLeDiff, Int.reduceToNat, Int.reduceLT, Int.reduceLE, Int.reduceEq, Int.reduceNe, Int.reduceBEq, Int.reduceBNe, not_false_eq_true, not_true_eq_false]
  · simp [liveK] at hi; simp; omega

def wordsM : List (List UInt8) := [[116, 105, 99, 107],
  [111, 110],
  [111, 102, 102],
  [98, 117, 100, 103, 101, 116],
  [99, 97, 110, 99, 101, 108],
  [99, 111, 112, 121],
  [97, 100, 100],
  [114, 101, 109, 111, 118, 101],
  [110, 101, 101, 100],
  [118, 111, 116, 101],
  [99, 111, 109, 109, 105, 116],
  [110, 111, 105, 115, 101],
  [116, 111, 117, 99, 104],
  [102, 105, 110, 103, 101, 114],
  [119, 114, 111, 110, 103],
  [114, 101, 102, 117, 115, 101],
  [98, 101, 103, 105, 110],
  [112, 105, 110],
  [99, 97, 108, 108],
  [115, 112, 108, 105, 99, 101],
  [109, 111, 100, 101, 108],
  [115, 104, 97, 114, 101],
  [115, 116, 111, 114, 101],
  [114, 101, 116, 117, 114, 110],
  [114, 101, 115, 116, 111, 114, 101],
  [48],
  [49],
  [50],
  [45],
  [48, 48],
  [50, 49, 52, 55, 52, 56, 51, 54, 52, 55],
  [50, 49, 52, 55, 52, 56, 51, 54, 52, 56],
  [115, 116, 97, 114, 116, 45, 109, 97, 107, 101],
  [102, 105, 110, 105, 115, 104, 45, 103, 101, 116],
  [117, 115, 101],
  [99, 101, 114, 116, 105, 102, 105, 101, 100],
  [119, 105, 116, 104, 100, 114, 97, 119, 110],
  [],
  [35],
  [120, 32, 121],
  [43, 49],
  [109, 101, 116, 97]]
theorem words_eq : [AV.p (PV.v (Value.string ⟨#[116, 105, 99, 107]⟩)),
  AV.p (PV.v (Value.string ⟨#[111, 110]⟩)),
  AV.p (PV.v (Value.string ⟨#[111, 102, 102]⟩)),
  AV.p (PV.v (Value.string ⟨#[98, 117, 100, 103, 101, 116]⟩)),
  AV.p (PV.v (Value.string ⟨#[99, 97, 110, 99, 101, 108]⟩)),
  AV.p (PV.v (Value.string ⟨#[99, 111, 112, 121]⟩)),
  AV.p (PV.v (Value.string ⟨#[97, 100, 100]⟩)),
  AV.p (PV.v (Value.string ⟨#[114, 101, 109, 111, 118, 101]⟩)),
  AV.p (PV.v (Value.string ⟨#[110, 101, 101, 100]⟩)),
  AV.p (PV.v (Value.string ⟨#[118, 111, 116, 101]⟩)),
  AV.p (PV.v (Value.string ⟨#[99, 111, 109, 109, 105, 116]⟩)),
  AV.p (PV.v (Value.string ⟨#[110, 111, 105, 115, 101]⟩)),
  AV.p (PV.v (Value.string ⟨#[116, 111, 117, 99, 104]⟩)),
  AV.p (PV.v (Value.string ⟨#[102, 105, 110, 103, 101, 114]⟩)),
  AV.p (PV.v (Value.string ⟨#[119, 114, 111, 110, 103]⟩)),
  AV.p (PV.v (Value.string ⟨#[114, 101, 102, 117, 115, 101]⟩)),
  AV.p (PV.v (Value.string ⟨#[98, 101, 103, 105, 110]⟩)),
  AV.p (PV.v (Value.string ⟨#[112, 105, 110]⟩)),
  AV.p (PV.v (Value.string ⟨#[99, 97, 108, 108]⟩)),
  AV.p (PV.v (Value.string ⟨#[115, 112, 108, 105, 99, 101]⟩)),
  AV.p (PV.v (Value.string ⟨#[109, 111, 100, 101, 108]⟩)),
  AV.p (PV.v (Value.string ⟨#[115, 104, 97, 114, 101]⟩)),
  AV.p (PV.v (Value.string ⟨#[115, 116, 111, 114, 101]⟩)),
  AV.p (PV.v (Value.string ⟨#[114, 101, 116, 117, 114, 110]⟩)),
  AV.p (PV.v (Value.string ⟨#[114, 101, 115, 116, 111, 114, 101]⟩)),
  AV.p (PV.v (Value.string ⟨#[48]⟩)),
  AV.p (PV.v (Value.string ⟨#[49]⟩)),
  AV.p (PV.v (Value.string ⟨#[50]⟩)),
  AV.p (PV.v (Value.string ⟨#[45]⟩)),
  AV.p (PV.v (Value.string ⟨#[48, 48]⟩)),
  AV.p (PV.v (Value.string ⟨#[50, 49, 52, 55, 52, 56, 51, 54, 52, 55]⟩)),
  AV.p (PV.v (Value.string ⟨#[50, 49, 52, 55, 52, 56, 51, 54, 52, 56]⟩)),
  AV.p (PV.v (Value.string ⟨#[115, 116, 97, 114, 116, 45, 109, 97, 107, 101]⟩)),
  AV.p (PV.v (Value.string ⟨#[102, 105, 110, 105, 115, 104, 45, 103, 101, 116]⟩)),
  AV.p (PV.v (Value.string ⟨#[117, 115, 101]⟩)),
  AV.p (PV.v (Value.string ⟨#[99, 101, 114, 116, 105, 102, 105, 101, 100]⟩)),
  AV.p (PV.v (Value.string ⟨#[119, 105, 116, 104, 100, 114, 97, 119, 110]⟩)),
  AV.p (PV.v (Value.string ⟨#[]⟩)),
  AV.p (PV.v (Value.string ⟨#[35]⟩)),
  AV.p (PV.v (Value.string ⟨#[120, 32, 121]⟩)),
  AV.p (PV.v (Value.string ⟨#[43, 49]⟩)),
  AV.p (PV.v (Value.string ⟨#[109, 101, 116, 97]⟩))] = wordsM.map sv := rfl
def wordM (n : Int) : List UInt8 := wordsM.getD (modM n 42).toNat []
theorem wordM_len (n : Int) : (wordM n).length ≤ 20 := by
  have hr0 := modM_ge n 42
  have hr1 := modM_lt n (n := 42) (by omega)
  have hin : (modM n 42).toNat < wordsM.length := by show (modM n 42).toNat < 42; omega
  have ha : ∀ w, w ∈ wordsM → w.length ≤ 20 := by decide
  exact ha _ (List.mem_of_getElem? (getD_at hin))
set_option maxHeartbeats 2000000 in
set_option maxRecDepth 20000 in
theorem word_c (n : Int) : FPure Tryd.prog 11 [.i n] (sv (wordM n)) := by
  have hm := mod_c n 42 (by omega) (by omega)
  have hr0 := modM_ge n 42
  have hr1 := modM_lt n (n := 42) (by omega)
  unfold wordM
  generalize modM n 42 = r at *
  have hin : r.toNat < wordsM.length := by show r.toNat < 42; omega
  have hat := head_sv wordsM r.toNat hin
  have hlen : wordsM.length = 42 := rfl
  refine fpure_x hmix Tryd.func11 rfl (by kernel_rfl) Tryd.ntmps11 Tryd.results11 (by simp) (by simp [idsL, idsA]) [0, 2, 3] ?_; intro c hP h0 hE
  simp only [go_sem, Nat.reduceAdd, Nat.reduceMul, ↓reduceIte, reduceCtorEq, Nat.reduceLeDiff, Int.reduceToNat, Int.reduceLT, Int.reduceLE, Int.reduceEq, Int.reduceNe, Int.reduceBEq, Int.reduceBNe, not_false_eq_true, not_true_eq_false, hP, words_eq]
  first | refine xw_call hE (ks := [0, 2, 3]) (n := 2000) (by rw [hP]; exact hm) ?_ | refine xd_call hE (ks := [0, 2, 3]) (n := 2000) (by rw [hP]; exact hm) ?_
  simp only [go_sem, Nat.reduceAdd, Nat.reduceMul, ↓reduceIte, reduceCtorEq, Nat.reduceLeDiff, Int.reduceToNat, Int.reduceLT, Int.reduceLE, Int.reduceEq, Int.reduceNe, Int.reduceBEq, Int.reduceBNe, not_false_eq_true, not_true_eq_false, hP, hat, hlen]
  omega

/-- the further words of a line -/
def moreM (l : List Int) : Nat → List UInt8 → Nat → List UInt8 × Nat
  | 0, s, a => (s, a)
  | k + 1, s, a => moreM l k (s ++ (32 :: wordM ([25, 26, 27, (nextM l a 42).1].getD (nextM l (nextM l a 42).2 4).1.toNat 0))) (nextM l (nextM l a 42).2 4).2
theorem moreM_ok (l : List Int) : ∀ (k : Nat) (s : List UInt8) (a : Nat), a ≤ l.length → (moreM l k s a).1.length ≤ s.length + 21 * k ∧ (moreM l k s a).2 ≤ l.length
  | 0, s, a, ha => by simp [moreM, ha]
  | k + 1, s, a, ha => by
    have h1 := (nextM_ok l (n := 42) ha (by omega)).2.2
    have h2 := (nextM_ok l (n := 4) h1 (by omega)).2.2
    have h3 := moreM_ok l k (s ++ (32 :: wordM ([25, 26, 27, (nextM l a 42).1].getD (nextM l (nextM l a 42).2 4).1.toNat 0))) _ h2
    have h4 := wordM_len ([25, 26, 27, (nextM l a 42).1].getD (nextM l (nextM l a 42).2 4).1.toNat 0)
    simp only [List.length_append, List.length_cons] at h3
    unfold moreM
    exact ⟨by omega, h3.2⟩
def headM (l : List Int) (a : Nat) : List UInt8 × Nat :=
  if (nextM l (nextM l a 25).2 9).1 = 8 then (wordM (nextM l (nextM l (nextM l a 25).2 9).2 42).1, (nextM l (nextM l (nextM l a 25).2 9).2 42).2) else (wordM (nextM l a 25).1, (nextM l (nextM l a 25).2 9).2)
def lnM (l : List Int) (a : Nat) : List UInt8 × Nat := moreM l (nextM l (headM l a).2 6).1.toNat (headM l a).1 (nextM l (headM l a).2 6).2

theorem head_four (x : Int) : ∀ j : Nat, j < 4 → headA (.v (.int .i64 0)) (List.drop j [AV.p (PV.v (Value.int IntKind.i64 25)), AV.p (PV.v (Value.int IntKind.i64 26)), AV.p (PV.v (Value.int IntKind.i64 27)), AV.p (PV.v (Value.int IntKind.i64 x))]) = AV.i ([25, 26, 27, x].getD j 0)
  | 0, _ => rfl
  | 1, _ => rfl
  | 2, _ => rfl
  | 3, _ => rfl
set_option maxHeartbeats 4000000 in
theorem line_c (l : List Int) (a : Nat) (hl : l.length ≤ 9223372036854775807) (ha : a ≤ l.length) : Con Tryd.prog 6 [.ptr 0 0] (deckB l a) (sv (lnM l a).1) (deckB l (lnM l a).2) := by
  refine con_x 1 hmix Tryd.func6 rfl (by kernel_rfl) Tryd.ntmps6 Tryd.results6 (by simp) rfl (by simp [idsL, idsA, liveK]) (by simp [idsH, idsL, idsA]) (fun i hi => by simp [liveK] at hi; simp [keys, hi]) [0, 2, 3, 4, 10, 17] ?_; intro c hP h0 hE
  generalize hR : lnM l a = R at *
  unfold lnM headM at hR
  have hk1 := nextM_ok l (n := 25) ha (by omega)
  have hk2 := nextM_ok l (n := 9) hk1.2.2 (by omega)
  simp only [go_sem, Nat.reduceAdd, Nat.reduceMul, ↓reduceIte, reduceCtorEq, Nat.reduceLeDiff, Int.reduceToNat, Int.reduceLT, Int.reduceLE, Int.reduceEq, Int.reduceNe, Int.reduceBEq, Int.reduceBNe, not_false_eq_true, not_true_eq_false, hP]
  refine xw_con hE (ks := [0, 2, 3, 4, 10, 17]) (n := 2000) [] (fun i => i) 1 (by rw [hP]; exact next_c l a 25 hl ha (by omega) (by omega)) ⟨by simp only [go_sem, Nat.reduceAdd, Nat.reduceMul, ↓reduceIte, reduceCtorEq, Nat.reduceLeDiff, Int.reduceToNat, Int.reduceLT, Int.reduceLE, Int.reduceEq, Int.reduceNe, Int.reduceBEq, Int.reduceBNe, not_false_eq_true, not_true_eq_false], by simp only [go_sem, Nat.reduceAdd, Nat.reduceMul, ↓reduceIte, reduceCtorEq, Nat.reduceLeDiff, Int.reduceToNat, Int.reduceLT, Int.reduceLE, Int.reduceEq, Int.reduceNe, Int.reduceBEq, Int.reduceBNe, not_false_eq_true, not_true_eq_false], rfl, trivial, Nat.le_of_ble_eq_true rfl, fun i hi => .inl (by simp [keys] at hi; simp [liveK, hi]), by simp [idsA], by simp [idsH, idsL, idsA], rfl⟩ ?_
  simp only [go_sem, Nat.reduceAdd, Nat.reduceMul, ↓reduceIte, reduceCtorEq, Nat.reduceLeDiff, Int.reduceToNat, Int.reduceLT, Int.reduceLE, Int.reduceEq, Int.reduceNe, Int.reduceBEq, Int.reduceBNe, not_false_eq_true, not_true_eq_false, hP]
  first | refine xw_call hE (ks := [0, 2, 3, 4, 10, 17]) (n := 2000) (by rw [hP]; exact word_c (nextM l a 25).1) ?_ | refine xd_call hE (ks := [0, 2, 3, 4, 10, 17]) (n := 2000) (by rw [hP]; exact word_c (nextM l a 25).1) ?_
  have hwl1 := wordM_len (nextM l a 25).1
  generalize nextM l a 25 = N1 at *
  simp only [go_sem, Nat.reduceAdd, Nat.reduceMul, ↓reduceIte, reduceCtorEq, Nat.reduceLeDiff, Int.reduceToNat, Int.reduceLT, Int.reduceLE, Int.reduceEq, Int.reduceNe, Int.reduceBEq, Int.reduceBNe, not_false_eq_true, not_true_eq_false, hP]
  refine xw_con hE (ks := [0, 2, 3, 4, 10, 17]) (n := 2000) [] (fun i => i) 1 (by rw [hP]; exact next_c l N1.2 9 hl hk1.2.2 (by omega) (by omega)) ⟨by simp only [go_sem, Nat.reduceAdd, Nat.reduceMul, ↓reduceIte, reduceCtorEq, Nat.reduceLeDiff, Int.reduceToNat, Int.reduceLT, Int.reduceLE, Int.reduceEq, Int.reduceNe, Int.reduceBEq, Int.reduceBNe, not_false_eq_true, not_true_eq_false], by simp only [go_sem, Nat.reduceAdd, Nat.reduceMul, ↓reduceIte, reduceCtorEq, Nat.reduceLeDiff, Int.reduceToNat, Int.reduceLT, Int.reduceLE, Int.reduceEq, Int.reduceNe, Int.reduceBEq, Int.reduceBNe, not_false_eq_true, not_true_eq_false], rfl, trivial, Nat.le_of_ble_eq_true rfl, fun i hi => .inl (by simp [keys] at hi; simp [liveK, hi]), by simp [idsA], by simp [idsH, idsL, idsA], rfl⟩ ?_
  generalize nextM l N1.2 9 = N2 at *
  by_cases h8 : N2.1 = 8
  · rw [if_pos h8] at hR
    have hk3 := nextM_ok l (n := 42) hk2.2.2 (by omega)
    simp only [go_sem, Nat.reduceAdd, Nat.reduceMul, ↓reduceIte, reduceCtorEq, Nat.reduceLeDiff, Int.reduceToNat, Int.reduceLT, Int.reduceLE, Int.reduceEq, Int.reduceNe, Int.reduceBEq, Int.reduceBNe, not_false_eq_true, not_true_eq_false, hP, h8]
    refine xw_con hE (ks := [0, 2, 3, 4, 10, 17]) (n := 2000) [] (fun i => i) 1 (by rw [hP]; exact next_c l N2.2 42 hl hk2.2.2 (by omega) (by omega)) ⟨by simp only [go_sem, Nat.reduceAdd, Nat.reduceMul, ↓reduceIte, reduceCtorEq, Nat.reduceLeDiff, Int.reduceToNat, Int.reduceLT, Int.reduceLE, Int.reduceEq, Int.reduceNe, Int.reduceBEq, Int.reduceBNe, not_false_eq_true, not_true_eq_false], by simp only [go_sem, Nat.reduceAdd, Nat.reduceMul, ↓reduceIte, reduceCtorEq, Nat.reduceLeDiff, Int.reduceToNat, Int.reduceLT, Int.reduceLE, Int.reduceEq, Int.reduceNe, Int.reduceBEq, Int.reduceBNe, not_false_eq_true, not_true_eq_false], rfl, trivial, Nat.le_of_ble_eq_true rfl, fun i hi => .inl (by simp [keys] at hi; simp [liveK, hi]), by simp [idsA], by simp [idsH, idsL, idsA], rfl⟩ ?_
    simp only [go_sem, Nat.reduceAdd, Nat.reduceMul, ↓reduceIte, reduceCtorEq, Nat.reduceLeDiff, Int.reduceToNat, Int.reduceLT, Int.reduceLE, Int.reduceEq, Int.reduceNe, Int.reduceBEq, Int.reduceBNe, not_false_eq_true, not_true_eq_false, hP]
    have hwl2 := wordM_len (nextM l N2.2 42).1
    first | refine xw_call hE (ks := [0, 2, 3, 4, 10, 17]) (n := 2000) (by rw [hP]; exact word_c (nextM l N2.2 42).1) ?_ | refine xd_call hE (ks := [0, 2, 3, 4, 10, 17]) (n := 2000) (by rw [hP]; exact word_c (nextM l N2.2 42).1) ?_
    generalize nextM l N2.2 42 = N3 at *
    simp only [go_sem, Nat.reduceAdd, Nat.reduceMul, ↓reduceIte, reduceCtorEq, Nat.reduceLeDiff, Int.reduceToNat, Int.reduceLT, Int.reduceLE, Int.reduceEq, Int.reduceNe, Int.reduceBEq, Int.reduceBNe, not_false_eq_true, not_true_eq_false, hP]
    have hk6 := nextM_ok l (n := 6) hk3.2.2 (by omega)
    refine xw_con hE (ks := [0, 2, 3, 4, 10, 17]) (n := 2000) [] (fun i => i) 1 (by rw [hP]; exact next_c l N3.2 6 hl hk3.2.2 (by omega) (by omega)) ⟨by simp only [go_sem, Nat.reduceAdd, Nat.reduceMul, ↓reduceIte, reduceCtorEq, Nat.reduceLeDiff, Int.reduceToNat, Int.reduceLT, Int.reduceLE, Int.reduceEq, Int.reduceNe, Int.reduceBEq, Int.reduceBNe, not_false_eq_true, not_true_eq_false], by simp only [go_sem, Nat.reduceAdd, Nat.reduceMul, ↓reduceIte, reduceCtorEq, Nat.reduceLeDiff, Int.reduceToNat, Int.reduceLT, Int.reduceLE, Int.reduceEq, Int.reduceNe, Int.reduceBEq, Int.reduceBNe, not_false_eq_true, not_true_eq_false], rfl, trivial, Nat.le_of_ble_eq_true rfl, fun i hi => .inl (by simp [keys] at hi; simp [liveK, hi]), by simp [idsA], by simp [idsH, idsL, idsA], rfl⟩ ?_
    generalize nextM l N3.2 6 = N6 at *
    simp only [go_sem, Nat.reduceAdd, Nat.reduceMul, ↓reduceIte, reduceCtorEq, Nat.reduceLeDiff, Int.reduceToNat, Int.reduceLT, Int.reduceLE, Int.reduceEq, Int.reduceNe, Int.reduceBEq, Int.reduceBNe, not_false_eq_true, not_true_eq_false, hP]
    refine xw_loopT hE [0] (fun i hi => by have := h0 i hi; simpa [liveK] using this) [0, 2, 3, 4, 10, 17] (α := { p : Nat × List UInt8 × Nat // p.1 ≤ 5 ∧ p.2.1.length + 21 * p.1 ≤ 200 ∧ p.2.2 ≤ l.length ∧ moreM l p.1 p.2.1 p.2.2 = R }) (fun p => ⟨32, [(0, .ptr 0 0), (3, sv p.1.2.1), (4, .i p.1.1)], deckB l p.1.2.2, 1⟩) (fun p => p.1.1) ⟨(N6.1.toNat, wordM N3.1, N6.2), by simp only; omega, by simp only; omega, hk6.2.2, hR⟩ [] (fun i => i) ?_ (fun i _ => rfl) ?_
    · have e6 : ((N6.1.toNat : Nat) : Int) = N6.1 := by omega
      refine ⟨rfl, ?_, ?_, rfl, rfl, trivial, fun i h => h⟩
      · simp only [go_sem, Nat.reduceAdd, Nat.reduceMul, ↓reduceIte, reduceCtorEq, Nat.reduceLeDiff, Int.reduceToNat, Int.reduceLT, Int.reduceLE, Int.reduceEq, Int.reduceNe, Int.reduceBEq, Int.reduceBNe, not_false_eq_true, not_true_eq_false, e6]
      · simp only [go_sem, Nat.reduceAdd, Nat.reduceMul, ↓reduceIte, reduceCtorEq, Nat.reduceLeDiff, Int.reduceToNat, Int.reduceLT, Int.reduceLE, Int.reduceEq, Int.reduceNe, Int.reduceBEq, Int.reduceBNe, not_false_eq_true, not_true_eq_false]
    · rintro ⟨⟨k, s, b⟩, hk, hs, hb, hr⟩
      simp only at hk hs hb hr
      cases k with
      | zero =>
        rw [moreM] at hr
        subst hr
        have hz : ¬ ((0 : Int) > 0) := by omega
        simp only [go_sem, Nat.reduceAdd, Nat.reduceMul, ↓reduceIte, reduceCtorEq, Nat.reduceLeDiff, Int.reduceToNat, Int.reduceLT, Int.reduceLE, Int.reduceEq, Int.reduceNe, Int.reduceBEq, Int.reduceBNe, not_false_eq_true, not_true_eq_false, hP, hz]
        refine endC_T [0] rfl ?_ ?_ rfl rfl (fun i hi => by simp at hi; subst hi; exact ⟨rfl, by simp [keys]⟩) (fun i hi => by simp [liveK] at hi; simp; omega)
        · simp only [go_sem, Nat.reduceAdd, Nat.reduceMul, ↓reduceIte, reduceCtorEq, Nat.reduceLeDiff, Int.reduceToNat, Int.reduceLT, Int.reduceLE, Int.reduceEq, Int.reduceNe, Int.reduceBEq, Int.reduceBNe, not_false_eq_true, not_true_eq_false]
        · simp only [go_sem, Nat.reduceAdd, Nat.reduceMul, ↓reduceIte, reduceCtorEq, Nat.reduceLeDiff, Int.reduceToNat, Int.reduceLT, Int.reduceLE, Int.reduceEq, Int.reduceNe, Int.reduceBEq, Int.reduceBNe, not_false_eq_true, not_true_eq_false]
      | succ k =>
        rw [moreM] at hr
        have hp : (((k + 1 : Nat) : Int) > 0) := by omega
        have hw : IntKind.i64.wrap (((k + 1 : Nat) : Int) - 1) = (k : Int) := by rw [wrap_i64_id (by omega) (by omega)]; omega
        have hj1 := nextM_ok l (n := 42) hb (by omega)
        have hj2 := nextM_ok l (n := 4) hj1.2.2 (by omega)
        simp only [go_sem, Nat.reduceAdd, Nat.reduceMul, ↓reduceIte, reduceCtorEq, Nat.reduceLeDiff, Int.reduceToNat, Int.reduceLT, Int.reduceLE, Int.reduceEq, Int.reduceNe, Int.reduceBEq, Int.reduceBNe, not_false_eq_true, not_true_eq_false, hP, hp]
        refine xw_con hE (ks := [0, 2, 3, 4, 10, 17]) (n := 2000) [] (fun i => i) 1 (by rw [hP]; exact next_c l b 42 hl hb (by omega) (by omega)) ⟨by simp only [go_sem, Nat.reduceAdd, Nat.reduceMul, ↓reduceIte, reduceCtorEq, Nat.reduceLeDiff, Int.reduceToNat, Int.reduceLT, Int.reduceLE, Int.reduceEq, Int.reduceNe, Int.reduceBEq, Int.reduceBNe, not_false_eq_true, not_true_eq_false], by simp only [go_sem, Nat.reduceAdd, Nat.reduceMul, ↓reduceIte, reduceCtorEq, Nat.reduceLeDiff, Int.reduceToNat, Int.reduceLT, Int.reduceLE, Int.reduceEq, Int.reduceNe, Int.reduceBEq, Int.reduceBNe, not_false_eq_true, not_true_eq_false], rfl, trivial, Nat.le_of_ble_eq_true rfl, fun i hi => .inl (by simp [keys] at hi; simp [liveK, hi]), by simp [idsA], by simp [idsH, idsL, idsA], rfl⟩ ?_
        generalize nextM l b 42 = M1 at *
        simp only [go_sem, Nat.reduceAdd, Nat.reduceMul, ↓reduceIte, reduceCtorEq, Nat.reduceLeDiff, Int.reduceToNat, Int.reduceLT, Int.reduceLE, Int.reduceEq, Int.reduceNe, Int.reduceBEq, Int.reduceBNe, not_false_eq_true, not_true_eq_false, hP]
        refine xw_con hE (ks := [0, 2, 3, 4, 10, 17]) (n := 2000) [] (fun i => i) 2 (by rw [hP]; exact next_c l M1.2 4 hl hj1.2.2 (by omega) (by omega)) ⟨by simp only [go_sem, Nat.reduceAdd, Nat.reduceMul, ↓reduceIte, reduceCtorEq, Nat.reduceLeDiff, Int.reduceToNat, Int.reduceLT, Int.reduceLE, Int.reduceEq, Int.reduceNe, Int.reduceBEq, Int.reduceBNe, not_false_eq_true, not_true_eq_false], by simp only [go_sem, Nat.reduceAdd, Nat.reduceMul, ↓reduceIte, reduceCtorEq, Nat.reduceLeDiff, Int.reduceToNat, Int.reduceLT, Int.reduceLE, Int.reduceEq, Int.reduceNe, Int.reduceBEq, Int.reduceBNe, not_false_eq_true, not_true_eq_false], rfl, trivial, Nat.le_of_ble_eq_true rfl, fun i hi => .inl (by simp [keys] at hi; simp [liveK, hi]), by simp [idsA], by simp [idsH, idsL, idsA], rfl⟩ ?_
        generalize nextM l M1.2 4 = M2 at *
        have hf := head_four M1.1 M2.1.toNat (by omega)
        have hwl := wordM_len ([25, 26, 27, M1.1].getD M2.1.toNat 0)
        generalize [25, 26, 27, M1.1].getD M2.1.toNat 0 = z at *
        simp only [go_sem, Nat.reduceAdd, Nat.reduceMul, ↓reduceIte, reduceCtorEq, Nat.reduceLeDiff, Int.reduceToNat, Int.reduceLT, Int.reduceLE, Int.reduceEq, Int.reduceNe, Int.reduceBEq, Int.reduceBNe, not_false_eq_true, not_true_eq_false, hP, hf]
        refine ⟨⟨by omega, by omega⟩, by omega, ?_⟩
        first | refine xw_call hE (ks := [0, 2, 3, 4, 10, 17]) (n := 2000) (by rw [hP]; exact word_c z) ?_ | refine xd_call hE (ks := [0, 2, 3, 4, 10, 17]) (n := 2000) (by rw [hP]; exact word_c z) ?_
        generalize wordM z = w at *
        simp only [go_sem, Nat.reduceAdd, Nat.reduceMul, ↓reduceIte, reduceCtorEq, Nat.reduceLeDiff, Int.reduceToNat, Int.reduceLT, Int.reduceLE, Int.reduceEq, Int.reduceNe, Int.reduceBEq, Int.reduceBNe, not_false_eq_true, not_true_eq_false, hP, hw]
        refine ⟨by omega, by omega, ⟨(k, s ++ 32 :: w, M2.2), by simp only; omega, by simp only [List.length_append, List.length_cons]; omega, hj2.2.2, hr⟩, by simp, subGT [0] [0] rfl ?_ ?_ rfl rfl (Nat.le_refl _) (fun i hi => by simp at hi; subst hi; rfl)⟩
        · simp only [go_sem, Nat.reduceAdd, Nat.reduceMul, ↓reduceIte, reduceCtorEq, Nat.reduceLeDiff, Int.reduceToNat, Int.reduceLT, Int.reduceLE, Int.reduceEq, Int.reduceNe, Int.reduceBEq, Int.reduceBNe, not_false_eq_true, not_true_eq_false]
        · simp only [go_sem, Nat.reduceAdd, Nat.reduceMul, ↓reduceIte, reduceCtorEq, Nat.reduceLeDiff, Int.reduceToNat, Int.reduceLT, Int.reduceLE, Int.reduceEq, Int.reduceNe, Int.reduceBEq, Int.reduceBNe, not_false_eq_true, not_true_eq_false]
  · rw [if_neg h8] at hR
    simp only [go_sem, Nat.reduceAdd, Nat.reduceMul, ↓reduceIte, reduceCtorEq, Nat.reduceLeDiff, Int.reduceToNat, Int.reduceLT, Int.reduceLE, Int.reduceEq, Int.reduceNe, Int.reduceBEq, Int.reduceBNe, not_false_eq_true, not_true_eq_false, hP, h8]
    have hk6 := nextM_ok l (n := 6) hk2.2.2 (by omega)
    refine xw_con hE (ks := [0, 2, 3, 4, 10, 17]) (n := 2000) [] (fun i => i) 1 (by rw [hP]; exact next_c l N2.2 6 hl hk2.2.2 (by omega) (by omega)) ⟨by simp only [go_sem, Nat.reduceAdd, Nat.reduceMul, ↓reduceIte, reduceCtorEq, Nat.reduceLeDiff, Int.reduceToNat, Int.reduceLT, Int.reduceLE, Int.reduceEq, Int.reduceNe, Int.reduceBEq, Int.reduceBNe, not_false_eq_true, not_true_eq_false], by simp only [go_sem, Nat.reduceAdd, Nat.reduceMul, ↓reduceIte, reduceCtorEq, Nat.reduceLeDiff, Int.reduceToNat, Int.reduceLT, Int.reduceLE, Int.reduceEq, Int.reduceNe, Int.reduceBEq, Int.reduceBNe, not_false_eq_true, not_true_eq_false], rfl, trivial, Nat.le_of_ble_eq_true rfl, fun i hi => .inl (by simp [keys] at hi; simp [liveK, hi]), by simp [idsA], by simp [idsH, idsL, idsA], rfl⟩ ?_
    generalize nextM l N2.2 6 = N6 at *
    simp only [go_sem, Nat.reduceAdd, Nat.reduceMul, ↓reduceIte, reduceCtorEq, Nat.reduceLeDiff, Int.reduceToNat, Int.reduceLT, Int.reduceLE, Int.reduceEq, Int.reduceNe, Int.reduceBEq, Int.reduceBNe, not_false_eq_true, not_true_eq_false, hP]
    refine xw_loopT hE [0] (fun i hi => by have := h0 i hi; simpa [liveK] using this) [0, 2, 3, 4, 10, 17] (α := { p : Nat × List UInt8 × Nat // p.1 ≤ 5 ∧ p.2.1.length + 21 * p.1 ≤ 200 ∧ p.2.2 ≤ l.length ∧ moreM l p.1 p.2.1 p.2.2 = R }) (fun p => ⟨32, [(0, .ptr 0 0), (3, sv p.1.2.1), (4, .i p.1.1)], deckB l p.1.2.2, 1⟩) (fun p => p.1.1) ⟨(N6.1.toNat, wordM N1.1, N6.2), by simp only; omega, by simp only; omega, hk6.2.2, hR⟩ [] (fun i => i) ?_ (fun i _ => rfl) ?_
    · have e6 : ((N6.1.toNat : Nat) : Int) = N6.1 := by omega
      refine ⟨rfl, ?_, ?_, rfl, rfl, trivial, fun i h => h⟩
      · simp only [go_sem, Nat.reduceAdd, Nat.reduceMul, ↓reduceIte, reduceCtorEq, Nat.reduceLeDiff, Int.reduceToNat, Int.reduceLT, Int.reduceLE, Int.reduceEq, Int.reduceNe, Int.reduceBEq, Int.reduceBNe, not_false_eq_true, not_true_eq_false, e6]
      · simp only [go_sem, Nat.reduceAdd, Nat.reduceMul, ↓reduceIte, reduceCtorEq, Nat.reduceLeDiff, Int.reduceToNat, Int.reduceLT, Int.reduceLE, Int.reduceEq, Int.reduceNe, Int.reduceBEq, Int.reduceBNe, not_false_eq_true, not_true_eq_false]
    · rintro ⟨⟨k, s, b⟩, hk, hs, hb, hr⟩
      simp only at hk hs hb hr
      cases k with
      | zero =>
        rw [moreM] at hr
        subst hr
        have hz : ¬ ((0 : Int) > 0) := by omega
        simp only [go_sem, Nat.reduceAdd, Nat.reduceMul, ↓reduceIte, reduceCtorEq, Nat.reduceLeDiff, Int.reduceToNat, Int.reduceLT, Int.reduceLE, Int.reduceEq, Int.reduceNe, Int.reduceBEq, Int.reduceBNe, not_false_eq_true, not_true_eq_false, hP, hz]
        refine endC_T [0] rfl ?_ ?_ rfl rfl (fun i hi => by simp at hi; subst hi; exact ⟨rfl, by simp [keys]⟩) (fun i hi => by simp [liveK] at hi; simp; omega)
        · simp only [go_sem, Nat.reduceAdd, Nat.reduceMul, ↓reduceIte, reduceCtorEq, Nat.reduceLeDiff, Int.reduceToNat, Int.reduceLT, Int.reduceLE, Int.reduceEq, Int.reduceNe, Int.reduceBEq, Int.reduceBNe, not_false_eq_true, not_true_eq_false]
        · simp only [go_sem, Nat.reduceAdd, Nat.reduceMul, ↓reduceIte, reduceCtorEq, Nat.reduceLeDiff, Int.reduceToNat, Int.reduceLT, Int.reduceLE, Int.reduceEq, Int.reduceNe, Int.reduceBEq, Int.reduceBNe, not_false_eq_true, not_true_eq_false]
      | succ k =>
        rw [moreM] at hr
        have hp : (((k + 1 : Nat) : Int) > 0) := by omega
        have hw : IntKind.i64.wrap (((k + 1 : Nat) : Int) - 1) = (k : Int) := by rw [wrap_i64_id (by omega) (by omega)]; omega
        have hj1 := nextM_ok l (n := 42) hb (by omega)
        have hj2 := nextM_ok l (n := 4) hj1.2.2 (by omega)
        simp only [go_sem, Nat.reduceAdd, Nat.reduceMul, ↓reduceIte, reduceCtorEq, Nat.reduceLeDiff, Int.reduceToNat, Int.reduceLT, Int.reduceLE, Int.reduceEq, Int.reduceNe, Int.reduceBEq, Int.reduceBNe, not_false_eq_true, not_true_eq_false, hP, hp]
        refine xw_con hE (ks := [0, 2, 3, 4, 10, 17]) (n := 2000) [] (fun i => i) 1 (by rw [hP]; exact next_c l b 42 hl hb (by omega) (by omega)) ⟨by simp only [go_sem, Nat.reduceAdd, Nat.reduceMul, ↓reduceIte, reduceCtorEq, Nat.reduceLeDiff, Int.reduceToNat, Int.reduceLT, Int.reduceLE, Int.reduceEq, Int.reduceNe, Int.reduceBEq, Int.reduceBNe, not_false_eq_true, not_true_eq_false], by simp only [go_sem, Nat.reduceAdd, Nat.reduceMul, ↓reduceIte, reduceCtorEq, Nat.reduceLeDiff, Int.reduceToNat, Int.reduceLT, Int.reduceLE, Int.reduceEq, Int.reduceNe, Int.reduceBEq, Int.reduceBNe, not_false_eq_true, not_true_eq_false], rfl, trivial, Nat.le_of_ble_eq_true rfl, fun i hi => .inl (by simp [keys] at hi; simp [liveK, hi]), by simp [idsA], by simp [idsH, idsL, idsA], rfl⟩ ?_
        generalize nextM l b 42 = M1 at *
        simp only [go_sem, Nat.reduceAdd, Nat.reduceMul, ↓reduceIte, reduceCtorEq, Nat.reduceLeDiff, Int.reduceToNat, Int.reduceLT, Int.reduceLE, Int.reduceEq, Int.reduceNe, Int.reduceBEq, Int.reduceBNe, not_false_eq_true, not_true_eq_false, hP]
        refine xw_con hE (ks := [0, 2, 3, 4, 10, 17]) (n := 2000) [] (fun i => i) 2 (by rw [hP]; exact next_c l M1.2 4 hl hj1.2.2 (by omega) (by omega)) ⟨by simp only [go_sem, Nat.reduceAdd, Nat.reduceMul, ↓reduceIte, reduceCtorEq, Nat.reduceLeDiff, Int.reduceToNat, Int.reduceLT, Int.reduceLE, Int.reduceEq, Int.reduceNe, Int.reduceBEq, Int.reduceBNe, not_false_eq_true, not_true_eq_false], by simp only [go_sem, Nat.reduceAdd, Nat.reduceMul, ↓reduceIte, reduceCtorEq, Nat.reduceLeDiff, Int.reduceToNat, Int.reduceLT, Int.reduceLE, Int.reduceEq, Int.reduceNe, Int.reduceBEq, Int.reduceBNe, not_false_eq_true, not_true_eq_false], rfl, trivial, Nat.le_of_ble_eq_true rfl, fun i hi => .inl (by simp [keys] at hi; simp [liveK, hi]), by simp [idsA], by simp [idsH, idsL, idsA], rfl⟩ ?_
        generalize nextM l M1.2 4 = M2 at *
        have hf := head_four M1.1 M2.1.toNat (by omega)
        have hwl := wordM_len ([25, 26, 27, M1.1].getD M2.1.toNat 0)
        generalize [25, 26, 27, M1.1].getD M2.1.toNat 0 = z at *
        simp only [go_sem, Nat.reduceAdd, Nat.reduceMul, ↓reduceIte, reduceCtorEq, Nat.reduceLeDiff, Int.reduceToNat, Int.reduceLT, Int.reduceLE, Int.reduceEq, Int.reduceNe, Int.reduceBEq, Int.reduceBNe, not_false_eq_true, not_true_eq_false, hP, hf]
        refine ⟨⟨by omega, by omega⟩, by omega, ?_⟩
        first | refine xw_call hE (ks := [0, 2, 3, 4, 10, 17]) (n := 2000) (by rw [hP]; exact word_c z) ?_ | refine xd_call hE (ks := [0, 2, 3, 4, 10, 17]) (n := 2000) (by rw [hP]; exact word_c z) ?_
        generalize wordM z = w at *
        simp only [go_sem, Nat.reduceAdd, Nat.reduceMul, ↓reduceIte, reduceCtorEq, Nat.reduceLeDiff, Int.reduceToNat, Int.reduceLT, Int.reduceLE, Int.reduceEq, Int.reduceNe, Int.reduceBEq, Int.reduceBNe, not_false_eq_true, not_true_eq_false, hP, hw]
        refine ⟨by omega, by omega, ⟨(k, s ++ 32 :: w, M2.2), by simp only; omega, by simp only [List.length_append, List.length_cons]; omega, hj2.2.2, hr⟩, by simp, subGT [0] [0] rfl ?_ ?_ rfl rfl (Nat.le_refl _) (fun i hi => by simp at hi; subst hi; rfl)⟩
        · simp only [go_sem, Nat.reduceAdd, Nat.reduceMul, ↓reduceIte, reduceCtorEq, Nat.reduceLeDiff, Int.reduceToNat, Int.reduceLT, Int.reduceLE, Int.reduceEq, Int.reduceNe, Int.reduceBEq, Int.reduceBNe, not_false_eq_true, not_true_eq_false]
        · simp only [go_sem, Nat.reduceAdd, Nat.reduceMul, ↓reduceIte, reduceCtorEq, Nat.reduceLeDiff, Int.reduceToNat, Int.reduceLT, Int.reduceLE, Int.reduceEq, Int.reduceNe, Int.reduceBEq, Int.reduceBNe, not_false_eq_true, not_true_eq_false]

theorem lnM_ok (l : List Int) {a : Nat} (ha : a ≤ l.length) : (lnM l a).1.length ≤ 200 ∧ (lnM l a).2 ≤ l.length := by
  have h1 := nextM_ok l (n := 25) ha (by omega)
  have h2 := nextM_ok l (n := 9) h1.2.2 (by omega)
  have h3 := nextM_ok l (n := 42) h2.2.2 (by omega)
  have hh : (headM l a).1.length ≤ 20 ∧ (headM l a).2 ≤ l.length := by
    unfold headM
    split
    · exact ⟨wordM_len _, h3.2.2⟩
    · exact ⟨wordM_len _, h2.2.2⟩
  have h4 := nextM_ok l (n := 6) hh.2 (by omega)
  have h5 := moreM_ok l (nextM l (headM l a).2 6).1.toNat (headM l a).1 _ h4.2.2
  unfold lnM
  exact ⟨by omega, h5.2⟩

end Go.Proofs.YthdhbdjhjfflnaaDoor

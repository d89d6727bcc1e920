/-
  Contracts of the words and fields of scripts: the program. Own work; no statement of the seat is proved here.
-/
import Derived.Test.YthdhbdjhjfflnaaDoorSd
namespace Go.Proofs.YthdhbdjhjfflnaaDoor
set_option linter.unusedSimpArgs false
set_option linter.unusedVariables false
open Go Go.Abs Go.RowKit

abbrev evT : Nat := 43
theorem callsV_eq : ((callsV.map PV.v).take 7).map AV.p = callsM.map sv := rfl
theorem callsV_len : callsV.length = 7 := rfl
theorem statsV_eq : ((statsV.map PV.v).take 4).map AV.p = statsM.map sv := rfl
theorem statsV_len : statsV.length = 4 := rfl
theorem head_sv (l : List (List UInt8)) (i : Nat) (h : i < l.length) : headA (.v undef) ((l.map sv).drop i) = sv (l.getD i []) := by
  rw [List.drop_eq_getElem_cons (by simpa using h)]
  simp [headA, List.getD_eq_getElem?_getD, h]
/-- what the loop over words has found up to an index -/
def foundN (l : List (List UInt8)) (s : List UInt8) (i : Nat) (e : Ev) : Ev := if s ∈ l.take i then { e with n := indexM l s } else e
theorem foundN_yes {l : List (List UInt8)} {s : List UInt8} {i : Nat} {e : Ev} (hd : l.Nodup) (h : i < l.length) (he : l.getD i [] = s) : foundN l s (i + 1) e = { e with n := ((i + 1 : Nat) : Int) } ∧ s ∉ l.take i := by
  have hn : s ∉ l.take i := by
    intro hm
    rw [← List.take_append_drop i l, drop_at (d := []) h, he] at hd
    exact (List.nodup_append.1 hd).2.2 s hm s (by simp) rfl
  have hm : s ∈ l.take (i + 1) := by rw [take_at1 (d := []) h, he]; simp
  refine ⟨?_, hn⟩
  unfold foundN
  rw [if_pos hm, indexM_at h hn he]
theorem foundN_no {l : List (List UInt8)} {s : List UInt8} {i : Nat} {e : Ev} (h : i < l.length) (he : ¬ l.getD i [] = s) : foundN l s (i + 1) e = foundN l s i e ∧ (s ∈ l.take (i + 1) ↔ s ∈ l.take i) := by
  have : s ∈ l.take (i + 1) ↔ s ∈ l.take i := by
    rw [take_at1 (d := []) h, List.mem_append, List.mem_singleton]
    exact ⟨fun x => x.elim id (fun y => absurd y.symm he), .inl⟩
  refine ⟨?_, this⟩
  unfold foundN
  by_cases hm : s ∈ l.take i
  · rw [if_pos hm, if_pos (this.2 hm)]
  · rw [if_neg hm, if_neg (fun x => hm (this.1 x))]

theorem indexM_mem (l : List (List UInt8)) (s : List UInt8) : (0 < indexM l s) ↔ s ∈ l := by
  unfold indexM
  by_cases h : s ∈ l
  · rw [if_pos (List.idxOf_lt_length_of_mem h)]; simp [h]
  · rw [List.idxOf_eq_length h, if_neg (Nat.lt_irrefl _)]; simp [h]
theorem found_all {l : List (List UInt8)} {s : List UInt8} {n : Nat} {e : Ev} {R : Ev × Bool} (hn : l.length = n) (h : (if 0 < indexM l s then ({ e with n := indexM l s }, true) else (e, false)) = R) : foundN l s n e = R.1 ∧ decide (s ∈ l.take n) = R.2 := by
  subst h
  subst hn
  unfold foundN
  rw [List.take_length]
  by_cases g : s ∈ l
  · rw [if_pos ((indexM_mem l s).2 g), if_pos g]; simp [g]
  · rw [if_neg (fun x => g ((indexM_mem l s).1 x)), if_neg g]; simp [g]
theorem sv_view (h : Heap) (S : List Nat) (σ : Nat → Nat) (l : List (List UInt8)) : viewAs h S σ (l.map sv) (l.map sv) := by
  have : l.map sv = (l.map strP).map .p := by simp [strP]
  rw [this]; exact viewAs_pure h S σ _
attribute [go_sem] sv_view
set_option maxHeartbeats 4000000 in
theorem pput_c (l : UInt8) (e : Ev) (s : List UInt8) : Con Tryd.prog 26 [.ptr 0 0, .p (.v (.int .u8 (l.toNat : Int))), sv s] [(0, some ⟨evT, evC e⟩)] (.b (putP l e s).2) [(0, some ⟨evT, evC (putP l e s).1⟩)] := by
  have hid := idsL_ev [0] e
  refine con_x 1 hmix Tryd.func26 rfl (by kernel_rfl) Tryd.ntmps26 Tryd.results26 (by simp) rfl (by simp [idsL, idsA, liveK, *]) (by simp [idsH, idsL, liveK, *]) (fun i hi => by simp [liveK] at hi; simp [keys, hi]) [0, 1, 2, 6, 7, 8, 9, 10, 11, 12, 18, 19, 25, 31, 37, 43, 50, 54, 56, 57, 58, 63, 70, 72, 73, 74, 79, 86] ?_; intro c hP h0 hE
  clear hid
  simp only [go_sem, Nat.reduceAdd, Nat.reduceMul, ↓reduceIte, reduceCtorEq, Nat.reduceLeDiff, Int.reduceToNat, Int.reduceLT, Int.reduceLE, Int.reduceEq, Int.reduceNe, Int.reduceBEq, Int.reduceBNe, not_false_eq_true, not_true_eq_false, hP]
  first | refine xw_call hE (ks := [0, 1, 2, 6, 7, 8, 9, 10, 11, 12, 18, 19, 25, 31, 37, 43, 50, 54, 56, 57, 58, 63, 70, 72, 73, 74, 79, 86]) (n := 2000) (by rw [hP]; exact num_c s) ?_ | refine xd_call hE (ks := [0, 1, 2, 6, 7, 8, 9, 10, 11, 12, 18, 19, 25, 31, 37, 43, 50, 54, 56, 57, 58, 63, 70, 72, 73, 74, 79, 86]) (n := 2000) (by rw [hP]; exact num_c s) ?_
  obtain ⟨R, hR⟩ : ∃ R, putP l e s = R := ⟨_, rfl⟩; rw [hR] at hE; (try rw [hR])
  unfold putP at hR
  generalize numM s = m at *
  by_cases c1 : l = 87
  · subst c1
    simp (config := { decide := true }) only [↓reduceIte] at hR
    subst hR
    simp only [go_sem, Nat.reduceAdd, Nat.reduceMul, ↓reduceIte, reduceCtorEq, Nat.reduceLeDiff, Int.reduceToNat, Int.reduceLT, Int.reduceLE, Int.reduceEq, Int.reduceNe, Int.reduceBEq, Int.reduceBNe, not_false_eq_true, not_true_eq_false, hP]
    refine endC_T [0] rfl ?_ ?_ rfl rfl (fun i hi => by simp at hi; subst hi; exact ⟨rfl, by simp [keys]⟩) (fun i hi => by simp [liveK] at hi; simp; omega)
    · simp only [go_sem, Nat.reduceAdd, Nat.reduceMul, ↓reduceIte, reduceCtorEq, Nat.reduceLeDiff, Int.reduceToNat, Int.reduceLT, Int.reduceLE, Int.reduceEq, Int.reduceNe, Int.reduceBEq, Int.reduceBNe, not_false_eq_true, not_true_eq_false]
    · simp only [go_sem, Nat.reduceAdd, Nat.reduceMul, ↓reduceIte, reduceCtorEq, Nat.reduceLeDiff, Int.reduceToNat, Int.reduceLT, Int.reduceLE, Int.reduceEq, Int.reduceNe, Int.reduceBEq, Int.reduceBNe, not_false_eq_true, not_true_eq_false]
  by_cases c2 : l = 84
  · subst c2
    simp (config := { decide := true }) only [↓reduceIte] at hR
    subst hR
    simp only [go_sem, Nat.reduceAdd, Nat.reduceMul, ↓reduceIte, reduceCtorEq, Nat.reduceLeDiff, Int.reduceToNat, Int.reduceLT, Int.reduceLE, Int.reduceEq, Int.reduceNe, Int.reduceBEq, Int.reduceBNe, not_false_eq_true, not_true_eq_false, hP, c1]
    refine endC_T [0] rfl ?_ ?_ rfl rfl (fun i hi => by simp at hi; subst hi; exact ⟨rfl, by simp [keys]⟩) (fun i hi => by simp [liveK] at hi; simp; omega)
    · simp only [go_sem, Nat.reduceAdd, Nat.reduceMul, ↓reduceIte, reduceCtorEq, Nat.reduceLeDiff, Int.reduceToNat, Int.reduceLT, Int.reduceLE, Int.reduceEq, Int.reduceNe, Int.reduceBEq, Int.reduceBNe, not_false_eq_true, not_true_eq_false]
    · simp only [go_sem, Nat.reduceAdd, Nat.reduceMul, ↓reduceIte, reduceCtorEq, Nat.reduceLeDiff, Int.reduceToNat, Int.reduceLT, Int.reduceLE, Int.reduceEq, Int.reduceNe, Int.reduceBEq, Int.reduceBNe, not_false_eq_true, not_true_eq_false]
  by_cases c3 : l = 78
  · subst c3
    simp (config := { decide := true }) only [↓reduceIte] at hR
    subst hR
    simp only [go_sem, Nat.reduceAdd, Nat.reduceMul, ↓reduceIte, reduceCtorEq, Nat.reduceLeDiff, Int.reduceToNat, Int.reduceLT, Int.reduceLE, Int.reduceEq, Int.reduceNe, Int.reduceBEq, Int.reduceBNe, not_false_eq_true, not_true_eq_false, hP, c1, c2]
    refine endC_T [0] rfl ?_ ?_ rfl rfl (fun i hi => by simp at hi; subst hi; exact ⟨rfl, by simp [keys]⟩) (fun i hi => by simp [liveK] at hi; simp; omega)
    · simp only [go_sem, Nat.reduceAdd, Nat.reduceMul, ↓reduceIte, reduceCtorEq, Nat.reduceLeDiff, Int.reduceToNat, Int.reduceLT, Int.reduceLE, Int.reduceEq, Int.reduceNe, Int.reduceBEq, Int.reduceBNe, not_false_eq_true, not_true_eq_false]
    · simp only [go_sem, Nat.reduceAdd, Nat.reduceMul, ↓reduceIte, reduceCtorEq, Nat.reduceLeDiff, Int.reduceToNat, Int.reduceLT, Int.reduceLE, Int.reduceEq, Int.reduceNe, Int.reduceBEq, Int.reduceBNe, not_false_eq_true, not_true_eq_false]
  by_cases c4 : l = 66
  · subst c4
    simp (config := { decide := true }) only [↓reduceIte] at hR
    subst hR
    simp only [go_sem, Nat.reduceAdd, Nat.reduceMul, ↓reduceIte, reduceCtorEq, Nat.reduceLeDiff, Int.reduceToNat, Int.reduceLT, Int.reduceLE, Int.reduceEq, Int.reduceNe, Int.reduceBEq, Int.reduceBNe, not_false_eq_true, not_true_eq_false, hP, c1, c2, c3]
    refine endC_T [0] rfl ?_ ?_ rfl rfl (fun i hi => by simp at hi; subst hi; exact ⟨rfl, by simp [keys]⟩) (fun i hi => by simp [liveK] at hi; simp; omega)
    · simp only [go_sem, Nat.reduceAdd, Nat.reduceMul, ↓reduceIte, reduceCtorEq, Nat.reduceLeDiff, Int.reduceToNat, Int.reduceLT, Int.reduceLE, Int.reduceEq, Int.reduceNe, Int.reduceBEq, Int.reduceBNe, not_false_eq_true, not_true_eq_false]
    · simp only [go_sem, Nat.reduceAdd, Nat.reduceMul, ↓reduceIte, reduceCtorEq, Nat.reduceLeDiff, Int.reduceToNat, Int.reduceLT, Int.reduceLE, Int.reduceEq, Int.reduceNe, Int.reduceBEq, Int.reduceBNe, not_false_eq_true, not_true_eq_false]
  by_cases c5 : l = 77
  · subst c5
    simp (config := { decide := true }) only [↓reduceIte] at hR
    simp only [go_sem, Nat.reduceAdd, Nat.reduceMul, ↓reduceIte, reduceCtorEq, Nat.reduceLeDiff, Int.reduceToNat, Int.reduceLT, Int.reduceLE, Int.reduceEq, Int.reduceNe, Int.reduceBEq, Int.reduceBNe, not_false_eq_true, not_true_eq_false, hP, c1, c2, c3, c4]
    split
    · rename_i hs
      rw [if_pos hs] at hR
      subst hR
      refine endC_T [0] rfl ?_ ?_ rfl rfl (fun i hi => by simp at hi; subst hi; exact ⟨rfl, by simp [keys]⟩) (fun i hi => by simp [liveK] at hi; simp; omega)
      · simp only [go_sem, Nat.reduceAdd, Nat.reduceMul, ↓reduceIte, reduceCtorEq, Nat.reduceLeDiff, Int.reduceToNat, Int.reduceLT, Int.reduceLE, Int.reduceEq, Int.reduceNe, Int.reduceBEq, Int.reduceBNe, not_false_eq_true, not_true_eq_false]
      · simp only [go_sem, Nat.reduceAdd, Nat.reduceMul, ↓reduceIte, reduceCtorEq, Nat.reduceLeDiff, Int.reduceToNat, Int.reduceLT, Int.reduceLE, Int.reduceEq, Int.reduceNe, Int.reduceBEq, Int.reduceBNe, not_false_eq_true, not_true_eq_false]
    · rename_i hs
      rw [if_neg hs] at hR
      subst hR
      refine endC_T [0] rfl ?_ ?_ rfl rfl (fun i hi => by simp at hi; subst hi; exact ⟨rfl, by simp [keys]⟩) (fun i hi => by simp [liveK] at hi; simp; omega)
      · simp only [go_sem, Nat.reduceAdd, Nat.reduceMul, ↓reduceIte, reduceCtorEq, Nat.reduceLeDiff, Int.reduceToNat, Int.reduceLT, Int.reduceLE, Int.reduceEq, Int.reduceNe, Int.reduceBEq, Int.reduceBNe, not_false_eq_true, not_true_eq_false]
      · simp only [go_sem, Nat.reduceAdd, Nat.reduceMul, ↓reduceIte, reduceCtorEq, Nat.reduceLeDiff, Int.reduceToNat, Int.reduceLT, Int.reduceLE, Int.reduceEq, Int.reduceNe, Int.reduceBEq, Int.reduceBNe, not_false_eq_true, not_true_eq_false]
  by_cases c6 : l = 67
  · subst c6
    simp (config := { decide := true }) only [↓reduceIte] at hR
    simp only [go_sem, Nat.reduceAdd, Nat.reduceMul, ↓reduceIte, reduceCtorEq, Nat.reduceLeDiff, Int.reduceToNat, Int.reduceLT, Int.reduceLE, Int.reduceEq, Int.reduceNe, Int.reduceBEq, Int.reduceBNe, not_false_eq_true, not_true_eq_false, hP, c1, c2, c3, c4, c5, callsV_eq, callsV_len]
    refine xw_forT hE [0] (fun i hi => by have := h0 i hi; simpa [liveK] using this) [0, 1, 2, 6, 7, 8, 9, 10, 11, 12, 18, 19, 25, 31, 37, 43, 50, 54, 56, 57, 58, 63, 70, 72, 73, 74, 79, 86] 7 (fun i => ⟨93, [(0, .ptr 0 0), (2, sv s), (8, .b (decide (s ∈ callsM.take i))), (56, .agg (callsM.map sv)), (57, .i i)], [(0, some ⟨evT, evC (foundN callsM s i e)⟩)], 1⟩) [] (fun i => i) ?_ (fun i _ => rfl) ?_
    · refine ⟨rfl, ?_, ?_, rfl, rfl, trivial, fun i h => h⟩
      · simp only [go_sem, Nat.reduceAdd, Nat.reduceMul, ↓reduceIte, reduceCtorEq, Nat.reduceLeDiff, Int.reduceToNat, Int.reduceLT, Int.reduceLE, Int.reduceEq, Int.reduceNe, Int.reduceBEq, Int.reduceBNe, not_false_eq_true, not_true_eq_false, List.not_mem_nil, decide_false]
      · simp only [go_sem, Nat.reduceAdd, Nat.reduceMul, ↓reduceIte, reduceCtorEq, Nat.reduceLeDiff, Int.reduceToNat, Int.reduceLT, Int.reduceLE, Int.reduceEq, Int.reduceNe, Int.reduceBEq, Int.reduceBNe, not_false_eq_true, not_true_eq_false, foundN, List.not_mem_nil]
    · intro i hi
      rcases Nat.lt_or_ge i 7 with hin | hin
      · have hc : ((i : Int) < 7) := by omega
        have hw := w_succ (i := i) (by omega)
        have hw' : IntKind.i64.wrap (1 + (i : Int)) = ((i + 1 : Nat) : Int) := by rw [Int.add_comm]; exact hw
        have hat := head_sv callsM i hin
        rcases Classical.em (callsM.getD i [] = s) with hx | hx
        · obtain ⟨hf, hn⟩ := foundN_yes (e := e) (by decide) hin hx
          have hm : s ∈ callsM.take (i + 1) := by rw [take_at1 (d := []) hin, hx]; simp
          have hfi : foundN callsM s i e = e := by unfold foundN; rw [if_neg hn]
          simp only [go_sem, Nat.reduceAdd, Nat.reduceMul, ↓reduceIte, reduceCtorEq, Nat.reduceLeDiff, Int.reduceToNat, Int.reduceLT, Int.reduceLE, Int.reduceEq, Int.reduceNe, Int.reduceBEq, Int.reduceBNe, not_false_eq_true, not_true_eq_false, hP, hc, hw, hw', hat, hx, hfi]
          refine ⟨⟨by omega, hin⟩, hin, subGT [0] [0] rfl ?_ ?_ rfl rfl (Nat.le_refl _) (fun i hi => by simp at hi; subst hi; rfl)⟩
          · simp only [go_sem, Nat.reduceAdd, Nat.reduceMul, ↓reduceIte, reduceCtorEq, Nat.reduceLeDiff, Int.reduceToNat, Int.reduceLT, Int.reduceLE, Int.reduceEq, Int.reduceNe, Int.reduceBEq, Int.reduceBNe, not_false_eq_true, not_true_eq_false, hm, decide_true]
          · simp only [go_sem, Nat.reduceAdd, Nat.reduceMul, ↓reduceIte, reduceCtorEq, Nat.reduceLeDiff, Int.reduceToNat, Int.reduceLT, Int.reduceLE, Int.reduceEq, Int.reduceNe, Int.reduceBEq, Int.reduceBNe, not_false_eq_true, not_true_eq_false, hf]
        · obtain ⟨hf, hm⟩ := foundN_no (e := e) hin hx
          simp only [go_sem, Nat.reduceAdd, Nat.reduceMul, ↓reduceIte, reduceCtorEq, Nat.reduceLeDiff, Int.reduceToNat, Int.reduceLT, Int.reduceLE, Int.reduceEq, Int.reduceNe, Int.reduceBEq, Int.reduceBNe, not_false_eq_true, not_true_eq_false, hP, hc, hw, hw', hat, hx]
          refine ⟨⟨by omega, hin⟩, hin, subGT [0] [0] rfl ?_ ?_ rfl rfl (Nat.le_refl _) (fun i hi => by simp at hi; subst hi; rfl)⟩
          · simp only [go_sem, Nat.reduceAdd, Nat.reduceMul, ↓reduceIte, reduceCtorEq, Nat.reduceLeDiff, Int.reduceToNat, Int.reduceLT, Int.reduceLE, Int.reduceEq, Int.reduceNe, Int.reduceBEq, Int.reduceBNe, not_false_eq_true, not_true_eq_false, hm]
          · simp only [go_sem, Nat.reduceAdd, Nat.reduceMul, ↓reduceIte, reduceCtorEq, Nat.reduceLeDiff, Int.reduceToNat, Int.reduceLT, Int.reduceLE, Int.reduceEq, Int.reduceNe, Int.reduceBEq, Int.reduceBNe, not_false_eq_true, not_true_eq_false, hf]
      · obtain rfl : i = 7 := by omega
        simp only [go_sem, Nat.reduceAdd, Nat.reduceMul, ↓reduceIte, reduceCtorEq, Nat.reduceLeDiff, Int.reduceToNat, Int.reduceLT, Int.reduceLE, Int.reduceEq, Int.reduceNe, Int.reduceBEq, Int.reduceBNe, not_false_eq_true, not_true_eq_false, hP]
        obtain ⟨h1, h2⟩ := found_all (l := callsM) (n := 7) rfl hR
        rw [h1, h2]
        refine endC_T [0] rfl ?_ ?_ rfl rfl (fun i hi => by simp at hi; subst hi; exact ⟨rfl, by simp [keys]⟩) (fun i hi => by simp [liveK] at hi; simp; omega)
        · simp only [go_sem, Nat.reduceAdd, Nat.reduceMul, ↓reduceIte, reduceCtorEq, Nat.reduceLeDiff, Int.reduceToNat, Int.reduceLT, Int.reduceLE, Int.reduceEq, Int.reduceNe, Int.reduceBEq, Int.reduceBNe, not_false_eq_true, not_true_eq_false]
        · simp only [go_sem, Nat.reduceAdd, Nat.reduceMul, ↓reduceIte, reduceCtorEq, Nat.reduceLeDiff, Int.reduceToNat, Int.reduceLT, Int.reduceLE, Int.reduceEq, Int.reduceNe, Int.reduceBEq, Int.reduceBNe, not_false_eq_true, not_true_eq_false]
  by_cases c7 : l = 83
  · subst c7
    simp (config := { decide := true }) only [↓reduceIte] at hR
    simp only [go_sem, Nat.reduceAdd, Nat.reduceMul, ↓reduceIte, reduceCtorEq, Nat.reduceLeDiff, Int.reduceToNat, Int.reduceLT, Int.reduceLE, Int.reduceEq, Int.reduceNe, Int.reduceBEq, Int.reduceBNe, not_false_eq_true, not_true_eq_false, hP, c1, c2, c3, c4, c5, c6, statsV_eq, statsV_len]
    refine xw_forT hE [0] (fun i hi => by have := h0 i hi; simpa [liveK] using this) [0, 1, 2, 6, 7, 8, 9, 10, 11, 12, 18, 19, 25, 31, 37, 43, 50, 54, 56, 57, 58, 63, 70, 72, 73, 74, 79, 86] 4 (fun i => ⟨93, [(0, .ptr 0 0), (2, sv s), (8, .b (decide (s ∈ statsM.take i))), (72, .agg (statsM.map sv)), (73, .i i)], [(0, some ⟨evT, evC (foundN statsM s i e)⟩)], 1⟩) [] (fun i => i) ?_ (fun i _ => rfl) ?_
    · refine ⟨rfl, ?_, ?_, rfl, rfl, trivial, fun i h => h⟩
      · simp only [go_sem, Nat.reduceAdd, Nat.reduceMul, ↓reduceIte, reduceCtorEq, Nat.reduceLeDiff, Int.reduceToNat, Int.reduceLT, Int.reduceLE, Int.reduceEq, Int.reduceNe, Int.reduceBEq, Int.reduceBNe, not_false_eq_true, not_true_eq_false, List.not_mem_nil, decide_false]
      · simp only [go_sem, Nat.reduceAdd, Nat.reduceMul, ↓reduceIte, reduceCtorEq, Nat.reduceLeDiff, Int.reduceToNat, Int.reduceLT, Int.reduceLE, Int.reduceEq, Int.reduceNe, Int.reduceBEq, Int.reduceBNe, not_false_eq_true, not_true_eq_false, foundN, List.not_mem_nil]
    · intro i hi
      rcases Nat.lt_or_ge i 4 with hin | hin
      · have hc : ((i : Int) < 4) := by omega
        have hw := w_succ (i := i) (by omega)
        have hw' : IntKind.i64.wrap (1 + (i : Int)) = ((i + 1 : Nat) : Int) := by rw [Int.add_comm]; exact hw
        have hat := head_sv statsM i hin
        rcases Classical.em (statsM.getD i [] = s) with hx | hx
        · obtain ⟨hf, hn⟩ := foundN_yes (e := e) (by decide) hin hx
          have hm : s ∈ statsM.take (i + 1) := by rw [take_at1 (d := []) hin, hx]; simp
          have hfi : foundN statsM s i e = e := by unfold foundN; rw [if_neg hn]
          simp only [go_sem, Nat.reduceAdd, Nat.reduceMul, ↓reduceIte, reduceCtorEq, Nat.reduceLeDiff, Int.reduceToNat, Int.reduceLT, Int.reduceLE, Int.reduceEq, Int.reduceNe, Int.reduceBEq, Int.reduceBNe, not_false_eq_true, not_true_eq_false, hP, hc, hw, hw', hat, hx, hfi]
          refine ⟨⟨by omega, hin⟩, hin, subGT [0] [0] rfl ?_ ?_ rfl rfl (Nat.le_refl _) (fun i hi => by simp at hi; subst hi; rfl)⟩
          · simp only [go_sem, Nat.reduceAdd, Nat.reduceMul, ↓reduceIte, reduceCtorEq, Nat.reduceLeDiff, Int.reduceToNat, Int.reduceLT, Int.reduceLE, Int.reduceEq, Int.reduceNe, Int.reduceBEq, Int.reduceBNe, not_false_eq_true, not_true_eq_false, hm, decide_true]
          · simp only [go_sem, Nat.reduceAdd, Nat.reduceMul, ↓reduceIte, reduceCtorEq, Nat.reduceLeDiff, Int.reduceToNat, Int.reduceLT, Int.reduceLE, Int.reduceEq, Int.reduceNe, Int.reduceBEq, Int.reduceBNe, not_false_eq_true, not_true_eq_false, hf]
        · obtain ⟨hf, hm⟩ := foundN_no (e := e) hin hx
          simp only [go_sem, Nat.reduceAdd, Nat.reduceMul, ↓reduceIte, reduceCtorEq, Nat.reduceLeDiff, Int.reduceToNat, Int.reduceLT, Int.reduceLE, Int.reduceEq, Int.reduceNe, Int.reduceBEq, Int.reduceBNe, not_false_eq_true, not_true_eq_false, hP, hc, hw, hw', hat, hx]
          refine ⟨⟨by omega, hin⟩, hin, subGT [0] [0] rfl ?_ ?_ rfl rfl (Nat.le_refl _) (fun i hi => by simp at hi; subst hi; rfl)⟩
          · simp only [go_sem, Nat.reduceAdd, Nat.reduceMul, ↓reduceIte, reduceCtorEq, Nat.reduceLeDiff, Int.reduceToNat, Int.reduceLT, Int.reduceLE, Int.reduceEq, Int.reduceNe, Int.reduceBEq, Int.reduceBNe, not_false_eq_true, not_true_eq_false, hm]
          · simp only [go_sem, Nat.reduceAdd, Nat.reduceMul, ↓reduceIte, reduceCtorEq, Nat.reduceLeDiff, Int.reduceToNat, Int.reduceLT, Int.reduceLE, Int.reduceEq, Int.reduceNe, Int.reduceBEq, Int.reduceBNe, not_false_eq_true, not_true_eq_false, hf]
      · obtain rfl : i = 4 := by omega
        simp only [go_sem, Nat.reduceAdd, Nat.reduceMul, ↓reduceIte, reduceCtorEq, Nat.reduceLeDiff, Int.reduceToNat, Int.reduceLT, Int.reduceLE, Int.reduceEq, Int.reduceNe, Int.reduceBEq, Int.reduceBNe, not_false_eq_true, not_true_eq_false, hP]
        obtain ⟨h1, h2⟩ := found_all (l := statsM) (n := 4) rfl hR
        rw [h1, h2]
        refine endC_T [0] rfl ?_ ?_ rfl rfl (fun i hi => by simp at hi; subst hi; exact ⟨rfl, by simp [keys]⟩) (fun i hi => by simp [liveK] at hi; simp; omega)
        · simp only [go_sem, Nat.reduceAdd, Nat.reduceMul, ↓reduceIte, reduceCtorEq, Nat.reduceLeDiff, Int.reduceToNat, Int.reduceLT, Int.reduceLE, Int.reduceEq, Int.reduceNe, Int.reduceBEq, Int.reduceBNe, not_false_eq_true, not_true_eq_false]
        · simp only [go_sem, Nat.reduceAdd, Nat.reduceMul, ↓reduceIte, reduceCtorEq, Nat.reduceLeDiff, Int.reduceToNat, Int.reduceLT, Int.reduceLE, Int.reduceEq, Int.reduceNe, Int.reduceBEq, Int.reduceBNe, not_false_eq_true, not_true_eq_false]
  by_cases c8 : l = 88
  · subst c8
    simp (config := { decide := true }) only [↓reduceIte] at hR
    subst hR
    simp only [go_sem, Nat.reduceAdd, Nat.reduceMul, ↓reduceIte, reduceCtorEq, Nat.reduceLeDiff, Int.reduceToNat, Int.reduceLT, Int.reduceLE, Int.reduceEq, Int.reduceNe, Int.reduceBEq, Int.reduceBNe, not_false_eq_true, not_true_eq_false, hP, c1, c2, c3, c4, c5, c6, c7]
    refine endC_T [0] rfl ?_ ?_ rfl rfl (fun i hi => by simp at hi; subst hi; exact ⟨rfl, by simp [keys]⟩) (fun i hi => by simp [liveK] at hi; simp; omega)
    · simp only [go_sem, Nat.reduceAdd, Nat.reduceMul, ↓reduceIte, reduceCtorEq, Nat.reduceLeDiff, Int.reduceToNat, Int.reduceLT, Int.reduceLE, Int.reduceEq, Int.reduceNe, Int.reduceBEq, Int.reduceBNe, not_false_eq_true, not_true_eq_false]
    · simp only [go_sem, Nat.reduceAdd, Nat.reduceMul, ↓reduceIte, reduceCtorEq, Nat.reduceLeDiff, Int.reduceToNat, Int.reduceLT, Int.reduceLE, Int.reduceEq, Int.reduceNe, Int.reduceBEq, Int.reduceBNe, not_false_eq_true, not_true_eq_false]
  · simp only [c1, c2, c3, c4, c5, c6, c7, c8, ↓reduceIte] at hR
    subst hR
    simp only [go_sem, Nat.reduceAdd, Nat.reduceMul, ↓reduceIte, reduceCtorEq, Nat.reduceLeDiff, Int.reduceToNat, Int.reduceLT, Int.reduceLE, Int.reduceEq, Int.reduceNe, Int.reduceBEq, Int.reduceBNe, not_false_eq_true, not_true_eq_false, hP, c1, c2, c3, c4, c5, c6, c7, c8]
    refine endC_T [0] rfl ?_ ?_ rfl rfl (fun i hi => by simp at hi; subst hi; exact ⟨rfl, by simp [keys]⟩) (fun i hi => by simp [liveK] at hi; simp; omega)
    · simp only [go_sem, Nat.reduceAdd, Nat.reduceMul, ↓reduceIte, reduceCtorEq, Nat.reduceLeDiff, Int.reduceToNat, Int.reduceLT, Int.reduceLE, Int.reduceEq, Int.reduceNe, Int.reduceBEq, Int.reduceBNe, not_false_eq_true, not_true_eq_false]
    · simp only [go_sem, Nat.reduceAdd, Nat.reduceMul, ↓reduceIte, reduceCtorEq, Nat.reduceLeDiff, Int.reduceToNat, Int.reduceLT, Int.reduceLE, Int.reduceEq, Int.reduceNe, Int.reduceBEq, Int.reduceBNe, not_false_eq_true, not_true_eq_false]

end Go.Proofs.YthdhbdjhjfflnaaDoor

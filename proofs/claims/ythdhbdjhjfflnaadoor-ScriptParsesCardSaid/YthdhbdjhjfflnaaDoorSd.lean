/-
  Contracts of the words and fields of scripts: the reference. Own work; no statement of the seat is proved here.
-/
import Derived.Test.YthdhbdjhjfflnaaDoorSc
namespace Go.Proofs.YthdhbdjhjfflnaaDoor
set_option linter.unusedSimpArgs false
set_option linter.unusedVariables false
open Go Go.Abs Go.RowKit

def strP (b : List UInt8) : PV := .v (.string ⟨b.toArray⟩)
theorem head_str (l : List (List UInt8)) (i : Nat) (h : i < l.length) : headP (.v undef) ((l.map strP).drop i) = strP (l.getD i []) := by
  rw [List.drop_eq_getElem_cons (by simpa using h)]
  simp [headP, List.getD_eq_getElem?_getD, h]

theorem idxOf_atL {α : Type} [BEq α] [LawfulBEq α] {c : α} : ∀ {s : List α} {i : Nat}, c ∉ s.take i → s[i]? = some c → s.idxOf c = i
  | [], i, _, h => by simp at h
  | x :: s, 0, _, h => by simp at h; subst h; simp [List.idxOf_cons]
  | x :: s, i + 1, hn, h => by
    simp only [List.take_succ_cons, List.mem_cons, not_or] at hn
    simp only [List.getElem?_cons_succ] at h
    rw [List.idxOf_cons, idxOf_atL hn.2 h]
    have : (x == c) = false := by simp; exact fun e => hn.1 e.symm
    simp [this]
theorem indexM_at {l : List (List UInt8)} {s : List UInt8} {i : Nat} (h : i < l.length) (hn : s ∉ l.take i) (he : l.getD i [] = s) : indexM l s = i + 1 := by
  have : l.idxOf s = i := idxOf_atL hn (by rw [getD_at (d := []) h, he])
  unfold indexM; rw [this, if_pos h]
theorem indexM_no {l : List (List UInt8)} {s : List UInt8} (hn : s ∉ l) : indexM l s = 0 := by
  unfold indexM; rw [List.idxOf_eq_length hn, if_neg (Nat.lt_irrefl _)]

theorem rindex_c (l : List (List UInt8)) (s : List UInt8) (hl : l.length < 1000000) : FPure Tryd.prog 46 [.p (.data 1 l.length (l.map strP)), sv s] (.i (indexM l s)) := by
  refine fpure_x hmix Tryd.func46 rfl (by kernel_rfl) Tryd.ntmps46 Tryd.results46 (by simp) (by simp [idsL, idsA]) [0, 1, 4, 5, 9, 17] ?_; intro c hP h0 hE
  simp only [go_sem, Nat.reduceAdd, Nat.reduceMul, ↓reduceIte, reduceCtorEq, Nat.reduceLeDiff, Int.reduceToNat, Int.reduceLT, Int.reduceLE, Int.reduceEq, Int.reduceNe, Int.reduceBEq, Int.reduceBNe, not_false_eq_true, not_true_eq_false, hP]
  refine xw_loop hE h0 [0, 1, 4, 5, 9, 17] (α := { i : Nat // i ≤ l.length ∧ s ∉ l.take i }) (fun i => ⟨20, [(0, .p (.data 1 l.length (l.map strP))), (1, sv s), (5, .i i.1)], [], 0⟩) (fun i => l.length - i.1) ⟨0, Nat.zero_le _, by simp⟩ [] (fun i => i) ?_ ?_
  · refine ⟨rfl, ?_, trivial, rfl, rfl, trivial, fun i h => h⟩
    simp only [go_sem, Nat.reduceAdd, Nat.reduceMul, ↓reduceIte, reduceCtorEq, Nat.reduceLeDiff, Int.reduceToNat, Int.reduceLT, Int.reduceLE, Int.reduceEq, Int.reduceNe, Int.reduceBEq, Int.reduceBNe, not_false_eq_true, not_true_eq_false]
  · rintro ⟨i, hi, hno⟩
    rcases Nat.lt_or_ge i l.length with hin | hin
    · have hc : ((i : Int) < (l.length : Int)) := by omega
      have hw := w_succ (i := i) (by omega)
      have hat := head_str l i hin
      by_cases hx : l.getD i [] = s
      · have h4 := indexM_at hin hno hx
        simp only [go_sem, Nat.reduceAdd, Nat.reduceMul, ↓reduceIte, reduceCtorEq, Nat.reduceLeDiff, Int.reduceToNat, Int.reduceLT, Int.reduceLE, Int.reduceEq, Int.reduceNe, Int.reduceBEq, Int.reduceBNe, not_false_eq_true, not_true_eq_false, hP, hc, hw, hat, strP, hx, h4]
        omega
      · simp only [go_sem, Nat.reduceAdd, Nat.reduceMul, ↓reduceIte, reduceCtorEq, Nat.reduceLeDiff, Int.reduceToNat, Int.reduceLT, Int.reduceLE, Int.reduceEq, Int.reduceNe, Int.reduceBEq, Int.reduceBNe, not_false_eq_true, not_true_eq_false, hP, hc, hw, hat, strP, hx]
        refine ⟨by omega, by omega, ⟨i + 1, by omega, ?_⟩, by show l.length - (i + 1) < l.length - i; omega, subI rfl ?_ ?_ rfl rfl (Nat.le_refl _)⟩
        · rw [take_at1 (d := []) hin]
          intro hm
          rcases List.mem_append.1 hm with hm | hm
          · exact hno hm
          · exact hx (List.mem_singleton.1 hm).symm
        · simp only [go_sem, Nat.reduceAdd, Nat.reduceMul, ↓reduceIte, reduceCtorEq, Nat.reduceLeDiff, Int.reduceToNat, Int.reduceLT, Int.reduceLE, Int.reduceEq, Int.reduceNe, Int.reduceBEq, Int.reduceBNe, not_false_eq_true, not_true_eq_false]
        · simp only [go_sem, Nat.reduceAdd, Nat.reduceMul, ↓reduceIte, reduceCtorEq, Nat.reduceLeDiff, Int.reduceToNat, Int.reduceLT, Int.reduceLE, Int.reduceEq, Int.reduceNe, Int.reduceBEq, Int.reduceBNe, not_false_eq_true, not_true_eq_false]
    · obtain rfl : i = l.length := by omega
      have hnc : ¬ ((l.length : Int) < (l.length : Int)) := by omega
      rw [List.take_of_length_le (Nat.le_refl _)] at hno
      simp only [go_sem, Nat.reduceAdd, Nat.reduceMul, ↓reduceIte, reduceCtorEq, Nat.reduceLeDiff, Int.reduceToNat, Int.reduceLT, Int.reduceLE, Int.reduceEq, Int.reduceNe, Int.reduceBEq, Int.reduceBNe, not_false_eq_true, not_true_eq_false, hP, hnc, indexM_no hno]

theorem rcalls_c : FPure Tryd.prog 47 [] (.p (.data 1 7 (callsM.map strP))) := by
  refine fpure_x hmix Tryd.func47 rfl (by kernel_rfl) Tryd.ntmps47 Tryd.results47 (by simp) (by simp [idsL, idsA]) [0] ?_; intro c hP h0 hE
  simp only [go_sem, Nat.reduceAdd, Nat.reduceMul, ↓reduceIte, reduceCtorEq, Nat.reduceLeDiff, Int.reduceToNat, Int.reduceLT, Int.reduceLE, Int.reduceEq, Int.reduceNe, Int.reduceBEq, Int.reduceBNe, not_false_eq_true, not_true_eq_false, hP]
  rfl
theorem rstats_c : FPure Tryd.prog 48 [] (.p (.data 1 4 (statsM.map strP))) := by
  refine fpure_x hmix Tryd.func48 rfl (by kernel_rfl) Tryd.ntmps48 Tryd.results48 (by simp) (by simp [idsL, idsA]) [0] ?_; intro c hP h0 hE
  simp only [go_sem, Nat.reduceAdd, Nat.reduceMul, ↓reduceIte, reduceCtorEq, Nat.reduceLeDiff, Int.reduceToNat, Int.reduceLT, Int.reduceLE, Int.reduceEq, Int.reduceNe, Int.reduceBEq, Int.reduceBNe, not_false_eq_true, not_true_eq_false, hP]
  rfl

/-- the cells of an event without options and response -/
def evC (e : Ev) : List AV := [.i e.kind, .i e.who, .i e.to, .i e.n, .i e.b, sv e.text, .i 0, sv [], .p (.v (.slice none 0 0)), sv [], sv [], .p (.v (.slice none 0 0)), .i 0, .i 0, .b false, .i 0, .b false, .i 0, .i 0, sv [], .p (.v (.slice none 0 0)), .p (.v (.slice none 0 0)), .p (.v (.slice none 0 0)), .i 0, .p (.v (.slice none 0 0)), sv []]
abbrev evA (e : Ev) : AV := .agg (evC e)
theorem idsL_ev (T : List Nat) (e : Ev) : idsL T (evC e) := by simp [evC, idsL, idsA]
def ev0 : Ev := ⟨0, 0, 0, 0, 0, []⟩
theorem ev_zero : pvs z43 = evC ev0 := rfl
theorem ev_len (e : Ev) : (evC e).length = 26 := rfl
theorem ev_take (e : Ev) : (evC e).take 26 = evC e := rfl
theorem ev_one (e : Ev) : oneCs (evC e) = true := rfl
theorem ev_s0 (e : Ev) (n : Int) : (evC e).set 0 (.p (.v (.int .i64 n))) = evC { e with kind := n } := rfl
theorem ev_s1 (e : Ev) (n : Int) : (evC e).set 1 (.p (.v (.int .i64 n))) = evC { e with who := n } := rfl
theorem ev_s2 (e : Ev) (n : Int) : (evC e).set 2 (.p (.v (.int .i64 n))) = evC { e with to := n } := rfl
theorem ev_s3 (e : Ev) (n : Int) : (evC e).set 3 (.p (.v (.int .i64 n))) = evC { e with n := n } := rfl
theorem ev_s4 (e : Ev) (n : Int) : (evC e).set 4 (.p (.v (.int .i64 n))) = evC { e with b := n } := rfl
theorem ev_s5 (e : Ev) (s : List UInt8) : (evC e).set 5 (.p (.v (.string ⟨s.toArray⟩))) = evC { e with text := s } := rfl
theorem ev_h0 (d : PV) (e : Ev) : headA d (evC e) = .i e.kind := rfl
theorem ev_h1 (d : PV) (e : Ev) : headA d ((evC e).drop 1) = .i e.who := rfl
theorem ev_h2 (d : PV) (e : Ev) : headA d ((evC e).drop 2) = .i e.to := rfl
theorem ev_h3 (d : PV) (e : Ev) : headA d ((evC e).drop 3) = .i e.n := rfl
theorem ev_h4 (d : PV) (e : Ev) : headA d ((evC e).drop 4) = .i e.b := rfl
theorem ev_h5 (d : PV) (e : Ev) : headA d ((evC e).drop 5) = sv e.text := rfl
theorem ev_map (e : Ev) : ∃ cs : List PV, evC e = cs.map .p := ⟨(evC e).map unP, rfl⟩
theorem allP_ev (e : Ev) : allP (evC e) := by
  intro c hc
  obtain ⟨cs, he⟩ := ev_map e
  rw [he] at hc
  obtain ⟨x, _, rfl⟩ := List.mem_map.1 hc
  trivial
theorem ev_fz1 (id : Nat) (b : Blk) (e : Ev) : fz1L id b (evC e) = evC e := fz1L_pure id b _ (allP_ev e)
theorem ev_fz1O (id : Nat) (b : Blk) (e : Ev) : fz1OL id b (evC e) := fz1OL_pure id b _ (allP_ev e)
theorem fzOL_pure (h : List (Nat × Option Blk)) : ∀ cs : List PV, fzOL h (cs.map .p)
  | [] => trivial
  | c :: cs => ⟨by cases c <;> trivial, fzOL_pure h cs⟩
theorem fzL_pure (h : List (Nat × Option Blk)) : ∀ cs : List PV, fzL h (cs.map .p) = cs.map .p
  | [] => rfl
  | c :: cs => by simp only [List.map_cons, fzL, fzL_pure h cs]; cases c <;> rfl
theorem ev_fzO (h : List (Nat × Option Blk)) (e : Ev) : fzOL h (evC e) := by obtain ⟨cs, he⟩ := ev_map e; rw [he]; exact fzOL_pure h cs
theorem ev_fz (h : List (Nat × Option Blk)) (e : Ev) : fzL h (evC e) = evC e := by obtain ⟨cs, he⟩ := ev_map e; rw [he]; exact fzL_pure h cs
attribute [go_sem] allP_ev ev_fz1 ev_fz1O ev_fzO ev_fz
theorem ev_view (h : Heap) (S : List Nat) (σ : Nat → Nat) (e : Ev) : viewAs h S σ (evC e) (evC e) := by
  obtain ⟨cs, he⟩ := ev_map e; rw [he]; exact viewAs_pure h S σ cs
theorem ev_ren (τ : Nat → Nat) (e : Ev) : renL τ (evC e) = evC e := by
  obtain ⟨cs, he⟩ := ev_map e; rw [he]; exact renL_map τ cs
theorem setAt_app : ∀ (vs cs pre : List AV), cs.length = vs.length → setAt (pre ++ cs) pre.length vs = pre ++ vs
  | [], [], pre, _ => by simp [setAt]
  | [], c :: cs, pre, h => by simp at h
  | v :: vs, [], pre, h => by simp at h
  | v :: vs, c :: cs, pre, h => by
    rw [setAt]
    have e : (pre ++ c :: cs).set pre.length v = (pre ++ [v]) ++ cs := by simp
    rw [e, show pre.length + 1 = (pre ++ [v]).length by simp, setAt_app vs cs (pre ++ [v]) (by simpa using h)]
    simp
theorem ev_setAll (e x : Ev) : setAt (evC x) 0 (evC e) = evC e := setAt_app (evC e) (evC x) [] rfl
attribute [go_sem] ev_zero ev_len ev_take ev_one ev_s0 ev_s1 ev_s2 ev_s3 ev_s4 ev_s5 ev_h0 ev_h1 ev_h2 ev_h3 ev_h4 ev_h5 ev_view ev_ren ev_setAll
theorem callsM_len : callsM.length = 7 := rfl
theorem statsM_len : statsM.length = 4 := rfl

theorem icalls_c (s : List UInt8) : FPure Tryd.prog 46 [.p (.data 1 7 (callsM.map strP)), sv s] (.i (indexM callsM s)) := rindex_c callsM s (by decide)
theorem istats_c (s : List UInt8) : FPure Tryd.prog 46 [.p (.data 1 4 (statsM.map strP)), sv s] (.i (indexM statsM s)) := rindex_c statsM s (by decide)
set_option maxHeartbeats 4000000 in
theorem rput_c (l : UInt8) (e : Ev) (s : List UInt8) : FPure Tryd.prog 38 [evA e, .p (.v (.int .u8 (l.toNat : Int))), sv s] (.tup [evA (putR l e s).1, .b (putR l e s).2]) := by
  have hid := idsL_ev [] e
  refine fpure_x hmix Tryd.func38 rfl (by kernel_rfl) Tryd.ntmps38 Tryd.results38 (by simp) (by simp [idsL, idsA, *]) [0, 1, 2, 3, 6, 7, 8, 9, 15, 16, 20, 24, 28, 32, 37, 39, 48] ?_; intro c hP h0 hE
  clear hid
  simp only [go_sem, Nat.reduceAdd, Nat.reduceMul, ↓reduceIte, reduceCtorEq, Nat.reduceLeDiff, Int.reduceToNat, Int.reduceLT, Int.reduceLE, Int.reduceEq, Int.reduceNe, Int.reduceBEq, Int.reduceBNe, not_false_eq_true, not_true_eq_false, hP]
  first | refine xw_call hE (ks := [0, 1, 2, 3, 6, 7, 8, 9, 15, 16, 20, 24, 28, 32, 37, 39, 48]) (n := 2000) (by rw [hP]; exact dig_c s) ?_ | refine xd_call hE (ks := [0, 1, 2, 3, 6, 7, 8, 9, 15, 16, 20, 24, 28, 32, 37, 39, 48]) (n := 2000) (by rw [hP]; exact dig_c s) ?_
  obtain ⟨R, hR⟩ : ∃ R, putR l e s = R := ⟨_, rfl⟩; rw [hR] at hE; (try rw [hR])
  unfold putR at hR
  generalize numM s = m at *
  by_cases c1 : l = 119
  · subst c1
    simp (config := { decide := true }) only [↓reduceIte] at hR
    subst hR
    simp only [go_sem, Nat.reduceAdd, Nat.reduceMul, ↓reduceIte, reduceCtorEq, Nat.reduceLeDiff, Int.reduceToNat, Int.reduceLT, Int.reduceLE, Int.reduceEq, Int.reduceNe, Int.reduceBEq, Int.reduceBNe, not_false_eq_true, not_true_eq_false, hP]
  by_cases c2 : l = 116
  · subst c2
    simp (config := { decide := true }) only [↓reduceIte] at hR
    subst hR
    simp only [go_sem, Nat.reduceAdd, Nat.reduceMul, ↓reduceIte, reduceCtorEq, Nat.reduceLeDiff, Int.reduceToNat, Int.reduceLT, Int.reduceLE, Int.reduceEq, Int.reduceNe, Int.reduceBEq, Int.reduceBNe, not_false_eq_true, not_true_eq_false, hP, c1]
  by_cases c3 : l = 110
  · subst c3
    simp (config := { decide := true }) only [↓reduceIte] at hR
    subst hR
    simp only [go_sem, Nat.reduceAdd, Nat.reduceMul, ↓reduceIte, reduceCtorEq, Nat.reduceLeDiff, Int.reduceToNat, Int.reduceLT, Int.reduceLE, Int.reduceEq, Int.reduceNe, Int.reduceBEq, Int.reduceBNe, not_false_eq_true, not_true_eq_false, hP, c1, c2]
  by_cases c4 : l = 98
  · subst c4
    simp (config := { decide := true }) only [↓reduceIte] at hR
    subst hR
    simp only [go_sem, Nat.reduceAdd, Nat.reduceMul, ↓reduceIte, reduceCtorEq, Nat.reduceLeDiff, Int.reduceToNat, Int.reduceLT, Int.reduceLE, Int.reduceEq, Int.reduceNe, Int.reduceBEq, Int.reduceBNe, not_false_eq_true, not_true_eq_false, hP, c1, c2, c3]
  by_cases c5 : l = 66
  · subst c5
    simp (config := { decide := true }) only [↓reduceIte] at hR
    simp only [go_sem, Nat.reduceAdd, Nat.reduceMul, ↓reduceIte, reduceCtorEq, Nat.reduceLeDiff, Int.reduceToNat, Int.reduceLT, Int.reduceLE, Int.reduceEq, Int.reduceNe, Int.reduceBEq, Int.reduceBNe, not_false_eq_true, not_true_eq_false, hP, c1, c2, c3, c4]
    split
    · rename_i hs
      rw [if_pos hs] at hR
      subst hR
      simp only [go_sem, Nat.reduceAdd, Nat.reduceMul, ↓reduceIte, reduceCtorEq, Nat.reduceLeDiff, Int.reduceToNat, Int.reduceLT, Int.reduceLE, Int.reduceEq, Int.reduceNe, Int.reduceBEq, Int.reduceBNe, not_false_eq_true, not_true_eq_false]
    · rename_i hs
      rw [if_neg hs] at hR
      subst hR
      simp only [go_sem, Nat.reduceAdd, Nat.reduceMul, ↓reduceIte, reduceCtorEq, Nat.reduceLeDiff, Int.reduceToNat, Int.reduceLT, Int.reduceLE, Int.reduceEq, Int.reduceNe, Int.reduceBEq, Int.reduceBNe, not_false_eq_true, not_true_eq_false]
  by_cases c6 : l = 99
  · subst c6
    simp (config := { decide := true }) only [↓reduceIte] at hR
    simp only [go_sem, Nat.reduceAdd, Nat.reduceMul, ↓reduceIte, reduceCtorEq, Nat.reduceLeDiff, Int.reduceToNat, Int.reduceLT, Int.reduceLE, Int.reduceEq, Int.reduceNe, Int.reduceBEq, Int.reduceBNe, not_false_eq_true, not_true_eq_false, hP, c1, c2, c3, c4, c5]
    first | refine xw_call hE (ks := [0, 1, 2, 3, 6, 7, 8, 9, 15, 16, 20, 24, 28, 32, 37, 39, 48]) (n := 2000) (by rw [hP]; exact rcalls_c) ?_ | refine xd_call hE (ks := [0, 1, 2, 3, 6, 7, 8, 9, 15, 16, 20, 24, 28, 32, 37, 39, 48]) (n := 2000) (by rw [hP]; exact rcalls_c) ?_
    simp only [go_sem, Nat.reduceAdd, Nat.reduceMul, ↓reduceIte, reduceCtorEq, Nat.reduceLeDiff, Int.reduceToNat, Int.reduceLT, Int.reduceLE, Int.reduceEq, Int.reduceNe, Int.reduceBEq, Int.reduceBNe, not_false_eq_true, not_true_eq_false, hP, c1, c2, c3, c4, c5]
    first | refine xw_call hE (ks := [0, 1, 2, 3, 6, 7, 8, 9, 15, 16, 20, 24, 28, 32, 37, 39, 48]) (n := 2000) (by rw [hP]; exact icalls_c s) ?_ | refine xd_call hE (ks := [0, 1, 2, 3, 6, 7, 8, 9, 15, 16, 20, 24, 28, 32, 37, 39, 48]) (n := 2000) (by rw [hP]; exact icalls_c s) ?_
    subst hR
    simp only [go_sem, Nat.reduceAdd, Nat.reduceMul, ↓reduceIte, reduceCtorEq, Nat.reduceLeDiff, Int.reduceToNat, Int.reduceLT, Int.reduceLE, Int.reduceEq, Int.reduceNe, Int.reduceBEq, Int.reduceBNe, not_false_eq_true, not_true_eq_false, hP, c1, c2, c3, c4, c5]
    exact congrArg Value.bool (decide_eq_decide.2 (by omega))
  by_cases c7 : l = 115
  · subst c7
    simp (config := { decide := true }) only [↓reduceIte] at hR
    simp only [go_sem, Nat.reduceAdd, Nat.reduceMul, ↓reduceIte, reduceCtorEq, Nat.reduceLeDiff, Int.reduceToNat, Int.reduceLT, Int.reduceLE, Int.reduceEq, Int.reduceNe, Int.reduceBEq, Int.reduceBNe, not_false_eq_true, not_true_eq_false, hP, c1, c2, c3, c4, c5, c6]
    first | refine xw_call hE (ks := [0, 1, 2, 3, 6, 7, 8, 9, 15, 16, 20, 24, 28, 32, 37, 39, 48]) (n := 2000) (by rw [hP]; exact rstats_c) ?_ | refine xd_call hE (ks := [0, 1, 2, 3, 6, 7, 8, 9, 15, 16, 20, 24, 28, 32, 37, 39, 48]) (n := 2000) (by rw [hP]; exact rstats_c) ?_
    simp only [go_sem, Nat.reduceAdd, Nat.reduceMul, ↓reduceIte, reduceCtorEq, Nat.reduceLeDiff, Int.reduceToNat, Int.reduceLT, Int.reduceLE, Int.reduceEq, Int.reduceNe, Int.reduceBEq, Int.reduceBNe, not_false_eq_true, not_true_eq_false, hP, c1, c2, c3, c4, c5, c6]
    first | refine xw_call hE (ks := [0, 1, 2, 3, 6, 7, 8, 9, 15, 16, 20, 24, 28, 32, 37, 39, 48]) (n := 2000) (by rw [hP]; exact istats_c s) ?_ | refine xd_call hE (ks := [0, 1, 2, 3, 6, 7, 8, 9, 15, 16, 20, 24, 28, 32, 37, 39, 48]) (n := 2000) (by rw [hP]; exact istats_c s) ?_
    subst hR
    simp only [go_sem, Nat.reduceAdd, Nat.reduceMul, ↓reduceIte, reduceCtorEq, Nat.reduceLeDiff, Int.reduceToNat, Int.reduceLT, Int.reduceLE, Int.reduceEq, Int.reduceNe, Int.reduceBEq, Int.reduceBNe, not_false_eq_true, not_true_eq_false, hP, c1, c2, c3, c4, c5, c6]
    exact congrArg Value.bool (decide_eq_decide.2 (by omega))
  simp only [c1, c2, c3, c4, c5, c6, c7, ↓reduceIte] at hR
  subst hR
  simp only [go_sem, Nat.reduceAdd, Nat.reduceMul, ↓reduceIte, reduceCtorEq, Nat.reduceLeDiff, Int.reduceToNat, Int.reduceLT, Int.reduceLE, Int.reduceEq, Int.reduceNe, Int.reduceBEq, Int.reduceBNe, not_false_eq_true, not_true_eq_false, hP, c1, c2, c3, c4, c5, c6, c7]

end Go.Proofs.YthdhbdjhjfflnaaDoor

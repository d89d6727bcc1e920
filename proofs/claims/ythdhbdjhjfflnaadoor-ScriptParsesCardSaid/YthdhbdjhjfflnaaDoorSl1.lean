/-
  Contracts of Itoa at small numbers, and of the words of an event. Own work; no statement of the seat is proved here.
-/
import Derived.Test.YthdhbdjhjfflnaaDoorSl0
namespace Go.Proofs.YthdhbdjhjfflnaaDoor
set_option linter.unusedSimpArgs false
set_option linter.unusedVariables false
open Go Go.Abs Go.RowKit

def digS : List UInt8 := [48, 49, 50, 51, 52, 53, 54, 55, 56, 57, 97, 98, 99, 100, 101, 102, 103, 104, 105, 106, 107, 108, 109, 110, 111, 112, 113, 114, 115, 116, 117, 118, 119, 120, 121, 122]
theorem small_c (n : Nat) (h : n < 10) : FPure Tryd.prog 52 [.i n] (sv [digS.getD n 0]) := by
  have hc : ((n : Int) < 10) := by omega
  have hw := w_succ (i := n) (by omega)
  refine fpure_x hmix Tryd.func52 rfl (by kernel_rfl) Tryd.ntmps52 Tryd.results52 (by simp) (by simp [idsL, idsA]) [0, 2, 4] ?_; intro c hP h0 hE
  simp only [go_sem, Nat.reduceAdd, Nat.reduceMul, ↓reduceIte, reduceCtorEq, Nat.reduceLeDiff, Int.reduceToNat, Int.reduceLT, Int.reduceLE, Int.reduceEq, Int.reduceNe, Int.reduceBEq, Int.reduceBNe, not_false_eq_true, not_true_eq_false, hP, hc, hw]
  refine ⟨⟨by omega, by omega, by omega⟩, ?_⟩
  clear hE h0 hP hw hc
  match n, h with
  | 0, _ => rfl
  | 1, _ => rfl
  | 2, _ => rfl
  | 3, _ => rfl
  | 4, _ => rfl
  | 5, _ => rfl
  | 6, _ => rfl
  | 7, _ => rfl
  | 8, _ => rfl
  | 9, _ => rfl
theorem fmtInt_c (n : Nat) (h : n < 10) : FPure Tryd.prog 51 [.i n, .i 10] (sv [digS.getD n 0]) := by
  have hc : ((0 : Int) ≤ (n : Int)) := by omega
  have hc2 : ((n : Int) < 100) := by omega
  refine fpure_x hmix Tryd.func51 rfl (by kernel_rfl) Tryd.ntmps51 Tryd.results51 (by simp) (by simp [idsL, idsA]) [0, 1, 4, 5, 6, 7, 9, 11, 17, 23, 34] ?_; intro c hP h0 hE
  simp only [go_sem, Nat.reduceAdd, Nat.reduceMul, ↓reduceIte, reduceCtorEq, Nat.reduceLeDiff, Int.reduceToNat, Int.reduceLT, Int.reduceLE, Int.reduceEq, Int.reduceNe, Int.reduceBEq, Int.reduceBNe, not_false_eq_true, not_true_eq_false, hP, hc, hc2, decide_true]
  first | refine xw_call hE (ks := [0, 1, 4, 5, 6, 7, 9, 11, 17, 23, 34]) (n := 2000) (by rw [hP]; exact small_c n h) ?_ | refine xd_call hE (ks := [0, 1, 4, 5, 6, 7, 9, 11, 17, 23, 34]) (n := 2000) (by rw [hP]; exact small_c n h) ?_
  simp only [go_sem, Nat.reduceAdd, Nat.reduceMul, ↓reduceIte, reduceCtorEq, Nat.reduceLeDiff, Int.reduceToNat, Int.reduceLT, Int.reduceLE, Int.reduceEq, Int.reduceNe, Int.reduceBEq, Int.reduceBNe, not_false_eq_true, not_true_eq_false, hP]
theorem itoa0_c (n : Nat) (h : n < 10) : FPure Tryd.prog 44 [.i n] (sv [digS.getD n 0]) := by
  refine fpure_x hmix Tryd.func44 rfl (by kernel_rfl) Tryd.ntmps44 Tryd.results44 (by simp) (by simp [idsL, idsA]) [0, 2] ?_; intro c hP h0 hE
  simp only [go_sem, Nat.reduceAdd, Nat.reduceMul, ↓reduceIte, reduceCtorEq, Nat.reduceLeDiff, Int.reduceToNat, Int.reduceLT, Int.reduceLE, Int.reduceEq, Int.reduceNe, Int.reduceBEq, Int.reduceBNe, not_false_eq_true, not_true_eq_false, hP]
  first | refine xw_call hE (ks := [0, 2]) (n := 2000) (by rw [hP]; exact fmtInt_c n h) ?_ | refine xd_call hE (ks := [0, 2]) (n := 2000) (by rw [hP]; exact fmtInt_c n h) ?_
  simp only [go_sem, Nat.reduceAdd, Nat.reduceMul, ↓reduceIte, reduceCtorEq, Nat.reduceLeDiff, Int.reduceToNat, Int.reduceLT, Int.reduceLE, Int.reduceEq, Int.reduceNe, Int.reduceBEq, Int.reduceBNe, not_false_eq_true, not_true_eq_false, hP]
theorem itoa_c (n : Nat) (h : n < 10) : FPure Tryd.prog 35 [.i n] (sv [digS.getD n 0]) := by
  refine fpure_x hmix Tryd.func35 rfl (by kernel_rfl) Tryd.ntmps35 Tryd.results35 (by simp) (by simp [idsL, idsA]) [0, 2] ?_; intro c hP h0 hE
  simp only [go_sem, Nat.reduceAdd, Nat.reduceMul, ↓reduceIte, reduceCtorEq, Nat.reduceLeDiff, Int.reduceToNat, Int.reduceLT, Int.reduceLE, Int.reduceEq, Int.reduceNe, Int.reduceBEq, Int.reduceBNe, not_false_eq_true, not_true_eq_false, hP]
  first | refine xw_call hE (ks := [0, 2]) (n := 2000) (by rw [hP]; exact itoa0_c n h) ?_ | refine xd_call hE (ks := [0, 2]) (n := 2000) (by rw [hP]; exact itoa0_c n h) ?_
  simp only [go_sem, Nat.reduceAdd, Nat.reduceMul, ↓reduceIte, reduceCtorEq, Nat.reduceLeDiff, Int.reduceToNat, Int.reduceLT, Int.reduceLE, Int.reduceEq, Int.reduceNe, Int.reduceBEq, Int.reduceBNe, not_false_eq_true, not_true_eq_false, hP]

theorem takeN_c (e : Ev) (n : Nat) (hn : n < 10) (he : e.n = n) : Con Tryd.prog 27 [.ptr 0 0, .p (.v (.int .u8 78))] [(0, some ⟨evT, evC e⟩)] (.tup [sv [digS.getD n 0], .b true]) [(0, some ⟨evT, evC { e with n := 0 }⟩)] := by
  have hid := idsL_ev [0] e
  have hge : ((n : Int) ≥ 0) := by omega
  have hle : ((n : Int) ≤ 2147483647) := by omega
  refine con_x 1 hmix Tryd.func27 rfl (by kernel_rfl) Tryd.ntmps27 Tryd.results27 (by simp) rfl (by simp [idsL, idsA, liveK, *]) (by simp [idsH, idsL, liveK, *]) (fun i hi => by simp [liveK] at hi; simp [keys, hi]) [0, 1, 4, 5, 6, 7, 8, 12, 13, 18, 23, 29, 47, 48, 57, 61, 70, 79] ?_; intro c hP h0 hE
  clear hid
  simp only [go_sem, Nat.reduceAdd, Nat.reduceMul, ↓reduceIte, reduceCtorEq, Nat.reduceLeDiff, Int.reduceToNat, Int.reduceLT, Int.reduceLE, Int.reduceEq, Int.reduceNe, Int.reduceBEq, Int.reduceBNe, not_false_eq_true, not_true_eq_false, hP, he]
  first | refine xw_call hE (ks := [0, 1, 4, 5, 6, 7, 8, 12, 13, 18, 23, 29, 47, 48, 57, 61, 70, 79]) (n := 2000) (by rw [hP]; exact itoa_c n hn) ?_ | refine xd_call hE (ks := [0, 1, 4, 5, 6, 7, 8, 12, 13, 18, 23, 29, 47, 48, 57, 61, 70, 79]) (n := 2000) (by rw [hP]; exact itoa_c n hn) ?_
  simp only [go_sem, Nat.reduceAdd, Nat.reduceMul, ↓reduceIte, reduceCtorEq, Nat.reduceLeDiff, Int.reduceToNat, Int.reduceLT, Int.reduceLE, Int.reduceEq, Int.reduceNe, Int.reduceBEq, Int.reduceBNe, not_false_eq_true, not_true_eq_false, hP, hge, hle, decide_true]
  refine endC_T [0] rfl ?_ ?_ rfl rfl (fun i hi => by simp at hi; subst hi; exact ⟨rfl, by simp [keys]⟩) (fun i hi => by simp [liveK] at hi; simp; omega)
  · simp only [go_sem, Nat.reduceAdd, Nat.reduceMul, ↓reduceIte, reduceCtorEq, Nat.reduceLeDiff, Int.reduceToNat, Int.reduceLT, Int.reduceLE, Int.reduceEq, Int.reduceNe, Int.reduceBEq, Int.reduceBNe, not_false_eq_true, not_true_eq_false]
  · simp only [go_sem, Nat.reduceAdd, Nat.reduceMul, ↓reduceIte, reduceCtorEq, Nat.reduceLeDiff, Int.reduceToNat, Int.reduceLT, Int.reduceLE, Int.reduceEq, Int.reduceNe, Int.reduceBEq, Int.reduceBNe, not_false_eq_true, not_true_eq_false]
theorem takeW_c (e : Ev) (n : Nat) (hn : n < 10) (he : e.who = n) : Con Tryd.prog 27 [.ptr 0 0, .p (.v (.int .u8 87))] [(0, some ⟨evT, evC e⟩)] (.tup [sv [digS.getD n 0], .b true]) [(0, some ⟨evT, evC { e with who := 0 }⟩)] := by
  have hid := idsL_ev [0] e
  have hge : ((n : Int) ≥ 0) := by omega
  have hle : ((n : Int) ≤ 2147483647) := by omega
  refine con_x 1 hmix Tryd.func27 rfl (by kernel_rfl) Tryd.ntmps27 Tryd.results27 (by simp) rfl (by simp [idsL, idsA, liveK, *]) (by simp [idsH, idsL, liveK, *]) (fun i hi => by simp [liveK] at hi; simp [keys, hi]) [0, 1, 4, 5, 6, 7, 8, 12, 13, 18, 23, 29, 47, 48, 57, 61, 70, 79] ?_; intro c hP h0 hE
  clear hid
  simp only [go_sem, Nat.reduceAdd, Nat.reduceMul, ↓reduceIte, reduceCtorEq, Nat.reduceLeDiff, Int.reduceToNat, Int.reduceLT, Int.reduceLE, Int.reduceEq, Int.reduceNe, Int.reduceBEq, Int.reduceBNe, not_false_eq_true, not_true_eq_false, hP, he]
  first | refine xw_call hE (ks := [0, 1, 4, 5, 6, 7, 8, 12, 13, 18, 23, 29, 47, 48, 57, 61, 70, 79]) (n := 2000) (by rw [hP]; exact itoa_c n hn) ?_ | refine xd_call hE (ks := [0, 1, 4, 5, 6, 7, 8, 12, 13, 18, 23, 29, 47, 48, 57, 61, 70, 79]) (n := 2000) (by rw [hP]; exact itoa_c n hn) ?_
  simp only [go_sem, Nat.reduceAdd, Nat.reduceMul, ↓reduceIte, reduceCtorEq, Nat.reduceLeDiff, Int.reduceToNat, Int.reduceLT, Int.reduceLE, Int.reduceEq, Int.reduceNe, Int.reduceBEq, Int.reduceBNe, not_false_eq_true, not_true_eq_false, hP, hge, hle, decide_true]
  refine endC_T [0] rfl ?_ ?_ rfl rfl (fun i hi => by simp at hi; subst hi; exact ⟨rfl, by simp [keys]⟩) (fun i hi => by simp [liveK] at hi; simp; omega)
  · simp only [go_sem, Nat.reduceAdd, Nat.reduceMul, ↓reduceIte, reduceCtorEq, Nat.reduceLeDiff, Int.reduceToNat, Int.reduceLT, Int.reduceLE, Int.reduceEq, Int.reduceNe, Int.reduceBEq, Int.reduceBNe, not_false_eq_true, not_true_eq_false]
  · simp only [go_sem, Nat.reduceAdd, Nat.reduceMul, ↓reduceIte, reduceCtorEq, Nat.reduceLeDiff, Int.reduceToNat, Int.reduceLT, Int.reduceLE, Int.reduceEq, Int.reduceNe, Int.reduceBEq, Int.reduceBNe, not_false_eq_true, not_true_eq_false]

theorem sindex_c (s : List UInt8) (k : UInt8) : FPure Tryd.prog 43 [sv s, sv [k]] (.i (ixM k s)) := by
  refine fpure_x hmix Tryd.func43 rfl (by kernel_rfl) Tryd.ntmps43 Tryd.results43 (by simp) (by simp [idsL, idsA]) [0, 1, 4] ?_; intro c hP h0 hE
  simp only [go_sem, Nat.reduceAdd, Nat.reduceMul, ↓reduceIte, reduceCtorEq, Nat.reduceLeDiff, Int.reduceToNat, Int.reduceLT, Int.reduceLE, Int.reduceEq, Int.reduceNe, Int.reduceBEq, Int.reduceBNe, not_false_eq_true, not_true_eq_false, hP]
  first | refine xw_call hE (ks := [0, 1, 4]) (n := 2000) (by rw [hP]; exact ix_c s k) ?_ | refine xd_call hE (ks := [0, 1, 4]) (n := 2000) (by rw [hP]; exact ix_c s k) ?_
  simp only [go_sem, Nat.reduceAdd, Nat.reduceMul, ↓reduceIte, reduceCtorEq, Nat.reduceLeDiff, Int.reduceToNat, Int.reduceLT, Int.reduceLE, Int.reduceEq, Int.reduceNe, Int.reduceBEq, Int.reduceBNe, not_false_eq_true, not_true_eq_false, hP]
theorem contains_c (s : List UInt8) (k : UInt8) (h : k ∉ s) : FPure Tryd.prog 34 [sv s, sv [k]] (.b false) := by
  have hx : ixM k s = -1 := by unfold ixM; rw [List.idxOf_eq_length h, if_neg (Nat.lt_irrefl _)]
  have hz : ¬ ((-1 : Int) ≥ 0) := by omega
  refine fpure_x hmix Tryd.func34 rfl (by kernel_rfl) Tryd.ntmps34 Tryd.results34 (by simp) (by simp [idsL, idsA]) [0, 1, 4] ?_; intro c hP h0 hE
  simp only [go_sem, Nat.reduceAdd, Nat.reduceMul, ↓reduceIte, reduceCtorEq, Nat.reduceLeDiff, Int.reduceToNat, Int.reduceLT, Int.reduceLE, Int.reduceEq, Int.reduceNe, Int.reduceBEq, Int.reduceBNe, not_false_eq_true, not_true_eq_false, hP]
  first | refine xw_call hE (ks := [0, 1, 4]) (n := 2000) (by rw [hP]; exact sindex_c s k) ?_ | refine xd_call hE (ks := [0, 1, 4]) (n := 2000) (by rw [hP]; exact sindex_c s k) ?_
  rw [hx]
  simp only [go_sem, Nat.reduceAdd, Nat.reduceMul, ↓reduceIte, reduceCtorEq, Nat.reduceLeDiff, Int.reduceToNat, Int.reduceLT, Int.reduceLE, Int.reduceEq, Int.reduceNe, Int.reduceBEq, Int.reduceBNe, not_false_eq_true, not_true_eq_false, hP, hz, decide_false]
theorem takeX_c (e : Ev) (h : (10 : UInt8) ∉ e.text) : Con Tryd.prog 27 [.ptr 0 0, .p (.v (.int .u8 88))] [(0, some ⟨evT, evC e⟩)] (.tup [sv e.text, .b true]) [(0, some ⟨evT, evC { e with text := [] }⟩)] := by
  have hid := idsL_ev [0] e
  refine con_x 1 hmix Tryd.func27 rfl (by kernel_rfl) Tryd.ntmps27 Tryd.results27 (by simp) rfl (by simp [idsL, idsA, liveK, *]) (by simp [idsH, idsL, liveK, *]) (fun i hi => by simp [liveK] at hi; simp [keys, hi]) [0, 1, 4, 5, 6, 7, 8, 12, 13, 18, 23, 29, 47, 48, 57, 61, 70, 79] ?_; intro c hP h0 hE
  clear hid
  simp only [go_sem, Nat.reduceAdd, Nat.reduceMul, ↓reduceIte, reduceCtorEq, Nat.reduceLeDiff, Int.reduceToNat, Int.reduceLT, Int.reduceLE, Int.reduceEq, Int.reduceNe, Int.reduceBEq, Int.reduceBNe, not_false_eq_true, not_true_eq_false, hP]
  first | refine xw_call hE (ks := [0, 1, 4, 5, 6, 7, 8, 12, 13, 18, 23, 29, 47, 48, 57, 61, 70, 79]) (n := 2000) (by rw [hP]; exact contains_c e.text 10 h) ?_ | refine xd_call hE (ks := [0, 1, 4, 5, 6, 7, 8, 12, 13, 18, 23, 29, 47, 48, 57, 61, 70, 79]) (n := 2000) (by rw [hP]; exact contains_c e.text 10 h) ?_
  simp only [go_sem, Nat.reduceAdd, Nat.reduceMul, ↓reduceIte, reduceCtorEq, Nat.reduceLeDiff, Int.reduceToNat, Int.reduceLT, Int.reduceLE, Int.reduceEq, Int.reduceNe, Int.reduceBEq, Int.reduceBNe, not_false_eq_true, not_true_eq_false, hP]
  refine endC_T [0] rfl ?_ ?_ rfl rfl (fun i hi => by simp at hi; subst hi; exact ⟨rfl, by simp [keys]⟩) (fun i hi => by simp [liveK] at hi; simp; omega)
  · simp only [go_sem, Nat.reduceAdd, Nat.reduceMul, ↓reduceIte, reduceCtorEq, Nat.reduceLeDiff, Int.reduceToNat, Int.reduceLT, Int.reduceLE, Int.reduceEq, Int.reduceNe, Int.reduceBEq, Int.reduceBNe, not_false_eq_true, not_true_eq_false]
  · simp only [go_sem, Nat.reduceAdd, Nat.reduceMul, ↓reduceIte, reduceCtorEq, Nat.reduceLeDiff, Int.reduceToNat, Int.reduceLT, Int.reduceLE, Int.reduceEq, Int.reduceNe, Int.reduceBEq, Int.reduceBNe, not_false_eq_true, not_true_eq_false]
theorem takeM_c (e : Ev) (h : e.b = -1) : Con Tryd.prog 27 [.ptr 0 0, .p (.v (.int .u8 77))] [(0, some ⟨evT, evC e⟩)] (.tup [sv [45], .b true]) [(0, some ⟨evT, evC { e with b := 0 }⟩)] := by
  have hid := idsL_ev [0] e
  refine con_x 1 hmix Tryd.func27 rfl (by kernel_rfl) Tryd.ntmps27 Tryd.results27 (by simp) rfl (by simp [idsL, idsA, liveK, *]) (by simp [idsH, idsL, liveK, *]) (fun i hi => by simp [liveK] at hi; simp [keys, hi]) [0, 1, 4, 5, 6, 7, 8, 12, 13, 18, 23, 29, 47, 48, 57, 61, 70, 79] ?_; intro c hP h0 hE
  clear hid
  simp only [go_sem, Nat.reduceAdd, Nat.reduceMul, ↓reduceIte, reduceCtorEq, Nat.reduceLeDiff, Int.reduceToNat, Int.reduceLT, Int.reduceLE, Int.reduceEq, Int.reduceNe, Int.reduceBEq, Int.reduceBNe, not_false_eq_true, not_true_eq_false, hP, h]
  refine endC_T [0] rfl ?_ ?_ rfl rfl (fun i hi => by simp at hi; subst hi; exact ⟨rfl, by simp [keys]⟩) (fun i hi => by simp [liveK] at hi; simp; omega)
  · simp only [go_sem, Nat.reduceAdd, Nat.reduceMul, ↓reduceIte, reduceCtorEq, Nat.reduceLeDiff, Int.reduceToNat, Int.reduceLT, Int.reduceLE, Int.reduceEq, Int.reduceNe, Int.reduceBEq, Int.reduceBNe, not_false_eq_true, not_true_eq_false]
  · simp only [go_sem, Nat.reduceAdd, Nat.reduceMul, ↓reduceIte, reduceCtorEq, Nat.reduceLeDiff, Int.reduceToNat, Int.reduceLT, Int.reduceLE, Int.reduceEq, Int.reduceNe, Int.reduceBEq, Int.reduceBNe, not_false_eq_true, not_true_eq_false]
theorem takeC_c (e : Ev) (h : e.n = 3) : Con Tryd.prog 27 [.ptr 0 0, .p (.v (.int .u8 67))] [(0, some ⟨evT, evC e⟩)] (.tup [sv (callsM.getD 2 []), .b true]) [(0, some ⟨evT, evC { e with n := 0 }⟩)] := by
  have hid := idsL_ev [0] e
  have hw : IntKind.i64.wrap ((3 : Int) - 1) = 2 := by decide
  have hz : ¬ ((2 : Int) ≥ 7) := by omega
  refine con_x 1 hmix Tryd.func27 rfl (by kernel_rfl) Tryd.ntmps27 Tryd.results27 (by simp) rfl (by simp [idsL, idsA, liveK, *]) (by simp [idsH, idsL, liveK, *]) (fun i hi => by simp [liveK] at hi; simp [keys, hi]) [0, 1, 4, 5, 6, 7, 8, 12, 13, 18, 23, 29, 47, 48, 57, 61, 70, 79] ?_; intro c hP h0 hE
  clear hid
  have hh : headP (PV.v undef) (List.drop 2 (List.map PV.v callsV)) = PV.v (.string ⟨(callsM.getD 2 []).toArray⟩) := rfl
  simp only [go_sem, Nat.reduceAdd, Nat.reduceMul, ↓reduceIte, reduceCtorEq, Nat.reduceLeDiff, Int.reduceToNat, Int.reduceLT, Int.reduceLE, Int.reduceEq, Int.reduceNe, Int.reduceBEq, Int.reduceBNe, not_false_eq_true, not_true_eq_false, hP, h, hw, hz, decide_false, callsV_len, hh]
  refine ⟨by omega, endC_T [0] rfl ?_ ?_ rfl rfl (fun i hi => by simp at hi; subst hi; exact ⟨rfl, by simp [keys]⟩) (fun i hi => by simp [liveK] at hi; simp; omega)⟩
  · simp only [go_sem, Nat.reduceAdd, Nat.reduceMul, ↓reduceIte, reduceCtorEq, Nat.reduceLeDiff, Int.reduceToNat, Int.reduceLT, Int.reduceLE, Int.reduceEq, Int.reduceNe, Int.reduceBEq, Int.reduceBNe, not_false_eq_true, not_true_eq_false]
  · simp only [go_sem, Nat.reduceAdd, Nat.reduceMul, ↓reduceIte, reduceCtorEq, Nat.reduceLeDiff, Int.reduceToNat, Int.reduceLT, Int.reduceLE, Int.reduceEq, Int.reduceNe, Int.reduceBEq, Int.reduceBNe, not_false_eq_true, not_true_eq_false]

set_option maxHeartbeats 4000000 in
set_option maxRecDepth 20000 in
theorem blank_c (k : Int) : FPure Tryd.prog 28 [evA ⟨k, 0, 0, 0, 0, []⟩] (.b true) := by
  have hid := idsL_ev [] ⟨k, 0, 0, 0, 0, []⟩
  refine fpure_x hmix Tryd.func28 rfl (by kernel_rfl) Tryd.ntmps28 Tryd.results28 (by simp) (by simp [idsL, idsA, *]) [0, 1, 2, 3, 4, 27, 87] ?_; intro c hP h0 hE
  clear hid
  simp only [go_sem, Nat.reduceAdd, Nat.reduceMul, ↓reduceIte, reduceCtorEq, Nat.reduceLeDiff, Int.reduceToNat, Int.reduceLT, Int.reduceLE, Int.reduceEq, Int.reduceNe, Int.reduceBEq, Int.reduceBNe, not_false_eq_true, not_true_eq_false, hP, evC, BEq.rfl, List.append_eq]
  done

end Go.Proofs.YthdhbdjhjfflnaaDoor

/-
  Contracts of strings.Builder. Own work; no statement of the seat is proved here.
-/
import Derived.Test.YthdhbdjhjfflnaaDoorSk
namespace Go.Proofs.YthdhbdjhjfflnaaDoor
set_option linter.unusedSimpArgs false
set_option linter.unusedVariables false
open Go Go.Abs Go.RowKit

abbrev bldT : Nat := 55
abbrev byT : Nat := 5
theorem noesc_c (k : Blk) (hk : idsL [0] k.cs) : Con Tryd.prog 36 [.ptr 0 0] [(0, some k)] (.ptr 0 0) [(0, some k)] where
  call := ⟨fun ρ F us w hpre hz hr => by
    have h0 := hr 0 _ rfl
    have hu : us = #[us.getD 0 undef] := by
      apply Array.ext'
      match us, hz with
      | ⟨[a]⟩, _ => simp
    rw [hu]
    refine .inr ⟨us.getD 0 undef, w, ?_, ρ, F, ⟨fun _ _ h => h, fun i h1 h2 => absurd h1 h2, fun i b h1 h2 => (by rw [h1] at h2; cases h2), h0, ?_, hpre.fok, Chg.refl _ _ _⟩⟩
    · rw [run_callFunc_extern Tryd.func36 (by kernel_rfl) (by kernel_rfl) (by kernel_rfl) (e := Extern.AbiNoEscape.same) (by kernel_rfl), Lib.run_noEscape]
      rfl
    · have e : restr (liveK [(0, some k)] ++ keys [(0, some k)]) (updH [(0, some k)] (hget [(0, some k)])) = restr (liveK [(0, some k)]) (hget [(0, some k)]) := by
        funext i
        by_cases h : i = 0
        · subst h; simp [restr, updH, keys, liveK, hget]
        · simp [restr, updH, keys, liveK, h]
      rw [e]
      exact hpre.hp⟩
  ids := by simp [idsL, idsA, liveK]
  idh := by simp only [idsH, liveK]; exact ⟨hk, trivial⟩
  sub := fun i hi => by simp [liveK] at hi; simp [keys, hi]

theorem copy0_c (b : List UInt8) : Con Tryd.prog 29 [.ptr 0 0] [(0, some ⟨bldT, [.ptr 0 0, .sl 1 0 b.length 1]⟩), (1, some ⟨byT, (b.map bt).map .p⟩)] (.tup []) [(0, some ⟨bldT, [.ptr 0 0, .sl 1 0 b.length 1]⟩), (1, some ⟨byT, (b.map bt).map .p⟩)] := by
  refine con_x 2 hmix Tryd.func29 rfl (by kernel_rfl) Tryd.ntmps29 Tryd.results29 (by simp) rfl (by simp [idsL, idsA, liveK]) ?_ (fun i hi => by simp [liveK] at hi; simp [keys, hi]) [0, 6, 19] ?_
  · simp only [idsH, idsL, idsA, liveK]
    exact ⟨by simp, idsL_map _ _, trivial⟩
  intro c hP h0 hE
  simp only [go_sem, Nat.reduceAdd, Nat.reduceMul, ↓reduceIte, reduceCtorEq, Nat.reduceLeDiff, Int.reduceToNat, Int.reduceLT, Int.reduceLE, Int.reduceEq, Int.reduceNe, Int.reduceBEq, Int.reduceBNe, not_false_eq_true, not_true_eq_false, hP]
  refine endC_T [0, 1] rfl ?_ ?_ rfl rfl (fun i hi => by simp at hi; rcases hi with rfl | rfl <;> exact ⟨rfl, by simp [keys]⟩) (fun i hi => by simp [liveK] at hi; simp; omega)
  · simp only [go_sem, Nat.reduceAdd, Nat.reduceMul, ↓reduceIte, reduceCtorEq, Nat.reduceLeDiff, Int.reduceToNat, Int.reduceLT, Int.reduceLE, Int.reduceEq, Int.reduceNe, Int.reduceBEq, Int.reduceBNe, not_false_eq_true, not_true_eq_false]
  · simp only [go_sem, Nat.reduceAdd, Nat.reduceMul, ↓reduceIte, reduceCtorEq, Nat.reduceLeDiff, Int.reduceToNat, Int.reduceLT, Int.reduceLE, Int.reduceEq, Int.reduceNe, Int.reduceBEq, Int.reduceBNe, not_false_eq_true, not_true_eq_false]
    exact viewAs_pure _ _ _ _

theorem copy1_c : Con Tryd.prog 29 [.ptr 0 0] [(0, some ⟨bldT, [.p (.v (.pointer none)), .p (.v (.slice none 0 0))]⟩)] (.tup []) [(0, some ⟨bldT, [.ptr 0 0, .p (.v (.slice none 0 0))]⟩)] := by
  refine con_x 1 hmix Tryd.func29 rfl (by kernel_rfl) Tryd.ntmps29 Tryd.results29 (by simp) rfl (by simp [idsL, idsA, liveK]) (by simp [idsH, idsL, idsA]) (fun i hi => by simp [liveK] at hi; simp [keys, hi]) [0, 6, 19] ?_; intro c hP h0 hE
  simp only [go_sem, Nat.reduceAdd, Nat.reduceMul, ↓reduceIte, reduceCtorEq, Nat.reduceLeDiff, Int.reduceToNat, Int.reduceLT, Int.reduceLE, Int.reduceEq, Int.reduceNe, Int.reduceBEq, Int.reduceBNe, not_false_eq_true, not_true_eq_false, hP]
  refine xw_con hE (ks := [0, 6, 19]) (n := 2000) [] (fun i => i) 1 (by rw [hP]; exact noesc_c ⟨bldT, [.p (.v (.pointer none)), .p (.v (.slice none 0 0))]⟩ (by simp [idsL, idsA])) ⟨by simp only [go_sem, Nat.reduceAdd, Nat.reduceMul, ↓reduceIte, reduceCtorEq, Nat.reduceLeDiff, Int.reduceToNat, Int.reduceLT, Int.reduceLE, Int.reduceEq, Int.reduceNe, Int.reduceBEq, Int.reduceBNe, not_false_eq_true, not_true_eq_false], by simp only [go_sem, Nat.reduceAdd, Nat.reduceMul, ↓reduceIte, reduceCtorEq, Nat.reduceLeDiff, Int.reduceToNat, Int.reduceLT, Int.reduceLE, Int.reduceEq, Int.reduceNe, Int.reduceBEq, Int.reduceBNe, not_false_eq_true, not_true_eq_false], rfl, trivial, Nat.le_of_ble_eq_true rfl, fun i hi => .inl (by simp [keys] at hi; simp [liveK, hi]), by simp [idsA, keys], by simp [idsH, idsL, idsA], rfl⟩ ?_
  simp only [go_sem, Nat.reduceAdd, Nat.reduceMul, ↓reduceIte, reduceCtorEq, Nat.reduceLeDiff, Int.reduceToNat, Int.reduceLT, Int.reduceLE, Int.reduceEq, Int.reduceNe, Int.reduceBEq, Int.reduceBNe, not_false_eq_true, not_true_eq_false, hP]
  refine endC_T [0] rfl ?_ ?_ rfl rfl (fun i hi => by simp at hi; subst hi; exact ⟨rfl, by simp [keys]⟩) (fun i hi => by simp [liveK] at hi; simp; omega)
  · simp only [go_sem, Nat.reduceAdd, Nat.reduceMul, ↓reduceIte, reduceCtorEq, Nat.reduceLeDiff, Int.reduceToNat, Int.reduceLT, Int.reduceLE, Int.reduceEq, Int.reduceNe, Int.reduceBEq, Int.reduceBNe, not_false_eq_true, not_true_eq_false]
  · simp only [go_sem, Nat.reduceAdd, Nat.reduceMul, ↓reduceIte, reduceCtorEq, Nat.reduceLeDiff, Int.reduceToNat, Int.reduceLT, Int.reduceLE, Int.reduceEq, Int.reduceNe, Int.reduceBEq, Int.reduceBNe, not_false_eq_true, not_true_eq_false]

theorem ws1_c (s : List UInt8) (hs : s.length < 1000000) : Con Tryd.prog 18 [.ptr 0 0, sv s] [(0, some ⟨bldT, [.p (.v (.pointer none)), .p (.v (.slice none 0 0))]⟩)] (.tup [.i s.length, .p (.v .nilIface)]) [(0, some ⟨bldT, [.ptr 0 0, .sl 1 0 s.length 1]⟩), (1, some ⟨byT, (s.map bt).map .p⟩)] := by
  refine con_x 1 hmix Tryd.func18 rfl (by kernel_rfl) Tryd.ntmps18 Tryd.results18 (by simp) rfl (by simp [idsL, idsA, liveK]) (by simp [idsH, idsL, idsA]) (fun i hi => by simp [liveK] at hi; simp [keys, hi]) [0, 1, 4, 5] ?_; intro c hP h0 hE
  simp only [go_sem, Nat.reduceAdd, Nat.reduceMul, ↓reduceIte, reduceCtorEq, Nat.reduceLeDiff, Int.reduceToNat, Int.reduceLT, Int.reduceLE, Int.reduceEq, Int.reduceNe, Int.reduceBEq, Int.reduceBNe, not_false_eq_true, not_true_eq_false, hP]
  refine xw_con hE (ks := [0, 1, 4, 5]) (n := 2000) [] (fun i => i) 1 (by rw [hP]; exact copy1_c) ⟨by simp only [go_sem, Nat.reduceAdd, Nat.reduceMul, ↓reduceIte, reduceCtorEq, Nat.reduceLeDiff, Int.reduceToNat, Int.reduceLT, Int.reduceLE, Int.reduceEq, Int.reduceNe, Int.reduceBEq, Int.reduceBNe, not_false_eq_true, not_true_eq_false], by simp only [go_sem, Nat.reduceAdd, Nat.reduceMul, ↓reduceIte, reduceCtorEq, Nat.reduceLeDiff, Int.reduceToNat, Int.reduceLT, Int.reduceLE, Int.reduceEq, Int.reduceNe, Int.reduceBEq, Int.reduceBNe, not_false_eq_true, not_true_eq_false], rfl, trivial, Nat.le_of_ble_eq_true rfl, fun i hi => .inl (by simp [keys] at hi; simp [liveK, hi]), by simp [idsA, idsL], by simp [idsH, idsL, idsA, keys], rfl⟩ ?_
  simp only [go_sem, Nat.reduceAdd, Nat.reduceMul, ↓reduceIte, reduceCtorEq, Nat.reduceLeDiff, Int.reduceToNat, Int.reduceLT, Int.reduceLE, Int.reduceEq, Int.reduceNe, Int.reduceBEq, Int.reduceBNe, not_false_eq_true, not_true_eq_false, hP]
  refine ⟨⟨by omega, by omega⟩, endC_T [0, 1] rfl ?_ ?_ rfl rfl (fun i hi => by simp at hi; subst hi; exact ⟨rfl, by simp [keys]⟩) (fun i hi => by simp [liveK] at hi; simp; omega)⟩
  · simp only [go_sem, Nat.reduceAdd, Nat.reduceMul, ↓reduceIte, reduceCtorEq, Nat.reduceLeDiff, Int.reduceToNat, Int.reduceLT, Int.reduceLE, Int.reduceEq, Int.reduceNe, Int.reduceBEq, Int.reduceBNe, not_false_eq_true, not_true_eq_false]
  · simp only [go_sem, Nat.reduceAdd, Nat.reduceMul, ↓reduceIte, reduceCtorEq, Nat.reduceLeDiff, Int.reduceToNat, Int.reduceLT, Int.reduceLE, Int.reduceEq, Int.reduceNe, Int.reduceBEq, Int.reduceBNe, not_false_eq_true, not_true_eq_false]
    exact viewAs_pure _ _ _ _
theorem wsN_c (b s : List UInt8) (hs : s.length < 1000000) (hb : b.length < 1000000) : Con Tryd.prog 18 [.ptr 0 0, sv s] [(0, some ⟨bldT, [.ptr 0 0, .sl 1 0 b.length 1]⟩), (1, some ⟨byT, (b.map bt).map .p⟩)] (.tup [.i s.length, .p (.v .nilIface)]) [(0, some ⟨bldT, [.ptr 0 0, .sl 2 0 (b ++ s).length 1]⟩), (1, none), (2, some ⟨byT, ((b ++ s).map bt).map .p⟩)] := by
  refine con_x 2 hmix Tryd.func18 rfl (by kernel_rfl) Tryd.ntmps18 Tryd.results18 (by simp) rfl (by simp [idsL, idsA, liveK]) ?_ (fun i hi => by simp [liveK] at hi; simp [keys]; omega) [0, 1, 4, 5] ?_
  · simp only [idsH, idsL, idsA, liveK]
    exact ⟨by simp, idsL_map _ _, trivial⟩
  intro c hP h0 hE
  simp only [go_sem, Nat.reduceAdd, Nat.reduceMul, ↓reduceIte, reduceCtorEq, Nat.reduceLeDiff, Int.reduceToNat, Int.reduceLT, Int.reduceLE, Int.reduceEq, Int.reduceNe, Int.reduceBEq, Int.reduceBNe, not_false_eq_true, not_true_eq_false, hP]
  refine xw_con hE (ks := [0, 1, 4, 5]) (n := 2000) [] (fun i => i) 2 (by rw [hP]; exact copy0_c b) ⟨by simp only [go_sem, Nat.reduceAdd, Nat.reduceMul, ↓reduceIte, reduceCtorEq, Nat.reduceLeDiff, Int.reduceToNat, Int.reduceLT, Int.reduceLE, Int.reduceEq, Int.reduceNe, Int.reduceBEq, Int.reduceBNe, not_false_eq_true, not_true_eq_false], ?_, rfl, trivial, Nat.le_of_ble_eq_true rfl, fun i hi => .inl (by simp [keys] at hi; simp [liveK, hi]), by simp [idsA, idsL], ?_, rfl⟩ ?_
  · simp only [go_sem, Nat.reduceAdd, Nat.reduceMul, ↓reduceIte, reduceCtorEq, Nat.reduceLeDiff, Int.reduceToNat, Int.reduceLT, Int.reduceLE, Int.reduceEq, Int.reduceNe, Int.reduceBEq, Int.reduceBNe, not_false_eq_true, not_true_eq_false]
    exact viewAs_pure _ _ _ _
  · simp only [idsH, idsL, idsA, keys, List.map_cons, List.map_nil]
    exact ⟨by simp, idsL_map _ _, trivial⟩
  have hren : renL (fun i => i) ((b.map bt).map .p) = (b.map bt).map .p := renL_map _ _
  simp only [go_sem, Nat.reduceAdd, Nat.reduceMul, ↓reduceIte, reduceCtorEq, Nat.reduceLeDiff, Int.reduceToNat, Int.reduceLT, Int.reduceLE, Int.reduceEq, Int.reduceNe, Int.reduceBEq, Int.reduceBNe, not_false_eq_true, not_true_eq_false, hP, hren]
  refine ⟨⟨by omega, by omega⟩, endC_D [0, 99, 2] rfl ?_ ?_ rfl rfl (fun i hi => by simp at hi; rcases hi with rfl | rfl <;> simp [liveK, keys, sg]) (fun i hi => ?_)⟩
  · simp only [go_sem, Nat.reduceAdd, Nat.reduceMul, ↓reduceIte, reduceCtorEq, Nat.reduceLeDiff, Int.reduceToNat, Int.reduceLT, Int.reduceLE, Int.reduceEq, Int.reduceNe, Int.reduceBEq, Int.reduceBNe, not_false_eq_true, not_true_eq_false]
  · simp only [go_sem, Nat.reduceAdd, Nat.reduceMul, ↓reduceIte, reduceCtorEq, Nat.reduceLeDiff, Int.reduceToNat, Int.reduceLT, Int.reduceLE, Int.reduceEq, Int.reduceNe, Int.reduceBEq, Int.reduceBNe, not_false_eq_true, not_true_eq_false]
    rw [List.map_append, List.map_append]
    exact viewAs_app _ _ (viewAs_pure _ _ _ _) (viewAs_pure _ _ _ _)
  · simp only [liveK, List.mem_cons, List.not_mem_nil, or_false, not_or] at hi
    match i, hi with
    | 1, _ => simp [sg]
    | i + 3, _ => simp [sg]; omega
theorem wbN_c (b : List UInt8) (k : UInt8) (hb : b.length < 1000000) : Con Tryd.prog 19 [.ptr 0 0, .p (.v (.int .u8 (k.toNat : Int)))] [(0, some ⟨bldT, [.ptr 0 0, .sl 1 0 b.length 1]⟩), (1, some ⟨byT, (b.map bt).map .p⟩)] (.p (.v .nilIface)) [(0, some ⟨bldT, [.ptr 0 0, .sl 2 0 (b ++ [k]).length 1]⟩), (1, none), (2, some ⟨byT, ((b ++ [k]).map bt).map .p⟩)] := by
  refine con_x 2 hmix Tryd.func19 rfl (by kernel_rfl) Tryd.ntmps19 Tryd.results19 (by simp) rfl (by simp [idsL, idsA, liveK]) ?_ (fun i hi => by simp [liveK] at hi; simp [keys]; omega) [0, 1, 4] ?_
  · simp only [idsH, idsL, idsA, liveK]
    exact ⟨by simp, idsL_map _ _, trivial⟩
  intro c hP h0 hE
  simp only [go_sem, Nat.reduceAdd, Nat.reduceMul, ↓reduceIte, reduceCtorEq, Nat.reduceLeDiff, Int.reduceToNat, Int.reduceLT, Int.reduceLE, Int.reduceEq, Int.reduceNe, Int.reduceBEq, Int.reduceBNe, not_false_eq_true, not_true_eq_false, hP]
  refine xw_con hE (ks := [0, 1, 4]) (n := 2000) [] (fun i => i) 2 (by rw [hP]; exact copy0_c b) ⟨by simp only [go_sem, Nat.reduceAdd, Nat.reduceMul, ↓reduceIte, reduceCtorEq, Nat.reduceLeDiff, Int.reduceToNat, Int.reduceLT, Int.reduceLE, Int.reduceEq, Int.reduceNe, Int.reduceBEq, Int.reduceBNe, not_false_eq_true, not_true_eq_false], ?_, rfl, trivial, Nat.le_of_ble_eq_true rfl, fun i hi => .inl (by simp [keys] at hi; simp [liveK, hi]), by simp [idsA, idsL], ?_, rfl⟩ ?_
  · simp only [go_sem, Nat.reduceAdd, Nat.reduceMul, ↓reduceIte, reduceCtorEq, Nat.reduceLeDiff, Int.reduceToNat, Int.reduceLT, Int.reduceLE, Int.reduceEq, Int.reduceNe, Int.reduceBEq, Int.reduceBNe, not_false_eq_true, not_true_eq_false]
    exact viewAs_pure _ _ _ _
  · simp only [idsH, idsL, idsA, keys, List.map_cons, List.map_nil]
    exact ⟨by simp, idsL_map _ _, trivial⟩
  have hren : renL (fun i => i) ((b.map bt).map .p) = (b.map bt).map .p := renL_map _ _
  simp only [go_sem, Nat.reduceAdd, Nat.reduceMul, ↓reduceIte, reduceCtorEq, Nat.reduceLeDiff, Int.reduceToNat, Int.reduceLT, Int.reduceLE, Int.reduceEq, Int.reduceNe, Int.reduceBEq, Int.reduceBNe, not_false_eq_true, not_true_eq_false, hP, hren]
  refine ⟨⟨by omega, by omega⟩, endC_D [0, 99, 3] rfl ?_ ?_ rfl rfl (fun i hi => by simp at hi; rcases hi with rfl | rfl <;> simp [liveK, keys, sg]) (fun i hi => ?_)⟩
  · simp only [go_sem, Nat.reduceAdd, Nat.reduceMul, ↓reduceIte, reduceCtorEq, Nat.reduceLeDiff, Int.reduceToNat, Int.reduceLT, Int.reduceLE, Int.reduceEq, Int.reduceNe, Int.reduceBEq, Int.reduceBNe, not_false_eq_true, not_true_eq_false]
  · simp only [go_sem, Nat.reduceAdd, Nat.reduceMul, ↓reduceIte, reduceCtorEq, Nat.reduceLeDiff, Int.reduceToNat, Int.reduceLT, Int.reduceLE, Int.reduceEq, Int.reduceNe, Int.reduceBEq, Int.reduceBNe, not_false_eq_true, not_true_eq_false]
    rw [List.map_append, List.map_append]
    exact viewAs_app _ _ (viewAs_pure _ _ _ _) (viewAs_pure _ _ _ _)
  · simp only [liveK, List.mem_cons, List.not_mem_nil, or_false, not_or] at hi
    match i, hi with
    | 1, _ => simp [sg]
    | i + 3, _ => simp [sg]; omega
theorem bstr_c (b : List UInt8) (hb : b.length < 1000000) (h1 : 1 ≤ b.length) : Con Tryd.prog 20 [.ptr 0 0] [(0, some ⟨bldT, [.ptr 0 0, .sl 1 0 b.length 1]⟩), (1, some ⟨byT, (b.map bt).map .p⟩)] (sv b) [(0, none), (1, none)] := by
  refine con_x 2 hmix Tryd.func20 rfl (by kernel_rfl) Tryd.ntmps20 Tryd.results20 (by simp) rfl (by simp [idsL, idsA, liveK]) ?_ (fun i hi => by simp [liveK] at hi; simp [keys, hi]) [0, 2] ?_
  · simp only [idsH, idsL, idsA, liveK]
    exact ⟨by simp, idsL_map _ _, trivial⟩
  intro c hP h0 hE
  simp only [go_sem, Nat.reduceAdd, Nat.reduceMul, ↓reduceIte, reduceCtorEq, Nat.reduceLeDiff, Int.reduceToNat, Int.reduceLT, Int.reduceLE, Int.reduceEq, Int.reduceNe, Int.reduceBEq, Int.reduceBNe, not_false_eq_true, not_true_eq_false, hP]
  have e1 : ((b.map bt).map AV.p).take b.length = (b.map bt).map AV.p := List.take_of_length_le (by simp)
  have e2 : unPs ((b.map bt).map AV.p) = b.map bt := by simp [unPs, unP]
  rw [e1, e2]
  refine ⟨h1, ⟨by omega, Nat.le_refl _, by omega, ?_, allB_bt b⟩, by kernel_rfl, endC_D [98, 99] rfl ?_ ?_ rfl rfl (fun i hi => by simp at hi; rcases hi with rfl | rfl <;> simp [liveK, keys]) (fun i hi => ?_)⟩
  · intro c hc
    obtain ⟨x, _, rfl⟩ := List.mem_map.1 hc
    trivial
  · simp only [go_sem, Nat.reduceAdd, Nat.reduceMul, ↓reduceIte, reduceCtorEq, Nat.reduceLeDiff, Int.reduceToNat, Int.reduceLT, Int.reduceLE, Int.reduceEq, Int.reduceNe, Int.reduceBEq, Int.reduceBNe, not_false_eq_true, not_true_eq_false, unBs_bt, Abs.strOf]
  · simp only [go_sem, Nat.reduceAdd, Nat.reduceMul, ↓reduceIte, reduceCtorEq, Nat.reduceLeDiff, Int.reduceToNat, Int.reduceLT, Int.reduceLE, Int.reduceEq, Int.reduceNe, Int.reduceBEq, Int.reduceBNe, not_false_eq_true, not_true_eq_false]
  · match i with
    | 0 => simp [sg]
    | 1 => simp [sg]
    | i + 2 => simp [sg]; omega

end Go.Proofs.YthdhbdjhjfflnaaDoor

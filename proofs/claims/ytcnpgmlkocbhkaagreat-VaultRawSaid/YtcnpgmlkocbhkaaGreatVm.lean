/-
  Contract of the law's own helper pairs (package passkeylaw9). Own work; no statement of the seat is proved here.
-/
import Derived.Test.YtcnpgmlkocbhkaaGreatVl
namespace Go.Proofs.YtcnpgmlkocbhkaaGreat
set_option linter.unusedSimpArgs false
set_option linter.unusedVariables false
open Go Go.Abs Go.RowKit

def pr1 (n : Int) (i : Nat) : Int × List UInt8 := (IntKind.i64.wrap (band .i64 (ishr .i64 n ((3 + i : Nat) : Int)) 7 + IntKind.i64.wrap (8 * (i : Int))), valM (band .i64 (ishr .i64 n ((4 + i : Nat) : Int)) 65535))
def pairsN (n : Int) (m : Nat) : Store := (List.range m).map (pr1 n)
theorem pairsN_len (n : Int) (m : Nat) : (pairsN n m).length = m := by simp [pairsN]
theorem pairsN_succ (n : Int) (m : Nat) : pairsN n (m + 1) = pairsN n m ++ [pr1 n m] := by simp [pairsN, List.range_succ]
theorem pairsN_cons (n : Int) (m : Nat) : ∃ r, pairsN n (m + 1) = pr1 n 0 :: r ∧ r.length = m := ⟨((List.range m).map Nat.succ).map (pr1 n), by unfold pairsN; rw [List.range_succ_eq_map]; rfl, by simp⟩
def prCnt (n : Int) : Nat := ((ishr .i64 n 1).tmod 3).toNat
def pairsM (n : Int) : Store :=
  if band .i64 (ishr .i64 n 20) 31 = 0 then (pairsN n (prCnt n + 1)).set 0 ([-1, 256, 255].getD ((ishr .i64 n 6).tmod 3).toNat 0, (pr1 n 0).2) else
  if band .i64 (ishr .i64 n 20) 31 = 1 then pairsN n (prCnt n + 1) ++ [pr1 n 0] else
  if band .i64 (ishr .i64 n 20) 31 = 2 then [] else
  if band .i64 (ishr .i64 n 20) 31 = 3 then (pairsN n (prCnt n + 1)).set 0 ((pr1 n 0).1, List.replicate (240 + band .i64 (ishr .i64 n 6) 31).toNat 0) else
  pairsN n (prCnt n + 1)
theorem prCnt_lt (n : Int) : prCnt n < 3 := by
  have h4 := Int.tmod_lt_of_pos (ishr .i64 n 1) (show (0 : Int) < 3 by decide)
  unfold prCnt; omega
theorem pairsM_len (n : Int) : (pairsM n).length < 10 := by
  have := prCnt_lt n
  unfold pairsM
  repeat' split
  all_goals simp [pairsN_len]
  all_goals omega
theorem pairsM_mem (n : Int) (x : Int × List UInt8) (h : x ∈ pairsM n) : i64 x.1 ∧ x.2.length < 300 := by
  have hp : ∀ i, i64 (pr1 n i).1 ∧ (pr1 n i).2.length < 300 := fun i => by
    refine ⟨?_, ?_⟩
    · unfold pr1; simp only; unfold i64; rw [IntKind.wrap_i64]; omega
    · unfold pr1; simp only; rw [valM_len]; have := valSz_lt (band .i64 (ishr .i64 n ((4 + i : Nat) : Int)) 65535); omega
  have hn : ∀ m, ∀ x, x ∈ pairsN n m → i64 x.1 ∧ x.2.length < 300 := fun m x hx => by
    obtain ⟨i, _, rfl⟩ := List.mem_map.1 hx
    exact hp i
  have h31 := band_bd (ishr .i64 n 6) 31 (by decide) (by decide)
  unfold pairsM at h
  split at h
  · rcases List.mem_or_eq_of_mem_set h with h | rfl
    · exact hn _ _ h
    · refine ⟨?_, (hp 0).2⟩
      simp only
      generalize ((ishr .i64 n 6).tmod 3).toNat = b
      rcases b with _ | _ | _ | b
      all_goals (unfold i64; simp)
  · split at h
    · rcases List.mem_append.1 h with h | h
      · exact hn _ _ h
      · simp at h; subst h; exact hp 0
    · split at h
      · cases h
      · split at h
        · rcases List.mem_or_eq_of_mem_set h with h | rfl
          · exact hn _ _ h
          · refine ⟨(hp 0).1, ?_⟩
            simp only [List.length_replicate]
            omega
        · exact hn _ _ h

theorem prA_cons (p : Int × List UInt8) (l : Store) : prA (p :: l) = .p (.v (.int .i64 p.1)) :: .p (byP p.2) :: prA l := rfl
theorem prA_snoc2 (l : Store) (p : Int × List UInt8) : prA l ++ [.p (.v (.int .i64 p.1)), .p (byP p.2)] = prA (l ++ [p]) := prA_snoc l p.1 p.2

theorem fz1L_map (id : Nat) (b : Blk) : ∀ l : List PV, fz1L id b (l.map .p) = l.map .p
  | [] => rfl
  | x :: l => by simp only [List.map_cons, fz1L, fz1, fz1L_map id b l]
theorem fz1OL_map (id : Nat) (b : Blk) : ∀ l : List PV, fz1OL id b (l.map .p)
  | [] => trivial
  | x :: l => ⟨trivial, fz1OL_map id b l⟩
theorem fz1L_prA (id : Nat) (b : Blk) (l : Store) : fz1L id b (prA l) = prA l := fz1L_map id b _
theorem fz1OL_prA (id : Nat) (b : Blk) (l : Store) : fz1OL id b (prA l) := fz1OL_map id b _
theorem ishr_nn {n : Int} (k : Int) (h : 0 ≤ n) : 0 ≤ ishr .i64 n k := by
  unfold ishr
  exact Int.fdiv_nonneg h (by exact Int.pow_nonneg (by decide))
theorem sh_i (a i : Nat) (h : a + i < 1000) : IntKind.u64.wrap (IntKind.i64.wrap ((a : Int) + (i : Int))) = ((a + i : Nat) : Int) := by
  rw [wrap_i64_id (by omega) (by omega), wrap_u64_def]; omega

set_option maxHeartbeats 2000000 in
theorem lpairs_c (n : Int) (h0n : 0 ≤ n) : FPure Tryz.prog 11 [.i n] (.p (PL (pairsM n))) := by
  refine fpure_x hmix Tryz.func11 rfl (by kernel_rfl) Tryz.ntmps11 Tryz.results11 (by simp) (by simp [idsL, idsA]) [0, 2, 3, 4, 9, 34, 35, 46, 54, 56] ?_; intro c hP h0 hE
  obtain ⟨R, hR⟩ : ∃ R, pairsM n = R := ⟨_, rfl⟩; rw [hR] at hE; (try rw [hR])
  simp only [go_sem, Nat.reduceAdd, Nat.reduceMul, ↓reduceIte, reduceCtorEq, Nat.reduceLeDiff, Int.reduceToNat, Int.reduceLT, Int.reduceLE, Int.reduceEq, Int.reduceNe, Int.reduceBEq, Int.reduceBNe, not_false_eq_true, not_true_eq_false, hP]
  have hc3 := prCnt_lt n
  have hcn := Int.tmod_nonneg (3 : Int) (ishr_nn 1 h0n)
  have hce : (ishr .i64 n 1).tmod 3 = ((prCnt n : Nat) : Int) := by unfold prCnt; omega
  refine saw_new 43 ?_
  refine xw_for hE h0 ((1000000 + 15) :: [0, 2, 3, 4, 9, 34, 35, 46, 54, 56]) (prCnt n + 1) (fun i => ⟨67, [(0, .i n), (3, .sl 0 0 i 2), (4, .i i)], [(0, some ⟨43, prA (pairsN n i)⟩)], 1⟩) [] (fun i => i) ?_ ?_
  · refine ⟨rfl, ?_, ?_, rfl, rfl, trivial, fun i h => h⟩
    · simp only [go_sem, Nat.reduceAdd, Nat.reduceMul, ↓reduceIte, reduceCtorEq, Nat.reduceLeDiff, Int.reduceToNat, Int.reduceLT, Int.reduceLE, Int.reduceEq, Int.reduceNe, Int.reduceBEq, Int.reduceBNe, not_false_eq_true, not_true_eq_false]
    · simp only [go_sem, Nat.reduceAdd, Nat.reduceMul, ↓reduceIte, reduceCtorEq, Nat.reduceLeDiff, Int.reduceToNat, Int.reduceLT, Int.reduceLE, Int.reduceEq, Int.reduceNe, Int.reduceBEq, Int.reduceBNe, not_false_eq_true, not_true_eq_false]
      simp [pairsN, prA, prCs_nil, viewAs]
  · intro i hi
    rcases Nat.lt_or_ge i (prCnt n + 1) with hin | hin
    · have hc : ((i : Int) ≤ ((prCnt n : Nat) : Int)) := by omega
      have e3 : IntKind.u64.wrap (IntKind.i64.wrap (3 + (i : Int))) = ((3 + i : Nat) : Int) := sh_i 3 i (by omega)
      have e4 : IntKind.u64.wrap (IntKind.i64.wrap (4 + (i : Int))) = ((4 + i : Nat) : Int) := sh_i 4 i (by omega)
      have hw : IntKind.i64.wrap ((i : Int) + 1) = ((i + 1 : Nat) : Int) := by rw [wrap_i64_id (by omega) (by omega)]; omega
      simp only [go_sem, Nat.reduceAdd, Nat.reduceMul, ↓reduceIte, reduceCtorEq, Nat.reduceLeDiff, Int.reduceToNat, Int.reduceLT, Int.reduceLE, Int.reduceEq, Int.reduceNe, Int.reduceBEq, Int.reduceBNe, not_false_eq_true, not_true_eq_false, hP, hce, e3, e4, hc, hw]
      refine ⟨by omega, by omega, ?_⟩
      first | refine xw_call hE (ks := [0, 2, 3, 4, 9, 34, 35, 46, 54, 56]) (n := 2000) (by rw [hP]; exact lvalue_c (band .i64 (ishr .i64 n ((4 + i : Nat) : Int)) 65535)) ?_ | refine xd_call hE (ks := [0, 2, 3, 4, 9, 34, 35, 46, 54, 56]) (n := 2000) (by rw [hP]; exact lvalue_c (band .i64 (ishr .i64 n ((4 + i : Nat) : Int)) 65535)) ?_
      rw [← valM_len]
      have hcell := prA_snoc2 (pairsN n i) (pr1 n i)
      rw [← pairsN_succ] at hcell
      have hl := pairsN_len n i
      simp only [go_sem, Nat.reduceAdd, Nat.reduceMul, ↓reduceIte, reduceCtorEq, Nat.reduceLeDiff, Int.reduceToNat, Int.reduceLT, Int.reduceLE, Int.reduceEq, Int.reduceNe, Int.reduceBEq, Int.reduceBNe, not_false_eq_true, not_true_eq_false, hP, hw]
      refine ⟨⟨by omega, by omega, by omega⟩, hin, subG [2] rfl ?_ ?_ rfl rfl (Nat.le_refl _)⟩
      · simp only [go_sem, Nat.reduceAdd, Nat.reduceMul, ↓reduceIte, reduceCtorEq, Nat.reduceLeDiff, Int.reduceToNat, Int.reduceLT, Int.reduceLE, Int.reduceEq, Int.reduceNe, Int.reduceBEq, Int.reduceBNe, not_false_eq_true, not_true_eq_false]
      · simp only [go_sem, Nat.reduceAdd, Nat.reduceMul, ↓reduceIte, reduceCtorEq, Nat.reduceLeDiff, Int.reduceToNat, Int.reduceLT, Int.reduceLE, Int.reduceEq, Int.reduceNe, Int.reduceBEq, Int.reduceBNe, not_false_eq_true, not_true_eq_false, pairsN_succ]
        exact prA_view _ _ _ _
    · obtain rfl : i = prCnt n + 1 := by omega
      have hnc : ¬ (((prCnt n + 1 : Nat) : Int) ≤ ((prCnt n : Nat) : Int)) := by omega
      obtain ⟨r, hr, hrl⟩ := pairsN_cons n (prCnt n)
      have h6 := Int.tmod_nonneg (3 : Int) (ishr_nn 6 h0n)
      have h63 := Int.tmod_lt_of_pos (ishr .i64 n 6) (show (0 : Int) < 3 by decide)
      have h31 := band_bd (ishr .i64 n 6) 31 (by decide) (by decide)
      have hh : headA (.v (.int .i64 0)) (List.drop ((ishr .i64 n 6).tmod 3).toNat [.p (.v (.int .i64 (-1))), .p (.v (.int .i64 256)), .p (.v (.int .i64 255))]) = .i ([-1, 256, 255].getD ((ishr .i64 n 6).tmod 3).toNat 0) := by
        obtain ⟨b, hb⟩ : ∃ b : Nat, (ishr .i64 n 6).tmod 3 = b := Int.eq_ofNat_of_zero_le h6
        rw [hb] at h63 ⊢
        have hb' : b = 0 ∨ b = 1 ∨ b = 2 := by omega
        rcases hb' with rfl | rfl | rfl <;> rfl
      unfold pairsM at hR
      rw [hr] at hR ⊢
      generalize pr1 n 0 = p at *
      obtain ⟨m, hm⟩ : ∃ m : Nat, 240 + band .i64 (ishr .i64 n 6) 31 = (m : Int) := Int.eq_ofNat_of_zero_le (by omega)
      have hmw : IntKind.i64.wrap (240 + band .i64 (ishr .i64 n 6) 31) = (m : Int) := by rw [hm, wrap_i64_id (by omega) (by omega)]
      rw [hm, Int.toNat_natCast] at hR
      have htk : ∀ a b : AV, List.take ((prCnt n + 1) * 2) (a :: b :: prA r) = a :: b :: prA r := fun a b => List.take_of_length_le (by simp [prA_len]; omega)
      have hal : allQ (prA r) := allQ_prA r
      have hun := unQs_prA r
      have hrep : (List.replicate m (0 : UInt8)).length = m := List.length_replicate
      have hrt : (List.replicate m (0 : UInt8)).take m = List.replicate m 0 := List.take_of_length_le (by omega)
      simp only [go_sem, Nat.reduceAdd, Nat.reduceMul, ↓reduceIte, reduceCtorEq, Nat.reduceLeDiff, Int.reduceToNat, Int.reduceLT, Int.reduceLE, Int.reduceEq, Int.reduceNe, Int.reduceBEq, Int.reduceBNe, not_false_eq_true, not_true_eq_false, hP, hce, hnc, hh, prA_cons, hmw, cb_rep, byP]
      split
      · rename_i h; rw [if_pos h] at hR
        subst hR
        refine ⟨⟨h6, h63⟩, by omega, by omega, ?_⟩
        refine xw_go hE (ks := [0, 2, 3, 4, 9, 34, 35, 46, 54, 56]) (n := 2000) ?_
        simp only [go_sem, Nat.reduceAdd, Nat.reduceMul, ↓reduceIte, reduceCtorEq, Nat.reduceLeDiff, Int.reduceToNat, Int.reduceLT, Int.reduceLE, Int.reduceEq, Int.reduceNe, Int.reduceBEq, Int.reduceBNe, not_false_eq_true, not_true_eq_false, hP, htk, hal, hun]
        exact ⟨by omega, by omega, rfl⟩
      · rename_i h; rw [if_neg h] at hR
        split
        · rename_i h; rw [if_pos h] at hR
          subst hR
          refine ⟨by omega, ⟨by omega, by omega, by omega⟩, ?_⟩
          refine xw_go hE (ks := [0, 2, 3, 4, 9, 34, 35, 46, 54, 56]) (n := 2000) ?_
          have htk2 : ∀ a b : AV, List.take ((prCnt n + 1 + 1) * 2) (a :: b :: prA (r ++ [(p.1, p.2)])) = a :: b :: prA (r ++ [(p.1, p.2)]) := fun a b => List.take_of_length_le (by simp [prA_len]; omega)
          simp only [go_sem, Nat.reduceAdd, Nat.reduceMul, ↓reduceIte, reduceCtorEq, Nat.reduceLeDiff, Int.reduceToNat, Int.reduceLT, Int.reduceLE, Int.reduceEq, Int.reduceNe, Int.reduceBEq, Int.reduceBNe, not_false_eq_true, not_true_eq_false, hP, htk2, allQ_prA, unQs_prA]
          exact ⟨by (try simp); omega, by (try simp); omega, rfl⟩
        · rename_i h; rw [if_neg h] at hR
          split
          · rename_i h; rw [if_pos h] at hR
            subst hR
            refine xw_go hE (ks := [0, 2, 3, 4, 9, 34, 35, 46, 54, 56]) (n := 2000) ?_
            simp only [go_sem, Nat.reduceAdd, Nat.reduceMul, ↓reduceIte, reduceCtorEq, Nat.reduceLeDiff, Int.reduceToNat, Int.reduceLT, Int.reduceLE, Int.reduceEq, Int.reduceNe, Int.reduceBEq, Int.reduceBNe, not_false_eq_true, not_true_eq_false, hP]
            rfl
          · rename_i h; rw [if_neg h] at hR
            split
            · rename_i h; rw [if_pos h] at hR
              subst hR
              refine ⟨⟨by omega, by omega, by omega, by omega⟩, by omega, ?_⟩
              refine saw_frz1 hE (ks := [0, 2, 3, 4, 9, 34, 35, 46, 54, 56]) (n := 2000) 1 ?_ ?_
              · simp only [go_sem, Nat.reduceAdd, Nat.reduceMul, ↓reduceIte, reduceCtorEq, Nat.reduceLeDiff, Int.reduceToNat, Int.reduceLT, Int.reduceLE, Int.reduceEq, Int.reduceNe, Int.reduceBEq, Int.reduceBNe, not_false_eq_true, not_true_eq_false, hP, allQ_cb, fz1OL_prA]
                exact Nat.le_refl _
              · simp only [go_sem, Nat.reduceAdd, Nat.reduceMul, ↓reduceIte, reduceCtorEq, Nat.reduceLeDiff, Int.reduceToNat, Int.reduceLT, Int.reduceLE, Int.reduceEq, Int.reduceNe, Int.reduceBEq, Int.reduceBNe, not_false_eq_true, not_true_eq_false, hP, htk, hal, hun, fz1L_prA, hrt]
                exact ⟨by omega, by omega, by rw [prCs_cons, byP, hrep]⟩
            · rename_i h; rw [if_neg h] at hR
              subst hR
              refine xw_go hE (ks := [0, 2, 3, 4, 9, 34, 35, 46, 54, 56]) (n := 2000) ?_
              simp only [go_sem, Nat.reduceAdd, Nat.reduceMul, ↓reduceIte, reduceCtorEq, Nat.reduceLeDiff, Int.reduceToNat, Int.reduceLT, Int.reduceLE, Int.reduceEq, Int.reduceNe, Int.reduceBEq, Int.reduceBNe, not_false_eq_true, not_true_eq_false, hP, htk, hal, hun]
              exact ⟨by omega, by omega, rfl⟩

end Go.Proofs.YtcnpgmlkocbhkaaGreat

/-
  Contract of the law's helper made (package passkeylaw9): the walk. Own work; no statement of the seat is proved here.
-/
import Derived.Test.YtcnpgmlkocbhkaaGreatVo
namespace Go.Proofs.YtcnpgmlkocbhkaaGreat
set_option linter.unusedSimpArgs false
set_option linter.unusedVariables false
open Go Go.Abs Go.RowKit

def vtC (v : Vt) : List AV := [.i v.j.ps, .p (.data 1 v.j.bs.length (v.j.bs.map bt)), .i v.j.page, .i v.j.gen, .i v.j.tail, .b v.j.torn, .p (PL v.prs)]

set_option maxHeartbeats 2000000 in
theorem lmade9_c (n : Int) (l : List Int) (m : Nat) (hm : l.length = m) : FPure Tryz.prog 9 [.i n, .p (.data 1 m (l.map it))] (vtAV (vmadeM n l)) := by
  refine fpure_x hmix Tryz.func9 rfl (by kernel_rfl) Tryz.ntmps9 Tryz.results9 (by simp) (by simp [idsL, idsA]) [0, 1, 4, 5, 7, 10, 11, 12, 14, 38, 47, 67, 68, 71] ?_; intro c hP h0 hE
  simp only [go_sem, Nat.reduceAdd, Nat.reduceMul, ↓reduceIte, reduceCtorEq, Nat.reduceLeDiff, Int.reduceToNat, Int.reduceLT, Int.reduceLE, Int.reduceEq, Int.reduceNe, Int.reduceBEq, Int.reduceBNe, not_false_eq_true, not_true_eq_false, hP]
  have h1 := band_bd n 65535 (by decide) (by decide)
  have h3 := Int.tmod_nonneg (3 : Int) h1.1
  have h4 := Int.tmod_lt_of_pos (band .i64 n 65535) (show (0 : Int) < 3 by decide)
  refine ⟨⟨h3, h4⟩, by omega, ?_⟩
  have hh : headA (.v (.int .i64 0)) (List.drop ((band .i64 n 65535).tmod 3).toNat [.p (.v (.int .i64 512)), .p (.v (.int .i64 600)), .p (.v (.int .i64 1024))]) = .i ([512, 600, 1024].getD ((band .i64 n 65535).tmod 3).toNat 0) := by
    obtain ⟨b, hb⟩ : ∃ b : Nat, (band .i64 n 65535).tmod 3 = b := Int.eq_ofNat_of_zero_le h3
    rw [hb] at h4 ⊢
    have hb' : b = 0 ∨ b = 1 ∨ b = 2 := by omega
    rcases hb' with rfl | rfl | rfl <;> rfl
  rw [hh]
  first | refine xw_call hE (ks := [0, 1, 4, 5, 7, 10, 11, 12, 14, 38, 47, 67, 68, 71]) (n := 2000) (by rw [hP]; exact newFlash_c ([512, 600, 1024].getD ((band .i64 n 65535).tmod 3).toNat 0) 2) ?_ | refine xd_call hE (ks := [0, 1, 4, 5, 7, 10, 11, 12, 14, 38, 47, 67, 68, 71]) (n := 2000) (by rw [hP]; exact newFlash_c ([512, 600, 1024].getD ((band .i64 n 65535).tmod 3).toNat 0) 2) ?_
  obtain ⟨p, k, hv, -⟩ := vmF_ok n
  have hvl : (vmF n).bs.length < 1000000000 := by
    have := hv.len
    have h2 : p * k ≤ 8192 * 8 := Nat.mul_le_mul hv.p2 hv.k2
    omega
  have hfe : newFl ([512, 600, 1024].getD ((band .i64 n 65535).tmod 3).toNat 0) 2 = vmF n := rfl
  rw [hfe]
  simp only [go_sem, Nat.reduceAdd, Nat.reduceMul, ↓reduceIte, reduceCtorEq, Nat.reduceLeDiff, Int.reduceToNat, Int.reduceLT, Int.reduceLE, Int.reduceEq, Int.reduceNe, Int.reduceBEq, Int.reduceBNe, not_false_eq_true, not_true_eq_false, hP]
  first | refine xw_call hE (ks := [0, 1, 4, 5, 7, 10, 11, 12, 14, 38, 47, 67, 68, 71]) (n := 2000) (by rw [hP]; exact ropen_c (vmF n).ps (vmF n).bs _ (-1) rfl hvl (by unfold i64; decide)) ?_ | refine xd_call hE (ks := [0, 1, 4, 5, 7, 10, 11, 12, 14, 38, 47, 67, 68, 71]) (n := 2000) (by rw [hP]; exact ropen_c (vmF n).ps (vmF n).bs _ (-1) rfl hvl (by unfold i64; decide)) ?_
  have hj0 : (ropenM ⟨(vmF n).ps, (vmF n).bs⟩ (-1)).v = vmN n l 0 := rfl
  generalize ropenM ⟨(vmF n).ps, (vmF n).bs⟩ (-1) = X at *
  simp only [go_sem, Nat.reduceAdd, Nat.reduceMul, ↓reduceIte, reduceCtorEq, Nat.reduceLeDiff, Int.reduceToNat, Int.reduceLT, Int.reduceLE, Int.reduceEq, Int.reduceNe, Int.reduceBEq, Int.reduceBNe, not_false_eq_true, not_true_eq_false, hP]
  refine xw_loop hE h0 ((1000000 + 9) :: [0, 1, 4, 5, 7, 10, 11, 12, 14, 38, 47, 67, 68, 71]) (α := { i : Nat // i ≤ m ∧ i ≤ 10 }) (fun i => ⟨82, [(1, .p (.data 1 m (l.map it))), (4, .ptr 0 0), (7, .ptr 3 0), (10, .i i.1)],
    [(3, some ⟨30, vtC (vmN n l i.1)⟩), (0, some ⟨30, [.i 0, .p (.v (.slice none 0 0)), .i 0, .i 0, .i 0, .b false, .p (.v (.slice none 0 0))]⟩)], 4⟩) (fun i => 10 - i.1) ⟨0, Nat.zero_le _, Nat.zero_le _⟩ [] (fun i => i) ?_ ?_
  · refine ⟨rfl, ?_, ?_, rfl, rfl, trivial, fun i h => h⟩
    · simp only [go_sem, Nat.reduceAdd, Nat.reduceMul, ↓reduceIte, reduceCtorEq, Nat.reduceLeDiff, Int.reduceToNat, Int.reduceLT, Int.reduceLE, Int.reduceEq, Int.reduceNe, Int.reduceBEq, Int.reduceBNe, not_false_eq_true, not_true_eq_false]
    · rw [hj0]
      simp only [go_sem, Nat.reduceAdd, Nat.reduceMul, ↓reduceIte, reduceCtorEq, Nat.reduceLeDiff, Int.reduceToNat, Int.reduceLT, Int.reduceLE, Int.reduceEq, Int.reduceNe, Int.reduceBEq, Int.reduceBNe, not_false_eq_true, not_true_eq_false, vtC]
  · rintro ⟨i, hi, hi8⟩
    simp only [go_sem, Nat.reduceAdd, Nat.reduceMul, ↓reduceIte, reduceCtorEq, Nat.reduceLeDiff, Int.reduceToNat, Int.reduceLT, Int.reduceLE, Int.reduceEq, Int.reduceNe, Int.reduceBEq, Int.reduceBNe, not_false_eq_true, not_true_eq_false, hP, head_it, it, vtC]
    have hok := vmN_ok n l i hi8
    have hend := vmN_end n l i
    split
    · rename_i him
      split
      · rename_i hi8'
        refine ⟨⟨by omega, by omega⟩, by omega, ?_⟩
        have hs := vmN_succ n l i (by omega)
        clear hend
        unfold vmStep at hs
        apply saw_join (fun _ : Unit => (⟨82, [(1, .p (.data 1 m (l.map it))), (4, .ptr 0 0), (7, .ptr 3 0), (10, .i i), (11, .i (vmB (l.getD i 0)))],
          [(3, some ⟨30, vtC (vmN n l i)⟩), (0, some ⟨30, [.i 0, .p (.v (.slice none 0 0)), .i 0, .i 0, .i 0, .b false, .p (.v (.slice none 0 0))]⟩)], 4⟩ : AS)) (fun _ => True)
        case tree =>
          intro hj
          split
          · rename_i hb
            refine ⟨⟨by omega, by omega⟩, by omega, saw_to h0 (hj () trivial) (subG [0, 1, 2, 3] rfl ?_ ?_ rfl rfl (Nat.le_refl _))⟩
            · simp only [go_sem, Nat.reduceAdd, Nat.reduceMul, ↓reduceIte, reduceCtorEq, Nat.reduceLeDiff, Int.reduceToNat, Int.reduceLT, Int.reduceLE, Int.reduceEq, Int.reduceNe, Int.reduceBEq, Int.reduceBNe, not_false_eq_true, not_true_eq_false, vmB, hb]
            · simp only [go_sem, Nat.reduceAdd, Nat.reduceMul, ↓reduceIte, reduceCtorEq, Nat.reduceLeDiff, Int.reduceToNat, Int.reduceLT, Int.reduceLE, Int.reduceEq, Int.reduceNe, Int.reduceBEq, Int.reduceBNe, not_false_eq_true, not_true_eq_false, vtC]
          · rename_i hb
            refine saw_to h0 (hj () trivial) (subG [0, 1, 2, 3] rfl ?_ ?_ rfl rfl (Nat.le_refl _))
            · simp only [go_sem, Nat.reduceAdd, Nat.reduceMul, ↓reduceIte, reduceCtorEq, Nat.reduceLeDiff, Int.reduceToNat, Int.reduceLT, Int.reduceLE, Int.reduceEq, Int.reduceNe, Int.reduceBEq, Int.reduceBNe, not_false_eq_true, not_true_eq_false, vmB, hb]
            · simp only [go_sem, Nat.reduceAdd, Nat.reduceMul, ↓reduceIte, reduceCtorEq, Nat.reduceLeDiff, Int.reduceToNat, Int.reduceLT, Int.reduceLE, Int.reduceEq, Int.reduceNe, Int.reduceBEq, Int.reduceBNe, not_false_eq_true, not_true_eq_false, vtC]
        rintro _ -
        refine xw_go hE (ks := [0, 1, 4, 5, 7, 10, 11, 12, 14, 38, 47, 67, 68, 71]) (n := 2000) ?_
        have hB := vmB_ok (l.getD i 0)
        have hX : rputM (vmN n l i) (pairsM (band .i64 (l.getD i 0) 33554431)) (vmB (l.getD i 0)) = vmX (vmN n l i) (l.getD i 0) := rfl
        generalize vmN n l i = J at *
        have hJl := hok.mt.len
        have hJp := hok.prl
        generalize vmB (l.getD i 0) = B at *
        have hk := band_bd (l.getD i 0) 33554431 (by decide) (by decide)
        simp only [go_sem, Nat.reduceAdd, Nat.reduceMul, ↓reduceIte, reduceCtorEq, Nat.reduceLeDiff, Int.reduceToNat, Int.reduceLT, Int.reduceLE, Int.reduceEq, Int.reduceNe, Int.reduceBEq, Int.reduceBNe, not_false_eq_true, not_true_eq_false, hP, head_it, it, vtC]
        refine ⟨⟨by omega, by omega⟩, by omega, ?_⟩
        first | refine xw_call hE (ks := [0, 1, 4, 5, 7, 10, 11, 12, 14, 38, 47, 67, 68, 71]) (n := 2000) (by rw [hP]; exact lpairs_c (band .i64 (l.getD i 0) 33554431) hk.1) ?_ | refine xd_call hE (ks := [0, 1, 4, 5, 7, 10, 11, 12, 14, 38, 47, 67, 68, 71]) (n := 2000) (by rw [hP]; exact lpairs_c (band .i64 (l.getD i 0) 33554431) hk.1) ?_
        have hpl := pairsM_len (band .i64 (l.getD i 0) 33554431)
        have hpm := pairsM_mem (band .i64 (l.getD i 0) 33554431)
        generalize pairsM (band .i64 (l.getD i 0) 33554431) = q at *
        simp only [go_sem, Nat.reduceAdd, Nat.reduceMul, ↓reduceIte, reduceCtorEq, Nat.reduceLeDiff, Int.reduceToNat, Int.reduceLT, Int.reduceLE, Int.reduceEq, Int.reduceNe, Int.reduceBEq, Int.reduceBNe, not_false_eq_true, not_true_eq_false, hP]
        have hlen := rput_len J q B hB (by omega) (fun x hx => by have := (hpm x hx).2; omega) (by omega)
        first | refine xw_call hE (ks := [0, 1, 4, 5, 7, 10, 11, 12, 14, 38, 47, 67, 68, 71]) (n := 2000) (by rw [hP]; exact rput_c J _ q B rfl (by omega) (by omega) (by omega) (fun x hx => by have := (hpm x hx).2; omega) hB) ?_ | refine xd_call hE (ks := [0, 1, 4, 5, 7, 10, 11, 12, 14, 38, 47, 67, 68, 71]) (n := 2000) (by rw [hP]; exact rput_c J _ q B rfl (by omega) (by omega) (by omega) (fun x hx => by have := (hpm x hx).2; omega) hB) ?_
        rw [hX] at hlen ⊢
        generalize vmX J (l.getD i 0) = X at *
        simp only [go_sem, Nat.reduceAdd, Nat.reduceMul, ↓reduceIte, reduceCtorEq, Nat.reduceLeDiff, Int.reduceToNat, Int.reduceLT, Int.reduceLE, Int.reduceEq, Int.reduceNe, Int.reduceBEq, Int.reduceBNe, not_false_eq_true, not_true_eq_false, hP]
        refine ⟨by kernel_rfl, ?_⟩
        split
        · rename_i h4
          rw [if_pos h4] at hs
          (try go_unwrap)
          refine ⟨⟨i + 1, by omega, by omega⟩, by show 10 - (i + 1) < 10 - i; omega, subG [0, 1, 2, 3] rfl ?_ ?_ rfl rfl (Nat.le_refl _)⟩
          · simp only [go_sem, Nat.reduceAdd, Nat.reduceMul, ↓reduceIte, reduceCtorEq, Nat.reduceLeDiff, Int.reduceToNat, Int.reduceLT, Int.reduceLE, Int.reduceEq, Int.reduceNe, Int.reduceBEq, Int.reduceBNe, not_false_eq_true, not_true_eq_false]
            omega
          · simp only [go_sem, Nat.reduceAdd, Nat.reduceMul, ↓reduceIte, reduceCtorEq, Nat.reduceLeDiff, Int.reduceToNat, Int.reduceLT, Int.reduceLE, Int.reduceEq, Int.reduceNe, Int.reduceBEq, Int.reduceBNe, not_false_eq_true, not_true_eq_false, hs]
        · rename_i h4
          rw [if_neg h4] at hs
          split
          · rename_i h5
            rw [if_pos h5] at hs
            first | refine xw_call hE (ks := [0, 1, 4, 5, 7, 10, 11, 12, 14, 38, 47, 67, 68, 71]) (n := 2000) (by rw [hP]; exact ropen_c X.v.j.ps X.v.j.bs _ (-1) rfl (by omega) (by unfold i64; decide)) ?_ | refine xd_call hE (ks := [0, 1, 4, 5, 7, 10, 11, 12, 14, 38, 47, 67, 68, 71]) (n := 2000) (by rw [hP]; exact ropen_c X.v.j.ps X.v.j.bs _ (-1) rfl (by omega) (by unfold i64; decide)) ?_
            have hM : ropenM (flOf X.v.j) (-1) = ropenM ⟨X.v.j.ps, X.v.j.bs⟩ (-1) := rfl
            rw [hM] at hs
            generalize ropenM ⟨X.v.j.ps, X.v.j.bs⟩ (-1) = M at *
            simp only [go_sem, Nat.reduceAdd, Nat.reduceMul, ↓reduceIte, reduceCtorEq, Nat.reduceLeDiff, Int.reduceToNat, Int.reduceLT, Int.reduceLE, Int.reduceEq, Int.reduceNe, Int.reduceBEq, Int.reduceBNe, not_false_eq_true, not_true_eq_false, hP]
            (try go_unwrap)
            refine ⟨⟨i + 1, by omega, by omega⟩, by show 10 - (i + 1) < 10 - i; omega, subG [0, 1, 2, 3] rfl ?_ ?_ rfl rfl (Nat.le_refl _)⟩
            · simp only [go_sem, Nat.reduceAdd, Nat.reduceMul, ↓reduceIte, reduceCtorEq, Nat.reduceLeDiff, Int.reduceToNat, Int.reduceLT, Int.reduceLE, Int.reduceEq, Int.reduceNe, Int.reduceBEq, Int.reduceBNe, not_false_eq_true, not_true_eq_false]
              omega
            · simp only [go_sem, Nat.reduceAdd, Nat.reduceMul, ↓reduceIte, reduceCtorEq, Nat.reduceLeDiff, Int.reduceToNat, Int.reduceLT, Int.reduceLE, Int.reduceEq, Int.reduceNe, Int.reduceBEq, Int.reduceBNe, not_false_eq_true, not_true_eq_false, hs]
          · rename_i h5
            rw [if_neg h5] at hs
            (try go_unwrap)
            refine ⟨⟨i + 1, by omega, by omega⟩, by show 10 - (i + 1) < 10 - i; omega, subG [0, 1, 2, 3] rfl ?_ ?_ rfl rfl (Nat.le_refl _)⟩
            · simp only [go_sem, Nat.reduceAdd, Nat.reduceMul, ↓reduceIte, reduceCtorEq, Nat.reduceLeDiff, Int.reduceToNat, Int.reduceLT, Int.reduceLE, Int.reduceEq, Int.reduceNe, Int.reduceBEq, Int.reduceBNe, not_false_eq_true, not_true_eq_false]
              omega
            · simp only [go_sem, Nat.reduceAdd, Nat.reduceMul, ↓reduceIte, reduceCtorEq, Nat.reduceLeDiff, Int.reduceToNat, Int.reduceLT, Int.reduceLE, Int.reduceEq, Int.reduceNe, Int.reduceBEq, Int.reduceBNe, not_false_eq_true, not_true_eq_false, hs]
      · obtain rfl : i = 10 := by omega
        exact ⟨rfl, ⟨rfl, rfl⟩, rfl, rfl, rfl, rfl, rfl, rfl⟩
    · have hend := hend (by omega) hi8
      rw [hend]
      exact ⟨rfl, ⟨rfl, rfl⟩, rfl, rfl, rfl, rfl, rfl, rfl⟩

end Go.Proofs.YtcnpgmlkocbhkaaGreat

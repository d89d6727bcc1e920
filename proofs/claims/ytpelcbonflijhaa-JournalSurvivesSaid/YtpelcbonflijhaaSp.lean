/-
  Contract of the law's helper spoil (package passkeylaw8). Own work; no statement of the seat is proved here.
-/
import Derived.Test.YtpelcbonflijhaaRes
namespace Go.Proofs.Ytpelcbonflijhaa
set_option linter.unusedSimpArgs false
set_option linter.unusedVariables false
open Go Go.Abs Go.RowKit

def spK (s : Int) : Int := band .i64 (ishr .i64 s 4) 65535
def spX (s : Int) (x : UInt8) : UInt8 := UInt8.ofNat (bxor .u8 (x.toNat : Int) (ishl .u8 1 (IntKind.u64.wrap (band .i64 (spK s) 7)))).toNat
def spoilM (j : Jn) (s : Int) : Jn :=
  if band .i64 s 15 = 0 then { j with page := IntKind.i64.wrap (band .i64 (spK s) 3 - 1) } else
  if band .i64 s 15 = 1 then { j with gen := IntKind.i64.wrap (j.gen + IntKind.i64.wrap (band .i64 (spK s) 3 - 1)) } else
  if band .i64 s 15 = 2 then { j with tail := IntKind.i64.wrap (j.tail + IntKind.i64.wrap (band .i64 (spK s) 3 - 1)) } else
  if band .i64 s 15 = 3 then { j with torn := !j.torn } else
  if band .i64 s 15 = 4 then { j with bs := j.bs.set ((spK s).tmod (j.bs.length : Int)).toNat (spX s (j.bs.getD ((spK s).tmod (j.bs.length : Int)).toNat 0)) } else
  if band .i64 s 15 = 5 then { j with ps := band .i64 (spK s) 1023 } else j
theorem spoilM_len (j : Jn) (s : Int) : (spoilM j s).bs.length = j.bs.length := by
  unfold spoilM
  repeat' split
  all_goals simp

set_option maxHeartbeats 1000000 in
theorem lspoil_c (j : Jn) (n : Nat) (hn : j.bs.length = n) (h1 : 1 ≤ n) (hb : n < 1000000000) (s : Int) : FPure Try.prog 11 [.agg [.i j.ps, .p (.data 1 n (j.bs.map bt)), .i j.page, .i j.gen, .i j.tail, .b j.torn], .i s] (jnAV (spoilM j s)) := by
  refine fpure_x hmix Try.func11 rfl (by kernel_rfl) Try.ntmps11 Try.results11 (by simp) (by simp [idsL, idsA]) [0, 1, 2, 4, 5, 16, 17, 23, 32, 41, 47, 66] ?_; intro c hP h0 hE
  obtain ⟨R, hR⟩ : ∃ R, spoilM j s = R := ⟨_, rfl⟩; rw [hR] at hE; (try rw [hR])
  unfold spoilM spK at hR
  simp only [go_sem, Nat.reduceAdd, Nat.reduceMul, ↓reduceIte, reduceCtorEq, Nat.reduceLeDiff, Int.reduceToNat, Int.reduceLT, Int.reduceLE, Int.reduceEq, Int.reduceNe, Int.reduceBEq, Int.reduceBNe, not_false_eq_true, not_true_eq_false, hP, cb_def]
  have hk := band_bd (ishr .i64 s 4) 65535 (by decide) (by decide)
  generalize hkk : band .i64 (ishr .i64 s 4) 65535 = k at *
  have e1 : List.take n (j.bs) = j.bs := List.take_of_length_le (by omega)
  refine ⟨⟨by omega, by omega⟩, ?_⟩
  split
  · rename_i h
    rw [if_pos h] at hR
    subst hR
    simp only [go_sem, Nat.reduceAdd, Nat.reduceMul, ↓reduceIte, reduceCtorEq, Nat.reduceLeDiff, Int.reduceToNat, Int.reduceLT, Int.reduceLE, Int.reduceEq, Int.reduceNe, Int.reduceBEq, Int.reduceBNe, not_false_eq_true, not_true_eq_false, hP]
    exact ⟨by omega, ⟨by omega, by rw [e1]⟩⟩
  · rename_i h
    rw [if_neg h] at hR
    split
    · rename_i h
      rw [if_pos h] at hR
      subst hR
      exact ⟨by omega, rfl, ⟨hn.symm, by rw [e1]⟩, rfl, rfl, rfl, rfl⟩
    · rename_i h
      rw [if_neg h] at hR
      split
      · rename_i h
        rw [if_pos h] at hR
        subst hR
        exact ⟨by omega, rfl, ⟨hn.symm, by rw [e1]⟩, rfl, rfl, rfl, rfl⟩
      · rename_i h
        rw [if_neg h] at hR
        split
        · rename_i h
          rw [if_pos h] at hR
          subst hR
          exact ⟨by omega, rfl, ⟨hn.symm, by rw [e1]⟩, rfl, rfl, rfl, rfl⟩
        · rename_i h
          rw [if_neg h] at hR
          split
          · rename_i h
            rw [if_pos h] at hR
            have hx : ∀ y : Int, bxor .u8 (((j.bs.getD (k.tmod n).toNat 0).toNat : Nat) : Int) y = (((UInt8.ofNat (bxor .u8 (((j.bs.getD (k.tmod n).toNat 0).toNat : Nat) : Int) y).toNat).toNat : Nat) : Int) := fun y => by
              unfold bxor; rw [u8w]
            rw [hx, cb_set]
            have hm1 := Int.tmod_nonneg (n : Int) hk.1
            have hm2 := Int.tmod_lt_of_pos k (show (0 : Int) < n by omega)
            rw [hn] at hR
            have e2 : ∀ x, List.take n (j.bs.set (k.tmod n).toNat x) = j.bs.set (k.tmod n).toNat x := fun x => List.take_of_length_le (by simp; omega)
            simp only [go_sem, Nat.reduceAdd, Nat.reduceMul, ↓reduceIte, reduceCtorEq, Nat.reduceLeDiff, Int.reduceToNat, Int.reduceLT, Int.reduceLE, Int.reduceEq, Int.reduceNe, Int.reduceBEq, Int.reduceBNe, not_false_eq_true, not_true_eq_false, e2, allQ_cb, unQs_cb]
            subst hR
            exact ⟨by omega, ⟨hm1, hm2⟩, by omega, ⟨hm1, hm2⟩, by omega, by kernel_rfl, by simp; omega, rfl, ⟨by simp [hn], by unfold spX spK; rw [hkk]⟩, rfl, rfl, rfl, rfl⟩
          · rename_i h
            rw [if_neg h] at hR
            split
            · rename_i h
              rw [if_pos h] at hR
              subst hR
              exact ⟨by omega, rfl, ⟨hn.symm, by rw [e1]⟩, rfl, rfl, rfl, rfl⟩
            · rename_i h
              rw [if_neg h] at hR
              subst hR
              exact ⟨by omega, rfl, ⟨hn.symm, by rw [e1]⟩, rfl, rfl, rfl, rfl⟩

end Go.Proofs.Ytpelcbonflijhaa

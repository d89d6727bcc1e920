/- joined of several texts; own work; no statement of the seat is proved but in the last -/
import Derived.Test.YtebndjnkmcahaaaGreatDoorDigB
/-
  Contracts of package passkeyref1 (the digests of the reference), in the words of the program's own digests. Own work; no statement of the seat is proved here.
-/
section
namespace Go.Proofs.YtebndjnkmcahaaaGreatDoor
set_option linter.unusedSimpArgs false
set_option linter.unusedVariables false
open Go Go.Abs Go.RowKit

theorem rrotl_n (x : UInt64) (k : Int) (h0 : 0 ≤ k) (h1 : k ≤ 64) : FPure Tryz.prog 234 [.w x, .p (.v (.int .u64 k))] (.w (rotlN x k.toNat)) := by
  refine fpure_x hmix Tryz.func234 rfl (by kernel_rfl) Tryz.ntmps234 Tryz.results234 (by simp) (by simp [idsL, idsA]) [0, 1, 4] ?_; intro c hP h0 hE
  have e2 : IntKind.u64.wrap (64 - k) = 64 - k := wrap_u64_id (by omega) (by omega)
  have e3 : (64 - k).toNat = 64 - k.toNat := by omega
  simp only [go_sem, ↓reduceIte, hP, e2, w_shl x k (by omega), w_shr x (64 - k) (by omega), w_or, rotlN, e3]
  exact ⟨by omega, by omega⟩

set_option maxHeartbeats 1000000 in
theorem rround_c (v : V4) : FPure Tryz.prog 210 [.agg v.cs] (.agg (sipR v).cs) := by
  refine fpure_x hmix Tryz.func210 rfl (by kernel_rfl) Tryz.ntmps210 Tryz.results210 (by simp) (by simp [idsL, idsA, V4.cs]) [0, 1, 2] ?_; intro c hP h0 hE
  simp only [V4.cs, go_sem, ↓reduceIte, hP, w_add, w_xor, w_or, w_and]
  repeat
    first
      | refine xd_call hE (ks := [0, 1, 2]) (n := 2000) (by rw [hP]; exact rrotl_n _ _ (by decide) (by decide)) ?_
      | refine xw_call hE (ks := [0, 1, 2]) (n := 2000) (by rw [hP]; exact rrotl_n _ _ (by decide) (by decide)) ?_
      | refine ⟨by kernel_rfl, ?_⟩
    try simp only [V4.cs, go_sem, ↓reduceIte, hP, w_add, w_xor, w_or, w_and]
  simp only [sipR]

def refC (bs : List UInt8) (i k : Nat) : UInt8 := if i + k < bs.length then bs.getD (i + k) 0 else if k = 7 then UInt8.ofNat bs.length else 0
def refM (bs : List UInt8) (i : Nat) : Nat → UInt64
  | 0 => 0
  | j + 1 => shlN (refM bs i j) 8 ||| (refC bs i (7 - j)).toUInt64
def refV (bs : List UInt8) (v : V4) : Nat → V4
  | 0 => v
  | t + 1 => absorbM (refV bs v t) (refM bs (8 * t) 8)

theorem wrap_u8_len (n : Nat) : IntKind.u8.wrap (n : Int) = ((UInt8.ofNat n).toNat : Int) := by
  rw [wrap_u8_def, UInt8.toNat_ofNat']; omega

set_option maxHeartbeats 4000000 in
theorem rsum_c (k0 k1 : UInt64) (bs : List UInt8) (n : Nat) (hn : bs.length = n) (hb : n < 1000000000) : FPure Tryz.prog 167 [.w k0, .w k1, .p (.data 1 n (bs.map bt))] (.w (finV (refV bs (initV k0 k1) (n / 8 + 1)))) := by
  refine fpure_x hmix Tryz.func167 rfl (by kernel_rfl) Tryz.ntmps167 Tryz.results167 (by simp) (by simp [idsL, idsA]) [0, 1, 2, 6, 7, 8, 9, 10, 11, 24, 28, 36, 44] ?_; intro c hP h0 hE
  have x1 : bxor .u64 (k0.toNat : Int) 8317987319222330741 = ((k0 ^^^ 0x736f6d6570736575).toNat : Int) := w_xor k0 0x736f6d6570736575
  have x2 : bxor .u64 (k1.toNat : Int) 7237128888997146477 = ((k1 ^^^ 0x646f72616e646f6d).toNat : Int) := w_xor k1 0x646f72616e646f6d
  have x3 : bxor .u64 (k0.toNat : Int) 7816392313619706465 = ((k0 ^^^ 0x6c7967656e657261).toNat : Int) := w_xor k0 0x6c7967656e657261
  have x4 : bxor .u64 (k1.toNat : Int) 8387220255154660723 = ((k1 ^^^ 0x7465646279746573).toNat : Int) := w_xor k1 0x7465646279746573
  simp only [go_sem, ↓reduceIte, hP, x1, x2, x3, x4]
  clear x1 x2 x3 x4
  generalize hR : AV.w (finV (refV bs (initV k0 k1) (n / 8 + 1))) = R at *
  refine xw_for hE h0 [0, 1, 2, 6, 7, 8, 9, 10, 11, 24, 28, 36, 44] (n / 8 + 1) (fun i => ⟨86, [(2, .p (.data 1 n (bs.map bt))), (7, .ptr 0 0), (8, .i ((8 * i : Nat) : Int))], [(0, some ⟨261, (refV bs (initV k0 k1) i).cs⟩)], 1⟩) [] (fun i => i) ?_ ?_
  · refine ⟨rfl, ?_, ?_, rfl, rfl, trivial, fun i h => h⟩
    · simp only [go_sem, ↓reduceIte]
      try simp
    · simp only [go_sem, ↓reduceIte, refV, initV, V4.cs]
  · intro i hi
    generalize hv : refV bs (initV k0 k1) i = v
    simp only [V4.cs, go_sem, ↓reduceIte, hP]
    split
    · refine xw_for hE h0 [0, 1, 2, 6, 7, 8, 9, 10, 11, 24, 28, 36, 44] 8 (fun j => ⟨86, [(2, .p (.data 1 n (bs.map bt))), (7, .ptr 0 0), (8, .i ((8 * i : Nat) : Int)), (9, .w (refM bs (8 * i) j)), (10, .i (7 - (j : Int)))], [(0, some ⟨261, v.cs⟩)], 1⟩) [] (fun i => i) ?_ ?_
      · refine ⟨rfl, ?_, ?_, rfl, rfl, trivial, fun i h => h⟩
        · simp only [go_sem, ↓reduceIte, refM]
          try simp
        · simp only [go_sem, ↓reduceIte, V4.cs]
      · intro j hj
        generalize hm : refM bs (8 * i) j = m
        simp only [V4.cs, go_sem, ↓reduceIte, hP, w_shl m 8 (by decide), w_add, w_xor, w_or, w_and, wrap_u8_len, conv_u8_u64]
        have e8 : j < 8 → (((8 * i : Nat) : Int) + (7 - (j : Int))).toNat = 8 * i + (7 - j) := fun _ => by omega
        have em : refM bs (8 * i) (j + 1) = shlN m 8 ||| (refC bs (8 * i) (7 - j)).toUInt64 := by simp only [refM, hm]
        split
        · (try go_unwrap)
          have hj8 : j < 8 := by omega
          split
          · refine ⟨⟨by omega, by omega⟩, by omega, hj8, subI rfl ?_ ?_ rfl rfl (Nat.le_refl _)⟩
            · simp only [go_sem, ↓reduceIte, em, refC, e8 hj8]
              rw [if_pos (by omega)]
              exact ⟨rfl, by omega⟩
            · simp only [go_sem, ↓reduceIte]
          · split
            · refine ⟨hj8, subI rfl ?_ ?_ rfl rfl (Nat.le_refl _)⟩
              · simp only [go_sem, ↓reduceIte, em, refC]
                rw [if_neg (by omega), if_pos (by omega), hn]
                exact ⟨rfl, by omega⟩
              · simp only [go_sem, ↓reduceIte]
            · refine ⟨hj8, subI rfl ?_ ?_ rfl rfl (Nat.le_refl _)⟩
              · simp only [go_sem, ↓reduceIte, em, refC]
                rw [if_neg (by omega), if_neg (by omega)]
                exact ⟨w_or (shlN m 8) 0, by omega⟩
              · simp only [go_sem, ↓reduceIte]
        · obtain rfl : j = 8 := by omega
          subst hm
          clear e8 em
          first | refine xw_call hE (ks := [0, 1, 2, 6, 7, 8, 9, 10, 11, 24, 28, 36, 44]) (n := 2000) (by rw [hP]; exact rround_c ⟨v.a, v.b, v.c, v.d ^^^ refM bs (8 * i) 8⟩) ?_ | refine xd_call hE (ks := [0, 1, 2, 6, 7, 8, 9, 10, 11, 24, 28, 36, 44]) (n := 2000) (by rw [hP]; exact rround_c ⟨v.a, v.b, v.c, v.d ^^^ refM bs (8 * i) 8⟩) ?_
          simp only [go_sem, ↓reduceIte, hP]
          first | refine xw_call hE (ks := [0, 1, 2, 6, 7, 8, 9, 10, 11, 24, 28, 36, 44]) (n := 2000) (by rw [hP]; exact rround_c _) ?_ | refine xd_call hE (ks := [0, 1, 2, 6, 7, 8, 9, 10, 11, 24, 28, 36, 44]) (n := 2000) (by rw [hP]; exact rround_c _) ?_
          generalize hw : sipR (sipR ⟨v.a, v.b, v.c, v.d ^^^ refM bs (8 * i) 8⟩) = w
          simp only [V4.cs, go_sem, ↓reduceIte, hP, w_add, w_xor, w_or, w_and]
          refine ⟨by omega, subI rfl ?_ ?_ rfl rfl (Nat.le_refl _)⟩
          · simp only [go_sem, ↓reduceIte]
            rw [wrap_i64_id (by omega) (by omega)]; omega
          · simp only [go_sem, ↓reduceIte, refV, hv, absorbM, sipN, hw]
    · obtain rfl : i = n / 8 + 1 := by omega
      have xf : bxor .u64 (v.c.toNat : Int) 255 = ((v.c ^^^ 0xff).toNat : Int) := w_xor v.c 0xff
      rw [hv] at hR
      simp only [xf]
      first | refine xw_call hE (ks := [0, 1, 2, 6, 7, 8, 9, 10, 11, 24, 28, 36, 44]) (n := 2000) (by rw [hP]; exact rround_c ⟨v.a, v.b, v.c ^^^ 0xff, v.d⟩) ?_ | refine xd_call hE (ks := [0, 1, 2, 6, 7, 8, 9, 10, 11, 24, 28, 36, 44]) (n := 2000) (by rw [hP]; exact rround_c ⟨v.a, v.b, v.c ^^^ 0xff, v.d⟩) ?_
      simp only [go_sem, ↓reduceIte, hP]
      first | refine xw_call hE (ks := [0, 1, 2, 6, 7, 8, 9, 10, 11, 24, 28, 36, 44]) (n := 2000) (by rw [hP]; exact rround_c _) ?_ | refine xd_call hE (ks := [0, 1, 2, 6, 7, 8, 9, 10, 11, 24, 28, 36, 44]) (n := 2000) (by rw [hP]; exact rround_c _) ?_
      simp only [go_sem, ↓reduceIte, hP]
      first | refine xw_call hE (ks := [0, 1, 2, 6, 7, 8, 9, 10, 11, 24, 28, 36, 44]) (n := 2000) (by rw [hP]; exact rround_c _) ?_ | refine xd_call hE (ks := [0, 1, 2, 6, 7, 8, 9, 10, 11, 24, 28, 36, 44]) (n := 2000) (by rw [hP]; exact rround_c _) ?_
      simp only [go_sem, ↓reduceIte, hP]
      first | refine xw_call hE (ks := [0, 1, 2, 6, 7, 8, 9, 10, 11, 24, 28, 36, 44]) (n := 2000) (by rw [hP]; exact rround_c _) ?_ | refine xd_call hE (ks := [0, 1, 2, 6, 7, 8, 9, 10, 11, 24, 28, 36, 44]) (n := 2000) (by rw [hP]; exact rround_c _) ?_
      generalize hw : sipR (sipR (sipR (sipR ⟨v.a, v.b, v.c ^^^ 0xff, v.d⟩))) = w
      simp only [V4.cs, go_sem, ↓reduceIte, hP, w_add, w_xor, w_or, w_and, ← hR, finV, sipN, hw]

/-! the two words are one -/
theorem shl_zero (n : Nat) : shlN 0 n = 0 := by simp [shlN]
theorem shl_or (a b : UInt64) (n : Nat) : shlN (a ||| b) n = shlN a n ||| shlN b n := by
  unfold shlN
  apply UInt64.toNat_inj.1
  simp only [UInt64.toNat_ofNat', UInt64.toNat_or]
  apply Nat.eq_of_testBit_eq
  intro i
  simp only [Nat.testBit_mod_two_pow, Nat.testBit_or, Nat.testBit_mul_two_pow]
  cases decide (i < 64) <;> cases decide (n ≤ i) <;> simp
theorem shl_shl (a : UInt64) (m n : Nat) : shlN (shlN a m) n = shlN a (m + n) := by
  unfold shlN
  apply UInt64.toNat_inj.1
  simp only [UInt64.toNat_ofNat', Nat.pow_add, ← Nat.mul_assoc, Nat.mod_mul_mod]
def gBE (f : Nat → UInt8) : Nat → UInt64
  | 0 => 0
  | j + 1 => shlN (gBE f j) 8 ||| (f (7 - j)).toUInt64
def gLE (f : Nat → UInt8) : Nat → UInt64
  | 0 => 0
  | j + 1 => gLE f j ||| shlN (f j).toUInt64 (8 * j)
theorem shl_none (a : UInt64) : shlN a 0 = a := by simp [shlN]
theorem gBE_LE (f : Nat → UInt8) : gBE f 8 = gLE f 8 := by
  simp only [gBE, gLE, shl_or, shl_shl, shl_zero, shl_none, UInt64.zero_or, Nat.reduceAdd, Nat.reduceMul, Nat.reduceSub, UInt64.or_assoc]
  generalize shlN (f 7).toUInt64 56 = x7
  generalize shlN (f 6).toUInt64 48 = x6
  generalize shlN (f 5).toUInt64 40 = x5
  generalize shlN (f 4).toUInt64 32 = x4
  generalize shlN (f 3).toUInt64 24 = x3
  generalize shlN (f 2).toUInt64 16 = x2
  generalize shlN (f 1).toUInt64 8 = x1
  generalize (f 0).toUInt64 = x0
  ac_rfl
theorem refM_g (bs : List UInt8) (i : Nat) : ∀ j, refM bs i j = gBE (refC bs i) j
  | 0 => rfl
  | j + 1 => by simp only [refM, gBE, refM_g bs i j]
theorem litP_g (bs : List UInt8) : ∀ j, litP bs j = gLE (fun k => bs.getD k 0) j
  | 0 => rfl
  | j + 1 => by simp only [litP, gLE, litP_g bs j]
theorem gLE_congr {f g : Nat → UInt8} : ∀ {j : Nat}, (∀ k, k < j → f k = g k) → gLE f j = gLE g j
  | 0, _ => rfl
  | j + 1, h => by simp only [gLE]; rw [gLE_congr fun k hk => h k (by omega), h j (by omega)]
theorem gLE_more {f : Nat → UInt8} {j : Nat} : ∀ {m : Nat}, (∀ k, j ≤ k → k < j + m → f k = 0) → gLE f (j + m) = gLE f j
  | 0, _ => rfl
  | m + 1, h => by
    show gLE f (j + m) ||| shlN (f (j + m)).toUInt64 (8 * (j + m)) = gLE f j
    rw [gLE_more fun k hk hk' => h k hk (by omega), h (j + m) (by omega) (by omega)]
    show gLE f j ||| shlN 0 _ = _
    rw [shl_zero, UInt64.or_zero]
theorem shl_byte (n : Nat) : shlN (UInt8.ofNat n).toUInt64 56 = shlN (UInt64.ofNat n) 56 := by
  unfold shlN
  apply UInt64.toNat_inj.1
  simp only [UInt64.toNat_ofNat', UInt8.toNat_toUInt64, UInt8.toNat_ofNat']
  omega
theorem ref_full (bs : List UInt8) (t : Nat) (h : t < bs.length / 8) : refM bs (8 * t) 8 = litP ((bs.drop (8 * t)).take 8) 8 := by
  rw [refM_g, gBE_LE, litP_g]
  refine gLE_congr fun k hk => ?_
  simp only [refC, if_pos (show 8 * t + k < bs.length by omega)]
  simp only [List.getD_eq_getElem?_getD, List.getElem?_take, if_pos hk, List.getElem?_drop]
theorem ref_last (bs : List UInt8) : refM bs (8 * (bs.length / 8)) 8 = lastW bs := by
  rw [refM_g, gBE_LE]
  unfold lastW
  generalize hr : bs.length - 8 * (bs.length / 8) = r
  have h7 : gLE (refC bs (8 * (bs.length / 8))) 8 = gLE (refC bs (8 * (bs.length / 8))) 7 ||| shlN (UInt64.ofNat bs.length) 56 := by
    show _ ||| shlN (refC bs (8 * (bs.length / 8)) 7).toUInt64 56 = _
    rw [← shl_byte]
    simp only [refC, if_neg (show ¬ 8 * (bs.length / 8) + 7 < bs.length by omega), if_true]
  rw [h7]
  congr 1
  obtain ⟨m, hm⟩ : ∃ m, 7 = r + m := ⟨7 - r, by omega⟩
  rw [hm, gLE_more, litP_g]
  · refine gLE_congr fun k hk => ?_
    simp only [refC, if_pos (show 8 * (bs.length / 8) + k < bs.length by omega)]
    simp only [List.getD_eq_getElem?_getD, List.getElem?_drop]
  · intro k hk hk'
    simp only [refC, if_neg (show ¬ 8 * (bs.length / 8) + k < bs.length by omega), if_neg (show ¬ k = 7 by omega)]
theorem refV_abs (bs : List UInt8) (v : V4) : ∀ t, t ≤ bs.length / 8 → refV bs v t = absW bs v t
  | 0, _ => rfl
  | t + 1, h => by simp only [refV, absW]; rw [refV_abs bs v t (by omega), ref_full bs t (by omega)]
theorem refV_sum (k0 k1 : UInt64) (bs : List UInt8) : finV (refV bs (initV k0 k1) (bs.length / 8 + 1)) = sumM k0 k1 bs := by
  unfold sumM
  simp only [refV]
  rw [refV_abs bs _ _ (Nat.le_refl _), ref_last]

theorem rsum_n (k0 k1 : UInt64) (bs : List UInt8) (n : Nat) (hn : bs.length = n) (hb : n < 1000000000) : FPure Tryz.prog 167 [.w k0, .w k1, .p (.data 1 n (bs.map bt))] (.w (sumM k0 k1 bs)) := by
  have := rsum_c k0 k1 bs n hn hb
  subst hn
  rwa [refV_sum] at this

theorem rhash_c (d : Int) (bs : List UInt8) (n : Nat) (hn : bs.length = n) (hb : n < 1000000000) (h0 : 0 ≤ d) (h1 : d < 1000) : FPure Tryz.prog 116 [.i d, .p (.data 1 n (bs.map bt))] (.w (sumM (UInt64.ofNat d.toNat) 0 bs)) := by
  refine fpure_x hmix Tryz.func116 rfl (by kernel_rfl) Tryz.ntmps116 Tryz.results116 (by simp) (by simp [idsL, idsA]) [0, 1, 4] ?_; intro c hP h0 hE
  have e : IntKind.u64.wrap d = ((UInt64.ofNat d.toNat).toNat : Int) := by rw [wrap_u64_id (by omega) (by omega), ← lit_u64 _ (by omega)]; omega
  simp only [go_sem, ↓reduceIte, hP, e]
  first | refine xw_call hE (ks := [0, 1, 4]) (n := 2000) (by rw [hP]; exact rsum_n (UInt64.ofNat d.toNat) 0 bs n hn hb) ?_ | refine xd_call hE (ks := [0, 1, 4]) (n := 2000) (by rw [hP]; exact rsum_n (UInt64.ofNat d.toNat) 0 bs n hn hb) ?_
  simp only [go_sem, ↓reduceIte, hP]

theorem rmac_c (k : UInt64) (d : Int) (bs : List UInt8) (n : Nat) (hn : bs.length = n) (hb : n < 1000000000) (h0 : 0 ≤ d) (h1 : d < 1000) : FPure Tryz.prog 113 [.w k, .i d, .p (.data 1 n (bs.map bt))] (.w (sumM k (UInt64.ofNat (d.toNat + 1)) bs)) := by
  refine fpure_x hmix Tryz.func113 rfl (by kernel_rfl) Tryz.ntmps113 Tryz.results113 (by simp) (by simp [idsL, idsA]) [0, 1, 2, 6] ?_; intro c hP h0 hE
  have e : IntKind.u64.wrap d = d := by rw [wrap_u64_id (by omega) (by omega)]
  have e1 : IntKind.u64.wrap (1 + d) = ((UInt64.ofNat (d.toNat + 1)).toNat : Int) := by rw [wrap_u64_id (by omega) (by omega), ← lit_u64 _ (by omega)]; omega
  simp only [go_sem, ↓reduceIte, hP, e, e1]
  first | refine xw_call hE (ks := [0, 1, 2, 6]) (n := 2000) (by rw [hP]; exact rsum_n k (UInt64.ofNat (d.toNat + 1)) bs n hn hb) ?_ | refine xd_call hE (ks := [0, 1, 2, 6]) (n := 2000) (by rw [hP]; exact rsum_n k (UInt64.ofNat (d.toNat + 1)) bs n hn hb) ?_
  simp only [go_sem, ↓reduceIte, hP]

/-- the number that the first k bytes are -/
def wordN (bs : List UInt8) : Nat → UInt64
  | 0 => 0
  | k + 1 => shlN (wordN bs k) 8 ||| (bs.getD k 0).toUInt64

theorem rword_c (bs : List UInt8) (n : Nat) (hn : bs.length = n) (hb : 8 ≤ n) (hb2 : n < 1000000000) : FPure Tryz.prog 53 [.p (.data 1 n (bs.map bt))] (.w (wordN bs 8)) := by
  refine fpure_x hmix Tryz.func53 rfl (by kernel_rfl) Tryz.ntmps53 Tryz.results53 (by simp) (by simp [idsL, idsA]) [0, 2, 3, 4, 12] ?_; intro c hP h0 hE
  simp only [go_sem, ↓reduceIte, hP]
  refine xw_for hE h0 [0, 2, 3, 4, 12] 8 (fun i => ⟨24, [(0, .p (.data 1 n (bs.map bt))), (3, .w (wordN bs i)), (4, .i i)], [], 0⟩) [] (fun i => i) ?_ ?_
  · refine ⟨rfl, ?_, trivial, rfl, rfl, trivial, fun i h => h⟩
    simp only [go_sem, ↓reduceIte, wordN]
    try simp
  · intro i hi
    generalize hm : wordN bs i = m
    simp only [go_sem, ↓reduceIte, hP, conv_u8_u64, w_shl m 8 (by decide), w_add, w_xor, w_or, w_and]
    split
    · (try go_unwrap)
      split
      · refine ⟨⟨by omega, by omega⟩, by omega, by omega, subI rfl ?_ trivial rfl rfl (Nat.le_refl _)⟩
        simp only [go_sem, ↓reduceIte, wordN, hm]
        omega
      · omega
    · obtain rfl : i = 8 := by omega
      subst hm
      rfl

set_option maxHeartbeats 1000000 in
theorem rwords_c (ws : List UInt64) (n : Nat) (hn : ws.length = n) (hb : n < 1000000) : FPure Tryz.prog 51 [.p (.data 1 n (ws.map wd))] (.p (.data 1 (8 * n) ((wordsM ws n).map bt))) := by
  refine fpure_x hmix Tryz.func51 rfl (by kernel_rfl) Tryz.ntmps51 Tryz.results51 (by simp) (by simp [idsL, idsA]) [0, 2, 3, 4, 5, 9, 13] ?_; intro c hP h0 hE
  simp only [go_sem, ↓reduceIte, hP]
  refine saw_new byteT ?_
  refine xw_for hE h0 [0, 2, 3, 4, 5, 9, 13] n (fun i => ⟨29, [(0, .p (.data 1 n (ws.map wd))), (3, .sl 0 0 (8 * i) 1), (4, .i i)], [(0, some ⟨byteT, cb (wordsM ws i)⟩)], 1⟩) [] (fun i => i) ?_ ?_
  · refine ⟨rfl, ?_, ?_, rfl, rfl, trivial, fun i h => h⟩
    · simp only [go_sem, ↓reduceIte]
      try simp
    · simp only [go_sem, ↓reduceIte, wordsM, cb_nil]
  · intro i hi
    simp only [go_sem, ↓reduceIte, hP]
    split
    · refine xw_for hE h0 [0, 2, 3, 4, 5, 9, 13] 8 (fun j => ⟨29, [(0, .p (.data 1 n (ws.map wd))), (3, .sl 0 0 (8 * i + j) 1), (4, .i i), (5, .i (7 - (j : Int)))], [(0, some ⟨byteT, cb (wordsM ws i ++ wordB (ws.getD i 0) j)⟩)], 1⟩) [] (fun i => i) ?_ ?_
      · refine ⟨rfl, ?_, ?_, rfl, rfl, trivial, fun i h => h⟩
        · simp only [go_sem, ↓reduceIte]
          try simp
        · simp only [go_sem, ↓reduceIte, wordB, List.append_nil]
          exact cb_viewA _ _ _ _
      · intro j hj
        have e8 : j < 8 → IntKind.u64.wrap (8 * (7 - (j : Int))) = ((56 - 8 * j : Nat) : Int) := fun _ => by rw [wrap_u64_id (by omega) (by omega)]; omega
        have e9 : j < 8 → IntKind.i64.wrap (8 * (7 - (j : Int))) = 8 * (7 - (j : Int)) := fun _ => by rw [wrap_i64_id (by omega) (by omega)]
        by_cases hj8 : j < 8
        · simp only [go_sem, ↓reduceIte, hP, e9 hj8, e8 hj8, w_shr (ws.getD i 0) ((56 - 8 * j : Nat) : Int) (by omega), conv_u64_u8, cb_snoc]
          split
          · (try go_unwrap)
            refine ⟨⟨by omega, by omega⟩, by omega, by omega, ⟨by simp only [wordsM_len, wordB_len], by omega, by omega⟩, hj8, subG [2] rfl ?_ ?_ rfl rfl (Nat.le_refl _)⟩
            · simp only [go_sem, ↓reduceIte, Nat.add_assoc]
              omega
            · simp only [go_sem, ↓reduceIte, wordB, List.append_assoc]
              exact cb_viewA _ _ _ _
          · omega
        · obtain rfl : j = 8 := by omega
          simp only [go_sem, ↓reduceIte, hP]
          split
          · omega
          · (try go_unwrap)
            refine ⟨by omega, subI rfl ?_ ?_ rfl rfl (Nat.le_refl _)⟩
            · simp only [go_sem, ↓reduceIte, Nat.mul_add, Nat.mul_one]
              omega
            · simp only [go_sem, ↓reduceIte, wordsM]
              exact cb_viewA _ _ _ _
    · obtain rfl : i = n := by omega
      simp only [wordsM_len, List.take_of_length_le (Nat.le_of_eq (wordsM_len ws i)), Nat.le_refl, and_self]

end Go.Proofs.YtebndjnkmcahaaaGreatDoor
end
/-
  Contracts of bytes.Clone, bytes.Equal, slices.Grow, slices.Concat (of bytes). Own work; no statement of the seat is proved here.
-/
section
namespace Go.Proofs.YtebndjnkmcahaaaGreatDoor
set_option linter.unusedSimpArgs false
set_option linter.unusedVariables false
open Go Go.Abs Go.RowKit

theorem clone_c (cs : List PV) (n : Nat) (hn : cs.length = n) (h1 : n ≠ 0) (hb : n < 1000000000) : Con Tryz.prog 24 [.p (.data 1 n cs)] [] (.sl 0 0 n 1) [(0, some ⟨byteT, cs.map .p⟩)] := by
  refine con_x 0 hmix Tryz.func24 rfl (by kernel_rfl) Tryz.ntmps24 Tryz.results24 (by simp) rfl (by simp [idsL, idsA]) trivial (fun i hi => by cases hi) [0, 2, 4] ?_; intro c hP h0' hE; have h0 : ∀ i, c.ρ0 i ≠ none → False := fun i hi => by cases h0' i hi
  simp only [go_sem, ↓reduceIte, hP]
  refine ⟨h1, ⟨by omega, by omega⟩, endC_of [1] rfl ?_ ?_ rfl rfl (fun i hi => ?_)⟩
  · simp only [go_sem, ↓reduceIte]
  · simp only [go_sem, ↓reduceIte]
    exact viewAs_pure _ _ _ _
  · simp [liveK] at hi; simp; omega

theorem clone_b (bs : List UInt8) (n : Nat) (hn : bs.length = n) (h1 : n ≠ 0) (hb : n < 1000000000) : Con Tryz.prog 24 [.p (.data 1 n (bs.map bt))] [] (.sl 0 0 n 1) [(0, some ⟨byteT, cb bs⟩)] :=
  clone_c (bs.map bt) n (by simpa using hn) h1 hb

theorem toList_of (l : List UInt8) : (⟨l.toArray⟩ : ByteArray).toList = l := by
  rw [ByteArray.toList_eq]

theorem equal_c (xs ys : List UInt8) (m n : Nat) : FPure Tryz.prog 158 [.p (.data 1 m (xs.map bt)), .p (.data 1 n (ys.map bt))] (.b (xs == ys)) := by
  refine fpure_x hmix Tryz.func158 rfl (by kernel_rfl) Tryz.ntmps158 Tryz.results158 (by simp) (by simp [idsL, idsA]) [0, 1, 4] ?_; intro c hP h0 hE
  simp only [go_sem, ↓reduceIte, hP, unBs_bt, strOf, allB_bt, toList_of]

theorem grow_c (m : Nat) (hm : m < 1000000000) : Con Tryz.prog 230 [.p (.v (.slice none 0 0)), .i m] [] (.sl 0 0 0 1) [(0, some ⟨byteT, []⟩)] := by
  refine con_x 0 hmix Tryz.func230 rfl (by kernel_rfl) Tryz.ntmps230 Tryz.results230 (by simp) rfl (by simp [idsL, idsA]) trivial (fun i hi => by cases hi) [0, 1, 4, 6, 16] ?_; intro c hP h0' hE; have h0 : ∀ i, c.ρ0 i ≠ none → False := fun i hi => by cases h0' i hi
  have e1 : IntKind.i64.wrap (0 - 0) = 0 := rfl
  have e2 : IntKind.i64.wrap ((m : Int) - 0) = m := by rw [wrap_i64_id (by omega) (by omega)]; omega
  simp only [go_sem, ↓reduceIte, hP, e1, e2]
  split
  · omega
  · split
    · refine ⟨⟨by omega, by omega, by omega⟩, by omega, endC_of [0] rfl ?_ ?_ rfl rfl (fun i hi => ?_)⟩
      · simp only [go_sem, ↓reduceIte]
      · simp only [go_sem, ↓reduceIte]
      · simp [liveK] at hi; simp; omega
    · refine endC_new byteT [0] rfl ?_ ?_ rfl rfl (fun i hi => ?_)
      · simp only [go_sem, ↓reduceIte, newB]
      · simp only [go_sem, ↓reduceIte, newB]
      · simp [liveK] at hi; simp; omega

/-- a list of byte strings as data -/
def byP (b : List UInt8) : PV := .data 1 b.length (b.map bt)
def byL (l : List (List UInt8)) : List AV := l.map fun b => .p (byP b)
theorem byL_len (l : List (List UInt8)) : (byL l).length = l.length := by simp [byL]
theorem byL_snoc (l : List (List UInt8)) (b : List UInt8) : byL l ++ [.p (.data 1 b.length (b.map bt))] = byL (l ++ [b]) := by simp [byL, byP]
theorem byL_view (h : Heap) (S : List Nat) (σ : Nat → Nat) (l : List (List UInt8)) : viewAs h S σ (byL l) (byL l) := by
  have : byL l = (l.map byP).map .p := by simp [byL]
  rw [this]; exact viewAs_pure h S σ _
theorem allP_byL (l : List (List UInt8)) : allP (byL l) := by
  intro c hc
  obtain ⟨x, _, rfl⟩ := List.mem_map.1 hc
  trivial
theorem byL_map (l : List (List UInt8)) : byL l = (l.map byP).map .p := by simp [byL]
theorem allQ_byL (l : List (List UInt8)) : allQ (byL l) := by rw [byL_map]; exact allQ_map _
theorem unQs_byL (l : List (List UInt8)) : unQs (byL l) = l.map byP := by rw [byL_map, unQs_map]
theorem idsL_byL (T : List Nat) (l : List (List UInt8)) : idsL T (byL l) := by rw [byL_map]; exact idsL_map T _
theorem renL_byL (τ : Nat → Nat) (l : List (List UInt8)) : renL τ (byL l) = byL l := by rw [byL_map]; exact renL_map τ _
theorem byL_take (l : List (List UInt8)) (n : Nat) : (byL l).take n = byL (l.take n) := by simp [byL]
theorem fz1L_byL (id : Nat) (b : Blk) (l : List (List UInt8)) : fz1L id b (byL l) = byL l := fz1L_pure id b _ (allP_byL l)
theorem fz1OL_byL (id : Nat) (b : Blk) (l : List (List UInt8)) : fz1OL id b (byL l) := fz1OL_pure id b _ (allP_byL l)
theorem head_byL (l : List (List UInt8)) (i : Nat) : headA (.data 1 0 []) ((byL l).drop i) = .p (byP (l.getD i [])) := by
  induction l generalizing i with
  | nil => simp [headA, byP, byL]
  | cons b r ih => cases i with
    | zero => simp [headA, byL]
    | succ i => simpa [byL] using ih i
theorem byL_set (l : List (List UInt8)) (i : Nat) (b : List UInt8) : (byL l).set i (.p (.data 1 b.length (b.map bt))) = byL (l.set i b) := by simp [byL, byP, List.map_set]
attribute [go_sem] head_byL fz1L_byL fz1OL_byL byL_len byL_snoc allP_byL allQ_byL unQs_byL byL_take renL_byL
def catN (l : List (List UInt8)) (i : Nat) : List UInt8 := (l.take i).flatten
theorem head_by (l : List (List UInt8)) (i : Nat) : headP (.data 1 0 []) ((l.map byP).drop i) = byP (l.getD i []) := by
  induction l generalizing i with
  | nil => simp [headP, byP]
  | cons b r ih => cases i with
    | zero => simp [headP]
    | succ i => simpa using ih i

theorem catN_succ (l : List (List UInt8)) (i : Nat) (h : i < l.length) : catN l (i + 1) = catN l i ++ l.getD i [] := by
  unfold catN
  rw [List.take_succ_eq_append_getElem h, List.flatten_append]
  simp [List.getD_eq_getElem?_getD, h]
theorem catN_mono (l : List (List UInt8)) (i : Nat) : (catN l i).length ≤ l.flatten.length := by
  unfold catN
  conv => rhs; rw [← List.take_append_drop i l]
  simp only [List.flatten_append, List.length_append]; omega

set_option maxHeartbeats 1000000 in
theorem concat_c (l : List (List UInt8)) (n : Nat) (hn : l.length = n) (hb : l.flatten.length < 1000000000) (hb' : n < 1000000000) : FPure Tryz.prog 202 [.p (.data 1 n (l.map byP))] (.p (.data 1 l.flatten.length (l.flatten.map bt))) := by
  refine fpure_x hmix Tryz.func202 rfl (by kernel_rfl) Tryz.ntmps202 Tryz.results202 (by simp) (by simp [idsL, idsA]) [0, 2, 3, 5, 6, 8, 9, 10, 11, 12, 20, 25, 26, 27, 28] ?_; intro c hP h0 hE
  simp only [go_sem, ↓reduceIte, hP]
  have hlast : catN l n = l.flatten := by unfold catN; rw [List.take_of_length_le (by omega)]
  refine xw_for hE h0 [0, 2, 3, 5, 6, 8, 9, 10, 11, 12, 20, 25, 26, 27, 28] n (fun i => ⟨36, [(0, .p (.data 1 n (l.map byP))), (3, .i ((catN l i).length : Int)), (9, .p (.data 1 n (l.map byP))), (10, .i n), (11, .i i)], [], 0⟩) [] (fun i => i) ?_ ?_
  · refine ⟨rfl, ?_, trivial, rfl, rfl, trivial, fun i h => h⟩
    simp only [go_sem, ↓reduceIte]
    simp [catN]
  · intro i hi
    simp only [go_sem, ↓reduceIte, hP, head_by, byP]
    split
    · have hs := catN_succ l i (by omega)
      have hm := catN_mono l (i + 1)
      rw [hs, List.length_append] at hm
      (try go_unwrap)
      refine ⟨⟨by omega, by omega⟩, by omega, ?_⟩
      rw [if_neg (by omega)]
      refine ⟨by omega, subI rfl ?_ trivial rfl rfl (Nat.le_refl _)⟩
      simp only [go_sem, ↓reduceIte, hs, byP]
      omega
    · obtain rfl : i = n := by omega
      first | refine xw_new hE (ks := [0, 2, 3, 5, 6, 8, 9, 10, 11, 12, 20, 25, 26, 27, 28]) (n := 2000) 1 (by rw [hP]; exact grow_c (catN l i).length (by have := catN_mono l i; omega)) rfl rfl (by simp [idsA, idsL, keys]) (by simp only [idsH, idsL, idsL_map, idsL_cb, idsL_byL, and_self]) ?_ | refine xd_new hE (ks := [0, 2, 3, 5, 6, 8, 9, 10, 11, 12, 20, 25, 26, 27, 28]) (n := 2000) 1 (by rw [hP]; exact grow_c (catN l i).length (by have := catN_mono l i; omega)) rfl rfl (by simp [idsA, idsL, keys]) (by simp only [idsH, idsL, idsL_map, idsL_cb, idsL_byL, and_self]) ?_
      simp only [go_sem, ↓reduceIte, hP]
      refine xw_for hE h0 [0, 2, 3, 5, 6, 8, 9, 10, 11, 12, 20, 25, 26, 27, 28] i (fun j => ⟨36, [(6, .sl 0 0 (catN l j).length 1), (25, .p (.data 1 i (l.map byP))), (26, .i i), (27, .i j)], [(0, some ⟨byteT, cb (catN l j)⟩)], 1⟩) [] (fun i => i) ?_ ?_
      · refine ⟨rfl, ?_, ?_, rfl, rfl, trivial, fun i h => h⟩
        · simp only [go_sem, ↓reduceIte]
          simp [catN]
        · simp only [go_sem, ↓reduceIte]
          simp [catN, cb, viewAs]
      · intro j hj
        simp only [go_sem, ↓reduceIte, hP, head_by, byP, cb_def, cb_app]
        split
        · have hs := catN_succ l j (by omega)
          have hm := catN_mono l (j + 1)
          rw [hs, List.length_append] at hm
          (try go_unwrap)
          refine ⟨⟨by omega, by omega⟩, by omega, ⟨by omega, by omega⟩, by omega, subG [1] rfl ?_ ?_ rfl rfl (Nat.le_refl _)⟩
          · simp only [go_sem, ↓reduceIte, hs, byP]
            omega
          · simp only [go_sem, ↓reduceIte, hs]
            exact cb_viewA _ _ _ _
        · obtain rfl : j = i := by omega
          simp only [hlast]
          exact ⟨Nat.le_refl _, trivial, by rw [List.take_of_length_le (Nat.le_refl _)]⟩

end Go.Proofs.YtebndjnkmcahaaaGreatDoor
end

/- joined of several texts; own work; no statement of the seat is proved but in the last -/
import Derived.Test.YtebndjnkmcahaaaGreatDoorJn
/-
  Contract of journal.Rewrite. Own work; no statement of the seat is proved here.
-/
section
namespace Go.Proofs.YtebndjnkmcahaaaGreatDoor
set_option linter.unusedSimpArgs false
set_option linter.unusedVariables false
open Go Go.Abs Go.RowKit

def sizedL (l : List (List UInt8)) : Bool := l.all fun b => decide (1 ≤ b.length ∧ b.length ≤ 256)
def rsM (g : UInt64) (l : List (List UInt8)) : List UInt8 := (l.map (recM g)).flatten
def rewriteM (j : Jn) (l : List (List UInt8)) (budget : Int) : JR :=
  if genuineM j = false then ⟨jn0, 0, 18⟩ else
  if sizedL l = false then ⟨jn0, 0, 9⟩ else
  if j.ps < 16 + (totM l : Int) then ⟨jn0, 0, 12⟩ else
  if 1099511627776 ≤ j.gen then ⟨jn0, 0, 13⟩ else
  performM (flOf j) budget [.er (1 - j.page), .wr (1 - j.page) 16 (rsM (UInt64.ofNat (j.gen + 1).toNat) l), .wr (1 - j.page) 0 (headM (UInt64.ofNat (j.gen + 1).toNat))]

theorem rsM_len (g : UInt64) : ∀ l, (rsM g l).length = totM l
  | [] => rfl
  | b :: l => by
    have := rsM_len g l
    unfold rsM at *
    simp only [List.map_cons, List.flatten_cons, List.length_append, recM_len, totM, this]; omega
theorem rsM_snoc (g : UInt64) (l : List (List UInt8)) (b : List UInt8) : rsM g (l ++ [b]) = rsM g l ++ recM g b := by simp [rsM]
theorem totM_app : ∀ (l r : List (List UInt8)), totM (l ++ r) = totM l + totM r
  | [], r => by simp [totM]
  | b :: l, r => by simp only [List.cons_append, totM, totM_app l r]; omega
theorem take_snoc' (l : List (List UInt8)) (i : Nat) (h : i < l.length) : l.take (i + 1) = l.take i ++ [l.getD i []] := by
  rw [List.take_succ_eq_append_getElem h]; simp [List.getD_eq_getElem?_getD, h]
theorem totM_take (l : List (List UInt8)) (i : Nat) : totM (l.take i) ≤ totM l := by
  conv => rhs; rw [← List.take_append_drop i l, totM_app]
  omega
theorem totM_bd : ∀ (l : List (List UInt8)), (∀ b, b ∈ l → b.length < 1000000) → totM l ≤ 1000010 * l.length
  | [], _ => by simp [totM]
  | b :: l, h => by
    have := totM_bd l fun x hx => h x (by simp [hx])
    have := h b (by simp)
    simp only [totM, List.length_cons]; omega
theorem sizedL_no {l : List (List UInt8)} {i : Nat} (hi : i < l.length) (h : ¬ (1 ≤ (l.getD i []).length ∧ (l.getD i []).length ≤ 256)) : sizedL l = false := by
  have e : l.getD i [] = l[i] := by simp [List.getD_eq_getElem?_getD, hi]
  rw [e] at h
  unfold sizedL
  rw [List.all_eq_false]
  exact ⟨l[i], List.getElem_mem hi, by simpa using h⟩
theorem sizedL_get {l : List (List UInt8)} (h : sizedL l = true) {b : List UInt8} (hb : b ∈ l) : 1 ≤ b.length ∧ b.length ≤ 256 := by
  unfold sizedL at h
  rw [List.all_eq_true] at h
  simpa using h b hb

theorem ok_ops3 (a : Int) (p at_ : Int) (x : List UInt8) (p' at' : Int) (y : List UInt8) (h : x.length < 1000000000) (h' : y.length < 1000000000) : ∀ o, o ∈ [JOp.er a, .wr p at_ x, .wr p' at' y] → okOp o := by
  intro o ho
  simp only [List.mem_cons, List.not_mem_nil, or_false] at ho
  rcases ho with rfl | rfl | rfl
  · trivial
  · exact h
  · exact h'

set_option maxHeartbeats 4000000 in
theorem jRewrite_c (j : Jn) (n : Nat) (l : List (List UInt8)) (m : Nat) (budget : Int) (hn : j.bs.length = n) (hb : n < 1000000000) (hm : l.length = m) (hmb : m < 1000000) (hlb : ∀ b, b ∈ l → b.length < 1000000) (hB : i64 budget) :
    FPure Tryz.prog 93 [.agg [.i j.ps, .p (.data 1 n (j.bs.map bt)), .i j.page, .i j.gen, .i j.tail, .b j.torn], .p (.data 1 m (l.map byP)), .i budget] (jrAV (rewriteM j l budget)) := by
  refine fpure_x hmix Tryz.func93 rfl (by kernel_rfl) Tryz.ntmps93 Tryz.results93 (by simp) (by simp [idsL, idsA]) [0, 1, 2, 3, 6, 7, 8, 9, 11, 12, 13, 14, 16, 19, 21, 22, 23, 24, 29, 41, 45, 53, 54, 55, 56] ?_; intro c hP h0 hE
  simp only [go_sem, ↓reduceIte, hP]
  first | refine xw_call hE (ks := [0, 1, 2, 3, 6, 7, 8, 9, 11, 12, 13, 14, 16, 19, 21, 22, 23, 24, 29, 41, 45, 53, 54, 55, 56]) (n := 2000) (by rw [hP]; exact genuine_c j n hn hb) ?_ | refine xd_call hE (ks := [0, 1, 2, 3, 6, 7, 8, 9, 11, 12, 13, 14, 16, 19, 21, 22, 23, 24, 29, 41, 45, 53, 54, 55, 56]) (n := 2000) (by rw [hP]; exact genuine_c j n hn hb) ?_
  simp only [go_sem, ↓reduceIte, hP]
  obtain ⟨R, hR⟩ : ∃ R, rewriteM j l budget = R := ⟨_, rfl⟩; rw [hR] at hE; (try rw [hR])
  unfold rewriteM at hR
  split
  · rename_i h
    rw [if_pos h] at hR
    subst hR
    simp only [jn0, List.length_nil, List.map_nil, and_self]
  · rename_i h
    rw [if_neg h] at hR
    have h : genuineM j = true := by simpa using h
    obtain ⟨p, k, q, e1, e2, e3, e4, e5, e6, e7, e8, e9, e10, -⟩ := genuineM_ok h
    have htb := totM_bd l hlb
    refine xw_loop hE h0 [0, 1, 2, 3, 6, 7, 8, 9, 11, 12, 13, 14, 16, 19, 21, 22, 23, 24, 29, 41, 45, 53, 54, 55, 56] (α := { i : Nat // i ≤ m ∧ sizedL (l.take i) = true }) (fun i => ⟨85, [(1, .p (.data 1 m (l.map byP))), (2, .i budget), (3, .ptr 0 0), (6, .ptr 1 0), (9, .i ((16 + totM (l.take i.1) : Nat) : Int)), (21, .p (.data 1 m (l.map byP))), (22, .i m), (23, .i i.1)],
      [(1, some ⟨34, [.i 0, .p (.v (.slice none 0 0)), .i 0, .i 0, .i 0, .b false]⟩), (0, some ⟨34, [.i j.ps, .p (.data 1 n (j.bs.map bt)), .i j.page, .i j.gen, .i j.tail, .b j.torn]⟩)], 2⟩) (fun i => m - i.1) ⟨0, Nat.zero_le _, by simp [sizedL]⟩ [] (fun i => i) ?_ ?_
    · refine ⟨rfl, ?_, ?_, rfl, rfl, trivial, fun i h => h⟩
      · simp only [go_sem, ↓reduceIte]
        simp [totM]
      · simp only [go_sem, ↓reduceIte]
    · rintro ⟨i, hi, hs⟩
      have ht1 := totM_take l i
      simp only [go_sem, ↓reduceIte, hP, head_by, byP]
      split
      · refine ⟨⟨by omega, by omega⟩, by omega, ?_⟩
        first | refine xw_call hE (ks := [0, 1, 2, 3, 6, 7, 8, 9, 11, 12, 13, 14, 16, 19, 21, 22, 23, 24, 29, 41, 45, 53, 54, 55, 56]) (n := 2000) (by rw [hP]; exact jsized_c _ _) ?_ | refine xd_call hE (ks := [0, 1, 2, 3, 6, 7, 8, 9, 11, 12, 13, 14, 16, 19, 21, 22, 23, 24, 29, 41, 45, 53, 54, 55, 56]) (n := 2000) (by rw [hP]; exact jsized_c _ _) ?_
        simp only [go_sem, ↓reduceIte, hP]
        split
        · rename_i h2
          rw [if_pos (sizedL_no (by omega) h2)] at hR
          subst hR
          simp only [jn0, List.length_nil, List.map_nil, and_self]
        · rename_i h2
          have hts := take_snoc' l i (by omega)
          have ht2 := totM_take l (i + 1)
          rw [hts, totM_app] at ht2
          simp only [totM] at ht2
          (try go_unwrap)
          refine ⟨⟨i + 1, by omega, ?_⟩, by show m - (i + 1) < m - i; omega, subI rfl ?_ ?_ rfl rfl (Nat.le_refl _)⟩
          · rw [hts]; unfold sizedL at hs ⊢; rw [List.all_append, hs]; simp only [List.all_cons, List.all_nil]; simpa using h2
          · simp only [go_sem, ↓reduceIte, hts, totM_app, totM, byP]
            omega
          · simp only [go_sem, ↓reduceIte]
      · obtain rfl : i = m := by omega
        rw [List.take_of_length_le (by omega)] at hs ht1 ⊢
        rw [if_neg (by rw [hs]; decide)] at hR
        split
        · rename_i h2
          rw [if_pos (by omega)] at hR
          subst hR
          simp only [jn0, List.length_nil, List.map_nil, and_self]
        · rename_i h2
          rw [if_neg (by omega)] at hR
          split
          · rename_i h3
            rw [if_pos h3] at hR
            subst hR
            simp only [jn0, List.length_nil, List.map_nil, and_self]
          · rename_i h3
            rw [if_neg h3] at hR
            refine ⟨by kernel_rfl, ?_⟩
            rw [wrap_i64_id (n := 1 - j.page) (by omega) (by omega), wrap_i64_id (n := j.gen + 1) (by omega) (by omega)]
            have hgu := gen_u64 (j.gen + 1) (by omega) (by omega)
            generalize hg : UInt64.ofNat (j.gen + 1).toNat = g at *
            refine saw_new byteT ?_
            refine xw_for hE h0 (1000022 :: [0, 1, 2, 3, 6, 7, 8, 9, 11, 12, 13, 14, 16, 19, 21, 22, 23, 24, 29, 41, 45, 53, 54, 55, 56]) i (fun a => ⟨85, [(2, .i budget), (3, .ptr 0 0), (6, .ptr 1 0), (12, .i (1 - j.page)), (13, .i (j.gen + 1)), (14, .sl 2 0 (totM (l.take a)) 1), (53, .p (.data 1 i (l.map byP))), (54, .i i), (55, .i a)],
              [(2, some ⟨byteT, cb (rsM g (l.take a))⟩), (1, some ⟨34, [.i 0, .p (.v (.slice none 0 0)), .i 0, .i 0, .i 0, .b false]⟩), (0, some ⟨34, [.i j.ps, .p (.data 1 n (j.bs.map bt)), .i j.page, .i j.gen, .i j.tail, .b j.torn]⟩)], 3⟩) [] (fun i => i) ?_ ?_
            · refine ⟨rfl, ?_, ?_, rfl, rfl, trivial, fun i h => h⟩
              · simp only [go_sem, ↓reduceIte]
                simp [totM]
              · simp only [go_sem, ↓reduceIte]
                simp [rsM, cb, viewAs]
            · intro a ha
              have hta := totM_take l a
              have hlen := rsM_len g (l.take a)
              simp only [go_sem, ↓reduceIte, hP, head_by, byP]
              split
              · refine ⟨⟨by omega, by omega⟩, by omega, ?_⟩
                have hel : 1 ≤ (l.getD a []).length ∧ (l.getD a []).length ≤ 256 := by
                  have e : l.getD a [] = l[a]'(by omega) := by simp [List.getD_eq_getElem?_getD, show a < l.length by omega]
                  rw [e]; exact sizedL_get hs (List.getElem_mem _)
                first | refine xw_call hE (ks := [0, 1, 2, 3, 6, 7, 8, 9, 11, 12, 13, 14, 16, 19, 21, 22, 23, 24, 29, 41, 45, 53, 54, 55, 56]) (n := 2000) (by rw [hP]; exact record_c g (j.gen + 1) hgu (l.getD a []) _ rfl (by omega)) ?_ | refine xd_call hE (ks := [0, 1, 2, 3, 6, 7, 8, 9, 11, 12, 13, 14, 16, 19, 21, 22, 23, 24, 29, 41, 45, 53, 54, 55, 56]) (n := 2000) (by rw [hP]; exact record_c g (j.gen + 1) hgu (l.getD a []) _ rfl (by omega)) ?_
                simp only [go_sem, ↓reduceIte, hP, cb_def, cb_app]
                have hts := take_snoc' l a (by omega)
                have ht2 := totM_take l (a + 1)
                rw [hts, totM_app] at ht2
                simp only [totM] at ht2
                (try go_unwrap)
                refine ⟨⟨by omega, by omega, by omega⟩, by omega, subG [0, 1, 3] rfl ?_ ?_ rfl rfl (Nat.le_refl _)⟩
                · simp only [go_sem, ↓reduceIte, hts, totM_app, totM, AV.sl.injEq]
                  exact ⟨by omega, by omega⟩
                · simp only [go_sem, ↓reduceIte, hts, rsM_snoc]
                  exact cb_viewA _ _ _ _
              · obtain rfl : a = i := by omega
                rw [List.take_of_length_le (show l.length ≤ a by omega)] at hlen ⊢
                refine saw_frz1 hE (ks := [0, 1, 2, 3, 6, 7, 8, 9, 11, 12, 13, 14, 16, 19, 21, 22, 23, 24, 29, 41, 45, 53, 54, 55, 56]) (n := 2000) 2 ?_ ?_
                · simp only [go_sem, ↓reduceIte, hP]
                  omega
                · simp only [go_sem, ↓reduceIte, hP]
                  rw [List.take_of_length_le (show (rsM g l).length ≤ totM l by omega)]
                  refine xd_call hE (ks := [0, 1, 2, 3, 6, 7, 8, 9, 11, 12, 13, 14, 16, 19, 21, 22, 23, 24, 29, 41, 45, 53, 54, 55, 56]) (n := 2000) (by rw [hP]; exact header_c g (j.gen + 1) hgu) ?_
                  simp only [go_sem, ↓reduceIte, hP]
                  have hpc := perform_c j.ps j.bs n budget [.er (1 - j.page), .wr (1 - j.page) 16 (rsM g l), .wr (1 - j.page) 0 (headM g)] 3 rfl (by decide) hn hb hB (ok_ops3 _ _ _ _ _ _ _ (by omega) (by rw [headM_len]; decide))
                  simp only [List.map_cons, List.map_nil, opP, hlen, headM_len] at hpc
                  refine xd_callF hE (ks := [0, 1, 2, 3, 6, 7, 8, 9, 11, 12, 13, 14, 16, 19, 21, 22, 23, 24, 29, 41, 45, 53, 54, 55, 56]) (n := 2000) (by simp only [go_sem, ↓reduceIte]; rfl) (by simp only [go_sem, ↓reduceIte]) rfl (by rw [hP]; exact hpc) (by simp only [go_sem, idsA, idsL, and_self]) ?_
                  simp only [go_sem, ↓reduceIte, hP]
                  have hR : performM ⟨j.ps, j.bs⟩ budget [.er (1 - j.page), .wr (1 - j.page) 16 (rsM g l), .wr (1 - j.page) 0 (headM g)] = R := hR
                  rw [hR]
                  exact ⟨by kernel_rfl, by simp only [and_self]⟩

end Go.Proofs.YtebndjnkmcahaaaGreatDoor
end
/-
  Contracts of the reference of flash and journal (package passkeyref7). Own work; no statement of the seat is proved here.
-/
section
namespace Go.Proofs.YtebndjnkmcahaaaGreatDoor
set_option linter.unusedSimpArgs false
set_option linter.unusedVariables false
open Go Go.Abs Go.RowKit

theorem rValidate_c (ps : Int) (n : Nat) (bs : List PV) (hb : n < 1000000000) : FPure Tryz.prog 186 [.agg [.i ps, .p (.data 1 n bs)]] (.i (validM ps n)) := by
  refine fpure_x hmix Tryz.func186 rfl (by kernel_rfl) Tryz.ntmps186 Tryz.results186 (by simp) (by simp [idsL, idsA]) [0, 1, 2, 10, 32] ?_; intro c hP h0 hE
  simp only [go_sem, ↓reduceIte, hP]
  obtain ⟨R, hR⟩ : ∃ R, validM ps n = R := ⟨_, rfl⟩; rw [hR] at hE; (try rw [hR])
  unfold validM at hR
  have hd : n / ps.toNat ≤ n := Nat.div_le_self _ _
  have key : 0 < ps → (n : Int).tmod ps = ((n % ps.toNat : Nat) : Int) ∧ (n : Int).tdiv ps = ((n / ps.toNat : Nat) : Int) := fun h => ⟨tmod_nat n ps h, tdiv_nat n ps h⟩
  generalize n / ps.toNat = d at *
  generalize n % ps.toNat = r at *
  split
  · split
    · split at hR <;> omega
    · obtain ⟨k1, k2⟩ := key (by omega)
      rw [k1, k2, wrap_i64_id (by omega) (by omega)]
      rw [if_neg (by omega)] at hR
      split
      · refine ⟨by omega, ?_⟩
        split
        · refine ⟨by omega, ?_⟩
          split <;> (split at hR <;> omega)
        · split at hR <;> omega
      · split at hR <;> omega
  · split at hR <;> omega

theorem rArea_c (ps : Int) (bs : List UInt8) (n : Nat) (page at_ m : Int) (hn : bs.length = n) (hb : n < 1000000000) (hm : 0 ≤ m ∧ m < 1000000000) : FPure Tryz.prog 227 [.agg [.i ps, .p (.data 1 n (bs.map bt))], .i page, .i at_, .i m] (.i (areaM ⟨ps, bs⟩ page at_ m)) := by
  refine fpure_x hmix Tryz.func227 rfl (by kernel_rfl) Tryz.ntmps227 Tryz.results227 (by simp) (by simp [idsL, idsA]) [0, 1, 2, 3, 4, 8, 9, 13, 48] ?_; intro c hP h0 hE
  simp only [go_sem, ↓reduceIte, hP]
  first | refine xw_call hE (ks := [0, 1, 2, 3, 4, 8, 9, 13, 48]) (n := 2000) (by rw [hP]; exact rValidate_c ps n _ hb) ?_ | refine xd_call hE (ks := [0, 1, 2, 3, 4, 8, 9, 13, 48]) (n := 2000) (by rw [hP]; exact rValidate_c ps n _ hb) ?_
  simp only [go_sem, ↓reduceIte, hP]
  split
  · rename_i h
    have hv : validM ps bs.length ≠ 0 := by rw [hn]; exact h
    rw [areaM_inv (f := ⟨ps, bs⟩) page at_ m hv]
    simp only [hn]
  · rename_i h
    obtain ⟨p, k, rfl, hp1, hp2, rfl, hk1, hk2⟩ := valid_ok (show validM ps n = 0 by omega)
    have hd : ((p * k : Nat) : Int).tdiv p = k := by rw [tdiv_nat _ p (by omega), Int.toNat_natCast, Nat.mul_div_cancel_left k (by omega)]
    rw [hd, wrap_i64_id (n := (k : Int)) (by omega) (by omega)]
    have out : ¬ (0 ≤ page ∧ page < k ∧ 0 ≤ at_ ∧ at_ ≤ p - m) → areaM ⟨p, bs⟩ page at_ m = 9 := fun hx => areaM_out hp1 hp2 hk1 hk2 hn hx
    split
    · refine ⟨by omega, ?_⟩
      split
      · split
        · split
          · split
            · rw [wrap_i64_id (by omega) (by omega)]
              split
              · rw [out (by omega)]
              · rw [areaM_in hp1 hp2 hk1 hk2 hn (by omega)]
            · rw [out (by omega)]
          · omega
        · rw [out (by omega)]
      · rw [out (by omega)]
    · rw [out (by omega)]

def chgM (b : List UInt8) (i : Nat) (x : UInt8) : UInt8 := if b.length = 0 then 255 else x &&& b.getD i 0
def budAt (budget : Int) (i : Nat) : Int := if 0 ≤ budget then budget - i else budget
theorem byte255 : (255 : Int) = ((255 : UInt8).toNat : Int) := rfl

set_option maxHeartbeats 2000000 in
theorem rChange_c (ps : Int) (bs : List UInt8) (n a m : Nat) (b : List UInt8) (mb : Nat) (budget : Int) (hn : bs.length = n) (ha : a + m ≤ n) (hb : n < 1000000000) (hmb : b.length = mb) (hmm : mb = 0 ∨ mb = m) (hB : i64 budget) :
    FPure Tryz.prog 228 [.agg [.i ps, .p (.data 1 n (bs.map bt))], .i a, .i m, .p (.data 1 mb (b.map bt)), .i budget] (frAV (alterM ⟨ps, bs⟩ a m budget (chgM b))) := by
  unfold i64 at hB
  refine fpure_x hmix Tryz.func228 rfl (by kernel_rfl) Tryz.ntmps228 Tryz.results228 (by simp) (by simp [idsL, idsA]) [0, 1, 2, 3, 4, 5, 10, 11, 12, 13, 20, 24, 28, 49] ?_; intro c hP h0 hE
  simp only [go_sem, ↓reduceIte, hP, cb_def]
  refine ⟨⟨by omega, by omega⟩, ?_⟩
  refine xw_loop hE h0 [0, 1, 2, 3, 4, 5, 10, 11, 12, 13, 20, 24, 28, 49] (α := { i : Nat // i ≤ m ∧ (0 ≤ budget → (i : Int) ≤ budget) }) (fun i => ⟨54, [(1, .i a), (2, .i m), (3, .p (.data 1 mb (b.map bt))), (4, .i (budAt budget i.1)), (5, .ptr 0 0), (10, .ptr 1 0), (13, .i i.1)],
      [(0, some ⟨32, [.i ps, .sl 2 0 n 1]⟩), (2, some ⟨byteT, cb (updN (chgM b) bs a i.1)⟩), (1, some ⟨32, [.i 0, .p (.v (.slice none 0 0))]⟩)], 3⟩) (fun i => m - i.1) ⟨0, Nat.zero_le _, fun h => by simpa using h⟩ [] (fun i => i) ?_ ?_
  · refine ⟨rfl, ?_, ?_, rfl, rfl, trivial, fun i h => h⟩
    · simp only [go_sem, ↓reduceIte, budAt]
      split <;> omega
    · simp only [go_sem, ↓reduceIte, updN]
      exact cb_viewA _ _ _ _
  · rintro ⟨i, hi, hib⟩
    generalize hu : updN (chgM b) bs a i = us
    have hul : us.length = n := by rw [← hu, updN_len, hn]
    obtain ⟨bi, hbi⟩ : ∃ bi, budAt budget i = bi := ⟨_, rfl⟩
    have hbd : (0 ≤ budget ∧ bi = budget - i) ∨ (budget < 0 ∧ bi = budget) := by
      unfold budAt at hbi; split at hbi <;> omega
    have hnx : budAt budget (i + 1) = if 0 ≤ budget then bi - 1 else bi := by unfold budAt; split <;> omega
    have hun : updN (chgM b) bs a (i + 1) = us.set (a + i) (chgM b i (us.getD (a + i) 0)) := by simp only [updN, hu]
    simp only
    rw [hbi]
    have wa : IntKind.i64.wrap ((a : Int) + (i : Int)) = ((a + i : Nat) : Int) ∨ ¬ i < m := by
      by_cases h : i < m
      · left; rw [wrap_i64_id (by omega) (by omega)]; omega
      · exact .inr h
    simp only [go_sem, ↓reduceIte, hP, w_and8, cb_set, byte255]
    split
    · have wa := wa.resolve_right (by omega)
      rw [wa]
      simp only [Int.toNat_natCast]
      have wi : IntKind.i64.wrap ((i : Int) + 1) = (i : Int) + 1 := wrap_i64_id (by omega) (by omega)
      split
      · obtain ⟨h0b, hib'⟩ : 0 ≤ budget ∧ budget = i := by omega
        have hr : reachM m budget = i := by unfold reachM; rw [if_pos (by omega)]; omega
        have hl : leftM m budget = 0 := by unfold leftM; rw [if_pos (by omega)]
        have hp : powM m budget = 16 := by unfold powM; rw [if_pos (by omega)]
        simp only [alterM, hr, hl, hp, hu, hul, List.take_of_length_le (Nat.le_of_eq hul), and_self, Nat.le_refl]
      · rw [wi]
        split
        · have hc : chgM b i (us.getD (a + i) 0) = 255 := by unfold chgM; rw [if_pos (by omega)]
          refine ⟨⟨by omega, by omega⟩, by omega, ?_⟩
          split
          · rw [wrap_i64_id (n := bi - 1) (by omega) (by omega)]
            refine ⟨⟨i + 1, by omega, fun h => by omega⟩, by show m - (i + 1) < m - i; omega, subI rfl ?_ ?_ rfl rfl (Nat.le_refl _)⟩
            · simp only [go_sem, ↓reduceIte, hnx]
              first
                | (rw [if_pos (by omega)]; exact ⟨by omega, by omega⟩)
                | (rw [if_neg (by omega)]; exact ⟨by omega, by omega⟩)
            · simp only [go_sem, ↓reduceIte, hun, hc]
              exact cb_viewA _ _ _ _
          · refine ⟨⟨i + 1, by omega, fun h => by omega⟩, by show m - (i + 1) < m - i; omega, subI rfl ?_ ?_ rfl rfl (Nat.le_refl _)⟩
            · simp only [go_sem, ↓reduceIte, hnx]
              first
                | (rw [if_pos (by omega)]; exact ⟨by omega, by omega⟩)
                | (rw [if_neg (by omega)]; exact ⟨by omega, by omega⟩)
            · simp only [go_sem, ↓reduceIte, hun, hc]
              exact cb_viewA _ _ _ _
        · have hc : chgM b i (us.getD (a + i) 0) = us.getD (a + i) 0 &&& b.getD i 0 := by unfold chgM; rw [if_neg (by omega)]
          refine ⟨⟨by omega, by omega⟩, by omega, ⟨by omega, by omega⟩, by omega, ⟨by omega, by omega⟩, by omega, by kernel_rfl, ?_⟩
          split
          · rw [wrap_i64_id (n := bi - 1) (by omega) (by omega)]
            refine ⟨⟨i + 1, by omega, fun h => by omega⟩, by show m - (i + 1) < m - i; omega, subI rfl ?_ ?_ rfl rfl (Nat.le_refl _)⟩
            · simp only [go_sem, ↓reduceIte, hnx]
              first
                | (rw [if_pos (by omega)]; exact ⟨by omega, by omega⟩)
                | (rw [if_neg (by omega)]; exact ⟨by omega, by omega⟩)
            · simp only [go_sem, ↓reduceIte, hun, hc]
              exact cb_viewA _ _ _ _
          · refine ⟨⟨i + 1, by omega, fun h => by omega⟩, by show m - (i + 1) < m - i; omega, subI rfl ?_ ?_ rfl rfl (Nat.le_refl _)⟩
            · simp only [go_sem, ↓reduceIte, hnx]
              first
                | (rw [if_pos (by omega)]; exact ⟨by omega, by omega⟩)
                | (rw [if_neg (by omega)]; exact ⟨by omega, by omega⟩)
            · simp only [go_sem, ↓reduceIte, hun, hc]
              exact cb_viewA _ _ _ _
    · obtain rfl : i = m := by omega
      have hr : reachM i budget = i := by unfold reachM; rw [if_neg (by omega)]
      have hl : leftM i budget = bi := by unfold leftM; rw [if_neg (by omega)]; split <;> omega
      have hp : powM i budget = 0 := by unfold powM; rw [if_neg (by omega)]
      simp only [alterM, hr, hl, hp, hu, hul, List.take_of_length_le (Nat.le_of_eq hul), and_self, Nat.le_refl]

theorem updN_congr {c d : Nat → UInt8 → UInt8} (bs : List UInt8) (a : Nat) : ∀ m, (∀ i x, i < m → c i x = d i x) → updN c bs a m = updN d bs a m
  | 0, _ => rfl
  | m + 1, h => by
    simp only [updN]
    rw [updN_congr bs a m fun i x hi => h i x (by omega), h m _ (by omega)]
theorem reachM_le (m : Nat) (budget : Int) : reachM m budget ≤ m := by unfold reachM; split <;> omega
theorem alter_chg (f : Fl) (a m : Nat) (budget : Int) (b : List UInt8) (hm : b.length = m) : alterM f a m budget (chgM b) = alterM f a m budget (progCh b) := by
  unfold alterM
  rw [updN_congr f.bs a (reachM m budget) (c := chgM b) (d := progCh b)]
  intro i x hi
  have := reachM_le m budget
  unfold chgM progCh
  rw [if_neg (by omega)]
theorem alter_nil (f : Fl) (a m : Nat) (budget : Int) : alterM f a m budget (chgM []) = alterM f a m budget (fun _ _ => 255) := by
  unfold alterM
  rw [updN_congr f.bs a (reachM m budget) (c := chgM []) (d := fun _ _ => 255)]
  intro i x hi
  rfl

theorem rProgram_c (ps : Int) (bs : List UInt8) (n : Nat) (page at_ : Int) (b : List UInt8) (m : Nat) (budget : Int) (hn : bs.length = n) (hb : n < 1000000000) (hm : b.length = m) (hmb : m < 1000000000) (hB : i64 budget) :
    FPure Tryz.prog 191 [.agg [.i ps, .p (.data 1 n (bs.map bt))], .i page, .i at_, .p (.data 1 m (b.map bt)), .i budget] (frAV (progM ⟨ps, bs⟩ page at_ b budget)) := by
  refine fpure_x hmix Tryz.func191 rfl (by kernel_rfl) Tryz.ntmps191 Tryz.results191 (by simp) (by simp [idsL, idsA]) [0, 1, 2, 3, 4, 5, 10, 11, 12, 13, 21] ?_; intro c hP h0 hE
  simp only [go_sem, ↓reduceIte, hP]
  first | refine xw_call hE (ks := [0, 1, 2, 3, 4, 5, 10, 11, 12, 13, 21]) (n := 2000) (by rw [hP]; exact rArea_c ps bs n page at_ m hn hb (by omega)) ?_ | refine xd_call hE (ks := [0, 1, 2, 3, 4, 5, 10, 11, 12, 13, 21]) (n := 2000) (by rw [hP]; exact rArea_c ps bs n page at_ m hn hb (by omega)) ?_
  simp only [go_sem, ↓reduceIte, hP]
  split
  · rename_i h
    rw [progM_fail hm rfl h]
    simp only [failF, List.length_nil, List.map_nil, and_self]
  · rename_i h
    have h : areaM ⟨ps, bs⟩ page at_ m = 0 := by omega
    have hv : validM ps n = 0 := by
      by_cases hv : validM ps n = 0
      · exact hv
      · have := areaM_inv (f := ⟨ps, bs⟩) page at_ m (by rw [hn]; exact hv)
        rw [h, hn] at this; exact absurd this.symm hv
    obtain ⟨p, k, rfl, hp1, hp2, rfl, hk1, hk2⟩ := valid_ok hv
    have hin : 0 ≤ page ∧ page < k ∧ 0 ≤ at_ ∧ at_ ≤ p - m := by
      by_cases hx : 0 ≤ page ∧ page < k ∧ 0 ≤ at_ ∧ at_ ≤ p - m
      · exact hx
      · rw [areaM_out hp1 hp2 hk1 hk2 hn hx] at h; cases h
    have hR := progM_ok (budget := budget) hm h
    obtain ⟨q, rfl⟩ := Int.eq_ofNat_of_zero_le (show 0 ≤ page by omega)
    obtain ⟨a, rfl⟩ := Int.eq_ofNat_of_zero_le (show 0 ≤ at_ by omega)
    have hle := page_le (p := p) (show q < k by omega)
    have hqp : ((q : Int) * (p : Int) + a).toNat = q * p + a := by have e : (q : Int) * (p : Int) = ((q * p : Nat) : Int) := by simp
                                                                   rw [e]; omega
    have hw : IntKind.i64.wrap (((q * p : Nat) : Int) + (a : Int)) = ((q * p + a : Nat) : Int) := by rw [wrap_i64_id (by omega) (by omega)]; simp
    rw [mul_i64 q p (by omega), hw]
    simp only [hqp] at hR
    first | refine xw_call hE (ks := [0, 1, 2, 3, 4, 5, 10, 11, 12, 13, 21]) (n := 2000) (by rw [hP]; exact rChange_c p bs _ (q * p + a) m b m budget hn (by omega) hb hm (.inr rfl) hB) ?_ | refine xd_call hE (ks := [0, 1, 2, 3, 4, 5, 10, 11, 12, 13, 21]) (n := 2000) (by rw [hP]; exact rChange_c p bs _ (q * p + a) m b m budget hn (by omega) hb hm (.inr rfl) hB) ?_
    rw [alter_chg _ _ _ _ _ hm]
    simp only [go_sem, ↓reduceIte, hP]
    simp only [hR, and_self]

theorem rErase_c (ps : Int) (bs : List UInt8) (n : Nat) (page budget : Int) (hn : bs.length = n) (hb : n < 1000000000) (hB : i64 budget) :
    FPure Tryz.prog 190 [.agg [.i ps, .p (.data 1 n (bs.map bt))], .i page, .i budget] (frAV (eraseM ⟨ps, bs⟩ page budget)) := by
  refine fpure_x hmix Tryz.func190 rfl (by kernel_rfl) Tryz.ntmps190 Tryz.results190 (by simp) (by simp [idsL, idsA]) [0, 1, 2, 3, 6, 7, 8, 9, 14] ?_; intro c hP h0 hE
  simp only [go_sem, ↓reduceIte, hP]
  first | refine xw_call hE (ks := [0, 1, 2, 3, 6, 7, 8, 9, 14]) (n := 2000) (by rw [hP]; exact rArea_c ps bs n page 0 0 hn hb (by omega)) ?_ | refine xd_call hE (ks := [0, 1, 2, 3, 6, 7, 8, 9, 14]) (n := 2000) (by rw [hP]; exact rArea_c ps bs n page 0 0 hn hb (by omega)) ?_
  simp only [go_sem, ↓reduceIte, hP]
  split
  · rename_i h
    rw [eraseM_fail rfl h]
    simp only [failF, List.length_nil, List.map_nil, and_self]
  · rename_i h
    have h : areaM ⟨ps, bs⟩ page 0 0 = 0 := by omega
    have hv : validM ps n = 0 := by
      by_cases hv : validM ps n = 0
      · exact hv
      · have := areaM_inv (f := ⟨ps, bs⟩) page 0 0 (by rw [hn]; exact hv)
        rw [h, hn] at this; exact absurd this.symm hv
    obtain ⟨p, k, rfl, hp1, hp2, rfl, hk1, hk2⟩ := valid_ok hv
    have hin : 0 ≤ page ∧ page < k ∧ 0 ≤ (0 : Int) ∧ (0 : Int) ≤ p - 0 := by
      by_cases hx : 0 ≤ page ∧ page < k ∧ 0 ≤ (0 : Int) ∧ (0 : Int) ≤ p - 0
      · exact hx
      · rw [areaM_out hp1 hp2 hk1 hk2 hn hx] at h; cases h
    have hR := eraseM_ok (budget := budget) h
    obtain ⟨q, rfl⟩ := Int.eq_ofNat_of_zero_le (show 0 ≤ page by omega)
    have hle := page_le (p := p) (show q < k by omega)
    have hqp : ((q : Int) * (p : Int)).toNat = q * p := by have e : (q : Int) * (p : Int) = ((q * p : Nat) : Int) := by simp
                                                           rw [e]; omega
    rw [mul_i64 q p (by omega)]
    simp only [hqp, Int.toNat_natCast] at hR
    first | refine xw_call hE (ks := [0, 1, 2, 3, 6, 7, 8, 9, 14]) (n := 2000) (by rw [hP]; exact (rChange_c p bs _ (q * p) p [] 0 budget hn (by omega) hb rfl (.inl rfl) hB).nil (by simp only [go_sem, ↓reduceIte])) ?_ | refine xd_call hE (ks := [0, 1, 2, 3, 6, 7, 8, 9, 14]) (n := 2000) (by rw [hP]; exact (rChange_c p bs _ (q * p) p [] 0 budget hn (by omega) hb rfl (.inl rfl) hB).nil (by simp only [go_sem, ↓reduceIte])) ?_
    rw [alter_nil]
    simp only [go_sem, ↓reduceIte, hP]
    simp only [hR, and_self]

end Go.Proofs.YtebndjnkmcahaaaGreatDoor
end

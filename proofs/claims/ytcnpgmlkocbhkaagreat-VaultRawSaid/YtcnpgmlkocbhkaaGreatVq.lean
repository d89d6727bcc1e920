/-
  Contract of the law's helper spoil (package passkeylaw9). Own work; no statement of the seat is proved here.
-/
import Derived.Test.YtcnpgmlkocbhkaaGreatVp
namespace Go.Proofs.YtcnpgmlkocbhkaaGreat
set_option linter.unusedSimpArgs false
set_option linter.unusedVariables false
open Go Go.Abs Go.RowKit

def spK (s : Int) : Int := band .i64 (ishr .i64 s 4) 65535
def spX (s : Int) (x : UInt8) : UInt8 := UInt8.ofNat (bxor .u8 (x.toNat : Int) (ishl .u8 1 (IntKind.u64.wrap (band .i64 (spK s) 7)))).toNat
def vspoilM (v : Vt) (s : Int) : Vt :=
  if band .i64 s 15 = 0 then { v with prs := v.prs ++ [(band .i64 (spK s) 31, [1])] } else
  if band .i64 s 15 = 1 then ⟨{ v.j with tail := IntKind.i64.wrap (v.j.tail + 1) }, v.prs⟩ else
  if band .i64 s 15 = 2 then ⟨{ v.j with bs := v.j.bs.set ((spK s).tmod (v.j.bs.length : Int)).toNat (spX s (v.j.bs.getD ((spK s).tmod (v.j.bs.length : Int)).toNat 0)) }, v.prs⟩ else v

theorem prA_def (l : Store) : List.map AV.p (prCs l) = prA l := rfl
theorem fz1L_app (id : Nat) (b : Blk) : ∀ xs ys, fz1L id b (xs ++ ys) = fz1L id b xs ++ fz1L id b ys
  | [], ys => rfl
  | x :: xs, ys => by simp only [List.cons_append, fz1L, fz1L_app id b xs ys]
theorem fz1OL_app (id : Nat) (b : Blk) : ∀ xs ys, fz1OL id b (xs ++ ys) = (fz1OL id b xs ∧ fz1OL id b ys)
  | [], ys => by simp [fz1OL]
  | x :: xs, ys => by simp only [List.cons_append, fz1OL, fz1OL_app id b xs ys, and_assoc]

set_option maxHeartbeats 1000000 in
theorem lspoil9_c (v : Vt) (n : Nat) (hn : v.j.bs.length = n) (h1 : 1 ≤ n) (hb : n < 1000000000) (hp : v.prs.length < 1000000) (s : Int) : FPure Tryz.prog 12 [.agg [.i v.j.ps, .p (.data 1 n (v.j.bs.map bt)), .i v.j.page, .i v.j.gen, .i v.j.tail, .b v.j.torn, .p (PL v.prs)], .i s] (vtAV (vspoilM v s)) := by
  refine fpure_x hmix Tryz.func12 rfl (by kernel_rfl) Tryz.ntmps12 Tryz.results12 (by simp) (by simp [idsL, idsA]) (1000011 :: [0, 1, 2, 4, 5, 14, 15, 26, 34]) ?_; intro c hP h0 hE
  obtain ⟨R, hR⟩ : ∃ R, vspoilM v s = R := ⟨_, rfl⟩; rw [hR] at hE; (try rw [hR])
  unfold vspoilM spK at hR
  simp only [go_sem, Nat.reduceAdd, Nat.reduceMul, ↓reduceIte, reduceCtorEq, Nat.reduceLeDiff, Int.reduceToNat, Int.reduceLT, Int.reduceLE, Int.reduceEq, Int.reduceNe, Int.reduceBEq, Int.reduceBNe, not_false_eq_true, not_true_eq_false, hP, cb_def, prA_def]
  have hk := band_bd (ishr .i64 s 4) 65535 (by decide) (by decide)
  generalize hkk : band .i64 (ishr .i64 s 4) 65535 = k at *
  have e1 : List.take n (v.j.bs) = v.j.bs := List.take_of_length_le (by omega)
  have hal := prA_all v.prs
  have hpl := prCs_len v.prs
  refine ⟨⟨by omega, by omega⟩, ?_⟩
  split
  · rename_i h
    rw [if_pos h] at hR
    subst hR
    refine ⟨⟨by omega, by omega⟩, ?_⟩
    refine saw_frz1 hE (ks := [0, 1, 2, 4, 5, 14, 15, 26, 34]) (n := 2000) 3 ?_ ?_
    · simp only [go_sem, Nat.reduceAdd, Nat.reduceMul, ↓reduceIte, reduceCtorEq, Nat.reduceLeDiff, Int.reduceToNat, Int.reduceLT, Int.reduceLE, Int.reduceEq, Int.reduceNe, Int.reduceBEq, Int.reduceBNe, not_false_eq_true, not_true_eq_false, hP, allQ_cb, fz1OL_prA, fz1OL_app]
    · simp only [go_sem, Nat.reduceAdd, Nat.reduceMul, ↓reduceIte, reduceCtorEq, Nat.reduceLeDiff, Int.reduceToNat, Int.reduceLT, Int.reduceLE, Int.reduceEq, Int.reduceNe, Int.reduceBEq, Int.reduceBNe, not_false_eq_true, not_true_eq_false, hP, fz1L_prA, fz1L_app]
      have hsn : prA v.prs ++ [AV.p (PV.v (Value.int IntKind.i64 (band IntKind.i64 k 31))), AV.p (PV.data 1 1 [PV.v (Value.int IntKind.u8 1)])] = prA (v.prs ++ [(band .i64 k 31, [1])]) := prA_snoc v.prs (band .i64 k 31) [1]
      have htl : List.take ((v.prs.length + 1) * 2) (prA (v.prs ++ [(band .i64 k 31, [1])])) = prA (v.prs ++ [(band .i64 k 31, [1])]) := List.take_of_length_le (by rw [prA_len]; simp)
      rw [hsn, htl]
      exact ⟨⟨by omega, allQ_prA _⟩, by omega, unQs_prA _⟩
  · rename_i h
    rw [if_neg h] at hR
    split
    · rename_i h
      rw [if_pos h] at hR
      subst hR
      refine xw_go hE (ks := [0, 1, 2, 4, 5, 14, 15, 26, 34]) (n := 2000) ?_
      simp only [go_sem, Nat.reduceAdd, Nat.reduceMul, ↓reduceIte, reduceCtorEq, Nat.reduceLeDiff, Int.reduceToNat, Int.reduceLT, Int.reduceLE, Int.reduceEq, Int.reduceNe, Int.reduceBEq, Int.reduceBNe, not_false_eq_true, not_true_eq_false, hP, hal]
      exact ⟨by omega, by omega⟩
    · rename_i h
      rw [if_neg h] at hR
      split
      · rename_i h
        rw [if_pos h] at hR
        have hx : ∀ y : Int, bxor .u8 (((v.j.bs.getD (k.tmod n).toNat 0).toNat : Nat) : Int) y = (((UInt8.ofNat (bxor .u8 (((v.j.bs.getD (k.tmod n).toNat 0).toNat : Nat) : Int) y).toNat).toNat : Nat) : Int) := fun y => by
          unfold bxor; rw [u8w]
        rw [hx, cb_set]
        have hm1 := Int.tmod_nonneg (n : Int) hk.1
        have hm2 := Int.tmod_lt_of_pos k (show (0 : Int) < n by omega)
        rw [hn] at hR
        have e2 : ∀ x, List.take n (v.j.bs.set (k.tmod n).toNat x) = v.j.bs.set (k.tmod n).toNat x := fun x => List.take_of_length_le (by simp; omega)
        subst hR
        refine ⟨⟨by omega, by omega⟩, by omega, ⟨hm1, hm2⟩, by omega, ⟨hm1, hm2⟩, by omega, by kernel_rfl, ?_⟩
        refine xw_go hE (ks := [0, 1, 2, 4, 5, 14, 15, 26, 34]) (n := 2000) ?_
        simp only [go_sem, Nat.reduceAdd, Nat.reduceMul, ↓reduceIte, reduceCtorEq, Nat.reduceLeDiff, Int.reduceToNat, Int.reduceLT, Int.reduceLE, Int.reduceEq, Int.reduceNe, Int.reduceBEq, Int.reduceBNe, not_false_eq_true, not_true_eq_false, hP, hal, e2, allQ_cb, unQs_cb]
        exact ⟨⟨by simp; omega, by omega⟩, by simp [hn], by unfold spX spK; rw [hkk]⟩
      · rename_i h
        rw [if_neg h] at hR
        subst hR
        refine xw_go hE (ks := [0, 1, 2, 4, 5, 14, 15, 26, 34]) (n := 2000) ?_
        simp only [go_sem, Nat.reduceAdd, Nat.reduceMul, ↓reduceIte, reduceCtorEq, Nat.reduceLeDiff, Int.reduceToNat, Int.reduceLT, Int.reduceLE, Int.reduceEq, Int.reduceNe, Int.reduceBEq, Int.reduceBNe, not_false_eq_true, not_true_eq_false, hP, hal]
        exact ⟨by omega, by omega⟩

theorem vspoil_len (v : Vt) (s : Int) : (vspoilM v s).j.bs.length = v.j.bs.length ∧ (vspoilM v s).prs.length ≤ v.prs.length + 1 := by
  unfold vspoilM
  repeat' split
  all_goals simp

theorem same9_c (a b : Vt) (i e k f : Int) (n1 n2 : Nat) (ha : a.prs.length < 1000000000) : FPure Tryz.prog 15 [.agg [.i a.j.ps, .p (.data 1 n1 (a.j.bs.map bt)), .i a.j.page, .i a.j.gen, .i a.j.tail, .b a.j.torn, .p (PL a.prs)], .i i, .i e, .agg [.i b.j.ps, .p (.data 1 n2 (b.j.bs.map bt)), .i b.j.page, .i b.j.gen, .i b.j.tail, .b b.j.torn, .p (PL b.prs)], .i k, .i f] (.b (sameJ a.j b.j && decide (a.prs = b.prs) && i == k && e == f)) := by
  refine fpure_x hmix Tryz.func15 rfl (by kernel_rfl) Tryz.ntmps15 Tryz.results15 (by simp) (by simp [idsL, idsA]) [0, 1, 2, 3, 4, 5, 6, 9, 12] ?_; intro c hP h0 hE
  simp only [go_sem, Nat.reduceAdd, Nat.reduceMul, ↓reduceIte, reduceCtorEq, Nat.reduceLeDiff, Int.reduceToNat, Int.reduceLT, Int.reduceLE, Int.reduceEq, Int.reduceNe, Int.reduceBEq, Int.reduceBNe, not_false_eq_true, not_true_eq_false, hP]
  first | refine xw_call hE (ks := [0, 1, 2, 3, 4, 5, 6, 9, 12]) (n := 2000) (by rw [hP]; exact sameVault_c a b n1 n2 ha) ?_ | refine xd_call hE (ks := [0, 1, 2, 3, 4, 5, 6, 9, 12]) (n := 2000) (by rw [hP]; exact sameVault_c a b n1 n2 ha) ?_
  simp only [go_sem, Nat.reduceAdd, Nat.reduceMul, ↓reduceIte, reduceCtorEq, Nat.reduceLeDiff, Int.reduceToNat, Int.reduceLT, Int.reduceLE, Int.reduceEq, Int.reduceNe, Int.reduceBEq, Int.reduceBNe, not_false_eq_true, not_true_eq_false, hP]
  generalize (sameJ a.j b.j && decide (a.prs = b.prs)) = u
  cases u <;> by_cases h : i = k <;> simp [h]

/-- a call whose arguments are seen with the blocks S frozen -/
theorem xw_callV {c : Ctx} {E : AS → Prop} (hE : XOk c E) {ks : List Nat} {n : Nat} {f : FuncId} {vs vs0 : List AV} {o : Oper} {all : Array Oper} {os : List Oper} {k : List It} {st : AS} {v : AV} (S : List Nat) (hf : FPure c.P f vs0 v) (hi : idsL [] vs0)
    (hs : viewAs (hget st.hp) S (fun i => i) vs0 vs) (hl : liveS st.hp S) (hlt : ltAll st.nx S = true) (hv : idsA [] v) (h : XW c E ks n (.ops all os :: k) (eff st o.dst v (delL S) st.nx)) : CallG c f vs o all os k st := by
  refine xw_con hE (ks := ks) (n := n) S (fun i => i) st.nx (hf.con hi) ⟨hs, trivial, rfl, hl, Nat.le_refl _, fun i hi => (by cases hi), hv, trivial, hlt⟩ ?_
  rw [renA_id]
  exact h

theorem VOk.ps512 {v : Vt} {G : Int} (h : VOk v G) : (512 : Int) ≤ v.j.ps ∧ v.j.ps ≤ 8192 := by
  obtain ⟨p, k, h⟩ := h.mt.vfl
  have h1 : v.j.ps = p := h.ps
  have h2 := h.p1
  have h3 := h.p2
  omega
def cP : Store := [(0, [97, 98, 99])]
def oneA : List UInt8 := [97]
def aP : Store := [(1, [97])]
def bP : Store := [(1, [])]
theorem idsVr (r : VR) : idsA [] (vrAV r) := by simp [vrAV, vtAV, idsA, idsL]

set_option maxHeartbeats 1000000 in
theorem awake9_c : FPure Tryz.prog 16 [] (.b true) := by
  have hnf : (newFl 512 2).bs = List.replicate (512 * 2) 255 := by
    have h2 : newFl 512 2 = ⟨512, List.replicate 1024 255⟩ := by unfold newFl; rw [if_neg (by decide)]; rfl
    rw [h2]
  obtain ⟨he0, hv0, hp0⟩ := fresh_ok newFl_ok (blank_11 newFl_ok hnf)
  clear hnf
  have hps := hv0.ps512
  refine fpure_x hmix Tryz.func16 rfl (by kernel_rfl) Tryz.ntmps16 Tryz.results16 (by simp) (by simp [idsL, idsA]) [0, 1, 3, 5, 6, 8, 9, 11] ?_; intro c hP h0 hE
  simp only [go_sem, Nat.reduceAdd, Nat.reduceMul, ↓reduceIte, reduceCtorEq, Nat.reduceLeDiff, Int.reduceToNat, Int.reduceLT, Int.reduceLE, Int.reduceEq, Int.reduceNe, Int.reduceBEq, Int.reduceBNe, not_false_eq_true, not_true_eq_false, hP]
  first | refine xw_call hE (ks := [0, 1, 3, 5, 6, 8, 9, 11]) (n := 2000) (by rw [hP]; exact newFlash_c 512 2) ?_ | refine xd_call hE (ks := [0, 1, 3, 5, 6, 8, 9, 11]) (n := 2000) (by rw [hP]; exact newFlash_c 512 2) ?_
  simp only [go_sem, Nat.reduceAdd, Nat.reduceMul, ↓reduceIte, reduceCtorEq, Nat.reduceLeDiff, Int.reduceToNat, Int.reduceLT, Int.reduceLE, Int.reduceEq, Int.reduceNe, Int.reduceBEq, Int.reduceBNe, not_false_eq_true, not_true_eq_false, hP]
  first | refine xw_call hE (ks := [0, 1, 3, 5, 6, 8, 9, 11]) (n := 2000) (by rw [hP]; exact vopen_c (newFl 512 2).ps (newFl 512 2).bs _ (-1) rfl (by rw [newFl_ok.len]; decide) (by unfold i64; decide)) ?_ | refine xd_call hE (ks := [0, 1, 3, 5, 6, 8, 9, 11]) (n := 2000) (by rw [hP]; exact vopen_c (newFl 512 2).ps (newFl 512 2).bs _ (-1) rfl (by rw [newFl_ok.len]; decide) (by unfold i64; decide)) ?_
  have hj2 : vopenM ⟨(newFl 512 2).ps, (newFl 512 2).bs⟩ (-1) = ropenM (newFl 512 2) (-1) := open_law _ _
  rw [hj2]
  generalize ropenM (newFl 512 2) (-1) = X at *
  have hXl := hv0.mt.len
  simp only [go_sem, Nat.reduceAdd, Nat.reduceMul, ↓reduceIte, reduceCtorEq, Nat.reduceLeDiff, Int.reduceToNat, Int.reduceLT, Int.reduceLE, Int.reduceEq, Int.reduceNe, Int.reduceBEq, Int.reduceBNe, not_false_eq_true, not_true_eq_false, hP]
  have hgv : ∀ v : Vt, ∀ l, v.prs = [] → withM v.prs l = withM [] l := fun v l h => by rw [h]
  have hw1 : withM X.v.prs aP = [(1, [97])] := by rw [hp0]; rfl
  have hput1 : (rputM X.v aP (-1)).err = 0 ∧ VOk (rputM X.v aP (-1)).v 2 ∧ (rputM X.v aP (-1)).v.prs = [(1, [97])] ∧ (rputM X.v aP (-1)).v.j.ps = X.v.j.ps := by
    rcases put_ok hv0 (by decide) aP (-1) with ⟨h1, h2, h3, _, h5⟩ | ⟨_, _, h, _⟩ | ⟨_, _, _, h⟩
    · exact ⟨h1, h2, by rw [h3, hw1], h5⟩
    · omega
    · exfalso
      rcases h with h | h
      · exact h (by decide)
      · rw [hw1] at h; simp [szM] at h; omega
  refine xw_callV hE (ks := [0, 1, 3, 5, 6, 8, 9, 11]) (n := 2000) [3] (by rw [hP]; exact vput_c X.v _ aP (-1) rfl (by omega) (by decide) (by decide) (by unfold i64; decide)) (by simp [idsL, idsA]) (by simp only [go_sem, Nat.reduceAdd, Nat.reduceMul, ↓reduceIte, reduceCtorEq, Nat.reduceLeDiff, Int.reduceToNat, Int.reduceLT, Int.reduceLE, Int.reduceEq, Int.reduceNe, Int.reduceBEq, Int.reduceBNe, not_false_eq_true, not_true_eq_false, aP, prCs_cons, prCs_nil, byP]; exact ⟨.head _, _, rfl, Nat.le_refl _, rfl, rfl, rfl⟩) (by simp only [go_sem, Nat.reduceAdd, Nat.reduceMul, ↓reduceIte, reduceCtorEq, Nat.reduceLeDiff, Int.reduceToNat, Int.reduceLT, Int.reduceLE, Int.reduceEq, Int.reduceNe, Int.reduceBEq, Int.reduceBNe, not_false_eq_true, not_true_eq_false]; rfl) rfl (idsVr _) ?_
  rw [put_law]
  obtain ⟨he1, hv1, hp1, hps1⟩ := hput1
  generalize rputM X.v aP (-1) = Y at *
  have hYl := hv1.mt.len
  simp only [go_sem, Nat.reduceAdd, Nat.reduceMul, ↓reduceIte, reduceCtorEq, Nat.reduceLeDiff, Int.reduceToNat, Int.reduceLT, Int.reduceLE, Int.reduceEq, Int.reduceNe, Int.reduceBEq, Int.reduceBNe, not_false_eq_true, not_true_eq_false, hP]
  have hw2 : withM Y.v.prs bP = [] := by rw [hp1]; rfl
  have hput2 : (rputM Y.v bP (-1)).err = 0 ∧ VOk (rputM Y.v bP (-1)).v 3 ∧ (rputM Y.v bP (-1)).v.prs = [] := by
    rcases put_ok hv1 (by decide) bP (-1) with ⟨h1, h2, h3, _⟩ | ⟨_, _, h, _⟩ | ⟨_, _, _, h⟩
    · exact ⟨h1, h2, by rw [h3, hw2]⟩
    · omega
    · exfalso
      rcases h with h | h
      · exact h (by decide)
      · rw [hw2] at h; simp [szM] at h; omega
  refine xw_callV hE (ks := [0, 1, 3, 5, 6, 8, 9, 11]) (n := 2000) [5] (by rw [hP]; exact vput_c Y.v _ bP (-1) rfl (by omega) (by decide) (by decide) (by unfold i64; decide)) (by simp [idsL, idsA]) (by simp only [go_sem, Nat.reduceAdd, Nat.reduceMul, ↓reduceIte, reduceCtorEq, Nat.reduceLeDiff, Int.reduceToNat, Int.reduceLT, Int.reduceLE, Int.reduceEq, Int.reduceNe, Int.reduceBEq, Int.reduceBNe, not_false_eq_true, not_true_eq_false, bP, prCs_cons, prCs_nil, byP]; exact ⟨.head _, _, rfl, Nat.le_refl _, rfl, .inr rfl, rfl⟩) (by simp only [go_sem, Nat.reduceAdd, Nat.reduceMul, ↓reduceIte, reduceCtorEq, Nat.reduceLeDiff, Int.reduceToNat, Int.reduceLT, Int.reduceLE, Int.reduceEq, Int.reduceNe, Int.reduceBEq, Int.reduceBNe, not_false_eq_true, not_true_eq_false]; rfl) rfl (idsVr _) ?_
  rw [put_law]
  obtain ⟨he2, hv2, hp2⟩ := hput2
  generalize rputM Y.v bP (-1) = Z at *
  simp only [go_sem, Nat.reduceAdd, Nat.reduceMul, ↓reduceIte, reduceCtorEq, Nat.reduceLeDiff, Int.reduceToNat, Int.reduceLT, Int.reduceLE, Int.reduceEq, Int.reduceNe, Int.reduceBEq, Int.reduceBNe, not_false_eq_true, not_true_eq_false, hP, he0, he1, he2]
  have hg1 : vgetM 1 Y.v.prs = oneA := by rw [hp1]; rfl
  first | refine xw_call hE (ks := [0, 1, 3, 5, 6, 8, 9, 11]) (n := 2000) (by rw [hP]; exact vget_c Y.v _ 1 (by rw [hp1]; decide) (fun x hx => by rw [hp1] at hx; simp at hx; subst hx; exact ⟨by decide, by decide⟩)) ?_ | refine xd_call hE (ks := [0, 1, 3, 5, 6, 8, 9, 11]) (n := 2000) (by rw [hP]; exact vget_c Y.v _ 1 (by rw [hp1]; decide) (fun x hx => by rw [hp1] at hx; simp at hx; subst hx; exact ⟨by decide, by decide⟩)) ?_
  rw [hg1]
  simp only [go_sem, Nat.reduceAdd, Nat.reduceMul, ↓reduceIte, reduceCtorEq, Nat.reduceLeDiff, Int.reduceToNat, Int.reduceLT, Int.reduceLE, Int.reduceEq, Int.reduceNe, Int.reduceBEq, Int.reduceBNe, not_false_eq_true, not_true_eq_false, hP, hp1, hp2, prCs_cons, prCs_nil, byP, unBs_bt, Abs.strOf, allB_bt, toList_of]
  rw [if_pos (show oneA = [97] from rfl)]
  refine xw_callV hE (ks := [0, 1, 3, 5, 6, 8, 9, 11]) (n := 2000) [8] (by rw [hP]; exact vsize_c cP (by decide)) (by simp [idsL, idsA]) (by simp only [go_sem, Nat.reduceAdd, Nat.reduceMul, ↓reduceIte, reduceCtorEq, Nat.reduceLeDiff, Int.reduceToNat, Int.reduceLT, Int.reduceLE, Int.reduceEq, Int.reduceNe, Int.reduceBEq, Int.reduceBNe, not_false_eq_true, not_true_eq_false, cP, prCs_cons, prCs_nil, byP]; exact ⟨.head _, _, rfl, Nat.le_refl _, rfl, rfl, rfl⟩) (by simp only [go_sem, Nat.reduceAdd, Nat.reduceMul, ↓reduceIte, reduceCtorEq, Nat.reduceLeDiff, Int.reduceToNat, Int.reduceLT, Int.reduceLE, Int.reduceEq, Int.reduceNe, Int.reduceBEq, Int.reduceBNe, not_false_eq_true, not_true_eq_false]; rfl) rfl (by simp [idsA]) ?_
  have hsz : (szM cP : Int) = 6 := by decide
  simp only [go_sem, Nat.reduceAdd, Nat.reduceMul, ↓reduceIte, reduceCtorEq, Nat.reduceLeDiff, Int.reduceToNat, Int.reduceLT, Int.reduceLE, Int.reduceEq, Int.reduceNe, Int.reduceBEq, Int.reduceBNe, not_false_eq_true, not_true_eq_false, hP, hsz]

end Go.Proofs.YtcnpgmlkocbhkaaGreat

/-
  Contracts of the vault's and the reference's functions on pairs: Size, record, single / snapshot. Own work; no statement of the seat is proved here.
-/
import Derived.Test.YtebndjnkmcahaaaGreatDoorPg
namespace Go.Proofs.YtebndjnkmcahaaaGreatDoor
set_option linter.unusedSimpArgs false
set_option linter.unusedVariables false
open Go Go.Abs Go.RowKit

def prC (p : Int × List UInt8) : List PV := [.v (.int .i64 p.1), byP p.2]
def prCs (l : Store) : List PV := l.flatMap prC
def PL (l : Store) : PV := .data 2 l.length (prCs l)
theorem prCs_nil : prCs [] = [] := rfl
theorem prCs_cons (p : Int × List UInt8) (l : Store) : prCs (p :: l) = .v (.int .i64 p.1) :: byP p.2 :: prCs l := rfl
theorem prCs_app (l r : Store) : prCs (l ++ r) = prCs l ++ prCs r := by simp [prCs]
theorem prCs_len : ∀ l : Store, (prCs l).length = l.length * 2
  | [] => rfl
  | p :: l => by rw [prCs_cons]; simp [prCs_len l]; omega
theorem prCs_drop : ∀ (l : Store) (i : Nat), (prCs l).drop (i * 2) = prCs (l.drop i)
  | [], i => by simp [prCs_nil]
  | p :: l, 0 => by simp
  | p :: l, i + 1 => by
    rw [prCs_cons, show (i + 1) * 2 = i * 2 + 1 + 1 by omega]
    simp only [List.drop_succ_cons]
    exact prCs_drop l i
theorem prCs_at (l : Store) (i : Nat) (h : i < l.length) : (prCs l).drop (i * 2) = .v (.int .i64 (l.getD i (0, [])).1) :: byP (l.getD i (0, [])).2 :: prCs (l.drop (i + 1)) := by
  rw [prCs_drop, List.drop_eq_getElem_cons h, prCs_cons]
  simp [List.getD_eq_getElem?_getD, h]
theorem prCs_take (l : Store) (n : Nat) : (prCs l).take (n * 2) = prCs (l.take n) := by
  induction l generalizing n with
  | nil => simp [prCs_nil]
  | cons p l ih =>
    cases n with
    | zero => simp [prCs_nil]
    | succ n => rw [show (n + 1) * 2 = n * 2 + 1 + 1 by omega, prCs_cons, List.take_succ_cons, List.take_succ_cons, ih, List.take_succ_cons, prCs_cons]

def szM : Store → Nat
  | [] => 0
  | p :: l => 3 + p.2.length + szM l
theorem szM_app : ∀ l r, szM (l ++ r) = szM l + szM r
  | [], r => by simp [szM]
  | p :: l, r => by simp only [List.cons_append, szM, szM_app l r]; omega
theorem take_at (l : Store) (i : Nat) (h : i < l.length) : l.take (i + 1) = l.take i ++ [l.getD i (0, [])] := by
  rw [List.take_succ_eq_append_getElem h]; simp [List.getD_eq_getElem?_getD, h]
theorem szM_take (l : Store) (i : Nat) : szM (l.take i) ≤ szM l := by
  conv => rhs; rw [← List.take_append_drop i l, szM_app]
  omega
theorem szM_ge : ∀ l : Store, 3 * l.length ≤ szM l
  | [] => by simp [szM]
  | p :: l => by have := szM_ge l; simp only [szM, List.length_cons]; omega

set_option maxHeartbeats 1000000 in
theorem vsize_c (l : Store) (hb : szM l < 1000000000000) : FPure Tryz.prog 101 [.p (PL l)] (.i (szM l)) := by
  refine fpure_x hmix Tryz.func101 rfl (by kernel_rfl) Tryz.ntmps101 Tryz.results101 (by simp) (by simp [idsL, idsA]) [0, 2, 3, 5, 6, 7, 8, 9] ?_; intro c hP h0 hE
  simp only [go_sem, ↓reduceIte, hP, PL]
  have hge := szM_ge l
  refine xw_for hE h0 [0, 2, 3, 5, 6, 7, 8, 9] l.length (fun i => ⟨20, [(3, .i (szM (l.take i))), (6, .p (PL l)), (7, .i l.length), (8, .i i)], [], 0⟩) [] (fun i => i) ?_ ?_
  · refine ⟨rfl, ?_, trivial, rfl, rfl, trivial, fun i h => h⟩
    simp only [go_sem, ↓reduceIte, PL]
    simp [szM]
  · intro i hi
    rcases Nat.lt_or_ge i l.length with hin | hin
    · have hat := prCs_at l i hin
      have hc : ((i : Int) < (l.length : Int)) := by omega
      have hts := take_at l i hin
      have hs := szM_take l (i + 1)
      rw [hts, szM_app] at hs
      simp only [szM] at hs
      simp only [go_sem, ↓reduceIte, hP, PL, hat, hc, byP]
      (try go_unwrap)
      refine ⟨by omega, hin, subG [] rfl ?_ ?_ rfl rfl (Nat.le_refl _)⟩
      · simp only [go_sem, ↓reduceIte, hts, szM_app, szM]
        omega
      · simp only [go_sem, ↓reduceIte]
    · obtain rfl : i = l.length := by omega
      have hnc : ¬ ((l.length : Int) < (l.length : Int)) := by omega
      simp only [go_sem, ↓reduceIte, hP, PL, hnc]
      rw [List.take_of_length_le (Nat.le_refl _)]

set_option maxHeartbeats 1000000 in
theorem rsize_c (l : Store) (hb : szM l < 1000000000000) : FPure Tryz.prog 142 [.p (PL l)] (.i (szM l)) := by
  refine fpure_x hmix Tryz.func142 rfl (by kernel_rfl) Tryz.ntmps142 Tryz.results142 (by simp) (by simp [idsL, idsA]) [0, 2, 3, 4, 8] ?_; intro c hP h0 hE
  simp only [go_sem, ↓reduceIte, hP, PL]
  have hge := szM_ge l
  refine xw_for hE h0 [0, 2, 3, 4, 8] l.length (fun i => ⟨21, [(0, .p (PL l)), (3, .i (szM (l.take i))), (4, .i i)], [], 0⟩) [] (fun i => i) ?_ ?_
  · refine ⟨rfl, ?_, trivial, rfl, rfl, trivial, fun i h => h⟩
    simp only [go_sem, ↓reduceIte, PL]
    simp [szM]
  · intro i hi
    rcases Nat.lt_or_ge i l.length with hin | hin
    · have hat := prCs_at l i hin
      have hc : ((i : Int) < (l.length : Int)) := by omega
      have hts := take_at l i hin
      have hs := szM_take l (i + 1)
      rw [hts, szM_app] at hs
      simp only [szM] at hs
      simp only [go_sem, ↓reduceIte, hP, PL, hat, hc, byP]
      (try go_unwrap)
      refine ⟨by omega, hin, subG [] rfl ?_ ?_ rfl rfl (Nat.le_refl _)⟩
      · simp only [go_sem, ↓reduceIte, hts, szM_app, szM]
        omega
      · simp only [go_sem, ↓reduceIte]
    · obtain rfl : i = l.length := by omega
      have hnc : ¬ ((l.length : Int) < (l.length : Int)) := by omega
      simp only [go_sem, ↓reduceIte, hP, PL, hnc]
      rw [List.take_of_length_le (Nat.le_refl _)]

/-! the record of pairs -/
def u8i (z : Int) : UInt8 := UInt8.ofNat (IntKind.u8.wrap z).toNat
theorem u8i_nat (z : Int) : ((u8i z).toNat : Int) = IntKind.u8.wrap z := by
  unfold u8i; rw [wrap_u8_def]; simp; omega
def precM : Store → List UInt8
  | [] => []
  | p :: l => u8i p.1 :: UInt8.ofNat (p.2.length / 256) :: UInt8.ofNat p.2.length :: (p.2 ++ precM l)
theorem precM_len : ∀ l, (precM l).length = szM l
  | [] => rfl
  | p :: l => by simp only [precM, szM, List.length_cons, List.length_append, precM_len l]; omega
theorem precM_app : ∀ l r, precM (l ++ r) = precM l ++ precM r
  | [], r => rfl
  | p :: l, r => by simp [precM, precM_app l r]
theorem hi8 (n : Nat) (h : n < 1000000000000) : IntKind.u8.wrap (ishr .i64 (n : Int) 8) = ((UInt8.ofNat (n / 256)).toNat : Int) := by
  have e : ishr .i64 (n : Int) 8 = ((n / 256 : Nat) : Int) := by
    show Int.fdiv (n : Int) (2 ^ (min 8 64)) = _
    rw [Int.fdiv_eq_ediv_of_nonneg _ (by decide)]
    rfl
  rw [e, wrap_u8_def, UInt8.toNat_ofNat']
  omega
theorem lo8 (n : Nat) : IntKind.u8.wrap (n : Int) = ((UInt8.ofNat n).toNat : Int) := by
  rw [wrap_u8_def, UInt8.toNat_ofNat']; omega

set_option maxHeartbeats 1000000 in
theorem vrecord_c (l : Store) (hb : szM l < 1000000000) : FPure Tryz.prog 104 [.p (PL l)] (.p (.data 1 (szM l) ((precM l).map bt))) := by
  refine fpure_x hmix Tryz.func104 rfl (by kernel_rfl) Tryz.ntmps104 Tryz.results104 (by simp) (by simp [idsL, idsA]) [0, 2, 3, 5, 6, 7, 8, 9] ?_; intro c hP h0 hE
  simp only [go_sem, ↓reduceIte, hP, PL]
  have hge := szM_ge l
  refine saw_new byteT ?_
  refine xw_for hE h0 [0, 2, 3, 5, 6, 7, 8, 9] l.length (fun i => ⟨33, [(3, .sl 0 0 (precM (l.take i)).length 1), (6, .p (PL l)), (7, .i l.length), (8, .i i)], [(0, some ⟨byteT, cb (precM (l.take i))⟩)], 1⟩) [] (fun i => i) ?_ ?_
  · refine ⟨rfl, ?_, ?_, rfl, rfl, trivial, fun i h => h⟩
    · simp only [go_sem, ↓reduceIte, PL]
      simp [precM]
    · simp only [go_sem, ↓reduceIte]
      simp [precM, cb, viewAs]
  · intro i hi
    rcases Nat.lt_or_ge i l.length with hin | hin
    · have hat := prCs_at l i hin
      have hc : ((i : Int) < (l.length : Int)) := by omega
      have hts := take_at l i hin
      have hs := szM_take l (i + 1)
      rw [hts, szM_app] at hs
      simp only [szM] at hs
      have hpl := precM_len (l.take i)
      have h8 := hi8 (l.getD i (0, [])).2.length (by omega)
      have hl8 := lo8 (l.getD i (0, [])).2.length
      have hk8 := u8i_nat (l.getD i (0, [])).1
      simp only [go_sem, ↓reduceIte, hP, PL, hat, hc, byP, h8, hl8, ← hk8]
      have hcell : cb (precM (l.take i)) ++ [.p (.v (.int .u8 ((u8i (l.getD i (0, [])).1).toNat : Int))), .p (.v (.int .u8 ((UInt8.ofNat ((l.getD i (0, [])).2.length / 256)).toNat : Int))), .p (.v (.int .u8 ((UInt8.ofNat (l.getD i (0, [])).2.length).toNat : Int)))] ++
          List.map AV.p (List.map bt (l.getD i (0, [])).2) = cb (precM (l.take (i + 1))) := by
        rw [hts, precM_app]; simp [precM, cb, bt]
      have hcl : (precM (l.take i)).length + 3 + (l.getD i (0, [])).2.length = (precM (l.take (i + 1))).length := by
        rw [precM_len, precM_len, hts, szM_app]; simp only [szM]; omega
      rw [hcell, hcl]
      (try go_unwrap)
      refine ⟨by omega, ⟨by omega, by omega⟩, ⟨by omega, by omega⟩, hin, subG [4] rfl ?_ ?_ rfl rfl (Nat.le_refl _)⟩
      · simp only [go_sem, ↓reduceIte]
        omega
      · simp only [go_sem, ↓reduceIte]
        exact cb_viewA _ _ _ _
    · obtain rfl : i = l.length := by omega
      have hnc : ¬ ((l.length : Int) < (l.length : Int)) := by omega
      simp only [go_sem, ↓reduceIte, hP, PL, hnc]
      rw [List.take_of_length_le (Nat.le_refl _)]
      exact ⟨Nat.le_refl _, precM_len l, by rw [List.take_of_length_le (Nat.le_refl _)]⟩

set_option maxHeartbeats 1000000 in
theorem rrecord_c (l : Store) (hb : szM l < 1000000000) : FPure Tryz.prog 146 [.p (PL l)] (.p (.data 1 (szM l) ((precM l).map bt))) := by
  refine fpure_x hmix Tryz.func146 rfl (by kernel_rfl) Tryz.ntmps146 Tryz.results146 (by simp) (by simp [idsL, idsA]) [0, 2, 3, 4, 8] ?_; intro c hP h0 hE
  simp only [go_sem, ↓reduceIte, hP, PL]
  have hge := szM_ge l
  refine saw_new byteT ?_
  refine xw_for hE h0 [0, 2, 3, 4, 8] l.length (fun i => ⟨43, [(0, .p (PL l)), (3, .sl 0 0 (precM (l.take i)).length 1), (4, .i i)], [(0, some ⟨byteT, cb (precM (l.take i))⟩)], 1⟩) [] (fun i => i) ?_ ?_
  · refine ⟨rfl, ?_, ?_, rfl, rfl, trivial, fun i h => h⟩
    · simp only [go_sem, ↓reduceIte, PL]
      simp [precM]
    · simp only [go_sem, ↓reduceIte]
      simp [precM, cb, viewAs]
  · intro i hi
    rcases Nat.lt_or_ge i l.length with hin | hin
    · have hat := prCs_at l i hin
      have hc : ((i : Int) < (l.length : Int)) := by omega
      have hts := take_at l i hin
      have hs := szM_take l (i + 1)
      rw [hts, szM_app] at hs
      simp only [szM] at hs
      have hpl := precM_len (l.take i)
      have h8 := hi8 (l.getD i (0, [])).2.length (by omega)
      have hl8 := lo8 (l.getD i (0, [])).2.length
      have hk8 := u8i_nat (l.getD i (0, [])).1
      simp only [go_sem, ↓reduceIte, hP, PL, hat, hc, byP, h8, hl8, ← hk8]
      have hcell : cb (precM (l.take i)) ++ [.p (.v (.int .u8 ((u8i (l.getD i (0, [])).1).toNat : Int))), .p (.v (.int .u8 ((UInt8.ofNat ((l.getD i (0, [])).2.length / 256)).toNat : Int))), .p (.v (.int .u8 ((UInt8.ofNat (l.getD i (0, [])).2.length).toNat : Int)))] ++
          List.map AV.p (List.map bt (l.getD i (0, [])).2) = cb (precM (l.take (i + 1))) := by
        rw [hts, precM_app]; simp [precM, cb, bt]
      have hcl : (precM (l.take i)).length + 3 + (l.getD i (0, [])).2.length = (precM (l.take (i + 1))).length := by
        rw [precM_len, precM_len, hts, szM_app]; simp only [szM]; omega
      rw [hcell, hcl]
      (try go_unwrap)
      refine ⟨by omega, by omega, by omega, ⟨by omega, by omega⟩, by kernel_rfl, by omega, ⟨by omega, by omega⟩, hin, subG [3] rfl ?_ ?_ rfl rfl (Nat.le_refl _)⟩
      · simp only [go_sem, ↓reduceIte]
        omega
      · simp only [go_sem, ↓reduceIte]
        exact cb_viewA _ _ _ _
    · obtain rfl : i = l.length := by omega
      have hnc : ¬ ((l.length : Int) < (l.length : Int)) := by omega
      simp only [go_sem, ↓reduceIte, hP, PL, hnc]
      rw [List.take_of_length_le (Nat.le_refl _)]
      exact ⟨Nat.le_refl _, precM_len l, by rw [List.take_of_length_le (Nat.le_refl _)]⟩

/-! one record for each pair -/
def snapM (l : Store) : List (List UInt8) := l.map fun p => precM [p]
theorem snapM_take (l : Store) (i : Nat) (h : i < l.length) : snapM (l.take (i + 1)) = snapM (l.take i) ++ [precM [l.getD i (0, [])]] := by
  rw [take_at l i h]; simp [snapM]
theorem one_at (l : Store) (i : Nat) (h : i < l.length) : ((prCs l).drop (i * 2)).take 2 = prCs [l.getD i (0, [])] := by
  rw [prCs_at l i h]; simp [prCs_cons, prCs_nil]
theorem szM_one (l : Store) (i : Nat) (h : i < l.length) : szM [l.getD i (0, [])] ≤ szM l := by
  have h2 := szM_take l (i + 1)
  rw [take_at l i h, szM_app] at h2
  omega

set_option maxHeartbeats 1000000 in
theorem vsingle_c (l : Store) (hb : szM l < 1000000000) : FPure Tryz.prog 94 [.p (PL l)] (.p (.data 1 l.length ((snapM l).map byP))) := by
  refine fpure_x hmix Tryz.func94 rfl (by kernel_rfl) Tryz.ntmps94 Tryz.results94 (by simp) (by simp [idsL, idsA]) [0, 2, 3, 4, 6, 7, 8] ?_; intro c hP h0 hE
  simp only [go_sem, ↓reduceIte, hP, PL]
  have hge := szM_ge l
  refine saw_new bytesT ?_
  refine xw_for hE h0 [0, 2, 3, 4, 6, 7, 8] l.length (fun i => ⟨21, [(0, .p (PL l)), (3, .sl 0 0 (snapM (l.take i)).length 1), (6, .i l.length), (7, .i i)], [(0, some ⟨bytesT, byL (snapM (l.take i))⟩)], 1⟩) [] (fun i => i) ?_ ?_
  · refine ⟨rfl, ?_, ?_, rfl, rfl, trivial, fun i h => h⟩
    · simp only [go_sem, ↓reduceIte, PL]
      simp [snapM]
    · simp only [go_sem, ↓reduceIte]
      simp [snapM, byL, viewAs]
  · intro i hi
    rcases Nat.lt_or_ge i l.length with hin | hin
    · have hc : ((i : Int) < (l.length : Int)) := by omega
      have hone := one_at l i hin
      have hsz := szM_one l i hin
      have hw : IntKind.i64.wrap ((i : Int) + 1) = ((i + 1 : Nat) : Int) := by rw [wrap_i64_id (by omega) (by omega)]; omega
      have h1 : i + 1 - i = 1 := by omega
      have hlen : (precM [l.getD i (0, [])]).length = szM [l.getD i (0, [])] := precM_len _
      have hsl : (snapM (l.take i)).length = i := by simp [snapM]; omega
      have hst := snapM_take l i hin
      simp only [go_sem, ↓reduceIte, hP, PL, hc, hw]
      rw [h1, Nat.one_mul, hone]
      refine ⟨⟨by omega, by omega, by omega⟩, ?_⟩
      first | refine xw_call hE (ks := [0, 2, 3, 4, 6, 7, 8]) (n := 2000) (by rw [hP]; exact vrecord_c [l.getD i (0, [])] (by omega)) ?_ | refine xd_call hE (ks := [0, 2, 3, 4, 6, 7, 8]) (n := 2000) (by rw [hP]; exact vrecord_c [l.getD i (0, [])] (by omega)) ?_
      rw [← hlen]
      simp only [go_sem, ↓reduceIte, hP]
      (try go_unwrap)
      refine ⟨⟨by omega, by omega⟩, hin, subG [2] rfl ?_ ?_ rfl rfl (Nat.le_refl _)⟩
      · simp only [go_sem, ↓reduceIte, hst]
        (try simp)
        (try omega)
      · simp only [go_sem, ↓reduceIte, hst]
        exact byL_view _ _ _ _
    · obtain rfl : i = l.length := by omega
      have hnc : ¬ ((l.length : Int) < (l.length : Int)) := by omega
      simp only [go_sem, ↓reduceIte, hP, PL, hnc]
      rw [List.take_of_length_le (Nat.le_refl _)]
      have hsl : (snapM l).length = l.length := by simp [snapM]
      exact ⟨Nat.le_refl _, hsl, by rw [List.take_of_length_le (Nat.le_refl _)]⟩

set_option maxHeartbeats 1000000 in
theorem rsnap_c (l : Store) (hb : szM l < 1000000000) : FPure Tryz.prog 139 [.p (PL l)] (.p (.data 1 l.length ((snapM l).map byP))) := by
  refine fpure_x hmix Tryz.func139 rfl (by kernel_rfl) Tryz.ntmps139 Tryz.results139 (by simp) (by simp [idsL, idsA]) [0, 2, 3, 4, 8] ?_; intro c hP h0 hE
  simp only [go_sem, ↓reduceIte, hP, PL]
  have hge := szM_ge l
  refine saw_new bytesT ?_
  refine xw_for hE h0 [0, 2, 3, 4, 8] l.length (fun i => ⟨21, [(0, .p (PL l)), (3, .sl 0 0 (snapM (l.take i)).length 1), (4, .i i)], [(0, some ⟨bytesT, byL (snapM (l.take i))⟩)], 1⟩) [] (fun i => i) ?_ ?_
  · refine ⟨rfl, ?_, ?_, rfl, rfl, trivial, fun i h => h⟩
    · simp only [go_sem, ↓reduceIte, PL]
      simp [snapM]
    · simp only [go_sem, ↓reduceIte]
      simp [snapM, byL, viewAs]
  · intro i hi
    rcases Nat.lt_or_ge i l.length with hin | hin
    · have hc : ((i : Int) < (l.length : Int)) := by omega
      have hone := one_at l i hin
      have hsz := szM_one l i hin
      have hw : IntKind.i64.wrap ((i : Int) + 1) = ((i + 1 : Nat) : Int) := by rw [wrap_i64_id (by omega) (by omega)]; omega
      have h1 : i + 1 - i = 1 := by omega
      have hlen : (precM [l.getD i (0, [])]).length = szM [l.getD i (0, [])] := precM_len _
      have hsl : (snapM (l.take i)).length = i := by simp [snapM]; omega
      have hst := snapM_take l i hin
      simp only [go_sem, ↓reduceIte, hP, PL, hc, hw]
      rw [h1, Nat.one_mul, hone]
      refine ⟨⟨by omega, by omega, by omega⟩, ?_⟩
      first | refine xw_call hE (ks := [0, 2, 3, 4, 8]) (n := 2000) (by rw [hP]; exact rrecord_c [l.getD i (0, [])] (by omega)) ?_ | refine xd_call hE (ks := [0, 2, 3, 4, 8]) (n := 2000) (by rw [hP]; exact rrecord_c [l.getD i (0, [])] (by omega)) ?_
      rw [← hlen]
      simp only [go_sem, ↓reduceIte, hP]
      (try go_unwrap)
      refine ⟨⟨by omega, by omega⟩, hin, subG [2] rfl ?_ ?_ rfl rfl (Nat.le_refl _)⟩
      · simp only [go_sem, ↓reduceIte, hst]
        (try simp)
        (try omega)
      · simp only [go_sem, ↓reduceIte, hst]
        exact byL_view _ _ _ _
    · obtain rfl : i = l.length := by omega
      have hnc : ¬ ((l.length : Int) < (l.length : Int)) := by omega
      simp only [go_sem, ↓reduceIte, hP, PL, hnc]
      rw [List.take_of_length_le (Nat.le_refl _)]
      have hsl : (snapM l).length = l.length := by simp [snapM]
      exact ⟨Nat.le_refl _, hsl, by rw [List.take_of_length_le (Nat.le_refl _)]⟩

end Go.Proofs.YtebndjnkmcahaaaGreatDoor

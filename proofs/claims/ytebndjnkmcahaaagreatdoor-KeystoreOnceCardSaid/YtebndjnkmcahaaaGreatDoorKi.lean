/- joined of several texts; own work; no statement of the seat is proved but in the last -/
import Derived.Test.YtebndjnkmcahaaaGreatDoorKg
/-
  The leases of a device. Own work; no statement of the seat is proved here.
-/
section
namespace Go.Proofs.YtebndjnkmcahaaaGreatDoor
set_option linter.unusedSimpArgs false
set_option linter.unusedVariables false
open Go Go.Abs Go.RowKit

/-- the lease with a number -/
def leaseR (s : Store) (i : Nat) : LR := ldecM (vgetM (16 + (i : Int)) s)
def leasesN (s : Store) (n : Nat) : List (Nat × Ls) := (List.range n).filterMap fun i => if (leaseR s i).e = 0 then some (i, (leaseR s i).x) else none
abbrev leasesM (s : Store) : List (Nat × Ls) := leasesN s 16
theorem leasesN_succ (s : Store) (n : Nat) : leasesN s (n + 1) = if (leaseR s n).e = 0 then leasesN s n ++ [(n, (leaseR s n).x)] else leasesN s n := by
  unfold leasesN
  rw [List.range_succ, List.filterMap_append]
  split
  · rename_i h; simp [h]
  · rename_i h; simp [h]
theorem leasesN_len (s : Store) (n : Nat) : (leasesN s n).length ≤ n := by
  have := List.length_filterMap_le (fun i => if (leaseR s i).e = 0 then some (i, (leaseR s i).x) else none) (List.range n)
  unfold leasesN
  simpa using this
def nlP (p : Nat × Ls) : List PV := [.v (.int .i64 p.1), wd p.2.tag, .v (.int .i64 p.2.fr), .v (.int .i64 p.2.to), .v (.int .i64 p.2.nx)]
def nlPs (l : List (Nat × Ls)) : List PV := l.flatMap nlP
def nlA (l : List (Nat × Ls)) : List AV := (nlPs l).map .p
theorem nlA_snoc (l : List (Nat × Ls)) (p : Nat × Ls) : nlA l ++ [.i p.1, .w p.2.tag, .i p.2.fr, .i p.2.to, .i p.2.nx] = nlA (l ++ [p]) := by simp [nlA, nlPs, nlP]
theorem nlPs_len (l : List (Nat × Ls)) : (nlPs l).length = l.length * 5 := by
  induction l with
  | nil => rfl
  | cons p l ih => simp only [nlPs, List.flatMap_cons, List.length_append, List.length_cons] at ih ⊢; rw [ih]; simp [nlP]; omega
theorem nlA_len (l : List (Nat × Ls)) : (nlA l).length = l.length * 5 := by unfold nlA; rw [List.length_map, nlPs_len]
theorem nlA_view (h : Heap) (S : List Nat) (σ : Nat → Nat) (l : List (Nat × Ls)) : viewAs h S σ (nlA l) (nlA l) := viewAs_pure h S σ _

set_option maxHeartbeats 4000000 in
theorem collectL_c (d : DevM) (hv : VLen d.v.prs) : FPure Tryz.prog 85 [devA d, .i 16, .i 16, .p (.v (.func (.func 86) #[] #[]))] (.p (.data 5 (leasesM d.v.prs).length (nlPs (leasesM d.v.prs)))) := by
  refine fpure_x hmix Tryz.func85 rfl (by kernel_rfl) Tryz.ntmps85 Tryz.results85 (by simp) (by simp [idsL, idsA]) [0, 1, 2, 3, 4, 8, 9, 10, 11, 12, 13, 14, 15, 29] ?_; intro c hP h0 hE
  simp only [go_sem, ↓reduceIte, hP]
  refine saw_new 88 ?_
  refine xw_for hE h0 [0, 1, 2, 3, 4, 8, 9, 10, 11, 12, 13, 14, 15, 29] 16 (fun i => ⟨38, [(1, .i 16), (3, .p (.v (.func (.func 86) #[] #[]))), (4, .ptr 0 0), (9, .sl 1 0 (leasesN d.v.prs i).length 5), (13, .i 16), (14, .i i)], [(1, some ⟨88, nlA (leasesN d.v.prs i)⟩), (0, some ⟨43, dvC (devP d)⟩)], 2⟩) [] (fun i => i) ?_ ?_
  · refine ⟨rfl, ?_, ?_, rfl, rfl, trivial, fun i h => h⟩
    · simp only [go_sem, ↓reduceIte]
      rfl
    · simp only [go_sem, ↓reduceIte]
      exact (show viewAs _ _ _ [] [] from by simp [viewAs])
  · intro i hi
    rcases Nat.lt_or_ge i 16 with hin | hin
    · have hw : IntKind.i64.wrap ((i : Int) + 1) = ((i + 1 : Nat) : Int) := by rw [wrap_i64_id (by omega) (by omega)]; omega
      have hk : IntKind.i64.wrap (16 + (i : Int)) = 16 + (i : Int) := wrap_i64_id (by omega) (by omega)
      have hs := leasesN_succ d.v.prs i
      have hll := leasesN_len d.v.prs i
      simp only [go_sem, ↓reduceIte, hP, hk, show ((i : Int) < 16) from by omega]
      first | refine xw_call hE (ks := [0, 1, 2, 3, 4, 8, 9, 10, 11, 12, 13, 14, 15, 29]) (n := 2000) (by rw [hP]; exact vgetA_c d.v _ (16 + (i : Int)) hv.1 (fun x hx => by have := hv.2 x hx; omega)) ?_ | refine xd_call hE (ks := [0, 1, 2, 3, 4, 8, 9, 10, 11, 12, 13, 14, 15, 29]) (n := 2000) (by rw [hP]; exact vgetA_c d.v _ (16 + (i : Int)) hv.1 (fun x hx => by have := hv.2 x hx; omega)) ?_
      have hg := hv.get (16 + (i : Int))
      generalize hb : vgetM (16 + (i : Int)) d.v.prs = b at *
      simp only [go_sem, ↓reduceIte, hP]
      first | refine xw_call hE (ks := [0, 1, 2, 3, 4, 8, 9, 10, 11, 12, 13, 14, 15, 29]) (n := 2000) (by rw [hP]; exact ldec_c b _ rfl hg) ?_ | refine xd_call hE (ks := [0, 1, 2, 3, 4, 8, 9, 10, 11, 12, 13, 14, 15, 29]) (n := 2000) (by rw [hP]; exact ldec_c b _ rfl hg) ?_
      have hlr : leaseR d.v.prs i = ldecM b := by unfold leaseR; rw [hb]
      rw [hlr] at hs
      generalize ldecM b = L at *
      generalize hN : leasesN d.v.prs i = N at *
      generalize leasesN d.v.prs (i + 1) = N' at *
      by_cases he : L.e = 0
      · rw [if_pos he] at hs
        subst hs
        simp only [go_sem, ↓reduceIte, hP, he, hw]
        refine ⟨⟨nlA_len N, by omega, by omega⟩, hin, subG [0, 4] rfl ?_ ?_ rfl rfl (Nat.le_refl _)⟩
        · simp only [go_sem, ↓reduceIte]
        · rw [nlA_snoc N (i, L.x)]
          simp only [go_sem, ↓reduceIte]
          exact nlA_view _ _ _ _
      · rw [if_neg he] at hs
        subst hs
        simp only [go_sem, ↓reduceIte, hP, he, hw]
        refine ⟨hin, subG [0, 1] rfl ?_ ?_ rfl rfl (Nat.le_refl _)⟩
        · simp only [go_sem, ↓reduceIte]
        · simp only [go_sem, ↓reduceIte]
          exact nlA_view _ _ _ _
    · obtain rfl : i = 16 := by omega
      have hll := nlA_len (leasesN d.v.prs 16)
      simp only [go_sem, ↓reduceIte, hP, show ¬ ((16 : Int) < 16) from by omega]
      rw [List.take_of_length_le (by omega)]
      first
        | exact ⟨⟨by omega, allQ_map _⟩, rfl, unQs_map _⟩
        | exact ⟨⟨by omega, allQ_map _⟩, unQs_map _⟩
theorem leases_c (d : DevM) (hv : VLen d.v.prs) : FPure Tryz.prog 32 [devA d] (.p (.data 5 (leasesM d.v.prs).length (nlPs (leasesM d.v.prs)))) := by
  refine fpure_x hmix Tryz.func32 rfl (by kernel_rfl) Tryz.ntmps32 Tryz.results32 (by simp) (by simp [idsL, idsA]) [0, 1, 2] ?_; intro c hP h0 hE
  simp only [go_sem, ↓reduceIte, hP]
  first | refine xw_call hE (ks := [0, 1, 2]) (n := 2000) (by rw [hP]; exact collectL_c d hv) ?_ | refine xd_call hE (ks := [0, 1, 2]) (n := 2000) (by rw [hP]; exact collectL_c d hv) ?_
  simp only [go_sem, ↓reduceIte, hP]
/-- leases without their numbers -/
def lsPs (l : List Ls) : List PV := l.flatMap lsP
theorem lsPs_len (l : List Ls) : (lsPs l).length = l.length * 4 := by
  induction l with
  | nil => rfl
  | cons p l ih => simp only [lsPs, List.flatMap_cons, List.length_append, List.length_cons] at ih ⊢; rw [ih]; simp [lsP]; omega
def lsA (l : List Ls) : List AV := (lsPs l).map .p
theorem lsA_snoc (l : List Ls) (p : Ls) : lsA l ++ [.w p.tag, .i p.fr, .i p.to, .i p.nx] = lsA (l ++ [p]) := by simp [lsA, lsPs, lsP]
theorem lsA_len (l : List Ls) : (lsA l).length = l.length * 4 := by unfold lsA; rw [List.length_map, lsPs_len]
theorem lsA_view (h : Heap) (S : List Nat) (σ : Nat → Nat) (l : List Ls) : viewAs h S σ (lsA l) (lsA l) := viewAs_pure h S σ _
theorem nlPs_at (l : List (Nat × Ls)) (i : Nat) (h : i < l.length) : (nlPs l).drop (i * 5) = nlP (l.getD i (0, ls0)) ++ nlPs (l.drop (i + 1)) := by
  induction l generalizing i with
  | nil => simp at h
  | cons p l ih =>
    cases i with
    | zero => simp [nlPs]
    | succ i =>
      have := ih i (by simpa using h)
      have e : (nlPs (p :: l)).drop ((i + 1) * 5) = (nlPs l).drop (i * 5) := by
        rw [show nlPs (p :: l) = nlP p ++ nlPs l from by simp [nlPs], show (i + 1) * 5 = (nlP p).length + i * 5 from by simp [nlP]; omega, List.drop_length_add_append]
      rw [e, this]
      simp
set_option maxHeartbeats 1000000 in
theorem valuesL_c (l : List (Nat × Ls)) (hb : l.length < 1000) : FPure Tryz.prog 69 [.p (.data 5 l.length (nlPs l))] (.p (.data 4 l.length (lsPs (l.map (·.2))))) := by
  refine fpure_x hmix Tryz.func69 rfl (by kernel_rfl) Tryz.ntmps69 Tryz.results69 (by simp) (by simp [idsL, idsA]) [0, 2, 3, 5, 6, 7, 8, 9] ?_; intro c hP h0 hE
  simp only [go_sem, ↓reduceIte, hP]
  refine saw_new 86 ?_
  refine xw_for hE h0 [0, 2, 3, 5, 6, 7, 8, 9] l.length (fun i => ⟨19, [(3, .sl 0 0 i 4), (6, .p (.data 5 l.length (nlPs l))), (7, .i l.length), (8, .i i)], [(0, some ⟨86, lsA ((l.take i).map (·.2))⟩)], 1⟩) [] (fun i => i) ?_ ?_
  · refine ⟨rfl, ?_, ?_, rfl, rfl, trivial, fun i h => h⟩
    · simp only [go_sem, ↓reduceIte]
    · simp only [go_sem, ↓reduceIte, List.take_zero]
      exact (show viewAs _ _ _ [] [] from by simp [viewAs])
  · intro i hi
    rcases Nat.lt_or_ge i l.length with hin | hin
    · have hw : IntKind.i64.wrap ((i : Int) + 1) = ((i + 1 : Nat) : Int) := by rw [wrap_i64_id (by omega) (by omega)]; omega
      have hat := nlPs_at l i hin
      have hta : l.take (i + 1) = l.take i ++ [l.getD i (0, ls0)] := by rw [List.take_add_one]; simp [List.getD_eq_getElem?_getD, hin]
      generalize l.getD i (0, ls0) = p at *
      simp only [go_sem, ↓reduceIte, hP, hw, hat, nlP, show ((i : Int) < (l.length : Int)) from by omega]
      refine ⟨by omega, ⟨by rw [lsA_len]; simp; omega, by omega, by omega⟩, hin, subG [3] rfl ?_ ?_ rfl rfl (Nat.le_refl _)⟩
      · simp only [go_sem, ↓reduceIte]
      · rw [lsA_snoc, hta]
        simp only [go_sem, ↓reduceIte, List.map_append]
        exact lsA_view _ _ _ _
    · obtain rfl : i = l.length := by omega
      have hll := lsA_len ((l.take l.length).map (·.2))
      have hmm : (List.map (fun x => x.2) (l.take l.length)).length = l.length := by simp
      rw [List.take_length] at hll
      simp only [go_sem, ↓reduceIte, hP, show ¬ ((l.length : Int) < (l.length : Int)) from by omega]
      rw [List.take_length, List.take_of_length_le (by rw [hll]; simp)]
      exact ⟨⟨by rw [hll]; simp, allQ_map _⟩, unQs_map _⟩
theorem pLeases_c (d : DevM) (hv : VLen d.v.prs) : FPure Tryz.prog 21 [devA d] (.p (.data 4 (leasesM d.v.prs).length (lsPs ((leasesM d.v.prs).map (·.2))))) := by
  refine fpure_x hmix Tryz.func21 rfl (by kernel_rfl) Tryz.ntmps21 Tryz.results21 (by simp) (by simp [idsL, idsA]) [0, 1, 2] ?_; intro c hP h0 hE
  simp only [go_sem, ↓reduceIte, hP]
  first | refine xw_call hE (ks := [0, 1, 2]) (n := 2000) (by rw [hP]; exact leases_c d hv) ?_ | refine xd_call hE (ks := [0, 1, 2]) (n := 2000) (by rw [hP]; exact leases_c d hv) ?_
  have : (leasesM d.v.prs).length ≤ 16 := leasesN_len d.v.prs 16
  simp only [go_sem, ↓reduceIte, hP]
  first | refine xw_call hE (ks := [0, 1, 2]) (n := 2000) (by rw [hP]; exact valuesL_c (leasesM d.v.prs) (by omega)) ?_ | refine xd_call hE (ks := [0, 1, 2]) (n := 2000) (by rw [hP]; exact valuesL_c (leasesM d.v.prs) (by omega)) ?_
  simp only [go_sem, ↓reduceIte, hP]
end Go.Proofs.YtebndjnkmcahaaaGreatDoor
end
/-
  Nothing is no credential. Own work; no statement of the seat is proved here.
-/
section
namespace Go.Proofs.YtebndjnkmcahaaaGreatDoor
set_option linter.unusedSimpArgs false
set_option linter.unusedVariables false
open Go Go.Abs Go.RowKit

abbrev rdT : Nat := 281
set_option maxRecDepth 100000 in
theorem head0_c : Con Tryz.prog 250 [.ptr 0 0] [(0, some ⟨rdT, [.p (.v (.slice none 0 0)), .i 0, .p (.data 1 0 []), .i 0]⟩)] (.tup [.i 0, .p (.v (.int .u64 0)), .i 1]) [(0, some ⟨rdT, [.p (.v (.slice none 0 0)), .i 0, .p (.data 1 0 []), .i 0]⟩)] := by
  refine con_x 1 hmix Tryz.func250 rfl (by kernel_rfl) Tryz.ntmps250 Tryz.results250 (by simp) rfl (by simp [idsL, idsA, liveK]) (by simp [idsH, idsL, idsA]) (fun i hi => by simp [liveK] at hi; simp [keys, hi]) [0, 2, 3, 4, 5, 6, 7, 8, 10, 20, 38, 39, 45, 56, 61, 79, 94, 95, 96, 97, 117] ?_; intro c hP h0 hE
  simp only [go_sem, ↓reduceIte, hP]
  refine ⟨by kernel_rfl, ?_⟩
  rw [if_pos (by decide)]
  refine endC_T [0] rfl ?_ ?_ rfl rfl (fun i hi => ?_) (fun i hi => ?_)
  · simp only [go_sem, ↓reduceIte]
  · simp only [go_sem, ↓reduceIte]
  · simp at hi; subst hi; exact ⟨rfl, by simp [keys]⟩
  · simp [liveK] at hi; simp; omega
set_option maxRecDepth 100000 in
theorem item0_c : Con Tryz.prog 225 [.ptr 0 0] [(0, some ⟨rdT, [.p (.v (.slice none 0 0)), .i 0, .p (.data 1 0 []), .i 0]⟩)] (.tup [.agg [.i 0, .p (.v (.int .u64 0)), sv []], .i 1]) [(0, some ⟨rdT, [.p (.v (.slice none 0 0)), .i 0, .p (.data 1 0 []), .i 0]⟩)] := by
  refine con_x 1 hmix Tryz.func225 rfl (by kernel_rfl) Tryz.ntmps225 Tryz.results225 (by simp) rfl (by simp [idsL, idsA, liveK]) (by simp [idsH, idsL, idsA]) (fun i hi => by simp [liveK] at hi; simp [keys, hi]) [0, 2, 3, 4, 5, 6, 7, 8, 9, 17, 26, 32, 33, 37, 39, 43, 57, 93] ?_; intro c hP h0 hE
  simp only [go_sem, ↓reduceIte, hP]
  refine xw_con hE (ks := [0, 2, 3, 4, 5, 6, 7, 8, 9, 17, 26, 32, 33, 37, 39, 43, 57, 93]) (n := 2000) [] (fun i => i) 2 (by rw [hP]; exact head0_c) ⟨by simp only [go_sem, ↓reduceIte], by simp only [go_sem, ↓reduceIte], rfl, trivial, Nat.le_of_ble_eq_true rfl, fun i hi => .inl (by simp [keys] at hi; simp [liveK, hi]), by simp [idsA, idsL], by simp [idsH, idsL, idsA], rfl⟩ ?_
  simp only [go_sem, ↓reduceIte, hP]
  refine endC_T [0] rfl ?_ ?_ rfl rfl (fun i hi => ?_) (fun i hi => ?_)
  · simp only [go_sem, ↓reduceIte]
  · simp only [go_sem, ↓reduceIte]
  · simp at hi; subst hi; exact ⟨rfl, by simp [keys]⟩
  · simp [liveK] at hi; simp; omega
theorem done0_c : Con Tryz.prog 215 [.ptr 0 0] [(0, some ⟨rdT, [.p (.v (.slice none 0 0)), .i 0, .p (.data 1 0 []), .i 0]⟩)] (.b false) [(0, some ⟨rdT, [.p (.v (.slice none 0 0)), .i 0, .p (.data 1 0 []), .i 0]⟩)] := by
  refine con_x 1 hmix Tryz.func215 rfl (by kernel_rfl) Tryz.ntmps215 Tryz.results215 (by simp) rfl (by simp [idsL, idsA, liveK]) (by simp [idsH, idsL, idsA]) (fun i hi => by simp [liveK] at hi; simp [keys, hi]) [0, 2] ?_; intro c hP h0 hE
  simp only [go_sem, ↓reduceIte, hP]
  rw [if_neg (by decide)]
  refine endC_T [0] rfl ?_ ?_ rfl rfl (fun i hi => ?_) (fun i hi => ?_)
  · simp only [go_sem, ↓reduceIte]
  · simp only [go_sem, ↓reduceIte]
  · simp at hi; subst hi; exact ⟨rfl, by simp [keys]⟩
  · simp [liveK] at hi; simp; omega
set_option maxRecDepth 100000 in
theorem decode0_c : FPure Tryz.prog 182 [.p (.data 1 0 [])] (.tup [.p (.v (.slice none 0 0)), .i 0, .i 1]) := by
  refine fpure_x hmix Tryz.func182 rfl (by kernel_rfl) Tryz.ntmps182 Tryz.results182 (by simp) (by simp [idsL, idsA]) [0, 2, 3, 4, 5, 6, 7, 12, 18] ?_; intro c hP h0 hE
  simp only [go_sem, ↓reduceIte, hP]
  refine xw_loop hE h0 [0, 2, 3, 4, 5, 6, 7, 12, 18] (α := Unit) (fun _ => ⟨27, [(5, .ptr 0 0)], [(0, some ⟨rdT, [.p (.v (.slice none 0 0)), .i 0, .p (.data 1 0 []), .i 0]⟩)], 1⟩) (fun _ => 0) () [] (fun i => i) ?_ ?_
  · refine ⟨rfl, ?_, ?_, rfl, rfl, trivial, fun i h => h⟩
    · simp only [go_sem, ↓reduceIte]
    · simp only [go_sem, ↓reduceIte]
  · rintro _
    simp only [go_sem, ↓reduceIte, hP]
    refine xw_con hE (ks := [0, 2, 3, 4, 5, 6, 7, 12, 18]) (n := 2000) [] (fun i => i) 1 (by rw [hP]; exact done0_c) ⟨by simp only [go_sem, ↓reduceIte], by simp only [go_sem, ↓reduceIte], rfl, trivial, Nat.le_of_ble_eq_true rfl, fun i hi => .inl (by simp [keys] at hi; simp [liveK, hi]), by simp [idsA, idsL], by simp [idsH, idsL, idsA], rfl⟩ ?_
    simp only [go_sem, ↓reduceIte, hP]
    refine xw_con hE (ks := [0, 2, 3, 4, 5, 6, 7, 12, 18]) (n := 2000) [] (fun i => i) 1 (by rw [hP]; exact item0_c) ⟨by simp only [go_sem, ↓reduceIte], by simp only [go_sem, ↓reduceIte], rfl, trivial, Nat.le_of_ble_eq_true rfl, fun i hi => .inl (by simp [keys] at hi; simp [liveK, hi]), by simp [idsA, idsL], by simp [idsH, idsL, idsA], rfl⟩ ?_
    simp only [go_sem, ↓reduceIte, hP]
/-! a credential -/
structure Cr where
  rp : List UInt8
  us : List UInt8
  nm : List UInt8
  sd : UInt64
  hg : Int
  rs : Bool
  pt : Int
  sh : Bool
  bk : Bool
deriving DecidableEq
def crP (x : Cr) : List PV := [.v (.string ⟨x.rp.toArray⟩), .v (.string ⟨x.us.toArray⟩), .v (.string ⟨x.nm.toArray⟩), wd x.sd, .v (.int .i64 x.hg), .v (.bool x.rs), .v (.int .i64 x.pt), .v (.bool x.sh), .v (.bool x.bk)]
def crC (x : Cr) : List AV := [sv x.rp, sv x.us, sv x.nm, .w x.sd, .i x.hg, .b x.rs, .i x.pt, .b x.sh, .b x.bk]
def cr0 : Cr := ⟨[], [], [], 0, 0, false, 0, false, false⟩
structure CR where
  x : Cr
  e : Int
def crAV (r : CR) : AV := .tup [.agg (crC r.x), .i r.e]
attribute [go_sem] crC crAV
set_option maxRecDepth 100000 in
theorem cdec0_c : FPure Tryz.prog 130 [.p (.data 1 0 [])] (crAV ⟨cr0, 2⟩) := by
  refine fpure_x hmix Tryz.func130 rfl (by kernel_rfl) Tryz.ntmps130 Tryz.results130 (by simp) (by simp [idsL, idsA]) [0, 2, 3, 4, 6, 7, 8, 16, 63] ?_; intro c hP h0 hE
  simp only [go_sem, ↓reduceIte, hP]
  first | refine xw_call hE (ks := [0, 2, 3, 4, 6, 7, 8, 16, 63]) (n := 2000) (by rw [hP]; exact decode0_c) ?_ | refine xd_call hE (ks := [0, 2, 3, 4, 6, 7, 8, 16, 63]) (n := 2000) (by rw [hP]; exact decode0_c) ?_
  simp only [go_sem, ↓reduceIte, hP]
  exact ⟨rfl, rfl, rfl, rfl, rfl, rfl, rfl, rfl, rfl⟩
end Go.Proofs.YtebndjnkmcahaaaGreatDoor
end

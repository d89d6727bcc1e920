/-
  Taking a leaf of a lease; storing; reserving. Own work; no statement of the seat is proved here.
-/
import Derived.Test.YtebndjnkmcahaaaGreatDoorKl
namespace Go.Proofs.YtebndjnkmcahaaaGreatDoor
set_option linter.unusedSimpArgs false
set_option linter.unusedVariables false
open Go Go.Abs Go.RowKit

theorem fzIL_mapP : ∀ cs : List PV, fzIL (cs.map .p) = []
  | [] => rfl
  | c :: cs => by simp [fzIL, fzI, fzIL_mapP cs]
theorem dv_fi (x : Dvp) : fzIL (dvC x) = [] := by obtain ⟨cs, he⟩ := dv_map x; rw [he]; exact fzIL_mapP cs
attribute [go_sem] dv_fi dv_ids
theorem find1_c (x : Ls) : FPure Tryz.prog 125 [.p (.data 4 1 (lsP x)), .w x.tag] (.tup [.i 0, .b true]) := by
  refine fpure_x hmix Tryz.func125 rfl (by kernel_rfl) Tryz.ntmps125 Tryz.results125 (by simp) (by simp [idsL, idsA]) [0, 1, 4, 5, 6, 7, 8, 9, 10, 11, 18] ?_; intro c hP h0 hE
  simp only [go_sem, ↓reduceIte, hP]
  refine xw_for hE h0 [0, 1, 4, 5, 6, 7, 8, 9, 10, 11, 18] 0 (fun i => ⟨21, [(1, .w x.tag), (8, .p (.data 4 1 (lsP x))), (9, .i 1), (10, .i i)], [], 0⟩) [] (fun i => i) ?_ ?_
  · refine ⟨rfl, ?_, ?_, rfl, rfl, trivial, fun i h => h⟩
    · simp only [go_sem, ↓reduceIte]
    · simp only [go_sem, ↓reduceIte]
  · intro i hi
    obtain rfl : i = 0 := by omega
    simp only [go_sem, ↓reduceIte, hP, lsP, beq_self_eq_true]
theorem find0_c (t : UInt64) : FPure Tryz.prog 125 [.p (.data 4 0 []), .w t] (.tup [.i 0, .b false]) := by
  refine fpure_x hmix Tryz.func125 rfl (by kernel_rfl) Tryz.ntmps125 Tryz.results125 (by simp) (by simp [idsL, idsA]) [0, 1, 4, 5, 6, 7, 8, 9, 10, 11, 18] ?_; intro c hP h0 hE
  simp only [go_sem, ↓reduceIte, hP]
  refine xw_for hE h0 [0, 1, 4, 5, 6, 7, 8, 9, 10, 11, 18] 0 (fun i => ⟨21, [(1, .w t), (8, .p (.data 4 0 [])), (9, .i 0), (10, .i i)], [], 0⟩) [] (fun i => i) ?_ ?_
  · refine ⟨rfl, ?_, ?_, rfl, rfl, trivial, fun i h => h⟩
    · simp only [go_sem, ↓reduceIte]
    · simp only [go_sem, ↓reduceIte]
  · intro i hi
    obtain rfl : i = 0 := by omega
    simp only [go_sem, ↓reduceIte, hP]
theorem lval1_c (x : Ls) (h : lvalM x = true) : FPure Tryz.prog 57 [.p (.data 4 1 (lsP x))] (.i 0) := by
  refine fpure_x hmix Tryz.func57 rfl (by kernel_rfl) Tryz.ntmps57 Tryz.results57 (by simp) (by simp [idsL, idsA]) [0, 2, 3, 4, 6, 9, 10, 11, 12, 13, 19, 29] ?_; intro c hP h0 hE
  simp only [go_sem, ↓reduceIte, hP]
  refine xw_for hE h0 [0, 2, 3, 4, 6, 9, 10, 11, 12, 13, 19, 29] 1 (fun i => ⟨31, [(0, .p (.data 4 1 (lsP x))), (10, .p (.data 4 1 (lsP x))), (11, .i 1), (12, .i i)], [], i⟩) [] (fun i => i) ?_ ?_
  · refine ⟨rfl, ?_, ?_, rfl, rfl, trivial, fun i h => h⟩
    · simp only [go_sem, ↓reduceIte]
    · simp only [go_sem, ↓reduceIte]
  · intro i hi
    rcases Nat.lt_or_ge i 1 with h1 | h1
    · obtain rfl : i = 0 := by omega
      simp only [go_sem, ↓reduceIte, hP, lsP]
      first | refine xw_call hE (ks := [0, 2, 3, 4, 6, 9, 10, 11, 12, 13, 19, 29]) (n := 2000) (by rw [hP]; exact lvalid_c x) ?_ | refine xd_call hE (ks := [0, 2, 3, 4, 6, 9, 10, 11, 12, 13, 19, 29]) (n := 2000) (by rw [hP]; exact lvalid_c x) ?_
      simp only [go_sem, ↓reduceIte, hP, h]
      first | refine xw_call hE (ks := [0, 2, 3, 4, 6, 9, 10, 11, 12, 13, 19, 29]) (n := 2000) (by rw [hP]; exact find0_c x.tag) ?_ | refine xd_call hE (ks := [0, 2, 3, 4, 6, 9, 10, 11, 12, 13, 19, 29]) (n := 2000) (by rw [hP]; exact find0_c x.tag) ?_
      simp only [go_sem, ↓reduceIte, hP, show IntKind.i64.wrap (0 + 1) = 1 from by decide]
      refine ⟨by kernel_rfl, by omega, subI rfl ?_ ?_ rfl rfl (Nat.le_refl _)⟩
      · simp only [go_sem, ↓reduceIte, lsP]
      · simp only [go_sem, ↓reduceIte]
    · obtain rfl : i = 1 := by omega
      simp only [go_sem, ↓reduceIte, hP]
theorem locate1_c (x : Ls) (h : lvalM x = true) : FPure Tryz.prog 87 [.p (.data 4 1 (lsP x)), .w x.tag] (.tup [.i 0, .i 0]) := by
  refine fpure_x hmix Tryz.func87 rfl (by kernel_rfl) Tryz.ntmps87 Tryz.results87 (by simp) (by simp [idsL, idsA]) [0, 1, 4, 5, 6, 7, 8, 12, 21] ?_; intro c hP h0 hE
  simp only [go_sem, ↓reduceIte, hP]
  first | refine xw_call hE (ks := [0, 1, 4, 5, 6, 7, 8, 12, 21]) (n := 2000) (by rw [hP]; exact lval1_c x h) ?_ | refine xd_call hE (ks := [0, 1, 4, 5, 6, 7, 8, 12, 21]) (n := 2000) (by rw [hP]; exact lval1_c x h) ?_
  simp only [go_sem, ↓reduceIte, hP]
  first | refine xw_call hE (ks := [0, 1, 4, 5, 6, 7, 8, 12, 21]) (n := 2000) (by rw [hP]; exact find1_c x) ?_ | refine xd_call hE (ks := [0, 1, 4, 5, 6, 7, 8, 12, 21]) (n := 2000) (by rw [hP]; exact find1_c x) ?_
  simp only [go_sem, ↓reduceIte, hP]
theorem lclone_k (x : Ls) : Con Tryz.prog 88 [.p (.data 4 1 (lsP x))] [] (.sl 0 0 1 4) [(0, some ⟨86, [.w x.tag, .i x.fr, .i x.to, .i x.nx]⟩)] := by
  refine con_x 0 hmix Tryz.func88 rfl (by kernel_rfl) Tryz.ntmps88 Tryz.results88 (by simp) rfl (by simp [idsL, idsA]) trivial (fun i hi => by cases hi) [0, 2, 4] ?_; intro c hP h0' hE; have h0 : ∀ i, c.ρ0 i ≠ none → False := fun i hi => by cases h0' i hi
  simp only [go_sem, ↓reduceIte, hP]
  refine endC_of [1] rfl ?_ ?_ rfl rfl (fun i hi => ?_)
  · simp only [go_sem, ↓reduceIte]
  · simp only [go_sem, ↓reduceIte, lsP]
  · simp [liveK] at hi; simp; omega
/-- what Take does with one lease -/
structure TR where
  l : List Ls
  leaf : Int
  e : Int
def takeL (x : Ls) : TR := if x.nx = x.to then ⟨[], 0, 13⟩ else ⟨[{ x with nx := x.nx + 1 }], x.nx, 0⟩
theorem take1_c (x : Ls) (h : lvalM x = true) : FPure Tryz.prog 33 [.p (.data 4 1 (lsP x)), .w x.tag] (.tup [.p (.data 4 (takeL x).l.length (lsPs (takeL x).l)), .i (takeL x).leaf, .i (takeL x).e]) := by
  refine fpure_x hmix Tryz.func33 rfl (by kernel_rfl) Tryz.ntmps33 Tryz.results33 (by simp) (by simp [idsL, idsA]) [0, 1, 4, 5, 6, 7, 8, 9, 10, 18, 31] ?_; intro c hP h0 hE
  obtain ⟨R, hR⟩ : ∃ R, takeL x = R := ⟨_, rfl⟩; rw [hR] at hE; (try rw [hR])
  unfold takeL at hR
  have hb : 0 ≤ x.nx ∧ x.nx ≤ 16 := by unfold lvalM at h; simp only [decide_eq_true_eq] at h; omega
  simp only [go_sem, ↓reduceIte, hP]
  first | refine xw_call hE (ks := [0, 1, 4, 5, 6, 7, 8, 9, 10, 18, 31]) (n := 2000) (by rw [hP]; exact locate1_c x h) ?_ | refine xd_call hE (ks := [0, 1, 4, 5, 6, 7, 8, 9, 10, 18, 31]) (n := 2000) (by rw [hP]; exact locate1_c x h) ?_
  by_cases he : x.nx = x.to
  · rw [if_pos he] at hR
    subst hR
    simp only [go_sem, ↓reduceIte, hP, lsP, he]
    rfl
  · rw [if_neg he] at hR
    subst hR
    simp only [go_sem, ↓reduceIte, hP, lsP, he]
    refine xw_new hE (ks := [0, 1, 4, 5, 6, 7, 8, 9, 10, 18, 31]) (n := 2000) 1 (by rw [hP]; exact lclone_k x) rfl rfl (by simp [idsA, idsL, keys]) (by simp [idsH, idsL, idsA]) ?_
    simp only [go_sem, ↓reduceIte, hP, wrap_i64_id (n := x.nx + 1) (by omega) (by omega)]
    rfl
/-- Store, program side -/
def storeM (d : DevM) (l : Store) (B : Int) : DR :=
  if d.on = false then ⟨d, 0, 17⟩ else
  let P := rputM d.v l B
  if P.err ≠ 0 then failM d P.v P.err else ⟨{ d with v := P.v }, P.left, 0⟩
theorem pstore_c (d : DevM) (l : Store) (B : Int) (hb : d.v.j.bs.length < 1000000000) (hl : ∀ x, x ∈ l → x.2.length < 1000) (hll : l.length < 100) (hB : i64 B) :
    FPure Tryz.prog 34 [devA d, .p (PL l), .i B] (drAV (storeM d l B)) := by
  refine fpure_x hmix Tryz.func34 rfl (by kernel_rfl) Tryz.ntmps34 Tryz.results34 (by simp) (by simp [idsL, idsA]) [0, 1, 2, 3, 6, 7, 8, 9, 10, 11, 14, 26] ?_; intro c hP h0 hE
  obtain ⟨R, hR⟩ : ∃ R, storeM d l B = R := ⟨_, rfl⟩; rw [hR] at hE; (try rw [hR])
  unfold storeM at hR
  by_cases hon : d.on = false
  · rw [if_pos hon] at hR
    subst hR
    simp only [go_sem, ↓reduceIte, hP, hon]
  rw [if_neg hon] at hR
  have hon' : d.on = true := by simpa using hon
  simp only [go_sem, ↓reduceIte, hP, hon']
  first | refine xw_call hE (ks := [0, 1, 2, 3, 6, 7, 8, 9, 10, 11, 14, 26]) (n := 2000) (by rw [hP]; exact vput_c d.v _ l B rfl hb (by omega) (fun x hx => by have := hl x hx; omega) hB) ?_ | refine xd_call hE (ks := [0, 1, 2, 3, 6, 7, 8, 9, 10, 11, 14, 26]) (n := 2000) (by rw [hP]; exact vput_c d.v _ l B rfl hb (by omega) (fun x hx => by have := hl x hx; omega) hB) ?_
  rw [put_law]
  generalize rputM d.v l B = P at *
  by_cases he : P.err = 0
  · rw [if_neg (by omega)] at hR
    subst hR
    simp only [go_sem, ↓reduceIte, hP, he]
    exact eqNL_refl _
  · rw [if_pos he] at hR
    subst hR
    simp only [go_sem, ↓reduceIte, hP, he]
    first | refine xw_call hE (ks := [0, 1, 2, 3, 6, 7, 8, 9, 10, 11, 14, 26]) (n := 2000) (by rw [hP]; exact pfailed_c d P.v P.err) ?_ | refine xd_call hE (ks := [0, 1, 2, 3, 6, 7, 8, 9, 10, 11, 14, 26]) (n := 2000) (by rw [hP]; exact pfailed_c d P.v P.err) ?_
    simp only [go_sem, ↓reduceIte, hP]
theorem take1x_c (x : Ls) (h : lvalM x = true) (he : x.nx = x.to) : FPure Tryz.prog 33 [.p (.data 4 1 (lsP x)), .w x.tag] (.tup [.p (.data 4 0 []), .i 0, .i 13]) := by
  have := take1_c x h
  have e : takeL x = ⟨[], 0, 13⟩ := by unfold takeL; rw [if_pos he]
  rw [e] at this
  exact this
theorem take1n_c (x : Ls) (h : lvalM x = true) (he : x.nx ≠ x.to) : FPure Tryz.prog 33 [.p (.data 4 1 (lsP x)), .w x.tag] (.tup [.p (.data 4 1 (lsP { x with nx := x.nx + 1 })), .i x.nx, .i 0]) := by
  have := take1_c x h
  have e : takeL x = ⟨[{ x with nx := x.nx + 1 }], x.nx, 0⟩ := by unfold takeL; rw [if_neg he]
  rw [e] at this
  exact this
structure RV where
  d : DevM
  leaf : Int
  left : Int
  e : Int
def rvAV (r : RV) : AV := .tup [devA r.d, .i r.leaf, .i r.left, .i r.e]
attribute [go_sem] rvAV
/-- Reserve of the first lease -/
def reserveM (d : DevM) (x : Ls) (B : Int) : RV :=
  if d.on = false then ⟨d, 0, 0, 17⟩ else
  if x.nx = x.to then ⟨d, 0, 0, 13⟩ else
  let S := storeM d [(16, lencM { x with nx := x.nx + 1 })] B
  if S.e ≠ 0 then ⟨S.d, 0, S.left, S.e⟩ else ⟨S.d, x.nx, S.left, 0⟩
set_option maxHeartbeats 1000000 in
theorem preserve_c (d : DevM) (x : Ls) (rest : List (Nat × Ls)) (B : Int) (hv : VLen d.v.prs) (hx : leasesM d.v.prs = (0, x) :: rest) (hlv : lvalM x = true) (hb : d.v.j.bs.length < 1000000000) (hB : i64 B) :
    FPure Tryz.prog 12 [devA d, .i 0, .i B] (rvAV (reserveM d x B)) := by
  refine fpure_x hmix Tryz.func12 rfl (by kernel_rfl) Tryz.ntmps12 Tryz.results12 (by simp) (by simp [idsL, idsA]) [0, 1, 2, 3, 6, 7, 8, 9, 11, 12, 13, 14, 15, 16, 19, 22, 23, 24, 25, 31, 49, 68] ?_; intro c hP h0 hE
  obtain ⟨R, hR⟩ : ∃ R, reserveM d x B = R := ⟨_, rfl⟩; rw [hR] at hE; (try rw [hR])
  unfold reserveM at hR
  by_cases hon : d.on = false
  · rw [if_pos hon] at hR
    subst hR
    simp only [go_sem, ↓reduceIte, hP, hon]
  rw [if_neg hon] at hR
  have hon' : d.on = true := by simpa using hon
  have hrl : rest.length ≤ 16 := by
    have : (leasesM d.v.prs).length ≤ 16 := leasesN_len d.v.prs 16
    rw [hx] at this
    simp at this
    omega
  simp only [go_sem, ↓reduceIte, hP, hon']
  first | refine xw_call hE (ks := [0, 1, 2, 3, 6, 7, 8, 9, 11, 12, 13, 14, 15, 16, 19, 22, 23, 24, 25, 31, 49, 68]) (n := 2000) (by rw [hP]; exact leases_c d hv) ?_ | refine xd_call hE (ks := [0, 1, 2, 3, 6, 7, 8, 9, 11, 12, 13, 14, 15, 16, 19, 22, 23, 24, 25, 31, 49, 68]) (n := 2000) (by rw [hP]; exact leases_c d hv) ?_
  rw [hx]
  have hps : nlPs ((0, x) :: rest) = [.v (.int .i64 0), wd x.tag, .v (.int .i64 x.fr), .v (.int .i64 x.to), .v (.int .i64 x.nx)] ++ nlPs rest := by simp [nlPs, nlP]
  rw [hps]
  generalize nlPs rest = rs at *
  simp only [go_sem, ↓reduceIte, hP]
  refine xw_for hE h0 [0, 1, 2, 3, 6, 7, 8, 9, 11, 12, 13, 14, 15, 16, 19, 22, 23, 24, 25, 31, 49, 68] 0 (fun i => ⟨77, [(1, .i 0), (2, .i B), (3, .ptr 0 0), (6, .ptr 1 0), (22, .p (.data 5 (rest.length + 1) ([.v (.int .i64 0), wd x.tag, .v (.int .i64 x.fr), .v (.int .i64 x.to), .v (.int .i64 x.nx)] ++ rs))), (23, .i (rest.length + 1)), (24, .i i)], [(1, some ⟨43, dvC dv0⟩), (0, some ⟨43, dvC (devP d)⟩)], 2⟩) [] (fun i => i) ?_ ?_
  · refine ⟨rfl, ?_, ?_, rfl, rfl, trivial, fun i h => h⟩
    · simp only [go_sem, ↓reduceIte]
      omega
    · simp only [go_sem, ↓reduceIte]
  · intro i hi
    obtain rfl : i = 0 := by omega
    have hc : (0 : Int) < (rest.length : Int) + 1 := by omega
    by_cases he : x.nx = x.to
    · rw [if_pos he] at hR
      subst hR
      simp only [go_sem, ↓reduceIte, hP, hc]
      refine ⟨by omega, ?_⟩
      first | refine xw_callF hE (ks := [0, 1, 2, 3, 6, 7, 8, 9, 11, 12, 13, 14, 15, 16, 19, 22, 23, 24, 25, 31, 49, 68]) (n := 2000) (by simp only [go_sem, ↓reduceIte]; rfl) (by simp only [go_sem, ↓reduceIte]) rfl (by rw [hP]; exact take1x_c x hlv he) (by simp only [go_sem, idsA, idsL, and_self]) ?_ | refine xd_callF hE (ks := [0, 1, 2, 3, 6, 7, 8, 9, 11, 12, 13, 14, 15, 16, 19, 22, 23, 24, 25, 31, 49, 68]) (n := 2000) (by simp only [go_sem, ↓reduceIte]; rfl) (by simp only [go_sem, ↓reduceIte]) rfl (by rw [hP]; exact take1x_c x hlv he) (by simp only [go_sem, idsA, idsL, and_self]) ?_
      simp only [go_sem, ↓reduceIte, hP]
    rw [if_neg he] at hR
    simp only [go_sem, ↓reduceIte, hP, hc]
    refine ⟨by omega, ?_⟩
    first | refine xw_callF hE (ks := [0, 1, 2, 3, 6, 7, 8, 9, 11, 12, 13, 14, 15, 16, 19, 22, 23, 24, 25, 31, 49, 68]) (n := 2000) (by simp only [go_sem, ↓reduceIte]; rfl) (by simp only [go_sem, ↓reduceIte]) rfl (by rw [hP]; exact take1n_c x hlv he) (by simp only [go_sem, idsA, idsL, and_self]) ?_ | refine xd_callF hE (ks := [0, 1, 2, 3, 6, 7, 8, 9, 11, 12, 13, 14, 15, 16, 19, 22, 23, 24, 25, 31, 49, 68]) (n := 2000) (by simp only [go_sem, ↓reduceIte]; rfl) (by simp only [go_sem, ↓reduceIte]) rfl (by rw [hP]; exact take1n_c x hlv he) (by simp only [go_sem, idsA, idsL, and_self]) ?_
    simp only [go_sem, ↓reduceIte, hP, lsP, show IntKind.i64.wrap (16 + 0) = 16 from by decide]
    first | refine xw_call hE (ks := [0, 1, 2, 3, 6, 7, 8, 9, 11, 12, 13, 14, 15, 16, 19, 22, 23, 24, 25, 31, 49, 68]) (n := 2000) (by rw [hP]; exact lenc_c { x with nx := x.nx + 1 }) ?_ | refine xd_call hE (ks := [0, 1, 2, 3, 6, 7, 8, 9, 11, 12, 13, 14, 15, 16, 19, 22, 23, 24, 25, 31, 49, 68]) (n := 2000) (by rw [hP]; exact lenc_c { x with nx := x.nx + 1 }) ?_
    have hle := lenc_le { x with nx := x.nx + 1 }
    generalize lencM { x with nx := x.nx + 1 } = b at *
    simp only [go_sem, ↓reduceIte, hP]
    first | refine xw_callF hE (ks := [0, 1, 2, 3, 6, 7, 8, 9, 11, 12, 13, 14, 15, 16, 19, 22, 23, 24, 25, 31, 49, 68]) (n := 2000) (by simp only [go_sem, ↓reduceIte]; rfl) (by simp only [go_sem, ↓reduceIte]) rfl (by rw [hP]; exact pstore_c d [(16, b)] B hb (fun y hy => by rw [List.mem_singleton.1 hy]; show b.length < 1000; omega) (by simp) hB) (by simp only [go_sem, idsA, idsL, and_self]) ?_ | refine xd_callF hE (ks := [0, 1, 2, 3, 6, 7, 8, 9, 11, 12, 13, 14, 15, 16, 19, 22, 23, 24, 25, 31, 49, 68]) (n := 2000) (by simp only [go_sem, ↓reduceIte]; rfl) (by simp only [go_sem, ↓reduceIte]) rfl (by rw [hP]; exact pstore_c d [(16, b)] B hb (fun y hy => by rw [List.mem_singleton.1 hy]; show b.length < 1000; omega) (by simp) hB) (by simp only [go_sem, idsA, idsL, and_self]) ?_
    generalize storeM d [(16, b)] B = S at *
    by_cases hS : S.e = 0
    · rw [if_neg (by omega)] at hR
      subst hR
      simp only [go_sem, ↓reduceIte, hP, hS]
      kernel_rfl
    · rw [if_pos hS] at hR
      subst hR
      simp only [go_sem, ↓reduceIte, hP, hS]
      kernel_rfl
end Go.Proofs.YtebndjnkmcahaaaGreatDoor

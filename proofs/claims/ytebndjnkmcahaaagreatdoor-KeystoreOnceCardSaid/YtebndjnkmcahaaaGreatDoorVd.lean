/-
  Contracts of the reference's Stored, SamePairs, SameVault, GenuineVault, lost. Own work; no statement of the seat is proved here.
-/
import Derived.Test.YtebndjnkmcahaaaGreatDoorVc
import Derived.Test.YtebndjnkmcahaaaGreatDoorLe
namespace Go.Proofs.YtebndjnkmcahaaaGreatDoor
set_option linter.unusedSimpArgs false
set_option linter.unusedVariables false
open Go Go.Abs Go.RowKit

theorem parseN_len : ∀ (f : Nat) (b : List UInt8) (l : Store), parseN f b = some l → 3 * l.length ≤ b.length ∧ szM l ≤ b.length
  | 0, b, l, h => by simp [parseN] at h; subst h; simp [szM]
  | f + 1, b, l, h => by
    simp only [parseN] at h
    split at h
    · cases h; simp [szM]
    · split at h
      · cases h
      · split at h
        · cases h
        · split at h
          · rename_i l' hl'
            have ih := parseN_len f _ l' hl'
            cases h
            simp only [List.length_cons, szM, List.length_drop, List.length_take] at ih ⊢
            omega
          · cases h
theorem parseM_len (b : List UInt8) : (parseM b).length ≤ b.length := by
  unfold parseM parseO
  cases h : parseN b.length b with
  | none => simp
  | some l => have := parseN_len _ _ _ h; simp; omega
theorem withM_len (old : Store) : ∀ l : Store, (withM old l).length ≤ old.length + l.length := by
  intro l
  unfold withM
  induction l generalizing old with
  | nil => simp
  | cons p l ih =>
    rw [List.foldl_cons]
    have h1 := ih (with1 p (decide (p.2.length = 0)) old)
    have h2 := with1_len p (decide (p.2.length = 0)) old
    simp only [List.length_cons]
    omega
def storedL (l : List (List UInt8)) : Store := l.foldl (fun o b => withM o (parseM b)) []
def storedM (j : Jn) : Store := storedL (recsM j)
theorem storedL_len (l : List (List UInt8)) : (storedL l).length ≤ totM l := by
  have key : ∀ (l : List (List UInt8)) (o : Store), (l.foldl (fun o b => withM o (parseM b)) o).length ≤ o.length + totM l := by
    intro l
    induction l with
    | nil => intro o; simp
    | cons b l ih =>
      intro o
      rw [List.foldl_cons]
      have h1 := ih (withM o (parseM b))
      have h2 := withM_len o (parseM b)
      have h3 := parseM_len b
      simp only [totM]
      omega
  have := key l []
  unfold storedL
  simpa using this
theorem recs_tot (j : Jn) : totM (recsM j) ≤ 8192 ∧ ∀ b, b ∈ recsM j → b.length ≤ 8192 := by
  have key : totM (recsM j) ≤ 8192 := by
    unfold recsM
    split
    · rename_i h
      obtain ⟨p, k, q, e1, e2, e3, e4, e5, e6, e7, e8, e9, e10, -⟩ := genuineM_ok h
      rw [e10, Int.toNat_natCast]
      have hw : (pgM (flOf j) q).length = p := pgM_len (k := k) e1 e4 (by omega)
      have h1 := scanM_le (pgM (flOf j) q) (UInt64.ofNat j.gen.toNat) (by omega)
      have h2 := scanN_tail (pgM (flOf j) q) (UInt64.ofNat j.gen.toNat) (pgM (flOf j) q).length 16
      unfold scanM at h1 ⊢
      omega
    · simp [totM]
  refine ⟨key, fun b hb => ?_⟩
  have : ∀ l : List (List UInt8), b ∈ l → b.length ≤ totM l := by
    intro l
    induction l with
    | nil => intro h; cases h
    | cons x l ih =>
      intro h
      simp only [totM]
      rcases List.mem_cons.1 h with rfl | h
      · omega
      · have := ih h; omega
  have := this _ hb
  omega
theorem storedL_take (l : List (List UInt8)) (i : Nat) (h : i < l.length) : storedL (l.take (i + 1)) = withM (storedL (l.take i)) (parseM (l.getD i [])) := by
  unfold storedL
  rw [List.take_succ_eq_append_getElem h, List.foldl_append]
  simp [List.getD_eq_getElem?_getD, h]
theorem totM_le_take (l : List (List UInt8)) (i : Nat) : totM (l.take i) ≤ totM l := by
  conv => rhs; rw [← List.take_append_drop i l, totM_app]
  omega

set_option maxHeartbeats 2000000 in
theorem rstored_c (j : Jn) (n : Nat) (hn : j.bs.length = n) (hb : n < 1000000000) : FPure Tryz.prog 137 [.agg [.i j.ps, .p (.data 1 n (j.bs.map bt)), .i j.page, .i j.gen, .i j.tail, .b j.torn]] (.p (PL (storedM j))) := by
  refine fpure_x hmix Tryz.func137 rfl (by kernel_rfl) Tryz.ntmps137 Tryz.results137 (by simp) (by simp [idsL, idsA]) [0, 1, 2, 3, 4, 5, 6, 7, 13, 24] ?_; intro c hP h0 hE
  simp only [go_sem, ↓reduceIte, hP]
  first | refine xw_call hE (ks := [0, 1, 2, 3, 4, 5, 6, 7, 13, 24]) (n := 2000) (by rw [hP]; exact rRecords_c j n hn hb) ?_ | refine xd_call hE (ks := [0, 1, 2, 3, 4, 5, 6, 7, 13, 24]) (n := 2000) (by rw [hP]; exact rRecords_c j n hn hb) ?_
  obtain ⟨ht, hbl⟩ := recs_tot j
  have hrl := totM_len (recsM j)
  unfold storedM at hE
  generalize recsM j = l at *
  simp only [go_sem, ↓reduceIte, hP]
  refine xw_for hE h0 [0, 1, 2, 3, 4, 5, 6, 7, 13, 24] l.length (fun i => ⟨29, [(3, .p (PL (storedL (l.take i)))), (4, .p (.data 1 l.length (l.map byP))), (5, .i i)], [], 1⟩) [] (fun i => i) ?_ ?_
  · refine ⟨rfl, ?_, trivial, rfl, rfl, trivial, fun i h => h⟩
    simp only [go_sem, ↓reduceIte, PL]
    simp [storedL, prCs_nil, viewPs]
  · intro i hi
    rcases Nat.lt_or_ge i l.length with hin | hin
    · have hc : ((i : Int) < (l.length : Int)) := by omega
      have hst := storedL_take l i hin
      have hln := storedL_len (l.take i)
      have htl := totM_le_take l i
      have hel : (l.getD i []).length ≤ 8192 := hbl _ (by rw [show l.getD i [] = l[i]'hin from by simp [List.getD_eq_getElem?_getD, hin]]; exact List.getElem_mem _)
      have hpl := parseM_len (l.getD i [])
      have hw : IntKind.i64.wrap ((i : Int) + 1) = ((i + 1 : Nat) : Int) := by rw [wrap_i64_id (by omega) (by omega)]; omega
      simp only [go_sem, ↓reduceIte, hP, PL, head_by, byP, hc, hw]
      refine ⟨by omega, by omega, ?_⟩
      first | refine xw_call hE (ks := [0, 1, 2, 3, 4, 5, 6, 7, 13, 24]) (n := 2000) (by rw [hP]; exact rpairs_c (l.getD i []) _ rfl (by omega)) ?_ | refine xd_call hE (ks := [0, 1, 2, 3, 4, 5, 6, 7, 13, 24]) (n := 2000) (by rw [hP]; exact rpairs_c (l.getD i []) _ rfl (by omega)) ?_
      generalize storedL (l.take i) = o at *
      simp only [go_sem, ↓reduceIte, hP, PL, hw]
      have hnone : (parseO (l.getD i [])).isSome = false → withM o (parseM (l.getD i [])) = o := fun h => by
        unfold parseM
        cases hp : parseO (l.getD i []) with
        | none => rfl
        | some x => rw [hp] at h; simp at h
      split
      · rw [← PL, ← PL]
        first | refine xw_call hE (ks := [0, 1, 2, 3, 4, 5, 6, 7, 13, 24]) (n := 2000) (by rw [hP]; exact rwith_c o (parseM (l.getD i [])) (by omega)) ?_ | refine xd_call hE (ks := [0, 1, 2, 3, 4, 5, 6, 7, 13, 24]) (n := 2000) (by rw [hP]; exact rwith_c o (parseM (l.getD i [])) (by omega)) ?_
        simp only [go_sem, ↓reduceIte, hP, hw]
        refine ⟨hin, subG [] rfl ?_ ?_ rfl rfl (Nat.zero_le _)⟩
        · simp only [go_sem, ↓reduceIte, PL, hst]
        · simp only [go_sem, ↓reduceIte]
      · rename_i h
        have h := hnone (by simpa using h)
        refine ⟨hin, subG [] rfl ?_ ?_ rfl rfl (Nat.zero_le _)⟩
        · simp only [go_sem, ↓reduceIte, PL, hst, h]
        · simp only [go_sem, ↓reduceIte]
    · obtain rfl : i = l.length := by omega
      have hnc : ¬ ((l.length : Int) < (l.length : Int)) := by omega
      simp only [go_sem, ↓reduceIte, hP, PL, hnc]
      rw [List.take_of_length_le (Nat.le_refl _)]
      (try exact ⟨rfl, rfl⟩)

set_option maxHeartbeats 2000000 in
theorem rsamePairs_c (a b : Store) (ha : a.length < 1000000000) : FPure Tryz.prog 77 [.p (PL a), .p (PL b)] (.b (decide (a = b))) := by
  refine fpure_x hmix Tryz.func77 rfl (by kernel_rfl) Tryz.ntmps77 Tryz.results77 (by simp) (by simp [idsL, idsA]) [0, 1, 4, 5, 10, 14, 42] ?_; intro c hP h0 hE
  simp only [go_sem, ↓reduceIte, hP, PL]
  by_cases hl : a.length = b.length
  · rw [if_neg (by omega)]
    refine xw_loop hE h0 [0, 1, 4, 5, 10, 14, 42] (α := { i : Nat // i ≤ a.length ∧ a.take i = b.take i }) (fun i => ⟨43, [(0, .p (PL a)), (1, .p (PL b)), (5, .i i.1)], [], 0⟩) (fun i => a.length - i.1) ⟨0, Nat.zero_le _, by simp⟩ [] (fun i => i) ?_ ?_
    · refine ⟨rfl, ?_, trivial, rfl, rfl, trivial, fun i h => h⟩
      simp only [go_sem, ↓reduceIte, PL]
    · rintro ⟨i, hi, he⟩
      rcases Nat.lt_or_ge i a.length with hin | hin
      · have hc : ((i : Int) < (a.length : Int)) := by omega
        have hc2 : ((i : Int) < (b.length : Int)) := by omega
        have hat := prCs_at a i hin
        have hat2 := prCs_at b i (by omega)
        have hta := take_at a i hin
        have htb := take_at b i (by omega)
        have hw : IntKind.i64.wrap ((i : Int) + 1) = ((i + 1 : Nat) : Int) := by rw [wrap_i64_id (by omega) (by omega)]; omega
        have hne : a.getD i (0, []) ≠ b.getD i (0, []) → a ≠ b := fun h e => by subst e; exact h rfl
        generalize a.getD i (0, []) = x at *
        generalize b.getD i (0, []) = y at *
        simp only [go_sem, ↓reduceIte, hP, PL, hat, hat2, hc, hc2, hw, byP, unBs_bt, strOf, allB_bt, toList_of]
        refine ⟨by omega, by omega, ?_⟩
        by_cases h1 : x.1 = y.1
        · rw [if_pos h1]
          refine ⟨by omega, by omega, by kernel_rfl, ?_⟩
          by_cases h2 : x.2 = y.2
          · rw [if_neg (fun h => h h2)]
            have hxy : x = y := Prod.ext h1 h2
            refine ⟨⟨i + 1, by omega, by rw [hta, htb, he, hxy]⟩, by show a.length - (i + 1) < a.length - i; omega, subI rfl ?_ ?_ rfl rfl (Nat.le_refl _)⟩
            · simp only [go_sem, ↓reduceIte, PL]
            · simp only [go_sem, ↓reduceIte]
          · rw [if_pos h2]
            simp [hne (fun e => h2 (by rw [e]))]
        · rw [if_neg h1]
          exact ⟨by kernel_rfl, by simp [hne (fun e => h1 (by rw [e]))]⟩
      · obtain rfl : i = a.length := by omega
        have hnc : ¬ ((a.length : Int) < (a.length : Int)) := by omega
        have hab : a = b := by
          rw [List.take_of_length_le (Nat.le_refl _), List.take_of_length_le (by omega)] at he
          exact he
        simp only [go_sem, ↓reduceIte, hP, PL, hnc]
        simp [hab]
  · rw [if_pos (by omega)]
    have : a ≠ b := fun e => hl (by rw [e])
    simp [this]

/-- a vault -/
structure Vt where
  j : Jn
  prs : Store
structure VR where
  v : Vt
  left : Int
  err : Int
def vtAV (v : Vt) : AV := .agg [.i v.j.ps, .p (.data 1 v.j.bs.length (v.j.bs.map bt)), .i v.j.page, .i v.j.gen, .i v.j.tail, .b v.j.torn, .p (PL v.prs)]
def vrAV (r : VR) : AV := .tup [vtAV r.v, .i r.left, .i r.err]
attribute [go_sem] vtAV vrAV PL
def vt0 : Vt := ⟨jn0, []⟩
/-- the vault beside an error -/
def lostM (j : Jn) (e : Int) : VR := if e = 16 then ⟨⟨⟨j.ps, j.bs, 0, 0, 0, false⟩, []⟩, 0, 16⟩ else ⟨vt0, 0, e⟩

set_option maxHeartbeats 1000000 in
theorem rlost_c (j : Jn) (n : Nat) (e : Int) (hn : j.bs.length = n) : FPure Tryz.prog 136 [.agg [.i j.ps, .p (.data 1 n (j.bs.map bt)), .i j.page, .i j.gen, .i j.tail, .b j.torn], .i e] (vrAV (lostM j e)) := by
  refine fpure_x hmix Tryz.func136 rfl (by kernel_rfl) Tryz.ntmps136 Tryz.results136 (by simp) (by simp [idsL, idsA]) [0, 1, 2, 4, 5, 6, 8] ?_; intro c hP h0 hE
  obtain ⟨R, hR⟩ : ∃ R, lostM j e = R := ⟨_, rfl⟩; rw [hR] at hE; (try rw [hR])
  unfold lostM at hR
  simp only [go_sem, ↓reduceIte, hP]
  split
  · rename_i h
    rw [if_pos h] at hR
    subst hR
    exact ⟨⟨rfl, ⟨hn.symm, rfl⟩, rfl, rfl, rfl, rfl, rfl, rfl⟩, rfl, h⟩
  · rename_i h
    rw [if_neg h] at hR
    subst hR
    exact ⟨⟨rfl, ⟨rfl, rfl⟩, rfl, rfl, rfl, rfl, rfl, rfl⟩, rfl, rfl⟩

set_option maxHeartbeats 1000000 in
theorem sameVault_c (a b : Vt) (n1 n2 : Nat) (ha : a.prs.length < 1000000000) : FPure Tryz.prog 29 [.agg [.i a.j.ps, .p (.data 1 n1 (a.j.bs.map bt)), .i a.j.page, .i a.j.gen, .i a.j.tail, .b a.j.torn, .p (PL a.prs)], .agg [.i b.j.ps, .p (.data 1 n2 (b.j.bs.map bt)), .i b.j.page, .i b.j.gen, .i b.j.tail, .b b.j.torn, .p (PL b.prs)]] (.b (sameJ a.j b.j && decide (a.prs = b.prs))) := by
  refine fpure_x hmix Tryz.func29 rfl (by kernel_rfl) Tryz.ntmps29 Tryz.results29 (by simp) (by simp [idsL, idsA]) [0, 1, 2, 3, 4] ?_; intro c hP h0 hE
  simp only [go_sem, ↓reduceIte, hP]
  first | refine xw_call hE (ks := [0, 1, 2, 3, 4]) (n := 2000) (by rw [hP]; exact sameJournal_c a.j b.j n1 n2) ?_ | refine xd_call hE (ks := [0, 1, 2, 3, 4]) (n := 2000) (by rw [hP]; exact sameJournal_c a.j b.j n1 n2) ?_
  generalize sameJ a.j b.j = u at *
  simp only [go_sem, ↓reduceIte, hP]
  cases u with
  | false => simp
  | true =>
    rw [if_pos rfl]
    first | refine xw_call hE (ks := [0, 1, 2, 3, 4]) (n := 2000) (by rw [hP]; exact rsamePairs_c a.prs b.prs ha) ?_ | refine xd_call hE (ks := [0, 1, 2, 3, 4]) (n := 2000) (by rw [hP]; exact rsamePairs_c a.prs b.prs ha) ?_
    simp only [go_sem, ↓reduceIte, hP]
    rw [Bool.true_and]

def genVM (v : Vt) : Bool := genuineM v.j && decide (v.prs = storedM v.j)
set_option maxHeartbeats 1000000 in
theorem genVault_c (v : Vt) (n : Nat) (hn : v.j.bs.length = n) (hb : n < 1000000000) (hp : v.prs.length < 1000000000) : FPure Tryz.prog 141 [.agg [.i v.j.ps, .p (.data 1 n (v.j.bs.map bt)), .i v.j.page, .i v.j.gen, .i v.j.tail, .b v.j.torn, .p (PL v.prs)]] (.b (genVM v)) := by
  refine fpure_x hmix Tryz.func141 rfl (by kernel_rfl) Tryz.ntmps141 Tryz.results141 (by simp) (by simp [idsL, idsA]) [0, 1, 2] ?_; intro c hP h0 hE
  simp only [go_sem, ↓reduceIte, hP]
  first | refine xw_call hE (ks := [0, 1, 2]) (n := 2000) (by rw [hP]; exact rGenuine_c v.j n hn hb) ?_ | refine xd_call hE (ks := [0, 1, 2]) (n := 2000) (by rw [hP]; exact rGenuine_c v.j n hn hb) ?_
  have hg : genVM v = (genuineM v.j && decide (v.prs = storedM v.j)) := rfl
  generalize genuineM v.j = u at *
  simp only [go_sem, ↓reduceIte, hP]
  cases u with
  | false => exact ⟨by kernel_rfl, by rw [hg]; rfl⟩
  | true =>
    rw [if_pos rfl]
    first | refine xw_call hE (ks := [0, 1, 2]) (n := 2000) (by rw [hP]; exact rstored_c v.j n hn hb) ?_ | refine xd_call hE (ks := [0, 1, 2]) (n := 2000) (by rw [hP]; exact rstored_c v.j n hn hb) ?_
    simp only [go_sem, ↓reduceIte, hP]
    first | refine xw_call hE (ks := [0, 1, 2]) (n := 2000) (by rw [hP]; exact rsamePairs_c v.prs (storedM v.j) hp) ?_ | refine xd_call hE (ks := [0, 1, 2]) (n := 2000) (by rw [hP]; exact rsamePairs_c v.prs (storedM v.j) hp) ?_
    simp only [go_sem, ↓reduceIte, hP]
    exact ⟨by kernel_rfl, by rw [hg, Bool.true_and]⟩

end Go.Proofs.YtebndjnkmcahaaaGreatDoor

/-
  Contracts of the reference of the journal: Genuine, Room, Records, Append, Format (package passkeyref7). Own work; no statement of the seat is proved here.
-/
import Derived.Test.YtebndjnkmcahaaaGreatDoorRg
namespace Go.Proofs.YtebndjnkmcahaaaGreatDoor
set_option linter.unusedSimpArgs false
set_option linter.unusedVariables false
open Go Go.Abs Go.RowKit

theorem beq_u8 (xs ys : List UInt8) : ((xs == ys) = true) ↔ xs = ys := by simp

theorem sameFlash_c (p1 p2 : Int) (b1 b2 : List UInt8) (n1 n2 : Nat) : FPure Tryz.prog 133 [.agg [.i p1, .p (.data 1 n1 (b1.map bt))], .agg [.i p2, .p (.data 1 n2 (b2.map bt))]] (.b (p1 == p2 && b1 == b2)) := by
  refine fpure_x hmix Tryz.func133 rfl (by kernel_rfl) Tryz.ntmps133 Tryz.results133 (by simp) (by simp [idsL, idsA]) [0, 1, 2, 3, 4] ?_; intro c hP h0 hE
  simp only [go_sem, ↓reduceIte, hP, unBs_bt, strOf, allB_bt, toList_of]
  split
  · rename_i h; subst h; simp
  · rename_i h; simp [h]

def sameJ (a b : Jn) : Bool := a.ps == b.ps && a.bs == b.bs && a.page == b.page && a.gen == b.gen && a.tail == b.tail && a.torn == b.torn
theorem sameJournal_c (a b : Jn) (n1 n2 : Nat) : FPure Tryz.prog 76 [.agg [.i a.ps, .p (.data 1 n1 (a.bs.map bt)), .i a.page, .i a.gen, .i a.tail, .b a.torn], .agg [.i b.ps, .p (.data 1 n2 (b.bs.map bt)), .i b.page, .i b.gen, .i b.tail, .b b.torn]] (.b (sameJ a b)) := by
  refine fpure_x hmix Tryz.func76 rfl (by kernel_rfl) Tryz.ntmps76 Tryz.results76 (by simp) (by simp [idsL, idsA]) [0, 1, 2, 3, 4] ?_; intro c hP h0 hE
  simp only [go_sem, ↓reduceIte, hP]
  first | refine xw_call hE (ks := [0, 1, 2, 3, 4]) (n := 2000) (by rw [hP]; exact sameFlash_c a.ps b.ps a.bs b.bs n1 n2) ?_ | refine xd_call hE (ks := [0, 1, 2, 3, 4]) (n := 2000) (by rw [hP]; exact sameFlash_c a.ps b.ps a.bs b.bs n1 n2) ?_
  simp only [go_sem, ↓reduceIte, hP]
  unfold sameJ
  generalize (a.ps == b.ps && a.bs == b.bs) = u
  by_cases h2 : a.page = b.page <;> by_cases h3 : a.gen = b.gen <;> by_cases h4 : a.tail = b.tail <;> cases u <;> simp [h2, h3, h4]

theorem sameJ_iff (a b : Jn) : sameJ a b = true ↔ a = b := by
  unfold sameJ
  obtain ⟨a1, a2, a3, a4, a5, a6⟩ := a
  obtain ⟨b1, b2, b3, b4, b5, b6⟩ := b
  simp only [Bool.and_eq_true, beq_iff_eq, Jn.mk.injEq]
  constructor
  · rintro ⟨⟨⟨⟨⟨h1, h2⟩, h3⟩, h4⟩, h5⟩, h6⟩; exact ⟨h1, h2, h3, h4, h5, h6⟩
  · rintro ⟨h1, h2, h3, h4, h5, h6⟩; exact ⟨⟨⟨⟨⟨h1, h2⟩, h3⟩, h4⟩, h5⟩, h6⟩

theorem rGenuine_c (j : Jn) (n : Nat) (hn : j.bs.length = n) (hb : n < 1000000000) : FPure Tryz.prog 195 [.agg [.i j.ps, .p (.data 1 n (j.bs.map bt)), .i j.page, .i j.gen, .i j.tail, .b j.torn]] (.b (genuineM j)) := by
  refine fpure_x hmix Tryz.func195 rfl (by kernel_rfl) Tryz.ntmps195 Tryz.results195 (by simp) (by simp [idsL, idsA]) [0, 1, 2, 3, 4] ?_; intro c hP h0 hE
  simp only [go_sem, ↓reduceIte, hP]
  first | refine xw_call hE (ks := [0, 1, 2, 3, 4]) (n := 2000) (by rw [hP]; exact rMount_c j.ps j.bs n hn hb) ?_ | refine xd_call hE (ks := [0, 1, 2, 3, 4]) (n := 2000) (by rw [hP]; exact rMount_c j.ps j.bs n hn hb) ?_
  simp only [go_sem, ↓reduceIte, hP]
  split
  · rename_i h
    obtain ⟨p, k, q, e1, e2, e3, e4, e5, e6, e7, -, -, -, e8⟩ := mountM_ok h
    first | refine xw_call hE (ks := [0, 1, 2, 3, 4]) (n := 2000) (by rw [hP]; exact sameJournal_c j (mountM ⟨j.ps, j.bs⟩).j n (mountM ⟨j.ps, j.bs⟩).j.bs.length) ?_ | refine xd_call hE (ks := [0, 1, 2, 3, 4]) (n := 2000) (by rw [hP]; exact sameJournal_c j (mountM ⟨j.ps, j.bs⟩).j n (mountM ⟨j.ps, j.bs⟩).j.bs.length) ?_
    simp only [go_sem, ↓reduceIte, hP]
    have h9 : (mountM ⟨j.ps, j.bs⟩).j.ps = j.ps ∧ (mountM ⟨j.ps, j.bs⟩).j.bs = j.bs := by rw [e8]; exact ⟨rfl, rfl⟩
    unfold genuineM sameJ flOf
    generalize mountM ⟨j.ps, j.bs⟩ = M at *
    obtain ⟨h10, h11⟩ := h9
    rw [h10, h11, h]
    rw [Bool.eq_iff_iff]
    simp only [beq_self_eq_true, Bool.true_and, Bool.and_eq_true, beq_iff_eq]
    constructor
    · rintro ⟨⟨⟨h1, h2⟩, h3⟩, h4⟩; exact ⟨⟨⟨h1.symm, h2.symm⟩, h3.symm⟩, h4.symm⟩
    · rintro ⟨⟨⟨h1, h2⟩, h3⟩, h4⟩; exact ⟨⟨⟨h1.symm, h2.symm⟩, h3.symm⟩, h4.symm⟩
  · rename_i h
    unfold genuineM flOf
    simp [h]

def brokenM (f : Fl) (e : Int) : JR := if e = 16 then ⟨⟨f.ps, f.bs, 0, 0, 0, false⟩, 0, 16⟩ else ⟨jn0, 0, e⟩
theorem broken_c (ps : Int) (bs : List UInt8) (n : Nat) (e : Int) (hn : bs.length = n) : FPure Tryz.prog 189 [.agg [.i ps, .p (.data 1 n (bs.map bt))], .i e] (jrAV (brokenM ⟨ps, bs⟩ e)) := by
  refine fpure_x hmix Tryz.func189 rfl (by kernel_rfl) Tryz.ntmps189 Tryz.results189 (by simp) (by simp [idsL, idsA]) [0, 1, 2, 4, 5, 6, 8] ?_; intro c hP h0 hE
  simp only [go_sem, ↓reduceIte, hP]
  obtain ⟨R, hR⟩ : ∃ R, brokenM ⟨ps, bs⟩ e = R := ⟨_, rfl⟩; rw [hR] at hE; (try rw [hR])
  unfold brokenM at hR
  split
  · rename_i h
    rw [if_pos h] at hR
    subst hR
    simp only [hn, h, and_self]
  · rename_i h
    rw [if_neg h] at hR
    subst hR
    simp only [jn0, List.length_nil, List.map_nil, and_self]

theorem rRoom_c (j : Jn) (n : Nat) (hn : j.bs.length = n) (hb : n < 1000000000) : FPure Tryz.prog 144 [.agg [.i j.ps, .p (.data 1 n (j.bs.map bt)), .i j.page, .i j.gen, .i j.tail, .b j.torn]] (.i (jroomM j)) := by
  refine fpure_x hmix Tryz.func144 rfl (by kernel_rfl) Tryz.ntmps144 Tryz.results144 (by simp) (by simp [idsL, idsA]) [0, 1, 2, 9] ?_; intro c hP h0 hE
  simp only [go_sem, ↓reduceIte, hP]
  first | refine xw_call hE (ks := [0, 1, 2, 9]) (n := 2000) (by rw [hP]; exact rGenuine_c j n hn hb) ?_ | refine xd_call hE (ks := [0, 1, 2, 9]) (n := 2000) (by rw [hP]; exact rGenuine_c j n hn hb) ?_
  simp only [go_sem, ↓reduceIte, hP]
  obtain ⟨R, hR⟩ : ∃ R, jroomM j = R := ⟨_, rfl⟩; rw [hR] at hE; (try rw [hR])
  unfold jroomM at hR
  split
  · rename_i h
    rw [if_pos h] at hR
    obtain ⟨p, k, q, e1, e2, e3, -⟩ := genuineM_ok h
    have ht := genuine_tail h
    unfold roomM at hR
    rw [wrap_i64_id (n := j.ps - j.tail) (by omega) (by omega), wrap_i64_id (n := j.ps - j.tail - 10) (by omega) (by omega)]
    split
    · rw [if_pos ‹_›] at hR; exact hR
    · rw [if_neg ‹_›] at hR
      rw [← hR]
      split <;> split <;> (try split) <;> omega
  · rename_i h
    rw [if_neg h] at hR; exact hR

theorem rRecords_c (j : Jn) (n : Nat) (hn : j.bs.length = n) (hb : n < 1000000000) : FPure Tryz.prog 193 [.agg [.i j.ps, .p (.data 1 n (j.bs.map bt)), .i j.page, .i j.gen, .i j.tail, .b j.torn]] (.p (.data 1 (recsM j).length ((recsM j).map byP))) := by
  refine fpure_x hmix Tryz.func193 rfl (by kernel_rfl) Tryz.ntmps193 Tryz.results193 (by simp) (by simp [idsL, idsA]) [0, 1, 2, 3, 7] ?_; intro c hP h0 hE
  simp only [go_sem, ↓reduceIte, hP]
  first | refine xw_call hE (ks := [0, 1, 2, 3, 7]) (n := 2000) (by rw [hP]; exact rGenuine_c j n hn hb) ?_ | refine xd_call hE (ks := [0, 1, 2, 3, 7]) (n := 2000) (by rw [hP]; exact rGenuine_c j n hn hb) ?_
  simp only [go_sem, ↓reduceIte, hP]
  obtain ⟨R, hR⟩ : ∃ R, recsM j = R := ⟨_, rfl⟩; rw [hR] at hE; (try rw [hR])
  unfold recsM at hR
  split
  · rename_i h
    rw [h] at hR
    subst hR
    exact ⟨rfl, rfl⟩
  · rename_i h
    have h : genuineM j = true := by simpa using h
    rw [if_pos h] at hR
    obtain ⟨p, k, q, e1, e2, e3, e4, e5, e6, e7, e8, e9, e10, e11, -, -, -, -⟩ := genuineM_ok h
    first | refine xw_call hE (ks := [0, 1, 2, 3, 7]) (n := 2000) (by rw [hP]; exact scan_m j.ps j.bs p k n q j.page (UInt64.ofNat j.gen.toNat) j.gen (gen_u64 _ (by omega) (by omega)) e1 e10 hn (by omega) (by omega) e6 e2 e3) ?_ | refine xd_call hE (ks := [0, 1, 2, 3, 7]) (n := 2000) (by rw [hP]; exact scan_m j.ps j.bs p k n q j.page (UInt64.ofNat j.gen.toNat) j.gen (gen_u64 _ (by omega) (by omega)) e1 e10 hn (by omega) (by omega) e6 e2 e3) ?_
    rw [e10, Int.toNat_natCast] at hR
    have hR : (scanM (pgM ⟨j.ps, j.bs⟩ q) (UInt64.ofNat j.gen.toNat)).1 = R := hR
    rw [hR]
    simp only [go_sem, ↓reduceIte, hP]

def rappendM (j : Jn) (b : List UInt8) (budget : Int) : JR :=
  if genuineM j = false then ⟨jn0, 0, 18⟩ else
  if ¬ (1 ≤ b.length ∧ b.length ≤ 256) then ⟨jn0, 0, 9⟩ else
  if j.torn then ⟨jn0, 0, 18⟩ else
  if (b.length : Int) > roomM j.ps j.tail j.torn then ⟨jn0, 0, 12⟩ else
  if (progM (flOf j) j.page j.tail (recM (UInt64.ofNat j.gen.toNat) b) budget).err ≠ 0 then brokenM (progM (flOf j) j.page j.tail (recM (UInt64.ofNat j.gen.toNat) b) budget).f (progM (flOf j) j.page j.tail (recM (UInt64.ofNat j.gen.toNat) b) budget).err
  else ⟨⟨(progM (flOf j) j.page j.tail (recM (UInt64.ofNat j.gen.toNat) b) budget).f.ps, (progM (flOf j) j.page j.tail (recM (UInt64.ofNat j.gen.toNat) b) budget).f.bs, j.page, j.gen, j.tail + 10 + b.length, j.torn⟩, (progM (flOf j) j.page j.tail (recM (UInt64.ofNat j.gen.toNat) b) budget).left, 0⟩

theorem rAppend_c (j : Jn) (n : Nat) (b : List UInt8) (m : Nat) (budget : Int) (hn : j.bs.length = n) (hb : n < 1000000000) (hm : b.length = m) (hmb : m < 1000000) (hB : i64 budget) :
    FPure Tryz.prog 145 [.agg [.i j.ps, .p (.data 1 n (j.bs.map bt)), .i j.page, .i j.gen, .i j.tail, .b j.torn], .p (.data 1 m (b.map bt)), .i budget] (jrAV (rappendM j b budget)) := by
  refine fpure_x hmix Tryz.func145 rfl (by kernel_rfl) Tryz.ntmps145 Tryz.results145 (by simp) (by simp [idsL, idsA]) [0, 1, 2, 3, 6, 7, 8, 9, 10, 11, 21, 36, 45, 74] ?_; intro c hP h0 hE
  simp only [go_sem, ↓reduceIte, hP]
  first | refine xw_call hE (ks := [0, 1, 2, 3, 6, 7, 8, 9, 10, 11, 21, 36, 45, 74]) (n := 2000) (by rw [hP]; exact rGenuine_c j n hn hb) ?_ | refine xd_call hE (ks := [0, 1, 2, 3, 6, 7, 8, 9, 10, 11, 21, 36, 45, 74]) (n := 2000) (by rw [hP]; exact rGenuine_c j n hn hb) ?_
  simp only [go_sem, ↓reduceIte, hP]
  obtain ⟨R, hR⟩ : ∃ R, rappendM j b budget = R := ⟨_, rfl⟩; rw [hR] at hE; (try rw [hR])
  unfold rappendM at hR
  rw [hm] at hR
  have br : ∀ e, e ≠ 16 → brokenM ⟨j.ps, j.bs⟩ e = ⟨jn0, 0, e⟩ := fun e he => by unfold brokenM; rw [if_neg he]
  split
  · rename_i h
    rw [if_pos h] at hR
    subst hR
    first | refine xw_call hE (ks := [0, 1, 2, 3, 6, 7, 8, 9, 10, 11, 21, 36, 45, 74]) (n := 2000) (by rw [hP]; exact broken_c j.ps j.bs n 18 hn) ?_ | refine xd_call hE (ks := [0, 1, 2, 3, 6, 7, 8, 9, 10, 11, 21, 36, 45, 74]) (n := 2000) (by rw [hP]; exact broken_c j.ps j.bs n 18 hn) ?_
    rw [br 18 (by decide)]
    simp only [go_sem, ↓reduceIte, hP]
  · rename_i h
    rw [if_neg h] at hR
    have h : genuineM j = true := by simpa using h
    obtain ⟨p, k, q, e1, e2, e3, e4, e5, e6, e7, e8, e9, e10, -⟩ := genuineM_ok h
    have ht := genuine_tail h
    have nine : ¬ (1 ≤ m ∧ m ≤ 256) → R = ⟨jn0, 0, 9⟩ := fun hx => by rw [if_pos hx] at hR; exact hR.symm
    split
    · split
      · have := nine (by omega)
        subst this
        first | refine xw_call hE (ks := [0, 1, 2, 3, 6, 7, 8, 9, 10, 11, 21, 36, 45, 74]) (n := 2000) (by rw [hP]; exact broken_c j.ps j.bs n 9 hn) ?_ | refine xd_call hE (ks := [0, 1, 2, 3, 6, 7, 8, 9, 10, 11, 21, 36, 45, 74]) (n := 2000) (by rw [hP]; exact broken_c j.ps j.bs n 9 hn) ?_
        rw [br 9 (by decide)]
        simp only [go_sem, ↓reduceIte, hP]
      · rw [if_neg (by omega)] at hR
        split
        · rename_i h3
          rw [if_pos h3] at hR
          subst hR
          first | refine xw_call hE (ks := [0, 1, 2, 3, 6, 7, 8, 9, 10, 11, 21, 36, 45, 74]) (n := 2000) (by rw [hP]; exact broken_c j.ps j.bs n 18 hn) ?_ | refine xd_call hE (ks := [0, 1, 2, 3, 6, 7, 8, 9, 10, 11, 21, 36, 45, 74]) (n := 2000) (by rw [hP]; exact broken_c j.ps j.bs n 18 hn) ?_
          rw [br 18 (by decide)]
          simp only [go_sem, ↓reduceIte, hP]
        · rename_i h3
          rw [if_neg h3] at hR
          first | refine xw_call hE (ks := [0, 1, 2, 3, 6, 7, 8, 9, 10, 11, 21, 36, 45, 74]) (n := 2000) (by rw [hP]; exact rRoom_c j n hn hb) ?_ | refine xd_call hE (ks := [0, 1, 2, 3, 6, 7, 8, 9, 10, 11, 21, 36, 45, 74]) (n := 2000) (by rw [hP]; exact rRoom_c j n hn hb) ?_
          simp only [go_sem, ↓reduceIte, hP]
          have hrm : jroomM j = roomM j.ps j.tail j.torn := by unfold jroomM; rw [if_pos h]
          rw [hrm]
          split
          · rename_i h4
            rw [if_pos h4] at hR
            subst hR
            first | refine xw_call hE (ks := [0, 1, 2, 3, 6, 7, 8, 9, 10, 11, 21, 36, 45, 74]) (n := 2000) (by rw [hP]; exact broken_c j.ps j.bs n 12 hn) ?_ | refine xd_call hE (ks := [0, 1, 2, 3, 6, 7, 8, 9, 10, 11, 21, 36, 45, 74]) (n := 2000) (by rw [hP]; exact broken_c j.ps j.bs n 12 hn) ?_
            rw [br 12 (by decide)]
            simp only [go_sem, ↓reduceIte, hP]
          · rename_i h4
            rw [if_neg h4] at hR
            first | refine xw_call hE (ks := [0, 1, 2, 3, 6, 7, 8, 9, 10, 11, 21, 36, 45, 74]) (n := 2000) (by rw [hP]; exact frame_c (UInt64.ofNat j.gen.toNat) j.gen (gen_u64 _ (by omega) (by omega)) b m hm (by omega)) ?_ | refine xd_call hE (ks := [0, 1, 2, 3, 6, 7, 8, 9, 10, 11, 21, 36, 45, 74]) (n := 2000) (by rw [hP]; exact frame_c (UInt64.ofNat j.gen.toNat) j.gen (gen_u64 _ (by omega) (by omega)) b m hm (by omega)) ?_
            simp only [go_sem, ↓reduceIte, hP]
            first | refine xw_call hE (ks := [0, 1, 2, 3, 6, 7, 8, 9, 10, 11, 21, 36, 45, 74]) (n := 2000) (by rw [hP]; exact rProgram_c j.ps j.bs n j.page j.tail _ (m + 10) budget hn hb (by rw [recM_len]; omega) (by omega) hB) ?_ | refine xd_call hE (ks := [0, 1, 2, 3, 6, 7, 8, 9, 10, 11, 21, 36, 45, 74]) (n := 2000) (by rw [hP]; exact rProgram_c j.ps j.bs n j.page j.tail _ (m + 10) budget hn hb (by rw [recM_len]; omega) (by omega) hB) ?_
            have hx : progM ⟨j.ps, j.bs⟩ j.page j.tail (recM (UInt64.ofNat j.gen.toNat) b) budget = progM (flOf j) j.page j.tail (recM (UInt64.ofNat j.gen.toNat) b) budget := rfl
            rw [hx]
            generalize progM (flOf j) j.page j.tail (recM (UInt64.ofNat j.gen.toNat) b) budget = G at *
            simp only [go_sem, ↓reduceIte, hP]
            refine ⟨by kernel_rfl, ?_⟩
            split
            · rename_i h5
              rw [if_pos h5] at hR
              first | refine xw_call hE (ks := [0, 1, 2, 3, 6, 7, 8, 9, 10, 11, 21, 36, 45, 74]) (n := 2000) (by rw [hP]; exact broken_c G.f.ps G.f.bs _ G.err rfl) ?_ | refine xd_call hE (ks := [0, 1, 2, 3, 6, 7, 8, 9, 10, 11, 21, 36, 45, 74]) (n := 2000) (by rw [hP]; exact broken_c G.f.ps G.f.bs _ G.err rfl) ?_
              have hx : brokenM ⟨G.f.ps, G.f.bs⟩ G.err = R := hR
              rw [hx]
              simp only [go_sem, ↓reduceIte, hP]
            · rename_i h5
              rw [if_neg h5] at hR
              subst hR
              rw [wrap_i64_id (n := j.tail + 10) (by omega) (by omega), wrap_i64_id (by omega) (by omega)]
              simp only [and_self]
    · have := nine (by omega)
      subst this
      first | refine xw_call hE (ks := [0, 1, 2, 3, 6, 7, 8, 9, 10, 11, 21, 36, 45, 74]) (n := 2000) (by rw [hP]; exact broken_c j.ps j.bs n 9 hn) ?_ | refine xd_call hE (ks := [0, 1, 2, 3, 6, 7, 8, 9, 10, 11, 21, 36, 45, 74]) (n := 2000) (by rw [hP]; exact broken_c j.ps j.bs n 9 hn) ?_
      rw [br 9 (by decide)]
      simp only [go_sem, ↓reduceIte, hP]

end Go.Proofs.YtebndjnkmcahaaaGreatDoor

/-
  Contract of the reference's Rewrite (package passkeyref7). Own work; no statement of the seat is proved here.
-/
import Derived.Test.YtebndjnkmcahaaaGreatDoorLa
import Derived.Test.YtebndjnkmcahaaaGreatDoorRf
namespace Go.Proofs.YtebndjnkmcahaaaGreatDoor
set_option linter.unusedSimpArgs false
set_option linter.unusedVariables false
open Go Go.Abs Go.RowKit

/-- one write for each record -/
def wrsM (page : Int) (g : UInt64) : Nat → List (List UInt8) → List JOp
  | _, [] => []
  | t, b :: l => .wr page t (recM g b) :: wrsM page g (t + 10 + b.length) l
def rrewOps (j : Jn) (l : List (List UInt8)) : List JOp :=
  .er (1 - j.page) :: (wrsM (1 - j.page) (UInt64.ofNat (j.gen + 1).toNat) 16 l ++ [.wr (1 - j.page) 0 (headM (UInt64.ofNat (j.gen + 1).toNat))])
def rrewEnd (j : Jn) (l : List (List UInt8)) (X : FR) : JR :=
  if X.err ≠ 0 then brokenM X.f X.err else ⟨⟨X.f.ps, X.f.bs, 1 - j.page, j.gen + 1, ((16 + totM l : Nat) : Int), false⟩, X.left, 0⟩
def rrewriteM (j : Jn) (l : List (List UInt8)) (budget : Int) : JR :=
  if genuineM j = false then ⟨jn0, 0, 18⟩ else
  if sizedL l = false then ⟨jn0, 0, 9⟩ else
  if j.ps < 16 + (totM l : Int) then ⟨jn0, 0, 12⟩ else
  if 1099511627776 ≤ j.gen then ⟨jn0, 0, 13⟩ else
  rrewEnd j l (seqM (flOf j) budget (rrewOps j l))

theorem drop_cons' (l : List (List UInt8)) (i : Nat) (h : i < l.length) : l.drop i = l.getD i [] :: l.drop (i + 1) := by
  rw [List.drop_eq_getElem_cons h]; simp [List.getD_eq_getElem?_getD, h]

/-- where the third loop stands -/
structure RewAt (j : Jn) (l : List (List UInt8)) (m : Nat) (g : UInt64) (X : FR) (i : Nat) (G : FR) (a : Int) : Prop where
  im : i ≤ m
  left : i64 G.left
  len : G.f.bs.length < 1000000000
  good : G.err = 0 → a = ((16 + totM (l.take i) : Nat) : Int) ∧ X = seqM G.f G.left (wrsM (1 - j.page) g (16 + totM (l.take i)) (l.drop i) ++ [.wr (1 - j.page) 0 (headM g)])
  bad : G.err ≠ 0 → X = G

set_option maxHeartbeats 4000000 in
theorem rRewrite_c (j : Jn) (n : Nat) (l : List (List UInt8)) (m : Nat) (budget : Int) (hn : j.bs.length = n) (hb : n < 1000000000) (hm : l.length = m) (hmb : m < 1000000) (hlb : ∀ b, b ∈ l → b.length < 1000000) (hB : i64 budget) :
    FPure Tryz.prog 138 [.agg [.i j.ps, .p (.data 1 n (j.bs.map bt)), .i j.page, .i j.gen, .i j.tail, .b j.torn], .p (.data 1 m (l.map byP)), .i budget] (jrAV (rrewriteM j l budget)) := by
  refine fpure_x hmix Tryz.func138 rfl (by kernel_rfl) Tryz.ntmps138 Tryz.results138 (by simp) (by simp [idsL, idsA]) [0, 1, 2, 3, 6, 7, 8, 9, 10, 11, 12, 13, 14, 15, 16, 17, 20, 30, 46, 63, 78, 87, 116, 143, 155] ?_; intro c hP h0 hE
  simp only [go_sem, ↓reduceIte, hP]
  first | refine xw_call hE (ks := [0, 1, 2, 3, 6, 7, 8, 9, 10, 11, 12, 13, 14, 15, 16, 17, 20, 30, 46, 63, 78, 87, 116, 143, 155]) (n := 2000) (by rw [hP]; exact rGenuine_c j n hn hb) ?_ | refine xd_call hE (ks := [0, 1, 2, 3, 6, 7, 8, 9, 10, 11, 12, 13, 14, 15, 16, 17, 20, 30, 46, 63, 78, 87, 116, 143, 155]) (n := 2000) (by rw [hP]; exact rGenuine_c j n hn hb) ?_
  simp only [go_sem, ↓reduceIte, hP]
  obtain ⟨R, hR⟩ : ∃ R, rrewriteM j l budget = R := ⟨_, rfl⟩; rw [hR] at hE; (try rw [hR])
  unfold rrewriteM at hR
  have br : ∀ e, e ≠ 16 → brokenM ⟨j.ps, j.bs⟩ e = ⟨jn0, 0, e⟩ := fun e he => by unfold brokenM; rw [if_neg he]
  split
  · rename_i h
    rw [if_pos h] at hR
    subst hR
    first | refine xw_call hE (ks := [0, 1, 2, 3, 6, 7, 8, 9, 10, 11, 12, 13, 14, 15, 16, 17, 20, 30, 46, 63, 78, 87, 116, 143, 155]) (n := 2000) (by rw [hP]; exact broken_c j.ps j.bs n 18 hn) ?_ | refine xd_call hE (ks := [0, 1, 2, 3, 6, 7, 8, 9, 10, 11, 12, 13, 14, 15, 16, 17, 20, 30, 46, 63, 78, 87, 116, 143, 155]) (n := 2000) (by rw [hP]; exact broken_c j.ps j.bs n 18 hn) ?_
    rw [br 18 (by decide)]
    simp only [go_sem, ↓reduceIte, hP]
  · rename_i h
    rw [if_neg h] at hR
    have h : genuineM j = true := by simpa using h
    obtain ⟨p, k, q, e1, e2, e3, e4, e5, e6, e7, e8, e9, e10, -⟩ := genuineM_ok h
    have htb := totM_bd l hlb
    refine xw_loop hE h0 [0, 1, 2, 3, 6, 7, 8, 9, 10, 11, 12, 13, 14, 15, 16, 17, 20, 30, 46, 63, 78, 87, 116, 143, 155] (α := { i : Nat // i ≤ m ∧ sizedL (l.take i) = true }) (fun i => ⟨168, [(1, .p (.data 1 m (l.map byP))), (2, .i budget), (3, .ptr 0 0), (6, .ptr 1 0), (7, .i 0), (8, .i 0), (9, .i 16), (10, .i i.1)],
      [(1, some ⟨34, [.i 0, .p (.v (.slice none 0 0)), .i 0, .i 0, .i 0, .b false]⟩), (0, some ⟨34, [.i j.ps, .p (.data 1 n (j.bs.map bt)), .i j.page, .i j.gen, .i j.tail, .b j.torn]⟩)], 2⟩) (fun i => m - i.1) ⟨0, Nat.zero_le _, by simp [sizedL]⟩ [] (fun i => i) ?_ ?_
    · refine ⟨rfl, ?_, ?_, rfl, rfl, trivial, fun i h => h⟩
      · simp only [go_sem, ↓reduceIte]
      · simp only [go_sem, ↓reduceIte]
    · rintro ⟨i, hi, hs⟩
      simp only [go_sem, ↓reduceIte, hP, head_by, byP]
      have nine : ¬ (1 ≤ (l.getD i []).length ∧ (l.getD i []).length ≤ 256) → i < m → R = ⟨jn0, 0, 9⟩ := fun h2 hi => by
        rw [if_pos (sizedL_no (by omega) h2)] at hR; exact hR.symm
      split
      · rename_i him
        refine ⟨⟨by omega, by omega⟩, by omega, ?_⟩
        split
        · refine ⟨⟨by omega, by omega⟩, by omega, ?_⟩
          split
          · have := nine (by omega) (by omega)
            subst this
            first | refine xw_call hE (ks := [0, 1, 2, 3, 6, 7, 8, 9, 10, 11, 12, 13, 14, 15, 16, 17, 20, 30, 46, 63, 78, 87, 116, 143, 155]) (n := 2000) (by rw [hP]; exact broken_c j.ps j.bs n 9 hn) ?_ | refine xd_call hE (ks := [0, 1, 2, 3, 6, 7, 8, 9, 10, 11, 12, 13, 14, 15, 16, 17, 20, 30, 46, 63, 78, 87, 116, 143, 155]) (n := 2000) (by rw [hP]; exact broken_c j.ps j.bs n 9 hn) ?_
            rw [br 9 (by decide)]
            simp only [go_sem, ↓reduceIte, hP]
          · have hts := take_snoc' l i (by omega)
            (try go_unwrap)
            refine ⟨⟨i + 1, by omega, ?_⟩, by show m - (i + 1) < m - i; omega, subI rfl ?_ ?_ rfl rfl (Nat.le_refl _)⟩
            · rw [hts]; unfold sizedL at hs ⊢; rw [List.all_append, hs]; simp only [List.all_cons, List.all_nil, Bool.true_and, Bool.and_true, decide_eq_true_eq]; omega
            · simp only [go_sem, ↓reduceIte, byP]
              omega
            · simp only [go_sem, ↓reduceIte]
        · have := nine (by omega) (by omega)
          subst this
          first | refine xw_call hE (ks := [0, 1, 2, 3, 6, 7, 8, 9, 10, 11, 12, 13, 14, 15, 16, 17, 20, 30, 46, 63, 78, 87, 116, 143, 155]) (n := 2000) (by rw [hP]; exact broken_c j.ps j.bs n 9 hn) ?_ | refine xd_call hE (ks := [0, 1, 2, 3, 6, 7, 8, 9, 10, 11, 12, 13, 14, 15, 16, 17, 20, 30, 46, 63, 78, 87, 116, 143, 155]) (n := 2000) (by rw [hP]; exact broken_c j.ps j.bs n 9 hn) ?_
          rw [br 9 (by decide)]
          simp only [go_sem, ↓reduceIte, hP]
      · obtain rfl : i = m := by omega
        rw [List.take_of_length_le (by omega)] at hs
        rw [if_neg (by rw [hs]; decide)] at hR
        clear nine
        refine xw_loop hE h0 [0, 1, 2, 3, 6, 7, 8, 9, 10, 11, 12, 13, 14, 15, 16, 17, 20, 30, 46, 63, 78, 87, 116, 143, 155] (α := { a : Nat // a ≤ i }) (fun a => ⟨168, [(1, .p (.data 1 i (l.map byP))), (2, .i budget), (3, .ptr 0 0), (6, .ptr 1 0), (7, .i 0), (8, .i 0), (9, .i ((16 + totM (l.take a.1) : Nat) : Int)), (11, .i a.1)],
          [(1, some ⟨34, [.i 0, .p (.v (.slice none 0 0)), .i 0, .i 0, .i 0, .b false]⟩), (0, some ⟨34, [.i j.ps, .p (.data 1 n (j.bs.map bt)), .i j.page, .i j.gen, .i j.tail, .b j.torn]⟩)], 2⟩) (fun a => i - a.1) ⟨0, Nat.zero_le _⟩ [] (fun i => i) ?_ ?_
        · refine ⟨rfl, ?_, ?_, rfl, rfl, trivial, fun i h => h⟩
          · simp only [go_sem, ↓reduceIte]
            simp [totM]
          · simp only [go_sem, ↓reduceIte]
        · rintro ⟨a, ha⟩
          have hta := totM_take l a
          simp only [go_sem, ↓reduceIte, hP, head_by, byP]
          have twelve : j.ps < 16 + (totM l : Int) → R = ⟨jn0, 0, 12⟩ := fun h2 => by rw [if_pos h2] at hR; exact hR.symm
          split
          · split
            · refine ⟨⟨by omega, by omega⟩, by omega, ?_⟩
              have hts := take_snoc' l a (by omega)
              have ht2 := totM_take l (a + 1)
              rw [hts, totM_app] at ht2
              simp only [totM] at ht2
              (try go_unwrap)
              refine ⟨⟨a + 1, by omega⟩, by show i - (a + 1) < i - a; omega, subI rfl ?_ ?_ rfl rfl (Nat.le_refl _)⟩
              · simp only [go_sem, ↓reduceIte, hts, totM_app, totM, byP]
                omega
              · simp only [go_sem, ↓reduceIte]
            · rw [if_pos (by omega)]
              have := twelve (by omega)
              subst this
              first | refine xw_call hE (ks := [0, 1, 2, 3, 6, 7, 8, 9, 10, 11, 12, 13, 14, 15, 16, 17, 20, 30, 46, 63, 78, 87, 116, 143, 155]) (n := 2000) (by rw [hP]; exact broken_c j.ps j.bs n 12 hn) ?_ | refine xd_call hE (ks := [0, 1, 2, 3, 6, 7, 8, 9, 10, 11, 12, 13, 14, 15, 16, 17, 20, 30, 46, 63, 78, 87, 116, 143, 155]) (n := 2000) (by rw [hP]; exact broken_c j.ps j.bs n 12 hn) ?_
              rw [br 12 (by decide)]
              simp only [go_sem, ↓reduceIte, hP]
          · obtain rfl : a = i := by omega
            rw [List.take_of_length_le (by omega)] at hta ⊢
            split
            · have := twelve (by omega)
              subst this
              first | refine xw_call hE (ks := [0, 1, 2, 3, 6, 7, 8, 9, 10, 11, 12, 13, 14, 15, 16, 17, 20, 30, 46, 63, 78, 87, 116, 143, 155]) (n := 2000) (by rw [hP]; exact broken_c j.ps j.bs n 12 hn) ?_ | refine xd_call hE (ks := [0, 1, 2, 3, 6, 7, 8, 9, 10, 11, 12, 13, 14, 15, 16, 17, 20, 30, 46, 63, 78, 87, 116, 143, 155]) (n := 2000) (by rw [hP]; exact broken_c j.ps j.bs n 12 hn) ?_
              rw [br 12 (by decide)]
              simp only [go_sem, ↓reduceIte, hP]
            · rw [if_neg (by omega)] at hR
              clear twelve
              split
              · rename_i h3
                rw [if_pos h3] at hR
                subst hR
                first | refine xw_call hE (ks := [0, 1, 2, 3, 6, 7, 8, 9, 10, 11, 12, 13, 14, 15, 16, 17, 20, 30, 46, 63, 78, 87, 116, 143, 155]) (n := 2000) (by rw [hP]; exact broken_c j.ps j.bs n 13 hn) ?_ | refine xd_call hE (ks := [0, 1, 2, 3, 6, 7, 8, 9, 10, 11, 12, 13, 14, 15, 16, 17, 20, 30, 46, 63, 78, 87, 116, 143, 155]) (n := 2000) (by rw [hP]; exact broken_c j.ps j.bs n 13 hn) ?_
                rw [br 13 (by decide)]
                simp only [go_sem, ↓reduceIte, hP]
              · rename_i h3
                rw [if_neg h3] at hR
                refine ⟨by kernel_rfl, ?_⟩
                rw [wrap_i64_id (n := 1 - j.page) (by omega) (by omega), wrap_i64_id (n := j.gen + 1) (by omega) (by omega)]
                have hgu := gen_u64 (j.gen + 1) (by omega) (by omega)
                obtain ⟨X, hX⟩ : ∃ X, seqM (flOf j) budget (rrewOps j l) = X := ⟨_, rfl⟩
                rw [hX] at hR
                unfold rrewOps at hX
                first | refine xw_call hE (ks := [0, 1, 2, 3, 6, 7, 8, 9, 10, 11, 12, 13, 14, 15, 16, 17, 20, 30, 46, 63, 78, 87, 116, 143, 155]) (n := 2000) (by rw [hP]; exact rErase_c j.ps j.bs n (1 - j.page) budget hn hb hB) ?_ | refine xd_call hE (ks := [0, 1, 2, 3, 6, 7, 8, 9, 10, 11, 12, 13, 14, 15, 16, 17, 20, 30, 46, 63, 78, 87, 116, 143, 155]) (n := 2000) (by rw [hP]; exact rErase_c j.ps j.bs n (1 - j.page) budget hn hb hB) ?_
                have h1 := runM_ok (f := flOf j) (budget := budget) (.er (1 - j.page)) hB (by show j.bs.length < _; omega) trivial
                have e1 : runM (flOf j) budget (.er (1 - j.page)) = eraseM ⟨j.ps, j.bs⟩ (1 - j.page) budget := rfl
                generalize eraseM ⟨j.ps, j.bs⟩ (1 - j.page) budget = G1 at *
                rw [e1] at h1
                rw [seq_cons _ _ _ _ _ e1] at hX
                generalize hg : UInt64.ofNat (j.gen + 1).toNat = g at *
                simp only [go_sem, ↓reduceIte, hP]
                have hlj : (flOf j).bs.length = n := hn
                refine xw_loop hE h0 [0, 1, 2, 3, 6, 7, 8, 9, 10, 11, 12, 13, 14, 15, 16, 17, 20, 30, 46, 63, 78, 87, 116, 143, 155] (α := { x : Nat × FR × Int // RewAt j l a g X x.1 x.2.1 x.2.2 }) (fun x => ⟨168, [(1, .p (.data 1 a (l.map byP))), (2, .i x.1.2.1.left), (3, .ptr 0 0), (6, .ptr 1 0), (7, .i 0), (8, .i 0), (12, .i (1 - j.page)), (13, .i (j.gen + 1)), (14, .i x.1.2.2), (15, .ptr 2 0), (16, .i x.1.2.1.err), (17, .i x.1.1)],
                  (2, some ⟨32, [.i x.1.2.1.f.ps, .p (.data 1 x.1.2.1.f.bs.length (x.1.2.1.f.bs.map bt))]⟩) :: [(1, some ⟨34, [.i 0, .p (.v (.slice none 0 0)), .i 0, .i 0, .i 0, .b false]⟩), (0, some ⟨34, [.i j.ps, .p (.data 1 n (j.bs.map bt)), .i j.page, .i j.gen, .i j.tail, .b j.torn]⟩)], 3⟩) (fun x => a - x.1.1) ⟨(0, G1, 16), ?_⟩ [] (fun i => i) ?_ ?_
                · refine ⟨Nat.zero_le _, h1.1, by show G1.f.bs.length < _; omega, fun he => ⟨by simp [totM], ?_⟩, fun he => ?_⟩
                  · rw [if_neg (fun e => e he)] at hX; rw [← hX]; simp [totM]
                  · rw [if_pos he] at hX; exact hX.symm
                · refine ⟨rfl, ?_, ?_, rfl, rfl, trivial, fun i h => h⟩
                  · simp only [go_sem, ↓reduceIte]
                  · simp only [go_sem, ↓reduceIte]
                · rintro ⟨⟨b, G, t⟩, hat⟩
                  obtain ⟨hba, hGl, hGb, hgood, hbad⟩ := hat
                  simp only at hba hGl hGb hgood hbad
                  simp only [go_sem, ↓reduceIte, hP, head_by, byP]
                  have fin : G.err ≠ 0 → brokenM ⟨G.f.ps, G.f.bs⟩ G.err = R := fun he => by
                    rw [hbad he] at hR; unfold rrewEnd at hR; rw [if_pos he] at hR; exact hR
                  split
                  · split
                    · rename_i hG
                      obtain ⟨rfl, hX'⟩ := hgood hG
                      refine ⟨⟨by omega, by omega⟩, by omega, ?_⟩
                      have hel : 1 ≤ (l.getD b []).length ∧ (l.getD b []).length ≤ 256 := sizedL_get hs (by rw [show l.getD b [] = l[b]'(by omega) from by simp [List.getD_eq_getElem?_getD, show b < l.length by omega]]; exact List.getElem_mem _)
                      first | refine xw_call hE (ks := [0, 1, 2, 3, 6, 7, 8, 9, 10, 11, 12, 13, 14, 15, 16, 17, 20, 30, 46, 63, 78, 87, 116, 143, 155]) (n := 2000) (by rw [hP]; exact frame_c g (j.gen + 1) hgu (l.getD b []) _ rfl (by omega)) ?_ | refine xd_call hE (ks := [0, 1, 2, 3, 6, 7, 8, 9, 10, 11, 12, 13, 14, 15, 16, 17, 20, 30, 46, 63, 78, 87, 116, 143, 155]) (n := 2000) (by rw [hP]; exact frame_c g (j.gen + 1) hgu (l.getD b []) _ rfl (by omega)) ?_
                      simp only [go_sem, ↓reduceIte, hP]
                      first | refine xw_call hE (ks := [0, 1, 2, 3, 6, 7, 8, 9, 10, 11, 12, 13, 14, 15, 16, 17, 20, 30, 46, 63, 78, 87, 116, 143, 155]) (n := 2000) (by rw [hP]; exact rProgram_c G.f.ps G.f.bs _ (1 - j.page) _ (recM g (l.getD b [])) _ G.left rfl hGb (by rw [recM_len]) (by omega) hGl) ?_ | refine xd_call hE (ks := [0, 1, 2, 3, 6, 7, 8, 9, 10, 11, 12, 13, 14, 15, 16, 17, 20, 30, 46, 63, 78, 87, 116, 143, 155]) (n := 2000) (by rw [hP]; exact rProgram_c G.f.ps G.f.bs _ (1 - j.page) _ (recM g (l.getD b [])) _ G.left rfl hGb (by rw [recM_len]) (by omega) hGl) ?_
                      have e2 : runM G.f G.left (.wr (1 - j.page) ((16 + totM (l.take b) : Nat) : Int) (recM g (l.getD b []))) = progM ⟨G.f.ps, G.f.bs⟩ (1 - j.page) ((16 + totM (l.take b) : Nat) : Int) (recM g (l.getD b [])) G.left := rfl
                      have h2 := runM_ok (f := G.f) (budget := G.left) (.wr (1 - j.page) ((16 + totM (l.take b) : Nat) : Int) (recM g (l.getD b []))) hGl hGb (by show (recM g (l.getD b [])).length < _; rw [recM_len]; omega)
                      rw [drop_cons' l b (by omega)] at hX'
                      simp only [wrsM, List.cons_append] at hX'
                      rw [seq_cons _ _ _ _ _ e2] at hX'
                      rw [e2] at h2
                      generalize progM ⟨G.f.ps, G.f.bs⟩ (1 - j.page) ((16 + totM (l.take b) : Nat) : Int) (recM g (l.getD b [])) G.left = H at *
                      simp only [go_sem, ↓reduceIte, hP, head_by, byP]
                      have hts := take_snoc' l b (by omega)
                      have ht2 := totM_take l (b + 1)
                      rw [hts, totM_app] at ht2
                      simp only [totM] at ht2
                      have htt : totM (l.take (b + 1)) = totM (l.take b) + 10 + (l.getD b []).length := by rw [hts, totM_app]; simp only [totM]; omega
                      refine ⟨by kernel_rfl, ⟨by omega, by omega⟩, by omega, ?_⟩
                      (try go_unwrap)
                      refine ⟨⟨(b + 1, H, ((16 + totM (l.take (b + 1)) : Nat) : Int)), ⟨by show b + 1 ≤ a; omega, h2.1, Nat.lt_of_le_of_lt h2.2 hGb, fun he => ⟨rfl, ?_⟩, fun he => ?_⟩⟩, by show a - (b + 1) < a - b; omega, subI rfl ?_ ?_ rfl rfl (Nat.le_refl _)⟩
                      · have he : H.err = 0 := he
                        rw [if_neg (fun e => e he)] at hX'
                        rw [hX', htt, ← Nat.add_assoc, ← Nat.add_assoc]
                      · have he : H.err ≠ 0 := he
                        rw [if_pos he] at hX'; exact hX'
                      · simp only [go_sem, ↓reduceIte, htt]
                        omega
                      · simp only [go_sem, ↓reduceIte]
                    · rename_i hG
                      first | refine xw_call hE (ks := [0, 1, 2, 3, 6, 7, 8, 9, 10, 11, 12, 13, 14, 15, 16, 17, 20, 30, 46, 63, 78, 87, 116, 143, 155]) (n := 2000) (by rw [hP]; exact broken_c G.f.ps G.f.bs _ G.err rfl) ?_ | refine xd_call hE (ks := [0, 1, 2, 3, 6, 7, 8, 9, 10, 11, 12, 13, 14, 15, 16, 17, 20, 30, 46, 63, 78, 87, 116, 143, 155]) (n := 2000) (by rw [hP]; exact broken_c G.f.ps G.f.bs _ G.err rfl) ?_
                      rw [fin hG]
                      simp only [go_sem, ↓reduceIte, hP]
                  · obtain rfl : b = a := by omega
                    split
                    · rename_i hG
                      obtain ⟨rfl, hX'⟩ := hgood hG
                      rw [List.take_of_length_le (by omega), List.drop_eq_nil_of_le (by omega)] at hX'
                      simp only [wrsM, List.nil_append] at hX'
                      first | refine xw_call hE (ks := [0, 1, 2, 3, 6, 7, 8, 9, 10, 11, 12, 13, 14, 15, 16, 17, 20, 30, 46, 63, 78, 87, 116, 143, 155]) (n := 2000) (by rw [hP]; exact rheader_c g (j.gen + 1) hgu) ?_ | refine xd_call hE (ks := [0, 1, 2, 3, 6, 7, 8, 9, 10, 11, 12, 13, 14, 15, 16, 17, 20, 30, 46, 63, 78, 87, 116, 143, 155]) (n := 2000) (by rw [hP]; exact rheader_c g (j.gen + 1) hgu) ?_
                      simp only [go_sem, ↓reduceIte, hP]
                      first | refine xw_call hE (ks := [0, 1, 2, 3, 6, 7, 8, 9, 10, 11, 12, 13, 14, 15, 16, 17, 20, 30, 46, 63, 78, 87, 116, 143, 155]) (n := 2000) (by rw [hP]; exact rProgram_c G.f.ps G.f.bs _ (1 - j.page) 0 (headM g) 16 G.left rfl hGb (headM_len _) (by decide) hGl) ?_ | refine xd_call hE (ks := [0, 1, 2, 3, 6, 7, 8, 9, 10, 11, 12, 13, 14, 15, 16, 17, 20, 30, 46, 63, 78, 87, 116, 143, 155]) (n := 2000) (by rw [hP]; exact rProgram_c G.f.ps G.f.bs _ (1 - j.page) 0 (headM g) 16 G.left rfl hGb (headM_len _) (by decide) hGl) ?_
                      have e2 : runM G.f G.left (.wr (1 - j.page) 0 (headM g)) = progM ⟨G.f.ps, G.f.bs⟩ (1 - j.page) 0 (headM g) G.left := rfl
                      rw [seq_cons _ _ _ _ _ e2] at hX'
                      generalize progM ⟨G.f.ps, G.f.bs⟩ (1 - j.page) 0 (headM g) G.left = H at *
                      simp only [go_sem, ↓reduceIte, hP]
                      refine ⟨by kernel_rfl, ?_⟩
                      unfold rrewEnd at hR
                      split
                      · rename_i hH
                        rw [if_pos hH] at hX'
                        rw [hX', if_pos hH] at hR
                        first | refine xw_call hE (ks := [0, 1, 2, 3, 6, 7, 8, 9, 10, 11, 12, 13, 14, 15, 16, 17, 20, 30, 46, 63, 78, 87, 116, 143, 155]) (n := 2000) (by rw [hP]; exact broken_c H.f.ps H.f.bs _ H.err rfl) ?_ | refine xd_call hE (ks := [0, 1, 2, 3, 6, 7, 8, 9, 10, 11, 12, 13, 14, 15, 16, 17, 20, 30, 46, 63, 78, 87, 116, 143, 155]) (n := 2000) (by rw [hP]; exact broken_c H.f.ps H.f.bs _ H.err rfl) ?_
                        have hx : brokenM ⟨H.f.ps, H.f.bs⟩ H.err = R := hR
                        rw [hx]
                        simp only [go_sem, ↓reduceIte, hP]
                      · rename_i hH
                        rw [if_neg hH] at hX'
                        simp only [seqM] at hX'
                        subst hX'
                        rw [if_neg (fun e => e rfl)] at hR
                        subst hR
                        rw [List.take_of_length_le (by omega)]
                        simp only [and_self]
                    · rename_i hG
                      first | refine xw_call hE (ks := [0, 1, 2, 3, 6, 7, 8, 9, 10, 11, 12, 13, 14, 15, 16, 17, 20, 30, 46, 63, 78, 87, 116, 143, 155]) (n := 2000) (by rw [hP]; exact broken_c G.f.ps G.f.bs _ G.err rfl) ?_ | refine xd_call hE (ks := [0, 1, 2, 3, 6, 7, 8, 9, 10, 11, 12, 13, 14, 15, 16, 17, 20, 30, 46, 63, 78, 87, 116, 143, 155]) (n := 2000) (by rw [hP]; exact broken_c G.f.ps G.f.bs _ G.err rfl) ?_
                      rw [fin hG]
                      simp only [go_sem, ↓reduceIte, hP]

end Go.Proofs.YtebndjnkmcahaaaGreatDoor

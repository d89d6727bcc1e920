/-
  Contracts of the reference of the journal (package passkeyref7). Own work; no statement of the seat is proved here.
-/
import Derived.Test.YtebndjnkmcahaaaGreatDoorRf
namespace Go.Proofs.YtebndjnkmcahaaaGreatDoor
set_option linter.unusedSimpArgs false
set_option linter.unusedVariables false
open Go Go.Abs Go.RowKit

theorem generation_m (ps : Int) (bs : List UInt8) (p k n q : Nat) (qi : Int) (hps : ps = p) (hqi : qi = q) (hl : bs.length = n) (hn : n = p * k) (hq : q < k) (hk : k ≤ 8) (hp1 : 512 ≤ p) (hp : p ≤ 8192) :
    FPure Tryz.prog 187 [.agg [.i ps, .p (.data 1 n (bs.map bt))], .i qi] (.i (genM (pgM ⟨ps, bs⟩ q))) := by
  subst hps hqi
  have hb : p * k ≤ 8192 * 8 := Nat.mul_le_mul hp hk
  have := generation_c p k q n bs hn hl (by omega) hq hk hp1 (by omega)
  simpa only [pgM, Int.toNat_natCast] using this
theorem scan_m (ps : Int) (bs : List UInt8) (p k n q : Nat) (qi : Int) (g : UInt64) (gi : Int) (hg : IntKind.u64.wrap gi = g.toNat) (hps : ps = p) (hqi : qi = q) (hl : bs.length = n) (hn : n = p * k) (hq : q < k) (hk : k ≤ 8) (hp1 : 512 ≤ p) (hp : p ≤ 8192) :
    FPure Tryz.prog 188 [.agg [.i ps, .p (.data 1 n (bs.map bt))], .i qi, .i gi] (.tup [.p (.data 1 (scanM (pgM ⟨ps, bs⟩ q) g).1.length ((scanM (pgM ⟨ps, bs⟩ q) g).1.map byP)), .i (scanM (pgM ⟨ps, bs⟩ q) g).2]) := by
  subst hps hqi
  have hb : p * k ≤ 8192 * 8 := Nat.mul_le_mul hp hk
  have := scan_c p k q n bs hn hl (by omega) hq hk hp1 (by omega) g gi hg
  simpa only [pgM, Int.toNat_natCast] using this

theorem tornStep (pg : List UInt8) (t i : Nat) (hi : t + i < pg.length) : (((pg.drop t).take (i + 1)).all (· == 255)) = ((((pg.drop t).take i).all (· == 255)) && (pg.getD (t + i) 0 == 255)) := by
  rw [List.take_succ_eq_append_getElem (by simp; omega), List.all_append]
  simp [List.getD_eq_getElem?_getD, hi]

set_option maxHeartbeats 4000000 in
theorem rMount_c (ps : Int) (bs : List UInt8) (n : Nat) (hn : bs.length = n) (hb : n < 1000000000) : FPure Tryz.prog 134 [.agg [.i ps, .p (.data 1 n (bs.map bt))]] (mrAV (mountM ⟨ps, bs⟩)) := by
  refine fpure_x hmix Tryz.func134 rfl (by kernel_rfl) Tryz.ntmps134 Tryz.results134 (by simp) (by simp [idsL, idsA]) [0, 1, 2, 3, 4, 5, 6, 7, 8, 12, 21, 32, 44, 63] ?_; intro c hP h0 hE
  simp only [go_sem, ↓reduceIte, hP]
  first | refine xw_call hE (ks := [0, 1, 2, 3, 4, 5, 6, 7, 8, 12, 21, 32, 44, 63]) (n := 2000) (by rw [hP]; exact rValidate_c ps n _ hb) ?_ | refine xd_call hE (ks := [0, 1, 2, 3, 4, 5, 6, 7, 8, 12, 21, 32, 44, 63]) (n := 2000) (by rw [hP]; exact rValidate_c ps n _ hb) ?_
  simp only [go_sem, ↓reduceIte, hP]
  obtain ⟨R, hR⟩ : ∃ R, mountM ⟨ps, bs⟩ = R := ⟨_, rfl⟩; rw [hR] at hE; (try rw [hR])
  unfold mountM at hR
  split
  · rename_i h
    have hx : examM ⟨ps, bs⟩ = validM ps n := by unfold examM; simp only [hn]; rw [if_pos h]
    rw [hx, if_pos h] at hR
    subst hR
    simp only [jn0, List.length_nil, List.map_nil, and_self]
  · rename_i h
    obtain ⟨p, k, hp, hp1, hp2, hnk, hk1, hk2⟩ := valid_ok (show validM ps n = 0 by omega)
    (try go_unwrap)
    split
    · have hx : examM ⟨ps, bs⟩ = 4 := by unfold examM; simp only [hn]; rw [if_neg h, if_pos (by omega)]
      rw [hx, if_pos (by decide)] at hR
      subst hR
      simp only [jn0, List.length_nil, List.map_nil, and_self]
    · have hx : examM ⟨ps, bs⟩ = 0 := by unfold examM; simp only [hn]; rw [if_neg h, if_neg (by omega)]
      rw [hx, if_neg (by decide)] at hR
      have hk3 : 2 ≤ k := by
        rcases Nat.lt_or_ge k 2 with h7 | h7
        · obtain rfl : k = 1 := by omega
          omega
        · exact h7
      refine xd_call hE (ks := [0, 1, 2, 3, 4, 5, 6, 7, 8, 12, 21, 32, 44, 63]) (n := 2000) (by rw [hP]; exact generation_m ps bs p k n 0 0 hp rfl hn hnk (by omega) hk2 hp1 hp2) ?_
      simp only [go_sem, ↓reduceIte, hP]
      refine xd_call hE (ks := [0, 1, 2, 3, 4, 5, 6, 7, 8, 12, 21, 32, 44, 63]) (n := 2000) (by rw [hP]; exact generation_m ps bs p k n 1 1 hp rfl hn hnk (by omega) hk2 hp1 hp2) ?_
      simp only [go_sem, ↓reduceIte, hP]
      refine ⟨by kernel_rfl, ?_⟩
      have r0 := genM_range (pgM ⟨ps, bs⟩ 0)
      have r1 := genM_range (pgM ⟨ps, bs⟩ 1)
      have hbk : p * k ≤ 8192 * 8 := Nat.mul_le_mul hp2 hk2
      split
      · rename_i ha
        split
        · rename_i hb0
          rw [if_neg (by omega), if_pos ha] at hR
          subst hR
          simp only [jn0, List.length_nil, List.map_nil, and_self]
        · rename_i hb0
          refine ⟨⟨by omega, by omega⟩, by kernel_rfl, ?_⟩
          rw [if_pos (by omega)] at hR ⊢
          first | refine xw_call hE (ks := [0, 1, 2, 3, 4, 5, 6, 7, 8, 12, 21, 32, 44, 63]) (n := 2000) (by rw [hP]; exact scan_m ps bs p k n 1 1 (UInt64.ofNat (genM (pgM ⟨ps, bs⟩ 1)).toNat) _ (gen_u64 _ (by omega) (by omega)) hp rfl hn hnk (by omega) hk2 hp1 hp2) ?_ | refine xd_call hE (ks := [0, 1, 2, 3, 4, 5, 6, 7, 8, 12, 21, 32, 44, 63]) (n := 2000) (by rw [hP]; exact scan_m ps bs p k n 1 1 (UInt64.ofNat (genM (pgM ⟨ps, bs⟩ 1)).toNat) _ (gen_u64 _ (by omega) (by omega)) hp rfl hn hnk (by omega) hk2 hp1 hp2) ?_
          have hpl : (pgM ⟨ps, bs⟩ 1).length = p := pgM_len hp (hn.trans hnk) (by omega)
          have hs := scanM_le (pgM ⟨ps, bs⟩ 1) (UInt64.ofNat (genM (pgM ⟨ps, bs⟩ 1)).toNat) (by omega)
          have hma : mountAt ⟨ps, bs⟩ 1 (genM (pgM ⟨ps, bs⟩ 1)) = ⟨ps, bs, (1 : Nat), genM (pgM ⟨ps, bs⟩ 1), ((scanM (pgM ⟨ps, bs⟩ 1) (UInt64.ofNat (genM (pgM ⟨ps, bs⟩ 1)).toNat)).2 : Nat), !((pgM ⟨ps, bs⟩ 1).drop (scanM (pgM ⟨ps, bs⟩ 1) (UInt64.ofNat (genM (pgM ⟨ps, bs⟩ 1)).toNat)).2).all (· == 255)⟩ := rfl
          generalize scanM (pgM ⟨ps, bs⟩ 1) (UInt64.ofNat (genM (pgM ⟨ps, bs⟩ 1)).toNat) = T at *
          simp only [go_sem, ↓reduceIte, hP, cb_def]
          generalize hG : genM (pgM ⟨ps, bs⟩ 1) = G at *
          have hget : ∀ i, i < p → (pgM ⟨ps, bs⟩ 1).getD i 0 = bs.getD (1 * p + i) 0 := by
            intro i hi
            unfold pgM
            simp only [hp, Int.toNat_natCast, List.getD_eq_getElem?_getD, List.getElem?_take, if_pos hi, List.getElem?_drop]
          have hle := page_le (p := p) (show 1 < k by omega)
          refine xw_for hE h0 [0, 1, 2, 3, 4, 5, 6, 7, 8, 12, 21, 32, 44, 63] (p - T.2) (fun d => ⟨84, [(1, .ptr 0 0), (2, .ptr 1 0), (7, .ptr 3 0), (8, .i ((T.2 + d : Nat) : Int))],
            [(3, some ⟨34, [.i ps, .sl 2 0 n 1, .i 1, .i G, .i T.2, .b (!((((pgM ⟨ps, bs⟩ 1).drop T.2).take d).all (· == 255)))]⟩), (2, some ⟨byteT, cb bs⟩), (1, some ⟨34, [.i 0, .p (.v (.slice none 0 0)), .i 0, .i 0, .i 0, .b false]⟩), (0, some ⟨32, [.i ps, .p (.data 1 n (bs.map bt))]⟩)], 4⟩) [] (fun i => i) ?_ ?_
          · refine ⟨rfl, ?_, ?_, rfl, rfl, trivial, fun i h => h⟩
            · simp only [go_sem, ↓reduceIte]
            · simp only [go_sem, ↓reduceIte, List.take_zero, List.all_nil, Bool.not_true]
              exact cb_viewA _ _ _ _
          · intro d hd
            have hst := tornStep (pgM ⟨ps, bs⟩ 1) T.2 d
            generalize hU : (((pgM ⟨ps, bs⟩ 1).drop T.2).take d).all (· == 255) = U at *
            have e1 : IntKind.i64.wrap (1 * ps) = ((1 * p : Nat) : Int) := by rw [hp, wrap_i64_id (by omega) (by omega)]; omega
            have e2 : d < p - T.2 → IntKind.i64.wrap (((1 * p : Nat) : Int) + ((T.2 + d : Nat) : Int)) = ((1 * p + (T.2 + d) : Nat) : Int) := fun h => by rw [wrap_i64_id (by omega) (by omega)]; omega
            have e255 : ∀ x : UInt8, ((x.toNat : Int) != 255) = !(x == 255) := fun x => by
              have : ((x.toNat : Int) = 255) ↔ x = 255 := by rw [← UInt8.toNat_inj]; simp; omega
              rw [Bool.eq_iff_iff]; simp [this]
            by_cases hdl : d < p - T.2
            · have hst := hst (by omega)
              rw [hget _ (by omega)] at hst
              simp only [go_sem, ↓reduceIte, hP, e1, e2 hdl, e255]
              rw [if_pos (by omega), wrap_i64_id (by omega) (by omega)]
              cases U
              · rw [if_neg (by decide)]
                refine ⟨hdl, subI rfl ?_ ?_ rfl rfl (Nat.le_refl _)⟩
                · simp only [go_sem, ↓reduceIte]; omega
                · simp only [go_sem, ↓reduceIte, hst, Bool.false_and, Bool.not_false]
                  exact cb_viewA _ _ _ _
              · rw [if_pos rfl]
                refine ⟨⟨by omega, by omega⟩, by omega, hdl, subI rfl ?_ ?_ rfl rfl (Nat.le_refl _)⟩
                · simp only [go_sem, ↓reduceIte]; omega
                · simp only [go_sem, ↓reduceIte, hst, Bool.true_and]
                  exact cb_viewA _ _ _ _
            · obtain rfl : d = p - T.2 := by omega
              rw [List.take_of_length_le (by simp; omega)] at hU
              simp only [go_sem, ↓reduceIte, hP]
              rw [if_neg (by omega)]
              rw [hma, hU] at hR
              subst hR
              simp only [hn, List.take_of_length_le (Nat.le_of_eq hn), and_self, Nat.le_refl, true_and]
              first | rfl | trivial | exact ⟨⟨rfl, trivial⟩, trivial⟩ | exact ⟨rfl, trivial⟩
      · rename_i ha
        refine ⟨⟨by omega, by omega⟩, by kernel_rfl, ?_⟩
        split
        · rw [if_pos ‹_›] at hR
          first | refine xw_call hE (ks := [0, 1, 2, 3, 4, 5, 6, 7, 8, 12, 21, 32, 44, 63]) (n := 2000) (by rw [hP]; exact scan_m ps bs p k n 1 1 (UInt64.ofNat (genM (pgM ⟨ps, bs⟩ 1)).toNat) _ (gen_u64 _ (by omega) (by omega)) hp rfl hn hnk (by omega) hk2 hp1 hp2) ?_ | refine xd_call hE (ks := [0, 1, 2, 3, 4, 5, 6, 7, 8, 12, 21, 32, 44, 63]) (n := 2000) (by rw [hP]; exact scan_m ps bs p k n 1 1 (UInt64.ofNat (genM (pgM ⟨ps, bs⟩ 1)).toNat) _ (gen_u64 _ (by omega) (by omega)) hp rfl hn hnk (by omega) hk2 hp1 hp2) ?_
          have hpl : (pgM ⟨ps, bs⟩ 1).length = p := pgM_len hp (hn.trans hnk) (by omega)
          have hs := scanM_le (pgM ⟨ps, bs⟩ 1) (UInt64.ofNat (genM (pgM ⟨ps, bs⟩ 1)).toNat) (by omega)
          have hma : mountAt ⟨ps, bs⟩ 1 (genM (pgM ⟨ps, bs⟩ 1)) = ⟨ps, bs, (1 : Nat), genM (pgM ⟨ps, bs⟩ 1), ((scanM (pgM ⟨ps, bs⟩ 1) (UInt64.ofNat (genM (pgM ⟨ps, bs⟩ 1)).toNat)).2 : Nat), !((pgM ⟨ps, bs⟩ 1).drop (scanM (pgM ⟨ps, bs⟩ 1) (UInt64.ofNat (genM (pgM ⟨ps, bs⟩ 1)).toNat)).2).all (· == 255)⟩ := rfl
          generalize scanM (pgM ⟨ps, bs⟩ 1) (UInt64.ofNat (genM (pgM ⟨ps, bs⟩ 1)).toNat) = T at *
          simp only [go_sem, ↓reduceIte, hP, cb_def]
          generalize hG : genM (pgM ⟨ps, bs⟩ 1) = G at *
          have hget : ∀ i, i < p → (pgM ⟨ps, bs⟩ 1).getD i 0 = bs.getD (1 * p + i) 0 := by
            intro i hi
            unfold pgM
            simp only [hp, Int.toNat_natCast, List.getD_eq_getElem?_getD, List.getElem?_take, if_pos hi, List.getElem?_drop]
          have hle := page_le (p := p) (show 1 < k by omega)
          refine xw_for hE h0 [0, 1, 2, 3, 4, 5, 6, 7, 8, 12, 21, 32, 44, 63] (p - T.2) (fun d => ⟨84, [(1, .ptr 0 0), (2, .ptr 1 0), (7, .ptr 3 0), (8, .i ((T.2 + d : Nat) : Int))],
            [(3, some ⟨34, [.i ps, .sl 2 0 n 1, .i 1, .i G, .i T.2, .b (!((((pgM ⟨ps, bs⟩ 1).drop T.2).take d).all (· == 255)))]⟩), (2, some ⟨byteT, cb bs⟩), (1, some ⟨34, [.i 0, .p (.v (.slice none 0 0)), .i 0, .i 0, .i 0, .b false]⟩), (0, some ⟨32, [.i ps, .p (.data 1 n (bs.map bt))]⟩)], 4⟩) [] (fun i => i) ?_ ?_
          · refine ⟨rfl, ?_, ?_, rfl, rfl, trivial, fun i h => h⟩
            · simp only [go_sem, ↓reduceIte]
            · simp only [go_sem, ↓reduceIte, List.take_zero, List.all_nil, Bool.not_true]
              exact cb_viewA _ _ _ _
          · intro d hd
            have hst := tornStep (pgM ⟨ps, bs⟩ 1) T.2 d
            generalize hU : (((pgM ⟨ps, bs⟩ 1).drop T.2).take d).all (· == 255) = U at *
            have e1 : IntKind.i64.wrap (1 * ps) = ((1 * p : Nat) : Int) := by rw [hp, wrap_i64_id (by omega) (by omega)]; omega
            have e2 : d < p - T.2 → IntKind.i64.wrap (((1 * p : Nat) : Int) + ((T.2 + d : Nat) : Int)) = ((1 * p + (T.2 + d) : Nat) : Int) := fun h => by rw [wrap_i64_id (by omega) (by omega)]; omega
            have e255 : ∀ x : UInt8, ((x.toNat : Int) != 255) = !(x == 255) := fun x => by
              have : ((x.toNat : Int) = 255) ↔ x = 255 := by rw [← UInt8.toNat_inj]; simp; omega
              rw [Bool.eq_iff_iff]; simp [this]
            by_cases hdl : d < p - T.2
            · have hst := hst (by omega)
              rw [hget _ (by omega)] at hst
              simp only [go_sem, ↓reduceIte, hP, e1, e2 hdl, e255]
              rw [if_pos (by omega), wrap_i64_id (by omega) (by omega)]
              cases U
              · rw [if_neg (by decide)]
                refine ⟨hdl, subI rfl ?_ ?_ rfl rfl (Nat.le_refl _)⟩
                · simp only [go_sem, ↓reduceIte]; omega
                · simp only [go_sem, ↓reduceIte, hst, Bool.false_and, Bool.not_false]
                  exact cb_viewA _ _ _ _
              · rw [if_pos rfl]
                refine ⟨⟨by omega, by omega⟩, by omega, hdl, subI rfl ?_ ?_ rfl rfl (Nat.le_refl _)⟩
                · simp only [go_sem, ↓reduceIte]; omega
                · simp only [go_sem, ↓reduceIte, hst, Bool.true_and]
                  exact cb_viewA _ _ _ _
            · obtain rfl : d = p - T.2 := by omega
              rw [List.take_of_length_le (by simp; omega)] at hU
              simp only [go_sem, ↓reduceIte, hP]
              rw [if_neg (by omega)]
              rw [hma, hU] at hR
              subst hR
              simp only [hn, List.take_of_length_le (Nat.le_of_eq hn), and_self, Nat.le_refl, true_and]
              first | rfl | trivial | exact ⟨⟨rfl, trivial⟩, trivial⟩ | exact ⟨rfl, trivial⟩
        · rw [if_neg ‹_›, if_neg ha] at hR
          first | refine xw_call hE (ks := [0, 1, 2, 3, 4, 5, 6, 7, 8, 12, 21, 32, 44, 63]) (n := 2000) (by rw [hP]; exact scan_m ps bs p k n 0 0 (UInt64.ofNat (genM (pgM ⟨ps, bs⟩ 0)).toNat) _ (gen_u64 _ (by omega) (by omega)) hp rfl hn hnk (by omega) hk2 hp1 hp2) ?_ | refine xd_call hE (ks := [0, 1, 2, 3, 4, 5, 6, 7, 8, 12, 21, 32, 44, 63]) (n := 2000) (by rw [hP]; exact scan_m ps bs p k n 0 0 (UInt64.ofNat (genM (pgM ⟨ps, bs⟩ 0)).toNat) _ (gen_u64 _ (by omega) (by omega)) hp rfl hn hnk (by omega) hk2 hp1 hp2) ?_
          have hpl : (pgM ⟨ps, bs⟩ 0).length = p := pgM_len hp (hn.trans hnk) (by omega)
          have hs := scanM_le (pgM ⟨ps, bs⟩ 0) (UInt64.ofNat (genM (pgM ⟨ps, bs⟩ 0)).toNat) (by omega)
          have hma : mountAt ⟨ps, bs⟩ 0 (genM (pgM ⟨ps, bs⟩ 0)) = ⟨ps, bs, (0 : Nat), genM (pgM ⟨ps, bs⟩ 0), ((scanM (pgM ⟨ps, bs⟩ 0) (UInt64.ofNat (genM (pgM ⟨ps, bs⟩ 0)).toNat)).2 : Nat), !((pgM ⟨ps, bs⟩ 0).drop (scanM (pgM ⟨ps, bs⟩ 0) (UInt64.ofNat (genM (pgM ⟨ps, bs⟩ 0)).toNat)).2).all (· == 255)⟩ := rfl
          generalize scanM (pgM ⟨ps, bs⟩ 0) (UInt64.ofNat (genM (pgM ⟨ps, bs⟩ 0)).toNat) = T at *
          simp only [go_sem, ↓reduceIte, hP, cb_def]
          generalize hG : genM (pgM ⟨ps, bs⟩ 0) = G at *
          have hget : ∀ i, i < p → (pgM ⟨ps, bs⟩ 0).getD i 0 = bs.getD (0 * p + i) 0 := by
            intro i hi
            unfold pgM
            simp only [hp, Int.toNat_natCast, List.getD_eq_getElem?_getD, List.getElem?_take, if_pos hi, List.getElem?_drop]
          have hle := page_le (p := p) (show 0 < k by omega)
          refine xw_for hE h0 [0, 1, 2, 3, 4, 5, 6, 7, 8, 12, 21, 32, 44, 63] (p - T.2) (fun d => ⟨84, [(1, .ptr 0 0), (2, .ptr 1 0), (7, .ptr 3 0), (8, .i ((T.2 + d : Nat) : Int))],
            [(3, some ⟨34, [.i ps, .sl 2 0 n 1, .i 0, .i G, .i T.2, .b (!((((pgM ⟨ps, bs⟩ 0).drop T.2).take d).all (· == 255)))]⟩), (2, some ⟨byteT, cb bs⟩), (1, some ⟨34, [.i 0, .p (.v (.slice none 0 0)), .i 0, .i 0, .i 0, .b false]⟩), (0, some ⟨32, [.i ps, .p (.data 1 n (bs.map bt))]⟩)], 4⟩) [] (fun i => i) ?_ ?_
          · refine ⟨rfl, ?_, ?_, rfl, rfl, trivial, fun i h => h⟩
            · simp only [go_sem, ↓reduceIte]
            · simp only [go_sem, ↓reduceIte, List.take_zero, List.all_nil, Bool.not_true]
              exact cb_viewA _ _ _ _
          · intro d hd
            have hst := tornStep (pgM ⟨ps, bs⟩ 0) T.2 d
            generalize hU : (((pgM ⟨ps, bs⟩ 0).drop T.2).take d).all (· == 255) = U at *
            have e1 : IntKind.i64.wrap (0 * ps) = ((0 * p : Nat) : Int) := by rw [hp, wrap_i64_id (by omega) (by omega)]; omega
            have e2 : d < p - T.2 → IntKind.i64.wrap (((0 * p : Nat) : Int) + ((T.2 + d : Nat) : Int)) = ((0 * p + (T.2 + d) : Nat) : Int) := fun h => by rw [wrap_i64_id (by omega) (by omega)]; omega
            have e255 : ∀ x : UInt8, ((x.toNat : Int) != 255) = !(x == 255) := fun x => by
              have : ((x.toNat : Int) = 255) ↔ x = 255 := by rw [← UInt8.toNat_inj]; simp; omega
              rw [Bool.eq_iff_iff]; simp [this]
            by_cases hdl : d < p - T.2
            · have hst := hst (by omega)
              rw [hget _ (by omega)] at hst
              simp only [go_sem, ↓reduceIte, hP, e1, e2 hdl, e255]
              rw [if_pos (by omega), wrap_i64_id (by omega) (by omega)]
              cases U
              · rw [if_neg (by decide)]
                refine ⟨hdl, subI rfl ?_ ?_ rfl rfl (Nat.le_refl _)⟩
                · simp only [go_sem, ↓reduceIte]; omega
                · simp only [go_sem, ↓reduceIte, hst, Bool.false_and, Bool.not_false]
                  exact cb_viewA _ _ _ _
              · rw [if_pos rfl]
                refine ⟨⟨by omega, by omega⟩, by omega, hdl, subI rfl ?_ ?_ rfl rfl (Nat.le_refl _)⟩
                · simp only [go_sem, ↓reduceIte]; omega
                · simp only [go_sem, ↓reduceIte, hst, Bool.true_and]
                  exact cb_viewA _ _ _ _
            · obtain rfl : d = p - T.2 := by omega
              rw [List.take_of_length_le (by simp; omega)] at hU
              simp only [go_sem, ↓reduceIte, hP]
              rw [if_neg (by omega)]
              rw [hma, hU] at hR
              subst hR
              simp only [hn, List.take_of_length_le (Nat.le_of_eq hn), and_self, Nat.le_refl, true_and]
              first | rfl | trivial | exact ⟨⟨rfl, trivial⟩, trivial⟩ | exact ⟨rfl, trivial⟩

end Go.Proofs.YtebndjnkmcahaaaGreatDoor

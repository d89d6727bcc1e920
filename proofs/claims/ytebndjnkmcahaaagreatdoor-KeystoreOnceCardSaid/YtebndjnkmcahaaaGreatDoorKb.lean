/- joined of several texts; own work; no statement of the seat is proved but in the last -/
import Derived.Test.YtebndjnkmcahaaaGreatDoorDev
import Derived.Test.YtebndjnkmcahaaaGreatDoorAbsU
import Derived.Test.YtebndjnkmcahaaaGreatDoorVx
section
/-
  Derived keys, numbers in bytes, and the plain device. Own work; no statement of the seat is proved here.
-/
section
namespace Go.Proofs.YtebndjnkmcahaaaGreatDoor
set_option linter.unusedSimpArgs false
set_option linter.unusedVariables false
open Go Go.Abs Go.RowKit

def u64i (n : Int) : UInt64 := UInt64.ofNat (n % 18446744073709551616).toNat
theorem conv_u64i (n : Int) : IntKind.u64.wrap n = ((u64i n).toNat : Int) := by
  rw [wrap_u64_def, u64i, ← lit_u64 _ (by omega)]; omega
/-- Derive -/
def derM (k : UInt64) (s : List UInt8) (n : Int) : UInt64 := sumM k 5 (s ++ [0] ++ wordsM [u64i n] 1)
theorem words1 (x : UInt64) : wordsM [x] 1 = wordB x 8 := by simp [wordsM]

theorem cell0 : [AV.p (.v (.int .u8 0))] = cb [0] := rfl
theorem derive_c (k : UInt64) (s : List UInt8) (n : Int) (hs : s.length < 1000) : FPure Tryz.prog 105 [.w k, sv s, .i n] (.w (derM k s n)) := by
  refine fpure_x hmix Tryz.func105 rfl (by kernel_rfl) Tryz.ntmps105 Tryz.results105 (by simp) (by simp [idsL, idsA]) [0, 1, 2, 6, 7] ?_; intro c hP h0 hE
  simp only [go_sem, ↓reduceIte, hP, conv_u64i]
  simp only [cb_def, cell0, cb_app]
  refine ⟨⟨by omega, by omega⟩, ?_⟩
  first | refine xw_callF hE (ks := [0, 1, 2, 6, 7]) (n := 2000) (by simp only [go_sem, ↓reduceIte]; rfl) (by simp only [go_sem, ↓reduceIte]) rfl (by rw [hP]; exact words1_c (u64i n)) (by simp only [go_sem, idsA, idsL, and_self]) ?_ | refine xd_callF hE (ks := [0, 1, 2, 6, 7]) (n := 2000) (by simp only [go_sem, ↓reduceIte]; rfl) (by simp only [go_sem, ↓reduceIte]) rfl (by rw [hP]; exact words1_c (u64i n)) (by simp only [go_sem, idsA, idsL, and_self]) ?_
  simp only [go_sem, ↓reduceIte, hP]
  simp only [cb_def, cb_app]
  refine ⟨⟨by omega, by omega⟩, ?_⟩
  first | refine xw_callF hE (ks := [0, 1, 2, 6, 7]) (n := 2000) ?_ ?_ rfl (by rw [hP]; exact mac_c k 4 (s ++ [0] ++ wordsM [u64i n] 1) (s.length + 1 + 8) (by simp [wordsM_len]) (by omega) (by decide) (by decide)) (by simp only [go_sem, idsA, idsL, and_self]) ?_ | refine xd_callF hE (ks := [0, 1, 2, 6, 7]) (n := 2000) ?_ ?_ rfl (by rw [hP]; exact mac_c k 4 (s ++ [0] ++ wordsM [u64i n] 1) (s.length + 1 + 8) (by simp [wordsM_len]) (by omega) (by decide) (by decide)) (by simp only [go_sem, idsA, idsL, and_self]) ?_
  · simp only [go_sem, ↓reduceIte]
    rw [List.take_of_length_le (by simp [wordsM_len])]
  · simp only [go_sem, ↓reduceIte, wordsM_len, Nat.le_refl]
  simp only [go_sem, ↓reduceIte, hP]
  rfl
theorem rderive_c (k : UInt64) (s : List UInt8) (n : Int) (hs : s.length < 1000) : FPure Tryz.prog 48 [.w k, sv s, .i n] (.w (derM k s n)) := by
  refine fpure_x hmix Tryz.func48 rfl (by kernel_rfl) Tryz.ntmps48 Tryz.results48 (by simp) (by simp [idsL, idsA]) [0, 1, 2, 6] ?_; intro c hP h0 hE
  simp only [go_sem, ↓reduceIte, hP, conv_u64i]
  simp only [cb_def, cell0, cb_app]
  refine ⟨⟨by omega, by omega⟩, ?_⟩
  first | refine xw_callF hE (ks := [0, 1, 2, 6]) (n := 2000) (by simp only [go_sem, ↓reduceIte]; rfl) (by simp only [go_sem, ↓reduceIte]) rfl (by rw [hP]; exact rwords1_c (u64i n)) (by simp only [go_sem, idsA, idsL, and_self]) ?_ | refine xd_callF hE (ks := [0, 1, 2, 6]) (n := 2000) (by simp only [go_sem, ↓reduceIte]; rfl) (by simp only [go_sem, ↓reduceIte]) rfl (by rw [hP]; exact rwords1_c (u64i n)) (by simp only [go_sem, idsA, idsL, and_self]) ?_
  simp only [go_sem, ↓reduceIte, hP]
  simp only [cb_def, cb_app]
  refine ⟨⟨by omega, by omega⟩, ?_⟩
  first | refine xw_callF hE (ks := [0, 1, 2, 6]) (n := 2000) ?_ ?_ rfl (by rw [hP]; exact rmac_c k 4 (s ++ [0] ++ wordsM [u64i n] 1) (s.length + 1 + 8) (by simp [wordsM_len]) (by omega) (by decide) (by decide)) (by simp only [go_sem, idsA, idsL, and_self]) ?_ | refine xd_callF hE (ks := [0, 1, 2, 6]) (n := 2000) ?_ ?_ rfl (by rw [hP]; exact rmac_c k 4 (s ++ [0] ++ wordsM [u64i n] 1) (s.length + 1 + 8) (by simp [wordsM_len]) (by omega) (by decide) (by decide)) (by simp only [go_sem, idsA, idsL, and_self]) ?_
  · simp only [go_sem, ↓reduceIte]
    rw [List.take_of_length_le (by simp [wordsM_len])]
  · simp only [go_sem, ↓reduceIte, wordsM_len, Nat.le_refl]
  simp only [go_sem, ↓reduceIte, hP]
  rfl

/-! numbers in bytes -/
/-- the first eight bytes at most, as Word reads them -/
theorem rwordG_c (bs : List UInt8) (n : Nat) (hn : bs.length = n) (hb : n ≤ 8) : FPure Tryz.prog 53 [.p (.data 1 n (bs.map bt))] (.w (wordN bs n)) := by
  refine fpure_x hmix Tryz.func53 rfl (by kernel_rfl) Tryz.ntmps53 Tryz.results53 (by simp) (by simp [idsL, idsA]) [0, 2, 3, 4, 12] ?_; intro c hP h0 hE
  simp only [go_sem, ↓reduceIte, hP]
  refine xw_for hE h0 [0, 2, 3, 4, 12] n (fun i => ⟨24, [(0, .p (.data 1 n (bs.map bt))), (3, .w (wordN bs i)), (4, .i i)], [], 0⟩) [] (fun i => i) ?_ ?_
  · refine ⟨rfl, ?_, trivial, rfl, rfl, trivial, fun i h => h⟩
    simp only [go_sem, ↓reduceIte, wordN]
    try simp
  · intro i hi
    generalize hm : wordN bs i = m
    rcases Nat.lt_or_ge i n with hin | hin
    · simp only [go_sem, ↓reduceIte, hP, conv_u8_u64, w_shl m 8 (by decide), w_add, w_xor, w_or, w_and, hin, show ((i : Int) < 8) from by omega, show ((i : Int) < (n : Int)) from by omega]
      have hw : IntKind.i64.wrap ((i : Int) + 1) = ((i + 1 : Nat) : Int) := by rw [wrap_i64_id (by omega) (by omega)]; omega
      refine ⟨by omega, by omega, subI rfl ?_ trivial rfl rfl (Nat.le_refl _)⟩
      simp only [go_sem, ↓reduceIte, wordN, hm, hw]
    · obtain rfl : i = n := by omega
      have h1 : ¬ ((i : Int) < (i : Int)) := by omega
      subst hm
      rcases Nat.lt_or_ge i 8 with h8 | h8
      · simp only [go_sem, ↓reduceIte, hP, h1, show ((i : Int) < 8) from by omega]
      · simp only [go_sem, ↓reduceIte, hP, h1, show ¬ ((i : Int) < 8) from by omega]

/-! the plain device -/
structure FacM where
  mo : UInt64
  se : UInt64
  ps : Int
  fi : Bool
  ase : UInt64
  ah : Int
  af : Int
  ato : Int
  ce : List (List UInt8)
structure ItM where
  act : Bool
  sin : Int
  hsh : UInt64
  flg : Int
  ids : List (List UInt8)
structure DevM where
  fac : FacM
  v : Vt
  on : Bool
  now : Int
  boo : Int
  dr : Int
  wr : Int
  tok : Tok
  nx : ItM
def byS (l : List (List UInt8)) : SlP := .d 1 l.length (l.map byP)
def facP (f : FacM) : Fac := ⟨f.mo, f.se, f.ps, f.fi, f.ase, f.ah, f.af, f.ato, .d 1 f.ce.length (f.ce.map byP)⟩
def vtP (v : Vt) : Vtp := ⟨v.j.ps, .d 1 v.j.bs.length (v.j.bs.map bt), v.j.page, v.j.gen, v.j.tail, v.j.torn, .d 2 v.prs.length (prCs v.prs)⟩
def itP (x : ItM) : Itn := ⟨x.act, x.sin, x.hsh, x.flg, .d 1 x.ids.length (x.ids.map byP)⟩
def devP (d : DevM) : Dvp := ⟨facP d.fac, vtP d.v, d.on, d.now, d.boo, d.dr, d.wr, d.tok, itP d.nx⟩
section
variable (d : DevM) (f : FacM) (v : Vt) (x : ItM)
theorem dp_fac : (devP d).fac = facP d.fac := rfl
theorem dp_v : (devP d).v = vtP d.v := rfl
theorem dp_on : (devP d).on = d.on := rfl
theorem dp_now : (devP d).now = d.now := rfl
theorem dp_boo : (devP d).boo = d.boo := rfl
theorem dp_dr : (devP d).dr = d.dr := rfl
theorem dp_wr : (devP d).wr = d.wr := rfl
theorem dp_tok : (devP d).tok = d.tok := rfl
theorem dp_nx : (devP d).nx = itP d.nx := rfl
theorem fp_mo : (facP f).mo = f.mo := rfl
theorem fp_se : (facP f).se = f.se := rfl
theorem fp_ps : (facP f).ps = f.ps := rfl
theorem fp_fi : (facP f).fi = f.fi := rfl
theorem fp_ase : (facP f).ase = f.ase := rfl
theorem fp_ah : (facP f).ah = f.ah := rfl
theorem fp_af : (facP f).af = f.af := rfl
theorem fp_ato : (facP f).ato = f.ato := rfl
theorem fp_ce : (facP f).ce.pv = .data 1 f.ce.length (f.ce.map byP) := rfl
theorem vp_ps : (vtP v).ps = v.j.ps := rfl
theorem vp_bs : (vtP v).bs.pv = .data 1 v.j.bs.length (v.j.bs.map bt) := rfl
theorem vp_pg : (vtP v).pg = v.j.page := rfl
theorem vp_gn : (vtP v).gn = v.j.gen := rfl
theorem vp_tl : (vtP v).tl = v.j.tail := rfl
theorem vp_tn : (vtP v).tn = v.j.torn := rfl
theorem vp_pr : (vtP v).pr.pv = .data 2 v.prs.length (prCs v.prs) := rfl
theorem ip_act : (itP x).act = x.act := rfl
theorem ip_sin : (itP x).sin = x.sin := rfl
theorem ip_hsh : (itP x).hsh = x.hsh := rfl
theorem ip_flg : (itP x).flg = x.flg := rfl
theorem ip_ids : (itP x).ids.pv = .data 1 x.ids.length (x.ids.map byP) := rfl
end
attribute [go_sem] dp_fac dp_v dp_on dp_now dp_boo dp_dr dp_wr dp_tok dp_nx fp_mo fp_se fp_ps fp_fi fp_ase fp_ah fp_af fp_ato fp_ce vp_ps vp_bs vp_pg vp_gn vp_tl vp_tn vp_pr ip_act ip_sin ip_hsh ip_flg ip_ids
abbrev devA (d : DevM) : AV := .agg (dvC (devP d))
def fac0 : FacM := ⟨0, 0, 0, false, 0, 0, 0, 0, []⟩
def it0 : ItM := ⟨false, 0, 0, 0, []⟩
def tok0 : Tok := ⟨0, false, 0, 0, [], 0⟩
def dev0 : DevM := ⟨fac0, vt0, false, 0, 0, 0, 0, tok0, it0⟩
/-- a device that is off -/
def offM (f : FacM) (now : Int) (m : Fl) : DevM := ⟨f, ⟨⟨m.ps, m.bs, 0, 0, 0, false⟩, []⟩, false, now, 0, 0, 0, tok0, it0⟩

end Go.Proofs.YtebndjnkmcahaaaGreatDoor
end
/-
  Words as bytes that the caller owns. Own work; no statement of the seat is proved here.
-/
section
namespace Go.Proofs.YtebndjnkmcahaaaGreatDoor
set_option linter.unusedSimpArgs false
set_option linter.unusedVariables false
open Go Go.Abs Go.RowKit

set_option maxHeartbeats 1000000 in
theorem rwords_k (ws : List UInt64) (n : Nat) (hn : ws.length = n) (h1 : 1 ≤ n) (hb : n < 1000000) : Con Tryz.prog 51 [.p (.data 1 n (ws.map wd))] [] (.sl 0 0 (8 * n) 1) [(0, some ⟨byteT, cb (wordsM ws n)⟩)] := by
  refine con_x 0 hmix Tryz.func51 rfl (by kernel_rfl) Tryz.ntmps51 Tryz.results51 (by simp) rfl (by simp [idsL, idsA]) trivial (fun i hi => by cases hi) [0, 2, 3, 4, 5, 9, 13] ?_; intro c hP h0' hE; have h0 : ∀ i, c.ρ0 i ≠ none → False := fun i hi => by cases h0' i hi
  simp only [go_sem, ↓reduceIte, hP]
  refine saw_new byteT ?_
  refine xw_for hE h0 [0, 2, 3, 4, 5, 9, 13] n (fun i => ⟨29, [(0, .p (.data 1 n (ws.map wd))), (3, .sl 0 0 (8 * i) 1), (4, .i i)], [(0, some ⟨byteT, cb (wordsM ws i)⟩)], 1⟩) [] (fun i => i) ?_ ?_
  · refine ⟨rfl, ?_, ?_, rfl, rfl, trivial, fun i h => h⟩
    · simp only [go_sem, ↓reduceIte]
      try simp
    · simp only [go_sem, ↓reduceIte, wordsM, cb_nil]
  · intro i hi
    simp only [go_sem, ↓reduceIte, hP]
    split
    · refine xw_for hE h0 [0, 2, 3, 4, 5, 9, 13] 8 (fun j => ⟨29, [(0, .p (.data 1 n (ws.map wd))), (3, .sl 0 0 (8 * i + j) 1), (4, .i i), (5, .i (7 - (j : Int)))], [(0, some ⟨byteT, cb (wordsM ws i ++ wordB (ws.getD i 0) j)⟩)], 1⟩) [] (fun i => i) ?_ ?_
      · refine ⟨rfl, ?_, ?_, rfl, rfl, trivial, fun i h => h⟩
        · simp only [go_sem, ↓reduceIte]
          try simp
        · simp only [go_sem, ↓reduceIte, wordB, List.append_nil]
          exact cb_viewA _ _ _ _
      · intro j hj
        have e8 : j < 8 → IntKind.u64.wrap (8 * (7 - (j : Int))) = ((56 - 8 * j : Nat) : Int) := fun _ => by rw [wrap_u64_id (by omega) (by omega)]; omega
        have e9 : j < 8 → IntKind.i64.wrap (8 * (7 - (j : Int))) = 8 * (7 - (j : Int)) := fun _ => by rw [wrap_i64_id (by omega) (by omega)]
        by_cases hj8 : j < 8
        · simp only [go_sem, ↓reduceIte, hP, e9 hj8, e8 hj8, w_shr (ws.getD i 0) ((56 - 8 * j : Nat) : Int) (by omega), conv_u64_u8, cb_snoc]
          split
          · (try go_unwrap)
            refine ⟨⟨by omega, by omega⟩, by omega, by omega, ⟨by simp only [wordsM_len, wordB_len], by omega, by omega⟩, hj8, subG [2] rfl ?_ ?_ rfl rfl (Nat.le_refl _)⟩
            · simp only [go_sem, ↓reduceIte, Nat.add_assoc]
              omega
            · simp only [go_sem, ↓reduceIte, wordB, List.append_assoc]
              exact cb_viewA _ _ _ _
          · omega
        · obtain rfl : j = 8 := by omega
          simp only [go_sem, ↓reduceIte, hP]
          split
          · omega
          · (try go_unwrap)
            refine ⟨by omega, subI rfl ?_ ?_ rfl rfl (Nat.le_refl _)⟩
            · simp only [go_sem, ↓reduceIte, Nat.mul_add, Nat.mul_one]
              omega
            · simp only [go_sem, ↓reduceIte, wordsM]
              exact cb_viewA _ _ _ _
    · obtain rfl : i = n := by omega
      refine endC_of [0] rfl ?_ ?_ rfl rfl (fun i hi => ?_)
      · simp only [go_sem, ↓reduceIte]
      · simp only [go_sem, ↓reduceIte]
        exact cb_viewA _ _ _ _
      · simp [liveK] at hi; simp; omega

set_option maxHeartbeats 1000000 in
theorem words_k (ws : List UInt64) (n : Nat) (hn : ws.length = n) (h1 : 1 ≤ n) (hb : n < 1000000) : Con Tryz.prog 90 [.p (.data 1 n (ws.map wd))] [] (.sl 0 0 (8 * n) 1) [(0, some ⟨byteT, cb (wordsM ws n)⟩)] := by
  refine con_x 0 hmix Tryz.func90 rfl (by kernel_rfl) Tryz.ntmps90 Tryz.results90 (by simp) rfl (by simp [idsL, idsA]) trivial (fun i hi => by cases hi) [0, 2, 3, 5, 6, 11, 12, 13, 14, 17, 18] ?_; intro c hP h0' hE; have h0 : ∀ i, c.ρ0 i ≠ none → False := fun i hi => by cases h0' i hi
  have e8 : IntKind.i64.wrap (8 * (n : Int)) = ((8 * n : Nat) : Int) := by rw [wrap_i64_id (by omega) (by omega)]; omega
  simp only [go_sem, ↓reduceIte, hP, e8]
  refine ⟨⟨by omega, by omega, by omega⟩, ?_⟩
  refine xw_for hE h0 [0, 2, 3, 5, 6, 11, 12, 13, 14, 17, 18] n (fun i => ⟨32, [(3, .sl 0 0 (8 * i) 1), (11, .p (.data 1 n (ws.map wd))), (12, .i n), (13, .i i)], [(0, some ⟨byteT, cb (wordsM ws i)⟩)], 1⟩) [] (fun i => i) ?_ ?_
  · refine ⟨rfl, ?_, ?_, rfl, rfl, trivial, fun i h => h⟩
    · simp only [go_sem, ↓reduceIte]
      try simp
    · simp only [go_sem, ↓reduceIte, wordsM, cb_nil]
  · intro i hi
    by_cases hlt : i < n
    · have hc : ((i : Int) < (n : Int)) := by omega
      have hi1 : IntKind.i64.wrap ((i : Int) + 1) = ((i + 1 : Nat) : Int) := by rw [wrap_i64_id (by omega) (by omega)]; omega
      simp only [go_sem, ↓reduceIte, hP, hc, head_wd ws i]
      refine ⟨by omega, by omega, ?_⟩
      generalize hw : ws.getD i 0 = w
      refine xw_for hE h0 [0, 2, 3, 5, 6, 11, 12, 13, 14, 17, 18] 8 (fun j => ⟨32, [(3, .sl 0 0 (8 * i + j) 1), (5, .w w), (11, .p (.data 1 n (ws.map wd))), (12, .i n), (13, .i i), (17, .i j)], [(0, some ⟨byteT, cb (wordsM ws i ++ wordB w j)⟩)], 1⟩) [] (fun i => i) ?_ ?_
      · refine ⟨rfl, ?_, ?_, rfl, rfl, trivial, fun i h => h⟩
        · simp only [go_sem, ↓reduceIte]
          try simp
        · simp only [go_sem, ↓reduceIte, wordB, List.append_nil]
          exact cb_viewA _ _ _ _
      · intro j hj
        by_cases hjl : j < 8
        · have hc8 : ((j : Int) < 8) := by omega
          have hw8 : IntKind.i64.wrap (8 * (j : Int)) = ((8 * j : Nat) : Int) := by rw [wrap_i64_id (by omega) (by omega)]; omega
          have hs : IntKind.i64.wrap (56 - ((8 * j : Nat) : Int)) = ((56 - 8 * j : Nat) : Int) := by rw [wrap_i64_id (by omega) (by omega)]; omega
          have hj1 : IntKind.i64.wrap ((j : Int) + 1) = ((j + 1 : Nat) : Int) := by rw [wrap_i64_id (by omega) (by omega)]; omega
          simp only [go_sem, ↓reduceIte, hP, hc8, hw8, hs, hj1, w_shr w ((56 - 8 * j : Nat) : Int) (by omega), conv_u64_u8, cb_snoc]
          refine ⟨by omega, ⟨by simp only [wordsM_len, wordB_len], by omega, by omega⟩, hjl, subG [2] rfl ?_ ?_ rfl rfl (Nat.le_refl _)⟩
          · simp only [go_sem, ↓reduceIte, Nat.add_assoc]
          · simp only [go_sem, ↓reduceIte, wordB, List.append_assoc]
            exact cb_viewA _ _ _ _
        · obtain rfl : j = 8 := by omega
          have hc8 : ¬ (((8 : Nat) : Int) < 8) := by omega
          simp only [go_sem, ↓reduceIte, hP, hc8, hi1]
          refine ⟨hlt, subG [0] rfl ?_ ?_ rfl rfl (Nat.le_refl _)⟩
          · simp only [go_sem, ↓reduceIte, Nat.mul_add]
          · simp only [go_sem, ↓reduceIte, wordsM, hw]
            exact cb_viewA _ _ _ _
    · obtain rfl : i = n := by omega
      have hc : ¬ ((i : Int) < (i : Int)) := by omega
      simp only [go_sem, ↓reduceIte, hP, hc]
      refine endC_of [0] rfl ?_ ?_ rfl rfl (fun i hi => ?_)
      · simp only [go_sem, ↓reduceIte]
      · simp only [go_sem, ↓reduceIte]
        exact cb_viewA _ _ _ _
      · simp [liveK] at hi; simp; omega

end Go.Proofs.YtebndjnkmcahaaaGreatDoor
end
end
/-
  Contracts of leases: both sides. Own work; no statement of the seat is proved here.
-/
section
namespace Go.Proofs.YtebndjnkmcahaaaGreatDoor
set_option linter.unusedSimpArgs false
set_option linter.unusedVariables false
open Go Go.Abs Go.RowKit

structure Ls where
  tag : UInt64
  fr : Int
  to : Int
  nx : Int
deriving DecidableEq
def lsC (x : Ls) : List AV := [.w x.tag, .i x.fr, .i x.to, .i x.nx]
attribute [go_sem] lsC
def lsP (x : Ls) : List PV := [wd x.tag, .v (.int .i64 x.fr), .v (.int .i64 x.to), .v (.int .i64 x.nx)]
def ls0 : Ls := ⟨0, 0, 0, 0⟩
def lvalM (x : Ls) : Bool := decide (0 ≤ x.fr ∧ x.fr ≤ x.nx ∧ x.nx ≤ x.to ∧ x.to ≤ 16)
theorem lvalid_c (x : Ls) : FPure Tryz.prog 89 [.agg [.w x.tag, .i x.fr, .i x.to, .i x.nx]] (.b (lvalM x)) := by
  refine fpure_x hmix Tryz.func89 rfl (by kernel_rfl) Tryz.ntmps89 Tryz.results89 (by simp) (by simp [idsL, idsA]) [0, 1, 2] ?_; intro c hP h0 hE
  unfold lvalM at *
  by_cases h1 : 0 ≤ x.fr
  · by_cases h2 : x.fr ≤ x.nx
    · by_cases h3 : x.nx ≤ x.to
      · by_cases h4 : x.to ≤ 16
        · simp only [go_sem, ↓reduceIte, hP, h1, h2, h3, h4, decide_true]
        · simp only [go_sem, ↓reduceIte, hP, h1, h2, h3, h4, decide_true, decide_false]
      · simp only [go_sem, ↓reduceIte, hP, h1, h2, h3, decide_true, decide_false]
    · simp only [go_sem, ↓reduceIte, hP, h1, h2, decide_true, decide_false]
  · simp only [go_sem, ↓reduceIte, hP, h1, decide_true, decide_false]
theorem rlvalid_c (x : Ls) : FPure Tryz.prog 62 [.agg [.w x.tag, .i x.fr, .i x.to, .i x.nx]] (.b (lvalM x)) := by
  refine fpure_x hmix Tryz.func62 rfl (by kernel_rfl) Tryz.ntmps62 Tryz.results62 (by simp) (by simp [idsL, idsA]) [0, 1, 2] ?_; intro c hP h0 hE
  unfold lvalM at *
  by_cases h1 : 0 ≤ x.fr
  · by_cases h2 : x.fr ≤ x.nx
    · by_cases h3 : x.nx ≤ x.to
      · by_cases h4 : x.to ≤ 16
        · simp only [go_sem, ↓reduceIte, hP, h1, h2, h3, h4, decide_true]
        · simp only [go_sem, ↓reduceIte, hP, h1, h2, h3, h4, decide_true, decide_false]
      · simp only [go_sem, ↓reduceIte, hP, h1, h2, h3, decide_true, decide_false]
    · simp only [go_sem, ↓reduceIte, hP, h1, h2, decide_true, decide_false]
  · simp only [go_sem, ↓reduceIte, hP, h1, decide_true, decide_false]

def lencM (x : Ls) : List UInt8 := if lvalM x then wordB x.tag 8 ++ [u8i x.fr, u8i x.to, u8i x.nx] else []
theorem cb3 (a b d : Int) : [AV.p (.v (.int .u8 (IntKind.u8.wrap a))), AV.p (.v (.int .u8 (IntKind.u8.wrap b))), AV.p (.v (.int .u8 (IntKind.u8.wrap d)))] = cb [u8i a, u8i b, u8i d] := by
  simp only [cb, bt, u8i, u8w, List.map_cons, List.map_nil]
theorem lenc_c (x : Ls) : FPure Tryz.prog 35 [.agg [.w x.tag, .i x.fr, .i x.to, .i x.nx]] (.p (.data 1 (lencM x).length ((lencM x).map bt))) := by
  refine fpure_x hmix Tryz.func35 rfl (by kernel_rfl) Tryz.ntmps35 Tryz.results35 (by simp) (by simp [idsL, idsA]) [0, 1, 2, 5] ?_; intro c hP h0 hE
  obtain ⟨R, hR⟩ : ∃ R, lencM x = R := ⟨_, rfl⟩; rw [hR] at hE; (try rw [hR])
  unfold lencM at hR
  simp only [go_sem, ↓reduceIte, hP]
  first | refine xw_call hE (ks := [0, 1, 2, 5]) (n := 2000) (by rw [hP]; exact lvalid_c x) ?_ | refine xd_call hE (ks := [0, 1, 2, 5]) (n := 2000) (by rw [hP]; exact lvalid_c x) ?_
  simp only [go_sem, ↓reduceIte, hP]
  cases hv : lvalM x with
  | false =>
    rw [hv] at hR
    subst hR
    simp only [go_sem, ↓reduceIte, hP]
  | true =>
    rw [hv] at hR
    subst hR
    simp only [go_sem, ↓reduceIte, hP]
    first | refine xw_callFN hE (ks := [0, 1, 2, 5]) (n := 2000) 1 (by simp only [go_sem, ↓reduceIte]; rfl) (by simp only [go_sem, ↓reduceIte]) rfl (by rw [hP]; exact words_k [x.tag] 1 rfl (by decide) (by decide)) rfl rfl (by simp [idsA, idsL, keys]) (by simp only [idsH, idsL, idsL_map, idsL_cb, idsL_byL, and_self]) ?_ | refine xd_callFN hE (ks := [0, 1, 2, 5]) (n := 2000) 1 (by simp only [go_sem, ↓reduceIte]; rfl) (by simp only [go_sem, ↓reduceIte]) rfl (by rw [hP]; exact words_k [x.tag] 1 rfl (by decide) (by decide)) rfl rfl (by simp [idsA, idsL, keys]) (by simp only [idsH, idsL, idsL_map, idsL_cb, idsL_byL, and_self]) rfl ?_
    simp only [go_sem, ↓reduceIte, hP]
    rw [cb3, words1, cb_app, List.take_of_length_le (by simp [wordB_len])]
    refine ⟨wordB_len _ _, by kernel_rfl, ⟨by simp [wordB_len], allQ_cb _⟩, by simp [wordB_len], unQs_cb _⟩
theorem rlenc_c (x : Ls) : FPure Tryz.prog 67 [.agg [.w x.tag, .i x.fr, .i x.to, .i x.nx]] (.p (.data 1 (lencM x).length ((lencM x).map bt))) := by
  refine fpure_x hmix Tryz.func67 rfl (by kernel_rfl) Tryz.ntmps67 Tryz.results67 (by simp) (by simp [idsL, idsA]) [0, 1, 2, 5] ?_; intro c hP h0 hE
  obtain ⟨R, hR⟩ : ∃ R, lencM x = R := ⟨_, rfl⟩; rw [hR] at hE; (try rw [hR])
  unfold lencM at hR
  simp only [go_sem, ↓reduceIte, hP]
  first | refine xw_call hE (ks := [0, 1, 2, 5]) (n := 2000) (by rw [hP]; exact rlvalid_c x) ?_ | refine xd_call hE (ks := [0, 1, 2, 5]) (n := 2000) (by rw [hP]; exact rlvalid_c x) ?_
  simp only [go_sem, ↓reduceIte, hP]
  cases hv : lvalM x with
  | false =>
    rw [hv] at hR
    subst hR
    simp only [go_sem, ↓reduceIte, hP]
  | true =>
    rw [hv] at hR
    subst hR
    simp only [go_sem, ↓reduceIte, hP]
    first | refine xw_callFN hE (ks := [0, 1, 2, 5]) (n := 2000) 1 (by simp only [go_sem, ↓reduceIte]; rfl) (by simp only [go_sem, ↓reduceIte]) rfl (by rw [hP]; exact rwords_k [x.tag] 1 rfl (by decide) (by decide)) rfl rfl (by simp [idsA, idsL, keys]) (by simp only [idsH, idsL, idsL_map, idsL_cb, idsL_byL, and_self]) ?_ | refine xd_callFN hE (ks := [0, 1, 2, 5]) (n := 2000) 1 (by simp only [go_sem, ↓reduceIte]; rfl) (by simp only [go_sem, ↓reduceIte]) rfl (by rw [hP]; exact rwords_k [x.tag] 1 rfl (by decide) (by decide)) rfl rfl (by simp [idsA, idsL, keys]) (by simp only [idsH, idsL, idsL_map, idsL_cb, idsL_byL, and_self]) rfl ?_
    simp only [go_sem, ↓reduceIte, hP]
    rw [cb3, words1, cb_app, List.take_of_length_le (by simp [wordB_len])]
    refine ⟨wordB_len _ _, by kernel_rfl, ⟨by simp [wordB_len], allQ_cb _⟩, by simp [wordB_len], unQs_cb _⟩

/-! reading a lease -/
structure LR where
  x : Ls
  e : Int
def lsOf (b : List UInt8) : Ls := ⟨wordN b 8, ((b.getD 8 0).toNat : Int), ((b.getD 9 0).toNat : Int), ((b.getD 10 0).toNat : Int)⟩
def ldecM (b : List UInt8) : LR := if b.length = 11 ∧ lvalM (lsOf b) = true then ⟨lsOf b, 0⟩ else ⟨ls0, 2⟩
def lrAV (r : LR) : AV := .tup [.agg [.w r.x.tag, .i r.x.fr, .i r.x.to, .i r.x.nx], .i r.e]
attribute [go_sem] lrAV
theorem conv_u8_i64 (x : UInt8) : IntKind.i64.wrap (x.toNat : Int) = (x.toNat : Int) := by
  have := x.toNat_lt
  rw [wrap_i64_id (by omega) (by omega)]
set_option maxHeartbeats 1000000 in
theorem ldec_c (b : List UInt8) (n : Nat) (hn : b.length = n) (hb : n < 1000000000) : FPure Tryz.prog 86 [.p (.data 1 n (b.map bt))] (lrAV (ldecM b)) := by
  refine fpure_x hmix Tryz.func86 rfl (by kernel_rfl) Tryz.ntmps86 Tryz.results86 (by simp) (by simp [idsL, idsA]) [0, 2, 3, 4, 6, 9, 25, 26, 27, 28, 41] ?_; intro c hP h0 hE
  obtain ⟨R, hR⟩ : ∃ R, ldecM b = R := ⟨_, rfl⟩; rw [hR] at hE; (try rw [hR])
  unfold ldecM at hR
  rw [hn] at hR
  by_cases h11 : n = 11
  · subst h11
    simp only [go_sem, ↓reduceIte, hP, conv_u8_i64]
    refine ⟨by omega, by omega, by omega, by kernel_rfl, ?_⟩
    have hx : lsOf b = ⟨wordN (b.take 8) 8, ((b.getD 8 0).toNat : Int), ((b.getD 9 0).toNat : Int), ((b.getD 10 0).toNat : Int)⟩ := by rw [wordN_take _ _ _ (Nat.le_refl _)]; rfl
    have hlen : (b.take 8).length = 8 := by simp [hn]
    refine xw_for hE h0 [0, 2, 3, 4, 6, 9, 25, 26, 27, 28, 41] 8 (fun i => ⟨44, [(2, .ptr 0 0), (4, .ptr 1 0), (25, .p (.data 1 8 ((b.take 8).map bt))), (26, .i 8), (27, .i i)], [(1, some ⟨86, [.w (wordN (b.take 8) i), .i (b.getD 8 0).toNat, .i (b.getD 9 0).toNat, .i (b.getD 10 0).toNat]⟩), (0, some ⟨86, [.w 0, .i 0, .i 0, .i 0]⟩)], 2⟩) [] (fun i => i) ?_ ?_
    · refine ⟨rfl, ?_, ?_, rfl, rfl, trivial, fun i h => h⟩
      · simp only [go_sem, ↓reduceIte]
      · simp only [go_sem, ↓reduceIte, wordN]
        rfl
    · intro i hi
      generalize hm : wordN (b.take 8) i = m
      rcases Nat.lt_or_ge i 8 with hin | hin
      · have hw : IntKind.i64.wrap ((i : Int) + 1) = ((i + 1 : Nat) : Int) := by rw [wrap_i64_id (by omega) (by omega)]; omega
        simp only [go_sem, ↓reduceIte, hP, conv_u8_u64, w_shl m 8 (by decide), w_add, w_xor, w_or, w_and, show ((i : Int) < 8) from by omega]
        refine ⟨by omega, by omega, hin, subI rfl ?_ ?_ rfl rfl (Nat.le_refl _)⟩
        · simp only [go_sem, ↓reduceIte, hw]
        · simp only [go_sem, ↓reduceIte, wordN, hm]
      · obtain rfl : i = 8 := by omega
        subst hm
        rw [hx] at hR
        generalize wordN (b.take 8) 8 = m at *
        simp only [go_sem, ↓reduceIte, hP, show ¬ ((8 : Int) < 8) from by omega]
        first | refine xw_call hE (ks := [0, 2, 3, 4, 6, 9, 25, 26, 27, 28, 41]) (n := 2000) (by rw [hP]; exact lvalid_c ⟨m, ((b.getD 8 0).toNat : Int), ((b.getD 9 0).toNat : Int), ((b.getD 10 0).toNat : Int)⟩) ?_ | refine xd_call hE (ks := [0, 2, 3, 4, 6, 9, 25, 26, 27, 28, 41]) (n := 2000) (by rw [hP]; exact lvalid_c ⟨m, ((b.getD 8 0).toNat : Int), ((b.getD 9 0).toNat : Int), ((b.getD 10 0).toNat : Int)⟩) ?_
        cases hv : lvalM ⟨m, ((b.getD 8 0).toNat : Int), ((b.getD 9 0).toNat : Int), ((b.getD 10 0).toNat : Int)⟩ with
        | false =>
          rw [hv, if_neg (by simp)] at hR
          subst hR
          simp only [go_sem, ↓reduceIte, hP]
          exact ⟨rfl, rfl, rfl, rfl⟩
        | true =>
          rw [hv, if_pos ⟨rfl, rfl⟩] at hR
          subst hR
          simp only [go_sem, ↓reduceIte, hP]
  · rw [if_neg (fun h => h11 h.1)] at hR
    subst hR
    simp only [go_sem, ↓reduceIte, hP, show ¬ ((n : Int) = 11) from by omega]
    exact ⟨rfl, rfl, rfl, rfl⟩
theorem rldec_c (b : List UInt8) (n : Nat) (hn : b.length = n) (hb : n < 1000000000) : FPure Tryz.prog 128 [.p (.data 1 n (b.map bt))] (lrAV (ldecM b)) := by
  refine fpure_x hmix Tryz.func128 rfl (by kernel_rfl) Tryz.ntmps128 Tryz.results128 (by simp) (by simp [idsL, idsA]) [0, 2, 3, 4, 7, 27] ?_; intro c hP h0 hE
  obtain ⟨R, hR⟩ : ∃ R, ldecM b = R := ⟨_, rfl⟩; rw [hR] at hE; (try rw [hR])
  unfold ldecM at hR
  rw [hn] at hR
  by_cases h11 : n = 11
  · subst h11
    have hx : lsOf b = ⟨wordN (b.take 8) 8, ((b.getD 8 0).toNat : Int), ((b.getD 9 0).toNat : Int), ((b.getD 10 0).toNat : Int)⟩ := by rw [wordN_take _ _ _ (Nat.le_refl _)]; rfl
    simp only [go_sem, ↓reduceIte, hP]
    first | refine xw_call hE (ks := [0, 2, 3, 4, 7, 27]) (n := 2000) (by rw [hP]; exact rword_c (b.take 8) 8 (by simp [hn]) (by decide) (by decide)) ?_ | refine xd_call hE (ks := [0, 2, 3, 4, 7, 27]) (n := 2000) (by rw [hP]; exact rword_c (b.take 8) 8 (by simp [hn]) (by decide) (by decide)) ?_
    simp only [go_sem, ↓reduceIte, hP, conv_u8_i64]
    rw [hx] at hR
    generalize wordN (b.take 8) 8 = m at *
    refine ⟨by omega, by omega, by omega, by kernel_rfl, ?_⟩
    first | refine xw_call hE (ks := [0, 2, 3, 4, 7, 27]) (n := 2000) (by rw [hP]; exact rlvalid_c ⟨m, ((b.getD 8 0).toNat : Int), ((b.getD 9 0).toNat : Int), ((b.getD 10 0).toNat : Int)⟩) ?_ | refine xd_call hE (ks := [0, 2, 3, 4, 7, 27]) (n := 2000) (by rw [hP]; exact rlvalid_c ⟨m, ((b.getD 8 0).toNat : Int), ((b.getD 9 0).toNat : Int), ((b.getD 10 0).toNat : Int)⟩) ?_
    cases hv : lvalM ⟨m, ((b.getD 8 0).toNat : Int), ((b.getD 9 0).toNat : Int), ((b.getD 10 0).toNat : Int)⟩ with
    | false =>
      rw [hv, if_neg (by simp)] at hR
      subst hR
      simp only [go_sem, ↓reduceIte, hP]
      exact ⟨rfl, rfl, rfl, rfl⟩
    | true =>
      rw [hv, if_pos ⟨rfl, rfl⟩] at hR
      subst hR
      simp only [go_sem, ↓reduceIte, hP]
  · rw [if_neg (fun h => h11 h.1)] at hR
    subst hR
    simp only [go_sem, ↓reduceIte, hP, show ¬ ((n : Int) = 11) from by omega]
    exact ⟨rfl, rfl, rfl, rfl⟩

end Go.Proofs.YtebndjnkmcahaaaGreatDoor
end

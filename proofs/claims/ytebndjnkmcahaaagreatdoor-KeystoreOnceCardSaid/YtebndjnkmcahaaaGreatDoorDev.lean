/-
  Devices as opaque records of cells. Written by gen_rec.py. Own work; no statement of the seat is proved here.
-/
import Derived.Test.YtebndjnkmcahaaaGreatDoorStr
namespace Go.Proofs.YtebndjnkmcahaaaGreatDoor
set_option linter.unusedSimpArgs false
set_option linter.unusedVariables false
open Go Go.Abs Go.RowKit

theorem fzOL_pureM (h : List (Nat × Option Blk)) : ∀ cs : List PV, fzOL h (cs.map .p)
  | [] => trivial
  | c :: cs => ⟨by cases c <;> trivial, fzOL_pureM h cs⟩
theorem fzL_pureM (h : List (Nat × Option Blk)) : ∀ cs : List PV, fzL h (cs.map .p) = cs.map .p
  | [] => rfl
  | c :: cs => by simp only [List.map_cons, fzL, fzL_pureM h cs]; cases c <;> rfl
theorem setAt_appM : ∀ (vs cs pre : List AV), cs.length = vs.length → setAt (pre ++ cs) pre.length vs = pre ++ vs
  | [], [], pre, _ => by simp [setAt]
  | [], c :: cs, pre, h => by simp at h
  | v :: vs, [], pre, h => by simp at h
  | v :: vs, c :: cs, pre, h => by
    rw [setAt]
    have e : (pre ++ c :: cs).set pre.length v = (pre ++ [v]) ++ cs := by simp
    rw [e, show pre.length + 1 = (pre ++ [v]).length by simp, setAt_appM vs cs (pre ++ [v]) (by simpa using h)]
    simp
/-- a slice in a record -/
inductive SlP where
  | nil
  | d (k n : Nat) (cs : List PV)
def SlP.pv : SlP → PV
  | .nil => .v (.slice none 0 0)
  | .d k n cs => .data k n cs
theorem SlP.one (s : SlP) : oneP s.pv = true := by cases s <;> rfl
theorem SlP.oneC (s : SlP) : oneC (.p s.pv) = true := by cases s <;> rfl
theorem oneC_i (n : Int) : oneC (.i n) = true := rfl
theorem oneC_w (n : UInt64) : oneC (.w n) = true := rfl
theorem oneC_b (n : Bool) : oneC (.b n) = true := rfl
theorem oneC_s (n : List UInt8) : oneC (sv n) = true := rfl
attribute [go_sem] SlP.pv.eq_1 SlP.pv.eq_2 SlP.one SlP.oneC

structure Fac where
  mo : UInt64
  se : UInt64
  ps : Int
  fi : Bool
  ase : UInt64
  ah : Int
  af : Int
  ato : Int
  ce : SlP

structure Vtp where
  ps : Int
  bs : SlP
  pg : Int
  gn : Int
  tl : Int
  tn : Bool
  pr : SlP

structure Tok where
  sec : UInt64
  act : Bool
  val : UInt64
  per : Int
  rp : List UInt8
  sin : Int

structure Itn where
  act : Bool
  sin : Int
  hsh : UInt64
  flg : Int
  ids : SlP

structure Dvp where
  fac : Fac
  v : Vtp
  on : Bool
  now : Int
  boo : Int
  dr : Int
  wr : Int
  tok : Tok
  nx : Itn

def dv0 : Dvp := ⟨⟨0, 0, 0, false, 0, 0, 0, 0, SlP.nil⟩, ⟨0, SlP.nil, 0, 0, 0, false, SlP.nil⟩, false, 0, 0, 0, 0, ⟨0, false, 0, 0, [], 0⟩, ⟨false, 0, 0, 0, SlP.nil⟩⟩
/-- the cells of a record of 32 cells; no rule opens it -/
def dvC (x : Dvp) : List AV := [.w x.fac.mo, .w x.fac.se, .i x.fac.ps, .b x.fac.fi, .w x.fac.ase, .i x.fac.ah, .i x.fac.af, .i x.fac.ato, .p x.fac.ce.pv, .i x.v.ps, .p x.v.bs.pv, .i x.v.pg, .i x.v.gn, .i x.v.tl, .b x.v.tn, .p x.v.pr.pv, .b x.on, .i x.now, .i x.boo, .i x.dr, .i x.wr, .w x.tok.sec, .b x.tok.act, .w x.tok.val, .i x.tok.per, sv x.tok.rp, .i x.tok.sin, .b x.nx.act, .i x.nx.sin, .w x.nx.hsh, .i x.nx.flg, .p x.nx.ids.pv]
theorem dv_len (x : Dvp) : (dvC x).length = 32 := rfl
theorem dv_take (x : Dvp) : (dvC x).take 32 = dvC x := rfl
theorem dv_one (x : Dvp) : oneCs (dvC x) = true := by simp only [dvC, oneCs, SlP.oneC, oneC_i, oneC_w, oneC_b, oneC_s, Bool.and_self]
theorem dv_g0 (d : PV) (x : Dvp) : headA d (dvC x) = .w x.fac.mo := rfl
theorem dv_s0 (x : Dvp) (n : UInt64) : (dvC x).set 0 (.w n) = dvC { x with fac := { x.fac with mo := n } } := rfl
theorem dv_z0 (x : Dvp) : (dvC x).set 0 (.p (.v (.int .u64 0))) = dvC { x with fac := { x.fac with mo := 0 } } := rfl
theorem dv_g1 (d : PV) (x : Dvp) : headA d ((dvC x).drop 1) = .w x.fac.se := rfl
theorem dv_s1 (x : Dvp) (n : UInt64) : (dvC x).set 1 (.w n) = dvC { x with fac := { x.fac with se := n } } := rfl
theorem dv_z1 (x : Dvp) : (dvC x).set 1 (.p (.v (.int .u64 0))) = dvC { x with fac := { x.fac with se := 0 } } := rfl
theorem dv_g2 (d : PV) (x : Dvp) : headA d ((dvC x).drop 2) = .i x.fac.ps := rfl
theorem dv_s2 (x : Dvp) (n : Int) : (dvC x).set 2 (.i n) = dvC { x with fac := { x.fac with ps := n } } := rfl
theorem dv_g3 (d : PV) (x : Dvp) : headA d ((dvC x).drop 3) = .b x.fac.fi := rfl
theorem dv_s3 (x : Dvp) (n : Bool) : (dvC x).set 3 (.b n) = dvC { x with fac := { x.fac with fi := n } } := rfl
theorem dv_g4 (d : PV) (x : Dvp) : headA d ((dvC x).drop 4) = .w x.fac.ase := rfl
theorem dv_s4 (x : Dvp) (n : UInt64) : (dvC x).set 4 (.w n) = dvC { x with fac := { x.fac with ase := n } } := rfl
theorem dv_z4 (x : Dvp) : (dvC x).set 4 (.p (.v (.int .u64 0))) = dvC { x with fac := { x.fac with ase := 0 } } := rfl
theorem dv_g5 (d : PV) (x : Dvp) : headA d ((dvC x).drop 5) = .i x.fac.ah := rfl
theorem dv_s5 (x : Dvp) (n : Int) : (dvC x).set 5 (.i n) = dvC { x with fac := { x.fac with ah := n } } := rfl
theorem dv_g6 (d : PV) (x : Dvp) : headA d ((dvC x).drop 6) = .i x.fac.af := rfl
theorem dv_s6 (x : Dvp) (n : Int) : (dvC x).set 6 (.i n) = dvC { x with fac := { x.fac with af := n } } := rfl
theorem dv_g7 (d : PV) (x : Dvp) : headA d ((dvC x).drop 7) = .i x.fac.ato := rfl
theorem dv_s7 (x : Dvp) (n : Int) : (dvC x).set 7 (.i n) = dvC { x with fac := { x.fac with ato := n } } := rfl
theorem dv_g8 (d : PV) (x : Dvp) : headA d ((dvC x).drop 8) = .p x.fac.ce.pv := rfl
theorem dv_s8 (x : Dvp) (k n : Nat) (cs : List PV) : (dvC x).set 8 (.p (.data k n cs)) = dvC { x with fac := { x.fac with ce := .d k n cs } } := rfl
theorem dv_n8 (x : Dvp) : (dvC x).set 8 (.p (.v (.slice none 0 0))) = dvC { x with fac := { x.fac with ce := .nil } } := rfl
theorem dv_q8 (x : Dvp) (s : SlP) : (dvC x).set 8 (.p s.pv) = dvC { x with fac := { x.fac with ce := s } } := rfl
theorem dv_g9 (d : PV) (x : Dvp) : headA d ((dvC x).drop 9) = .i x.v.ps := rfl
theorem dv_s9 (x : Dvp) (n : Int) : (dvC x).set 9 (.i n) = dvC { x with v := { x.v with ps := n } } := rfl
theorem dv_g10 (d : PV) (x : Dvp) : headA d ((dvC x).drop 10) = .p x.v.bs.pv := rfl
theorem dv_s10 (x : Dvp) (k n : Nat) (cs : List PV) : (dvC x).set 10 (.p (.data k n cs)) = dvC { x with v := { x.v with bs := .d k n cs } } := rfl
theorem dv_n10 (x : Dvp) : (dvC x).set 10 (.p (.v (.slice none 0 0))) = dvC { x with v := { x.v with bs := .nil } } := rfl
theorem dv_q10 (x : Dvp) (s : SlP) : (dvC x).set 10 (.p s.pv) = dvC { x with v := { x.v with bs := s } } := rfl
theorem dv_g11 (d : PV) (x : Dvp) : headA d ((dvC x).drop 11) = .i x.v.pg := rfl
theorem dv_s11 (x : Dvp) (n : Int) : (dvC x).set 11 (.i n) = dvC { x with v := { x.v with pg := n } } := rfl
theorem dv_g12 (d : PV) (x : Dvp) : headA d ((dvC x).drop 12) = .i x.v.gn := rfl
theorem dv_s12 (x : Dvp) (n : Int) : (dvC x).set 12 (.i n) = dvC { x with v := { x.v with gn := n } } := rfl
theorem dv_g13 (d : PV) (x : Dvp) : headA d ((dvC x).drop 13) = .i x.v.tl := rfl
theorem dv_s13 (x : Dvp) (n : Int) : (dvC x).set 13 (.i n) = dvC { x with v := { x.v with tl := n } } := rfl
theorem dv_g14 (d : PV) (x : Dvp) : headA d ((dvC x).drop 14) = .b x.v.tn := rfl
theorem dv_s14 (x : Dvp) (n : Bool) : (dvC x).set 14 (.b n) = dvC { x with v := { x.v with tn := n } } := rfl
theorem dv_g15 (d : PV) (x : Dvp) : headA d ((dvC x).drop 15) = .p x.v.pr.pv := rfl
theorem dv_s15 (x : Dvp) (k n : Nat) (cs : List PV) : (dvC x).set 15 (.p (.data k n cs)) = dvC { x with v := { x.v with pr := .d k n cs } } := rfl
theorem dv_n15 (x : Dvp) : (dvC x).set 15 (.p (.v (.slice none 0 0))) = dvC { x with v := { x.v with pr := .nil } } := rfl
theorem dv_q15 (x : Dvp) (s : SlP) : (dvC x).set 15 (.p s.pv) = dvC { x with v := { x.v with pr := s } } := rfl
theorem dv_g16 (d : PV) (x : Dvp) : headA d ((dvC x).drop 16) = .b x.on := rfl
theorem dv_s16 (x : Dvp) (n : Bool) : (dvC x).set 16 (.b n) = dvC { x with on := n } := rfl
theorem dv_g17 (d : PV) (x : Dvp) : headA d ((dvC x).drop 17) = .i x.now := rfl
theorem dv_s17 (x : Dvp) (n : Int) : (dvC x).set 17 (.i n) = dvC { x with now := n } := rfl
theorem dv_g18 (d : PV) (x : Dvp) : headA d ((dvC x).drop 18) = .i x.boo := rfl
theorem dv_s18 (x : Dvp) (n : Int) : (dvC x).set 18 (.i n) = dvC { x with boo := n } := rfl
theorem dv_g19 (d : PV) (x : Dvp) : headA d ((dvC x).drop 19) = .i x.dr := rfl
theorem dv_s19 (x : Dvp) (n : Int) : (dvC x).set 19 (.i n) = dvC { x with dr := n } := rfl
theorem dv_g20 (d : PV) (x : Dvp) : headA d ((dvC x).drop 20) = .i x.wr := rfl
theorem dv_s20 (x : Dvp) (n : Int) : (dvC x).set 20 (.i n) = dvC { x with wr := n } := rfl
theorem dv_g21 (d : PV) (x : Dvp) : headA d ((dvC x).drop 21) = .w x.tok.sec := rfl
theorem dv_s21 (x : Dvp) (n : UInt64) : (dvC x).set 21 (.w n) = dvC { x with tok := { x.tok with sec := n } } := rfl
theorem dv_z21 (x : Dvp) : (dvC x).set 21 (.p (.v (.int .u64 0))) = dvC { x with tok := { x.tok with sec := 0 } } := rfl
theorem dv_g22 (d : PV) (x : Dvp) : headA d ((dvC x).drop 22) = .b x.tok.act := rfl
theorem dv_s22 (x : Dvp) (n : Bool) : (dvC x).set 22 (.b n) = dvC { x with tok := { x.tok with act := n } } := rfl
theorem dv_g23 (d : PV) (x : Dvp) : headA d ((dvC x).drop 23) = .w x.tok.val := rfl
theorem dv_s23 (x : Dvp) (n : UInt64) : (dvC x).set 23 (.w n) = dvC { x with tok := { x.tok with val := n } } := rfl
theorem dv_z23 (x : Dvp) : (dvC x).set 23 (.p (.v (.int .u64 0))) = dvC { x with tok := { x.tok with val := 0 } } := rfl
theorem dv_g24 (d : PV) (x : Dvp) : headA d ((dvC x).drop 24) = .i x.tok.per := rfl
theorem dv_s24 (x : Dvp) (n : Int) : (dvC x).set 24 (.i n) = dvC { x with tok := { x.tok with per := n } } := rfl
theorem dv_g25 (d : PV) (x : Dvp) : headA d ((dvC x).drop 25) = sv x.tok.rp := rfl
theorem dv_s25 (x : Dvp) (n : List UInt8) : (dvC x).set 25 (sv n) = dvC { x with tok := { x.tok with rp := n } } := rfl
theorem dv_g26 (d : PV) (x : Dvp) : headA d ((dvC x).drop 26) = .i x.tok.sin := rfl
theorem dv_s26 (x : Dvp) (n : Int) : (dvC x).set 26 (.i n) = dvC { x with tok := { x.tok with sin := n } } := rfl
theorem dv_g27 (d : PV) (x : Dvp) : headA d ((dvC x).drop 27) = .b x.nx.act := rfl
theorem dv_s27 (x : Dvp) (n : Bool) : (dvC x).set 27 (.b n) = dvC { x with nx := { x.nx with act := n } } := rfl
theorem dv_g28 (d : PV) (x : Dvp) : headA d ((dvC x).drop 28) = .i x.nx.sin := rfl
theorem dv_s28 (x : Dvp) (n : Int) : (dvC x).set 28 (.i n) = dvC { x with nx := { x.nx with sin := n } } := rfl
theorem dv_g29 (d : PV) (x : Dvp) : headA d ((dvC x).drop 29) = .w x.nx.hsh := rfl
theorem dv_s29 (x : Dvp) (n : UInt64) : (dvC x).set 29 (.w n) = dvC { x with nx := { x.nx with hsh := n } } := rfl
theorem dv_z29 (x : Dvp) : (dvC x).set 29 (.p (.v (.int .u64 0))) = dvC { x with nx := { x.nx with hsh := 0 } } := rfl
theorem dv_g30 (d : PV) (x : Dvp) : headA d ((dvC x).drop 30) = .i x.nx.flg := rfl
theorem dv_s30 (x : Dvp) (n : Int) : (dvC x).set 30 (.i n) = dvC { x with nx := { x.nx with flg := n } } := rfl
theorem dv_g31 (d : PV) (x : Dvp) : headA d ((dvC x).drop 31) = .p x.nx.ids.pv := rfl
theorem dv_s31 (x : Dvp) (k n : Nat) (cs : List PV) : (dvC x).set 31 (.p (.data k n cs)) = dvC { x with nx := { x.nx with ids := .d k n cs } } := rfl
theorem dv_n31 (x : Dvp) : (dvC x).set 31 (.p (.v (.slice none 0 0))) = dvC { x with nx := { x.nx with ids := .nil } } := rfl
theorem dv_q31 (x : Dvp) (s : SlP) : (dvC x).set 31 (.p s.pv) = dvC { x with nx := { x.nx with ids := s } } := rfl
theorem dv_t9_2 (x : Dvp) : ((dvC x).drop 9).take 2 = [.i x.v.ps, .p x.v.bs.pv] := rfl
theorem dv_t9_6 (x : Dvp) : ((dvC x).drop 9).take 6 = [.i x.v.ps, .p x.v.bs.pv, .i x.v.pg, .i x.v.gn, .i x.v.tl, .b x.v.tn] := rfl
theorem dv_t0_9 (x : Dvp) : (dvC x).take 9 = [.w x.fac.mo, .w x.fac.se, .i x.fac.ps, .b x.fac.fi, .w x.fac.ase, .i x.fac.ah, .i x.fac.af, .i x.fac.ato, .p x.fac.ce.pv] := rfl
theorem dv_t9_7 (x : Dvp) : ((dvC x).drop 9).take 7 = [.i x.v.ps, .p x.v.bs.pv, .i x.v.pg, .i x.v.gn, .i x.v.tl, .b x.v.tn, .p x.v.pr.pv] := rfl
theorem dv_t21_6 (x : Dvp) : ((dvC x).drop 21).take 6 = [.w x.tok.sec, .b x.tok.act, .w x.tok.val, .i x.tok.per, sv x.tok.rp, .i x.tok.sin] := rfl
theorem dv_t27_5 (x : Dvp) : ((dvC x).drop 27).take 5 = [.b x.nx.act, .i x.nx.sin, .w x.nx.hsh, .i x.nx.flg, .p x.nx.ids.pv] := rfl
theorem dv_open (x : Dvp) : dvC x = [.w x.fac.mo, .w x.fac.se, .i x.fac.ps, .b x.fac.fi, .w x.fac.ase, .i x.fac.ah, .i x.fac.af, .i x.fac.ato, .p x.fac.ce.pv, .i x.v.ps, .p x.v.bs.pv, .i x.v.pg, .i x.v.gn, .i x.v.tl, .b x.v.tn, .p x.v.pr.pv, .b x.on, .i x.now, .i x.boo, .i x.dr, .i x.wr, .w x.tok.sec, .b x.tok.act, .w x.tok.val, .i x.tok.per, sv x.tok.rp, .i x.tok.sin, .b x.nx.act, .i x.nx.sin, .w x.nx.hsh, .i x.nx.flg, .p x.nx.ids.pv] := rfl
theorem dv_map (x : Dvp) : ∃ cs : List PV, dvC x = cs.map .p := ⟨(dvC x).map unP, rfl⟩
theorem dv_all (x : Dvp) : allP (dvC x) := by
  obtain ⟨cs, he⟩ := dv_map x
  rw [he]; intro c hc
  obtain ⟨y, _, rfl⟩ := List.mem_map.1 hc
  trivial
@[simp] theorem dv_ids (T : List Nat) (x : Dvp) : idsL T (dvC x) := by obtain ⟨cs, he⟩ := dv_map x; rw [he]; exact idsL_map T cs
theorem dv_f1 (i : Nat) (b : Blk) (x : Dvp) : fz1L i b (dvC x) = dvC x := fz1L_pure i b _ (dv_all x)
theorem dv_f2 (i : Nat) (b : Blk) (x : Dvp) : fz1OL i b (dvC x) := fz1OL_pure i b _ (dv_all x)
theorem dv_f3 (h : List (Nat × Option Blk)) (x : Dvp) : fzOL h (dvC x) := by obtain ⟨cs, he⟩ := dv_map x; rw [he]; exact fzOL_pureM h cs
theorem dv_f4 (h : List (Nat × Option Blk)) (x : Dvp) : fzL h (dvC x) = dvC x := by obtain ⟨cs, he⟩ := dv_map x; rw [he]; exact fzL_pureM h cs
theorem dv_vw (h : Heap) (S : List Nat) (σ : Nat → Nat) (x : Dvp) : viewAs h S σ (dvC x) (dvC x) := by obtain ⟨cs, he⟩ := dv_map x; rw [he]; exact viewAs_pure h S σ cs
theorem dv_rn (τ : Nat → Nat) (x : Dvp) : renL τ (dvC x) = dvC x := by obtain ⟨cs, he⟩ := dv_map x; rw [he]; exact renL_map τ cs
theorem dv_sa (x y : Dvp) : setAt (dvC x) 0 (dvC y) = dvC y := setAt_appM (dvC y) (dvC x) [] rfl
theorem dv_zero : pvs z43 = dvC dv0 := rfl
attribute [go_sem] dv_len dv_take dv_one dv_g0 dv_s0 dv_z0 dv_g1 dv_s1 dv_z1 dv_g2 dv_s2 dv_g3 dv_s3 dv_g4 dv_s4 dv_z4 dv_g5 dv_s5 dv_g6 dv_s6 dv_g7 dv_s7 dv_n8 dv_q8 dv_g8 dv_s8 dv_g9 dv_s9 dv_n10 dv_q10 dv_g10 dv_s10 dv_g11 dv_s11 dv_g12 dv_s12 dv_g13 dv_s13 dv_g14 dv_s14 dv_n15 dv_q15 dv_g15 dv_s15 dv_g16 dv_s16 dv_g17 dv_s17 dv_g18 dv_s18 dv_g19 dv_s19 dv_g20 dv_s20 dv_g21 dv_s21 dv_z21 dv_g22 dv_s22 dv_g23 dv_s23 dv_z23 dv_g24 dv_s24 dv_g25 dv_s25 dv_g26 dv_s26 dv_g27 dv_s27 dv_g28 dv_s28 dv_g29 dv_s29 dv_z29 dv_g30 dv_s30 dv_n31 dv_q31 dv_g31 dv_s31 dv_t9_2 dv_t9_6 dv_t0_9 dv_t9_7 dv_t21_6 dv_t27_5 dv_all dv_f1 dv_f2 dv_f3 dv_f4 dv_vw dv_rn dv_sa dv_zero
end Go.Proofs.YtebndjnkmcahaaaGreatDoor

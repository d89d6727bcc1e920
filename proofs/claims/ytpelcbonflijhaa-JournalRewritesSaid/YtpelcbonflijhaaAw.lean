/-
  Contract of the sanity check of the journal's laws. Own work; no statement of the seat is proved here.
-/
import Derived.Test.YtpelcbonflijhaaLc
namespace Go.Proofs.Ytpelcbonflijhaa
set_option linter.unusedSimpArgs false
set_option linter.unusedVariables false
open Go Go.Abs Go.RowKit

theorem jArgs (j : Jn) : jnAV j = .agg [.i j.ps, .p (.data 1 j.bs.length (j.bs.map bt)), .i j.page, .i j.gen, .i j.tail, .b j.torn] := rfl
def oneB : List UInt8 := [111, 110, 101]

set_option maxHeartbeats 1000000 in
theorem awake_c : FPure Try.prog 16 [] (.b true) := by
  obtain ⟨j, hj, hm, hv, ht, htn, hps, hrec, -⟩ := format_fresh newFl_ok
  obtain ⟨j', hj', hm', hrec'⟩ := append_fresh hm htn (b := oneB) (by decide) (by decide) (by rw [ht, hps]; decide)
  have hb : j.bs.length = 1024 := hv.len
  have hb' : j'.bs.length < 1000000000 := by
    obtain ⟨p, k, q, t, g, h⟩ := JAt.of (genuine_of hm')
    have := h.len
    have h2 : p * k ≤ 8192 * 8 := Nat.mul_le_mul h.p2 h.k2
    have h3 : (flOf j').bs = j'.bs := rfl
    rw [h3] at this
    omega
  refine fpure_x hmix Try.func16 rfl (by kernel_rfl) Try.ntmps16 Try.results16 (by simp) (by simp [idsL, idsA]) [0, 1, 3, 5, 6, 8, 9, 10, 11] ?_; intro c hP h0 hE
  simp only [go_sem, Nat.reduceAdd, Nat.reduceMul, ↓reduceIte, reduceCtorEq, Nat.reduceLeDiff, Int.reduceToNat, Int.reduceLT, Int.reduceLE, Int.reduceEq, Int.reduceNe, Int.reduceBEq, Int.reduceBNe, not_false_eq_true, not_true_eq_false, hP]
  first | refine xw_call hE (ks := [0, 1, 3, 5, 6, 8, 9, 10, 11]) (n := 2000) (by rw [hP]; exact newFlash_c 512 2) ?_ | refine xd_call hE (ks := [0, 1, 3, 5, 6, 8, 9, 10, 11]) (n := 2000) (by rw [hP]; exact newFlash_c 512 2) ?_
  have hf : newFl 512 2 = ⟨512, (newFl 512 2).bs⟩ := by unfold newFl; rw [if_neg (by decide)]
  simp only [go_sem, Nat.reduceAdd, Nat.reduceMul, ↓reduceIte, reduceCtorEq, Nat.reduceLeDiff, Int.reduceToNat, Int.reduceLT, Int.reduceLE, Int.reduceEq, Int.reduceNe, Int.reduceBEq, Int.reduceBNe, not_false_eq_true, not_true_eq_false, hP]
  first | refine xw_call hE (ks := [0, 1, 3, 5, 6, 8, 9, 10, 11]) (n := 2000) (by rw [hP]; exact jFormat_c _ _ _ (-1) rfl (by rw [newFl_ok.len]; decide) (by unfold i64; decide)) ?_ | refine xd_call hE (ks := [0, 1, 3, 5, 6, 8, 9, 10, 11]) (n := 2000) (by rw [hP]; exact jFormat_c _ _ _ (-1) rfl (by rw [newFl_ok.len]; decide) (by unfold i64; decide)) ?_
  have hj2 : formatM ⟨(newFl 512 2).ps, (newFl 512 2).bs⟩ (-1) = ⟨j, -1, 0⟩ := hj
  rw [hj2]
  simp only [go_sem, Nat.reduceAdd, Nat.reduceMul, ↓reduceIte, reduceCtorEq, Nat.reduceLeDiff, Int.reduceToNat, Int.reduceLT, Int.reduceLE, Int.reduceEq, Int.reduceNe, Int.reduceBEq, Int.reduceBNe, not_false_eq_true, not_true_eq_false, hP]
  have hone : oneB.map bt = [PV.v (.int .u8 111), PV.v (.int .u8 110), PV.v (.int .u8 101)] := rfl
  have hca := jAppend_c j _ oneB 3 (-1) rfl (by omega) rfl (by decide) (by unfold i64; decide)
  rw [hone, hj'] at hca
  first | refine xw_call hE (ks := [0, 1, 3, 5, 6, 8, 9, 10, 11]) (n := 2000) (by rw [hP]; exact hca) ?_ | refine xd_call hE (ks := [0, 1, 3, 5, 6, 8, 9, 10, 11]) (n := 2000) (by rw [hP]; exact hca) ?_
  simp only [go_sem, Nat.reduceAdd, Nat.reduceMul, ↓reduceIte, reduceCtorEq, Nat.reduceLeDiff, Int.reduceToNat, Int.reduceLT, Int.reduceLE, Int.reduceEq, Int.reduceNe, Int.reduceBEq, Int.reduceBNe, not_false_eq_true, not_true_eq_false, hP]
  first | refine xw_call hE (ks := [0, 1, 3, 5, 6, 8, 9, 10, 11]) (n := 2000) (by rw [hP]; exact jMount_c j'.ps j'.bs _ rfl hb') ?_ | refine xd_call hE (ks := [0, 1, 3, 5, 6, 8, 9, 10, 11]) (n := 2000) (by rw [hP]; exact jMount_c j'.ps j'.bs _ rfl hb') ?_
  have hm2 : mountM ⟨j'.ps, j'.bs⟩ = ⟨j', 0⟩ := hm'
  rw [hm2]
  simp only [go_sem, Nat.reduceAdd, Nat.reduceMul, ↓reduceIte, reduceCtorEq, Nat.reduceLeDiff, Int.reduceToNat, Int.reduceLT, Int.reduceLE, Int.reduceEq, Int.reduceNe, Int.reduceBEq, Int.reduceBNe, not_false_eq_true, not_true_eq_false, hP]
  first | refine xw_call hE (ks := [0, 1, 3, 5, 6, 8, 9, 10, 11]) (n := 2000) (by rw [hP]; exact jRecords_c j' _ rfl hb') ?_ | refine xd_call hE (ks := [0, 1, 3, 5, 6, 8, 9, 10, 11]) (n := 2000) (by rw [hP]; exact jRecords_c j' _ rfl hb') ?_
  rw [hrec', hrec]
  simp only [go_sem, Nat.reduceAdd, Nat.reduceMul, ↓reduceIte, reduceCtorEq, Nat.reduceLeDiff, Int.reduceToNat, Int.reduceLT, Int.reduceLE, Int.reduceEq, Int.reduceNe, Int.reduceBEq, Int.reduceBNe, not_false_eq_true, not_true_eq_false, hP]
  rw [if_pos ht]
  first | refine xw_call hE (ks := [0, 1, 3, 5, 6, 8, 9, 10, 11]) (n := 2000) (by rw [hP]; exact jRoom_c j _ rfl (by omega)) ?_ | refine xd_call hE (ks := [0, 1, 3, 5, 6, 8, 9, 10, 11]) (n := 2000) (by rw [hP]; exact jRoom_c j _ rfl (by omega)) ?_
  have hrm : jroomM j = 256 := by
    unfold jroomM roomM
    rw [if_pos (genuine_of hm), htn, ht, hps]
    decide
  rw [hrm]
  simp only [go_sem, Nat.reduceAdd, Nat.reduceMul, ↓reduceIte, reduceCtorEq, Nat.reduceLeDiff, Int.reduceToNat, Int.reduceLT, Int.reduceLE, Int.reduceEq, Int.reduceNe, Int.reduceBEq, Int.reduceBNe, not_false_eq_true, not_true_eq_false, hP, byP, unBs_bt, strOf, allB_bt, toList_of]
  first | rfl | decide

theorem calls_law {P : Program} {f : FuncId} {vs : List AV} (h : FPure P f vs (.b true)) {us : Array Value} {w : World} (hz : us.size = vs.length) (hr : ∀ j c, vs[j]? = some c → Rd (fun _ => none) (fun b => b < w.heap.size) w c (us.getD j undef)) :
    Calls P f us w (fun e w' => e = .returned (.bool true) ∧ Below w.heap.size w w') := by
  refine ((h (fun _ => none)).tri (fun _ => none) (fun b => b < w.heap.size) us w ⟨fun b hb => hb, ⟨fun i k hk => by simp [restr] at hk, fun i j b hi => by simp [restr] at hi⟩, fun i _ _ => rfl⟩ hz hr).mono ?_
  rintro e w' ⟨x, ρ', F', rfl, hp⟩
  refine ⟨by rw [hp.rd.pv], ?_⟩
  exact (hp.chg.mono (O' := fun _ => False) (fun b hb => by obtain ⟨i, hi, _⟩ := hb; simp [keys] at hi)).below

end Go.Proofs.Ytpelcbonflijhaa

/-
  The law's sanity check: a text is read and written. Own work.
-/
import Derived.Test.YthdhbdjhjfflnaaDoorSl3
namespace Go.Proofs.YthdhbdjhjfflnaaDoor
set_option linter.unusedSimpArgs false
set_option linter.unusedVariables false
open Go Go.Abs Go.RowKit

def awT : List UInt8 := [116, 105, 99, 107, 32, 53, 10, 35, 32, 110, 111, 116, 104, 105, 110, 103, 10, 116, 111, 117, 99, 104, 32, 48, 10, 99, 97, 108, 108, 32, 48, 32, 115, 116, 97, 114, 116, 45, 103, 101, 116, 32, 45, 32, 97, 108, 105, 99, 101, 10]
def awU : List UInt8 := [116, 105, 99, 107, 32, 53, 10, 116, 105, 99, 107, 32, 48, 53, 10]
def awA : List UInt8 := [97, 108, 105, 99, 101]
def awL : List EL := [(⟨1, 0, 0, 5, 0, []⟩, [116, 105, 99, 107, 32, 53]), (⟨5, 0, 0, 1, 0, []⟩, [116, 111, 117, 99, 104, 32, 48]), (⟨9, 0, 0, 3, -1, [97, 108, 105, 99, 101]⟩, [99, 97, 108, 108, 32, 48, 32, 115, 116, 97, 114, 116, 45, 103, 101, 116, 32, 45, 32, 97, 108, 105, 99, 101])]
theorem lines_step {s a r : List UInt8} (hs : s ≠ []) (h : (cutM 10 s).1 = a ∧ (cutM 10 s).2.1 = r) : linesM s = a :: linesM r := by
  rw [linesM_cons hs, h.1, h.2]
theorem awT_lines : linesM awT = [[116, 105, 99, 107, 32, 53], [35, 32, 110, 111, 116, 104, 105, 110, 103], [116, 111, 117, 99, 104, 32, 48], [99, 97, 108, 108, 32, 48, 32, 115, 116, 97, 114, 116, 45, 103, 101, 116, 32, 45, 32, 97, 108, 105, 99, 101]] := by
  rw [lines_step (s := awT) (a := [116, 105, 99, 107, 32, 53]) (r := awT.drop 7) (by simp [awT]) (by decide), lines_step (s := awT.drop 7) (a := [35, 32, 110, 111, 116, 104, 105, 110, 103]) (r := awT.drop 17) (by simp [awT]) (by decide), lines_step (s := awT.drop 17) (a := [116, 111, 117, 99, 104, 32, 48]) (r := awT.drop 25) (by simp [awT]) (by decide), lines_step (s := awT.drop 25) (a := [99, 97, 108, 108, 32, 48, 32, 115, 116, 97, 114, 116, 45, 103, 101, 116, 32, 45, 32, 97, 108, 105, 99, 101]) (r := []) (by simp [awT]) (by decide), linesM_nil]
theorem awU_lines : linesM awU = [[116, 105, 99, 107, 32, 53], [116, 105, 99, 107, 32, 48, 53]] := by
  rw [lines_step (s := awU) (a := [116, 105, 99, 107, 32, 53]) (r := awU.drop 7) (by simp [awU]) (by decide), lines_step (s := awU.drop 7) (a := [116, 105, 99, 107, 32, 48, 53]) (r := []) (by simp [awU]) (by decide), linesM_nil]
theorem awT_parse : parseM awT = (awL.map (·.1), 0, 0) := by
  unfold parseM; rw [awT_lines]; kernel_rfl
theorem awU_parse : parseM awU = ([], 2, 2) := by
  unfold parseM; rw [awU_lines]; kernel_rfl
theorem awT_c : FPure Tryd.prog 9 [sv awT] (.tup [.p (.data 26 awL.length (evsP (awL.map (·.1)))), .i 0, .i 0]) := by
  have h := pparse_c awT (by simp [awT])
  rw [awT_parse] at h
  exact h
theorem awU_c : FPure Tryd.prog 9 [sv awU] (.tup [.p (.data 26 0 []), .i 2, .i 2]) := by
  have h := pparse_c awU (by simp [awU])
  rw [awU_parse] at h
  exact h
theorem awF_c : FPure Tryd.prog 10 [.p (.data 26 awL.length (evsP (awL.map (·.1))))] (.tup [sv (txtM awL), .i 0]) := by
  refine format_c awL (by decide) (by decide) (by decide) ?_
  intro p hp
  simp only [awL, List.mem_cons, List.not_mem_nil, or_false] at hp
  rcases hp with rfl | rfl | rfl
  · exact fmtLine_c _ 0 _ (by decide) (by decide) (by unfold matchF; decide) (by unfold matchF; decide) (by kernel_rfl)
  · exact fmtLine_c _ 12 _ (by decide) (by decide) (by unfold matchF; decide) (by unfold matchF; decide) (by kernel_rfl)
  · exact fmtLine_c _ 18 _ (by decide) (by decide) (by unfold matchF; decide) (by unfold matchF; decide) (by kernel_rfl)

theorem awE3 : headP (.v (.int .i64 0)) (List.drop 3 (List.drop 52 (evsP (awL.map (fun x => x.1))))) = .v (.int .i64 3) := rfl
theorem awE4 : headP (.v (.int .i64 0)) (List.drop 4 (List.drop 52 (evsP (awL.map (fun x => x.1))))) = .v (.int .i64 (-1)) := rfl
theorem awE5 : headP (.v undef) (List.drop 5 (List.drop 52 (evsP (awL.map (fun x => x.1))))) = .v (.string ⟨#[97, 108, 105, 99, 101]⟩) := rfl
theorem awX : 1 ≤ awL.length * 26 - 52 - 4 ∧ 1 ≤ awL.length * 26 - 52 - 5 ∧ 1 ≤ awL.length * 26 - 52 - 3 := by decide
set_option maxHeartbeats 4000000 in
theorem awake_c : FPure Tryd.prog 4 [] (.b true) := by
  refine fpure_x hmix Tryd.func4 rfl (by kernel_rfl) Tryd.ntmps4 Tryd.results4 (by simp) (by simp [idsL, idsA]) [0, 1, 2, 3, 4, 5, 7, 8, 24] ?_; intro c hP h0 hE
  simp only [go_sem, Nat.reduceAdd, Nat.reduceMul, ↓reduceIte, reduceCtorEq, Nat.reduceLeDiff, Int.reduceToNat, Int.reduceLT, Int.reduceLE, Int.reduceEq, Int.reduceNe, Int.reduceBEq, Int.reduceBNe, not_false_eq_true, not_true_eq_false, hP]
  first | refine xw_call hE (ks := [0, 1, 2, 3, 4, 5, 7, 8, 24]) (n := 2000) (by rw [hP]; exact awT_c) ?_ | refine xd_call hE (ks := [0, 1, 2, 3, 4, 5, 7, 8, 24]) (n := 2000) (by rw [hP]; exact awT_c) ?_
  have hlen : awL.length = 3 := rfl
  have htx : txtM awL = [116, 105, 99, 107, 32, 53, 10, 116, 111, 117, 99, 104, 32, 48, 10, 99, 97, 108, 108, 32, 48, 32, 115, 116, 97, 114, 116, 45, 103, 101, 116, 32, 45, 32, 97, 108, 105, 99, 101, 10] := rfl
  simp only [go_sem, Nat.reduceAdd, Nat.reduceMul, ↓reduceIte, reduceCtorEq, Nat.reduceLeDiff, Int.reduceToNat, Int.reduceLT, Int.reduceLE, Int.reduceEq, Int.reduceNe, Int.reduceBEq, Int.reduceBNe, not_false_eq_true, not_true_eq_false, hP, hlen]
  first | refine xw_call hE (ks := [0, 1, 2, 3, 4, 5, 7, 8, 24]) (n := 2000) (by rw [hP]; exact awF_c) ?_ | refine xd_call hE (ks := [0, 1, 2, 3, 4, 5, 7, 8, 24]) (n := 2000) (by rw [hP]; exact awF_c) ?_
  simp only [go_sem, Nat.reduceAdd, Nat.reduceMul, ↓reduceIte, reduceCtorEq, Nat.reduceLeDiff, Int.reduceToNat, Int.reduceLT, Int.reduceLE, Int.reduceEq, Int.reduceNe, Int.reduceBEq, Int.reduceBNe, not_false_eq_true, not_true_eq_false, hP]
  first | refine xw_call hE (ks := [0, 1, 2, 3, 4, 5, 7, 8, 24]) (n := 2000) (by rw [hP]; exact awU_c) ?_ | refine xd_call hE (ks := [0, 1, 2, 3, 4, 5, 7, 8, 24]) (n := 2000) (by rw [hP]; exact awU_c) ?_
  simp only [go_sem, Nat.reduceAdd, Nat.reduceMul, ↓reduceIte, reduceCtorEq, Nat.reduceLeDiff, Int.reduceToNat, Int.reduceLT, Int.reduceLE, Int.reduceEq, Int.reduceNe, Int.reduceBEq, Int.reduceBNe, not_false_eq_true, not_true_eq_false, hP, htx, BEq.rfl, awE3, awE4, awE5]
  exact awX

end Go.Proofs.YthdhbdjhjfflnaaDoor

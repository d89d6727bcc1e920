/-
  Contracts of the reference's With, Stored, SamePairs. Own work; no statement of the seat is proved here.
-/
import Derived.Test.YtcnpgmlkocbhkaaGreatVb
namespace Go.Proofs.YtcnpgmlkocbhkaaGreat
set_option linter.unusedSimpArgs false
set_option linter.unusedVariables false
open Go Go.Abs Go.RowKit

/-- one pair put among others -/
def with1 (p : Int × List UInt8) : Bool → Store → Store
  | d, [] => if d then [] else [p]
  | d, q :: r => (if d = false ∧ q.1 ≥ p.1 then [p] else []) ++ (if q.1 ≠ p.1 then [q] else []) ++ with1 p (d || decide (q.1 ≥ p.1)) r
def withM (old l : Store) : Store := l.foldl (fun o p => with1 p (decide (p.2.length = 0)) o) old
theorem with1_len (p : Int × List UInt8) : ∀ (d : Bool) (r : Store), (with1 p d r).length ≤ r.length + 1
  | d, [] => by simp only [with1]; split <;> simp
  | d, q :: r => by
    have ih := with1_len p (d || decide (q.1 ≥ p.1)) r
    have ih2 := with1_len2 p r
    simp only [with1, List.length_append, List.length_cons]
    cases d with
    | true => simp only [Bool.true_or] at ih ⊢; split <;> split <;> simp at * <;> omega
    | false =>
      by_cases h : q.1 ≥ p.1
      · simp only [h, decide_true, Bool.or_true, and_self, if_true] at ih ⊢
        split <;> simp at * <;> omega
      · simp only [h, and_false, if_false] at ih ⊢
        split <;> simp at * <;> omega
where
  with1_len2 (p : Int × List UInt8) : ∀ (r : Store), (with1 p true r).length ≤ r.length
  | [] => by simp [with1]
  | q :: r => by
    have ih := with1_len2 p r
    simp only [with1, List.length_append, List.length_cons, Bool.true_or]
    split <;> split <;> simp at * <;> omega

set_option maxHeartbeats 4000000 in
theorem rwith_c (old l : Store) (h1 : old.length + l.length < 1000000) : FPure Tryz.prog 23 [.p (PL old), .p (PL l)] (.p (PL (withM old l))) := by
  refine fpure_x hmix Tryz.func23 rfl (by kernel_rfl) Tryz.ntmps23 Tryz.results23 (by simp) (by simp [idsL, idsA]) [0, 1, 4, 5, 6, 7, 8, 12, 25, 42, 60, 69] ?_; intro c hP h0 hE
  simp only [go_sem, Nat.reduceAdd, Nat.reduceMul, ↓reduceIte, reduceCtorEq, Nat.reduceLeDiff, Int.reduceToNat, Int.reduceLT, Int.reduceLE, Int.reduceEq, Int.reduceNe, Int.reduceBEq, Int.reduceBNe, not_false_eq_true, not_true_eq_false, hP, PL]
  have hstep : ∀ i, i < l.length → withM old (l.take (i + 1)) = with1 (l.getD i (0, [])) (decide ((l.getD i (0, [])).2.length = 0)) (withM old (l.take i)) := fun i h => by
    unfold withM; rw [take_at l i h, List.foldl_append]; rfl
  have hlen : ∀ i, i ≤ l.length → (withM old (l.take i)).length ≤ old.length + i := fun i => by
    induction i with
    | zero => intro _; simp [withM]
    | succ i ih =>
      intro h
      rw [hstep i (by omega)]
      have := with1_len (l.getD i (0, [])) (decide ((l.getD i (0, [])).2.length = 0)) (withM old (l.take i))
      have := ih (by omega)
      omega
  refine xw_for hE h0 [0, 1, 4, 5, 6, 7, 8, 12, 25, 42, 60, 69] l.length (fun i => ⟨79, [(0, .p (PL (withM old (l.take i)))), (1, .p (PL l)), (5, .i i)], [], 0⟩) [] (fun i => i) ?_ ?_
  · refine ⟨rfl, ?_, trivial, rfl, rfl, trivial, fun i h => h⟩
    simp only [go_sem, Nat.reduceAdd, Nat.reduceMul, ↓reduceIte, reduceCtorEq, Nat.reduceLeDiff, Int.reduceToNat, Int.reduceLT, Int.reduceLE, Int.reduceEq, Int.reduceNe, Int.reduceBEq, Int.reduceBNe, not_false_eq_true, not_true_eq_false, PL]
    simp [withM]
  · intro i hi
    rcases Nat.lt_or_ge i l.length with hin | hin
    · have hat := prCs_at l i hin
      have hc : ((i : Int) < (l.length : Int)) := by omega
      have hl1 := hlen i (by omega)
      have hst := hstep i hin
      generalize withM old (l.take i) = o at *
      generalize l.getD i (0, []) = p at *
      simp only [go_sem, Nat.reduceAdd, Nat.reduceMul, ↓reduceIte, reduceCtorEq, Nat.reduceLeDiff, Int.reduceToNat, Int.reduceLT, Int.reduceLE, Int.reduceEq, Int.reduceNe, Int.reduceBEq, Int.reduceBNe, not_false_eq_true, not_true_eq_false, hP, PL, hat, hc, byP]
      refine ⟨by omega, ?_⟩
      refine saw_new 43 ?_
      refine xw_loop hE h0 [0, 1, 4, 5, 6, 7, 8, 12, 25, 42, 60, 69] (α := { x : Nat × Store × Bool // x.1 ≤ o.length ∧ with1 p (decide (p.2.length = 0)) o = x.2.1 ++ with1 p x.2.2 (o.drop x.1) ∧ x.2.1.length ≤ 2 * x.1 })
        (fun x => ⟨79, [(0, .p (PL o)), (1, .p (PL l)), (5, .i i), (6, .sl 0 0 x.1.2.1.length 2), (7, .b x.1.2.2), (8, .i x.1.1)], [(0, some ⟨43, prA x.1.2.1⟩)], 1⟩) (fun x => o.length - x.1.1) ⟨(0, [], decide (p.2.length = 0)), Nat.zero_le _, by simp, by simp⟩ [] (fun i => i) ?_ ?_
      · refine ⟨rfl, ?_, ?_, rfl, rfl, trivial, fun i h => h⟩
        · simp only [go_sem, Nat.reduceAdd, Nat.reduceMul, ↓reduceIte, reduceCtorEq, Nat.reduceLeDiff, Int.reduceToNat, Int.reduceLT, Int.reduceLE, Int.reduceEq, Int.reduceNe, Int.reduceBEq, Int.reduceBNe, not_false_eq_true, not_true_eq_false, PL]
          simp
          cases p.2 <;> simp
          try omega
        · simp only [go_sem, Nat.reduceAdd, Nat.reduceMul, ↓reduceIte, reduceCtorEq, Nat.reduceLeDiff, Int.reduceToNat, Int.reduceLT, Int.reduceLE, Int.reduceEq, Int.reduceNe, Int.reduceBEq, Int.reduceBNe, not_false_eq_true, not_true_eq_false]
          simp [prA, prCs_nil, viewAs]
      · rintro ⟨⟨k, out, d⟩, k1, k2, k3⟩
        simp only at k1 k2 k3
        rcases Nat.lt_or_ge k o.length with hkn | hkn
        · have hat2 := prCs_at o k hkn
          have hc2 : ((k : Int) < (o.length : Int)) := by omega
          have hdrop : o.drop k = o.getD k (0, []) :: o.drop (k + 1) := by rw [List.drop_eq_getElem_cons hkn]; simp [List.getD_eq_getElem?_getD, hkn]
          rw [hdrop] at k2
          simp only [with1] at k2
          generalize o.getD k (0, []) = q at *
          simp only [go_sem, Nat.reduceAdd, Nat.reduceMul, ↓reduceIte, reduceCtorEq, Nat.reduceLeDiff, Int.reduceToNat, Int.reduceLT, Int.reduceLE, Int.reduceEq, Int.reduceNe, Int.reduceBEq, Int.reduceBNe, not_false_eq_true, not_true_eq_false, hP, PL, hat, hat2, hc, hc2, byP]
          have hw : IntKind.i64.wrap ((k : Int) + 1) = ((k + 1 : Nat) : Int) := by rw [wrap_i64_id (by omega) (by omega)]; omega
          rw [hw]
          cases d with
          | false =>
            have hd : True := trivial
            rw [if_pos rfl]
            refine ⟨by omega, by omega, by kernel_rfl, ?_⟩
            by_cases hq : q.1 ≥ p.1
            · rw [if_pos hq]
              refine ⟨by omega, ⟨by omega, by omega⟩, by omega, by omega, by kernel_rfl, ?_⟩
              by_cases he : q.1 = p.1
              · rw [if_neg (fun h => h he)]
                refine ⟨⟨(k + 1, out ++ [p], true), by show k + 1 ≤ _; omega, ?_, ?_⟩, by show o.length - (k + 1) < o.length - k; omega, subG [2] rfl ?_ ?_ rfl rfl (Nat.le_refl _)⟩
                · rw [k2]; simp [*]
                · (try simp); (try omega)
                · simp only [go_sem, Nat.reduceAdd, Nat.reduceMul, ↓reduceIte, reduceCtorEq, Nat.reduceLeDiff, Int.reduceToNat, Int.reduceLT, Int.reduceLE, Int.reduceEq, Int.reduceNe, Int.reduceBEq, Int.reduceBNe, not_false_eq_true, not_true_eq_false, PL]
                  (try simp [*])
                · simp only [go_sem, Nat.reduceAdd, Nat.reduceMul, ↓reduceIte, reduceCtorEq, Nat.reduceLeDiff, Int.reduceToNat, Int.reduceLT, Int.reduceLE, Int.reduceEq, Int.reduceNe, Int.reduceBEq, Int.reduceBNe, not_false_eq_true, not_true_eq_false]
                  exact prA_view _ _ _ _
              · rw [if_pos he]
                refine ⟨by omega, ⟨by omega, by omega⟩, ?_⟩
                refine ⟨⟨(k + 1, out ++ [p] ++ [q], true), by show k + 1 ≤ _; omega, ?_, ?_⟩, by show o.length - (k + 1) < o.length - k; omega, subG [4] rfl ?_ ?_ rfl rfl (Nat.le_refl _)⟩
                · rw [k2]; simp [*]
                · (try simp); (try omega)
                · simp only [go_sem, Nat.reduceAdd, Nat.reduceMul, ↓reduceIte, reduceCtorEq, Nat.reduceLeDiff, Int.reduceToNat, Int.reduceLT, Int.reduceLE, Int.reduceEq, Int.reduceNe, Int.reduceBEq, Int.reduceBNe, not_false_eq_true, not_true_eq_false, PL]
                  (try simp [*])
                · simp only [go_sem, Nat.reduceAdd, Nat.reduceMul, ↓reduceIte, reduceCtorEq, Nat.reduceLeDiff, Int.reduceToNat, Int.reduceLT, Int.reduceLE, Int.reduceEq, Int.reduceNe, Int.reduceBEq, Int.reduceBNe, not_false_eq_true, not_true_eq_false]
                  exact prA_view _ _ _ _
            · rw [if_neg hq]
              refine ⟨by omega, by omega, by kernel_rfl, ?_⟩
              have he : ¬ q.1 = p.1 := by omega
              rw [if_pos he]
              refine ⟨by omega, ⟨by omega, by omega⟩, ?_⟩
              refine ⟨⟨(k + 1, out ++ [q], false), by show k + 1 ≤ _; omega, ?_, ?_⟩, by show o.length - (k + 1) < o.length - k; omega, subG [2] rfl ?_ ?_ rfl rfl (Nat.le_refl _)⟩
              · rw [k2]; simp [*]
              · (try simp); (try omega)
              · simp only [go_sem, Nat.reduceAdd, Nat.reduceMul, ↓reduceIte, reduceCtorEq, Nat.reduceLeDiff, Int.reduceToNat, Int.reduceLT, Int.reduceLE, Int.reduceEq, Int.reduceNe, Int.reduceBEq, Int.reduceBNe, not_false_eq_true, not_true_eq_false, PL]
                (try simp [*])
              · simp only [go_sem, Nat.reduceAdd, Nat.reduceMul, ↓reduceIte, reduceCtorEq, Nat.reduceLeDiff, Int.reduceToNat, Int.reduceLT, Int.reduceLE, Int.reduceEq, Int.reduceNe, Int.reduceBEq, Int.reduceBNe, not_false_eq_true, not_true_eq_false]
                exact prA_view _ _ _ _
          | true =>
            have hd : True := trivial
            rw [if_neg (by simp)]
            refine ⟨by kernel_rfl, by omega, by omega, by kernel_rfl, ?_⟩
            by_cases he : q.1 = p.1
            · rw [if_neg (fun h => h he)]
              refine ⟨⟨(k + 1, out, true), by show k + 1 ≤ _; omega, ?_, ?_⟩, by show o.length - (k + 1) < o.length - k; omega, subG [0] rfl ?_ ?_ rfl rfl (Nat.le_refl _)⟩
              · rw [k2]; simp [*]
              · (try simp); (try omega)
              · simp only [go_sem, Nat.reduceAdd, Nat.reduceMul, ↓reduceIte, reduceCtorEq, Nat.reduceLeDiff, Int.reduceToNat, Int.reduceLT, Int.reduceLE, Int.reduceEq, Int.reduceNe, Int.reduceBEq, Int.reduceBNe, not_false_eq_true, not_true_eq_false, PL]
                (try simp [*])
              · simp only [go_sem, Nat.reduceAdd, Nat.reduceMul, ↓reduceIte, reduceCtorEq, Nat.reduceLeDiff, Int.reduceToNat, Int.reduceLT, Int.reduceLE, Int.reduceEq, Int.reduceNe, Int.reduceBEq, Int.reduceBNe, not_false_eq_true, not_true_eq_false]
                exact prA_view _ _ _ _
            · rw [if_pos he]
              refine ⟨by omega, ⟨by omega, by omega⟩, ?_⟩
              refine ⟨⟨(k + 1, out ++ [q], true), by show k + 1 ≤ _; omega, ?_, ?_⟩, by show o.length - (k + 1) < o.length - k; omega, subG [2] rfl ?_ ?_ rfl rfl (Nat.le_refl _)⟩
              · rw [k2]; simp [*]
              · (try simp); (try omega)
              · simp only [go_sem, Nat.reduceAdd, Nat.reduceMul, ↓reduceIte, reduceCtorEq, Nat.reduceLeDiff, Int.reduceToNat, Int.reduceLT, Int.reduceLE, Int.reduceEq, Int.reduceNe, Int.reduceBEq, Int.reduceBNe, not_false_eq_true, not_true_eq_false, PL]
                (try simp [*])
              · simp only [go_sem, Nat.reduceAdd, Nat.reduceMul, ↓reduceIte, reduceCtorEq, Nat.reduceLeDiff, Int.reduceToNat, Int.reduceLT, Int.reduceLE, Int.reduceEq, Int.reduceNe, Int.reduceBEq, Int.reduceBNe, not_false_eq_true, not_true_eq_false]
                exact prA_view _ _ _ _
        · obtain rfl : k = o.length := by omega
          have hnc : ¬ ((o.length : Int) < (o.length : Int)) := by omega
          rw [List.drop_eq_nil_of_le (Nat.le_refl _)] at k2
          simp only [with1] at k2
          simp only [go_sem, Nat.reduceAdd, Nat.reduceMul, ↓reduceIte, reduceCtorEq, Nat.reduceLeDiff, Int.reduceToNat, Int.reduceLT, Int.reduceLE, Int.reduceEq, Int.reduceNe, Int.reduceBEq, Int.reduceBNe, not_false_eq_true, not_true_eq_false, hP, PL, hnc, hat, hc, byP]
          have hw : IntKind.i64.wrap ((i : Int) + 1) = ((i + 1 : Nat) : Int) := by rw [wrap_i64_id (by omega) (by omega)]; omega
          rw [hw, hst, k2]
          cases d with
          | false =>
            rw [if_pos rfl, if_neg (by simp)]
            refine ⟨by omega, ⟨by omega, by omega⟩, hin, subGS [2] [] rfl ?_ ?_ rfl rfl ?_ (Nat.le_refl _)⟩
            · simp only [go_sem, Nat.reduceAdd, Nat.reduceMul, ↓reduceIte, reduceCtorEq, Nat.reduceLeDiff, Int.reduceToNat, Int.reduceLT, Int.reduceLE, Int.reduceEq, Int.reduceNe, Int.reduceBEq, Int.reduceBNe, not_false_eq_true, not_true_eq_false, PL]
              refine ⟨by simp, ⟨43, prA (out ++ [p])⟩, rfl, by show _ ≤ (prA (out ++ [p])).length; rw [prA_len]; simp, ?_⟩
              show viewPs _ _ _ ((prA (out ++ [p])).take ((out.length + 1) * 2))
              rw [show out.length + 1 = (out ++ [p]).length by simp, prA_all]
              exact viewPs_refl _ _ _
            · simp only [go_sem, Nat.reduceAdd, Nat.reduceMul, ↓reduceIte, reduceCtorEq, Nat.reduceLeDiff, Int.reduceToNat, Int.reduceLT, Int.reduceLE, Int.reduceEq, Int.reduceNe, Int.reduceBEq, Int.reduceBNe, not_false_eq_true, not_true_eq_false]
            · simp only [go_sem, Nat.reduceAdd, Nat.reduceMul, ↓reduceIte, reduceCtorEq, Nat.reduceLeDiff, Int.reduceToNat, Int.reduceLT, Int.reduceLE, Int.reduceEq, Int.reduceNe, Int.reduceBEq, Int.reduceBNe, not_false_eq_true, not_true_eq_false, Option.isSome_some]
          | true =>
            rw [if_neg (by simp), if_pos rfl, List.append_nil]
            refine ⟨hin, subGS [0] [] rfl ?_ ?_ rfl rfl ?_ (Nat.le_refl _)⟩
            · simp only [go_sem, Nat.reduceAdd, Nat.reduceMul, ↓reduceIte, reduceCtorEq, Nat.reduceLeDiff, Int.reduceToNat, Int.reduceLT, Int.reduceLE, Int.reduceEq, Int.reduceNe, Int.reduceBEq, Int.reduceBNe, not_false_eq_true, not_true_eq_false, PL]
              refine ⟨by simp, ⟨43, prA out⟩, rfl, by show _ ≤ (prA out).length; rw [prA_len]; exact Nat.le_refl _, ?_⟩
              show viewPs _ _ _ ((prA out).take (out.length * 2))
              rw [prA_all]
              exact viewPs_refl _ _ _
            · simp only [go_sem, Nat.reduceAdd, Nat.reduceMul, ↓reduceIte, reduceCtorEq, Nat.reduceLeDiff, Int.reduceToNat, Int.reduceLT, Int.reduceLE, Int.reduceEq, Int.reduceNe, Int.reduceBEq, Int.reduceBNe, not_false_eq_true, not_true_eq_false]
            · simp only [go_sem, Nat.reduceAdd, Nat.reduceMul, ↓reduceIte, reduceCtorEq, Nat.reduceLeDiff, Int.reduceToNat, Int.reduceLT, Int.reduceLE, Int.reduceEq, Int.reduceNe, Int.reduceBEq, Int.reduceBNe, not_false_eq_true, not_true_eq_false, Option.isSome_some]
    · obtain rfl : i = l.length := by omega
      have hnc : ¬ ((l.length : Int) < (l.length : Int)) := by omega
      simp only [go_sem, Nat.reduceAdd, Nat.reduceMul, ↓reduceIte, reduceCtorEq, Nat.reduceLeDiff, Int.reduceToNat, Int.reduceLT, Int.reduceLE, Int.reduceEq, Int.reduceNe, Int.reduceBEq, Int.reduceBNe, not_false_eq_true, not_true_eq_false, hP, PL, hnc]
      rw [List.take_of_length_le (Nat.le_refl _)]
      (try exact ⟨rfl, rfl⟩)

end Go.Proofs.YtcnpgmlkocbhkaaGreat

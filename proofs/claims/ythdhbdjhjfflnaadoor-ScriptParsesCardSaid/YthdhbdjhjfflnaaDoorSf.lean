/-
  Contracts of the lines of scripts: the reference. Own work; no statement of the seat is proved here.
-/
import Derived.Test.YthdhbdjhjfflnaaDoorSe
namespace Go.Proofs.YthdhbdjhjfflnaaDoor
set_option linter.unusedSimpArgs false
set_option linter.unusedVariables false
open Go Go.Abs Go.RowKit

abbrev formRC (f : FormR) : List AV := [.i f.kind, sv f.word, sv f.fields, .b f.text, .i f.n]
abbrev frT : Nat := 80

theorem fromR_at {text : Bool} {fs : List UInt8} {i : Nat} {e : Ev} {rest : List UInt8} (h : i < fs.length) (R : Ev × Bool) (hR : fromR text (fs.drop i) e rest true = R) :
    ((putR (fs.getD i 0) e (cutM 32 rest).1).2 = true → fromR text (fs.drop (i + 1)) (putR (fs.getD i 0) e (cutM 32 rest).1).1 (cutM 32 rest).2.1 (cutM 32 rest).2.2 = R) ∧
    ((putR (fs.getD i 0) e (cutM 32 rest).1).2 = false → ((putR (fs.getD i 0) e (cutM 32 rest).1).1, false) = R) := by
  rw [drop_at (d := 0) h, fromR] at hR
  simp only [reduceCtorEq, ↓reduceIte] at hR
  constructor
  · intro hp; rw [if_pos hp] at hR; exact hR
  · intro hp; rw [if_neg (by rw [hp]; simp)] at hR; exact hR

set_option maxHeartbeats 4000000 in
theorem fits_c (f : FormR) (line : List UInt8) (hl : line.length < 1000000000) (hf : f.fields.length < 1000) : FPure Tryd.prog 31 [.agg (formRC f), sv line] (.tup [evA (fitsR f line).1, .b (fitsR f line).2]) := by
  refine fpure_x hmix Tryd.func31 rfl (by kernel_rfl) Tryd.ntmps31 Tryd.results31 (by simp) (by simp [idsL, idsA]) [0, 1, 2, 4, 5, 6, 7, 8, 9, 10, 11, 26, 32, 36, 55, 60] ?_; intro c hP h0 hE
  simp only [go_sem, Nat.reduceAdd, Nat.reduceMul, ↓reduceIte, reduceCtorEq, Nat.reduceLeDiff, Int.reduceToNat, Int.reduceLT, Int.reduceLE, Int.reduceEq, Int.reduceNe, Int.reduceBEq, Int.reduceBNe, not_false_eq_true, not_true_eq_false, hP]
  first | refine xw_call hE (ks := [0, 1, 2, 4, 5, 6, 7, 8, 9, 10, 11, 26, 32, 36, 55, 60]) (n := 2000) (by rw [hP]; exact rcut_c line (by omega)) ?_ | refine xd_call hE (ks := [0, 1, 2, 4, 5, 6, 7, 8, 9, 10, 11, 26, 32, 36, 55, 60]) (n := 2000) (by rw [hP]; exact rcut_c line (by omega)) ?_
  obtain ⟨R, hR⟩ : ∃ R, fitsR f line = R := ⟨_, rfl⟩; rw [hR] at hE; (try rw [hR])
  unfold fitsR at hR
  have hb := (cutM_le 32 line).2
  generalize cutM 32 line = C at *
  by_cases hw : C.1 = f.word
  · rw [if_pos hw] at hR
    simp only [go_sem, Nat.reduceAdd, Nat.reduceMul, ↓reduceIte, reduceCtorEq, Nat.reduceLeDiff, Int.reduceToNat, Int.reduceLT, Int.reduceLE, Int.reduceEq, Int.reduceNe, Int.reduceBEq, Int.reduceBNe, not_false_eq_true, not_true_eq_false, hP, hw, ev0]
    refine xw_loop hE h0 [0, 1, 2, 4, 5, 6, 7, 8, 9, 10, 11, 26, 32, 36, 55, 60] (α := { p : Nat × Ev × List UInt8 × Bool // p.1 ≤ f.fields.length ∧ p.2.2.1.length ≤ line.length ∧ fromR f.text (f.fields.drop p.1) p.2.1 p.2.2.1 p.2.2.2 = R }) (fun p => ⟨65, [(2, .ptr 0 0), (4, .ptr 1 0), (6, .ptr 2 0), (8, sv p.1.2.2.1), (9, .b p.1.2.2.2), (10, .i p.1.1)], [(0, some ⟨frT, formRC f⟩), (1, some ⟨evT, evC ev0⟩), (2, some ⟨evT, evC p.1.2.1⟩)], 3⟩) (fun p => f.fields.length - p.1.1) ⟨(0, ⟨f.kind, 0, 0, f.n, 0, []⟩, C.2.1, C.2.2), Nat.zero_le _, hb, hR⟩ [] (fun i => i) ?_ ?_
    · refine ⟨rfl, ?_, ?_, rfl, rfl, trivial, fun i h => h⟩
      · simp only [go_sem, Nat.reduceAdd, Nat.reduceMul, ↓reduceIte, reduceCtorEq, Nat.reduceLeDiff, Int.reduceToNat, Int.reduceLT, Int.reduceLE, Int.reduceEq, Int.reduceNe, Int.reduceBEq, Int.reduceBNe, not_false_eq_true, not_true_eq_false]
      · simp only [go_sem, Nat.reduceAdd, Nat.reduceMul, ↓reduceIte, reduceCtorEq, Nat.reduceLeDiff, Int.reduceToNat, Int.reduceLT, Int.reduceLE, Int.reduceEq, Int.reduceNe, Int.reduceBEq, Int.reduceBNe, not_false_eq_true, not_true_eq_false, ev0]
    · rintro ⟨⟨i, e, rest, more⟩, hi, hrl, hr⟩
      simp only at hi hrl hr
      rcases Nat.lt_or_ge i f.fields.length with hin | hin
      · have hc : ((i : Int) < (f.fields.length : Int)) := by omega
        have hwi := w_succ (i := i) (by omega)
        cases more with
        | false =>
          rw [drop_at (d := 0) hin, fromR, if_pos rfl] at hr
          subst hr
          simp only [go_sem, Nat.reduceAdd, Nat.reduceMul, ↓reduceIte, reduceCtorEq, Nat.reduceLeDiff, Int.reduceToNat, Int.reduceLT, Int.reduceLE, Int.reduceEq, Int.reduceNe, Int.reduceBEq, Int.reduceBNe, not_false_eq_true, not_true_eq_false, hP, hc, hwi, ev0]
        | true =>
          obtain ⟨hp1, hp2⟩ := fromR_at hin R hr
          have hb2 := (cutM_le 32 rest).2
          simp only [go_sem, Nat.reduceAdd, Nat.reduceMul, ↓reduceIte, reduceCtorEq, Nat.reduceLeDiff, Int.reduceToNat, Int.reduceLT, Int.reduceLE, Int.reduceEq, Int.reduceNe, Int.reduceBEq, Int.reduceBNe, not_false_eq_true, not_true_eq_false, hP, hc, hwi]
          first | refine xw_call hE (ks := [0, 1, 2, 4, 5, 6, 7, 8, 9, 10, 11, 26, 32, 36, 55, 60]) (n := 2000) (by rw [hP]; exact rcut_c rest (by omega)) ?_ | refine xd_call hE (ks := [0, 1, 2, 4, 5, 6, 7, 8, 9, 10, 11, 26, 32, 36, 55, 60]) (n := 2000) (by rw [hP]; exact rcut_c rest (by omega)) ?_
          generalize cutM 32 rest = D at *
          simp only [go_sem, Nat.reduceAdd, Nat.reduceMul, ↓reduceIte, reduceCtorEq, Nat.reduceLeDiff, Int.reduceToNat, Int.reduceLT, Int.reduceLE, Int.reduceEq, Int.reduceNe, Int.reduceBEq, Int.reduceBNe, not_false_eq_true, not_true_eq_false, hP, hc, hwi]
          refine ⟨by omega, ?_⟩
          first | refine xw_call hE (ks := [0, 1, 2, 4, 5, 6, 7, 8, 9, 10, 11, 26, 32, 36, 55, 60]) (n := 2000) (by rw [hP]; exact rput_c (f.fields.getD i 0) e D.1) ?_ | refine xd_call hE (ks := [0, 1, 2, 4, 5, 6, 7, 8, 9, 10, 11, 26, 32, 36, 55, 60]) (n := 2000) (by rw [hP]; exact rput_c (f.fields.getD i 0) e D.1) ?_
          generalize putR (f.fields.getD i 0) e D.1 = G at *
          obtain ⟨e', ok⟩ := G
          cases ok with
          | false =>
            have := hp2 rfl
            subst this
            simp only [go_sem, Nat.reduceAdd, Nat.reduceMul, ↓reduceIte, reduceCtorEq, Nat.reduceLeDiff, Int.reduceToNat, Int.reduceLT, Int.reduceLE, Int.reduceEq, Int.reduceNe, Int.reduceBEq, Int.reduceBNe, not_false_eq_true, not_true_eq_false, hP, hwi]
            show okDraw _ _ = true
            kernel_rfl
          | true =>
            have hp1 := hp1 rfl
            simp only [go_sem, Nat.reduceAdd, Nat.reduceMul, ↓reduceIte, reduceCtorEq, Nat.reduceLeDiff, Int.reduceToNat, Int.reduceLT, Int.reduceLE, Int.reduceEq, Int.reduceNe, Int.reduceBEq, Int.reduceBNe, not_false_eq_true, not_true_eq_false, hP, hwi]
            refine ⟨by kernel_rfl, ⟨(i + 1, e', D.2.1, D.2.2), by simp only; omega, by simp only; omega, hp1⟩, by show f.fields.length - (i + 1) < f.fields.length - i; omega, subI rfl ?_ ?_ rfl rfl (Nat.le_refl _)⟩
            · simp only [go_sem, Nat.reduceAdd, Nat.reduceMul, ↓reduceIte, reduceCtorEq, Nat.reduceLeDiff, Int.reduceToNat, Int.reduceLT, Int.reduceLE, Int.reduceEq, Int.reduceNe, Int.reduceBEq, Int.reduceBNe, not_false_eq_true, not_true_eq_false]
            · simp only [go_sem, Nat.reduceAdd, Nat.reduceMul, ↓reduceIte, reduceCtorEq, Nat.reduceLeDiff, Int.reduceToNat, Int.reduceLT, Int.reduceLE, Int.reduceEq, Int.reduceNe, Int.reduceBEq, Int.reduceBNe, not_false_eq_true, not_true_eq_false]
      · obtain rfl : i = f.fields.length := by omega
        have hnc : ¬ ((f.fields.length : Int) < (f.fields.length : Int)) := by omega
        rw [List.drop_eq_nil_of_le (Nat.le_refl _), fromR] at hr
        simp only [go_sem, Nat.reduceAdd, Nat.reduceMul, ↓reduceIte, reduceCtorEq, Nat.reduceLeDiff, Int.reduceToNat, Int.reduceLT, Int.reduceLE, Int.reduceEq, Int.reduceNe, Int.reduceBEq, Int.reduceBNe, not_false_eq_true, not_true_eq_false, hP, hnc]
        by_cases hm : more = f.text
        · rw [if_pos hm] at hr
          subst hr
          rw [if_neg (by simp [hm])]
          simp only [go_sem, Nat.reduceAdd, Nat.reduceMul, ↓reduceIte, reduceCtorEq, Nat.reduceLeDiff, Int.reduceToNat, Int.reduceLT, Int.reduceLE, Int.reduceEq, Int.reduceNe, Int.reduceBEq, Int.reduceBNe, not_false_eq_true, not_true_eq_false]
        · rw [if_neg hm] at hr
          subst hr
          rw [if_pos hm]
          simp only [go_sem, Nat.reduceAdd, Nat.reduceMul, ↓reduceIte, reduceCtorEq, Nat.reduceLeDiff, Int.reduceToNat, Int.reduceLT, Int.reduceLE, Int.reduceEq, Int.reduceNe, Int.reduceBEq, Int.reduceBNe, not_false_eq_true, not_true_eq_false]
  · rw [if_neg hw] at hR
    subst hR
    simp only [go_sem, Nat.reduceAdd, Nat.reduceMul, ↓reduceIte, reduceCtorEq, Nat.reduceLeDiff, Int.reduceToNat, Int.reduceLT, Int.reduceLE, Int.reduceEq, Int.reduceNe, Int.reduceBEq, Int.reduceBNe, not_false_eq_true, not_true_eq_false, hP, hw, ev0]

def formRP (f : FormR) : List PV := [.v (.int .i64 f.kind), strP f.word, strP f.fields, .v (.bool f.text), .v (.int .i64 f.n)]
set_option maxHeartbeats 4000000 in
set_option maxRecDepth 20000 in
theorem forms_c : FPure Tryd.prog 30 [] (.p (.data 5 25 (formsR.flatMap formRP))) := by
  refine fpure_x hmix Tryd.func30 rfl (by kernel_rfl) Tryd.ntmps30 Tryd.results30 (by simp) (by simp [idsL, idsA]) [0] ?_; intro c hP h0 hE
  simp only [go_sem, Nat.reduceAdd, Nat.reduceMul, ↓reduceIte, reduceCtorEq, Nat.reduceLeDiff, Int.reduceToNat, Int.reduceLT, Int.reduceLE, Int.reduceEq, Int.reduceNe, Int.reduceBEq, Int.reduceBNe, not_false_eq_true, not_true_eq_false, hP, List.flatten_cons, List.flatten_nil]
  rfl

theorem flat_drop {α β : Type} (g : α → List β) (k : Nat) (hg : ∀ a, (g a).length = k) : ∀ (l : List α) (i : Nat) (d : α), i < l.length → (((l.flatMap g).drop (i * k)).take k) = g (l.getD i d)
  | [], i, d, h => by simp at h
  | a :: l, 0, d, h => by simp [List.flatMap_cons, hg a ▸ List.take_left]
  | a :: l, i + 1, d, h => by
    have e : (i + 1) * k = (g a).length + i * k := by rw [hg a, Nat.add_mul]; omega
    rw [List.flatMap_cons, e, ← List.drop_drop, List.drop_left, flat_drop g k hg l i d (by simpa using h)]
    simp
theorem flat_len {α β : Type} (g : α → List β) (k : Nat) (hg : ∀ a, (g a).length = k) (l : List α) : (l.flatMap g).length = l.length * k := by
  induction l with
  | nil => simp
  | cons a l ih => rw [List.flatMap_cons, List.length_append, ih, hg a, List.length_cons, Nat.succ_mul]; omega
def fr0 : FormR := ⟨0, [], [], false, 0⟩

set_option maxHeartbeats 4000000 in
theorem event_c (line : List UInt8) (hl : line.length < 1000000000) : ∃ e' ok, FPure Tryd.prog 22 [sv line] (.tup [evA e', .b ok]) ∧ lineM line = if ok = true then some e' else none := by
  rw [← event_law]
  refine ⟨((eventFrom line formsR).getD ev0), (eventFrom line formsR).isSome, ?_, by cases eventFrom line formsR <;> rfl⟩
  refine fpure_x hmix Tryd.func22 rfl (by kernel_rfl) Tryd.ntmps22 Tryd.results22 (by simp) (by simp [idsL, idsA]) [0, 2, 3, 4, 5, 6, 7, 12, 24] ?_; intro c hP h0 hE
  simp only [go_sem, Nat.reduceAdd, Nat.reduceMul, ↓reduceIte, reduceCtorEq, Nat.reduceLeDiff, Int.reduceToNat, Int.reduceLT, Int.reduceLE, Int.reduceEq, Int.reduceNe, Int.reduceBEq, Int.reduceBNe, not_false_eq_true, not_true_eq_false, hP]
  first | refine xw_call hE (ks := [0, 2, 3, 4, 5, 6, 7, 12, 24]) (n := 2000) (by rw [hP]; exact forms_c) ?_ | refine xd_call hE (ks := [0, 2, 3, 4, 5, 6, 7, 12, 24]) (n := 2000) (by rw [hP]; exact forms_c) ?_
  generalize hR : eventFrom line formsR = R at *
  simp only [go_sem, Nat.reduceAdd, Nat.reduceMul, ↓reduceIte, reduceCtorEq, Nat.reduceLeDiff, Int.reduceToNat, Int.reduceLT, Int.reduceLE, Int.reduceEq, Int.reduceNe, Int.reduceBEq, Int.reduceBNe, not_false_eq_true, not_true_eq_false, hP]
  refine xw_loop hE h0 [0, 2, 3, 4, 5, 6, 7, 12, 24] (α := { i : Nat // i ≤ 25 ∧ eventFrom line (formsR.drop i) = R }) (fun i => ⟨27, [(0, sv line), (2, .ptr 0 0), (4, .p (.data 5 25 (formsR.flatMap formRP))), (5, .i i.1)], [(0, some ⟨evT, evC ev0⟩)], 1⟩) (fun i => 25 - i.1) ⟨0, by omega, hR⟩ [] (fun i => i) ?_ ?_
  · refine ⟨rfl, ?_, ?_, rfl, rfl, trivial, fun i h => h⟩
    · simp only [go_sem, Nat.reduceAdd, Nat.reduceMul, ↓reduceIte, reduceCtorEq, Nat.reduceLeDiff, Int.reduceToNat, Int.reduceLT, Int.reduceLE, Int.reduceEq, Int.reduceNe, Int.reduceBEq, Int.reduceBNe, not_false_eq_true, not_true_eq_false]
    · simp only [go_sem, Nat.reduceAdd, Nat.reduceMul, ↓reduceIte, reduceCtorEq, Nat.reduceLeDiff, Int.reduceToNat, Int.reduceLT, Int.reduceLE, Int.reduceEq, Int.reduceNe, Int.reduceBEq, Int.reduceBNe, not_false_eq_true, not_true_eq_false]
  · rintro ⟨i, hi, hr⟩
    rcases Nat.lt_or_ge i 25 with hin | hin
    · have hc : ((i : Int) < 25) := by omega
      have hw := w_succ (i := i) (by omega)
      have hat := flat_drop formRP 5 (fun _ => rfl) formsR i fr0 hin
      have hfl : (formsR.flatMap formRP).length = 125 := by rw [flat_len formRP 5 (fun _ => rfl)]; rfl
      have hff : (formsR.getD i fr0).fields.length < 1000 := by
        have ha : ∀ f, f ∈ formsR → f.fields.length < 1000 := by decide
        refine ha _ ?_
        have := getD_at (d := fr0) (s := formsR) (i := i) hin
        exact List.mem_of_getElem? this
      rw [drop_at (d := fr0) hin, eventFrom] at hr
      generalize formsR.getD i fr0 = f at *
      simp only [go_sem, Nat.reduceAdd, Nat.reduceMul, ↓reduceIte, reduceCtorEq, Nat.reduceLeDiff, Int.reduceToNat, Int.reduceLT, Int.reduceLE, Int.reduceEq, Int.reduceNe, Int.reduceBEq, Int.reduceBNe, not_false_eq_true, not_true_eq_false, hP, hc, hw, hat, hfl, formRP, strP]
      refine ⟨by omega, by omega, ?_⟩
      first | refine xw_call hE (ks := [0, 2, 3, 4, 5, 6, 7, 12, 24]) (n := 2000) (by rw [hP]; exact fits_c f line hl hff) ?_ | refine xd_call hE (ks := [0, 2, 3, 4, 5, 6, 7, 12, 24]) (n := 2000) (by rw [hP]; exact fits_c f line hl hff) ?_
      generalize fitsR f line = G at *
      obtain ⟨e', ok⟩ := G
      cases ok with
      | true =>
        simp only [↓reduceIte] at hr
        subst hr
        simp only [go_sem, Nat.reduceAdd, Nat.reduceMul, ↓reduceIte, reduceCtorEq, Nat.reduceLeDiff, Int.reduceToNat, Int.reduceLT, Int.reduceLE, Int.reduceEq, Int.reduceNe, Int.reduceBEq, Int.reduceBNe, not_false_eq_true, not_true_eq_false, hP, hw, Option.getD_some, Option.isSome_some]
      | false =>
        simp only [Bool.false_eq_true, ↓reduceIte] at hr
        simp only [go_sem, Nat.reduceAdd, Nat.reduceMul, ↓reduceIte, reduceCtorEq, Nat.reduceLeDiff, Int.reduceToNat, Int.reduceLT, Int.reduceLE, Int.reduceEq, Int.reduceNe, Int.reduceBEq, Int.reduceBNe, not_false_eq_true, not_true_eq_false, hP, hw]
        refine ⟨⟨i + 1, by omega, hr⟩, by show 25 - (i + 1) < 25 - i; omega, subG [0] rfl ?_ ?_ rfl rfl (Nat.le_refl _)⟩
        · simp only [go_sem, Nat.reduceAdd, Nat.reduceMul, ↓reduceIte, reduceCtorEq, Nat.reduceLeDiff, Int.reduceToNat, Int.reduceLT, Int.reduceLE, Int.reduceEq, Int.reduceNe, Int.reduceBEq, Int.reduceBNe, not_false_eq_true, not_true_eq_false]
        · simp only [go_sem, Nat.reduceAdd, Nat.reduceMul, ↓reduceIte, reduceCtorEq, Nat.reduceLeDiff, Int.reduceToNat, Int.reduceLT, Int.reduceLE, Int.reduceEq, Int.reduceNe, Int.reduceBEq, Int.reduceBNe, not_false_eq_true, not_true_eq_false]
    · obtain rfl : i = 25 := by omega
      have : R = none := hr.symm
      subst this
      simp only [go_sem, Nat.reduceAdd, Nat.reduceMul, ↓reduceIte, reduceCtorEq, Nat.reduceLeDiff, Int.reduceToNat, Int.reduceLT, Int.reduceLE, Int.reduceEq, Int.reduceNe, Int.reduceBEq, Int.reduceBNe, not_false_eq_true, not_true_eq_false, hP, Option.getD_none, Option.isSome_none]

end Go.Proofs.YthdhbdjhjfflnaaDoor

/-
  The contract of formatLine at simple events. Own work; no statement of the seat is proved here.
-/
import Derived.Test.YthdhbdjhjfflnaaDoorSl1
namespace Go.Proofs.YthdhbdjhjfflnaaDoor
set_option linter.unusedSimpArgs false
set_option linter.unusedVariables false
open Go Go.Abs Go.RowKit

/-- the word of a field, where it is simple -/
def takeF (l : UInt8) (e : Ev) : Option (List UInt8 × Ev) :=
  if l = 78 then (if 0 ≤ e.n ∧ e.n < 10 then some ([digS.getD e.n.toNat 0], { e with n := 0 }) else none)
  else if l = 87 then (if 0 ≤ e.who ∧ e.who < 10 then some ([digS.getD e.who.toNat 0], { e with who := 0 }) else none)
  else if l = 67 then (if e.n = 3 then some (callsM.getD 2 [], { e with n := 0 }) else none)
  else if l = 77 then (if e.b = -1 then some ([45], { e with b := 0 }) else none)
  else if l = 88 then (if (10 : UInt8) ∉ e.text then some (e.text, { e with text := [] }) else none)
  else none
theorem take_c {l : UInt8} {e e' : Ev} {w : List UInt8} (h : takeF l e = some (w, e')) : Con Tryd.prog 27 [.ptr 0 0, .p (.v (.int .u8 (l.toNat : Int)))] [(0, some ⟨evT, evC e⟩)] (.tup [sv w, .b true]) [(0, some ⟨evT, evC e'⟩)] := by
  unfold takeF at h
  repeat' split at h
  all_goals first | (cases h; done) | skip
  all_goals simp only [Option.some.injEq, Prod.mk.injEq] at h; obtain ⟨rfl, rfl⟩ := h; rename_i hl hc; subst hl
  · exact takeN_c e e.n.toNat (by omega) (by omega)
  · exact takeW_c e e.who.toNat (by omega) (by omega)
  · exact takeC_c e hc
  · exact takeM_c e hc
  · exact takeX_c e hc

theorem takeF_len {l : UInt8} {e e' : Ev} {w : List UInt8} (h : takeF l e = some (w, e')) : w.length ≤ e.text.length + 100 ∧ e'.text.length ≤ e.text.length := by
  unfold takeF at h
  repeat' split at h
  all_goals first | (cases h; done) | skip
  all_goals simp only [Option.some.injEq, Prod.mk.injEq] at h; obtain ⟨rfl, rfl⟩ := h
  all_goals simp [callsM]
def fmtF : List UInt8 → Ev → List UInt8 → Option (List UInt8 × Ev)
  | [], e, line => some (line, e)
  | l :: fs, e, line => match takeF l e with
    | some (w, e') => fmtF fs e' (line ++ 32 :: w)
    | none => none

def matchF (f : FormP) (e : Ev) : Prop := f.kind = e.kind ∧ (f.n = 0 ∨ f.n = e.n)
def startE (f : FormP) (e : Ev) : Ev := if f.n = 0 then e else { e with n := 0 }

set_option maxHeartbeats 8000000 in
set_option maxRecDepth 20000 in
theorem fmtLine_c (e : Ev) (j : Nat) (line : List UInt8) (hj : j < 25) (htx : e.text.length < 1000) (hno : ∀ i, i < j → ¬ matchF (formsP.getD i fp0) e) (hm : matchF (formsP.getD j fp0) e)
    (hf : fmtF (formsP.getD j fp0).fields (startE (formsP.getD j fp0) e) (formsP.getD j fp0).verb = some (line, ⟨e.kind, 0, 0, 0, 0, []⟩)) :
    FPure Tryd.prog 17 [evA e] (.tup [sv line, .b true]) := by
  have hid := idsL_ev [] e
  refine fpure_x hmix Tryd.func17 rfl (by kernel_rfl) Tryd.ntmps17 Tryd.results17 (by simp) (by simp [idsL, idsA, *]) [0, 1, 2, 3, 5, 6, 7, 8, 9, 10, 11, 12, 30, 35, 39, 40, 41, 52] ?_; intro c hP h0 hE
  clear hid
  simp only [go_sem, Nat.reduceAdd, Nat.reduceMul, ↓reduceIte, reduceCtorEq, Nat.reduceLeDiff, Int.reduceToNat, Int.reduceLT, Int.reduceLE, Int.reduceEq, Int.reduceNe, Int.reduceBEq, Int.reduceBNe, not_false_eq_true, not_true_eq_false, hP, formsV_eq, formsV_len]
  refine xw_loop hE h0 [0, 1, 2, 3, 5, 6, 7, 8, 9, 10, 11, 12, 30, 35, 39, 40, 41, 52] (α := { i : Nat // i ≤ j }) (fun i => ⟨62, [(1, .ptr 0 0), (10, .agg formsA), (11, .i i.1)], [(0, some ⟨evT, evC e⟩)], 1⟩) (fun i => j - i.1) ⟨0, Nat.zero_le _⟩ [] (fun i => i) ?_ ?_
  · refine ⟨rfl, ?_, ?_, rfl, rfl, trivial, fun i h => h⟩
    · simp only [go_sem, Nat.reduceAdd, Nat.reduceMul, ↓reduceIte, reduceCtorEq, Nat.reduceLeDiff, Int.reduceToNat, Int.reduceLT, Int.reduceLE, Int.reduceEq, Int.reduceNe, Int.reduceBEq, Int.reduceBNe, not_false_eq_true, not_true_eq_false, formsA_view]
    · simp only [go_sem, Nat.reduceAdd, Nat.reduceMul, ↓reduceIte, reduceCtorEq, Nat.reduceLeDiff, Int.reduceToNat, Int.reduceLT, Int.reduceLE, Int.reduceEq, Int.reduceNe, Int.reduceBEq, Int.reduceBNe, not_false_eq_true, not_true_eq_false]
  · rintro ⟨i, hi⟩
    have hin : i < 25 := by omega
    have hc : ((i : Int) < 25) := by omega
    have hw := w_succ (i := i) (by omega)
    have hat := flat_drop formPC 4 (fun _ => rfl) formsP i fp0 hin
    rw [show formsP.flatMap formPC = formsA from rfl] at hat
    rcases Nat.lt_or_ge i j with hlt | hge
    · have hn := hno i hlt
      generalize formsP.getD i fp0 = f at *
      unfold matchF at hn
      by_cases h1 : f.kind = e.kind
      · have h2 : ¬ f.n = 0 := fun x => hn ⟨h1, .inl x⟩
        have h3 : ¬ f.n = e.n := fun x => hn ⟨h1, .inr x⟩
        simp only [go_sem, Nat.reduceAdd, Nat.reduceMul, ↓reduceIte, reduceCtorEq, Nat.reduceLeDiff, Int.reduceToNat, Int.reduceLT, Int.reduceLE, Int.reduceEq, Int.reduceNe, Int.reduceBEq, Int.reduceBNe, not_false_eq_true, not_true_eq_false, hP, hc, hw, hat, formsA_len, formPC, h1, h2, h3]
        refine ⟨⟨by omega, by omega⟩, ⟨i + 1, by omega⟩, by show j - (i + 1) < j - i; omega, subG [0] rfl ?_ ?_ rfl rfl (Nat.le_refl _)⟩
        · simp only [go_sem, Nat.reduceAdd, Nat.reduceMul, ↓reduceIte, reduceCtorEq, Nat.reduceLeDiff, Int.reduceToNat, Int.reduceLT, Int.reduceLE, Int.reduceEq, Int.reduceNe, Int.reduceBEq, Int.reduceBNe, not_false_eq_true, not_true_eq_false, formsA_view]
        · simp only [go_sem, Nat.reduceAdd, Nat.reduceMul, ↓reduceIte, reduceCtorEq, Nat.reduceLeDiff, Int.reduceToNat, Int.reduceLT, Int.reduceLE, Int.reduceEq, Int.reduceNe, Int.reduceBEq, Int.reduceBNe, not_false_eq_true, not_true_eq_false]
      · simp only [go_sem, Nat.reduceAdd, Nat.reduceMul, ↓reduceIte, reduceCtorEq, Nat.reduceLeDiff, Int.reduceToNat, Int.reduceLT, Int.reduceLE, Int.reduceEq, Int.reduceNe, Int.reduceBEq, Int.reduceBNe, not_false_eq_true, not_true_eq_false, hP, hc, hw, hat, formsA_len, formPC, h1]
        refine ⟨⟨by omega, by omega⟩, ⟨i + 1, by omega⟩, by show j - (i + 1) < j - i; omega, subG [0] rfl ?_ ?_ rfl rfl (Nat.le_refl _)⟩
        · simp only [go_sem, Nat.reduceAdd, Nat.reduceMul, ↓reduceIte, reduceCtorEq, Nat.reduceLeDiff, Int.reduceToNat, Int.reduceLT, Int.reduceLE, Int.reduceEq, Int.reduceNe, Int.reduceBEq, Int.reduceBNe, not_false_eq_true, not_true_eq_false, formsA_view]
        · simp only [go_sem, Nat.reduceAdd, Nat.reduceMul, ↓reduceIte, reduceCtorEq, Nat.reduceLeDiff, Int.reduceToNat, Int.reduceLT, Int.reduceLE, Int.reduceEq, Int.reduceNe, Int.reduceBEq, Int.reduceBNe, not_false_eq_true, not_true_eq_false]
    · obtain rfl : i = j := by omega
      have hff : (formsP.getD i fp0).fields.length < 1000 ∧ (formsP.getD i fp0).verb.length < 1000 := by
        have ha : ∀ f, f ∈ formsP → f.fields.length < 1000 ∧ f.verb.length < 1000 := by decide
        refine ha _ ?_
        have := getD_at (d := fp0) (s := formsP) (i := i) hin
        exact List.mem_of_getElem? this
      generalize formsP.getD i fp0 = f at *
      obtain ⟨hk, hn⟩ := hm
      have inner : ∀ e1 : Ev, startE f e = e1 → True := fun _ _ => trivial
      by_cases h0' : f.n = 0
      · have hs : startE f e = e := by unfold startE; rw [if_pos h0']
        rw [hs] at hf
        simp only [go_sem, Nat.reduceAdd, Nat.reduceMul, ↓reduceIte, reduceCtorEq, Nat.reduceLeDiff, Int.reduceToNat, Int.reduceLT, Int.reduceLE, Int.reduceEq, Int.reduceNe, Int.reduceBEq, Int.reduceBNe, not_false_eq_true, not_true_eq_false, hP, hc, hw, hat, formsA_len, formPC, hk, h0']
        refine ⟨⟨by omega, by omega⟩, ?_⟩
        refine xw_loop hE h0 [0, 1, 2, 3, 5, 6, 7, 8, 9, 10, 11, 12, 30, 35, 39, 40, 41, 52] (α := { p : Nat × Ev × List UInt8 // p.1 ≤ f.fields.length ∧ p.2.2.length ≤ 1000 + 100000000 * p.1 ∧ p.2.1.text.length ≤ e.text.length ∧ fmtF (f.fields.drop p.1) p.2.1 p.2.2 = some (line, ⟨e.kind, 0, 0, 0, 0, []⟩) }) (fun p => ⟨62, [(1, .ptr 0 0), (5, .ptr 1 0), (6, sv p.1.2.2), (39, .i f.fields.length), (40, .i p.1.1)], [(0, some ⟨evT, evC p.1.2.1⟩), (1, some ⟨fpT, [sv f.verb, .i e.kind, .i 0, sv f.fields]⟩)], 2⟩) (fun p => f.fields.length - p.1.1) ⟨(0, e, f.verb), Nat.zero_le _, by simp only; omega, by simp, hf⟩ [] (fun i => i) ?_ ?_
        · refine ⟨rfl, ?_, ?_, rfl, rfl, trivial, fun i h => h⟩
          · simp only [go_sem, Nat.reduceAdd, Nat.reduceMul, ↓reduceIte, reduceCtorEq, Nat.reduceLeDiff, Int.reduceToNat, Int.reduceLT, Int.reduceLE, Int.reduceEq, Int.reduceNe, Int.reduceBEq, Int.reduceBNe, not_false_eq_true, not_true_eq_false]
          · simp only [go_sem, Nat.reduceAdd, Nat.reduceMul, ↓reduceIte, reduceCtorEq, Nat.reduceLeDiff, Int.reduceToNat, Int.reduceLT, Int.reduceLE, Int.reduceEq, Int.reduceNe, Int.reduceBEq, Int.reduceBNe, not_false_eq_true, not_true_eq_false]
        · rintro ⟨⟨m, e1, ln⟩, hm1, hm2, hm3, hr⟩
          simp only at hm1 hm2 hm3 hr
          rcases Nat.lt_or_ge m f.fields.length with hml | hml
          · have hcm : ((m : Int) < (f.fields.length : Int)) := by omega
            have hwm := w_succ (i := m) (by omega)
            rw [drop_at (d := 0) hml, fmtF] at hr
            cases htk : takeF (f.fields.getD m 0) e1 with
            | none => rw [htk] at hr; cases hr
            | some we =>
              obtain ⟨w, e2⟩ := we
              rw [htk] at hr
              simp only at hr
              obtain ⟨hwl, htl⟩ := takeF_len htk
              simp only [go_sem, Nat.reduceAdd, Nat.reduceMul, ↓reduceIte, reduceCtorEq, Nat.reduceLeDiff, Int.reduceToNat, Int.reduceLT, Int.reduceLE, Int.reduceEq, Int.reduceNe, Int.reduceBEq, Int.reduceBNe, not_false_eq_true, not_true_eq_false, hP, hcm, hwm]
              refine ⟨by omega, ?_⟩
              refine xw_con hE (ks := [0, 1, 2, 3, 5, 6, 7, 8, 9, 10, 11, 12, 30, 35, 39, 40, 41, 52]) (n := 2000) [] (fun i => i) 2 (by rw [hP]; exact take_c htk) ⟨by simp only [go_sem, Nat.reduceAdd, Nat.reduceMul, ↓reduceIte, reduceCtorEq, Nat.reduceLeDiff, Int.reduceToNat, Int.reduceLT, Int.reduceLE, Int.reduceEq, Int.reduceNe, Int.reduceBEq, Int.reduceBNe, not_false_eq_true, not_true_eq_false], by simp only [go_sem, Nat.reduceAdd, Nat.reduceMul, ↓reduceIte, reduceCtorEq, Nat.reduceLeDiff, Int.reduceToNat, Int.reduceLT, Int.reduceLE, Int.reduceEq, Int.reduceNe, Int.reduceBEq, Int.reduceBNe, not_false_eq_true, not_true_eq_false], rfl, trivial, Nat.le_of_ble_eq_true rfl, fun i hi => .inl (by simp [keys] at hi; simp [liveK, hi]), by simp [idsA, idsL], by simp only [idsH]; exact ⟨idsL_ev _ _, trivial⟩, rfl⟩ ?_
              simp only [go_sem, Nat.reduceAdd, Nat.reduceMul, ↓reduceIte, reduceCtorEq, Nat.reduceLeDiff, Int.reduceToNat, Int.reduceLT, Int.reduceLE, Int.reduceEq, Int.reduceNe, Int.reduceBEq, Int.reduceBNe, not_false_eq_true, not_true_eq_false, hP, hwm]
              refine ⟨by omega, by omega, ⟨(m + 1, e2, ln ++ 32 :: w), by simp only; omega, by simp only [List.length_append, List.length_cons]; omega, by simp only; omega, hr⟩, by show f.fields.length - (m + 1) < f.fields.length - m; omega, subI rfl ?_ ?_ rfl rfl (Nat.le_refl _)⟩
              · simp only [go_sem, Nat.reduceAdd, Nat.reduceMul, ↓reduceIte, reduceCtorEq, Nat.reduceLeDiff, Int.reduceToNat, Int.reduceLT, Int.reduceLE, Int.reduceEq, Int.reduceNe, Int.reduceBEq, Int.reduceBNe, not_false_eq_true, not_true_eq_false]
              · simp only [go_sem, Nat.reduceAdd, Nat.reduceMul, ↓reduceIte, reduceCtorEq, Nat.reduceLeDiff, Int.reduceToNat, Int.reduceLT, Int.reduceLE, Int.reduceEq, Int.reduceNe, Int.reduceBEq, Int.reduceBNe, not_false_eq_true, not_true_eq_false]
          · obtain rfl : m = f.fields.length := by omega
            have hnc : ¬ ((f.fields.length : Int) < (f.fields.length : Int)) := by omega
            rw [List.drop_eq_nil_of_le (Nat.le_refl _), fmtF] at hr
            simp only [Option.some.injEq, Prod.mk.injEq] at hr
            obtain ⟨rfl, rfl⟩ := hr
            simp only [go_sem, Nat.reduceAdd, Nat.reduceMul, ↓reduceIte, reduceCtorEq, Nat.reduceLeDiff, Int.reduceToNat, Int.reduceLT, Int.reduceLE, Int.reduceEq, Int.reduceNe, Int.reduceBEq, Int.reduceBNe, not_false_eq_true, not_true_eq_false, hP, hnc]
            first | refine xw_call hE (ks := [0, 1, 2, 3, 5, 6, 7, 8, 9, 10, 11, 12, 30, 35, 39, 40, 41, 52]) (n := 2000) (by rw [hP]; exact blank_c e.kind) ?_ | refine xd_call hE (ks := [0, 1, 2, 3, 5, 6, 7, 8, 9, 10, 11, 12, 30, 35, 39, 40, 41, 52]) (n := 2000) (by rw [hP]; exact blank_c e.kind) ?_
            simp only [go_sem, Nat.reduceAdd, Nat.reduceMul, ↓reduceIte, reduceCtorEq, Nat.reduceLeDiff, Int.reduceToNat, Int.reduceLT, Int.reduceLE, Int.reduceEq, Int.reduceNe, Int.reduceBEq, Int.reduceBNe, not_false_eq_true, not_true_eq_false, hP]
      · have h3 : f.n = e.n := hn.resolve_left h0'
        have hs : startE f e = { e with n := 0 } := by unfold startE; rw [if_neg h0']
        rw [hs] at hf
        have h4 : ¬ e.n = 0 := fun x => h0' (h3.trans x)
        simp only [go_sem, Nat.reduceAdd, Nat.reduceMul, ↓reduceIte, reduceCtorEq, Nat.reduceLeDiff, Int.reduceToNat, Int.reduceLT, Int.reduceLE, Int.reduceEq, Int.reduceNe, Int.reduceBEq, Int.reduceBNe, not_false_eq_true, not_true_eq_false, hP, hc, hw, hat, formsA_len, formPC, hk, h3, h4]
        refine ⟨⟨by omega, by omega⟩, ?_⟩
        refine xw_loop hE h0 [0, 1, 2, 3, 5, 6, 7, 8, 9, 10, 11, 12, 30, 35, 39, 40, 41, 52] (α := { p : Nat × Ev × List UInt8 // p.1 ≤ f.fields.length ∧ p.2.2.length ≤ 1000 + 100000000 * p.1 ∧ p.2.1.text.length ≤ e.text.length ∧ fmtF (f.fields.drop p.1) p.2.1 p.2.2 = some (line, ⟨e.kind, 0, 0, 0, 0, []⟩) }) (fun p => ⟨62, [(1, .ptr 0 0), (5, .ptr 1 0), (6, sv p.1.2.2), (39, .i f.fields.length), (40, .i p.1.1)], [(0, some ⟨evT, evC p.1.2.1⟩), (1, some ⟨fpT, [sv f.verb, .i e.kind, .i e.n, sv f.fields]⟩)], 2⟩) (fun p => f.fields.length - p.1.1) ⟨(0, { e with n := 0 }, f.verb), Nat.zero_le _, by simp only; omega, by simp, hf⟩ [] (fun i => i) ?_ ?_
        · refine ⟨rfl, ?_, ?_, rfl, rfl, trivial, fun i h => h⟩
          · simp only [go_sem, Nat.reduceAdd, Nat.reduceMul, ↓reduceIte, reduceCtorEq, Nat.reduceLeDiff, Int.reduceToNat, Int.reduceLT, Int.reduceLE, Int.reduceEq, Int.reduceNe, Int.reduceBEq, Int.reduceBNe, not_false_eq_true, not_true_eq_false]
          · simp only [go_sem, Nat.reduceAdd, Nat.reduceMul, ↓reduceIte, reduceCtorEq, Nat.reduceLeDiff, Int.reduceToNat, Int.reduceLT, Int.reduceLE, Int.reduceEq, Int.reduceNe, Int.reduceBEq, Int.reduceBNe, not_false_eq_true, not_true_eq_false]
        · rintro ⟨⟨m, e1, ln⟩, hm1, hm2, hm3, hr⟩
          simp only at hm1 hm2 hm3 hr
          rcases Nat.lt_or_ge m f.fields.length with hml | hml
          · have hcm : ((m : Int) < (f.fields.length : Int)) := by omega
            have hwm := w_succ (i := m) (by omega)
            rw [drop_at (d := 0) hml, fmtF] at hr
            cases htk : takeF (f.fields.getD m 0) e1 with
            | none => rw [htk] at hr; cases hr
            | some we =>
              obtain ⟨w, e2⟩ := we
              rw [htk] at hr
              simp only at hr
              obtain ⟨hwl, htl⟩ := takeF_len htk
              simp only [go_sem, Nat.reduceAdd, Nat.reduceMul, ↓reduceIte, reduceCtorEq, Nat.reduceLeDiff, Int.reduceToNat, Int.reduceLT, Int.reduceLE, Int.reduceEq, Int.reduceNe, Int.reduceBEq, Int.reduceBNe, not_false_eq_true, not_true_eq_false, hP, hcm, hwm]
              refine ⟨by omega, ?_⟩
              refine xw_con hE (ks := [0, 1, 2, 3, 5, 6, 7, 8, 9, 10, 11, 12, 30, 35, 39, 40, 41, 52]) (n := 2000) [] (fun i => i) 2 (by rw [hP]; exact take_c htk) ⟨by simp only [go_sem, Nat.reduceAdd, Nat.reduceMul, ↓reduceIte, reduceCtorEq, Nat.reduceLeDiff, Int.reduceToNat, Int.reduceLT, Int.reduceLE, Int.reduceEq, Int.reduceNe, Int.reduceBEq, Int.reduceBNe, not_false_eq_true, not_true_eq_false], by simp only [go_sem, Nat.reduceAdd, Nat.reduceMul, ↓reduceIte, reduceCtorEq, Nat.reduceLeDiff, Int.reduceToNat, Int.reduceLT, Int.reduceLE, Int.reduceEq, Int.reduceNe, Int.reduceBEq, Int.reduceBNe, not_false_eq_true, not_true_eq_false], rfl, trivial, Nat.le_of_ble_eq_true rfl, fun i hi => .inl (by simp [keys] at hi; simp [liveK, hi]), by simp [idsA, idsL], by simp only [idsH]; exact ⟨idsL_ev _ _, trivial⟩, rfl⟩ ?_
              simp only [go_sem, Nat.reduceAdd, Nat.reduceMul, ↓reduceIte, reduceCtorEq, Nat.reduceLeDiff, Int.reduceToNat, Int.reduceLT, Int.reduceLE, Int.reduceEq, Int.reduceNe, Int.reduceBEq, Int.reduceBNe, not_false_eq_true, not_true_eq_false, hP, hwm]
              refine ⟨by omega, by omega, ⟨(m + 1, e2, ln ++ 32 :: w), by simp only; omega, by simp only [List.length_append, List.length_cons]; omega, by simp only; omega, hr⟩, by show f.fields.length - (m + 1) < f.fields.length - m; omega, subI rfl ?_ ?_ rfl rfl (Nat.le_refl _)⟩
              · simp only [go_sem, Nat.reduceAdd, Nat.reduceMul, ↓reduceIte, reduceCtorEq, Nat.reduceLeDiff, Int.reduceToNat, Int.reduceLT, Int.reduceLE, Int.reduceEq, Int.reduceNe, Int.reduceBEq, Int.reduceBNe, not_false_eq_true, not_true_eq_false]
              · simp only [go_sem, Nat.reduceAdd, Nat.reduceMul, ↓reduceIte, reduceCtorEq, Nat.reduceLeDiff, Int.reduceToNat, Int.reduceLT, Int.reduceLE, Int.reduceEq, Int.reduceNe, Int.reduceBEq, Int.reduceBNe, not_false_eq_true, not_true_eq_false]
          · obtain rfl : m = f.fields.length := by omega
            have hnc : ¬ ((f.fields.length : Int) < (f.fields.length : Int)) := by omega
            rw [List.drop_eq_nil_of_le (Nat.le_refl _), fmtF] at hr
            simp only [Option.some.injEq, Prod.mk.injEq] at hr
            obtain ⟨rfl, rfl⟩ := hr
            simp only [go_sem, Nat.reduceAdd, Nat.reduceMul, ↓reduceIte, reduceCtorEq, Nat.reduceLeDiff, Int.reduceToNat, Int.reduceLT, Int.reduceLE, Int.reduceEq, Int.reduceNe, Int.reduceBEq, Int.reduceBNe, not_false_eq_true, not_true_eq_false, hP, hnc]
            first | refine xw_call hE (ks := [0, 1, 2, 3, 5, 6, 7, 8, 9, 10, 11, 12, 30, 35, 39, 40, 41, 52]) (n := 2000) (by rw [hP]; exact blank_c e.kind) ?_ | refine xd_call hE (ks := [0, 1, 2, 3, 5, 6, 7, 8, 9, 10, 11, 12, 30, 35, 39, 40, 41, 52]) (n := 2000) (by rw [hP]; exact blank_c e.kind) ?_
            simp only [go_sem, Nat.reduceAdd, Nat.reduceMul, ↓reduceIte, reduceCtorEq, Nat.reduceLeDiff, Int.reduceToNat, Int.reduceLT, Int.reduceLE, Int.reduceEq, Int.reduceNe, Int.reduceBEq, Int.reduceBNe, not_false_eq_true, not_true_eq_false, hP]

end Go.Proofs.YthdhbdjhjfflnaaDoor

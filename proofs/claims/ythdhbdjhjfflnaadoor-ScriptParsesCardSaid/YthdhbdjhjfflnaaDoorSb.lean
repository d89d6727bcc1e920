/-
  Contracts of the library's cut at one byte, and of the reference's. Own work; no statement of the seat is proved here.
-/
import Derived.Test.YthdhbdjhjfflnaaDoorSa
import Derived.Test.YthdhbdjhjfflnaaDoorSet
import Derived.Lib.Bytealg
namespace Go.Abs
set_option linter.unusedSimpArgs false
set_option linter.unusedVariables false
open Go Go.RowKit
theorem fpure_ext {P : Program} {f : FuncId} {fn : Func} {e : Array Value → Sem Value} {vs : List AV} {v : AV} (hf : P.funcs[f]? = some fn) (hname : (fn.name == "runtime.NumGoroutine") = false) (hb : fn.body.isNone = true) (hn : Extern.findNext fn = none) (he : Extern.find fn = some e)
    (h : ∀ (ρ : IdMap) (F : FSet) (us : Array Value) (w : World), us.size = vs.length → (∀ j c, vs[j]? = some c → Rd ρ F w c (us.getD j undef)) → ∃ x, (e us).run P w = .ok x w ∧ Rd ρ F w v x) : FPure P f vs v := by
  intro hh
  refine ⟨fun ρ F us w hpre hz hr => ?_⟩
  obtain ⟨x, hx, hv⟩ := h ρ F us w hz hr
  refine .inr ⟨x, w, by rw [run_callFunc_extern hf hname hb hn he, hx]; rfl, ρ, F, ⟨fun _ _ h => h, fun i h1 h2 => absurd h1 h2, fun i b h1 h2 => (by rw [h1] at h2; cases h2), hv, ?_, hpre.fok, Chg.refl _ _ _⟩⟩
  have : restr ([] ++ keys []) (updH [] hh) = restr [] hh := by funext i; simp [restr, keys, updH]
  rw [this]
  exact hpre.hp
end Go.Abs
namespace Go.Proofs.YthdhbdjhjfflnaaDoor
set_option linter.unusedSimpArgs false
set_option linter.unusedVariables false
open Go Go.Abs Go.RowKit

/-- a string as its bytes -/
abbrev sv (l : List UInt8) : AV := .p (.v (.string ⟨l.toArray⟩))
theorem sz_of (l : List UInt8) : (⟨l.toArray⟩ : ByteArray).size = l.length := by simp [ByteArray.size]
theorem toL_of (l : List UInt8) : (⟨l.toArray⟩ : ByteArray).toList = l := by rw [ByteArray.toList_eq]
theorem ext_of (l : List UInt8) (a b : Nat) : (⟨l.toArray⟩ : ByteArray).extract a b = ⟨((l.take b).drop a).toArray⟩ := by
  apply ByteArray.ext
  rw [ByteArray.data_extract]
  apply Array.ext'
  simp [List.drop_take]
theorem app_of (a b : List UInt8) : (⟨a.toArray⟩ : ByteArray) ++ ⟨b.toArray⟩ = ⟨(a ++ b).toArray⟩ := by
  apply ByteArray.ext
  rw [ByteArray.data_append]
  simp
theorem yq (x y : UInt8) {n : Int} (h : (y.toNat : Int) = n) : ((x.toNat : Int) = n) = (x = y) := by
  subst h
  simp only [eq_iff_iff]
  exact ⟨fun e => UInt8.toNat_inj.1 (by omega), fun e => by rw [e]⟩
theorem y10 (x : UInt8) : ((x.toNat : Int) = 10) = (x = 10) := yq x 10 rfl
theorem y32 (x : UInt8) : ((x.toNat : Int) = 32) = (x = 32) := yq x 32 rfl
theorem y35 (x : UInt8) : ((x.toNat : Int) = 35) = (x = 35) := yq x 35 rfl
theorem y45 (x : UInt8) : ((x.toNat : Int) = 45) = (x = 45) := yq x 45 rfl
theorem y48 (x : UInt8) : ((x.toNat : Int) = 48) = (x = 48) := yq x 48 rfl
theorem y57 (x : UInt8) : ((x.toNat : Int) = 57) = (x = 57) := yq x 57 rfl
theorem y66 (x : UInt8) : ((x.toNat : Int) = 66) = (x = 66) := yq x 66 rfl
theorem y67 (x : UInt8) : ((x.toNat : Int) = 67) = (x = 67) := yq x 67 rfl
theorem y77 (x : UInt8) : ((x.toNat : Int) = 77) = (x = 77) := yq x 77 rfl
theorem y78 (x : UInt8) : ((x.toNat : Int) = 78) = (x = 78) := yq x 78 rfl
theorem y83 (x : UInt8) : ((x.toNat : Int) = 83) = (x = 83) := yq x 83 rfl
theorem y84 (x : UInt8) : ((x.toNat : Int) = 84) = (x = 84) := yq x 84 rfl
theorem y87 (x : UInt8) : ((x.toNat : Int) = 87) = (x = 87) := yq x 87 rfl
theorem y88 (x : UInt8) : ((x.toNat : Int) = 88) = (x = 88) := yq x 88 rfl
theorem y98 (x : UInt8) : ((x.toNat : Int) = 98) = (x = 98) := yq x 98 rfl
theorem y99 (x : UInt8) : ((x.toNat : Int) = 99) = (x = 99) := yq x 99 rfl
theorem y110 (x : UInt8) : ((x.toNat : Int) = 110) = (x = 110) := yq x 110 rfl
theorem y115 (x : UInt8) : ((x.toNat : Int) = 115) = (x = 115) := yq x 115 rfl
theorem y116 (x : UInt8) : ((x.toNat : Int) = 116) = (x = 116) := yq x 116 rfl
theorem y119 (x : UInt8) : ((x.toNat : Int) = 119) = (x = 119) := yq x 119 rfl
attribute [go_sem] sz_of toL_of ext_of app_of y10 y32 y35 y45 y48 y57 y66 y67 y77 y78 y83 y84 y87 y88 y98 y99 y110 y115 y116 y119
theorem getD_at {α : Type} {s : List α} {i : Nat} {d : α} (h : i < s.length) : s[i]? = some (s.getD i d) := by simp [List.getD_eq_getElem?_getD, h]
theorem take_at1 {α : Type} {s : List α} {i : Nat} {d : α} (h : i < s.length) : s.take (i + 1) = s.take i ++ [s.getD i d] := by rw [List.take_add_one, getD_at h]; rfl
theorem w_succ {i : Nat} (h : i < 1000000000000) : IntKind.i64.wrap ((i : Int) + 1) = ((i + 1 : Nat) : Int) := by rw [wrap_i64_id (by omega) (by omega)]; omega

def ixM (c : UInt8) (s : List UInt8) : Int := if s.idxOf c < s.length then (s.idxOf c : Int) else -1
theorem ixM_eq (c : UInt8) : ∀ s : List UInt8, Lib.indexByte s c = ixM c s
  | [] => by simp [Lib.indexByte, ixM]
  | x :: s => by
    rw [Lib.indexByte, ixM_eq c s]
    unfold ixM
    by_cases h : x = c
    · subst h; simp [List.idxOf_cons]
    · have h' : (x == c) = false := by simpa using h
      rw [h', List.idxOf_cons, h']
      simp only [Bool.false_eq_true, if_false, List.length_cons, cond_false]
      by_cases g : s.idxOf c < s.length
      · have g2 : s.idxOf c + 1 < s.length + 1 := by omega
        have g3 : ((s.idxOf c : Int) == -1) = false := by simp; try omega
        simp only [g, g2, g3, if_true, Bool.false_eq_true, if_false]
        omega
      · have g2 : ¬ (s.idxOf c + 1 < s.length + 1) := by omega
        simp only [g, g2, if_false, beq_self_eq_true, if_true]

theorem ixb_c (s : List UInt8) (k : UInt8) : FPure Tryd.prog 49 [sv s, .p (.v (.int .u8 (k.toNat : Int)))] (.i (ixM k s)) :=
  fpure_ext Tryd.func49 (by kernel_rfl) (by kernel_rfl) (by kernel_rfl) (e := Extern.BytealgIndexByte.indexByte) (by kernel_rfl) (fun ρ F us w hz hr => by
    have h0 := (hr 0 _ rfl).pv
    have h1 := (hr 1 _ rfl).pv
    have hu : us = #[.string ⟨s.toArray⟩, .int .u8 (k.toNat : Int)] := by
      apply Array.ext'
      match us, hz, h0, h1 with
      | ⟨[a, b]⟩, _, h0, h1 => simp at h0 h1; simp [h0, h1]
    rw [hu]
    refine ⟨_, Lib.run_indexByteString _ _ _, ?_⟩
    have : ((k.toNat : Int).toNat).toUInt8 = k := by simp
    rw [this, show (⟨s.toArray⟩ : ByteArray).data.toList = s from by simp, ixM_eq]
    exact .ofI _ _)

theorem ixc_c (s : List UInt8) (k : UInt8) : FPure Tryd.prog 39 [sv s, .p (.v (.int .u8 (k.toNat : Int)))] (.i (ixM k s)) := by
  refine fpure_x hmix Tryd.func39 rfl (by kernel_rfl) Tryd.ntmps39 Tryd.results39 (by simp) (by simp [idsL, idsA]) [0, 1, 4] ?_; intro c hP h0 hE
  simp only [go_sem, Nat.reduceAdd, Nat.reduceMul, ↓reduceIte, reduceCtorEq, Nat.reduceLeDiff, Int.reduceToNat, Int.reduceLT, Int.reduceLE, Int.reduceEq, Int.reduceNe, Int.reduceBEq, Int.reduceBNe, not_false_eq_true, not_true_eq_false, hP]
  first | refine xw_call hE (ks := [0, 1, 4]) (n := 2000) (by rw [hP]; exact ixb_c s k) ?_ | refine xd_call hE (ks := [0, 1, 4]) (n := 2000) (by rw [hP]; exact ixb_c s k) ?_
  simp only [go_sem, Nat.reduceAdd, Nat.reduceMul, ↓reduceIte, reduceCtorEq, Nat.reduceLeDiff, Int.reduceToNat, Int.reduceLT, Int.reduceLE, Int.reduceEq, Int.reduceNe, Int.reduceBEq, Int.reduceBNe, not_false_eq_true, not_true_eq_false, hP]

theorem ix_c (s : List UInt8) (k : UInt8) : FPure Tryd.prog 32 [sv s, sv [k]] (.i (ixM k s)) := by
  refine fpure_x hmix Tryd.func32 rfl (by kernel_rfl) Tryd.ntmps32 Tryd.results32 (by simp) (by simp [idsL, idsA]) [0, 1, 4, 5, 6, 7, 8, 9, 10, 11, 12, 13, 16, 24, 31, 36, 59, 64, 73, 93, 107, 114, 132, 139] ?_; intro c hP h0 hE
  by_cases h : s = [k]
  · subst h
    simp only [go_sem, Nat.reduceAdd, Nat.reduceMul, ↓reduceIte, reduceCtorEq, Nat.reduceLeDiff, Int.reduceToNat, Int.reduceLT, Int.reduceLE, Int.reduceEq, Int.reduceNe, Int.reduceBEq, Int.reduceBNe, not_false_eq_true, not_true_eq_false, hP, BEq.rfl]
    simp [ixM]
  · have h' : ([k] == s) = false := by simpa using fun e => h e.symm
    simp only [go_sem, Nat.reduceAdd, Nat.reduceMul, ↓reduceIte, reduceCtorEq, Nat.reduceLeDiff, Int.reduceToNat, Int.reduceLT, Int.reduceLE, Int.reduceEq, Int.reduceNe, Int.reduceBEq, Int.reduceBNe, not_false_eq_true, not_true_eq_false, hP, h']
    first | refine xw_call hE (ks := [0, 1, 4, 5, 6, 7, 8, 9, 10, 11, 12, 13, 16, 24, 31, 36, 59, 64, 73, 93, 107, 114, 132, 139]) (n := 2000) (by rw [hP]; exact ixc_c s k) ?_ | refine xd_call hE (ks := [0, 1, 4, 5, 6, 7, 8, 9, 10, 11, 12, 13, 16, 24, 31, 36, 59, 64, 73, 93, 107, 114, 132, 139]) (n := 2000) (by rw [hP]; exact ixc_c s k) ?_
    simp only [go_sem, Nat.reduceAdd, Nat.reduceMul, ↓reduceIte, reduceCtorEq, Nat.reduceLeDiff, Int.reduceToNat, Int.reduceLT, Int.reduceLE, Int.reduceEq, Int.reduceNe, Int.reduceBEq, Int.reduceBNe, not_false_eq_true, not_true_eq_false, hP]

/-- what a cut gives -/
abbrev cutA (r : List UInt8 × List UInt8 × Bool) : AV := .tup [sv r.1, sv r.2.1, .b r.2.2]

theorem lcut_c (s : List UInt8) (k : UInt8) (hs : s.length < 1000000000000) : FPure Tryd.prog 25 [sv s, sv [k]] (cutA (cutM k s)) := by
  refine fpure_x hmix Tryd.func25 rfl (by kernel_rfl) Tryd.ntmps25 Tryd.results25 (by simp) (by simp [idsL, idsA]) [0, 1, 4, 5, 6, 7, 12] ?_; intro c hP h0 hE
  simp only [go_sem, Nat.reduceAdd, Nat.reduceMul, ↓reduceIte, reduceCtorEq, Nat.reduceLeDiff, Int.reduceToNat, Int.reduceLT, Int.reduceLE, Int.reduceEq, Int.reduceNe, Int.reduceBEq, Int.reduceBNe, not_false_eq_true, not_true_eq_false, hP]
  first | refine xw_call hE (ks := [0, 1, 4, 5, 6, 7, 12]) (n := 2000) (by rw [hP]; exact ix_c s k) ?_ | refine xd_call hE (ks := [0, 1, 4, 5, 6, 7, 12]) (n := 2000) (by rw [hP]; exact ix_c s k) ?_
  by_cases h : s.idxOf k < s.length
  · have h1 : ixM k s = (s.idxOf k : Int) := by simp [ixM, h]
    have h2 : ((s.idxOf k : Int) ≥ 0) := by omega
    have h3 : IntKind.i64.wrap ((s.idxOf k : Int) + 1) = ((s.idxOf k + 1 : Nat) : Int) := by rw [wrap_i64_id (by omega) (by omega)]; omega
    have h4 : cutM k s = (s.take (s.idxOf k), s.drop (s.idxOf k + 1), true) := by simp [cutM, h]
    rw [h1]
    simp only [go_sem, Nat.reduceAdd, Nat.reduceMul, ↓reduceIte, reduceCtorEq, Nat.reduceLeDiff, Int.reduceToNat, Int.reduceLT, Int.reduceLE, Int.reduceEq, Int.reduceNe, Int.reduceBEq, Int.reduceBNe, not_false_eq_true, not_true_eq_false, hP, h2, h3, h4]
    refine ⟨by omega, ⟨by omega, by omega, by omega⟩, by kernel_rfl, by simp⟩
  · have h1 : ixM k s = -1 := by simp [ixM, h]
    have h4 : cutM k s = (s, [], false) := by simp [cutM, h]
    rw [h1]
    simp only [go_sem, Nat.reduceAdd, Nat.reduceMul, ↓reduceIte, reduceCtorEq, Nat.reduceLeDiff, Int.reduceToNat, Int.reduceLT, Int.reduceLE, Int.reduceEq, Int.reduceNe, Int.reduceBEq, Int.reduceBNe, not_false_eq_true, not_true_eq_false, hP, h4]
    simp

theorem scut_c (s : List UInt8) (k : UInt8) (hs : s.length < 1000000000000) : FPure Tryd.prog 15 [sv s, sv [k]] (cutA (cutM k s)) := by
  refine fpure_x hmix Tryd.func15 rfl (by kernel_rfl) Tryd.ntmps15 Tryd.results15 (by simp) (by simp [idsL, idsA]) [0, 1, 4, 5, 6] ?_; intro c hP h0 hE
  simp only [go_sem, Nat.reduceAdd, Nat.reduceMul, ↓reduceIte, reduceCtorEq, Nat.reduceLeDiff, Int.reduceToNat, Int.reduceLT, Int.reduceLE, Int.reduceEq, Int.reduceNe, Int.reduceBEq, Int.reduceBNe, not_false_eq_true, not_true_eq_false, hP]
  first | refine xw_call hE (ks := [0, 1, 4, 5, 6]) (n := 2000) (by rw [hP]; exact lcut_c s k hs) ?_ | refine xd_call hE (ks := [0, 1, 4, 5, 6]) (n := 2000) (by rw [hP]; exact lcut_c s k hs) ?_
  simp only [go_sem, Nat.reduceAdd, Nat.reduceMul, ↓reduceIte, reduceCtorEq, Nat.reduceLeDiff, Int.reduceToNat, Int.reduceLT, Int.reduceLE, Int.reduceEq, Int.reduceNe, Int.reduceBEq, Int.reduceBNe, not_false_eq_true, not_true_eq_false, hP]

theorem rcut_c (s : List UInt8) (hs : s.length < 1000000000000) : FPure Tryd.prog 37 [sv s] (cutA (cutM 32 s)) := by
  refine fpure_x hmix Tryd.func37 rfl (by kernel_rfl) Tryd.ntmps37 Tryd.results37 (by simp) (by simp [idsL, idsA]) [0, 2, 3, 4, 5, 9, 15] ?_; intro c hP h0 hE
  simp only [go_sem, Nat.reduceAdd, Nat.reduceMul, ↓reduceIte, reduceCtorEq, Nat.reduceLeDiff, Int.reduceToNat, Int.reduceLT, Int.reduceLE, Int.reduceEq, Int.reduceNe, Int.reduceBEq, Int.reduceBNe, not_false_eq_true, not_true_eq_false, hP]
  refine xw_loop hE h0 [0, 2, 3, 4, 5, 9, 15] (α := { i : Nat // i ≤ s.length ∧ (32 : UInt8) ∉ s.take i }) (fun i => ⟨24, [(0, sv s), (5, .i i.1)], [], 0⟩) (fun i => s.length - i.1) ⟨0, Nat.zero_le _, by simp⟩ [] (fun i => i) ?_ ?_
  · refine ⟨rfl, ?_, trivial, rfl, rfl, trivial, fun i h => h⟩
    simp only [go_sem, Nat.reduceAdd, Nat.reduceMul, ↓reduceIte, reduceCtorEq, Nat.reduceLeDiff, Int.reduceToNat, Int.reduceLT, Int.reduceLE, Int.reduceEq, Int.reduceNe, Int.reduceBEq, Int.reduceBNe, not_false_eq_true, not_true_eq_false]
  · rintro ⟨i, hi, hno⟩
    rcases Nat.lt_or_ge i s.length with hin | hin
    · have hc : ((i : Int) < (s.length : Int)) := by omega
      have hw := w_succ (i := i) (by omega)
      by_cases hx : s.getD i 0 = 32
      · have h4 := cutM_at hno (by rw [getD_at (d := 0) hin, hx])
        simp only [go_sem, Nat.reduceAdd, Nat.reduceMul, ↓reduceIte, reduceCtorEq, Nat.reduceLeDiff, Int.reduceToNat, Int.reduceLT, Int.reduceLE, Int.reduceEq, Int.reduceNe, Int.reduceBEq, Int.reduceBNe, not_false_eq_true, not_true_eq_false, hP, hc, hw, hx, h4]
        refine ⟨by omega, ⟨by omega, by omega⟩, ⟨by omega, by omega, by omega⟩, by kernel_rfl, by simp⟩
      · simp only [go_sem, Nat.reduceAdd, Nat.reduceMul, ↓reduceIte, reduceCtorEq, Nat.reduceLeDiff, Int.reduceToNat, Int.reduceLT, Int.reduceLE, Int.reduceEq, Int.reduceNe, Int.reduceBEq, Int.reduceBNe, not_false_eq_true, not_true_eq_false, hP, hc, hw, hx]
        refine ⟨by omega, ⟨i + 1, by omega, ?_⟩, by show s.length - (i + 1) < s.length - i; omega, subI rfl ?_ ?_ rfl rfl (Nat.le_refl _)⟩
        · rw [take_at1 hin]; simp [hno]; exact fun e => hx e.symm
        · simp only [go_sem, Nat.reduceAdd, Nat.reduceMul, ↓reduceIte, reduceCtorEq, Nat.reduceLeDiff, Int.reduceToNat, Int.reduceLT, Int.reduceLE, Int.reduceEq, Int.reduceNe, Int.reduceBEq, Int.reduceBNe, not_false_eq_true, not_true_eq_false]
        · simp only [go_sem, Nat.reduceAdd, Nat.reduceMul, ↓reduceIte, reduceCtorEq, Nat.reduceLeDiff, Int.reduceToNat, Int.reduceLT, Int.reduceLE, Int.reduceEq, Int.reduceNe, Int.reduceBEq, Int.reduceBNe, not_false_eq_true, not_true_eq_false]
    · obtain rfl : i = s.length := by omega
      have hnc : ¬ ((s.length : Int) < (s.length : Int)) := by omega
      rw [List.take_of_length_le (Nat.le_refl _)] at hno
      simp only [go_sem, Nat.reduceAdd, Nat.reduceMul, ↓reduceIte, reduceCtorEq, Nat.reduceLeDiff, Int.reduceToNat, Int.reduceLT, Int.reduceLE, Int.reduceEq, Int.reduceNe, Int.reduceBEq, Int.reduceBNe, not_false_eq_true, not_true_eq_false, hP, hnc, cutM_no hno]

end Go.Proofs.YthdhbdjhjfflnaaDoor

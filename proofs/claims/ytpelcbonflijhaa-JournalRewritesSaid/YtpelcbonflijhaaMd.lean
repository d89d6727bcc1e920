/-
  Contract of the law's helper made (package passkeylaw8). Own work; no statement of the seat is proved here.
-/
import Derived.Test.YtpelcbonflijhaaSp
import Derived.Test.YtpelcbonflijhaaRaw
namespace Go.Proofs.Ytpelcbonflijhaa
set_option linter.unusedSimpArgs false
set_option linter.unusedVariables false
open Go Go.Abs Go.RowKit

def it (x : Int) : PV := .v (.int .i64 x)
theorem head_it (l : List Int) (i : Nat) : headP (.v (.int .i64 0)) ((l.map it).drop i) = it (l.getD i 0) := by
  induction l generalizing i with
  | nil => simp [headP, it]
  | cons b r ih => cases i with
    | zero => simp [headP]
    | succ i => simpa using ih i

def mdK (x : Int) : Int := band .i64 x 16777215
def mdB (k : Int) : Int := if band .i64 (ishr .i64 k 20) 3 = 3 then band .i64 (ishr .i64 k 10) 1023 else -1
def mdX (j : Jn) (k : Int) : JR := if band .i64 k 3 = 3 then rrewriteM j (recordsM k) (mdB k) else rappendM j (recordM (bor .i64 (band .i64 (ishr .i64 k 2) 2047) 1)) (mdB k)
def mdStep (j : Jn) (x : Int) : Jn :=
  if (mdX j (mdK x)).j.ps = 0 then j else if (mountM (flOf (mdX j (mdK x)).j)).err = 0 then (mountM (flOf (mdX j (mdK x)).j)).j else j
def mdF (n : Int) : Fl := newFl ([512, 600, 1024].getD ((band .i64 n 65535).tmod 3).toNat 0) (2 + band .i64 (ishr .i64 n 2) 1)
def mdN (n : Int) (l : List Int) (i : Nat) : Jn := (l.take i).foldl mdStep (rformatM (mdF n) (-1)).j
def madeM (n : Int) (l : List Int) : Jn := mdN n l 8
theorem mdN_succ (n : Int) (l : List Int) (i : Nat) (h : i < l.length) : mdN n l (i + 1) = mdStep (mdN n l i) (l.getD i 0) := by
  unfold mdN
  rw [List.take_succ_eq_append_getElem h, List.foldl_append]
  simp [List.getD_eq_getElem?_getD, h]
theorem mdN_end (n : Int) (l : List Int) (i : Nat) (h : l.length ≤ i) (h8 : i ≤ 8) : mdN n l i = madeM n l := by
  unfold madeM mdN
  rw [List.take_of_length_le h, List.take_of_length_le (by omega)]

/-- a journal as a mount gives it -/
def MtOk (j : Jn) : Prop := mountM (flOf j) = ⟨j, 0⟩
theorem MtOk.gen {j : Jn} (h : MtOk j) : genuineM j = true := genuine_of h
theorem MtOk.vfl {j : Jn} (h : MtOk j) : ∃ p k, VFl (flOf j) p k := by
  obtain ⟨p, k, q, e1, e2, e3, e4, e5, e6, -⟩ := genuineM_ok h.gen
  exact ⟨p, k, e1, e2, e3, e4, e5, e6⟩
theorem MtOk.len {j : Jn} (h : MtOk j) : 1 ≤ j.bs.length ∧ j.bs.length < 1000000 := by
  obtain ⟨p, k, hv⟩ := h.vfl
  have h1 : j.bs.length = p * k := hv.len
  have h2 : p * k ≤ 8192 * 8 := Nat.mul_le_mul hv.p2 hv.k2
  have h3 : 512 * 2 ≤ p * k := Nat.mul_le_mul hv.p1 hv.k1
  omega
theorem mount_fl {f : Fl} (h : (mountM f).err = 0) : flOf (mountM f).j = f := by
  obtain ⟨p, k, q, -, -, -, -, -, -, -, -, -, -, e8⟩ := mountM_ok h
  rw [e8]; rfl
theorem MtOk.of {f : Fl} (h : (mountM f).err = 0) : MtOk (mountM f).j := by
  unfold MtOk
  rw [mount_fl h]
  cases hm : mountM f with | mk j e => rw [hm] at h; simp only at h; rw [h]
theorem mdF_ok (n : Int) : ∃ p k, VFl (mdF n) p k := by
  have h1 := band_bd n 65535 (by decide) (by decide)
  have h2 := band_bd (ishr .i64 n 2) 1 (by decide) (by decide)
  have h3 := Int.tmod_nonneg (3 : Int) h1.1
  have h4 := Int.tmod_lt_of_pos (band .i64 n 65535) (show (0 : Int) < 3 by decide)
  unfold mdF
  obtain ⟨a, ha⟩ : ∃ a : Nat, band .i64 (ishr .i64 n 2) 1 = a := Int.eq_ofNat_of_zero_le h2.1
  obtain ⟨b, hb⟩ : ∃ b : Nat, (band .i64 n 65535).tmod 3 = b := Int.eq_ofNat_of_zero_le h3
  rw [ha] at h2 ⊢
  rw [hb] at h4 ⊢
  have key : ∀ p k : Nat, 512 ≤ p → p ≤ 1024 → 2 ≤ k → k ≤ 3 → VFl (newFl p k) p k := fun p k q1 q2 q3 q4 => by
    have : newFl p k = ⟨p, List.replicate (p * k) 255⟩ := by
      unfold newFl; rw [if_neg (by omega)]
      have : ((p : Int) * (k : Int)).toNat = p * k := by rw [show (p : Int) * (k : Int) = ((p * k : Nat) : Int) by simp]; rfl
      rw [this]
    rw [this]
    exact ⟨rfl, q1, by omega, List.length_replicate, q3, by omega⟩
  have ha' : a = 0 ∨ a = 1 := by omega
  have hb' : b = 0 ∨ b = 1 ∨ b = 2 := by omega
  rcases ha' with rfl | rfl <;> rcases hb' with rfl | rfl | rfl <;> exact ⟨_, _, key _ _ (by decide) (by decide) (by decide) (by decide)⟩
theorem mdN_ok (n : Int) (l : List Int) (i : Nat) : MtOk (mdN n l i) := by
  unfold mdN
  have h0 : MtOk (rformatM (mdF n) (-1)).j := by
    obtain ⟨p, k, hv⟩ := mdF_ok n
    obtain ⟨j, hj, hm, -⟩ := format_fresh hv
    rw [← format_law, hj]; exact hm
  generalize (rformatM (mdF n) (-1)).j = j at h0
  generalize l.take i = r
  induction r generalizing j with
  | nil => exact h0
  | cons x r ih =>
    rw [List.foldl_cons]
    refine ih _ ?_
    unfold mdStep
    split
    · exact h0
    · split
      · rename_i h; exact MtOk.of h
      · exact h0
theorem made_ok (n : Int) (l : List Int) : MtOk (madeM n l) := mdN_ok n l 8

theorem seqM_len {f : Fl} {budget : Int} (l : List JOp) (hB : i64 budget) (hb : f.bs.length < 1000000000) (hl : ∀ o, o ∈ l → okOp o) : (seqM f budget l).f.bs.length ≤ f.bs.length := by
  induction l generalizing f budget with
  | nil => exact Nat.le_refl _
  | cons o r ih =>
    rw [seq_cons _ _ _ _ _ rfl]
    have hr := runM_ok (f := f) (budget := budget) o hB hb (hl o (by simp))
    split
    · exact hr.2
    · exact Nat.le_trans (ih hr.1 (by omega) (fun o ho => hl o (by simp [ho]))) hr.2
theorem brokenM_len (f : Fl) (e : Int) : (brokenM f e).j.bs.length ≤ f.bs.length := by
  unfold brokenM; split <;> simp [jn0]
theorem wrs_ok (page : Int) (g : UInt64) : ∀ (l : List (List UInt8)) (t : Nat), (∀ b, b ∈ l → b.length < 1000000) → ∀ o, o ∈ wrsM page g t l → okOp o
  | [], _, _, o, ho => by simp [wrsM] at ho
  | b :: l, t, h, o, ho => by
    simp only [wrsM, List.mem_cons] at ho
    rcases ho with rfl | ho
    · show (recM g b).length < _
      rw [recM_len]; have := h b (by simp); omega
    · exact wrs_ok page g l _ (fun b hb => h b (by simp [hb])) o ho
theorem rrewrite_len (j : Jn) (l : List (List UInt8)) (budget : Int) (hB : i64 budget) (hb : j.bs.length < 1000000000) (hl : ∀ b, b ∈ l → b.length < 1000000) : (rrewriteM j l budget).j.bs.length ≤ j.bs.length := by
  unfold rrewriteM
  split
  · simp [jn0]
  split
  · simp [jn0]
  split
  · simp [jn0]
  split
  · simp [jn0]
  have hs := seqM_len (f := flOf j) (budget := budget) (rrewOps j l) hB hb (fun o ho => by
    unfold rrewOps at ho
    simp only [List.mem_cons, List.mem_append, List.not_mem_nil, or_false] at ho
    rcases ho with rfl | ho | rfl
    · trivial
    · exact wrs_ok _ _ _ _ hl o ho
    · show (headM _).length < _; rw [headM_len]; decide)
  unfold rrewEnd
  split
  · exact Nat.le_trans (brokenM_len _ _) hs
  · exact hs
theorem rappend_len (j : Jn) (b : List UInt8) (budget : Int) (hB : i64 budget) (hb : j.bs.length < 1000000000) (hl : b.length < 1000000) : (rappendM j b budget).j.bs.length ≤ j.bs.length := by
  have hp := (runM_ok (f := flOf j) (budget := budget) (.wr j.page j.tail (recM (UInt64.ofNat j.gen.toNat) b)) hB hb (by show (recM _ _).length < _; rw [recM_len]; omega)).2
  have hp : (progM (flOf j) j.page j.tail (recM (UInt64.ofNat j.gen.toNat) b) budget).f.bs.length ≤ j.bs.length := hp
  unfold rappendM
  split
  · simp [jn0]
  split
  · simp [jn0]
  split
  · simp [jn0]
  split
  · simp [jn0]
  split
  · exact Nat.le_trans (brokenM_len _ _) hp
  · exact hp
theorem mdB_ok (k : Int) : i64 (mdB k) := by
  have := band_bd (ishr .i64 k 10) 1023 (by decide) (by decide)
  unfold mdB i64; split <;> omega

set_option maxHeartbeats 2000000 in
theorem lmade_c (n : Int) (l : List Int) (m : Nat) (hm : l.length = m) : FPure Try.prog 12 [.i n, .p (.data 1 m (l.map it))] (jnAV (madeM n l)) := by
  refine fpure_x hmix Try.func12 rfl (by kernel_rfl) Try.ntmps12 Try.results12 (by simp) (by simp [idsL, idsA]) [0, 1, 4, 5, 7, 10, 11, 12, 13, 14, 15, 43, 54, 60, 85, 93] ?_; intro c hP h0 hE
  simp only [go_sem, Nat.reduceAdd, Nat.reduceMul, ↓reduceIte, reduceCtorEq, Nat.reduceLeDiff, Int.reduceToNat, Int.reduceLT, Int.reduceLE, Int.reduceEq, Int.reduceNe, Int.reduceBEq, Int.reduceBNe, not_false_eq_true, not_true_eq_false, hP]
  have h1 := band_bd n 65535 (by decide) (by decide)
  have h2 := band_bd (ishr .i64 n 2) 1 (by decide) (by decide)
  have h3 := Int.tmod_nonneg (3 : Int) h1.1
  have h4 := Int.tmod_lt_of_pos (band .i64 n 65535) (show (0 : Int) < 3 by decide)
  refine ⟨⟨h3, h4⟩, by omega, ?_⟩
  have hh : headA (.v (.int .i64 0)) (List.drop ((band .i64 n 65535).tmod 3).toNat [.p (.v (.int .i64 512)), .p (.v (.int .i64 600)), .p (.v (.int .i64 1024))]) = .i ([512, 600, 1024].getD ((band .i64 n 65535).tmod 3).toNat 0) := by
    obtain ⟨b, hb⟩ : ∃ b : Nat, (band .i64 n 65535).tmod 3 = b := Int.eq_ofNat_of_zero_le h3
    rw [hb] at h4 ⊢
    have hb' : b = 0 ∨ b = 1 ∨ b = 2 := by omega
    rcases hb' with rfl | rfl | rfl <;> rfl
  rw [hh, wrap_i64_id (n := 2 + band .i64 (ishr .i64 n 2) 1) (by omega) (by omega)]
  first | refine xw_call hE (ks := [0, 1, 4, 5, 7, 10, 11, 12, 13, 14, 15, 43, 54, 60, 85, 93]) (n := 2000) (by rw [hP]; exact newFlash_c ([512, 600, 1024].getD ((band .i64 n 65535).tmod 3).toNat 0) (2 + band .i64 (ishr .i64 n 2) 1)) ?_ | refine xd_call hE (ks := [0, 1, 4, 5, 7, 10, 11, 12, 13, 14, 15, 43, 54, 60, 85, 93]) (n := 2000) (by rw [hP]; exact newFlash_c ([512, 600, 1024].getD ((band .i64 n 65535).tmod 3).toNat 0) (2 + band .i64 (ishr .i64 n 2) 1)) ?_
  obtain ⟨p, k, hv⟩ := mdF_ok n
  have hvl : (mdF n).bs.length < 1000000000 := by
    have := hv.len
    have h2 : p * k ≤ 8192 * 8 := Nat.mul_le_mul hv.p2 hv.k2
    omega
  have hfe : newFl ([512, 600, 1024].getD ((band .i64 n 65535).tmod 3).toNat 0) (2 + band .i64 (ishr .i64 n 2) 1) = mdF n := rfl
  rw [hfe]
  simp only [go_sem, Nat.reduceAdd, Nat.reduceMul, ↓reduceIte, reduceCtorEq, Nat.reduceLeDiff, Int.reduceToNat, Int.reduceLT, Int.reduceLE, Int.reduceEq, Int.reduceNe, Int.reduceBEq, Int.reduceBNe, not_false_eq_true, not_true_eq_false, hP]
  first | refine xw_call hE (ks := [0, 1, 4, 5, 7, 10, 11, 12, 13, 14, 15, 43, 54, 60, 85, 93]) (n := 2000) (by rw [hP]; exact rFormat_c (mdF n).ps (mdF n).bs _ (-1) rfl hvl (by unfold i64; decide)) ?_ | refine xd_call hE (ks := [0, 1, 4, 5, 7, 10, 11, 12, 13, 14, 15, 43, 54, 60, 85, 93]) (n := 2000) (by rw [hP]; exact rFormat_c (mdF n).ps (mdF n).bs _ (-1) rfl hvl (by unfold i64; decide)) ?_
  have hj0 : (rformatM ⟨(mdF n).ps, (mdF n).bs⟩ (-1)).j = mdN n l 0 := rfl
  generalize rformatM ⟨(mdF n).ps, (mdF n).bs⟩ (-1) = X at *
  simp only [go_sem, Nat.reduceAdd, Nat.reduceMul, ↓reduceIte, reduceCtorEq, Nat.reduceLeDiff, Int.reduceToNat, Int.reduceLT, Int.reduceLE, Int.reduceEq, Int.reduceNe, Int.reduceBEq, Int.reduceBNe, not_false_eq_true, not_true_eq_false, hP]
  refine xw_loop hE h0 [0, 1, 4, 5, 7, 10, 11, 12, 13, 14, 15, 43, 54, 60, 85, 93] (α := { i : Nat // i ≤ m ∧ i ≤ 8 }) (fun i => ⟨96, [(1, .p (.data 1 m (l.map it))), (4, .ptr 0 0), (7, .ptr 3 0), (10, .i i.1)],
    [(3, some ⟨27, [.i (mdN n l i.1).ps, .p (.data 1 (mdN n l i.1).bs.length ((mdN n l i.1).bs.map bt)), .i (mdN n l i.1).page, .i (mdN n l i.1).gen, .i (mdN n l i.1).tail, .b (mdN n l i.1).torn]⟩), (0, some ⟨27, [.i 0, .p (.v (.slice none 0 0)), .i 0, .i 0, .i 0, .b false]⟩)], 4⟩) (fun i => 8 - i.1) ⟨0, Nat.zero_le _, Nat.zero_le _⟩ [] (fun i => i) ?_ ?_
  · refine ⟨rfl, ?_, ?_, rfl, rfl, trivial, fun i h => h⟩
    · simp only [go_sem, Nat.reduceAdd, Nat.reduceMul, ↓reduceIte, reduceCtorEq, Nat.reduceLeDiff, Int.reduceToNat, Int.reduceLT, Int.reduceLE, Int.reduceEq, Int.reduceNe, Int.reduceBEq, Int.reduceBNe, not_false_eq_true, not_true_eq_false]
    · rw [hj0]
      simp only [go_sem, Nat.reduceAdd, Nat.reduceMul, ↓reduceIte, reduceCtorEq, Nat.reduceLeDiff, Int.reduceToNat, Int.reduceLT, Int.reduceLE, Int.reduceEq, Int.reduceNe, Int.reduceBEq, Int.reduceBNe, not_false_eq_true, not_true_eq_false]
  · rintro ⟨i, hi, hi8⟩
    simp only [go_sem, Nat.reduceAdd, Nat.reduceMul, ↓reduceIte, reduceCtorEq, Nat.reduceLeDiff, Int.reduceToNat, Int.reduceLT, Int.reduceLE, Int.reduceEq, Int.reduceNe, Int.reduceBEq, Int.reduceBNe, not_false_eq_true, not_true_eq_false, hP, head_it, it]
    have hok := mdN_ok n l i
    have hend := mdN_end n l i
    split
    · rename_i him
      split
      · rename_i hi8'
        refine ⟨⟨by omega, by omega⟩, by omega, ?_⟩
        have hs := mdN_succ n l i (by omega)
        clear hend
        unfold mdStep mdK at hs
        generalize mdN n l i = J at *
        have hJl := hok.len
        generalize band .i64 (l.getD i 0) 16777215 = K at *
        have hb1 := band_bd (ishr .i64 K 10) 1023 (by decide) (by decide)
        split
        · rename_i h2
          split
          · rename_i h3
            have hX : rrewriteM J (recordsM K) (band .i64 (ishr .i64 K 10) 1023) = mdX J K := by unfold mdX mdB; rw [if_pos h3, if_pos h2]
            first | refine xw_call hE (ks := [0, 1, 4, 5, 7, 10, 11, 12, 13, 14, 15, 43, 54, 60, 85, 93]) (n := 2000) (by rw [hP]; exact lrecords_c K) ?_ | refine xd_call hE (ks := [0, 1, 4, 5, 7, 10, 11, 12, 13, 14, 15, 43, 54, 60, 85, 93]) (n := 2000) (by rw [hP]; exact lrecords_c K) ?_
            simp only [go_sem, Nat.reduceAdd, Nat.reduceMul, ↓reduceIte, reduceCtorEq, Nat.reduceLeDiff, Int.reduceToNat, Int.reduceLT, Int.reduceLE, Int.reduceEq, Int.reduceNe, Int.reduceBEq, Int.reduceBNe, not_false_eq_true, not_true_eq_false, hP]
            have hlen := rrewrite_len J (recordsM K) (band .i64 (ishr .i64 K 10) 1023) (by unfold i64; omega) (by omega) (fun b hb => by have := recordsM_le K b hb; omega)
            first | refine xw_call hE (ks := [0, 1, 4, 5, 7, 10, 11, 12, 13, 14, 15, 43, 54, 60, 85, 93]) (n := 2000) (by rw [hP]; exact rRewrite_c J _ (recordsM K) _ (band .i64 (ishr .i64 K 10) 1023) rfl (by omega) rfl (by have := recordsM_len K; omega) (fun b hb => by have := recordsM_le K b hb; omega) (by unfold i64; omega)) ?_ | refine xd_call hE (ks := [0, 1, 4, 5, 7, 10, 11, 12, 13, 14, 15, 43, 54, 60, 85, 93]) (n := 2000) (by rw [hP]; exact rRewrite_c J _ (recordsM K) _ (band .i64 (ishr .i64 K 10) 1023) rfl (by omega) rfl (by have := recordsM_len K; omega) (fun b hb => by have := recordsM_le K b hb; omega) (by unfold i64; omega)) ?_
            rw [hX] at hlen ⊢
            generalize mdX J K = X at *
            simp only [go_sem, Nat.reduceAdd, Nat.reduceMul, ↓reduceIte, reduceCtorEq, Nat.reduceLeDiff, Int.reduceToNat, Int.reduceLT, Int.reduceLE, Int.reduceEq, Int.reduceNe, Int.reduceBEq, Int.reduceBNe, not_false_eq_true, not_true_eq_false, hP]
            refine ⟨by kernel_rfl, ?_⟩
            split
            · rename_i h4
              rw [if_pos h4] at hs
              (try go_unwrap)
              refine ⟨⟨i + 1, by omega, by omega⟩, by show 8 - (i + 1) < 8 - i; omega, subG [0, 1, 2, 3] rfl ?_ ?_ rfl rfl (Nat.le_refl _)⟩
              · simp only [go_sem, Nat.reduceAdd, Nat.reduceMul, ↓reduceIte, reduceCtorEq, Nat.reduceLeDiff, Int.reduceToNat, Int.reduceLT, Int.reduceLE, Int.reduceEq, Int.reduceNe, Int.reduceBEq, Int.reduceBNe, not_false_eq_true, not_true_eq_false]
                omega
              · simp only [go_sem, Nat.reduceAdd, Nat.reduceMul, ↓reduceIte, reduceCtorEq, Nat.reduceLeDiff, Int.reduceToNat, Int.reduceLT, Int.reduceLE, Int.reduceEq, Int.reduceNe, Int.reduceBEq, Int.reduceBNe, not_false_eq_true, not_true_eq_false, hs]
            · rename_i h4
              rw [if_neg h4] at hs
              first | refine xw_call hE (ks := [0, 1, 4, 5, 7, 10, 11, 12, 13, 14, 15, 43, 54, 60, 85, 93]) (n := 2000) (by rw [hP]; exact rMount_c X.j.ps X.j.bs _ rfl (by omega)) ?_ | refine xd_call hE (ks := [0, 1, 4, 5, 7, 10, 11, 12, 13, 14, 15, 43, 54, 60, 85, 93]) (n := 2000) (by rw [hP]; exact rMount_c X.j.ps X.j.bs _ rfl (by omega)) ?_
              have hM : mountM (flOf X.j) = mountM ⟨X.j.ps, X.j.bs⟩ := rfl
              rw [hM] at hs
              generalize mountM ⟨X.j.ps, X.j.bs⟩ = M at *
              simp only [go_sem, Nat.reduceAdd, Nat.reduceMul, ↓reduceIte, reduceCtorEq, Nat.reduceLeDiff, Int.reduceToNat, Int.reduceLT, Int.reduceLE, Int.reduceEq, Int.reduceNe, Int.reduceBEq, Int.reduceBNe, not_false_eq_true, not_true_eq_false, hP]
              split
              · rename_i h5
                rw [if_pos h5] at hs
                (try go_unwrap)
                refine ⟨⟨i + 1, by omega, by omega⟩, by show 8 - (i + 1) < 8 - i; omega, subG [0, 1, 2, 3] rfl ?_ ?_ rfl rfl (Nat.le_refl _)⟩
                · simp only [go_sem, Nat.reduceAdd, Nat.reduceMul, ↓reduceIte, reduceCtorEq, Nat.reduceLeDiff, Int.reduceToNat, Int.reduceLT, Int.reduceLE, Int.reduceEq, Int.reduceNe, Int.reduceBEq, Int.reduceBNe, not_false_eq_true, not_true_eq_false]
                  omega
                · simp only [go_sem, Nat.reduceAdd, Nat.reduceMul, ↓reduceIte, reduceCtorEq, Nat.reduceLeDiff, Int.reduceToNat, Int.reduceLT, Int.reduceLE, Int.reduceEq, Int.reduceNe, Int.reduceBEq, Int.reduceBNe, not_false_eq_true, not_true_eq_false, hs]
              · rename_i h5
                rw [if_neg h5] at hs
                (try go_unwrap)
                refine ⟨⟨i + 1, by omega, by omega⟩, by show 8 - (i + 1) < 8 - i; omega, subG [0, 1, 2, 3] rfl ?_ ?_ rfl rfl (Nat.le_refl _)⟩
                · simp only [go_sem, Nat.reduceAdd, Nat.reduceMul, ↓reduceIte, reduceCtorEq, Nat.reduceLeDiff, Int.reduceToNat, Int.reduceLT, Int.reduceLE, Int.reduceEq, Int.reduceNe, Int.reduceBEq, Int.reduceBNe, not_false_eq_true, not_true_eq_false]
                  omega
                · simp only [go_sem, Nat.reduceAdd, Nat.reduceMul, ↓reduceIte, reduceCtorEq, Nat.reduceLeDiff, Int.reduceToNat, Int.reduceLT, Int.reduceLE, Int.reduceEq, Int.reduceNe, Int.reduceBEq, Int.reduceBNe, not_false_eq_true, not_true_eq_false, hs]
          · rename_i h3
            have hX : rappendM J (recordM (bor .i64 (band .i64 (ishr .i64 K 2) 2047) 1)) (band .i64 (ishr .i64 K 10) 1023) = mdX J K := by unfold mdX mdB; rw [if_neg h3, if_pos h2]
            have hrl := recSz_lt (bor .i64 (band .i64 (ishr .i64 K 2) 2047) 1)
            have hrl2 := recordM_len (bor .i64 (band .i64 (ishr .i64 K 2) 2047) 1)
            first | refine xw_call hE (ks := [0, 1, 4, 5, 7, 10, 11, 12, 13, 14, 15, 43, 54, 60, 85, 93]) (n := 2000) (by rw [hP]; exact lrecord_c (bor .i64 (band .i64 (ishr .i64 K 2) 2047) 1)) ?_ | refine xd_call hE (ks := [0, 1, 4, 5, 7, 10, 11, 12, 13, 14, 15, 43, 54, 60, 85, 93]) (n := 2000) (by rw [hP]; exact lrecord_c (bor .i64 (band .i64 (ishr .i64 K 2) 2047) 1)) ?_
            simp only [go_sem, Nat.reduceAdd, Nat.reduceMul, ↓reduceIte, reduceCtorEq, Nat.reduceLeDiff, Int.reduceToNat, Int.reduceLT, Int.reduceLE, Int.reduceEq, Int.reduceNe, Int.reduceBEq, Int.reduceBNe, not_false_eq_true, not_true_eq_false, hP]
            have hlen := rappend_len J (recordM (bor .i64 (band .i64 (ishr .i64 K 2) 2047) 1)) (band .i64 (ishr .i64 K 10) 1023) (by unfold i64; omega) (by omega) (by omega)
            first | refine xw_call hE (ks := [0, 1, 4, 5, 7, 10, 11, 12, 13, 14, 15, 43, 54, 60, 85, 93]) (n := 2000) (by rw [hP]; exact rAppend_c J _ (recordM (bor .i64 (band .i64 (ishr .i64 K 2) 2047) 1)) _ (band .i64 (ishr .i64 K 10) 1023) rfl (by omega) hrl2 (by omega) (by unfold i64; omega)) ?_ | refine xd_call hE (ks := [0, 1, 4, 5, 7, 10, 11, 12, 13, 14, 15, 43, 54, 60, 85, 93]) (n := 2000) (by rw [hP]; exact rAppend_c J _ (recordM (bor .i64 (band .i64 (ishr .i64 K 2) 2047) 1)) _ (band .i64 (ishr .i64 K 10) 1023) rfl (by omega) hrl2 (by omega) (by unfold i64; omega)) ?_
            rw [hX] at hlen ⊢
            generalize mdX J K = X at *
            simp only [go_sem, Nat.reduceAdd, Nat.reduceMul, ↓reduceIte, reduceCtorEq, Nat.reduceLeDiff, Int.reduceToNat, Int.reduceLT, Int.reduceLE, Int.reduceEq, Int.reduceNe, Int.reduceBEq, Int.reduceBNe, not_false_eq_true, not_true_eq_false, hP]
            refine ⟨by kernel_rfl, ?_⟩
            split
            · rename_i h4
              rw [if_pos h4] at hs
              (try go_unwrap)
              refine ⟨⟨i + 1, by omega, by omega⟩, by show 8 - (i + 1) < 8 - i; omega, subG [0, 1, 2, 3] rfl ?_ ?_ rfl rfl (Nat.le_refl _)⟩
              · simp only [go_sem, Nat.reduceAdd, Nat.reduceMul, ↓reduceIte, reduceCtorEq, Nat.reduceLeDiff, Int.reduceToNat, Int.reduceLT, Int.reduceLE, Int.reduceEq, Int.reduceNe, Int.reduceBEq, Int.reduceBNe, not_false_eq_true, not_true_eq_false]
                omega
              · simp only [go_sem, Nat.reduceAdd, Nat.reduceMul, ↓reduceIte, reduceCtorEq, Nat.reduceLeDiff, Int.reduceToNat, Int.reduceLT, Int.reduceLE, Int.reduceEq, Int.reduceNe, Int.reduceBEq, Int.reduceBNe, not_false_eq_true, not_true_eq_false, hs]
            · rename_i h4
              rw [if_neg h4] at hs
              first | refine xw_call hE (ks := [0, 1, 4, 5, 7, 10, 11, 12, 13, 14, 15, 43, 54, 60, 85, 93]) (n := 2000) (by rw [hP]; exact rMount_c X.j.ps X.j.bs _ rfl (by omega)) ?_ | refine xd_call hE (ks := [0, 1, 4, 5, 7, 10, 11, 12, 13, 14, 15, 43, 54, 60, 85, 93]) (n := 2000) (by rw [hP]; exact rMount_c X.j.ps X.j.bs _ rfl (by omega)) ?_
              have hM : mountM (flOf X.j) = mountM ⟨X.j.ps, X.j.bs⟩ := rfl
              rw [hM] at hs
              generalize mountM ⟨X.j.ps, X.j.bs⟩ = M at *
              simp only [go_sem, Nat.reduceAdd, Nat.reduceMul, ↓reduceIte, reduceCtorEq, Nat.reduceLeDiff, Int.reduceToNat, Int.reduceLT, Int.reduceLE, Int.reduceEq, Int.reduceNe, Int.reduceBEq, Int.reduceBNe, not_false_eq_true, not_true_eq_false, hP]
              split
              · rename_i h5
                rw [if_pos h5] at hs
                (try go_unwrap)
                refine ⟨⟨i + 1, by omega, by omega⟩, by show 8 - (i + 1) < 8 - i; omega, subG [0, 1, 2, 3] rfl ?_ ?_ rfl rfl (Nat.le_refl _)⟩
                · simp only [go_sem, Nat.reduceAdd, Nat.reduceMul, ↓reduceIte, reduceCtorEq, Nat.reduceLeDiff, Int.reduceToNat, Int.reduceLT, Int.reduceLE, Int.reduceEq, Int.reduceNe, Int.reduceBEq, Int.reduceBNe, not_false_eq_true, not_true_eq_false]
                  omega
                · simp only [go_sem, Nat.reduceAdd, Nat.reduceMul, ↓reduceIte, reduceCtorEq, Nat.reduceLeDiff, Int.reduceToNat, Int.reduceLT, Int.reduceLE, Int.reduceEq, Int.reduceNe, Int.reduceBEq, Int.reduceBNe, not_false_eq_true, not_true_eq_false, hs]
              · rename_i h5
                rw [if_neg h5] at hs
                (try go_unwrap)
                refine ⟨⟨i + 1, by omega, by omega⟩, by show 8 - (i + 1) < 8 - i; omega, subG [0, 1, 2, 3] rfl ?_ ?_ rfl rfl (Nat.le_refl _)⟩
                · simp only [go_sem, Nat.reduceAdd, Nat.reduceMul, ↓reduceIte, reduceCtorEq, Nat.reduceLeDiff, Int.reduceToNat, Int.reduceLT, Int.reduceLE, Int.reduceEq, Int.reduceNe, Int.reduceBEq, Int.reduceBNe, not_false_eq_true, not_true_eq_false]
                  omega
                · simp only [go_sem, Nat.reduceAdd, Nat.reduceMul, ↓reduceIte, reduceCtorEq, Nat.reduceLeDiff, Int.reduceToNat, Int.reduceLT, Int.reduceLE, Int.reduceEq, Int.reduceNe, Int.reduceBEq, Int.reduceBNe, not_false_eq_true, not_true_eq_false, hs]
        · rename_i h2
          split
          · rename_i h3
            have hX : rrewriteM J (recordsM K) (-1) = mdX J K := by unfold mdX mdB; rw [if_pos h3, if_neg h2]
            first | refine xw_call hE (ks := [0, 1, 4, 5, 7, 10, 11, 12, 13, 14, 15, 43, 54, 60, 85, 93]) (n := 2000) (by rw [hP]; exact lrecords_c K) ?_ | refine xd_call hE (ks := [0, 1, 4, 5, 7, 10, 11, 12, 13, 14, 15, 43, 54, 60, 85, 93]) (n := 2000) (by rw [hP]; exact lrecords_c K) ?_
            simp only [go_sem, Nat.reduceAdd, Nat.reduceMul, ↓reduceIte, reduceCtorEq, Nat.reduceLeDiff, Int.reduceToNat, Int.reduceLT, Int.reduceLE, Int.reduceEq, Int.reduceNe, Int.reduceBEq, Int.reduceBNe, not_false_eq_true, not_true_eq_false, hP]
            have hlen := rrewrite_len J (recordsM K) (-1) (by unfold i64; omega) (by omega) (fun b hb => by have := recordsM_le K b hb; omega)
            first | refine xw_call hE (ks := [0, 1, 4, 5, 7, 10, 11, 12, 13, 14, 15, 43, 54, 60, 85, 93]) (n := 2000) (by rw [hP]; exact rRewrite_c J _ (recordsM K) _ (-1) rfl (by omega) rfl (by have := recordsM_len K; omega) (fun b hb => by have := recordsM_le K b hb; omega) (by unfold i64; omega)) ?_ | refine xd_call hE (ks := [0, 1, 4, 5, 7, 10, 11, 12, 13, 14, 15, 43, 54, 60, 85, 93]) (n := 2000) (by rw [hP]; exact rRewrite_c J _ (recordsM K) _ (-1) rfl (by omega) rfl (by have := recordsM_len K; omega) (fun b hb => by have := recordsM_le K b hb; omega) (by unfold i64; omega)) ?_
            rw [hX] at hlen ⊢
            generalize mdX J K = X at *
            simp only [go_sem, Nat.reduceAdd, Nat.reduceMul, ↓reduceIte, reduceCtorEq, Nat.reduceLeDiff, Int.reduceToNat, Int.reduceLT, Int.reduceLE, Int.reduceEq, Int.reduceNe, Int.reduceBEq, Int.reduceBNe, not_false_eq_true, not_true_eq_false, hP]
            refine ⟨by kernel_rfl, ?_⟩
            split
            · rename_i h4
              rw [if_pos h4] at hs
              (try go_unwrap)
              refine ⟨⟨i + 1, by omega, by omega⟩, by show 8 - (i + 1) < 8 - i; omega, subG [0, 1, 2, 3] rfl ?_ ?_ rfl rfl (Nat.le_refl _)⟩
              · simp only [go_sem, Nat.reduceAdd, Nat.reduceMul, ↓reduceIte, reduceCtorEq, Nat.reduceLeDiff, Int.reduceToNat, Int.reduceLT, Int.reduceLE, Int.reduceEq, Int.reduceNe, Int.reduceBEq, Int.reduceBNe, not_false_eq_true, not_true_eq_false]
                omega
              · simp only [go_sem, Nat.reduceAdd, Nat.reduceMul, ↓reduceIte, reduceCtorEq, Nat.reduceLeDiff, Int.reduceToNat, Int.reduceLT, Int.reduceLE, Int.reduceEq, Int.reduceNe, Int.reduceBEq, Int.reduceBNe, not_false_eq_true, not_true_eq_false, hs]
            · rename_i h4
              rw [if_neg h4] at hs
              first | refine xw_call hE (ks := [0, 1, 4, 5, 7, 10, 11, 12, 13, 14, 15, 43, 54, 60, 85, 93]) (n := 2000) (by rw [hP]; exact rMount_c X.j.ps X.j.bs _ rfl (by omega)) ?_ | refine xd_call hE (ks := [0, 1, 4, 5, 7, 10, 11, 12, 13, 14, 15, 43, 54, 60, 85, 93]) (n := 2000) (by rw [hP]; exact rMount_c X.j.ps X.j.bs _ rfl (by omega)) ?_
              have hM : mountM (flOf X.j) = mountM ⟨X.j.ps, X.j.bs⟩ := rfl
              rw [hM] at hs
              generalize mountM ⟨X.j.ps, X.j.bs⟩ = M at *
              simp only [go_sem, Nat.reduceAdd, Nat.reduceMul, ↓reduceIte, reduceCtorEq, Nat.reduceLeDiff, Int.reduceToNat, Int.reduceLT, Int.reduceLE, Int.reduceEq, Int.reduceNe, Int.reduceBEq, Int.reduceBNe, not_false_eq_true, not_true_eq_false, hP]
              split
              · rename_i h5
                rw [if_pos h5] at hs
                (try go_unwrap)
                refine ⟨⟨i + 1, by omega, by omega⟩, by show 8 - (i + 1) < 8 - i; omega, subG [0, 1, 2, 3] rfl ?_ ?_ rfl rfl (Nat.le_refl _)⟩
                · simp only [go_sem, Nat.reduceAdd, Nat.reduceMul, ↓reduceIte, reduceCtorEq, Nat.reduceLeDiff, Int.reduceToNat, Int.reduceLT, Int.reduceLE, Int.reduceEq, Int.reduceNe, Int.reduceBEq, Int.reduceBNe, not_false_eq_true, not_true_eq_false]
                  omega
                · simp only [go_sem, Nat.reduceAdd, Nat.reduceMul, ↓reduceIte, reduceCtorEq, Nat.reduceLeDiff, Int.reduceToNat, Int.reduceLT, Int.reduceLE, Int.reduceEq, Int.reduceNe, Int.reduceBEq, Int.reduceBNe, not_false_eq_true, not_true_eq_false, hs]
              · rename_i h5
                rw [if_neg h5] at hs
                (try go_unwrap)
                refine ⟨⟨i + 1, by omega, by omega⟩, by show 8 - (i + 1) < 8 - i; omega, subG [0, 1, 2, 3] rfl ?_ ?_ rfl rfl (Nat.le_refl _)⟩
                · simp only [go_sem, Nat.reduceAdd, Nat.reduceMul, ↓reduceIte, reduceCtorEq, Nat.reduceLeDiff, Int.reduceToNat, Int.reduceLT, Int.reduceLE, Int.reduceEq, Int.reduceNe, Int.reduceBEq, Int.reduceBNe, not_false_eq_true, not_true_eq_false]
                  omega
                · simp only [go_sem, Nat.reduceAdd, Nat.reduceMul, ↓reduceIte, reduceCtorEq, Nat.reduceLeDiff, Int.reduceToNat, Int.reduceLT, Int.reduceLE, Int.reduceEq, Int.reduceNe, Int.reduceBEq, Int.reduceBNe, not_false_eq_true, not_true_eq_false, hs]
          · rename_i h3
            have hX : rappendM J (recordM (bor .i64 (band .i64 (ishr .i64 K 2) 2047) 1)) (-1) = mdX J K := by unfold mdX mdB; rw [if_neg h3, if_neg h2]
            have hrl := recSz_lt (bor .i64 (band .i64 (ishr .i64 K 2) 2047) 1)
            have hrl2 := recordM_len (bor .i64 (band .i64 (ishr .i64 K 2) 2047) 1)
            first | refine xw_call hE (ks := [0, 1, 4, 5, 7, 10, 11, 12, 13, 14, 15, 43, 54, 60, 85, 93]) (n := 2000) (by rw [hP]; exact lrecord_c (bor .i64 (band .i64 (ishr .i64 K 2) 2047) 1)) ?_ | refine xd_call hE (ks := [0, 1, 4, 5, 7, 10, 11, 12, 13, 14, 15, 43, 54, 60, 85, 93]) (n := 2000) (by rw [hP]; exact lrecord_c (bor .i64 (band .i64 (ishr .i64 K 2) 2047) 1)) ?_
            simp only [go_sem, Nat.reduceAdd, Nat.reduceMul, ↓reduceIte, reduceCtorEq, Nat.reduceLeDiff, Int.reduceToNat, Int.reduceLT, Int.reduceLE, Int.reduceEq, Int.reduceNe, Int.reduceBEq, Int.reduceBNe, not_false_eq_true, not_true_eq_false, hP]
            have hlen := rappend_len J (recordM (bor .i64 (band .i64 (ishr .i64 K 2) 2047) 1)) (-1) (by unfold i64; omega) (by omega) (by omega)
            first | refine xw_call hE (ks := [0, 1, 4, 5, 7, 10, 11, 12, 13, 14, 15, 43, 54, 60, 85, 93]) (n := 2000) (by rw [hP]; exact rAppend_c J _ (recordM (bor .i64 (band .i64 (ishr .i64 K 2) 2047) 1)) _ (-1) rfl (by omega) hrl2 (by omega) (by unfold i64; omega)) ?_ | refine xd_call hE (ks := [0, 1, 4, 5, 7, 10, 11, 12, 13, 14, 15, 43, 54, 60, 85, 93]) (n := 2000) (by rw [hP]; exact rAppend_c J _ (recordM (bor .i64 (band .i64 (ishr .i64 K 2) 2047) 1)) _ (-1) rfl (by omega) hrl2 (by omega) (by unfold i64; omega)) ?_
            rw [hX] at hlen ⊢
            generalize mdX J K = X at *
            simp only [go_sem, Nat.reduceAdd, Nat.reduceMul, ↓reduceIte, reduceCtorEq, Nat.reduceLeDiff, Int.reduceToNat, Int.reduceLT, Int.reduceLE, Int.reduceEq, Int.reduceNe, Int.reduceBEq, Int.reduceBNe, not_false_eq_true, not_true_eq_false, hP]
            refine ⟨by kernel_rfl, ?_⟩
            split
            · rename_i h4
              rw [if_pos h4] at hs
              (try go_unwrap)
              refine ⟨⟨i + 1, by omega, by omega⟩, by show 8 - (i + 1) < 8 - i; omega, subG [0, 1, 2, 3] rfl ?_ ?_ rfl rfl (Nat.le_refl _)⟩
              · simp only [go_sem, Nat.reduceAdd, Nat.reduceMul, ↓reduceIte, reduceCtorEq, Nat.reduceLeDiff, Int.reduceToNat, Int.reduceLT, Int.reduceLE, Int.reduceEq, Int.reduceNe, Int.reduceBEq, Int.reduceBNe, not_false_eq_true, not_true_eq_false]
                omega
              · simp only [go_sem, Nat.reduceAdd, Nat.reduceMul, ↓reduceIte, reduceCtorEq, Nat.reduceLeDiff, Int.reduceToNat, Int.reduceLT, Int.reduceLE, Int.reduceEq, Int.reduceNe, Int.reduceBEq, Int.reduceBNe, not_false_eq_true, not_true_eq_false, hs]
            · rename_i h4
              rw [if_neg h4] at hs
              first | refine xw_call hE (ks := [0, 1, 4, 5, 7, 10, 11, 12, 13, 14, 15, 43, 54, 60, 85, 93]) (n := 2000) (by rw [hP]; exact rMount_c X.j.ps X.j.bs _ rfl (by omega)) ?_ | refine xd_call hE (ks := [0, 1, 4, 5, 7, 10, 11, 12, 13, 14, 15, 43, 54, 60, 85, 93]) (n := 2000) (by rw [hP]; exact rMount_c X.j.ps X.j.bs _ rfl (by omega)) ?_
              have hM : mountM (flOf X.j) = mountM ⟨X.j.ps, X.j.bs⟩ := rfl
              rw [hM] at hs
              generalize mountM ⟨X.j.ps, X.j.bs⟩ = M at *
              simp only [go_sem, Nat.reduceAdd, Nat.reduceMul, ↓reduceIte, reduceCtorEq, Nat.reduceLeDiff, Int.reduceToNat, Int.reduceLT, Int.reduceLE, Int.reduceEq, Int.reduceNe, Int.reduceBEq, Int.reduceBNe, not_false_eq_true, not_true_eq_false, hP]
              split
              · rename_i h5
                rw [if_pos h5] at hs
                (try go_unwrap)
                refine ⟨⟨i + 1, by omega, by omega⟩, by show 8 - (i + 1) < 8 - i; omega, subG [0, 1, 2, 3] rfl ?_ ?_ rfl rfl (Nat.le_refl _)⟩
                · simp only [go_sem, Nat.reduceAdd, Nat.reduceMul, ↓reduceIte, reduceCtorEq, Nat.reduceLeDiff, Int.reduceToNat, Int.reduceLT, Int.reduceLE, Int.reduceEq, Int.reduceNe, Int.reduceBEq, Int.reduceBNe, not_false_eq_true, not_true_eq_false]
                  omega
                · simp only [go_sem, Nat.reduceAdd, Nat.reduceMul, ↓reduceIte, reduceCtorEq, Nat.reduceLeDiff, Int.reduceToNat, Int.reduceLT, Int.reduceLE, Int.reduceEq, Int.reduceNe, Int.reduceBEq, Int.reduceBNe, not_false_eq_true, not_true_eq_false, hs]
              · rename_i h5
                rw [if_neg h5] at hs
                (try go_unwrap)
                refine ⟨⟨i + 1, by omega, by omega⟩, by show 8 - (i + 1) < 8 - i; omega, subG [0, 1, 2, 3] rfl ?_ ?_ rfl rfl (Nat.le_refl _)⟩
                · simp only [go_sem, Nat.reduceAdd, Nat.reduceMul, ↓reduceIte, reduceCtorEq, Nat.reduceLeDiff, Int.reduceToNat, Int.reduceLT, Int.reduceLE, Int.reduceEq, Int.reduceNe, Int.reduceBEq, Int.reduceBNe, not_false_eq_true, not_true_eq_false]
                  omega
                · simp only [go_sem, Nat.reduceAdd, Nat.reduceMul, ↓reduceIte, reduceCtorEq, Nat.reduceLeDiff, Int.reduceToNat, Int.reduceLT, Int.reduceLE, Int.reduceEq, Int.reduceNe, Int.reduceBEq, Int.reduceBNe, not_false_eq_true, not_true_eq_false, hs]
      · obtain rfl : i = 8 := by omega
        exact ⟨rfl, ⟨rfl, rfl⟩, rfl, rfl, rfl, rfl⟩
    · have hend := hend (by omega) hi8
      rw [hend]
      exact ⟨rfl, ⟨rfl, rfl⟩, rfl, rfl, rfl, rfl⟩

end Go.Proofs.Ytpelcbonflijhaa

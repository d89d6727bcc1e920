/-
  bytes.Repeat of one byte, and the program's new flash. Own work; no statement of the seat is proved here.
-/
import Derived.Test.YtebndjnkmcahaaaGreatDoorKb
import Derived.Lib.MakeNoZero
namespace Go.Abs
set_option linter.unusedSimpArgs false
set_option linter.unusedVariables false
open Go Go.RowKit
theorem digits_u8 : ∀ (n t : Nat) (acc : Array Value), (∀ j, j < acc.size → (acc.getD j undef).oneCell' = true) → ∀ j, j < (Extern.BytealgMakeNoZero.digits n t acc).size → ((Extern.BytealgMakeNoZero.digits n t acc).getD j undef).oneCell' = true
  | 0, _, acc, h, j, hj => h j hj
  | n + 1, t, acc, h, j, hj => by
    refine digits_u8 n (t / 256) _ (fun i hi => ?_) j hj
    simp only [Array.size_push] at hi
    rcases Nat.lt_or_ge i acc.size with h1 | h1
    · have := h i h1
      rw [Array.getD_eq_getD_getElem?, Array.getElem?_push, if_neg (by omega)]
      rwa [Array.getD_eq_getD_getElem?] at this
    · obtain rfl : i = acc.size := by omega
      rw [Array.getD_eq_getD_getElem?, Array.getElem?_push_size]
      rfl
theorem run_mnz {P : Program} (w : World) (ps : Array TypeId) (t e : TypeId) (ht : P.underlying t = some (.slice e)) (n : Nat) (hn : n ≤ 281474976710656) :
    ∃ cs : Array Value, (Extern.BytealgMakeNoZero.makeNoZero ps #[t] #[.int .i64 n]).run P w = .ok (.slice (some ⟨w.heap.size, 0, none⟩) n cs.size) (w.drew.drew.alloc (.cells cs e)) ∧ n ≤ cs.size ∧ ∀ j, j < cs.size → (cs.getD j undef).oneCell' = true := by
  have hdef : Extern.BytealgMakeNoZero.makeNoZero ps #[t] #[.int .i64 n] =
      (do
        let .slice elem ← underlying t | stuck "bytealg.MakeNoZero: slice type expected"
        if (n : Int) < 0 || (n : Int) > 2 ^ 48 then runtimePanic (.error "makeslice: len out of range")
        let cap ← choose (.appendCap (n : Int).toNat 0 elem)
        askRoom cap
        let bytes ← choose (.extern "internal/bytealg.MakeNoZero.bytes" 0)
        let a ← newRow elem (Extern.BytealgMakeNoZero.digits cap bytes #[])
        pure (.slice (some a) (n : Int).toNat cap)) := rfl
  refine ⟨Extern.BytealgMakeNoZero.digits (grownCap w n 0 e) ((Question.extern "internal/bytealg.MakeNoZero.bytes" 0).cut (w.tape (w.drawn + 1) (.extern "internal/bytealg.MakeNoZero.bytes" 0))) #[], ?_, ?_, ?_⟩
  · rw [hdef]
    have h1 : ¬ (n : Int) < 0 := by omega
    have h2 : ¬ (281474976710656 : Int) < (n : Int) := by omega
    simp [run_underlying ht, h1, h2, Question.forced, newRow, Lib.size_digits, grownCap]
  · rw [Lib.size_digits]
    simpa using grownCap_ge w n 0 e
  · exact fun j hj => digits_u8 _ _ _ (fun i hi => by simp at hi) j hj
/-- the entry that makes a row of any bytes -/
theorem con_mnz {P : Program} {f : FuncId} {fn : Func} {ps : Array TypeId} {t e : TypeId} (hf : P.funcs[f]? = some fn) (hname : (fn.name == "runtime.NumGoroutine") = false) (hb : fn.body.isNone = true) (hn : Extern.findNext fn = none)
    (he : Extern.find fn = some (Extern.BytealgMakeNoZero.makeNoZero ps #[t])) (ht : P.underlying t = some (.slice e)) (n : Nat) (hn48 : n ≤ 281474976710656) : Con P f [.p (.v (.int .i64 n))] [] (.sl 0 0 n 1) [(0, some ⟨e, List.replicate n .any⟩)] where
  call := {
    tri := by
      intro ρ F us w hpre hz hr
      have hu := hr 0 _ rfl
      obtain ⟨u, rfl⟩ : ∃ u, us = #[u] := by
        have hz : us.size = 1 := hz
        obtain ⟨l⟩ := us
        match l, hz with
        | [u], _ => exact ⟨u, rfl⟩
      have hu : Rd ρ F w (.p (.v (.int .i64 n))) u := hu
      have hu := hu.pv
      subst hu
      obtain ⟨cs, hrun, hle, hone⟩ := run_mnz (P := P) w ps t e ht n hn48
      refine .inr ⟨_, _, by rw [run_callFunc_extern hf hname hb hn he, hrun]; rfl, rset ρ 0 w.heap.size, F, ?_⟩
      have hid : ρ 0 = none := hpre.fresh 0 (by simp [keys]) (by simp [liveK])
      refine Post.newBlk (w1 := w.drew.drew) hpre.fok hid (by simpa using hle) (fun j c hj => ?_) rfl rfl rfl rfl ?_
      · rw [List.getElem?_replicate] at hj
        split at hj
        · cases hj
          exact ⟨hone j (by omega), .any _⟩
        · cases hj
      · exact .sl _ _ _ _ w.heap.size _ (by simp [rset]) hle ⟨_, _, _, heap_alloc_new w.drew.drew _, by simp⟩ }
  ids := by simp [idsL, idsA]
  idh := trivial
  sub := fun i hi => by cases hi
end Go.Abs
namespace Go.Proofs.YtebndjnkmcahaaaGreatDoor
set_option linter.unusedSimpArgs false
set_option linter.unusedVariables false
open Go Go.Abs Go.RowKit

theorem mnz_c (n : Nat) (hn : n ≤ 281474976710656) : Con Tryz.prog 132 [.i n] [] (.sl 0 0 n 1) [(0, some ⟨byteT, List.replicate n .any⟩)] :=
  con_mnz Tryz.func132 (by kernel_rfl) (by kernel_rfl) (by kernel_rfl) (ps := #[3]) (t := 27) (by kernel_rfl) Tryz.underlying27 n hn

theorem mul64_c (n : Nat) (hn : n < 1000000) : FPure Tryz.prog 185 [.p (.v (.int .u64 1)), .p (.v (.int .u64 n))] (.tup [.p (.v (.int .u64 0)), .p (.v (.int .u64 n))]) := by
  refine fpure_x hmix Tryz.func185 rfl (by kernel_rfl) Tryz.ntmps185 Tryz.results185 (by simp) (by simp [idsL, idsA]) [0, 1, 4, 5, 6, 7, 8, 9, 10, 11, 12, 13] ?_; intro c hP h0 hE
  simp only [go_sem, ↓reduceIte, hP]
  have s1 : ishr .u64 1 32 = 0 := by decide
  have s2 : ishr .u64 (n : Int) 32 = 0 := by
    show Int.fdiv (n : Int) (2 ^ 32) = _
    rw [Int.fdiv_eq_ediv_of_nonneg _ (by decide)]
    omega
  have s0 : ishr .u64 0 32 = 0 := by decide
  have b1 : band .u64 1 4294967295 = 1 := by decide
  have b0 : band .u64 0 4294967295 = 0 := by decide
  have b2 : band .u64 (n : Int) 4294967295 = (n : Int) := by
    have := band_u64_nat n 4294967295 (by omega) (by omega)
    rw [show ((4294967295 : Nat) : Int) = 4294967295 from rfl] at this
    rw [this, show (4294967295 : Nat) = 2 ^ 32 - 1 from rfl, Nat.and_two_pow_sub_one_eq_mod, Nat.mod_eq_of_lt (by omega)]
  have w0 : IntKind.u64.wrap 0 = 0 := by decide
  have wn : IntKind.u64.wrap (n : Int) = n := wrap_u64_id (by omega) (by omega)
  simp only [s1, s2, b1, b2, Int.zero_mul, Int.mul_zero, Int.one_mul, w0, wn, s0, b0, Int.add_zero]
  first | done | exact ⟨rfl, rfl⟩ | exact ⟨rfl, trivial⟩ | trivial
theorem mul_c (n : Nat) (hn : n < 1000000) : FPure Tryz.prog 131 [.p (.v (.int .u64 1)), .p (.v (.int .u64 n))] (.tup [.p (.v (.int .u64 0)), .p (.v (.int .u64 n))]) := by
  refine fpure_x hmix Tryz.func131 rfl (by kernel_rfl) Tryz.ntmps131 Tryz.results131 (by simp) (by simp [idsL, idsA]) [0, 1, 4, 5, 6, 7, 8, 9] ?_; intro c hP h0 hE
  simp only [go_sem, ↓reduceIte, hP]
  first | refine xw_call hE (ks := [0, 1, 4, 5, 6, 7, 8, 9]) (n := 2000) (by rw [hP]; exact mul64_c n hn) ?_ | refine xd_call hE (ks := [0, 1, 4, 5, 6, 7, 8, 9]) (n := 2000) (by rw [hP]; exact mul64_c n hn) ?_
  simp only [go_sem, ↓reduceIte, hP]

@[simp] theorem idsL_any (T : List Nat) : ∀ n : Nat, idsL T (List.replicate n AV.any)
  | 0 => trivial
  | n + 1 => ⟨trivial, idsL_any T n⟩
theorem renL_any (τ : Nat → Nat) : ∀ n : Nat, renL τ (List.replicate n AV.any) = List.replicate n .any
  | 0 => rfl
  | n + 1 => by rw [List.replicate_succ, renL, renL_any τ n]; rfl
theorem viewAs_any (h : Heap) (S : List Nat) (σ : Nat → Nat) : ∀ n : Nat, viewAs h S σ (List.replicate n AV.any) (List.replicate n AV.any)
  | 0 => by simp [viewAs]
  | n + 1 => by rw [List.replicate_succ]; simp only [viewAs, viewA, true_and]; exact viewAs_any h S σ n
/-- a row of which the first i bytes are written -/
def repA (n i : Nat) : List AV := cb (List.replicate i 255) ++ List.replicate (n - i) .any
theorem repA_len {n i : Nat} (h : i ≤ n) : (repA n i).length = n := by simp [repA]; omega
theorem viewAs_appR (h : Heap) (S : List Nat) (σ : Nat → Nat) : ∀ (a b : List AV), viewAs h S σ a a → viewAs h S σ b b → viewAs h S σ (a ++ b) (a ++ b)
  | [], b, _, hb => hb
  | x :: a, b, ha, hb => by
    simp only [List.cons_append, viewAs] at ha ⊢
    exact ⟨ha.1, viewAs_appR h S σ a b ha.2 hb⟩
theorem repA_view (h : Heap) (S : List Nat) (σ : Nat → Nat) (n i : Nat) : viewAs h S σ (repA n i) (repA n i) := viewAs_appR _ _ _ _ _ (cb_viewA _ _ _ _) (viewAs_any _ _ _ _)
theorem setAt_app2 : ∀ (xs ys zs : List AV), xs.length ≤ zs.length → setAt (ys ++ zs) ys.length xs = ys ++ (xs ++ zs.drop xs.length) := by
  intro xs
  induction xs with
  | nil => intro ys zs _; simp [setAt]
  | cons x xs ih =>
    intro ys zs h
    cases zs with
    | nil => simp at h
    | cons z zs =>
      rw [setAt]
      have e : (ys ++ z :: zs).set ys.length x = (ys ++ [x]) ++ zs := by simp
      rw [e, show ys.length + 1 = (ys ++ [x]).length by simp, ih (ys ++ [x]) zs (by simpa using h)]
      simp
theorem repA_step {n i c : Nat} (h : i ≤ n) (hc : c ≤ i) : setAt (repA n i) i (((repA n i).take c).take (min c (n - i))) = repA n (i + min c (n - i)) := by
  have hm : min c (n - i) ≤ i := by omega
  have e1 : ((repA n i).take c).take (min c (n - i)) = cb (List.replicate (min c (n - i)) 255) := by
    rw [List.take_take, Nat.min_eq_left (Nat.min_le_left _ _)]
    unfold repA
    rw [List.take_append_of_le_length (by simpa using hm), cb_take]
    congr 1
    rw [List.take_replicate, Nat.min_eq_left hm]
  rw [e1]
  generalize hq : min c (n - i) = m at *
  have hmn : m ≤ n - i := by omega
  have := setAt_app2 (cb (List.replicate m 255)) (cb (List.replicate i 255)) (List.replicate (n - i) .any) (by simpa using hmn)
  simp only [cb_len, List.length_replicate] at this
  unfold repA
  rw [this, List.drop_replicate, ← List.append_assoc, cb_app, List.replicate_append_replicate]
  congr 2
  omega
theorem repA_0 (n : Nat) (h : 1 ≤ n) : (List.replicate n AV.any).set 0 (AV.p (.v (.int .u8 ((UInt8.toNat 255 : Nat) : Int)))) = repA n 1 := by
  cases n with
  | zero => omega
  | succ n => simp [setAt, List.replicate_succ, repA, cb, bt]

set_option maxHeartbeats 1000000 in
theorem repeat_c (n : Nat) (hn : n < 1000000) (h1 : 1 ≤ n) : FPure Tryz.prog 74 [.p (.data 1 1 [bt 255]), .i n] (.p (.data 1 n ((List.replicate n 255).map bt))) := by
  refine fpure_x hmix Tryz.func74 rfl (by kernel_rfl) Tryz.ntmps74 Tryz.results74 (by simp) (by simp [idsL, idsA]) [0, 1, 4, 5, 6, 7, 8, 9, 10, 11, 13, 16, 32, 38, 42, 50, 63] ?_; intro c hP h0 hE
  have wn : IntKind.u64.wrap (n : Int) = n := wrap_u64_id (by omega) (by omega)
  have wi : IntKind.i64.wrap (n : Int) = n := wrap_i64_id (by omega) (by omega)
  have w1 : IntKind.u64.wrap 1 = 1 := by decide
  have w8 : IntKind.i64.wrap (IntKind.i64.wrap (Int.tdiv 8192 1) * 1) = 8192 := by decide
  have m1 : min 1 n = 1 := by omega
  simp only [go_sem, ↓reduceIte, hP, show ¬ ((n : Int) = 0) from by omega, show ¬ ((n : Int) < 0) from by omega, wn, w1]
  first | refine xw_call hE (ks := [0, 1, 4, 5, 6, 7, 8, 9, 10, 11, 13, 16, 32, 38, 42, 50, 63]) (n := 2000) (by rw [hP]; exact mul_c n hn) ?_ | refine xd_call hE (ks := [0, 1, 4, 5, 6, 7, 8, 9, 10, 11, 13, 16, 32, 38, 42, 50, 63]) (n := 2000) (by rw [hP]; exact mul_c n hn) ?_
  simp only [go_sem, ↓reduceIte, hP, wi, w8, show ¬ ((n : Int) > 9223372036854775807) from by omega]
  by_cases h : (n : Int) > 8192
  · simp only [go_sem, ↓reduceIte, hP, h, show ¬ ((0 : Int) > 0) from by omega]
    refine xw_new hE (ks := [0, 1, 4, 5, 6, 7, 8, 9, 10, 11, 13, 16, 32, 38, 42, 50, 63]) (n := 2000) 1 (by rw [hP]; exact mnz_c n (by omega)) rfl rfl (by simp [idsA, idsL, keys]) (by simp [idsH, idsL, idsA]) ?_
    simp only [go_sem, ↓reduceIte, hP, m1, renL_any, repA_0 n h1]
    refine ⟨⟨by omega, by omega⟩, h1, ?_⟩
    refine xw_loop hE h0 [0, 1, 4, 5, 6, 7, 8, 9, 10, 11, 13, 16, 32, 38, 42, 50, 63] (α := { i : Nat // 1 ≤ i ∧ i ≤ n }) (fun i => ⟨77, [(7, .i n), (8, .i 8192), (9, .sl 0 0 n 1), (10, .i i.1)], [(0, some ⟨byteT, repA n i.1⟩)], 1⟩) (fun i => n - i.1) ⟨1, by omega, by omega⟩ [] (fun i => i) ?_ ?_
    · refine ⟨rfl, ?_, ?_, rfl, rfl, trivial, fun i h => h⟩
      · simp only [go_sem, ↓reduceIte]
      · simp only [go_sem, ↓reduceIte]
        exact repA_view _ _ _ _ _
    · rintro ⟨i, hi1, hin⟩
      rcases Nat.lt_or_ge i n with hlt | hge
      · have hc : ((i : Int) < (n : Int)) := by omega
        have hmin : (if (8192 : Int) < (i : Int) then (8192 : Int) else (i : Int)) = ((min i 8192 : Nat) : Int) := by
          split <;> omega
        have hw : IntKind.i64.wrap ((i : Int) + ((min (min i 8192) (n - i) : Nat) : Int)) = ((i + min (min i 8192) (n - i) : Nat) : Int) := by rw [wrap_i64_id (by omega) (by omega)]; omega
        simp only [go_sem, ↓reduceIte, hP, hc, hmin, hw, repA_len hin, repA_step hin (Nat.min_le_left i 8192)]
        refine ⟨⟨by omega, by omega, by omega⟩, ⟨by omega, by omega⟩, ⟨by omega, by omega⟩, by kernel_rfl, ⟨i + min (min i 8192) (n - i), by omega, by omega⟩, by simp only; omega, subG [0] rfl ?_ ?_ rfl rfl (Nat.le_refl _)⟩
        · simp only [go_sem, ↓reduceIte]
        · simp only [go_sem, ↓reduceIte]
          exact repA_view _ _ _ _ _
      · obtain rfl : i = n := by omega
        have hc : ¬ ((i : Int) < (i : Int)) := by omega
        simp only [go_sem, ↓reduceIte, hP, hc]
        have hr : repA i i = cb (List.replicate i 255) := by simp [repA]
        rw [hr, List.take_of_length_le (by simp)]
        exact ⟨⟨by simp, allQ_cb _⟩, unQs_cb _⟩
  · simp only [go_sem, ↓reduceIte, hP, h, show ¬ ((0 : Int) > 0) from by omega]
    refine xw_new hE (ks := [0, 1, 4, 5, 6, 7, 8, 9, 10, 11, 13, 16, 32, 38, 42, 50, 63]) (n := 2000) 1 (by rw [hP]; exact mnz_c n (by omega)) rfl rfl (by simp [idsA, idsL, keys]) (by simp [idsH, idsL, idsA]) ?_
    simp only [go_sem, ↓reduceIte, hP, m1, renL_any, repA_0 n h1]
    refine ⟨⟨by omega, by omega⟩, h1, ?_⟩
    refine xw_loop hE h0 [0, 1, 4, 5, 6, 7, 8, 9, 10, 11, 13, 16, 32, 38, 42, 50, 63] (α := { i : Nat // 1 ≤ i ∧ i ≤ n }) (fun i => ⟨77, [(7, .i n), (8, .i n), (9, .sl 0 0 n 1), (10, .i i.1)], [(0, some ⟨byteT, repA n i.1⟩)], 1⟩) (fun i => n - i.1) ⟨1, by omega, by omega⟩ [] (fun i => i) ?_ ?_
    · refine ⟨rfl, ?_, ?_, rfl, rfl, trivial, fun i h => h⟩
      · simp only [go_sem, ↓reduceIte]
      · simp only [go_sem, ↓reduceIte]
        exact repA_view _ _ _ _ _
    · rintro ⟨i, hi1, hin⟩
      rcases Nat.lt_or_ge i n with hlt | hge
      · have hc : ((i : Int) < (n : Int)) := by omega
        have hmin : (if (n : Int) < (i : Int) then (n : Int) else (i : Int)) = ((min i n : Nat) : Int) := by
          split <;> omega
        have hw : IntKind.i64.wrap ((i : Int) + ((min (min i n) (n - i) : Nat) : Int)) = ((i + min (min i n) (n - i) : Nat) : Int) := by rw [wrap_i64_id (by omega) (by omega)]; omega
        simp only [go_sem, ↓reduceIte, hP, hc, hmin, hw, repA_len hin, repA_step hin (Nat.min_le_left i n)]
        refine ⟨⟨by omega, by omega, by omega⟩, ⟨by omega, by omega⟩, ⟨by omega, by omega⟩, by kernel_rfl, ⟨i + min (min i n) (n - i), by omega, by omega⟩, by simp only; omega, subG [0] rfl ?_ ?_ rfl rfl (Nat.le_refl _)⟩
        · simp only [go_sem, ↓reduceIte]
        · simp only [go_sem, ↓reduceIte]
          exact repA_view _ _ _ _ _
      · obtain rfl : i = n := by omega
        have hc : ¬ ((i : Int) < (i : Int)) := by omega
        simp only [go_sem, ↓reduceIte, hP, hc]
        have hr : repA i i = cb (List.replicate i 255) := by simp [repA]
        rw [hr, List.take_of_length_le (by simp)]
        exact ⟨⟨by simp, allQ_cb _⟩, unQs_cb _⟩

theorem pnewFlash_c (ps : Int) : FPure Tryz.prog 25 [.i ps, .i 2] (.tup [flAV (newFl ps 2), .i (newErr ps 2)]) := by
  refine fpure_x hmix Tryz.func25 rfl (by kernel_rfl) Tryz.ntmps25 Tryz.results25 (by simp) (by simp [idsL, idsA]) [0, 1, 4, 5, 16] ?_; intro c hP h0 hE
  obtain ⟨F, hF⟩ : ∃ F, newFl ps 2 = F := ⟨_, rfl⟩
  obtain ⟨e, he⟩ : ∃ e, newErr ps 2 = e := ⟨_, rfl⟩
  rw [hF, he] at hE ⊢
  unfold newFl at hF
  unfold newErr at he
  simp only [go_sem, ↓reduceIte, hP]
  first | refine xw_call hE (ks := [0, 1, 4, 5, 16]) (n := 2000) (by rw [hP]; exact fsized_c ps) ?_ | refine xd_call hE (ks := [0, 1, 4, 5, 16]) (n := 2000) (by rw [hP]; exact fsized_c ps) ?_
  by_cases h : 512 ≤ ps ∧ ps ≤ 8192
  · rw [if_neg (by omega)] at hF he
    subst hF he
    obtain ⟨p, rfl⟩ := Int.eq_ofNat_of_zero_le (show 0 ≤ ps by omega)
    have hw : IntKind.i64.wrap ((p : Int) * 2) = ((p * 2 : Nat) : Int) := by rw [wrap_i64_id (by omega) (by omega)]; omega
    have e2 : ((p : Int) * 2).toNat = p * 2 := by omega
    rw [e2] at hE
    simp only [go_sem, ↓reduceIte, hP, h, decide_true, hw, show ¬ ((2 : Int) > 8) from by omega]
    first | refine xw_callF hE (ks := [0, 1, 4, 5, 16]) (n := 2000) ?_ ?_ rfl (by rw [hP]; exact repeat_c (p * 2) (by omega) (by omega)) (by simp only [go_sem, idsA, idsL, and_self]) ?_ | refine xd_callF hE (ks := [0, 1, 4, 5, 16]) (n := 2000) ?_ ?_ rfl (by rw [hP]; exact repeat_c (p * 2) (by omega) (by omega)) (by simp only [go_sem, idsA, idsL, and_self]) ?_
    · simp only [go_sem, ↓reduceIte]
      rfl
    · simp only [go_sem, ↓reduceIte]
    simp only [go_sem, ↓reduceIte, hP]
  · rw [if_pos (by omega)] at hF he
    subst hF he
    simp only [go_sem, ↓reduceIte, hP, h, decide_false]

end Go.Proofs.YtebndjnkmcahaaaGreatDoor

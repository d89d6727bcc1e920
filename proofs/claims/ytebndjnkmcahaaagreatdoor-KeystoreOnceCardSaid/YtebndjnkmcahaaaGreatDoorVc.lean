/- joined of several texts; own work; no statement of the seat is proved but in the last -/
import Derived.Test.YtebndjnkmcahaaaGreatDoorVa
/-
  Contracts of the vault's parse and the reference's pairs. Own work; no statement of the seat is proved here.
-/
section
namespace Go.Proofs.YtebndjnkmcahaaaGreatDoor
set_option linter.unusedSimpArgs false
set_option linter.unusedVariables false
open Go Go.Abs Go.RowKit

/-- the pairs of a record; none if it has another form -/
def parseN : Nat → List UInt8 → Option Store
  | 0, _ => some []
  | f + 1, b => if b = [] then some [] else
    if b.length < 3 then none else
    if b.length - 3 < lenAt b 1 then none else
    match parseN f (b.drop (3 + lenAt b 1)) with
    | some l => some (((((b.getD 0 0).toNat : Nat) : Int), (b.drop 3).take (lenAt b 1)) :: l)
    | none => none
def parseO (b : List UInt8) : Option Store := parseN b.length b
def parseM (b : List UInt8) : Store := (parseO b).getD []
theorem parseN_enough : ∀ (f f' : Nat) (b : List UInt8), b.length ≤ f → b.length ≤ f' → parseN f b = parseN f' b
  | 0, 0, b, _, _ => rfl
  | 0, f' + 1, b, h, _ => by
    have : b = [] := List.eq_nil_of_length_eq_zero (by omega)
    subst this; simp [parseN]
  | f + 1, 0, b, _, h => by
    have : b = [] := List.eq_nil_of_length_eq_zero (by omega)
    subst this; simp [parseN]
  | f + 1, f' + 1, b, h, h' => by
    simp only [parseN]
    split
    · rfl
    · split
      · rfl
      · split
        · rfl
        · rw [parseN_enough f f' (b.drop (3 + lenAt b 1)) (by simp; omega) (by simp; omega)]
theorem parseO_next (b : List UInt8) (h0 : b ≠ []) (h1 : ¬ b.length < 3) (h2 : ¬ b.length - 3 < lenAt b 1) :
    parseO b = (parseO (b.drop (3 + lenAt b 1))).map fun l => ((((b.getD 0 0).toNat : Nat) : Int), (b.drop 3).take (lenAt b 1)) :: l := by
  unfold parseO
  obtain ⟨f, hf⟩ : ∃ f, b.length = f + 1 := ⟨b.length - 1, by omega⟩
  rw [hf]
  simp only [parseN]
  rw [if_neg h0, if_neg h1, if_neg h2, parseN_enough f (b.drop (3 + lenAt b 1)).length _ (by simp; omega) (Nat.le_refl _)]
  cases parseN (b.drop (3 + lenAt b 1)).length (b.drop (3 + lenAt b 1)) <;> rfl

theorem parseO_nil : parseO [] = some [] := rfl
theorem parseO_short (r : List UInt8) (h0 : r ≠ []) (h : r.length < 3) : parseO r = none := by
  unfold parseO
  obtain ⟨f, hf⟩ : ∃ f, r.length = f + 1 := ⟨r.length - 1, by have := List.length_pos_iff.2 h0; omega⟩
  rw [hf]; simp only [parseN]; rw [if_neg h0, if_pos h]
theorem parseO_cut (r : List UInt8) (h0 : r ≠ []) (h1 : ¬ r.length < 3) (h : r.length - 3 < lenAt r 1) : parseO r = none := by
  unfold parseO
  obtain ⟨f, hf⟩ : ∃ f, r.length = f + 1 := ⟨r.length - 1, by omega⟩
  rw [hf] at h1 h ⊢; simp only [parseN]; rw [if_neg h0, hf, if_neg h1, if_pos h]
theorem lenAt_is (r : List UInt8) : bor .i64 (ishl .i64 (IntKind.i64.wrap ((r.getD 1 0).toNat : Int)) 8) (IntKind.i64.wrap ((r.getD 2 0).toNat : Int)) = ((lenAt r 1 : Nat) : Int) := by
  have h1 := (r.getD 1 0).toNat_lt
  have h2 := (r.getD 2 0).toNat_lt
  rw [wrap_i64_id (by omega) (by omega), wrap_i64_id (by omega) (by omega), band_shape _ _ h1 h2]
  rfl
theorem byte_i (x : UInt8) : IntKind.i64.wrap (x.toNat : Int) = (x.toNat : Int) := by
  have := x.toNat_lt
  rw [wrap_i64_id (by omega) (by omega)]
theorem head_bt0 (bs : List UInt8) : headP (.v (.int .u8 0)) (bs.map bt) = bt (bs.getD 0 0) := by
  have := head_bt bs 0
  simpa using this
/-- pairs as cells of an owned block -/
def prA (l : Store) : List AV := (prCs l).map .p
theorem prA_len (l : Store) : (prA l).length = l.length * 2 := by simp [prA, prCs_len]
theorem prA_snoc (l : Store) (k : Int) (v : List UInt8) : prA l ++ [.p (.v (.int .i64 k)), .p (.data 1 v.length (v.map bt))] = prA (l ++ [(k, v)]) := by simp [prA, prCs_app, prCs_cons, prCs_nil, byP]
theorem prA_view (h : Heap) (S : List Nat) (σ : Nat → Nat) (l : Store) : viewAs h S σ (prA l) (prA l) := viewAs_pure h S σ _
theorem allQ_prA (l : Store) : allQ (prA l) := allQ_map _
theorem unQs_prA (l : Store) : unQs (prA l) = prCs l := unQs_map _
theorem idsL_prA (T : List Nat) (l : Store) : idsL T (prA l) := idsL_map T _
theorem renL_prA (τ : Nat → Nat) (l : Store) : renL τ (prA l) = prA l := renL_map τ _
theorem prA_take (l : Store) (n : Nat) : (prA l).take (n * 2) = prA (l.take n) := by unfold prA; rw [← List.map_take, prCs_take]
theorem prA_all (l : Store) : (prA l).take (l.length * 2) = prA l := by rw [prA_take, List.take_of_length_le (Nat.le_refl _)]
attribute [go_sem] List.flatten_cons List.flatten_nil List.append_nil prA_len prA_snoc allQ_prA unQs_prA renL_prA prA_all

structure ParsAt (b : List UInt8) (n : Nat) (r : List UInt8) (l : Store) : Prop where
  le : r.length ≤ n
  is : parseO b = (parseO r).map (l ++ ·)
  sz : l.length ≤ n

set_option maxHeartbeats 2000000 in
theorem vparse_c (b : List UInt8) (n : Nat) (hn : b.length = n) (hb : n < 1000000000) : FPure Tryz.prog 155 [.p (.data 1 n (b.map bt))] (.p (PL (parseM b))) := by
  refine fpure_x hmix Tryz.func155 rfl (by kernel_rfl) Tryz.ntmps155 Tryz.results155 (by simp) (by simp [idsL, idsA]) [0, 2, 3, 4, 5, 8, 11, 31] ?_; intro c hP h0 hE
  simp only [go_sem, ↓reduceIte, hP]
  refine saw_new 94 ?_
  refine xw_loop hE h0 [0, 2, 3, 4, 5, 8, 11, 31] (α := { x : List UInt8 × Store // x.1.length ≤ n ∧ parseO b = (parseO x.1).map (x.2 ++ ·) ∧ x.2.length + x.1.length ≤ n })
    (fun x => ⟨45, [(0, .p (.data 1 x.1.1.length (x.1.1.map bt))), (3, .sl 0 0 x.1.2.length 2)], [(0, some ⟨94, prA x.1.2⟩)], 1⟩) (fun x => x.1.1.length) ⟨(b, []), by show b.length ≤ n; omega, by simp, by simp; omega⟩ [] (fun i => i) ?_ ?_
  · refine ⟨rfl, ?_, ?_, rfl, rfl, trivial, fun i h => h⟩
    · simp only [go_sem, ↓reduceIte, hn]
    · simp only [go_sem, ↓reduceIte]
      simp [prA, prCs_nil, viewAs]
  · rintro ⟨⟨r, l⟩, h1, h2, h3⟩
    simp only at h1 h2 h3
    have hln := lenAt_is r
    have hk0 := byte_i (r.getD 0 0)
    have hd3 : (r.drop 3).take (r.length - 3) = r.drop 3 := List.take_of_length_le (by simp)
    simp only [go_sem, ↓reduceIte, hP, head_bt0, PL, hln, hk0, hd3]
    have hnone : parseO r = none → parseM b = [] := fun h => by unfold parseM; rw [h2, h]; rfl
    split
    · rename_i hpos
      have hne : r ≠ [] := fun e => by subst e; simp at hpos
      split
      · rw [hnone (parseO_short r hne (by omega))]
        exact ⟨rfl, rfl⟩
      · rename_i h3l
        refine ⟨by omega, by omega, by omega, by omega, by omega, by omega, by kernel_rfl, ⟨by omega, by omega⟩, ?_⟩
        split
        · rw [hnone (parseO_cut r hne (by omega) (by omega))]
          exact ⟨rfl, rfl⟩
        · refine ⟨⟨by omega, by omega⟩, ?_⟩
          have hq : lenAt r 1 ≤ r.length - 3 := by omega
          have hql : ((r.drop 3).take (lenAt r 1)).length = lenAt r 1 := by simp; omega
          have hnext := parseO_next r hne (by omega) (by omega)
          have hcell : prA l ++ [.p (.v (.int .i64 ((r.getD 0 0).toNat : Int))), .p (.data 1 (lenAt r 1) (((r.drop 3).take (lenAt r 1)).map bt))] = prA (l ++ [(((r.getD 0 0).toNat : Int), (r.drop 3).take (lenAt r 1))]) := by
            rw [← prA_snoc, hql]
          have hd : (r.drop 3).drop (lenAt r 1) = r.drop (3 + lenAt r 1) := by rw [List.drop_drop]
          have hdt : (r.drop (3 + lenAt r 1)).take (r.length - 3 - lenAt r 1) = r.drop (3 + lenAt r 1) := List.take_of_length_le (by simp; omega)
          have hdl : (r.drop (3 + lenAt r 1)).length = r.length - 3 - lenAt r 1 := by simp; omega
          rw [hcell, hd, hdt]
          refine ⟨⟨by omega, by omega⟩, ⟨by omega, by omega, by omega⟩, ⟨(r.drop (3 + lenAt r 1), l ++ [(((r.getD 0 0).toNat : Int), (r.drop 3).take (lenAt r 1))]), ?_, ?_, ?_⟩, ?_, subG [2] rfl ?_ ?_ rfl rfl (Nat.le_refl _)⟩
          · show (r.drop (3 + lenAt r 1)).length ≤ n; omega
          · rw [h2, hnext]
            cases parseO (r.drop (3 + lenAt r 1)) <;> simp
          · show (l ++ [_]).length + (r.drop (3 + lenAt r 1)).length ≤ n
            rw [List.length_append, hdl]; simp; omega
          · show (r.drop (3 + lenAt r 1)).length < r.length; omega
          · simp only [go_sem, ↓reduceIte, hdl]
            (try simp)
          · simp only [go_sem, ↓reduceIte]
            exact prA_view _ _ _ _
    · have : r = [] := List.eq_nil_of_length_eq_zero (by omega)
      subst this
      have : parseM b = l := by unfold parseM; rw [h2, parseO_nil]; simp
      rw [this]
      exact ⟨Nat.le_refl _, rfl, rfl⟩

theorem subGS (S l : List Nat) {st st' : AS} (n : st'.n = st.n) (slots : subSl (hget st.hp) S (sg st.nx l) st.sl st'.sl) (blocks : subHp (hget st.hp) S (sg st.nx l) st'.hp) (nd : nodupB ((liveK st'.hp).map (sg st.nx l)) = true) (lt : ltAll st'.nx (liveK st'.hp) = true) (live : liveS st.hp S) (nx : l.length ≤ st'.nx) :
    ∃ S σ, Sub S σ st st' := ⟨S, sg st.nx l, n, slots, blocks, nd, lt, live, fun _ h => sg_fresh l _ _ (Nat.le_trans nx h)⟩
set_option maxHeartbeats 2000000 in
theorem rpairs_c (b : List UInt8) (n : Nat) (hn : b.length = n) (hb : n < 1000000000) : FPure Tryz.prog 194 [.p (.data 1 n (b.map bt))] (.tup [.p (PL (parseM b)), .b (parseO b).isSome]) := by
  refine fpure_x hmix Tryz.func194 rfl (by kernel_rfl) Tryz.ntmps194 Tryz.results194 (by simp) (by simp [idsL, idsA]) [0, 2, 3, 4, 5, 8, 27] ?_; intro c hP h0 hE
  simp only [go_sem, ↓reduceIte, hP]
  refine saw_new 94 ?_
  refine xw_loop hE h0 [0, 2, 3, 4, 5, 8, 27] (α := { x : List UInt8 × Store // x.1.length ≤ n ∧ parseO b = (parseO x.1).map (x.2 ++ ·) ∧ x.2.length + x.1.length ≤ n })
    (fun x => ⟨56, [(0, .p (.data 1 x.1.1.length (x.1.1.map bt))), (4, .sl 0 0 x.1.2.length 2)], [(0, some ⟨94, prA x.1.2⟩)], 1⟩) (fun x => x.1.1.length) ⟨(b, []), by show b.length ≤ n; omega, by simp, by simp; omega⟩ [] (fun i => i) ?_ ?_
  · refine ⟨rfl, ?_, ?_, rfl, rfl, trivial, fun i h => h⟩
    · simp only [go_sem, ↓reduceIte, hn]
    · simp only [go_sem, ↓reduceIte]
      simp [prA, prCs_nil, viewAs]
  · rintro ⟨⟨r, l⟩, h1, h2, h3⟩
    simp only at h1 h2 h3
    have hln := lenAt_is r
    have hk0 := byte_i (r.getD 0 0)
    have hd3 : (r.drop 3).take (r.length - 3) = r.drop 3 := List.take_of_length_le (by simp)
    simp only [go_sem, ↓reduceIte, hP, head_bt0, PL, hln, hk0, hd3]
    have hnone : parseO r = none → parseM b = [] ∧ (parseO b).isSome = false := fun h => by unfold parseM; rw [h2, h]; exact ⟨rfl, rfl⟩
    split
    · rename_i hpos
      have hne : r ≠ [] := fun e => by subst e; simp at hpos
      have hlt := lenAt_lt r 1
      rw [wrap_i64_id (n := (r.length : Int) - 3) (by omega) (by omega), wrap_i64_id (n := 3 + ((lenAt r 1 : Nat) : Int)) (by omega) (by omega)]
      split
      · rename_i h3l
        refine ⟨by omega, by omega, by omega, by omega, by kernel_rfl, ?_⟩
        split
        · obtain ⟨e1, e2⟩ := hnone (parseO_cut r hne (by omega) (by omega))
          rw [e1, e2]
          exact ⟨⟨rfl, rfl⟩, rfl⟩
        · have hq : lenAt r 1 ≤ r.length - 3 := by omega
          have hql : ((r.drop 3).take (lenAt r 1)).length = lenAt r 1 := by simp; omega
          have hnext := parseO_next r hne (by omega) (by omega)
          have hn3 : (3 + ((lenAt r 1 : Nat) : Int)).toNat = 3 + lenAt r 1 := by omega
          have hn4 : 3 + lenAt r 1 - 3 = lenAt r 1 := by omega
          have hdt : (r.drop (3 + lenAt r 1)).take (r.length - (3 + lenAt r 1)) = r.drop (3 + lenAt r 1) := List.take_of_length_le (by simp)
          have hdl : (r.drop (3 + lenAt r 1)).length = r.length - (3 + lenAt r 1) := by simp
          rw [hn3, hn4, hdt]
          refine ⟨by omega, by omega, by omega, by omega, by kernel_rfl, by omega, by omega, ⟨by omega, by omega⟩, ⟨by omega, by omega⟩, ⟨by omega, by omega⟩, by kernel_rfl, ⟨by omega, by omega, by omega⟩, ⟨(r.drop (3 + lenAt r 1), l ++ [(((r.getD 0 0).toNat : Int), (r.drop 3).take (lenAt r 1))]), ?_, ?_, ?_⟩, ?_, subGS [1] [3] rfl ?_ ?_ rfl rfl ?_ (Nat.le_refl _)⟩
          · show (r.drop (3 + lenAt r 1)).length ≤ n; omega
          · rw [h2, hnext]
            cases parseO (r.drop (3 + lenAt r 1)) <;> simp
          · show (l ++ [_]).length + (r.drop (3 + lenAt r 1)).length ≤ n
            rw [List.length_append, hdl]; simp; omega
          · show (r.drop (3 + lenAt r 1)).length < r.length; omega
          · simp only [go_sem, ↓reduceIte, hdl]
            (try simp)
          · simp only [go_sem, ↓reduceIte]
            rw [← prA_snoc, hql]
            refine viewAs_app _ _ (prA_view _ _ _ _) ?_
            simp only [viewAs, viewA, viewP]
            refine ⟨trivial, ⟨by simp, trivial, trivial, ⟨byteT, List.map AV.p (List.map bt (List.take (lenAt r 1) (List.drop 3 r)))⟩, rfl, by simp; omega, ?_⟩, trivial⟩
            show viewPs _ _ _ (((List.map AV.p (List.map bt (List.take (lenAt r 1) (List.drop 3 r)))).drop 0).take (lenAt r 1 * 1))
            rw [List.drop_zero, Nat.mul_one]
            generalize List.take (lenAt r 1) (List.drop 3 r) = X at hql ⊢
            rw [List.take_of_length_le (by simp; omega)]
            exact viewPs_refl _ _ _
          · simp only [go_sem, ↓reduceIte, Option.isSome_some]
      · obtain ⟨e1, e2⟩ := hnone (parseO_short r hne (by omega))
        rw [e1, e2]
        exact ⟨by kernel_rfl, ⟨rfl, rfl⟩, rfl⟩
    · have : r = [] := List.eq_nil_of_length_eq_zero (by omega)
      subst this
      have e0 : parseO b = some l := by rw [h2, parseO_nil]; simp
      have : parseM b = l := by unfold parseM; rw [e0]; rfl
      rw [this, e0]
      exact ⟨Nat.le_refl _, ⟨rfl, rfl⟩, rfl⟩

end Go.Proofs.YtebndjnkmcahaaaGreatDoor
end
/-
  Contracts of the reference's With, Stored, SamePairs. Own work; no statement of the seat is proved here.
-/
section
namespace Go.Proofs.YtebndjnkmcahaaaGreatDoor
set_option linter.unusedSimpArgs false
set_option linter.unusedVariables false
open Go Go.Abs Go.RowKit

/-- one pair put among others -/
def with1 (p : Int × List UInt8) : Bool → Store → Store
  | d, [] => if d then [] else [p]
  | d, q :: r => (if d = false ∧ q.1 ≥ p.1 then [p] else []) ++ (if q.1 ≠ p.1 then [q] else []) ++ with1 p (d || decide (q.1 ≥ p.1)) r
def withM (old l : Store) : Store := l.foldl (fun o p => with1 p (decide (p.2.length = 0)) o) old
theorem with1_len (p : Int × List UInt8) : ∀ (d : Bool) (r : Store), (with1 p d r).length ≤ r.length + 1
  | d, [] => by simp only [with1]; split <;> simp
  | d, q :: r => by
    have ih := with1_len p (d || decide (q.1 ≥ p.1)) r
    have ih2 := with1_len2 p r
    simp only [with1, List.length_append, List.length_cons]
    cases d with
    | true => simp only [Bool.true_or] at ih ⊢; split <;> split <;> simp at * <;> omega
    | false =>
      by_cases h : q.1 ≥ p.1
      · simp only [h, decide_true, Bool.or_true, and_self, if_true] at ih ⊢
        split <;> simp at * <;> omega
      · simp only [h, and_false, if_false] at ih ⊢
        split <;> simp at * <;> omega
where
  with1_len2 (p : Int × List UInt8) : ∀ (r : Store), (with1 p true r).length ≤ r.length
  | [] => by simp [with1]
  | q :: r => by
    have ih := with1_len2 p r
    simp only [with1, List.length_append, List.length_cons, Bool.true_or]
    split <;> split <;> simp at * <;> omega

set_option maxHeartbeats 4000000 in
theorem rwith_c (old l : Store) (h1 : old.length + l.length < 1000000) : FPure Tryz.prog 143 [.p (PL old), .p (PL l)] (.p (PL (withM old l))) := by
  refine fpure_x hmix Tryz.func143 rfl (by kernel_rfl) Tryz.ntmps143 Tryz.results143 (by simp) (by simp [idsL, idsA]) [0, 1, 4, 5, 6, 7, 8, 12, 25, 42, 60, 69] ?_; intro c hP h0 hE
  simp only [go_sem, ↓reduceIte, hP, PL]
  have hstep : ∀ i, i < l.length → withM old (l.take (i + 1)) = with1 (l.getD i (0, [])) (decide ((l.getD i (0, [])).2.length = 0)) (withM old (l.take i)) := fun i h => by
    unfold withM; rw [take_at l i h, List.foldl_append]; rfl
  have hlen : ∀ i, i ≤ l.length → (withM old (l.take i)).length ≤ old.length + i := fun i => by
    induction i with
    | zero => intro _; simp [withM]
    | succ i ih =>
      intro h
      rw [hstep i (by omega)]
      have := with1_len (l.getD i (0, [])) (decide ((l.getD i (0, [])).2.length = 0)) (withM old (l.take i))
      have := ih (by omega)
      omega
  refine xw_for hE h0 [0, 1, 4, 5, 6, 7, 8, 12, 25, 42, 60, 69] l.length (fun i => ⟨79, [(0, .p (PL (withM old (l.take i)))), (1, .p (PL l)), (5, .i i)], [], 0⟩) [] (fun i => i) ?_ ?_
  · refine ⟨rfl, ?_, trivial, rfl, rfl, trivial, fun i h => h⟩
    simp only [go_sem, ↓reduceIte, PL]
    simp [withM]
  · intro i hi
    rcases Nat.lt_or_ge i l.length with hin | hin
    · have hat := prCs_at l i hin
      have hc : ((i : Int) < (l.length : Int)) := by omega
      have hl1 := hlen i (by omega)
      have hst := hstep i hin
      generalize withM old (l.take i) = o at *
      generalize l.getD i (0, []) = p at *
      simp only [go_sem, ↓reduceIte, hP, PL, hat, hc, byP]
      refine ⟨by omega, ?_⟩
      refine saw_new 94 ?_
      refine xw_loop hE h0 [0, 1, 4, 5, 6, 7, 8, 12, 25, 42, 60, 69] (α := { x : Nat × Store × Bool // x.1 ≤ o.length ∧ with1 p (decide (p.2.length = 0)) o = x.2.1 ++ with1 p x.2.2 (o.drop x.1) ∧ x.2.1.length ≤ 2 * x.1 })
        (fun x => ⟨79, [(0, .p (PL o)), (1, .p (PL l)), (5, .i i), (6, .sl 0 0 x.1.2.1.length 2), (7, .b x.1.2.2), (8, .i x.1.1)], [(0, some ⟨94, prA x.1.2.1⟩)], 1⟩) (fun x => o.length - x.1.1) ⟨(0, [], decide (p.2.length = 0)), Nat.zero_le _, by simp, by simp⟩ [] (fun i => i) ?_ ?_
      · refine ⟨rfl, ?_, ?_, rfl, rfl, trivial, fun i h => h⟩
        · simp only [go_sem, ↓reduceIte, PL]
          simp
          cases p.2 <;> simp
          try omega
        · simp only [go_sem, ↓reduceIte]
          simp [prA, prCs_nil, viewAs]
      · rintro ⟨⟨k, out, d⟩, k1, k2, k3⟩
        simp only at k1 k2 k3
        rcases Nat.lt_or_ge k o.length with hkn | hkn
        · have hat2 := prCs_at o k hkn
          have hc2 : ((k : Int) < (o.length : Int)) := by omega
          have hdrop : o.drop k = o.getD k (0, []) :: o.drop (k + 1) := by rw [List.drop_eq_getElem_cons hkn]; simp [List.getD_eq_getElem?_getD, hkn]
          rw [hdrop] at k2
          simp only [with1] at k2
          generalize o.getD k (0, []) = q at *
          simp only [go_sem, ↓reduceIte, hP, PL, hat, hat2, hc, hc2, byP]
          have hw : IntKind.i64.wrap ((k : Int) + 1) = ((k + 1 : Nat) : Int) := by rw [wrap_i64_id (by omega) (by omega)]; omega
          rw [hw]
          cases d with
          | false =>
            have hd : True := trivial
            rw [if_pos rfl]
            refine ⟨by omega, by omega, by kernel_rfl, ?_⟩
            by_cases hq : q.1 ≥ p.1
            · rw [if_pos hq]
              refine ⟨by omega, ⟨by omega, by omega⟩, by omega, by omega, by kernel_rfl, ?_⟩
              by_cases he : q.1 = p.1
              · rw [if_neg (fun h => h he)]
                refine ⟨⟨(k + 1, out ++ [p], true), by show k + 1 ≤ _; omega, ?_, ?_⟩, by show o.length - (k + 1) < o.length - k; omega, subG [2] rfl ?_ ?_ rfl rfl (Nat.le_refl _)⟩
                · rw [k2]; simp [*]
                · (try simp); (try omega)
                · simp only [go_sem, ↓reduceIte, PL]
                  (try simp [*])
                · simp only [go_sem, ↓reduceIte]
                  exact prA_view _ _ _ _
              · rw [if_pos he]
                refine ⟨by omega, ⟨by omega, by omega⟩, ?_⟩
                refine ⟨⟨(k + 1, out ++ [p] ++ [q], true), by show k + 1 ≤ _; omega, ?_, ?_⟩, by show o.length - (k + 1) < o.length - k; omega, subG [4] rfl ?_ ?_ rfl rfl (Nat.le_refl _)⟩
                · rw [k2]; simp [*]
                · (try simp); (try omega)
                · simp only [go_sem, ↓reduceIte, PL]
                  (try simp [*])
                · simp only [go_sem, ↓reduceIte]
                  exact prA_view _ _ _ _
            · rw [if_neg hq]
              refine ⟨by omega, by omega, by kernel_rfl, ?_⟩
              have he : ¬ q.1 = p.1 := by omega
              rw [if_pos he]
              refine ⟨by omega, ⟨by omega, by omega⟩, ?_⟩
              refine ⟨⟨(k + 1, out ++ [q], false), by show k + 1 ≤ _; omega, ?_, ?_⟩, by show o.length - (k + 1) < o.length - k; omega, subG [2] rfl ?_ ?_ rfl rfl (Nat.le_refl _)⟩
              · rw [k2]; simp [*]
              · (try simp); (try omega)
              · simp only [go_sem, ↓reduceIte, PL]
                (try simp [*])
              · simp only [go_sem, ↓reduceIte]
                exact prA_view _ _ _ _
          | true =>
            have hd : True := trivial
            rw [if_neg (by simp)]
            refine ⟨by kernel_rfl, by omega, by omega, by kernel_rfl, ?_⟩
            by_cases he : q.1 = p.1
            · rw [if_neg (fun h => h he)]
              refine ⟨⟨(k + 1, out, true), by show k + 1 ≤ _; omega, ?_, ?_⟩, by show o.length - (k + 1) < o.length - k; omega, subG [0] rfl ?_ ?_ rfl rfl (Nat.le_refl _)⟩
              · rw [k2]; simp [*]
              · (try simp); (try omega)
              · simp only [go_sem, ↓reduceIte, PL]
                (try simp [*])
              · simp only [go_sem, ↓reduceIte]
                exact prA_view _ _ _ _
            · rw [if_pos he]
              refine ⟨by omega, ⟨by omega, by omega⟩, ?_⟩
              refine ⟨⟨(k + 1, out ++ [q], true), by show k + 1 ≤ _; omega, ?_, ?_⟩, by show o.length - (k + 1) < o.length - k; omega, subG [2] rfl ?_ ?_ rfl rfl (Nat.le_refl _)⟩
              · rw [k2]; simp [*]
              · (try simp); (try omega)
              · simp only [go_sem, ↓reduceIte, PL]
                (try simp [*])
              · simp only [go_sem, ↓reduceIte]
                exact prA_view _ _ _ _
        · obtain rfl : k = o.length := by omega
          have hnc : ¬ ((o.length : Int) < (o.length : Int)) := by omega
          rw [List.drop_eq_nil_of_le (Nat.le_refl _)] at k2
          simp only [with1] at k2
          simp only [go_sem, ↓reduceIte, hP, PL, hnc, hat, hc, byP]
          have hw : IntKind.i64.wrap ((i : Int) + 1) = ((i + 1 : Nat) : Int) := by rw [wrap_i64_id (by omega) (by omega)]; omega
          rw [hw, hst, k2]
          cases d with
          | false =>
            rw [if_pos rfl, if_neg (by simp)]
            refine ⟨by omega, ⟨by omega, by omega⟩, hin, subGS [2] [] rfl ?_ ?_ rfl rfl ?_ (Nat.le_refl _)⟩
            · simp only [go_sem, ↓reduceIte, PL]
              refine ⟨by simp, ⟨94, prA (out ++ [p])⟩, rfl, by show _ ≤ (prA (out ++ [p])).length; rw [prA_len]; simp, ?_⟩
              show viewPs _ _ _ ((prA (out ++ [p])).take ((out.length + 1) * 2))
              rw [show out.length + 1 = (out ++ [p]).length by simp, prA_all]
              exact viewPs_refl _ _ _
            · simp only [go_sem, ↓reduceIte]
            · simp only [go_sem, ↓reduceIte, Option.isSome_some]
          | true =>
            rw [if_neg (by simp), if_pos rfl, List.append_nil]
            refine ⟨hin, subGS [0] [] rfl ?_ ?_ rfl rfl ?_ (Nat.le_refl _)⟩
            · simp only [go_sem, ↓reduceIte, PL]
              refine ⟨by simp, ⟨94, prA out⟩, rfl, by show _ ≤ (prA out).length; rw [prA_len]; exact Nat.le_refl _, ?_⟩
              show viewPs _ _ _ ((prA out).take (out.length * 2))
              rw [prA_all]
              exact viewPs_refl _ _ _
            · simp only [go_sem, ↓reduceIte]
            · simp only [go_sem, ↓reduceIte, Option.isSome_some]
    · obtain rfl : i = l.length := by omega
      have hnc : ¬ ((l.length : Int) < (l.length : Int)) := by omega
      simp only [go_sem, ↓reduceIte, hP, PL, hnc]
      rw [List.take_of_length_le (Nat.le_refl _)]
      (try exact ⟨rfl, rfl⟩)

end Go.Proofs.YtebndjnkmcahaaaGreatDoor
end

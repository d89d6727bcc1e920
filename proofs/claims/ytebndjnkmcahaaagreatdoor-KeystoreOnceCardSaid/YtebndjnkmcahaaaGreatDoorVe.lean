/-
  Contracts of the reference's Open, Get, Put. Own work; no statement of the seat is proved here.
-/
import Derived.Test.YtebndjnkmcahaaaGreatDoorVd
namespace Go.Proofs.YtebndjnkmcahaaaGreatDoor
set_option linter.unusedSimpArgs false
set_option linter.unusedVariables false
open Go Go.Abs Go.RowKit

/-- the reference's Open -/
def ropenE (j : Jn) (left : Int) : VR :=
  if j.torn = false then ⟨⟨j, storedM j⟩, left, 0⟩ else
  if (rrewriteM j (snapM (storedM j)) left).err ≠ 0 then lostM (rrewriteM j (snapM (storedM j)) left).j (rrewriteM j (snapM (storedM j)) left).err
  else ⟨⟨(rrewriteM j (snapM (storedM j)) left).j, storedM j⟩, (rrewriteM j (snapM (storedM j)) left).left, 0⟩
def ropenM (f : Fl) (budget : Int) : VR :=
  if (mountM f).err = 11 then
    (if (rformatM f budget).err ≠ 0 then lostM (rformatM f budget).j (rformatM f budget).err else ropenE (rformatM f budget).j (rformatM f budget).left)
  else if (mountM f).err ≠ 0 then lostM (mountM f).j (mountM f).err else ropenE (mountM f).j budget

theorem stored_bd (j : Jn) : (storedM j).length ≤ 8192 := by
  have := storedL_len (recsM j)
  have := (recs_tot j).1
  unfold storedM
  omega

theorem with1_mem {p x : Int × List UInt8} : ∀ {d : Bool} {r : Store}, x ∈ with1 p d r → (x = p ∧ d = false) ∨ x ∈ r
  | d, [], h => by
    simp only [with1] at h
    split at h
    · cases h
    · rename_i hd; simp at h; exact .inl ⟨h, by simpa using hd⟩
  | d, q :: r, h => by
    simp only [with1, List.mem_append] at h
    rcases h with (h | h) | h
    · split at h
      · rename_i hd; simp at h; exact .inl ⟨h, hd.1⟩
      · cases h
    · split at h
      · simp at h; exact .inr (by simp [h])
      · cases h
    · rcases with1_mem h with ⟨h1, h2⟩ | h1
      · exact .inl ⟨h1, by cases d <;> simp at h2 ⊢⟩
      · exact .inr (by simp [h1])
theorem withM_mem {x : Int × List UInt8} : ∀ {l old : Store}, x ∈ withM old l → (x ∈ l ∧ x.2 ≠ []) ∨ x ∈ old := by
  intro l
  unfold withM
  induction l with
  | nil => intro old h; exact .inr h
  | cons p l ih =>
    intro old h
    rw [List.foldl_cons] at h
    rcases ih h with ⟨h1, h2⟩ | h1
    · exact .inl ⟨by simp [h1], h2⟩
    · rcases with1_mem h1 with ⟨rfl, h2⟩ | h2
      · exact .inl ⟨by simp, fun e => by simp [e] at h2⟩
      · exact .inr h2
theorem storedL_mem {x : Int × List UInt8} {l : List (List UInt8)} (h : x ∈ storedL l) : x.2 ≠ [] ∧ ∃ b, b ∈ l ∧ x ∈ parseM b := by
  have key : ∀ (l : List (List UInt8)) (o : Store), x ∈ l.foldl (fun o b => withM o (parseM b)) o → (x.2 ≠ [] ∧ ∃ b, b ∈ l ∧ x ∈ parseM b) ∨ x ∈ o := by
    intro l
    induction l with
    | nil => intro o h; exact .inr h
    | cons b l ih =>
      intro o h
      rw [List.foldl_cons] at h
      rcases ih _ h with ⟨h1, b', h2, h3⟩ | h1
      · exact .inl ⟨h1, b', by simp [h2], h3⟩
      · rcases withM_mem h1 with ⟨h2, h3⟩ | h2
        · exact .inl ⟨h3, b, by simp, h2⟩
        · exact .inr h2
  rcases key l [] h with h | h
  · exact h
  · cases h
theorem parseN_mem {x : Int × List UInt8} : ∀ (f : Nat) (b : List UInt8) (l : Store), parseN f b = some l → x ∈ l → 0 ≤ x.1 ∧ x.1 ≤ 255 ∧ x.2.length ≤ b.length
  | 0, b, l, h, hx => by simp [parseN] at h; subst h; cases hx
  | f + 1, b, l, h, hx => by
    simp only [parseN] at h
    split at h
    · cases h; cases hx
    · split at h
      · cases h
      · split at h
        · cases h
        · split at h
          · rename_i l' hl'
            cases h
            rcases List.mem_cons.1 hx with rfl | hx
            · have := (b.getD 0 0).toNat_lt
              simp only [List.length_take, List.length_drop]
              omega
            · have := parseN_mem f _ l' hl' hx
              simp only [List.length_drop] at this
              omega
          · cases h
theorem parseM_mem {x : Int × List UInt8} {b : List UInt8} (h : x ∈ parseM b) : 0 ≤ x.1 ∧ x.1 ≤ 255 ∧ x.2.length ≤ b.length := by
  unfold parseM parseO at h
  cases hp : parseN b.length b with
  | none => rw [hp] at h; cases h
  | some l => rw [hp] at h; exact parseN_mem _ _ l hp h
theorem stored_mem {j : Jn} {x : Int × List UInt8} (h : x ∈ storedM j) : x.2 ≠ [] ∧ 0 ≤ x.1 ∧ x.1 ≤ 255 ∧ x.2.length ≤ 8192 := by
  obtain ⟨h1, b, hb, hx⟩ := storedL_mem h
  have h2 := parseM_mem hx
  have h3 := (recs_tot j).2 b hb
  exact ⟨h1, h2.1, h2.2.1, by omega⟩
theorem szM_bd (l : Store) (M : Nat) (h : ∀ x, x ∈ l → x.2.length ≤ M) : szM l ≤ l.length * (3 + M) := by
  induction l with
  | nil => simp [szM]
  | cons p l ih =>
    have h1 := ih (fun x hx => h x (by simp [hx]))
    have h2 := h p (by simp)
    simp only [szM, List.length_cons]
    rw [Nat.succ_mul]
    omega
theorem stored_sz (j : Jn) : szM (storedM j) < 100000000 := by
  have h1 := szM_bd (storedM j) 8192 (fun x hx => (stored_mem hx).2.2.2)
  have h2 := Nat.mul_le_mul_right (3 + 8192) (stored_bd j)
  omega
theorem snap_el {l : Store} (h : szM l < 100000000) {b : List UInt8} (hb : b ∈ snapM l) : b.length < 1000000000 ∧ (∀ M, (∀ x, x ∈ l → x.2.length ≤ M) → b.length ≤ 3 + M) := by
  obtain ⟨p, hp, rfl⟩ := List.mem_map.1 hb
  rw [precM_len]
  simp only [szM]
  have : ∀ l : Store, p ∈ l → 3 + p.2.length ≤ szM l := by
    intro l
    induction l with
    | nil => intro h; cases h
    | cons q l ih =>
      intro h
      simp only [szM]
      rcases List.mem_cons.1 h with rfl | h
      · omega
      · have := ih h; omega
  have := this l hp
  exact ⟨by omega, fun M hM => by have := hM p hp; omega⟩
theorem snap_len (l : Store) : (snapM l).length = l.length := by simp [snapM]

theorem seqM_left {f : Fl} {budget : Int} (l : List JOp) (hB : i64 budget) (hb : f.bs.length < 1000000000) (hl : ∀ o, o ∈ l → okOp o) : i64 (seqM f budget l).left := by
  induction l generalizing f budget with
  | nil => exact hB
  | cons o r ih =>
    rw [seq_cons _ _ _ _ _ rfl]
    have hr := runM_ok (f := f) (budget := budget) o hB hb (hl o (by simp))
    split
    · exact hr.1
    · exact ih hr.1 (by omega) (fun o ho => hl o (by simp [ho]))
theorem fops_ok : ∀ o, o ∈ [JOp.er 0, .er 1, .wr 0 0 (headM 1)] → okOp o := by
  intro o ho
  simp only [List.mem_cons, List.not_mem_nil, or_false] at ho
  rcases ho with rfl | rfl | rfl
  · trivial
  · trivial
  · show (headM 1).length < _; rw [headM_len]; decide
theorem rformat_bd (f : Fl) (budget : Int) (hB : i64 budget) (hb : f.bs.length < 1000000000) : i64 (rformatM f budget).left ∧ (rformatM f budget).j.bs.length ≤ f.bs.length := by
  have h1 := seqM_left (f := f) _ hB hb fops_ok
  have h2 := seqM_len (f := f) _ hB hb fops_ok
  have z : i64 0 := by unfold i64; decide
  unfold rformatM
  split
  · exact ⟨z, by simp [jn0]⟩
  · split
    · refine ⟨?_, Nat.le_trans (brokenM_len _ _) h2⟩
      unfold brokenM; split <;> exact z
    · exact ⟨h1, Nat.le_trans (mount_len _) h2⟩

set_option maxHeartbeats 4000000 in
theorem ropen_c (ps : Int) (bs : List UInt8) (n : Nat) (budget : Int) (hn : bs.length = n) (hb : n < 1000000000) (hB : i64 budget) :
    FPure Tryz.prog 78 [.agg [.i ps, .p (.data 1 n (bs.map bt))], .i budget] (vrAV (ropenM ⟨ps, bs⟩ budget)) := by
  refine fpure_x hmix Tryz.func78 rfl (by kernel_rfl) Tryz.ntmps78 Tryz.results78 (by simp) (by simp [idsL, idsA]) [0, 1, 2, 4, 5, 6, 7, 8, 9, 16, 25, 35, 46] ?_; intro c hP h0 hE
  obtain ⟨R, hR⟩ : ∃ R, ropenM ⟨ps, bs⟩ budget = R := ⟨_, rfl⟩; rw [hR] at hE; (try rw [hR])
  unfold ropenM at hR
  simp only [go_sem, ↓reduceIte, hP]
  first | refine xw_call hE (ks := [0, 1, 2, 4, 5, 6, 7, 8, 9, 16, 25, 35, 46]) (n := 2000) (by rw [hP]; exact rMount_c ps bs n hn hb) ?_ | refine xd_call hE (ks := [0, 1, 2, 4, 5, 6, 7, 8, 9, 16, 25, 35, 46]) (n := 2000) (by rw [hP]; exact rMount_c ps bs n hn hb) ?_
  have hml : (mountM ⟨ps, bs⟩).j.bs.length ≤ n := by rw [← hn]; exact mount_len ⟨ps, bs⟩
  generalize mountM ⟨ps, bs⟩ = M at *
  simp only [go_sem, ↓reduceIte, hP]
  by_cases h11 : M.err = 11
  · rw [if_pos h11]
    rw [if_pos h11] at hR
    first | refine xw_call hE (ks := [0, 1, 2, 4, 5, 6, 7, 8, 9, 16, 25, 35, 46]) (n := 2000) (by rw [hP]; exact rFormat_c ps bs n budget hn hb hB) ?_ | refine xd_call hE (ks := [0, 1, 2, 4, 5, 6, 7, 8, 9, 16, 25, 35, 46]) (n := 2000) (by rw [hP]; exact rFormat_c ps bs n budget hn hb hB) ?_
    obtain ⟨hfl, hfb⟩ := rformat_bd ⟨ps, bs⟩ budget hB (by show bs.length < _; omega)
    have hfb : (rformatM ⟨ps, bs⟩ budget).j.bs.length ≤ bs.length := hfb
    generalize rformatM ⟨ps, bs⟩ budget = G at *
    simp only [go_sem, ↓reduceIte, hP]
    by_cases hg : G.err = 0
    · rw [if_neg (fun h => h hg)]
      rw [if_neg (fun h => h hg)] at hR
      first | refine xw_call hE (ks := [0, 1, 2, 4, 5, 6, 7, 8, 9, 16, 25, 35, 46]) (n := 2000) (by rw [hP]; exact rstored_c G.j _ rfl (by omega)) ?_ | refine xd_call hE (ks := [0, 1, 2, 4, 5, 6, 7, 8, 9, 16, 25, 35, 46]) (n := 2000) (by rw [hP]; exact rstored_c G.j _ rfl (by omega)) ?_
      have hsz := stored_sz G.j
      have hbd := stored_bd G.j
      have hmem := fun x (hx : x ∈ storedM G.j) => (stored_mem hx).2.2.2
      unfold ropenE at hR
      generalize hst : storedM G.j = l at *
      simp only [go_sem, ↓reduceIte, hP]
      by_cases htn : G.j.torn = true
      · rw [if_pos htn]
        rw [if_neg (by rw [htn]; decide)] at hR
        first | refine xw_call hE (ks := [0, 1, 2, 4, 5, 6, 7, 8, 9, 16, 25, 35, 46]) (n := 2000) (by rw [hP]; exact rsnap_c l (by omega)) ?_ | refine xd_call hE (ks := [0, 1, 2, 4, 5, 6, 7, 8, 9, 16, 25, 35, 46]) (n := 2000) (by rw [hP]; exact rsnap_c l (by omega)) ?_
        have hel : ∀ b, b ∈ snapM l → b.length < 1000000 := fun b hb => by have := (snap_el hsz hb).2 8192 hmem; omega
        have hxl := rrewrite_len G.j (snapM l) G.left hfl (by omega) hel
        simp only [go_sem, ↓reduceIte, hP]
        first | refine xw_call hE (ks := [0, 1, 2, 4, 5, 6, 7, 8, 9, 16, 25, 35, 46]) (n := 2000) (by rw [hP]; exact rRewrite_c G.j _ (snapM l) _ G.left rfl (by omega) (snap_len l) (by omega) hel hfl) ?_ | refine xd_call hE (ks := [0, 1, 2, 4, 5, 6, 7, 8, 9, 16, 25, 35, 46]) (n := 2000) (by rw [hP]; exact rRewrite_c G.j _ (snapM l) _ G.left rfl (by omega) (snap_len l) (by omega) hel hfl) ?_
        generalize rrewriteM G.j (snapM l) G.left = X at *
        simp only [go_sem, ↓reduceIte, hP]
        refine ⟨by kernel_rfl, ?_⟩
        by_cases hx : X.err = 0
        · rw [if_neg (fun h => h hx)]
          rw [if_neg (fun h => h hx)] at hR
          subst hR
          exact ⟨⟨rfl, ⟨rfl, rfl⟩, rfl, rfl, rfl, rfl, rfl, rfl⟩, rfl, rfl⟩
        · rw [if_pos hx]
          rw [if_pos hx] at hR
          subst hR
          first | refine xw_call hE (ks := [0, 1, 2, 4, 5, 6, 7, 8, 9, 16, 25, 35, 46]) (n := 2000) (by rw [hP]; exact rlost_c X.j _ X.err rfl) ?_ | refine xd_call hE (ks := [0, 1, 2, 4, 5, 6, 7, 8, 9, 16, 25, 35, 46]) (n := 2000) (by rw [hP]; exact rlost_c X.j _ X.err rfl) ?_
          generalize lostM X.j X.err = Y at *
          simp only [go_sem, ↓reduceIte, hP]
          (try exact ⟨⟨rfl, ⟨rfl, rfl⟩, rfl, rfl, rfl, rfl, rfl, rfl⟩, rfl, rfl⟩)
      · rw [if_neg htn]
        rw [if_pos (by simpa using htn)] at hR
        subst hR
        exact ⟨⟨rfl, ⟨rfl, rfl⟩, rfl, rfl, rfl, rfl, rfl, rfl⟩, rfl, rfl⟩
    · rw [if_pos hg]
      rw [if_pos hg] at hR
      subst hR
      first | refine xw_call hE (ks := [0, 1, 2, 4, 5, 6, 7, 8, 9, 16, 25, 35, 46]) (n := 2000) (by rw [hP]; exact rlost_c G.j _ G.err rfl) ?_ | refine xd_call hE (ks := [0, 1, 2, 4, 5, 6, 7, 8, 9, 16, 25, 35, 46]) (n := 2000) (by rw [hP]; exact rlost_c G.j _ G.err rfl) ?_
      generalize lostM G.j G.err = Y at *
      simp only [go_sem, ↓reduceIte, hP]
      (try exact ⟨⟨rfl, ⟨rfl, rfl⟩, rfl, rfl, rfl, rfl, rfl, rfl⟩, rfl, rfl⟩)
  · rw [if_neg h11]
    rw [if_neg h11] at hR
    by_cases hm : M.err = 0
    · rw [if_neg (fun h => h hm)]
      rw [if_neg (fun h => h hm)] at hR
      first | refine xw_call hE (ks := [0, 1, 2, 4, 5, 6, 7, 8, 9, 16, 25, 35, 46]) (n := 2000) (by rw [hP]; exact rstored_c M.j _ rfl (by omega)) ?_ | refine xd_call hE (ks := [0, 1, 2, 4, 5, 6, 7, 8, 9, 16, 25, 35, 46]) (n := 2000) (by rw [hP]; exact rstored_c M.j _ rfl (by omega)) ?_
      have hsz := stored_sz M.j
      have hbd := stored_bd M.j
      have hmem := fun x (hx : x ∈ storedM M.j) => (stored_mem hx).2.2.2
      unfold ropenE at hR
      generalize hst : storedM M.j = l at *
      simp only [go_sem, ↓reduceIte, hP]
      by_cases htn : M.j.torn = true
      · rw [if_pos htn]
        rw [if_neg (by rw [htn]; decide)] at hR
        first | refine xw_call hE (ks := [0, 1, 2, 4, 5, 6, 7, 8, 9, 16, 25, 35, 46]) (n := 2000) (by rw [hP]; exact rsnap_c l (by omega)) ?_ | refine xd_call hE (ks := [0, 1, 2, 4, 5, 6, 7, 8, 9, 16, 25, 35, 46]) (n := 2000) (by rw [hP]; exact rsnap_c l (by omega)) ?_
        have hel : ∀ b, b ∈ snapM l → b.length < 1000000 := fun b hb => by have := (snap_el hsz hb).2 8192 hmem; omega
        have hxl := rrewrite_len M.j (snapM l) budget hB (by omega) hel
        simp only [go_sem, ↓reduceIte, hP]
        first | refine xw_call hE (ks := [0, 1, 2, 4, 5, 6, 7, 8, 9, 16, 25, 35, 46]) (n := 2000) (by rw [hP]; exact rRewrite_c M.j _ (snapM l) _ budget rfl (by omega) (snap_len l) (by omega) hel hB) ?_ | refine xd_call hE (ks := [0, 1, 2, 4, 5, 6, 7, 8, 9, 16, 25, 35, 46]) (n := 2000) (by rw [hP]; exact rRewrite_c M.j _ (snapM l) _ budget rfl (by omega) (snap_len l) (by omega) hel hB) ?_
        generalize rrewriteM M.j (snapM l) budget = X at *
        simp only [go_sem, ↓reduceIte, hP]
        refine ⟨by kernel_rfl, ?_⟩
        by_cases hx : X.err = 0
        · rw [if_neg (fun h => h hx)]
          rw [if_neg (fun h => h hx)] at hR
          subst hR
          exact ⟨⟨rfl, ⟨rfl, rfl⟩, rfl, rfl, rfl, rfl, rfl, rfl⟩, rfl, rfl⟩
        · rw [if_pos hx]
          rw [if_pos hx] at hR
          subst hR
          first | refine xw_call hE (ks := [0, 1, 2, 4, 5, 6, 7, 8, 9, 16, 25, 35, 46]) (n := 2000) (by rw [hP]; exact rlost_c X.j _ X.err rfl) ?_ | refine xd_call hE (ks := [0, 1, 2, 4, 5, 6, 7, 8, 9, 16, 25, 35, 46]) (n := 2000) (by rw [hP]; exact rlost_c X.j _ X.err rfl) ?_
          generalize lostM X.j X.err = Y at *
          simp only [go_sem, ↓reduceIte, hP]
          (try exact ⟨⟨rfl, ⟨rfl, rfl⟩, rfl, rfl, rfl, rfl, rfl, rfl⟩, rfl, rfl⟩)
      · rw [if_neg htn]
        rw [if_pos (by simpa using htn)] at hR
        subst hR
        exact ⟨⟨rfl, ⟨rfl, rfl⟩, rfl, rfl, rfl, rfl, rfl, rfl⟩, rfl, rfl⟩
    · rw [if_pos hm]
      rw [if_pos hm] at hR
      subst hR
      first | refine xw_call hE (ks := [0, 1, 2, 4, 5, 6, 7, 8, 9, 16, 25, 35, 46]) (n := 2000) (by rw [hP]; exact rlost_c M.j _ M.err rfl) ?_ | refine xd_call hE (ks := [0, 1, 2, 4, 5, 6, 7, 8, 9, 16, 25, 35, 46]) (n := 2000) (by rw [hP]; exact rlost_c M.j _ M.err rfl) ?_
      generalize lostM M.j M.err = Y at *
      simp only [go_sem, ↓reduceIte, hP]
      (try exact ⟨⟨rfl, ⟨rfl, rfl⟩, rfl, rfl, rfl, rfl, rfl, rfl⟩, rfl, rfl⟩)

/-! Get -/
def vgetM (k : Int) : Store → List UInt8
  | [] => []
  | p :: l => if p.1 = k then p.2 else vgetM k l
theorem vgetM_at (k : Int) (l : Store) (i : Nat) (h : i < l.length) (hno : ∀ x, x ∈ l.take i → x.1 ≠ k) (he : (l.getD i (0, [])).1 = k) : vgetM k l = (l.getD i (0, [])).2 := by
  induction l generalizing i with
  | nil => simp at h
  | cons p l ih =>
    cases i with
    | zero => simp at he; simp [vgetM, he]
    | succ i =>
      have h0 : p.1 ≠ k := hno p (by simp)
      simp only [vgetM, if_neg h0]
      exact ih i (by simpa using h) (fun x hx => hno x (by simp [hx])) (by simpa using he)
theorem vgetM_no (k : Int) (l : Store) (hno : ∀ x, x ∈ l → x.1 ≠ k) : vgetM k l = [] := by
  induction l with
  | nil => rfl
  | cons p l ih => simp only [vgetM, if_neg (hno p (by simp))]; exact ih (fun x hx => hno x (by simp [hx]))

set_option maxHeartbeats 2000000 in
theorem rget_c (v : Vt) (n : Nat) (k : Int) (hp : v.prs.length < 1000000000) (hl : ∀ x, x ∈ v.prs → x.2.length ≤ 140737488355328) : FPure Tryz.prog 54 [.agg [.i v.j.ps, .p (.data 1 n (v.j.bs.map bt)), .i v.j.page, .i v.j.gen, .i v.j.tail, .b v.j.torn, .p (PL v.prs)], .i k] (.p (.data 1 (vgetM k v.prs).length ((vgetM k v.prs).map bt))) := by
  refine fpure_x hmix Tryz.func54 rfl (by kernel_rfl) Tryz.ntmps54 Tryz.results54 (by simp) (by simp [idsL, idsA]) [0, 1, 2, 4, 5, 10, 20] ?_; intro c hP h0 hE
  simp only [go_sem, ↓reduceIte, hP]
  generalize hv : v.prs = l at *
  refine xw_loop hE h0 [0, 1, 2, 4, 5, 10, 20] (α := { i : Nat // i ≤ l.length ∧ ∀ x, x ∈ l.take i → x.1 ≠ k }) (fun i => ⟨28, [(1, .i k), (2, .ptr 0 0), (5, .i i.1)], [(0, some ⟨37, [.i v.j.ps, .p (.data 1 n (v.j.bs.map bt)), .i v.j.page, .i v.j.gen, .i v.j.tail, .b v.j.torn, .p (PL l)]⟩)], 1⟩) (fun i => l.length - i.1) ⟨0, Nat.zero_le _, by simp⟩ [] (fun i => i) ?_ ?_
  · refine ⟨rfl, ?_, ?_, rfl, rfl, trivial, fun i h => h⟩
    · simp only [go_sem, ↓reduceIte]
    · simp only [go_sem, ↓reduceIte]
  · rintro ⟨i, hi, hno⟩
    rcases Nat.lt_or_ge i l.length with hin | hin
    · have hc : ((i : Int) < (l.length : Int)) := by omega
      have hat := prCs_at l i hin
      have hta := take_at l i hin
      have hmem : l.getD i (0, []) ∈ l := by rw [show l.getD i (0, []) = l[i]'hin from by simp [List.getD_eq_getElem?_getD, hin]]; exact List.getElem_mem _
      have hgl := hl _ hmem
      have hw : IntKind.i64.wrap ((i : Int) + 1) = ((i + 1 : Nat) : Int) := by rw [wrap_i64_id (by omega) (by omega)]; omega
      have hgt := vgetM_at k l i hin hno
      simp only [go_sem, ↓reduceIte, hP, hat, hc, byP, hw, cb_def]
      refine ⟨by omega, ?_⟩
      by_cases he : (l.getD i (0, [])).1 = k
      · rw [if_pos he]
        have hgt := hgt he
        rw [hgt]
        exact ⟨by omega, ⟨by omega, by omega⟩, Nat.le_refl _, rfl, by rw [List.take_of_length_le (Nat.le_refl _)]⟩
      · rw [if_neg he]
        refine ⟨⟨i + 1, by omega, ?_⟩, by show l.length - (i + 1) < l.length - i; omega, subI rfl ?_ ?_ rfl rfl (Nat.le_refl _)⟩
        · intro x hx
          rw [hta] at hx
          rcases List.mem_append.1 hx with hx | hx
          · exact hno x hx
          · simp at hx; rw [hx]; exact he
        · simp only [go_sem, ↓reduceIte]
        · simp only [go_sem, ↓reduceIte]
    · obtain rfl : i = l.length := by omega
      have hnc : ¬ ((l.length : Int) < (l.length : Int)) := by omega
      rw [List.take_of_length_le (Nat.le_refl _)] at hno
      simp only [go_sem, ↓reduceIte, hP, hnc, vgetM_no k l hno]

end Go.Proofs.YtebndjnkmcahaaaGreatDoor

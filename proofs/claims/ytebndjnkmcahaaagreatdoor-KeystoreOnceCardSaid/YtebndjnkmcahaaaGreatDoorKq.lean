/- joined of several texts; own work; no statement of the seat is proved but in the last -/
import Derived.Test.YtebndjnkmcahaaaGreatDoorKo
/-
  Plain laws of a device whose only lease is the first: what Reserve and Boot do with it. Own work; no statement of the seat is proved here.
-/
section
namespace Go.Proofs.YtebndjnkmcahaaaGreatDoor
set_option linter.unusedSimpArgs false
set_option linter.unusedVariables false
open Go Go.Abs Go.RowKit

/-- the vault of a device without credentials: master, number of boots, the lease of the attestation key with k as its next leaf -/
def kS (f : FacM) (w : List UInt8) (n : Nat) (k : Int) : Store := [(1, w), (2, beB n), (16, lencM ⟨0, f.af, f.ato, k⟩)]
theorem beB_len (n : Nat) : (beB n).length = 4 := rfl
section
variable {f : FacM} {w : List UInt8} {n : Nat} {k : Int}
theorem klease_ok (h : ¬ badF f) (h1 : f.af ≤ k) (h2 : k ≤ f.ato) : lvalM ⟨0, f.af, f.ato, k⟩ = true := by
  have := lease_ok h
  unfold lvalM at this ⊢
  simp only [decide_eq_true_eq] at this ⊢
  omega
theorem kS_with16 (k' : Int) (h : lvalM ⟨0, f.af, f.ato, k'⟩ = true) : withM (kS f w n k) [(16, lencM ⟨0, f.af, f.ato, k'⟩)] = kS f w n k' := by
  have hl := lenc_len h
  have hne : lencM ⟨0, f.af, f.ato, k'⟩ ≠ [] := by intro e; rw [e] at hl; cases hl
  simp [withM, with1, kS, hne]
theorem kS_with2 (m : Nat) : withM (kS f w n k) [(2, beB m)] = kS f w m k := by
  have hne : beB m ≠ [] := by simp [beB]
  simp [withM, with1, kS, hne]
theorem kS_vlen (hw : w.length = 8) : VLen (kS f w n k) := by
  have := lenc_le ⟨0, f.af, f.ato, k⟩
  refine ⟨by simp [kS], fun x hx => ?_⟩
  simp only [kS, List.mem_cons, List.not_mem_nil, or_false] at hx
  rcases hx with rfl | rfl | rfl
  · simp only; omega
  · simp [beB]
  · simp only; omega
theorem kS_sz (hw : w.length = 8) (h : lvalM ⟨0, f.af, f.ato, k⟩ = true) : szM (kS f w n k) = 32 := by
  have := lenc_len h
  simp only [kS, szM, hw, beB, List.length_cons, List.length_nil, this]
theorem adm16 (h : lvalM ⟨0, f.af, f.ato, k⟩ = true) : admitM [(16, lencM ⟨0, f.af, f.ato, k⟩)] = 0 := by
  have := lenc_len h
  unfold admitM
  rw [if_neg (by simp), if_neg (by simp [dupN]), if_neg (by simp only [szM, this]; omega)]
theorem adm2 (m : Nat) : admitM [(2, beB m)] = 0 := by
  unfold admitM
  rw [if_neg (by simp), if_neg (by simp [dupN]), if_neg (by simp only [szM, beB_len]; omega)]
theorem kS_g1 : vgetM 1 (kS f w n k) = w := by simp [kS, vgetM]
theorem kS_g2 : vgetM 2 (kS f w n k) = beB n := by simp [kS, vgetM]
theorem kS_leases (h : lvalM ⟨0, f.af, f.ato, k⟩ = true) : leasesM (kS f w n k) = [(0, ⟨0, f.af, f.ato, k⟩)] := by
  have h0 : leaseR (kS f w n k) 0 = ⟨⟨0, f.af, f.ato, k⟩, 0⟩ := by
    unfold leaseR
    have : vgetM (16 + ((0 : Nat) : Int)) (kS f w n k) = lencM ⟨0, f.af, f.ato, k⟩ := by simp [kS, vgetM]
    rw [this, ldec_enc h]
  have hn : ∀ i, 1 ≤ i → leaseR (kS f w n k) i = ⟨ls0, 2⟩ := fun i hi => by
    unfold leaseR
    have : vgetM (16 + (i : Int)) (kS f w n k) = [] := by
      unfold kS
      simp only [vgetM]
      rw [if_neg (by omega), if_neg (by omega), if_neg (by omega)]
    rw [this, ldec_nil]
  have key : ∀ n', 1 ≤ n' → leasesN (kS f w n k) n' = [(0, ⟨0, f.af, f.ato, k⟩)] := by
    intro n'
    induction n' with
    | zero => intro h; omega
    | succ n' ih =>
      intro _
      rw [leasesN_succ]
      by_cases hn0 : n' = 0
      · subst hn0
        rw [h0, if_pos rfl]
        rfl
      · rw [hn n' (by omega), if_neg (by decide)]
        exact ih (by omega)
  exact key 16 (by decide)
end
theorem VOk.fokK {v : Vt} {G : Int} (h : VOk v G) : FOk (flOf v.j) v.prs G := by
  have hm : mountM (flOf v.j) = ⟨v.j, 0⟩ := h.mt
  exact ⟨by rw [hm], by rw [hm]; exact h.pr.symm, h.so, by rw [hm]; exact h.gen⟩
theorem FOk.monoK {f : Fl} {s : Store} {G H : Int} (h : FOk f s G) (hg : G ≤ H) : FOk f s H := ⟨h.err, h.st, h.so, Int.le_trans h.gen hg⟩
theorem num_be {n : Nat} (h : n < 100) : (numM (beB n)).toNat = n := by
  have : ∀ n, n < 100 → (numM (beB n)).toNat = n := by decide
  exact this n h
theorem bootL_2 {f : FacM} {s : Store} (h : (vgetM 1 s).length = 8) (n : Nat) : bootL f s n = [(2, beB n)] := by
  unfold bootL; rw [if_neg (by omega)]
/-- the flash of a device with its lease at k -/
structure KF (f : FacM) (x : Fl) (G : Int) (N : Nat) (k : Int) : Prop where
  ps : x.ps = f.ps
  len : x.bs.length < 1000000000
  st : ∃ w n, w.length = 8 ∧ n ≤ N ∧ FOk x (kS f w n k) G
/-- a device that is on, with its lease at k -/
structure KD (f : FacM) (d : DevM) (G : Int) (N : Nat) (k : Int) : Prop where
  fac : d.fac = f
  on : d.on = true
  ps : d.v.j.ps = f.ps
  len : d.v.j.bs.length < 1000000000
  ok : VOk d.v G
  st : ∃ w n, w.length = 8 ∧ n ≤ N ∧ d.v.prs = kS f w n k
theorem KD.kf {f : FacM} {d : DevM} {G : Int} {N : Nat} {k : Int} (h : KD f d G N k) : KF f (flOf d.v.j) G N k := by
  obtain ⟨w, n, hw, hn, hp⟩ := h.st
  have := h.ok.fokK
  rw [hp] at this
  exact ⟨h.ps, h.len, w, n, hw, hn, this⟩
theorem fit_ok {f : FacM} (hb : ¬ badF f) {w : List UInt8} {n : Nat} {k : Int} (hw : w.length = 8) (hl : lvalM ⟨0, f.af, f.ato, k⟩ = true) : ¬ f.ps < 16 + 10 * ((kS f w n k).length : Int) + (szM (kS f w n k) : Int) := by
  rw [kS_sz hw hl]
  have : 512 ≤ f.ps := by unfold badF at hb; omega
  simp only [kS, List.length_cons, List.length_nil]
  omega
/-- what Reserve does -/
theorem reserve_ok {f : FacM} (hb : ¬ badF f) {d : DevM} {G : Int} {N : Nat} {k : Int} (h : KD f d G N k) (hG : G < 1000) (h1 : f.af ≤ k) (h2 : k ≤ f.ato) (B : Int) (hB : i64 B) :
    ((reserveM d ⟨0, f.af, f.ato, k⟩ B).e = 13 ∧ (reserveM d ⟨0, f.af, f.ato, k⟩ B).d = d) ∨
    ((reserveM d ⟨0, f.af, f.ato, k⟩ B).e = 0 ∧ (reserveM d ⟨0, f.af, f.ato, k⟩ B).leaf = k ∧ k < f.ato ∧ KD f (reserveM d ⟨0, f.af, f.ato, k⟩ B).d (G + 1) N (k + 1)) ∨
    ((reserveM d ⟨0, f.af, f.ato, k⟩ B).e = 16 ∧ k < f.ato ∧ ∃ x k', (reserveM d ⟨0, f.af, f.ato, k⟩ B).d = offM f d.now x ∧ k ≤ k' ∧ k' ≤ f.ato ∧ KF f x (G + 1) N k') := by
  have hon : ¬ d.on = false := by rw [h.on]; decide
  unfold reserveM
  rw [if_neg hon]
  by_cases he : k = f.ato
  · rw [if_pos he]
    exact .inl ⟨rfl, rfl⟩
  rw [if_neg he]
  have hlt : k < f.ato := by omega
  have hl1 := klease_ok hb (show f.af ≤ k + 1 by omega) (show k + 1 ≤ f.ato by omega)
  have hl0 := klease_ok hb h1 h2
  obtain ⟨w, n, hw, hn, hp⟩ := h.st
  have hwm : withM d.v.prs [(16, lencM ⟨0, f.af, f.ato, k + 1⟩)] = kS f w n (k + 1) := by rw [hp, kS_with16 _ hl1]
  have hlen := rput_len d.v [(16, lencM ⟨0, f.af, f.ato, k + 1⟩)] B hB h.len (fun y hy => by rw [List.mem_singleton.1 hy]; have := lenc_le ⟨0, f.af, f.ato, k + 1⟩; show (lencM _).length < 1000; omega) (by simp)
  have hpo := put_ok h.ok (by omega) [(16, lencM ⟨0, f.af, f.ato, k + 1⟩)] B
  have hS : storeM d [(16, lencM ⟨0, f.af, f.ato, k + 1⟩)] B = if (rputM d.v [(16, lencM ⟨0, f.af, f.ato, k + 1⟩)] B).err ≠ 0 then failM d (rputM d.v [(16, lencM ⟨0, f.af, f.ato, k + 1⟩)] B).v (rputM d.v [(16, lencM ⟨0, f.af, f.ato, k + 1⟩)] B).err else ⟨{ d with v := (rputM d.v [(16, lencM ⟨0, f.af, f.ato, k + 1⟩)] B).v }, (rputM d.v [(16, lencM ⟨0, f.af, f.ato, k + 1⟩)] B).left, 0⟩ := by
    unfold storeM; rw [if_neg hon]
  generalize rputM d.v [(16, lencM ⟨0, f.af, f.ato, k + 1⟩)] B = P at *
  have hll : P.v.j.bs.length < 1000000000 := Nat.lt_of_le_of_lt hlen.1 h.len
  rcases hpo with ⟨e1, e2, e3, -, e5⟩ | ⟨e1, -, -, e4, e5⟩ | ⟨-, -, -, hbad⟩
  · right; left
    rw [if_neg (fun hh => hh e1)] at hS
    dsimp only
    rw [hS]
    refine ⟨rfl, rfl, hlt, h.fac, h.on, e5.trans h.ps, hll, e2, w, n, hw, hn, ?_⟩
    show P.v.prs = _
    rw [e3, hwm]
  · right; right
    rw [if_pos (by rw [e1]; decide)] at hS
    unfold failM at hS
    rw [if_pos e1] at hS
    dsimp only
    rw [hS]
    refine ⟨rfl, hlt, flOf P.v.j, ?_⟩
    rcases e5 with e5 | e5
    · rw [hp] at e5
      exact ⟨k, congrArg (fun g => offM g d.now (flOf P.v.j)) h.fac, Int.le_refl _, h2, e4.trans h.ps, hll, w, n, hw, hn, e5⟩
    · rw [hwm] at e5
      exact ⟨k + 1, congrArg (fun g => offM g d.now (flOf P.v.j)) h.fac, by omega, by omega, e4.trans h.ps, hll, w, n, hw, hn, e5⟩
  · exfalso
    rcases hbad with hbad | hbad
    · exact hbad (adm16 hl1)
    · rw [hwm, h.ps] at hbad
      exact fit_ok hb hw hl1 hbad
theorem ropen_neg {f : Fl} (h0 : (mountM f).err = 0) (h : (ropenM f (-1)).err = 0) : (ropenM f (-1)).left = -1 := by
  have e : ropenM f (-1) = ropenE (mountM f).j (-1) := by
    unfold ropenM
    rw [if_neg (by rw [h0]; decide), if_neg (by rw [h0]; decide)]
  rw [e] at h ⊢
  generalize (mountM f).j = j at *
  unfold ropenE at h ⊢
  split at h
  · rename_i ht
    rw [if_pos ht]
  · rename_i ht
    rw [if_neg ht]
    split at h
    · rename_i hn
      exact absurd h (lost_err _ _ hn)
    · rename_i hn
      rw [if_neg hn]
      exact rrew_neg _ _ (by omega)
/-- what Boot does -/
theorem boot_ok {f : FacM} (hb : ¬ badF f) {t : Int} {x : Fl} {G : Int} {N : Nat} {k : Int} (h : KF f x G N k) (hG : G < 1000) (hN : N < 50) (h1 : f.af ≤ k) (h2 : k ≤ f.ato) :
    BootOk (offM f t x) (-1) ∧ (bootM (offM f t x) 1 (-1)).e = 0 ∧ KD f (bootM (offM f t x) 1 (-1)).d (G + 2) (N + 1) k := by
  obtain ⟨w, n, hw, hn, hf⟩ := h.st
  have hfl : flOf (offM f t x).v.j = x := rfl
  have hl0 := klease_ok hb h1 h2
  have hi : i64 (-1) := by unfold i64; decide
  have hxl := h.len
  have hol := ropen_len x (-1) hi h.len
  have hop := open_ok hf (by omega) (-1)
  have hof := ropen_left x (-1) hi h.len
  rcases hop with ⟨o1, o2, o3, o4⟩ | ⟨-, o2, -⟩
  case inr => omega
  have hputs : ∀ m, (rputM (ropenM x (-1)).v (bootL f (ropenM x (-1)).v.prs m) (ropenM x (-1)).left).err = 0 ∧ VOk (rputM (ropenM x (-1)).v (bootL f (ropenM x (-1)).v.prs m) (ropenM x (-1)).left).v (G + 2) ∧
      (rputM (ropenM x (-1)).v (bootL f (ropenM x (-1)).v.prs m) (ropenM x (-1)).left).v.prs = kS f w m k ∧ (rputM (ropenM x (-1)).v (bootL f (ropenM x (-1)).v.prs m) (ropenM x (-1)).left).v.j.ps = f.ps ∧
      (rputM (ropenM x (-1)).v (bootL f (ropenM x (-1)).v.prs m) (ropenM x (-1)).left).v.j.bs.length < 1000000000 := by
    intro m
    have hbl : bootL f (ropenM x (-1)).v.prs m = [(2, beB m)] := bootL_2 (by rw [o3, kS_g1]; exact hw) m
    rw [hbl]
    have hwm : withM (ropenM x (-1)).v.prs [(2, beB m)] = kS f w m k := by rw [o3, kS_with2]
    have hlen := rput_len (ropenM x (-1)).v [(2, beB m)] (ropenM x (-1)).left hof (by omega) (fun y hy => by rw [List.mem_singleton.1 hy]; show (beB m).length < 1000; rw [beB_len]; decide) (by simp)
    rcases put_ok o2 (by omega) [(2, beB m)] (ropenM x (-1)).left with ⟨e1, e2, e3, -, e5⟩ | ⟨-, -, e3, -, -⟩ | ⟨-, -, -, hbad⟩
    · refine ⟨e1, ?_, e3.trans hwm, e5.trans (o4.trans h.ps), by omega⟩
      have : G + 1 + 1 = G + 2 := by omega
      rw [← this]; exact e2
    · exfalso
      have hneg : (ropenM x (-1)).left = -1 := ropen_neg hf.err o1
      omega
    · exfalso
      rcases hbad with hbad | hbad
      · exact hbad (adm2 m)
      · rw [hwm, o4, h.ps] at hbad
        exact fit_ok hb hw hl0 hbad
  have hkv : ∀ m, VLen (kS f w m k) := fun m => kS_vlen hw
  refine ⟨⟨hi, h.len, fun _ => ?_, fun m _ _ => ?_⟩, ?_⟩
  · rw [hfl, o3, kS_g2, beB_len]
    exact ⟨hkv n, Nat.le_refl _⟩
  · rw [hfl, show (offM f t x).fac = f from rfl, (hputs m).2.2.1, kS_g2, kS_g1, hw, beB_len]
    exact ⟨hkv m, Nat.le_refl _, Nat.le_refl _⟩
  · unfold bootM
    rw [show (offM f t x).on = false from rfl, hfl, show (offM f t x).fac = f from rfl]
    simp only [Bool.false_eq_true, if_false]
    rw [if_neg (by omega), if_neg (fun hh => hh o1)]
    have hnn : (numM (vgetM 2 (ropenM x (-1)).v.prs)).toNat = n := by rw [o3, kS_g2, num_be (by omega)]
    rw [hnn, if_neg (by omega)]
    obtain ⟨q1, q2, q3, q4, q5⟩ := hputs (n + 1)
    rw [if_neg (fun hh => hh q1)]
    exact ⟨rfl, rfl, rfl, q4, q5, q2, w, n + 1, hw, by omega, q3⟩
end Go.Proofs.YtebndjnkmcahaaaGreatDoor
end
/-
  A device of the reference that was switched on. Own work; no statement of the seat is proved here.
-/
section
namespace Go.Proofs.YtebndjnkmcahaaaGreatDoor
set_option linter.unusedSimpArgs false
set_option linter.unusedVariables false
open Go Go.Abs Go.RowKit

theorem oneCs_app : ∀ a b : List AV, oneCs (a ++ b) = (oneCs a && oneCs b)
  | [], b => rfl
  | x :: a, b => by
    simp only [List.cons_append, oneCs, oneCs_app a b]
    cases oneC x <;> rfl
theorem setAt_suf : ∀ (vs cs pre suf : List AV), cs.length = vs.length → setAt (pre ++ (cs ++ suf)) pre.length vs = pre ++ (vs ++ suf)
  | [], [], pre, suf, _ => by simp [setAt]
  | [], c :: cs, pre, suf, h => by simp at h
  | v :: vs, [], pre, suf, h => by simp at h
  | v :: vs, c :: cs, pre, suf, h => by
    rw [setAt]
    have e : (pre ++ (c :: cs ++ suf)).set pre.length v = (pre ++ [v]) ++ (cs ++ suf) := by simp
    rw [e, show pre.length + 1 = (pre ++ [v]).length by simp, setAt_suf vs cs (pre ++ [v]) suf (by simpa using h)]
    simp
def plC (x : Dvp) : List AV := dvC x ++ [.p (.v (.slice none 0 0))]
theorem pl_map (x : Dvp) : ∃ cs : List PV, plC x = cs.map .p := by
  obtain ⟨cs, he⟩ := dv_map x
  exact ⟨cs ++ [.v (.slice none 0 0)], by unfold plC; rw [he]; simp⟩
theorem pl_len (x : Dvp) : (plC x).length = 33 := rfl
theorem pl_zero : pvs z51 = plC dv0 := rfl
theorem pl_take (x : Dvp) : (plC x).take 32 = dvC x := rfl
theorem pl_sd (x y : Dvp) : setAt (plC x) 0 (dvC y) = plC y := setAt_suf (dvC y) (dvC x) [] [.p (.v (.slice none 0 0))] rfl
theorem pl_sa (x y : Dvp) : setAt (plC x) 0 (plC y) = plC y := by
  have := setAt_appM (plC y) (plC x) [] (by rw [pl_len, pl_len])
  simpa using this
theorem pl_f3 (h : List (Nat × Option Blk)) (x : Dvp) : fzOL h (plC x) := by obtain ⟨cs, he⟩ := pl_map x; rw [he]; exact fzOL_pureM h cs
theorem pl_f4 (h : List (Nat × Option Blk)) (x : Dvp) : fzL h (plC x) = plC x := by obtain ⟨cs, he⟩ := pl_map x; rw [he]; exact fzL_pureM h cs
theorem pl_vw (h : Heap) (S : List Nat) (σ : Nat → Nat) (x : Dvp) : viewAs h S σ (plC x) (plC x) := by obtain ⟨cs, he⟩ := pl_map x; rw [he]; exact viewAs_pure h S σ cs
@[simp] theorem pl_ids (T : List Nat) (x : Dvp) : idsL T (plC x) := by obtain ⟨cs, he⟩ := pl_map x; rw [he]; exact idsL_map T cs
theorem pl_rn (τ : Nat → Nat) (x : Dvp) : renL τ (plC x) = plC x := by obtain ⟨cs, he⟩ := pl_map x; rw [he]; exact renL_map τ cs
theorem pl_fi (x : Dvp) : fzIL (plC x) = [] := by obtain ⟨cs, he⟩ := pl_map x; rw [he]; exact fzIL_mapP cs
theorem pl_tk (x : Dvp) : (plC x).take 33 = plC x := rfl
theorem pl_eq (x : Dvp) : eqNL (plC x) (plC x) := eqNL_refl _
theorem pl_one (x : Dvp) : oneCs (plC x) = true := by unfold plC; rw [oneCs_app, dv_one]; rfl
attribute [go_sem] pl_one pl_len pl_zero pl_take pl_sd pl_sa pl_f3 pl_f4 pl_vw pl_ids pl_rn pl_fi pl_tk pl_eq
theorem fac_ok (n : Int) : newE (facM n) = 0 := by
  have h7 := band_bd (ishr .i64 n 7) 1 (by decide) (by decide)
  have h8 := band_bd (ishr .i64 n 8) 1 (by decide) (by decide)
  have hw : IntKind.i64.wrap (2 + band .i64 (ishr .i64 n 8) 1) = 2 + band .i64 (ishr .i64 n 8) 1 := wrap_i64_id (by omega) (by omega)
  have hp : 512 ≤ (facM n).ps ∧ (facM n).ps ≤ 8192 := by
    show 512 ≤ pick4 _ ∧ pick4 _ ≤ 8192
    unfold pick4
    split
    · decide
    · split
      · decide
      · split <;> decide
  have h4 : ishl .i64 1 2 = 4 := by decide
  have hah : (facM n).ah = 2 := rfl
  have haf : (facM n).af = band .i64 (ishr .i64 n 7) 1 := rfl
  have hat : (facM n).ato = 2 + band .i64 (ishr .i64 n 8) 1 := hw
  have hng : ¬ badF (facM n) := by
    unfold badF
    rw [hah, haf, hat, h4]
    omega
  have hc : (facM n).ce = ([[111, 110, 101], [116, 119, 111]] : List (List UInt8)).take (1 + band .i64 (ishr .i64 n 9) 1).toNat := rfl
  unfold newE
  rw [if_neg hng, if_neg (by rw [hc, List.length_take]; simp; omega), if_pos]
  rw [List.all_eq_true]
  intro b hb
  rw [hc] at hb
  have := List.mem_of_mem_take hb
  simp only [List.mem_cons, List.not_mem_nil, or_false] at this
  rcases this with rfl | rfl <;> decide
set_option maxHeartbeats 1000000 in
theorem start_c (n : Int) : FPure Tryz.prog 11 [.i n] (.agg (plC (devP (bootedM (facM n) (band .i64 n 7))))) := by
  refine fpure_x hmix Tryz.func11 rfl (by kernel_rfl) Tryz.ntmps11 Tryz.results11 (by simp) (by simp [idsL, idsA]) [0, 2, 3] ?_; intro c hP h0 hE
  simp only [go_sem, ↓reduceIte, hP]
  first | refine xw_call hE (ks := [0, 2, 3]) (n := 2000) (by rw [hP]; exact factory_c n) ?_ | refine xd_call hE (ks := [0, 2, 3]) (n := 2000) (by rw [hP]; exact factory_c n) ?_
  have he := fac_ok n
  have hsm : ∀ b, b ∈ (facM n).ce → b.length < 1000000000 := by
    intro b hb
    have hc : (facM n).ce = ([[111, 110, 101], [116, 119, 111]] : List (List UInt8)).take (1 + band .i64 (ishr .i64 n 9) 1).toNat := rfl
    rw [hc] at hb
    have := List.mem_of_mem_take hb
    simp only [List.mem_cons, List.not_mem_nil, or_false] at this
    rcases this with rfl | rfl <;> decide
  generalize facM n = f at *
  have hok := newE_ok he
  have hfl : (newFl f.ps 2).bs.length < 1000000000 := by
    have hb : 512 ≤ f.ps ∧ f.ps ≤ 8192 := by have := hok.1; unfold badF at this; omega
    rw [(blank_vfl hb.1 hb.2).2.1, List.length_replicate]
    omega
  simp only [go_sem, ↓reduceIte, hP]
  first | refine xw_call hE (ks := [0, 2, 3]) (n := 2000) (by rw [hP]; exact rnew_c f (by omega) hsm) ?_ | refine xd_call hE (ks := [0, 2, 3]) (n := 2000) (by rw [hP]; exact rnew_c f (by omega) hsm) ?_
  have hb7 := band_bd n 7 (by decide) (by decide)
  simp only [go_sem, ↓reduceIte, hP]
  first | refine xw_call hE (ks := [0, 2, 3]) (n := 2000) (by rw [hP]; exact rboot_c (newD f) (band .i64 n 7) (-1) (fresh_boot he hfl)) ?_ | refine xd_call hE (ks := [0, 2, 3]) (n := 2000) (by rw [hP]; exact rboot_c (newD f) (band .i64 n 7) (-1) (fresh_boot he hfl)) ?_
  rw [boot_fresh he (by omega) (by omega)]
  generalize bootedM f (band .i64 n 7) = d at *
  simp only [go_sem, ↓reduceIte, hP]
end Go.Proofs.YtebndjnkmcahaaaGreatDoor
end

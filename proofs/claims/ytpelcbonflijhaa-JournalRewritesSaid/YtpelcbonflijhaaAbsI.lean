/-
  The executor's operations are sound: append, copy, strings and bytes. Own work; no statement of the seat is proved here.
-/
import Derived.Test.YtpelcbonflijhaaAbsH
namespace Go.Abs
set_option linter.unusedSimpArgs false
set_option linter.unusedVariables false
open Go Go.RowKit
variable {P : Program}

/-- what is appended or copied: cells that can be read, the owned block that they lie in (if any) -/
inductive Src where
  | some (n : Nat) (cs : List AV) (T : List Nat) (side : Prop)
  | none

def srcOf (st : AS) (es : Nat) : AV → Src
  | .p (.data s n cs) => match Nat.beq s es with | true => .some n (cs.map .p) [] True | false => .none
  | .p (.v (.slice Option.none 0 0)) => .some 0 [] [] True
  | .sl id off n s => match Nat.beq s es, Nat.blt id st.nx, hget st.hp id with
    | true, true, Option.some b => .some n ((b.cs.drop off).take (n * s)) [id] (off + n * s ≤ b.cs.length)
    | _, _, _ => .none
  | _ => .none

structure SrcOk (ρ : IdMap) (F : FSet) (w : World) (es n : Nat) (cs : List AV) (u : Value) : Prop where
  len : cs.length = n * es
  rd : ∃ (A : Option Addr) (c : Nat) (us : List Value), u = .slice A n c ∧ us.length = cs.length ∧ (A = none → n = 0) ∧ (∀ ad, A = some ad → ∀ j v, us[j]? = some v → w.cell? (ad.add j) = some v) ∧
    ∀ j x, cs[j]? = some x → (us.getD j undef).oneCell' = true ∧ Rd ρ F w x (us.getD j undef)

theorem srcOf_ok {st : AS} {es n : Nat} {x : AV} {cs : List AV} {T : List Nat} {side : Prop} (h : srcOf st es x = .some n cs T side) (hs : side) (hes : 1 ≤ es) :
    (∀ i, i ∈ T → hget st.hp i ≠ none ∧ i < st.nx) ∧ ∀ {ρ : IdMap} {F : FSet} {w : World} {u : Value} {T' : List Nat}, (∀ i, i ∈ T → i ∈ T') → HpOk ρ F w (restr T' (hget st.hp)) → Rd ρ F w x u → SrcOk ρ F w es n cs u := by
  have mk : ∀ {ρ : IdMap} {F : FSet} {w : World} (b off n cap : Nat) (cs : List AV) (f : Nat → Value), cs.length = n * es → (∀ j, j < cs.length → w.cell? ⟨b, off + j, none⟩ = some (f j)) →
      (∀ j x, cs[j]? = some x → (f j).oneCell' = true ∧ Rd ρ F w x (f j)) → SrcOk ρ F w es n cs (.slice (some ⟨b, off, none⟩) n cap) := by
    intro ρ F w b off n cap cs f hl hc hr
    refine ⟨hl, some ⟨b, off, none⟩, cap, (List.range cs.length).map f, rfl, by simp, by simp, fun ad e j v hv => ?_, fun j x hx => ?_⟩
    · cases e
      simp only [List.getElem?_map, Option.map_eq_some_iff] at hv
      obtain ⟨q, hq, rfl⟩ := hv
      have hjl : j < cs.length := by
        rcases Nat.lt_or_ge j cs.length with h1 | h1
        · exact h1
        · rw [List.getElem?_eq_none (by simpa using h1)] at hq; cases hq
      rw [List.getElem?_range hjl] at hq
      cases hq
      rw [addr_add]; exact hc j hjl
    · have hjl : j < cs.length := (List.getElem?_eq_some_iff.1 hx).1
      have : ((List.range cs.length).map f).getD j undef = f j := by simp [List.getD_eq_getElem?_getD, hjl]
      rw [this]
      exact hr j x hx
  unfold srcOf at h
  split at h
  · rename_i s n' cs'
    split at h
    · rename_i hb
      simp only [Src.some.injEq] at h
      obtain ⟨rfl, rfl, rfl, rfl⟩ := h
      refine ⟨fun i hi => by simp at hi, fun {ρ F w u T'} _ _ hr => ?_⟩
      have hse := Nat.eq_of_beq_eq_true hb
      subst hse
      rcases hr.dataInv with ⟨rfl, rfl, A, cap, rfl⟩ | ⟨b, off, cap, f, rfl, hl, hcap, hF, hc, h1c, hrc⟩
      · exact ⟨by simp, A, cap, [], rfl, rfl, fun _ => rfl, fun ad e j v hv => by simp at hv, fun j x hx => by simp at hx⟩
      · refine mk b off n' cap _ f (by simpa using hl) (fun j hj => hc j (by simpa using hj)) (fun j x hx => ?_)
        simp only [List.getElem?_map, Option.map_eq_some_iff] at hx
        obtain ⟨y, hy, rfl⟩ := hx
        exact ⟨h1c j (List.getElem?_eq_some_iff.1 hy).1, .p _ _ (hrc j y hy)⟩
    · cases h
  · simp only [Src.some.injEq] at h
    obtain ⟨rfl, rfl, rfl, rfl⟩ := h
    refine ⟨fun i hi => by simp at hi, fun {ρ F w u T'} _ _ hr => ?_⟩
    have := hr.pv
    subst this
    exact ⟨by simp, none, 0, [], rfl, rfl, fun _ => rfl, fun ad e j v hv => by simp at hv, fun j x hx => by simp at hx⟩
  · rename_i id off n' s
    split at h
    · rename_i hb hblt hbl
      rename_i b
      simp only [Src.some.injEq] at h
      obtain ⟨rfl, rfl, rfl, rfl⟩ := h
      have hse := Nat.eq_of_beq_eq_true hb
      subst hse
      refine ⟨fun i hi => by simp at hi; subst hi; exact ⟨by rw [hbl]; simp, by simpa [Nat.blt_eq] using hblt⟩, fun {ρ F w u T'} hT hp hr => ?_⟩
      have hlen : ((b.cs.drop off).take (n' * s)).length = n' * s := by simp; omega
      rcases hr.slInv with ⟨rfl, A, rfl⟩ | ⟨bb, cap, hb', rfl, hcap, hc⟩
      · simp only [Nat.zero_mul, List.take_zero]
        exact ⟨by simp, A, 0, [], rfl, rfl, fun _ => rfl, fun ad e j v hv => by simp at hv, fun j x hx => by simp at hx⟩
      · rcases hp.ok id b (by simp [restr, hT id (by simp), hbl]) with ⟨_, h0⟩ | ⟨b2, hb2, hblk⟩
        · rw [h0] at hb'; cases hb'
        rw [hb'] at hb2; cases hb2
        obtain ⟨arr, ha, hln, hcells⟩ := hblk.is
        refine mk bb off n' cap _ (fun j => arr.getD (off + j) undef) hlen (fun j hj => cell_of ha (by rw [hlen] at hj; omega)) (fun j x hx => ?_)
        rw [List.getElem?_take] at hx
        split at hx
        · exact hcells (off + j) x (by simpa using hx)
        · cases hx
    · cases h
  · cases h

/-- append: the destination is nil or a whole owned block -/
def appendR (st : AS) (ti ei : TI) (dst : AV) : Src → R
  | .some m cs T side => match ti.kind, ei.zero, Nat.ble 1 ei.size with
    | .slice, some z, true => match Nat.beq z.length ei.size, dst with
      | true, .p (.v (.slice none 0 0)) => .okS (side ∧ m * ei.bytes ≤ 140737488355328 ∧ m ≤ 9223372036854775807) (.sl st.nx 0 m ei.size) T [(st.nx, some ⟨ti.elem, cs⟩)] (st.nx + 1)
      | true, .sl id 0 n s => match Nat.beq s ei.size, Nat.blt id st.nx, hget st.hp id with
        | true, true, some b => .okS (side ∧ b.t = ti.elem ∧ b.cs.length = n * s ∧ (n + m) * ei.bytes ≤ 140737488355328 ∧ n + m ≤ 9223372036854775807) (.sl st.nx 0 (n + m) s) (id :: T) [(st.nx, some ⟨ti.elem, b.cs ++ cs⟩), (id, none)] (st.nx + 1)
        | _, _, _ => .bad
      | _, _ => .bad
    | _, _, _ => .bad
  | .none => .bad

/-- the concrete append, in its two ways: it fits, or a new row is made -/
theorem run_append_two {t ty e : TypeId} {i : TypeInfo} {z : Value} (ht : P.underlying t = some (.slice e)) (hi : P.info? e = some i) (hz : i.zero = some z) {A : Option Addr} {n cap : Nat} {olds : List Value}
    {B : Option Addr} {m c : Nat} {news : List Value} {w : World} (hlo : olds.length = n * i.size) (holds : ∀ ad, A = some ad → ∀ j v, olds[j]? = some v → w.cell? (ad.add j) = some v) (hA : A = none → n = 0)
    (hl : news.length = m * i.size) (hnews : ∀ ad, B = some ad → ∀ j v, news[j]? = some v → w.cell? (ad.add j) = some v) (hB : B = none → m = 0)
    (h63 : n + m ≤ 9223372036854775807) (hb : (n + m) * i.bytes ≤ 140737488355328) :
    (cap < n + m → (Builtin.append_ #[t, t] ty #[.slice A n cap, .slice B m c]).run P w =
      .ok (.slice (some ⟨w.heap.size, 0, none⟩) (n + m) (grownCap w (n + m) cap e)) (w.drew.alloc (.cells (olds.toArray ++ news.toArray ++ Builtin.zeroCells z.cells (grownCap w (n + m) cap e - (n + m))) e))) ∧
    (n + m ≤ cap → m = 0 → (Builtin.append_ #[t, t] ty #[.slice A n cap, .slice B m c]).run P w = .ok (.slice A n cap) w) := by
  have hf0 : ∀ (w' : World), w'.cell? = w.cell? → (Builtin.firstCells i.size m (.slice B m c)).run P w' = .ok news.toArray w' := by
    intro w' hw'
    cases B with
    | none =>
      have hm := hB rfl
      subst hm
      have : news = [] := List.eq_nil_of_length_eq_zero (by simpa using hl)
      subst this
      simp [Builtin.firstCells]
    | some ad => exact run_firstCells_some (P := P) w' i.size m ad m c news hl (by rw [hw']; exact hnews ad rfl)
  have hf1 : ∀ (w' : World), w'.cell? = w.cell? → (Builtin.firstCells i.size n (.slice A n cap)).run P w' = .ok olds.toArray w' := by
    intro w' hw'
    cases A with
    | none =>
      have hm := hA rfl
      subst hm
      have : olds = [] := List.eq_nil_of_length_eq_zero (by simpa using hlo)
      subst this
      simp [Builtin.firstCells]
    | some ad => exact run_firstCells_some (P := P) w' i.size n ad n cap olds hlo (by rw [hw']; exact holds ad rfl)
  refine ⟨fun hg => ?_, fun hle hm => ?_⟩
  · have hn : ¬ (n + m ≤ cap) := by omega
    have h63' : ¬ (9223372036854775807 < ((n : Int) + (m : Int))) := by omega
    have h48 := growslice_fits (need := n + m) (old := cap) (bytes := i.bytes) hg hb
    have h48' : ¬ (281474976710656 < Builtin.nextslicecap (n + m) cap * i.bytes) := by omega
    have e0 := hf0 w.drew rfl
    have e1 := hf1 w.drew rfl
    simp [Builtin.append_, run_underlying ht, sizeOf, typeInfo, zeroValue, hi, hz, Builtin.lenOf, hn, h63', h48', Question.forced, e0, e1, newRow, grownCap]
    congr 2
    apply Array.ext'
    simp [List.append_assoc]
  · subst hm
    have hnil : news = [] := List.eq_nil_of_length_eq_zero (by simpa using hl)
    subst hnil
    have e0 := hf0 w rfl
    have hle' : n ≤ cap := by omega
    cases A with
    | none => simp [Builtin.append_, run_underlying ht, sizeOf, typeInfo, hi, Builtin.lenOf, hle', e0]
    | some ad => simp [Builtin.append_, run_underlying ht, sizeOf, typeInfo, hi, Builtin.lenOf, hle', e0, storeCells]

theorem Post.widen {ρ : IdMap} {F : FSet} {w : World} {T0 T : List Nat} {u : List (Nat × Option Blk)} {h : Heap} {v : AV} {x : Value} {ρ' : IdMap} {F' : FSet} {w' : World}
    (hp : Post ρ F w T0 u h v x ρ' F' w') (hH : HpOk ρ F w (restr T h)) (hf : FOk F w) (hfr : ∀ i, i ∈ keys u → i ∉ T0 → ρ i = none) (hsub : ∀ i, i ∈ T0 → i ∈ T) (hl : ∀ i, i ∈ T0 → h i ≠ none) :
    Post ρ F w T u h v x ρ' F' w' := by
  have e0 : restr (T0 ++ keys u) (updH u (restr T h)) = restr (T0 ++ keys u) (updH u h) := by
    funext i
    unfold restr updH
    by_cases hk : i ∈ keys u
    · simp [hk]
    · by_cases hT : i ∈ T0
      · simp [hk, hT, hsub i hT]
      · simp [hk, hT]
  have hp' : Post ρ F w T0 u (restr T h) v x ρ' F' w' := ⟨hp.rho, hp.new, hp.blk, hp.rd, by rw [e0]; exact hp.hp, hp.fok, hp.chg⟩
  have := Post.frame hH hf hfr (fun i hi => by simp [restr, hsub i hi, hl i hi]) hp'
  refine ⟨hp.rho, hp.new, hp.blk, hp.rd, ?_, hp.fok, hp.chg⟩
  have e : restr (T ++ keys u) (updH u h) = updH u (restr T h) := by
    funext i
    unfold restr updH
    by_cases hk : i ∈ keys u
    · simp [hk]
    · by_cases hT : i ∈ T <;> simp [hk, hT]
  rw [e]
  exact this

theorem Post.del {ρ : IdMap} {F : FSet} {w : World} {T : List Nat} {u : List (Nat × Option Blk)} {h : Heap} {v : AV} {x : Value} {ρ' : IdMap} {F' : FSet} {w' : World} {id : Nat}
    (hp : Post ρ F w T u h v x ρ' F' w') (hid : id ∉ keys u) : Post ρ F w T (u ++ [(id, none)]) h v x ρ' F' w' := by
  have hk : ∀ i, i ∈ keys (u ++ [(id, none)]) ↔ i ∈ keys u ∨ i = id := fun i => by simp [keys]
  have hO : ∀ b, OSet ρ (keys u) b → OSet ρ (keys (u ++ [(id, none)])) b := fun b ⟨i, hi, hb⟩ => ⟨i, (hk i).2 (.inl hi), hb⟩
  have hsub : ∀ i k, restr (T ++ keys (u ++ [(id, none)])) (updH (u ++ [(id, none)]) h) i = some k → restr (T ++ keys u) (updH u h) i = some k := by
    intro i k hi
    obtain ⟨hm, hv⟩ := restr_some hi
    unfold updH at hv
    by_cases hi' : i = id
    · subst hi'
      rw [if_pos ((hk _).2 (.inr rfl)), hget_append] at hv
      simp only [updH, if_neg hid] at hv
      simp [hget] at hv
    · have hm' : i ∈ T ++ keys u := by
        rcases List.mem_append.1 hm with h1 | h1
        · exact List.mem_append_left _ h1
        · rcases (hk i).1 h1 with h2 | h2
          · exact List.mem_append_right _ h2
          · exact absurd h2 hi'
      simp only [restr, if_pos hm', updH]
      by_cases hu : i ∈ keys u
      · rw [if_pos ((hk i).2 (.inl hu)), hget_append] at hv
        simp only [updH, if_pos hu] at hv
        simp [hu, hv]
      · rw [if_neg (fun hh => by rcases (hk i).1 hh with h2 | h2; exact hu h2; exact hi' h2)] at hv
        simp [hu, hv]
  refine ⟨hp.rho, fun i h1 h2 => (hk i).2 (.inl (hp.new i h1 h2)), fun i b h1 h2 => (hp.blk i b h1 h2).imp (fun h => h) (hO b), hp.rd, ⟨fun i k hi => hp.hp.ok i k (hsub i k hi), fun i j b hi hj h1 h2 => hp.hp.inj i j b ?_ ?_ h1 h2⟩, hp.fok, hp.chg.mono hO⟩
  · obtain ⟨k, hk'⟩ := Option.ne_none_iff_exists'.1 hi; rw [hsub i k hk']; simp
  · obtain ⟨k, hk'⟩ := Option.ne_none_iff_exists'.1 hj; rw [hsub j k hk']; simp

/-- a block that is written, or left, under a new name -/
theorem Post.moveBlk {ρ : IdMap} {F : FSet} {w : World} {id nid b : Nat} {t : TypeId} {cs : List AV} {arr arr' : Array Value} {h : Heap} {v : AV} {x : Value}
    (hf : FOk F w) (hF : ¬ F b) (hid : ρ id = some b) (hn : ρ nid = none) (ha : w.heap[b]? = some (.cells arr t (0, 0))) (hz : arr'.size = arr.size) (hl : cs.length ≤ arr'.size)
    (hc : ∀ j c, cs[j]? = some c → (arr'.getD j undef).oneCell' = true ∧ Rd ρ F w c (arr'.getD j undef))
    (hv : Rd (rset ρ nid b) F w v x) : Post ρ F w [id] [(nid, some ⟨t, cs⟩), (id, none)] h v x (rset ρ nid b) F (w.setRow b arr') := by
  have hne : nid ≠ id := fun e => by subst e; rw [hn] at hid; cases hid
  have hO : OSet ρ (keys [(nid, some (⟨t, cs⟩ : Blk)), (id, none)]) b := ⟨id, by simp [keys], hid⟩
  have hchg := setRow_same ha hz (OSet ρ (keys [(nid, some (⟨t, cs⟩ : Blk)), (id, none)])) F hO
  have hsame : ∀ k, F k → (w.setRow b arr').heap[k]? = w.heap[k]? := fun k hk => setRow_other w b k arr' (fun e => hF (e ▸ hk))
  have hrho : ∀ i b', ρ i = some b' → rset ρ nid b i = some b' := fun i b' hb => by
    unfold rset; split
    · subst_vars; rw [hn] at hb; cases hb
    · exact hb
  refine ⟨hrho, fun i h1 h2 => ?_, fun i b' h1 h2 => ?_, hv.mono (fun _ _ h => h) (fun _ h => h) hsame hchg.cells, ⟨fun i k hk => ?_, fun i j c hi hj _ _ => ?_⟩, fun k hk => Nat.lt_of_lt_of_le (hf k hk) hchg.size, hchg⟩
  · unfold rset at h2; split at h2
    · subst_vars; simp [keys]
    · exact absurd h1 h2
  · unfold rset at h2; split at h2
    · cases h2; exact .inr hO
    · rw [h1] at h2; cases h2
  · obtain ⟨hi, hk⟩ := restr_some hk
    have hi' : i = nid ∨ i = id := by simp [keys] at hi; omega
    rcases hi' with rfl | rfl
    · simp [updH, keys, hget] at hk
      subst hk
      exact .inr ⟨b, by simp [rset], ⟨hF, arr', setRow_heap w b arr arr' t _ ha, hl, fun j c hj => ⟨(hc j c hj).1, (hc j c hj).2.mono hrho (fun _ h => h) hsame hchg.cells⟩⟩⟩
    · simp [updH, keys, hget, beq_no hne] at hk
  · have key : ∀ i, restr ([id] ++ keys [(nid, some (⟨t, cs⟩ : Blk)), (id, none)]) (updH [(nid, some ⟨t, cs⟩), (id, none)] h) i ≠ none → i = nid := fun i hi => by
      obtain ⟨k, hk⟩ := Option.ne_none_iff_exists'.1 hi
      obtain ⟨hi, hk⟩ := restr_some hk
      have hi' : i = nid ∨ i = id := by simp [keys] at hi; omega
      rcases hi' with rfl | rfl
      · rfl
      · simp [updH, keys, hget, beq_no hne] at hk
    rw [key i hi, key j hj]

theorem join_rd {ρ : IdMap} {F : FSet} {w : World} {xs ys : List AV} {us vs : List Value} {zs : Array Value} (h1 : us.length = xs.length) (h2 : vs.length = ys.length)
    (hx : ∀ j c, xs[j]? = some c → (us.getD j undef).oneCell' = true ∧ Rd ρ F w c (us.getD j undef)) (hy : ∀ j c, ys[j]? = some c → (vs.getD j undef).oneCell' = true ∧ Rd ρ F w c (vs.getD j undef)) :
    (xs ++ ys).length ≤ (us.toArray ++ vs.toArray ++ zs).size ∧ ∀ j c, (xs ++ ys)[j]? = some c → ((us.toArray ++ vs.toArray ++ zs).getD j undef).oneCell' = true ∧ Rd ρ F w c ((us.toArray ++ vs.toArray ++ zs).getD j undef) := by
  refine ⟨by simp; omega, fun j c hj => ?_⟩
  have hjl : j < (xs ++ ys).length := (List.getElem?_eq_some_iff.1 hj).1
  simp only [List.length_append] at hjl
  have e : (us.toArray ++ vs.toArray ++ zs).getD j undef = if j < xs.length then us.getD j undef else vs.getD (j - xs.length) undef := by
    simp only [getD_of, Array.getElem?_append, Array.size_append, List.size_toArray, List.getElem?_toArray, List.getD_eq_getElem?_getD, h1, h2]
    by_cases hlt : j < xs.length
    · simp [hlt, show j < xs.length + ys.length by omega]
    · simp [hlt, show j < xs.length + ys.length by omega]
  rw [e]
  rw [List.getElem?_append] at hj
  split at hj
  · rename_i hlt; rw [if_pos hlt]; exact hx j c hj
  · rename_i hlt; rw [if_neg hlt]; exact hy _ c hj

theorem ok_append {o : Oper} {st : AS} {t : TypeId} {x y : Operand} (ho : o.op = .call ⟨.builtin .append, #[x, y], #[t, t]⟩) {s : Prop} {v : AV} {T : List Nat} {u : List (Nat × Option Blk)} {nx : Nat}
    (h : appendR st (tiOf P t) (tiOf P (tiOf P t).elem) (ev st x) (srcOf st (tiOf P (tiOf P t).elem).size (ev st y)) = .okS s v T u nx) (hs : s) : OpOk P o st v T u nx := by
  cases hsrc : srcOf st (tiOf P (tiOf P t).elem).size (ev st y) with
  | none => rw [hsrc] at h; simp [appendR] at h
  | some m cs T0 side =>
    rw [hsrc] at h
    simp only [appendR] at h
    split at h
    · rename_i hk hz0 hpos
      rename_i z
      have hpos' := Nat.le_of_ble_eq_true hpos
      obtain ⟨i, zv, hi, hzv, rfl⟩ := zero_inv hz0
      obtain ⟨d, i', hd, hi', hz⟩ := szOf_pos (P := P) (t := (tiOf P t).elem) hpos'
      rw [hi] at hi'; cases hi'
      have hsz : (tiOf P (tiOf P t).elem).size = i.size := by rw [tiOf_size, hz]
      have hby : (tiOf P (tiOf P t).elem).bytes = i.bytes := by show ((P.info? (tiOf P t).elem).map (·.bytes)).getD 0 = i.bytes; rw [hi]; rfl
      have ht := ti_slice hk
      split at h
      · -- nil
        rename_i hzl hx
        simp only [R.okS.injEq] at h
        obtain ⟨rfl, rfl, rfl, rfl, rfl⟩ := h
        obtain ⟨hside, hb, h63⟩ := hs
        rw [hby] at hb
        obtain ⟨hlive, hok⟩ := srcOf_ok hsrc hside hpos'
        refine ⟨?_, Nat.le_succ _, fun j hj => ?_, fun j hj => (hlive j hj).1⟩
        · intro ρ F a w hpre hin K Q hK
          have hrx := hin x (by simp [ho, Op.operands, Call.operands])
          have hry := hin y (by simp [ho, Op.operands, Call.operands])
          rw [hx] at hrx
          obtain ⟨hlen, B, c, us, hyv, hul, hB, hcell, hrd⟩ := hok (T' := T0) (fun _ h => h) hpre.hp hry
          rw [hsz] at hlen
          have hnT : st.nx ∉ T0 := fun hm => Nat.lt_irrefl _ (hlive _ hm).2
          have hid := hpre.fresh st.nx (by simp [keys]) hnT
          obtain ⟨hgrow, hstay⟩ := run_append_two (P := P) (ty := o.type) (A := none) (n := 0) (cap := 0) (olds := []) (B := B) (c := c) (m := m) (news := us) (w := w) ht hi hzv (by simp) (fun ad e => by cases e) (fun _ => rfl) (by omega) (fun ad e => hcell ad e) hB (by omega) (by simpa using hb)
          unfold Oper.wp
          have hpref : ∀ r, (Builtin.append_ #[t, t] o.type #[.slice none 0 0, .slice B m c]).run P w = r → (execOp a.eval o).run P w = r.andThen fun v w => .ok (.value v) w := by
            intro r hr
            simp only [execOp, ho, resolve, invoke, builtin, Sem.run_bind, Sem.run_pure, Result.andThen_ok, List.map_toArray, List.map_cons, List.map_nil, hrx.pv, hyv, hr]
          by_cases hm : m = 0
          · subst hm
            have hcs : cs = [] := List.eq_nil_of_length_eq_zero (by simpa using hlen)
            subst hcs
            rw [hpref _ (hstay (by omega) rfl)]
            refine hK _ ρ F w ⟨fun _ _ h => h, fun i h1 h2 => absurd h1 h2, fun i b h1 h2 => (by rw [h1] at h2; cases h2), .slz _ _ _ _, ⟨fun i k hk => ?_, fun i j b hi hj h1 h2 => ?_⟩, hpre.fok, Chg.refl _ _ _⟩
            · obtain ⟨hi, hk⟩ := restr_some hk
              by_cases hin : i = st.nx
              · subst hin
                simp [updH, keys, hget] at hk
                subst hk
                exact .inl ⟨rfl, hid⟩
              · simp only [updH, keys, List.map_cons, List.map_nil, List.mem_singleton, hin, if_false] at hk
                refine hpre.hp.ok i k ?_
                have : i ∈ T0 := by simpa [keys, hin] using hi
                simp [restr, this, hk]
            · have key : ∀ i b, restr (T0 ++ keys [(st.nx, some (⟨(tiOf P t).elem, []⟩ : Blk))]) (updH [(st.nx, some ⟨(tiOf P t).elem, []⟩)] (hget st.hp)) i ≠ none → ρ i = some b → restr T0 (hget st.hp) i ≠ none := by
                intro i b hi hb
                have hin : ¬ i = st.nx := fun e => by subst e; rw [hid] at hb; cases hb
                obtain ⟨k, hk⟩ := Option.ne_none_iff_exists'.1 hi
                obtain ⟨hi', hk⟩ := restr_some hk
                simp only [updH, keys, List.map_cons, List.map_nil, List.mem_singleton, hin, if_false] at hk
                have : i ∈ T0 := by simpa [keys, hin] using hi'
                simp [restr, this, hk]
              exact hpre.hp.inj i j b (key i b hi h1) (key j b hj h2) h1 h2
          · have hcap : 0 < 0 + m := by omega
            rw [hpref _ (hgrow hcap)]
            obtain ⟨jl, jr⟩ := join_rd (ρ := ρ) (F := F) (w := w) (xs := []) (ys := cs) (us := []) (vs := us) (zs := Builtin.zeroCells zv.cells (grownCap w (0 + m) 0 (tiOf P t).elem - (0 + m))) rfl hul (fun j c hj => by simp at hj) hrd
            simp only [List.nil_append] at jl jr
            have hpost := Post.newBlk (h := hget st.hp) (w1 := w.drew) (t := (tiOf P t).elem) hpre.fok hid jl jr rfl rfl rfl rfl (v := .sl st.nx 0 m (tiOf P (tiOf P t).elem).size) (x := .slice (some ⟨w.heap.size, 0, none⟩) (0 + m) (grownCap w (0 + m) 0 (tiOf P t).elem)) (by
              rw [Nat.zero_add]
              have hge := grownCap_ge w m 0 (tiOf P t).elem
              refine .sl _ _ _ _ w.heap.size _ (by simp [rset]) hge ⟨_, _, _, heap_alloc_new w.drew _, ?_⟩
              have hzs : zv.cells.size = i.size := by rw [← hsz]; simpa using Nat.eq_of_beq_eq_true hzl
              simp only [Array.size_append, List.size_toArray, List.length_nil, size_zeroCells, hzs, hul, hlen, hsz, Nat.zero_add, ← Nat.add_mul]
              rw [Nat.add_sub_cancel' hge]
              exact Nat.le_refl _)
            exact hK _ _ F _ (hpost.widen hpre.hp hpre.fok (fun i hi _ => by simp [keys] at hi; subst hi; exact hid) (fun i hi => by simp at hi) (fun i hi => by simp at hi))
        · simp [keys] at hj; subst hj; exact .inr ⟨Nat.le_refl _, Nat.lt_succ_self _⟩
      · -- a block of the call's own
        rename_i hzl hx
        rename_i id n s'
        have hzs : zv.cells.size = i.size := by rw [← hsz]; simpa using Nat.eq_of_beq_eq_true hzl
        split at h
        · rename_i hse hidlt hblk0
          rename_i b
          simp only [R.okS.injEq] at h
          obtain ⟨rfl, rfl, rfl, rfl, rfl⟩ := h
          obtain ⟨hside, hbt, hbl, hb, h63⟩ := hs
          have hse' := Nat.eq_of_beq_eq_true hse
          subst hse'
          rw [hby] at hb
          rw [hsz] at hbl
          have hidlt' : id < st.nx := by simpa [Nat.blt_eq] using hidlt
          have hne : id ≠ st.nx := by omega
          obtain ⟨hlive, hok⟩ := srcOf_ok hsrc hside hpos'
          refine ⟨?_, Nat.le_succ _, fun j hj => ?_, fun j hj => ?_⟩
          · intro ρ F a w hpre hin K Q hK
            have hrx := hin x (by simp [ho, Op.operands, Call.operands])
            have hry := hin y (by simp [ho, Op.operands, Call.operands])
            rw [hx] at hrx
            obtain ⟨hlen, B, c, us, hyv, hul, hB, hcell, hrd⟩ := hok (T' := id :: T0) (fun _ h => List.mem_cons_of_mem _ h) hpre.hp hry
            rw [hsz] at hlen
            have hnT : st.nx ∉ id :: T0 := fun hm => by
              rcases List.mem_cons.1 hm with h1 | h1
              · exact hne h1.symm
              · exact Nat.lt_irrefl _ (hlive _ h1).2
            have hid := hpre.fresh st.nx (by simp [keys]) hnT
            have hfr : ∀ i, i ∈ keys [(st.nx, some (⟨(tiOf P t).elem, b.cs ++ cs⟩ : Blk)), (id, none)] → i ∉ [id] → ρ i = none := fun i hi hn => by
              simp [keys] at hi
              rcases hi with rfl | rfl
              · exact hid
              · simp at hn
            have hpref : ∀ A cap r, a.eval x = .slice A n cap → (Builtin.append_ #[t, t] o.type #[.slice A n cap, .slice B m c]).run P w = r → (execOp a.eval o).run P w = r.andThen fun v w => .ok (.value v) w := by
              intro A cap r hxv hr
              simp only [execOp, ho, resolve, invoke, builtin, Sem.run_bind, Sem.run_pure, Result.andThen_ok, List.map_toArray, List.map_cons, List.map_nil, hxv, hyv, hr]
            -- what a new row leaves
            have grown : ∀ (cap : Nat) (olds : List Value), olds.length = b.cs.length → (∀ j c, b.cs[j]? = some c → (olds.getD j undef).oneCell' = true ∧ Rd ρ F w c (olds.getD j undef)) →
                K (a.put o.dst (.slice (some ⟨w.heap.size, 0, none⟩) (n + m) (grownCap w (n + m) cap (tiOf P t).elem))) (w.drew.alloc (.cells (olds.toArray ++ us.toArray ++ Builtin.zeroCells zv.cells (grownCap w (n + m) cap (tiOf P t).elem - (n + m))) (tiOf P t).elem)) := by
              intro cap olds hol hold
              obtain ⟨jl, jr⟩ := join_rd (ρ := ρ) (F := F) (w := w) (xs := b.cs) (ys := cs) (us := olds) (vs := us) (zs := Builtin.zeroCells zv.cells (grownCap w (n + m) cap (tiOf P t).elem - (n + m))) hol hul hold hrd
              have hge := grownCap_ge w (n + m) cap (tiOf P t).elem
              have hpost := Post.newBlk (h := hget st.hp) (w1 := w.drew) (t := (tiOf P t).elem) hpre.fok hid jl jr rfl rfl rfl rfl (v := .sl st.nx 0 (n + m) (tiOf P (tiOf P t).elem).size) (x := .slice (some ⟨w.heap.size, 0, none⟩) (n + m) (grownCap w (n + m) cap (tiOf P t).elem)) (by
                refine .sl _ _ _ _ w.heap.size _ (by simp [rset]) hge ⟨_, _, _, heap_alloc_new w.drew _, ?_⟩
                simp only [Array.size_append, List.size_toArray, size_zeroCells, hzs, hul, hlen, hsz, hol, hbl, Nat.zero_add, ← Nat.add_mul]
                rw [Nat.add_sub_cancel' hge]
                exact Nat.le_refl _)
              have hpost2 := hpost.widen hpre.hp hpre.fok (fun i hi _ => by simp [keys] at hi; subst hi; exact hid) (fun i hi => by simp at hi) (fun i hi => by simp at hi)
              exact hK _ _ F _ (hpost2.del (id := id) (by simp [keys]; exact hne))
            have hrs : restr (id :: T0) (hget st.hp) id = some b := by simp [restr, hblk0]
            unfold Oper.wp
            rcases hrx.slInv with ⟨rfl, A, hxv⟩ | ⟨bb, cap, hbb, hxv, hcap, hcc⟩
            · -- an empty slice without room
              have hbnil : b.cs = [] := List.eq_nil_of_length_eq_zero (by simpa using hbl)
              obtain ⟨hgrow, hstay⟩ := run_append_two (P := P) (ty := o.type) (A := A) (n := 0) (cap := 0) (olds := []) (B := B) (c := c) (m := m) (news := us) (w := w) ht hi hzv (by simp) (fun ad e j v hv => by simp at hv) (fun _ => rfl) (by omega) (fun ad e => hcell ad e) hB h63 hb
              by_cases hm : m = 0
              · subst hm
                have hcs : cs = [] := List.eq_nil_of_length_eq_zero (by simpa using hlen)
                subst hcs
                rw [hpref A 0 _ hxv (hstay (by omega) rfl)]
                rw [hbnil] at hK
                refine hK _ ρ F w ⟨fun _ _ h => h, fun i h1 h2 => absurd h1 h2, fun i b h1 h2 => (by rw [h1] at h2; cases h2), .slz _ _ _ _, ⟨fun i k hk => ?_, fun i j b' hi hj h1 h2 => ?_⟩, hpre.fok, Chg.refl _ _ _⟩
                · obtain ⟨hi, hk⟩ := restr_some hk
                  by_cases hin : i = st.nx
                  · subst hin
                    simp [updH, keys, hget] at hk
                    subst hk
                    exact .inl ⟨rfl, hid⟩
                  · by_cases hin2 : i = id
                    · subst hin2
                      simp [updH, keys, hget, beq_no (fun e => hin e.symm)] at hk
                    · simp only [updH, keys, List.map_cons, List.map_nil, List.mem_cons, List.not_mem_nil, or_false, hin, hin2, if_false] at hk
                      refine hpre.hp.ok i k ?_
                      have : i ∈ T0 := by simpa [keys, hin, hin2] using hi
                      simp [restr, this, hk]
                · have key : ∀ i b', restr ((id :: T0) ++ keys [(st.nx, some (⟨(tiOf P t).elem, [] ++ []⟩ : Blk)), (id, none)]) (updH [(st.nx, some ⟨(tiOf P t).elem, [] ++ []⟩), (id, none)] (hget st.hp)) i ≠ none → ρ i = some b' → restr (id :: T0) (hget st.hp) i ≠ none := by
                    intro i b' hi hb
                    have hin : ¬ i = st.nx := fun e => by subst e; rw [hid] at hb; cases hb
                    obtain ⟨k, hk⟩ := Option.ne_none_iff_exists'.1 hi
                    obtain ⟨hi', hk⟩ := restr_some hk
                    by_cases hin2 : i = id
                    · subst hin2
                      simp [updH, keys, hget, beq_no (fun e => hin e.symm)] at hk
                    · simp only [updH, keys, List.map_cons, List.map_nil, List.mem_cons, List.not_mem_nil, or_false, hin, hin2, if_false] at hk
                      have : i ∈ T0 := by simpa [keys, hin, hin2] using hi'
                      simp [restr, this, hk]
                  exact hpre.hp.inj i j b' (key i b' hi h1) (key j b' hj h2) h1 h2
              · rw [hpref A 0 _ hxv (hgrow (by omega))]
                exact grown 0 [] (by rw [hbnil]; rfl) (fun j c hj => by rw [hbnil] at hj; simp at hj)
            · rcases hpre.hp.ok id b hrs with ⟨_, h0⟩ | ⟨b2, hb2, hblk⟩
              · rw [h0] at hbb; cases hbb
              rw [hbb] at hb2; cases hb2
              obtain ⟨arr, ha, hln, hcells⟩ := hblk.is
              have harr : cap * i.size ≤ arr.size := by
                obtain ⟨ar, t', fr, h1, h2⟩ := hcc
                rw [ha] at h1; cases h1
                rw [← hsz]; omega
              have hlo : (arr.toList.take (n * i.size)).length = n * i.size := by simp; omega
              have holdc : ∀ j v, (arr.toList.take (n * i.size))[j]? = some v → w.cell? ((⟨bb, 0, none⟩ : Addr).add j) = some v := by
                intro j v hv
                rw [List.getElem?_take] at hv
                split at hv
                · rw [addr_add, Nat.zero_add]
                  simp only [World.cell?, ha]
                  simpa using hv
                · cases hv
              have hold : ∀ j c, b.cs[j]? = some c → ((arr.toList.take (n * i.size)).getD j undef).oneCell' = true ∧ Rd ρ F w c ((arr.toList.take (n * i.size)).getD j undef) := by
                intro j c hj
                have hjl : j < n * i.size := by rw [← hbl]; exact (List.getElem?_eq_some_iff.1 hj).1
                have e : (arr.toList.take (n * i.size)).getD j undef = arr.getD j undef := by simp [getD_of, List.getD_eq_getElem?_getD, List.getElem?_take, hjl]
                rw [e]; exact hcells j c hj
              obtain ⟨hgrow, hstay⟩ := run_append_two (P := P) (ty := o.type) (A := some ⟨bb, 0, none⟩) (n := n) (cap := cap) (olds := arr.toList.take (n * i.size)) (B := B) (c := c) (m := m) (news := us) (w := w) ht hi hzv hlo (fun ad e => by cases e; exact holdc) (fun e => by cases e) (by omega) (fun ad e => hcell ad e) hB h63 hb
              by_cases hfit : n + m ≤ cap
              · -- it fits
                have hle : n * i.size + us.length ≤ arr.size := by
                  have : (n + m) * i.size ≤ cap * i.size := Nat.mul_le_mul_right _ hfit
                  rw [Nat.add_mul] at this; omega
                have hrun : (Builtin.append_ #[t, t] o.type #[.slice (some ⟨bb, 0, none⟩) n cap, .slice B m c]).run P w = .ok (.slice (some ⟨bb, 0, none⟩) (n + m) cap) (w.setRow bb (arr.toList.take (n * i.size) ++ us ++ arr.toList.drop (n * i.size + us.length)).toArray) := by
                  cases B with
                  | none =>
                    have hm := hB rfl
                    subst hm
                    have : us = [] := List.eq_nil_of_length_eq_zero (by rw [hul, hlen]; simp)
                    subst this
                    rw [hstay hfit rfl]
                    simp only [List.append_nil, List.length_nil, Nat.add_zero, List.take_append_drop, Array.toArray_toList]
                    rw [setRow_self w bb arr _ (0, 0) ha]
                  | some ad =>
                    rw [hbt] at ha
                    exact run_append_room (P := P) w t o.type (tiOf P t).elem i ht hi bb n cap arr ha ad m c us (by omega) (hcell ad rfl) (fun v hv => by
                      obtain ⟨j, hj⟩ := List.getElem?_of_mem hv
                      have hjl : j < cs.length := by rw [← hul]; exact (List.getElem?_eq_some_iff.1 hj).1
                      have := (hrd j _ (List.getElem?_eq_getElem hjl)).1
                      simpa [List.getD_eq_getElem?_getD, hj] using this) hfit hle
                rw [hpref _ cap _ hxv hrun]
                rw [hbt] at ha
                have hasz : (arr.toList.take (n * i.size) ++ us ++ arr.toList.drop (n * i.size + us.length)).toArray.size = arr.size := by
                  simp only [List.size_toArray, List.length_append, List.length_take, List.length_drop, Array.length_toList]; omega
                have hpost := Post.moveBlk (h := hget st.hp) (cs := b.cs ++ cs) (arr' := (arr.toList.take (n * i.size) ++ us ++ arr.toList.drop (n * i.size + us.length)).toArray) hpre.fok hblk.own hbb hid ha hasz (by rw [hasz, List.length_append]; omega) (fun j c hj => by
                  have hjl : j < (b.cs ++ cs).length := (List.getElem?_eq_some_iff.1 hj).1
                  simp only [List.length_append] at hjl
                  have e : ((arr.toList.take (n * i.size) ++ us ++ arr.toList.drop (n * i.size + us.length)).toArray).getD j undef = if j < b.cs.length then arr.getD j undef else us.getD (j - b.cs.length) undef := by
                    have hmin : min (n * i.size) arr.size = n * i.size := by omega
                    simp only [getD_of, List.getElem?_toArray, List.getElem?_append, List.length_append, List.length_take, Array.length_toList, hmin, List.getElem?_take, Array.getElem?_toList, List.getD_eq_getElem?_getD, hbl, hul]
                    by_cases h1 : j < n * i.size
                    · simp [h1, show j < n * i.size + cs.length by omega]
                    · simp [h1, show j < n * i.size + cs.length by omega]
                  rw [e]
                  rw [List.getElem?_append] at hj
                  split at hj
                  · rename_i h1; rw [if_pos h1]; exact hcells j c hj
                  · rename_i h1; rw [if_neg h1]; exact hrd _ c hj) (v := .sl st.nx 0 (n + m) (tiOf P (tiOf P t).elem).size) (x := .slice (some ⟨bb, 0, none⟩) (n + m) cap) (.sl _ _ _ _ bb cap (by simp [rset]) hfit hcc)
                exact hK _ _ F _ (hpost.widen hpre.hp hpre.fok hfr (fun i hi => by simp at hi; subst hi; simp) (fun i hi => by simp at hi; subst hi; rw [hblk0]; simp))
              · rw [hpref _ cap _ hxv (hgrow (by omega))]
                exact grown cap _ (by rw [hlo, hbl]) hold
          · simp [keys] at hj
            rcases hj with rfl | rfl
            · exact .inr ⟨Nat.le_refl _, Nat.lt_succ_self _⟩
            · exact .inl (by simp)
          · rcases List.mem_cons.1 hj with rfl | h1
            · rw [hblk0]; simp
            · exact (hlive j h1).1
        · cases h
      · cases h
    · cases h

end Go.Abs

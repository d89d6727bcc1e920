/- Abstract values and how they read memory: owned blocks (known cell by cell, writable) and frozen data (lists). Own work; no statement of the seat is proved here. The abstract executor: what an operation does to an abstract state. Own work; no statement of the seat is proved here. What an operation's triple says, states over memory, one operation after another. Own work; no statement of the seat is proved here. The executor's operations are sound: those that only compute, and those on single blocks. Own work; no statement of the seat is proved here. The executor's operations are sound: addresses, slices, fields, conversions. Own work; no statement of the seat is proved here. -/
import Derived.Test.YtebndjnkmcahaaaGreatDoorGlob
import Derived.Calls
import Derived.Orders
import Derived.Below
import Derived.Tactics
import Derived.WalkKit
import Derived.Laws.CopyRow
import Derived.Laws.AppendOwn
import Derived.Laws.OwnMore
import Derived.Maps.Own
import Derived.Laws.StructEq
namespace Go.Abs
set_option linter.unusedSimpArgs false
set_option linter.unusedVariables false
open Go Go.RowKit
inductive PV where
 | v (x:Value)
 | data (s n:Nat) (cs:List PV)
 | iface (t:TypeId) (x:PV)
 | agg (cs:List PV)
 deriving Inhabited
inductive AV where
 | p (x:PV)
 | ptr (id off:Nat)
 | sl (id off len s:Nat)
 | cp (cs:List PV)
 | agg (cs:List AV)
 | tup (vs:List AV)
 | iface (t:TypeId) (x:AV)
 | fn (f:Fn) (first captured:List AV)
 | mp (id:Nat)
 | any
 deriving Inhabited
structure Blk where
 t:TypeId
 cs:List AV
abbrev aA:=Nat→Prop
abbrev am:=Nat→Option Nat
def hasCells (w:World) (b n:Nat):Prop:=∃arr t fr,w.heap[b]?=some (.cells arr t fr)∧n≤arr.size
def isMapO (w:World) (b:Nat):Prop:=∃es c,w.heap[b]?=some (.map es c)
inductive RdP (F:aA) (w:World):PV→Value→Prop
 | v (x:Value) (h1:x.oneCell'=true):RdP F w (.v x) x
 | nil (s:Nat) (A:Option Addr) (cap:Nat):RdP F w (.data s 0 []) (.slice A 0 cap)
 | data (s n:Nat) (cs:List PV) (b off cap:Nat) (f:Nat→Value) (hl:cs.length=n*s) (hcap:n≤cap) (hF:F b)
  (hc:∀j,j<cs.length→w.cell? ⟨b,off+j,none⟩=some (f j)) (h1:∀j,j<cs.length→(f j).oneCell'=true) (hr:∀j c,cs[j]?=some c→RdP F w c (f j)) :
  RdP F w (.data s n cs) (.slice (some ⟨b,off,none⟩) n cap)
 | iface (t:TypeId) (x:PV) (u:Value) (h:RdP F w x u):RdP F w (.iface t x) (.iface t u)
 | agg (cs:List PV) (us:Array Value) (hl:us.size=cs.length) (hr:∀j c,cs[j]?=some c→RdP F w c (us.getD j undef)):RdP F w (.agg cs) (.agg us)
inductive Rd (ρ:am) (F:aA) (w:World):AV→Value→Prop
 | p (x:PV) (u:Value) (h:RdP F w x u):Rd ρ F w (.p x) u
 | ptr (id off b:Nat) (h:ρ id=some b):Rd ρ F w (.ptr id off) (.pointer (some ⟨b,off,none⟩))
 | sl (id off len s b cap:Nat) (h:ρ id=some b) (hcap:len≤cap) (hs:hasCells w b (off+cap*s)) :
  Rd ρ F w (.sl id off len s) (.slice (some ⟨b,off,none⟩) len cap)
 | slz (id off s:Nat) (A:Option Addr):Rd ρ F w (.sl id off 0 s) (.slice A 0 0)
 | cp (cs:List PV) (b off:Nat) (f:Nat→Value) (hF:F b) (hc:∀j,j<cs.length→w.cell? ⟨b,off+j,none⟩=some (f j)) (h1:∀j,j<cs.length→(f j).oneCell'=true)
  (hr:∀j c,cs[j]?=some c→RdP F w c (f j)):Rd ρ F w (.cp cs) (.pointer (some ⟨b,off,none⟩))
 | agg (cs:List AV) (us:Array Value) (hl:us.size=cs.length) (hr:∀j c,cs[j]?=some c→Rd ρ F w c (us.getD j undef)):Rd ρ F w (.agg cs) (.agg us)
 | tup (cs:List AV) (us:Array Value) (hl:us.size=cs.length) (hr:∀j c,cs[j]?=some c→Rd ρ F w c (us.getD j undef)):Rd ρ F w (.tup cs) (.tuple us)
 | iface (t:TypeId) (x:AV) (u:Value) (h:Rd ρ F w x u):Rd ρ F w (.iface t x) (.iface t u)
 | fn (f:Fn) (as bs:List AV) (us vs:Array Value) (hl:us.size=as.length) (hr:∀j c,as[j]?=some c→Rd ρ F w c (us.getD j undef))
  (hl':vs.size=bs.length) (hr':∀j c,bs[j]?=some c→Rd ρ F w c (vs.getD j undef)):Rd ρ F w (.fn f as bs) (.func f us vs)
 | mp (id b:Nat) (h:ρ id=some b) (hm:isMapO w b):Rd ρ F w (.mp id) (.map (some b))
 | any (u:Value):Rd ρ F w .any u
theorem RdP.mono {F F':aA} {w w':World} (hF:∀b,F b→F' b) (hw:∀b,F b→w'.heap[b]?=w.heap[b]?) {x:PV} {u:Value}
 (h:RdP F w x u):RdP F' w' x u:=by
 induction h with
 | v x h1=>exact .v x h1
 | nil s A cap=>exact .nil s A cap
 | data s n cs b off cap f hl hcap hFb hc h1 _ ih =>
  refine .data s n cs b off cap f hl hcap (hF _ hFb) (fun j hj=>?_) h1 ih
  rw [← hc j hj];simp only [World.cell?,hw b hFb]
 | iface t x u _ ih=>exact .iface t x u ih
 | agg cs us hl _ ih=>exact .agg cs us hl ih
theorem Rd.mono {ρ ρ':am} {F F':aA} {w w':World} (hρ:∀i b,ρ i=some b→ρ' i=some b) (hF:∀b,F b→F' b)
 (hw:∀b,F b→w'.heap[b]?=w.heap[b]?) (hs:(∀b n,hasCells w b n→hasCells w' b n)∧∀b,isMapO w b→isMapO w' b) {x:AV} {u:Value} (h:Rd ρ F w x u):Rd ρ' F' w' x u:=by
 induction h with
 | p x u h=>exact .p x u (h.mono hF hw)
 | ptr id off b h=>exact .ptr id off b (hρ _ _ h)
 | sl id off len s b cap h hcap hc=>exact .sl id off len s b cap (hρ _ _ h) hcap (hs.1 _ _ hc)
 | slz id off s A=>exact .slz id off s A
 | cp cs b off f hFb hc h1 hr =>
  refine .cp cs b off f (hF _ hFb) (fun j hj=>?_) h1 (fun j c hj=>(hr j c hj).mono hF hw)
  rw [← hc j hj];simp only [World.cell?,hw b hFb]
 | agg cs us hl _ ih=>exact .agg cs us hl ih
 | tup cs us hl _ ih=>exact .tup cs us hl ih
 | iface t x u _ ih=>exact .iface t x u ih
 | fn f as bs us vs hl _ hl' _ ih ih'=>exact .fn f as bs us vs hl ih hl' ih'
 | mp id b h hm=>exact .mp id b (hρ _ _ h) (hs.2 _ hm)
 | any u=>exact .any u
abbrev ag:=List (Int×List UInt8)
def qx:List Nat→Nat
 | []=>0
 | a::l=>2^a*(2*qx l+1)
theorem DP {a b x y:Nat} (h:2^a*(2*x+1)=2^b*(2*y+1)):a=b∧x=y:=by
 have key:∀a b x y:Nat,a<b→2^a*(2*x+1)≠2^b*(2*y+1):=by
  intro a b x y hlt e
  obtain⟨d,rfl⟩:∃d,b=a+(d+1):=⟨b-a-1,by omega⟩
  rw [Nat.pow_add,Nat.mul_assoc] at e
  have:=Nat.eq_of_mul_eq_mul_left (Nat.two_pow_pos a) e
  rw [Nat.pow_succ,Nat.mul_comm (2^d) 2,Nat.mul_assoc] at this
  omega
 rcases Nat.lt_trichotomy a b with h1|h1|h1
 ·exact absurd h (key a b x y h1)
 ·subst h1
  have:=Nat.eq_of_mul_eq_mul_left (Nat.two_pow_pos a) h
  exact⟨rfl,by omega⟩
 ·exact absurd h.symm (key b a y x h1)
theorem oh:∀{l l':List Nat},qx l=qx l'→l=l'
 | [],[],_=>rfl
 | [],a::l,h=>by have:=Nat.mul_pos (Nat.two_pow_pos a) (show 0<2*qx l+1 by omega);simp only [qx] at h;omega
 | a::l,[],h=>by have:=Nat.mul_pos (Nat.two_pow_pos a) (show 0<2*qx l+1 by omega);simp only [qx] at h;omega
 | a::l,b::l',h=>by
  simp only [qx] at h
  obtain⟨h1,h2⟩:=DP h
  rw [h1,oh h2]
def zz (k:Int):Nat:=if 0≤k then 2*k.toNat else 2*(-k).toNat+1
theorem Ga {a b:Int} (h:zz a=zz b):a=b:=by
 unfold zz at h;split at h<;>split at h<;>omega
theorem rX {α β:Type} {f:α→β} (hf:∀a b,f a=f b→a=b):∀{l l':List α},l.map f=l'.map f→l=l'
 | [],[],_=>rfl
 | [],_::_,h=>by simp at h
 | _::_,[],h=>by simp at h
 | a::l,b::l',h=>by
  simp only [List.map_cons,List.cons.injEq] at h
  rw [hf _ _ h.1,rX hf h.2]
def Gb (e:Int×List UInt8):Nat:=qx (zz e.1::e.2.map UInt8.toNat)
theorem AL {e e':Int×List UInt8} (h:Gb e=Gb e'):e=e':=by
 have:=oh h
 simp only [List.cons.injEq] at this
 exact Prod.ext (Ga this.1) (rX (fun a b=>UInt8.toNat_inj.1) this.2)
def cJ (s:ag):TypeId:=qx (s.map Gb)
theorem AM {s s':ag} (h:cJ s=cJ s'):s=s':=rX (fun _ _=>AL) (oh h)
def RV (v:Value):Option (DataW Value×List MemPlace):=some (.held v,[])
abbrev Ent:=Int×List UInt8×Value
def entries (E:List Ent):List (Lit×DataW Value):=E.map fun e=>(.int .i64 e.1,.held e.2.2)
def db (E:List Ent):ag:=E.map fun e=>(e.1,e.2.1)
structure MapIs (F:aA) (w:World) (b:Nat) (s:ag):Prop where
 obj:isMapO w b
 is:∃E:List Ent,s=db E∧(∀(P:Program) (k:TypeId),P.underlying k=some (.int .i64)→w.ownsMap P k RV b E.length (.map (entries E))) ∧
  ∀e,e∈E→e.2.2.oneCell'=true∧RdP F w (.data 1 e.2.1.length (e.2.1.map fun x => .v (.int .u8 (x.toNat:Int)))) e.2.2
theorem isMapO.lt {w:World} {b:Nat} (h:isMapO w b):b<w.heap.size:=by
 obtain⟨es,c,hb⟩:=h
 exact (Array.getElem?_eq_some_iff.1 hb).1
theorem isMapO.no {w:World} {b n:Nat} (h:isMapO w b) (hc:hasCells w b n):False:=by
 obtain⟨es,c,hb⟩:=h
 obtain⟨arr,t,fr,hb',_⟩:=hc
 rw [hb] at hb';cases hb'
theorem MapIs.mono {F F':aA} {w w':World} {b:Nat} {s:ag} (h:MapIs F w b s) (hb:w'.heap[b]?=w.heap[b]?) (hF:∀b,F b→F' b) (hw:∀b,F b→w'.heap[b]?=w.heap[b]?):MapIs F' w' b s:=by
 obtain⟨⟨es,c,h0⟩,E,h1,h2,h3⟩:=h
 refine⟨⟨es,c,hb.trans h0⟩,E,h1,fun P k hk=>?_,fun e he=>⟨(h3 e he).1,(h3 e he).2.mono hF hw⟩⟩
 obtain⟨es,c,h4,h5⟩:=h2 P k hk
 exact⟨es,c,hb.trans h4,h5⟩
abbrev ba:=Nat→Option Blk
def FrOk (fr:Nat×Nat) (n:Nat):Prop:=fr.2=0∨n≤fr.1
theorem FrOk.zero (n:Nat):FrOk (0,0) n := .inl rfl
structure BlkOk (ρ:am) (F:aA) (w:World) (b:Nat) (k:Blk):Prop where
 own:¬F b
 is0:(∃arr fr,w.heap[b]?=some (.cells arr k.t fr)∧FrOk fr arr.size∧k.cs.length≤arr.size∧∀j c,k.cs[j]?=some c→(arr.getD j undef).oneCell'=true∧Rd ρ F w c (arr.getD j undef)) ∨
  (k.cs=[]∧∃s,k.t=cJ s∧MapIs F w b s)
theorem BlkOk.is {ρ:am} {F:aA} {w:World} {b:Nat} {k:Blk} (h:BlkOk ρ F w b k) (hc:1≤k.cs.length∨∃n,hasCells w b n) :
 ∃arr fr,w.heap[b]?=some (.cells arr k.t fr)∧FrOk fr arr.size∧k.cs.length≤arr.size∧∀j c,k.cs[j]?=some c→(arr.getD j undef).oneCell'=true∧Rd ρ F w c (arr.getD j undef):=by
 rcases h.is0 with h1|⟨h1,s,_,hm⟩
 ·exact h1
 ·rcases hc with hc|⟨n,hc⟩
  ·rw [h1] at hc;simp at hc
  ·exact (hm.obj.no hc).elim
theorem BlkOk.lt {ρ:am} {F:aA} {w:World} {b:Nat} {k:Blk} (h:BlkOk ρ F w b k):b<w.heap.size:=by
 rcases h.is0 with ⟨arr,fr,ha,_⟩|⟨_,s,_,hm⟩
 ·exact (Array.getElem?_eq_some_iff.1 ha).1
 ·exact hm.obj.lt
theorem BlkOk.view {ρ ρ':am} {F F':aA} {w:World} {b:Nat} {k k':Blk} (h:BlkOk ρ F w b k) (hF':¬F' b) (ht:k'.t=k.t) (hl:k'.cs.length=k.cs.length) (hF:∀b,F b→F' b)
 (hr:∀f:Nat→Value,(∀j a,k.cs[j]?=some a→Rd ρ F w a (f j))→∀j c,k'.cs[j]?=some c→Rd ρ' F' w c (f j)):BlkOk ρ' F' w b k':=by
 refine⟨hF',?_⟩
 rcases h.is0 with ⟨arr,fr,ha,hfr,hl',hc⟩|⟨h1,s,hs,hm⟩
 ·refine .inl ⟨arr,fr,by rw [ht];exact ha,hfr,by omega,fun j c hj=>?_⟩
  have hj':j<k.cs.length:=by rw [← hl];exact (List.getElem?_eq_some_iff.1 hj).1
  exact⟨(hc j _ (List.getElem?_eq_getElem hj')).1,hr (fun j=>arr.getD j undef) (fun j a ha=>(hc j a ha).2) j c hj⟩
 ·exact .inr ⟨List.eq_nil_of_length_eq_zero (by rw [hl,h1];rfl),s,by rw [ht];exact hs,hm.mono rfl hF (fun _ _=>rfl)⟩
theorem BlkOk.keep {ρ ρ':am} {F F':aA} {w w':World} {b:Nat} {k:Blk} (h:BlkOk ρ F w b k) (hF':¬F' b) (hb:w'.heap[b]?=w.heap[b]?) (hF:∀b,F b→F' b) (hw:∀b,F b→w'.heap[b]?=w.heap[b]?)
 (hr:∀c u,c∈k.cs→Rd ρ F w c u→Rd ρ' F' w' c u):BlkOk ρ' F' w' b k:=by
 refine⟨hF',?_⟩
 rcases h.is0 with ⟨arr,fr,ha,hfr,hl,hc⟩|⟨h1,s,ht,hm⟩
 ·exact .inl ⟨arr,fr,hb.trans ha,hfr,hl,fun j c hj=>⟨(hc j c hj).1,hr _ _ (List.mem_of_getElem? hj) (hc j c hj).2⟩⟩
 ·exact .inr ⟨h1,s,ht,hm.mono hb hF hw⟩
structure HpOk (ρ:am) (F:aA) (w:World) (h:ba):Prop where
 ok:∀i k,h i=some k→(k.cs=[]∧ρ i=none)∨∃b,ρ i=some b∧BlkOk ρ F w b k
 inj:∀i j b,h i≠none→h j≠none→ρ i=some b→ρ j=some b→i=j
def FOk (F:aA) (w:World):Prop:=∀b,F b→b<w.heap.size
def GlobOk (F:aA) (w:World):Prop:=∀g cs,ku g=some cs→F g∧∀j v,cs[j]?=some v→v.oneCell'=true∧w.cell? ⟨g,j,none⟩=some v
theorem GlobOk.mono {F F':aA} {w w':World} (h:GlobOk F w) (hF:∀b,F b→F' b) (hw:∀b,F b→w'.heap[b]?=w.heap[b]?):GlobOk F' w':=fun g cs hg =>
 ⟨hF g (h g cs hg).1,fun j v hv=>⟨((h g cs hg).2 j v hv).1,by rw [← ((h g cs hg).2 j v hv).2];simp only [World.cell?,hw g (h g cs hg).1]⟩⟩
theorem GlobOk.rd {ρ:am} {F:aA} {w:World} (h:GlobOk F w) {g:Nat} {cs:List Value} (hg:ku g=some cs):Rd ρ F w (.cp (cs.map .v)) (.pointer (some ⟨g,0,none⟩)):=by
 obtain⟨h1,h2⟩:=h g cs hg
 have hget:∀j,j<cs.length→cs[j]?=some (cs.getD j undef):=fun j hj=>by simp [List.getD_eq_getElem?_getD,hj]
 refine .cp _ g 0 (fun j=>cs.getD j undef) h1 (fun j hj=>?_) (fun j hj=>?_) (fun j c hj=>?_)
 ·rw [Nat.zero_add];exact (h2 j _ (hget j (by simpa using hj))).2
 ·exact (h2 j _ (hget j (by simpa using hj))).1
 ·simp only [List.getElem?_map,Option.map_eq_some_iff] at hj
  obtain⟨y,hy,rfl⟩:=hj
  have:cs.getD j undef=y:=by simp [List.getD_eq_getElem?_getD,hy]
  rw [this]
  exact .v _ (h2 j y hy).1
structure Chg (O:aA) (F F':aA) (w w':World):Prop where
 os:w'.os=w.os
 tape:w'.tape=w.tape
 output:w'.output=w.output
 size:w.heap.size≤w'.heap.size
 same:∀b,b<w.heap.size→¬O b→w'.heap[b]?=w.heap[b]?
 cells:(∀b n,hasCells w b n→hasCells w' b n)∧∀b,isMapO w b→isMapO w' b
 sub:∀b,F b→F' b
 new:∀b,F' b→F b∨w.heap.size≤b∨O b
theorem Chg.refl (O F:aA) (w:World):Chg O F F w w :=
 ⟨rfl,rfl,rfl,Nat.le_refl _,fun _ _ _=>rfl,⟨fun _ _ h=>h,fun _ h=>h⟩,fun _ h=>h,fun _ h => .inl h⟩
theorem Chg.trans {O O' F F' F'':aA} {w w' w'':World} (h:Chg O F F' w w') (h':Chg O' F' F'' w' w'')
 (hO:∀b,O' b→O b∨w.heap.size≤b):Chg O F F'' w w'' where
 os:=h'.os.trans h.os
 tape:=h'.tape.trans h.tape
 output:=h'.output.trans h.output
 size:=Nat.le_trans h.size h'.size
 same b hb hn:=(h'.same b (Nat.lt_of_lt_of_le hb h.size) (fun hx=>by rcases hO b hx with h1|h1;exact hn h1;omega)).trans (h.same b hb hn)
 cells:=⟨fun b n hc=>h'.cells.1 b n (h.cells.1 b n hc),fun b hc=>h'.cells.2 b (h.cells.2 b hc)⟩
 sub b hb:=h'.sub b (h.sub b hb)
 new b hb:=by
  rcases h'.new b hb with h1|h1|h1
  ·exact h.new b h1
  ·exact .inr (.inl (Nat.le_trans h.size h1))
  ·rcases hO b h1 with h2|h2
   ·exact .inr (.inr h2)
   ·exact .inr (.inl h2)
theorem Chg.mono {O O' F F':aA} {w w':World} (h:Chg O F F' w w') (hO:∀b,O b→O' b):Chg O' F F' w w' where
 os:=h.os
 tape:=h.tape
 output:=h.output
 size:=h.size
 same b hb hn:=h.same b hb (fun hx=>hn (hO b hx))
 cells:=h.cells
 sub:=h.sub
 new b hb:=by
  rcases h.new b hb with h1|h1|h1
  ·exact .inl h1
  ·exact .inr (.inl h1)
  ·exact .inr (.inr (hO b h1))
theorem Chg.below {F F':aA} {w w':World} (h:Chg (fun _=>False) F F' w w'):Below w.heap.size w w' :=
 ⟨h.os,h.tape,h.output,h.size,fun b hb=>h.same b hb (fun hx=>hx)⟩
theorem hasCells.alloc {w:World} {b n:Nat} (o:Obj) (h:hasCells w b n):hasCells (w.alloc o) b n:=by
 obtain⟨arr,t,fr,hb,hn⟩:=h
 have hlt:b<w.heap.size:=by
  rcases Nat.lt_or_ge b w.heap.size with h1|h1
  ·exact h1
  ·rw [Array.getElem?_eq_none h1] at hb;cases hb
 exact⟨arr,t,fr,(Below.heap_alloc w o b hlt).trans hb,hn⟩
theorem isMapO.alloc {w:World} {b:Nat} (o:Obj) (h:isMapO w b):isMapO (w.alloc o) b:=by
 have hlt:=h.lt
 obtain⟨es,c,hb⟩:=h
 exact⟨es,c,(Below.heap_alloc w o b hlt).trans hb⟩
theorem Chg.alloc (O F:aA) (w:World) (o:Obj):Chg O F F w (w.alloc o) where
 os:=rfl
 tape:=rfl
 output:=rfl
 size:=by simp
 same b hb _:=Below.heap_alloc w o b hb
 cells:=⟨fun _ _ h=>h.alloc o,fun _ h=>h.alloc o⟩
 sub _ h:=h
 new _ h := .inl h
theorem Chg.drew (O F:aA) (w:World):Chg O F F w w.drew :=
 ⟨rfl,rfl,rfl,Nat.le_refl _,fun _ _ _=>rfl,⟨fun _ _ h=>h,fun _ h=>h⟩,fun _ h=>h,fun _ h => .inl h⟩
end Go.Abs
namespace Go.Abs
set_option linter.unusedSimpArgs false
set_option linter.unusedVariables false
open Go Go.RowKit
inductive TK where
 | none|bool|int (k:IntKind)|str|slice|array|struct|ptr|iface|other|uptr
structure TI where
 kind:TK
 size:Nat
 bytes:Nat
 zero:Option (List Value)
 flds:List (Nat×Nat×TK)
 elem:TypeId
 len:Nat
def dF:Option TypeDesc→TK
 | some .bool => .bool
 | some (.int k) => .int k
 | some .string => .str
 | some (.slice _) => .slice
 | some (.array _ _) => .array
 | some (.struct _) => .struct
 | some (.pointer _) => .ptr
 | some (.interface _) => .iface
 | some .unsafePointer => .uptr
 | some _ => .other
 | Option.none => .none
def TK.agg:TK→Bool
 | .array | .struct=>true
 | _=>false
def bz (P:Program) (t:TypeId):Nat :=
 match P.underlying t,P.info? t with
 | some _,some i=>i.size
 | _,_=>0
def DQ:Option TypeDesc→TypeId
 | some (.slice e)=>e
 | some (.array _ e)=>e
 | some (.pointer e)=>e
 | _=>0
def Gc:Option TypeDesc→Nat
 | some (.array n _)=>n
 | _=>0
def nP (P:Program):Option TypeDesc→List (Nat×Nat×TK)
 | some (.struct fs)=>fs.toList.map fun f=>(f.offset,bz P f.type,dF (P.underlying f.type))
 | _=>[]
def ae (P:Program) (t:TypeId):TI where
 kind:=dF (P.underlying t)
 size:=bz P t
 bytes:=((P.info? t).map (·.bytes)).getD 0
 zero:=(P.info? t).bind fun i=>i.zero.map fun z=>z.cells.toList
 flds:=nP P (P.underlying t)
 elem:=DQ (P.underlying t)
 len:=Gc (P.underlying t)
structure AS where
 n:Nat
 sl:List (Nat×AV)
 hp:List (Nat×Option Blk)
 nx:Nat
def lk:List (Nat×AV)→Nat→AV
 | [],_ => .any
 | (k,v)::r,n=>match Nat.beq k n with|true=>v|false=>lk r n
def hget:List (Nat×Option Blk)→Nat→Option Blk
 | [],_=>none
 | (k,v)::r,n=>match Nat.beq k n with|true=>v|false=>hget r n
def fI:Value→AV
 | .agg cs => .agg (cs.toList.map fun v => .p (.v v))
 | .tuple _ => .any
 | .bool b => .p (.v (.bool b))
 | .int k n => .p (.v (.int k n))
 | .float k n => .p (.v (.float k n))
 | .complex k n m => .p (.v (.complex k n m))
 | .string s => .p (.v (.string s))
 | .pointer a => .p (.v (.pointer a))
 | .slice a l c => .p (.v (.slice a l c))
 | .map r => .p (.v (.map r))
 | .chan r => .p (.v (.chan r))
 | .func f a b => .p (.v (.func f a b))
 | .nilFunc => .p (.v .nilFunc)
 | .iface t v => .p (.v (.iface t v))
 | .nilIface => .p (.v .nilIface)
def eI:Value→Bool
 | .agg cs=>cs.toList.all (·.oneCell')
 | _=>true
def ev (st:AS):Operand→AV
 | .tmp t=>lk st.sl t
 | .const v=>match eI v with|true=>fI v|false => .any
 | .func f => .p (.v (.func (.func f) #[] #[]))
 | .global g=>match ku g with|some cs => .cp (cs.map .v)|none => .any
def evs (st:AS):List Operand→List AV
 | []=>[]
 | x::xs=>ev st x::evs st xs
abbrev AV.i (n:Int):AV := .p (.v (.int .i64 n))
abbrev AV.b (b:Bool):AV := .p (.v (.bool b))
def DS:PV→Bool
 | .agg _=>false
 | _=>true
def oneC:AV→Bool
 | .p x=>DS x
 | .ptr _ _=>true
 | .sl _ _ _ _=>true
 | .cp _=>true
 | .fn _ _ _=>true
 | .mp _=>true
 | .iface _ _=>true
 | .agg _=>false
 | .tup _=>false
 | .any=>false
def eJ:List AV→Bool
 | []=>true
 | c::r=>match oneC c with|true=>eJ r|false=>false
def cells:AV→List AV
 | .agg cs=>cs
 | .p x=>[.p x]
 | .ptr a b=>[.ptr a b]
 | .sl a b c d=>[.sl a b c d]
 | .cp a=>[.cp a]
 | .tup a=>[.tup a]
 | .iface a b=>[.iface a b]
 | .fn a b c=>[.fn a b c]
 | .mp a=>[.mp a]
 | .any=>[.any]
inductive R where
 | ok (v:AV) (T:List Nat) (upd:List (Nat×Option Blk)) (nx:Nat)
 | okS (side:Prop) (v:AV) (T:List Nat) (upd:List (Nat×Option Blk)) (nx:Nat)
 | call (f:FuncId) (vs:List AV)
 | bad
def R.pure (st:AS) (v:AV):R := .ok v [] [] st.nx
def R.pureS (st:AS) (s:Prop) (v:AV):R := .okS s v [] [] st.nx
def xA (st:AS):AV→AV→AV→R
 | .p (.v (.bool c)),a,b => .pure st (if c=true then a else b)
 | _,_,_ => .bad
def DT (st:AS) (t:TypeId) (v:AV):R :=
 match eJ (cells v) with
 | true => .ok (.ptr st.nx 0) [] [(st.nx,some ⟨t,cells v⟩)] (st.nx+1)
 | false => .bad
def pvs:List Value→List AV
 | []=>[]
 | v::r => .p (.v v)::pvs r
def eU:List Value→Bool
 | []=>true
 | v::r=>match v.oneCell' with|true=>eU r|false=>false
def rY (st:AS) (t:TypeId):Option (List Value)→R
 | some z=>match eU z with
  | true => .ok (.ptr st.nx 0) [] [(st.nx,some ⟨t,pvs z⟩)] (st.nx+1)
  | false => .bad
 | none => .bad
def dfl:TK→PV
 | .int k => .v (.int k 0)
 | .bool => .v (.bool false)
 | .slice => .data 1 0 []
 | _ => .v undef
def aS (d:PV):List AV→AV
 | c::_=>c
 | [] => .p d
def gU (k:TK) (size:Nat) (cs:List AV):AV :=
 match k.agg with
 | true => .agg (cs.take size)
 | false=>aS (dfl k) cs
def xB (st:AS) (ti:TI) (id off:Nat):Option Blk→R
 | some b=>match Nat.ble 1 ti.size with
  | true => .okS (off+ti.size≤b.cs.length) (gU ti.kind ti.size (b.cs.drop off)) [id] [] st.nx
  | false => .bad
 | none => .bad
def eV (d:PV):List PV→PV
 | c::_=>c
 | []=>d
def qO (st:AS) (ti:TI):AV→R
 | .ptr id off=>xB st ti id off (hget st.hp id)
 | .cp cs=>match ti.kind.agg,Nat.ble 1 ti.size with
  | true,true => .pureS st (ti.size≤cs.length) (.agg ((cs.take ti.size).map .p))
  | false,true => .pureS st (ti.size≤cs.length) (.p (eV (dfl ti.kind) cs))
  | _,_ => .bad
 | _ => .bad
def cA:List AV→Nat→List AV→List AV
 | cs,_,[]=>cs
 | cs,i,v::vs=>cA (cs.set i v) (i+1) vs
def rZ (st:AS) (ti:TI) (id off:Nat) (vs:List AV):Option Blk→R
 | some b=>match eJ vs,Nat.beq vs.length ti.size,Nat.ble 1 ti.size with
  | true,true,true => .okS (off+vs.length≤b.cs.length) .any [id] [(id,some ⟨b.t,cA b.cs off vs⟩)] st.nx
  | _,_,_ => .bad
 | none => .bad
def oi (st:AS) (ti:TI):AV→AV→R
 | .ptr id off,v=>rZ st ti id off (cells v) (hget st.hp id)
 | _,_ => .bad
def oj (st:AS) (x:AV):Option (Nat×Nat×TK)→R
 | some (o,s,_)=>match Nat.ble 1 s,x with
  | true,.ptr id off => .pure st (.ptr id (off+o))
  | true,.cp cs => .pure st (.cp (cs.drop o))
  | _,_ => .bad
 | none => .bad
def ol (st:AS):AV→Option (Nat×Nat×TK)→R
 | .agg cs,some (o,s,k)=>match Nat.ble 1 s with
  | true => .pureS st (o+s≤cs.length) (gU k s (cs.drop o))
  | false => .bad
 | _,_ => .bad
def lr (st:AS) (i:Nat):AV→R
 | .tup vs=>match vs[i]? with
  | some v => .pure st v
  | none => .bad
 | _ => .bad
def cu (k:IntKind) (a b:Int):Int:=k.wrap ((BitVec.ofInt k.bits a &&& BitVec.ofInt k.bits b).toNat:Int)
def bor (k:IntKind) (a b:Int):Int:=k.wrap ((BitVec.ofInt k.bits a ||| BitVec.ofInt k.bits b).toNat:Int)
def ko (k:IntKind) (a b:Int):Int:=k.wrap ((BitVec.ofInt k.bits a ^^^ BitVec.ofInt k.bits b).toNat:Int)
def FW (k:IntKind) (a b:Int):Int:=k.wrap ((BitVec.ofInt k.bits a &&& ~~~ BitVec.ofInt k.bits b).toNat:Int)
def gV (k:IntKind) (a b:Int):Int:=k.wrap (a*2^(min b.toNat k.bits))
def bc (k:IntKind) (a b:Int):Int:=a.fdiv (2^(min b.toNat k.bits))
def eqK:IntKind→IntKind→Bool
 | .i8,.i8 | .i16,.i16 | .i32,.i32 | .i64,.i64 | .u8,.u8 | .u16,.u16 | .u32,.u32 | .u64,.u64=>true
 | _,_=>false
def iA (st:AS) (op:BinOp) (k:IntKind) (a b:Int) (same:Bool):R :=
 match op,same with
 | .shl,_ => .pureS st (0≤b) (.p (.v (.int k (gV k a b))))
 | .shr,_ => .pureS st (0≤b) (.p (.v (.int k (bc k a b))))
 | .add,true => .pure st (.p (.v (.int k (k.wrap (a+b)))))
 | .sub,true => .pure st (.p (.v (.int k (k.wrap (a-b)))))
 | .mul,true => .pure st (.p (.v (.int k (k.wrap (a*b)))))
 | .quo,true => .pureS st (b≠0) (.p (.v (.int k (k.wrap (a.tdiv b)))))
 | .rem,true => .pureS st (b≠0) (.p (.v (.int k (a.tmod b))))
 | .and,true => .pure st (.p (.v (.int k (cu k a b))))
 | .or,true => .pure st (.p (.v (.int k (bor k a b))))
 | .xor,true => .pure st (.p (.v (.int k (ko k a b))))
 | .andNot,true => .pure st (.p (.v (.int k (FW k a b))))
 | .eql,true => .pure st (.b (a==b))
 | .neq,true => .pure st (.b (a != b))
 | .lss,true => .pure st (.b (decide (a<b)))
 | .leq,true => .pure st (.b (decide (a≤b)))
 | .gtr,true => .pure st (.b (decide (a>b)))
 | .geq,true => .pure st (.b (decide (a≥b)))
 | _,_ => .bad
def DU (st:AS) (op:BinOp) (a b:ByteArray):R :=
 match op with
 | .eql => .pure st (.b (a.toList==b.toList))
 | .neq => .pure st (.b (!(a.toList==b.toList)))
 | .add => .pureS st (a.size+b.size≤9223372036854775807) (.p (.v (.string (a++b))))
 | .lss => .pure st (.b (Op.bytesLess a.toList b.toList))
 | .leq => .pure st (.b (Op.bytesLess a.toList b.toList||a.toList==b.toList))
 | .gtr => .pure st (.b (!(Op.bytesLess a.toList b.toList||a.toList==b.toList)))
 | .geq => .pure st (.b (!(Op.bytesLess a.toList b.toList)))
 | _ => .bad
def xC (st:AS) (op:BinOp) (a b:Bool):TK→R
 | .bool=>match op with
  | .eql => .pure st (.b (a==b))
  | .neq => .pure st (.b (!(a==b)))
  | _ => .bad
 | _ => .bad
def dL (st:AS) (op:BinOp) (side:Prop) (r:Bool):R :=
 match op with
 | .eql => .pureS st side (.b r)
 | .neq => .pureS st side (.b (!r))
 | _ => .bad
def iB:TK→AV→AV→Option Bool
 | .int _,.p (.v (.int i a)),.p (.v (.int j b))=>match eqK i j with|true=>some (a==b)|false=>none
 | .bool,.p (.v (.bool a)),.p (.v (.bool b))=>some (a==b)
 | .str,.p (.v (.string a)),.p (.v (.string b))=>some (a.toList==b.toList)
 | _,_,_=>none
def AN:Option Bool→Option Bool→Option Bool
 | some a,some b=>some (a&&b)
 | _,_=>none
def iC:List (Nat×Nat×TK)→List AV→List AV→Option Bool
 | [],_,_=>some true
 | (o,_,k)::r,xs,ys=>AN (iB k (aS (.v undef) (xs.drop o)) (aS (.v undef) (ys.drop o))) (iC r xs ys)
def wc (st:AS) (op:BinOp):Option Bool→Bool→R
 | some b,true=>match op with
  | .eql => .pure st (.b b)
  | .neq => .pure st (.b (!b))
  | _ => .bad
 | _,_ => .bad
def eqT (P:Program) (t:TypeId):Bool :=
 match P.underlying t with
 | some (.struct fs)=>fs.toList.all (fun f=>f.name != "_") && !P.stoodInHeld t && !P.eqGuardType P.depth t
 | some (.pointer e)=>(P.info? e).isSome
 | _=>false
def AO (st:AS) (op:BinOp) (k:TK) (q:Bool) (fl:List (Nat×Nat×TK)):AV→AV→R
 | .p (.v (.int i a)),.p (.v (.int j b))=>iA st op i a b (eqK i j)
 | .p (.v (.string a)),.p (.v (.string b))=>DU st op a b
 | .p (.v (.bool a)),.p (.v (.bool b))=>xC st op a b k
 | .p (.data _ n _),.p (.v (.slice none 0 0))=>match k with | .slice=>dL st op (n≠0) false|_ => .bad
 | .sl _ _ n _,.p (.v (.slice none 0 0))=>match k with | .slice=>dL st op (n≠0) false|_ => .bad
 | .p (.v (.slice none _ _)),.p (.v (.slice none 0 0))=>match k with | .slice=>dL st op True true|_ => .bad
 | .p (.v (.slice (some _) _ _)),.p (.v (.slice none 0 0))=>match k with | .slice=>dL st op True false|_ => .bad
 | .agg xs,.agg ys=>match k with | .struct=>wc st op (iC fl xs ys) q|_ => .bad
 | .p (.v (.pointer none)),.p (.v (.pointer none))=>match k with | .ptr=>dL st op True true|_ => .bad
 | .ptr _ _,.p (.v (.pointer none))=>match k with | .ptr=>dL st op True false|_ => .bad
 | .ptr i a,.ptr j b=>match k,q,Nat.beq i j,Nat.beq a b with | .ptr,true,true,true=>dL st op True true|_,_,_,_ => .bad
 | _,_ => .bad
def unR (st:AS):UnOp→AV→R
 | .not,.p (.v (.bool b)) => .pure st (.b (!b))
 | .neg,.p (.v (.int k n)) => .pure st (.p (.v (.int k (k.wrap (0-n)))))
 | .xor,.p (.v (.int k n)) => .pure st (.p (.v (.int k (ko k (if k.signed then -1 else k.max) n))))
 | _,_ => .bad
def bt (x:UInt8):PV := .v (.int .u8 (x.toNat:Int))
def isB:PV→Prop
 | .v (.int .u8 n)=>∃x:UInt8,n=(x.toNat:Int)
 | _=>False
def unB:PV→UInt8
 | .v (.int .u8 n)=>UInt8.ofNat n.toNat
 | _=>0
def om (cs:List PV):Prop:=∀c∈cs,isB c
def cZ (cs:List PV):List UInt8:=cs.map unB
def unP:AV→PV
 | .p x=>x
 | _ => .v undef
def isP:AV→Prop
 | .p _=>True
 | _=>False
def dJ (cs:List AV):List PV:=cs.map unP
def jc (cs:List AV):Prop:=∀c∈cs,isP c
def strOf (l:List UInt8):Value := .string ⟨l.toArray⟩
def oo (st:AS) (ti:TI) (es:Nat):AV→AV→R
 | .p (.data s n cs),.p (.v (.int _ i))=>match ti.kind,Nat.beq s es,Nat.ble 1 es with
  | .slice,true,true => .pureS st (0≤i∧i<n) (.cp (cs.drop (i.toNat*s)))
  | _,_,_ => .bad
 | .sl id off n s,.p (.v (.int _ i))=>match ti.kind,Nat.beq s es,Nat.ble 1 es with
  | .slice,true,true => .pureS st (0≤i∧i<n) (.ptr id (off+i.toNat*s))
  | _,_,_ => .bad
 | .ptr id off,.p (.v (.int _ i))=>match ti.kind,Nat.ble 1 es with
  | .array,true => .pureS st (0≤i∧i<ti.len) (.ptr id (off+i.toNat*es))
  | _,_ => .bad
 | .cp cs,.p (.v (.int _ i))=>match ti.kind,Nat.ble 1 es with
  | .array,true => .pureS st (0≤i∧i<ti.len) (.cp (cs.drop (i.toNat*es)))
  | _,_ => .bad
 | _,_ => .bad
def tR (st:AS) (ti:TI) (es:Nat) (ek:TK):AV→AV→R
 | .p (.v (.string s)),.p (.v (.int _ i))=>match ti.kind with
  | .str => .pureS st (0≤i∧i<s.size) (.p (.v (.int .u8 ((s.data.toList.getD i.toNat 0).toNat:Int))))
  | _ => .bad
 | .agg cs,.p (.v (.int _ i))=>match ti.kind,Nat.ble 1 es with
  | .array,true => .pureS st (0≤i∧i<ti.len∧i.toNat*es+es≤cs.length) (gU ek es (cs.drop (i.toNat*es)))
  | _,_ => .bad
 | _,_ => .bad
def DV (st:AS) (ti:TI):AV→R
 | .p (.data _ n _)=>match ti.kind with | .slice => .pure st (.i n)|_ => .bad
 | .p (.v (.slice _ n _))=>match ti.kind with | .slice => .pure st (.i n)|_ => .bad
 | .sl _ _ n _=>match ti.kind with | .slice => .pure st (.i n)|_ => .bad
 | .p (.v (.string s))=>match ti.kind with | .str => .pure st (.i s.size)|_ => .bad
 | _ => .bad
def xD (st:AS):AV→AV→R
 | .p (.v (.int k a)),.p (.v (.int _ b)) => .pure st (.p (.v (.int k (if b>a then b else a))))
 | _,_ => .bad
def xE (st:AS):AV→AV→R
 | .p (.v (.int k a)),.p (.v (.int _ b)) => .pure st (.p (.v (.int k (if b<a then b else a))))
 | _,_ => .bad
end Go.Abs
namespace Go.Abs
set_option linter.unusedSimpArgs false
set_option linter.unusedVariables false
open Go Go.RowKit
def keys (u:List (Nat×Option Blk)):List Nat:=u.map (·.1)
def updH (u:List (Nat×Option Blk)) (h:ba):ba:=fun i=>if i∈keys u then hget u i else h i
def restr (T:List Nat) (h:ba):ba:=fun i=>if i∈T then h i else none
def OSet (ρ:am) (ids:List Nat):aA:=fun b=>∃i,i∈ids∧ρ i=some b
theorem dm {k i:Nat} (h:¬k=i):Nat.beq k i=false:=by
 cases hb:Nat.beq k i with
 | false=>rfl
 | true=>exact absurd (Nat.eq_of_beq_eq_true hb) h
theorem co (u hp:List (Nat×Option Blk)):hget (u++hp)=updH u (hget hp):=by
 funext i
 induction u with
 | nil=>simp [updH,keys]
 | cons x r ih =>
  obtain⟨k,v⟩:=x
  by_cases hk:k=i
  ·subst hk;simp [hget,updH,keys]
  ·have hb:Nat.beq k i=false:=dm hk
   have hk':¬i=k:=fun h=>hk h.symm
   simp only [List.cons_append,hget,hb,ih]
   simp only [updH,keys,List.map_cons,List.mem_cons,hk',false_or,hget,hb]
   rfl
structure Post (ρ:am) (F:aA) (w:World) (T:List Nat) (u:List (Nat×Option Blk)) (h:ba) (v:AV) (x:Value) (ρ':am) (F':aA) (w':World):Prop where
 rho:∀i b,ρ i=some b→ρ' i=some b
 new:∀i,ρ i=none→ρ' i≠none→i∈keys u
 blk:∀i b,ρ i=none→ρ' i=some b→w.heap.size≤b∨OSet ρ (keys u) b
 rd:Rd ρ' F' w' v x
 hp:HpOk ρ' F' w' (restr (T++keys u) (updH u h))
 fok:FOk F' w'
 chg:Chg (OSet ρ (keys u)) F F' w w'
structure PreH (ρ:am) (F:aA) (w:World) (T:List Nat) (u:List (Nat×Option Blk)) (h:ba):Prop where
 fok:FOk F w
 hp:HpOk ρ F w (restr T h)
 fresh:∀i,i∈keys u→i∉T→ρ i=none
structure Pre (ρ:am) (F:aA) (w:World) (T:List Nat) (u:List (Nat×Option Blk)) (h:ba):Prop where
 fok:FOk F w
 hp:HpOk ρ F w (restr T h)
 fresh:∀i,i∈keys u→i∉T→ρ i=none
 glob:GlobOk F w
def OpT (P:Program) (o:Oper) (st:AS) (v:AV) (T:List Nat) (u:List (Nat×Option Blk)):Prop :=
 ∀(ρ:am) (F:aA) (a:Act) (w:World),Pre ρ F w T u (hget st.hp)→(∀x,x∈o.op.operands.toList→Rd ρ F w (ev st x) (a.eval x)) →
  ∀(K:Act→World→Prop) (Q:Exit→Act→World→Prop),
   (∀x ρ' F' w',Post ρ F w T u (hget st.hp) v x ρ' F' w'→K (a.put o.dst x) w')→o.wp P a w K Q
structure OpOk (P:Program) (o:Oper) (st:AS) (v:AV) (T:List Nat) (u:List (Nat×Option Blk)) (nx:Nat):Prop where
 tri:OpT P o st v T u
 le:st.nx≤nx
 keysOk:∀i,i∈keys u→i∈T∨(st.nx≤i∧i<nx)
 live:∀i,i∈T→hget st.hp i≠none
structure Ctx where
 P:Program
 fn:Func
 R:Ending→World→Prop
 w0:World
 F0:aA
 O:aA
 ρ0:am
structure Conc (c:Ctx) (ρ:am) (F:aA) (st:AS) (a:Act) (w:World):Prop where
 defers:a.defers=[]
 size:a.tmps.size=st.n
 slots:∀s,Rd ρ F w (lk st.sl s) (a.tmps.getD s undef)
 heap:HpOk ρ F w (hget st.hp)
 fresh:∀i,st.nx≤i→ρ i=none
 fok:FOk F w
 chg:Chg c.O c.F0 F c.w0 w
 dom:∀i,hget st.hp i≠none→i<st.nx
 own:∀i b,hget st.hp i≠none→ρ i=some b→c.w0.heap.size≤b∨c.O b
 keep:∀i b,c.ρ0 i=some b→ρ i=some b
 glob:GlobOk F w
def put (st:AS) (d:Option Nat) (v:AV):AS :=
 match d with
 | some d=>match Nat.blt d st.n with
  | true=>⟨st.n,(d,v)::st.sl,st.hp,st.nx⟩
  | false=>st
 | none=>st
def eff (st:AS) (d:Option Nat) (v:AV) (u:List (Nat×Option Blk)) (nx:Nat):AS :=
 put ⟨st.n,st.sl,u++st.hp,nx⟩ d v
theorem aJ {T:List Nat} {h:ba} {i:Nat} {k:Blk} (hh:restr T h i=some k):i∈T∧h i=some k:=by
 unfold restr at hh
 split at hh
 ·exact⟨‹_›,hh⟩
 ·cases hh
theorem HpOk.restr {ρ:am} {F:aA} {w:World} {h:ba} (hh:HpOk ρ F w h) (T:List Nat):HpOk ρ F w (restr T h) where
 ok i k hi:=hh.ok i k (aJ hi).2
 inj i j b hi hj h1 h2:=hh.inj i j b
  (by intro e;apply hi;unfold Abs.restr;split<;>simp [e]) (by intro e;apply hj;unfold Abs.restr;split<;>simp [e]) h1 h2
theorem PreH.notF {ρ:am} {F:aA} {w:World} {T:List Nat} {u:List (Nat×Option Blk)} {h:ba} (hp:PreH ρ F w T u h) (live:∀i,i∈T→h i≠none)
 {b:Nat} (hO:OSet ρ (keys u) b):¬F b:=by
 obtain⟨i,hi,hb⟩:=hO
 have hT:i∈T:=by
  by_cases hT:i∈T
  ·exact hT
  ·have:=hp.fresh i hi hT;rw [this] at hb;cases hb
 obtain⟨k,hk⟩:=Option.ne_none_iff_exists'.1 (live i hT)
 rcases hp.hp.ok i k (by simp [restr,hT,hk]) with ⟨_,h0⟩|⟨b',hb',ho⟩
 ·rw [h0] at hb;cases hb
 ·rw [hb] at hb';cases hb';exact ho.own
theorem Post.keepH {ρ:am} {F:aA} {w:World} {T:List Nat} {u:List (Nat×Option Blk)} {h:ba} {v:AV} {x:Value} {ρ':am} {F':aA} {w':World}
 (hpre:PreH ρ F w T u h) (live:∀i,i∈T→h i≠none) (hp:Post ρ F w T u h v x ρ' F' w') {y:AV} {z:Value} (hr:Rd ρ F w y z):Rd ρ' F' w' y z :=
 hr.mono hp.rho hp.chg.sub (fun b hb=>hp.chg.same b (hpre.fok b hb) (fun hO=>hpre.notF live hO hb)) hp.chg.cells
theorem Pre.toH {ρ:am} {F:aA} {w:World} {T:List Nat} {u:List (Nat×Option Blk)} {h:ba} (hp:Pre ρ F w T u h):PreH ρ F w T u h:=⟨hp.fok,hp.hp,hp.fresh⟩
theorem Pre.notF {ρ:am} {F:aA} {w:World} {T:List Nat} {u:List (Nat×Option Blk)} {h:ba} (hp:Pre ρ F w T u h) (live:∀i,i∈T→h i≠none)
 {b:Nat} (hO:OSet ρ (keys u) b):¬F b:=hp.toH.notF live hO
theorem Post.keep {ρ:am} {F:aA} {w:World} {T:List Nat} {u:List (Nat×Option Blk)} {h:ba} {v:AV} {x:Value} {ρ':am} {F':aA} {w':World}
 (hpre:Pre ρ F w T u h) (live:∀i,i∈T→h i≠none) (hp:Post ρ F w T u h v x ρ' F' w') {y:AV} {z:Value} (hr:Rd ρ F w y z):Rd ρ' F' w' y z:=Post.keepH hpre.toH live hp hr
theorem Post.glob {ρ:am} {F:aA} {w:World} {T:List Nat} {u:List (Nat×Option Blk)} {h:ba} {v:AV} {x:Value} {ρ':am} {F':aA} {w':World}
 (hpre:Pre ρ F w T u h) (live:∀i,i∈T→h i≠none) (hp:Post ρ F w T u h v x ρ' F' w'):GlobOk F' w' :=
 hpre.glob.mono hp.chg.sub (fun b hb=>hp.chg.same b (hpre.fok b hb) (fun hO=>hpre.notF live hO hb))
theorem Post.frame {ρ:am} {F:aA} {w:World} {T:List Nat} {u:List (Nat×Option Blk)} {h:ba} {v:AV} {x:Value} {ρ':am} {F':aA} {w':World}
 (hH:HpOk ρ F w h) (hlt:FOk F w) (hfr:∀i,i∈keys u→i∉T→ρ i=none) (live:∀i,i∈T→h i≠none) (hp:Post ρ F w T u h v x ρ' F' w') :
 HpOk ρ' F' w' (updH u h):=by
 have hpre:PreH ρ F w T u h:=⟨hlt,hH.restr T,hfr⟩
 have hin:∀i,i∈T++keys u→restr (T++keys u) (updH u h) i=updH u h i:=fun i hi=>by simp only [restr,if_pos hi]
 have hout:∀i,i∉T++keys u→updH u h i=h i:=fun i hi=>by
  have:i∉keys u:=fun hk=>hi (List.mem_append_right _ hk)
  simp only [updH,if_neg this]
 have hfar:∀i b,i∉T++keys u→h i≠none→ρ i=some b→¬OSet ρ (keys u) b∧b<w.heap.size:=by
  intro i b hi hn hb
  refine⟨?_,?_⟩
  ·rintro⟨j,hj,hjb⟩
   have hjT:j∈T:=by
    by_cases hT:j∈T
    ·exact hT
    ·rw [hfr j hj hT] at hjb;cases hjb
   have:=hH.inj i j b hn (live j hjT) hb hjb
   subst this
   exact hi (List.mem_append_left _ hjT)
  ·obtain⟨k,hk⟩:=Option.ne_none_iff_exists'.1 hn
   rcases hH.ok i k hk with ⟨_,h0⟩|⟨b',hb',ho⟩
   ·rw [h0] at hb;cases hb
   ·rw [hb] at hb';cases hb'
    exact ho.lt
 have hrho:∀i,i∉T++keys u→ρ' i=ρ i:=by
  intro i hi
  cases hr:ρ i with
  | some b=>exact hp.rho i b hr
  | none =>
   cases hr':ρ' i with
   | none=>rfl
   | some b=>exact absurd (List.mem_append_right T (hp.new i hr (by rw [hr'];simp))) hi
 refine⟨fun i k hk=>?_,fun i j b hi hj hib hjb=>?_⟩
 ·by_cases hi:i∈T++keys u
  ·exact hp.hp.ok i k (by rw [hin i hi];exact hk)
  ·rw [hout i hi] at hk
   rcases hH.ok i k hk with ⟨h1,h0⟩|⟨b,hb,ho⟩
   ·exact .inl ⟨h1,by rw [hrho i hi,h0]⟩
   ·refine .inr ⟨b,hp.rho _ _ hb,?_⟩
    obtain⟨hO,hbs⟩:=hfar i b hi (by rw [hk];simp) hb
    refine ho.keep (fun hF'=>?_) (hp.chg.same b hbs hO) hp.chg.sub (fun b hb=>hp.chg.same b (hpre.fok b hb) (fun hO=>hpre.notF live hO hb)) (fun c u _ hr=>Post.keepH hpre live hp hr)
    rcases hp.chg.new b hF' with h1|h1|h1
    ·exact ho.own h1
    ·omega
    ·exact hO h1
 ·by_cases hiT:i∈T++keys u<;>by_cases hjT:j∈T++keys u
  ·exact hp.hp.inj i j b (by rw [hin i hiT];exact hi) (by rw [hin j hjT];exact hj) hib hjb
  ·
   rw [hout j hjT] at hj
   rw [hrho j hjT] at hjb
   obtain⟨hO,hbs⟩:=hfar j b hjT hj hjb
   cases hr:ρ i with
   | some b' =>
    have:=hp.rho i b' hr
    rw [hib] at this;cases this
    by_cases hik:i∈keys u
    ·exact absurd ⟨i,hik,hr⟩ hO
    ·have hiT':i∈T:=by rcases List.mem_append.1 hiT with h1|h1;exact h1;exact absurd h1 hik
     exact hH.inj i j b (live i hiT') hj hr hjb
   | none =>
    rcases hp.blk i b hr hib with h1|h1
    ·omega
    ·exact absurd h1 hO
  ·rw [hout i hiT] at hi
   rw [hrho i hiT] at hib
   obtain⟨hO,hbs⟩:=hfar i b hiT hi hib
   cases hr:ρ j with
   | some b' =>
    have:=hp.rho j b' hr
    rw [hjb] at this;cases this
    by_cases hjk:j∈keys u
    ·exact absurd ⟨j,hjk,hr⟩ hO
    ·have hjT':j∈T:=by rcases List.mem_append.1 hjT with h1|h1;exact h1;exact absurd h1 hjk
     exact hH.inj i j b hi (live j hjT') hib hr
   | none =>
    rcases hp.blk j b hr hjb with h1|h1
    ·omega
    ·exact absurd h1 hO
  ·rw [hout i hiT] at hi
   rw [hout j hjT] at hj
   rw [hrho i hiT] at hib
   rw [hrho j hjT] at hjb
   exact hH.inj i j b hi hj hib hjb
theorem Conc.ev {c:Ctx} {ρ:am} {F:aA} {st:AS} {a:Act} {w:World} (h:Conc c ρ F st a w) (x:Operand) :
 Rd ρ F w (ev st x) (a.eval x):=by
 cases x with
 | tmp t =>
  simp only [Abs.ev,Act.eval]
  exact h.slots t
 | const v =>
  simp only [Abs.ev,Act.eval]
  cases v with
  | agg cs =>
   cases hc:eI (.agg cs) with
   | false=>exact .any _
   | true =>
    simp only [fI]
    refine .agg _ _ (by simp) (fun j x hj=>?_)
    simp only [List.getElem?_map,Option.map_eq_some_iff] at hj
    obtain⟨y,hy,rfl⟩:=hj
    have hy':cs[j]?=some y:=by simpa using hy
    have:cs.getD j undef=y:=by simp [Array.getD_eq_getD_getElem?,hy']
    rw [this]
    refine .p _ _ (.v _ ?_)
    simp only [eI,List.all_eq_true] at hc
    exact hc y (List.mem_of_getElem? hy)
  | tuple vs=>simp only [eI,fI];exact .any _
  | _=>simp only [eI,fI];exact .p _ _ (.v _ rfl)
 | global g =>
  show Rd ρ F w (match ku g with|some cs => .cp (cs.map .v)|none => .any) (.pointer (some ⟨g,0,none⟩))
  cases hg:ku g with
  | none=>exact .any _
  | some cs=>exact h.glob.rd hg
 | func f=>exact .p _ _ (.v _ rfl)
theorem fJ (k:Nat) (v:AV) (r:List (Nat×AV)) (n:Nat):lk ((k,v)::r) n=if k=n then v else lk r n:=by
 show (match Nat.beq k n with|true=>v|false=>lk r n)=_
 by_cases h:k=n
 ·subst h;simp
 ·rw [dm h,if_neg h]
theorem nQ {P:Program} {o:Oper} {st:AS} {v:AV} {T:List Nat} {u:List (Nat×Option Blk)} {nx:Nat} (ho:OpOk P o st v T u nx)
 {c:Ctx} {ρ:am} {F:aA} {a:Act} {w:World} (h:Conc c ρ F st a w) (K:Act→World→Prop) (Q:Exit→Act→World→Prop)
 (hK:∀ ρ' F' a' w',Conc c ρ' F' (eff st o.dst v u nx) a' w'→K a' w'):o.wp P a w K Q:=by
 have hfr:∀i,i∈keys u→i∉T→ρ i=none:=fun i hi hT=>h.fresh i (by rcases ho.keysOk i hi with h1|h1;exact absurd h1 hT;exact h1.1)
 have hpre:Pre ρ F w T u (hget st.hp):=⟨h.fok,h.heap.restr T,hfr,h.glob⟩
 refine ho.tri ρ F a w hpre (fun x _=>h.ev x) K Q (fun x ρ' F' w' hp=>hK ρ' F' _ w' ?_)
 have hheap:=Post.frame h.heap h.fok hfr ho.live hp
 have hO:∀b,OSet ρ (keys u) b→c.O b∨c.w0.heap.size≤b:=by
  rintro b ⟨i,hi,hb⟩
  have hT:i∈T:=by
   by_cases hT:i∈T
   ·exact hT
   ·rw [hfr i hi hT] at hb;cases hb
  rcases h.own i b (ho.live i hT) hb with h1|h1
  ·exact .inr h1
  ·exact .inl h1
 have hsl:∀(d:Option Nat) (s:Nat),Rd ρ' F' w' (lk (eff st d v u nx).sl s) ((a.put d x).tmps.getD s undef):=by
  intro d s
  have hold:=Post.keep hpre ho.live hp (h.slots s)
  cases d with
  | none=>exact hold
  | some d =>
   simp only [eff,put,Act.put]
   cases hdn:Nat.blt d st.n with
   | false =>
    have hge:a.tmps.size≤d:=by
     rw [h.size]
     rcases Nat.lt_or_ge d st.n with h1|h1
     ·have:Nat.blt d st.n=true:=by simpa [Nat.blt_eq] using h1
      rw [hdn] at this;cases this
     ·exact h1
    simp only [Array.setIfInBounds_eq_of_size_le hge]
    exact hold
   | true =>
    have hlt:d<st.n:=by simpa [Nat.blt_eq] using hdn
    simp only [fJ]
    by_cases hd:d=s
    ·subst hd
     have:d<a.tmps.size:=by rw [h.size];exact hlt
     simp [Array.getD_eq_getD_getElem?,this]
     exact hp.rd
    ·simp only [if_neg hd]
     simpa [Array.getD_eq_getD_getElem?,Array.getElem?_setIfInBounds_ne hd] using hold
 have e1:(eff st o.dst v u nx).n=st.n:=by unfold eff put;cases o.dst with|none=>rfl|some d=>dsimp only;cases Nat.blt d st.n<;>rfl
 have e2:(eff st o.dst v u nx).hp=u++st.hp:=by unfold eff put;cases o.dst with|none=>rfl|some d=>dsimp only;cases Nat.blt d st.n<;>rfl
 have e3:(eff st o.dst v u nx).nx=nx:=by unfold eff put;cases o.dst with|none=>rfl|some d=>dsimp only;cases Nat.blt d st.n<;>rfl
 refine⟨?_,?_,?_,?_,?_,hp.fok,h.chg.trans hp.chg hO,?_,?_,fun i b hb=>hp.rho i b (h.keep i b hb),Post.glob hpre ho.live hp⟩
 ·cases hd:o.dst<;>simp [Act.put,h.defers]
 ·rw [e1,←h.size];cases hd:o.dst<;>simp [Act.put]
 ·intro s;exact hsl o.dst s
 ·rw [e2,co];exact hheap
 ·intro i hi
  rw [e3] at hi
  have h0:=h.fresh i (Nat.le_trans ho.le hi)
  cases hr:ρ' i with
  | none=>rfl
  | some b =>
   have hk:=hp.new i h0 (by rw [hr];simp)
   rcases ho.keysOk i hk with h1|h1
   ·have:=h.dom i (ho.live i h1)
    have:=ho.le
    omega
   ·omega
 ·intro i hi
  rw [e2,co] at hi
  rw [e3]
  by_cases hk:i∈keys u
  ·rcases ho.keysOk i hk with h1|h1
   ·exact Nat.lt_of_lt_of_le (h.dom i (ho.live i h1)) ho.le
   ·exact h1.2
  ·simp only [updH,if_neg hk] at hi
   exact Nat.lt_of_lt_of_le (h.dom i hi) ho.le
 ·intro i b hi hb
  rw [e2,co] at hi
  cases hr:ρ i with
  | some b' =>
   have:=hp.rho i b' hr
   rw [hb] at this;cases this
   by_cases hn:hget st.hp i=none
   ·
    have hk:i∈keys u:=by
     by_cases hk:i∈keys u
     ·exact hk
     ·exact absurd (by simp only [updH,if_neg hk];exact hn) hi
    rcases ho.keysOk i hk with h1|h1
    ·exact absurd hn (ho.live i h1)
    ·rw [h.fresh i h1.1] at hr;cases hr
   ·exact h.own i b hn hr
  | none =>
   rcases hp.blk i b hr hb with h1|h1
   ·exact .inl (Nat.le_trans h.chg.size h1)
   ·rcases hO b h1 with h2|h2
    ·exact .inr h2
    ·exact .inl h2
end Go.Abs
namespace Go.Abs
set_option linter.unusedSimpArgs false
set_option linter.unusedVariables false
open Go Go.RowKit
section inv
variable {ρ : am} {F : aA} {w : World}
theorem Rd.pv {x:Value} {u:Value} (h:Rd ρ F w (.p (.v x)) u):u=x:=by
 cases h with
 | p _ _ h=>cases h with|v _ _=>rfl
theorem Rd.ptrInv {i o:Nat} {u:Value} (h:Rd ρ F w (.ptr i o) u):∃b,ρ i=some b∧u = .pointer (some ⟨b,o,none⟩):=by
 cases h with
 | ptr _ _ b h=>exact⟨b,h,rfl⟩
theorem Rd.aggInv {cs:List AV} {u:Value} (h:Rd ρ F w (.agg cs) u):∃us:Array Value,u = .agg us∧us.size=cs.length∧∀j c,cs[j]?=some c→Rd ρ F w c (us.getD j undef):=by
 cases h with
 | agg _ us hl hr=>exact⟨us,rfl,hl,hr⟩
theorem Rd.tupInv {cs:List AV} {u:Value} (h:Rd ρ F w (.tup cs) u):∃us:Array Value,u = .tuple us∧us.size=cs.length∧∀j c,cs[j]?=some c→Rd ρ F w c (us.getD j undef):=by
 cases h with
 | tup _ us hl hr=>exact⟨us,rfl,hl,hr⟩
theorem Rd.ofV {x:Value} (h:x.oneCell'=true):Rd ρ F w (.p (.v x)) x := .p _ _ (.v _ h)
theorem Rd.ofI (k:IntKind) (n:Int):Rd ρ F w (.p (.v (.int k n))) (.int k n) := .p _ _ (.v _ rfl)
theorem RdP.one {x:PV} {u:Value} (h:RdP F w x u) (h1:DS x=true):u.oneCell'=true:=by
 cases h with
 | v _ h=>exact h
 | nil=>rfl
 | data=>rfl
 | iface=>rfl
 | agg=>cases h1
theorem Rd.one {x:AV} {u:Value} (h:Rd ρ F w x u) (h1:oneC x=true):u.oneCell'=true:=by
 cases h with
 | p _ _ h=>exact h.one h1
 | ptr=>rfl
 | sl=>rfl
 | slz=>rfl
 | cp=>rfl
 | agg=>cases h1
 | tup=>cases h1
 | iface=>rfl
 | fn=>rfl
 | mp=>rfl
 | any=>cases h1
theorem Rd.cells {x:AV} {u:Value} (h:Rd ρ F w x u) (h1:eJ (cells x)=true):u.cells.size=(cells x).length∧∀j c,(cells x)[j]?=some c→Rd ρ F w c (u.cells.getD j undef):=by
 have single:∀(y:AV),Abs.cells x=[y]→y=x→oneC x=true→u.cells.size=(Abs.cells x).length∧∀j c,(Abs.cells x)[j]?=some c→Rd ρ F w c (u.cells.getD j undef):=by
  intro y hy e ho
  subst e
  have hu:u.cells=#[u]:=by
   have:=h.one ho
   cases u<;>first|rfl|(simp [Value.oneCell'] at this)
  rw [hy,hu]
  refine⟨rfl,fun j c hj=>?_⟩
  cases j with
  | zero=>simp at hj;subst hj;simpa using h
  | succ j=>simp at hj
 have one_of:∀y,eJ [y]=true→oneC y=true:=by
  intro y hy
  unfold eJ at hy
  cases hc:oneC y with
  | true=>rfl
  | false=>rw [hc] at hy;cases hy
 cases x with
 | agg cs =>
  obtain⟨us,rfl,hl,hr⟩:=h.aggInv
  exact⟨hl,hr⟩
 | p x=>exact single _ rfl rfl (one_of _ h1)
 | ptr=>exact single _ rfl rfl rfl
 | sl=>exact single _ rfl rfl rfl
 | cp=>exact single _ rfl rfl rfl
 | tup=>cases h1
 | iface=>exact single _ rfl rfl rfl
 | fn=>exact single _ rfl rfl rfl
 | mp=>exact single _ rfl rfl rfl
 | any=>cases h1
theorem ml {cs:List AV} (h:eJ cs=true) {j:Nat} {c:AV} (hj:cs[j]?=some c):oneC c=true:=by
 induction cs generalizing j with
 | nil=>simp at hj
 | cons x r ih =>
  unfold eJ at h
  cases hc:oneC x with
  | false=>rw [hc] at h;cases h
  | true =>
   rw [hc] at h
   cases j with
   | zero=>simp at hj;subst hj;exact hc
   | succ j=>exact ih h (by simpa using hj)
end inv
variable {P : Program}
theorem Post.pure {ρ:am} {F:aA} {w:World} {h:ba} {v:AV} {x:Value} (hf:FOk F w) (hr:Rd ρ F w v x):Post ρ F w [] [] h v x ρ F w where
 rho _ _ h:=h
 new i h1 h2:=absurd h1 h2
 blk i b h1 h2:=by rw [h1] at h2;cases h2
 rd:=hr
 hp:=⟨fun i k h=>by simp [restr,keys] at h,fun i j b h=>by simp [restr,keys] at h⟩
 fok:=hf
 chg:=Chg.refl _ _ _
theorem aT {o:Oper} {st:AS} {v:AV}
 (h:∀(ρ:am) (F:aA) (a:Act) (w:World),(∀x,x∈o.op.operands.toList→Rd ρ F w (ev st x) (a.eval x)) →
  ∃x,(execOp a.eval o).run P w = .ok (.value x) w∧Rd ρ F w v x):OpOk P o st v [] [] st.nx where
 tri ρ F a w hpre hin K Q hK:=by
  obtain⟨x,hx,hr⟩:=h ρ F a w hin
  unfold Oper.wp
  rw [hx]
  exact hK x ρ F w (Post.pure hpre.fok hr)
 le:=Nat.le_refl _
 keysOk i hi:=by simp [keys] at hi
 live i hi:=by simp at hi
theorem xF {o:Oper} {st:AS} {x:Operand} (ho:o.op = .move x∨o.op = .assign x):OpOk P o st (ev st x) [] [] st.nx :=
 aT fun ρ F a w hin=>⟨a.eval x,by rcases ho with ho|ho<;>simp [execOp,ho],hin x (by rcases ho with ho|ho<;>simp [ho,Op.operands])⟩
theorem DW {o:Oper} {st:AS} {c x y:Operand} (ho:o.op = .pick c x y) {b:Bool} (hc:ev st c = .p (.v (.bool b))) :
 OpOk P o st (if b=true then ev st x else ev st y) [] [] st.nx :=
 aT fun ρ F a w hin=>by
  have h1:=hin c (by simp [ho,Op.operands])
  have h2:=hin x (by simp [ho,Op.operands])
  have h3:=hin y (by simp [ho,Op.operands])
  rw [hc] at h1
  refine⟨if b=true then a.eval x else a.eval y,?_,by cases b<;>assumption⟩
  simp only [execOp,ho,h1.pv,asBool]
  cases b<;>rfl
theorem we {o:Oper} {st:AS} {op:BinOp} {t t':TypeId} {x y:Operand} (ho:o.op = .binOp op t x y t') {vx vy:Value} (hx:ev st x = .p (.v vx)) (hy:ev st y = .p (.v vy)) {r:Value}
 (hr:∀w,(do eqGuard op t x y vx vy;binOp op t vx vy:Sem Value).run P w = .ok r w) (h1:r.oneCell'=true):OpOk P o st (.p (.v r)) [] [] st.nx :=
 aT fun ρ F a w hin=>by
  have e1:=hin x (by simp [ho,Op.operands])
  have e2:=hin y (by simp [ho,Op.operands])
  rw [hx] at e1;rw [hy] at e2
  refine⟨r,?_,.ofV h1⟩
  have:=hr w
  simp only [execOp,ho,e1.pv,e2.pv]
  rw [Sem.run_bind,this]
  rfl
theorem Gd {a b:IntKind} (h:eqK a b=true):a=b:=by cases a<;>cases b<;>first|rfl|cases h
theorem qy (op:BinOp) (t:TypeId) (x y:Operand) (k j:IntKind) (a b:Int) (w:World):(eqGuard op t x y (.int k a) (.int j b)).run P w = .ok () w:=by
 cases op<;>simp [eqGuard]
theorem oq (op:BinOp) (t:TypeId) (x y:Operand) (a b:Bool) (w:World):(eqGuard op t x y (.bool a) (.bool b)).run P w = .ok () w:=by
 cases op<;>simp [eqGuard]
theorem qz (op:BinOp) (t:TypeId) (x y:Operand) (a b:ByteArray) (w:World):(eqGuard op t x y (.string a) (.string b)).run P w = .ok () w:=by
 cases op<;>simp [eqGuard]
theorem AP {o:Oper} {st:AS} {op:BinOp} {t t':TypeId} {x y:Operand} (ho:o.op = .binOp op t x y t') {k j:IntKind} {a b:Int} (hx:ev st x = .p (.v (.int k a))) (hy:ev st y = .p (.v (.int j b))) :
 (∀v T u nx,iA st op k a b (eqK k j) = .ok v T u nx→OpOk P o st v T u nx)∧(∀s v T u nx,iA st op k a b (eqK k j) = .okS s v T u nx→s→OpOk P o st v T u nx):=by
 have key:∀r:Value,r.oneCell'=true→(∀w,(binOp op t (.int k a) (.int j b)).run P w = .ok r w)→OpOk P o st (.p (.v r)) [] [] st.nx:=fun r h1 h2 =>
  we ho hx hy (fun w=>by rw [Sem.run_bind,qy];exact h2 w) h1
 cases hk:eqK k j with
 | true =>
  have:=Gd hk;subst this
  refine⟨fun v T u nx h=>?_,fun s v T u nx h hs=>?_⟩
  ·cases op<;>simp only [iA,R.pure,R.pureS,R.ok.injEq,reduceCtorEq] at h <;>
    (obtain⟨rfl,rfl,rfl,rfl⟩:=h;exact key _ rfl (fun w=>by simp [binOp,Op.intArith,Op.intCmp,Op.intBits,cu,bor,ko,FW]<;>rfl))
  ·cases op<;>simp only [iA,R.pure,R.pureS,R.okS.injEq,reduceCtorEq] at h <;>
    (obtain⟨rfl,rfl,rfl,rfl,rfl⟩:=h)
   ·exact key _ rfl (fun w=>by simp [binOp,Op.intDiv,hs])
   ·exact key _ rfl (fun w=>by simp [binOp,Op.intDiv,hs])
   ·exact key _ rfl (fun w=>by simp [binOp,Op.shift,gV,show ¬b<0 by omega])
   ·exact key _ rfl (fun w=>by simp [binOp,Op.shift,bc,show ¬b<0 by omega])
 | false =>
  refine⟨fun v T u nx h=>?_,fun s v T u nx h hs=>?_⟩
  ·cases op<;>simp only [iA,R.pureS,reduceCtorEq] at h
  ·cases op<;>simp only [iA,R.pureS,R.okS.injEq,reduceCtorEq] at h <;>
    (obtain⟨rfl,rfl,rfl,rfl,rfl⟩:=h)
   ·exact key _ rfl (fun w=>by simp [binOp,Op.shift,gV,show ¬b<0 by omega])
   ·exact key _ rfl (fun w=>by simp [binOp,Op.shift,bc,show ¬b<0 by omega])
theorem bB {t:TypeId} (h:1≤bz P t):∃d i,P.underlying t=some d∧P.info? t=some i∧i.size=bz P t:=by
 unfold bz at h ⊢
 split at h
 ·rename_i d i hd hi;exact⟨d,i,hd,hi,by simp [hd,hi]⟩
 ·omega
theorem cE (b o n:Nat):(⟨b,o,none⟩:Addr).add n=⟨b,o+n,none⟩:=by
 unfold Addr.add;split<;>simp_all
theorem gF {w:World} {b:Nat} {arr:Array Value} {t:TypeId} {fr:Nat×Nat} (h:w.heap[b]?=some (.cells arr t fr)) {i:Nat} (hi:i<arr.size) :
 w.cell? ⟨b,i,none⟩=some (arr.getD i undef):=by
 simp [World.cell?,h,hi,Array.getD_eq_getD_getElem?]
theorem qP {t:TypeId} {d:TypeDesc} (hd:P.underlying t=some d) (w:World):(isAgg t).run P w = .ok (dF (some d)).agg w:=by
 cases d<;>simp [isAgg,run_underlying hd,dF,TK.agg]
theorem eK {t:TypeId} {w:World} {b o:Nat} (f:Nat→Value) (hs:1≤bz P t) (hc:∀j,j<bz P t→w.cell? ⟨b,o+j,none⟩=some (f j)) :
 (loadVar t ⟨b,o,none⟩).run P w = .ok (if (dF (P.underlying t)).agg=true then .agg ((List.range (bz P t)).map f).toArray else f 0) w:=by
 obtain⟨d,i,hd,hi,hz⟩:=bB hs
 have hl:=run_loadCells (P:=P) w ⟨b,o,none⟩ (bz P t) f (fun j hj=>by rw [cE];exact hc j hj)
 have h0:=hc 0 (by omega)
 simp only [Nat.add_zero] at h0
 unfold loadVar
 rw [Sem.run_bind,qP hd,hd]
 cases ha:(dF (some d)).agg with
 | true=>simp [sizeOf,typeInfo,hi,hz,hl]
 | false=>simp [h0]
theorem cn {arr:Array Value} {j:Nat}:arr.getD j undef=(arr[j]?).getD undef:=by simp [Array.getD_eq_getD_getElem?]
theorem jS {ρ:am} {F:aA} {w:World} {t:TypeId} {cs:List AV} {off:Nat} {f:Nat→Value} (hs:1≤bz P t) (hl:off+bz P t≤cs.length)
 (hc:∀j c,cs[j]?=some c→Rd ρ F w c (f j)) :
 Rd ρ F w (gU (dF (P.underlying t)) (bz P t) (cs.drop off)) (if (dF (P.underlying t)).agg=true then .agg ((List.range (bz P t)).map fun j=>f (off+j)).toArray else f (off+0)):=by
 unfold gU
 cases ha:(dF (P.underlying t)).agg with
 | true =>
  simp only [if_true]
  refine .agg _ _ (by simp;omega) (fun j c hj=>?_)
  have hj':j<bz P t∧cs[off+j]?=some c:=by
   rw [List.getElem?_take] at hj
   split at hj
   ·exact⟨‹_›,by simpa using hj⟩
   ·cases hj
  simp [cn,hj'.1]
  exact hc _ _ hj'.2
 | false =>
  simp only [Bool.false_eq_true,if_false]
  cases hd:cs.drop off with
  | nil =>
   have:=congrArg List.length hd
   simp at this
   omega
  | cons c r =>
   simp only [aS]
   have:cs[off]?=some c:=by
    have h2:(cs.drop off)[0]?=some c:=by rw [hd];rfl
    simpa using h2
   exact hc _ _ (by simpa using this)
theorem tS {o:Oper} {st:AS} {t:TypeId} {x:Operand} (ho:o.op = .load t x) {id off:Nat} (hx:ev st x = .ptr id off) {k:Blk} (hk:hget st.hp id=some k)
 (hs:1≤bz P t) (hl:off+bz P t≤k.cs.length):OpOk P o st (gU (dF (P.underlying t)) (bz P t) (k.cs.drop off)) [id] [] st.nx where
 tri ρ F a w hpre hin K Q hK:=by
  have h1:=hin x (by simp [ho,Op.operands])
  rw [hx] at h1
  obtain⟨b,hb,hv⟩:=h1.ptrInv
  have hr:restr [id] (hget st.hp) id=some k:=by simp [restr,hk]
  rcases hpre.hp.ok id k hr with ⟨_,h0⟩|⟨b',hb',hblk⟩
  ·rw [h0] at hb;cases hb
  rw [hb] at hb';cases hb'
  obtain⟨arr,fr,ha,hfr,hlen,hc⟩:=hblk.is (.inl (by omega))
  have hrun:=eK (P:=P) (t:=t) (w:=w) (b:=b) (o:=off) (fun j=>arr.getD (off+j) undef) hs (fun j hj=>gF ha (by omega))
  unfold Oper.wp
  have hex:(execOp a.eval o).run P w = .ok (.value (if (dF (P.underlying t)).agg=true then .agg ((List.range (bz P t)).map fun j=>arr.getD (off+j) undef).toArray else arr.getD (off+0) undef)) w:=by
   simp only [execOp,ho,hv,Instr.loadAt,Instr.sureAddr,Sem.run_bind,Sem.run_pure,Result.andThen_ok,hrun]
  rw [hex]
  refine hK _ ρ F w ⟨fun _ _ h=>h,fun i h1 h2=>absurd h1 h2,fun i b h1 h2=>(by rw [h1] at h2;cases h2),jS hs hl (f:=fun j=>arr.getD j undef) (fun j c hj=>(hc j c hj).2),?_,hpre.fok,Chg.refl _ _ _⟩
  have:restr ([id]++keys []) (updH [] (hget st.hp))=restr [id] (hget st.hp):=by funext i;simp [restr,keys,updH]
  rw [this]
  exact hpre.hp
 le:=Nat.le_refl _
 keysOk i hi:=by simp [keys] at hi
 live i hi:=by simp at hi;subst hi;rw [hk];simp
def c5 (ρ:am) (id b:Nat):am:=fun i=>if i=id then some b else ρ i
theorem Post.newBlkF {ρ:am} {F:aA} {w w1:World} {id:Nat} {t:TypeId} {cs:List AV} {arr:Array Value} {h:ba} {v:AV} {x:Value} (fr:Nat×Nat) (hfr:FrOk fr arr.size)
 (hf:FOk F w) (hid:ρ id=none) (hl:cs.length≤arr.size) (hc:∀j c,cs[j]?=some c→(arr.getD j undef).oneCell'=true∧Rd ρ F w c (arr.getD j undef))
 (e1:w1.heap=w.heap) (e2:w1.os=w.os) (e3:w1.tape=w.tape) (e4:w1.output=w.output)
 (hv:Rd (c5 ρ id w.heap.size) F (w1.alloc (.cells arr t fr)) v x) :
 Post ρ F w [] [(id,some ⟨t,cs⟩)] h v x (c5 ρ id w.heap.size) F (w1.alloc (.cells arr t fr)):=by
 have hne:∀b,¬OSet ρ (keys [(id,some (⟨t,cs⟩:Blk))]) b:=by
  rintro b ⟨i,hi,hb⟩
  simp [keys] at hi
  subst hi
  rw [hid] at hb;cases hb
 have hsame:∀b,b<w.heap.size→(w1.alloc (.cells arr t fr)).heap[b]?=w.heap[b]?:=fun b hb=>by
  rw [← e1] at hb ⊢;exact Below.heap_alloc w1 _ b hb
 have hchg:Chg (OSet ρ (keys [(id,some (⟨t,cs⟩:Blk))])) F F w (w1.alloc (.cells arr t fr)) :=
  ⟨e2,e3,e4,by simp [World.alloc,e1],fun b hb _=>hsame b hb,⟨fun b n hcl=>by
   obtain⟨ar,t',fr,hb,hn⟩:=hcl
   exact⟨ar,t',fr,(hsame b (Array.getElem?_eq_some_iff.1 hb).1).trans hb,hn⟩,fun b hm=>by
   have hlt:=hm.lt
   obtain⟨es,c,hb⟩:=hm
   exact⟨es,c,(hsame b hlt).trans hb⟩⟩,fun _ h=>h,fun _ h => .inl h⟩
 have hrho:∀i b,ρ i=some b→c5 ρ id w.heap.size i=some b:=fun i b hb=>by
  unfold c5;split
  ·subst_vars;rw [hid] at hb;cases hb
  ·exact hb
 refine⟨hrho,fun i h1 h2=>?_,fun i b h1 h2=>?_,hv,⟨fun i k hk=>?_,fun i j b hi hj _ _=>?_⟩,fun b hb=>Nat.lt_of_lt_of_le (hf b hb) hchg.size,hchg⟩
 ·unfold c5 at h2;split at h2
  ·subst_vars;simp [keys]
  ·exact absurd h1 h2
 ·unfold c5 at h2;split at h2
  ·left;cases h2;exact Nat.le_refl _
  ·rw [h1] at h2;cases h2
 ·obtain⟨hi,hk⟩:=aJ hk
  simp [keys] at hi
  subst hi
  simp [updH,keys,hget] at hk
  subst hk
  refine .inr ⟨w.heap.size,by simp [c5],⟨fun hF=>absurd (hf _ hF) (Nat.lt_irrefl _),.inl ⟨arr,fr,?_,hfr,hl,fun j c hj=>⟨(hc j c hj).1,(hc j c hj).2.mono hrho hchg.sub (fun b hb=>hsame b (hf b hb)) hchg.cells⟩⟩⟩⟩
  rw [← e1];exact heap_alloc_new w1 _
 ·have key:∀i,restr ([]++keys [(id,some (⟨t,cs⟩:Blk))]) (updH [(id,some ⟨t,cs⟩)] h) i≠none→i=id:=fun i hi=>by
   unfold restr at hi
   split at hi
   ·rename_i hm;simpa [keys] using hm
   ·exact absurd rfl hi
  rw [key i hi,key j hj]
theorem Post.newBlk {ρ:am} {F:aA} {w w1:World} {id:Nat} {t:TypeId} {cs:List AV} {arr:Array Value} {h:ba} {v:AV} {x:Value}
 (hf:FOk F w) (hid:ρ id=none) (hl:cs.length≤arr.size) (hc:∀j c,cs[j]?=some c→(arr.getD j undef).oneCell'=true∧Rd ρ F w c (arr.getD j undef))
 (e1:w1.heap=w.heap) (e2:w1.os=w.os) (e3:w1.tape=w.tape) (e4:w1.output=w.output)
 (hv:Rd (c5 ρ id w.heap.size) F (w1.alloc (.cells arr t)) v x) :
 Post ρ F w [] [(id,some ⟨t,cs⟩)] h v x (c5 ρ id w.heap.size) F (w1.alloc (.cells arr t)):=Post.newBlkF (0,0) (.zero _) hf hid hl hc e1 e2 e3 e4 hv
theorem Ge {o:Oper} {st:AS} {t:TypeId} {x:Operand} (ho:o.op = .box t x) (h1:eJ (cells (ev st x))=true) :
 OpOk P o st (.ptr st.nx 0) [] [(st.nx,some ⟨t,cells (ev st x)⟩)] (st.nx+1) where
 tri ρ F a w hpre hin K Q hK:=by
  have hr:=hin x (by simp [ho,Op.operands])
  obtain⟨hl,hc⟩:=hr.cells h1
  have hid:=hpre.fresh st.nx (by simp [keys]) (by simp)
  unfold Oper.wp
  have hex:(execOp a.eval o).run P w = .ok (.value (.pointer (some ⟨w.heap.size,0,none⟩))) (w.alloc (.cells (a.eval x).cells t)):=by
   simp only [execOp,ho];rfl
  rw [hex]
  exact hK _ _ F _ (Post.newBlk hpre.fok hid (by omega) (fun j c hj=>⟨(hc j c hj).one (ml h1 hj),hc j c hj⟩) rfl rfl rfl rfl (.ptr _ _ _ (by simp [c5])))
 le:=Nat.le_succ _
 keysOk i hi:=by simp [keys] at hi;subst hi;exact .inr ⟨Nat.le_refl _,Nat.lt_succ_self _⟩
 live i hi:=by simp at hi
theorem xG {z:List Value} {j:Nat} {c:AV} (h:(pvs z)[j]?=some c):∃y,z[j]?=some y∧c = .p (.v y):=by
 induction z generalizing j with
 | nil=>simp [pvs] at h
 | cons x r ih =>
  cases j with
  | zero=>simp [pvs] at h;exact⟨x,rfl,h.symm⟩
  | succ j=>simp [pvs] at h;simpa using ih h
theorem ls (z:List Value):(pvs z).length=z.length:=by induction z<;>simp_all [pvs]
theorem qQ {z:List Value} (h:eU z=true) {j:Nat} {y:Value} (hj:z[j]?=some y):y.oneCell'=true:=by
 induction z generalizing j with
 | nil=>simp at hj
 | cons x r ih =>
  unfold eU at h
  cases hc:x.oneCell' with
  | false=>rw [hc] at h;cases h
  | true =>
   rw [hc] at h
   cases j with
   | zero=>simp at hj;subst hj;exact hc
   | succ j=>exact ih h (by simpa using hj)
theorem AQ {o:Oper} {st:AS} {t:TypeId} (ho:o.op = .alloc t) {z:List Value} (hz:(ae P t).zero=some z) (h1:eU z=true) :
 OpOk P o st (.ptr st.nx 0) [] [(st.nx,some ⟨t,pvs z⟩)] (st.nx+1) where
 tri ρ F a w hpre hin K Q hK:=by
  have hid:=hpre.fresh st.nx (by simp [keys]) (by simp)
  simp only [ae,Option.bind_eq_some_iff,Option.map_eq_some_iff] at hz
  obtain⟨i,hi,zv,hzv,rfl⟩:=hz
  unfold Oper.wp
  have hex:(execOp a.eval o).run P w = .ok (.value (.pointer (some ⟨w.heap.size,0,none⟩))) (w.alloc (.cells zv.cells t)):=by
   simp [execOp,ho,Instr.alloc,zeroValue,typeInfo,hi,hzv];rfl
  rw [hex]
  refine hK _ _ F _ (Post.newBlk hpre.fok hid (by simp [ls]) (fun j c hj=>?_) rfl rfl rfl rfl (.ptr _ _ _ (by simp [c5])))
  obtain⟨y,hy,rfl⟩:=xG hj
  have hy1:=qQ h1 hy
  have:zv.cells.getD j undef=y:=by
   have hy':zv.cells[j]?=some y:=by simpa using hy
   simp [cn,hy']
  rw [this]
  exact⟨hy1,.ofV hy1⟩
 le:=Nat.le_succ _
 keysOk i hi:=by simp [keys] at hi;subst hi;exact .inr ⟨Nat.le_refl _,Nat.lt_succ_self _⟩
 live i hi:=by simp at hi
theorem jT (vs:List AV):∀(cs:List AV) (i:Nat),(cA cs i vs).length=cs.length:=by
 induction vs with
 | nil=>intro cs i;rfl
 | cons v r ih=>intro cs i;simp [cA,ih]
theorem qR (vs:List AV):∀(cs:List AV) (i j:Nat),i+vs.length≤cs.length →
 (cA cs i vs)[j]?=if i≤j∧j<i+vs.length then vs[j-i]? else cs[j]?:=by
 induction vs with
 | nil=>intro cs i j _;simp [cA];omega
 | cons v r ih =>
  intro cs i j h
  simp only [List.length_cons] at h
  simp only [cA]
  rw [ih (cs.set i v) (i+1) j (by simp;omega)]
  simp only [List.length_cons,List.getElem?_set]
  by_cases h1:i+1≤j∧j<i+1+r.length
  ·rw [if_pos h1,if_pos (by omega)]
   obtain⟨k,rfl⟩:∃k,j=i+1+k:=⟨j-(i+1),by omega⟩
   rw [show i+1+k-(i+1)=k by omega,show i+1+k-i=k+1 by omega]
   simp
  ·rw [if_neg h1]
   by_cases h2:i=j
   ·subst h2
    rw [if_pos rfl,if_pos (by omega),if_pos (by omega)]
    simp
   ·rw [if_neg h2,if_neg (by omega)]
theorem nl {w:World} {b:Nat} {arr arr':Array Value} {t:TypeId} {fr:Nat×Nat} (ha:w.heap[b]?=some (.cells arr t fr)) (hz:arr'.size=arr.size) (O F:aA) (hO:O b) :
 Chg O F F w (w.setRow b arr') where
 os:=rfl
 tape:=rfl
 output:=rfl
 size:=by simp [World.setRow]
 same k _ hk:=setRow_other w b k arr' (fun e=>hk (e ▸ hO))
 cells:=by
  refine⟨fun k n hc=>?_,fun k hm=>?_⟩
  ·obtain⟨ar,t',fr',hb,hn⟩:=hc
   by_cases hk:k=b
   ·subst hk
    rw [ha] at hb
    cases hb
    exact⟨arr',t,fr,setRow_heap w k arr arr' t fr ha,by omega⟩
   ·exact⟨ar,t',fr',(setRow_other w b k arr' hk).trans hb,hn⟩
  ·obtain⟨es,c,hb⟩:=hm
   by_cases hk:k=b
   ·subst hk
    rw [ha] at hb
    cases hb
   ·exact⟨es,c,(setRow_other w b k arr' hk).trans hb⟩
 sub _ h:=h
 new _ h := .inl h
theorem Post.wrBlk {ρ:am} {F:aA} {w:World} {id b:Nat} {t:TypeId} {cs:List AV} {arr arr':Array Value} {h:ba} {v:AV} {x:Value}
 (hf:FOk F w) (hF:¬F b) (hid:ρ id=some b) {fr:Nat×Nat} (ha:w.heap[b]?=some (.cells arr t fr)) (hfr:FrOk fr arr.size) (hz:arr'.size=arr.size) (hl:cs.length≤arr'.size)
 (hc:∀j c,cs[j]?=some c→(arr'.getD j undef).oneCell'=true∧Rd ρ F w c (arr'.getD j undef))
 (hv:Rd ρ F w v x):Post ρ F w [id] [(id,some ⟨t,cs⟩)] h v x ρ F (w.setRow b arr'):=by
 have hO:OSet ρ (keys [(id,some (⟨t,cs⟩:Blk))]) b:=⟨id,by simp [keys],hid⟩
 have hchg:=nl ha hz (OSet ρ (keys [(id,some (⟨t,cs⟩:Blk))])) F hO
 have hsame:∀k,F k→(w.setRow b arr').heap[k]?=w.heap[k]?:=fun k hk=>setRow_other w b k arr' (fun e=>hF (e ▸ hk))
 refine⟨fun _ _ h=>h,fun i h1 h2=>absurd h1 h2,fun i b h1 h2=>(by rw [h1] at h2;cases h2),hv.mono (fun _ _ h=>h) (fun _ h=>h) hsame hchg.cells,⟨fun i k hk=>?_,fun i j c hi hj _ _=>?_⟩,fun k hk=>Nat.lt_of_lt_of_le (hf k hk) hchg.size,hchg⟩
 ·obtain⟨hi,hk⟩:=aJ hk
  simp [keys] at hi
  subst hi
  simp [updH,keys,hget] at hk
  subst hk
  exact .inr ⟨b,hid,⟨hF,.inl ⟨arr',_,setRow_heap w b arr arr' t _ ha,by rw [hz];exact hfr,hl,fun j c hj=>⟨(hc j c hj).1,(hc j c hj).2.mono (fun _ _ h=>h) (fun _ h=>h) hsame hchg.cells⟩⟩⟩⟩
 ·have key:∀i,restr ([id]++keys [(id,some (⟨t,cs⟩:Blk))]) (updH [(id,some ⟨t,cs⟩)] h) i≠none→i=id:=fun i hi=>by
   unfold restr at hi
   split at hi
   ·rename_i hm;simpa [keys] using hm
   ·exact absurd rfl hi
  rw [key i hi,key j hj]
theorem xH {ρ:am} {F:aA} {w:World} {arr:Array Value} {cs vs:List AV} {us:List Value} {off:Nat} (hl:cs.length≤arr.size) (hfit:off+vs.length≤cs.length) (hn:us.length=vs.length)
 (hc:∀j c,cs[j]?=some c→(arr.getD j undef).oneCell'=true∧Rd ρ F w c (arr.getD j undef))
 (hv:∀j c,vs[j]?=some c→(us.getD j undef).oneCell'=true∧Rd ρ F w c (us.getD j undef)) :
 ∀j c,(cA cs off vs)[j]?=some c →
  (((arr.toList.take off++us++arr.toList.drop (off+us.length)).toArray).getD j undef).oneCell'=true ∧
  Rd ρ F w c (((arr.toList.take off++us++arr.toList.drop (off+us.length)).toArray).getD j undef):=by
 intro j c hj
 rw [qR vs cs off j hfit] at hj
 have hget:((arr.toList.take off++us++arr.toList.drop (off+us.length)).toArray).getD j undef=if off≤j∧j<off+vs.length then us.getD (j-off) undef else arr.getD j undef:=by
  have hoff:min off arr.size=off:=by omega
  simp only [cn,List.getElem?_toArray,List.getElem?_append,List.length_append,List.length_take,Array.length_toList,hoff,List.getElem?_take,List.getElem?_drop,Array.getElem?_toList,hn,List.getD_eq_getElem?_getD]
  by_cases h1:j<off
  ·simp [h1,show j<off+vs.length by omega,show ¬(off≤j) by omega]
  ·by_cases h2:j<off+vs.length
   ·simp [h1,h2,show off≤j by omega]
   ·simp only [h1,h2,if_false,and_false]
    rw [show off+vs.length+(j-(off+vs.length))=j by omega]
 rw [hget]
 split at hj
 ·rename_i hh;rw [if_pos hh];exact hv _ _ hj
 ·rename_i hh;rw [if_neg hh];exact hc _ _ hj
theorem ft {P:Program} (g o:Nat) (t:TypeId) (fr:Nat×Nat):∀(vs:List Value) (i:Nat) (cur:Array Value) (w:World),w.heap[g]?=some (.cells cur t fr)→FrOk fr cur.size→o+i+vs.length≤cur.size→(∀v∈vs,v.oneCell'=true) →
 (storeCells ⟨g,o,none⟩ vs i).run P w = .ok () (w.setRow g (cur.toList.take (o+i)++vs++cur.toList.drop (o+i+vs.length)).toArray)
 | [],i,cur,w,hg,_,_,_=>by
  simp only [storeCells,List.append_nil,List.length_nil,Nat.add_zero,List.take_append_drop,Array.toArray_toList]
  rw [setRow_self w g cur t fr hg]
  rfl
 | v::rest,i,cur,w,hg,hfr,hl,h1=>by
  have hi:o+i<cur.size:=by simp at hl;omega
  have hcell:w.cell? ⟨g,o+i,none⟩=some cur[o+i]:=by simp [World.cell?,hg,hi]
  have hfro:w.frozen? ⟨g,o+i,none⟩=false:=by
   rcases hfr with h|h
   ·simp [World.frozen?,hg,h]
   ·simp [World.frozen?,hg];omega
  have hst:(store ((⟨g,o,none⟩:Addr).add i) v).run P w = .ok () (w.setRow g (cur.setIfInBounds (o+i) v)):=by
   rw [cE,run_store P w _ v _ (h1 v (by simp)),hcell]
   simp [hfro,setCell_eq_setRow w g (o+i) cur t fr v hg]
  have ih:=ft (P:=P) g o t fr rest (i+1) (cur.setIfInBounds (o+i) v) (w.setRow g (cur.setIfInBounds (o+i) v)) (setRow_heap w g cur _ t _ hg) (by simpa using hfr) (by simp at hl ⊢;omega) (fun x hx=>h1 x (by simp [hx]))
  simp only [storeCells,Sem.run_bind,hst,Result.andThen_ok,ih,setRow_setRow]
  congr 3
  have e:=list_seg_step cur.toList (o+i) v rest (by simp at hl ⊢;omega)
  simpa [Array.toList_setIfInBounds,Nat.add_assoc] using e
theorem AR {o:Oper} {st:AS} {t:TypeId} {x y:Operand} (ho:o.op = .store t x y) {id off:Nat} (hx:ev st x = .ptr id off) {k:Blk} (hk:hget st.hp id=some k)
 (h1:eJ (cells (ev st y))=true) (hl:off+(cells (ev st y)).length≤k.cs.length) (hs:(cells (ev st y)).length=bz P t) (hp:1≤bz P t) :
 OpOk P o st .any [id] [(id,some ⟨k.t,cA k.cs off (cells (ev st y))⟩)] st.nx where
 tri ρ F a w hpre hin K Q hK:=by
  have hx1:=hin x (by simp [ho,Op.operands])
  have hy1:=hin y (by simp [ho,Op.operands])
  rw [hx] at hx1
  obtain⟨b,hb,hv⟩:=hx1.ptrInv
  obtain⟨hyl,hyc⟩:=hy1.cells h1
  have hr:restr [id] (hget st.hp) id=some k:=by simp [restr,hk]
  rcases hpre.hp.ok id k hr with ⟨_,h0⟩|⟨b',hb',hblk⟩
  ·rw [h0] at hb;cases hb
  rw [hb] at hb';cases hb'
  obtain⟨arr,fr,ha,hfr,hlen,hc⟩:=hblk.is (.inl (by omega))
  obtain⟨d,i,hd,hi,hz⟩:=bB hp
  have hn:(a.eval y).cells.toList.length=(cells (ev st y)).length:=by simpa using hyl
  have hvs:∀j c,(cells (ev st y))[j]?=some c→((a.eval y).cells.toList.getD j undef).oneCell'=true∧Rd ρ F w c ((a.eval y).cells.toList.getD j undef):=by
   intro j c hj
   have e:(a.eval y).cells.toList.getD j undef=(a.eval y).cells.getD j undef:=by simp [cn,List.getD_eq_getElem?_getD]
   rw [e]
   exact⟨(hyc j c hj).one (ml h1 hj),hyc j c hj⟩
  have hone:∀v∈(a.eval y).cells.toList,v.oneCell'=true:=by
   intro v hv
   obtain⟨j,hj⟩:=List.getElem?_of_mem hv
   have hjl:j<(cells (ev st y)).length:=by rw [← hn];exact (List.getElem?_eq_some_iff.1 hj).1
   have:=(hvs j _ (List.getElem?_eq_getElem hjl)).1
   simpa [List.getD_eq_getElem?_getD,hj] using this
  have hst:=ft (P:=P) b off k.t fr (a.eval y).cells.toList 0 arr w ha hfr (by omega) hone
  simp only [Nat.add_zero] at hst
  unfold Oper.wp
  have hex:(execOp a.eval o).run P w = .ok .skip (w.setRow b (arr.toList.take off++(a.eval y).cells.toList++arr.toList.drop (off+(a.eval y).cells.toList.length)).toArray):=by
   have hsz:(a.eval y).cells.size=i.size:=by rw [hyl,hs,hz]
   simp only [execOp,ho,hv,Instr.storeAt,Instr.sureAddr,storeVar,Sem.run_bind,Sem.run_pure,Result.andThen_ok,sizeOf,typeInfo,run_program,hi]
   simp [hsz,hst]
  rw [hex]
  refine hK _ ρ F _ (Post.wrBlk hpre.fok hblk.own hb ha hfr ?_ ?_ (xH hlen hl hn hc hvs) (.any _))
  ·simp only [List.size_toArray,List.length_append,List.length_take,List.length_drop,Array.length_toList];omega
  ·simp only [jT,List.size_toArray,List.length_append,List.length_take,List.length_drop,Array.length_toList];omega
 le:=Nat.le_refl _
 keysOk i hi:=by simp [keys] at hi;subst hi;exact .inl (by simp)
 live i hi:=by simp at hi;subst hi;rw [hk];simp
end Go.Abs
namespace Go.Abs
set_option linter.unusedSimpArgs false
set_option linter.unusedVariables false
open Go Go.RowKit
variable {P : Program}
theorem Rd.cpInv {ρ:am} {F:aA} {w:World} {cs:List PV} {u:Value} (h:Rd ρ F w (.cp cs) u) :
 ∃(b off:Nat) (f:Nat→Value),u = .pointer (some ⟨b,off,none⟩)∧F b∧(∀j,j<cs.length→w.cell? ⟨b,off+j,none⟩=some (f j))∧(∀j,j<cs.length→(f j).oneCell'=true)∧(∀j c,cs[j]?=some c→RdP F w c (f j)):=by
 cases h with
 | cp _ b off f hF hc h1 hr=>exact⟨b,off,f,rfl,hF,hc,h1,hr⟩
theorem Rd.cpDrop {ρ:am} {F:aA} {w:World} {cs:List PV} {b off:Nat} {f:Nat→Value} (hF:F b) (hc:∀j,j<cs.length→w.cell? ⟨b,off+j,none⟩=some (f j))
 (h1:∀j,j<cs.length→(f j).oneCell'=true) (hr:∀j c,cs[j]?=some c→RdP F w c (f j)) (k:Nat):Rd ρ F w (.cp (cs.drop k)) (.pointer (some ⟨b,off+k,none⟩)) :=
 .cp _ b (off+k) (fun j=>f (k+j)) hF (fun j hj=>by rw [Nat.add_assoc];exact hc _ (by simp at hj;omega)) (fun j hj=>h1 _ (by simp at hj;omega)) (fun j c hj=>hr _ _ (by simpa using hj))
theorem xI {t:TypeId} {f o s:Nat} {k:TK} (h:(ae P t).flds[f]?=some (o,s,k)) (hs:1≤s) :
 ∃(fs:Array Field) (fd:Field),P.underlying t=some (.struct fs)∧fs[f]?=some fd∧fd.offset=o∧bz P fd.type=s∧dF (P.underlying fd.type)=k:=by
 simp only [ae,nP] at h
 split at h
 ·rename_i fs hfs
  simp only [List.getElem?_map,Option.map_eq_some_iff,Array.getElem?_toList] at h
  obtain⟨fd,hfd,he⟩:=h
  simp only [Prod.mk.injEq] at he
  exact⟨fs,fd,hfs,hfd,he.1,he.2.1,he.2.2⟩
 ·simp at h
theorem nn {t:TypeId} {f o s:Nat} {k:TK} (h:(ae P t).flds[f]?=some (o,s,k)) (hs:1≤s) (b off:Nat) (w:World) :
 (Instr.fieldAt t (.pointer (some ⟨b,off,none⟩)) f).run P w = .ok (.pointer (some ⟨b,off+o,none⟩)) w:=by
 obtain⟨fs,fd,hu,hf,ho,hz,_⟩:=xI h hs
 obtain⟨d,i,hd,hi,hz'⟩:=bB (P:=P) (t:=fd.type) (by omega)
 have hne:i.size≠0:=by omega
 simp [Instr.fieldAt,run_underlying hu,hf,Instr.sureAddr,fieldPlace,sizeOf,typeInfo,hi,hne,cE,ho]
theorem tT {o:Oper} {st:AS} {t:TypeId} {x:Operand} {f:Nat} (ho:o.op = .fieldAddr t x f) {id off:Nat} (hx:ev st x = .ptr id off) {fo s:Nat} {k:TK}
 (h:(ae P t).flds[f]?=some (fo,s,k)) (hs:1≤s):OpOk P o st (.ptr id (off+fo)) [] [] st.nx :=
 aT fun ρ F a w hin=>by
  have h1:=hin x (by simp [ho,Op.operands])
  rw [hx] at h1
  obtain⟨b,hb,hv⟩:=h1.ptrInv
  exact⟨_,by simp only [execOp,ho,hv,Sem.run_bind,nn h hs,Result.andThen_ok,Sem.run_pure],.ptr _ _ _ hb⟩
theorem wg {o:Oper} {st:AS} {t:TypeId} {x:Operand} {f:Nat} (ho:o.op = .fieldAddr t x f) {cs:List PV} (hx:ev st x = .cp cs) {fo s:Nat} {k:TK}
 (h:(ae P t).flds[f]?=some (fo,s,k)) (hs:1≤s):OpOk P o st (.cp (cs.drop fo)) [] [] st.nx :=
 aT fun ρ F a w hin=>by
  have h1:=hin x (by simp [ho,Op.operands])
  rw [hx] at h1
  obtain⟨b,off,g,hv,hF,hc,ho1,hr⟩:=h1.cpInv
  exact⟨_,by simp only [execOp,ho,hv,Sem.run_bind,nn h hs,Result.andThen_ok,Sem.run_pure],.cpDrop hF hc ho1 hr fo⟩
theorem tU {t:TypeId} {us:Array Value} {off:Nat} (hs:1≤bz P t) (hl:off+bz P t≤us.size) (w:World) :
 (part t us off).run P w = .ok (if (dF (P.underlying t)).agg=true then .agg ((List.range (bz P t)).map fun j=>us.getD (off+j) undef).toArray else us.getD (off+0) undef) w:=by
 obtain⟨d,i,hd,hi,hz⟩:=bB hs
 unfold part
 rw [Sem.run_bind,qP hd,hd]
 cases ha:(dF (some d)).agg with
 | true =>
  simp only [Result.andThen_ok,sizeOf,typeInfo,Sem.run_bind,run_program,hi,Sem.run_pure,if_true,hz]
  congr 2
  apply Array.ext_getElem?
  intro j
  simp only [Array.getElem?_extract,List.getElem?_toArray,List.getElem?_map,List.getElem?_range',cn]
  by_cases hj:j<bz P t
  ·have h2:off+j<us.size:=by omega
   simp [hj,h2];omega
  ·simp [hj];omega
 | false =>
  have h2:off<us.size:=by omega
  simp [cn,h2]
theorem AT {o:Oper} {st:AS} {t:TypeId} {x:Operand} {f:Nat} (ho:o.op = .field t x f) {cs:List AV} (hx:ev st x = .agg cs) {fo s:Nat} {k:TK}
 (h:(ae P t).flds[f]?=some (fo,s,k)) (hs:1≤s) (hl:fo+s≤cs.length):OpOk P o st (gU k s (cs.drop fo)) [] [] st.nx :=
 aT fun ρ F a w hin=>by
  have h1:=hin x (by simp [ho,Op.operands])
  rw [hx] at h1
  obtain⟨us,hv,hz,hr⟩:=h1.aggInv
  obtain⟨fs,fd,hu,hf,rfl,rfl,rfl⟩:=xI h hs
  have hp:=tU (P:=P) (t:=fd.type) (us:=us) (off:=fd.offset) hs (by omega) w
  refine⟨_,?_,jS hs hl (f:=fun j=>us.getD j undef) hr⟩
  simp only [execOp,ho,hv,Instr.field,asAgg,Sem.run_bind,run_underlying hu,Result.andThen_ok,hf,Sem.run_pure,hp]
theorem wh {o:Oper} {st:AS} {x:Operand} {i:Nat} (ho:o.op = .extract x i) {vs:List AV} (hx:ev st x = .tup vs) {v:AV} (hv:vs[i]?=some v):OpOk P o st v [] [] st.nx :=
 aT fun ρ F a w hin=>by
  have h1:=hin x (by simp [ho,Op.operands])
  rw [hx] at h1
  obtain⟨us,hu,hz,hr⟩:=h1.tupInv
  have hi:i<us.size:=by rw [hz];exact (List.getElem?_eq_some_iff.1 hv).1
  refine⟨us.getD i undef,?_,hr i v hv⟩
  simp [execOp,ho,hu,Instr.extract,hi,cn]
theorem qS {o:Oper} {st:AS} {t:TypeId} {x:Operand} (ho:o.op = .load t x) {cs:List PV} (hx:ev st x = .cp cs) (hs:1≤bz P t) (hl:bz P t≤cs.length) (d:PV) :
 OpOk P o st (if (dF (P.underlying t)).agg=true then .agg ((cs.take (bz P t)).map .p) else .p (eV d cs)) [] [] st.nx :=
 aT fun ρ F a w hin=>by
  have h1:=hin x (by simp [ho,Op.operands])
  rw [hx] at h1
  obtain⟨b,off,g,hv,hF,hc,ho1,hr⟩:=h1.cpInv
  have hrun:=eK (P:=P) (t:=t) (w:=w) (b:=b) (o:=off) g hs (fun j hj=>hc j (by omega))
  refine⟨_,by simp only [execOp,ho,hv,Instr.loadAt,Instr.sureAddr,Sem.run_bind,Sem.run_pure,Result.andThen_ok,hrun];rfl,?_⟩
  cases ha:(dF (P.underlying t)).agg with
  | true =>
   simp only [if_true]
   refine .agg _ _ (by simp;omega) (fun j c hj=>?_)
   simp only [List.getElem?_map,Option.map_eq_some_iff,List.getElem?_take] at hj
   obtain⟨y,hy,rfl⟩:=hj
   split at hy
   ·rename_i hlt
    simp [cn,hlt]
    exact .p _ _ (hr j y hy)
   ·cases hy
  | false =>
   simp only [Bool.false_eq_true,if_false]
   cases cs with
   | nil=>simp at hl;omega
   | cons c r=>exact .p _ _ (hr 0 c rfl)
theorem Rd.dataInv {ρ:am} {F:aA} {w:World} {s n:Nat} {cs:List PV} {u:Value} (h:Rd ρ F w (.p (.data s n cs)) u) :
 (n=0∧cs=[]∧∃A cap,u = .slice A 0 cap) ∨
 ∃(b off cap:Nat) (f:Nat→Value),u = .slice (some ⟨b,off,none⟩) n cap∧cs.length=n*s∧n≤cap∧F b∧(∀j,j<cs.length→w.cell? ⟨b,off+j,none⟩=some (f j))∧(∀j,j<cs.length→(f j).oneCell'=true)∧(∀j c,cs[j]?=some c→RdP F w c (f j)):=by
 cases h with
 | p _ _ h =>
  cases h with
  | nil _ A cap=>exact .inl ⟨rfl,rfl,A,cap,rfl⟩
  | data _ _ _ b off cap f hl hcap hF hc h1 hr=>exact .inr ⟨b,off,cap,f,rfl,hl,hcap,hF,hc,h1,hr⟩
theorem Rd.slInv {ρ:am} {F:aA} {w:World} {id off n s:Nat} {u:Value} (h:Rd ρ F w (.sl id off n s) u) :
 (n=0∧∃A,u = .slice A 0 0)∨∃b cap,ρ id=some b∧u = .slice (some ⟨b,off,none⟩) n cap∧n≤cap∧hasCells w b (off+cap*s):=by
 cases h with
 | sl _ _ _ _ b cap h hcap hs=>exact .inr ⟨b,cap,h,rfl,hcap,hs⟩
 | slz _ _ _ A=>exact .inl ⟨rfl,A,rfl⟩
theorem gb {k:IntKind} {n:Int} {y:Nat} {c:BoundsCode} (h0:0≤n) (h1:n≤y) (w:World):(Instr.sliceBound (.int k n) y c).run P w = .ok n.toNat w:=by
 simp [Instr.sliceBound,asIntOf,h0,h1]
theorem i3 {isS:Bool} {len cap:Nat} {lo hi mx:Option Value} {l h m:Int} (hlo:(lo=none∧l=0)∨∃k,lo=some (.int k l)) (hhi:(hi=none∧h=len∧mx=none)∨∃k,hi=some (.int k h))
 (hmx:(mx=none∧m=cap)∨∃k,mx=some (.int k m)) (h0:0≤l) (h1:l≤h) (h2:h≤m) (h3:m≤cap) (w:World) :
 (Instr.sliceBounds isS len cap lo hi mx).run P w = .ok (l.toNat,h.toNat,m.toNat) w:=by
 have hm0:(m.toNat:Int)=m:=Int.toNat_of_nonneg (by omega)
 have hh0:(h.toNat:Int)=h:=Int.toNat_of_nonneg (by omega)
 have b1:∀k c,(Instr.sliceBound (.int k m) cap c).run P w = .ok m.toNat w:=fun k c=>gb (by omega) h3 w
 have b2:∀k c,(Instr.sliceBound (.int k h) m.toNat c).run P w = .ok h.toNat w:=fun k c=>gb (by omega) (by omega) w
 have b3:∀k c,(Instr.sliceBound (.int k l) h.toNat c).run P w = .ok l.toNat w:=fun k c=>gb (by omega) (by omega) w
 rcases hmx with ⟨rfl,rfl⟩|⟨km,rfl⟩
 ·simp only [Int.toNat_natCast] at b2 ⊢
  rcases hhi with ⟨rfl,rfl,_⟩|⟨kh,rfl⟩
  ·simp only [Int.toNat_natCast] at b3 ⊢
   rcases hlo with ⟨rfl,rfl⟩|⟨kl,rfl⟩
   ·simp [Instr.sliceBounds]
   ·simp [Instr.sliceBounds,b3]
  ·rcases hlo with ⟨rfl,rfl⟩|⟨kl,rfl⟩
   ·simp [Instr.sliceBounds,b2]
   ·simp [Instr.sliceBounds,b2,b3]
 ·rcases hhi with ⟨rfl,rfl,hx⟩|⟨kh,rfl⟩
  ·cases hx
  ·rcases hlo with ⟨rfl,rfl⟩|⟨kl,rfl⟩
   ·simp [Instr.sliceBounds,b1,b2]
   ·simp [Instr.sliceBounds,b1,b2,b3]
structure wj (st:AS) (lo hi mx:Option Operand) (top l h:Int):Prop where
 lo:(lo=none∧l=0)∨∃x k,lo=some x∧ev st x = .p (.v (.int k l))
 hi:(hi=none∧h=top∧mx=none)∨∃x k,hi=some x∧ev st x = .p (.v (.int k h))
 mx:mx=none∨∃x k,mx=some x∧ev st x = .p (.v (.int k h))
theorem jd {st:AS} {lo hi mx:Option Operand} {l h:Int} {len cap:Nat} (hb:wj st lo hi mx len l h) {ρ:am} {F:aA} {w:World} {a:Act}
 (hin:∀x,(lo=some x∨hi=some x∨mx=some x)→Rd ρ F w (ev st x) (a.eval x)) (h0:0≤l) (h1:l≤h) (h2:h≤len) (h3:len≤cap) (isS:Bool) :
 ∃m:Nat,h.toNat≤m∧m≤cap∧(Instr.sliceBounds isS len cap (lo.map a.eval) (hi.map a.eval) (mx.map a.eval)).run P w = .ok (l.toNat,h.toNat,m) w:=by
 have elo:((lo.map a.eval=none)∧l=0)∨∃k,lo.map a.eval=some (.int k l):=by
  rcases hb.lo with ⟨rfl,rfl⟩|⟨x,k,rfl,hx⟩
  ·exact .inl ⟨rfl,rfl⟩
  ·have:=hin x (.inl rfl);rw [hx] at this;exact .inr ⟨k,by simp [this.pv]⟩
 have emx:(mx.map a.eval=none∧mx=none)∨∃k,mx.map a.eval=some (.int k h):=by
  rcases hb.mx with rfl|⟨x,k,rfl,hx⟩
  ·exact .inl ⟨rfl,rfl⟩
  ·have:=hin x (.inr (.inr rfl));rw [hx] at this;exact .inr ⟨k,by simp [this.pv]⟩
 have ehi:((hi.map a.eval=none)∧h=len∧mx.map a.eval=none)∨∃k,hi.map a.eval=some (.int k h):=by
  rcases hb.hi with ⟨rfl,rfl,rfl⟩|⟨x,k,rfl,hx⟩
  ·exact .inl ⟨rfl,rfl,rfl⟩
  ·have:=hin x (.inr (.inl rfl));rw [hx] at this;exact .inr ⟨k,by simp [this.pv]⟩
 rcases emx with ⟨e,_⟩|⟨k,e⟩
 ·exact⟨cap,by omega,Nat.le_refl _,by have:=i3 (P:=P) (isS:=isS) elo ehi (m:=cap) (.inl ⟨e,rfl⟩) h0 h1 (by omega) (by omega) w;simpa using this⟩
 ·exact⟨h.toNat,Nat.le_refl _,by omega,i3 elo ehi (m:=h) (.inr ⟨k,e⟩) h0 h1 (by omega) (by omega) w⟩
theorem gY {o:Oper} {t:TypeId} {x:Operand} {lo hi mx:Option Operand} (ho:o.op = .slice t x lo hi mx):x∈o.op.operands.toList∧∀y,(lo=some y∨hi=some y∨mx=some y)→y∈o.op.operands.toList:=by
 rw [ho]
 refine⟨by simp [Op.operands],fun y hy=>?_⟩
 rcases hy with rfl|rfl|rfl<;>simp [Op.operands]
theorem bR {t:TypeId} (h:(ae P t).kind = .slice):P.underlying t=some (.slice (ae P t).elem):=by
 simp only [ae] at h ⊢
 revert h
 cases hu:P.underlying t with
 | none=>intro h;cases h
 | some d=>cases d<;>intro h<;>first|rfl|cases h
theorem je {t:TypeId} (h:(ae P t).kind = .array):P.underlying t=some (.array (ae P t).len (ae P t).elem):=by
 simp only [ae] at h ⊢
 revert h
 cases hu:P.underlying t with
 | none=>intro h;cases h
 | some d=>cases d<;>intro h<;>first|rfl|cases h
theorem jf {t:TypeId} (h:(ae P t).kind = .str):P.underlying t=some .string:=by
 simp only [ae] at h
 revert h
 cases hu:P.underlying t with
 | none=>intro h;cases h
 | some d=>cases d<;>intro h<;>first|rfl|cases h
theorem kJ {t:TypeId} (h:(ae P t).kind = .ptr):P.underlying t=some (.pointer (ae P t).elem):=by
 simp only [ae] at h ⊢
 revert h
 cases hu:P.underlying t with
 | none=>intro h;cases h
 | some d=>cases d<;>intro h<;>first|rfl|cases h
theorem xJ {t:TypeId} (h:(ae P t).kind = .uptr):P.underlying t=some .unsafePointer:=by
 simp only [ae] at h
 revert h
 cases hu:P.underlying t with
 | none=>intro h;cases h
 | some d=>cases d<;>intro h<;>first|rfl|cases h
theorem DX {t:TypeId} (h:(ae P t).kind = .bool):P.underlying t=some .bool:=by
 simp only [ae] at h
 revert h
 cases hu:P.underlying t with
 | none=>intro h;cases h
 | some d=>cases d<;>intro h<;>first|rfl|cases h
theorem kL {t:TypeId} {k:IntKind} (h:(ae P t).kind = .int k):P.underlying t=some (.int k):=by
 simp only [ae] at h
 revert h
 cases hu:P.underlying t with
 | none=>intro h;cases h
 | some d=>cases d<;>intro h<;>first|(cases h;rfl)|cases h
theorem r4 {o:Oper} {st:AS} {t:TypeId} {x:Operand} {lo hi mx:Option Operand} (ho:o.op = .slice t x lo hi mx) {s n:Nat} {cs:List PV} (hx:ev st x = .p (.data s n cs)) (hk:(ae P t).kind = .slice)
 (hs:bz P (ae P t).elem=s) (hs1:1≤s) {l h:Int} (hb:wj st lo hi mx n l h) (h0:0≤l) (h1:l≤h) (h2:h≤n) :
 OpOk P o st (.p (.data s (h.toNat-l.toNat) ((cs.drop (l.toNat*s)).take ((h.toNat-l.toNat)*s)))) [] [] st.nx :=
 aT fun ρ F a w hin=>by
  obtain⟨hx1,hin'⟩:=gY ho
  have hr:=hin x hx1
  rw [hx] at hr
  have hu:=bR hk
  obtain⟨d,i,hd,hi',hz⟩:=bB (P:=P) (t:=(ae P t).elem) (by omega)
  have hex:∀A cap,n≤cap→a.eval x = .slice A n cap→∃m,h.toNat≤m∧m≤cap∧(execOp a.eval o).run P w = .ok (.value (.slice (if m=l.toNat then A else A.map (·.add (l.toNat*s))) (h.toNat-l.toNat) (m-l.toNat))) w:=by
   intro A cap hcap hv
   obtain⟨m,hm1,hm2,hrun⟩:=jd (P:=P) hb (fun y hy=>hin y (hin' y hy)) h0 h1 h2 hcap true
   refine⟨m,hm1,hm2,?_⟩
   simp only [execOp,ho,hv,Instr.sliceAt,run_underlying hu,Sem.run_bind,Result.andThen_ok,Instr.slice,hrun,sizeOf,typeInfo,run_program,hi',Sem.run_pure,hz,hs]
  have htop:n=h.toNat-l.toNat+(n-(h.toNat-l.toNat)):=by omega
  rcases hr.dataInv with ⟨rfl,rfl,A,cap,hv⟩|⟨b,off,cap,f,hv,hl,hcap,hF,hc,h1c,hrc⟩
  ·obtain⟨m,hm1,hm2,hrun⟩:=hex A cap (Nat.zero_le _) hv
   refine⟨_,hrun,?_⟩
   have e1:h.toNat-l.toNat=0:=by omega
   simp only [e1,List.drop_nil,List.take_nil]
   exact .p _ _ (.nil _ _ _)
  ·obtain⟨m,hm1,hm2,hrun⟩:=hex _ cap hcap hv
   refine⟨_,hrun,?_⟩
   by_cases he:h.toNat-l.toNat=0
   ·rw [he]
    simp only [Nat.zero_mul,List.take_zero]
    exact .p _ _ (.nil _ _ _)
   ·rw [if_neg (by omega)]
    simp only [Option.map_some,cE]
    have hlen:((cs.drop (l.toNat*s)).take ((h.toNat-l.toNat)*s)).length=(h.toNat-l.toNat)*s:=by
     rw [List.length_take,List.length_drop,hl,←Nat.sub_mul]
     exact Nat.min_eq_left (Nat.mul_le_mul_right _ (by omega))
    have hle:l.toNat*s+(h.toNat-l.toNat)*s≤cs.length:=by rw [hl,←Nat.add_mul];exact Nat.mul_le_mul_right _ (by omega)
    refine .p _ _ (.data s _ _ b _ _ (fun j=>f (l.toNat*s+j)) hlen (by omega) hF (fun j hj=>?_) (fun j hj=>?_) (fun j c hj=>?_))
    ·rw [hlen] at hj;rw [Nat.add_assoc];exact hc _ (by omega)
    ·rw [hlen] at hj;exact h1c _ (by omega)
    ·rw [List.getElem?_take] at hj
     split at hj
     ·exact hrc _ _ (by simpa using hj)
     ·cases hj
theorem wk {o:Oper} {st:AS} {t:TypeId} {x:Operand} {lo hi mx:Option Operand} (ho:o.op = .slice t x lo hi mx) {id off n s:Nat} (hx:ev st x = .sl id off n s) (hk:(ae P t).kind = .slice)
 (hs:bz P (ae P t).elem=s) (hs1:1≤s) {l h:Int} (hb:wj st lo hi mx n l h) (h0:0≤l) (h1:l≤h) (h2:h≤n) :
 OpOk P o st (.sl id (off+l.toNat*s) (h.toNat-l.toNat) s) [] [] st.nx :=
 aT fun ρ F a w hin=>by
  obtain⟨hx1,hin'⟩:=gY ho
  have hr:=hin x hx1
  rw [hx] at hr
  have hu:=bR hk
  obtain⟨d,i,hd,hi',hz⟩:=bB (P:=P) (t:=(ae P t).elem) (by omega)
  have hex:∀A cap,n≤cap→a.eval x = .slice A n cap→∃m,h.toNat≤m∧m≤cap∧(execOp a.eval o).run P w = .ok (.value (.slice (if m=l.toNat then A else A.map (·.add (l.toNat*s))) (h.toNat-l.toNat) (m-l.toNat))) w:=by
   intro A cap hcap hv
   obtain⟨m,hm1,hm2,hrun⟩:=jd (P:=P) hb (fun y hy=>hin y (hin' y hy)) h0 h1 h2 hcap true
   refine⟨m,hm1,hm2,?_⟩
   simp only [execOp,ho,hv,Instr.sliceAt,run_underlying hu,Sem.run_bind,Result.andThen_ok,Instr.slice,hrun,sizeOf,typeInfo,run_program,hi',Sem.run_pure,hz,hs]
  rcases hr.slInv with ⟨rfl,A,hv⟩|⟨b,cap,hb',hv,hcap,hc⟩
  ·obtain⟨m,hm1,hm2,hrun⟩:=hex A 0 (Nat.le_refl _) hv
   refine⟨_,hrun,?_⟩
   rw [show h.toNat-l.toNat=0 by omega,show m-l.toNat=0 by omega]
   exact .slz _ _ _ _
  ·obtain⟨m,hm1,hm2,hrun⟩:=hex _ cap hcap hv
   refine⟨_,hrun,?_⟩
   by_cases hml:m=l.toNat
   ·rw [if_pos hml,show h.toNat-l.toNat=0 by omega,show m-l.toNat=0 by omega]
    exact .slz _ _ _ _
   ·rw [if_neg hml]
    simp only [Option.map_some,cE]
    refine .sl _ _ _ _ b _ hb' (by omega) ?_
    obtain⟨arr,t',fr,ha,hn⟩:=hc
    refine⟨arr,t',fr,ha,Nat.le_trans ?_ hn⟩
    have:l.toNat*s+(m-l.toNat)*s≤cap*s:=by rw [← Nat.add_mul];exact Nat.mul_le_mul_right _ (by omega)
    omega
theorem tV {o:Oper} {st:AS} {t:TypeId} {x:Operand} {lo hi mx:Option Operand} (ho:o.op = .slice t x lo hi mx) {id off:Nat} (hx:ev st x = .ptr id off) (hk:(ae P t).kind = .array)
 (hs1:1≤bz P (ae P t).elem) {l h:Int} (hb:wj st lo hi mx (ae P t).len l h) (h0:0≤l) (h1:l≤h) (h2:h≤(ae P t).len)
 {k:Blk} (hk':hget st.hp id=some k) (hfit:off+(ae P t).len*bz P (ae P t).elem≤k.cs.length) (hpos:1≤(ae P t).len) :
 OpOk P o st (.sl id (off+l.toNat*bz P (ae P t).elem) (h.toNat-l.toNat) (bz P (ae P t).elem)) [id] [] st.nx where
 tri ρ F a w hpre hin K Q hK:=by
  obtain⟨hx1,hin'⟩:=gY ho
  have hr:=hin x hx1
  rw [hx] at hr
  obtain⟨b,hb',hv⟩:=hr.ptrInv
  have hu:=je hk
  obtain⟨d,i,hd,hi',hz⟩:=bB (P:=P) (t:=(ae P t).elem) hs1
  obtain⟨m,hm1,hm2,hrun⟩:=jd (P:=P) (cap:=(ae P t).len) hb (fun y hy=>hin y (hin' y hy)) h0 h1 h2 (Nat.le_refl _) false
  have hrs:restr [id] (hget st.hp) id=some k:=by simp [restr,hk']
  rcases hpre.hp.ok id k hrs with ⟨_,h0'⟩|⟨b',hb'',hblk⟩
  ·rw [h0'] at hb';cases hb'
  rw [hb'] at hb'';cases hb''
  unfold Oper.wp
  have hex:(execOp a.eval o).run P w = .ok (.value (.slice (some (if m=l.toNat then ⟨b,off,none⟩ else ⟨b,off+l.toNat*bz P (ae P t).elem,none⟩)) (h.toNat-l.toNat) (m-l.toNat))) w:=by
   simp only [execOp,ho,hv,Instr.sliceAt,run_underlying hu,Sem.run_bind,Result.andThen_ok,Instr.sureAddr,hrun,sizeOf,typeInfo,run_program,hi',Sem.run_pure,hz,cE]
  rw [hex]
  refine hK _ ρ F w ⟨fun _ _ h=>h,fun i h1 h2=>absurd h1 h2,fun i b h1 h2=>(by rw [h1] at h2;cases h2),?_,?_,hpre.fok,Chg.refl _ _ _⟩
  ·by_cases hml:m=l.toNat
   ·rw [if_pos hml,show h.toNat-l.toNat=0 by omega,show m-l.toNat=0 by omega]
    exact .slz _ _ _ _
   ·rw [if_neg hml]
    have hpos:1≤k.cs.length:=by
     have h1m:1*bz P (ae P t).elem≤(ae P t).len*bz P (ae P t).elem:=Nat.mul_le_mul_right _ (by omega)
     omega
    obtain⟨arr,fr,ha,hfr,hlen,hc⟩:=hblk.is (.inl hpos)
    refine .sl _ _ _ _ b _ hb' (by omega) ⟨arr,_,_,ha,?_⟩
    have:l.toNat*bz P (ae P t).elem+(m-l.toNat)*bz P (ae P t).elem≤(ae P t).len*bz P (ae P t).elem:=by rw [← Nat.add_mul];exact Nat.mul_le_mul_right _ (by omega)
    omega
  ·have:restr ([id]++keys []) (updH [] (hget st.hp))=restr [id] (hget st.hp):=by funext i;simp [restr,keys,updH]
   rw [this]
   exact hpre.hp
 le:=Nat.le_refl _
 keysOk i hi:=by simp [keys] at hi
 live i hi:=by simp at hi;subst hi;rw [hk'];simp
end Go.Abs

/- The machine once more: it ends and draws by itself; freezing of one block. Own work; no statement of the seat is proved here. -/
import Derived.Test.YtebndjnkmcahaaaGreatDoorAbsS
namespace Go.Abs
set_option linter.unusedSimpArgs false
set_option linter.unusedVariables false
open Go Go.RowKit
variable {P : Program}
mutual
def isQ:AV→Prop
 | .p _=>True
 | .iface _ a=>isQ a
 | .agg cs=>i5 cs
 | .ptr _ _=>False
 | .sl _ _ _ _=>False
 | .cp _=>False
 | .tup _=>False
 | .fn _ _ _=>False
 | .mp _=>False
 | .any=>False
def i5:List AV→Prop
 | []=>True
 | c::cs=>isQ c∧i5 cs
end
mutual
def unQ:AV→PV
 | .p x=>x
 | .iface t a => .iface t (unQ a)
 | .agg cs => .agg (i6 cs)
 | .ptr _ _ => .v undef
 | .sl _ _ _ _ => .v undef
 | .cp _ => .v undef
 | .tup _ => .v undef
 | .fn _ _ _ => .v undef
 | .mp _ => .v undef
 | .any => .v undef
def i6:List AV→List PV
 | []=>[]
 | c::cs=>unQ c::i6 cs
end
mutual
theorem q6 (h:ba) (S:List Nat):∀(a:AV),isQ a→dB h S (unQ a) a
 | .p x,_=>by simp only [unQ];exact dM _ _ _
 | .iface t a,ha=>by simp only [unQ,dB];exact⟨trivial,q6 h S a ha⟩
 | .agg cs,ha=>by simp only [unQ,dB];exact gf h S cs ha
 | .ptr _ _,ha=>by simp [isQ] at ha
 | .sl _ _ _ _,ha=>by simp [isQ] at ha
 | .cp _,ha=>by simp [isQ] at ha
 | .tup _,ha=>by simp [isQ] at ha
 | .fn _ _ _,ha=>by simp [isQ] at ha
 | .mp _,ha=>by simp [isQ] at ha
 | .any,ha=>by simp [isQ] at ha
theorem gf (h:ba) (S:List Nat):∀(as:List AV),i5 as→cF h S (i6 as) as
 | [],_=>by simp [i6,cF]
 | a::as,ha=>by simp only [i6,cF];exact⟨q6 h S a ha.1,gf h S as ha.2⟩
end
theorem oY:∀(as:List AV),(i6 as).length=as.length
 | []=>rfl
 | _::as=>by simp [i6,oY as]
theorem mu:∀{as:List AV},i5 as→∀(n:Nat),i5 (as.drop n)
 | [],h,n=>by simpa using h
 | _::as,h,0=>h
 | _::as,h,n+1=>by simpa using mu h.2 n
theorem q7:∀{as:List AV},i5 as→∀(n:Nat),i5 (as.take n)
 | [],h,n=>by simpa using h
 | _::as,h,0=>trivial
 | _::as,h,n+1=>⟨h.1,q7 h.2 n⟩
theorem bI:∀(cs:List PV),i5 (cs.map .p)
 | []=>trivial
 | _::cs=>⟨trivial,bI cs⟩
theorem bY:∀(cs:List PV),i6 (cs.map .p)=cs
 | []=>rfl
 | c::cs=>by simp [i6,unQ,bY cs]
def fzB (n off s:Nat):Option Blk→AV
 | some b => .p (.data s n (i6 ((b.cs.drop off).take (n*s))))
 | none => .any
def fzS (n off s:Nat):Option Blk→Prop
 | some b=>off+n*s≤b.cs.length∧i5 ((b.cs.drop off).take (n*s))
 | none=>False
mutual
def fzA (h:List (Nat×Option Blk)):AV→AV
 | .sl id off n s=>fzB n off s (hget h id)
 | .agg cs => .agg (fzL h cs)
 | .tup cs => .tup (fzL h cs)
 | .iface t x => .iface t (fzA h x)
 | .p x => .p x
 | .cp cs => .cp cs
 | .ptr _ _ => .any
 | .fn _ _ _ => .any
 | .mp _ => .any
 | .any => .any
def fzL (h:List (Nat×Option Blk)):List AV→List AV
 | []=>[]
 | c::cs=>fzA h c::fzL h cs
end
mutual
def fzO (h:List (Nat×Option Blk)):AV→Prop
 | .sl id off n s=>fzS n off s (hget h id)
 | .agg cs=>i7 h cs
 | .tup cs=>i7 h cs
 | .iface _ x=>fzO h x
 | .p _=>True
 | .cp _=>True
 | .ptr _ _=>True
 | .fn _ _ _=>True
 | .mp _=>True
 | .any=>True
def i7 (h:List (Nat×Option Blk)):List AV→Prop
 | []=>True
 | c::cs=>fzO h c∧i7 h cs
end
mutual
def fzI:AV→List Nat
 | .sl id _ _ _=>[id]
 | .agg cs=>cG cs
 | .tup cs=>cG cs
 | .iface _ x=>fzI x
 | _=>[]
def cG:List AV→List Nat
 | []=>[]
 | c::cs=>fzI c++cG cs
end
mutual
theorem lB (h:List (Nat×Option Blk)) (S:List Nat) (σ:Nat→Nat):∀(v:AV),(∀i,i∈fzI v→i∈S)→fzO h v→aH (hget h) S σ (fzA h v) v
 | .sl id off n s,hS,ho=>by
  simp only [fzO] at ho
  simp only [fzA]
  cases hb:hget h id with
  | none=>rw [hb] at ho;exact ho.elim
  | some b =>
   rw [hb] at ho
   simp only [fzB,aH,dB]
   exact⟨hS id (by simp [fzI]),trivial,trivial,b,hb,ho.1,gf _ _ _ ho.2⟩
 | .agg cs,hS,ho=>by simp only [fzA,aH];exact jp h S σ cs hS ho
 | .tup cs,hS,ho=>by simp only [fzA,aH];exact jp h S σ cs hS ho
 | .iface t x,hS,ho=>by simp only [fzA,aH];exact⟨trivial,lB h S σ x hS ho⟩
 | .p x,_,_=>by simp only [fzA,aH];exact dM _ _ _
 | .cp cs,_,_=>by simp only [fzA,aH]
 | .ptr _ _,_,_=>by simp only [fzA,aH]
 | .fn _ _ _,_,_=>by simp only [fzA,aH]
 | .mp _,_,_=>by simp only [fzA,aH]
 | .any,_,_=>by simp only [fzA,aH]
theorem jp (h:List (Nat×Option Blk)) (S:List Nat) (σ:Nat→Nat):∀(vs:List AV),(∀i,i∈cG vs→i∈S)→i7 h vs→ai (hget h) S σ (fzL h vs) vs
 | [],_,_=>by simp [fzL,ai]
 | c::cs,hS,ho=>by
  simp only [fzL,ai]
  exact⟨lB h S σ c (fun i hi=>hS i (by simp [cG,hi])) ho.1,jp h S σ cs (fun i hi=>hS i (by simp [cG,hi])) ho.2⟩
end
mutual
theorem oZ (h:List (Nat×Option Blk)):∀(v:AV),fzO h v→∀i,i∈fzI v→(hget h i).isSome=true
 | .sl id off n s,ho,i,hi=>by
  simp only [fzI,List.mem_singleton] at hi
  subst hi
  simp only [fzO] at ho
  cases hb:hget h i with
  | none=>rw [hb] at ho;exact ho.elim
  | some b=>rfl
 | .agg cs,ho,i,hi=>hC h cs ho i (by simpa [fzI] using hi)
 | .tup cs,ho,i,hi=>hC h cs ho i (by simpa [fzI] using hi)
 | .iface _ x,ho,i,hi=>oZ h x ho i (by simpa [fzI] using hi)
 | .p _,_,i,hi=>by simp [fzI] at hi
 | .cp _,_,i,hi=>by simp [fzI] at hi
 | .ptr _ _,_,i,hi=>by simp [fzI] at hi
 | .fn _ _ _,_,i,hi=>by simp [fzI] at hi
 | .mp _,_,i,hi=>by simp [fzI] at hi
 | .any,_,i,hi=>by simp [fzI] at hi
theorem hC (h:List (Nat×Option Blk)):∀(vs:List AV),i7 h vs→∀i,i∈cG vs→(hget h i).isSome=true
 | [],_,i,hi=>by simp [cG] at hi
 | c::cs,ho,i,hi=>by
  simp only [cG,List.mem_append] at hi
  rcases hi with hi|hi
  ·exact oZ h c ho.1 i hi
  ·exact hC h cs ho.2 i hi
end
def eqP:PV→PV→Prop
 | .data _ n cs,.v (.slice none 0 0)=>n=0∧cs=[]
 | x,y=>y=x
mutual
def eqN:AV→AV→Prop
 | .p x,.p y=>eqP x y
 | .agg l,.agg l'=>fM l l'
 | .tup l,.tup l'=>fM l l'
 | v,a=>a=v
def fM:List AV→List AV→Prop
 | [],[]=>True
 | v::l,a::l'=>eqN v a∧fM l l'
 | _,_=>False
end
theorem cq (x:PV):eqP x x:=by
 cases x<;>simp [eqP]
mutual
theorem uz:∀(v:AV),eqN v v
 | .p x=>by simp only [eqN];exact cq x
 | .agg l=>by simp only [eqN];exact cD l
 | .tup l=>by simp only [eqN];exact cD l
 | .ptr _ _=>by simp [eqN]
 | .sl _ _ _ _=>by simp [eqN]
 | .cp _=>by simp [eqN]
 | .iface _ _=>by simp [eqN]
 | .fn _ _ _=>by simp [eqN]
 | .mp _=>by simp [eqN]
 | .any=>by simp [eqN]
theorem cD:∀(l:List AV),fM l l
 | []=>by simp [fM]
 | v::l=>by simp only [fM];exact⟨uz v,cD l⟩
end
theorem sD {x y:PV} (h:eqP x y):y=x∨∃s,x = .data s 0 []∧y = .v (.slice none 0 0):=by
 unfold eqP at h
 split at h
 ·obtain⟨rfl,rfl⟩:=h;exact .inr ⟨_,rfl,rfl⟩
 ·exact .inl h
theorem Bw {v:AV} {y:PV} (h:eqN v (.p y)):∃x,v = .p x∧eqP x y:=by
 cases v<;>simp only [eqN] at h<;>first|exact⟨_,rfl,h⟩|cases h
mutual
theorem uA (h:List (Nat×Option Blk)) (S:List Nat) (σ:Nat→Nat):∀(a v:AV),eqN v (fzA h a)→(∀i,i∈fzI a→i∈S)→fzO h a→aH (hget h) S σ v a
 | .p y,v,he,_,_=>by
  simp only [fzA] at he
  obtain⟨x,rfl,hx⟩:=Bw he
  simp only [aH]
  rcases sD hx with rfl|⟨s,rfl,rfl⟩
  ·exact dM _ _ _
  ·simp only [dB];exact .inr ⟨trivial,trivial,trivial⟩
 | .sl id off n s,v,he,hS,ho=>by
  have hv:=lB h S σ (.sl id off n s) hS ho
  cases hb:hget h id with
  | none=>simp only [fzO,hb,fzS] at ho
  | some b =>
   simp only [fzA,hb,fzB] at he hv
   obtain⟨x,rfl,hx⟩:=Bw he
   rcases sD hx with rfl|⟨s,rfl,h2⟩
   ·exact hv
   ·cases h2
 | .agg cs,v,he,hS,ho=>by
  simp only [fzA] at he
  cases v<;>simp only [eqN] at he<;>first|(cases he;done)|skip
  simp only [aH]
  exact mv h S σ cs _ he hS ho
 | .tup cs,v,he,hS,ho=>by
  simp only [fzA] at he
  cases v<;>simp only [eqN] at he<;>first|(cases he;done)|skip
  simp only [aH]
  exact mv h S σ cs _ he hS ho
 | .iface t x,v,he,hS,ho=>by
  have hv:=lB h S σ (.iface t x) hS ho
  simp only [fzA] at he hv
  cases v<;>simp only [eqN] at he<;>first|(cases he;done)|skip
  cases he;exact hv
 | .cp cs,v,he,_,_=>by
  simp only [fzA] at he
  cases v<;>simp only [eqN] at he<;>first|(cases he;done)|skip
  cases he;simp only [aH]
 | .ptr _ _,v,he,_,_=>by
  simp only [fzA] at he
  cases v<;>simp only [eqN] at he<;>first|(cases he;done)|simp only [aH]
 | .fn _ _ _,v,he,_,_=>by
  simp only [fzA] at he
  cases v<;>simp only [eqN] at he<;>first|(cases he;done)|simp only [aH]
 | .mp _,v,he,_,_=>by
  simp only [fzA] at he
  cases v<;>simp only [eqN] at he<;>first|(cases he;done)|simp only [aH]
 | .any,v,he,_,_=>by
  simp only [fzA] at he
  cases v<;>simp only [eqN] at he<;>first|(cases he;done)|simp only [aH]
theorem mv (h:List (Nat×Option Blk)) (S:List Nat) (σ:Nat→Nat):∀(cs vs:List AV),fM vs (fzL h cs)→(∀i,i∈cG cs→i∈S)→i7 h cs→ai (hget h) S σ vs cs
 | [],vs,he,_,_=>by
  cases vs with
  | nil=>simp only [ai]
  | cons v l=>simp [fzL,fM] at he
 | c::cs,vs,he,hS,ho=>by
  cases vs with
  | nil=>simp [fzL,fM] at he
  | cons v l =>
   simp only [fzL,fM] at he
   simp only [ai]
   exact⟨uA h S σ c v he.1 (fun i hi=>hS i (by simp [cG,hi])) ho.1,mv h S σ cs l he.2 (fun i hi=>hS i (by simp [cG,hi])) ho.2⟩
end
def I0 (h:List (Nat×Option Blk)) (v:AV):Option (List AV)→Prop
 | some vs=>fzO h (retV vs)∧eqN v (fzA h (retV vs))
 | none=>False
def EndF (P:Program) (rs:List ResultVar) (v:AV) (st:AS):Prop:=I0 st.hp v (gI P st rs)
theorem lC {hp:List (Nat×Option Blk)}:∀{S:List Nat},(∀i,i∈S→(hget hp i).isSome=true)→lz hp S
 | [],_=>trivial
 | k::r,h=>⟨h k (by simp),lC fun i hi=>h i (by simp [hi])⟩
theorem EndF.endP {rs:List ResultVar} {v:AV} {st:AS} (h:EndF P rs v st):IZ P rs st v:=by
 unfold EndF at h
 cases hr:gI P st rs with
 | none=>rw [hr] at h;exact h.elim
 | some vs =>
  rw [hr] at h
  obtain⟨h1,h2⟩:=h
  refine⟨fzI (retV vs),lC (oZ _ _ h1),vs,hr,?_⟩
  exact uA _ _ _ _ _ h2 (fun i hi=>hi) h1
def DK (c:Ctx) (ks:List Nat) (rec:List It→AS→Prop) (all:Array Oper) (k:List It):List Oper→List FP→AS→Prop
 | [],acc,⟨n,sl,hp,nx⟩=>Bs all acc=true∧rec k (prune ks ⟨n,sl,hp,nx⟩)
 | o::os,acc,⟨n,sl,hp,nx⟩=>gD c (DK c ks rec all k os) o all os acc k ⟨n,sl,hp,nx⟩ o.guard
def Eg:List Nat→Nat→Bool
 | [],_=>false
 | k::r,id=>match Nat.blt k 1000000 with|true=>false|false=>match Nat.beq k (1000000+id) with|true=>true|false=>Eg r id
def zq (c:Ctx) (x:Code) (k:List It) (st:AS) (h:Prop):Bool→Prop
 | true=>SAW c (.code x::k) st
 | false=>h
def XW (c:Ctx) (E:AS→Prop) (ks:List Nat):Nat→List It→AS→Prop
 | 0,k,st=>SAW c k st
 | n+1,.code (.seq a b)::k,st=>XW c E ks n (.code a :: .code b::k) st
 | n+1,.code .skip::k,st=>XW c E ks n k st
 | n+1,.code (.block id x)::k,st=>XW c E ks n (.code x :: .blk id::k) st
 | n+1,.blk _::k,st=>XW c E ks n k st
 | n+1,.code (.exit id)::k,st=>Ba (XW c E ks n) st (jn id k)
 | n+1,.code (.cond x y z)::k,st=>Bb (XW c E ks n) y z k st (ev st x)
 | n+1,.code (.region id ops false)::k,st=>zq c (.region id ops false) k st (XW c E ks n (.ops ops ops.toList::k) st) (Eg ks id)
 | n+1,.code (.region id ops true)::k,st=>zq c (.region id ops true) k st (DK c ks (XW c E ks n) ops k ops.toList [] st) (Eg ks id)
 | n+1,.ops _ []::k,st=>XW c E ks n k (prune ks st)
 | n+1,.ops all (o::os)::k,st=>gA c (XW c E ks n) o all os k st o.guard
 | _+1,.inv J::_,st=>J st
 | _+1,.code .ret::_,st=>E st
 | _+1,[],st=>E st
 | _+1,k,st=>SAW c k st
structure XOk (c:Ctx) (E:AS→Prop):Prop where
 mix:c.P.follows .mixedOrders=true
 fin:∀k st,E st→SAW c (.code .ret::k) st∧SAW c [] st
theorem o0 (c:Ctx) (ks:List Nat) (rec:List It→AS→Prop) (all:Array Oper) (k:List It) (hrec:∀st,rec k st→SAW c k st):∀(l:List Oper) (acc:List FP) (st:AS),DK c ks rec all k l acc st→SD c all l acc k st.fs:=by
 intro l
 induction l with
 | nil =>
  intro acc st h
  obtain⟨n,sl,hp,nx⟩:=st
  exact⟨[],AS.fs ⟨n,sl,hp,nx⟩,rfl,fun i=>rfl,by simpa using h.1,fun ρ F a w hc=>hrec _ h.2 ρ F a w (hc.ofF.prune ks)⟩
 | cons o os ih =>
  intro acc st h
  have h:gD c (DK c ks rec all k os) o all os acc k st o.guard:=by cases st;exact h
  cases hg:o.guard with
  | none =>
   rw [hg] at h
   exact oX ih (by simp [wantF,hg]) h
  | some p =>
   obtain⟨j,want⟩:=p
   rw [hg] at h
   simp only [gD] at h
   cases hd:qH all.toList j with
   | none=>rw [hd] at h;exact h.elim
   | some d =>
    rw [hd] at h
    simp only [sC] at h
    have hd':(all[j]?).bind (·.dst)=some d:=by rw [oL] at hd;simpa using hd
    unfold wE at h
    split at h
    ·rename_i b hv
     split at h
     ·rename_i hb
      subst hb
      rw [← nU hv]
      refine oX ih ?_ h
      rw [nU hv]
      unfold wantF
      rw [hg]
      exact⟨d,b,hd',hv,by simp⟩
     ·rename_i hb
      have hbn:b = !want:=by cases b<;>cases want<;>simp_all
      rw [hbn] at hv
      rw [← nU hv]
      refine SD.skip ?_ (ih _ _ h)
      rw [nU hv]
      unfold wantF
      rw [hg]
      exact⟨d,!want,hd',hv,by cases want<;>simp⟩
    ·exact h.elim
theorem dN {c:Ctx} {E:AS→Prop} (hE:XOk c E) (ks:List Nat):∀(n:Nat) (k:List It) (st:AS),XW c E ks n k st→SAW c k st:=by
 intro n
 induction n with
 | zero=>intro k st h;exact h
 | succ n ih =>
  intro k st h
  unfold XW at h
  split at h
  ·cases ‹n+1=0›
  ·rename_i hh;cases hh
   intro ρ F a w hc
   have:=ih _ _ h ρ F a w hc
   refine wp_seq ?_
   rw [Ea]
   exact this
  ·rename_i hh;cases hh
   intro ρ F a w hc
   exact wp_skip (ih _ _ h ρ F a w hc)
  ·rename_i hh;cases hh
   intro ρ F a w hc
   refine wp_block ?_
   rw [Bc]
   exact ih _ _ h ρ F a w hc
  ·rename_i hh;cases hh
   intro ρ F a w hc
   exact ih _ _ h ρ F a w hc
  ·rename_i hh;cases hh
   intro ρ F a w hc
   unfold Ba at h
   split at h
   ·rename_i hd
    exact wp_exit (D9 hd (ih _ _ h ρ F a w hc))
   ·exact h.elim
  ·rename_i hh;cases hh
   intro ρ F a w hc
   unfold Bb at h
   split at h
   ·rename_i b hx
    refine wp_cond (hx ▸ hc.ev _:Rd ρ F w (.p (.v (.bool b))) _).pv ?_
    split at h
    ·rename_i hb;subst hb;exact ih _ _ h ρ F a w hc
    ·rename_i hb
     have:b=false:=by simpa using hb
     subst this
     exact ih _ _ h ρ F a w hc
   ·exact h.elim
  ·rename_i hh;cases hh
   unfold zq at h
   split at h
   ·exact h
   ·intro ρ F a w hc
    exact wp_region_list (ih _ _ h ρ F a w hc)
  ·rename_i hh;cases hh
   unfold zq at h
   split at h
   ·exact h
   ·exact zo hE.mix (o0 c ks _ _ _ (fun st h=>ih _ st h) _ _ _ h)
  ·rename_i hh;cases hh
   intro ρ F a w hc
   exact wpList_nil (ih _ _ h ρ F a w (hc.prune ks))
  ·rename_i hh;cases hh
   exact Bd ih h
  ·rename_i hh;cases hh
   intro ρ F a w hc
   exact⟨ρ,F,_,h,hc⟩
  ·rename_i hh;cases hh
   exact (hE.fin _ _ h).1
  ·exact (hE.fin [] _ h).2
  ·exact h
theorem nV {c:Ctx} {E:AS→Prop} (hE:XOk c E) {ks:List Nat} {n:Nat} {f:FuncId} {vs:List AV} {o:Oper} {all:Array Oper} {os:List Oper} {k:List It} {st:AS} {v:AV} (hf:FPure c.P f vs v) (h:XW c E ks n (.ops all os::k) (put st o.dst v)) :
 jm c f vs o all os k st:=by
 intro hc ρ F a w hcc
 have hok:=xQ (nx:=st.nx) hc (hf (hget st.hp)) (Nat.le_refl _) (fun i hi=>by simp [keys] at hi) (fun i hi=>by cases hi)
 exact nQ hok hcc _ _ (fun ρ' F' a' w' hc'=>dN hE ks n _ _ h ρ' F' a' w' hc')
mutual
theorem Gs {ρ:am} {F:aA} {w:World}:∀{v a:AV} {u:Value},eqN v a→Rd ρ F w a u→Rd ρ F w v u
 | v,.p y,u,he,hr=>by
  obtain⟨x,rfl,hx⟩:=Bw he
  rcases sD hx with rfl|⟨s,rfl,rfl⟩
  ·exact hr
  ·cases hr with
   | p _ _ h=>cases h with
    | v _ h1=>exact .p _ _ (.nil _ _ _)
 | v,.agg l,u,he,hr=>by
  cases v<;>simp only [eqN] at he<;>first|(cases he;done)|skip
  cases hr with
  | agg _ us hl hr'=>exact .agg _ us (by rw [hl,lD he]) (nW he hr')
 | v,.tup l,u,he,hr=>by
  cases v<;>simp only [eqN] at he<;>first|(cases he;done)|skip
  cases hr with
  | tup _ us hl hr'=>exact .tup _ us (by rw [hl,lD he]) (nW he hr')
 | v,.ptr _ _,u,he,hr=>by cases v<;>simp only [eqN] at he<;>first|(cases he;done)|(cases he;exact hr)
 | v,.sl _ _ _ _,u,he,hr=>by cases v<;>simp only [eqN] at he<;>first|(cases he;done)|(cases he;exact hr)
 | v,.cp _,u,he,hr=>by cases v<;>simp only [eqN] at he<;>first|(cases he;done)|(cases he;exact hr)
 | v,.iface _ _,u,he,hr=>by cases v<;>simp only [eqN] at he<;>first|(cases he;done)|(cases he;exact hr)
 | v,.fn _ _ _,u,he,hr=>by cases v<;>simp only [eqN] at he<;>first|(cases he;done)|(cases he;exact hr)
 | v,.mp _,u,he,hr=>by cases v<;>simp only [eqN] at he<;>first|(cases he;done)|(cases he;exact hr)
 | v,.any,u,he,hr=>by cases v<;>simp only [eqN] at he<;>first|(cases he;done)|(cases he;exact hr)
theorem nW {ρ:am} {F:aA} {w:World}:∀{vs as:List AV} {f:Nat→Value},fM vs as→(∀j c,as[j]?=some c→Rd ρ F w c (f j))→∀j c,vs[j]?=some c→Rd ρ F w c (f j)
 | [],_,_,_,_,j,c,hj=>by simp at hj
 | v::vs,[],_,he,_,_,_,_=>by simp [fM] at he
 | v::vs,a::as,f,he,hr,0,c,hj=>by
  simp only [fM] at he
  simp at hj;subst hj
  exact Gs he.1 (hr 0 a rfl)
 | v::vs,a::as,f,he,hr,j+1,c,hj=>by
  simp only [fM] at he
  exact nW (f:=fun j=>f (j+1)) he.2 (fun j c hj=>hr (j+1) c (by simpa using hj)) j c (by simpa using hj)
theorem lD:∀{vs as:List AV},fM vs as→as.length=vs.length
 | [],[],_=>rfl
 | [],a::as,he=>by simp [fM] at he
 | v::vs,[],he=>by simp [fM] at he
 | v::vs,a::as,he=>by simp only [fM] at he;simp [lD he.2]
end
theorem FPure.nil {f:FuncId} {vs vs':List AV} {v:AV} (h:FPure P f vs v) (he:fM vs vs'):FPure P f vs' v:=by
 intro hh
 obtain⟨h2⟩:=h hh
 exact⟨fun ρ F us w hpre hz hr=>h2 ρ F us w hpre (by rw [hz,lD he]) (nW he hr)⟩
theorem nX {c:Ctx} {E:AS→Prop} (hE:XOk c E) {ks:List Nat} {n:Nat} {f:FuncId} {vs:List AV} {o:Oper} {all:Array Oper} {os:List Oper} {acc:List FP} {k:List It} {st:AS} {v:AV} (hf:FPure c.P f vs v)
 (h:DK c ks (XW c E ks n) all k os (acc++[([],[])]) (put st o.dst v)):oW c f vs o all os acc k st:=by
 intro hc
 exact⟨v,[],[],st.nx,xQ hc (hf (hget st.hp)) (Nat.le_refl _) (fun i hi=>by simp [keys] at hi) (fun i hi=>by cases hi),fun i hi=>(by cases hi),o0 c ks _ all k (fun st h=>dN hE ks n _ st h) _ _ _ h⟩
theorem ck {c:Ctx} {E:AS→Prop} (hE:XOk c E) {ks:List Nat} {n:Nat} {f:FuncId} {vs vs0:List AV} {hp0:List (Nat×Option Blk)} {v0:AV} {u0:List (Nat×Option Blk)} {o:Oper} {all:Array Oper} {os:List Oper} {k:List It} {st:AS} (S:List Nat) (τ:Nat→Nat) (nx:Nat)
 (hf:Con c.P f vs0 hp0 v0 u0) (hk:jo st vs vs0 hp0 v0 u0 S τ nx) (h:XW c E ks n (.ops all os::k) (eff st o.dst (renA τ v0) (renU τ u0++dG S) nx)):jm c f vs o all os k st:=by
 intro hc ρ F a w hcc
 exact nQ (uy hc hf hk) hcc _ _ (fun ρ' F' a' w' hc'=>dN hE ks n _ _ h ρ' F' a' w' hc')
theorem mw {c:Ctx} {E:AS→Prop} (hE:XOk c E) {ks:List Nat} {n:Nat} {f:FuncId} {vs vs0:List AV} {hp0:List (Nat×Option Blk)} {v0:AV} {u0:List (Nat×Option Blk)} {o:Oper} {all:Array Oper} {os:List Oper} {acc:List FP} {k:List It} {st:AS} (S:List Nat) (τ:Nat→Nat) (nx:Nat)
 (hf:Con c.P f vs0 hp0 v0 u0) (hk:jo st vs vs0 hp0 v0 u0 S τ nx) (hlt:ct nx ((liveK hp0).map τ++S)=true)
 (h:DK c ks (XW c E ks n) all k os (acc++[((liveK hp0).map τ++S,keys (renU τ u0++dG S))]) (eff st o.dst (renA τ v0) (renU τ u0++dG S) nx)):oW c f vs o all os acc k st:=by
 intro hc
 exact⟨_,_,_,nx,uy hc hf hk,fun i hi=>dW hlt hi,o0 c ks _ all k (fun st h=>dN hE ks n _ st h) _ _ _ h⟩
mutual
theorem iH (h:ba) (S:List Nat) (τ:Nat→Nat):∀(v:AV),ax [] v→aH h S τ v v
 | .p x,_=>by simp only [aH];exact dM _ _ _
 | .ptr i _,hi=>by simp [ax] at hi
 | .sl i _ _ _,hi=>by simp [ax] at hi
 | .cp cs,_=>by simp only [aH]
 | .agg vs,hi=>by simp only [aH];exact fb h S τ vs hi
 | .tup vs,hi=>by simp only [aH];exact fb h S τ vs hi
 | .iface t x,hi=>by simp only [aH];exact⟨trivial,iH h S τ x hi⟩
 | .fn f xs ys,hi=>by simp only [aH];exact⟨trivial,fb h S τ xs hi.1,fb h S τ ys hi.2⟩
 | .mp _,hi=>by simp [ax] at hi
 | .any,_=>by simp only [aH]
theorem fb (h:ba) (S:List Nat) (τ:Nat→Nat):∀(vs:List AV),an [] vs→ai h S τ vs vs
 | [],_=>by simp only [ai]
 | v::vs,hi=>by simp only [ai];exact⟨iH h S τ v hi.1,fb h S τ vs hi.2⟩
end
def fD (a i:Nat):Nat:=a+i
theorem o1 {st:AS} {vs:List AV} {v0:AV} {u0:List (Nat×Option Blk)} {m:Nat} (ha:an [] vs) (nd:bQ ((keys u0).map (fD st.nx))=true) (hlt:ct m (keys u0)=true) (idv:ax (keys u0) v0) (idu:bS (keys u0) u0) :
 jo st vs vs [] v0 u0 [] (fD st.nx) (st.nx+m) :=
 ⟨fb _ _ _ vs ha,trivial,nd,trivial,by omega,fun i hi => .inr (by have:=dW hlt hi;unfold fD;omega),idv,idu,rfl⟩
theorem o4 {c:Ctx} {E:AS→Prop} (hE:XOk c E) {ks:List Nat} {n:Nat} {f:FuncId} {vs:List AV} {v0:AV} {u0:List (Nat×Option Blk)} {o:Oper} {all:Array Oper} {os:List Oper} {k:List It} {st:AS} (m:Nat)
 (hf:Con c.P f vs [] v0 u0) (nd:bQ ((keys u0).map (fD st.nx))=true) (hlt:ct m (keys u0)=true) (idv:ax (keys u0) v0) (idu:bS (keys u0) u0)
 (h:XW c E ks n (.ops all os::k) (eff st o.dst (renA (fD st.nx) v0) (renU (fD st.nx) u0) (st.nx+m))):jm c f vs o all os k st:=by
 refine ck hE (ks:=ks) (n:=n) [] (fD st.nx) (st.nx+m) hf (o1 hf.ids nd hlt idv idu) ?_
 simpa [dG] using h
theorem o5 {c:Ctx} {E:AS→Prop} (hE:XOk c E) {ks:List Nat} {n:Nat} {f:FuncId} {vs:List AV} {v0:AV} {u0:List (Nat×Option Blk)} {o:Oper} {all:Array Oper} {os:List Oper} {acc:List FP} {k:List It} {st:AS} (m:Nat)
 (hf:Con c.P f vs [] v0 u0) (nd:bQ ((keys u0).map (fD st.nx))=true) (hlt:ct m (keys u0)=true) (idv:ax (keys u0) v0) (idu:bS (keys u0) u0)
 (h:DK c ks (XW c E ks n) all k os (acc++[([],keys (renU (fD st.nx) u0))]) (eff st o.dst (renA (fD st.nx) v0) (renU (fD st.nx) u0) (st.nx+m))):oW c f vs o all os acc k st:=by
 refine mw hE (ks:=ks) (n:=n) [] (fD st.nx) (st.nx+m) hf (o1 hf.ids nd hlt idv idu) rfl ?_
 simpa [dG,liveK] using h
mutual
theorem xV (h:List (Nat×Option Blk)) (T:List Nat):∀(v:AV),ax T (fzA h v)
 | .p _=>by simp [fzA,ax]
 | .ptr _ _=>by simp [fzA,ax]
 | .sl id off n s=>by simp only [fzA];cases hget h id<;>simp [fzB,ax]
 | .cp _=>by simp [fzA,ax]
 | .agg vs=>by simp only [fzA,ax];exact jX h T vs
 | .tup vs=>by simp only [fzA,ax];exact jX h T vs
 | .iface _ x=>by simp only [fzA,ax];exact xV h T x
 | .fn _ _ _=>by simp [fzA,ax]
 | .mp _=>by simp [fzA,ax]
 | .any=>by simp [fzA,ax]
theorem jX (h:List (Nat×Option Blk)) (T:List Nat):∀(vs:List AV),an T (fzL h vs)
 | []=>by simp [fzL,an]
 | v::vs=>by simp only [fzL,an];exact⟨xV h T v,jX h T vs⟩
end
mutual
theorem lE:∀(v:AV),renA (fun i=>i) v=v
 | .p _=>by simp [renA]
 | .ptr _ _=>by simp [renA]
 | .sl _ _ _ _=>by simp [renA]
 | .cp _=>by simp [renA]
 | .agg vs=>by simp [renA,jY vs]
 | .tup vs=>by simp [renA,jY vs]
 | .iface _ x=>by simp [renA,lE x]
 | .fn _ xs ys=>by simp [renA,jY xs,jY ys]
 | .mp _=>by simp [renA]
 | .any=>by simp [renA]
theorem jY:∀(vs:List AV),eG (fun i=>i) vs=vs
 | []=>by simp [eG]
 | v::vs=>by simp [eG,lE v,jY vs]
end
theorem my {st:AS} {vs vs1:List AV} {v:AV} (e:fzL st.hp vs=vs1) (ho:i7 st.hp vs) (hlt:ct st.nx (cG vs)=true) (hv:ax [] v):jo st vs vs1 [] v [] (cG vs) (fun i=>i) st.nx :=
 ⟨by rw [← e];exact jp _ _ _ vs (fun i hi=>hi) ho,trivial,rfl,lC (hC _ _ ho),Nat.le_refl _,fun i hi=>(by cases hi),hv,trivial,hlt⟩
theorem dO {c:Ctx} {E:AS→Prop} (hE:XOk c E) {ks:List Nat} {n:Nat} {f:FuncId} {vs vs1:List AV} {o:Oper} {all:Array Oper} {os:List Oper} {k:List It} {st:AS} {v:AV} (e:fzL st.hp vs=vs1) (ho:i7 st.hp vs) (hlt:ct st.nx (cG vs)=true)
 (hf:FPure c.P f vs1 v) (hv:ax [] v) (h:XW c E ks n (.ops all os::k) (eff st o.dst v (dG (cG vs)) st.nx)):jm c f vs o all os k st:=by
 refine ck hE (ks:=ks) (n:=n) (cG vs) (fun i=>i) st.nx (hf.con (by rw [← e];exact jX _ _ _)) (my e ho hlt hv) ?_
 rw [lE]
 exact h
theorem dP {c:Ctx} {E:AS→Prop} (hE:XOk c E) {ks:List Nat} {n:Nat} {f:FuncId} {vs vs1:List AV} {o:Oper} {all:Array Oper} {os:List Oper} {acc:List FP} {k:List It} {st:AS} {v:AV} (e:fzL st.hp vs=vs1) (ho:i7 st.hp vs) (hlt:ct st.nx (cG vs)=true)
 (hf:FPure c.P f vs1 v) (hv:ax [] v) (h:DK c ks (XW c E ks n) all k os (acc++[(cG vs,cG vs)]) (eff st o.dst v (dG (cG vs)) st.nx)):oW c f vs o all os acc k st:=by
 refine mw hE (ks:=ks) (n:=n) (cG vs) (fun i=>i) st.nx (hf.con (by rw [← e];exact jX _ _ _)) (my e ho hlt hv) (by simpa [liveK] using hlt) ?_
 rw [lE]
 simpa [liveK,renU,lA] using h
theorem sE {f:FuncId} {fn:Func} {code:Code} {vs:List AV} {v:AV} {n:Nat} {rs:Array ResultVar} (hm:P.follows .mixedOrders=true) (hf:P.funcs[f]?=some fn) (hb:fn.body=some code) (hname:(fn.name=="runtime.NumGoroutine")=false) (hn:fn.ntmps=n) (hrs:fn.results=rs)
 (hlen:vs.length≤n) (hargs:an [] vs) (ks:List Nat)
 (haw:∀c:Ctx,c.P=P→(∀i,c.ρ0 i≠none→False)→XOk c (EndF P rs.toList v)→XW c (EndF P rs.toList v) ks 2000 [.code code] ⟨n,mq 0 vs,[],0⟩):FPure P f vs v:=by
 refine Bj hf hb hname hn hlen hargs ?_
 intro c hP h0 hfin
 have hE:XOk c (EndF P rs.toList v):=⟨by rw [hP];exact hm,fun k st h=>hfin k st (by rw [hrs];exact h.endP)⟩
 exact dN hE ks 2000 _ _ (haw c hP h0 hE)
def kp (t:TypeId) (st:AS):AS:=⟨st.n,st.sl,(st.nx,some ⟨t,[]⟩)::st.hp,st.nx+1⟩
def qI (P:Program) (rs:List ResultVar) (v:AV) (T:List Nat) (u:List (Nat×Option Blk)) (st:AS):Prop:=(∃S σ,ut P rs st v T u S σ)∨∃t S σ,ut P rs (kp t st) v T u S σ
theorem lF {rs:List ResultVar} {v:AV} {u:List (Nat×Option Blk)} {st:AS} (l:List Nat) {vs:List AV} (hr:gI P st rs=some vs) (hv:aH (hget st.hp) [] (sg st.nx l) v (retV vs)) (hb:ge (hget st.hp) [] (sg st.nx l) u)
 (nd:bQ (keys u)=true) (nd':bQ ((liveK u).map (sg st.nx l))=true) (hl:∀i,i∉liveK u→l.length≤i):qI P rs v [] u st :=
 .inl ⟨[],sg st.nx l,⟨vs,hr,hv⟩,hb,nd,nd',trivial,fun i hi=>(by cases hi),fun i hi=>bH l _ i (hl i hi)⟩
theorem Bx {rs:List ResultVar} {v:AV} {u:List (Nat×Option Blk)} {st:AS} (t:TypeId) (l:List Nat) {vs:List AV} (hr:gI P (kp t st) rs=some vs) (hv:aH (hget (kp t st).hp) [] (sg (st.nx+1) l) v (retV vs)) (hb:ge (hget (kp t st).hp) [] (sg (st.nx+1) l) u)
 (nd:bQ (keys u)=true) (nd':bQ ((liveK u).map (sg (st.nx+1) l))=true) (hl:∀i,i∉liveK u→l.length≤i):qI P rs v [] u st :=
 .inr ⟨t,[],sg (st.nx+1) l,⟨vs,hr,hv⟩,hb,nd,nd',trivial,fun i hi=>(by cases hi),fun i hi=>bH l _ i (hl i hi)⟩
theorem By {c:Ctx} {rec:List It→AS→Prop} {o:Oper} {all:Array Oper} {os:List Oper} {k:List It} {st:AS} {args:List AV} {x:AV} {m:Option FuncId} {f:FuncId} (h:m=some f) (hh:jm c f (x::args) o all os k st):su c rec o all os k st (um args x m):=by
 subst h;exact hh
theorem Bz {c:Ctx} {rec:List It→AS→Prop} {o:Oper} {all:Array Oper} {os:List Oper} {k:List It} {st:AS}:su c rec o all os k st .bad=False:=rfl
theorem BA {c:Ctx} {rec:List FP→AS→Prop} {o:Oper} {all:Array Oper} {os:List Oper} {acc:List FP} {k:List It} {st:AS}:wD c rec o all os acc k st .bad=False:=rfl
theorem F1 {f:FuncId} {fn:Func} {code:Code} {vs:List AV} {v:AV} {u:List (Nat×Option Blk)} {hp0:List (Nat×Option Blk)} {n:Nat} {rs:Array ResultVar} (nx0:Nat) (hm:P.follows .mixedOrders=true)
 (hf:P.funcs[f]?=some fn) (hb:fn.body=some code) (hname:(fn.name=="runtime.NumGoroutine")=false) (hn:fn.ntmps=n) (hrs:fn.results=rs) (hlen:vs.length≤n)
 (hlt:ct nx0 (liveK hp0)=true) (hargs:an (liveK hp0) vs) (hids:bS (liveK hp0) hp0) (hT:∀i,i∈liveK hp0→i∈keys u) (ks:List Nat)
 (haw:∀c:Ctx,c.P=P→(∀i,c.ρ0 i≠none→i∈liveK hp0)→XOk c (qI P rs.toList v (liveK hp0) u)→XW c (qI P rs.toList v (liveK hp0) u) ks 2000 [.code code] ⟨n,mq 0 vs,hp0,nx0⟩):Con P f vs hp0 v u:=by
 refine Gr nx0 hf hb hname hn hlen hlt hargs hids hT ?_
 intro c hP h0 hfin
 have hE:XOk c (qI P rs.toList v (liveK hp0) u):=⟨by rw [hP];exact hm,fun k st h=>by
  rcases h with ⟨S,σ,h⟩|⟨t,S,σ,h⟩
  ·exact hfin k st S σ (by rw [hrs];exact h)
  ·have:=hfin k _ S σ (by rw [hrs];exact h)
   exact⟨bE t this.1,bE t this.2⟩⟩
 exact dN hE ks 2000 _ _ (haw c hP h0 hE)
mutual
def fz1 (id:Nat) (b:Blk):AV→AV
 | .sl i off n s=>match Nat.beq i id with|true => .p (.data s n (i6 ((b.cs.drop off).take (n*s))))|false => .sl i off n s
 | .ptr i off=>match Nat.beq i id with|true => .cp (i6 (b.cs.drop off))|false => .ptr i off
 | .agg cs => .agg (hJ id b cs)
 | .tup cs => .tup (hJ id b cs)
 | .iface t x => .iface t (fz1 id b x)
 | .fn f xs ys => .fn f (hJ id b xs) (hJ id b ys)
 | .mp i=>match Nat.beq i id with|true => .any|false => .mp i
 | .p x => .p x
 | .cp cs => .cp cs
 | .any => .any
def hJ (id:Nat) (b:Blk):List AV→List AV
 | []=>[]
 | c::cs=>fz1 id b c::hJ id b cs
end
mutual
def sF (id:Nat) (b:Blk):AV→Prop
 | .sl i off n s=>match Nat.beq i id with|true=>off+n*s≤b.cs.length|false=>True
 | .ptr i off=>match Nat.beq i id with|true=>off≤b.cs.length|false=>True
 | .agg cs=>gh id b cs
 | .tup cs=>gh id b cs
 | .iface _ x=>sF id b x
 | .fn _ xs ys=>gh id b xs∧gh id b ys
 | .mp _=>True
 | .p _=>True
 | .cp _=>True
 | .any=>True
def gh (id:Nat) (b:Blk):List AV→Prop
 | []=>True
 | c::cs=>sF id b c∧gh id b cs
end
def q8 (id:Nat) (b:Blk):List (Nat×AV)→List (Nat×AV)
 | []=>[]
 | (k,v)::r=>(k,fz1 id b v)::q8 id b r
def o6 (id:Nat) (b:Blk):List (Nat×AV)→Prop
 | []=>True
 | (_,v)::r=>sF id b v∧o6 id b r
def lG (id:Nat) (b:Blk):List (Nat×Option Blk)→List (Nat×Option Blk)
 | []=>[]
 | (k,some x)::r=>(k,some ⟨x.t,hJ id b x.cs⟩)::lG id b r
 | (k,none)::r=>(k,none)::lG id b r
def mz (id:Nat) (b:Blk):List (Nat×Option Blk)→Prop
 | []=>True
 | (_,some x)::r=>gh id b x.cs∧mz id b r
 | (_,none)::r=>mz id b r
def wG (id:Nat) (b:Blk) (st:AS):AS:=⟨st.n,q8 id b st.sl,(id,none)::lG id b st.hp,st.nx⟩
mutual
theorem o7 {h:ba} {id:Nat} {b:Blk} (hb:h id=some b) (hp:i5 b.cs):∀(v:AV),sF id b v→aH h [id] (fun i=>i) (fz1 id b v) v
 | .sl i off n s,ho=>by
  simp only [sF] at ho
  simp only [fz1]
  cases e:Nat.beq i id with
  | true =>
   rw [e] at ho
   have:=Nat.eq_of_beq_eq_true e
   subst this
   simp only [aH,dB]
   exact⟨by simp,trivial,trivial,b,hb,ho,gf _ _ _ (q7 (mu hp _) _)⟩
  | false=>simp only [aH];exact .inl trivial
 | .ptr i off,ho=>by
  simp only [sF] at ho
  simp only [fz1]
  cases e:Nat.beq i id with
  | true =>
   rw [e] at ho
   have:=Nat.eq_of_beq_eq_true e
   subst this
   simp only [aH]
   refine⟨by simp,b,hb,by simp [oY];omega,?_⟩
   have:(b.cs.drop off).take (i6 (b.cs.drop off)).length=b.cs.drop off:=List.take_of_length_le (by simp [oY])
   rw [this]
   exact gf _ _ _ (mu hp _)
  | false=>simp only [aH]
 | .agg cs,ho=>by simp only [fz1,aH];exact fV hb hp cs ho
 | .tup cs,ho=>by simp only [fz1,aH];exact fV hb hp cs ho
 | .iface t x,ho=>by simp only [fz1,aH];exact⟨trivial,o7 hb hp x ho⟩
 | .fn f xs ys,ho=>by simp only [fz1,aH];exact⟨trivial,fV hb hp xs ho.1,fV hb hp ys ho.2⟩
 | .mp i,_=>by
  simp only [fz1]
  cases e:Nat.beq i id with
  | true=>simp only [aH]
  | false=>simp only [aH]
 | .p x,_=>by simp only [fz1,aH];exact dM _ _ _
 | .cp cs,_=>by simp only [fz1,aH]
 | .any,_=>by simp only [fz1,aH]
theorem fV {h:ba} {id:Nat} {b:Blk} (hb:h id=some b) (hp:i5 b.cs):∀(vs:List AV),gh id b vs→ai h [id] (fun i=>i) (hJ id b vs) vs
 | [],_=>by simp [hJ,ai]
 | c::cs,ho=>by simp only [hJ,ai];exact⟨o7 hb hp c ho.1,fV hb hp cs ho.2⟩
end
theorem zr {id:Nat} {b:Blk} (sl:List (Nat×AV)) (s:Nat) (h:o6 id b sl):lk (q8 id b sl) s=fz1 id b (lk sl s)∧sF id b (lk sl s):=by
 induction sl with
 | nil=>simp [q8,lk,fz1,sF]
 | cons x r ih =>
  obtain⟨k,v⟩:=x
  simp only [q8,fJ]
  split
  ·exact⟨rfl,h.1⟩
  ·exact ih h.2
theorem q9 {id:Nat} {b:Blk} (hp:List (Nat×Option Blk)) (i:Nat) (h:mz id b hp):hget (lG id b hp) i=(hget hp i).map (fun x=>⟨x.t,hJ id b x.cs⟩)∧∀x,hget hp i=some x→gh id b x.cs:=by
 induction hp with
 | nil=>simp [lG,hget]
 | cons x r ih =>
  obtain⟨k,v⟩:=x
  cases v with
  | none =>
   have:=ih h
   simp only [lG,hget]
   cases Nat.beq k i<;>simp [this]
   exact this.2
  | some v =>
   have:=ih h.2
   simp only [lG,hget]
   cases e:Nat.beq k i<;>simp [this]
   ·exact this.2
   ·exact h.1
theorem o8 {h:ba} {S:List Nat} {σ:Nat→Nat}:∀{bs as:List AV},ai h S σ bs as→∀(j:Nat) (b:AV),bs[j]?=some b→∃a,as[j]?=some a∧aH h S σ b a
 | [],_,_,j,b,hj=>by simp at hj
 | b::bs,[],hv,_,_,_=>by simp [ai] at hv
 | b::bs,a::as,hv,0,c,hj=>by
  simp only [ai] at hv
  simp at hj;subst hj
  exact⟨a,by simp,hv.1⟩
 | b::bs,a::as,hv,j+1,c,hj=>by
  simp only [ai] at hv
  obtain⟨x,hx,hv'⟩:=o8 hv.2 j c (by simpa using hj)
  exact⟨x,by simpa using hx,hv'⟩
theorem ra {id:Nat} {b:Blk} {st:AS} (hb:hget st.hp id=some b) (hp:i5 b.cs) (hs:o6 id b st.sl) (hh:mz id b st.hp) {c:Ctx} {ρ:am} {F:aA} {a:Act} {w:World} (h:Conc c ρ F st a w) :
 Conc c ρ (gd F ρ [id]) (wG id b st) a w:=by
 have hH:=h.heap.restr [id]
 have hlive:hget st.hp id≠none:=by rw [hb];simp
 have hOlt:∀b,OSet ρ [id] b→b<w.heap.size∧(c.w0.heap.size≤b∨c.O b):=by
  rintro b' ⟨i,hi,hb'⟩
  simp at hi
  subst hi
  refine⟨?_,h.own i b' hlive hb'⟩
  rcases h.heap.ok i b hb with ⟨_,h0⟩|⟨b2,hb2,ho⟩
  ·rw [h0] at hb';cases hb'
  ·rw [hb'] at hb2;cases hb2
   exact ho.lt
 have hg:∀i,hget (wG id b st).hp i=if id=i then none else (hget st.hp i).map (fun x=>⟨x.t,hJ id b x.cs⟩):=by
  intro i
  show (match Nat.beq id i with|true=>none|false=>hget (lG id b st.hp) i)=_
  by_cases e:id=i
  ·subst e;simp
  ·rw [dm e,if_neg e];exact (q9 st.hp i hh).1
 have hsub:∀i,hget (wG id b st).hp i≠none→i≠id∧hget st.hp i≠none:=by
  intro i hi
  rw [hg] at hi
  by_cases e:id=i
  ·simp [e] at hi
  ·refine⟨fun e'=>e e'.symm,fun e'=>?_⟩
   simp [e,e'] at hi
 refine⟨h.defers,h.size,fun s=>?_,⟨fun i k hk=>?_,fun i j b hi hj h1 h2=>h.heap.inj i j b (hsub i hi).2 (hsub j hj).2 h1 h2⟩,h.fresh,?_,?_,fun i hi=>h.dom i (hsub i hi).2,fun i b hi hb=>h.own i b (hsub i hi).2 hb,h.keep,h.glob.mono (fun _ h => .inl h) (fun _ _=>rfl)⟩
 ·simp only [wG]
  obtain⟨e1,e2⟩:=zr st.sl s hs
  rw [e1]
  exact g5 hH (fun _ _ h=>h) _ _ _ (o7 hb hp _ e2) (h.slots s)
 ·have hne:hget (wG id b st).hp i≠none:=by rw [hk];simp
  obtain⟨hS,hl'⟩:=hsub i hne
  rw [hg,if_neg (fun e=>hS e.symm)] at hk
  obtain⟨k0,hk0⟩:=Option.ne_none_iff_exists'.1 hl'
  rw [hk0] at hk
  simp only [Option.map_some,Option.some.injEq] at hk
  subst hk
  have ho':=(q9 st.hp i hh).2 k0 hk0
  have hv:=fV hb hp k0.cs ho'
  rcases h.heap.ok i k0 hk0 with h1|⟨b',hb',ho⟩
  ·refine .inl ⟨?_,h1.2⟩
   show hJ id b k0.cs=[]
   rw [h1.1];rfl
  ·refine .inr ⟨b',hb',ho.view (fun hF=>?_) rfl (c6 hv) (fun _ h => .inl h) (fun f hf j c' hj=>?_)⟩
   ·rcases hF with hF|⟨j,hj,hjb⟩
    ·exact ho.own hF
    ·simp at hj
     subst hj
     have:=h.heap.inj j i b' hlive hl' hjb hb'
     exact hS this.symm
   ·obtain⟨x,hx,hvx⟩:=o8 hv j c' hj
    exact g5 hH (fun _ _ h=>h) _ _ _ hvx (hf j x hx)
 ·rintro b (hb|hb)
  ·exact h.fok b hb
  ·exact (hOlt b hb).1
 ·exact⟨h.chg.os,h.chg.tape,h.chg.output,h.chg.size,h.chg.same,h.chg.cells,fun b hb => .inl (h.chg.sub b hb),fun b hb=>by
   rcases hb with hb|hb
   ·exact h.chg.new b hb
   ·exact .inr (hOlt b hb).2⟩
def Gt (id:Nat) (st:AS):Option Blk→Prop
 | some b=>i5 b.cs∧o6 id b st.sl∧mz id b st.hp
 | none=>False
def Eh (id:Nat) (st:AS):Option Blk→AS
 | some b=>wG id b st
 | none=>st
theorem iI {c:Ctx} {E:AS→Prop} (hE:XOk c E) {ks:List Nat} {n:Nat} (id:Nat) {f:FuncId} {vs:List AV} {o:Oper} {all:Array Oper} {os:List Oper} {k:List It} {st:AS}
 (hv:Gt id st (hget st.hp id)) (h:su c (XW c E ks n) o all os k (Eh id st (hget st.hp id)) (aop c.P o.op (Eh id st (hget st.hp id)))):jm c f vs o all os k st:=by
 intro _ ρ F a w hc
 cases hb:hget st.hp id with
 | none=>rw [hb] at hv;exact hv.elim
 | some b =>
  rw [hb] at hv h
  exact kN (dN hE ks n) h ρ _ a w (ra hb hv.1 hv.2.1 hv.2.2 hc)
theorem o9 {c:Ctx} {E:AS→Prop} (hE:XOk c E) {ks:List Nat} {n:Nat} (id:Nat) {k:List It} {st:AS}
 (hv:Gt id st (hget st.hp id)) (h:XW c E ks n k (Eh id st (hget st.hp id))):SAW c k st:=by
 intro ρ F a w hc
 cases hb:hget st.hp id with
 | none=>rw [hb] at hv;exact hv.elim
 | some b =>
  rw [hb] at hv h
  exact dN hE ks n _ _ h ρ _ a w (ra hb hv.1 hv.2.1 hv.2.2 hc)
theorem bo {α:Type} {c:Ctx} {E:AS→Prop} (hE:XOk c E) (h0:∀i,c.ρ0 i≠none→False) (ks:List Nat) {body:Code} {k:List It} {st:AS} (Inv:α→AS) (μ:α→Nat) (x0:α) (S:List Nat) (σ:Nat→Nat) (hs:Sub S σ st (Inv x0))
 (hstep:∀x,XW c E ks 2000 (.code body :: .inv (fun st'=>∃y,μ y<μ x∧∃S σ,Sub S σ st' (Inv y))::k) (Inv x)):SAW c (.code (.loop body)::k) st:=by
 refine mr Inv μ x0 S σ hs (fun i hi=>(h0 i hi).elim) fun x=>?_
 have e:(fun st'=>∃y,μ y<μ x∧∃S σ,Sub S σ st' (Inv y)∧∀i,c.ρ0 i≠none→σ i=i)=(fun st'=>∃y,μ y<μ x∧∃S σ,Sub S σ st' (Inv y)):=by
  funext st'
  exact propext ⟨fun ⟨y,h1,S,σ,h2,_⟩=>⟨y,h1,S,σ,h2⟩,fun ⟨y,h1,S,σ,h2⟩=>⟨y,h1,S,σ,h2,fun i hi=>(h0 i hi).elim⟩⟩
 rw [e]
 exact dN hE ks 2000 _ _ (hstep x)
theorem ay {c:Ctx} {E:AS→Prop} (hE:XOk c E) (h0:∀i,c.ρ0 i≠none→False) (ks:List Nat) {body:Code} {k:List It} {st:AS} (N:Nat) (Inv:Nat→AS) (S:List Nat) (σ:Nat→Nat) (hs:Sub S σ st (Inv 0))
 (hstep:∀i,i≤N→XW c E ks 2000 (.code body :: .inv (fun st'=>i<N∧∃S σ,Sub S σ st' (Inv (i+1)))::k) (Inv i)):SAW c (.code (.loop body)::k) st:=by
 refine mr (α:={ i:Nat // i≤N }) (fun i=>Inv i.1) (fun i=>N-i.1) ⟨0,Nat.zero_le _⟩ S σ hs (fun i hi=>(h0 i hi).elim) fun x=>?_
 obtain⟨i,hi⟩:=x
 have h:=dN hE ks 2000 _ _ (hstep i hi)
 intro ρ F a w hc
 have key:∀e a w,Wk c (.inv (fun st'=>i<N∧∃S σ,Sub S σ st' (Inv (i+1)))::k) e a w→Wk c (.inv (fun st'=>∃y:{ i:Nat // i≤N },N-y.1<N-i∧∃S σ,Sub S σ st' (Inv y.1)∧∀i,c.ρ0 i≠none→σ i=i)::k) e a w:=by
  intro e a w hw
  cases e with
  | normal =>
   obtain⟨ρ,F,st',⟨hlt,S,σ,hs⟩,hc⟩:=hw
   exact⟨ρ,F,st',⟨⟨i+1,hlt⟩,by show N-(i+1)<N-i;omega,S,σ,hs,fun i hi=>(h0 i hi).elim⟩,hc⟩
  | _=>exact hw
 have hh:=h ρ F a w hc
 exact Go.wp_mono (show body.wp c.P _ a w from hh) key
theorem dp {st st':AS} (n:st'.n=st.n) (slots:nq (hget st.hp) [] (fun i=>i) st.sl st'.sl) (blocks:ge (hget st.hp) [] (fun i=>i) st'.hp) (nd:bQ ((liveK st'.hp).map fun i=>i)=true) (lt:ct st'.nx (liveK st'.hp)=true) (nx:st.nx≤st'.nx) :
 ∃S σ,Sub S σ st st':=⟨[],fun i=>i,n,slots,blocks,nd,lt,trivial,fun _ h=>Nat.le_trans nx h⟩
theorem aZ (l:List Nat) {st st':AS} (n:st'.n=st.n) (slots:nq (hget st.hp) [] (sg st.nx l) st.sl st'.sl) (blocks:ge (hget st.hp) [] (sg st.nx l) st'.hp) (nd:bQ ((liveK st'.hp).map (sg st.nx l))=true) (lt:ct st'.nx (liveK st'.hp)=true) (nx:l.length≤st'.nx) :
 ∃S σ,Sub S σ st st':=⟨[],sg st.nx l,n,slots,blocks,nd,lt,trivial,fun _ h=>bH l _ _ (Nat.le_trans nx h)⟩
theorem bK {c:Ctx} {E:AS→Prop} (hE:XOk c E) (T:List Nat) (h0:∀i,c.ρ0 i≠none→i∈T) (ks:List Nat) {body:Code} {k:List It} {st:AS} (N:Nat) (Inv:Nat→AS) (S:List Nat) (σ:Nat→Nat) (hs:Sub S σ st (Inv 0)) (hσ:∀i,i∈T→σ i=i)
 (hstep:∀i,i≤N→XW c E ks 2000 (.code body :: .inv (fun st'=>i<N∧∃S σ,Sub S σ st' (Inv (i+1))∧∀i,i∈T→σ i=i)::k) (Inv i)):SAW c (.code (.loop body)::k) st:=by
 refine mr (α:={ i:Nat // i≤N }) (fun i=>Inv i.1) (fun i=>N-i.1) ⟨0,Nat.zero_le _⟩ S σ hs (fun i hi=>hσ i (h0 i hi)) fun x=>?_
 obtain⟨i,hi⟩:=x
 have h:=dN hE ks 2000 _ _ (hstep i hi)
 intro ρ F a w hc
 have key:∀e a w,Wk c (.inv (fun st'=>i<N∧∃S σ,Sub S σ st' (Inv (i+1))∧∀i,i∈T→σ i=i)::k) e a w→Wk c (.inv (fun st'=>∃y:{ i:Nat // i≤N },N-y.1<N-i∧∃S σ,Sub S σ st' (Inv y.1)∧∀i,c.ρ0 i≠none→σ i=i)::k) e a w:=by
  intro e a w hw
  cases e with
  | normal =>
   obtain⟨ρ,F,st',⟨hlt,S,σ,hs,ht⟩,hc⟩:=hw
   exact⟨ρ,F,st',⟨⟨i+1,hlt⟩,by show N-(i+1)<N-i;omega,S,σ,hs,fun i hi=>ht i (h0 i hi)⟩,hc⟩
  | _=>exact hw
 have hh:=h ρ F a w hc
 exact Go.wp_mono (show body.wp c.P _ a w from hh) key
theorem kq (T:List Nat) (l:List Nat) {st st':AS} (n:st'.n=st.n) (slots:nq (hget st.hp) [] (sg st.nx l) st.sl st'.sl) (blocks:ge (hget st.hp) [] (sg st.nx l) st'.hp) (nd:bQ ((liveK st'.hp).map (sg st.nx l))=true) (lt:ct st'.nx (liveK st'.hp)=true) (nx:l.length≤st'.nx) (ht:∀i,i∈T→sg st.nx l i=i) :
 ∃S σ,Sub S σ st st'∧∀i,i∈T→σ i=i:=⟨[],sg st.nx l,⟨n,slots,blocks,nd,lt,trivial,fun _ h=>bH l _ _ (Nat.le_trans nx h)⟩,ht⟩
theorem aB {P:Program} {rs:List ResultVar} {v:AV} {T:List Nat} {u:List (Nat×Option Blk)} {st:AS} (l:List Nat) {vs:List AV} (hr:gI P st rs=some vs) (hv:aH (hget st.hp) [] (sg st.nx l) v (retV vs)) (hb:ge (hget st.hp) [] (sg st.nx l) u)
 (nd:bQ (keys u)=true) (nd':bQ ((liveK u).map (sg st.nx l))=true) (hT:∀i,i∈T→sg st.nx l i=i∧i∈keys u) (hl:∀i,i∉liveK u→l.length≤i):qI P rs v T u st :=
 .inl ⟨[],sg st.nx l,⟨vs,hr,hv⟩,hb,nd,nd',trivial,fun i hi=>⟨fun _=>(hT i hi).1,(hT i hi).2⟩,fun i hi=>bH l _ i (hl i hi)⟩
theorem fc {P:Program} {rs:List ResultVar} {v:AV} {T:List Nat} {u:List (Nat×Option Blk)} {st:AS} (l:List Nat) {vs:List AV} (hr:gI P st rs=some vs) (hv:aH (hget st.hp) [] (sg st.nx l) v (retV vs)) (hb:ge (hget st.hp) [] (sg st.nx l) u)
 (nd:bQ (keys u)=true) (nd':bQ ((liveK u).map (sg st.nx l))=true) (hT:∀i,i∈T→(i∈liveK u→sg st.nx l i=i)∧i∈keys u) (hl:∀i,i∉liveK u→st.nx≤sg st.nx l i):qI P rs v T u st :=
 .inl ⟨[],sg st.nx l,⟨vs,hr,hv⟩,hb,nd,nd',trivial,hT,hl⟩
theorem pb {h:ba} {S:List Nat} {σ:Nat→Nat}:∀{xs cs:List AV} (bs ds:List AV),ai h S σ xs cs→ai h S σ bs ds→ai h S σ (xs++bs) (cs++ds)
 | [],cs,bs,ds,h1,h2=>by simp only [ai] at h1;subst h1;exact h2
 | a::xs,[],bs,ds,h1,_=>by simp [ai] at h1
 | a::xs,c::cs,bs,ds,h1,h2=>by
  simp only [ai] at h1
  simp only [List.cons_append,ai]
  exact⟨h1.1,pb bs ds h1.2 h2⟩
end Go.Abs

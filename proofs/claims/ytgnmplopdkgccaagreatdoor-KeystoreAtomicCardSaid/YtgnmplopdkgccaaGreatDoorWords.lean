/- own work: steps of the proof -/
import Derived.Test.YtgnmplopdkgccaaGreatDoorAbsS
set_option linter.all false
open Nat renaming beq→a',le_trans→b'
open Go.IntKind renaming u64→c'
open BitVec renaming ofInt→d',ofInt_natCast→e',toNat_ofNat→f'
namespace Go.Abs
open RowKit
section
variable {P : Program}
mutual
def isQ:AV->Prop
 |.p _=>True
 |.iface _ a=>isQ a
 |.agg cs=>jN cs
 |.ptr _ _=>False
 |.sl _ _ _ _=>False
 |.cp _=>False
 |.tup _=>False
 |.fn _ _ _=>False
 |.mp _=>False
 |.any=>False
def jN:List AV->Prop
 |[]=>True
 |c::cs=>isQ c/\jN cs
end
mutual
def unQ:AV->PV
 |.p x=>x
 |.iface t a => .iface t (unQ a)
 |.agg cs => .agg (jO cs)
 |.ptr _ _ => .v undef
 |.sl _ _ _ _ => .v undef
 |.cp _ => .v undef
 |.tup _ => .v undef
 |.fn _ _ _ => .v undef
 |.mp _ => .v undef
 |.any => .v undef
def jO:List AV->List PV
 |[]=>[]
 |c::cs=>unQ c::jO cs
end
mutual
theorem yQ(h:bv)(S:List Nat):∀(a:AV),isQ a->ep h S (unQ a) a
 |.p x,_=>by simp only[unQ];exact eX _ _ _
 |.iface t a,ha=>by simp only[unQ,ep];exact⟨trivial,yQ h S a ha⟩
 |.agg cs,ha=>by simp only[unQ,ep];exact jP h S cs ha
 |.ptr _ _,ha=>by simp[isQ] at ha
 |.sl _ _ _ _,ha=>by simp[isQ] at ha
 |.cp _,ha=>by simp[isQ] at ha
 |.tup _,ha=>by simp[isQ] at ha
 |.fn _ _ _,ha=>by simp[isQ] at ha
 |.mp _,ha=>by simp[isQ] at ha
 |.any,ha=>by simp[isQ] at ha
theorem jP(h:bv)(S:List Nat):∀(b:List AV),jN b->dN h S (jO b) b
 |[],_=>by simp[jO,dN]
 |a::b,ha=>by simp only[jO,dN];exact⟨yQ h S a ha.1,jP h S b ha.2⟩
end
theorem DB:∀(a:List AV),(jO a).length=a.length
 |[]=>rfl
 |_::a=>by simp[jO,DB a]
theorem si:∀{zas:List AV},jN zas->∀(n:Nat),jN (zas.drop n)
 |[],h,n=>by simpa using h
 |_::zas,h,0=>h
 |_::zas,h,n+1=>by simpa using si h.2 n
theorem yR:∀{zas:List AV},jN zas->∀(n:Nat),jN (zas.take n)
 |[],h,n=>by simpa using h
 |_::zas,h,0=>trivial
 |_::zas,h,n+1=>⟨h.1,yR h.2 n⟩
theorem aG:∀(cs:List PV),jN (cs.map .p)
 |[]=>trivial
 |_::cs=>⟨trivial,aG cs⟩
theorem aJ:∀(cs:List PV),jO (cs.map .p)=cs
 |[]=>rfl
 |c::cs=>by simp[jO,unQ,aJ cs]
def fzB(n off s:Nat):Option Blk->AV
 |some b => .p (.data s n (jO ((b.cs.drop off).take (n*s))))
 |none => .any
def fzS(n off s:Nat):Option Blk->Prop
 |some b=>off+n*s<=b.cs.length/\jN ((b.cs.drop off).take (n*s))
 |none=>False
mutual
def fzA(h:List (Nat×Option Blk)):AV->AV
 |.sl id off n s=>fzB n off s (hget h id)
 |.agg cs => .agg (fzL h cs)
 |.tup cs => .tup (fzL h cs)
 |.iface t x => .iface t (fzA h x)
 |.p x => .p x
 |.cp cs => .cp cs
 |.ptr _ _ => .any
 |.fn _ _ _ => .any
 |.mp _ => .any
 |.any => .any
def fzL(h:List (Nat×Option Blk)):List AV->List AV
 |[]=>[]
 |c::cs=>fzA h c::fzL h cs
end
mutual
def fzO(h:List (Nat×Option Blk)):AV->Prop
 |.sl id off n s=>fzS n off s (hget h id)
 |.agg cs=>ik h cs
 |.tup cs=>ik h cs
 |.iface _ x=>fzO h x
 |.p _=>True
 |.cp _=>True
 |.ptr _ _=>True
 |.fn _ _ _=>True
 |.mp _=>True
 |.any=>True
def ik(h:List (Nat×Option Blk)):List AV->Prop
 |[]=>True
 |c::cs=>fzO h c/\ik h cs
end
mutual
def fzI:AV->List Nat
 |.sl id _ _ _=>[id]
 |.agg cs=>dj cs
 |.tup cs=>dj cs
 |.iface _ x=>fzI x
 |_=>[]
def dj:List AV->List Nat
 |[]=>[]
 |c::cs=>fzI c++dj cs
end
mutual
theorem qO(h:List (Nat×Option Blk))(S:List Nat)(σ:Nat->Nat):∀(v:AV),(∀i,i∈fzI v->i∈S)->fzO h v->aS (hget h) S σ (fzA h v) v
 |.sl id off n s,hS,ho=>by
  simp only[fzO] at ho;simp only[fzA];cases a:hget h id with
  |none=>rw[a] at ho;exact ho.elim
  |some b =>
   rw[a] at ho;simp only[fzB,aS,ep];exact⟨hS id (by simp[fzI]),trivial,trivial,b,a,ho.1,jP _ _ _ ho.2⟩
 |.agg cs,hS,ho=>by simp only[fzA,aS];exact kX h S σ cs hS ho
 |.tup cs,hS,ho=>by simp only[fzA,aS];exact kX h S σ cs hS ho
 |.iface t x,hS,ho=>by simp only[fzA,aS];exact⟨trivial,qO h S σ x hS ho⟩
 |.p x,_,_=>by simp only[fzA,aS];exact eX _ _ _
 |.cp cs,_,_=>by simp only[fzA,aS]
 |.ptr _ _,_,_=>by simp only[fzA,aS]
 |.fn _ _ _,_,_=>by simp only[fzA,aS]
 |.mp _,_,_=>by simp only[fzA,aS]
 |.any,_,_=>by simp only[fzA,aS]
theorem kX(h:List (Nat×Option Blk))(S:List Nat)(σ:Nat->Nat):∀(vs:List AV),(∀i,i∈dj vs->i∈S)->ik h vs->aj (hget h) S σ (fzL h vs) vs
 |[],_,_=>by simp[fzL,aj]
 |c::cs,hS,ho=>by
  simp only[fzL,aj];exact⟨qO h S σ c (fun i a=>hS i (by simp[dj,a])) ho.1,kX h S σ cs (fun i a=>hS i (by simp[dj,a])) ho.2⟩
end
mutual
theorem wC(h:List (Nat×Option Blk)):∀(v:AV),fzO h v->∀i,i∈fzI v->(hget h i).isSome=true
 |.sl id off n s,ho,i,hi=>by
  simp only[fzI,n4] at hi;subst hi;simp only[fzO] at ho;cases a:hget h i with
  |none=>rw[a] at ho;exact ho.elim
  |some b=>rfl
 |.agg cs,ho,i,hi=>jk h cs ho i (by simpa[fzI] using hi)
 |.tup cs,ho,i,hi=>jk h cs ho i (by simpa[fzI] using hi)
 |.iface _ x,ho,i,hi=>wC h x ho i (by simpa[fzI] using hi)
 |.p _,_,i,hi=>by simp[fzI] at hi
 |.cp _,_,i,hi=>by simp[fzI] at hi
 |.ptr _ _,_,i,hi=>by simp[fzI] at hi
 |.fn _ _ _,_,i,hi=>by simp[fzI] at hi
 |.mp _,_,i,hi=>by simp[fzI] at hi
 |.any,_,i,hi=>by simp[fzI] at hi
theorem jk(h:List (Nat×Option Blk)):∀(vs:List AV),ik h vs->∀i,i∈dj vs->(hget h i).isSome=true
 |[],_,i,a=>by simp[dj] at a
 |c::cs,ho,i,a=>by
  simp only[dj,o1] at a;rcases a with a|a
  .exact wC h c ho.1 i a
  .exact jk h cs ho.2 i a
end
def eqP:PV->PV->Prop
 |.data _ n cs,.v (.slice none 0 0)=>n=0/\cs=[]
 |x,y=>y=x
mutual
def eqN:AV->AV->Prop
 |.p x,.p y=>eqP x y
 |.agg l,.agg l'=>cy l l'
 |.tup l,.tup l'=>cy l l'
 |v,a=>a=v
def cy:List AV->List AV->Prop
 |[],[]=>True
 |v::l,a::l'=>eqN v a/\cy l l'
 |_,_=>False
end
theorem cY(x:PV):eqP x x:=by
 simp[eqP]
mutual
theorem eE:∀(v:AV),eqN v v
 |.p x=>by simp only[eqN];exact cY x
 |.agg l=>by simp only[eqN];exact av l
 |.tup l=>by simp only[eqN];exact av l
 |.ptr _ _=>by simp[eqN]
 |.sl _ _ _ _=>by simp[eqN]
 |.cp _=>by simp[eqN]
 |.iface _ _=>by simp[eqN]
 |.fn _ _ _=>by simp[eqN]
 |.mp _=>by simp[eqN]
 |.any=>by simp[eqN]
theorem av:∀(l:List AV),cy l l
 |[]=>by simp[cy]
 |v::l=>by simp only[cy];exact⟨eE v,av l⟩
end
theorem tX{x y:PV}(h:eqP x y):y=x\/∃s,x = .data s 0 []/\y = .v (.slice none 0 0):=by
 unfold eqP at h
 grind
theorem He{v:AV}{y:PV}(h:eqN v (.p y)):∃x,v = .p x/\eqP x y:=by
 cases v<;>simp only[eqN] at h<;>first|exact⟨_,rfl,h⟩|cases h
mutual
theorem DC(h:List (Nat×Option Blk))(S:List Nat)(σ:Nat->Nat):∀(a v:AV),eqN v (fzA h a)->(∀i,i∈fzI a->i∈S)->fzO h a->aS (hget h) S σ v a
 |.p y,v,he,_,_=>by
  simp only[fzA] at he;obtain⟨x,rfl,e⟩:=He he;simp only[aS];rcases tX e with rfl|⟨s,rfl,rfl⟩
  .simp[eX]
  .simp[ep]
 |.sl id off n s,v,he,hS,ho=>by
  have hv:=qO h S σ (.sl id off n s) hS ho;cases g:hget h id with
  |none=>simp only[fzO,g,fzS] at ho
  |some b =>
   grind [fzA,fzB,He,tX]
 |.agg cs,v,he,hS,ho=>by
  exact ahC
 |.tup cs,v,he,hS,ho=>by
  exact ahC
 |.iface t x,v,he,hS,ho=>by
  grind [qO,fzA,eqN]
 |.cp cs,v,he,_,_=>by
  grind [fzA,eqN,aS]
 |.ptr _ _,v,he,_,_=>by
  grind [fzA,eqN,aS]
 |.fn _ _ _,v,he,_,_=>by
  grind [fzA,eqN,aS]
 |.mp _,v,he,_,_=>by
  grind [fzA,eqN,aS]
 |.any,v,he,_,_=>by
  grind [fzA,eqN,aS]
theorem sj(h:List (Nat×Option Blk))(S:List Nat)(σ:Nat->Nat):∀(cs vs:List AV),cy vs (fzL h cs)->(∀i,i∈dj cs->i∈S)->ik h cs->aj (hget h) S σ vs cs
 |[],vs,he,_,_=>by
  grind [aj,fzL,cy]
 |c::cs,vs,he,hS,ho=>by
  cases vs with
  |nil=>simp[fzL,cy] at he
  |cons v l =>
   simp only[fzL,cy] at he;simp only[aj];exact⟨DC h S σ c v he.1 (fun i a=>hS i (by simp[dj,a])) ho.1,sj h S σ cs l he.2 (fun i a=>hS i (by simp[dj,a])) ho.2⟩
end
def aeN(h:List (Nat×Option Blk))(v:AV):Option (List AV)->Prop
 |some vs=>fzO h (retV vs)/\eqN v (fzA h (retV vs))
 |none=>False
def EndF(P:Program)(rs:List ResultVar)(v:AV)(st:AS):Prop:=aeN st.hp v (jV P st rs)
theorem nj{a:List (Nat×Option Blk)}:∀{S:List Nat},(∀i,i∈S->(hget a i).isSome=true)->pH a S
 |[],_=>trivial
 |k::r,h=>⟨h k η,nj fun i b=>h i (by simp[b])⟩
theorem EndF.endP{rs:List ResultVar}{v:AV}{st:AS}(h:EndF P rs v st):Z1 P rs st v:=by
 unfold EndF at h;cases a:jV P st rs with
 |none=>rw[a] at h;exact h.elim
 |some vs =>
  rw[a] at h;obtain⟨h1,h2⟩:=h;refine⟨fzI (retV vs),nj (wC _ _ h1),vs,a,?_⟩;simp_all[DC]
def DK(c:Ctx)(ks:List Nat)(rec:List It->AS->Prop)(all:Array Oper)(k:List It):List Oper->List FP->AS->Prop
 |[],acc,⟨n,sl,hp,nx⟩=>D0 all acc=true/\rec k (prune ks ⟨n,sl,hp,nx⟩)
 |o::os,acc,⟨n,sl,hp,nx⟩=>gD c (DK c ks rec all k os) o all os acc k ⟨n,sl,hp,nx⟩ o.guard
def QI:List Nat->Nat->Bool
 |[],_=>false
 |k::r,id=>match Nat.blt k 1000000 with|true=>false|false=>match a' k (1000000+id) with|true=>true|false=>QI r id
def Ju(c:Ctx)(x:Code)(k:List It)(st:AS)(h:Prop):Bool->Prop
 |true=>SAW c (.code x::k) st
 |false=>h
def XW(c:Ctx)(E:AS->Prop)(ks:List Nat):Nat->List It->AS->Prop
 |0,k,st=>SAW c k st
 |n+1,.code (.seq a b)::k,st=>XW c E ks n (.code a :: .code b::k) st
 |n+1,.code .skip::k,st=>XW c E ks n k st
 |n+1,.code (.block id x)::k,st=>XW c E ks n (.code x :: .blk id::k) st
 |n+1,.blk _::k,st=>XW c E ks n k st
 |n+1,.code (.exit id)::k,st=>JW (XW c E ks n) st (mn id k)
 |n+1,.code (.cond x y z)::k,st=>JX (XW c E ks n) y z k st (ev st x)
 |n+1,.code (.region id ops false)::k,st=>Ju c (.region id ops false) k st (XW c E ks n (.ops ops ops.toList::k) st) (QI ks id)
 |n+1,.code (.region id ops true)::k,st=>Ju c (.region id ops true) k st (DK c ks (XW c E ks n) ops k ops.toList [] st) (QI ks id)
 |n+1,.ops _ []::k,st=>XW c E ks n k (prune ks st)
 |n+1,.ops all (o::os)::k,st=>gA c (XW c E ks n) o all os k st o.guard
 |_+1,.inv zzJ::_,st=>zzJ st
 |_+1,.code .ret::_,st=>E st
 |_+1,[],st=>E st
 |_+1,k,st=>SAW c k st
structure XOk(c:Ctx)(E:AS->Prop):Prop where
 mix:c.P.follows .mixedOrders=true
 fin:∀k st,E st->SAW c (.code .ret::k) st/\SAW c [] st
theorem wD(c:Ctx)(ks:List Nat)(q:List It->AS->Prop)(g:Array Oper)(k:List It)(s:∀st,q k st->SAW c k st):∀(l:List Oper) (m:List FP) (st:AS),DK c ks q g k l m st->SD c g l m k st.fs:=by
 intro l
 induction l with
 |nil =>
  intro m st h;obtain⟨n,y,z,nx⟩:=st;exact⟨[],AS.fs ⟨n,y,z,nx⟩,rfl,fun i=>rfl,by simpa using h.1,fun ρ F a w A=>s _ h.2 ρ F a w (A.ofF.prune ks)⟩
 |cons o os t =>
  intro m st h;have h:gD c (DK c ks q g k os) o g os m k st o.guard:=by cases st;exact h
  cases hg:o.guard with
  |none =>
   rw[hg] at h;exact uN t (by simp[wantF,hg]) h
  |some p =>
   obtain⟨j,e⟩:=p;rw[hg] at h;simp only[gD] at h;cases u:wW g.toList j with
   |none=>rw[u] at h;exact h.elim
   |some d =>
    rw[u] at h;simp only[zw] at h;have r:(g[j]?).bind (·.dst)=some d:=by rw[uB] at u;simpa using u
    unfold zu at h;split at h
    .rename_i b hv;split at h
     .rename_i x;subst x;rw[<-tD hv];refine uN t ?_ h;rw[tD hv];unfold wantF;rw[hg];exact⟨d,r,.inl ⟨b,hv,η⟩⟩
     .rename_i x;have v:b = !e:=by cases b<;>cases e<;>simp_all
      rw[v] at hv;rw[<-tD hv];refine SD.skip ?_ (t _ _ h);rw[tD hv];unfold wantF;rw[hg];exact⟨d,r,.inl ⟨!e,hv,by cases e<;>simp⟩⟩
    .rename_i hv;refine SD.skip ?_ (t _ _ h);unfold wantF;rw[hg];exact⟨d,r,.inr ⟨hv,rfl⟩⟩
    .exact h.elim
theorem eT{c:Ctx}{E:AS->Prop}(Y:XOk c E)(ks:List Nat):∀(n:Nat) (k:List It) (st:AS),XW c E ks n k st->SAW c k st:=by
 intro n
 induction n with
 |zero=>intro k st h;exact h
 |succ n j =>
  intro k st h;unfold XW at h;split at h
  .omega
  .rename_i e;cases e;intro ρ F a w g;have:=j _ _ h ρ F a w g;apply wp_seq;rw[Oi];exact this
  .rename_i e;cases e;intro ρ F a w g;exact wp_skip (j _ _ h ρ F a w g)
  .rename_i e;cases e;intro ρ F a w g;apply wp_block;rw[JY];exact j _ _ h ρ F a w g
  .rename_i e;cases e;intro ρ F a w g;exact j _ _ h ρ F a w g
  .rename_i e;cases e;intro ρ F a w g;unfold JW at h;split at h
   .rename_i m;exact wp_exit (Oh m (j _ _ h ρ F a w g))
   .exact h.elim
  .rename_i e;cases e;intro ρ F a w g;unfold JX at h;split at h
   .rename_i b o;apply wp_cond (o ▸ g.ev _:Rd ρ F w (.p (.v (.bool b))) _).pv;split at h
    .rename_i l;subst l;exact j _ _ h ρ F a w g
    .rename_i l;have:b=false:=by simpa using l
     subst this;exact j _ _ h ρ F a w g
   .exact h.elim
  .rename_i e;cases e;unfold Ju at h;split at h
   .exact h
   .intro ρ F a w g;exact wp_region_list (j _ _ h ρ F a w g)
  .rename_i e;cases e;unfold Ju at h;split at h
   .exact h
   .exact HB Y.mix (wD c ks _ _ _ (fun st h=>j _ st h) _ _ _ h)
  .rename_i e;cases e;intro ρ F a w g;exact wpList_nil (j _ _ h ρ F a w (g.prune ks))
  .grind [JZ]
  .rename_i e;cases e;intro ρ F a w g;exact⟨ρ,F,_,h,g⟩
  .rename_i e;cases e;exact(Y.fin _ _ h).1
  .exact(Y.fin [] _ h).2
  .exact h
theorem iD{c:Ctx}{E:AS->Prop}(Y:XOk c E){ks:List Nat}{n:Nat}{f:FuncId}{vs:List AV}{o:Oper}{b:Array Oper}{os:List Oper}{k:List It}{st:AS}{v:AV}(m:FPure c.P f vs v)(h:XW c E ks n (.ops b os::k) (put st o.dst v)) :
 kv c f vs o b os k st:=by
 intro p ρ F a w e;have g:=FO (nx:=st.nx) p (m (hget st.hp)) (c7 _) (fun i j=>by simp[keys] at j) (fun i j=>by cases j);exact tz g e _ _ (fun ρ' F' q w' l=>eT Y ks n _ _ h ρ' F' q w' l)
mutual
theorem ZX{ρ:aD}{F:aK}{w:World}:∀{v a:AV} {u:Value},eqN v a->Rd ρ F w a u->Rd ρ F w v u
 |v,.p y,u,he,hr=>by
  obtain⟨x,rfl,b⟩:=He he;rcases tX b with rfl|⟨s,rfl,rfl⟩
  .exact hr
  .cases hr with
   |p _ _ h=>cases h with
    |v _ h1=>exact .p _ _ (.nil _ _ _)
 |v,.agg l,u,he,hr=>by
  cases v<;>simp only[eqN] at he<;>first|(cases he;done)|skip
  cases hr with
  |agg _ us hl hr'=>exact .agg _ us (by rw[hl,qP he]) (tY he hr')
 |v,.tup l,u,he,hr=>by
  cases v<;>simp only[eqN] at he<;>first|(cases he;done)|skip
  cases hr with
  |tup _ us hl hr'=>exact .tup _ us (by rw[hl,qP he]) (tY he hr')
 |v,.ptr _ _,u,he,hr=>by cases v<;>simp only[eqN] at he<;>first|(cases he;done)|(cases he;exact hr)
 |v,.sl _ _ _ _,u,he,hr=>by cases v<;>simp only[eqN] at he<;>first|(cases he;done)|(cases he;exact hr)
 |v,.cp _,u,he,hr=>by cases v<;>simp only[eqN] at he<;>first|(cases he;done)|(cases he;exact hr)
 |v,.iface _ _,u,he,hr=>by cases v<;>simp only[eqN] at he<;>first|(cases he;done)|(cases he;exact hr)
 |v,.fn _ _ _,u,he,hr=>by cases v<;>simp only[eqN] at he<;>first|(cases he;done)|(cases he;exact hr)
 |v,.mp _,u,he,hr=>by cases v<;>simp only[eqN] at he<;>first|(cases he;done)|(cases he;exact hr)
 |v,.any,u,he,hr=>by cases v<;>simp only[eqN] at he<;>first|(cases he;done)|(cases he;exact hr)
theorem tY{ρ:aD}{F:aK}{w:World}:∀{vs zas:List AV} {f:Nat->Value},cy vs zas->(∀j c,zas[j]?=some c->Rd ρ F w c (f j))->∀j c,vs[j]?=some c->Rd ρ F w c (f j)
 |[],_,_,_,_,j,c,b=>by simp at b
 |v::vs,[],_,he,_,_,_,_=>by simp[cy] at he
 |v::vs,a::zas,f,he,hr,0,c,b=>by
  simp only[cy] at he;simp at b;subst b;exact ZX he.1 (hr 0 a rfl)
 |v::vs,a::zas,f,he,hr,j+1,c,b=>by
  simp only[cy] at he;exact tY (f:=fun j=>f (j+1)) he.2 (fun j c b=>hr (j+1) c (by simpa using b)) j c (by simpa using b)
theorem qP:∀{vs zas:List AV},cy vs zas->zas.length=vs.length
 |[],[],_=>rfl
 |[],a::zas,he=>by simp[cy] at he
 |v::vs,[],he=>by simp[cy] at he
 |v::vs,a::zas,he=>by simp only[cy] at he;simp[qP he.2]
end
theorem FPure.nil{f:FuncId}{vs vs':List AV}{v:AV}(h:FPure P f vs v)(b:cy vs vs'):FPure P f vs' v:=by
 intro e;obtain⟨h2⟩:=h e;exact⟨fun ρ F us w a g j=>h2 ρ F us w a (by rw[g,qP b]) (tY b j)⟩
theorem iE{c:Ctx}{E:AS->Prop}(Y:XOk c E){ks:List Nat}{n:Nat}{f:FuncId}{vs:List AV}{o:Oper}{a:Array Oper}{os:List Oper}{b:List FP}{k:List It}{st:AS}{v:AV}(g:FPure c.P f vs v)
 (h:DK c ks (XW c E ks n) a k os (b++[([],[])]) (put st o.dst v)):uM c f vs o a os b k st:=by
 intro j;exact⟨v,[],[],st.nx,FO j (g (hget st.hp)) (c7 _) (fun i e=>by simp[keys] at e) (fun i e=>by cases e),fun i e=>(by cases e),wD c ks _ a k (fun st h=>eT Y ks n _ st h) _ _ _ h⟩
theorem co{c:Ctx}{E:AS->Prop}(Y:XOk c E){ks:List Nat}{n:Nat}{f:FuncId}{vs b:List AV}{hp0:List (Nat×Option Blk)}{v0:AV}{g:List (Nat×Option Blk)}{o:Oper}{e:Array Oper}{os:List Oper}{k:List It}{st:AS}(S:List Nat)(τ:Nat->Nat)(nx:Nat)
 (m:Con c.P f b hp0 v0 g) (p:mq st vs b hp0 v0 g S τ nx) (h:XW c E ks n (.ops e os::k) (eff st o.dst (renA τ v0) (renU τ g++fg S) nx)):kv c f vs o e os k st:=by
 intro q ρ F a w j;exact tz (Bt q m p) j _ _ (fun ρ' F' r w' l=>eT Y ks n _ _ h ρ' F' r w' l)
theorem sm{c:Ctx}{E:AS->Prop}(Y:XOk c E){ks:List Nat}{n:Nat}{f:FuncId}{vs b:List AV}{hp0:List (Nat×Option Blk)}{v0:AV}{g:List (Nat×Option Blk)}{o:Oper}{a:Array Oper}{os:List Oper}{e:List FP}{k:List It}{st:AS}(S:List Nat)(τ:Nat->Nat)(nx:Nat)
 (l:Con c.P f b hp0 v0 g) (m:mq st vs b hp0 v0 g S τ nx) (j:dm nx ((liveK hp0).map τ++S)=true)
 (h:DK c ks (XW c E ks n) a k os (e++[((liveK hp0).map τ++S,keys (renU τ g++fg S))]) (eff st o.dst (renA τ v0) (renU τ g++fg S) nx)):uM c f vs o a os e k st:=by
 intro p;exact⟨_,_,_,nx,Bt p l m,fun i q=>fM j q,wD c ks _ a k (fun st h=>eT Y ks n _ st h) _ _ _ h⟩
mutual
theorem lV(h:bv)(S:List Nat)(τ:Nat->Nat):∀(v:AV),ax [] v->aS h S τ v v
 |.p x,_=>by simp only[aS];exact eX _ _ _
 |.ptr i _,hi=>by simp[ax] at hi
 |.sl i _ _ _,hi=>by simp[ax] at hi
 |.cp cs,_=>by simp only[aS]
 |.agg vs,hi=>by simp only[aS];exact il h S τ vs hi
 |.tup vs,hi=>by simp only[aS];exact il h S τ vs hi
 |.iface t x,hi=>by simp only[aS];exact⟨trivial,lV h S τ x hi⟩
 |.fn f xs ys,hi=>by simp only[aS];exact⟨trivial,il h S τ xs hi.1,il h S τ ys hi.2⟩
 |.mp _,hi=>by simp[ax] at hi
 |.any,_=>by simp only[aS]
theorem il(h:bv)(S:List Nat)(τ:Nat->Nat):∀(vs:List AV),ak [] vs->aj h S τ vs vs
 |[],_=>by simp only[aj]
 |v::vs,hi=>by simp only[aj];exact⟨lV h S τ v hi.1,il h S τ vs hi.2⟩
end
def iT(a i:Nat):Nat:=a+i
theorem wE{st:AS}{vs:List AV}{v0:AV}{a:List (Nat×Option Blk)}{m:Nat}(ha:ak [] vs)(h:cP ((keys a).map (iT st.nx))=true)(b:dm m (keys a)=true)(e:ax (keys a) v0)(g:bV (keys a) a) :
 mq st vs vs [] v0 a [] (iT st.nx) (st.nx+m) :=
 ⟨il _ _ _ vs ha,trivial,h,trivial,ω,fun i j => .inr (by have:=fM b j;unfold iT;omega),e,g,rfl⟩
theorem wF{c:Ctx}{E:AS->Prop}(Y:XOk c E){ks:List Nat}{n:Nat}{f:FuncId}{vs:List AV}{v0:AV}{a:List (Nat×Option Blk)}{o:Oper}{b:Array Oper}{os:List Oper}{k:List It}{st:AS}(m:Nat)
 (l:Con c.P f vs [] v0 a) (p:cP ((keys a).map (iT st.nx))=true) (e:dm m (keys a)=true) (g:ax (keys a) v0) (j:bV (keys a) a)
 (h:XW c E ks n (.ops b os::k) (eff st o.dst (renA (iT st.nx) v0) (renU (iT st.nx) a) (st.nx+m))):kv c f vs o b os k st:=by
 apply co Y (ks:=ks) (n:=n) [] (iT st.nx) (st.nx+m) l (wE l.ids p e g j);simp_all[fg]
theorem wG{c:Ctx}{E:AS->Prop}(Y:XOk c E){ks:List Nat}{n:Nat}{f:FuncId}{vs:List AV}{v0:AV}{a:List (Nat×Option Blk)}{o:Oper}{b:Array Oper}{os:List Oper}{e:List FP}{k:List It}{st:AS}(m:Nat)
 (p:Con c.P f vs [] v0 a) (q:cP ((keys a).map (iT st.nx))=true) (g:dm m (keys a)=true) (j:ax (keys a) v0) (l:bV (keys a) a)
 (h:DK c ks (XW c E ks n) b k os (e++[([],keys (renU (iT st.nx) a))]) (eff st o.dst (renA (iT st.nx) v0) (renU (iT st.nx) a) (st.nx+m))):uM c f vs o b os e k st:=by
 apply sm Y (ks:=ks) (n:=n) [] (iT st.nx) (st.nx+m) p (wE p.ids q g j l) rfl;simp_all[fg,liveK]
mutual
theorem Hf(h:List (Nat×Option Blk))(T:List Nat):∀(v:AV),ax T (fzA h v)
 |.p _=>by simp[fzA,ax]
 |.ptr _ _=>by simp[fzA,ax]
 |.sl id off n s=>by simp only[fzA];cases hget h id<;>simp[fzB,ax]
 |.cp _=>by simp[fzA,ax]
 |.agg vs=>by simp only[fzA,ax];exact nY h T vs
 |.tup vs=>by simp only[fzA,ax];exact nY h T vs
 |.iface _ x=>by simp only[fzA,ax];exact Hf h T x
 |.fn _ _ _=>by simp[fzA,ax]
 |.mp _=>by simp[fzA,ax]
 |.any=>by simp[fzA,ax]
theorem nY(h:List (Nat×Option Blk))(T:List Nat):∀(vs:List AV),ak T (fzL h vs)
 |[]=>by simp[fzL,ak]
 |v::vs=>by simp only[fzL,ak];exact⟨Hf h T v,nY h T vs⟩
end
mutual
theorem qQ:∀(v:AV),renA (fun i=>i) v=v
 |.p _=>by simp[renA]
 |.ptr _ _=>by simp[renA]
 |.sl _ _ _ _=>by simp[renA]
 |.cp _=>by simp[renA]
 |.agg vs=>by simp[renA,nZ vs]
 |.tup vs=>by simp[renA,nZ vs]
 |.iface _ x=>by simp[renA,qQ x]
 |.fn _ xs ys=>by simp[renA,nZ xs,nZ ys]
 |.mp _=>by simp[renA]
 |.any=>by simp[renA]
theorem nZ:∀(vs:List AV),eu (fun i=>i) vs=vs
 |[]=>by simp[eu]
 |v::vs=>by simp[eu,qQ v,nZ vs]
end
theorem sn{st:AS}{vs a:List AV}{v:AV}(e:fzL st.hp vs=a)(ho:ik st.hp vs)(b:dm st.nx (dj vs)=true)(hv:ax [] v):mq st vs a [] v [] (dj vs) (fun i=>i) st.nx :=
 ⟨by rw[<-e];exact kX _ _ _ vs (fun i g=>g) ho,trivial,rfl,nj (jk _ _ ho),c7 _,fun i g=>(by cases g),hv,trivial,b⟩
theorem df{c:Ctx}{E:AS->Prop}(Y:XOk c E){ks:List Nat}{n:Nat}{f:FuncId}{vs a:List AV}{o:Oper}{b:Array Oper}{os:List Oper}{k:List It}{st:AS}{v:AV}(e:fzL st.hp vs=a)(ho:ik st.hp vs)(g:dm st.nx (dj vs)=true)
 (j:FPure c.P f a v) (hv:ax [] v) (h:XW c E ks n (.ops b os::k) (eff st o.dst v (fg (dj vs)) st.nx)):kv c f vs o b os k st:=by
 apply co Y (ks:=ks) (n:=n) (dj vs) (fun i=>i) st.nx (j.con (by rw[<-e];exact nY _ _ _)) (sn e ho g hv);rw[qQ];exact h
theorem dg{c:Ctx}{E:AS->Prop}(Y:XOk c E){ks:List Nat}{n:Nat}{f:FuncId}{vs a:List AV}{o:Oper}{b:Array Oper}{os:List Oper}{g:List FP}{k:List It}{st:AS}{v:AV}(e:fzL st.hp vs=a)(ho:ik st.hp vs)(j:dm st.nx (dj vs)=true)
 (l:FPure c.P f a v) (hv:ax [] v) (h:DK c ks (XW c E ks n) b k os (g++[(dj vs,dj vs)]) (eff st o.dst v (fg (dj vs)) st.nx)):uM c f vs o b os g k st:=by
 apply sm Y (ks:=ks) (n:=n) (dj vs) (fun i=>i) st.nx (l.con (by rw[<-e];exact nY _ _ _)) (sn e ho j hv) (by simpa[liveK] using j);simp_all[qQ,liveK,renU,mr]
theorem tZ{f:FuncId}{g:Func}{a:Code}{vs:List AV}{v:AV}{n:Nat}{rs:Array ResultVar}(o:P.follows .mixedOrders=true)(p:P.funcs[f]?=some g)(q:g.body=some a)(b:(g.name=="runtime.NumGoroutine")=false)(r:g.ntmps=n)(m:g.results=rs)
 (j:vs.length<=n) (e:ak [] vs) (ks:List Nat)
 (s:∀c:Ctx,c.P=P->(∀i,c.ρ0 i≠none->False)->XOk c (EndF P rs.toList v)->XW c (EndF P rs.toList v) ks 2000 [.code a] ⟨n,qZ 0 vs,[],0⟩):FPure P f vs v:=by
 apply J5 p q b r j e;intro c J t l;have Y:XOk c (EndF P rs.toList v):=⟨by rw[J];exact o,fun k st h=>l k st (by rw[m];exact h.endP)⟩
 grind [eT]
def oc(t:TypeId)(st:AS):AS:=⟨st.n,st.sl,(st.nx,some ⟨t,[]⟩)::st.hp,st.nx+1⟩
def xk(P:Program)(rs:List ResultVar)(v:AV)(T:List Nat)(u:List (Nat×Option Blk))(st:AS):Prop:=(∃S σ,Bp P rs st v T u S σ)\/∃t S σ,Bp P rs (oc t st) v T u S σ
theorem lW{rs:List ResultVar}{v:AV}{u:List (Nat×Option Blk)}{st:AS}(l:List Nat){vs:List AV}(e:jV P st rs=some vs)(hv:aS (hget st.hp) [] (sg st.nx l) v (retV vs))(g:iU (hget st.hp) [] (sg st.nx l) u)
 (h:cP (keys u)=true) (a:cP ((liveK u).map (sg st.nx l))=true) (j:∀i,i∉liveK u->l.length<=i):xk P rs v [] u st :=
 .inl ⟨[],sg st.nx l,⟨vs,e,hv⟩,g,h,a,trivial,fun i b=>(by cases b),fun i b=>aw l _ i (j i b)⟩
theorem NS{rs:List ResultVar}{v:AV}{u:List (Nat×Option Blk)}{st:AS}(t:TypeId)(l:List Nat){vs:List AV}(e:jV P (oc t st) rs=some vs)(hv:aS (hget (oc t st).hp) [] (sg (st.nx+1) l) v (retV vs))(g:iU (hget (oc t st).hp) [] (sg (st.nx+1) l) u)
 (h:cP (keys u)=true) (a:cP ((liveK u).map (sg (st.nx+1) l))=true) (j:∀i,i∉liveK u->l.length<=i):xk P rs v [] u st :=
 .inr ⟨t,[],sg (st.nx+1) l,⟨vs,e,hv⟩,g,h,a,trivial,fun i b=>(by cases b),fun i b=>aw l _ i (j i b)⟩
theorem NT{c:Ctx}{e:List It->AS->Prop}{o:Oper}{b:Array Oper}{os:List Oper}{k:List It}{st:AS}{a:List AV}{x:AV}{m:Option FuncId}{f:FuncId}(h:m=some f)(g:kv c f (x::a) o b os k st):zn c e o b os k st (Bj a x m):=by
 subst h;exact g
theorem NU{c:Ctx}{a:List It->AS->Prop}{o:Oper}{b:Array Oper}{os:List Oper}{k:List It}{st:AS}:zn c a o b os k st .bad=False:=rfl
theorem NV{c:Ctx}{a:List FP->AS->Prop}{o:Oper}{b:Array Oper}{os:List Oper}{e:List FP}{k:List It}{st:AS}:D1 c a o b os e k st .bad=False:=rfl
theorem Rj{f:FuncId}{j:Func}{a:Code}{vs:List AV}{v:AV}{u:List (Nat×Option Blk)}{hp0:List (Nat×Option Blk)}{n:Nat}{rs:Array ResultVar}(nx0:Nat)(q:P.follows .mixedOrders=true)
 (r:P.funcs[f]?=some j) (s:j.body=some a) (e:(j.name=="runtime.NumGoroutine")=false) (w:j.ntmps=n) (l:j.results=rs) (m:vs.length<=n)
 (p:dm nx0 (liveK hp0)=true) (g:ak (liveK hp0) vs) (o:bV (liveK hp0) hp0) (x:∀i,i∈liveK hp0->i∈keys u) (ks:List Nat)
 (y:∀c:Ctx,c.P=P->(∀i,c.ρ0 i≠none->i∈liveK hp0)->XOk c (xk P rs.toList v (liveK hp0) u)->XW c (xk P rs.toList v (liveK hp0) u) ks 2000 [.code a] ⟨n,qZ 0 vs,hp0,nx0⟩):Con P f vs hp0 v u:=by
 apply RA nx0 r s e w m p g o x;intro c J z b
 have Y:XOk c (xk P rs.toList v (liveK hp0) u):=⟨by rw[J];exact q,fun k st h=>by
  rcases h with⟨S,σ,h⟩|⟨t,S,σ,h⟩
  .exact b k st S σ (by rw[l];exact h)
  .have:=b k _ S σ (by rw[l];exact h)
   exact⟨aX t this.1,aX t this.2⟩⟩
 grind [eT]
mutual
def fz1(id:Nat)(b:Blk):AV->AV
 |.sl i off n s=>match a' i id with|true => .p (.data s n (jO ((b.cs.drop off).take (n*s))))|false => .sl i off n s
 |.ptr i off=>match a' i id with|true => .cp (jO (b.cs.drop off))|false => .ptr i off
 |.agg cs => .agg (fJ id b cs)
 |.tup cs => .tup (fJ id b cs)
 |.iface t x => .iface t (fz1 id b x)
 |.fn f xs ys => .fn f (fJ id b xs) (fJ id b ys)
 |.mp i=>match a' i id with|true => .any|false => .mp i
 |.p x => .p x
 |.cp cs => .cp cs
 |.any => .any
def fJ(id:Nat)(b:Blk):List AV->List AV
 |[]=>[]
 |c::cs=>fz1 id b c::fJ id b cs
end
mutual
def xl(id:Nat)(b:Blk):AV->Prop
 |.sl i off n s=>match a' i id with|true=>off+n*s<=b.cs.length|false=>True
 |.ptr i off=>match a' i id with|true=>off<=b.cs.length|false=>True
 |.agg cs=>eU id b cs
 |.tup cs=>eU id b cs
 |.iface _ x=>xl id b x
 |.fn _ xs ys=>eU id b xs/\eU id b ys
 |.mp _=>True
 |.p _=>True
 |.cp _=>True
 |.any=>True
def eU(id:Nat)(b:Blk):List AV->Prop
 |[]=>True
 |c::cs=>xl id b c/\eU id b cs
end
def yS(id:Nat)(b:Blk):List (Nat×AV)->List (Nat×AV)
 |[]=>[]
 |(k,v)::r=>(k,fz1 id b v)::yS id b r
def wH(id:Nat)(b:Blk):List (Nat×AV)->Prop
 |[]=>True
 |(_,v)::r=>xl id b v/\wH id b r
def qR(id:Nat)(b:Blk):List (Nat×Option Blk)->List (Nat×Option Blk)
 |[]=>[]
 |(k,some x)::r=>(k,some ⟨x.t,fJ id b x.cs⟩)::qR id b r
 |(k,none)::r=>(k,none)::qR id b r
def sq(id:Nat)(b:Blk):List (Nat×Option Blk)->Prop
 |[]=>True
 |(_,some x)::r=>eU id b x.cs/\sq id b r
 |(_,none)::r=>sq id b r
def Fx(id:Nat)(b:Blk)(st:AS):AS:=⟨st.n,yS id b st.sl,(id,none)::qR id b st.hp,st.nx⟩
mutual
theorem wI{h:bv}{id:Nat}{b:Blk}(a:h id=some b)(g:jN b.cs):∀(v:AV),xl id b v->aS h [id] (fun i=>i) (fz1 id b v) v
 |.sl i off n s,ho=>by
  simp only[xl] at ho;simp only[fz1];cases e:a' i id with
  |true =>
   rw[e] at ho;have:=ef e;subst this;simp only[aS,ep];exact⟨η,trivial,trivial,b,a,ho,jP _ _ _ (yR (si g _) _)⟩
  |false=>simp only[aS];exact .inl trivial
 |.ptr i off,ho=>by
  simp only[xl] at ho;simp only[fz1]
  grind [a',Nat.eq_of_beq_eq_true,aS,DB,jO,List.take_of_length_le,jP,si]
 |.agg cs,ho=>by simp only[fz1,aS];exact jm a g cs ho
 |.tup cs,ho=>by simp only[fz1,aS];exact jm a g cs ho
 |.iface t x,ho=>by simp only[fz1,aS];exact⟨trivial,wI a g x ho⟩
 |.fn f xs ys,ho=>by simp only[fz1,aS];exact⟨trivial,jm a g xs ho.1,jm a g ys ho.2⟩
 |.mp i,_=>by
  grind [fz1,a',aS]
 |.p x,_=>by simp only[fz1,aS];exact eX _ _ _
 |.cp cs,_=>by simp only[fz1,aS]
 |.any,_=>by simp only[fz1,aS]
theorem jm{h:bv}{id:Nat}{b:Blk}(a:h id=some b)(e:jN b.cs):∀(vs:List AV),eU id b vs->aj h [id] (fun i=>i) (fJ id b vs) vs
 |[],_=>by simp[fJ,aj]
 |c::cs,ho=>by simp only[fJ,aj];exact⟨wI a e c ho.1,jm a e cs ho.2⟩
end
theorem Jv{id:Nat}{b:Blk}(a:List (Nat×AV))(s:Nat)(h:wH id b a):lk (yS id b a) s=fz1 id b (lk a s)/\xl id b (lk a s):=by
 induction a with
 |nil=>simp[yS,lk,fz1,xl]
 |cons x r e =>
  obtain⟨k,v⟩:=x;simp only[yS,iq];split
  .exact⟨rfl,h.1⟩
  .exact e h.2
theorem yT{id:Nat}{b:Blk}(a:List (Nat×Option Blk))(i:Nat)(h:sq id b a):hget (qR id b a) i=(hget a i).map (fun x=>⟨x.t,fJ id b x.cs⟩)/\∀x,hget a i=some x->eU id b x.cs:=by
 induction a with
 |nil=>simp[qR,hget]
 |cons x r g =>
  obtain⟨k,v⟩:=x;cases v with
  |none =>
   have:=g h
   grind [qR,hget,a']
  |some v =>
   have:=g h.2;simp only[qR,hget];cases e:a' k i<;>simp[this]
   .exact this.2
   .exact h.1
theorem wJ{h:bv}{S:List Nat}{σ:Nat->Nat}:∀{bs zas:List AV},aj h S σ bs zas->∀(j:Nat) (b:AV),bs[j]?=some b->∃a,zas[j]?=some a/\aS h S σ b a
 |[],_,_,j,b,hj=>by simp at hj
 |b::bs,[],hv,_,_,_=>by simp[aj] at hv
 |b::bs,a::zas,hv,0,c,hj=>by
  simp_all[aj]
 |b::bs,a::zas,hv,j+1,c,hj=>by
  simp only[aj] at hv;obtain⟨x,g,e⟩:=wJ hv.2 j c (by simpa using hj);simp_all
theorem yU{id:Nat}{b:Blk}{st:AS}(hb:hget st.hp id=some b)(K:jN b.cs)(hs:wH id b st.sl)(L:sq id b st.hp){c:Ctx}{ρ:aD}{F:aK}{a:Act}{w:World}(h:Conc c ρ F st a w) :
 Conc c ρ (jp F ρ [id]) (Fx id b st) a w:=by
 have M:=h.heap.restr [id];have n:hget st.hp id≠none:=by rw[hb];simp
 have hOlt:∀b,OSet ρ [id] b->b<w.heap.size/\(c.w0.heap.size<=b\/c.O b):=by
  rintro v ⟨i,m,l⟩;simp at m;subst m;refine⟨?_,h.own i v n l⟩;rcases h.heap.ok i b hb with⟨_,Q⟩|⟨W,q,ho⟩
  .rw[Q] at l;cases l
  .rw[l] at q;cases q;exact ho.lt
 have hg:∀i,hget (Fx id b st).hp i=if id=i then none else(hget st.hp i).map (fun x=>⟨x.t,fJ id b x.cs⟩):=by
  intro i;show(match a' id i with|true=>none|false=>hget (qR id b st.hp) i)=_;by_cases e:id=i
  .subst e;simp
  .rw[eN e,b0 e];exact(yT st.hp i L).1
 have g:∀i,hget (Fx id b st).hp i≠none->i≠id/\hget st.hp i≠none:=by
  intro i m;rw[hg] at m;by_cases e:id=i
  .simp[e] at m
  .refine⟨fun z=>e z.symm,fun z=>?_⟩;simp[e,z] at m
 refine⟨h.defers,h.size,fun s=>?_,⟨fun i k r=>?_,fun i j b m p h1 h2=>h.heap.inj i j b (g i m).2 (g j p).2 h1 h2⟩,h.fresh,?_,?_,fun i m=>h.dom i (g i m).2,fun i b m hb=>h.own i b (g i m).2 hb,h.keep,h.glob.mono (fun _ h => .inl h) (fun _ _=>rfl)⟩
 .simp only[Fx];obtain⟨R,S⟩:=Jv st.sl s hs;rw[R];exact kw M (fun _ _ h=>h) _ _ _ (wI hb K _ S) (h.slots s)
 .have A:hget (Fx id b st).hp i≠none:=by rw[r];simp
  obtain⟨N,u⟩:=g i A;rw[hg,b0 (fun e=>N e.symm)] at r;obtain⟨y,o⟩:=em.1 u;rw[o] at r;simp only[Option.map_some,Option.some.injEq] at r;subst r;have B:=(yT st.hp i L).2 y o;have hv:=jm hb K y.cs B;rcases h.heap.ok i y o with h1|⟨v,l,ho⟩
  .refine .inl ⟨?_,h1.2⟩;show fJ id b y.cs=[];rw[h1.1];rfl
  .refine .inr ⟨v,l,ho.view (fun C=>?_) rfl (eH hv) (fun _ h => .inl h) (fun f T j U p=>?_)⟩
   .rcases C with C|⟨j,p,D⟩
    .exact ho.own C
    .simp at p;subst p;have:=h.heap.inj j i v n u D l;exact N this.symm
   .obtain⟨x,V,I⟩:=wJ hv j U p;exact kw M (fun _ _ h=>h) _ _ _ I (T j x V)
 .rintro b (hb|hb)
  .exact h.fok b hb
  .exact(hOlt b hb).1
 .exact agR
def ZY(id:Nat)(st:AS):Option Blk->Prop
 |some b=>jN b.cs/\wH id b st.sl/\sq id b st.hp
 |none=>False
def QJ(id:Nat)(st:AS):Option Blk->AS
 |some b=>Fx id b st
 |none=>st
theorem gU{c:Ctx}{E:AS->Prop}(Y:XOk c E){ks:List Nat}{n:Nat}(id:Nat){f:FuncId}{vs:List AV}{o:Oper}{e:Array Oper}{os:List Oper}{k:List It}{st:AS}
 (hv:ZY id st (hget st.hp id)) (h:zn c (XW c E ks n) o e os k (QJ id st (hget st.hp id)) (aop c.P o.op (QJ id st (hget st.hp id)))):kv c f vs o e os k st:=by
 intro _ ρ F a w j;cases g:hget st.hp id with
 |none=>rw[g] at hv;exact hv.elim
 |some b =>
  rw[g] at hv h;exact oF (eT Y ks n) h ρ _ a w (yU g hv.1 hv.2.1 hv.2.2 j)
theorem cw{c:Ctx}{E:AS->Prop}(Y:XOk c E){ks:List Nat}{n:Nat}(id:Nat){k:List It}{st:AS}
 (hv:ZY id st (hget st.hp id)) (h:XW c E ks n k (QJ id st (hget st.hp id))):SAW c k st:=by
 intro ρ F a w g;cases e:hget st.hp id with
 |none=>rw[e] at hv;exact hv.elim
 |some b =>
  rw[e] at hv h;exact eT Y ks n _ _ h ρ _ a w (yU e hv.1 hv.2.1 hv.2.2 g)
theorem bl{α:Type}{c:Ctx}{E:AS->Prop}(Y:XOk c E)(h:∀i,c.ρ0 i≠none->False)(ks:List Nat){a:Code}{k:List It}{st:AS}(Inv:α->AS)(μ:α->Nat)(g:α)(S:List Nat)(σ:Nat->Nat)(hs:Sub S σ st (Inv g))
 (b:∀x,XW c E ks 2000 (.code a :: .inv (fun e=>∃y,μ y<μ x/\∃S σ,Sub S σ e (Inv y))::k) (Inv x)):SAW c (.code (.loop a)::k) st:=by
 refine ns Inv μ g S σ hs (fun i j=>(h i j).elim) fun x=>?_
 grind [eT]
theorem ay{c:Ctx}{E:AS->Prop}(Y:XOk c E)(m:∀i,c.ρ0 i≠none->False)(ks:List Nat){body:Code}{k:List It}{st:AS}(N:Nat)(Inv:Nat->AS)(S:List Nat)(σ:Nat->Nat)(hs:Sub S σ st (Inv 0))
 (g:∀i,i<=N->XW c E ks 2000 (.code body :: .inv (fun b=>i<N/\∃S σ,Sub S σ b (Inv (i+1)))::k) (Inv i)):SAW c (.code (.loop body)::k) st:=by
 refine ns (α:={i:Nat // i<=N}) (fun i=>Inv i.1) (fun i=>N-i.1) ⟨0,gi _⟩ S σ hs (fun i j=>(m i j).elim) fun x=>?_
 obtain⟨i,j⟩:=x;have h:=eT Y ks 2000 _ _ (g i j);intro ρ F a w hc;have key:∀e a w,Wk c (.inv (fun b=>i<N/\∃S σ,Sub S σ b (Inv (i+1)))::k) e a w->Wk c (.inv (fun b=>∃y:{i:Nat // i<=N},N-y.1<N-i/\∃S σ,Sub S σ b (Inv y.1)/\∀i,c.ρ0 i≠none->σ i=i)::k) e a w:=by
  intro e a w n;cases e with
  |normal =>
   obtain⟨ρ,F,b,⟨l,S,σ,hs⟩,hc⟩:=n;exact⟨ρ,F,b,⟨⟨i+1,l⟩,by show N-(i+1)<N-i;omega,S,σ,hs,fun i j=>(m i j).elim⟩,hc⟩
  |_=>exact n
 exact ahT
theorem eh{st a:AS}(n:a.n=st.n)(e:sC (hget st.hp) [] (fun i=>i) st.sl a.sl)(b:iU (hget st.hp) [] (fun i=>i) a.hp)(g:cP ((liveK a.hp).map fun i=>i)=true)(lt:dm a.nx (liveK a.hp)=true)(nx:st.nx<=a.nx) :
 ∃S σ,Sub S σ st a:=⟨[],fun i=>i,n,e,b,g,lt,trivial,fun _ h=>b' nx h⟩
theorem aA(l:List Nat){st a:AS}(n:a.n=st.n)(e:sC (hget st.hp) [] (sg st.nx l) st.sl a.sl)(b:iU (hget st.hp) [] (sg st.nx l) a.hp)(g:cP ((liveK a.hp).map (sg st.nx l))=true)(lt:dm a.nx (liveK a.hp)=true)(nx:l.length<=a.nx) :
 ∃S σ,Sub S σ st a:=⟨[],sg st.nx l,n,e,b,g,lt,trivial,fun _ h=>aw l _ _ (b' nx h)⟩
theorem bK{c:Ctx}{E:AS->Prop}(Y:XOk c E)(T:List Nat)(m:∀i,c.ρ0 i≠none->i∈T)(ks:List Nat){body:Code}{k:List It}{st:AS}(N:Nat)(Inv:Nat->AS)(S:List Nat)(σ:Nat->Nat)(hs:Sub S σ st (Inv 0))(o:∀i,i∈T->σ i=i)
 (g:∀i,i<=N->XW c E ks 2000 (.code body :: .inv (fun b=>i<N/\∃S σ,Sub S σ b (Inv (i+1))/\∀i,i∈T->σ i=i)::k) (Inv i)):SAW c (.code (.loop body)::k) st:=by
 refine ns (α:={i:Nat // i<=N}) (fun i=>Inv i.1) (fun i=>N-i.1) ⟨0,gi _⟩ S σ hs (fun i j=>o i (m i j)) fun x=>?_
 obtain⟨i,j⟩:=x;have h:=eT Y ks 2000 _ _ (g i j);intro ρ F a w hc;have key:∀e a w,Wk c (.inv (fun b=>i<N/\∃S σ,Sub S σ b (Inv (i+1))/\∀i,i∈T->σ i=i)::k) e a w->Wk c (.inv (fun b=>∃y:{i:Nat // i<=N},N-y.1<N-i/\∃S σ,Sub S σ b (Inv y.1)/\∀i,c.ρ0 i≠none->σ i=i)::k) e a w:=by
  intro e a w n;cases e with
  |normal =>
   obtain⟨ρ,F,b,⟨l,S,σ,hs,p⟩,hc⟩:=n;exact⟨ρ,F,b,⟨⟨i+1,l⟩,by show N-(i+1)<N-i;omega,S,σ,hs,fun i j=>p i (m i j)⟩,hc⟩
  |_=>exact n
 exact ahT
theorem kY(T:List Nat)(l:List Nat){st a:AS}(n:a.n=st.n)(e:sC (hget st.hp) [] (sg st.nx l) st.sl a.sl)(b:iU (hget st.hp) [] (sg st.nx l) a.hp)(g:cP ((liveK a.hp).map (sg st.nx l))=true)(lt:dm a.nx (liveK a.hp)=true)(nx:l.length<=a.nx)(j:∀i,i∈T->sg st.nx l i=i) :
 ∃S σ,Sub S σ st a/\∀i,i∈T->σ i=i:=⟨[],sg st.nx l,⟨n,e,b,g,lt,trivial,fun _ h=>aw l _ _ (b' nx h)⟩,j⟩
theorem DD{α:Type}{c:Ctx}{E:AS->Prop}(Y:XOk c E)(T:List Nat)(m:∀i,c.ρ0 i≠none->i∈T)(ks:List Nat){body:Code}{k:List It}{st:AS}(Inv:α->AS)(μ:α->Nat)(n:α)(S:List Nat)(σ:Nat->Nat)(hs:Sub S σ st (Inv n))(p:∀i,i∈T->σ i=i)
 (g:∀x,XW c E ks 2000 (.code body :: .inv (fun b=>∃y,μ y<μ x/\∃S σ,Sub S σ b (Inv y)/\∀i,i∈T->σ i=i)::k) (Inv x)):SAW c (.code (.loop body)::k) st:=by
 refine ns Inv μ n S σ hs (fun i j=>p i (m i j)) fun x=>?_
 have h:=eT Y ks 2000 _ _ (g x);intro ρ F a w hc;have key:∀e a w,Wk c (.inv (fun b=>∃y,μ y<μ x/\∃S σ,Sub S σ b (Inv y)/\∀i,i∈T->σ i=i)::k) e a w->Wk c (.inv (fun b=>∃y,μ y<μ x/\∃S σ,Sub S σ b (Inv y)/\∀i,c.ρ0 i≠none->σ i=i)::k) e a w:=by
  intro e a w o;cases e with
  |normal =>
   obtain⟨ρ,F,b,⟨y,l,S,σ,hs,q⟩,hc⟩:=o;exact⟨ρ,F,b,⟨y,l,S,σ,hs,fun i j=>q i (m i j)⟩,hc⟩
  |_=>exact o
 exact ahT
theorem aq{P:Program}{rs:List ResultVar}{v:AV}{T:List Nat}{u:List (Nat×Option Blk)}{st:AS}(l:List Nat){vs:List AV}(g:jV P st rs=some vs)(hv:aS (hget st.hp) [] (sg st.nx l) v (retV vs))(h:iU (hget st.hp) [] (sg st.nx l) u)
 (j:cP (keys u)=true) (b:cP ((liveK u).map (sg st.nx l))=true) (e:∀i,i∈T->sg st.nx l i=i/\i∈keys u) (k:∀i,i∉liveK u->l.length<=i):xk P rs v T u st :=
 .inl ⟨[],sg st.nx l,⟨vs,g,hv⟩,h,j,b,trivial,fun i a=>⟨fun _=>(e i a).1,(e i a).2⟩,fun i a=>aw l _ i (k i a)⟩
theorem aR{P:Program}{rs:List ResultVar}{v:AV}{T:List Nat}{u:List (Nat×Option Blk)}{st:AS}(l:List Nat){vs:List AV}(b:jV P st rs=some vs)(hv:aS (hget st.hp) [] (sg st.nx l) v (retV vs))(e:iU (hget st.hp) [] (sg st.nx l) u)
 (g:cP (keys u)=true) (a:cP ((liveK u).map (sg st.nx l))=true) (h:∀i,i∈T->(i∈liveK u->sg st.nx l i=i)/\i∈keys u) (j:∀i,i∉liveK u->st.nx<=sg st.nx l i):xk P rs v T u st :=
 .inl ⟨[],sg st.nx l,⟨vs,b,hv⟩,e,g,a,trivial,h,j⟩
theorem pz{h:bv}{S:List Nat}{σ:Nat->Nat}:∀{xs cs:List AV} (bs ds:List AV),aj h S σ xs cs->aj h S σ bs ds->aj h S σ (xs++bs) (cs++ds)
 |[],cs,bs,ds,h1,h2=>by simp only[aj] at h1;subst h1;exact h2
 |a::xs,[],bs,ds,h1,_=>by simp[aj] at h1
 |a::xs,c::cs,bs,ds,h1,h2=>by
  simp only[aj] at h1;simp only[List.cons_append,aj];exact⟨h1.1,pz bs ds h1.2 h2⟩
theorem yV{st:AS}{vs b:List AV}{v0:AV}{a:List (Nat×Option Blk)}{m:Nat}(e:fzL st.hp vs=b)(ho:ik st.hp vs)(g:dm st.nx (dj vs)=true)(n:cP ((keys a).map (iT st.nx))=true)(h:dm m (keys a)=true)(j:ax (keys a) v0)(k:bV (keys a) a) :
 mq st vs b [] v0 a (dj vs) (iT st.nx) (st.nx+m) :=
 ⟨by rw[<-e];exact kX _ _ _ vs (fun i l=>l) ho,trivial,n,nj (jk _ _ ho),ω,fun i l => .inr (by have:=fM h l;unfold iT;omega),j,k,g⟩
theorem io{c:Ctx}{E:AS->Prop}(Y:XOk c E){ks:List Nat}{n:Nat}{f:FuncId}{vs b:List AV}{v0:AV}{a:List (Nat×Option Blk)}{o:Oper}{g:Array Oper}{os:List Oper}{k:List It}{st:AS}(m:Nat)
 (e:fzL st.hp vs=b) (ho:ik st.hp vs) (j:dm st.nx (dj vs)=true) (r:Con c.P f b [] v0 a) (s:cP ((keys a).map (iT st.nx))=true) (l:dm m (keys a)=true) (p:ax (keys a) v0) (q:bV (keys a) a)
 (h:XW c E ks n (.ops g os::k) (eff st o.dst (renA (iT st.nx) v0) (renU (iT st.nx) a++fg (dj vs)) (st.nx+m))):kv c f vs o g os k st :=
 co Y (ks:=ks) (n:=n) (dj vs) (iT st.nx) (st.nx+m) r (yV e ho j s l p q) h
theorem ip{c:Ctx}{E:AS->Prop}(Y:XOk c E){ks:List Nat}{n:Nat}{f:FuncId}{vs b:List AV}{v0:AV}{a:List (Nat×Option Blk)}{o:Oper}{g:Array Oper}{os:List Oper}{j:List FP}{k:List It}{st:AS}(m:Nat)
 (e:fzL st.hp vs=b) (ho:ik st.hp vs) (l:dm st.nx (dj vs)=true) (s:Con c.P f b [] v0 a) (t:cP ((keys a).map (iT st.nx))=true) (p:dm m (keys a)=true) (q:ax (keys a) v0) (r:bV (keys a) a)
 (u:dm (st.nx+m) (dj vs)=true)
 (h:DK c ks (XW c E ks n) g k os (j++[(dj vs,keys (renU (iT st.nx) a)++dj vs)]) (eff st o.dst (renA (iT st.nx) v0) (renU (iT st.nx) a++fg (dj vs)) (st.nx+m))):uM c f vs o g os j k st:=by
 apply sm Y (ks:=ks) (n:=n) (dj vs) (iT st.nx) (st.nx+m) s (yV e ho l t p q r) (by simpa[liveK] using u);simp_all[liveK,uO,mr]
structure XK(P:Program)(ks:List Nat)(c:Ctx)(E:AS->Prop):Prop where
 p:c.P=P
 ok:XOk c E
class IsC(G:Prop)(c:Ctx)(E:AS->Prop)(ks:List Nat)(f:outParam FuncId)(vs:outParam (List AV))(st:outParam AS)(d:outParam (Option Nat))(H:outParam (List FP->AS->Prop)):Prop where
 call:XOk c E->∀v,FPure c.P f vs v->H [([],[])] (put st d v)->G
 con:XOk c E->∀{vs0:List AV} {hp0:List (Nat×Option Blk)} {v0:AV} {u0:List (Nat×Option Blk)} (S:List Nat) (τ:Nat->Nat) (nx:Nat),Con c.P f vs0 hp0 v0 u0->mq st vs vs0 hp0 v0 u0 S τ nx->dm nx ((liveK hp0).map τ++S)=true ->
  H [((liveK hp0).map τ++S,keys (renU τ u0++fg S))] (eff st d (renA τ v0) (renU τ u0++fg S) nx)->G
instance {c:Ctx}{E:AS->Prop}{ks:List Nat}{f:FuncId}{vs:List AV}{o:Oper}{all:Array Oper}{os:List Oper}{k:List It}{st:AS}:IsC (kv c f vs o all os k st) c E ks f vs st o.dst (fun _ s=>XW c E ks 2000 (.ops all os::k) s) :=
 ⟨fun Y _ hf h=>iD Y hf h,fun Y=>fun S τ nx hf hk _ h=>co Y S τ nx hf hk h⟩
instance {c:Ctx}{E:AS->Prop}{ks:List Nat}{f:FuncId}{vs:List AV}{o:Oper}{all:Array Oper}{os:List Oper}{acc:List FP}{k:List It}{st:AS}:IsC (uM c f vs o all os acc k st) c E ks f vs st o.dst (fun l s=>DK c ks (XW c E ks 2000) all k os (acc++l) s) :=
 ⟨fun Y _ hf h=>iE Y hf h,fun Y=>fun S τ nx hf hk hl h=>sm Y S τ nx hf hk hl h⟩
end
section
variable {P : Program}
variable {G : Prop} {ks : List Nat} {c : Ctx} {E : AS → Prop} {f : FuncId} {vs : List AV} {st : AS} {d : Option Nat} {H : List FP → AS → Prop} (hK : XK P ks c E) [i : IsC G c E ks f vs st d H]
include hK
theorem aa{v:AV}(a:FPure P f vs v)(h:H [([],[])] (put st d v)):G:=i.call hK.ok v (hK.p.symm ▸ a) h
theorem Hg{a:List AV}{hp0:List (Nat×Option Blk)}{v0:AV}{b:List (Nat×Option Blk)}(S:List Nat)(τ:Nat->Nat)(nx:Nat)(e:Con P f a hp0 v0 b)(g:mq st vs a hp0 v0 b S τ nx)(j:dm nx ((liveK hp0).map τ++S)=true)
 (h:H [((liveK hp0).map τ++S,keys (renU τ b++fg S))] (eff st d (renA τ v0) (renU τ b++fg S) nx)):G:=i.con hK.ok S τ nx (hK.p.symm ▸ e) g j h
theorem QK{a:List AV}{v:AV}(g:FPure P f a v)(e:fzL st.hp vs=a)(ho:ik st.hp vs)(b:dm st.nx (dj vs)=true)(hv:ax [] v)(h:H [(dj vs,dj vs)] (eff st d v (fg (dj vs)) st.nx)):G:=by
 apply Hg hK (dj vs) (fun i=>i) st.nx (g.con (by rw[<-e];exact nY _ _ _)) (sn e ho b hv) (by simpa[liveK] using b);simp_all[qQ,liveK,renU,mr]
end
abbrev wd(x:UInt64):PV := .v (.int .u64 (x.toNat:Int))
abbrev AV.w(x:UInt64):AV := .p (wd x)
abbrev AV.y(x:UInt8):AV := .p (.v (.int .u8 (x.toNat:Int)))
theorem fY(n:Int):c'.wrap n=n % 18446744073709551616:=by
 simp[IntKind.wrap,IntKind.bits,IntKind.signed]
theorem dh(n:Int):IntKind.u8.wrap n=n % 256:=by
 simp[IntKind.wrap,IntKind.bits,IntKind.signed]
theorem ab{n:Int}(h1 : -9223372036854775808<=n)(h2:n<=9223372036854775807):IntKind.i64.wrap n=n:=by
 rw[IntKind.wrap_i64];omega
theorem ao{n:Int}(h1:0<=n)(h2:n<18446744073709551616):c'.wrap n=n:=by
 rw[fY];omega
theorem g6(x y:UInt64):c'.wrap ((x.toNat:Int)+(y.toNat:Int))=((x+y).toNat:Int):=by
 rw[fY,UInt64.toNat_add];omega
theorem sr(x:UInt64):d' 64 (x.toNat:Int)=x.toBitVec:=by
 rw[e'];exact BitVec.eq_of_toNat_eq (by rw[f'];exact ie x.toBitVec.isLt)
theorem ua(b:BitVec 64):c'.wrap (b.toNat:Int)=(b.toNat:Int):=by
 have:=b.isLt;rw[fY];omega
theorem fK(x y:UInt64):kq .u64 (x.toNat:Int) (y.toNat:Int)=((x ^^^ y).toNat:Int):=by
 show c'.wrap (((d' 64 (x.toNat:Int)) ^^^ (d' 64 (y.toNat:Int))).toNat:Int)=_;rw[sr,sr,ua];rfl
theorem pA(x y:UInt64):bor .u64 (x.toNat:Int) (y.toNat:Int)=((x ||| y).toNat:Int):=by
 show c'.wrap (((d' 64 (x.toNat:Int)) ||| (d' 64 (y.toNat:Int))).toNat:Int)=_;rw[sr,sr,ua];rfl
theorem j9(x y:UInt64):band .u64 (x.toNat:Int) (y.toNat:Int)=((x &&& y).toNat:Int):=by
 show c'.wrap (((d' 64 (x.toNat:Int)) &&& (d' 64 (y.toNat:Int))).toNat:Int)=_;rw[sr,sr,ua];rfl
def eJ(x:UInt64)(n:Nat):UInt64:=UInt64.ofNat (x.toNat*2^n)
def fu(x:UInt64)(n:Nat):UInt64:=UInt64.ofNat (x.toNat/2^n)
theorem kZ(x:UInt64)(n:Int)(h:n.toNat<=64):iF .u64 (x.toNat:Int) n=((eJ x n.toNat).toNat:Int):=by
 show c'.wrap ((x.toNat:Int)*2^(min n.toNat 64))=_;rw[Nat.min_eq_left h,fY];unfold eJ;rw[gr,Int.natCast_emod,Int.natCast_mul,Int.natCast_pow];rfl
theorem oz(x:UInt64)(n:Int)(h:n.toNat<=64):ishr .u64 (x.toNat:Int) n=((fu x n.toNat).toNat:Int):=by
 show Int.fdiv (x.toNat:Int) (2^(min n.toNat 64))=_;rw[Nat.min_eq_left h];unfold fu;have a:x.toNat/2^n.toNat<18446744073709551616:=Nat.lt_of_le_of_lt (Nat.div_le_self _ _) x.toNat_lt;rw[gr,ie (by simpa using a)];have e:((2:Int)^n.toNat)=((2^n.toNat:Nat):Int):=by rw[Int.natCast_pow];rfl
 rw[e,Int.fdiv_eq_ediv_of_nonneg _ (Int.natCast_nonneg _)];rfl
def oA(x:UInt64)(n:Nat):UInt64:=eJ x n ||| fu x (64-n)
theorem lX(n:Nat)(h:n<18446744073709551616):(n:Int)=((UInt64.ofNat n).toNat:Int):=by
 rw[gr,ie χ]
theorem sw(a:Nat)(ha:a<18446744073709551616):(d' 64 (a:Int)).toNat=a:=by
 rw[e',f'];exact ie (by simpa using ha)
theorem qU(a b:Nat)(ha:a<18446744073709551616)(e:b<18446744073709551616):band .u64 (a:Int) (b:Int)=((a &&& b:Nat):Int):=by
 show c'.wrap (((d' 64 (a:Int)) &&& (d' 64 (b:Int))).toNat:Int)=_;rw[ua,BitVec.toNat_and,sw a ha,sw b e]
theorem ZZ(k:Nat)(a:k<64):band .u64 (k:Int) 63=(k:Int):=by
 have:=qU k 63 ω ω;rw[show((63:Nat):Int)=63 from rfl] at this;rw[this,show(63:Nat)=2^6-1 from rfl,Nat.and_two_pow_sub_one_eq_mod,ie (by simpa using a)]
theorem dS(x:UInt8):c'.wrap (x.toNat:Int)=((x.toUInt64).toNat:Int):=by
 have:=x.toNat_lt;rw[ao ω ω];simp
theorem AN(bs:List UInt8)(i:Nat):gE (.v (.int .u8 0)) ((bs.map bt).drop i)=bt (bs.getD i 0):=by
 induction bs generalizing i with
 |nil=>simp[gE,bt]
 |cons b r a=>cases i with
  |zero=>simp[gE]
  |succ i=>simpa using a i
theorem AO(a:List UInt64)(i:Nat):gE (.v (.int .u64 0)) ((a.map wd).drop i)=wd (a.getD i 0):=by
 induction a generalizing i with
 |nil=>simp[gE]
 |cons b r e=>cases i with
  |zero=>simp[gE]
  |succ i=>simpa using e i
theorem AP(bs:List UInt8)(a b:Nat):((bs.map bt).drop a).take b=((bs.drop a).take b).map bt:=by
 rw[<-List.map_drop,<-List.map_take]
theorem QL(bs:List UInt8)(b:Nat):(bs.map bt).take b=(bs.take b).map bt:=List.map_take.symm
def cb(bs:List UInt8):List AV:=(bs.map bt).map .p
theorem dl(bs:List UInt8):(bs.map bt).map AV.p=cb bs:=rfl
theorem wK:cb []=[]:=rfl
@[simp] theorem wL(bs:List UInt8):(cb bs).length=bs.length:=by simp[cb]
theorem fZ(bs:List UInt8)(x:UInt8):cb bs++[.p (.v (.int .u8 (x.toNat:Int)))]=cb (bs++[x]):=by simp[cb,bt]
theorem dX(bs cs:List UInt8):cb bs++cb cs=cb (bs++cs):=by simp[cb]
theorem uc(bs:List UInt8)(n:Nat):(cb bs).drop n=cb (bs.drop n):=by simp[cb]
theorem AQ(bs:List UInt8)(n:Nat):(cb bs).take n=cb (bs.take n):=by simp[cb]
theorem NW(bs:List UInt8)(n:Nat)(x:UInt8):(cb bs).set n (.p (.v (.int .u8 (x.toNat:Int))))=cb (bs.set n x):=by simp[cb,bt,List.map_set]
theorem aC(h:bv)(S:List Nat)(σ:Nat->Nat)(bs:List UInt8):aj h S σ (cb bs) (cb bs):=aL h S σ _
theorem Hh(bs:List UInt8)(i:Nat):ag (.v (.int .u8 0)) ((cb bs).drop i) = .p (bt (bs.getD i 0)):=by
 induction bs generalizing i with
 |nil=>simp[ag,bt,cb]
 |cons b r a=>cases i with
  |zero=>simp[ag,cb]
  |succ i=>simpa[cb] using a i
theorem NX(bs:List UInt8)(i:Nat):ag (.v (.int .u8 0)) (cb (bs.drop i)) = .p (bt (bs.getD i 0)):=by
 rw[<-uc];exact Hh bs i
theorem AR(bs:List UInt8):iY (cb bs):=by
 intro c a;obtain⟨x,_,rfl⟩:=o4.1 a;trivial
theorem cm(T:List Nat)(bs:List UInt8):ak T (cb bs):=aM T _
theorem QM(τ:Nat->Nat)(bs:List UInt8):eu τ (cb bs)=cb bs:=cT τ _
theorem QN(bs:List UInt8):fD (cb bs)=bs.map bt:=by
 unfold fD cb;rw[List.map_map]
 conv=>rhs;rw[<-List.map_id (bs.map bt)]
 exact List.map_congr_left fun x _=>rfl
theorem aH(x:UInt64):IntKind.u8.wrap (x.toNat:Int)=((x.toUInt8).toNat:Int):=by
 rw[dh,UInt64.toNat_toUInt8];omega
theorem bS(bs:List UInt8):eV (bs.map bt)=bs:=by
 unfold eV;rw[List.map_map]
 conv=>rhs;rw[<-List.map_id bs]
 refine List.map_congr_left fun x _=>?_
 simp[unB,bt]
theorem bL(bs:List UInt8):uh (bs.map bt):=by
 intro c a;obtain⟨x,_,rfl⟩:=o4.1 a;exact⟨x,rfl⟩
theorem lY(bs:List UInt8):jN (cb bs):=aG _
theorem lZ(bs:List UInt8):jO (cb bs)=bs.map bt:=aJ _
theorem ej(id:Nat)(b:Blk):∀(l:List AV),iY l->fJ id b l=l
 |[],_=>rfl
 |a::l,h=>by
  have h1:isP a:=h a η;cases a<;>simp only[isP] at h1;simp only[fJ,fz1,ej id b l fun c e=>h c (by simp[e])]
theorem dx(id:Nat)(b:Blk):∀(l:List AV),iY l->eU id b l
 |[],_=>trivial
 |a::l,h=>by
  have h1:isP a:=h a η;cases a<;>simp only[isP] at h1;exact⟨trivial,dx id b l fun c e=>h c (by simp[e])⟩
theorem QO(id:Nat)(b:Blk)(bs:List UInt8):fJ id b (cb bs)=cb bs:=ej id b _ (AR bs)
theorem NY(id:Nat)(b:Blk)(bs:List UInt8):eU id b (cb bs):=dx id b _ (AR bs)

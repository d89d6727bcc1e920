/- own work: steps of the proof -/
import Derived.Test.YtgnmplopdkgccaaGreatDoorAbsK
import Derived.LoopN
set_option linter.all false
open Array renaming eq_empty_of_size_eq_zero→c',getElem?_setIfInBounds_ne→d',getD→e',all_eq_true_iff_forall_mem→g',getElem?_eq_some_iff→h'
open Nat renaming blt→i',beq→k',blt_eq→l'
open List renaming mem_append_left→m',any_eq_true→p',mem_append_right→q',mem_cons_of_mem→v',mem_of_find?_eq_some→x',pairwise_append→y'
open Option renaming getD_some→z',some→A'
open Bool renaming and_eq_true→B',not_eq_true'→C',or_eq_true→D'
namespace Go.Abs
open RowKit
section
variable {P : Program}
def uA(P:Program)(o:Oper)(st:AS)(f:FuncId)(vs:List AV):Prop :=
 ∀(ρ:aD) (F:aK) (a:Act) (w:World),(∀x,x∈o.op.operands.toList->Rd ρ F w (ev st x) (a.eval x)) ->
  ∃us:Array Value,us.size=vs.length/\(∀j c,vs[j]?=some c->Rd ρ F w c (us.getD j undef))/\(execOp a.eval o).run P w=(callFunc f us).run P w
theorem qX{ρ:aD}{F:aK}{w:World}{us vs:Array Value}{xs ys:List AV}(h1:us.size=xs.length)(h2:vs.size=ys.length)
 (a:∀j c,xs[j]?=some c->Rd ρ F w c (us.getD j undef)) (b:∀j c,ys[j]?=some c->Rd ρ F w c (vs.getD j undef)) :
 (us++vs).size=(xs++ys).length/\∀j c,(xs++ys)[j]?=some c->Rd ρ F w c ((us++vs).getD j undef):=by
 grind [undef,eo]
theorem Hu{t:TypeId}{a:String}{f:FuncId}(h:Bi P t a=some f)(v:Value)(w:World):∀b,(method (b+1) t v a).run P w = .ok (f,v) w:=by
 intro b;unfold Bi at h;split at h
 .rename_i i d n o;split at h
  .rename_i m p;have g:(typeInfo t).run P w = .ok i w:=by simp[typeInfo,n]
   split at h
   .rename_i q j l r;injection h with h;subst h;have c:m.path=#[]:=by simpa using dZ j
    have s:∃e,d = .pointer e:=by cases d<;>first|exact⟨_,rfl⟩|cases r
    obtain⟨e,rfl⟩:=s;simp_all[method,follow,receiverAt,qs,Place.get]
   .cases h
   .rename_i q j l k;injection h with h;subst h;have c:m.path=#[]:=by simpa using dZ j
    simp only[method,hW,g,ez,p,c,List.toList_toArray,follow,lh,l,receiverAt,qs o];cases d<;>first|(exact s5 rfl k)|(simp[Place.get])
   .cases h
  .cases h
 .cases h
theorem Bn{o:Oper}{st:AS}{f:FuncId}{vs:List AV}(h:aop P o.op st = .call f vs):uA P o st f vs:=by
 cases ho:o.op with
 |call c =>
  have⟨q,e,O⟩:=c;rw[ho] at h;simp only[aop] at h;cases q with
  |builtin b =>
   exfalso;simp only[ux] at h;unfold Bk at h
   repeat' split at h
   all_goals first|(cases h;done)|skip
   all_goals first
    |(unfold N3 at h;repeat' split at h)
    |(unfold FB at h;repeat' split at h)
    |(unfold FC at h;repeat' split at h)
    |(unfold gG at h;repeat' split at h)
    |(unfold xv at h;repeat' split at h)
    |(unfold un at h;repeat' split at h)
    |(unfold Od at h;repeat' split at h)
    |(unfold FN at h;repeat' split at h)
    |(unfold FK at h;repeat' split at h)
    |(unfold FL at h;repeat' split at h)
   all_goals cases h
  |value g =>
   simp only[ux] at h;intro ρ F a w k;have hg:=k g ψ;have⟨E,G⟩:=y7 (xs:=e) (st:=st) (a:=a) (ρ:=ρ) (F:=F) (w:=w) (fun x n=>k x (by simp[ho,Op.operands,Call.operands,n]));unfold uw at h;split at h
   .rename_i fi A bs n;split at h
    .rename_i ha Q;injection h with h1 h2;subst h1 h2;rw[n] at hg;have H:A=#[]:=c' (ef ha);have I:bs=#[]:=c' (ef Q);subst H I;refine⟨_,E,G,?_⟩;simp only[execOp,ho,resolve,hg.pv,Deferred.ofValue,hW,lh,ez,invoke];simp
    .cases h
   .rename_i fi A bs n;injection h with h1 h2;subst h1 h2;rw[n] at hg;generalize hv:a.eval g=v at hg;cases hg with
    |fn _ _ _ us vs hl K hl' hr' =>
     have⟨L,M⟩:=qX hl E K G;have⟨S,T⟩:=qX L hl' M hr';refine⟨_,S,T,?_⟩;simp only[execOp,ho,resolve,hv,Deferred.ofValue,hW,lh,ez,invoke]
   .cases h
  |invoke r m =>
   simp only[ux] at h;intro ρ F a w k;have hg:=k r ψ;have⟨E,G⟩:=y7 (xs:=e) (st:=st) (a:=a) (ρ:=ρ) (F:=F) (w:=w) (fun x n=>k x (by simp[ho,Op.operands,Call.operands,n]));have fin:∀(t:TypeId) (x:AV) (u:Value),a.eval r = .iface t u->Rd ρ F w x u->(∃z,Bi P t m=some z/\z=f)->vs=x::evs st e.toList ->
    ∃us:Array Value,us.size=vs.length/\(∀j c,vs[j]?=some c->Rd ρ F w c (us.getD j undef))/\(execOp a.eval o).run P w=(callFunc f us).run P w:=by
    intro t x u hv K ⟨z,B,hff⟩ hvs;subst hff hvs
    have⟨L,M⟩:=qX (us:=#[u]) (xs:=[x]) rfl E (fun j c N=>by
     cases j with
     |zero=>simp at N;subst N;simpa using K
     |succ j=>simp at N) G
    refine⟨#[u]++e.map a.eval,L,M,?_⟩;have C:=Hu (P:=P) B u w (P.types.size+Made.depth-1);have D:P.types.size+Made.depth-1+1=P.types.size+Made.depth:=by
     have:0<Made.depth:=ε;omega
    rw[D] at C;simp only[execOp,ho,resolve,hv,hW,lh,ez,invoke];have U:(#[Value.iface t u]++e.map a.eval)[0]?=some (.iface t u):=by rw[Array.getElem?_append_left η];rfl
    have V:(#[Value.iface t u]++e.map a.eval).extract 1 (#[Value.iface t u]++e.map a.eval).size=e.map a.eval:=by
     apply Array.ext';simp;exact cD η
    simp only[U,V,callMethod,hW,run_program,ez,C]
   unfold tC at h;split at h
   .rename_i t x n;unfold Bj at h;split at h
    .rename_i z B;injection h with h1 h2;rw[n] at hg;generalize hv:a.eval r=v at hg;cases hg with
     |iface _ _ u hu=>exact fin t x u hv hu ⟨z,B,h1⟩ h2.symm
    .cases h
   .rename_i t x n;unfold Bj at h;split at h
    .rename_i z B;injection h with h1 h2;rw[n] at hg;generalize hv:a.eval r=v at hg;cases hg with
     |p _ _ hu =>
      cases hu with
      |iface _ _ u hu=>exact fin t (unI x) u hv (Rt hu) ⟨z,B,h1⟩ h2.symm
    .cases h
   .cases h
 |pick c a b=>exfalso;rw[ho] at h;simp only[aop] at h;unfold Fy at h;split at h<;>simp[R.pure] at h
 |alloc t=>exfalso;rw[ho] at h;simp only[aop] at h;unfold yX at h;(repeat' split at h)<;>cases h
 |box t x=>exfalso;rw[ho] at h;simp only[aop] at h;unfold N1 at h;(repeat' split at h)<;>cases h
 |build t parts=>exfalso;rw[ho] at h;simp only[aop] at h;unfold oE at h;(repeat' split at h)<;>simp[R.pure] at h
 |buildSlice t l parts=>exfalso;rw[ho] at h;simp only[aop] at h;unfold g7 at h;(repeat' split at h)<;>cases h
 |load t x=>exfalso;rw[ho] at h;simp only[aop] at h;unfold xm at h;split at h<;>first|(unfold Fz at h;(repeat' split at h)<;>cases h)|((repeat' split at h)<;>simp[R.pureS] at h)|cases h
 |store t x y=>exfalso;rw[ho] at h;simp only[aop] at h;unfold ue at h;split at h<;>first|(unfold yY at h;(repeat' split at h)<;>cases h)|cases h
 |nilCheck x=>exfalso;rw[ho] at h;simp only[aop] at h;unfold Oe at h;split at h<;>simp[R.pure] at h
 |binOp op t x y t' =>
  exfalso;rw[ho] at h;simp only[aop] at h;unfold JB at h;split at h
  .unfold lc at h;split at h<;>simp[R.pure,R.pureS] at h
  .unfold N2 at h;split at h<;>simp[R.pure,R.pureS] at h
  .unfold FA at h;(repeat' split at h)<;>simp[R.pure] at h
  .exact agf
  .exact agf
  .exact agf
  .exact agf
  .split at h<;>first|cases h;done|(unfold DE at h;(repeat' split at h)<;>simp[R.pure] at h)
  .exact agf
  .exact agf
  .exact agf
  .cases h
 |unOp op t x=>exfalso;rw[ho] at h;simp only[aop] at h;unfold unR at h;split at h<;>simp[R.pure] at h
 |convert s d x=>exfalso;rw[ho] at h;simp only[aop] at h;unfold Bh at h;(repeat' split at h)<;>simp[R.pure,R.pureS] at h
 |makeInterface t x=>exfalso;rw[ho] at h;simp only[aop] at h;unfold zl at h;split at h<;>simp[R.pure] at h
 |makeSlice t x y=>exfalso;rw[ho] at h;simp only[aop] at h;unfold ul at h;(repeat' split at h)<;>cases h
 |slice t x lo hi mx=>exfalso;rw[ho] at h;simp only[aop] at h;unfold uv at h;(repeat' split at h)<;>simp[R.pureS] at h
 |fieldAddr t x f=>exfalso;rw[ho] at h;simp only[aop] at h;unfold uf at h;(repeat' split at h)<;>simp[R.pure] at h
 |field t x f=>exfalso;rw[ho] at h;simp only[aop] at h;unfold ug at h;(repeat' split at h)<;>simp[R.pureS] at h
 |indexAddr t x y=>exfalso;rw[ho] at h;simp only[aop] at h;unfold ui at h;(repeat' split at h)<;>simp[R.pureS] at h
 |index t x y=>exfalso;rw[ho] at h;simp only[aop] at h;unfold AT at h;(repeat' split at h)<;>simp[R.pureS] at h
 |extract x i=>exfalso;rw[ho] at h;simp only[aop] at h;unfold pC at h;(repeat' split at h)<;>simp[R.pure] at h
 |makeMap t r=>exfalso;rw[ho] at h;cases r<;>simp[aop] at h
 |mapUpdate t m x y=>exfalso;rw[ho] at h;simp only[aop] at h;unfold FM at h;(repeat' split at h)<;>cases h
 |lookup t m x c=>exfalso;rw[ho] at h;cases c<;>simp only[aop] at h<;>first|(cases h;done)|(unfold zk at h;(repeat' split at h)<;>cases h)
 |_=>exfalso;rw[ho] at h;simp[aop,R.pure] at h
def CallW(P:Program)(f:FuncId)(us:Array Value)(w:World)(R:Value->World->Prop):Prop :=
 ((callFunc f us).run P w = .ok (.enter f us) w/\Calls P f us w fun e w'=>∃x,e = .returned x/\R x w')\/∃x w',(callFunc f us).run P w = .ok (.value x) w'/\R x w'
theorem CallW.upon{f:FuncId}{us:Array Value}{w:World}{R:Value->World->Prop}(h:CallW P f us w R){o:Oper}{a:Act}{K:Act->World->Prop}{Q:Exit->Act->World->Prop}(c:∀x w',R x w'->K (a.put o.dst x) w') :
 o.upon P a K Q ((callFunc f us).run P w):=by
 rcases h with⟨b,h⟩|⟨x,w',b,h⟩
 .rw[b,Oper.upon_enter];apply h.mono;simp_all
 .simp_all[Oper.upon_value]
structure FCall(P:Program)(f:FuncId)(vs:List AV)(h:bv)(v:AV)(T:List Nat)(u:List (Nat×Option Blk)):Prop where
 tri:∀(ρ:aD) (F:aK) (us:Array Value) (w:World),Pre ρ F w T u h->us.size=vs.length->(∀j c,vs[j]?=some c->Rd ρ F w c (us.getD j undef)) ->
  CallW P f us w (fun x w'=>∃ ρ' F',Post ρ F w T u h v x ρ' F' w')
theorem FCall.calls{f:FuncId}{vs:List AV}{h:bv}{v:AV}{T:List Nat}{u:List (Nat×Option Blk)}(a:FCall P f vs h v T u)(i:∀us w,(callFunc f us).run P w = .ok (.enter f us) w){ρ:aD}{F:aK}{us:Array Value}{w:World}
 (b:Pre ρ F w T u h) (d:us.size=vs.length) (g:∀j c,vs[j]?=some c->Rd ρ F w c (us.getD j undef)):Calls P f us w (fun e w'=>∃x ρ' F',e = .returned x/\Post ρ F w T u h v x ρ' F' w'):=by
 rcases a.tri ρ F us w b d g with⟨_,h⟩|⟨x,w',h,_⟩
 .simp_all
 .simp_all
theorem FO{o:Oper}{st:AS}{f:FuncId}{vs:List AV}{v:AV}{T:List Nat}{u:List (Nat×Option Blk)}{nx:Nat}(b:uA P o st f vs)(c:FCall P f vs (hget st.hp) v T u)(le:st.nx<=nx)
 (keysOk:∀i,i∈keys u->i∈T\/(st.nx<=i/\i<nx)) (live:∀i,i∈T->hget st.hp i≠none):OpOk P o st v T u nx where
 tri ρ F a w hpre hin K Q hK:=by
  have⟨us,d,e,g⟩:=b ρ F a w hin;unfold Oper.wp;rw[g];refine(c.tri ρ F us w hpre d e).upon ?_
  grind
 le:=le
 keysOk:=keysOk
 live:=live
end
inductive It where
 |code (c:Code)
 |ops (all:Array Oper) (l:List Oper)
 |blk (id:Nat)
 |inv (zzJ:AS->Prop)
def Wk(c:Ctx):List It->Exit->Act->World->Prop
 |[],e,a,w=>bodyPost c.P c.fn c.R e a w
 |.code x::k,.normal,a,w=>x.wp c.P (Wk c k) a w
 |.ops all l::k,.normal,a,w=>wpList c.P all (Wk c k) l a w
 |.blk _::k,.normal,a,w=>Wk c k .normal a w
 |.blk id::k,.exit i,a,w=>if i=id then Wk c k .normal a w else Wk c k (.exit i) a w
 |.inv zzJ::_,.normal,a,w=>∃ ρ F st,zzJ st/\Conc c ρ F st a w
 |_::k,e,a,w=>Wk c k e a w
def SAW(c:Ctx)(k:List It)(st:AS):Prop:=∀ ρ F a w,Conc c ρ F st a w->Wk c k .normal a w
def SOp(c:Ctx)(o:Oper)(all:Array Oper)(os:List Oper)(k:List It)(st:AS):Prop :=
 ∀ ρ F a w,Conc c ρ F st a w->o.wp c.P a w (wpList c.P all (Wk c k) os) (Wk c k)
def kv(c:Ctx)(f:FuncId)(vs:List AV)(o:Oper)(all:Array Oper)(os:List Oper)(k:List It)(st:AS):Prop :=
 uA c.P o st f vs->SOp c o all os k st
def ll:List Nat->Nat->Bool
 |[],_=>false
 |k::r,n=>match k' k n with|true=>true|false=>ll r n
def hpr(seen:List Nat):List (Nat×Option Blk)->List (Nat×Option Blk)
 |[]=>[]
 |(k,b)::r=>match ll seen k,b with
  |true,_=>hpr seen r
  |false,some b=>(k,some b)::hpr (k::seen) r
  |false,none=>hpr (k::seen) r
def xA(sl:List (Nat×AV)):List Nat->List (Nat×AV)
 |[]=>[]
 |k::r=>(k,lk sl k)::xA sl r
def prune(ks:List Nat)(st:AS):AS:=⟨st.n,xA st.sl ks,hpr [] st.hp,st.nx⟩
def mn(id:Nat):List It->Option (List It)
 |[]=>none
 |.blk i::k=>match k' i id with|true=>some k|false=>mn id k
 |.code _::k=>mn id k
 |.ops _ _::k=>mn id k
 |.inv _::k=>mn id k
def JW(rec:List It->AS->Prop)(st:AS):Option (List It)->Prop
 |some k=>rec k st
 |none=>False
def JX(rec:List It->AS->Prop)(x y:Code)(k:List It)(st:AS):AV->Prop
 |.p (.v (.bool b))=>if b=true then rec (.code x::k) st else rec (.code y::k) st
 |_=>False
def zn(c:Ctx)(rec:List It->AS->Prop)(o:Oper)(all:Array Oper)(os:List Oper)(k:List It)(st:AS):R->Prop
 |.ok v _ u nx=>rec (.ops all os::k) (eff st o.dst v u nx)
 |.okS s v _ u nx=>s/\rec (.ops all os::k) (eff st o.dst v u nx)
 |.call f vs=>kv c f vs o all os k st
 |.bad=>False
def wW:List Oper->Nat->Option Nat
 |[],_=>none
 |o::_,0=>o.dst
 |_::r,j+1=>wW r j
theorem uB(l:List Oper)(j:Nat):wW l j=(l[j]?).bind (·.dst):=by
 induction l generalizing j with
 |nil=>simp[wW]
 |cons o r a=>cases j<;>simp[wW,a]
def setB(st:AS)(d:Nat)(b:Bool):AS:=⟨st.n,(d,.b b)::st.sl,st.hp,st.nx⟩
def zo(c:Ctx)(rec:List It->AS->Prop)(o:Oper)(all:Array Oper)(os:List Oper)(k:List It)(st:AS)(d:Nat)(want:Bool):AV->Prop
 |.p (.v (.bool b))=>if b=want then zn c rec o all os k (setB st d want) (aop c.P o.op (setB st d want)) else rec (.ops all os::k) (put (setB st d (!want)) o.dst (.tup []))
 |.tup []=>rec (.ops all os::k) (put st o.dst (.tup []))
 |_=>False
def DX(c:Ctx)(rec:List It->AS->Prop)(o:Oper)(all:Array Oper)(os:List Oper)(k:List It)(st:AS)(want:Bool):Option Nat->Prop
 |some d=>zo c rec o all os k st d want (lk st.sl d)
 |none=>False
def gA(c:Ctx)(rec:List It->AS->Prop)(o:Oper)(all:Array Oper)(os:List Oper)(k:List It)(st:AS):Option (Nat×Bool)->Prop
 |none=>zn c rec o all os k st (aop c.P o.op st)
 |some (j,want)=>DX c rec o all os k st want (wW all.toList j)
theorem iG(l:List Nat)(n:Nat):ll l n=true↔n∈l:=by
 induction l with
 |nil=>simp[ll]
 |cons k r a =>
  unfold ll;by_cases h:k=n
  .subst h;simp
  .grind [eN]
theorem Og(d:List (Nat×Option Blk)):∀(a:List Nat) (i:Nat),hget (hpr a d) i=if i∈a then none else hget d i:=by
 induction d with
 |nil=>intro a i;simp[hpr,hget]
 |cons x r f =>
  have⟨k,b⟩:=x;intro a i;have c:∀(b:Option Blk),hget ((k,b)::r) i=if k=i then b else hget r i:=fun b=>by
   show(match k' k i with|true=>b|false=>hget r i)=_;by_cases h:k=i
   .subst h;simp
   .rw[eN h,b0 h]
  unfold hpr;cases e:ll a k with
  |true =>
   grind [iG]
  |false =>
   have g:k∉a:=fun h=>by rw[(iG a k).2 h] at e;cases e
   cases b with
   |some b =>
    show(match k' k i with|true=>some b|false=>hget (hpr (k::a) r) i)=_;rw[c];by_cases h:k=i
    .simp_all
    .grind [eN]
   |none =>
    grind
theorem Hv(a:List (Nat×AV))(ks:List Nat)(s:Nat):lk (xA a ks) s=if s∈ks then lk a s else .any:=by
 induction ks with
 |nil=>simp[xA,lk]
 |cons k r b =>
  grind [xA,iq]
theorem Conc.prune{c:Ctx}{ρ:aD}{F:aK}{st:AS}{a:Act}{w:World}(h:Conc c ρ F st a w)(ks:List Nat):Conc c ρ F (Abs.prune ks st) a w:=by
 have b:hget (Abs.prune ks st).hp=hget st.hp:=by funext i;simp only[Abs.prune,Og];simp
 refine⟨h.defers,h.size,fun s=>?_,by rw[b];exact h.heap,h.fresh,h.fok,h.chg,by rw[b];exact h.dom,by rw[b];exact h.own,h.keep,h.glob⟩;simp only[Abs.prune,Hv];split
 .exact h.slots s
 .exact .any _
theorem Conc.setB{c:Ctx}{ρ:aD}{F:aK}{st:AS}{a:Act}{w:World}(h:Conc c ρ F st a w){d:Nat}{b:Bool}(f:lk st.sl d = .b b):Conc c ρ F (Abs.setB st d b) a w:=by
 refine⟨h.defers,h.size,fun s=>?_,h.heap,h.fresh,h.fok,h.chg,h.dom,h.own,h.keep,h.glob⟩;simp only[Abs.setB,iq];split
 .rename_i e;subst e;rw[<-f];exact h.slots d
 .exact h.slots s
theorem Conc.putAny{c:Ctx}{ρ:aD}{F:aK}{st:AS}{a:Act}{w:World}(h:Conc c ρ F st a w)(d:Option Nat):Conc c ρ F (put st d .any) (a.put d undef) w:=by
 have g:(put st d .any).n=st.n:=by unfold put;cases d with|none=>rfl|some d=>dsimp only;cases i' d st.n<;>rfl
 have b:(put st d .any).hp=st.hp:=by unfold put;cases d with|none=>rfl|some d=>dsimp only;cases i' d st.n<;>rfl
 have e:(put st d .any).nx=st.nx:=by unfold put;cases d with|none=>rfl|some d=>dsimp only;cases i' d st.n<;>rfl
 refine⟨?_,?_,fun s=>?_,by rw[b];exact h.heap,by rw[e];exact h.fresh,h.fok,h.chg,by rw[b,e];exact h.dom,by rw[b];exact h.own,h.keep,h.glob⟩
 .cases d<;>simp[Act.put,h.defers]
 .rw[g,<-h.size];cases d<;>simp[Act.put]
 .cases d with
  |none=>exact h.slots s
  |some d =>
   have f:=h.slots s;simp only[put,Act.put];cases i:i' d st.n with
   |false =>
    exact ahx
   |true =>
    simp only[iq];by_cases j:d=s
    .rw[b9 j];exact .any _
    .simp_all
theorem Conc.putSkip{c:Ctx}{ρ:aD}{F:aK}{st:AS}{a:Act}{w:World}(h:Conc c ρ F st a w)(d:Option Nat):Conc c ρ F (put st d (.tup [])) (a.put d undef) w:=by
 have i:(put st d (.tup [])).n=st.n:=by unfold put;cases d with|none=>rfl|some d=>dsimp only;cases i' d st.n<;>rfl
 have b:(put st d (.tup [])).hp=st.hp:=by unfold put;cases d with|none=>rfl|some d=>dsimp only;cases i' d st.n<;>rfl
 have e:(put st d (.tup [])).nx=st.nx:=by unfold put;cases d with|none=>rfl|some d=>dsimp only;cases i' d st.n<;>rfl
 refine⟨?_,?_,fun s=>?_,by rw[b];exact h.heap,by rw[e];exact h.fresh,h.fok,h.chg,by rw[b,e];exact h.dom,by rw[b];exact h.own,h.keep,h.glob⟩
 .cases d<;>simp[Act.put,h.defers]
 .rw[i,<-h.size];cases d<;>simp[Act.put]
 .cases d with
  |none=>exact h.slots s
  |some d =>
   have f:=h.slots s;simp only[put,Act.put];cases k:i' d st.n with
   |false =>
    exact ahx
   |true =>
    simp only[iq];by_cases g:d=s
    .rw[b9 g];subst g;rw[show(a.tmps.setIfInBounds d undef).getD d undef=undef from by simp[kc,Array.getElem?_setIfInBounds];split<;>rfl];exact .tup [] #[] rfl (fun j c l=>by simp at l)
    .simp_all
theorem Oh{c:Ctx}{id:Nat}{k e:List It}{a:Act}{w:World}(b:mn id k=some e)(h:Wk c e .normal a w):Wk c k (.exit id) a w:=by
 induction k with
 |nil=>cases b
 |cons x r d =>
  cases x with
  |blk i =>
   simp only[mn] at b;by_cases f:i=id
   .simp_all[Wk]
   .rw[eN f] at b;simp only[Wk]
    grind
  |code x=>exact d b
  |ops all l=>exact d b
  |inv zzJ=>exact d b
theorem Oi{c:Ctx}{x:Code}{k:List It}:Exit.then (x.wp c.P (Wk c k)) (Wk c k)=Wk c (.code x::k):=by
 funext e a w;cases e<;>rfl
theorem JY{c:Ctx}{id:Nat}{k:List It}:Exit.inBlock id (Wk c k)=Wk c (.blk id::k):=by
 funext e a w;cases e<;>rfl
theorem Hw{c:Ctx}{ρ:aD}{F:aK}{st:AS}{a:Act}{w:World}(h:Conc c ρ F st a w){f:Array Oper}{o:Oper}{j d:Nat}{e b:Bool}(hg:o.guard=some (j,e))(m:wW f.toList j=some d)
 (hv:lk st.sl d = .b b) (g:d<st.n):Region.wanted o (yielded f a.tmps)=decide (b=e):=by
 have hs:=h.slots d;rw[hv] at hs;have k:=hs.pv;have l:d<a.tmps.size:=by rw[h.size];exact g
 have i:a.tmps[d]?=some (.bool b):=by
  simp_all
 grind [yielded,bind,uB,Region.wanted]
theorem oF{c:Ctx}{g:List It->AS->Prop}(b:∀k st,g k st->SAW c k st){o:Oper}{i:Array Oper}{os:List Oper}{k:List It}{st:AS}(h:zn c g o i os k st (aop c.P o.op st)):SOp c o i os k st:=by
 intro ρ F a w j;have⟨h1,h2⟩:=JV (P:=c.P) o st;cases d:aop c.P o.op st with
 |ok v T u nx =>
  rw[d] at h;exact tz (h1 v T u nx d) j _ _ (fun ρ' F' l w' e=>b _ _ h ρ' F' l w' e)
 |okS s v T u nx =>
  rw[d] at h;exact tz (h2 s v T u nx d h.1) j _ _ (fun ρ' F' l w' e=>b _ _ h.2 ρ' F' l w' e)
 |call f vs =>
  rw[d] at h;exact h (Bn d) ρ F a w j
 |bad=>rw[d] at h;exact h.elim
theorem JZ{c:Ctx}{m:List It->AS->Prop}(f:∀k st,m k st->SAW c k st){o:Oper}{e:Array Oper}{os:List Oper}{k:List It}{st:AS}(h:gA c m o e os k st o.guard):SAW c (.ops e (o::os)::k) st:=by
 intro ρ F a w i;show wpList c.P e (Wk c k) (o::os) a w;cases hg:o.guard with
 |none =>
  rw[hg] at h;unfold wpList;have q:Region.wanted o (yielded e a.tmps)=true:=by simp[Region.wanted,hg]
  rw[b9 q];exact .inl (oF f h ρ F a w i)
 |some jw =>
  have⟨j,l⟩:=jw;rw[hg] at h;simp only[gA] at h;cases p:wW e.toList j with
  |none=>rw[p] at h;exact h.elim
  |some d =>
   rw[p] at h;simp only[DX] at h;unfold zo at h;split at h
   .rename_i b hv;have r:d<st.n:=by
     rcases ea d st.n with h1|h1
     .exact h1
     .exfalso;have hs:=i.slots d;rw[hv] at hs;have:=hs.pv;have v:a.tmps.size<=d:=by rw[i.size];exact h1
      simp_all[kc,undef]
    have q:=Hw i hg p hv r;unfold wpList;split at h
    .rename_i s;subst s;have g:Region.wanted o (yielded e a.tmps)=true:=by rw[q];simp
     rw[b9 g];exact .inl (oF f h ρ F a w (i.setB hv))
    .rename_i s;have g:¬Region.wanted o (yielded e a.tmps)=true:=by rw[q];simpa using s
     rw[b0 g];have t:b = !l:=by cases b<;>cases l<;>simp_all
     rw[t] at hv;exact f _ _ h ρ F _ w ((i.setB hv).putSkip o.dst)
   .rename_i hv;have x:yielded e a.tmps j=none:=by
     have hs:=i.slots d;rw[hv] at hs;have⟨us,y,z,_⟩:=hs.tupInv;have u:us=#[]:=c' (by simpa using z);subst u;unfold yielded;have:(e[j]?).bind (·.dst)=some d:=by rw[uB] at p;simpa using p
     rw[this];simp only[kc] at y
     grind
    have g:¬Region.wanted o (yielded e a.tmps)=true:=by unfold Region.wanted;rw[hg];simp[x]
    unfold wpList;rw[b0 g];exact f _ _ h ρ F _ w (i.putSkip o.dst)
   .exact h.elim
mutual
def ep(h:bv)(S:List Nat):PV->AV->Prop
 |.v x,a=>a = .p (.v x)
 |.data s n cs,a=>match a with
  |.p y=>y = .data s n cs\/(y = .v (.slice none 0 0)/\n=0/\cs=[])
  |.sl id off n' s'=>id∈S/\n'=n/\s'=s/\∃b,h id=some b/\off+n*s<=b.cs.length/\dN h S cs ((b.cs.drop off).take (n*s))
  |_=>False
 |.iface t x,a=>match a with
  |.p y=>y = .iface t x
  |.iface t' a'=>t'=t/\ep h S x a'
  |_=>False
 |.agg cs,a=>match a with
  |.p y=>y = .agg cs
  |.agg zas=>dN h S cs zas
  |_=>False
def dN(h:bv)(S:List Nat):List PV->List AV->Prop
 |[],zas=>zas=[]
 |c::cs,zas=>match zas with
  |a::zas=>ep h S c a/\dN h S cs zas
  |[]=>False
end
theorem eX(h:bv)(S:List Nat)(c:PV):ep h S c (.p c):=by
 cases c<;>simp[ep]
theorem iH(h:bv)(S:List Nat):∀(cs:List PV),dN h S cs (cs.map .p)
 |[]=>by simp[dN]
 |c::cs=>by simp only[hX,dN];exact⟨eX h S c,iH h S cs⟩
def jp(F:aK)(ρ:aD)(S:List Nat):aK:=fun b=>F b\/OSet ρ S b
mutual
theorem uC{h:bv}{S:List Nat}{ρ:aD}{F:aK}{w:World}(hH:HpOk ρ F w (restr S h)):∀(y:PV) (a:AV) (u:Value),ep h S y a->Rd ρ F w a u->RdP (jp F ρ S) w y u
 |.v x,a,u,hv,hr=>by
  exact ahj
 |.data s n cs,a,u,hv,hr=>by
  cases a with
  |p y =>
   simp only[ep] at hv;rcases hv with rfl|⟨rfl,rfl,rfl⟩
   .cases hr with
    |p _ _ h=>exact h.mono (fun _ h => .inl h) (fun _ _=>rfl)
   .have:=hr.pv;subst this;exact .nil _ _ _
  |sl id off n' s' =>
   simp only[ep] at hv;obtain⟨r,rfl,rfl,b,z,G,hcs⟩:=hv;rcases hr.slInv with⟨rfl,A,rfl⟩|⟨B,cap,e,rfl,f,l⟩
   .simp only[Nat.zero_mul,List.take_zero] at hcs;cases cs with
    |nil=>exact .nil _ _ _
    |cons c cs=>simp[dN] at hcs
   .have g:=oG hcs;rcases hH.ok id b (by simp[restr,r,z]) with⟨h1,H⟩|⟨I,i,k⟩
    .simp_all
    rw[e] at i;cases i;have⟨arr,K,ha,C,D,d⟩:=k.is (.inr ⟨_,l⟩);have m:cs.length=n'*s':=by rw[g];simp;omega
    refine .data s' n' cs B off cap (fun j=>arr.getD (off+j) undef) m f (.inr ⟨id,r,e⟩) (fun j hj=>jT ha ω) (fun j hj=>?_) ?_
    .have o:off+j<b.cs.length:=ω;exact(d (off+j) _ (n0 o)).1
    .exact aiN
  |_=>simp[ep] at hv
 |.iface t x,a,u,hv,hr=>by
  cases a with
  |p y =>
   exact ahj
  |iface t' a' =>
   simp only[ep] at hv;obtain⟨rfl,hv⟩:=hv;cases hr with
   |iface _ _ u' h=>exact .iface _ _ _ (uC hH x a' u' hv h)
  |_=>simp[ep] at hv
 |.agg cs,a,u,hv,hr=>by
  cases a with
  |p y =>
   exact ahj
  |agg zas =>
   simp only[ep] at hv;obtain⟨us,rfl,E,q⟩:=hr.aggInv;refine .agg cs us (by rw[E,oG hv]) ?_;exact nq hH cs zas (fun j=>us.getD j undef) hv q
  |_=>simp[ep] at hv
theorem nq{h:bv}{S:List Nat}{ρ:aD}{F:aK}{w:World}(d:HpOk ρ F w (restr S h)):∀(cs:List PV) (zas:List AV) (f:Nat->Value),dN h S cs zas->(∀j a,zas[j]?=some a->Rd ρ F w a (f j)) ->
 ∀j c,cs[j]?=some c->RdP (jp F ρ S) w c (f j)
 |[],zas,f,_,_=>fun j c b=>by simp at b
 |c::cs,[],f,hv,_=>by simp[dN] at hv
 |c::cs,a::zas,f,hv,hr=>fun j e b=>by
  simp only[dN] at hv;cases j with
  |zero=>simp at b;subst b;exact uC d c a (f 0) hv.1 (hr 0 a rfl)
  |succ j=>exact nq d cs zas (fun j=>f (j+1)) hv.2 (fun j a ha=>hr (j+1) a (by simpa using ha)) j e (by simpa using b)
theorem oG{h:bv}{S:List Nat}:∀{cs:List PV} {zas:List AV},dN h S cs zas->cs.length=zas.length
 |[],zas,hv=>by simp only[dN] at hv;subst hv;rfl
 |c::cs,[],hv=>by simp[dN] at hv
 |c::cs,a::zas,hv=>by simp only[dN] at hv;simp[oG hv.2]
end
mutual
def aS(h:bv)(S:List Nat)(σ:Nat->Nat):AV->AV->Prop
 |.any,_=>True
 |.p y,a=>ep h S y a
 |.ptr i off,a=>a = .ptr (σ i) off
 |.sl i off n s,a=>a = .sl (σ i) off n s\/(n=0/\a = .p (.v (.slice none 0 0)))
 |.cp cs,a=>match a with
  |.cp cs'=>cs'=cs
  |.ptr id off=>id∈S/\∃b,h id=some b/\off+cs.length<=b.cs.length/\dN h S cs ((b.cs.drop off).take cs.length)
  |_=>False
 |.agg bs,a=>match a with
  |.agg zas=>aj h S σ bs zas
  |_=>False
 |.tup bs,a=>match a with
  |.tup zas=>aj h S σ bs zas
  |_=>False
 |.iface t b,a=>match a with
  |.iface t' a'=>t'=t/\aS h S σ b a'
  |_=>False
 |.fn f bs cs,a=>match a with
  |.fn f' bs' cs'=>f'=f/\aj h S σ bs bs'/\aj h S σ cs cs'
  |_=>False
 |.mp i,a=>a = .mp (σ i)
def aj(h:bv)(S:List Nat)(σ:Nat->Nat):List AV->List AV->Prop
 |[],zas=>zas=[]
 |b::bs,zas=>match zas with
  |a::zas=>aS h S σ b a/\aj h S σ bs zas
  |[]=>False
end
mutual
theorem kw{h:bv}{S:List Nat}{σ:Nat->Nat}{ρ ρ':aD}{F:aK}{w:World}(hH:HpOk ρ F w (restr S h))(e:∀i b,ρ (σ i)=some b->ρ' i=some b) :
 ∀(b a:AV) (u:Value),aS h S σ b a->Rd ρ F w a u->Rd ρ' (jp F ρ S) w b u
 |.any,a,u,_,_ => .any _
 |.p y,a,u,hv,hr => .p _ _ (uC hH y a u (by simpa only[aS] using hv) hr)
 |.ptr i off,a,u,hv,hr=>by
  simp only[aS] at hv;subst hv;obtain⟨b,g,rfl⟩:=hr.ptrInv;exact .ptr _ _ _ (e _ _ g)
 |.sl i off n s,a,u,hv,hr=>by
  simp only[aS] at hv;rcases hv with hv|⟨rfl,rfl⟩
  rotate_left
  .have:=hr.pv;subst this;exact .slz _ _ _ _
  subst hv;rcases hr.slInv with⟨rfl,A,rfl⟩|⟨b,cap,g,rfl,l,x⟩
  .exact .slz _ _ _ _
  .exact .sl _ _ _ _ _ _ (e _ _ g) l x
 |.cp cs,a,u,hv,hr=>by
  cases a with
  |cp cs' =>
   simp only[aS] at hv;subst hv;obtain⟨b,off,f,rfl,G,H,h1,d⟩:=hr.cpInv;exact .cp _ _ _ f (.inl G) H h1 (fun j c hj=>(d j c hj).mono (fun _ h => .inl h) (fun _ _=>rfl))
  |ptr id off =>
   simp only[aS] at hv;have⟨z,b,g,B,hcs⟩:=hv;obtain⟨D,k,rfl⟩:=hr.ptrInv;rcases hH.ok id b (by simp[restr,z,g]) with⟨h1,M⟩|⟨N,m,o⟩
   .simp_all
   rw[k] at m;cases m;rcases o.is0 with⟨arr,O,ha,I,K,v⟩|⟨q,s,_,E⟩
   rotate_left
   .have r:cs=[]:=fo (by rw[q,km] at B;omega);subst r;exact .cp [] D off (fun _=>undef) (.inr ⟨id,z,k⟩) (fun j hj=>by simp at hj) (fun j hj=>by simp at hj) (fun j c hj=>by simp at hj)
   refine .cp cs D off (fun j=>arr.getD (off+j) undef) (.inr ⟨id,z,k⟩) (fun j hj=>jT ha ω) (fun j hj=>?_) ?_
   .have L:off+j<b.cs.length:=ω;simp_all
   .exact aiN
  |_=>simp[aS] at hv
 |.agg bs,a,u,hv,hr=>by
  cases a with
  |agg zas =>
   simp only[aS] at hv;obtain⟨us,rfl,C,d⟩:=hr.aggInv;exact .agg _ _ (by rw[C,eH hv]) (fL hH e bs zas (fun j=>us.getD j undef) hv d)
  |_=>simp[aS] at hv
 |.tup bs,a,u,hv,hr=>by
  cases a with
  |tup zas =>
   simp only[aS] at hv;obtain⟨us,rfl,C,d⟩:=hr.tupInv;exact .tup _ _ (by rw[C,eH hv]) (fL hH e bs zas (fun j=>us.getD j undef) hv d)
  |_=>simp[aS] at hv
 |.iface t b,a,u,hv,hr=>by
  cases a with
  |iface t' a' =>
   simp only[aS] at hv;obtain⟨rfl,hv⟩:=hv;cases hr with
   |iface _ _ u' h=>exact .iface _ _ _ (kw hH e b a' u' hv h)
  |_=>simp[aS] at hv
 |.fn f bs cs,a,u,hv,hr=>by
  cases a with
  |fn f' bs' cs' =>
   simp only[aS] at hv;obtain⟨rfl,h1,h2⟩:=hv;cases hr with
   |fn _ _ _ us vs B hr1 hl' hr2=>exact .fn _ _ _ us vs (by rw[B,eH h1]) (fL hH e bs bs' (fun j=>us.getD j undef) h1 hr1) (by rw[hl',eH h2]) (fL hH e cs cs' (fun j=>vs.getD j undef) h2 hr2)
  |_=>simp[aS] at hv
 |.mp i,a,u,hv,hr=>by
  simp only[aS] at hv;subst hv;cases hr with
  |mp _ b g hm=>exact .mp _ _ (e _ _ g) hm
theorem fL{h:bv}{S:List Nat}{σ:Nat->Nat}{ρ ρ':aD}{F:aK}{w:World}(g:HpOk ρ F w (restr S h))(k:∀i b,ρ (σ i)=some b->ρ' i=some b) :
 ∀(bs d:List AV) (f:Nat->Value),aj h S σ bs d->(∀j a,d[j]?=some a->Rd ρ F w a (f j))->∀j b,bs[j]?=some b->Rd ρ' (jp F ρ S) w b (f j)
 |[],d,f,_,_=>fun j c e=>by simp at e
 |c::cs,[],f,hv,_=>by simp[aj] at hv
 |c::cs,a::d,f,hv,hr=>fun j l e=>by
  simp only[aj] at hv;cases j with
  |zero=>simp at e;subst e;exact kw g k c a (f 0) hv.1 (hr 0 a rfl)
  |succ j=>exact fL g k cs d (fun j=>f (j+1)) hv.2 (fun j a ha=>hr (j+1) a (by simpa using ha)) j l (by simpa using e)
theorem eH{h:bv}{S:List Nat}{σ:Nat->Nat}:∀{bs zas:List AV},aj h S σ bs zas->bs.length=zas.length
 |[],zas,hv=>by simp only[aj] at hv;subst hv;rfl
 |c::cs,[],hv=>by simp[aj] at hv
 |c::cs,a::zas,hv=>by simp only[aj] at hv;simp[eH hv.2]
end
theorem aL(h:bv)(S:List Nat)(σ:Nat->Nat):∀(cs:List PV),aj h S σ (cs.map .p) (cs.map .p)
 |[]=>by simp[aj]
 |c::cs=>by simp only[hX,aj,aS];exact⟨eX h S c,aL h S σ cs⟩
def sC(h:bv)(S:List Nat)(σ:Nat->Nat)(sl:List (Nat×AV)):List (Nat×AV)->Prop
 |[]=>True
 |(s,b)::r=>aS h S σ b (lk sl s)/\sC h S σ sl r
def oH(h:bv)(S:List Nat)(σ:Nat->Nat)(b':Blk):Option Blk->Prop
 |some b=>b'.t=b.t/\aj h S σ b'.cs b.cs
 |none=>False
def iU(h:bv)(S:List Nat)(σ:Nat->Nat):List (Nat×Option Blk)->Prop
 |[]=>True
 |(i,b)::r=>(match b with
  |some b'=>ll S (σ i)=false/\oH h S σ b' (h (σ i))
  |none=>True)/\iU h S σ r
def liveK:List (Nat×Option Blk)->List Nat
 |[]=>[]
 |(i,b)::r=>match b with
  |some _=>i::liveK r
  |none=>liveK r
def cP:List Nat->Bool
 |[]=>true
 |k::r=>match ll r k with|true=>false|false=>cP r
def dm(n:Nat):List Nat->Bool
 |[]=>true
 |k::r=>match i' k n with|true=>dm n r|false=>false
def pH(hp:List (Nat×Option Blk)):List Nat->Prop
 |[]=>True
 |k::r=>(hget hp k).isSome=true/\pH hp r
structure Sub(S:List Nat)(σ:Nat->Nat)(st st':AS):Prop where
 n:st'.n=st.n
 slots:sC (hget st.hp) S σ st.sl st'.sl
 blocks:iU (hget st.hp) S σ st'.hp
 nd:cP ((liveK st'.hp).map σ)=true
 lt:dm st'.nx (liveK st'.hp)=true
 live:pH st.hp S
 fresh:∀i,st'.nx<=i->st.nx<=σ i
theorem Hx{h:bv}{S:List Nat}{σ:Nat->Nat}{c a:List (Nat×AV)}(hs:sC h S σ c a)(s:Nat):aS h S σ (lk a s) (lk c s):=by
 induction a with
 |nil=>simp[lk,aS]
 |cons x r d =>
  have⟨k,b⟩:=x;rw[iq];split
  .rename_i e;subst e;exact hs.1
  .exact d hs.2
theorem g8{a:List (Nat×Option Blk)}{i:Nat}{b:Blk}(h:hget a i=some b):(i,some b)∈a:=by
 induction a with
 |nil=>simp[hget] at h
 |cons x r c =>
  grind [hget,k',eN,v']
theorem qY{a:List (Nat×Option Blk)}{i:Nat}{b:Blk}(h:(i,some b)∈a):i∈liveK a:=by
 induction a with
 |nil=>cases h
 |cons x r c =>
  have⟨k,v⟩:=x;rcases hZ.1 h with h1|h1
  .grind [liveK]
  .unfold liveK
   grind
theorem kx{h:bv}{S:List Nat}{σ:Nat->Nat}{a:List (Nat×Option Blk)}(hs:iU h S σ a){i:Nat}{b:Blk}(c:(i,some b)∈a):σ i∉S/\oH h S σ b (h (σ i)):=by
 induction a with
 |nil=>cases c
 |cons x r d =>
  have⟨k,v⟩:=x;rcases hZ.1 c with h1|h1
  .cases h1;have:=hs.1
   grind [iG]
  .exact d hs.2 h1
theorem nr{σ:Nat->Nat}{l:List Nat}(h:cP (l.map σ)=true){i j:Nat}(a:i∈l)(b:j∈l)(c:σ i=σ j):i=j:=by
 induction l with
 |nil=>cases a
 |cons k r d =>
  grind [cP,ll,iG,absurd]
theorem fM{n:Nat}{l:List Nat}(h:dm n l=true){i:Nat}(a:i∈l):i<n:=by
 induction l with
 |nil=>cases a
 |cons k r b =>
  grind [dm,i',l']
theorem g9{b:List (Nat×Option Blk)}{S:List Nat}(h:pH b S){i:Nat}(a:i∈S):hget b i≠none:=by
 induction S with
 |nil=>cases a
 |cons k r c =>
  rcases hZ.1 a with rfl|a
  .have:=h.1;intro e;rw[e] at this;cases this
  .exact c h.2 a
theorem Sub.conc{S:List Nat}{σ:Nat->Nat}{st e:AS}(hs:Sub S σ st e){c:Ctx}(N:∀i,c.ρ0 i≠none->σ i=i){ρ:aD}{F:aK}{a:Act}{w:World}(h:Conc c ρ F st a w) :
 Conc c (fun i=>ρ (σ i)) (jp F ρ S) e a w:=by
 have K:=h.heap.restr S;have d:∀i o,hget e.hp i=some o->i<e.nx/\i∈liveK e.hp/\σ i∉S/\∃b,hget st.hp (σ i)=some b/\o.t=b.t/\aj (hget st.hp) S σ o.cs b.cs:=by
  intro i o l;have L:=g8 l;have p:=qY L;have⟨h1,h2⟩:=kx hs.blocks L;refine⟨fM hs.lt p,p,h1,?_⟩;exact aix
 have hOlt:∀b,OSet ρ S b->b<w.heap.size/\(c.w0.heap.size<=b\/c.O b):=by
  rintro b ⟨i,g,hb⟩;have p:=g9 hs.live g;refine⟨?_,h.own i b p hb⟩;have⟨k,m⟩:=em.1 p;rcases h.heap.ok i k m with⟨_,y⟩|⟨b2,q,ho⟩
  .rw[y] at hb;cases hb
  .rw[hb] at q;cases q;exact ho.lt
 refine⟨h.defers,by rw[hs.n];exact h.size,fun s=>kw K (fun i b hb=>hb) _ _ _ (Hx hs.slots s) (h.slots s),⟨fun i k m=>?_,fun i j b g v h1 h2=>?_⟩,fun i g=>h.fresh _ (hs.fresh i g),?_,?_,fun i g=>?_,fun i b g hb=>?_,fun i b hb=>?_,h.glob.mono (fun _ h => .inl h) (fun _ _=>rfl)⟩
 .have⟨Q,R,T,b,hb,U,hv⟩:=d i k m;rcases h.heap.ok (σ i) b hb with⟨h1,y⟩|⟨M,u,ho⟩
  .rw[h1] at hv;refine .inl ⟨?_,y⟩;cases z:k.cs with
   |nil=>rfl
   |cons x r=>rw[z] at hv;simp[aj] at hv
  .refine .inr ⟨M,u,ho.view (fun A=>?_) U (eH hv) (fun _ h => .inl h) (fun f V=>fL K (fun i b hb=>hb) k.cs b.cs f hv V)⟩;rcases A with A|⟨j,v,B⟩
   .exact ho.own A
   .have:=h.heap.inj j (σ i) M (g9 hs.live v) (by rw[hb];simp) B u;exact T (this ▸ v)
 .have⟨W,C⟩:=em.1 g;have⟨X,D⟩:=em.1 v;have⟨_,E,_,bi,G,_⟩:=d i W C;have⟨_,H,_,bj,I,_⟩:=d j X D;exact nr hs.nd E H (h.heap.inj (σ i) (σ j) b (by rw[G];simp) (by rw[I];simp) h1 h2)
 .rintro b (hb|hb)
  .exact h.fok b hb
  .exact(hOlt b hb).1
 .exact agR
 .have⟨k,m⟩:=em.1 g;exact(d i k m).1
 .have⟨k,m⟩:=em.1 g;have⟨_,_,_,o,l,_⟩:=d i k m;exact h.own (σ i) b (by rw[l];simp) hb
 .have:=N i (by rw[hb];simp);show ρ (σ i)=some b;rw[this];exact h.keep i b hb
theorem Oj{c:Ctx}{S:List Nat}{σ:Nat->Nat}{k:List It}{st b:AS}(hs:Sub S σ st b)(d:∀i,c.ρ0 i≠none->σ i=i)(h:SAW c k b):SAW c k st :=
 fun _ _ a w e=>h _ _ a w (hs.conc d e)
def sg(base:Nat):List Nat->Nat->Nat
 |[],i=>base+i
 |k::r,i=>match i with
  |0=>k
  |i+1=>sg (base+1) r i
theorem aw(l:List Nat):∀(a i:Nat),l.length<=i->a<=sg a l i:=by
 induction l with
 |nil=>intro a i _;simp[sg]
 |cons k r c =>
  intro a i b;cases i with
  |zero=>simp at b
  |succ i=>have:=c (a+1) i (by simpa using b);simp only[sg];omega
def fg:List Nat->List (Nat×Option Blk)
 |[]=>[]
 |k::r=>(k,none)::fg r
def frz(S:List Nat)(reps:List (Nat×AV))(st:AS):AS:=⟨st.n,reps++st.sl,fg S++st.hp,st.nx⟩
theorem J0{α:Type}{c:Ctx}{b:Code}{k:List It}{st:AS}(Inv:α->AS)(μ:α->Nat)(j:α)(o:∀{ρ F a w},Conc c ρ F st a w->∃ ρ' F',Conc c ρ' F' (Inv j) a w)
 (d:∀x,SAW c (.code b :: .inv (fun h=>∃y,μ y<μ x/\∃S σ,Sub S σ h (Inv y)/\∀i,c.ρ0 i≠none->σ i=i)::k) (Inv x)):SAW c (.code (.loop b)::k) st:=by
 have m:∀(N:Nat) (x:α),μ x<N->∀ ρ F a w,Conc c ρ F (Inv x) a w->Code.rounds c.P b (Wk c k) N a w:=by
  intro N
  induction N with
  |zero=>intro x p;omega
  |succ N q =>
   intro x p ρ F a w n;rw[rounds_succ];refine Code.wp_mono (fun e r w' g=>?_) (d x ρ F a w n);cases e with
   |normal =>
    have⟨ρ',F',h,⟨y,t,S,σ,hs,s⟩,f⟩:=g;exact q y ω _ _ r w' (hs.conc s f)
   |exit id=>exact g
   |goto l=>exact g
   |ret=>exact g
   |panic ch=>exact g
   |outgrown=>exact g
 intro ρ F a w n;have⟨ρ',F',f⟩:=o n;exact wp_loop_rounds (μ j+1) (m (μ j+1) j ω ρ' F' a w f)
theorem uD(c:Ctx):∀(k:List It) (a:Act) (w:World),Wk c k .ret a w=bodyPost c.P c.fn c.R .ret a w
 |[],a,w=>rfl
 |.code x::k,a,w=>uD c k a w
 |.ops all l::k,a,w=>uD c k a w
 |.blk id::k,a,w=>uD c k a w
 |.inv zzJ::k,a,w=>uD c k a w
section
variable {P : Program}
def J1(P:Program)(st:AS):ResultVar->Option AV
 |.tmp t=>some (lk st.sl t)
 |.cell a t=>match lk st.sl a with
  |.ptr id off=>match hget st.hp id,Nat.ble 1 (ae P t).size with
   |some b,true=>match Nat.ble (off+(ae P t).size) b.cs.length with
    |true=>some (ka (ae P t).kind (ae P t).size (b.cs.drop off))
    |false=>none
   |_,_=>none
  |_=>none
def jV(P:Program)(st:AS):List ResultVar->Option (List AV)
 |[]=>some []
 |r::rs=>match J1 P st r,jV P st rs with
  |some v,some vs=>some (v::vs)
  |_,_=>none
def retV:List AV->AV
 |[] => .tup []
 |[v]=>v
 |v::w::r => .tup (v::w::r)
def uE(tmps:Array Value):ResultVar->Sem Value
 |.tmp t=>pure (tmps.getD t undef)
 |.cell a t=>do loadVar t (<-asAddr (tmps.getD a undef))
theorem J2{c:Ctx}{ρ:aD}{F:aK}{st:AS}{a:Act}{w:World}(h:Conc c ρ F st a w){r:ResultVar}{v:AV}(d:J1 P st r=some v) :
 ∃u,(uE a.tmps r).run P w = .ok u w/\Rd ρ F w v u:=by
 cases r with
 |tmp t =>
  simp only[J1,A'.injEq] at d;subst d;exact⟨_,rfl,h.slots t⟩
 |cell x t =>
  simp only[J1] at d;split at d
  .rename_i id off q;split at d
   .rename_i b s h1;split at d
    .rename_i y;simp only[A'.injEq] at d;subst d;have hs:=h.slots x;rw[q] at hs;have⟨z,l,hv⟩:=hs.ptrInv;rcases h.heap.ok id b s with⟨_,C⟩|⟨D,g,i⟩
     .simp_all
     rw[l] at g;cases g;have e:=cV h1;have k:=cV y;rw[gv] at e k;have⟨arr,E,ha,A,m,B⟩:=i.is (.inl ω);have n:=gF (P:=P) (t:=t) (w:=w) (b:=z) (o:=off) (fun j=>arr.getD (off+j) undef) e (fun j p=>jT ha ω);refine⟨_,?_,nl e k (f:=fun j=>arr.getD j undef) (fun j c p=>(B j c p).2)⟩;simp_all[uE,asAddr]
    .cases d
   .cases d
  .cases d
theorem Hy{c:Ctx}{ρ:aD}{F:aK}{st:AS}{a:Act}{w:World}(h:Conc c ρ F st a w):∀(rs:List ResultVar) (vs:List AV),jV P st rs=some vs ->
 ∃us:List Value,(rs.mapM (uE a.tmps)).run P w = .ok us w/\us.length=vs.length/\∀j x,vs[j]?=some x->Rd ρ F w x (us.getD j undef):=by
 intro rs
 induction rs with
 |nil=>intro vs hv;simp[jV] at hv;subst hv;exact⟨[],rfl,rfl,fun j x d=>by simp at d⟩
 |cons r rs e =>
  intro vs hv;simp only[jV] at hv;split at hv
  .rename_i v vs' h1 h2;simp only[A'.injEq] at hv;subst hv;have⟨u,f,g⟩:=J2 h h1;have⟨us,b,i,k⟩:=e vs' h2;refine⟨u::us,by simp only[List.mapM_cons,hW,f,ez,b,lh],by simp[i],fun j x d=>?_⟩
   grind
  .cases hv
theorem Bo{c:Ctx}{ρ:aD}{F:aK}{st:AS}{a:Act}{w:World}(h:Conc c ρ F st a w){b:Func}{vs:List AV}(hv:jV P st b.results.toList=some vs) :
 ∃u,(results b a.tmps).run P w = .ok u w/\Rd ρ F w (retV vs) u:=by
 have⟨us,f,g,d⟩:=Hy h _ _ hv;have l:(b.results.mapM (uE a.tmps)).run P w = .ok us.toArray w:=by
  have e:b.results=b.results.toList.toArray:=η;rw[e,List.mapM_toArray];simp[f]
 refine⟨if h:us.toArray.size=1 then us.toArray[0] else .tuple us.toArray,?_,?_⟩
 .have i:results b a.tmps=(do let vs<-b.results.mapM (uE a.tmps);pure (if h:vs.size=1 then vs[0] else .tuple vs)):=by
   rfl
  simp_all
 .match vs,us,g,d with
  |[],[],_,_=>exact .tup _ _ rfl (fun j c k=>by simp at k)
  |[v],[u],_,d=>simpa[retV] using d 0 v rfl
  |v::v2::r,u::u2::r',g,d =>
   simp only[ew] at g;simp only[retV,List.size_toArray,ew,show¬(r'.length+1+1=1) by omega,dite_false];refine .tup _ _ ζ (fun j c k=>?_);simp_all
structure Bp(P:Program)(rs:List ResultVar)(st:AS)(v:AV)(T:List Nat)(u:List (Nat×Option Blk))(S:List Nat)(σ:Nat->Nat):Prop where
 res:∃vs,jV P st rs=some vs/\aS (hget st.hp) S σ v (retV vs)
 blocks:iU (hget st.hp) S σ u
 nd:cP (keys u)=true
 nd':cP ((liveK u).map σ)=true
 live:pH st.hp S
 sigT:∀i,i∈T->(i∈liveK u->σ i=i)/\i∈keys u
 sigN:∀i,i∉liveK u->st.nx<=σ i
theorem J3{u:List (Nat×Option Blk)}(c:cP (keys u)=true){i:Nat}(a:i∈liveK u):∃b,hget u i=some b:=by
 induction u with
 |nil=>cases a
 |cons x r d =>
  have⟨k,v⟩:=x;simp only[keys,hX,cP] at c;cases g:ll (r.map (·.1)) k with
  |true=>rw[g] at c;cases c
  |false =>
   rw[g] at c;have e:∀(r:List (Nat×Option Blk)) (i:Nat),i∈liveK r->i∈r.map (·.1):=by
    intro r
    induction r with
    |nil=>intro i a;cases a
    |cons y r d =>
     have⟨j,l⟩:=y;intro i a;unfold liveK at a
     grind
   cases v with
   |some b =>
    unfold liveK at a;rcases hZ.1 a with rfl|a
    .simp[hget]
    .have⟨h,f⟩:=d c a
     grind [ll,iG,k',hget,eN]
   |none =>
    unfold liveK at a;have⟨h,f⟩:=d c a
    grind [ll,iG,k',hget,eN]
theorem uF{u:List (Nat×Option Blk)}{i:Nat}(a:i∈liveK u):i∈keys u:=by
 induction u with
 |nil=>cases a
 |cons y r b =>
  have⟨c,d⟩:=y;unfold liveK at a
  grind [keys,v']
def mkC(P:Program)(fn:Func)(ρ:aD)(F:aK)(w:World)(T:List Nat)(u:List (Nat×Option Blk))(h:bv)(v:AV):Ctx where
 P:=P
 fn:=fn
 R:=fun e w'=>∃x ρ' F',e = .returned x/\Post ρ F w T u h v x ρ' F' w'
 w0:=w
 F0:=F
 O:=OSet ρ (keys u)
 ρ0:=fun i=>if i∈T then ρ i else none
theorem Rv{L:Func}{ρ:aD}{F:aK}{w:World}{T:List Nat}{u:List (Nat×Option Blk)}{h:bv}{v:AV}(s:Pre ρ F w T u h){ρe:aD}{Fe:aK}{st:AS}{a:Act}{w':World}
 (c:Conc (mkC P L ρ F w T u h v) ρe Fe st a w') {S:List Nat} {σ:Nat->Nat} (n:Bp P L.results.toList st v T u S σ) :
 a.defers=[]/\∃x,(results L a.tmps).run P w' = .ok x w'/\∃y ρ' F',Ending.returned x = .returned y/\Post ρ F w T u h v y ρ' F' w':=by
 have⟨vs,M,hv⟩:=n.res;have⟨x,hx,hr⟩:=Bo (P:=P) c M;refine⟨c.defers,x,hx,x,fun i=>if i∈liveK u then ρe (σ i) else ρ i,jp Fe ρe S,rfl,?_⟩;have hH:=c.heap.restr S;have hρ:∀i b,ρe (σ i)=some b->(if i∈liveK u then ρe (σ i) else ρ i)=some b:=by
  intro i b hb;by_cases d:i∈liveK u
  .rw[b9 d];exact hb
  .rw[c.fresh _ (n.sigN i d)] at hb;cases hb
 have z:∀i,i∈liveK u->i∉T->ρ i=none:=fun i d p=>s.fresh i (uF d) p
 have o:∀b,OSet ρe S b->b<w'.heap.size/\(w.heap.size<=b\/OSet ρ (keys u) b):=by
  rintro b ⟨i,d,hb⟩;have I:=g9 n.live d;refine⟨?_,c.own i b I hb⟩;have⟨k,A⟩:=em.1 I;rcases c.heap.ok i k A with⟨_,N⟩|⟨b2,B,ho⟩
  .rw[N] at hb;cases hb
  .rw[hb] at B;cases B;exact ho.lt
 have l:∀i C,restr (T++keys u) (updH u h) i=some C->i∈liveK u/\σ i∉S/\∃b,hget st.hp (σ i)=some b/\C.t=b.t/\aj (hget st.hp) S σ C.cs b.cs:=by
  intro i C g;have⟨q,g⟩:=aY g;have A:i∈keys u:=by
   rcases o1.1 q with h1|h1
   .exact(n.sigT i h1).2
   .exact h1
  simp only[updH,b9 A] at g;have q:=g8 g;have⟨h1,h2⟩:=kx n.blocks q;refine⟨qY q,h1,?_⟩;exact aix
 refine⟨fun i b hb=>?_,fun i h1 h2=>?_,fun i b h1 h2=>?_,kw hH hρ _ _ _ hv hr,⟨fun i k A=>?_,fun i j b d K h1 h2=>?_⟩,?_,?_⟩
 .by_cases d:i∈liveK u
  .rw[b9 d];have p:i∈T:=by
    by_cases p:i∈T
    .exact p
    .rw[z i d p] at hb;cases hb
   rw[(n.sigT i p).1 d];exact c.keep i b (by simp[mkC,p,hb])
  .rw[b0 d];exact hb
 .by_cases d:i∈liveK u
  .exact uF d
  .rw[b0 d] at h2;exact s5 h1 h2
 .by_cases d:i∈liveK u
  .rw[b9 d] at h2;have⟨C,g⟩:=J3 n.nd d;have q:=g8 g;have⟨_,hs⟩:=kx n.blocks q;have I:hget st.hp (σ i)≠none:=by intro e;rw[e] at hs;exact hs
   exact c.own (σ i) b I h2
  .rw[b0 d,h1] at h2;cases h2
 .have⟨D,hS,b,hb,ht,m⟩:=l i k A;rcases c.heap.ok (σ i) b hb with⟨h1,N⟩|⟨bb,E,ho⟩
  .rw[h1] at m;refine .inl ⟨?_,by rw[b9 D];exact N⟩;cases O:k.cs with
   |nil=>rfl
   |cons x r=>rw[O] at m;simp[aj] at m
  .refine .inr ⟨bb,by rw[b9 D];exact E,ho.view (fun Q=>?_) ht (eH m) (fun _ h => .inl h) (fun f hf=>fL hH hρ k.cs b.cs f m hf)⟩;rcases Q with Q|⟨j,K,R⟩
   .exact ho.own Q
   .have:=c.heap.inj j (σ i) bb (g9 n.live K) (by rw[hb];simp) R E;exact hS (this ▸ K)
 .have⟨ki,U⟩:=em.1 d;have⟨kj,V⟩:=em.1 K;have⟨G,_,bi,W,_⟩:=l i ki U;have⟨H,_,bj,X,_⟩:=l j kj V;rw[b9 G] at h1;rw[b9 H] at h2;exact nr n.nd' G H (c.heap.inj (σ i) (σ j) b (by rw[W];simp) (by rw[X];simp) h1 h2)
 .rintro b (hb|hb)
  .exact c.fok b hb
  .exact(o b hb).1
 .exact⟨c.chg.os,c.chg.tape,c.chg.output,c.chg.size,c.chg.same,c.chg.cells,fun b hb => .inl (c.chg.sub b hb),fun b hb=>by
   rcases hb with hb|hb
   .exact c.chg.new b hb
   .exact .inr (o b hb).2⟩
def Fin(c:Ctx)(rs:List ResultVar)(v:AV)(T:List Nat)(u:List (Nat×Option Blk)):Prop :=
 ∀k st S σ,Bp c.P rs st v T u S σ->SAW c (.code .ret::k) st/\SAW c [] st
def qZ:Nat->List AV->List (Nat×AV)
 |_,[]=>[]
 |i,v::r=>(i,v)::qZ (i+1) r
theorem J4:∀(vs:List AV) (i s:Nat),lk (qZ i vs) s=if i<=s then(vs[s-i]?).getD .any else .any:=by
 intro vs
 induction vs with
 |nil=>intro i s;simp[qZ,lk]
 |cons v r a =>
  intro i s;simp only[qZ,iq,a]
  grind
mutual
def ax(T:List Nat):AV->Prop
 |.p _=>True
 |.ptr i _=>i∈T
 |.sl i _ _ _=>i∈T
 |.cp _=>True
 |.agg zas=>ak T zas
 |.tup zas=>ak T zas
 |.iface _ a=>ax T a
 |.fn _ zas bs=>ak T zas/\ak T bs
 |.mp i=>i∈T
 |.any=>True
def ak(T:List Nat):List AV->Prop
 |[]=>True
 |a::zas=>ax T a/\ak T zas
end
theorem aM(T:List Nat):∀cs:List PV,ak T (cs.map .p)
 |[]=>trivial
 |c::cs=>⟨trivial,aM T cs⟩
def bV(T:List Nat):List (Nat×Option Blk)->Prop
 |[]=>True
 |(_,b)::r=>(match b with
  |some b=>ak T b.cs
  |none=>True)/\bV T r
theorem eq{T:List Nat}:∀{zas:List AV} {j:Nat} {a:AV},ak T zas->zas[j]?=some a->ax T a
 |[],j,a,_,h=>by simp at h
 |x::xs,0,a,hi,h=>by simp at h;subst h;exact hi.1
 |x::xs,j+1,a,hi,h=>eq hi.2 χ
theorem zq{T:List Nat}{ρ ρ':aD}{F:aK}{w:World}(e:∀i,i∈T->ρ' i=ρ i){x:AV}{u:Value}(h:Rd ρ F w x u):ax T x->Rd ρ' F w x u:=by
 induction h with
 |p x u h=>intro _;exact .p _ _ h
 |ptr id off b h=>intro a;exact .ptr _ _ _ (by rw[e id a];exact h)
 |sl id off len s b cap h hcap hc=>intro a;exact .sl _ _ _ _ _ _ (by rw[e id a];exact h) hcap hc
 |slz id off s A=>intro _;exact .slz _ _ _ _
 |cp cs b off f hF hc h1 hr=>intro _;exact .cp _ _ _ f hF hc h1 hr
 |agg cs us hl _ ih=>intro a;exact .agg _ _ hl (fun j c d=>ih j c d (eq a d))
 |tup cs us hl _ ih=>intro a;exact .tup _ _ hl (fun j c d=>ih j c d (eq a d))
 |iface t x u _ ih=>intro a;exact .iface _ _ _ (ih a)
 |fn f zas bs us vs hl _ hl' _ ih ih'=>intro a;exact .fn _ _ _ _ _ hl (fun j c d=>ih j c d (eq a.1 d)) hl' (fun j c d=>ih' j c d (eq a.2 d))
 |mp id b h hm=>intro a;exact .mp _ _ (by rw[e id a];exact h) hm
 |any u=>intro _;exact .any _
theorem uG{T:List Nat}{a:List (Nat×Option Blk)}(h:bV T a){i:Nat}{b:Blk}(c:(i,some b)∈a):ak T b.cs:=by
 induction a with
 |nil=>cases c
 |cons x r d =>
  have⟨k,v⟩:=x;rcases hZ.1 c with h1|h1
  .cases h1;exact h.1
  .exact d h.2 h1
theorem lm{f:FuncId}{b:Func}{a:Code}(c:P.funcs[f]?=some b)(d:b.body=some a)(e:(b.name=="runtime.NumGoroutine")=false)(us:Array Value)(w:World):(callFunc f us).run P w = .ok (.enter f us) w:=by
 simp_all[callFunc,hW,run_program,ez]
theorem Bq{f:FuncId}{d:Func}{o:Code}{vs:List AV}{v:AV}{T:List Nat}{u:List (Nat×Option Blk)}{h:bv}{hp0:List (Nat×Option Blk)}{nx0 n:Nat}
 (I:P.funcs[f]?=some d) (m:d.body=some o) (q:(d.name=="runtime.NumGoroutine")=false) (W:d.ntmps=n) (U:vs.length<=n)
 (K:hget hp0=restr T h) (M:∀i,i∈T->i<nx0)
 (r:ak T vs) (z:bV T hp0)
 (L:∀i,i∈T->i∈keys u)
 (N:∀c:Ctx,c.P=P->(∀i,c.ρ0 i≠none->i∈T)->Fin c d.results.toList v T u->SAW c [.code o] ⟨n,qZ 0 vs,hp0,nx0⟩):FCall P f vs h v T u where
 tri ρ F us w hpre hz hr:=by
  refine .inl ⟨lm I m q us w,Calls.mono (R:=fun e w'=>∃x ρ' F',e = .returned x/\Post ρ F w T u h v x ρ' F' w') ?_ (fun e w' ⟨x,ρ',F',O,V⟩=>⟨x,O,ρ',F',V⟩)⟩;apply calls_of_wp I m;have A:Fin (mkC P d ρ F w T u h v) d.results.toList v T u:=by
   intro k st S σ O;have B:∀ ρe Fe a w',Conc (mkC P d ρ F w T u h v) ρe Fe st a w'->bodyPost P d (mkC P d ρ F w T u h v).R .ret a w'/\bodyPost P d (mkC P d ρ F w T u h v).R .normal a w':=by
    intro ρe Fe a w' C;have:=Rv hpre C O;exact⟨this,this⟩
   refine⟨fun ρe Fe a w' C=>wp_ret ?_,fun ρe Fe a w' C=>(B ρe Fe a w' C).2⟩;rw[uD];exact(B ρe Fe a w' C).1
  have D:=N (mkC P d ρ F w T u h v) rfl (fun i l=>by simp only[mkC] at l;by_cases L:i∈T;exact L;simp[L] at l) A;have Q:Conc (mkC P d ρ F w T u h v) (fun i=>if i∈T then ρ i else none) F ⟨n,qZ 0 vs,hp0,nx0⟩ {tmps:=us++Array.replicate (d.ntmps-us.size) undef,defers:=[]} w:=by
   have E:∀i,i∈T->(fun i=>if i∈T then ρ i else none) i=ρ i:=fun i l=>by simp[l]
   have g:∀i b,(if i∈T then ρ i else none)=some b->ρ i=some b:=fun i b m=>by
    simp_all
   refine⟨rfl,ζ,fun s=>?_,?_,fun i l=>?_,hpre.fok,Chg.refl _ _ _,fun i l=>?_,fun i b l m=>?_,fun i b m=>m,hpre.glob⟩
   .simp only[J4,gi,if_true,Nat.sub_zero];cases hs:vs[s]? with
    |none=>exact .any _
    |some x =>
     have G:s<us.size:=by rw[hz];exact(hP.1 hs).1
     have e:(us++Array.replicate (d.ntmps-us.size) undef).getD s undef=us.getD s undef:=by simp[Array.getElem?_append,G]
     simp only[z'];rw[e];exact zq E (hr s x hs) (eq r hs)
   .refine⟨fun i k p=>?_,fun i j b l H h1 h2=>?_⟩
    .have t:=uG z (g8 p);rw[K] at p;have y:=(aY p).1;rcases hpre.hp.ok i k p with⟨h1,X⟩|⟨b,m,ho⟩
     .simp_all
     .exact .inr ⟨b,by simp[y,m],ho.view ho.own rfl rfl (fun _ h=>h) (fun f I j c H=>zq E (I j c H) (eq t H))⟩
    .rw[K] at l H;exact hpre.hp.inj i j b l H (g i b h1) (g j b h2)
   .grind
   .rw[K] at l;have⟨k,p⟩:=em.1 l;exact M i (aY p).1
   .rw[K] at l;have⟨k,p⟩:=em.1 l;have y:=(aY p).1;exact .inr ⟨i,L i y,g i b m⟩
  exact D _ _ _ _ Q
def FPure(P:Program)(f:FuncId)(vs:List AV)(v:AV):Prop:=∀h,FCall P f vs h v [] []
def Z1(P:Program)(rs:List ResultVar)(st:AS)(v:AV):Prop :=
 ∃S,pH st.hp S/\∃vs,jV P st rs=some vs/\aS (hget st.hp) S (fun _=>st.nx) v (retV vs)
theorem J5{f:FuncId}{g:Func}{a:Code}{vs:List AV}{v:AV}{n:Nat}(p:P.funcs[f]?=some g)(q:g.body=some a)(b:(g.name=="runtime.NumGoroutine")=false)(r:g.ntmps=n)
 (j:vs.length<=n) (d:ak [] vs)
 (m:∀c:Ctx,c.P=P->(∀i,c.ρ0 i≠none->False)->(∀k st,Z1 P g.results.toList st v->SAW c (.code .ret::k) st/\SAW c [] st)->SAW c [.code a] ⟨n,qZ 0 vs,[],0⟩):FPure P f vs v:=by
 intro h;apply Bq p q b r j (hp0:=[]) (nx0:=0) (by funext i;simp[hget,restr]) (fun i e=>by cases e) d trivial (fun i e=>by cases e);intro c J s l;refine m c J (fun i e=>by have:=s i e;cases this) (fun k st t=>?_);have⟨S,u,vs',hv,o⟩:=t;exact l k st S (fun _=>st.nx) ⟨⟨vs',by rw[J];exact hv,o⟩,trivial,rfl,rfl,u,fun i e=>(by cases e),fun i _=>c7 _⟩
theorem uH(S:List Nat)(a:List (Nat×Option Blk))(i:Nat):hget (fg S++a) i=if i∈S then none else hget a i:=by
 induction S with
 |nil=>simp[fg]
 |cons k r b =>
  simp only[fg,List.cons_append];show(match k' k i with|true=>none|false=>hget (fg r++a) i)=_;by_cases h:k=i
  .subst h;simp
  .grind [eN]
theorem aX{c:Ctx}{k:List It}{n:Nat}{l:List (Nat×AV)}{hp:List (Nat×Option Blk)}{nx:Nat}(t:TypeId)(h:SAW c k ⟨n,l,(nx,some ⟨t,[]⟩)::hp,nx+1⟩):SAW c k ⟨n,l,hp,nx⟩:=by
 intro ρ F a w d;have p:ρ nx=none:=d.fresh nx (c7 _);have hg:∀i,hget ((nx,some ⟨t,[]⟩)::hp) i=if nx=i then some ⟨t,[]⟩ else hget hp i:=by
  exact ag3
 have f:∀i,hget ((nx,some ⟨t,[]⟩)::hp) i≠none->ρ i≠none->hget hp i≠none:=by
  grind
 refine h ρ F a w ⟨d.defers,d.size,d.slots,⟨fun i k g=>?_,fun i j b e o h1 h2=>d.heap.inj i j b (f i e (by rw[h1];simp)) (f j o (by rw[h2];simp)) h1 h2⟩,fun i e=>d.fresh i (by simp at e;show nx<=i;omega),d.fok,d.chg,fun i e=>?_,fun i b e m=>d.own i b (f i e (by rw[m];simp)) m,d.keep,d.glob⟩
 .simp only[hg] at g;by_cases h:nx=i
  .grind
  .rw[b0 h] at g;exact d.heap.ok i k g
 .simp only[hg] at e;by_cases h:nx=i
  .simp_all
  .rw[b0 h] at e;exact Nat.lt_succ_of_lt (d.dom i e)
structure FS where
 n:Nat
 sl:Nat->AV
 hp:bv
 al:Nat->Prop
def AS.fs(st:AS):FS:=⟨st.n,lk st.sl,hget st.hp,fun i=>i<st.nx⟩
def evF(fs:FS):Operand->AV
 |.tmp t=>fs.sl t
 |.const v=>match gC v with|true=>iX v|false => .any
 |.func f => .p (.v (.func (.func f) #[] #[]))
 |.global g=>match od g with|some cs => .cp (cs.map .v)|none => .any
theorem Rw(st:AS)(x:Operand):evF st.fs x=ev st x:=by cases x<;>rfl
structure ConcF(c:Ctx)(ρ:aD)(F:aK)(fs:FS)(a:Act)(w:World):Prop where
 defers:a.defers=[]
 size:a.tmps.size=fs.n
 slots:∀s,Rd ρ F w (fs.sl s) (a.tmps.getD s undef)
 heap:HpOk ρ F w fs.hp
 fresh:∀i,¬fs.al i->ρ i=none
 fok:oB F w
 chg:Chg c.O c.F0 F c.w0 w
 dom:∀i,fs.hp i≠none->fs.al i
 own:∀i b,fs.hp i≠none->ρ i=some b->c.w0.heap.size<=b\/c.O b
 keep:∀i b,c.ρ0 i=some b->ρ i=some b
 glob:GlobOk F w
theorem Conc.toF{c:Ctx}{ρ:aD}{F:aK}{st:AS}{a:Act}{w:World}(h:Conc c ρ F st a w):ConcF c ρ F st.fs a w :=
 ⟨h.defers,h.size,h.slots,h.heap,fun i b=>h.fresh i (by simpa[AS.fs] using b),h.fok,h.chg,h.dom,h.own,h.keep,h.glob⟩
theorem ConcF.ofF{c:Ctx}{ρ:aD}{F:aK}{st:AS}{a:Act}{w:World}(h:ConcF c ρ F st.fs a w):Conc c ρ F st a w :=
 ⟨h.defers,h.size,h.slots,h.heap,fun i b=>h.fresh i (by simpa[AS.fs] using b),h.fok,h.chg,h.dom,h.own,h.keep,h.glob⟩
def putF(fs:FS)(d:Option Nat)(v:AV):FS :=
 { fs with sl:=fun s=>match d with
    |some d=>if d=s/\d<fs.n then v else fs.sl s
    |none=>fs.sl s}
def J6(fs:FS)(d:Option Nat)(v:AV)(u:List (Nat×Option Blk)):FS :=
 putF ⟨fs.n,fs.sl,updH u fs.hp,fun i=>fs.al i\/i∈keys u⟩ d v
inductive Stp where
 |run (v:AV) (T:List Nat) (u:List (Nat×Option Blk))
 |skip
def i4(o:Oper)(fs:FS):Stp->FS
 |.run v _ u=>J6 fs o.dst v u
 |.skip=>putF fs o.dst (.tup [])
def Stp.T:Stp->List Nat
 |.run _ T _=>T
 |.skip=>[]
def Stp.K:Stp->List Nat
 |.run _ _ u=>keys u
 |.skip=>[]
def wantF(all:Array Oper)(o:Oper)(fs:FS)(b:Bool):Prop :=
 match o.guard with
 |none=>b=true
 |some (j,want)=>∃d,(all[j]?).bind (·.dst)=some d/\((∃g,fs.sl d = .b g/\b=decide (g=want))\/(fs.sl d = .tup []/\b=false))
def OpF(P:Program)(o:Oper)(fs:FS)(v:AV)(T:List Nat)(u:List (Nat×Option Blk)):Prop :=
 ∀(ρ:aD) (F:aK) (a:Act) (w:World),Pre ρ F w T u fs.hp->(∀x,x∈o.op.operands.toList->Rd ρ F w (evF fs x) (a.eval x)) ->
  ∀(K:Act->World->Prop) (Q:Exit->Act->World->Prop),(∀x ρ' F' w',Post ρ F w T u fs.hp v x ρ' F' w'->K (a.put o.dst x) w')->o.wp P a w K Q
def uI(P:Program)(all:Array Oper)(o:Oper)(fs:FS):Stp->Prop
 |.run v T u=>wantF all o fs true/\OpF P o fs v T u/\(∀i,i∈keys u->i∈T\/¬fs.al i)/\(∀i,i∈T->fs.hp i≠none)
 |.skip=>wantF all o fs false
def RunF(P:Program)(all:Array Oper):List (Nat×Oper×Stp)->FS->FS->Prop
 |[],fs,fe=>fs=fe
 |(_,o,s)::L,fs,fe=>uI P all o fs s/\RunF P all L (i4 o fs s) fe
structure uJ(all:Array Oper)(o o':Oper)(s s':Stp):Prop where
 ap:o.apart all o'=true
 k1:∀i,i∈s.K->i∉s'.T/\i∉s'.K
 k2:∀i,i∈s'.K->i∉s.T
theorem Ok{fs:FS}{d:Option Nat}{v:AV}{x:Operand}(h:∀e,d=some e->x ≠ .tmp e):evF (putF fs d v) x=evF fs x:=by
 cases x with
 |tmp t =>
  grind [evF,putF]
 |_=>rfl
theorem J7(o:Oper)(fs:FS)(s:Stp):∃v,∀t,(i4 o fs s).sl t=(putF fs o.dst v).sl t:=by
 cases s with
 |run v T u=>exact⟨v,fun t=>rfl⟩
 |skip=>exact⟨.tup [],fun t=>rfl⟩
theorem Ol{o:Oper}{fs:FS}{s:Stp}{x:Operand}(h:∀e,o.dst=some e->x ≠ .tmp e):evF (i4 o fs s) x=evF fs x:=by
 have⟨v,hv⟩:=J7 o fs s;have e:evF (i4 o fs s) x=evF (putF fs o.dst v) x:=by cases x<;>simp[evF,hv]
 rw[e,Ok h]
theorem uK{o:Oper}{fs:FS}{s:Stp}{i:Nat}(h:i∉s.K):(i4 o fs s).hp i=fs.hp i:=by
 cases s with
 |run v T u =>
  have a:i∉keys u:=h;simp_all[i4,J6,putF,updH]
 |skip=>rfl
theorem QR(o:Oper)(fs:FS)(s:Stp):(i4 o fs s).n=fs.n:=by cases s<;>rfl
theorem DY{o:Oper}{fs:FS}{s:Stp}{i:Nat}:(i4 o fs s).al i↔fs.al i\/i∈s.K:=by
 cases s with
 |run v T u=>exact Iff.rfl
 |skip=>simp[i4,putF,Stp.K]
theorem OpF.congr{o:Oper}{fs c:FS}{v:AV}{T:List Nat}{u:List (Nat×Option Blk)}(h:OpF P o fs v T u)(g:∀x,x∈o.op.operands.toList->evF c x=evF fs x)(j:∀i,i∈T->c.hp i=fs.hp i):OpF P o c v T u:=by
 intro ρ F a w b e K Q k;have l:restr T c.hp=restr T fs.hp:=by funext i;unfold restr;split;exact j i ‹_›;rfl
 have m:∀i,restr (T++keys u) (updH u c.hp) i=restr (T++keys u) (updH u fs.hp) i:=by
  grind [restr,updH,keys]
 refine h ρ F a w ⟨b.fok,by rw[<-l];exact b.hp,b.fresh,b.glob⟩ (fun x f=>by rw[<-g x f];exact e x f) K Q (fun x ρ' F' w' d=>k x ρ' F' w' ⟨d.rho,d.new,d.blk,d.rd,?_,d.fok,d.chg⟩);have:restr (T++keys u) (updH u c.hp)=restr (T++keys u) (updH u fs.hp):=funext m;rw[this];exact d.hp
theorem wantF.congr{a:Array Oper}{o:Oper}{fs c:FS}{b:Bool}(h:wantF a o fs b)(e:∀j want d,o.guard=some (j,want)->(a[j]?).bind (·.dst)=some d->c.sl d=fs.sl d):wantF a o c b:=by
 grind [wantF]
theorem J8{b:Array Oper}{o c:Oper}(h:∀d,o.dst=some d->d∉c.looksAt b)(fs:FS)(s:Stp) :
 (∀x,x∈c.op.operands.toList->evF (i4 o fs s) x=evF fs x)/\(∀j a d,c.guard=some (j,a)->(b[j]?).bind (·.dst)=some d->(i4 o fs s).sl d=fs.sl d):=by
 refine⟨fun x g=>Ol (fun e i f=>?_),fun j a d hg k=>?_⟩
 .grind [Oper.looksAt,m']
 .have⟨v,hv⟩:=J7 o fs s
  grind [putF,Oper.looksAt,q']
theorem xB{f:Array Oper}{o l:Oper}{fs:FS}{s g:Stp}(p:∀d,o.dst=some d->d∉l.looksAt f)(q:∀i,i∈s.K->i∉g.T)(r:∀i,i∈s.K->i∉g.K) :
 uI P f l fs g↔uI P f l (i4 o fs s) g:=by
 have⟨h1,h2⟩:=J8 p fs s;have k:∀i,i∈g.T->(i4 o fs s).hp i=fs.hp i:=fun i e=>uK (fun t=>q i t e)
 cases g with
 |skip=>exact⟨fun h=>h.congr h2,fun h=>h.congr (fun j w d a b=>(h2 j w d a b).symm)⟩
 |run v T u =>
  refine⟨fun⟨a,b,c,d⟩=>⟨a.congr h2,b.congr h1 k,fun i e=>?_,fun i e=>by rw[k i e];exact d i e⟩,
   fun⟨a,b,c,d⟩=>⟨a.congr (fun j w d a b=>(h2 j w d a b).symm),b.congr (fun x y=>(h1 x y).symm) (fun i e=>(k i e).symm),fun i e=>?_,fun i e=>by rw[<-k i e];exact d i e⟩⟩
  .rcases c i e with m|m
   .exact .inl m
   .exact .inr (fun z=>by rcases DY.1 z with n|n;exact m n;exact r i n e)
  .grind [DY]
theorem FS.ext'{a b:FS}(h1:a.n=b.n)(h2:∀s,a.sl s=b.sl s)(c:∀i,a.hp i=b.hp i)(d:∀i,a.al i↔b.al i):a=b:=by
 cases a;cases b;simp only at h1 h2 c d;subst h1;have:∀{α:Type} {f g:Nat->α},(∀s,f s=g s)->f=g:=fun h=>funext h
 rw[this h2,this c,this (fun i=>propext (d i))]
theorem J9{e:Array Oper}{o b:Oper}{fs:FS}{s a:Stp}(f:uJ e o b s a):i4 b (i4 o fs s) a=i4 o (i4 b fs a) s:=by
 have⟨ha,j,k⟩:=Oper.apart_spec f.ap;refine FS.ext' (by simp[QR]) (fun t=>?_) (fun i=>?_) (fun i=>?_)
 ·
  have c:∀(o:Oper) (s:Stp),∃v,∀fs t,(i4 o fs s).sl t=match o.dst with|some d=>if d=t/\d<fs.n then v else fs.sl t|none=>fs.sl t:=by
   intro o s;cases s with
   |run v T u=>exact⟨v,fun fs t=>rfl⟩
   |skip=>exact⟨.tup [],fun fs t=>rfl⟩
  have⟨v,hv⟩:=c o s;have⟨l,g⟩:=c b a
  grind [QR]
 .by_cases h1:i∈s.K
  .have h2:i∉a.K:=(f.k1 i h1).2;rw[uK h2];cases s with
   |run v T u =>
    have h:i∈keys u:=h1;show updH u fs.hp i=updH u (i4 b fs a).hp i;simp_all[updH]
   |skip=>cases h1
  .rw[uK (o:=o) (s:=s) h1];cases a with
   |run v T u =>
    show updH u (i4 o fs s).hp i=updH u fs.hp i;simp_all[updH,keys,uK]
   |skip=>exact uK h1
 .grind [DY]
theorem Hz{b:Array Oper}{x:Nat×Oper×Stp}:∀(L1 L2:List (Nat×Oper×Stp)) (fs f:FS),(∀y,y∈L1->uJ b y.2.1 x.2.1 y.2.2 x.2.2)->RunF P b (L1++x::L2) fs f->RunF P b (x::(L1++L2)) fs f:=by
 intro L1
 induction L1 with
 |nil=>intro L2 fs f _ h;exact h
 |cons y L1 p =>
  intro L2 fs f c h;have⟨q,l,m⟩:=y;have⟨v,n,o⟩:=x;have⟨r,e⟩:=h;have⟨s,d⟩:=p L2 _ f (fun z t=>c z (nk _ t)) e;have a:=c (q,l,m) η;simp only at a;have⟨ha,w,u⟩:=Oper.apart_spec a.ap;have g:uI P b n fs o:=(xB ha (fun i c=>(a.k1 i c).1) (fun i c=>(a.k1 i c).2)).2 s;have j:uI P b l (i4 n fs o) m:=(xB u (fun i c=>a.k2 i c) (fun i c k=>(a.k1 i k).2 c)).1 r;refine⟨g,j,?_⟩;rw[<-J9 a];exact d
end
theorem ConcF.ev{c:Ctx}{ρ:aD}{F:aK}{fs:FS}{a:Act}{w:World}(h:ConcF c ρ F fs a w)(x:Operand):Rd ρ F w (evF fs x) (a.eval x):=by
 cases x with
 |tmp t=>exact h.slots t
 |const v =>
  simp only[evF,Act.eval];exact afK
 |global g =>
  exact ag2
 |func f=>exact .p _ _ (.v _ rfl)
theorem ConcF.putF{c:Ctx}{ρ:aD}{F:aK}{fs:FS}{a:Act}{w:World}(h:ConcF c ρ F fs a w)(d:Option Nat){v:AV}{x:Value}(hv:Rd ρ F w v x):ConcF c ρ F (Abs.putF fs d v) (a.put d x) w:=by
 refine⟨?_,?_,fun s=>?_,h.heap,h.fresh,h.fok,h.chg,h.dom,h.own,h.keep,h.glob⟩
 .cases d<;>simp[Act.put,h.defers]
 .show(a.put d x).tmps.size=fs.n;rw[<-h.size];cases d<;>simp[Act.put]
 .have b:=h.slots s;cases d with
  |none=>exact b
  |some d =>
   simp only[Abs.putF,Act.put];by_cases f:d=s/\d<fs.n
   .obtain⟨rfl,e⟩:=f;have:d<a.tmps.size:=by rw[h.size];exact e
    simp_all
   .rw[b0 f];by_cases i:d=s
    .have g:a.tmps.size<=d:=by rw[h.size];omega
     simp_all
    .simp_all
theorem Ka{P:Program}{o:Oper}{fs:FS}{v:AV}{T:List Nat}{u:List (Nat×Option Blk)}(ho:OpF P o fs v T u)(j:∀i,i∈keys u->i∈T\/¬fs.al i)(d:∀i,i∈T->fs.hp i≠none)
 {c:Ctx} {ρ:aD} {F:aK} {a:Act} {w:World} (h:ConcF c ρ F fs a w) (K:Act->World->Prop) (Q:Exit->Act->World->Prop)
 (t:∀ ρ' F' a' w',ConcF c ρ' F' (J6 fs o.dst v u) a' w'->K a' w'):o.wp P a w K Q:=by
 have m:∀i,i∈keys u->i∉T->ρ i=none:=fun i g r=>h.fresh i (by rcases j i g with h1|h1;exact s5 h1 r;exact h1)
 have e:Pre ρ F w T u fs.hp:=⟨h.fok,h.heap.restr T,m,h.glob⟩;refine ho ρ F a w e (fun x _=>h.ev x) K Q (fun x ρ' F' w' f=>t ρ' F' _ w' ?_);have k:=Post.frame h.heap h.fok m d f;have y:∀b,OSet ρ (keys u) b->c.O b\/c.w0.heap.size<=b:=by
  rintro b ⟨i,g,l⟩;have r:i∈T:=by
   grind
  rcases h.own i b (d i r) l with h1|h1
  .exact .inr h1
  .exact .inl h1
 have h1:ConcF c ρ' F' ⟨fs.n,fs.sl,updH u fs.hp,fun i=>fs.al i\/i∈keys u⟩ a w':=by
  refine⟨h.defers,h.size,fun s=>Post.keep e d f (h.slots s),k,fun i g=>?_,f.fok,h.chg.trans f.chg y,fun i g=>?_,fun i b g l=>?_,fun i b l=>f.rho i b (h.keep i b l),Post.glob e d f⟩
  .have z:=h.fresh i (fun h2=>g (.inl h2));cases p:ρ' i with
   |none=>rfl
   |some b=>exact s5 (.inr (f.new i z (by rw[p];simp))) g
  .by_cases q:i∈keys u
   .exact .inr q
   .simp only[updH,b0 q] at g;exact .inl (h.dom i g)
  .cases p:ρ i with
   |some b' =>
    have:=f.rho i b' p;rw[l] at this;cases this;by_cases A:fs.hp i=none
    .have q:i∈keys u:=by
      by_cases q:i∈keys u
      .exact q
      .simp_all[updH]
     grind
    .exact h.own i b A p
   |none =>
    rcases f.blk i b p l with h2|h2
    .exact .inl (Nat.le_trans h.chg.size h2)
    .grind
 exact h1.putF o.dst f.rd
theorem Br{c:Ctx}{ρ:aD}{F:aK}{fs:FS}{a:Act}{w:World}(h:ConcF c ρ F fs a w){f:Array Oper}{o:Oper}{b:Bool}(i:wantF f o fs b):Region.wanted o (yielded f a.tmps)=b:=by
 unfold wantF at i;unfold Region.wanted;cases hg:o.guard with
 |none=>rw[hg] at i;subst i;rfl
 |some p =>
  have⟨j,m⟩:=p;rw[hg] at i;obtain⟨d,n,⟨g,hs,rfl⟩|⟨hs,rfl⟩⟩:=i
  case inr =>
   have e:=h.slots d;rw[hs] at e;have hv:a.tmps.getD d undef = .tuple #[]:=by
    generalize a.tmps.getD d undef=u at e;cases e with
    |tup _ us hl hr=>rw[c' hl]
   have r:yielded f a.tmps j=none:=by
    unfold yielded;rw[n];by_cases k:d<a.tmps.size
    .simp_all
    .simp_all
   simp_all
  have e:=h.slots d;rw[hs] at e;have q:=e.pv;have k:d<a.tmps.size:=by
   grind [Nat.lt_or_ge,Array.getD_eq_getD_getElem?,Array.getElem?_eq_none,undef]
  have l:a.tmps[d]?=some (.bool g):=by
   simp_all
  grind [yielded]
def jW(o:Oper)(i:Nat):Bool:=o.after.toList.any fun e=>Region.binds .any e&&k' e.on i
inductive TP(all:Array Oper):Nat->Nat->Prop
 |one {j i:Nat} {o:Oper} (h:all[i]?=some o) (he:jW o j=true):TP all j i
 |more {j k i:Nat} {o:Oper} (hk:TP all j k) (h:all[i]?=some o) (he:jW o k=true):TP all j i
def FQ(all:Array Oper)(listed:Array Bool):Prop:=∀i o,all[i]?=some o->listed.getD i false=true->∀j,jW o j=true->listed.getD j false=true
theorem TP.listed{a:Array Oper}{listed:Array Bool}(d:FQ a listed){j i:Nat}(h:TP a j i):(∀o,a[i]?=some o->∀k,jW o k=true->listed.getD k false=true)->listed.getD j false=true:=by
 induction h with
 |one h he=>intro b;exact b _ h _ he
 |more hk h he ih =>
  intro b;have h1:=b _ h _ he;exact ih (fun o ho k c=>d _ o ho h1 k c)
theorem Kb{c:Ctx}{b:Array Oper}{Q:Exit->Act->World->Prop}{fe:FS}(hQ:∀ ρ F a w,ConcF c ρ F fe a w->Q .normal a w) :
 ∀(g:Nat) (L:List (Nat×Oper×Stp)) (fs:FS) (ρ:aD) (F:aK) (a:Act) (w:World) (listed:Array Bool),ConcF c ρ F fs a w->RunF c.P b L fs fe ->
  L.Pairwise (fun x y=>x.1<y.1)->(∀x,x∈L->b[x.1]?=some x.2.1)->L.Pairwise (fun x y=>uJ b x.2.1 y.2.1 x.2.2 y.2.2\/TP b x.1 y.1) ->
  (∀x,x∈L->∀i,jW x.2.1 i=true->i<x.1)->FQ b listed->listed.size=b.size->(∀i,i<b.size->(listed.getD i true=false↔∃x,x∈L/\x.1=i))->L.length<=g ->
  wpAny c.P .any b Q g listed a w:=by
 intro g;have r:∀(L:List (Nat×Oper×Stp)) (listed:Array Bool),L.Pairwise (fun x y=>x.1<y.1)->(∀x,x∈L->b[x.1]?=some x.2.1)->(∀x,x∈L->∀i,jW x.2.1 i=true->i<x.1) ->
  listed.size=b.size->(∀i,i<b.size->(listed.getD i true=false↔∃x,x∈L/\x.1=i))->Region.ready .any b listed=[]->L=[]:=by
  intro L listed hs d f D E hr;cases L with
  |nil=>rfl
  |cons x L =>
   exfalso;have R:=d x η;have s:x.1<b.size:=(h'.1 R).1;have:x.1∈Region.ready .any b listed:=by
    unfold Region.ready;rw[List.mem_filter];refine⟨by simpa using s,?_⟩;have h1:listed.getD x.1 true=false:=(E x.1 s).2 ⟨x,η,rfl⟩;simp only[h1,Bool.not_false,Bool.true_and,R,Option.map_some,z',g',D',C'];intro e he;by_cases hb:Region.binds .any e=true
    .right;have hei:jW x.2.1 e.on=true:=by
      unfold jW;rw[p'];exact⟨e,by simpa using he,by simp[hb]⟩
     have I:=f x η e.on hei;have hsz':e.on<b.size:=ω;cases hg:listed.getD e.on false with
     |true=>rfl
     |false =>
      exfalso;have hg':listed.getD e.on true=false:=by
       have:e.on<listed.size:=ω;simp[e',this] at hg⊢;exact hg
      have⟨y,l,hye⟩:=(E e.on hsz').1 hg';rcases hZ.1 l with rfl|l
      .omega
      .have:=(vx.1 hs).1 y l;omega
    .left;simpa using hb
   rw[hr] at this;cases this
 induction g with
 |zero =>
  intro L fs ρ F a w listed S q hs d p f U D E K;have hL:L=[]:=fo ω;subst hL;refine⟨?_,hQ ρ F a w (by have:fs=fe:=q;rw[<-this];exact S)⟩;unfold Region.ready;rw[List.filter_eq_nil_iff];intro i hi;have s:i<b.size:=by simpa using hi
  have:listed.getD i true=true:=by
   cases hg:listed.getD i true with
   |true=>rfl
   |false=>have⟨x,R,_⟩:=(E i s).1 hg;cases R
  simp[this]
 |succ g ih =>
  intro L fs ρ F a w listed S q hs d p f U D E K;refine⟨fun hr=>?_,fun i hi=>?_⟩
  .have hL:=r L listed hs d f D E hr;subst hL;exact hQ ρ F a w (by have:fs=fe:=q;rw[<-this];exact S)
  ·
   unfold Region.ready at hi;rw[List.mem_filter] at hi;have⟨s,z⟩:=hi;have I:i<b.size:=by simpa using s
   simp only[B',C'] at z;have⟨hnl,m⟩:=z;have⟨x,R,V⟩:=(E i I).1 hnl;obtain⟨L1,L2,rfl⟩:=List.append_of_mem R;have G:=d x R;have M:∀o,b[x.1]?=some o->∀k,jW o k=true->listed.getD k false=true:=by
    intro o ho k C;rw[G] at ho;cases ho;unfold jW at C;rw[p'] at C;have⟨e,he,W⟩:=C;simp only[B'] at W;have heo:=ef W.2;rw[<-V,G] at m;simp only[Option.map_some,z',g',D',C'] at m;rcases m e (by simpa using he) with h1|h1
    .rw[W.1] at h1;cases h1
    .rw[<-heo];exact h1
   have hind:∀y,y∈L1->uJ b y.2.1 x.2.1 y.2.2 x.2.2:=by
    intro y l;have hp:=(y'.1 p).2.2 y l x η;rcases hp with hp|hp
    .exact hp
    .exfalso;have h1:=hp.listed U M;have hyl:y.1<b.size:=(h'.1 (d y (by simp[l]))).1;have:=(E y.1 hyl).2 ⟨y,by simp[l],rfl⟩;have hsy:y.1<listed.size:=ω;simp[e',hsy] at h1 this;rw[h1] at this;cases this
   have X:=Hz L1 L2 fs fe hind q;have⟨N,ox,sx⟩:=x;simp only at V G;subst V;have⟨O,hrest⟩:=X;have n:(L1++L2).Sublist (L1++(N,ox,sx)::L2):=List.Sublist.append (List.Sublist.refl _) (List.sublist_cons_self _ _);have A:∀ ρ' F' a' w',ConcF c ρ' F' (i4 ox fs sx) a' w'->wpAny c.P .any b Q g (listed.setIfInBounds N true) a' w':=by
    intro ρ' F' a' w' hc';refine ih (L1++L2) _ ρ' F' a' w' _ hc' hrest (hs.sublist n) (fun y l=>d y (n.mem l)) (p.sublist n) (fun y l=>f y (n.mem l)) ?_ (by simpa using D) (fun j hj=>?_) (by simp at K⊢;omega)
    .intro j o ho hj k C;have B:∀k,listed.getD k false=true->(listed.setIfInBounds N true).getD k false=true:=by
      intro k C;by_cases he:N=k
      .subst he;have:N<listed.size:=ω;simp[e',this]
      .simpa[kc,d' he] using C
     by_cases t:j=N
     .subst t;exact B k (M o ho k C)
     .have:listed.getD j false=true:=by
       simpa[kc,d' (fun e=>t e.symm)] using hj
      exact B k (U j o ho this k C)
    by_cases t:j=N
    .subst t;have hjs:j<listed.size:=ω;simp[e',hjs];intro y1 y2;rw[y'] at hs;have⟨_,hs2,hs3⟩:=hs;refine⟨fun l=>?_,fun l=>?_⟩
     .have:=hs3 _ l _ (List.mem_cons_self ..);simp at this
     .have:=(vx.1 hs2).1 _ l;simp at this
    .have hjs:j<listed.size:=ω;have e:(listed.setIfInBounds N true).getD j true=listed.getD j true:=by
      simp[kc,d' (fun e=>t e.symm)]
     rw[e,E j hj];constructor
     .rintro⟨y,l,H⟩;refine⟨y,?_,H⟩;rcases o1.1 l with h1|h1
      .exact m' _ h1
      .rcases hZ.1 h1 with h2|h2
       .subst h2;exact s5 H.symm t
       .exact q' _ h2
     .rintro⟨y,l,H⟩;exact⟨y,n.mem l,H⟩
   unfold wpOp;rw[G];simp only;cases sx with
   |run v T u =>
    have⟨hw,hop,C,hlv⟩:=O;rw[b9 (Br S hw)];exact .inl (Ka hop C hlv S _ _ A)
   |skip =>
    have hw:wantF b ox fs false:=O;have:=Br S hw;rw[b0 (by rw[this];simp)];exact A ρ F _ w (S.putF ox.dst (.tup [] #[] rfl (fun j c h=>by simp at h)))
abbrev FP:=List Nat×List Nat
def Stp.fp(s:Stp):FP:=(s.T,s.K)
def HA:List Nat->List Nat->Bool
 |[],_=>false
 |k::r,l=>match ll l k with|true=>true|false=>HA r l
def uL:List Nat->List Nat->List Nat
 |[],l=>l
 |k::r,l=>match ll l k with|true=>uL r l|false=>uL r (k::l)
def nth:List (List Nat)->Nat->List Nat
 |[],_=>[]
 |x::_,0=>x
 |_::r,i+1=>nth r i
def Kc(acc:List (List Nat)):List Edge->List Nat
 |[]=>[]
 |e::r=>match Region.binds .any e with
  |true=>uL (e.on::nth acc e.on) (Kc acc r)
  |false=>Kc acc r
def clo:List Oper->List (List Nat)->List (List Nat)
 |[],acc=>acc
 |o::os,acc=>clo os (acc++[Kc acc o.after.toList])
theorem DZ:∀(a b:List Nat) (x:Nat),x∈uL a b->x∈a\/x∈b:=by
 intro a
 induction a with
 |nil=>intro b x h;exact .inr h
 |cons k r c =>
  grind [uL,v']
theorem FT(l:List (List Nat))(i:Nat):nth l i=(l[i]?).getD []:=by
 induction l generalizing i with
 |nil=>simp[nth]
 |cons x r a=>cases i<;>simp[nth,a]
theorem Kd{c:Array Oper}{i:Nat}{o:Oper}(ho:c[i]?=some o){f:List (List Nat)}(g:∀k x,x∈nth f k->TP c x k):∀(h:List Edge),(∀e,e∈h->e∈o.after.toList)->∀x,x∈Kc f h->TP c x i:=by
 intro h
 induction h with
 |nil=>intro _ x d;cases d
 |cons e r l =>
  intro b x d;unfold Kc at d;cases j:Region.binds .any e with
  |false=>rw[j] at d;exact l (fun e m=>b e (nk _ m)) x d
  |true =>
   rw[j] at d;have a:jW o e.on=true:=by
    unfold jW;rw[p'];exact⟨e,b e η,by simp[j]⟩
   rcases DZ _ _ _ d with h1|h1
   .rcases hZ.1 h1 with rfl|h1
    .exact .one ho a
    .exact .more (g _ _ h1) ho a
   .simp_all
theorem Om{c:Array Oper}:∀(os:List Oper) (a:List (List Nat)),(∀k o,os[k]?=some o->c[a.length+k]?=some o)->(∀k x,x∈nth a k->TP c x k)->∀k x,x∈nth (clo os a) k->TP c x k:=by
 intro os
 induction os with
 |nil=>intro a _ h;exact h
 |cons o os j =>
  intro a b d;refine j _ (fun k l f=>?_) (fun k x g=>?_)
  .have:=b (k+1) l (by simpa using f)
   grind
  .rw[FT] at g;by_cases n:k<a.length
   .simp_all[List.getElem?_append_left,FT]
   .by_cases i:k=a.length
    .subst i;simp at g;exact Kd (by simpa using b 0 o rfl) d _ (fun e m=>m) x g
    .grind
def Rx(all:Array Oper)(o o':Oper)(f f':FP):Bool:=o.apart all o' && !HA f.2 f'.1 && !HA f.2 f'.2 && !HA f'.2 f.1
def FU(all:Array Oper)(cl:List (List Nat))(i:Nat)(o:Oper)(f:FP):Nat->List Oper->List FP->Bool
 |j,o'::os,f'::fs=>(Rx all o o' f f'||ll (nth cl j) i)&&FU all cl i o f (j+1) os fs
 |_,_,_=>true
def FV(o:Oper)(i:Nat):Bool:=o.after.toList.all fun e => !Region.binds .any e||i' e.on i
def zr(all:Array Oper)(cl:List (List Nat))(i:Nat):List Oper->List FP->Bool
 |o::os,f::fs=>FU all cl i o f (i+1) os fs&&FV o i&&zr all cl (i+1) os fs
 |_,_=>true
def D0(all:Array Oper)(fs:List FP):Bool:=zr all (clo all.toList []) 0 all.toList fs
theorem zt{l m:List Nat}(h:HA l m=false):∀i,i∈l->i∉m:=by
 induction l with
 |nil=>intro i a;cases a
 |cons k r b =>
  grind [HA,ll,iG]
theorem On{a:Array Oper}{o c:Oper}{s d:Stp}(h:Rx a o c s.fp d.fp=true):uJ a o c s d:=by
 unfold Rx at h;simp only[B',C'] at h;have⟨⟨⟨h1,h2⟩,e⟩,f⟩:=h;exact⟨h1,fun i b=>⟨zt h2 i b,zt e i b⟩,fun i b=>zt f i b⟩
def mkL:Nat->List Oper->List Stp->List (Nat×Oper×Stp)
 |i,o::os,s::ss=>(i,o,s)::mkL (i+1) os ss
 |_,_,_=>[]
theorem Ke:∀(os:List Oper) (a:List Stp) (i:Nat) (x),x∈mkL i os a->i<=x.1/\os[x.1-i]?=some x.2.1:=by
 intro os
 induction os with
 |nil=>intro a i x b;simp[mkL] at b
 |cons o os c =>
  intro a i x b;cases a with
  |nil=>simp[mkL] at b
  |cons s a =>
   rcases hZ.1 b with rfl|b
   .simp
   .grind
theorem Oo:∀(os:List Oper) (a:List Stp) (i:Nat),os.length=a.length->(∀j,j<os.length->∃x,x∈mkL i os a/\x.1=i+j)/\(mkL i os a).length=os.length:=by
 intro os
 induction os with
 |nil=>intro a i _;exact⟨fun j b=>by simp at b,by simp[mkL]⟩
 |cons o os d =>
  intro a i c;cases a with
  |nil=>simp at c
  |cons s a =>
   have⟨h1,h2⟩:=d a (i+1) (by simpa using c);refine⟨fun j b=>?_,by simp[mkL,h2]⟩;cases j with
   |zero=>exact⟨(i,o,s),by simp[mkL],rfl⟩
   |succ j =>
    have⟨x,f,e⟩:=h1 j (by simpa using b)
    grind [mkL]
theorem Ry(b:Array Oper){m:List (List Nat)}(n:∀k x,x∈nth m k->TP b x k):∀(os:List Oper) (a:List Stp) (i:Nat),zr b m i os (a.map Stp.fp)=true ->
 (mkL i os a).Pairwise (fun x y=>x.1<y.1)/\(mkL i os a).Pairwise (fun x y=>uJ b x.2.1 y.2.1 x.2.2 y.2.2\/TP b x.1 y.1)/\(∀x,x∈mkL i os a->∀j,jW x.2.1 j=true->j<x.1):=by
 intro os
 induction os with
 |nil=>intro a i _;exact⟨by simp[mkL],by simp[mkL],fun x d=>by simp[mkL] at d⟩
 |cons o os p =>
  intro a i h;cases a with
  |nil=>exact⟨by simp[mkL],by simp[mkL],fun x d=>by simp[mkL] at d⟩
  |cons s a =>
   simp only[hX,zr,B'] at h;have⟨⟨w,q⟩,z⟩:=h;have⟨h1,h2,A⟩:=p a (i+1) z;have f:∀(os:List Oper) (a:List Stp) (k:Nat),FU b m i o s.fp k os (a.map Stp.fp)=true->∀y,y∈mkL k os a->uJ b o y.2.1 s y.2.2\/TP b i y.1:=by
    intro os
    induction os with
    |nil=>intro a k _ y c;simp[mkL] at c
    |cons B os p =>
     intro a k r y c;cases a with
     |nil=>simp[mkL] at c
     |cons C a =>
      simp only[hX,FU,B',D'] at r;rcases hZ.1 c with rfl|c
      .rcases r.1 with h1|h1
       .exact .inl (On h1)
       .exact .inr (n k i ((iG _ _).1 h1))
      .exact p a (k+1) r.2 y c
   refine⟨?_,?_,fun x d j l=>?_⟩
   .simp only[mkL,vx];exact⟨fun y c=>(by have:=(Ke os a (i+1) y c).1;omega),h1⟩
   .simp only[mkL,vx];exact⟨fun y c=>f os a (i+1) w y c,h2⟩
   .rcases hZ.1 d with rfl|d
    .unfold jW at l;rw[p'] at l;have⟨e,t,g⟩:=l;simp only[B'] at g;unfold FV at q;rw[List.all_eq_true] at q;have:=q e t;simp only[D',C',g.1] at this;have u:=ef g.2;rcases this with v|v
     .cases v
     .simp only;rw[<-u];simpa[l'] using v
    .exact A x d j l
def SD(c:Ctx)(all:Array Oper)(l:List Oper)(acc:List FP)(k:List It)(fs:FS):Prop :=
 ∃(ss:List Stp) (fe:FS),ss.length=l.length/\(∀i,RunF c.P all (mkL i l ss) fs fe)/\D0 all (acc++ss.map Stp.fp)=true/\∀ ρ F a w,ConcF c ρ F fe a w->Wk c k .normal a w
theorem Rd.drew{ρ:aD}{F:aK}{w:World}{x:AV}{u:Value}(h:Rd ρ F w x u):Rd ρ F w.drew x u:=Rd.mono (w:=w) (w':=w.drew) (F:=F) (F':=F) (ρ:=ρ) (ρ':=ρ) (fun _ _ h=>h) (fun _ h=>h) (fun _ _=>rfl) ⟨fun _ _ h=>h,fun _ h=>h⟩ h
theorem HB{c:Ctx}{d:Array Oper}{id:Nat}{k:List It}{st:AS}(r:c.P.follows .mixedOrders=true)(h:SD c d d.toList [] k st.fs):SAW c (.code (.region id d true)::k) st:=by
 intro ρ F a w t;have⟨m,E,v,e,f,g⟩:=h;apply wp_region_any r;simp only[List.nil_append] at f;have n:∀k x,x∈nth (clo d.toList []) k->TP d x k:=Om d.toList [] (fun k o ho=>by simpa using ho) (fun k x j=>by simp[nth] at j);have⟨h1,h2,y⟩:=Ry d n d.toList m 0 f;have⟨z,A⟩:=Oo d.toList m 0 v.symm;have p:ConcF c ρ F st.fs a {w with drawn:=w.drawn+1}:=by
  have:=t.toF
  exact⟨this.defers,this.size,fun s=>(this.slots s).drew,⟨fun i k B=>by
   rcases this.heap.ok i k B with h1|⟨b,q,ho⟩
   .exact .inl h1
   .exact .inr ⟨b,q,ho.keep ho.own rfl (fun _ h=>h) (fun _ _=>rfl) (fun c u _ C=>C.drew)⟩,this.heap.inj⟩,this.fresh,this.fok,this.chg.trans (Chg.drew c.O F w) (fun b q => .inl q),this.dom,this.own,this.keep,this.glob⟩
 refine Kb g d.size (mkL 0 d.toList m) st.fs ρ F a _ _ p (e 0) h1 (fun x j=>?_) h2 y (fun i o _ l=>by by_cases h:i<d.size<;>simp[e',h] at l) η (fun i l=>?_) (by rw[A];simp)
 .have:=(Ke _ _ _ x j).2;simpa using this
 .constructor
  .intro _;have⟨x,j,D⟩:=z i (by simpa using l);exact⟨x,j,ω⟩
  .intro _;simp[e',l]
structure LeA(fs fs':FS):Prop where
 n:fs'.n=fs.n
 sl:fs'.sl=fs.sl
 hp:fs'.hp=fs.hp
 al:∀i,fs'.al i->fs.al i
theorem LeA.app{fs a:FS}(h:LeA fs a)(o:Oper)(s:Stp):LeA (i4 o fs s) (i4 o a s):=by
 have⟨n,j,k,l⟩:=fs;have⟨m,e,f,g⟩:=a;have⟨h1,h2,d,c⟩:=h;simp only at h1 h2 d c;subst h1 h2 d;cases s with
 |run v T u=>exact⟨rfl,rfl,rfl,fun i b=>by rcases b with b|b;exact .inl (c i b);exact .inr b⟩
 |skip=>exact⟨rfl,rfl,rfl,c⟩
theorem LeA.stp{P:Program}{f:Array Oper}{o:Oper}{fs e:FS}{s:Stp}(h:LeA fs e)(hs:uI P f o fs s):uI P f o e s:=by
 have⟨n,t,w,x⟩:=fs;have⟨y,l,m,p⟩:=e;have⟨h1,h2,j,k⟩:=h;simp only at h1 h2 j k;subst h1 h2 j;cases s with
 |run v T u =>
  have⟨a,b,c,d⟩:=hs;exact⟨a,b,fun i q=>by rcases c i q with g|g;exact .inl g;exact .inr (fun r=>g (k i r)),d⟩
 |skip=>exact hs
theorem RunF.le{P:Program}{b:Array Oper}:∀(L:List (Nat×Oper×Stp)) {fs fs' fe:FS},RunF P b L fs fe->LeA fs fs'->∃a,RunF P b L fs' a/\LeA fe a
 |[],fs,fs',fe,h,hl=>⟨fs',rfl,by have:fs=fe:=h;rw[<-this];exact hl⟩
 |(i,o,s)::L,fs,fs',fe,h,hl=>by
  have⟨a,h1,h2⟩:=RunF.le L h.2 (hl.app o s);exact⟨a,⟨hl.stp h.1,h1⟩,h2⟩
theorem LeA.conc{c:Ctx}{ρ:aD}{F:aK}{fs d:FS}{a:Act}{w:World}(h:LeA fs d)(b:ConcF c ρ F d a w):ConcF c ρ F fs a w:=by
 have⟨n,o,p,q⟩:=fs;have⟨r,j,k,l⟩:=d;have⟨h1,h2,g,e⟩:=h;simp only at h1 h2 g e;subst h1 h2 g;exact⟨b.defers,b.size,b.slots,b.heap,fun i f=>b.fresh i (fun m=>f (e i m)),b.fok,b.chg,fun i f=>e i (b.dom i f),b.own,b.keep,b.glob⟩
theorem RunF.shift{P:Program}{a:Array Oper}:∀(l:List Oper) (ss:List Stp) (i j:Nat) (fs fe:FS),RunF P a (mkL i l ss) fs fe->RunF P a (mkL j l ss) fs fe
 |[],ss,i,j,fs,fe,h=>h
 |o::l,[],i,j,fs,fe,h=>h
 |o::l,s::ss,i,j,fs,fe,h=>⟨h.1,RunF.shift l ss (i+1) (j+1) _ fe h.2⟩
theorem Kf(st:AS)(d:Option Nat)(v:AV):(put st d v).fs=putF st.fs d v:=by
 cases d with
 |none=>rfl
 |some d =>
  unfold put;simp only;cases b:i' d st.n with
  |true =>
   have c:d<st.n:=by simpa[l'] using b
   refine FS.ext' rfl (fun s=>?_) (fun _=>rfl) (fun _=>Iff.rfl);simp_all[AS.fs,iq,putF]
  |false =>
   have a:¬d<st.n:=fun h=>by
    grind [i',l']
   refine FS.ext' rfl (fun s=>?_) (fun _=>rfl) (fun _=>Iff.rfl);exact(b0 (fun h=>a h.2)).symm
theorem Rz{st:AS}{d:Option Nat}{v:AV}{u:List (Nat×Option Blk)}{nx:Nat}(b:st.nx<=nx)(c:∀i,i∈keys u->i<nx):LeA (eff st d v u nx).fs (J6 st.fs d v u):=by
 unfold eff;rw[Kf];refine⟨rfl,?_,?_,fun i a=>?_⟩
 .rfl
 .show updH u (hget st.hp)=hget (u++st.hp);rw[dA]
 .rcases a with a|a
  .exact Nat.lt_of_lt_of_le a b
  .exact c i a
theorem OpOk.toF{P:Program}{o:Oper}{st:AS}{v:AV}{T:List Nat}{u:List (Nat×Option Blk)}{nx:Nat}(h:OpOk P o st v T u nx):OpF P o st.fs v T u:=by
 intro ρ F a w b c K Q d;exact h.tri ρ F a w b (fun x e=>by rw[<-Rw];exact c x e) K Q d
theorem SD.step{c:Ctx}{b:Array Oper}{o:Oper}{os:List Oper}{d:List FP}{k:List It}{st:AS}{v:AV}{T:List Nat}{u:List (Nat×Option Blk)}{nx:Nat}(r:wantF b o st.fs true)(ho:OpOk c.P o st v T u nx)(s:∀i,i∈T->i<nx)
 (h:SD c b os (d++[(T,keys u)]) k (eff st o.dst v u nx).fs):SD c b (o::os) d k st.fs:=by
 have⟨l,z,t,e,m,f⟩:=h
 have n:LeA (eff st o.dst v u nx).fs (J6 st.fs o.dst v u):=Rz ho.le (fun i p=>by
  rcases ho.keysOk i p with h1|h1
  .exact s i h1
  .exact h1.2)
 have⟨g,q,j⟩:=RunF.le (mkL 0 os l) (e 0) n;refine⟨.run v T u::l,g,by simp[t],fun i=>⟨⟨r,ho.toF,fun i p=>?_,ho.live⟩,RunF.shift os l 0 (i+1) _ g q⟩,by simpa[Stp.fp,Stp.T,Stp.K,List.append_assoc] using m,fun ρ F a w x=>f ρ F a w (j.conc x)⟩;rcases ho.keysOk i p with h1|h1
 .exact .inl h1
 .exact .inr (fun h2=>by have y:i<st.nx:=h2;omega)
theorem SD.skip{c:Ctx}{b:Array Oper}{o:Oper}{os:List Oper}{d:List FP}{k:List It}{st:AS}(g:wantF b o st.fs false)(h:SD c b os (d++[([],[])]) k (put st o.dst (.tup [])).fs):SD c b (o::os) d k st.fs:=by
 have⟨j,l,m,a,f,e⟩:=h;rw[Kf] at a;exact⟨.skip::j,l,by simp[m],fun i=>⟨g,a (i+1)⟩,by simpa[Stp.fp,Stp.T,Stp.K,List.append_assoc] using f,e⟩
def uM(c:Ctx)(f:FuncId)(vs:List AV)(o:Oper)(all:Array Oper)(os:List Oper)(acc:List FP)(k:List It)(st:AS):Prop :=
 uA c.P o st f vs->∃v T u nx,OpOk c.P o st v T u nx/\(∀i,i∈T->i<nx)/\SD c all os (acc++[(T,keys u)]) k (eff st o.dst v u nx).fs
def D1(c:Ctx)(rec:List FP->AS->Prop)(o:Oper)(all:Array Oper)(os:List Oper)(acc:List FP)(k:List It)(st:AS):R->Prop
 |.ok v T u nx=>dm nx T=true/\rec (acc++[(T,keys u)]) (eff st o.dst v u nx)
 |.okS s v T u nx=>s/\dm nx T=true/\rec (acc++[(T,keys u)]) (eff st o.dst v u nx)
 |.call f vs=>uM c f vs o all os acc k st
 |.bad=>False
def zu(c:Ctx)(rec:List FP->AS->Prop)(o:Oper)(all:Array Oper)(os:List Oper)(acc:List FP)(k:List It)(st:AS)(d:Nat)(want:Bool):AV->Prop
 |.p (.v (.bool b))=>if b=want then D1 c rec o all os acc k (setB st d want) (aop c.P o.op (setB st d want)) else rec (acc++[([],[])]) (put (setB st d (!want)) o.dst (.tup []))
 |.tup []=>rec (acc++[([],[])]) (put st o.dst (.tup []))
 |_=>False
def zw(c:Ctx)(rec:List FP->AS->Prop)(o:Oper)(all:Array Oper)(os:List Oper)(acc:List FP)(k:List It)(st:AS)(want:Bool):Option Nat->Prop
 |some d=>zu c rec o all os acc k st d want (lk st.sl d)
 |none=>False
def gD(c:Ctx)(rec:List FP->AS->Prop)(o:Oper)(all:Array Oper)(os:List Oper)(acc:List FP)(k:List It)(st:AS):Option (Nat×Bool)->Prop
 |none=>D1 c rec o all os acc k st (aop c.P o.op st)
 |some (j,want)=>zw c rec o all os acc k st want (wW all.toList j)
theorem tD{st:AS}{d:Nat}{b:Bool}(h:lk st.sl d = .b b):(setB st d b).fs=st.fs:=by
 refine FS.ext' rfl (fun s=>?_) (fun _=>rfl) (fun _=>Iff.rfl);simp only[AS.fs,setB,iq]
 grind
theorem uN{c:Ctx}{g:List FP->AS->Prop}{o:Oper}{b:Array Oper}{os:List Oper}{a:List FP}{k:List It}{st:AS}(d:∀a st,g a st->SD c b os a k st.fs)(l:wantF b o st.fs true)
 (h:D1 c g o b os a k st (aop c.P o.op st)):SD c b (o::os) a k st.fs:=by
 have⟨h1,h2⟩:=JV (P:=c.P) o st;cases e:aop c.P o.op st with
 |ok v T u nx =>
  rw[e] at h;exact SD.step l (h1 v T u nx e) (fun i j=>fM h.1 j) (d _ _ h.2)
 |okS s v T u nx =>
  rw[e] at h;exact SD.step l (h2 s v T u nx e h.1) (fun i j=>fM h.2.1 j) (d _ _ h.2.2)
 |call f vs =>
  rw[e] at h;have⟨v,T,u,nx,ho,m,hs⟩:=h (Bn e)
  grind [SD.step]
 |bad=>rw[e] at h;exact h.elim
section
variable {P : Program}
mutual
def renA(τ:Nat->Nat):AV->AV
 |.p x => .p x
 |.ptr i off => .ptr (τ i) off
 |.sl i off n s => .sl (τ i) off n s
 |.cp cs => .cp cs
 |.agg zas => .agg (eu τ zas)
 |.tup zas => .tup (eu τ zas)
 |.iface t a => .iface t (renA τ a)
 |.fn f zas bs => .fn f (eu τ zas) (eu τ bs)
 |.mp i => .mp (τ i)
 |.any => .any
def eu(τ:Nat->Nat):List AV->List AV
 |[]=>[]
 |a::zas=>renA τ a::eu τ zas
end
theorem cT(τ:Nat->Nat):∀cs:List PV,eu τ (cs.map .p)=cs.map .p
 |[]=>rfl
 |c::cs=>by simp only[hX,eu,renA,cT τ cs]
theorem kz{τ:Nat->Nat}:∀{zas:List AV} {j:Nat} {b:AV},(eu τ zas)[j]?=some b->∃a,zas[j]?=some a/\b=renA τ a
 |[],j,b,h=>by simp[eu] at h
 |a::zas,0,b,h=>by simp[eu] at h;exact⟨a,rfl,h.symm⟩
 |a::zas,j+1,b,h=>by simp[eu] at h;simpa using kz h
theorem kB{τ:Nat->Nat}:∀(b:List AV),(eu τ b).length=b.length
 |[]=>rfl
 |a::b=>by simp[eu,kB b]
def renU(τ:Nat->Nat):List (Nat×Option Blk)->List (Nat×Option Blk)
 |[]=>[]
 |(i,b)::r=>(τ i,match b with|some b=>some ⟨b.t,eu τ b.cs⟩|none=>none)::renU τ r
theorem Kg{τ:Nat->Nat}{D:List Nat}{ρ ρ':aD}{F:aK}{w:World}(g:∀i,i∈D->ρ' (τ i)=ρ i){x:AV}{u:Value}(h:Rd ρ F w x u):ax D x->Rd ρ' F w (renA τ x) u:=by
 induction h with
 |p x u h=>intro _;exact .p _ _ h
 |ptr id off b h=>intro d;exact .ptr _ _ _ (by rw[g id d];exact h)
 |sl id off len s b cap h hcap hc=>intro d;exact .sl _ _ _ _ _ _ (by rw[g id d];exact h) hcap hc
 |slz id off s A=>intro _;exact .slz _ _ _ _
 |cp cs b off f hF hc h1 hr=>intro _;exact .cp _ _ _ f hF hc h1 hr
 |agg cs us hl _ ih =>
  intro d;refine .agg _ _ (by rw[hl,kB]) (fun j c e=>?_);obtain⟨a,ha,rfl⟩:=kz e;exact ih j a ha (eq d ha)
 |tup cs us hl _ ih =>
  intro d;refine .tup _ _ (by rw[hl,kB]) (fun j c e=>?_);obtain⟨a,ha,rfl⟩:=kz e;exact ih j a ha (eq d ha)
 |iface t x u _ ih=>intro d;exact .iface _ _ _ (ih d)
 |fn f zas bs us vs hl _ hl' _ ih ih' =>
  intro d;refine .fn _ _ _ _ _ (by rw[hl,kB]) (fun j c e=>?_) (by rw[hl',kB]) (fun j c e=>?_)
  .obtain⟨a,ha,rfl⟩:=kz e;exact ih j a ha (eq d.1 ha)
  .obtain⟨a,ha,rfl⟩:=kz e;exact ih' j a ha (eq d.2 ha)
 |mp id b h hm=>intro d;exact .mp _ _ (by rw[g id d];exact h) hm
 |any u=>intro _;exact .any _
theorem kC(τ:Nat->Nat)(u:List (Nat×Option Blk)):keys (renU τ u)=(keys u).map τ:=by
 induction u with
 |nil=>rfl
 |cons x r a=>have⟨i,b⟩:=x;simp only[renU,keys,hX] at a⊢;rw[a]
theorem Bs{τ:Nat->Nat}:∀{u:List (Nat×Option Blk)} {i:Nat},cP ((keys u).map τ)=true->i∈keys u->hget (renU τ u) (τ i)=(hget u i).map fun b=>⟨b.t,eu τ b.cs⟩:=by
 intro u
 induction u with
 |nil=>intro i _ c;cases c
 |cons x r h =>
  have⟨k,b⟩:=x;intro i g c;have a:=@nr τ (keys ((k,b)::r)) g;by_cases d:k=i
  .subst d;simp only[renU,hget];have:k' (τ k) (τ k)=true:=η;have h2:k' k k=true:=η
   grind
  .have f:¬ τ k=τ i:=fun e=>d (a ξ c e)
   simp only[renU,hget,eN f,eN d]
   grind [keys,absurd,cP,ll]
structure Con(P:Program)(f:FuncId)(vs:List AV)(hp:List (Nat×Option Blk))(v:AV)(u:List (Nat×Option Blk)):Prop where
 call:FCall P f vs (hget hp) v (liveK hp) u
 ids:ak (liveK hp) vs
 idh:bV (liveK hp) hp
 sub:∀i,i∈liveK hp->i∈keys u
structure mq(st:AS)(vs:List AV)(vs0:List AV)(hp0:List (Nat×Option Blk))(v0:AV)(u0:List (Nat×Option Blk))(S:List Nat)(τ:Nat->Nat)(nx:Nat):Prop where
 args:aj (hget st.hp) S τ vs0 vs
 blocks:iU (hget st.hp) S τ hp0
 nd:cP ((keys u0).map τ)=true
 live:pH st.hp S
 le:st.nx<=nx
 new:∀i,i∈keys u0->i∈liveK hp0\/(st.nx<=τ i/\τ i<nx)
 idv:ax (keys u0) v0
 idu:bV (keys u0) u0
 lt:dm st.nx S=true
theorem uO(a b:List (Nat×Option Blk)):keys (a++b)=keys a++keys b:=ξ
theorem mr(S:List Nat):keys (fg S)=S:=by
 induction S with
 |nil=>rfl
 |cons k r a=>simp only[fg,keys,hX] at a⊢;rw[a]
theorem Bt{o:Oper}{st:AS}{f:FuncId}{vs V:List AV}{hp0:List (Nat×Option Blk)}{v0:AV}{u0:List (Nat×Option Blk)}{S:List Nat}{τ:Nat->Nat}{nx:Nat}(hc:uA P o st f vs)(hf:Con P f V hp0 v0 u0)
 (A:mq st vs V hp0 v0 u0 S τ nx):OpOk P o st (renA τ v0) ((liveK hp0).map τ++S) (renU τ u0++fg S) nx:=by
 have G:∀i,i∈liveK hp0->τ i∉S/\∃B b,(i,some B)∈hp0/\hget st.hp (τ i)=some b/\B.t=b.t/\aj (hget st.hp) S τ B.cs b.cs:=by
  intro i hi;have:∃B,(i,some B)∈hp0:=by
   have E:∀(s:List (Nat×Option Blk)),i∈liveK s->∃B,(i,some B)∈s:=by
    intro s
    induction s with
    |nil=>intro h;cases h
    |cons x r ih =>
     have⟨k,v⟩:=x;intro h;unfold liveK at h;cases v with
     |some b =>
      rcases hZ.1 h with rfl|h
      .exact⟨b,η⟩
      .have⟨B,m⟩:=ih h;exact⟨B,nk _ m⟩
     |none=>have⟨B,m⟩:=ih h;exact⟨B,nk _ m⟩
   exact E hp0 hi
  have⟨B,m⟩:=this;have⟨h1,h2⟩:=kx A.blocks m;unfold oH at h2;split at h2
  .rename_i b e;exact⟨h1,B,b,m,e,h2.1,h2.2⟩
  .exact h2.elim
 have hlive:∀j,j∈(liveK hp0).map τ++S->hget st.hp j≠none:=by
  intro j n;rcases o1.1 n with h1|h1
  .obtain⟨i,hi,rfl⟩:=o4.1 h1;have⟨_,B,b,_,e,_⟩:=G i hi;rw[e];simp
  .exact g9 A.live h1
 have d:∀j,j∈keys (renU τ u0++fg S)↔(∃i,i∈keys u0/\τ i=j)\/j∈S:=by
  intro j;rw[uO,kC,mr,o1,o4]
 have M:∀i L,i∈keys u0->L∈keys u0->τ i=τ L->i=L:=fun i L h1 h2 he=>nr A.nd h1 h2 he
 have N:∀j,j∈keys (renU τ u0++fg S)->j∈(liveK hp0).map τ++S\/(st.nx<=j/\j<nx):=by
  intro j n;rcases(d j).1 n with⟨i,hi,rfl⟩|n
  .rcases A.new i hi with h1|h1
   .exact .inl (m' _ (o4.2 ⟨i,h1,rfl⟩))
   .exact .inr h1
  .exact .inl (q' _ n)
 have W:∀i,i∈liveK hp0->τ i∈(liveK hp0).map τ++S:=fun i hi=>m' _ (o4.2 ⟨i,hi,rfl⟩)
 refine⟨?_,A.le,N,hlive⟩;intro ρ F a w l hin K Q hK;have⟨us,hz,hr,he⟩:=hc ρ F a w hin;unfold Oper.wp;rw[he];have hHS:HpOk ρ F w (Abs.restr S (hget st.hp)):=by
  refine⟨fun i k O=>?_,fun i j b hi n h1 h2=>?_⟩
  .have⟨h1,h2⟩:=aY O;exact l.hp.ok i k (by simp[Abs.restr,h1,h2])
  .have E:∀i,Abs.restr S (hget st.hp) i≠none->Abs.restr ((liveK hp0).map τ++S) (hget st.hp) i≠none:=by
    intro i hi;have⟨k,hk'⟩:=em.1 hi;have⟨h1,h2⟩:=aY hk';simp[Abs.restr,h1,h2]
   exact l.hp.inj i j b (E i hi) (E j n) h1 h2
 let ρ0:aD:=fun i=>if i∈liveK hp0 then ρ (τ i) else none
 have u:∀i,i∈liveK hp0->ρ0 i=ρ (τ i):=fun i hi=>by simp[ρ0,hi]
 have hfr0:∀i,i∈keys u0->i∉liveK hp0->ρ (τ i)=none:=by
  intro i hi hn;rcases A.new i hi with h1|h1
  .exact s5 h1 hn
  .refine l.fresh (τ i) ((d _).2 (.inl ⟨i,hi,rfl⟩)) (fun hm=>?_);rcases o1.1 hm with h2|h2
   .have⟨L,y,he'⟩:=o4.1 h2;have:=M L i (hf.sub L y) hi he';exact hn (this ▸ y)
   .have:=fM A.lt h2;omega
 have hOS:∀b,OSet ρ S b->b<w.heap.size/\OSet ρ (keys (renU τ u0++fg S)) b:=by
  rintro b ⟨i,hi,e⟩;refine⟨?_,i,(d i).2 (.inr hi),e⟩;have⟨k,hk'⟩:=em.1 (g9 A.live hi);rcases hHS.ok i k (by simp[Abs.restr,hi,hk']) with⟨_,h0⟩|⟨b2,hb2,ho⟩
  .rw[h0] at e;cases e
  .rw[e] at hb2;cases hb2;exact ho.lt
 have hfok0:oB (jp F ρ S) w:=by
  rintro b (e|e)
  .exact l.fok b e
  .exact(hOS b e).1
 have hpre0:Pre ρ0 (jp F ρ S) w (liveK hp0) u0 (hget hp0):=by
  refine⟨hfok0,⟨fun i k O=>?_,fun i j b hi n h1 h2=>?_⟩,fun i hi hn=>by simp[ρ0,hn],l.glob.mono (fun _ h => .inl h) (fun _ _=>rfl)⟩
  .have⟨hi,O⟩:=aY O;have hm:=g8 O;have⟨h1,h2⟩:=kx A.blocks hm;unfold oH at h2;split at h2
   .rename_i b e;have⟨ht,R⟩:=h2;rcases l.hp.ok (τ i) b (by simp only[Abs.restr,b9 (W i hi),e]) with⟨h3,h0⟩|⟨bb,X,ho⟩
    .rw[h3] at R;refine .inl ⟨?_,by rw[u i hi];exact h0⟩;cases hcs:k.cs with
     |nil=>rfl
     |cons x r=>rw[hcs] at R;simp[aj] at R
    .refine .inr ⟨bb,by rw[u i hi];exact X,ho.view (fun hF=>?_) ht (eH R) (fun _ h => .inl h) (fun f hf' j c n=>?_)⟩
     .rcases hF with hF|⟨j,n,hjb⟩
      .exact ho.own hF
      .have:=l.hp.inj j (τ i) bb (by simp[Abs.restr,n];exact g9 A.live n) (by simp only[Abs.restr,b9 (W i hi),e];exact nofun) hjb X;exact h1 (this ▸ n)
     .have hrd:=fL (ρ':=fun i=>ρ (τ i)) hHS (fun i b e=>e) k.cs b.cs f R hf' j c n;exact zq u hrd (eq (uG hf.idh hm) n)
   .exact h2.elim
  .have⟨ki,hki⟩:=em.1 hi;have⟨kj,hkj⟩:=em.1 n;have y:=(aY hki).1;have H:=(aY hkj).1;rw[u i y] at h1;rw[u j H] at h2
   have:=l.hp.inj (τ i) (τ j) b (by
    have⟨_,_,b,_,e,_⟩:=G i y
    simp only[Abs.restr,b9 (W i y),e];exact nofun) (by
    have⟨_,_,b,_,e,_⟩:=G j H
    simp only[Abs.restr,b9 (W j H),e];exact nofun) h1 h2
   exact M i j (hf.sub i y) (hf.sub j H) this
 have hargs:∀j c,V[j]?=some c->Rd ρ0 (jp F ρ S) w c (us.getD j undef):=by
  intro j c n;have hrd:=fL (ρ':=fun i=>ρ (τ i)) hHS (fun i b e=>e) V vs (fun j=>us.getD j undef) A.args hr j c n;exact zq u hrd (eq hf.ids n)
 refine(hf.call.tri ρ0 (jp F ρ S) us w hpre0 (by rw[hz,eH A.args]) hargs).upon ?_;rintro x w' ⟨ρ1,F',s⟩
 let back:Nat->Option Nat:=fun j=>(keys u0).find? (fun i=>k' (τ i) j)
 have hback:∀i,i∈keys u0->back (τ i)=some i:=by
  intro i hi;cases e:back (τ i) with
  |none =>
   have:=List.find?_eq_none.1 e i hi;simp at this
  |some L =>
   have h1:=List.find?_some e;have h2:=x' e;have:=M L i h2 hi (ef h1);rw[this]
 have z:∀j i,back j=some i->i∈keys u0/\τ i=j:=fun j i e=>⟨x' e,ef (List.find?_some (p:=fun i=>k' (τ i) j) e)⟩
 let ρ':aD:=fun j=>match back j with|some i=>ρ1 i|none=>ρ j
 have C:∀i,i∈keys u0->ρ' (τ i)=ρ1 i:=fun i hi=>by simp only[ρ',hback i hi]
 have hO:∀b,OSet ρ0 (keys u0) b->OSet ρ (keys (renU τ u0++fg S)) b:=by
  rintro b ⟨i,hi,e⟩;have g:i∈liveK hp0:=by
   by_cases g:i∈liveK hp0
   .exact g
   .simp[ρ0,g] at e
  exact⟨τ i,(d _).2 (.inl ⟨i,hi,rfl⟩),by rw[<-u i g];exact e⟩
 have T:∀i,i∈keys u0->ρ (τ i)=none->ρ0 i=none:=by
  intro i hi hn;by_cases g:i∈liveK hp0
  .rw[u i g];exact hn
  .simp[ρ0,g]
 have hSno:∀i,i∈keys u0->τ i∉S:=by
  intro i hi hS;by_cases g:i∈liveK hp0
  .exact(G i g).1 hS
  .rcases A.new i hi with h1|h1
   .exact g h1
   .have:=fM A.lt hS;omega
 refine hK x ρ' F' w' ⟨fun j b e=>?_,fun j h1 h2=>?_,fun j b h1 h2=>?_,Kg C s.rd A.idv,⟨fun j k hjk=>?_,fun j j' b n H h1 h2=>?_⟩,s.fok,?_⟩
 .cases D:back j with
  |none=>simp only[ρ',D];exact e
  |some i =>
   obtain⟨hi,rfl⟩:=z j i D;rw[C i hi];have g:i∈liveK hp0:=by
    by_cases g:i∈liveK hp0
    .exact g
    .rw[hfr0 i hi g] at e;cases e
   exact s.rho i b (by rw[u i g];exact e)
 .cases D:back j with
  |none=>simp only[ρ',D] at h2;exact s5 h1 h2
  |some i =>
   obtain⟨hi,rfl⟩:=z j i D;exact(d _).2 (.inl ⟨i,hi,rfl⟩)
 .cases D:back j with
  |none=>simp only[ρ',D] at h2;rw[h1] at h2;cases h2
  |some i =>
   obtain⟨hi,rfl⟩:=z j i D;rw[C i hi] at h2;rcases s.blk i b (T i hi h1) h2 with h3|h3
   .exact .inl h3
   .exact .inr (hO b h3)
 .have⟨hm,hjk⟩:=aY hjk;have U:∃i,i∈keys u0/\τ i=j:=by
   rcases o1.1 hm with h1|h1
   .rcases o1.1 h1 with h2|h2
    .have⟨i,hi,he⟩:=o4.1 h2;exact⟨i,hf.sub i hi,he⟩
    .exfalso;have I:j∈keys (renU τ u0++fg S):=(d j).2 (.inr h2);simp only[updH,b9 I,dA] at hjk;exact agu
   .rcases(d j).1 h1 with h2|h2
    .exact h2
    .exfalso;simp only[updH,b9 h1,dA] at hjk;exact agu
  obtain⟨i,hi,rfl⟩:=U;have hk1:τ i∈keys (renU τ u0++fg S):=(d _).2 (.inl ⟨i,hi,rfl⟩);have hk2:τ i∈keys (renU τ u0):=by rw[kC];exact o4.2 ⟨i,hi,rfl⟩
  simp only[updH,b9 hk1,dA,b9 hk2] at hjk;rw[Bs A.nd hi] at hjk;obtain⟨B,m,rfl⟩:=nL.1 hjk;have hin0:restr (liveK hp0++keys u0) (updH u0 (hget hp0)) i=some B:=by simp[restr,hi,updH,m]
  rcases s.hp.ok i B hin0 with⟨h3,h0⟩|⟨bb,X,ho⟩
  .exact .inl ⟨by simp[h3,eu],by rw[C i hi];exact h0⟩
  .refine .inr ⟨bb,by rw[C i hi];exact X,ho.view ho.own rfl (kB _) (fun _ h=>h) (fun f hf' q c hq=>?_)⟩;obtain⟨a',ha',rfl⟩:=kz hq;exact Kg C (hf' q a' ha') (eq (uG A.idu (g8 m)) ha')
 .have E:∀(j b:Nat),restr (((liveK hp0).map τ++S)++keys (renU τ u0++fg S)) (updH (renU τ u0++fg S) (hget st.hp)) j≠none->∃i,i∈keys u0/\τ i=j/\restr (liveK hp0++keys u0) (updH u0 (hget hp0)) i≠none:=by
   intro j b n;have⟨k,hjk⟩:=em.1 n;have⟨hm,hjk⟩:=aY hjk;have U:(∃i,i∈keys u0/\τ i=j)\/j∈S:=by
    rcases o1.1 hm with h1|h1
    .rcases o1.1 h1 with h2|h2
     .have⟨i,hi,he⟩:=o4.1 h2;exact .inl ⟨i,hf.sub i hi,he⟩
     .exact .inr h2
    .exact(d j).1 h1
   by_cases I:j∈S
   .exfalso;have h1:j∈keys (renU τ u0++fg S):=(d j).2 (.inr I);simp only[updH,b9 h1,dA] at hjk;have hn:j∉keys (renU τ u0):=by
     rw[kC];intro hm;have⟨i,hi,he⟩:=o4.1 hm;exact hSno i hi (he ▸ I)
    simp only[b0 hn] at hjk;have hdel:=uH S [] j;simp only[List.append_nil] at hdel;rw[hdel,b9 I] at hjk;cases hjk
   .rcases U with⟨i,hi,rfl⟩|h
    .refine⟨i,hi,rfl,?_⟩;have hk1:τ i∈keys (renU τ u0++fg S):=(d _).2 (.inl ⟨i,hi,rfl⟩);have hk2:τ i∈keys (renU τ u0):=by rw[kC];exact o4.2 ⟨i,hi,rfl⟩
     simp only[updH,b9 hk1,dA,b9 hk2] at hjk;rw[Bs A.nd hi] at hjk;have⟨B,m,_⟩:=nL.1 hjk;simp[restr,hi,updH,m]
    .exact s5 h I
  obtain⟨i,hi,rfl,y⟩:=E j b n;obtain⟨L,hii,rfl,hi''⟩:=E j' b H;rw[C i hi] at h1;rw[C L hii] at h2;rw[s.hp.inj i L b y hi'' h1 h2]
 .refine⟨s.chg.os,s.chg.tape,s.chg.output,s.chg.size,fun b e hn=>s.chg.same b e (fun h=>hn (hO b h)),s.chg.cells,fun b e=>s.chg.sub b (.inl e),fun b e=>?_⟩;rcases s.chg.new b e with(h1|h1)|h1|h1
  .exact .inl h1
  .exact .inr (.inr (hOS b h1).2)
  .exact .inr (.inl h1)
  .exact .inr (.inr (hO b h1))
theorem D2(a:List (Nat×Option Blk)):hget a=restr (liveK a) (hget a):=by
 funext i;unfold restr;split
 .rfl
 .rename_i c;cases h:hget a i with
  |none=>rfl
  |some b=>exact s5 (qY (g8 h)) c
theorem RA{f:FuncId}{g:Func}{b:Code}{vs:List AV}{v:AV}{u:List (Nat×Option Blk)}{hp0:List (Nat×Option Blk)}{n:Nat}(nx0:Nat)
 (p:P.funcs[f]?=some g) (q:g.body=some b) (e:(g.name=="runtime.NumGoroutine")=false) (r:g.ntmps=n) (h:vs.length<=n)
 (l:dm nx0 (liveK hp0)=true) (a:ak (liveK hp0) vs) (d:bV (liveK hp0) hp0) (o:∀i,i∈liveK hp0->i∈keys u)
 (m:∀c:Ctx,c.P=P->(∀i,c.ρ0 i≠none->i∈liveK hp0)->(∀k st S σ,Bp P g.results.toList st v (liveK hp0) u S σ->SAW c (.code .ret::k) st/\SAW c [] st)->SAW c [.code b] ⟨n,qZ 0 vs,hp0,nx0⟩):Con P f vs hp0 v u :=
 ⟨Bq p q e r h (D2 hp0) (fun i s=>fM l s) a d o (fun c J t j=>m c J t (fun k st S σ w=>j k st S σ (J ▸ w))),a,d,o⟩
theorem ns{α:Type}{c:Ctx}{a:Code}{k:List It}{st:AS}(Inv:α->AS)(μ:α->Nat)(e:α)(S:List Nat)(σ:Nat->Nat)(hs:Sub S σ st (Inv e))(f:∀i,c.ρ0 i≠none->σ i=i)
 (b:∀x,SAW c (.code a :: .inv (fun d=>∃y,μ y<μ x/\∃S σ,Sub S σ d (Inv y)/\∀i,c.ρ0 i≠none->σ i=i)::k) (Inv x)):SAW c (.code (.loop a)::k) st :=
 J0 Inv μ e (fun g=>⟨_,_,hs.conc f g⟩) b
theorem FPure.con{f:FuncId}{vs:List AV}{v:AV}(h:FPure P f vs v)(a:ak [] vs):Con P f vs [] v []:=⟨h _,a,trivial,fun i a=>by cases a⟩

/- Calls by contract; the machine that walks a body; that it is sound. Own work; no statement of the seat is proved here. The machine that walks a body, and that it is sound. Own work; no statement of the seat is proved here. Rules of the walk: a state seen as another (frozen, renamed, less known), calls, loops, returns; a contract out of a walk. Own work; no statement of the seat is proved here. A contract out of a walk; a contract at a call. Own work; no statement of the seat is proved here. Contracts of pure functions: in and out. Own work; no statement of the seat is proved here. -/
import Derived.Test.YtebndjnkmcahaaaGreatDoorAbsK
import Derived.LoopN
namespace Go.Abs
set_option linter.unusedSimpArgs false
set_option linter.unusedVariables false
open Go Go.RowKit
variable {P : Program}
def oK (P:Program) (o:Oper) (st:AS) (f:FuncId) (vs:List AV):Prop :=
 ∀(ρ:am) (F:aA) (a:Act) (w:World),(∀x,x∈o.op.operands.toList→Rd ρ F w (ev st x) (a.eval x)) →
  ∃us:Array Value,us.size=vs.length∧(∀j c,vs[j]?=some c→Rd ρ F w c (us.getD j undef))∧(execOp a.eval o).run P w=(callFunc f us).run P w
theorem mm {ρ:am} {F:aA} {w:World} {us vs:Array Value} {xs ys:List AV} (h1:us.size=xs.length) (h2:vs.size=ys.length)
 (hx:∀j c,xs[j]?=some c→Rd ρ F w c (us.getD j undef)) (hy:∀j c,ys[j]?=some c→Rd ρ F w c (vs.getD j undef)) :
 (us++vs).size=(xs++ys).length∧∀j c,(xs++ys)[j]?=some c→Rd ρ F w c ((us++vs).getD j undef):=by
 refine⟨by simp [h1,h2],fun j c hj=>?_⟩
 rw [List.getElem?_append] at hj
 split at hj
 ·rename_i hlt
  have:(us++vs).getD j undef=us.getD j undef:=by simp [cn,Array.getElem?_append,h1,hlt]
  rw [this];exact hx j c hj
 ·rename_i hlt
  have:(us++vs).getD j undef=vs.getD (j-xs.length) undef:=by simp [cn,Array.getElem?_append,h1,hlt]
  rw [this];exact hy _ c hj
theorem zh {t:TypeId} {name:String} {f:FuncId} (h:ul P t name=some f) (v:Value) (w:World):∀fuel,(method (fuel+1) t v name).run P w = .ok (f,v) w:=by
 intro fuel
 unfold ul at h
 split at h
 ·rename_i i d hi hd
  split at h
  ·rename_i m hm
   have hme:(typeInfo t).run P w = .ok i w:=by simp [typeInfo,hi]
   split at h
   ·rename_i f' hp hf hk
    injection h with h;subst h
    have hpe:m.path=#[]:=by simpa using cK hp
    have hu:∃e,d = .pointer e:=by cases d<;>first|exact⟨_,rfl⟩|cases hk
    obtain⟨e,rfl⟩:=hu
    simp [method,hme,hm,hpe,hf,follow,receiverAt,run_underlying hd,Place.get]
   ·cases h
   ·rename_i f' hp hf hne
    injection h with h;subst h
    have hpe:m.path=#[]:=by simpa using cK hp
    simp only [method,Sem.run_bind,hme,Result.andThen_ok,hm,hpe,List.toList_toArray,follow,Sem.run_pure,hf,receiverAt,run_underlying hd]
    cases d<;>first|(exact absurd rfl hne)|(simp [Place.get])
   ·cases h
  ·cases h
 ·cases h
theorem uq {o:Oper} {st:AS} {f:FuncId} {vs:List AV} (h:aop P o.op st = .call f vs):oK P o st f vs:=by
 cases ho:o.op with
 | call c =>
  obtain⟨callee,args,tys⟩:=c
  rw [ho] at h
  simp only [aop] at h
  cases callee with
  | builtin b =>
   exfalso
   simp only [oH] at h
   unfold un at h
   repeat' split at h
   all_goals first|(cases h;done)|skip
   all_goals first
    | (unfold DV at h;repeat' split at h)
    | (unfold xD at h;repeat' split at h)
    | (unfold xE at h;repeat' split at h)
    | (unfold eL at h;repeat' split at h)
    | (unfold qV at h;repeat' split at h)
    | (unfold ow at h;repeat' split at h)
    | (unfold D5 at h;repeat' split at h)
    | (unfold xP at h;repeat' split at h)
    | (unfold xM at h;repeat' split at h)
    | (unfold xN at h;repeat' split at h)
   all_goals cases h
  | value g =>
   simp only [oH] at h
   intro ρ F a w hin
   have hg:=hin g (by simp [ho,Op.operands,Call.operands])
   obtain⟨l1,r1⟩:=r7 (xs:=args) (st:=st) (a:=a) (ρ:=ρ) (F:=F) (w:=w) (fun x hx=>hin x (by simp [ho,Op.operands,Call.operands,hx]))
   unfold oG at h
   split at h
   ·rename_i fi as bs hx
    split at h
    ·rename_i ha hb
     injection h with h1 h2;subst h1 h2
     rw [hx] at hg
     have ha':as=#[]:=Array.eq_empty_of_size_eq_zero (Nat.eq_of_beq_eq_true ha)
     have hb':bs=#[]:=Array.eq_empty_of_size_eq_zero (Nat.eq_of_beq_eq_true hb)
     subst ha' hb'
     refine⟨_,l1,r1,?_⟩
     simp only [execOp,ho,resolve,hg.pv,Deferred.ofValue,Sem.run_bind,Sem.run_pure,Result.andThen_ok,invoke]
     simp
    ·cases h
   ·rename_i fi as bs hx
    injection h with h1 h2;subst h1 h2
    rw [hx] at hg
    generalize hv:a.eval g=v at hg
    cases hg with
    | fn _ _ _ us vs hl hr hl' hr' =>
     obtain⟨l2,r2⟩:=mm hl l1 hr r1
     obtain⟨l3,r3⟩:=mm l2 hl' r2 hr'
     refine⟨_,l3,r3,?_⟩
     simp only [execOp,ho,resolve,hv,Deferred.ofValue,Sem.run_bind,Sem.run_pure,Result.andThen_ok,invoke]
   ·cases h
  | invoke r m =>
   simp only [oH] at h
   intro ρ F a w hin
   have hg:=hin r (by simp [ho,Op.operands,Call.operands])
   obtain⟨l1,r1⟩:=r7 (xs:=args) (st:=st) (a:=a) (ρ:=ρ) (F:=F) (w:=w) (fun x hx=>hin x (by simp [ho,Op.operands,Call.operands,hx]))
   have fin:∀(t:TypeId) (x:AV) (u:Value),a.eval r = .iface t u→Rd ρ F w x u→(∃f',ul P t m=some f'∧f'=f)→vs=x::evs st args.toList →
    ∃us:Array Value,us.size=vs.length∧(∀j c,vs[j]?=some c→Rd ρ F w c (us.getD j undef))∧(execOp a.eval o).run P w=(callFunc f us).run P w:=by
    intro t x u hv hr ⟨f',hm,hff⟩ hvs
    subst hff hvs
    obtain⟨l2,r2⟩:=mm (us:=#[u]) (xs:=[x]) rfl l1 (fun j c hj=>by
     cases j with
     | zero=>simp at hj;subst hj;simpa using hr
     | succ j=>simp at hj) r1
    refine⟨#[u]++args.map a.eval,l2,r2,?_⟩
    have hmr:=zh (P:=P) hm u w (P.types.size+Made.depth-1)
    have hpos:P.types.size+Made.depth-1+1=P.types.size+Made.depth:=by
     have:0<Made.depth:=by decide
     omega
    rw [hpos] at hmr
    simp only [execOp,ho,resolve,hv,Sem.run_bind,Sem.run_pure,Result.andThen_ok,invoke]
    have e0:(#[Value.iface t u]++args.map a.eval)[0]?=some (.iface t u):=by rw [Array.getElem?_append_left (by simp)];rfl
    have e1:(#[Value.iface t u]++args.map a.eval).extract 1 (#[Value.iface t u]++args.map a.eval).size=args.map a.eval:=by
     apply Array.ext'
     simp
     exact List.take_of_length_le (by simp)
    simp only [e0,e1,callMethod,Sem.run_bind,run_program,Result.andThen_ok,hmr]
   unfold nT at h
   split at h
   ·rename_i t x hx
    unfold um at h
    split at h
    ·rename_i f' hm
     injection h with h1 h2
     rw [hx] at hg
     generalize hv:a.eval r=v at hg
     cases hg with
     | iface _ _ u hu=>exact fin t x u hv hu ⟨f',hm,h1⟩ h2.symm
    ·cases h
   ·rename_i t x hx
    unfold um at h
    split at h
    ·rename_i f' hm
     injection h with h1 h2
     rw [hx] at hg
     generalize hv:a.eval r=v at hg
     cases hg with
     | p _ _ hu =>
      cases hu with
      | iface _ _ u hu=>exact fin t (unI x) u hv (Gj hu) ⟨f',hm,h1⟩ h2.symm
    ·cases h
   ·cases h
 | pick c a b=>exfalso;rw [ho] at h;simp only [aop] at h;unfold xA at h;split at h<;>simp [R.pure] at h
 | alloc t=>exfalso;rw [ho] at h;simp only [aop] at h;unfold rY at h;(repeat' split at h)<;>cases h
 | box t x=>exfalso;rw [ho] at h;simp only [aop] at h;unfold DT at h;(repeat' split at h)<;>cases h
 | build t parts=>exfalso;rw [ho] at h;simp only [aop] at h;unfold kM at h;(repeat' split at h)<;>simp [R.pure] at h
 | buildSlice t l parts=>exfalso;rw [ho] at h;simp only [aop] at h;unfold eY at h;(repeat' split at h)<;>cases h
 | load t x=>exfalso;rw [ho] at h;simp only [aop] at h;unfold qO at h;split at h<;>first|(unfold xB at h;(repeat' split at h)<;>cases h)|((repeat' split at h)<;>simp [R.pureS] at h)|cases h
 | store t x y=>exfalso;rw [ho] at h;simp only [aop] at h;unfold oi at h;split at h<;>first|(unfold rZ at h;(repeat' split at h)<;>cases h)|cases h
 | nilCheck x=>exfalso;rw [ho] at h;simp only [aop] at h;unfold D6 at h;split at h<;>simp [R.pure] at h
 | binOp op t x y t' =>
  exfalso;rw [ho] at h;simp only [aop] at h;unfold AO at h
  split at h
  ·unfold iA at h;split at h<;>simp [R.pure,R.pureS] at h
  ·unfold DU at h;split at h<;>simp [R.pure,R.pureS] at h
  ·unfold xC at h;(repeat' split at h)<;>simp [R.pure] at h
  ·split at h<;>first|cases h;done|(unfold dL at h;split at h<;>simp [R.pureS] at h)
  ·split at h<;>first|cases h;done|(unfold dL at h;split at h<;>simp [R.pureS] at h)
  ·split at h<;>first|cases h;done|(unfold dL at h;split at h<;>simp [R.pureS] at h)
  ·split at h<;>first|cases h;done|(unfold dL at h;split at h<;>simp [R.pureS] at h)
  ·split at h<;>first|cases h;done|(unfold wc at h;(repeat' split at h)<;>simp [R.pure] at h)
  ·split at h<;>first|cases h;done|(unfold dL at h;split at h<;>simp [R.pureS] at h)
  ·split at h<;>first|cases h;done|(unfold dL at h;split at h<;>simp [R.pureS] at h)
  ·split at h<;>first|cases h;done|(unfold dL at h;split at h<;>simp [R.pureS] at h)
  ·cases h
 | unOp op t x=>exfalso;rw [ho] at h;simp only [aop] at h;unfold unR at h;split at h<;>simp [R.pure] at h
 | convert s d x=>exfalso;rw [ho] at h;simp only [aop] at h;unfold uk at h;(repeat' split at h)<;>simp [R.pure,R.pureS] at h
 | makeInterface t x=>exfalso;rw [ho] at h;simp only [aop] at h;unfold sq at h;split at h<;>simp [R.pure] at h
 | makeSlice t x y=>exfalso;rw [ho] at h;simp only [aop] at h;unfold ou at h;(repeat' split at h)<;>cases h
 | slice t x lo hi mx=>exfalso;rw [ho] at h;simp only [aop] at h;unfold oF at h;(repeat' split at h)<;>simp [R.pureS] at h
 | fieldAddr t x f=>exfalso;rw [ho] at h;simp only [aop] at h;unfold oj at h;(repeat' split at h)<;>simp [R.pure] at h
 | field t x f=>exfalso;rw [ho] at h;simp only [aop] at h;unfold ol at h;(repeat' split at h)<;>simp [R.pureS] at h
 | indexAddr t x y=>exfalso;rw [ho] at h;simp only [aop] at h;unfold oo at h;(repeat' split at h)<;>simp [R.pureS] at h
 | index t x y=>exfalso;rw [ho] at h;simp only [aop] at h;unfold tR at h;(repeat' split at h)<;>simp [R.pureS] at h
 | extract x i=>exfalso;rw [ho] at h;simp only [aop] at h;unfold lr at h;(repeat' split at h)<;>simp [R.pure] at h
 | makeMap t r=>exfalso;rw [ho] at h;cases r<;>simp [aop] at h
 | mapUpdate t m x y=>exfalso;rw [ho] at h;simp only [aop] at h;unfold xO at h;(repeat' split at h)<;>cases h
 | lookup t m x c=>exfalso;rw [ho] at h;cases c<;>simp only [aop] at h<;>first|(cases h;done)|(unfold sn at h;(repeat' split at h)<;>cases h)
 | _=>exfalso;rw [ho] at h;simp [aop,R.pure] at h
def CallW (P:Program) (f:FuncId) (us:Array Value) (w:World) (R:Value→World→Prop):Prop :=
 ((callFunc f us).run P w = .ok (.enter f us) w∧Calls P f us w fun e w'=>∃x,e = .returned x∧R x w')∨∃x w',(callFunc f us).run P w = .ok (.value x) w'∧R x w'
theorem CallW.upon {f:FuncId} {us:Array Value} {w:World} {R:Value→World→Prop} (h:CallW P f us w R) {o:Oper} {a:Act} {K:Act→World→Prop} {Q:Exit→Act→World→Prop} (hK:∀x w',R x w'→K (a.put o.dst x) w') :
 o.upon P a K Q ((callFunc f us).run P w):=by
 rcases h with ⟨he,h⟩|⟨x,w',he,h⟩
 ·rw [he,Oper.upon_enter]
  refine h.mono ?_
  rintro e w' ⟨x,rfl,hr⟩
  exact hK x w' hr
 ·rw [he,Oper.upon_value]
  exact hK x w' h
structure FCall (P:Program) (f:FuncId) (vs:List AV) (h:ba) (v:AV) (T:List Nat) (u:List (Nat×Option Blk)):Prop where
 tri:∀(ρ:am) (F:aA) (us:Array Value) (w:World),Pre ρ F w T u h→us.size=vs.length→(∀j c,vs[j]?=some c→Rd ρ F w c (us.getD j undef)) →
  CallW P f us w (fun x w'=>∃ ρ' F',Post ρ F w T u h v x ρ' F' w')
theorem FCall.calls {f:FuncId} {vs:List AV} {h:ba} {v:AV} {T:List Nat} {u:List (Nat×Option Blk)} (hf:FCall P f vs h v T u) (he:∀us w,(callFunc f us).run P w = .ok (.enter f us) w) {ρ:am} {F:aA} {us:Array Value} {w:World}
 (hp:Pre ρ F w T u h) (hz:us.size=vs.length) (hr:∀j c,vs[j]?=some c→Rd ρ F w c (us.getD j undef)):Calls P f us w (fun e w'=>∃x ρ' F',e = .returned x∧Post ρ F w T u h v x ρ' F' w'):=by
 rcases hf.tri ρ F us w hp hz hr with ⟨_,h⟩|⟨x,w',h,_⟩
 ·refine h.mono ?_
  rintro e w' ⟨x,rfl,ρ',F',hr⟩
  exact⟨x,ρ',F',rfl,hr⟩
 ·rw [he] at h;cases h
theorem xQ {o:Oper} {st:AS} {f:FuncId} {vs:List AV} {v:AV} {T:List Nat} {u:List (Nat×Option Blk)} {nx:Nat} (hc:oK P o st f vs) (hf:FCall P f vs (hget st.hp) v T u) (le:st.nx≤nx)
 (keysOk:∀i,i∈keys u→i∈T∨(st.nx≤i∧i<nx)) (live:∀i,i∈T→hget st.hp i≠none):OpOk P o st v T u nx where
 tri ρ F a w hpre hin K Q hK:=by
  obtain⟨us,hz,hr,he⟩:=hc ρ F a w hin
  unfold Oper.wp
  rw [he]
  refine (hf.tri ρ F us w hpre hz hr).upon ?_
  rintro x w' ⟨ρ',F',hp⟩
  exact hK x ρ' F' w' hp
 le:=le
 keysOk:=keysOk
 live:=live
end Go.Abs
namespace Go.Abs
set_option linter.unusedSimpArgs false
set_option linter.unusedVariables false
open Go Go.RowKit
inductive It where
 | code (c:Code)
 | ops (all:Array Oper) (l:List Oper)
 | blk (id:Nat)
 | inv (J:AS→Prop)
def Wk (c:Ctx):List It→Exit→Act→World→Prop
 | [],e,a,w=>bodyPost c.P c.fn c.R e a w
 | .code x::k,.normal,a,w=>x.wp c.P (Wk c k) a w
 | .ops all l::k,.normal,a,w=>wpList c.P all (Wk c k) l a w
 | .blk _::k,.normal,a,w=>Wk c k .normal a w
 | .blk id::k,.exit i,a,w=>if i=id then Wk c k .normal a w else Wk c k (.exit i) a w
 | .inv J::_,.normal,a,w=>∃ ρ F st,J st∧Conc c ρ F st a w
 | _::k,e,a,w=>Wk c k e a w
def SAW (c:Ctx) (k:List It) (st:AS):Prop:=∀ ρ F a w,Conc c ρ F st a w→Wk c k .normal a w
def SOp (c:Ctx) (o:Oper) (all:Array Oper) (os:List Oper) (k:List It) (st:AS):Prop :=
 ∀ ρ F a w,Conc c ρ F st a w→o.wp c.P a w (wpList c.P all (Wk c k) os) (Wk c k)
def jm (c:Ctx) (f:FuncId) (vs:List AV) (o:Oper) (all:Array Oper) (os:List Oper) (k:List It) (st:AS):Prop :=
 oK c.P o st f vs→SOp c o all os k st
def iF:List Nat→Nat→Bool
 | [],_=>false
 | k::r,n=>match Nat.beq k n with|true=>true|false=>iF r n
def hpr (seen:List Nat):List (Nat×Option Blk)→List (Nat×Option Blk)
 | []=>[]
 | (k,b)::r=>match iF seen k,b with
  | true,_=>hpr seen r
  | false,some b=>(k,some b)::hpr (k::seen) r
  | false,none=>hpr (k::seen) r
def q4 (sl:List (Nat×AV)):List Nat→List (Nat×AV)
 | []=>[]
 | k::r=>(k,lk sl k)::q4 sl r
def prune (ks:List Nat) (st:AS):AS:=⟨st.n,q4 st.sl ks,hpr [] st.hp,st.nx⟩
def jn (id:Nat):List It→Option (List It)
 | []=>none
 | .blk i::k=>match Nat.beq i id with|true=>some k|false=>jn id k
 | .code _::k=>jn id k
 | .ops _ _::k=>jn id k
 | .inv _::k=>jn id k
def Ba (rec:List It→AS→Prop) (st:AS):Option (List It)→Prop
 | some k=>rec k st
 | none=>False
def Bb (rec:List It→AS→Prop) (x y:Code) (k:List It) (st:AS):AV→Prop
 | .p (.v (.bool b))=>if b=true then rec (.code x::k) st else rec (.code y::k) st
 | _=>False
def su (c:Ctx) (rec:List It→AS→Prop) (o:Oper) (all:Array Oper) (os:List Oper) (k:List It) (st:AS):R→Prop
 | .ok v _ u nx=>rec (.ops all os::k) (eff st o.dst v u nx)
 | .okS s v _ u nx=>s∧rec (.ops all os::k) (eff st o.dst v u nx)
 | .call f vs=>jm c f vs o all os k st
 | .bad=>False
def qH:List Oper→Nat→Option Nat
 | [],_=>none
 | o::_,0=>o.dst
 | _::r,j+1=>qH r j
theorem oL (l:List Oper) (j:Nat):qH l j=(l[j]?).bind (·.dst):=by
 induction l generalizing j with
 | nil=>simp [qH]
 | cons o r ih=>cases j<;>simp [qH,ih]
def setB (st:AS) (d:Nat) (b:Bool):AS:=⟨st.n,(d,.b b)::st.sl,st.hp,st.nx⟩
def sw (c:Ctx) (rec:List It→AS→Prop) (o:Oper) (all:Array Oper) (os:List Oper) (k:List It) (st:AS) (d:Nat) (want:Bool):AV→Prop
 | .p (.v (.bool b))=>if b=want then su c rec o all os k (setB st d want) (aop c.P o.op (setB st d want)) else rec (.ops all os::k) (put (setB st d (!want)) o.dst (.tup []))
 | .tup []=>rec (.ops all os::k) (put st o.dst (.tup []))
 | _=>False
def wA (c:Ctx) (rec:List It→AS→Prop) (o:Oper) (all:Array Oper) (os:List Oper) (k:List It) (st:AS) (want:Bool):Option Nat→Prop
 | some d=>sw c rec o all os k st d want (lk st.sl d)
 | none=>False
def gA (c:Ctx) (rec:List It→AS→Prop) (o:Oper) (all:Array Oper) (os:List Oper) (k:List It) (st:AS):Option (Nat×Bool)→Prop
 | none=>su c rec o all os k st (aop c.P o.op st)
 | some (j,want)=>wA c rec o all os k st want (qH all.toList j)
theorem fx (l:List Nat) (n:Nat):iF l n=true↔n∈l:=by
 induction l with
 | nil=>simp [iF]
 | cons k r ih =>
  unfold iF
  by_cases h:k=n
  ·subst h;simp
  ·rw [dm h];simp [ih];omega
theorem D8 (hp:List (Nat×Option Blk)):∀(seen:List Nat) (i:Nat),hget (hpr seen hp) i=if i∈seen then none else hget hp i:=by
 induction hp with
 | nil=>intro seen i;simp [hpr,hget]
 | cons x r ih =>
  obtain⟨k,b⟩:=x
  intro seen i
  have hcons:∀(b:Option Blk),hget ((k,b)::r) i=if k=i then b else hget r i:=fun b=>by
   show (match Nat.beq k i with|true=>b|false=>hget r i)=_
   by_cases h:k=i
   ·subst h;simp
   ·rw [dm h,if_neg h]
  unfold hpr
  cases hm:iF seen k with
  | true =>
   have hk:=(fx seen k).1 hm
   simp only [ih,hcons]
   by_cases hi:i∈seen
   ·simp [hi]
   ·have:¬k=i:=fun e=>hi (e ▸ hk)
    simp [hi,this]
  | false =>
   have hk:k∉seen:=fun h=>by rw [(fx seen k).2 h] at hm;cases hm
   cases b with
   | some b =>
    show (match Nat.beq k i with|true=>some b|false=>hget (hpr (k::seen) r) i)=_
    rw [hcons]
    by_cases h:k=i
    ·subst h;simp [hk]
    ·rw [dm h,ih]
     have h':¬i=k:=fun e=>h e.symm
     simp [h,h']
   | none =>
    simp only [ih,hcons,List.mem_cons]
    by_cases h:k=i
    ·subst h;simp
    ·have h':¬i=k:=fun e=>h e.symm
     simp [h,h']
theorem zi (sl:List (Nat×AV)) (ks:List Nat) (s:Nat):lk (q4 sl ks) s=if s∈ks then lk sl s else .any:=by
 induction ks with
 | nil=>simp [q4,lk]
 | cons k r ih =>
  simp only [q4,fJ,ih,List.mem_cons]
  by_cases h:k=s
  ·subst h;simp
  ·have h':¬s=k:=fun e=>h e.symm
   simp [h,h']
theorem Conc.prune {c:Ctx} {ρ:am} {F:aA} {st:AS} {a:Act} {w:World} (h:Conc c ρ F st a w) (ks:List Nat):Conc c ρ F (Abs.prune ks st) a w:=by
 have hh:hget (Abs.prune ks st).hp=hget st.hp:=by funext i;simp only [Abs.prune,D8];simp
 refine⟨h.defers,h.size,fun s=>?_,by rw [hh];exact h.heap,h.fresh,h.fok,h.chg,by rw [hh];exact h.dom,by rw [hh];exact h.own,h.keep,h.glob⟩
 simp only [Abs.prune,zi]
 split
 ·exact h.slots s
 ·exact .any _
theorem Conc.setB {c:Ctx} {ρ:am} {F:aA} {st:AS} {a:Act} {w:World} (h:Conc c ρ F st a w) {d:Nat} {b:Bool} (hd:lk st.sl d = .b b):Conc c ρ F (Abs.setB st d b) a w:=by
 refine⟨h.defers,h.size,fun s=>?_,h.heap,h.fresh,h.fok,h.chg,h.dom,h.own,h.keep,h.glob⟩
 simp only [Abs.setB,fJ]
 split
 ·rename_i e;subst e;rw [← hd];exact h.slots d
 ·exact h.slots s
theorem Conc.putSkip {c:Ctx} {ρ:am} {F:aA} {st:AS} {a:Act} {w:World} (h:Conc c ρ F st a w) (d:Option Nat):Conc c ρ F (put st d (.tup [])) (a.put d undef) w:=by
 have e1:(put st d (.tup [])).n=st.n:=by unfold put;cases d with|none=>rfl|some d=>dsimp only;cases Nat.blt d st.n<;>rfl
 have e2:(put st d (.tup [])).hp=st.hp:=by unfold put;cases d with|none=>rfl|some d=>dsimp only;cases Nat.blt d st.n<;>rfl
 have e3:(put st d (.tup [])).nx=st.nx:=by unfold put;cases d with|none=>rfl|some d=>dsimp only;cases Nat.blt d st.n<;>rfl
 refine⟨?_,?_,fun s=>?_,by rw [e2];exact h.heap,by rw [e3];exact h.fresh,h.fok,h.chg,by rw [e2,e3];exact h.dom,by rw [e2];exact h.own,h.keep,h.glob⟩
 ·cases d<;>simp [Act.put,h.defers]
 ·rw [e1,←h.size];cases d<;>simp [Act.put]
 ·cases d with
  | none=>exact h.slots s
  | some d =>
   have hold:=h.slots s
   simp only [put,Act.put]
   cases hdn:Nat.blt d st.n with
   | false =>
    have hge:a.tmps.size≤d:=by
     rw [h.size]
     rcases Nat.lt_or_ge d st.n with h1|h1
     ·have:Nat.blt d st.n=true:=by simpa [Nat.blt_eq] using h1
      rw [hdn] at this;cases this
     ·exact h1
    simp only [Array.setIfInBounds_eq_of_size_le hge]
    exact hold
   | true =>
    simp only [fJ]
    by_cases hd:d=s
    ·rw [if_pos hd];subst hd;rw [show (a.tmps.setIfInBounds d undef).getD d undef=undef from by simp [Array.getD_eq_getD_getElem?,Array.getElem?_setIfInBounds];split<;>rfl];exact .tup [] #[] rfl (fun j c hj=>by simp at hj)
    ·simp only [if_neg hd]
     simpa [Array.getD_eq_getD_getElem?,Array.getElem?_setIfInBounds_ne hd] using hold
theorem D9 {c:Ctx} {id:Nat} {k k':List It} {a:Act} {w:World} (hd:jn id k=some k') (h:Wk c k' .normal a w):Wk c k (.exit id) a w:=by
 induction k with
 | nil=>cases hd
 | cons x r ih =>
  cases x with
  | blk i =>
   simp only [jn] at hd
   by_cases hi:i=id
   ·subst hi
    simp at hd
    subst hd
    simp only [Wk,if_true]
    exact h
   ·rw [dm hi] at hd
    simp only [Wk]
    rw [if_neg (fun e=>hi e.symm)]
    exact ih hd
  | code x=>exact ih hd
  | ops all l=>exact ih hd
  | inv J=>exact ih hd
theorem Ea {c:Ctx} {x:Code} {k:List It}:Exit.then (x.wp c.P (Wk c k)) (Wk c k)=Wk c (.code x::k):=by
 funext e a w
 cases e<;>rfl
theorem Bc {c:Ctx} {id:Nat} {k:List It}:Exit.inBlock id (Wk c k)=Wk c (.blk id::k):=by
 funext e a w
 cases e<;>rfl
theorem zj {c:Ctx} {ρ:am} {F:aA} {st:AS} {a:Act} {w:World} (h:Conc c ρ F st a w) {all:Array Oper} {o:Oper} {j d:Nat} {want b:Bool} (hg:o.guard=some (j,want)) (hd:qH all.toList j=some d)
 (hv:lk st.sl d = .b b) (hdn:d<st.n):Region.wanted o (yielded all a.tmps)=decide (b=want):=by
 have hs:=h.slots d
 rw [hv] at hs
 have hpv:=hs.pv
 have hlt:d<a.tmps.size:=by rw [h.size];exact hdn
 have hget':a.tmps[d]?=some (.bool b):=by
  have:a.tmps.getD d undef=a.tmps[d]:=by simp [Array.getD,hlt]
  rw [Array.getElem?_eq_getElem hlt,←this,hpv]
 have hy:yielded all a.tmps j=some b:=by
  unfold yielded
  have:(all[j]?).bind (·.dst)=some d:=by
   rw [oL] at hd
   simpa using hd
  rw [this]
  simp [hget']
 unfold Region.wanted
 rw [hg]
 simp only [hy]
 cases b<;>cases want<;>rfl
theorem kN {c:Ctx} {rec:List It→AS→Prop} (hrec:∀k st,rec k st→SAW c k st) {o:Oper} {all:Array Oper} {os:List Oper} {k:List It} {st:AS} (h:su c rec o all os k st (aop c.P o.op st)):SOp c o all os k st:=by
 intro ρ F a w hc
 obtain⟨h1,h2⟩:=A9 (P:=c.P) o st
 cases hr:aop c.P o.op st with
 | ok v T u nx =>
  rw [hr] at h
  exact nQ (h1 v T u nx hr) hc _ _ (fun ρ' F' a' w' hc'=>hrec _ _ h ρ' F' a' w' hc')
 | okS s v T u nx =>
  rw [hr] at h
  exact nQ (h2 s v T u nx hr h.1) hc _ _ (fun ρ' F' a' w' hc'=>hrec _ _ h.2 ρ' F' a' w' hc')
 | call f vs =>
  rw [hr] at h
  exact h (uq hr) ρ F a w hc
 | bad=>rw [hr] at h;exact h.elim
theorem Bd {c:Ctx} {rec:List It→AS→Prop} (hrec:∀k st,rec k st→SAW c k st) {o:Oper} {all:Array Oper} {os:List Oper} {k:List It} {st:AS} (h:gA c rec o all os k st o.guard):SAW c (.ops all (o::os)::k) st:=by
 intro ρ F a w hc
 show wpList c.P all (Wk c k) (o::os) a w
 cases hg:o.guard with
 | none =>
  rw [hg] at h
  unfold wpList
  have hw:Region.wanted o (yielded all a.tmps)=true:=by simp [Region.wanted,hg]
  rw [if_pos hw]
  exact .inl (kN hrec h ρ F a w hc)
 | some jw =>
  obtain⟨j,want⟩:=jw
  rw [hg] at h
  simp only [gA] at h
  cases hd:qH all.toList j with
  | none=>rw [hd] at h;exact h.elim
  | some d =>
   rw [hd] at h
   simp only [wA] at h
   unfold sw at h
   split at h
   ·rename_i b hv
    have hdn:d<st.n:=by
     rcases Nat.lt_or_ge d st.n with h1|h1
     ·exact h1
     ·exfalso
      have hs:=hc.slots d
      rw [hv] at hs
      have:=hs.pv
      have hge:a.tmps.size≤d:=by rw [hc.size];exact h1
      simp [Array.getD_eq_getD_getElem?,Array.getElem?_eq_none hge,undef] at this
    have hw:=zj hc hg hd hv hdn
    unfold wpList
    split at h
    ·rename_i hb
     subst hb
     have hw':Region.wanted o (yielded all a.tmps)=true:=by rw [hw];simp
     rw [if_pos hw']
     exact .inl (kN hrec h ρ F a w (hc.setB hv))
    ·rename_i hb
     have hw':¬Region.wanted o (yielded all a.tmps)=true:=by rw [hw];simpa using hb
     rw [if_neg hw']
     have hbn:b = !want:=by cases b<;>cases want<;>simp_all
     rw [hbn] at hv
     exact hrec _ _ h ρ F _ w ((hc.setB hv).putSkip o.dst)
   ·rename_i hv
    have hy:yielded all a.tmps j=none:=by
     have hs:=hc.slots d
     rw [hv] at hs
     obtain⟨us,hu,hz,_⟩:=hs.tupInv
     have hus:us=#[]:=Array.eq_empty_of_size_eq_zero (by simpa using hz)
     subst hus
     unfold yielded
     have:(all[j]?).bind (·.dst)=some d:=by rw [oL] at hd;simpa using hd
     rw [this]
     simp only [Array.getD_eq_getD_getElem?] at hu
     cases hg':a.tmps[d]? with
     | none=>simp [hg']
     | some x=>rw [hg'] at hu;simp at hu;subst hu;simp [hg']
    have hw':¬Region.wanted o (yielded all a.tmps)=true:=by unfold Region.wanted;rw [hg];simp [hy]
    unfold wpList
    rw [if_neg hw']
    exact hrec _ _ h ρ F _ w (hc.putSkip o.dst)
   ·exact h.elim
end Go.Abs
namespace Go.Abs
set_option linter.unusedSimpArgs false
set_option linter.unusedVariables false
open Go Go.RowKit
mutual
def dB (h:ba) (S:List Nat):PV→AV→Prop
 | .v x,a=>a = .p (.v x)
 | .data s n cs,a=>match a with
  | .p y=>y = .data s n cs∨(y = .v (.slice none 0 0)∧n=0∧cs=[])
  | .sl id off n' s'=>id∈S∧n'=n∧s'=s∧∃b,h id=some b∧off+n*s≤b.cs.length∧cF h S cs ((b.cs.drop off).take (n*s))
  | _=>False
 | .iface t x,a=>match a with
  | .p y=>y = .iface t x
  | .iface t' a'=>t'=t∧dB h S x a'
  | _=>False
 | .agg cs,a=>match a with
  | .p y=>y = .agg cs
  | .agg as=>cF h S cs as
  | _=>False
def cF (h:ba) (S:List Nat):List PV→List AV→Prop
 | [],as=>as=[]
 | c::cs,as=>match as with
  | a::as=>dB h S c a∧cF h S cs as
  | []=>False
end
theorem dM (h:ba) (S:List Nat) (c:PV):dB h S c (.p c):=by
 cases c<;>simp [dB]
theorem gH (h:ba) (S:List Nat):∀(cs:List PV),cF h S cs (cs.map .p)
 | []=>by simp [cF]
 | c::cs=>by simp only [List.map_cons,cF];exact⟨dM h S c,gH h S cs⟩
def gd (F:aA) (ρ:am) (S:List Nat):aA:=fun b=>F b∨OSet ρ S b
mutual
theorem oM {h:ba} {S:List Nat} {ρ:am} {F:aA} {w:World} (hH:HpOk ρ F w (restr S h)):∀(y:PV) (a:AV) (u:Value),dB h S y a→Rd ρ F w a u→RdP (gd F ρ S) w y u
 | .v x,a,u,hv,hr=>by
  simp only [dB] at hv
  subst hv
  cases hr with
  | p _ _ h=>exact h.mono (fun _ h => .inl h) (fun _ _=>rfl)
 | .data s n cs,a,u,hv,hr=>by
  cases a with
  | p y =>
   simp only [dB] at hv
   rcases hv with rfl|⟨rfl,rfl,rfl⟩
   ·cases hr with
    | p _ _ h=>exact h.mono (fun _ h => .inl h) (fun _ _=>rfl)
   ·have:=hr.pv
    subst this
    exact .nil _ _ _
  | sl id off n' s' =>
   simp only [dB] at hv
   obtain⟨hS,rfl,rfl,b,hb,hl,hcs⟩:=hv
   rcases hr.slInv with ⟨rfl,A,rfl⟩|⟨bb,cap,hbb,rfl,hcap,hcc⟩
   ·simp only [Nat.zero_mul,List.take_zero] at hcs
    cases cs with
    | nil=>exact .nil _ _ _
    | cons c cs=>simp [cF] at hcs
   ·have hlen:=kO hcs
    rcases hH.ok id b (by simp [restr,hS,hb]) with ⟨h1,h0⟩|⟨b2,hb2,hblk⟩
    ·rw [h0] at hbb;cases hbb
    rw [hbb] at hb2;cases hb2
    obtain⟨arr,fr,ha,hfr,hln,hcells⟩:=hblk.is (.inr ⟨_,hcc⟩)
    have hcl:cs.length=n'*s':=by rw [hlen];simp;omega
    refine .data s' n' cs bb off cap (fun j=>arr.getD (off+j) undef) hcl hcap (.inr ⟨id,hS,hbb⟩) (fun j hj=>gF ha (by omega)) (fun j hj=>?_) ?_
    ·have hj2:off+j<b.cs.length:=by omega
     exact (hcells (off+j) _ (List.getElem?_eq_getElem hj2)).1
    ·refine jV hH cs _ (fun j=>arr.getD (off+j) undef) hcs (fun j c hj=>?_)
     rw [List.getElem?_take] at hj
     split at hj
     ·exact (hcells (off+j) c (by simpa using hj)).2
     ·cases hj
  | _=>simp [dB] at hv
 | .iface t x,a,u,hv,hr=>by
  cases a with
  | p y =>
   simp only [dB] at hv
   subst hv
   cases hr with
   | p _ _ h=>exact h.mono (fun _ h => .inl h) (fun _ _=>rfl)
  | iface t' a' =>
   simp only [dB] at hv
   obtain⟨rfl,hv⟩:=hv
   cases hr with
   | iface _ _ u' h=>exact .iface _ _ _ (oM hH x a' u' hv h)
  | _=>simp [dB] at hv
 | .agg cs,a,u,hv,hr=>by
  cases a with
  | p y =>
   simp only [dB] at hv
   subst hv
   cases hr with
   | p _ _ h=>exact h.mono (fun _ h => .inl h) (fun _ _=>rfl)
  | agg as =>
   simp only [dB] at hv
   obtain⟨us,rfl,hz,hr'⟩:=hr.aggInv
   refine .agg cs us (by rw [hz,kO hv]) ?_
   exact jV hH cs as (fun j=>us.getD j undef) hv hr'
  | _=>simp [dB] at hv
theorem jV {h:ba} {S:List Nat} {ρ:am} {F:aA} {w:World} (hH:HpOk ρ F w (restr S h)):∀(cs:List PV) (as:List AV) (f:Nat→Value),cF h S cs as→(∀j a,as[j]?=some a→Rd ρ F w a (f j)) →
 ∀j c,cs[j]?=some c→RdP (gd F ρ S) w c (f j)
 | [],as,f,_,_=>fun j c hj=>by simp at hj
 | c::cs,[],f,hv,_=>by simp [cF] at hv
 | c::cs,a::as,f,hv,hr=>fun j c' hj=>by
  simp only [cF] at hv
  cases j with
  | zero=>simp at hj;subst hj;exact oM hH c a (f 0) hv.1 (hr 0 a rfl)
  | succ j=>exact jV hH cs as (fun j=>f (j+1)) hv.2 (fun j a ha=>hr (j+1) a (by simpa using ha)) j c' (by simpa using hj)
theorem kO {h:ba} {S:List Nat}:∀{cs:List PV} {as:List AV},cF h S cs as→cs.length=as.length
 | [],as,hv=>by simp only [cF] at hv;subst hv;rfl
 | c::cs,[],hv=>by simp [cF] at hv
 | c::cs,a::as,hv=>by simp only [cF] at hv;simp [kO hv.2]
end
mutual
def aH (h:ba) (S:List Nat) (σ:Nat→Nat):AV→AV→Prop
 | .any,_=>True
 | .p y,a=>dB h S y a
 | .ptr i off,a=>a = .ptr (σ i) off
 | .sl i off n s,a=>a = .sl (σ i) off n s∨(n=0∧a = .p (.v (.slice none 0 0)))
 | .cp cs,a=>match a with
  | .cp cs'=>cs'=cs
  | .ptr id off=>id∈S∧∃b,h id=some b∧off+cs.length≤b.cs.length∧cF h S cs ((b.cs.drop off).take cs.length)
  | _=>False
 | .agg bs,a=>match a with
  | .agg as=>ai h S σ bs as
  | _=>False
 | .tup bs,a=>match a with
  | .tup as=>ai h S σ bs as
  | _=>False
 | .iface t b,a=>match a with
  | .iface t' a'=>t'=t∧aH h S σ b a'
  | _=>False
 | .fn f bs cs,a=>match a with
  | .fn f' bs' cs'=>f'=f∧ai h S σ bs bs'∧ai h S σ cs cs'
  | _=>False
 | .mp i,a=>a = .mp (σ i)
def ai (h:ba) (S:List Nat) (σ:Nat→Nat):List AV→List AV→Prop
 | [],as=>as=[]
 | b::bs,as=>match as with
  | a::as=>aH h S σ b a∧ai h S σ bs as
  | []=>False
end
mutual
theorem g5 {h:ba} {S:List Nat} {σ:Nat→Nat} {ρ ρ':am} {F:aA} {w:World} (hH:HpOk ρ F w (restr S h)) (hρ:∀i b,ρ (σ i)=some b→ρ' i=some b) :
 ∀(b a:AV) (u:Value),aH h S σ b a→Rd ρ F w a u→Rd ρ' (gd F ρ S) w b u
 | .any,a,u,_,_ => .any _
 | .p y,a,u,hv,hr => .p _ _ (oM hH y a u (by simpa only [aH] using hv) hr)
 | .ptr i off,a,u,hv,hr=>by
  simp only [aH] at hv
  subst hv
  obtain⟨b,hb,rfl⟩:=hr.ptrInv
  exact .ptr _ _ _ (hρ _ _ hb)
 | .sl i off n s,a,u,hv,hr=>by
  simp only [aH] at hv
  rcases hv with hv|⟨rfl,rfl⟩
  rotate_left
  ·have:=hr.pv
   subst this
   exact .slz _ _ _ _
  subst hv
  rcases hr.slInv with ⟨rfl,A,rfl⟩|⟨b,cap,hb,rfl,hcap,hcc⟩
  ·exact .slz _ _ _ _
  ·exact .sl _ _ _ _ _ _ (hρ _ _ hb) hcap hcc
 | .cp cs,a,u,hv,hr=>by
  cases a with
  | cp cs' =>
   simp only [aH] at hv
   subst hv
   obtain⟨b,off,f,rfl,hF,hc,h1,hr'⟩:=hr.cpInv
   exact .cp _ _ _ f (.inl hF) hc h1 (fun j c hj=>(hr' j c hj).mono (fun _ h => .inl h) (fun _ _=>rfl))
  | ptr id off =>
   simp only [aH] at hv
   obtain⟨hS,b,hb,hl,hcs⟩:=hv
   obtain⟨bb,hbb,rfl⟩:=hr.ptrInv
   rcases hH.ok id b (by simp [restr,hS,hb]) with ⟨h1,h0⟩|⟨b2,hb2,hblk⟩
   ·rw [h0] at hbb;cases hbb
   rw [hbb] at hb2;cases hb2
   rcases hblk.is0 with ⟨arr,fr,ha,hfr,hln,hcells⟩|⟨hnil,s,_,hmap⟩
   rotate_left
   ·have hcs0:cs=[]:=List.eq_nil_of_length_eq_zero (by rw [hnil,List.length_nil] at hl;omega)
    subst hcs0
    exact .cp [] bb off (fun _=>undef) (.inr ⟨id,hS,hbb⟩) (fun j hj=>by simp at hj) (fun j hj=>by simp at hj) (fun j c hj=>by simp at hj)
   refine .cp cs bb off (fun j=>arr.getD (off+j) undef) (.inr ⟨id,hS,hbb⟩) (fun j hj=>gF ha (by omega)) (fun j hj=>?_) ?_
   ·have hj2:off+j<b.cs.length:=by omega
    exact (hcells (off+j) _ (List.getElem?_eq_getElem hj2)).1
   ·refine jV hH cs _ (fun j=>arr.getD (off+j) undef) hcs (fun j c hj=>?_)
    rw [List.getElem?_take] at hj
    split at hj
    ·exact (hcells (off+j) c (by simpa using hj)).2
    ·cases hj
  | _=>simp [aH] at hv
 | .agg bs,a,u,hv,hr=>by
  cases a with
  | agg as =>
   simp only [aH] at hv
   obtain⟨us,rfl,hz,hr'⟩:=hr.aggInv
   exact .agg _ _ (by rw [hz,c6 hv]) (dV hH hρ bs as (fun j=>us.getD j undef) hv hr')
  | _=>simp [aH] at hv
 | .tup bs,a,u,hv,hr=>by
  cases a with
  | tup as =>
   simp only [aH] at hv
   obtain⟨us,rfl,hz,hr'⟩:=hr.tupInv
   exact .tup _ _ (by rw [hz,c6 hv]) (dV hH hρ bs as (fun j=>us.getD j undef) hv hr')
  | _=>simp [aH] at hv
 | .iface t b,a,u,hv,hr=>by
  cases a with
  | iface t' a' =>
   simp only [aH] at hv
   obtain⟨rfl,hv⟩:=hv
   cases hr with
   | iface _ _ u' h=>exact .iface _ _ _ (g5 hH hρ b a' u' hv h)
  | _=>simp [aH] at hv
 | .fn f bs cs,a,u,hv,hr=>by
  cases a with
  | fn f' bs' cs' =>
   simp only [aH] at hv
   obtain⟨rfl,h1,h2⟩:=hv
   cases hr with
   | fn _ _ _ us vs hl hr1 hl' hr2=>exact .fn _ _ _ us vs (by rw [hl,c6 h1]) (dV hH hρ bs bs' (fun j=>us.getD j undef) h1 hr1) (by rw [hl',c6 h2]) (dV hH hρ cs cs' (fun j=>vs.getD j undef) h2 hr2)
  | _=>simp [aH] at hv
 | .mp i,a,u,hv,hr=>by
  simp only [aH] at hv
  subst hv
  cases hr with
  | mp _ b hb hm=>exact .mp _ _ (hρ _ _ hb) hm
theorem dV {h:ba} {S:List Nat} {σ:Nat→Nat} {ρ ρ':am} {F:aA} {w:World} (hH:HpOk ρ F w (restr S h)) (hρ:∀i b,ρ (σ i)=some b→ρ' i=some b) :
 ∀(bs as:List AV) (f:Nat→Value),ai h S σ bs as→(∀j a,as[j]?=some a→Rd ρ F w a (f j))→∀j b,bs[j]?=some b→Rd ρ' (gd F ρ S) w b (f j)
 | [],as,f,_,_=>fun j c hj=>by simp at hj
 | c::cs,[],f,hv,_=>by simp [ai] at hv
 | c::cs,a::as,f,hv,hr=>fun j c' hj=>by
  simp only [ai] at hv
  cases j with
  | zero=>simp at hj;subst hj;exact g5 hH hρ c a (f 0) hv.1 (hr 0 a rfl)
  | succ j=>exact dV hH hρ cs as (fun j=>f (j+1)) hv.2 (fun j a ha=>hr (j+1) a (by simpa using ha)) j c' (by simpa using hj)
theorem c6 {h:ba} {S:List Nat} {σ:Nat→Nat}:∀{bs as:List AV},ai h S σ bs as→bs.length=as.length
 | [],as,hv=>by simp only [ai] at hv;subst hv;rfl
 | c::cs,[],hv=>by simp [ai] at hv
 | c::cs,a::as,hv=>by simp only [ai] at hv;simp [c6 hv.2]
end
theorem aW (h:ba) (S:List Nat) (σ:Nat→Nat):∀(cs:List PV),ai h S σ (cs.map .p) (cs.map .p)
 | []=>by simp [ai]
 | c::cs=>by simp only [List.map_cons,ai,aH];exact⟨dM h S c,aW h S σ cs⟩
def nq (h:ba) (S:List Nat) (σ:Nat→Nat) (sl:List (Nat×AV)):List (Nat×AV)→Prop
 | []=>True
 | (s,b)::r=>aH h S σ b (lk sl s)∧nq h S σ sl r
def kP (h:ba) (S:List Nat) (σ:Nat→Nat) (b':Blk):Option Blk→Prop
 | some b=>b'.t=b.t∧ai h S σ b'.cs b.cs
 | none=>False
def ge (h:ba) (S:List Nat) (σ:Nat→Nat):List (Nat×Option Blk)→Prop
 | []=>True
 | (i,b)::r=>(match b with
  | some b'=>iF S (σ i)=false∧kP h S σ b' (h (σ i))
  | none=>True)∧ge h S σ r
def liveK:List (Nat×Option Blk)→List Nat
 | []=>[]
 | (i,b)::r=>match b with
  | some _=>i::liveK r
  | none=>liveK r
def bQ:List Nat→Bool
 | []=>true
 | k::r=>match iF r k with|true=>false|false=>bQ r
def ct (n:Nat):List Nat→Bool
 | []=>true
 | k::r=>match Nat.blt k n with|true=>ct n r|false=>false
def lz (hp:List (Nat×Option Blk)):List Nat→Prop
 | []=>True
 | k::r=>(hget hp k).isSome=true∧lz hp r
structure Sub (S:List Nat) (σ:Nat→Nat) (st st':AS):Prop where
 n:st'.n=st.n
 slots:nq (hget st.hp) S σ st.sl st'.sl
 blocks:ge (hget st.hp) S σ st'.hp
 nd:bQ ((liveK st'.hp).map σ)=true
 lt:ct st'.nx (liveK st'.hp)=true
 live:lz st.hp S
 fresh:∀i,st'.nx≤i→st.nx≤σ i
theorem zk {h:ba} {S:List Nat} {σ:Nat→Nat} {sl sl':List (Nat×AV)} (hs:nq h S σ sl sl') (s:Nat):aH h S σ (lk sl' s) (lk sl s):=by
 induction sl' with
 | nil=>simp [lk,aH]
 | cons x r ih =>
  obtain⟨k,b⟩:=x
  rw [fJ]
  split
  ·rename_i e;subst e;exact hs.1
  ·exact ih hs.2
theorem eZ {hp:List (Nat×Option Blk)} {i:Nat} {b:Blk} (h:hget hp i=some b):(i,some b)∈hp:=by
 induction hp with
 | nil=>simp [hget] at h
 | cons x r ih =>
  obtain⟨k,v⟩:=x
  by_cases hk:k=i
  ·subst hk
   simp [hget] at h
   subst h;simp
  ·have:hget ((k,v)::r) i=hget r i:=by show (match Nat.beq k i with|true=>v|false=>hget r i)=_;rw [dm hk]
   rw [this] at h
   exact List.mem_cons_of_mem _ (ih h)
theorem mn {hp:List (Nat×Option Blk)} {i:Nat} {b:Blk} (h:(i,some b)∈hp):i∈liveK hp:=by
 induction hp with
 | nil=>cases h
 | cons x r ih =>
  obtain⟨k,v⟩:=x
  rcases List.mem_cons.1 h with h1|h1
  ·cases h1;simp [liveK]
  ·unfold liveK
   cases v with
   | some b=>exact List.mem_cons_of_mem _ (ih h1)
   | none=>exact ih h1
theorem g6 {h:ba} {S:List Nat} {σ:Nat→Nat} {hp:List (Nat×Option Blk)} (hs:ge h S σ hp) {i:Nat} {b:Blk} (hm:(i,some b)∈hp):σ i∉S∧kP h S σ b (h (σ i)):=by
 induction hp with
 | nil=>cases hm
 | cons x r ih =>
  obtain⟨k,v⟩:=x
  rcases List.mem_cons.1 hm with h1|h1
  ·cases h1
   have:=hs.1
   simp only at this
   exact⟨fun hS=>(by rw [(fx S _).2 hS] at this;cases this.1),this.2⟩
  ·exact ih hs.2 h1
theorem jW {σ:Nat→Nat} {l:List Nat} (h:bQ (l.map σ)=true) {i j:Nat} (hi:i∈l) (hj:j∈l) (he:σ i=σ j):i=j:=by
 induction l with
 | nil=>cases hi
 | cons k r ih =>
  simp only [List.map_cons,bQ] at h
  cases hm:iF (r.map σ) (σ k) with
  | true=>rw [hm] at h;cases h
  | false =>
   rw [hm] at h
   have hno:∀x,x∈r→σ x≠σ k:=fun x hx e=>by
    have:iF (r.map σ) (σ k)=true:=(fx _ _).2 (List.mem_map.2 ⟨x,hx,e⟩)
    rw [hm] at this;cases this
   rcases List.mem_cons.1 hi with hi|hi<;>rcases List.mem_cons.1 hj with hj|hj
   ·rw [hi,hj]
   ·rw [hi] at he;exact absurd he.symm (hno j hj)
   ·rw [hj] at he;exact absurd he (hno i hi)
   ·exact ih h hi hj
theorem dW {n:Nat} {l:List Nat} (h:ct n l=true) {i:Nat} (hi:i∈l):i<n:=by
 induction l with
 | nil=>cases hi
 | cons k r ih =>
  unfold ct at h
  cases hb:Nat.blt k n with
  | false=>rw [hb] at h;cases h
  | true =>
   rw [hb] at h
   rcases List.mem_cons.1 hi with rfl|hi
   ·simpa [Nat.blt_eq] using hb
   ·exact ih h hi
theorem fa {hp:List (Nat×Option Blk)} {S:List Nat} (h:lz hp S) {i:Nat} (hi:i∈S):hget hp i≠none:=by
 induction S with
 | nil=>cases hi
 | cons k r ih =>
  rcases List.mem_cons.1 hi with rfl|hi
  ·have:=h.1;intro e;rw [e] at this;cases this
  ·exact ih h.2 hi
theorem Sub.conc {S:List Nat} {σ:Nat→Nat} {st st':AS} (hs:Sub S σ st st') {c:Ctx} (hσ:∀i,c.ρ0 i≠none→σ i=i) {ρ:am} {F:aA} {a:Act} {w:World} (h:Conc c ρ F st a w) :
 Conc c (fun i=>ρ (σ i)) (gd F ρ S) st' a w:=by
 have hH:=h.heap.restr S
 have hblk:∀i b',hget st'.hp i=some b'→i<st'.nx∧i∈liveK st'.hp∧σ i∉S∧∃b,hget st.hp (σ i)=some b∧b'.t=b.t∧ai (hget st.hp) S σ b'.cs b.cs:=by
  intro i b' hb'
  have hm:=eZ hb'
  have hl:=mn hm
  obtain⟨h1,h2⟩:=g6 hs.blocks hm
  refine⟨dW hs.lt hl,hl,h1,?_⟩
  unfold kP at h2
  split at h2
  ·rename_i b hb;exact⟨b,hb,h2.1,h2.2⟩
  ·exact h2.elim
 have hOlt:∀b,OSet ρ S b→b<w.heap.size∧(c.w0.heap.size≤b∨c.O b):=by
  rintro b ⟨i,hi,hb⟩
  have hl:=fa hs.live hi
  refine⟨?_,h.own i b hl hb⟩
  obtain⟨k,hk⟩:=Option.ne_none_iff_exists'.1 hl
  rcases h.heap.ok i k hk with ⟨_,h0⟩|⟨b2,hb2,ho⟩
  ·rw [h0] at hb;cases hb
  ·rw [hb] at hb2;cases hb2
   exact ho.lt
 refine⟨h.defers,by rw [hs.n];exact h.size,fun s=>g5 hH (fun i b hb=>hb) _ _ _ (zk hs.slots s) (h.slots s),⟨fun i k hk=>?_,fun i j b hi hj h1 h2=>?_⟩,fun i hi=>h.fresh _ (hs.fresh i hi),?_,?_,fun i hi=>?_,fun i b hi hb=>?_,fun i b hb=>?_,h.glob.mono (fun _ h => .inl h) (fun _ _=>rfl)⟩
 ·obtain⟨hlt,hlk,hS,b,hb,ht,hv⟩:=hblk i k hk
  rcases h.heap.ok (σ i) b hb with ⟨h1,h0⟩|⟨bb,hbb,ho⟩
  ·rw [h1] at hv
   refine .inl ⟨?_,h0⟩
   cases hcs:k.cs with
   | nil=>rfl
   | cons x r=>rw [hcs] at hv;simp [ai] at hv
  ·refine .inr ⟨bb,hbb,ho.view (fun hF=>?_) ht (c6 hv) (fun _ h => .inl h) (fun f hf=>dV hH (fun i b hb=>hb) k.cs b.cs f hv hf)⟩
   rcases hF with hF|⟨j,hj,hjb⟩
   ·exact ho.own hF
   ·have:=h.heap.inj j (σ i) bb (fa hs.live hj) (by rw [hb];simp) hjb hbb
    exact hS (this ▸ hj)
 ·obtain⟨ki,hki⟩:=Option.ne_none_iff_exists'.1 hi
  obtain⟨kj,hkj⟩:=Option.ne_none_iff_exists'.1 hj
  obtain⟨_,hli,_,bi,hbi,_⟩:=hblk i ki hki
  obtain⟨_,hlj,_,bj,hbj,_⟩:=hblk j kj hkj
  exact jW hs.nd hli hlj (h.heap.inj (σ i) (σ j) b (by rw [hbi];simp) (by rw [hbj];simp) h1 h2)
 ·rintro b (hb|hb)
  ·exact h.fok b hb
  ·exact (hOlt b hb).1
 ·exact⟨h.chg.os,h.chg.tape,h.chg.output,h.chg.size,h.chg.same,h.chg.cells,fun b hb => .inl (h.chg.sub b hb),fun b hb=>by
   rcases hb with hb|hb
   ·exact h.chg.new b hb
   ·exact .inr (hOlt b hb).2⟩
 ·obtain⟨k,hk⟩:=Option.ne_none_iff_exists'.1 hi
  exact (hblk i k hk).1
 ·obtain⟨k,hk⟩:=Option.ne_none_iff_exists'.1 hi
  obtain⟨_,_,_,b',hb',_⟩:=hblk i k hk
  exact h.own (σ i) b (by rw [hb'];simp) hb
 ·have:=hσ i (by rw [hb];simp)
  show ρ (σ i)=some b
  rw [this]
  exact h.keep i b hb
def sg (base:Nat):List Nat→Nat→Nat
 | [],i=>base+i
 | k::r,i=>match i with
  | 0=>k
  | i+1=>sg (base+1) r i
theorem bH (l:List Nat):∀(base i:Nat),l.length≤i→base≤sg base l i:=by
 induction l with
 | nil=>intro base i _;simp [sg]
 | cons k r ih =>
  intro base i hi
  cases i with
  | zero=>simp at hi
  | succ i=>have:=ih (base+1) i (by simpa using hi);simp only [sg];omega
def dG:List Nat→List (Nat×Option Blk)
 | []=>[]
 | k::r=>(k,none)::dG r
def frz (S:List Nat) (reps:List (Nat×AV)) (st:AS):AS:=⟨st.n,reps++st.sl,dG S++st.hp,st.nx⟩
theorem Be {α:Type} {c:Ctx} {body:Code} {k:List It} {st:AS} (Inv:α→AS) (μ:α→Nat) (x0:α) (h0:∀{ρ F a w},Conc c ρ F st a w→∃ ρ' F',Conc c ρ' F' (Inv x0) a w)
 (hstep:∀x,SAW c (.code body :: .inv (fun st'=>∃y,μ y<μ x∧∃S σ,Sub S σ st' (Inv y)∧∀i,c.ρ0 i≠none→σ i=i)::k) (Inv x)):SAW c (.code (.loop body)::k) st:=by
 have key:∀(N:Nat) (x:α),μ x<N→∀ ρ F a w,Conc c ρ F (Inv x) a w→Code.rounds c.P body (Wk c k) N a w:=by
  intro N
  induction N with
  | zero=>intro x hx;omega
  | succ N ih =>
   intro x hx ρ F a w hc
   rw [rounds_succ]
   refine Code.wp_mono (fun e a' w' hq=>?_) (hstep x ρ F a w hc)
   cases e with
   | normal =>
    obtain⟨ρ',F',st',⟨y,hy,S,σ,hs,hσ⟩,hc'⟩:=hq
    exact ih y (by omega) _ _ a' w' (hs.conc hσ hc')
   | exit id=>exact hq
   | goto l=>exact hq
   | ret=>exact hq
   | panic ch=>exact hq
   | outgrown=>exact hq
 intro ρ F a w hc
 obtain⟨ρ',F',hc'⟩:=h0 hc
 exact wp_loop_rounds (μ x0+1) (key (μ x0+1) x0 (by omega) ρ' F' a w hc')
theorem oN (c:Ctx):∀(k:List It) (a:Act) (w:World),Wk c k .ret a w=bodyPost c.P c.fn c.R .ret a w
 | [],a,w=>rfl
 | .code x::k,a,w=>oN c k a w
 | .ops all l::k,a,w=>oN c k a w
 | .blk id::k,a,w=>oN c k a w
 | .inv J::k,a,w=>oN c k a w
end Go.Abs
namespace Go.Abs
set_option linter.unusedSimpArgs false
set_option linter.unusedVariables false
open Go Go.RowKit
variable {P : Program}
def Bf (P:Program) (st:AS):ResultVar→Option AV
 | .tmp t=>some (lk st.sl t)
 | .cell a t=>match lk st.sl a with
  | .ptr id off=>match hget st.hp id,Nat.ble 1 (ae P t).size with
   | some b,true=>match Nat.ble (off+(ae P t).size) b.cs.length with
    | true=>some (gU (ae P t).kind (ae P t).size (b.cs.drop off))
    | false=>none
   | _,_=>none
  | _=>none
def gI (P:Program) (st:AS):List ResultVar→Option (List AV)
 | []=>some []
 | r::rs=>match Bf P st r,gI P st rs with
  | some v,some vs=>some (v::vs)
  | _,_=>none
def retV:List AV→AV
 | [] => .tup []
 | [v]=>v
 | v::w::r => .tup (v::w::r)
def oO (tmps:Array Value):ResultVar→Sem Value
 | .tmp t=>pure (tmps.getD t undef)
 | .cell a t=>do loadVar t (← asAddr (tmps.getD a undef))
theorem Bg {c:Ctx} {ρ:am} {F:aA} {st:AS} {a:Act} {w:World} (h:Conc c ρ F st a w) {r:ResultVar} {v:AV} (hr:Bf P st r=some v) :
 ∃u,(oO a.tmps r).run P w = .ok u w∧Rd ρ F w v u:=by
 cases r with
 | tmp t =>
  simp only [Bf,Option.some.injEq] at hr
  subst hr
  exact⟨_,rfl,h.slots t⟩
 | cell x t =>
  simp only [Bf] at hr
  split at hr
  ·rename_i id off hx
   split at hr
   ·rename_i b hb h1
    split at hr
    ·rename_i hl
     simp only [Option.some.injEq] at hr
     subst hr
     have hs:=h.slots x
     rw [hx] at hs
     obtain⟨bb,hbb,hv⟩:=hs.ptrInv
     rcases h.heap.ok id b hb with ⟨_,h0⟩|⟨b2,hb2,hblk⟩
     ·rw [h0] at hbb;cases hbb
     rw [hbb] at hb2;cases hb2
     have h1':=Nat.le_of_ble_eq_true h1
     have hl':=Nat.le_of_ble_eq_true hl
     rw [eD] at h1' hl'
     obtain⟨arr,fr,ha,hfr,hlen,hc⟩:=hblk.is (.inl (by omega))
     have hrun:=eK (P:=P) (t:=t) (w:=w) (b:=bb) (o:=off) (fun j=>arr.getD (off+j) undef) h1' (fun j hj=>gF ha (by omega))
     refine⟨_,?_,jS h1' hl' (f:=fun j=>arr.getD j undef) (fun j c hj=>(hc j c hj).2)⟩
     simp only [oO,hv,asAddr,Sem.run_bind,Sem.run_pure,Result.andThen_ok,hrun]
    ·cases hr
   ·cases hr
  ·cases hr
theorem zl {c:Ctx} {ρ:am} {F:aA} {st:AS} {a:Act} {w:World} (h:Conc c ρ F st a w):∀(rs:List ResultVar) (vs:List AV),gI P st rs=some vs →
 ∃us:List Value,(rs.mapM (oO a.tmps)).run P w = .ok us w∧us.length=vs.length∧∀j x,vs[j]?=some x→Rd ρ F w x (us.getD j undef):=by
 intro rs
 induction rs with
 | nil=>intro vs hv;simp [gI] at hv;subst hv;exact⟨[],rfl,rfl,fun j x hx=>by simp at hx⟩
 | cons r rs ih =>
  intro vs hv
  simp only [gI] at hv
  split at hv
  ·rename_i v vs' h1 h2
   simp only [Option.some.injEq] at hv
   subst hv
   obtain⟨u,hu,hru⟩:=Bg h h1
   obtain⟨us,hus,hl,hr⟩:=ih vs' h2
   refine⟨u::us,by simp only [List.mapM_cons,Sem.run_bind,hu,Result.andThen_ok,hus,Sem.run_pure],by simp [hl],fun j x hx=>?_⟩
   cases j with
   | zero=>simp at hx;subst hx;simpa using hru
   | succ j=>simpa using hr j x (by simpa using hx)
  ·cases hv
theorem ur {c:Ctx} {ρ:am} {F:aA} {st:AS} {a:Act} {w:World} (h:Conc c ρ F st a w) {fn:Func} {vs:List AV} (hv:gI P st fn.results.toList=some vs) :
 ∃u,(results fn a.tmps).run P w = .ok u w∧Rd ρ F w (retV vs) u:=by
 obtain⟨us,hus,hl,hr⟩:=zl h _ _ hv
 have hm:(fn.results.mapM (oO a.tmps)).run P w = .ok us.toArray w:=by
  have e:fn.results=fn.results.toList.toArray:=by simp
  rw [e,List.mapM_toArray]
  simp [hus]
 refine⟨if h:us.toArray.size=1 then us.toArray[0] else .tuple us.toArray,?_,?_⟩
 ·have hfun:results fn a.tmps=(do let vs←fn.results.mapM (oO a.tmps);pure (if h:vs.size=1 then vs[0] else .tuple vs)):=by
   unfold results
   congr 1
  rw [hfun,Sem.run_bind,hm]
  rfl
 ·match vs,us,hl,hr with
  | [],[],_,_=>exact .tup _ _ rfl (fun j c hj=>by simp at hj)
  | [v],[u],_,hr=>simpa [retV] using hr 0 v rfl
  | v::v2::r,u::u2::r',hl,hr =>
   simp only [List.length_cons] at hl
   simp only [retV,List.size_toArray,List.length_cons,show ¬(r'.length+1+1=1) by omega,dite_false]
   refine .tup _ _ (by simp;omega) (fun j c hj=>?_)
   have:=hr j c hj
   simpa [cn,List.getD_eq_getElem?_getD] using this
structure ut (P:Program) (rs:List ResultVar) (st:AS) (v:AV) (T:List Nat) (u:List (Nat×Option Blk)) (S:List Nat) (σ:Nat→Nat):Prop where
 res:∃vs,gI P st rs=some vs∧aH (hget st.hp) S σ v (retV vs)
 blocks:ge (hget st.hp) S σ u
 nd:bQ (keys u)=true
 nd':bQ ((liveK u).map σ)=true
 live:lz st.hp S
 sigT:∀i,i∈T→(i∈liveK u→σ i=i)∧i∈keys u
 sigN:∀i,i∉liveK u→st.nx≤σ i
theorem Bh {u:List (Nat×Option Blk)} (hn:bQ (keys u)=true) {i:Nat} (hi:i∈liveK u):∃b,hget u i=some b:=by
 induction u with
 | nil=>cases hi
 | cons x r ih =>
  obtain⟨k,v⟩:=x
  simp only [keys,List.map_cons,bQ] at hn
  cases hm:iF (r.map (·.1)) k with
  | true=>rw [hm] at hn;cases hn
  | false =>
   rw [hm] at hn
   have hlive:∀(r:List (Nat×Option Blk)) (i:Nat),i∈liveK r→i∈r.map (·.1):=by
    intro r
    induction r with
    | nil=>intro i hi;cases hi
    | cons y r ih =>
     obtain⟨k',v'⟩:=y
     intro i hi
     unfold liveK at hi
     cases v' with
     | some b=>rcases List.mem_cons.1 hi with rfl|hi;simp;exact List.mem_cons_of_mem _ (ih i hi)
     | none=>exact List.mem_cons_of_mem _ (ih i hi)
   cases v with
   | some b =>
    unfold liveK at hi
    rcases List.mem_cons.1 hi with rfl|hi
    ·exact⟨b,by simp [hget]⟩
    ·obtain⟨b',hb'⟩:=ih hn hi
     have hne:¬k=i:=fun e=>by
      subst e
      have:iF (r.map (·.1)) k=true:=(fx _ _).2 (hlive r k hi)
      rw [hm] at this;cases this
     exact⟨b',by show (match Nat.beq k i with|true=>some b|false=>hget r i)=_;rw [dm hne];exact hb'⟩
   | none =>
    unfold liveK at hi
    obtain⟨b',hb'⟩:=ih hn hi
    have hne:¬k=i:=fun e=>by
     subst e
     have:iF (r.map (·.1)) k=true:=(fx _ _).2 (hlive r k hi)
     rw [hm] at this;cases this
    exact⟨b',by show (match Nat.beq k i with|true=>none|false=>hget r i)=_;rw [dm hne];exact hb'⟩
theorem oP {u:List (Nat×Option Blk)} {i:Nat} (hi:i∈liveK u):i∈keys u:=by
 induction u with
 | nil=>cases hi
 | cons y r ih =>
  obtain⟨k',v'⟩:=y
  unfold liveK at hi
  unfold keys
  cases v' with
  | some b=>rcases List.mem_cons.1 hi with rfl|hi;simp;exact List.mem_cons_of_mem _ (ih hi)
  | none=>exact List.mem_cons_of_mem _ (ih hi)
def mkC (P:Program) (fn:Func) (ρ:am) (F:aA) (w:World) (T:List Nat) (u:List (Nat×Option Blk)) (h:ba) (v:AV):Ctx where
 P:=P
 fn:=fn
 R:=fun e w'=>∃x ρ' F',e = .returned x∧Post ρ F w T u h v x ρ' F' w'
 w0:=w
 F0:=F
 O:=OSet ρ (keys u)
 ρ0:=fun i=>if i∈T then ρ i else none
theorem Gl {fn:Func} {ρ:am} {F:aA} {w:World} {T:List Nat} {u:List (Nat×Option Blk)} {h:ba} {v:AV} (hpre:Pre ρ F w T u h) {ρe:am} {Fe:aA} {st:AS} {a:Act} {w':World}
 (hc:Conc (mkC P fn ρ F w T u h v) ρe Fe st a w') {S:List Nat} {σ:Nat→Nat} (he:ut P fn.results.toList st v T u S σ) :
 a.defers=[]∧∃x,(results fn a.tmps).run P w' = .ok x w'∧∃y ρ' F',Ending.returned x = .returned y∧Post ρ F w T u h v y ρ' F' w':=by
 obtain⟨vs,hvs,hv⟩:=he.res
 obtain⟨x,hx,hr⟩:=ur (P:=P) hc hvs
 refine⟨hc.defers,x,hx,x,fun i=>if i∈liveK u then ρe (σ i) else ρ i,gd Fe ρe S,rfl,?_⟩
 have hH:=hc.heap.restr S
 have hρ:∀i b,ρe (σ i)=some b→(if i∈liveK u then ρe (σ i) else ρ i)=some b:=by
  intro i b hb
  by_cases hi:i∈liveK u
  ·rw [if_pos hi];exact hb
  ·rw [hc.fresh _ (he.sigN i hi)] at hb;cases hb
 have hnew:∀i,i∈liveK u→i∉T→ρ i=none:=fun i hi hT=>hpre.fresh i (oP hi) hT
 have hOlt:∀b,OSet ρe S b→b<w'.heap.size∧(w.heap.size≤b∨OSet ρ (keys u) b):=by
  rintro b ⟨i,hi,hb⟩
  have hl:=fa he.live hi
  refine⟨?_,hc.own i b hl hb⟩
  obtain⟨k,hk⟩:=Option.ne_none_iff_exists'.1 hl
  rcases hc.heap.ok i k hk with ⟨_,h0⟩|⟨b2,hb2,ho⟩
  ·rw [h0] at hb;cases hb
  ·rw [hb] at hb2;cases hb2
   exact ho.lt
 have hblk:∀i b',restr (T++keys u) (updH u h) i=some b'→i∈liveK u∧σ i∉S∧∃b,hget st.hp (σ i)=some b∧b'.t=b.t∧ai (hget st.hp) S σ b'.cs b.cs:=by
  intro i b' hb'
  obtain⟨hm,hb'⟩:=aJ hb'
  have hk:i∈keys u:=by
   rcases List.mem_append.1 hm with h1|h1
   ·exact (he.sigT i h1).2
   ·exact h1
  simp only [updH,if_pos hk] at hb'
  have hm:=eZ hb'
  obtain⟨h1,h2⟩:=g6 he.blocks hm
  refine⟨mn hm,h1,?_⟩
  unfold kP at h2
  split at h2
  ·rename_i b hb;exact⟨b,hb,h2.1,h2.2⟩
  ·exact h2.elim
 refine⟨fun i b hb=>?_,fun i h1 h2=>?_,fun i b h1 h2=>?_,g5 hH hρ _ _ _ hv hr,⟨fun i k hk=>?_,fun i j b hi hj h1 h2=>?_⟩,?_,?_⟩
 ·by_cases hi:i∈liveK u
  ·rw [if_pos hi]
   have hT:i∈T:=by
    by_cases hT:i∈T
    ·exact hT
    ·rw [hnew i hi hT] at hb;cases hb
   rw [(he.sigT i hT).1 hi]
   exact hc.keep i b (by simp [mkC,hT,hb])
  ·rw [if_neg hi];exact hb
 ·by_cases hi:i∈liveK u
  ·exact oP hi
  ·rw [if_neg hi] at h2;exact absurd h1 h2
 ·by_cases hi:i∈liveK u
  ·rw [if_pos hi] at h2
   obtain⟨b',hb'⟩:=Bh he.nd hi
   have hm:=eZ hb'
   obtain⟨_,hs⟩:=g6 he.blocks hm
   have hl:hget st.hp (σ i)≠none:=by intro e;rw [e] at hs;exact hs
   exact hc.own (σ i) b hl h2
  ·rw [if_neg hi,h1] at h2;cases h2
 ·obtain⟨hlk,hS,b,hb,ht,hvv⟩:=hblk i k hk
  rcases hc.heap.ok (σ i) b hb with ⟨h1,h0⟩|⟨bb,hbb,ho⟩
  ·rw [h1] at hvv
   refine .inl ⟨?_,by rw [if_pos hlk];exact h0⟩
   cases hcs:k.cs with
   | nil=>rfl
   | cons x r=>rw [hcs] at hvv;simp [ai] at hvv
  ·refine .inr ⟨bb,by rw [if_pos hlk];exact hbb,ho.view (fun hF=>?_) ht (c6 hvv) (fun _ h => .inl h) (fun f hf=>dV hH hρ k.cs b.cs f hvv hf)⟩
   rcases hF with hF|⟨j,hj,hjb⟩
   ·exact ho.own hF
   ·have:=hc.heap.inj j (σ i) bb (fa he.live hj) (by rw [hb];simp) hjb hbb
    exact hS (this ▸ hj)
 ·obtain⟨ki,hki⟩:=Option.ne_none_iff_exists'.1 hi
  obtain⟨kj,hkj⟩:=Option.ne_none_iff_exists'.1 hj
  obtain⟨hli,_,bi,hbi,_⟩:=hblk i ki hki
  obtain⟨hlj,_,bj,hbj,_⟩:=hblk j kj hkj
  rw [if_pos hli] at h1
  rw [if_pos hlj] at h2
  exact jW he.nd' hli hlj (hc.heap.inj (σ i) (σ j) b (by rw [hbi];simp) (by rw [hbj];simp) h1 h2)
 ·rintro b (hb|hb)
  ·exact hc.fok b hb
  ·exact (hOlt b hb).1
 ·exact⟨hc.chg.os,hc.chg.tape,hc.chg.output,hc.chg.size,hc.chg.same,hc.chg.cells,fun b hb => .inl (hc.chg.sub b hb),fun b hb=>by
   rcases hb with hb|hb
   ·exact hc.chg.new b hb
   ·exact .inr (hOlt b hb).2⟩
def Fin (c:Ctx) (rs:List ResultVar) (v:AV) (T:List Nat) (u:List (Nat×Option Blk)):Prop :=
 ∀k st S σ,ut c.P rs st v T u S σ→SAW c (.code .ret::k) st∧SAW c [] st
def mq:Nat→List AV→List (Nat×AV)
 | _,[]=>[]
 | i,v::r=>(i,v)::mq (i+1) r
theorem Bi:∀(vs:List AV) (i s:Nat),lk (mq i vs) s=if i≤s then (vs[s-i]?).getD .any else .any:=by
 intro vs
 induction vs with
 | nil=>intro i s;simp [mq,lk]
 | cons v r ih =>
  intro i s
  simp only [mq,fJ,ih]
  by_cases h:i=s
  ·subst h;simp
  ·by_cases h2:i≤s
   ·rw [if_neg h,if_pos (by omega),if_pos h2]
    obtain⟨q,rfl⟩:∃q,s=i+1+q:=⟨s-(i+1),by omega⟩
    rw [show i+1+q-(i+1)=q by omega,show i+1+q-i=q+1 by omega]
    simp
   ·rw [if_neg h,if_neg (by omega),if_neg h2]
mutual
def ax (T:List Nat):AV→Prop
 | .p _=>True
 | .ptr i _=>i∈T
 | .sl i _ _ _=>i∈T
 | .cp _=>True
 | .agg as=>an T as
 | .tup as=>an T as
 | .iface _ a=>ax T a
 | .fn _ as bs=>an T as∧an T bs
 | .mp i=>i∈T
 | .any=>True
def an (T:List Nat):List AV→Prop
 | []=>True
 | a::as=>ax T a∧an T as
end
theorem a8 (T:List Nat):∀cs:List PV,an T (cs.map .p)
 | []=>trivial
 | c::cs=>⟨trivial,a8 T cs⟩
def bS (T:List Nat):List (Nat×Option Blk)→Prop
 | []=>True
 | (_,b)::r=>(match b with
  | some b=>an T b.cs
  | none=>True)∧bS T r
theorem cQ {T:List Nat}:∀{as:List AV} {j:Nat} {a:AV},an T as→as[j]?=some a→ax T a
 | [],j,a,_,h=>by simp at h
 | x::xs,0,a,hi,h=>by simp at h;subst h;exact hi.1
 | x::xs,j+1,a,hi,h=>cQ hi.2 (by simpa using h)
theorem sz {T:List Nat} {ρ ρ':am} {F:aA} {w:World} (he:∀i,i∈T→ρ' i=ρ i) {x:AV} {u:Value} (h:Rd ρ F w x u):ax T x→Rd ρ' F w x u:=by
 induction h with
 | p x u h=>intro _;exact .p _ _ h
 | ptr id off b h=>intro hi;exact .ptr _ _ _ (by rw [he id hi];exact h)
 | sl id off len s b cap h hcap hc=>intro hi;exact .sl _ _ _ _ _ _ (by rw [he id hi];exact h) hcap hc
 | slz id off s A=>intro _;exact .slz _ _ _ _
 | cp cs b off f hF hc h1 hr=>intro _;exact .cp _ _ _ f hF hc h1 hr
 | agg cs us hl _ ih=>intro hi;exact .agg _ _ hl (fun j c hj=>ih j c hj (cQ hi hj))
 | tup cs us hl _ ih=>intro hi;exact .tup _ _ hl (fun j c hj=>ih j c hj (cQ hi hj))
 | iface t x u _ ih=>intro hi;exact .iface _ _ _ (ih hi)
 | fn f as bs us vs hl _ hl' _ ih ih'=>intro hi;exact .fn _ _ _ _ _ hl (fun j c hj=>ih j c hj (cQ hi.1 hj)) hl' (fun j c hj=>ih' j c hj (cQ hi.2 hj))
 | mp id b h hm=>intro hi;exact .mp _ _ (by rw [he id hi];exact h) hm
 | any u=>intro _;exact .any _
theorem oQ {T:List Nat} {hp:List (Nat×Option Blk)} (h:bS T hp) {i:Nat} {b:Blk} (hm:(i,some b)∈hp):an T b.cs:=by
 induction hp with
 | nil=>cases hm
 | cons x r ih =>
  obtain⟨k,v⟩:=x
  rcases List.mem_cons.1 hm with h1|h1
  ·cases h1;exact h.1
  ·exact ih h.2 h1
theorem iG {f:FuncId} {fn:Func} {code:Code} (hf:P.funcs[f]?=some fn) (hb:fn.body=some code) (hn:(fn.name=="runtime.NumGoroutine")=false) (us:Array Value) (w:World):(callFunc f us).run P w = .ok (.enter f us) w:=by
 simp only [callFunc,Sem.run_bind,run_program,Result.andThen_ok,hf]
 simp [hn,hb]
theorem uu {f:FuncId} {fn:Func} {code:Code} {vs:List AV} {v:AV} {T:List Nat} {u:List (Nat×Option Blk)} {h:ba} {hp0:List (Nat×Option Blk)} {nx0 n:Nat}
 (hf:P.funcs[f]?=some fn) (hb:fn.body=some code) (hname:(fn.name=="runtime.NumGoroutine")=false) (hn:fn.ntmps=n) (hlen:vs.length≤n)
 (hh:hget hp0=restr T h) (hnx:∀i,i∈T→i<nx0)
 (hargs:an T vs) (hids:bS T hp0)
 (hT:∀i,i∈T→i∈keys u)
 (haw:∀c:Ctx,c.P=P→(∀i,c.ρ0 i≠none→i∈T)→Fin c fn.results.toList v T u→SAW c [.code code] ⟨n,mq 0 vs,hp0,nx0⟩):FCall P f vs h v T u where
 tri ρ F us w hpre hz hr:=by
  refine .inl ⟨iG hf hb hname us w,Calls.mono (R:=fun e w'=>∃x ρ' F',e = .returned x∧Post ρ F w T u h v x ρ' F' w') ?_ (fun e w' ⟨x,ρ',F',he,hp⟩=>⟨x,he,ρ',F',hp⟩)⟩
  refine calls_of_wp hf hb ?_
  have hfin:Fin (mkC P fn ρ F w T u h v) fn.results.toList v T u:=by
   intro k st S σ he
   have key:∀ ρe Fe a w',Conc (mkC P fn ρ F w T u h v) ρe Fe st a w'→bodyPost P fn (mkC P fn ρ F w T u h v).R .ret a w'∧bodyPost P fn (mkC P fn ρ F w T u h v).R .normal a w':=by
    intro ρe Fe a w' hc
    have:=Gl hpre hc he
    exact⟨this,this⟩
   refine⟨fun ρe Fe a w' hc=>wp_ret ?_,fun ρe Fe a w' hc=>(key ρe Fe a w' hc).2⟩
   rw [oN]
   exact (key ρe Fe a w' hc).1
  have hsaw:=haw (mkC P fn ρ F w T u h v) rfl (fun i hi=>by simp only [mkC] at hi;by_cases hT:i∈T;exact hT;simp [hT] at hi) hfin
  have hc0:Conc (mkC P fn ρ F w T u h v) (fun i=>if i∈T then ρ i else none) F ⟨n,mq 0 vs,hp0,nx0⟩ { tmps:=us++Array.replicate (fn.ntmps-us.size) undef,defers:=[] } w:=by
   have hρT:∀i,i∈T→(fun i=>if i∈T then ρ i else none) i=ρ i:=fun i hi=>by simp [hi]
   have hmono:∀i b,(if i∈T then ρ i else none)=some b→ρ i=some b:=fun i b hb=>by
    by_cases hi:i∈T
    ·simpa [hi] using hb
    ·simp [hi] at hb
   refine⟨rfl,by simp;omega,fun s=>?_,?_,fun i hi=>?_,hpre.fok,Chg.refl _ _ _,fun i hi=>?_,fun i b hi hb=>?_,fun i b hb=>hb,hpre.glob⟩
   ·simp only [Bi,Nat.zero_le,if_true,Nat.sub_zero]
    cases hs:vs[s]? with
    | none=>exact .any _
    | some x =>
     have hslt:s<us.size:=by rw [hz];exact (List.getElem?_eq_some_iff.1 hs).1
     have e:(us++Array.replicate (fn.ntmps-us.size) undef).getD s undef=us.getD s undef:=by simp [cn,Array.getElem?_append,hslt]
     simp only [Option.getD_some]
     rw [e]
     exact sz hρT (hr s x hs) (cQ hargs hs)
   ·refine⟨fun i k hk=>?_,fun i j b hi hj h1 h2=>?_⟩
    ·have hids':=oQ hids (eZ hk)
     rw [hh] at hk
     have hiT:=(aJ hk).1
     rcases hpre.hp.ok i k hk with ⟨h1,h0⟩|⟨b,hb,ho⟩
     ·exact .inl ⟨h1,by simp [hiT,h0]⟩
     ·exact .inr ⟨b,by simp [hiT,hb],ho.view ho.own rfl rfl (fun _ h=>h) (fun f hf j c hj=>sz hρT (hf j c hj) (cQ hids' hj))⟩
    ·rw [hh] at hi hj
     exact hpre.hp.inj i j b hi hj (hmono i b h1) (hmono j b h2)
   ·by_cases hiT:i∈T
    ·have:=hnx i hiT
     have hi':nx0≤i:=hi
     omega
    ·simp [hiT]
   ·rw [hh] at hi
    obtain⟨k,hk⟩:=Option.ne_none_iff_exists'.1 hi
    exact hnx i (aJ hk).1
   ·rw [hh] at hi
    obtain⟨k,hk⟩:=Option.ne_none_iff_exists'.1 hi
    have hiT:=(aJ hk).1
    exact .inr ⟨i,hT i hiT,hmono i b hb⟩
  exact hsaw _ _ _ _ hc0
end Go.Abs
namespace Go.Abs
set_option linter.unusedSimpArgs false
set_option linter.unusedVariables false
open Go Go.RowKit
variable {P : Program}
def FPure (P:Program) (f:FuncId) (vs:List AV) (v:AV):Prop:=∀h,FCall P f vs h v [] []
def IZ (P:Program) (rs:List ResultVar) (st:AS) (v:AV):Prop :=
 ∃S,lz st.hp S∧∃vs,gI P st rs=some vs∧aH (hget st.hp) S (fun _=>st.nx) v (retV vs)
theorem Bj {f:FuncId} {fn:Func} {code:Code} {vs:List AV} {v:AV} {n:Nat} (hf:P.funcs[f]?=some fn) (hb:fn.body=some code) (hname:(fn.name=="runtime.NumGoroutine")=false) (hn:fn.ntmps=n)
 (hlen:vs.length≤n) (hargs:an [] vs)
 (haw:∀c:Ctx,c.P=P→(∀i,c.ρ0 i≠none→False)→(∀k st,IZ P fn.results.toList st v→SAW c (.code .ret::k) st∧SAW c [] st)→SAW c [.code code] ⟨n,mq 0 vs,[],0⟩):FPure P f vs v:=by
 intro h
 refine uu hf hb hname hn hlen (hp0:=[]) (nx0:=0) (by funext i;simp [hget,restr]) (fun i hi=>by cases hi) hargs trivial (fun i hi=>by cases hi) ?_
 intro c hP h0 hfin
 refine haw c hP (fun i hi=>by have:=h0 i hi;cases this) (fun k st he=>?_)
 obtain⟨S,hl,vs',hv,hvv⟩:=he
 exact hfin k st S (fun _=>st.nx) ⟨⟨vs',by rw [hP];exact hv,hvv⟩,trivial,rfl,rfl,hl,fun i hi=>(by cases hi),fun i _=>Nat.le_refl _⟩
theorem oR (S:List Nat) (hp:List (Nat×Option Blk)) (i:Nat):hget (dG S++hp) i=if i∈S then none else hget hp i:=by
 induction S with
 | nil=>simp [dG]
 | cons k r ih =>
  simp only [dG,List.cons_append]
  show (match Nat.beq k i with|true=>none|false=>hget (dG r++hp) i)=_
  by_cases h:k=i
  ·subst h;simp
  ·have h':¬i=k:=fun e=>h e.symm
   rw [dm h,ih];simp [h']
theorem bE {c:Ctx} {k:List It} {n:Nat} {sl:List (Nat×AV)} {hp:List (Nat×Option Blk)} {nx:Nat} (t:TypeId) (h:SAW c k ⟨n,sl,(nx,some ⟨t,[]⟩)::hp,nx+1⟩):SAW c k ⟨n,sl,hp,nx⟩:=by
 intro ρ F a w hc
 have hn:ρ nx=none:=hc.fresh nx (Nat.le_refl _)
 have hg:∀i,hget ((nx,some ⟨t,[]⟩)::hp) i=if nx=i then some ⟨t,[]⟩ else hget hp i:=by
  intro i
  show (match Nat.beq nx i with|true=>_|false=>hget hp i)=_
  by_cases h:nx=i
  ·subst h;simp
  ·rw [dm h,if_neg h]
 have hof:∀i,hget ((nx,some ⟨t,[]⟩)::hp) i≠none→ρ i≠none→hget hp i≠none:=by
  intro i hi hr
  rw [hg] at hi
  by_cases h:nx=i
  ·subst h;exact absurd hn hr
  ·rwa [if_neg h] at hi
 refine h ρ F a w ⟨hc.defers,hc.size,hc.slots,⟨fun i k hk=>?_,fun i j b hi hj h1 h2=>hc.heap.inj i j b (hof i hi (by rw [h1];simp)) (hof j hj (by rw [h2];simp)) h1 h2⟩,fun i hi=>hc.fresh i (by simp at hi;show nx≤i;omega),hc.fok,hc.chg,fun i hi=>?_,fun i b hi hb=>hc.own i b (hof i hi (by rw [hb];simp)) hb,hc.keep,hc.glob⟩
 ·simp only [hg] at hk
  by_cases h:nx=i
  ·subst h
   rw [if_pos rfl] at hk
   cases hk
   exact .inl ⟨rfl,hn⟩
  ·rw [if_neg h] at hk
   exact hc.heap.ok i k hk
 ·simp only [hg] at hi
  by_cases h:nx=i
  ·subst h;exact Nat.lt_succ_self _
  ·rw [if_neg h] at hi
   exact Nat.lt_succ_of_lt (hc.dom i hi)
end Go.Abs

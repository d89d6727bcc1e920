/- The executor's operations are sound: indexing, lengths, conversions, interfaces, literals. Own work; no statement of the seat is proved here. The executor's operations are sound: composite literals, make, append, copy, strings and bytes. Own work; no statement of the seat is proved here. The executor's operations are sound: make, slice literals, append, copy, strings and bytes. Own work; no statement of the seat is proved here. The executor's operations are sound: append, copy, strings and bytes. Own work; no statement of the seat is proved here. The executor's operations are sound: copy, strings and bytes. Own work; no statement of the seat is proved here. -/
import Derived.Test.YtebndjnkmcahaaaGreatDoorAbsE
import Derived.Lib.AppendStr
import Derived.Laws.MakeOwn
import Derived.Laws.IdiomStrings
namespace Go.Abs
set_option linter.unusedSimpArgs false
set_option linter.unusedVariables false
open Go Go.RowKit
variable {P : Program}
theorem jg {t:TypeId} {A:Addr} {n cap:Nat} {k:IntKind} {i:Int} (hu:P.underlying t=some (.slice (ae P t).elem)) (hs1:1≤bz P (ae P t).elem) (h0:0≤i) (h1:i<n) (w:World) :
 (Instr.indexAt t (.slice (some A) n cap) (.int k i)).run P w = .ok (.pointer (some (A.add (i.toNat*bz P (ae P t).elem)))) w:=by
 obtain⟨d,inf,hd,hi',hz⟩:=bB (P:=P) (t:=(ae P t).elem) hs1
 simp [Instr.indexAt,asIntOf,run_underlying hu,h0,h1,sizeOf,typeInfo,hi',hz]
theorem r5 {o:Oper} {st:AS} {t:TypeId} {x y:Operand} (ho:o.op = .indexAddr t x y) {s n:Nat} {cs:List PV} (hx:ev st x = .p (.data s n cs)) {k:IntKind} {i:Int} (hy:ev st y = .p (.v (.int k i)))
 (hk:(ae P t).kind = .slice) (hs:bz P (ae P t).elem=s) (hs1:1≤s) (h0:0≤i) (h1:i<n):OpOk P o st (.cp (cs.drop (i.toNat*s))) [] [] st.nx :=
 aT fun ρ F a w hin=>by
  have hr:=hin x (by simp [ho,Op.operands])
  have hr2:=hin y (by simp [ho,Op.operands])
  rw [hx] at hr;rw [hy] at hr2
  rcases hr.dataInv with ⟨rfl,_⟩|⟨b,off,cap,f,hv,hl,hcap,hF,hc,h1c,hrc⟩
  ·exfalso;omega
  ·refine⟨_,by simp only [execOp,ho,hv,hr2.pv,Sem.run_bind,jg (bR hk) (by omega) h0 h1,Result.andThen_ok,Sem.run_pure];rfl,?_⟩
   rw [cE,hs]
   exact .cpDrop hF hc h1c hrc _
theorem wl {o:Oper} {st:AS} {t:TypeId} {x y:Operand} (ho:o.op = .indexAddr t x y) {id off n s:Nat} (hx:ev st x = .sl id off n s) {k:IntKind} {i:Int} (hy:ev st y = .p (.v (.int k i)))
 (hk:(ae P t).kind = .slice) (hs:bz P (ae P t).elem=s) (hs1:1≤s) (h0:0≤i) (h1:i<n):OpOk P o st (.ptr id (off+i.toNat*s)) [] [] st.nx :=
 aT fun ρ F a w hin=>by
  have hr:=hin x (by simp [ho,Op.operands])
  have hr2:=hin y (by simp [ho,Op.operands])
  rw [hx] at hr;rw [hy] at hr2
  rcases hr.slInv with ⟨rfl,_⟩|⟨b,cap,hb',hv,hcap,hc⟩
  ·exfalso;omega
  ·refine⟨_,by simp only [execOp,ho,hv,hr2.pv,Sem.run_bind,jg (bR hk) (by omega) h0 h1,Result.andThen_ok,Sem.run_pure];rfl,?_⟩
   rw [cE,hs]
   exact .ptr _ _ _ hb'
theorem tW {o:Oper} {st:AS} {t:TypeId} {x y:Operand} (ho:o.op = .indexAddr t x y) {id off:Nat} (hx:ev st x = .ptr id off) {k:IntKind} {i:Int} (hy:ev st y = .p (.v (.int k i)))
 (hk:(ae P t).kind = .array) (hs1:1≤bz P (ae P t).elem) (h0:0≤i) (h1:i<(ae P t).len):OpOk P o st (.ptr id (off+i.toNat*bz P (ae P t).elem)) [] [] st.nx :=
 aT fun ρ F a w hin=>by
  have hr:=hin x (by simp [ho,Op.operands])
  have hr2:=hin y (by simp [ho,Op.operands])
  rw [hx] at hr;rw [hy] at hr2
  obtain⟨b,hb',hv⟩:=hr.ptrInv
  have hu:=je hk
  obtain⟨d,inf,hd,hi',hz⟩:=bB (P:=P) (t:=(ae P t).elem) hs1
  refine⟨_,?_,.ptr _ _ _ hb'⟩
  simp [execOp,ho,hv,hr2.pv,Instr.indexAt,asIntOf,run_underlying hu,Instr.sureAddr,h0,h1,sizeOf,typeInfo,hi',hz,cE]
theorem wm {o:Oper} {st:AS} {t:TypeId} {x y:Operand} (ho:o.op = .indexAddr t x y) {cs:List PV} (hx:ev st x = .cp cs) {k:IntKind} {i:Int} (hy:ev st y = .p (.v (.int k i)))
 (hk:(ae P t).kind = .array) (hs1:1≤bz P (ae P t).elem) (h0:0≤i) (h1:i<(ae P t).len):OpOk P o st (.cp (cs.drop (i.toNat*bz P (ae P t).elem))) [] [] st.nx :=
 aT fun ρ F a w hin=>by
  have hr:=hin x (by simp [ho,Op.operands])
  have hr2:=hin y (by simp [ho,Op.operands])
  rw [hx] at hr;rw [hy] at hr2
  obtain⟨b,off,f,hv,hF,hc,h1c,hrc⟩:=hr.cpInv
  have hu:=je hk
  obtain⟨d,inf,hd,hi',hz⟩:=bB (P:=P) (t:=(ae P t).elem) hs1
  refine⟨_,?_,.cpDrop hF hc h1c hrc _⟩
  simp [execOp,ho,hv,hr2.pv,Instr.indexAt,asIntOf,run_underlying hu,Instr.sureAddr,h0,h1,sizeOf,typeInfo,hi',hz,cE]
theorem tX {o:Oper} {st:AS} {t:TypeId} {x y:Operand} (ho:o.op = .index t x y) {s:ByteArray} (hx:ev st x = .p (.v (.string s))) {k:IntKind} {i:Int} (hy:ev st y = .p (.v (.int k i)))
 (hk:(ae P t).kind = .str) (h0:0≤i) (h1:i<s.size):OpOk P o st (.p (.v (.int .u8 ((s.data.toList.getD i.toNat 0).toNat:Int)))) [] [] st.nx :=
 aT fun ρ F a w hin=>by
  have hr:=hin x (by simp [ho,Op.operands])
  have hr2:=hin y (by simp [ho,Op.operands])
  rw [hx] at hr;rw [hy] at hr2
  have hlt:i.toNat<s.size:=by omega
  have hu:=jf hk
  refine⟨_,?_,.ofI _ _⟩
  have e:s[i.toNat]?=some s[i.toNat]:=by simp [hlt]
  have e2:s.data.toList.getD i.toNat 0=s[i.toNat]:=by
   have:i.toNat<s.data.toList.length:=by simpa using hlt
   rw [List.getD_eq_getElem?_getD,List.getElem?_eq_getElem this]
   rfl
  rw [e2]
  simp [execOp,ho,hr.pv,hr2.pv,Instr.index,asIntOf,run_underlying hu,h0,e]
theorem tY {o:Oper} {st:AS} {t:TypeId} {x y:Operand} (ho:o.op = .index t x y) {cs:List AV} (hx:ev st x = .agg cs) {k:IntKind} {i:Int} (hy:ev st y = .p (.v (.int k i)))
 (hk:(ae P t).kind = .array) (hs:1≤(ae P (ae P t).elem).size) (h0:0≤i) (h1:i<(ae P t).len) (hl:i.toNat*(ae P (ae P t).elem).size+(ae P (ae P t).elem).size≤cs.length) :
 OpOk P o st (gU (ae P (ae P t).elem).kind (ae P (ae P t).elem).size (cs.drop (i.toNat*(ae P (ae P t).elem).size))) [] [] st.nx :=
 aT fun ρ F a w hin=>by
  have hr:=hin x (by simp [ho,Op.operands])
  have hr2:=hin y (by simp [ho,Op.operands])
  rw [hx] at hr;rw [hy] at hr2
  obtain⟨us,hv,hz,hr⟩:=hr.aggInv
  have hu:=je hk
  have hs':1≤bz P (ae P t).elem:=hs
  have hl':i.toNat*bz P (ae P t).elem+bz P (ae P t).elem≤cs.length:=hl
  obtain⟨d,inf,hd,hi',hsz⟩:=bB hs'
  have hp:=tU (P:=P) (t:=(ae P t).elem) (us:=us) (off:=i.toNat*bz P (ae P t).elem) hs' (by omega) w
  refine⟨_,?_,jS hs' hl' (f:=fun j=>us.getD j undef) hr⟩
  simp [execOp,ho,hv,hr2.pv,Instr.index,asIntOf,run_underlying hu,h0,h1,sizeOf,typeInfo,hi',hsz,hp]
  rfl
theorem r6 {o:Oper} {st:AS} {t:TypeId} {x:Operand} (ho:o.op = .call ⟨.builtin .len,#[x],#[t]⟩) {n:Nat}
 (h:((ae P t).kind = .slice∧((∃s cs,ev st x = .p (.data s n cs))∨(∃A c,ev st x = .p (.v (.slice A n c)))∨∃id off s,ev st x = .sl id off n s)) ∨
  ((ae P t).kind = .str∧∃s:ByteArray,s.size=n∧ev st x = .p (.v (.string s)))):OpOk P o st (.i n) [] [] st.nx :=
 aT fun ρ F a w hin=>by
  have hr:=hin x (by simp [ho,Op.operands,Call.operands])
  rcases h with ⟨hk,h⟩|⟨hk,s,rfl,hx⟩
  ·have hu:=bR hk
   have hv:∃A c,a.eval x = .slice A n c:=by
    rcases h with ⟨s,cs,hx⟩|⟨A,c,hx⟩|⟨id,off,s,hx⟩
    ·rw [hx] at hr
     rcases hr.dataInv with ⟨rfl,_,A,cap,hv⟩|⟨b,off,cap,f,hv,_⟩
     ·exact⟨A,cap,hv⟩
     ·exact⟨_,cap,hv⟩
    ·rw [hx] at hr;exact⟨A,c,hr.pv⟩
    ·rw [hx] at hr
     rcases hr.slInv with ⟨rfl,A,hv⟩|⟨b,cap,_,hv,_⟩
     ·exact⟨A,0,hv⟩
     ·exact⟨_,cap,hv⟩
   obtain⟨A,c,hv⟩:=hv
   refine⟨.int .i64 n,?_,.ofI _ _⟩
   simp [execOp,ho,resolve,invoke,builtin,hv,Builtin.len_,run_underlying hu,goInt]
  ·have hu:=jf hk
   rw [hx] at hr
   refine⟨.int .i64 s.size,?_,.ofI _ _⟩
   simp [execOp,ho,resolve,invoke,builtin,hr.pv,Builtin.len_,run_underlying hu,goInt]
theorem Gf {o:Oper} {st:AS} {ts:Array TypeId} {x y:Operand} (ho:o.op = .call ⟨.builtin .max,#[x,y],ts⟩) {k j:IntKind} {a b:Int} (hx:ev st x = .p (.v (.int k a))) (hy:ev st y = .p (.v (.int j b))) :
 OpOk P o st (.p (.v (.int k (if b>a then b else a)))) [] [] st.nx :=
 aT fun ρ F ac w hin=>by
  have hr:=hin x (by simp [ho,Op.operands,Call.operands])
  have hr2:=hin y (by simp [ho,Op.operands,Call.operands])
  rw [hx] at hr;rw [hy] at hr2
  exact⟨_,by simp [execOp,ho,resolve,invoke,builtin,hr.pv,hr2.pv,Builtin.max_,Builtin.max2],.ofI _ _⟩
theorem Gg {o:Oper} {st:AS} {ts:Array TypeId} {x y:Operand} (ho:o.op = .call ⟨.builtin .min,#[x,y],ts⟩) {k j:IntKind} {a b:Int} (hx:ev st x = .p (.v (.int k a))) (hy:ev st y = .p (.v (.int j b))) :
 OpOk P o st (.p (.v (.int k (if b<a then b else a)))) [] [] st.nx :=
 aT fun ρ F ac w hin=>by
  have hr:=hin x (by simp [ho,Op.operands,Call.operands])
  have hr2:=hin y (by simp [ho,Op.operands,Call.operands])
  rw [hx] at hr;rw [hy] at hr2
  exact⟨_,by simp [execOp,ho,resolve,invoke,builtin,hr.pv,hr2.pv,Builtin.min_,Builtin.min2],.ofI _ _⟩
theorem AU {o:Oper} {st:AS} {op:UnOp} {t:TypeId} {x:Operand} (ho:o.op = .unOp op t x) {v r:Value} (hx:ev st x = .p (.v v)) (hr:∀w,(Op.unary op v).run P w = .ok r w) (h1:r.oneCell'=true) :
 OpOk P o st (.p (.v r)) [] [] st.nx :=
 aT fun ρ F a w hin=>by
  have hr1:=hin x (by simp [ho,Op.operands])
  rw [hx] at hr1
  exact⟨r,by simp only [execOp,ho,hr1.pv,Sem.run_bind,hr w,Result.andThen_ok,Sem.run_pure],.ofV h1⟩
theorem wo {o:Oper} {st:AS} {s d:TypeId} {x:Operand} (ho:o.op = .convert s d x) {j k:IntKind} {n:Int} (hx:ev st x = .p (.v (.int j n))) (hd:(ae P d).kind = .int k) (hs:(ae P s).kind ≠ .none) :
 OpOk P o st (.p (.v (.int k (k.wrap n)))) [] [] st.nx :=
 aT fun ρ F a w hin=>by
  have hr1:=hin x (by simp [ho,Op.operands])
  rw [hx] at hr1
  have hu:=kL hd
  cases hus:P.underlying s with
  | none=>exact absurd (by simp [ae,hus,dF]) hs
  | some ds=>exact⟨_,by simp [execOp,ho,hr1.pv,convert,run_underlying hu,run_underlying hus,Conv.intToInt],.ofI _ _⟩
theorem AW {o:Oper} {st:AS} {t:TypeId} {x:Operand} (ho:o.op = .makeInterface t x) (hk:(ae P t).kind ≠ .iface) (hk':(ae P t).kind ≠ .none):OpOk P o st (.iface t (ev st x)) [] [] st.nx :=
 aT fun ρ F a w hin=>by
  have hr1:=hin x (by simp [ho,Op.operands])
  refine⟨.iface t (a.eval x),?_,.iface _ _ _ hr1⟩
  cases hu:P.underlying t with
  | none=>exact absurd (by simp [ae,hu,dF]) hk'
  | some d =>
   have hni:∀ms,d ≠ .interface ms:=fun ms e=>hk (by subst e;simp [ae,hu,dF])
   simp only [execOp,ho,Instr.makeInterface,Sem.run_bind,run_underlying hu,Result.andThen_ok]
   cases d<;>first|rfl|exact absurd rfl (hni _)
theorem DY (st:AS):∀(l:List Operand) (j:Nat) (c:AV),(evs st l)[j]?=some c→∃x,l[j]?=some x∧c=ev st x:=by
 intro l
 induction l with
 | nil=>intro j c h;simp [evs] at h
 | cons x r ih =>
  intro j c h
  cases j with
  | zero=>simp [evs] at h;exact⟨x,rfl,h.symm⟩
  | succ j=>simp [evs] at h;simpa using ih j c h
theorem DZ (st:AS) (l:List Operand):(evs st l).length=l.length:=by induction l<;>simp_all [evs]
theorem r7 {ρ:am} {F:aA} {w:World} {st:AS} {a:Act} {xs:Array Operand} (h:∀x,x∈xs→Rd ρ F w (ev st x) (a.eval x)) :
 (xs.map a.eval).size=(evs st xs.toList).length∧∀j c,(evs st xs.toList)[j]?=some c→Rd ρ F w c ((xs.map a.eval).getD j undef):=by
 refine⟨by simp [DZ],fun j c hj=>?_⟩
 obtain⟨x,hx,rfl⟩:=DY st _ j c hj
 have hx':xs[j]?=some x:=by simpa using hx
 have:(xs.map a.eval).getD j undef=a.eval x:=by simp [cn,hx']
 rw [this]
 exact h x (Array.mem_of_getElem? hx')
theorem tZ {o:Oper} {st:AS} {f:Fn} {xs ys:Array Operand} (ho:o.op = .makeFunc f xs ys):OpOk P o st (.fn f (evs st xs.toList) (evs st ys.toList)) [] [] st.nx :=
 aT fun ρ F a w hin=>by
  obtain⟨l1,r1⟩:=r7 (xs:=xs) (st:=st) (a:=a) (ρ:=ρ) (F:=F) (w:=w) (fun x hx=>hin x (by simp [ho,Op.operands,hx]))
  obtain⟨l2,r2⟩:=r7 (xs:=ys) (st:=st) (a:=a) (ρ:=ρ) (F:=F) (w:=w) (fun x hx=>hin x (by simp [ho,Op.operands,hx]))
  exact⟨.func f (xs.map a.eval) (ys.map a.eval),by simp [execOp,ho,Instr.makeFunc],.fn _ _ _ _ _ l1 r1 l2 r2⟩
theorem gG {o:Oper} {st:AS} {x:Operand} (ho:o.op = .nilCheck x) (h:(∃id off,ev st x = .ptr id off)∨(∃cs,ev st x = .cp cs)∨(∃f a b,ev st x = .fn (.func f) a b)∨∃f a b,ev st x = .p (.v (.func (.func f) a b))):OpOk P o st (ev st x) [] [] st.nx :=
 aT fun ρ F a w hin=>by
  have hr1:=hin x (by simp [ho,Op.operands])
  rcases h with ⟨id,off,hx⟩|⟨cs,hx⟩|⟨f,as,bs,hx⟩|⟨f,as,bs,hx⟩
  ·rw [hx] at hr1 ⊢
   obtain⟨b,_,hv⟩:=hr1.ptrInv
   exact⟨_,by simp only [execOp,ho,hv];rfl,hv ▸ hr1⟩
  ·rw [hx] at hr1 ⊢
   obtain⟨b,off,g,hv,_⟩:=hr1.cpInv
   exact⟨_,by simp only [execOp,ho,hv];rfl,hv ▸ hr1⟩
  ·rw [hx] at hr1 ⊢
   generalize hv:a.eval x=v at hr1
   cases hr1 with
   | fn _ _ _ us vs=>exact⟨.func (.func f) us vs,by simp only [execOp,ho,hv];rfl,.fn _ _ _ _ _ ‹_› ‹_› ‹_› ‹_›⟩
  ·rw [hx] at hr1 ⊢
   exact⟨_,by simp only [execOp,ho,hr1.pv];rfl,.ofV rfl⟩
end Go.Abs
namespace Go.Abs
set_option linter.unusedSimpArgs false
set_option linter.unusedVariables false
open Go Go.RowKit
variable {P : Program}
def jh (place:Nat→Option (Nat×Nat)):List AV→List (Nat×AV)→Option (List AV)
 | cs,[]=>some cs
 | cs,(i,v)::rest=>match place i with
  | some (off,size)=>match Nat.beq (cells v).length size,eJ (cells v),Nat.ble (off+(cells v).length) cs.length with
   | true,true,true=>jh place (cA cs off (cells v)) rest
   | _,_,_=>none
  | none=>none
def evp (st:AS):List (Nat×Operand)→List (Nat×AV)
 | []=>[]
 | (i,x)::r=>(i,ev st x)::evp st r
theorem y4 (off:Nat):∀(l:List Value) (k:Nat) (cs:Array Value) (j:Nat),off+k+l.length≤cs.size →
 ((l.zipIdx k).foldl (fun (cs:Array Value) (x:Value×Nat)=>cs.setIfInBounds (off+x.2) x.1) cs).size=cs.size ∧
 ((l.zipIdx k).foldl (fun (cs:Array Value) (x:Value×Nat)=>cs.setIfInBounds (off+x.2) x.1) cs).getD j undef=if off+k≤j∧j<off+k+l.length then l.getD (j-(off+k)) undef else cs.getD j undef:=by
 intro l
 induction l with
 | nil=>intro k cs j h;simp;omega
 | cons v r ih =>
  intro k cs j h
  simp only [List.length_cons] at h
  simp only [List.zipIdx_cons,List.foldl_cons,List.length_cons]
  obtain⟨h1,h2⟩:=ih (k+1) (cs.setIfInBounds (off+k) v) j (by simp;omega)
  refine⟨by rw [h1];simp,?_⟩
  rw [h2]
  by_cases hj:off+(k+1)≤j∧j<off+(k+1)+r.length
  ·rw [if_pos hj,if_pos (by omega)]
   obtain⟨q,hq⟩:∃q,j=off+(k+1)+q:=⟨j-(off+(k+1)),by omega⟩
   subst hq
   rw [show off+(k+1)+q-(off+(k+1))=q by omega,show off+(k+1)+q-(off+k)=q+1 by omega]
   simp [List.getD_eq_getElem?_getD]
  ·rw [if_neg hj]
   by_cases he:j=off+k
   ·subst he
    rw [if_pos (by omega)]
    have:off+k<cs.size:=by omega
    simp [cn,this]
   ·rw [if_neg (by omega)]
    simp [cn,Array.getElem?_setIfInBounds_ne (fun h=>he h.symm)]
theorem r8 {ρ:am} {F:aA} {w:World} {st:AS} {a:Act} (place:Nat→Option (Nat×Nat)):∀(parts:List (Nat×Operand)) (cs:List AV) (us:Array Value) (r:List AV),
 (∀p,p∈parts→Rd ρ F w (ev st p.2) (a.eval p.2))→us.size=cs.length→(∀j c,cs[j]?=some c→(us.getD j undef).oneCell'=true∧Rd ρ F w c (us.getD j undef))→jh place cs (evp st parts)=some r →
 ∃us',Instr.fill place us (parts.map fun (i,x)=>(i,a.eval x))=some us'∧us'.size=r.length∧∀j c,r[j]?=some c→(us'.getD j undef).oneCell'=true∧Rd ρ F w c (us'.getD j undef):=by
 intro parts
 induction parts with
 | nil=>intro cs us r _ hl hc h;simp [evp,jh] at h;subst h;exact⟨us,rfl,hl,hc⟩
 | cons p rest ih =>
  obtain⟨i,x⟩:=p
  intro cs us r hin hl hc h
  simp only [evp,jh] at h
  cases hp:place i with
  | none=>rw [hp] at h;cases h
  | some os =>
   obtain⟨off,size⟩:=os
   rw [hp] at h
   simp only at h
   split at h
   ·rename_i e1 e2 e3
    have hr:=hin (i,x) (by simp)
    simp only at hr
    obtain⟨hz,hcx⟩:=hr.cells e2
    have e1':(cells (ev st x)).length=size:=Nat.eq_of_beq_eq_true e1
    have e3':off+(cells (ev st x)).length≤cs.length:=Nat.le_of_ble_eq_true e3
    have hf:∀j,_:=fun j=>y4 off (a.eval x).cells.toList 0 us j (by simp;omega)
    have hcond:¬((a.eval x).cells.size≠size||off+(a.eval x).cells.size>us.size)=true:=by simp;omega
    obtain⟨us',h1,h2,h3⟩:=ih (cA cs off (cells (ev st x))) (((a.eval x).cells.toList.zipIdx 0).foldl (fun (cs:Array Value) (x:Value×Nat)=>cs.setIfInBounds (off+x.2) x.1) us) r (fun p hp=>hin p (by simp [hp])) (by rw [(hf 0).1,jT,hl]) (fun j c hj=>by
     rw [qR _ _ _ _ e3'] at hj
     rw [(hf j).2]
     simp only [Nat.add_zero,Array.length_toList,hz]
     split at hj
     ·rename_i hh
      rw [if_pos hh]
      have e:(a.eval x).cells.toList.getD (j-off) undef=(a.eval x).cells.getD (j-off) undef:=by simp [cn,List.getD_eq_getElem?_getD]
      rw [e]
      exact⟨(hcx _ _ hj).one (ml e2 hj),hcx _ _ hj⟩
     ·rename_i hh
      rw [if_neg hh]
      exact hc _ _ hj) h
    refine⟨us',?_,h2,h3⟩
    simp only [List.map_cons,Instr.fill,hp]
    rw [if_neg hcond]
    have e:(a.eval x).cells.zipIdx.foldl (fun cs (x:Value×Nat)=>match x with|(c,j)=>cs.setIfInBounds (off+j) c) us=((a.eval x).cells.toList.zipIdx 0).foldl (fun (cs:Array Value) (x:Value×Nat)=>cs.setIfInBounds (off+x.2) x.1) us:=by
     rw [← Array.foldl_toList]
     simp
    rw [← e] at h1
    exact h1
   ·cases h
def AX:List (Nat×Nat×TK)→Bool
 | []=>true
 | (_,s,_)::r=>match Nat.ble 1 s with|true=>AX r|false=>false
def ot (fl:List (Nat×Nat×TK)) (i:Nat):Option (Nat×Nat):=match fl[i]? with|some (o,s,_)=>some (o,s)|none=>none
def kM (st:AS) (ti:TI) (es:Nat) (parts:List (Nat×AV)):R :=
 match ti.kind,ti.zero with
 | .struct,some z=>match AX ti.flds,eU z with
  | true,true=>match jh (ot ti.flds) (pvs z) parts with
   | some cs => .pure st (.agg cs)
   | none => .bad
  | _,_ => .bad
 | .array,some z=>match Nat.ble 1 es,eU z with
  | true,true=>match jh (fun i=>some (i*es,es)) (pvs z) parts with
   | some cs => .pure st (.agg cs)
   | none => .bad
  | _,_ => .bad
 | _,_ => .bad
theorem qT {t:TypeId} (h:(ae P t).kind = .struct):∃fs,P.underlying t=some (.struct fs):=by
 simp only [ae] at h
 revert h
 cases hu:P.underlying t with
 | none=>intro h;cases h
 | some d=>cases d<;>intro h<;>first|exact⟨_,rfl⟩|cases h
theorem AY {fl:List (Nat×Nat×TK)} (h:AX fl=true) {x:Nat×Nat×TK} (hx:x∈fl):1≤x.2.1:=by
 induction fl with
 | nil=>cases hx
 | cons y r ih =>
  obtain⟨o,s,k⟩:=y
  unfold AX at h
  cases hb:Nat.ble 1 s with
  | false=>rw [hb] at h;cases h
  | true =>
   rw [hb] at h
   rcases List.mem_cons.1 hx with rfl|hx
   ·exact Nat.le_of_ble_eq_true hb
   ·exact ih h hx
theorem qA {fs:List Field} (h:∀f,f∈fs→1≤bz P f.type):fs.mapM (fun f=>(P.info? f.type).map fun i=>(f.offset,i.size))=some (fs.map fun f=>(f.offset,bz P f.type)):=by
 induction fs with
 | nil=>rfl
 | cons f r ih =>
  obtain⟨d,i,hd,hi,hz⟩:=bB (h f (by simp))
  simp [List.mapM_cons,ih (fun g hg=>h g (by simp [hg])),hi,hz]
theorem gZ {t:TypeId} {z:List Value} (hz:(ae P t).zero=some z):∃i zv,P.info? t=some i∧i.zero=some zv∧zv.cells.toList=z:=by
 simp only [ae,Option.bind_eq_some_iff,Option.map_eq_some_iff] at hz
 obtain⟨i,hi,zv,hzv,hh⟩:=hz
 exact⟨i,zv,hi,hzv,hh⟩
theorem wq {ρ:am} {F:aA} {w:World} {z:Array Value} (h1:eU z.toList=true):z.size=(pvs z.toList).length∧∀j c,(pvs z.toList)[j]?=some c→(z.getD j undef).oneCell'=true∧Rd ρ F w c (z.getD j undef):=by
 refine⟨by simp [ls],fun j c hj=>?_⟩
 obtain⟨y,hy,rfl⟩:=xG hj
 have hy1:=qQ h1 hy
 have hy':z[j]?=some y:=by simpa using hy
 have:z.getD j undef=y:=by simp [cn,hy']
 rw [this]
 exact⟨hy1,.ofV hy1⟩
theorem AZ {o:Oper} {st:AS} {t:TypeId} {parts:Array (Nat×Operand)} (ho:o.op = .build t parts) {v:AV} {T:List Nat} {u:List (Nat×Option Blk)} {nx:Nat}
 (h:kM st (ae P t) (bz P (ae P t).elem) (evp st parts.toList) = .ok v T u nx):OpOk P o st v T u nx:=by
 have hops:∀(a:Act) (ρ:am) (F:aA) (w:World),(∀x,x∈o.op.operands.toList→Rd ρ F w (ev st x) (a.eval x))→∀p,p∈parts.toList→Rd ρ F w (ev st p.2) (a.eval p.2):=by
  intro a ρ F w hin p hp
  exact hin p.2 (by simp only [ho,Op.operands];simp;exact⟨p.1,by simpa using hp⟩)
 unfold kM at h
 split at h
 ·rename_i hk hz0
  rename_i z
  split at h
  ·rename_i hpos h1
   split at h
   ·rename_i cs hf
    simp only [R.pure,R.ok.injEq] at h
    obtain⟨rfl,rfl,rfl,rfl⟩:=h
    refine aT fun ρ F a w hin=>?_
    obtain⟨i,zv,hi,hzv,rfl⟩:=gZ hz0
    obtain⟨fs,hu⟩:=qT hk
    obtain⟨hl,hc⟩:=wq (ρ:=ρ) (F:=F) (w:=w) h1
    obtain⟨us',h2,h3,h4⟩:=r8 (a:=a) (ot (ae P t).flds) parts.toList _ _ cs (hops a ρ F w hin) hl hc hf
    have hfl:(ae P t).flds=fs.toList.map fun f=>(f.offset,bz P f.type,dF (P.underlying f.type)):=by simp [ae,nP,hu]
    have hplace:ot (ae P t).flds=fun i=>(fs.toList.map fun f=>(f.offset,bz P f.type)).toArray[i]?:=by
     funext i
     rw [hfl]
     simp only [ot,List.getElem?_map,List.getElem?_toArray,Array.getElem?_toList]
     cases fs[i]?<;>rfl
    have hb:P.built t (parts.map fun (i,x)=>(i,a.eval x)).toList=some us':=by
     unfold Program.built
     simp only [hi,hu,hzv]
     rw [qA (fun f hf=>AY hpos (x:=(f.offset,bz P f.type,dF (P.underlying f.type))) (by rw [hfl];exact List.mem_map.2 ⟨f,hf,rfl⟩))]
     simp only [Array.toList_map]
     rw [← hplace]
     exact h2
    refine⟨.agg us',?_,.agg _ _ h3 (fun j c hj=>(h4 j c hj).2)⟩
    simp only [execOp,ho,Sem.run_bind,run_build w t _ us' hb,Result.andThen_ok,Sem.run_pure]
   ·cases h
  ·cases h
 ·rename_i hk hz0
  rename_i z
  split at h
  ·rename_i hpos h1
   split at h
   ·rename_i cs hf
    simp only [R.pure,R.ok.injEq] at h
    obtain⟨rfl,rfl,rfl,rfl⟩:=h
    refine aT fun ρ F a w hin=>?_
    obtain⟨i,zv,hi,hzv,rfl⟩:=gZ hz0
    have hu:=je hk
    obtain⟨d,ie,hd,hie,hz⟩:=bB (P:=P) (t:=(ae P t).elem) (Nat.le_of_ble_eq_true hpos)
    obtain⟨hl,hc⟩:=wq (ρ:=ρ) (F:=F) (w:=w) h1
    obtain⟨us',h2,h3,h4⟩:=r8 (a:=a) (fun i=>some (i*bz P (ae P t).elem,bz P (ae P t).elem)) parts.toList _ _ cs (hops a ρ F w hin) hl hc hf
    have hb:P.built t (parts.map fun (i,x)=>(i,a.eval x)).toList=some us':=by
     unfold Program.built
     simp only [hi,hu,hzv,hie,Array.toList_map,hz]
     exact h2
    refine⟨.agg us',?_,.agg _ _ h3 (fun j c hj=>(h4 j c hj).2)⟩
    simp only [execOp,ho,Sem.run_bind,run_build w t _ us' hb,Result.andThen_ok,Sem.run_pure]
   ·cases h
  ·cases h
 ·cases h
end Go.Abs
namespace Go.Abs
set_option linter.unusedSimpArgs false
set_option linter.unusedVariables false
open Go Go.RowKit
variable {P : Program}
def ji (n:Nat):List Value→List AV
 | [z]=>List.replicate n (.p (.v z))
 | zs=>(List.replicate n (pvs zs)).flatten
theorem A0 {zs:List AV} (hz:0<zs.length):∀(n j:Nat),(List.replicate n zs).flatten[j]?=if j<n*zs.length then zs[j % zs.length]? else none:=by
 intro n
 induction n with
 | zero=>intro j;simp
 | succ n ih =>
  intro j
  rw [List.replicate_succ,List.flatten_cons,List.getElem?_append]
  by_cases hj:j<zs.length
  ·rw [if_pos hj,if_pos (by rw [Nat.succ_mul];omega),Nat.mod_eq_of_lt hj]
  ·rw [if_neg hj,ih]
   have e:(j-zs.length) % zs.length=j % zs.length:=by rw [Nat.mod_eq_sub_mod (by omega:j≥zs.length)]
   rw [e,Nat.succ_mul]
   by_cases h2:j-zs.length<n*zs.length
   ·rw [if_pos h2,if_pos (by omega)]
   ·rw [if_neg h2,if_neg (by omega)]
theorem t6 {zs:List Value} (hz:0<zs.length) (n j:Nat):(ji n zs)[j]?=if j<n*zs.length then (pvs zs)[j % zs.length]? else none:=by
 have general:(List.replicate n (pvs zs)).flatten[j]?=if j<n*zs.length then (pvs zs)[j % zs.length]? else none:=by
  have:=A0 (zs:=pvs zs) (by rw [ls];exact hz) n j
  rw [ls] at this
  exact this
 match zs,hz with
 | [z],_ =>
  simp only [ji,List.length_singleton,Nat.mul_one,Nat.mod_one,pvs,List.getElem?_cons_zero]
  rw [List.getElem?_replicate]
 | a::b::r,_=>exact general
theorem lu (zs:List Value) (n:Nat):(ji n zs).length=n*zs.length:=by
 match zs with
 | []=>simp [ji,pvs]
 | [z]=>simp [ji]
 | a::b::r=>simp [ji,List.length_flatten,ls,List.map_replicate,List.sum_replicate_nat]
theorem xK {ρ:am} {F:aA} {w:World} {z:Array Value} (h1:eU z.toList=true) (hz:0<z.size) (n:Nat) :
 (madeCells z (n*z.size)).size=(ji n z.toList).length∧∀j c,(ji n z.toList)[j]?=some c→((madeCells z (n*z.size)).getD j undef).oneCell'=true∧Rd ρ F w c ((madeCells z (n*z.size)).getD j undef):=by
 refine⟨by simp [lu,size_madeCells],fun j c hj=>?_⟩
 rw [t6 (by simpa using hz)] at hj
 split at hj
 ·rename_i hlt
  simp only [Array.length_toList] at hlt hj
  have e:(madeCells z (n*z.size)).getD j undef=z.getD (j % z.size) undef:=by
   have hm:j % z.size<z.size:=Nat.mod_lt _ hz
   simp [cn,madeCells,hlt,hm]
  rw [e]
  exact (wq h1).2 _ _ hj
 ·cases hj
theorem D0 {zs:List Value} (hz:0<zs.length) {m n j:Nat} {c:AV} (h:m≤n) (hj:(ji m zs)[j]?=some c):(ji n zs)[j]?=some c:=by
 rw [t6 hz] at hj ⊢
 split at hj
 ·rename_i hlt
  rw [if_pos (Nat.lt_of_lt_of_le hlt (Nat.mul_le_mul_right _ h))];exact hj
 ·cases hj
def ou (st:AS) (ti ei:TI):AV→AV→R
 | .p (.v (.int _ l)),.p (.v (.int _ c))=>match ti.kind,ei.zero,Nat.ble 1 ei.size with
  | .slice,some z,true=>match eU z,Nat.beq z.length ei.size with
   | true,true => .okS (0≤l∧l≤c∧(ei.bytes:Int)*c≤281474976710656∧c≤9223372036854775807) (.sl st.nx 0 l.toNat ei.size) [] [(st.nx,some ⟨ti.elem,ji l.toNat z⟩)] (st.nx+1)
   | _,_ => .bad
  | _,_,_ => .bad
 | _,_ => .bad
theorem eD (t:TypeId):(ae P t).size=bz P t:=rfl
theorem D1 {o:Oper} {st:AS} {t:TypeId} {x y:Operand} (ho:o.op = .makeSlice t x y) {s:Prop} {v:AV} {T:List Nat} {u:List (Nat×Option Blk)} {nx:Nat}
 (h:ou st (ae P t) (ae P (ae P t).elem) (ev st x) (ev st y) = .okS s v T u nx) (hs:s):OpOk P o st v T u nx:=by
 unfold ou at h
 split at h
 ·rename_i kl l kc c hx hy
  split at h
  ·rename_i hk hz0 hpos
   rename_i z
   split at h
   ·rename_i h1 hzl
    simp only [R.okS.injEq] at h
    obtain⟨rfl,rfl,rfl,rfl,rfl⟩:=h
    obtain⟨s0,s1,s2,s3⟩:=hs
    have hpos':=Nat.le_of_ble_eq_true hpos
    obtain⟨i,zv,hi,hzv,rfl⟩:=gZ hz0
    obtain⟨d,i',hd,hi',hz⟩:=bB (P:=P) (t:=(ae P t).elem) hpos'
    rw [hi] at hi';cases hi'
    have hzs:zv.cells.size=i.size:=by rw [hz,←eD];simpa using Nat.eq_of_beq_eq_true hzl
    refine⟨?_,Nat.le_succ _,fun j hj=>?_,fun j hj=>by simp at hj⟩
    ·intro ρ F a w hpre hin K Q hK
     have hrx:=hin x (by simp [ho,Op.operands])
     have hry:=hin y (by simp [ho,Op.operands])
     rw [hx] at hrx;rw [hy] at hry
     have hid:=hpre.fresh st.nx (by simp [keys]) (by simp)
     have hby:(ae P (ae P t).elem).bytes=i.bytes:=by show ((P.info? (ae P t).elem).map (·.bytes)).getD 0=i.bytes;rw [hi];rfl
     rw [hby] at s2
     have hrun:=run_make (P:=P) w t (ae P t).elem i zv (bR hk) hi hzv kl kc l c s0 s1 s2 s3
     obtain⟨hl,hc⟩:=xK (ρ:=ρ) (F:=F) (w:=w) h1 (by rw [hzs,hz];exact hpos') c.toNat
     unfold Oper.wp
     have hex:(execOp a.eval o).run P w = .ok (.value (.slice (some ⟨w.heap.size,0,none⟩) l.toNat c.toNat)) (w.alloc (.cells (madeCells zv.cells (c.toNat*i.size)) (ae P t).elem)):=by
      simp only [execOp,ho,hrx.pv,hry.pv,Sem.run_bind,hrun,Result.andThen_ok,Sem.run_pure]
     rw [hex,←hzs]
     have hzp:0<zv.cells.toList.length:=by rw [Array.length_toList,hzs,hz];exact hpos'
     have hlc:l.toNat≤c.toNat:=by omega
     refine hK _ _ F _ (Post.newBlk hpre.fok hid (by rw [hl,lu,lu];exact Nat.mul_le_mul_right _ hlc) (fun j c hj=>hc j c (D0 hzp hlc hj)) rfl rfl rfl rfl (.sl _ _ _ _ w.heap.size c.toNat (by simp [c5]) (by omega) ?_))
     refine⟨_,_,_,heap_alloc_new w _,?_⟩
     simp only [size_madeCells,eD,←hz,hzs];omega
    ·simp [keys] at hj;subst hj;exact .inr ⟨Nat.le_refl _,Nat.lt_succ_self _⟩
   ·cases h
  ·cases h
 ·cases h
def eY (st:AS) (ti ei:TI) (len:Nat) (parts:List (Nat×AV)):R :=
 match ti.kind,ei.zero,Nat.ble 1 ei.size with
 | .slice,some z,true=>match eU z,Nat.beq z.length ei.size,Nat.ble (len*ei.size) 16777216 with
  | true,true,true=>match jh (fun i=>some (i*ei.size,ei.size)) (ji len z) parts with
   | some cs => .ok (.sl st.nx 0 len ei.size) [] [(st.nx,some ⟨ti.elem,cs⟩)] (st.nx+1)
   | none => .bad
  | _,_,_ => .bad
 | _,_,_ => .bad
theorem t7 {o:Oper} {st:AS} {t:TypeId} {len:Nat} {parts:Array (Nat×Operand)} (ho:o.op = .buildSlice t len parts) {v:AV} {T:List Nat} {u:List (Nat×Option Blk)} {nx:Nat}
 (h:eY st (ae P t) (ae P (ae P t).elem) len (evp st parts.toList) = .ok v T u nx):OpOk P o st v T u nx:=by
 unfold eY at h
 split at h
 ·rename_i hk hz0 hpos
  rename_i z
  split at h
  ·rename_i h1 hzl hsm
   split at h
   ·rename_i cs hf
    simp only [R.ok.injEq] at h
    obtain⟨rfl,rfl,rfl,rfl⟩:=h
    have hpos':=Nat.le_of_ble_eq_true hpos
    obtain⟨i,zv,hi,hzv,rfl⟩:=gZ hz0
    obtain⟨d,i',hd,hi',hz⟩:=bB (P:=P) (t:=(ae P t).elem) hpos'
    rw [hi] at hi';cases hi'
    have hzs:zv.cells.size=i.size:=by rw [hz,←eD];simpa using Nat.eq_of_beq_eq_true hzl
    have hsz:(ae P (ae P t).elem).size=i.size:=by rw [eD,hz]
    have hsm':len*i.size≤16777216:=by rw [← hsz];exact Nat.le_of_ble_eq_true hsm
    refine⟨?_,Nat.le_succ _,fun j hj=>?_,fun j hj=>by simp at hj⟩
    ·intro ρ F a w hpre hin K Q hK
     have hid:=hpre.fresh st.nx (by simp [keys]) (by simp)
     obtain⟨hl,hc⟩:=xK (ρ:=ρ) (F:=F) (w:=w) h1 (by rw [hzs,←hsz];exact hpos') len
     have hops:∀p,p∈parts.toList→Rd ρ F w (ev st p.2) (a.eval p.2):=fun p hp=>hin p.2 (by simp only [ho,Op.operands];simp;exact⟨p.1,by simpa using hp⟩)
     obtain⟨us',h2,h3,h4⟩:=r8 (a:=a) (fun i=>some (i*(ae P (ae P t).elem).size,(ae P (ae P t).elem).size)) parts.toList _ _ cs hops hl hc hf
     unfold Oper.wp
     have hex:(execOp a.eval o).run P w = .ok (.value (.slice (some ⟨w.heap.size,0,none⟩) len len)) (w.alloc (.cells us' (ae P t).elem)):=by
      have hmade:madeCells zv.cells (len*zv.cells.size)=(Array.range (len*i.size)).map ((if len*i.size=0 then #[] else zv.cells)[· % (if len*i.size=0 then #[] else zv.cells).size]!):=by
       rw [hzs]
       by_cases h0:len*i.size=0
       ·rw [h0];simp [madeCells]
       ·rw [if_neg h0];rfl
      rw [hmade,hsz] at h2
      have hno:¬(16777216<len*i.size):=by omega
      by_cases h0:len*i.size=0
      ·rw [if_pos h0] at h2
       simp only [execOp,ho,Instr.buildSlice,Sem.run_bind,run_underlying (bR hk),Result.andThen_ok,sizeOf,typeInfo,run_program,hi,Sem.run_pure]
       simp [hno,h0]
       rw [h0] at h2
       simp at h2
       simp [h2,newRow]
      ·rw [if_neg h0] at h2
       simp only [execOp,ho,Instr.buildSlice,Sem.run_bind,run_underlying (bR hk),Result.andThen_ok,sizeOf,typeInfo,run_program,hi,Sem.run_pure]
       simp [hno,h0,zeroValue,typeInfo,hi,hzv]
       simp at h2
       simp [h2,newRow]
     rw [hex]
     refine hK _ _ F _ (Post.newBlk hpre.fok hid (by omega) h4 rfl rfl rfl rfl (.sl _ _ _ _ w.heap.size len (by simp [c5]) (Nat.le_refl _) ?_))
     refine⟨_,_,_,heap_alloc_new w _,?_⟩
     have hcl:cs.length=(ji len zv.cells.toList).length:=by
      have key:∀(place:Nat→Option (Nat×Nat)) (parts:List (Nat×AV)) (cs r:List AV),jh place cs parts=some r→r.length=cs.length:=by
       intro place parts
       induction parts with
       | nil=>intro cs r h;simp [jh] at h;subst h;rfl
       | cons p rest ih =>
        obtain⟨i,x⟩:=p
        intro cs r h
        simp only [jh] at h
        split at h
        ·split at h
         ·rw [ih _ _ h,jT]
         ·cases h
        ·cases h
      exact key _ _ _ _ hf
     rw [h3,hcl,lu,hsz];simp [hzs]
    ·simp [keys] at hj;subst hj;exact .inr ⟨Nat.le_refl _,Nat.lt_succ_self _⟩
   ·cases h
  ·cases h
 ·cases h
end Go.Abs
namespace Go.Abs
set_option linter.unusedSimpArgs false
set_option linter.unusedVariables false
open Go Go.RowKit
variable {P : Program}
inductive Src where
 | some (n:Nat) (cs:List AV) (T:List Nat) (side:Prop)
 | none
def jk (st:AS) (es:Nat):AV→Src
 | .p (.data s n cs)=>match Nat.beq s es with|true => .some n (cs.map .p) [] True|false => .none
 | .p (.v (.slice Option.none 0 0)) => .some 0 [] [] True
 | .p (.v (.slice (Option.some _) 0 _)) => .some 0 [] [] True
 | .p (.v (.string s))=>match Nat.beq es 1 with|true => .some s.size ((s.data.toList.map bt).map .p) [] True|false => .none
 | .sl id off n s=>match Nat.beq s es,Nat.blt id st.nx,hget st.hp id with
  | true,true,Option.some b => .some n ((b.cs.drop off).take (n*s)) [id] (off+n*s≤b.cs.length)
  | _,_,_ => .none
 | _ => .none
structure SrcV (w:World) (es n:Nat) (us:List Value) (u:Value):Prop where
 len:∀(P:Program) w',(Builtin.lenOf u).run P w' = .ok n w'
 first:∀(P:Program) (w':World),w'.cell?=w.cell?→(Builtin.firstCells es n u).run P w' = .ok us.toArray w'
 part:∀(P:Program) (m:Nat),m≤n→(Builtin.firstCells es m u).run P w = .ok (us.take (m*es)).toArray w
theorem SrcV.slice {w:World} {es n c:Nat} {us:List Value} {A:Option Addr} (hl:us.length=n*es) (hA:A=none→n=0) (hc:∀ad,A=some ad→∀j v,us[j]?=some v→w.cell? (ad.add j)=some v):SrcV w es n us (.slice A n c):=by
 refine⟨fun P w'=>by simp [Builtin.lenOf],fun P w' hw'=>?_,fun P m hm=>?_⟩
 ·cases A with
  | none =>
   have hm:=hA rfl
   subst hm
   have:us=[]:=List.eq_nil_of_length_eq_zero (by simpa using hl)
   subst this
   simp [Builtin.firstCells]
  | some ad=>exact run_firstCells_some (P:=P) w' es n ad n c us hl (by rw [hw'];exact hc ad rfl)
 ·cases A with
  | none =>
   have hm:=hA rfl
   subst hm
   have:us=[]:=List.eq_nil_of_length_eq_zero (by simpa using hl)
   subst this
   simp [Builtin.firstCells]
  | some ad =>
   have hle:m*es≤n*es:=Nat.mul_le_mul_right es hm
   refine run_firstCells_some (P:=P) w es m ad n c (us.take (m*es)) (by rw [List.length_take,hl];omega) (fun j v hj=>hc ad rfl j v ?_)
   rw [List.getElem?_take] at hj
   split at hj
   ·exact hj
   ·cases hj
theorem SrcV.str {w:World} (s:ByteArray):SrcV w 1 s.size (s.data.toList.map fun b=>Value.int .u8 (b.toNat:Int)) (.string s) :=
 ⟨fun P w'=>by simp [Builtin.lenOf],fun P w' _=>Lib.run_firstCells_string (P:=P) w' 1 s,fun P m hm=>by
  simp only [Builtin.firstCells,Sem.run_pure,Result.ok.injEq,and_true]
  apply Array.ext'
  simp [ByteArray.data_extract,List.map_take]⟩
structure FX (ρ:am) (F:aA) (w:World) (es n:Nat) (cs:List AV) (u:Value):Prop where
 len:cs.length=n*es
 rd:∃(us:List Value),SrcV w es n us u∧us.length=cs.length∧∀j x,cs[j]?=some x→(us.getD j undef).oneCell'=true∧Rd ρ F w x (us.getD j undef)
theorem ov {st:AS} {es n:Nat} {x:AV} {cs:List AV} {T:List Nat} {side:Prop} (h:jk st es x = .some n cs T side) (hs:side) (hes:1≤es) :
 (∀i,i∈T→hget st.hp i≠none∧i<st.nx)∧∀{ρ:am} {F:aA} {w:World} {u:Value} {T':List Nat},(∀i,i∈T→i∈T')→HpOk ρ F w (restr T' (hget st.hp))→Rd ρ F w x u→FX ρ F w es n cs u:=by
 have mk:∀{ρ:am} {F:aA} {w:World} (b off n cap:Nat) (cs:List AV) (f:Nat→Value),cs.length=n*es→(∀j,j<cs.length→w.cell? ⟨b,off+j,none⟩=some (f j)) →
  (∀j x,cs[j]?=some x→(f j).oneCell'=true∧Rd ρ F w x (f j))→FX ρ F w es n cs (.slice (some ⟨b,off,none⟩) n cap):=by
  intro ρ F w b off n cap cs f hl hc hr
  refine⟨hl,(List.range cs.length).map f,SrcV.slice (by simpa using hl) (by simp) (fun ad e j v hv=>?_),by simp,fun j x hx=>?_⟩
  ·cases e
   simp only [List.getElem?_map,Option.map_eq_some_iff] at hv
   obtain⟨q,hq,rfl⟩:=hv
   have hjl:j<cs.length:=by
    rcases Nat.lt_or_ge j cs.length with h1|h1
    ·exact h1
    ·rw [List.getElem?_eq_none (by simpa using h1)] at hq;cases hq
   rw [List.getElem?_range hjl] at hq
   cases hq
   rw [cE];exact hc j hjl
  ·have hjl:j<cs.length:=(List.getElem?_eq_some_iff.1 hx).1
   have:((List.range cs.length).map f).getD j undef=f j:=by simp [List.getD_eq_getElem?_getD,hjl]
   rw [this]
   exact hr j x hx
 unfold jk at h
 split at h
 ·rename_i s n' cs'
  split at h
  ·rename_i hb
   simp only [Src.some.injEq] at h
   obtain⟨rfl,rfl,rfl,rfl⟩:=h
   refine⟨fun i hi=>by simp at hi,fun {ρ F w u T'} _ _ hr=>?_⟩
   have hse:=Nat.eq_of_beq_eq_true hb
   subst hse
   rcases hr.dataInv with ⟨rfl,rfl,A,cap,rfl⟩|⟨b,off,cap,f,rfl,hl,hcap,hF,hc,h1c,hrc⟩
   ·exact⟨by simp,[],SrcV.slice (by simp) (fun _=>rfl) (fun ad e j v hv=>by simp at hv),rfl,fun j x hx=>by simp at hx⟩
   ·refine mk b off n' cap _ f (by simpa using hl) (fun j hj=>hc j (by simpa using hj)) (fun j x hx=>?_)
    simp only [List.getElem?_map,Option.map_eq_some_iff] at hx
    obtain⟨y,hy,rfl⟩:=hx
    exact⟨h1c j (List.getElem?_eq_some_iff.1 hy).1,.p _ _ (hrc j y hy)⟩
  ·cases h
 ·simp only [Src.some.injEq] at h
  obtain⟨rfl,rfl,rfl,rfl⟩:=h
  refine⟨fun i hi=>by simp at hi,fun {ρ F w u T'} _ _ hr=>?_⟩
  have:=hr.pv
  subst this
  exact⟨by simp,[],SrcV.slice (by simp) (fun _=>rfl) (fun ad e j v hv=>by simp at hv),rfl,fun j x hx=>by simp at hx⟩
 ·simp only [Src.some.injEq] at h
  obtain⟨rfl,rfl,rfl,rfl⟩:=h
  refine⟨fun i hi=>by simp at hi,fun {ρ F w u T'} _ _ hr=>?_⟩
  have:=hr.pv
  subst this
  exact⟨by simp,[],SrcV.slice (by simp) (fun _=>rfl) (fun ad e j v hv=>by simp at hv),rfl,fun j x hx=>by simp at hx⟩
 ·rename_i s
  split at h
  ·rename_i hb
   simp only [Src.some.injEq] at h
   obtain⟨rfl,rfl,rfl,rfl⟩:=h
   have hse:=Nat.eq_of_beq_eq_true hb
   subst hse
   refine⟨fun i hi=>by simp at hi,fun {ρ F w u T'} _ _ hr=>?_⟩
   have:=hr.pv
   subst this
   refine⟨by simp only [List.length_map,Nat.mul_one,Array.length_toList];rfl,_,SrcV.str s,by simp,fun j x hx=>?_⟩
   simp only [List.getElem?_map,Option.map_eq_some_iff] at hx
   obtain⟨_,⟨y,hy,rfl⟩,rfl⟩:=hx
   have e:(s.data.toList.map fun b=>Value.int .u8 (b.toNat:Int)).getD j undef = .int .u8 (y.toNat:Int):=by simp [List.getD_eq_getElem?_getD,hy]
   rw [e]
   exact⟨rfl,.p _ _ (.v _ rfl)⟩
  ·cases h
 ·rename_i id off n' s
  split at h
  ·rename_i hb hblt hbl
   rename_i b
   simp only [Src.some.injEq] at h
   obtain⟨rfl,rfl,rfl,rfl⟩:=h
   have hse:=Nat.eq_of_beq_eq_true hb
   subst hse
   refine⟨fun i hi=>by simp at hi;subst hi;exact⟨by rw [hbl];simp,by simpa [Nat.blt_eq] using hblt⟩,fun {ρ F w u T'} hT hp hr=>?_⟩
   have hlen:((b.cs.drop off).take (n'*s)).length=n'*s:=by simp;omega
   rcases hr.slInv with ⟨rfl,A,rfl⟩|⟨bb,cap,hb',rfl,hcap,hc⟩
   ·simp only [Nat.zero_mul,List.take_zero]
    exact⟨by simp,[],SrcV.slice (by simp) (fun _=>rfl) (fun ad e j v hv=>by simp at hv),rfl,fun j x hx=>by simp at hx⟩
   ·rcases hp.ok id b (by simp [restr,hT id (by simp),hbl]) with ⟨_,h0⟩|⟨b2,hb2,hblk⟩
    ·rw [h0] at hb';cases hb'
    rw [hb'] at hb2;cases hb2
    obtain⟨arr,fr,ha,hfr,hln,hcells⟩:=hblk.is (.inr ⟨_,hc⟩)
    refine mk bb off n' cap _ (fun j=>arr.getD (off+j) undef) hlen (fun j hj=>gF ha (by rw [hlen] at hj;omega)) (fun j x hx=>?_)
    rw [List.getElem?_take] at hx
    split at hx
    ·exact hcells (off+j) x (by simpa using hx)
    ·cases hx
  ·cases h
 ·cases h
theorem wt (w:World) (t ty e:TypeId) (i:TypeInfo) (ht:P.underlying t=some (.slice e)) (hi:P.info? e=some i) (g sLen sCap:Nat) (cur:Array Value) (fr:Nat×Nat) (hg:w.heap[g]?=some (.cells cur e fr)) (hfr:FrOk fr cur.size)
 (t':TypeId) (dt:TypeDesc) (hdt:P.underlying t'=some dt) (hni:∀k,dt ≠ .int k) (y:Value) (m:Nat) (news:List Value) (hl:news.length=m*i.size) (hnews:SrcV w i.size m news y) (h1:∀u∈news,u.oneCell'=true) (hroom:sLen+m≤sCap) (hfit:sLen*i.size+news.length≤cur.size) :
 (Builtin.append_ #[t,t'] ty #[.slice (some ⟨g,0,none⟩) sLen sCap,y]).run P w = .ok (.slice (some ⟨g,0,none⟩) (sLen+m) sCap) (w.setRow g (cur.toList.take (sLen*i.size)++news++cur.toList.drop (sLen*i.size+news.length)).toArray):=by
 have hf:=hnews.first P w rfl
 have hlen:=hnews.len P
 have hz:(dt matches .int _)=false:=by cases dt<;>first|rfl|exact absurd rfl (hni _)
 have hst:=ft (P:=P) g (sLen*i.size) e fr news 0 cur w hg hfr (by simpa using hfit) h1
 simp only [Nat.add_zero] at hst
 simp [Builtin.append_,run_underlying ht,run_underlying hdt,hz,sizeOf,typeInfo,hi,hlen,hroom,hf,Addr.add_lit,hst]
def eL (st:AS) (ti ei:TI) (dst:AV):Src→R
 | .some m cs T side=>match ti.kind,ei.zero,Nat.ble 1 ei.size with
  | .slice,some z,true=>match Nat.beq z.length ei.size,dst with
   | true,.p (.v (.slice none 0 0)) => .okS (side∧m*ei.bytes≤140737488355328∧m≤9223372036854775807) (.sl st.nx 0 m ei.size) T [(st.nx,some ⟨ti.elem,cs⟩)] (st.nx+1)
   | true,.sl id 0 n s=>match Nat.beq s ei.size,Nat.blt id st.nx,hget st.hp id with
    | true,true,some b => .okS (side∧b.t=ti.elem∧b.cs.length=n*s∧(n+m)*ei.bytes≤140737488355328∧n+m≤9223372036854775807) (.sl st.nx 0 (n+m) s) (id::T) [(st.nx,some ⟨ti.elem,b.cs++cs⟩),(id,none)] (st.nx+1)
    | _,_,_ => .bad
   | _,_ => .bad
  | _,_,_ => .bad
 | .none => .bad
theorem gc {t ty e:TypeId} {i:TypeInfo} {z:Value} (ht:P.underlying t=some (.slice e)) (hi:P.info? e=some i) (hz:i.zero=some z) {A:Option Addr} {n cap:Nat} {olds:List Value}
 {t':TypeId} {dt:TypeDesc} (hdt:P.underlying t'=some dt) (hni:∀k,dt ≠ .int k) {y:Value} {m:Nat} {news:List Value} {w:World} (hlo:olds.length=n*i.size) (holds:∀ad,A=some ad→∀j v,olds[j]?=some v→w.cell? (ad.add j)=some v) (hA:A=none→n=0)
 (hl:news.length=m*i.size) (hnews:SrcV w i.size m news y)
 (h63:n+m≤9223372036854775807) (hb:(n+m)*i.bytes≤140737488355328) :
 (cap<n+m→(Builtin.append_ #[t,t'] ty #[.slice A n cap,y]).run P w =
  .ok (.slice (some ⟨w.heap.size,0,none⟩) (n+m) (grownCap w (n+m) cap e)) (w.drew.alloc (.cells (olds.toArray++news.toArray++Builtin.zeroCells z.cells (grownCap w (n+m) cap e-(n+m))) e))) ∧
 (n+m≤cap→m=0→(Builtin.append_ #[t,t'] ty #[.slice A n cap,y]).run P w = .ok (.slice A n cap) w):=by
 have hf0:=hnews.first P
 have hlen:=hnews.len P
 have hz0:(dt matches .int _)=false:=by cases dt<;>first|rfl|exact absurd rfl (hni _)
 have hf1:∀(w':World),w'.cell?=w.cell?→(Builtin.firstCells i.size n (.slice A n cap)).run P w' = .ok olds.toArray w':=by
  intro w' hw'
  cases A with
  | none =>
   have hm:=hA rfl
   subst hm
   have:olds=[]:=List.eq_nil_of_length_eq_zero (by simpa using hlo)
   subst this
   simp [Builtin.firstCells]
  | some ad=>exact run_firstCells_some (P:=P) w' i.size n ad n cap olds hlo (by rw [hw'];exact holds ad rfl)
 refine⟨fun hg=>?_,fun hle hm=>?_⟩
 ·have hn:¬(n+m≤cap):=by omega
  have h63':¬(9223372036854775807<((n:Int)+(m:Int))):=by omega
  have h48:=growslice_fits (need:=n+m) (old:=cap) (bytes:=i.bytes) hg hb
  have h48':¬(281474976710656<Builtin.nextslicecap (n+m) cap*i.bytes):=by omega
  have e0:=hf0 w.drew rfl
  have e1:=hf1 w.drew rfl
  simp [Builtin.append_,run_underlying ht,run_underlying hdt,hz0,sizeOf,typeInfo,zeroValue,hi,hz,hlen,hn,h63',h48',Question.forced,e0,e1,newRow,grownCap]
  congr 2
  apply Array.ext'
  simp [List.append_assoc]
 ·subst hm
  have hnil:news=[]:=List.eq_nil_of_length_eq_zero (by simpa using hl)
  subst hnil
  have e0:=hf0 w rfl
  have hle':n≤cap:=by omega
  cases A with
  | none=>simp [Builtin.append_,run_underlying ht,run_underlying hdt,hz0,sizeOf,typeInfo,hi,hlen,hle',e0]
  | some ad=>simp [Builtin.append_,run_underlying ht,run_underlying hdt,hz0,sizeOf,typeInfo,hi,hlen,hle',e0,storeCells]
theorem Post.widen {ρ:am} {F:aA} {w:World} {T0 T:List Nat} {u:List (Nat×Option Blk)} {h:ba} {v:AV} {x:Value} {ρ':am} {F':aA} {w':World}
 (hp:Post ρ F w T0 u h v x ρ' F' w') (hH:HpOk ρ F w (restr T h)) (hf:FOk F w) (hfr:∀i,i∈keys u→i∉T0→ρ i=none) (hsub:∀i,i∈T0→i∈T) (hl:∀i,i∈T0→h i≠none) :
 Post ρ F w T u h v x ρ' F' w':=by
 have e0:restr (T0++keys u) (updH u (restr T h))=restr (T0++keys u) (updH u h):=by
  funext i
  unfold restr updH
  by_cases hk:i∈keys u
  ·simp [hk]
  ·by_cases hT:i∈T0
   ·simp [hk,hT,hsub i hT]
   ·simp [hk,hT]
 have hp':Post ρ F w T0 u (restr T h) v x ρ' F' w':=⟨hp.rho,hp.new,hp.blk,hp.rd,by rw [e0];exact hp.hp,hp.fok,hp.chg⟩
 have:=Post.frame hH hf hfr (fun i hi=>by simp [restr,hsub i hi,hl i hi]) hp'
 refine⟨hp.rho,hp.new,hp.blk,hp.rd,?_,hp.fok,hp.chg⟩
 have e:restr (T++keys u) (updH u h)=updH u (restr T h):=by
  funext i
  unfold restr updH
  by_cases hk:i∈keys u
  ·simp [hk]
  ·by_cases hT:i∈T<;>simp [hk,hT]
 rw [e]
 exact this
theorem Post.del {ρ:am} {F:aA} {w:World} {T:List Nat} {u:List (Nat×Option Blk)} {h:ba} {v:AV} {x:Value} {ρ':am} {F':aA} {w':World} {id:Nat}
 (hp:Post ρ F w T u h v x ρ' F' w') (hid:id∉keys u):Post ρ F w T (u++[(id,none)]) h v x ρ' F' w':=by
 have hk:∀i,i∈keys (u++[(id,none)])↔i∈keys u∨i=id:=fun i=>by simp [keys]
 have hO:∀b,OSet ρ (keys u) b→OSet ρ (keys (u++[(id,none)])) b:=fun b ⟨i,hi,hb⟩=>⟨i,(hk i).2 (.inl hi),hb⟩
 have hsub:∀i k,restr (T++keys (u++[(id,none)])) (updH (u++[(id,none)]) h) i=some k→restr (T++keys u) (updH u h) i=some k:=by
  intro i k hi
  obtain⟨hm,hv⟩:=aJ hi
  unfold updH at hv
  by_cases hi':i=id
  ·subst hi'
   rw [if_pos ((hk _).2 (.inr rfl)),co] at hv
   simp only [updH,if_neg hid] at hv
   simp [hget] at hv
  ·have hm':i∈T++keys u:=by
    rcases List.mem_append.1 hm with h1|h1
    ·exact List.mem_append_left _ h1
    ·rcases (hk i).1 h1 with h2|h2
     ·exact List.mem_append_right _ h2
     ·exact absurd h2 hi'
   simp only [restr,if_pos hm',updH]
   by_cases hu:i∈keys u
   ·rw [if_pos ((hk i).2 (.inl hu)),co] at hv
    simp only [updH,if_pos hu] at hv
    simp [hu,hv]
   ·rw [if_neg (fun hh=>by rcases (hk i).1 hh with h2|h2;exact hu h2;exact hi' h2)] at hv
    simp [hu,hv]
 refine⟨hp.rho,fun i h1 h2=>(hk i).2 (.inl (hp.new i h1 h2)),fun i b h1 h2=>(hp.blk i b h1 h2).imp (fun h=>h) (hO b),hp.rd,⟨fun i k hi=>hp.hp.ok i k (hsub i k hi),fun i j b hi hj h1 h2=>hp.hp.inj i j b ?_ ?_ h1 h2⟩,hp.fok,hp.chg.mono hO⟩
 ·obtain⟨k,hk'⟩:=Option.ne_none_iff_exists'.1 hi;rw [hsub i k hk'];simp
 ·obtain⟨k,hk'⟩:=Option.ne_none_iff_exists'.1 hj;rw [hsub j k hk'];simp
theorem Post.moveBlk {ρ:am} {F:aA} {w:World} {id nid b:Nat} {t:TypeId} {cs:List AV} {arr arr':Array Value} {h:ba} {v:AV} {x:Value}
 (hf:FOk F w) (hF:¬F b) (hid:ρ id=some b) (hn:ρ nid=none) {fr:Nat×Nat} (ha:w.heap[b]?=some (.cells arr t fr)) (hfr:FrOk fr arr.size) (hz:arr'.size=arr.size) (hl:cs.length≤arr'.size)
 (hc:∀j c,cs[j]?=some c→(arr'.getD j undef).oneCell'=true∧Rd ρ F w c (arr'.getD j undef))
 (hv:Rd (c5 ρ nid b) F w v x):Post ρ F w [id] [(nid,some ⟨t,cs⟩),(id,none)] h v x (c5 ρ nid b) F (w.setRow b arr'):=by
 have hne:nid≠id:=fun e=>by subst e;rw [hn] at hid;cases hid
 have hO:OSet ρ (keys [(nid,some (⟨t,cs⟩:Blk)),(id,none)]) b:=⟨id,by simp [keys],hid⟩
 have hchg:=nl ha hz (OSet ρ (keys [(nid,some (⟨t,cs⟩:Blk)),(id,none)])) F hO
 have hsame:∀k,F k→(w.setRow b arr').heap[k]?=w.heap[k]?:=fun k hk=>setRow_other w b k arr' (fun e=>hF (e ▸ hk))
 have hrho:∀i b',ρ i=some b'→c5 ρ nid b i=some b':=fun i b' hb=>by
  unfold c5;split
  ·subst_vars;rw [hn] at hb;cases hb
  ·exact hb
 refine⟨hrho,fun i h1 h2=>?_,fun i b' h1 h2=>?_,hv.mono (fun _ _ h=>h) (fun _ h=>h) hsame hchg.cells,⟨fun i k hk=>?_,fun i j c hi hj _ _=>?_⟩,fun k hk=>Nat.lt_of_lt_of_le (hf k hk) hchg.size,hchg⟩
 ·unfold c5 at h2;split at h2
  ·subst_vars;simp [keys]
  ·exact absurd h1 h2
 ·unfold c5 at h2;split at h2
  ·cases h2;exact .inr hO
  ·rw [h1] at h2;cases h2
 ·obtain⟨hi,hk⟩:=aJ hk
  have hi':i=nid∨i=id:=by simp [keys] at hi;omega
  rcases hi' with rfl|rfl
  ·simp [updH,keys,hget] at hk
   subst hk
   exact .inr ⟨b,by simp [c5],⟨hF,.inl ⟨arr',_,setRow_heap w b arr arr' t _ ha,by rw [hz];exact hfr,hl,fun j c hj=>⟨(hc j c hj).1,(hc j c hj).2.mono hrho (fun _ h=>h) hsame hchg.cells⟩⟩⟩⟩
  ·simp [updH,keys,hget,dm hne] at hk
 ·have key:∀i,restr ([id]++keys [(nid,some (⟨t,cs⟩:Blk)),(id,none)]) (updH [(nid,some ⟨t,cs⟩),(id,none)] h) i≠none→i=nid:=fun i hi=>by
   obtain⟨k,hk⟩:=Option.ne_none_iff_exists'.1 hi
   obtain⟨hi,hk⟩:=aJ hk
   have hi':i=nid∨i=id:=by simp [keys] at hi;omega
   rcases hi' with rfl|rfl
   ·rfl
   ·simp [updH,keys,hget,dm hne] at hk
  rw [key i hi,key j hj]
theorem xL {ρ:am} {F:aA} {w:World} {xs ys:List AV} {us vs:List Value} {zs:Array Value} (h1:us.length=xs.length) (h2:vs.length=ys.length)
 (hx:∀j c,xs[j]?=some c→(us.getD j undef).oneCell'=true∧Rd ρ F w c (us.getD j undef)) (hy:∀j c,ys[j]?=some c→(vs.getD j undef).oneCell'=true∧Rd ρ F w c (vs.getD j undef)) :
 (xs++ys).length≤(us.toArray++vs.toArray++zs).size∧∀j c,(xs++ys)[j]?=some c→((us.toArray++vs.toArray++zs).getD j undef).oneCell'=true∧Rd ρ F w c ((us.toArray++vs.toArray++zs).getD j undef):=by
 refine⟨by simp;omega,fun j c hj=>?_⟩
 have hjl:j<(xs++ys).length:=(List.getElem?_eq_some_iff.1 hj).1
 simp only [List.length_append] at hjl
 have e:(us.toArray++vs.toArray++zs).getD j undef=if j<xs.length then us.getD j undef else vs.getD (j-xs.length) undef:=by
  simp only [cn,Array.getElem?_append,Array.size_append,List.size_toArray,List.getElem?_toArray,List.getD_eq_getElem?_getD,h1,h2]
  by_cases hlt:j<xs.length
  ·simp [hlt,show j<xs.length+ys.length by omega]
  ·simp [hlt,show j<xs.length+ys.length by omega]
 rw [e]
 rw [List.getElem?_append] at hj
 split at hj
 ·rename_i hlt;rw [if_pos hlt];exact hx j c hj
 ·rename_i hlt;rw [if_neg hlt];exact hy _ c hj
theorem y5 {o:Oper} {st:AS} {t t':TypeId} {x y:Operand} (ho:o.op = .call ⟨.builtin .append,#[x,y],#[t,t']⟩) {dt:TypeDesc} (hdt:P.underlying t'=some dt) (hni:∀k,dt ≠ .int k) {s:Prop} {v:AV} {T:List Nat} {u:List (Nat×Option Blk)} {nx:Nat}
 (h:eL st (ae P t) (ae P (ae P t).elem) (ev st x) (jk st (ae P (ae P t).elem).size (ev st y)) = .okS s v T u nx) (hs:s):OpOk P o st v T u nx:=by
 cases hsrc:jk st (ae P (ae P t).elem).size (ev st y) with
 | none=>rw [hsrc] at h;simp [eL] at h
 | some m cs T0 side =>
  rw [hsrc] at h
  simp only [eL] at h
  split at h
  ·rename_i hk hz0 hpos
   rename_i z
   have hpos':=Nat.le_of_ble_eq_true hpos
   obtain⟨i,zv,hi,hzv,rfl⟩:=gZ hz0
   obtain⟨d,i',hd,hi',hz⟩:=bB (P:=P) (t:=(ae P t).elem) hpos'
   rw [hi] at hi';cases hi'
   have hsz:(ae P (ae P t).elem).size=i.size:=by rw [eD,hz]
   have hby:(ae P (ae P t).elem).bytes=i.bytes:=by show ((P.info? (ae P t).elem).map (·.bytes)).getD 0=i.bytes;rw [hi];rfl
   have ht:=bR hk
   split at h
   ·
    rename_i hzl hx
    simp only [R.okS.injEq] at h
    obtain⟨rfl,rfl,rfl,rfl,rfl⟩:=h
    obtain⟨hside,hb,h63⟩:=hs
    rw [hby] at hb
    obtain⟨hlive,hok⟩:=ov hsrc hside hpos'
    refine⟨?_,Nat.le_succ _,fun j hj=>?_,fun j hj=>(hlive j hj).1⟩
    ·intro ρ F a w hpre hin K Q hK
     have hrx:=hin x (by simp [ho,Op.operands,Call.operands])
     have hry:=hin y (by simp [ho,Op.operands,Call.operands])
     rw [hx] at hrx
     obtain⟨hlen,us,hyv,hul,hrd⟩:=hok (T':=T0) (fun _ h=>h) hpre.hp hry
     rw [hsz] at hlen hyv
     have hnT:st.nx∉T0:=fun hm=>Nat.lt_irrefl _ (hlive _ hm).2
     have hid:=hpre.fresh st.nx (by simp [keys]) hnT
     obtain⟨hgrow,hstay⟩:=gc (P:=P) (ty:=o.type) (A:=none) (n:=0) (cap:=0) (olds:=[]) (m:=m) (news:=us) (w:=w) ht hi hzv hdt hni (by simp) (fun ad e=>by cases e) (fun _=>rfl) (by omega) hyv (by omega) (by simpa using hb)
     unfold Oper.wp
     have hpref:∀r,(Builtin.append_ #[t,t'] o.type #[.slice none 0 0,a.eval y]).run P w=r→(execOp a.eval o).run P w=r.andThen fun v w => .ok (.value v) w:=by
      intro r hr
      simp only [execOp,ho,resolve,invoke,builtin,Sem.run_bind,Sem.run_pure,Result.andThen_ok,List.map_toArray,List.map_cons,List.map_nil,hrx.pv,hr]
     by_cases hm:m=0
     ·subst hm
      have hcs:cs=[]:=List.eq_nil_of_length_eq_zero (by simpa using hlen)
      subst hcs
      rw [hpref _ (hstay (by omega) rfl)]
      refine hK _ ρ F w ⟨fun _ _ h=>h,fun i h1 h2=>absurd h1 h2,fun i b h1 h2=>(by rw [h1] at h2;cases h2),.slz _ _ _ _,⟨fun i k hk=>?_,fun i j b hi hj h1 h2=>?_⟩,hpre.fok,Chg.refl _ _ _⟩
      ·obtain⟨hi,hk⟩:=aJ hk
       by_cases hin:i=st.nx
       ·subst hin
        simp [updH,keys,hget] at hk
        subst hk
        exact .inl ⟨rfl,hid⟩
       ·simp only [updH,keys,List.map_cons,List.map_nil,List.mem_singleton,hin,if_false] at hk
        refine hpre.hp.ok i k ?_
        have:i∈T0:=by simpa [keys,hin] using hi
        simp [restr,this,hk]
      ·have key:∀i b,restr (T0++keys [(st.nx,some (⟨(ae P t).elem,[]⟩:Blk))]) (updH [(st.nx,some ⟨(ae P t).elem,[]⟩)] (hget st.hp)) i≠none→ρ i=some b→restr T0 (hget st.hp) i≠none:=by
        intro i b hi hb
        have hin:¬i=st.nx:=fun e=>by subst e;rw [hid] at hb;cases hb
        obtain⟨k,hk⟩:=Option.ne_none_iff_exists'.1 hi
        obtain⟨hi',hk⟩:=aJ hk
        simp only [updH,keys,List.map_cons,List.map_nil,List.mem_singleton,hin,if_false] at hk
        have:i∈T0:=by simpa [keys,hin] using hi'
        simp [restr,this,hk]
       exact hpre.hp.inj i j b (key i b hi h1) (key j b hj h2) h1 h2
     ·have hcap:0<0+m:=by omega
      rw [hpref _ (hgrow hcap)]
      obtain⟨jl,jr⟩:=xL (ρ:=ρ) (F:=F) (w:=w) (xs:=[]) (ys:=cs) (us:=[]) (vs:=us) (zs:=Builtin.zeroCells zv.cells (grownCap w (0+m) 0 (ae P t).elem-(0+m))) rfl hul (fun j c hj=>by simp at hj) hrd
      simp only [List.nil_append] at jl jr
      have hpost:=Post.newBlk (h:=hget st.hp) (w1:=w.drew) (t:=(ae P t).elem) hpre.fok hid jl jr rfl rfl rfl rfl (v := .sl st.nx 0 m (ae P (ae P t).elem).size) (x := .slice (some ⟨w.heap.size,0,none⟩) (0+m) (grownCap w (0+m) 0 (ae P t).elem)) (by
       rw [Nat.zero_add]
       have hge:=grownCap_ge w m 0 (ae P t).elem
       refine .sl _ _ _ _ w.heap.size _ (by simp [c5]) hge ⟨_,_,_,heap_alloc_new w.drew _,?_⟩
       have hzs:zv.cells.size=i.size:=by rw [← hsz];simpa using Nat.eq_of_beq_eq_true hzl
       simp only [Array.size_append,List.size_toArray,List.length_nil,size_zeroCells,hzs,hul,hlen,hsz,Nat.zero_add,←Nat.add_mul]
       rw [Nat.add_sub_cancel' hge]
       exact Nat.le_refl _)
      exact hK _ _ F _ (hpost.widen hpre.hp hpre.fok (fun i hi _=>by simp [keys] at hi;subst hi;exact hid) (fun i hi=>by simp at hi) (fun i hi=>by simp at hi))
    ·simp [keys] at hj;subst hj;exact .inr ⟨Nat.le_refl _,Nat.lt_succ_self _⟩
   ·
    rename_i hzl hx
    rename_i id n s'
    have hzs:zv.cells.size=i.size:=by rw [← hsz];simpa using Nat.eq_of_beq_eq_true hzl
    split at h
    ·rename_i hse hidlt hblk0
     rename_i b
     simp only [R.okS.injEq] at h
     obtain⟨rfl,rfl,rfl,rfl,rfl⟩:=h
     obtain⟨hside,hbt,hbl,hb,h63⟩:=hs
     have hse':=Nat.eq_of_beq_eq_true hse
     subst hse'
     rw [hby] at hb
     rw [hsz] at hbl
     have hidlt':id<st.nx:=by simpa [Nat.blt_eq] using hidlt
     have hne:id≠st.nx:=by omega
     obtain⟨hlive,hok⟩:=ov hsrc hside hpos'
     refine⟨?_,Nat.le_succ _,fun j hj=>?_,fun j hj=>?_⟩
     ·intro ρ F a w hpre hin K Q hK
      have hrx:=hin x (by simp [ho,Op.operands,Call.operands])
      have hry:=hin y (by simp [ho,Op.operands,Call.operands])
      rw [hx] at hrx
      obtain⟨hlen,us,hyv,hul,hrd⟩:=hok (T':=id::T0) (fun _ h=>List.mem_cons_of_mem _ h) hpre.hp hry
      rw [hsz] at hlen hyv
      have hnT:st.nx∉id::T0:=fun hm=>by
       rcases List.mem_cons.1 hm with h1|h1
       ·exact hne h1.symm
       ·exact Nat.lt_irrefl _ (hlive _ h1).2
      have hid:=hpre.fresh st.nx (by simp [keys]) hnT
      have hfr:∀i,i∈keys [(st.nx,some (⟨(ae P t).elem,b.cs++cs⟩:Blk)),(id,none)]→i∉[id]→ρ i=none:=fun i hi hn=>by
       simp [keys] at hi
       rcases hi with rfl|rfl
       ·exact hid
       ·simp at hn
      have hpref:∀A cap r,a.eval x = .slice A n cap→(Builtin.append_ #[t,t'] o.type #[.slice A n cap,a.eval y]).run P w=r→(execOp a.eval o).run P w=r.andThen fun v w => .ok (.value v) w:=by
       intro A cap r hxv hr
       simp only [execOp,ho,resolve,invoke,builtin,Sem.run_bind,Sem.run_pure,Result.andThen_ok,List.map_toArray,List.map_cons,List.map_nil,hxv,hr]
      have grown:∀(cap:Nat) (olds:List Value),olds.length=b.cs.length→(∀j c,b.cs[j]?=some c→(olds.getD j undef).oneCell'=true∧Rd ρ F w c (olds.getD j undef)) →
       K (a.put o.dst (.slice (some ⟨w.heap.size,0,none⟩) (n+m) (grownCap w (n+m) cap (ae P t).elem))) (w.drew.alloc (.cells (olds.toArray++us.toArray++Builtin.zeroCells zv.cells (grownCap w (n+m) cap (ae P t).elem-(n+m))) (ae P t).elem)):=by
       intro cap olds hol hold
       obtain⟨jl,jr⟩:=xL (ρ:=ρ) (F:=F) (w:=w) (xs:=b.cs) (ys:=cs) (us:=olds) (vs:=us) (zs:=Builtin.zeroCells zv.cells (grownCap w (n+m) cap (ae P t).elem-(n+m))) hol hul hold hrd
       have hge:=grownCap_ge w (n+m) cap (ae P t).elem
       have hpost:=Post.newBlk (h:=hget st.hp) (w1:=w.drew) (t:=(ae P t).elem) hpre.fok hid jl jr rfl rfl rfl rfl (v := .sl st.nx 0 (n+m) (ae P (ae P t).elem).size) (x := .slice (some ⟨w.heap.size,0,none⟩) (n+m) (grownCap w (n+m) cap (ae P t).elem)) (by
        refine .sl _ _ _ _ w.heap.size _ (by simp [c5]) hge ⟨_,_,_,heap_alloc_new w.drew _,?_⟩
        simp only [Array.size_append,List.size_toArray,size_zeroCells,hzs,hul,hlen,hsz,hol,hbl,Nat.zero_add,←Nat.add_mul]
        rw [Nat.add_sub_cancel' hge]
        exact Nat.le_refl _)
       have hpost2:=hpost.widen hpre.hp hpre.fok (fun i hi _=>by simp [keys] at hi;subst hi;exact hid) (fun i hi=>by simp at hi) (fun i hi=>by simp at hi)
       exact hK _ _ F _ (hpost2.del (id:=id) (by simp [keys];exact hne))
      have hrs:restr (id::T0) (hget st.hp) id=some b:=by simp [restr,hblk0]
      unfold Oper.wp
      rcases hrx.slInv with ⟨rfl,A,hxv⟩|⟨bb,cap,hbb,hxv,hcap,hcc⟩
      ·
       have hbnil:b.cs=[]:=List.eq_nil_of_length_eq_zero (by simpa using hbl)
       obtain⟨hgrow,hstay⟩:=gc (P:=P) (ty:=o.type) (A:=A) (n:=0) (cap:=0) (olds:=[]) (m:=m) (news:=us) (w:=w) ht hi hzv hdt hni (by simp) (fun ad e j v hv=>by simp at hv) (fun _=>rfl) (by omega) hyv h63 hb
       by_cases hm:m=0
       ·subst hm
        have hcs:cs=[]:=List.eq_nil_of_length_eq_zero (by simpa using hlen)
        subst hcs
        rw [hpref A 0 _ hxv (hstay (by omega) rfl)]
        rw [hbnil] at hK
        refine hK _ ρ F w ⟨fun _ _ h=>h,fun i h1 h2=>absurd h1 h2,fun i b h1 h2=>(by rw [h1] at h2;cases h2),.slz _ _ _ _,⟨fun i k hk=>?_,fun i j b' hi hj h1 h2=>?_⟩,hpre.fok,Chg.refl _ _ _⟩
        ·obtain⟨hi,hk⟩:=aJ hk
         by_cases hin:i=st.nx
         ·subst hin
          simp [updH,keys,hget] at hk
          subst hk
          exact .inl ⟨rfl,hid⟩
         ·by_cases hin2:i=id
          ·subst hin2
           simp [updH,keys,hget,dm (fun e=>hin e.symm)] at hk
          ·simp only [updH,keys,List.map_cons,List.map_nil,List.mem_cons,List.not_mem_nil,or_false,hin,hin2,if_false] at hk
           refine hpre.hp.ok i k ?_
           have:i∈T0:=by simpa [keys,hin,hin2] using hi
           simp [restr,this,hk]
        ·have key:∀i b',restr ((id::T0)++keys [(st.nx,some (⟨(ae P t).elem,[]++[]⟩:Blk)),(id,none)]) (updH [(st.nx,some ⟨(ae P t).elem,[]++[]⟩),(id,none)] (hget st.hp)) i≠none→ρ i=some b'→restr (id::T0) (hget st.hp) i≠none:=by
          intro i b' hi hb
          have hin:¬i=st.nx:=fun e=>by subst e;rw [hid] at hb;cases hb
          obtain⟨k,hk⟩:=Option.ne_none_iff_exists'.1 hi
          obtain⟨hi',hk⟩:=aJ hk
          by_cases hin2:i=id
          ·subst hin2
           simp [updH,keys,hget,dm (fun e=>hin e.symm)] at hk
          ·simp only [updH,keys,List.map_cons,List.map_nil,List.mem_cons,List.not_mem_nil,or_false,hin,hin2,if_false] at hk
           have:i∈T0:=by simpa [keys,hin,hin2] using hi'
           simp [restr,this,hk]
         exact hpre.hp.inj i j b' (key i b' hi h1) (key j b' hj h2) h1 h2
       ·rw [hpref A 0 _ hxv (hgrow (by omega))]
        exact grown 0 [] (by rw [hbnil];rfl) (fun j c hj=>by rw [hbnil] at hj;simp at hj)
      ·rcases hpre.hp.ok id b hrs with ⟨_,h0⟩|⟨b2,hb2,hblk⟩
       ·rw [h0] at hbb;cases hbb
       rw [hbb] at hb2;cases hb2
       obtain⟨arr,fr,ha,hfo,hln,hcells⟩:=hblk.is (.inr ⟨_,hcc⟩)
       have harr:cap*i.size≤arr.size:=by
        obtain⟨ar,t',fr,h1,h2⟩:=hcc
        rw [ha] at h1;cases h1
        rw [← hsz];omega
       have hlo:(arr.toList.take (n*i.size)).length=n*i.size:=by simp;omega
       have holdc:∀j v,(arr.toList.take (n*i.size))[j]?=some v→w.cell? ((⟨bb,0,none⟩:Addr).add j)=some v:=by
        intro j v hv
        rw [List.getElem?_take] at hv
        split at hv
        ·rw [cE,Nat.zero_add]
         simp only [World.cell?,ha]
         simpa using hv
        ·cases hv
       have hold:∀j c,b.cs[j]?=some c→((arr.toList.take (n*i.size)).getD j undef).oneCell'=true∧Rd ρ F w c ((arr.toList.take (n*i.size)).getD j undef):=by
        intro j c hj
        have hjl:j<n*i.size:=by rw [← hbl];exact (List.getElem?_eq_some_iff.1 hj).1
        have e:(arr.toList.take (n*i.size)).getD j undef=arr.getD j undef:=by simp [cn,List.getD_eq_getElem?_getD,List.getElem?_take,hjl]
        rw [e];exact hcells j c hj
       obtain⟨hgrow,hstay⟩:=gc (P:=P) (ty:=o.type) (A:=some ⟨bb,0,none⟩) (n:=n) (cap:=cap) (olds:=arr.toList.take (n*i.size)) (m:=m) (news:=us) (w:=w) ht hi hzv hdt hni hlo (fun ad e=>by cases e;exact holdc) (fun e=>by cases e) (by omega) hyv h63 hb
       by_cases hfit:n+m≤cap
       ·
        have hle:n*i.size+us.length≤arr.size:=by
         have:(n+m)*i.size≤cap*i.size:=Nat.mul_le_mul_right _ hfit
         rw [Nat.add_mul] at this;omega
        have hrun:(Builtin.append_ #[t,t'] o.type #[.slice (some ⟨bb,0,none⟩) n cap,a.eval y]).run P w = .ok (.slice (some ⟨bb,0,none⟩) (n+m) cap) (w.setRow bb (arr.toList.take (n*i.size)++us++arr.toList.drop (n*i.size+us.length)).toArray):=by
         rw [hbt] at ha
         exact wt (P:=P) w t o.type (ae P t).elem i ht hi bb n cap arr fr ha hfo t' dt hdt hni (a.eval y) m us (by omega) hyv (fun v hv=>by
          obtain⟨j,hj⟩:=List.getElem?_of_mem hv
          have hjl:j<cs.length:=by rw [← hul];exact (List.getElem?_eq_some_iff.1 hj).1
          have:=(hrd j _ (List.getElem?_eq_getElem hjl)).1
          simpa [List.getD_eq_getElem?_getD,hj] using this) hfit hle
        rw [hpref _ cap _ hxv hrun]
        rw [hbt] at ha
        have hasz:(arr.toList.take (n*i.size)++us++arr.toList.drop (n*i.size+us.length)).toArray.size=arr.size:=by
         simp only [List.size_toArray,List.length_append,List.length_take,List.length_drop,Array.length_toList];omega
        have hpost:=Post.moveBlk (h:=hget st.hp) (cs:=b.cs++cs) (arr':=(arr.toList.take (n*i.size)++us++arr.toList.drop (n*i.size+us.length)).toArray) hpre.fok hblk.own hbb hid ha hfo hasz (by rw [hasz,List.length_append];omega) (fun j c hj=>by
         have hjl:j<(b.cs++cs).length:=(List.getElem?_eq_some_iff.1 hj).1
         simp only [List.length_append] at hjl
         have e:((arr.toList.take (n*i.size)++us++arr.toList.drop (n*i.size+us.length)).toArray).getD j undef=if j<b.cs.length then arr.getD j undef else us.getD (j-b.cs.length) undef:=by
          have hmin:min (n*i.size) arr.size=n*i.size:=by omega
          simp only [cn,List.getElem?_toArray,List.getElem?_append,List.length_append,List.length_take,Array.length_toList,hmin,List.getElem?_take,Array.getElem?_toList,List.getD_eq_getElem?_getD,hbl,hul]
          by_cases h1:j<n*i.size
          ·simp [h1,show j<n*i.size+cs.length by omega]
          ·simp [h1,show j<n*i.size+cs.length by omega]
         rw [e]
         rw [List.getElem?_append] at hj
         split at hj
         ·rename_i h1;rw [if_pos h1];exact hcells j c hj
         ·rename_i h1;rw [if_neg h1];exact hrd _ c hj) (v := .sl st.nx 0 (n+m) (ae P (ae P t).elem).size) (x := .slice (some ⟨bb,0,none⟩) (n+m) cap) (.sl _ _ _ _ bb cap (by simp [c5]) hfit hcc)
        exact hK _ _ F _ (hpost.widen hpre.hp hpre.fok hfr (fun i hi=>by simp at hi;subst hi;simp) (fun i hi=>by simp at hi;subst hi;rw [hblk0];simp))
       ·rw [hpref _ cap _ hxv (hgrow (by omega))]
        exact grown cap _ (by rw [hlo,hbl]) hold
     ·simp [keys] at hj
      rcases hj with rfl|rfl
      ·exact .inr ⟨Nat.le_refl _,Nat.lt_succ_self _⟩
      ·exact .inl (by simp)
     ·rcases List.mem_cons.1 hj with rfl|h1
      ·rw [hblk0];simp
      ·exact (hlive j h1).1
    ·cases h
   ·cases h
  ·cases h
end Go.Abs
namespace Go.Abs
set_option linter.unusedSimpArgs false
set_option linter.unusedVariables false
open Go Go.RowKit
variable {P : Program}
theorem r9 {c:PV} (h:isB c):c=bt (unB c):=by
 cases c with
 | v x =>
  cases x with
  | int k n =>
   cases k with
   | u8 =>
    obtain⟨b,rfl⟩:=h
    simp [unB,bt]
   | _=>exact h.elim
  | _=>exact h.elim
 | _=>exact h.elim
theorem A1 {cs:List PV} (h:om cs):cs=(cZ cs).map bt:=by
 unfold cZ
 rw [List.map_map]
 conv=>lhs;rw [← List.map_id cs]
 exact List.map_congr_left fun c hc=>r9 (h c hc)
theorem qU {s d:TypeId} {A:Option Addr} {n cap:Nat} {l:List UInt8} {w:World} (hs:P.underlying s=some (.slice (ae P s).elem)) (he:P.underlying (ae P s).elem=some (.int .u8)) (hd:P.underlying d=some .string)
 (hl:l.length=n) (hA:A=none→n=0) (hc:∀ad,A=some ad→∀j,j<n→w.cell? (ad.add j)=some (.int .u8 ((l.getD j 0).toNat:Int))) :
 (convert s d (.slice A n cap)).run P w = .ok (strOf l) w:=by
 cases A with
 | some ad =>
  subst hl
  exact run_convert_bytes_back w s d _ ad cap l hs he hd (fun j hj=>by rw [hc ad rfl j hj];simp [List.getD_eq_getElem?_getD,hj])
 | none =>
  have:=hA rfl
  subst this
  have hl0:l=[]:=List.eq_nil_of_length_eq_zero hl
  subst hl0
  rw [run_convert_bytes_string w s d _ none 0 cap hs he hd]
  simp [Conv.bytesToString,strOf];rfl
theorem sa {o:Oper} {st:AS} {s d:TypeId} {x:Operand} (ho:o.op = .convert s d x) {n:Nat} {cs:List PV} (hx:ev st x = .p (.data 1 n cs)) (hd:(ae P d).kind = .str) (hs:(ae P s).kind = .slice)
 (he:(ae P (ae P s).elem).kind = .int .u8) (hb:om cs):OpOk P o st (.p (.v (strOf (cZ cs)))) [] [] st.nx :=
 aT fun ρ F a w hin=>by
  have hr:=hin x (by simp [ho,Op.operands])
  rw [hx] at hr
  have e:=A1 hb
  have fin:∀A cap,a.eval x = .slice A n cap→(cZ cs).length=n→(A=none→n=0)→(∀ad,A=some ad→∀j,j<n→w.cell? (ad.add j)=some (.int .u8 (((cZ cs).getD j 0).toNat:Int))) →
   ∃y,(execOp a.eval o).run P w = .ok (.value y) w∧Rd ρ F w (.p (.v (strOf (cZ cs)))) y:=by
   intro A cap hv hl hA hc
   have:=qU (P:=P) (cap:=cap) (bR hs) (kL he) (jf hd) hl hA hc
   exact⟨_,by simp only [execOp,ho,hv,Sem.run_bind,this,Result.andThen_ok,Sem.run_pure],.ofV rfl⟩
  rcases hr.dataInv with ⟨rfl,rfl,A,cap,hv⟩|⟨b,off,cap,f,hv,hl,hcap,hF,hc,h1c,hrc⟩
  ·exact fin A cap hv rfl (fun _=>rfl) (fun ad _ j hj=>by omega)
  ·have hl':(cZ cs).length=n:=by simp [cZ];omega
   refine fin _ cap hv hl' (fun h=>by cases h) (fun ad h j hj=>?_)
   cases h
   rw [cE,hc j (by omega)]
   have hj':j<cs.length:=by omega
   have hrj:=hrc j _ (List.getElem?_eq_getElem hj')
   have hbj:=r9 (hb _ (List.getElem_mem hj'))
   rw [hbj] at hrj
   have:=(Rd.p (ρ:=ρ) _ _ hrj).pv
   rw [this]
   simp [cZ,List.getD_eq_getElem?_getD,hj']
theorem wu {o:Oper} {st:AS} {s d:TypeId} {x:Operand} (ho:o.op = .convert s d x) {id off n:Nat} (hx:ev st x = .sl id off n 1) (hd:(ae P d).kind = .str) (hs:(ae P s).kind = .slice)
 (he:(ae P (ae P s).elem).kind = .int .u8) {k:Blk} (hk:hget st.hp id=some k) (hl:off+n≤k.cs.length) (hp:jc ((k.cs.drop off).take n)) (hb:om (dJ ((k.cs.drop off).take n))) :
 OpOk P o st (.p (.v (strOf (cZ (dJ ((k.cs.drop off).take n)))))) [id] [] st.nx where
 tri ρ F a w hpre hin K Q hK:=by
  have hr:=hin x (by simp [ho,Op.operands])
  rw [hx] at hr
  have hln:(cZ (dJ ((k.cs.drop off).take n))).length=n:=by simp [cZ,dJ];omega
  have fin:∀A cap,a.eval x = .slice A n cap→(A=none→n=0)→(∀ad,A=some ad→∀j,j<n→w.cell? (ad.add j)=some (.int .u8 (((cZ (dJ ((k.cs.drop off).take n))).getD j 0).toNat:Int)))→o.wp P a w K Q:=by
   intro A cap hv hA hc
   have hrun:=qU (P:=P) (cap:=cap) (bR hs) (kL he) (jf hd) hln hA hc
   unfold Oper.wp
   have hex:(execOp a.eval o).run P w = .ok (.value (strOf (cZ (dJ ((k.cs.drop off).take n))))) w:=by simp only [execOp,ho,hv,Sem.run_bind,hrun,Result.andThen_ok,Sem.run_pure]
   rw [hex]
   refine hK _ ρ F w ⟨fun _ _ h=>h,fun i h1 h2=>absurd h1 h2,fun i b h1 h2=>(by rw [h1] at h2;cases h2),.ofV rfl,?_,hpre.fok,Chg.refl _ _ _⟩
   have:restr ([id]++keys []) (updH [] (hget st.hp))=restr [id] (hget st.hp):=by funext i;simp [restr,keys,updH]
   rw [this]
   exact hpre.hp
  rcases hr.slInv with ⟨rfl,A,hv⟩|⟨b,cap,hb',hv,hcap,hcc⟩
  ·exact fin A 0 hv (fun _=>rfl) (fun ad _ j hj=>by omega)
  ·have hrs:restr [id] (hget st.hp) id=some k:=by simp [restr,hk]
   rcases hpre.hp.ok id k hrs with ⟨_,h0⟩|⟨b2,hb2,hblk⟩
   ·rw [h0] at hb';cases hb'
   rw [hb'] at hb2;cases hb2
   obtain⟨arr,fr,ha,hfr,hlen,hc⟩:=hblk.is (.inr ⟨_,hcc⟩)
   refine fin _ cap hv (fun h=>by cases h) (fun ad h j hj=>?_)
   cases h
   rw [cE,gF ha (by omega)]
   have hj1:j<((k.cs.drop off).take n).length:=by simp;omega
   have hget':((k.cs.drop off).take n)[j]?=some ((k.cs.drop off).take n)[j]:=List.getElem?_eq_getElem hj1
   have hkj:k.cs[off+j]?=some ((k.cs.drop off).take n)[j]:=by
    rw [← hget',List.getElem?_take,if_pos hj,List.getElem?_drop]
   have hrj:=(hc _ _ hkj).2
   have hpj:=hp _ (List.getElem_mem hj1)
   have hbj:=hb (unP ((k.cs.drop off).take n)[j]) (by unfold dJ;exact List.mem_map.2 ⟨_,List.getElem_mem hj1,rfl⟩)
   have e1:((k.cs.drop off).take n)[j] = .p (unP ((k.cs.drop off).take n)[j]):=by
    revert hpj
    cases ((k.cs.drop off).take n)[j]<;>intro hpj<;>first|rfl|exact hpj.elim
   rw [e1,r9 hbj] at hrj
   have:=hrj.pv
   rw [this]
   have e2:(cZ (dJ ((k.cs.drop off).take n))).getD j 0=unB (unP ((k.cs.drop off).take n)[j]):=by
    simp only [cZ,dJ,List.getD_eq_getElem?_getD,List.getElem?_map,hget',Option.map_some,Option.getD_some]
   rw [e2]
 le:=Nat.le_refl _
 keysOk i hi:=by simp [keys] at hi
 live i hi:=by simp at hi;subst hi;rw [hk];simp
theorem wv {o:Oper} {st:AS} {s d:TypeId} {x:Operand} (ho:o.op = .convert s d x) {b:ByteArray} (hx:ev st x = .p (.v (.string b))) (hs:(ae P s).kind = .str) (hd:(ae P d).kind = .slice)
 (he:(ae P (ae P d).elem).kind = .int .u8):OpOk P o st (.p (.data 1 b.size (b.data.toList.map bt))) [] [] st.nx where
 tri ρ F a w hpre hin K Q hK:=by
  have hr:=hin x (by simp [ho,Op.operands])
  rw [hx] at hr
  have hrun:=run_bytes_of_string (P:=P) w s d (ae P d).elem b (jf hs) (bR hd) (kL he)
  unfold Oper.wp
  have hex:(execOp a.eval o).run P w = .ok (.value (.slice (some ⟨w.heap.size,0,none⟩) b.size (grownCap w b.size 0 (ae P d).elem)))
   (w.drew.alloc (.cells (bytesRow b (grownCap w b.size 0 (ae P d).elem)) (ae P d).elem ((bytesRow b (grownCap w b.size 0 (ae P d).elem)).size,(bytesRow b (grownCap w b.size 0 (ae P d).elem)).size+1))):=by
   simp only [execOp,ho,hr.pv,Sem.run_bind,hrun,Result.andThen_ok,Sem.run_pure]
  rw [hex]
  generalize hrow:bytesRow b (grownCap w b.size 0 (ae P d).elem)=row
  have hge:=grownCap_ge w b.size 0 (ae P d).elem
  have hcell:∀j,j<b.size→row[j]?=some (.int .u8 ((b.data.toList.getD j 0).toNat:Int)):=by
   intro j hj
   rw [← hrow]
   unfold bytesRow
   have hj':j<b.data.size:=hj
   rw [Array.getElem?_append_left (by simpa using hj')]
   simp [List.getD_eq_getElem?_getD,Array.getElem?_eq_getElem hj']
  refine hK _ ρ (fun k=>F k∨k=w.heap.size) _ ⟨fun _ _ h=>h,fun i h1 h2=>absurd h1 h2,fun i b h1 h2=>(by rw [h1] at h2;cases h2),?_,⟨fun i k h=>by simp [restr,keys] at h,fun i j b h=>by simp [restr,keys] at h⟩,?_,?_⟩
  ·refine .p _ _ (.data 1 _ _ w.heap.size 0 _ (fun j => .int .u8 ((b.data.toList.getD j 0).toNat:Int)) (by simp) hge (.inr rfl) (fun j hj=>?_) (fun j _=>rfl) (fun j c hj=>?_))
   ·have hj':j<b.size:=by simpa using hj
    have hnew:=heap_alloc_new w.drew (.cells row (ae P d).elem (row.size,row.size+1))
    simp only [World.cell?,Nat.zero_add]
    have:w.drew.heap.size=w.heap.size:=rfl
    rw [this] at hnew
    rw [hnew]
    simpa using hcell j hj'
   ·simp only [List.getElem?_map,Option.map_eq_some_iff] at hj
    obtain⟨y,hy,rfl⟩:=hj
    have:b.data.toList.getD j 0=y:=by rw [List.getD_eq_getElem?_getD,hy];rfl
    rw [this]
    exact .v _ rfl
  ·intro k hk
   rcases hk with hk|rfl
   ·have:=hpre.fok k hk;simp;omega
   ·simp
  ·exact⟨rfl,rfl,rfl,by simp,fun k hk _=>Below.heap_alloc w.drew _ k hk,⟨fun k n hc=>(show hasCells w.drew k n from hc).alloc _,fun k hc=>(show isMapO w.drew k from hc).alloc _⟩,fun k hk => .inl hk,fun k hk=>by
    rcases hk with hk|rfl
    ·exact .inl hk
    ·exact .inr (.inl (Nat.le_refl _))⟩
 le:=Nat.le_refl _
 keysOk i hi:=by simp [keys] at hi
 live i hi:=by simp at hi
theorem t8 {o:Oper} {st:AS} {s d:TypeId} {x:Operand} (ho:o.op = .convert s d x) {b:ByteArray} (hx:ev st x = .p (.v (.string b))) (hs:(ae P s).kind = .str) (hd:(ae P d).kind = .slice)
 (he:(ae P (ae P d).elem).kind = .int .u8):OpOk P o st (.sl st.nx 0 b.size 1) [] [(st.nx,some ⟨(ae P d).elem,(b.data.toList.map bt).map .p⟩)] (st.nx+1) where
 tri ρ F a w hpre hin K Q hK:=by
  have hr:=hin x (by simp [ho,Op.operands])
  rw [hx] at hr
  have hrun:=run_bytes_of_string (P:=P) w s d (ae P d).elem b (jf hs) (bR hd) (kL he)
  unfold Oper.wp
  have hex:(execOp a.eval o).run P w = .ok (.value (.slice (some ⟨w.heap.size,0,none⟩) b.size (grownCap w b.size 0 (ae P d).elem)))
   (w.drew.alloc (.cells (bytesRow b (grownCap w b.size 0 (ae P d).elem)) (ae P d).elem ((bytesRow b (grownCap w b.size 0 (ae P d).elem)).size,(bytesRow b (grownCap w b.size 0 (ae P d).elem)).size+1))):=by
   simp only [execOp,ho,hr.pv,Sem.run_bind,hrun,Result.andThen_ok,Sem.run_pure]
  rw [hex]
  have hge:=grownCap_ge w b.size 0 (ae P d).elem
  have hsz:(bytesRow b (grownCap w b.size 0 (ae P d).elem)).size=grownCap w b.size 0 (ae P d).elem:=by
   unfold bytesRow
   have:b.data.size=b.size:=rfl
   simp only [Array.size_append,Array.size_map,Array.size_replicate]
   omega
  have hcell:∀j,j<b.size→(bytesRow b (grownCap w b.size 0 (ae P d).elem))[j]?=some (.int .u8 ((b.data.toList.getD j 0).toNat:Int)):=by
   intro j hj
   unfold bytesRow
   have hj':j<b.data.size:=hj
   rw [Array.getElem?_append_left (by simpa using hj')]
   simp [List.getD_eq_getElem?_getD,Array.getElem?_eq_getElem hj']
  generalize bytesRow b (grownCap w b.size 0 (ae P d).elem)=row at *
  refine hK _ _ F _ (Post.newBlkF (row.size,row.size+1) (.inr (Nat.le_refl _)) hpre.fok (hpre.fresh st.nx (by simp [keys]) (by simp)) ?_ (fun j c hj=>?_) rfl rfl rfl rfl ?_)
  ·simp only [List.length_map,Array.length_toList]
   have:b.data.size=b.size:=rfl
   omega
  ·simp only [List.getElem?_map,Option.map_eq_some_iff] at hj
   obtain⟨y,⟨z,hz,rfl⟩,rfl⟩:=hj
   have hj':j<b.size:=by have:=(List.getElem?_eq_some_iff.1 hz).1;simpa using this
   have hg:row.getD j undef = .int .u8 (z.toNat:Int):=by
    have:=hcell j hj'
    rw [List.getD_eq_getElem?_getD,hz] at this
    simp only [Option.getD_some] at this
    simp [this]
   rw [hg]
   exact⟨rfl,.p _ _ (.v _ rfl)⟩
  ·refine .sl _ _ _ _ w.heap.size _ (by simp [c5]) hge ?_
   refine⟨row,_,_,heap_alloc_new w.drew _,?_⟩
   omega
 le:=by omega
 keysOk i hi:=by simp [keys] at hi;omega
 live i hi:=by simp at hi
theorem D2 {o:Oper} {st:AS} {s:TypeId} {x:Operand} (ho:o.op = .convert s s x) {id off n:Nat} (hx:ev st x = .sl id off n 1) (hs:(ae P s).kind = .slice)
 (he:(ae P (ae P s).elem).kind = .int .u8) {k:Blk} (hk:hget st.hp id=some k) (hl:off+n≤k.cs.length) (hn:n≠0) (hp:jc ((k.cs.drop off).take n)) :
 OpOk P o st (.p (.data 1 n (dJ ((k.cs.drop off).take n)))) [id] [(id,none)] st.nx where
 tri ρ F a w hpre hin K Q hK:=by
  have hr:=hin x (by simp [ho,Op.operands])
  rw [hx] at hr
  rcases hr.slInv with ⟨h0,A,hv⟩|⟨b,cap,hb',hv,hcap,hcc⟩
  ·exact absurd h0 hn
  ·have hrs:restr [id] (hget st.hp) id=some k:=by simp [restr,hk]
   rcases hpre.hp.ok id k hrs with ⟨_,h0⟩|⟨b2,hb2,hblk⟩
   ·rw [h0] at hb';cases hb'
   rw [hb'] at hb2;cases hb2
   obtain⟨arr,fr,ha,hfr,hlen,hc⟩:=hblk.is (.inr ⟨_,hcc⟩)
   have hblt:b<w.heap.size:=(Array.getElem?_eq_some_iff.1 ha).1
   have hex:(execOp a.eval o).run P w = .ok (.value (.slice (some ⟨b,off,none⟩) n cap)) (w.freeze ⟨b,arr.size,none⟩ 1):=by
    have hsh:w.shape? b=some (k.t,arr.size):=by unfold World.shape?;rw [ha]
    simp [execOp,ho,hv,convert,run_underlying (bR hs),run_underlying (kL he),markStringish,hsh]
   obtain⟨fq,hnew⟩:∃fq,(w.freeze ⟨b,arr.size,none⟩ 1).heap[b]?=some (.cells arr k.t fq):=by
    unfold World.freeze
    rw [if_neg (by decide)]
    obtain⟨lo,hi⟩:=fr
    simp [Array.getElem?_modify,ha]
   have hold:∀c,c≠b→(w.freeze ⟨b,arr.size,none⟩ 1).heap[c]?=w.heap[c]?:=fun c hc=>by
    unfold World.freeze
    rw [if_neg (by decide)]
    have hne:¬b=c:=fun e=>hc e.symm
    simp only [Array.getElem?_modify,if_neg hne]
   have hsz:(w.freeze ⟨b,arr.size,none⟩ 1).heap.size=w.heap.size:=by
    unfold World.freeze
    rw [if_neg (by decide)]
    simp
   unfold Oper.wp
   rw [hex]
   refine hK _ ρ (fun c=>F c∨c=b) _ ⟨fun _ _ h=>h,fun i h1 h2=>absurd h1 h2,fun i b h1 h2=>(by rw [h1] at h2;cases h2),?_,⟨fun i k' h=>?_,fun i j b' h=>?_⟩,?_,?_⟩
   ·refine .p _ _ (.data 1 _ _ b off cap (fun j=>arr.getD (off+j) undef) (by simp [dJ];omega) hcap (.inr rfl) (fun j hj=>?_) (fun j hj=>?_) (fun j c hj=>?_))
    ·have hj':j<n:=by simp [dJ] at hj;omega
     simp only [World.cell?,hnew]
     have:off+j<arr.size:=by omega
     simp [Array.getD,this]
    ·have hj':j<n:=by simp [dJ] at hj;omega
     have hlt:off+j<k.cs.length:=by omega
     exact (hc (off+j) _ (List.getElem?_eq_getElem hlt)).1
    ·simp only [dJ,List.getElem?_map,Option.map_eq_some_iff] at hj
     obtain⟨y,hy,rfl⟩:=hj
     have hj':j<n:=by
      rw [List.getElem?_take] at hy
      split at hy
      ·assumption
      ·cases hy
     have hkj:k.cs[off+j]?=some y:=by
      rw [List.getElem?_take,if_pos hj',List.getElem?_drop] at hy
      exact hy
     have hy1:isP y:=hp y (List.mem_of_getElem? hy)
     have hrd:=(hc (off+j) y hkj).2
     cases y<;>simp only [isP] at hy1
     cases hrd with
     | p _ _ hrp =>
      have hnb:¬F b:=hblk.own
      exact hrp.mono (fun c h => .inl h) (fun c hF=>hold c (fun e=>hnb (e ▸ hF)))
   ·simp [restr,updH,keys,hget] at h
    obtain⟨h1,h2⟩:=h
    subst h1
    simp at h2
   ·simp [restr,updH,keys,hget] at h
    obtain⟨h1,h2⟩:=h
    subst h1
    simp at h2
   ·intro c hcF
    rw [hsz]
    rcases hcF with hcF|rfl
    ·exact hpre.fok c hcF
    ·exact hblt
   ·refine⟨?_,?_,?_,by rw [hsz];exact Nat.le_refl _,fun c _ hO=>hold c (fun e=>hO ⟨id,by simp [keys],by rw [e];exact hb'⟩),⟨fun c m hcm=>?_,fun c hcm=>?_⟩,fun c hcF => .inl hcF,fun c hcF=>?_⟩
    ·unfold World.freeze;rw [if_neg (by decide)]
    ·unfold World.freeze;rw [if_neg (by decide)]
    ·unfold World.freeze;rw [if_neg (by decide)]
    ·obtain⟨ar2,t2,fr2,hb2,hm2⟩:=hcm
     by_cases e:c=b
     ·subst e
      rw [ha] at hb2
      cases hb2
      exact⟨arr,_,_,hnew,hm2⟩
     ·exact⟨ar2,t2,fr2,by rw [hold c e];exact hb2,hm2⟩
    ·obtain⟨es2,c2,hb2⟩:=hcm
     by_cases e:c=b
     ·subst e
      rw [ha] at hb2
      cases hb2
     ·exact⟨es2,c2,by rw [hold c e];exact hb2⟩
    ·rcases hcF with hcF|rfl
     ·exact .inl hcF
     ·exact .inr (.inr ⟨id,by simp [keys],hb'⟩)
 le:=Nat.le_refl _
 keysOk i hi:=by simp [keys] at hi;exact .inl (by simp [hi])
 live i hi:=by simp at hi;subst hi;rw [hk];simp
end Go.Abs
namespace Go.Abs
set_option linter.unusedSimpArgs false
set_option linter.unusedVariables false
open Go Go.RowKit
variable {P : Program}
def ow (st:AS) (ti ei:TI) (dst:AV):Src→R
 | .some n cs T side=>match ti.kind,Nat.ble 1 ei.size,dst with
  | .slice,true,.sl id off dn s=>match Nat.beq s ei.size,Nat.blt id st.nx,hget st.hp id with
   | true,true,some b => .okS (side∧off+min n dn*s≤b.cs.length) (.p (.v (.int .i64 ((min n dn:Nat):Int)))) (id::T) [(id,some ⟨b.t,cA b.cs off (cs.take (min n dn*s))⟩)] st.nx
   | _,_,_ => .bad
  | _,_,_ => .bad
 | .none => .bad
theorem iD {dT sT ty e:TypeId} {i:TypeInfo} (hu:P.underlying dT=some (.slice e)) (hi:P.info? e=some i) {A:Option Addr} {n dn cap:Nat} {us:List Value} {u:Value} {w w':World}
 (hv:SrcV w i.size n us u) (hst:∀a,A=some a→(storeCells a (us.take (min n dn*i.size)) 0).run P w = .ok () w') (h0:A=none→w'=w) :
 (Builtin.copy_ #[dT,sT] ty #[.slice A dn cap,u]).run P w = .ok (.int .i64 ((min n dn:Nat):Int)) w':=by
 have hl:=hv.len P w
 have hf:=hv.part P (min n dn) (Nat.min_le_left _ _)
 cases A with
 | none =>
  rw [h0 rfl]
  have hf':(Builtin.firstCells i.size (n.min dn) u).run P w=_:=hf
  simp [Builtin.copy_,run_underlying hu,sizeOf,typeInfo,hi,hl,hf']
  rfl
 | some a =>
  have hf':(Builtin.firstCells i.size (n.min dn) u).run P w=_:=hf
  have hs':=hst a rfl
  simp [Builtin.copy_,run_underlying hu,sizeOf,typeInfo,hi,hl,hf',hs']
  rfl
theorem D3 {o:Oper} {st:AS} {t t':TypeId} {x y:Operand} (ho:o.op = .call ⟨.builtin .copy,#[x,y],#[t,t']⟩) {s:Prop} {v:AV} {T:List Nat} {u:List (Nat×Option Blk)} {nx:Nat}
 (h:ow st (ae P t) (ae P (ae P t).elem) (ev st x) (jk st (ae P (ae P t).elem).size (ev st y)) = .okS s v T u nx) (hs:s):OpOk P o st v T u nx:=by
 cases hsrc:jk st (ae P (ae P t).elem).size (ev st y) with
 | none=>rw [hsrc] at h;simp [ow] at h
 | some n cs T0 side =>
  rw [hsrc] at h
  simp only [ow] at h
  split at h
  ·rename_i hk hpos hx
   rename_i id off dn s'
   have hpos':=Nat.le_of_ble_eq_true hpos
   obtain⟨d,i,hd,hi,hz⟩:=bB (P:=P) (t:=(ae P t).elem) hpos'
   have hsz:(ae P (ae P t).elem).size=i.size:=by rw [eD,hz]
   have ht:=bR hk
   split at h
   ·rename_i hse hidlt hblk0
    rename_i b
    simp only [R.okS.injEq] at h
    obtain⟨rfl,rfl,rfl,rfl,rfl⟩:=h
    obtain⟨hside,hfit⟩:=hs
    have hse':=Nat.eq_of_beq_eq_true hse
    subst hse'
    rw [hsz] at hfit
    obtain⟨hlive,hok⟩:=ov hsrc hside hpos'
    refine⟨?_,Nat.le_refl _,fun j hj=>?_,fun j hj=>?_⟩
    ·intro ρ F a w hpre hin K Q hK
     have hrx:=hin x (by simp [ho,Op.operands,Call.operands])
     have hry:=hin y (by simp [ho,Op.operands,Call.operands])
     rw [hx] at hrx
     obtain⟨hlen,us,hyv,hul,hrd⟩:=hok (T':=id::T0) (fun _ h=>List.mem_cons_of_mem _ h) hpre.hp hry
     rw [hsz] at hlen hyv
     have hrs:restr (id::T0) (hget st.hp) id=some b:=by simp [restr,hblk0]
     have hpref:∀A cap w',a.eval x = .slice A dn cap→(Builtin.copy_ #[t,t'] o.type #[.slice A dn cap,a.eval y]).run P w = .ok (.int .i64 ((min n dn:Nat):Int)) w'→(execOp a.eval o).run P w = .ok (.value (.int .i64 ((min n dn:Nat):Int))) w':=by
      intro A cap w' hxv hr
      simp only [execOp,ho,resolve,invoke,builtin,Sem.run_bind,Sem.run_pure,Result.andThen_ok,List.map_toArray,List.map_cons,List.map_nil,hxv,hr]
     have hmn:min n dn≤n:=Nat.min_le_left _ _
     have htk:(us.take (min n dn*i.size)).length=(cs.take (min n dn*i.size)).length:=by rw [List.length_take,List.length_take,hul]
     have hle:min n dn*i.size≤cs.length:=by rw [hlen];exact Nat.mul_le_mul_right _ hmn
     have hcl:(cs.take (min n dn*i.size)).length=min n dn*i.size:=by rw [List.length_take];omega
     have hvs:∀j c,(cs.take (min n dn*i.size))[j]?=some c→((us.take (min n dn*i.size)).getD j undef).oneCell'=true∧Rd ρ F w c ((us.take (min n dn*i.size)).getD j undef):=by
      intro j c hj
      rw [List.getElem?_take] at hj
      split at hj
      ·rename_i hjl
       have:=hrd j c hj
       have e:(us.take (min n dn*i.size)).getD j undef=us.getD j undef:=by simp [List.getD_eq_getElem?_getD,List.getElem?_take,hjl]
       rw [e];exact this
      ·cases hj
     unfold Oper.wp
     rcases hrx.slInv with ⟨hdn,A,hxv⟩|⟨bb,cap,hbb,hxv,hcap,hcc⟩
     ·subst hdn
      have hm0:min n 0*i.size=0:=by simp
      have hrun:=iD (P:=P) (dT:=t) (sT:=t') (ty:=o.type) (A:=A) (dn:=0) (cap:=0) (w':=w) ht hi hyv (fun ad _=>by rw [hm0];rfl) (fun _=>rfl)
      rw [hpref A 0 w hxv hrun]
      rw [hsz] at hK
      rw [hm0] at hK
      simp only [List.take_zero,cA] at hK
      refine hK _ ρ F w ⟨fun _ _ h=>h,fun i h1 h2=>absurd h1 h2,fun i b h1 h2=>(by rw [h1] at h2;cases h2),.p _ _ (.v _ rfl),?_,hpre.fok,Chg.refl _ _ _⟩
      have e:restr ((id::T0)++keys [(id,some (⟨b.t,b.cs⟩:Blk))]) (updH [(id,some (⟨b.t,b.cs⟩:Blk))] (hget st.hp))=restr (id::T0) (hget st.hp):=by
       funext j
       by_cases hj:j=id
       ·subst hj;simp [restr,updH,keys,hblk0,hget]
       ·simp [restr,updH,keys,hj]
      rw [e]
      exact hpre.hp
     ·rcases hpre.hp.ok id b hrs with ⟨_,h0⟩|⟨b',hb',hblk⟩
      ·rw [h0] at hbb;cases hbb
      rw [hbb] at hb';cases hb'
      by_cases hm0:min n dn*i.size=0
      ·have hrun:=iD (P:=P) (dT:=t) (sT:=t') (ty:=o.type) (A:=some ⟨bb,off,none⟩) (dn:=dn) (cap:=cap) (w':=w) ht hi hyv (fun ad _=>by rw [hm0];rfl) (fun h=>by cases h)
       rw [hpref _ cap w hxv hrun]
       rw [hsz] at hK
       rw [hm0] at hK
       simp only [List.take_zero,cA] at hK
       refine hK _ ρ F w ⟨fun _ _ h=>h,fun i h1 h2=>absurd h1 h2,fun i b h1 h2=>(by rw [h1] at h2;cases h2),.p _ _ (.v _ rfl),?_,hpre.fok,Chg.refl _ _ _⟩
       have e:restr ((id::T0)++keys [(id,some (⟨b.t,b.cs⟩:Blk))]) (updH [(id,some (⟨b.t,b.cs⟩:Blk))] (hget st.hp))=restr (id::T0) (hget st.hp):=by
        funext j
        by_cases hj:j=id
        ·subst hj;simp [restr,updH,keys,hblk0,hget]
        ·simp [restr,updH,keys,hj]
       rw [e]
       exact hpre.hp
      ·obtain⟨arr,fr,ha,hfr,halen,hc⟩:=hblk.is (.inl (by omega))
       have hone:∀v∈us.take (min n dn*i.size),v.oneCell'=true:=by
        intro v hv
        obtain⟨j,hj⟩:=List.getElem?_of_mem hv
        have hjl:j<(cs.take (min n dn*i.size)).length:=by rw [← htk];exact (List.getElem?_eq_some_iff.1 hj).1
        have:=(hvs j _ (List.getElem?_eq_getElem hjl)).1
        simpa [List.getD_eq_getElem?_getD,hj] using this
       have hst:=ft (P:=P) bb off b.t fr (us.take (min n dn*i.size)) 0 arr w ha hfr (by rw [htk,hcl];omega) hone
       simp only [Nat.add_zero] at hst
       have hrun:=iD (P:=P) (dT:=t) (sT:=t') (ty:=o.type) (A:=some ⟨bb,off,none⟩) (dn:=dn) (cap:=cap) ht hi hyv (fun ad had=>by cases had;exact hst) (fun h=>by cases h)
       rw [hpref _ cap _ hxv hrun]
       rw [hsz] at hK
       have hpost:=Post.wrBlk (h:=hget st.hp) (v := .p (.v (.int .i64 ((min n dn:Nat):Int)))) (x := .int .i64 ((min n dn:Nat):Int)) hpre.fok hblk.own hbb ha hfr (arr':=(arr.toList.take off++us.take (min n dn*i.size)++arr.toList.drop (off+(us.take (min n dn*i.size)).length)).toArray) (cs:=cA b.cs off (cs.take (min n dn*i.size)))
        (by simp only [List.size_toArray,List.length_append,List.length_take,List.length_drop,Array.length_toList];omega)
        (by simp only [jT,List.size_toArray,List.length_append,List.length_take,List.length_drop,Array.length_toList];omega)
        (xH halen (by rw [hcl];exact hfit) htk hc hvs) (.p _ _ (.v _ rfl))
       exact hK _ ρ F _ (hpost.widen hpre.hp hpre.fok (fun j hj hn=>by simp [keys] at hj hn;exact absurd hj hn) (fun j hj=>by simp at hj;subst hj;exact List.mem_cons_self ..) (fun j hj=>by simp at hj;subst hj;rw [hblk0];simp))
    ·simp [keys] at hj;subst hj;exact .inl (List.mem_cons_self ..)
    ·rcases List.mem_cons.1 hj with rfl|hj
     ·rw [hblk0];simp
     ·exact (hlive j hj).1
   ·cases h
  ·cases h
end Go.Abs

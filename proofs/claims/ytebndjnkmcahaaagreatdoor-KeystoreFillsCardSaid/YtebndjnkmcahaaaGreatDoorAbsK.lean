/- The executor's operations are sound: comparison with nil, cap, slices of nil, append of zeros. Own work; no statement of the seat is proved here. The executor's operations are sound: maps from integers to bytes. Own work; no statement of the seat is proved here. The executor, operation by operation, and that it is sound. Own work; no statement of the seat is proved here. -/
import Derived.Test.YtebndjnkmcahaaaGreatDoorAbsJ
import Derived.LaidEql
import Derived.Lib.Builder
import Derived.Lib.UnsafeStr
namespace Go.Abs
set_option linter.unusedSimpArgs false
set_option linter.unusedVariables false
open Go Go.RowKit
variable {P : Program}
theorem nM (op:BinOp) (t:TypeId) (x y:Operand) (A B:Option Addr) (n m c d:Nat) (w:World):(eqGuard op t x y (.slice A n c) (.slice B m d)).run P w = .ok () w:=by
 cases op<;>simp [eqGuard]
theorem y6 {t:TypeId} {e:TypeId} (ht:P.underlying t=some (.slice e)) (b:Option Addr) (n c:Nat) (w:World):(Op.equal t (.slice b n c) (.slice none 0 0)).run P w = .ok b.isNone w:=by
 have h0:∀(d:Nat),(Op.equalIn (d+1) t (.slice b n c) (.slice none 0 0)).run P w = .ok b.isNone w:=fun d=>by
  cases b<;>simp [Op.equalIn,run_underlying ht]
 exact h0 9999
theorem lv {o:Oper} {st:AS} {op:BinOp} {t t':TypeId} {x y:Operand} (ho:o.op = .binOp op t x y t') (hk:(ae P t).kind = .slice) (hy:ev st y = .p (.v (.slice none 0 0))) {r:Bool} {side:Prop}
 (hr:side→∀(ρ:am) (F:aA) (w:World) (u:Value),Rd ρ F w (ev st x) u→∃b n c,u = .slice b n c∧b.isNone=r) :
 (∀v T u nx,dL st op side r = .ok v T u nx→OpOk P o st v T u nx)∧(∀s v T u nx,dL st op side r = .okS s v T u nx→s→OpOk P o st v T u nx):=by
 have ht:=bR hk
 have key:∀(q:Value) ,side→q.oneCell'=true→(∀b n c w,b.isNone=r→(binOp op t (.slice b n c) (.slice none 0 0)).run P w = .ok q w)→OpOk P o st (.p (.v q)) [] [] st.nx:=fun q hs h1 h2 =>
  aT fun ρ F a w hin=>by
   have e1:=hin x (by simp [ho,Op.operands])
   have e2:=hin y (by simp [ho,Op.operands])
   obtain⟨b,n,c,hu,hb⟩:=hr hs ρ F w _ e1
   rw [hy] at e2
   refine⟨q,?_,.ofV h1⟩
   simp only [execOp,ho,hu,e2.pv,Sem.run_bind,nM,Result.andThen_ok,h2 b n c w hb,Sem.run_pure]
 refine⟨fun v T u nx h=>?_,fun s v T u nx h hs=>?_⟩
 ·cases op<;>simp [dL,R.pureS] at h
 ·cases op<;>simp only [dL,R.pureS,R.okS.injEq] at h
  all_goals first
   | ((obtain⟨rfl,rfl,rfl,rfl,rfl⟩:=h);exact key _ hs rfl (fun b n c w hb=>by simp [binOp,y6 ht,hb]))
   | cases h
theorem qB (op:BinOp) (t:TypeId) (x y:Operand) (a b:Option Addr) (w:World):(eqGuard op t x y (.pointer a) (.pointer b)).run P w = .ok () w:=by
 cases op<;>simp [eqGuard]
theorem oz {o:Oper} {st:AS} {op:BinOp} {t t':TypeId} {x y:Operand} (ho:o.op = .binOp op t x y t') {r:Bool}
 (hr:∀(ρ:am) (F:aA) (w:World) (u v:Value),Rd ρ F w (ev st x) u→Rd ρ F w (ev st y) v→∃a b,u = .pointer a∧v = .pointer b∧∀(d:Nat) (w':World),(Op.equalIn (d+1) t (.pointer a) (.pointer b)).run P w' = .ok r w') :
 (∀v T u nx,dL st op True r = .ok v T u nx→OpOk P o st v T u nx)∧(∀s v T u nx,dL st op True r = .okS s v T u nx→s→OpOk P o st v T u nx):=by
 have key:∀(q:Value),q.oneCell'=true→(∀a b w,(Op.equal t (.pointer a) (.pointer b)).run P w = .ok r w→(binOp op t (.pointer a) (.pointer b)).run P w = .ok q w)→OpOk P o st (.p (.v q)) [] [] st.nx:=fun q h1 h2 =>
  aT fun ρ F a w hin=>by
   have e1:=hin x (by simp [ho,Op.operands])
   have e2:=hin y (by simp [ho,Op.operands])
   obtain⟨a',b',hu,hv,he⟩:=hr ρ F w _ _ e1 e2
   refine⟨q,?_,.ofV h1⟩
   simp only [execOp,ho,hu,hv,Sem.run_bind,qB,Result.andThen_ok,h2 a' b' w (he 9999 w),Sem.run_pure]
 refine⟨fun v T u nx h=>?_,fun s v T u nx h hs=>?_⟩
 ·cases op<;>simp [dL,R.pureS] at h
 ·cases op<;>simp only [dL,R.pureS,R.okS.injEq] at h
  all_goals first
   | ((obtain⟨rfl,rfl,rfl,rfl,rfl⟩:=h);exact key _ rfl (fun a b w hb=>by simp [binOp,hb]))
   | cases h
theorem oA {o:Oper} {st:AS} {x:Operand} (hx0:x∈o.op.operands.toList) {id:Nat} (hx:ev st x = .ptr id 0) {k:Blk} (hk:hget st.hp id=some k) (hc:1≤k.cs.length)
 (hrun:∀(a:Act) (w:World) (b:Nat) (arr:Array Value) (fr:Nat×Nat),a.eval x = .pointer (some ⟨b,0,none⟩)→w.heap[b]?=some (.cells arr k.t fr)→k.cs.length≤arr.size→(execOp a.eval o).run P w = .ok (.value (.pointer (some ⟨b,0,none⟩))) w) :
 OpOk P o st (.ptr id 0) [id] [] st.nx where
 tri ρ F a w hpre hin K Q hK:=by
  have hr:=hin x hx0
  rw [hx] at hr
  obtain⟨b,hb,hv⟩:=hr.ptrInv
  have hrs:restr [id] (hget st.hp) id=some k:=by simp [restr,hk]
  rcases hpre.hp.ok id k hrs with ⟨_,h0⟩|⟨b2,hb2,hblk⟩
  ·rw [h0] at hb;cases hb
  rw [hb] at hb2;cases hb2
  obtain⟨arr,fr,ha,hfr,hlen,_⟩:=hblk.is (.inl hc)
  unfold Oper.wp
  rw [hrun a w b arr fr hv ha hlen]
  refine hK _ ρ F w ⟨fun _ _ h=>h,fun i h1 h2=>absurd h1 h2,fun i b h1 h2=>(by rw [h1] at h2;cases h2),.ptr _ _ b hb,?_,hpre.fok,Chg.refl _ _ _⟩
  have:restr ([id]++keys []) (updH [] (hget st.hp))=restr [id] (hget st.hp):=by funext i;simp [restr,keys,updH]
  rw [this]
  exact hpre.hp
 le:=Nat.le_refl _
 keysOk i hi:=by simp [keys] at hi
 live i hi:=by simp at hi;subst hi;rw [hk];simp
theorem oB {w:World} {b:Nat} {arr:Array Value} {t:TypeId} {fr:Nat×Nat} (h:w.heap[b]?=some (.cells arr t fr)):w.shape? b=some (t,arr.size):=by unfold World.shape?;rw [h]
theorem ua {e:TypeId} {count:Nat} (h:1≤count) (he:¬P.cellsOf e=0):liesAt P P.depth e count 0 e 1=true:=by
 have hd:P.depth=(2*(P.types.size+Made.depth)+1)+1:=rfl
 rw [hd]
 simp only [liesAt,Bool.or_eq_true]
 left
 rw [hd]
 simp [rowAt,h,he,sameLayout]
theorem uc {o:Oper} {st:AS} {s d:TypeId} {x:Operand} (ho:o.op = .convert s d x) {id:Nat} (hx:ev st x = .ptr id 0) (hs:(ae P s).kind = .ptr) (hd:(ae P d).kind = .uptr)
 {k:Blk} (hk:hget st.hp id=some k) (hc:1≤k.cs.length) (hss:1≤(ae P (ae P s).elem).size):OpOk P o st (.ptr id 0) [id] [] st.nx :=
 oA (by simp [ho,Op.operands]) hx hk hc (fun a w b arr fr hv ha hlen=>by
  obtain⟨dd,j,_,hj,hz⟩:=bB (P:=P) (t:=(ae P s).elem) hss
  have:=Lib.run_to_unsafe (P:=P) w ⟨b,0,none⟩ (kJ hs) (xJ hd) hj (by have:1≤bz P (ae P s).elem:=hss;omega) (oB ha) (show 0<arr.size by omega)
  simp only [execOp,ho,hv,Sem.run_bind,this,Result.andThen_ok,Sem.run_pure])
theorem qC {o:Oper} {st:AS} {s d:TypeId} {x:Operand} (ho:o.op = .convert s d x) {id:Nat} (hx:ev st x = .ptr id 0) (hs:(ae P s).kind = .uptr) (hd:(ae P d).kind = .ptr)
 {k:Blk} (hk:hget st.hp id=some k) (hds:1≤(ae P (ae P d).elem).size) (hc:(ae P (ae P d).elem).size≤k.cs.length) (ht:k.t=(ae P d).elem):OpOk P o st (.ptr id 0) [id] [] st.nx :=
 oA (by simp [ho,Op.operands]) hx hk (by omega) (fun a w b arr fr hv ha hlen=>by
  obtain⟨dd,j,_,hj,hz⟩:=bB (P:=P) (t:=(ae P d).elem) hds
  rw [ht] at ha
  have hc':P.cellsOf (ae P d).elem=bz P (ae P d).elem:=by unfold Program.cellsOf;rw [hj];exact hz
  have hds':1≤bz P (ae P d).elem:=hds
  have hle:bz P (ae P d).elem≤arr.size:=Nat.le_trans hc hlen
  have:=Lib.run_from_unsafe (P:=P) w ⟨b,0,none⟩ (xJ hs) (kJ hd) hj (oB ha) (ua (by rw [hc'];exact (Nat.le_div_iff_mul_le hds').2 (by omega)) (by rw [hc'];omega))
  simp only [execOp,ho,hv,Sem.run_bind,this,Result.andThen_ok,Sem.run_pure])
def xM (st:AS):AV→R
 | .sl id off n _ => .pureS st (1≤n) (.ptr id off)
 | _ => .bad
theorem qD {o:Oper} {st:AS} {x:Operand} {t:TypeId} (ho:o.op = .call ⟨.builtin .unsafeSliceData,#[x],#[t]⟩) {id off n s:Nat} (hx:ev st x = .sl id off n s) (hn:1≤n):OpOk P o st (.ptr id off) [] [] st.nx :=
 aT fun ρ F a w hin=>by
  have hr:=hin x (by simp [ho,Op.operands,Call.operands])
  rw [hx] at hr
  rcases hr.slInv with ⟨h0,_⟩|⟨b,cap,hb,hv,hcap,_⟩
  ·omega
  ·refine⟨_,?_,.ptr _ _ b hb⟩
   have:=Lib.run_unsafeSliceData_row (P:=P) w #[t] o.type ⟨b,off,none⟩ n cap (by omega)
   simp only [execOp,ho,resolve,invoke,builtin,Sem.run_bind,Sem.run_pure,Result.andThen_ok,List.map_toArray,List.map_cons,List.map_nil,hv,this]
def xN (st:AS) (et:TypeId) (es:Nat) (ek:TK):AV→AV→R
 | .ptr id off,.p (.v (.int .i64 n))=>match Nat.beq off 0,Nat.beq es 1,ek,hget st.hp id with
  | true,true,.int .u8,some b => .okS (1≤n∧n.toNat≤b.cs.length∧n≤9223372036854775807∧b.t=et∧jc (b.cs.take n.toNat)∧om (dJ (b.cs.take n.toNat))) (.p (.v (strOf (cZ (dJ (b.cs.take n.toNat)))))) [id] [(id,none)] st.nx
  | _,_,_,_ => .bad
 | _,_ => .bad
theorem D4 {o:Oper} {st:AS} {x y:Operand} {pt it:TypeId} (ho:o.op = .call ⟨.builtin .unsafeString,#[x,y],#[pt,it]⟩) (hpt:(ae P pt).kind = .ptr) {id:Nat} (hx:ev st x = .ptr id 0) {n:Int} (hy:ev st y = .p (.v (.int .i64 n)))
 (hes:(ae P (ae P pt).elem).size=1) {k:Blk} (hk:hget st.hp id=some k) (h1:1≤n) (hn:n.toNat≤k.cs.length) (h63:n≤9223372036854775807) (ht:k.t=(ae P pt).elem) (hp:jc (k.cs.take n.toNat)) (hb:om (dJ (k.cs.take n.toNat))) :
 OpOk P o st (.p (.v (strOf (cZ (dJ (k.cs.take n.toNat)))))) [id] [(id,none)] st.nx where
 tri ρ F a w hpre hin K Q hK:=by
  have hr:=hin x (by simp [ho,Op.operands,Call.operands])
  have hr2:=hin y (by simp [ho,Op.operands,Call.operands])
  rw [hx] at hr;rw [hy] at hr2
  obtain⟨b,hb',hv⟩:=hr.ptrInv
  have hrs:restr [id] (hget st.hp) id=some k:=by simp [restr,hk]
  rcases hpre.hp.ok id k hrs with ⟨_,h0⟩|⟨b2,hb2,hblk⟩
  ·rw [h0] at hb';cases hb'
  rw [hb'] at hb2;cases hb2
  obtain⟨arr,fr,ha,hfr,hlen,hc⟩:=hblk.is (.inl (by omega))
  have hblt:b<w.heap.size:=(Array.getElem?_eq_some_iff.1 ha).1
  have hes':1≤bz P (ae P pt).elem:=by have:bz P (ae P pt).elem=1:=hes;omega
  obtain⟨dd,j,_,hj,hz⟩:=bB (P:=P) (t:=(ae P pt).elem) hes'
  have hcell1:P.cellsOf (ae P pt).elem=1:=by unfold Program.cellsOf;rw [hj];exact hz.trans hes
  have hll:(cZ (dJ (k.cs.take n.toNat))).length=n.toNat:=by simp [cZ,dJ];omega
  have hln:((cZ (dJ (k.cs.take n.toNat))).length:Int)=n:=by rw [hll];omega
  rw [ht] at ha
  have hrun:=Lib.run_unsafeString_row (P:=P) w pt it o.type (ae P pt).elem (kJ hpt) hcell1 b arr.size (oB ha) (cZ (dJ (k.cs.take n.toNat))) (fun e=>by rw [e] at hll;simp at hll;omega) (by omega) (by omega) (fun j x hx=>by
   rw [cE,Nat.zero_add]
   have hjl:j<n.toNat:=by rw [← hll];exact (List.getElem?_eq_some_iff.1 hx).1
   have hj1:j<(k.cs.take n.toNat).length:=by simp;omega
   have hget':(k.cs.take n.toNat)[j]?=some (k.cs.take n.toNat)[j]:=List.getElem?_eq_getElem hj1
   have hkj:k.cs[j]?=some (k.cs.take n.toNat)[j]:=by rw [← hget',List.getElem?_take,if_pos hjl]
   have hrj:=(hc _ _ hkj).2
   have hpj:=hp _ (List.getElem_mem hj1)
   have hbj:=hb (unP (k.cs.take n.toNat)[j]) (by unfold dJ;exact List.mem_map.2 ⟨_,List.getElem_mem hj1,rfl⟩)
   have e1:(k.cs.take n.toNat)[j] = .p (unP (k.cs.take n.toNat)[j]):=by
    revert hpj
    cases (k.cs.take n.toNat)[j]<;>intro hpj<;>first|rfl|exact hpj.elim
   have e2:unB (unP (k.cs.take n.toNat)[j])=x:=by
    simp only [cZ,dJ,List.getElem?_map,hget',Option.map_some,Option.some.injEq] at hx
    exact hx
   rw [e1,r9 hbj,e2] at hrj
   have hval:=hrj.pv
   have:=gF ha (i:=j) (by omega)
   rw [this,hval])
  rw [hln] at hrun
  have hl0:¬(cZ (dJ (k.cs.take n.toNat))).length=0:=by omega
  have hex:(execOp a.eval o).run P w = .ok (.value (strOf (cZ (dJ (k.cs.take n.toNat))))) (w.freeze ⟨b,0,none⟩ (cZ (dJ (k.cs.take n.toNat))).length):=by
   simp only [execOp,ho,resolve,invoke,builtin,Sem.run_bind,Sem.run_pure,Result.andThen_ok,List.map_toArray,List.map_cons,List.map_nil,hv,hr2.pv,hrun,strOf]
  generalize (cZ (dJ (k.cs.take n.toNat))).length=m at *
  obtain⟨fq,hnew⟩:∃fq,(w.freeze ⟨b,0,none⟩ m).heap[b]?=some (.cells arr (ae P pt).elem fq):=by
   unfold World.freeze
   rw [if_neg hl0]
   obtain⟨lo,hi⟩:=fr
   simp [Array.getElem?_modify,ha]
  have hold:∀c,c≠b→(w.freeze ⟨b,0,none⟩ m).heap[c]?=w.heap[c]?:=fun c hc=>by
   unfold World.freeze
   rw [if_neg hl0]
   have hne:¬b=c:=fun e=>hc e.symm
   simp only [Array.getElem?_modify,if_neg hne]
  have hsz:(w.freeze ⟨b,0,none⟩ m).heap.size=w.heap.size:=by
   unfold World.freeze
   rw [if_neg hl0]
   simp
  unfold Oper.wp
  rw [hex]
  refine hK _ ρ F _ ⟨fun _ _ h=>h,fun i h1 h2=>absurd h1 h2,fun i b h1 h2=>(by rw [h1] at h2;cases h2),.ofV rfl,⟨fun i k' h=>?_,fun i j b' h=>?_⟩,?_,?_⟩
  ·simp [restr,updH,keys,hget] at h
   obtain⟨h1,h2⟩:=h
   subst h1
   simp at h2
  ·simp [restr,updH,keys,hget] at h
   obtain⟨h1,h2⟩:=h
   subst h1
   simp at h2
  ·intro c hcF
   rw [hsz]
   exact hpre.fok c hcF
  ·refine⟨?_,?_,?_,by rw [hsz];exact Nat.le_refl _,fun c _ hO=>hold c (fun e=>hO ⟨id,by simp [keys],by rw [e];exact hb'⟩),⟨fun c m hcm=>?_,fun c hcm=>?_⟩,fun c hcF=>hcF,fun c hcF => .inl hcF⟩
   ·unfold World.freeze;rw [if_neg hl0]
   ·unfold World.freeze;rw [if_neg hl0]
   ·unfold World.freeze;rw [if_neg hl0]
   ·obtain⟨ar2,t2,fr2,hb2,hm2⟩:=hcm
    by_cases e:c=b
    ·subst e
     rw [ha] at hb2
     cases hb2
     exact⟨arr,_,_,hnew,hm2⟩
    ·exact⟨ar2,t2,fr2,by rw [hold c e];exact hb2,hm2⟩
   ·obtain⟨es2,c2,hb2⟩:=hcm
    by_cases e:c=b
    ·subst e
     rw [ha] at hb2
     cases hb2
    ·exact⟨es2,c2,by rw [hold c e];exact hb2⟩
 le:=Nat.le_refl _
 keysOk i hi:=by simp [keys] at hi;exact .inl (by simp [hi])
 live i hi:=by simp at hi;subst hi;rw [hk];simp
def D5 (st:AS) (ti:TI):AV→R
 | .p (.v (.slice _ _ c))=>match ti.kind with | .slice => .pure st (.i c)|_ => .bad
 | _ => .bad
theorem Gh {o:Oper} {st:AS} {t:TypeId} {x:Operand} (ho:o.op = .call ⟨.builtin .cap,#[x],#[t]⟩) (hk:(ae P t).kind = .slice) {A:Option Addr} {n c:Nat} (hx:ev st x = .p (.v (.slice A n c))) :
 OpOk P o st (.i c) [] [] st.nx :=
 aT fun ρ F a w hin=>by
  have e1:=hin x (by simp [ho,Op.operands,Call.operands])
  rw [hx] at e1
  refine⟨.int .i64 c,?_,.ofV rfl⟩
  simp [execOp,ho,resolve,invoke,builtin,e1.pv,Builtin.cap_,run_underlying (bR hk),goInt]
theorem ud {o:Oper} {st:AS} {t:TypeId} {x:Operand} {lo hi:Option Operand} (ho:o.op = .slice t x lo hi none) (hx:ev st x = .p (.v (.slice none 0 0))) (hk:(ae P t).kind = .slice) (hpos:1≤(ae P (ae P t).elem).size)
 {l h:Int} (hb:wj st lo hi none 0 l h) (h0:0≤l) (h1:l≤h) (h2:h≤0):OpOk P o st (.p (.v (.slice none 0 0))) [] [] st.nx :=
 aT fun ρ F a w hin=>by
  obtain⟨hx1,hin'⟩:=gY ho
  have hr:=hin x hx1
  rw [hx] at hr
  obtain⟨m,hm1,hm2,hrun⟩:=jd (P:=P) (len:=0) (cap:=0) hb (fun y hy=>hin y (hin' y hy)) h0 h1 h2 (Nat.le_refl _) true
  simp only [Option.map_none] at hrun
  have hm:m=0:=by omega
  have hl:l.toNat=0:=by omega
  have hh:h.toNat=0:=by omega
  obtain⟨d,i,hd,hi,hz⟩:=bB (P:=P) (t:=(ae P t).elem) hpos
  refine⟨_,?_,.ofV rfl⟩
  simp [execOp,ho,hr.pv,Instr.sliceAt,run_underlying (bR hk),Instr.slice,hrun,hm,hl,hh,sizeOf,typeInfo,hi]
def qV (st:AS) (ti ei:TI) (dst:AV):AV→R
 | .p (.v (.int _ m))=>match ti.kind,ei.zero,Nat.ble 1 ei.size with
  | .slice,some z,true=>match Nat.beq z.length ei.size,dst with
   | true,.p (.v (.slice none 0 0)) => .okS (0≤m∧m*(ei.bytes:Int)≤140737488355328∧m≤9223372036854775807) (.sl st.nx 0 m.toNat ei.size) [] [(st.nx,some ⟨ti.elem,[]⟩)] (st.nx+1)
   | _,_ => .bad
  | _,_,_ => .bad
 | _ => .bad
theorem ue {t t' ty e:TypeId} {i:TypeInfo} {z:Value} {kt k:IntKind} (ht:P.underlying t=some (.slice e)) (ht':P.underlying t'=some (.int kt)) (hi:P.info? e=some i) (hz:i.zero=some z) (hp:1≤i.size) {m:Nat} {w:World}
 (h63:m≤9223372036854775807) (hb:m*i.bytes≤140737488355328) :
 (0<m→(Builtin.append_ #[t,t'] ty #[.slice none 0 0,.int k m]).run P w =
  .ok (.slice (some ⟨w.heap.size,0,none⟩) m (grownCap w m 0 e)) (w.drew.alloc (.cells (Builtin.zeroCells z.cells m++Builtin.zeroCells z.cells (grownCap w m 0 e-m)) e))) ∧
 (m=0→(Builtin.append_ #[t,t'] ty #[.slice none 0 0,.int k m]).run P w = .ok (.slice none 0 0) w):=by
 have hw:IntKind.i64.wrap (m:Int)=m:=by rw [IntKind.wrap_i64];omega
 refine⟨fun hg=>?_,fun hm=>?_⟩
 ·have hn:¬(m≤0):=by omega
  have h0:¬((m:Int)<0):=by omega
  have h63':¬(9223372036854775807<(m:Int)):=by omega
  have h48:=growslice_fits (need:=m) (old:=0) (bytes:=i.bytes) hg hb
  have h48':¬(281474976710656<Builtin.nextslicecap m 0*i.bytes):=by omega
  have hb':¬(281474976710656<(m:Int)*(i.bytes:Int)):=by
   rw [← Int.natCast_mul];omega
  have hm0:¬m=0:=by omega
  have hms:¬(m*i.size=0):=by have:=Nat.mul_le_mul hg hp;omega
  simp [Builtin.append_,run_underlying ht,run_underlying ht',sizeOf,typeInfo,zeroValue,hi,hz,asInt,asIntOf,hw,hn,h0,h63',hb',h48',Question.forced,newRow,grownCap,hms,hm0,Builtin.firstCells]
 ·subst hm
  have hw0:IntKind.i64.wrap (0:Int)=0:=by rw [IntKind.wrap_i64];decide
  simp [Builtin.append_,run_underlying ht,run_underlying ht',sizeOf,typeInfo,hi,asInt,asIntOf,hw0]
theorem ww {o:Oper} {st:AS} {t t':TypeId} {x y:Operand} (ho:o.op = .call ⟨.builtin .append,#[x,y],#[t,t']⟩) {kt:IntKind} (ht':(ae P t').kind = .int kt) {s:Prop} {v:AV} {T:List Nat} {u:List (Nat×Option Blk)} {nx:Nat}
 (h:qV st (ae P t) (ae P (ae P t).elem) (ev st x) (ev st y) = .okS s v T u nx) (hs:s):OpOk P o st v T u nx:=by
 unfold qV at h
 split at h
 ·rename_i ky m hy
  split at h
  ·rename_i hk hz0 hpos
   rename_i z
   have hpos':=Nat.le_of_ble_eq_true hpos
   obtain⟨i,zv,hi,hzv,rfl⟩:=gZ hz0
   obtain⟨d,i',hd,hi',hz⟩:=bB (P:=P) (t:=(ae P t).elem) hpos'
   rw [hi] at hi';cases hi'
   have hsz:(ae P (ae P t).elem).size=i.size:=by rw [eD,hz]
   have hby:(ae P (ae P t).elem).bytes=i.bytes:=by show ((P.info? (ae P t).elem).map (·.bytes)).getD 0=i.bytes;rw [hi];rfl
   have ht:=bR hk
   split at h
   ·rename_i hzl hx
    simp only [R.okS.injEq] at h
    obtain⟨rfl,rfl,rfl,rfl,rfl⟩:=h
    obtain⟨h0,hb,h63⟩:=hs
    rw [hby] at hb
    obtain⟨m,rfl⟩:=Int.eq_ofNat_of_zero_le h0
    refine⟨?_,Nat.le_succ _,fun j hj=>?_,fun j hj=>by simp at hj⟩
    ·intro ρ F a w hpre hin K Q hK
     have hrx:=hin x (by simp [ho,Op.operands,Call.operands])
     have hry:=hin y (by simp [ho,Op.operands,Call.operands])
     rw [hx] at hrx;rw [hy] at hry
     have hid:=hpre.fresh st.nx (by simp [keys]) (by simp)
     have hbn:m*i.bytes≤140737488355328:=by
      have:((m*i.bytes:Nat):Int)≤140737488355328:=by rw [Int.natCast_mul];exact hb
      omega
     obtain⟨hgrow,hstay⟩:=ue (P:=P) (ty:=o.type) (k:=ky) (m:=m) (w:=w) ht (kL ht') hi hzv (by rw [← hsz];exact hpos') (by omega) hbn
     unfold Oper.wp
     have hpref:∀r,(Builtin.append_ #[t,t'] o.type #[.slice none 0 0,.int ky m]).run P w=r→(execOp a.eval o).run P w=r.andThen fun v w => .ok (.value v) w:=by
      intro r hr
      simp only [execOp,ho,resolve,invoke,builtin,Sem.run_bind,Sem.run_pure,Result.andThen_ok,List.map_toArray,List.map_cons,List.map_nil,hrx.pv,hry.pv,hr]
     by_cases hm:m=0
     ·rw [hpref _ (hstay hm)]
      subst hm
      refine hK _ ρ F w ⟨fun _ _ h=>h,fun i h1 h2=>absurd h1 h2,fun i b h1 h2=>(by rw [h1] at h2;cases h2),.slz _ _ _ _,⟨fun i k hk=>?_,fun i j b hi hj h1 h2=>?_⟩,hpre.fok,Chg.refl _ _ _⟩
      ·obtain⟨hi,hk⟩:=aJ hk
       have:i=st.nx:=by simpa [keys] using hi
       subst this
       simp [updH,keys,hget] at hk
       subst hk
       exact .inl ⟨rfl,hid⟩
      ·obtain⟨k,hk⟩:=Option.ne_none_iff_exists'.1 hi
       obtain⟨hi,hk⟩:=aJ hk
       have:i=st.nx:=by simpa [keys] using hi
       subst this
       rw [hid] at h1;cases h1
     ·rw [hpref _ (hgrow (by omega))]
      have hpost:=Post.newBlk (h:=hget st.hp) (w1:=w.drew) (t:=(ae P t).elem) (cs:=[]) hpre.fok hid (arr:=Builtin.zeroCells zv.cells m++Builtin.zeroCells zv.cells (grownCap w m 0 (ae P t).elem-m)) (by simp) (fun j c hj=>by simp at hj) rfl rfl rfl rfl (v := .sl st.nx 0 m (ae P (ae P t).elem).size) (x := .slice (some ⟨w.heap.size,0,none⟩) m (grownCap w m 0 (ae P t).elem)) (by
       have hge:=grownCap_ge w m 0 (ae P t).elem
       refine .sl _ _ _ _ w.heap.size _ (by simp [c5]) hge ⟨_,_,_,heap_alloc_new w.drew _,?_⟩
       have hzs:zv.cells.size=i.size:=by rw [← hsz];simpa using Nat.eq_of_beq_eq_true hzl
       simp only [Array.size_append,size_zeroCells,hzs,hsz,Nat.zero_add,←Nat.add_mul]
       rw [Nat.add_sub_cancel' hge]
       exact Nat.le_refl _)
      exact hK _ _ F _ hpost
    ·simp [keys] at hj;subst hj;exact .inr ⟨Nat.le_refl _,Nat.lt_succ_self _⟩
   ·cases h
  ·cases h
 ·cases h
end Go.Abs
namespace Go.Abs
set_option linter.unusedSimpArgs false
set_option linter.unusedVariables false
open Go Go.RowKit Go.Maps Go.MapKept Go.ChangeMaps
open Go.WideElems (Fit rd rg)
variable {P : Program}
def gB (k:Int) (v:List UInt8):ag→ag
 | []=>[(k,v)]
 | y::r=>if k<y.1 then (k,v)::y::r else y::gB k v r
def iE (k:Int) (s:ag):ag:=s.filter fun e=>decide (e.1≠k)
def wx (k:Int) (v:List UInt8) (s:ag):ag:=gB k v (iE k s)
def fK (k:Int):ag→List UInt8
 | []=>[]
 | y::r=>if y.1=k then y.2 else fK k r
noncomputable def unT (t:TypeId):ag:=@dite _ (∃s,cJ s=t) (Classical.propDecidable _) (fun h=>Classical.choose h) (fun _=>[])
theorem oC (s:ag):unT (cJ s)=s:=by
 have h:∃s',cJ s'=cJ s:=⟨s,rfl⟩
 unfold unT
 rw [dif_pos h]
 exact AM (Classical.choose_spec h)
def qE (e:Ent):List Ent→List Ent
 | []=>[e]
 | y::r=>if e.1<y.1 then e::y::r else y::qE e r
def uf (k:Int) (E:List Ent):List Ent:=E.filter fun e=>decide (e.1≠k)
theorem oD (e:Ent):∀E,db (qE e E)=gB e.1 e.2.1 (db E)
 | []=>rfl
 | y::r=>by
  have ih:=oD e r
  unfold db at *
  simp only [qE,List.map_cons,gB]
  split
  ·rfl
  ·rw [List.map_cons,ih]
theorem ug (e:Ent):∀E,entries (qE e E)=DataW.insert (.int .i64 e.1,.held e.2.2) (entries E)
 | []=>rfl
 | y::r=>by
  have ih:=ug e r
  unfold entries at *
  simp only [qE,List.map_cons,DataW.insert,Lit.before,decide_eq_true_eq]
  split
  ·rfl
  ·rw [List.map_cons,ih]
theorem oE (k:Int) (E:List Ent):db (uf k E)=iE k (db E):=by
 unfold db uf iE
 rw [List.filter_map];rfl
theorem uh (k:Int) (E:List Ent):entries (uf k E)=(entries E).filter (notKey (.int .i64 k)):=by
 unfold entries uf
 rw [List.filter_map]
 congr 1
 refine List.filter_congr fun e _=>?_
 simp [notKey,Lit.sameKey]
theorem ui {e x:Ent}:∀{E},x∈qE e E→x=e∨x∈E
 | [],h=>by simp [qE] at h;exact .inl h
 | y::r,h=>by
  simp only [qE] at h
  split at h
  ·rcases List.mem_cons.1 h with h|h
   ·exact .inl h
   ·exact .inr h
  ·rcases List.mem_cons.1 h with h|h
   ·exact .inr (by simp [h])
   ·rcases ui h with h|h
    ·exact .inl h
    ·exact .inr (by simp [h])
theorem y7 {P P':Program} {k k':TypeId} (h:P.underlying k=some (.int .i64)) (h':P'.underlying k'=some (.int .i64)) (v:Value):keyOf P k v=keyOf P' k' v:=by
 unfold keyOf mapKey
 rw [h,h']
theorem A2 {P P':Program} {k k':TypeId} (h:P.underlying k=some (.int .i64)) (h':P'.underlying k'=some (.int .i64)) (x:MapEntry):rd P k RV x=rd P' k' RV x:=by
 unfold WideElems.rd
 rw [y7 h h']
theorem Gi {P P':Program} {k k':TypeId} (h:P.underlying k=some (.int .i64)) (h':P'.underlying k'=some (.int .i64)):rg P k RV=rg P' k' RV:=by
 funext x
 unfold WideElems.rg
 rw [A2 h h']
theorem uj {P P':Program} {k k':TypeId} (h:P.underlying k=some (.int .i64)) (h':P'.underlying k'=some (.int .i64)) {w:World} {b n:Nat} {D:DataW Value} (ho:w.ownsMap P k RV b n D):w.ownsMap P' k' RV b n D:=by
 obtain⟨es,c,hb,hF,hs,hD⟩:=ho
 refine⟨es,c,hb,⟨hF.size,hF.stamped,fun x hx=>?_⟩,hs,?_⟩
 ·obtain⟨y,hy⟩:=hF.reads x hx
  exact⟨y,by rw [← A2 h h'];exact hy⟩
 ·rw [hD,Gi h h']
theorem Post.wrMap {ρ:am} {F:aA} {w w':World} {id b:Nat} {s':ag} {h:ba} {v:AV} {x:Value} (hf:FOk F w) (hF:¬F b) (hid:ρ id=some b) (hold:isMapO w b)
 (e2:w'.os=w.os) (e3:w'.tape=w.tape) (e4:w'.output=w.output) (hs:w'.heap.size=w.heap.size) (ho:∀k,k≠b→w'.heap[k]?=w.heap[k]?) (hm:MapIs F w' b s') (hv:Rd ρ F w v x) :
 Post ρ F w [id] [(id,some ⟨cJ s',[]⟩)] h v x ρ F w':=by
 have hsame:∀k,F k→w'.heap[k]?=w.heap[k]?:=fun k hk=>ho k (fun e=>hF (e ▸ hk))
 have hchg:Chg (OSet ρ (keys [(id,some (⟨cJ s',[]⟩:Blk))])) F F w w':=by
  refine⟨e2,e3,e4,by omega,fun k _ hn=>ho k (fun e=>hn ⟨id,by simp [keys],by rw [e];exact hid⟩),⟨fun k n hc=>?_,fun k hk=>?_⟩,fun _ h=>h,fun _ h => .inl h⟩
  ·have hne:k≠b:=fun e=>hold.no (n:=n) (by rw [← e];exact hc)
   obtain⟨arr,t,fr,hb,hn⟩:=hc
   exact⟨arr,t,fr,(ho k hne).trans hb,hn⟩
  ·by_cases e:k=b
   ·rw [e];exact hm.obj
   ·obtain⟨es,c,hb⟩:=hk
    exact⟨es,c,(ho k e).trans hb⟩
 refine⟨fun _ _ h=>h,fun i h1 h2=>absurd h1 h2,fun i b h1 h2=>(by rw [h1] at h2;cases h2),hv.mono (fun _ _ h=>h) (fun _ h=>h) hsame hchg.cells,⟨fun i k hk=>?_,fun i j c hi hj _ _=>?_⟩,fun k hk=>Nat.lt_of_lt_of_le (hf k hk) hchg.size,hchg⟩
 ·obtain⟨hi,hk⟩:=aJ hk
  simp [keys] at hi
  subst hi
  simp [updH,keys,hget] at hk
  subst hk
  exact .inr ⟨b,hid,⟨hF,.inr ⟨rfl,s',rfl,hm⟩⟩⟩
 ·have key:∀i,restr ([id]++keys [(id,some (⟨cJ s',[]⟩:Blk))]) (updH [(id,some ⟨cJ s',[]⟩)] h) i≠none→i=id:=fun i hi=>by
   unfold restr at hi
   split at hi
   ·rename_i hm;simpa [keys] using hm
   ·exact absurd rfl hi
  rw [key i hi,key j hj]
theorem Post.newMap {ρ:am} {F:aA} {w:World} {id:Nat} {h:ba} (hf:FOk F w) (hid:ρ id=none) :
 Post ρ F w [] [(id,some ⟨cJ [],[]⟩)] h (.mp id) (.map (some w.heap.size)) (c5 ρ id w.heap.size) F (w.alloc (.map #[] 0)):=by
 have hne:∀b,¬OSet ρ (keys [(id,some (⟨cJ [],[]⟩:Blk))]) b:=by
  rintro b ⟨i,hi,hb⟩
  simp [keys] at hi
  subst hi
  rw [hid] at hb;cases hb
 have hrho:∀i b,ρ i=some b→c5 ρ id w.heap.size i=some b:=fun i b hb=>by
  unfold c5;split
  ·subst_vars;rw [hid] at hb;cases hb
  ·exact hb
 have hobj:isMapO (w.alloc (.map #[] 0)) w.heap.size:=⟨#[],0,heap_alloc_new w _⟩
 have hmap:MapIs F (w.alloc (.map #[] 0)) w.heap.size []:=⟨hobj,[],rfl,fun P k _=>World.ownsMap_made w P k RV,fun e he=>by cases he⟩
 refine⟨hrho,fun i h1 h2=>?_,fun i b h1 h2=>?_,.mp _ _ (by simp [c5]) hobj,⟨fun i k hk=>?_,fun i j b hi hj _ _=>?_⟩,fun b hb=>Nat.lt_of_lt_of_le (hf b hb) (Chg.alloc (fun _=>False) F w (.map #[] 0)).size,Chg.alloc _ F w _⟩
 ·unfold c5 at h2;split at h2
  ·subst_vars;simp [keys]
  ·exact absurd h1 h2
 ·unfold c5 at h2;split at h2
  ·left;cases h2;exact Nat.le_refl _
  ·rw [h1] at h2;cases h2
 ·obtain⟨hi,hk⟩:=aJ hk
  simp [keys] at hi
  subst hi
  simp [updH,keys,hget] at hk
  subst hk
  exact .inr ⟨w.heap.size,by simp [c5],⟨fun hF=>absurd (hf _ hF) (Nat.lt_irrefl _),.inr ⟨rfl,[],rfl,hmap⟩⟩⟩
 ·have key:∀i,restr ([]++keys [(id,some (⟨cJ [],[]⟩:Blk))]) (updH [(id,some ⟨cJ [],[]⟩)] h) i≠none→i=id:=fun i hi=>by
   unfold restr at hi
   split at hi
   ·rename_i hm;simpa [keys] using hm
   ·exact absurd rfl hi
  rw [key i hi,key j hj]
def sb (P:Program) (t:TypeId):Bool :=
 match P.underlying t with
 | some (.map k e)=>match P.underlying k,(P.info? e).bind (·.zero) with
  | some (.int .i64),some (.slice none 0 0)=>true
  | _,_=>false
 | _=>false
def IY (P:Program) (t:TypeId):TypeId:=match P.underlying t with|some (.map _ e)=>e|_=>0
def A3 (P:Program) (t:TypeId):TypeId:=match P.underlying t with|some (.map k _)=>k|_=>0
theorem nR {t:TypeId} (h:sb P t=true):∃k e,P.underlying t=some (.map k e)∧P.underlying k=some (.int .i64)∧∀w:World,(zeroValue e).run P w = .ok (.slice none 0 0) w:=by
 unfold sb at h
 split at h
 ·rename_i k e ht
  split at h
  ·rename_i hk hz
   refine⟨k,e,ht,hk,fun w=>?_⟩
   cases hi:P.info? e with
   | none=>rw [hi] at hz;simp at hz
   | some i =>
    rw [hi] at hz
    simp only [Option.bind_some] at hz
    simp [zeroValue,typeInfo,hi,hz]
  ·cases h
 ·cases h
theorem jU {ρ:am} {F:aA} {w:World} {b:Nat} {k:Blk} (h:BlkOk ρ F w b k) (hm:isMapO w b):k.cs=[]∧MapIs F w b (unT k.t):=by
 rcases h.is0 with ⟨arr,fr,ha,_⟩|⟨h1,s,hs,hmap⟩
 ·obtain⟨es,c,hb⟩:=hm
  rw [ha] at hb;cases hb
 ·rw [hs,oC];exact⟨h1,hmap⟩
theorem Rd.mpInv {ρ:am} {F:aA} {w:World} {id:Nat} {u:Value} (h:Rd ρ F w (.mp id) u):∃b,ρ id=some b∧u = .map (some b)∧isMapO w b:=by
 cases h with
 | mp _ b h hm=>exact⟨b,h,rfl,hm⟩
theorem wy {o:Oper} {st:AS} {t:TypeId} (ho:o.op = .makeMap t none):OpOk P o st (.mp st.nx) [] [(st.nx,some ⟨cJ [],[]⟩)] (st.nx+1) where
 tri ρ F a w hpre hin K Q hK:=by
  unfold Oper.wp
  have hex:(execOp a.eval o).run P w = .ok (.value (.map (some w.heap.size))) (w.alloc (.map #[] 0)):=by
   simp [execOp,ho,Instr.makeMap]
  rw [hex]
  exact hK _ _ _ _ (Post.newMap hpre.fok (hpre.fresh st.nx (by simp [keys]) (by simp)))
 le:=Nat.le_succ _
 keysOk i hi:=by simp [keys] at hi;exact .inr (by omega)
 live i hi:=by cases hi
theorem sf {k:TypeId} (hk:P.underlying k=some (.int .i64)) {n:Int} (h : -9223372036854775808≤n∧n≤9223372036854775807):keyOf P k (.int .i64 n)=some (.int .i64 n):=by
 refine keyOf_int_mk hk ?_
 have hmin:IntKind.i64.min = -9223372036854775808:=rfl
 have hmax:IntKind.i64.max=9223372036854775807:=rfl
 simp only [Lit.wf,hmin,hmax,Bool.and_eq_true,decide_eq_true_eq]
 exact h
theorem FY:∀(cs:List PV),om cs→cs=(cZ cs).map fun x => .v (.int .u8 (x.toNat:Int))
 | [],_=>rfl
 | c::cs,h=>by
  have ih:=FY cs (fun x hx=>h x (by simp [hx]))
  have hc:=h c (by simp)
  unfold cZ at *
  simp only [List.map_cons]
  rw [← ih]
  congr 1
  unfold isB at hc
  split at hc
  ·obtain⟨x,rfl⟩:=hc
   simp [unB]
  ·exact hc.elim
theorem si {o:Oper} {st:AS} {t:TypeId} {m x y:Operand} (ho:o.op = .mapUpdate t m x y) {id:Nat} (hm:ev st m = .mp id) {n:Int} (hx:ev st x = .p (.v (.int .i64 n))) {len:Nat} {cs:List PV} (hy:ev st y = .p (.data 1 len cs))
 (ht:sb P t=true) {k:Blk} (hk:hget st.hp id=some k) (hn : -9223372036854775808≤n∧n≤9223372036854775807) (hb:om cs) (hl:cs.length=len) (hs:(unT k.t).length<1000000000) :
 OpOk P o st .any [id] [(id,some ⟨cJ (wx n (cZ cs) (unT k.t)),[]⟩)] st.nx where
 tri ρ F a w hpre hin K Q hK:=by
  have h1:=hin m (by simp [ho,Op.operands])
  have h2:=hin x (by simp [ho,Op.operands])
  have h3:=hin y (by simp [ho,Op.operands])
  rw [hm] at h1
  rw [hx] at h2
  rw [hy] at h3
  obtain⟨b,hb',hv1,hobj⟩:=h1.mpInv
  have hv2:=h2.pv
  have hr:restr [id] (hget st.hp) id=some k:=by simp [restr,hk]
  rcases hpre.hp.ok id k hr with ⟨_,h0⟩|⟨b2,hb2,hblk⟩
  ·rw [h0] at hb';cases hb'
  rw [hb'] at hb2;cases hb2
  obtain⟨_,hmap⟩:=jU hblk hobj
  obtain⟨_,E,hE,hown,hval⟩:=hmap
  obtain⟨kt,et,hut,hkt,_⟩:=nR ht
  have hlE:E.length<maxLen:=by
   have:(unT k.t).length=E.length:=by rw [hE];simp [db]
   have h2:maxLen=9223372036854775807:=rfl
   omega
  obtain⟨es,clock,hheap,hF,hsz,hD⟩:=hown P kt hkt
  have hsz':es.size<maxLen:=Nat.lt_of_le_of_lt hsz hlE
  obtain⟨es',clock',hrun,F',hput,_⟩:=fit_store (R':=RV) (yv:=(.held (a.eval y),[])) (int_keyed hkt) hut hheap hF hsz' (fun _ _ _ _ hz=>hz) (sf hkt hn) rfl
  simp only [DataW.map.injEq] at hD
  have hput2:(es'.toList.map (rg P kt RV)).foldr DataW.insert []=entries (qE (n,cZ cs,a.eval y) (uf n E)):=by
   rw [hput,←hD,ug,uh];rfl
  unfold Oper.wp
  have hex:(execOp a.eval o).run P w = .ok .skip (setBlock w b (.map es' clock')):=by
   simp [execOp,ho,hv1,hv2,hrun]
  rw [hex]
  have hdat:RdP F w (.data 1 (cZ cs).length ((cZ cs).map fun x => .v (.int .u8 (x.toNat:Int)))) (a.eval y):=by
   cases h3 with
   | p _ _ h3 =>
    rw [← FY cs hb]
    have:(cZ cs).length=len:=by simp [cZ,hl]
    rw [this];exact h3
  have hone:(a.eval y).oneCell'=true:=h3.one rfl
  have hFb:∀c,F c→(setBlock w b (.map es' clock')).heap[c]?=w.heap[c]?:=fun c hc=>heap_setBlock_other hheap _ (fun e=>hblk.own (e ▸ hc))
  refine hK undef ρ F _ (Post.wrMap hpre.fok hblk.own hb' hobj rfl rfl rfl (by simp [setBlock]) (fun c hc=>heap_setBlock_other hheap _ hc) ?_ (.any _))
  refine⟨⟨es',clock',heap_setBlock_same hheap _⟩,qE (n,cZ cs,a.eval y) (uf n E),?_,fun P' k' hk'=>?_,fun e he=>?_⟩
  ·rw [oD,oE,←hE];rfl
  ·refine uj hkt hk' ⟨es',clock',heap_setBlock_same hheap _,F',?_,by rw [hput2]⟩
   have e1:es'.size=((es'.toList.map (rg P kt RV)).foldr DataW.insert []).length:=by rw [length_sorted];simp
   rw [e1,hput2];simp [entries]
  ·rcases ui he with rfl|he
   ·exact⟨hone,hdat.mono (fun _ h=>h) hFb⟩
   ·have:=hval e (List.mem_filter.1 he).1
    exact⟨this.1,this.2.mono (fun _ h=>h) hFb⟩
 le:=Nat.le_refl _
 keysOk i hi:=by simp [keys] at hi;exact .inl (by simp [hi])
 live i hi:=by simp at hi;subst hi;rw [hk];simp
theorem sj {o:Oper} {st:AS} {t kt0:TypeId} {m x:Operand} (ho:o.op = .call ⟨.builtin .delete,#[m,x],#[t,kt0]⟩) {id:Nat} (hm:ev st m = .mp id) {n:Int} (hx:ev st x = .p (.v (.int .i64 n)))
 (ht:sb P t=true) (hkt0:P.underlying t=some (.map kt0 (IY P t))) {k:Blk} (hk:hget st.hp id=some k) (hn : -9223372036854775808≤n∧n≤9223372036854775807) :
 OpOk P o st .any [id] [(id,some ⟨cJ (iE n (unT k.t)),[]⟩)] st.nx where
 tri ρ F a w hpre hin K Q hK:=by
  have h1:=hin m (by simp [ho,Op.operands,Call.operands])
  have h2:=hin x (by simp [ho,Op.operands,Call.operands])
  rw [hm] at h1
  rw [hx] at h2
  obtain⟨b,hb',hv1,hobj⟩:=h1.mpInv
  have hv2:=h2.pv
  have hr:restr [id] (hget st.hp) id=some k:=by simp [restr,hk]
  rcases hpre.hp.ok id k hr with ⟨_,h0⟩|⟨b2,hb2,hblk⟩
  ·rw [h0] at hb';cases hb'
  rw [hb'] at hb2;cases hb2
  obtain⟨_,hmap⟩:=jU hblk hobj
  obtain⟨_,E,hE,hown,hval⟩:=hmap
  obtain⟨kt,et,hut,hkt,_⟩:=nR ht
  obtain rfl:kt=kt0:=by rw [hut] at hkt0;injection hkt0 with h;injection h
  obtain⟨es,clock,hheap,hF,hsz,hD⟩:=hown P kt hkt
  obtain⟨es',hrun,F',hsz',hdel,_⟩:=fit_drop (R:=RV) (ty:=o.type) (int_keyed hkt) hut hheap hF (sf hkt hn)
  simp only [DataW.map.injEq] at hD
  have hdel2:(es'.toList.map (rg P kt RV)).foldr DataW.insert []=entries (uf n E):=by
   rw [hdel,←hD,uh];rfl
  unfold Oper.wp
  have hex:(execOp a.eval o).run P w = .ok (.value (.tuple #[])) (setBlock w b (.map es' clock)):=by
   simp [execOp,ho,resolve,invoke,builtin,hv1,hv2,hrun]
  rw [hex]
  have hFb:∀c,F c→(setBlock w b (.map es' clock)).heap[c]?=w.heap[c]?:=fun c hc=>heap_setBlock_other hheap _ (fun e=>hblk.own (e ▸ hc))
  refine hK _ ρ F _ (Post.wrMap hpre.fok hblk.own hb' hobj rfl rfl rfl (by simp [setBlock]) (fun c hc=>heap_setBlock_other hheap _ hc) ?_ (.any _))
  refine⟨⟨es',clock,heap_setBlock_same hheap _⟩,uf n E,?_,fun P' k' hk'=>?_,fun e he=>?_⟩
  ·rw [oE,←hE]
  ·refine uj hkt hk' ⟨es',clock,heap_setBlock_same hheap _,F',?_,by rw [hdel2]⟩
   have e1:es'.size=((es'.toList.map (rg P kt RV)).foldr DataW.insert []).length:=by rw [length_sorted];simp
   rw [e1,hdel2];simp [entries]
  ·have:=hval e (List.mem_filter.1 he).1
   exact⟨this.1,this.2.mono (fun _ h=>h) hFb⟩
 le:=Nat.le_refl _
 keysOk i hi:=by simp [keys] at hi;exact .inl (by simp [hi])
 live i hi:=by simp at hi;subst hi;rw [hk];simp
theorem qW (n:Int) (z:DataW Value):∀E:List Ent,(DataW.map (entries E)).atKey (.int .i64 n) z=z∧fK n (db E)=[]∧(∀e,e∈E→e.1≠n)∨∃e,e∈E∧(DataW.map (entries E)).atKey (.int .i64 n) z = .held e.2.2∧fK n (db E)=e.2.1
 | [] => .inl ⟨rfl,rfl,fun e he=>by cases he⟩
 | y::r=>by
  by_cases h:y.1=n
  ·refine .inr ⟨y,by simp,?_,?_⟩
   ·simp [DataW.atKey,entries,Lit.sameKey,h]
   ·simp [db,fK,h]
  ·have e1:(DataW.map (entries (y::r))).atKey (.int .i64 n) z=(DataW.map (entries r)).atKey (.int .i64 n) z:=by
    simp [DataW.atKey,entries,Lit.sameKey,h]
   have e2:fK n (db (y::r))=fK n (db r):=by simp [db,fK,h]
   rw [e1,e2]
   rcases qW n z r with ⟨h1,h2,h3⟩|⟨e,he,h1,h2⟩
   ·exact .inl ⟨h1,h2,fun e he=>by rcases List.mem_cons.1 he with rfl|he;exact h;exact h3 e he⟩
   ·exact .inr ⟨e,by simp [he],h1,h2⟩
theorem sm {o:Oper} {st:AS} {t:TypeId} {m x:Operand} (ho:o.op = .lookup t m x false) {id:Nat} (hm:ev st m = .mp id) {n:Int} (hx:ev st x = .p (.v (.int .i64 n)))
 (ht:sb P t=true) {k:Blk} (hk:hget st.hp id=some k) (hn : -9223372036854775808≤n∧n≤9223372036854775807) :
 OpOk P o st (.p (.data 1 (fK n (unT k.t)).length ((fK n (unT k.t)).map bt))) [id] [] st.nx where
 tri ρ F a w hpre hin K Q hK:=by
  have h1:=hin m (by simp [ho,Op.operands])
  have h2:=hin x (by simp [ho,Op.operands])
  rw [hm] at h1
  rw [hx] at h2
  obtain⟨b,hb',hv1,hobj⟩:=h1.mpInv
  have hv2:=h2.pv
  have hr:restr [id] (hget st.hp) id=some k:=by simp [restr,hk]
  rcases hpre.hp.ok id k hr with ⟨_,h0⟩|⟨b2,hb2,hblk⟩
  ·rw [h0] at hb';cases hb'
  rw [hb'] at hb2;cases hb2
  obtain⟨_,hmap⟩:=jU hblk hobj
  obtain⟨_,E,hE,hown,hval⟩:=hmap
  obtain⟨kt,et,hut,hkt,hz⟩:=nR ht
  obtain⟨v,ps,hrun,hR⟩:=(hown P kt hkt).lookup (int_keyed hkt) hut (hz w) (zd := .held (.slice none 0 0)) (zp:=[]) rfl (sf hkt hn)
  simp only [RV,Option.some.injEq,Prod.mk.injEq] at hR
  have hrd:RdP F w (.data 1 (fK n (unT k.t)).length ((fK n (unT k.t)).map bt)) v:=by
   rw [hE]
   rcases qW n (.held (.slice none 0 0)) E with ⟨g1,g2,_⟩|⟨e,he,g1,g2⟩
   ·rw [g1] at hR
    obtain⟨hR,_⟩:=hR
    cases hR
    rw [g2]
    exact .nil _ _ _
   ·rw [g1] at hR
    obtain⟨hR,_⟩:=hR
    cases hR
    rw [g2]
    exact (hval e he).2
  unfold Oper.wp
  have hex:(execOp a.eval o).run P w = .ok (.value v) w:=by
   simp [execOp,ho,hv1,hv2,hrun]
  rw [hex]
  refine hK _ ρ F w ⟨fun _ _ h=>h,fun i h1 h2=>absurd h1 h2,fun i b h1 h2=>(by rw [h1] at h2;cases h2),.p _ _ hrd,?_,hpre.fok,Chg.refl _ _ _⟩
  have:restr ([id]++keys []) (updH [] (hget st.hp))=restr [id] (hget st.hp):=by funext i;simp [restr,keys,updH]
  rw [this]
  exact hpre.hp
 le:=Nat.le_refl _
 keysOk i hi:=by simp [keys] at hi
 live i hi:=by simp at hi;subst hi;rw [hk];simp
noncomputable def xO (st:AS) (mk:Bool):AV→AV→AV→R
 | .mp id,.p (.v (.int .i64 n)),.p (.data 1 len cs)=>match mk,hget st.hp id with
  | true,some b => .okS ((-9223372036854775808≤n∧n≤9223372036854775807)∧om cs∧cs.length=len∧(unT b.t).length<1000000000) .any [id] [(id,some ⟨cJ (wx n (cZ cs) (unT b.t)),[]⟩)] st.nx
  | _,_ => .bad
 | _,_,_ => .bad
noncomputable def xP (st:AS) (mk same:Bool):AV→AV→R
 | .mp id,.p (.v (.int .i64 n))=>match mk,same,hget st.hp id with
  | true,true,some b => .okS (-9223372036854775808≤n∧n≤9223372036854775807) .any [id] [(id,some ⟨cJ (iE n (unT b.t)),[]⟩)] st.nx
  | _,_,_ => .bad
 | _,_ => .bad
noncomputable def sn (st:AS) (mk:Bool):AV→AV→R
 | .mp id,.p (.v (.int .i64 n))=>match mk,hget st.hp id with
  | true,some b => .okS (-9223372036854775808≤n∧n≤9223372036854775807) (.p (.data 1 (fK n (unT b.t)).length ((fK n (unT b.t)).map bt))) [id] [] st.nx
  | _,_ => .bad
 | _,_ => .bad
end Go.Abs
namespace Go.Abs
set_option linter.unusedSimpArgs false
set_option linter.unusedVariables false
open Go Go.RowKit
variable {P : Program}
def TK.isNone:TK→Bool
 | .none=>true
 | _=>false
def TK.isIface:TK→Bool
 | .iface=>true
 | _=>false
def isK:Operand→Bool
 | .const _=>true
 | _=>false
def uk (st:AS) (same isC:Bool) (et:TypeId) (ss ds:Nat) (sk dk se de:TK):AV→R
 | .p (.v (.int _ n))=>match dk,sk.isNone with
  | .int k,false => .pure st (.p (.v (.int k (k.wrap n))))
  | _,_ => .bad
 | .p (.v (.string s))=>match dk,sk,de,isC with
  | .slice,.str,.int .u8,true => .pure st (.p (.data 1 s.size (s.data.toList.map bt)))
  | .slice,.str,.int .u8,false => .ok (.sl st.nx 0 s.size 1) [] [(st.nx,some ⟨et,(s.data.toList.map bt).map .p⟩)] (st.nx+1)
  | _,_,_,_ => .bad
 | .p (.data s n cs)=>match dk,sk,se,Nat.beq s 1 with
  | .str,.slice,.int .u8,true => .pureS st (om cs) (.p (.v (strOf (cZ cs))))
  | _,_,_,_ => .bad
 | .sl id off n s=>match dk,sk,se,Nat.beq s 1,hget st.hp id with
  | .str,.slice,.int .u8,true,some b => .okS (off+n≤b.cs.length∧jc ((b.cs.drop off).take n)∧om (dJ ((b.cs.drop off).take n))) (.p (.v (strOf (cZ (dJ ((b.cs.drop off).take n)))))) [id] [] st.nx
  | .slice,.slice,.int .u8,true,some b=>match same with
   | true => .okS (off+n≤b.cs.length∧n≠0∧jc ((b.cs.drop off).take n)) (.p (.data 1 n (dJ ((b.cs.drop off).take n)))) [id] [(id,none)] st.nx
   | false => .bad
  | _,_,_,_,_ => .bad
 | .ptr id off=>match sk,dk,Nat.beq off 0,hget st.hp id with
  | .ptr,.uptr,true,some b => .okS (1≤b.cs.length∧1≤ss) (.ptr id 0) [id] [] st.nx
  | .uptr,.ptr,true,some b => .okS (1≤ds∧ds≤b.cs.length∧b.t=et) (.ptr id 0) [id] [] st.nx
  | _,_,_,_ => .bad
 | _ => .bad
def qX:Option AV→Option Int
 | none=>some 0
 | some (.p (.v (.int _ n)))=>some n
 | some _=>none
def qY (top:Int):Option AV→Option Int
 | none=>some top
 | some (.p (.v (.int _ n)))=>some n
 | some _=>none
def np (h:Option AV):Option AV→Option (Option Int)
 | none=>some none
 | some (.p (.v (.int _ n)))=>match h with
  | some _=>some (some n)
  | none=>none
 | some _=>none
def y8 (h:Int):Option Int→Prop
 | none=>True
 | some m=>m=h
def A4 (n:Nat):AV→Int
 | .p (.v (.string s))=>s.size
 | .p (.data _ n _)=>n
 | .sl _ _ n _=>n
 | .ptr _ _=>n
 | _=>0
def oF (st:AS) (k:TK) (len es:Nat) (x:AV) (l h:Option Int) (m:Option (Option Int)):R :=
 match x,l,h,m with
 | .p (.v (.string s)),some l,some h,some none=>match k with
  | .str => .pureS st (0≤l∧l≤h∧h≤s.size) (.p (.v (.string (s.extract l.toNat h.toNat))))
  | _ => .bad
 | .p (.v (.slice none 0 0)),some l,some h,some none=>match k,Nat.ble 1 es with
  | .slice,true => .pureS st (0≤l∧l≤h∧h≤0) (.p (.v (.slice none 0 0)))
  | _,_ => .bad
 | .p (.data s n cs),some l,some h,some m=>match k,Nat.beq s es,Nat.ble 1 es with
  | .slice,true,true => .pureS st (0≤l∧l≤h∧h≤n∧y8 h m) (.p (.data s (h.toNat-l.toNat) ((cs.drop (l.toNat*s)).take ((h.toNat-l.toNat)*s))))
  | _,_,_ => .bad
 | .sl id off n s,some l,some h,some m=>match k,Nat.beq s es,Nat.ble 1 es with
  | .slice,true,true => .pureS st (0≤l∧l≤h∧h≤n∧y8 h m) (.sl id (off+l.toNat*s) (h.toNat-l.toNat) s)
  | _,_,_ => .bad
 | .ptr id off,some l,some h,some m=>match k,Nat.ble 1 es,Nat.ble 1 len,hget st.hp id with
  | .array,true,true,some b => .okS (0≤l∧l≤h∧h≤len∧y8 h m∧off+len*es≤b.cs.length) (.sl id (off+l.toNat*es) (h.toNat-l.toNat) es) [id] [] st.nx
  | _,_,_,_ => .bad
 | _,_,_,_ => .bad
def D6 (st:AS):AV→R
 | .ptr id off => .pure st (.ptr id off)
 | .cp cs => .pure st (.cp cs)
 | .fn (.func f) a b => .pure st (.fn (.func f) a b)
 | .p (.v (.func (.func f) a b)) => .pure st (.p (.v (.func (.func f) a b)))
 | _ => .bad
def sq (st:AS) (t:TypeId) (k:TK) (x:AV):R :=
 match k.isIface,k.isNone with
 | false,false => .pure st (.iface t x)
 | _,_ => .bad
def ul (P:Program) (t:TypeId) (name:String):Option FuncId :=
 match P.info? t,P.underlying t with
 | some i,some d=>match i.methods.find? (·.name==name) with
  | some m=>match m.path.toList,m.func,dF (some d) with
   | [],some (f,true),.ptr=>some f
   | [],some (_,false),.ptr=>none
   | [],some (f,false),_=>some f
   | _,_,_=>none
  | none=>none
 | _,_=>none
def oG (args:List AV):AV→R
 | .p (.v (.func (.func f) a b))=>match Nat.beq a.size 0,Nat.beq b.size 0 with
  | true,true => .call f args
  | _,_ => .bad
 | .fn (.func f) a b => .call f (a++args++b)
 | _ => .bad
def unI:PV→AV
 | .agg cs => .agg (cs.map .p)
 | .v x => .p (.v x)
 | .data s n cs => .p (.data s n cs)
 | .iface t x => .p (.iface t x)
def um (args:List AV) (x:AV):Option FuncId→R
 | some f => .call f (x::args)
 | none => .bad
def nT (P:Program) (args:List AV) (name:String):AV→R
 | .iface t x=>um args x (ul P t name)
 | .p (.iface t x)=>um args (unI x) (ul P t name)
 | _ => .bad
theorem Gj {ρ:am} {F:aA} {w:World} {x:PV} {u:Value} (h:RdP F w x u):Rd ρ F w (unI x) u:=by
 cases h with
 | agg cs us hl hr =>
  refine .agg _ us (by simpa using hl) (fun j c hj=>?_)
  simp only [List.getElem?_map,Option.map_eq_some_iff] at hj
  obtain⟨y,hy,rfl⟩:=hj
  exact .p _ _ (hr j y hy)
 | v _ h1=>exact .p _ _ (.v _ h1)
 | nil s A cap=>exact .p _ _ (.nil s A cap)
 | data s n cs b off cap f hl hcap hF hc h1 hr=>exact .p _ _ (.data s n cs b off cap f hl hcap hF hc h1 hr)
 | iface t x u h=>exact .p _ _ (.iface t x u h)
noncomputable def un (P:Program) (st:AS):Builtin→List Operand→List TypeId→R
 | .len,[x],[t]=>DV st (ae P t) (ev st x)
 | .max,[x,y],_=>xD st (ev st x) (ev st y)
 | .min,[x,y],_=>xE st (ev st x) (ev st y)
 | .append,[x,y],[t,t']=>match Nat.beq t t' with
  | true=>eL st (ae P t) (ae P (ae P t).elem) (ev st x) (jk st (ae P (ae P t).elem).size (ev st y))
  | false=>match (ae P t').kind with
   | .int _=>qV st (ae P t) (ae P (ae P t).elem) (ev st x) (ev st y)
   | .str=>eL st (ae P t) (ae P (ae P t).elem) (ev st x) (jk st (ae P (ae P t).elem).size (ev st y))
   | _ => .bad
 | .cap,[x],[t]=>D5 st (ae P t) (ev st x)
 | .copy,[x,y],[t,_]=>ow st (ae P t) (ae P (ae P t).elem) (ev st x) (jk st (ae P (ae P t).elem).size (ev st y))
 | .delete,[x,y],[t,t']=>xP st (sb P t) (Nat.beq (A3 P t) t') (ev st x) (ev st y)
 | .unsafeSliceData,[x],[_]=>xM st (ev st x)
 | .unsafeString,[x,y],[pt,_]=>match (ae P pt).kind with
  | .ptr=>xN st (ae P pt).elem (ae P (ae P pt).elem).size (ae P (ae P pt).elem).kind (ev st x) (ev st y)
  | _ => .bad
 | _,_,_ => .bad
noncomputable def oH (P:Program) (st:AS) (args:List Operand) (tys:List TypeId):Callee→R
 | .builtin b=>un P st b args tys
 | .value f=>oG (evs st args) (ev st f)
 | .invoke r m=>nT P (evs st args) m (ev st r)
noncomputable def aop (P:Program) (o:Op) (st:AS):R :=
 match o with
 | .move x => .pure st (ev st x)
 | .assign x => .pure st (ev st x)
 | .pick c a b=>xA st (ev st c) (ev st a) (ev st b)
 | .alloc t=>rY st t (ae P t).zero
 | .box t x=>DT st t (ev st x)
 | .build t parts=>kM st (ae P t) (ae P (ae P t).elem).size (evp st parts.toList)
 | .buildSlice t len parts=>eY st (ae P t) (ae P (ae P t).elem) len (evp st parts.toList)
 | .load t x=>qO st (ae P t) (ev st x)
 | .store t x y=>oi st (ae P t) (ev st x) (ev st y)
 | .nilCheck x=>D6 st (ev st x)
 | .binOp op t x y _=>AO st op (ae P t).kind (eqT P t) (ae P t).flds (ev st x) (ev st y)
 | .unOp op _ x=>unR st op (ev st x)
 | .convert s d x=>uk st (Nat.beq s d) (isK x) (ae P d).elem (ae P (ae P s).elem).size (ae P (ae P d).elem).size (ae P s).kind (ae P d).kind (ae P (ae P s).elem).kind (ae P (ae P d).elem).kind (ev st x)
 | .makeInterface t x=>sq st t (ae P t).kind (ev st x)
 | .makeFunc f xs ys => .pure st (.fn f (evs st xs.toList) (evs st ys.toList))
 | .makeSlice t x y=>ou st (ae P t) (ae P (ae P t).elem) (ev st x) (ev st y)
 | .slice t x lo hi mx=>oF st (ae P t).kind (ae P t).len (ae P (ae P t).elem).size (ev st x) (qX (lo.map (ev st))) (qY (A4 (ae P t).len (ev st x)) (hi.map (ev st))) (np (hi.map (ev st)) (mx.map (ev st)))
 | .fieldAddr t x f=>oj st (ev st x) (ae P t).flds[f]?
 | .field t x f=>ol st (ev st x) (ae P t).flds[f]?
 | .indexAddr t x y=>oo st (ae P t) (ae P (ae P t).elem).size (ev st x) (ev st y)
 | .index t x y=>tR st (ae P t) (ae P (ae P t).elem).size (ae P (ae P t).elem).kind (ev st x) (ev st y)
 | .extract x i=>lr st i (ev st x)
 | .call c=>oH P st c.args.toList c.argTypes.toList c.callee
 | .makeMap _ none => .ok (.mp st.nx) [] [(st.nx,some ⟨cJ [],[]⟩)] (st.nx+1)
 | .mapUpdate t m x y=>xO st (sb P t) (ev st m) (ev st x) (ev st y)
 | .lookup t m x false=>sn st (sb P t) (ev st m) (ev st x)
 | _ => .bad
def AopOk (P:Program) (o:Oper) (st:AS) (r:R):Prop :=
 (∀v T u nx,r = .ok v T u nx→OpOk P o st v T u nx)∧(∀s v T u nx,r = .okS s v T u nx→s→OpOk P o st v T u nx)
theorem AopOk.bad {o:Oper} {st:AS}:AopOk P o st .bad:=⟨fun _ _ _ _ h=>(by cases h),fun _ _ _ _ _ h=>by cases h⟩
theorem AopOk.call {o:Oper} {st:AS} {f:FuncId} {vs:List AV}:AopOk P o st (.call f vs):=⟨fun _ _ _ _ h=>(by cases h),fun _ _ _ _ _ h=>by cases h⟩
theorem AopOk.pure {o:Oper} {st:AS} {v:AV} (h:OpOk P o st v [] [] st.nx):AopOk P o st (.pure st v) :=
 ⟨fun _ _ _ _ e=>by simp only [R.pure,R.ok.injEq] at e;obtain⟨rfl,rfl,rfl,rfl⟩:=e;exact h,fun _ _ _ _ _ e=>by cases e⟩
theorem AopOk.ok {o:Oper} {st:AS} {v:AV} {T:List Nat} {u:List (Nat×Option Blk)} {nx:Nat} (h:OpOk P o st v T u nx):AopOk P o st (.ok v T u nx) :=
 ⟨fun _ _ _ _ e=>by simp only [R.ok.injEq] at e;obtain⟨rfl,rfl,rfl,rfl⟩:=e;exact h,fun _ _ _ _ _ e=>by cases e⟩
theorem AopOk.okS {o:Oper} {st:AS} {s:Prop} {v:AV} {T:List Nat} {u:List (Nat×Option Blk)} {nx:Nat} (h:s→OpOk P o st v T u nx):AopOk P o st (.okS s v T u nx) :=
 ⟨fun _ _ _ _ e=>(by cases e),fun _ _ _ _ _ e hs=>by simp only [R.okS.injEq] at e;obtain⟨rfl,rfl,rfl,rfl,rfl⟩:=e;exact h hs⟩
theorem AopOk.pureS {o:Oper} {st:AS} {s:Prop} {v:AV} (h:s→OpOk P o st v [] [] st.nx):AopOk P o st (.pureS st s v):=AopOk.okS h
theorem lx {st:AS} {lo hi mx:Option Operand} {top:Int} {l h:Int} {m:Option Int} (h1:qX (lo.map (ev st))=some l) (h2:qY top (hi.map (ev st))=some h) (h3:np (hi.map (ev st)) (mx.map (ev st))=some m) (hm:y8 h m) :
 wj st lo hi mx top l h:=by
 refine⟨?_,?_,?_⟩
 ·cases lo with
  | none=>simp [qX] at h1;exact .inl ⟨rfl,h1.symm⟩
  | some x =>
   simp only [Option.map_some] at h1
   unfold qX at h1
   split at h1
   ·rename_i e;cases e
   ·rename_i k n e
    injection h1 with h1;subst h1
    exact .inr ⟨x,k,rfl,by injection e⟩
   ·cases h1
 ·cases hi with
  | none =>
   simp [qY] at h2
   refine .inl ⟨rfl,h2.symm,?_⟩
   cases mx with
   | none=>rfl
   | some x =>
    simp only [Option.map_none,Option.map_some] at h3
    unfold np at h3
    split at h3
    ·rename_i e;cases e
    ·cases h3
    ·cases h3
  | some x =>
   simp only [Option.map_some] at h2
   unfold qY at h2
   split at h2
   ·rename_i e;cases e
   ·rename_i k n e
    injection h2 with h2;subst h2
    exact .inr ⟨x,k,rfl,by injection e⟩
   ·cases h2
 ·cases mx with
  | none=>exact .inl rfl
  | some x =>
   simp only [Option.map_some] at h3
   unfold np at h3
   split at h3
   ·rename_i e;cases e
   ·rename_i k n e
    split at h3
    ·injection h3 with h3;subst h3
     simp only [y8] at hm
     subst hm
     exact .inr ⟨x,k,rfl,by injection e⟩
    ·cases h3
   ·cases h3
theorem uo {o:Oper} {st:AS} {t:TypeId} {x:Operand} {lo hi:Option Operand} (ho:o.op = .slice t x lo hi none) {s:ByteArray} (hx:ev st x = .p (.v (.string s))) (hk:(ae P t).kind = .str)
 {l h:Int} (hb:wj st lo hi none s.size l h) (h0:0≤l) (h1:l≤h) (h2:h≤s.size):OpOk P o st (.p (.v (.string (s.extract l.toNat h.toNat)))) [] [] st.nx :=
 aT fun ρ F a w hin=>by
  obtain⟨hx1,hin'⟩:=gY ho
  have hr:=hin x hx1
  rw [hx] at hr
  obtain⟨m,hm1,hm2,hrun⟩:=jd (P:=P) hb (fun y hy=>hin y (hin' y hy)) h0 h1 h2 (Nat.le_refl _) false
  simp only [Option.map_none] at hrun
  refine⟨_,?_,.ofV rfl⟩
  simp [execOp,ho,hr.pv,Instr.sliceAt,run_underlying (jf hk),Instr.slice,hrun]
theorem y9 {o:Oper} {st:AS} {t:TypeId} {parts:Array (Nat×Operand)} (ho:o.op = .build t parts):AopOk P o st (kM st (ae P t) (ae P (ae P t).elem).size (evp st parts.toList)):=by
 refine⟨fun v T u nx h=>AZ ho h,fun s v T u nx h=>?_⟩
 unfold kM at h
 repeat' split at h
 all_goals cases h
theorem sr {o:Oper} {st:AS} {t:TypeId} {len:Nat} {parts:Array (Nat×Operand)} (ho:o.op = .buildSlice t len parts):AopOk P o st (eY st (ae P t) (ae P (ae P t).elem) len (evp st parts.toList)):=by
 refine⟨fun v T u nx h=>t7 ho h,fun s v T u nx h=>?_⟩
 unfold eY at h
 repeat' split at h
 all_goals cases h
theorem A5 {o:Oper} {st:AS} {t:TypeId} {x y:Operand} (ho:o.op = .makeSlice t x y):AopOk P o st (ou st (ae P t) (ae P (ae P t).elem) (ev st x) (ev st y)):=by
 refine⟨fun v T u nx h=>?_,fun s v T u nx h hs=>D1 ho h hs⟩
 unfold ou at h
 repeat' split at h
 all_goals cases h
theorem up {st:AS} {ti ei:TI} {x:AV} {s:Src} (h:ti.kind ≠ .slice):eL st ti ei x s = .bad:=by
 unfold eL
 split
 ·split
  ·rename_i hk _ _;exact absurd hk h
  ·rfl
 ·rfl
theorem oI {o:Oper} {st:AS} {t t':TypeId} {x y:Operand} (ho:o.op = .call ⟨.builtin .append,#[x,y],#[t,t']⟩) {dt:TypeDesc} (hdt:P.underlying t'=some dt) (hni:∀k,dt ≠ .int k) :
 AopOk P o st (eL st (ae P t) (ae P (ae P t).elem) (ev st x) (jk st (ae P (ae P t).elem).size (ev st y))):=by
 refine⟨fun v T u nx h=>?_,fun s v T u nx h hs=>y5 ho hdt hni h hs⟩
 unfold eL at h
 repeat' split at h
 all_goals cases h
theorem A6 {o:Oper} {st:AS} {t:TypeId} {x:Operand} (ho:o.op = .load t x):AopOk P o st (qO st (ae P t) (ev st x)):=by
 cases hx:ev st x with
 | ptr id off =>
  simp only [qO]
  cases hk:hget st.hp id with
  | none=>exact .bad
  | some k =>
   simp only [xB]
   split
   ·rename_i h2
    exact .okS fun h1=>tS ho hx hk (Nat.le_of_ble_eq_true h2) h1
   ·exact .bad
 | cp cs =>
  simp only [qO]
  split
  ·rename_i h1 h2
   refine .pureS fun hl=>?_
   have:=qS ho hx (Nat.le_of_ble_eq_true h2) hl (dfl (ae P t).kind)
   have h1':(dF (P.underlying t)).agg=true:=h1
   rw [if_pos h1'] at this
   exact this
  ·rename_i h1 h2
   refine .pureS fun hl=>?_
   have:=qS ho hx (Nat.le_of_ble_eq_true h2) hl (dfl (ae P t).kind)
   have h1':¬(dF (P.underlying t)).agg=true:=by
    have:(dF (P.underlying t)).agg=false:=h1
    rw [this];simp
   rw [if_neg h1'] at this
   exact this
  ·exact .bad
 | _=>exact .bad
theorem za {o:Oper} {st:AS} {t:TypeId} {x y:Operand} (ho:o.op = .store t x y):AopOk P o st (oi st (ae P t) (ev st x) (ev st y)):=by
 cases hx:ev st x with
 | ptr id off =>
  simp only [oi]
  cases hk:hget st.hp id with
  | none=>exact .bad
  | some k =>
   simp only [rZ]
   split
   ·rename_i h1 h2 h3
    exact .okS fun hl=>AR ho hx hk h1 hl (Nat.eq_of_beq_eq_true h2) (Nat.le_of_ble_eq_true h3)
   ·exact .bad
 | _=>exact .bad
theorem qZ (d:PV) (xs:List AV) (o:Nat) (x:AV) (h:aS d (xs.drop o)=x) (hx:x ≠ .p d):xs[o]?=some x:=by
 cases hd:xs.drop o with
 | nil=>rw [hd] at h;simp [aS] at h;exact absurd h.symm hx
 | cons c r =>
  rw [hd] at h
  simp only [aS] at h
  subst h
  have:=List.getElem?_drop (xs:=xs) (i:=o) (j:=0)
  rw [hd] at this
  simpa using this.symm
theorem wz {ρ:am} {F:aA} {w:World} {t:TypeId} {x y:AV} {u v:Value} {b:Bool} {d:Nat} (h:iB (dF (P.underlying t)) x y=some b) (hx:Rd ρ F w x u) (hy:Rd ρ F w y v) (w':World):(Op.equalIn (d+1) t u v).run P w' = .ok b w':=by
 cases hu:P.underlying t with
 | none=>rw [hu] at h;simp [dF,iB] at h
 | some dd =>
  rw [hu] at h
  unfold iB at h
  split at h
  ·rename_i hk
   split at h
   ·rename_i hij
    cases h
    have e1:=hx.pv
    have e2:=hy.pv
    subst e1 e2
    rename_i k i a j b' _
    have:i=j:=by cases i<;>cases j<;>simp_all [eqK]
    subst this
    cases dd<;>simp [dF] at hk
    exact run_equalIn_int w' d t _ _ _ _ hu
   ·cases h
  ·rename_i hk
   cases h
   have e1:=hx.pv
   have e2:=hy.pv
   subst e1 e2
   cases dd<;>simp [dF] at hk
   exact run_equalIn_bool' w' d t _ _ hu
  ·rename_i hk
   cases h
   have e1:=hx.pv
   have e2:=hy.pv
   subst e1 e2
   cases dd<;>simp [dF] at hk
   exact run_equalIn_string w' d t _ _ hu
  ·cases h
theorem zb {k:TK} {x y:AV} {b:Bool} (h:iB k x y=some b):x ≠ .p (.v undef)∧y ≠ .p (.v undef)∧k.agg=false:=by
 unfold iB at h
 split at h
 ·exact⟨by simp [undef],by simp [undef],rfl⟩
 ·exact⟨by simp [undef],by simp [undef],rfl⟩
 ·exact⟨by simp [undef],by simp [undef],rfl⟩
 ·cases h
theorem ly {t:TypeId} {xs:Array Value} {o:Nat} {v:Value} (hk:(dF (P.underlying t)).agg=false) (hu:P.underlying t≠none) (hv:xs[o]?=some v) (w:World):(part t xs o).run P w = .ok v w:=by
 cases h:P.underlying t with
 | none=>exact absurd h hu
 | some d=>cases d<;>simp [h,dF,TK.agg] at hk<;>simp [part,isAgg,run_underlying h,hv]
theorem oJ {ρ:am} {F:aA} {w:World} {cs ds:List AV} {us vs:Array Value} (hz:us.size=cs.length) (hz':vs.size=ds.length) (hr:∀j c,cs[j]?=some c→Rd ρ F w c (us.getD j undef)) (hr':∀j c,ds[j]?=some c→Rd ρ F w c (vs.getD j undef)) (d:Nat) (w':World) :
 ∀(fs:List Field) (b:Bool),(∀f,f∈fs→f.name≠"_")→iC (fs.map fun f=>(f.offset,bz P f.type,dF (P.underlying f.type))) cs ds=some b→(Op.eqFields (d+1) us vs fs).run P w' = .ok b w'
 | [],b,_,h=>by simp [iC] at h;subst h;simp [Op.eqFields]
 | f::fs,b,hn,h=>by
  simp only [List.map_cons,iC] at h
  cases hc:iB (dF (P.underlying f.type)) (aS (.v undef) (cs.drop f.offset)) (aS (.v undef) (ds.drop f.offset)) with
  | none=>rw [hc] at h;simp [AN] at h
  | some b1 =>
   cases hq:iC (fs.map fun f=>(f.offset,bz P f.type,dF (P.underlying f.type))) cs ds with
   | none=>rw [hc,hq] at h;simp [AN] at h
   | some b2 =>
    rw [hc,hq] at h
    simp only [AN,Option.some.injEq] at h
    obtain⟨n1,n2,n3⟩:=zb hc
    have g1:=qZ _ _ _ _ rfl n1
    have g2:=qZ _ _ _ _ rfl n2
    have r1:=hr _ _ g1
    have r2:=hr' _ _ g2
    have l1:f.offset<us.size:=by rw [hz];exact (List.getElem?_eq_some_iff.1 g1).1
    have l2:f.offset<vs.size:=by rw [hz'];exact (List.getElem?_eq_some_iff.1 g2).1
    have q1:us[f.offset]?=some (us.getD f.offset undef):=by simp [l1]
    have q2:vs[f.offset]?=some (vs.getD f.offset undef):=by simp [l2]
    have hu:P.underlying f.type≠none:=fun e=>by rw [e] at hc;simp [dF,iB] at hc
    simp only [Op.eqFields,if_pos (hn f (by simp)),Sem.run_bind,ly n3 hu q1,ly n3 hu q2,Result.andThen_ok,wz hc r1 r2 w']
    cases b1 with
    | false=>simp at h;subst h;simp
    | true =>
     simp at h;subst h
     simpa using oJ hz hz' hr hr' d w' fs b2 (fun f hf=>hn f (by simp [hf])) hq
theorem A7 {o:Oper} {st:AS} {op:BinOp} {t t':TypeId} {x y:Operand} (ho:o.op = .binOp op t x y t') (hk:(ae P t).kind = .struct) {xs ys:List AV} (hx:ev st x = .agg xs) (hy:ev st y = .agg ys) :
 AopOk P o st (wc st op (iC (ae P t).flds xs ys) (eqT P t)):=by
 obtain⟨fs,hu⟩:=qT hk
 cases hb:iC (ae P t).flds xs ys with
 | none=>simp only [wc];exact .bad
 | some b =>
  cases hq:eqT P t with
  | false=>simp only [wc];exact .bad
  | true =>
   simp only [eqT,hu,Bool.and_eq_true,Bool.not_eq_true',List.all_eq_true,bne_iff_ne,ne_eq] at hq
   obtain⟨⟨hn,hs⟩,hg⟩:=hq
   have hfl:(ae P t).flds=fs.toList.map fun f=>(f.offset,bz P f.type,dF (P.underlying f.type)):=by simp [ae,nP,hu]
   rw [hfl] at hb
   have hfo:P.fieldsOf t=fs:=by simp [Program.fieldsOf,hu]
   have key:∀(r:Bool),(∀us vs w,(Op.equalIn 10000 t (.agg us) (.agg vs)).run P w = .ok b w→(binOp op t (.agg us) (.agg vs)).run P w = .ok (.bool r) w)→OpOk P o st (.b r) [] [] st.nx:=fun r hr =>
    aT fun ρ F a w hin=>by
     have e1:=hin x (by simp [ho,Op.operands])
     have e2:=hin y (by simp [ho,Op.operands])
     rw [hx] at e1;rw [hy] at e2
     obtain⟨us,hp,hz,hr1⟩:=e1.aggInv
     obtain⟨vs,hp',hz',hr2⟩:=e2.aggInv
     refine⟨.bool r,?_,.ofV rfl⟩
     have hrun:(Op.equalIn 10000 t (.agg us) (.agg vs)).run P w = .ok b w:=by
      rw [run_equalIn_agg w 9999 t us vs (by rw [hfo];exact hu) hs,hfo]
      exact oJ hz hz' hr1 hr2 9998 w fs.toList b hn hb
     simp only [execOp,ho,hp,hp',Sem.run_bind,run_eqGuard_agg w op t x y us vs hg,Result.andThen_ok,hr us vs w hrun,Sem.run_pure]
   simp only [wc]
   cases op<;>first
    | exact .bad
    | exact .pure (key _ (fun us vs w h=>by rw [run_eql_struct,h];rfl))
    | exact .pure (key _ (fun us vs w h=>by rw [run_neq_struct,h];rfl))
theorem D7 {o:Oper} {st:AS} {op:BinOp} {t t':TypeId} {x y:Operand} (ho:o.op = .binOp op t x y t'):AopOk P o st (AO st op (ae P t).kind (eqT P t) (ae P t).flds (ev st x) (ev st y)):=by
 unfold AO
 split
 ·rename_i hx hy
  exact AP ho hx hy
 ·rename_i a b hx hy
  have key:∀r:Value,r.oneCell'=true→(∀w,(binOp op t (.string a) (.string b)).run P w = .ok r w)→OpOk P o st (.p (.v r)) [] [] st.nx:=fun r h1 h2 =>
   we ho hx hy (fun w=>by rw [Sem.run_bind,qz];exact h2 w) h1
  cases op<;>simp only [DU]<;>first
   | exact .bad
   | exact .pure (key _ rfl (fun w=>by simp [binOp,Op.stringOp]))
   | skip
  refine .pureS fun hs=>key _ rfl (fun w=>?_)
  have:¬(IntKind.i64.max<((a.size+b.size:Nat):Int)):=by
   have:IntKind.i64.max=9223372036854775807:=rfl
   omega
  simp [binOp,Op.stringOp]
  simp at this
  omega
 ·rename_i a b hx hy
  cases hk:(ae P t).kind with
  | bool =>
   have hu:=DX hk
   have key:∀r:Value,r.oneCell'=true→(∀w,(binOp op t (.bool a) (.bool b)).run P w = .ok r w)→OpOk P o st (.p (.v r)) [] [] st.nx:=fun r h1 h2 =>
    we ho hx hy (fun w=>by rw [Sem.run_bind,oq];exact h2 w) h1
   have heq0:∀(d:Nat) (w:World),(Op.equalIn (d+1) t (.bool a) (.bool b)).run P w = .ok (a==b) w:=fun d w=>by simp [Op.equalIn,run_underlying hu]
   have heq:∀w,(Op.equal t (.bool a) (.bool b)).run P w = .ok (a==b) w:=fun w=>heq0 9999 w
   cases op<;>simp only [xC]<;>first
    | exact .bad
    | exact .pure (key _ rfl (fun w=>by simp [binOp,heq]))
  | _=>exact .bad
 ·rename_i hx hy
  split
  ·rename_i hk
   exact lv ho hk hy (fun hn ρ F w u hr=>by
    rw [hx] at hr
    rcases hr.dataInv with ⟨h0,_,_⟩|⟨b,off,cap,f,hv,_⟩
    ·exact absurd h0 hn
    ·exact⟨_,_,_,hv,rfl⟩)
  ·exact .bad
 ·rename_i hx hy
  split
  ·rename_i hk
   exact lv ho hk hy (fun hn ρ F w u hr=>by
    rw [hx] at hr
    rcases hr.slInv with ⟨h0,_⟩|⟨b,cap,hb,hv,_⟩
    ·exact absurd h0 hn
    ·exact⟨_,_,_,hv,rfl⟩)
  ·exact .bad
 ·rename_i hx hy
  split
  ·rename_i hk
   exact lv ho hk hy (fun hn ρ F w u hr=>by
    rw [hx] at hr
    exact⟨_,_,_,hr.pv,rfl⟩)
  ·exact .bad
 ·rename_i hx hy
  split
  ·rename_i hk
   exact lv ho hk hy (fun hn ρ F w u hr=>by
    rw [hx] at hr
    exact⟨_,_,_,hr.pv,rfl⟩)
  ·exact .bad
 ·rename_i xs ys hx hy
  split
  ·rename_i hk
   exact A7 ho hk hx hy
  ·exact .bad
 ·rename_i hx hy
  split
  ·rename_i hk
   exact oz ho (fun ρ F w u v hu hv=>by
    rw [hx] at hu;rw [hy] at hv
    exact⟨_,_,hu.pv,hv.pv,fun d w'=>by simp [Op.equalIn,run_underlying (kJ hk)]⟩)
  ·exact .bad
 ·rename_i hx hy
  split
  ·rename_i hk
   exact oz ho (fun ρ F w u v hu hv=>by
    rw [hx] at hu;rw [hy] at hv
    obtain⟨b,_,rfl⟩:=hu.ptrInv
    exact⟨_,_,rfl,hv.pv,fun d w'=>by simp [Op.equalIn,run_underlying (kJ hk)]⟩)
  ·exact .bad
 ·rename_i i a j b hx hy
  split
  ·rename_i hk hq hij hab
   have e1:=Nat.eq_of_beq_eq_true hij
   have e2:=Nat.eq_of_beq_eq_true hab
   subst e1 e2
   have hinf:∃jj,P.info? (ae P t).elem=some jj:=by
    unfold eqT at hq
    rw [kJ hk] at hq
    exact Option.isSome_iff_exists.1 hq
   obtain⟨jj,hjj⟩:=hinf
   exact oz ho (fun ρ F w u v hu hv=>by
    rw [hx] at hu;rw [hy] at hv
    obtain⟨b1,h1,rfl⟩:=hu.ptrInv
    obtain⟨b2,h2,rfl⟩:=hv.ptrInv
    rw [h1] at h2;cases h2
    exact⟨_,_,rfl,rfl,fun d w'=>by simp [Op.equalIn,run_underlying (kJ hk),sizeOf,typeInfo,hjj,run_sameAddr_same]⟩)
  ·exact .bad
 ·exact .bad
theorem Gk {o:Oper} {st:AS} {op:UnOp} {t:TypeId} {x:Operand} (ho:o.op = .unOp op t x):AopOk P o st (unR st op (ev st x)):=by
 unfold unR
 split
 ·rename_i hx;exact .pure (AU ho hx (fun w=>by simp [Op.unary]) rfl)
 ·rename_i hx;exact .pure (AU ho hx (fun w=>by simp [Op.unary,Op.intArith]) rfl)
 ·rename_i hx;exact .pure (AU ho hx (fun w=>by simp [Op.unary,Op.intBits,ko]) rfl)
 ·exact .bad
theorem A8 {o:Oper} {st:AS} {s d:TypeId} {x:Operand} (ho:o.op = .convert s d x):AopOk P o st (uk st (Nat.beq s d) (isK x) (ae P d).elem (ae P (ae P s).elem).size (ae P (ae P d).elem).size (ae P s).kind (ae P d).kind (ae P (ae P s).elem).kind (ae P (ae P d).elem).kind (ev st x)):=by
 unfold uk
 split
 ·rename_i hx
  split
  ·rename_i hd hs
   exact .pure (wo ho hx hd (fun e=>by rw [e] at hs;cases hs))
  ·exact .bad
 ·rename_i hx
  split
  ·rename_i hd hs he hc
   exact .pure (wv ho hx hs hd he)
  ·rename_i hd hs he hc
   exact .ok (t8 ho hx hs hd he)
  ·exact .bad
 ·rename_i s' n cs hx
  split
  ·rename_i hd hs he h1
   have:=Nat.eq_of_beq_eq_true h1
   subst this
   exact .pureS fun hb=>sa ho hx hd hs he hb
  ·exact .bad
 ·rename_i id off n s' hx
  split
  ·rename_i hd hs he h1 hk
   have:=Nat.eq_of_beq_eq_true h1
   subst this
   exact .okS fun hh=>wu ho hx hd hs he hk hh.1 hh.2.1 hh.2.2
  ·rename_i hd hs he h1 hk
   have:=Nat.eq_of_beq_eq_true h1
   subst this
   split
   ·rename_i hsame
    have:=Nat.eq_of_beq_eq_true hsame
    subst this
    exact .okS fun hh=>D2 ho hx hs he hk hh.1 hh.2.1 hh.2.2
   ·exact .bad
  ·exact .bad
 ·rename_i id off hx
  split
  ·rename_i hs hd h0 hk
   have:=Nat.eq_of_beq_eq_true h0
   subst this
   exact .okS fun hh=>uc ho hx hs hd hk hh.1 hh.2
  ·rename_i hs hd h0 hk
   have:=Nat.eq_of_beq_eq_true h0
   subst this
   exact .okS fun hh=>qC ho hx hs hd hk hh.1 hh.2.1 hh.2.2
  ·exact .bad
 ·exact .bad
theorem zc {o:Oper} {st:AS} {t:TypeId} {x:Operand} {lo hi mx:Option Operand} (ho:o.op = .slice t x lo hi mx) :
 AopOk P o st (oF st (ae P t).kind (ae P t).len (ae P (ae P t).elem).size (ev st x) (qX (lo.map (ev st))) (qY (A4 (ae P t).len (ev st x)) (hi.map (ev st))) (np (hi.map (ev st)) (mx.map (ev st)))):=by
 unfold oF
 split
 ·rename_i s l h hx hl hh hm
  split
  ·rename_i hk
   refine .pureS fun ⟨h0,h1,h2⟩=>?_
   have hmx:mx=none:=by
    cases mx with
    | none=>rfl
    | some y =>
     simp only [Option.map_some] at hm
     unfold np at hm
     split at hm
     ·rename_i e;cases e
     ·split at hm<;>cases hm
     ·cases hm
   subst hmx
   rw [hx] at hh
   exact uo ho hx hk (lx hl hh hm trivial) h0 h1 h2
  ·exact .bad
 ·rename_i l h hx hl hh hm
  split
  ·rename_i hk hpos
   refine .pureS fun ⟨h0,h1,h2⟩=>?_
   have hmx:mx=none:=by
    cases mx with
    | none=>rfl
    | some y =>
     simp only [Option.map_some] at hm
     unfold np at hm
     split at hm
     ·rename_i e;cases e
     ·split at hm<;>cases hm
     ·cases hm
   subst hmx
   rw [hx] at hh
   exact ud ho hx hk (Nat.le_of_ble_eq_true hpos) (lx hl hh hm trivial) h0 h1 h2
  ·exact .bad
 ·rename_i s n cs l h m hx hl hh hm
  split
  ·rename_i hk hs h1
   refine .pureS fun ⟨h0,h1',h2,h3⟩=>?_
   rw [hx] at hh
   have hs':=Nat.eq_of_beq_eq_true hs
   exact r4 ho hx hk hs'.symm (by rw [hs'];exact Nat.le_of_ble_eq_true h1) (lx hl hh hm h3) h0 h1' h2
  ·exact .bad
 ·rename_i id off n s l h m hx hl hh hm
  split
  ·rename_i hk hs h1
   refine .pureS fun ⟨h0,h1',h2,h3⟩=>?_
   rw [hx] at hh
   have hs':=Nat.eq_of_beq_eq_true hs
   exact wk ho hx hk hs'.symm (by rw [hs'];exact Nat.le_of_ble_eq_true h1) (lx hl hh hm h3) h0 h1' h2
  ·exact .bad
 ·rename_i id off l h m hx hl hh hm
  split
  ·rename_i hk h1 hlen hb
   refine .okS fun ⟨h0,h1',h2,h3,h4⟩=>?_
   rw [hx] at hh
   exact tV ho hx hk (Nat.le_of_ble_eq_true h1) (lx hl hh hm h3) h0 h1' h2 hb h4 (Nat.le_of_ble_eq_true hlen)
  ·exact .bad
 ·exact .bad
theorem qF {o:Oper} {st:AS} {t:TypeId} {x:Operand} {f:Nat} (ho:o.op = .fieldAddr t x f):AopOk P o st (oj st (ev st x) (ae P t).flds[f]?):=by
 cases hf:(ae P t).flds[f]? with
 | none=>exact .bad
 | some p =>
  obtain⟨fo,s,k⟩:=p
  simp only [oj]
  split
  ·rename_i h1 hx
   exact .pure (tT ho hx hf (Nat.le_of_ble_eq_true h1))
  ·rename_i h1 hx
   exact .pure (wg ho hx hf (Nat.le_of_ble_eq_true h1))
  ·exact .bad
theorem ze {o:Oper} {st:AS} {t:TypeId} {x:Operand} {f:Nat} (ho:o.op = .field t x f):AopOk P o st (ol st (ev st x) (ae P t).flds[f]?):=by
 unfold ol
 split
 ·rename_i hx hf
  split
  ·rename_i h1
   exact .pureS fun hl=>AT ho hx hf (Nat.le_of_ble_eq_true h1) hl
  ·exact .bad
 ·exact .bad
theorem qG {o:Oper} {st:AS} {t:TypeId} {x y:Operand} (ho:o.op = .indexAddr t x y):AopOk P o st (oo st (ae P t) (ae P (ae P t).elem).size (ev st x) (ev st y)):=by
 unfold oo
 split
 ·rename_i hx hy
  split
  ·rename_i hk hs h1
   have hs':=Nat.eq_of_beq_eq_true hs
   exact .pureS fun h=>r5 ho hx hy hk hs'.symm (by rw [hs'];exact Nat.le_of_ble_eq_true h1) h.1 h.2
  ·exact .bad
 ·rename_i hx hy
  split
  ·rename_i hk hs h1
   have hs':=Nat.eq_of_beq_eq_true hs
   exact .pureS fun h=>wl ho hx hy hk hs'.symm (by rw [hs'];exact Nat.le_of_ble_eq_true h1) h.1 h.2
  ·exact .bad
 ·rename_i hx hy
  split
  ·rename_i hk h1
   exact .pureS fun h=>tW ho hx hy hk (Nat.le_of_ble_eq_true h1) h.1 h.2
  ·exact .bad
 ·rename_i hx hy
  split
  ·rename_i hk h1
   exact .pureS fun h=>wm ho hx hy hk (Nat.le_of_ble_eq_true h1) h.1 h.2
  ·exact .bad
 ·exact .bad
theorem zf {o:Oper} {st:AS} {t:TypeId} {x y:Operand} (ho:o.op = .index t x y):AopOk P o st (tR st (ae P t) (ae P (ae P t).elem).size (ae P (ae P t).elem).kind (ev st x) (ev st y)):=by
 unfold tR
 split
 ·rename_i hx hy
  split
  ·rename_i hk
   exact .pureS fun h=>tX ho hx hy hk h.1 h.2
  ·exact .bad
 ·rename_i hx hy
  split
  ·rename_i hk hs
   exact .pureS fun h=>tY ho hx hy hk (Nat.le_of_ble_eq_true hs) h.1 h.2.1 h.2.2
  ·exact .bad
 ·exact .bad
theorem cK {α:Type} {a:Array α} {l:List α} (h:a.toList=l):a=l.toArray:=by rw [← h]
theorem zg {o:Oper} {st:AS} {b:Builtin} {args:Array Operand} {tys:Array TypeId} (ho:o.op = .call ⟨.builtin b,args,tys⟩):AopOk P o st (un P st b args.toList tys.toList):=by
 unfold un
 split
 ·rename_i x t ha ht
  have ho':o.op = .call ⟨.builtin .len,#[x],#[t]⟩:=by
   rw [ho];congr 2
   ·exact cK ha
   ·exact cK ht
  unfold DV
  split
  ·rename_i hx;split
   ·rename_i hk;exact .pure (r6 ho' (.inl ⟨hk,.inl ⟨_,_,hx⟩⟩))
   ·exact .bad
  ·rename_i hx;split
   ·rename_i hk;exact .pure (r6 ho' (.inl ⟨hk,.inr (.inl ⟨_,_,hx⟩)⟩))
   ·exact .bad
  ·rename_i hx;split
   ·rename_i hk;exact .pure (r6 ho' (.inl ⟨hk,.inr (.inr ⟨_,_,_,hx⟩)⟩))
   ·exact .bad
  ·rename_i hx;split
   ·rename_i hk;exact .pure (r6 ho' (.inr ⟨hk,_,rfl,hx⟩))
   ·exact .bad
  ·exact .bad
 ·rename_i x y ha
  have ho':o.op = .call ⟨.builtin .max,#[x,y],tys⟩:=by
   rw [ho];congr 2
   exact cK ha
  unfold xD
  split
  ·rename_i hx hy;exact .pure (Gf ho' hx hy)
  ·exact .bad
 ·rename_i x y ha
  have ho':o.op = .call ⟨.builtin .min,#[x,y],tys⟩:=by
   rw [ho];congr 2
   exact cK ha
  unfold xE
  split
  ·rename_i hx hy;exact .pure (Gg ho' hx hy)
  ·exact .bad
 ·rename_i x y t t' ha ht
  split
  ·rename_i he
   have:=Nat.eq_of_beq_eq_true he
   subst this
   have ho':o.op = .call ⟨.builtin .append,#[x,y],#[t,t]⟩:=by
    rw [ho];congr 2
    ·exact cK ha
    ·exact cK ht
   by_cases hk:(ae P t).kind = .slice
   ·exact oI ho' (bR hk) (fun k h=>by cases h)
   ·rw [up hk];exact .bad
  ·split
   ·rename_i hk
    have ho':o.op = .call ⟨.builtin .append,#[x,y],#[t,t']⟩:=by
     rw [ho];congr 2
     ·exact cK ha
     ·exact cK ht
    refine⟨fun v T u nx h=>?_,fun s v T u nx h hs=>ww ho' hk h hs⟩
    unfold qV at h
    repeat' split at h
    all_goals cases h
   ·rename_i hk
    have ho':o.op = .call ⟨.builtin .append,#[x,y],#[t,t']⟩:=by
     rw [ho];congr 2
     ·exact cK ha
     ·exact cK ht
    exact oI ho' (jf hk) (fun k h=>by cases h)
   ·exact .bad
 ·rename_i x t ha ht
  have ho':o.op = .call ⟨.builtin .cap,#[x],#[t]⟩:=by
   rw [ho];congr 2
   ·exact cK ha
   ·exact cK ht
  unfold D5
  split
  ·rename_i hx
   split
   ·rename_i hk;exact .pure (Gh ho' hk hx)
   ·exact .bad
  ·exact .bad
 ·rename_i x y t t' ha ht
  have ho':o.op = .call ⟨.builtin .copy,#[x,y],#[t,t']⟩:=by
   rw [ho];congr 2
   ·exact cK ha
   ·exact cK ht
  refine⟨fun v T u nx h=>?_,fun s v T u nx h hs=>D3 ho' h hs⟩
  unfold ow at h
  repeat' split at h
  all_goals cases h
 ·rename_i x y t t' ha ht
  have ho':o.op = .call ⟨.builtin .delete,#[x,y],#[t,t']⟩:=by
   rw [ho];congr 2
   ·exact cK ha
   ·exact cK ht
  unfold xP
  split
  ·rename_i hm hx
   split
   ·rename_i hmk hsame hk
    refine .okS fun h1=>sj ho' hm hx hmk ?_ hk h1
    have e:=Nat.eq_of_beq_eq_true hsame
    obtain⟨kt,et,hut,_⟩:=nR hmk
    unfold A3 at e
    unfold IY
    rw [hut] at e ⊢
    simp only at e
    rw [e]
   ·exact .bad
  ·exact .bad
 ·rename_i x t ha ht
  have ho':o.op = .call ⟨.builtin .unsafeSliceData,#[x],#[t]⟩:=by
   rw [ho];congr 2
   ·exact cK ha
   ·exact cK ht
  unfold xM
  split
  ·rename_i hx;exact .pureS fun h=>qD ho' hx h
  ·exact .bad
 ·rename_i x y pt it ha ht
  have ho':o.op = .call ⟨.builtin .unsafeString,#[x,y],#[pt,it]⟩:=by
   rw [ho];congr 2
   ·exact cK ha
   ·exact cK ht
  split
  ·rename_i hpt
   unfold xN
   split
   ·rename_i hx hy
    split
    ·rename_i h0 hes hek hk
     have:=Nat.eq_of_beq_eq_true h0
     subst this
     exact .okS fun h=>D4 ho' hpt hx hy (Nat.eq_of_beq_eq_true hes) hk h.1 h.2.1 h.2.2.1 h.2.2.2.1 h.2.2.2.2.1 h.2.2.2.2.2
    ·exact .bad
   ·exact .bad
  ·exact .bad
 ·exact .bad
theorem A9 (o:Oper) (st:AS):AopOk P o st (aop P o.op st):=by
 cases ho:o.op with
 | move x=>exact .pure (xF (.inl ho))
 | assign x=>exact .pure (xF (.inr ho))
 | pick c a b =>
  simp only [aop]
  unfold xA
  split
  ·rename_i hc;exact .pure (DW ho hc)
  ·exact .bad
 | alloc t =>
  simp only [aop]
  cases hz:(ae P t).zero with
  | none=>exact .bad
  | some z =>
   simp only [rY]
   split
   ·rename_i h1;exact .ok (AQ ho hz h1)
   ·exact .bad
 | box t x =>
  simp only [aop,DT]
  split
  ·rename_i h1;exact .ok (Ge ho h1)
  ·exact .bad
 | build t parts=>exact y9 ho
 | buildSlice t len parts=>exact sr ho
 | load t x=>exact A6 ho
 | store t x y=>exact za ho
 | nilCheck x =>
  simp only [aop]
  unfold D6
  split
  ·rename_i hx;exact .pure (hx ▸ gG ho (.inl ⟨_,_,hx⟩))
  ·rename_i hx;exact .pure (hx ▸ gG ho (.inr (.inl ⟨_,hx⟩)))
  ·rename_i hx;exact .pure (hx ▸ gG ho (.inr (.inr (.inl ⟨_,_,_,hx⟩))))
  ·rename_i hx;exact .pure (hx ▸ gG ho (.inr (.inr (.inr ⟨_,_,_,hx⟩))))
  ·exact .bad
 | binOp op t x y t'=>exact D7 ho
 | unOp op t x=>exact Gk ho
 | convert s d x=>exact A8 ho
 | makeInterface t x =>
  simp only [aop,sq]
  split
  ·rename_i h1 h2
   exact .pure (AW ho (fun e=>by rw [e] at h1;cases h1) (fun e=>by rw [e] at h2;cases h2))
  ·exact .bad
 | makeFunc f xs ys=>exact .pure (tZ ho)
 | makeSlice t x y=>exact A5 ho
 | slice t x lo hi mx=>exact zc ho
 | fieldAddr t x f=>exact qF ho
 | field t x f=>exact ze ho
 | indexAddr t x y=>exact qG ho
 | index t x y=>exact zf ho
 | extract x i =>
  simp only [aop]
  unfold lr
  split
  ·rename_i hx
   split
   ·rename_i hv;exact .pure (wh ho hx hv)
   ·exact .bad
  ·exact .bad
 | call c =>
  obtain⟨callee,args,tys⟩:=c
  simp only [aop]
  cases callee with
  | builtin b=>exact zg ho
  | value f =>
   simp only [oH]
   unfold oG
   split
   ·split
    ·exact .call
    ·exact .bad
   ·exact .call
   ·exact .bad
  | invoke r m =>
   simp only [oH]
   unfold nT
   split
   ·unfold um
    split
    ·exact .call
    ·exact .bad
   ·unfold um
    split
    ·exact .call
    ·exact .bad
   ·exact .bad
 | makeMap t r =>
  cases r with
  | none=>exact .ok (wy ho)
  | some r=>exact .bad
 | mapUpdate t m x y =>
  simp only [aop]
  unfold xO
  split
  ·rename_i hm hx hy
   split
   ·rename_i ht hk
    exact .okS fun ⟨h1,h2,h3,h4⟩=>si ho hm hx hy ht hk h1 h2 h3 h4
   ·exact .bad
  ·exact .bad
 | lookup t m x c =>
  cases c with
  | true=>exact .bad
  | false =>
   simp only [aop]
   unfold sn
   split
   ·rename_i hm hx
    split
    ·rename_i ht hk
     exact .okS fun h1=>sm ho hm hx ht hk h1
    ·exact .bad
   ·exact .bad
 | _=>exact .bad
end Go.Abs

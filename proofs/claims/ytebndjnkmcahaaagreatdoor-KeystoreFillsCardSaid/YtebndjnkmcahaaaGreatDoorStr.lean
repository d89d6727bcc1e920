/- joined of several texts; own work; no statement of the seat is proved but in the last -/
import Derived.Test.YtebndjnkmcahaaaGreatDoorAbsU
import Derived.Test.YtebndjnkmcahaaaGreatDoorTi
import Derived.Test.YtebndjnkmcahaaaGreatDoorWords
import Derived.Handy
section
namespace Go.Proofs.YtebndjnkmcahaaaGreatDoor
set_option linter.unusedSimpArgs false
set_option linter.unusedVariables false
open Go Go.Abs Go.RowKit
attribute [go_sem] Bb.eq_1 gA.eq_1 gA.eq_2 sw.eq_1 sw.eq_2 wA.eq_1 su.eq_1 su.eq_2 su.eq_3 Ba.eq_1 qH wD.eq_1 wD.eq_2 wD.eq_3 wE.eq_1 sC.eq_1 gD.eq_1 gD.eq_2 jn aop
attribute [go_sem] ev evs evp lk hget AO iA DU xC eqK unR R.pure R.pureS eff put prune q4 hpr iF xA setB fI eI DT rY pvs eU oneC DS eJ cells qO xB
attribute [go_sem] gU TK.agg oi rZ cA oj ol lr oF qX qY np y8 A4 oo tR DV xD xE uk TK.isNone TK.isIface sq D6 oH oG.eq_1 oG.eq_2 un
attribute [go_sem] nT um.eq_1 kM jh ot AX eY ou eL ow jk ct keys bt Value.oneCell' mq frz dG dL D5 qV List.nil_append List.cons_append Nat.blt
attribute [go_sem] Nat.succ_eq_add_one Nat.add_zero Nat.zero_add Bool.not_true Bool.not_false Bool.false_eq_true List.drop_succ_cons List.drop_zero List.take_succ_cons List.take_zero List.length_cons
attribute [go_sem] List.length_nil List.getElem?_cons_zero List.getElem?_cons_succ Option.map_some Option.map_none List.map_cons List.map_nil true_and and_true List.set_cons_zero List.set_cons_succ
attribute [go_sem] Int.toNat_natCast List.size_toArray Array.size_empty Nat.beq List.replicate_succ List.replicate_zero Nat.mul_one Int.cast_ofNat_Int and_self XW DK.eq_1 DK.eq_2 fzB fzS fzA fzL fzO i7 I0
attribute [go_sem] EndF gI Bf retV List.toList_toArray
attribute [go_sem] nq ge kP aH ai dB cF liveK bQ lz sg
attribute [go_sem] dfl aS.eq_1 aS.eq_2 DN tL tM y3 tN
attribute [go_sem] List.length_drop List.length_map List.length_take List.length_append List.length_replicate DL AV.p.injEq PV.v.injEq Value.int.injEq AV.agg.injEq AV.tup.injEq List.cons.injEq
attribute [go_sem] true_or or_true false_and and_false or_false false_or
attribute [go_sem] tQ FU mi mj tP tO PV.data.injEq
attribute [go_sem] Bz BA
attribute [go_sem] renA eG renU fD
attribute [go_sem] beq_eq_false_iff_ne bne_eq_false_iff_eq Decidable.not_not
attribute [go_sem] FT eM
theorem Az (a:AV) (l:List AV):jc (a::l)↔isP a∧jc l:=by simp [jc]
theorem Da:jc []:=by simp [jc]
theorem AA (a:AV) (l:List AV):dJ (a::l)=unP a::dJ l:=rfl
theorem Db:dJ []=[]:=rfl
attribute [go_sem] isQ i5 unQ i6 unI Az Da AA Db isP unP Gt Eh wG fz1 hJ sF gh q8 o6 lG mz
attribute [go_sem] uz cq cD eqN fM eqP
attribute [go_sem] FV DO Eg zq.eq_1 zq.eq_2 FQ Nat.sub_zero fzI cG eV.eq_1 eV.eq_2 Bool.not_eq_false'
attribute [go_sem] decide_eq_true_eq decide_eq_false_iff_not beq_iff_eq bne_iff_ne Bool.not_eq_true' ne_eq
attribute [go_sem] not_false_eq_true not_true_eq_false Nat.reduceAdd Nat.reduceMul reduceCtorEq Nat.reduceLeDiff Int.reduceToNat Int.reduceLT Int.reduceLE Int.reduceEq Int.reduceNe Int.reduceBEq Int.reduceBNe
attribute [go_sem] xM xN xO xP sn oC
attribute [go_sem] isK iB AN.eq_1 iC wc KP
theorem Dc (n:Nat) (z:Value):ji n [z]=List.replicate n (.p (.v z)):=by simp [ji]
theorem Dd (n:Nat) (a b:Value) (r:List Value):ji n (a::b::r)=(List.replicate n (pvs (a::b::r))).flatten:=by simp [ji]
attribute [go_sem] ku Dc Dd
attribute [go_sem] KH KI KJ KK KL KM KN KO
theorem De:Tryz.prog.follows .mixedOrders=true:=by kernel_rfl
attribute [go_sem ↓] reduceIte
section
variable {f : FuncId} {fn : Func} {code : Code} {vs : List AV} {v : AV} {n : Nat} {rs : Array ResultVar}
theorem en (hf:Tryz.prog.funcs[f]?=some fn) (hn:fn.ntmps=n) (hrs:fn.results=rs) (ks:List Nat)
 (haw:∀c:Ctx,c.P=Tryz.prog→(∀i,c.ρ0 i≠none→False)→XOk c (EndF Tryz.prog rs.toList v)→XK Tryz.prog ks c (EndF Tryz.prog rs.toList v)→XW c (EndF Tryz.prog rs.toList v) ks 2000 [.code code] ⟨n,mq 0 vs,[],0⟩)
 (hb:fn.body=some code:=by exact rfl) (hname:(fn.name=="runtime.NumGoroutine")=false:=by kernel_rfl) (hlen:vs.length≤n:=by simp) (hargs:an [] vs:=by simp [an,ax]):FPure Tryz.prog f vs v :=
 sE De hf hb hname hn hrs hlen hargs ks fun c hP h0 hE=>haw c hP h0 hE ⟨hP,hE⟩
theorem ec {u hp0:List (Nat×Option Blk)} (nx0:Nat) (hf:Tryz.prog.funcs[f]?=some fn) (hn:fn.ntmps=n) (hrs:fn.results=rs) (ks:List Nat)
 (haw:∀c:Ctx,c.P=Tryz.prog→(∀i,c.ρ0 i≠none→i∈liveK hp0)→XOk c (qI Tryz.prog rs.toList v (liveK hp0) u)→XK Tryz.prog ks c (qI Tryz.prog rs.toList v (liveK hp0) u)→XW c (qI Tryz.prog rs.toList v (liveK hp0) u) ks 2000 [.code code] ⟨n,mq 0 vs,hp0,nx0⟩)
 (hb:fn.body=some code:=by exact rfl) (hname:(fn.name=="runtime.NumGoroutine")=false:=by kernel_rfl) (hlen:vs.length≤n:=by simp) (hlt:ct nx0 (liveK hp0)=true:=by rfl)
 (hargs:an (liveK hp0) vs:=by simp [an,ax,liveK]) (hids:bS (liveK hp0) hp0:=by simp [bS,an,ax,liveK,a8,cc]) (hT:∀i,i∈liveK hp0→i∈keys u:=by simp [liveK,keys]):Con Tryz.prog f vs hp0 v u :=
 F1 nx0 De hf hb hname hn hrs hlen hlt hargs hids hT ks fun c hP h0 hE=>haw c hP h0 hE ⟨hP,hE⟩
variable {G : Prop} {ks : List Nat} {c : Ctx} {E : AS → Prop} {st : AS} {d : Option Nat} {H : List FP → AS → Prop} (hK : XK Tryz.prog ks c E) [i : IsC G c E ks f vs st d H]
include hK
theorem x_f {vs1 vs2:List AV} (hf:FPure Tryz.prog f vs1 v) (h:H [(cG vs,cG vs)] (eff st d v (dG (cG vs)) st.nx)) (e:fzL st.hp vs=vs2:=by simp only [go_sem];rfl) (e2:vs2=vs1:=by rfl) (ho:i7 st.hp vs:=by simp only [go_sem]) (hlt:ct st.nx (cG vs)=true:=by rfl) (hv:ax [] v:=by simp only [go_sem,ax,an,and_self]):G:=Ei hK hf (e.trans e2) ho hlt hv h
theorem x_k {vs0:List AV} {hp0:List (Nat×Option Blk)} {v0:AV} {u0:List (Nat×Option Blk)} (nx:Nat) (hf:Con Tryz.prog f vs0 hp0 v0 u0)
 (h:H [((liveK hp0).map (fun i=>i)++[],keys (renU (fun i=>i) u0++dG []))] (eff st d (renA (fun i=>i) v0) (renU (fun i=>i) u0++dG []) nx))
 (args:ai (hget st.hp) [] (fun i=>i) vs0 vs:=by simp only [go_sem]) (blocks:ge (hget st.hp) [] (fun i=>i) hp0:=by simp only [go_sem]) (nd:bQ ((keys u0).map fun i=>i)=true:=by rfl) (le:st.nx≤nx:=by exact Nat.le_of_ble_eq_true rfl)
 (new:∀i,i∈keys u0→i∈liveK hp0∨(st.nx≤i∧i<nx):=by exact fun i hi => .inl (by simp [keys] at hi;simp [liveK,hi])) (idv:ax (keys u0) v0:=by simp [ax,an,keys]) (idu:bS (keys u0) u0:=by simp [bS,an,ax,keys])
 (hl:ct nx ((liveK hp0).map (fun i=>i)++[])=true:=by rfl):G:=F2 hK [] (fun i=>i) nx hf ⟨args,blocks,nd,trivial,le,new,idv,idu,rfl⟩ hl h
end
end Go.Proofs.YtebndjnkmcahaaaGreatDoor
end
section
namespace Go.Proofs.YtebndjnkmcahaaaGreatDoor
set_option linter.unusedSimpArgs false
set_option linter.unusedVariables false
open Go Go.Abs Go.RowKit
abbrev sv (l:List UInt8):AV := .p (.v (.string ⟨l.toArray⟩))
theorem J4 (l:List UInt8):(⟨l.toArray⟩:ByteArray).size=l.length:=by simp [ByteArray.size]
theorem gX (l:List UInt8):(⟨l.toArray⟩:ByteArray).toList=l:=by rw [ByteArray.toList_eq]
theorem Df (l:List UInt8) (a b:Nat):(⟨l.toArray⟩:ByteArray).extract a b=⟨((l.take b).drop a).toArray⟩:=by
 apply ByteArray.ext
 rw [ByteArray.data_extract]
 apply Array.ext'
 simp [List.drop_take]
theorem Dg (a b:List UInt8):(⟨a.toArray⟩:ByteArray)++⟨b.toArray⟩=⟨(a++b).toArray⟩:=by
 apply ByteArray.ext
 rw [ByteArray.data_append]
 simp
end Go.Proofs.YtebndjnkmcahaaaGreatDoor
end

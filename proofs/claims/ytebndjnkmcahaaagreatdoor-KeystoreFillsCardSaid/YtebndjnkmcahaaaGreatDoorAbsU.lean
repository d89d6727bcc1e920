/- Calls whose arguments are frozen and whose results are the caller's own. Own work; no statement of the seat is proved here. -/
import Derived.Test.YtebndjnkmcahaaaGreatDoorAbsT
namespace Go.Abs
set_option linter.unusedSimpArgs false
set_option linter.unusedVariables false
open Go Go.RowKit
variable {P : Program}
theorem rb {st:AS} {vs vs1:List AV} {v0:AV} {u0:List (Nat×Option Blk)} {m:Nat} (e:fzL st.hp vs=vs1) (ho:i7 st.hp vs) (hl1:ct st.nx (cG vs)=true) (nd:bQ ((keys u0).map (fD st.nx))=true) (hlt:ct m (keys u0)=true) (idv:ax (keys u0) v0) (idu:bS (keys u0) u0) :
 jo st vs vs1 [] v0 u0 (cG vs) (fD st.nx) (st.nx+m) :=
 ⟨by rw [← e];exact jp _ _ _ vs (fun i hi=>hi) ho,trivial,nd,lC (hC _ _ ho),by omega,fun i hi => .inr (by have:=dW hlt hi;unfold fD;omega),idv,idu,hl1⟩
theorem jZ {c:Ctx} {E:AS→Prop} (hE:XOk c E) {ks:List Nat} {n:Nat} {f:FuncId} {vs vs1:List AV} {v0:AV} {u0:List (Nat×Option Blk)} {o:Oper} {all:Array Oper} {os:List Oper} {k:List It} {st:AS} (m:Nat)
 (e:fzL st.hp vs=vs1) (ho:i7 st.hp vs) (hl1:ct st.nx (cG vs)=true) (hf:Con c.P f vs1 [] v0 u0) (nd:bQ ((keys u0).map (fD st.nx))=true) (hlt:ct m (keys u0)=true) (idv:ax (keys u0) v0) (idu:bS (keys u0) u0)
 (h:XW c E ks n (.ops all os::k) (eff st o.dst (renA (fD st.nx) v0) (renU (fD st.nx) u0++dG (cG vs)) (st.nx+m))):jm c f vs o all os k st :=
 ck hE (ks:=ks) (n:=n) (cG vs) (fD st.nx) (st.nx+m) hf (rb e ho hl1 nd hlt idv idu) h
theorem j0 {c:Ctx} {E:AS→Prop} (hE:XOk c E) {ks:List Nat} {n:Nat} {f:FuncId} {vs vs1:List AV} {v0:AV} {u0:List (Nat×Option Blk)} {o:Oper} {all:Array Oper} {os:List Oper} {acc:List FP} {k:List It} {st:AS} (m:Nat)
 (e:fzL st.hp vs=vs1) (ho:i7 st.hp vs) (hl1:ct st.nx (cG vs)=true) (hf:Con c.P f vs1 [] v0 u0) (nd:bQ ((keys u0).map (fD st.nx))=true) (hlt:ct m (keys u0)=true) (idv:ax (keys u0) v0) (idu:bS (keys u0) u0)
 (hx:ct (st.nx+m) (cG vs)=true)
 (h:DK c ks (XW c E ks n) all k os (acc++[(cG vs,keys (renU (fD st.nx) u0)++cG vs)]) (eff st o.dst (renA (fD st.nx) v0) (renU (fD st.nx) u0++dG (cG vs)) (st.nx+m))):oW c f vs o all os acc k st:=by
 refine mw hE (ks:=ks) (n:=n) (cG vs) (fD st.nx) (st.nx+m) hf (rb e ho hl1 nd hlt idv idu) (by simpa [liveK] using hx) ?_
 simpa [liveK,ux,lA] using h
structure XK (P:Program) (ks:List Nat) (c:Ctx) (E:AS→Prop):Prop where
 p:c.P=P
 ok:XOk c E
class IsC (G:Prop) (c:Ctx) (E:AS→Prop) (ks:List Nat) (f:outParam FuncId) (vs:outParam (List AV)) (st:outParam AS) (d:outParam (Option Nat)) (H:outParam (List FP→AS→Prop)):Prop where
 call:XOk c E→∀v,FPure c.P f vs v→H [([],[])] (put st d v)→G
 con:XOk c E→∀{vs0:List AV} {hp0:List (Nat×Option Blk)} {v0:AV} {u0:List (Nat×Option Blk)} (S:List Nat) (τ:Nat→Nat) (nx:Nat),Con c.P f vs0 hp0 v0 u0→jo st vs vs0 hp0 v0 u0 S τ nx→ct nx ((liveK hp0).map τ++S)=true →
  H [((liveK hp0).map τ++S,keys (renU τ u0++dG S))] (eff st d (renA τ v0) (renU τ u0++dG S) nx)→G
instance {c:Ctx} {E:AS→Prop} {ks:List Nat} {f:FuncId} {vs:List AV} {o:Oper} {all:Array Oper} {os:List Oper} {k:List It} {st:AS}:IsC (jm c f vs o all os k st) c E ks f vs st o.dst (fun _ s=>XW c E ks 2000 (.ops all os::k) s) :=
 ⟨fun hE _ hf h=>nV hE hf h,fun hE=>fun S τ nx hf hk _ h=>ck hE S τ nx hf hk h⟩
instance {c:Ctx} {E:AS→Prop} {ks:List Nat} {f:FuncId} {vs:List AV} {o:Oper} {all:Array Oper} {os:List Oper} {acc:List FP} {k:List It} {st:AS}:IsC (oW c f vs o all os acc k st) c E ks f vs st o.dst (fun l s=>DK c ks (XW c E ks 2000) all k os (acc++l) s) :=
 ⟨fun hE _ hf h=>nX hE hf h,fun hE=>fun S τ nx hf hk hl h=>mw hE S τ nx hf hk hl h⟩
section
variable {G : Prop} {ks : List Nat} {c : Ctx} {E : AS → Prop} {f : FuncId} {vs : List AV} {st : AS} {d : Option Nat} {H : List FP → AS → Prop} (hK : XK P ks c E) [i : IsC G c E ks f vs st d H]
include hK
theorem aa {v:AV} (hf:FPure P f vs v) (h:H [([],[])] (put st d v)):G:=i.call hK.ok v (hK.p.symm ▸ hf) h
theorem F2 {vs0:List AV} {hp0:List (Nat×Option Blk)} {v0:AV} {u0:List (Nat×Option Blk)} (S:List Nat) (τ:Nat→Nat) (nx:Nat) (hf:Con P f vs0 hp0 v0 u0) (hk:jo st vs vs0 hp0 v0 u0 S τ nx) (hl:ct nx ((liveK hp0).map τ++S)=true)
 (h:H [((liveK hp0).map τ++S,keys (renU τ u0++dG S))] (eff st d (renA τ v0) (renU τ u0++dG S) nx)):G:=i.con hK.ok S τ nx (hK.p.symm ▸ hf) hk hl h
theorem Ei {vs1:List AV} {v:AV} (hf:FPure P f vs1 v) (e:fzL st.hp vs=vs1) (ho:i7 st.hp vs) (hlt:ct st.nx (cG vs)=true) (hv:ax [] v) (h:H [(cG vs,cG vs)] (eff st d v (dG (cG vs)) st.nx)):G:=by
 refine F2 hK (cG vs) (fun i=>i) st.nx (hf.con (by rw [← e];exact jX _ _ _)) (my e ho hlt hv) (by simpa [liveK] using hlt) ?_
 rw [lE]
 simpa [liveK,renU,lA] using h
end
end Go.Abs

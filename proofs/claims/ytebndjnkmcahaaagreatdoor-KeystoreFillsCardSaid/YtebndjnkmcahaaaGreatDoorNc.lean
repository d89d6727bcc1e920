/- The walk over items, program side: what is asked of a state. Own work; no statement of the seat is proved here. -/
import Derived.Test.YtebndjnkmcahaaaGreatDoorNb
namespace Go.Abs
set_option linter.unusedSimpArgs false
set_option linter.unusedVariables false
open Go Go.RowKit
theorem zU {P:Program} {f:FuncId} {fn:Func} {e:Array Value→Sem Value} {vs:List AV} {v:AV} (hf:P.funcs[f]?=some fn) (hname:(fn.name=="runtime.NumGoroutine")=false) (hb:fn.body.isNone=true) (hn:Extern.findNext fn=none) (he:Extern.find fn=some e)
 (h:∀(ρ:am) (F:aA) (us:Array Value) (w:World),us.size=vs.length→(∀j c,vs[j]?=some c→Rd ρ F w c (us.getD j undef))→∃x,(e us).run P w = .ok x w∧Rd ρ F w v x):FPure P f vs v:=by
 intro hh
 refine⟨fun ρ F us w hpre hz hr=>?_⟩
 obtain⟨x,hx,hv⟩:=h ρ F us w hz hr
 refine .inr ⟨x,w,by rw [run_callFunc_extern hf hname hb hn he,hx];rfl,ρ,F,⟨fun _ _ h=>h,fun i h1 h2=>absurd h1 h2,fun i b h1 h2=>(by rw [h1] at h2;cases h2),hv,?_,hpre.fok,Chg.refl _ _ _⟩⟩
 have:restr ([]++keys []) (updH [] hh)=restr [] hh:=by funext i;simp [restr,keys,updH]
 rw [this]
 exact hpre.hp
theorem rt {P:Program} {ρ:am} {F:aA} {w:World} {a:UInt8} {u:Value} (hr:Rd ρ F w (.p (.data 1 1 [bt a])) u):(Extern.Bytes.bytesOf u).run P w = .ok (ByteArray.empty.push a) w:=by
 cases hr with
 | p _ _ h =>
  cases h with
  | data s n cs b off cap f hl hcap hF hc h1 hr =>
   have h0:=hc 0 (by simp)
   have hv:=hr 0 (bt a) rfl
   have hv:f 0 = .int .u8 (a.toNat:Int):=by
    generalize f 0=y at hv
    unfold bt at hv
    cases hv
    rfl
   rw [hv,Nat.add_zero] at h0
   simp [Extern.Bytes.bytesOf,Extern.Bytes.loadBytes,h0]
end Go.Abs
namespace Go.Proofs.YtebndjnkmcahaaaGreatDoor
set_option linter.unusedSimpArgs false
set_option linter.unusedVariables false
open Go Go.Abs Go.RowKit
theorem EY (h:ba) (S:List Nat) (σ:Nat→Nat) (cs:List PV):ai h S σ (cs.map .p) (cs.map .p)↔True:=⟨fun _=>trivial,fun _=>aW h S σ cs⟩
theorem Cu (h:ba) (S:List Nat) (c:PV):dB h S c (.p c)↔True:=⟨fun _=>trivial,fun _=>dM h S c⟩
@[simp] theorem EZ (T:List Nat) (cs:List PV):an T (cs.map .p)↔True:=⟨fun _=>trivial,fun _=>a8 T cs⟩
attribute [go_sem] EY Cu EZ Int.reduceGT Int.reduceGE gt_iff_lt
abbrev du:AV := .p (.v (.slice none 0 0))
abbrev frT:Nat:=329
abbrev ckT:Nat:=270
theorem tg (t:TypeId) (cnt:Int) (e:List PV):Con Tryz.prog 215 [.ptr 0 0] [(0,some ⟨t,du :: .i cnt::e.map .p⟩)] (.b (decide (0<cnt))) [(0,some ⟨t,du :: .i cnt::e.map .p⟩)]:=by
 refine ec 1 Tryz.func215 Tryz.ntmps215 Tryz.results215 [0,2] ?_;intro c hP h0 hE kK
 by_cases hc:0<cnt
 ·simp only [go_sem,hP,hc,decide_true]
  refine aB [0] rfl ?_ ?_ rfl rfl (fun i hi=>by simp at hi;subst hi;exact⟨rfl,by simp [keys]⟩) (fun i hi=>by simp [liveK] at hi;simp;omega)
  ·simp only [go_sem]
  ·simp only [go_sem]
 ·simp only [go_sem,hP,hc,decide_false]
  refine aB [0] rfl ?_ ?_ rfl rfl (fun i hi=>by simp at hi;subst hi;exact⟨rfl,by simp [keys]⟩) (fun i hi=>by simp [liveK] at hi;simp;omega)
  ·simp only [go_sem]
  ·simp only [go_sem]
theorem th (t:TypeId) (n:Nat) (cnt:Int) (e fr:List PV) (hc:0<cnt):Con Tryz.prog 215 [.ptr 0 0] [(0,some ⟨t,.sl 1 0 n 3 :: .i cnt::e.map .p⟩),(1,some ⟨frT,fr.map .p⟩)] (.b (decide ((n:Int)=0))) [(0,some ⟨t,.sl 1 0 n 3 :: .i cnt::e.map .p⟩),(1,some ⟨frT,fr.map .p⟩)]:=by
 refine ec 2 Tryz.func215 Tryz.ntmps215 Tryz.results215 [0,2] ?_;intro c hP h0 hE kK
 simp only [go_sem,hP,hc]
 refine aB [0,1] rfl ?_ ?_ rfl rfl (fun i hi=>by simp at hi;rcases hi with rfl|rfl<;>exact⟨rfl,by simp [keys]⟩) (fun i hi=>by simp [liveK] at hi;simp;omega)
 ·simp only [go_sem]
  by_cases h:n=0<;>simp [h]
 ·simp only [go_sem]
theorem j6 (t:TypeId) (cnt:Int) (e:List PV):Con Tryz.prog 270 [.ptr 0 0] [(0,some ⟨t,du :: .i cnt::e.map .p⟩)] (.b false) [(0,some ⟨t,du :: .i cnt::e.map .p⟩)]:=by
 refine ec 1 Tryz.func270 Tryz.ntmps270 Tryz.results270 [0,2,3] ?_;intro c hP h0 hE kK
 simp only [go_sem,hP]
 refine aB [0] rfl ?_ ?_ rfl rfl (fun i hi=>by simp at hi;subst hi;exact⟨rfl,by simp [keys]⟩) (fun i hi=>by simp [liveK] at hi;simp;omega)
 ·simp only [go_sem]
 ·simp only [go_sem]
theorem n8 (t:TypeId) (left cnt:Int) (la:PV) (e:List PV) (hl:0≤left):Con Tryz.prog 270 [.ptr 0 0] [(0,some ⟨t,.sl 1 0 1 3 :: .i cnt::e.map .p⟩),(1,some ⟨frT,[.b true,.i left,.p la]⟩)] (.b (decide (left % 2=0))) [(0,some ⟨t,.sl 1 0 1 3 :: .i cnt::e.map .p⟩),(1,some ⟨frT,[.b true,.i left,.p la]⟩)]:=by
 refine ec 2 Tryz.func270 Tryz.ntmps270 Tryz.results270 [0,2,3] ?_;intro c hP h0 hE kK
 have ht:left.tmod 2=left % 2:=Int.tmod_eq_emod_of_nonneg hl
 simp only [go_sem,hP,ht,show IntKind.i64.wrap (1-1)=0 from by decide]
 refine aB [0,1] rfl ?_ ?_ rfl rfl (fun i hi=>by simp at hi;rcases hi with rfl|rfl<;>exact⟨rfl,by simp [keys]⟩) (fun i hi=>by simp [liveK] at hi;simp;omega)
 ·simp only [go_sem]
  by_cases h:left % 2=0<;>simp [h]
 ·simp only [go_sem]
theorem tj (t:TypeId) (kd cnt:Int) (e:List PV) (hk:1≤kd∧kd≤8) (hc:cnt<512):Con Tryz.prog 245 [.ptr 0 0,.i kd] [(0,some ⟨t,du :: .i cnt::e.map .p⟩)] (.i 0) [(0,some ⟨t,du :: .i cnt::e.map .p⟩)]:=by
 refine ec 1 Tryz.func245 Tryz.ntmps245 Tryz.results245 [0,1,4,9,15,29,35] ?_;intro c hP h0 hE kK
 simp only [go_sem,hP,show ¬cnt≥512 from by omega,show ¬kd<1 from by omega,show ¬kd>8 from by omega]
 refine x_k kK 1 (j6 t cnt e) ?_
 simp only [go_sem,hP]
 refine aB [0] rfl ?_ ?_ rfl rfl (fun i hi=>by simp at hi;subst hi;exact⟨rfl,by simp [keys]⟩) (fun i hi=>by simp [liveK] at hi;simp;omega)
 ·simp only [go_sem]
 ·simp only [go_sem]
theorem lR (t:TypeId) (kd left cnt:Int) (la:PV) (e:List PV) (hk:1≤kd∧kd≤8) (hl:0≤left) (hkey:left % 2=0→kd=1) (hc:cnt<512):Con Tryz.prog 245 [.ptr 0 0,.i kd] [(0,some ⟨t,.sl 1 0 1 3 :: .i cnt::e.map .p⟩),(1,some ⟨frT,[.b true,.i left,.p la]⟩)] (.i 0) [(0,some ⟨t,.sl 1 0 1 3 :: .i cnt::e.map .p⟩),(1,some ⟨frT,[.b true,.i left,.p la]⟩)]:=by
 refine ec 2 Tryz.func245 Tryz.ntmps245 Tryz.results245 [0,1,4,9,15,29,35] ?_;intro c hP h0 hE kK
 simp only [go_sem,hP,show ¬cnt≥512 from by omega,show ¬kd<1 from by omega,show ¬kd>8 from by omega]
 refine x_k kK 2 (n8 t left cnt la e hl) ?_
 by_cases he:left % 2=0
 ·obtain rfl:=hkey he
  simp only [go_sem,hP,he,decide_true]
  refine aB [0,1] rfl ?_ ?_ rfl rfl (fun i hi=>by simp at hi;rcases hi with rfl|rfl<;>exact⟨rfl,by simp [keys]⟩) (fun i hi=>by simp [liveK] at hi;simp;omega)
  ·simp only [go_sem]
  ·simp only [go_sem]
 ·simp only [go_sem,hP,he,decide_false]
  refine aB [0,1] rfl ?_ ?_ rfl rfl (fun i hi=>by simp at hi;rcases hi with rfl|rfl<;>exact⟨rfl,by simp [keys]⟩) (fun i hi=>by simp [liveK] at hi;simp;omega)
  ·simp only [go_sem]
  ·simp only [go_sem]
def Itm.sc:Itm→Prop
 | .m _=>False
 | _=>True
theorem H4 (t:TypeId) (cnt:Int) (e:List PV) (x:Itm) (hx:x.sc) (hc:0≤cnt∧cnt<512):Con Tryz.prog 272 [.ptr 0 0,.agg (dg x)] [(0,some ⟨t,du :: .i cnt::e.map .p⟩)] (.tup []) [(0,some ⟨t,du :: .i (cnt+1)::e.map .p⟩)]:=by
 refine ec 1 Tryz.func272 Tryz.ntmps272 Tryz.results272 [0,1,3,4,5,19,39,60,93] ?_;intro c hP h0 hE kK
 have hw:IntKind.i64.wrap (cnt+1)=cnt+1:=ab (by omega) (by omega)
 cases x
 case m=>exact hx.elim
 all_goals
  simp only [go_sem,hP,hw]
  refine bK hE [0] (fun i hi=>by have:=h0 i hi;simpa [liveK] using this) [0,1,3,4,5,19,39,60,93] 0 (fun _=>⟨106,[(0,.ptr 0 0),(5,.i 0)],[(0,some ⟨t,du :: .i (cnt+1)::e.map .p⟩)],2⟩) [] (fun i=>i) ⟨rfl,?_,?_,rfl,rfl,trivial,fun i h=>h⟩ (fun i _=>rfl) ?_
  ·simp only [go_sem]
  ·simp only [go_sem]
  intro j hj
  simp only [go_sem,hP]
  refine aB [0] rfl ?_ ?_ rfl rfl (fun i hi=>by simp at hi;subst hi;exact⟨rfl,by simp [keys]⟩) (fun i hi=>by simp [liveK] at hi;simp;omega)
  ·simp only [go_sem]
  ·simp only [go_sem]
theorem Cv (t:TypeId) (left cnt:Int) (la:PV) (e:List PV) (x:Itm) (hx:x.sc) (hc:0≤cnt∧cnt<512) (hl:2≤left∧left≤1000):Con Tryz.prog 272 [.ptr 0 0,.agg (dg x)] [(0,some ⟨t,.sl 1 0 1 3 :: .i cnt::e.map .p⟩),(1,some ⟨frT,[.b true,.i left,.p la]⟩)] (.tup []) [(0,some ⟨t,.sl 1 0 1 3 :: .i (cnt+1)::e.map .p⟩),(1,some ⟨frT,[.b true,.i (left-1),.p la]⟩)]:=by
 refine ec 2 Tryz.func272 Tryz.ntmps272 Tryz.results272 [0,1,3,4,5,19,39,60,93] ?_;intro c hP h0 hE kK
 have hw:IntKind.i64.wrap (cnt+1)=cnt+1:=ab (by omega) (by omega)
 have hw':IntKind.i64.wrap (left-1)=left-1:=ab (by omega) (by omega)
 have h11:IntKind.i64.wrap (1-1)=0:=by decide
 cases x
 case m=>exact hx.elim
 all_goals
  simp only [go_sem,hP,hw,hw',h11]
  refine bK hE [0,1] (fun i hi=>by have:=h0 i hi;simpa [liveK] using this) [0,1,3,4,5,19,39,60,93] 0 (fun _=>⟨106,[(0,.ptr 0 0),(5,.i 1)],[(0,some ⟨t,.sl 1 0 1 3 :: .i (cnt+1)::e.map .p⟩),(1,some ⟨frT,[.b true,.i (left-1),.p la]⟩)],3⟩) [] (fun i=>i) ⟨rfl,?_,?_,rfl,rfl,trivial,fun i h=>h⟩ (fun i _=>rfl) ?_
  ·simp only [go_sem]
  ·simp only [go_sem]
  intro j hj
  simp only [go_sem,hP,h11,show ¬left-1=0 from by omega]
  refine aB [0,1] rfl ?_ ?_ rfl rfl (fun i hi=>by simp at hi;rcases hi with rfl|rfl<;>exact⟨rfl,by simp [keys]⟩) (fun i hi=>by simp [liveK] at hi;simp;omega)
  ·simp only [go_sem]
  ·simp only [go_sem]
theorem H5 (t:TypeId) (cnt:Int) (la:PV) (e:List PV) (x:Itm) (hx:x.sc) (hc:0≤cnt∧cnt<512):Con Tryz.prog 272 [.ptr 0 0,.agg (dg x)] [(0,some ⟨t,.sl 1 0 1 3 :: .i cnt::e.map .p⟩),(1,some ⟨frT,[.b true,.i 1,.p la]⟩)] (.tup []) [(0,some ⟨t,.sl 1 0 0 3 :: .i (cnt+1)::e.map .p⟩),(1,some ⟨frT,[.b true,.i 0,.p la]⟩)]:=by
 refine ec 2 Tryz.func272 Tryz.ntmps272 Tryz.results272 [0,1,3,4,5,19,39,60,93] ?_;intro c hP h0 hE kK
 have hw:IntKind.i64.wrap (cnt+1)=cnt+1:=ab (by omega) (by omega)
 have h11:IntKind.i64.wrap (1-1)=0:=by decide
 cases x
 case m=>exact hx.elim
 all_goals
  simp only [go_sem,hP,hw,h11]
  refine bK hE [0,1] (fun i hi=>by have:=h0 i hi;simpa [liveK] using this) [0,1,3,4,5,19,39,60,93] 1 (fun i=>⟨106,[(0,.ptr 0 0),(5,.i (1-(i:Int)))],[(0,some ⟨t,.sl 1 0 (1-i) 3 :: .i (cnt+1)::e.map .p⟩),(1,some ⟨frT,[.b true,.i 0,.p la]⟩)],3⟩) [] (fun i=>i) ⟨rfl,?_,?_,rfl,rfl,trivial,fun i h=>h⟩ (fun i _=>rfl) ?_
  ·simp only [go_sem]
   rfl
  ·simp only [go_sem]
  intro j hj
  rcases (show j=0∨j=1 from by omega) with rfl|rfl
  ·simp only [go_sem,hP,h11,Int.sub_zero,Int.sub_self,show IntKind.i64.wrap 0=0 from by decide]
   refine⟨by omega,kq [0,1] [0,1] rfl ?_ ?_ rfl rfl (Nat.le_of_ble_eq_true rfl) (fun i hi=>by simp at hi;rcases hi with rfl|rfl<;>rfl)⟩
   ·simp only [go_sem]
   ·simp only [go_sem]
  ·simp only [go_sem,hP,h11,Int.sub_self]
   refine aB [0,1] rfl ?_ ?_ rfl rfl (fun i hi=>by simp at hi;rcases hi with rfl|rfl<;>exact⟨rfl,by simp [keys]⟩) (fun i hi=>by simp [liveK] at hi;simp;omega)
   ·simp only [go_sem]
   ·simp only [go_sem]
theorem H6 (t:TypeId) (e:List PV):Con Tryz.prog 272 [.ptr 0 0,.agg (dg (.m 9))] [(0,some ⟨t,du :: .i 0::e.map .p⟩)] (.tup []) [(0,some ⟨t,.sl 1 0 1 3 :: .i 1::e.map .p⟩),(1,some ⟨frT,[.b true,.i 18,du]⟩)]:=by
 refine ec 1 Tryz.func272 Tryz.ntmps272 Tryz.results272 [0,1,3,4,5,19,39,60,93] ?_;intro c hP h0 hE kK
 have h9:((UInt64.toNat 9:Nat):Int)=9:=by decide
 simp only [go_sem,hP,h9,show IntKind.i64.wrap (0+1)=1 from by decide,show IntKind.i64.wrap (2*IntKind.i64.wrap 9)=18 from by decide]
 refine⟨by kernel_rfl,?_⟩
 refine bK hE [0] (fun i hi=>by have:=h0 i hi;simpa [liveK] using this) [0,1,3,4,5,19,39,60,93] 0 (fun _=>⟨106,[(0,.ptr 0 0),(5,.i 1)],[(0,some ⟨t,.sl 1 0 1 3 :: .i 1::e.map .p⟩),(1,some ⟨frT,[.b true,.i 18,du]⟩)],4⟩) [] (sg 4 [0,3]) ⟨rfl,?_,?_,rfl,rfl,trivial,fun i h=>bH [0,3] 4 i (Nat.le_trans (Nat.le_of_ble_eq_true rfl) h)⟩ (fun i hi=>by simp at hi;subst hi;rfl) ?_
 ·simp only [go_sem]
 ·simp only [go_sem]
 intro j hj
 simp only [go_sem,hP,show IntKind.i64.wrap (1-1)=0 from by decide]
 refine aB [0,1] rfl ?_ ?_ rfl rfl (fun i hi=>by simp at hi;subst hi;exact⟨rfl,by simp [keys]⟩) (fun i hi=>by simp [liveK] at hi;simp;omega)
 ·simp only [go_sem]
 ·simp only [go_sem]
theorem H7 (a b:UInt8) (h:a.toNat<b.toNat):FPure Tryz.prog 282 [.p (.data 1 1 ([a].map bt)),.p (.data 1 1 ([b].map bt))] (.i (-1)):=by
 refine zU Tryz.func282 (by kernel_rfl) (by kernel_rfl) (by kernel_rfl) (e:=Extern.BytealgCompare.compare) (by kernel_rfl) ?_
 intro ρ F us w hz hr
 have h0:=hr 0 _ rfl
 have h1:=hr 1 _ rfl
 obtain⟨u0,u1,rfl⟩:∃x y,us=#[x,y]:=by
  obtain⟨l⟩:=us
  match l,hz with
  | [x,y],_=>exact⟨x,y,rfl⟩
 have h0:(Extern.Bytes.bytesOf u0).run Tryz.prog w = .ok (ByteArray.empty.push a) w:=rt h0
 have h1:(Extern.Bytes.bytesOf u1).run Tryz.prog w = .ok (ByteArray.empty.push b) w:=rt h1
 refine⟨.int .i64 (-1),?_,.p _ _ (.v _ rfl)⟩
 have hlt:a<b:=UInt8.lt_iff_toNat_lt.2 h
 have hne:¬a=b:=fun e=>by subst e;omega
 have hc:Extern.BytealgCompare.cmp (ByteArray.empty.push a) (ByteArray.empty.push b) = -1:=by
  have e1:(ByteArray.empty.push a)[0]! = a:=rfl
  have e2:(ByteArray.empty.push b)[0]! = b:=rfl
  have e3:min (ByteArray.empty.push a).size (ByteArray.empty.push b).size=1:=rfl
  unfold Extern.BytealgCompare.cmp
  have e4:(List.range 1).find? (fun i=>(ByteArray.empty.push a)[i]! != (ByteArray.empty.push b)[i]!)=some 0:=by
   rw [show List.range 1=[0] from rfl,List.find?_cons_of_pos]
   rw [e1,e2]
   simpa using hne
  rw [e3,e4]
  show (if (ByteArray.empty.push a)[0]! < (ByteArray.empty.push b)[0]! then (-1:Int) else 1) = -1
  rw [e1,e2,if_pos hlt]
 have e:Extern.BytealgCompare.compare #[u0,u1]=(do pure (goInt (Extern.BytealgCompare.cmp (← Extern.Bytes.bytesOf u0) (← Extern.Bytes.bytesOf u1)))):=rfl
 rw [e]
 simp only [Sem.run_bind,h0,h1,Result.andThen_ok,hc,Sem.run_pure,goInt]
theorem E1 (a b:UInt8) (h:a.toNat<b.toNat):FPure Tryz.prog 280 [.p (.data 1 1 ([a].map bt)),.p (.data 1 1 ([b].map bt))] (.i (-1)):=by
 refine en Tryz.func280 Tryz.ntmps280 Tryz.results280 [0,1,4] ?_;intro c hP h0 hE kK
 simp only [go_sem,hP]
 refine aa kK (by exact H7 a b h) ?_
 simp only [go_sem,hP]
theorem zV (a b:UInt8) (h:a.toNat<b.toNat):FPure Tryz.prog 271 [.p (.data 1 1 ([a].map bt)),.p (.data 1 1 ([b].map bt))] (.b true):=by
 refine en Tryz.func271 Tryz.ntmps271 Tryz.results271 [0,1,4,9] ?_;intro c hP h0 hE kK
 simp only [go_sem,hP]
 refine aa kK (by exact E1 a b h) ?_
 simp only [go_sem,hP]
end Go.Proofs.YtebndjnkmcahaaaGreatDoor

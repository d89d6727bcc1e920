/- joined of several texts; own work; no statement of the seat is proved but in the last -/
import Derived.Test.YtebndjnkmcahaaaGreatDoorNc
import Derived.Test.YtebndjnkmcahaaaGreatDoorUv
section
namespace Go.Proofs.YtebndjnkmcahaaaGreatDoor
set_option linter.unusedSimpArgs false
set_option linter.unusedVariables false
open Go Go.Abs Go.RowKit
def okI:Itm→Prop
 | .u _=>True
 | .d s=>s.length≤1024
 | .t s=>s.length≤1024∧okU s=true
 | .m _=>False
 | .b _=>True
theorem okI.sc {x:Itm} (h:okI x):x.sc:=by cases x<;>first|trivial|exact h.elim
theorem CD (t:TypeId) (cnt:Int) (e:List PV) (x:Itm) (hx:okI x) (hc:0≤cnt∧cnt<512):Con Tryz.prog 247 [.ptr 0 0,.agg (dg x)] [(0,some ⟨t,du :: .i cnt::e.map .p⟩)] (.i 0) [(0,some ⟨t,du :: .i (cnt+1)::e.map .p⟩)]:=by
 refine ec 1 Tryz.func247 Tryz.ntmps247 Tryz.results247 [0,1,3,4,5,6,15,17,44] ?_;intro c hP h0 hE kK
 have hs:=H4 t cnt e x hx.sc hc
 cases x with
 | m n=>exact hx.elim
 | t s =>
  simp only [go_sem,hP]
  refine aa kK (by exact dw s (by have:=hx.1;omega)) ?_
  simp only [go_sem,hP,hx.2]
  refine x_k kK 2 (j6 t cnt e) ?_
  simp only [go_sem,hP]
  refine x_k kK 2 (hs) ?_
  simp only [go_sem,hP]
  refine aB [0] rfl ?_ ?_ rfl rfl (fun i hi=>by simp at hi;subst hi;exact⟨rfl,by simp [keys]⟩) (fun i hi=>by simp [liveK] at hi;simp;omega)
  ·simp only [go_sem]
  ·simp only [go_sem]
 | u n =>
  simp only [go_sem,hP]
  refine x_k kK 2 (j6 t cnt e) ?_
  simp only [go_sem,hP]
  refine x_k kK 2 (hs) ?_
  simp only [go_sem,hP]
  refine aB [0] rfl ?_ ?_ rfl rfl (fun i hi=>by simp at hi;subst hi;exact⟨rfl,by simp [keys]⟩) (fun i hi=>by simp [liveK] at hi;simp;omega)
  ·simp only [go_sem]
  ·simp only [go_sem]
 | d s =>
  simp only [go_sem,hP]
  refine x_k kK 2 (j6 t cnt e) ?_
  simp only [go_sem,hP]
  refine x_k kK 2 (hs) ?_
  simp only [go_sem,hP]
  refine aB [0] rfl ?_ ?_ rfl rfl (fun i hi=>by simp at hi;subst hi;exact⟨rfl,by simp [keys]⟩) (fun i hi=>by simp [liveK] at hi;simp;omega)
  ·simp only [go_sem]
  ·simp only [go_sem]
 | b v =>
  simp only [go_sem,hP]
  refine x_k kK 2 (j6 t cnt e) ?_
  simp only [go_sem,hP]
  refine x_k kK 2 (hs) ?_
  simp only [go_sem,hP]
  refine aB [0] rfl ?_ ?_ rfl rfl (fun i hi=>by simp at hi;subst hi;exact⟨rfl,by simp [keys]⟩) (fun i hi=>by simp [liveK] at hi;simp;omega)
  ·simp only [go_sem]
  ·simp only [go_sem]
theorem vd (t:TypeId) (e:List PV):Con Tryz.prog 247 [.ptr 0 0,.agg (dg (.m 9))] [(0,some ⟨t,du :: .i 0::e.map .p⟩)] (.i 0) [(0,some ⟨t,.sl 1 0 1 3 :: .i 1::e.map .p⟩),(1,some ⟨frT,[.b true,.i 18,du]⟩)]:=by
 refine ec 1 Tryz.func247 Tryz.ntmps247 Tryz.results247 [0,1,3,4,5,6,15,17,44] ?_;intro c hP h0 hE kK
 have hO:=H6 t e
 simp only [go_sem,hP]
 refine x_k kK 2 (j6 t 0 e) ?_
 simp only [go_sem,hP]
 refine ck hE (ks:=[0,1,3,4,5,6,15,17,44]) (n:=2000) [] (sg 2 [0]) _ (by rw [hP];exact hO) ⟨by simp only [go_sem],by simp only [go_sem],rfl,trivial,Nat.le_add_right _ 2,fun i hi=>by simp [keys] at hi;rcases hi with rfl|rfl<;>simp [liveK,sg],by simp [ax,an,keys],by simp [bS,an,ax,keys],rfl⟩ ?_
 simp only [go_sem,hP]
 refine aB [0,3] rfl ?_ ?_ rfl rfl (fun i hi=>by simp at hi;subst hi;exact⟨rfl,by simp [keys]⟩) (fun i hi=>by simp [liveK] at hi;simp;omega)
 ·simp only [go_sem]
 ·simp only [go_sem]
theorem z6:∀j:Fin 10,bD (.u (UInt64.ofNat j.val))=[UInt8.ofNat j.val]:=by decide +kernel
theorem rx (cs:List PV):jc (cs.map .p):=by
 intro c hc
 obtain⟨y,_,rfl⟩:=List.mem_map.1 hc
 trivial
theorem ry (id:Nat) (b:Blk) (cs:List PV):hJ id b (cs.map .p)=cs.map .p:=iz id b _ (rx cs)
theorem pQ (id:Nat) (b:Blk) (cs:List PV):gh id b (cs.map .p)↔True:=⟨fun _=>trivial,fun _=>fm id b _ (rx cs)⟩
attribute [go_sem] ry pQ
def laP (j:Nat):PV:=if j=1 then .v (.slice none 0 0) else .data 1 1 ([UInt8.ofNat (j-1)].map bt)
def laK (j:Nat):PV := .data 1 1 ([UInt8.ofNat j].map bt)
attribute [go_sem] laK
theorem ve (t:TypeId) (e:List PV) (j:Nat) (h1:1≤j) (h9:j≤9):Con Tryz.prog 247 [.ptr 0 0,.agg (dg (.u (UInt64.ofNat j)))] [(0,some ⟨t,.sl 1 0 1 3 :: .i (2*j-1)::e.map .p⟩),(1,some ⟨frT,[.b true,.i (20-2*j),.p (laP j)]⟩)] (.i 0) [(0,some ⟨t,.sl 1 0 1 3 :: .i (2*j)::e.map .p⟩),(1,some ⟨frT,[.b true,.i (19-2*j),.p (laK j)]⟩)]:=by
 refine ec 2 Tryz.func247 Tryz.ntmps247 Tryz.results247 [0,1,3,4,5,6,15,17,44] ?_;intro c hP h0 hE kK
 have hO:=lQ [] 0 rfl (by decide) (.u (UInt64.ofNat j)) (by simp [Itm.da])
 rw [show bD (.u (UInt64.ofNat j))=[UInt8.ofNat j] from z6 ⟨j,by omega⟩] at hO
 have he:(20-2*(j:Int)) % 2=0:=by omega
 have h11:IntKind.i64.wrap (1-1)=0:=by decide
 simp only [go_sem,hP]
 refine x_k kK 3 (n8 t (20-2*j) (2*j-1) (laP j) e (by omega)) ?_
 simp only [go_sem,hP,he,decide_true,h11]
 refine⟨by kernel_rfl,zT a7 ?_⟩
 refine ck hE (ks:=[0,1,3,4,5,6,15,17,44]) (n:=2000) [] (sg 4 [3]) 6 (by rw [hP];exact hO) ⟨by simp only [go_sem,kp],by simp only [go_sem,kp,qw],rfl,trivial,by simp [kp],fun i hi=>by simp [keys] at hi;rcases hi with rfl|rfl<;>simp [liveK,sg,kp],by simp [ax,an,keys],by simp [bS,an,ax,cc],rfl⟩ ?_
 have hs:=Cv t (20-2*j) (2*j-1) (laK j) e (.u (UInt64.ofNat j)) trivial (by omega) (by omega)
 rw [show (2*(j:Int)-1+1)=2*j from by omega,show 20-2*(j:Int)-1=19-2*j from by omega] at hs
 rcases Nat.eq_or_lt_of_le h1 with h1'|h1'
 ·have hl:laP j = .v (.slice none 0 0):=by unfold laP;rw [if_pos h1'.symm]
  simp only [go_sem,hP,kp,hl]
  refine iI hE (ks:=[0,1,3,4,5,6,15,17,44]) (n:=2000) 5 ?_ ?_
  ·simp only [go_sem]
  simp only [go_sem,hP]
  refine x_k kK 6 (hs) ?_
  simp only [go_sem,hP]
  refine aB [0,1] rfl ?_ ?_ rfl rfl (fun i hi=>by simp at hi;rcases hi with rfl|rfl<;>exact⟨rfl,by simp [keys]⟩) (fun i hi=>by simp [liveK] at hi;simp;omega)
  ·simp only [go_sem]
  ·simp only [go_sem]
 ·have hl:laP j = .data 1 1 ([UInt8.ofNat (j-1)].map bt):=by unfold laP;rw [if_neg (by omega)]
  simp only [go_sem,hP,kp,hl]
  refine iI hE (ks:=[0,1,3,4,5,6,15,17,44]) (n:=2000) 5 ?_ ?_
  ·simp only [go_sem]
  simp only [go_sem,hP]
  refine aa kK (by exact zV (UInt8.ofNat (j-1)) (UInt8.ofNat j) (by rw [UInt8.toNat_ofNat',UInt8.toNat_ofNat'];omega)) ?_
  simp only [go_sem,hP]
  refine x_k kK 6 (hs) ?_
  simp only [go_sem,hP]
  refine aB [0,1] rfl ?_ ?_ rfl rfl (fun i hi=>by simp at hi;rcases hi with rfl|rfl<;>exact⟨rfl,by simp [keys]⟩) (fun i hi=>by simp [liveK] at hi;simp;omega)
  ·simp only [go_sem]
  ·simp only [go_sem]
theorem vf (t:TypeId) (e:List PV) (x:Itm) (hx:okI x) (j:Nat) (h1:1≤j) (h9:j<9):Con Tryz.prog 247 [.ptr 0 0,.agg (dg x)] [(0,some ⟨t,.sl 1 0 1 3 :: .i (2*j)::e.map .p⟩),(1,some ⟨frT,[.b true,.i (19-2*j),.p (laK j)]⟩)] (.i 0) [(0,some ⟨t,.sl 1 0 1 3 :: .i (2*j+1)::e.map .p⟩),(1,some ⟨frT,[.b true,.i (18-2*j),.p (laK j)]⟩)]:=by
 refine ec 2 Tryz.func247 Tryz.ntmps247 Tryz.results247 [0,1,3,4,5,6,15,17,44] ?_;intro c hP h0 hE kK
 have hs:=Cv t (19-2*j) (2*j) (laK j) e x hx.sc (by omega) (by omega)
 rw [show 19-2*(j:Int)-1=18-2*j from by omega] at hs
 have ha:=n8 t (19-2*j) (2*j) (laK j) e (by omega)
 have he:¬(19-2*(j:Int)) % 2=0:=by omega
 cases x
 case m=>exact hx.elim
 case t s =>
  simp only [go_sem,hP]
  refine aa kK (by exact dw s (by have:=hx.1;omega)) ?_
  simp only [go_sem,hP,hx.2]
  refine x_k kK 3 (ha) ?_
  simp only [go_sem,hP,he,decide_false]
  refine x_k kK 3 (hs) ?_
  simp only [go_sem,hP]
  refine aB [0,1] rfl ?_ ?_ rfl rfl (fun i hi=>by simp at hi;rcases hi with rfl|rfl<;>exact⟨rfl,by simp [keys]⟩) (fun i hi=>by simp [liveK] at hi;simp;omega)
  ·simp only [go_sem]
  ·simp only [go_sem]
 all_goals
  simp only [go_sem,hP]
  refine x_k kK 3 (ha) ?_
  simp only [go_sem,hP,he,decide_false]
  refine x_k kK 3 (hs) ?_
  simp only [go_sem,hP]
  refine aB [0,1] rfl ?_ ?_ rfl rfl (fun i hi=>by simp at hi;rcases hi with rfl|rfl<;>exact⟨rfl,by simp [keys]⟩) (fun i hi=>by simp [liveK] at hi;simp;omega)
  ·simp only [go_sem]
  ·simp only [go_sem]
theorem vg (t:TypeId) (e:List PV) (x:Itm) (hx:okI x):Con Tryz.prog 247 [.ptr 0 0,.agg (dg x)] [(0,some ⟨t,.sl 1 0 1 3 :: .i 18::e.map .p⟩),(1,some ⟨frT,[.b true,.i 1,.p (laK 9)]⟩)] (.i 0) [(0,some ⟨t,.sl 1 0 0 3 :: .i 19::e.map .p⟩),(1,some ⟨frT,[.b true,.i 0,.p (laK 9)]⟩)]:=by
 refine ec 2 Tryz.func247 Tryz.ntmps247 Tryz.results247 [0,1,3,4,5,6,15,17,44] ?_;intro c hP h0 hE kK
 have hs:=H5 t 18 (laK 9) e x hx.sc (by omega)
 have ha:=n8 t 1 18 (laK 9) e (by omega)
 have he:decide ((1:Int) % 2=0)=false:=rfl
 rw [he] at ha
 cases x
 case m=>exact hx.elim
 case t s =>
  simp only [go_sem,hP]
  refine aa kK (by exact dw s (by have:=hx.1;omega)) ?_
  simp only [go_sem,hP,hx.2]
  refine x_k kK 3 (ha) ?_
  simp only [go_sem,hP]
  refine x_k kK 3 (hs) ?_
  simp only [go_sem,hP]
  refine aB [0,1] rfl ?_ ?_ rfl rfl (fun i hi=>by simp at hi;rcases hi with rfl|rfl<;>exact⟨rfl,by simp [keys]⟩) (fun i hi=>by simp [liveK] at hi;simp;omega)
  ·simp only [go_sem]
  ·simp only [go_sem]
   rfl
 all_goals
  simp only [go_sem,hP]
  refine x_k kK 3 (ha) ?_
  simp only [go_sem,hP]
  refine x_k kK 3 (hs) ?_
  simp only [go_sem,hP]
  refine aB [0,1] rfl ?_ ?_ rfl rfl (fun i hi=>by simp at hi;rcases hi with rfl|rfl<;>exact⟨rfl,by simp [keys]⟩) (fun i hi=>by simp [liveK] at hi;simp;omega)
  ·simp only [go_sem]
  ·simp only [go_sem]
   rfl
end Go.Proofs.YtebndjnkmcahaaaGreatDoor
end
section
namespace Go.Proofs.YtebndjnkmcahaaaGreatDoor
set_option linter.unusedSimpArgs false
set_option linter.unusedVariables false
open Go Go.Abs Go.RowKit
def okS:Itm→Prop
 | .d s=>s.length≤1024
 | .t s=>s.length≤1024
 | .m n=>n.toNat≤512
 | _=>True
theorem okI.s {x:Itm} (h:okI x):okS x:=by cases x<;>first|trivial|exact h|exact h.1|exact h.elim
theorem pR (x:Itm):FPure Tryz.prog 246 [.agg (dg x)] (.b true):=by
 refine en Tryz.func246 Tryz.ntmps246 Tryz.results246 [0,1,2,4,5,11,21] ?_;intro c hP h0 hE kK
 cases x with
 | b v =>
  have hv:((UInt64.toNat (bN v):Nat):Int)≤1:=by cases v<;>decide
  simp only [go_sem,hP,hv]
 | u n=>simp only [go_sem,hP]
 | m n=>simp only [go_sem,hP]
 | d s=>simp only [go_sem,hP]
 | t s=>simp only [go_sem,hP]
theorem yu (x:Itm):1≤x.kd∧x.kd≤8:=by cases x<;>simp [Itm.kd]
theorem w9 (x:Itm) (hx:okS x) (left left' cnt cnt':Int) (la la':PV) (n':Nat) (hc:0<cnt∧cnt<512) (hl:0≤left) (hkey:left % 2=0→x.kd=1)
 (hacc:Con Tryz.prog 247 [.ptr 0 0,.agg (dg x)] [(0,some ⟨ckT,.sl 1 0 1 3 :: .i cnt::([]:List PV).map .p⟩),(1,some ⟨frT,[.b true,.i left,.p la]⟩)] (.i 0) [(0,some ⟨ckT,.sl 1 0 n' 3 :: .i cnt'::([]:List PV).map .p⟩),(1,some ⟨frT,[.b true,.i left',.p la']⟩)]) :
 Con Tryz.prog 214 [.ptr 0 0,.agg (dg x)] [(0,some ⟨ckT,[.sl 1 0 1 3,.i cnt]⟩),(1,some ⟨frT,[.b true,.i left,.p la]⟩)] (.i 0) [(0,some ⟨ckT,[.sl 1 0 n' 3,.i cnt']⟩),(1,some ⟨frT,[.b true,.i left',.p la']⟩)]:=by
 refine ec 2 Tryz.func214 Tryz.ntmps214 Tryz.results214 [0,1,3,4,5,9,17,21,25,38] ?_;intro c hP h0 hE kK
 have hd:=th ckT 1 cnt [] [.v (.bool true),.v (.int .i64 left),la] hc.1
 have hm:=lR ckT x.kd left cnt la [] (yu x) hl hkey hc.2
 have hsh:=pR x
 simp only [go_sem,hP]
 refine x_k kK 3 (hd) ?_
 simp only [go_sem,hP]
 refine x_k kK 3 (hm) ?_
 simp only [go_sem,hP]
 refine⟨by kernel_rfl,?_⟩
 refine aa kK (by exact hsh) ?_
 cases x
 case u n =>
  simp only [go_sem,hP]
  refine x_k kK 3 (hacc) ?_
  simp only [go_sem,hP]
  refine⟨by kernel_rfl,aB [0,1] rfl ?_ ?_ rfl rfl (fun i hi=>by simp at hi;rcases hi with rfl|rfl<;>exact⟨rfl,by simp [keys]⟩) (fun i hi=>by simp [liveK] at hi;simp;omega)⟩
  ·simp only [go_sem]
  ·simp only [go_sem]
 case b v =>
  simp only [go_sem,hP]
  refine x_k kK 3 (hacc) ?_
  simp only [go_sem,hP]
  refine⟨by kernel_rfl,aB [0,1] rfl ?_ ?_ rfl rfl (fun i hi=>by simp at hi;rcases hi with rfl|rfl<;>exact⟨rfl,by simp [keys]⟩) (fun i hi=>by simp [liveK] at hi;simp;omega)⟩
  ·simp only [go_sem]
  ·simp only [go_sem]
 case m n =>
  have h512:¬((n.toNat:Int)>512):=by have:n.toNat≤512:=hx;omega
  simp only [go_sem,hP,h512]
  refine x_k kK 3 (hacc) ?_
  simp only [go_sem,hP]
  refine⟨by kernel_rfl,aB [0,1] rfl ?_ ?_ rfl rfl (fun i hi=>by simp at hi;rcases hi with rfl|rfl<;>exact⟨rfl,by simp [keys]⟩) (fun i hi=>by simp [liveK] at hi;simp;omega)⟩
  ·simp only [go_sem]
  ·simp only [go_sem]
 all_goals
  rename_i s
  have h1k:¬((s.length:Int)>1024):=by have:s.length≤1024:=hx;omega
  simp only [go_sem,hP,h1k]
  refine x_k kK 3 (hacc) ?_
  simp only [go_sem,hP]
  refine⟨by kernel_rfl,aB [0,1] rfl ?_ ?_ rfl rfl (fun i hi=>by simp at hi;rcases hi with rfl|rfl<;>exact⟨rfl,by simp [keys]⟩) (fun i hi=>by simp [liveK] at hi;simp;omega)⟩
  ·simp only [go_sem]
  ·simp only [go_sem]
theorem If (x:Itm) (hx:okI x):Con Tryz.prog 214 [.ptr 0 0,.agg (dg x)] [(0,some ⟨ckT,[du,.i 0]⟩)] (.i 0) [(0,some ⟨ckT,[du,.i 1]⟩)]:=by
 refine ec 1 Tryz.func214 Tryz.ntmps214 Tryz.results214 [0,1,3,4,5,9,17,21,25,38] ?_;intro c hP h0 hE kK
 have hd:Con Tryz.prog 215 [.ptr 0 0] _ (.b false) _:=tg ckT 0 []
 have hm:=tj ckT x.kd 0 [] (yu x) (by decide)
 have hsh:=pR x
 have hacc:Con Tryz.prog 247 [.ptr 0 0,.agg (dg x)] _ (.i 0) [(0,some ⟨ckT,du :: .i 1::([]:List PV).map .p⟩)]:=CD ckT 0 [] x hx (by decide)
 simp only [go_sem,hP]
 refine x_k kK 2 (hd) ?_
 simp only [go_sem,hP]
 refine x_k kK 2 (hm) ?_
 simp only [go_sem,hP]
 refine⟨by kernel_rfl,?_⟩
 refine aa kK (by exact hsh) ?_
 cases x
 case m n=>exact hx.elim
 case u n =>
  simp only [go_sem,hP]
  refine x_k kK 2 (hacc) ?_
  simp only [go_sem,hP]
  refine⟨by kernel_rfl,aB [0] rfl ?_ ?_ rfl rfl (fun i hi=>by simp at hi;subst hi;exact⟨rfl,by simp [keys]⟩) (fun i hi=>by simp [liveK] at hi;simp;omega)⟩
  ·simp only [go_sem]
  ·simp only [go_sem]
 case b v =>
  simp only [go_sem,hP]
  refine x_k kK 2 (hacc) ?_
  simp only [go_sem,hP]
  refine⟨by kernel_rfl,aB [0] rfl ?_ ?_ rfl rfl (fun i hi=>by simp at hi;subst hi;exact⟨rfl,by simp [keys]⟩) (fun i hi=>by simp [liveK] at hi;simp;omega)⟩
  ·simp only [go_sem]
  ·simp only [go_sem]
 all_goals
  rename_i s
  have h1k:¬((s.length:Int)>1024):=by have:s.length≤1024:=hx.s;omega
  simp only [go_sem,hP,h1k]
  refine x_k kK 2 (hacc) ?_
  simp only [go_sem,hP]
  refine⟨by kernel_rfl,aB [0] rfl ?_ ?_ rfl rfl (fun i hi=>by simp at hi;subst hi;exact⟨rfl,by simp [keys]⟩) (fun i hi=>by simp [liveK] at hi;simp;omega)⟩
  ·simp only [go_sem]
  ·simp only [go_sem]
theorem Ig:Con Tryz.prog 214 [.ptr 0 0,.agg (dg (.m 9))] [(0,some ⟨ckT,[du,.i 0]⟩)] (.i 0) [(0,some ⟨ckT,[.sl 1 0 1 3,.i 1]⟩),(1,some ⟨frT,[.b true,.i 18,du]⟩)]:=by
 refine ec 1 Tryz.func214 Tryz.ntmps214 Tryz.results214 [0,1,3,4,5,9,17,21,25,38] ?_;intro c hP h0 hE kK
 have hd:Con Tryz.prog 215 [.ptr 0 0] _ (.b false) _:=tg ckT 0 []
 have hm:=tj ckT 6 0 [] (by decide) (by decide)
 have hsh:=pR (.m 9)
 have hO:=vd ckT []
 have h9:((UInt64.toNat 9:Nat):Int)=9:=by decide
 simp only [go_sem,hP]
 refine x_k kK 2 (hd) ?_
 simp only [go_sem,hP]
 refine x_k kK 2 (hm) ?_
 simp only [go_sem,hP]
 refine⟨by kernel_rfl,?_⟩
 refine aa kK (by exact hsh) ?_
 simp only [go_sem,hP,h9]
 refine mw hE (ks:=[0,1,3,4,5,9,17,21,25,38]) (n:=2000) [] (sg 2 [0]) _ (by rw [hP];exact hO) ⟨by simp only [go_sem],by simp only [go_sem],rfl,trivial,Nat.le_add_right _ 2,fun i hi=>by simp [keys] at hi;rcases hi with rfl|rfl<;>simp [liveK,sg],by simp [ax,an,keys],by simp [bS,an,ax,keys],rfl⟩ rfl ?_
 simp only [go_sem,hP]
 refine⟨by kernel_rfl,aB [0,3] rfl ?_ ?_ rfl rfl (fun i hi=>by simp at hi;subst hi;exact⟨rfl,by simp [keys]⟩) (fun i hi=>by simp [liveK] at hi;simp;omega)⟩
 ·simp only [go_sem]
 ·simp only [go_sem]
theorem Ih (x:Itm) (hx:okI x):FPure Tryz.prog 174 [.p (.data 3 1 (cH x))] (.i 0):=by
 refine en Tryz.func174 Tryz.ntmps174 Tryz.results174 [0,2,3,5,6,7,8,9,10,16,21] ?_;intro c hP h0 hE kK
 have hi:=If x hx
 have hd:Con Tryz.prog 215 [.ptr 0 0] [(0,some ⟨ckT,[du,.i 1]⟩)] (.b true) _:=tg ckT 1 []
 have h01:IntKind.i64.wrap (0+1)=1:=by decide
 simp only [go_sem,hP]
 refine ay hE h0 [0,2,3,5,6,7,8,9,10,16,21] 1 (fun i=>⟨22,[(3,.ptr 0 0),(7,.p (.data 3 1 (cH x))),(8,.i 1),(9,.i i)],[(0,some ⟨ckT,[du,.i i]⟩)],1⟩) [] (fun i=>i) ?_ ?_
 ·refine⟨rfl,?_,?_,rfl,rfl,trivial,fun i h=>h⟩
  ·simp only [go_sem]
  ·simp only [go_sem]
 ·intro i hi'
  rcases (show i=0∨i=1 from by omega) with rfl|rfl
  ·simp only [go_sem,hP,cH]
   refine x_k kK 2 (hi) ?_
   simp only [go_sem,hP,h01]
   refine⟨by decide,aZ [0] rfl ?_ ?_ rfl rfl (Nat.le_of_ble_eq_true rfl)⟩
   ·simp only [go_sem]
   ·simp only [go_sem]
  ·simp only [go_sem,hP]
   refine x_k kK 1 (hd) ?_
   simp only [go_sem,hP]
structure G19 (l:List Itm):Prop where
 len:l.length=19
 h0:l.getD 0 (.b false) = .m 9
 hk:∀j,1≤j→j≤9→l.getD (2*j-1) (.b false) = .u (UInt64.ofNat j)
 hv:∀j,1≤j→j≤9→okI (l.getD (2*j) (.b false))
def laI (i:Nat):PV:=if i≤1 then .v (.slice none 0 0) else laK (i/2)
def hpI (i:Nat):List (Nat×Option Blk):=if i=0 then [(0,some ⟨ckT,[du,.i 0]⟩)] else [(0,some ⟨ckT,[.sl 1 0 (if i=19 then 0 else 1) 3,.i i]⟩),(1,some ⟨frT,[.b true,.i (19-(i:Int)),.p (laI i)]⟩)]
theorem yw {i:Nat} (h:i≠0) (h':i≠19):hpI i=[(0,some ⟨ckT,[.sl 1 0 1 3,.i i]⟩),(1,some ⟨frT,[.b true,.i (19-(i:Int)),.p (laI i)]⟩)]:=by unfold hpI;rw [if_neg h,if_neg h']
theorem F7 {i:Nat} (h:i≠0):hpI i=[(0,some ⟨ckT,[.sl 1 0 (if i=19 then 0 else 1) 3,.i i]⟩),(1,some ⟨frT,[.b true,.i (19-(i:Int)),.p (laI i)]⟩)]:=by unfold hpI;rw [if_neg h]
theorem Ii {l:List Itm} (hl:G19 l) {i:Nat} (h1:1≤i) (h19:i<19):Con Tryz.prog 214 [.ptr 0 0,.agg (dg (l.getD i (.b false)))] (hpI i) (.i 0) (hpI (i+1)):=by
 rw [yw (by omega) (by omega)]
 obtain⟨j,hj⟩:∃j,i=2*j-1∧1≤j∧j≤9∨i=2*j∧1≤j∧j<9∨i=18:=⟨(i+1)/2,by omega⟩
 rcases hj with ⟨rfl,h2,h3⟩|⟨rfl,h2,h3⟩|rfl
 ·have e1:laI (2*j-1)=laP j:=by
   unfold laI laP
   by_cases hj:j=1
   ·subst hj;rfl
   ·rw [if_neg (by omega),if_neg hj,show (2*j-1)/2=j-1 from by omega];rfl
  have e2:laI (2*j-1+1)=laK j:=by unfold laI;rw [if_neg (by omega),show (2*j-1+1)/2=j from by omega]
  rw [yw (by omega) (by omega),e1,e2,hl.hk j h2 h3,show (((2*j-1:Nat):Int))=2*j-1 from by omega,show (((2*j-1+1:Nat):Int))=2*j from by omega,
   show (19-(2*(j:Int)-1))=20-2*j from by omega]
  exact w9 (.u (UInt64.ofNat j)) trivial _ _ _ _ _ _ _ (by omega) (by omega) (fun _=>rfl) (ve ckT [] j h2 h3)
 ·have e1:laI (2*j)=laK j:=by unfold laI;rw [if_neg (by omega),show 2*j/2=j from by omega]
  have e2:laI (2*j+1)=laK j:=by unfold laI;rw [if_neg (by omega),show (2*j+1)/2=j from by omega]
  rw [yw (by omega) (by omega),e1,e2,show (((2*j:Nat):Int))=2*j from by omega,show (((2*j+1:Nat):Int))=2*j+1 from by omega,show (19-(2*(j:Int)+1))=18-2*j from by omega]
  exact w9 _ (hl.hv j h2 (by omega)).s _ _ _ _ _ _ _ (by omega) (by omega) (fun h=>by omega) (vf ckT [] _ (hl.hv j h2 (by omega)) j h2 h3)
 ·exact w9 _ (hl.hv 9 (by decide) (by decide)).s _ _ _ _ _ _ _ (by decide) (by decide) (fun h=>absurd h (by decide)) (vg ckT [] _ (hl.hv 9 (by decide) (by decide)))
theorem tr (l:List Itm) (hl:G19 l):FPure Tryz.prog 174 [.p (.data 3 19 (aO l))] (.i 0):=by
 refine en Tryz.func174 Tryz.ntmps174 Tryz.results174 [0,2,3,5,6,7,8,9,10,16,21] ?_;intro c hP h0 hE kK
 have hd:=th ckT 0 19 [] [.v (.bool true),.v (.int .i64 0),laK 9] (by decide)
 simp only [go_sem,hP]
 refine ay hE h0 [0,2,3,5,6,7,8,9,10,16,21] 19 (fun i=>⟨22,[(3,.ptr 0 0),(7,.p (.data 3 19 (aO l))),(8,.i 19),(9,.i i)],hpI i,2⟩) [] (fun i=>i) ?_ ?_
 ·refine⟨rfl,?_,?_,rfl,rfl,trivial,fun i h=>Nat.le_of_succ_le h⟩
  ·simp only [go_sem]
  ·simp only [go_sem,hpI]
 ·intro i hi'
  have hw:IntKind.i64.wrap ((i:Int)+1)=((i+1:Nat):Int):=by rw [ab (by omega) (by omega)];omega
  rcases Nat.lt_or_ge i 19 with hin|hin
  ·have hat:=bJ l i (by rw [hl.len];exact hin)
   rcases Nat.eq_zero_or_pos i with rfl|hp
   ·have hO:=Ig
    rw [hl.h0] at hat
    rw [show hpI 0=[(0,some ⟨ckT,[du,.i 0]⟩)] from rfl]
    simp only [go_sem,hP,hat,cH]
    refine ck hE (ks:=[0,2,3,5,6,7,8,9,10,16,21]) (n:=2000) [] (sg 3 [0]) _ (by rw [hP];exact hO) ⟨by simp only [go_sem],by simp only [go_sem],rfl,trivial,Nat.le_add_right _ 2,fun i hi=>by simp [keys] at hi;rcases hi with rfl|rfl<;>simp [liveK,sg],by simp [ax,an,keys],by simp [bS,an,ax,keys],rfl⟩ ?_
    simp only [go_sem,hP,show IntKind.i64.wrap (0+1)=1 from by decide]
    refine⟨by decide,aZ [0,4] rfl ?_ ?_ rfl rfl (Nat.le_of_ble_eq_true rfl)⟩
    ·simp only [go_sem]
    ·rw [show hpI (0+1)=[(0,some ⟨ckT,[.sl 1 0 1 3,.i 1]⟩),(1,some ⟨frT,[.b true,.i 18,du]⟩)] from rfl]
     simp only [go_sem]
   ·have hI:=Ii hl hp hin
    generalize l.getD i (.b false)=x at *
    rw [yw (i:=i) (by omega) (by omega)] at hI ⊢
    rw [F7 (i:=i+1) (Nat.succ_ne_zero i)] at hI
    simp only [go_sem,hP,hat,cH,hw,show ((i:Int)<19) from by omega]
    rw [F7 (i:=i+1) (Nat.succ_ne_zero i)]
    generalize (if i+1=19 then 0 else 1)=n' at *
    refine⟨by omega,?_⟩
    refine x_k kK 3 (hI) ?_
    simp only [go_sem,hP,hw]
    refine⟨hin,aZ [0,1] rfl ?_ ?_ rfl rfl (Nat.le_of_ble_eq_true rfl)⟩
    ·simp only [go_sem]
    ·simp only [go_sem]
  ·obtain rfl:i=19:=by omega
   rw [show hpI 19=[(0,some ⟨ckT,[.sl 1 0 0 3,.i 19]⟩),(1,some ⟨frT,[.b true,.i 0,.p (laK 9)]⟩)] from rfl]
   simp only [go_sem,hP]
   refine x_k kK 2 (hd) ?_
   simp only [go_sem,hP]
end Go.Proofs.YtebndjnkmcahaaaGreatDoor
end

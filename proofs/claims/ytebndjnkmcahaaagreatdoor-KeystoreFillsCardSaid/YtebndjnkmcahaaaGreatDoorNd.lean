/- joined of several texts; own work; no statement of the seat is proved but in the last -/
import Derived.Test.YtebndjnkmcahaaaGreatDoorNf
section
namespace Go.Proofs.YtebndjnkmcahaaaGreatDoor
set_option linter.unusedSimpArgs false
set_option linter.unusedVariables false
open Go Go.Abs Go.RowKit
abbrev blA (x:List UInt8):AV := .p (.data 1 x.length (x.map bt))
def kE:List UInt64:=[1,2,3,4,5,6,7,8,9]
abbrev ru:PV := .data 1 9 (kE.map wd)
abbrev fnK:AV := .fn (.func 170) [] [.cp [ru]]
def fR:List AV:=[.i 0,.i 1,.i 2,.i 3,.i 4,.i 5,.i 6,.i 7,.i 8]
@[simp] theorem E2 (T:List Nat):an T fR:=by simp [fR,an,ax]
theorem yp:fR.length=9:=rfl
theorem H8 (h:ba) (S:List Nat) (σ:Nat→Nat):ai h S σ fR fR↔True:=⟨fun _=>trivial,fun _=>aW h S σ [.v (.int .i64 0),.v (.int .i64 1),.v (.int .i64 2),.v (.int .i64 3),.v (.int .i64 4),.v (.int .i64 5),.v (.int .i64 6),.v (.int .i64 7),.v (.int .i64 8)]⟩
theorem H9 (τ:Nat→Nat):eG τ fR=fR:=eM τ [.v (.int .i64 0),.v (.int .i64 1),.v (.int .i64 2),.v (.int .i64 3),.v (.int .i64 4),.v (.int .i64 5),.v (.int .i64 6),.v (.int .i64 7),.v (.int .i64 8)]
def JO:List PV:=[.v (.int .i64 0),.v (.int .i64 1),.v (.int .i64 2),.v (.int .i64 3),.v (.int .i64 4),.v (.int .i64 5),.v (.int .i64 6),.v (.int .i64 7),.v (.int .i64 8)]
theorem JP (id:Nat) (b:Blk):hJ id b fR=fR:=ry id b JO
theorem Ia (id:Nat) (b:Blk):gh id b fR↔True:=pQ id b JO
attribute [go_sem] yp E2 H8 H9 JP Ia
theorem pM:∀i,i<9→aS (.v (.int .i64 0)) (fR.drop i) = .i i
 | 0,_=>rfl|1,_=>rfl|2,_=>rfl|3,_=>rfl|4,_=>rfl|5,_=>rfl|6,_=>rfl|7,_=>rfl|8,_=>rfl
 | n+9,h=>by omega
theorem pN:∀i,i<9→(kE.getD i 0).toNat=i+1
 | 0,_=>rfl|1,_=>rfl|2,_=>rfl|3,_=>rfl|4,_=>rfl|5,_=>rfl|6,_=>rfl|7,_=>rfl|8,_=>rfl
 | n+9,h=>by omega
theorem F6 (n:Int):FPure Tryz.prog 213 [.p (.v (.int .u64 n))] (.b false):=by
 refine en Tryz.func213 Tryz.ntmps213 Tryz.results213 [0,2] ?_;intro c hP h0 hE kK
 simp only [go_sem,hP,bne_self_eq_false]
theorem zW (a b:Int) (h:b<a):FPure Tryz.prog 171 [.p (.v (.int .u64 a)),.p (.v (.int .u64 b))] (.i 1):=by
 refine en Tryz.func171 Tryz.ntmps171 Tryz.results171 [0,1,4,5,6,11,12,13,16,19] ?_;intro c hP h0 hE kK
 simp only [go_sem,hP]
 refine aa kK (by exact F6 a) ?_
 simp only [go_sem,hP]
 refine aa kK (by exact F6 b) ?_
 simp only [go_sem,hP,show ¬a<b from by omega,h,gt_iff_lt]
theorem Cw (j:Nat) (h1:1≤j) (h9:j<9):FPure Tryz.prog 170 [.i j,.i ((j:Int)-1),.cp [ru]] (.i 1):=by
 refine en Tryz.func170 Tryz.ntmps170 Tryz.results170 [0,1,2,5] ?_;intro c hP h0 hE kK
 have e1:=pN j h9
 have e2:=pN (j-1) (by omega)
 have e3:((j:Int)-1).toNat=j-1:=by omega
 have hl:kE.length=9:=rfl
 simp only [go_sem,hP,e3]
 refine⟨⟨by omega,by omega⟩,by omega,⟨by omega,by omega⟩,by omega,?_⟩
 generalize kE.getD j 0=x at *
 generalize kE.getD (j-1) 0=y at *
 refine aa kK (by exact zW (x.toNat:Int) (y.toNat:Int) (by omega)) ?_
 simp only [go_sem,hP]
 kernel_rfl
theorem Cx:Con Tryz.prog 235 [.sl 0 0 9 1,.i 0,.i 9,fnK] [(0,some ⟨3,fR⟩)] (.tup []) [(0,some ⟨3,fR⟩)]:=by
 refine ec 1 Tryz.func235 Tryz.ntmps235 Tryz.results235 [0,1,2,3,8,9,14,34] ?_;intro c hP h0 hE kK
 simp only [go_sem,hP,show IntKind.i64.wrap (0+1)=1 from by decide]
 refine bK hE [0] (fun i hi=>by have:=h0 i hi;simpa [liveK] using this) [0,1,2,3,8,9,14,34] 8 (fun i=>⟨53,[(0,.sl 0 0 9 1),(1,.i 0),(2,.i 9),(3,fnK),(8,.i (1+(i:Int)))],[(0,some ⟨3,fR⟩)],1⟩) [] (fun i=>i) ⟨rfl,?_,?_,rfl,rfl,trivial,fun i h=>h⟩ (fun i _=>rfl) ?_
 ·simp only [go_sem]
  rfl
 ·simp only [go_sem]
 intro i hi
 rcases Nat.lt_or_ge i 8 with h8|h8
 ·have e1:=pM (1+i) (by omega)
  have e2:=pM i (by omega)
  have e3:(1+(i:Int)).toNat=1+i:=by omega
  have e4:IntKind.i64.wrap (1+(i:Int)-1)=(i:Int):=by rw [ab (by omega) (by omega)];omega
  have e5:IntKind.i64.wrap (1+(i:Int)+1)=1+((i+1:Nat):Int):=by rw [ab (by omega) (by omega)];omega
  have hc:=Cw (1+i) (by omega) (by omega)
  rw [show (((1+i:Nat):Int)-1)=(i:Int) from by omega] at hc
  simp only [go_sem,hP,show (1:Int)+i<9 from by omega]
  refine bK hE [0] (fun i hi=>by have:=h0 i hi;simpa [liveK] using this) [0,1,2,3,8,9,14,34] 0 (fun _=>⟨53,[(0,.sl 0 0 9 1),(1,.i 0),(2,.i 9),(3,fnK),(8,.i (1+(i:Int))),(9,.i (1+(i:Int)))],[(0,some ⟨3,fR⟩)],1⟩) [] (fun i=>i) ⟨rfl,?_,?_,rfl,rfl,trivial,fun i h=>h⟩ (fun i _=>rfl) ?_
  ·simp only [go_sem]
  ·simp only [go_sem]
  intro _ _
  simp only [go_sem,hP,e1,e2,e3,e4,show (0:Int)<1+i from by omega]
  refine⟨⟨by omega,by omega⟩,by omega,⟨by omega,by omega⟩,by omega,?_⟩
  refine aa kK (by exact hc) ?_
  simp only [go_sem,hP,e5]
  refine⟨by kernel_rfl,h8,kq [0] [0] rfl ?_ ?_ rfl rfl (Nat.le_refl _) (fun i hi=>by simp at hi;subst hi;rfl)⟩
  ·simp only [go_sem]
  ·simp only [go_sem]
 ·obtain rfl:i=8:=by omega
  simp only [go_sem,hP,show ¬((1:Int)+((8:Nat):Int)<9) from by omega,show ¬((1:Int)+8<9) from by omega]
  refine aB [0] rfl ?_ ?_ rfl rfl (fun i hi=>by simp at hi;subst hi;exact⟨rfl,by simp [keys]⟩) (fun i hi=>by simp [liveK] at hi;simp;omega)
  ·simp only [go_sem]
  ·simp only [go_sem]
theorem JQ (n:Int):Con Tryz.prog 211 [.sl 0 0 9 1,.i 0,.i 9,.i n,fnK] [(0,some ⟨3,fR⟩)] (.tup []) [(0,some ⟨3,fR⟩)]:=by
 refine ec 1 Tryz.func211 Tryz.ntmps211 Tryz.results211 [0,1,2,3,4,10,11,12,13,14,15,16,17,18,19,20,25,32,39,56,75,80,97,125] ?_;intro c hP h0 hE kK
 simp only [go_sem,hP]
 refine bK hE [0] (fun i hi=>by have:=h0 i hi;simpa [liveK] using this) [0,1,2,3,4,10,11,12,13,14,15,16,17,18,19,20,25,32,39,56,75,80,97,125] 0 (fun _=>⟨148,[(0,.sl 0 0 9 1),(1,.i 0),(2,.i 9),(3,.i n),(4,fnK),(10,.b true),(11,.b true)],[(0,some ⟨3,fR⟩)],1⟩) [] (fun i=>i) ⟨rfl,?_,?_,rfl,rfl,trivial,fun i h=>h⟩ (fun i _=>rfl) ?_
 ·simp only [go_sem]
 ·simp only [go_sem]
 intro _ _
 simp only [go_sem,hP,show IntKind.i64.wrap (9-0)=9 from by decide]
 refine x_k kK 1 (Cx) ?_
 simp only [go_sem,hP]
 refine aB [0] rfl ?_ ?_ rfl rfl (fun i hi=>by simp at hi;subst hi;exact⟨rfl,by simp [keys]⟩) (fun i hi=>by simp [liveK] at hi;simp;omega)
 ·simp only [go_sem]
 ·simp only [go_sem]
theorem E3:FPure Tryz.prog 244 [.p (.v (.int .u64 9))] (.i 4):=by
 refine en Tryz.func244 Tryz.ntmps244 Tryz.results244 [0,2,4,8,14] ?_;intro c hP h0 hE kK
 simp only [go_sem,hP,show IntKind.u8.wrap 9=9 from by decide]
 refine⟨of_decide_eq_true (by kernel_rfl),?_⟩
 kernel_rfl
theorem E4:FPure Tryz.prog 212 [.p (.v (.int .u64 9))] (.i 4):=by
 refine en Tryz.func212 Tryz.ntmps212 Tryz.results212 [0,2] ?_;intro c hP h0 hE kK
 simp only [go_sem,hP]
 refine aa kK (by exact E3) ?_
 simp only [go_sem,hP]
theorem E5:Con Tryz.prog 169 [.sl 0 0 9 1,fnK] [(0,some ⟨3,fR⟩)] (.tup []) [(0,some ⟨3,fR⟩)]:=by
 refine ec 1 Tryz.func169 Tryz.ntmps169 Tryz.results169 [0,1,4] ?_;intro c hP h0 hE kK
 simp only [go_sem,hP,show IntKind.u64.wrap 9=9 from by decide]
 refine aa kK (by exact E4) ?_
 simp only [go_sem,hP]
 refine x_k kK 1 (JQ 4) ?_
 simp only [go_sem,hP]
 refine aB [0] rfl ?_ ?_ rfl rfl (fun i hi=>by simp at hi;subst hi;exact⟨rfl,by simp [keys]⟩) (fun i hi=>by simp [liveK] at hi;simp;omega)
 ·simp only [go_sem]
 ·simp only [go_sem]
theorem yq (s:List UInt8):FPure Tryz.prog 119 [sv s] (.p (.data 3 1 (cH (.t s)))):=by
 refine en Tryz.func119 Tryz.ntmps119 Tryz.results119 [0,2] ?_;intro c hP h0 hE kK
 simp only [go_sem,hP]
 rfl
theorem n9 (n:UInt64):FPure Tryz.prog 121 [.w n] (.p (.data 3 1 (cH (.u n)))):=by
 refine en Tryz.func121 Tryz.ntmps121 Tryz.results121 [0,2] ?_;intro c hP h0 hE kK
 simp only [go_sem,hP]
 rfl
theorem tk (v:Bool):FPure Tryz.prog 122 [.b v] (.p (.data 3 1 (cH (.b v)))):=by
 refine en Tryz.func122 Tryz.ntmps122 Tryz.results122 [0,2,3,5] ?_;intro c hP h0 hE kK
 cases v
 ·simp only [go_sem,hP]
  rfl
 ·simp only [go_sem,hP]
  rfl
theorem vb (s:List UInt8):FPure Tryz.prog 120 [blA s] (.p (.data 3 1 (cH (.d s)))):=by
 refine en Tryz.func120 Tryz.ntmps120 Tryz.results120 [0,2] ?_;intro c hP h0 hE kK
 simp only [go_sem,hP]
 exact⟨dc _,by rw [dI];rfl⟩
def qL (vs:List Itm):List PV:=vs.map fun x => .data 3 1 (cH x)
theorem vc (vs:List Itm) (i:Nat) (h:i<vs.length):eV (.data 1 0 []) ((qL vs).drop i) = .data 3 1 (cH (vs.getD i (.b false))):=by
 induction vs generalizing i with
 | nil=>simp at h
 | cons x r ih =>
  cases i with
  | zero=>rfl
  | succ i=>simpa [qL] using ih i (by simpa using h)
theorem yr (vs:List Itm):(qL vs).length=vs.length:=by simp [qL]
theorem Cy (vs:List Itm) (n:Nat) (hn:vs.length=n) (hb:n<1000) (hv:∀x,x∈vs→okI x):FPure Tryz.prog 172 [.p (.data 1 n (qL vs))] (.i 0):=by
 refine en Tryz.func172 Tryz.ntmps172 Tryz.results172 [0,2,4,5,6,7,8,9,15] ?_;intro c hP h0 hE kK
 simp only [go_sem,hP]
 refine ay hE h0 [0,2,4,5,6,7,8,9,15] n (fun i=>⟨18,[(6,.p (.data 1 n (qL vs))),(7,.i n),(8,.i i)],[],0⟩) [] (fun i=>i) ?_ ?_
 ·refine⟨rfl,?_,?_,rfl,rfl,trivial,fun i h=>h⟩
  ·simp only [go_sem]
  ·simp only [go_sem]
 ·intro i hi
  rcases Nat.lt_or_ge i n with hin|hin
  ·have hw:IntKind.i64.wrap ((i:Int)+1)=((i+1:Nat):Int):=by rw [ab (by omega) (by omega)];omega
   have hat:=vc vs i (by omega)
   have hx:okI (vs.getD i (.b false)):=hv _ (by rw [show vs.getD i (.b false)=vs[i]'(by omega) from by simp [List.getD_eq_getElem?_getD,show i<vs.length from by omega]];exact List.getElem_mem _)
   generalize vs.getD i (.b false)=x at *
   simp only [go_sem,hP,hat,show ((i:Int)<(n:Int)) from by omega]
   refine⟨by omega,by rw [yr];omega,?_⟩
   refine aa kK (by exact Ih x hx) ?_
   simp only [go_sem,hP,hw]
   refine⟨hin,dp rfl ?_ ?_ rfl rfl (Nat.le_refl _)⟩
   ·simp only [go_sem]
   ·simp only [go_sem]
  ·obtain rfl:i=n:=by omega
   simp only [go_sem,hP,show ¬((i:Int)<(i:Int)) from by omega]
theorem rv (l:List Itm) (hl:G19 l):FPure Tryz.prog 173 [.p (.data 3 19 (aO l))] (.tup [.p (.data 3 19 (aO l)),.i 0]):=by
 refine en Tryz.func173 Tryz.ntmps173 Tryz.results173 [0,2,3,4,8] ?_;intro c hP h0 hE kK
 simp only [go_sem,hP]
 refine aa kK (by exact tr l hl) ?_
 simp only [go_sem,hP]
theorem Ib (x:Itm):(cH x).map AV.p=bX [x]:=by simp [bX,aO]
theorem Ic (l:List Itm):i5 (bX l)↔True:=⟨fun _=>trivial,fun _=>bI _⟩
theorem E6 (l:List Itm):i6 (bX l)=aO l:=bY _
theorem E7 (h:ba) (S:List Nat) (σ:Nat→Nat) (l:List Itm):ai h S σ (bX l) (bX l)↔True:=⟨fun _=>trivial,fun _=>ij h S σ l⟩
theorem E8 (τ:Nat→Nat) (l:List Itm):eG τ (bX l)=bX l:=eM τ _
attribute [go_sem] Ib Ic E6 E7 E8 pJ gm
def gW (vs:List Itm) (n:Nat):List Itm := .m 9::(List.range n).flatMap fun i=>[.u (UInt64.ofNat (i+1)),vs.getD i (.b false)]
theorem j7 (vs:List Itm) (n:Nat):gW vs (n+1)=gW vs n++[.u (UInt64.ofNat (n+1)),vs.getD n (.b false)]:=by
 unfold gW
 rw [List.range_succ,List.flatMap_append]
 simp
theorem pO (vs:List Itm):∀n,(gW vs n).length=1+2*n
 | 0=>rfl
 | n+1=>by rw [j7,List.length_append,pO vs n];simp;omega
theorem Cz (vs:List Itm) (h:∀i,i<9→okI (vs.getD i (.b false))):G19 (gW vs 9) where
 len:=rfl
 h0:=rfl
 hk j h1 h9:=by
  match j,h1,h9 with
  | 1,_,_=>rfl|2,_,_=>rfl|3,_,_=>rfl|4,_,_=>rfl|5,_,_=>rfl|6,_,_=>rfl|7,_,_=>rfl|8,_,_=>rfl|9,_,_=>rfl
  | n+10,_,h=>omega
 hv j h1 h9:=by
  match j,h1,h9 with
  | 1,_,_=>exact h 0 (by decide)|2,_,_=>exact h 1 (by decide)|3,_,_=>exact h 2 (by decide)|4,_,_=>exact h 3 (by decide)|5,_,_=>exact h 4 (by decide)
  | 6,_,_=>exact h 5 (by decide)|7,_,_=>exact h 6 (by decide)|8,_,_=>exact h 7 (by decide)|9,_,_=>exact h 8 (by decide)
  | n+10,_,h=>omega
def tm (i:Nat):List AV:=fR.take i++List.replicate (9-i) (.i 0)
theorem CA:∀i,i<9→(tm i).set i (.i i)=tm (i+1)
 | 0,_=>rfl|1,_=>rfl|2,_=>rfl|3,_=>rfl|4,_=>rfl|5,_=>rfl|6,_=>rfl|7,_=>rfl|8,_=>rfl
 | n+9,h=>by omega
theorem CB (i:Nat) (h:i≤9):(tm i).length=9:=by simp [tm,yp];omega
theorem E9 (i:Nat) (h:i≤9):∃cs:List PV,tm i=cs.map .p:=by
 match i,h with
 | 0,_=>exact⟨List.replicate 9 (PV.v (.int .i64 0)),rfl⟩
 | n+1,hn=>exact⟨(tm (n+1)).map unP,by
  match n,hn with
  | 0,_=>rfl|1,_=>rfl|2,_=>rfl|3,_=>rfl|4,_=>rfl|5,_=>rfl|6,_=>rfl|7,_=>rfl|8,_=>rfl
  | k+9,h=>omega⟩
set_option maxHeartbeats 4000000 in
theorem Id (vs:List Itm) (hn:vs.length=9) (hv:∀x,x∈vs→okI x):FPure Tryz.prog 118 [.p ru,.p (.data 1 9 (qL vs))] (.tup [.p (.data 3 19 (aO (gW vs 9))),.i 0]):=by
 refine en Tryz.func118 Tryz.ntmps118 Tryz.results118 [0,1,2,4,5,6,7,8,9,10,12,17,22,23,24,37,55,59,66,67,68,69,74] ?_;intro c hP h0 hE kK
 have h01:IntKind.i64.wrap (0+1)=1:=by decide
 simp only [go_sem,hP]
 refine⟨by decide,?_⟩
 refine ay hE h0 [0,1,2,4,5,6,7,8,9,10,12,17,22,23,24,37,55,59,66,67,68,69,74] 9 (fun i=>⟨93,[(1,.p (.data 1 9 (qL vs))),(2,.ptr 0 0),(6,.sl 1 0 9 1),(22,.i 9),(23,.i i)],[(1,some ⟨3,tm i⟩),(0,some ⟨171,[.p ru]⟩)],2⟩) [] (fun i=>i) ?_ ?_
 ·refine⟨rfl,?_,?_,rfl,rfl,trivial,fun i h=>h⟩
  ·simp only [go_sem]
  ·simp only [go_sem]
   exact aW _ _ _ (List.replicate 9 (.v (.int .i64 0)))
 intro i hi
 have hlen:=CB i hi
 rcases Nat.lt_or_ge i 9 with h9|h9
 ·have hset:=CA i h9
  have hw:IntKind.i64.wrap ((i:Int)+1)=((i+1:Nat):Int):=by rw [ab (by omega) (by omega)];omega
  obtain⟨cs,hcs⟩:=E9 (i+1) h9
  generalize tm i=O at *
  simp only [go_sem,hP,hw,show ((i:Int)<9) from by omega,Nat.mul_one]
  rw [hset,hcs]
  refine⟨by omega,by omega,h9,dp rfl ?_ ?_ rfl rfl (Nat.le_refl _)⟩
  ·simp only [go_sem]
  ·simp only [go_sem]
 obtain rfl:i=9:=by omega
 rw [show tm 9=fR from rfl]
 simp only [go_sem,hP]
 refine iI hE (ks:=[0,1,2,4,5,6,7,8,9,10,12,17,22,23,24,37,55,59,66,67,68,69,74]) (n:=2000) 0 ?_ ?_
 ·simp only [go_sem]
 simp only [go_sem,hP]
 refine ck hE (ks:=[0,1,2,4,5,6,7,8,9,10,12,17,22,23,24,37,55,59,66,67,68,69,74]) (n:=2000) [] (sg 2 [1]) 2 (by rw [hP];exact E5) ⟨by simp only [go_sem],by simp only [go_sem],rfl,trivial,Nat.le_refl _,fun i hi => .inl (by simp [keys] at hi;simp [liveK,hi]),by simp [ax,an,keys],by simp [bS,an,ax,keys],rfl⟩ ?_
 simp only [go_sem,hP]
 refine ay hE h0 [0,1,2,4,5,6,7,8,9,10,12,17,22,23,24,37,55,59,66,67,68,69,74] 8 (fun i=>⟨93,[(1,.p (.data 1 9 (qL vs))),(2,.cp [ru]),(6,.sl 1 0 9 1),(8,.i (1+(i:Int)))],[(1,some ⟨3,fR⟩)],2⟩) [] (fun i=>i) ?_ ?_
 ·refine⟨rfl,?_,?_,rfl,rfl,trivial,fun i h=>h⟩
  ·simp only [go_sem]
   rfl
  ·simp only [go_sem]
 intro i hi
 rcases Nat.lt_or_ge i 8 with h8|h8
 ·have e1:=pM (1+i) (by omega)
  have e2:=pM i (by omega)
  have e3:(1+(i:Int)).toNat=1+i:=by omega
  have e4:IntKind.i64.wrap (1+(i:Int)-1)=(i:Int):=by rw [ab (by omega) (by omega)];omega
  have e5:IntKind.i64.wrap (1+(i:Int)+1)=1+((i+1:Nat):Int):=by rw [ab (by omega) (by omega)];omega
  have k1:=pN (1+i) (by omega)
  have k2:=pN i (by omega)
  have kl:kE.length=9:=rfl
  simp only [go_sem,hP,e1,e2,e3,e4,e5,show (1:Int)+i<9 from by omega]
  generalize kE.getD (1+i) 0=x at *
  generalize kE.getD i 0=y at *
  refine⟨⟨by omega,by omega⟩,by omega,⟨by omega,by omega⟩,by omega,by omega,by omega,⟨by omega,by omega⟩,by omega,by kernel_rfl,?_⟩
  rw [if_neg (by omega)]
  refine⟨h8,dp rfl ?_ ?_ rfl rfl (Nat.le_refl _)⟩
  ·simp only [go_sem]
  ·simp only [go_sem]
 obtain rfl:i=8:=by omega
 simp only [go_sem,hP,show ¬((1:Int)+((8:Nat):Int)<9) from by omega,show ¬((1:Int)+8<9) from by omega]
 refine aa kK (by exact Cy vs 9 hn (by decide) hv) ?_
 simp only [go_sem,hP,show IntKind.u64.wrap 9=9 from by decide]
 refine ay hE h0 [0,1,2,4,5,6,7,8,9,10,12,17,22,23,24,37,55,59,66,67,68,69,74] 9 (fun i=>⟨93,[(1,.p (.data 1 9 (qL vs))),(2,.cp [ru]),(6,.sl 1 0 9 1),(10,.sl 2 0 (1+2*i) 3),(66,.sl 1 0 9 1),(67,.i 9),(68,.i i)],[(1,some ⟨3,fR⟩),(2,some ⟨162,bX (gW vs i)⟩)],3⟩) [] (fun i=>i) ?_ ?_
 ·refine⟨rfl,?_,?_,rfl,rfl,trivial,fun i h=>h⟩
  ·simp only [go_sem]
  ·simp only [go_sem]
   exact (show ai _ _ _ (bX [.m 9]) (bX [.m 9]) from ij _ _ _ _)
 intro i hi
 rcases Nat.lt_or_ge i 9 with h9|h9
 ·have e2:=pM i (by omega)
  have hw:IntKind.i64.wrap ((i:Int)+1)=((i+1:Nat):Int):=by rw [ab (by omega) (by omega)];omega
  have k2:=pN i h9
  have kl:kE.length=9:=rfl
  have hk:kE.getD i 0=UInt64.ofNat (i+1):=by
   apply UInt64.toNat_inj.1
   rw [k2,UInt64.toNat_ofNat',Nat.mod_eq_of_lt (by omega)]
  have hll:=pO vs i
  have hat:=vc vs i (by omega)
  have hms:=j7 vs i
  generalize vs.getD i (.b false)=v at *
  generalize gW vs i=L at *
  generalize gW vs (i+1)=L' at *
  subst hms
  simp only [go_sem,hP,e2,hk,show ¬(((1+2*i:Nat):Int)>512) from by omega,show ((i:Int)<9) from by omega]
  refine⟨by omega,by omega,by omega,by omega,?_⟩
  refine aa kK (by exact n9 (UInt64.ofNat (i+1))) ?_
  simp only [go_sem,hP,hat,hw]
  refine⟨⟨by omega,by omega,by omega⟩,⟨by omega,by omega⟩,by rw [yr];omega,⟨by omega,by omega,by omega⟩,h9,aZ [0,1,4] rfl ?_ ?_ rfl rfl (Nat.le_of_ble_eq_true rfl)⟩
  ·simp only [go_sem,show 1+2*(i+1)=1+2*i+1+1 from by omega]
  ·simp only [go_sem,List.append_assoc]
 obtain rfl:i=9:=by omega
 have hG:=Cz vs (fun i hi=>hv _ (by rw [show vs.getD i (.b false)=vs[i]'(by omega) from by simp [List.getD_eq_getElem?_getD,show i<vs.length from by omega]];exact List.getElem_mem _))
 simp only [go_sem,hP]
 first|refine dO hE (ks:=[0,1,2,4,5,6,7,8,9,10,12,17,22,23,24,37,55,59,66,67,68,69,74]) (n:=2000) ?_ ?_ rfl (by rw [hP];exact rv (gW vs 9) hG) (by simp only [go_sem,ax,an,and_self]) ?_|refine dP hE (ks:=[0,1,2,4,5,6,7,8,9,10,12,17,22,23,24,37,55,59,66,67,68,69,74]) (n:=2000) ?_ ?_ rfl (by rw [hP];exact rv (gW vs 9) hG) (by simp only [go_sem,ax,an,and_self]) ?_
 ·simp only [go_sem]
  rw [List.take_of_length_le (by rw [gm,hG.len];decide)]
  simp only [go_sem]
 ·simp only [go_sem]
  rw [List.take_of_length_le (by rw [gm,hG.len];decide)]
  simp only [go_sem,hG.len]
 simp only [go_sem,hP]
end Go.Proofs.YtebndjnkmcahaaaGreatDoor
end
section
namespace Go.Proofs.YtebndjnkmcahaaaGreatDoor
set_option linter.unusedSimpArgs false
set_option linter.unusedVariables false
open Go Go.Abs Go.RowKit
theorem w7 (n:UInt64) (k:Nat) (hk:k≤64):IntKind.u8.wrap (bc .u64 (n.toNat:Int) (k:Int))=(((eH n k).toUInt8).toNat:Int):=by
 rw [mg n _ (by simpa using hk),aD]
 simp
def JS:Itm→UInt8
 | .u _=>0 | .d _=>64 | .t _=>96 | .m _=>160 | .b _=>0
def zX:Itm→UInt64
 | .u n=>n | .d s=>UInt64.ofNat s.length | .t s=>UInt64.ofNat s.length | .m n=>n | .b _=>0
def go:Itm→List UInt8
 | .b v=>[if v then 245 else 244]
 | x=>hdB (JS x) (zX x)
theorem zY (x:Itm):bD x=go x++x.da:=by cases x<;>simp [bD,go,JS,zX,Itm.da]
theorem Ie (n:UInt64):eH n 0=n:=by unfold eH;simp
theorem KB (n:UInt64):bgB n 1 1=[n.toUInt8]:=by simp [bgB,Ie]
theorem KC (n:UInt64):bgB n 2 2=[(eH n 8).toUInt8,n.toUInt8]:=by simp [bgB,Ie]
theorem KD (n:UInt64):bgB n 4 4=[(eH n 24).toUInt8,(eH n 16).toUInt8,(eH n 8).toUInt8,n.toUInt8]:=by simp [bgB,Ie]
theorem CC (m:UInt8) (n:UInt64):(n.toNat<24∧hdB m n=[m+n.toUInt8])∨(¬n.toNat<24∧n.toNat<256∧hdB m n=[m+24,n.toUInt8]) ∨
 (¬n.toNat<256∧n.toNat<65536∧hdB m n=[m+25,(eH n 8).toUInt8,n.toUInt8]) ∨
 (¬n.toNat<65536∧n.toNat<4294967296∧hdB m n=[m+26,(eH n 24).toUInt8,(eH n 16).toUInt8,(eH n 8).toUInt8,n.toUInt8]) ∨
 (¬n.toNat<4294967296∧hdB m n=(m+27)::cr n 8):=by
 by_cases h1:n.toNat<24
 ·obtain⟨e1,e2⟩:=ny n h1
  exact .inl ⟨h1,by unfold hdB;rw [e1,e2];rfl⟩
 by_cases h2:n.toNat<256
 ·obtain⟨e1,e2⟩:=kz n h1 h2
  exact .inr (.inl ⟨h1,h2,by unfold hdB;rw [e1,e2,KB]⟩)
 by_cases h3:n.toNat<65536
 ·obtain⟨e1,e2⟩:=kB n h2 h3
  exact .inr (.inr (.inl ⟨h2,h3,by unfold hdB;rw [e1,e2,KC]⟩))
 by_cases h4:n.toNat<4294967296
 ·obtain⟨e1,e2⟩:=kC n h3 h4
  exact .inr (.inr (.inr (.inl ⟨h3,h4,by unfold hdB;rw [e1,e2,KD]⟩)))
 ·obtain⟨e1,e2⟩:=kD n h4
  exact .inr (.inr (.inr (.inr ⟨h4,by unfold hdB;rw [e1,e2,JM n 8 (Nat.le_refl _)]⟩)))
theorem tq (k:Itm) (M:UInt8) (n:UInt64) (hk:go k=hdB M n) (hM:M=0∧k.kd=1∧k.nu=n∨M=160∧k.kd=6∧k.nu=n∨(M=64∧k.kd=3∨M=96∧k.kd=4)∧k.da.length<1000000∧n=UInt64.ofNat k.da.length) :
 FPure Tryz.prog 209 [.agg (dg k)] (blA (go k)):=by
 refine en Tryz.func209 Tryz.ntmps209 Tryz.results209 [0,1,2,3,4,8,9,15,18,20,26,32,34,36,44,52,63] ?_;intro c hP h0 hE kK
 rw [hk] at hE kK ⊢
 have e0:IntKind.u8.wrap (0+((n.toUInt8).toNat:Int))=((0+n.toUInt8).toNat:Int):=pL 0 n.toUInt8
 have e64:IntKind.u8.wrap (64+((n.toUInt8).toNat:Int))=((64+n.toUInt8).toNat:Int):=pL 64 n.toUInt8
 have e96:IntKind.u8.wrap (96+((n.toUInt8).toNat:Int))=((96+n.toUInt8).toNat:Int):=pL 96 n.toUInt8
 have e160:IntKind.u8.wrap (160+((n.toUInt8).toNat:Int))=((160+n.toUInt8).toNat:Int):=pL 160 n.toUInt8
 have s8:IntKind.u8.wrap (bc .u64 (n.toNat:Int) 8)=(((eH n 8).toUInt8).toNat:Int):=w7 n 8 (by decide)
 have s16:IntKind.u8.wrap (bc .u64 (n.toNat:Int) 16)=(((eH n 16).toUInt8).toNat:Int):=w7 n 16 (by decide)
 have s24:IntKind.u8.wrap (bc .u64 (n.toNat:Int) 24)=(((eH n 24).toUInt8).toNat:Int):=w7 n 24 (by decide)
 rcases CC M n with ⟨c1,e⟩|⟨c1,c2,e⟩|⟨c1,c2,e⟩|⟨c1,c2,e⟩|⟨c1,e⟩<;>rw [e] at hE kK ⊢
 ·rcases hM with ⟨rfl,hkd,rfl⟩|⟨rfl,hkd,rfl⟩|⟨⟨rfl,hkd⟩|⟨rfl,hkd⟩,hl,hn⟩
  ·simp only [go_sem,hP,hkd,show ((k.nu.toNat:Int)<24) from by omega,aD,e0]
   all_goals first|rfl|kernel_rfl|exact⟨by kernel_rfl,rfl⟩
  ·simp only [go_sem,hP,hkd,show ((k.nu.toNat:Int)<24) from by omega,aD,e160]
   all_goals first|rfl|kernel_rfl|exact⟨by kernel_rfl,rfl⟩
  ·have hlu:=eu hl
   rw [← hn] at hlu
   simp only [go_sem,hP,hkd,hlu,show ((n.toNat:Int)<24) from by omega,aD,e64]
   all_goals first|rfl|kernel_rfl|exact⟨by kernel_rfl,rfl⟩
  ·have hlu:=eu hl
   rw [← hn] at hlu
   simp only [go_sem,hP,hkd,hlu,show ((n.toNat:Int)<24) from by omega,aD,e96]
   all_goals first|rfl|kernel_rfl|exact⟨by kernel_rfl,rfl⟩
 ·rcases hM with ⟨rfl,hkd,rfl⟩|⟨rfl,hkd,rfl⟩|⟨⟨rfl,hkd⟩|⟨rfl,hkd⟩,hl,hn⟩
  ·simp only [go_sem,hP,hkd,show ¬((k.nu.toNat:Int)<24) from by omega,show ((k.nu.toNat:Int)<256) from by omega,aD,show IntKind.u8.wrap (0+24)=24 from by decide]
   all_goals first|rfl|kernel_rfl|exact⟨by kernel_rfl,rfl⟩
  ·simp only [go_sem,hP,hkd,show ¬((k.nu.toNat:Int)<24) from by omega,show ((k.nu.toNat:Int)<256) from by omega,aD,show IntKind.u8.wrap (160+24)=184 from by decide]
   all_goals first|rfl|kernel_rfl|exact⟨by kernel_rfl,rfl⟩
  ·have hlu:=eu hl
   rw [← hn] at hlu
   simp only [go_sem,hP,hkd,hlu,show ¬((n.toNat:Int)<24) from by omega,show ((n.toNat:Int)<256) from by omega,aD,show IntKind.u8.wrap (64+24)=88 from by decide]
   all_goals first|rfl|kernel_rfl|exact⟨by kernel_rfl,rfl⟩
  ·have hlu:=eu hl
   rw [← hn] at hlu
   simp only [go_sem,hP,hkd,hlu,show ¬((n.toNat:Int)<24) from by omega,show ((n.toNat:Int)<256) from by omega,aD,show IntKind.u8.wrap (96+24)=120 from by decide]
   all_goals first|rfl|kernel_rfl|exact⟨by kernel_rfl,rfl⟩
 ·rcases hM with ⟨rfl,hkd,rfl⟩|⟨rfl,hkd,rfl⟩|⟨⟨rfl,hkd⟩|⟨rfl,hkd⟩,hl,hn⟩
  ·simp only [go_sem,hP,hkd,show ¬((k.nu.toNat:Int)<24) from by omega,show ¬((k.nu.toNat:Int)<256) from by omega,show ((k.nu.toNat:Int)<65536) from by omega,aD,show IntKind.u8.wrap (0+25)=25 from by decide,s8]
   all_goals first|rfl|kernel_rfl|exact⟨by kernel_rfl,rfl⟩
  ·simp only [go_sem,hP,hkd,show ¬((k.nu.toNat:Int)<24) from by omega,show ¬((k.nu.toNat:Int)<256) from by omega,show ((k.nu.toNat:Int)<65536) from by omega,aD,show IntKind.u8.wrap (160+25)=185 from by decide,s8]
   all_goals first|rfl|kernel_rfl|exact⟨by kernel_rfl,rfl⟩
  ·have hlu:=eu hl
   rw [← hn] at hlu
   simp only [go_sem,hP,hkd,hlu,show ¬((n.toNat:Int)<24) from by omega,show ¬((n.toNat:Int)<256) from by omega,show ((n.toNat:Int)<65536) from by omega,aD,show IntKind.u8.wrap (64+25)=89 from by decide,s8]
   all_goals first|rfl|kernel_rfl|exact⟨by kernel_rfl,rfl⟩
  ·have hlu:=eu hl
   rw [← hn] at hlu
   simp only [go_sem,hP,hkd,hlu,show ¬((n.toNat:Int)<24) from by omega,show ¬((n.toNat:Int)<256) from by omega,show ((n.toNat:Int)<65536) from by omega,aD,show IntKind.u8.wrap (96+25)=121 from by decide,s8]
   all_goals first|rfl|kernel_rfl|exact⟨by kernel_rfl,rfl⟩
 ·rcases hM with ⟨rfl,hkd,rfl⟩|⟨rfl,hkd,rfl⟩|⟨⟨rfl,hkd⟩|⟨rfl,hkd⟩,hl,hn⟩
  ·simp only [go_sem,hP,hkd,show ¬((k.nu.toNat:Int)<24) from by omega,show ¬((k.nu.toNat:Int)<256) from by omega,show ¬((k.nu.toNat:Int)<65536) from by omega,show ((k.nu.toNat:Int)<4294967296) from by omega,aD,show IntKind.u8.wrap (0+26)=26 from by decide,s8,s16,s24]
   all_goals first|rfl|kernel_rfl|exact⟨by kernel_rfl,rfl⟩
  ·simp only [go_sem,hP,hkd,show ¬((k.nu.toNat:Int)<24) from by omega,show ¬((k.nu.toNat:Int)<256) from by omega,show ¬((k.nu.toNat:Int)<65536) from by omega,show ((k.nu.toNat:Int)<4294967296) from by omega,aD,show IntKind.u8.wrap (160+26)=186 from by decide,s8,s16,s24]
   all_goals first|rfl|kernel_rfl|exact⟨by kernel_rfl,rfl⟩
  ·have hlu:=eu hl
   rw [← hn] at hlu
   simp only [go_sem,hP,hkd,hlu,show ¬((n.toNat:Int)<24) from by omega,show ¬((n.toNat:Int)<256) from by omega,show ¬((n.toNat:Int)<65536) from by omega,show ((n.toNat:Int)<4294967296) from by omega,aD,show IntKind.u8.wrap (64+26)=90 from by decide,s8,s16,s24]
   all_goals first|rfl|kernel_rfl|exact⟨by kernel_rfl,rfl⟩
  ·have hlu:=eu hl
   rw [← hn] at hlu
   simp only [go_sem,hP,hkd,hlu,show ¬((n.toNat:Int)<24) from by omega,show ¬((n.toNat:Int)<256) from by omega,show ¬((n.toNat:Int)<65536) from by omega,show ((n.toNat:Int)<4294967296) from by omega,aD,show IntKind.u8.wrap (96+26)=122 from by decide,s8,s16,s24]
   all_goals first|rfl|kernel_rfl|exact⟨by kernel_rfl,rfl⟩
 ·rcases hM with ⟨rfl,hkd,rfl⟩|⟨rfl,hkd,rfl⟩|⟨⟨rfl,hkd⟩|⟨rfl,hkd⟩,hl,hn⟩
  ·simp only [go_sem,hP,hkd,show ¬((k.nu.toNat:Int)<24) from by omega,show ¬((k.nu.toNat:Int)<256) from by omega,show ¬((k.nu.toNat:Int)<65536) from by omega,show ¬((k.nu.toNat:Int)<4294967296) from by omega,aD,show IntKind.u8.wrap (0+27)=27 from by decide]
   refine x_f kK (di k.nu) ?_
   simp only [go_sem,hP]
   rw [jN,List.take_of_length_le (by simp [au])]
   exact⟨⟨by rw [au];exact Nat.le_refl _,bI _⟩,by rw [au],rfl,bY _⟩
  ·simp only [go_sem,hP,hkd,show ¬((k.nu.toNat:Int)<24) from by omega,show ¬((k.nu.toNat:Int)<256) from by omega,show ¬((k.nu.toNat:Int)<65536) from by omega,show ¬((k.nu.toNat:Int)<4294967296) from by omega,aD,show IntKind.u8.wrap (160+27)=187 from by decide]
   refine x_f kK (di k.nu) ?_
   simp only [go_sem,hP]
   rw [jN,List.take_of_length_le (by simp [au])]
   exact⟨⟨by rw [au];exact Nat.le_refl _,bI _⟩,by rw [au],rfl,bY _⟩
  ·have hlu:=eu hl
   rw [← hn] at hlu
   simp only [go_sem,hP,hkd,hlu,show ¬((n.toNat:Int)<24) from by omega,show ¬((n.toNat:Int)<256) from by omega,show ¬((n.toNat:Int)<65536) from by omega,show ¬((n.toNat:Int)<4294967296) from by omega,aD,show IntKind.u8.wrap (64+27)=91 from by decide]
   refine⟨by kernel_rfl,?_⟩
   refine x_f kK (di n) ?_
   simp only [go_sem,hP]
   rw [jN,List.take_of_length_le (by simp [au])]
   exact⟨⟨by rw [au];exact Nat.le_refl _,bI _⟩,by rw [au],rfl,bY _⟩
  ·have hlu:=eu hl
   rw [← hn] at hlu
   simp only [go_sem,hP,hkd,hlu,show ¬((n.toNat:Int)<24) from by omega,show ¬((n.toNat:Int)<256) from by omega,show ¬((n.toNat:Int)<65536) from by omega,show ¬((n.toNat:Int)<4294967296) from by omega,aD,show IntKind.u8.wrap (96+27)=123 from by decide]
   refine⟨by kernel_rfl,?_⟩
   refine x_f kK (di n) ?_
   simp only [go_sem,hP]
   rw [jN,List.take_of_length_le (by simp [au])]
   exact⟨⟨by rw [au];exact Nat.le_refl _,bI _⟩,by rw [au],rfl,bY _⟩
theorem Fa (x:Itm) (hx:x.da.length<1000000):FPure Tryz.prog 209 [.agg (dg x)] (blA (go x)):=by
 cases x with
 | u n=>exact tq _ 0 n rfl (.inl ⟨rfl,rfl,rfl⟩)
 | m n=>exact tq _ 160 n rfl (.inr (.inl ⟨rfl,rfl,rfl⟩))
 | d s=>exact tq _ 64 _ rfl (.inr (.inr ⟨.inl ⟨rfl,rfl⟩,hx,rfl⟩))
 | t s=>exact tq _ 96 _ rfl (.inr (.inr ⟨.inr ⟨rfl,rfl⟩,hx,rfl⟩))
 | b v =>
  refine en Tryz.func209 Tryz.ntmps209 Tryz.results209 [0,1,2,3,4,8,9,15,18,20,26,32,34,36,44,52,63] ?_;intro c hP h0 hE kK
  cases v
  ·simp only [go_sem,hP]
   exact⟨rfl,by kernel_rfl⟩
  ·simp only [go_sem,hP]
   exact⟨rfl,by kernel_rfl⟩
theorem zZ (x:Itm):(go x).length≤9:=by
 cases x with
 | u n=>have:=gl n;simp only [go,bM,zX];omega
 | m n=>have:=gl n;simp only [go,bM,zX];omega
 | d s=>have:=gl (UInt64.ofNat s.length);simp only [go,bM,zX];omega
 | t s=>have:=gl (UInt64.ofNat s.length);simp only [go,bM,zX];omega
 | b v=>simp [go]
theorem jF (x:Itm) (hx:x.da.length<1000000):FPure Tryz.prog 166 [.agg (dg x)] (sv (bD x)):=by
 refine en Tryz.func166 Tryz.ntmps166 Tryz.results166 [0,1,2] ?_;intro c hP h0 hE kK
 simp only [go_sem,hP]
 have hh:=Fa x hx
 have hl:=zZ x
 have e:=zY x
 rw [e] at hE kK
 refine aa kK (by exact hh) ?_
 simp only [go_sem,hP]
 refine⟨dc _,?_⟩
 rw [dI]
 simp only [go_sem,hP,Abs.strOf,Dg]
 exact⟨by omega,by kernel_rfl⟩
theorem mV:FPure Tryz.prog 263 [.i 1] (.b true):=by
 refine en Tryz.func263 Tryz.ntmps263 Tryz.results263 [0,2] ?_;intro c hP h0 hE kK
 simp only [go_sem,hP]
theorem pP (n lo hi:Int) (h1:lo≤n) (h2:n≤hi):FPure Tryz.prog 262 [.i n,.i lo,.i hi] (.b true):=by
 refine en Tryz.func262 Tryz.ntmps262 Tryz.results262 [0,1,2,6] ?_;intro c hP h0 hE kK
 simp only [go_sem,hP,h1,h2,decide_true,show n≥lo from h1]
theorem yt (a b:UInt8) (h:a.toNat<b.toNat):FPure Tryz.prog 264 [sv [a],sv [b]] (.b true):=by
 refine en Tryz.func264 Tryz.ntmps264 Tryz.results264 [0,1,4,9] ?_;intro c hP h0 hE kK
 simp only [go_sem,hP]
 rw [gX,gX]
 simp [Op.bytesLess,UInt8.lt_iff_toNat_lt,h]
end Go.Proofs.YtebndjnkmcahaaaGreatDoor
end

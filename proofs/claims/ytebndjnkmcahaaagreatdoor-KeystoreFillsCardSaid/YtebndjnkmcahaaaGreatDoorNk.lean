/- joined of several texts; own work; no statement of the seat is proved but in the last -/
import Derived.Test.YtebndjnkmcahaaaGreatDoorNd
section
namespace Go.Proofs.YtebndjnkmcahaaaGreatDoor
set_option linter.unusedSimpArgs false
set_option linter.unusedVariables false
open Go Go.Abs Go.RowKit
theorem G19.da {l:List Itm} (h:G19 l) (i:Nat) (hi:i<19):(l.getD i (.b false)).da.length≤1024:=by
 rcases Nat.eq_zero_or_pos i with rfl|hp
 ·rw [h.h0];decide
 obtain⟨j,hj⟩:∃j,i=2*j-1∧1≤j∧j≤9∨i=2*j∧1≤j∧j≤9:=⟨(i+1)/2,by omega⟩
 rcases hj with ⟨rfl,h1,h2⟩|⟨rfl,h1,h2⟩
 ·rw [h.hk j h1 h2];exact Nat.zero_le _
 ·have:=h.hv j h1 h2
  generalize l.getD (2*j) (.b false)=x at *
  cases x<;>simp only [okI,Itm.da,List.length_nil] at * <;> omega
theorem G19.bs {l:List Itm} (h:G19 l):∀i,i≤19→(bP (l.take i)).length≤i*1033
 | 0,_=>by simp [bP]
 | i+1,hi=>by
  rw [eA l i (by rw [h.len];omega),List.length_append]
  have h1:=h.bs i (by omega)
  have h2:=gP (l.getD i (.b false))
  have h3:=h.da i (by omega)
  omega
set_option maxHeartbeats 1000000 in
theorem xa (l:List Itm) (hl:G19 l):FPure Tryz.prog 123 [.p (.data 3 19 (aO l))] (.tup [blA (bP l),.i 0]):=by
 refine en Tryz.func123 Tryz.ntmps123 Tryz.results123 [0,2,3,4,5,7,11,13,14,15,16] ?_;intro c hP h0 hE kK
 have hll:=hl.bs 19 (by decide)
 rw [show l.take 19=l from List.take_of_length_le (by rw [hl.len];decide)] at hll
 simp only [go_sem,hP]
 refine aa kK (by exact tr l hl) ?_
 simp only [go_sem,hP]
 refine bE a7 ?_
 refine ay hE h0 [0,2,3,4,5,7,11,13,14,15,16] 19 (fun i=>⟨24,[(5,.sl 0 0 (bP (l.take i)).length 1),(13,.p (.data 3 19 (aO l))),(14,.i 19),(15,.i i)],[(0,some ⟨a7,cb (bP (l.take i))⟩)],1⟩) [] (fun i=>i) ?_ ?_
 ·refine⟨rfl,?_,?_,rfl,rfl,trivial,fun i h=>h⟩
  ·simp only [go_sem,List.take_zero]
   rfl
  ·simp only [go_sem,List.take_zero]
   exact (show ai _ _ _ [] [] from by simp [ai])
 intro i hi
 rcases Nat.lt_or_ge i 19 with h19|h19
 ·have hw:IntKind.i64.wrap ((i:Int)+1)=((i+1:Nat):Int):=by rw [ab (by omega) (by omega)];omega
  have hat:=bJ l i (by rw [hl.len];exact h19)
  have hda:=hl.da i h19
  have hbs:=hl.bs i hi
  have hsu:=eA l i (by rw [hl.len];exact h19)
  generalize l.getD i (.b false)=x at *
  generalize bP (l.take i)=b at *
  generalize bP (l.take (i+1))=b' at *
  subst hsu
  have hO:=lQ b b.length rfl (by omega) x (by omega)
  simp only [go_sem,hP,hat,cH,show ((i:Int)<19) from by omega]
  refine⟨by omega,?_⟩
  refine ck hE (ks:=[0,2,3,4,5,7,11,13,14,15,16]) (n:=2000) [] (sg 2 [0]) _ (by rw [hP];exact hO) ⟨by simp only [go_sem],by simp only [go_sem];exact aj _ _ _ _,rfl,trivial,Nat.le_add_right _ 2,fun i hi=>by simp [keys] at hi;rcases hi with rfl|rfl<;>simp [liveK,sg],by simp [ax,an,keys],by simp [bS,an,ax,cc],rfl⟩ ?_
  simp only [go_sem,hP,hw]
  refine⟨h19,aZ [3] rfl ?_ ?_ rfl rfl (Nat.le_of_ble_eq_true rfl)⟩
  ·simp only [go_sem]
  ·simp only [go_sem]
   exact aj _ _ _ _
 obtain rfl:i=19:=by omega
 rw [show l.take 19=l from List.take_of_length_le (by rw [hl.len];decide)]
 generalize bP l=b at *
 simp only [go_sem,hP]
 exact⟨Nat.le_refl _,by rw [List.take_length]⟩
def ik (n:Int):UInt64:=UInt64.ofNat n.toNat
structure CrOk (c:Cr):Prop where
 rp1:1≤c.rp.length
 rp2:c.rp.length≤64
 us1:1≤c.us.length
 us2:c.us.length≤16
 nm:c.nm.length≤32
 hg:1≤c.hg∧c.hg≤4
 pt:1≤c.pt∧c.pt≤3
 u1:okU c.rp=true
 u2:okU c.nm=true
 sh:c.sh=true→c.rs=true
 bk:c.bk=true→c.sh=true
def dK (c:Cr):List Itm:=[.t c.rp,.d c.us,.t c.nm,.u c.sd,.u (ik c.hg),.b c.rs,.u (ik c.pt),.b c.sh,.b c.bk]
def crL (c:Cr):List Itm:=gW (dK c) 9
def dh (c:Cr):List UInt8:=bP (crL c)
theorem CrOk.it {c:Cr} (h:CrOk c):∀x,x∈dK c→okI x:=by
 intro x hx
 simp only [dK,List.mem_cons,List.not_mem_nil,or_false] at hx
 have:=h.rp2;have:=h.us2;have:=h.nm
 rcases hx with rfl|rfl|rfl|rfl|rfl|rfl|rfl|rfl|rfl<;>first|trivial|(simp only [okI];omega)|exact⟨by omega,h.u1⟩|exact⟨by omega,h.u2⟩
theorem CrOk.G {c:Cr} (h:CrOk c):G19 (crL c):=Cz _ fun i hi=>h.it _ (by
 match i,hi with
 | 0,_=>simp [dK]|1,_=>simp [dK]|2,_=>simp [dK]|3,_=>simp [dK]|4,_=>simp [dK]|5,_=>simp [dK]|6,_=>simp [dK]|7,_=>simp [dK]|8,_=>simp [dK]
 | n+9,h=>omega)
theorem lS (n lo hi:Int) (h1:lo≤n) (h2:n≤hi):FPure Tryz.prog 168 [.i n,.i lo,.i hi] (.b true):=by
 refine en Tryz.func168 Tryz.ntmps168 Tryz.results168 [0,1,2,6] ?_;intro c hP h0 hE kK
 simp only [go_sem,hP,h1,h2,decide_true]
@[simp] theorem Kx (T:List Nat) (x:Cr):an T (crC x):=by simp [crC,an,ax]
theorem CE (x:Cr) (h:CrOk x):FPure Tryz.prog 117 [.agg (crC x)] (.i 0):=by
 refine en Tryz.func117 Tryz.ntmps117 Tryz.results117 [0,1,2,3,26,35] ?_;intro c hP h0 hE kK
 have h1:=h.rp1;have h2:=h.rp2;have h3:=h.us1;have h4:=h.us2;have h5:=h.nm;have h6:=h.hg;have h7:=h.pt
 have h8:=h.u1;have h9:=h.u2;have h10:=h.sh;have h11:=h.bk
 obtain⟨rp,us,nm,sd,hg,rs,pt,sh,bk⟩:=x
 dsimp only at *
 simp only [go_sem,hP]
 refine aa kK (by exact lS rp.length 1 64 (by omega) (by omega)) ?_
 simp only [go_sem,hP]
 refine aa kK (by exact lS us.length 1 16 (by omega) (by omega)) ?_
 simp only [go_sem,hP,show ¬((nm.length:Int)>32) from by omega]
 refine aa kK (by exact lS hg 1 4 h6.1 h6.2) ?_
 simp only [go_sem,hP]
 refine aa kK (by exact lS pt 1 3 h7.1 h7.2) ?_
 simp only [go_sem,hP]
 refine aa kK (by exact dw rp (by omega)) ?_
 simp only [go_sem,hP,h8]
 refine aa kK (by exact dw nm (by omega)) ?_
 simp only [go_sem,hP,h9]
 cases sh<;>cases rs<;>cases bk<;>simp at h10 h11
 all_goals simp only [go_sem,hP]
theorem ed (n:Int) (h0:0≤n) (h:n<1000000):IntKind.u64.wrap n=((ik n).toNat:Int):=by
 unfold ik
 rw [ak h0 (by omega),UInt64.toNat_ofNat',Nat.mod_eq_of_lt (by omega)]
 omega
set_option maxHeartbeats 1000000 in
theorem j8 (x:Cr) (h:CrOk x):FPure Tryz.prog 55 [.agg (crC x)] (.tup [blA (dh x),.i 0]):=by
 refine en Tryz.func55 Tryz.ntmps55 Tryz.results55 [0,1,2,3,4,5,6,7,11,51] ?_;intro c hP h0 hE kK
 have hm:=Id (dK x) rfl h.it
 have he:=xa (crL x) h.G
 have hv:=CE x h
 have e1:=ed x.hg (by have:=h.hg;omega) (by have:=h.hg;omega)
 have e2:=ed x.pt (by have:=h.pt;omega) (by have:=h.pt;omega)
 simp only [go_sem,hP]
 refine aa kK (by exact hv) ?_
 simp only [go_sem,hP]
 refine aa kK (by exact yq x.rp) ?_
 simp only [go_sem,hP]
 first|refine dO hE (ks:=[0,1,2,3,4,5,6,7,11,51]) (n:=2000) ?_ ?_ rfl (by rw [hP];exact vb x.us) (by simp only [go_sem,ax,an,and_self]) ?_|refine dP hE (ks:=[0,1,2,3,4,5,6,7,11,51]) (n:=2000) ?_ ?_ rfl (by rw [hP];exact vb x.us) (by simp only [go_sem,ax,an,and_self]) ?_
 ·simp only [go_sem]
  rw [List.take_of_length_le (by simp)]
  exact bY _
 ·simp only [go_sem]
  rw [List.take_of_length_le (by simp)]
  exact⟨Nat.le_refl _,bI _⟩
 simp only [go_sem,hP]
 refine aa kK (by exact yq x.nm) ?_
 simp only [go_sem,hP]
 refine aa kK (by exact n9 x.sd) ?_
 simp only [go_sem,hP,e1]
 refine aa kK (by exact n9 (ik x.hg)) ?_
 simp only [go_sem,hP]
 refine aa kK (by exact tk x.rs) ?_
 simp only [go_sem,hP,e2]
 refine aa kK (by exact n9 (ik x.pt)) ?_
 simp only [go_sem,hP]
 refine aa kK (by exact tk x.sh) ?_
 simp only [go_sem,hP]
 refine aa kK (by exact tk x.bk) ?_
 simp only [go_sem,hP]
 refine x_f kK (hm) ?_
 simp only [go_sem,hP]
 refine⟨by kernel_rfl,?_⟩
 refine aa kK (by exact he) ?_
 simp only [go_sem,hP]
 exact⟨rfl,rfl⟩
end Go.Proofs.YtebndjnkmcahaaaGreatDoor
end
section
section
namespace Go.Proofs.YtebndjnkmcahaaaGreatDoor
set_option linter.unusedSimpArgs false
set_option linter.unusedVariables false
open Go Go.Abs Go.RowKit
set_option maxRecDepth 100000 in
theorem vh (x:Itm) (hx:okI x∨x = .m 9) (at' dep:Int) (ha:at'<512) (hd:dep≤8) (bf:List UInt8):FPure Tryz.prog 233 [.agg (dg x),.i at',.i dep,.b false,sv bf] (.i 0):=by
 refine en Tryz.func233 Tryz.ntmps233 Tryz.results233 [0,1,2,3,4,5,10,11,12,29,32,46,49,80,93,103] ?_;intro c hP h0 hE kK
 have hw:=pP x.kd 1 8 (yu x).1 (yu x).2
 have h9:((UInt64.toNat 9:Nat):Int)=9:=by decide
 cases x with
 | u n =>
  simp only [go_sem,hP,show ¬at'≥512 from by omega,show ¬dep>8 from by omega]
  refine aa kK (by exact hw) ?_
  simp only [go_sem,hP,show ¬dep>8 from by omega]
 | m n =>
  obtain rfl:n=9:=by rcases hx with h|h;exact h.elim;cases h;rfl
  simp only [go_sem,hP,show ¬at'≥512 from by omega,show ¬dep>8 from by omega]
  refine aa kK (by exact hw) ?_
  simp only [go_sem,hP,show ¬dep>8 from by omega,h9]
 | d s =>
  have hs:okI (.d s):=by rcases hx with h|h;exact h;cases h
  have hs:s.length≤1024:=hs
  simp only [go_sem,hP,show ¬at'≥512 from by omega,show ¬dep>8 from by omega]
  refine aa kK (by exact hw) ?_
  simp only [go_sem,hP,show ¬dep>8 from by omega,show ¬((s.length:Int)>1024) from by omega]
 | t s =>
  have hs:okI (.t s):=by rcases hx with h|h;exact h;cases h
  simp only [go_sem,hP,show ¬at'≥512 from by omega,show ¬dep>8 from by omega]
  refine aa kK (by exact hw) ?_
  simp only [go_sem,hP,show ¬dep>8 from by omega,show ¬((s.length:Int)>1024) from by have:=hs.1;omega]
  refine aa kK (by exact dw s (by have:=hs.1;omega)) ?_
  simp only [go_sem,hP,hs.2]
 | b v =>
  have hv:¬((UInt64.toNat (bN v):Nat):Int)>1:=by cases v<;>decide
  simp only [go_sem,hP,show ¬at'≥512 from by omega,show ¬dep>8 from by omega]
  refine aa kK (by exact hw) ?_
  simp only [go_sem,hP,show ¬dep>8 from by omega,hv]
def bfP (j:Nat):List UInt8:=if j=1 then [] else [UInt8.ofNat (j-1)]
set_option maxRecDepth 100000 in
theorem z7 (j:Nat) (h1:1≤j) (h9:j≤9) (at' dep:Int) (ha:at'<512) (hd:dep≤8):FPure Tryz.prog 233 [.agg (dg (.u (UInt64.ofNat j))),.i at',.i dep,.b true,sv (bfP j)] (.i 0):=by
 refine en Tryz.func233 Tryz.ntmps233 Tryz.results233 [0,1,2,3,4,5,10,11,12,29,32,46,49,80,93,103] ?_;intro c hP h0 hE kK
 have hw:=pP 1 1 8 (by decide) (by decide)
 have hb:=jF (.u (UInt64.ofNat j)) (by simp [Itm.da])
 rw [show bD (.u (UInt64.ofNat j))=[UInt8.ofNat j] from z6 ⟨j,by omega⟩] at hb
 simp only [go_sem,hP,show ¬at'≥512 from by omega,show ¬dep>8 from by omega]
 refine aa kK (by exact hw) ?_
 simp only [go_sem,hP]
 refine aa kK (by exact mV) ?_
 rcases Nat.eq_or_lt_of_le h1 with h1'|h1'
 ·have hl:bfP j=[]:=by unfold bfP;rw [if_pos h1'.symm]
  simp only [go_sem,hP,show ¬dep>8 from by omega,hl]
 ·have hl:bfP j=[UInt8.ofNat (j-1)]:=by unfold bfP;rw [if_neg (by omega)]
  simp only [go_sem,hP,show ¬dep>8 from by omega,hl,gX]
  refine aa kK (by exact hb) ?_
  simp only [go_sem,hP]
  refine aa kK (by exact yt (UInt8.ofNat (j-1)) (UInt8.ofNat j) (by rw [UInt8.toNat_ofNat',UInt8.toNat_ofNat'];omega)) ?_
  simp only [go_sem,hP]
theorem CF (l:List Itm) (n i:Nat) (hn:l.length=n) (hn':n<512) (hi:i<n) (hx:okI (l.getD i (.b false))) (dep:Int) (hd:dep≤8) (bf:List UInt8) :
 FPure Tryz.prog 208 [.p (.data 3 n (aO l)),.i i,.i dep,.b false,sv bf] (.tup [.i ((i+1:Nat):Int),.i 0]):=by
 refine en Tryz.func208 Tryz.ntmps208 Tryz.results208 [0,1,2,3,4,10,11,12,13,14,15,16,17,18,22,35,53,58,70,87] ?_;intro c hP h0 hE kK
 have hat:=bJ l i (by omega)
 have hc:=vh (l.getD i (.b false)) (.inl hx) i dep (by omega) hd bf
 have hw:IntKind.i64.wrap ((i:Int)+1)=((i+1:Nat):Int):=by rw [ab (by omega) (by omega)];omega
 generalize l.getD i (.b false)=x at *
 simp only [go_sem,hP,hat,cH,show ¬((i:Int)≥(n:Int)) from by omega]
 refine⟨⟨by omega,by omega⟩,?_⟩
 refine aa kK (by exact hc) ?_
 have hk5:¬x.kd=5:=by cases x<;>simp [Itm.kd]
 have hk6:¬x.kd=6:=by cases x<;>first|exact hx.elim|simp [Itm.kd]
 simp only [go_sem,hP,hw]
 refine ay hE h0 [0,1,2,3,4,10,11,12,13,14,15,16,17,18,22,35,53,58,70,87] 0 (fun _=>⟨91,[(12,.ptr 0 0),(14,.i ((i+1:Nat):Int)),(16,.p (.v (.int .u64 0)))],[(0,some ⟨162,dg x⟩)],1⟩) [] (fun i=>i) ?_ ?_
 ·refine⟨rfl,?_,?_,rfl,rfl,trivial,fun i h=>h⟩
  ·simp only [go_sem]
  ·simp only [go_sem]
 ·intro _ _
  by_cases h0n:(0:Int)<(x.nu.toNat:Int)
  ·simp only [go_sem,hP,h0n,hk5,hk6]
  ·simp only [go_sem,hP,h0n]
theorem CG (l:List Itm) (n i:Nat) (hn:l.length=n) (hn':n<512) (hi:i<n) (j:Nat) (h1:1≤j) (h9:j≤9) (hx:l.getD i (.b false) = .u (UInt64.ofNat j)) (dep:Int) (hd:dep≤8) :
 FPure Tryz.prog 208 [.p (.data 3 n (aO l)),.i i,.i dep,.b true,sv (bfP j)] (.tup [.i ((i+1:Nat):Int),.i 0]):=by
 refine en Tryz.func208 Tryz.ntmps208 Tryz.results208 [0,1,2,3,4,10,11,12,13,14,15,16,17,18,22,35,53,58,70,87] ?_;intro c hP h0 hE kK
 have hat:=bJ l i (by omega)
 have hc:=z7 j h1 h9 i dep (by omega) hd
 have hw:IntKind.i64.wrap ((i:Int)+1)=((i+1:Nat):Int):=by rw [ab (by omega) (by omega)];omega
 rw [hx] at hat
 generalize bfP j=bf at *
 generalize hj:UInt64.ofNat j=w at *
 simp only [go_sem,hP,hat,cH,show ¬((i:Int)≥(n:Int)) from by omega]
 refine⟨⟨by omega,by omega⟩,?_⟩
 refine aa kK (by exact hc) ?_
 simp only [go_sem,hP,hw]
 refine ay hE h0 [0,1,2,3,4,10,11,12,13,14,15,16,17,18,22,35,53,58,70,87] 0 (fun _=>⟨91,[(12,.ptr 0 0),(14,.i ((i+1:Nat):Int)),(16,.p (.v (.int .u64 0)))],[(0,some ⟨162,dg (.u w)⟩)],1⟩) [] (fun i=>i) ?_ ?_
 ·refine⟨rfl,?_,?_,rfl,rfl,trivial,fun i h=>h⟩
  ·simp only [go_sem]
  ·simp only [go_sem]
 ·intro _ _
  by_cases h0n:(0:Int)<(w.toNat:Int)
  ·simp only [go_sem,hP,h0n]
  ·simp only [go_sem,hP,h0n]
def laS (i:Nat):List UInt8:=if i=0 then [] else [UInt8.ofNat i]
theorem z8 (l:List Itm) (hl:G19 l):FPure Tryz.prog 208 [.p (.data 3 19 (aO l)),.i 0,.i 0,.b false,sv []] (.tup [.i 19,.i 0]):=by
 refine en Tryz.func208 Tryz.ntmps208 Tryz.results208 [0,1,2,3,4,10,11,12,13,14,15,16,17,18,22,35,53,58,70,87] ?_;intro c hP h0 hE kK
 have hat:=bJ l 0 (by rw [hl.len];decide)
 have hc:=vh (.m 9) (.inr rfl) 0 0 (by decide) (by decide) []
 have h9:((UInt64.toNat 9:Nat):Int)=9:=by decide
 rw [hl.h0,Nat.zero_mul,List.drop_zero] at hat
 have ht3:(aO l).take 3=cH (.m 9):=by rw [hat];rfl
 have h01:IntKind.i64.wrap (0+1)=1:=by decide
 have hpl:(aO l).length=57:=by rw [ii,hl.len]
 clear hat
 simp only [go_sem,hP,ht3,cH]
 refine⟨by rw [hpl];decide,?_⟩
 refine aa kK (by exact hc) ?_
 simp only [go_sem,hP,h01]
 refine ay hE h0 [0,1,2,3,4,10,11,12,13,14,15,16,17,18,22,35,53,58,70,87] 9 (fun i=>⟨91,[(0,.p (.data 3 19 (aO l))),(2,.i 0),(12,.ptr 0 0),(14,.i ((1+2*i:Nat):Int)),(15,sv (laS i)),(16,.p (.v (.int .u64 i)))],[(0,some ⟨162,dg (.m 9)⟩)],1⟩) [] (fun i=>i) ?_ ?_
 ·refine⟨rfl,?_,?_,rfl,rfl,trivial,fun i h=>h⟩
  ·simp only [go_sem,laS]
  ·simp only [go_sem]
 intro i hi
 rcases Nat.lt_or_ge i 9 with hi9|hi9
 ·have hk:=CG l 19 (1+2*i) hl.len (by decide) (by omega) (i+1) (by omega) (by omega) (by have:=hl.hk (i+1) (by omega) (by omega);rwa [show 2*(i+1)-1=1+2*i from by omega] at this) 1 (by decide)
  have hv:=CF l 19 (1+2*i+1) hl.len (by decide) (by omega) (by have:=hl.hv (i+1) (by omega) (by omega);rwa [show 2*(i+1)=1+2*i+1 from by omega] at this) 1 (by decide) []
  have hat:=bJ l (1+2*i) (by rw [hl.len];omega)
  have hu:=hl.hk (i+1) (by omega) (by omega)
  rw [show 2*(i+1)-1=1+2*i from by omega] at hu
  rw [hu] at hat
  have hb:=jF (.u (UInt64.ofNat (i+1))) (by simp [Itm.da])
  rw [show bD (.u (UInt64.ofNat (i+1)))=[UInt8.ofNat (i+1)] from z6 ⟨i+1,by omega⟩] at hb
  have e1:bfP (i+1)=laS i:=by
   unfold bfP laS
   by_cases h:i=0
   ·subst h;rfl
   ·rw [if_neg (by omega),if_neg h];rfl
  have e2:laS (i+1)=[UInt8.ofNat (i+1)]:=by unfold laS;rw [if_neg (by omega)]
  rw [e1] at hk
  have hw:IntKind.u64.wrap ((i:Int)+1)=((i+1:Nat):Int):=by rw [ak (by omega) (by omega)];omega
  generalize laS i=la at *
  simp only [go_sem,hP,h9,h01,show ((i:Int)<9) from by omega]
  refine aa kK (by exact hk) ?_
  simp only [go_sem,hP,hat,cH]
  refine⟨⟨by omega,by omega⟩,?_⟩
  refine aa kK (by exact hb) ?_
  simp only [go_sem,hP,h01]
  refine aa kK (by exact hv) ?_
  simp only [go_sem,hP,hw]
  refine⟨hi9,dp rfl ?_ ?_ rfl rfl (Nat.le_refl _)⟩
  ·simp only [go_sem,e2]
   omega
  ·simp only [go_sem]
 obtain rfl:i=9:=by omega
 simp only [go_sem,hP,h9]
theorem CH (l:List Itm) (hl:G19 l):FPure Tryz.prog 165 [.p (.data 3 19 (aO l))] (.i 0):=by
 refine en Tryz.func165 Tryz.ntmps165 Tryz.results165 [0,2,3,4,11,16] ?_;intro c hP h0 hE kK
 simp only [go_sem,hP]
 refine aa kK (by exact z8 l hl) ?_
 simp only [go_sem,hP]
set_option maxHeartbeats 1000000 in
theorem vi (l:List Itm) (hl:G19 l):FPure Tryz.prog 112 [.p (.data 3 19 (aO l))] (.tup [blA (bP l),.i 0]):=by
 refine en Tryz.func112 Tryz.ntmps112 Tryz.results112 [0,2,3,4,5,6,10,15] ?_;intro c hP h0 hE kK
 have hll:=hl.bs 19 (by decide)
 rw [show l.take 19=l from List.take_of_length_le (by rw [hl.len];decide)] at hll
 simp only [go_sem,hP]
 refine aa kK (by exact CH l hl) ?_
 simp only [go_sem,hP]
 refine bE a7 ?_
 refine ay hE h0 [0,2,3,4,5,6,10,15] 19 (fun i=>⟨26,[(0,.p (.data 3 19 (aO l))),(5,.sl 0 0 (bP (l.take i)).length 1),(6,.i i)],[(0,some ⟨a7,cb (bP (l.take i))⟩)],1⟩) [] (fun i=>i) ?_ ?_
 ·refine⟨rfl,?_,?_,rfl,rfl,trivial,fun i h=>h⟩
  ·simp only [go_sem,List.take_zero]
   rfl
  ·simp only [go_sem,List.take_zero]
   exact (show ai _ _ _ [] [] from by simp [ai])
 intro i hi
 rcases Nat.lt_or_ge i 19 with h19|h19
 ·have hw:IntKind.i64.wrap ((i:Int)+1)=((i+1:Nat):Int):=by rw [ab (by omega) (by omega)];omega
  have hat:=bJ l i (by rw [hl.len];exact h19)
  have hda:=hl.da i h19
  have hbs:=hl.bs i hi
  have hsu:=eA l i (by rw [hl.len];exact h19)
  have hle:=gP (l.getD i (.b false))
  have hb:=jF (l.getD i (.b false)) (by omega)
  generalize l.getD i (.b false)=x at *
  generalize bP (l.take i)=b at *
  generalize bP (l.take (i+1))=b' at *
  subst hsu
  simp only [go_sem,hP,hat,cH,show ((i:Int)<19) from by omega]
  refine⟨by omega,?_⟩
  refine aa kK (by exact hb) ?_
  simp only [go_sem,hP,hw]
  refine⟨⟨by omega,by omega⟩,h19,aZ [1] rfl ?_ ?_ rfl rfl (Nat.le_of_ble_eq_true rfl)⟩
  ·simp only [go_sem]
  ·simp only [go_sem,cI,dA]
   exact aj _ _ _ _
 obtain rfl:i=19:=by omega
 rw [show l.take 19=l from List.take_of_length_le (by rw [hl.len];decide)]
 generalize bP l=b at *
 simp only [go_sem,hP]
 exact⟨Nat.le_refl _,by rw [List.take_length]⟩
end Go.Proofs.YtebndjnkmcahaaaGreatDoor
end
section
section
namespace Go.Proofs.YtebndjnkmcahaaaGreatDoor
set_option linter.unusedSimpArgs false
set_option linter.unusedVariables false
open Go Go.Abs Go.RowKit
theorem j9 (n:UInt64):FPure Tryz.prog 110 [.w n] (.agg (dg (.u n))):=by
 refine en Tryz.func110 Tryz.ntmps110 Tryz.results110 [0,2] ?_;intro c hP h0 hE kK
 simp only [go_sem,hP]
theorem kZ (v:Bool):FPure Tryz.prog 111 [.b v] (.agg (dg (.b v))):=by
 refine en Tryz.func111 Tryz.ntmps111 Tryz.results111 [0,2,3] ?_;intro c hP h0 hE kK
 cases v<;>simp only [go_sem,hP]
 all_goals try rfl
theorem yx (s:List UInt8):FPure Tryz.prog 108 [sv s] (.agg (dg (.t s))):=by
 refine en Tryz.func108 Tryz.ntmps108 Tryz.results108 [0,2] ?_;intro c hP h0 hE kK
 simp only [go_sem,hP]
theorem Fb (s:List UInt8):FPure Tryz.prog 109 [sv s] (.agg (dg (.d s))):=by
 refine en Tryz.func109 Tryz.ntmps109 Tryz.results109 [0,2] ?_;intro c hP h0 hE kK
 simp only [go_sem,hP]
theorem gQ (n lo hi:Int) (h1:lo≤n) (h2:n≤hi):FPure Tryz.prog 163 [.i n,.i lo,.i hi] (.b true):=by
 refine en Tryz.func163 Tryz.ntmps163 Tryz.results163 [0,1,2,6] ?_;intro c hP h0 hE kK
 simp only [go_sem,hP,h1,h2,decide_true,show n≥lo from h1]
theorem Aa (x:Cr) (h:CrOk x):FPure Tryz.prog 107 [.agg (crC x)] (.i 0):=by
 refine en Tryz.func107 Tryz.ntmps107 Tryz.results107 [0,1,2,3,34,45] ?_;intro c hP h0 hE kK
 have h1:=h.rp1;have h2:=h.rp2;have h3:=h.us1;have h4:=h.us2;have h5:=h.nm;have h6:=h.hg;have h7:=h.pt
 have h8:=h.u1;have h9:=h.u2;have h10:=h.sh;have h11:=h.bk
 obtain⟨rp,us,nm,sd,hg,rs,pt,sh,bk⟩:=x
 dsimp only at *
 simp only [go_sem,hP]
 refine aa kK (by exact gQ rp.length 1 64 (by omega) (by omega)) ?_
 simp only [go_sem,hP]
 refine aa kK (by exact gQ us.length 1 16 (by omega) (by omega)) ?_
 simp only [go_sem,hP,show ¬((nm.length:Int)>32) from by omega]
 refine aa kK (by exact gQ hg 1 4 h6.1 h6.2) ?_
 simp only [go_sem,hP]
 refine aa kK (by exact gQ pt 1 3 h7.1 h7.2) ?_
 simp only [go_sem,hP]
 refine aa kK (by exact dw rp (by omega)) ?_
 simp only [go_sem,hP,h8]
 refine aa kK (by exact dw nm (by omega)) ?_
 simp only [go_sem,hP,h9]
 cases sh<;>cases rs<;>cases bk<;>simp at h10 h11
 all_goals simp only [go_sem,hP]
theorem yy (l:List Itm) (i:Nat) (h:i<l.length):(bX l).drop (i*3) = .i (l.getD i (.b false)).kd :: .w (l.getD i (.b false)).nu::sv (l.getD i (.b false)).da::bX (l.drop (i+1)):=by
 unfold bX
 rw [← List.map_drop,bJ l i h]
 simp [cH]
set_option maxHeartbeats 1000000 in
theorem gp (x:Cr) (h:CrOk x):FPure Tryz.prog 46 [.agg (crC x)] (.tup [blA (dh x),.i 0]):=by
 refine en Tryz.func46 Tryz.ntmps46 Tryz.results46 [0,1,2,3,4,5,6,7,11,48] ?_;intro c hP h0 hE kK
 have hv:=Aa x h
 have e1:=ed x.hg (by have:=h.hg;omega) (by have:=h.hg;omega)
 have e2:=ed x.pt (by have:=h.pt;omega) (by have:=h.pt;omega)
 simp only [go_sem,hP]
 refine aa kK (by exact hv) ?_
 simp only [go_sem,hP]
 refine aa kK (by exact yx x.rp) ?_
 simp only [go_sem,hP]
 refine aa kK (by exact Fb x.us) ?_
 simp only [go_sem,hP]
 refine aa kK (by exact yx x.nm) ?_
 simp only [go_sem,hP]
 refine aa kK (by exact j9 x.sd) ?_
 simp only [go_sem,hP,e1]
 refine aa kK (by exact j9 (ik x.hg)) ?_
 simp only [go_sem,hP]
 refine aa kK (by exact kZ x.rs) ?_
 simp only [go_sem,hP,e2]
 refine aa kK (by exact j9 (ik x.pt)) ?_
 simp only [go_sem,hP]
 refine aa kK (by exact kZ x.sh) ?_
 simp only [go_sem,hP]
 refine aa kK (by exact kZ x.bk) ?_
 simp only [go_sem,hP]
 refine⟨by kernel_rfl,?_⟩
 refine ay hE h0 [0,1,2,3,4,5,6,7,11,48] 9 (fun i=>⟨66,[(5,.sl 1 0 9 3),(6,.sl 2 0 (1+2*i) 3),(7,.i i)],[(1,some ⟨162,bX (dK x)⟩),(2,some ⟨162,bX (gW (dK x) i)⟩)],3⟩) [] (fun i=>i) ?_ ?_
 ·refine⟨rfl,?_,?_,rfl,rfl,trivial,fun i h=>h⟩
  ·simp only [go_sem]
  ·simp only [go_sem]
   exact⟨(show ai _ _ _ (bX (dK x)) (bX (dK x)) from ij _ _ _ _),(show ai _ _ _ (bX [.m 9]) (bX [.m 9]) from ij _ _ _ _)⟩
 intro i hi
 rcases Nat.lt_or_ge i 9 with h9|h9
 ·have hw:IntKind.i64.wrap ((i:Int)+1)=((i+1:Nat):Int):=by rw [ab (by omega) (by omega)];omega
  have hu:IntKind.u64.wrap ((i+1:Nat):Int)=((UInt64.ofNat (i+1)).toNat:Int):=by rw [ak (by omega) (by omega),UInt64.toNat_ofNat',Nat.mod_eq_of_lt (by omega)]
  have hat:=yy (dK x) i h9
  have hms:=j7 (dK x) i
  have hll:=pO (dK x) i
  have hl0:(dK x).length=9:=rfl
  generalize hL0:dK x=L0 at *
  generalize L0.getD i (.b false)=v at *
  generalize gW L0 i=L at *
  generalize gW L0 (i+1)=L' at *
  subst hms
  simp only [go_sem,hP,hw,hu,show ((i:Int)<9) from by omega]
  refine aa kK (by exact j9 (UInt64.ofNat (i+1))) ?_
  have e6:bX L++[.i 1,.w (UInt64.ofNat (i+1)),sv [],.i v.kd,.w v.nu,sv v.da]=bX (L++[.u (UInt64.ofNat (i+1)),v]):=by rw [← pJ];rfl
  simp only [go_sem,hP,hat,hw,e6]
  refine⟨⟨by omega,by omega⟩,by omega,⟨by omega,by omega,by omega⟩,by kernel_rfl,h9,aZ [0,1,4] rfl ?_ ?_ rfl rfl (Nat.le_of_ble_eq_true rfl)⟩
  ·simp only [go_sem,show 1+2*(i+1)=1+2*i+2 from by omega]
  ·simp only [go_sem]
 obtain rfl:i=9:=by omega
 have hG:=h.G
 have he:=vi (crL x) hG
 unfold dh at hE kK
 simp only [go_sem,hP]
 first|refine dO hE (ks:=[0,1,2,3,4,5,6,7,11,48]) (n:=2000) ?_ ?_ rfl (by rw [hP];exact he) (by simp only [go_sem,ax,an,and_self]) ?_|refine dP hE (ks:=[0,1,2,3,4,5,6,7,11,48]) (n:=2000) ?_ ?_ rfl (by rw [hP];exact he) (by simp only [go_sem,ax,an,and_self]) ?_
 ·simp only [go_sem]
  rw [List.take_of_length_le (by rw [gm];exact Nat.le_of_eq (congrArg (·*3) hG.len))]
  simp only [go_sem]
  rfl
 ·simp only [go_sem]
  rw [List.take_of_length_le (by rw [gm];exact Nat.le_of_eq (congrArg (·*3) hG.len))]
  simp only [go_sem]
  exact Nat.le_of_eq (congrArg (·*3) hG.len.symm)
 simp only [go_sem,hP]
end Go.Proofs.YtebndjnkmcahaaaGreatDoor
end
section
namespace Go.Proofs.YtebndjnkmcahaaaGreatDoor
set_option linter.unusedSimpArgs false
set_option linter.unusedVariables false
open Go Go.Abs Go.RowKit
theorem yz:∀k:Fin 6,∀lo:Fin 28,((UInt8.ofNat (32*k.val)+UInt8.ofNat lo.val).toNat<244∧bc .u8 (((UInt8.ofNat (32*k.val)+UInt8.ofNat lo.val).toNat:Nat):Int) 5=(k.val:Int) ∧
 cu .u8 (((UInt8.ofNat (32*k.val)+UInt8.ofNat lo.val).toNat:Nat):Int) 31=(lo.val:Int)):=by decide +kernel
theorem CI (n:UInt64):∃lo:Fin 28,loN n=UInt8.ofNat lo.val∧(lo.val:Int)=(loN n).toNat∧(n.toNat<24→lo.val=n.toNat):=by
 by_cases h:n.toNat<24
 ·refine⟨⟨n.toNat,by omega⟩,?_,?_,fun _=>rfl⟩
  ·rw [(ny n h).1];apply UInt8.toNat_inj.1;rw [UInt8.toNat_ofNat',UInt64.toNat_toUInt8]
  ·rw [(ny n h).1,UInt64.toNat_toUInt8,Nat.mod_eq_of_lt (by omega)]
 ·by_cases h1:n.toNat<256
  ·exact⟨24,(kz n h h1).1,by rw [(kz n h h1).1];rfl,fun c=>absurd c h⟩
  by_cases h2:n.toNat<65536
  ·exact⟨25,(kB n h1 h2).1,by rw [(kB n h1 h2).1];rfl,fun c=>absurd c h⟩
  by_cases h4:n.toNat<4294967296
  ·exact⟨26,(kC n h2 h4).1,by rw [(kC n h2 h4).1];rfl,fun c=>absurd c h⟩
  ·exact⟨27,(kD n h4).1,by rw [(kD n h4).1];rfl,fun c=>absurd c h⟩
theorem CJ (n:UInt64) (h:¬n.toNat<24):gV .i64 1 (IntKind.u8.wrap (((loN n).toNat:Int)-24))=(szN n:Int)∧1≤szN n:=by
 by_cases h1:n.toNat<256
 ·rw [(kz n h h1).1,(kz n h h1).2];decide
 by_cases h2:n.toNat<65536
 ·rw [(kB n h1 h2).1,(kB n h1 h2).2];decide
 by_cases h4:n.toNat<4294967296
 ·rw [(kC n h2 h4).1,(kC n h2 h4).2];decide
 ·rw [(kD n h4).1,(kD n h4).2];decide
theorem Fc (n:UInt64):FPure Tryz.prog 274 [.w n] (.i (szN n)):=by
 refine en Tryz.func274 Tryz.ntmps274 Tryz.results274 [0,2,3,6,9,12] ?_;intro c hP h0 hE kK
 by_cases h:n.toNat<24
 ·simp only [go_sem,hP,show ((n.toNat:Int)<24) from by omega]
  rw [(ny n h).2];rfl
 by_cases h1:n.toNat<256
 ·simp only [go_sem,hP,show ¬((n.toNat:Int)<24) from by omega,show ((n.toNat:Int)<256) from by omega]
  rw [(kz n h h1).2];rfl
 by_cases h2:n.toNat<65536
 ·simp only [go_sem,hP,show ¬((n.toNat:Int)<24) from by omega,show ¬((n.toNat:Int)<256) from by omega,show ((n.toNat:Int)<65536) from by omega]
  rw [(kB n h1 h2).2];rfl
 by_cases h4:n.toNat<4294967296
 ·simp only [go_sem,hP,show ¬((n.toNat:Int)<24) from by omega,show ¬((n.toNat:Int)<256) from by omega,show ¬((n.toNat:Int)<65536) from by omega,show ((n.toNat:Int)<4294967296) from by omega]
  rw [(kC n h2 h4).2];rfl
 simp only [go_sem,hP,show ¬((n.toNat:Int)<24) from by omega,show ¬((n.toNat:Int)<256) from by omega,show ¬((n.toNat:Int)<65536) from by omega,show ¬((n.toNat:Int)<4294967296) from by omega]
 rw [(kD n h4).2];rfl
theorem f4 {B:List UInt8} {p:Nat} {x:UInt8} {r:List UInt8} (h:B.drop p=x::r):B.getD p 0=x∧p<B.length∧B.drop (p+1)=r∧B.length=p+1+r.length:=by
 have h1:p<B.length:=by
  rcases Nat.lt_or_ge p B.length with h1|h1
  ·exact h1
  ·rw [List.drop_eq_nil_of_le h1] at h;cases h
 have h2:B[p]?=some x:=by
  have:=congrArg (·[0]?) h
  simpa using this
 refine⟨by simp [List.getD_eq_getElem?_getD,h2],h1,by rw [← List.drop_drop,h];rfl,?_⟩
 have:=congrArg List.length h
 simp at this
 omega
abbrev rdF (cnt:Int) (B:List UInt8) (L:Nat) (at':Int) (left:Int) (la:PV):List (Nat×Option Blk):=[(0,some ⟨rdT,[.sl 1 0 1 3,.i cnt,.p (.data 1 L (B.map bt)),.i at']⟩),(1,some ⟨frT,[.b true,.i left,.p la]⟩)]
set_option maxHeartbeats 4000000 in
set_option maxRecDepth 100000 in
theorem xb (k:Fin 6) (n:UInt64) (B post:List UInt8) (L p:Nat) (hL:B.length=L) (hLb:L<1000000) (hB:B.drop p=hdB (UInt8.ofNat (32*k.val)) n++post) (cnt left:Int) (la:PV) :
 Con Tryz.prog 250 [.ptr 0 0] (rdF cnt B L p left la) (.tup [.i (1+(k.val:Int)),.w n,.i 0]) (rdF cnt B L ((p+(1+szN n):Nat):Int) left la):=by
 refine ec 2 Tryz.func250 Tryz.ntmps250 Tryz.results250 [0,2,3,4,5,6,7,8,10,20,38,39,45,56,61,79,94,95,96,97,117] ?_;intro c hP h0 hE kK
 obtain⟨lo,e1,e2,e3⟩:=CI n
 obtain⟨f1,f2,f3⟩:=yz k lo
 unfold hdB at hB
 rw [e1] at hB
 obtain⟨g1,g2,g3,g4⟩:=f4 hB
 have g3:B.drop (p+1)=bgB n (szN n) (szN n)++post:=g3
 have g4:B.length=p+1+(bgB n (szN n) (szN n)++post).length:=g4
 generalize UInt8.ofNat (32*k.val)+UInt8.ofNat lo.val=F at *
 have w1:IntKind.i64.wrap ((p:Int)+1)=((p+1:Nat):Int):=by rw [ab (by omega) (by omega)];omega
 have w2:IntKind.i64.wrap (k.val:Int)=(k.val:Int):=ab (by omega) (by omega)
 have w3:IntKind.i64.wrap (1+(k.val:Int))=1+(k.val:Int):=ab (by omega) (by omega)
 have w4:IntKind.u64.wrap (lo.val:Int)=(lo.val:Int):=ak (by omega) (by omega)
 have kl:(B.map bt).length=L:=by simpa using hL
 have nL:¬((p:Int)≥(L:Int)):=by omega
 have nF4:¬((F.toNat:Int)=244):=by omega
 have nF5:¬((F.toNat:Int)=245):=by omega
 have nF6:¬((F.toNat:Int)=246):=by omega
 have nk:¬((k.val:Int)>5):=by omega
 have nlo:¬((lo.val:Int)>27):=by omega
 by_cases h24:n.toNat<24
 ·have e5:=e3 h24
  have e6:=(ny n h24).2
  simp only [go_sem,hP,g1,w1,w2,w3,w4,f2,f3,nL,nF4,nF5,nF6,nk,nlo,show ((n.toNat:Int)<24) from by omega,show ¬((27:Int)<n.toNat) from by omega,e5,e6]
  refine⟨by kernel_rfl,⟨by omega,by omega⟩,by omega,by kernel_rfl,?_⟩
  refine aB [0,1] rfl ?_ ?_ rfl rfl (fun i hi=>by simp at hi;rcases hi with rfl|rfl<;>exact⟨rfl,by simp [keys]⟩) (fun i hi=>by simp [liveK] at hi;simp;omega)
  ·simp only [go_sem,e5,ak (n:=(n.toNat:Int)) (by omega) (by omega)]
  ·simp only [go_sem]
 obtain⟨z1,z2⟩:=CJ n h24
 rw [← e2] at z1
 have hs8:=gl n
 have hid:=F5 n (szN n) hs8 (yo n (by omega))
 have hcut:(B.drop (p+1)).take (szN n)=bgB n (szN n) (szN n):=by rw [g3,List.take_left' (iQ _ _ _)]
 have nlo2:¬((lo.val:Int)<24):=by
  intro hc
  have:(lo.val:Int)=(loN n).toNat:=e2
  rcases (show (loN n).toNat≥24∨n.toNat<24 from by
   by_cases c1:n.toNat<256
   ·rw [(kz n h24 c1).1];exact .inl (by decide)
   by_cases c2:n.toNat<65536
   ·rw [(kB n c1 c2).1];exact .inl (by decide)
   by_cases c4:n.toNat<4294967296
   ·rw [(kC n c2 c4).1];exact .inl (by decide)
   ·rw [(kD n c4).1];exact .inl (by decide)) with h|h
  ·omega
  ·exact h24 h
 rw [List.length_append,iQ] at g4
 have hsh:=Fc n
 generalize hS:szN n=S at *
 have w5:IntKind.i64.wrap ((L:Int)-((p+1:Nat):Int))=((L-(p+1):Nat):Int):=by rw [ab (by omega) (by omega)];omega
 have w6:IntKind.i64.wrap (((p+1:Nat):Int)+(S:Int))=((p+1+S:Nat):Int):=by rw [ab (by omega) (by omega)];omega
 have e7:p+1+S-(p+1)=S:=by omega
 have nS:¬(((L-(p+1):Nat):Int)<(S:Int)):=by omega
 simp only [go_sem,hP,g1,w1,w2,w3,w4,w5,w6,z1,f2,f3,nL,nF4,nF5,nF6,nk,nlo,nlo2,nS,e7,hcut]
 refine⟨by kernel_rfl,⟨by omega,by omega⟩,by omega,by kernel_rfl,by kernel_rfl,⟨by omega,by omega,by omega⟩,by kernel_rfl,?_⟩
 generalize hD:bgB n S S=D at *
 have hDl:D.length=S:=by rw [← hD,iQ]
 refine bK hE [0,1] (fun i hi=>by have:=h0 i hi;simpa [liveK] using this) [0,2,3,4,5,6,7,8,10,20,38,39,45,56,61,79,94,95,96,97,117] S (fun i=>⟨120,[(0,.ptr 0 0),(2,.i (1+(k.val:Int))),(3,.w (av D i)),(8,.i S),(94,.p (.data 1 S (D.map bt))),(95,.i S),(96,.i i)],rdF cnt B L ((p+1:Nat):Int) left la,2⟩) [] (fun i=>i) ⟨rfl,?_,?_,rfl,rfl,trivial,fun i h=>h⟩ (fun i _=>rfl) ?_
 ·simp only [go_sem,av]
 ·simp only [go_sem]
 intro i hi
 rcases Nat.lt_or_ge i S with his|his
 ·have hw:IntKind.i64.wrap ((i:Int)+1)=((i+1:Nat):Int):=by rw [ab (by omega) (by omega)];omega
  have hws:av D (i+1)=c9 (av D i) 8 ||| (D.getD i 0).toUInt64:=rfl
  generalize av D i=m at *
  generalize av D (i+1)=m' at *
  subst hws
  simp only [go_sem,hP,hw,cY,i4 m 8 (by decide),iv,dU,lq,iw,show ((i:Int)<(S:Int)) from by omega]
  refine⟨by omega,by omega,his,kq [0,1] [0,1] rfl ?_ ?_ rfl rfl (Nat.le_of_ble_eq_true rfl) (fun i hi=>by simp at hi;rcases hi with rfl|rfl<;>rfl)⟩
  ·simp only [go_sem]
  ·simp only [go_sem]
 obtain rfl:i=S:=by omega
 rw [hid]
 have nSS:¬((i:Int)<(i:Int)):=by omega
 simp only [go_sem,hP,w6,nSS]
 refine aa kK (by exact hsh) ?_
 simp only [go_sem,hP,nSS]
 refine aB [0,1] rfl ?_ ?_ rfl rfl (fun i hi=>by simp at hi;rcases hi with rfl|rfl<;>exact⟨rfl,by simp [keys]⟩) (fun i hi=>by simp [liveK] at hi;simp;omega)
 ·simp only [go_sem]
 ·simp only [go_sem,Nat.add_assoc]
set_option maxRecDepth 100000 in
theorem Ij (v:Bool) (B post:List UInt8) (L p:Nat) (hL:B.length=L) (hLb:L<1000000) (hB:B.drop p=(if v then 245 else 244)::post) (cnt left:Int) (la:PV) :
 Con Tryz.prog 250 [.ptr 0 0] (rdF cnt B L p left la) (.tup [.i 7,.w (bN v),.i 0]) (rdF cnt B L ((p+1:Nat):Int) left la):=by
 refine ec 2 Tryz.func250 Tryz.ntmps250 Tryz.results250 [0,2,3,4,5,6,7,8,10,20,38,39,45,56,61,79,94,95,96,97,117] ?_;intro c hP h0 hE kK
 obtain⟨g1,g2,g3,g4⟩:=f4 hB
 have w1:IntKind.i64.wrap ((p:Int)+1)=((p+1:Nat):Int):=by rw [ab (by omega) (by omega)];omega
 have nL:¬((p:Int)≥(L:Int)):=by omega
 cases v with
 | false =>
  have g1:B.getD p 0=244:=g1
  have f1:(((244:UInt8).toNat:Nat):Int)=244:=rfl
  simp only [go_sem,hP,g1,w1,nL,f1,show IntKind.u64.wrap (IntKind.u8.wrap (244-244))=0 from by decide]
  refine⟨by kernel_rfl,⟨by omega,by omega⟩,by omega,by kernel_rfl,aB [0,1] rfl ?_ ?_ rfl rfl (fun i hi=>by simp at hi;rcases hi with rfl|rfl<;>exact⟨rfl,by simp [keys]⟩) (fun i hi=>by simp [liveK] at hi;simp;omega)⟩
  ·simp only [go_sem,show (((bN false).toNat:Nat):Int)=0 from rfl]
  ·simp only [go_sem]
 | true =>
  have g1:B.getD p 0=245:=g1
  have f1:(((245:UInt8).toNat:Nat):Int)=245:=rfl
  simp only [go_sem,hP,g1,w1,nL,f1,show IntKind.u64.wrap (IntKind.u8.wrap (245-244))=1 from by decide]
  refine⟨by kernel_rfl,⟨by omega,by omega⟩,by omega,by kernel_rfl,aB [0,1] rfl ?_ ?_ rfl rfl (fun i hi=>by simp at hi;rcases hi with rfl|rfl<;>exact⟨rfl,by simp [keys]⟩) (fun i hi=>by simp [liveK] at hi;simp;omega)⟩
  ·simp only [go_sem,show (((bN true).toNat:Nat):Int)=1 from rfl]
  ·simp only [go_sem]
end Go.Proofs.YtebndjnkmcahaaaGreatDoor
end
end
end

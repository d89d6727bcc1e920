/- joined of several texts; own work; no statement of the seat is proved but in the last -/
import Derived.Test.YtebndjnkmcahaaaGreatDoorKd
import Derived.Test.YtebndjnkmcahaaaGreatDoorVk
import Derived.Test.YtebndjnkmcahaaaGreatDoorVy
section
namespace Go.Proofs.YtebndjnkmcahaaaGreatDoor
set_option linter.unusedSimpArgs false
set_option linter.unusedVariables false
open Go Go.Abs Go.RowKit
def gk (b:List UInt8):UInt64:=av b b.length
def VLen (s:ag):Prop:=s.length<1000000000∧∀x,x∈s→x.2.length<1000000000
theorem VLen.get {s:ag} (h:VLen s) (k:Int):(vgetM k s).length<1000000000:=by
 have key:∀{l:ag},(∀x,x∈l→x.2.length<1000000000)→(vgetM k l).length<1000000000:=by
  intro l hl
  induction l with
  | nil=>simp [vgetM]
  | cons p l ih =>
   unfold vgetM
   split
   ·exact hl p (by simp)
   ·exact ih fun x hx=>hl x (by simp [hx])
 exact key h.2
def vtC (v:Vt):List AV:=[.i v.j.ps,.p (.data 1 v.j.bs.length (v.j.bs.map bt)),.i v.j.page,.i v.j.gen,.i v.j.tail,.b v.j.torn,.p (.data 2 v.prs.length (gC v.prs))]
attribute [go_sem] vtC
@[simp] theorem Kv (T:List Nat) (v:Vt):an T (vtC v):=by simp [vtC,an,ax]
theorem BM (a b:Nat) (ha:a<16777216) (hb:b<256):bor .i64 (gV .i64 (a:Int) 8) (b:Int)=((a*256+b:Nat):Int):=by
 have e:gV .i64 (a:Int) 8=((a*256:Nat):Int):=by
  show IntKind.i64.wrap ((a:Int)*2^8)=_
  rw [ab (by omega) (by omega)];omega
 rw [e]
 show IntKind.i64.wrap ((((BitVec.ofInt 64 ((a*256:Nat):Int)) ||| (BitVec.ofInt 64 (b:Int))).toNat:Nat):Int)=_
 rw [BitVec.toNat_or,nj _ (by omega),nj _ (by omega)]
 have e2:a*256 ||| b=a*256+b:=by
  rw [show (256:Nat)=2^8 from rfl,Nat.mul_comm,←Nat.two_pow_add_eq_or_of_lt (by omega)]
 rw [e2,ab (by omega) (by omega)]
set_option maxHeartbeats 1000000 in
theorem pe (v:Vt) (k:Int) (hv:VLen v.prs):FPure Tryz.prog 38 [.agg (vtC v),.i k] (.w (gk (vgetM k v.prs))):=by
 refine en Tryz.func38 Tryz.ntmps38 Tryz.results38 [0,1,2,4,5,7,10,11,12,13] ?_;intro c hP h0 hE kK
 simp only [go_sem,hP]
 refine aa kK (by exact md v _ k hv.1 (fun x hx=>by have:=hv.2 x hx;omega)) ?_
 have hg:=hv.get k
 generalize vgetM k v.prs=b at *
 simp only [go_sem,hP]
 refine ay hE h0 [0,1,2,4,5,7,10,11,12,13] b.length (fun i=>⟨23,[(5,.w (av b i)),(10,.p (.data 1 b.length (b.map bt))),(11,.i b.length),(12,.i i)],[],1⟩) [] (fun i=>i) ?_ ?_
 ·refine⟨rfl,?_,trivial,rfl,rfl,trivial,fun i h=>h⟩
  simp only [go_sem,av]
  rfl
 ·intro i hi
  generalize hm:av b i=m
  rcases Nat.lt_or_ge i b.length with hin|hin
  ·have hw:IntKind.i64.wrap ((i:Int)+1)=((i+1:Nat):Int):=by rw [ab (by omega) (by omega)];omega
   simp only [go_sem,hP,cY,i4 m 8 (by decide),iv,dU,lq,iw,show ((i:Int)<(b.length:Int)) from by omega]
   refine⟨by omega,by omega,hin,aZ [] rfl ?_ trivial rfl rfl (Nat.zero_le _)⟩
   simp only [go_sem,av,hm,hw]
  ·obtain rfl:i=b.length:=by omega
   subst hm
   have hc:¬((b.length:Int)<(b.length:Int)):=by omega
   simp only [go_sem,hP,hc]
   rfl
theorem xY (v:Vt) (hv:VLen v.prs) (h4:(vgetM 2 v.prs).length≤4):FPure Tryz.prog 80 [.agg (vtC v)] (.i (gk (vgetM 2 v.prs)).toNat):=by
 refine en Tryz.func80 Tryz.ntmps80 Tryz.results80 [0,1,2,3,4,5,11] ?_;intro c hP h0 hE kK
 simp only [go_sem,hP]
 refine aa kK (by exact qk v _ 2 hv.1 (fun x hx=>by have:=hv.2 x hx;omega)) ?_
 generalize vgetM 2 v.prs=b at *
 simp only [go_sem,hP]
 refine ay hE h0 [0,1,2,3,4,5,11] b.length (fun i=>⟨23,[(3,.i (av b i).toNat),(4,.p (.data 1 b.length (b.map bt))),(5,.i i)],[],1⟩) [] (fun i=>i) ?_ ?_
 ·refine⟨rfl,?_,trivial,rfl,rfl,trivial,fun i h=>h⟩
  simp only [go_sem,av]
  rfl
 ·intro i hi
  rcases Nat.lt_or_ge i b.length with hin|hin
  ·have hw:IntKind.i64.wrap ((i:Int)+1)=((i+1:Nat):Int):=by rw [ab (by omega) (by omega)];omega
   have hst:=gv b i (by omega)
   have hlt:=fh b i (by omega)
   have hpw:2^(8*i)≤2^24:=Nat.pow_le_pow_right (by decide) (by omega)
   have hbo:=BM (av b i).toNat (b.getD i 0).toNat (by omega) (b.getD i 0).toNat_lt
   rw [← hst] at hbo
   generalize av b i=m at *
   simp only [go_sem,hP,jB,hbo,hw,show ((i:Int)<(b.length:Int)) from by omega]
   refine⟨by omega,by omega,hin,aZ [] rfl ?_ trivial rfl rfl (Nat.zero_le _)⟩
   simp only [go_sem]
  ·obtain rfl:i=b.length:=by omega
   have hc:¬((b.length:Int)<(b.length:Int)):=by omega
   simp only [go_sem,hP,hc]
   rfl
theorem BN (d:ca) (hv:VLen d.v.prs):FPure Tryz.prog 106 [cP d] (.w (gk (vgetM 1 d.v.prs))):=by
 refine en Tryz.func106 Tryz.ntmps106 Tryz.results106 [0,1,2] ?_;intro c hP h0 hE kK
 simp only [go_sem,hP]
 refine aa kK (by exact pe d.v 1 hv) ?_
 simp only [go_sem,hP]
theorem rh (d:ca) (hv:VLen d.v.prs) (h8:(vgetM 1 d.v.prs).length≤8):FPure Tryz.prog 17 [cP d] (.w (gk (vgetM 1 d.v.prs))):=by
 refine en Tryz.func17 Tryz.ntmps17 Tryz.results17 [0,1,2] ?_;intro c hP h0 hE kK
 simp only [go_sem,hP]
 refine aa kK (by exact qk d.v _ 1 hv.1 (fun x hx=>by have:=hv.2 x hx;omega)) ?_
 simp only [go_sem,hP]
 refine aa kK (by exact Dh (vgetM 1 d.v.prs) _ rfl h8) ?_
 simp only [go_sem,hP]
 rfl
def jx (d:ca):UInt64:=fU (gk (vgetM 1 d.v.prs)) [100,114,97,119] (IntKind.i64.wrap (((gk (vgetM 2 d.v.prs)).toNat*1048576:Nat)+cu .i64 d.dr 1048575))
def xZ (d:ca):ca:={ d with dr:=IntKind.i64.wrap (d.dr+1) }
set_option maxRecDepth 100000 in
theorem HB (d:ca) (hv:VLen d.v.prs) (h4:(vgetM 2 d.v.prs).length≤4):FPure Tryz.prog 41 [cP d] (.tup [cP (xZ d),.w (jx d)]):=by
 have hlt:=fh (vgetM 2 d.v.prs) _ (show (vgetM 2 d.v.prs).length≤8 by omega)
 have hpw:2^(8*(vgetM 2 d.v.prs).length)≤2^32:=Nat.pow_le_pow_right (by decide) (by omega)
 have hnm:(gk (vgetM 2 d.v.prs)).toNat<4294967296:=by unfold gk;omega
 refine en Tryz.func41 Tryz.ntmps41 Tryz.results41 [0,1,2,3,4,5] ?_;intro c hP h0 hE kK
 simp only [go_sem,hP]
 refine aa kK (by exact pe d.v 2 hv) ?_
 unfold jx at hE kK
 generalize gk (vgetM 2 d.v.prs)=nb at *
 have hc:IntKind.i64.wrap (nb.toNat:Int)=nb.toNat:=ab (by omega) (by omega)
 have hs:gV .i64 (nb.toNat:Int) 20=((nb.toNat*1048576:Nat):Int):=by
  show IntKind.i64.wrap ((nb.toNat:Int)*2^20)=_
  rw [ab (by omega) (by omega)];omega
 simp only [go_sem,hP,hc]
 refine aa kK (by exact BN d hv) ?_
 simp only [go_sem,hP,hs]
 refine aa kK (by exact qb (gk (vgetM 1 d.v.prs)) [100,114,97,119] _ (by decide)) ?_
 simp only [go_sem,hP]
 exact⟨by kernel_rfl,cD _⟩
set_option maxRecDepth 100000 in
theorem ya (d:ca) (hv:VLen d.v.prs) (h4:(vgetM 2 d.v.prs).length≤4) (h8:(vgetM 1 d.v.prs).length≤8):FPure Tryz.prog 83 [cP d] (.tup [cP (xZ d),.w (jx d)]):=by
 have hlt:=fh (vgetM 2 d.v.prs) _ (show (vgetM 2 d.v.prs).length≤8 by omega)
 have hpw:2^(8*(vgetM 2 d.v.prs).length)≤2^32:=Nat.pow_le_pow_right (by decide) (by omega)
 have hnm:(gk (vgetM 2 d.v.prs)).toNat<4294967296:=by unfold gk;omega
 refine en Tryz.func83 Tryz.ntmps83 Tryz.results83 [0,1,2,3,4] ?_;intro c hP h0 hE kK
 simp only [go_sem,hP]
 refine aa kK (by exact rh d hv h8) ?_
 simp only [go_sem,hP]
 refine aa kK (by exact xY d.v hv h4) ?_
 unfold jx at hE kK
 generalize gk (vgetM 2 d.v.prs)=nb at *
 have hs:gV .i64 (nb.toNat:Int) 20=((nb.toNat*1048576:Nat):Int):=by
  show IntKind.i64.wrap ((nb.toNat:Int)*2^20)=_
  rw [ab (by omega) (by omega)];omega
 simp only [go_sem,hP,hs]
 refine aa kK (by exact kg (gk (vgetM 1 d.v.prs)) [100,114,97,119] _ (by decide)) ?_
 simp only [go_sem,hP]
 exact⟨by kernel_rfl,cD _⟩
end Go.Proofs.YtebndjnkmcahaaaGreatDoor
end
section
namespace Go.Proofs.YtebndjnkmcahaaaGreatDoor
set_option linter.unusedSimpArgs false
set_option linter.unusedVariables false
open Go Go.Abs Go.RowKit
structure DR where
 d:ca
 left:Int
 e:Int
def mF (r:DR):AV := .tup [cP r.d,.i r.left,.i r.e]
attribute [go_sem] mF
def kv (d:ca) (v:Vt) (e:Int):DR:=if e=16 then ⟨l4 d.fac d.now (flOf v.j),0,16⟩ else ⟨d,0,e⟩
def beB (n:Nat):List UInt8:=[UInt8.ofNat (n/16777216),UInt8.ofNat (n/65536),UInt8.ofNat (n/256),UInt8.ofNat n]
def fv:List UInt8:=[109,97,115,116,101,114]
def bootL (f:c8) (s:ag) (n:Nat):ag :=
 if (vgetM 1 s).length=0 then [(1,cr (fU f.se fv ((n*1048576:Nat):Int)) 8),(2,beB n),(16,cf ⟨0,f.af,f.ato,f.af⟩)] else [(2,beB n)]
theorem HC (d:ca):FPure Tryz.prog 140 [cP d] (cP (l4 d.fac d.now (flOf d.v.j))):=by
 refine en Tryz.func140 Tryz.ntmps140 Tryz.results140 [0,1,2] ?_;intro c hP h0 hE kK
 simp only [go_sem,hP]
 exact kU _ _ _ _ _ (cq _) (cq _) ⟨rfl,rfl⟩ ⟨rfl,rfl⟩
theorem mG (d:ca) (v:Vt) (e:Int):FPure Tryz.prog 37 [cP d,.agg (vtC v),.i e] (mF (kv d v e)):=by
 refine en Tryz.func37 Tryz.ntmps37 Tryz.results37 [0,1,2,3,4,6,7,8,10] ?_;intro c hP h0 hE kK
 obtain⟨R,hR⟩:∃R,kv d v e=R:=⟨_,rfl⟩;rw [hR] at hE kK;(try rw [hR])
 unfold kv at hR
 by_cases h:e=16
 ·rw [if_pos h] at hR
  subst hR
  simp only [go_sem,hP,h]
  refine aa kK (by exact BL d.fac d.now (flOf v.j) _ rfl) ?_
  simp only [go_sem,hP]
 ·rw [if_neg h] at hR
  subst hR
  simp only [go_sem,hP,h]
theorem j2 (d:ca) (v:Vt) (e:Int):FPure Tryz.prog 79 [cP d,.agg (vtC v),.i e] (mF (kv d v e)):=by
 refine en Tryz.func79 Tryz.ntmps79 Tryz.results79 [0,1,2,3,4,6,7,8,10] ?_;intro c hP h0 hE kK
 obtain⟨R,hR⟩:∃R,kv d v e=R:=⟨_,rfl⟩;rw [hR] at hE kK;(try rw [hR])
 unfold kv at hR
 by_cases h:e=16
 ·rw [if_pos h] at hR
  subst hR
  simp only [go_sem,hP,h]
  refine aa kK (by exact HC { d with v:=v }) ?_
  simp only [go_sem,hP]
 ·rw [if_neg h] at hR
  subst hR
  simp only [go_sem,hP,h]
theorem BO (x:UInt64):FPure Tryz.prog 42 [.w x] (.agg [.w x,.b false,.w 0,.i 0,sv [],.i 0]):=by
 refine en Tryz.func42 Tryz.ntmps42 Tryz.results42 [0,2] ?_;intro c hP h0 hE kK
 simp only [go_sem,hP]
 rfl
theorem uK (x:UInt64):FPure Tryz.prog 84 [.w x] (.agg [.w x,.b false,.w 0,.i 0,sv [],.i 0]):=by
 refine en Tryz.func84 Tryz.ntmps84 Tryz.results84 [0,2] ?_;intro c hP h0 hE kK
 simp only [go_sem,hP]
 rfl
theorem sM (n k:Nat) (h:k≤64):bc .u64 (n:Int) (k:Int)=((n/2^k:Nat):Int):=by
 show Int.fdiv (n:Int) (2^(min (k:Int).toNat 64))=_
 rw [Int.toNat_natCast,Nat.min_eq_left h,Int.fdiv_eq_ediv_of_nonneg _ (by have:(0:Int)<2^k:=Int.pow_pos (by decide);omega)]
 simp
theorem BP (n:Nat):[AV.p (.v (.int .u8 (IntKind.u8.wrap (bc .u64 (n:Int) 24)))),AV.p (.v (.int .u8 (IntKind.u8.wrap (bc .u64 (n:Int) 16)))),AV.p (.v (.int .u8 (IntKind.u8.wrap (bc .u64 (n:Int) 8)))),AV.p (.v (.int .u8 (IntKind.u8.wrap (n:Int))))]=cb (beB n):=by
 have h24:=sM n 24 (by decide)
 have h16:=sM n 16 (by decide)
 have h8:=sM n 8 (by decide)
 simp only [show ((24:Nat):Int)=24 from rfl,show ((16:Nat):Int)=16 from rfl,show ((8:Nat):Int)=8 from rfl] at h24 h16 h8
 rw [h24,h16,h8,lo8,lo8,lo8,lo8]
 rfl
set_option maxHeartbeats 1000000 in
theorem uL (f:c8) (v:Vt) (n:Nat) (hv:VLen v.prs) (hn:n≤4294967295):FPure Tryz.prog 40 [.agg (qK f),.agg (vtC v),.p (.v (.int .u64 n))] (.p (PL (bootL f v.prs n))):=by
 refine en Tryz.func40 Tryz.ntmps40 Tryz.results40 [0,1,2,3,4,6,7,8,9,26] ?_;intro c hP h0 hE kK
 obtain⟨R,hR⟩:∃R,bootL f v.prs n=R:=⟨_,rfl⟩;rw [hR] at hE kK;(try rw [hR])
 unfold bootL at hR
 have hsh:gV .u64 (n:Int) 20=((n*1048576:Nat):Int):=by
  show IntKind.u64.wrap ((n:Int)*2^20)=_
  rw [ak (by omega) (by omega)];omega
 have hwi:IntKind.i64.wrap ((n*1048576:Nat):Int)=((n*1048576:Nat):Int):=ab (by omega) (by omega)
 simp only [go_sem,hP]
 simp only [BP]
 refine iI hE (ks:=[0,1,2,3,4,6,7,8,9,26]) (n:=2000) 2 ?_ ?_
 ·simp only [go_sem]
  exact Nat.le_refl _
 simp only [go_sem,hP]
 refine aa kK (by exact md v _ 1 hv.1 (fun x hx=>by have:=hv.2 x hx;omega)) ?_
 generalize vgetM 1 v.prs=b at *
 by_cases hb:b.length=0
 ·rw [if_pos hb] at hR
  simp only [go_sem,hP,hb,hsh,hwi,show ¬((0:Int)>0) from by decide]
  refine aa kK (by exact qb f.se fv _ (by decide)) ?_
  generalize fU f.se fv ((n*1048576:Nat):Int)=m at *
  simp only [go_sem,hP]
  refine x_f kK (jJ m) ?_
  simp only [go_sem,hP,jN]
  refine aa kK (by exact wR ⟨0,f.af,f.ato,f.af⟩) ?_
  generalize cf ⟨0,f.af,f.ato,f.af⟩=le at *
  simp only [go_sem,hP]
  subst hR
  refine⟨by kernel_rfl,rfl,?_⟩
  simp only [ef,dE,byP,au]
  rfl
 ·rw [if_neg hb] at hR
  subst hR
  simp only [go_sem,hP,show ((b.length:Int)>0) from by omega]
  rfl
theorem zA (d:ca) (n:Int):FPure Tryz.prog 81 [cP d,.i n] (.p (.data 1 8 ((cr (fU d.fac.se fv n) 8).map bt))):=by
 refine en Tryz.func81 Tryz.ntmps81 Tryz.results81 [0,1,2,4] ?_;intro c hP h0 hE kK
 simp only [go_sem,hP]
 refine aa kK (by exact kg d.fac.se fv n (by decide)) ?_
 simp only [go_sem,hP]
 refine x_f kK (di (fU d.fac.se fv n)) ?_
 simp only [go_sem,hP,jN]
def ns (d:ca) (now B:Int):DR :=
 if d.on then ⟨d,0,18⟩ else
 if now<0∨now>1099511627776 then ⟨d,0,9⟩ else
 let O:=ropenM (flOf d.v.j) B
 if O.err≠0 then kv d O.v O.err else
 let n:=(gk (vgetM 2 O.v.prs)).toNat
 if n=4294967295 then ⟨d,0,13⟩ else
 let P:=rputM O.v (bootL d.fac O.v.prs (n+1)) O.left
 if P.err≠0 then kv d P.v P.err else
 let t:=if d.now<now then now else d.now
 let x:ca:=⟨d.fac,P.v,true,t,t,0,0,nO,it0⟩
 ⟨{ xZ x with tok:={ nO with sec:=jx x } },P.left,0⟩
structure wN (d:ca) (B:Int):Prop where
 i64:i64 B
 len:d.v.j.bs.length<1000000000
 op:(ropenM (flOf d.v.j) B).err=0→VLen (ropenM (flOf d.v.j) B).v.prs∧(vgetM 2 (ropenM (flOf d.v.j) B).v.prs).length≤4
 pu:∀n,(ropenM (flOf d.v.j) B).err=0→(rputM (ropenM (flOf d.v.j) B).v (bootL d.fac (ropenM (flOf d.v.j) B).v.prs n) (ropenM (flOf d.v.j) B).left).err=0 →
  VLen (rputM (ropenM (flOf d.v.j) B).v (bootL d.fac (ropenM (flOf d.v.j) B).v.prs n) (ropenM (flOf d.v.j) B).left).v.prs∧(vgetM 2 (rputM (ropenM (flOf d.v.j) B).v (bootL d.fac (ropenM (flOf d.v.j) B).v.prs n) (ropenM (flOf d.v.j) B).left).v.prs).length≤4 ∧
  (vgetM 1 (rputM (ropenM (flOf d.v.j) B).v (bootL d.fac (ropenM (flOf d.v.j) B).v.prs n) (ropenM (flOf d.v.j) B).left).v.prs).length≤8
theorem j3 (x:Ls):(cf x).length≤11:=by unfold cf;split<;>simp [au]
theorem pf (f:c8) (s:ag) (n:Nat):(bootL f s n).length<100∧∀x,x∈bootL f s n→x.2.length<1000:=by
 have:=j3 ⟨0,f.af,f.ato,f.af⟩
 unfold bootL
 split
 ·refine⟨by simp,fun x hx=>?_⟩
  simp only [List.mem_cons,List.not_mem_nil,or_false] at hx
  rcases hx with rfl|rfl|rfl
  ·simp [au]
  ·simp [beB]
  ·show (cf _).length<1000;omega
 ·refine⟨by simp,fun x hx=>?_⟩
  simp only [List.mem_cons,List.not_mem_nil,or_false] at hx
  subst hx
  simp [beB]
set_option maxRecDepth 100000 in
set_option maxHeartbeats 4000000 in
theorem Ey (d:ca) (now B:Int) (h:wN d B):FPure Tryz.prog 13 [cP d,.i now,.i B] (mF (ns d now B)):=by
 refine en Tryz.func13 Tryz.ntmps13 Tryz.results13 [0,1,2,3,6,7,8,9,10,11,12,13,15,22,35,46,62] ?_;intro c hP h0 hE kK
 obtain⟨R,hR⟩:∃R,ns d now B=R:=⟨_,rfl⟩;rw [hR] at hE kK;(try rw [hR])
 unfold ns at hR
 by_cases hon:d.on=true
 ·rw [if_pos hon] at hR
  subst hR
  simp only [go_sem,hP,hon]
 rw [if_neg hon] at hR
 have hon':d.on=false:=by simpa using hon
 by_cases h1:now<0
 ·rw [if_pos (.inl h1)] at hR
  subst hR
  simp only [go_sem,hP,hon',h1]
 by_cases h2:now>1099511627776
 ·rw [if_pos (.inr h2)] at hR
  subst hR
  simp only [go_sem,hP,hon',h1,h2]
 rw [if_neg (by omega)] at hR
 simp only [go_sem,hP,hon',h1,h2]
 refine aa kK (by exact FH d.v.j.ps d.v.j.bs _ B rfl h.len h.i64) ?_
 rw [DB,show (⟨d.v.j.ps,d.v.j.bs⟩:Fl)=flOf d.v.j from rfl]
 have hol:=nh (flOf d.v.j) B h.i64 h.len
 have hof:=qv (flOf d.v.j) B h.i64 h.len
 have hop:=h.op
 have hpu:=h.pu
 have hlen:(flOf d.v.j).bs.length<1000000000:=h.len
 generalize ropenM (flOf d.v.j) B=O at *
 simp only [go_sem,hP]
 by_cases he:O.err=0
 case neg =>
  rw [if_pos he] at hR ⊢
  subst hR
  refine aa kK (by exact mG d O.v O.err) ?_
  simp only [go_sem,hP]
 rw [if_neg (by omega)]
 rw [if_neg (by omega)] at hR
 obtain⟨hvl,h24⟩:=hop he
 refine aa kK (by exact pe O.v 2 hvl) ?_
 have hlt:=fh (vgetM 2 O.v.prs) _ (show (vgetM 2 O.v.prs).length≤8 by omega)
 have hpw:2^(8*(vgetM 2 O.v.prs).length)≤2^32:=Nat.pow_le_pow_right (by decide) (by omega)
 have hnm:(gk (vgetM 2 O.v.prs)).toNat<4294967296:=by unfold gk;omega
 generalize hk:(gk (vgetM 2 O.v.prs)).toNat=k at *
 by_cases hmx:k=4294967295
 ·rw [if_pos hmx] at hR
  subst hR
  simp only [go_sem,hP,hk,show ((k:Int)≥4294967295) from by omega]
 rw [if_neg hmx] at hR
 have hw1:IntKind.u64.wrap ((k:Int)+1)=((k+1:Nat):Int):=by rw [ak (by omega) (by omega)];omega
 simp only [go_sem,hP,hk,show ¬((k:Int)≥4294967295) from by omega,hw1]
 refine aa kK (by exact uL d.fac O.v (k+1) hvl (by omega)) ?_
 have hbl:=pf d.fac O.v.prs (k+1)
 have hpl:=mf O.v (bootL d.fac O.v.prs (k+1)) O.left hof (by omega) hbl.2 hbl.1
 have hpf:=rW O.v (bootL d.fac O.v.prs (k+1)) O.left hof (by omega) hbl.2 hbl.1
 have hpu:=hpu (k+1) he
 simp only [go_sem,hP]
 refine aa kK (by exact Dy O.v _ (bootL d.fac O.v.prs (k+1)) O.left rfl (by omega) (by have:=hbl.1;omega) (fun x hx=>by have:=hbl.2 x hx;omega) hof) ?_
 rw [yY]
 generalize rputM O.v (bootL d.fac O.v.prs (k+1)) O.left=P at *
 simp only [go_sem,hP]
 by_cases hpe:P.err=0
 case neg =>
  rw [if_pos hpe] at hR ⊢
  subst hR
  refine⟨by kernel_rfl,?_⟩
  refine aa kK (by exact mG d P.v P.err) ?_
  simp only [go_sem,hP]
 rw [if_neg (by omega)]
 rw [if_neg (by omega)] at hR
 obtain⟨hpv,hp2,hp1⟩:=hpu hpe
 refine⟨by kernel_rfl,?_⟩
 generalize ht:(if now>d.now then now else d.now)=t at *
 dsimp only at hR
 refine aa kK (by exact (HB ⟨d.fac,P.v,true,t,t,0,0,d.tok,it0⟩ hpv hp2).nil ⟨kU _ _ _ _ _ (cq _) (cq _) (cq _) ⟨rfl,rfl⟩,trivial⟩) ?_
 have hdw:jx ⟨d.fac,P.v,true,t,t,0,0,d.tok,it0⟩=jx ⟨d.fac,P.v,true,t,t,0,0,nO,it0⟩:=rfl
 rw [hdw]
 generalize jx ⟨d.fac,P.v,true,t,t,0,0,nO,it0⟩=w at *
 simp only [go_sem,hP]
 refine aa kK (by exact BO w) ?_
 subst hR
 simp only [go_sem,hP]
 exact cD _
end Go.Proofs.YtebndjnkmcahaaaGreatDoor
end

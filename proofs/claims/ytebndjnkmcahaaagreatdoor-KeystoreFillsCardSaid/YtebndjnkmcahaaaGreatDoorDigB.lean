/- joined of several texts; own work; no statement of the seat is proved but in the last -/
import Derived.Test.YtebndjnkmcahaaaGreatDoorStr
section
namespace Go.Proofs.YtebndjnkmcahaaaGreatDoor
set_option linter.unusedSimpArgs false
set_option linter.unusedVariables false
open Go Go.Abs Go.RowKit
attribute [go_sem] iv dU lq iw
theorem Hu (x:UInt64) (k:Nat) (hk:k<64):FPure Tryz.prog 248 [.w x,.i k] (.w (kI x k)):=by
 refine en Tryz.func248 Tryz.ntmps248 Tryz.results248 [0,1,4,5] ?_;intro c hP h0 hE kK
 have e1:IntKind.u64.wrap (k:Int)=k:=ak (by omega) (by omega)
 have e2:IntKind.u64.wrap (64-(k:Int))=((64-k:Nat):Int):=by rw [ak (by omega) (by omega)];omega
 simp only [go_sem,hP,e1,IX k hk,e2,i4 x (k:Int) (show k≤64 by omega),mg x ((64-k:Nat):Int) (show 64-k≤64 by omega)]
 exact⟨by omega,by omega,rfl⟩
theorem Hv (x:UInt64) (k:Int) (h0:0≤k) (h1:k<64):FPure Tryz.prog 248 [.w x,.i k] (.w (kI x k.toNat)):=by
 obtain⟨n,rfl⟩:=Int.eq_ofNat_of_zero_le h0
 exact Hu x n (by omega)
structure V4 where
 a:UInt64
 b:UInt64
 c:UInt64
 d:UInt64
def sG (v:V4):V4 :=
 let v0:=v.a+v.b
 let v1:=kI v.b 13 ^^^ v0
 let v0:=kI v0 32
 let v2:=v.c+v.d
 let v3:=kI v.d 16 ^^^ v2
 let v0:=v0+v3
 let v3:=kI v3 21 ^^^ v0
 let v2:=v2+v1
 let v1:=kI v1 17 ^^^ v2
 let v2:=kI v2 32
 ⟨v0,v1,v2,v3⟩
def iJ:Nat→V4→V4
 | 0,v=>v
 | n+1,v=>sG (iJ n v)
def V4.cs (v:V4):List AV:=[.w v.a,.w v.b,.w v.c,.w v.d]
abbrev stT:Nat:=274
@[simp] theorem Ky (T:List Nat) (v:V4):an T v.cs:=by simp [V4.cs,an,ax]
attribute [go_sem] V4.cs
set_option maxHeartbeats 1000000 in
theorem uB (v:V4) (n:Nat) (hn:n<1000):Con Tryz.prog 219 [.ptr 0 0,.i n] [(0,some ⟨stT,v.cs⟩)] (.tup []) [(0,some ⟨stT,(iJ n v).cs⟩)]:=by
 refine ec 1 Tryz.func219 Tryz.ntmps219 Tryz.results219 [0,1,4,5,6] ?_;intro c hP h0 hE kK
 simp only [go_sem,hP]
 refine bK hE [0] (fun i hi=>by have:=h0 i hi;simpa [liveK] using this) [0,1,4,5,6] n (fun k=>⟨144,[(0,.ptr 0 0),(4,.i n),(5,.i k)],[(0,some ⟨stT,(iJ k v).cs⟩)],1⟩) [] (fun i=>i) ⟨rfl,by simp only [go_sem]<;>rfl,by simp only [go_sem]<;>exact⟨rfl,rfl,rfl,rfl⟩,rfl,rfl,trivial,fun i h=>h⟩ (fun i _=>rfl) ?_
 intro k hk
 generalize hw:iJ k v=w
 by_cases hlt:k<n
 ·simp only [go_sem,hP,show ((k:Int)<(n:Int)) from by omega]
  repeat first
   | (refine aa kK (Hv _ _ (by decide) (by decide)) ?_;simp only [go_sem,hP])
   | (refine⟨by kernel_rfl,?_⟩;try simp only [go_sem,hP])
  have hi1:IntKind.i64.wrap ((k:Int)+1)=((k+1:Nat):Int):=by rw [ab (by omega) (by omega)];omega
  refine⟨hlt,kq [0] [0] rfl ?_ ?_ rfl rfl (Nat.le_refl _) (fun i hi=>by simp at hi;subst hi;rfl)⟩
  ·rw [hi1]
   simp only [go_sem]
  ·simp only [iJ,hw,go_sem]
   exact⟨rfl,rfl,rfl,rfl⟩
 ·obtain rfl:k=n:=by omega
  simp only [go_sem,hP,show ¬((k:Int)<(k:Int)) from by omega]
  refine aB [0] rfl ?_ ?_ rfl rfl (fun i hi=>by simp at hi;subst hi;exact⟨rfl,by simp [keys]⟩) (fun i hi=>by simp [liveK] at hi;simp;omega)
  ·simp only [go_sem]
  ·rw [hw]
   simp only [go_sem]
def bL (v:V4) (m:UInt64):V4 :=
 let w:=iJ 2 ⟨v.a,v.b,v.c,v.d ^^^ m⟩
 ⟨w.a ^^^ m,w.b,w.c,w.d⟩
theorem uC (v:V4) (m:UInt64):Con Tryz.prog 217 [.ptr 0 0,.w m] [(0,some ⟨stT,v.cs⟩)] (.tup []) [(0,some ⟨stT,(bL v m).cs⟩)]:=by
 refine ec 1 Tryz.func217 Tryz.ntmps217 Tryz.results217 [0,1] ?_;intro c hP h0 hE kK
 have hr:=uB ⟨v.a,v.b,v.c,v.d ^^^ m⟩ 2 (by decide)
 have ha:bL v m=⟨(iJ 2 ⟨v.a,v.b,v.c,v.d ^^^ m⟩).a ^^^ m,(iJ 2 ⟨v.a,v.b,v.c,v.d ^^^ m⟩).b,(iJ 2 ⟨v.a,v.b,v.c,v.d ^^^ m⟩).c,(iJ 2 ⟨v.a,v.b,v.c,v.d ^^^ m⟩).d⟩:=rfl
 generalize iJ 2 ⟨v.a,v.b,v.c,v.d ^^^ m⟩=s at *
 simp only [go_sem,hP]
 refine x_k kK 1 hr ?_
 simp only [go_sem,hP]
 refine aB [0] rfl ?_ ?_ rfl rfl (fun i hi=>by simp at hi;subst hi;exact⟨rfl,by simp [keys]⟩) (fun i hi=>by simp [liveK] at hi;simp;omega)
 ·simp only [go_sem]
 ·rw [ha]
  simp only [go_sem]
def mB (bs:List UInt8):Nat→UInt64
 | 0=>0
 | k+1=>mB bs k ||| c9 (bs.getD k 0).toUInt64 (8*k)
abbrev dat (bs:List UInt8):AV := .p (.data 1 bs.length (bs.map bt))
theorem BE (bs:List UInt8) (hb:bs.length≤8):FPure Tryz.prog 218 [dat bs] (.w (mB bs bs.length)):=by
 refine en Tryz.func218 Tryz.ntmps218 Tryz.results218 [0,2,3,4,5,6,7,8,9] ?_;intro c hP h0 hE kK
 simp only [go_sem,hP]
 refine ay hE h0 [0,2,3,4,5,6,7,8,9] bs.length (fun k=>⟨22,[(3,.w (mB bs k)),(6,dat bs),(7,.i bs.length),(8,.i k)],[],0⟩) [] (fun i=>i) ⟨rfl,by simp only [go_sem];exact rfl,trivial,rfl,rfl,trivial,fun i h=>h⟩ ?_
 intro k hk
 by_cases hlt:k<bs.length
 ·have hw:IntKind.i64.wrap (8*(k:Int))=((8*k:Nat):Int):=by rw [ab (by omega) (by omega)];omega
  have hw1:IntKind.i64.wrap ((k:Int)+1)=((k+1:Nat):Int):=by rw [ab (by omega) (by omega)];omega
  simp only [go_sem,hP,show ((k:Int)<(bs.length:Int)) from by omega,cY,hw,hw1,i4 _ ((8*k:Nat):Int) (show 8*k≤64 by omega)]
  refine⟨by omega,by omega,by omega,hlt,dp rfl ?_ trivial rfl rfl (Nat.le_refl _)⟩
  simp only [go_sem]
  exact rfl
 ·obtain rfl:k=bs.length:=by omega
  simp only [go_sem,hP,show ¬((bs.length:Int)<(bs.length:Int)) from by omega]
theorem uD (bs:List UInt8) (n:Nat) (hn:bs.length=n) (hb:n≤8):FPure Tryz.prog 218 [.p (.data 1 n (bs.map bt))] (.w (mB bs n)):=by
 subst hn;exact BE bs hb
def kr (k0 k1:UInt64):V4:=⟨k0 ^^^ 0x736f6d6570736575,k1 ^^^ 0x646f72616e646f6d,k0 ^^^ 0x6c7967656e657261,k1 ^^^ 0x7465646279746573⟩
def wI (bs:List UInt8) (v:V4):Nat→V4
 | 0=>v
 | i+1=>bL (wI bs v i) (mB ((bs.drop (8*i)).take 8) 8)
def ej (bs:List UInt8):UInt64:=mB (bs.drop (8*(bs.length/8))) (bs.length-8*(bs.length/8)) ||| c9 (UInt64.ofNat bs.length) 56
def BF (v:V4):UInt64 :=
 let w:=iJ 4 ⟨v.a,v.b,v.c ^^^ 0xff,v.d⟩
 w.a ^^^ w.b ^^^ w.c ^^^ w.d
def cm (k0 k1:UInt64) (bs:List UInt8):UInt64:=BF (bL (wI bs (kr k0 k1) (bs.length/8)) (ej bs))
set_option maxHeartbeats 1000000 in
theorem Jy (k0 k1:UInt64) (bs:List UInt8) (hb:bs.length<1000000000):FPure Tryz.prog 176 [.w k0,.w k1,dat bs] (.w (cm k0 k1 bs)):=by
 refine en Tryz.func176 Tryz.ntmps176 Tryz.results176 [0,1,2,6,7,8,9,22,23,24] ?_;intro c hP h0 hE kK
 have x1:ko .u64 (k0.toNat:Int) 8317987319222330741=((k0 ^^^ 0x736f6d6570736575).toNat:Int):=dU k0 0x736f6d6570736575
 have x2:ko .u64 (k1.toNat:Int) 7237128888997146477=((k1 ^^^ 0x646f72616e646f6d).toNat:Int):=dU k1 0x646f72616e646f6d
 have x3:ko .u64 (k0.toNat:Int) 7816392313619706465=((k0 ^^^ 0x6c7967656e657261).toNat:Int):=dU k0 0x6c7967656e657261
 have x4:ko .u64 (k1.toNat:Int) 8387220255154660723=((k1 ^^^ 0x7465646279746573).toNat:Int):=dU k1 0x7465646279746573
 have hq:IntKind.i64.wrap ((bs.length:Int).tdiv 8)=((bs.length/8:Nat):Int):=by
  rw [Int.tdiv_eq_ediv_of_nonneg (by omega),ab (by omega) (by omega)];omega
 simp only [go_sem,hP,x1,x2,x3,x4,hq]
 refine ay hE h0 [0,1,2,6,7,8,9,22,23,24] (bs.length/8) (fun i=>⟨63,[(2,dat bs),(7,.ptr 0 0),(8,.i ((bs.length/8:Nat):Int)),(22,.i ((bs.length/8:Nat):Int)),(23,.i i)],[(0,some ⟨stT,(wI bs (kr k0 k1) i).cs⟩)],1⟩) [] (fun i=>i) ⟨rfl,?_,?_,rfl,rfl,trivial,fun i h=>h⟩ ?_
 ·simp only [go_sem]
 ·simp only [go_sem]
  exact⟨rfl,rfl,rfl,rfl⟩
 intro i hi
 generalize hv:wI bs (kr k0 k1) i=v
 by_cases hlt:i<bs.length/8
 ·have hw:IntKind.i64.wrap (8*(i:Int))=((8*i:Nat):Int):=by rw [ab (by omega) (by omega)];omega
  have hw8:IntKind.i64.wrap (((8*i:Nat):Int)+8)=((8*i+8:Nat):Int):=by rw [ab (by omega) (by omega)];omega
  have hi1:IntKind.i64.wrap ((i:Int)+1)=((i+1:Nat):Int):=by rw [ab (by omega) (by omega)];omega
  have h8:8*i+8-8*i=8:=by omega
  have hab:=uC v (mB ((bs.drop (8*i)).take 8) 8)
  have hstep:wI bs (kr k0 k1) (i+1)=bL v (mB ((bs.drop (8*i)).take 8) 8):=by rw [← hv];rfl
  rw [hstep]
  simp only [go_sem,hP,show ((i:Int)<((bs.length/8:Nat):Int)) from by omega,hw,hw8,h8,tN]
  refine⟨by omega,?_⟩
  refine aa kK (by exact uD _ 8 (by simp;omega) (by omega)) ?_
  simp only [go_sem,hP]
  generalize bL v (mB ((bs.drop (8*i)).take 8) 8)=u at *
  refine x_k kK 1 hab ?_
  simp only [go_sem,hP,hi1]
  refine⟨hlt,aZ [0] rfl ?_ ?_ rfl rfl (Nat.le_refl _)⟩
  ·simp only [go_sem]
  ·simp only [go_sem]
 ·obtain rfl:i=bs.length/8:=by omega
  have hw:IntKind.i64.wrap (8*((bs.length/8:Nat):Int))=((8*(bs.length/8):Nat):Int):=by rw [ab (by omega) (by omega)];omega
  have hk:(bs.drop (8*(bs.length/8))).take (bs.length-8*(bs.length/8))=bs.drop (8*(bs.length/8)):=List.take_of_length_le (by simp)
  have hl:IntKind.u64.wrap (bs.length:Int)=((UInt64.ofNat bs.length).toNat:Int):=by rw [ak (by omega) (by omega)];exact gT _ (by omega)
  have hm:(mB (bs.drop (8*(bs.length/8))) (bs.length-8*(bs.length/8)) ||| c9 (UInt64.ofNat bs.length) 56)=ej bs:=rfl
  have hab:=uC v (ej bs)
  have hs:cm k0 k1 bs=(iJ 4 ⟨(bL v (ej bs)).a,(bL v (ej bs)).b,(bL v (ej bs)).c ^^^ 0xff,(bL v (ej bs)).d⟩).a ^^^ (iJ 4 ⟨(bL v (ej bs)).a,(bL v (ej bs)).b,(bL v (ej bs)).c ^^^ 0xff,(bL v (ej bs)).d⟩).b ^^^
   (iJ 4 ⟨(bL v (ej bs)).a,(bL v (ej bs)).b,(bL v (ej bs)).c ^^^ 0xff,(bL v (ej bs)).d⟩).c ^^^ (iJ 4 ⟨(bL v (ej bs)).a,(bL v (ej bs)).b,(bL v (ej bs)).c ^^^ 0xff,(bL v (ej bs)).d⟩).d:=by rw [← hv];rfl
  simp only [go_sem,hP,show ¬(((bs.length/8:Nat):Int)<((bs.length/8:Nat):Int)) from by omega,hw,hk,tN]
  refine⟨by omega,?_⟩
  refine aa kK (by exact uD _ _ (by simp) (by omega)) ?_
  simp only [go_sem,hP,hl,i4 _ 56 (by decide),hm]
  generalize ej bs=lw at *
  generalize bL v lw=u at *
  refine x_k kK 1 hab ?_
  have xf:ko .u64 (u.c.toNat:Int) 255=((u.c ^^^ 0xff).toNat:Int):=dU u.c 0xff
  simp only [go_sem,hP,xf]
  have hr:=uB ⟨u.a,u.b,u.c ^^^ 0xff,u.d⟩ 4 (by decide)
  generalize iJ 4 ⟨u.a,u.b,u.c ^^^ 0xff,u.d⟩=z at *
  refine x_k kK 1 hr ?_
  simp only [go_sem,hP]
  rw [hs]
end Go.Proofs.YtebndjnkmcahaaaGreatDoor
end
section
namespace Go.Proofs.YtebndjnkmcahaaaGreatDoor
set_option linter.unusedSimpArgs false
set_option linter.unusedVariables false
open Go Go.Abs Go.RowKit
theorem F3 (k0 k1:UInt64) (bs:List UInt8) (n:Nat) (hn:bs.length=n) (hb:n<1000000000):FPure Tryz.prog 176 [.w k0,.w k1,.p (.data 1 n (bs.map bt))] (.w (cm k0 k1 bs)):=by
 subst hn;exact Jy k0 k1 bs hb
theorem BG (d:Int) (bs:List UInt8) (n:Nat) (hn:bs.length=n) (hb:n<1000000000) (h0:0≤d) (h1:d<1000):FPure Tryz.prog 124 [.i d,.p (.data 1 n (bs.map bt))] (.w (cm (UInt64.ofNat d.toNat) 0 bs)):=by
 refine en Tryz.func124 Tryz.ntmps124 Tryz.results124 [0,1,4] ?_;intro c hP h0 hE kK
 have e:IntKind.u64.wrap d=((UInt64.ofNat d.toNat).toNat:Int):=by rw [ak (by omega) (by omega),←gT _ (by omega)];omega
 simp only [go_sem,hP,e]
 refine aa kK (by exact F3 (UInt64.ofNat d.toNat) 0 bs n hn hb) ?_
 simp only [go_sem,hP]
theorem xW (k:UInt64) (d:Int) (bs:List UInt8) (n:Nat) (hn:bs.length=n) (hb:n<1000000000) (h0:0≤d) (h1:d<1000):FPure Tryz.prog 162 [.w k,.i d,.p (.data 1 n (bs.map bt))] (.w (cm k (UInt64.ofNat (d.toNat+1)) bs)):=by
 refine en Tryz.func162 Tryz.ntmps162 Tryz.results162 [0,1,2,6] ?_;intro c hP h0 hE kK
 have e:IntKind.u64.wrap d=d:=by rw [ak (by omega) (by omega)]
 have e1:IntKind.u64.wrap (1+d)=((UInt64.ofNat (d.toNat+1)).toNat:Int):=by rw [ak (by omega) (by omega),←gT _ (by omega)];omega
 simp only [go_sem,hP,e,e1]
 refine aa kK (by exact F3 k (UInt64.ofNat (d.toNat+1)) bs n hn hb) ?_
 simp only [go_sem,hP]
def cr (w:UInt64):Nat→List UInt8
 | 0=>[]
 | k+1=>cr w k++[(eH w (56-8*k)).toUInt8]
theorem au (w:UInt64) (k:Nat):(cr w k).length=k:=by
 induction k with
 | zero=>rfl
 | succ k ih=>simp [cr,ih]
def az (ws:List UInt64):Nat→List UInt8
 | 0=>[]
 | i+1=>az ws i++cr (ws.getD i 0) 8
theorem aG (ws:List UInt64) (i:Nat):(az ws i).length=8*i:=by
 induction i with
 | zero=>rfl
 | succ i ih=>simp [az,ih,au];omega
abbrev a7:Nat:=5
set_option maxHeartbeats 1000000 in
theorem sH (ws:List UInt64) (n:Nat) (hn:ws.length=n) (hb:n<1000000):FPure Tryz.prog 90 [.p (.data 1 n (ws.map wd))] (.p (.data 1 (8*n) ((az ws n).map bt))):=by
 refine en Tryz.func90 Tryz.ntmps90 Tryz.results90 [0,2,3,5,6,11,12,13,14,17,18] ?_;intro c hP h0 hE kK
 have e8:IntKind.i64.wrap (8*(n:Int))=((8*n:Nat):Int):=by rw [ab (by omega) (by omega)];omega
 simp only [go_sem,hP,e8]
 refine⟨by omega,?_⟩
 refine ay hE h0 [0,2,3,5,6,11,12,13,14,17,18] n (fun i=>⟨32,[(3,.sl 0 0 (8*i) 1),(11,.p (.data 1 n (ws.map wd))),(12,.i n),(13,.i i)],[(0,some ⟨a7,cb (az ws i)⟩)],1⟩) [] (fun i=>i) ⟨rfl,by simp only [go_sem],by simp only [go_sem]<;>rfl,rfl,rfl,trivial,fun i h=>h⟩ ?_
 intro i hi
 have hl:=aG ws i
 by_cases hlt:i<n
 ·simp only [go_sem,hP,show ((i:Int)<(n:Int)) from by omega,tM ws i]
  refine⟨by omega,by omega,?_⟩
  generalize hw:ws.getD i 0=w
  refine ay hE h0 [0,2,3,5,6,11,12,13,14,17,18] 8 (fun j=>⟨32,[(3,.sl 0 0 (8*i+j) 1),(5,.w w),(11,.p (.data 1 n (ws.map wd))),(12,.i n),(13,.i i),(17,.i j)],[(0,some ⟨a7,cb (az ws i++cr w j)⟩)],1⟩) [] (fun i=>i) ⟨rfl,by simp only [go_sem],?_,rfl,rfl,trivial,fun i h=>h⟩ ?_
  ·rw [cr,List.append_nil]
   simp only [go_sem]
   exact aj _ _ _ _
  intro j hj
  by_cases hjl:j<8
  ·have hw8:IntKind.i64.wrap (8*(j:Int))=((8*j:Nat):Int):=by rw [ab (by omega) (by omega)];omega
   have hs:IntKind.i64.wrap (56-((8*j:Nat):Int))=((56-8*j:Nat):Int):=by rw [ab (by omega) (by omega)];omega
   have hj1:IntKind.i64.wrap ((j:Int)+1)=((j+1:Nat):Int):=by rw [ab (by omega) (by omega)];omega
   have hlb:=au w j
   simp only [go_sem,hP,show ((j:Int)<8) from by omega,hw8,hs,hj1,mg w ((56-8*j:Nat):Int) (show 56-8*j≤64 by omega),aD,eh]
   refine⟨by omega,⟨by omega,by omega,by omega⟩,hjl,aZ [2] rfl ?_ ?_ rfl rfl (Nat.le_refl _)⟩
   ·simp only [go_sem,Nat.add_assoc]
   ·rw [cr,←List.append_assoc]
    simp only [go_sem]
    exact aj _ _ _ _
  ·obtain rfl:j=8:=by omega
   have hi1:IntKind.i64.wrap ((i:Int)+1)=((i+1:Nat):Int):=by rw [ab (by omega) (by omega)];omega
   simp only [go_sem,hP,show ¬((8:Int)<8) from by decide,hi1]
   refine⟨hlt,aZ [0] rfl ?_ ?_ rfl rfl (Nat.le_refl _)⟩
   ·simp only [go_sem,Nat.mul_add]
   ·rw [az,hw]
    simp only [go_sem]
    exact aj _ _ _ _
 ·obtain rfl:i=n:=by omega
  simp only [go_sem,hP,show ¬((i:Int)<(i:Int)) from by omega]
  exact⟨by omega,by rw [List.take_of_length_le (by omega)]⟩
end Go.Proofs.YtebndjnkmcahaaaGreatDoor
end

/- joined of several texts; own work; no statement of the seat is proved but in the last -/
import Derived.Test.YtebndjnkmcahaaaGreatDoorDigB
section
namespace Go.Proofs.YtebndjnkmcahaaaGreatDoor
set_option linter.unusedSimpArgs false
set_option linter.unusedVariables false
open Go Go.Abs Go.RowKit
theorem yk (x:UInt64) (k:Int) (h0:0≤k) (h1:k≤64):FPure Tryz.prog 234 [.w x,.p (.v (.int .u64 k))] (.w (kI x k.toNat)):=by
 refine en Tryz.func234 Tryz.ntmps234 Tryz.results234 [0,1,4] ?_;intro c hP h0 hE kK
 have e2:IntKind.u64.wrap (64-k)=64-k:=ak (by omega) (by omega)
 have e3:(64-k).toNat=64-k.toNat:=by omega
 simp only [go_sem,hP,e2,i4 x k (by omega),mg x (64-k) (by omega),lq,kI,e3]
 exact⟨by omega,by omega⟩
set_option maxHeartbeats 1000000 in
theorem ig (v:V4):FPure Tryz.prog 210 [.agg v.cs] (.agg (sG v).cs):=by
 refine sE De Tryz.func210 rfl (by kernel_rfl) Tryz.ntmps210 Tryz.results210 (by simp) (by simp [an,ax,V4.cs]) [0,1,2] ?_;intro c hP h0 hE
 simp only [V4.cs,go_sem,hP,iv,dU,lq,iw]
 repeat
  first
   | refine nX hE (ks:=[0,1,2]) (n:=2000) (by rw [hP];exact yk _ _ (by decide) (by decide)) ?_
   | refine nV hE (ks:=[0,1,2]) (n:=2000) (by rw [hP];exact yk _ _ (by decide) (by decide)) ?_
   | refine⟨by kernel_rfl,?_⟩
  try simp only [V4.cs,go_sem,hP,iv,dU,lq,iw]
 simp only [sG]
def mR (bs:List UInt8) (i k:Nat):UInt8:=if i+k<bs.length then bs.getD (i+k) 0 else if k=7 then UInt8.ofNat bs.length else 0
def mS (bs:List UInt8) (i:Nat):Nat→UInt64
 | 0=>0
 | j+1=>c9 (mS bs i j) 8 ||| (mR bs i (7-j)).toUInt64
def pF (bs:List UInt8) (v:V4):Nat→V4
 | 0=>v
 | t+1=>bL (pF bs v t) (mS bs (8*t) 8)
theorem gO (n:Nat):IntKind.u8.wrap (n:Int)=((UInt8.ofNat n).toNat:Int):=by
 rw [bW,UInt8.toNat_ofNat'];omega
set_option maxHeartbeats 4000000 in
theorem HL (k0 k1:UInt64) (bs:List UInt8) (n:Nat) (hn:bs.length=n) (hb:n<1000000000):FPure Tryz.prog 167 [.w k0,.w k1,.p (.data 1 n (bs.map bt))] (.w (BF (pF bs (kr k0 k1) (n/8+1)))):=by
 refine en Tryz.func167 Tryz.ntmps167 Tryz.results167 [0,1,2,6,7,8,9,10,11,24,28,36,44] ?_;intro c hP h0 hE kK
 have x1:ko .u64 (k0.toNat:Int) 8317987319222330741=((k0 ^^^ 0x736f6d6570736575).toNat:Int):=dU k0 0x736f6d6570736575
 have x2:ko .u64 (k1.toNat:Int) 7237128888997146477=((k1 ^^^ 0x646f72616e646f6d).toNat:Int):=dU k1 0x646f72616e646f6d
 have x3:ko .u64 (k0.toNat:Int) 7816392313619706465=((k0 ^^^ 0x6c7967656e657261).toNat:Int):=dU k0 0x6c7967656e657261
 have x4:ko .u64 (k1.toNat:Int) 8387220255154660723=((k1 ^^^ 0x7465646279746573).toNat:Int):=dU k1 0x7465646279746573
 simp only [go_sem,hP,x1,x2,x3,x4]
 clear x1 x2 x3 x4
 generalize hR:AV.w (BF (pF bs (kr k0 k1) (n/8+1)))=R at *
 refine ay hE h0 [0,1,2,6,7,8,9,10,11,24,28,36,44] (n/8+1) (fun i=>⟨86,[(2,.p (.data 1 n (bs.map bt))),(7,.ptr 0 0),(8,.i ((8*i:Nat):Int))],[(0,some ⟨261,(pF bs (kr k0 k1) i).cs⟩)],1⟩) [] (fun i=>i) ?_ ?_
 ·refine⟨rfl,?_,?_,rfl,rfl,trivial,fun i h=>h⟩
  ·simp only [go_sem]
   try simp
  ·simp only [go_sem,pF,kr,V4.cs]
 ·intro i hi
  generalize hv:pF bs (kr k0 k1) i=v
  simp only [V4.cs,go_sem,hP]
  split
  ·refine ay hE h0 [0,1,2,6,7,8,9,10,11,24,28,36,44] 8 (fun j=>⟨86,[(2,.p (.data 1 n (bs.map bt))),(7,.ptr 0 0),(8,.i ((8*i:Nat):Int)),(9,.w (mS bs (8*i) j)),(10,.i (7-(j:Int)))],[(0,some ⟨261,v.cs⟩)],1⟩) [] (fun i=>i) ?_ ?_
   ·refine⟨rfl,?_,?_,rfl,rfl,trivial,fun i h=>h⟩
    ·simp only [go_sem,mS]
     try simp
    ·simp only [go_sem,V4.cs]
   ·intro j hj
    generalize hm:mS bs (8*i) j=m
    simp only [V4.cs,go_sem,hP,i4 m 8 (by decide),iv,dU,lq,iw,gO,cY]
    have e8:j<8→(((8*i:Nat):Int)+(7-(j:Int))).toNat=8*i+(7-j):=fun _=>by omega
    have em:mS bs (8*i) (j+1)=c9 m 8 ||| (mR bs (8*i) (7-j)).toUInt64:=by simp only [mS,hm]
    split
    ·(try go_unwrap)
     have hj8:j<8:=by omega
     split
     ·refine⟨⟨by omega,by omega⟩,by omega,hj8,dp rfl ?_ ?_ rfl rfl (Nat.le_refl _)⟩
      ·simp only [go_sem,em,mR,e8 hj8]
       rw [if_pos (by omega)]
       exact⟨rfl,by omega⟩
      ·simp only [go_sem]
     ·split
      ·refine⟨hj8,dp rfl ?_ ?_ rfl rfl (Nat.le_refl _)⟩
       ·simp only [go_sem,em,mR]
        rw [if_neg (by omega),if_pos (by omega),hn]
        exact⟨rfl,by omega⟩
       ·simp only [go_sem]
      ·refine⟨hj8,dp rfl ?_ ?_ rfl rfl (Nat.le_refl _)⟩
       ·simp only [go_sem,em,mR]
        rw [if_neg (by omega),if_neg (by omega)]
        exact⟨lq (c9 m 8) 0,by omega⟩
       ·simp only [go_sem]
    ·obtain rfl:j=8:=by omega
     subst hm
     clear e8 em
     refine aa kK (by exact ig ⟨v.a,v.b,v.c,v.d ^^^ mS bs (8*i) 8⟩) ?_
     simp only [go_sem,hP]
     refine aa kK (by exact ig _) ?_
     generalize hw:sG (sG ⟨v.a,v.b,v.c,v.d ^^^ mS bs (8*i) 8⟩)=w
     simp only [V4.cs,go_sem,hP,iv,dU,lq,iw]
     refine⟨by omega,dp rfl ?_ ?_ rfl rfl (Nat.le_refl _)⟩
     ·simp only [go_sem]
      rw [ab (by omega) (by omega)];omega
     ·simp only [go_sem,pF,hv,bL,iJ,hw]
  ·obtain rfl:i=n/8+1:=by omega
   have xf:ko .u64 (v.c.toNat:Int) 255=((v.c ^^^ 0xff).toNat:Int):=dU v.c 0xff
   rw [hv] at hR
   simp only [xf]
   refine aa kK (by exact ig ⟨v.a,v.b,v.c ^^^ 0xff,v.d⟩) ?_
   simp only [go_sem,hP]
   refine aa kK (by exact ig _) ?_
   simp only [go_sem,hP]
   refine aa kK (by exact ig _) ?_
   simp only [go_sem,hP]
   refine aa kK (by exact ig _) ?_
   generalize hw:sG (sG (sG (sG ⟨v.a,v.b,v.c ^^^ 0xff,v.d⟩)))=w
   simp only [V4.cs,go_sem,hP,iv,dU,lq,iw,←hR,BF,iJ,hw]
theorem u6 (n:Nat):c9 0 n=0:=by simp [c9]
theorem HM (a b:UInt64) (n:Nat):c9 (a ||| b) n=c9 a n ||| c9 b n:=by
 unfold c9
 apply UInt64.toNat_inj.1
 simp only [UInt64.toNat_ofNat',UInt64.toNat_or]
 apply Nat.eq_of_testBit_eq
 intro i
 simp only [Nat.testBit_mod_two_pow,Nat.testBit_or,Nat.testBit_mul_two_pow]
 cases decide (i<64)<;>cases decide (n≤i)<;>simp
theorem EP (a:UInt64) (m n:Nat):c9 (c9 a m) n=c9 a (m+n):=by
 unfold c9
 apply UInt64.toNat_inj.1
 simp only [UInt64.toNat_ofNat',Nat.pow_add,←Nat.mul_assoc,Nat.mod_mul_mod]
def gBE (f:Nat→UInt8):Nat→UInt64
 | 0=>0
 | j+1=>c9 (gBE f j) 8 ||| (f (7-j)).toUInt64
def gLE (f:Nat→UInt8):Nat→UInt64
 | 0=>0
 | j+1=>gLE f j ||| c9 (f j).toUInt64 (8*j)
theorem Cc (a:UInt64):c9 a 0=a:=by simp [c9]
theorem Cd (f:Nat→UInt8):gBE f 8=gLE f 8:=by
 simp only [gBE,gLE,HM,EP,u6,Cc,UInt64.zero_or,Nat.reduceAdd,Nat.reduceMul,Nat.reduceSub,UInt64.or_assoc]
 generalize c9 (f 7).toUInt64 56=x7
 generalize c9 (f 6).toUInt64 48=x6
 generalize c9 (f 5).toUInt64 40=x5
 generalize c9 (f 4).toUInt64 32=x4
 generalize c9 (f 3).toUInt64 24=x3
 generalize c9 (f 2).toUInt64 16=x2
 generalize c9 (f 1).toUInt64 8=x1
 generalize (f 0).toUInt64=x0
 ac_rfl
theorem wX (bs:List UInt8) (i:Nat):∀j,mS bs i j=gBE (mR bs i) j
 | 0=>rfl
 | j+1=>by simp only [mS,gBE,wX bs i j]
theorem wY (bs:List UInt8):∀j,mB bs j=gLE (fun k=>bs.getD k 0) j
 | 0=>rfl
 | j+1=>by simp only [mB,gLE,wY bs j]
theorem mT {f g:Nat→UInt8}:∀{j:Nat},(∀k,k<j→f k=g k)→gLE f j=gLE g j
 | 0,_=>rfl
 | j+1,h=>by simp only [gLE];rw [mT fun k hk=>h k (by omega),h j (by omega)]
theorem u7 {f:Nat→UInt8} {j:Nat}:∀{m:Nat},(∀k,j≤k→k<j+m→f k=0)→gLE f (j+m)=gLE f j
 | 0,_=>rfl
 | m+1,h=>by
  show gLE f (j+m) ||| c9 (f (j+m)).toUInt64 (8*(j+m))=gLE f j
  rw [u7 fun k hk hk'=>h k hk (by omega),h (j+m) (by omega) (by omega)]
  show gLE f j ||| c9 0 _=_
  rw [u6,UInt64.or_zero]
theorem Ce (n:Nat):c9 (UInt8.ofNat n).toUInt64 56=c9 (UInt64.ofNat n) 56:=by
 unfold c9
 apply UInt64.toNat_inj.1
 simp only [UInt64.toNat_ofNat',UInt8.toNat_toUInt64,UInt8.toNat_ofNat']
 omega
theorem Cf (bs:List UInt8) (t:Nat) (h:t<bs.length/8):mS bs (8*t) 8=mB ((bs.drop (8*t)).take 8) 8:=by
 rw [wX,Cd,wY]
 refine mT fun k hk=>?_
 simp only [mR,if_pos (show 8*t+k<bs.length by omega)]
 simp only [List.getD_eq_getElem?_getD,List.getElem?_take,if_pos hk,List.getElem?_drop]
theorem Cg (bs:List UInt8):mS bs (8*(bs.length/8)) 8=ej bs:=by
 rw [wX,Cd]
 unfold ej
 generalize hr:bs.length-8*(bs.length/8)=r
 have h7:gLE (mR bs (8*(bs.length/8))) 8=gLE (mR bs (8*(bs.length/8))) 7 ||| c9 (UInt64.ofNat bs.length) 56:=by
  show _ ||| c9 (mR bs (8*(bs.length/8)) 7).toUInt64 56=_
  rw [← Ce]
  simp only [mR,if_neg (show ¬ 8*(bs.length/8)+7<bs.length by omega),if_true]
 rw [h7]
 congr 1
 obtain⟨m,hm⟩:∃m,7=r+m:=⟨7-r,by omega⟩
 rw [hm,u7,wY]
 ·refine mT fun k hk=>?_
  simp only [mR,if_pos (show 8*(bs.length/8)+k<bs.length by omega)]
  simp only [List.getD_eq_getElem?_getD,List.getElem?_drop]
 ·intro k hk hk'
  simp only [mR,if_neg (show ¬ 8*(bs.length/8)+k<bs.length by omega),if_neg (show ¬k=7 by omega)]
theorem u9 (bs:List UInt8) (v:V4):∀t,t≤bs.length/8→pF bs v t=wI bs v t
 | 0,_=>rfl
 | t+1,h=>by simp only [pF,wI];rw [u9 bs v t (by omega),Cf bs t (by omega)]
theorem Ch (k0 k1:UInt64) (bs:List UInt8):BF (pF bs (kr k0 k1) (bs.length/8+1))=cm k0 k1 bs:=by
 unfold cm
 simp only [pF]
 rw [u9 bs _ _ (Nat.le_refl _),Cg]
theorem Ci (k0 k1:UInt64) (bs:List UInt8) (n:Nat) (hn:bs.length=n) (hb:n<1000000000):FPure Tryz.prog 167 [.w k0,.w k1,.p (.data 1 n (bs.map bt))] (.w (cm k0 k1 bs)):=by
 have:=HL k0 k1 bs n hn hb
 subst hn
 rwa [Ch] at this
theorem nZ (d:Int) (bs:List UInt8) (n:Nat) (hn:bs.length=n) (hb:n<1000000000) (h0:0≤d) (h1:d<1000):FPure Tryz.prog 116 [.i d,.p (.data 1 n (bs.map bt))] (.w (cm (UInt64.ofNat d.toNat) 0 bs)):=by
 refine en Tryz.func116 Tryz.ntmps116 Tryz.results116 [0,1,4] ?_;intro c hP h0 hE kK
 have e:IntKind.u64.wrap d=((UInt64.ofNat d.toNat).toNat:Int):=by rw [ak (by omega) (by omega),←gT _ (by omega)];omega
 simp only [go_sem,hP,e]
 refine aa kK (by exact Ci (UInt64.ofNat d.toNat) 0 bs n hn hb) ?_
 simp only [go_sem,hP]
theorem pG (k:UInt64) (d:Int) (bs:List UInt8) (n:Nat) (hn:bs.length=n) (hb:n<1000000000) (h0:0≤d) (h1:d<1000):FPure Tryz.prog 113 [.w k,.i d,.p (.data 1 n (bs.map bt))] (.w (cm k (UInt64.ofNat (d.toNat+1)) bs)):=by
 refine en Tryz.func113 Tryz.ntmps113 Tryz.results113 [0,1,2,6] ?_;intro c hP h0 hE kK
 have e:IntKind.u64.wrap d=d:=by rw [ak (by omega) (by omega)]
 have e1:IntKind.u64.wrap (1+d)=((UInt64.ofNat (d.toNat+1)).toNat:Int):=by rw [ak (by omega) (by omega),←gT _ (by omega)];omega
 simp only [go_sem,hP,e,e1]
 refine aa kK (by exact Ci k (UInt64.ofNat (d.toNat+1)) bs n hn hb) ?_
 simp only [go_sem,hP]
def av (bs:List UInt8):Nat→UInt64
 | 0=>0
 | k+1=>c9 (av bs k) 8 ||| (bs.getD k 0).toUInt64
theorem yl (bs:List UInt8) (n:Nat) (hn:bs.length=n) (hb:8≤n) (hb2:n<1000000000):FPure Tryz.prog 53 [.p (.data 1 n (bs.map bt))] (.w (av bs 8)):=by
 refine en Tryz.func53 Tryz.ntmps53 Tryz.results53 [0,2,3,4,12] ?_;intro c hP h0 hE kK
 simp only [go_sem,hP]
 refine ay hE h0 [0,2,3,4,12] 8 (fun i=>⟨24,[(0,.p (.data 1 n (bs.map bt))),(3,.w (av bs i)),(4,.i i)],[],0⟩) [] (fun i=>i) ?_ ?_
 ·refine⟨rfl,?_,trivial,rfl,rfl,trivial,fun i h=>h⟩
  simp only [go_sem,av]
  try simp
 ·intro i hi
  generalize hm:av bs i=m
  simp only [go_sem,hP,cY,i4 m 8 (by decide),iv,dU,lq,iw]
  split
  ·(try go_unwrap)
   split
   ·refine⟨⟨by omega,by omega⟩,by omega,by omega,dp rfl ?_ trivial rfl rfl (Nat.le_refl _)⟩
    simp only [go_sem,av,hm]
    omega
   ·omega
  ·obtain rfl:i=8:=by omega
   subst hm
   rfl
set_option maxHeartbeats 1000000 in
theorem pH (ws:List UInt64) (n:Nat) (hn:ws.length=n) (hb:n<1000000):FPure Tryz.prog 51 [.p (.data 1 n (ws.map wd))] (.p (.data 1 (8*n) ((az ws n).map bt))):=by
 refine en Tryz.func51 Tryz.ntmps51 Tryz.results51 [0,2,3,4,5,9,13] ?_;intro c hP h0 hE kK
 simp only [go_sem,hP]
 refine bE a7 ?_
 refine ay hE h0 [0,2,3,4,5,9,13] n (fun i=>⟨29,[(0,.p (.data 1 n (ws.map wd))),(3,.sl 0 0 (8*i) 1),(4,.i i)],[(0,some ⟨a7,cb (az ws i)⟩)],1⟩) [] (fun i=>i) ?_ ?_
 ·refine⟨rfl,?_,?_,rfl,rfl,trivial,fun i h=>h⟩
  ·simp only [go_sem]
   try simp
  ·simp only [go_sem,az,qw]
 ·intro i hi
  simp only [go_sem,hP]
  split
  ·refine ay hE h0 [0,2,3,4,5,9,13] 8 (fun j=>⟨29,[(0,.p (.data 1 n (ws.map wd))),(3,.sl 0 0 (8*i+j) 1),(4,.i i),(5,.i (7-(j:Int)))],[(0,some ⟨a7,cb (az ws i++cr (ws.getD i 0) j)⟩)],1⟩) [] (fun i=>i) ?_ ?_
   ·refine⟨rfl,?_,?_,rfl,rfl,trivial,fun i h=>h⟩
    ·simp only [go_sem]
     try simp
    ·simp only [go_sem,cr,List.append_nil]
     exact aj _ _ _ _
   ·intro j hj
    have e8:j<8→IntKind.u64.wrap (8*(7-(j:Int)))=((56-8*j:Nat):Int):=fun _=>by rw [ak (by omega) (by omega)];omega
    have e9:j<8→IntKind.i64.wrap (8*(7-(j:Int)))=8*(7-(j:Int)):=fun _=>by rw [ab (by omega) (by omega)]
    by_cases hj8:j<8
    ·simp only [go_sem,hP,e9 hj8,e8 hj8,mg (ws.getD i 0) ((56-8*j:Nat):Int) (by omega),aD,eh]
     split
     ·(try go_unwrap)
      refine⟨⟨by omega,by omega⟩,by omega,by omega,⟨by simp only [aG,au],by omega,by omega⟩,hj8,aZ [2] rfl ?_ ?_ rfl rfl (Nat.le_refl _)⟩
      ·simp only [go_sem,Nat.add_assoc]
       omega
      ·simp only [go_sem,cr,List.append_assoc]
       exact aj _ _ _ _
     ·omega
    ·obtain rfl:j=8:=by omega
     simp only [go_sem,hP]
     split
     ·omega
     ·(try go_unwrap)
      refine⟨by omega,dp rfl ?_ ?_ rfl rfl (Nat.le_refl _)⟩
      ·simp only [go_sem,Nat.mul_add,Nat.mul_one]
       omega
      ·simp only [go_sem,az]
       exact aj _ _ _ _
  ·obtain rfl:i=n:=by omega
   simp only [aG,List.take_of_length_le (Nat.le_of_eq (aG ws i)),Nat.le_refl,and_self]
end Go.Proofs.YtebndjnkmcahaaaGreatDoor
end
section
namespace Go.Proofs.YtebndjnkmcahaaaGreatDoor
set_option linter.unusedSimpArgs false
set_option linter.unusedVariables false
open Go Go.Abs Go.RowKit
theorem EQ (cs:List PV) (n:Nat) (hn:cs.length=n) (h1:n≠0) (hb:n<1000000000):Con Tryz.prog 24 [.p (.data 1 n cs)] [] (.sl 0 0 n 1) [(0,some ⟨a7,cs.map .p⟩)]:=by
 refine ec 0 Tryz.func24 Tryz.ntmps24 Tryz.results24 [0,2,4] ?_;intro c hP h0' hE kK;have h0:∀i,c.ρ0 i≠none→False:=fun i hi=>by cases h0' i hi
 simp only [go_sem,hP]
 refine⟨h1,⟨by omega,by omega⟩,lF [1] rfl ?_ ?_ rfl rfl (fun i hi=>?_)⟩
 ·simp only [go_sem]
 ·simp only [go_sem]
  exact aW _ _ _ _
 ·simp [liveK] at hi;simp;omega
theorem ER (bs:List UInt8) (n:Nat) (hn:bs.length=n) (h1:n≠0) (hb:n<1000000000):Con Tryz.prog 24 [.p (.data 1 n (bs.map bt))] [] (.sl 0 0 n 1) [(0,some ⟨a7,cb bs⟩)] :=
 EQ (bs.map bt) n (by simpa using hn) h1 hb
theorem fZ (l:List UInt8):(⟨l.toArray⟩:ByteArray).toList=l:=by
 rw [ByteArray.toList_eq]
theorem n0 (xs ys:List UInt8) (m n:Nat):FPure Tryz.prog 158 [.p (.data 1 m (xs.map bt)),.p (.data 1 n (ys.map bt))] (.b (xs==ys)):=by
 refine en Tryz.func158 Tryz.ntmps158 Tryz.results158 [0,1,4] ?_;intro c hP h0 hE kK
 simp only [go_sem,hP,dI,strOf,dc,fZ]
theorem Cj (m:Nat) (hm:m<1000000000):Con Tryz.prog 230 [.p (.v (.slice none 0 0)),.i m] [] (.sl 0 0 0 1) [(0,some ⟨a7,[]⟩)]:=by
 refine ec 0 Tryz.func230 Tryz.ntmps230 Tryz.results230 [0,1,4,6,16] ?_;intro c hP h0' hE kK;have h0:∀i,c.ρ0 i≠none→False:=fun i hi=>by cases h0' i hi
 have e1:IntKind.i64.wrap (0-0)=0:=rfl
 have e2:IntKind.i64.wrap ((m:Int)-0)=m:=by rw [ab (by omega) (by omega)];omega
 simp only [go_sem,hP,e1,e2]
 split
 ·omega
 ·split
  ·refine⟨⟨by omega,by omega,by omega⟩,by omega,lF [0] rfl ?_ ?_ rfl rfl (fun i hi=>?_)⟩
   ·simp only [go_sem]
   ·simp only [go_sem]
   ·simp [liveK] at hi;simp;omega
  ·refine Bx a7 [0] rfl ?_ ?_ rfl rfl (fun i hi=>?_)
   ·simp only [go_sem,kp]
   ·simp only [go_sem,kp]
   ·simp [liveK] at hi;simp;omega
def byP (b:List UInt8):PV := .data 1 b.length (b.map bt)
def byL (l:List (List UInt8)):List AV:=l.map fun b => .p (byP b)
theorem ES (l:List (List UInt8)):(byL l).length=l.length:=by simp [byL]
theorem va (l:List (List UInt8)) (b:List UInt8):byL l++[.p (.data 1 b.length (b.map bt))]=byL (l++[b]):=by simp [byL,byP]
theorem fA (h:ba) (S:List Nat) (σ:Nat→Nat) (l:List (List UInt8)):ai h S σ (byL l) (byL l):=by
 have:byL l=(l.map byP).map .p:=by simp [byL]
 rw [this];exact aW h S σ _
theorem pI (l:List (List UInt8)):jc (byL l):=by
 intro c hc
 obtain⟨x,_,rfl⟩:=List.mem_map.1 hc
 trivial
theorem n4 (l:List (List UInt8)):byL l=(l.map byP).map .p:=by simp [byL]
theorem Ck (l:List (List UInt8)):i5 (byL l):=by rw [n4];exact bI _
theorem Cl (l:List (List UInt8)):i6 (byL l)=l.map byP:=by rw [n4,bY]
theorem cz (T:List Nat) (l:List (List UInt8)):an T (byL l):=by rw [n4];exact a8 T _
theorem Cm (τ:Nat→Nat) (l:List (List UInt8)):eG τ (byL l)=byL l:=by rw [n4];exact eM τ _
theorem Cn (l:List (List UInt8)) (n:Nat):(byL l).take n=byL (l.take n):=by simp [byL]
theorem Co (id:Nat) (b:Blk) (l:List (List UInt8)):hJ id b (byL l)=byL l:=iz id b _ (pI l)
theorem zS (id:Nat) (b:Blk) (l:List (List UInt8)):gh id b (byL l):=fm id b _ (pI l)
theorem Cp (l:List (List UInt8)) (i:Nat):aS (.data 1 0 []) ((byL l).drop i) = .p (byP (l.getD i [])):=by
 induction l generalizing i with
 | nil=>simp [aS,byP,byL]
 | cons b r ih=>cases i with
  | zero=>simp [aS,byL]
  | succ i=>simpa [byL] using ih i
theorem ET (l:List (List UInt8)) (i:Nat) (b:List UInt8):(byL l).set i (.p (.data 1 b.length (b.map bt)))=byL (l.set i b):=by simp [byL,byP,List.map_set]
attribute [go_sem] Cp Co zS ES va pI Ck Cl Cn Cm
def kY (l:List (List UInt8)) (i:Nat):List UInt8:=(l.take i).flatten
theorem dq (l:List (List UInt8)) (i:Nat):eV (.data 1 0 []) ((l.map byP).drop i)=byP (l.getD i []):=by
 induction l generalizing i with
 | nil=>simp [eV,byP]
 | cons b r ih=>cases i with
  | zero=>simp [eV]
  | succ i=>simpa using ih i
theorem ro (l:List (List UInt8)) (i:Nat) (h:i<l.length):kY l (i+1)=kY l i++l.getD i []:=by
 unfold kY
 rw [List.take_succ_eq_append_getElem h,List.flatten_append]
 simp [List.getD_eq_getElem?_getD,h]
theorem j5 (l:List (List UInt8)) (i:Nat):(kY l i).length≤l.flatten.length:=by
 unfold kY
 conv=>rhs;rw [← List.take_append_drop i l]
 simp only [List.flatten_append,List.length_append];omega
set_option maxHeartbeats 1000000 in
theorem Cq (l:List (List UInt8)) (n:Nat) (hn:l.length=n) (hb:l.flatten.length<1000000000) (hb':n<1000000000):FPure Tryz.prog 202 [.p (.data 1 n (l.map byP))] (.p (.data 1 l.flatten.length (l.flatten.map bt))):=by
 refine en Tryz.func202 Tryz.ntmps202 Tryz.results202 [0,2,3,5,6,8,9,10,11,12,20,25,26,27,28] ?_;intro c hP h0 hE kK
 simp only [go_sem,hP]
 have hlast:kY l n=l.flatten:=by unfold kY;rw [List.take_of_length_le (by omega)]
 refine ay hE h0 [0,2,3,5,6,8,9,10,11,12,20,25,26,27,28] n (fun i=>⟨36,[(0,.p (.data 1 n (l.map byP))),(3,.i ((kY l i).length:Int)),(9,.p (.data 1 n (l.map byP))),(10,.i n),(11,.i i)],[],0⟩) [] (fun i=>i) ?_ ?_
 ·refine⟨rfl,?_,trivial,rfl,rfl,trivial,fun i h=>h⟩
  simp only [go_sem]
  simp [kY]
 ·intro i hi
  simp only [go_sem,hP,dq,byP]
  split
  ·have hs:=ro l i (by omega)
   have hm:=j5 l (i+1)
   rw [hs,List.length_append] at hm
   (try go_unwrap)
   refine⟨⟨by omega,by omega⟩,by omega,?_⟩
   rw [if_neg (by omega)]
   refine⟨by omega,dp rfl ?_ trivial rfl rfl (Nat.le_refl _)⟩
   simp only [go_sem,hs,byP]
   omega
  ·obtain rfl:i=n:=by omega
   first|refine o4 hE (ks:=[0,2,3,5,6,8,9,10,11,12,20,25,26,27,28]) (n:=2000) 1 (by rw [hP];exact Cj (kY l i).length (by have:=j5 l i;omega)) rfl rfl (by simp [ax,an,keys]) (by simp only [bS,an,a8,cc,cz,and_self]) ?_|refine o5 hE (ks:=[0,2,3,5,6,8,9,10,11,12,20,25,26,27,28]) (n:=2000) 1 (by rw [hP];exact Cj (kY l i).length (by have:=j5 l i;omega)) rfl rfl (by simp [ax,an,keys]) (by simp only [bS,an,a8,cc,cz,and_self]) ?_
   simp only [go_sem,hP]
   refine ay hE h0 [0,2,3,5,6,8,9,10,11,12,20,25,26,27,28] i (fun j=>⟨36,[(6,.sl 0 0 (kY l j).length 1),(25,.p (.data 1 i (l.map byP))),(26,.i i),(27,.i j)],[(0,some ⟨a7,cb (kY l j)⟩)],1⟩) [] (fun i=>i) ?_ ?_
   ·refine⟨rfl,?_,?_,rfl,rfl,trivial,fun i h=>h⟩
    ·simp only [go_sem]
     simp [kY]
    ·simp only [go_sem]
     simp [kY,cb,ai]
   ·intro j hj
    simp only [go_sem,hP,dq,byP,cI,dA]
    split
    ·have hs:=ro l j (by omega)
     have hm:=j5 l (j+1)
     rw [hs,List.length_append] at hm
     (try go_unwrap)
     refine⟨⟨by omega,by omega⟩,by omega,⟨by omega,by omega⟩,by omega,aZ [1] rfl ?_ ?_ rfl rfl (Nat.le_refl _)⟩
     ·simp only [go_sem,hs,byP]
      omega
     ·simp only [go_sem,hs]
      exact aj _ _ _ _
    ·obtain rfl:j=i:=by omega
     simp only [hlast]
     exact⟨Nat.le_refl _,trivial,by rw [List.take_of_length_le (Nat.le_refl _)]⟩
end Go.Proofs.YtebndjnkmcahaaaGreatDoor
end

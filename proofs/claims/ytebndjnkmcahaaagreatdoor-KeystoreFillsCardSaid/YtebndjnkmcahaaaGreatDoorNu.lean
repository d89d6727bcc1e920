/- joined of several texts; own work; no statement of the seat is proved but in the last -/
import Derived.Test.YtebndjnkmcahaaaGreatDoorNs
section
namespace Go.Proofs.YtebndjnkmcahaaaGreatDoor
set_option linter.unusedSimpArgs false
set_option linter.unusedVariables false
open Go Go.Abs Go.RowKit
def mkN (k n:UInt64) (i:Nat):UInt64:=cm k 6 (az [n,UInt64.ofNat i] 2)
def fS (k n:UInt64):Nat→List UInt8
 | 0=>[]
 | i+1=>fS k n i++az [mkN k n i] 1
theorem il (k n:UInt64) (i:Nat):(fS k n i).length=8*i:=by
 induction i with
 | zero=>rfl
 | succ i ih=>simp [fS,ih,aG];omega
set_option maxHeartbeats 1000000 in
theorem rA (k n:UInt64) (r:Nat) (h1:1≤r) (h9:r≤128) (z:Int) (hz:z=((8*r:Nat):Int)):FPure Tryz.prog 47 [.w k,.w n,.i z] (.p (.data 1 (8*r) ((fS k n r).map bt))):=by
 subst hz
 refine en Tryz.func47 Tryz.ntmps47 Tryz.results47 [0,1,2,6,7,8,15] ?_;intro c hP h0 hE kK
 simp only [go_sem,hP,show ¬(((8*r:Nat):Int)<0) from by omega,show ¬(((8*r:Nat):Int)≤0) from by omega,show (((8*r:Nat):Int)≤1024) from by omega,show ¬((1024:Int)<((8*r:Nat):Int)) from by omega]
 refine bE a7 ?_
 refine ay hE h0 [0,1,2,6,7,8,15] r (fun i=>⟨32,[(0,.w k),(1,.w n),(2,.i ((8*r:Nat):Int)),(7,.sl 0 0 (8*i) 1),(8,.i i)],[(0,some ⟨a7,cb (fS k n i)⟩)],1⟩) [] (fun i=>i) ?_ ?_
 ·refine⟨rfl,?_,?_,rfl,rfl,trivial,fun i h=>h⟩
  ·simp only [go_sem]
  ·simp only [go_sem,fS]
   exact (show ai _ _ _ [] [] from by simp [ai])
 intro i hi
 rcases Nat.lt_or_ge i r with hir|hir
 ·have hw:IntKind.i64.wrap ((i:Int)+1)=((i+1:Nat):Int):=by rw [ab (by omega) (by omega)];omega
  have hu:IntKind.u64.wrap (i:Int)=((UInt64.ofNat i).toNat:Int):=by rw [ak (by omega) (by omega),UInt64.toNat_ofNat',Nat.mod_eq_of_lt (by omega)]
  have hsl:=il k n i
  have hs:fS k n (i+1)=fS k n i++az [mkN k n i] 1:=rfl
  rw [hs]
  generalize fS k n i=b at *
  simp only [go_sem,hP,hw,hu,show (((8*i:Nat):Int)<((8*r:Nat):Int)) from by omega]
  refine x_f kK (pH [n,UInt64.ofNat i] 2 rfl (by decide)) ?_
  simp only [go_sem,hP]
  refine aa kK (by exact pG k 5 (az [n,UInt64.ofNat i] 2) 16 (aG _ 2) (by decide) (by decide) (by decide)) ?_
  rw [show cm k (UInt64.ofNat ((5:Int).toNat+1)) (az [n,UInt64.ofNat i] 2)=mkN k n i from rfl]
  generalize mkN k n i=y at *
  simp only [go_sem,hP]
  refine x_f kK (di y) ?_
  simp only [go_sem,hP,hw]
  refine⟨⟨by omega,by omega⟩,hir,aZ [3] rfl ?_ ?_ rfl rfl (Nat.le_of_ble_eq_true rfl)⟩
  ·simp only [go_sem,show 8*(i+1)=8*i+8 from by omega]
  ·simp only [go_sem,cI,dA]
   exact aj _ _ _ _
 obtain rfl:i=r:=by omega
 simp only [go_sem,hP,show ¬(((8*i:Nat):Int)<((8*i:Nat):Int)) from by omega]
 have hsl:=il k n i
 exact⟨⟨by omega,by omega⟩,by omega,by rw [List.take_of_length_le (by omega)]⟩
set_option maxHeartbeats 1000000 in
theorem CS (k n:UInt64) (r:Nat) (h1:1≤r) (h9:r≤128) (z:Int) (hz:z=((8*r:Nat):Int)):FPure Tryz.prog 177 [.w k,.w n,.i z] (.p (.data 1 (8*r) ((fS k n r).map bt))):=by
 subst hz
 refine en Tryz.func177 Tryz.ntmps177 Tryz.results177 [0,1,2,6,7,8,9,19] ?_;intro c hP h0 hE kK
 have hw8:IntKind.i64.wrap (((8*r:Nat):Int)+8)=((8*r+8:Nat):Int):=by rw [ab (by omega) (by omega)];omega
 simp only [go_sem,hP,hw8,show ¬(((8*r:Nat):Int)<0) from by omega,show ¬(((8*r:Nat):Int)≤0) from by omega,show (((8*r:Nat):Int)≤1024) from by omega,show ¬((1024:Int)<((8*r:Nat):Int)) from by omega]
 refine⟨⟨by omega,by omega,by omega⟩,?_⟩
 refine ay hE h0 [0,1,2,6,7,8,9,19] r (fun i=>⟨36,[(0,.w k),(1,.w n),(2,.i ((8*r:Nat):Int)),(7,.sl 0 0 (8*i) 1),(8,.p (.v (.int .u64 i)))],[(0,some ⟨a7,cb (fS k n i)⟩)],1⟩) [] (fun i=>i) ?_ ?_
 ·refine⟨rfl,?_,?_,rfl,rfl,trivial,fun i h=>h⟩
  ·simp only [go_sem]
  ·simp only [go_sem,fS]
   exact (show ai _ _ _ [] [] from by simp [ai])
 intro i hi
 rcases Nat.lt_or_ge i r with hir|hir
 ·have hw:IntKind.u64.wrap ((i:Int)+1)=((i+1:Nat):Int):=by rw [ak (by omega) (by omega)];omega
  have hu:(i:Int)=((UInt64.ofNat i).toNat:Int):=by rw [UInt64.toNat_ofNat',Nat.mod_eq_of_lt (by omega)]
  have hsl:=il k n i
  have hs:fS k n (i+1)=fS k n i++az [mkN k n i] 1:=rfl
  have hwc:=sH [n,UInt64.ofNat i] 2 rfl (by decide)
  rw [show [n,UInt64.ofNat i].map wd=[wd n,.v (.int .u64 (i:Int))] from by rw [hu];rfl] at hwc
  rw [hs]
  generalize fS k n i=b at *
  simp only [go_sem,hP,show (((8*i:Nat):Int)<((8*r:Nat):Int)) from by omega]
  refine x_f kK (hwc) ?_
  simp only [go_sem,hP]
  refine aa kK (by exact xW k 5 (az [n,UInt64.ofNat i] 2) 16 (aG _ 2) (by decide) (by decide) (by decide)) ?_
  rw [show cm k (UInt64.ofNat ((5:Int).toNat+1)) (az [n,UInt64.ofNat i] 2)=mkN k n i from rfl]
  generalize mkN k n i=y at *
  simp only [go_sem,hP]
  refine x_f kK (jJ y) ?_
  simp only [go_sem,hP,hw]
  refine⟨⟨by omega,by omega⟩,hir,aZ [3] rfl ?_ ?_ rfl rfl (Nat.le_of_ble_eq_true rfl)⟩
  ·simp only [go_sem,show 8*(i+1)=8*i+8 from by omega]
  ·simp only [go_sem,cI,dA]
   exact aj _ _ _ _
 obtain rfl:i=r:=by omega
 simp only [go_sem,hP,show ¬(((8*i:Nat):Int)<((8*i:Nat):Int)) from by omega]
 have hsl:=il k n i
 exact⟨⟨by omega,by omega⟩,by omega,by rw [List.take_of_length_le (by omega)]⟩
theorem Io (x y:UInt8):ko .u8 (x.toNat:Int) (y.toNat:Int)=((x ^^^ y).toNat:Int):=by
 have e:∀z:UInt8,BitVec.ofInt 8 (z.toNat:Int)=z.toBitVec:=fun z=>by
  apply BitVec.eq_of_toNat_eq
  rw [BitVec.toNat_ofInt]
  have:=z.toNat_lt
  simp
  omega
 show IntKind.u8.wrap (((BitVec.ofInt 8 (x.toNat:Int)) ^^^ (BitVec.ofInt 8 (y.toNat:Int))).toNat:Int)=_
 rw [e,e]
 have h:∀z:UInt8,IntKind.u8.wrap (z.toNat:Int)=z.toNat:=fun z=>by have:=pK z 0 (by decide);simpa using this
 exact h (x ^^^ y)
def nN (a b:List UInt8):Nat→List UInt8
 | 0=>[]
 | i+1=>nN a b i++[a.getD i 0 ^^^ b.getD i 0]
theorem lU (a b:List UInt8) (i:Nat):(nN a b i).length=i:=by
 induction i with
 | zero=>rfl
 | succ i ih=>simp [nN,ih]
set_option maxHeartbeats 1000000 in
theorem Ip (k n:UInt64) (r:Nat) (h1:1≤r) (h9:r≤128) (l:List UInt8) (m:Nat) (hl:l.length=m) (hm:m=8*r):FPure Tryz.prog 114 [.w k,.w n,.p (.data 1 m (l.map bt))] (.p (.data 1 m ((nN l (fS k n r) m).map bt))):=by
 refine en Tryz.func114 Tryz.ntmps114 Tryz.results114 [0,1,2,6,7,8,9,18] ?_;intro c hP h0 hE kK
 have hst:=rA k n r h1 h9 m (by rw [hm])
 rw [← hm] at hst
 have hsl:=il k n r
 generalize fS k n r=S at *
 simp only [go_sem,hP]
 refine aa kK (by exact hst) ?_
 simp only [go_sem,hP]
 refine bE a7 ?_
 refine ay hE h0 [0,1,2,6,7,8,9,18] m (fun i=>⟨34,[(2,.p (.data 1 m (l.map bt))),(7,.p (.data 1 m (S.map bt))),(8,.sl 0 0 i 1),(9,.i i)],[(0,some ⟨a7,cb (nN l S i)⟩)],1⟩) [] (fun i=>i) ?_ ?_
 ·refine⟨rfl,?_,?_,rfl,rfl,trivial,fun i h=>h⟩
  ·simp only [go_sem]
  ·simp only [go_sem,nN]
   exact (show ai _ _ _ [] [] from by simp [ai])
 intro i hi
 rcases Nat.lt_or_ge i m with hir|hir
 ·have hw:IntKind.i64.wrap ((i:Int)+1)=((i+1:Nat):Int):=by rw [ab (by omega) (by omega)];omega
  have hxl:=lU l S i
  have hs:nN l S (i+1)=nN l S i++[l.getD i 0 ^^^ S.getD i 0]:=rfl
  rw [hs]
  generalize nN l S i=b at *
  simp only [go_sem,hP,hw,Io,show ((i:Int)<(m:Int)) from by omega,eh]
  refine⟨by omega,by omega,by omega,by omega,⟨by omega,by omega,by omega⟩,by kernel_rfl,hir,aZ [2] rfl ?_ ?_ rfl rfl (Nat.le_of_ble_eq_true rfl)⟩
  ·simp only [go_sem]
  ·simp only [go_sem]
   exact aj _ _ _ _
 obtain rfl:i=m:=by omega
 have hxl:=lU l S i
 simp only [go_sem,hP,show ¬((i:Int)<(i:Int)) from by omega]
 exact⟨by omega,by rw [List.take_of_length_le (by omega)]⟩
end Go.Proofs.YtebndjnkmcahaaaGreatDoor
end
section
namespace Go.Proofs.YtebndjnkmcahaaaGreatDoor
set_option linter.unusedSimpArgs false
set_option linter.unusedVariables false
open Go Go.Abs Go.RowKit
def CT (k n:UInt64) (bd hd:List UInt8):UInt64:=cm k 7 (az [n,UInt64.ofNat bd.length] 2++bd++hd)
theorem Iq (k n:UInt64) (bd hd:List UInt8) (lb lh:Nat) (hb:bd.length=lb) (hh:hd.length=lh) (h1:lb<10000) (h2:lh<10000) :
 FPure Tryz.prog 115 [.w k,.w n,.p (.data 1 lb (bd.map bt)),.p (.data 1 lh (hd.map bt))] (.w (CT k n bd hd)):=by
 refine en Tryz.func115 Tryz.ntmps115 Tryz.results115 [0,1,2,3,8,9] ?_;intro c hP h0 hE kK
 have hu:IntKind.u64.wrap (lb:Int)=((UInt64.ofNat lb).toNat:Int):=by rw [ak (by omega) (by omega),UInt64.toNat_ofNat',Nat.mod_eq_of_lt (by omega)]
 have hm:=pG k 6 (az [n,UInt64.ofNat lb] 2++bd++hd) (16+lb+lh) (by simp [aG];omega) (by omega) (by decide) (by decide)
 have ht:cm k (UInt64.ofNat ((6:Int).toNat+1)) (az [n,UInt64.ofNat lb] 2++bd++hd)=CT k n bd hd:=by rw [← hb];rfl
 rw [ht] at hm
 generalize CT k n bd hd=y at *
 simp only [go_sem,hP,hu]
 first|refine jZ hE (ks:=[0,1,2,3,8,9]) (n:=2000) 1 (by simp only [go_sem];rfl) (by simp only [go_sem]) rfl (by rw [hP];exact ip [n,UInt64.ofNat lb] 2 rfl (by decide) (by decide)) rfl rfl (by simp [ax,an,keys]) (by simp only [bS,an,a8,cc,cz,and_self]) ?_|refine j0 hE (ks:=[0,1,2,3,8,9]) (n:=2000) 1 (by simp only [go_sem];rfl) (by simp only [go_sem]) rfl (by rw [hP];exact ip [n,UInt64.ofNat lb] 2 rfl (by decide) (by decide)) rfl rfl (by simp [ax,an,keys]) (by simp only [bS,an,a8,cc,cz,and_self]) rfl ?_
 simp only [go_sem,hP]
 simp only [cI,dA]
 have hwl:(az [n,UInt64.ofNat lb] 2).length=16:=aG _ 2
 refine⟨⟨by omega,by omega,by omega⟩,⟨by omega,by omega,by omega⟩,?_⟩
 first|refine dO hE (ks:=[0,1,2,3,8,9]) (n:=2000) ?_ ?_ rfl (by rw [hP];exact hm) (by simp only [go_sem,ax,an,and_self]) ?_|refine dP hE (ks:=[0,1,2,3,8,9]) (n:=2000) ?_ ?_ rfl (by rw [hP];exact hm) (by simp only [go_sem,ax,an,and_self]) ?_
 ·simp only [go_sem]
  rw [List.take_of_length_le (by simp [aG];omega)]
 ·simp only [go_sem,List.length_append,hwl]
  omega
 simp only [go_sem,hP]
theorem Af (s:List UInt8) (hs:s.length<1000):FPure Tryz.prog 52 [sv s] (.w (cm 9 0 s)):=by
 refine en Tryz.func52 Tryz.ntmps52 Tryz.results52 [0,2] ?_;intro c hP h0 hE kK
 simp only [go_sem,hP]
 simp only [cI]
 first|refine dO hE (ks:=[0,2]) (n:=2000) ?_ ?_ rfl (by rw [hP];exact nZ 9 s s.length rfl (by omega) (by decide) (by decide)) (by simp only [go_sem,ax,an,and_self]) ?_|refine dP hE (ks:=[0,2]) (n:=2000) ?_ ?_ rfl (by rw [hP];exact nZ 9 s s.length rfl (by omega) (by decide) (by decide)) (by simp only [go_sem,ax,an,and_self]) ?_
 ·simp only [go_sem]
  rw [List.take_of_length_le (by simp)]
 ·simp only [go_sem,Nat.le_refl]
 simp only [go_sem,hP]
 rfl
theorem Ag (k:UInt64):FPure Tryz.prog 50 [.w k] (.w (fU k [119,114,97,112] 0)):=by
 refine en Tryz.func50 Tryz.ntmps50 Tryz.results50 [0,2] ?_;intro c hP h0 hE kK
 simp only [go_sem,hP]
 refine aa kK (by exact kg k [119,114,97,112] 0 (by decide)) ?_
 simp only [go_sem,hP]
theorem tv (b:List UInt8) (n:Nat) (hn:b.length=n) (hb:n<100000):FPure Tryz.prog 61 [.p (.data 1 n (b.map bt))] (.w (cm 10 0 b)):=by
 refine en Tryz.func61 Tryz.ntmps61 Tryz.results61 [0,2] ?_;intro c hP h0 hE kK
 simp only [go_sem,hP]
 refine aa kK (by exact nZ 10 b n hn (by omega) (by decide) (by decide)) ?_
 simp only [go_sem,hP]
 rfl
theorem xd (b:List UInt8) (n:Nat) (hn:b.length=n) (hb:n<100000):FPure Tryz.prog 56 [.p (.data 1 n (b.map bt))] (.w (cm 10 0 b)):=by
 refine en Tryz.func56 Tryz.ntmps56 Tryz.results56 [0,2] ?_;intro c hP h0 hE kK
 simp only [go_sem,hP]
 refine aa kK (by exact BG 10 b n hn (by omega) (by decide) (by decide)) ?_
 simp only [go_sem,hP]
 rfl
def idR (x:Cr):List UInt8:=fS (fU x.sd [105,100] 0) 0 22
theorem tw (x:Cr):(idR x).length=176:=il _ _ 22
theorem CU (m n:UInt64) (x:Cr) (h:CrOk x) (hr:x.rs=true):FPure Tryz.prog 16 [.w m,.w n,.agg (crC x)] (.tup [.p (.data 1 176 ((idR x).map bt)),.i 0]):=by
 refine en Tryz.func16 Tryz.ntmps16 Tryz.results16 [0,1,2,5,6,7,8,9,10,17,20] ?_;intro c hP h0 hE kK
 have he:=gp x h
 have hd:=kg x.sd [105,100] 0 (by decide)
 have hs:=rA (fU x.sd [105,100] 0) 0 22 (by decide) (by decide) 176 rfl
 rw [show fS (fU x.sd [105,100] 0) 0 22=idR x from rfl] at hs
 generalize idR x=I at *
 generalize fU x.sd [105,100] 0=D at *
 simp only [go_sem,hP]
 refine aa kK (by exact he) ?_
 simp only [go_sem,hP,hr]
 refine aa kK (by exact hd) ?_
 simp only [go_sem,hP]
 refine aa kK (by exact hs) ?_
 simp only [go_sem,hP]
theorem JW (m n:UInt64) (x:Cr) (h:CrOk x) (hr:x.rs=true):FPure Tryz.prog 126 [.w m,.w n,.agg (crC x)] (.tup [.p (.data 1 176 ((idR x).map bt)),.i 0]):=by
 refine en Tryz.func126 Tryz.ntmps126 Tryz.results126 [0,1,2,5,6,7,8,9,10,17,20] ?_;intro c hP h0 hE kK
 have he:=j8 x h
 have hd:=qb x.sd [105,100] 0 (by decide)
 have hs:=CS (fU x.sd [105,100] 0) 0 22 (by decide) (by decide) 176 rfl
 rw [show fS (fU x.sd [105,100] 0) 0 22=idR x from rfl] at hs
 generalize idR x=I at *
 generalize fU x.sd [105,100] 0=D at *
 simp only [go_sem,hP]
 refine aa kK (by exact he) ?_
 simp only [go_sem,hP,hr]
 refine aa kK (by exact hd) ?_
 simp only [go_sem,hP]
 refine aa kK (by exact hs) ?_
 simp only [go_sem,hP]
def pT (k n:UInt64) (bd tx:List UInt8) (r:Nat):List UInt8 :=
 az [n] 1++nN tx (fS k n r) (8*r)++az [CT k n bd (nN tx (fS k n r) (8*r))] 1
theorem Ah (k n:UInt64) (bd tx:List UInt8) (r:Nat):(pT k n bd tx r).length=8*r+16:=by
 simp [pT,aG,lU];omega
theorem Fk (k n:UInt64) (bd tx:List UInt8) (lb r:Nat) (hb:bd.length=lb) (h1:lb<1000) (hr1:1≤r) (h9:r≤128) (ht:tx.length=8*r) :
 FPure Tryz.prog 49 [.w k,.w n,.p (.data 1 lb (bd.map bt)),.p (.data 1 (8*r) (tx.map bt))] (.tup [.p (.data 1 (8*r+16) ((pT k n bd tx r).map bt)),.i 0]):=by
 refine en Tryz.func49 Tryz.ntmps49 Tryz.results49 [0,1,2,3,8,9,10,11,19] ?_;intro c hP h0 hE kK
 have hm:=Ip k n r hr1 h9 tx (8*r) ht rfl
 unfold pT at hE kK
 have hxl:=lU tx (fS k n r) (8*r)
 generalize nN tx (fS k n r) (8*r)=H at *
 have hg:=Iq k n bd H lb (8*r) hb hxl (by omega) (by omega)
 generalize CT k n bd H=y at *
 simp only [go_sem,hP,show ¬(((8*r:Nat):Int)>1024) from by omega,show ¬((lb:Int)>1024) from by omega]
 refine aa kK (by exact hm) ?_
 simp only [go_sem,hP]
 first|refine jZ hE (ks:=[0,1,2,3,8,9,10,11,19]) (n:=2000) 1 (by simp only [go_sem];rfl) (by simp only [go_sem]) rfl (by rw [hP];exact ip [n] 1 rfl (by decide) (by decide)) rfl rfl (by simp [ax,an,keys]) (by simp only [bS,an,a8,cc,cz,and_self]) ?_|refine j0 hE (ks:=[0,1,2,3,8,9,10,11,19]) (n:=2000) 1 (by simp only [go_sem];rfl) (by simp only [go_sem]) rfl (by rw [hP];exact ip [n] 1 rfl (by decide) (by decide)) rfl rfl (by simp [ax,an,keys]) (by simp only [bS,an,a8,cc,cz,and_self]) rfl ?_
 simp only [go_sem,hP]
 simp only [cI,dA]
 have hwl:(az [n] 1).length=8:=aG _ 1
 refine⟨⟨by omega,by omega,by omega⟩,?_⟩
 refine aa kK (by exact hg) ?_
 simp only [go_sem,hP]
 refine x_f kK (di y) ?_
 simp only [go_sem,hP]
 simp only [cI,dA]
 have hwy:(az [y] 1).length=8:=aG _ 1
 have hl3:(cb (az [n] 1++H++az [y] 1)).length≤8+8*r+8:=by simp [cb,hwl,hwy,hxl];omega
 rw [List.take_of_length_le hl3]
 exact⟨⟨by omega,by omega,by omega⟩,⟨by omega,bI _⟩,by omega,bY _⟩
def k4 (x:Cr):List UInt8:=(dh x++List.replicate 160 0).take 160
theorem CV (E:List UInt8) (hl:E.length≤160):cA (cb (List.replicate 160 0)) 0 (List.take (min E.length 160) (cb E))=cb ((E++List.replicate 160 0).take 160):=by
 rw [Nat.min_eq_left hl,List.take_of_length_le (by simp [cb])]
 have e1:(cb E).length=E.length:=by simp [cb]
 have:=px (cb E) [] (cb (List.replicate 160 0)) (by simp [cb];exact hl)
 rw [List.nil_append,List.nil_append,List.length_nil] at this
 rw [this,e1,tO,dA,List.take_append,List.take_of_length_le hl,List.take_replicate,List.drop_replicate,Nat.min_eq_left (by omega)]
set_option maxRecDepth 100000 in
set_option maxHeartbeats 2000000 in
theorem Ir (m n:UInt64) (x:Cr) (h:CrOk x) (hr:x.rs=false) (hl:(dh x).length≤160):FPure Tryz.prog 16 [.w m,.w n,.agg (crC x)] (.tup [.p (.data 1 176 ((pT (fU m [119,114,97,112] 0) n (az [cm 9 0 x.rp] 1) (k4 x) 20).map bt)),.i 0]):=by
 refine en Tryz.func16 Tryz.ntmps16 Tryz.results16 [0,1,2,5,6,7,8,9,10,17,20] ?_;intro c hP h0 hE kK
 have he:=gp x h
 have hd:=Ag m
 have hrp:=Af x.rp (by have:=h.rp2;omega)
 have hwl:(az [cm 9 0 x.rp] 1).length=8:=aG _ 1
 have hpl:(k4 x).length=160:=by simp [k4]
 have hs:=Fk (fU m [119,114,97,112] 0) n (az [cm 9 0 x.rp] 1) (k4 x) 8 20 hwl (by decide) (by decide) (by decide) hpl
 generalize pT (fU m [119,114,97,112] 0) n (az [cm 9 0 x.rp] 1) (k4 x) 20=R at *
 generalize fU m [119,114,97,112] 0=D at *
 generalize cm 9 0 x.rp=W at *
 simp only [go_sem,hP]
 refine aa kK (by exact he) ?_
 simp only [go_sem,hP,hr]
 generalize hZ:cA _ 0 _=Z
 have hZ:Z=cb (k4 x):=hZ.symm.trans (CV (dh x) hl)
 subst hZ
 refine⟨by decide,by omega,?_⟩
 refine aa kK (by exact hd) ?_
 simp only [go_sem,hP]
 refine aa kK (by exact hrp) ?_
 simp only [go_sem,hP]
 refine x_f kK (di W) ?_
 simp only [go_sem,hP]
 first|refine dO hE (ks:=[0,1,2,5,6,7,8,9,10,17,20]) (n:=2000) ?_ ?_ rfl (by rw [hP];exact hs) (by simp only [go_sem,ax,an,and_self]) ?_|refine dP hE (ks:=[0,1,2,5,6,7,8,9,10,17,20]) (n:=2000) ?_ ?_ rfl (by rw [hP];exact hs) (by simp only [go_sem,ax,an,and_self]) ?_
 ·simp only [go_sem]
  rw [List.take_of_length_le (by simp [hpl])]
 ·simp only [go_sem,hpl,Nat.le_refl]
 simp only [go_sem,hP]
 kernel_rfl
end Go.Proofs.YtebndjnkmcahaaaGreatDoor
end

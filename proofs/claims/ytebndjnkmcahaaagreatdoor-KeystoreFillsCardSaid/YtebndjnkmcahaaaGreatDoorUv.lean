/- joined of several texts; own work; no statement of the seat is proved but in the last -/
import Derived.Test.YtebndjnkmcahaaaGreatDoorDev
import Derived.Test.YtebndjnkmcahaaaGreatDoorAbsU
import Derived.Test.YtebndjnkmcahaaaGreatDoorVk
import Derived.Ground.NamesProg
import Derived.Shelf.Unicode.ValidAny
section
namespace Go.Proofs.YtebndjnkmcahaaaGreatDoor
set_option linter.unusedSimpArgs false
set_option linter.unusedVariables false
open Go Go.Abs Go.RowKit
def m6 (n:Int):UInt64:=UInt64.ofNat (n % 18446744073709551616).toNat
theorem kf (n:Int):IntKind.u64.wrap n=((m6 n).toNat:Int):=by
 rw [eS,m6,←gT _ (by omega)];omega
def fU (k:UInt64) (s:List UInt8) (n:Int):UInt64:=cm k 5 (s++[0]++az [m6 n] 1)
theorem jN (x:UInt64):az [x] 1=cr x 8:=by simp [az]
theorem F9:[AV.p (.v (.int .u8 0))]=cb [0]:=rfl
theorem qb (k:UInt64) (s:List UInt8) (n:Int) (hs:s.length<1000):FPure Tryz.prog 105 [.w k,sv s,.i n] (.w (fU k s n)):=by
 refine en Tryz.func105 Tryz.ntmps105 Tryz.results105 [0,1,2,6,7] ?_;intro c hP h0 hE kK
 simp only [go_sem,hP,kf]
 simp only [cI,F9,dA]
 refine⟨⟨by omega,by omega⟩,?_⟩
 refine x_f kK (jJ (m6 n)) ?_
 simp only [go_sem,hP]
 simp only [cI,dA]
 refine⟨⟨by omega,by omega⟩,?_⟩
 first|refine dO hE (ks:=[0,1,2,6,7]) (n:=2000) ?_ ?_ rfl (by rw [hP];exact xW k 4 (s++[0]++az [m6 n] 1) (s.length+1+8) (by simp [aG]) (by omega) (by decide) (by decide)) (by simp only [go_sem,ax,an,and_self]) ?_|refine dP hE (ks:=[0,1,2,6,7]) (n:=2000) ?_ ?_ rfl (by rw [hP];exact xW k 4 (s++[0]++az [m6 n] 1) (s.length+1+8) (by simp [aG]) (by omega) (by decide) (by decide)) (by simp only [go_sem,ax,an,and_self]) ?_
 ·simp only [go_sem]
  rw [List.take_of_length_le (by simp [aG])]
 ·simp only [go_sem,aG,Nat.le_refl]
 simp only [go_sem,hP]
 rfl
theorem kg (k:UInt64) (s:List UInt8) (n:Int) (hs:s.length<1000):FPure Tryz.prog 48 [.w k,sv s,.i n] (.w (fU k s n)):=by
 refine en Tryz.func48 Tryz.ntmps48 Tryz.results48 [0,1,2,6] ?_;intro c hP h0 hE kK
 simp only [go_sem,hP,kf]
 simp only [cI,F9,dA]
 refine⟨⟨by omega,by omega⟩,?_⟩
 refine x_f kK (di (m6 n)) ?_
 simp only [go_sem,hP]
 simp only [cI,dA]
 refine⟨⟨by omega,by omega⟩,?_⟩
 first|refine dO hE (ks:=[0,1,2,6]) (n:=2000) ?_ ?_ rfl (by rw [hP];exact pG k 4 (s++[0]++az [m6 n] 1) (s.length+1+8) (by simp [aG]) (by omega) (by decide) (by decide)) (by simp only [go_sem,ax,an,and_self]) ?_|refine dP hE (ks:=[0,1,2,6]) (n:=2000) ?_ ?_ rfl (by rw [hP];exact pG k 4 (s++[0]++az [m6 n] 1) (s.length+1+8) (by simp [aG]) (by omega) (by decide) (by decide)) (by simp only [go_sem,ax,an,and_self]) ?_
 ·simp only [go_sem]
  rw [List.take_of_length_le (by simp [aG])]
 ·simp only [go_sem,aG,Nat.le_refl]
 simp only [go_sem,hP]
 rfl
theorem Dh (bs:List UInt8) (n:Nat) (hn:bs.length=n) (hb:n≤8):FPure Tryz.prog 53 [.p (.data 1 n (bs.map bt))] (.w (av bs n)):=by
 refine en Tryz.func53 Tryz.ntmps53 Tryz.results53 [0,2,3,4,12] ?_;intro c hP h0 hE kK
 simp only [go_sem,hP]
 refine ay hE h0 [0,2,3,4,12] n (fun i=>⟨24,[(0,.p (.data 1 n (bs.map bt))),(3,.w (av bs i)),(4,.i i)],[],0⟩) [] (fun i=>i) ?_ ?_
 ·refine⟨rfl,?_,trivial,rfl,rfl,trivial,fun i h=>h⟩
  simp only [go_sem,av]
  try simp
 ·intro i hi
  generalize hm:av bs i=m
  rcases Nat.lt_or_ge i n with hin|hin
  ·simp only [go_sem,hP,cY,i4 m 8 (by decide),iv,dU,lq,iw,hin,show ((i:Int)<8) from by omega,show ((i:Int)<(n:Int)) from by omega]
   have hw:IntKind.i64.wrap ((i:Int)+1)=((i+1:Nat):Int):=by rw [ab (by omega) (by omega)];omega
   refine⟨by omega,by omega,dp rfl ?_ trivial rfl rfl (Nat.le_refl _)⟩
   simp only [go_sem,av,hm,hw]
  ·obtain rfl:i=n:=by omega
   have h1:¬((i:Int)<(i:Int)):=by omega
   subst hm
   rcases Nat.lt_or_ge i 8 with h8|h8
   ·simp only [go_sem,hP,h1,show ((i:Int)<8) from by omega]
   ·simp only [go_sem,hP,h1,show ¬((i:Int)<8) from by omega]
structure c8 where
 mo:UInt64
 se:UInt64
 ps:Int
 fi:Bool
 ase:UInt64
 ah:Int
 af:Int
 ato:Int
 ce:List (List UInt8)
structure ItM where
 act:Bool
 sin:Int
 hsh:UInt64
 flg:Int
 ids:List (List UInt8)
structure ca where
 fac:c8
 v:Vt
 on:Bool
 now:Int
 boo:Int
 dr:Int
 wr:Int
 tok:Tok
 nx:ItM
def qc (f:c8):Fac:=⟨f.mo,f.se,f.ps,f.fi,f.ase,f.ah,f.af,f.ato,.d 1 f.ce.length (f.ce.map byP)⟩
def vtP (v:Vt):Vtp:=⟨v.j.ps,.d 1 v.j.bs.length (v.j.bs.map bt),v.j.page,v.j.gen,v.j.tail,v.j.torn,.d 2 v.prs.length (gC v.prs)⟩
def itP (x:ItM):Itn:=⟨x.act,x.sin,x.hsh,x.flg,.d 1 x.ids.length (x.ids.map byP)⟩
def iW (d:ca):Dvp:=⟨qc d.fac,vtP d.v,d.on,d.now,d.boo,d.dr,d.wr,d.tok,itP d.nx⟩
section
variable (d : ca) (f : c8) (v : Vt) (x : ItM)
theorem IF:(iW d).fac=qc d.fac:=rfl
theorem KQ:(iW d).v=vtP d.v:=rfl
theorem J9:(iW d).on=d.on:=rfl
theorem IG:(iW d).now=d.now:=rfl
theorem IH:(iW d).boo=d.boo:=rfl
theorem Ka:(iW d).dr=d.dr:=rfl
theorem Kb:(iW d).wr=d.wr:=rfl
theorem II:(iW d).tok=d.tok:=rfl
theorem Kc:(iW d).nx=itP d.nx:=rfl
theorem Kd:(qc f).mo=f.mo:=rfl
theorem Ke:(qc f).se=f.se:=rfl
theorem Kf:(qc f).ps=f.ps:=rfl
theorem Kg:(qc f).fi=f.fi:=rfl
theorem IJ:(qc f).ase=f.ase:=rfl
theorem Kh:(qc f).ah=f.ah:=rfl
theorem Ki:(qc f).af=f.af:=rfl
theorem IK:(qc f).ato=f.ato:=rfl
theorem Kj:(qc f).ce.pv = .data 1 f.ce.length (f.ce.map byP):=rfl
theorem Kk:(vtP v).ps=v.j.ps:=rfl
theorem Kl:(vtP v).bs.pv = .data 1 v.j.bs.length (v.j.bs.map bt):=rfl
theorem Km:(vtP v).pg=v.j.page:=rfl
theorem Kn:(vtP v).gn=v.j.gen:=rfl
theorem Ko:(vtP v).tl=v.j.tail:=rfl
theorem Kp:(vtP v).tn=v.j.torn:=rfl
theorem Kq:(vtP v).pr.pv = .data 2 v.prs.length (gC v.prs):=rfl
theorem IL:(itP x).act=x.act:=rfl
theorem IM:(itP x).sin=x.sin:=rfl
theorem IN:(itP x).hsh=x.hsh:=rfl
theorem IP:(itP x).flg=x.flg:=rfl
theorem IQ:(itP x).ids.pv = .data 1 x.ids.length (x.ids.map byP):=rfl
end
attribute [go_sem] IF KQ J9 IG IH Ka Kb II Kc Kd Ke Kf Kg IJ Kh Ki IK Kj Kk Kl Km Kn Ko Kp Kq IL IM IN IP IQ
abbrev cP (d:ca):AV := .agg (dvC (iW d))
def KR:c8:=⟨0,0,0,false,0,0,0,0,[]⟩
def it0:ItM:=⟨false,0,0,0,[]⟩
def nO:Tok:=⟨0,false,0,0,[],0⟩
def AB:ca:=⟨KR,vt0,false,0,0,0,0,nO,it0⟩
def l4 (f:c8) (now:Int) (m:Fl):ca:=⟨f,⟨⟨m.ps,m.bs,0,0,0,false⟩,[]⟩,false,now,0,0,0,nO,it0⟩
end Go.Proofs.YtebndjnkmcahaaaGreatDoor
end
section
section
namespace Go.Proofs.YtebndjnkmcahaaaGreatDoor
set_option linter.unusedSimpArgs false
set_option linter.unusedVariables false
open Go Go.Abs Go.RowKit
set_option maxHeartbeats 1000000 in
theorem ip (ws:List UInt64) (n:Nat) (hn:ws.length=n) (h1:1≤n) (hb:n<1000000):Con Tryz.prog 51 [.p (.data 1 n (ws.map wd))] [] (.sl 0 0 (8*n) 1) [(0,some ⟨a7,cb (az ws n)⟩)]:=by
 refine ec 0 Tryz.func51 Tryz.ntmps51 Tryz.results51 [0,2,3,4,5,9,13] ?_;intro c hP h0' hE kK;have h0:∀i,c.ρ0 i≠none→False:=fun i hi=>by cases h0' i hi
 simp only [go_sem,hP]
 refine bE a7 ?_
 refine ay hE h0 [0,2,3,4,5,9,13] n (fun i=>⟨29,[(0,.p (.data 1 n (ws.map wd))),(3,.sl 0 0 (8*i) 1),(4,.i i)],[(0,some ⟨a7,cb (az ws i)⟩)],1⟩) [] (fun i=>i) ?_ ?_
 ·refine⟨rfl,?_,?_,rfl,rfl,trivial,fun i h=>h⟩
  ·simp only [go_sem]
   try simp
  ·simp only [go_sem,az,qw]
 ·intro i hi
  simp only [go_sem,hP]
  split
  ·refine ay hE h0 [0,2,3,4,5,9,13] 8 (fun j=>⟨29,[(0,.p (.data 1 n (ws.map wd))),(3,.sl 0 0 (8*i+j) 1),(4,.i i),(5,.i (7-(j:Int)))],[(0,some ⟨a7,cb (az ws i++cr (ws.getD i 0) j)⟩)],1⟩) [] (fun i=>i) ?_ ?_
   ·refine⟨rfl,?_,?_,rfl,rfl,trivial,fun i h=>h⟩
    ·simp only [go_sem]
     try simp
    ·simp only [go_sem,cr,List.append_nil]
     exact aj _ _ _ _
   ·intro j hj
    have e8:j<8→IntKind.u64.wrap (8*(7-(j:Int)))=((56-8*j:Nat):Int):=fun _=>by rw [ak (by omega) (by omega)];omega
    have e9:j<8→IntKind.i64.wrap (8*(7-(j:Int)))=8*(7-(j:Int)):=fun _=>by rw [ab (by omega) (by omega)]
    by_cases hj8:j<8
    ·simp only [go_sem,hP,e9 hj8,e8 hj8,mg (ws.getD i 0) ((56-8*j:Nat):Int) (by omega),aD,eh]
     split
     ·(try go_unwrap)
      refine⟨⟨by omega,by omega⟩,by omega,by omega,⟨by simp only [aG,au],by omega,by omega⟩,hj8,aZ [2] rfl ?_ ?_ rfl rfl (Nat.le_refl _)⟩
      ·simp only [go_sem,Nat.add_assoc]
       omega
      ·simp only [go_sem,cr,List.append_assoc]
       exact aj _ _ _ _
     ·omega
    ·obtain rfl:j=8:=by omega
     simp only [go_sem,hP]
     split
     ·omega
     ·(try go_unwrap)
      refine⟨by omega,dp rfl ?_ ?_ rfl rfl (Nat.le_refl _)⟩
      ·simp only [go_sem,Nat.mul_add,Nat.mul_one]
       omega
      ·simp only [go_sem,az]
       exact aj _ _ _ _
  ·obtain rfl:i=n:=by omega
   refine lF [0] rfl ?_ ?_ rfl rfl (fun i hi=>?_)
   ·simp only [go_sem]
   ·simp only [go_sem]
    exact aj _ _ _ _
   ·simp [liveK] at hi;simp;omega
set_option maxHeartbeats 1000000 in
theorem yP (ws:List UInt64) (n:Nat) (hn:ws.length=n) (h1:1≤n) (hb:n<1000000):Con Tryz.prog 90 [.p (.data 1 n (ws.map wd))] [] (.sl 0 0 (8*n) 1) [(0,some ⟨a7,cb (az ws n)⟩)]:=by
 refine ec 0 Tryz.func90 Tryz.ntmps90 Tryz.results90 [0,2,3,5,6,11,12,13,14,17,18] ?_;intro c hP h0' hE kK;have h0:∀i,c.ρ0 i≠none→False:=fun i hi=>by cases h0' i hi
 have e8:IntKind.i64.wrap (8*(n:Int))=((8*n:Nat):Int):=by rw [ab (by omega) (by omega)];omega
 simp only [go_sem,hP,e8]
 refine⟨⟨by omega,by omega,by omega⟩,?_⟩
 refine ay hE h0 [0,2,3,5,6,11,12,13,14,17,18] n (fun i=>⟨32,[(3,.sl 0 0 (8*i) 1),(11,.p (.data 1 n (ws.map wd))),(12,.i n),(13,.i i)],[(0,some ⟨a7,cb (az ws i)⟩)],1⟩) [] (fun i=>i) ?_ ?_
 ·refine⟨rfl,?_,?_,rfl,rfl,trivial,fun i h=>h⟩
  ·simp only [go_sem]
   try simp
  ·simp only [go_sem,az,qw]
 ·intro i hi
  by_cases hlt:i<n
  ·have hc:((i:Int)<(n:Int)):=by omega
   have hi1:IntKind.i64.wrap ((i:Int)+1)=((i+1:Nat):Int):=by rw [ab (by omega) (by omega)];omega
   simp only [go_sem,hP,hc,tM ws i]
   refine⟨by omega,by omega,?_⟩
   generalize hw:ws.getD i 0=w
   refine ay hE h0 [0,2,3,5,6,11,12,13,14,17,18] 8 (fun j=>⟨32,[(3,.sl 0 0 (8*i+j) 1),(5,.w w),(11,.p (.data 1 n (ws.map wd))),(12,.i n),(13,.i i),(17,.i j)],[(0,some ⟨a7,cb (az ws i++cr w j)⟩)],1⟩) [] (fun i=>i) ?_ ?_
   ·refine⟨rfl,?_,?_,rfl,rfl,trivial,fun i h=>h⟩
    ·simp only [go_sem]
     try simp
    ·simp only [go_sem,cr,List.append_nil]
     exact aj _ _ _ _
   ·intro j hj
    by_cases hjl:j<8
    ·have hc8:((j:Int)<8):=by omega
     have hw8:IntKind.i64.wrap (8*(j:Int))=((8*j:Nat):Int):=by rw [ab (by omega) (by omega)];omega
     have hs:IntKind.i64.wrap (56-((8*j:Nat):Int))=((56-8*j:Nat):Int):=by rw [ab (by omega) (by omega)];omega
     have hj1:IntKind.i64.wrap ((j:Int)+1)=((j+1:Nat):Int):=by rw [ab (by omega) (by omega)];omega
     simp only [go_sem,hP,hc8,hw8,hs,hj1,mg w ((56-8*j:Nat):Int) (by omega),aD,eh]
     refine⟨by omega,⟨by simp only [aG,au],by omega,by omega⟩,hjl,aZ [2] rfl ?_ ?_ rfl rfl (Nat.le_refl _)⟩
     ·simp only [go_sem,Nat.add_assoc]
     ·simp only [go_sem,cr,List.append_assoc]
      exact aj _ _ _ _
    ·obtain rfl:j=8:=by omega
     have hc8:¬(((8:Nat):Int)<8):=by omega
     simp only [go_sem,hP,hc8,hi1]
     refine⟨hlt,aZ [0] rfl ?_ ?_ rfl rfl (Nat.le_refl _)⟩
     ·simp only [go_sem,Nat.mul_add]
     ·simp only [go_sem,az,hw]
      exact aj _ _ _ _
  ·obtain rfl:i=n:=by omega
   have hc:¬((i:Int)<(i:Int)):=by omega
   simp only [go_sem,hP,hc]
   refine lF [0] rfl ?_ ?_ rfl rfl (fun i hi=>?_)
   ·simp only [go_sem]
   ·simp only [go_sem]
    exact aj _ _ _ _
   ·simp [liveK] at hi;simp;omega
end Go.Proofs.YtebndjnkmcahaaaGreatDoor
end
section
namespace Go.Proofs
set_option linter.unusedSimpArgs false
set_option linter.unusedVariables false
open Go.Shelf
def Tryz.laysValid_ren:Go.Shelf.Ren:=⟨fun|196=>164|259=>207|n=>n,fun|9=>9|4=>4|3=>3|5=>5|12=>12|119=>255|0=>0|46=>29|139=>258|138=>257|53=>22|n=>n,fun|3=>1|4=>2|n=>n⟩
theorem Tryz.laysValid:Go.Proofs.Lays.n196 Tryz.prog Tryz.laysValid_ren:={
 mixed:=by kernel_rfl
 f196:=Tryz.func164.trans (congrArg some (by kernel_rfl))
 f259:=Tryz.func207.trans (congrArg some (by kernel_rfl))
 t0:=Tryz.underlying0
 a0:=Tryz.isAgg0
 z0:=Tryz.sizeOf0
 v0:=Tryz.zeroValue0
 t3:=Tryz.underlying3
 a3:=Tryz.isAgg3
 z3:=Tryz.sizeOf3
 v3:=Tryz.zeroValue3
 t4:=Tryz.underlying4
 a4:=Tryz.isAgg4
 z4:=Tryz.sizeOf4
 v4:=Tryz.zeroValue4
 t5:=Tryz.underlying5
 a5:=Tryz.isAgg5
 z5:=Tryz.sizeOf5
 v5:=Tryz.zeroValue5
 t9:=Tryz.underlying9
 a9:=Tryz.isAgg9
 z9:=Tryz.sizeOf9
 v9:=Tryz.zeroValue9
 t12:=Tryz.underlying12
 a12:=Tryz.isAgg12
 z12:=Tryz.sizeOf12
 v12:=Tryz.zeroValue12
 t46:=Tryz.underlying29
 a46:=Tryz.isAgg29
 z46:=Tryz.sizeOf29
 v46:=Tryz.zeroValue29
 t53:=Tryz.underlying22
 a53:=Tryz.isAgg22
 z53:=Tryz.sizeOf22
 v53:=Tryz.zeroValue22
 t119:=Tryz.underlying255
 a119:=Tryz.isAgg255
 z119:=Tryz.sizeOf255
 t138:=Tryz.underlying257
 a138:=Tryz.isAgg257
 z138:=Tryz.sizeOf257
 v138:=Tryz.zeroValue257
 t139:=Tryz.underlying258
 a139:=Tryz.isAgg258
 z139:=Tryz.sizeOf258
 v139:=Tryz.zeroValue258
 g3:=by kernel_rfl
 g4:=by kernel_rfl }
end Go.Proofs
namespace Go.Proofs.YtebndjnkmcahaaaGreatDoor
set_option linter.unusedSimpArgs false
set_option linter.unusedVariables false
open Go Go.Abs Go.RowKit Go.Shelf
abbrev okU (s:List UInt8):Bool:=Lib.validD s
theorem AC:∀c:Fin 256,(BJ[c.val]?).map (fun (n:Nat)=>(n:Int))=some (Lib.firstT c.val):=by decide +kernel
def IR:List Nat:=[128,191,160,191,128,159,144,191,128,143]++List.replicate 22 0
theorem qd:lK=IR.map fun (n:Nat)=>Value.int .u8 (n:Int):=rfl
theorem yQ:∀i:Fin 16,(IR[2*i.val]?).map (fun (n:Nat)=>(n:Int))=some (Lib.accLo i.val)∧(IR[2*i.val+1]?).map (fun (n:Nat)=>(n:Int))=some (Lib.accHi i.val):=by decide +kernel
theorem IS {l:List Nat} {j:Nat} {n:Int} (h:(l[j]?).map (fun (n:Nat)=>(n:Int))=some n):(l.map fun (n:Nat)=>Value.int .u8 (n:Int))[j]?=some (.int .u8 n):=by
 rw [Option.map_eq_some_iff] at h
 obtain⟨a,ha,rfl⟩:=h
 simp [ha]
theorem FE {F:aA} {w:World} (h:GlobOk F w):Lib.Utf8Tabs 1 2 w:=by
 have h1:=(h 1 mD rfl).2
 have h2:=(h 2 lK rfl).2
 refine⟨fun c hc=>(h1 c _ (IS (AC ⟨c,hc⟩))).2,fun i hi=>⟨(h2 _ _ ?_).2,(h2 _ _ ?_).2⟩⟩
 ·rw [qd];exact IS (yQ ⟨i,hi⟩).1
 ·rw [qd];exact IS (yQ ⟨i,hi⟩).2
theorem dw (s:List UInt8) (hs:s.length<1000000):FPure Tryz.prog 164 [sv s] (.b (okU s)):=by
 intro hh
 refine⟨fun ρ F us w hpre hz hr=>?_⟩
 have h0:=hr 0 _ rfl
 obtain⟨u,rfl⟩:∃x,us=#[x]:=by
  obtain⟨l⟩:=us
  match l,hz with
  | [x],_=>exact⟨x,rfl⟩
 have hv:u = .string ⟨s.toArray⟩:=Rd.pv h0
 subst hv
 have hsz:(⟨s.toArray⟩:ByteArray).size=s.length:=by simp [ByteArray.size]
 have cV:Calls Tryz.prog 164 #[.string ⟨s.toArray⟩] w _:=Any.utf8_ValidString Tryz.laysValid ⟨s.toArray⟩ w (by rw [hsz];omega) (FE hpre.glob)
 refine .inl ⟨enters_of Tryz.func164 (by kernel_rfl) rfl _ _,cV.mono ?_⟩
 rintro e w' ⟨rfl,hbel⟩
 refine⟨_,rfl,ρ,F,⟨fun _ _ h=>h,fun i h1 h2=>absurd h1 h2,fun i b h1 h2=>(by rw [h1] at h2;cases h2),.p _ _ (.v _ rfl),?_,fun b hb=>Nat.lt_of_lt_of_le (hpre.fok b hb) hbel.size,?_⟩⟩
 ·refine⟨fun i k hk=>?_,fun i j b hi=>?_⟩
  ·simp [restr,keys] at hk
  ·simp [restr,keys] at hi
 ·refine⟨hbel.os,hbel.tape,hbel.output,hbel.size,fun b hb _=>hbel.block b hb,⟨fun b n hcl=>?_,fun b hcl=>?_⟩,fun b hb=>hb,fun b hb => .inl hb⟩
  ·obtain⟨ar,t',fr,hb,hn⟩:=hcl
   exact⟨ar,t',fr,(hbel.block b (Array.getElem?_eq_some_iff.1 hb).1).trans hb,hn⟩
  ·have hlt:=hcl.lt
   obtain⟨es,c,hb⟩:=hcl
   exact⟨es,c,(hbel.block b hlt).trans hb⟩
end Go.Proofs.YtebndjnkmcahaaaGreatDoor
end
end

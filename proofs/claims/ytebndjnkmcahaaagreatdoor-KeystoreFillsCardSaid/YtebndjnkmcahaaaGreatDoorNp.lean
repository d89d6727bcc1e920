/- joined of several texts; own work; no statement of the seat is proved but in the last -/
import Derived.Test.YtebndjnkmcahaaaGreatDoorNm
section
namespace Go.Proofs.YtebndjnkmcahaaaGreatDoor
set_option linter.unusedSimpArgs false
set_option linter.unusedVariables false
open Go Go.Abs Go.RowKit
def nd1:Nat→Int|0=>1|_=>0
theorem Il (l:List Itm) (i:Nat) (hl:l.length=19) (hi:i<19) (hk:¬(l.getD i (.b false)).kd=5) (hk':¬(l.getD i (.b false)).kd=6):FPure Tryz.prog 251 [.p (.data 3 19 (aO l)),.i i] (.tup [.i ((i+1:Nat):Int),.b true]):=by
 refine en Tryz.func251 Tryz.ntmps251 Tryz.results251 [0,1,4,5,6,7,15,18,24,38,41,49] ?_;intro c hP h0 hE kK
 have hat:=bJ l i (by rw [hl];exact hi)
 generalize l.getD i (.b false)=x at *
 have hw:IntKind.i64.wrap ((i:Int)+1)=((i+1:Nat):Int):=by rw [ab (by omega) (by omega)];omega
 simp only [go_sem,hP,show ¬((i:Int)<0) from by omega,show ¬((i:Int)≥19) from by omega]
 refine ay hE h0 [0,1,4,5,6,7,15,18,24,38,41,49] 1 (fun k=>⟨56,[(0,.p (.data 3 19 (aO l))),(4,.i ((i+k:Nat):Int)),(6,.i (nd1 k))],[],0⟩) [] (fun i=>i) ?_ ?_
 ·refine⟨rfl,?_,?_,rfl,rfl,trivial,fun i h=>h⟩
  ·simp only [go_sem,nd1]
  ·simp only [go_sem]
 intro k hk1
 rcases Nat.lt_or_ge k 1 with h1|h1
 ·obtain rfl:k=0:=by omega
  have h3:3≤(aO l).length-i*3:=by rw [ii,hl];omega
  simp only [go_sem,hP,hat,cH,hk,hk',show ¬((i:Int)≥19) from by omega,hw,nd1]
  refine⟨⟨by omega,by omega⟩,by decide,aZ [] rfl ?_ ?_ rfl rfl (Nat.zero_le _)⟩
  ·simp only [go_sem,nd1]
   rfl
  ·simp only [go_sem]
 obtain rfl:k=1:=by omega
 simp only [go_sem,hP,nd1]
theorem CL (x:Itm):FPure Tryz.prog 252 [.p (.data 3 1 (cH x))] (.p (.data 3 1 (cH x))):=by
 refine en Tryz.func252 Tryz.ntmps252 Tryz.results252 [0,2,4] ?_;intro c hP h0 hE kK
 simp only [go_sem,hP]
 exact⟨⟨trivial,trivial,trivial,trivial⟩,rfl⟩
theorem CM {x:Itm} (h:okI x):¬x.kd=5∧¬x.kd=6:=by
 cases x<;>simp [okI,Itm.kd] at *
theorem CN (l:List Itm) (hl:G19 l) (j:Nat) (h1:1≤j) (h9:j≤9):FPure Tryz.prog 226 [.p (.data 3 19 (aO l)),.p (.v (.int .u64 (j:Int)))] (.tup [.p (.data 3 1 (cH (l.getD (2*j) (.b false)))),.b true]):=by
 refine en Tryz.func226 Tryz.ntmps226 Tryz.results226 [0,1,4,5,6,7,8,18,22,23,24,33,48] ?_;intro c hP h0 hE kK
 have hll:=ii l
 have hL:=hl.len
 have hat0:=bJ l 0 (by rw [hl.len];decide)
 rw [hl.h0] at hat0
 have h9':((UInt64.toNat 9:Nat):Int)=9:=by decide
 simp only [go_sem,hP]
 refine aa kK (by exact tr l hl) ?_
 simp only [go_sem,hP,hat0,cH,Itm.kd,Itm.nu,h9']
 refine ay hE h0 [0,1,4,5,6,7,8,18,22,23,24,33,48] (j-1) (fun k=>⟨57,[(0,.p (.data 3 19 (aO l))),(1,.p (.v (.int .u64 (j:Int)))),(6,.i ((1+2*k:Nat):Int)),(22,.p (.v (.int .u64 9))),(23,.p (.v (.int .u64 (k:Int))))],[],0⟩) [] (fun i=>i) ?_ ?_
 ·refine⟨rfl,?_,?_,rfl,rfl,trivial,fun i h=>h⟩
  ·simp only [go_sem]
   exact h9'
  ·simp only [go_sem]
 intro k hk1
 have hk:=hl.hk (k+1) (by omega) (by omega)
 rw [show 2*(k+1)-1=1+2*k from by omega] at hk
 have hv:=hl.hv (k+1) (by omega) (by omega)
 rw [show 2*(k+1)=2+2*k from by omega] at hv
 have hat:=bJ l (1+2*k) (by omega)
 rw [hk] at hat
 have hs:=Il l (2+2*k) hL (by omega) (CM hv).1 (CM hv).2
 have hw:IntKind.i64.wrap (((1+2*k:Nat):Int)+1)=((2+2*k:Nat):Int):=by rw [ab (by omega) (by omega)];omega
 have hu:(((UInt64.ofNat (k+1)).toNat:Nat):Int)=((k+1:Nat):Int):=by rw [UInt64.toNat_ofNat',Nat.mod_eq_of_lt (by omega)]
 rcases Nat.lt_or_ge k (j-1) with h2|h2
 ·simp only [go_sem,hP,hw,show ((k:Int)<9) from by omega]
  refine aa kK (by exact hs) ?_
  simp only [go_sem,hP,hat,cH,Itm.kd,Itm.nu,hu,show ¬(((k+1:Nat):Int)=j) from by omega]
  refine⟨⟨by omega,by omega⟩,⟨by omega,by omega⟩,h2,aZ [] rfl ?_ ?_ rfl rfl (Nat.zero_le _)⟩
  ·simp only [go_sem,show 1+2*(k+1)=2+2*k+1 from by omega,ak (n:=(k:Int)+1) (by omega) (by omega)]
   trivial
  ·simp only [go_sem]
 obtain rfl:j=k+1:=by omega
 have hat2:=bJ l (2+2*k) (by omega)
 generalize hx:l.getD (2+2*k) (.b false)=x at *
 simp only [go_sem,hP,hw,show ((k:Int)<9) from by omega]
 refine aa kK (by exact hs) ?_
 simp only [go_sem,hP,hat,cH,Itm.kd,Itm.nu,hu,hw,show 2+2*k+1-(2+2*k)=1 from by omega,hat2]
 refine⟨⟨by omega,by omega⟩,⟨by omega,by omega⟩,⟨by omega,by omega,by omega⟩,?_⟩
 refine aa kK (by exact CL x) ?_
 simp only [go_sem,hP,cH]
 rw [show 2*(k+1)=2+2*k from by omega,hx]
 exact⟨rfl,rfl,rfl⟩
theorem Fg (l:List Itm) (hl:G19 l) (j:Nat) (h1:1≤j) (h9:j≤9):FPure Tryz.prog 183 [.p (.data 3 19 (aO l)),.p (.v (.int .u64 (j:Int)))] (.agg (dg (l.getD (2*j) (.b false)))):=by
 refine en Tryz.func183 Tryz.ntmps183 Tryz.results183 [0,1,4,5,6,19] ?_;intro c hP h0 hE kK
 have hL:=CN l hl j h1 h9
 generalize l.getD (2*j) (.b false)=x at *
 simp only [go_sem,hP]
 refine aa kK (by exact hL) ?_
 simp only [go_sem,hP,cH]
 done
theorem iR (x:Cr) (h:CrOk x) (j:Nat) (y:Itm) (h1:1≤j) (h9:j≤9) (e:(crL x).getD (2*j) (.b false)=y) (n:Int) (hn:n=j):FPure Tryz.prog 183 [.p (.data 3 19 (aO (crL x))),.p (.v (.int .u64 n))] (.agg (dg y)):=by
 subst e hn
 exact Fg (crL x) h.G j h1 h9
theorem rz (n:Int) (h0:0≤n) (h:n<1000000):IntKind.i64.wrap (((ik n).toNat:Nat):Int)=n:=by
 rw [← ed n h0 h,ak h0 (by omega),ab (by omega) (by omega)]
theorem JT (b:Bool):((((bN b).toNat:Nat):Int)==1)=b:=by cases b<;>decide
theorem vj (x:Cr) (h:CrOk x):(dh x).length<1000000:=by
 have:=h.G.bs 19 (by decide)
 rw [show (crL x).take 19=crL x from List.take_of_length_le (by rw [h.G.len];decide)] at this
 unfold dh
 omega
set_option maxHeartbeats 2000000 in
theorem Im (x:Cr) (h:CrOk x):FPure Tryz.prog 130 [.p (.data 1 (dh x).length ((dh x).map bt))] (.tup [.agg (crC x),.i 0]):=by
 refine en Tryz.func130 Tryz.ntmps130 Tryz.results130 [0,2,3,4,6,7,8,16,63] ?_;intro c hP h0 hE kK
 have hd:=xc (crL x) h.G (dh x) (dh x).length rfl rfl
 have hg1:=rz x.hg (by have:=h.hg;omega) (by have:=h.hg;omega)
 have hg2:=rz x.pt (by have:=h.pt;omega) (by have:=h.pt;omega)
 have he:=j8 x h
 have hl:=vj x h
 simp only [go_sem,hP]
 refine aa kK (by exact hd) ?_
 simp only [go_sem,hP]
 refine aa kK (by exact iR x h 1 (.t x.rp) (by decide) (by decide) rfl 1 rfl) ?_
 simp only [go_sem,hP]
 refine aa kK (by exact iR x h 2 (.d x.us) (by decide) (by decide) rfl 2 rfl) ?_
 simp only [go_sem,hP]
 refine aa kK (by exact iR x h 3 (.t x.nm) (by decide) (by decide) rfl 3 rfl) ?_
 simp only [go_sem,hP]
 refine aa kK (by exact iR x h 4 (.u x.sd) (by decide) (by decide) rfl 4 rfl) ?_
 simp only [go_sem,hP]
 refine aa kK (by exact iR x h 5 (.u (ik x.hg)) (by decide) (by decide) rfl 5 rfl) ?_
 simp only [go_sem,hP]
 refine aa kK (by exact iR x h 6 (.b x.rs) (by decide) (by decide) rfl 6 rfl) ?_
 simp only [go_sem,hP]
 refine aa kK (by exact iR x h 7 (.u (ik x.pt)) (by decide) (by decide) rfl 7 rfl) ?_
 simp only [go_sem,hP]
 refine aa kK (by exact iR x h 8 (.b x.sh) (by decide) (by decide) rfl 8 rfl) ?_
 simp only [go_sem,hP]
 refine aa kK (by exact iR x h 9 (.b x.bk) (by decide) (by decide) rfl 9 rfl) ?_
 simp only [go_sem,hP,JT,show ∀n,(Itm.u n).nu=n from fun _=>rfl,hg1,hg2]
 refine aa kK (by exact he) ?_
 simp only [go_sem,hP]
 refine aa kK (by exact n0 (dh x) (dh x) (dh x).length (dh x).length) ?_
 simp only [go_sem,hP,beq_self_eq_true]
end Go.Proofs.YtebndjnkmcahaaaGreatDoor
end
section
namespace Go.Proofs.YtebndjnkmcahaaaGreatDoor
set_option linter.unusedSimpArgs false
set_option linter.unusedVariables false
open Go Go.Abs Go.RowKit
@[simp] theorem JU (S:List Nat) (T:List Itm):an S (bX T):=by unfold bX;exact a8 _ _
theorem Ab (n:UInt64) (h:¬n.toNat<24):gV .i64 1 (IntKind.u64.wrap (IntKind.i64.wrap (((loN n).toNat:Int)-24)))=(szN n:Int)∧24≤(loN n).toNat ∧
 (szN n=1∧¬n.toNat<24∨szN n=2∧¬n.toNat<256∨szN n=4∧¬n.toNat<65536∨szN n=8∧¬n.toNat<4294967296):=by
 by_cases h1:n.toNat<256
 ·rw [(kz n h h1).1,(kz n h h1).2];exact⟨by decide,by decide,.inl ⟨rfl,h⟩⟩
 by_cases h2:n.toNat<65536
 ·rw [(kB n h1 h2).1,(kB n h1 h2).2];exact⟨by decide,by decide,.inr (.inl ⟨rfl,h1⟩)⟩
 by_cases h4:n.toNat<4294967296
 ·rw [(kC n h2 h4).1,(kC n h2 h4).2];exact⟨by decide,by decide,.inr (.inr (.inl ⟨rfl,h2⟩))⟩
 ·rw [(kD n h4).1,(kD n h4).2];exact⟨by decide,by decide,.inr (.inr (.inr ⟨rfl,h4⟩))⟩
abbrev rrT:Nat:=308
abbrev rrF (B:List UInt8) (at':Int) (n:Nat) (T:List Itm):List (Nat×Option Blk):=[(0,some ⟨rrT,[sv B,.i at',.sl 1 0 n 3]⟩),(1,some ⟨fG,bX T⟩)]
set_option maxRecDepth 100000 in
theorem Fh (v:Bool) (B post:List UInt8) (L p:Nat) (hL:B.length=L) (hLb:L<1000000) (hB:B.drop p=(if v then 245 else 244)::post) (n:Nat) (T:List Itm) :
 Con Tryz.prog 273 [.ptr 0 0] (rrF B p n T) (.tup [.agg (dg (.b v)),.i 0]) (rrF B ((p+1:Nat):Int) n T):=by
 refine ec 2 Tryz.func273 Tryz.ntmps273 Tryz.results273 [0,2,3,4,5,6,7,8,9,10,20,31,32,46,67,70,87,92,95,120] ?_;intro c hP h0 hE kK
 obtain⟨g1,g2,g3,g4⟩:=f4 hB
 have w1:IntKind.i64.wrap ((p:Int)+1)=((p+1:Nat):Int):=by rw [ab (by omega) (by omega)];omega
 have nL:¬((p:Int)≥(B.length:Int)):=by omega
 cases v with
 | false =>
  have g1:B.getD p 0=244:=g1
  have f1:(((244:UInt8).toNat:Nat):Int)=244:=rfl
  simp only [go_sem,hP,g1,w1,nL,f1,show IntKind.u64.wrap (IntKind.u8.wrap (244-244))=0 from by decide]
  refine⟨by kernel_rfl,⟨by omega,by omega⟩,by kernel_rfl,aB [0,1] rfl ?_ ?_ rfl rfl (fun i hi=>by simp at hi;rcases hi with rfl|rfl<;>exact⟨rfl,by simp [keys]⟩) (fun i hi=>by simp [liveK] at hi;simp;omega)⟩
  ·simp only [go_sem]
   rfl
  ·simp only [go_sem]
 | true =>
  have g1:B.getD p 0=245:=g1
  have f1:(((245:UInt8).toNat:Nat):Int)=245:=rfl
  simp only [go_sem,hP,g1,w1,nL,f1,show IntKind.u64.wrap (IntKind.u8.wrap (245-244))=1 from by decide]
  refine⟨by kernel_rfl,⟨by omega,by omega⟩,by kernel_rfl,aB [0,1] rfl ?_ ?_ rfl rfl (fun i hi=>by simp at hi;rcases hi with rfl|rfl<;>exact⟨rfl,by simp [keys]⟩) (fun i hi=>by simp [liveK] at hi;simp;omega)⟩
  ·simp only [go_sem]
   rfl
  ·simp only [go_sem]
theorem JV:∀k:Fin 6,aS (.v (.int .i64 0)) (List.drop k.val [AV.i 1,.i 2,.i 3,.i 4,.i 5,.i 6]) = .i (1+(k.val:Int))
 | 0=>rfl|1=>rfl|2=>rfl|3=>rfl|4=>rfl|5=>rfl
set_option maxHeartbeats 4000000 in
set_option maxRecDepth 100000 in
theorem oa (k:Fin 6) (n:UInt64) (B post:List UInt8) (L p:Nat) (hL:B.length=L) (hLb:L<1000000) (hB:B.drop p=hdB (UInt8.ofNat (32*k.val)) n++post) (m:Nat) (T:List Itm) :
 Con Tryz.prog 273 [.ptr 0 0] (rrF B p m T) (.tup [.agg [.i (1+(k.val:Int)),.w n,sv []],.i 0]) (rrF B ((p+(1+szN n):Nat):Int) m T):=by
 refine ec 2 Tryz.func273 Tryz.ntmps273 Tryz.results273 [0,2,3,4,5,6,7,8,9,10,20,31,32,46,67,70,87,92,95,120] ?_;intro c hP h0 hE kK
 obtain⟨lo,e1,e2,e3⟩:=CI n
 obtain⟨f1,f2,f3⟩:=yz k lo
 unfold hdB at hB
 rw [e1] at hB
 obtain⟨g1,g2,g3,g4⟩:=f4 hB
 have g3:B.drop (p+1)=bgB n (szN n) (szN n)++post:=g3
 have g4:B.length=p+1+(bgB n (szN n) (szN n)++post).length:=g4
 generalize UInt8.ofNat (32*k.val)+UInt8.ofNat lo.val=F at *
 have w1:IntKind.i64.wrap ((p:Int)+1)=((p+1:Nat):Int):=by rw [ab (by omega) (by omega)];omega
 have w2:IntKind.i64.wrap (k.val:Int)=(k.val:Int):=ab (by omega) (by omega)
 have w2':IntKind.i64.wrap (lo.val:Int)=(lo.val:Int):=ab (by omega) (by omega)
 have w4:IntKind.u64.wrap (lo.val:Int)=(lo.val:Int):=ak (by omega) (by omega)
 have nL:¬((p:Int)≥(B.length:Int)):=by omega
 have nF4:¬((F.toNat:Int)=244):=by omega
 have nF5:¬((F.toNat:Int)=245):=by omega
 have nF6:¬((F.toNat:Int)=246):=by omega
 have k6:=JV k
 have nk:¬((k.val:Int)>5):=by omega
 have nlo:¬((lo.val:Int)>27):=by omega
 by_cases h24:n.toNat<24
 ·have e5:=e3 h24
  have e6:=(ny n h24).2
  have e8:IntKind.i64.wrap (n.toNat:Int)=n.toNat:=ab (by omega) (by omega)
  have e9:IntKind.u64.wrap (n.toNat:Int)=n.toNat:=ak (by omega) (by omega)
  have w5:IntKind.i64.wrap (IntKind.i64.wrap ((B.length:Int)-(p:Int))-1)=((B.length-(p+1):Nat):Int):=by rw [ab (n:=(B.length:Int)-(p:Int)) (by omega) (by omega),ab (by omega) (by omega)];omega
  have nS:¬(((B.length-(p+1):Nat):Int)<0):=by omega
  simp only [go_sem,hP,g1,w1,w2,w2',w4,w5,f2,f3,nL,nF4,nF5,nF6,nk,nlo,show ¬((n.toNat:Int)≥24) from by omega,show ¬((27:Int)<n.toNat) from by omega,e5,e6,e8,e9,nS]
  refine⟨by kernel_rfl,⟨by omega,by omega⟩,by kernel_rfl,by kernel_rfl,?_⟩
  refine bK hE [0,1] (fun i hi=>by have:=h0 i hi;simpa [liveK] using this) [0,2,3,4,5,6,7,8,9,10,20,31,32,46,67,70,87,92,95,120] 0 (fun i=>⟨137,[(0,.ptr 0 0),(2,.ptr 2 0),(3,.i 0),(5,.i k.val),(7,.i 0),(8,.w n),(9,.i 0)],rrF B p m T++[(2,some ⟨fG,[.i 0,.w 0,sv []]⟩)],3⟩) [] (fun i=>i) ⟨rfl,?_,?_,rfl,rfl,trivial,fun i h=>h⟩ (fun i _=>rfl) ?_
  ·simp only [go_sem]
  ·simp only [go_sem]
   done
  intro i hi
  obtain rfl:i=0:=by omega
  have w6:IntKind.i64.wrap ((p:Int)+1)=((p+1:Nat):Int):=w1
  simp only [go_sem,hP,nS,show ¬((n.toNat:Int)<0) from by omega,w6,show IntKind.i64.wrap (1+0)=1 from by decide,k6]
  rw [e6]
  refine⟨⟨by omega,by omega⟩,by omega,aB [0,1] rfl ?_ ?_ rfl rfl (fun i hi=>by simp at hi;rcases hi with rfl|rfl<;>exact⟨rfl,by simp [keys]⟩) (fun i hi=>by simp [liveK] at hi;simp;omega)⟩
  ·simp only [go_sem]
  ·simp only [go_sem]
 obtain⟨z1,z2,z3⟩:=Ab n h24
 rw [← e2] at z1
 have hs8:=gl n
 have hid:=F5 n (szN n) hs8 (yo n (by omega))
 have nlo2:((lo.val:Int)≥24):=by omega
 generalize hS:szN n=S at *
 generalize hD:bgB n S S=D at *
 have hDl:D.length=S:=by rw [← hD,iQ]
 rw [List.length_append,hDl] at g4
 have w5:IntKind.i64.wrap (IntKind.i64.wrap ((B.length:Int)-(p:Int))-1)=((B.length-(p+1):Nat):Int):=by rw [ab (n:=(B.length:Int)-(p:Int)) (by omega) (by omega),ab (by omega) (by omega)];omega
 have nS:¬(((B.length-(p+1):Nat):Int)<(S:Int)):=by omega
 have pS:(S:Int)>0:=by omega
 simp only [go_sem,hP,g1,w1,w2,w2',w4,w5,z1,f2,f3,nL,nF4,nF5,nF6,nk,nlo,nlo2,nS,pS]
 refine⟨by kernel_rfl,⟨by omega,by omega⟩,by kernel_rfl,by kernel_rfl,?_⟩
 have hcut:∀i,i<S→B.getD (p+1+i) 0=D.getD i 0:=by
  intro i hi
  have:(B.drop (p+1)).getD i 0=B.getD (p+1+i) 0:=by simp [List.getD_eq_getElem?_getD]
  rw [← this,g3]
  simp [List.getD_eq_getElem?_getD,List.getElem?_append_left (by omega:i<D.length)]
 refine bK hE [0,1] (fun i hi=>by have:=h0 i hi;simpa [liveK] using this) [0,2,3,4,5,6,7,8,9,10,20,31,32,46,67,70,87,92,95,120] S (fun i=>⟨137,[(0,.ptr 0 0),(2,.ptr 2 0),(3,.i 0),(5,.i k.val),(7,.i S),(8,.w (av D i)),(9,.i i)],rrF B p m T++[(2,some ⟨fG,[.i 0,.w 0,sv []]⟩)],3⟩) [] (fun i=>i) ⟨rfl,?_,?_,rfl,rfl,trivial,fun i h=>h⟩ (fun i _=>rfl) ?_
 ·simp only [go_sem,av]
 ·simp only [go_sem]
  done
 intro i hi
 rcases Nat.lt_or_ge i S with his|his
 ·have hw:IntKind.i64.wrap ((i:Int)+1)=((i+1:Nat):Int):=by rw [ab (by omega) (by omega)];omega
  have hw2:IntKind.i64.wrap (((p+1:Nat):Int)+(i:Int))=((p+1+i:Nat):Int):=by rw [ab (by omega) (by omega)];omega
  have hws:av D (i+1)=c9 (av D i) 8 ||| (D.getD i 0).toUInt64:=rfl
  have hc:=hcut i his
  generalize av D i=m at *
  generalize av D (i+1)=m' at *
  subst hws
  simp only [go_sem,hP,hw,w1,hw2,hc,cY,i4 m 8 (by decide),iv,dU,lq,iw,show ((i:Int)<(S:Int)) from by omega]
  refine⟨⟨by omega,by omega⟩,by kernel_rfl,his,kq [0,1] [0,1,2] rfl ?_ ?_ rfl rfl (Nat.le_of_ble_eq_true rfl) (fun i hi=>by simp at hi;rcases hi with rfl|rfl<;>rfl)⟩
  ·simp only [go_sem]
  ·simp only [go_sem]
 obtain rfl:i=S:=by omega
 rw [hid]
 have nSS:¬((i:Int)<(i:Int)):=by omega
 rcases z3 with ⟨rfl,z4⟩|⟨rfl,z4⟩|⟨rfl,z4⟩|⟨rfl,z4⟩
 ·have w6:IntKind.i64.wrap ((p:Int)+2)=((p+(1+1):Nat):Int):=by rw [ab (by omega) (by omega)];omega
  simp only [go_sem,hP,nSS,show ¬((n.toNat:Int)<24) from by omega,w6,show IntKind.i64.wrap (1+1)=2 from by decide,k6]
  refine⟨⟨by omega,by omega⟩,by omega,aB [0,1] rfl ?_ ?_ rfl rfl (fun i hi=>by simp at hi;rcases hi with rfl|rfl<;>exact⟨rfl,by simp [keys]⟩) (fun i hi=>by simp [liveK] at hi;simp;omega)⟩
  ·simp only [go_sem]
  ·simp only [go_sem]
 ·have w6:IntKind.i64.wrap ((p:Int)+3)=((p+(1+2):Nat):Int):=by rw [ab (by omega) (by omega)];omega
  simp only [go_sem,hP,nSS,show ¬((n.toNat:Int)<256) from by omega,w6,show IntKind.i64.wrap (1+2)=3 from by decide,k6]
  refine⟨⟨by omega,by omega⟩,by omega,aB [0,1] rfl ?_ ?_ rfl rfl (fun i hi=>by simp at hi;rcases hi with rfl|rfl<;>exact⟨rfl,by simp [keys]⟩) (fun i hi=>by simp [liveK] at hi;simp;omega)⟩
  ·simp only [go_sem]
  ·simp only [go_sem]
 ·have w6:IntKind.i64.wrap ((p:Int)+5)=((p+(1+4):Nat):Int):=by rw [ab (by omega) (by omega)];omega
  simp only [go_sem,hP,nSS,show ¬((n.toNat:Int)<65536) from by omega,w6,show IntKind.i64.wrap (1+4)=5 from by decide,k6]
  refine⟨⟨by omega,by omega⟩,by omega,aB [0,1] rfl ?_ ?_ rfl rfl (fun i hi=>by simp at hi;rcases hi with rfl|rfl<;>exact⟨rfl,by simp [keys]⟩) (fun i hi=>by simp [liveK] at hi;simp;omega)⟩
  ·simp only [go_sem]
  ·simp only [go_sem]
 ·have w6:IntKind.i64.wrap ((p:Int)+9)=((p+(1+8):Nat):Int):=by rw [ab (by omega) (by omega)];omega
  simp only [go_sem,hP,nSS,show ¬((n.toNat:Int)<4294967296) from by omega,w6,show IntKind.i64.wrap (1+8)=9 from by decide,k6]
  refine⟨⟨by omega,by omega⟩,by omega,aB [0,1] rfl ?_ ?_ rfl rfl (fun i hi=>by simp at hi;rcases hi with rfl|rfl<;>exact⟨rfl,by simp [keys]⟩) (fun i hi=>by simp [liveK] at hi;simp;omega)⟩
  ·simp only [go_sem]
  ·simp only [go_sem]
set_option maxRecDepth 100000 in
theorem Fi (B post:List UInt8) (L:Nat) (hL:B.length=L) (hLb:L<1000000) (hB:B=169::post) :
 Con Tryz.prog 273 [.ptr 0 0] [(0,some ⟨rrT,[sv B,.i 0,du]⟩)] (.tup [.agg (dg (.m 9)),.i 0]) [(0,some ⟨rrT,[sv B,.i 1,du]⟩)]:=by
 refine ec 1 Tryz.func273 Tryz.ntmps273 Tryz.results273 [0,2,3,4,5,6,7,8,9,10,20,31,32,46,67,70,87,92,95,120] ?_;intro c hP h0 hE kK
 obtain⟨g1,g2,g3,g4⟩:=f4 (B:=B) (p:=0) (by simpa using hB)
 have f1:(((169:UInt8).toNat:Nat):Int)=169:=rfl
 have hp:(0:Int)<B.length:=by omega
 have w5:IntKind.i64.wrap (IntKind.i64.wrap ((B.length:Int)-0)-1)=((B.length-1:Nat):Int):=by rw [ab (n:=(B.length:Int)-0) (by omega) (by omega),ab (by omega) (by omega)];omega
 simp only [go_sem,hP,g1,f1,w5,show ¬((B.length:Int)≤0) from by omega,show ¬((0:Int)≥(B.length:Int)) from by omega,show ¬(((B.length-1:Nat):Int)<0) from by omega,show IntKind.i64.wrap (0+1)=1 from by decide,show bc .u8 169 5=5 from by decide,show cu .u8 169 31=9 from by decide,show IntKind.i64.wrap 5=5 from by decide,show IntKind.i64.wrap 9=9 from by decide,show IntKind.u64.wrap 9=9 from by decide]
 refine⟨by kernel_rfl,by omega,by kernel_rfl,by kernel_rfl,?_⟩
 refine bK hE [0] (fun i hi=>by have:=h0 i hi;simpa [liveK] using this) [0,2,3,4,5,6,7,8,9,10,20,31,32,46,67,70,87,92,95,120] 0 (fun i=>⟨137,[(0,.ptr 0 0),(2,.ptr 1 0),(3,.i 0),(5,.i 5),(7,.i 0),(8,.w 9),(9,.i 0)],[(0,some ⟨rrT,[sv B,.i 0,du]⟩)]++[(1,some ⟨fG,[.i 0,.w 0,sv []]⟩)],2⟩) [] (fun i=>i) ⟨rfl,?_,?_,rfl,rfl,trivial,fun i h=>h⟩ (fun i _=>rfl) ?_
 ·simp only [go_sem]
  rfl
 ·simp only [go_sem]
 intro i hi
 obtain rfl:i=0:=by omega
 simp only [go_sem,hP,show ¬((((9:UInt64).toNat:Nat):Int)<0) from by decide,show IntKind.i64.wrap (0+1)=1 from by decide,show IntKind.i64.wrap (1+0)=1 from by decide]
 refine aB [0] rfl ?_ ?_ rfl rfl (fun i hi=>by simp at hi;subst hi;exact⟨rfl,by simp [keys]⟩) (fun i hi=>by simp [liveK] at hi;simp;omega)
 ·simp only [go_sem]
 ·simp only [go_sem]
end Go.Proofs.YtebndjnkmcahaaaGreatDoor
end

/- Contracts of the pages of a journal: package journal's page.go and the reference's. Own work; no statement of the seat is proved here. -/
import Derived.Test.YtebndjnkmcahaaaGreatDoorFl
namespace Go.Proofs.YtebndjnkmcahaaaGreatDoor
set_option linter.unusedSimpArgs false
set_option linter.unusedVariables false
open Go Go.Abs Go.RowKit
def headM (g:UInt64):List UInt8:=az [g,eH (cm 7 0 (az [g] 1)) 1] 2
def mZ (g:UInt64) (b:List UInt8):List UInt8:=az [eH (cm g 8 b) 1] 1
def aY (g:UInt64) (b:List UInt8):List UInt8:=UInt8.ofNat (b.length/256)::UInt8.ofNat b.length::(b++mZ g b)
theorem bT (g:UInt64):(headM g).length=16:=aG _ _
theorem jI (g:UInt64) (b:List UInt8):(mZ g b).length=8:=aG _ _
theorem bp (g:UInt64) (b:List UInt8):(aY g b).length=b.length+10:=by simp [aY,jI]
theorem jJ (x:UInt64):FPure Tryz.prog 90 [.p (.data 1 1 [wd x])] (.p (.data 1 8 ((az [x] 1).map bt))):=sH [x] 1 rfl (by decide)
theorem C6 (x y:UInt64):FPure Tryz.prog 90 [.p (.data 1 2 [wd x,wd y])] (.p (.data 1 16 ((az [x,y] 2).map bt))):=sH [x,y] 2 rfl (by decide)
theorem di (x:UInt64):FPure Tryz.prog 51 [.p (.data 1 1 [wd x])] (.p (.data 1 8 ((az [x] 1).map bt))):=pH [x] 1 rfl (by decide)
theorem Ao (x y:UInt64):FPure Tryz.prog 51 [.p (.data 1 2 [wd x,wd y])] (.p (.data 1 16 ((az [x,y] 2).map bt))):=pH [x,y] 2 rfl (by decide)
theorem tz (x:UInt64):bc .u64 (x.toNat:Int) 1=((eH x 1).toNat:Int):=mg x 1 (by decide)
theorem p5 (g:UInt64) (n:Int) (hg:IntKind.u64.wrap n=g.toNat):FPure Tryz.prog 150 [.i n] (.p (.data 1 16 ((headM g).map bt))):=by
 refine en Tryz.func150 Tryz.ntmps150 Tryz.results150 [0,2,3] ?_;intro c hP h0 hE kK
 simp only [go_sem,hP,hg]
 refine x_f kK (jJ g) ?_
 simp only [go_sem,hP]
 refine aa kK (by exact BG 7 (az [g] 1) 8 (aG _ _) (by decide) (by decide) (by decide)) ?_
 simp only [go_sem,hP,tz]
 refine x_f kK (C6 g _) ?_
 simp only [go_sem,hP]
 rfl
theorem m0 (g:UInt64) (n:Int) (hg:IntKind.u64.wrap n=g.toNat):FPure Tryz.prog 192 [.i n] (.p (.data 1 16 ((headM g).map bt))):=by
 refine en Tryz.func192 Tryz.ntmps192 Tryz.results192 [0,2] ?_;intro c hP h0 hE kK
 simp only [go_sem,hP,hg]
 refine x_f kK (di g) ?_
 simp only [go_sem,hP]
 refine aa kK (by exact nZ 7 (az [g] 1) 8 (aG _ _) (by decide) (by decide) (by decide)) ?_
 simp only [go_sem,hP,tz]
 refine x_f kK (Ao g _) ?_
 simp only [go_sem,hP]
 rfl
theorem yH (g:UInt64) (n:Int) (hg:IntKind.u64.wrap n=g.toNat) (b:List UInt8) (m:Nat) (hm:b.length=m) (hb:m<1000000000):FPure Tryz.prog 203 [.i n,.p (.data 1 m (b.map bt))] (.p (.data 1 8 ((mZ g b).map bt))):=by
 refine en Tryz.func203 Tryz.ntmps203 Tryz.results203 [0,1,4] ?_;intro c hP h0 hE kK
 simp only [go_sem,hP,hg]
 refine aa kK (by exact xW g 7 b m hm hb (by decide) (by decide)) ?_
 simp only [go_sem,hP,tz]
 refine x_f kK (jJ _) ?_
 simp only [go_sem,hP]
 rfl
theorem yI (m:Nat) (h:m<1000000000):IntKind.u8.wrap (bc .i64 (m:Int) 8)=((UInt8.ofNat (m/256)).toNat:Int):=by
 have e:bc .i64 (m:Int) 8=((m/256:Nat):Int):=by
  show Int.fdiv (m:Int) (2^8)=_
  rw [Int.fdiv_eq_ediv_of_nonneg _ (by decide)]
  simp
 rw [e,gO]
theorem Ap (x y:UInt8) (b d:List UInt8) (m k:Nat) (hm:b.length=m) (hk:d.length=k) (h:m+k<100000000) :
 FPure Tryz.prog 202 [.p (.data 1 3 [.data 1 2 [bt x,bt y],.data 1 m (b.map bt),.data 1 k (d.map bt)])] (.p (.data 1 (m+k+2) ((x::y::(b++d)).map bt))):=by
 have:=Cq [[x,y],b,d] 3 rfl (by simp;omega) (by decide)
 simp only [byP,List.map_cons,List.map_nil,List.length_cons,List.length_nil,hm,hk,List.flatten_cons,List.flatten_nil,List.append_nil,List.length_append,List.cons_append,List.nil_append] at this
 have e:0+1+1+(m+k)=m+k+2:=by omega
 have e':m+k+1+1=m+k+2:=by omega
 simpa only [e,e',List.map_cons] using this
theorem vD (g:UInt64) (n:Int) (hg:IntKind.u64.wrap n=g.toNat) (b:List UInt8) (m:Nat) (hm:b.length=m) (hb:m<10000000):FPure Tryz.prog 153 [.i n,.p (.data 1 m (b.map bt))] (.p (.data 1 (m+10) ((aY g b).map bt))):=by
 refine en Tryz.func153 Tryz.ntmps153 Tryz.results153 [0,1,4] ?_;intro c hP h0 hE kK
 simp only [go_sem,hP,yI m (by omega),gO]
 refine aa kK (by exact yH g n hg b m hm (by omega)) ?_
 simp only [go_sem,hP]
 refine iI hE (ks:=[0,1,4]) (n:=2000) 0 ?_ ?_
 ·simp only [go_sem,hP]
 ·simp only [go_sem,hP]
  refine x_f kK (Ap (UInt8.ofNat (m/256)) (UInt8.ofNat m) b (mZ g b) m 8 hm (jI _ _) (by omega)) ?_
  simp only [go_sem,hP]
  simp only [aY,hm,List.map_cons,bt,and_self]
theorem C7 (p k q n:Nat) (bs:List UInt8) (hn:n=p*k) (hb:n<1000000000) (hq:q<k) (hk:k≤8) (hp:p≤10000):FPure Tryz.prog 198 [.agg [.i p,.p (.data 1 n (bs.map bt))],.i q] (.p (.data 1 p (((bs.drop (q*p)).take p).map bt))):=by
 have hle:=dX (p:=p) hq
 have e1:((q:Int)+1)*(p:Int)=((q*p+p:Nat):Int):=by simp [Int.add_mul]
 refine en Tryz.func198 Tryz.ntmps198 Tryz.results198 [0,1,2,4,5,6] ?_;intro c hP h0 hE kK
 simp only [go_sem,hP]
 rw [ab (n:=(q:Int)+1) (by omega) (by omega)]
 simp only [gK q p (by omega),e1,ab (n:=((q*p+p:Nat):Int)) (by omega) (by omega),Int.toNat_natCast,Nat.add_sub_cancel_left,tN,and_true]
 exact⟨by kernel_rfl,by omega⟩
def aN (page:List UInt8):Int :=
 if (av page 8).toNat<1∨1099511627776<(av page 8).toNat∨page.take 16≠headM (av page 8) then 0 else ((av page 8).toNat:Int)
theorem nC (x:UInt64):IntKind.u64.wrap (x.toNat:Int)=x.toNat:=ak (by omega) (by have:=x.toNat_lt;omega)
theorem eC (l:List UInt8) (m:Nat):∀k,k≤m→av (l.take m) k=av l k
 | 0,_=>rfl
 | k+1,h=>by
  simp only [av]
  rw [eC l m k (by omega)]
  congr 2
  simp only [List.getD_eq_getElem?_getD,List.getElem?_take,if_pos (show k<m by omega)]
theorem jK (page:List UInt8) (n:Nat) (hn:page.length=n) (h16:16≤n) (hb:n<1000000000):FPure Tryz.prog 197 [.p (.data 1 n (page.map bt))] (.i (aN page)):=by
 refine en Tryz.func197 Tryz.ntmps197 Tryz.results197 [0,2,3,5,7,8,9,10,33] ?_;intro c hP h0 hE kK
 simp only [go_sem,hP]
 refine⟨by omega,?_⟩
 refine ay hE h0 [0,2,3,5,7,8,9,10,33] 8 (fun i=>⟨36,[(0,.p (.data 1 n (page.map bt))),(3,.w (av page i)),(7,.p (.data 1 8 ((page.take 8).map bt))),(8,.i 8),(9,.i i)],[],0⟩) [] (fun i=>i) ?_ ?_
 ·refine⟨rfl,?_,trivial,rfl,rfl,trivial,fun i h=>h⟩
  simp only [go_sem,av]
  simp
 ·intro i hi
  generalize hm:av page i=m
  simp only [go_sem,hP,cY,i4 m 8 (by decide),iv,dU,lq,iw]
  split
  ·(try go_unwrap)
   refine⟨⟨by omega,by omega⟩,by omega,by omega,dp rfl ?_ trivial rfl rfl (Nat.le_refl _)⟩
   simp only [go_sem,av,hm]
   have:(page.take 8).getD i 0=page.getD i 0:=by
    simp only [List.getD_eq_getElem?_getD,List.getElem?_take,if_pos (show i<8 by omega)]
   rw [this]
   exact⟨rfl,by omega⟩
  ·obtain rfl:i=8:=by omega
   unfold aN
   rw [hm]
   have hmt:=m.toNat_lt
   split
   ·split
    ·refine⟨by omega,?_⟩
     rw [ab (by omega) (by omega)]
     refine aa kK (by exact p5 m _ (nC m)) ?_
     simp only [go_sem,hP]
     refine aa kK (by exact n0 (page.take 16) (headM m) 16 16) ?_
     simp only [go_sem,hP]
     refine⟨by kernel_rfl,?_⟩
     unfold aN
     rw [hm]
     split
     ·rw [if_pos (.inr (.inr ‹_›))]
     ·rw [if_neg (by rintro (h|h|h)<;>first|omega|contradiction),ab (by omega) (by omega)]
    ·exact⟨by kernel_rfl,by rw [if_pos (by omega)]⟩
   ·exact⟨by kernel_rfl,by rw [if_pos (by omega)]⟩
def aq (page:List UInt8) (a:Nat):Nat:=(page.getD a 0).toNat*256+(page.getD (a+1) 0).toNat
def bG (page:List UInt8) (g:UInt64) (a:Nat):List UInt8 :=
 if page.length<a+10 then [] else
 if aq page a<1∨256<aq page a∨page.length<a+10+aq page a then [] else
 if (page.drop (a+2+aq page a)).take 8≠mZ g ((page.drop (a+2)).take (aq page a)) then [] else
 (page.drop (a+2)).take (aq page a)
theorem k7 (a b:Nat) (ha:a<256) (hb:b<256):bor .i64 (gV .i64 (a:Int) 8) (b:Int)=((a*256+b:Nat):Int):=by
 have e1:gV .i64 (a:Int) 8=((a*256:Nat):Int):=by
  show IntKind.i64.wrap ((a:Int)*2^8)=_
  rw [ab (by omega) (by omega)];simp
 rw [e1]
 show IntKind.i64.wrap ((((BitVec.ofInt 64 ((a*256:Nat):Int)) ||| (BitVec.ofInt 64 (b:Int))).toNat:Nat):Int)=_
 rw [BitVec.toNat_or,nj _ (by omega),nj _ (by omega)]
 have e2:a*256 ||| b=a*256+b:=by
  rw [show (256:Nat)=2^8 from rfl,Nat.mul_comm,←Nat.two_pow_add_eq_or_of_lt (by omega)]
 rw [e2,ab (by omega) (by omega)]
theorem rC (x:UInt8):IntKind.i64.wrap (x.toNat:Int)=(x.toNat:Int):=by
 have:=x.toNat_lt
 exact ab (by omega) (by omega)
set_option maxHeartbeats 1000000 in
theorem Aq (page:List UInt8) (n:Nat) (hn:page.length=n) (hb:n<1000000) (g:UInt64) (gi:Int) (hg:IntKind.u64.wrap gi=g.toNat) (a:Nat) (ha:a≤n) :
 FPure Tryz.prog 229 [.p (.data 1 n (page.map bt)),.i gi,.i a] (.p (.data 1 (bG page g a).length ((bG page g a).map bt))):=by
 refine en Tryz.func229 Tryz.ntmps229 Tryz.results229 [0,1,2,6,7,8,9,10,15,43,64] ?_;intro c hP h0 hE kK
 have h1:=(page.getD a 0).toNat_lt
 have h2:=(page.getD (a+1) 0).toNat_lt
 have e1:IntKind.i64.wrap ((a:Int)+1)=((a+1:Nat):Int):=by rw [ab (by omega) (by omega)];simp
 have e0:IntKind.i64.wrap ((n:Int)-(a:Int))=(n:Int)-(a:Int):=ab (by omega) (by omega)
 generalize hq:aq page a=q
 have hl:(page.getD a 0).toNat*256+(page.getD (a+1) 0).toNat=q:=hq
 have e2:IntKind.i64.wrap ((a:Int)+2)=((a+2:Nat):Int):=by rw [ab (by omega) (by omega)];simp
 have e3:IntKind.i64.wrap (((a+2:Nat):Int)+(q:Int))=((a+2+q:Nat):Int):=by rw [ab (by omega) (by omega)];simp
 have e4:IntKind.i64.wrap (((a+2+q:Nat):Int)+8)=((a+2+q+8:Nat):Int):=by rw [ab (by omega) (by omega)];simp
 have e5:IntKind.i64.wrap (10+(q:Int))=10+(q:Int):=ab (by omega) (by omega)
 simp only [go_sem,hP,e1,e0,rC,k7 _ _ h1 h2,hl,e2,e3,e4,e5,Nat.add_sub_cancel_left]
 obtain⟨R,hR⟩:∃R,bG page g a=R:=⟨_,rfl⟩
 rw [hR] at hE kK ⊢
 unfold bG at hR
 rw [hq] at hR
 split
 ·rw [if_pos (by omega)] at hR;subst hR;exact⟨rfl,rfl⟩
 ·rw [if_neg (by omega)] at hR
  refine⟨⟨by omega,by omega⟩,by omega,⟨by omega,by omega⟩,by omega,by kernel_rfl,?_⟩
  split
  ·split
   ·split
    ·rw [if_pos (by omega)] at hR;subst hR;exact⟨rfl,rfl⟩
    ·rw [if_neg (by omega)] at hR
     refine⟨⟨by omega,by omega,by omega⟩,⟨by omega,by omega,by omega⟩,?_⟩
     refine aa kK (by exact yH g gi hg ((page.drop (a+2)).take q) q (by simp;omega) (by omega)) ?_
     simp only [go_sem,hP]
     refine aa kK (by exact n0 _ _ 8 8) ?_
     simp only [go_sem,hP]
     refine⟨by kernel_rfl,?_⟩
     split
     ·rw [if_pos ‹_›] at hR;subst hR;exact⟨rfl,rfl⟩
     ·rw [if_neg ‹_›] at hR;subst hR;simp only [List.length_take,List.length_drop,and_true];omega
   ·rw [if_pos (by omega)] at hR;subst hR;exact⟨rfl,rfl⟩
  ·rw [if_pos (by omega)] at hR;subst hR;exact⟨rfl,rfl⟩
theorem vE (b:List UInt8) (n:Nat) (hn:b.length=n) (hb:n<1000000000):FPure Tryz.prog 200 [.p (.data 1 n (b.map bt))] (.b (b.all (·==255))):=by
 refine en Tryz.func200 Tryz.ntmps200 Tryz.results200 [0,2,4,5,6,7,8,12] ?_;intro c hP h0 hE kK
 simp only [go_sem,hP]
 have key:∀i,i<n→(b.drop i).all (·==255)=(b.getD i 0==255&&(b.drop (i+1)).all (·==255)):=by
  intro i hi
  rw [List.drop_eq_getElem_cons (by omega),List.all_cons]
  simp [List.getD_eq_getElem?_getD,hn,hi]
 obtain⟨R,hR⟩:∃R,b.all (·==255)=R:=⟨_,rfl⟩
 rw [hR] at hE kK
 refine bo hE h0 [0,2,4,5,6,7,8,12] (α:={ i:Nat // i≤n∧(b.drop i).all (·==255)=R }) (fun i=>⟨14,[(5,.p (.data 1 n (b.map bt))),(6,.i n),(7,.i i.1)],[],0⟩) (fun i=>n-i.1) ⟨0,Nat.zero_le _,hR⟩ [] (fun i=>i) ?_ ?_
 ·refine⟨rfl,?_,trivial,rfl,rfl,trivial,fun i h=>h⟩
  simp only [go_sem]
 ·rintro⟨i,hi,hr⟩
  simp only [go_sem,hP]
  have e255:∀x:UInt8,(x.toNat:Int)=255↔x=255:=fun x=>by rw [← UInt8.toNat_inj];simp;omega
  split
  ·have hk:=key i (by omega)
   rw [hr] at hk
   (try go_unwrap)
   refine⟨⟨by omega,by omega⟩,by omega,?_⟩
   simp only [e255]
   split
   ·rename_i h
    rw [show (b.getD i 0==255)=false by simpa using h] at hk
    simp only [hk,Bool.false_and]
   ·rename_i h
    have h:b.getD i 0=255:=by simpa using h
    rw [h] at hk
    refine⟨⟨i+1,by omega,by simpa using hk.symm⟩,by show n-(i+1)<n-i;omega,dp rfl ?_ trivial rfl rfl (Nat.le_refl _)⟩
    simp only [go_sem]
    omega
  ·obtain rfl:i=n:=by omega
   rw [List.drop_eq_nil_of_le (by omega)] at hr
   rw [← hr];rfl
def cg (page:List UInt8) (g:UInt64):Nat→Nat→List (List UInt8)×Nat
 | 0,a=>([],a)
 | f+1,a=>if bG page g a=[] then ([],a) else (bG page g a::(cg page g f (a+10+(bG page g a).length)).1,(cg page g f (a+10+(bG page g a).length)).2)
def ci (page:List UInt8) (g:UInt64):List (List UInt8)×Nat:=cg page g page.length 16
theorem iS (page:List UInt8) (g:UInt64) (a:Nat) (h:bG page g a≠[]):a+10+(bG page g a).length≤page.length∧1≤(bG page g a).length∧(bG page g a).length≤256:=by
 unfold bG at h ⊢
 split at h
 ·exact absurd rfl h
 ·rename_i h1
  rw [if_neg h1]
  split at h
  ·exact absurd rfl h
  ·rename_i h2
   rw [if_neg h2]
   split at h
   ·exact absurd rfl h
   ·rename_i h3
    rw [if_neg h3]
    simp only [List.length_take,List.length_drop]
    omega
abbrev fF:Nat:=27
set_option maxHeartbeats 1000000 in
theorem gr (page:List UInt8) (n:Nat) (hn:page.length=n) (hb:n<1000000) (h16:16≤n) (g:UInt64) (gi:Int) (hg:IntKind.u64.wrap gi=g.toNat) :
 Con Tryz.prog 199 [.p (.data 1 n (page.map bt)),.i gi] [] (.tup [.sl 0 0 (ci page g).1.length 1,.i (ci page g).2]) [(0,some ⟨fF,byL (ci page g).1⟩)]:=by
 refine ec 0 Tryz.func199 Tryz.ntmps199 Tryz.results199 [0,1,4,5,6,13] ?_;intro c hP h0' hE kK;have h0:∀i,c.ρ0 i≠none→False:=fun i hi=>by cases h0' i hi
 simp only [go_sem,hP]
 generalize hT:ci page g=T at *
 refine bE fF ?_
 refine bo hE h0 [0,1,4,5,6,13] (α:={ x:Nat×Nat×List (List UInt8) // x.2.1≤n∧n<x.2.1+x.1∧x.2.2++(cg page g x.1 x.2.1).1=T.1∧(cg page g x.1 x.2.1).2=T.2∧x.2.2.length≤x.2.1 })
  (fun x=>⟨25,[(0,.p (.data 1 n (page.map bt))),(1,.i gi),(4,.sl 0 0 x.1.2.2.length 1),(5,.i x.1.2.1)],[(0,some ⟨fF,byL x.1.2.2⟩)],1⟩) (fun x=>x.1.1) ⟨(n,16,[]),h16,by show n<16+n;omega,by show []++(cg page g n 16).1=T.1;rw [← hT,←hn];rfl,by show (cg page g n 16).2=T.2;rw [← hT,←hn];rfl,by simp⟩ [] (fun i=>i) ?_ ?_
 ·refine⟨rfl,?_,?_,rfl,rfl,trivial,fun i h=>h⟩
  ·simp only [go_sem]
  ·simp only [go_sem,byL]
 ·rintro⟨⟨f,a,l⟩,h1,h2,h3,h4,h5⟩
  simp only at h1 h2 h3 h4 h5
  simp only [go_sem,hP]
  refine aa kK (by exact Aq page n hn hb g gi hg a h1) ?_
  simp only [go_sem,hP]
  obtain⟨b,hbb⟩:∃b,bG page g a=b:=⟨_,rfl⟩
  rw [hbb]
  have hle:=iS page g a
  rw [hbb] at hle
  obtain⟨f,rfl⟩:∃f',f=f'+1:=⟨f-1,by omega⟩
  simp only [cg,hbb] at h3 h4
  split
  ·obtain rfl:b=[]:=List.eq_nil_of_length_eq_zero (by omega)
   simp only [if_true,List.append_nil] at h3 h4
   subst h3
   rw [← h4]
   refine lF [0] rfl ?_ ?_ rfl rfl (fun i hi=>?_)
   ·simp only [go_sem]
   ·simp only [go_sem]
    exact fA _ _ _ _
   ·simp [liveK] at hi;simp;omega
  ·have hne:b≠[]:=fun e=>by subst e;simp at *
   obtain⟨q1,q2,q3⟩:=hle hne
   rw [if_neg hne] at h3 h4
   have e1:IntKind.i64.wrap (10+(b.length:Int))=10+(b.length:Int):=ab (by omega) (by omega)
   have e2:IntKind.i64.wrap ((a:Int)+(10+(b.length:Int)))=((a+10+b.length:Nat):Int):=by rw [ab (by omega) (by omega)];omega
   rw [e1,e2]
   refine⟨⟨by omega,by omega⟩,⟨(f,a+10+b.length,l++[b]),by show a+10+b.length≤n;omega,by show n<a+10+b.length+f;omega,by simpa using h3,by simpa using h4,by simp;omega⟩,by show f<f+1;omega,aZ [2] rfl ?_ ?_ rfl rfl (Nat.le_refl _)⟩
   ·simp only [go_sem]
   ·simp only [go_sem]
    exact fA _ _ _ _
theorem tA (g:UInt64) (n:Int) (hg:IntKind.u64.wrap n=g.toNat) (b:List UInt8) (m:Nat) (hm:b.length=m) (hb:m<10000000):FPure Tryz.prog 196 [.i n,.p (.data 1 m (b.map bt))] (.p (.data 1 (m+10) ((aY g b).map bt))):=by
 refine en Tryz.func196 Tryz.ntmps196 Tryz.results196 [0,1,4,5] ?_;intro c hP h0 hE kK
 simp only [go_sem,hP,yI m (by omega),gO,hg]
 refine⟨by omega,?_⟩
 refine aa kK (by exact pG g 7 b m hm (by omega) (by decide) (by decide)) ?_
 simp only [go_sem,hP,tz]
 refine x_f kK (di _) ?_
 simp only [go_sem,hP,cI,dA]
 have hc:az [eH (cm g (UInt64.ofNat 8) b) 1] 1=mZ g b:=rfl
 rw [hc]
 have hl:(b++mZ g b).length=m+8:=by simp [jI,hm]
 rw [List.take_of_length_le (by omega)]
 refine⟨⟨by omega,by omega,by omega⟩,by simp only [jI];omega,by omega,?_⟩
 simp only [aY,hm,List.map_cons,bt]
theorem tB (p k q n:Nat) (bs:List UInt8) (hn:n=p*k) (hl:bs.length=n) (hb:n<1000000000) (hq:q<k) (hk:k≤8) (hp:512≤p) (hp2:p≤10000) :
 FPure Tryz.prog 187 [.agg [.i p,.p (.data 1 n (bs.map bt))],.i q] (.i (aN ((bs.drop (q*p)).take p))):=by
 have hle:=dX (p:=p) hq
 have e1:IntKind.i64.wrap (((q*p:Nat):Int)+16)=((q*p+16:Nat):Int):=by rw [ab (by omega) (by omega)];simp
 obtain⟨page,hpg⟩:∃page,(bs.drop (q*p)).take p=page:=⟨_,rfl⟩
 have hpl:page.length=p:=by rw [← hpg];simp;omega
 have h16:(bs.drop (q*p)).take 16=page.take 16:=by rw [← hpg,List.take_take,Nat.min_eq_left (by omega)]
 have h8:(page.take 16).take 8=page.take 8:=by rw [List.take_take,Nat.min_eq_left (by decide)]
 rw [hpg]
 refine en Tryz.func187 Tryz.ntmps187 Tryz.results187 [0,1,2,4,5,6,36] ?_;intro c hP h0 hE kK
 simp only [go_sem,hP,gK q p (by omega),e1,Nat.add_sub_cancel_left,h16,h8]
 refine⟨by omega,?_⟩
 refine aa kK (by exact yl (page.take 8) 8 (by simp;omega) (by decide) (by decide)) ?_
 rw [eC page 8 8 (Nat.le_refl _)]
 simp only [go_sem,hP]
 generalize hm:av page 8=m
 have hmt:=m.toNat_lt
 have hG:aN page=if m.toNat<1∨1099511627776<m.toNat∨page.take 16≠headM m then 0 else (m.toNat:Int):=by unfold aN;rw [hm]
 split
 ·split
  ·rw [ab (by omega) (by omega)]
   refine aa kK (by exact m0 m _ (nC m)) ?_
   simp only [go_sem,hP,dI,strOf,dc,fZ]
   refine⟨by kernel_rfl,?_⟩
   rw [hG]
   split
   ·rw [if_pos (.inr (.inr fun e=>‹¬headM m=_› e.symm))]
   ·have e:headM m=page.take 16:=by simpa using ‹¬ ¬headM m=_›
    rw [if_neg (by rintro (h|h|h)<;>first|omega|exact h e.symm),ab (by omega) (by omega)]
  ·exact⟨by kernel_rfl,by rw [hG,if_pos (by omega)]⟩
 ·exact⟨by kernel_rfl,by rw [hG,if_pos (by omega)]⟩
theorem vF (page:List UInt8) (a:Nat):aq page a<65536:=by
 have h1:=(page.getD a 0).toNat_lt
 have h2:=(page.getD (a+1) 0).toNat_lt
 unfold aq;omega
theorem KG (l:List UInt8) (a m:Nat) (h:a+2≤l.length):(l.drop a).take (2+m)=l.getD a 0::l.getD (a+1) 0::(l.drop (a+2)).take m:=by
 rw [List.drop_eq_getElem_cons (show a<l.length by omega),List.drop_eq_getElem_cons (show a+1<l.length by omega)]
 rw [show 2+m=m+1+1 by omega,List.take_succ_cons,List.take_succ_cons]
 simp [List.getD_eq_getElem?_getD,show a<l.length by omega,show a+1<l.length by omega]
theorem FA (page:List UInt8) (g:UInt64) (a:Nat) (h:a+10+aq page a≤page.length) :
 aY g ((page.drop (a+2)).take (aq page a))=(page.drop a).take (10+aq page a)↔(page.drop (a+2+aq page a)).take 8=mZ g ((page.drop (a+2)).take (aq page a)):=by
 have h1:=(page.getD a 0).toNat_lt
 have h2:=(page.getD (a+1) 0).toNat_lt
 have hd:(page.drop (a+2)).take (aq page a+8)=(page.drop (a+2)).take (aq page a)++(page.drop (a+2+aq page a)).take 8:=by
  rw [List.take_add,List.drop_drop]
 have hl:((page.drop (a+2)).take (aq page a)).length=aq page a:=by simp;omega
 have hhi:UInt8.ofNat (aq page a/256)=page.getD a 0:=by
  apply UInt8.toNat_inj.1
  rw [UInt8.toNat_ofNat'];unfold aq;omega
 have hlo:UInt8.ofNat (aq page a)=page.getD (a+1) 0:=by
  apply UInt8.toNat_inj.1
  rw [UInt8.toNat_ofNat'];unfold aq;omega
 rw [show 10+aq page a=2+(aq page a+8) by omega,KG page a _ (by omega),hd]
 unfold aY
 rw [hl,hhi,hlo]
 simp only [List.cons.injEq,true_and,List.append_cancel_left_eq]
 exact eq_comm
set_option maxHeartbeats 2000000 in
theorem IC (p k q n:Nat) (bs:List UInt8) (hn:n=p*k) (hl:bs.length=n) (hb:n<1000000000) (hq:q<k) (hk:k≤8) (hp:512≤p) (hp2:p≤10000) (g:UInt64) (gi:Int) (hg:IntKind.u64.wrap gi=g.toNat) :
 FPure Tryz.prog 188 [.agg [.i p,.p (.data 1 n (bs.map bt))],.i q,.i gi]
  (.tup [.p (.data 1 (ci ((bs.drop (q*p)).take p) g).1.length ((ci ((bs.drop (q*p)).take p) g).1.map byP)),.i (ci ((bs.drop (q*p)).take p) g).2]):=by
 have hle:=dX (p:=p) hq
 have e1:((q:Int)+1)*(p:Int)=((q*p+p:Nat):Int):=by simp [Int.add_mul]
 have e0:IntKind.i64.wrap ((q:Int)+1)=(q:Int)+1:=ab (by omega) (by omega)
 have e2:IntKind.i64.wrap ((q*p+p:Nat):Int)=((q*p+p:Nat):Int):=ab (by omega) (by omega)
 obtain⟨page,hpg⟩:∃page,(bs.drop (q*p)).take p=page:=⟨_,rfl⟩
 have hpl:page.length=p:=by rw [← hpg];simp;omega
 rw [hpg]
 generalize hT:ci page g=T
 refine en Tryz.func188 Tryz.ntmps188 Tryz.results188 [0,1,2,3,6,7,8,9,10,11,12,29,57,79] ?_;intro c hP h0 hE kK
 simp only [go_sem,hP,gK q p (by omega),e0,e1,e2,Nat.add_sub_cancel_left,hpg]
 refine⟨by omega,?_⟩
 refine bE fF ?_
 refine bo hE h0 (1000008::[0,1,2,3,6,7,8,9,10,11,12,29,57,79]) (α:={ x:Nat×Nat×List (List UInt8) // x.2.1≤p∧p<x.2.1+x.1∧x.2.2++(cg page g x.1 x.2.1).1=T.1∧(cg page g x.1 x.2.1).2=T.2∧x.2.2.length≤x.2.1 })
  (fun x=>⟨90,[(2,.i gi),(8,.p (.data 1 p (page.map bt))),(9,.sl 0 0 x.1.2.2.length 1),(10,.i x.1.2.1)],[(0,some ⟨fF,byL x.1.2.2⟩)],1⟩) (fun x=>x.1.1) ⟨(p,16,[]),by show 16≤p;omega,by show p<16+p;omega,by show []++(cg page g p 16).1=T.1;rw [← hT,←hpl];rfl,by show (cg page g p 16).2=T.2;rw [← hT,←hpl];rfl,by simp⟩ [] (sg 2 [1]) ?_ ?_
 ·refine⟨rfl,?_,?_,rfl,rfl,trivial,fun i h=>bH [1] 2 i h⟩
  ·simp only [go_sem]
  ·simp only [go_sem,byL]
 ·rintro⟨⟨f,a,l⟩,h1,h2,h3,h4,h5⟩
  simp only at h1 h2 h3 h4 h5
  have b1:=(page.getD a 0).toNat_lt
  have b2:=(page.getD (a+1) 0).toNat_lt
  generalize hq:aq page a=m
  have hm:(page.getD a 0).toNat*256+(page.getD (a+1) 0).toNat=m:=hq
  have hm6:m<65536:=by rw [← hq];exact vF page a
  have w1:IntKind.i64.wrap ((a:Int)+10)=((a+10:Nat):Int):=by rw [ab (by omega) (by omega)];simp
  have w2:IntKind.i64.wrap ((a:Int)+1)=((a+1:Nat):Int):=by rw [ab (by omega) (by omega)];simp
  have w3:IntKind.i64.wrap ((a:Int)+2)=((a+2:Nat):Int):=by rw [ab (by omega) (by omega)];simp
  have w4:IntKind.i64.wrap (((a+10:Nat):Int)+(m:Int))=((a+10+m:Nat):Int):=by rw [ab (by omega) (by omega)];simp
  have w5:IntKind.i64.wrap (((a+2:Nat):Int)+(m:Int))=((a+2+m:Nat):Int):=by rw [ab (by omega) (by omega)];simp
  have w6:a+10+m-a=10+m:=by omega
  simp only [go_sem,hP,rC,k7 _ _ b1 b2,hm,w1,w2,w3,w4,w5,w6,Nat.add_sub_cancel_left]
  obtain⟨f,rfl⟩:∃f',f=f'+1:=⟨f-1,by omega⟩
  have stop:bG page g a=[]→l=T.1∧a=T.2:=fun e=>by
   simp only [cg,e,if_true,List.append_nil] at h3 h4;exact⟨h3,h4⟩
  have fin:bG page g a=[]→l.length≤l.length∧(l.length=T.1.length∧List.map byP (List.take l.length l)=List.map byP T.1)∧(a:Int)=(T.2:Int):=fun e=>by
   obtain⟨e1,e2⟩:=stop e
   rw [← e1,←e2]
   exact⟨Nat.le_refl _,⟨rfl,by rw [List.take_of_length_le (Nat.le_refl _)]⟩,rfl⟩
  split
  ·refine⟨⟨by omega,by omega⟩,by omega,⟨by omega,by omega⟩,by omega,by kernel_rfl,?_⟩
   split
   ·split
    ·split
     ·refine fin ?_
      unfold bG;rw [if_neg (by omega),if_pos (by omega)]
     ·refine⟨⟨by omega,by omega,by omega⟩,⟨by omega,by omega⟩,?_⟩
      refine o9 hE (ks:=[0,1,2,3,6,7,8,9,10,11,12,29,57,79]) (n:=2000) 1 ?_ ?_
      ·simp only [go_sem,hP,cI]
       omega
      ·have tt:(((page.drop (a+2)).take m).take m)=(page.drop (a+2)).take m:=by rw [List.take_take,Nat.min_self]
       simp only [go_sem,hP,cI,tP,tt]
       refine aa kK (by exact tA g gi hg ((page.drop (a+2)).take m) m (by simp;omega) (by omega)) ?_
       simp only [go_sem,hP,dI,strOf,dc,fZ,w1,w4,w6]
       refine⟨by omega,by kernel_rfl,?_⟩
       have hiff:=FA page g a (by omega)
       rw [hq] at hiff
       split
       ·refine fin ?_
        rename_i hne
        unfold bG;rw [hq,if_neg (by omega),if_neg (by omega),if_pos (fun e=>hne (hiff.2 e))]
       ·rename_i hne
        have hp:bG page g a=(page.drop (a+2)).take m:=by
         unfold bG;rw [hq,if_neg (by omega),if_neg (by omega),if_neg (fun e=>e (hiff.1 (by simpa using hne)))]
        have hpl2:((page.drop (a+2)).take m).length=m:=by simp;omega
        obtain⟨b,hbb⟩:∃b,(page.drop (a+2)).take m=b:=⟨_,rfl⟩
        rw [hbb] at hp hpl2 ⊢
        simp only [cg,hp] at h3 h4
        have hb0:b≠[]:=fun e=>by subst e;simp at hpl2;omega
        rw [if_neg hb0] at h3 h4
        subst hpl2
        simp only [va]
        refine⟨⟨by omega,by omega⟩,⟨(f,a+10+b.length,l++[b]),by show a+10+b.length≤p;omega,by show p<a+10+b.length+f;omega,by simpa using h3,by simpa using h4,by simp;omega⟩,by show f<f+1;omega,aZ [3] rfl ?_ ?_ rfl rfl (Nat.le_refl _)⟩
        ·simp only [go_sem]
        ·simp only [go_sem]
         exact fA _ _ _ _
    ·refine fin ?_
     unfold bG;rw [if_neg (by omega),if_pos (by omega)]
   ·refine fin ?_
    unfold bG;rw [if_neg (by omega),if_pos (by omega)]
  ·refine fin ?_
   unfold bG
   split
   ·rfl
   ·rw [if_pos (by omega)]
end Go.Proofs.YtebndjnkmcahaaaGreatDoor

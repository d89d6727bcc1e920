/- own work: steps of the proof -/
import Derived.Test.YtgnmplopdkgccaaGreatDoorNm
set_option linter.all false
set_option maxRecDepth 100000
set_option maxHeartbeats 4000000
open Go.IntKind renaming i64→a',u64→b',u8→c'
open UInt64 renaming ofNat→d'
open UInt8 renaming ofNat→e'
open List renaming replicate→f',takeWhile_cons→g'
namespace Go.Abs
open RowKit Proofs Proofs.Tryz
def nd1:Nat->Int|0=>1|_=>0
theorem Ut(l:List Itm)(i:Nat)(e:l.length=19)(f:i<19)(g:¬(l.getD i (.b false)).kd=5)(a:¬(l.getD i (.b false)).kd=6):FPure prog 299 [.p (.data 3 19 (bB l)),.i i] (.tup [.i ((i+1:Nat):Int),.b true]):=by
 apply ba f299 [0,1,4,5,6,7,15,18,24,38,41,49];intro c J j Y Z;have d:=cJ l i (by rw[e];exact f);generalize l.getD i (.b false)=x at *;have m:=ac i
 simp only[go_sem,J,(ω:¬((i:Int)<0)),(ω:¬((i:Int)>=19))];refine ay Y j [0,1,4,5,6,7,15,18,24,38,41,49] 1 (fun k=>⟨56,[(0,.p (.data 3 19 (bB l))),(4,.i ((i+k:Nat):Int)),(6,.i (nd1 k))],[],0⟩) [] (fun i=>i) ?_ ?_
 .refine⟨rfl,?_,?_,rfl,rfl,trivial,fun i h=>h⟩
  .simp only[go_sem,nd1]
  .exact κ
 intro k n;rcases ea k 1 with h1|h1
 .obtain rfl:k=0:=by omega
  have o:3<=(bB l).length-i*3:=by rw[kI,e];omega
  simp only[go_sem,J,d,dW,g,a,(ω:¬((i:Int)>=19)),m,nd1];refine⟨⟨ω,ω⟩,ε,aA [] rfl ?_ ?_ rfl rfl (gi _)⟩
  .simp only[go_sem,nd1];rfl
  .exact κ
 obtain rfl:k=1:=by omega
 simp only[go_sem,J,nd1]
theorem Mo(x:Itm):FPure prog 300 [.p (.data 3 1 (dW x))] (.p (.data 3 1 (dW x))):=by
 apply ba f300 [0,2,4];intro c J a Y Z;refine θ ?_;exact⟨⟨trivial,trivial,trivial,trivial⟩,rfl⟩
theorem Mp{x:Itm}(h:okI x):¬x.kd=5/\¬x.kd=6:=by
 cases x<;>simp[okI,Itm.kd] at *
theorem Mq(l:List Itm)(e:G19 l)(j:Nat)(h1:1<=j)(y:j<=9):FPure prog 215 [.p (.data 3 19 (bB l)),.p (.v (.int .u64 (j:Int)))] (.tup [.p (.data 3 1 (dW (l.getD (2*j) (.b false)))),.b true]):=by
 apply ba f215 [0,1,4,5,6,7,8,18,22,23,24,33,48];intro c J r Y Z;have s:=kI l;have t:=e.len;have a:=cJ l 0 (by rw[e.len];decide);rw[e.h0] at a;have f:((UInt64.toNat 9:Nat):Int)=9:=ε;refine δ (Aa l e) ?_;simp only[go_sem,J,a,dW,Itm.kd,Itm.nu,f];refine ay Y r [0,1,4,5,6,7,8,18,22,23,24,33,48] (j-1) (fun k=>⟨57,[(0,.p (.data 3 19 (bB l))),(1,.p (.v (.int .u64 (j:Int)))),(6,.i ((1+2*k:Nat):Int)),(22,.p (.v (.int .u64 9))),(23,.p (.v (.int .u64 (k:Int))))],[],0⟩) [] (fun i=>i) ?_ ?_
 .refine⟨rfl,?_,?_,rfl,rfl,trivial,fun i h=>h⟩
  .simp only[go_sem];exact f
  .exact κ
 intro k u;have o:=e.hk (k+1) ω ω;rw[(ω:2*(k+1)-1=1+2*k)] at o;have hv:=e.hv (k+1) ω ω;rw[(ω:2*(k+1)=2+2*k)] at hv;have d:=cJ l (1+2*k) ω;rw[o] at d;have hs:=Ut l (2+2*k) t ω (Mp hv).1 (Mp hv).2;have m:a'.wrap (((1+2*k:Nat):Int)+1)=((2+2*k:Nat):Int):=by rw[ab ω ω];omega
 have q:(((d' (k+1)).toNat:Nat):Int)=((k+1:Nat):Int):=by rw[gr,ie ω]
 rcases ea k (j-1) with h2|h2
 .simp only[go_sem,J,m,(ω:((k:Int)<9))];apply aa Z hs;simp only[go_sem,J,d,dW,Itm.kd,Itm.nu,q,(ω:¬(((k+1:Nat):Int)=j))];refine⟨⟨ω,ω⟩,⟨ω,ω⟩,h2,aA [] rfl ?_ ?_ rfl rfl (gi _)⟩
  .simp only[go_sem,(ω:1+2*(k+1)=2+2*k+1),ao (n:=(k:Int)+1) ω ω];trivial
  .exact κ
 obtain rfl:j=k+1:=by omega
 have g:=cJ l (2+2*k) ω;generalize w:l.getD (2+2*k) (.b false)=x at *;simp only[go_sem,J,m,(ω:((k:Int)<9))];apply aa Z hs;simp only[go_sem,J,d,dW,Itm.kd,Itm.nu,q,m,(ω:2+2*k+1-(2+2*k)=1),g];refine⟨⟨ω,ω⟩,⟨ω,ω⟩,⟨ω,ω,ω⟩,?_⟩;apply aa Z (Mo x);simp only[go_sem,J,dW];rw[(ω:2*(k+1)=2+2*k),w];exact⟨rfl,rfl,rfl⟩
theorem PO(l:List Itm)(a:G19 l)(j:Nat)(h1:1<=j)(d:j<=9):FPure prog 142 [.p (.data 3 19 (bB l)),.p (.v (.int .u64 (j:Int)))] (.agg (eP (l.getD (2*j) (.b false)))):=by
 apply ba f142 [0,1,4,5,6,19];intro c J f Y Z;have e:=Mq l a j h1 d;generalize l.getD (2*j) (.b false)=x at *;refine δ e ?_;simp only[go_sem,J,dW]
 done
theorem lL(x:Cr)(h:CrOk x)(j:Nat)(y:Itm)(h1:1<=j)(a:j<=9)(e:(crL x).getD (2*j) (.b false)=y)(n:Int)(c:n=j):FPure prog 142 [.p (.data 3 19 (bB (crL x))),.p (.v (.int .u64 n))] (.agg (eP y)):=by
 subst e c;exact PO (crL x) h.G j h1 a
theorem yg(n:Int)(a:0<=n)(h:n<1000000):a'.wrap (((kL n).toNat:Nat):Int)=n:=by
 rw[<-fR n a h,ao a ω,ab ω ω]
theorem abx(b:Bool):((((bN b).toNat:Nat):Int)==1)=b:=by cases b<;>decide
theorem CL(x:Cr)(h:CrOk x):(fj x).length<1000000:=by
 have:=h.G.bs 19 ε;rw[show(crL x).take 19=crL x from cD (by rw[h.G.len];decide)] at this;unfold fj;omega
theorem Uu(x:Cr)(h:CrOk x):FPure prog 72 [.p (.data 1 (fj x).length ((fj x).map bt))] (.tup [.agg (crC x),.i 0]):=by
 apply ba f72 [0,2,3,4,6,7,8,16,63];intro c J j Y Z;have f:=EK (crL x) h.G (fj x) (fj x).length rfl rfl;have a:=yg x.hg (by have:=h.hg;omega) (by have:=h.hg;omega);have e:=yg x.pt (by have:=h.pt;omega) (by have:=h.pt;omega);have g:=Il x h;have k:=CL x h;refine δ f ?_;refine δ (lL x h 1 (.t x.rp) ε ε rfl 1 rfl) ?_;refine δ (lL x h 2 (.d x.us) ε ε rfl 2 rfl) ?_;refine δ (lL x h 3 (.t x.nm) ε ε rfl 3 rfl) ?_;refine δ (lL x h 4 (.u x.sd) ε ε rfl 4 rfl) ?_;refine δ (lL x h 5 (.u (kL x.hg)) ε ε rfl 5 rfl) ?_;refine δ (lL x h 6 (.b x.rs) ε ε rfl 6 rfl) ?_;refine δ (lL x h 7 (.u (kL x.pt)) ε ε rfl 7 rfl) ?_;refine δ (lL x h 8 (.b x.sh) ε ε rfl 8 rfl) ?_;refine δ (lL x h 9 (.b x.bk) ε ε rfl 9 rfl) ?_;simp only[go_sem,J,abx,show ∀n,(Itm.u n).nu=n from fun _=>rfl,a,e];apply aa Z g;refine δ (tM (fj x) (fj x) (fj x).length (fj x).length) ?_;simp only[go_sem,J,beq_self_eq_true]
@[simp] theorem aby(S:List Nat)(T:List Itm):ak S (cZ T):=by unfold cZ;exact aM _ _
theorem IL(n:UInt64)(h:¬n.toNat<24):iF .i64 1 (b'.wrap (a'.wrap (((loN n).toNat:Int)-24)))=(szN n:Int)/\24<=(loN n).toNat /\
 (szN n=1/\¬n.toNat<24\/szN n=2/\¬n.toNat<256\/szN n=4/\¬n.toNat<65536\/szN n=8/\¬n.toNat<4294967296):=by
 by_cases h1:n.toNat<256
 .rw[(mM n h h1).1,(mM n h h1).2];exact⟨ε,ε,.inl ⟨rfl,h⟩⟩
 by_cases h2:n.toNat<65536
 .rw[(og n h1 h2).1,(og n h1 h2).2];exact⟨ε,ε,.inr (.inl ⟨rfl,h1⟩)⟩
 by_cases a:n.toNat<4294967296
 .rw[(oh n h2 a).1,(oh n h2 a).2];exact⟨ε,ε,.inr (.inr (.inl ⟨rfl,h2⟩))⟩
 .rw[(oi n a).1,(oi n a).2];exact⟨ε,ε,.inr (.inr (.inr ⟨rfl,a⟩))⟩
abbrev rrT:Nat:=379
abbrev rrF(B:List UInt8)(at':Int)(n:Nat)(T:List Itm):List (Nat×Option Blk):=[(0,some ⟨rrT,[sv B,.i at',.sl 1 0 n 3]⟩),(1,some ⟨dp,cZ T⟩)]
def ajC:List Nat:=[0,2,3,4,5,6,7,8,9,10,20,31,32,46,67,70,87,92,95,120]
attribute[go_sem]ajC
theorem PP(v:Bool)(B d:List UInt8)(L p:Nat)(j:B.length=L)(g:L<1000000)(h:B.drop p=(if v then 245 else 244)::d)(n:Nat)(T:List Itm) :
 Con prog 353 [.ptr 0 0] (rrF B p n T) (.tup [.agg (eP (.b v)),.i 0]) (rrF B ((p+1:Nat):Int) n T):=by
 apply bn 2 f353 ajC;intro c J k Y Z;have⟨a,l,g3,g4⟩:=jc h;have w1:=ac p
 have f:¬((p:Int)>=(B.length:Int)):=ω;cases v with
 |false =>
  have a:B.getD p 0=244:=a;have e:(((244:UInt8).toNat:Nat):Int)=244:=rfl;simp only[go_sem,J,a,w1,f,e,show b'.wrap (c'.wrap (244-244))=0 from ε];exact agH
 |true =>
  have a:B.getD p 0=245:=a;have e:(((245:UInt8).toNat:Nat):Int)=245:=rfl;simp only[go_sem,J,a,w1,f,e,show b'.wrap (c'.wrap (245-244))=1 from ε];exact agH
theorem Q3:∀k:_root_.Fin 6,ag (.v (.int .i64 0)) (List.drop k.val [AV.i 1,.i 2,.i 3,.i 4,.i 5,.i 6]) = .i (1+(k.val:Int))
 |0=>rfl|1=>rfl|2=>rfl|3=>rfl|4=>rfl|5=>rfl
theorem tO(k:_root_.Fin 6)(n:UInt64)(B a:List UInt8)(L p:Nat)(hL:B.length=L)(U:L<1000000)(v:B.drop p=hdB (e' (32*k.val)) n++a)(m:Nat)(T:List Itm) :
 Con prog 353 [.ptr 0 0] (rrF B p m T) (.tup [.agg [.i (1+(k.val:Int)),.w n,sv []],.i 0]) (rrF B ((p+(1+szN n):Nat):Int) m T):=by
 apply bn 2 f353 ajC;intro c J G Y Z;have⟨e,V,W,X⟩:=LD n;have⟨f1,H,I⟩:=Gx k e;unfold hdB at v;rw[V] at v;have⟨K,g2,g3,g4⟩:=jc v;have g3:B.drop (p+1)=bgB n (szN n) (szN n)++a:=g3;have g4:B.length=p+1+(bgB n (szN n) (szN n)++a).length:=g4;generalize e' (32*k.val)+e' e.val=F at *;have w1:=ac p
 have M:a'.wrap (k.val:Int)=(k.val:Int):=ab ω ω;have g:a'.wrap (e.val:Int)=(e.val:Int):=ab ω ω;have N:b'.wrap (e.val:Int)=(e.val:Int):=ao ω ω;have O:¬((p:Int)>=(B.length:Int)):=ω;have j:¬((F.toNat:Int)=244):=ω;have l:¬((F.toNat:Int)=245):=ω;have o:¬((F.toNat:Int)=246):=ω;have q:=Q3 k;have P:¬((k.val:Int)>5):=ω;have r:¬((e.val:Int)>27):=ω;by_cases f:n.toNat<24
 .have e5:=X f;have Q:=(pX n f).2;have e8:a'.wrap (n.toNat:Int)=n.toNat:=ab ω ω;have e9:b'.wrap (n.toNat:Int)=n.toNat:=ao ω ω;have x:a'.wrap (a'.wrap ((B.length:Int)-(p:Int))-1)=((B.length-(p+1):Nat):Int):=by rw[ab (n:=(B.length:Int)-(p:Int)) ω ω,ab ω ω];omega
  have u:¬(((B.length-(p+1):Nat):Int)<0):=ω;simp only[go_sem,J,K,w1,M,g,N,x,H,I,O,j,l,o,P,r,(ω:¬((n.toNat:Int)>=24)),(ω:¬((27:Int)<n.toNat)),e5,Q,e8,e9,u];refine⟨π,⟨ω,ω⟩,π,π,?_⟩;refine bK Y [0,1] (fun i hi=>by have:=G i hi;simpa[liveK] using this) ajC 0 (fun i=>⟨137,[(0,.ptr 0 0),(2,.ptr 2 0),(3,.i 0),(5,.i k.val),(7,.i 0),(8,.w n),(9,.i 0)],rrF B p m T++[(2,some ⟨dp,[.i 0,.w 0,sv []]⟩)],3⟩) [] (fun i=>i) ⟨rfl,?_,?_,rfl,rfl,trivial,fun i h=>h⟩ (fun i _=>rfl) ?_
  .exact κ
  .exact κ
   done
  intro i hi;obtain rfl:i=0:=by omega
  have b:a'.wrap ((p:Int)+1)=((p+1:Nat):Int):=w1;simp only[go_sem,J,u,(ω:¬((n.toNat:Int)<0)),b,show a'.wrap (1+0)=1 from ε,q];rw[Q];exact afx
 have⟨R,z2,z3⟩:=IL n f;rw[<-W] at R;have y:=ia n;have z:=QX n (szN n) y (Gn n ω);have s:((e.val:Int)>=24):=ω;generalize hS:szN n=S at *;generalize hD:bgB n S S=D at *;have A:D.length=S:=by rw[<-hD,lF]
 rw[c9,A] at g4;have x:a'.wrap (a'.wrap ((B.length:Int)-(p:Int))-1)=((B.length-(p+1):Nat):Int):=by rw[ab (n:=(B.length:Int)-(p:Int)) ω ω,ab ω ω];omega
 have u:¬(((B.length-(p+1):Nat):Int)<(S:Int)):=ω;have pS:(S:Int)>0:=ω;simp only[go_sem,J,K,w1,M,g,N,x,R,H,I,O,j,l,o,P,r,s,u,pS];refine⟨π,⟨ω,ω⟩,π,π,?_⟩;have t:∀i,i<S->B.getD (p+1+i) 0=D.getD i 0:=by
  intro i hi;have:(B.drop (p+1)).getD i 0=B.getD (p+1+i) 0:=by simp[cR]
  rw[<-this,g3];simp[cR,List.getElem?_append_left (by omega:i<D.length)]
 refine bK Y [0,1] (fun i hi=>by have:=G i hi;simpa[liveK] using this) ajC S (fun i=>⟨137,[(0,.ptr 0 0),(2,.ptr 2 0),(3,.i 0),(5,.i k.val),(7,.i S),(8,.w (aB D i)),(9,.i i)],rrF B p m T++[(2,some ⟨dp,[.i 0,.w 0,sv []]⟩)],3⟩) [] (fun i=>i) ⟨rfl,?_,?_,rfl,rfl,trivial,fun i h=>h⟩ (fun i _=>rfl) ?_
 .simp only[go_sem,aB]
 .exact κ
  done
 intro i hi;rcases ea i S with his|his
 .have hw:=ac i
  have C:a'.wrap (((p+1:Nat):Int)+(i:Int))=((p+1+i:Nat):Int):=by rw[ab ω ω];omega
  have E:aB D (i+1)=eJ (aB D i) 8 ||| (D.getD i 0).toUInt64:=rfl
  have hc:=t i his;generalize aB D i=m at *;generalize aB D (i+1)=m' at *;subst E;simp only[go_sem,J,hw,w1,C,hc,dS,kZ m 8 ε,g6,fK,pA,j9,(ω:((i:Int)<(S:Int)))];exact agW
 obtain rfl:i=S:=by omega
 rw[z];have d:¬((i:Int)<(i:Int)):=ω;rcases z3 with⟨rfl,z4⟩|⟨rfl,z4⟩|⟨rfl,z4⟩|⟨rfl,z4⟩
 .have b:a'.wrap ((p:Int)+2)=((p+(1+1):Nat):Int):=by rw[ab ω ω];omega
  simp only[go_sem,J,d,(ω:¬((n.toNat:Int)<24)),b,show a'.wrap (1+1)=2 from ε,q];exact afx
 .have b:a'.wrap ((p:Int)+3)=((p+(1+2):Nat):Int):=by rw[ab ω ω];omega
  simp only[go_sem,J,d,(ω:¬((n.toNat:Int)<256)),b,show a'.wrap (1+2)=3 from ε,q];exact afx
 .have b:a'.wrap ((p:Int)+5)=((p+(1+4):Nat):Int):=by rw[ab ω ω];omega
  simp only[go_sem,J,d,(ω:¬((n.toNat:Int)<65536)),b,show a'.wrap (1+4)=5 from ε,q];exact afx
 .have b:a'.wrap ((p:Int)+9)=((p+(1+8):Nat):Int):=by rw[ab ω ω];omega
  simp only[go_sem,J,d,(ω:¬((n.toNat:Int)<4294967296)),b,show a'.wrap (1+8)=9 from ε,q];exact afx
theorem PQ(B a:List UInt8)(L:Nat)(k:B.length=L)(b:L<1000000)(d:B=169::a) :
 Con prog 353 [.ptr 0 0] [(0,some ⟨rrT,[sv B,.i 0,eK]⟩)] (.tup [.agg (eP (.m 9)),.i 0]) [(0,some ⟨rrT,[sv B,.i 1,eK]⟩)]:=by
 apply bn 1 f353 ajC;intro c J e Y Z;obtain⟨f,l,g3,g4⟩:=jc (B:=B) (p:=0) (by simpa using d);have g:(((169:UInt8).toNat:Nat):Int)=169:=rfl;have o:(0:Int)<B.length:=ω;have j:a'.wrap (a'.wrap ((B.length:Int)-0)-1)=((B.length-1:Nat):Int):=by rw[ab (n:=(B.length:Int)-0) ω ω,ab ω ω];omega
 simp only[go_sem,J,f,g,j,(ω:¬((B.length:Int)<=0)),(ω:¬((0:Int)>=(B.length:Int))),(ω:¬(((B.length-1:Nat):Int)<0)),show a'.wrap (0+1)=1 from ε,show ishr .u8 169 5=5 from ε,show band .u8 169 31=9 from ε,show a'.wrap 5=5 from ε,show a'.wrap 9=9 from ε,show b'.wrap 9=9 from ε];refine⟨π,ω,π,π,?_⟩;refine bK Y [0] (fun i hi=>by have:=e i hi;simpa[liveK] using this) ajC 0 (fun i=>⟨137,[(0,.ptr 0 0),(2,.ptr 1 0),(3,.i 0),(5,.i 5),(7,.i 0),(8,.w 9),(9,.i 0)],[(0,some ⟨rrT,[sv B,.i 0,eK]⟩)]++[(1,some ⟨dp,[.i 0,.w 0,sv []]⟩)],2⟩) [] (fun i=>i) ⟨rfl,?_,?_,rfl,rfl,trivial,fun i h=>h⟩ (fun i _=>rfl) ?_
 .simp only[go_sem];rfl
 .simp only[go_sem]
 intro i hi;obtain rfl:i=0:=by omega
 simp only[go_sem,J,show¬((((9:UInt64).toNat:Nat):Int)<0) from ε,show a'.wrap (0+1)=1 from ε,show a'.wrap (1+0)=1 from ε];exact Φ
abbrev rrG(B:List UInt8)(at':Int)(n:Nat)(T:List Itm):List (Nat×Option Blk):=[(0,some ⟨rrT,[sv B,.i at',.sl 2 0 n 3]⟩),(2,some ⟨dp,cZ T⟩),(1,none)]
theorem oW(nx a:Nat):∀i,i∉[0,2]->nx<=sg nx [0,nx,a] i:=by
 intro i b
 match i,b with
 |0,b=>exact s5 η b
 |1,_=>simp[sg]
 |2,b=>exact s5 η b
 |i+3,_=>simp[sg];omega
def ajB:List Nat:=[0,1,2,3,8,9,10,11,12,13,14,15,16,17,18,25,45,52,60,63,76,93,129,141,157,162,174,189]
attribute[go_sem]ajB
theorem Mr(x:Itm)(k:okI x)(B a:List UInt8)(L p:Nat)(hL:B.length=L)(j:L<1000000)(l:B.drop p=cn x++a)(m:Nat)(T:List Itm)(F:T.length=m)(E:m<512) :
 Con prog 316 [.ptr 0 0,.i 1,.b false,sv []] (rrF B p m T) (.i 0) (rrG B ((p+(cn x).length:Nat):Int) (m+1) (T++[x])):=by
 refine bn 2 f316 ajB ?_;intro c J o Y Z;cases x
 case m n=>exact k.elim
 case u n =>
  have g:=tO 0 n B a L p hL j (by simpa[cn] using l) m T;rw[show(1+(((0:_root_.Fin 6).val:Nat):Int))=1 from rfl] at g;have hlen:(cn (.u n)).length=1+szN n:=ci 0 n;have sN:cZ T++[.p (.v (.int .i64 1)),.p (wd n),.p (.v (.string ⟨#[]⟩))]=cZ (T++[.u n]):=jd T (.u n);refine θ ?_;refine x_k Z 2 g ?_;simp only[go_sem,J,(ω:¬((m:Int)>=512))];refine⟨π,⟨ω,ω,ω⟩,π,?_⟩;refine bK Y [0,1] (fun i hi=>by have:=o i hi;simpa[liveK] using this) ajB 0 (fun i=>⟨191,[(13,.b false)],[(0,some ⟨rrT,[sv B,.i ((p+(cn (.u n)).length:Nat):Int),.sl 2 0 (m+1) 3]⟩),(2,some ⟨dp,cZ (T++[.u n])⟩)],3⟩) [] (sg 5 [0,1,4]) ⟨rfl,?_,?_,rfl,rfl,trivial,fun i h=>aw [0,1,4] 5 i h⟩ (fun i hi=>by simp at hi;rcases hi with rfl|rfl<;>rfl) ?_
  .exact κ
  .exact aiJ
  exact afu
 case b v =>
  have g:=PP v B a L p hL j (by simpa[cn] using l) m T;have hlen:(cn (.b v)).length=1:=rfl;have sN:cZ T++[.p (.v (.int .i64 7)),.p (wd (bN v)),.p (.v (.string ⟨#[]⟩))]=cZ (T++[.b v]):=jd T (.b v);refine θ ?_;refine x_k Z 2 g ?_;simp only[go_sem,J,(ω:¬((m:Int)>=512))];refine⟨π,⟨ω,ω,ω⟩,π,?_⟩;refine bK Y [0,1] (fun i hi=>by have:=o i hi;simpa[liveK] using this) ajB 0 (fun i=>⟨191,[(13,.b false)],[(0,some ⟨rrT,[sv B,.i ((p+(cn (.b v)).length:Nat):Int),.sl 2 0 (m+1) 3]⟩),(2,some ⟨dp,cZ (T++[.b v])⟩)],3⟩) [] (sg 5 [0,1,4]) ⟨rfl,?_,?_,rfl,rfl,trivial,fun i h=>aw [0,1,4] 5 i h⟩ (fun i hi=>by simp at hi;rcases hi with rfl|rfl<;>rfl) ?_
  .exact κ
  .exact aiJ
  exact afu
 case d s =>
  have hs:s.length<=1024:=k;have q:((d' s.length).toNat:Int)=s.length:=by rw[gr,ie ω]
  have hB':B.drop p=hdB 64 (d' s.length)++(s++a):=by rw[l];simp[cn]
  have g:=tO 2 (d' s.length) B (s++a) L p hL j hB' m T;rw[show(1+(((2:_root_.Fin 6).val:Nat):Int))=3 from rfl] at g;generalize hz:1+szN (d' s.length)=z at *;have hlen:(cn (.d s)).length=z+s.length:=by rw[cn,c9,ci,hz]
  have e:(B.drop (p+z)).take s.length=s:=by
   exact air
  have r:p+z+s.length<=L:=by
   exact agC
  have w1:a'.wrap (s.length:Int)=s.length:=ab ω ω;have w:a'.wrap (((p+z:Nat):Int)+(s.length:Int))=((p+z+s.length:Nat):Int):=by rw[ab ω ω];omega
  have y:a'.wrap ((B.length:Int)-((p+z:Nat):Int))=((B.length-(p+z):Nat):Int):=by rw[ab ω ω];omega
  have A:b'.wrap ((B.length-(p+z):Nat):Int)=((B.length-(p+z):Nat):Int):=ao ω ω;have f:(⟨B.toArray⟩:ByteArray).extract (p+z) (p+z+s.length)=⟨s.toArray⟩:=by rw[oR,List.drop_take,ms,e]
  have C:¬((s.length:Int)>1024):=ω;have D:¬(((B.length-(p+z):Nat):Int)<(s.length:Int)):=ω;have sN:cZ T++[.p (.v (.int .i64 3)),.p (.v (.int .u64 0)),.p (.v (.string ⟨s.toArray⟩))]=cZ (T++[.d s]):=jd T (.d s);refine θ ?_;refine x_k Z 2 g ?_;simp only[go_sem,J,(ω:¬((m:Int)>=512)),q,w1,w,y,A,C,D,f];refine⟨π,⟨ω,ω,ω⟩,π,⟨ω,ω,ω⟩,π,?_⟩;refine bK Y [0,1] (fun i hi=>by have:=o i hi;simpa[liveK] using this) ajB 0 (fun i=>⟨191,[(13,.b false)],[(0,some ⟨rrT,[sv B,.i ((p+(cn (.d s)).length:Nat):Int),.sl 2 0 (m+1) 3]⟩),(2,some ⟨dp,cZ (T++[.d s])⟩)],3⟩) [] (sg 5 [0,1,4]) ⟨rfl,?_,?_,rfl,rfl,trivial,fun i h=>aw [0,1,4] 5 i h⟩ (fun i hi=>by simp at hi;rcases hi with rfl|rfl<;>rfl) ?_
  .exact κ
  .exact aiJ
  exact afu
 case t s =>
  have hs:s.length<=1024:=k.1;have q:((d' s.length).toNat:Int)=s.length:=by rw[gr,ie ω]
  have hB':B.drop p=hdB 96 (d' s.length)++(s++a):=by rw[l];simp[cn]
  have g:=tO 3 (d' s.length) B (s++a) L p hL j hB' m T;rw[show(1+(((3:_root_.Fin 6).val:Nat):Int))=4 from rfl] at g;generalize hz:1+szN (d' s.length)=z at *;have hlen:(cn (.t s)).length=z+s.length:=by rw[cn,c9,ci,hz]
  have e:(B.drop (p+z)).take s.length=s:=by
   exact aiq
  have r:p+z+s.length<=L:=by
   exact agC
  have w1:a'.wrap (s.length:Int)=s.length:=ab ω ω;have w:a'.wrap (((p+z:Nat):Int)+(s.length:Int))=((p+z+s.length:Nat):Int):=by rw[ab ω ω];omega
  have y:a'.wrap ((B.length:Int)-((p+z:Nat):Int))=((B.length-(p+z):Nat):Int):=by rw[ab ω ω];omega
  have A:b'.wrap ((B.length-(p+z):Nat):Int)=((B.length-(p+z):Nat):Int):=ao ω ω;have f:(⟨B.toArray⟩:ByteArray).extract (p+z) (p+z+s.length)=⟨s.toArray⟩:=by rw[oR,List.drop_take,ms,e]
  have C:¬((s.length:Int)>1024):=ω;have D:¬(((B.length-(p+z):Nat):Int)<(s.length:Int)):=ω;have sN:cZ T++[.p (.v (.int .i64 4)),.p (.v (.int .u64 0)),.p (.v (.string ⟨s.toArray⟩))]=cZ (T++[.t s]):=jd T (.t s);refine θ ?_;refine x_k Z 2 g ?_;simp only[go_sem,J,(ω:¬((m:Int)>=512)),q,w1,w,y,A,C,D,f];refine⟨π,⟨ω,ω,ω⟩,π,?_⟩;refine aa Z (bW s ω) ?_;simp only[go_sem,J,k.2];refine⟨⟨ω,ω,ω⟩,π,?_⟩;refine bK Y [0,1] (fun i hi=>by have:=o i hi;simpa[liveK] using this) ajB 0 (fun i=>⟨191,[(13,.b false)],[(0,some ⟨rrT,[sv B,.i ((p+(cn (.t s)).length:Nat):Int),.sl 2 0 (m+1) 3]⟩),(2,some ⟨dp,cZ (T++[.t s])⟩)],3⟩) [] (sg 5 [0,1,4]) ⟨rfl,?_,?_,rfl,rfl,trivial,fun i h=>aw [0,1,4] 5 i h⟩ (fun i hi=>by simp at hi;rcases hi with rfl|rfl<;>rfl) ?_
  .exact κ
  .exact aiJ
  exact afu
theorem Ms(j:Nat)(h1:1<=j)(x:j<=9)(B a:List UInt8)(L p:Nat)(q:B.length=L)(f:L<1000000)(r:B.drop p=cn (.u (d' j))++a)(m:Nat)(T:List Itm)(y:T.length=m)(s:m<512) :
 Con prog 316 [.ptr 0 0,.i 1,.b true,sv (bfP j)] (rrF B p m T) (.i 0) (rrG B ((p+1:Nat):Int) (m+1) (T++[.u (d' j)])):=by
 refine bn 2 f316 ajB ?_;intro c J l Y Z;have n:=mN (.u (d' j)) (by simp[Itm.da]);rw[show cn (.u (d' j))=[e' j] from Ih ⟨j,ω⟩] at n;have d:=fun h=>Gv (e' (j-1)) (e' j) h
 have t:(d' j).toNat<24:=by rw[gr,ie ω];omega
 generalize e:bfP j=bf at *;generalize d' j=w at *;have g:=tO 0 w B a L p q f r m T;rw[show(1+(((0:_root_.Fin 6).val:Nat):Int))=1 from rfl,(pX w t).2] at g;have o:cZ T++[.p (.v (.int .i64 1)),.p (wd w),.p (.v (.string ⟨#[]⟩))]=cZ (T++[.u w]):=jd T (.u w);by_cases k:j=1
 .obtain rfl:bf=[]:=by rw[<-e];unfold bfP;rw[b9 k]
  refine θ ?_;refine x_k Z 2 g ?_;simp only[go_sem,J,(ω:¬((m:Int)>=512))];refine aa Z rE ?_;refine θ ?_;refine⟨π,⟨ω,ω,ω⟩,π,?_⟩;refine bK Y [0,1] (fun i hi=>by have:=l i hi;simpa[liveK] using this) ajB 0 (fun i=>⟨191,[(13,.b false)],[(0,some ⟨rrT,[sv B,.i ((p+1:Nat):Int),.sl 2 0 (m+1) 3]⟩),(2,some ⟨dp,cZ (T++[.u w])⟩)],3⟩) [] (sg 5 [0,1,4]) ⟨rfl,?_,?_,rfl,rfl,trivial,fun i h=>aw [0,1,4] 5 i h⟩ (fun i hi=>by simp at hi;rcases hi with rfl|rfl<;>rfl) ?_
  .exact κ
  .simp only[go_sem,o]
  exact afu
 .obtain rfl:bf=[e' (j-1)]:=by rw[<-e];unfold bfP;rw[b0 ω]
  have d:=d (by rw[nw,nw];omega);generalize e' (j-1)=u1 at *;generalize e' j=u2 at *;refine θ ?_;refine x_k Z 2 g ?_;simp only[go_sem,J,(ω:¬((m:Int)>=512))];refine aa Z rE ?_;simp only[go_sem,J,cK];refine⟨π,?_⟩;refine aa Z n ?_;refine δ d ?_;refine θ ?_;refine⟨⟨ω,ω,ω⟩,π,?_⟩;refine bK Y [0,1] (fun i hi=>by have:=l i hi;simpa[liveK] using this) ajB 0 (fun i=>⟨191,[(13,.b false)],[(0,some ⟨rrT,[sv B,.i ((p+1:Nat):Int),.sl 2 0 (m+1) 3]⟩),(2,some ⟨dp,cZ (T++[.u w])⟩)],3⟩) [] (sg 5 [0,1,4]) ⟨rfl,?_,?_,rfl,rfl,trivial,fun i h=>aw [0,1,4] 5 i h⟩ (fun i hi=>by simp at hi;rcases hi with rfl|rfl<;>rfl) ?_
  .exact κ
  .simp only[go_sem,o]
  exact afu
theorem IM(T:List Itm)(x:Itm)(m:Nat)(h:T.length=m)(r:List Itm):(cZ (T++x::r)).drop (m*3) = .i x.kd :: .w x.nu::sv x.da::cZ r:=by
 have:=Gw (T++x::r) m ζ;rw[this];subst h;simp[cR,List.drop_append,l2 (Nat.le_succ T.length)]
theorem IN(l:List Itm)(i:Nat)(h:i+1<l.length):l.take (i+2)=l.take i++[l.getD i (.b false),l.getD (i+1) (.b false)]:=by
 rw[show i+2=(i+1)+1 from rfl,p9 l (i+1) h,p9 l i ω,List.append_assoc];rfl
theorem Mt(l:List Itm)(hl:G19 l)(B:List UInt8)(L:Nat)(hB:B=cO l)(hL:B.length=L) :
 Con prog 316 [.ptr 0 0,.i 0,.b false,sv []] [(0,some ⟨rrT,[sv B,.i 0,eK]⟩)] (.i 0) [(0,some ⟨rrT,[sv B,.i L,.sl 1 0 19 3]⟩),(1,some ⟨dp,cZ l⟩)]:=by
 refine bn 1 f316 ajB ?_;intro c J D Y Z;have d:L<1000000:=by
  exact ag8
 have a:=iK l 0 (by rw[hl.len];decide);rw[hl.h0] at a;have E:=PQ B (cO (l.drop 1)) L hL d (by rw[hB];simpa[cO,cn,hdB,loN,szN,bgB] using a);have j:(((9:UInt64).toNat:Nat):Int)=9:=rfl;have k:l.take 1=[.m 9]:=by have:=p9 l 0 (by rw[hl.len];decide);rw[hl.h0] at this;exact this
 have F:gW l 1=1:=by unfold gW;rw[k];rfl
 refine θ ?_;refine x_k Z 1 E ?_;simp only[go_sem,J,j];refine⟨π,π,?_⟩;refine bK Y [0] (fun i hi=>by have:=D i hi;simpa[liveK] using this) ajB 9 (fun i=>⟨191,[(0,.ptr 0 0),(1,.i 0),(9,.ptr 2 0),(11,.w 9),(13,.b true),(14,sv (laS i)),(15,.p (.v (.int .u64 i)))],[(0,some ⟨rrT,[sv B,.i (gW l (1+2*i)),.sl 1 0 (1+2*i) 3]⟩),(1,some ⟨dp,cZ (l.take (1+2*i))⟩),(2,some ⟨dp,eP (.m 9)⟩)],3⟩) [] (sg 4 [0,3,1]) ?_ (fun i hi=>by simp at hi;subst hi;rfl) ?_
 .refine⟨rfl,?_,?_,rfl,rfl,trivial,fun i h=>aw [0,3,1] 4 i h⟩
  .simp only[go_sem,laS,j]
  .simp only[go_sem,Nat.mul_zero,Nat.add_zero,k,F];exact(show aj _ _ _ (cZ [.m 9]) (cZ [.m 9]) from kJ _ _ _ _)
 intro i hi;rcases ea i 9 with f|f
 .have o:=hl.hk (i+1) ω ω;have hv:=hl.hv (i+1) ω ω;rw[(ω:2*(i+1)-1=1+2*i)] at o;rw[(ω:2*(i+1)=1+2*i+1)] at hv;have r:=iK l (1+2*i) (by rw[hl.len];omega);have s:=iK l (1+2*i+1) (by rw[hl.len];omega);rw[<-hB] at r s;rw[o] at r;have z:gW l (1+2*i+1)=gW l (1+2*i)+1:=by
   unfold gW;rw[gq l _ (by rw[hl.len];omega),c9,o,Ih ⟨i+1,ω⟩];rfl
  have G:gW l (1+2*(i+1))=gW l (1+2*i)+1+(cn (l.getD (1+2*i+1) (.b false))).length:=by
   rw[<-z];unfold gW;rw[(ω:1+2*(i+1)=1+2*i+1+1),gq l _ (by rw[hl.len];omega),c9]
  have A:=IN l (1+2*i) (by rw[hl.len];omega);rw[o,(ω:1+2*i+2=1+2*(i+1))] at A;have e:(l.take (1+2*i)).length=1+2*i:=by rw[hV,hl.len];omega
  rw[show(cO (l.take (1+2*i+1))).length=gW l (1+2*i)+1 from z] at s;have q:=Ms (i+1) ω ω B _ L (gW l (1+2*i)) hL d r (1+2*i) (l.take (1+2*i)) e ω;have g:=Mr _ hv B _ L (gW l (1+2*i)+1) hL d s (1+2*i+1) (l.take (1+2*i)++[.u (d' (i+1))]) (by rw[c9,e];rfl) ω;have C:=mN (.u (d' (i+1))) (by simp[Itm.da]);rw[show cn (.u (d' (i+1)))=[e' (i+1)] from Ih ⟨i+1,ω⟩] at C;have k:bfP (i+1)=laS i:=by
   unfold bfP laS;by_cases h:i=0
   .subst h;rfl
   .rw[b0 ω,b0 h];rfl
  have H:laS (i+1)=[e' (i+1)]:=by unfold laS;rw[b0 ω]
  have I:b'.wrap ((i:Int)+1)=((i+1:Nat):Int):=by rw[ao ω ω];omega
  have t:=IM (l.take (1+2*i)) (.u (d' (i+1))) _ e [];rw[List.append_assoc] at g;rw[k] at q;rw[A,G,H];generalize laS i=la at *;generalize gW l (1+2*i)=p at *;generalize l.take (1+2*i)=T at *;generalize l.getD (1+2*i+1) (.b false)=x at *;generalize d' (i+1)=w at *;generalize e' (i+1)=w8 at *;simp only[go_sem,J,j,(ω:((i:Int)<9)),show a'.wrap (0+1)=1 from ε];refine co Y (ks:=ajB) (n:=2000) [] (sg 3 [0,1]) _ (by rw[J];exact q) ⟨κ,κ,rfl,trivial,oy _ 3,fun i hi=>by simp[keys] at hi;rcases hi with rfl|rfl|rfl<;>simp[liveK,sg],by simp[ax,ak,keys],by simp[bV,ak,ax,keys],rfl⟩ ?_;simp only[go_sem,J,t];refine⟨⟨ω,ω⟩,ω,?_⟩;refine aa Z C ?_;simp only[go_sem,J,show a'.wrap (0+1)=1 from ε];have q:=g;refine co Y (ks:=ajB) (n:=2000) [] (sg 6 [0,5]) _ (by rw[J];exact q) ⟨κ,κ,rfl,trivial,oy _ 3,fun i hi=>by simp[keys] at hi;rcases hi with rfl|rfl|rfl<;>simp[liveK,sg],by simp[ax,ak,keys],by simp[bV,ak,ax,keys],rfl⟩ ?_;simp only[go_sem,J,I];refine⟨f,kY [0] [0,8,2] rfl ?_ ?_ rfl rfl (cV rfl) (fun i hi=>by simp at hi;subst hi;rfl)⟩
  .exact κ
  .simp only[go_sem,(ω:1+2*(i+1)=1+2*i+1+1)]
   done
 obtain rfl:i=9:=by omega
 have y:gW l 19=L:=by unfold gW;rw[cD (by rw[hl.len];decide),<-hB,hL]
 rw[show 1+2*9=19 from rfl,y,show l.take 19=l from cD (by rw[hl.len];decide)];simp only[go_sem,J,j];exact ag4
theorem CM(l:List Itm)(hl:G19 l)(B:List UInt8)(L:Nat)(b:B=cO l)(d:B.length=L):FPure prog 232 [.p (.data 1 L (B.map bt))] (.tup [.p (.data 3 19 (bB l)),.i L,.i 0]):=by
 apply ba f232 [0,2,3,4,5,6,14];intro c J f Y Z;have e:=Mt l hl B L b d;simp only[go_sem,J,bS,Abs.strOf];refine⟨bL _,?_⟩;apply co Y (ks:=[0,2,3,4,5,6,14]) (n:=2000) [] (sg 1 [0]) _ (by rw[J];exact e) ⟨κ,κ,rfl,trivial,oy _ 2,fun i a=>by simp[keys] at a;rcases a with rfl|rfl<;>simp[liveK,sg],by simp[ax,ak,keys],by simp[bV,ak,ax,keys],rfl⟩;exact ahA
theorem Am(n:UInt64)(h:n.toNat<1048576):FPure prog 233 [.w n] (.i n.toNat):=by
 apply ba f233 [0,2];intro c J a Y Z;simp only[go_sem,J,(ω:((n.toNat:Int)<=1048576)),(ω:((n.toNat:Int)<1048576)),(ω:¬((1048576:Int)<n.toNat)),ab (n:=(n.toNat:Int)) ω ω]
 done
theorem CN(n:Int)(a:0<=n)(h:n<1000000):((kL n).toNat:Int)=n:=by
 rw[<-fR n a h,ao a ω]
theorem Uv(x:Cr)(h:CrOk x):FPure prog 162 [.p (.data 1 (fj x).length ((fj x).map bt))] (.tup [.agg (crC x),.i (fj x).length,.b true]):=by
 refine ak8 ?_;intro c J B Y Z;have y:=CM (crL x) h.G (fj x) (fj x).length rfl rfl;have j:=CN x.hg (by have:=h.hg;omega) (by have:=h.hg;omega);have k:=CN x.pt (by have:=h.pt;omega) (by have:=h.pt;omega);have f:=Am (kL x.hg) (by have:=h.hg;omega);have g:=Am (kL x.pt) (by have:=h.pt;omega);rw[j] at f;rw[k] at g;have z:=fG x h;have D:=CL x h;have a:=h.G.len;have e:(bB (crL x)).length=57:=by rw[kI,a]
 have l:(bB (crL x)).drop 6=dW (.t x.rp)++bB ((crL x).drop 3):=cJ (crL x) 2 (by rw[a];decide);have m:(bB (crL x)).drop 12=dW (.d x.us)++bB ((crL x).drop 5):=cJ (crL x) 4 (by rw[a];decide);have n:(bB (crL x)).drop 18=dW (.t x.nm)++bB ((crL x).drop 7):=cJ (crL x) 6 (by rw[a];decide);have o:(bB (crL x)).drop 24=dW (.u x.sd)++bB ((crL x).drop 9):=cJ (crL x) 8 (by rw[a];decide);have q:(bB (crL x)).drop 30=dW (.u (kL x.hg))++bB ((crL x).drop 11):=cJ (crL x) 10 (by rw[a];decide);have r:(bB (crL x)).drop 36=dW (.b x.rs)++bB ((crL x).drop 13):=cJ (crL x) 12 (by rw[a];decide);have s:(bB (crL x)).drop 42=dW (.u (kL x.pt))++bB ((crL x).drop 15):=cJ (crL x) 14 (by rw[a];decide);have v:(bB (crL x)).drop 48=dW (.b x.sh)++bB ((crL x).drop 17):=cJ (crL x) 16 (by rw[a];decide);have w:(bB (crL x)).drop 54=dW (.b x.bk)++bB ((crL x).drop 19):=cJ (crL x) 18 (by rw[a];decide);generalize bB (crL x)=C at *;refine δ y ?_;simp only[go_sem,J,l,m,n,o,q,r,s,v,w,dW,e];apply aa Z f;simp only[go_sem,J,l,m,n,o,q,r,s,v,w,dW,e];apply aa Z g;simp only[go_sem,J,l,m,n,o,q,r,s,v,w,dW,e,abx];refine⟨π,?_⟩;apply aa Z z;generalize A:fj x=E at *;simp only[go_sem,J,bS,Abs.strOf];rw[cD (c7 E.length)];exact⟨bL _,⟨ω,ω⟩,bL _,π,rfl⟩
theorem PR(x:Cr)(h:CrOk x):FPure prog 92 [.p (.data 1 (fj x).length ((fj x).map bt))] (.tup [.agg (crC x),.i 0]):=by
 apply ba f92 [0,2,3,4,5,6,20];intro c J b Y Z;have a:=Uv x h;generalize fj x=E at *;refine δ a ?_;simp only[go_sem,J]
 done
def mkN(k n:UInt64)(i:Nat):UInt64:=bA k 6 (an [n,d' i] 2)
def rN(k n:UInt64):Nat->List UInt8
 |0=>[]
 |i+1=>rN k n i++an [mkN k n i] 1
theorem mV(k n:UInt64)(i:Nat):(rN k n i).length=8*i:=by
 induction i with
 |zero=>rfl
 |succ i a=>simp[rN,a,am];omega
def oa(k n:UInt64)(z:Nat):List UInt8:=(rN k n ((z+7)/8)).take z
theorem CO(k n:UInt64)(z:Nat):(oa k n z).length=z:=by rw[oa,hV,mV];omega
theorem Uw(k n:UInt64)(r:Nat):oa k n (8*r)=rN k n r:=by
 rw[oa,show(8*r+7)/8=r by omega,cD (by rw[mV];exact c7 _)]
theorem oX(k n:UInt64)(z:Nat)(s:z<=1024):FPure prog 63 [.w k,.w n,.i z] (.p (.data 1 z ((oa k n z).map bt))):=by
 unfold oa;generalize t:(z+7)/8=r;apply ba f63 [0,1,2,6,7,8,15];intro c J o Y Z;have d:¬((z:Int)<0):=ω;have e:(z:Int)<=1024:=ω;have f:¬((1024:Int)<(z:Int)):=ω;have g:(0:Int)<=(z:Int):=ω;have j:(if(z:Int)<=0 then(0:Int) else(z:Int))=(z:Int):=by split<;>omega
 simp only[go_sem,J,d,e,f,g,j];apply aX bP;refine ay Y o [0,1,2,6,7,8,15] r (fun i=>⟨32,[(0,.w k),(1,.w n),(2,.i z),(7,.sl 0 0 (8*i) 1),(8,.i i)],[(0,some ⟨bP,cb (rN k n i)⟩)],1⟩) [] (fun i=>i) ?_ ?_
 .refine⟨rfl,?_,?_,rfl,rfl,trivial,fun i h=>h⟩
  .exact κ
  .simp only[go_sem,rN];exact af1
 intro i u;rcases ea i r with a|a
 .have m:=ac i
  have q:b'.wrap (i:Int)=((d' i).toNat:Int):=by rw[ao ω ω,gr,ie ω]
  have l:=mV k n i;have hs:rN k n (i+1)=rN k n i++an [mkN k n i] 1:=rfl;rw[hs];generalize rN k n i=b at *;simp only[go_sem,J,m,q,(ω:(((8*i:Nat):Int)<(z:Int)))];refine x_f Z (gO [n,d' i] 2 rfl ε) ?_;refine δ (mQ k 5 (an [n,d' i] 2) 16 (am _ 2) ε ε ε) ?_;rw[show bA k (d' ((5:Int).toNat+1)) (an [n,d' i] 2)=mkN k n i from rfl];generalize mkN k n i=y at *;refine θ ?_;refine x_f Z (bI y) ?_;simp only[go_sem,J,m];refine⟨⟨ω,ω⟩,a,aA [3] rfl ?_ ?_ rfl rfl (cV rfl)⟩
  .simp only[go_sem,(ω:8*(i+1)=8*i+8)]
  .simp only[go_sem,dl,dX];exact aC _ _ _ _
 obtain rfl:i=r:=by omega
 simp only[go_sem,J,(ω:¬(((8*i:Nat):Int)<(z:Int)))];have l:=mV k n i;exact⟨ω,ω⟩
theorem IP(k n:UInt64)(r:Nat)(h1:1<=r)(b:r<=128)(z:Int)(a:z=((8*r:Nat):Int)):FPure prog 63 [.w k,.w n,.i z] (.p (.data 1 (8*r) ((rN k n r).map bt))):=by
 subst a;rw[<-Uw];exact oX k n (8*r) ω
theorem Mu(x y:UInt8):kq .u8 (x.toNat:Int) (y.toNat:Int)=((x ^^^ y).toNat:Int):=by
 have e:∀z:UInt8,BitVec.ofInt 8 (z.toNat:Int)=z.toBitVec:=fun z=>by
  apply BitVec.eq_of_toNat_eq;rw[BitVec.toNat_ofInt];have:=z.toNat_lt;simp;omega
 show c'.wrap (((BitVec.ofInt 8 (x.toNat:Int)) ^^^ (BitVec.ofInt 8 (y.toNat:Int))).toNat:Int)=_;rw[e,e];have h:∀z:UInt8,c'.wrap (z.toNat:Int)=z.toNat:=fun z=>by have:=vn z 0 ε;simpa using this
 exact h (x ^^^ y)
def oY(a b:List UInt8):Nat->List UInt8
 |0=>[]
 |i+1=>oY a b i++[a.getD i 0 ^^^ b.getD i 0]
theorem kP(a b:List UInt8)(i:Nat):(oY a b i).length=i:=by
 induction i with
 |zero=>rfl
 |succ i c=>simp[oY,c]
theorem Mv(k n:UInt64)(l:List UInt8)(m:Nat)(q:l.length=m)(f:m<=1024):FPure prog 139 [.w k,.w n,.p (.data 1 m (l.map bt))] (.p (.data 1 m ((oY l (oa k n m) m).map bt))):=by
 apply ba f139 [0,1,2,6,7,8,9,18];intro c J g Y Z;have d:=oX k n m f;have j:=CO k n m;generalize oa k n m=S at *;refine θ ?_;refine alb ?_;apply aX bP;refine ay Y g [0,1,2,6,7,8,9,18] m (fun i=>⟨34,[(2,.p (.data 1 m (l.map bt))),(7,.p (.data 1 m (S.map bt))),(8,.sl 0 0 i 1),(9,.i i)],[(0,some ⟨bP,cb (oY l S i)⟩)],1⟩) [] (fun i=>i) ?_ ?_
 .refine⟨rfl,?_,?_,rfl,rfl,trivial,fun i h=>h⟩
  .exact κ
  .simp only[go_sem,oY];exact af1
 intro i r;rcases ea i m with a|a
 .have o:=ac i
  have e:=kP l S i;have hs:oY l S (i+1)=oY l S i++[l.getD i 0 ^^^ S.getD i 0]:=rfl;rw[hs];generalize oY l S i=b at *;simp only[go_sem,J,o,Mu,(ω:((i:Int)<(m:Int))),fZ];refine⟨ω,ω,ω,ω,⟨ω,ω,ω⟩,π,a,aA [2] rfl ?_ ?_ rfl rfl (cV rfl)⟩
  .exact κ
  .exact agP
 obtain rfl:i=m:=by omega
 have e:=kP l S i;exact aid
def EV(k n:UInt64)(bd hd:List UInt8):UInt64:=bA k 7 (an [n,d' bd.length] 2++bd++hd)
theorem Mw(k n:UInt64)(b d:List UInt8)(a e:Nat)(h:b.length=a)(l:d.length=e)(h1:a<10000)(h2:e<10000) :
 FPure prog 140 [.w k,.w n,.p (.data 1 a (b.map bt)),.p (.data 1 e (d.map bt))] (.w (EV k n b d)):=by
 apply ba f140 [0,1,2,3,8,9];intro c J m Y Z;have i:b'.wrap (a:Int)=((d' a).toNat:Int):=by rw[ao ω ω,gr,ie ω]
 have f:=mQ k 6 (an [n,d' a] 2++b++d) (16+a+e) (by simp[am];omega) ω ε ε;have j:bA k (d' ((6:Int).toNat+1)) (an [n,d' a] 2++b++d)=EV k n b d:=by rw[<-h];rfl
 rw[j] at f;generalize EV k n b d=y at *;simp only[go_sem,J,i]
 first|refine io Y (ks:=[0,1,2,3,8,9]) (n:=2000) 1 (by simp only[go_sem];rfl) κ rfl (by rw[J];exact fk [n,d' a] 2 rfl ε ε) rfl rfl (by simp[ax,ak,keys]) (by simp only[bV,ak,aM,cm,cF,and_self]) ?_|refine ip Y (ks:=[0,1,2,3,8,9]) (n:=2000) 1 (by simp only[go_sem];rfl) κ rfl (by rw[J];exact fk [n,d' a] 2 rfl ε ε) rfl rfl (by simp[ax,ak,keys]) (by simp only[bV,ak,aM,cm,cF,and_self]) rfl ?_
 refine alx ?_;have g:(an [n,d' a] 2).length=16:=am _ 2;refine⟨⟨ω,ω,ω⟩,⟨ω,ω,ω⟩,?_⟩
 first|refine df Y (ks:=[0,1,2,3,8,9]) (n:=2000) ?_ ?_ rfl (by rw[J];exact f) (by simp only[go_sem,ax,ak,and_self]) ?_|refine dg Y (ks:=[0,1,2,3,8,9]) (n:=2000) ?_ ?_ rfl (by rw[J];exact f) (by simp only[go_sem,ax,ak,and_self]) ?_
 .simp only[go_sem];rw[cD (by simp[am];omega)]
 .simp only[go_sem,c9,g];omega
 simp only[go_sem,J]
theorem nJ(s:List UInt8)(hs:s.length<1000):FPure prog 68 [sv s] (.w (bA 9 0 s)):=by
 apply ba f68 [0,2];intro c J a Y Z;simp only[go_sem,J];simp only[dl]
 first|refine df Y (ks:=[0,2]) (n:=2000) ?_ ?_ rfl (by rw[J];exact fS 9 s s.length rfl ω ε ε) (by simp only[go_sem,ax,ak,and_self]) ?_|refine dg Y (ks:=[0,2]) (n:=2000) ?_ ?_ rfl (by rw[J];exact fS 9 s s.length rfl ω ε ε) (by simp only[go_sem,ax,ak,and_self]) ?_
 .simp only[go_sem];rw[cD η]
 .simp only[go_sem,c7]
 simp only[go_sem,J];rfl
theorem yh(k:UInt64):FPure prog 66 [.w k] (.w (ij k [119,114,97,112] 0)):=by
 apply ba f66 [0,2];intro c J a Y Z;refine δ (nT k [119,114,97,112] 0 ε) ?_;simp only[go_sem,J]
theorem An(b:List UInt8)(n:Nat)(a:b.length=n)(d:n<100000):FPure prog 29 [.p (.data 1 n (b.map bt))] (.w (bA 10 0 b)):=by
 apply ba f29 [0,2];intro c J e Y Z;refine δ (fS 10 b n a ω ε ε) ?_;simp only[go_sem,J];rfl
def idR(x:Cr):List UInt8:=rN (ij x.sd [105,100] 0) 0 22
theorem nK(x:Cr):(idR x).length=176:=mV _ _ 22
theorem Mx(m n:UInt64)(x:Cr)(h:CrOk x)(a:x.rs=true):FPure prog 17 [.w m,.w n,.agg (crC x)] (.tup [.p (.data 1 176 ((idR x).map bt)),.i 0]):=by
 apply ba f17 [0,1,2,5,6,7,8,9,10,17,20];intro c J e Y Z;have b:=fG x h;have d:=nT x.sd [105,100] 0 ε;have hs:=IP (ij x.sd [105,100] 0) 0 22 ε ε 176 rfl;rw[show rN (ij x.sd [105,100] 0) 0 22=idR x from rfl] at hs;generalize idR x=I at *;generalize ij x.sd [105,100] 0=D at *;refine δ b ?_;simp only[go_sem,J,a];refine alb ?_;apply aa Z hs;simp only[go_sem,J]
def gZ(k n:UInt64)(bd tx:List UInt8):List UInt8 :=
 an [n] 1++oY tx (oa k n tx.length) tx.length++an [EV k n bd (oY tx (oa k n tx.length) tx.length)] 1
theorem fU(k n:UInt64)(b a:List UInt8):(gZ k n b a).length=a.length+16:=by
 simp[gZ,am,kP];omega
theorem qg(k n:UInt64)(b a:List UInt8)(d m:Nat)(l:b.length=d)(h1:d<=1024)(j:a.length=m)(o:m<=1024) :
 FPure prog 65 [.w k,.w n,.p (.data 1 d (b.map bt)),.p (.data 1 m (a.map bt))] (.tup [.p (.data 1 (m+16) ((gZ k n b a).map bt)),.i 0]):=by
 apply ba f65 [0,1,2,3,8,9,10,11,19];intro c J r Y Z;have q:=Mv k n a m j o;unfold gZ at Y Z;rw[j] at Y Z;have e:=kP a (oa k n m) m;generalize oY a (oa k n m) m=H at *;have hg:=Mw k n b H d m l e ω ω;generalize EV k n b H=y at *;simp only[go_sem,J,(ω:¬((m:Int)>1024)),(ω:¬((d:Int)>1024))];apply aa Z q;simp only[go_sem,J]
 first|refine io Y (ks:=[0,1,2,3,8,9,10,11,19]) (n:=2000) 1 (by simp only[go_sem];rfl) κ rfl (by rw[J];exact fk [n] 1 rfl ε ε) rfl rfl (by simp[ax,ak,keys]) (by simp only[bV,ak,aM,cm,cF,and_self]) ?_|refine ip Y (ks:=[0,1,2,3,8,9,10,11,19]) (n:=2000) 1 (by simp only[go_sem];rfl) κ rfl (by rw[J];exact fk [n] 1 rfl ε ε) rfl rfl (by simp[ax,ak,keys]) (by simp only[bV,ak,aM,cm,cF,and_self]) rfl ?_
 refine alx ?_;have f:(an [n] 1).length=8:=am _ 1;refine⟨⟨ω,ω,ω⟩,?_⟩;apply aa Z hg;refine θ ?_;refine x_f Z (bI y) ?_;refine alx ?_;have g:(an [y] 1).length=8:=am _ 1;have h:(cb (an [n] 1++H++an [y] 1)).length<=8+m+8:=by simp[cb,f,g,e];omega
 rw[cD h];exact⟨⟨ω,ω,ω⟩,⟨ω,aG _⟩,ω,aJ _⟩
def mW(x:Cr):List UInt8:=(fj x++f' 160 0).take 160
theorem My(E:List UInt8)(hl:E.length<=160):bY (cb (f' 160 0)) 0 (List.take (min E.length 160) (cb E))=cb ((E++f' 160 0).take 160):=by
 rw[Nat.min_eq_left hl,cD (by simp[cb])];have e1:(cb E).length=E.length:=by simp[cb]
 have:=oQ (cb E) [] (cb (f' 160 0)) (by simp[cb];exact hl);exact agY
theorem Ux(m n:UInt64)(x:Cr)(h:CrOk x)(f:x.rs=false)(g:(fj x).length<=160):FPure prog 17 [.w m,.w n,.agg (crC x)] (.tup [.p (.data 1 176 ((gZ (ij m [119,114,97,112] 0) n (an [bA 9 0 x.rp] 1) (mW x)).map bt)),.i 0]):=by
 apply ba f17 [0,1,2,5,6,7,8,9,10,17,20];intro c J l Y Z;have j:=fG x h;have k:=yh m;have b:=nJ x.rp (by have:=h.rp2;omega);have d:(an [bA 9 0 x.rp] 1).length=8:=am _ 1;have a:(mW x).length=160:=by simp[mW]
 have hs:=qg (ij m [119,114,97,112] 0) n (an [bA 9 0 x.rp] 1) (mW x) 8 160 d ε a ε;generalize gZ (ij m [119,114,97,112] 0) n (an [bA 9 0 x.rp] 1) (mW x)=R at *;generalize ij m [119,114,97,112] 0=D at *;generalize bA 9 0 x.rp=W at *;refine δ j ?_;simp only[go_sem,J,f];generalize e:bY _ 0 _=zzZ;have e:zzZ=cb (mW x):=e.symm.trans (My (fj x) g);subst e;refine⟨ε,ω,?_⟩;apply aa Z k;refine θ ?_;refine als ?_;refine x_f Z (bI W) ?_;simp only[go_sem,J]
 first|refine df Y (ks:=[0,1,2,5,6,7,8,9,10,17,20]) (n:=2000) ?_ ?_ rfl (by rw[J];exact hs) (by simp only[go_sem,ax,ak,and_self]) ?_|refine dg Y (ks:=[0,1,2,5,6,7,8,9,10,17,20]) (n:=2000) ?_ ?_ rfl (by rw[J];exact hs) (by simp only[go_sem,ax,ak,and_self]) ?_
 .simp only[go_sem];rw[cD (by simp[a])]
 .simp only[go_sem,a,c7]
 simp only[go_sem,J];kernel_rfl
def idX(m n:UInt64)(x:Cr):List UInt8:=if x.rs=true then idR x else gZ (ij m [119,114,97,112] 0) n (an [bA 9 0 x.rp] 1) (mW x)
theorem PS(m n:UInt64)(x:Cr):(idX m n x).length=176:=by
 unfold idX;split
 .exact nK x
 .rw[fU];simp[mW]
theorem abz(m n:UInt64)(x:Cr)(h:CrOk x)(b:(fj x).length<=160):FPure prog 17 [.w m,.w n,.agg (crC x)] (.tup [.p (.data 1 176 ((idX m n x).map bt)),.i 0]):=by
 unfold idX;by_cases a:x.rs=true
 .rw[b9 a];exact Mx m n x h a
 .rw[b0 a];exact Ux m n x h (by simpa using a) b
structure UbR where
 t:List UInt8
 e:Int
def Ao(bx:List UInt8):List UInt8:=(bx.drop 8).take (bx.length-16)
def ubM(k:UInt64)(bd bx:List UInt8):UbR :=
 if bx.length<16 then⟨[],1⟩ else if 1040<bx.length\/1024<bd.length then⟨[],8⟩ else
 if aB (bx.drop (bx.length-8)) 8=EV k (aB (bx.take 8) 8) bd (Ao bx) then⟨oY (Ao bx) (oa k (aB (bx.take 8) 8) (Ao bx).length) (Ao bx).length,0⟩ else⟨[],14⟩
theorem CP(bx:List UInt8):(Ao bx).length=bx.length-16:=by rw[Ao,hV,kK];omega
theorem Ap(k:UInt64)(a bx:List UInt8):(ubM k a bx).t.length<=1024:=by
 unfold ubM;split
 .exact gi _
 split
 .exact gi _
 split
 .show(oY _ _ _).length<=1024;rw[kP,CP];omega
 .exact gi _
theorem GH(k:UInt64)(d bx:List UInt8)(f n:Nat)(s:d.length=f)(j:bx.length=n)(v:f<100000)(x:n<100000) :
 FPure prog 288 [.w k,.p (.data 1 f (d.map bt)),.p (.data 1 n (bx.map bt))] (.tup [blA (ubM k d bx).t,.i (ubM k d bx).e]):=by
 obtain⟨R,a⟩:∃R,ubM k d bx=R:=⟨_,rfl⟩;rw[a];unfold ubM at a;rw[s,j] at a;apply ba f288 [0,1,2,6,7,8,9,12,20,40];intro c J C Y Z;by_cases u:n<16
 .rw[b9 u] at a;subst a;simp only[go_sem,J,(ω:((n:Int)<16))]
 rw[b0 u] at a;by_cases y:1040<n
 .rw[b9 (.inl y)] at a;subst a;simp only[go_sem,J,(ω:¬((n:Int)<16)),(ω:((n:Int)>1040))]
 by_cases z:1024<f
 .rw[b9 (.inr z)] at a;subst a;simp only[go_sem,J,(ω:¬((n:Int)<16)),(ω:¬((n:Int)>1040)),(ω:((f:Int)>1024))]
 rw[b0 ω] at a;have w1:a'.wrap ((n:Int)-8)=((n-8:Nat):Int):=by rw[ab ω ω];omega
 have l:=nH (bx.take 8) 8 (by rw[hV];omega) ε ε;have m:=nH (bx.drop (n-8)) 8 (by rw[kK];omega) ε ε;have b:=CP bx;rw[j] at b;have o:(bx.drop 8).take (n-16)=Ao bx:=by rw[Ao,j]
 generalize Ao bx=H at *;rw[b] at a;generalize aB (bx.take 8) 8=nc at *;generalize aB (bx.drop (n-8)) 8=tg at *;have A:=Mw k nc d H f (n-16) s b ω ω;have B:=Mv k nc H (n-16) b ω;generalize EV k nc d H=tg' at *;have q:=kP H (oa k nc (n-16)) (n-16);generalize oY H (oa k nc (n-16)) (n-16)=X at *;simp only[go_sem,J,(ω:¬((n:Int)<16)),(ω:¬((n:Int)>1040)),(ω:¬((f:Int)>1024)),w1];refine⟨ω,?_⟩;apply aa Z l;simp only[go_sem,J,w1];rw[show n-(n-8)=8 by omega,show n-8-8=n-16 by omega,o,cD (show(bx.drop (n-8)).length<=8 by rw[kK];omega)];refine⟨⟨ω,ω⟩,π,⟨ω,ω,ω⟩,?_⟩;apply aa Z m;refine δ A ?_;by_cases g:tg=tg'
 .rw[b9 g] at a;subst a;subst g;refine aly ?_;exact q.symm
 .rw[b0 g] at a;subst a;have r:¬((tg.toNat:Int)=(tg'.toNat:Int)):=fun h=>g (s9.1 ω)
  simp only[go_sem,J,r]
  done
theorem sR(k:UInt64)(bx:List UInt8)(n:Nat)(f:bx.length=n)(a:n<100000) :
 ∃w e,FPure prog 283 [.w k,.p (.data 1 n (bx.map bt))] (.tup [.w w,.i e]):=by
 have ho:=GH k [] bx 0 n rfl f ε a;generalize ubM k [] bx=R at *;by_cases b:R.e=0
 .by_cases g:R.t.length=8
  .have h:=nH R.t R.t.length rfl ω ω;refine⟨aB R.t 8,0,?_⟩;generalize aB R.t 8=y at *;apply ba f283 [0,1,4,5,6,7,15,19];intro c J d Y Z;simp only[go_sem,J]
   first|refine iD Y (ks:=[0,1,4,5,6,7,15,19]) (n:=2000) (by rw[J];exact(ho).nil κ) ?_|refine iE Y (ks:=[0,1,4,5,6,7,15,19]) (n:=2000) (by rw[J];exact(ho).nil κ) ?_
   simp only[go_sem,J,b,g];apply aa Z h;simp only[go_sem,J]
  .refine⟨0,2,?_⟩;apply ba f283 [0,1,4,5,6,7,15,19];intro c J d Y Z;simp only[go_sem,J]
   first|refine iD Y (ks:=[0,1,4,5,6,7,15,19]) (n:=2000) (by rw[J];exact(ho).nil κ) ?_|refine iE Y (ks:=[0,1,4,5,6,7,15,19]) (n:=2000) (by rw[J];exact(ho).nil κ) ?_
   simp only[go_sem,J,b,(ω:¬((R.t.length:Int)=8))]
 .refine⟨0,R.e,?_⟩;apply ba f283 [0,1,4,5,6,7,15,19];intro c J d Y Z;simp only[go_sem,J]
  first|refine iD Y (ks:=[0,1,4,5,6,7,15,19]) (n:=2000) (by rw[J];exact(ho).nil κ) ?_|refine iE Y (ks:=[0,1,4,5,6,7,15,19]) (n:=2000) (by rw[J];exact(ho).nil κ) ?_
  simp only[go_sem,J,b]
theorem mX(k n w:UInt64):FPure prog 131 [.w k,.w n,.w w] (blA (gZ k n [] (an [w] 1))):=by
 have hs:=qg k n [] (an [w] 1) 0 8 rfl ε (am _ 1) ε;have a:=fU k n [] (an [w] 1);rw[am] at a;unfold blA;rw[a];generalize gZ k n [] (an [w] 1)=S at *;apply ba f131 [0,1,2,6,7];intro c J b Y Z;refine θ ?_;refine x_f Z (bI w) ?_;simp only[go_sem,J]
 first|refine iD Y (ks:=[0,1,2,6,7]) (n:=2000) (by rw[J];exact(hs).nil κ) ?_|refine iE Y (ks:=[0,1,2,6,7]) (n:=2000) (by rw[J];exact(hs).nil κ) ?_
 simp only[go_sem,J]
def zc(b:List UInt8):Nat:=(b.takeWhile (fun x=>x != 0)).length
theorem abA(b:List UInt8):zc b<=b.length:=(List.takeWhile_sublist _).length_le
theorem Q4:∀(b:List UInt8) (i:Nat),i<zc b->¬b.getD i 0=0
 |[],i,h=>by simp[zc] at h
 |x::b,i,h=>by
  unfold zc at h;rw[g'] at h;by_cases a:(x != 0)=true
  .rw[b9 a] at h;cases i with
   |zero=>simpa using a
   |succ i=>exact Q4 b i (by simpa[zc] using h)
  .rw[b0 a] at h;simp at h
theorem Q5:∀(b:List UInt8),zc b<b.length->b.getD (zc b) 0=0
 |[],h=>by simp[zc] at h
 |x::b,h=>by
  unfold zc at h⊢;rw[g'] at h⊢;by_cases a:(x != 0)=true
  .rw[b9 a] at h⊢;have:=Q5 b (by simpa[zc] using h);simpa[zc] using this
  .rw[b0 a];simpa using a
theorem Mz(b:List UInt8)(i:Nat)(h:i<b.length):(b.drop i).all (fun x=>x==0)=(b.getD i 0==0&&(b.drop (i+1)).all (fun x=>x==0)):=by
 rw[hE h,List.all_cons];exact agO
def ajD:List Nat:=[0,1,4,5,6,7,8,9,17,29,40,45,52]
attribute[go_sem]ajD
theorem vF(k:UInt64)(bx:List UInt8)(n:Nat)(l:bx.length=n)(u:n<100000) :
 ∃s e,(e=0->s.length<=63)/\FPure prog 278 [.w k,.p (.data 1 n (bx.map bt))] (.tup [sv s,.i e]):=by
 have ho:=GH k [] bx 0 n rfl l ε u;have v:=Ap k [] bx;generalize ubM k [] bx=R at *;have⟨b,e⟩:=R;dsimp only at ho v;by_cases q:e=0
 case neg =>
  refine⟨[],e,fun h=>s5 h q,?_⟩;apply ba f278 ajD;intro c J y Y Z;simp only[go_sem,J]
  first|refine iD Y (ks:=ajD) (n:=2000) (by rw[J];exact(ho).nil κ) ?_|refine iE Y (ks:=ajD) (n:=2000) (by rw[J];exact(ho).nil κ) ?_
  simp only[go_sem,J,q]
 subst q;have O:=abA b;have K:=Q4 b;have z3:=Q5 b;generalize zc b=z at *;generalize L:b.length=m at *;have d:∀(s:List UInt8) (e:Int),((m≠64\/z=m)->s=[]/\e=2)->(¬(m≠64\/z=m)->(b.drop z).all (fun x=>x==0)=false->s=[]/\e=2)->(¬(m≠64\/z=m)->(b.drop z).all (fun x=>x==0)=true->s=b.take z/\e=0) ->
  FPure prog 278 [.w k,.p (.data 1 n (bx.map bt))] (.tup [sv s,.i e]):=by
  intro s e F G k3;apply ba f278 ajD;intro c J y Y Z;simp only[go_sem,J]
  first|refine iD Y (ks:=ajD) (n:=2000) (by rw[J];exact(ho).nil κ) ?_|refine iE Y (ks:=ajD) (n:=2000) (by rw[J];exact(ho).nil κ) ?_
  refine θ ?_;refine ay Y y ajD z (fun i=>⟨57,[(6,.p (.data 1 m (b.map bt))),(8,.i i)],[],0⟩) [] (fun i=>i) ⟨rfl,?_,trivial,rfl,rfl,trivial,fun i h=>h⟩ ?_
  .simp only[go_sem];exact L
  intro i P;rcases ea i z with h|h
  .have B:=ac i
   have q:=K i h;have C:¬(((b.getD i 0).toNat:Int)=0):=fun c=>q (UInt8.toNat_inj.1 (show(b.getD i 0).toNat=0 by omega))
   simp only[go_sem,J,(ω:((i:Int)<(m:Int))),C,B];exact⟨ω,ω,h,eh rfl κ trivial rfl rfl (c7 _)⟩
  obtain rfl:i=z:=by omega
  rcases ea i m with D|M
  case inr =>
   obtain⟨rfl,rfl⟩:=F (.inr ω);obtain rfl:i=m:=by omega
   by_cases a:(i:Int)=64
   .simp only[go_sem,J,(ω:¬((i:Int)<(i:Int))),a]
   .simp only[go_sem,J,(ω:¬((i:Int)<(i:Int))),a]
  have r:(((b.getD i 0).toNat:Nat):Int)=0:=by rw[z3 D];rfl
  by_cases a:(m:Int)=64
  case neg =>
   obtain⟨rfl,rfl⟩:=F (.inl ω);simp only[go_sem,J,(ω:((i:Int)<(m:Int))),r,a];exact⟨ω,ω⟩
  simp only[go_sem,J,(ω:((i:Int)<64)),r,a,(ω:¬((i:Int)=64))];refine⟨ω,ω,?_⟩;obtain⟨A,H⟩:∃A,(b.drop i).all (fun x=>x==0)=A:=⟨_,rfl⟩
  rw[H] at G k3;refine bl Y y ajD (α:={j:Nat // i<=j/\j<=m/\(b.drop j).all (fun x=>x==0)=A}) (fun j=>⟨57,[(6,.p (.data 1 m (b.map bt))),(8,.i i),(9,.i j.1)],[],0⟩) (fun j=>m-j.1) ⟨i,c7 _,ω,H⟩ [] (fun i=>i) ⟨rfl,?_,trivial,rfl,rfl,trivial,fun i h=>h⟩ ?_
  .exact κ
   done
  rintro⟨j,h1,h2,o⟩;dsimp only at h1 h2 o⊢;rcases ea j m with N|N
  .have B:=ac j
   rw[Mz b j ω] at o;generalize hg:b.getD j 0=g at *;by_cases l:g=0
   .have E:(b.drop (j+1)).all (fun x=>x==0)=A:=by rw[<-o];simp[l]
    have f:((g.toNat:Nat):Int)=0:=by rw[l];rfl
    simp only[go_sem,J,hg,f,B,(ω:((j:Int)<(m:Int)))];exact⟨ω,ω,⟨j+1,ω,ω,E⟩,by show m-(j+1)<m-j;omega,eh rfl κ trivial rfl rfl (c7 _)⟩
   .have E:A=false:=by rw[<-o];simp[l]
    have f:¬(((g.toNat:Nat):Int)=0):=fun c=>l (UInt8.toNat_inj.1 (show g.toNat=0 by omega))
    obtain⟨rfl,rfl⟩:=G ω E;simp only[go_sem,J,hg,f,(ω:((j:Int)<(m:Int)))];exact⟨ω,ω⟩
  .obtain rfl:j=m:=by omega
   rw[l2 ω] at o;obtain⟨rfl,rfl⟩:=k3 ω o.symm;simp only[go_sem,J,(ω:¬((j:Int)<(j:Int))),bS,Abs.strOf,bL];exact⟨ω,ω⟩
 by_cases t:m≠64\/z=m
 .exact⟨[],2,nofun,d [] 2 (fun _=>⟨rfl,rfl⟩) (fun h=>s5 t h) (fun h=>s5 t h)⟩
 .cases I:(b.drop z).all (fun x=>x==0)
  .exact⟨[],2,nofun,d [] 2 (fun h=>s5 h t) (fun _ _=>⟨rfl,rfl⟩) (fun _ h=>by rw[I] at h;cases h)⟩
  .exact⟨b.take z,0,fun _=>by rw[hV];omega,d (b.take z) 0 (fun h=>s5 h t) (fun _ h=>by rw[I] at h;cases h) (fun _ _=>⟨rfl,rfl⟩)⟩
def lM(s:List UInt8):List UInt8:=(s++f' 64 0).take 64
theorem MA(E:List UInt8)(hl:E.length<=64):bY (cb (f' 64 0)) 0 (List.take (min E.length 64) (cb E))=cb (lM E):=by
 unfold lM;rw[Nat.min_eq_left hl,cD (by simp[cb])];have e1:(cb E).length=E.length:=by simp[cb]
 have:=oQ (cb E) [] (cb (f' 64 0)) (by simp[cb];exact hl);exact agY
theorem vG(k n:UInt64)(s:List UInt8)(hs:s.length<=63):FPure prog 53 [.w k,.w n,sv s] (.tup [blA (gZ k n [] (lM s)),.i 0]):=by
 have a:(lM s).length=64:=by simp[lM]
 have b:=qg k n [] (lM s) 0 64 rfl ε a ε;have e:=fU k n [] (lM s);rw[a] at e;unfold blA;rw[e];generalize gZ k n [] (lM s)=S at *;apply ba f53 [0,1,2,6,7,8,11];intro c J f Y Z;simp only[go_sem,J,(ω:¬((s.length:Int)>63))];generalize d:bY _ 0 _=zzZ;have d:zzZ=cb (lM s):=d.symm.trans (MA s ω);subst d;refine⟨ε,ω,?_⟩
 first|refine df Y (ks:=[0,1,2,6,7,8,11]) (n:=2000) ?_ ?_ rfl (by rw[J];exact(b).nil (vs':=[.w k,.w n,.p (.v (.slice none 0 0)),.p (.data 1 64 ((lM s).map bt))]) κ) (by simp only[go_sem,ax,ak,and_self]) ?_|refine dg Y (ks:=[0,1,2,6,7,8,11]) (n:=2000) ?_ ?_ rfl (by rw[J];exact(b).nil (vs':=[.w k,.w n,.p (.v (.slice none 0 0)),.p (.data 1 64 ((lM s).map bt))]) κ) (by simp only[go_sem,ax,ak,and_self]) ?_
 .simp only[go_sem];rw[cD (by simp[a])]
 .simp only[go_sem,a,c7]
 simp only[go_sem,J]

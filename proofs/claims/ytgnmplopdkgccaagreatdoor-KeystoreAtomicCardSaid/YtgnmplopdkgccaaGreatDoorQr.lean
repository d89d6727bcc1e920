/- own work: steps of the proof -/
import Derived.Test.YtgnmplopdkgccaaGreatDoorPd
import Derived.Test.YtgnmplopdkgccaaGreatDoorQo
set_option linter.all false
set_option maxRecDepth 100000
set_option maxHeartbeats 4000000
open Go.IntKind renaming i64→a',u64→b'
open List renaming drop_take→c'
open Nat renaming le_of_not_lt→d'
namespace Go.Abs
open RowKit Proofs Proofs.Tryz
def xtA(l:List IT):List AV:=(gz l).map .p
theorem Aq(h:bv)(S:List Nat)(σ:Nat->Nat)(l:List IT):aj h S σ (xtA l) (xtA l)↔True:=⟨fun _=>trivial,fun _=>aL h S σ _⟩
theorem Uy(τ:Nat->Nat)(l:List IT):eu τ (xtA l)=xtA l:=cT τ _
@[simp] theorem aeT(T:List Nat)(l:List IT):ak T (xtA l):=aM T _
attribute [go_sem] Aq Uy
abbrev rrX(B:List UInt8)(at':Int)(n:Nat)(T:List IT):List (Nat×Option Blk):=[(0,some ⟨rrT,[sv B,.i at',.sl 1 0 n 3]⟩),(1,some ⟨dp,xtA T⟩)]
structure HdR where
 x:IT
 at':Nat
 e:Int
def szL(lo:Nat):Nat:=if lo<24 then 0 else 2^(lo-24)
def abB(s:Nat):Nat:=if s=1 then 24 else if s=2 then 256 else if s=4 then 65536 else if s=8 then 4294967296 else 0
def ck(B:List UInt8)(p:Nat):HdR :=
 if B.length<=p then⟨xt0,p,1⟩ else
 if(B.getD p 0).toNat=244 then⟨⟨7,0,[]⟩,p+1,0⟩ else
 if(B.getD p 0).toNat=245 then⟨⟨7,1,[]⟩,p+1,0⟩ else
 if(B.getD p 0).toNat=246 then⟨⟨8,0,[]⟩,p+1,0⟩ else
 if 5<(B.getD p 0).toNat/32\/27<(B.getD p 0).toNat % 32 then⟨xt0,p,2⟩ else
 if B.length<p+1+szL ((B.getD p 0).toNat % 32) then⟨xt0,p,1⟩ else
 if(B.getD p 0).toNat % 32<24 then⟨⟨1+(((B.getD p 0).toNat/32:Nat):Int),UInt64.ofNat ((B.getD p 0).toNat % 32),[]⟩,p+1,0⟩ else
 if(aB (B.drop (p+1)) (szL ((B.getD p 0).toNat % 32))).toNat<abB (szL ((B.getD p 0).toNat % 32)) then⟨xt0,p,2⟩ else
 ⟨⟨1+(((B.getD p 0).toNat/32:Nat):Int),aB (B.drop (p+1)) (szL ((B.getD p 0).toNat % 32)),[]⟩,p+(1+szL ((B.getD p 0).toNat % 32)),0⟩
theorem sz4(a:Nat)(h:24<=a)(h2:a<=27):∃S,szL a=S/\iF .i64 1 (b'.wrap (a'.wrap ((a:Int)-24)))=(S:Int)/\(S=1\/S=2\/S=4\/S=8):=by
 have:a=24\/a=25\/a=26\/a=27:=ω;rcases this with rfl|rfl|rfl|rfl
 .exact⟨1,rfl,ε,ε⟩
 .exact⟨2,rfl,ε,ε⟩
 .exact⟨4,rfl,ε,ε⟩
 .exact⟨8,rfl,ε,ε⟩
theorem sh5:∀c:_root_.Fin 256,ishr .u8 (c.val:Int) 5=((c.val/32:Nat):Int):=by decide +kernel
theorem ae8:∀c:_root_.Fin 256,band .u8 (c.val:Int) 31=((c.val % 32:Nat):Int):=by decide +kernel
def ajF:List Nat:=[0,2,3,4,5,6,7,8,9,10,20,31,32,46,67,70,87,92,95,120]
attribute[go_sem]ajF
theorem CQ(B:List UInt8)(L p:Nat)(hL:B.length=L)(hLb:L<1000000)(m:Nat)(T:List IT)(hp:p<=L) :
 Con prog 353 [.ptr 0 0] (rrX B p m T) (.tup [.agg (itG (ck B p).x),.i (ck B p).e]) (rrX B (ck B p).at' m T):=by
 obtain⟨R,a⟩:∃R,ck B p=R:=⟨_,rfl⟩;rw[a];unfold ck at a;rw[hL] at a;rcases ea p L with y|y
 case inr =>
  rw[b9 y] at a;subst a;apply bn 2 f353 ajF;intro c J g Y Z;simp only[go_sem,J,(ω:((p:Int)>=(B.length:Int)))];refine⟨π,aq [0,1] rfl ?_ ?_ rfl rfl (fun i hi=>by simp at hi;rcases hi with rfl|rfl<;>exact⟨rfl,ξ⟩) (fun i hi=>by simp[liveK] at hi;simp;omega)⟩
  .simp only[go_sem,xt0]<;>rfl
  .exact κ
 rw[b0 ω] at a;have j:¬((p:Int)>=(B.length:Int)):=ω;have w1:=ac p
 have z:=(B.getD p 0).toNat_lt;have u:=sh5 ⟨(B.getD p 0).toNat,z⟩;have f:=ae8 ⟨(B.getD p 0).toNat,z⟩;dsimp only at u f;generalize l:B.getD p 0=c at *;by_cases c4:c.toNat=244
 .rw[b9 c4] at a;subst a;have A:((c.toNat:Nat):Int)=244:=ω;apply bn 2 f353 ajF;intro c J g Y Z;simp only[go_sem,J,l,w1,j,A,show b'.wrap (IntKind.u8.wrap (244-244))=0 from ε];exact af6
 rw[b0 c4] at a;by_cases c5:c.toNat=245
 .rw[b9 c5] at a;subst a;have A:((c.toNat:Nat):Int)=245:=ω;apply bn 2 f353 ajF;intro c J g Y Z;simp only[go_sem,J,l,w1,j,A,show b'.wrap (IntKind.u8.wrap (245-244))=1 from ε];exact af6
 rw[b0 c5] at a;by_cases c6:c.toNat=246
 .rw[b9 c6] at a;subst a;have A:((c.toNat:Nat):Int)=246:=ω;apply bn 2 f353 ajF;intro c J g Y Z;simp only[go_sem,J,l,w1,j,A];exact af6
 rw[b0 c6] at a;have C:¬((c.toNat:Int)=244):=ω;have E:¬((c.toNat:Int)=245):=ω;have F:¬((c.toNat:Int)=246):=ω;generalize hk:c.toNat/32=k at *;generalize hlo:c.toNat % 32=lo at *;have G:a'.wrap (k:Int)=(k:Int):=ab ω ω;have H:a'.wrap (lo:Int)=(lo:Int):=ab ω ω;by_cases o:5<k\/27<lo
 .rw[b9 o] at a;subst a;apply bn 2 f353 ajF;intro c J g Y Z;by_cases hk5:5<k
  .simp only[go_sem,J,l,j,C,E,F,u,f,G,H,(ω:((k:Int)>5))];exact agF
  .simp only[go_sem,J,l,j,C,E,F,u,f,G,H,(ω:¬((k:Int)>5)),(ω:((lo:Int)>27))];exact agF
 rw[b0 o] at a;have N:¬((k:Int)>5):=ω;have s:¬((lo:Int)>27):=ω;have v:=Q3 ⟨k,ω⟩;dsimp only at v;have O:b'.wrap (lo:Int)=(lo:Int):=ao ω ω;have P:a'.wrap (a'.wrap ((B.length:Int)-(p:Int))-1)=((B.length-(p+1):Nat):Int):=by rw[ab (n:=(B.length:Int)-(p:Int)) ω ω,ab ω ω];omega
 by_cases t:lo<24
 .have Q:szL lo=0:=by unfold szL;rw[b9 t]
  rw[Q,b0 ω,b9 t] at a;have e9:((UInt64.ofNat lo).toNat:Int)=lo:=by rw[gr,ie ω]
  have K:¬(((B.length-(p+1):Nat):Int)<0):=ω;subst a;apply bn 2 f353 ajF;intro c J g Y Z;simp only[go_sem,J,l,j,C,E,F,u,f,G,H,O,P,N,s,(ω:¬((lo:Int)>=24)),K];refine⟨π,⟨ω,ω⟩,π,π,?_⟩;refine bK Y [0,1] (fun i hi=>by have:=g i hi;simpa[liveK] using this) ajF 0 (fun i=>⟨137,[(0,.ptr 0 0),(2,.ptr 2 0),(3,.i 0),(5,.i k),(7,.i 0),(8,.w (UInt64.ofNat lo)),(9,.i 0)],rrX B p m T++[(2,some ⟨dp,[.i 0,.w 0,sv []]⟩)],3⟩) [] (fun i=>i) ⟨rfl,?_,?_,rfl,rfl,trivial,fun i h=>h⟩ (fun i hi=>rfl) ?_
  .simp only[go_sem];exact e9.symm
  .exact κ
   done
  intro i hi;obtain rfl:i=0:=by omega
  simp only[go_sem,J,e9,(ω:¬((lo:Int)<0)),w1,show a'.wrap (1+0)=1 from ε,v];exact afx
 have r:((lo:Int)>=24):=ω;rw[b0 t] at a;have⟨S,hS,z1,z2⟩:=sz4 lo ω ω;rw[hS] at a;have pS:(S:Int)>0:=ω;by_cases I:L<p+1+S
 .rw[b9 I] at a;subst a;apply bn 2 f353 ajF;intro c J g Y Z;simp only[go_sem,J,l,j,C,E,F,u,f,G,H,P,z1,N,s,r,(ω:(((B.length-(p+1):Nat):Int)<(S:Int)))];refine⟨π,⟨ω,ω⟩,π,π,aq [0,1] rfl ?_ ?_ rfl rfl (fun i hi=>by simp at hi;rcases hi with rfl|rfl<;>exact⟨rfl,ξ⟩) (fun i hi=>by simp[liveK] at hi;simp;omega)⟩
  .simp only[go_sem,xt0]<;>rfl
  .exact κ
 rw[b0 I] at a;have K:¬(((B.length-(p+1):Nat):Int)<(S:Int)):=ω;have U:∀i,(B.drop (p+1)).getD i 0=B.getD (p+1+i) 0:=fun i=>by simp[cR]
 generalize hD:B.drop (p+1)=D at *;apply bn 2 f353 ajF;intro c J g Y Z;simp only[go_sem,J,l,j,C,E,F,u,f,G,H,O,P,z1,N,s,r,K,pS];refine⟨π,⟨ω,ω⟩,π,π,?_⟩;refine bK Y [0,1] (fun i hi=>by have:=g i hi;simpa[liveK] using this) ajF S (fun i=>⟨137,[(0,.ptr 0 0),(2,.ptr 2 0),(3,.i 0),(5,.i k),(7,.i S),(8,.w (aB D i)),(9,.i i)],rrX B p m T++[(2,some ⟨dp,[.i 0,.w 0,sv []]⟩)],3⟩) [] (fun i=>i) ⟨rfl,?_,?_,rfl,rfl,trivial,fun i h=>h⟩ (fun i hi=>rfl) ?_
 .simp only[go_sem,aB]
 .exact κ
  done
 intro i hi;rcases ea i S with his|his
 .have hw:=ac i
  have V:a'.wrap (((p+1:Nat):Int)+(i:Int))=((p+1+i:Nat):Int):=by rw[ab ω ω];omega
  have W:aB D (i+1)=eJ (aB D i) 8 ||| (D.getD i 0).toUInt64:=rfl
  have X:=(U i).symm;generalize aB D i=mm at *;generalize aB D (i+1)=m' at *;subst W;simp only[go_sem,J,hw,w1,V,X,dS,kZ mm 8 ε,(ω:((i:Int)<(S:Int)))];exact agW
 obtain rfl:i=S:=by omega
 have d:¬((i:Int)<(i:Int)):=ω;generalize aB D i=wn at *;by_cases b:wn.toNat<abB i
 .rw[b9 b] at a;subst a;rcases z2 with rfl|rfl|rfl|rfl
  .simp only[go_sem,J,show((wn.toNat:Int)<24) from by have:wn.toNat<24:=b;omega];exact afX
  .simp only[go_sem,J,show((wn.toNat:Int)<256) from by have:wn.toNat<256:=b;omega];exact afX
  .simp only[go_sem,J,show((wn.toNat:Int)<65536) from by have:wn.toNat<65536:=b;omega];exact afX
  .simp only[go_sem,J,show((wn.toNat:Int)<4294967296) from by have:wn.toNat<4294967296:=b;omega];exact afX
 .rw[b0 b] at a;subst a;have M:∀q:Nat,q<20->a'.wrap ((p:Int)+(q:Int))=((p+q:Nat):Int):=fun q hq=>by rw[ab ω ω];omega
  rcases z2 with rfl|rfl|rfl|rfl
  .simp only[go_sem,J,show¬((wn.toNat:Int)<24) from by have:¬wn.toNat<24:=b;omega,show a'.wrap (1+1)=2 from ε,show a'.wrap ((p:Int)+2)=((p+(1+1):Nat):Int) from M 2 ε,v];exact afx
  .simp only[go_sem,J,show¬((wn.toNat:Int)<256) from by have:¬wn.toNat<256:=b;omega,show a'.wrap (1+2)=3 from ε,show a'.wrap ((p:Int)+3)=((p+(1+2):Nat):Int) from M 3 ε,v];exact afx
  .simp only[go_sem,J,show¬((wn.toNat:Int)<65536) from by have:¬wn.toNat<65536:=b;omega,show a'.wrap (1+4)=5 from ε,show a'.wrap ((p:Int)+5)=((p+(1+4):Nat):Int) from M 5 ε,v];exact afx
  .simp only[go_sem,J,show¬((wn.toNat:Int)<4294967296) from by have:¬wn.toNat<4294967296:=b;omega,show a'.wrap (1+8)=9 from ε,show a'.wrap ((p:Int)+9)=((p+(1+8):Nat):Int) from M 9 ε,v];exact afx
structure ae9 where
 e:Int
 x:IT
 q:Nat
def jF(k:Int):Prop:=k=3\/k=4
def qh(k:Int):Prop:=k=5\/k=6
instance (k:Int):Decidable (jF k):=by unfold jF;infer_instance
instance (k:Int):Decidable (qh k):=by unfold qh;infer_instance
def xD(B:List UInt8)(h:HdR)(p:Nat):IT:=if jF h.x.k then⟨h.x.k,0,(B.drop p).take h.x.n.toNat⟩ else h.x
def eL(B:List UInt8)(h:HdR)(q:Nat)(m:Nat)(key:Bool)(bf:List UInt8)(dep:Int):ae9 :=
 if h.e≠0 then⟨h.e,xt0,0⟩ else
 if 512<=m then⟨8,xt0,0⟩ else
 if key=true/\gN h.x.k=false then⟨3,xt0,0⟩ else
 if 8<dep then⟨5,xt0,0⟩ else
 if jF h.x.k/\1024<h.x.n.toNat\/qh h.x.k/\512<h.x.n.toNat then⟨8,xt0,0⟩ else
 if jF h.x.k/\B.length-q<h.x.n.toNat then⟨1,xt0,0⟩ else
 if h.x.k=4/\okU (xD B h q).s=false then⟨6,xt0,0⟩ else
 if key=true/\¬bf=[]/\iL bf (bT (xD B h q))=false then⟨7,xt0,0⟩ else
 ⟨0,xD B h q,if jF h.x.k then q+h.x.n.toNat else q⟩
structure oZ where
 e:Int
 p:Nat
 T:List IT
def kQ(w:Nat->List IT->Bool->List UInt8->oZ)(mp:Bool):Nat->Nat->List IT->List UInt8->oZ
 |0,p,T,_=>⟨0,p,T⟩
 |c+1,p,T,la =>
  if mp=true then
   if(w p T true la).e≠0 then⟨(w p T true la).e,0,[]⟩ else
   if(w (w p T true la).p (w p T true la).T false []).e≠0 then⟨(w (w p T true la).p (w p T true la).T false []).e,0,[]⟩ else
   kQ w mp c (w (w p T true la).p (w p T true la).T false []).p (w (w p T true la).p (w p T true la).T false []).T (bT ((w p T true la).T.getD T.length xt0))
  else
   if(w p T false []).e≠0 then⟨(w p T false []).e,0,[]⟩ else kQ w mp c (w p T false []).p (w p T false []).T la
def jG(B:List UInt8):Nat->Nat->List IT->Bool->List UInt8->oZ
 |0,p,T,key,bf=>⟨(eL B (ck B p) (ck B p).at' T.length key bf 9).e,0,[]⟩
 |f+1,p,T,key,bf =>
  if(eL B (ck B p) (ck B p).at' T.length key bf (8-(f:Int))).e≠0 then⟨(eL B (ck B p) (ck B p).at' T.length key bf (8-(f:Int))).e,0,[]⟩ else
  if qh (ck B p).x.k then
   kQ (jG B f) (decide ((ck B p).x.k=6)) (ck B p).x.n.toNat (eL B (ck B p) (ck B p).at' T.length key bf (8-(f:Int))).q (T++[(eL B (ck B p) (ck B p).at' T.length key bf (8-(f:Int))).x]) []
  else⟨0,(eL B (ck B p) (ck B p).at' T.length key bf (8-(f:Int))).q,T++[(eL B (ck B p) (ck B p).at' T.length key bf (8-(f:Int))).x]⟩
structure Uz(B:List UInt8)(h:HdR):Prop where
 q:h.at'<=B.length
 k:1<=h.x.k/\h.x.k<=8
 s:h.x.s=[]
theorem vH(B:List UInt8)(p:Nat)(a:p<=B.length):(ck B p).e=0->Uz B (ck B p):=by
 unfold ck;split
 .intro h;exact s5 h η
 split
 .exact aiR
 split
 .exact aiR
 split
 .exact aiR
 split
 .intro h;exact s5 h η
 split
 .intro h;exact s5 h η
 split
 .intro _;exact⟨by show p+1<=_;omega,⟨by show(1:Int)<=1+_;omega,by show 1+_<=(8:Int);omega⟩,rfl⟩
 split
 .intro h;exact s5 h η
 .intro _;exact⟨by show p+(1+_)<=_;omega,⟨by show(1:Int)<=1+_;omega,by show 1+_<=(8:Int);omega⟩,rfl⟩
structure Q6(L:Nat)(m:Nat)(r:oZ):Prop where
 p:r.p<=L
 lo:m<r.T.length
 hi:r.T.length<=512
 s:∀y∈r.T,y.s.length<1000000
def WOk(L:Nat)(w:Nat->List IT->Bool->List UInt8->oZ):Prop :=
 ∀p T key bf,p<=L->T.length<=512->(∀y∈T,y.s.length<1000000)->(w p T key bf).e=0->Q6 L T.length (w p T key bf)
theorem vI{L:Nat}{w:Nat->List IT->Bool->List UInt8->oZ}(d:WOk L w)(f:Bool)(M:Nat):∀c p T la,p<=L->M<T.length->T.length<=512->(∀y∈T,y.s.length<1000000)->(kQ w f c p T la).e=0->Q6 L M (kQ w f c p T la)
 |0,p,T,la,hp,h1,h2,hs,_=>⟨hp,h1,h2,hs⟩
 |c+1,p,T,la,hp,h1,h2,hs,he=>by
  simp only[kQ] at he⊢;split
  .rename_i j;rw[b9 j] at he;by_cases a:(w p T true la).e=0
   .rw[b0 (fun h=>h a)] at he⊢;have b:=d p T true la hp h2 hs a;by_cases g:(w (w p T true la).p (w p T true la).T false []).e=0
    .rw[b0 (fun h=>h g)] at he⊢;have i:=d _ _ false [] b.p b.hi b.s g;exact vI d f M c _ _ _ i.p (by have:=b.lo;have:=i.lo;omega) i.hi i.s he
    .rw[b9 g] at he;exact s5 he g
   .rw[b9 a] at he;exact s5 he a
  .rename_i j;rw[b0 j] at he;by_cases a:(w p T false []).e=0
   .rw[b0 (fun h=>h a)] at he⊢;have b:=d p T false [] hp h2 hs a;exact vI d f M c _ _ _ b.p (by have:=b.lo;omega) b.hi b.s he
   .rw[b9 a] at he;exact s5 he a
theorem qj{B:List UInt8}{h:HdR}{m:Nat}{b:Bool}{d:List UInt8}{c:Int}(a:(eL B h h.at' m b d c).e=0) :
 h.e=0/\m<512/\¬(b=true/\gN h.x.k=false)/\c<=8/\¬(jF h.x.k/\1024<h.x.n.toNat\/qh h.x.k/\512<h.x.n.toNat)/\¬(jF h.x.k/\B.length-h.at'<h.x.n.toNat) /\
 ¬(h.x.k=4/\okU (xD B h h.at').s=false)/\¬(b=true/\¬d=[]/\iL d (bT (xD B h h.at'))=false)/\eL B h h.at' m b d c=⟨0,xD B h h.at',if jF h.x.k then h.at'+h.x.n.toNat else h.at'⟩:=by
 unfold eL at a⊢;by_cases f:h.e≠0
 .rw[b9 f] at a;exact s5 a f
 rw[b0 f] at a⊢;by_cases p:512<=m
 .rw[b9 p] at a;exact s5 a ε
 rw[b0 p] at a⊢;by_cases g:b=true/\gN h.x.k=false
 .rw[b9 g] at a;exact s5 a ε
 rw[b0 g] at a⊢;by_cases q:8<c
 .rw[b9 q] at a;exact s5 a ε
 rw[b0 q] at a⊢;by_cases i:jF h.x.k/\1024<h.x.n.toNat\/qh h.x.k/\512<h.x.n.toNat
 .rw[b9 i] at a;exact s5 a ε
 rw[b0 i] at a⊢;by_cases j:jF h.x.k/\B.length-h.at'<h.x.n.toNat
 .rw[b9 j] at a;exact s5 a ε
 rw[b0 j] at a⊢;by_cases l:h.x.k=4/\okU (xD B h h.at').s=false
 .rw[b9 l] at a;exact s5 a ε
 rw[b0 l] at a⊢;by_cases o:b=true/\¬d=[]/\iL d (bT (xD B h h.at'))=false
 .rw[b9 o] at a;exact s5 a ε
 rw[b0 o] at a⊢;exact⟨by simpa using f,ω,g,ω,i,j,l,o,rfl⟩
theorem afa{B:List UInt8}{h:HdR}(L:Nat)(a:B.length=L)(b:L<1000000)(hs:h.x.s=[])(q:Nat):(xD B h q).s.length<1000000:=by
 unfold xD;split
 .show((B.drop q).take h.x.n.toNat).length<1000000;rw[hV,kK];omega
 .rw[hs];decide
theorem vJ(B:List UInt8)(L:Nat)(d:B.length=L)(g:L<1000000):∀f,WOk L (jG B f)
 |0,p,T,key,bf,hp,hT,hs,he=>by
  exfalso;have:=(qj (show(eL B (ck B p) (ck B p).at' T.length key bf 9).e=0 from he)).2.2.2.1;exact s5 this ε
 |f+1,p,T,key,bf,hp,hT,hs,he=>by
  simp only[jG] at he⊢;by_cases c:(eL B (ck B p) (ck B p).at' T.length key bf (8-(f:Int))).e=0
  case neg=>rw[b9 c] at he;exact s5 he c
  rw[b0 (fun h=>h c)] at he⊢;obtain⟨j,r,-,-,-,l,-,-,a9⟩:=qj c;have ho:=vH B p ω j;rw[a9] at he⊢;have i:(if jF (ck B p).x.k then(ck B p).at'+(ck B p).x.n.toNat else(ck B p).at')<=L:=by
   have:=ho.q;split
   .rename_i m;have:¬B.length-(ck B p).at'<(ck B p).x.n.toNat:=fun h=>l ⟨m,h⟩
    omega
   .omega
  have b:∀y∈T++[xD B (ck B p) (ck B p).at'],y.s.length<1000000:=by
   intro y a;rw[o1] at a;rcases a with a|a
   .exact hs y a
   .simp at a;subst a;exact afa L d g ho.s _
  split
  .rename_i o;rw[b9 o] at he;exact vI (vJ B L d g f) _ _ _ _ _ _ i η ζ b he
  .exact⟨i,η,ζ,b⟩
abbrev rrY(B:List UInt8)(at':Int)(n:Nat)(T:List IT):List (Nat×Option Blk):=[(0,some ⟨rrT,[sv B,.i at',.sl 2 0 n 3]⟩),(2,some ⟨dp,xtA T⟩),(1,none)]
abbrev rrD:List (Nat×Option Blk):=[(0,none),(1,none)]
theorem iN(T:List IT)(x:IT):xtA T++[.i x.k,.w x.n,sv x.s]=xtA (T++[x]):=by simp[xtA,gz,xtP]
theorem qk(T:List IT):(xtA T).length=T.length*3:=by simp[xtA,Cv]
theorem abC(l:List IT):jN (xtA l)↔True:=⟨fun _=>trivial,fun _=>aG _⟩
theorem UA(l:List IT):jO (xtA l)=gz l:=aJ _
attribute [go_sem] qk abC UA
theorem UB(l:List IT)(i:Nat)(h:i<l.length):(xtA l).drop (i*3) = .i (l.getD i xt0).k :: .w (l.getD i xt0).n::sv (l.getD i xt0).s::xtA (l.drop (i+1)):=by
 have e:(xtA l).drop (i*3)=((gz l).drop (i*3)).map .p:=by rw[xtA,List.map_drop]
 rw[e,nG l i h,List.map_append];rfl
abbrev ItE(B:List UInt8)(p m:Nat)(T:List IT)(dep:Int)(key:Bool)(bf:List UInt8)(R:Int):Prop:=Con prog 316 [.ptr 0 0,.i dep,.b key,sv bf] (rrX B p m T) (.i R) rrD
abbrev ItK(B:List UInt8)(p m:Nat)(T:List IT)(dep:Int)(key:Bool)(bf:List UInt8)(q:Nat)(x:IT):Prop:=Con prog 316 [.ptr 0 0,.i dep,.b key,sv bf] (rrX B p m T) (.i 0) (rrY B q (m+1) (T++[x]))
abbrev eZ(B:List UInt8)(p m:Nat)(T:List IT)(h:HdR):Prop:=Con prog 353 [.ptr 0 0] (rrX B p m T) (.tup [.agg (itG h.x),.i h.e]) (rrX B h.at' m T)
def ajE:List Nat:=[0,1,2,3,8,9,10,11,12,13,14,15,16,17,18,25,45,52,60,63,76,93,129,141,157,162,174,189]
attribute[go_sem]ajE
theorem itH(B:List UInt8)(p m:Nat)(T:List IT)(a:Int)(b:Bool)(d:List UInt8)(h:HdR)(f:eZ B p m T h)(g:¬h.e=0):ItE B p m T a b d h.e:=by
 apply bn 2 f316 ajE;intro c J j Y Z;simp only[go_sem];refine x_k Z 2 f ?_;simp only[go_sem,J,g];exact Ξ
theorem UC(B:List UInt8)(L q p m:Nat)(o:B.length=L)(j:L<1000000)(r:q<=L)(T:List IT)(b:Int)(f:List UInt8)(k:Int)(a:¬k=3/\¬k=4/\¬k=5/\¬k=6)(n:UInt64)(g:eZ B p m T ⟨⟨k,n,[]⟩,q,0⟩)(R:Int)(hR:(eL B ⟨⟨k,n,[]⟩,q,0⟩ q m false f b).e=R)(hR0:¬R=0):ItE B p m T b false f R:=by
 unfold eL at hR;dsimp only at hR;rw[b0 (fun c=>c rfl)] at hR;by_cases h:512<=m
 .rw[b9 h] at hR;subst hR;apply bn 2 f316 ajE;intro c J l Y Z;simp only[go_sem];refine x_k Z 2 g ?_;simp only[go_sem,J,(ω:((m:Int)>=512)),a.1,a.2.2.1];exact Ξ
 rw[b0 h] at hR;rw[b0 (fun c=>by cases c.1)] at hR;by_cases d:8<b
 .rw[b9 d] at hR;subst hR;apply bn 2 f316 ajE;intro c J l Y Z;simp only[go_sem];refine x_k Z 2 g ?_;simp only[go_sem,J,(ω:¬((m:Int)>=512)),a.1,a.2.2.1,show(b>8) from d];exact Ξ
 rw[b0 d] at hR;rw[b0 (fun c=>c.elim (fun c=>c.1.elim a.1 a.2.1) fun c=>c.1.elim a.2.2.1 a.2.2.2)] at hR;rw[b0 (fun c=>c.1.elim a.1 a.2.1)] at hR;rw[b0 (fun c=>a.2.1 c.1)] at hR;exact ahd
theorem UD(B:List UInt8)(L q p m:Nat)(y:B.length=L)(w:L<1000000)(z:q<=L)(T:List IT)(d:Int)(g:List UInt8)(k:Int)(a:¬k=3/\¬k=4/\¬k=5/\¬k=6)(n:UInt64)(j:eZ B p m T ⟨⟨k,n,[]⟩,q,0⟩)(R:Int)(b:(eL B ⟨⟨k,n,[]⟩,q,0⟩ q m true g d).e=R)(r:¬R=0):ItE B p m T d true g R:=by
 unfold eL at b;dsimp only at b;rw[b0 (fun c=>c rfl)] at b;by_cases u:512<=m
 .rw[b9 u] at b;subst b;apply bn 2 f316 ajE;intro c J s Y Z;simp only[go_sem];refine x_k Z 2 j ?_;simp only[go_sem,J,(ω:((m:Int)>=512)),a.1,a.2.2.1];exact Ξ
 rw[b0 u] at b;have f:=eQ k;by_cases l:true=true/\gN k=false
 .rw[b9 l] at b;subst b;apply bn 2 f316 ajE;intro c J s Y Z;simp only[go_sem];refine x_k Z 2 j ?_;simp only[go_sem,J,(ω:¬((m:Int)>=512)),a.1,a.2.2.1];rw[l.2] at f;apply aa Z f;simp only[go_sem];exact Ξ
 rw[b0 l] at b;rw[show gN k=true from by simpa using l] at f;by_cases o:8<d
 .rw[b9 o] at b;subst b;apply bn 2 f316 ajE;intro c J s Y Z;simp only[go_sem];refine x_k Z 2 j ?_;simp only[go_sem,J,(ω:¬((m:Int)>=512)),a.1,a.2.2.1];apply aa Z f;simp only[go_sem,show(d>8) from o];exact Ξ
 rw[b0 o] at b;rw[b0 (fun c=>c.elim (fun c=>c.1.elim a.1 a.2.1) fun c=>c.1.elim a.2.2.1 a.2.2.2)] at b;rw[b0 (fun c=>c.1.elim a.1 a.2.1)] at b;rw[b0 (fun c=>a.2.1 c.1)] at b;have t:xD B ⟨⟨k,n,[]⟩,q,0⟩ q=⟨k,n,[]⟩:=by unfold xD;rw[b0 (fun c=>c.elim a.1 a.2.1)]
 rw[t] at b;by_cases h:¬g=[]/\iL g (bT ⟨k,n,[]⟩)=false
 .rw[b9 ⟨rfl,h.1,h.2⟩] at b;subst b;have x:=dV ⟨k,n,[]⟩ η;have v:=gc g (bT ⟨k,n,[]⟩);rw[h.2] at v;generalize bT ⟨k,n,[]⟩=by' at *;apply bn 2 f316 ajE;intro c J s Y Z;simp only[go_sem];refine x_k Z 2 j ?_;simp only[go_sem,J,(ω:¬((m:Int)>=512)),a.1,a.2.2.1];apply aa Z f;simp only[go_sem,J,show¬(d>8) from o,dz,h.1,a.2.1,a.2.2.2];refine⟨π,?_⟩;apply aa Z x;simp only[go_sem];apply aa Z v;simp only[go_sem];exact Ξ
 rw[b0 (fun c=>h c.2)] at b;exact s5 b.symm r
theorem UE(B:List UInt8)(L q p m:Nat)(k:B.length=L)(j:L<1000000)(l:q<=L)(T:List IT)(a:Int)(f:List UInt8)(n:UInt64)(d:eZ B p m T ⟨⟨5,n,[]⟩,q,0⟩)(R:Int)(hR:(eL B ⟨⟨5,n,[]⟩,q,0⟩ q m false f a).e=R)(hR0:¬R=0):ItE B p m T a false f R:=by
 unfold eL at hR;dsimp only at hR;rw[b0 (fun c=>c rfl)] at hR;by_cases g:512<=m
 .rw[b9 g] at hR;subst hR;refine bn 2 f316 ajE ?_;intro c J h Y Z;simp only[go_sem];refine x_k Z 2 d ?_;simp only[go_sem,J,(ω:((m:Int)>=512))];exact Ξ
 rw[b0 g] at hR;rw[b0 (fun c=>by cases c.1)] at hR;by_cases b:8<a
 .rw[b9 b] at hR;subst hR;refine bn 2 f316 ajE ?_;intro c J h Y Z;simp only[go_sem];refine x_k Z 2 d ?_;simp only[go_sem,J,(ω:¬((m:Int)>=512)),show(a>8) from b];exact Ξ
 rw[b0 b] at hR;by_cases c5:512<n.toNat
 .rw[b9 (.inr ⟨ε,c5⟩)] at hR;subst hR;refine bn 2 f316 ajE ?_;intro c J h Y Z;simp only[go_sem];refine x_k Z 2 d ?_;simp only[go_sem,J,(ω:¬((m:Int)>=512)),show¬(a>8) from b,(ω:((n.toNat:Int)>512))];exact Ξ
 exact agI
theorem UF(B:List UInt8)(L q p m:Nat)(r:B.length=L)(k:L<1000000)(s:q<=L)(T:List IT)(d:Int)(g:List UInt8)(n:UInt64)(h:eZ B p m T ⟨⟨5,n,[]⟩,q,0⟩)(R:Int)(a:(eL B ⟨⟨5,n,[]⟩,q,0⟩ q m true g d).e=R)(l:¬R=0):ItE B p m T d true g R:=by
 unfold eL at a;dsimp only at a;rw[b0 (fun c=>c rfl)] at a;by_cases j:512<=m
 .rw[b9 j] at a;subst a;refine bn 2 f316 ajE ?_;intro c J o Y Z;simp only[go_sem];refine x_k Z 2 h ?_;simp only[go_sem,J,(ω:((m:Int)>=512))];exact Ξ
 rw[b0 j] at a;have b:=eQ 5;by_cases f:true=true/\gN 5=false
 .rw[b9 f] at a;subst a;refine bn 2 f316 ajE ?_;intro c J o Y Z;simp only[go_sem];refine x_k Z 2 h ?_;simp only[go_sem,J,(ω:¬((m:Int)>=512))];rw[f.2] at b;refine aa Z b ?_;simp only[go_sem];exact Ξ
 rw[b0 f] at a;rw[show gN 5=true from by simpa using f] at b;exact s5 (show true=true/\gN 5=false from⟨rfl,rfl⟩) f
theorem UG(B:List UInt8)(L q p m:Nat)(k:B.length=L)(j:L<1000000)(l:q<=L)(T:List IT)(a:Int)(f:List UInt8)(n:UInt64)(d:eZ B p m T ⟨⟨6,n,[]⟩,q,0⟩)(R:Int)(hR:(eL B ⟨⟨6,n,[]⟩,q,0⟩ q m false f a).e=R)(hR0:¬R=0):ItE B p m T a false f R:=by
 unfold eL at hR;dsimp only at hR;rw[b0 (fun c=>c rfl)] at hR;by_cases g:512<=m
 .rw[b9 g] at hR;subst hR;refine bn 2 f316 ajE ?_;intro c J h Y Z;simp only[go_sem];refine x_k Z 2 d ?_;simp only[go_sem,J,(ω:((m:Int)>=512))];exact Ξ
 rw[b0 g] at hR;rw[b0 (fun c=>by cases c.1)] at hR;by_cases b:8<a
 .rw[b9 b] at hR;subst hR;refine bn 2 f316 ajE ?_;intro c J h Y Z;simp only[go_sem];refine x_k Z 2 d ?_;simp only[go_sem,J,(ω:¬((m:Int)>=512)),show(a>8) from b];exact Ξ
 rw[b0 b] at hR;by_cases c5:512<n.toNat
 .rw[b9 (.inr ⟨ε,c5⟩)] at hR;subst hR;refine bn 2 f316 ajE ?_;intro c J h Y Z;simp only[go_sem];refine x_k Z 2 d ?_;simp only[go_sem,J,(ω:¬((m:Int)>=512)),show¬(a>8) from b,(ω:((n.toNat:Int)>512))];exact Ξ
 exact agI
theorem UH(B:List UInt8)(L q p m:Nat)(r:B.length=L)(k:L<1000000)(s:q<=L)(T:List IT)(d:Int)(g:List UInt8)(n:UInt64)(h:eZ B p m T ⟨⟨6,n,[]⟩,q,0⟩)(R:Int)(a:(eL B ⟨⟨6,n,[]⟩,q,0⟩ q m true g d).e=R)(l:¬R=0):ItE B p m T d true g R:=by
 unfold eL at a;dsimp only at a;rw[b0 (fun c=>c rfl)] at a;by_cases j:512<=m
 .rw[b9 j] at a;subst a;refine bn 2 f316 ajE ?_;intro c J o Y Z;simp only[go_sem];refine x_k Z 2 h ?_;simp only[go_sem,J,(ω:((m:Int)>=512))];exact Ξ
 rw[b0 j] at a;have b:=eQ 6;by_cases f:true=true/\gN 6=false
 .rw[b9 f] at a;subst a;refine bn 2 f316 ajE ?_;intro c J o Y Z;simp only[go_sem];refine x_k Z 2 h ?_;simp only[go_sem,J,(ω:¬((m:Int)>=512))];rw[f.2] at b;refine aa Z b ?_;simp only[go_sem];exact Ξ
 rw[b0 f] at a;rw[show gN 6=true from by simpa using f] at b;exact s5 (show true=true/\gN 6=false from⟨rfl,rfl⟩) f
theorem UI(B:List UInt8)(L q p m:Nat)(s:B.length=L)(l:L<1000000)(t:q<=L)(T:List IT)(a:Int)(g:List UInt8)(n:UInt64)(d:eZ B p m T ⟨⟨3,n,[]⟩,q,0⟩)(R:Int)(hR:(eL B ⟨⟨3,n,[]⟩,q,0⟩ q m false g a).e=R)(hR0:¬R=0):ItE B p m T a false g R:=by
 unfold eL at hR;dsimp only at hR;rw[b0 (fun c=>c rfl)] at hR;by_cases h:512<=m
 .rw[b9 h] at hR;subst hR;refine bn 2 f316 ajE ?_;intro c J f Y Z;simp only[go_sem];refine x_k Z 2 d ?_;simp only[go_sem,J,(ω:((m:Int)>=512))];exact Ξ
 rw[b0 h] at hR;rw[b0 (fun c=>by cases c.1)] at hR;by_cases b:8<a
 .rw[b9 b] at hR;subst hR;refine bn 2 f316 ajE ?_;intro c J f Y Z;simp only[go_sem];refine x_k Z 2 d ?_;simp only[go_sem,J,(ω:¬((m:Int)>=512)),show(a>8) from b];exact Ξ
 rw[b0 b] at hR;by_cases j:1024<n.toNat
 .rw[b9 (.inl ⟨ε,j⟩)] at hR;subst hR;refine bn 2 f316 ajE ?_;intro c J f Y Z;simp only[go_sem];refine x_k Z 2 d ?_;simp only[go_sem,J,(ω:¬((m:Int)>=512)),show¬(a>8) from b,(ω:((n.toNat:Int)>1024))];exact Ξ
 rw[b0 (fun c=>c.elim (fun c=>j c.2) fun c=>s5 c.1 ε)] at hR;have o:a'.wrap ((B.length:Int)-(q:Int))=((B.length-q:Nat):Int):=by rw[ab ω ω];omega
 have r:b'.wrap ((B.length-q:Nat):Int)=((B.length-q:Nat):Int):=ao ω ω;by_cases k:B.length-q<n.toNat
 .rw[b9 ⟨ε,k⟩] at hR;subst hR;refine bn 2 f316 ajE ?_;intro c J f Y Z;simp only[go_sem];refine x_k Z 2 d ?_;simp only[go_sem,J,(ω:¬((m:Int)>=512)),show¬(a>8) from b,(ω:¬((n.toNat:Int)>1024)),o,r,(ω:(((B.length-q:Nat):Int)<(n.toNat:Int)))];refine⟨π,?_⟩;exact Ξ
 rw[b0 (fun c=>k c.2)] at hR;rw[b0 (fun c=>s5 c.1 ε)] at hR;exact ahd
theorem UJ(B:List UInt8)(L q p m:Nat)(r:B.length=L)(k:L<1000000)(s:q<=L)(T:List IT)(d:Int)(g:List UInt8)(n:UInt64)(h:eZ B p m T ⟨⟨3,n,[]⟩,q,0⟩)(R:Int)(a:(eL B ⟨⟨3,n,[]⟩,q,0⟩ q m true g d).e=R)(l:¬R=0):ItE B p m T d true g R:=by
 unfold eL at a;dsimp only at a;rw[b0 (fun c=>c rfl)] at a;by_cases j:512<=m
 .rw[b9 j] at a;subst a;refine bn 2 f316 ajE ?_;intro c J o Y Z;simp only[go_sem];refine x_k Z 2 h ?_;simp only[go_sem,J,(ω:((m:Int)>=512))];exact Ξ
 rw[b0 j] at a;have b:=eQ 3;by_cases f:true=true/\gN 3=false
 .rw[b9 f] at a;subst a;refine bn 2 f316 ajE ?_;intro c J o Y Z;simp only[go_sem];refine x_k Z 2 h ?_;simp only[go_sem,J,(ω:¬((m:Int)>=512))];rw[f.2] at b;refine aa Z b ?_;simp only[go_sem];exact Ξ
 rw[b0 f] at a;rw[show gN 3=true from by simpa using f] at b;exact s5 (show true=true/\gN 3=false from⟨rfl,rfl⟩) f
theorem UK(B:List UInt8)(L q p m:Nat)(y:B.length=L)(v:L<1000000)(z:q<=L)(T:List IT)(a:Int)(k:List UInt8)(n:UInt64)(d:eZ B p m T ⟨⟨4,n,[]⟩,q,0⟩)(R:Int)(hR:(eL B ⟨⟨4,n,[]⟩,q,0⟩ q m false k a).e=R)(hR0:¬R=0):ItE B p m T a false k R:=by
 unfold eL at hR;dsimp only at hR;rw[b0 (fun c=>c rfl)] at hR;by_cases l:512<=m
 .rw[b9 l] at hR;subst hR;refine bn 2 f316 ajE ?_;intro c J g Y Z;simp only[go_sem];refine x_k Z 2 d ?_;simp only[go_sem,J,(ω:((m:Int)>=512))];exact Ξ
 rw[b0 l] at hR;rw[b0 (fun c=>by cases c.1)] at hR;by_cases b:8<a
 .rw[b9 b] at hR;subst hR;refine bn 2 f316 ajE ?_;intro c J g Y Z;simp only[go_sem];refine x_k Z 2 d ?_;simp only[go_sem,J,(ω:¬((m:Int)>=512)),show(a>8) from b];exact Ξ
 rw[b0 b] at hR;by_cases o:1024<n.toNat
 .rw[b9 (.inl ⟨ε,o⟩)] at hR;subst hR;refine bn 2 f316 ajE ?_;intro c J g Y Z;simp only[go_sem];refine x_k Z 2 d ?_;simp only[go_sem,J,(ω:¬((m:Int)>=512)),show¬(a>8) from b,(ω:((n.toNat:Int)>1024))];exact Ξ
 rw[b0 (fun c=>c.elim (fun c=>o c.2) fun c=>s5 c.1 ε)] at hR;have r:a'.wrap ((B.length:Int)-(q:Int))=((B.length-q:Nat):Int):=by rw[ab ω ω];omega
 have t:b'.wrap ((B.length-q:Nat):Int)=((B.length-q:Nat):Int):=ao ω ω;by_cases u:B.length-q<n.toNat
 .rw[b9 ⟨ε,u⟩] at hR;subst hR;refine bn 2 f316 ajE ?_;intro c J g Y Z;simp only[go_sem];refine x_k Z 2 d ?_;simp only[go_sem,J,(ω:¬((m:Int)>=512)),show¬(a>8) from b,(ω:¬((n.toNat:Int)>1024)),r,t,(ω:(((B.length-q:Nat):Int)<(n.toNat:Int)))];refine⟨π,?_⟩;exact Ξ
 rw[b0 (fun c=>u c.2)] at hR;have xs:(xD B ⟨⟨4,n,[]⟩,q,0⟩ q).s=(B.drop q).take n.toNat:=rfl;rw[xs] at hR;have f:(⟨B.toArray⟩:ByteArray).extract q (q+n.toNat)=⟨((B.drop q).take n.toNat).toArray⟩:=by rw[oR,c',ms]
 have w:((B.drop q).take n.toNat).length<=L:=by rw[hV,kK];omega
 have h:xD B ⟨⟨4,n,[]⟩,q,0⟩ q=⟨4,0,(B.drop q).take n.toNat⟩:=rfl;rw[h] at hR;generalize(B.drop q).take n.toNat=s at *;have w1:a'.wrap (n.toNat:Int)=(n.toNat:Int):=ab ω ω;have x:a'.wrap ((q:Int)+(n.toNat:Int))=((q+n.toNat:Nat):Int):=by rw[ab ω ω];omega
 have hv:=bW s ω;by_cases j:okU s=false
 .rw[b9 ⟨rfl,j⟩] at hR;subst hR;rw[j] at hv;refine bn 2 f316 ajE ?_;intro c J g Y Z;simp only[go_sem];refine x_k Z 2 d ?_;simp only[go_sem,J,(ω:¬((m:Int)>=512)),show¬(a>8) from b,(ω:¬((n.toNat:Int)>1024)),r,t,(ω:¬(((B.length-q:Nat):Int)<(n.toNat:Int))),w1,x,f];refine⟨π,⟨ω,ω,ω⟩,π,?_⟩;refine aa Z hv ?_;simp only[go_sem];exact Ξ
 rw[b0 (fun c=>j c.2)] at hR;exact ahd
theorem UL(B:List UInt8)(L q p m:Nat)(G:B.length=L)(D:L<1000000)(H:q<=L)(T:List IT)(b:Int)(k:List UInt8)(n:UInt64)(g:eZ B p m T ⟨⟨4,n,[]⟩,q,0⟩)(R:Int)(a:(eL B ⟨⟨4,n,[]⟩,q,0⟩ q m true k b).e=R)(t:¬R=0):ItE B p m T b true k R:=by
 unfold eL at a;dsimp only at a;rw[b0 (fun c=>c rfl)] at a;by_cases x:512<=m
 .rw[b9 x] at a;subst a;refine bn 2 f316 ajE ?_;intro c J j Y Z;simp only[go_sem];refine x_k Z 2 g ?_;simp only[go_sem,J,(ω:((m:Int)>=512))];exact Ξ
 rw[b0 x] at a;have d:=eQ 4;by_cases o:true=true/\gN 4=false
 .rw[b9 o] at a;subst a;refine bn 2 f316 ajE ?_;intro c J j Y Z;simp only[go_sem];refine x_k Z 2 g ?_;simp only[go_sem,J,(ω:¬((m:Int)>=512))];rw[o.2] at d;refine aa Z d ?_;simp only[go_sem];exact Ξ
 rw[b0 o] at a;rw[show gN 4=true from by simpa using o] at d;by_cases h:8<b
 .rw[b9 h] at a;subst a;refine bn 2 f316 ajE ?_;intro c J j Y Z;simp only[go_sem];refine x_k Z 2 g ?_;simp only[go_sem,J,(ω:¬((m:Int)>=512))];refine aa Z d ?_;simp only[go_sem,show(b>8) from h];exact Ξ
 rw[b0 h] at a;by_cases y:1024<n.toNat
 .rw[b9 (.inl ⟨ε,y⟩)] at a;subst a;refine bn 2 f316 ajE ?_;intro c J j Y Z;simp only[go_sem];refine x_k Z 2 g ?_;simp only[go_sem,J,(ω:¬((m:Int)>=512))];refine aa Z d ?_;simp only[go_sem,show¬(b>8) from h,(ω:((n.toNat:Int)>1024))];exact Ξ
 rw[b0 (fun c=>c.elim (fun c=>y c.2) fun c=>s5 c.1 ε)] at a;have u:a'.wrap ((B.length:Int)-(q:Int))=((B.length-q:Nat):Int):=by rw[ab ω ω];omega
 have v:b'.wrap ((B.length-q:Nat):Int)=((B.length-q:Nat):Int):=ao ω ω;by_cases z:B.length-q<n.toNat
 .rw[b9 ⟨ε,z⟩] at a;subst a;refine bn 2 f316 ajE ?_;intro c J j Y Z;simp only[go_sem];refine x_k Z 2 g ?_;simp only[go_sem,J,(ω:¬((m:Int)>=512))];refine aa Z d ?_;simp only[go_sem,J,show¬(b>8) from h,(ω:¬((n.toNat:Int)>1024)),u,v,(ω:(((B.length-q:Nat):Int)<(n.toNat:Int)))];refine⟨π,?_⟩;exact Ξ
 rw[b0 (fun c=>z c.2)] at a;have xs:(xD B ⟨⟨4,n,[]⟩,q,0⟩ q).s=(B.drop q).take n.toNat:=rfl;rw[xs] at a;have f:(⟨B.toArray⟩:ByteArray).extract q (q+n.toNat)=⟨((B.drop q).take n.toNat).toArray⟩:=by rw[oR,c',ms]
 have E:((B.drop q).take n.toNat).length<=L:=by rw[hV,kK];omega
 have w:xD B ⟨⟨4,n,[]⟩,q,0⟩ q=⟨4,0,(B.drop q).take n.toNat⟩:=rfl;rw[w] at a;generalize(B.drop q).take n.toNat=s at *;have w1:a'.wrap (n.toNat:Int)=(n.toNat:Int):=ab ω ω;have A:a'.wrap ((q:Int)+(n.toNat:Int))=((q+n.toNat:Nat):Int):=by rw[ab ω ω];omega
 have hv:=bW s ω;by_cases r:okU s=false
 .rw[b9 ⟨rfl,r⟩] at a;subst a;rw[r] at hv;refine bn 2 f316 ajE ?_;intro c J j Y Z;simp only[go_sem];refine x_k Z 2 g ?_;simp only[go_sem,J,(ω:¬((m:Int)>=512))];refine aa Z d ?_;simp only[go_sem,J,show¬(b>8) from h,(ω:¬((n.toNat:Int)>1024)),u,v,(ω:¬(((B.length-q:Nat):Int)<(n.toNat:Int))),w1,A,f];refine⟨π,⟨ω,ω,ω⟩,π,?_⟩;refine aa Z hv ?_;simp only[go_sem];exact Ξ
 rw[b0 (fun c=>r c.2)] at a;rw[show okU s=true from by simpa using r] at hv;by_cases l:¬k=[]/\iL k (bT ⟨4,0,s⟩)=false
 .rw[b9 ⟨rfl,l.1,l.2⟩] at a;subst a;have F:=dV ⟨4,0,s⟩ (by show s.length<1000000;omega);have C:=gc k (bT ⟨4,0,s⟩);rw[l.2] at C;generalize bT ⟨4,0,s⟩=by' at *;refine bn 2 f316 ajE ?_;intro c J j Y Z;simp only[go_sem];refine x_k Z 2 g ?_;simp only[go_sem,J,(ω:¬((m:Int)>=512))];refine aa Z d ?_;simp only[go_sem,J,show¬(b>8) from h,(ω:¬((n.toNat:Int)>1024)),u,v,(ω:¬(((B.length-q:Nat):Int)<(n.toNat:Int))),w1,A,f];refine⟨π,⟨ω,ω,ω⟩,π,?_⟩;refine aa Z hv ?_;simp only[go_sem,J,dz,l.1];refine aa Z F ?_;simp only[go_sem];refine aa Z C ?_;simp only[go_sem];exact Ξ
 rw[b0 (fun c=>l c.2)] at a;exact s5 a.symm t
theorem UM(B:List UInt8)(L q p m:Nat)(o:B.length=L)(e:L<1000000)(r:q<=L)(T:List IT)(s:T.length=m)(a:Int)(f:List UInt8)(k:Int)(d:¬k=3/\¬k=4/\¬k=5/\¬k=6)(n:UInt64)(g:eZ B p m T ⟨⟨k,n,[]⟩,q,0⟩)(t:m<512)(u:a<=8):ItK B p m T a false f q ⟨k,n,[]⟩:=by
 have j:xtA T++[.p (.v (.int .i64 k)),.p (wd n),.p (.v (.string ⟨#[]⟩))]=xtA (T++[⟨k,n,[]⟩]):=iN T ⟨k,n,[]⟩;refine bn 2 f316 ajE ?_;intro c J l Y Z;simp only[go_sem];refine x_k Z 2 g ?_;simp only[go_sem,J,(ω:¬((m:Int)>=512)),(ω:¬(a>8)),d.1,d.2.1,d.2.2.1,d.2.2.2];refine⟨π,⟨ω,ω,ω⟩,π,?_⟩;refine bK Y [0,1] (fun i hi=>by have:=l i hi;simpa[liveK] using this) ajE 0 (fun i=>⟨191,[(13,.b false)],[(0,some ⟨rrT,[sv B,.i (q:Nat),.sl 2 0 (m+1) 3]⟩),(2,some ⟨dp,xtA (T++[⟨k,n,[]⟩])⟩)],3⟩) [] (sg 5 [0,1,4]) ⟨rfl,?_,?_,rfl,rfl,trivial,fun i h=>aw [0,1,4] 5 i h⟩ (fun i hi=>by simp at hi;rcases hi with rfl|rfl<;>rfl) ?_
 .simp only[go_sem];exact d.2.2.2
 .simp only[go_sem,j]
 exact afu
theorem UN(B:List UInt8)(L q p m:Nat)(x:B.length=L)(t:L<1000000)(y:q<=L)(T:List IT)(z:T.length=m)(d:Int)(e:List UInt8)(k:Int)(a:¬k=3/\¬k=4/\¬k=5/\¬k=6)(n:UInt64)(o:eZ B p m T ⟨⟨k,n,[]⟩,q,0⟩)(A:m<512)(C:d<=8)(j:gN k=true)(u:¬(¬e=[]/\iL e (bT ⟨k,n,[]⟩)=false)):ItK B p m T d true e q ⟨k,n,[]⟩:=by
 have r:xtA T++[.p (.v (.int .i64 k)),.p (wd n),.p (.v (.string ⟨#[]⟩))]=xtA (T++[⟨k,n,[]⟩]):=iN T ⟨k,n,[]⟩;have f:=eQ k;rw[j] at f;have w:=dV ⟨k,n,[]⟩ η;have s:=gc e (bT ⟨k,n,[]⟩);generalize bT ⟨k,n,[]⟩=by' at *;by_cases g:e=[]
 .subst g;refine bn 2 f316 ajE ?_;intro c J l Y Z;simp only[go_sem];refine x_k Z 2 o ?_;simp only[go_sem,J,(ω:¬((m:Int)>=512)),a.1,a.2.2.1];refine aa Z f ?_;simp only[go_sem,J,(ω:¬(d>8)),a.2.1,a.2.2.2];refine⟨π,⟨ω,ω,ω⟩,π,?_⟩;refine bK Y [0,1] (fun i hi=>by have:=l i hi;simpa[liveK] using this) ajE 0 (fun i=>⟨191,[(13,.b false)],[(0,some ⟨rrT,[sv B,.i (q:Nat),.sl 2 0 (m+1) 3]⟩),(2,some ⟨dp,xtA (T++[⟨k,n,[]⟩])⟩)],3⟩) [] (sg 5 [0,1,4]) ⟨rfl,?_,?_,rfl,rfl,trivial,fun i h=>aw [0,1,4] 5 i h⟩ (fun i hi=>by simp at hi;rcases hi with rfl|rfl<;>rfl) ?_
  .simp only[go_sem];exact a.2.2.2
  .simp only[go_sem,r]
  exact afu
 .rw[show iL e by'=true from by cases h:iL e by' with|true=>rfl|false=>exact s5 ⟨g,h⟩ u] at s;refine bn 2 f316 ajE ?_;intro c J l Y Z;simp only[go_sem];refine x_k Z 2 o ?_;simp only[go_sem,J,(ω:¬((m:Int)>=512)),a.1,a.2.2.1];refine aa Z f ?_;simp only[go_sem,J,(ω:¬(d>8)),a.2.1,a.2.2.2,dz,g];refine⟨π,?_⟩;refine aa Z w ?_;simp only[go_sem];refine aa Z s ?_;refine θ ?_;refine⟨⟨ω,ω,ω⟩,π,?_⟩;refine bK Y [0,1] (fun i hi=>by have:=l i hi;simpa[liveK] using this) ajE 0 (fun i=>⟨191,[(13,.b false)],[(0,some ⟨rrT,[sv B,.i (q:Nat),.sl 2 0 (m+1) 3]⟩),(2,some ⟨dp,xtA (T++[⟨k,n,[]⟩])⟩)],3⟩) [] (sg 5 [0,1,4]) ⟨rfl,?_,?_,rfl,rfl,trivial,fun i h=>aw [0,1,4] 5 i h⟩ (fun i hi=>by simp at hi;rcases hi with rfl|rfl<;>rfl) ?_
  .simp only[go_sem];exact a.2.2.2
  .simp only[go_sem,r]
  exact afu
theorem UO(B:List UInt8)(L q p m:Nat)(u:B.length=L)(e:L<1000000)(w:q<=L)(T:List IT)(x:T.length=m)(a:Int)(f:List UInt8)(n:UInt64)(g:eZ B p m T ⟨⟨3,n,[]⟩,q,0⟩)(y:m<512)(z:a<=8)(A:n.toNat<=1024)(C:n.toNat<=B.length-q):ItK B p m T a false f (q+n.toNat) ⟨3,0,(B.drop q).take n.toNat⟩:=by
 have j:a'.wrap ((B.length:Int)-(q:Int))=((B.length-q:Nat):Int):=by rw[ab ω ω];omega
 have k:b'.wrap ((B.length-q:Nat):Int)=((B.length-q:Nat):Int):=ao ω ω;have d:(⟨B.toArray⟩:ByteArray).extract q (q+n.toNat)=⟨((B.drop q).take n.toNat).toArray⟩:=by rw[oR,c',ms]
 have l:((B.drop q).take n.toNat).length<=L:=by rw[hV,kK];omega
 generalize(B.drop q).take n.toNat=s at *;have w1:a'.wrap (n.toNat:Int)=(n.toNat:Int):=ab ω ω;have o:a'.wrap ((q:Int)+(n.toNat:Int))=((q+n.toNat:Nat):Int):=by rw[ab ω ω];omega
 have r:xtA T++[.p (.v (.int .i64 3)),.p (.v (.int .u64 0)),.p (.v (.string ⟨s.toArray⟩))]=xtA (T++[⟨3,0,s⟩]):=iN T ⟨3,0,s⟩;apply bn 2 f316 ajE;intro c J t Y Z;simp only[go_sem];refine x_k Z 2 g ?_;simp only[go_sem,J,(ω:¬((m:Int)>=512)),(ω:¬(a>8)),(ω:¬((n.toNat:Int)>1024)),j,k,(ω:¬(((B.length-q:Nat):Int)<(n.toNat:Int))),w1,o,d];refine⟨π,⟨ω,ω,ω⟩,π,⟨ω,ω,ω⟩,π,?_⟩;refine bK Y [0,1] (fun i hi=>by have:=t i hi;simpa[liveK] using this) ajE 0 (fun i=>⟨191,[(13,.b false)],[(0,some ⟨rrT,[sv B,.i ((q+n.toNat):Nat),.sl 2 0 (m+1) 3]⟩),(2,some ⟨dp,xtA (T++[⟨3,0,s⟩])⟩)],3⟩) [] (sg 5 [0,1,4]) ⟨rfl,?_,?_,rfl,rfl,trivial,fun i h=>aw [0,1,4] 5 i h⟩ (fun i hi=>by simp at hi;rcases hi with rfl|rfl<;>rfl) ?_
 .exact κ
 .simp only[go_sem,r]
 exact afu
theorem UP(B:List UInt8)(L q p m:Nat)(w:B.length=L)(e:L<1000000)(x:q<=L)(T:List IT)(y:T.length=m)(a:Int)(f:List UInt8)(n:UInt64)(g:eZ B p m T ⟨⟨4,n,[]⟩,q,0⟩)(z:m<512)(A:a<=8)(C:n.toNat<=1024)(D:n.toNat<=B.length-q)(j:okU ((B.drop q).take n.toNat)=true):ItK B p m T a false f (q+n.toNat) ⟨4,0,(B.drop q).take n.toNat⟩:=by
 have k:a'.wrap ((B.length:Int)-(q:Int))=((B.length-q:Nat):Int):=by rw[ab ω ω];omega
 have l:b'.wrap ((B.length-q:Nat):Int)=((B.length-q:Nat):Int):=ao ω ω;have d:(⟨B.toArray⟩:ByteArray).extract q (q+n.toNat)=⟨((B.drop q).take n.toNat).toArray⟩:=by rw[oR,c',ms]
 have o:((B.drop q).take n.toNat).length<=L:=by rw[hV,kK];omega
 generalize(B.drop q).take n.toNat=s at *;have w1:a'.wrap (n.toNat:Int)=(n.toNat:Int):=ab ω ω;have r:a'.wrap ((q:Int)+(n.toNat:Int))=((q+n.toNat:Nat):Int):=by rw[ab ω ω];omega
 have t:xtA T++[.p (.v (.int .i64 4)),.p (.v (.int .u64 0)),.p (.v (.string ⟨s.toArray⟩))]=xtA (T++[⟨4,0,s⟩]):=iN T ⟨4,0,s⟩;have hv:=bW s ω;rw[j] at hv;refine bn 2 f316 ajE ?_;intro c J u Y Z;simp only[go_sem];refine x_k Z 2 g ?_;simp only[go_sem,J,(ω:¬((m:Int)>=512)),(ω:¬(a>8)),(ω:¬((n.toNat:Int)>1024)),k,l,(ω:¬(((B.length-q:Nat):Int)<(n.toNat:Int))),w1,r,d];refine⟨π,⟨ω,ω,ω⟩,π,?_⟩;refine aa Z hv ?_;refine θ ?_;refine⟨⟨ω,ω,ω⟩,π,?_⟩;refine bK Y [0,1] (fun i hi=>by have:=u i hi;simpa[liveK] using this) ajE 0 (fun i=>⟨191,[(13,.b false)],[(0,some ⟨rrT,[sv B,.i ((q+n.toNat):Nat),.sl 2 0 (m+1) 3]⟩),(2,some ⟨dp,xtA (T++[⟨4,0,s⟩])⟩)],3⟩) [] (sg 5 [0,1,4]) ⟨rfl,?_,?_,rfl,rfl,trivial,fun i h=>aw [0,1,4] 5 i h⟩ (fun i hi=>by simp at hi;rcases hi with rfl|rfl<;>rfl) ?_
 .exact κ
 .simp only[go_sem,t]
 exact afu
theorem UQ(B:List UInt8)(L q p m:Nat)(C:B.length=L)(w:L<1000000)(D:q<=L)(T:List IT)(E:T.length=m)(d:Int)(e:List UInt8)(n:UInt64)(r:eZ B p m T ⟨⟨4,n,[]⟩,q,0⟩)(F:m<512)(G:d<=8)(H:n.toNat<=1024)(I:n.toNat<=B.length-q)(x:okU ((B.drop q).take n.toNat)=true)(y:¬(¬e=[]/\iL e (bT ⟨4,0,(B.drop q).take n.toNat⟩)=false)):ItK B p m T d true e (q+n.toNat) ⟨4,0,(B.drop q).take n.toNat⟩:=by
 have j:a'.wrap ((B.length:Int)-(q:Int))=((B.length-q:Nat):Int):=by rw[ab ω ω];omega
 have k:b'.wrap ((B.length-q:Nat):Int)=((B.length-q:Nat):Int):=ao ω ω;have a:(⟨B.toArray⟩:ByteArray).extract q (q+n.toNat)=⟨((B.drop q).take n.toNat).toArray⟩:=by rw[oR,c',ms]
 have z:((B.drop q).take n.toNat).length<=L:=by rw[hV,kK];omega
 generalize(B.drop q).take n.toNat=s at *;have w1:a'.wrap (n.toNat:Int)=(n.toNat:Int):=ab ω ω;have l:a'.wrap ((q:Int)+(n.toNat:Int))=((q+n.toNat:Nat):Int):=by rw[ab ω ω];omega
 have t:xtA T++[.p (.v (.int .i64 4)),.p (.v (.int .u64 0)),.p (.v (.string ⟨s.toArray⟩))]=xtA (T++[⟨4,0,s⟩]):=iN T ⟨4,0,s⟩;have hv:=bW s ω;rw[x] at hv;have f:=eQ 4;rw[show gN 4=true from rfl] at f;have A:=dV ⟨4,0,s⟩ (by show s.length<1000000;omega);have u:=gc e (bT ⟨4,0,s⟩);generalize bT ⟨4,0,s⟩=by' at *;by_cases g:e=[]
 .subst g;refine bn 2 f316 ajE ?_;intro c J o Y Z;simp only[go_sem];refine x_k Z 2 r ?_;simp only[go_sem,J,(ω:¬((m:Int)>=512))];refine aa Z f ?_;simp only[go_sem,J,(ω:¬(d>8)),(ω:¬((n.toNat:Int)>1024)),j,k,(ω:¬(((B.length-q:Nat):Int)<(n.toNat:Int))),w1,l,a];refine⟨π,⟨ω,ω,ω⟩,π,?_⟩;refine aa Z hv ?_;refine θ ?_;refine⟨⟨ω,ω,ω⟩,π,?_⟩;refine bK Y [0,1] (fun i hi=>by have:=o i hi;simpa[liveK] using this) ajE 0 (fun i=>⟨191,[(13,.b false)],[(0,some ⟨rrT,[sv B,.i ((q+n.toNat):Nat),.sl 2 0 (m+1) 3]⟩),(2,some ⟨dp,xtA (T++[⟨4,0,s⟩])⟩)],3⟩) [] (sg 5 [0,1,4]) ⟨rfl,?_,?_,rfl,rfl,trivial,fun i h=>aw [0,1,4] 5 i h⟩ (fun i hi=>by simp at hi;rcases hi with rfl|rfl<;>rfl) ?_
  .exact κ
  .simp only[go_sem,t]
  exact afu
 .rw[show iL e by'=true from by cases h:iL e by' with|true=>rfl|false=>exact s5 ⟨g,h⟩ y] at u;refine bn 2 f316 ajE ?_;intro c J o Y Z;simp only[go_sem];refine x_k Z 2 r ?_;simp only[go_sem,J,(ω:¬((m:Int)>=512))];refine aa Z f ?_;simp only[go_sem,J,(ω:¬(d>8)),(ω:¬((n.toNat:Int)>1024)),j,k,(ω:¬(((B.length-q:Nat):Int)<(n.toNat:Int))),w1,l,a];refine⟨π,⟨ω,ω,ω⟩,π,?_⟩;refine aa Z hv ?_;simp only[go_sem,J,dz,g];refine aa Z A ?_;simp only[go_sem];refine aa Z u ?_;refine θ ?_;refine⟨⟨ω,ω,ω⟩,π,?_⟩;refine bK Y [0,1] (fun i hi=>by have:=o i hi;simpa[liveK] using this) ajE 0 (fun i=>⟨191,[(13,.b false)],[(0,some ⟨rrT,[sv B,.i ((q+n.toNat):Nat),.sl 2 0 (m+1) 3]⟩),(2,some ⟨dp,xtA (T++[⟨4,0,s⟩])⟩)],3⟩) [] (sg 5 [0,1,4]) ⟨rfl,?_,?_,rfl,rfl,trivial,fun i h=>aw [0,1,4] 5 i h⟩ (fun i hi=>by simp at hi;rcases hi with rfl|rfl<;>rfl) ?_
  .exact κ
  .simp only[go_sem,t]
  exact afu
def itU(B:List UInt8)(r:oZ):List (Nat×Option Blk):=if r.e=0 then rrY B r.p r.T.length r.T else rrD
theorem o0(B:List UInt8)(r:oZ)(h:r.e=0):itU B r=rrY B r.p r.T.length r.T:=b9 h
theorem lN(B:List UInt8)(r:oZ)(h:¬r.e=0):itU B r=rrD:=b0 h
@[simp] theorem afb(B:List UInt8)(r:oZ):(∃x,(0,x)∈itU B r)↔True:=⟨fun _=>trivial,fun _=>by unfold itU;split<;>simp⟩
@[simp] theorem afc(B:List UInt8)(r:oZ):(∃x,(1,x)∈itU B r)↔True:=⟨fun _=>trivial,fun _=>by unfold itU;split<;>simp⟩
theorem GI(B:List UInt8)(L p m:Nat)(i:B.length=L)(b:L<1000000)(T:List IT)(a:Int)(c:Bool)(d:List UInt8)(h:HdR)(f:eZ B p m T h)(l:h.e=0->Uz B h)
 (g:¬(eL B h h.at' m c d a).e=0):ItE B p m T a c d (eL B h h.at' m c d a).e:=by
 by_cases j:h.e=0
 case neg =>
  rw[show(eL B h h.at' m c d a).e=h.e from by unfold eL;rw[b9 j]];exact itH B p m T a c d h f j
 obtain⟨v,-,hs⟩:=l j;have⟨⟨k,n,s⟩,q,e⟩:=h;dsimp only at j v hs;subst j;subst hs;dsimp only at g⊢;by_cases o:k=3
 .subst o;cases c
  .exact UI B L q p m i b ω T a d n f _ rfl g
  .exact UJ B L q p m i b ω T a d n f _ rfl g
 by_cases r:k=4
 .subst r;cases c
  .exact UK B L q p m i b ω T a d n f _ rfl g
  .exact UL B L q p m i b ω T a d n f _ rfl g
 by_cases t:k=5
 .subst t;cases c
  .exact UE B L q p m i b ω T a d n f _ rfl g
  .exact UF B L q p m i b ω T a d n f _ rfl g
 by_cases u:k=6
 .subst u;cases c
  .exact UG B L q p m i b ω T a d n f _ rfl g
  .exact UH B L q p m i b ω T a d n f _ rfl g
 cases c
 .exact UC B L q p m i b ω T a d k ⟨o,r,t,u⟩ n f _ rfl g
 .exact UD B L q p m i b ω T a d k ⟨o,r,t,u⟩ n f _ rfl g
theorem PT(B:List UInt8)(L p m:Nat)(i:B.length=L)(d:L<1000000)(T:List IT)(j:T.length=m)(a:Int)(b:Bool)(f:List UInt8)(h:HdR)(l:eZ B p m T h)(v:h.e=0->Uz B h)
 (K:(eL B h h.at' m b f a).e=0) (w:¬qh h.x.k):ItK B p m T a b f (eL B h h.at' m b f a).q (eL B h h.at' m b f a).x:=by
 have⟨y,g,a3,a4,a5,z,A,o,a9⟩:=qj K;rw[a9];obtain⟨M,-,hs⟩:=v y;have⟨⟨k,n,s⟩,q,e⟩:=h;dsimp only at y M hs w g a3 a4 a5 z A o⊢;subst y;subst hs;by_cases C:k=3
 .subst C;have t:n.toNat<=1024:=d' fun c=>a5 (.inl ⟨.inl rfl,c⟩)
  have u:n.toNat<=B.length-q:=d' fun c=>z ⟨.inl rfl,c⟩
  cases b
  .exact UO B L q p m i d ω T j a f n l g a4 t u
  .exact(a3 ⟨rfl,rfl⟩).elim
 by_cases D:k=4
 .subst D;have t:n.toNat<=1024:=d' fun c=>a5 (.inl ⟨.inr rfl,c⟩)
  have u:n.toNat<=B.length-q:=d' fun c=>z ⟨.inr rfl,c⟩
  have E:xD B ⟨⟨4,n,[]⟩,q,0⟩ q=⟨4,0,(B.drop q).take n.toNat⟩:=rfl;rw[E] at A o⊢;have H:okU ((B.drop q).take n.toNat)=true:=by
   cases F:okU ((B.drop q).take n.toNat) with
   |true=>rfl
   |false=>exact(A ⟨rfl,F⟩).elim
  cases b
  .exact UP B L q p m i d ω T j a f n l g a4 t u H
  .exact UQ B L q p m i d ω T j a f n l g a4 t u H (fun c=>o ⟨rfl,c.1,c.2⟩)
 have I:¬k=3/\¬k=4/\¬k=5/\¬k=6:=⟨C,D,fun c=>w (.inl c),fun c=>w (.inr c)⟩;have r:¬jF k:=fun c=>c.elim C D
 have E:xD B ⟨⟨k,n,[]⟩,q,0⟩ q=⟨k,n,[]⟩:=by unfold xD;rw[b0 r]
 rw[E] at o⊢;rw[b0 r];cases b
 .exact UM B L q p m i d ω T j a f k I n l g a4
 .have G:gN k=true:=by
   cases F:gN k with
   |true=>rfl
   |false=>exact(a3 ⟨rfl,F⟩).elim
  exact UN B L q p m i d ω T j a f k I n l g a4 G (fun c=>o ⟨rfl,c.1,c.2⟩)
theorem itN(B:List UInt8)(L q p m:Nat)(hL:B.length=L)(hLb:L<1000000)(hq:q<=L)(T:List IT)(hT:T.length=m)(U:∀y∈T,y.s.length<1000000)(a:Int)(hd0:0<=a)(I:List UInt8)(H:Bool)(n:UInt64)(hm:m<512)(hd:a<=8)(hn:n.toNat<=512)
 (Q:eZ B p m T ⟨⟨if H then 6 else 5,n,[]⟩,q,0⟩) (w:Nat->List IT->Bool->List UInt8->oZ) (C:WOk L w)
 (IH:∀p m T key I,p<=L->T.length=m->m<=512->(∀y∈T,y.s.length<1000000)->Con prog 316 [.ptr 0 0,.i (a+1),.b key,sv I] (rrX B p m T) (.i (w p T key I).e) (itU B (w p T key I)))
 (R:oZ) (S:kQ w H n.toNat q (T++[(⟨if H then 6 else 5,n,[]⟩:IT)]) []=R) :
 Con prog 316 [.ptr 0 0,.i a,.b false,sv I] (rrX B p m T) (.i R.e) (itU B R):=by
 have g:a'.wrap (a+1)=a+1:=ab ω ω;have u:(T++[(⟨if H then 6 else 5,n,[]⟩:IT)]).length=m+1:=by simp[hT]
 have j:∀y∈T++[(⟨if H then 6 else 5,n,[]⟩:IT)],y.s.length<1000000:=by
  intro y K;rcases o1.1 K with K|K
  .exact U y K
  .rw[n4.1 K];exact Nat.succ_pos _
 have A:¬((n.toNat:Int)>512):=ω;cases H
 case false =>
  rw[b0 (show¬false=true by decide)] at Q S u j;have V:xtA T++[.p (.v (.int .i64 5)),.p (wd n),.p (.v (.string ⟨#[]⟩))]=xtA (T++[⟨5,n,[]⟩]):=iN T ⟨5,n,[]⟩;generalize T++[(⟨5,n,[]⟩:IT)]=T1 at *;generalize hNe:n.toNat=N at *;refine bn 2 f316 ajE ?_;intro c J W Y Z;simp only[go_sem];refine x_k Z 2 Q ?_;simp only[go_sem,J,(ω:¬((m:Int)>=512)),(ω:¬(a>8)),hNe,A];refine⟨π,⟨ω,ω,ω⟩,π,?_⟩;refine DD Y [0,1] (fun i hi=>by have:=W i hi;simpa[liveK] using this) ajE (α:={z:Nat×Nat×List IT×List UInt8 // z.1<=N/\z.2.1<=L/\m<z.2.2.1.length/\z.2.2.1.length<=512/\(∀y∈z.2.2.1,y.s.length<1000000)/\kQ w false z.1 z.2.1 z.2.2.1 z.2.2.2=R})
   (fun z=>⟨191,[(0,.ptr 0 0),(1,.i a),(9,.ptr 3 0),(11,.w n),(13,.b true),(14,sv z.1.2.2.2),(15,.p (.v (.int .u64 ((N-z.1.1:Nat):Int))))],[(0,some ⟨rrT,[sv B,.i z.1.2.1,.sl 2 0 z.1.2.2.1.length 3]⟩),(2,some ⟨dp,xtA z.1.2.2.1⟩),(3,some ⟨dp,itG ⟨5,n,[]⟩⟩)],4⟩)
   (fun z=>z.1.1) ⟨(N,q,T1,[]),c7 _,hq,by show m<T1.length;omega,by show T1.length<=512;omega,j,S⟩ [] (sg 5 [0,1,4,2]) ⟨rfl,?_,?_,rfl,rfl,trivial,fun i h=>aw [0,1,4,2] 5 i h⟩ (fun i hi=>by simp at hi;rcases hi with rfl|rfl<;>rfl) ?_
  .simp only[go_sem];simp
   done
  .simp only[go_sem,V,u]
   done
  rintro⟨⟨c,nx,T',D⟩,h1,h2,X,E,F,h6⟩;dsimp only at h1 h2 X E F h6⊢;cases c with
  |zero =>
   rw[show kQ w false 0 nx T' D=⟨0,nx,T'⟩ from rfl] at h6;exact agt
  |succ c =>
   have l:((N-(c+1):Nat):Int)<(N:Int):=ω;have G:b'.wrap (((N-(c+1):Nat):Int)+1)=((N-c:Nat):Int):=by rw[ao ω ω];omega
   simp only[kQ] at h6;rw[b0 (show¬false=true by decide)] at h6;have k:=IH nx T'.length T' false [] h2 rfl E F;have ho:=C nx T' false [] h2 E F;generalize w nx T' false []=r at *;by_cases d:r.e=0
   .rw[b0 (fun c=>c d)] at h6;rw[o0 _ _ d] at k;have ho:=ho d;generalize hl':T'.length=l' at *;generalize t:r.T.length=rl at *;simp only[go_sem,J,hNe,l,g];refine co Y (ks:=ajE) (n:=2000) [] (sg 4 [0,2]) _ (by rw[J];exact k) ⟨κ,κ,rfl,trivial,oy _ 3,fun i hi=>by simp[keys] at hi;rcases hi with rfl|rfl|rfl<;>simp[liveK,sg],by simp[ax],by simp[bV,ak,ax,keys],rfl⟩ ?_;simp only[go_sem,d,G];refine⟨⟨(c,r.p,r.T,D),by dsimp only;omega,ho.p,by have:=ho.lo;dsimp only;omega,ho.hi,ho.s,h6⟩,by dsimp only;omega,kY [0,1] [0,1,6,3] rfl ?_ ?_ rfl rfl (cV rfl) (fun i hi=>by simp at hi;rcases hi with rfl|rfl<;>rfl)⟩
    .exact κ
    .simp only[go_sem,t]
     done
   .rw[b9 d] at h6;rw[lN _ _ d] at k;subst h6;rw[show itU B ⟨r.e,0,[]⟩=rrD from lN _ _ d] at Y Z⊢;generalize T'.length=l' at *;simp only[go_sem,J,hNe,l,g];refine co Y (ks:=ajE) (n:=2000) [] (sg 4 [0,2]) _ (by rw[J];exact k) ⟨κ,κ,rfl,trivial,oy _ 3,fun i hi=>by simp[keys] at hi;rcases hi with rfl|rfl<;>simp[liveK,sg],by simp[ax],by simp[bV],rfl⟩ ?_;simp only[go_sem,d];exact Ξ
 case true =>
  rw[b9 (show true=true from rfl)] at Q S u j;have V:xtA T++[.p (.v (.int .i64 6)),.p (wd n),.p (.v (.string ⟨#[]⟩))]=xtA (T++[⟨6,n,[]⟩]):=iN T ⟨6,n,[]⟩;generalize T++[(⟨6,n,[]⟩:IT)]=T1 at *;generalize hNe:n.toNat=N at *;refine bn 2 f316 ajE ?_;intro c J W Y Z;simp only[go_sem];refine x_k Z 2 Q ?_;simp only[go_sem,J,(ω:¬((m:Int)>=512)),(ω:¬(a>8)),hNe,A];refine⟨π,⟨ω,ω,ω⟩,π,?_⟩;refine DD Y [0,1] (fun i hi=>by have:=W i hi;simpa[liveK] using this) ajE (α:={z:Nat×Nat×List IT×List UInt8 // z.1<=N/\z.2.1<=L/\m<z.2.2.1.length/\z.2.2.1.length<=512/\(∀y∈z.2.2.1,y.s.length<1000000)/\kQ w true z.1 z.2.1 z.2.2.1 z.2.2.2=R})
   (fun z=>⟨191,[(0,.ptr 0 0),(1,.i a),(9,.ptr 3 0),(11,.w n),(13,.b true),(14,sv z.1.2.2.2),(15,.p (.v (.int .u64 ((N-z.1.1:Nat):Int))))],[(0,some ⟨rrT,[sv B,.i z.1.2.1,.sl 2 0 z.1.2.2.1.length 3]⟩),(2,some ⟨dp,xtA z.1.2.2.1⟩),(3,some ⟨dp,itG ⟨6,n,[]⟩⟩)],4⟩)
   (fun z=>z.1.1) ⟨(N,q,T1,[]),c7 _,hq,by show m<T1.length;omega,by show T1.length<=512;omega,j,S⟩ [] (sg 5 [0,1,4,2]) ⟨rfl,?_,?_,rfl,rfl,trivial,fun i h=>aw [0,1,4,2] 5 i h⟩ (fun i hi=>by simp at hi;rcases hi with rfl|rfl<;>rfl) ?_
  .simp only[go_sem];simp
   done
  .simp only[go_sem,V,u]
   done
  rintro⟨⟨c,nx,T',D⟩,h1,h2,X,E,F,h6⟩;dsimp only at h1 h2 X E F h6⊢;cases c with
  |zero =>
   rw[show kQ w true 0 nx T' D=⟨0,nx,T'⟩ from rfl] at h6;exact agt
  |succ c =>
   have l:((N-(c+1):Nat):Int)<(N:Int):=ω;have G:b'.wrap (((N-(c+1):Nat):Int)+1)=((N-c:Nat):Int):=by rw[ao ω ω];omega
   simp only[kQ] at h6;rw[b9 trivial] at h6;have k:=IH nx T'.length T' true D h2 rfl E F;have ho:=C nx T' true D h2 E F;generalize w nx T' true D=r at *;by_cases d:r.e=0
   case neg =>
    rw[b9 d] at h6;rw[lN _ _ d] at k;subst h6;rw[show itU B ⟨r.e,0,[]⟩=rrD from lN _ _ d] at Y Z⊢;generalize T'.length=l' at *;simp only[go_sem,J,hNe,l,g];refine co Y (ks:=ajE) (n:=2000) [] (sg 4 [0,2]) _ (by rw[J];exact k) ⟨κ,κ,rfl,trivial,oy _ 3,fun i hi=>by simp[keys] at hi;rcases hi with rfl|rfl<;>simp[liveK,sg],by simp[ax],by simp[bV],rfl⟩ ?_;simp only[go_sem,d];exact Ξ
   rw[b0 (fun c=>c d)] at h6;rw[o0 _ _ d] at k;have ho:=ho d;have hlo:=ho.lo;have hhi:=ho.hi;have x:=IH r.p r.T.length r.T false [] ho.p rfl ho.hi ho.s;have o:=C r.p r.T false [] ho.p ho.hi ho.s;have M:=UB r.T T'.length ho.lo;have O:=dV (r.T.getD T'.length xt0) (ho.s _ (by rw[show r.T.getD T'.length xt0=r.T[T'.length]'ho.lo from by simp[cR,ho.lo]];exact ix _));generalize w r.p r.T false []=r2 at *;generalize bT (r.T.getD T'.length xt0)=by' at *;generalize r.T.getD T'.length xt0=y at *;by_cases f:r2.e=0
   case neg =>
    rw[b9 f] at h6;rw[lN _ _ f] at x;subst h6;rw[show itU B ⟨r2.e,0,[]⟩=rrD from lN _ _ f] at Y Z⊢;generalize T'.length=l' at *;generalize t:r.T.length=rl at *;simp only[go_sem,J,hNe,l,g];refine co Y (ks:=ajE) (n:=2000) [] (sg 4 [0,2]) _ (by rw[J];exact k) ⟨κ,κ,rfl,trivial,oy _ 3,fun i hi=>by simp[keys] at hi;rcases hi with rfl|rfl|rfl<;>simp[liveK,sg],by simp[ax],by simp[bV,ak,ax,keys],rfl⟩ ?_;simp only[go_sem,J,d,M,t];refine⟨⟨ω,ω⟩,ω,?_⟩;refine aa Z O ?_;simp only[go_sem,g];have k:=x;refine co Y (ks:=ajE) (n:=2000) [] (sg 7 [0,6]) _ (by rw[J];exact k) ⟨κ,κ,rfl,trivial,oy _ 3,fun i hi=>by simp[keys] at hi;rcases hi with rfl|rfl<;>simp[liveK,sg],by simp[ax],by simp[bV],rfl⟩ ?_;simp only[go_sem,f];exact Ξ
   rw[b0 (fun c=>c f)] at h6;rw[o0 _ _ f] at x;have o:=o f;have hlo2:=o.lo;generalize T'.length=l' at *;generalize t:r.T.length=rl at *;generalize P:r2.T.length=rl2 at *;simp only[go_sem,J,hNe,l,g];refine co Y (ks:=ajE) (n:=2000) [] (sg 4 [0,2]) _ (by rw[J];exact k) ⟨κ,κ,rfl,trivial,oy _ 3,fun i hi=>by simp[keys] at hi;rcases hi with rfl|rfl|rfl<;>simp[liveK,sg],by simp[ax],by simp[bV,ak,ax,keys],rfl⟩ ?_;simp only[go_sem,J,d,M,t];refine⟨⟨ω,ω⟩,ω,?_⟩;refine aa Z O ?_;simp only[go_sem,g];have k:=x;refine co Y (ks:=ajE) (n:=2000) [] (sg 7 [0,6]) _ (by rw[J];exact k) ⟨κ,κ,rfl,trivial,oy _ 3,fun i hi=>by simp[keys] at hi;rcases hi with rfl|rfl|rfl<;>simp[liveK,sg],by simp[ax],by simp[bV,ak,ax,keys],rfl⟩ ?_;simp only[go_sem,f,G];refine⟨⟨(c,r2.p,r2.T,by'),by dsimp only;omega,o.p,by dsimp only;omega,by have:=o.hi;dsimp only;omega,o.s,h6⟩,by dsimp only;omega,kY [0,1] [0,1,9,3] rfl ?_ ?_ rfl rfl (cV rfl) (fun i hi=>by simp at hi;rcases hi with rfl|rfl<;>rfl)⟩
   .exact κ
   .simp only[go_sem,P]
    done
theorem MB(B:List UInt8)(L:Nat)(o:B.length=L)(d:L<1000000):∀f:Nat,f<=9->∀(p m:Nat) (T:List IT) (a:Bool) (g:List UInt8),p<=L->T.length=m->m<=512->(∀y∈T,y.s.length<1000000) ->
 Con prog 316 [.ptr 0 0,.i (9-(f:Int)),.b a,sv g] (rrX B p m T) (.i (jG B f p T a g).e) (itU B (jG B f p T a g)):=by
 intro f
 induction f with
 |zero =>
  intro _ p m T a g E u M hs;have v:=CQ B L p o d m T E;have j:=vH B p ω;have l:¬(eL B (ck B p) (ck B p).at' m a g 9).e=0:=fun c=>s5 (qj c).2.2.2.1 ε
  have:=GI B L p m o d T 9 a g _ v j l;simp only[jG];rw[u,lN _ _ (show¬(⟨_,0,[]⟩:oZ).e=0 from l)];exact this
 |succ f D =>
  intro P p m T a g E u M hs;have D:=D ω;have F:(9:Int)-((f+1:Nat):Int)=8-(f:Int):=ω;rw[F];have v:=CQ B L p o d m T E;have j:=vH B p ω;simp only[jG];rw[u];by_cases l:(eL B (ck B p) (ck B p).at' m a g (8-(f:Int))).e=0
  case neg =>
   rw[b9 l,lN _ _ (show¬(⟨_,0,[]⟩:oZ).e=0 from l)];exact GI B L p m o d T _ a g _ v j l
  rw[b0 (fun c=>c l)];by_cases r:qh (ck B p).x.k
  case neg =>
   rw[b0 r,o0 _ _ rfl];have:=PT B L p m o d T u _ a g _ v j l r;rw[show(T++[(eL B (ck B p) (ck B p).at' m a g (8-(f:Int))).x]).length=m+1 from by simp[u]];exact this
  rw[b9 r];have⟨G,H,a3,a4,a5,Q,R,S,a9⟩:=qj l;obtain⟨N,-,z⟩:=j G;rw[a9];have A:¬jF (ck B p).x.k:=fun c=>by unfold jF at c;unfold qh at r;omega
  have O:xD B (ck B p) (ck B p).at'=(ck B p).x:=by unfold xD;rw[b0 A]
  dsimp only;rw[O,b0 A];have I:=vJ B L o d f;have t:(8:Int)-(f:Int)+1=9-(f:Int):=ω;generalize jG B f=w at *;generalize ck B p=h at *;have⟨⟨k,n,s⟩,q,e⟩:=h;dsimp only at G a3 a5 r N z⊢;subst G;subst z;have K:n.toNat<=512:=d' fun c=>a5 (.inr ⟨r,c⟩)
  have C:a=false:=by
   cases a with
   |false=>rfl
   |true=>exact(a3 ⟨rfl,by rcases r with rfl|rfl<;>rfl⟩).elim
  subst C;rcases r with rfl|rfl
  .exact itN B L q p m o d ω T u hs (8-(f:Int)) ω g false n H a4 K v w I (by rw[t];exact D) _ rfl
  .exact itN B L q p m o d ω T u hs (8-(f:Int)) ω g true n H a4 K v w I (by rw[t];exact D) _ rfl
theorem yi{c:Ctx}{f:FuncId}{vs:List AV}{o:Oper}{e:Array Oper}{os:List Oper}{k:List It}{n:Nat}{g:List (Nat×AV)}{hp:List (Nat×Option Blk)}{nx:Nat}(t:TypeId)
 (h:kv c f vs o e os k ⟨n,g,(nx,some ⟨t,[]⟩)::hp,nx+1⟩):kv c f vs o e os k ⟨n,g,hp,nx⟩:=by
 intro l ρ F a w hc;have m:∀x:Operand,ev ⟨n,g,(nx,some ⟨t,[]⟩)::hp,nx+1⟩ x=ev ⟨n,g,hp,nx⟩ x:=fun x=>by cases x<;>rfl
 apply h (fun ρ F a w p=>l ρ F a w fun x r=>by rw[<-m x];exact p x r) ρ F a w;have hn:ρ nx=none:=hc.fresh nx (c7 _);have hg:∀i,hget ((nx,some ⟨t,[]⟩)::hp) i=if nx=i then some ⟨t,[]⟩ else hget hp i:=by
  exact ag3
 have d:∀i,hget ((nx,some ⟨t,[]⟩)::hp) i≠none->ρ i≠none->hget hp i≠none:=by
  exact ail
 refine⟨hc.defers,hc.size,hc.slots,⟨fun i k hk=>?_,fun i j b hi s h1 h2=>hc.heap.inj i j b (d i hi (by rw[h1];simp)) (d j s (by rw[h2];simp)) h1 h2⟩,fun i hi=>hc.fresh i (by simp at hi;show nx<=i;omega),hc.fok,hc.chg,fun i hi=>?_,fun i b hi q=>hc.own i b (d i hi (by rw[q];simp)) q,hc.keep,hc.glob⟩
 .simp only[hg] at hk;exact ahz
 .simp only[hg] at hi;exact ah1
theorem EW(B:List UInt8)(L:Nat)(h:B.length=L)(f:L<1000000):FPure prog 232 [.p (.data 1 L (B.map bt))]
 (if(jG B 9 0 [] false []).e=0 then .tup [.p (.data 3 (jG B 9 0 [] false []).T.length (gz (jG B 9 0 [] false []).T)),.i (jG B 9 0 [] false []).p,.i 0] else .tup [.p (.data 3 0 []),.i 0,.i (jG B 9 0 [] false []).e]):=by
 have b:=MB B L h f 9 ε 0 0 [] false [] (gi _) rfl ε (fun y j=>by cases j);rw[show(9:Int)-((9:Nat):Int)=0 from rfl,show rrX B ((0:Nat):Int) 0 []=[(0,some ⟨rrT,[sv B,.i ((0:Nat):Int),.sl 1 0 0 3]⟩),(1,some ⟨dp,[]⟩)] from rfl] at b;generalize jG B 9 0 [] false []=r at *;by_cases a:r.e=0
 .rw[b9 a];rw[o0 _ _ a,a] at b;generalize g:r.T.length=rl at *;apply ba f232 [0,2,3,4,5,6,14];intro c J k Y Z;simp only[go_sem,J,bS,Abs.strOf];refine⟨bL _,?_⟩;apply yi dp;apply co Y (ks:=[0,2,3,4,5,6,14]) (n:=2000) [] (sg 2 [0,1]) _ (by rw[J];exact b) ⟨κ,κ,rfl,trivial,oy _ 3,fun i d=>by simp[keys] at d;rcases d with rfl|rfl|rfl<;>simp[liveK,sg],by simp[ax],by simp[bV,ak,ax,keys],rfl⟩;refine θ ?_;rw[cD (by rw[qk,g];exact c7 _)];simp only[go_sem];exact⟨π,ω⟩
 .rw[b0 a];rw[lN _ _ a] at b;apply ba f232 [0,2,3,4,5,6,14];intro c J k Y Z;simp only[go_sem,J,bS,Abs.strOf];refine⟨bL _,?_⟩;apply yi dp;apply co Y (ks:=[0,2,3,4,5,6,14]) (n:=2000) [] (sg 2 [0,1]) _ (by rw[J];exact b) ⟨κ,κ,rfl,trivial,oy _ 3,fun i d=>by simp[keys] at d;rcases d with rfl|rfl<;>simp[liveK,sg],by simp[ax],by simp[bV],rfl⟩;simp only[go_sem,a]
theorem cM(n lo hi:Int):FPure prog 158 [.i n,.i lo,.i hi] (.b (decide (lo<=n/\n<=hi))):=by
 apply ba f158 [0,1,2,6];intro c J a Y Z;exact agT
structure yj(x:Cr):Prop where
 rp:x.rp.length<1000000
 us:x.us.length<1000000
 nm:x.nm.length<1000000
theorem vK(x:Cr)(t:yj x)(u:¬CrOk x):∃e,¬e=0/\FPure prog 85 [.agg (crC x)] (.i e):=by
 have⟨rp,us,nm,w,hg,rs,pt,sh,bk⟩:=x;have⟨p,v,q⟩:=t;dsimp only at p v q;have w1:=cM rp.length 1 64;have a:=cM us.length 1 16;have b:=cM hg 1 4;have f:=cM pt 1 3;have h:=bW rp p;have j:=bW nm q;by_cases r:(1:Int)<=rp.length/\(rp.length:Int)<=64
 case neg =>
  rw[p4 r] at w1;refine akD ?_;intro c J d Y Z;simp only[go_sem,J];apply aa Z w1;simp only[go_sem]
 rw[qi r] at w1;by_cases s:(1:Int)<=us.length/\(us.length:Int)<=16
 case neg =>
  rw[p4 s] at a;refine akD ?_;intro c J d Y Z;simp only[go_sem,J];apply aa Z w1;simp only[go_sem,J];apply aa Z a;simp only[go_sem]
 rw[qi s] at a;by_cases g:(nm.length:Int)>32
 .refine akD ?_;intro c J d Y Z;simp only[go_sem,J];apply aa Z w1;simp only[go_sem,J];apply aa Z a;simp only[go_sem,J,g]
 by_cases k:1<=hg/\hg<=4
 case neg =>
  rw[p4 k] at b;refine akD ?_;intro c J d Y Z;simp only[go_sem,J];apply aa Z w1;simp only[go_sem,J];apply aa Z a;simp only[go_sem,J,g];apply aa Z b;simp only[go_sem]
 rw[qi k] at b;by_cases l:1<=pt/\pt<=3
 case neg =>
  rw[p4 l] at f;refine akD ?_;intro c J d Y Z;refine aj7 ?_;apply aa Z f;simp only[go_sem]
 rw[qi l] at f;cases m:okU rp
 .rw[m] at h;refine⟨6,ε,?_⟩;apply ba f85 [0,1,2,3,34,45];intro c J d Y Z;refine aj7 ?_;apply aa Z f;simp only[go_sem,J];apply aa Z h;simp only[go_sem]
 rw[m] at h;cases n:okU nm
 .rw[n] at j;refine⟨6,ε,?_⟩;apply ba f85 [0,1,2,3,34,45];intro c J d Y Z;refine aj7 ?_;apply aa Z f;refine ak6 ?_;apply aa Z j;simp only[go_sem]
 rw[n] at j;refine⟨18,ε,?_⟩;have o:¬((sh=true->rs=true)/\(bk=true->sh=true)):=fun c=>u ⟨by dsimp only;omega,by dsimp only;omega,by dsimp only;omega,by dsimp only;omega,by dsimp only;omega,k,l,m,n,c.1,c.2⟩
 apply ba f85 [0,1,2,3,34,45];intro c J d Y Z;refine aj7 ?_;apply aa Z f;refine ak6 ?_;apply aa Z j;cases sh<;>cases rs<;>cases bk<;>first|(exact s5 ⟨ε,ε⟩ o)|skip
 all_goals simp only[go_sem,J]
theorem sS(x:Cr)(b:yj x)(d:¬CrOk x):∃e,¬e=0/\FPure prog 28 [.agg (crC x)] (.tup [blA [],.i e]):=by
 have⟨e,a,h⟩:=vK x b d;refine⟨e,a,?_⟩;apply ba f28 [0,1,2,3,4,5,6,7,11,48];intro c J f Y Z;simp only[go_sem,J];apply aa Z h;simp only[go_sem,a]
def rO(n:UInt64):Int:=if n.toNat<1048576 then n.toNat else 1048576
theorem CS(n:UInt64):FPure prog 233 [.w n] (.i (rO n)):=by
 unfold rO;by_cases h:n.toNat<1048576
 .rw[b9 h];exact Am n h
 .rw[b0 h];apply ba f233 [0,2];intro c J a Y Z;refine θ ?_;rw[show(if(1048576:Int)<(n.toNat:Int) then(1048576:Int) else(n.toNat:Int))=1048576 from by split<;>omega];decide
theorem fV(l:List IT)(i:Nat)(h:i<l.length):(gz l).drop (i*3) = .v (.int .i64 (l.getD i xt0).k)::wd (l.getD i xt0).n :: .v (.string ⟨(l.getD i xt0).s.toArray⟩)::gz (l.drop (i+1)):=by
 rw[nG l i h];rfl
def is1(n:UInt64):Bool:=decide ((n.toNat:Int)=1)
def EX(T:List IT):Cr:=⟨(T.getD 2 xt0).s,(T.getD 4 xt0).s,(T.getD 6 xt0).s,(T.getD 8 xt0).n,rO (T.getD 10 xt0).n,is1 (T.getD 12 xt0).n,rO (T.getD 14 xt0).n,is1 (T.getD 16 xt0).n,is1 (T.getD 18 xt0).n⟩
theorem GJ(B:List UInt8)(L:Nat)(M:B.length=L)(j:L<1000000):∃x used ok,used<=L/\(ok=true->CrOk x/\fj x=B.take used) /\
 FPure prog 162 [.p (.data 1 L (B.map bt))] (.tup [.agg (crC x),.i (used:Nat),.b ok]):=by
 have g:=EW B L M j;have a:=vJ B L M j 9 0 [] false [] (gi _) ε (fun y P=>by cases P);generalize jG B 9 0 [] false []=r at *;by_cases o:r.e=0
 case neg =>
  rw[b0 o] at g;refine⟨cr0,0,false,gi _,nofun,?_⟩;refine ak8 ?_;intro c J N Y Z;refine alr ?_;simp only[go_sem,J,o];exact afS
 rw[b9 o] at g;have a:=a o;by_cases k:r.T.length=19
 case neg =>
  refine⟨cr0,0,false,gi _,nofun,?_⟩;refine ak8 ?_;intro c J N Y Z;refine alr ?_;simp only[go_sem,J,(ω:¬((r.T.length:Int)=19))];exact afS
 have d:∀i,i<19->(r.T.getD i xt0).s.length<1000000:=fun i V=>a.s _ (by rw[show r.T.getD i xt0=r.T[i]'ω from by simp[cR,show i<r.T.length by omega]];exact ix _)
 have Q:yj (EX r.T):=⟨d 2 ε,d 4 ε,d 6 ε⟩;have R:=a.p;obtain⟨b,e,O,l⟩:∃b e,(e=0->CrOk (EX r.T)/\fj (EX r.T)=b)/\FPure prog 28 [.agg (crC (EX r.T))] (.tup [blA b,.i e]):=by
  by_cases G:CrOk (EX r.T)
  .exact⟨_,0,fun _=>⟨G,rfl⟩,fG _ G⟩
  .have⟨e,h1,h2⟩:=sS _ Q G;exact⟨[],e,fun h=>s5 h h1,h2⟩
 refine⟨EX r.T,r.p,decide (e=0/\b=B.take r.p),R,fun h=>?_,?_⟩
 .have h:=su h;exact⟨(O h.1).1,(O h.1).2.trans h.2⟩
 have H:=CS (r.T.getD 10 xt0).n;have I:=CS (r.T.getD 14 xt0).n;have q:=fV r.T 2 ω;have t:=fV r.T 4 ω;have u:=fV r.T 6 ω;have v:=fV r.T 8 ω;have w:=fV r.T 10 ω;have z:=fV r.T 12 ω;have A:=fV r.T 14 ω;have D:=fV r.T 16 ω;have E:=fV r.T 18 ω;simp only[Nat.reduceMul] at q t u v w z A D E;have f:(gz r.T).length=57:=by rw[Cv,k]
 have S:∀n:UInt64,((n.toNat:Int)==1)=is1 n:=fun n=>rfl
 rw[k] at g;have K:EX r.T=⟨(r.T.getD 2 xt0).s,(r.T.getD 4 xt0).s,(r.T.getD 6 xt0).s,(r.T.getD 8 xt0).n,rO (r.T.getD 10 xt0).n,is1 (r.T.getD 12 xt0).n,rO (r.T.getD 14 xt0).n,is1 (r.T.getD 16 xt0).n,is1 (r.T.getD 18 xt0).n⟩:=rfl;rw[K] at l⊢;generalize r.T.getD 2 xt0=y2 at *;generalize r.T.getD 4 xt0=y4 at *;generalize r.T.getD 6 xt0=y6 at *;generalize r.T.getD 8 xt0=y8 at *;generalize r.T.getD 10 xt0=y10 at *;generalize r.T.getD 12 xt0=y12 at *;generalize r.T.getD 14 xt0=y14 at *;generalize r.T.getD 16 xt0=y16 at *;generalize r.T.getD 18 xt0=y18 at *;generalize gz r.T=C at *;refine ak8 ?_;intro c J N Y Z;refine alr ?_;simp only[go_sem,J,q,t,u,v,w];apply aa Z H;simp only[go_sem,J,z,A];apply aa Z I;simp only[go_sem,J,D,E,S];refine⟨π,?_⟩;apply aa Z l;have U:(B.take r.p).length=r.p:=by rw[hV];omega
 by_cases m:e=0
 .by_cases F:b=B.take r.p
  .rw[qi ⟨m,F⟩] at Y Z⊢;simp only[go_sem,J,m,bS,Abs.strOf,bL,cK,sy F];exact⟨⟨ω,ω⟩,π⟩
  .rw[p4 (fun c=>F c.2)] at Y Z⊢;simp only[go_sem,J,m,bS,Abs.strOf,bL,cK,eq_false F];exact⟨⟨ω,ω⟩,π⟩
 .rw[p4 (fun c=>m c.1)] at Y Z⊢;simp only[go_sem,J,m];show D0 _ _=true;kernel_rfl
theorem MC(B:List UInt8)(L:Nat)(g:B.length=L)(b:L<1000000):∃r:CR,(r.e=0->CrOk r.x/\fj r.x=B)/\FPure prog 92 [.p (.data 1 L (B.map bt))] (crAV r):=by
 have⟨x,a,ok,h1,h2,h3⟩:=GJ B L g b;cases ok
 .refine⟨⟨cr0,2⟩,nofun,?_⟩;apply ba f92 [0,2,3,4,5,6,20];intro c J d Y Z;refine δ h3 ?_;refine θ ?_;exact afS
 by_cases f:a=L
 .refine⟨⟨x,0⟩,fun _=>⟨(h2 rfl).1,by rw[(h2 rfl).2,f,cD ω]⟩,?_⟩;subst f;apply ba f92 [0,2,3,4,5,6,20];intro c J d Y Z;exact ah5
 .refine⟨⟨cr0,2⟩,nofun,?_⟩;apply ba f92 [0,2,3,4,5,6,20];intro c J d Y Z;refine δ h3 ?_;simp only[go_sem,J,(ω:¬((a:Int)=(L:Int)))];exact afS
def okZ(ok:Bool)(t:List UInt8)(u:Nat)(i:Nat):Bool:=ok&&((t.drop u).take i).all fun x=>((x.toNat:Int)==0)
theorem MD(ok:Bool)(t:List UInt8)(u i:Nat)(h:u+i<t.length):okZ ok t u (i+1)=(okZ ok t u i&&(((t.getD (u+i) 0).toNat:Int)==0)):=by
 unfold okZ;rw[List.take_add_one,List.getElem?_drop,n0 h];simp[cR,h,Bool.and_assoc]
def ajG:List Nat:=[0,1,2,6,7,8,9,10,11,12,13,16,30,43,55,64]
attribute[go_sem]ajG
theorem IQ(f:UInt64)(rp id:List UInt8)(n:Nat)(G:id.length=n)(H:n<100000)(z:rp.length<1000):∃x e,(e=0->CrOk x/\x.rs=false/\x.rp=rp) /\
 FPure prog 327 [.w f,sv rp,.p (.data 1 n (id.map bt))] (.tup [.agg (crC x),.i e]):=by
 by_cases k:n=176
 case neg =>
  refine⟨cr0,4,nofun,?_⟩;apply ba f327 ajG;intro c J A Y Z;simp only[go_sem,J,(ω:¬((n:Int)=176))];exact afS
 subst k;have l:=yh f;have o:=nJ rp z;have ho:=GH (ij f [119,114,97,112] 0) (an [bA 9 0 rp] 1) id 8 176 (am _ 1) G ε ε;have I:=Ap (ij f [119,114,97,112] 0) (an [bA 9 0 rp] 1) id;generalize ubM (ij f [119,114,97,112] 0) (an [bA 9 0 rp] 1) id=U at *;generalize ij f [119,114,97,112] 0=dk at *;generalize bA 9 0 rp=rh at *;by_cases B:U.e=0
 case neg =>
  refine⟨cr0,U.e,fun h=>s5 h B,?_⟩;apply ba f327 ajG;intro c J A Y Z;refine δ l ?_;simp only[go_sem];apply aa Z o;refine θ ?_;refine x_f Z (bI rh) ?_;simp only[go_sem];apply aa Z ho;simp only[go_sem,J,B];exact afS
 have⟨x,a,ok,h1,h2,K⟩:=GJ U.t U.t.length rfl ω;generalize L:U.t.length=m at *;rw[show blA U.t = .p (.data 1 m (U.t.map bt)) from by rw[<-L]] at ho;have g:∀(y:Cr) (e:Int),(okZ ok U.t a (m-a)=false->y=cr0/\e=2)->(okZ ok U.t a (m-a)=true->(x.rs=true\/¬x.rp=rp)->y=cr0/\e=11)->(okZ ok U.t a (m-a)=true->¬(x.rs=true\/¬x.rp=rp)->y=x/\e=0) ->
  FPure prog 327 [.w f,sv rp,.p (.data 1 176 (id.map bt))] (.tup [.agg (crC y),.i e]):=by
  intro y e M E k3;apply ba f327 ajG;intro c J A Y Z;refine δ l ?_;simp only[go_sem];apply aa Z o;refine θ ?_;refine x_f Z (bI rh) ?_;simp only[go_sem];apply aa Z ho;simp only[go_sem,B];apply aa Z K;refine θ ?_;refine ay Y A ajG (m-a) (fun i=>⟨67,[(1,sv rp),(6,.ptr 0 0),(8,.p (.data 1 m (U.t.map bt))),(10,.ptr 1 0),(12,.b (okZ ok U.t a i)),(13,.i ((a+i:Nat):Int))],[(0,some ⟨46,crC cr0⟩),(1,some ⟨46,crC x⟩)],2⟩) [] (sg 3 [0,2]) ⟨rfl,?_,?_,rfl,rfl,trivial,fun i h=>aw [0,2] 3 i h⟩ ?_
  .simp only[go_sem,Nat.add_zero];simp[okZ]
   done
  .simp only[go_sem];exact afS
  intro i N;rcases ea i (m-a) with C|C
  .have F:a'.wrap (((a+i:Nat):Int)+1)=((a+(i+1):Nat):Int):=by rw[ab ω ω];omega
   have hs:=MD ok U.t a i ω;rw[hs];cases q:okZ ok U.t a i
   .simp only[go_sem,J,F,(ω:(((a+i:Nat):Int)<(m:Int)))];refine⟨C,aA [0,1] rfl ?_ ?_ rfl rfl (cV rfl)⟩
    .simp only[go_sem];simp
    .exact κ
   .simp only[go_sem,J,F,(ω:(((a+i:Nat):Int)<(m:Int)))];refine⟨ω,ω,C,aA [0,1] rfl ?_ ?_ rfl rfl (cV rfl)⟩
    .simp only[go_sem];simp
    .exact κ
  obtain rfl:i=m-a:=by omega
  have d:¬(((a+(m-a):Nat):Int)<(m:Int)):=ω;cases q:okZ ok U.t a (m-a)
  .obtain⟨rfl,rfl⟩:=M q;simp only[go_sem,J,d];exact afS
  by_cases s:x.rs=true
  .obtain⟨rfl,rfl⟩:=E q (.inl s);simp only[go_sem,J,d,s];exact afS
  have r:x.rs=false:=by simpa using s
  by_cases u:x.rp=rp
  .obtain⟨rfl,rfl⟩:=k3 q (fun c=>c.elim s (fun c=>c u));simp only[go_sem,J,d,r,cK,sy u]
  .obtain⟨rfl,rfl⟩:=E q (.inr u);simp only[go_sem,J,d,r,cK,eq_false u];exact afS
 by_cases j:okZ ok U.t a (m-a)=true
 case neg=>exact⟨cr0,2,nofun,g cr0 2 (fun _=>⟨rfl,rfl⟩) (fun h=>s5 h j) (fun h=>s5 h j)⟩
 have D:ok=true:=by unfold okZ at j;simp at j;exact j.1
 by_cases v:x.rs=true\/¬x.rp=rp
 .exact⟨cr0,11,nofun,g cr0 11 (fun h=>by rw[j] at h;cases h) (fun _ _=>⟨rfl,rfl⟩) (fun _ h=>s5 v h)⟩
 .exact⟨x,0,fun _=>⟨(h2 D).1,by simpa using fun c=>v (.inl c),Decidable.not_not.1 fun c=>v (.inr c)⟩,g x 0 (fun h=>by rw[j] at h;cases h) (fun _ h=>s5 h v) (fun _ _=>⟨rfl,rfl⟩)⟩

/- own work: steps of the proof -/
import Derived.Test.YtgnmplopdkgccaaGreatDoorNm
set_option linter.all false
set_option maxRecDepth 100000
set_option maxHeartbeats 2000000
open Go.IntKind renaming u8→a'
namespace Go.Abs
open RowKit Proofs Proofs.Tryz
theorem bM{α:Type}{c:Ctx}{k:List It}{G:Prop}(S:α->AS)(Q:α->Prop)(tree:(∀z,Q z->SAW c k (S z))->G)(a:∀z,Q z->SAW c k (S z)):G:=tree a
theorem bm{c:Ctx}(b:∀i,c.ρ0 i≠none->False){k:List It}{st a:AS}(h:SAW c k a)(hs:∃S σ,Sub S σ st a):SAW c k st:=by
 have⟨S,σ,hs⟩:=hs;exact Oj hs (fun i d=>(b i d).elim) h
theorem l6{c:Ctx}{E:AS->Prop}(Y:XOk c E){ks:List Nat}{n:Nat}{k:List It}{st:AS}(h:XW c E ks n k st):SAW c k st:=eT Y ks n _ _ h
structure IT where
 k:Int
 n:UInt64
 s:List UInt8
def itG(x:IT):List AV:=[.i x.k,.w x.n,sv x.s]
attribute [go_sem] itG
@[simp] theorem aeS(T:List Nat)(x:IT):ak T (itG x):=by simp[itG,ak,ax]
def xd(k:Int):UInt8:=if k=2 then 32 else if k=3 then 64 else if k=4 then 96 else if k=5 then 128 else if k=6 then 160 else 0
def vA(x:IT):UInt64:=if x.k=3\/x.k=4 then UInt64.ofNat x.s.length else x.n
def yc(x:IT):List UInt8:=if x.k=7 then[244+x.n.toUInt8] else if x.k=8 then[246] else hdB (xd x.k) (vA x)
theorem EO(x:IT):(x.k=2/\xd x.k=32/\vA x=x.n)\/(x.k=3/\xd x.k=64/\vA x=UInt64.ofNat x.s.length)\/(x.k=4/\xd x.k=96/\vA x=UInt64.ofNat x.s.length) \/
 (x.k=5/\xd x.k=128/\vA x=x.n)\/(x.k=6/\xd x.k=160/\vA x=x.n)\/((¬x.k=2/\¬x.k=3/\¬x.k=4/\¬x.k=5/\¬x.k=6)/\xd x.k=0/\vA x=x.n):=by
 unfold vA;generalize x.k=k;by_cases h2:k=2
 .subst h2;exact .inl ⟨rfl,rfl,rfl⟩
 by_cases a:k=3
 .subst a;exact .inr (.inl ⟨rfl,rfl,rfl⟩)
 by_cases b:k=4
 .subst b;exact .inr (.inr (.inl ⟨rfl,rfl,rfl⟩))
 by_cases c:k=5
 .subst c;exact .inr (.inr (.inr (.inl ⟨rfl,rfl,rfl⟩)))
 by_cases d:k=6
 .subst d;exact .inr (.inr (.inr (.inr (.inl ⟨rfl,rfl,rfl⟩))))
 refine .inr (.inr (.inr (.inr (.inr ⟨⟨h2,a,b,c,d⟩,?_,b0 ω⟩))));unfold xd;rw[b0 h2,b0 a,b0 b,b0 c,b0 d]
def ajv:List Nat:=[0,1,2,3,4,8,9,15,18,20,26,32,34,36,44,52,63]
attribute[go_sem]ajv
theorem LN(x:IT)(a:x.k=7):FPure prog 230 [.agg (itG x)] (blA [244+x.n.toUInt8]):=by
 apply ba f230 ajv;intro c J d Y Z;have b:a'.wrap (244+((x.n.toUInt8).toNat:Int))=((244+x.n.toUInt8).toNat:Int):=jB 244 _;simp only[go_sem,J,a,aH,b]
theorem LO(x:IT)(a:x.k=8):FPure prog 230 [.agg (itG x)] (blA [246]):=by
 apply ba f230 ajv;intro c J b Y Z;simp only[go_sem,J,a];rfl
theorem LP(x:IT)(l:x.s.length<1000000)(m:¬x.k=7)(o:¬x.k=8):FPure prog 230 [.agg (itG x)] (blA (hdB (xd x.k) (vA x))):=by
 have d:=EO x;have a:=fQ l;apply tZ ID func230 rfl π ntmps230 results230 η (by simp[ak,ax]) (1000018::ajv);intro c J h0 Y;generalize xd x.k=M at *;generalize vA x=n at *;apply bM (fun _:Unit=>(⟨87,[(3,.w n),(4,.y M)],[],0⟩:AS)) (fun _=>True)
 case tree =>
  intro hj;have hj:=hj () trivial;rcases d with⟨h,rfl,rfl⟩|⟨h,rfl,rfl⟩|⟨h,rfl,rfl⟩|⟨h,rfl,rfl⟩|⟨h,rfl,rfl⟩|⟨h,rfl,rfl⟩
  .simp only[go_sem,J,h];exact agl
  .simp only[go_sem,J,h,a];refine⟨π,?_⟩;exact agl
  .simp only[go_sem,J,h,a];refine⟨π,?_⟩;exact agl
  .simp only[go_sem,J,h];exact agl
  .simp only[go_sem,J,h];exact agl
  .simp only[go_sem,J,m,o,h.1,h.2.1,h.2.2.1,h.2.2.2.1,h.2.2.2.2];exact agl
 rintro _ -;apply l6 Y (ks:=ajv) (n:=2000);have p:a'.wrap ((M.toNat:Int)+((n.toUInt8).toNat:Int))=((M+n.toUInt8).toNat:Int):=jB M n.toUInt8;have q:a'.wrap ((M.toNat:Int)+24)=((M+24).toNat:Int):=jB M 24;have r:a'.wrap ((M.toNat:Int)+25)=((M+25).toNat:Int):=jB M 25;have t:a'.wrap ((M.toNat:Int)+26)=((M+26).toNat:Int):=jB M 26;have u:a'.wrap ((M.toNat:Int)+27)=((M+27).toNat:Int):=jB M 27;have i:a'.wrap (ishr .u64 (n.toNat:Int) 8)=(((fu n 8).toUInt8).toNat:Int):=rD n 8 ε;have f:a'.wrap (ishr .u64 (n.toNat:Int) 16)=(((fu n 16).toUInt8).toNat:Int):=rD n 16 ε;have g:a'.wrap (ishr .u64 (n.toNat:Int) 24)=(((fu n 24).toUInt8).toNat:Int):=rD n 24 ε;rcases Cj M n with⟨b,e⟩|⟨b,j,e⟩|⟨b,j,e⟩|⟨b,j,e⟩|⟨b,e⟩<;>rw[e] at Y⊢
 .simp only[go_sem,J,(ω:((n.toNat:Int)<24)),aH,p]
 .simp only[go_sem,J,(ω:¬((n.toNat:Int)<24)),(ω:((n.toNat:Int)<256)),aH,q]
 .simp only[go_sem,J,(ω:¬((n.toNat:Int)<24)),(ω:¬((n.toNat:Int)<256)),(ω:((n.toNat:Int)<65536)),aH,r,i]
 .simp only[go_sem,J,(ω:¬((n.toNat:Int)<24)),(ω:¬((n.toNat:Int)<256)),(ω:¬((n.toNat:Int)<65536)),(ω:((n.toNat:Int)<4294967296)),aH,t,i,f,g]
 .simp only[go_sem,J,(ω:¬((n.toNat:Int)<24)),(ω:¬((n.toNat:Int)<256)),(ω:¬((n.toNat:Int)<65536)),(ω:¬((n.toNat:Int)<4294967296)),u]
  first|refine df Y (ks:=ajv) (n:=2000) (by simp only[go_sem];rfl) κ rfl (by rw[J];exact bI n) (by simp only[go_sem,ax,ak,and_self]) ?_|refine dg Y (ks:=ajv) (n:=2000) (by simp only[go_sem];rfl) κ rfl (by rw[J];exact bI n) (by simp only[go_sem,ax,ak,and_self]) ?_
  refine θ ?_;rw[kn,cD (by simp[az])];exact⟨⟨by rw[az];exact c7 _,aG _⟩,by rw[az],aJ _⟩
theorem LQ(x:IT)(c:x.s.length<1000000):FPure prog 230 [.agg (itG x)] (blA (yc x)):=by
 unfold yc;by_cases a:x.k=7
 .rw[b9 a];exact LN x a
 by_cases b:x.k=8
 .rw[b0 a,b9 b];exact LO x b
 .rw[b0 a,b0 b];exact LP x c a b
theorem Cu(x:IT):(yc x).length<=9:=by
 have:=ia (vA x);unfold yc;split
 .simp
 split
 .simp
 .rw[ci];omega
def bT(x:IT):List UInt8:=yc x++x.s
theorem dV(x:IT)(a:x.s.length<1000000):FPure prog 160 [.agg (itG x)] (sv (bT x)):=by
 apply ba f160 [0,1,2];intro c J b Y Z;have hh:=LQ x a;have d:=Cu x;unfold bT at Y Z;rw[show bT x=yc x++x.s from rfl];refine θ ?_;exact ahy
def gN(k:Int):Bool:=decide (k=1\/k=2\/k=4)
theorem eQ(k:Int):FPure prog 351 [.i k] (.b (gN k)):=by
 apply ba f351 [0,2];intro c J d Y Z;unfold gN at Y Z;rw[show gN k=decide (k=1\/k=2\/k=4) from rfl];by_cases h1:k=1
 .simp only[go_sem,J,h1,decide_true]
 by_cases h2:k=2
 .simp only[go_sem,J,h2,decide_true]
 by_cases a:k=4
 .simp only[go_sem,J,a,decide_true]
 .simp only[go_sem,J,h1,h2,a,decide_false]
theorem je(n lo hi:Int):FPure prog 350 [.i n,.i lo,.i hi] (.b (decide (lo<=n/\n<=hi))):=by
 apply ba f350 [0,1,2,6];intro c J a Y Z;exact agT
def iL(a b:List UInt8):Bool:=if a.length≠b.length then decide (a.length<b.length) else Op.bytesLess a b
theorem gc(a b:List UInt8):FPure prog 352 [sv a,sv b] (.b (iL a b)):=by
 apply ba f352 [0,1,4,9];intro c J d Y Z;unfold iL at Y Z;rw[show iL a b=if a.length≠b.length then decide (a.length<b.length) else Op.bytesLess a b from rfl];by_cases h:a.length=b.length
 .simp only[go_sem,J,h];rw[cK,cK]
 .simp only[go_sem,J,h,(ω:¬((a.length:Int)=(b.length:Int)))];exact decide_eq_decide.2 ω
def dC(x:IT)(at' dep:Int)(key:Bool)(bf:List UInt8):Int :=
 if at'>=512 then 8 else
 if¬(1<=x.k/\x.k<=8)\/(key=true/\gN x.k=false) then 3 else
 if dep>8 then 5 else
 if(x.k=3\/x.k=4\/x.k=8)/\¬(x.n.toNat:Int)=0\/x.k=7/\(x.n.toNat:Int)>1\/¬(x.k=3\/x.k=4)/\¬x.s=[] then 4 else
 if(x.s.length:Int)>1024\/(x.k=5\/x.k=6)/\(x.n.toNat:Int)>512 then 8 else
 if x.k=4/\okU x.s=false then 6 else
 if key=true/\¬bf=[]/\iL bf (bT x)=false then 7 else 0
theorem dz(s:List UInt8):({data:=s.toArray}:ByteArray).toList=({data:=#[]}:ByteArray).toList↔s=[]:=by
 rw[cK,show({data:=#[]}:ByteArray)=⟨([]:List UInt8).toArray⟩ from rfl,cK]
def ajw:List Nat:=[0,1,2,3,4,5,10,11,12,29,32,46,49,80,93,103]
attribute[go_sem]ajw
theorem Iu(x:IT)(e f:Int)(g:List UInt8)(j:x.s.length<1000000)(a:x.k=1\/x.k=2\/x.k=3\/x.k=5\/x.k=6\/x.k=7\/x.k=8):FPure prog 314 [.agg (itG x),.i e,.i f,.b false,sv g] (.i (dC x e f false g)):=by
 have h:=je x.k 1 8;have l:=eQ x.k;have m:=dV x j;have n:=gc g (bT x);obtain⟨R,d⟩:∃R,dC x e f false g=R:=⟨_,rfl⟩
 rw[d];unfold dC at d;generalize bT x=by' at *;apply ba f314 ajw;intro c J o Y Z;rcases a with a|a|a|a|a|a|a
 all_goals
  rw[a] at h d;simp only[go_sem,J,a];split
  .rw[b9 ‹_›] at d;exact d
  rw[b0 ‹_›] at d;apply aa Z h;simp only[go_sem,J,a,dz];simp at d;rw[<-d];simp
  (repeat' split)<;>first|rfl|omega|(simp_all;done)|(simp_all;omega)
theorem Iv(x:IT)(a d:Int)(e:Bool)(g:List UInt8)(j:x.s.length<1000000)(h:¬(1<=x.k/\x.k<=8)):FPure prog 314 [.agg (itG x),.i a,.i d,.b e,sv g] (.i (dC x a d e g)):=by
 have l:=je x.k 1 8;have m:=eQ x.k;have n:=dV x j;have o:=gc g (bT x);obtain⟨R,f⟩:∃R,dC x a d e g=R:=⟨_,rfl⟩
 rw[f];unfold dC at f;generalize bT x=by' at *;apply ba f314 ajw;intro c J u Y Z;have p:¬x.k=3:=ω;have q:¬x.k=4:=ω;have r:¬x.k=5:=ω;have t:¬x.k=6:=ω;simp only[go_sem,J,p,q,r,t];split
 .rw[b9 ‹_›] at f;exact f
 rw[b0 ‹_›,b9 (.inl h)] at f;apply aa Z l;simp only[go_sem,J,h];exact f
theorem Iw(x:IT)(d e:Int)(h:List UInt8)(l:x.s.length<1000000)(a:x.k=3\/x.k=5\/x.k=6\/x.k=7\/x.k=8):FPure prog 314 [.agg (itG x),.i d,.i e,.b true,sv h] (.i (dC x d e true h)):=by
 have j:=je x.k 1 8;have g:=eQ x.k;have m:=dV x l;have n:=gc h (bT x);obtain⟨R,f⟩:∃R,dC x d e true h=R:=⟨_,rfl⟩
 rw[f];unfold dC at f;generalize bT x=by' at *;apply ba f314 ajw;intro c J o Y Z;rcases a with a|a|a|a|a
 all_goals
  rw[a] at j f g;simp only[go_sem,J,a];split
  .rw[b9 ‹_›] at f;exact f
  rw[b0 ‹_›,b9 (.inr ⟨rfl,rfl⟩)] at f;apply aa Z j;simp only[go_sem,J,a];apply aa Z g;refine θ ?_;exact f
theorem Ix(x:IT)(d e:Int)(f:List UInt8)(j:x.s.length<1000000)(g:x.k=4):FPure prog 314 [.agg (itG x),.i d,.i e,.b false,sv f] (.i (dC x d e false f)):=by
 have h:=je x.k 1 8;have l:=eQ x.k;have m:=dV x j;have n:=gc f (bT x);obtain⟨R,a⟩:∃R,dC x d e false f=R:=⟨_,rfl⟩
 rw[a];unfold dC at a;generalize bT x=by' at *;have hv:=bW x.s ω;generalize okU x.s=u at *;apply ba f314 ajw;intro c J o Y Z;rw[g] at h a;simp only[go_sem,J,g];split
 .rw[b9 ‹_›] at a;exact a
 rw[b0 ‹_›] at a;apply aa Z h;simp only[go_sem,J,g,dz];simp at a;split
 .simp_all
 split
 .split
  .refine alz ?_;cases u
   .simp at a;split<;>first|omega|(simp_all;done)|(simp_all;omega)
   .simp at a;split<;>first|omega|(simp_all;done)|(simp_all;omega)
  .simp_all
 .simp_all
theorem Iy(x:IT)(a d:Int)(e:List UInt8)(h:x.s.length<1000000)(hk:x.k=1\/x.k=2):FPure prog 314 [.agg (itG x),.i a,.i d,.b true,sv e] (.i (dC x a d true e)):=by
 have g:=je x.k 1 8;have f:=eQ x.k;have hby:=dV x h;have hls:=gc e (bT x);obtain⟨R,hR⟩:∃R,dC x a d true e=R:=⟨_,rfl⟩
 rw[hR];unfold dC at hR;generalize bT x=by' at *;generalize iL e by'=ls at *;apply ba f314 ajw;intro c J j Y Z;rcases hk with hk|hk
 all_goals
  rw[hk] at g hR f;simp only[go_sem,J,hk];split
  .rw[b9 ‹_›] at hR;exact hR
  rw[b0 ‹_›] at hR;apply aa Z g;simp only[go_sem,J,hk];apply aa Z f;simp only[go_sem,J,show gN 1=true from rfl,show gN 2=true from rfl,dz];simp[gN] at hR;split
  .exact agh
  split
  .exact agh
  split
  .exact af0
  .exact agh
theorem Iz(x:IT)(a d:Int)(e:List UInt8)(h:x.s.length<1000000)(hk:x.k=4):FPure prog 314 [.agg (itG x),.i a,.i d,.b true,sv e] (.i (dC x a d true e)):=by
 have g:=je x.k 1 8;have f:=eQ x.k;have hby:=dV x h;have hls:=gc e (bT x);obtain⟨R,hR⟩:∃R,dC x a d true e=R:=⟨_,rfl⟩
 rw[hR];unfold dC at hR;generalize bT x=by' at *;generalize iL e by'=ls at *;have hv:=bW x.s ω;generalize okU x.s=u at *;apply ba f314 ajw;intro c J j Y Z;rw[hk] at g hR f;simp only[go_sem,J,hk];split
 .rw[b9 ‹_›] at hR;exact hR
 rw[b0 ‹_›] at hR;apply aa Z g;simp only[go_sem,J,hk];apply aa Z f;simp only[go_sem,J,show gN 4=true from rfl,dz];simp[gN] at hR;split
 .exact agh
 split
 .split
  .apply aa Z hv;cases u
   .refine θ ?_;exact agh
   .simp only[go_sem,J,dz];exact af0
  .exact agh
 .exact agh
theorem yd(x:IT)(a c:Int)(d:Bool)(e:List UInt8)(f:x.s.length<1000000):FPure prog 314 [.agg (itG x),.i a,.i c,.b d,sv e] (.i (dC x a c d e)):=by
 by_cases h:1<=x.k/\x.k<=8
 .by_cases g:x.k=4
  .cases d
   .exact Ix x a c e f g
   .exact Iz x a c e f g
  .cases d
   .exact Iu x a c e f ω
   .by_cases h2:x.k=1\/x.k=2
    .exact Iy x a c e f h2
    .exact Iw x a c e f ω
 .exact Iv x a c d e f h
def xt0:IT:=⟨0,0,[]⟩
def xtP(x:IT):List PV:=[.v (.int .i64 x.k),wd x.n,.v (.string ⟨x.s.toArray⟩)]
def gz(l:List IT):List PV:=l.flatMap xtP
theorem Cv(l:List IT):(gz l).length=l.length*3:=by
 induction l with
 |nil=>rfl
 |cons p l a=>simp only[gz,s6,c9,ew] at a⊢;rw[a];simp[xtP];omega
theorem nG(l:List IT)(i:Nat)(h:i<l.length):(gz l).drop (i*3)=xtP (l.getD i xt0)++gz (l.drop (i+1)):=by
 induction l generalizing i with
 |nil=>simp at h
 |cons p l a =>
  cases i with
  |zero=>simp[gz]
  |succ i =>
   have:=a i χ;have e:(gz (p::l)).drop ((i+1)*3)=(gz l).drop (i*3):=by
    rw[show gz (p::l)=xtP p++gz l from by simp[gz],show(i+1)*3=(xtP p).length+i*3 from by simp[xtP];omega,List.drop_length_add_append]
   rw[e,this];simp
def sP(w:Nat->Bool->List UInt8->Nat×Int)(mp:Bool)(l:List IT):Nat->Nat->List UInt8->Nat×Int
 |0,nx,_=>(nx,0)
 |c+1,nx,la =>
  if mp=true then
   if(w nx true la).2≠0 then w nx true la else
   if(w (w nx true la).1 false []).2≠0 then w (w nx true la).1 false [] else sP w mp l c (w (w nx true la).1 false []).1 (bT (l.getD nx xt0))
  else
   if(w nx false []).2≠0 then w nx false [] else sP w mp l c (w nx false []).1 la
def gY(l:List IT):Nat->Nat->Bool->List UInt8->Nat×Int
 |0,at',key,bf=>if l.length<=at' then(at',1) else(at',dC (l.getD at' xt0) at' 9 key bf)
 |f+1,at',key,bf =>
  if l.length<=at' then(at',1) else
  if dC (l.getD at' xt0) at' (8-(f:Int)) key bf≠0 then(at',dC (l.getD at' xt0) at' (8-(f:Int)) key bf) else
  if(l.getD at' xt0).k=5\/(l.getD at' xt0).k=6 then sP (gY l f) (decide ((l.getD at' xt0).k=6)) l (l.getD at' xt0).n.toNat (at'+1) [] else(at'+1,0)
theorem vB{w:Nat->Bool->List UInt8->Nat×Int}{f:Bool}{l:List IT}{n:Nat}(d:∀a k b,a<=n->(w a k b).1<=n):∀c nx la,nx<=n->(sP w f l c nx la).1<=n
 |0,nx,la,h=>h
 |c+1,nx,la,h=>by
  simp only[sP];have h1:=d nx true la h;have h2:=d _ false [] h1;have e:=d nx false [] h;split
  .split
   .exact h1
   .split
    .exact h2
    .exact vB d c _ _ h2
  .split
   .exact e
   .exact vB d c _ _ e
theorem Cw(l:List IT):∀f at' key bf,at'<=l.length->(gY l f at' key bf).1<=l.length
 |0,at',key,bf,h=>by
  simp only[gY];split<;>exact h
 |f+1,at',key,bf,h=>by
  simp only[gY];split
  .exact h
  split
  .exact h
  split
  .exact vB (fun a k b ha=>Cw l f a k b ha) _ _ _ ω
  .show at'+1<=_;omega
theorem LS(l:List IT)(f a:Nat)(b:Bool)(d:List UInt8)(h:(gY l f a b d).2=0):a<l.length:=by
 rcases ea a l.length with c|c
 .exact c
 .exfalso;cases f<;>(simp only[gY] at h;rw[b9 c] at h;exact s5 (show(1:Int)=0 from h) ε)
theorem Um(x:IT)(a:Int)(b:Bool)(c:List UInt8):¬dC x a 9 b c=0:=by
 unfold dC;split
 .decide
 split
 .decide
 rw[b9 ε];decide
def aju:List Nat:=[0,1,2,3,4,10,11,12,13,14,15,16,17,18,22,35,53,58,70,87]
attribute[go_sem]aju
theorem LT(l:List IT)(n:Nat)(I:l.length=n)(hn':n<1000000)(hs:∀i,i<n->(l.getD i xt0).s.length<1000000):∀f:Nat,f<=9->∀(at':Nat) (d:Bool) (t:List UInt8),at'<=n ->
 FPure prog 229 [.p (.data 3 n (gz l)),.i at',.i (9-(f:Int)),.b d,sv t] (.tup [.i (gY l f at' d t).1,.i (gY l f at' d t).2]):=by
 intro f
 induction f with
 |zero =>
  intro _ at' d t W;obtain⟨R,hR⟩:∃R,gY l 0 at' d t=R:=⟨_,rfl⟩
  rw[hR];simp only[gY,I] at hR;rcases ea at' n with K|K
  .rw[b0 ω] at hR;have u:=nG l at' ω;have L:=yd (l.getD at' xt0) at' 9 d t (hs at' K);have h9:=Um (l.getD at' xt0) at' d t;generalize dC (l.getD at' xt0) at' 9 d t=e at *;generalize l.getD at' xt0=x at *;subst hR;refine ba f229 aju ?_;intro c J h0 Y Z;simp only[go_sem,J,u,xtP,(ω:¬((at':Int)>=(n:Int)))];refine⟨⟨ω,ω⟩,?_⟩;refine aa Z L ?_;simp only[go_sem,J,h9]
  .exact agG
 |succ f M =>
  intro hf at' d t W;have M:=M ω;obtain⟨R,hR⟩:∃R,gY l (f+1) at' d t=R:=⟨_,rfl⟩
  rw[hR];simp only[gY,I] at hR;have X:(9:Int)-((f+1:Nat):Int)=8-(f:Int):=ω;rw[X];rcases ea at' n with K|K
  case inr =>
   exact agG
  rw[b0 ω] at hR;have u:=nG l at' ω;have L:=yd (l.getD at' xt0) at' (8-(f:Int)) d t (hs at' K);have O:IntKind.i64.wrap ((at':Int)+1)=((at'+1:Nat):Int):=by rw[ab ω ω];omega
  generalize dC (l.getD at' xt0) at' (8-(f:Int)) d t=e at *;generalize l.getD at' xt0=x at *;by_cases P:e=0
  case neg =>
   rw[b9 P] at hR;subst hR;refine ba f229 aju ?_;intro c J h0 Y Z;simp only[go_sem,J,u,xtP,(ω:¬((at':Int)>=(n:Int)))];refine⟨⟨ω,ω⟩,?_⟩;refine aa Z L ?_;simp only[go_sem,J,P]
  rw[b0 (fun h=>h P)] at hR;by_cases m:x.k=5\/x.k=6
  case neg =>
   rw[b0 m] at hR;subst hR;refine ba f229 aju ?_;intro c J h0 Y Z;simp only[go_sem,J,u,xtP,(ω:¬((at':Int)>=(n:Int)))];refine⟨⟨ω,ω⟩,?_⟩;refine aa Z L ?_;simp only[go_sem,J,P,O];refine ay Y h0 aju 0 (fun _=>⟨91,[(12,.ptr 0 0),(14,.i ((at'+1:Nat):Int)),(16,.p (.v (.int .u64 0)))],[(0,some ⟨154,itG x⟩)],1⟩) [] (fun i=>i) ⟨rfl,κ,κ,rfl,rfl,trivial,fun i h=>h⟩ ?_;intro _ _;by_cases Q:(0:Int)<(x.n.toNat:Int)
   .simp only[go_sem,J,Q,show¬x.k=5 from fun h=>m (.inl h),show¬x.k=6 from fun h=>m (.inr h)]
   .simp only[go_sem,J,Q]
  rw[b9 m] at hR;refine ba f229 aju ?_;intro c J h0 Y Z;simp only[go_sem,J,u,xtP,(ω:¬((at':Int)>=(n:Int)))];refine⟨⟨ω,ω⟩,?_⟩;refine aa Z L ?_;simp only[go_sem,J,P,O];have E:=fun a k b (ha:a<=n)=>I ▸ Cw l f a k b (I ▸ ha)
  have hwt:=fun a k b (h:(gY l f a k b).2=0)=>I ▸ LS l f a k b h
  generalize gY l f=w at *;have hN:=x.n.toNat_lt;generalize o:x.n.toNat=N at *;refine bl Y h0 aju (α:={q:Nat×Nat×List UInt8 // q.1<=N/\q.2.1<=n/\sP w (decide (x.k=6)) l q.1 q.2.1 q.2.2=R}) (fun q=>⟨91,[(0,.p (.data 3 n (gz l))),(2,.i (8-(f:Int))),(12,.ptr 0 0),(14,.i q.1.2.1),(15,sv q.1.2.2),(16,.p (.v (.int .u64 ((N-q.1.1:Nat):Int))))],[(0,some ⟨154,itG x⟩)],1⟩) (fun q=>q.1.1) ⟨(N,at'+1,[]),c7 _,by show at'+1<=n;omega,hR⟩ [] (fun i=>i) ⟨rfl,?_,?_,rfl,rfl,trivial,fun i h=>h⟩ ?_
  .simp only[go_sem];rw[Nat.sub_self];rfl
  .exact κ
  rintro⟨⟨c,nx,H⟩,h1,h2,g⟩;dsimp only at h1 h2 g⊢;have j:IntKind.i64.wrap (8-(f:Int)+1)=9-(f:Int):=by rw[ab ω ω];omega
  cases c with
  |zero =>
   rw[show sP w (decide (x.k=6)) l 0 nx H=(nx,0) from rfl] at g;subst g;simp only[go_sem,J,o,(ω:¬((N:Int)<(N:Int)))]
  |succ c =>
   have z:((N-(c+1):Nat):Int)<(N:Int):=ω;have S:IntKind.u64.wrap (((N-(c+1):Nat):Int)+1)=((N-c:Nat):Int):=by rw[ao ω ω];omega
   simp only[sP] at g;rcases m with m|m
   .rw[b0 (by rw[m];decide)] at g;have A:=M nx false [] h2;have F:=E nx false [] h2;generalize w nx false []=r at *;by_cases B:r.2=0
    .rw[b0 (fun h=>h B)] at g;simp only[go_sem,J,o,z,m,j];refine aa Z A ?_;simp only[go_sem,J,B,S];refine⟨⟨(c,r.1,H),by dsimp only;omega,F,g⟩,by dsimp only;omega,aA [0] rfl ?_ ?_ rfl rfl (c7 _)⟩
     .exact κ
     .exact κ
    .rw[b9 B] at g;subst g;simp only[go_sem,J,o,z,m,j];refine aa Z A ?_;simp only[go_sem,J,B]
   .rw[b9 (by rw[m];decide)] at g;have G:=M nx true H h2;have C:=E nx true H h2;have T:=hwt nx true H;generalize w nx true H=r at *;by_cases B:r.2=0
    case neg =>
     rw[b9 B] at g;subst g;simp only[go_sem,J,o,z,m,j];refine aa Z G ?_;simp only[go_sem,J,B]
    rw[b0 (fun h=>h B)] at g;have hnx:=T B;have A:=M r.1 false [] C;have F:=E r.1 false [] C;have D:=nG l nx ω;have U:=dV (l.getD nx xt0) (hs nx hnx);generalize bT (l.getD nx xt0)=by' at *;generalize l.getD nx xt0=y at *;generalize w r.1 false []=q at *;by_cases V:q.2=0
    .rw[b0 (fun h=>h V)] at g;simp only[go_sem,J,o,z,m,j];refine aa Z G ?_;simp only[go_sem,J,B,D,xtP];refine⟨⟨ω,ω⟩,?_⟩;refine aa Z U ?_;simp only[go_sem,J,j];refine aa Z A ?_;simp only[go_sem,J,V,S];refine⟨⟨(c,q.1,by'),by dsimp only;omega,F,g⟩,by dsimp only;omega,aA [0] rfl ?_ ?_ rfl rfl (c7 _)⟩
     .exact κ
     .exact κ
    .rw[b9 V] at g;subst g;simp only[go_sem,J,o,z,m,j];refine aa Z G ?_;simp only[go_sem,J,B,D,xtP];refine⟨⟨ω,ω⟩,?_⟩;refine aa Z U ?_;simp only[go_sem,J,j];refine aa Z A ?_;simp only[go_sem,J,V]
def Cx(l:List IT):Int:=if(gY l 9 0 false []).2≠0 then(gY l 9 0 false []).2 else if(gY l 9 0 false []).1<l.length then 2 else 0
def mP(l:List IT):List UInt8:=l.flatMap bT
def LU(l:List IT):List UInt8:=if Cx l=0 then mP l else[]
theorem IA(l:List IT)(i:Nat)(h:i<l.length):mP (l.take (i+1))=mP (l.take i)++bT (l.getD i xt0):=by
 rw[List.take_add_one,show l[i]?=some (l.getD i xt0) from by simp[cR,h]];simp[mP]
theorem PC(l:List IT)(i:Nat):(mP (l.take i)).length<=(mP l).length:=by
 conv=>rhs;rw[<-List.take_append_drop i l]
 simp only[mP,List.flatMap_append,c9];omega
theorem PD(l:List IT)(n:Nat)(d:l.length=n)(b:n<1000000)(hs:∀i,i<n->(l.getD i xt0).s.length<1000000):FPure prog 159 [.p (.data 3 n (gz l))] (.i (Cx l)):=by
 have e:=LT l n d b hs 9 ε 0 false [] (gi _);obtain⟨R,a⟩:∃R,Cx l=R:=⟨_,rfl⟩
 rw[a];unfold Cx at a;rw[d] at a;generalize gY l 9 0 false []=r at *;apply ba f159 [0,2,3,4,11,16];intro c J f Y Z;refine δ e ?_;by_cases h2:r.2=0
 .rw[b0 (fun h=>h h2)] at a;by_cases h1:r.1<n
  .rw[b9 h1] at a;subst a;simp only[go_sem,J,h2,(ω:((r.1:Int)<(n:Int)))]
  .rw[b0 h1] at a;subst a;simp only[go_sem,J,h2,(ω:¬((r.1:Int)<(n:Int)))]
 .rw[b9 h2] at a;subst a;simp only[go_sem,J,h2]
theorem EP(l:List IT)(n:Nat)(k:l.length=n)(d:n<1000000)(hs:∀i,i<n->(l.getD i xt0).s.length<1000000)(m:(mP l).length<1000000000):FPure prog 90 [.p (.data 3 n (gz l))] (.tup [blA (LU l),.i (Cx l)]):=by
 have hv:=PD l n k d hs;unfold LU;by_cases hz:Cx l=0
 case neg =>
  rw[b0 hz];generalize Cx l=v at *;refine ba f90 [0,2,3,4,5,6,10,15] ?_;intro c J j Y Z;exact ahY
 rw[b9 hz];rw[hz] at hv⊢;refine ba f90 [0,2,3,4,5,6,10,15] ?_;intro c J j Y Z;refine δ hv ?_;refine θ ?_;refine aX bP ?_;refine ay Y j [0,2,3,4,5,6,10,15] n (fun i=>⟨26,[(0,.p (.data 3 n (gz l))),(5,.sl 0 0 (mP (l.take i)).length 1),(6,.i i)],[(0,some ⟨bP,cb (mP (l.take i))⟩)],1⟩) [] (fun i=>i) ?_ ?_
 .refine⟨rfl,?_,?_,rfl,rfl,trivial,fun i h=>h⟩
  .simp only[go_sem,List.take_zero];rfl
  .simp only[go_sem,List.take_zero];exact af1
 intro i o;rcases ea i n with h19|h19
 .have hw:=ac i
  have e:=nG l i ω;have a:=IA l i ω;have f:=PC l (i+1);have g:=dV (l.getD i xt0) (hs i h19);rw[a,c9] at f;rw[a];generalize bT (l.getD i xt0)=by' at *;generalize l.getD i xt0=x at *;generalize mP (l.take i)=b at *;simp only[go_sem,J,e,xtP,(ω:((i:Int)<(n:Int)))];refine⟨ω,?_⟩;refine aa Z g ?_;exact ag6
 obtain rfl:i=n:=by omega
 rw[show l.take i=l from cD ω];generalize mP l=b at *;simp only[go_sem,J,(ω:¬((i:Int)<(i:Int)))];exact⟨c7 _,by rw[List.take_length]⟩

/- own work: steps of the proof -/
import Derived.Test.YtgnmplopdkgccaaGreatDoorOf
import Derived.Test.YtgnmplopdkgccaaGreatDoorQr
set_option linter.all false
set_option maxRecDepth 100000
set_option maxHeartbeats 2000000
open Go.IntKind renaming i64→a',u64→b',u8→c'
open Nat renaming reduceSub→d',pow_le_pow_right→e'
open List renaming map→f',take_length→g',take→h',drop→i'
namespace Go.Abs
open RowKit Proofs Proofs.Tryz
def mA{α:Type}(f:α->PV)(l:List α):List AV:=(l.map f).map .p
section
variable {α : Type} (f : α → PV) (l : List α)
theorem ko:(mA f l).length=l.length:=by simp[mA]
theorem l9(h:bv)(S:List Nat)(σ:Nat->Nat):aj h S σ (mA f l) (mA f l):=aL h S σ _
theorem aeq(τ:Nat->Nat):eu τ (mA f l)=mA f l:=cT τ _
@[simp] theorem afi(T:List Nat):ak T (mA f l):=aM T _
theorem pj(k:Nat)(x:α):(mA f l).set k (.p (f x))=mA f (l.set k x):=by simp[mA,List.map_set]
theorem yG(d:α)(k:Nat)(h:k<l.length):(mA f l).drop k = .p (f (l.getD k d))::(mA f l).drop (k+1):=by
 have a:k<(mA f l).length:=by rw[ko];exact h
 rw[hE a];simp[mA,cR,h]
theorem Ns(a:∀x,Jz (f x)=true):dI (mA f l)=true:=by
 unfold mA
 induction l with
 |nil=>rfl
 |cons x l b=>simp only[hX,dI,oneC,a x];exact b
end
theorem tQ{α:Type}(f:α->PV)(l:List α)(x:α):mA f l++[.p (f x)]=mA f (l++[x]):=by simp[mA]
attribute [go_sem] ko l9 aeq
theorem bX{h:bv}{S:List Nat}{σ:Nat->Nat}:∀{bs cs:List AV} (j:Nat) (b a:AV),aj h S σ bs cs->aS h S σ b a->aj h S σ (bs.set j b) (cs.set j a)
 |[],cs,j,b,a,h1,_=>by simp only[aj] at h1;subst h1;simp[aj]
 |x::bs,[],j,b,a,h1,_=>by simp[aj] at h1
 |x::bs,y::cs,0,b,a,h1,h2=>by simp only[aj,List.set_cons_zero] at h1⊢;exact⟨h2,h1.2⟩
 |x::bs,y::cs,j+1,b,a,h1,h2=>by simp only[aj,List.set_cons_succ] at h1⊢;exact⟨h1.1,bX j b a h1.2 h2⟩
theorem aer{α:Type}(f:α->PV)(l:List α)(h:List (Nat×Option Blk)):ik h (mA f l):=fc h _
theorem aes{α:Type}(f:α->PV)(l:List α)(h:List (Nat×Option Blk)):fzL h (mA f l)=mA f l:=fX h _
theorem aet{α:Type}(f:α->PV)(l:List α):cy (mA f l) (mA f l):=av _
theorem iB{α:Type}(f:α->PV)(l:List α)(n:Nat)(h:l.length=n):(mA f l).take n=mA f l:=cD (by rw[ko,h];exact c7 _)
attribute [go_sem] aer aes aet
def rnM(leaf chain:Int)(x:UInt64):Nat->UInt64
 |0=>x
 |k+1=>bA 1 0 (an [cq leaf,cq chain,cq (k:Int),rnM leaf chain x k] 4)
theorem Nt(b a:Int)(n:Nat)(o:n<=15)(x:UInt64):FPure prog 376 [.i b,.i a,.i 0,.i n,.w x] (.w (rnM b a x n)):=by
 apply ba f376 [0,1,2,3,4,10,11,17];intro c J j Y Z;have d:¬((15:Int)<(n:Int)):=ω;have e:(n:Int)<=15:=ω;simp only[go_sem];refine ay Y j [0,1,2,3,4,10,11,17] n (fun i=>⟨31,[(0,.i b),(1,.i a),(2,.i 0),(3,.i n),(4,.w (rnM b a x i)),(11,.i i)],[],0⟩) [] (fun i=>i) ⟨rfl,?_,trivial,rfl,rfl,trivial,fun i h=>h⟩ ?_
 .simp only[go_sem,rnM]
 intro i p;rcases ea i n with h|h
 .have k:=ac i
  have m:rnM b a x (i+1)=bA 1 0 (an [cq b,cq a,cq (i:Int),rnM b a x i] 4):=rfl;have g:=fS 1 (an [cq b,cq a,cq (i:Int),rnM b a x i] 4) 32 (am _ 4) ε ε ε;rw[show UInt64.ofNat (1:Int).toNat=1 from rfl,<-m] at g;generalize rnM b a x (i+1)=y at *;generalize rnM b a x i=z at *;simp only[go_sem,J,d,(ω:((i:Int)<(n:Int))),ca];refine x_f Z (gO [cq b,cq a,cq (i:Int),z] 4 rfl ε) ?_;simp only[go_sem];apply aa Z g;simp only[go_sem,k];exact⟨h,aA [] rfl κ trivial rfl rfl (gi _)⟩
 obtain rfl:i=n:=by omega
 simp only[go_sem,d,(ω:¬((i:Int)<(i:Int)))]
def xi(seed:UInt64)(leaf chain:Int):UInt64:=bA seed 2 (an [cq leaf,cq chain] 2)
theorem yH(d:UInt64)(b a:Int):FPure prog 377 [.w d,.i b,.i a] (.w (xi d b a)):=by
 have hh:=mQ d 1 (an [cq b,cq a] 2) 16 (am _ 2) ε ε ε;rw[show bA d (UInt64.ofNat ((1:Int).toNat+1)) (an [cq b,cq a] 2)=xi d b a from rfl] at hh;generalize xi d b a=y at *;apply ba f377 [0,1,2,6];intro c J e Y Z;simp only[go_sem,J,ca];refine x_f Z (gO [cq b,cq a] 2 rfl ε) ?_;exact agZ
def Dg(leaf:Int)(l:List UInt64):UInt64:=bA 2 0 (an [cq leaf] 1++an l 18)
theorem Qs(a:Int)(l:List UInt64)(g:l.length=18):FPure prog 380 [.i a,.p (.data 1 18 (l.map wd))] (.w (Dg a l)):=by
 have e:=fS 2 (an [cq a] 1++an l 18) 152 (by simp[am]) ε ε ε;rw[show bA (UInt64.ofNat (2:Int).toNat) 0 (an [cq a] 1++an l 18)=Dg a l from rfl] at e;have b:(an [cq a] 1).length=8:=am _ 1;have d:(an l 18).length=144:=am _ 18;generalize Dg a l=y at *;apply ba f380 [0,1,4];intro c J h Y Z;simp only[go_sem,J,ca]
 first|refine io Y (ks:=[0,1,4]) (n:=2000) 1 (by simp only[go_sem];rfl) κ rfl (by rw[J];exact fk [cq a] 1 rfl ε ε) rfl rfl (by simp[ax,keys]) (by simp only[bV,cm,and_self]) ?_|refine ip Y (ks:=[0,1,4]) (n:=2000) 1 (by simp only[go_sem];rfl) κ rfl (by rw[J];exact fk [cq a] 1 rfl ε ε) rfl rfl (by simp[ax,ak,keys]) (by simp only[bV,ak,aM,cm,cF,and_self]) rfl ?_
 simp only[go_sem];apply aa Z (gO l 18 g ε);refine alx ?_;refine⟨b,?_⟩
 first|refine df Y (ks:=[0,1,4]) (n:=2000) ?_ ?_ rfl (by rw[J];exact e) (by simp only[go_sem,ax]) ?_|refine dg Y (ks:=[0,1,4]) (n:=2000) ?_ ?_ rfl (by rw[J];exact e) (by simp only[go_sem,ax,ak,and_self]) ?_
 .exact ahP
 .simp only[go_sem,c9,b,d]
 simp only[go_sem]
def gh(seed:UInt64)(leaf:Int)(tto:Nat->Nat):Nat->List UInt64
 |0=>[]
 |c+1=>gh seed leaf tto c++[rnM leaf c (xi seed leaf c) (tto c)]
theorem ji(a:UInt64)(b:Int)(d:Nat->Nat)(c:Nat):(gh a b d c).length=c:=by
 induction c with
 |zero=>rfl
 |succ c e=>simp[gh,e]
def Dh(seed:UInt64)(leaf:Int):UInt64:=Dg leaf (gh seed leaf (fun _=>15) 18)
abbrev pvW(x:UInt64):PV:=wd x
theorem aeu(l:List UInt64):mA pvW l=(l.map wd).map .p:=rfl
theorem Qt(b:UInt64)(a:Int):FPure prog 373 [.w b,.i a] (.w (Dh b a)):=by
 have d:=Qs a (gh b a (fun _=>15) 18) (ji _ _ _ _);unfold Dh;generalize Dg a (gh b a (fun _=>15) 18)=y at *;apply ba f373 [0,1,4,5,6,8];intro c J e Y Z;simp only[go_sem];apply aX 24;refine ay Y e [0,1,4,5,6,8] 18 (fun i=>⟨24,[(0,.w b),(1,.i a),(5,.sl 0 0 i 1),(6,.i i)],[(0,some ⟨24,mA pvW (gh b a (fun _=>15) i)⟩)],1⟩) [] (fun i=>i) ?_ ?_
 .refine⟨rfl,?_,?_,rfl,rfl,trivial,fun i h=>h⟩
  .exact κ
  .simp only[go_sem,gh];exact af1
 intro i k;rcases ea i 18 with h|h
 .have g:=ac i
  have j:gh b a (fun _=>15) (i+1)=gh b a (fun _=>15) i++[rnM a i (xi b a i) 15]:=rfl;have h1:=yH b a i;have h2:=Nt a i 15 ε (xi b a i);have hll:=ji b a (fun _=>15) i;rw[j];generalize xi b a i=x at *;generalize rnM a i x 15=z at *;generalize gh b a (fun _=>15) i=l at *;simp only[go_sem,(ω:((i:Int)<18))];apply aa Z h1;simp only[go_sem];apply aa Z h2;simp only[go_sem,J,g];exact ahb
 obtain rfl:i=18:=by omega
 have hll:=ji b a (fun _=>15) 18;generalize gh b a (fun _=>15) 18=l at *;simp only[go_sem]
 first|refine df Y (ks:=[0,1,4,5,6,8]) (n:=2000) ?_ ?_ rfl (by rw[J];exact d) (by simp only[go_sem,ax]) ?_|refine dg Y (ks:=[0,1,4,5,6,8]) (n:=2000) ?_ ?_ rfl (by rw[J];exact d) (by simp only[go_sem,ax,ak,and_self]) ?_
 .simp only[go_sem];rw[cD (by simp[ko,hll]),aeu];exact aJ _
 .simp only[go_sem,hll];rw[cD (by simp[ko,hll])];exact aG _
 simp only[go_sem]
abbrev pvN(n:Nat):PV := .v (.int .i64 (n:Int))
def Di(m:UInt64)(j:Nat):UInt64:=fu m (4*j) &&& 15
theorem G0(m:UInt64)(j:Nat):(Di m j).toNat<=15:=by unfold Di;rw[UInt64.toNat_and];exact Nat.and_le_right
def tq(m:UInt64):Nat->List Nat
 |0=>[]
 |i+1=>tq m i++[(Di m (15-i)).toNat]
theorem wg(m:UInt64)(i:Nat):(tq m i).length=i:=by
 induction i with
 |zero=>rfl
 |succ i a=>simp[tq,a]
theorem Qu(m:UInt64)(i:Nat):∀x,x∈tq m i->x<=15:=by
 induction i with
 |zero=>intro x a;cases a
 |succ i b =>
  intro x a;rw[tq,o1] at a;rcases a with a|a
  .exact b x a
  .rw[n4.1 a];exact G0 _ _
def wh(m:UInt64):Nat->Nat
 |0=>0
 |i+1=>wh m i+(15-(Di m (15-i)).toNat)
theorem Az(m:UInt64)(i:Nat):wh m i<=15*i:=by
 induction i with
 |zero=>exact c7 _
 |succ i a=>simp only[wh];omega
def jM(m:UInt64):List Nat:=tq m 16++[wh m 16/16,wh m 16 % 16]
theorem wj(m:UInt64):(jM m).length=18:=by simp[jM,wg]
theorem Ja(m:UInt64):∀x,x∈jM m->x<=15:=by
 intro x a;have:=Az m 16;simp only[jM,o1,hZ,List.not_mem_nil,or_false] at a;rcases a with a|rfl|rfl
 .exact Qu m 16 x a
 .omega
 .omega
theorem Nu(m:UInt64):FPure prog 375 [.w m] (.p (.data 1 18 ((jM m).map pvN))):=by
 have a:=wj m;unfold jM at a⊢;apply ba f375 [0,2,3,4,5,6,8];intro c J d Y Z;simp only[go_sem];apply aX 3;refine ay Y d [0,2,3,4,5,6,8] 16 (fun i=>⟨33,[(0,.w m),(3,.sl 0 0 i 1),(4,.i (wh m i)),(5,.i (15-(i:Int)))],[(0,some ⟨3,mA pvN (tq m i)⟩)],1⟩) [] (fun i=>i) ?_ ?_
 .refine⟨rfl,?_,?_,rfl,rfl,trivial,fun i h=>h⟩
  .simp only[go_sem,wh];rfl
  .simp only[go_sem,tq];exact af1
 intro i x;rcases ea i 16 with h|h
 .have j:a'.wrap (15-(i:Int)-1)=15-((i+1:Nat):Int):=by rw[ab ω ω];omega
  have k:a'.wrap (4*(15-(i:Int)))=((4*(15-i):Nat):Int):=by rw[ab ω ω];omega
  have hs:=Fq m (4*(15-i)) ω;have ha:band .u64 ((fu m (4*(15-i))).toNat:Int) 15=((Di m (15-i)).toNat:Int):=j9 (fu m (4*(15-i))) 15;have o:=G0 m (15-i);have hll:=wg m i;have b:=Az m i;rw[show tq m (i+1)=tq m i++[(Di m (15-i)).toNat] from rfl,show wh m (i+1)=wh m i+(15-(Di m (15-i)).toNat) from rfl];generalize Di m (15-i)=g at *;generalize tq m i=l at *;generalize wh m i=s at *;have q:a'.wrap (g.toNat:Int)=(g.toNat:Int):=ab ω ω;have r:a'.wrap ((s:Int)+a'.wrap (15-(g.toNat:Int)))=((s+(15-g.toNat):Nat):Int):=by rw[ab (n:=15-(g.toNat:Int)) ω ω,ab ω ω];omega
  simp only[go_sem,J,(ω:(15-(i:Int)>=0)),k,hs,ha,q,r,j];exact ahb
 obtain rfl:i=16:=by omega
 have hll:=wg m 16;have b:=Az m 16;generalize wh m 16=s at *;generalize tq m 16=l at *;have t:a'.wrap (Int.tdiv (s:Int) 16)=((s/16:Nat):Int):=by rw[show Int.tdiv (s:Int) 16=((s/16:Nat):Int) from rfl,ab ω ω]
 have u:Int.tmod (s:Int) 16=((s % 16:Nat):Int):=rfl;simp only[go_sem,J,show¬((15:Int)-16>=0) from ε,t,u];have e:mA pvN l++[.p (pvN (s/16)),.p (pvN (s % 16))]=mA pvN (l++[s/16,s % 16]):=by simp[mA]
 rw[show mA pvN l++[AV.p (PV.v (Value.int a' ((s/16:Nat):Int))),AV.p (PV.v (Value.int a' ((s % 16:Nat):Int)))]=mA pvN (l++[s/16,s % 16]) from e,iB _ _ _ (by simpa using hll)];exact⟨hll,⟨ω,aG _⟩,aJ _⟩
theorem ZB(l:List Nat)(i:Nat)(h:i<l.length):(l.map pvN).drop i=pvN (l.getD i 0)::(l.map pvN).drop (i+1):=by
 have a:i<(l.map pvN).length:=χ;rw[hE a];exact agO
theorem Dj(b:UInt64)(a:Int)(m:UInt64):FPure prog 365 [.w b,.i a,.w m] (.p (.data 1 18 ((gh b a (fun c=>(jM m).getD c 0) 18).map wd))):=by
 have e:=Nu m;have r:=wj m;have j:=Ja m;generalize jM m=ds at *;generalize k:(fun c=>ds.getD c 0)=tt;apply ba f365 [0,1,2,6,7,8,9,13];intro c J s Y Z;simp only[go_sem];apply aa Z e;simp only[go_sem];apply aX 24;refine ay Y s [0,1,2,6,7,8,9,13] 18 (fun i=>⟨31,[(0,.w b),(1,.i a),(7,.p (.data 1 18 (ds.map pvN))),(8,.sl 0 0 i 1),(9,.i i)],[(0,some ⟨24,mA pvW (gh b a tt i)⟩)],1⟩) [] (fun i=>i) ?_ ?_
 .refine⟨rfl,?_,?_,rfl,rfl,trivial,fun i h=>h⟩
  .exact κ
  .simp only[go_sem,gh];exact af1
 intro i v;rcases ea i 18 with h|h
 .have t:=ac i
  have u:gh b a tt (i+1)=gh b a tt i++[rnM a i (xi b a i) (tt i)]:=rfl;have n:=ZB ds i ω;have o:ds.getD i 0<=15:=j _ (by rw[show ds.getD i 0=ds[i]'ω from by simp[cR,show i<ds.length by omega]];exact ix _);have q:tt i=ds.getD i 0:=by rw[<-k]
  have h1:=yH b a i;have h2:=Nt a i (ds.getD i 0) o (xi b a i);have d:=ji b a tt i;rw[u,q];generalize ds.getD i 0=g at *;generalize xi b a i=x at *;generalize rnM a i x g=z at *;generalize gh b a tt i=l at *;simp only[go_sem,J,(ω:((i:Int)<18)),n];refine⟨ω,?_⟩;apply aa Z h1;simp only[go_sem];apply aa Z h2;simp only[go_sem,J,t];refine⟨⟨d,ω,ω⟩,π,h,aA [2] rfl ?_ ?_ rfl rfl (cV rfl)⟩
  .exact κ
  .simp only[go_sem];exact(tQ _ _ _).symm ▸ l9 _ _ _ _ _
 obtain rfl:i=18:=by omega
 have d:=ji b a tt 18;generalize gh b a tt 18=l at *;simp only[go_sem];rw[iB _ _ _ d];exact⟨⟨ω,aG _⟩,aJ _⟩
def Jb(level:Int)(a b:UInt64):UInt64:=bA 3 0 (an [cq level,a,b] 3)
theorem Jc(d:Int)(a b:UInt64):FPure prog 374 [.i d,.w a,.w b] (.w (Jb d a b)):=by
 have hh:=fS 3 (an [cq d,a,b] 3) 24 (am _ 3) ε ε ε;rw[show bA (UInt64.ofNat (3:Int).toNat) 0 (an [cq d,a,b] 3)=Jb d a b from rfl] at hh;generalize Jb d a b=y at *;apply ba f374 [0,1,2,6];intro c J e Y Z;simp only[go_sem,J,ca];refine x_f Z (gO [cq d,a,b] 3 rfl ε) ?_;exact agZ
def g5(seed:UInt64):Nat->Int->UInt64
 |0,i=>Dh seed i
 |k+1,i=>Jb ((k+1:Nat):Int) (g5 seed k (a'.wrap (2*i))) (g5 seed k (a'.wrap (a'.wrap (2*i)+1)))
theorem G4(d:UInt64):∀(k:Nat),k<1000->∀i:Int,FPure prog 364 [.w d,.i k,.i i] (.w (g5 d k i)):=by
 intro k
 induction k with
 |zero =>
  intro _ i;have h:=Qt d i;rw[show g5 d 0 i=Dh d i from rfl];generalize Dh d i=y at *;apply ba f364 [0,1,2,6,8];intro c J j Y Z;simp only[go_sem];apply aa Z h;simp only[go_sem]
 |succ k e =>
  intro m i;have h1:=e ω (a'.wrap (2*i));have h2:=e ω (a'.wrap (a'.wrap (2*i)+1));have h3:=Jc ((k+1:Nat):Int) (g5 d k (a'.wrap (2*i))) (g5 d k (a'.wrap (a'.wrap (2*i)+1)));have g:a'.wrap (((k+1:Nat):Int)-1)=(k:Int):=by rw[ab ω ω];omega
  rw[show g5 d (k+1) i=Jb ((k+1:Nat):Int) (g5 d k (a'.wrap (2*i))) (g5 d k (a'.wrap (a'.wrap (2*i)+1))) from rfl];generalize g5 d k (a'.wrap (2*i))=a at *;generalize g5 d k (a'.wrap (a'.wrap (2*i)+1))=b at *;generalize Jb ((k+1:Nat):Int) a b=y at *;apply ba f364 [0,1,2,6,8];intro c J j Y Z;simp only[go_sem,(ω:¬(((k+1:Nat):Int)=0)),g];apply aa Z h1;simp only[go_sem,g];apply aa Z h2;exact ah5
theorem nV(h:Int):FPure prog 338 [.i h] (.b (decide (0<=h/\h<=4))):=by
 apply ba f338 [0,2];intro c J a Y Z;by_cases h1:0<=h
 .by_cases h2:h<=4
  .simp only[go_sem,h1,h2]
  .simp only[go_sem,h1,h2]
 .simp only[go_sem,h1,decide_false]
theorem pk(h:Int)(h1:0<=h)(h2:h<=4):FPure prog 338 [.i h] (.b true):=by
 have:=nV h
 rwa [qi ⟨h1,h2⟩] at this
theorem Jd(a:UInt64)(h:Nat)(e:h<=4):FPure prog 328 [.w a,.i h] (.tup [.agg [.i h,.w (g5 a h 0)],.i 0]):=by
 have b:=pk h ω ω;have d:=G4 a h ω 0;generalize g5 a h 0=y at *;refine ba f328 [0,1,4,5,8] ?_;intro c J g Y Z;refine δ b ?_;simp only[go_sem];refine aa Z d ?_;simp only[go_sem,J]
def yI(h:Int)(y:UInt64):List UInt8:=(UInt8.ofNat h.toNat)::dc y 8
theorem Qv(n:Int)(a:0<=n)(h:n<256):c'.wrap n=((UInt8.ofNat n.toNat).toNat:Int):=by
 rw[nw,ie ω,IntKind.wrap_u8];omega
theorem qx(h:Int)(y:UInt64)(b:0<=h)(d:h<=4):FPure prog 329 [.agg [.i h,.w y]] (.tup [blA (yI h y),.i 0]):=by
 have e:=pk h b d;have g:=Qv h b ω;apply ba f329 [0,1,2,3,7];intro c J b Y Z;refine δ e ?_;simp only[go_sem,J,g];refine x_f Z (bI y) ?_;simp only[go_sem,J,kn];have a:(dc y 8).length=8:=az _ _;rw[cD (by simp[a])];exact⟨π,⟨ω,aG _⟩,by simp[yI,a],by rw[aJ];rfl⟩
theorem Qw(h:Nat)(a:h<=4):iF .i64 1 (b'.wrap (h:Int))=((2^h:Nat):Int):=by
 have:h=0\/h=1\/h=2\/h=3\/h=4:=ω;rcases this with rfl|rfl|rfl|rfl|rfl<;>decide
def ot(seed:UInt64)(leaf:Int):Nat->List UInt64
 |0=>[]
 |k+1=>ot seed leaf k++[g5 seed k (kq .i64 (ishr .i64 leaf (k:Int)) 1)]
theorem r5(a:UInt64)(b:Int)(k:Nat):(ot a b k).length=k:=by
 induction k with
 |zero=>rfl
 |succ k c=>simp[ot,c]
abbrev aev(leaf:Int)(ch pa:List UInt64):AV := .agg [.i leaf,.p (.data 1 ch.length (ch.map wd)),.p (.data 1 pa.length (pa.map wd))]
theorem Nv(b:UInt64)(h a:Int)(m:UInt64)(g:¬(0<=h/\h<=4/\0<=a/\a<2^h.toNat)):FPure prog 330 [.w b,.i h,.i a,.w m] (.tup [aev 0 [] [],.i 9]):=by
 have hh:=nV h;apply ba f330 [0,1,2,3,8,9,10,11,25,35];intro c J j Y Z;by_cases h1:0<=h/\h<=4
 case neg =>
  rw[p4 h1] at hh;exact agZ
 rw[qi h1] at hh;by_cases h2:a<0
 .refine δ hh ?_;simp only[go_sem,J,h2]
 have hs:=Qw h.toNat ω;rw[(ω:((h.toNat:Nat):Int)=h)] at hs;have d:a>=((2^h.toNat:Nat):Int):=by
  have:¬a<2^h.toNat:=fun c=>g ⟨h1.1,h1.2,ω,c⟩
  have e:((2^h.toNat:Nat):Int)=2^h.toNat:=η;omega
 generalize 2^h.toNat=N at hs d;refine δ hh ?_;simp only[go_sem,J,h2,hs,d]
theorem Qx(b:UInt64)(h a:Nat)(m:UInt64)(k:h<=4)(v:a<2^h) :
 FPure prog 330 [.w b,.i h,.i a,.w m] (.tup [.agg [.i a,.p (.data 1 18 ((gh b a (fun c=>(jM m).getD c 0) 18).map wd)),.p (.data 1 h ((ot b a h).map wd))],.i 0]):=by
 have n:=pk (h:Int) ω ω;have hs:=Qw h k;have o:¬((a:Int)>=((2^h:Nat):Int)):=ω;have e:=Dj b a m;generalize gh b a (fun c=>(jM m).getD c 0) 18=ch at *;generalize x:2^h=N at *;refine ba f330 [0,1,2,3,8,9,10,11,25,35] ?_;intro c J q Y Z;refine δ n ?_;simp only[go_sem,J,hs,o,(ω:¬((a:Int)<0))];refine aa Z e ?_;refine θ ?_;refine aX 24 ?_;refine ay Y q [0,1,2,3,8,9,10,11,25,35] h (fun i=>⟨52,[(0,.w b),(1,.i h),(2,.i a),(8,.ptr 0 0),(10,.ptr 1 0),(11,.i i)],[(0,some ⟨397,[.i 0,eK,eK]⟩),(1,some ⟨397,[.i a,.p (.data 1 18 (ch.map wd)),.sl 2 0 i 1]⟩),(2,some ⟨24,mA pvW (ot b a i)⟩)],3⟩) [] (fun i=>i) ?_ ?_
 .refine⟨rfl,?_,?_,rfl,rfl,trivial,fun i h=>h⟩
  .exact κ
  .simp only[go_sem,ot];exact af1
 intro i y;rcases ea i h with g|r
 .have s:=ac i
  have j:b'.wrap (i:Int)=(i:Int):=ao ω ω;have t:ot b a (i+1)=ot b a i++[g5 b i (kq .i64 (ishr .i64 (a:Int) (i:Int)) 1)]:=rfl;have u:=G4 b i ω (kq .i64 (ishr .i64 (a:Int) (i:Int)) 1);have d:=r5 b a i;rw[t];generalize g5 b i (kq .i64 (ishr .i64 (a:Int) (i:Int)) 1)=z at *;generalize ot b a i=l at *;simp only[go_sem,J,j,(ω:((i:Int)<(h:Int)))];refine⟨ω,?_⟩;refine aa Z u ?_;simp only[go_sem,J,s];refine⟨⟨d,ω,ω⟩,π,g,aA [0,1,4] rfl ?_ ?_ rfl rfl (cV rfl)⟩
  .exact κ
  .simp only[go_sem];exact(tQ _ _ _).symm ▸ l9 _ _ _ _ _
 obtain rfl:i=h:=by omega
 have d:=r5 b a i;generalize ot b a i=l at *;simp only[go_sem,J,(ω:¬((i:Int)<(i:Int)))];rw[iB _ _ _ d];exact⟨⟨ω,aG _⟩,aJ _⟩
theorem Fs:FPure prog 331 [aev 0 [] []] (.tup [blA [],.i 4]):=by
 apply ba f331 [0,1,2,3,4,23,27];intro c J a Y Z;simp only[go_sem,J,show iF .i64 1 (b'.wrap 0)=1 from ε]
theorem Je(d h:Nat)(ch pa:List UInt64)(j:ch.length=18)(k:pa.length=h)(g:h<=4)(q:d<2^h) :
 ∃b,FPure prog 331 [.agg [.i d,.p (.data 1 18 (ch.map wd)),.p (.data 1 h (pa.map wd))]] (.tup [blA b,.i 0]):=by
 refine⟨(UInt8.ofNat d)::(UInt8.ofNat h)::(an ch 18++an pa h),?_⟩;have hs:=Qw h g;have r:(2:Nat)^h<=16:=by have:(2:Nat)^h<=2^4:=e' ε g;omega
 have m:=Qv (d:Int) ω ω;have n:=Qv (h:Int) ω ω;have o:¬((d:Int)>=((2^h:Nat):Int)):=ω;generalize 2^h=N at *;apply ba f331 [0,1,2,3,4,23,27];intro c J s Y Z;simp only[go_sem,J,hs,o,m,n,(ω:¬((h:Int)>4)),(ω:¬((d:Int)<0))];apply aa Z (gO ch 18 j ε);refine wi ?_;apply aa Z (gO pa h k ω);refine θ ?_;have t:=am ch 18;have u:=am pa h;generalize an ch 18=A at *;generalize an pa h=C at *;have e:∀a b:PV,(AV.p a::AV.p b::(f' AV.p (f' bt A)++f' AV.p (f' bt C)))=(a::b::(f' bt (A++C))).map AV.p:=fun a b=>by simp
 rw[e,cD ζ];exact⟨⟨ω,ω,ω⟩,⟨ω,aG _⟩,ω,aJ _⟩
theorem pl(s:List UInt8)(hs:s.length<2000):FPure prog 132 [sv s] (.w (bA 8 0 s)):=by
 apply ba f132 [0,2];intro c J a Y Z;simp only[go_sem,J];simp only[dl]
 first|refine df Y (ks:=[0,2]) (n:=2000) ?_ ?_ rfl (by rw[J];exact fS 8 s s.length rfl ω ε ε) (by simp only[go_sem,ax]) ?_|refine dg Y (ks:=[0,2]) (n:=2000) ?_ ?_ rfl (by rw[J];exact fS 8 s s.length rfl ω ε ε) (by simp only[go_sem,ax,ak,and_self]) ?_
 .simp only[go_sem];rw[cD η]
 .simp only[go_sem,c7]
 simp only[go_sem];rfl
def Nw(m h:UInt64):UInt64:=bA m 9 (an [h] 1)
theorem tb(m h:UInt64):FPure prog 335 [.w m,.w h] (.w (Nw m h)):=by
 apply ba f335 [0,1,4];intro c J a Y Z;refine θ ?_;refine x_f Z (bI h) ?_;simp only[go_sem];apply aa Z (mQ m 8 (an [h] 1) 8 (am _ 1) ε ε ε);simp only[go_sem];rfl
structure AA where
 set:Bool
 chk:UInt64
 rt:Int
 wr:Int
def AB(p:AA):List AV:=[.b p.set,.w p.chk,.i p.rt,.i p.wr]
attribute [go_sem] AB
@[simp] theorem aew(T:List Nat)(p:AA):ak T (AB p):=by simp[AB,ak,ax]
structure aex where
 p:AA
 e:Int
def Jf:AA:=⟨false,0,0,0⟩
def qy(p:AA):aex :=
 if p.set=false then⟨Jf,25⟩ else if p.rt<1 then⟨Jf,27⟩ else if p.wr>=3 then⟨Jf,28⟩ else⟨{p with rt:=a'.wrap (p.rt-1)},0⟩
theorem Jg(p:AA):FPure prog 336 [.agg (AB p)] (.tup [.agg (AB (qy p).p),.i (qy p).e]):=by
 apply ba f336 [0,1,2,3,4,9,14];intro c J a Y Z;obtain⟨R,hR⟩:∃R,qy p=R:=⟨_,rfl⟩;rw[hR] at Y Z;(try rw[hR]);unfold qy at hR;by_cases h1:p.set=false
 .rw[b9 h1] at hR;subst hR;simp only[go_sem,J,h1,Jf]
 rw[b0 h1] at hR;have h1:p.set=true:=by simpa using h1
 by_cases h2:p.rt<1
 .rw[b9 h2] at hR;subst hR;simp only[go_sem,J,h1,h2,Jf]
 rw[b0 h2] at hR;by_cases h3:p.wr>=3
 .rw[b9 h3] at hR;subst hR;simp only[go_sem,J,h1,h2,h3,Jf]
 exact aiw
def qz(p:AA)(ok:Bool):aex :=
 if ok=true then⟨{p with rt:=8,wr:=0},0⟩ else
 if p.wr<3 then⟨{p with wr:=a'.wrap (p.wr+1)},if p.rt<1 then 27 else if a'.wrap (p.wr+1)>=3 then 28 else 24⟩ else⟨{p with wr:=3},if p.rt<1 then 27 else 28⟩
theorem Jh(p:AA)(ok:Bool):FPure prog 337 [.agg (AB p),.b ok] (.tup [.agg (AB (qz p ok).p),.i (qz p ok).e]):=by
 apply ba f337 [0,1,2,4,5,6,12,18,23];intro c J a Y Z;obtain⟨R,hR⟩:∃R,qz p ok=R:=⟨_,rfl⟩;rw[hR] at Y Z;(try rw[hR]);unfold qz at hR;cases ok
 case true =>
  rw[b9 rfl] at hR;subst hR;simp only[go_sem,J]
 rw[b0 ε] at hR;by_cases h1:p.wr<3
 .rw[b9 h1] at hR;by_cases h2:p.rt<1
  .rw[b9 h2] at hR;subst hR;simp only[go_sem,J,h1,h2]
  rw[b0 h2] at hR;by_cases h3:a'.wrap (p.wr+1)>=3
  .rw[b9 h3] at hR;subst hR;simp only[go_sem,J,h1,h2,h3]
  .exact aiw
 .rw[b0 h1] at hR;by_cases h2:p.rt<1
  .rw[b9 h2] at hR;subst hR;simp only[go_sem,J,h1,h2]
  .rw[b0 h2] at hR;subst hR;simp only[go_sem,J,h1,h2,show(3:Int)>=3 from ε]
def Dk(t:Tok):List AV:=[.w t.sec,.b t.act,.w t.val,.i t.per,sv t.rp,.i t.sin]
attribute [go_sem] Dk
@[simp] theorem aey(T:List Nat)(t:Tok):ak T (Dk t):=by simp[Dk,ak,ax]
theorem Nx(t:Tok)(v:UInt64)(pm:Int)(rp:List UInt8)(now:Int)(h1:1<=pm)(a:pm<=7)(b:0<=now/\now<=1099511627776)(d:rp.length<=64) :
 FPure prog 285 [.agg (Dk t),.w v,.i pm,sv rp,.i now] (.tup [.agg (Dk ⟨t.sec,true,v,pm,rp,now⟩),.i 0]):=by
 apply ba f285 [0,1,2,3,4,5,10,11,25,29];intro c J e Y Z;simp only[go_sem,J,(ω:¬(pm<1)),(ω:¬(pm>7)),(ω:¬(now<0)),(ω:¬(now>1099511627776)),(ω:¬((rp.length:Int)>64))]
def Dl(v d:UInt64):UInt64:=bA v 13 (an [d] 1)
theorem qA(v d:UInt64):FPure prog 133 [.w v,.w d] (.w (Dl v d)):=by
 apply ba f133 [0,1,4];intro c J a Y Z;refine θ ?_;refine x_f Z (bI d) ?_;simp only[go_sem];apply aa Z (mQ v 12 (an [d] 1) 8 (am _ 1) ε ε ε);simp only[go_sem];rfl
def Ny(t:Tok)(pm:Int):Tok :=
 if pm<0\/pm>7 then t else
 if xn .i64 t.per pm=0 then⟨t.sec,false,0,0,[],0⟩ else{t with per:=xn .i64 t.per pm}
theorem ZC(t:Tok)(pm:Int):FPure prog 332 [.agg (Dk t),.i pm] (.agg (Dk (Ny t pm))):=by
 apply ba f332 [0,1,2,4,10,19];intro c J a Y Z;obtain⟨R,hR⟩:∃R,Ny t pm=R:=⟨_,rfl⟩;rw[hR] at Y Z;(try rw[hR]);unfold Ny at hR;by_cases h1:pm<0
 .rw[b9 (.inl h1)] at hR;subst hR;simp only[go_sem,J,h1]
 by_cases h2:pm>7
 .rw[b9 (.inr h2)] at hR;subst hR;simp only[go_sem,J,h1,h2]
 rw[b0 ω] at hR;by_cases h3:xn .i64 t.per pm=0
 .rw[b9 h3] at hR;subst hR;simp only[go_sem,J,h1,h2,h3]
  done
 .exact aiw
def Qy(t:Tok)(now pm:Int)(rp:List UInt8)(d a:UInt64):Int :=
 if t.act=false then 29 else if now<t.sin then 29 else
 if b'.wrap (b'.wrap now-b'.wrap t.sin)>100 then 29 else if pm<1 then 29 else if pm>7 then 29 else
 if¬band .i64 t.per pm=pm then 29 else if¬t.rp=[]/\¬t.rp=rp then 29 else if¬a=Dl t.val d then 29 else 0
theorem Ji(t:Tok)(now pm:Int)(rp:List UInt8)(d a:UInt64):FPure prog 325 [.agg (Dk t),.i now,.i pm,sv rp,.w d,.w a] (.i (Qy t now pm rp d a)):=by
 have ha:=qA t.val d;apply ba f325 [0,1,2,3,4,5,6,12,13,73];intro c J q Y Z;obtain⟨R,hR⟩:∃R,Qy t now pm rp d a=R:=⟨_,rfl⟩;rw[hR] at Y Z;(try rw[hR]);unfold Qy at hR;generalize Dl t.val d=y at *;by_cases g:now<t.sin
 .have hR:R=29:=by rw[<-hR];split<;>first|rfl|(rw[b9 g])
  subst hR;cases b:t.act
  .simp only[go_sem,J,b,(ω:¬(now>=t.sin))]
  .simp only[go_sem,J,b,g,(ω:¬(now>=t.sin))]
 have e:now>=t.sin:=ω;cases b:t.act
 .rw[b9 b] at hR;subst hR;by_cases j:b'.wrap (b'.wrap now-b'.wrap t.sin)>100
  .simp only[go_sem,J,b,e,j]
  .simp only[go_sem,J,b,e,j]
 rw[b0 (by rw[b];decide),b0 g] at hR;by_cases j:b'.wrap (b'.wrap now-b'.wrap t.sin)>100
 .rw[b9 j] at hR;subst hR;simp only[go_sem,J,b,g,e,j]
 rw[b0 j] at hR;by_cases k:pm<1
 .rw[b9 k] at hR;subst hR;simp only[go_sem,J,b,g,e,j,k]
 rw[b0 k] at hR;by_cases m:pm>7
 .rw[b9 m] at hR;subst hR;simp only[go_sem,J,b,g,e,j,k,m]
 rw[b0 m] at hR;by_cases n:band .i64 t.per pm=pm
 case neg =>
  rw[b9 n] at hR;subst hR;simp only[go_sem,J,b,g,e,j,k,m,n]
 rw[b0 (fun c=>c n)] at hR;by_cases o:t.rp=[]
 .rw[b0 (fun c=>c.1 o)] at hR;simp only[go_sem,J,b,g,e,j,k,m,n,o];exact ags
 by_cases p:t.rp=rp
 .rw[b0 (fun c=>c.2 p)] at hR;simp only[go_sem,J,b,g,e,j,k,m,n,o,cK,sy p];exact ags
 .rw[b9 ⟨o,p⟩] at hR;subst hR;simp only[go_sem,J,b,g,e,j,k,m,n,o,cK,eq_false p]
def tr(d:aU):AA :=
 if(vgetM 3 d.v.prs).length=0 then⟨false,0,0,d.wr⟩ else
 ⟨true,aB (vgetM 3 d.v.prs) 8,if(vgetM 4 d.v.prs).length=1 then((vgetM 4 d.v.prs).getD 0 0).toNat else 0,d.wr⟩
theorem ZD(d:aU)(hv:VLen d.v.prs)(m:(vgetM 3 d.v.prs).length=0\/8<=(vgetM 3 d.v.prs).length):FPure prog 258 [bg d] (.agg (AB (tr d))):=by
 have g3:=o8 d.v d.v.j.bs.length 3 hv.1 (fun x e=>by have:=hv.2 x e;omega);have g4:=o8 d.v d.v.j.bs.length 4 hv.1 (fun x e=>by have:=hv.2 x e;omega);have g:=hv.get 3;refine ba f258 [0,1,2,3,4,5,11,25] ?_;intro c J n Y Z;obtain⟨R,a⟩:∃R,tr d=R:=⟨_,rfl⟩;rw[a] at Y Z;(try rw[a]);unfold tr at a;generalize vgetM 3 d.v.prs=b3 at *;generalize vgetM 4 d.v.prs=b4 at *;by_cases h:b3.length=0
 .rw[b9 h] at a;subst a;refine δ g3 ?_;simp only[go_sem,J,h]
  done
 rw[b0 h] at a;have i:=nH b3 b3.length rfl ω g;generalize aB b3 8=y at *;by_cases b:b4.length=1
 .rw[b9 b] at a;subst a;refine δ g3 ?_;simp only[go_sem,J,(ω:¬((b3.length:Int)=0))];refine aa Z i ?_;refine θ ?_;refine⟨π,?_⟩;refine aa Z g4 ?_;have k:gE (PV.v (.int .u8 0)) (b4.map bt)=PV.v (.int .u8 (b4.getD 0 0).toNat):=by
   cases b4 with
   |nil=>simp at b
   |cons z t=>rfl
  simp only[go_sem,J,b,k,bO]
  done
 .rw[b0 b] at a;subst a;refine δ g3 ?_;simp only[go_sem,J,(ω:¬((b3.length:Int)=0))];refine aa Z i ?_;refine θ ?_;refine⟨π,?_⟩;refine aa Z g4 ?_;simp only[go_sem,J,(ω:¬((b4.length:Int)=1))]
  done
def md(D:Nat->CR):Nat->List Cr
 |0=>[]
 |k+1=>md D k++(if(D k).e=0 then[(D k).x] else[])
def jS(l:List Cr):List PV:=l.flatMap crP
def crA(l:List Cr):List AV:=(jS l).map .p
theorem Nz(l:List Cr):(jS l).length=l.length*9:=by
 induction l with
 |nil=>rfl
 |cons p l a=>simp only[jS,s6,c9,ew] at a⊢;rw[a];simp[crP];omega
theorem qC(l:List Cr):(crA l).length=l.length*9:=by simp[crA,Nz]
theorem wk(h:bv)(S:List Nat)(σ:Nat->Nat)(l:List Cr):aj h S σ (crA l) (crA l)↔True:=⟨fun _=>trivial,fun _=>aL h S σ _⟩
theorem ZE(τ:Nat->Nat)(l:List Cr):eu τ (crA l)=crA l:=cT τ _
@[simp] theorem aeU(T:List Nat)(l:List Cr):ak T (crA l):=aM T _
theorem G5(l:List Cr):jN (crA l)↔True:=⟨fun _=>trivial,fun _=>aG _⟩
theorem AC(l:List Cr):jO (crA l)=jS l:=aJ _
theorem qD(l:List Cr)(x:Cr):crA l++crC x=crA (l++[x]):=by simp[crA,jS,crP,crC]
attribute [go_sem] qC wk ZE G5 AC
theorem tR(l:List Cr)(i:Nat)(h:i<l.length):(jS l).drop (i*9)=crP (l.getD i cr0)++jS (l.drop (i+1)):=by
 induction l generalizing i with
 |nil=>simp at h
 |cons p l a =>
  cases i with
  |zero=>simp[jS]
  |succ i =>
   have:=a i χ;have e:(jS (p::l)).drop ((i+1)*9)=(jS l).drop (i*9):=by
    rw[show jS (p::l)=crP p++jS l from by simp[jS],show(i+1)*9=(crP p).length+i*9 from by simp[crP];omega,List.drop_length_add_append]
   rw[e,this];simp
theorem m9(D:Nat->CR)(k:Nat):(md D k).length<=k:=by
 induction k with
 |zero=>exact c7 _
 |succ k a =>
  rw[md,c9];split
  .simp;omega
  .simp;omega
theorem AD{d:aU}{D:Nat->CR}(h:Cn d D)(k:Nat)(e:k<=8):∀x,x∈md D k->CrOk x/\x.rs=true:=by
 induction k with
 |zero=>intro x a;cases a
 |succ k b =>
  intro x a;rw[md,o1] at a;rcases a with a|a
  .exact b ω x a
  .split at a
   .rename_i c;rw[n4.1 a];exact h.ok k ω c
   .cases a
theorem qE(d:aU)(D:Nat->CR)(h:Cn d D):FPure prog 12 [bg d] (.p (.data 9 (md D 8).length (jS (md D 8)))):=by
 apply ba f12 [0,1,2,3,4,5,6,8,17];intro c J a Y Z;simp only[go_sem];apply aX 46;refine ay Y a [0,1,2,3,4,5,6,8,17] 8 (fun i=>⟨23,[(1,.ptr 0 0),(3,.sl 1 0 (md D i).length 9),(4,.i i)],[(0,some ⟨41,dvC (bp d)⟩),(1,some ⟨46,crA (md D i)⟩)],2⟩) [] (fun i=>i) ⟨rfl,?_,?_,rfl,rfl,trivial,fun i h=>h⟩ ?_
 .simp only[go_sem];rfl
 .simp only[go_sem,md];exact af1
 intro i j;rcases ea i 8 with h8|h8
 .have hw:=ac i
  have hl:=tK d D i ω h.vl (h.r i h8);have hs:md D (i+1)=md D i++(if(D i).e=0 then[(D i).x] else[]):=rfl;have g:=m9 D i;rw[hs];generalize md D i=l at *;generalize D i=L at *;by_cases he:L.e=0
  .rw[b9 he];simp only[go_sem,J,(ω:((i:Int)<8))];apply aa Z hl;simp only[go_sem,J,he,decide_true,hw];refine⟨⟨ω,ω⟩,h8,aA [0,4] rfl ?_ ?_ rfl rfl (cV rfl)⟩
   .exact κ
   .simp only[go_sem];rw[show crA l++[sv L.x.rp,sv L.x.us,sv L.x.nm,AV.w L.x.sd,AV.i L.x.hg,AV.b L.x.rs,AV.i L.x.pt,AV.b L.x.sh,AV.b L.x.bk]=crA (l++[L.x]) from qD l L.x];exact(wk _ _ _ _).2 trivial
  .rw[b0 he];simp only[go_sem,J,(ω:((i:Int)<8))];exact agK
 obtain rfl:i=8:=by omega
 generalize md D 8=l at *;simp only[go_sem];rw[cD (by rw[qC];exact c7 _)];exact ahX
def Dm(rp id:List UInt8):List Cr->Option Cr
 |[]=>none
 |x::l=>if x.rp=rp/\idR x=id then some x else Dm rp id l
theorem Jj(rp id:List UInt8)(l:List Cr)(i:Nat)(h:i<l.length):Dm rp id (l.drop i)=if(l.getD i cr0).rp=rp/\idR (l.getD i cr0)=id then some (l.getD i cr0) else Dm rp id (l.drop (i+1)):=by
 rw[hE h,Dm];exact agO
theorem yJ{rp id:List UInt8}{x:Cr}:∀{l:List Cr},Dm rp id l=some x->x∈l/\x.rp=rp
 |[],h=>by cases h
 |y::l,h=>by
  rw[Dm] at h;split at h
  .rename_i a;cases h;exact⟨List.mem_cons_self ..,a.1⟩
  .have:=yJ h;exact⟨nk _ this.1,this.2⟩
theorem G6(d:aU)(D:Nat->CR)(h:Cn d D)(F:(vgetM 1 d.v.prs).length<=8)(rp id:List UInt8)(n:Nat)(G:id.length=n)(t:n<100000)(u:rp.length<1000):∃x e,(e=0->CrOk x/\x.rp=rp) /\
 FPure prog 264 [bg d,sv rp,.p (.data 1 n (id.map bt))] (.tup [.agg (crC x),.i e]):=by
 have H:=qE d D h;have m:=AD h 8 (c7 _);have I:=m9 D 8;have K:=ja d h.vl F;generalize md D 8=l at *;generalize gp (vgetM 1 d.v.prs)=mk at *;have⟨w,r,B,L⟩:=IQ mk rp id n G t u;obtain⟨V,C⟩:∃V,Dm rp id l=V:=⟨_,rfl⟩
 have j:∀(y:Cr) (e:Int),(∀x,V=some x->y=x/\e=0)->(V=none->(r=0->y=w/\e=0)/\(¬r=0->y=cr0/\e=11)) ->
  FPure prog 264 [bg d,sv rp,.p (.data 1 n (id.map bt))] (.tup [.agg (crC y),.i e]):=by
  intro y e k3 k4;refine ba f264 [0,1,2,3,6,7,8,9,10,11,17,37,51] ?_;intro c J M Y Z;refine δ H ?_;simp only[go_sem];refine bl Y M [0,1,2,3,6,7,8,9,10,11,17,37,51] (α:={i:Nat // i<=l.length/\Dm rp id (l.drop i)=V}) (fun i=>⟨54,[(1,sv rp),(2,.p (.data 1 n (id.map bt))),(3,.ptr 0 0),(6,.ptr 1 0),(8,.p (.data 9 l.length (jS l))),(9,.i i.1)],[(0,some ⟨41,dvC (bp d)⟩),(1,some ⟨46,crC cr0⟩)],2⟩) (fun i=>l.length-i.1) ⟨0,gi _,C⟩ [] (fun i=>i) ⟨rfl,?_,?_,rfl,rfl,trivial,fun i h=>h⟩ ?_
  .exact κ
  .simp only[go_sem];exact afS
  rintro⟨i,N,hb⟩;dsimp only at N hb⊢;rcases ea i l.length with k|k
  .have E:=ac i
   rw[Jj rp id l i k] at hb;have a:=tR l i k;have⟨z,A⟩:=m (l.getD i cr0) (by rw[show l.getD i cr0=l[i]'k from by simp[cR,k]];exact ix _);have o:=nF _ z A;generalize l.getD i cr0=c0 at *;generalize idR c0=ir at *;by_cases q:c0.rp=rp
   .by_cases s:ir=id
    .rw[b9 ⟨q,s⟩] at hb;obtain⟨rfl,rfl⟩:=k3 c0 hb.symm;simp only[go_sem,J,a,crP,cK,sy q,(ω:((i:Int)<(l.length:Int)))];refine⟨ω,ω,?_⟩;refine aa Z o ?_;simp only[go_sem,J,a,crP,cK,bS,Abs.strOf,bL,sy s,(ω:((i:Int)<(l.length:Int)))];exact⟨π,ω⟩
    .rw[b0 (fun c=>s c.2)] at hb;simp only[go_sem,J,a,crP,cK,sy q,(ω:((i:Int)<(l.length:Int)))];refine⟨ω,ω,?_⟩;refine aa Z o ?_;simp only[go_sem,J,cK,bS,Abs.strOf,bL,E,eq_false s];exact agx
   .rw[b0 (fun c=>q c.1)] at hb;simp only[go_sem,J,a,crP,E,cK,eq_false q,(ω:((i:Int)<(l.length:Int)))];refine⟨ω,π,⟨i+1,ω,hb⟩,by dsimp only;omega,?_⟩;refine aA [0,1] rfl ?_ ?_ rfl rfl (cV rfl)
    .exact κ
    .exact κ
  rw[l2 k] at hb;have⟨O,P⟩:=k4 hb.symm;simp only[go_sem,J,(ω:¬((i:Int)<(l.length:Int)))];refine aa Z K ?_;simp only[go_sem];refine aa Z L ?_;by_cases b:r=0
  .obtain⟨rfl,rfl⟩:=O b;simp only[go_sem,J,b]
   done
  .obtain⟨rfl,rfl⟩:=P b;simp only[go_sem,J,b];exact afS
 cases V with
 |some x =>
  have:=yJ C;exact⟨x,0,fun _=>⟨(m x this.1).1,this.2⟩,j x 0 (fun y g=>by injection g with g;exact⟨g,rfl⟩) (fun g=>nomatch g)⟩
 |none =>
  by_cases b:r=0
  .exact⟨w,0,fun _=>⟨(B b).1,(B b).2.2⟩,j w 0 (fun y g=>nomatch g) (fun _=>⟨fun _=>⟨rfl,rfl⟩,fun c=>s5 b c⟩)⟩
  .exact⟨cr0,11,fun c=>s5 c ε,j cr0 11 (fun y g=>nomatch g) (fun _=>⟨fun c=>s5 c b,fun _=>⟨rfl,rfl⟩⟩)⟩
theorem ou(d:aU)(hv:VLen d.v.prs)(h:∀i:Nat,i<8->Lz (vgetM (64+(i:Int)) d.v.prs)):∃D,Cn d D:=by
 have g:∀i:Nat,∃L:CR,i<8->(FPure prog 72 [.p (.data 1 (vgetM (64+(i:Int)) d.v.prs).length ((vgetM (64+(i:Int)) d.v.prs).map bt))] (crAV L)) /\
  (FPure prog 92 [.p (.data 1 (vgetM (64+(i:Int)) d.v.prs).length ((vgetM (64+(i:Int)) d.v.prs).map bt))] (crAV L))/\(L.e=0->CrOk L.x/\L.x.rs=true):=by
  intro i;by_cases a:i<8
  case neg=>exact⟨⟨cr0,2⟩,fun c=>s5 c a⟩
  rcases h i a with b|⟨x,j,m,b⟩
  .refine⟨⟨cr0,2⟩,fun _=>⟨?_,?_,nofun⟩⟩
   .rw[b];exact Gh
   .rw[b];exact LI
  .refine⟨⟨x,0⟩,fun _=>⟨?_,?_,fun _=>⟨j,m⟩⟩⟩
   .rw[b];exact Uu x j
   .rw[b];exact PR x j
 have⟨D,k⟩:=Classical.axiomOfChoice g;exact⟨D,hv,fun i a=>(k i a).1,fun i a=>(k i a).2.1,fun i a=>(k i a).2.2⟩
def Ans(d:aU)(B:Int)(T:DR):Prop:=(∃e,¬e=0/\¬e=16/\T=⟨d,0,e⟩)\/∃l:ai,(∀p,p∈l->p7 p)/\l.length<300/\T=dF d l B
def Way(f:aO)(d:aU)(G:Int)(T:DR):Prop:=(T.e=0/\DOn f T.d G)\/(T.e=16/\DOff f T.d G)\/(T.e≠0/\T.e≠16/\T.d=d)
theorem Ans.way{f:aO}{d:aU}{B G:Int}{T:DR}(h:Ans d B T)(a:DOn f d G)(b:G<1000000)(c:i64 B):i64 T.left/\Way f d (G+1) T:=by
 rcases h with⟨e,h1,h2,rfl⟩|⟨l,h1,h2,rfl⟩
 .exact⟨z64,.inr (.inr ⟨h1,h2,rfl⟩)⟩
 .exact Io a b l B c h1 h2
theorem Way.inv{f:aO}{d:aU}{G:Int}{T:DR}(h:Way f d (G+1) T)(a:DOn f d G):DInv f T.d (G+1):=by
 rcases h with⟨-,h⟩|⟨-,h⟩|⟨-,-,h⟩
 .exact .inl h
 .exact .inr h
 .rw[h];exact .inl (a.mono ω)
theorem wl(n:Nat)(a:n<48)(x:Ls):p7 (16+(n:Int),dy x):=by
 have:=pU x;exact⟨by dsimp only;omega,fun h=>by dsimp only at h;omega,by dsimp only;omega,fun i _ h=>by dsimp only at h;omega,fun h=>by dsimp only at h;omega⟩
theorem nW(k:Int)(a:k≠1)(b:k≠2):p7 (k,[]):=⟨η,fun h=>s5 h a,b,fun _ _ _ => .inl rfl,fun _ => .inl rfl⟩
theorem G7(k:Int)(c:8<k)(x:Cr)(a:CrOk x)(b:x.rs=true):p7 (k,fj x):=by
 have:=mO x a;exact⟨by dsimp only;omega,fun h=>by dsimp only at h;omega,by dsimp only;omega,fun i _ _ => .inr ⟨x,a,b,rfl⟩,fun h=>by dsimp only at h;omega⟩
theorem Qz(g:G3)(x:Cr)(e:CrOk x)(t:UInt64)(b dr:Int)(hs:x.rs=true->0<=b/\b<8)(n:Nat)(h:n<48):(∀p,p∈xc g x t b dr n->p7 p)/\(xc g x t b dr n).length<300:=by
 have h1:=wl n h (leF g t);unfold xc;by_cases a:x.rs=true
 .have h2:=G7 (64+b) (by have:=hs a;omega) x e a;by_cases c:0<dr/\dr≠n
  .simp only[a,c,if_true,and_self,ne_eq,not_false_eq_true];exact⟨fun p d=>by simp at d;rcases d with rfl|rfl|rfl;exact h2;exact h1;exact nW _ ω ω,η⟩
  .simp only[a,c,if_true,if_false];exact⟨fun p d=>by simp at d;rcases d with rfl|rfl;exact h2;exact h1,η⟩
 .have a:x.rs=false:=by simpa using a
  by_cases c:0<dr/\dr≠n
  .simp[a,c];exact⟨h1,nW _ ω ω⟩
  .simp[a,c];exact h1
theorem G8(g:G3)(d:aU)(D:Nat->CR)(x:Cr)(b:CrOk x)(t:UInt64)(B:Int):Ans d B (vz g d D x t B):=by
 unfold vz;by_cases h1:dU (bq d.v.prs) t≠0
 .rw[b9 h1];exact .inl ⟨10,ε,ε,rfl⟩
 rw[b0 h1];by_cases h2:x.rs=true/\(ig d.v.prs D x).1<0
 .rw[b9 h2];exact .inl ⟨12,ε,ε,rfl⟩
 rw[b0 h2];dsimp only;generalize e:(if x.rs=true then(ig d.v.prs D x).2 else 0)=dr;by_cases a:jD d.v.prs dr=0
 .rw[b9 a];exact .inl ⟨12,ε,ε,rfl⟩
 rw[b0 a];have m:jD d.v.prs dr<=16:=tL _ 1 15;have h:=ya d.v.prs D x;have⟨i,j⟩:=Qz g x b t (ig d.v.prs D x).1 dr (fun k=>⟨Decidable.byContradiction fun c=>h2 ⟨k,ω⟩,h.1⟩) (jD d.v.prs dr) ω;exact .inr ⟨_,i,j,rfl⟩
def tu(l:ai):List PV:=l.flatMap fun p=>[.v (.int .i64 p.1),if p.2=[] then .v (.slice none 0 0) else byP p.2]
theorem Dn(l:ai):(tu l).length=(gB l).length:=by
 induction l with
 |nil=>rfl
 |cons p l a=>simp only[tu,gB,s6,c9] at a⊢;rw[a];rfl
theorem G9:∀(l:ai) (j:Nat) (x:PV),(gB l)[j]?=some x->(tu l)[j]?=some x\/(∃s,x = .data s 0 []/\(tu l)[j]?=some (.v (.slice none 0 0)))
 |[],j,x,h=>by simp[gB] at h
 |p::l,0,x,h => .inl h
 |p::l,1,x,h=>by
  by_cases a:p.2=[]
  .have h:some (byP p.2)=some x:=h;injection h with h;rw[a] at h;exact .inr ⟨1,h.symm,by show some (if p.2=[] then PV.v (.slice none 0 0) else byP p.2)=_;rw[b9 a]⟩
  .refine .inl ?_;show some (if p.2=[] then PV.v (.slice none 0 0) else byP p.2)=_;rw[b0 a];exact h
 |p::l,j+2,x,h=>G9 l j x h
theorem pn{P:Program}{f:FuncId}{d:aU}{l:ai}{B:Int}{v:AV}(h:FPure P f [bg d,.p (PL l),.i B] v)(cs:List PV)(b:cs=tu l)(n:Nat)(c:n=l.length) :
 FPure P f [bg d,.p (.data 2 n cs),.i B] v:=by
 subst b c;refine lI h rfl fun ρ F w g hg j x a=>?_
 match j,a with
 |0,a=>exact hg 0 x a
 |1,a =>
  have h1:=hg 1 _ rfl;cases a;cases h1 with
  |p _ _ h1=>exact .p _ _ (yb (cs':=tu l) (Dn l) (G9 l) h1)
 |2,a=>exact hg 2 x a
 |j+3,a=>simp at a
theorem nX(d:aU)(l:ai)(B:Int)(c:d.v.j.bs.length<1000000000)(hv:VLen d.v.prs)(b:∀x,x∈l->p7 x)(a:l.length<300)(e:i64 B) :
 Ans d B (dF d l B)/\FPure prog 36 [bg d,.p (PL l),.i B] (th (dF d l B)) :=
 ⟨.inr ⟨l,b,a,rfl⟩,qa d l B c hv.1 (fun x g=>(b x g).len) a e⟩
def Ft(D:Nat->CR)(id:List UInt8):Nat->Nat->Option Nat
 |_,0=>none
 |i,k+1=>if(D i).e=0/\idR (D i).x=id then some i else Ft D id (i+1) k
theorem yK{D:Nat->CR}{id:List UInt8}{m:Nat}:∀{k i:Nat},Ft D id i k=some m->m<i+k/\(D m).e=0/\idR (D m).x=id
 |0,i,h=>by cases h
 |k+1,i,h=>by
  rw[Ft] at h;split at h
  .rename_i a;injection h with h;subst h;exact⟨ω,a⟩
  .have:=yK h;exact⟨ω,this.2⟩
theorem j7(d:aU)(D:Nat->CR)(h:Cn d D)(id:List UInt8)(n:Nat)(C:id.length=n):∃(k:Nat) (x:Cr) (b:Bool),k<8/\(b=true->CrOk x/\x.rs=true/\idR x=id)/\Ft D id 0 8=cond b (some k) none /\
 FPure prog 276 [bg d,.p (.data 1 n (id.map bt))] (.tup [.i k,.agg (crC x),.b b]):=by
 obtain⟨V,w⟩:∃V,Ft D id 0 8=V:=⟨_,rfl⟩;have j:∀(k:Nat) (y:Cr) (b:Bool),(∀i,V=some i->k=i/\y=(D i).x/\b=true)->(V=none->k=0/\y=cr0/\b=false) ->
  FPure prog 276 [bg d,.p (.data 1 n (id.map bt))] (.tup [.i k,.agg (crC y),.b b]):=by
  intro k y b k3 k4;apply ba f276 [0,1,2,4,5,6,7,8,9,11,28];intro c J z Y Z;refine θ ?_;refine bl Y z [0,1,2,4,5,6,7,8,9,11,28] (α:={i:Nat // i<=8/\Ft D id i (8-i)=V}) (fun i=>⟨32,[(1,.p (.data 1 n (id.map bt))),(2,.ptr 0 0),(5,.ptr 1 0),(7,.i i.1)],[(0,some ⟨41,dvC (bp d)⟩),(1,some ⟨46,crC cr0⟩)],2⟩) (fun i=>8-i.1) ⟨0,gi _,w⟩ [] (fun i=>i) ⟨rfl,?_,?_,rfl,rfl,trivial,fun i h=>h⟩ ?_
  .exact κ
  .simp only[go_sem];exact afS
  rintro⟨i,A,hb⟩;dsimp only at A hb⊢;rcases ea i 8 with s|s
  .have o:=ac i
   have hs:=tK d D i ω h.vl (h.r i s);rw[(ω:8-i=(8-(i+1))+1),Ft] at hb;have t:=h.ok i s;by_cases g:(D i).e=0
   case neg =>
    rw[b0 (fun c=>g c.1)] at hb;generalize D i=L at *;simp only[go_sem,J,(ω:((i:Int)<8))];apply aa Z hs;simp only[go_sem,J,g,decide_false,o];exact agx
   have⟨u,v⟩:=t g;have m:=nF _ u v;by_cases q:idR (D i).x=id
   .rw[b9 ⟨g,q⟩] at hb;obtain⟨rfl,rfl,rfl⟩:=k3 i hb.symm;generalize idR (D k).x=ir at *;generalize D k=L at *;simp only[go_sem,J,(ω:((k:Int)<8))];apply aa Z hs;simp only[go_sem,J,g,decide_true];apply aa Z m;simp only[go_sem,J,cK,bS,Abs.strOf,bL,sy q];exact⟨π,π⟩
   .rw[b0 (fun c=>q c.2)] at hb;generalize idR (D i).x=ir at *;generalize D i=L at *;simp only[go_sem,J,(ω:((i:Int)<8))];apply aa Z hs;simp only[go_sem,J,g,decide_true];apply aa Z m;simp only[go_sem,J,cK,bS,Abs.strOf,bL,o,eq_false q];exact agx
  obtain rfl:i=8:=by omega
  rw[show 8-8=0 from rfl,Ft] at hb;obtain⟨rfl,rfl,rfl⟩:=k4 hb.symm;refine θ ?_;exact afS
 cases V with
 |some x =>
  have⟨h1,h2,B⟩:=yK w;have:=h.ok x ω h2;exact⟨x,_,true,ω,fun _=>⟨this.1,this.2,B⟩,w,j x _ true (fun y a=>by injection a with a;subst a;exact⟨rfl,rfl,rfl⟩) (fun a=>nomatch a)⟩
 |none=>exact⟨0,cr0,false,ε,fun c=>(nomatch c),w,j 0 cr0 false (fun y a=>nomatch a) (fun _=>⟨rfl,rfl,rfl⟩)⟩
section
attribute[local go_sem]tH B7
theorem ZF(h:bv)(S:List Nat)(σ:Nat->Nat)(l:List Ls):aj h S σ (lsA l) (lsA l)↔True:=⟨fun _=>trivial,fun _=>B8 h S σ l⟩
theorem ZG(τ:Nat->Nat)(l:List Ls):eu τ (lsA l)=lsA l:=cT τ _
theorem QA(T:List Nat)(l:List Ls):ak T (lsA l)↔True:=⟨fun _=>trivial,fun _=>aM T _⟩
theorem aez(l:List Ls):jN (lsA l)↔True:=⟨fun _=>trivial,fun _=>aG _⟩
theorem ZH(l:List Ls):jO (lsA l)=B6 l:=aJ _
end
section
attribute[local go_sem]tH B7 ZF ZG QA aez ZH
def tv(s:ai):Nat->List Ls
 |0=>[]
 |k+1=>tv s k++(if(bc s k).e=0 then[(bc s k).x] else[])
theorem Do(s:ai)(k:Nat):(tv s k).length<=k:=by
 induction k with
 |zero=>exact c7 _
 |succ k a =>
  rw[tv,c9];split
  .simp;omega
  .simp;omega
theorem Jk(d:aU)(hv:VLen d.v.prs):∃cs n,n<=16/\FPure prog 259 [bg d] (.p (.data 4 n cs)):=by
 refine⟨B6 (tv d.v.prs 16),(tv d.v.prs 16).length,Do _ _,?_⟩;apply ba f259 [0,1,2,3,4,5,6,8,17];intro c J a Y Z;simp only[go_sem];apply aX 73;refine ay Y a [0,1,2,3,4,5,6,8,17] 16 (fun i=>⟨23,[(1,.ptr 0 0),(3,.sl 1 0 (tv d.v.prs i).length 4),(4,.i i)],[(0,some ⟨41,dvC (bp d)⟩),(1,some ⟨73,lsA (tv d.v.prs i)⟩)],2⟩) [] (fun i=>i) ⟨rfl,?_,?_,rfl,rfl,trivial,fun i h=>h⟩ ?_
 .simp only[go_sem];rfl
 .simp only[go_sem,tv];exact af1
 intro i g;rcases ea i 16 with h8|h8
 .have hw:=ac i
  have hl:=gM d i ω hv;have hs:tv d.v.prs (i+1)=tv d.v.prs i++(if(bc d.v.prs i).e=0 then[(bc d.v.prs i).x] else[]):=rfl;have b:=Do d.v.prs i;rw[hs];generalize tv d.v.prs i=l at *;generalize bc d.v.prs i=L at *;by_cases he:L.e=0
  .rw[b9 he];simp only[go_sem,J,(ω:((i:Int)<16))];apply aa Z hl;simp only[go_sem,J,he,decide_true,hw];refine⟨⟨ω,ω⟩,h8,aA [0,4] rfl ?_ ?_ rfl rfl (cV rfl)⟩
   .exact κ
   .exact κ
  .rw[b0 he];simp only[go_sem,J,(ω:((i:Int)<16))];exact agK
 obtain rfl:i=16:=by omega
 generalize tv d.v.prs 16=l at *;simp only[go_sem];rw[cD (by rw[tH];exact c7 _)];exact ahX
theorem yL{s:ai}{i:Nat}(h:(bc s i).e=0):gX (bc s i).x=true:=by
 unfold bc jx at *;by_cases a:(vgetM (16+(i:Int)) s).length=11/\gX (EA (vgetM (16+(i:Int)) s))=true
 .rw[b9 a];exact a.2
 .rw[b0 a] at h;cases h
def rmM(d:aU)(D:Nat->CR)(id:List UInt8)(B:Int):DR:=if d.on=false then⟨d,0,17⟩ else if dU (bq d.v.prs) (bA 10 0 id)=0 then⟨d,0,11⟩ else dF d ((16+(dU (bq d.v.prs) (bA 10 0 id):Int),[])::match Ft D id 0 8 with|none=>[]|some k=>[(64+(k:Int),[])]) B
def ajM:List Nat:=[0,1,2,3,6,7,8,9,10,11,12,14,17,26,39]
attribute[go_sem]ajM
theorem Jl(d:aU)(D:Nat->CR)(h:Cn d D)(id:List UInt8)(n:Nat)(s:id.length=n)(m:n<100000)(t:d.v.j.bs.length<1000000000)(B:Int)(u:i64 B):∃T,rmM d D id B=T/\Ans d B T /\
 FPure prog 287 [bg d,.p (.data 1 n (id.map bt)),.i B] (th T):=by
 unfold rmM;cases a:d.on with
 |false =>
  refine⟨⟨d,0,17⟩,rfl,.inl ⟨17,ε,ε,rfl⟩,?_⟩;apply ba f287 ajM;intro c J o Y Z;simp only[go_sem,J,a]
  done
 |true =>
 have e:=dR d id n s m h.vl;have z:dU (bq d.v.prs) (bA 10 0 id)<16:=lH _ 16 ε _ (fun p g=>ic _ 16 p g);generalize dU (bq d.v.prs) (bA 10 0 id)=N at *;by_cases q:N=0
 .refine⟨⟨d,0,11⟩,by simp[q],.inl ⟨11,ε,ε,rfl⟩,?_⟩;apply ba f287 ajM;intro c J o Y Z;simp only[go_sem,J,a];apply aa Z e;simp only[go_sem,J,q]
  done
 obtain⟨k,x,b,A,-,v,w⟩:=j7 d D h id n s;have y:a'.wrap (16+(N:Int))=16+(N:Int):=ab ω ω;have r:a'.wrap (64+(k:Int))=64+(k:Int):=ab ω ω;cases b with
 |false =>
  have⟨h1,h2⟩:=nX d [(16+(N:Int),[])] B t h.vl (fun p g=>by rw[n4.1 g];exact nW _ ω ω) η u;refine⟨_,by simp[q,v],h1,?_⟩;generalize dF d [(16+(N:Int),[])] B=T at *;apply ba f287 ajM;intro c J o Y Z;simp only[go_sem,J,a];apply aa Z e;simp only[go_sem,J,q,y];apply aa Z w;refine θ ?_;refine x_f Z (pn h2 _ rfl 1 rfl) ?_;simp only[go_sem,J]
  done
 |true =>
  have⟨h1,h2⟩:=nX d [(16+(N:Int),[]),(64+(k:Int),[])] B t h.vl (fun p g=>by simp at g;rcases g with rfl|rfl;exact nW _ ω ω;exact nW _ ω ω) η u;refine⟨_,by simp[q,v],h1,?_⟩;generalize dF d [(16+(N:Int),[]),(64+(k:Int),[])] B=T at *;apply ba f287 ajM;intro c J o Y Z;simp only[go_sem,J,a];apply aa Z e;simp only[go_sem,J,q,y];apply aa Z w;simp only[go_sem,J,r];refine x_f Z (pn h2 _ rfl 2 rfl) ?_;simp only[go_sem,J]
  done
def rzO(a:Int)(S:DR):RVk:=⟨S.d,if S.e=0 then a else 0,S.left,S.e⟩
def rzN(d:aU)(n B:Int)(x:Ls):RVk:=if x.nx=x.tto then⟨d,0,0,13⟩ else rzO x.nx (dF d [(16+n,dy {x with nx:=x.nx+1})] B)
def rzM(d:aU)(n B:Int):RVk:=if d.on=true then if 0<=n/\n<16/\(bc d.v.prs n.toNat).e=0 then rzN d n B (bc d.v.prs n.toNat).x else⟨d,0,0,11⟩ else⟨d,0,0,17⟩
def ajL:List Nat:=[0,1,2,3,6,7,8,9,10,11,12,13,16,23,32,38,60]
attribute[go_sem]ajL
theorem wm(d:aU)(h:VLen d.v.prs)(n B:Int)(g:d.v.j.bs.length<1000000000)(k:i64 B):∃(a:Int) (T:DR),rzM d n B=⟨T.d,a,T.left,T.e⟩/\0<=a/\a<=16/\Ans d B T /\
 FPure prog 265 [bg d,.i n,.i B] (.tup [bg T.d,.i a,.i T.left,.i T.e]):=by
 unfold rzM rzN;cases hon:d.on with
 |false =>
  refine⟨0,⟨d,0,17⟩,rfl,ε,ε,.inl ⟨17,ε,ε,rfl⟩,?_⟩;apply ba f265 ajL;intro c J h0 Y Z;simp only[go_sem,J,hon]
  done
 |true =>
 by_cases o:n<0
 .refine⟨0,⟨d,0,11⟩,by rw[b9 rfl,b0 ω],ε,ε,.inl ⟨11,ε,ε,rfl⟩,?_⟩;apply ba f265 ajL;intro c J h0 Y Z;simp only[go_sem,J,hon,o]
  done
 by_cases h16:n>=16
 .refine⟨0,⟨d,0,11⟩,by rw[b9 rfl,b0 ω],ε,ε,.inl ⟨11,ε,ε,rfl⟩,?_⟩;apply ba f265 ajL;intro c J h0 Y Z;simp only[go_sem,J,hon,h16,(ω:¬(n<0))]
  done
 obtain⟨i,rfl⟩:∃i:Nat,n=i:=⟨n.toNat,ω⟩;rw[Int.toNat_natCast];have hl:=gM d i ω h;have b:=@yL d.v.prs i;generalize bc d.v.prs i=L at *;by_cases he:L.e=0
 case neg =>
  refine⟨0,⟨d,0,11⟩,by rw[b9 rfl,b0 ω],ε,ε,.inl ⟨11,ε,ε,rfl⟩,?_⟩;apply ba f265 ajL;intro c J h0 Y Z;simp only[go_sem,J,hon,h16,(ω:¬((i:Int)<0))];apply aa Z hl;simp only[go_sem,J,he,decide_false]
  done
 have hv:=su (b he);by_cases hx:L.x.nx=L.x.tto
 .refine⟨0,⟨d,0,13⟩,by rw[b9 rfl,b9 ⟨ω,ω,he⟩,b9 hx],ε,ε,.inl ⟨13,ε,ε,rfl⟩,?_⟩;apply ba f265 ajL;intro c J h0 Y Z;simp only[go_sem,J,hon,h16,(ω:¬((i:Int)<0))];apply aa Z hl;simp only[go_sem,J,he,decide_true,hx]
  done
 have hw1:a'.wrap (L.x.nx+1)=L.x.nx+1:=ab ω ω;have hw:a'.wrap (16+(i:Int))=16+(i:Int):=ab ω ω;have⟨h1,h2⟩:=nX d [(16+(i:Int),dy {L.x with nx:=L.x.nx+1})] B g h (fun p m=>by rw[n4.1 m];exact wl i ω _) η k;have hle:=pR {L.x with nx:=L.x.nx+1};generalize dy {L.x with nx:=L.x.nx+1}=lb at *;generalize q:dF d [(16+(i:Int),lb)] B=T at *;by_cases hz:T.e=0
 .refine⟨L.x.nx,T,by rw[b9 rfl,b9 ⟨ω,ω,he⟩,b0 hx,rzO,b9 hz],ω,ω,h1,?_⟩;exact afZ
 .refine⟨0,T,by rw[b9 rfl,b9 ⟨ω,ω,he⟩,b0 hx,rzO,b0 hz],ε,ε,h1,?_⟩;exact afZ
end
theorem ZI(x:Cr)(h:CrOk x):∃(a:Int) (y:UInt64),a=x.hg/\FPure prog 268 [.agg (crC x)] (.tup [.agg [.i a,.w y],.i 0]):=by
 have hv:=rF x h;obtain⟨n,b⟩:∃n:Nat,x.hg=n:=⟨x.hg.toNat,by have:=h.hg;omega⟩
 have d:=Jd x.sd n (by have:=h.hg;omega);refine⟨n,g5 x.sd n 0,b.symm,?_⟩;generalize g5 x.sd n 0=y at *;refine ba f268 [0,1,2,3,4,8] ?_;intro c J e Y Z;refine δ hv ?_;simp only[go_sem,J,b];refine aa Z d ?_;simp only[go_sem,J]
theorem wo(b:List UInt8)(e:b.length<100000)(y:UInt64):∃z,FPure prog 270 [blA b,.w y] (.w z):=by
 refine⟨bA 13 0 (b++an [y] 1),?_⟩;have a:=fS 13 (b++an [y] 1) (b.length+8) (by simp[am]) ω ε ε;refine ba f270 [0,1,4] ?_;intro c J g Y Z;refine θ ?_;refine⟨⟨ω,ω⟩,?_⟩;simp only[dl];refine x_f Z (bI y) ?_;refine θ ?_;refine⟨⟨ω,ω⟩,?_⟩;rw[dl,show cb b++cb (an [y] 1)=cb (b++an [y] 1) from by simp[cb]];have d:(cb (b++an [y] 1)).length=b.length+8:=by simp[am]
 first|refine df Y (ks:=[0,1,4]) (n:=2000) ?_ ?_ rfl (by rw[J];exact a) (by simp only[go_sem,ax]) ?_|refine dg Y (ks:=[0,1,4]) (n:=2000) ?_ ?_ rfl (by rw[J];exact a) (by simp only[go_sem,ax,ak,and_self]) ?_
 .exact ahP
 .simp only[go_sem];simp[am]
 simp only[go_sem];rfl
theorem na(x:Cr)(u:yj x)(a d:Int)(y:0<=a/\a<=255)(z:0<=d/\d<=255):∃b e,b.length<=162/\(e=0->CrOk x/\x.bk=true/\a<=d/\d<=16)/\FPure prog 211 [.agg (crC x),.i a,.i d] (.tup [blA b,.i e]):=by
 by_cases g:CrOk x
 case neg =>
  have⟨e,q,h⟩:=sS x u g;refine⟨[],e,η,fun c=>s5 c q,?_⟩;refine akS ?_;intro c J j Y Z;refine δ h ?_;simp only[go_sem,q]
 have k:=fG x g;have w:=mO x g;generalize fj x=E at *;obtain⟨n,r⟩:∃n:Nat,x.hg=n:=⟨x.hg.toNat,by have:=g.hg;omega⟩
 have s:n<=4:=by have:=g.hg;omega
 have hs:=Qw n s;have A:(2:Nat)^n<=16:=by have:(2:Nat)^n<=2^4:=e' ε s;omega
 generalize 2^n=N at *;cases m:x.bk with
 |false =>
  refine⟨[],18,η,nofun,?_⟩;refine akS ?_;intro c J j Y Z;refine δ k ?_;simp only[go_sem,J,m]
  done
 |true =>
 by_cases o:a>d
 .refine⟨[],9,η,nofun,?_⟩;refine akS ?_;intro c J j Y Z;refine δ k ?_;simp only[go_sem,J,m,o,(ω:¬(a<0))]
  done
 by_cases t:d>(N:Int)
 .refine⟨[],9,η,nofun,?_⟩;refine akS ?_;intro c J j Y Z;refine δ k ?_;simp only[go_sem,J,m,o,(ω:¬(a<0)),r,hs,t]
  done
 refine⟨[u8i a,u8i d]++E,0,ζ,fun _=>⟨g,rfl,ω,ω⟩,?_⟩;refine akS ?_;intro c J j Y Z;refine δ k ?_;simp only[go_sem,J,m,o,(ω:¬(a<0)),r,hs,t];have h2:AV.p (PV.v (Value.int .u8 (c'.wrap a)))::AV.p (PV.v (Value.int .u8 (c'.wrap d)))::f' AV.p (f' bt E)=(([u8i a,u8i d]++E).map bt).map .p:=by
  simp only[bt,u8i,u8w,hX,List.cons_append,List.nil_append]
 rw[h2,cD ζ];refine⟨⟨ω,ω⟩,⟨ω,aG _⟩,ω,?_⟩;rw[aJ];rfl
theorem Dp(b:List UInt8)(u:b.length<100000):∃x fr tt e,(e=0->CrOk x/\x.rs=true/\0<=fr/\fr<=tt/\tt<=16) /\
 FPure prog 289 [blA b] (.tup [.agg (crC x),.i fr,.i tt,.i e]):=by
 by_cases h2:b.length<2
 .refine⟨cr0,0,0,2,nofun,?_⟩;refine ba f289 [0,2,3,4,5,6,7,10,19,35] ?_;intro c J n Y Z;simp only[go_sem,J,(ω:((b.length:Int)<2))];exact afS
 obtain⟨z0,k,t,rfl⟩:∃z0 k t,b=z0::k::t:=by
  match b,h2 with
  |[],h=>simp at h
  |[_],h=>simp at h
  |a::c::t,_=>exact⟨a,c,t,rfl⟩
 have j:(z0::k::t).length=t.length+2:=rfl;have⟨R,r,o⟩:=MC t t.length rfl ω;by_cases m:R.e=0
 case neg =>
  refine⟨cr0,0,0,2,nofun,?_⟩;refine ba f289 [0,2,3,4,5,6,7,10,19,35] ?_;intro c J n Y Z;simp only[go_sem,J,j,(ω:¬(((t.length+2:Nat):Int)<2))];refine⟨⟨ω,ω⟩,?_⟩;rw[(ω:t.length+2-2=t.length),g'];refine aa Z o ?_;simp only[go_sem,J,m];exact afS
 have d:=(r m).1;have v:=z0.toNat_lt;have w:=k.toNat_lt;obtain⟨g,e,-,p,hg⟩:=na R.x ⟨by have:=d.rp2;omega,by have:=d.us2;omega,by have:=d.nm;omega⟩ z0.toNat k.toNat ω ω;by_cases q:e=0
 case neg =>
  refine⟨cr0,0,0,2,nofun,?_⟩;refine ba f289 [0,2,3,4,5,6,7,10,19,35] ?_;intro c J n Y Z;simp only[go_sem,J,j,(ω:¬(((t.length+2:Nat):Int)<2))];refine⟨⟨ω,ω⟩,?_⟩;rw[(ω:t.length+2-2=t.length),g'];refine aa Z o ?_;simp only[go_sem,J,m,bO];refine⟨ω,ω,?_⟩;refine aa Z hg ?_;simp only[go_sem,J,q];exact⟨π,rfl,rfl,rfl,rfl,rfl,rfl,rfl,rfl,rfl⟩
 have⟨y,s,g3,g4⟩:=p q;refine⟨R.x,z0.toNat,k.toNat,0,fun _=>⟨d,d.sh (d.bk s),ω,g3,g4⟩,?_⟩;refine ba f289 [0,2,3,4,5,6,7,10,19,35] ?_;intro c J n Y Z;simp only[go_sem,J,j,(ω:¬(((t.length+2:Nat):Int)<2))];refine⟨⟨ω,ω⟩,?_⟩;rw[(ω:t.length+2-2=t.length),g'];refine aa Z o ?_;simp only[go_sem,J,m,bO];refine⟨ω,ω,?_⟩;refine aa Z hg ?_;simp only[go_sem,J,q,bO];exact⟨π,ω,ω,π⟩
abbrev adA(rp:UInt64)(fl ct rg:Int)(mo:UInt64)(id:List UInt8)(kh:Int)(ky:UInt64):AV := .agg [.w rp,.i fl,.i ct,.i rg,.w mo,.p (.data 1 id.length (id.map bt)),.i kh,.w ky]
theorem xj(h:Int)(y:UInt64)(a:¬(0<=h/\h<=4)):FPure prog 329 [.agg [.i h,.w y]] (.tup [blA [],.i 9]):=by
 have hh:=nV h;rw[p4 a] at hh;apply ba f329 [0,1,2,3,7];intro c J b Y Z;exact agZ
theorem po(rp:UInt64)(g ct q:Int)(mo:UInt64)(id:List UInt8)(h:Int)(o:UInt64):∃e,(e=0->¬band .i64 g 64=0->id.length=176/\0<=h/\h<=4) /\
 FPure prog 291 [adA rp g ct q mo id h o] (.i e):=by
 have h1:=cM ct 0 16;have h2:=cM q 0 15;by_cases k:xn .i64 g 93=0
 case neg =>
  refine⟨9,nofun,?_⟩;refine ako ?_;intro c J m Y Z;simp only[go_sem,J,k]
  done
 by_cases v:0<=ct/\ct<=16
 case neg =>
  refine⟨9,nofun,?_⟩;rw[p4 v] at h1;refine ako ?_;intro c J m Y Z;refine akG ?_;simp only[go_sem]
  done
 rw[qi v] at h1;by_cases x:0<=q/\q<=15
 case neg =>
  refine⟨9,nofun,?_⟩;rw[p4 x] at h2;refine ako ?_;intro c J m Y Z;refine akG ?_;refine akW ?_;simp only[go_sem]
  done
 rw[qi x] at h2;by_cases y:¬band .i64 g 16=0/\band .i64 g 8=0
 case pos =>
  have⟨a,d⟩:=y;refine⟨18,nofun,?_⟩;refine ako ?_;intro c J m Y Z;refine akG ?_;refine akW ?_;simp only[go_sem,J,a,d]
  done
 have j:(band .i64 g 16=0/\band .i64 g 16=0)\/(¬band .i64 g 16=0/\¬band .i64 g 8=0):=by
  by_cases a:band .i64 g 16=0
  .exact .inl ⟨a,a⟩
  .exact .inr ⟨a,fun d=>y ⟨a,d⟩⟩
 by_cases p:band .i64 g 64=0
 .by_cases n:mo=0/\id.length=0/\h=0/\o=0
  .have⟨n,z,A,r⟩:=n;have s:id=[]:=by simpa using z
   subst n A r s;refine⟨0,fun _ c=>s5 p c,?_⟩;rcases j with⟨a,d⟩|⟨a,d⟩ <;>
   .refine ako ?_;intro c J m Y Z;refine akG ?_;refine akW ?_;simp only[go_sem,J,a,d,p];simp
  .refine⟨4,nofun,?_⟩;rcases j with⟨a,d⟩|⟨a,d⟩ <;>
   .refine ako ?_;intro c J m Y Z;refine akG ?_;refine akW ?_;simp only[go_sem,J,a,d,p];split
    .split
     .split
      .trivial
      .rename_i h1 h2 t;simp at t;exact s5 ⟨s9.1 (by show mo.toNat=0;omega),ω,t.1,s9.1 t.2⟩ n
     .trivial
    .trivial
 .by_cases n:id.length=176
  case neg =>
   refine⟨4,nofun,?_⟩;rcases j with⟨a,d⟩|⟨a,d⟩ <;>
   .refine ako ?_;intro c J m Y Z;refine akG ?_;refine akW ?_;simp only[go_sem,J,a,d,p,(ω:¬((id.length:Int)=176))]
    done
  have u:∃b e,(e=0->0<=h/\h<=4)/\FPure prog 329 [.agg [.i h,.w o]] (.tup [blA b,.i e]):=by
   by_cases hv:0<=h/\h<=4
   .exact⟨_,0,fun _=>hv,qx h o hv.1 hv.2⟩
   .exact⟨_,9,nofun,xj h o hv⟩
  have⟨b,e,B,u⟩:=u;refine⟨e,fun c _=>⟨n,B c⟩,?_⟩;rcases j with⟨a,d⟩|⟨a,d⟩ <;>
  .refine ako ?_;intro c J m Y Z;refine akG ?_;refine akW ?_;simp only[go_sem,J,a,d,p,(ω:((id.length:Int)=176))];apply aa Z u;simp only[go_sem]
   done
theorem wq(rp:UInt64)(a ct h:Int)(mo:UInt64)(id:List UInt8)(d:Int)(g:UInt64):∃b e,b.length<=300 /\
 FPure prog 269 [adA rp a ct h mo id d g] (.tup [blA b,.i e]):=by
 have⟨e,o,hv⟩:=po rp a ct h mo id d g;by_cases j:e=0
 case neg =>
  refine⟨[],e,η,?_⟩;apply ba f269 [0,1,2,3,4,5,6,11,31];intro c J m Y Z;refine δ hv ?_;simp only[go_sem,j]
  done
 by_cases k:band .i64 a 64=0
 .refine⟨an [rp] 1++[u8i a,u8i ct,u8i h],0,by simp[am],?_⟩;apply ba f269 [0,1,2,3,4,5,6,11,31];intro c J m Y Z;refine alD ?_
  first|refine io Y (ks:=[0,1,2,3,4,5,6,11,31]) (n:=2000) 1 (by simp only[go_sem];rfl) κ rfl (by rw[J];exact fk [rp] 1 rfl ε ε) rfl rfl (by simp[ax,ak,keys]) (by simp only[bV,ak,aM,cm,cF,and_self]) ?_|refine ip Y (ks:=[0,1,2,3,4,5,6,11,31]) (n:=2000) 1 (by simp only[go_sem];rfl) κ rfl (by rw[J];exact fk [rp] 1 rfl ε ε) rfl rfl (by simp[ax,keys]) (by simp only[bV,cm,and_self]) rfl ?_
  refine θ ?_;refine⟨am _ 1,π,?_⟩;simp only[go_sem,k];rw[cb3,dX,cD (by simp[am])];exact⟨⟨by rw[am];decide,lY _⟩,by rw[am],lZ _⟩
 .have⟨p,q,r⟩:=o j k;have s:=qx d g q r;refine⟨an [rp] 1++[u8i a,u8i ct,u8i h]++an [mo] 1++id++yI d g,0,by simp[am,yI,az,p],?_⟩;apply ba f269 [0,1,2,3,4,5,6,11,31];intro c J m Y Z;refine alD ?_
  first|refine io Y (ks:=[0,1,2,3,4,5,6,11,31]) (n:=2000) 1 (by simp only[go_sem];rfl) κ rfl (by rw[J];exact fk [rp] 1 rfl ε ε) rfl rfl (by simp[ax,ak,keys]) (by simp only[bV,ak,aM,cm,cF,and_self]) ?_|refine ip Y (ks:=[0,1,2,3,4,5,6,11,31]) (n:=2000) 1 (by simp only[go_sem];rfl) κ rfl (by rw[J];exact fk [rp] 1 rfl ε ε) rfl rfl (by simp[ax,keys]) (by simp only[bV,cm,and_self]) rfl ?_
  refine θ ?_;refine⟨am _ 1,π,?_⟩;simp only[go_sem,k];apply aa Z s;refine θ ?_;refine x_f Z (bI mo) ?_;refine θ ?_;have t:=am [rp] 1;have u:=am [mo] 1;have v:(yI d g).length=9:=by simp[yI,az]
  simp only[dl,cb3,dX];rw[cD ζ];exact⟨ω,⟨ω,ω,ω⟩,⟨ω,ω,ω⟩,π,⟨ω,lY _⟩,ω,lZ _⟩
theorem Jm(b:List UInt8)(d:b.length=9):∃kh ky e,(e=0->0<=kh/\kh<=4)/\FPure prog 290 [.p (.data 1 9 (b.map bt))] (.tup [.agg [.i kh,.w ky],.i e]):=by
 obtain⟨z,t,rfl⟩:∃z t,b=z::t:=by
  match b,d with
  |z::t,_=>exact⟨z,t,rfl⟩
 have g:t.length=8:=by simpa using d
 have a:=nV (z.toNat:Int);have h:=qw t 8 g ω;by_cases c:0<=(z.toNat:Int)/\(z.toNat:Int)<=4
 .refine⟨z.toNat,aB t 8,0,fun _=>c,?_⟩;rw[qi c] at a;generalize aB t 8=y at *;apply ba f290 [0,2,3,14];intro c J j Y Z;simp only[go_sem,J,bO];apply aa Z a;simp only[go_sem,J,bO,d',show h' 8 t=t from cD ω];apply aa Z h;simp only[go_sem,J];kernel_rfl
 .refine⟨0,0,2,nofun,?_⟩;rw[p4 c] at a;apply ba f290 [0,2,3,14];intro c J j Y Z;simp only[go_sem,J,bO];apply aa Z a;simp only[go_sem,J]
  done
theorem Fu(d:UInt64)(h a:Int)(m:UInt64):∃b,FPure prog 271 [.w d,.i h,.i a,.w m] (blA b):=by
 have g:∃(j:Int) (n o:Nat) (q r:List PV) (e s:Int) (b:List UInt8),
  FPure prog 330 [.w d,.i h,.i a,.w m] (.tup [.agg [.i j,.p (.data 1 n q),.p (.data 1 o r)],.i e]) /\
  FPure prog 331 [.agg [.i j,.p (.data 1 n q),.p (.data 1 o r)]] (.tup [blA b,.i s]):=by
  by_cases t:0<=h/\h<=4/\0<=a/\a<2^h.toNat
  .have⟨A,B,C,v⟩:=t;obtain⟨k,rfl⟩:∃k:Nat,h=k:=⟨h.toNat,ω⟩
   obtain⟨l,rfl⟩:∃l:Nat,a=l:=⟨a.toNat,ω⟩;have u:l<2^k:=by
    have:((2:Int)^k)=((2^k:Nat):Int):=η;simp only[h5] at v;omega
   have⟨b,x⟩:=Je l k _ _ (ji d l (fun c=>(jM m).getD c 0) 18) (r5 d l k) ω u;exact⟨_,_,_,_,_,_,_,_,Qx d k l m ω u,x⟩
  .exact⟨_,_,_,_,_,_,_,_,Nv d h a m t,Fs⟩
 have⟨j,n,o,q,r,e,s,b,y,z⟩:=g;refine⟨b,?_⟩;apply ba f271 [0,1,2,3,8,9,11];intro c J D Y Z;simp only[go_sem];apply aa Z y;refine δ z ?_;simp only[go_sem]
theorem afj(b:List UInt8)(h:11<=b.length):∃a0 a1 a2 a3 a4 a5 a6 a7 a8 a9 a10 t,b=a0::a1::a2::a3::a4::a5::a6::a7::a8::a9::a10::t:=by
 match b,h with
 |a0::a1::a2::a3::a4::a5::a6::a7::a8::a9::a10::t,_=>exact⟨a0,a1,a2,a3,a4,a5,a6,a7,a8,a9,a10,t,rfl⟩
theorem tS{P:Program}{f:FuncId}{v:AV}{rp mo d:UInt64}{e ct m n:Int}(h:FPure P f [adA rp e ct m mo [] n d] v):FPure P f [.agg [.w rp,.i e,.i ct,.i m,.w mo,eK,.i n,.w d]] v:=by
 refine lI h rfl fun ρ F w g hg j x b=>?_
 match j,b with
 |0,b =>
  cases b;have h1:=hg 0 _ rfl;generalize g 0=u at *;cases h1 with
  |agg _ us hl hr =>
   refine .agg _ _ (hl.trans rfl) fun k c a=>?_
   by_cases o:k=5
   .subst o;cases a;have q:=hr 5 _ rfl;rw[Rd.pv q];exact .p _ _ (.nil _ _ _)
   .apply hr k c
    match k,o,a with
    |0,_,a=>exact a
    |1,_,a=>exact a
    |2,_,a=>exact a
    |3,_,a=>exact a
    |4,_,a=>exact a
    |5,h,_=>exact s5 rfl h
    |6,_,a=>exact a
    |7,_,a=>exact a
    |k+8,_,a=>exact a
 |j+1,b=>simp at b
theorem wu(b:List UInt8)(L:b.length<100000):∃rp fl ct rg mo id w x e,(id.length=0\/id.length=176) /\
 FPure prog 207 [blA b] (.tup [adA rp fl ct rg mo id w x,.i e]):=by
 by_cases D:¬b.length=11/\¬b.length=204
 .have⟨E,M⟩:=D;refine ald ?_;refine akn ?_;intro c J r Y Z;simp only[go_sem,J,(ω:¬((b.length:Int)=11)),(ω:¬((b.length:Int)=204))]
  done
 obtain⟨a0,y,z,a3,a4,a5,A,B,j,a9,k,t,rfl⟩:=afj b ω;have G:(a0::y::z::a3::a4::a5::A::B::j::a9::k::t).length=t.length+11:=rfl;rw[G] at D;have s:=qw [a0,y,z,a3,a4,a5,A,B] 8 rfl ε;generalize aB [a0,y,z,a3,a4,a5,A,B] 8=rp at *;by_cases E:t.length=0
 .obtain rfl:t=[]:=by simpa using E
  obtain⟨e,-,hv⟩:=po rp j.toNat a9.toNat k.toNat 0 [] 0 0;by_cases m:e=0/\band .i64 (j.toNat:Int) 64=0
  .have⟨m,u⟩:=m;refine⟨rp,j.toNat,a9.toNat,k.toNat,0,[],0,0,0,.inl rfl,?_⟩;refine akn ?_;intro c J r Y Z;refine θ ?_;refine akO ?_;simp only[go_sem,J,m,u]
   done
  .refine ald ?_;by_cases h:e=0
   .have u:¬band .i64 (j.toNat:Int) 64=0:=fun c=>m ⟨h,c⟩
    refine akn ?_;intro c J r Y Z;refine θ ?_;refine akO ?_;simp only[go_sem,J,h,show(band .i64 (j.toNat:Int) 64 != 0)=true from by simp[u],decide_false]
   .refine akn ?_;intro c J r Y Z;refine θ ?_;refine akO ?_;simp only[go_sem,J,h]
    done
 .have F:t.length=193:=ω;have a:(a0::y::z::a3::a4::a5::A::B::j::a9::k::t).length=t.length+11:=rfl;have⟨w,x,H,K,o⟩:=Jm (t.drop 184) ζ;have v:=qw (t.take 8) 8 ζ ε;generalize aB (t.take 8) 8=mo at *;have g:((t.drop 8).take 176).length=176:=ζ;obtain⟨e,-,hv⟩:=po rp j.toNat a9.toNat k.toNat mo ((t.drop 8).take 176) w x;have C:t.length+11-195=9:=ω;have p:h' 9 (i' 184 t)=i' 184 t:=cD ζ;have d:(((t.length+11:Nat):Int)>11):=ω;by_cases q:H=0
  case neg =>
   refine ald ?_;refine akn ?_;intro c J r Y Z;simp only[go_sem,J,a,(ω:(((t.length+11:Nat):Int)=204))];apply aa Z s;simp only[go_sem,J,bO,a,d];refine⟨ω,ω,ω,π,⟨ω,ω⟩,?_⟩;rw[C,p];apply aa Z o;simp only[go_sem,J,q]
   done
  by_cases m:e=0/\¬band .i64 (j.toNat:Int) 64=0
  .have⟨m,u⟩:=m;refine⟨rp,j.toNat,a9.toNat,k.toNat,mo,(t.drop 8).take 176,w,x,0,.inr g,?_⟩;refine akn ?_;intro c J r Y Z;simp only[go_sem,J,a,(ω:(((t.length+11:Nat):Int)=204))];apply aa Z s;simp only[go_sem,J,bO,a,d];refine⟨ω,ω,ω,π,⟨ω,ω⟩,?_⟩;rw[C,p];apply aa Z o;simp only[go_sem,J,q,a,d'];refine⟨ω,?_⟩;apply aa Z v;simp only[go_sem,J,a,d'];refine⟨ω,π,?_⟩;generalize h' 176 (i' 8 t)=I at *;simp only[adA,g] at hv;refine gU Y (ks:=[0,2,3,4,5,6,14,34,42,66]) (n:=2000) 3 ?_ ?_
   .simp only[go_sem];exact⟨aG _,ω⟩
   simp only[go_sem];rw[cD ζ,aJ];apply aa Z hv;simp only[go_sem,J,m,show(band .i64 (j.toNat:Int) 64 != 0)=true from by simp[u],(ω:(((t.length+1+1+1+1+1+1+1+1+1+1+1:Nat):Int)>11)),decide_true,g]
   done
  .refine ald ?_;by_cases h:e=0
   .have u:band .i64 (j.toNat:Int) 64=0:=Decidable.byContradiction fun c=>m ⟨h,c⟩
    refine akn ?_;intro c J r Y Z;simp only[go_sem,J,a,(ω:(((t.length+11:Nat):Int)=204))];apply aa Z s;simp only[go_sem,J,bO,a,d];refine⟨ω,ω,ω,π,⟨ω,ω⟩,?_⟩;rw[C,p];apply aa Z o;simp only[go_sem,J,q,a,d'];refine⟨ω,?_⟩;apply aa Z v;simp only[go_sem,J,a,d'];refine⟨ω,π,?_⟩;generalize h' 176 (i' 8 t)=I at *;simp only[adA,g] at hv;refine gU Y (ks:=[0,2,3,4,5,6,14,34,42,66]) (n:=2000) 3 ?_ ?_
    .simp only[go_sem];exact⟨aG _,ω⟩
    simp only[go_sem];rw[cD ζ,aJ];apply aa Z hv;simp only[go_sem,J,h,show(band .i64 (j.toNat:Int) 64 != 0)=false from by simp[u],(ω:(((t.length+1+1+1+1+1+1+1+1+1+1+1:Nat):Int)>11)),decide_true]
    done
   .refine akn ?_;intro c J r Y Z;simp only[go_sem,J,a,(ω:(((t.length+11:Nat):Int)=204))];apply aa Z s;simp only[go_sem,J,bO,a,d];refine⟨ω,ω,ω,π,⟨ω,ω⟩,?_⟩;rw[C,p];apply aa Z o;simp only[go_sem,J,q,a,d'];refine⟨ω,?_⟩;apply aa Z v;simp only[go_sem,J,a,d'];refine⟨ω,π,?_⟩;generalize h' 176 (i' 8 t)=I at *;simp only[adA,g] at hv;refine gU Y (ks:=[0,2,3,4,5,6,14,34,42,66]) (n:=2000) 3 ?_ ?_
    .simp only[go_sem];exact⟨aG _,ω⟩
    simp only[go_sem];rw[cD ζ,aJ];apply aa Z hv;simp only[go_sem,J,h]
    done

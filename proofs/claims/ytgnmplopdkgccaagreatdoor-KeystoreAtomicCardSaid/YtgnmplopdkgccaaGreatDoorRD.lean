/- own work: steps of the proof -/
import Derived.Test.YtgnmplopdkgccaaGreatDoorQw
import Derived.Test.YtgnmplopdkgccaaGreatDoorRR
set_option linter.all false
set_option maxRecDepth 100000
set_option maxHeartbeats 8000000
open List renaming contains→a',replicate→b',map→c'
open UInt64 renaming ofNat→e'
open Go.IntKind renaming i64→f',u64→g'
namespace Go.Abs
open RowKit Proofs Proofs.Tryz
abbrev qI(n:Int):PV := .v (.int .i64 n)
abbrev qB(b:Bool):PV := .v (.bool b)
abbrev qS(s:List UInt8):PV := .v (.string ⟨s.toArray⟩)
abbrev qT(l:List IT):PV := .data 3 l.length (gz l)
theorem Q8(l:List Int)(i:Nat)(h:i<l.length):(l.map qI).drop i=qI (l.getD i 0)::(l.map qI).drop (i+1):=by
 have a:i<(l.map qI).length:=χ;rw[hE a];exact agO
theorem xg(k:Int):∀(l:List Int) (i:Nat),i<l.length->(l.drop i).contains k=(l.getD i 0==k||(l.drop (i+1)).contains k):=by
 intro l i h;rw[hE h,List.contains_cons];simp[cR,h,Bool.beq_comm]
theorem yk(k:Int)(l:List Int)(n:Nat)(q:l.length=n)(r:n<1000):FPure prog 339 [.i k,.p (.data 1 n (l.map qI))] (.b (l.contains k)):=by
 obtain⟨R,g⟩:∃R,l.contains k=R:=⟨_,rfl⟩;rw[g];refine ba f339 [0,1,4,5,9,17] ?_;intro c J j Y Z;simp only[go_sem];refine bl Y j [0,1,4,5,9,17] (α:={i:Nat // i<=n/\(l.drop i).contains k=R}) (fun i=>⟨18,[(0,.i k),(1,.p (.data 1 n (l.map qI))),(5,.i i.1)],[],0⟩) (fun i=>n-i.1) ⟨0,gi _,g⟩ [] (fun i=>i) ⟨rfl,?_,trivial,rfl,rfl,trivial,fun i h=>h⟩ ?_
 .simp only[go_sem]
  done
 rintro⟨i,m,a⟩;dsimp only at m a⊢;rcases ea i n with h|h
 .have o:=ac i
  have d:=Q8 l i ω;rw[xg k l i ω] at a;generalize l.getD i 0=x at *;by_cases e:x=k
  .subst e;simp at a;subst a;simp only[go_sem,J,d,(ω:((i:Int)<(n:Int)))];exact by omega
  .have f:(l.drop (i+1)).contains k=R:=by rw[<-a];simp[e]
   simp only[go_sem,J,d,e,o,(ω:((i:Int)<(n:Int)))];exact⟨ω,⟨i+1,ω,f⟩,by show n-(i+1)<n-i;omega,eh rfl κ trivial rfl rfl (c7 _)⟩
 .obtain rfl:i=n:=by omega
  rw[l2 ω] at a;have a:false=R:=a;subst a;simp only[go_sem,J,(ω:¬((i:Int)<(i:Int)))]
def yl(k:Int):List Bool :=
 [false,k==2||k==3||k==9,k==2,k==2,k==2||k==3,k==2,k==2,k==2||k==3,k==2,k==3,k==2||k==3,k==2,k==2,[2,3,11,12,13,14].contains k,[7,8,9,13,14].contains k,[7,8,14].contains k,[8,9].contains k,k==9,[12,13].contains k,k==13]
theorem P3(k:Int)(h1:1<=k)(h:k<=14):FPure prog 292 [.i k] (.agg (mA qB (yl k))):=by
 have j:=yk k [2,3,11,12,13,14] 6 rfl ε;have l:=yk k [2,3] 2 rfl ε;have m:=yk k [7,8,9,13,14] 5 rfl ε;have n:=yk k [7,8,14] 3 rfl ε;have o:=yk k [8,9] 2 rfl ε;have p:=yk k [12,13] 2 rfl ε;generalize a:a' [2,3,11,12,13,14] k=b1 at *;generalize b:a' [2,3] k=b2 at *;generalize d:a' [7,8,9,13,14] k=b3 at *;generalize e:a' [7,8,14] k=b4 at *;generalize f:a' [8,9] k=b5 at *;generalize g:a' [12,13] k=b6 at *;have q:k=1\/k=2\/k=3\/k=4\/k=5\/k=6\/k=7\/k=8\/k=9\/k=10\/k=11\/k=12\/k=13\/k=14:=ω;rcases q with rfl|rfl|rfl|rfl|rfl|rfl|rfl|rfl|rfl|rfl|rfl|rfl|rfl|rfl
 all_goals (cases b1<;>first|(exact s5 a ε)|skip)
 all_goals (cases b2<;>first|(exact s5 b ε)|skip)
 all_goals (cases b3<;>first|(exact s5 d ε)|skip)
 all_goals (cases b4<;>first|(exact s5 e ε)|skip)
 all_goals (cases b5<;>first|(exact s5 f ε)|skip)
 all_goals (cases b6<;>first|(exact s5 g ε)|skip)
 all_goals
  apply ba f292 [0,2,3,4,5];intro c J r Y Z;simp only[go_sem,J];refine x_f Z j ?_;simp only[go_sem,J];refine x_f Z l ?_;simp only[go_sem,J];refine x_f Z m ?_;simp only[go_sem,J];refine x_f Z n ?_;simp only[go_sem,J];refine x_f Z o ?_;simp only[go_sem,J];refine x_f Z p ?_;simp only[go_sem,J];exact av _
def kR(ls:List (List UInt8))(i:Nat):List IT:=⟨5,e' ls.length,[]⟩::(ls.take i).map fun b=>⟨3,0,b⟩
theorem nN(ls:List (List UInt8))(i:Nat)(h:i<=ls.length):(kR ls i).length=i+1:=by simp[kR];omega
theorem E2(ls:List (List UInt8))(i:Nat)(h:i<ls.length):kR ls (i+1)=kR ls i++[⟨3,0,ls.getD i []⟩]:=by
 rw[kR,kR,List.take_add_one,show ls[i]?=some (ls.getD i []) from by simp[cR,h]];simp
theorem P4(ls:List (List UInt8))(n:Nat)(b:ls.length=n)(j:n<100000):FPure prog 340 [.p (.data 1 n (ls.map byP))] (.p (qT (kR ls n))):=by
 have d:g'.wrap (n:Int)=((e' n).toNat:Int):=by rw[ao ω ω,gr,ie ω]
 unfold qT;rw[nN ls n ω];refine ba f340 [0,2,3,4,13] ?_;intro c J e Y Z;simp only[go_sem,J,d];refine ay Y e [0,2,3,4,13] n (fun i=>⟨26,[(0,.p (.data 1 n (ls.map byP))),(3,.sl 0 0 (i+1) 3),(4,.i i)],[(0,some ⟨dp,xtA (kR ls i)⟩)],1⟩) [] (fun i=>i) ?_ ?_
 .refine⟨rfl,?_,?_,rfl,rfl,trivial,fun i h=>h⟩
  .simp only[go_sem]
  .simp only[go_sem];rw[show[AV.p (.v (.int .i64 5)),AV.p (wd (e' n)),AV.p (.v (.string ⟨#[]⟩))]=xtA (kR ls 0) from by rw[<-b];rfl];exact(Aq _ _ _ _).2 trivial
 intro i k;rcases ea i n with h|h
 .have f:=ac i
  have g:=Ag (ls.getD i []);have a:=nN ls i ω;rw[E2 ls i ω];generalize kR ls i=l at *;simp only[go_sem,J,(ω:((i:Int)<(n:Int))),bC,byP,bS,Abs.strOf,bL];refine⟨ω,ω,?_⟩;refine aa Z g ?_;simp only[go_sem,J,f];generalize ls.getD i []=s at *;refine⟨⟨ω,ω,ω⟩,h,aA [2] rfl ?_ ?_ rfl rfl (cV rfl)⟩
  .simp only[go_sem]
  .simp only[go_sem];rw[show xtA l++[AV.i 3,AV.w 0,sv s]=xtA (l++[⟨3,0,s⟩]) from iN l ⟨3,0,s⟩];exact(Aq _ _ _ _).2 trivial
 obtain rfl:i=n:=by omega
 have a:=nN ls i ω;generalize kR ls i=l at *;simp only[go_sem,J,(ω:¬((i:Int)<(i:Int)))];rw[cD (by rw[qk];omega)];simp only[go_sem];omega
def vM(r:RqM):List UInt64:=[0,0,0,0,r.hs,cq r.hg,cq r.pt,0,0,0,0,0,cq r.fm,0,r.pe,0,0,cq r.pm,0,cq r.ct]
def j4(r:RqM):List (List UInt8):=[[],r.rp,r.us,r.nm,[],[],[],[],[],[],[],[],[],[],[],r.bx,r.pf,[],r.id,[]]
def vN(r:RqM):List Bool:=[false,false,false,false,false,false,false,false,r.rs,r.pr,r.ve,r.sh,false,false,false,false,false,false,false,false]
def ql(r:RqM)(j:Nat)(n:UInt64)(s:List UInt8)(f:Bool):List IT :=
 if¬n=0 then[⟨1,n,[]⟩] else if¬s=[] then(if j=1\/j=3 then[⟨4,0,s⟩] else[⟨3,0,s⟩]) else if f=true then[⟨7,1,[]⟩] else
 if j=7/\¬r.ls.length=0 then kR r.ls r.ls.length else if j=13/\r.ha=true then[⟨1,r.au,[]⟩] else[]
def vO(r:RqM)(j:Nat):List IT:=ql r j ((vM r).getD j 0) ((j4 r).getD j []) ((vN r).getD j false)
def cN(r:RqM)(k:Nat):List (List IT):=(List.range 20).map fun j=>if 1<=j/\j<k then vO r j else[]
theorem gw(r:RqM)(k:Nat):(cN r k).length=20:=by simp[cN]
theorem Ar(r:RqM)(j:Nat)(h1:1<=j)(h:j<20):cN r (j+1)=(cN r j).set j (vO r j):=by
 apply List.ext_getElem
 .simp[cN]
 intro i a b;have e:i<20:=by simpa[cN] using a
 rw[List.getElem_set];simp only[cN,List.getElem_map,List.getElem_range];by_cases c:j=i
 .subst c;rw[b9 rfl,b9 ⟨h1,ω⟩]
 .rw[b0 c];by_cases d:1<=i/\i<j
  .rw[b9 d,b9 ⟨d.1,ω⟩]
  .rw[b0 d,b0 ω]
theorem MM(l:List (List IT)):dI (mA qT l)=true:=Ns _ _ fun _=>rfl
theorem P5(l:List Bool):dI (mA qB l)=true:=Ns _ _ fun _=>rfl
attribute [go_sem] MM P5
theorem nO{h:bv}{σ:Nat->Nat}{id:Nat}{x:IT}(a:h id=some ⟨dp,itG x⟩):aS h [id] σ (.p (qT [x])) (.sl id 0 1 3):=by
 simp only[aS,ep,ew,km,n4,true_and,Nat.zero_add,a,Option.some.injEq,exists_eq_left',gz,xtP,s6,List.flatMap_nil,List.append_nil,dN,itG,List.drop_zero,Nat.reduceMul,List.take_succ_cons,List.take_zero,and_true];exact c7 3
theorem CT(r:RqM)(j:Nat):(cN r j).set j []=cN r j:=by
 apply List.ext_getElem
 .simp
 intro i a b;rw[List.getElem_set];split
 .rename_i h;subst h;simp[cN]
 .rfl
theorem ym(r:RqM)(A:r.ls.length<100000):FPure prog 293 [rqA r] (.agg (mA qT (cN r 20))):=by
 apply ba f293 [0,1,2,3,4,5,6,7,54,57,69,89,101,109,123];intro c J B Y Z;simp only[go_sem,J,ca,bS,Abs.strOf,bL];refine ay Y B [0,1,2,3,4,5,6,7,54,57,69,89,101,109,123] 19 (fun i=>⟨137,[(1,.ptr 0 0),(2,.ptr 1 0),(3,.ptr 2 0),(4,.ptr 3 0),(5,.ptr 4 0),(6,.ptr 5 0),(7,.i ((i+1:Nat):Int))],[(0,some ⟨118,rqC (rqP r)⟩),(1,some ⟨352,mA qT (b' 20 [])⟩),(2,some ⟨352,mA qT (cN r (i+1))⟩),(3,some ⟨409,mA wd (vM r)⟩),(4,some ⟨410,mA qS (j4 r)⟩),(5,some ⟨350,mA qB (vN r)⟩)],6⟩) [] (fun i=>i) ?_ ?_
 .refine⟨rfl,?_,?_,rfl,rfl,trivial,fun i h=>h⟩
  .simp only[go_sem]
   done
  .rw[show cN r (0+1)=b' 20 [] from rfl];simp only[go_sem,mA,vM,j4,vN,gz,List.flatMap_nil]
   done
 intro i M;rcases ea i 19 with h|h
 .have hw:f'.wrap (((i+1:Nat):Int)+1)=((i+1+1:Nat):Int):=by rw[ab ω ω];omega
  have g:=yG wd (vM r) 0 (i+1) (by show i+1<20;omega);have hs:=yG qS (j4 r) [] (i+1) (by show i+1<20;omega);have p:=yG qB (vN r) false (i+1) (by show i+1<20;omega);have C:=Ar r (i+1) ω ω;have k:=gw r (i+1);have hFs:=CT r (i+1);rw[C];obtain⟨V,b⟩:∃V,vO r (i+1)=V:=⟨_,rfl⟩
  rw[b];unfold vO ql at b;have D:(vM r).length=20:=rfl;have E:(j4 r).length=20:=rfl;have G:(vN r).length=20:=rfl;generalize(vM r).getD (i+1) 0=n at *;generalize(j4 r).getD (i+1) []=s at *;generalize(vN r).getD (i+1) false=f at *;generalize vM r=nums at *;generalize j4 r=strs at *;generalize vN r=flgs at *;generalize cN r (i+1)=F at *;generalize N:i+1=j at *;have d:((j:Int)<20):=ω;by_cases t:n=0
  case neg =>
   rw[b9 t] at b;have a:¬((n.toNat:Int)=0):=fun c=>t (s9.1 (show n.toNat=0 by omega))
   subst b;simp only[go_sem,J,d,g,a];refine⟨ω,ω,ω,ω,?_⟩;apply aa Z (ib n);simp only[go_sem,J,hw];refine⟨⟨ω,ω⟩,ω,h,ow [6] [0,1,2,3,4,5] rfl ?_ ?_ rfl rfl ⟨rfl,trivial⟩ (cV rfl)⟩
   .simp only[go_sem]
   .simp only[go_sem];rw[<-pj];exact bX j _ _ (l9 _ _ _ _ _) (nO rfl)
  subst t;rw[b0 (fun c=>c rfl)] at b;have a:(((0:UInt64).toNat:Nat):Int)=0:=rfl;by_cases e:s=[]
  case neg =>
   rw[b9 e] at b;by_cases m:j=1\/j=3
   .rw[b9 m] at b;subst b;have ht:=Af s;rcases m with m|m
    .subst m;simp only[go_sem,J,g,a,hs,dz,e];refine⟨ω,ω,ω,?_⟩;apply aa Z ht;simp only[go_sem,J,show f'.wrap (1+1)=2 from ε];exact agb
    .subst m;simp only[go_sem,J,g,a,hs,dz,e];refine⟨ω,ω,ω,?_⟩;apply aa Z ht;simp only[go_sem,J,show f'.wrap (3+1)=4 from ε];exact agb
   .rw[b0 m] at b;subst b;have ht:=Ag s;have H:¬((j:Int)=1):=ω;have I:¬((j:Int)=3):=ω;simp only[go_sem,J,d,g,a,hs,dz,e,H,I];exact af9
  rw[b0 (fun c=>c e)] at b;cases f
  case true =>
   rw[b9 rfl] at b;subst b;have ht:=lG true;simp only[go_sem,J,d,g,a,hs,p,e];exact af9
  rw[b0 ε] at b;by_cases q:j=7/\¬r.ls.length=0
  .rw[b9 q] at b;subst b;obtain⟨rfl,K⟩:=q;have u:=P4 r.ls r.ls.length rfl A;simp only[go_sem,J,g,a,hs,p,e,(ω:((r.ls.length:Int)>0))];refine⟨ω,ω,ω,ω,?_⟩;apply aa Z u;simp only[go_sem,J,show f'.wrap (7+1)=8 from ε];refine⟨ω,h,aA [0,1,2,3,4,5] rfl ?_ ?_ rfl rfl (cV rfl)⟩
   .simp only[go_sem]
   .simp only[go_sem];rw[<-pj];exact bX _ _ _ (l9 _ _ _ _ _) (by simp[aS,ep])
  rw[b0 q] at b;by_cases l:j=13/\r.ha=true
  .rw[b9 l] at b;subst b;obtain⟨rfl,v⟩:=l;simp only[go_sem,J,g,a,hs,p,e,v];refine⟨ω,ω,ω,ω,?_⟩;apply aa Z (ib r.au);simp only[go_sem,J,show f'.wrap (13+1)=14 from ε];exact agb
  rw[b0 l] at b;subst b;by_cases L:j=7
  .subst L;have v:¬((r.ls.length:Int)>0):=fun c=>q ⟨rfl,ω⟩
   simp only[go_sem,J,g,a,hs,p,e,v,show f'.wrap (7+1)=8 from ε];exact ahZ
  have w:¬((j:Int)=7):=ω;by_cases x:j=13
  .subst x;have y:r.ha=false:=by simpa using fun c=>l ⟨rfl,c⟩
   simp only[go_sem,J,g,a,hs,p,e,y,show f'.wrap (13+1)=14 from ε];exact ahZ
  simp only[go_sem,J,d,g,a,hs,p,e,w,(ω:¬((j:Int)=13)),hw];exact⟨ω,ω,ω,ω,ω,ω,ω,ω,h,aA [0,1,2,3,4,5] rfl κ (by simp only[go_sem,hFs]) rfl rfl (cV rfl)⟩
 obtain rfl:i=19:=by omega
 have k:=gw r 20;have o:(b' 20 ([]:List IT)).length=20:=rfl;rw[show cN r (19+1)=cN r 20 from rfl];generalize cN r 20=F at *;generalize b' 20 ([]:List IT)=zzZ at *;have z:bY (mA qT zzZ) 0 (mA qT F)=mA qT F:=by have:=dG (mA qT F) (mA qT zzZ) [] (by rw[ko,ko,k,o]);simpa using this
 simp only[go_sem,J,iB qT F 20 k,k,o,z,show Nat.ble 1 20=true from rfl,show Nat.beq 20 20=true from rfl]
 done
structure aP(r:RqM):Prop where
 rp:r.rp.length<100000
 us:r.us.length<100000
 nm:r.nm.length<100000
 ls:r.ls.length<100000
 bx:r.bx.length<100000
 pf:r.pf.length<100000
 id:r.id.length<100000
 el:∀b,b∈r.ls->b.length<100000
def CU(u:List Bool)(F:List (List IT)):Nat->Nat->Bool
 |_,0=>false
 |i,k+1=>(!u.getD i false&&decide (0<(F.getD i []).length))||CU u F (i+1) k
def kg(n:Int):Bool:=decide (0<=n/\n<=255)
def As(l:List (List UInt8)):Bool:=l.any fun b => !decide (b.length=176)
theorem IW(l:List (List UInt8))(i:Nat)(h:i<l.length):As (l.drop i)=(!decide ((l.getD i []).length=176)||As (l.drop (i+1))):=by
 unfold As;rw[hE h,List.any_cons];exact agO
def l8(r:RqM):Int :=
 if¬(1<=r.kd/\r.kd<=14) then 3 else
 if CU (yl r.kd) (cN r 20) 1 19=true then 4 else
 if¬r.au=0/\r.ha=false then 4 else
 if(kg r.hg&&kg r.pt&&kg r.fm&&kg r.pm&&kg r.ct)=false then 9 else
 if 64<r.rp.length\/16<r.us.length\/32<r.nm.length\/8<r.ls.length\/1024<r.bx.length\/1024<r.pf.length then 8 else
 if(okU r.rp&&okU r.nm)=false then 6 else
 if As r.ls=true then 4 else
 if(yl r.kd).getD 18 false=true/\¬r.id.length=176 then 4 else 0
structure ady(r:RqM):Prop where
 kd:1<=r.kd/\r.kd<=14
 hg:0<=r.hg/\r.hg<=255
 pt:0<=r.pt/\r.pt<=255
 fm:0<=r.fm/\r.fm<=255
 pm:0<=r.pm/\r.pm<=255
 ct:0<=r.ct/\r.ct<=255
 rp:r.rp.length<=64
 us:r.us.length<=16
 nm:r.nm.length<=32
 ls:r.ls.length<=8
 bx:r.bx.length<=1024
 pf:r.pf.length<=1024
 u1:okU r.rp=true
 u2:okU r.nm=true
 el:∀b,b∈r.ls->b.length=176
theorem gf{r:RqM}(h:l8 r=0):ady r:=by
 unfold l8 at h;by_cases a:¬(1<=r.kd/\r.kd<=14)
 .rw[b9 a] at h;exact s5 h ε
 rw[b0 a] at h;by_cases b:CU (yl r.kd) (cN r 20) 1 19=true
 .rw[b9 b] at h;exact s5 h ε
 rw[b0 b] at h;by_cases c:¬r.au=0/\r.ha=false
 .rw[b9 c] at h;exact s5 h ε
 rw[b0 c] at h;by_cases d:(kg r.hg&&kg r.pt&&kg r.fm&&kg r.pm&&kg r.ct)=false
 .rw[b9 d] at h;exact s5 h ε
 rw[b0 d] at h;by_cases e:64<r.rp.length\/16<r.us.length\/32<r.nm.length\/8<r.ls.length\/1024<r.bx.length\/1024<r.pf.length
 .rw[b9 e] at h;exact s5 h ε
 rw[b0 e] at h;by_cases f:(okU r.rp&&okU r.nm)=false
 .rw[b9 f] at h;exact s5 h ε
 rw[b0 f] at h;by_cases g:As r.ls=true
 .rw[b9 g] at h;exact s5 h ε
 simp[kg] at d;simp at f;simp[As] at g;exact⟨Decidable.not_not.1 a,ω,ω,ω,ω,ω,ω,ω,ω,ω,ω,ω,f.1,f.2,g⟩
def ajH:List Nat:=[0,1,2,3,4,5,6,10,17,30,38,66,100,110,115,124,132]
attribute[go_sem]ajH
theorem j5(r:RqM)(t:aP r):FPure prog 208 [rqA r] (.i (l8 r)):=by
 have u:=cM r.kd 1 14;have w:=ym r t.ls;have h1:FPure prog 158 [.i r.hg,.i 0,.i 255] (.b (kg r.hg)):=cM r.hg 0 255;have h2:FPure prog 158 [.i r.pt,.i 0,.i 255] (.b (kg r.pt)):=cM r.pt 0 255;have I:FPure prog 158 [.i r.fm,.i 0,.i 255] (.b (kg r.fm)):=cM r.fm 0 255;have K:FPure prog 158 [.i r.pm,.i 0,.i 255] (.b (kg r.pm)):=cM r.pm 0 255;have L:FPure prog 158 [.i r.ct,.i 0,.i 255] (.b (kg r.ct)):=cM r.ct 0 255;have M:=bW r.rp (by have:=t.rp;omega);have N:=bW r.nm (by have:=t.nm;omega);obtain⟨R,hR⟩:∃R,l8 r=R:=⟨_,rfl⟩
 rw[hR];unfold l8 at hR;by_cases a:1<=r.kd/\r.kd<=14
 case neg =>
  rw[b9 a] at hR;subst hR;rw[p4 a] at u;apply ba f208 ajH;intro c J x Y Z;simp only[go_sem,J];apply aa Z u;simp only[go_sem]
 rw[b0 (fun c=>c a)] at hR;rw[qi a] at u;have y:=P3 r.kd a.1 a.2;have k:(yl r.kd).length=20:=rfl;have l:=gw r 20;generalize yl r.kd=U at *;generalize cN r 20=F at *;obtain⟨Bd,m⟩:∃Bd,CU U F 1 19=Bd:=⟨_,rfl⟩
 rw[m] at hR;apply ba f208 ajH;intro c J x Y Z;have z:∀cs:List AV,cs.length=20->bY cs 0 (mA qT F)=mA qT F:=fun cs h=>by have:=dG (mA qT F) cs [] (by rw[ko,l,h]);simpa using this
 have A:∀cs:List AV,cs.length=20->bY cs 0 (mA qB U)=mA qB U:=fun cs h=>by have:=dG (mA qB U) cs [] (by rw[ko,k,h]);simpa using this
 refine ak1 ?_;apply aa Z y;simp only[go_sem,J];apply aa Z w;simp only[go_sem,J,z,A,l,k,show Nat.beq 20 20=true from rfl,show Nat.ble 1 20=true from rfl];refine⟨π,?_⟩;refine bl Y x ajH (α:={i:Nat // (1<=i/\i<=20)/\CU U F i (20-i)=Bd}) (fun i=>⟨133,[(1,.ptr 0 0),(3,.ptr 1 0),(4,.ptr 2 0),(5,.i i.1)],[(0,some ⟨118,rqC (rqP r)⟩),(1,some ⟨350,mA qB U⟩),(2,some ⟨352,mA qT F⟩)],3⟩) (fun i=>20-i.1) ⟨1,⟨ε,ε⟩,m⟩ [] (fun i=>i) ⟨rfl,?_,?_,rfl,rfl,trivial,fun i h=>h⟩ ?_
 .simp only[go_sem]
 .simp only[go_sem]
 rintro⟨i,⟨B,C⟩,d⟩;dsimp only at B C d⊢;rcases ea i 20 with D|D
 .have v:=ac i
  have n:=yG qB U false i ω;have E:=yG qT F [] i ω;rw[show 20-i=(20-(i+1))+1 by omega] at d;simp only[CU] at d;generalize U.getD i false=ub at *;generalize F.getD i []=fi at *;cases ub
  .by_cases g:0<fi.length
   .have j:Bd=true:=by rw[<-d];simp[g]
    rw[b9 j] at hR;subst hR;simp only[go_sem,J,n,E,(ω:((i:Int)<20)),(ω:((fi.length:Int)>0))];exact⟨ω,ω,ω,ω⟩
   .have e:CU U F (i+1) (20-(i+1))=Bd:=by rw[<-d];simp[g]
    simp only[go_sem,J,n,E,v,(ω:((i:Int)<20)),(ω:¬((fi.length:Int)>0))];exact⟨ω,ω,ω,ω,⟨i+1,⟨ω,ω⟩,e⟩,by show 20-(i+1)<20-i;omega,aA [0,1,2] rfl κ κ rfl rfl (cV rfl)⟩
  .have e:CU U F (i+1) (20-(i+1))=Bd:=by rw[<-d];simp
   simp only[go_sem,J,n,v,(ω:((i:Int)<20))];exact⟨ω,ω,⟨i+1,⟨ω,ω⟩,e⟩,by show 20-(i+1)<20-i;omega,aA [0,1,2] rfl κ κ rfl rfl (cV rfl)⟩
 obtain rfl:i=20:=by omega
 have j:¬Bd=true:=by rw[<-d];exact Bool.false_ne_true
 rw[b0 j] at hR;by_cases c:¬r.au=0/\r.ha=false
 .rw[b9 c] at hR;subst hR;simp only[go_sem,J,show¬((r.au.toNat:Int)=0) from fun h=>c.1 (s9.1 (show r.au.toNat=0 by omega)),c.2]
  done
 rw[b0 c] at hR;have f:(((r.au.toNat:Int)=0)/\r.ha=false)\/(((r.au.toNat:Int)=0)/\r.ha=true)\/(¬((r.au.toNat:Int)=0)/\r.ha=true):=by
  cases O:r.ha
  .left;refine⟨?_,rfl⟩;have:r.au=0:=Decidable.not_not.1 fun h=>c ⟨h,O⟩
   rw[this];rfl
  .right;by_cases G:(r.au.toNat:Int)=0
   .exact .inl ⟨G,rfl⟩
   .exact .inr ⟨G,rfl⟩
 clear c d m j;generalize kg r.hg=b1 at *;generalize kg r.pt=b2 at *;generalize kg r.fm=b3 at *;generalize kg r.pm=b4 at *;generalize kg r.ct=b5 at *;generalize okU r.rp=u1 at *;generalize okU r.nm=u2 at *;obtain⟨Ld,q⟩:∃Ld,As r.ls=Ld:=⟨_,rfl⟩
 rw[q] at hR;rcases f with⟨f,o⟩|⟨f,o⟩|⟨f,o⟩
 all_goals
  simp only[go_sem,J,f,o];apply aa Z h1;cases b1
  .have hR:9=R:=by simpa using hR
   subst hR;simp only[go_sem]
  refine akW ?_;cases b2
  .have hR:9=R:=by simpa using hR
   subst hR;simp only[go_sem]
  simp only[go_sem,J];apply aa Z I;cases b3
  .have hR:9=R:=by simpa using hR
   subst hR;simp only[go_sem]
  simp only[go_sem,J];apply aa Z K;cases b4
  .have hR:9=R:=by simpa using hR
   subst hR;simp only[go_sem]
  simp only[go_sem,J];apply aa Z L;cases b5
  .have hR:9=R:=by simpa using hR
   subst hR;simp only[go_sem]
  rw[b0 ε] at hR;by_cases P:64<r.rp.length
  .rw[b9 (.inl P)] at hR;subst hR;simp only[go_sem,J,(ω:((r.rp.length:Int)>64))]
  by_cases Q:16<r.us.length
  .rw[b9 (.inr (.inl Q))] at hR;subst hR;simp only[go_sem,J,(ω:¬((r.rp.length:Int)>64)),(ω:((r.us.length:Int)>16))]
  by_cases S:32<r.nm.length
  .rw[b9 (.inr (.inr (.inl S)))] at hR;subst hR;simp only[go_sem,J,(ω:¬((r.rp.length:Int)>64)),(ω:¬((r.us.length:Int)>16)),(ω:((r.nm.length:Int)>32))]
  by_cases T:8<r.ls.length
  .rw[b9 (.inr (.inr (.inr (.inl T))))] at hR;subst hR;simp only[go_sem,J,(ω:¬((r.rp.length:Int)>64)),(ω:¬((r.us.length:Int)>16)),(ω:¬((r.nm.length:Int)>32)),(ω:((r.ls.length:Int)>8))]
  by_cases V:1024<r.bx.length
  .rw[b9 (.inr (.inr (.inr (.inr (.inl V)))))] at hR;subst hR;simp only[go_sem,J,(ω:¬((r.rp.length:Int)>64)),(ω:¬((r.us.length:Int)>16)),(ω:¬((r.nm.length:Int)>32)),(ω:¬((r.ls.length:Int)>8)),(ω:((r.bx.length:Int)>1024))]
  by_cases W:1024<r.pf.length
  .rw[b9 (.inr (.inr (.inr (.inr (.inr W)))))] at hR;subst hR;simp only[go_sem,J,(ω:¬((r.rp.length:Int)>64)),(ω:¬((r.us.length:Int)>16)),(ω:¬((r.nm.length:Int)>32)),(ω:¬((r.ls.length:Int)>8)),(ω:¬((r.bx.length:Int)>1024)),(ω:((r.pf.length:Int)>1024))]
  rw[b0 ω] at hR;simp only[go_sem,J,(ω:¬((r.rp.length:Int)>64)),(ω:¬((r.us.length:Int)>16)),(ω:¬((r.nm.length:Int)>32)),(ω:¬((r.ls.length:Int)>8)),(ω:¬((r.bx.length:Int)>1024)),(ω:¬((r.pf.length:Int)>1024))];apply aa Z M;cases u1
  .have hR:6=R:=by simpa using hR
   subst hR;simp only[go_sem]
  simp only[go_sem,J];apply aa Z N;cases u2
  .have hR:6=R:=by simpa using hR
   subst hR;simp only[go_sem]
  rw[b0 ε] at hR;simp only[go_sem];refine bl Y x ajH (α:={i:Nat // i<=r.ls.length/\As (r.ls.drop i)=Ld}) (fun i=>⟨133,[(1,.ptr 0 0),(3,.ptr 1 0),(6,.i i.1)],[(0,some ⟨118,rqC (rqP r)⟩),(1,some ⟨350,mA qB U⟩)],3⟩) (fun i=>r.ls.length-i.1) ⟨0,gi _,q⟩ [] (fun i=>i) ⟨rfl,?_,?_,rfl,rfl,trivial,fun i h=>h⟩ ?_
  .simp only[go_sem]
  .simp only[go_sem]
  rintro⟨i,D,d⟩;dsimp only at D d⊢;rcases ea i r.ls.length with h|h
  .have v:f'.wrap ((i:Int)+1)=((i+1:Nat):Int):=by have:=t.ls;rw[ab ω ω];omega
   rw[IW r.ls i h] at d;by_cases H:(r.ls.getD i []).length=176
   .have e:As (r.ls.drop (i+1))=Ld:=by rw[<-d,qi H];rfl
    simp only[go_sem,J,bC,byP,v,(ω:((i:Int)<(r.ls.length:Int))),(ω:(((r.ls.getD i []).length:Int)=176))];exact⟨ω,ω,⟨i+1,ω,e⟩,by show r.ls.length-(i+1)<r.ls.length-i;omega,aA [0,1] rfl κ κ rfl rfl (cV rfl)⟩
   .have j:Ld=true:=by rw[<-d,p4 H];rfl
    rw[b9 j] at hR;subst hR;simp only[go_sem,J,bC,byP,(ω:((i:Int)<(r.ls.length:Int))),(ω:¬(((r.ls.getD i []).length:Int)=176))];exact⟨ω,ω⟩
  have j:¬Ld=true:=by rw[<-d,l2 h];exact Bool.false_ne_true
  rw[b0 j] at hR;have n:=yG qB U false 18 ω;generalize U.getD 18 false=ub at *;have p:¬((i:Int)<(r.ls.length:Int)):=ω;cases ub
  .rw[b0 (fun c=>by cases c.1)] at hR;subst hR;simp only[go_sem,J,p,n];omega
  by_cases s:r.id.length=176
  .rw[b0 (fun c=>c.2 s)] at hR;subst hR;simp only[go_sem,J,p,n,(ω:((r.id.length:Int)=176))];omega
  .rw[b9 ⟨rfl,s⟩] at hR;subst hR;simp only[go_sem,J,p,n,(ω:¬((r.id.length:Int)=176))];omega
theorem GL(S:Nat):∀(l:List IT),(∀x,x∈l->x.s.length<=S)->(mP l).length<=l.length*(9+S)
 |[],_=>gi _
 |x::l,h=>by
  have h1:=Cu x;have h2:=h x (List.mem_cons_self ..);have b:=GL S l fun y a=>h y (nk _ a)
  have e:(mP (x::l)).length=(bT x).length+(mP l).length:=by simp[mP]
  rw[e,ew,Nat.succ_mul,bT,c9];omega
def At(F:List (List IT)):Nat->List IT
 |0=>[]
 |k+1=>At F k++(if 0<(F.getD (k+1) []).length then⟨1,e' (k+1),[]⟩::F.getD (k+1) [] else[])
def CV(F:List (List IT)):Nat->UInt64
 |0=>0
 |k+1=>if 0<(F.getD (k+1) []).length then CV F k+1 else CV F k
def gP(F:List (List IT))(k:Nat):List IT:=⟨6,CV F k,[]⟩::At F k
structure P6(F:List (List IT)):Prop where
 len:F.length=20
 el:∀j,(F.getD j []).length<=9/\∀x,x∈F.getD j []->x.s.length<=200000
theorem CW{F:List (List IT)}(h:P6 F)(k:Nat):(At F k).length<=10*k:=by
 induction k with
 |zero=>exact gi _
 |succ k a =>
  have:=(h.el (k+1)).1;rw[At,c9];split
  .rw[ew];omega
  .rw[km];omega
theorem Yu{F:List (List IT)}(h:P6 F)(k:Nat):∀x,x∈At F k->x.s.length<=200000:=by
 induction k with
 |zero=>intro x a;cases a
 |succ k b =>
  intro x a;rw[At,o1] at a;rcases a with a|a
  .exact b x a
  .split at a
   .rcases hZ.1 a with rfl|a
    .exact gi _
    .exact(h.el (k+1)).2 x a
   .cases a
theorem MN(n m:UInt64)(b:List IT):(xtA (⟨6,n,[]⟩::b)).set 1 (.w m)=xtA (⟨6,m,[]⟩::b):=rfl
theorem MO(d:PV)(n:UInt64)(b:List IT):ag d ((xtA (⟨6,n,[]⟩::b)).drop 1) = .w n:=rfl
theorem GM(l a:List IT):xtA l++xtA a=xtA (l++a):=by simp[xtA,gz]
theorem P7(l:List IT):(gz l).map AV.p=xtA l:=rfl
theorem adz(F:List (List IT))(i:Nat)(h:i<F.length):(F.map qT).drop i=qT (F.getD i [])::(F.map qT).drop (i+1):=by
 have a:i<(F.map qT).length:=χ;rw[hE a];exact agO
theorem CX(F:List (List IT))(h:P6 F):∃b,b.length<100000000/\FPure prog 294 [.p (.data 1 20 (F.map qT))] (blA b):=by
 have z:=CW h 19;have d:∀x,x∈gP F 19->x.s.length<=200000:=fun x o=>by
  rcases hZ.1 o with rfl|o
  .exact gi _
  .exact Yu h 19 x o
 have f:(gP F 19).length<=191:=by rw[gP,ew];omega
 have A:=GL 200000 (gP F 19) d;have g:(mP (gP F 19)).length<100000000:=by
  have:(gP F 19).length*(9+200000)<=191*(9+200000):=iy _ f;omega
 have j:=EP (gP F 19) (gP F 19).length rfl ω (fun i q=>by
  have:=d ((gP F 19).getD i xt0) (by rw[show(gP F 19).getD i xt0=(gP F 19)[i]'q from by simp[cR,q]];exact ix _)
  omega) ω
 refine⟨LU (gP F 19),by unfold LU;split;exact g;exact Nat.succ_pos _,?_⟩;generalize LU (gP F 19)=b at *;generalize Cx (gP F 19)=e at *;apply ba f294 [0,2,3,4,5,12,20];intro c J C Y Z;simp only[go_sem,J];refine ay Y C [0,2,3,4,5,12,20] 19 (fun i=>⟨45,[(0,.p (.data 1 20 (F.map qT))),(3,.sl 0 0 (gP F i).length 3),(4,.i ((i+1:Nat):Int))],[(0,some ⟨dp,xtA (gP F i)⟩)],1⟩) [] (fun i=>i) ⟨rfl,?_,?_,rfl,rfl,trivial,fun i h=>h⟩ ?_
 .simp only[go_sem];rfl
 .simp only[go_sem];rw[show[AV.p (PV.v (Value.int f' 6)),AV.p (PV.v (Value.int g' 0)),AV.p (PV.v (Value.string ⟨#[]⟩))]=xtA (gP F 0) from rfl];exact(Aq _ _ _ _).2 trivial
 intro i q;rcases ea i 19 with k|D
 .have y:f'.wrap (((i+1:Nat):Int)+1)=((i+1+1:Nat):Int):=by rw[ab ω ω];omega
  have a:=adz F (i+1) (by rw[h.len];omega);have E:At F (i+1)=At F i++(if 0<(F.getD (i+1) []).length then⟨1,e' (i+1),[]⟩::F.getD (i+1) [] else[]):=rfl;have G:CV F (i+1)=if 0<(F.getD (i+1) []).length then CV F i+1 else CV F i:=rfl;have I:=CW h i;have K:=(h.el (i+1)).1;have H:g'.wrap ((i+1:Nat):Int)=((e' (i+1)).toNat:Int):=by rw[ao ω ω,gr,ie ω]
  have r:=ib (e' (i+1));have t:=g6 (CV F i) 1;unfold gP;rw[E,G];generalize F.getD (i+1) []=fi at *;generalize At F i=B at *;generalize CV F i=n at *;generalize e' (i+1)=u at *;by_cases m:0<fi.length
  .rw[b9 m,b9 m];simp only[go_sem,J,a,(ω:(((i+1:Nat):Int)<20)),(ω:((fi.length:Int)>0)),MO,show g'.wrap ((n.toNat:Int)+1)=((n+1).toNat:Int) from t,MN,H];refine⟨ω,ω,ω,ω,ω,?_⟩;apply aa Z r;simp only[go_sem,J,a,y];have e:xtA (⟨6,n+1,[]⟩::B)++[AV.i 1,AV.w u,sv []]++c' AV.p (gz fi)=xtA (⟨6,n+1,[]⟩::(B++⟨1,u,[]⟩::fi)):=by
    rw[show[AV.i 1,AV.w u,sv []]=xtA [⟨1,u,[]⟩] from rfl,P7,GM,GM];simp
   refine⟨⟨ω,ω⟩,⟨ω,ω⟩,⟨ω,ω,ω⟩,π,k,aA [3] rfl ?_ ?_ rfl rfl (cV rfl)⟩
   .simp only[go_sem,(ω:B.length+1+1+fi.length=B.length+(fi.length+1)+1)]
   .simp only[go_sem,e]
  .rw[b0 m,b0 m];simp only[go_sem,J,a,y,(ω:(((i+1:Nat):Int)<20)),(ω:¬((fi.length:Int)>0))];exact⟨ω,k,aA [0] rfl (by simp only[go_sem]) (by simp only[go_sem]) rfl rfl (cV rfl)⟩
 obtain rfl:i=19:=by omega
 generalize gP F 19=l at *;simp only[go_sem,J]
 first|refine df Y (ks:=[0,2,3,4,5,12,20]) (n:=2000) ?_ ?_ rfl (by rw[J];exact j) (by simp only[go_sem,ax,ak,and_self]) ?_|refine dg Y (ks:=[0,2,3,4,5,12,20]) (n:=2000) ?_ ?_ rfl (by rw[J];exact j) (by simp only[go_sem,ax,ak,and_self]) ?_
 .simp only[go_sem];rw[cD (by rw[qk];exact c7 _)];simp only[go_sem]
 .simp only[go_sem];rw[cD (by rw[qk];exact c7 _)];exact ahX
 simp only[go_sem]
theorem IX(r:RqM)(a:aP r)(e:r.ls.length<=8)(j:Nat)(n:UInt64)(s:List UInt8)(f:Bool)(hs:s.length<=200000):(ql r j n s f).length<=9/\∀x,x∈ql r j n s f->x.s.length<=200000:=by
 have one:∀y:IT,y.s.length<=200000->[y].length<=9/\∀x,x∈[y]->x.s.length<=200000:=fun y c=>⟨η,fun x hx=>by rw[n4.1 hx];exact c⟩
 unfold ql;split
 .exact one _ (gi _)
 split
 .split
  .exact one _ hs
  .exact one _ hs
 split
 .exact one _ (gi _)
 split
 .refine⟨by rw[nN _ _ (c7 _)];omega,fun x hx=>?_⟩;rw[kR] at hx;rcases hZ.1 hx with rfl|hx
  .exact gi _
  .obtain⟨b,d,rfl⟩:=o4.1 hx;have:=a.el b (List.mem_of_mem_take d);show b.length<=200000;omega
 split
 .exact one _ (gi _)
 .exact aiS
theorem MP(r:RqM)(a:aP r)(j:Nat):((j4 r).getD j []).length<=200000:=by
 have h1:=a.rp;have h2:=a.us;have b:=a.nm;have c:=a.bx;have d:=a.pf;have e:=a.id;have:∀s,s∈j4 r->s.length<=200000:=by
  intro s hs;simp only[j4,hZ,List.not_mem_nil,or_false] at hs;rcases hs with rfl|rfl|rfl|rfl|rfl|rfl|rfl|rfl|rfl|rfl|rfl|rfl|rfl|rfl|rfl|rfl|rfl|rfl|rfl|rfl<;>first|exact gi _|omega
 rcases ea j (j4 r).length with h|h
 .rw[show(j4 r).getD j []=(j4 r)[j]'h from by simp[cR,h]];exact this _ (ix _)
 .rw[show(j4 r).getD j []=[] from by simp[cR,h]];exact gi _
theorem E3(r:RqM)(a:aP r)(b:r.ls.length<=8):P6 (cN r 20):=by
 refine⟨gw r 20,fun j=>?_⟩;rcases ea j 20 with h|h
 .have e:(cN r 20).getD j []=if 1<=j/\j<20 then vO r j else[]:=by simp[cN,cR,h]
  rw[e];split
  .exact IX r a b j _ _ _ (MP r a j)
  .exact aiS
 .rw[show(cN r 20).getD j []=[] from by simp[cR,gw,h]];exact aiS
theorem IY(r:RqM)(g:aP r):∃b e,b.length<200000000/\FPure prog 209 [rqA r] (.tup [blA b,.i e]):=by
 have hv:=j5 r g;by_cases hz:l8 r=0
 case neg =>
  refine⟨[],l8 r,Nat.succ_pos _,?_⟩;generalize l8 r=e at *;apply ba f209 [0,1,2,3,4,5,9];intro c J l Y Z;exact ahY
 have ho:=gf hz;obtain⟨b,o,f⟩:=CX _ (E3 r g ho.ls);have j:=ym r g.ls;have d:=gw r 20;refine⟨UInt8.ofNat r.kd.toNat::b,0,by rw[ew];omega,?_⟩;rw[hz] at hv;have m:=Qv r.kd (by have:=ho.kd;omega) (by have:=ho.kd;omega);generalize cN r 20=F at *;apply ba f209 [0,1,2,3,4,5,9];intro c J l Y Z;have k:∀cs:List AV,cs.length=20->bY cs 0 (mA qT F)=mA qT F:=fun cs h=>by have:=dG (mA qT F) cs [] (by rw[ko,d,h]);simpa using this
 refine aky ?_;apply aa Z j;simp only[go_sem,J,k,d,m,show Nat.beq 20 20=true from rfl,show Nat.ble 1 20=true from rfl]
 first|refine df Y (ks:=[0,1,2,3,4,5,9]) (n:=2000) ?_ ?_ rfl (by rw[J];exact f) (by simp only[go_sem,ax]) ?_|refine dg Y (ks:=[0,1,2,3,4,5,9]) (n:=2000) ?_ ?_ rfl (by rw[J];exact f) (by simp only[go_sem,ax]) ?_
 .simp only[go_sem];rw[iB qT F 20 d];exact aJ _
 .simp only[go_sem,d];rw[iB qT F 20 d];exact aG _
 simp only[go_sem,J];have e:∀a:PV,(AV.p a::c' AV.p (c' bt b))=(a::c' bt b).map AV.p:=fun a=>rfl
 rw[e,cD ζ];exact⟨⟨ω,ω⟩,π,⟨ω,aG _⟩,ω,aJ _⟩
theorem yn(r:RqM)(a:aP r):∃w,FPure prog 134 [rqA r] (.w w):=by
 have hv:=j5 r a;by_cases hz:l8 r=0
 case neg =>
  refine⟨0,?_⟩;generalize l8 r=e at *;apply ba f134 [0,1,2,3,7];intro c J d Y Z;exact ahY
 obtain⟨b,e,g,f⟩:=IY {r with au:=0,ha:=false} ⟨a.rp,a.us,a.nm,a.ls,a.bx,a.pf,a.id,a.el⟩;have hh:=fS 21 b b.length rfl ω ε ε;rw[hz] at hv;refine⟨bA (e' (21:Int).toNat) 0 b,?_⟩;generalize bA (e' (21:Int).toNat) 0 b=y at *;apply ba f134 [0,1,2,3,7];intro c J d Y Z;refine aky ?_;apply aa Z f;exact agZ
abbrev wkT:Nat:=311
abbrev wB(w:Wkp):List (Nat×Option Blk):=[(0,some ⟨wkT,wkC w⟩)]
def bG(er e:Int):Int:=if er=0 then e else er
theorem aW(w:Wkp)(e:Int):Con prog 261 [.ptr 0 0,.i e] (wB w) (.b (decide (¬bG w.er e=0))) (wB {w with er:=bG w.er e}):=by
 obtain⟨R,d⟩:∃R,bG w.er e=R:=⟨_,rfl⟩;rw[d];unfold bG at d;by_cases h:w.er=0
 .rw[b9 h] at d;subst d;by_cases f:e=0
  .subst f;apply bn 1 f261 [0,1,4,9];intro c J g Y Z;simp only[go_sem,J,h];refine aq [0] rfl ?_ ?_ rfl rfl (fun i a=>by simp at a;subst a;exact⟨rfl,ξ⟩) (fun i a=>by simp[liveK] at a;simp;omega)
   .simp only[go_sem];decide
   .simp only[go_sem]
  .apply bn 1 f261 [0,1,4,9];intro c J g Y Z;simp only[go_sem,J,h,f];refine aq [0] rfl ?_ ?_ rfl rfl (fun i a=>by simp at a;subst a;exact⟨rfl,ξ⟩) (fun i a=>by simp[liveK] at a;simp;omega)
   .simp only[go_sem,f,decide_true]
   .simp only[go_sem]
 .rw[b0 h] at d;subst d;apply bn 1 f261 [0,1,4,9];intro c J g Y Z;simp only[go_sem,J,h];refine aq [0] rfl ?_ ?_ rfl rfl (fun i a=>by simp at a;subst a;exact⟨rfl,ξ⟩) (fun i a=>by simp[liveK] at a;simp;omega)
  .simp only[go_sem,h,decide_true]
  .simp only[go_sem]
theorem MQ(w:Wkp)(h:w.er=0)(e:Int)(a:¬e=0):Con prog 261 [.ptr 0 0,.i e] (wB w) (.b true) (wB {w with er:=e}):=by
 have:=aW w e;rw[show bG w.er e=e from b9 h,qi a] at this;exact this
theorem qm(w:Wkp)(h:w.er=0):Con prog 261 [.ptr 0 0,.i 0] (wB w) (.b false) (wB w):=by
 have:=aW w 0;rw[show bG w.er 0=0 from b9 h,p4 ε] at this
 rwa [show{w with er:=0}=w from by rw[<-h]] at this
def iV(w:Wkp)(x:Dvp)(left e:Int):Wkp:={w with d:=x,bu:=if e=0\/e=16 then left else w.bu,er:=bG w.er e}
theorem nP(w:Wkp)(x:Dvp)(left e:Int):Con prog 266 [.ptr 0 0,.agg (dvC x),.i left,.i e] (wB w) (.tup []) (wB (iV w x left e)):=by
 by_cases b:e=0
 .have a:=aW {w with d:=x,bu:=left} e;have f:iV w x left e={w with d:=x,bu:=left,er:=bG w.er e}:=by unfold iV;rw[b9 (.inl b)]
  rw[f];apply bn 1 f266 [0,1,2,3,5,17];intro c J g Y Z;simp only[go_sem,J,b];rw[b] at a;refine x_k Z 2 a ?_;simp only[go_sem];refine aq [0] rfl ?_ ?_ rfl rfl (fun i hi=>by simp at hi;subst hi;exact⟨rfl,ξ⟩) (fun i hi=>by simp[liveK] at hi;simp;omega)
  .simp only[go_sem]
  .simp only[go_sem,b]
 by_cases h1:e=16
 .have a:=aW {w with d:=x,bu:=left} e;have f:iV w x left e={w with d:=x,bu:=left,er:=bG w.er e}:=by unfold iV;rw[b9 (.inr h1)]
  rw[f];apply bn 1 f266 [0,1,2,3,5,17];intro c J g Y Z;simp only[go_sem,J,h1];rw[h1] at a;refine x_k Z 2 a ?_;simp only[go_sem];refine aq [0] rfl ?_ ?_ rfl rfl (fun i hi=>by simp at hi;subst hi;exact⟨rfl,ξ⟩) (fun i hi=>by simp[liveK] at hi;simp;omega)
  .simp only[go_sem]
  .simp only[go_sem,h1]
 .have a:=aW {w with d:=x} e;have f:iV w x left e={w with d:=x,er:=bG w.er e}:=by unfold iV;rw[b0 ω]
  rw[f];apply bn 1 f266 [0,1,2,3,5,17];intro c J g Y Z;simp only[go_sem,J,b,h1];refine x_k Z 2 a ?_;simp only[go_sem];exact Φ
theorem P8(w:Wkp)(d:aU)(a:w.d=bp d)(hv:VLen d.v.prs)(b:(vgetM 2 d.v.prs).length<=4)(e:(vgetM 1 d.v.prs).length<=8) :
 Con prog 267 [.ptr 0 0] (wB w) (.w (jZ d)) (wB {w with d:=bp (l5 d)}):=by
 have f:=tG d hv b e;generalize jZ d=y at *;generalize l5 d=d' at *;apply bn 1 f267 [0,2,3,4];intro c J g Y Z;simp only[go_sem,J,a];apply aa Z f;simp only[go_sem,J];exact Φ
def GN(w:Wkp):Rpp:=if w.er=0 then w.rep else{rp0 with er:=w.er}
theorem Yv(w:Wkp):Con prog 260 [.ptr 0 0] (wB w) (.tup [.agg (dvC w.d),.agg (rpC (GN w)),.i w.bu]) (wB w):=by
 unfold GN;by_cases h:w.er=0
 .rw[b9 h];apply bn 1 f260 [0,2,3,4,9];intro c J a Y Z;simp only[go_sem,J,h];refine⟨π,?_⟩;exact Φ
 .rw[b0 h];apply bn 1 f260 [0,2,3,4,9];intro c J a Y Z;simp only[go_sem,J,h];refine⟨π,?_⟩;exact Φ
def SlOkB(s:SlP):Prop:=s = .nil\/∃b:List UInt8,b.length<2000/\s = .d 1 b.length (b.map bt)
structure MS(x:Rpp):Prop where
 ad:SlOkB x.ad
 id:SlOkB x.id
theorem Yw:MS rp0:=⟨.inl rfl,.inl rfl⟩
structure W(f:aO)(G:Int)(r:RqM)(gs:List (Int×Int))(w:Wkp):Prop where
 d:∃d,w.d=bp d/\(w.er=0->DOn f d G)/\DInv f d G
 r:w.r=rqP r
 g:w.g = .d 2 gs.length (gsP gs)
 bu:i64 w.bu
 rep:MS w.rep
theorem W.mono{f:aO}{G H:Int}{r:RqM}{gs:List (Int×Int)}{w:Wkp}(h:W f G r gs w)(hg:G<=H):W f H r gs w:=by
 obtain⟨d,h1,h2,a⟩:=h.d;exact⟨⟨d,h1,fun b=>(h2 b).mono hg,a.mono hg⟩,h.r,h.g,h.bu,h.rep⟩
theorem W.fail{f:aO}{G:Int}{r:RqM}{gs:List (Int×Int)}{w:Wkp}(h:W f G r gs w)(e:Int):W f G r gs {w with er:=bG w.er e}:=by
 obtain⟨d,h1,h2,c⟩:=h.d;exact⟨⟨d,h1,fun a=>h2 (by have a:bG w.er e=0:=a;unfold bG at a;by_cases b:w.er=0;exact b;rw[b0 b] at a;exact a),c⟩,h.r,h.g,h.bu,h.rep⟩
theorem W.setd{f:aO}{G:Int}{r:RqM}{gs:List (Int×Int)}{w:Wkp}(h:W f G r gs w)(d:aU)(a:DOn f d G):W f G r gs {w with d:=bp d} :=
 ⟨⟨d,rfl,fun _=>a,.inl a⟩,h.r,h.g,h.bu,h.rep⟩
theorem W.setrep{f:aO}{G:Int}{r:RqM}{gs:List (Int×Int)}{w:Wkp}(h:W f G r gs w)(x:Rpp)(a:MS x):W f G r gs {w with rep:=x}:=⟨h.d,h.r,h.g,h.bu,a⟩
theorem W.take{f:aO}{G:Int}{r:RqM}{gs:List (Int×Int)}{w:Wkp}(h:W f G r gs w)(c:w.er=0){d:aU}(b:DOn f d G){T:DR}(i:Ans d w.bu T)(j:G<1000000):W f (G+1) r gs (iV w (bp T.d) T.left T.e):=by
 obtain⟨h1,h2⟩:=i.way b j h.bu;refine⟨⟨T.d,rfl,fun a=>?_,h2.inv b⟩,h.r,h.g,?_,h.rep⟩
 .have a:bG w.er T.e=0:=a;unfold bG at a;rw[b9 c] at a;rcases h2 with⟨-,h2⟩|⟨h2,-⟩|⟨h2,-⟩
  .exact h2
  .rw[a] at h2;cases h2
  .exact s5 a h2
 .show i64 (if T.e=0\/T.e=16 then T.left else w.bu);split
  .exact h1
  .exact h.bu
theorem MT{w:Wkp}(a:w.er=0)(x:Dvp)(l e:Int):(iV w x l e).er=e:=by show bG w.er e=e;unfold bG;rw[b9 a]
theorem DOn.upd{f:aO}{d e:aU}{G:Int}(h:DOn f d G)(h1:e.fac=d.fac)(h2:e.on=d.on)(c:0<=e.now/\e.now<=1099511627776)(g:e.nx.ids.length<1000/\∀b,b∈e.nx.ids->b.length=176)(a:e.v=d.v):DOn f e G :=
 ⟨h1.trans h.fac,h2.trans h.on,c,g,by rw[a];exact h.len,by rw[a];exact h.ok,by rw[a];exact h.st,by rw[a];exact h.bo⟩
theorem DOn.vl{f:aO}{d:aU}{G:Int}(h:DOn f d G):VLen d.v.prs:=h.ok.vlen
theorem P9(e:Int):(e != 0)=decide (¬e=0):=by by_cases h:e=0<;>simp[h]
theorem Au(e:Int):(e==0)=decide (e=0):=by by_cases h:e=0<;>simp[h]
theorem jH{f:aO}{G:Int}{r:RqM}{gs:List (Int×Int)}{w:Wkp}(h:W f G r gs w)(o:G<1000000)(l:ai)(q:∀x,x∈l->p7 x)(j:l.length<300)(n:Nat)(cs:List PV)(s:cs=gB l\/cs=tu l)(t:n=l.length):∃w',W f (G+1) r gs w'/\(w'.er=0->w.er=0) /\
 Con prog 280 [.ptr 0 0,.p (.data 2 n cs)] (wB w) (.b (decide (¬w'.er=0))) (wB w'):=by
 by_cases a:w.er=0
 case neg =>
  refine⟨w,h.mono ω,id,?_⟩;rw[qi a];apply bn 1 f280 [0,1,4,9];intro c J u Y Z;simp only[go_sem,J,a];exact Φ
 obtain⟨d,h1,h2,A⟩:=h.d;have k:=h2 a;obtain⟨v,m⟩:=nX d l w.bu k.len k.vl q j h.bu;have y:FPure prog 36 [bg d,.p (.data 2 n cs),.i w.bu] (th (dF d l w.bu)):=by
  subst t;rcases s with rfl|rfl
  .exact m
  .exact pn m _ rfl _ rfl
 refine⟨iV w (bp (dF d l w.bu).d) (dF d l w.bu).left (dF d l w.bu).e,h.take a k v o,fun _=>a,?_⟩;generalize dF d l w.bu=T at *;have z:=nP w (bp T.d) T.left T.e;have g:=MT a (bp T.d) T.left T.e;generalize iV w (bp T.d) T.left T.e=w' at *;rw[g];apply bn 1 f280 [0,1,4,9];intro c J u Y Z;simp only[go_sem,J,a,h1];apply aa Z y;simp only[go_sem];refine x_k Z 1 z ?_;simp only[go_sem,J,g];refine⟨π,?_⟩;refine aq [0] rfl ?_ ?_ rfl rfl (fun i hi=>by simp at hi;subst hi;exact⟨rfl,ξ⟩) (fun i hi=>by simp[liveK] at hi;simp;omega)
 .simp only[go_sem,P9]
 .simp only[go_sem]
theorem fH{f:aO}{G:Int}{r:RqM}{gs:List (Int×Int)}{w:Wkp}(h:W f G r gs w)(pm:Int):∃w',W f G r gs w'/\w'.er=w.er /\
 Con prog 272 [.ptr 0 0,.i pm] (wB w) (.tup []) (wB w'):=by
 by_cases a:w.er=0
 case neg =>
  refine⟨w,h,rfl,?_⟩;apply bn 1 f272 [0,1,15];intro c J e Y Z;simp only[go_sem,J,a];exact Φ
 obtain⟨d,h1,h2,k⟩:=h.d;have g:=h.r;cases ha:r.ha with
 |false =>
  refine⟨w,h,rfl,?_⟩;apply bn 1 f272 [0,1,15];intro c J e Y Z;simp only[go_sem,J,a,g,ha];exact Φ
 |true =>
  have b:=h2 a;have j:=ZC d.tok pm;refine⟨_,h.setd {d with tok:=Ny d.tok pm} (b.upd rfl rfl b.now b.ids rfl),rfl,?_⟩;generalize Ny d.tok pm=t at *;apply bn 1 f272 [0,1,15];intro c J e Y Z;simp only[go_sem,J,a,g,ha,h1];refine akZ ?_;refine aq [0] rfl ?_ ?_ rfl rfl (fun i hi=>by simp at hi;subst hi;exact⟨rfl,ξ⟩) (fun i hi=>by simp[liveK] at hi;simp;omega)
  .simp only[go_sem]
  .rw[h1];simp only[go_sem];exact l7 _ _ _ _
theorem W.el{f:aO}{G:Int}{r:RqM}{gs:List (Int×Int)}{w:Wkp}(h:W f G r gs w){w':Wkp}(h1:w'.d=w.d)(h2:w'.r=w.r)(a:w'.g=w.g)(b:w'.bu=w.bu)(c:w'.rep=w.rep)(e:w'.er=0->w.er=0):W f G r gs w':=by
 obtain⟨d,i,j,k3⟩:=h.d;exact⟨⟨d,h1.trans i,fun k=>j (e k),k3⟩,h2.trans h.r,a.trans h.g,by rw[b];exact h.bu,by rw[c];exact h.rep⟩
theorem Av{a e:Int}(h:bG a e=0):a=0:=by
 unfold bG at h;by_cases b:a=0
 .exact b
 .rw[b0 b] at h;exact h
theorem iA{f:aO}{G:Int}{r:RqM}{gs:List (Int×Int)}{w:Wkp}(h:W f G r gs w)(j:aP r)(pm:Int)(rp:List UInt8):∃w' b,W f G r gs w'/\((w'.er=0->w.er=0)/\w'.rep=w.rep)/\w'.d=w.d /\
 Con prog 262 [.ptr 0 0,.i pm,sv rp] (wB w) (.b b) (wB w'):=by
 have a:=h.r;cases ha:r.ha with
 |false =>
  refine⟨w,false,h,⟨id,rfl⟩,rfl,?_⟩;apply bn 1 f262 [0,1,2,6,12];intro c J k Y Z;simp only[go_sem,J,a,ha];exact Φ
 |true =>
  obtain⟨d,h1,h2,o⟩:=h.d;obtain⟨y,l⟩:=yn r j;have hv:=Ji d.tok d.now pm rp y r.au;generalize Qy d.tok d.now pm rp y r.au=e at *;have m:=aW w e;refine⟨_,decide (bG w.er e=0),h.fail e,⟨fun n=>Av n,rfl⟩,rfl,?_⟩;generalize bG w.er e=e2 at *;have g:({w with er:=e2}:Wkp).er=e2:=rfl;generalize({w with er:=e2}:Wkp)=w2 at *;apply bn 1 f262 [0,1,2,6,12];intro c J k Y Z;simp only[go_sem,J,a,ha,h1];apply aa Z l;simp only[go_sem,J,a];apply aa Z hv;simp only[go_sem];refine x_k Z 1 m ?_;simp only[go_sem,J,g];refine⟨π,?_⟩;refine aq [0] rfl ?_ ?_ rfl rfl (fun i hi=>by simp at hi;subst hi;exact⟨rfl,ξ⟩) (fun i hi=>by simp[liveK] at hi;simp;omega)
  .simp only[go_sem];exact Au e2
  .simp only[go_sem]
theorem AE(h:bv)(S:List Nat)(σ:Nat->Nat):∀(a:List AV) (b:List PV),cy a (b.map .p)->aj h S σ a (b.map .p)
 |[],[],_=>by simp[aj]
 |[],_::_,he=>by simp[cy] at he
 |_::_,[],he=>by simp[cy] at he
 |v::a,y::b,he=>by
  simp only[hX,cy] at he;obtain⟨x,rfl,e⟩:=He he.1;simp only[hX,aj,aS];refine⟨?_,AE h S σ a b he.2⟩;rcases tX e with rfl|⟨s,rfl,rfl⟩
  .exact eX _ _ _
  .simp only[ep];exact .inr ⟨trivial,trivial,trivial⟩
structure Hid(B:Prop):Prop where
 h:B
theorem gj(i:Nat)(b:Blk)(v:AV):∀(l:List AV) (k:Nat),fJ i b (l.set k v)=(fJ i b l).set k (fz1 i b v)
 |[],_=>rfl
 |a::l,0=>rfl
 |a::l,k+1=>by show fz1 i b a::fJ i b (l.set k v)=_;rw[gj i b v l k];rfl
theorem bR{i:Nat}{b:Blk}{v:AV}(hv:xl i b v):∀(l:List AV) (k:Nat),eU i b l->eU i b (l.set k v)
 |[],_,h=>h
 |a::l,0,h=>⟨hv,h.2⟩
 |a::l,k+1,h=>⟨h.1,bR hv l k h.2⟩
theorem eS{α:Type}{l:List α}{i:Nat}(h:i<l.length)(x:α):l.getD i x∈l:=by
 rw[show l.getD i x=l[i]'h from by simp[cR,h]];exact ix _

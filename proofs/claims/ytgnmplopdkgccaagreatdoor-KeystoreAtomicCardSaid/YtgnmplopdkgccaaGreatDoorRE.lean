/- own work: steps of the proof -/
import Derived.Test.YtgnmplopdkgccaaGreatDoorQw
set_option linter.all false
set_option maxRecDepth 100000
set_option maxHeartbeats 4000000
open Go.IntKind renaming i64→a'
namespace Go.Abs
open RowKit Proofs Proofs.Tryz
structure AwR where
 pr:Bool
 vf:Bool
 tm:Int
 e:Int
def awK(fi ve:Bool)(k tm:Int):Option AwR :=
 if k=1 then(if ve then none else some ⟨true,false,tm,0⟩) else
 if k=2 then(if fi then some ⟨true,true,tm,0⟩ else if ve then none else some ⟨true,false,tm,0⟩) else
 if k=3 then(if ve then some ⟨false,false,0,20⟩ else some ⟨true,false,tm,0⟩) else
 if k=4 then some ⟨false,false,0,20⟩ else if k=5 then some ⟨false,false,0,21⟩ else none
def awL(fi ve:Bool)(tm:Int):List (Int×Int)->Option AwR
 |[]=>none
 |g::l=>if g.1=tm then(match awK fi ve g.2 tm with|some r=>some r|none=>awL fi ve tm l) else awL fi ve tm l
def awT(fi ve:Bool)(l:List (Int×Int))(tm:Int):Nat->AwR
 |0=>⟨false,false,0,19⟩
 |k+1=>match awL fi ve tm l with|some r=>r|none=>awT fi ve l (tm+1) k
def rR(r:AwR):List AV:=[.b r.pr,.b r.vf,.i r.tm]
def MU(r:AwR):AV := .tup [.agg (rR r),.i r.e]
attribute [go_sem] MU rR
theorem vP(fi ve:Bool)(a:Int)(l:List (Int×Int))(i:Nat)(h:i<l.length):awL fi ve a (l.drop i)=if(l.getD i (0,0)).1=a then(match awK fi ve (l.getD i (0,0)).2 a with|some r=>some r|none=>awL fi ve a (l.drop (i+1))) else awL fi ve a (l.drop (i+1)):=by
 rw[hE h,awL];exact agO
theorem E4(l:List (Int×Int))(i:Nat)(h:i<l.length):(gsP l).drop (i*2) = .v (.int .i64 (l.getD i (0,0)).1) :: .v (.int .i64 (l.getD i (0,0)).2)::gsP (l.drop (i+1)):=by
 induction l generalizing i with
 |nil=>simp at h
 |cons p l a =>
  cases i with
  |zero=>simp[gsP]
  |succ i =>
   have:=a i χ
   rw[show(gsP (p::l)).drop ((i+1)*2)=(gsP l).drop (i*2) from by
    show((PV.v (.int .i64 p.1))::(PV.v (.int .i64 p.2))::gsP l).drop ((i+1)*2)=_
    rw[(ω:(i+1)*2=i*2+1+1),List.drop_succ_cons,List.drop_succ_cons],this]
   simp
theorem adB{fi ve:Bool}{k a:Int}{r:AwR}(h:awK fi ve k a=some r):r.e=0->r.tm=a:=by
 unfold awK at h;intro b
 repeat' split at h
 all_goals first|(cases h;rfl)|(cases h;cases b)|cases h
theorem MV{fi ve:Bool}{a:Int}{r:AwR}:∀{l:List (Int×Int)},awL fi ve a l=some r->r.e=0->r.tm=a
 |[],h=>by cases h
 |g::l,h=>by
  rw[awL] at h;split at h
  .split at h
   .rename_i b;cases h;exact adB b
   .exact MV h
  .exact MV h
theorem Q9(fi ve:Bool)(l:List (Int×Int)):∀(k:Nat) (tm:Int),(awT fi ve l tm k).e=0->tm<=(awT fi ve l tm k).tm/\(awT fi ve l tm k).tm<tm+k
 |0,tm,h=>by cases h
 |k+1,tm,h=>by
  rw[awT] at h⊢;split at h
  .rename_i r a;rw[MV a h];omega
  .have:=Q9 fi ve l k (tm+1) h;omega
def ajI:List Nat:=[0,1,2,3,8,9,10,11,12,18,24,32,38,47,78,86,98,117]
attribute[go_sem]ajI
theorem E5(now m:Int)(u:0<=now/\now<=1099511627776)(l:List (Int×Int))(v:l.length<1000000)(hm:(if(1099511627776:Int)<now+30 then 1099511627776 else now+30)=m)(V:AwR)(p:awT false false l (now+1) (m-now).toNat=V) :
 FPure prog 326 [.i now,.b false,.b false,gsA l] (MU V):=by
 have q:now<=m/\m<=1099511627776/\m<=now+30:=by split at hm<;>omega
 have w1:a'.wrap (now+1)=now+1:=ab ω ω;have w30:a'.wrap (now+30)=now+30:=ab ω ω;refine ba f326 ajI ?_;intro c J n Y Z;simp only[go_sem,J,(ω:¬(now<0)),(ω:¬(now>1099511627776)),w1];refine bl Y n ajI (α:={tm:Int // now+1<=tm/\tm<=m+1/\awT false false l tm (m+1-tm).toNat=V}) (fun i=>⟨126,[(0,.i now),(1,.b false),(2,.b false),(3,gsA l),(8,.ptr 0 0),(10,.i i.1)],[(0,some ⟨316,[.b false,.b false,.i 0]⟩)],1⟩) (fun i=>(m+1-i.1).toNat) ⟨now+1,ω,ω,by rw[<-p];congr 1;omega⟩ [] (fun i=>i) ⟨rfl,?_,?_,rfl,rfl,trivial,fun i h=>h⟩ ?_
 .simp only[go_sem]
 .simp only[go_sem]
 rintro⟨tm,ha,r,hc⟩;dsimp only at ha r hc⊢;by_cases hle:tm<=m
 case neg =>
  exact ahB
 have s:a'.wrap (tm+1)=tm+1:=ab ω ω;rw[(ω:(m+1-tm).toNat=(m+1-(tm+1)).toNat+1),awT] at hc;obtain⟨U,o⟩:∃U,awL false false tm l=U:=⟨_,rfl⟩
 rw[o] at hc;simp only[go_sem,w30,hm,sy hle];refine bl Y n ajI (α:={i:Nat // i<=l.length/\awL false false tm (l.drop i)=U}) (fun i=>⟨126,[(0,.i now),(1,.b false),(2,.b false),(3,gsA l),(8,.ptr 0 0),(10,.i tm),(11,.i i.1)],[(0,some ⟨316,[.b false,.b false,.i 0]⟩)],1⟩) (fun i=>l.length-i.1) ⟨0,gi _,o⟩ [] (fun i=>i) ⟨rfl,?_,?_,rfl,rfl,trivial,fun i h=>h⟩ ?_
 .simp only[go_sem]
 .simp only[go_sem]
 rintro⟨i,t,d⟩;dsimp only at t d⊢;rcases ea i l.length with e|e
 case inr =>
  rw[l2 e,awL] at d;subst d;simp only[go_sem,J,(ω:¬((i:Int)<(l.length:Int))),s];refine⟨⟨tm+1,ω,ω,hc⟩,by dsimp only;omega,?_⟩;exact afL
 have hw:=ac i
 have hat:=E4 l i e;rw[vP false false tm l i e] at d;generalize(l.getD i (0,0)).1=a at *;generalize(l.getD i (0,0)).2=k at *;have hlt:((i:Int)<(l.length:Int)):=ω;by_cases hta:a=tm
 case neg =>
  rw[b0 hta] at d;simp only[go_sem,J,sy hlt,hat,hw,hta];refine⟨ω,⟨i+1,ω,d⟩,by dsimp only;omega,?_⟩;exact afL
 rw[b9 hta] at d;by_cases h1:k=1
 .subst h1;have d:some ⟨true,false,tm,0⟩=U:=d;subst d;have hc:⟨true,false,tm,0⟩=V:=hc;exact afP
 by_cases h2:k=2
 .subst h2;have d:some ⟨true,false,tm,0⟩=U:=d;subst d;have hc:⟨true,false,tm,0⟩=V:=hc;exact afP
 by_cases f:k=3
 .subst f;have d:some ⟨true,false,tm,0⟩=U:=d;subst d;have hc:⟨true,false,tm,0⟩=V:=hc;exact afP
 by_cases g:k=4
 .subst g;have d:some ⟨false,false,0,20⟩=U:=d;subst d;have hc:⟨false,false,0,20⟩=V:=hc;exact afP
 by_cases j:k=5
 .subst j;have d:some ⟨false,false,0,21⟩=U:=d;subst d;have hc:⟨false,false,0,21⟩=V:=hc;exact afP
 have d:awL false false tm (l.drop (i+1))=U:=by rw[<-d];unfold awK;simp only[h1,h2,f,g,j,if_false]
 simp only[go_sem,J,sy hlt,hat,hw,sy hta,h1,h2,f,g,j]
 repeat (refine⟨ω,?_⟩)
 refine⟨⟨i+1,ω,d⟩,by dsimp only;omega,?_⟩;exact afL
theorem E6(now m:Int)(u:0<=now/\now<=1099511627776)(l:List (Int×Int))(v:l.length<1000000)(hm:(if(1099511627776:Int)<now+30 then 1099511627776 else now+30)=m)(V:AwR)(p:awT true false l (now+1) (m-now).toNat=V) :
 FPure prog 326 [.i now,.b true,.b false,gsA l] (MU V):=by
 have q:now<=m/\m<=1099511627776/\m<=now+30:=by split at hm<;>omega
 have w1:a'.wrap (now+1)=now+1:=ab ω ω;have w30:a'.wrap (now+30)=now+30:=ab ω ω;refine ba f326 ajI ?_;intro c J n Y Z;simp only[go_sem,J,(ω:¬(now<0)),(ω:¬(now>1099511627776)),w1];refine bl Y n ajI (α:={tm:Int // now+1<=tm/\tm<=m+1/\awT true false l tm (m+1-tm).toNat=V}) (fun i=>⟨126,[(0,.i now),(1,.b true),(2,.b false),(3,gsA l),(8,.ptr 0 0),(10,.i i.1)],[(0,some ⟨316,[.b false,.b false,.i 0]⟩)],1⟩) (fun i=>(m+1-i.1).toNat) ⟨now+1,ω,ω,by rw[<-p];congr 1;omega⟩ [] (fun i=>i) ⟨rfl,?_,?_,rfl,rfl,trivial,fun i h=>h⟩ ?_
 .simp only[go_sem]
 .simp only[go_sem]
 rintro⟨tm,ha,r,hc⟩;dsimp only at ha r hc⊢;by_cases hle:tm<=m
 case neg =>
  exact ahB
 have s:a'.wrap (tm+1)=tm+1:=ab ω ω;rw[(ω:(m+1-tm).toNat=(m+1-(tm+1)).toNat+1),awT] at hc;obtain⟨U,o⟩:∃U,awL true false tm l=U:=⟨_,rfl⟩
 rw[o] at hc;simp only[go_sem,w30,hm,sy hle];refine bl Y n ajI (α:={i:Nat // i<=l.length/\awL true false tm (l.drop i)=U}) (fun i=>⟨126,[(0,.i now),(1,.b true),(2,.b false),(3,gsA l),(8,.ptr 0 0),(10,.i tm),(11,.i i.1)],[(0,some ⟨316,[.b false,.b false,.i 0]⟩)],1⟩) (fun i=>l.length-i.1) ⟨0,gi _,o⟩ [] (fun i=>i) ⟨rfl,?_,?_,rfl,rfl,trivial,fun i h=>h⟩ ?_
 .simp only[go_sem]
 .simp only[go_sem]
 rintro⟨i,t,d⟩;dsimp only at t d⊢;rcases ea i l.length with e|e
 case inr =>
  rw[l2 e,awL] at d;subst d;simp only[go_sem,J,(ω:¬((i:Int)<(l.length:Int))),s];refine⟨⟨tm+1,ω,ω,hc⟩,by dsimp only;omega,?_⟩;exact afL
 have hw:=ac i
 have hat:=E4 l i e;rw[vP true false tm l i e] at d;generalize(l.getD i (0,0)).1=a at *;generalize(l.getD i (0,0)).2=k at *;have hlt:((i:Int)<(l.length:Int)):=ω;by_cases hta:a=tm
 case neg =>
  rw[b0 hta] at d;simp only[go_sem,J,sy hlt,hat,hw,hta];refine⟨ω,⟨i+1,ω,d⟩,by dsimp only;omega,?_⟩;exact afL
 rw[b9 hta] at d;by_cases h1:k=1
 .subst h1;have d:some ⟨true,false,tm,0⟩=U:=d;subst d;have hc:⟨true,false,tm,0⟩=V:=hc;exact afP
 by_cases h2:k=2
 .subst h2;have d:some ⟨true,true,tm,0⟩=U:=d;subst d;have hc:⟨true,true,tm,0⟩=V:=hc;exact afP
 by_cases f:k=3
 .subst f;have d:some ⟨true,false,tm,0⟩=U:=d;subst d;have hc:⟨true,false,tm,0⟩=V:=hc;exact afP
 by_cases g:k=4
 .subst g;have d:some ⟨false,false,0,20⟩=U:=d;subst d;have hc:⟨false,false,0,20⟩=V:=hc;exact afP
 by_cases j:k=5
 .subst j;have d:some ⟨false,false,0,21⟩=U:=d;subst d;have hc:⟨false,false,0,21⟩=V:=hc;exact afP
 have d:awL true false tm (l.drop (i+1))=U:=by rw[<-d];unfold awK;simp only[h1,h2,f,g,j,if_false]
 simp only[go_sem,J,sy hlt,hat,hw,sy hta,h1,h2,f,g,j]
 repeat (refine⟨ω,?_⟩)
 refine⟨⟨i+1,ω,d⟩,by dsimp only;omega,?_⟩;exact afL
theorem E7(now m:Int)(u:0<=now/\now<=1099511627776)(l:List (Int×Int))(v:l.length<1000000)(hm:(if(1099511627776:Int)<now+30 then 1099511627776 else now+30)=m)(V:AwR)(p:awT true true l (now+1) (m-now).toNat=V) :
 FPure prog 326 [.i now,.b true,.b true,gsA l] (MU V):=by
 have q:now<=m/\m<=1099511627776/\m<=now+30:=by split at hm<;>omega
 have w1:a'.wrap (now+1)=now+1:=ab ω ω;have w30:a'.wrap (now+30)=now+30:=ab ω ω;refine ba f326 ajI ?_;intro c J n Y Z;simp only[go_sem,J,(ω:¬(now<0)),(ω:¬(now>1099511627776)),w1];refine bl Y n ajI (α:={tm:Int // now+1<=tm/\tm<=m+1/\awT true true l tm (m+1-tm).toNat=V}) (fun i=>⟨126,[(0,.i now),(1,.b true),(2,.b true),(3,gsA l),(8,.ptr 0 0),(10,.i i.1)],[(0,some ⟨316,[.b false,.b false,.i 0]⟩)],1⟩) (fun i=>(m+1-i.1).toNat) ⟨now+1,ω,ω,by rw[<-p];congr 1;omega⟩ [] (fun i=>i) ⟨rfl,?_,?_,rfl,rfl,trivial,fun i h=>h⟩ ?_
 .simp only[go_sem]
 .simp only[go_sem]
 rintro⟨tm,ha,r,hc⟩;dsimp only at ha r hc⊢;by_cases hle:tm<=m
 case neg =>
  exact ahB
 have s:a'.wrap (tm+1)=tm+1:=ab ω ω;rw[(ω:(m+1-tm).toNat=(m+1-(tm+1)).toNat+1),awT] at hc;obtain⟨U,o⟩:∃U,awL true true tm l=U:=⟨_,rfl⟩
 rw[o] at hc;simp only[go_sem,w30,hm,sy hle];refine bl Y n ajI (α:={i:Nat // i<=l.length/\awL true true tm (l.drop i)=U}) (fun i=>⟨126,[(0,.i now),(1,.b true),(2,.b true),(3,gsA l),(8,.ptr 0 0),(10,.i tm),(11,.i i.1)],[(0,some ⟨316,[.b false,.b false,.i 0]⟩)],1⟩) (fun i=>l.length-i.1) ⟨0,gi _,o⟩ [] (fun i=>i) ⟨rfl,?_,?_,rfl,rfl,trivial,fun i h=>h⟩ ?_
 .simp only[go_sem]
 .simp only[go_sem]
 rintro⟨i,t,d⟩;dsimp only at t d⊢;rcases ea i l.length with e|e
 case inr =>
  rw[l2 e,awL] at d;subst d;simp only[go_sem,J,(ω:¬((i:Int)<(l.length:Int))),s];refine⟨⟨tm+1,ω,ω,hc⟩,by dsimp only;omega,?_⟩;exact afL
 have hw:=ac i
 have hat:=E4 l i e;rw[vP true true tm l i e] at d;generalize(l.getD i (0,0)).1=a at *;generalize(l.getD i (0,0)).2=k at *;have hlt:((i:Int)<(l.length:Int)):=ω;by_cases hta:a=tm
 case neg =>
  rw[b0 hta] at d;simp only[go_sem,J,sy hlt,hat,hw,hta];refine⟨ω,⟨i+1,ω,d⟩,by dsimp only;omega,?_⟩;exact afL
 rw[b9 hta] at d;by_cases h1:k=1
 .subst h1;have d:awL true true tm (l.drop (i+1))=U:=d;simp only[go_sem,J,sy hlt,hat,hw,sy hta]
  repeat (refine⟨ω,?_⟩)
  refine⟨⟨i+1,ω,d⟩,by dsimp only;omega,?_⟩;exact afL
 by_cases h2:k=2
 .subst h2;have d:some ⟨true,true,tm,0⟩=U:=d;subst d;have hc:⟨true,true,tm,0⟩=V:=hc;exact afP
 by_cases f:k=3
 .subst f;have d:some ⟨false,false,0,20⟩=U:=d;subst d;have hc:⟨false,false,0,20⟩=V:=hc;exact afP
 by_cases g:k=4
 .subst g;have d:some ⟨false,false,0,20⟩=U:=d;subst d;have hc:⟨false,false,0,20⟩=V:=hc;exact afP
 by_cases j:k=5
 .subst j;have d:some ⟨false,false,0,21⟩=U:=d;subst d;have hc:⟨false,false,0,21⟩=V:=hc;exact afP
 have d:awL true true tm (l.drop (i+1))=U:=by rw[<-d];unfold awK;simp only[h1,h2,f,g,j,if_false]
 simp only[go_sem,J,sy hlt,hat,hw,sy hta,h1,h2,f,g,j]
 repeat (refine⟨ω,?_⟩)
 refine⟨⟨i+1,ω,d⟩,by dsimp only;omega,?_⟩;exact afL
theorem MW(now:Int)(d:0<=now/\now<=1099511627776)(fi ve:Bool)(l:List (Int×Int))(f:l.length<1000000):∃r:AwR,(r.e=0->0<=r.tm/\r.tm<=1099511627776) /\
 FPure prog 326 [.i now,.b fi,.b ve,gsA l] (MU r):=by
 obtain⟨m,a⟩:∃m:Int,(if(1099511627776:Int)<now+30 then 1099511627776 else now+30)=m:=⟨_,rfl⟩;have h:now<=m/\m<=1099511627776/\m<=now+30:=by split at a<;>omega
 have g:∀fi ve,(awT fi ve l (now+1) (m-now).toNat).e=0->0<=(awT fi ve l (now+1) (m-now).toNat).tm/\(awT fi ve l (now+1) (m-now).toNat).tm<=1099511627776:=fun fi ve j=>by
  have:=Q9 fi ve l _ _ j;omega
 cases fi
 .cases ve
  .exact⟨_,g _ _,E5 now m d l f a _ rfl⟩
  .refine⟨⟨false,false,0,23⟩,fun c=>(by cases c),?_⟩;apply ba f326 ajI;intro c J k Y Z;simp only[go_sem,J,(ω:¬(now<0)),(ω:¬(now>1099511627776))]
 .cases ve
  .exact⟨_,g _ _,E6 now m d l f a _ rfl⟩
  .exact⟨_,g _ _,E7 now m d l f a _ rfl⟩

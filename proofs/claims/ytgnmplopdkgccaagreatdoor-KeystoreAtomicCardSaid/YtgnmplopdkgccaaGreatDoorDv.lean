/- own work: steps of the proof -/
import Derived.Test.YtgnmplopdkgccaaGreatDoorBn
import Derived.Test.YtgnmplopdkgccaaGreatDoorDa
set_option linter.all false
set_option maxRecDepth 100000
set_option maxHeartbeats 4000000
open Go.IntKind renaming i64→n',u64→o'
open Nat renaming lt_or_ge→r',lt_of_le_of_lt→s',le_refl→u'
namespace Go.Abs
open RowKit Proofs Proofs.Tryz
theorem OM{f:aO}(t:gV f=0){p:Pl}{G:Int}{N:Nat}(g:PlInv f p G N)(C:G<800000)(D:N<900)(a:Acp)(ha:Kx a):∃k x,PlInv f k (G+2) (N+2)/\FPure prog 55 [plA p,.agg (acC a)] (.tup [plA k,.agg (rpC x)]):=by
 cases b:a.pw with
 |true =>
  have ho:=K0 p.d;obtain⟨m,o⟩:=LC (Pu g.d) ω a.now a.bu ha.bu;have u:=Gf _ a.now a.bu m;generalize kV p.d.fac p.d.now (flOf p.d.v.j)=d1 at *;generalize mK d1 a.now a.bu=T at *;refine⟨⟨T.d,p.ids⟩,{rp0 with er:=T.e},⟨o,by have:=g.n;show p.ids.length<=_;omega,g.el⟩,?_⟩;refine en func55 ntmps55 results55 [0,1,2,3,4,5,6,8,9,10,13] ?_;intro c J y Y Z;simp only[go_sem,J,b];refine aa Z (by exact ho) ?_;simp only[go_sem,J];refine aa Z (by exact u) ?_;exact aiK
 |false =>
  obtain⟨r,gs,h1,h2,E,h⟩:=ha.r b;obtain⟨q,x,left,s,l⟩:=Tr t g.d ω a.now r h2 gs ω a.bu ha.bu;have l:=h1 l;have z:FPure prog 129 [bg p.d,.i a.now,.agg (rqC a.r),.p a.gs.pv,.i a.bu] (ne q x left):=by
   rcases h with h|⟨h,rfl⟩
   ·rw[h];exact l
   ·rw[h];exact l.nil ⟨eE _,eE _,eE _,⟨rfl,rfl⟩,eE _,trivial⟩
  obtain⟨k,A,B⟩:=OE (p:=⟨q,p.ids⟩) ⟨s.d,g.n,g.el⟩ ω x s.x;refine⟨k,x,A,?_⟩;refine en func55 ntmps55 results55 [0,1,2,3,4,5,6,8,9,10,13] ?_;intro c J y Y Z;simp only[go_sem,J,b];refine aa Z (by exact z) ?_;simp only[go_sem,J];refine aa Z (by exact B) ?_;simp only[go_sem,J];kernel_rfl
theorem F5(h:List (Nat×Option Blk)):∀(l:List AV) (k:Nat) (v:AV),fzL h (l.set k v)=(fzL h l).set k (fzA h v)
 |[],_,_=>rfl
 |a::l,0,v=>rfl
 |a::l,k+1,v=>by show fzA h a::fzL h (l.set k v)=_;rw[F5 h l k v];rfl
theorem BG{h:List (Nat×Option Blk)}{v:AV}(hv:fzO h v):∀(l:List AV) (k:Nat),ik h l->ik h (l.set k v)
 |[],_,h=>h
 |a::l,0,h=>⟨hv,h.2⟩
 |a::l,k+1,h=>⟨h.1,BG hv l k h.2⟩
theorem ON(x:Acp)(k o n z:Nat):dj ((acC x).set 23 (.sl k o n z))=[k]:=rfl
theorem aa8(x:Plp):dj (pyC x)=[]:=rfl
section
attribute[local go_sem]F5 ON aa8
theorem KH(f:aO)(n:Nat):StOk (bw f n):=by
 have a:∀k:Int,k≠1->k≠2->k≠16->vgetM k (bw f n)=[]:=by
  intro k h1 h2 b;simp[vgetM,bw,Ne.symm h1,Ne.symm h2,Ne.symm b]
 exact⟨by simp[vgetM,bw,az,beB],fun i c => .inl (a _ ω ω ω),.inl (by rw[a 3 ε ε ε];rfl)⟩
theorem KI{f:aO}(h:gV f=0){now:Int}(m:0<=now/\now<=1099511627776):DOn f (gl f now) 2:=by
 obtain⟨d,-,-⟩:=j0 h;have j:512<=f.ps/\f.ps<=8192:=by unfold jy at d;omega
 obtain⟨hv,g,n⟩:=ry j.1 j.2;obtain⟨o,p⟩:=vk h now;have a:(cW f.ps 2).bs.length<1000000000:=by rw[g,List.length_replicate];omega
 have k:i64 (-1):=by unfold i64;decide
 have i:=nR (cW f.ps 2) (-1) k a;have c:=m6 (ropenM (cW f.ps 2) (-1)).v (bw f 1) (-1) k ω (fun x l=>by rw[<-rz] at l;exact(mL f [] 1).2 x l) (by simp[bw]);exact⟨rfl,rfl,m,⟨by show 0<1000;decide,fun b d=>by cases d⟩,s' c.1 (s' i.1 a),p,by rw[o];exact KH f 1,by rw[o,show vgetM 2 (bw f 1)=beB 1 from by simp[vgetM,bw],gpB 1 ε];decide⟩
theorem xF(n:Int):PlInv (gL n) ⟨gl (gL n) (band .i64 n 7),[]⟩ 2 0:=by
 have a:=cg n 7 ε ε;exact⟨.inl (KI (zV n) ω),u' _,fun b a=>by cases a⟩
theorem RqV.of{q:Rqp}{r:RqM}(h:cy (rqC (rqP r)) (rqC q)):RqV q r:=fun a=>a.nil ⟨eE _,eE _,h,eE _,eE _,trivial⟩
theorem BH{f:aO}(o:gV f=0){p:Pl}{G:Int}{N:Nat}(q:PlInv f p G N)(r:G<800000)(s:N<900)(pm:Int):∃g,PlInv f g (G+2) (N+2)/\FPure prog 56 [plA p,.i pm] (plA g):=by
 have t:=D5 p.d;generalize Ko p.d=k at *;have h:=q9 0;have u:=nt (k4 0);generalize pnS (k4 0)=s1 at *;have v:=pl s1 ω;generalize bA 8 0 s1=ph at *;have j:=mX k 3 ph;have l:=fU k 3 [] (an [ph] 1);rw[am] at l;generalize gZ k 3 [] (an [ph] 1)=wb at *;have m:=fv 4711;generalize Ay 4711=pe at *;obtain⟨a,n⟩:∃a:Acp,a=⟨false,p.d.now,{rq0 with kd:=9,pe:=pe,pf := .d 1 wb.length (wb.map bt),pm:=pm},.nil,-1⟩:=⟨_,rfl⟩
 have ha:Kx a:=by
  rw[n];refine⟨by show i64 (-1);unfold i64;decide,fun _=>⟨⟨9,[],[],[],0,0,0,[],false,false,false,false,0,0,false,pe,[],wb,pm,[],0⟩,[],RqV.of ?_,⟨by show 0<100000;decide,by show 0<100000;decide,by show 0<100000;decide,by show 0<100000;decide,by show 0<100000;decide,by show wb.length<_;omega,by show 0<100000;decide,fun b y=>by cases y⟩,ε,.inr ⟨rfl,rfl⟩⟩⟩;simp[rqC,rqP,cy,eqN,eqP,SlP.pv,rq0]
 obtain⟨g,x,h1,h2⟩:=OM o q r s a ha;refine⟨g,h1,?_⟩;subst n;refine en func56 ntmps56 results56 [0,1,2,4,5] ?_;intro c J z Y Z;simp only[go_sem,J];refine aa Z (by exact t) ?_;simp only[go_sem,J];refine aa Z (by exact h) ?_;simp only[go_sem,J];refine aa Z (by exact v) ?_;simp only[go_sem,J];refine aa Z (by exact j) ?_;simp only[go_sem,J];refine aa Z (by exact m) ?_;simp only[go_sem,J];refine aa Z (by exact h2) ?_;simp only[go_sem,J];kernel_rfl
theorem KJ(d:aU):cy (pyC (pyP ⟨d,[]⟩)) (pyC ⟨bp d,.nil⟩) :=
 show cy (dvC (bp d)++[.p (.data 1 0 [])]) (dvC (bp d)++[.p (.v (.slice none 0 0))]) from Ds (av _) ⟨⟨rfl,rfl⟩,trivial⟩
structure QU(m:Int)(i:Nat)(p p':Pl)(pa:Pl)(rp us:List UInt8)(yw y:UInt64)(x:Rpp):Prop where
 a:FPure prog 56 [plA p,.i 1] (plA pa)
 b:FPure prog 57 [.i (n'.wrap ((band .i64 (ishr .i64 m (2*i)) 3).tdiv 3))] (sv rp)
 c:FPure prog 58 [.i i] (sv us)
 d:FPure prog 59 [.i i] (.w yw)
 e:FPure prog 60 [bg pa.d,.agg (rqC {rq0 with kd:=2,rp:=rp,us:=us,hs:=yw,hg:=n'.wrap (1+band .i64 (ishr .i64 m (6+i)) 1),pt:=n'.wrap (1+band .i64 (ishr .i64 m (9+i)) 1),rs:=decide ((i:Int)<2),sh:=((i:Int)==0)})] (rqA ⟨2,rp,us,[],yw,n'.wrap (1+band .i64 (ishr .i64 m (6+i)) 1),n'.wrap (1+band .i64 (ishr .i64 m (9+i)) 1),[],decide ((i:Int)<2),false,false,((i:Int)==0),0,y,true,0,[],[],0,[],0⟩)
 f:FPure prog 55 [plA pa,.agg (acC ⟨false,pa.d.now,rqP ⟨2,rp,us,[],yw,n'.wrap (1+band .i64 (ishr .i64 m (6+i)) 1),n'.wrap (1+band .i64 (ishr .i64 m (9+i)) 1),[],decide ((i:Int)<2),false,false,((i:Int)==0),0,y,true,0,[],[],0,[],0⟩,.d 2 1 (gsP [(n'.wrap (pa.d.now+1),1)]),-1⟩)] (.tup [plA p',.agg (rpC x)])
theorem ri{f:aO}(h:gV f=0){p:Pl}{G:Int}{N:Nat}(j:PlInv f p G N)(z:G<700000)(A:N<800)(m:Int)(i:Nat):∃c pa rp us g y x,PlInv f c (G+4) (N+4)/\QU m i p c pa rp us g y x:=by
 obtain⟨pa,k,l⟩:=BH h j ω ω 1;have n:=ol (n'.wrap ((band .i64 (ishr .i64 m (2*i)) 3).tdiv 3));have B:=kb (k3 (n'.wrap ((band .i64 (ishr .i64 m (2*i)) 3).tdiv 3)));generalize rpS (k3 (n'.wrap ((band .i64 (ishr .i64 m (2*i)) 3).tdiv 3)))=rp at *;have o:=Cm (i:Int);have C:=uP (k3 (i:Int));generalize usS (k3 (i:Int))=us at *;obtain⟨g,q⟩:=ln (i:Int);obtain⟨r,er⟩:∃r:RqM,r=⟨2,rp,us,[],g,n'.wrap (1+band .i64 (ishr .i64 m (6+i)) 1),n'.wrap (1+band .i64 (ishr .i64 m (9+i)) 1),[],decide ((i:Int)<2),false,false,((i:Int)==0),0,0,false,0,[],[],0,[],0⟩:=⟨_,rfl⟩
 have a:aP r:=by
  rw[er];exact⟨by show rp.length<_;omega,by show us.length<_;omega,by show 0<100000;decide,by show 0<100000;decide,by show 0<100000;decide,by show 0<100000;decide,by show 0<100000;decide,fun b s=>by cases s⟩
 obtain⟨y,t⟩:=FX pa.d r a;have ha:Kx ⟨false,pa.d.now,rqP {r with au:=y,ha:=true},.d 2 1 (gsP [(n'.wrap (pa.d.now+1),1)]),-1⟩ :=
  ⟨by show i64 (-1);unfold i64;decide,fun _=>⟨{r with au:=y,ha:=true},[(n'.wrap (pa.d.now+1),1)],RqV.refl _,⟨a.rp,a.us,a.nm,a.ls,a.bx,a.pf,a.id,a.el⟩,by show 1<1000;decide,.inl rfl⟩⟩
 obtain⟨c,x,u,v⟩:=OM h k ω ω _ ha;subst er;refine⟨c,pa,rp,us,g,y,x,u.mono ω ω,l,n,o,q,t.nil ⟨eE _,?_,trivial⟩,v⟩;simp only[eqN,rqC,rqP,rq0,cy,eqP,SlP.pv,List.length_nil,List.map_nil,and_self]
theorem QV{f:aO}(H:gV f=0){p:Pl}{G:Int}{N:Nat}(n:PlInv f p G N)(hG:G<700000)(hN:N<800)(l:List Int)(L:Nat)(I:l.length=L)(q:L<9223372036854775808):∃b,PlInv f b (G+8) (N+8)/\FPure prog 15 [plA p,.p (.data 1 L (l.map qI)),.i 4] (plA b):=by
 have step:∀(p:Pl) (G:Int) (N:Nat) (i:Nat),PlInv f p G N->G<800000->N<850->i<4->∃b a x,PlInv f b (G+2) (N+2)/\FPure prog 61 [plA p,.p (.data 1 L (l.map qI)),.i i] (.agg (acC a))/\FPure prog 55 [plA p,.agg (acC a)] (.tup [plA b,.agg (rpC x)]):=by
  intro p G N i n h1 h2 r;obtain⟨a,ha,K⟩:=Tm n ω l L I q i r;obtain⟨b,x,O,Q⟩:=OM H n ω ω a ha;exact⟨b,a,x,O,K,Q⟩
 obtain⟨s,a0,R,C,S,T⟩:=step p G N 0 n ω ω ε;obtain⟨t,U,V,D,W,X⟩:=step s _ _ 1 C ω ω ε;obtain⟨u,a2,x2,E,n2,d2⟩:=step t _ _ 2 D ω ω ε;obtain⟨F,a3,x3,s3,n3,d3⟩:=step u _ _ 3 E ω ω ε;obtain⟨P,d,g,j,k,o⟩:∃P:Nat->Pl,P 0=p/\P 1=s/\P 2=t/\P 3=u/\P 4=F:=⟨fun i=>if i=0 then p else if i=1 then s else if i=2 then t else if i=3 then u else F,rfl,rfl,rfl,rfl,rfl⟩
 have v:∀i,i<4->∃a x,FPure prog 61 [plA (P i),.p (.data 1 L (l.map qI)),.i i] (.agg (acC a))/\FPure prog 55 [plA (P i),.agg (acC a)] (.tup [plA (P (i+1)),.agg (rpC x)]):=by
  intro i m;rcases(show i=0\/i=1\/i=2\/i=3 from ω) with rfl|rfl|rfl|rfl
  ·rw[d,g];exact⟨a0,R,S,T⟩
  ·rw[g,j];exact⟨U,V,W,X⟩
  ·rw[j,k];exact⟨a2,x2,n2,d2⟩
  ·rw[k,o];exact⟨a3,x3,n3,d3⟩
 obtain⟨M,hM,y,z⟩:∃M:Nat,M<=4/\(∀i,i<M->3*i<L)/\(M<4->¬ 3*M<L):=by
  by_cases c0:0<L
  ·by_cases c1:3<L
   ·by_cases c2:6<L
    ·by_cases c3:9<L
     ·exact⟨4,ω,fun i m=>ω,fun h=>ω⟩
     ·exact⟨3,ω,fun i m=>ω,fun h=>ω⟩
    ·exact⟨2,ω,fun i m=>ω,fun h=>ω⟩
   ·exact⟨1,ω,fun i m=>ω,fun h=>ω⟩
  ·exact⟨0,ω,fun i m=>ω,fun h=>ω⟩
 have A:PlInv f (P M) (G+8) (N+8):=by
  rcases(show M=0\/M=1\/M=2\/M=3\/M=4 from ω) with rfl|rfl|rfl|rfl|rfl
  ·rw[d];exact n.mono ω ω
  ·rw[g];exact C.mono ω ω
  ·rw[j];exact D.mono ω ω
  ·rw[k];exact E.mono ω ω
  ·rw[o];exact s3.mono ω ω
 refine⟨P M,A,?_⟩;rw[<-d];refine en func15 ntmps15 results15 [0,1,2,3,6,7,17] ?_;intro c J h0 Y Z;simp only[go_sem,J];refine ay Y h0 [0,1,2,3,6,7,17] M (fun i=>⟨30,[(1,.p (.data 1 L (l.map qI))),(2,.i 4),(3,.ptr 0 0),(6,.ptr 1 0),(7,.i i)],[(0,some ⟨43,pyC (pyP (P i))⟩),(1,some ⟨43,pyC py0⟩)],2⟩) [] (fun i=>i) ⟨rfl,κ,by simp only[go_sem];exact sD _ _ _ _,rfl,rfl,trivial,fun i h=>h⟩ ?_;intro i m;have B:n'.wrap (3*(i:Int))=3*i:=ab ω ω;rcases r' i M with hlt|hge
 ·have hw:n'.wrap ((i:Int)+1)=((i+1:Nat):Int):=by rw[ab ω ω];omega
  obtain⟨a,x,e1,e2⟩:=v i ω;have r:=y i hlt;simp only[go_sem,J,B,show((i:Int)<4) from ω,show(3*(i:Int)<(L:Int)) from ω];refine aa Z (by exact e1) ?_;simp only[go_sem,J];refine aa Z (by exact e2) ?_;exact aii
 ·have e:M=i:=ω;subst e;by_cases h4:M<4
  ·have r:=z h4;simp only[go_sem,J,B,show((M:Int)<4) from ω,show¬(3*(M:Int)<(L:Int)) from ω]
  ·simp only[go_sem,J,B,show¬((M:Int)<4) from ω]
theorem Ts(n m:Int):∃p',PlInv (gL n) p' 30 30/\FPure prog 14 [.i n,.i m] (plA p'):=by
 have j:=zV n;have t:=xF n;have u:=Gk n;generalize gl (gL n) (band .i64 n 7)=d0 at *;generalize gL n=f at *;have M:=D5 d0;generalize Ko d0=k at *;have v:=q9 0;have N:=nt (k4 0);generalize pnS (k4 0)=s1 at *;have z:=vG k 1 s1 ω;have A:=fU k 1 [] (lM s1);rw[show(lM s1).length=64 from by simp[lM]] at A;generalize gZ k 1 [] (lM s1)=bx at *;have B:=fv 4711;generalize Ay 4711=pe at *;obtain⟨a,C⟩:∃a:Acp,a=⟨false,d0.now,{rq0 with kd:=7,pe:=pe,bx := .d 1 bx.length (bx.map bt)},.nil,-1⟩:=⟨_,rfl⟩
 have ha:Kx a:=by
  rw[C];refine⟨by show i64 (-1);unfold i64;decide,fun _=>⟨⟨7,[],[],[],0,0,0,[],false,false,false,false,0,0,false,pe,bx,[],0,[],0⟩,[],RqV.of ?_,⟨by show 0<100000;decide,by show 0<100000;decide,by show 0<100000;decide,by show 0<100000;decide,by show bx.length<_;omega,by show 0<100000;decide,by show 0<100000;decide,fun b O=>by cases O⟩,ε,.inr ⟨rfl,rfl⟩⟩⟩;simp[rqC,rqP,cy,eqN,eqP,SlP.pv,rq0]
 obtain⟨D,x1,Q,g⟩:=OM j t ε ε a ha;have g:=g.nil (vs':=[.agg (pyC ⟨bp d0,.nil⟩),.agg (acC a)]) ⟨KJ d0,eE _,trivial⟩;obtain⟨E,R,F,S,T,y0,U,V,W⟩:=ri j Q ε ε m 0;obtain⟨G,X,rp1,us1,yw1,y1,x21,i1,r1⟩:=ri j V ε ε m 1;obtain⟨H,pa2,rp2,us2,yw2,y2,x22,i2,r2⟩:=ri j i1 ε ε m 2;obtain⟨p5,i3,l⟩:=BH j i2 ε ε 7;refine⟨p5,i3.mono ε ε,?_⟩;obtain⟨P,o,p,q,r⟩:∃P:Nat->Pl,P 0=D/\P 1=E/\P 2=G/\P 3=H:=⟨fun i=>if i=0 then D else if i=1 then E else if i=2 then G else H,rfl,rfl,rfl,rfl⟩
 have s:∀i,i<3->∃pa rp us I y x,QU m i (P i) (P (i+1)) pa rp us I y x:=by
  intro i hi;rcases(show i=0\/i=1\/i=2 from ω) with rfl|rfl|rfl
  ·rw[o,p];exact⟨_,_,_,_,_,_,W⟩
  ·rw[p,q];exact⟨_,_,_,_,_,_,r1⟩
  ·rw[q,r];exact⟨_,_,_,_,_,_,r2⟩
 rw[<-o] at g;rw[<-r] at l;subst C;refine en func14 ntmps14 results14 [0,1,4,5,6,7,8,10,11,37] ?_;intro c J h0 Y Z;simp only[go_sem,J];refine aa Z (by exact u) ?_;simp only[go_sem,J];refine aa Z (by exact M) ?_;simp only[go_sem,J];refine aa Z (by exact B) ?_;simp only[go_sem,J];refine aa Z (by exact v) ?_;simp only[go_sem,J];refine aa Z (by exact z) ?_;simp only[go_sem,J];refine aa Z (by exact g) ?_;simp only[go_sem,J];refine ay Y h0 [0,1,4,5,6,7,8,10,11,37] 3 (fun i=>⟨94,[(1,.i m),(4,.ptr 0 0),(5,.ptr 1 0),(10,.i i)],[(0,some ⟨43,pyC py0⟩),(1,some ⟨43,pyC (pyP (P i))⟩)],2⟩) [] (fun i=>i) ⟨rfl,κ,by simp only[go_sem];exact sD _ _ _ _,rfl,rfl,trivial,fun i h=>h⟩ ?_;intro i hi;rcases r' i 3 with hlt|hge
 ·have hw:n'.wrap ((i:Int)+1)=((i+1:Nat):Int):=by rw[ab ω ω];omega
  have e2:o'.wrap (n'.wrap (2*(i:Int)))=2*i:=by rcases(show i=0\/i=1\/i=2 from ω) with rfl|rfl|rfl<;>decide
  have K:o'.wrap (n'.wrap (6+(i:Int)))=6+i:=by rcases(show i=0\/i=1\/i=2 from ω) with rfl|rfl|rfl<;>decide
  have L:o'.wrap (n'.wrap (9+(i:Int)))=9+i:=by rcases(show i=0\/i=1\/i=2 from ω) with rfl|rfl|rfl<;>decide
  obtain⟨pa,rp,us,I,y,x,ra,rb,rc,rd,re,rf⟩:=s i hlt;simp only[go_sem,J,show((i:Int)<3) from ω];refine aa Z (by exact ra) ?_;simp only[go_sem,J,e2,K,L];refine⟨ω,?_⟩;refine aa Z (by exact rb) ?_;simp only[go_sem,J];refine aa Z (by exact rc) ?_;simp only[go_sem,J];refine aa Z (by exact rd) ?_;simp only[go_sem,J,K,L];refine⟨ω,ω,?_⟩;refine aa Z (by exact re) ?_;simp only[go_sem,J];refine x_f Z rf ?_ (ho:=by simp only[go_sem];exact BG κ _ _ (QT _ _)) (hv:=by simp[ax,ak]);exact aii
 ·have e:(3:Nat)=i:=ω;subst e;simp only[go_sem,J];refine aa Z (by exact l) ?_;simp only[go_sem,J]
theorem KK(n:Int)(l:List Int)(L:Nat)(o:l.length=L)(a:L<9223372036854775808):∃f p G,gV f=0/\PlInv f p G 99/\G<99/\FPure prog 4 [.i n,.p (.data 1 L (l.map qI))] (plA p):=by
 have b:=Gk (band .i64 n 65535);have j:=xF (band .i64 n 65535);have h:=zV (band .i64 n 65535);by_cases h1:band .i64 (ishr .i64 n 16) 1=1
 ·obtain⟨p,q,r⟩:=Ts (band .i64 n 65535) (band .i64 (ishr .i64 n 17) 4095);obtain⟨k,m,g⟩:=QV h q ε ε l L o a;refine⟨_,k,_,h,m.mono (Int.le_refl _) ε,ε,?_⟩;refine en func4 ntmps4 results4 [0,1,4,5,12] ?_;intro c J s Y Z;simp only[go_sem,J];refine aa Z (by exact b) ?_;simp only[go_sem,J,h1];refine aa Z (by exact r) ?_;simp only[go_sem,J];refine aa Z (by exact g) ?_;simp only[go_sem,J]
 ·obtain⟨k,m,g⟩:=QV h j ε ε l L o a;generalize gl (gL (band .i64 n 65535)) (band .i64 (band .i64 n 65535) 7)=d0 at *;have g:=g.nil (vs':=[.agg (pyC ⟨bp d0,.nil⟩),.p (.data 1 L (l.map qI)),.i 4]) ⟨KJ d0,eE _,eE _,trivial⟩;refine⟨_,k,_,h,m.mono (Int.le_refl _) ε,ε,?_⟩;refine en func4 ntmps4 results4 [0,1,4,5,12] ?_;intro c J s Y Z;simp only[go_sem,J];refine aa Z (by exact b) ?_;simp only[go_sem,J,h1];refine aa Z (by exact g) ?_;simp only[go_sem,J]
end
theorem DInv.vl{f:aO}{d:aU}{G:Int}(h:DInv f d G):VLen d.v.prs/\(vgetM 2 d.v.prs).length<=4/\(vgetM 1 d.v.prs).length<=8:=by
 rcases h with h|h
 ·exact⟨h.vl,h.st.b,h.st.m⟩
 ·have a:d.v.prs=[]:=by rw[h.is];rfl
  rw[a];exact⟨⟨ε,fun x c=>by cases c⟩,ε,ε⟩
theorem DInv.same{f:aO}{d:aU}{G:Int}(b:gV f=0)(h:DInv f d G):d.fac.ce.length<1000000000/\d.nx.ids.length<1000000000/\d.v.prs.length<1000000000:=by
 have c:=(j0 b).2.1;have hv:=h.vl.1.1;have a:d.fac=f:=by
  rcases h with h|h
  ·exact h.fac
  ·rw[h.is];rfl
 have g:d.nx.ids.length<1000:=by
  rcases h with h|h
  ·exact h.ids.1
  ·rw[h.is];exact(by decide:([]:List (List UInt8)).length<1000)
 rw[a];exact⟨ω,ω,ω⟩
end Go.Abs

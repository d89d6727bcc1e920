/- own work: steps of the proof -/
import Derived.Test.YtgnmplopdkgccaaGreatDoorQo
set_option linter.all false
set_option maxRecDepth 100000
set_option maxHeartbeats 4000000
open Go.IntKind renaming i64→a'
namespace Go.Abs
open RowKit Proofs Proofs.Tryz
theorem gM(d:aU)(i:Nat)(h:i<1000)(hv:VLen d.v.prs):FPure prog 34 [bg d,.i i] (.tup [.agg [.w (bc d.v.prs i).x.tag,.i (bc d.v.prs i).x.fr,.i (bc d.v.prs i).x.tto,.i (bc d.v.prs i).x.nx],.b (decide ((bc d.v.prs i).e=0))]):=by
 apply ba f34 [0,1,2,4,5,6,7];intro c J j Y Z;have a:a'.wrap (16+(i:Int))=16+(i:Int):=ab ω ω;have hg:=hv.get (16+(i:Int));unfold bc at Y Z;simp only[go_sem,J,a];apply aa Z (o8 d.v _ (16+(i:Int)) hv.1 (fun x f=>by have:=hv.2 x f;omega));have g:=O3 (vgetM (16+(i:Int)) d.v.prs) _ rfl hg;generalize vgetM (16+(i:Int)) d.v.prs=b at *;generalize jx b=L at *;refine alr ?_;simp only[go_sem,J];rfl
theorem tK(d:aU)(D:Nat->CR)(i:Nat)(h:i<1000)(hv:VLen d.v.prs)(a:FPure prog 92 [.p (.data 1 (vgetM (64+(i:Int)) d.v.prs).length ((vgetM (64+(i:Int)) d.v.prs).map bt))] (crAV (D i))):FPure prog 31 [bg d,.i i] (.tup [.agg (crC (D i).x),.b (decide ((D i).e=0))]):=by
 apply ba f31 [0,1,2,4,5,6,7];intro c J j Y Z;have f:a'.wrap (64+(i:Int))=64+(i:Int):=ab ω ω;simp only[go_sem,J,f];apply aa Z (o8 d.v _ (64+(i:Int)) hv.1 (fun x g=>by have:=hv.2 x g;omega));generalize vgetM (64+(i:Int)) d.v.prs=b at *;generalize D i=L at *;refine δ a ?_;simp only[go_sem,J];rfl
theorem nF(x:Cr)(h:CrOk x)(a:x.rs=true):FPure prog 33 [.agg (crC x)] (.p (.data 1 176 ((idR x).map bt))):=by
 refine ba f33 [0,1,2,3] ?_;intro c J d Y Z;have b:=Mx 0 0 x h a;generalize idR x=I at *;refine δ b ?_;simp only[go_sem,J]
theorem qa(d:aU)(l:ai)(B:Int)(e:d.v.j.bs.length<1000000000)(f:d.v.prs.length<1000000000)(g:∀x,x∈l->x.2.length<1000)(h:l.length<300)(k:i64 B) :
 FPure prog 36 [bg d,.p (PL l),.i B] (th (dF d l B)):=by
 apply ba f36 [0,1,2,3,6,7,8,9,10,13,25];intro c J n Y Z;obtain⟨R,hR⟩:∃R,dF d l B=R:=⟨_,rfl⟩;rw[hR] at Y Z;(try rw[hR]);unfold dF at hR;by_cases hon:d.on=false
 .exact aiF
 rw[b0 hon] at hR;have a:d.on=true:=by simpa using hon
 simp only[go_sem,J,a];apply aa Z (vS d.v _ l B rfl e f ω (fun x m=>by have:=g x m;omega) k);generalize rputM d.v l B=P at *;by_cases b:P.err=0
 .rw[b0 ω] at hR;subst hR;simp only[go_sem,J,b];exact av _
 .rw[b9 b] at hR;subst hR;simp only[go_sem,J,b];apply aa Z (nB d P.v P.err);simp only[go_sem,J]
def dU:List (Nat×Ls)->UInt64->Nat
 |[],_=>0
 |p::l,t=>if 0<p.1/\p.2.tag=t then p.1 else dU l t
theorem vv(t:UInt64):∀a b:List (Nat×Ls),dU (a++b) t=if dU a t=0 then dU b t else dU a t
 |[],b=>by simp[dU]
 |p::a,b=>by
  simp only[List.cons_append,dU];split
  .rename_i h;rw[b0 ω]
  .exact vv t a b
theorem sO(s:ai):∀n i:Nat,i<=n->∃r,cz s n=cz s i++r
 |0,i,h=>⟨[],by obtain rfl:i=0:=Nat.le_zero.1 h;rw[List.append_nil]⟩
 |n+1,i,h=>by
  rcases Nat.eq_or_lt_of_le h with rfl|h
  .exact⟨[],(List.append_nil _).symm⟩
  .have⟨r,a⟩:=sO s n i ω;rw[gK,a];split
   .exact⟨_,List.append_assoc _ _ _⟩
   .exact⟨r,rfl⟩
theorem Ip(s:ai)(t:UInt64)(i:Nat)(h1:1<=i)(h:dU (cz s i) t=0) :
 dU (cz s (i+1)) t=if(bc s i).e=0/\(bc s i).x.tag=t then i else 0:=by
 rw[gK];by_cases a:(bc s i).e=0
 .rw[b9 a,vv,b9 h];simp only[dU];by_cases b:(bc s i).x.tag=t
  .rw[b9 ⟨ω,b⟩,b9 ⟨a,b⟩]
  .rw[b0 (fun c=>b c.2),b0 (fun c=>b c.2)]
 .rw[b0 a,b0 (fun c=>a c.1),h]
theorem EL(s:ai)(t:UInt64)(i n:Nat)(a:i<=n)(h:dU (cz s i) t≠0):dU (cz s n) t=dU (cz s i) t:=by
 have⟨r,b⟩:=sO s n i a;rw[b,vv,b0 h]
theorem LG(s:ai)(t:UInt64):dU (cz s 1) t=0:=by
 rw[gK];split
 .simp[cz,dU]
 .simp[cz,dU]
theorem dR(d:aU)(b:List UInt8)(n:Nat)(r:b.length=n)(s:n<100000)(hv:VLen d.v.prs):FPure prog 32 [bg d,.p (.data 1 n (b.map bt))] (.tup [.i (dU (bq d.v.prs) (bA 10 0 b)),.b (decide (dU (bq d.v.prs) (bA 10 0 b)≠0))]):=by
 refine ba f32 [0,1,2,4,5,6,7,8,10,26] ?_;intro c J g Y Z;have q:=An b n r s;generalize bA 10 0 b=t at *;refine θ ?_;refine bl Y g [0,1,2,4,5,6,7,8,10,26] (α:={i:Nat // (1<=i/\i<=16)/\dU (cz d.v.prs i) t=0}) (fun i=>⟨28,[(1,.p (.data 1 n (b.map bt))),(2,.ptr 0 0),(6,.i i.1)],[(0,some ⟨41,dvC (bp d)⟩)],1⟩) (fun i=>16-i.1) ⟨1,⟨ε,ε⟩,LG _ _⟩ [] (fun i=>i) ?_ ?_
 .refine⟨rfl,?_,?_,rfl,rfl,trivial,fun i h=>h⟩
  .exact κ
   done
  .exact κ
   done
 .rintro⟨i,⟨h1,u⟩,g⟩;rcases ea i 16 with k|k
  .have a:=ac i
   have l:=gM d i ω hv;have hst:=Ip d.v.prs t i h1 g;have m:=EL d.v.prs t (i+1) 16 ω;generalize bc d.v.prs i=L at *;by_cases f:L.e=0
   .by_cases j:L.x.tag=t
    .rw[b9 ⟨f,j⟩] at hst;have m:dU (bq d.v.prs) t=i:=by rw[show dU (bq d.v.prs) t=dU (cz d.v.prs (i+1)) t from m (by rw[hst];omega),hst]
     simp only[go_sem,J,a,(ω:((i:Int)<16))];refine aa Z l ?_;simp only[go_sem,J,f,decide_true];refine aa Z q ?_;simp only[go_sem,J,j,m];exact⟨π,by rw[qi];omega⟩
    .rw[b0 (fun x=>j x.2)] at hst;have o:¬((L.x.tag.toNat:Int)=(t.toNat:Int)):=fun h=>j (s9.1 ω)
     simp only[go_sem,J,a,(ω:((i:Int)<16))];refine aa Z l ?_;simp only[go_sem,J,f,decide_true];refine aa Z q ?_;simp only[go_sem,J,o,a];exact ahc
   .rw[b0 (fun x=>f x.1)] at hst;simp only[go_sem,J,a,(ω:((i:Int)<16))];refine aa Z l ?_;simp only[go_sem,J,f,decide_false,a];exact ahc
  .obtain rfl:i=16:=by omega
   simp only[go_sem,J,g,show¬((16:Int)<16) from ε];rfl
def scan(P:Nat->Bool):Nat->Nat->Nat
 |_,0=>0
 |i,k+1=>if P i=true then i else scan P (i+1) k
theorem ic(s:ai)(n:Nat):∀p,p∈cz s n->p.1<n:=by
 intro p a;unfold cz at a;rw[List.mem_filterMap] at a;have⟨i,b,h⟩:=a;split at h
 .cases h;exact List.mem_range.1 b
 .cases h
def eY(s:ai)(dr:Int)(i:Nat):Bool:=decide ((bc s i).e=0/\(i:Int)≠dr)
def jD(s:ai)(dr:Int):Nat:=scan (fun i => !eY s dr i) 1 15
def bAs(u:List Bool):List AV:=(u.map fun b=>PV.v (.bool b)).map .p
@[simp] theorem aeR(u:List Bool):(bAs u).length=u.length:=by simp[bAs]
theorem Py:Con prog 353 [.ptr 0 0] [(0,some ⟨rrT,[sv [],.i 0,eK]⟩)] (.tup [.agg [.i 0,.w 0,sv []],.i 1]) [(0,some ⟨rrT,[sv [],.i 0,eK]⟩)]:=by
 apply bn 1 f353 [0,2,3,4,5,6,7,8,9,10,20,31,32,46,67,70,87,92,95,120];intro c J a Y Z;exact afW
theorem LH:Con prog 316 [.ptr 0 0,.i 0,.b false,sv []] [(0,some ⟨rrT,[sv [],.i 0,eK]⟩)] (.i 1) [(0,some ⟨rrT,[sv [],.i 0,eK]⟩)]:=by
 apply bn 1 f316 [0,1,2,3,8,9,10,11,12,13,14,15,16,17,18,25,45,52,60,63,76,93,129,141,157,162,174,189];intro c J a Y Z;refine θ ?_;refine x_k Z 1 Py ?_;refine θ ?_;exact Φ
theorem EM:FPure prog 232 [.p (.data 1 0 [])] (.tup [.p (.v (.slice none 0 0)),.i 0,.i 1]):=by
 apply ba f232 [0,2,3,4,5,6,14];intro c J a Y Z;simp only[go_sem,J,show eV []=[] from rfl,Abs.strOf];refine⟨bL [],?_⟩;refine x_k Z 1 LH ?_;simp only[go_sem,J]
theorem Pz:FPure prog 162 [.p (.data 1 0 [])] (.tup [.agg (crC cr0),.i 0,.b false]):=by
 refine ak8 ?_;intro c J a Y Z;refine δ EM ?_;refine θ ?_;exact afS
theorem LI:FPure prog 92 [.p (.data 1 0 [])] (crAV ⟨cr0,2⟩):=by
 apply ba f92 [0,2,3,4,5,6,20];intro c J a Y Z;refine δ Pz ?_;refine θ ?_;exact afS
def rpS:Nat->List UInt8
 |0=>[97,46,101,120,97,109,112,108,101]
 |1=>[98,46,101,120,97,109,112,108,101]
 |_=>[115,104,111,112,46,116,101,115,116]
def usS:Nat->List UInt8
 |0=>[117,49]
 |1=>[117,50]
 |_=>[0,255]
def k3(n:Int):Nat:=((band .i64 n 65535).tmod 3).toNat
theorem Q0(n:Int):(band .i64 n 65535).tmod 3=(k3 n:Int)/\k3 n<3:=by
 have a:=cg n 65535 ε ε;unfold k3;rw[Int.tmod_eq_emod_of_nonneg a.1];omega
theorem ol(n:Int):FPure prog 57 [.i n] (sv (rpS (k3 n))):=by
 apply ba f57 [0,2];intro c J a Y Z;have⟨h1,h2⟩:=Q0 n;generalize k3 n=k at *
 match k,h2 with
 |0,_=>simp only[go_sem,J,h1,rpS]
 |1,_=>simp only[go_sem,J,h1,rpS]
 |2,_=>simp only[go_sem,J,h1,rpS]
theorem Cm(n:Int):FPure prog 58 [.i n] (sv (usS (k3 n))):=by
 apply ba f58 [0,2];intro c J a Y Z;have⟨h1,h2⟩:=Q0 n;generalize k3 n=k at *
 match k,h2 with
 |0,_=>simp only[go_sem,J,h1,usS]
 |1,_=>simp only[go_sem,J,h1,usS]
 |2,_=>simp only[go_sem,J,h1,usS]
def txS:Nat->List UInt8
 |0=>[]
 |1=>[97]
 |2=>[98]
 |3=>[108,111,103,105,110]
 |4=>[107,101,121]
 |5=>[101,120,97,109,112,108,101,46,111,114,103]
 |6=>[195,169]
 |_=>[48,49,50,51,52,53,54,55,56,57,48,49,50,51,52,53]
def k8(n:Int):Nat:=(band .i64 n 7).toNat
theorem Q1(n:Int):band .i64 n 7=(k8 n:Int)/\k8 n<8:=by
 have a:=cg n 7 ε ε;unfold k8;omega
theorem at8:∀k:_root_.Fin 8,ag (.v undef) (List.drop k.val [AV.p (.v (.string ⟨#[]⟩)),AV.p (.v (.string ⟨#[97]⟩)),AV.p (.v (.string ⟨#[98]⟩)),AV.p (.v (.string ⟨#[108,111,103,105,110]⟩)),AV.p (.v (.string ⟨#[107,101,121]⟩)),AV.p (.v (.string ⟨#[101,120,97,109,112,108,101,46,111,114,103]⟩)),AV.p (.v (.string ⟨#[195,169]⟩)),AV.p (.v (.string ⟨#[48,49,50,51,52,53,54,55,56,57,48,49,50,51,52,53]⟩))])=sv (txS k.val)
 |0=>rfl|1=>rfl|2=>rfl|3=>rfl|4=>rfl|5=>rfl|6=>rfl|7=>rfl
theorem iz:∀k:Nat,(txS k).length<=16
 |0=>by decide|1=>by decide|2=>by decide|3=>by decide|4=>by decide|5=>by decide|6=>by decide|k+7=>c7 _
theorem Gy(n:Int):FPure prog 62 [.i n] (sv (txS (k8 n)++txS (k8 (ishr .i64 n 3)))):=by
 apply ba f62 [0,2,3];intro c J h Y Z;have⟨h1,h2⟩:=Q1 n;have⟨f,g⟩:=Q1 (ishr .i64 n 3);generalize k8 n=k at *;generalize k8 (ishr .i64 n 3)=j at *;have d:=at8 ⟨k,h2⟩;have e:=at8 ⟨j,g⟩;have l:=iz k;have m:=iz j;dsimp only at d e;generalize txS k=a at *;generalize txS j=b at *;simp only[go_sem,J,h1,f,d,e];refine⟨⟨ω,ω⟩,ω,⟨ω,ω⟩,ω,ω,π,by rw[EQ]⟩
def b01(n:Int)(k:Int):Bool:=band .i64 (ishr .i64 n k) 1==1
def crB(n:Int):Cr :=
 ⟨rpS (k3 n),usS (k3 (ishr .i64 n 2)),txS (k8 (ishr .i64 n 4))++txS (k8 (ishr .i64 (ishr .i64 n 4) 3)),cq (IntKind.u64.wrap n*11400714819323198485),a'.wrap (1+band .i64 (ishr .i64 n 3) 1),b01 n 7,a'.wrap (1+(ishr .i64 n 5).tmod 3),b01 n 7&&b01 n 8,b01 n 7&&b01 n 8&&b01 n 9⟩
theorem abu(n:Int):FPure prog 16 [.i n] (.agg (crC (crB n))):=by
 apply ba f16 [0,2,3];intro c J g Y Z;have d:=ol n;have e:=Cm (ishr .i64 n 2);have f:=Gy (ishr .i64 n 4);unfold crB at Y Z;generalize rpS (k3 n)=a1 at *;generalize usS (k3 (ishr .i64 n 2))=a2 at *;generalize txS (k8 (ishr .i64 n 4))++txS (k8 (ishr .i64 (ishr .i64 n 4) 3))=a3 at *;refine θ ?_;refine alb ?_;apply aa Z e;refine δ f ?_;refine θ ?_;rw[ca];unfold b01;generalize band .i64 (ishr .i64 n 7) 1=x7;generalize band .i64 (ishr .i64 n 8) 1=x8;generalize band .i64 (ishr .i64 n 9) 1=x9;by_cases a:x7=1
 .by_cases b:x8=1
  .simp[a,b]
  .simp[a,b]
 .simp[a]
def plF(f:Cr->Int)(x:Cr)(l:List (Nat×Cr)):Int×Int :=
 l.foldl (fun s p=>if s.1<0/\p.2.rp=x.rp/\p.2.us=x.us then((p.1:Int),f p.2) else s) (-1,0)
theorem LJ(f:Cr->Int)(x:Cr)(l:List (Nat×Cr))(p:Nat×Cr):plF f x (l++[p])=if(plF f x l).1<0/\p.2.rp=x.rp/\p.2.us=x.us then((p.1:Int),f p.2) else plF f x l:=by
 unfold plF;rw[List.foldl_append];rfl
def kM(l:List (Nat×Cr)):List Bool:=l.foldl (fun u p=>u.set p.1 true) (List.replicate 8 false)
theorem EN(l:List (Nat×Cr))(p:Nat×Cr):kM (l++[p])=(kM l).set p.1 true:=by simp[kM]
theorem Iq(l:List (Nat×Cr)):(kM l).length=8:=by
 have:∀(l:List (Nat×Cr)) (u:List Bool),(l.foldl (fun u p=>u.set p.1 true) u).length=u.length:=by
  intro l
  induction l with
  |nil=>intro u;rfl
  |cons p l a=>intro u;rw[s7,a,List.length_set]
 rw[kM,this];rfl
theorem LK(D:Nat->CR)(n:Nat):∀p,p∈fz D n->p.1<n/\(D p.1).e=0/\p.2=(D p.1).x:=by
 intro p a;unfold fz at a;rw[List.mem_filterMap] at a;have⟨i,b,h⟩:=a;split at h
 .rename_i c;cases h;exact⟨List.mem_range.1 b,c,rfl⟩
 .cases h
def iR(s:ai)(y:Cr):Int:=dU (bq s) (bA 10 0 (idR y))
structure Cn(d:aU)(D:Nat->CR):Prop where
 vl:VLen d.v.prs
 p:∀i:Nat,i<8->FPure prog 72 [.p (.data 1 (vgetM (64+(i:Int)) d.v.prs).length ((vgetM (64+(i:Int)) d.v.prs).map bt))] (crAV (D i))
 r:∀i:Nat,i<8->FPure prog 92 [.p (.data 1 (vgetM (64+(i:Int)) d.v.prs).length ((vgetM (64+(i:Int)) d.v.prs).map bt))] (crAV (D i))
 ok:∀i:Nat,i<8->(D i).e=0->CrOk (D i).x/\(D i).x.rs=true
def vw(u:List Bool):Nat->Nat->Int
 |_,0 => -1
 |i,k+1=>if u.getD i false=false then(i:Int) else vw u (i+1) k
def Gz(u:List Bool):Int:=vw u 0 8
def ig(s:ai)(D:Nat->CR)(x:Cr):Int×Int :=
 let r:=plF (iR s) x (fz D 8)
 (if r.1<0 then Gz (kM (fz D 8)) else r.1,r.2)
structure G3 where
 fr:Int
 tt:Int
 nx:Int
structure GOk(g:G3):Prop where
 fr:0<=g.fr
 nx:g.fr<=g.nx
 tt:g.nx<=g.tt
 le:g.tt<=16
def leF(g:G3)(t:UInt64):Ls:=⟨t,g.fr,g.tt,g.nx⟩
theorem Uk(g:G3)(hg:GOk g)(t:UInt64):gX (leF g t)=true:=qi ⟨hg.fr,hg.nx,hg.tt,hg.le⟩
def xc(g:G3)(x:Cr)(t:UInt64)(sl dr:Int)(n:Nat):ai :=
 (if x.rs=true then[(64+sl,fj x)] else[])++((16+(n:Int),dy (leF g t))::(if 0<dr/\dr≠n then[(16+dr,[])] else[]))
def vz(g:G3)(d:aU)(D:Nat->CR)(x:Cr)(t:UInt64)(B:Int):DR :=
 if dU (bq d.v.prs) t≠0 then⟨d,0,10⟩ else
 if x.rs=true/\(ig d.v.prs D x).1<0 then⟨d,0,12⟩ else
 let dr:=if x.rs=true then(ig d.v.prs D x).2 else 0
 if jD d.v.prs dr=0 then⟨d,0,12⟩ else
 dF d (xc g x t (ig d.v.prs D x).1 dr (jD d.v.prs dr)) B
theorem tL(P:Nat->Bool):∀i k:Nat,scan P i k<=i+k
 |_,0=>gi _
 |i,k+1=>by
  simp only[scan];split
  .omega
  .have:=tL P (i+1) k;omega
theorem lH(t:UInt64)(m:Nat)(a:0<m):∀l:List (Nat×Ls),(∀p,p∈l->p.1<m)->dU l t<m
 |[],_=>a
 |p::l,h=>by
  simp only[dU];split
  .exact h p (List.mem_cons_self ..)
  .exact lH t m a l fun q b=>h q (nk _ b)
theorem PA(s:ai)(y:Cr):0<=iR s y/\iR s y<16:=by
 have:=lH (bA 10 0 (idR y)) 16 ε (bq s) (ic s 16);unfold iR;omega
theorem Ul(f:Cr->Int)(x:Cr)(b:∀y,0<=f y/\f y<16)(l:List (Nat×Cr))(a:∀p,p∈l->p.1<8):((plF f x l).1<8)/\0<=(plF f x l).2/\(plF f x l).2<16:=by
 have:∀(l:List (Nat×Cr)) (s:Int×Int),(∀p,p∈l->p.1<8)->(s.1<8/\0<=s.2/\s.2<16) ->
  ((l.foldl (fun s p=>if s.1<0/\p.2.rp=x.rp/\p.2.us=x.us then((p.1:Int),f p.2) else s) s).1<8/\0<=(l.foldl (fun s p=>if s.1<0/\p.2.rp=x.rp/\p.2.us=x.us then((p.1:Int),f p.2) else s) s).2 /\
   (l.foldl (fun s p=>if s.1<0/\p.2.rp=x.rp/\p.2.us=x.us then((p.1:Int),f p.2) else s) s).2<16):=by
  intro l
  induction l with
  |nil=>intro s _ h;exact h
  |cons p l c =>
   intro s a h;rw[s7];apply c _ (fun q d=>a q (nk _ d));have:=a p (List.mem_cons_self ..);have:=b p.2;split
   .exact⟨by show(p.1:Int)<8;omega,this.1,this.2⟩
   .exact h
 exact this l (-1,0) a ⟨ε,ε,ε⟩
theorem Co(u:List Bool):∀i k:Nat,vw u i k<(i+k:Nat)\/vw u i k = -1
 |_,0 => .inr rfl
 |i,k+1=>by
  simp only[vw];split
  .exact .inl ω
  .rcases Co u (i+1) k with h|h
   .exact .inl ω
   .exact .inr h
theorem ya(s:ai)(D:Nat->CR)(x:Cr):(ig s D x).1<8/\0<=(ig s D x).2/\(ig s D x).2<16:=by
 have a:=Ul (iR s) x (PA s) (fz D 8) (fun p b=>(LK D 8 p b).1);unfold ig;refine⟨?_,a.2⟩;show(if _ then _ else _)<(8:Int);split
 .rcases Co (kM (fz D 8)) 0 8 with h|h
  .exact h
  .unfold Gz;omega
 .exact a.1
theorem yb{F:aK}{w:World}{s n:Nat}{cs cs':List PV}{u:Value}(a:cs'.length=cs.length)(d:∀(j:Nat) x,cs[j]?=some x->cs'[j]?=some x\/(∃s,x = .data s 0 []/\cs'[j]?=some (.v (.slice none 0 0))))
 (h:RdP F w (.data s n cs') u):RdP F w (.data s n cs) u:=by
 cases h with
 |nil =>
  obtain rfl:cs=[]:=List.length_eq_zero_iff.1 (by rw[<-a];rfl);exact .nil _ _ _
 |data _ _ _ b off cap f hl' hcap hF hc' h1 hr =>
  refine .data s n cs b off cap f (by rw[<-a];exact hl') hcap hF (fun j c=>hc' j (by rw[a];exact c)) (fun j c=>h1 j (by rw[a];exact c)) fun j x e=>?_
  rcases d j x e with h|⟨g,rfl,h⟩
  .exact hr j x h
  .have:=hr j _ h;generalize f j=u at *;cases this with
   |v _ _=>exact .nil _ _ _
theorem lI{P:Program}{f:FuncId}{vs vs':List AV}{v:AV}(h:FPure P f vs v)(b:vs'.length=vs.length)(c:∀(ρ:aD) (F:aK) (w:World) (g:Nat->Value),(∀j x,vs'[j]?=some x->Rd ρ F w x (g j))->∀j x,vs[j]?=some x->Rd ρ F w x (g j)):FPure P f vs' v:=by
 intro d;have⟨h2⟩:=h d;exact⟨fun ρ F us w a e i=>h2 ρ F us w a (by rw[e,b]) (c ρ F w _ i)⟩
theorem Ir{P:Program}{f:FuncId}{d:aU}{a b k:Int}{E0 l:List UInt8}{B:Int}{v:AV}(h:FPure P f [bg d,.p (PL [(a,E0),(b,l),(k,[])]),.i B] v) :
 FPure P f [bg d,.p (.data 2 3 [.v (.int .i64 a),.data 1 E0.length (E0.map bt),.v (.int .i64 b),.data 1 l.length (l.map bt),.v (.int .i64 k),.v (.slice none 0 0)]),.i B] v:=by
 refine lI h rfl fun ρ F w g hg j x e=>?_
 match j,e with
 |0,e=>exact hg 0 x e
 |1,e =>
  have h1:=hg 1 _ rfl;cases e;cases h1 with
  |p _ _ h1 =>
   refine .p _ _ (yb (cs':=[.v (.int .i64 a),.data 1 E0.length (E0.map bt),.v (.int .i64 b),.data 1 l.length (l.map bt),.v (.int .i64 k),.v (.slice none 0 0)]) rfl (fun j x c=>?_) h1)
   match j,c with
   |0,c=>exact .inl c
   |1,c=>exact .inl c
   |2,c=>exact .inl c
   |3,c=>exact .inl c
   |4,c=>exact .inl c
   |5,c=>cases c;exact .inr ⟨1,rfl,rfl⟩
   |j+6,c=>rw[List.getElem?_eq_none (by show 6<=j+6;omega)] at c;cases c
 |2,e=>exact hg 2 x e
 |j+3,e=>simp at e
abbrev raH(g:G3)(d:aU)(x:Cr)(t:UInt64):List (Nat×Option Blk):=[(0,some ⟨41,dvC (bp d)⟩),(1,some ⟨46,crC x⟩),(2,some ⟨41,dvC dv0⟩),(3,some ⟨73,[.w t,.i g.fr,.i g.tt,.i g.nx]⟩)]
theorem Cp(g:G3)(hg:GOk g)(t:UInt64):FPure prog 30 [.agg [.w t,.i g.fr,.i g.tt,.i g.nx]] (.b true):=by
 have:=rv (leF g t);rw[Uk g hg] at this;exact this
def ajt:List Nat:=[0,1,2,3,4,5,6,7,8,14,15,16,17,18,19,20,21,22,24,25,26,27,29,30,31,33,34,37,45,56,63,73,80,103,118,121,136,147,150,172]
attribute[go_sem]ajt
theorem PB(g:G3)(hg:GOk g)(d:aU)(D:Nat->CR)(x:Cr)(id:List UInt8)(n:Nat)(B:Int)(h:Cn d D)(q:d.on=true)(P:CrOk x)(w:x.rs=false)(F:id.length=n)(r:n<100000)(Q:d.v.j.bs.length<1000000000)(T:i64 B) :
 FPure prog 8 [bg d,.agg (crC x),.p (.data 1 n (id.map bt)),.i g.fr,.i g.tt,.i g.nx,.i B] (th (vz g d D x (bA 10 0 id) B)):=by
 refine ba f8 ajt ?_;intro c J s Y Z;obtain⟨R,a⟩:∃R,vz g d D x (bA 10 0 id) B=R:=⟨_,rfl⟩;rw[a] at Y Z;(try rw[a]);unfold vz at a;have G:=fG x P;have H:=An id n F r;have u:=dR d id n F r h.vl;generalize bA 10 0 id=t at *;have hv:=Cp g hg t;simp only[w,Bool.false_eq_true,false_and,if_false] at a;generalize dU (bq d.v.prs) t=N at *;generalize U:fj x=E0 at *;have l:(x.rs=true)=False:=eq_false (by simp[w]);by_cases z:N=0
 case neg =>
  rw[b9 z] at a;subst a;simp only[go_sem,J,q];refine aa Z G ?_;refine δ H ?_;refine δ hv ?_;refine θ ?_;refine ay Y s ajt 0 (fun i=>⟨186,[(2,.p (.data 1 n (id.map bt))),(6,.i B),(7,.ptr 0 0),(8,.ptr 1 0),(14,.ptr 2 0),(17,blA E0),(19,.ptr 3 0),(20,.i (-1)),(21,.i 0),(22,.i 7)],raH g d x t,4⟩) [] (fun i=>i) ⟨rfl,κ,κ,rfl,rfl,trivial,fun i h=>h⟩ ?_;intro _ _;simp only[go_sem,J,l];refine ay Y s ajt 0 (fun i=>⟨186,[(2,.p (.data 1 n (id.map bt))),(6,.i B),(7,.ptr 0 0),(8,.ptr 1 0),(14,.ptr 2 0),(17,blA E0),(19,.ptr 3 0),(20,.i (-1)),(21,.i 0),(25,.i 7)],raH g d x t,4⟩) [] (fun i=>i) ⟨rfl,κ,κ,rfl,rfl,trivial,fun i h=>h⟩ ?_;intro _ _;simp only[go_sem,J,l];refine aa Z u ?_;simp only[go_sem,J,z]
  done
 rw[b0 ω] at a;simp only[go_sem,J,q];refine aa Z G ?_;refine δ H ?_;refine δ hv ?_;refine θ ?_;refine ay Y s ajt 0 (fun i=>⟨186,[(2,.p (.data 1 n (id.map bt))),(6,.i B),(7,.ptr 0 0),(8,.ptr 1 0),(14,.ptr 2 0),(17,blA E0),(19,.ptr 3 0),(20,.i (-1)),(21,.i 0),(22,.i 7)],raH g d x t,4⟩) [] (fun i=>i) ⟨rfl,κ,κ,rfl,rfl,trivial,fun i h=>h⟩ ?_;intro _ _;simp only[go_sem,J,l];refine ay Y s ajt 0 (fun i=>⟨186,[(2,.p (.data 1 n (id.map bt))),(6,.i B),(7,.ptr 0 0),(8,.ptr 1 0),(14,.ptr 2 0),(17,blA E0),(19,.ptr 3 0),(20,.i (-1)),(21,.i 0),(25,.i 7)],raH g d x t,4⟩) [] (fun i=>i) ⟨rfl,κ,κ,rfl,rfl,trivial,fun i h=>h⟩ ?_;intro _ _;simp only[go_sem,J,l];refine aa Z u ?_;simp only[go_sem,J,z];refine ay Y s ajt 15 (fun k=>⟨186,[(6,.i B),(7,.ptr 0 0),(8,.ptr 1 0),(14,.ptr 2 0),(17,blA E0),(19,.ptr 3 0),(20,.i (-1)),(21,.i 0),(30,.i (scan (fun i => !eY d.v.prs 0 i) (16-k) k)),(31,.i (15-(k:Int)))],raH g d x t,4⟩) [] (fun i=>i) ?_ ?_
 .refine⟨rfl,?_,?_,rfl,rfl,trivial,fun i h=>h⟩
  .simp only[go_sem];exact⟨rfl,rfl⟩
  .exact κ
 intro k hk;have l:(x.rs=true)=False:=eq_false (by simp[w]);rcases ea k 15 with hk15|hk15
 .obtain⟨i,hi⟩:∃i,i=15-k:=⟨_,rfl⟩;have V:1<=i/\i<=15:=ω;have W:(15:Int)-(k:Int)=(i:Int):=ω;have X:(15:Int)-((k+1:Nat):Int)=(i:Int)-1:=ω;have o:a'.wrap ((i:Int)-1)=(i:Int)-1:=ab ω ω;have I:=gM d i ω h.vl;have b:scan (fun i => !eY d.v.prs 0 i) (16-(k+1)) (k+1)=if(!eY d.v.prs 0 i)=true then i else scan (fun i => !eY d.v.prs 0 i) (16-k) k:=by
   rw[(ω:16-(k+1)=i),(ω:16-k=i+1)];rfl
  have A:eY d.v.prs 0 i=decide ((bc d.v.prs i).e=0):=by
   unfold eY;exact decide_eq_decide.2 ⟨fun h=>h.1,fun h=>⟨h,ω⟩⟩
  rw[A] at b;rw[W,X];generalize bc d.v.prs i=L at *;by_cases f:L.e=0
  .rw[b0 (by simp[f])] at b;rw[b];generalize scan (fun i => !eY d.v.prs 0 i) (16-k) k=S at *;simp only[go_sem,J,(ω:((i:Int)>=1)),o];refine aa Z I ?_;simp only[go_sem,J,f,decide_true,o,(ω:¬((i:Int)=0))];exact ahS
  .rw[b9 (by simp[f])] at b;rw[b];generalize scan (fun i => !eY d.v.prs 0 i) (16-k) k=S at *;simp only[go_sem,J,(ω:((i:Int)>=1)),o];refine aa Z I ?_;simp only[go_sem,J,f,decide_false,o];exact ahS
 obtain rfl:k=15:=by omega
 rw[show scan (fun i => !eY d.v.prs 0 i) (16-15) 15=jD d.v.prs 0 from rfl];have M:jD d.v.prs 0<1000:=Nat.lt_of_le_of_lt (tL _ 1 15) ε;have C:=pR (leF g t);have O:=pU (leF g t);have e0:(15:Int)-((15:Nat):Int)=0:=ε;generalize jD d.v.prs 0=K at *;rw[e0];by_cases m:K=0
 .rw[b9 m] at a;subst a;simp only[go_sem,J,m,l]
  done
 rw[b0 m] at a;have o:a'.wrap (16+(K:Int))=16+(K:Int):=ab ω ω;have E:xc g x t (ig d.v.prs D x).1 0 K=[(16+(K:Int),dy (leF g t))]:=by simp[xc,w]
 rw[E] at a;generalize hlb:dy (leF g t)=lb at *;have hst:=qa d [(16+(K:Int),lb)] B Q h.vl.1 (fun y hy=>by rw[n4.1 hy];show lb.length<1000;omega) η T;rw[a] at hst;simp only[go_sem,J,l,o,(ω:¬((K:Int)=0))];refine aa Z C ?_;refine θ ?_;exact aiY
def mtB(D:Nat->CR)(x:Cr)(i:Nat):Bool:=decide ((D i).e=0/\(D i).x.rp=x.rp/\(D i).x.us=x.us)
def mtD(f:Cr->Int)(D:Nat->CR)(x:Cr)(z:Int×Int):Nat->Nat->Int×Int
 |_,0=>z
 |i,k+1=>if mtB D x i=true then((i:Int),f (D i).x) else mtD f D x z (i+1) k
def frD(D:Nat->CR):Nat->Nat->Int
 |_,0 => -1
 |i,k+1=>if(D i).e=0 then frD D (i+1) k else(i:Int)
theorem Cq(f:Cr->Int)(D:Nat->CR)(x:Cr)(z:Int×Int):∀k i:Nat,mtD f D x z i (k+1)=mtD f D x (if mtB D x (i+k)=true then(((i+k:Nat):Int),f (D (i+k)).x) else z) i k
 |0,i=>rfl
 |k+1,i=>by
  have a:=Cq f D x z k (i+1);rw[(ω:i+1+k=i+(k+1))] at a;rw[mtD,a];rfl
theorem GA(f:Cr->Int)(D:Nat->CR)(x:Cr)(z:Int×Int):∀k i:Nat,mtD f D x z i k=if(mtD f D x (-1,0) i k).1<0 then z else mtD f D x (-1,0) i k
 |0,i=>rfl
 |k+1,i=>by
  by_cases h:mtB D x i=true
  .have a:∀z,mtD f D x z i (k+1)=((i:Int),f (D i).x):=fun z=>b9 h
   rw[a,a,b0 (by show¬((i:Int)<0);omega)]
  .have a:∀z,mtD f D x z i (k+1)=mtD f D x z (i+1) k:=fun z=>b0 h
   rw[a,a];exact GA f D x z k (i+1)
theorem LM(f:Cr->Int)(D:Nat->CR)(x:Cr):∀n:Nat,plF f x (fz D n)=mtD f D x (-1,0) 0 n
 |0=>rfl
 |n+1=>by
  have i:=LM f D x n;have hs:=Cq f D x (-1,0) n 0;have a:=GA f D x (if mtB D x n=true then(((n:Nat):Int),f (D n).x) else(-1,0)) n 0;have d:=GA f D x (-1,0) n 0;rw[Nat.zero_add] at hs;rw[hs,a,rx];generalize mtD f D x (-1,0) 0 n=R at *;by_cases h:(D n).e=0
  .rw[b9 h,LJ,i];by_cases b:(D n).x.rp=x.rp/\(D n).x.us=x.us
   .have g:mtB D x n=true:=qi ⟨h,b.1,b.2⟩;simp only[g,if_true];by_cases a:R.1<0
    .rw[b9 ⟨a,b.1,b.2⟩,b9 a]
    .rw[b0 (fun c=>a c.1),b0 a]
   .have g:mtB D x n=false:=p4 (fun c=>b c.2);simp only[g,Bool.false_eq_true,if_false];rw[b0 (fun c=>b c.2)];exact d
  .have g:mtB D x n=false:=p4 (fun c=>h c.1);rw[b0 h,i];simp only[g,Bool.false_eq_true,if_false];exact d
theorem Cs(D:Nat->CR)(i:Nat)(c:i<8):∀n,n<=8->(kM (fz D n)).getD i false=decide (i<n/\(D i).e=0)
 |0,_=>by
  have h:∀i:_root_.Fin 8,(List.replicate 8 false).getD i.val false=false:=ε;rw[show kM (fz D 0)=List.replicate 8 false from rfl,h ⟨i,c⟩];simp
 |n+1,hn=>by
  have d:=Cs D i c n ω;have f:=Iq (fz D n);rw[rx];by_cases b:(D n).e=0
  .rw[b9 b,EN];by_cases a:i=n
   .subst a;simp[cR,f,c,b]
   .have:((kM (fz D n)).set n true).getD i false=(kM (fz D n)).getD i false:=by simp[cR,List.getElem?_set_ne (fun h:n=i=>a h.symm)]
    rw[this,d];exact decide_eq_decide.2 ⟨fun h=>⟨ω,h.2⟩,fun h=>⟨ω,h.2⟩⟩
  .rw[b0 b,d];exact decide_eq_decide.2 ⟨fun h=>⟨ω,h.2⟩,fun h=>⟨by rcases Nat.eq_or_lt_of_le (Nat.le_of_lt_succ h.1) with rfl|g;exact s5 h.2 b;exact g,h.2⟩⟩
theorem Ct(D:Nat->CR)(u:List Bool)(a:∀i,i<8->u.getD i false=decide ((D i).e=0)):∀k i:Nat,i+k<=8->vw u i k=frD D i k
 |0,_,_=>rfl
 |k+1,i,h=>by
  simp only[vw,frD];rw[a i ω,Ct D u a k (i+1) ω];by_cases b:(D i).e=0
  .simp[b]
  .simp[b]
theorem Is(s:ai)(D:Nat->CR)(x:Cr):ig s D x=mtD (iR s) D x (frD D 0 8,0) 0 8:=by
 have h1:=LM (iR s) D x 8;have h2:Gz (kM (fz D 8))=frD D 0 8:=Ct D _ (fun i b=>by rw[Cs D i b 8 (c7 _)];exact decide_eq_decide.2 ⟨fun h=>h.2,fun h=>⟨b,h⟩⟩) 8 0 ε;have c:(mtD (iR s) D x (-1,0) 0 8).1<0->(mtD (iR s) D x (-1,0) 0 8).2=0:=by
  have a:∀k i,(mtD (iR s) D x (-1,0) i k).1<0->(mtD (iR s) D x (-1,0) i k).2=0:=by
   intro k
   induction k with
   |zero=>intro i _;rfl
   |succ k d =>
    intro i;simp only[mtD];split
    .intro h;exact s5 h (by show¬((i:Int)<0);omega)
    .exact d (i+1)
  exact a 8 0
 have e:=GA (iR s) D x (frD D 0 8,0) 8 0;show((if(plF (iR s) x (fz D 8)).1<0 then Gz (kM (fz D 8)) else(plF (iR s) x (fz D 8)).1),(plF (iR s) x (fz D 8)).2)=_;rw[e,h2,h1];generalize mtD (iR s) D x (-1,0) 0 8=R at *;by_cases h:R.1<0
 .rw[b9 h,b9 h,c h]
 .rw[b0 h,b0 h]
theorem GB(g:G3)(hg:GOk g)(d:aU)(D:Nat->CR)(x:Cr)(id:List UInt8)(n:Nat)(B:Int)(h:Cn d D)(hon:d.on=true)(hx:CrOk x)(X:x.rs=true)(E:(fj x).length<1000)(hn:id.length=n)(G:n<100000)(hb:d.v.j.bs.length<1000000000)(hB:i64 B) :
 FPure prog 8 [bg d,.agg (crC x),.p (.data 1 n (id.map bt)),.i g.fr,.i g.tt,.i g.nx,.i B] (th (vz g d D x (bA 10 0 id) B)):=by
 refine ba f8 ajt ?_;intro c J H Y Z;obtain⟨R,l⟩:∃R,vz g d D x (bA 10 0 id) B=R:=⟨_,rfl⟩;rw[l] at Y Z;(try rw[l]);unfold vz at l;have he:=fG x hx;have ht:=An id n hn G;have I:=dR d id n hn G h.vl;generalize bA 10 0 id=t at *;have hv:=Cp g hg t;have hbd:=ya d.v.prs D x;have hpm:=Is d.v.prs D x;simp only[X,true_and,if_true] at l;generalize dU (bq d.v.prs) t=N at *;generalize M:fj x=E0 at *;have m:(x.rs=true)=True:=sy X;simp only[go_sem,J,hon];refine aa Z he ?_;refine δ ht ?_;refine δ hv ?_;refine θ ?_;refine ay Y H ajt 8 (fun k=>⟨186,[(2,.p (.data 1 n (id.map bt))),(6,.i B),(7,.ptr 0 0),(8,.ptr 1 0),(14,.ptr 2 0),(17,blA E0),(19,.ptr 3 0),(20,.i (frD D (8-k) k)),(21,.i 0),(22,.i (7-(k:Int)))],raH g d x t,4⟩) [] (fun i=>i) ⟨rfl,by simp only[go_sem];exact⟨rfl,rfl⟩,κ,rfl,rfl,trivial,fun i h=>h⟩ ?_;intro k hk;rcases ea k 8 with hk8|hk8
 .obtain⟨i,hi⟩:∃i,i=7-k:=⟨_,rfl⟩;have O:i<=7:=ω;have P:(7:Int)-(k:Int)=(i:Int):=ω;have Q:(7:Int)-((k+1:Nat):Int)=(i:Int)-1:=ω;have b:a'.wrap ((i:Int)-1)=(i:Int)-1:=ab ω ω;have o:=tK d D i ω h.vl (h.r i ω);have f:frD D (8-(k+1)) (k+1)=if(D i).e=0 then frD D (8-k) k else(i:Int):=by
   rw[(ω:8-(k+1)=i),(ω:8-k=i+1)];rfl
  rw[P,Q,f];generalize frD D (8-k) k=S at *;generalize D i=L at *;by_cases a:L.e=0
  .rw[b9 a];simp only[go_sem,J,m,(ω:((i:Int)>=0)),b];refine aa Z o ?_;simp only[go_sem,J,a,decide_true,b];exact afQ
  .rw[b0 a];simp only[go_sem,J,m,(ω:((i:Int)>=0)),b];refine aa Z o ?_;simp only[go_sem,J,a,decide_false,b];exact afQ
 obtain rfl:k=8:=by omega
 rw[show frD D (8-8) 8=frD D 0 8 from rfl];generalize hF0:frD D 0 8=F0 at *;have e8:(7:Int)-((8:Nat):Int) = -1:=ε;rw[e8];simp only[go_sem,J,m];refine ay Y H ajt 8 (fun k=>⟨186,[(2,.p (.data 1 n (id.map bt))),(6,.i B),(7,.ptr 0 0),(8,.ptr 1 0),(14,.ptr 2 0),(17,blA E0),(19,.ptr 3 0),(20,.i (mtD (iR d.v.prs) D x (F0,0) (8-k) k).1),(21,.i (mtD (iR d.v.prs) D x (F0,0) (8-k) k).2),(25,.i (7-(k:Int)))],raH g d x t,4⟩) [] (fun i=>i) ⟨rfl,by simp only[go_sem];exact⟨rfl,rfl,rfl⟩,κ,rfl,rfl,trivial,fun i h=>h⟩ ?_;intro k hk;rcases ea k 8 with hk8|hk8
 .obtain⟨i,hi⟩:∃i,i=7-k:=⟨_,rfl⟩;have O:i<=7:=ω;have P:(7:Int)-(k:Int)=(i:Int):=ω;have Q:(7:Int)-((k+1:Nat):Int)=(i:Int)-1:=ω;have b:a'.wrap ((i:Int)-1)=(i:Int)-1:=ab ω ω;have o:=tK d D i ω h.vl (h.r i ω);have hok:=h.ok i ω;have f:mtD (iR d.v.prs) D x (F0,0) (8-(k+1)) (k+1)=if mtB D x i=true then((i:Int),iR d.v.prs (D i).x) else mtD (iR d.v.prs) D x (F0,0) (8-k) k:=by
   rw[(ω:8-(k+1)=i),(ω:8-k=i+1)];rfl
  have z:=dR d (idR (D i).x) 176 (nK _) ε h.vl;rw[show(dU (bq d.v.prs) (bA 10 0 (idR (D i).x)):Int)=iR d.v.prs (D i).x from rfl] at z;rw[P,Q,f];generalize mtD (iR d.v.prs) D x (F0,0) (8-k) k=S at *;by_cases a:(D i).e=0
  .have⟨hc,hrs⟩:=hok a;have hid:=nF (D i).x hc hrs;by_cases q:(D i).x.rp=x.rp
   .by_cases u:(D i).x.us=x.us
    .rw[show mtB D x i=true from qi ⟨a,q,u⟩,b9 rfl];generalize D i=L at *;simp only[go_sem,J,m,(ω:((i:Int)>=0)),b];refine aa Z o ?_;simp only[go_sem,J,a,decide_true,b,cK,sy q,sy u];refine aa Z hid ?_;refine δ z ?_;simp only[go_sem,J,b];refine⟨π,hk8,aA [0,1,2,3] rfl ?_ ?_ rfl rfl (cV rfl)⟩
     .exact κ
     .exact κ
    .rw[show mtB D x i=false from p4 (fun c=>u c.2.2),b0 ε];generalize D i=L at *;simp only[go_sem,J,m,(ω:((i:Int)>=0)),b];refine aa Z o ?_;simp only[go_sem,J,a,decide_true,b,cK,sy q,eq_false u];exact afQ
   .rw[show mtB D x i=false from p4 (fun c=>q c.2.1),b0 ε];generalize D i=L at *;simp only[go_sem,J,m,(ω:((i:Int)>=0)),b];refine aa Z o ?_;simp only[go_sem,J,a,decide_true,b,cK,eq_false q];exact afQ
  .rw[show mtB D x i=false from p4 (fun c=>a c.1),b0 ε];generalize D i=L at *;simp only[go_sem,J,m,(ω:((i:Int)>=0)),b];refine aa Z o ?_;simp only[go_sem,J,a,decide_false,b];exact afQ
 obtain rfl:k=8:=by omega
 rw[show mtD (iR d.v.prs) D x (F0,0) (8-8) 8=mtD (iR d.v.prs) D x (F0,0) 0 8 from rfl,<-hpm,e8];generalize ig d.v.prs D x=F at *;by_cases hN:N=0
 case neg =>
  rw[b9 hN] at l;subst l;simp only[go_sem,J,m];refine aa Z I ?_;simp only[go_sem,J,hN]
 rw[b0 ω] at l;simp only[go_sem,J,m];refine aa Z I ?_;simp only[go_sem,J,hN];refine ay Y H ajt 15 (fun k=>⟨186,[(6,.i B),(7,.ptr 0 0),(8,.ptr 1 0),(14,.ptr 2 0),(17,blA E0),(19,.ptr 3 0),(20,.i F.1),(21,.i F.2),(30,.i (scan (fun i => !eY d.v.prs F.2 i) (16-k) k)),(31,.i (15-(k:Int)))],raH g d x t,4⟩) [] (fun i=>i) ⟨rfl,by simp only[go_sem];exact⟨rfl,rfl⟩,κ,rfl,rfl,trivial,fun i h=>h⟩ ?_;intro k hk;rcases ea k 15 with hk8|hk8
 .obtain⟨i,hi⟩:∃i,i=15-k:=⟨_,rfl⟩;have O:1<=i/\i<=15:=ω;have P:(15:Int)-(k:Int)=(i:Int):=ω;have Q:(15:Int)-((k+1:Nat):Int)=(i:Int)-1:=ω;have b:a'.wrap ((i:Int)-1)=(i:Int)-1:=ab ω ω;have o:=gM d i ω h.vl;have f:scan (fun i => !eY d.v.prs F.2 i) (16-(k+1)) (k+1)=if(!eY d.v.prs F.2 i)=true then i else scan (fun i => !eY d.v.prs F.2 i) (16-k) k:=by
   rw[(ω:16-(k+1)=i),(ω:16-k=i+1)];rfl
  have htk:eY d.v.prs F.2 i=decide ((bc d.v.prs i).e=0/\(i:Int)≠F.2):=rfl;rw[htk] at f;rw[P,Q];generalize bc d.v.prs i=L at *;by_cases a:L.e=0
  .by_cases w:(i:Int)=F.2
   .rw[b9 (by simp[w])] at f;rw[f];generalize scan (fun i => !eY d.v.prs F.2 i) (16-k) k=S at *;simp only[go_sem,J,(ω:((i:Int)>=1)),b];refine aa Z o ?_;simp only[go_sem,J,a,decide_true,b,sy w];exact afQ
   .rw[b0 (by simp[a,w])] at f;rw[f];generalize scan (fun i => !eY d.v.prs F.2 i) (16-k) k=S at *;simp only[go_sem,J,(ω:((i:Int)>=1)),b];refine aa Z o ?_;simp only[go_sem,J,a,decide_true,b,eq_false w];exact afQ
  .rw[b9 (by simp[a])] at f;rw[f];generalize scan (fun i => !eY d.v.prs F.2 i) (16-k) k=S at *;simp only[go_sem,J,(ω:((i:Int)>=1)),b];refine aa Z o ?_;simp only[go_sem,J,a,decide_false,b];exact afQ
 obtain rfl:k=15:=by omega
 rw[show scan (fun i => !eY d.v.prs F.2 i) (16-15) 15=jD d.v.prs F.2 from rfl];have hK16:jD d.v.prs F.2<1000:=Nat.lt_of_le_of_lt (tL _ 1 15) ε;have T:=pR (leF g t);have hlen:=pU (leF g t);have e0:(15:Int)-((15:Nat):Int)=0:=ε;generalize jD d.v.prs F.2=K at *;rw[e0];by_cases C:F.1<0
 .rw[b9 C] at l;subst l;by_cases s:K=0
  .simp only[go_sem,J,s,m,C]
  .simp only[go_sem,J,(ω:¬((K:Int)=0)),m,C]
 rw[b0 C] at l;by_cases s:K=0
 .rw[b9 s] at l;subst l;simp only[go_sem,J,s,m]
 rw[b0 s] at l;have b:a'.wrap (16+(K:Int))=16+(K:Int):=ab ω ω;have U:a'.wrap (64+F.1)=64+F.1:=ab ω ω;have hw3:a'.wrap (16+F.2)=16+F.2:=ab ω ω;generalize V:dy (leF g t)=lb at *;by_cases w:0<F.2/\F.2≠K
 .have A:xc g x t F.1 F.2 K=[(64+F.1,E0),(16+(K:Int),lb),(16+F.2,[])]:=by simp[xc,X,w,V,M]
  rw[A] at l;have hst:=qa d [(64+F.1,E0),(16+(K:Int),lb),(16+F.2,[])] B hb h.vl.1 (fun y W=>by simp at W;rcases W with rfl|rfl|rfl;exact E;(show lb.length<1000;omega);exact Nat.succ_pos _) η hB;rw[l] at hst;simp only[go_sem,J,m,C,b,U,(ω:¬((K:Int)=0))];refine aa Z T ?_;simp only[go_sem,J,hw3,(ω:¬(F.2=0)),w.2];refine x_f Z (Ir hst) ?_;simp only[go_sem,J]
 .have A:xc g x t F.1 F.2 K=[(64+F.1,E0),(16+(K:Int),lb)]:=by simp[xc,X,w,V,M]
  rw[A] at l;have hst:=qa d [(64+F.1,E0),(16+(K:Int),lb)] B hb h.vl.1 (fun y W=>by simp at W;rcases W with rfl|rfl;exact E;(show lb.length<1000;omega)) η hB;rw[l] at hst;simp only[go_sem,J,m,C,b,U,(ω:¬((K:Int)=0))];refine aa Z T ?_;by_cases H:F.2=0
  .simp only[go_sem,J,H];exact aiY
  .have h1:F.2=K:=Decidable.byContradiction fun hc=>w ⟨ω,hc⟩
   simp only[go_sem,J,h1,(ω:¬((K:Int)=0))];exact aiY

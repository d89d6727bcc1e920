/- own work: steps of the proof -/
import Derived.Test.YtgnmplopdkgccaaGreatDoorPg
import Derived.Shelf.SlGeneric
import Derived.Shelf.SlIterI.Nil
import Derived.Shelf.SortM.Plain
import Derived.Shelf.SortM.SortNone
import Derived.Ground.GgzProg
import Derived.Ground.SlgmProg
set_option linter.all false
set_option maxHeartbeats 4000000
open List renaming map→a',take_succ_cons→b'
open UInt8 renaming ofNat→c'
open Go.IntKind renaming u8→d',i64→e'
namespace Go.Abs
open RowKit Proofs Proofs.Tryz
def prC(p:Int×List UInt8):List PV:=[.v (.int .i64 p.1),byP p.2]
def gB(l:ai):List PV:=l.flatMap prC
def PL(l:ai):PV := .data 2 l.length (gB l)
theorem ft:gB []=[]:=rfl
theorem fw(p:Int×List UInt8)(l:ai):gB (p::l) = .v (.int .i64 p.1)::byP p.2::gB l:=rfl
theorem NK(l r:ai):gB (l++r)=gB l++gB r:=by simp[gB]
theorem Dv:∀l:ai,(gB l).length=l.length*2
 |[]=>rfl
 |p::l=>by rw[fw];simp[Dv l];omega
theorem yN:∀(l:ai) (i:Nat),(gB l).drop (i*2)=gB (l.drop i)
 |[],i=>by simp[ft]
 |p::l,0=>by simp
 |p::l,i+1=>by
  rw[fw,show(i+1)*2=i*2+1+1 by omega];simp only[List.drop_succ_cons];exact yN l i
theorem dY(l:ai)(i:Nat)(h:i<l.length):(gB l).drop (i*2) = .v (.int .i64 (l.getD i (0,[])).1)::byP (l.getD i (0,[])).2::gB (l.drop (i+1)):=by
 rw[yN,hE h,fw];exact agO
theorem Jt(l:ai)(n:Nat):(gB l).take (n*2)=gB (l.take n):=by
 induction l generalizing n with
 |nil=>simp[ft]
 |cons p l a =>
  cases n with
  |zero=>simp[ft]
  |succ n=>rw[show(n+1)*2=n*2+1+1 by omega,fw,b',b',a,b',fw]
def szM:ai->Nat
 |[]=>0
 |p::l=>3+p.2.length+szM l
theorem gm:∀l r,szM (l++r)=szM l+szM r
 |[],r=>by simp[szM]
 |p::l,r=>by simp only[List.cons_append,szM,gm l r];omega
theorem eD(l:ai)(i:Nat)(h:i<l.length):l.take (i+1)=l.take i++[l.getD i (0,[])]:=by
 rw[s8 h];simp[cR,h]
theorem nh(l:ai)(i:Nat):szM (l.take i)<=szM l:=by
 conv=>rhs;rw[<-List.take_append_drop i l,gm]
 omega
theorem ni:∀l:ai,3*l.length<=szM l
 |[]=>by simp[szM]
 |p::l=>by have:=ni l;simp only[szM,ew];omega
theorem AJ(l:ai)(d:szM l<1000000000000):FPure prog 111 [.p (PL l)] (.i (szM l)):=by
 apply ba f111 [0,2,3,5,6,7,8,9];intro c J a Y Z;simp only[go_sem,J,PL];have b:=ni l;refine ay Y a [0,2,3,5,6,7,8,9] l.length (fun i=>⟨20,[(3,.i (szM (l.take i))),(6,.p (PL l)),(7,.i l.length),(8,.i i)],[],0⟩) [] (fun i=>i) ?_ ?_
 .exact aiz
 .exact afI
theorem AK(l:ai)(d:szM l<1000000000000):FPure prog 165 [.p (PL l)] (.i (szM l)):=by
 apply ba f165 [0,2,3,4,8];intro c J a Y Z;simp only[go_sem,PL];have b:=ni l;refine ay Y a [0,2,3,4,8] l.length (fun i=>⟨21,[(0,.p (PL l)),(3,.i (szM (l.take i))),(4,.i i)],[],0⟩) [] (fun i=>i) ?_ ?_
 .exact aiz
 .exact afI
def u8i(z:Int):UInt8:=c' (d'.wrap z).toNat
theorem tV(z:Int):((u8i z).toNat:Int)=d'.wrap z:=by
 unfold u8i;rw[dh];simp;omega
def bh:ai->List UInt8
 |[]=>[]
 |p::l=>u8i p.1::c' (p.2.length/256)::c' p.2.length::(p.2++bh l)
theorem cB:∀l,(bh l).length=szM l
 |[]=>rfl
 |p::l=>by simp only[bh,szM,ew,c9,cB l];omega
theorem r9:∀l r,bh (l++r)=bh l++bh r
 |[],r=>rfl
 |p::l,r=>by simp[bh,r9 l r]
theorem hi8(n:Nat)(h:n<1000000000000):d'.wrap (ishr .i64 (n:Int) 8)=((c' (n/256)).toNat:Int):=by
 have e:ishr .i64 (n:Int) 8=((n/256:Nat):Int):=by
  show Int.fdiv (n:Int) (2^(min 8 64))=_;rw[Int.fdiv_eq_ediv_of_nonneg _ ε];rfl
 rw[e,dh,nw];omega
theorem lo8(n:Nat):d'.wrap (n:Int)=((c' n).toNat:Int):=by
 rw[dh,nw];omega
theorem yO(l:ai)(r:szM l<1000000000):FPure prog 114 [.p (PL l)] (.p (.data 1 (szM l) ((bh l).map bt))):=by
 apply ba f114 [0,2,3,5,6,7,8,9];intro c J k Y Z;simp only[go_sem,J,PL];have m:=ni l;apply aX bP;refine ay Y k [0,2,3,5,6,7,8,9] l.length (fun i=>⟨33,[(3,.sl 0 0 (bh (l.take i)).length 1),(6,.p (PL l)),(7,.i l.length),(8,.i i)],[(0,some ⟨bP,cb (bh (l.take i))⟩)],1⟩) [] (fun i=>i) ?_ ?_
 .exact ahO
 .intro i s;rcases ea i l.length with a|a
  .have e:=dY l i a;have n:((i:Int)<(l.length:Int)):=ω;have b:=eD l i a;have hs:=nh l (i+1);rw[b,gm] at hs;simp only[szM] at hs;have o:=cB (l.take i);have q:=hi8 (l.getD i (0,[])).2.length ω;have f:=lo8 (l.getD i (0,[])).2.length;have g:=tV (l.getD i (0,[])).1;simp only[go_sem,J,PL,e,n,byP,q,f,<-g];have d:cb (bh (l.take i))++[.p (.v (.int .u8 ((u8i (l.getD i (0,[])).1).toNat:Int))),.p (.v (.int .u8 ((c' ((l.getD i (0,[])).2.length/256)).toNat:Int))),.p (.v (.int .u8 ((c' (l.getD i (0,[])).2.length).toNat:Int)))] ++
    a' AV.p (a' bt (l.getD i (0,[])).2)=cb (bh (l.take (i+1))):=by
    rw[b,r9];simp[bh,cb,bt]
   have j:(bh (l.take i)).length+3+(l.getD i (0,[])).2.length=(bh (l.take (i+1))).length:=by
    rw[cB,cB,b,gm];simp only[szM];omega
   rw[d,j]
   (try go_unwrap)
   refine⟨ω,⟨ω,ω⟩,⟨ω,ω⟩,a,aA [4] rfl ?_ ?_ rfl rfl (c7 _)⟩
   .simp only[go_sem];omega
   .exact agP
  .exact agA
theorem yP(l:ai)(r:szM l<1000000000):FPure prog 169 [.p (PL l)] (.p (.data 1 (szM l) ((bh l).map bt))):=by
 apply ba f169 [0,2,3,4,8];intro c J k Y Z;simp only[go_sem,PL];have m:=ni l;apply aX bP;refine ay Y k [0,2,3,4,8] l.length (fun i=>⟨43,[(0,.p (PL l)),(3,.sl 0 0 (bh (l.take i)).length 1),(4,.i i)],[(0,some ⟨bP,cb (bh (l.take i))⟩)],1⟩) [] (fun i=>i) ?_ ?_
 .exact ahO
 .intro i s;rcases ea i l.length with a|a
  .have e:=dY l i a;have n:((i:Int)<(l.length:Int)):=ω;have b:=eD l i a;have hs:=nh l (i+1);rw[b,gm] at hs;simp only[szM] at hs;have o:=cB (l.take i);have q:=hi8 (l.getD i (0,[])).2.length ω;have f:=lo8 (l.getD i (0,[])).2.length;have g:=tV (l.getD i (0,[])).1;simp only[go_sem,J,PL,e,n,byP,q,f,<-g];have d:cb (bh (l.take i))++[.p (.v (.int .u8 ((u8i (l.getD i (0,[])).1).toNat:Int))),.p (.v (.int .u8 ((c' ((l.getD i (0,[])).2.length/256)).toNat:Int))),.p (.v (.int .u8 ((c' (l.getD i (0,[])).2.length).toNat:Int)))] ++
    a' AV.p (a' bt (l.getD i (0,[])).2)=cb (bh (l.take (i+1))):=by
    rw[b,r9];simp[bh,cb,bt]
   have j:(bh (l.take i)).length+3+(l.getD i (0,[])).2.length=(bh (l.take (i+1))).length:=by
    rw[cB,cB,b,gm];simp only[szM];omega
   rw[d,j]
   (try go_unwrap)
   refine⟨ω,ω,ω,⟨ω,ω⟩,π,ω,⟨ω,ω⟩,a,aA [3] rfl ?_ ?_ rfl rfl (c7 _)⟩
   .simp only[go_sem];omega
   .exact agP
  .exact agA
def aV(l:ai):List (List UInt8):=l.map fun p=>bh [p]
theorem wy(l:ai)(i:Nat)(h:i<l.length):aV (l.take (i+1))=aV (l.take i)++[bh [l.getD i (0,[])]]:=by
 rw[eD l i h];simp[aV]
theorem NL(l:ai)(i:Nat)(h:i<l.length):((gB l).drop (i*2)).take 2=gB [l.getD i (0,[])]:=by
 rw[dY l i h];simp[fw,ft]
theorem Hc(l:ai)(i:Nat)(h:i<l.length):szM [l.getD i (0,[])]<=szM l:=by
 have h2:=nh l (i+1);rw[eD l i h,gm] at h2;omega
theorem sa(l:ai)(j:szM l<1000000000):FPure prog 104 [.p (PL l)] (.p (.data 1 l.length ((aV l).map byP))):=by
 apply ba f104 [0,2,3,4,6,7,8];intro c J b Y Z;simp only[go_sem,J,PL];have d:=ni l;apply aX iS;refine ay Y b [0,2,3,4,6,7,8] l.length (fun i=>⟨21,[(0,.p (PL l)),(3,.sl 0 0 (aV (l.take i)).length 1),(6,.i l.length),(7,.i i)],[(0,some ⟨iS,byL (aV (l.take i))⟩)],1⟩) [] (fun i=>i) ?_ ?_
 .exact ahL
 .intro i k;rcases ea i l.length with hin|hin
  .have e:((i:Int)<(l.length:Int)):=ω;have a:=NL l i hin;have f:=Hc l i hin;have g:=ac i
   have h1:i+1-i=1:=ω;have hlen:(bh [l.getD i (0,[])]).length=szM [l.getD i (0,[])]:=cB _;have hsl:(aV (l.take i)).length=i:=by simp[aV];omega
   have hst:=wy l i hin;simp only[go_sem,J,PL,e,g];rw[h1,Nat.one_mul,a];refine⟨⟨ω,ω,ω⟩,?_⟩;apply aa Z (yO [l.getD i (0,[])] ω);exact agM
  .exact agn
theorem AL(l:ai)(j:szM l<1000000000):FPure prog 171 [.p (PL l)] (.p (.data 1 l.length ((aV l).map byP))):=by
 apply ba f171 [0,2,3,4,8];intro c J b Y Z;simp only[go_sem,PL];have d:=ni l;apply aX iS;refine ay Y b [0,2,3,4,8] l.length (fun i=>⟨21,[(0,.p (PL l)),(3,.sl 0 0 (aV (l.take i)).length 1),(4,.i i)],[(0,some ⟨iS,byL (aV (l.take i))⟩)],1⟩) [] (fun i=>i) ?_ ?_
 .exact ahL
 .intro i k;rcases ea i l.length with hin|hin
  .have e:((i:Int)<(l.length:Int)):=ω;have a:=NL l i hin;have f:=Hc l i hin;have g:=ac i
   have h1:i+1-i=1:=ω;have hlen:(bh [l.getD i (0,[])]).length=szM [l.getD i (0,[])]:=cB _;have hsl:(aV (l.take i)).length=i:=by simp[aV];omega
   have hst:=wy l i hin;simp only[go_sem,J,PL,e,g];rw[h1,Nat.one_mul,a];refine⟨⟨ω,ω,ω⟩,?_⟩;apply aa Z (yP [l.getD i (0,[])] ω);exact agM
  .exact agn
def ff:Nat->List UInt8->Option ai
 |0,_=>some []
 |f+1,b=>if b=[] then some [] else
  if b.length<3 then none else
  if b.length-3<aF b 1 then none else
  match ff f (b.drop (3+aF b 1)) with
  |some l=>some (((((b.getD 0 0).toNat:Nat):Int),(b.drop 3).take (aF b 1))::l)
  |none=>none
def dH(b:List UInt8):Option ai:=ff b.length b
def bE(b:List UInt8):ai:=(dH b).getD []
theorem ov:∀(f a:Nat) (b:List UInt8),b.length<=f->b.length<=a->ff f b=ff a b
 |0,0,b,_,_=>rfl
 |0,a+1,b,h,_=>by
  have:b=[]:=fo ω;subst this;simp[ff]
 |f+1,0,b,_,h=>by
  have:b=[]:=fo ω;subst this;simp[ff]
 |f+1,a+1,b,h,h'=>by
  simp only[ff];split
  .rfl
  .split
   .rfl
   .split
    .rfl
    .rw[ov f a (b.drop (3+aF b 1)) ζ ζ]
theorem j8(b:List UInt8)(a:b≠[])(h1:¬b.length<3)(h2:¬b.length-3<aF b 1) :
 dH b=(dH (b.drop (3+aF b 1))).map fun l=>((((b.getD 0 0).toNat:Nat):Int),(b.drop 3).take (aF b 1))::l:=by
 unfold dH;obtain⟨f,c⟩:∃f,b.length=f+1:=⟨b.length-1,ω⟩
 rw[c];simp only[ff];rw[b0 a,b0 h1,b0 h2,ov f (b.drop (3+aF b 1)).length _ ζ (c7 _)];cases ff (b.drop (3+aF b 1)).length (b.drop (3+aF b 1))<;>rfl
theorem py:dH []=some []:=rfl
theorem qM(r:List UInt8)(a:r≠[])(h:r.length<3):dH r=none:=by
 unfold dH;obtain⟨f,b⟩:∃f,r.length=f+1:=⟨r.length-1,by have:=List.length_pos_iff.2 a;omega⟩
 rw[b];simp only[ff];rw[b0 a,b9 h]
theorem wz(r:List UInt8)(b:r≠[])(h1:¬r.length<3)(h:r.length-3<aF r 1):dH r=none:=by
 unfold dH;obtain⟨f,a⟩:∃f,r.length=f+1:=⟨r.length-1,ω⟩
 rw[a] at h1 h⊢;simp only[ff];rw[b0 b,a,b0 h1,b9 h]
theorem Dw(r:List UInt8):bor .i64 (iF .i64 (e'.wrap ((r.getD 1 0).toNat:Int)) 8) (e'.wrap ((r.getD 2 0).toNat:Int))=((aF r 1:Nat):Int):=by
 have h1:=(r.getD 1 0).toNat_lt;have h2:=(r.getD 2 0).toNat_lt;rw[ab ω ω,ab ω ω,oV _ _ h1 h2];rfl
theorem NM(x:UInt8):e'.wrap (x.toNat:Int)=(x.toNat:Int):=by
 have:=x.toNat_lt;rw[ab ω ω]
theorem Dx(bs:List UInt8):gE (.v (.int .u8 0)) (bs.map bt)=bt (bs.getD 0 0):=by
 have:=AN bs 0;simpa using this
def prA(l:ai):List AV:=(gB l).map .p
theorem tW(l:ai):(prA l).length=l.length*2:=by simp[prA,Dv]
theorem wA(l:ai)(k:Int)(v:List UInt8):prA l++[.p (.v (.int .i64 k)),.p (.data 1 v.length (v.map bt))]=prA (l++[(k,v)]):=by simp[prA,NK,fw,ft,byP]
theorem gT(h:bv)(S:List Nat)(σ:Nat->Nat)(l:ai):aj h S σ (prA l) (prA l):=aL h S σ _
theorem Dy(l:ai):jN (prA l):=aG _
theorem Dz(l:ai):jO (prA l)=gB l:=aJ _
theorem DA(T:List Nat)(l:ai):ak T (prA l):=aM T _
theorem NN(τ:Nat->Nat)(l:ai):eu τ (prA l)=prA l:=cT τ _
theorem NO(l:ai)(n:Nat):(prA l).take (n*2)=prA (l.take n):=by unfold prA;rw[<-List.map_take,Jt]
theorem qN(l:ai):(prA l).take (l.length*2)=prA l:=by rw[NO,cD (c7 _)]
attribute [go_sem] List.flatten_cons List.flatten_nil List.append_nil tW wA Dy Dz NN qN
theorem NP(b:List UInt8)(n:Nat)(hn:b.length=n)(z:n<1000000000):FPure prog 183 [.p (.data 1 n (b.map bt))] (.p (PL (bE b))):=by
 refine ba f183 [0,2,3,4,5,8,11,31] ?_;intro c J t Y Z;simp only[go_sem];refine aX 80 ?_;refine bl Y t [0,2,3,4,5,8,11,31] (α:={x:List UInt8×ai // x.1.length<=n/\dH b=(dH x.1).map (x.2++·)/\x.2.length+x.1.length<=n})
  (fun x=>⟨45,[(0,.p (.data 1 x.1.1.length (x.1.1.map bt))),(3,.sl 0 0 x.1.2.length 2)],[(0,some ⟨80,prA x.1.2⟩)],1⟩) (fun x=>x.1.1.length) ⟨(b,[]),by show b.length<=n;omega,η,ζ⟩ [] (fun i=>i) ?_ ?_
 .exact ah4
 .rintro⟨⟨r,l⟩,h1,h2,u⟩;simp only at h1 h2 u;have k:=Dw r;have m:=NM (r.getD 0 0);have o:(r.drop 3).take (r.length-3)=r.drop 3:=cD η;simp only[go_sem,J,Dx,PL,k,m,o];have a:dH r=none->bE b=[]:=fun h=>by unfold bE;rw[h2,h];rfl
  split
  .rename_i j;have d:r≠[]:=fun e=>by subst e;simp at j
   split
   .rw[a (qM r d ω)];exact⟨rfl,rfl⟩
   .rename_i w;refine⟨ω,ω,ω,ω,ω,ω,π,⟨ω,ω⟩,?_⟩;split
    .rw[a (wz r d ω ω)];exact⟨rfl,rfl⟩
    .refine⟨⟨ω,ω⟩,?_⟩;have A:aF r 1<=r.length-3:=ω;have q:((r.drop 3).take (aF r 1)).length=aF r 1:=ζ;have f:=j8 r d ω ω;have g:prA l++[.p (.v (.int .i64 ((r.getD 0 0).toNat:Int))),.p (.data 1 (aF r 1) (((r.drop 3).take (aF r 1)).map bt))]=prA (l++[(((r.getD 0 0).toNat:Int),(r.drop 3).take (aF r 1))]):=by
      rw[<-wA,q]
     have y:(r.drop 3).drop (aF r 1)=r.drop (3+aF r 1):=by rw[List.drop_drop]
     have s:(r.drop (3+aF r 1)).take (r.length-3-aF r 1)=r.drop (3+aF r 1):=cD ζ;have hdl:(r.drop (3+aF r 1)).length=r.length-3-aF r 1:=ζ;rw[g,y,s];refine⟨⟨ω,ω⟩,⟨ω,ω,ω⟩,⟨(r.drop (3+aF r 1),l++[(((r.getD 0 0).toNat:Int),(r.drop 3).take (aF r 1))]),?_,?_,?_⟩,?_,aA [2] rfl ?_ ?_ rfl rfl (c7 _)⟩
     .show(r.drop (3+aF r 1)).length<=n;omega
     .rw[h2,f];cases dH (r.drop (3+aF r 1))<;>simp
     .exact aiv
     .show(r.drop (3+aF r 1)).length<r.length;omega
     .simp only[go_sem,hdl]
      (try simp)
     .exact ahK
  .have:r=[]:=fo ω;subst this;have:bE b=l:=by unfold bE;rw[h2,py];simp
   rw[this];exact⟨c7 _,rfl,rfl⟩
theorem ow(S l:List Nat){st a:AS}(n:a.n=st.n)(c:sC (hget st.hp) S (sg st.nx l) st.sl a.sl)(b:iU (hget st.hp) S (sg st.nx l) a.hp)(e:cP ((liveK a.hp).map (sg st.nx l))=true)(lt:dm a.nx (liveK a.hp)=true)(d:pH st.hp S)(nx:l.length<=a.nx) :
 ∃S σ,Sub S σ st a:=⟨S,sg st.nx l,n,c,b,e,lt,d,fun _ h=>aw l _ _ (Nat.le_trans nx h)⟩
theorem NQ(b:List UInt8)(n:Nat)(hn:b.length=n)(C:n<1000000000):FPure prog 242 [.p (.data 1 n (b.map bt))] (.tup [.p (PL (bE b)),.b (dH b).isSome]):=by
 apply ba f242 [0,2,3,4,5,8,27];intro c J y Y Z;simp only[go_sem];apply aX 80;refine bl Y y [0,2,3,4,5,8,27] (α:={x:List UInt8×ai // x.1.length<=n/\dH b=(dH x.1).map (x.2++·)/\x.2.length+x.1.length<=n})
  (fun x=>⟨56,[(0,.p (.data 1 x.1.1.length (x.1.1.map bt))),(4,.sl 0 0 x.1.2.length 2)],[(0,some ⟨80,prA x.1.2⟩)],1⟩) (fun x=>x.1.1.length) ⟨(b,[]),by show b.length<=n;omega,η,ζ⟩ [] (fun i=>i) ?_ ?_
 .exact ah4
 .rintro⟨⟨r,l⟩,h1,h2,z⟩;simp only at h1 h2 z;have k:=Dw r;have m:=NM (r.getD 0 0);have o:(r.drop 3).take (r.length-3)=r.drop 3:=cD η;simp only[go_sem,J,Dx,PL,k,m];have a:dH r=none->bE b=[]/\(dH b).isSome=false:=fun h=>by unfold bE;rw[h2,h];exact⟨rfl,rfl⟩
  split
  .rename_i g;have d:r≠[]:=fun e=>by subst e;simp at g
   have A:=CK r 1;rw[ab (n:=(r.length:Int)-3) ω ω,ab (n:=3+((aF r 1:Nat):Int)) ω ω];split
   .rename_i B;refine⟨ω,ω,ω,ω,π,?_⟩;split
    .have⟨q,s⟩:=a (wz r d ω ω);rw[q,s];exact⟨⟨rfl,rfl⟩,rfl⟩
    .have D:aF r 1<=r.length-3:=ω;have j:((r.drop 3).take (aF r 1)).length=aF r 1:=ζ;have f:=j8 r d ω ω;have t:(3+((aF r 1:Nat):Int)).toNat=3+aF r 1:=ω;have u:3+aF r 1-3=aF r 1:=ω;have v:(r.drop (3+aF r 1)).take (r.length-(3+aF r 1))=r.drop (3+aF r 1):=cD η;have hdl:(r.drop (3+aF r 1)).length=r.length-(3+aF r 1):=η;rw[t,u,v];refine⟨ω,ω,ω,ω,π,ω,ω,⟨ω,ω⟩,⟨ω,ω⟩,⟨ω,ω⟩,π,⟨ω,ω,ω⟩,⟨(r.drop (3+aF r 1),l++[(((r.getD 0 0).toNat:Int),(r.drop 3).take (aF r 1))]),?_,?_,?_⟩,?_,ow [1] [3] rfl ?_ ?_ rfl rfl ?_ (c7 _)⟩
     .show(r.drop (3+aF r 1)).length<=n;omega
     .rw[h2,f];cases dH (r.drop (3+aF r 1))<;>simp
     .exact aiv
     .show(r.drop (3+aF r 1)).length<r.length;omega
     .simp only[go_sem,hdl]
      (try simp)
     .simp only[go_sem];rw[<-wA,j];apply pz _ _ (gT _ _ _ _);simp only[aj,aS,ep];refine⟨trivial,⟨η,trivial,trivial,⟨bP,a' AV.p (a' bt (List.take (aF r 1) (List.drop 3 r)))⟩,rfl,ζ,?_⟩,trivial⟩;show dN _ _ _ (((a' AV.p (a' bt (List.take (aF r 1) (List.drop 3 r)))).drop 0).take (aF r 1*1));rw[List.drop_zero,Nat.mul_one];generalize List.take (aF r 1) (List.drop 3 r)=X at j⊢;rw[cD ζ];exact iH _ _ _
     .simp only[go_sem,Option.isSome_some]
   .have⟨q,s⟩:=a (qM r d ω);rw[q,s];exact⟨π,⟨rfl,rfl⟩,rfl⟩
  .have:r=[]:=fo ω;subst this;have w:dH b=some l:=by rw[h2,py];simp
   have:bE b=l:=by unfold bE;rw[w];rfl
   rw[this,w];exact⟨c7 _,⟨rfl,rfl⟩,rfl⟩
def eW(p:Int×List UInt8):Bool->ai->ai
 |d,[]=>if d then[] else[p]
 |d,q::r=>(if d=false/\q.1>=p.1 then[p] else[])++(if q.1≠p.1 then[q] else[])++eW p (d||decide (q.1>=p.1)) r
def b7(old l:ai):ai:=l.foldl (fun o p=>eW p (decide (p.2.length=0)) o) old
theorem sf(p:Int×List UInt8):∀(d:Bool) (r:ai),(eW p d r).length<=r.length+1
 |d,[]=>by simp only[eW];split<;>simp
 |d,q::r=>by
  have a:=sf p (d||decide (q.1>=p.1)) r;have b:=with1_len2 p r;simp only[eW,c9,ew];cases d with
  |true=>simp only[Bool.true_or] at a⊢;split<;>split<;>simp at * <;> omega
  |false =>
   by_cases h:q.1>=p.1
   .simp only[h,decide_true,Bool.or_true,and_self,if_true] at a⊢;split<;>simp at * <;> omega
   .simp only[h,and_false,if_false] at a⊢;split<;>simp at * <;> omega
where
 with1_len2 (p:Int×List UInt8):∀(r:ai),(eW p true r).length<=r.length
 |[]=>by simp[eW]
 |q::r=>by
  have ih:=with1_len2 p r;simp only[eW,List.length_append,List.length_cons,Bool.true_or];split<;>split<;>simp at * <;> omega
def ajY:List Nat:=[0,1,4,5,6,7,8,12,25,42,60,69]
attribute[go_sem]ajY
theorem Hd(old l:ai)(h1:old.length+l.length<1000000):FPure prog 166 [.p (PL old),.p (PL l)] (.p (PL (b7 old l))):=by
 apply ba f166 ajY;intro c J z Y Z;simp only[go_sem,PL];have e:∀i,i<l.length->b7 old (l.take (i+1))=eW (l.getD i (0,[])) (decide ((l.getD i (0,[])).2.length=0)) (b7 old (l.take i)):=fun i h=>by
  unfold b7;rw[eD l i h,List.foldl_append];rfl
 have s:∀i,i<=l.length->(b7 old (l.take i)).length<=old.length+i:=fun i=>by
  induction i with
  |zero=>intro _;simp[b7]
  |succ i B =>
   intro h;rw[e i ω];have:=sf (l.getD i (0,[])) (decide ((l.getD i (0,[])).2.length=0)) (b7 old (l.take i));have:=B ω;omega
 refine ay Y z ajY l.length (fun i=>⟨79,[(0,.p (PL (b7 old (l.take i)))),(1,.p (PL l)),(5,.i i)],[],0⟩) [] (fun i=>i) ?_ ?_
 .refine akg ?_;simp only[go_sem,PL];simp[b7]
 .intro i F;rcases ea i l.length with f|f
  .have m:=dY l i f;have u:((i:Int)<(l.length:Int)):=ω;have C:=s i ω;have v:=e i f;generalize b7 old (l.take i)=o at *;generalize l.getD i (0,[])=p at *;simp only[go_sem,J,PL,m,u,byP];refine⟨ω,?_⟩;apply aX 80;refine bl Y z ajY (α:={x:Nat×ai×Bool // x.1<=o.length/\eW p (decide (p.2.length=0)) o=x.2.1++eW p x.2.2 (o.drop x.1)/\x.2.1.length<=2*x.1})
    (fun x=>⟨79,[(0,.p (PL o)),(1,.p (PL l)),(5,.i i),(6,.sl 0 0 x.1.2.1.length 2),(7,.b x.1.2.2),(8,.i x.1.1)],[(0,some ⟨80,prA x.1.2.1⟩)],1⟩) (fun x=>o.length-x.1.1) ⟨(0,[],decide (p.2.length=0)),gi _,η,η⟩ [] (fun i=>i) ?_ ?_
   .refine⟨rfl,?_,?_,rfl,rfl,trivial,fun i h=>h⟩
    .simp only[go_sem,PL];simp;cases p.2<;>simp
     try omega
    .simp only[go_sem];simp[prA,ft,aj]
   .rintro⟨⟨k,a,d⟩,D,g,k3⟩;simp only at D g k3;rcases ea k o.length with j|j
    .have t:=dY o k j;have w:((k:Int)<(o.length:Int)):=ω;have n:o.drop k=o.getD k (0,[])::o.drop (k+1):=by rw[hE j];simp[cR,j]
     rw[n] at g;simp only[eW] at g;generalize o.getD k (0,[])=q at *;simp only[go_sem,J,PL,m,t,u,w,byP];have y:=ac k
     rw[y];cases d with
     |false =>
      have E:True:=trivial;rw[b9 rfl];refine⟨ω,ω,π,?_⟩;by_cases A:q.1>=p.1
      .rw[b9 A];refine⟨ω,⟨ω,ω⟩,ω,ω,π,?_⟩;by_cases r:q.1=p.1
       .rw[b0 (fun h=>h r)];refine⟨⟨(k+1,a++[p],true),by show k+1<=_;omega,?_,?_⟩,by show o.length-(k+1)<o.length-k;omega,aA [2] rfl ?_ ?_ rfl rfl (c7 _)⟩
        .rw[g];simp[*]
        ·(try simp);(try omega)
        .exact aiy
        .exact ahK
       .rw[b9 r];refine⟨ω,⟨ω,ω⟩,?_⟩;refine⟨⟨(k+1,a++[p]++[q],true),by show k+1<=_;omega,?_,?_⟩,by show o.length-(k+1)<o.length-k;omega,aA [4] rfl ?_ ?_ rfl rfl (c7 _)⟩
        .rw[g];simp[*]
        ·(try simp);(try omega)
        .exact aiy
        .exact ahK
      .rw[b0 A];refine⟨ω,ω,π,?_⟩;have r:¬q.1=p.1:=ω;rw[b9 r];refine⟨ω,⟨ω,ω⟩,?_⟩;refine⟨⟨(k+1,a++[q],false),by show k+1<=_;omega,?_,?_⟩,by show o.length-(k+1)<o.length-k;omega,aA [2] rfl ?_ ?_ rfl rfl (c7 _)⟩
       .rw[g];simp[*]
       ·(try simp);(try omega)
       .exact aiy
       .exact ahK
     |true =>
      have E:True:=trivial;rw[b0 η];refine⟨π,ω,ω,π,?_⟩;by_cases r:q.1=p.1
      .rw[b0 (fun h=>h r)];refine⟨⟨(k+1,a,true),by show k+1<=_;omega,?_,?_⟩,by show o.length-(k+1)<o.length-k;omega,aA [0] rfl ?_ ?_ rfl rfl (c7 _)⟩
       .rw[g];simp[*]
       ·(try simp);(try omega)
       .exact aiy
       .exact ahK
      .rw[b9 r];refine⟨ω,⟨ω,ω⟩,?_⟩;refine⟨⟨(k+1,a++[q],true),by show k+1<=_;omega,?_,?_⟩,by show o.length-(k+1)<o.length-k;omega,aA [2] rfl ?_ ?_ rfl rfl (c7 _)⟩
       .rw[g];simp[*]
       ·(try simp);(try omega)
       .exact aiy
       .exact ahK
    .obtain rfl:k=o.length:=by omega
     have hnc:¬((o.length:Int)<(o.length:Int)):=ω;rw[l2 (c7 _)] at g;simp only[eW] at g;simp only[go_sem,J,PL,hnc,m,u,byP];have y:=ac i
     rw[y,v,g];cases d with
     |false =>
      rw[b9 rfl,b0 η];refine⟨ω,⟨ω,ω⟩,f,ow [2] [] rfl ?_ ?_ rfl rfl ?_ (c7 _)⟩
      .simp only[go_sem];refine⟨η,⟨80,prA (a++[p])⟩,rfl,by show _<=(prA (a++[p])).length;rw[tW];simp,?_⟩;show dN _ _ _ ((prA (a++[p])).take ((a.length+1)*2));rw[show a.length+1=(a++[p]).length by simp,qN];exact iH _ _ _
      .exact κ
      .simp only[go_sem,Option.isSome_some]
     |true =>
      rw[b0 η,b9 rfl,List.append_nil];refine⟨f,ow [0] [] rfl ?_ ?_ rfl rfl ?_ (c7 _)⟩
      .simp only[go_sem];refine⟨η,⟨80,prA a⟩,rfl,by show _<=(prA a).length;rw[tW];exact c7 _,?_⟩;show dN _ _ _ ((prA a).take (a.length*2));rw[qN];exact iH _ _ _
      .exact κ
      .simp only[go_sem,Option.isSome_some]
  .exact ag1
end Go.Abs
namespace Go.Proofs
open Go.Shelf
def Tryz.keysA_ren:Go.Shelf.Ren:=⟨fun|7=>187|10=>253|n=>n,fun|23=>176|26=>3|3=>28|28=>241|0=>0|27=>240|33=>222|4=>4|n=>n,fun|n=>n⟩
theorem Tryz.keysA:Go.Proofs.SlLaysZI.n7 Tryz.prog Tryz.keysA_ren:={
 mixed:=by kernel_rfl
 f7:=⟨f187.name,ε,Tryz.func187.trans (congrArg some π)⟩
 f10:=⟨f253.name,ε,Tryz.func253.trans (congrArg some π)⟩
 t0:=Tryz.underlying0
 a0:=Tryz.isAgg0
 z0:=Tryz.sizeOf0
 v0:=Tryz.zeroValue0
 t4:=Tryz.underlying4
 a4:=Tryz.isAgg4
 z4:=Tryz.sizeOf4
 v4:=Tryz.zeroValue4
 t23:=Tryz.underlying176
 a23:=Tryz.isAgg176
 z23:=Tryz.sizeOf176
 v23:=Tryz.zeroValue176
 t26:=Tryz.underlying3
 a26:=Tryz.isAgg3
 z26:=Tryz.sizeOf3
 v26:=Tryz.zeroValue3
 t27:=Tryz.underlying240
 a27:=Tryz.isAgg240
 z27:=Tryz.sizeOf240
 v27:=Tryz.zeroValue240
 t28:=Tryz.underlying241
 a28:=Tryz.isAgg241
 z28:=Tryz.sizeOf241
 v28:=Tryz.zeroValue241
 t33:=Tryz.underlying222
 a33:=Tryz.isAgg222
 z33:=Tryz.sizeOf222
 v33:=Tryz.zeroValue222}
def Tryz.sortedA_ren:Go.Shelf.Ren:=⟨fun|6=>186|8=>251|9=>252|11=>323|13=>218|12=>324|23=>309|24=>310|14=>355|15=>356|16=>357|17=>358|18=>359|19=>360|20=>361|21=>362|22=>363|25=>369|26=>346|27=>347|28=>370|29=>371|30=>372|31=>379|n=>n,fun|26=>3|28=>241|24=>22|0=>0|3=>3|37=>60|48=>370|50=>24|4=>4|40=>364|39=>363|45=>56|5=>5|9=>9|51=>416|55=>419|57=>432|58=>76|33=>222|n=>n,fun|n=>n⟩
theorem Tryz.sortedA:Go.Proofs.SlLaysZI.n6 Tryz.prog Tryz.sortedA_ren:={
 mixed:=by kernel_rfl
 f6:=⟨f186.name,ε,Tryz.func186.trans (congrArg some π)⟩
 f8:=⟨f251.name,ε,Tryz.func251.trans (congrArg some π)⟩
 f11:=⟨f323.name,ε,Tryz.func323.trans (congrArg some π)⟩
 t0:=Tryz.underlying0
 a0:=Tryz.isAgg0
 z0:=Tryz.sizeOf0
 v0:=Tryz.zeroValue0
 t24:=Tryz.underlying22
 a24:=Tryz.isAgg22
 z24:=Tryz.sizeOf22
 v24:=Tryz.zeroValue22
 t26:=Tryz.underlying3
 a26:=Tryz.isAgg3
 z26:=Tryz.sizeOf3
 v26:=Tryz.zeroValue3
 t28:=Tryz.underlying241
 a28:=Tryz.isAgg241
 z28:=Tryz.sizeOf241
 v28:=Tryz.zeroValue241
 i26:=by kernel_rfl}
def Tryz.sortA_ren:Go.Shelf.Ren:=⟨fun|5=>252|8=>218|7=>324|19=>309|20=>310|10=>355|11=>356|12=>357|13=>358|14=>359|15=>360|16=>361|17=>362|18=>363|30=>369|31=>346|32=>347|33=>370|34=>371|35=>372|40=>379|n=>n,fun|23=>22|25=>3|3=>3|32=>60|22=>22|0=>0|44=>370|46=>24|4=>4|36=>364|35=>363|41=>56|5=>5|9=>9|53=>416|57=>419|63=>432|64=>76|n=>n,fun|n=>n⟩
theorem Tryz.sortA:Go.Proofs.SlLaysM.n5 Tryz.prog Tryz.sortA_ren:={
 mixed:=by kernel_rfl
 f5:=⟨f252.name,ε,Tryz.func252.trans (congrArg some π)⟩
 f7:=⟨f324.name,ε,Tryz.func324.trans (congrArg some π)⟩
 f8:=Tryz.func218.trans (congrArg some π)
 f10:=⟨f355.name,ε,Tryz.func355.trans (congrArg some π)⟩
 f11:=⟨f356.name,ε,Tryz.func356.trans (congrArg some π)⟩
 f12:=⟨f357.name,ε,Tryz.func357.trans (congrArg some π)⟩
 f13:=⟨f358.name,ε,Tryz.func358.trans (congrArg some π)⟩
 f14:=⟨f359.name,ε,Tryz.func359.trans (congrArg some π)⟩
 f15:=⟨f360.name,ε,Tryz.func360.trans (congrArg some π)⟩
 f16:=⟨f361.name,ε,Tryz.func361.trans (congrArg some π)⟩
 f17:=⟨f362.name,ε,Tryz.func362.trans (congrArg some π)⟩
 f18:=⟨f363.name,ε,Tryz.func363.trans (congrArg some π)⟩
 f19:=Tryz.func309.trans (congrArg some π)
 f20:=Tryz.func310.trans (congrArg some π)
 f30:=⟨f369.name,ε,Tryz.func369.trans (congrArg some π)⟩
 f31:=Tryz.func346.trans (congrArg some π)
 f32:=Tryz.func347.trans (congrArg some π)
 f33:=⟨f370.name,ε,Tryz.func370.trans (congrArg some π)⟩
 f34:=⟨f371.name,ε,Tryz.func371.trans (congrArg some π)⟩
 f35:=⟨f372.name,ε,Tryz.func372.trans (congrArg some π)⟩
 f40:=⟨f379.name,ε,Tryz.func379.trans (congrArg some π)⟩
 t0:=Tryz.underlying0
 a0:=Tryz.isAgg0
 z0:=Tryz.sizeOf0
 v0:=Tryz.zeroValue0
 t3:=Tryz.underlying3
 a3:=Tryz.isAgg3
 z3:=Tryz.sizeOf3
 v3:=Tryz.zeroValue3
 t4:=Tryz.underlying4
 a4:=Tryz.isAgg4
 z4:=Tryz.sizeOf4
 v4:=Tryz.zeroValue4
 t5:=Tryz.underlying5
 a5:=Tryz.isAgg5
 z5:=Tryz.sizeOf5
 v5:=Tryz.zeroValue5
 t9:=Tryz.underlying9
 a9:=Tryz.isAgg9
 z9:=Tryz.sizeOf9
 v9:=Tryz.zeroValue9
 t22:=Tryz.underlying22
 a22:=Tryz.isAgg22
 z22:=Tryz.sizeOf22
 v22:=Tryz.zeroValue22
 t23:=Tryz.underlying22
 a23:=Tryz.isAgg22
 z23:=Tryz.sizeOf22
 v23:=Tryz.zeroValue22
 t25:=Tryz.underlying3
 a25:=Tryz.isAgg3
 z25:=Tryz.sizeOf3
 v25:=Tryz.zeroValue3
 t32:=Tryz.underlying60
 a32:=Tryz.isAgg60
 z32:=Tryz.sizeOf60
 v32:=Tryz.zeroValue60
 t35:=Tryz.underlying363
 a35:=Tryz.isAgg363
 z35:=Tryz.sizeOf363
 v35:=Tryz.zeroValue363
 t36:=Tryz.underlying364
 a36:=Tryz.isAgg364
 z36:=Tryz.sizeOf364
 v36:=Tryz.zeroValue364
 t41:=Tryz.underlying56
 a41:=Tryz.isAgg56
 z41:=Tryz.sizeOf56
 v41:=Tryz.zeroValue56
 t44:=Tryz.underlying370
 a44:=Tryz.isAgg370
 z44:=Tryz.sizeOf370
 v44:=Tryz.zeroValue370
 t46:=Tryz.underlying24
 a46:=Tryz.isAgg24
 z46:=Tryz.sizeOf24
 v46:=Tryz.zeroValue24
 t53:=Tryz.underlying416
 a53:=Tryz.isAgg416
 z53:=Tryz.sizeOf416
 v53:=Tryz.zeroValue416
 t57:=Tryz.underlying419
 a57:=Tryz.isAgg419
 z57:=Tryz.sizeOf419
 v57:=Tryz.zeroValue419
 t63:=Tryz.underlying432
 a63:=Tryz.isAgg432
 z63:=Tryz.sizeOf432
 v63:=Tryz.zeroValue432
 t64:=Tryz.underlying76
 a64:=Tryz.isAgg76
 z64:=Tryz.sizeOf76
 v64:=Tryz.zeroValue76}
end Go.Proofs
namespace Go.Abs
open RowKit Proofs Proofs.Tryz
section
open Go.Maps Go.Sort Go.Shelf
theorem tc:∀{l m:List Int},l.Perm m->l.Pairwise (·<=·)->m.Pairwise (·<=·)->l=m
 |[],m,h,_,_=>by simpa using h.symm.eq_nil
 |a::l,[],h,_,_=>by simpa using h.eq_nil
 |a::l,b::m,h,h1,h2=>by
  have ha:a∈b::m:=h.subset η;have c:b∈a::l:=h.symm.subset η;have e:a=b:=by
   rcases hZ.1 ha with e|ha
   .exact e
   .rcases hZ.1 c with e|c
    .exact e.symm
    .have d:=(vx.1 h1).1 b c;have f:=(vx.1 h2).1 a ha;omega
  subst e;rw[tc ((List.perm_cons a).1 h) (vx.1 h1).2 (vx.1 h2).2]
theorem td:∀E:List Ent,DataW.rising (entries E)=true->(E.map (·.1)).Pairwise (·<=·)
 |[],_=>by simp
 |[e],_=>by simp
 |e::e2::E,h=>by
  have c:(Lit.before (.int .i64 e.1) (.int .i64 e2.1)&&DataW.rising (entries (e2::E)))=true:=h;simp only[Bool.and_eq_true,Lit.before,decide_eq_true_eq] at c;have a:=td (e2::E) c.2;simp only[hX] at a⊢;refine vx.2 ⟨fun x b=>?_,a⟩;rcases hZ.1 b with rfl|b
  .omega
  .have:=(vx.1 a).1 x b;omega
theorem ZV(m:Nat):AnyZI.SortsIn prog Tryz.sortedA_ren Fence.wide m :=
 ⟨fun b off cap d W e a c=>callsIn_wide.2 (AnyM.slices_Sort_int Tryz.sortA b off cap d W e a c),
  fun p cap W=>callsIn_wide.2 (AnyM.slices_Sort_int_none Tryz.sortA p cap W)⟩
theorem AM{w:World}{o h:Nat}{F:aK}{s:ai}(q:h<w.heap.size)(G:w.cell? ⟨h,0,none⟩=some (.map (some o)))(j:MapIs F w o s)(hs:s.length<1000000000) :
 Calls prog 186 #[.func (.func 253) #[] #[.pointer (some ⟨h,0,none⟩)]] w fun e w'=>∃v,e = .returned v /\
  w'.ownsRow w.heap.size 3 1 v s.length (s.map fun p => .int .i64 p.1)/\Below w.heap.size w w':=by
 have⟨z,E,Y,k,A⟩:=j;have c:prog.underlying 3=some (.int .i64):=underlying3;have ho:=k prog 3 c;have l:s.length=E.length:=by rw[Y];simp[eM]
 have a:Maps.size (DataW.map (entries E))=E.length:=by simp[Maps.size,entries]
 have d:intKeys (DataW.map (entries E))=E.map (·.1):=by
  unfold entries;simp only[intKeys,List.map_map];rfl
 have f:DataW.rising (entries E)=true:=by
  have⟨K,r,L,H,_,B⟩:=ho;simp only[DataW.map.injEq] at B;rw[B];exact fit_rising (int_keyed c) H
 refine(callsIn_wide (n:=6)).1 ?_;have m:SeqGives Fence.wide 2 prog 253 #[.pointer (some ⟨h,0,none⟩)] encZ (fun i=>i.Perm (intKeys (DataW.map (entries E)))) (Maps.size (DataW.map (entries E))) w :=
  AnyZI.keys_gives (ρ:=Tryz.keysA_ren) {Tryz.keysA with} Fence.wide _ trivial rfl ω h o E.length (DataW.map (entries E)) w q G ho
 have C:=AnyZI.sorted_in Tryz.sortedA Fence.wide 5 trivial trivial trivial trivial rfl ω (ZV _) (enters_of func252 π rfl) 253 #[.pointer (some ⟨h,0,none⟩)] trivial (enters_of func253 π rfl) _ _ (by rw[a];have:maxLen=9223372036854775807:=rfl;omega) (by rw[a];omega) _ m;change CallsIn _ _ prog 186 _ _ _ at C;refine(callsIn_wide (n:=6)).2 ((callsIn_wide (n:=5)).1 C |>.mono ?_);rintro e w' ⟨v,i,rfl,t,b,D,I⟩;refine⟨v,rfl,?_,I⟩;rw[d] at t;have g:i.mergeSort (fun x y=>decide (x<=y))=E.map (·.1):=by
  refine tc ((List.mergeSort_perm i _).trans t) ?_ (td E f);have:=List.pairwise_mergeSort (le:=fun x y:Int=>decide (x<=y)) ζ ζ i;simpa using this
 have u:i.length=s.length:=by rw[t.length_eq,l];simp
 rw[g,u] at b;have:(E.map (·.1)).map encZ=s.map fun p => .int .i64 p.1:=by rw[Y];simp[eM]
 rw[this] at b;exact b
abbrev iW:Nat:=176
theorem ZW(s:ai):Con prog 187 [.mp 0] [(0,some ⟨eF s,[]⟩)] (.fn (.func 253) [] [.ptr 1 0]) [(0,some ⟨eF s,[]⟩),(1,some ⟨iW,[.mp 0]⟩)]:=by
 apply Rj 1 ID func187 rfl π ntmps187 results187 η rfl (by simp[ak,ax,liveK]) (by simp[bV,ak]) (fun i a=>by simp[liveK] at a;simp[keys,a]) [0,1,2];intro c J b Y;simp only[go_sem];refine aq [0,1] rfl ?_ ?_ rfl rfl (fun i a=>?_) (fun i a=>?_)
 .exact κ
 .exact κ
 .simp at a;subst a;exact⟨rfl,ξ⟩
 .simp[liveK] at a;simp;omega
theorem NR(s:ai)(hs:s.length<1000000000):Con prog 186 [.fn (.func 253) [] [.ptr 1 0]] [(0,some ⟨eF s,[]⟩),(1,some ⟨iW,[.mp 0]⟩)] (.sl 2 0 s.length 1)
 [(0,some ⟨eF s,[]⟩),(1,some ⟨iW,[.mp 0]⟩),(2,some ⟨3,(s.map fun p => .p (.v (.int .i64 p.1)))⟩)] where
 call:={
  tri:=by
   intro ρ F us w t hz W
   have hu:=W 0 _ rfl
   obtain⟨u,rfl⟩:∃u,us=#[u]:=by
    exact aiH
   have hu:Rd ρ F w (.fn (.func 253) [] [.ptr 1 0]) u:=hu
   cases hu with
   |fn _ _ _ us1 vs1 hl1 C hl2 y =>
    obtain rfl:us1=#[]:=by simpa using hl1
    have X:=y 0 _ rfl
    obtain⟨x,rfl⟩:∃x,vs1=#[x]:=by
     have hz:vs1.size=1:=hl2
     have⟨l⟩:=vs1
     match l,hz with
     |[x],_=>exact⟨x,rfl⟩
    have X:Rd ρ F w (.ptr 1 0) x:=X
    obtain⟨P,D,rfl⟩:=X.ptrInv
    have hT:liveK [(0,some (⟨eF s,[]⟩:Blk)),(1,some ⟨iW,[.mp 0]⟩)]=[0,1]:=rfl
    have hH:=t.hp
    have h1:restr (liveK [(0,some (⟨eF s,[]⟩:Blk)),(1,some ⟨iW,[.mp 0]⟩)]) (hget [(0,some ⟨eF s,[]⟩),(1,some ⟨iW,[.mp 0]⟩)]) 1=some ⟨iW,[.mp 0]⟩:=rfl
    have h0:restr (liveK [(0,some (⟨eF s,[]⟩:Blk)),(1,some ⟨iW,[.mp 0]⟩)]) (hget [(0,some ⟨eF s,[]⟩),(1,some ⟨iW,[.mp 0]⟩)]) 0=some ⟨eF s,[]⟩:=rfl
    rcases hH.ok 1 _ h1 with⟨hnil,_⟩|⟨b1',Q,o⟩
    .cases hnil
    rw[D] at Q;cases Q
    have⟨arr,fr,ha,hfr,hlen,hc⟩:=o.is (.inl η)
    have hcell:=(hc 0 _ rfl).2
    have⟨L,z,hv0,hobj⟩:=hcell.mpInv
    rcases hH.ok 0 _ h0 with⟨_,hn0⟩|⟨b0',S,r⟩
    .rw[hn0] at z;cases z
    rw[z] at S;cases S
    have⟨_,G⟩:=np r hobj
    have G:MapIs F w L s:=by simpa only[ur] using G
    have T:P<w.heap.size:=o.lt
    have hlt0:L<w.heap.size:=r.lt
    have hcl:w.cell? ⟨P,0,none⟩=some (.map (some L)):=by
     rw[<-hv0];exact jT ha (by simp at hlen;omega)
    refine .inl ⟨lm func186 rfl π _ w,Calls.mono (R:=fun e w'=>∃x ρ' F',e = .returned x/\Post ρ F w _ _ _ _ x ρ' F' w') ?_ (fun e w' ⟨x,ρ',F',he,hp⟩=>⟨x,he,ρ',F',hp⟩)⟩
    refine(AM T hcl G hs).mono ?_
    rintro e w' ⟨v,rfl,H,f⟩
    have M:ρ 2=none:=t.fresh 2 ξ (by rw[hT];simp)
    have hFw:∀b,F b->w'.heap[b]?=w.heap[b]?:=fun b B=>f.block b (t.fok b B)
    have I:∀O,Chg O F F w w':=fun O=>⟨f.os,f.tape,f.output,f.size,fun b B _=>f.block b B,⟨fun b n hcl=>by
     have⟨ar,t',fr,B,hn⟩:=hcl
     exact⟨ar,t',fr,(f.block b (Array.getElem?_eq_some_iff.1 B).1).trans B,hn⟩,fun b hm=>by
     have hlt:=hm.lt
     have⟨es,c,B⟩:=hm
     exact⟨es,c,(f.block b hlt).trans B⟩⟩,fun _ h=>h,fun _ h => .inl h⟩
    have hkp:∀{ρ':aD},(∀i b,ρ i=some b->ρ' i=some b)->∀{c:AV} {u:Value},Rd ρ F w c u->Rd ρ' F w' c u:=fun h _ _ W=>W.mono h (fun _ h=>h) hFw (I (fun _=>False)).cells
    have hk0:∀{ρ':aD},(∀i b,ρ i=some b->ρ' i=some b)->BlkOk ρ' F w' L ⟨eF s,[]⟩:=fun h=>r.keep r.own (f.block L hlt0) (fun _ h=>h) hFw (fun c u _ W=>hkp h W)
    have hk1:∀{ρ':aD},(∀i b,ρ i=some b->ρ' i=some b)->BlkOk ρ' F w' P ⟨iW,[.mp 0]⟩:=fun h=>o.keep o.own (f.block P T) (fun _ h=>h) hFw (fun c u _ W=>hkp h W)
    have N:L≠P:=fun e=>by
     have:=hH.inj 0 1 L (by rw[h0];simp) (by rw[h1];simp) z (by rw[e];exact D)
     omega
    have U:oB F w':=fun b B=>Nat.lt_of_lt_of_le (t.fok b B) f.size
    have⟨_,H⟩:=H
    have m:∀(u2:Option Blk) (i:Nat) (k:Blk),restr ([0,1]++keys [(0,some (⟨eF s,[]⟩:Blk)),(1,some ⟨iW,[.mp 0]⟩),(2,u2)]) (updH [(0,some ⟨eF s,[]⟩),(1,some ⟨iW,[.mp 0]⟩),(2,u2)] (hget [(0,some ⟨eF s,[]⟩),(1,some ⟨iW,[.mp 0]⟩)])) i=some k ->
     (i=0/\k=⟨eF s,[]⟩)\/(i=1/\k=⟨iW,[.mp 0]⟩)\/(i=2/\u2=some k):=fun u2 i k h=>by
     have⟨hm,h⟩:=aY h
     have hi:i=0\/i=1\/i=2:=by simp[keys] at hm;omega
     rcases hi with rfl|rfl|rfl
     .simp[updH,keys,hget] at h;exact .inl ⟨rfl,h.symm⟩
     .simp[updH,keys,hget] at h;exact .inr (.inl ⟨rfl,h.symm⟩)
     .simp[updH,keys,hget] at h;exact .inr (.inr ⟨rfl,h⟩)
    rcases H with⟨rfl,hn0⟩|⟨g,cap,E,rfl,hg,V,hcap,hmx,hcsz,htk⟩
    .have hs0:s=[]:=fo hn0
     subst hs0
     refine⟨_,ρ,F,rfl,fun _ _ h=>h,fun i h1 h2=>s5 h1 h2,fun i b h1 h2=>(by rw[h1] at h2;cases h2),.slz _ _ _ _,⟨fun i k hk=>?_,fun i j b hi hj a d=>?_⟩,U,I _⟩
     .rcases m _ i k hk with⟨rfl,rfl⟩|⟨rfl,rfl⟩|⟨rfl,hk⟩
      .exact .inr ⟨L,z,hk0 (fun _ _ h=>h)⟩
      .exact .inr ⟨P,D,hk1 (fun _ _ h=>h)⟩
      .cases hk;exact .inl ⟨rfl,M⟩
     .have⟨ki,hki⟩:=em.1 hi
      have⟨kj,hkj⟩:=em.1 hj
      rcases m _ i ki hki with⟨rfl,_⟩|⟨rfl,_⟩|⟨rfl,_⟩<;>rcases m _ j kj hkj with⟨rfl,_⟩|⟨rfl,_⟩|⟨rfl,_⟩<;>first
       |rfl
       |(rw[M] at a;cases a;done)
       |(rw[M] at d;cases d;done)
       |(rw[z] at a;rw[D] at d;cases a;cases d;exact s5 rfl N)
       |(rw[D] at a;rw[z] at d;cases a;cases d;exact s5 rfl N)
    .have A:∀i b,ρ i=some b->eG ρ 2 g i=some b:=fun i b B=>by
      unfold eG;split
      .subst_vars;rw[M] at B;cases B
      .exact B
     have K:eG ρ 2 g 0=some L:=A _ _ z
     have C:eG ρ 2 g 1=some P:=A _ _ D
     have y:eG ρ 2 g 2=some g:=by simp[eG]
     refine⟨_,eG ρ 2 g,F,rfl,A,fun i h1 h2=>?_,fun i b h1 h2=>?_,.sl _ _ _ _ g cap y hcap ⟨E,_,_,V,ω⟩,⟨fun i k hk=>?_,fun i j b hi hj a d=>?_⟩,U,I _⟩
     .unfold eG at h2;split at h2
      .subst_vars;simp[keys]
      .exact s5 h1 h2
     .unfold eG at h2;split at h2
      .cases h2;exact .inl hg
      .rw[h1] at h2;cases h2
     .rcases m _ i k hk with⟨rfl,rfl⟩|⟨rfl,rfl⟩|⟨rfl,hk⟩
      .exact .inr ⟨L,K,hk0 A⟩
      .exact .inr ⟨P,C,hk1 A⟩
      .cases hk
       refine .inr ⟨g,y,⟨fun hF=>by have:=t.fok g hF;omega,.inl ⟨E,_,V,.zero _,ζ,fun j c hj=>?_⟩⟩⟩
       simp only[List.getElem?_map,nL] at hj
       obtain⟨q,hq,rfl⟩:=hj
       have hjl:j<s.length:=(hP.1 hq).1
       have hcj:E.toList[j]?=some (.int .i64 q.1):=by
        have:(E.toList.take (s.length*1))[j]?=some (.int .i64 q.1):=by rw[htk];simp[hq]
        rw[l0] at this
        rw[b9 ω] at this
        exact this
       have hcd:E.getD j undef = .int .i64 q.1:=by
        have:E[j]?=some (.int .i64 q.1):=by simpa using hcj
        simp[kc,this]
       rw[hcd]
       exact⟨rfl,.p _ _ (.v _ rfl)⟩
     .have⟨ki,hki⟩:=em.1 hi
      have⟨kj,hkj⟩:=em.1 hj
      rcases m _ i ki hki with⟨rfl,_⟩|⟨rfl,_⟩|⟨rfl,_⟩<;>rcases m _ j kj hkj with⟨rfl,_⟩|⟨rfl,_⟩|⟨rfl,_⟩<;>first
       |rfl
       |(rw[K] at a;rw[C] at d;cases a;cases d;exact s5 rfl N)
       |(rw[C] at a;rw[K] at d;cases a;cases d;exact s5 rfl N)
       |(rw[K] at a;rw[y] at d;cases a;cases d;omega)
       |(rw[C] at a;rw[y] at d;cases a;cases d;omega)
       |(rw[y] at a;rw[K] at d;cases a;cases d;omega)
       |(rw[y] at a;rw[C] at d;cases a;cases d;omega)}
 ids:=by simp[ak,ax,liveK]
 idh:=by simp[bV,ak,ax,liveK]
 sub i hi:=by simp[liveK] at hi;simp[keys];omega

/- own work: steps of the proof -/
import Derived.Test.YtgnmplopdkgccaaGreatDoorPg
set_option linter.all false
set_option maxRecDepth 100000
set_option maxHeartbeats 4000000
open UInt64 renaming ofNat→a',toNat_toUInt8→b'
open Nat renaming mul_le_mul→c',add_assoc→d',le_trans→e',le_of_eq→f',zero_add→g',pow_le_pow_right→i',pow_add→j'
open List renaming not_mem_nil→k',ext_getElem→l',replicate→m',map_nil→n',cons_append→o',all_eq_true→p',all_append→r',all_cons→s',all_nil→t'
open Go.IntKind renaming i64→u'
open Bool renaming and_eq_true→v',true_and→w',not_true→x'
open UInt8 renaming ofNat→y',toNat_toUInt64→z'
namespace Go.Abs
open RowKit Proofs Proofs.Tryz
structure Jn where
 ps:Int
 bs:List UInt8
 page:Int
 gen:Int
 tail:Int
 torn:Bool
structure MR where
 j:Jn
 err:Int
structure JR where
 j:Jn
 left:Int
 err:Int
def Tw(j:Jn):AV := .agg [.i j.ps,.p (.data 1 j.bs.length (j.bs.map bt)),.i j.page,.i j.gen,.i j.tail,.b j.torn]
def OR(r:MR):AV := .tup [Tw r.j,.i r.err]
def zC(r:JR):AV := .tup [Tw r.j,.i r.left,.i r.err]
attribute [go_sem] Tw OR zC Value.bool.injEq
def jn0:Jn:=⟨0,[],0,0,0,false⟩
def dQ(f:Fl):Int:=if cu f.ps f.bs.length≠0 then cu f.ps f.bs.length else if(f.bs.length:Int)<2*f.ps then 4 else 0
def pgM(f:Fl)(q:Nat):List UInt8:=(f.bs.drop (q*f.ps.toNat)).take f.ps.toNat
def db(f:Fl)(q:Nat)(g:Int):Jn :=
 ⟨f.ps,f.bs,q,g,(du (pgM f q) (a' g.toNat)).2,!((pgM f q).drop (du (pgM f q) (a' g.toNat)).2).all (·==255)⟩
def mountM(f:Fl):MR :=
 if dQ f≠0 then⟨jn0,dQ f⟩ else
 if bz (pgM f 1)>bz (pgM f 0) then⟨db f 1 (bz (pgM f 1)),0⟩ else
 if bz (pgM f 0)=0 then⟨jn0,11⟩ else⟨db f 0 (bz (pgM f 0)),0⟩
theorem go(page:List UInt8):0<=bz page/\bz page<=1099511627776:=by
 unfold bz;split<;>omega
theorem uU{f:Fl}(h:dQ f=0):∃p k:Nat,f.ps=p/\512<=p/\p<=8192/\f.bs.length=p*k/\2<=k/\k<=8:=by
 unfold dQ at h;by_cases hv:cu f.ps f.bs.length=0
 .have⟨p,k,h1,h2,b,a,e,c⟩:=gd hv;refine⟨p,k,h1,h2,b,a,?_,c⟩;rw[hv,b0 ε] at h;split at h
  .cases h
  .rename_i d;rw[h1,a] at d;exact aiI
 .rw[b9 hv] at h;exact s5 h hv
theorem xG(ps:Int)(bs:List UInt8)(n:Nat)(b:bs.length=n)(d:n<1000000000):FPure prog 176 [.agg [.i ps,.p (.data 1 n (bs.map bt))]] (.i (dQ ⟨ps,bs⟩)):=by
 apply ba f176 [0,1,2,3,7,15];intro c J g Y Z;refine δ (oT ps n _ d) ?_;simp only[go_sem,J];obtain⟨R,a⟩:∃R,dQ ⟨ps,bs⟩=R:=⟨_,rfl⟩;rw[a] at Y Z;(try rw[a]);unfold dQ at a;simp only[b] at a;split
 .rw[b9 ‹_›] at a;exact a
 .rename_i h;rw[b0 ω] at a;obtain⟨p,k,rfl,e,f,-⟩:=gd (show cu ps n=0 by omega)
  (try go_unwrap)
  split
  .rw[b9 ‹_›] at a;exact a
  .rw[b0 ‹_›] at a;exact a
theorem uV(page:List UInt8)(g:UInt64):∀f a,a<=page.length->(dq page g f a).2<=page.length/\a<=(dq page g f a).2
 |0,a,h=>⟨h,c7 _⟩
 |f+1,a,h=>by
  simp only[dq];split
  .exact⟨h,c7 _⟩
  .rename_i b;have:=lK page g a b;have:=uV page g f (a+10+(cI page g a).length) this.1;exact⟨this.1,ω⟩
theorem iJ(page:List UInt8)(g:UInt64)(h:16<=page.length):(du page g).2<=page.length/\16<=(du page g).2:=uV page g _ _ h
theorem fN{f:Fl}{p k q:Nat}(h1:f.ps=p)(h2:f.bs.length=p*k)(a:q<k):(pgM f q).length=p:=by
 have:=fT (p:=p) a;unfold pgM;simp only[h1,h5,hV,kK];omega
theorem fO(g:Int)(a:0<=g)(h1:g<9223372036854775808):IntKind.u64.wrap g=((a' g.toNat).toNat:Int):=by
 rw[ao a ω,<-lX _ ω];omega
theorem mC(ps:Int)(bs:List UInt8)(p k n q:Nat)(c:Int)(a:ps=p)(b:c=q)(h:bs.length=n)(e:n=p*k)(f:q<k)(d:k<=8)(g:p<=8192) :
 FPure prog 246 [.agg [.i ps,.p (.data 1 n (bs.map bt))],.i c] (.p (.data 1 p ((pgM ⟨ps,bs⟩ q).map bt))):=by
 subst a b;have j:p*k<=8192*8:=c' g d;have:=Mn p k q n bs e ω f d ω;exact aiU
theorem zD(ps:Int)(bs:List UInt8)(n:Nat)(hn:bs.length=n)(j:n<1000000000):FPure prog 175 [.agg [.i ps,.p (.data 1 n (bs.map bt))]] (OR (mountM ⟨ps,bs⟩)):=by
 apply ba f175 [0,1,2,3,4,5,6,7,11,25,31];intro c J s Y Z;refine δ (xG ps bs n hn j) ?_;simp only[go_sem,J];split
 .rename_i h;simp only[mountM,b9 h,jn0,km,n',and_self]
 .rename_i h;have h:dQ ⟨ps,bs⟩=0:=ω;have⟨p,k,f,l,b,d,m,e⟩:=uU h;simp only at f d;apply aa Z (mC ps bs p k n 0 0 f rfl hn ω ω e b);simp only[go_sem];apply aa Z (mU (pgM ⟨ps,bs⟩ 0) p (fN f d ω) ω ω);refine wi ?_;apply aa Z (mC ps bs p k n 1 1 f rfl hn ω ω e b);simp only[go_sem];apply aa Z (mU (pgM ⟨ps,bs⟩ 1) p (fN f d ω) ω ω);refine θ ?_;have t:=go (pgM ⟨ps,bs⟩ 0);have u:=go (pgM ⟨ps,bs⟩ 1);have ex:∀R,mountM ⟨ps,bs⟩=R->R=if bz (pgM ⟨ps,bs⟩ 1)>bz (pgM ⟨ps,bs⟩ 0) then⟨db ⟨ps,bs⟩ 1 (bz (pgM ⟨ps,bs⟩ 1)),0⟩ else if bz (pgM ⟨ps,bs⟩ 0)=0 then⟨jn0,11⟩ else⟨db ⟨ps,bs⟩ 0 (bz (pgM ⟨ps,bs⟩ 0)),0⟩:=by
   intro R g;rw[<-g,mountM,b0 ω]
  obtain⟨R,g⟩:∃R,mountM ⟨ps,bs⟩=R:=⟨_,rfl⟩;have ex:=ex R g;rw[g] at Y Z⊢;have a:∀q,q<k->(pgM ⟨ps,bs⟩ q).length=p:=fun q o=>fN f d o
  split
  .rw[b9 ‹_›] at ex;rw[b0 ω];apply aa Z (mC ps bs p k n 1 1 f rfl hn ω ω e b);simp only[go_sem,J]
   first|refine wF Y (ks:=[0,1,2,3,4,5,6,7,11,25,31]) (n:=2000) 1 (by rw[J];exact jE (pgM ⟨ps,bs⟩ 1) p (a 1 ω) ω ω (a' (bz (pgM ⟨ps,bs⟩ 1)).toNat) _ (fO _ ω ω)) rfl rfl (by simp[ax,ak,keys]) (by simp only[bV,cF,and_self]) ?_|refine wG Y (ks:=[0,1,2,3,4,5,6,7,11,25,31]) (n:=2000) 1 (by rw[J];exact jE (pgM ⟨ps,bs⟩ 1) p (a 1 ω) ω ω (a' (bz (pgM ⟨ps,bs⟩ 1)).toNat) _ (fO _ ω ω)) rfl rfl (by simp[ax,ak,keys]) (by simp only[bV,ak,aM,cm,cF,and_self]) ?_
   refine θ ?_;have hs:=iJ (pgM ⟨ps,bs⟩ 1) (a' (bz (pgM ⟨ps,bs⟩ 1)).toNat) (by rw[a 1 ω];omega);rw[a 1 ω] at hs;have r:=a 1 ω;exact ago
  .rw[b0 ‹_›] at ex;split
   .rw[b9 ‹_›] at ex;subst ex;exact afR
   .rw[b0 ‹_›] at ex;apply aa Z (mC ps bs p k n 0 0 f rfl hn ω ω e b);simp only[go_sem,J]
    first|refine wF Y (ks:=[0,1,2,3,4,5,6,7,11,25,31]) (n:=2000) 1 (by rw[J];exact jE (pgM ⟨ps,bs⟩ 0) p (a 0 ω) ω ω (a' (bz (pgM ⟨ps,bs⟩ 0)).toNat) _ (fO _ ω ω)) rfl rfl (by simp[ax,ak,keys]) (by simp only[bV,cF,and_self]) ?_|refine wG Y (ks:=[0,1,2,3,4,5,6,7,11,25,31]) (n:=2000) 1 (by rw[J];exact jE (pgM ⟨ps,bs⟩ 0) p (a 0 ω) ω ω (a' (bz (pgM ⟨ps,bs⟩ 0)).toNat) _ (fO _ ω ω)) rfl rfl (by simp[ax,ak,keys]) (by simp only[bV,ak,aM,cm,cF,and_self]) ?_
    refine θ ?_;have hs:=iJ (pgM ⟨ps,bs⟩ 0) (a' (bz (pgM ⟨ps,bs⟩ 0)).toNat) (by rw[a 0 ω];omega);rw[a 0 ω] at hs;have r:=a 0 ω;exact ago
def flOf(j:Jn):Fl:=⟨j.ps,j.bs⟩
def aT(j:Jn):Bool :=
 (mountM (flOf j)).err==0&&(mountM (flOf j)).j.page==j.page&&(mountM (flOf j)).j.gen==j.gen&&(mountM (flOf j)).j.tail==j.tail&&(mountM (flOf j)).j.torn==j.torn
theorem ny(j:Jn)(n:Nat)(d:j.bs.length=n)(e:n<1000000000):FPure prog 179 [.agg [.i j.ps,.p (.data 1 n (j.bs.map bt)),.i j.page,.i j.gen,.i j.tail,.b j.torn]] (.b (aT j)):=by
 apply ba f179 [0,1,2,3,4];intro c J h Y Z;refine δ (zD j.ps j.bs n d e) ?_;obtain⟨R,a⟩:∃R,aT j=R:=⟨_,rfl⟩;rw[a] at Y Z;(try rw[a]);unfold aT flOf at a;generalize mountM ⟨j.ps,j.bs⟩=M at *;refine θ ?_;rw[<-a];by_cases h1:M.err=0<;>by_cases h2:M.j.page=j.page<;>by_cases f:M.j.gen=j.gen<;>by_cases g:M.j.tail=j.tail<;>simp[h1,h2,f,g]
theorem BM(n:Nat)(cs:List PV):FPure prog 180 [.p (.data 1 n cs)] (.b (decide (1<=n/\n<=256))):=by
 apply ba f180 [0,2];intro c J a Y Z;refine θ ?_;have e:((n:Int)<=256)↔n<=256:=ω;split
 .simp only[e,show 1<=n by omega,true_and]
 .simp only[show¬ 1<=n by omega,false_and,decide_false]
def kF(ps tail:Int)(torn:Bool):Int:=if torn then 0 else if ps-tail-10<0 then 0 else if 256<ps-tail-10 then 256 else ps-tail-10
theorem KN(ps:Int)(n:Nat)(cs:List PV)(page gen tail:Int)(a:Bool)(h1:0<=ps/\ps<=8192)(h2:0<=tail/\tail<=8192) :
 FPure prog 188 [.agg [.i ps,.p (.data 1 n cs),.i page,.i gen,.i tail,.b a]] (.i (kF ps tail a)):=by
 apply ba f188 [0,1,2,4];intro c J f Y Z;have d:u'.wrap (ps-tail)=ps-tail:=ab ω ω;have e:u'.wrap (ps-tail-10)=ps-tail-10:=ab ω ω;simp only[go_sem,J,d,e];obtain⟨R,hR⟩:∃R,kF ps tail a=R:=⟨_,rfl⟩;rw[hR] at Y Z;(try rw[hR]);unfold kF at hR;exact ahR
theorem zE(cs:List PV)(n:Nat)(a:cs.length=n)(h1:n≠0)(b:n<1000000000):FPure prog 96 [.p (.data 1 n cs)] (.p (.data 1 n cs)):=by
 apply ba f96 [0,2,4];intro c J d Y Z;refine θ ?_;rw[cD ζ];exact⟨h1,⟨ω,ω⟩,⟨ω,aG _⟩,aJ _⟩
theorem Er{f:Fl}(h:(mountM f).err≠0):(mountM f).j=jn0:=by
 exact agw
theorem kG{f:Fl}(h:(mountM f).err=0):∃p k q:Nat,f.ps=p/\512<=p/\p<=8192/\f.bs.length=p*k/\2<=k/\k<=8/\q<2/\1<=bz (pgM f q)/\bz (pgM f (1-q))<=bz (pgM f q)/\(q=1->bz (pgM f 0)<bz (pgM f 1))/\mountM f=⟨db f q (bz (pgM f q)),0⟩:=by
 unfold mountM at h;split at h
 .rename_i h1;simp only at h;exact s5 h h1
 .rename_i h1;have⟨p,k,a,b,c,d,g,i⟩:=uU (show dQ f=0 by omega);have l:=go (pgM f 0);have m:=go (pgM f 1);split at h
  .rename_i h2;exact⟨p,k,1,a,b,c,d,g,i,ε,ω,by show bz (pgM f 0)<=_;omega,fun _=>ω,by unfold mountM;rw[b0 h1,b9 h2]⟩
  .rename_i h2;split at h
   .cases h
   .rename_i j;exact⟨p,k,0,a,b,c,d,g,i,ε,ω,by show bz (pgM f 1)<=_;omega,fun e=>ω,by unfold mountM;rw[b0 h1,b0 h2,b0 j]⟩
theorem BN(ps:Int)(bs:List UInt8)(n:Nat)(a:bs.length=n)(b:n<1000000000):FPure prog 101 [.agg [.i ps,.p (.data 1 n (bs.map bt))]] (OR (mountM ⟨ps,bs⟩)):=by
 apply ba f101 [0,1,2,3,4,5,12];intro c J g Y Z;refine δ (zD ps bs n a b) ?_;simp only[go_sem,J];split
 .rename_i h;simp only[Er h,jn0,km,n',and_self]
 .rename_i h;obtain⟨p,k,q,d,j,l,e,m,o,r,-,-,-,f⟩:=kG (show(mountM ⟨ps,bs⟩).err=0 by omega);simp only at d e;have:1*1<=p*k:=c' ω ω;apply aa Z (zE (bs.map bt) n (by simpa using a) ω b);simp only[go_sem,J];simp only[f,db,a,and_self]
theorem xH(page:List UInt8)(g:UInt64):∀f a b,b∈(dq page g f a).1->1<=b.length/\b.length<=256
 |0,a,b,h=>by simp[dq] at h
 |f+1,a,b,h=>by
  simp only[dq] at h;split at h
  .simp at h
  .rename_i c;simp only[hZ] at h;rcases h with rfl|h
   .exact(lK page g a c).2
   .exact xH page g f _ b h
def bF:List (List UInt8)->Nat
 |[]=>0
 |b::l=>10+b.length+bF l
theorem mD:∀l,10*l.length<=bF l
 |[]=>by simp[bF]
 |b::l=>by have:=mD l;simp only[bF,ew];omega
theorem lv(page:List UInt8)(g:UInt64):∀f a,(dq page g f a).2=a+bF (dq page g f a).1
 |0,a=>by simp[dq,bF]
 |f+1,a=>by
  simp only[dq];split
  .simp[bF]
  .simp only[bF];rw[lv page g f];omega
def aZ(j:Jn):List (List UInt8):=if aT j then(du (pgM (flOf j) j.page.toNat) (a' j.gen.toNat)).1 else[]
theorem cG{j:Jn}(h:aT j=true):∃p k q:Nat,j.ps=p/\512<=p/\p<=8192/\j.bs.length=p*k/\2<=k/\k<=8/\q<2/\1<=j.gen/\j.gen<=1099511627776/\j.page=q/\j.gen=bz (pgM (flOf j) q)/\bz (pgM (flOf j) (1-q))<=j.gen/\(q=1->bz (pgM (flOf j) 0)<j.gen) /\
 j=db (flOf j) q j.gen/\mountM (flOf j)=⟨j,0⟩:=by
 unfold aT at h;simp only[v',beq_iff_eq] at h;have⟨⟨⟨⟨h1,h2⟩,b⟩,c⟩,d⟩:=h;have⟨p,k,q,l,m,n,o,s,t,u,w,x,f,a⟩:=kG h1;have r:=go (pgM (flOf j) q);rw[a] at h2 b c d;have v:j.page=q:=h2.symm;have hg:j.gen=bz (pgM (flOf j) q):=b.symm;have g:j=db (flOf j) q j.gen:=by
  rw[hg];have⟨ps,bs,page,gen,tail,i⟩:=j;simp only[db,Jn.mk.injEq] at h2 b c d⊢;exact⟨rfl,rfl,h2.symm,b.symm,c.symm,d.symm⟩
 refine⟨p,k,q,l,m,n,o,s,t,u,ω,ω,v,hg,ω,fun e=>by have:=f e;subst e;omega,g,?_⟩;rw[a,<-hg,<-g]
theorem Es(j:Jn)(n:Nat)(o:j.bs.length=n)(s:n<1000000000):FPure prog 182 [.agg [.i j.ps,.p (.data 1 n (j.bs.map bt)),.i j.page,.i j.gen,.i j.tail,.b j.torn]] (.p (.data 1 (aZ j).length ((aZ j).map byP))):=by
 refine ba f182 [0,1,2,3,5,6,9,21,22,23,24] ?_;intro c J t Y Z;refine δ (ny j n o s) ?_;simp only[go_sem,J];obtain⟨R,a⟩:∃R,aZ j=R:=⟨_,rfl⟩;rw[a] at Y Z;(try rw[a]);unfold aZ at a;split
 .rename_i h;rw[h] at a;subst a;exact⟨rfl,rfl⟩
 .rename_i h;have h:aT j=true:=χ;rw[b9 h] at a;obtain⟨p,k,q,r,B,u,v,C,w,D,E,F,f,x,-,-,-,-⟩:=cG h;refine aa Z (mC j.ps j.bs p k n q j.page r f o ω ω w u) ?_;refine θ ?_;have y:(pgM ⟨j.ps,j.bs⟩ q).length=p:=fN r v ω;refine wG Y (ks:=[0,1,2,3,5,6,9,21,22,23,24]) (n:=2000) 1 (by rw[J];exact jE (pgM ⟨j.ps,j.bs⟩ q) p y ω ω (a' j.gen.toNat) _ (fO _ ω ω)) rfl rfl (by simp[ax,ak,keys]) (by simp only[bV,cF,and_self]) ?_;rw[f,h5] at a;have a:(du (pgM ⟨j.ps,j.bs⟩ q) (a' j.gen.toNat)).1=R:=a;rw[a];refine θ ?_;refine⟨π,?_⟩;have d:∀i,i<R.length->1<=(R.getD i []).length/\(R.getD i []).length<=256:=by
   intro i l;have e:R.getD i []=R[i]:=by simp[cR,l]
   rw[e];refine xH _ _ _ _ _ (?_:R[i]∈(du (pgM ⟨j.ps,j.bs⟩ q) (a' j.gen.toNat)).1);rw[a];exact ix l
  have z:R.length<1000000:=by
   have h1:=iJ (pgM ⟨j.ps,j.bs⟩ q) (a' j.gen.toNat) ω;have h2:=lv (pgM ⟨j.ps,j.bs⟩ q) (a' j.gen.toNat) (pgM ⟨j.ps,j.bs⟩ q).length 16;have A:(dq (pgM ⟨j.ps,j.bs⟩ q) (a' j.gen.toNat) (pgM ⟨j.ps,j.bs⟩ q).length 16).1=R:=a;rw[A] at h2;have G:=mD R;have H:(dq (pgM ⟨j.ps,j.bs⟩ q) (a' j.gen.toNat) (pgM ⟨j.ps,j.bs⟩ q).length 16).2=(du (pgM ⟨j.ps,j.bs⟩ q) (a' j.gen.toNat)).2:=rfl;omega
  refine ay Y t [0,1,2,3,5,6,9,21,22,23,24] R.length (fun i=>⟨35,[(3,.sl 1 0 R.length 1),(21,.sl 1 0 R.length 1),(22,.i R.length),(23,.i i)],[(1,some ⟨iS,byL R⟩)],2⟩) [] (fun i=>i) ?_ ?_
  .refine⟨rfl,?_,?_,rfl,rfl,trivial,fun i h=>h⟩
   .exact κ
    trace_state
   .exact aiT
  .intro i l;simp only[go_sem,J,byP];split
   .refine⟨⟨ω,ω⟩,ω,?_⟩;refine aa Z (zE ((R.getD i []).map bt) (R.getD i []).length η (by have:=d i ω;omega) (by have:=d i ω;omega)) ?_;simp only[go_sem,J,PJ];have g:R.set i (R.getD i [])=R:=by
     apply l' η;intro m h1 h2;rw[List.getElem_set];split
     .rename_i e;subst e;simp[cR,h2]
     .rfl
    (try go_unwrap)
    refine⟨⟨ω,ω⟩,ω,ω,eh rfl ?_ ?_ rfl rfl (c7 _)⟩
    .simp only[go_sem];omega
    .simp only[go_sem,g];exact dK _ _ _ _
   .exact⟨c7 _,by rw[cD (c7 _)]⟩
def gI(j:Jn):Int:=if aT j then kF j.ps j.tail j.torn else 0
theorem fP{j:Jn}(h:aT j=true):16<=j.tail/\j.tail<=j.ps:=by
 obtain⟨p,k,q,b,i,l,c,m,n,o,r,s,d,e,f,g,a,-⟩:=cG h;have t:(pgM (flOf j) q).length=p:=fN b c ω;have h1:=iJ (pgM (flOf j) q) (a' j.gen.toNat) ω;have h2:j.tail=((du (pgM (flOf j) q) (a' j.gen.toNat)).2:Int):=by rw[a];rfl
 omega
theorem OS(j:Jn)(n:Nat)(d:j.bs.length=n)(e:n<1000000000):FPure prog 112 [.agg [.i j.ps,.p (.data 1 n (j.bs.map bt)),.i j.page,.i j.gen,.i j.tail,.b j.torn]] (.i (gI j)):=by
 apply ba f112 [0,1,2,5];intro c J f Y Z;refine δ (ny j n d e) ?_;simp only[go_sem,J];obtain⟨R,a⟩:∃R,gI j=R:=⟨_,rfl⟩;rw[a] at Y Z;(try rw[a]);unfold gI at a;split
 .rename_i h;rw[h] at a;exact a
 .rename_i h;have h:aT j=true:=χ;rw[b9 h] at a;obtain⟨p,k,q,g,l,m,-⟩:=cG h;have o:=fP h;apply aa Z (KN j.ps n _ j.page j.gen j.tail j.torn ω ω);simp only[go_sem];exact a
inductive JOp where
 |er (page:Int)
 |wr (page at_:Int) (b:List UInt8)
def opP:JOp->PV
 |.er p => .iface 227 (.agg [.v (.int .i64 p)])
 |.wr p a b => .iface 230 (.agg [.v (.int .i64 p),.v (.int .i64 a),.data 1 b.length (b.map bt)])
def ed(f:Fl)(budget:Int):JOp->FR
 |.er p=>eR f p budget
 |.wr p a b=>dM f p a b budget
def wX:JOp->Prop
 |.er _=>True
 |.wr _ _ b=>b.length<1000000000
def cE(f:Fl)(budget:Int):List JOp->JR
 |[]=>if(mountM f).err≠0 then⟨jn0,0,(mountM f).err⟩ else⟨(mountM f).j,budget,0⟩
 |o::r=>if(ed f budget o).err=16 then⟨⟨(ed f budget o).f.ps,(ed f budget o).f.bs,0,0,0,false⟩,0,16⟩
  else if(ed f budget o).err≠0 then⟨jn0,0,(ed f budget o).err⟩
  else cE (ed f budget o).f (ed f budget o).left r
theorem OT(ps:Int)(bs:List UInt8)(n:Nat)(page budget:Int)(a:bs.length=n)(b:n<1000000000)(d:i64 budget) :
 FPure prog 396 [.agg [.i page],.agg [.i ps,.p (.data 1 n (bs.map bt))],.i budget] (CH (eR ⟨ps,bs⟩ page budget)):=by
 apply ba f396 [0,1,2,3,4,6,7,8];intro c J e Y Z;refine δ (PM ps bs n page budget a b d) ?_;simp only[go_sem,J]
theorem OU(ps:Int)(bs:List UInt8)(n:Nat)(page a:Int)(b:List UInt8)(m:Nat)(budget:Int)(e:bs.length=n)(f:n<1000000000)(g:b.length=m)(d:m<1000000000)(h:i64 budget) :
 FPure prog 401 [.agg [.i page,.i a,.p (.data 1 m (b.map bt))],.agg [.i ps,.p (.data 1 n (bs.map bt))],.i budget] (CH (dM ⟨ps,bs⟩ page a b budget)):=by
 apply ba f401 [0,1,2,3,4,6,7,8];intro c J j Y Z;refine δ (IG ps bs n page a b m budget e f g d h) ?_;simp only[go_sem,J]
theorem OV(l:List JOp)(i:Nat)(h:i<l.length)(d:PV):gE d ((l.map opP).drop i)=opP l[i]:=by
 rw[hE χ];simp[gE]
theorem xI{m:Nat}{budget:Int}(h:i64 budget)(a:m<1000000000):i64 (dL m budget):=by
 unfold i64 dL at *;split
 .omega
 .split<;>omega
theorem gJ{f:Fl}{budget:Int}(o:JOp)(c:i64 budget)(g:f.bs.length<1000000000)(ho:wX o):i64 (ed f budget o).left/\(ed f budget o).f.bs.length<=f.bs.length:=by
 have d:∀e,i64 (iM e).left/\(iM e).f.bs.length<=f.bs.length:=fun e=>⟨by simp[iM,i64],by simp[iM]⟩
 cases o with
 |er p =>
  simp only[ed];unfold eR;split
  .exact d _
  .rename_i ha;have hv:cu f.ps f.bs.length=0:=by
    by_cases hv:cu f.ps f.bs.length=0
    .exact hv
    .exact s5 (jg p 0 0 hv) ω
   obtain⟨p,k,h,i,j,-⟩:=gd hv;exact⟨xI c ω,by simp[aE,ge]⟩
 |wr p a b =>
  simp only[ed];unfold dM;split
  .exact d _
  .exact⟨xI c ho,by simp[aE,ge]⟩
def ajj:List Nat:=[0,1,2,3,6,7,8,10,11,12,13,14,15,16,17,18,19,31,36,48]
attribute[go_sem]ajj
theorem rj(ps:Int)(bs:List UInt8)(n:Nat)(budget:Int)(l:List JOp)(m:Nat)(A:l.length=m)(s:m<1000)(t:bs.length=n)(B:n<1000000000)(u:i64 budget)(w:∀o,o∈l->wX o) :
 FPure prog 177 [.agg [.i ps,.p (.data 1 n (bs.map bt))],.i budget,.p (.data 1 m (l.map opP))] (zC (cE ⟨ps,bs⟩ budget l)):=by
 apply ba f177 ajj;intro c J y Y Z;simp only[go_sem,J];obtain⟨R,q⟩:∃R,cE ⟨ps,bs⟩ budget l=R:=⟨_,rfl⟩;rw[q] at Y Z;(try rw[q]);refine bl Y y ajj (α:={x:Nat×Fl×Int // x.1<=m/\x.2.1.bs.length<1000000000/\i64 x.2.2/\cE x.2.1 x.2.2 (l.drop x.1)=R})
  (fun x=>⟨53,[(1,.i x.1.2.2),(3,.ptr 0 0),(6,.ptr 1 0),(16,.p (.data 1 m (l.map opP))),(17,.i m),(18,.i x.1.1)],[(0,some ⟨30,[.i x.1.2.1.ps,.p (.data 1 x.1.2.1.bs.length (x.1.2.1.bs.map bt))]⟩),(1,some ⟨32,[.i 0,.p (.v (.slice none 0 0)),.i 0,.i 0,.i 0,.b false]⟩)],2⟩)
  (fun x=>m-x.1.1) ⟨(0,⟨ps,bs⟩,budget),gi _,by show bs.length<_;omega,u,q⟩ [] (fun i=>i) ?_ ?_
 .refine⟨rfl,?_,?_,rfl,rfl,trivial,fun i h=>h⟩
  .exact κ
  .simp only[go_sem,t]
 .rintro⟨⟨i,f,d⟩,h1,h2,k,h4⟩;simp only at h1 h2 k h4;by_cases z:i<m
  .have e:i<l.length:=ω;simp only[go_sem,J,OV l i e];rw[hE e] at h4;have j:=w l[i] (ix e);generalize l[i]=o at *;have hr:=gJ o k h2 j;cases o with
   |er pg =>
    simp only[opP,go_sem];rw[b9 ω];refine⟨ω,ω,?_⟩;apply NT (f:=396) π;apply aa Z (OT f.ps f.bs _ pg d rfl h2 k);generalize g:eR ⟨f.ps,f.bs⟩ pg d=r at *;have hr2:ed f d (.er pg)=r:=g;exact afF
   |wr pg a b =>
    simp only[opP,go_sem];rw[b9 ω];refine⟨ω,ω,?_⟩;apply NT (f:=401) π;apply aa Z (OU f.ps f.bs _ pg a b _ d rfl h2 rfl j k);generalize g:dM ⟨f.ps,f.bs⟩ pg a b d=r at *;have hr2:ed f d (.wr pg a b)=r:=g;exact afF
  .obtain rfl:i=m:=by omega
   rw[l2 ω] at h4;simp only[cE] at h4;refine θ ?_;rw[b0 ω];apply aa Z (zD f.ps f.bs _ rfl h2);simp only[go_sem,J];split
   .rename_i he;rw[b9 he] at h4;subst h4;exact afR
   .rename_i he;rw[b0 he] at h4;subst h4;simp only[and_self]
theorem OW(a b:Int)(p:Int)(c:Int)(x:List UInt8)(h:x.length<1000000000):∀o,o∈[JOp.er a,.er b,.wr p c x]->wX o:=by
 intro o ho;simp only[hZ,k',or_false] at ho;rcases ho with rfl|rfl|rfl
 .trivial
 .trivial
 .exact h
def iv(f:Fl)(budget:Int):JR:=if dQ f≠0 then⟨jn0,0,dQ f⟩ else cE f budget [.er 0,.er 1,.wr 0 0 (headM 1)]
theorem HQ(ps:Int)(bs:List UInt8)(n:Nat)(budget:Int)(a:bs.length=n)(b:n<1000000000)(d:i64 budget) :
 FPure prog 102 [.agg [.i ps,.p (.data 1 n (bs.map bt))],.i budget] (zC (iv ⟨ps,bs⟩ budget)):=by
 apply ba f102 [0,1,2,4,5,6,7,11];intro c J e Y Z;refine δ (xG ps bs n a b) ?_;simp only[go_sem,J];obtain⟨R,hR⟩:∃R,iv ⟨ps,bs⟩ budget=R:=⟨_,rfl⟩;rw[hR] at Y Z;(try rw[hR]);unfold iv at hR;split
 .rename_i h;rw[b9 h] at hR;subst hR;exact afR
 .rename_i h;rw[b0 h] at hR;apply aa Z (vE 1 1 rfl);refine θ ?_;refine x_f Z (rj ps bs n budget [.er 0,.er 1,.wr 0 0 (headM 1)] 3 rfl ε a b d (OW _ _ _ _ _ (by rw[cX];decide))) ?_;refine θ ?_;exact aiX
def b8(j:Jn)(b:List UInt8)(budget:Int):JR :=
 if aT j=false then⟨jn0,0,18⟩ else
 if¬(1<=b.length/\b.length<=256) then⟨jn0,0,9⟩ else
 if j.torn then⟨jn0,0,18⟩ else
 if(b.length:Int)>kF j.ps j.tail j.torn then⟨jn0,0,12⟩ else
 cE (flOf j) budget [.wr j.page j.tail (bQ (a' j.gen.toNat) b)]
theorem Tx(p:Int)(a:Int)(x:List UInt8)(h:x.length<1000000000):∀o,o∈[JOp.wr p a x]->wX o:=by
 intro o ho;simp only[hZ,k',or_false] at ho;subst ho;exact h
theorem HR(j:Jn)(n:Nat)(b:List UInt8)(m:Nat)(budget:Int)(g:j.bs.length=n)(l:n<1000000000)(d:b.length=m)(o:m<1000000)(r:i64 budget) :
 FPure prog 113 [.agg [.i j.ps,.p (.data 1 n (j.bs.map bt)),.i j.page,.i j.gen,.i j.tail,.b j.torn],.p (.data 1 m (b.map bt)),.i budget] (zC (b8 j b budget)):=by
 apply ba f113 [0,1,2,3,6,7,8,9,10,14,18,21,28];intro c J t Y Z;refine δ (ny j n g l) ?_;simp only[go_sem,J];obtain⟨R,hR⟩:∃R,b8 j b budget=R:=⟨_,rfl⟩;rw[hR] at Y Z;(try rw[hR]);unfold b8 at hR;rw[d] at hR;split
 .rename_i h;rw[b9 h] at hR;subst hR;exact afR
 .rename_i h;rw[b0 h] at hR;have h:aT j=true:=χ;obtain⟨p,k,q,u,v,w,x,y,z,A,B,C,s,-⟩:=cG h;have D:=fP h;apply aa Z (BM m _);simp only[go_sem,J];split
  .rename_i h2;rw[b9 h2] at hR;subst hR;exact afR
  .rename_i h2;rw[b0 h2] at hR;split
   .rename_i e;rw[b9 e] at hR;subst hR;exact afR
   .rename_i e;rw[b0 e] at hR;apply aa Z (KN j.ps n _ j.page j.gen j.tail j.torn ω ω);simp only[go_sem,J];split
    .rename_i f;rw[b9 f] at hR;subst hR;exact afR
    .rename_i f;rw[b0 f] at hR;apply aa Z (CI (a' j.gen.toNat) j.gen (fO _ ω ω) b m d ω);refine θ ?_;have a:=rj j.ps j.bs n budget [.wr j.page j.tail (bQ (a' j.gen.toNat) b)] 1 rfl ε g l r (Tx _ _ _ (by rw[cj];omega));simp only[hX,n',opP,cj,d] at a;refine x_f Z a ?_;refine θ ?_;have hR:cE ⟨j.ps,j.bs⟩ budget [.wr j.page j.tail (bQ (a' j.gen.toNat) b)]=R:=hR;exact aiX
def ee(l:List (List UInt8)):Bool:=l.all fun b=>decide (1<=b.length/\b.length<=256)
def rsM(g:UInt64)(l:List (List UInt8)):List UInt8:=(l.map (bQ g)).flatten
def aI(j:Jn)(l:List (List UInt8))(budget:Int):JR :=
 if aT j=false then⟨jn0,0,18⟩ else
 if ee l=false then⟨jn0,0,9⟩ else
 if j.ps<16+(bF l:Int) then⟨jn0,0,12⟩ else
 if 1099511627776<=j.gen then⟨jn0,0,13⟩ else
 cE (flOf j) budget [.er (1-j.page),.wr (1-j.page) 16 (rsM (a' (j.gen+1).toNat) l),.wr (1-j.page) 0 (headM (a' (j.gen+1).toNat))]
theorem tE(g:UInt64):∀l,(rsM g l).length=bF l
 |[]=>rfl
 |b::l=>by
  have:=tE g l;unfold rsM at *;simp only[hX,List.flatten_cons,c9,cj,bF,this];omega
theorem KO(g:UInt64)(l:List (List UInt8))(b:List UInt8):rsM g (l++[b])=rsM g l++bQ g b:=by simp[rsM]
theorem fE:∀(l r:List (List UInt8)),bF (l++r)=bF l+bF r
 |[],r=>by simp[bF]
 |b::l,r=>by simp only[o',bF,fE l r];omega
theorem jt(l:List (List UInt8))(i:Nat)(h:i<l.length):l.take (i+1)=l.take i++[l.getD i []]:=by
 rw[s8 h];simp[cR,h]
theorem hC(l:List (List UInt8))(i:Nat):bF (l.take i)<=bF l:=by
 conv=>rhs;rw[<-List.take_append_drop i l,fE]
 omega
theorem zF:∀(l:List (List UInt8)),(∀b,b∈l->b.length<1000000)->bF l<=1000010*l.length
 |[],_=>by simp[bF]
 |b::l,h=>by
  have:=zF l fun x a=>h x (by simp[a])
  have:=h b η;simp only[bF,ew];omega
theorem xJ{l:List (List UInt8)}{i:Nat}(a:i<l.length)(h:¬(1<=(l.getD i []).length/\(l.getD i []).length<=256)):ee l=false:=by
 have e:l.getD i []=l[i]:=by simp[cR,a]
 rw[e] at h;unfold ee;rw[List.all_eq_false];exact⟨l[i],ix a,χ⟩
theorem uW{l:List (List UInt8)}(h:ee l=true){b:List UInt8}(a:b∈l):1<=b.length/\b.length<=256:=by
 unfold ee at h;rw[p'] at h;simpa using h b a
theorem OX(a:Int)(p b:Int)(x:List UInt8)(d c:Int)(y:List UInt8)(h:x.length<1000000000)(e:y.length<1000000000):∀o,o∈[JOp.er a,.wr p b x,.wr d c y]->wX o:=by
 intro o ho;simp only[hZ,k',or_false] at ho;rcases ho with rfl|rfl|rfl
 .trivial
 .exact h
 .exact e
def aji:List Nat:=[0,1,2,3,6,7,8,9,11,12,13,14,16,19,21,22,23,24,29,41,45,53,54,55,56]
attribute[go_sem]aji
theorem oJ(j:Jn)(n:Nat)(l:List (List UInt8))(m:Nat)(budget:Int)(x:j.bs.length=n)(y:n<1000000000)(G:l.length=m)(A:m<1000000)(t:∀b,b∈l->b.length<1000000)(B:i64 budget) :
 FPure prog 103 [.agg [.i j.ps,.p (.data 1 n (j.bs.map bt)),.i j.page,.i j.gen,.i j.tail,.b j.torn],.p (.data 1 m (l.map byP)),.i budget] (zC (aI j l budget)):=by
 refine ba f103 aji ?_;intro c J z Y Z;refine δ (ny j n x y) ?_;simp only[go_sem,J];obtain⟨R,hR⟩:∃R,aI j l budget=R:=⟨_,rfl⟩;rw[hR] at Y Z;(try rw[hR]);unfold aI at hR;split
 .rename_i h;rw[b9 h] at hR;subst hR;exact afR
 .rename_i h;rw[b0 h] at hR;have h:aT j=true:=χ;obtain⟨p,k,q,H,I,K,L,M,N,O,P,Q,C,-⟩:=cG h;have D:=zF l t
  refine bl Y z aji (α:={ i:Nat // i<=m/\ee (l.take i)=true}) (fun i=>⟨85,[(1,.p (.data 1 m (l.map byP))),(2,.i budget),(3,.ptr 0 0),(6,.ptr 1 0),(9,.i ((16+bF (l.take i.1):Nat):Int)),(21,.p (.data 1 m (l.map byP))),(22,.i m),(23,.i i.1)],
   [(1,some ⟨32,[.i 0,.p (.v (.slice none 0 0)),.i 0,.i 0,.i 0,.b false]⟩),(0,some ⟨32,[.i j.ps,.p (.data 1 n (j.bs.map bt)),.i j.page,.i j.gen,.i j.tail,.b j.torn]⟩)],2⟩) (fun i=>m-i.1) ⟨0,gi _,by simp[ee]⟩ [] (fun i=>i) ?_ ?_
  .exact aig
  .rintro⟨i,S,hs⟩;have u:=hC l i;simp only[go_sem,J,bC,byP];split
   .refine⟨⟨ω,ω⟩,ω,?_⟩;refine aa Z (BM _ _) ?_;simp only[go_sem,J];split
    .rename_i h2;rw[b9 (xJ ω h2)] at hR;subst hR;exact afR
    .rename_i h2;have d:=jt l i ω;have f:=hC l (i+1);rw[d,fE] at f;simp only[bF] at f
     (try go_unwrap)
     refine⟨⟨i+1,ω,?_⟩,by show m-(i+1)<m-i;omega,eh rfl ?_ ?_ rfl rfl (c7 _)⟩
     .rw[d];unfold ee at hs⊢;rw[r',hs];simp only[s',t'];simpa using h2
     .simp only[go_sem,d,fE,bF];omega
     .exact κ
   .obtain rfl:i=m:=by omega
    rw[cD ω] at hs u⊢;rw[b0 (by rw[hs];decide)] at hR;split
    .rename_i h2;rw[b9 ω] at hR;subst hR;exact afR
    .rename_i h2;rw[b0 ω] at hR;split
     .rename_i w;rw[b9 w] at hR;subst hR;exact afR
     .rename_i w;rw[b0 w] at hR;refine⟨π,?_⟩;rw[ab (n:=1-j.page) ω ω,ab (n:=j.gen+1) ω ω];have r:=fO (j.gen+1) ω ω;generalize hg:a' (j.gen+1).toNat=g at *;refine aX bP ?_
      refine ay Y z (1000022::aji) i (fun a=>⟨85,[(2,.i budget),(3,.ptr 0 0),(6,.ptr 1 0),(12,.i (1-j.page)),(13,.i (j.gen+1)),(14,.sl 2 0 (bF (l.take a)) 1),(53,.p (.data 1 i (l.map byP))),(54,.i i),(55,.i a)],
       [(2,some ⟨bP,cb (rsM g (l.take a))⟩),(1,some ⟨32,[.i 0,.p (.v (.slice none 0 0)),.i 0,.i 0,.i 0,.b false]⟩),(0,some ⟨32,[.i j.ps,.p (.data 1 n (j.bs.map bt)),.i j.page,.i j.gen,.i j.tail,.b j.torn]⟩)],3⟩) [] (fun i=>i) ?_ ?_
      .refine⟨rfl,?_,?_,rfl,rfl,trivial,fun i h=>h⟩
       .simp only[go_sem];simp[bF]
       .simp only[go_sem];simp[rsM,cb,aj]
      .intro a ha;have E:=hC l a;have o:=tE g (l.take a);simp only[go_sem,J,bC,byP];split
       .refine⟨⟨ω,ω⟩,ω,?_⟩;have F:1<=(l.getD a []).length/\(l.getD a []).length<=256:=by
         have e:l.getD a []=l[a]'ω:=by simp[cR,show a<l.length by omega]
         rw[e];exact uW hs (ix _)
        refine aa Z (CI g (j.gen+1) r (l.getD a []) _ rfl ω) ?_;simp only[go_sem,J,dl,dX];have d:=jt l a ω;have f:=hC l (a+1);rw[d,fE] at f;simp only[bF] at f
        (try go_unwrap)
        refine⟨⟨ω,ω,ω⟩,ω,aA [0,1,3] rfl ?_ ?_ rfl rfl (c7 _)⟩
        .simp only[go_sem,d,fE,bF,AV.sl.injEq];exact⟨ω,ω⟩
        .simp only[go_sem,d,KO];exact aC _ _ _ _
       .obtain rfl:a=i:=by omega
        rw[cD (show l.length<=a by omega)] at o⊢;refine cw Y (ks:=aji) (n:=2000) 2 ?_ ?_
        .simp only[go_sem];omega
        .refine θ ?_;rw[cD (show(rsM g l).length<=bF l by omega)];refine aa Z (vE g (j.gen+1) r) ?_;refine θ ?_;have s:=rj j.ps j.bs n budget [.er (1-j.page),.wr (1-j.page) 16 (rsM g l),.wr (1-j.page) 0 (headM g)] 3 rfl ε x y B (OX _ _ _ _ _ _ _ ω (by rw[cX];decide));simp only[hX,n',opP,o,cX] at s;refine x_f Z s ?_;refine θ ?_;have hR:cE ⟨j.ps,j.bs⟩ budget [.er (1-j.page),.wr (1-j.page) 16 (rsM g l),.wr (1-j.page) 0 (headM g)]=R:=hR;exact aiX
theorem mE(ps:Int)(n:Nat)(bs:List PV)(g:n<1000000000):FPure prog 254 [.agg [.i ps,.p (.data 1 n bs)]] (.i (cu ps n)):=by
 apply ba f254 [0,1,2,10,32];intro c J j Y Z;simp only[go_sem,J];obtain⟨R,a⟩:∃R,cu ps n=R:=⟨_,rfl⟩;rw[a] at Y Z;(try rw[a]);unfold cu at a;have k:n/ps.toNat<=n:=Nat.div_le_self _ _;have b:0<ps->(n:Int).tmod ps=((n % ps.toNat:Nat):Int)/\(n:Int).tdiv ps=((n/ps.toNat:Nat):Int):=fun h=>⟨CE n ps h,qc n ps h⟩
 generalize n/ps.toNat=d at *;generalize n % ps.toNat=r at *;split
 .split
  .split at a<;>omega
  .have⟨e,f⟩:=b ω;rw[e,f,ab ω ω];rw[b0 ω] at a;split
   .refine⟨ω,?_⟩;split
    .refine⟨ω,?_⟩;split<;>(split at a<;>omega)
    .split at a<;>omega
   .split at a<;>omega
 .split at a<;>omega
theorem F6(ps:Int)(bs:List UInt8)(n:Nat)(page a m:Int)(l:bs.length=n)(o:n<1000000000)(s:0<=m/\m<1000000000):FPure prog 318 [.agg [.i ps,.p (.data 1 n (bs.map bt))],.i page,.i a,.i m] (.i (gb ⟨ps,bs⟩ page a m)):=by
 apply ba f318 [0,1,2,3,4,8,9,13,48];intro c J t Y Z;refine δ (mE ps n _ o) ?_;simp only[go_sem,J];split
 .rename_i h;have hv:cu ps bs.length≠0:=by rw[l];exact h
  rw[jg (f:=⟨ps,bs⟩) page a m hv];simp only[l]
 .rename_i h;obtain⟨p,k,rfl,d,e,rfl,g,j⟩:=gd (show cu ps n=0 by omega);have q:((p*k:Nat):Int).tdiv p=k:=by rw[qc _ p ω,h5,Nat.mul_div_cancel_left k ω]
  rw[q,ab (n:=(k:Int)) ω ω];have b:¬(0<=page/\page<k/\0<=a/\a<=p-m)->gb ⟨p,bs⟩ page a m=9:=fun r=>kO d e g j l r
  split
  .refine⟨ω,?_⟩;split
   .split
    .split
     .split
      .rw[ab ω ω];split
       .rw[b ω]
       .rw[mR d e g j l ω]
      .rw[b ω]
     .omega
    .rw[b ω]
   .rw[b ω]
  .rw[b ω]
def pK(b:List UInt8)(i:Nat)(x:UInt8):UInt8:=if b.length=0 then 255 else x &&& b.getD i 0
def xK(budget:Int)(i:Nat):Int:=if 0<=budget then budget-i else budget
theorem OY:(255:Int)=((255:UInt8).toNat:Int):=rfl
theorem rk(ps:Int)(bs:List UInt8)(n a m:Nat)(b:List UInt8)(e:Nat)(budget:Int)(j:bs.length=n)(ha:a+m<=n)(w:n<1000000000)(k:b.length=e)(l:e=0\/e=m)(o:i64 budget) :
 FPure prog 319 [.agg [.i ps,.p (.data 1 n (bs.map bt))],.i a,.i m,.p (.data 1 e (b.map bt)),.i budget] (CH (aE ⟨ps,bs⟩ a m budget (pK b))):=by
 unfold i64 at o;refine ba f319 [0,1,2,3,4,5,10,11,12,13,20,24,28,49] ?_;intro c J q Y Z;simp only[go_sem,J,dl];refine⟨⟨ω,ω⟩,?_⟩
 refine bl Y q [0,1,2,3,4,5,10,11,12,13,20,24,28,49] (α:={ i:Nat // i<=m/\(0<=budget->(i:Int)<=budget)}) (fun i=>⟨54,[(1,.i a),(2,.i m),(3,.p (.data 1 e (b.map bt))),(4,.i (xK budget i.1)),(5,.ptr 0 0),(10,.ptr 1 0),(13,.i i.1)],
  [(0,some ⟨30,[.i ps,.sl 2 0 n 1]⟩),(2,some ⟨bP,cb (eg (pK b) bs a i.1)⟩),(1,some ⟨30,[.i 0,.p (.v (.slice none 0 0))]⟩)],3⟩) (fun i=>m-i.1) ⟨0,gi _,fun h=>χ⟩ [] (fun i=>i) ?_ ?_
 .refine⟨rfl,?_,?_,rfl,rfl,trivial,fun i h=>h⟩
  .simp only[go_sem,xK];split<;>omega
  .simp only[go_sem,eg];exact aC _ _ _ _
 .rintro⟨i,x,r⟩;generalize hu:eg (pK b) bs a i=us;have hul:us.length=n:=by rw[<-hu,ge,j]
  obtain⟨bi,d⟩:∃bi,xK budget i=bi:=⟨_,rfl⟩;have s:(0<=budget/\bi=budget-i)\/(budget<0/\bi=budget):=by
   unfold xK at d;split at d<;>omega
  have hnx:xK budget (i+1)=if 0<=budget then bi-1 else bi:=by unfold xK;split<;>omega
  have hun:eg (pK b) bs a (i+1)=us.set (a+i) (pK b i (us.getD (a+i) 0)):=by simp only[eg,hu]
  simp only;rw[d];have f:u'.wrap ((a:Int)+(i:Int))=((a+i:Nat):Int)\/¬i<m:=by
   by_cases h:i<m
   .left;rw[ab ω ω];omega
   .exact .inr h
  simp only[go_sem,J,Ml,NW,OY];split
  .have f:=f.resolve_right ω;rw[f];simp only[h5];have t:u'.wrap ((i:Int)+1)=(i:Int)+1:=ab ω ω;split
   .obtain⟨u,g⟩:0<=budget/\budget=i:=by omega
    have hr:bZ m budget=i:=by unfold bZ;rw[b9 ω];omega
    have hl:dL m budget=0:=by unfold dL;rw[b9 ω]
    have hp:eB m budget=16:=by unfold eB;rw[b9 ω]
    exact aio
   .rw[t];split
    .have hc:pK b i (us.getD (a+i) 0)=255:=by unfold pK;rw[b9 ω]
     refine⟨⟨ω,ω⟩,ω,?_⟩;exact afH
    .have hc:pK b i (us.getD (a+i) 0)=us.getD (a+i) 0 &&& b.getD i 0:=by unfold pK;rw[b0 ω]
     refine⟨⟨ω,ω⟩,ω,⟨ω,ω⟩,ω,⟨ω,ω⟩,ω,π,?_⟩;exact afH
  .obtain rfl:i=m:=by omega
   have hr:bZ i budget=i:=by unfold bZ;rw[b0 ω]
   have hl:dL i budget=bi:=by unfold dL;rw[b0 ω];split<;>omega
   have hp:eB i budget=0:=by unfold eB;rw[b0 ω]
   exact aio
theorem oK{c d:Nat->UInt8->UInt8}(bs:List UInt8)(a:Nat):∀m,(∀i x,i<m->c i x=d i x)->eg c bs a m=eg d bs a m
 |0,_=>rfl
 |m+1,h=>by
  simp only[eg];rw[oK bs a m fun i x b=>h i x ω,h m _ ω]
theorem kH(m:Nat)(budget:Int):bZ m budget<=m:=by unfold bZ;split<;>omega
theorem HS(f:Fl)(a m:Nat)(budget:Int)(b:List UInt8)(e:b.length=m):aE f a m budget (pK b)=aE f a m budget (aN b):=by
 unfold aE;rw[oK f.bs a (bZ m budget) (c:=pK b) (d:=aN b)];intro i x g;have:=kH m budget;unfold pK aN;rw[b0 ω]
theorem HT(f:Fl)(a m:Nat)(budget:Int):aE f a m budget (pK [])=aE f a m budget (fun _ _=>255):=by
 unfold aE;rw[oK f.bs a (bZ m budget) (c:=pK []) (d:=fun _ _=>255)];intro i x b;rfl
theorem lx(ps:Int)(bs:List UInt8)(n:Nat)(page d:Int)(b:List UInt8)(m:Nat)(budget:Int)(g:bs.length=n)(u:n<1000000000)(j:b.length=m)(x:m<1000000000)(y:i64 budget) :
 FPure prog 237 [.agg [.i ps,.p (.data 1 n (bs.map bt))],.i page,.i d,.p (.data 1 m (b.map bt)),.i budget] (CH (dM ⟨ps,bs⟩ page d b budget)):=by
 apply ba f237 [0,1,2,3,4,5,10,11,12,13,21];intro c J C Y Z;refine δ (F6 ps bs n page d m g u ω) ?_;simp only[go_sem,J];split
 .rename_i h;rw[oU j rfl h];exact ahf
 .rename_i h;have h:gb ⟨ps,bs⟩ page d m=0:=ω;have hv:cu ps n=0:=by
   by_cases hv:cu ps n=0
   .exact hv
   .have:=jg (f:=⟨ps,bs⟩) page d m (by rw[g];exact hv);rw[h,g] at this;exact s5 this.symm hv
  obtain⟨p,k,rfl,l,o,rfl,r,s⟩:=gd hv;have z:0<=page/\page<k/\0<=d/\d<=p-m:=by
   by_cases v:0<=page/\page<k/\0<=d/\d<=p-m
   .exact v
   .rw[kO l o r s g v] at h;cases h
  have w:=qe (budget:=budget) j h;obtain⟨q,rfl⟩:=i0 (show 0<=page by omega);obtain⟨a,rfl⟩:=i0 (show 0<=d by omega);have A:=fT (p:=p) (show q<k by omega);have t:((q:Int)*(p:Int)+a).toNat=q*p+a:=by(have e:(q:Int)*(p:Int)=((q*p:Nat):Int):=by simp);rw[e];omega
  have B:u'.wrap (((q*p:Nat):Int)+(a:Int))=((q*p+a:Nat):Int):=by rw[ab ω ω];simp
  rw[j3 q p ω,B];simp only[t] at w;apply aa Z (rk p bs _ (q*p+a) m b m budget g ω u j (.inr rfl) y);rw[HS _ _ _ _ _ j];simp only[go_sem,J];simp only[w,and_self]
theorem uX(ps:Int)(bs:List UInt8)(n:Nat)(page budget:Int)(a:bs.length=n)(b:n<1000000000)(o:i64 budget) :
 FPure prog 239 [.agg [.i ps,.p (.data 1 n (bs.map bt))],.i page,.i budget] (CH (eR ⟨ps,bs⟩ page budget)):=by
 apply ba f239 [0,1,2,3,6,7,8,9,14];intro c J v Y Z;refine δ (F6 ps bs n page 0 0 a b ω) ?_;simp only[go_sem,J];split
 .rename_i h;rw[mS rfl h];exact ahf
 .rename_i h;have h:gb ⟨ps,bs⟩ page 0 0=0:=ω;have hv:cu ps n=0:=by
   by_cases hv:cu ps n=0
   .exact hv
   .have:=jg (f:=⟨ps,bs⟩) page 0 0 (by rw[a];exact hv);rw[h,a] at this;exact s5 this.symm hv
  obtain⟨p,k,rfl,d,g,rfl,j,l⟩:=gd hv;have t:0<=page/\page<k/\0<=(0:Int)/\(0:Int)<=p-0:=by
   by_cases r:0<=page/\page<k/\0<=(0:Int)/\(0:Int)<=p-0
   .exact r
   .rw[kO d g j l a r] at h;cases h
  have s:=rK (budget:=budget) h;obtain⟨q,rfl⟩:=i0 (show 0<=page by omega);have u:=fT (p:=p) (show q<k by omega);have m:((q:Int)*(p:Int)).toNat=q*p:=by(have e:(q:Int)*(p:Int)=((q*p:Nat):Int):=by simp);rw[e];omega
  rw[j3 q p ω];simp only[m,h5] at s
  first|refine iD Y (ks:=[0,1,2,3,6,7,8,9,14]) (n:=2000) (by rw[J];exact(rk p bs _ (q*p) p [] 0 budget a ω b rfl (.inl rfl) o).nil κ) ?_|refine iE Y (ks:=[0,1,2,3,6,7,8,9,14]) (n:=2000) (by rw[J];exact(rk p bs _ (q*p) p [] 0 budget a ω b rfl (.inl rfl) o).nil κ) ?_
  rw[HT];simp only[go_sem,J];simp only[s,and_self]
theorem pL(ps:Int)(bs:List UInt8)(p k n q:Nat)(d:Int)(a:ps=p)(b:d=q)(f:bs.length=n)(g:n=p*k)(h:q<k)(e:k<=8)(c:512<=p)(j:p<=8192) :
 FPure prog 255 [.agg [.i ps,.p (.data 1 n (bs.map bt))],.i d] (.i (bz (pgM ⟨ps,bs⟩ q))):=by
 subst a b;have l:p*k<=8192*8:=c' j e;have:=Al p k q n bs g f ω h e c ω;exact aiU
theorem zG(ps:Int)(bs:List UInt8)(p k n q:Nat)(e:Int)(g:UInt64)(a:Int)(hg:IntKind.u64.wrap a=g.toNat)(b:ps=p)(c:e=q)(h:bs.length=n)(j:n=p*k)(l:q<k)(f:k<=8)(d:512<=p)(m:p<=8192) :
 FPure prog 256 [.agg [.i ps,.p (.data 1 n (bs.map bt))],.i e,.i a] (.tup [.p (.data 1 (du (pgM ⟨ps,bs⟩ q) g).1.length ((du (pgM ⟨ps,bs⟩ q) g).1.map byP)),.i (du (pgM ⟨ps,bs⟩ q) g).2]):=by
 subst b c;have o:p*k<=8192*8:=c' m f;have:=Us p k q n bs j h ω l f d ω g a hg;exact aiU
theorem uY(pg:List UInt8)(t i:Nat)(a:t+i<pg.length):(((pg.drop t).take (i+1)).all (·==255))=((((pg.drop t).take i).all (·==255))&&(pg.getD (t+i) 0==255)):=by
 rw[s8 ζ,r'];simp[cR,a]
theorem uZ(ps:Int)(bs:List UInt8)(n:Nat)(hn:bs.length=n)(f:n<1000000000):FPure prog 190 [.agg [.i ps,.p (.data 1 n (bs.map bt))]] (OR (mountM ⟨ps,bs⟩)):=by
 apply ba f190 [0,1,2,3,4,5,6,7,8,12,21,32,44,63];intro c J h0 Y Z;refine δ (mE ps n _ f) ?_;simp only[go_sem,J];obtain⟨R,hR⟩:∃R,mountM ⟨ps,bs⟩=R:=⟨_,rfl⟩;rw[hR] at Y Z;(try rw[hR]);unfold mountM at hR;split
 .rename_i h;have a:dQ ⟨ps,bs⟩=cu ps n:=by unfold dQ;simp only[hn];rw[b9 h]
  rw[a,b9 h] at hR;subst hR;exact afR
 .rename_i h;have⟨p,k,hp,hp1,hp2,hnk,g,hk2⟩:=gd (show cu ps n=0 by omega)
  (try go_unwrap)
  split
  .have a:dQ ⟨ps,bs⟩=4:=by unfold dQ;simp only[hn];rw[b0 h,b9 ω]
   rw[a,b9 ε] at hR;subst hR;exact afR
  .have a:dQ ⟨ps,bs⟩=0:=by unfold dQ;simp only[hn];rw[b0 h,b0 ω]
   rw[a,b0 ε] at hR;have j:2<=k:=by
    exact aiI
   apply aa Z (pL ps bs p k n 0 0 hp rfl hn hnk ω hk2 hp1 hp2);refine δ (pL ps bs p k n 1 1 hp rfl hn hnk ω hk2 hp1 hp2) ?_;refine wi ?_;have m:=go (pgM ⟨ps,bs⟩ 0);have o:=go (pgM ⟨ps,bs⟩ 1);have l:p*k<=8192*8:=c' hp2 hk2;split
   .rename_i ha;split
    .rename_i e;rw[b0 ω,b9 ha] at hR;subst hR;exact afR
    .rename_i e;refine⟨⟨ω,ω⟩,π,?_⟩;rw[b9 ω] at hR⊢;exact Ψ
   .rename_i ha;refine⟨⟨ω,ω⟩,π,?_⟩;split
    .rw[b9 ‹_›] at hR;exact Ψ
    .rw[b0 ‹_›,b0 ha] at hR;apply aa Z (zG ps bs p k n 0 0 (a' (bz (pgM ⟨ps,bs⟩ 0)).toNat) _ (fO _ ω ω) hp rfl hn hnk ω hk2 hp1 hp2);have hpl:(pgM ⟨ps,bs⟩ 0).length=p:=fN hp (hn.trans hnk) ω;have hs:=iJ (pgM ⟨ps,bs⟩ 0) (a' (bz (pgM ⟨ps,bs⟩ 0)).toNat) ω;have hma:db ⟨ps,bs⟩ 0 (bz (pgM ⟨ps,bs⟩ 0))=⟨ps,bs,(0:Nat),bz (pgM ⟨ps,bs⟩ 0),((du (pgM ⟨ps,bs⟩ 0) (a' (bz (pgM ⟨ps,bs⟩ 0)).toNat)).2:Nat),!((pgM ⟨ps,bs⟩ 0).drop (du (pgM ⟨ps,bs⟩ 0) (a' (bz (pgM ⟨ps,bs⟩ 0)).toNat)).2).all (·==255)⟩:=rfl;generalize du (pgM ⟨ps,bs⟩ 0) (a' (bz (pgM ⟨ps,bs⟩ 0)).toNat)=T at *;simp only[go_sem,J,dl];generalize hG:bz (pgM ⟨ps,bs⟩ 0)=G at *;have hget:∀i,i<p->(pgM ⟨ps,bs⟩ 0).getD i 0=bs.getD (0*p+i) 0:=by
      intro i hi;unfold pgM;simp only[hp,h5,cR,l0,b9 hi,List.getElem?_drop]
     have hle:=fT (p:=p) (show 0<k by omega)
     refine ay Y h0 [0,1,2,3,4,5,6,7,8,12,21,32,44,63] (p-T.2) (fun d=>⟨84,[(1,.ptr 0 0),(2,.ptr 1 0),(7,.ptr 3 0),(8,.i ((T.2+d:Nat):Int))],
      [(3,some ⟨32,[.i ps,.sl 2 0 n 1,.i 0,.i G,.i T.2,.b (!((((pgM ⟨ps,bs⟩ 0).drop T.2).take d).all (·==255)))]⟩),(2,some ⟨bP,cb bs⟩),(1,some ⟨32,[.i 0,.p (.v (.slice none 0 0)),.i 0,.i 0,.i 0,.b false]⟩),(0,some ⟨30,[.i ps,.p (.data 1 n (bs.map bt))]⟩)],4⟩) [] (fun i=>i) ?_ ?_
     .refine⟨rfl,?_,?_,rfl,rfl,trivial,fun i h=>h⟩
      .exact κ
      .simp only[go_sem,List.take_zero,t',x'];exact aC _ _ _ _
     .intro d hd;have hst:=uY (pgM ⟨ps,bs⟩ 0) T.2 d;generalize hU:(((pgM ⟨ps,bs⟩ 0).drop T.2).take d).all (·==255)=U at *;have e1:u'.wrap (0*ps)=((0*p:Nat):Int):=by rw[hp,ab ω ω];omega
      have e2:d<p-T.2->u'.wrap (((0*p:Nat):Int)+((T.2+d:Nat):Int))=((0*p+(T.2+d):Nat):Int):=fun h=>by rw[ab ω ω];omega
      have e255:∀x:UInt8,((x.toNat:Int) != 255) = !(x==255):=fun x=>by
       have:((x.toNat:Int)=255)↔x=255:=by rw[<-UInt8.toNat_inj];simp;omega
       rw[Bool.eq_iff_iff];simp[this]
      by_cases hdl:d<p-T.2
      .have hst:=hst ω;rw[hget _ ω] at hst;simp only[go_sem,J,e1,e2 hdl,e255];rw[b9 ω,ab ω ω];cases U
       .rw[b0 ε];refine⟨hdl,eh rfl ?_ ?_ rfl rfl (c7 _)⟩
        .simp only[go_sem];omega
        .simp only[go_sem,hst,Bool.false_and,Bool.not_false];exact aC _ _ _ _
       .rw[b9 rfl];refine⟨⟨ω,ω⟩,ω,hdl,eh rfl ?_ ?_ rfl rfl (c7 _)⟩
        .simp only[go_sem];omega
        .simp only[go_sem,hst,w'];exact aC _ _ _ _
      .obtain rfl:d=p-T.2:=by omega
       rw[cD ζ] at hU;refine θ ?_;rw[b0 ω];rw[hma,hU] at hR;subst hR;simp only[hn,cD (f' hn),and_self,c7,true_and]
       first|rfl|trivial|exact⟨⟨rfl,trivial⟩,trivial⟩|exact⟨rfl,trivial⟩
theorem BO(a d:Int)(e f:List UInt8)(g j:Nat):FPure prog 354 [.agg [.i a,.p (.data 1 g (e.map bt))],.agg [.i d,.p (.data 1 j (f.map bt))]] (.b (a==d&&e==f)):=by
 apply ba f354 [0,1,2,3,4];intro c J k Y Z;simp only[go_sem,J,bS,strOf,bL,jf];split
 .rename_i h;subst h;simp
 .rename_i h;simp[h]
def pM(a b:Jn):Bool:=a.ps==b.ps&&a.bs==b.bs&&a.page==b.page&&a.gen==b.gen&&a.tail==b.tail&&a.torn==b.torn
theorem oe(a b:Jn)(d e:Nat):FPure prog 317 [.agg [.i a.ps,.p (.data 1 d (a.bs.map bt)),.i a.page,.i a.gen,.i a.tail,.b a.torn],.agg [.i b.ps,.p (.data 1 e (b.bs.map bt)),.i b.page,.i b.gen,.i b.tail,.b b.torn]] (.b (pM a b)):=by
 apply ba f317 [0,1,2,3,4];intro c J h Y Z;refine δ (BO a.ps b.ps a.bs b.bs d e) ?_;refine θ ?_;unfold pM;generalize(a.ps==b.ps&&a.bs==b.bs)=u;by_cases h2:a.page=b.page<;>by_cases f:a.gen=b.gen<;>by_cases g:a.tail=b.tail<;>cases u<;>simp[h2,f,g]
theorem HU(a b:Jn):pM a b=true↔a=b:=by
 unfold pM;have⟨g,h,a3,a4,a5,i⟩:=a;have⟨j,k,l,m,n,o⟩:=b;simp only[v',beq_iff_eq,Jn.mk.injEq];constructor
 .rintro⟨⟨⟨⟨⟨h1,h2⟩,c⟩,d⟩,e⟩,f⟩;exact⟨h1,h2,c,d,e,f⟩
 .rintro⟨h1,h2,c,d,e,f⟩;exact⟨⟨⟨⟨⟨h1,h2⟩,c⟩,d⟩,e⟩,f⟩
theorem ju(j:Jn)(n:Nat)(e:j.bs.length=n)(f:n<1000000000):FPure prog 234 [.agg [.i j.ps,.p (.data 1 n (j.bs.map bt)),.i j.page,.i j.gen,.i j.tail,.b j.torn]] (.b (aT j)):=by
 apply ba f234 [0,1,2,3,4];intro c J m Y Z;refine δ (uZ j.ps j.bs n e f) ?_;simp only[go_sem,J];split
 .rename_i h;obtain⟨p,k,q,o,r,s,t,u,v,w,-,-,-,g⟩:=kG h;apply aa Z (oe j (mountM ⟨j.ps,j.bs⟩).j n (mountM ⟨j.ps,j.bs⟩).j.bs.length);simp only[go_sem];have l:(mountM ⟨j.ps,j.bs⟩).j.ps=j.ps/\(mountM ⟨j.ps,j.bs⟩).j.bs=j.bs:=by rw[g];exact⟨rfl,rfl⟩
  unfold aT pM flOf;generalize mountM ⟨j.ps,j.bs⟩=M at *;have⟨a,d⟩:=l;rw[a,d,h];rw[Bool.eq_iff_iff];simp only[beq_self_eq_true,w',v',beq_iff_eq];constructor
  .exact ait
  .exact ait
 .rename_i h;unfold aT flOf;simp[h]
def cd(f:Fl)(e:Int):JR:=if e=16 then⟨⟨f.ps,f.bs,0,0,0,false⟩,0,16⟩ else⟨jn0,0,e⟩
theorem cU(ps:Int)(bs:List UInt8)(n:Nat)(e:Int)(b:bs.length=n):FPure prog 236 [.agg [.i ps,.p (.data 1 n (bs.map bt))],.i e] (zC (cd ⟨ps,bs⟩ e)):=by
 apply ba f236 [0,1,2,4,5,6,8];intro c J d Y Z;simp only[go_sem,J];obtain⟨R,a⟩:∃R,cd ⟨ps,bs⟩ e=R:=⟨_,rfl⟩;rw[a] at Y Z;(try rw[a]);unfold cd at a;split
 .rename_i h;rw[b9 h] at a;subst a;simp only[b,h,and_self]
 .rename_i h;rw[b0 h] at a;subst a;exact afR
theorem F7(j:Jn)(n:Nat)(a:j.bs.length=n)(d:n<1000000000):FPure prog 167 [.agg [.i j.ps,.p (.data 1 n (j.bs.map bt)),.i j.page,.i j.gen,.i j.tail,.b j.torn]] (.i (gI j)):=by
 apply ba f167 [0,1,2,9];intro c J e Y Z;refine δ (ju j n a d) ?_;simp only[go_sem,J];obtain⟨R,hR⟩:∃R,gI j=R:=⟨_,rfl⟩;rw[hR] at Y Z;(try rw[hR]);unfold gI at hR;split
 .rename_i h;rw[b9 h] at hR;obtain⟨p,k,q,f,g,l,-⟩:=cG h;have m:=fP h;unfold kF at hR;rw[ab (n:=j.ps-j.tail) ω ω,ab (n:=j.ps-j.tail-10) ω ω];exact ahR
 .rename_i h;rw[b0 h] at hR;exact hR
theorem Et(j:Jn)(n:Nat)(e:j.bs.length=n)(f:n<1000000000):FPure prog 241 [.agg [.i j.ps,.p (.data 1 n (j.bs.map bt)),.i j.page,.i j.gen,.i j.tail,.b j.torn]] (.p (.data 1 (aZ j).length ((aZ j).map byP))):=by
 apply ba f241 [0,1,2,3,7];intro c J s Y Z;refine δ (ju j n e f) ?_;simp only[go_sem,J];obtain⟨R,a⟩:∃R,aZ j=R:=⟨_,rfl⟩;rw[a] at Y Z;(try rw[a]);unfold aZ at a;split
 .rename_i h;rw[h] at a;subst a;exact⟨rfl,rfl⟩
 .rename_i h;have h:aT j=true:=χ;rw[b9 h] at a;obtain⟨p,k,q,g,l,m,t,u,o,v,w,x,d,r,-,-,-,-⟩:=cG h;apply aa Z (zG j.ps j.bs p k n q j.page (a' j.gen.toNat) j.gen (fO _ ω ω) g d e ω ω o l m);rw[d,h5] at a;have a:(du (pgM ⟨j.ps,j.bs⟩ q) (a' j.gen.toNat)).1=R:=a;rw[a];simp only[go_sem]
def ey(j:Jn)(b:List UInt8)(budget:Int):JR :=
 if aT j=false then⟨jn0,0,18⟩ else
 if¬(1<=b.length/\b.length<=256) then⟨jn0,0,9⟩ else
 if j.torn then⟨jn0,0,18⟩ else
 if(b.length:Int)>kF j.ps j.tail j.torn then⟨jn0,0,12⟩ else
 if(dM (flOf j) j.page j.tail (bQ (a' j.gen.toNat) b) budget).err≠0 then cd (dM (flOf j) j.page j.tail (bQ (a' j.gen.toNat) b) budget).f (dM (flOf j) j.page j.tail (bQ (a' j.gen.toNat) b) budget).err
 else⟨⟨(dM (flOf j) j.page j.tail (bQ (a' j.gen.toNat) b) budget).f.ps,(dM (flOf j) j.page j.tail (bQ (a' j.gen.toNat) b) budget).f.bs,j.page,j.gen,j.tail+10+b.length,j.torn⟩,(dM (flOf j) j.page j.tail (bQ (a' j.gen.toNat) b) budget).left,0⟩
theorem HV(j:Jn)(n:Nat)(b:List UInt8)(m:Nat)(budget:Int)(hn:j.bs.length=n)(g:n<1000000000)(t:b.length=m)(u:m<1000000)(v:i64 budget) :
 FPure prog 168 [.agg [.i j.ps,.p (.data 1 n (j.bs.map bt)),.i j.page,.i j.gen,.i j.tail,.b j.torn],.p (.data 1 m (b.map bt)),.i budget] (zC (ey j b budget)):=by
 apply ba f168 [0,1,2,3,6,7,8,9,10,11,21,36,45,74];intro c J y Y Z;refine δ (ju j n hn g) ?_;simp only[go_sem,J];obtain⟨R,hR⟩:∃R,ey j b budget=R:=⟨_,rfl⟩;rw[hR] at Y Z;(try rw[hR]);unfold ey at hR;rw[t] at hR;have br:∀e,e≠16->cd ⟨j.ps,j.bs⟩ e=⟨jn0,0,e⟩:=fun e w=>by unfold cd;rw[b0 w]
 split
 .rename_i h;rw[b9 h] at hR;exact ahs
 .rename_i h;rw[b0 h] at hR;have h:aT j=true:=χ;obtain⟨p,k,q,z,A,B,C,D,E,F,H,I,x,-⟩:=cG h;have K:=fP h;have a:¬(1<=m/\m<=256)->R=⟨jn0,0,9⟩:=fun d=>by rw[b9 d] at hR;exact hR.symm
  split
  .split
   .have:=a ω;exact agX
   .rw[b0 ω] at hR;split
    .rename_i l;rw[b9 l] at hR;exact ahs
    .rename_i l;rw[b0 l] at hR;apply aa Z (F7 j n hn g);refine θ ?_;have o:gI j=kF j.ps j.tail j.torn:=by unfold gI;rw[b9 h]
     rw[o];split
     .rename_i r;rw[b9 r] at hR;subst hR;exact ahF
     .rename_i r;rw[b0 r] at hR;apply aa Z (Ak (a' j.gen.toNat) j.gen (fO _ ω ω) b m t ω);simp only[go_sem];apply aa Z (lx j.ps j.bs n j.page j.tail _ (m+10) budget hn g (by rw[cj];omega) ω v);have d:dM ⟨j.ps,j.bs⟩ j.page j.tail (bQ (a' j.gen.toNat) b) budget=dM (flOf j) j.page j.tail (bQ (a' j.gen.toNat) b) budget:=rfl;rw[d];generalize dM (flOf j) j.page j.tail (bQ (a' j.gen.toNat) b) budget=G at *;refine wi ?_;split
      .rename_i s;rw[b9 s] at hR;apply aa Z (cU G.f.ps G.f.bs _ G.err rfl);have d:cd ⟨G.f.ps,G.f.bs⟩ G.err=R:=hR;rw[d];simp only[go_sem,J]
      .rename_i s;rw[b0 s] at hR;subst hR;rw[ab (n:=j.tail+10) ω ω,ab ω ω];simp only[and_self]
  .have:=a ω;exact agX
def dE(f:Fl)(budget:Int):List JOp->FR
 |[]=>⟨f,budget,0⟩
 |o::r=>if(ed f budget o).err≠0 then ed f budget o else dE (ed f budget o).f (ed f budget o).left r
def cr(f:Fl)(budget:Int):JR :=
 if dQ f≠0 then⟨jn0,0,dQ f⟩ else
 if(dE f budget [.er 0,.er 1,.wr 0 0 (headM 1)]).err≠0 then cd (dE f budget [.er 0,.er 1,.wr 0 0 (headM 1)]).f (dE f budget [.er 0,.er 1,.wr 0 0 (headM 1)]).err
 else⟨(mountM (dE f budget [.er 0,.er 1,.wr 0 0 (headM 1)]).f).j,(dE f budget [.er 0,.er 1,.wr 0 0 (headM 1)]).left,0⟩
theorem cf(f:Fl)(budget:Int)(o:JOp)(r:List JOp)(G:FR)(h:ed f budget o=G):dE f budget (o::r)=if G.err≠0 then G else dE G.f G.left r:=by
 rw[<-h];rfl
theorem HW(ps:Int)(bs:List UInt8)(n:Nat)(budget:Int)(l:bs.length=n)(q:n<1000000000)(r:i64 budget) :
 FPure prog 191 [.agg [.i ps,.p (.data 1 n (bs.map bt))],.i budget] (zC (cr ⟨ps,bs⟩ budget)):=by
 apply ba f191 [0,1,2,4,5,6,7,8,9,14,27,41,50,60];intro c J D Y Z;refine δ (mE ps n _ q) ?_;simp only[go_sem,J];obtain⟨R,b⟩:∃R,cr ⟨ps,bs⟩ budget=R:=⟨_,rfl⟩;rw[b] at Y Z;(try rw[b]);unfold cr at b;have s:∀e,e≠16->cd ⟨ps,bs⟩ e=⟨jn0,0,e⟩:=fun e w=>by unfold cd;rw[b0 w]
 have m:cu ps n≠16:=by unfold cu;split<;>(try split)<;>decide
 split
 .rename_i h;have o:dQ ⟨ps,bs⟩=cu ps n:=by unfold dQ;simp only[l];rw[b9 h]
  rw[o,b9 h] at b;subst b;apply aa Z (cU ps bs n _ l);rw[s _ m];simp only[go_sem,J]
 .rename_i h;have⟨p,k,E,x,y,z,A,B⟩:=gd (show cu ps n=0 by omega)
  (try go_unwrap)
  split
  .have o:dQ ⟨ps,bs⟩=4:=by unfold dQ;simp only[l];rw[b0 h,b9 ω]
   rw[o,b9 ε] at b;subst b;apply aa Z (cU ps bs n 4 l);rw[s 4 ε];simp only[go_sem,J]
  .have o:dQ ⟨ps,bs⟩=0:=by unfold dQ;simp only[l];rw[b0 h,b0 ω]
   rw[o,b0 ε] at b;obtain⟨X,a⟩:∃X,dE ⟨ps,bs⟩ budget [.er 0,.er 1,.wr 0 0 (headM 1)]=X:=⟨_,rfl⟩
   rw[a] at b;have fin:∀(G:FR),G.err≠0->G=X->cd ⟨G.f.ps,G.f.bs⟩ G.err=R:=fun G h1 h2=>by subst h2;rw[b9 h1] at b;exact b
   apply aa Z (uX ps bs n 0 budget l q r);have h1:=gJ (f:=⟨ps,bs⟩) (budget:=budget) (.er 0) r (by show bs.length<_;omega) trivial;have t:ed ⟨ps,bs⟩ budget (.er 0)=eR ⟨ps,bs⟩ 0 budget:=rfl;generalize eR ⟨ps,bs⟩ 0 budget=G1 at *;rw[t] at h1;simp only at h1;rw[cf _ _ _ _ _ t] at a;simp only[go_sem,J];split
   .rename_i d;rw[b0 (fun e=>e d)] at a;apply aa Z (uX G1.f.ps G1.f.bs _ 1 G1.left rfl ω h1.1);have h2:=gJ (f:=G1.f) (budget:=G1.left) (.er 1) h1.1 ω trivial;have u:ed G1.f G1.left (.er 1)=eR ⟨G1.f.ps,G1.f.bs⟩ 1 G1.left:=rfl;generalize eR ⟨G1.f.ps,G1.f.bs⟩ 1 G1.left=G2 at *;rw[u] at h2;rw[cf _ _ _ _ _ u] at a;simp only[go_sem,J];split
    .rename_i g;rw[b0 (fun e=>e g)] at a;apply aa Z (rM 1 1 rfl);simp only[go_sem];apply aa Z (lx G2.f.ps G2.f.bs _ 0 0 (headM 1) 16 G2.left rfl ω (cX _) ε h2.1);have C:=gJ (f:=G2.f) (budget:=G2.left) (.wr 0 0 (headM 1)) h2.1 ω (by show(headM 1).length<_;rw[cX];decide);have v:ed G2.f G2.left (.wr 0 0 (headM 1))=dM ⟨G2.f.ps,G2.f.bs⟩ 0 0 (headM 1) G2.left:=rfl;generalize dM ⟨G2.f.ps,G2.f.bs⟩ 0 0 (headM 1) G2.left=G3 at *;rw[v] at C;rw[cf _ _ _ _ _ v] at a;refine wi ?_;split
     .rename_i j;rw[b9 j] at a;apply aa Z (cU G3.f.ps G3.f.bs _ G3.err rfl);rw[fin G3 j a];simp only[go_sem,J]
     .rename_i j;rw[b0 j] at a;simp only[dE] at a;subst a;rw[b0 (fun e=>e rfl)] at b;apply aa Z (uZ G3.f.ps G3.f.bs _ rfl ω);subst b;simp only[go_sem,J]
    .rename_i g;rw[b9 g] at a;apply aa Z (cU G2.f.ps G2.f.bs _ G2.err rfl);rw[fin G2 g a];simp only[go_sem,J]
   .rename_i d;rw[b9 d] at a;apply aa Z (cU G1.f.ps G1.f.bs _ G1.err rfl);rw[fin G1 d a];simp only[go_sem,J]
def cW(ps pages:Int):Fl:=if ps<512\/8192<ps\/pages<1\/8<pages then⟨0,[]⟩ else⟨ps,m' (ps*pages).toNat 255⟩
def mF(ps pages:Int):Int:=if ps<512\/8192<ps\/pages<1\/8<pages then 9 else 0
theorem Eu(ps a:Int):FPure prog 119 [.i ps,.i a] (.tup [PK (cW ps a),.i (mF ps a)]):=by
 apply ba f119 [0,1,4,5,6,7,21,29];intro c J g Y Z;simp only[go_sem,J];obtain⟨F,b⟩:∃F,cW ps a=F:=⟨_,rfl⟩
 obtain⟨e,d⟩:∃e,mF ps a=e:=⟨_,rfl⟩;rw[b,d] at Y Z⊢;unfold cW at b;unfold mF at d;have bad:(ps<512\/8192<ps\/a<1\/8<a)->F=⟨0,[]⟩/\e=9:=fun h=>by rw[b9 h] at b d;exact⟨b.symm,d.symm⟩
 split
 .split
  .split
   .split
    .exact ahH
    .rw[b0 ω] at b d;subst b d;obtain⟨p,rfl⟩:=i0 (show 0<=ps by omega);obtain⟨k,rfl⟩:=i0 (show 0<=a by omega);have j:p*k<=8192*8:=c' ω ω;have f:((p:Int)*(k:Int)).toNat=p*k:=by(have e:(p:Int)*(k:Int)=((p*k:Nat):Int):=by simp);rw[e];omega
     rw[f] at Y Z;apply aX bP;refine ay Y g [0,1,4,5,6,7,21,29] (p*k) (fun i=>⟨38,[(0,.i p),(1,.i k),(4,.ptr 0 0),(6,.ptr 1 0),(7,.i i)],[(2,some ⟨bP,cb (m' i 255)⟩),(1,some ⟨30,[.i p,.sl 2 0 i 1]⟩),(0,some ⟨30,[.i 0,.p (.v (.slice none 0 0))]⟩)],3⟩) [] (fun i=>i) ?_ ?_
     .refine⟨rfl,?_,?_,rfl,rfl,trivial,fun i h=>h⟩
      .exact κ
      .simp only[go_sem,List.replicate_zero,wK]
     .intro i l;have hs:cb (m' i 255)++[.p (.v (.int .u8 255))]=cb (m' (i+1) 255):=by
       rw[List.replicate_succ',<-fZ];rfl
      simp only[go_sem,J,j3 p k ω,hs];split
      ·(try go_unwrap)
       refine⟨⟨ω,ω⟩,ω,aA [0,1,4] rfl ?_ ?_ rfl rfl (c7 _)⟩
       .simp only[go_sem];omega
       .exact agP
      .obtain rfl:i=p*k:=by omega
       simp only[cD (f' (List.length_replicate)),and_self,c7]
   .exact ahH
  .exact ahH
 .exact ahH
theorem ly(page:List UInt8)(g:UInt64):∀(f b a:Nat),page.length<a+f->page.length<a+b->dq page g f a=dq page g b a
 |0,0,a,_,_=>rfl
 |0,b+1,a,h,_=>by
  have:cI page g a=[]:=by unfold cI;rw[b9 ω]
  simp[dq,this]
 |f+1,0,a,_,h=>by
  have:cI page g a=[]:=by unfold cI;rw[b9 ω]
  simp[dq,this]
 |f+1,b+1,a,h,h'=>by
  simp only[dq];split
  .rfl
  .rename_i c;have:=lK page g a c;rw[ly page g f b _ ω ω]
def scanA(page:List UInt8)(g:UInt64)(a:Nat):List (List UInt8)×Nat:=dq page g (page.length+1) a
theorem nz(page:List UInt8)(g:UInt64)(h:1<=page.length):du page g=scanA page g 16:=ly page g _ _ _ ω ω
theorem eI(page:List UInt8)(g:UInt64)(a:Nat)(h:cI page g a=[]):scanA page g a=([],a):=by
 unfold scanA;simp only[dq,h,if_true]
theorem hJ(page:List UInt8)(g:UInt64)(a:Nat)(h:cI page g a≠[]) :
 scanA page g a=(cI page g a::(scanA page g (a+10+(cI page g a).length)).1,(scanA page g (a+10+(cI page g a).length)).2):=by
 unfold scanA;have b:=lK page g a h;rw[show dq page g (page.length+1) a=(cI page g a::(dq page g page.length (a+10+(cI page g a).length)).1,(dq page g page.length (a+10+(cI page g a).length)).2) by simp only[dq,b0 h]];rw[ly page g page.length (page.length+1) _ ω ω]
theorem KP(page:List UInt8)(g:UInt64)(a:Nat)(h:a<=page.length):a<=(scanA page g a).2/\(scanA page g a).2<=page.length:=by
 have:=uV page g (page.length+1) a h;exact⟨this.2,this.1⟩
theorem HX(page:List UInt8)(g:UInt64):∀(m a:Nat),page.length-a<=m->cI page g (scanA page g a).2=[]
 |0,a,h=>by
  have:cI page g a=[]:=by unfold cI;rw[b9 ω]
  rw[eI _ _ _ this];exact this
 |m+1,a,h=>by
  by_cases b:cI page g a=[]
  .rw[eI _ _ _ b];exact b
  .rw[hJ _ _ _ b];have:=lK page g a b;exact HX page g m _ ω
structure Agree(t:Nat)(x y:List UInt8):Prop where
 len:x.length=y.length
 get:∀i,i<t->x.getD i 0=y.getD i 0
theorem Agree.cut{t:Nat}{x y:List UInt8}(h:Agree t x y){a m:Nat}(d:a+m<=t):(x.drop a).take m=(y.drop a).take m:=by
 apply l'
 .simp[h.len]
 .intro i h1 h2;have e:i<m:=by simp at h1;omega
  have b:a+i<x.length:=by simp at h1;omega
  have c:a+i<y.length:=by simp at h2;omega
  have:=h.get (a+i) ω;simp only[List.getElem_take,List.getElem_drop];simpa[cR,b,c] using this
theorem Agree.lenA{t:Nat}{x y:List UInt8}(h:Agree t x y){a:Nat}(ha:a+2<=t):aF x a=aF y a:=by
 unfold aF;rw[h.get a ω,h.get (a+1) ω]
theorem xL{page:List UInt8}{g:UInt64}{a:Nat}(h:cI page g a≠[]):cI page g a=(page.drop (a+2)).take (aF page a)/\a+10+aF page a<=page.length/\1<=aF page a/\aF page a<=256/\(cI page g a).length=aF page a /\
 (page.drop (a+2+aF page a)).take 8=rL g ((page.drop (a+2)).take (aF page a)):=by
 unfold cI at h⊢;split at h
 .exact s5 rfl h
 .rename_i h1;rw[b0 h1];split at h
  .exact s5 rfl h
  .rename_i h2;rw[b0 h2];split at h
   .exact s5 rfl h
   .rename_i b;rw[b0 b];exact⟨rfl,ω,ω,ω,ζ,by simpa using b⟩
theorem zH{page:List UInt8}{g:UInt64}{a n:Nat}(b:aF page a=n)(h1:a+10+n<=page.length)(h2:1<=n)(d:n<=256)(c:(page.drop (a+2+n)).take 8=rL g ((page.drop (a+2)).take n)):cI page g a=(page.drop (a+2)).take n:=by
 subst b;unfold cI;rw[b0 ω,b0 ω,b0 (fun e=>e c)]
theorem Agree.pay{t:Nat}{x y:List UInt8}(h:Agree t x y){g:UInt64}{a:Nat}(i:cI x g a≠[])(j:a+10+(cI x g a).length<=t):cI y g a=cI x g a:=by
 have⟨k,l,c,d,e,b⟩:=xL i;have f:=h.lenA (a:=a) ω;rw[k,f];rw[f] at l c d e b;rw[e] at j;rw[h.cut (show a+2+aF y a<=t by omega),h.cut (show a+2+aF y a+8<=t by omega)] at b;rw[h.cut (show a+2+aF y a<=t by omega)];exact zH rfl (by rw[<-h.len];omega) c d b
theorem oL{x y:List UInt8}{g:UInt64}:∀(m a:Nat),x.length-a<=m->Agree (scanA x g a).2 x y->scanA y g a=((scanA x g a).1++(scanA y g (scanA x g a).2).1,(scanA y g (scanA x g a).2).2)
 |0,a,h,hag=>by
  have b:cI x g a=[]:=by unfold cI;rw[b9 ω]
  rw[eI _ _ _ b];simp
 |m+1,a,h,hag=>by
  by_cases b:cI x g a=[]
  .rw[eI _ _ _ b];simp
  .have e:=hJ x g a b;have c:=lK x g a b;have d:=KP x g (a+10+(cI x g a).length) c.1;rw[e] at hag;have f:cI y g a=cI x g a:=hag.pay b d.1;have i:=oL m (a+10+(cI x g a).length) ω hag;rw[hJ y g a (by rw[f];exact b),f,i,e];simp
theorem eO(x y:List UInt8)(i:Nat):(x++y).getD i 0=if i<x.length then x.getD i 0 else y.getD (i-x.length) 0:=by
 simp only[cR,List.getElem?_append];split<;>rfl
theorem rn(w:UInt64):∀k i,i<k->(dc w k).getD i 0=(fu w (56-8*i)).toUInt8
 |0,i,h=>by omega
 |k+1,i,h=>by
  simp only[dc,eO,az];split
  .exact rn w k i ‹_›
  .obtain rfl:i=k:=by omega
   simp
theorem F8(w:UInt64)(r:List UInt64):an (w::r) 1=dc w 8:=by simp[an]
theorem F9(w v:UInt64)(r:List UInt64):an (w::v::r) 2=dc w 8++dc v 8:=by simp[an]
theorem jX{x y:List UInt8}:∀k,(∀i,i<k->x.getD i 0=y.getD i 0)->aB x k=aB y k
 |0,_=>rfl
 |k+1,h=>by simp only[aB];rw[jX k fun i a=>h i ω,h k ω]
theorem hY(x:List UInt8):∀k,k<=8->(aB x k).toNat<2^(8*k)
 |0,_=>by simp[aB]
 |k+1,h=>by
  have b:=hY x k ω;simp only[aB,UInt64.toNat_or,eJ,gr,z'];have c:=(x.getD k 0).toNat_lt;have a:2^(8*(k+1))=2^(8*k)*256:=by rw[Nat.mul_add,j']
  have d:2^(8*(k+1))<=2^64:=i' ε ω;refine Nat.or_lt_two_pow ?_ ?_
  .have:(aB x k).toNat*2^8<2^(8*(k+1)):=by rw[a];omega
   omega
  .have:256<=2^(8*(k+1)):=by rw[a];have:=Nat.one_le_two_pow (n:=8*k);omega
   omega
theorem jv(x:List UInt8)(k:Nat)(h:k<8):(aB x (k+1)).toNat=(aB x k).toNat*256+(x.getD k 0).toNat:=by
 have b:=hY x k ω;have c:=(x.getD k 0).toNat_lt;have h8:2^(8*(k+1))=2^(8*k)*256:=by rw[Nat.mul_add,j']
 have d:2^(8*(k+1))<=2^64:=i' ε ω;simp only[aB,UInt64.toNat_or,eJ,gr,z'];have a:(aB x k).toNat*2^8<2^64:=by
  have:(aB x k).toNat*2^8<2^(8*(k+1)):=by rw[h8];omega
  omega
 rw[ie a,Nat.mul_comm,<-Nat.two_pow_add_eq_or_of_lt ω,Nat.mul_comm]
theorem xM(w:UInt64):∀k,k<=8->(aB (dc w 8) k).toNat=w.toNat/2^(64-8*k)
 |0,_=>by
  have:=w.toNat_lt;simp only[aB,Nat.mul_zero,Nat.sub_zero];rw[Nat.div_eq_of_lt this];rfl
 |k+1,h=>by
  rw[jv _ _ ω,xM w k ω,rn w 8 k ω];simp only[fu];have hw:=w.toNat_lt;rw[b',gr];have e:64-8*k=(64-8*(k+1))+8:=ω;have a:56-8*k=64-8*(k+1):=ω;rw[a,e,j'];generalize hd:w.toNat/2^(64-8*(k+1))=d;exact ahr
theorem Ga(w:UInt64):aB (dc w 8) 8=w:=by
 apply s9.1;rw[xM w 8 (c7 _)];simp
theorem u4(g:UInt64)(r:List UInt8):aB (headM g++r) 8=g:=by
 have:aB (headM g++r) 8=aB (dc g 8) 8:=by
  refine jX 8 fun i a=>?_
  rw[eO,cX,b9 ω];unfold headM;rw[F9,eO,az,b9 a]
 rw[this,Ga]
theorem Gb{page:List UInt8}{g:UInt64}(h:page.take 16=headM g)(h1:1<=g.toNat)(h2:g.toNat<=1099511627776):bz page=g.toNat:=by
 have a:aB page 8=g:=by
  rw[<-gt page 16 8 ε,h];have:=u4 g []
  rwa [List.append_nil] at this
 unfold bz;rw[a,b0];rintro(h|h|h)
 .omega
 .omega
 .exact h ‹_›
theorem HY{x y:List UInt8}(h:x.take 16=y.take 16):bz x=bz y:=by
 have a:aB x 8=aB y 8:=by rw[<-gt x 16 8 ε,h,gt y 16 8 ε]
 unfold bz;rw[a,h]
def wrsM(page:Int)(g:UInt64):Nat->List (List UInt8)->List JOp
 |_,[]=>[]
 |t,b::l => .wr page t (bQ g b)::wrsM page g (t+10+b.length) l
def iw(j:Jn)(l:List (List UInt8)):List JOp :=
 .er (1-j.page)::(wrsM (1-j.page) (a' (j.gen+1).toNat) 16 l++[.wr (1-j.page) 0 (headM (a' (j.gen+1).toNat))])
def lz(j:Jn)(l:List (List UInt8))(X:FR):JR :=
 if X.err≠0 then cd X.f X.err else⟨⟨X.f.ps,X.f.bs,1-j.page,j.gen+1,((16+bF l:Nat):Int),false⟩,X.left,0⟩
def be(j:Jn)(l:List (List UInt8))(budget:Int):JR :=
 if aT j=false then⟨jn0,0,18⟩ else
 if ee l=false then⟨jn0,0,9⟩ else
 if j.ps<16+(bF l:Int) then⟨jn0,0,12⟩ else
 if 1099511627776<=j.gen then⟨jn0,0,13⟩ else
 lz j l (dE (flOf j) budget (iw j l))
theorem Ev(l:List (List UInt8))(i:Nat)(h:i<l.length):l.drop i=l.getD i []::l.drop (i+1):=by
 rw[hE h];simp[cR,h]
structure aa9(j:Jn)(l:List (List UInt8))(m:Nat)(g:UInt64)(X:FR)(i:Nat)(G:FR)(a:Int):Prop where
 im:i<=m
 left:i64 G.left
 len:G.f.bs.length<1000000000
 good:G.err=0->a=((16+bF (l.take i):Nat):Int)/\X=dE G.f G.left (wrsM (1-j.page) g (16+bF (l.take i)) (l.drop i)++[.wr (1-j.page) 0 (headM g)])
 bad:G.err≠0->X=G
def ajh:List Nat:=[0,1,2,3,6,7,8,9,10,11,12,13,14,15,16,17,20,30,46,63,78,87,116,143,155]
attribute[go_sem]ajh
theorem oM(j:Jn)(n:Nat)(l:List (List UInt8))(m:Nat)(budget:Int)(hn:j.bs.length=n)(S:n<1000000000)(hm:l.length=m)(U:m<1000000)(K:∀b,b∈l->b.length<1000000)(T:i64 budget) :
 FPure prog 170 [.agg [.i j.ps,.p (.data 1 n (j.bs.map bt)),.i j.page,.i j.gen,.i j.tail,.b j.torn],.p (.data 1 m (l.map byP)),.i budget] (zC (be j l budget)):=by
 refine ba f170 ajh ?_;intro c J L Y Z;refine δ (ju j n hn S) ?_;simp only[go_sem,J];obtain⟨R,hR⟩:∃R,be j l budget=R:=⟨_,rfl⟩;rw[hR] at Y Z;(try rw[hR]);unfold be at hR;have br:∀e,e≠16->cd ⟨j.ps,j.bs⟩ e=⟨jn0,0,e⟩:=fun e r=>by unfold cd;rw[b0 r]
 split
 .rename_i h;rw[b9 h] at hR;exact ahs
 .rename_i h;rw[b0 h] at hR;have h:aT j=true:=χ;obtain⟨p,k,q,M,D,e3,e4,e5,e6,e7,e8,e9,V,-⟩:=cG h;have W:=zF l K
  refine bl Y L ajh (α:={ i:Nat // i<=m/\ee (l.take i)=true}) (fun i=>⟨168,[(1,.p (.data 1 m (l.map byP))),(2,.i budget),(3,.ptr 0 0),(6,.ptr 1 0),(7,.i 0),(8,.i 0),(9,.i 16),(10,.i i.1)],
   [(1,some ⟨32,[.i 0,.p (.v (.slice none 0 0)),.i 0,.i 0,.i 0,.b false]⟩),(0,some ⟨32,[.i j.ps,.p (.data 1 n (j.bs.map bt)),.i j.page,.i j.gen,.i j.tail,.b j.torn]⟩)],2⟩) (fun i=>m-i.1) ⟨0,gi _,by simp[ee]⟩ [] (fun i=>i) ?_ ?_
  .exact afM
  .rintro⟨i,hi,hs⟩;simp only[go_sem,J,bC,byP];have w:¬(1<=(l.getD i []).length/\(l.getD i []).length<=256)->i<m->R=⟨jn0,0,9⟩:=fun h2 hi=>by
    rw[b9 (xJ ω h2)] at hR;exact hR.symm
   split
   .rename_i him;refine⟨⟨ω,ω⟩,ω,?_⟩;split
    .refine⟨⟨ω,ω⟩,ω,?_⟩;split
     .have:=w ω ω;exact agX
     .have s:=jt l i ω
      (try go_unwrap)
      refine⟨⟨i+1,ω,?_⟩,by show m-(i+1)<m-i;omega,eh rfl ?_ ?_ rfl rfl (c7 _)⟩
      .rw[s];unfold ee at hs⊢;rw[r',hs];simp only[s',t',w',Bool.and_true,decide_eq_true_eq];omega
      .simp only[go_sem];omega
      .exact κ
    .have:=w ω ω;exact agX
   .obtain rfl:i=m:=by omega
    rw[cD ω] at hs;rw[b0 (by rw[hs];decide)] at hR;clear w
    refine bl Y L ajh (α:={ a:Nat // a<=i}) (fun a=>⟨168,[(1,.p (.data 1 i (l.map byP))),(2,.i budget),(3,.ptr 0 0),(6,.ptr 1 0),(7,.i 0),(8,.i 0),(9,.i ((16+bF (l.take a.1):Nat):Int)),(11,.i a.1)],
     [(1,some ⟨32,[.i 0,.p (.v (.slice none 0 0)),.i 0,.i 0,.i 0,.b false]⟩),(0,some ⟨32,[.i j.ps,.p (.data 1 n (j.bs.map bt)),.i j.page,.i j.gen,.i j.tail,.b j.torn]⟩)],2⟩) (fun a=>i-a.1) ⟨0,gi _⟩ [] (fun i=>i) ?_ ?_
    .exact aig
    .rintro⟨a,ha⟩;have N:=hC l a;simp only[go_sem,J,bC,byP];have o:j.ps<16+(bF l:Int)->R=⟨jn0,0,12⟩:=fun h2=>by rw[b9 h2] at hR;exact hR.symm
     split
     .split
      .refine⟨⟨ω,ω⟩,ω,?_⟩;have s:=jt l a ω;have y:=hC l (a+1);rw[s,fE] at y;simp only[bF] at y
       (try go_unwrap)
       refine⟨⟨a+1,ω⟩,by show i-(a+1)<i-a;omega,eh rfl ?_ ?_ rfl rfl (c7 _)⟩
       .simp only[go_sem,s,fE,bF];omega
       .exact κ
      .rw[b9 ω];have:=o ω;subst this;exact ahF
     .obtain rfl:a=i:=by omega
      rw[cD ω] at N⊢;split
      .have:=o ω;subst this;exact ahF
      .rw[b0 ω] at hR;clear o;split
       .rename_i O;rw[b9 O] at hR;subst hR;refine aa Z (cU j.ps j.bs n 13 hn) ?_;rw[br 13 ε];simp only[go_sem,J]
       .rename_i O;rw[b0 O] at hR;refine⟨π,?_⟩;rw[ab (n:=1-j.page) ω ω,ab (n:=j.gen+1) ω ω];have E:=fO (j.gen+1) ω ω;obtain⟨X,C⟩:∃X,dE (flOf j) budget (iw j l)=X:=⟨_,rfl⟩
        rw[C] at hR;unfold iw at C;refine aa Z (uX j.ps j.bs n (1-j.page) budget hn S T) ?_;have h1:=gJ (f:=flOf j) (budget:=budget) (.er (1-j.page)) T (by show j.bs.length<_;omega) trivial;have M:ed (flOf j) budget (.er (1-j.page))=eR ⟨j.ps,j.bs⟩ (1-j.page) budget:=rfl;generalize eR ⟨j.ps,j.bs⟩ (1-j.page) budget=G1 at *;rw[M] at h1;rw[cf _ _ _ _ _ M] at C;generalize hg:a' (j.gen+1).toNat=g at *;refine θ ?_;have hlj:(flOf j).bs.length=n:=hn
        refine bl Y L ajh (α:={ x:Nat×FR×Int // aa9 j l a g X x.1 x.2.1 x.2.2}) (fun x=>⟨168,[(1,.p (.data 1 a (l.map byP))),(2,.i x.1.2.1.left),(3,.ptr 0 0),(6,.ptr 1 0),(7,.i 0),(8,.i 0),(12,.i (1-j.page)),(13,.i (j.gen+1)),(14,.i x.1.2.2),(15,.ptr 2 0),(16,.i x.1.2.1.err),(17,.i x.1.1)],
         (2,some ⟨30,[.i x.1.2.1.f.ps,.p (.data 1 x.1.2.1.f.bs.length (x.1.2.1.f.bs.map bt))]⟩)::[(1,some ⟨32,[.i 0,.p (.v (.slice none 0 0)),.i 0,.i 0,.i 0,.b false]⟩),(0,some ⟨32,[.i j.ps,.p (.data 1 n (j.bs.map bt)),.i j.page,.i j.gen,.i j.tail,.b j.torn]⟩)],3⟩) (fun x=>a-x.1.1) ⟨(0,G1,16),?_⟩ [] (fun i=>i) ?_ ?_
        .refine⟨gi _,h1.1,by show G1.f.bs.length<_;omega,fun r=>⟨by simp[bF],?_⟩,fun r=>?_⟩
         .rw[b0 (fun e=>e r)] at C;rw[<-C];simp[bF]
         .rw[b9 r] at C;exact C.symm
        .exact afM
        .rintro⟨⟨b,G,t⟩,P⟩;have⟨Q,A,z,u,B⟩:=P;simp only at Q A z u B;simp only[go_sem,J,bC,byP];have fin:G.err≠0->cd ⟨G.f.ps,G.f.bs⟩ G.err=R:=fun r=>by
          rw[B r] at hR;unfold lz at hR;rw[b9 r] at hR;exact hR
         split
         .split
          .rename_i hG;obtain⟨rfl,d⟩:=u hG;refine⟨⟨ω,ω⟩,ω,?_⟩;have hel:1<=(l.getD b []).length/\(l.getD b []).length<=256:=uW hs (by rw[show l.getD b []=l[b]'ω from by simp[cR,show b<l.length by omega]];exact ix _);refine aa Z (Ak g (j.gen+1) E (l.getD b []) _ rfl ω) ?_;simp only[go_sem];refine aa Z (lx G.f.ps G.f.bs _ (1-j.page) _ (bQ g (l.getD b [])) _ G.left rfl z (by rw[cj]) ω A) ?_;have D:ed G.f G.left (.wr (1-j.page) ((16+bF (l.take b):Nat):Int) (bQ g (l.getD b [])))=dM ⟨G.f.ps,G.f.bs⟩ (1-j.page) ((16+bF (l.take b):Nat):Int) (bQ g (l.getD b [])) G.left:=rfl;have h2:=gJ (f:=G.f) (budget:=G.left) (.wr (1-j.page) ((16+bF (l.take b):Nat):Int) (bQ g (l.getD b []))) A z (by show(bQ g (l.getD b [])).length<_;rw[cj];omega);rw[Ev l b ω] at d;simp only[wrsM,o'] at d;rw[cf _ _ _ _ _ D] at d;rw[D] at h2;generalize dM ⟨G.f.ps,G.f.bs⟩ (1-j.page) ((16+bF (l.take b):Nat):Int) (bQ g (l.getD b [])) G.left=H at *;simp only[go_sem,J,bC,byP];have s:=jt l b ω;have y:=hC l (b+1);rw[s,fE] at y;simp only[bF] at y;have F:bF (l.take (b+1))=bF (l.take b)+10+(l.getD b []).length:=by rw[s,fE];simp only[bF];omega
           refine⟨π,⟨ω,ω⟩,ω,?_⟩
           (try go_unwrap)
           refine⟨⟨(b+1,H,((16+bF (l.take (b+1)):Nat):Int)),⟨by show b+1<=a;omega,h2.1,Nat.lt_of_le_of_lt h2.2 z,fun r=>⟨rfl,?_⟩,fun r=>?_⟩⟩,by show a-(b+1)<a-b;omega,eh rfl ?_ ?_ rfl rfl (c7 _)⟩
           .have r:H.err=0:=r;rw[b0 (fun e=>e r)] at d;rw[d,F,<-d',<-d']
           .have r:H.err≠0:=r;rw[b9 r] at d;exact d
           .simp only[go_sem,F];omega
           .exact κ
          .exact aie
         .obtain rfl:b=a:=by omega
          split
          .rename_i hG;obtain⟨rfl,d⟩:=u hG;rw[cD ω,l2 ω] at d;simp only[wrsM,List.nil_append] at d;refine aa Z (rM g (j.gen+1) E) ?_;simp only[go_sem];refine aa Z (lx G.f.ps G.f.bs _ (1-j.page) 0 (headM g) 16 G.left rfl z (cX _) ε A) ?_;have D:ed G.f G.left (.wr (1-j.page) 0 (headM g))=dM ⟨G.f.ps,G.f.bs⟩ (1-j.page) 0 (headM g) G.left:=rfl;rw[cf _ _ _ _ _ D] at d;generalize dM ⟨G.f.ps,G.f.bs⟩ (1-j.page) 0 (headM g) G.left=H at *;refine θ ?_;refine⟨π,?_⟩;unfold lz at hR;split
           .rename_i I;rw[b9 I] at d;rw[d,b9 I] at hR;refine aa Z (cU H.f.ps H.f.bs _ H.err rfl) ?_;have hx:cd ⟨H.f.ps,H.f.bs⟩ H.err=R:=hR;rw[hx];simp only[go_sem,J]
           .rename_i I;rw[b0 I] at d;simp only[dE] at d;subst d;rw[b0 (fun e=>e rfl)] at hR;subst hR;rw[cD ω];simp only[and_self]
          .exact aie
theorem BP(ch:Nat->UInt8->UInt8)(bs:List UInt8)(a:Nat):∀(m i:Nat),a+m<=bs.length->(eg ch bs a m).getD i 0=if a<=i/\i<a+m then ch (i-a) (bs.getD i 0) else bs.getD i 0
 |0,i,_=>by rw[b0 ω];rfl
 |m+1,i,h=>by
  have b:=BP ch bs a m;simp only[eg];have d:=ge ch bs a m;by_cases c:i=a+m
  .subst c;rw[b9 ω];have e:((eg ch bs a m).set (a+m) (ch m ((eg ch bs a m).getD (a+m) 0))).getD (a+m) 0=ch m ((eg ch bs a m).getD (a+m) 0):=by
    simp[cR,show a+m<(eg ch bs a m).length by omega]
   rw[e,b (a+m) ω,b0 ω,show a+m-a=m by omega]
  .have e:((eg ch bs a m).set (a+m) (ch m ((eg ch bs a m).getD (a+m) 0))).getD i 0=(eg ch bs a m).getD i 0:=by
    simp[cR,List.getElem?_set_ne (fun e=>c e.symm)]
   rw[e,b i ω];by_cases h2:a<=i/\i<a+m
   .rw[b9 h2,b9 ω]
   .rw[b0 h2,b0 ω]
theorem Gc{f:Fl}{p q:Nat}(h:f.ps=p)(i:Nat):(pgM f q).getD i 0=if i<p then f.bs.getD (q*p+i) 0 else 0:=by
 unfold pgM;simp only[h,h5,cR,l0,List.getElem?_drop];split<;>simp
theorem u5{x y:List UInt8}{a b m:Nat}(d:a+m<=x.length)(e:b+m<=y.length)(h:∀i,i<m->x.getD (a+i) 0=y.getD (b+i) 0):(x.drop a).take m=(y.drop b).take m:=by
 apply l'
 .simp;omega
 .intro i h1 h2;have c:i<m:=by simp at h1;omega
  have:=h i c;simp only[List.getElem_take,List.getElem_drop];simpa[cR,show a+i<x.length by omega,show b+i<y.length by omega] using this
theorem OZ{x y:List UInt8}(a:x.length=y.length)(h:∀i,i<x.length->x.getD i 0=y.getD i 0):x=y:=by
 apply l' a;intro i h1 h2;have:=h i h1;simpa[cR,h1,h2] using this
structure Laid(t r:Nat)(s x y:List UInt8):Prop where
 len:y.length=x.length
 fits:t+r<=x.length
 le:r<=s.length
 get:∀i,y.getD i 0=if t<=i/\i<t+r then s.getD (i-t) 0 else x.getD i 0
theorem Laid.cut{t r:Nat}{s x y:List UInt8}(h:Laid t r s x y){a m:Nat}(b:a+m<=r):(y.drop (t+a)).take m=(s.drop a).take m:=by
 refine u5 (by rw[h.len];have:=h.fits;omega) (by have:=h.le;omega) fun i c=>?_
 rw[h.get,b9 ω,show t+a+i-t=a+i by omega]
theorem Laid.agree{t r:Nat}{s x y:List UInt8}(h:Laid t r s x y):Agree t x y:=⟨h.len.symm,fun i a=>by rw[h.get,b0 ω]⟩
theorem zI(x:UInt8):255 &&& x=x:=by
 apply UInt8.toNat_inj.1;rw[UInt8.toNat_and];have:=x.toNat_lt;show 255 &&& x.toNat=x.toNat;rw[Nat.and_comm,show(255:Nat)=2^8-1 from rfl,Nat.and_two_pow_sub_one_eq_mod];omega
theorem Ty{l:List UInt8}(h:l.all (·==255)=true)(i:Nat)(a:i<l.length):l.getD i 0=255:=by
 rw[p'] at h;have:=h l[i] (ix a);simpa[cR,a] using this
theorem ro{l:List UInt8}(h:∀i,i<l.length->l.getD i 0=255):l.all (·==255)=true:=by
 rw[p'];intro x b;obtain⟨i,a,rfl⟩:=List.mem_iff_getElem.1 b;have:=h i a;simpa[cR,a] using this
theorem mG(l:List UInt8)(t i:Nat):(l.drop t).getD i 0=l.getD (t+i) 0:=by
 simp[cR]
theorem lA{page:List UInt8}{g:UInt64}{a:Nat}(h:∀i,a<=i->i<page.length->page.getD i 0=255):cI page g a=[]:=by
 unfold cI;split
 .rfl
 .have h1:=h a (c7 _) ω;have h2:=h (a+1) ω ω;have:aF page a=65535:=by unfold aF;rw[h1,h2];rfl
  rw[b9 ω]
theorem u6(g:UInt64)(b:List UInt8):(bQ g b).getD 0 0=y' (b.length/256):=rfl
theorem u7(g:UInt64)(b:List UInt8):(bQ g b).getD 1 0=y' b.length:=rfl
theorem zJ(g:UInt64)(b:List UInt8):((bQ g b).drop 2).take b.length=b:=by simp[bQ]
theorem Gd(g:UInt64)(b:List UInt8):((bQ g b).drop (2+b.length)).take 8=rL g b:=by
 have e:(bQ g b).drop (2+b.length)=rL g b:=by
  rw[<-List.drop_drop];simp[bQ]
 rw[e,cD (by rw[mT];decide)]
theorem rq(n:Nat)(h:n<=256):(y' (n/256)).toNat*256+(y' n).toNat=n:=by
 rw[nw,nw];omega
theorem Laid.pay{t r:Nat}{g:UInt64}{b x y:List UInt8}(h:Laid t r (bQ g b) x y)(d:r=b.length+10)(h1:1<=b.length)(h2:b.length<=256):cI y g t=b:=by
 have e:=h.fits;have f:=h.len;have c:aF y t=b.length:=by
  exact ah2
 have a:(y.drop (t+2)).take b.length=b:=by rw[h.cut ω,zJ]
 rw[zH c ω h1 h2 (by rw[a,show t+2+b.length=t+(2+b.length) by omega,h.cut ω,Gd]),a]
theorem HZ{t:Nat}{g:UInt64}{b x y:List UInt8}(h:Laid t (b.length+10) (bQ g b) x y)(h1:1<=b.length)(h2:b.length<=256)(f:(scanA x g 16).2=t)(l:∀i,t<=i->i<x.length->x.getD i 0=255)(m:16<=x.length) :
 scanA y g 16=((scanA x g 16).1++[b],t+10+b.length)/\(y.drop (t+10+b.length)).all (·==255)=true:=by
 have o:=h.len;have p:=h.fits;have a:∀i,t+10+b.length<=i->i<y.length->y.getD i 0=255:=fun i j n=>by
  rw[h.get,b0 ω];exact l i ω ω
 have ha:=oL (x:=x) (y:=y) (g:=g) x.length 16 ω (by rw[f];exact h.agree);have k:=h.pay rfl h1 h2;have c:cI y g t≠[]:=by rw[k];intro e;rw[e] at h1;simp at h1
 have d:=hJ y g t c;rw[k] at d;rw[eI y g _ (lA a)] at d;rw[f,d] at ha;refine⟨ha,ro fun i j=>?_⟩;rw[mG];simp at j;exact a _ ω ω
theorem u9{f:Fl}{p k q t m:Nat}{budget:Int}{ch:Nat->UInt8->UInt8}(c:f.ps=p)(n:f.bs.length=p*k)(g:q<k)(o:t+m<=p)(q':Nat)(b:q'<k)(i:Nat) :
 (pgM (aE f (q*p+t) m budget ch).f q').getD i 0=if q'=q/\t<=i/\i<t+bZ m budget then ch (i-t) ((pgM f q').getD i 0) else(pgM f q').getD i 0:=by
 have r:=kH m budget;have j:=fT (p:=p) g;have d:=fT (p:=p) b;rw[Gc (f:=(aE f (q*p+t) m budget ch).f) (p:=p) c,Gc c];by_cases a:i<p
 .rw[b9 a,b9 a];simp only[aE];rw[BP _ _ _ _ _ ω];by_cases e:q'=q
  .subst e;by_cases h1:t<=i/\i<t+bZ m budget
   .rw[b9 ω,b9 ω,show q'*p+i-(q'*p+t)=i-t by omega]
   .rw[b0 ω,b0 ω]
  .have l:q'*p+p<=q*p\/q*p+p<=q'*p:=by
    rcases ea q' q with h|h
    .left;have:=iy p (show q'+1<=q by omega);rw[Nat.add_mul] at this;omega
    .right;have:=iy p (show q+1<=q' by omega);rw[Nat.add_mul] at this;omega
   rw[b0 ω,b0 (fun h=>e h.1)]
 .rw[b0 a,b0 a,b0 ω]
theorem H0{f:Fl}{p k q a m:Nat}{budget:Int}{ch:Nat->UInt8->UInt8}(b:f.ps=p)(c:f.bs.length=p*k)(d:q<k):(pgM (aE f a m budget ch).f q).length=p :=
 fN (k:=k) b (by simp[aE,ge,c]) d
theorem pN{f:Fl}{p k q:Nat}(e:f.ps=p)(a:512<=p)(b:p<=8192)(g:f.bs.length=p*k)(c:2<=k)(d:k<=8)(j:q<2)(h1:1<=bz (pgM f q))(h2:bz (pgM f (1-q))<=bz (pgM f q))(h:q=1->bz (pgM f 0)<bz (pgM f 1)) :
 mountM f=⟨db f q (bz (pgM f q)),0⟩:=by
 have i:dQ f=0:=by
  unfold dQ;rw[e,g,qd p k a b ω d,b0 ε,b0];have:p*2<=p*k:=Nat.mul_le_mul_left p c;omega
 unfold mountM;rw[i,b0 ε];have:q=0\/q=1:=ω;rcases this with rfl|rfl
 .rw[b0 (by simp at h2;omega),b0 ω]
 .rw[b9 (h rfl)]
theorem i5(f:Fl)(budget:Int)(o:JOp)(r:List JOp)(G:FR)(h:ed f budget o=G):cE f budget (o::r) =
 if G.err=16 then⟨⟨G.f.ps,G.f.bs,0,0,0,false⟩,0,16⟩ else if G.err≠0 then⟨jn0,0,G.err⟩ else cE G.f G.left r:=by
 rw[<-h];rfl
theorem fF(f:Fl)(budget:Int)(M:MR)(h:mountM f=M):cE f budget []=if M.err≠0 then⟨jn0,0,M.err⟩ else⟨M.j,budget,0⟩:=by
 rw[<-h];rfl
theorem oN{j:Jn}(h:mountM (flOf j)=⟨j,0⟩):aT j=true:=by
 unfold aT;rw[h];simp
structure JAt(j:Jn)(p k q t:Nat)(g:UInt64):Prop where
 gen:aT j=true
 ps:(flOf j).ps=p
 p1:512<=p
 p2:p<=8192
 len:(flOf j).bs.length=p*k
 k1:2<=k
 k2:k<=8
 q2:q<2
 page:j.page=q
 tail:j.tail=t
 t16:16<=t
 tp:t<=p
 g1:1<=j.gen
 g2:j.gen<=1099511627776
 gg:a' j.gen.toNat=g
 geq:j.gen=bz (pgM (flOf j) q)
 oth:bz (pgM (flOf j) (1-q))<=j.gen
 one:q=1->bz (pgM (flOf j) 0)<j.gen
 scan:(scanA (pgM (flOf j) q) g 16).2=t
 recs:aZ j=(scanA (pgM (flOf j) q) g 16).1
 torn:j.torn = !((pgM (flOf j) q).drop t).all (·==255)
 mnt:mountM (flOf j)=⟨j,0⟩
theorem JAt.of{j:Jn}(hg:aT j=true):∃p k q t g,JAt j p k q t g:=by
 have⟨p,k,q,m,o,r,n,s,u,v,w,x,b,e,f,h,c,i⟩:=cG hg;have z:=fP hg;have⟨t,d⟩:=i0 (show 0<=j.tail by omega);have y:(pgM (flOf j) q).length=p:=fN (k:=k) m n ω;have l:=nz (pgM (flOf j) q) (a' j.gen.toNat) ω;have a:(scanA (pgM (flOf j) q) (a' j.gen.toNat) 16).2=t:=by
  rw[<-l];have:j.tail=((du (pgM (flOf j) q) (a' j.gen.toNat)).2:Int):=by rw[c];rfl
  rw[d] at this
  exact_mod_cast this.symm
 refine⟨p,k,q,t,a' j.gen.toNat,hg,m,o,r,n,s,u,v,b,d,ω,ω,w,x,rfl,e,f,h,a,?_,?_,i⟩
 .unfold aZ;rw[b9 hg,b,h5,l]
 .have:j.torn = !((pgM (flOf j) q).drop (du (pgM (flOf j) q) (a' j.gen.toNat)).2).all (·==255):=by
   conv=>lhs;rw[c]
   rfl
  rw[l,a] at this;exact this
theorem JAt.pg{j:Jn}{p k q t:Nat}{g:UInt64}(h:JAt j p k q t g){q':Nat}(a:q'<k):(pgM (flOf j) q').length=p:=fN h.ps h.len a
theorem JAt.prog{j:Jn}{p k q t:Nat}{g:UInt64}(h:JAt j p k q t g){s:List UInt8}(hs:t+s.length<=p)(budget:Int):dM (flOf j) j.page j.tail s budget=aE (flOf j) (q*p+t) s.length budget (aN s):=by
 have b:=h.q2;have c:=h.k1;have ha:gb (flOf j) j.page j.tail (s.length:Nat)=0:=by
  have a:flOf j=⟨p,(flOf j).bs⟩:=by rw[<-h.ps]
  rw[a];apply mR (k:=k) h.p1 h.p2 ω h.k2 h.len;rw[h.page,h.tail];exact⟨ω,ω,ω,ω⟩
 rw[qe rfl ha,h.ps,h.page,h.tail];exact ahQ
theorem JAt.erasedTail{j:Jn}{p k q t:Nat}{g:UInt64}(h:JAt j p k q t g)(b:j.torn=false):∀i,t<=i->i<(pgM (flOf j) q).length->(pgM (flOf j) q).getD i 0=255:=by
 have c:=h.torn;rw[b] at c;have a:((pgM (flOf j) q).drop t).all (·==255)=true:=by simpa using c
 intro i h1 h2;have:=Ty a (i-t) ζ;rw[mG,show t+(i-t)=i by omega] at this;exact this
theorem JAt.laid{j:Jn}{p k q t:Nat}{g:UInt64}(h:JAt j p k q t g)(l:j.torn=false){s:List UInt8}(hs:t+s.length<=p)(budget:Int) :
 Laid t (bZ s.length budget) s (pgM (flOf j) q) (pgM (aE (flOf j) (q*p+t) s.length budget (aN s)).f q) /\
 (∀q',q'<k->q'≠q->∀i,(pgM (aE (flOf j) (q*p+t) s.length budget (aN s)).f q').getD i 0=(pgM (flOf j) q').getD i 0) /\
 (∀q',q'<k->(pgM (aE (flOf j) (q*p+t) s.length budget (aN s)).f q').length=p):=by
 have n:=kH s.length budget;have d:=h.q2;have r:=h.k1;have b:=u9 (budget:=budget) (ch:=aN s) h.ps h.len (show q<k by omega) hs;have a:∀q',q'<k->(pgM (aE (flOf j) (q*p+t) s.length budget (aN s)).f q').length=p:=fun q' d=>H0 h.ps h.len d
 have o:=h.erasedTail l;refine⟨⟨by rw[a q ω,h.pg ω],by rw[h.pg ω];omega,n,fun i=>?_⟩,fun q' d m i=>by rw[b q' d,b0 (fun e=>m e.1)],a⟩;rw[b q ω];by_cases c:t<=i/\i<t+bZ s.length budget
 .rw[b9 ⟨rfl,c⟩,b9 c,o i c.1 (by rw[h.pg ω];omega)];exact zI _
 .rw[b0 (fun e=>c e.2),b0 c]
theorem JAt.gens{j:Jn}{p k q t:Nat}{g:UInt64}(h:JAt j p k q t g){d:Fl}(f:∀q',q'<k->(pgM d q').length=p)(ho:∀q',q'<k->q'≠q->∀i,(pgM d q').getD i 0=(pgM (flOf j) q').getD i 0)(ha:∀i,i<16->(pgM d q).getD i 0=(pgM (flOf j) q).getD i 0) :
 ∀q',q'<k->bz (pgM d q')=bz (pgM (flOf j) q'):=fun q' c=>by
 have l:=h.p1;apply HY
 have:=u5 (x:=pgM d q') (y:=pgM (flOf j) q') (a:=0) (b:=0) (m:=16) (by rw[f q' c];omega) (by rw[h.pg c];omega) (fun i n=>by
  by_cases e:q'=q
  .subst e;rw[g'];exact ha i n
  .exact ho q' c e _)
 simpa using this
theorem JAt.mount{j:Jn}{p k q t:Nat}{g:UInt64}(h:JAt j p k q t g){b:Fl}(c:b.ps=p)(d:b.bs.length=p*k)(a:∀q',q'<k->bz (pgM b q')=bz (pgM (flOf j) q')):mountM b=⟨db b q j.gen,0⟩:=by
 have m:=h.q2;have n:=h.k1;have f:=h.geq;have o:=h.g1;have l:=h.oth;have i:=pN (q:=q) c h.p1 h.p2 d h.k1 h.k2 h.q2 (by rw[a q ω];omega) (by rw[a q ω,a (1-q) ω];omega) (fun e=>by subst e;rw[a 0 ω,a 1 ω];have:=h.one rfl;omega);rw[a q ω,<-f] at i;exact i
theorem sG{j:Jn}{p k q t:Nat}{g:UInt64}(h:JAt j p k q t g)(e:j.torn=false){b:List UInt8}(h1:1<=b.length)(h2:b.length<=256)(l:t+(b.length+10)<=p){budget:Int}(u:bZ (bQ g b).length budget=b.length+10)
 {G:FR} (v:aE (flOf j) (q*p+t) (bQ g b).length budget (aN (bQ g b))=G) :
 mountM G.f=⟨⟨G.f.ps,G.f.bs,j.page,j.gen,j.tail+10+b.length,j.torn⟩,0⟩/\aZ ⟨G.f.ps,G.f.bs,j.page,j.gen,j.tail+10+b.length,j.torn⟩=aZ j++[b]:=by
 have B:=h.q2;have C:=h.k1;have A:=h.p1;have⟨c,d,a⟩:=h.laid e (s:=bQ g b) (by rw[cj];exact l) budget;rw[u] at c;have m:G.f.ps=p:=by rw[<-v];exact h.ps
 have n:G.f.bs.length=p*k:=by rw[<-v];simp[aE,ge,h.len]
 rw[v] at c d a;have⟨o,w⟩:=HZ c h1 h2 h.scan (h.erasedTail e) (by rw[h.pg ω];omega);have r:=h.gens a d (fun i D=>by rw[c.get,b0 (by have:=h.t16;omega)]);have x:=h.mount m n r;have y:db G.f q j.gen=⟨G.f.ps,G.f.bs,j.page,j.gen,j.tail+10+b.length,j.torn⟩:=by
  unfold db;rw[h.gg,nz _ _ (by rw[a q ω];omega),o,w,<-h.page,h.tail,e];simp
 rw[y] at x;refine⟨x,?_⟩;have z:aT ⟨G.f.ps,G.f.bs,j.page,j.gen,j.tail+10+b.length,j.torn⟩=true:=oN x;unfold aZ;rw[b9 z];have:=h.recs;unfold aZ at this;rw[this];show(du (pgM G.f j.page.toNat) (a' j.gen.toNat)).1=_;rw[h.page,h5,h.gg,nz _ _ (by rw[a q ω];omega),o]
theorem oO(j:Jn)(b:List UInt8)(budget:Int):b8 j b budget=ey j b budget:=by
 unfold b8 ey;split
 .rfl
 .rename_i hg;have hg:aT j=true:=by simpa using hg
  split
  .rfl
  .rename_i hs;split
   .rfl
   .rename_i d;split
    .rfl
    .rename_i m;have⟨p,k,q,t,g,h⟩:=JAt.of hg;have v:j.ps=p:=h.ps;have r:=h.tail;have w:=h.t16;have x:=h.tp;unfold kF at m;rw[b0 d] at m;have f:t+(b.length+10)<=p:=by
      split at m
      .omega
      .split at m<;>omega
     have d:j.torn=false:=by simpa using d
     rw[h.gg];have o:=h.prog (s:=bQ g b) (by rw[cj];exact f) budget;rw[i5 _ _ _ _ _ (show ed (flOf j) budget (.wr j.page j.tail (bQ g b))=_ from o),o];have i:=fun(a:bZ (bQ g b).length budget=b.length+10)=>sG h d (b:=b) ω ω f a rfl
     have c:(aE (flOf j) (q*p+t) (bQ g b).length budget (aN (bQ g b))).err=eB (bQ g b).length budget:=rfl;generalize aE (flOf j) (q*p+t) (bQ g b).length budget (aN (bQ g b))=G at *;rw[cj] at c i;by_cases a:0<=budget/\budget<((b.length+10:Nat):Int)
     .have l:eB (b.length+10) budget=16:=by unfold eB;rw[b9 a]
      rw[c,l,b9 rfl,b9 ε];unfold cd;rw[b9 rfl]
     .have hp0:eB (b.length+10) budget=0:=by unfold eB;rw[b0 a]
      have n:bZ (b.length+10) budget=b.length+10:=by unfold bZ;rw[b0 a]
      rw[c,hp0,b0 ε,b0 ε];obtain⟨u,-⟩:=i n;rw[fF _ _ _ u,b0 (fun e=>e rfl)];rfl
theorem jY(f:Fl)(budget:Int)(l:List JOp):cE f budget l=if(dE f budget l).err≠0 then cd (dE f budget l).f (dE f budget l).err else cE (dE f budget l).f (dE f budget l).left []:=by
 induction l generalizing f budget with
 |nil =>
  show cE f budget []=if(0:Int)≠0 then cd f 0 else cE f budget [];rw[b0 ε]
 |cons o r c =>
  rw[i5 _ _ _ _ _ rfl];have hs:=cf f budget o r _ rfl;generalize ed f budget o=G at *;by_cases a:G.err=16
  .rw[b9 (show G.err≠0 by omega)] at hs;rw[hs,b9 a,b9 (show G.err≠0 by omega)];unfold cd;rw[b9 a]
  .rw[b0 a];by_cases b:G.err=0
   .rw[b0 (fun e=>e b)] at hs;rw[hs,b0 (fun e=>e b)];exact c _ _
   .rw[b9 b] at hs;rw[hs,b9 b,b9 b];unfold cd;rw[b0 a]
structure VFl(f:Fl)(p k:Nat):Prop where
 ps:f.ps=p
 p1:512<=p
 p2:p<=8192
 len:f.bs.length=p*k
 k1:2<=k
 k2:k<=8
theorem VFl.alter{f:Fl}{p k:Nat}(h:VFl f p k)(a m:Nat)(budget:Int)(ch:Nat->UInt8->UInt8):VFl (aE f a m budget ch).f p k :=
 ⟨h.ps,h.p1,h.p2,by simp[aE,ge,h.len],h.k1,h.k2⟩
theorem VFl.pg{f:Fl}{p k:Nat}(h:VFl f p k){q:Nat}(a:q<k):(pgM f q).length=p:=fN h.ps h.len a
theorem VFl.area{f:Fl}{p k:Nat}(h:VFl f p k){q t m:Nat}(b:q<k)(c:t+m<=p):gb f q t m=0:=by
 have a:f=⟨p,f.bs⟩:=by rw[<-h.ps]
 rw[a];exact mR (k:=k) h.p1 h.p2 (by have:=h.k1;omega) h.k2 h.len ⟨ω,ω,ω,ω⟩
theorem VFl.erase{f:Fl}{p k:Nat}(h:VFl f p k){q:Nat}(a:q<k)(budget:Int):eR f q budget=aE f (q*p+0) p budget (fun _ _=>255):=by
 have ha:=h.area a (t:=0) (m:=0) ω;rw[rK (by exact_mod_cast ha),h.ps,h5];have:((q:Int)*(p:Int)).toNat=q*p:=by(have e:(q:Int)*(p:Int)=((q*p:Nat):Int):=by simp);rw[e];omega
 rw[this];rfl
theorem VFl.prog{f:Fl}{p k:Nat}(h:VFl f p k){q t:Nat}{s:List UInt8}(a:q<k)(b:t+s.length<=p)(budget:Int):dM f q t s budget=aE f (q*p+t) s.length budget (aN s):=by
 rw[qe rfl (h.area a b),h.ps];exact ahQ
theorem VFl.exam{f:Fl}{p k:Nat}(h:VFl f p k):dQ f=0:=by
 unfold dQ;rw[h.ps,h.len,qd p k h.p1 h.p2 (by have:=h.k1;omega) h.k2,b0 ε,b0];have:p*2<=p*k:=Nat.mul_le_mul_left p h.k1;omega
theorem VFl.of{f:Fl}(h:dQ f=0):∃p k,VFl f p k:=by
 have⟨p,k,h1,h2,a,b,c,d⟩:=uU h;exact⟨p,k,h1,h2,a,b,c,d⟩
theorem VFl.page{f:Fl}{p k:Nat}(h:VFl f p k){q t m:Nat}(b:q<k)(c:t+m<=p)(budget:Int)(ch:Nat->UInt8->UInt8){q':Nat}(a:q'<k)(i:Nat) :
 (pgM (aE f (q*p+t) m budget ch).f q').getD i 0=if q'=q/\t<=i/\i<t+bZ m budget then ch (i-t) ((pgM f q').getD i 0) else(pgM f q').getD i 0 :=
 u9 h.ps h.len b c q' a i
theorem sH{m:Nat}{budget:Int}(h:eB m budget=0):bZ m budget=m:=by
 unfold eB at h;unfold bZ;split at h
 .cases h
 .rename_i a;rw[b0 a]
theorem zK(m:Nat)(budget:Int):eB m budget=0\/eB m budget=16:=by unfold eB;split<;>simp
theorem lB{page:List UInt8}(a:page.getD 0 0=255):bz page=0:=by
 have h1:(aB page 1).toNat=255:=by rw[jv _ _ ε,a];simp[aB]
 have step:∀k,k<8->(aB page k).toNat*256<=(aB page (k+1)).toNat:=fun k b=>by rw[jv _ _ b];omega
 have h8:(aB page 7).toNat*256<=(aB page 8).toNat:=step 7 ε;have c:(aB page 6).toNat*256<=(aB page 7).toNat:=step 6 ε;have d:(aB page 5).toNat*256<=(aB page 6).toNat:=step 5 ε;have e:(aB page 4).toNat*256<=(aB page 5).toNat:=step 4 ε;have f:(aB page 3).toNat*256<=(aB page 4).toNat:=step 3 ε;have g:(aB page 2).toNat*256<=(aB page 3).toNat:=step 2 ε;have h2:(aB page 1).toNat*256<=(aB page 2).toNat:=step 1 ε;unfold bz;rw[b9 ω]
theorem Ew{page:List UInt8}{g:UInt64}(h:∀i,16<=i->i<page.length->page.getD i 0=255)(a:16<=page.length):du page g=([],16)/\(page.drop 16).all (·==255)=true:=by
 refine⟨?_,ro fun i b=>?_⟩
 .rw[nz _ _ ω];exact eI _ _ _ (lA h)
 .rw[mG];simp at b;exact h _ ω ω
theorem oP{f:Fl}{p k:Nat}(hv:VFl f p k){budget:Int}(h:(dE f budget [.er 0,.er 1,.wr 0 0 (headM 1)]).err=0) :
 VFl (dE f budget [.er 0,.er 1,.wr 0 0 (headM 1)]).f p k/\mountM (dE f budget [.er 0,.er 1,.wr 0 0 (headM 1)]).f=⟨⟨f.ps,(dE f budget [.er 0,.er 1,.wr 0 0 (headM 1)]).f.bs,0,1,16,false⟩,0⟩:=by
 have E:=hv.k1;have F:=hv.p1;have G:ed f budget (.er 0)=_:=hv.erase (q:=0) ω budget;rw[cf _ _ _ _ _ G] at h⊢;have v:=hv.alter (0*p+0) p budget (fun _ _=>255);have A:∀q',q'<k->∀i,_:=fun q' h i=>hv.page (q:=0) (t:=0) (m:=p) ω ω budget (fun _ _=>255) (q':=q') h i
 have d:(aE f (0*p+0) p budget (fun _ _=>255)).err=eB p budget:=rfl;generalize aE f (0*p+0) p budget (fun _ _=>255)=G1 at *;by_cases l:eB p budget=0
 .rw[d,l,b0 ε] at h;rw[d,l,b0 ε];rw[sH l] at A;have H:ed G1.f G1.left (.er 1)=_:=v.erase (q:=1) ω G1.left;rw[cf _ _ _ _ _ H] at h⊢;have w:=v.alter (1*p+0) p G1.left (fun _ _=>255);have z:∀q',q'<k->∀i,_:=fun q' h i=>v.page (q:=1) (t:=0) (m:=p) ω ω G1.left (fun _ _=>255) (q':=q') h i
  have j:(aE G1.f (1*p+0) p G1.left (fun _ _=>255)).err=eB p G1.left:=rfl;generalize aE G1.f (1*p+0) p G1.left (fun _ _=>255)=G2 at *;by_cases n:eB p G1.left=0
  .rw[j,n,b0 ε] at h;rw[j,n,b0 ε];rw[sH n] at z;have I:ed G2.f G2.left (.wr 0 0 (headM 1))=_:=w.prog (q:=0) (t:=0) (s:=headM 1) ω (by rw[cX];omega) G2.left;rw[cf _ _ _ _ _ I] at h⊢;have c:=w.alter (0*p+0) (headM 1).length G2.left (aN (headM 1));have r:∀q',q'<k->∀i,_:=fun q' h i=>w.page (q:=0) (t:=0) (m:=(headM 1).length) ω (by rw[cX];omega) G2.left (aN (headM 1)) (q':=q') h i
   have o:(aE G2.f (0*p+0) (headM 1).length G2.left (aN (headM 1))).err=eB (headM 1).length G2.left:=rfl;generalize aE G2.f (0*p+0) (headM 1).length G2.left (aN (headM 1))=G3 at *;by_cases u:eB (headM 1).length G2.left=0
   .rw[o,u,b0 ε];simp only[dE];rw[sH u,cX] at r;have D:∀i,i<p->(pgM G2.f 0).getD i 0=255:=fun i K=>by
     rw[z 0 ω,b0 ω,A 0 ω,b9 ω]
    have L:(pgM G3.f 1).getD 0 0=255:=by
     rw[r 1 ω,b0 ω,z 1 ω,b9 ω]
    have M:(pgM G3.f 0).take 16=headM 1:=by
     have:=u5 (x:=pgM G3.f 0) (y:=headM 1) (a:=0) (b:=0) (m:=16) (by rw[c.pg ω];omega) (by rw[cX];omega) (fun i K=>by
      rw[r 0 ω,b9 ω,g',D i ω]
      exact zI _)
     simpa[cD (f' (cX 1))] using this
    have N:bz (pgM G3.f 0)=1:=Gb M ε ε;have P:bz (pgM G3.f 1)=0:=lB L;have O:=pN (q:=0) c.ps c.p1 c.p2 c.len c.k1 c.k2 ε ω (by show bz (pgM G3.f 1)<=_;omega) (fun e=>ω);refine⟨c,?_⟩;rw[O,N]
    have⟨B,C⟩:=Ew (page:=pgM G3.f 0) (g:=a' (1:Int).toNat) (fun i h1 h2=>by
     rw[c.pg ω] at h2
     rw[r 0 ω,b0 ω,D i h2]) (by rw[c.pg ω];omega)
    unfold db;rw[B];simp only[C,x'];have:G3.f.ps=f.ps:=by rw[c.ps,hv.ps]
    rw[this];rfl
   .rw[o,b9 u] at h;exact s5 (o ▸ h) u
  .rw[j,b9 n] at h;exact s5 (j ▸ h) n
 .rw[d,b9 l] at h;exact s5 (d ▸ h) l
theorem lC(f:Fl)(budget:Int):iv f budget=cr f budget:=by
 unfold iv cr;split
 .rfl
 .rename_i b;have⟨p,k,hv⟩:=VFl.of (show dQ f=0 by omega);rw[jY];by_cases h:(dE f budget [.er 0,.er 1,.wr 0 0 (headM 1)]).err=0
  .have⟨_,a⟩:=oP hv h;rw[b0 (fun e=>e h),b0 (fun e=>e h),fF _ _ _ a,b0 (fun e=>e rfl),a]
  .rw[b9 h,b9 h]
theorem lD(m:Nat):eB m (-1)=0/\bZ m (-1)=m/\dL m (-1) = -1:=by
 unfold eB bZ dL;rw[b0 ω,b0 ω,b0 ω,b0 ω];exact⟨rfl,rfl,rfl⟩
theorem Ex{f:Fl}{p k:Nat}(hv:VFl f p k):(dE f (-1) [.er 0,.er 1,.wr 0 0 (headM 1)]).err=0/\(dE f (-1) [.er 0,.er 1,.wr 0 0 (headM 1)]).left = -1:=by
 have g:=hv.k1;have h:=hv.p1;have i:ed f (-1) (.er 0)=_:=hv.erase (q:=0) ω (-1);rw[cf _ _ _ _ _ i];have a:=hv.alter (0*p+0) p (-1) (fun _ _=>255);have c:(aE f (0*p+0) p (-1) (fun _ _=>255)).err=0/\(aE f (0*p+0) p (-1) (fun _ _=>255)).left = -1:=⟨(lD p).1,(lD p).2.2⟩
 generalize aE f (0*p+0) p (-1) (fun _ _=>255)=G1 at *;rw[b0 (fun e=>e c.1),c.2];have j:ed G1.f (-1) (.er 1)=_:=a.erase (q:=1) ω (-1);rw[cf _ _ _ _ _ j];have b:=a.alter (1*p+0) p (-1) (fun _ _=>255);have d:(aE G1.f (1*p+0) p (-1) (fun _ _=>255)).err=0/\(aE G1.f (1*p+0) p (-1) (fun _ _=>255)).left = -1:=⟨(lD p).1,(lD p).2.2⟩
 generalize aE G1.f (1*p+0) p (-1) (fun _ _=>255)=G2 at *;rw[b0 (fun e=>e d.1),d.2];have l:ed G2.f (-1) (.wr 0 0 (headM 1))=_:=b.prog (q:=0) (t:=0) (s:=headM 1) ω (by rw[cX];omega) (-1);rw[cf _ _ _ _ _ l];have a3:(aE G2.f (0*p+0) (headM 1).length (-1) (aN (headM 1))).err=0/\(aE G2.f (0*p+0) (headM 1).length (-1) (aN (headM 1))).left = -1:=⟨(lD (headM 1).length).1,(lD (headM 1).length).2.2⟩
 generalize aE G2.f (0*p+0) (headM 1).length (-1) (aN (headM 1))=G3 at *;rw[b0 (fun e=>e a3.1)];exact⟨rfl,a3.2⟩
theorem pO{f:Fl}{p k:Nat}(hv:VFl f p k){B:Int}(h1:(dE f B [.er 0,.er 1,.wr 0 0 (headM 1)]).err=0):∃j,iv f B=⟨j,(dE f B [.er 0,.er 1,.wr 0 0 (headM 1)]).left,0⟩/\mountM (flOf j)=⟨j,0⟩/\VFl (flOf j) p k/\j.tail=16/\j.torn=false/\j.ps=p/\aZ j=[]/\j.gen=1:=by
 have⟨b,d⟩:=oP hv h1;unfold iv;rw[hv.exam,b0 ε,jY,b0 (fun e=>e h1),fF _ _ _ d,b0 (fun e=>e rfl)];generalize dE f B _=G at *
 have i:G.f.ps=f.ps:=by rw[b.ps,hv.ps]
 have a:flOf ⟨f.ps,G.f.bs,0,1,16,false⟩=G.f:=by rw[<-i];rfl
 refine⟨_,rfl,by rw[a];exact d,by rw[a];exact b,rfl,rfl,hv.ps,?_,rfl⟩;have l:=oN (show mountM (flOf ⟨f.ps,G.f.bs,0,1,16,false⟩)=_ by rw[a];exact d);have⟨o,r,q,t,g,h⟩:=JAt.of l;have s:(16:Int)=t:=h.tail;rw[h.recs];have m:=h.scan;generalize pgM _ q=z at *;have n:=lv z g (z.length+1) 16;have c:=mD (scanA z g 16).1;unfold scanA at m c⊢;exact fo ω
theorem cg(a m:Int)(b:0<=m)(c:m<9223372036854775808):0<=band .i64 a m/\band .i64 a m<=m:=by
 obtain⟨m,rfl⟩:=i0 b;unfold band;have h1:(BitVec.ofInt u'.bits a &&& BitVec.ofInt u'.bits (m:Int)).toNat<=m:=by
  rw[BitVec.toNat_and];apply e' Nat.and_le_right;simp[IntKind.bits];omega
 rw[ab ω ω];omega
theorem u8w(z:Int):((y' (IntKind.u8.wrap z).toNat).toNat:Int)=IntKind.u8.wrap z:=by
 rw[dh];simp;omega
theorem O0{f:Fl}{budget:Int}(l:List JOp)(c:i64 budget)(d:f.bs.length<1000000000)(b:∀o,o∈l->wX o):(cE f budget l).j.bs.length<=f.bs.length:=by
 induction l generalizing f budget with
 |nil =>
  rw[fF _ _ _ rfl];split
  .simp[jn0]
  .rename_i h;obtain⟨p,k,q,-,-,-,-,-,-,-,-,-,-,e⟩:=kG (show(mountM f).err=0 by omega);rw[e];exact c7 _
 |cons o r g =>
  rw[i5 _ _ _ _ _ rfl];have a:=gJ (f:=f) (budget:=budget) o c d (b o η);split
  .exact a.2
  .split
   .simp[jn0]
   .exact e' (g a.1 ω (fun o ho=>b o (by simp[ho]))) a.2
theorem Ey(j:Jn):pM j j=true:=(HU j j).2 rfl
def MtOk(j:Jn):Prop:=mountM (flOf j)=⟨j,0⟩
theorem MtOk.gen{j:Jn}(h:MtOk j):aT j=true:=oN h
theorem MtOk.vfl{j:Jn}(h:MtOk j):∃p k,VFl (flOf j) p k:=by
 obtain⟨p,k,q,a,b,c,d,e,f,-⟩:=cG h.gen;exact⟨p,k,a,b,c,d,e,f⟩
theorem MtOk.len{j:Jn}(h:MtOk j):1<=j.bs.length/\j.bs.length<1000000:=by
 have⟨p,k,hv⟩:=h.vfl;have h1:j.bs.length=p*k:=hv.len;have h2:p*k<=8192*8:=c' hv.p2 hv.k2;have a:512*2<=p*k:=c' hv.p1 hv.k1;omega
theorem pP{f:Fl}(h:(mountM f).err=0):flOf (mountM f).j=f:=by
 obtain⟨p,k,q,-,-,-,-,-,-,-,-,-,-,a⟩:=kG h;rw[a];rfl
theorem MtOk.of{f:Fl}(h:(mountM f).err=0):MtOk (mountM f).j:=by
 unfold MtOk;rw[pP h];cases a:mountM f with|mk j e=>rw[a] at h;simp only at h;rw[h]
theorem BQ{f:Fl}{budget:Int}(l:List JOp)(c:i64 budget)(d:f.bs.length<1000000000)(b:∀o,o∈l->wX o):(dE f budget l).f.bs.length<=f.bs.length:=by
 induction l generalizing f budget with
 |nil=>exact c7 _
 |cons o r e =>
  rw[cf _ _ _ _ _ rfl];have a:=gJ (f:=f) (budget:=budget) o c d (b o η);split
  .exact a.2
  .exact e' (e a.1 ω (fun o ho=>b o (by simp[ho]))) a.2
theorem mH(f:Fl)(e:Int):(cd f e).j.bs.length<=f.bs.length:=by
 unfold cd;split<;>simp[jn0]
theorem Ez(page:Int)(g:UInt64):∀(l:List (List UInt8)) (t:Nat),(∀b,b∈l->b.length<1000000)->∀o,o∈wrsM page g t l->wX o
 |[],_,_,o,ho=>by simp[wrsM] at ho
 |b::l,t,h,o,ho=>by
  simp only[wrsM,hZ] at ho;rcases ho with rfl|ho
  .show(bQ g b).length<_;rw[cj];have:=h b η;omega
  .exact Ez page g l _ (fun b a=>h b (by simp[a])) o ho
theorem eA(j:Jn)(l:List (List UInt8))(budget:Int)(a:i64 budget)(c:j.bs.length<1000000000)(d:∀b,b∈l->b.length<1000000):(be j l budget).j.bs.length<=j.bs.length:=by
 unfold be;split
 .simp[jn0]
 split
 .simp[jn0]
 split
 .simp[jn0]
 split
 .simp[jn0]
 have hs:=BQ (f:=flOf j) (budget:=budget) (iw j l) a c (fun o ho=>by
  unfold iw at ho
  simp only[hZ,o1,k',or_false] at ho
  rcases ho with rfl|ho|rfl
  .trivial
  .exact Ez _ _ _ _ d o ho
  .show(headM _).length<_;rw[cX];decide)
 unfold lz;split
 .exact e' (mH _ _) hs
 .exact hs
theorem mI(j:Jn)(b:List UInt8)(budget:Int)(c:i64 budget)(d:j.bs.length<1000000000)(e:b.length<1000000):(ey j b budget).j.bs.length<=j.bs.length:=by
 have a:=(gJ (f:=flOf j) (budget:=budget) (.wr j.page j.tail (bQ (a' j.gen.toNat) b)) c d (by show(bQ _ _).length<_;rw[cj];omega)).2;have a:(dM (flOf j) j.page j.tail (bQ (a' j.gen.toNat) b) budget).f.bs.length<=j.bs.length:=a;unfold ey;split
 .simp[jn0]
 split
 .simp[jn0]
 split
 .simp[jn0]
 split
 .simp[jn0]
 split
 .exact e' (mH _ _) a
 .exact a
theorem zL{ch b:Nat->UInt8->UInt8}(bs:List UInt8)(a:Nat):∀n,(∀i,i<n->ch i=b i)->eg ch bs a n=eg b bs a n
 |0,_=>rfl
 |n+1,h=>by simp only[eg];rw[zL bs a n fun i c=>h i ω,h n ω]
theorem BR(ch:Nat->UInt8->UInt8)(bs:List UInt8)(a m:Nat):∀r,eg ch bs a (m+r)=eg (fun i=>ch (m+i)) (eg ch bs a m) (a+m) r
 |0=>rfl
 |r+1=>by
  rw[<-d'];simp only[eg];rw[BR ch bs a m r,d']
theorem KQ(x y:List UInt8)(i:Nat)(h:i<x.length):aN (x++y) i=aN x i:=by
 funext z;unfold aN;rw[eO,b9 h]
theorem KR(x y:List UInt8)(i:Nat):aN (x++y) (x.length+i)=aN y i:=by
 funext z;unfold aN;rw[eO,b0 ω,ms]
theorem BS(f:Fl)(a:Nat)(x y:List UInt8)(B:Int) :
 aE f a (x++y).length B (aN (x++y)) =
  if(aE f a x.length B (aN x)).err≠0 then aE f a x.length B (aN x)
  else aE (aE f a x.length B (aN x)).f (a+x.length) y.length (aE f a x.length B (aN x)).left (aN y):=by
 have h:∀r,r<=x.length->eg (aN (x++y)) f.bs a r=eg (aN x) f.bs a r:=fun r m=>zL _ _ r fun i n=>KQ x y i ω
 have k:∀r,eg (aN (x++y)) f.bs a (x.length+r)=eg (aN y) (eg (aN x) f.bs a x.length) (a+x.length) r:=fun r=>by
  rw[BR,h _ (c7 _)];exact zL _ _ r fun i _=>KR x y i
 have j:(x++y).length=x.length+y.length:=c9;by_cases h1:0<=B/\B<x.length
 .have p1:eB x.length B=16:=by unfold eB;rw[b9 h1]
  have:(aE f a x.length B (aN x)).err≠0:=by show eB _ _≠0;rw[p1];decide
  rw[b9 this];have h2:0<=B/\B<((x++y).length:Nat):=by rw[j];omega
  unfold aE bZ dL eB;rw[b9 h1,b9 h1,b9 h1,b9 h2,b9 h2,b9 h2,h _ ω]
 .have p1:eB x.length B=0:=by unfold eB;rw[b0 h1]
  have:¬(aE f a x.length B (aN x)).err≠0:=by show¬eB _ _≠0;rw[p1];decide
  rw[b0 this];have l:bZ x.length B=x.length:=sH p1;show(⟨⟨f.ps,eg (aN (x++y)) f.bs a (bZ (x++y).length B)⟩,dL (x++y).length B,eB (x++y).length B⟩:FR) =
   ⟨⟨f.ps,eg (aN y) (eg (aN x) f.bs a (bZ x.length B)) (a+x.length) (bZ y.length (dL x.length B))⟩,dL y.length (dL x.length B),eB y.length (dL x.length B)⟩
  rw[l,<-k];rw[j];by_cases b:0<=B
  .have g:dL x.length B=B-x.length:=by unfold dL;rw[b0 h1,b9 b]
   rw[g];unfold bZ dL eB;by_cases h2:B<((x.length+y.length:Nat):Int)
   .have c:0<=B/\B<((x.length+y.length:Nat):Int):=⟨b,h2⟩;have d:0<=B-x.length/\B-x.length<(y.length:Int):=ω;simp only[b9 c,b9 d];rw[show x.length+(B-(x.length:Int)).toNat=B.toNat by omega]
   .have c:¬(0<=B/\B<((x.length+y.length:Nat):Int)):=fun e=>h2 e.2
    have d:¬(0<=B-x.length/\B-x.length<(y.length:Int)):=ω;simp only[b0 c,b0 d,b9 b,b9 (show 0<=B-x.length by omega)];rw[show B-((x.length+y.length:Nat):Int)=B-x.length-y.length by omega]
  .have g:dL x.length B=B:=by unfold dL;rw[b0 h1,b0 b]
   rw[g];unfold bZ dL eB;have c:¬(0<=B/\B<((x.length+y.length:Nat):Int)):=fun e=>b e.1
   have d:¬(0<=B/\B<(y.length:Int)):=fun e=>b e.1
   simp only[b0 c,b0 d,b0 b]
theorem O1(f:Fl)(a:Nat)(B:Int)(ch:Nat->UInt8->UInt8):aE f a 0 B ch=⟨f,B,0⟩:=by
 have c:¬(0<=B/\B<((0:Nat):Int)):=ω;unfold aE bZ dL eB;simp only[b0 c,eg];by_cases h:0<=B<;>simp[h]
theorem Ge{p k q:Nat}(c:q<k)(g:UInt64)(a:List JOp):∀(l:List (List UInt8)) (t:Nat) (f:Fl) (B:Int),VFl f p k->t+bF l<=p ->
 dE f B (wrsM (q:Int) g t l++a)=dE f B (.wr (q:Int) (t:Int) (rsM g l)::a)
 |[],t,f,B,hv,ht=>by
  have h:ed f B (.wr (q:Int) (t:Int) (rsM g []))=⟨f,B,0⟩:=by
   show dM f q t [] B=_;rw[hv.prog c (by simpa[bF] using ht)];exact O1 _ _ _ _
  rw[cf _ _ _ _ _ h,b0 η];rfl
 |b::l,t,f,B,hv,ht=>by
  simp only[bF] at ht;have j:=cj g b;have i:rsM g (b::l)=bQ g b++rsM g l:=by simp[rsM]
  have m:=tE g l;have h:ed f B (.wr (q:Int) (t:Int) (bQ g b))=aE f (q*p+t) (bQ g b).length B (aN (bQ g b)):=hv.prog c ω B;have n:ed f B (.wr (q:Int) (t:Int) (rsM g (b::l)))=aE f (q*p+t) (bQ g b++rsM g l).length B (aN (bQ g b++rsM g l)):=by
   rw[i];exact hv.prog c ζ B
  have d:=hv.alter (q*p+t) (bQ g b).length B (aN (bQ g b));simp only[wrsM,o'];rw[cf _ _ _ _ _ h,cf _ _ _ _ _ n,BS];generalize aE f (q*p+t) (bQ g b).length B (aN (bQ g b))=G at *;by_cases e:G.err≠0
  .rw[b9 e,b9 e,b9 e]
  .rw[b0 e,b0 e,Ge c g a l (t+10+b.length) G.f G.left d ω];have o:ed G.f G.left (.wr (q:Int) ((t+10+b.length:Nat):Int) (rsM g l))=aE G.f (q*p+t+(bQ g b).length) (rsM g l).length G.left (aN (rsM g l)):=by
    rw[j,show q*p+t+(b.length+10)=q*p+(t+10+b.length) by omega];exact d.prog c ω _
   rw[cf _ _ _ _ _ o]
structure Put(page:List UInt8)(a:Nat)(s:List UInt8):Prop where
 fits:a+s.length<=page.length
 get:∀i,i<s.length->page.getD (a+i) 0=s.getD i 0
theorem Put.cut{page s:List UInt8}{a:Nat}(h:Put page a s){c m:Nat}(b:c+m<=s.length):(page.drop (a+c)).take m=(s.drop c).take m:=by
 have:=h.fits;refine u5 ω ω fun i d=>?_
 rw[show a+c+i=a+(c+i) by omega,h.get _ ω]
theorem Put.left{page x y:List UInt8}{a:Nat}(h:Put page a (x++y)):Put page a x:=by
 have:=h.fits;simp at this;exact⟨ω,fun i b=>by rw[h.get i ζ,eO,b9 b]⟩
theorem Put.right{page x y:List UInt8}{a:Nat}(h:Put page a (x++y)):Put page (a+x.length) y:=by
 have:=h.fits;simp at this;exact⟨ω,fun i b=>by rw[d',h.get _ ζ,eO,b0 ω,ms]⟩
theorem Put.pay{page b:List UInt8}{a:Nat}{g:UInt64}(h:Put page a (bQ g b))(h1:1<=b.length)(h2:b.length<=256):cI page g a=b:=by
 have e:=h.fits;rw[cj] at e;have f:aF page a=b.length:=by
  unfold aF;have d:=h.get 0 (by rw[cj];omega);have c:=h.get 1 (by rw[cj];omega);rw[Nat.add_zero] at d;rw[d,c,u6,u7];exact rq _ h2
 have c:(page.drop (a+2)).take b.length=b:=by rw[h.cut (by rw[cj];omega),zJ]
 rw[zH f ω h1 h2 (by rw[c,show a+2+b.length=a+(2+b.length) by omega,h.cut (by rw[cj];omega),Gd]),c]
theorem BT{page:List UInt8}{g:UInt64}:∀(l:List (List UInt8)) (a:Nat),Put page a (rsM g l)->ee l=true->(∀i,a+bF l<=i->i<page.length->page.getD i 0=255)->scanA page g a=(l,a+bF l)
 |[],a,_,_,he=>eI _ _ _ (lA he)
 |b::l,a,h,hs,he=>by
  have c:rsM g (b::l)=bQ g b++rsM g l:=by simp[rsM]
  rw[c] at h;simp only[ee,s',v',decide_eq_true_eq] at hs;have f:=h.left.pay hs.1.1 hs.1.2;have d:cI page g a≠[]:=by rw[f];intro e;rw[e] at hs;simp at hs
  rw[hJ _ _ _ d,f];have j:=h.right;rw[cj,show a+(b.length+10)=a+10+b.length by omega] at j;rw[BT l (a+10+b.length) j hs.2 (fun i k=>he i (by simp only[bF];omega))];simp only[bF];rw[show a+10+b.length+bF l=a+(10+b.length+bF l) by omega]
theorem va(w:UInt64)(r:List UInt64):((an (fu w 1::r) 1).getD 0 0).toNat<128:=by
 rw[F8,rn _ _ _ ε];unfold fu;have:=w.toNat_lt;have h1:(a' (w.toNat/2^1)).toNat=w.toNat/2:=by rw[gr];omega
 rw[h1];have h2:(a' (w.toNat/2/2^(56-8*0))).toNat=w.toNat/2/2^56:=by rw[gr];omega
 rw[b',h2];omega
theorem H1(g:UInt64)(b:List UInt8):((rL g b).getD 0 0).toNat<128:=va _ []
theorem Tz(g:UInt64):((headM g).getD 8 0).toNat<128:=by
 unfold headM;rw[F9,eO,az,b0 ε];have:=va (bA 7 0 (an [g] 1)) [];rw[F8] at this;exact this
theorem aba{x y:List UInt8}{m:Nat}(h:x.take m=y)(i:Nat)(a:i<m):y.getD i 0=x.getD i 0:=by
 subst h;simp[cR,a]
theorem KS{t r:Nat}{g:UInt64}{b x y:List UInt8}(h:Laid t r (bQ g b) x y)(h2:b.length<=256)(f:∀i,t<=i->i<x.length->x.getD i 0=255):cI y g t=[]\/cI y g t=b:=by
 by_cases d:cI y g t=[]
 .exact .inl d
 .right;have⟨j,n,o,p,q,k⟩:=xL d;have s:=h.len;have u:=h.fits;have a:=h.le;rw[cj] at a;have c:=H1 g ((y.drop (t+2)).take (aF y t));rw[aba k 0 ε,mG,Nat.add_zero] at c;have l:2+aF y t<r:=by
   rcases ea (2+aF y t) r with e|e
   .exact e
   .rw[h.get,b0 ω,f _ ω ω] at c;exact s5 c ε
  have m:aF y t=b.length:=by
   exact ah2
  rw[j,m,h.cut ω,zJ]
theorem H2{t r:Nat}{g:UInt64}{b x y:List UInt8}(h:Laid t r (bQ g b) x y)(h2:b.length<=256)(e:(scanA x g 16).2=t)(f:∀i,t<=i->i<x.length->x.getD i 0=255)(l:16<=x.length) :
 (scanA y g 16).1=(scanA x g 16).1\/(scanA y g 16).1=(scanA x g 16).1++[b]:=by
 have n:=h.len;have d:=h.le;rw[cj] at d;have ha:=oL (x:=x) (y:=y) (g:=g) x.length 16 ω (by rw[e];exact h.agree);rw[ha,e];rcases KS h h2 f with c|c
 .left;rw[eI y g t c];simp
 .by_cases j:b=[]
  .left;rw[eI y g t (by rw[c,j])];simp
  .right;have a:∀i,t+10+b.length<=i->i<y.length->y.getD i 0=255:=fun i o m=>by
    rw[h.get,b0 ω];exact f i ω ω
   have k:=hJ y g t (by rw[c];exact j);rw[c,eI y g _ (lA a)] at k;rw[k]
theorem zM{f:Fl}{p k q:Nat}{G:Int}(hv:VFl f p k)(b:q<k)(a:mountM f=⟨db f q G,0⟩):aZ (mountM f).j=(scanA (pgM f q) (a' G.toNat) 16).1:=by
 have c:(mountM f).err=0:=by rw[a]
 have hg:=(MtOk.of c).gen;have d:=hv.p1;unfold aZ;rw[b9 hg,a];show(du (pgM (flOf (db f q G)) ((q:Int)).toNat) (a' G.toNat)).1=_;rw[h5,<-nz _ _ (by rw[hv.pg b];omega)];rfl
theorem VFl.ofJ{j:Jn}{p k q t:Nat}{g:UInt64}(h:JAt j p k q t g):VFl (flOf j) p k:=⟨h.ps,h.p1,h.p2,h.len,h.k1,h.k2⟩
theorem KT{f b:Fl}{p k q:Nat}(hv:VFl f p k)(a:VFl b p k)(c:q<k)(h:∀i,i<p->(pgM b q).getD i 0=(pgM f q).getD i 0):pgM b q=pgM f q :=
 OZ (by rw[hv.pg c,a.pg c]) fun i d=>h i (by rw[a.pg c] at d;exact d)
theorem BU{j:Jn}{p k q t:Nat}{g:UInt64}(h:JAt j p k q t g)(e:j.torn=false){b:List UInt8}(h2:b.length<=256)(l:t+(b.length+10)<=p){budget:Int}
 {G:FR} (o:aE (flOf j) (q*p+t) (bQ g b).length budget (aN (bQ g b))=G) :
 (mountM G.f).err=0/\(aZ (mountM G.f).j=aZ j\/aZ (mountM G.f).j=aZ j++[b])/\(mountM G.f).j.gen=j.gen:=by
 have u:=h.q2;have v:=h.k1;have r:=h.p1;have⟨d,a,c⟩:=h.laid e (s:=bQ g b) (by rw[cj];exact l) budget;have hv:VFl G.f p k:=by rw[<-o];exact(VFl.ofJ h).alter _ _ _ _
 rw[o] at d a c;have hs:=H2 d h2 h.scan (h.erasedTail e) (by rw[h.pg ω];omega);have m:=h.gens c a (fun i w=>by rw[d.get,b0 (by have:=h.t16;omega)]);have n:=h.mount hv.ps hv.len m;refine⟨by rw[n],?_,by rw[n];rfl⟩;rw[zM hv ω n,h.gg,h.recs];exact hs
theorem rr{j:Jn}{p k q t:Nat}{g:UInt64}(h:JAt j p k q t g){a:Fl}(hv:VFl a p k)(hs:∀i,i<p->(pgM a q).getD i 0=(pgM (flOf j) q).getD i 0)(d:bz (pgM a (1-q))=0) :
 (mountM a).err=0/\aZ (mountM a).j=aZ j/\(mountM a).j.gen=j.gen:=by
 have l:=h.q2;have n:=h.k1;have m:=h.g1;have f:pgM a q=pgM (flOf j) q:=KT (VFl.ofJ h) hv ω hs;have c:bz (pgM a q)=j.gen:=by rw[f,<-h.geq]
 have b:=pN (q:=q) hv.ps hv.p1 hv.p2 hv.len hv.k1 hv.k2 l ω ω (fun e=>by subst e;have d:bz (pgM a 0)=0:=d;omega);rw[c] at b;refine⟨by rw[b],?_,by rw[b];rfl⟩;rw[zM hv ω b,f,h.gg,h.recs]
theorem H3{j:Jn}{p k q t:Nat}{w g:UInt64}(h:JAt j p k q t w){l:List (List UInt8)}(hs:ee l=true)(D:16+bF l<=p)(hg:a' (j.gen+1).toNat=g)(E:j.gen<1099511627776){a:Fl}(hv:VFl a p k)
 (x:∀i,i<p->(pgM a q).getD i 0=(pgM (flOf j) q).getD i 0) (y:(pgM a (1-q)).take 16=headM g) (h1:Put (pgM a (1-q)) 16 (rsM g l)) (h2:∀i,16+bF l<=i->i<p->(pgM a (1-q)).getD i 0=255) :
 mountM a=⟨⟨a.ps,a.bs,1-j.page,j.gen+1,((16+bF l:Nat):Int),false⟩,0⟩/\aZ (mountM a).j=l:=by
 have z:=h.q2;have F:=h.k1;have A:=h.g1;have B:=h.p1;have o:pgM a q=pgM (flOf j) q:=KT (VFl.ofJ h) hv ω x;have C:bz (pgM a q)=j.gen:=by rw[o,<-h.geq]
 have r:(g.toNat:Int)=j.gen+1:=by
  rw[<-hg,gr,ie ω];omega
 have c:bz (pgM a (1-q))=j.gen+1:=by rw[Gb y ω ω];exact r
 have n:=pN (q:=1-q) hv.ps hv.p1 hv.p2 hv.len hv.k1 hv.k2 ω ω (by rw[show 1-(1-q)=q by omega];omega) (fun e=>by
  obtain rfl:q=0:=by omega
  have c:bz (pgM a 1)=j.gen+1:=c
  omega)
 rw[c] at n;have b:=hv.pg (q:=1-q) ω;have d:=BT l 16 h1 hs (fun i s f=>h2 i s (by rw[b] at f;exact f));have u:db a (1-q) (j.gen+1)=⟨a.ps,a.bs,1-j.page,j.gen+1,((16+bF l:Nat):Int),false⟩:=by
  have m:((pgM a (1-q)).drop (16+bF l)).all (·==255)=true:=ro fun i s=>by
   rw[mG];simp at s;exact h2 _ ω ω
  unfold db;rw[hg,nz _ _ (by rw[b];omega),d,h.page];simp only[m,x'];congr 1;omega
 have v:=zM hv ω n;rw[hg,d] at v;rw[u] at n;exact⟨n,v⟩
theorem KU{r:Nat}{g:UInt64}{page:List UInt8}(k:16<=page.length)(h:∀i,i<16->page.getD i 0=if i<r then(headM g).getD i 0 else 255):bz page=0\/page.take 16=headM g:=by
 by_cases a:bz page=0
 .exact .inl a
 .right;unfold bz at a;split at a
  .exact s5 rfl a
  .rename_i f;have c:page.take 16=headM (aB page 8):=Classical.byContradiction fun e=>f (.inr (.inr e))
   have b:=Tz (aB page 8);rw[aba c 8 ε] at b;have l:8<r:=by
    rcases ea 8 r with d|d
    .exact d
    .rw[h 8 ε,b0 ω] at b;exact s5 b ε
   have j:aB page 8=g:=by
    have:=u4 g [];rw[<-this];refine jX 8 fun i m=>?_
    rw[h i ω,b9 ω,List.append_nil]
   rw[c,j]
theorem tF{m:Nat}{B:Int}(h:0<=B):0<=dL m B:=by
 unfold dL;split
 .exact Int.le_refl _
 ·(try rw[b9 h]);omega
theorem pQ{m:Nat}{B:Int}(h:0<=dL m B):0<=B:=by
 unfold dL at h;split at h
 .omega
 .split at h<;>omega
theorem ru{m:Nat}{B:Int}(h:eB m B=16):0<=B:=by
 unfold eB at h;split at h
 .omega
 .cases h
theorem BV{j:Jn}{p k q t:Nat}{g0 g:UInt64}(h:JAt j p k q t g0){l:List (List UInt8)}(hs:ee l=true)(hl:16+bF l<=p)(hg:a' (j.gen+1).toNat=g)(hj:j.gen<1099511627776)(B:Int){X:FR}
 (c:dE (flOf j) B [.er (1-j.page),.wr (1-j.page) 16 (rsM g l),.wr (1-j.page) 0 (headM g)]=X) :
 VFl X.f p k/\((X.err=0/\mountM X.f=⟨⟨X.f.ps,X.f.bs,1-j.page,j.gen+1,((16+bF l:Nat):Int),false⟩,0⟩/\aZ (mountM X.f).j=l/\(0<=B->0<=X.left)) \/
  (X.err=16/\(mountM X.f).err=0/\(aZ (mountM X.f).j=aZ j\/aZ (mountM X.f).j=l)/\(mountM X.f).j.gen<=j.gen+1/\0<=B)):=by
 have hq2:=h.q2;have hk:=h.k1;have hp1:=h.p1;have hv:=VFl.ofJ h;have U:1-j.page=((1-q:Nat):Int):=by rw[h.page];omega
 have c:=c;rw[U] at c;have hrl:=tE g l;have M:=cX g;have r1:ed (flOf j) B (.er ((1-q:Nat):Int))=_:=hv.erase (q:=1-q) ω B;rw[cf _ _ _ _ _ r1] at c;have r:=hv.alter ((1-q)*p+0) p B (fun _ _=>255);have d:∀q',q'<k->∀i,_:=fun q' h i=>hv.page (q:=1-q) (t:=0) (m:=p) ω ω B (fun _ _=>255) (q':=q') h i
 have u:(aE (flOf j) ((1-q)*p+0) p B (fun _ _=>255)).err=eB p B:=rfl;have G:(aE (flOf j) ((1-q)*p+0) p B (fun _ _=>255)).f.bs=eg (fun _ _=>255) j.bs ((1-q)*p+0) (bZ p B):=rfl;have v:(aE (flOf j) ((1-q)*p+0) p B (fun _ _=>255)).f.ps=j.ps:=rfl;have H:(aE (flOf j) ((1-q)*p+0) p B (fun _ _=>255)).left=dL p B:=rfl;generalize aE (flOf j) ((1-q)*p+0) p B (fun _ _=>255)=G1 at *;rcases zK p B with e|e
 .rw[u,e,b0 ε] at c;rw[sH e] at d;have r2:ed G1.f G1.left (.wr ((1-q:Nat):Int) 16 (rsM g l))=_:=r.prog (q:=1-q) (t:=16) (s:=rsM g l) ω ω G1.left;rw[cf _ _ _ _ _ r2] at c;have w:=r.alter ((1-q)*p+16) (rsM g l).length G1.left (aN (rsM g l));have z:∀q',q'<k->∀i,_:=fun q' h i=>r.page (q:=1-q) (t:=16) (m:=(rsM g l).length) ω ω G1.left (aN (rsM g l)) (q':=q') h i
  have A:(aE G1.f ((1-q)*p+16) (rsM g l).length G1.left (aN (rsM g l))).err=eB (rsM g l).length G1.left:=rfl;have I:(aE G1.f ((1-q)*p+16) (rsM g l).length G1.left (aN (rsM g l))).left=dL (rsM g l).length G1.left:=rfl;generalize aE G1.f ((1-q)*p+16) (rsM g l).length G1.left (aN (rsM g l))=G2 at *;have hr2:=kH (rsM g l).length G1.left;have o2:∀i,i<p->(pgM G2.f q).getD i 0=(pgM (flOf j) q).getD i 0:=fun i F=>by
   rw[z q ω,b0 ω,d q ω,b0 ω]
  rcases zK (rsM g l).length G1.left with o|o
  .rw[A,o,b0 ε] at c;rw[sH o] at z;have r3:ed G2.f G2.left (.wr ((1-q:Nat):Int) 0 (headM g))=_:=w.prog (q:=1-q) (t:=0) (s:=headM g) ω ω G2.left;rw[cf _ _ _ _ _ r3] at c;have C:=w.alter ((1-q)*p+0) (headM g).length G2.left (aN (headM g));have K:∀q',q'<k->∀i,_:=fun q' h i=>w.page (q:=1-q) (t:=0) (m:=(headM g).length) ω ω G2.left (aN (headM g)) (q':=q') h i
   have D:(aE G2.f ((1-q)*p+0) (headM g).length G2.left (aN (headM g))).err=eB (headM g).length G2.left:=rfl;have V:(aE G2.f ((1-q)*p+0) (headM g).length G2.left (aN (headM g))).left=dL (headM g).length G2.left:=rfl;generalize aE G2.f ((1-q)*p+0) (headM g).length G2.left (aN (headM g))=G3 at *;have hr3:=kH (headM g).length G2.left;have o3:∀i,i<p->(pgM G3.f q).getD i 0=(pgM (flOf j) q).getD i 0:=fun i F=>by
    rw[K q ω,b0 ω,o2 i F]
   have N:∀i,16<=i->i<p->(pgM G3.f (1-q)).getD i 0=if i<16+bF l then(rsM g l).getD (i-16) 0 else 255:=fun i F O=>by
    rw[K (1-q) ω,b0 ω,z (1-q) ω,d (1-q) ω,b9 (show(1-q=1-q)/\0<=i/\i<0+p by omega)];by_cases P:i<16+bF l
    .rw[b9 ω,b9 P];exact zI _
    .rw[b0 ω,b0 P]
   have L:∀i,i<16->(pgM G3.f (1-q)).getD i 0=if i<bZ (headM g).length G2.left then(headM g).getD i 0 else 255:=fun i F=>by
    rw[K (1-q) ω,z (1-q) ω,b0 (show¬((1-q=1-q)/\16<=i/\i<16+(rsM g l).length) by omega),d (1-q) ω,b9 (show(1-q=1-q)/\0<=i/\i<0+p by omega)];by_cases P:i<bZ (headM g).length G2.left
    .rw[b9 ω,b9 P,Nat.sub_zero];exact zI _
    .rw[b0 ω,b0 P]
   have E:=C.pg (q:=1-q) ω;have Q:=H3 h hs hl hg hj C o3 (h1:=⟨by rw[E];omega,fun i F=>by rw[N _ ω ω,b9 ω,ms]⟩) (h2:=fun i F O=>by rw[N i ω O,b0 ω]);rcases zK (headM g).length G2.left with n|n
   .rw[D,n,b0 ε] at c;simp only[dE] at c;subst c;refine⟨C,.inl ?_⟩;rw[sH n,M] at L
    have⟨T,W⟩:=Q (by
     have:=u5 (x:=pgM G3.f (1-q)) (y:=headM g) (a:=0) (b:=0) (m:=16) (by rw[E];omega) ω (fun i F=>by
      rw[g',L i F,b9 F])
     simpa[cD (f' M)] using this)
    exact⟨rfl,T,W,fun hB=>by show 0<=G3.left;rw[V];apply tF;rw[I];apply tF;rw[H];exact tF hB⟩
   .rw[D,n,b9 ε] at c;subst c;refine⟨C,.inr ⟨by rw[D,n],?_⟩⟩;rcases KU (by rw[E];omega) L with h0|h0
    .have⟨R,S,m3⟩:=rr h C o3 h0;exact⟨R,.inl S,ω,by have:=ru n;rw[I] at this;have:=pQ this;rw[H] at this;exact pQ this⟩
    .have⟨T,W⟩:=Q h0;exact⟨by rw[T],.inr W,by rw[T];exact Int.le_refl _,by have:=ru n;rw[I] at this;have:=pQ this;rw[H] at this;exact pQ this⟩
  .rw[A,o,b9 ε] at c;subst c;refine⟨w,.inr ⟨by rw[A,o],?_⟩⟩
   have⟨R,S,m3⟩:=rr h w o2 (lB (by
    rw[z (1-q) ω,b0 ω,d (1-q) ω,b9 ω]))
   exact⟨R,.inl S,ω,by have:=ru o;rw[H] at this;exact pQ this⟩
 .rw[u,e,b9 ε] at c;subst c;refine⟨r,.inr ⟨by rw[u,e],?_⟩⟩;by_cases hr:bZ p B=0
  .rw[hr] at G;have:G1.f=flOf j:=by
    cases hf:G1.f with|mk a b=>rw[hf] at G v;simp only[eg] at G v;rw[G,v];rfl
   rw[this,h.mnt];exact⟨rfl,.inl rfl,by show j.gen<=j.gen+1;omega,ru e⟩
  .have⟨R,S,m3⟩:=rr h r (fun i F=>by rw[d q ω,b0 ω]) (lB (by
    rw[d (1-q) ω,b9 ω]))
   exact⟨R,.inl S,ω,ru e⟩
theorem O2{j:Jn}{p k q t:Nat}{a g:UInt64}(h:JAt j p k q t a){l:List (List UInt8)}(hs:ee l=true)(b:16+bF l<=p)(hg:a' (j.gen+1).toNat=g)(c:j.gen<1099511627776)(B:Int){X:FR}
 (d:dE (flOf j) B [.er (1-j.page),.wr (1-j.page) 16 (rsM g l),.wr (1-j.page) 0 (headM g)]=X) :
 VFl X.f p k/\((X.err=0/\mountM X.f=⟨⟨X.f.ps,X.f.bs,1-j.page,j.gen+1,((16+bF l:Nat):Int),false⟩,0⟩/\aZ (mountM X.f).j=l/\(0<=B->0<=X.left)) \/
  (X.err=16/\(mountM X.f).err=0/\(aZ (mountM X.f).j=aZ j\/aZ (mountM X.f).j=l))):=by
 have⟨h1,h2⟩:=BV h hs b hg c B d;refine⟨h1,h2.imp (fun h=>h) (fun h=>⟨h.1,h.2.1,h.2.2.1⟩)⟩
theorem dB(j:Jn)(l:List (List UInt8))(budget:Int):aI j l budget=be j l budget:=by
 unfold aI be;split
 .rfl
 split
 .rfl
 split
 .rfl
 split
 .rfl
 rename_i h1 h2 s u;have⟨p,k,q,t,v,h⟩:=JAt.of (show aT j=true by simpa using h1);have hs:ee l=true:=by simpa using h2
 have n:j.ps=p:=h.ps;have w:=h.q2;have x:=h.k1;generalize hg:a' (j.gen+1).toNat=g;have hv:=VFl.ofJ h;have b:1-j.page=((1-q:Nat):Int):=by rw[h.page];omega
 have a:dE (flOf j) budget (iw j l)=dE (flOf j) budget [.er (1-j.page),.wr (1-j.page) 16 (rsM g l),.wr (1-j.page) 0 (headM g)]:=by
  unfold iw;rw[hg,b];have d:ed (flOf j) budget (.er ((1-q:Nat):Int))=_:=hv.erase (q:=1-q) ω budget;rw[cf _ _ _ _ _ d,cf _ _ _ _ _ d];have:=Ge (p:=p) (k:=k) (q:=1-q) ω g [.wr ((1-q:Nat):Int) 0 (headM g)] l 16 (aE (flOf j) ((1-q)*p+0) p budget (fun _ _=>255)).f (aE (flOf j) ((1-q)*p+0) p budget (fun _ _=>255)).left (hv.alter _ _ _ _) ω;rw[this];rfl
 obtain⟨X,i⟩:∃X,dE (flOf j) budget [.er (1-j.page),.wr (1-j.page) 16 (rsM g l),.wr (1-j.page) 0 (headM g)]=X:=⟨_,rfl⟩;have⟨o,r⟩:=O2 h hs ω hg ω budget i;rw[jY,a,i];unfold lz;rcases r with⟨e,m,-⟩|⟨e,-⟩
 .rw[b0 (fun c=>c e),b0 (fun c=>c e),fF _ _ _ m,b0 (fun c=>c rfl)]
 .rw[b9 (by rw[e];decide),b9 (by rw[e];decide)]
theorem ke{j:Jn}(o:MtOk j)(l:List (List UInt8))(B:Int) :
 ((aI j l B).err=0/\mountM (flOf (aI j l B).j)=⟨(aI j l B).j,0⟩/\(aI j l B).j.torn=false/\aZ (aI j l B).j=l/\(0<=B->0<=(aI j l B).left)/\(aI j l B).j.gen=j.gen+1/\(aI j l B).j.ps=j.ps) \/
 ((aI j l B).err=16/\(aI j l B).left=0/\(mountM (flOf (aI j l B).j)).err=0/\(aZ (mountM (flOf (aI j l B).j)).j=aZ j\/aZ (mountM (flOf (aI j l B).j)).j=l)/\(mountM (flOf (aI j l B).j)).j.gen<=j.gen+1/\(aI j l B).j.ps=j.ps/\0<=B) \/
 ((aI j l B).err≠0/\(aI j l B).err≠16/\(aI j l B).err=(aI j l (-1)).err/\(ee l=false\/j.ps<16+(bF l:Int)\/1099511627776<=j.gen)):=by
 have hg:=o.gen;rw[dB,dB];have⟨p,k,q,t,w,h⟩:=JAt.of hg;have g:j.ps=p:=h.ps;by_cases h2:ee l=false
 .right;right;unfold be;rw[b0 (by rw[hg];decide),b9 h2,b0 (by rw[hg];decide),b9 h2];simp[h2]
 by_cases b:j.ps<16+(bF l:Int)
 .right;right;unfold be;rw[b0 (by rw[hg];decide),b0 h2,b9 b,b0 (by rw[hg];decide),b0 h2,b9 b];simp[b]
 by_cases d:1099511627776<=j.gen
 .right;right;unfold be;rw[b0 (by rw[hg];decide),b0 h2,b0 b,b9 d,b0 (by rw[hg];decide),b0 h2,b0 b,b9 d];simp[d]
 rw[<-dB];have e:aI j l B=cE (flOf j) B [.er (1-j.page),.wr (1-j.page) 16 (rsM (a' (j.gen+1).toNat) l),.wr (1-j.page) 0 (headM (a' (j.gen+1).toNat))]:=by
  unfold aI;rw[b0 (by rw[hg];decide),b0 h2,b0 b,b0 d]
 obtain⟨X,n⟩:∃X,dE (flOf j) B [.er (1-j.page),.wr (1-j.page) 16 (rsM (a' (j.gen+1).toNat) l),.wr (1-j.page) 0 (headM (a' (j.gen+1).toNat))]=X:=⟨_,rfl⟩;have⟨i,s⟩:=BV h (by simpa using h2) ω rfl ω B n;rw[e,jY,n];have a:X.f.ps=j.ps:=by rw[i.ps,g]
 rcases s with⟨e,m,r,u⟩|⟨e,m,r,gn,v⟩
 .left;rw[b0 (fun c=>c e),fF _ _ _ m,b0 (fun c=>c rfl)];rw[m] at r;exact⟨rfl,m,rfl,r,u,rfl,a⟩
 .right;left;rw[b9 (by rw[e];decide),e];exact⟨rfl,rfl,m,r,gn,a,v⟩
theorem zN{j:Jn}(f:MtOk j)(l:List (List UInt8))(B:Int) :
 ((aI j l B).err=0/\mountM (flOf (aI j l B).j)=⟨(aI j l B).j,0⟩/\(aI j l B).j.torn=false/\aZ (aI j l B).j=l/\(0<=B->0<=(aI j l B).left)) \/
 ((aI j l B).err=16/\(aI j l B).left=0/\(mountM (flOf (aI j l B).j)).err=0/\(aZ (mountM (flOf (aI j l B).j)).j=aZ j\/aZ (mountM (flOf (aI j l B).j)).j=l)) \/
 ((aI j l B).err≠0/\(aI j l B).err≠16/\(aI j l B).err=(aI j l (-1)).err):=by
 rcases ke f l B with⟨a,b,c,d,e,_⟩|⟨a,b,c,d,_⟩|⟨a,b,c,_⟩
 .exact .inl ⟨a,b,c,d,e⟩
 .exact .inr (.inl ⟨a,b,c,d⟩)
 .exact .inr (.inr ⟨a,b,c⟩)
theorem zO{j:Jn}(x:MtOk j)(b:List UInt8)(B:Int) :
 ((b8 j b B).err=0/\mountM (flOf (b8 j b B).j)=⟨(b8 j b B).j,0⟩/\aZ (b8 j b B).j=aZ j++[b]/\(0<=B->0<=(b8 j b B).left)/\(b8 j b B).j.gen=j.gen/\(b8 j b B).j.ps=j.ps) \/
 ((b8 j b B).err=16/\(b8 j b B).left=0/\(mountM (flOf (b8 j b B).j)).err=0/\(aZ (mountM (flOf (b8 j b B).j)).j=aZ j\/aZ (mountM (flOf (b8 j b B).j)).j=aZ j++[b])/\(mountM (flOf (b8 j b B).j)).j.gen=j.gen/\(b8 j b B).j.ps=j.ps/\0<=B) \/
 ((b8 j b B).err≠0/\(b8 j b B).err≠16/\(b8 j b B).err=(b8 j b (-1)).err/\(¬(1<=b.length/\b.length<=256)\/j.torn=true\/(b.length:Int)>kF j.ps j.tail j.torn)):=by
 have hg:=x.gen;have⟨p,k,q,t,g,h⟩:=JAt.of hg;have y:j.ps=p:=h.ps;have z:=h.tail;by_cases h2:¬(1<=b.length/\b.length<=256)
 .right;right;unfold b8;rw[b0 (by rw[hg];decide),b9 h2,b0 (by rw[hg];decide),b9 h2];exact⟨ε,ε,rfl,.inl h2⟩
 by_cases l:j.torn=true
 .right;right;unfold b8;rw[b0 (by rw[hg];decide),b0 h2,b9 l,b0 (by rw[hg];decide),b0 h2,b9 l];exact⟨ε,ε,rfl,.inr (.inl l)⟩
 by_cases d:(b.length:Int)>kF j.ps j.tail j.torn
 .right;right;unfold b8;rw[b0 (by rw[hg];decide),b0 h2,b0 l,b9 d,b0 (by rw[hg];decide),b0 h2,b0 l,b9 d];exact⟨ε,ε,rfl,.inr (.inr d)⟩
 have n:j.torn=false:=by simpa using l
 have a:t+(b.length+10)<=p:=by
  unfold kF at d;rw[n] at d;simp only[Bool.false_eq_true,if_false] at d;split at d
  .omega
  .split at d<;>omega
 have e:b8 j b B=cE (flOf j) B [.wr j.page j.tail (bQ g b)]:=by
  unfold b8;rw[b0 (by rw[hg];decide),b0 h2,b0 l,b0 d,h.gg]
 have A:ed (flOf j) B (.wr j.page j.tail (bQ g b))=_:=h.prog (s:=bQ g b) (by rw[cj];exact a) B;rw[e,i5 _ _ _ _ _ A];obtain⟨G,o⟩:∃G,aE (flOf j) (q*p+t) (bQ g b).length B (aN (bQ g b))=G:=⟨_,rfl⟩
 rw[o];have u:G.err=eB (bQ g b).length B:=by rw[<-o];rfl
 have i:G.f.ps=j.ps:=by rw[<-o];rfl
 have w:G.left=dL (bQ g b).length B:=by rw[<-o];rfl
 have h2:1<=b.length/\b.length<=256:=ω;rcases zK (bQ g b).length B with v|v
 .left;have⟨m,r⟩:=sG h n h2.1 h2.2 a (by rw[sH v,cj]) o;rw[u,v,b0 ε,b0 ε,fF _ _ _ m,b0 (fun c=>c rfl)];exact⟨rfl,m,r,(fun C=>by show 0<=G.left;rw[w];exact tF C),rfl,i⟩
 .right;left;have⟨m,r,gn⟩:=BU h n h2.2 a o;rw[u,v,b9 rfl];exact⟨rfl,rfl,m,r,gn,i,ru v⟩
theorem i9(f:Fl):(mountM f).j.bs.length<=f.bs.length:=by
 by_cases h:(mountM f).err=0
 .have:=pP h;have e:(mountM f).j.bs=f.bs:=congrArg Fl.bs this;rw[e];exact c7 _
 .have:(mountM f).j=jn0:=by
   exact agw
  rw[this];simp[jn0]

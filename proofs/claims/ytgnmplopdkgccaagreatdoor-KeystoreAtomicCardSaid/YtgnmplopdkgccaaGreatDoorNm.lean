/- own work: steps of the proof -/
import Derived.Test.YtgnmplopdkgccaaGreatDoorRQ
import Derived.Lib.MakeNoZero
set_option linter.all false
set_option maxRecDepth 100000
set_option maxHeartbeats 4000000
open Go.IntKind renaming i64→a',u8→c',u64→d'
open List renaming replicate→e',take_add_one→f',not_mem_nil→g',length_map→h',drop_length_add_append→i',range→j',append_assoc→k',replicate_succ→l',flatMap_append→o',cons_append→p',all_eq_true→q',take_zero→r',length_filterMap_le→s',length_replicate→t',length→u'
open Nat renaming pow_le_pow_right→v',eq_zero_or_pos→w',min_le_left→x'
open UInt8 renaming ofNat→y',lt_iff_toNat_lt→z'
open UInt64 renaming ofNat→A',toNat→B',toNat_toUInt8→C'
open ByteArray renaming empty→D'
namespace Go.Abs
open RowKit Proofs Proofs.Tryz
structure Ls where
 tag:UInt64
 fr:Int
 tto:Int
 nx:Int
deriving DecidableEq
def lsC(x:Ls):List AV:=[.w x.tag,.i x.fr,.i x.tto,.i x.nx]
attribute [go_sem] lsC
def lsP(x:Ls):List PV:=[wd x.tag,.v (.int .i64 x.fr),.v (.int .i64 x.tto),.v (.int .i64 x.nx)]
def ls0:Ls:=⟨0,0,0,0⟩
def gX(x:Ls):Bool:=decide (0<=x.fr/\x.fr<=x.nx/\x.nx<=x.tto/\x.tto<=16)
theorem BW(x:Ls):FPure prog 81 [.agg [.w x.tag,.i x.fr,.i x.tto,.i x.nx]] (.b (gX x)):=by
 apply ba f81 [0,1,2];intro c J a Y Z;exact afY
theorem rv(x:Ls):FPure prog 30 [.agg [.w x.tag,.i x.fr,.i x.tto,.i x.nx]] (.b (gX x)):=by
 apply ba f30 [0,1,2];intro c J a Y Z;exact afY
def dy(x:Ls):List UInt8:=if gX x then dc x.tag 8++[u8i x.fr,u8i x.tto,u8i x.nx] else[]
theorem cb3(a b d:Int):[AV.p (.v (.int .u8 (c'.wrap a))),AV.p (.v (.int .u8 (c'.wrap b))),AV.p (.v (.int .u8 (c'.wrap d)))]=cb [u8i a,u8i b,u8i d]:=by
 simp only[cb,bt,u8i,u8w,hX,List.map_nil]
theorem TA(x:Ls):FPure prog 26 [.agg [.w x.tag,.i x.fr,.i x.tto,.i x.nx]] (.p (.data 1 (dy x).length ((dy x).map bt))):=by
 apply ba f26 [0,1,2,5];intro c J b Y Z;obtain⟨R,a⟩:∃R,dy x=R:=⟨_,rfl⟩;rw[a] at Y Z;(try rw[a]);unfold dy at a;refine δ (BW x) ?_;simp only[go_sem,J];cases hv:gX x with
 |false =>
  rw[hv] at a;subst a;simp only[go_sem,J]
 |true =>
  rw[hv] at a;subst a;simp only[go_sem,J]
  first|refine io Y (ks:=[0,1,2,5]) (n:=2000) 1 (by simp only[go_sem];rfl) κ rfl (by rw[J];exact GV [x.tag] 1 rfl ε ε) rfl rfl (by simp[ax,ak,keys]) (by simp only[bV,ak,aM,cm,cF,and_self]) ?_|refine ip Y (ks:=[0,1,2,5]) (n:=2000) 1 (by simp only[go_sem];rfl) κ rfl (by rw[J];exact GV [x.tag] 1 rfl ε ε) rfl rfl (by simp[ax,ak,keys]) (by simp only[bV,ak,aM,cm,cF,and_self]) rfl ?_
  exact ahv
theorem pR(x:Ls):FPure prog 35 [.agg [.w x.tag,.i x.fr,.i x.tto,.i x.nx]] (.p (.data 1 (dy x).length ((dy x).map bt))):=by
 apply ba f35 [0,1,2,5];intro c J b Y Z;obtain⟨R,a⟩:∃R,dy x=R:=⟨_,rfl⟩;rw[a] at Y Z;(try rw[a]);unfold dy at a;refine δ (rv x) ?_;simp only[go_sem,J];cases hv:gX x with
 |false =>
  rw[hv] at a;subst a;simp only[go_sem,J]
 |true =>
  rw[hv] at a;subst a;simp only[go_sem,J]
  first|refine io Y (ks:=[0,1,2,5]) (n:=2000) 1 (by simp only[go_sem];rfl) κ rfl (by rw[J];exact fk [x.tag] 1 rfl ε ε) rfl rfl (by simp[ax,ak,keys]) (by simp only[bV,ak,aM,cm,cF,and_self]) ?_|refine ip Y (ks:=[0,1,2,5]) (n:=2000) 1 (by simp only[go_sem];rfl) κ rfl (by rw[J];exact fk [x.tag] 1 rfl ε ε) rfl rfl (by simp[ax,ak,keys]) (by simp only[bV,ak,aM,cm,cF,and_self]) rfl ?_
  exact ahv
structure LR where
 x:Ls
 e:Int
def EA(b:List UInt8):Ls:=⟨aB b 8,((b.getD 8 0).toNat:Int),((b.getD 9 0).toNat:Int),((b.getD 10 0).toNat:Int)⟩
def jx(b:List UInt8):LR:=if b.length=11/\gX (EA b)=true then⟨EA b,0⟩ else⟨ls0,2⟩
def TB(r:LR):AV := .tup [.agg [.w r.x.tag,.i r.x.fr,.i r.x.tto,.i r.x.nx],.i r.e]
attribute [go_sem] TB
theorem bO(x:UInt8):a'.wrap (x.toNat:Int)=(x.toNat:Int):=by
 have:=x.toNat_lt;rw[ab ω ω]
theorem TC(b:List UInt8)(n:Nat)(d:b.length=n)(l:n<1000000000):FPure prog 118 [.p (.data 1 n (b.map bt))] (TB (jx b)):=by
 apply ba f118 [0,2,3,4,6,9,25,26,27,28,41];intro c J g Y Z;obtain⟨R,hR⟩:∃R,jx b=R:=⟨_,rfl⟩;rw[hR] at Y Z;(try rw[hR]);unfold jx at hR;rw[d] at hR;by_cases h11:n=11
 .subst h11;simp only[go_sem,J,bO];refine⟨ω,ω,ω,π,?_⟩;have j:EA b=⟨aB (b.take 8) 8,((b.getD 8 0).toNat:Int),((b.getD 9 0).toNat:Int),((b.getD 10 0).toNat:Int)⟩:=by rw[gt _ _ _ (c7 _)];rfl
  have e:(b.take 8).length=8:=by simp[d]
  refine ay Y g [0,2,3,4,6,9,25,26,27,28,41] 8 (fun i=>⟨44,[(2,.ptr 0 0),(4,.ptr 1 0),(25,.p (.data 1 8 ((b.take 8).map bt))),(26,.i 8),(27,.i i)],[(1,some ⟨73,[.w (aB (b.take 8) i),.i (b.getD 8 0).toNat,.i (b.getD 9 0).toNat,.i (b.getD 10 0).toNat]⟩),(0,some ⟨73,[.w 0,.i 0,.i 0,.i 0]⟩)],2⟩) [] (fun i=>i) ?_ ?_
  .refine⟨rfl,?_,?_,rfl,rfl,trivial,fun i h=>h⟩
   .exact κ
   .simp only[go_sem,aB];rfl
  .intro i o;generalize f:aB (b.take 8) i=m;rcases ea i 8 with a|a
   .have k:=ac i
    simp only[go_sem,J,dS,kZ m 8 ε,g6,fK,pA,j9,(ω:((i:Int)<8))];refine⟨ω,ω,a,eh rfl ?_ ?_ rfl rfl (c7 _)⟩
    .simp only[go_sem,k]
    .simp only[go_sem,aB,f]
   .obtain rfl:i=8:=by omega
    subst f;rw[j] at hR;generalize aB (b.take 8) 8=m at *;simp only[go_sem,J,(ω:¬((8:Int)<8))];apply aa Z (BW ⟨m,((b.getD 8 0).toNat:Int),((b.getD 9 0).toNat:Int),((b.getD 10 0).toNat:Int)⟩);exact agm
 .exact ahM
theorem O3(b:List UInt8)(n:Nat)(a:b.length=n)(e:n<1000000000):FPure prog 93 [.p (.data 1 n (b.map bt))] (TB (jx b)):=by
 apply ba f93 [0,2,3,4,7,27];intro c J f Y Z;obtain⟨R,hR⟩:∃R,jx b=R:=⟨_,rfl⟩;rw[hR] at Y Z;(try rw[hR]);unfold jx at hR;rw[a] at hR;by_cases h11:n=11
 .subst h11;have d:EA b=⟨aB (b.take 8) 8,((b.getD 8 0).toNat:Int),((b.getD 9 0).toNat:Int),((b.getD 10 0).toNat:Int)⟩:=by rw[gt _ _ _ (c7 _)];rfl
  refine δ (nH (b.take 8) 8 (by simp[a]) ε ε) ?_;simp only[go_sem,J,bO];rw[d] at hR;generalize aB (b.take 8) 8=m at *;refine⟨ω,ω,ω,π,?_⟩;apply aa Z (rv ⟨m,((b.getD 8 0).toNat:Int),((b.getD 9 0).toNat:Int),((b.getD 10 0).toNat:Int)⟩);exact agm
 .exact ahM
theorem xN:∀(n t:Nat) (acc:Array Value),(∀j,j<acc.size->(acc.getD j undef).oneCell'=true)->∀j,j<(Extern.BytealgMakeNoZero.digits n t acc).size->((Extern.BytealgMakeNoZero.digits n t acc).getD j undef).oneCell'=true
 |0,_,acc,h,j,hj=>h j hj
 |n+1,t,acc,h,j,hj=>by
  refine xN n (t/256) _ (fun i a=>?_) j hj;simp only[Array.size_push] at a;rcases ea i acc.size with h1|h1
  .have:=h i h1;rw[kc,Array.getElem?_push,b0 ω]
   rwa [kc] at this
  .obtain rfl:i=acc.size:=by omega
   rw[kc,Array.getElem?_push_size];rfl
theorem O4{P:Program}(w:World)(ps:Array TypeId)(t e:TypeId)(c:P.underlying t=some (.slice e))(n:Nat)(g:n<=281474976710656) :
 ∃cs:Array Value,(Extern.BytealgMakeNoZero.makeNoZero ps #[t] #[.int .i64 n]).run P w = .ok (.slice (some ⟨w.heap.size,0,none⟩) n cs.size) (w.drew.drew.alloc (.cells cs e))/\n<=cs.size/\∀j,j<cs.size->(cs.getD j undef).oneCell'=true:=by
 have b:Extern.BytealgMakeNoZero.makeNoZero ps #[t] #[.int .i64 n] =
  (do
   let .slice elem<-underlying t|stuck "bytealg.MakeNoZero: slice type expected"
   if(n:Int)<0||(n:Int)>2^48 then runtimePanic (.error "makeslice: len out of range")
   let cap<-choose (.appendCap (n:Int).toNat 0 elem)
   askRoom cap
   let bytes<-choose (.extern "internal/bytealg.MakeNoZero.bytes" 0)
   let a<-newRow elem (Extern.BytealgMakeNoZero.digits cap bytes #[])
   pure (.slice (some a) (n:Int).toNat cap)):=rfl
 refine⟨Extern.BytealgMakeNoZero.digits (grownCap w n 0 e) ((Question.extern "internal/bytealg.MakeNoZero.bytes" 0).cut (w.tape (w.drawn+1) (.extern "internal/bytealg.MakeNoZero.bytes" 0))) #[],?_,?_,?_⟩
 .rw[b];have h1:¬(n:Int)<0:=ω;have h2:¬(281474976710656:Int)<(n:Int):=ω;simp[qs c,h1,h2,Question.forced,newRow,Lib.size_digits,grownCap]
 .rw[Lib.size_digits];simpa using grownCap_ge w n 0 e
 .exact fun j d=>xN _ _ _ (fun i f=>by simp at f) j d
theorem O5{P:Program}{f:FuncId}{d:Func}{ps:Array TypeId}{t e:TypeId}(s:P.funcs[f]?=some d)(b:(d.name=="runtime.NumGoroutine")=false)(x:d.body.isNone=true)(y:Extern.findNext d=none)
 (z:Extern.find d=some (Extern.BytealgMakeNoZero.makeNoZero ps #[t])) (A:P.underlying t=some (.slice e)) (n:Nat) (g:n<=281474976710656):Con P f [.p (.v (.int .i64 n))] [] (.sl 0 0 n 1) [(0,some ⟨e,e' n .any⟩)] where
 call:={
  tri:=by
   intro ρ F us w a hz B
   have h:=B 0 _ rfl
   obtain⟨u,rfl⟩:∃u,us=#[u]:=by
    exact aiH
   have h:Rd ρ F w (.p (.v (.int .i64 n))) u:=h
   have h:=h.pv
   subst h
   have⟨cs,k,m,o⟩:=O4 (P:=P) w ps t e A n g
   refine .inr ⟨_,_,by rw[run_callFunc_extern s b x y z,k];rfl,eG ρ 0 w.heap.size,F,?_⟩
   have r:ρ 0=none:=a.fresh 0 ξ (by simp[liveK])
   refine Post.newBlk (w1:=w.drew.drew) a.fok r (by simpa using m) (fun j c q=>?_) rfl rfl rfl rfl ?_
   .rw[List.getElem?_replicate] at q
    split at q
    .cases q
     exact⟨o j ω,.any _⟩
    .cases q
   .exact .sl _ _ _ _ w.heap.size _ (by simp[eG]) m ⟨_,_,_,heap_alloc_new w.drew.drew _,η⟩}
 ids:=by simp[ak,ax]
 idh:=trivial
 sub:=fun i C=>by cases C
theorem QW(n:Nat)(a:n<=281474976710656):Con prog 244 [.i n] [] (.sl 0 0 n 1) [(0,some ⟨bP,e' n .any⟩)] :=
 O5 func244 π π π (ps:=#[3]) (t:=28) π underlying28 n a
theorem O6(n:Nat)(j:n<1000000):FPure prog 321 [.p (.v (.int .u64 1)),.p (.v (.int .u64 n))] (.tup [.p (.v (.int .u64 0)),.p (.v (.int .u64 n))]):=by
 apply ba f321 [0,1,4,5,6,7,8,9,10,11,12,13];intro c J k Y Z;refine θ ?_;have a:ishr .u64 1 32=0:=ε;have b:ishr .u64 (n:Int) 32=0:=by
  show Int.fdiv (n:Int) (2^32)=_;rw[Int.fdiv_eq_ediv_of_nonneg _ ε];omega
 have d:ishr .u64 0 32=0:=ε;have e:band .u64 1 4294967295=1:=ε;have f:band .u64 0 4294967295=0:=ε;have g:band .u64 (n:Int) 4294967295=(n:Int):=by
  have:=qU n 4294967295 ω ω;rw[show((4294967295:Nat):Int)=4294967295 from rfl] at this;rw[this,show(4294967295:Nat)=2^32-1 from rfl,Nat.and_two_pow_sub_one_eq_mod,ie ω]
 have h:d'.wrap 0=0:=ε;have i:d'.wrap (n:Int)=n:=ao ω ω;simp only[a,b,e,g,Int.zero_mul,Int.mul_zero,Int.one_mul,h,i,d,f,Int.add_zero]
 first|done|exact⟨rfl,rfl⟩|exact⟨rfl,trivial⟩|trivial
theorem abb(n:Nat)(a:n<1000000):FPure prog 243 [.p (.v (.int .u64 1)),.p (.v (.int .u64 n))] (.tup [.p (.v (.int .u64 0)),.p (.v (.int .u64 n))]):=by
 apply ba f243 [0,1,4,5,6,7,8,9];intro c J b Y Z;refine δ (O6 n a) ?_;simp only[go_sem,J]
@[simp] theorem KV(T:List Nat):∀n:Nat,ak T (e' n AV.any)
 |0=>trivial
 |n+1=>⟨trivial,KV T n⟩
theorem vb(τ:Nat->Nat):∀n:Nat,eu τ (e' n AV.any)=e' n .any
 |0=>rfl
 |n+1=>by rw[l',eu,vb τ n];rfl
theorem vc(h:bv)(S:List Nat)(σ:Nat->Nat):∀n:Nat,aj h S σ (e' n AV.any) (e' n AV.any)
 |0=>by simp[aj]
 |n+1=>by rw[l'];simp only[aj,aS,true_and];exact vc h S σ n
def ma(n i:Nat):List AV:=cb (e' i 255)++e' (n-i) .any
theorem BX{n i:Nat}(h:i<=n):(ma n i).length=n:=by simp[ma];omega
theorem sI(h:bv)(S:List Nat)(σ:Nat->Nat):∀(a b:List AV),aj h S σ a a->aj h S σ b b->aj h S σ (a++b) (a++b)
 |[],b,_,hb=>hb
 |x::a,b,ha,hb=>by
  simp only[p',aj] at ha⊢;exact⟨ha.1,sI h S σ a b ha.2 hb⟩
theorem nA(h:bv)(S:List Nat)(σ:Nat->Nat)(n i:Nat):aj h S σ (ma n i) (ma n i):=sI _ _ _ _ _ (aC _ _ _ _) (vc _ _ _ _)
theorem oQ:∀(xs ys zs:List AV),xs.length<=zs.length->bY (ys++zs) ys.length xs=ys++(xs++zs.drop xs.length):=by
 intro xs
 induction xs with
 |nil=>intro ys zs _;simp[bY]
 |cons x xs a =>
  intro ys zs h;cases zs with
  |nil=>simp at h
  |cons z zs =>
   rw[bY];have e:(ys++z::zs).set ys.length x=(ys++[x])++zs:=η;rw[e,show ys.length+1=(ys++[x]).length by simp,a (ys++[x]) zs χ];simp
theorem xO{n i c:Nat}(h:i<=n)(e:c<=i):bY (ma n i) i (((ma n i).take c).take (min c (n-i)))=ma n (i+min c (n-i)):=by
 have b:min c (n-i)<=i:=ω;have d:((ma n i).take c).take (min c (n-i))=cb (e' (min c (n-i)) 255):=by
  rw[List.take_take,Nat.min_eq_left (x' _ _)];unfold ma;rw[List.take_append_of_le_length (by simpa using b),AQ];congr 1;rw[List.take_replicate,Nat.min_eq_left b]
 rw[d];generalize f:min c (n-i)=m at *;have a:m<=n-i:=ω;have:=oQ (cb (e' m 255)) (cb (e' i 255)) (e' (n-i) .any) (by simpa using a);simp only[wL,t'] at this;unfold ma;rw[this,List.drop_replicate,<-k',dX,List.replicate_append_replicate];congr 2;omega
theorem KW(n:Nat)(h:1<=n):(e' n AV.any).set 0 (AV.p (.v (.int .u8 ((UInt8.toNat 255:Nat):Int))))=ma n 1:=by
 cases n with
 |zero=>omega
 |succ n=>simp[bY,l',ma,cb,bt]
def ajq:List Nat:=[0,1,4,5,6,7,8,9,10,11,13,16,32,38,42,50,63]
attribute[go_sem]ajq
theorem BY(n:Nat)(l:n<1000000)(h1:1<=n):FPure prog 174 [.p (.data 1 1 [bt 255]),.i n] (.p (.data 1 n ((e' n 255).map bt))):=by
 refine ba f174 ajq ?_;intro c J j Y Z;have m:d'.wrap (n:Int)=n:=ao ω ω;have o:a'.wrap (n:Int)=n:=ab ω ω;have w1:d'.wrap 1=1:=ε;have q:a'.wrap (a'.wrap (Int.tdiv 8192 1)*1)=8192:=ε;have k:min 1 n=1:=ω;simp only[go_sem,J,(ω:¬((n:Int)=0)),(ω:¬((n:Int)<0)),m,w1];refine aa Z (abb n l) ?_;simp only[go_sem,J,o,q,(ω:¬((n:Int)>9223372036854775807))];by_cases h:(n:Int)>8192
 .simp only[go_sem,J,h,(ω:¬((0:Int)>0))];refine wF Y (ks:=ajq) (n:=2000) 1 (by rw[J];exact QW n ω) rfl rfl (by simp[ax,ak,keys]) (by simp[bV,ak,ax]) ?_;simp only[go_sem,J,k,vb,KW n h1];refine⟨⟨ω,ω⟩,h1,?_⟩;refine bl Y j ajq (α:={i:Nat // 1<=i/\i<=n}) (fun i=>⟨77,[(7,.i n),(8,.i 8192),(9,.sl 0 0 n 1),(10,.i i.1)],[(0,some ⟨bP,ma n i.1⟩)],1⟩) (fun i=>n-i.1) ⟨1,ω,ω⟩ [] (fun i=>i) ?_ ?_
  .exact ah3
  .rintro⟨i,d,a⟩;rcases ea i n with e|f
   .have hc:((i:Int)<(n:Int)):=ω;have b:(if(8192:Int)<(i:Int) then(8192:Int) else(i:Int))=((min i 8192:Nat):Int):=by
     split<;>omega
    have g:a'.wrap ((i:Int)+((min (min i 8192) (n-i):Nat):Int))=((i+min (min i 8192) (n-i):Nat):Int):=by rw[ab ω ω];omega
    simp only[go_sem,J,hc,b,g,BX a,xO a (x' i 8192)];refine⟨⟨ω,ω,ω⟩,⟨ω,ω⟩,⟨ω,ω⟩,π,⟨i+min (min i 8192) (n-i),ω,ω⟩,by simp only;omega,aA [0] rfl ?_ ?_ rfl rfl (c7 _)⟩
    .exact κ
    .simp only[go_sem];exact nA _ _ _ _ _
   .exact agS
 .simp only[go_sem,J,h,(ω:¬((0:Int)>0))];refine wF Y (ks:=ajq) (n:=2000) 1 (by rw[J];exact QW n ω) rfl rfl (by simp[ax,ak,keys]) (by simp[bV,ak,ax]) ?_;simp only[go_sem,J,k,vb,KW n h1];refine⟨⟨ω,ω⟩,h1,?_⟩;refine bl Y j ajq (α:={i:Nat // 1<=i/\i<=n}) (fun i=>⟨77,[(7,.i n),(8,.i n),(9,.sl 0 0 n 1),(10,.i i.1)],[(0,some ⟨bP,ma n i.1⟩)],1⟩) (fun i=>n-i.1) ⟨1,ω,ω⟩ [] (fun i=>i) ?_ ?_
  .exact ah3
  .rintro⟨i,d,a⟩;rcases ea i n with e|f
   .have hc:((i:Int)<(n:Int)):=ω;have b:(if(n:Int)<(i:Int) then(n:Int) else(i:Int))=((min i n:Nat):Int):=by
     split<;>omega
    have g:a'.wrap ((i:Int)+((min (min i n) (n-i):Nat):Int))=((i+min (min i n) (n-i):Nat):Int):=by rw[ab ω ω];omega
    simp only[go_sem,J,hc,b,g,BX a,xO a (x' i n)];refine⟨⟨ω,ω,ω⟩,⟨ω,ω⟩,⟨ω,ω⟩,π,⟨i+min (min i n) (n-i),ω,ω⟩,by simp only;omega,aA [0] rfl ?_ ?_ rfl rfl (c7 _)⟩
    .exact κ
    .simp only[go_sem];exact nA _ _ _ _ _
   .exact agS
theorem BZ(ps:Int):FPure prog 97 [.i ps,.i 2] (.tup [PK (cW ps 2),.i (mF ps 2)]):=by
 apply ba f97 [0,1,4,5,16];intro c J g Y Z;obtain⟨F,a⟩:∃F,cW ps 2=F:=⟨_,rfl⟩
 obtain⟨e,b⟩:∃e,mF ps 2=e:=⟨_,rfl⟩;rw[a,b] at Y Z⊢;unfold cW at a;unfold mF at b;refine δ (CF ps) ?_;by_cases h:512<=ps/\ps<=8192
 .rw[b0 ω] at a b;subst a b;obtain⟨p,rfl⟩:=i0 (show 0<=ps by omega);have d:a'.wrap ((p:Int)*2)=((p*2:Nat):Int):=by rw[ab ω ω];omega
  have f:((p:Int)*2).toNat=p*2:=ω;rw[f] at Y Z;simp only[go_sem,J,h,decide_true,d,(ω:¬((2:Int)>8))]
  first|refine df Y (ks:=[0,1,4,5,16]) (n:=2000) ?_ ?_ rfl (by rw[J];exact BY (p*2) ω ω) (by simp only[go_sem,ax,ak,and_self]) ?_|refine dg Y (ks:=[0,1,4,5,16]) (n:=2000) ?_ ?_ rfl (by rw[J];exact BY (p*2) ω ω) (by simp only[go_sem,ax,ak,and_self]) ?_
  .simp only[go_sem];rfl
  .exact κ
  simp only[go_sem,J]
 .rw[b9 ω] at a b;subst a b;simp only[go_sem,J,h,decide_false]
def wY(f:aO):List AV:=[.w f.mo,.w f.se,.i f.ps,.b f.fi,.w f.ase,.i f.ah,.i f.af,.i f.ato,.p (.data 1 f.ce.length (f.ce.map byP))]
attribute [go_sem] wY
def jy(f:aO):Prop:=f.ps<512\/f.ps>8192\/f.ah<0\/f.ah>4\/f.af<0\/f.af>f.ato\/f.ato>iF .i64 1 f.ah
instance (f:aO):Decidable (jy f):=by unfold jy;infer_instance
def gV(f:aO):Int:=if jy f then 9 else if 3<f.ce.length then 8 else if f.ce.all (fun c=>decide (c.length<=512)) then 0 else 8
def mc(f:aO):aU:=if gV f=0 then kV f 0 (cW f.ps 2) else I6
theorem mJ(y:Dvp)(ce bs pr ids:SlP)(h1:eqP ce.pv y.fac.ce.pv)(h2:eqP bs.pv y.v.bs.pv)(a:eqP pr.pv y.v.pr.pv)(b:eqP ids.pv y.nx.ids.pv) :
 cy (dvC {y with fac:={y.fac with ce:=ce},v:={y.v with bs:=bs,pr:=pr},nx:={y.nx with ids:=ids} }) (dvC y) :=
 ⟨rfl,rfl,rfl,rfl,rfl,rfl,rfl,rfl,h1,rfl,h2,rfl,rfl,rfl,rfl,a,rfl,rfl,rfl,rfl,rfl,rfl,rfl,rfl,rfl,rfl,rfl,rfl,rfl,rfl,rfl,b,trivial⟩
theorem fy:cy (dvC (bp I6)) (dvC dv0):=mJ dv0 _ _ _ _ ⟨rfl,rfl⟩ ⟨rfl,rfl⟩ ⟨rfl,rfl⟩ ⟨rfl,rfl⟩
theorem TD(x:Dvp):cy (dvC x) (dvC x):=av _
attribute [go_sem] TD
@[simp] theorem abc(T:List Nat)(f:aO):ak T (wY f):=by simp[wY,ak,ax]
theorem KX(f:aO)(now:Int)(m:Fl)(n:Nat)(a:m.bs.length=n):FPure prog 98 [.agg (wY f),.i now,.agg [.i m.ps,.p (.data 1 n (m.bs.map bt))]] (bg (kV f now m)):=by
 apply ba f98 [0,1,2,3,5,6];intro c J b Y Z;subst a;exact ahE
def ajr:List Nat:=[0,1,2,3,4,6,7,8,46,51,54,55,56,57,62,79]
attribute[go_sem]ajr
theorem TE(f:aO)(z:f.ce.length<1000000000)(t:∀b,b∈f.ce->b.length<1000000000):FPure prog 37 [.agg (wY f)] (.tup [bg (mc f),.i (gV f)]):=by
 apply ba f37 ajr;intro c J u Y Z;obtain⟨R,hR⟩:∃R,gV f=R:=⟨_,rfl⟩;rw[hR] at Y Z;(try rw[hR]);have hD:mc f=if R=0 then kV f 0 (cW f.ps 2) else I6:=by unfold mc;rw[hR]
 have bad:jy f->R=9/\mc f=I6:=fun h=>by unfold gV at hR;rw[b9 h] at hR;subst hR;exact⟨rfl,by rw[hD,b0 ε]⟩
 generalize mc f=D at *;by_cases h1:f.ps<512
 .obtain⟨rfl,rfl⟩:=bad (.inl h1);simp only[go_sem,J,h1];exact⟨π,fy⟩
 by_cases h2:f.ps>8192
 .obtain⟨rfl,rfl⟩:=bad (.inr (.inl h2));simp only[go_sem,J,h1,h2];exact⟨π,fy⟩
 by_cases d:f.ah<0
 .obtain⟨rfl,rfl⟩:=bad (.inr (.inr (.inl d)));simp only[go_sem,J,h1,h2,d];exact⟨π,fy⟩
 by_cases e:f.ah>4
 .obtain⟨rfl,rfl⟩:=bad (.inr (.inr (.inr (.inl e))));simp only[go_sem,J,h1,h2,d,e];exact⟨π,fy⟩
 by_cases g:f.af<0
 .obtain⟨rfl,rfl⟩:=bad (.inr (.inr (.inr (.inr (.inl g)))));simp only[go_sem,J,h1,h2,d,e,g];exact⟨π,fy⟩
 by_cases j:f.af>f.ato
 .obtain⟨rfl,rfl⟩:=bad (.inr (.inr (.inr (.inr (.inr (.inl j))))));simp only[go_sem,J,h1,h2,d,e,g,j];exact⟨π,fy⟩
 by_cases k:f.ato>iF .i64 1 f.ah
 .obtain⟨rfl,rfl⟩:=bad (.inr (.inr (.inr (.inr (.inr (.inr k))))));simp only[go_sem,J,h1,h2,d,e,g,j,k];exact⟨ω,π,fy⟩
 have m:¬jy f:=fun h=>by unfold jy at h;simp only[h1,h2,d,e,g,j,k,or_self] at h
 unfold gV at hR;rw[b0 m] at hR;by_cases s:(f.ce.length:Int)>3
 .rw[b9 ω] at hR;subst hR;rw[b0 ε] at hD;subst hD;simp only[go_sem,J,h1,h2,d,e,g,j,k,s];exact⟨ω,π,fy⟩
 rw[b0 ω] at hR;simp only[go_sem,J,h1,h2,d,e,g,j,k,s];refine⟨ω,π,aX iS ?_⟩;generalize o:f.ce=l at *;refine bl Y u ajr (α:={i:Nat // i<=l.length/\∀b,b∈l.take i->b.length<=512}) (fun i=>⟨85,[(1,.ptr 0 0),(2,.ptr 1 0),(3,.i 0),(4,.sl 2 0 i.1 1),(54,.p (.data 1 l.length (l.map byP))),(55,.i l.length),(56,.i i.1)],[(2,some ⟨iS,byL (l.take i.1)⟩),(1,some ⟨41,dvC dv0⟩),(0,some ⟨27,[.w f.mo,.w f.se,.i f.ps,.b f.fi,.w f.ase,.i f.ah,.i f.af,.i f.ato,.p (.data 1 l.length (l.map byP))]⟩)],3⟩) (fun i=>l.length-i.1) ⟨0,gi _,η⟩ [] (fun i=>i) ?_ ?_
 .refine⟨rfl,?_,?_,rfl,rfl,trivial,fun i h=>h⟩
  .exact κ
  .simp only[go_sem,r',byL,List.map_nil]
 .rintro⟨i,A,hsm⟩;rcases ea i l.length with a|a
  .have hc':((i:Int)<(l.length:Int)):=ω;have hmem:l.getD i []∈l:=by rw[show l.getD i []=l[i]'a from by simp[cR,a]];exact ix _
   have hta:l.take (i+1)=l.take i++[l.getD i []]:=by rw[f'];simp[cR,a]
   have v:=t _ hmem;generalize hb:l.getD i []=b at *;have y:=ac i
   by_cases h9:(b.length:Int)>512
   .exact agv
   .simp only[go_sem,J,hc',bC,hb,byP,h9];refine⟨ω,ω,?_⟩;apply aa Z (yy (b.map bt) b.length η ω);simp only[go_sem,J,y];refine⟨⟨ω,ω,ω⟩,⟨i+1,a,fun x hx=>?_⟩,by simp only;omega,aA [0,1,4] rfl ?_ ?_ rfl rfl (c7 _)⟩
    .exact aih
    .exact κ
    .simp only[go_sem,hta];exact dK _ _ _ _
  .obtain rfl:i=l.length:=by omega
   rw[cD (c7 _)] at hsm;have hc':¬((l.length:Int)<(l.length:Int)):=ω;have hall:l.all (fun c=>decide (c.length<=512))=true:=by
    rw[q'];exact fun c q=>by simpa using hsm c q
   rw[b9 hall] at hR;subst hR;rw[b9 rfl] at hD;have r:mF f.ps 2=0:=by unfold mF;rw[b0 ω]
   simp only[go_sem,J,hc'];refine gU Y (ks:=ajr) (n:=2000) 2 ?_ ?_
   .simp only[go_sem];omega
   .refine δ (BZ f.ps) ?_;simp only[go_sem,J,r,List.take_length];subst o;apply aa Z (KX f 0 (cW f.ps 2) _ rfl);rw[<-hD];simp only[go_sem,J]
theorem TF(f:aO)(y:f.ce.length<1000000000)(s:∀b,b∈f.ce->b.length<1000000000):FPure prog 49 [.agg (wY f)] (.tup [bg (mc f),.i (gV f)]):=by
 apply ba f49 [0,1,2,3,4,5,44,49,55,64];intro c J t Y Z;obtain⟨R,hR⟩:∃R,gV f=R:=⟨_,rfl⟩;rw[hR] at Y Z;(try rw[hR]);have hD:mc f=if R=0 then kV f 0 (cW f.ps 2) else I6:=by unfold mc;rw[hR]
 have bad:jy f->R=9/\mc f=I6:=fun h=>by unfold gV at hR;rw[b9 h] at hR;subst hR;exact⟨rfl,by rw[hD,b0 ε]⟩
 generalize mc f=D at *;by_cases h1:f.ps<512
 .obtain⟨rfl,rfl⟩:=bad (.inl h1);simp only[go_sem,J,h1];exact fy
 by_cases h2:f.ps>8192
 .obtain⟨rfl,rfl⟩:=bad (.inr (.inl h2));simp only[go_sem,J,h1,h2];exact fy
 by_cases d:f.ah<0
 .obtain⟨rfl,rfl⟩:=bad (.inr (.inr (.inl d)));simp only[go_sem,J,h1,h2,d];exact fy
 by_cases e:f.ah>4
 .obtain⟨rfl,rfl⟩:=bad (.inr (.inr (.inr (.inl e))));simp only[go_sem,J,h1,h2,d,e];exact fy
 by_cases g:f.af<0
 .obtain⟨rfl,rfl⟩:=bad (.inr (.inr (.inr (.inr (.inl g)))));simp only[go_sem,J,h1,h2,d,e,g];exact fy
 by_cases k:f.af>f.ato
 .obtain⟨rfl,rfl⟩:=bad (.inr (.inr (.inr (.inr (.inr (.inl k))))));simp only[go_sem,J,h1,h2,d,e,g,k];exact fy
 have j:d'.wrap f.ah=f.ah:=ao ω ω;by_cases m:f.ato>iF .i64 1 f.ah
 .obtain⟨rfl,rfl⟩:=bad (.inr (.inr (.inr (.inr (.inr (.inr m))))));simp only[go_sem,J,h1,h2,d,e,g,k,j,m];exact⟨ω,fy⟩
 have n:¬jy f:=fun h=>by unfold jy at h;simp only[h1,h2,d,e,g,k,m,or_self] at h
 unfold gV at hR;rw[b0 n] at hR;by_cases r:(f.ce.length:Int)>3
 .rw[b9 ω] at hR;subst hR;rw[b0 ε] at hD;subst hD;simp only[go_sem,J,h1,h2,d,e,g,k,j,m,r];exact⟨ω,fy⟩
 rw[b0 ω] at hR;simp only[go_sem,J,h1,h2,d,e,g,k,j,m,r];refine⟨ω,?_⟩;generalize o:f.ce=l at *;refine bl Y t [0,1,2,3,4,5,44,49,55,64] (α:={i:Nat // i<=l.length/\∀b,b∈l.take i->b.length<=512}) (fun i=>⟨78,[(1,.ptr 0 0),(2,.ptr 1 0),(3,.i 0),(4,.i i.1)],[(1,some ⟨41,dvC dv0⟩),(0,some ⟨27,[.w f.mo,.w f.se,.i f.ps,.b f.fi,.w f.ase,.i f.ah,.i f.af,.i f.ato,.p (.data 1 l.length (l.map byP))]⟩)],2⟩) (fun i=>l.length-i.1) ⟨0,gi _,η⟩ [] (fun i=>i) ?_ ?_
 .exact afM
 .rintro⟨i,z,hsm⟩;rcases ea i l.length with a|a
  .have hc':((i:Int)<(l.length:Int)):=ω;have hmem:l.getD i []∈l:=by rw[show l.getD i []=l[i]'a from by simp[cR,a]];exact ix _
   have hta:l.take (i+1)=l.take i++[l.getD i []]:=by rw[f'];simp[cR,a]
   have u:=s _ hmem;generalize hb:l.getD i []=b at *;have v:=ac i
   by_cases h9:(b.length:Int)>512
   .exact agv
   .simp only[go_sem,J,hc',bC,hb,byP,h9,v];refine⟨ω,ω,⟨i+1,a,fun x hx=>?_⟩,by simp only;omega,aA [0,1] rfl ?_ ?_ rfl rfl (c7 _)⟩
    .exact aih
    .exact κ
    .exact κ
  .obtain rfl:i=l.length:=by omega
   rw[cD (c7 _)] at hsm;have hc':¬((l.length:Int)<(l.length:Int)):=ω;have hall:l.all (fun c=>decide (c.length<=512))=true:=by
    rw[q'];exact fun c q=>by simpa using hsm c q
   rw[b9 hall] at hR;subst hR;rw[b9 rfl] at hD;simp only[go_sem,J,hc'];apply aa Z (Eu f.ps 2);subst o;generalize A:cW f.ps 2=F at *;subst hD;exact ahE
def itC(x:ItM):List AV:=[.b x.act,.i x.sin,.w x.hsh,.i x.flg,.p (.data 1 x.ids.length (x.ids.map byP))]
attribute [go_sem] itC
@[simp] theorem aeO(T:List Nat)(f:ItM):ak T (itC f):=by simp[itC,ak,ax]
def gp(b:List UInt8):UInt64:=aB b b.length
def VLen(s:ai):Prop:=s.length<1000000000/\∀x,x∈s->x.2.length<1000000000
theorem VLen.get{s:ai}(h:VLen s)(k:Int):(vgetM k s).length<1000000000:=by
 have a:∀{l:ai},(∀x,x∈l->x.2.length<1000000000)->(vgetM k l).length<1000000000:=by
  intro l b
  induction l with
  |nil=>simp[vgetM]
  |cons p l c =>
   unfold vgetM;split
   .exact b p η
   .exact c fun x d=>b x (by simp[d])
 exact a h.2
def vtC(v:Vt):List AV:=[.i v.j.ps,.p (.data 1 v.j.bs.length (v.j.bs.map bt)),.i v.j.page,.i v.j.gen,.i v.j.tail,.b v.j.torn,.p (.data 2 v.prs.length (gB v.prs))]
attribute [go_sem] vtC
@[simp] theorem aeP(T:List Nat)(v:Vt):ak T (vtC v):=by simp[vtC,ak,ax]
theorem KY(a b:Nat)(ha:a<16777216)(c:b<256):bor .i64 (iF .i64 (a:Int) 8) (b:Int)=((a*256+b:Nat):Int):=by
 have e:iF .i64 (a:Int) 8=((a*256:Nat):Int):=by
  show a'.wrap ((a:Int)*2^8)=_;rw[ab ω ω];omega
 rw[e];exact agi
theorem vd(v:Vt)(k:Int)(hv:VLen v.prs):FPure prog 43 [.agg (vtC v),.i k] (.w (gp (vgetM k v.prs))):=by
 apply ba f43 [0,1,2,4,5,7,10,11,12,13];intro c J e Y Z;refine δ (qu v _ k hv.1 (fun x f=>by have:=hv.2 x f;omega)) ?_;have hg:=hv.get k;generalize vgetM k v.prs=b at *;refine θ ?_;refine ay Y e [0,1,2,4,5,7,10,11,12,13] b.length (fun i=>⟨23,[(5,.w (aB b i)),(10,.p (.data 1 b.length (b.map bt))),(11,.i b.length),(12,.i i)],[],1⟩) [] (fun i=>i) ?_ ?_
 .exact aiL
 .intro i l;generalize d:aB b i=m;rcases ea i b.length with a|a
  .have g:=ac i
   simp only[go_sem,J,dS,kZ m 8 ε,g6,fK,pA,j9,(ω:((i:Int)<(b.length:Int)))];refine⟨ω,ω,a,aA [] rfl ?_ trivial rfl rfl (gi _)⟩;simp only[go_sem,aB,d,g]
  .obtain rfl:i=b.length:=by omega
   subst d;have j:¬((b.length:Int)<(b.length:Int)):=ω;simp only[go_sem,J,j];rfl
theorem zP(v:Vt)(hv:VLen v.prs)(o:(vgetM 2 v.prs).length<=4):FPure prog 121 [.agg (vtC v)] (.i (gp (vgetM 2 v.prs)).toNat):=by
 apply ba f121 [0,1,2,3,4,5,11];intro c J f Y Z;refine δ (o8 v _ 2 hv.1 (fun x g=>by have:=hv.2 x g;omega)) ?_;generalize vgetM 2 v.prs=b at *;refine θ ?_;refine ay Y f [0,1,2,3,4,5,11] b.length (fun i=>⟨23,[(3,.i (aB b i).toNat),(4,.p (.data 1 b.length (b.map bt))),(5,.i i)],[],1⟩) [] (fun i=>i) ?_ ?_
 .exact aiL
 .intro i q;rcases ea i b.length with a|a
  .have j:=ac i
   have e:=jv b i ω;have k:=hY b i ω;have l:2^(8*i)<=2^24:=v' ε ω;have d:=KY (aB b i).toNat (b.getD i 0).toNat ω (b.getD i 0).toNat_lt;rw[<-e] at d;generalize aB b i=m at *;simp only[go_sem,J,bO,d,j,(ω:((i:Int)<(b.length:Int)))];refine⟨ω,ω,a,aA [] rfl ?_ trivial rfl rfl (gi _)⟩;simp only[go_sem]
  .obtain rfl:i=b.length:=by omega
   have n:¬((b.length:Int)<(b.length:Int)):=ω;simp only[go_sem,J,n];rfl
theorem B0(d:aU)(hv:VLen d.v.prs):FPure prog 116 [bg d] (.w (gp (vgetM 1 d.v.prs))):=by
 apply ba f116 [0,1,2];intro c J a Y Z;refine δ (vd d.v 1 hv) ?_;simp only[go_sem,J]
theorem ja(d:aU)(hv:VLen d.v.prs)(a:(vgetM 1 d.v.prs).length<=8):FPure prog 18 [bg d] (.w (gp (vgetM 1 d.v.prs))):=by
 apply ba f18 [0,1,2];intro c J e Y Z;refine δ (o8 d.v _ 1 hv.1 (fun x b=>by have:=hv.2 x b;omega)) ?_;refine δ (qw (vgetM 1 d.v.prs) _ rfl a) ?_;simp only[go_sem,J];rfl
def jZ(d:aU):UInt64:=ij (gp (vgetM 1 d.v.prs)) [100,114,97,119] (a'.wrap (((gp (vgetM 2 d.v.prs)).toNat*1048576:Nat)+band .i64 d.dr 1048575))
def l5(d:aU):aU:={d with dr:=a'.wrap (d.dr+1)}
theorem KZ(d:aU)(hv:VLen d.v.prs)(g:(vgetM 2 d.v.prs).length<=4):FPure prog 46 [bg d] (.tup [bg (l5 d),.w (jZ d)]):=by
 have a:=hY (vgetM 2 d.v.prs) _ (show(vgetM 2 d.v.prs).length<=8 by omega);have b:2^(8*(vgetM 2 d.v.prs).length)<=2^32:=v' ε ω;have e:(gp (vgetM 2 d.v.prs)).toNat<4294967296:=by unfold gp;omega
 apply ba f46 [0,1,2,3,4,5];intro c J h Y Z;refine δ (vd d.v 2 hv) ?_;unfold jZ at Y Z;generalize gp (vgetM 2 d.v.prs)=nb at *;have f:a'.wrap (nb.toNat:Int)=nb.toNat:=ab ω ω;have hs:iF .i64 (nb.toNat:Int) 20=((nb.toNat*1048576:Nat):Int):=by
  show a'.wrap ((nb.toNat:Int)*2^20)=_;rw[ab ω ω];omega
 simp only[go_sem,J,f];apply aa Z (B0 d hv);simp only[go_sem,J,hs];apply aa Z (Df (gp (vgetM 1 d.v.prs)) [100,114,97,119] _ ε);exact aiK
theorem tG(d:aU)(hv:VLen d.v.prs)(a:(vgetM 2 d.v.prs).length<=4)(b:(vgetM 1 d.v.prs).length<=8):FPure prog 123 [bg d] (.tup [bg (l5 d),.w (jZ d)]):=by
 have e:=hY (vgetM 2 d.v.prs) _ (show(vgetM 2 d.v.prs).length<=8 by omega);have f:2^(8*(vgetM 2 d.v.prs).length)<=2^32:=v' ε ω;have g:(gp (vgetM 2 d.v.prs)).toNat<4294967296:=by unfold gp;omega
 apply ba f123 [0,1,2,3,4];intro c J h Y Z;refine δ (ja d hv b) ?_;refine δ (zP d.v hv a) ?_;unfold jZ at Y Z;generalize gp (vgetM 2 d.v.prs)=nb at *;have hs:iF .i64 (nb.toNat:Int) 20=((nb.toNat*1048576:Nat):Int):=by
  show a'.wrap ((nb.toNat:Int)*2^20)=_;rw[ab ω ω];omega
 simp only[go_sem,J,hs];apply aa Z (nT (gp (vgetM 1 d.v.prs)) [100,114,97,119] _ ε);exact aiK
structure DR where
 d:aU
 left:Int
 e:Int
def th(r:DR):AV := .tup [bg r.d,.i r.left,.i r.e]
attribute [go_sem] th
def jz(d:aU)(v:Vt)(e:Int):DR:=if e=16 then⟨kV d.fac d.now (flOf v.j),0,16⟩ else⟨d,0,e⟩
def beB(n:Nat):List UInt8:=[y' (n/16777216),y' (n/65536),y' (n/256),y' n]
def gk:List UInt8:=[109,97,115,116,101,114]
def bootL(f:aO)(s:ai)(n:Nat):ai :=
 if(vgetM 1 s).length=0 then[(1,dc (ij f.se gk ((n*1048576:Nat):Int)) 8),(2,beB n),(16,dy ⟨0,f.af,f.ato,f.af⟩)] else[(2,beB n)]
theorem K0(d:aU):FPure prog 128 [bg d] (bg (kV d.fac d.now (flOf d.v.j))):=by
 apply ba f128 [0,1,2];intro c J a Y Z;exact ahE
theorem xP(d:aU)(v:Vt)(e:Int):FPure prog 42 [bg d,.agg (vtC v),.i e] (th (jz d v e)):=by
 apply ba f42 [0,1,2,3,4,6,7,8,10];intro c J b Y Z;obtain⟨R,a⟩:∃R,jz d v e=R:=⟨_,rfl⟩;rw[a] at Y Z;(try rw[a]);unfold jz at a;by_cases h:e=16
 .rw[b9 h] at a;subst a;simp only[go_sem,J,h];apply aa Z (KX d.fac d.now (flOf v.j) _ rfl);simp only[go_sem,J]
 .rw[b0 h] at a;subst a;simp only[go_sem,J,h]
theorem nB(d:aU)(v:Vt)(e:Int):FPure prog 95 [bg d,.agg (vtC v),.i e] (th (jz d v e)):=by
 apply ba f95 [0,1,2,3,4,6,7,8,10];intro c J b Y Z;obtain⟨R,a⟩:∃R,jz d v e=R:=⟨_,rfl⟩;rw[a] at Y Z;(try rw[a]);unfold jz at a;by_cases h:e=16
 .rw[b9 h] at a;subst a;simp only[go_sem,J,h];apply aa Z (K0 {d with v:=v});simp only[go_sem,J]
 .rw[b0 h] at a;subst a;simp only[go_sem,J,h]
theorem K1(x:UInt64):FPure prog 47 [.w x] (.agg [.w x,.b false,.w 0,.i 0,sv [],.i 0]):=by
 apply ba f47 [0,2];intro c J a Y Z;simp only[go_sem,J];rfl
theorem pT(x:UInt64):FPure prog 124 [.w x] (.agg [.w x,.b false,.w 0,.i 0,sv [],.i 0]):=by
 apply ba f124 [0,2];intro c J a Y Z;simp only[go_sem,J];rfl
theorem zQ(n k:Nat)(h:k<=64):ishr .u64 (n:Int) (k:Int)=((n/2^k:Nat):Int):=by
 exact ag7
theorem K2(n:Nat):[AV.p (.v (.int .u8 (c'.wrap (ishr .u64 (n:Int) 24)))),AV.p (.v (.int .u8 (c'.wrap (ishr .u64 (n:Int) 16)))),AV.p (.v (.int .u8 (c'.wrap (ishr .u64 (n:Int) 8)))),AV.p (.v (.int .u8 (c'.wrap (n:Int))))]=cb (beB n):=by
 have h24:=zQ n 24 ε;have h16:=zQ n 16 ε;have h8:=zQ n 8 ε;exact ahi
theorem B1(f:aO)(v:Vt)(n:Nat)(hv:VLen v.prs)(h:n<=4294967295):FPure prog 45 [.agg (wY f),.agg (vtC v),.p (.v (.int .u64 n))] (.p (PL (bootL f v.prs n))):=by
 apply ba f45 [0,1,2,3,4,6,7,8,9,26];intro c J i Y Z;obtain⟨R,a⟩:∃R,bootL f v.prs n=R:=⟨_,rfl⟩;rw[a] at Y Z;(try rw[a]);unfold bootL at a;have hsh:iF .u64 (n:Int) 20=((n*1048576:Nat):Int):=by
  show d'.wrap ((n:Int)*2^20)=_;rw[ao ω ω];omega
 have d:a'.wrap ((n*1048576:Nat):Int)=((n*1048576:Nat):Int):=ab ω ω;simp only[go_sem,J];simp only[K2];refine gU Y (ks:=[0,1,2,3,4,6,7,8,9,26]) (n:=2000) 2 ?_ ?_
 .exact ahX
 refine δ (qu v _ 1 hv.1 (fun x g=>by have:=hv.2 x g;omega)) ?_;generalize vgetM 1 v.prs=b at *;by_cases e:b.length=0
 .rw[b9 e] at a;simp only[go_sem,J,e,hsh,d,show¬((0:Int)>0) from ε];apply aa Z (Df f.se gk _ ε);generalize ij f.se gk ((n*1048576:Nat):Int)=m at *;refine θ ?_;refine x_f Z (qf m) ?_;simp only[go_sem,J,kn];apply aa Z (TA ⟨0,f.af,f.ato,f.af⟩);generalize dy ⟨0,f.af,f.ato,f.af⟩=le at *;refine θ ?_;subst a;refine⟨π,rfl,?_⟩;simp only[fw,ft,byP,az];rfl
 .rw[b0 e] at a;subst a;simp only[go_sem,J,(ω:((b.length:Int)>0))];rfl
theorem xQ(d:aU)(n:Int):FPure prog 122 [bg d,.i n] (.p (.data 1 8 ((dc (ij d.fac.se gk n) 8).map bt))):=by
 apply ba f122 [0,1,2,4];intro c J a Y Z;refine δ (nT d.fac.se gk n ε) ?_;refine θ ?_;refine x_f Z (bI (ij d.fac.se gk n)) ?_;simp only[go_sem,J,kn]
def mK(d:aU)(now B:Int):DR :=
 if d.on then⟨d,0,18⟩ else
 if now<0\/now>1099511627776 then⟨d,0,9⟩ else
 let O:=ropenM (flOf d.v.j) B
 if O.err≠0 then jz d O.v O.err else
 let n:=(gp (vgetM 2 O.v.prs)).toNat
 if n=4294967295 then⟨d,0,13⟩ else
 let P:=rputM O.v (bootL d.fac O.v.prs (n+1)) O.left
 if P.err≠0 then jz d P.v P.err else
 let t:=if d.now<now then now else d.now
 let x:aU:=⟨d.fac,P.v,true,t,t,0,0,tj,it0⟩
 ⟨{l5 x with tok:={tj with sec:=jZ x} },P.left,0⟩
structure zR(d:aU)(B:Int):Prop where
 i64:i64 B
 len:d.v.j.bs.length<1000000000
 op:(ropenM (flOf d.v.j) B).err=0->VLen (ropenM (flOf d.v.j) B).v.prs/\(vgetM 2 (ropenM (flOf d.v.j) B).v.prs).length<=4
 pu:∀n,(ropenM (flOf d.v.j) B).err=0->(rputM (ropenM (flOf d.v.j) B).v (bootL d.fac (ropenM (flOf d.v.j) B).v.prs n) (ropenM (flOf d.v.j) B).left).err=0 ->
  VLen (rputM (ropenM (flOf d.v.j) B).v (bootL d.fac (ropenM (flOf d.v.j) B).v.prs n) (ropenM (flOf d.v.j) B).left).v.prs/\(vgetM 2 (rputM (ropenM (flOf d.v.j) B).v (bootL d.fac (ropenM (flOf d.v.j) B).v.prs n) (ropenM (flOf d.v.j) B).left).v.prs).length<=4 /\
  (vgetM 1 (rputM (ropenM (flOf d.v.j) B).v (bootL d.fac (ropenM (flOf d.v.j) B).v.prs n) (ropenM (flOf d.v.j) B).left).v.prs).length<=8
theorem pU(x:Ls):(dy x).length<=11:=by unfold dy;split<;>simp[az]
theorem mL(f:aO)(s:ai)(n:Nat):(bootL f s n).length<300/\∀x,x∈bootL f s n->x.2.length<1000:=by
 have:=pU ⟨0,f.af,f.ato,f.af⟩;unfold bootL;split
 .refine⟨η,fun x a=>?_⟩;simp only[hZ,g',or_false] at a;rcases a with rfl|rfl|rfl
  .simp[az]
  .simp[beB]
  .show(dy _).length<1000;omega
 .refine⟨η,fun x a=>?_⟩;simp only[hZ,g',or_false] at a;subst a;simp[beB]
theorem O7(d:aU)(now B:Int)(h:zR d B):FPure prog 10 [bg d,.i now,.i B] (th (mK d now B)):=by
 apply ba f10 [0,1,2,3,6,7,8,9,10,11,12,13,15,22,35,46,62];intro c J K Y Z;obtain⟨R,hR⟩:∃R,mK d now B=R:=⟨_,rfl⟩;rw[hR] at Y Z;(try rw[hR]);unfold mK at hR;by_cases hon:d.on=true
 .exact aiF
 rw[b0 hon] at hR;have b:d.on=false:=by simpa using hon
 by_cases h1:now<0
 .rw[b9 (.inl h1)] at hR;subst hR;simp only[go_sem,J,b,h1]
 by_cases h2:now>1099511627776
 .rw[b9 (.inr h2)] at hR;subst hR;simp only[go_sem,J,b,h1,h2]
 rw[b0 ω] at hR;simp only[go_sem,J,b,h1,h2];apply aa Z (Qc d.v.j.ps d.v.j.bs _ B rfl h.len h.i64);rw[M6,show(⟨d.v.j.ps,d.v.j.bs⟩:Fl)=flOf d.v.j from rfl];have z:=nR (flOf d.v.j) B h.i64 h.len;have e:=pi (flOf d.v.j) B h.i64 h.len;have n:=h.op;have f:=h.pu;have u:(flOf d.v.j).bs.length<1000000000:=h.len;generalize ropenM (flOf d.v.j) B=O at *;refine θ ?_;by_cases o:O.err=0
 case neg =>
  rw[b9 o] at hR⊢;subst hR;apply aa Z (xP d O.v O.err);simp only[go_sem,J]
 rw[b0 ω];rw[b0 ω] at hR;have⟨g,A⟩:=n o;apply aa Z (vd O.v 2 g);have C:=hY (vgetM 2 O.v.prs) _ (show(vgetM 2 O.v.prs).length<=8 by omega);have D:2^(8*(vgetM 2 O.v.prs).length)<=2^32:=v' ε ω;have E:(gp (vgetM 2 O.v.prs)).toNat<4294967296:=by unfold gp;omega
 generalize y:(gp (vgetM 2 O.v.prs)).toNat=k at *;by_cases l:k=4294967295
 .rw[b9 l] at hR;subst hR;simp only[go_sem,J,y,(ω:((k:Int)>=4294967295))]
 rw[b0 l] at hR;have p:d'.wrap ((k:Int)+1)=((k+1:Nat):Int):=by rw[ao ω ω];omega
 simp only[go_sem,J,y,(ω:¬((k:Int)>=4294967295)),p];apply aa Z (B1 d.fac O.v (k+1) g ω);have a:=mL d.fac O.v.prs (k+1);have F:=m6 O.v (bootL d.fac O.v.prs (k+1)) O.left e ω a.2 a.1;have G:=rW O.v (bootL d.fac O.v.prs (k+1)) O.left e ω a.2 a.1;have f:=f (k+1) o;refine δ (Yz O.v _ (bootL d.fac O.v.prs (k+1)) O.left rfl ω (by have:=a.1;omega) (fun x H=>by have:=a.2 x H;omega) e) ?_;rw[Qj];generalize rputM O.v (bootL d.fac O.v.prs (k+1)) O.left=P at *;refine θ ?_;by_cases m:P.err=0
 case neg =>
  rw[b9 m] at hR⊢;subst hR;refine⟨π,?_⟩;apply aa Z (xP d P.v P.err);simp only[go_sem,J]
 rw[b0 ω];rw[b0 ω] at hR;have⟨q,r,I⟩:=f m;refine⟨π,?_⟩;generalize L:(if now>d.now then now else d.now)=t at *;dsimp only at hR;apply aa Z (by exact(KZ ⟨d.fac,P.v,true,t,t,0,0,d.tok,it0⟩ q r).nil ⟨mJ _ _ _ _ _ (cY _) (cY _) (cY _) ⟨rfl,rfl⟩,trivial⟩);have s:jZ ⟨d.fac,P.v,true,t,t,0,0,d.tok,it0⟩=jZ ⟨d.fac,P.v,true,t,t,0,0,tj,it0⟩:=rfl;rw[s];generalize jZ ⟨d.fac,P.v,true,t,t,0,0,tj,it0⟩=w at *;refine δ (K1 w) ?_;subst hR;refine θ ?_;exact av _
def dF(d:aU)(l:ai)(B:Int):DR :=
 if d.on=false then⟨d,0,17⟩ else
 let P:=rputM d.v l B
 if P.err≠0 then jz d P.v P.err else⟨{d with v:=P.v},P.left,0⟩
theorem VOk.fokK{v:Vt}{G:Int}(h:VOk v G):FOk (flOf v.j) v.prs G:=by
 have a:mountM (flOf v.j)=⟨v.j,0⟩:=h.mt;exact⟨by rw[a],by rw[a];exact h.pr.symm,h.so,by rw[a];exact h.gen⟩
theorem FOk.monoK{f:Fl}{s:ai}{G H:Int}(h:FOk f s G)(hg:G<=H):FOk f s H:=⟨h.err,h.st,h.so,Int.le_trans h.gen hg⟩
theorem vg(k a:Int):∀s:ai,vgetM k (lj a s)=if a=k then[] else vgetM k s
 |[]=>by simp[lj,vgetM]
 |q::r=>by
  rw[rV];have d:=vg k a r;by_cases h1:q.1=a
  .rw[b0 (fun c=>c h1),d];by_cases h2:a=k
   .rw[b9 h2,b9 h2]
   .rw[b0 h2,b0 h2];simp only[vgetM];rw[b0 ω]
  .rw[b9 h1];simp only[vgetM];by_cases b:q.1=k
   .rw[b9 b,b0 ω,b9 b]
   .rw[b0 b,d,b0 b]
theorem B2(k a:Int)(v:List UInt8):∀s:ai,(∀x,x∈s->x.1≠a)->vgetM k (jQ a v s)=if a=k then v else vgetM k s
 |[],_=>by simp[jQ,vgetM]
 |q::r,h=>by
  have c:=B2 k a v r (fun x d=>h x (by simp[d]));have e:=h q η;simp only[jQ];split
  .simp only[vgetM]
  .simp only[vgetM];rw[c];by_cases b:q.1=k
   .rw[b9 b,b0 ω,b9 b]
   .rw[b0 b,b0 b]
theorem B3(k:Int)(s:ai)(p:Int×List UInt8):vgetM k (fb s p)=if p.1=k then p.2 else vgetM k s:=by
 unfold fb;split
 .rename_i h;rw[vg,fo h]
 .unfold DU;rw[B2 _ _ _ _ (fun x a=>by have:=(List.mem_filter.1 a).2;simpa using this),vg];by_cases h:p.1=k
  .rw[b9 h,b9 h]
  .rw[b0 h,b0 h,b0 h]
def B4(k:Int)(s x:ai):List UInt8:=x.foldl (fun w p=>if p.1=k then p.2 else w) (vgetM k s)
theorem sK(k:Int):∀(x s:ai),vgetM k (cc s x)=B4 k s x
 |[],s=>rfl
 |p::x,s=>by
  show vgetM k (cc (fb s p) x)=_;rw[sK k x (fb s p)];unfold B4;rw[s7,B3]
theorem lE(k:Int){s:ai}(h:Srt s)(x:ai):vgetM k (b7 s x)=B4 k s x:=by
 rw[(iP x s h).1,sK]
theorem VOk.vlen{v:Vt}{G:Int}(h:VOk v G):VLen v.prs :=
 ⟨by have:=h.prl;omega,fun x a=>by have:=(h.so.el x a).2.2.2;omega⟩
theorem VOk.mono{v:Vt}{G H:Int}(h:VOk v G)(hg:G<=H):VOk v H:=⟨h.mt,h.pr,h.so,Int.le_trans h.gen hg⟩
theorem zS(n k:Nat)(h:k<=64):ishr .i64 (n:Int) (k:Int)=((n/2^k:Nat):Int):=by
 exact ag7
theorem xR(n:Nat):[AV.p (.v (.int .u8 (c'.wrap (ishr .i64 (n:Int) 24)))),AV.p (.v (.int .u8 (c'.wrap (ishr .i64 (n:Int) 16)))),AV.p (.v (.int .u8 (c'.wrap (ishr .i64 (n:Int) 8)))),AV.p (.v (.int .u8 (c'.wrap (n:Int))))]=cb (beB n):=by
 have h24:=zS n 24 ε;have h16:=zS n 16 ε;have h8:=zS n 8 ε;exact ahi
def ajm:List Nat:=[0,1,2,3,6,7,8,9,10,11,12,13,14,15,16,18,25,38,49,57,82,108]
attribute[go_sem]ajm
theorem Gf(d:aU)(now B:Int)(h:zR d B):FPure prog 50 [bg d,.i now,.i B] (th (mK d now B)):=by
 apply ba f50 ajm;intro c J G Y Z;obtain⟨R,hR⟩:∃R,mK d now B=R:=⟨_,rfl⟩;rw[hR] at Y Z;(try rw[hR]);unfold mK at hR;by_cases hon:d.on=true
 .exact aiF
 rw[b0 hon] at hR;have e:d.on=false:=by simpa using hon
 by_cases h1:now<0
 .rw[b9 (.inl h1)] at hR;subst hR;simp only[go_sem,J,e,h1]
 by_cases h2:now>1099511627776
 .rw[b9 (.inr h2)] at hR;subst hR;simp only[go_sem,J,e,h1,h2]
 rw[b0 ω] at hR;simp only[go_sem,J,e,h1,h2];apply aa Z (Qa d.v.j.ps d.v.j.bs _ B rfl h.len h.i64);rw[show(⟨d.v.j.ps,d.v.j.bs⟩:Fl)=flOf d.v.j from rfl];have z:=nR (flOf d.v.j) B h.i64 h.len;have b:=pi (flOf d.v.j) B h.i64 h.len;have o:=h.op;have hpu:=h.pu;have u:(flOf d.v.j).bs.length<1000000000:=h.len;generalize ropenM (flOf d.v.j) B=O at *;refine θ ?_;by_cases p:O.err=0
 case neg =>
  rw[b9 p] at hR⊢;subst hR;apply aa Z (nB d O.v O.err);simp only[go_sem,J]
 rw[b0 ω];rw[b0 ω] at hR;have⟨g,q⟩:=o p;apply aa Z (zP O.v g q);have A:=hY (vgetM 2 O.v.prs) _ (show(vgetM 2 O.v.prs).length<=8 by omega);have C:2^(8*(vgetM 2 O.v.prs).length)<=2^32:=v' ε ω;have D:(gp (vgetM 2 O.v.prs)).toNat<4294967296:=by unfold gp;omega
 generalize y:(gp (vgetM 2 O.v.prs)).toNat=k at *;by_cases l:k=4294967295
 .rw[b9 l] at hR;subst hR;simp only[go_sem,J,y,(ω:((k:Int)=4294967295))]
 rw[b0 l] at hR;have r:=ac k
 simp only[go_sem,J,y,(ω:¬((k:Int)=4294967295)),r];apply aa Z (o8 O.v _ 1 g.1 (fun x f=>by have:=g.2 x f;omega));have a:=mL d.fac O.v.prs (k+1);have E:=m6 O.v (bootL d.fac O.v.prs (k+1)) O.left b ω a.2 a.1;have F:=rW O.v (bootL d.fac O.v.prs (k+1)) O.left b ω a.2 a.1;have hpu:=hpu (k+1) p;by_cases s:(vgetM 1 O.v.prs).length=0
 .have hL:bootL d.fac O.v.prs (k+1)=[(1,dc (ij d.fac.se gk (((k+1)*1048576:Nat):Int)) 8),(2,beB (k+1)),(16,dy ⟨0,d.fac.af,d.fac.ato,d.fac.af⟩)]:=by unfold bootL;rw[b9 s]
  have hsh:iF .i64 ((k+1:Nat):Int) 20=(((k+1)*1048576:Nat):Int):=by
   show a'.wrap (((k+1:Nat):Int)*2^20)=_;rw[ab ω ω];omega
  simp only[go_sem,J,s,hsh];apply aa Z (xQ d _);generalize H:ij d.fac.se gk (((k+1)*1048576:Nat):Int)=m at *;simp only[go_sem,J];simp only[xR];refine gU Y (ks:=ajm) (n:=2000) 5 ?_ ?_
  .exact ahX
  refine δ (pR ⟨0,d.fac.af,d.fac.ato,d.fac.af⟩) ?_;generalize dy ⟨0,d.fac.af,d.fac.ato,d.fac.af⟩=le at *;simp only[go_sem,J]
  first|refine df Y (ks:=ajm) (n:=2000) ?_ ?_ rfl (by rw[J];exact vS O.v _ (bootL d.fac O.v.prs (k+1)) O.left rfl ω ω (by have:=a.1;omega) (fun x f=>by have:=a.2 x f;omega) b) (by simp only[go_sem,ax,ak,and_self]) ?_|refine dg Y (ks:=ajm) (n:=2000) ?_ ?_ rfl (by rw[J];exact vS O.v _ (bootL d.fac O.v.prs (k+1)) O.left rfl ω ω (by have:=a.1;omega) (fun x f=>by have:=a.2 x f;omega) b) (by simp only[go_sem,ax,ak,and_self]) ?_
  .rw[hL];simp only[go_sem,fw,ft,byP,az];exact⟨rfl,rfl⟩
  .exact κ
  exact afD
 .have hL:bootL d.fac O.v.prs (k+1)=[(2,beB (k+1))]:=by unfold bootL;rw[b0 s]
  simp only[go_sem,J,(ω:¬(((vgetM 1 O.v.prs).length:Int)=0))];simp only[xR];refine gU Y (ks:=ajm) (n:=2000) 3 ?_ ?_
  .exact ahX
  simp only[go_sem,J]
  first|refine df Y (ks:=ajm) (n:=2000) ?_ ?_ rfl (by rw[J];exact vS O.v _ (bootL d.fac O.v.prs (k+1)) O.left rfl ω ω (by have:=a.1;omega) (fun x f=>by have:=a.2 x f;omega) b) (by simp only[go_sem,ax,ak,and_self]) ?_|refine dg Y (ks:=ajm) (n:=2000) ?_ ?_ rfl (by rw[J];exact vS O.v _ (bootL d.fac O.v.prs (k+1)) O.left rfl ω ω (by have:=a.1;omega) (fun x f=>by have:=a.2 x f;omega) b) (by simp only[go_sem,ax,ak,and_self]) ?_
  .rw[hL];simp only[go_sem];rfl
  .exact κ
  exact afD
def bc(s:ai)(i:Nat):LR:=jx (vgetM (16+(i:Int)) s)
def cz(s:ai)(n:Nat):List (Nat×Ls):=(j' n).filterMap fun i=>if(bc s i).e=0 then some (i,(bc s i).x) else none
abbrev bq(s:ai):List (Nat×Ls):=cz s 16
theorem gK(s:ai)(n:Nat):cz s (n+1)=if(bc s n).e=0 then cz s n++[(n,(bc s n).x)] else cz s n:=by
 unfold cz;exact aiu
theorem sL(s:ai)(n:Nat):(cz s n).length<=n:=by
 have:=s' (fun i=>if(bc s i).e=0 then some (i,(bc s i).x) else none) (j' n);unfold cz;simpa using this
def nlP(p:Nat×Ls):List PV:=[.v (.int .i64 p.1),wd p.2.tag,.v (.int .i64 p.2.fr),.v (.int .i64 p.2.tto),.v (.int .i64 p.2.nx)]
def n8(l:List (Nat×Ls)):List PV:=l.flatMap nlP
def nlA(l:List (Nat×Ls)):List AV:=(n8 l).map .p
theorem K3(l:List (Nat×Ls))(p:Nat×Ls):nlA l++[.i p.1,.w p.2.tag,.i p.2.fr,.i p.2.tto,.i p.2.nx]=nlA (l++[p]):=by simp[nlA,n8,nlP]
theorem K4(l:List (Nat×Ls)):(n8 l).length=l.length*5:=by
 induction l with
 |nil=>rfl
 |cons p l a=>simp only[n8,s6,c9,ew] at a⊢;rw[a];simp[nlP];omega
theorem Gg(l:List (Nat×Ls)):(nlA l).length=l.length*5:=by unfold nlA;rw[h',K4]
theorem B5(h:bv)(S:List Nat)(σ:Nat->Nat)(l:List (Nat×Ls)):aj h S σ (nlA l) (nlA l):=aL h S σ _
def ajs:List Nat:=[0,1,2,3,4,8,9,10,11,12,13,14,15,29]
attribute[go_sem]ajs
theorem EC(d:aU)(hv:VLen d.v.prs):FPure prog 117 [bg d,.i 16,.i 16,.p (.v (.func (.func 118) #[] #[]))] (.p (.data 5 (bq d.v.prs).length (n8 (bq d.v.prs)))):=by
 apply ba f117 ajs;intro c J l Y Z;refine θ ?_;apply aX 108;refine ay Y l ajs 16 (fun i=>⟨38,[(1,.i 16),(3,.p (.v (.func (.func 118) #[] #[]))),(4,.ptr 0 0),(9,.sl 1 0 (cz d.v.prs i).length 5),(13,.i 16),(14,.i i)],[(1,some ⟨108,nlA (cz d.v.prs i)⟩),(0,some ⟨41,dvC (bp d)⟩)],2⟩) [] (fun i=>i) ?_ ?_
 .refine⟨rfl,?_,?_,rfl,rfl,trivial,fun i h=>h⟩
  .simp only[go_sem];rfl
  .simp only[go_sem];exact af1
 .intro i q;rcases ea i 16 with a|a
  .have k:=ac i
   have m:a'.wrap (16+(i:Int))=16+(i:Int):=ab ω ω;have hs:=gK d.v.prs i;have g:=sL d.v.prs i;simp only[go_sem,J,m,(ω:((i:Int)<16))];apply aa Z (qu d.v _ (16+(i:Int)) hv.1 (fun x n=>by have:=hv.2 x n;omega));have hg:=hv.get (16+(i:Int));generalize o:vgetM (16+(i:Int)) d.v.prs=b at *;refine δ (TC b _ rfl hg) ?_;have j:bc d.v.prs i=jx b:=by unfold bc;rw[o]
   rw[j] at hs;generalize jx b=L at *;generalize r:cz d.v.prs i=N at *;generalize cz d.v.prs (i+1)=N' at *;by_cases f:L.e=0
   .rw[b9 f] at hs;subst hs;simp only[go_sem,J,f,k];refine⟨⟨Gg N,ω,ω⟩,a,aA [0,4] rfl ?_ ?_ rfl rfl (c7 _)⟩
    .exact κ
    .rw[K3 N (i,L.x)];simp only[go_sem];exact B5 _ _ _ _
   .rw[b0 f] at hs;subst hs;simp only[go_sem,J,f,k];refine⟨a,aA [0,1] rfl ?_ ?_ rfl rfl (c7 _)⟩
    .exact κ
    .simp only[go_sem];exact B5 _ _ _ _
  .obtain rfl:i=16:=by omega
   have g:=Gg (cz d.v.prs 16);simp only[go_sem,J,(ω:¬((16:Int)<16))];exact ah8
theorem K5(d:aU)(hv:VLen d.v.prs):FPure prog 48 [bg d] (.p (.data 5 (bq d.v.prs).length (n8 (bq d.v.prs)))):=by
 apply ba f48 [0,1,2];intro c J a Y Z;refine δ (EC d hv) ?_;simp only[go_sem,J]
def B6(l:List Ls):List PV:=l.flatMap lsP
theorem K6(l:List Ls):(B6 l).length=l.length*4:=by
 induction l with
 |nil=>rfl
 |cons p l a=>simp only[B6,s6,c9,ew] at a⊢;rw[a];simp[lsP];omega
def lsA(l:List Ls):List AV:=(B6 l).map .p
theorem B7(l:List Ls)(p:Ls):lsA l++[.w p.tag,.i p.fr,.i p.tto,.i p.nx]=lsA (l++[p]):=by simp[lsA,B6,lsP]
theorem tH(l:List Ls):(lsA l).length=l.length*4:=by unfold lsA;rw[h',K6]
theorem B8(h:bv)(S:List Nat)(σ:Nat->Nat)(l:List Ls):aj h S σ (lsA l) (lsA l):=aL h S σ _
theorem O8(l:List (Nat×Ls))(i:Nat)(h:i<l.length):(n8 l).drop (i*5)=nlP (l.getD i (0,ls0))++n8 (l.drop (i+1)):=by
 induction l generalizing i with
 |nil=>simp at h
 |cons p l a =>
  cases i with
  |zero=>simp[n8]
  |succ i =>
   have:=a i χ;have e:(n8 (p::l)).drop ((i+1)*5)=(n8 l).drop (i*5):=by
    rw[show n8 (p::l)=nlP p++n8 l from by simp[n8],show(i+1)*5=(nlP p).length+i*5 from by simp[nlP];omega,i']
   rw[e,this];simp
theorem H6(l:List (Nat×Ls))(g:l.length<1000):FPure prog 99 [.p (.data 5 l.length (n8 l))] (.p (.data 4 l.length (B6 (l.map (·.2))))):=by
 apply ba f99 [0,2,3,5,6,7,8,9];intro c J e Y Z;refine θ ?_;apply aX 73;refine ay Y e [0,2,3,5,6,7,8,9] l.length (fun i=>⟨19,[(3,.sl 0 0 i 4),(6,.p (.data 5 l.length (n8 l))),(7,.i l.length),(8,.i i)],[(0,some ⟨73,lsA ((l.take i).map (·.2))⟩)],1⟩) [] (fun i=>i) ?_ ?_
 .refine⟨rfl,?_,?_,rfl,rfl,trivial,fun i h=>h⟩
  .exact κ
  .refine akv ?_;exact af1
 .intro i j;rcases ea i l.length with a|a
  .have f:=ac i
   have b:=O8 l i a;have d:l.take (i+1)=l.take i++[l.getD i (0,ls0)]:=by rw[f'];simp[cR,a]
   generalize l.getD i (0,ls0)=p at *;simp only[go_sem,J,f,b,nlP,(ω:((i:Int)<(l.length:Int)))];refine⟨ω,⟨by rw[tH];simp;omega,ω,ω⟩,a,aA [3] rfl ?_ ?_ rfl rfl (c7 _)⟩
   .exact κ
   .rw[B7,d];simp only[go_sem,List.map_append];exact B8 _ _ _ _
  .obtain rfl:i=l.length:=by omega
   have hll:=tH ((l.take l.length).map (·.2));exact agk
theorem H7(d:aU)(hv:VLen d.v.prs):FPure prog 39 [bg d] (.p (.data 4 (bq d.v.prs).length (B6 ((bq d.v.prs).map (·.2))))):=by
 apply ba f39 [0,1,2];intro c J a Y Z;refine δ (K5 d hv) ?_;have:(bq d.v.prs).length<=16:=sL d.v.prs 16;refine δ (H6 (bq d.v.prs) ω) ?_;simp only[go_sem,J]
abbrev rdT:Nat:=257
def ajn:List Nat:=[0,2,3,4,5,6,7,8,10,20,38,39,45,56,61,79,94,95,96,97,117]
attribute[go_sem]ajn
theorem O9:Con prog 296 [.ptr 0 0] [(0,some ⟨rdT,[.p (.v (.slice none 0 0)),.i 0,.p (.data 1 0 []),.i 0]⟩)] (.tup [.i 0,.p (.v (.int .u64 0)),.i 1]) [(0,some ⟨rdT,[.p (.v (.slice none 0 0)),.i 0,.p (.data 1 0 []),.i 0]⟩)]:=by
 apply bn 1 f296 ajn;intro c J a Y Z;refine wi ?_;rw[b9 ε];exact agq
def ajp:List Nat:=[0,2,3,4,5,6,7,8,9,17,26,32,33,37,39,43,57,93]
attribute[go_sem]ajp
theorem Pa:Con prog 214 [.ptr 0 0] [(0,some ⟨rdT,[.p (.v (.slice none 0 0)),.i 0,.p (.data 1 0 []),.i 0]⟩)] (.tup [.agg [.i 0,.p (.v (.int .u64 0)),sv []],.i 1]) [(0,some ⟨rdT,[.p (.v (.slice none 0 0)),.i 0,.p (.data 1 0 []),.i 0]⟩)]:=by
 apply bn 1 f214 ajp;intro c J a Y Z;refine θ ?_;apply co Y (ks:=ajp) (n:=2000) [] (fun i=>i) 2 (by rw[J];exact O9) ⟨κ,κ,rfl,trivial,cV rfl,fun i hi => .inl (by simp[keys] at hi;simp[liveK,hi]),by simp[ax,ak],by simp[bV,ak,ax],rfl⟩;refine θ ?_;exact agq
theorem Pb:Con prog 213 [.ptr 0 0] [(0,some ⟨rdT,[.p (.v (.slice none 0 0)),.i 0,.p (.data 1 0 []),.i 0]⟩)] (.b false) [(0,some ⟨rdT,[.p (.v (.slice none 0 0)),.i 0,.p (.data 1 0 []),.i 0]⟩)]:=by
 apply bn 1 f213 [0,2];intro c J a Y Z;refine θ ?_;rw[b0 ε];exact agq
theorem H8:FPure prog 141 [.p (.data 1 0 [])] (.tup [.p (.v (.slice none 0 0)),.i 0,.i 1]):=by
 apply ba f141 [0,2,3,4,5,6,7,12,18];intro c J b Y Z;refine θ ?_;refine bl Y b [0,2,3,4,5,6,7,12,18] (α:=Unit) (fun _=>⟨27,[(5,.ptr 0 0)],[(0,some ⟨rdT,[.p (.v (.slice none 0 0)),.i 0,.p (.data 1 0 []),.i 0]⟩)],1⟩) (fun _=>0) () [] (fun i=>i) ?_ ?_
 .exact afM
 .rintro _;refine θ ?_;apply co Y (ks:=[0,2,3,4,5,6,7,12,18]) (n:=2000) [] (fun i=>i) 1 (by rw[J];exact Pb) ⟨κ,κ,rfl,trivial,cV rfl,fun i a => .inl (by simp[keys] at a;simp[liveK,a]),by simp[ax,ak],by simp[bV,ak,ax],rfl⟩;refine θ ?_;apply co Y (ks:=[0,2,3,4,5,6,7,12,18]) (n:=2000) [] (fun i=>i) 1 (by rw[J];exact Pa) ⟨κ,κ,rfl,trivial,cV rfl,fun i a => .inl (by simp[keys] at a;simp[liveK,a]),by simp[ax,ak],by simp[bV,ak,ax],rfl⟩;simp only[go_sem,J]
structure Cr where
 rp:List UInt8
 us:List UInt8
 nm:List UInt8
 sd:UInt64
 hg:Int
 rs:Bool
 pt:Int
 sh:Bool
 bk:Bool
deriving DecidableEq
def crP(x:Cr):List PV:=[.v (.string ⟨x.rp.toArray⟩),.v (.string ⟨x.us.toArray⟩),.v (.string ⟨x.nm.toArray⟩),wd x.sd,.v (.int .i64 x.hg),.v (.bool x.rs),.v (.int .i64 x.pt),.v (.bool x.sh),.v (.bool x.bk)]
def crC(x:Cr):List AV:=[sv x.rp,sv x.us,sv x.nm,.w x.sd,.i x.hg,.b x.rs,.i x.pt,.b x.sh,.b x.bk]
def cr0:Cr:=⟨[],[],[],0,0,false,0,false,false⟩
structure CR where
 x:Cr
 e:Int
def crAV(r:CR):AV := .tup [.agg (crC r.x),.i r.e]
attribute [go_sem] crC crAV
theorem Gh:FPure prog 72 [.p (.data 1 0 [])] (crAV ⟨cr0,2⟩):=by
 apply ba f72 [0,2,3,4,6,7,8,16,63];intro c J a Y Z;refine δ H8 ?_;refine θ ?_;exact afS
def fz(D:Nat->CR)(n:Nat):List (Nat×Cr):=(j' n).filterMap fun i=>if(D i).e=0 then some (i,(D i).x) else none
theorem rx(D:Nat->CR)(n:Nat):fz D (n+1)=if(D n).e=0 then fz D n++[(n,(D n).x)] else fz D n:=by
 unfold fz;exact aiu
theorem B9(D:Nat->CR)(n:Nat):(fz D n).length<=n:=by
 have:=s' (fun i=>if(D i).e=0 then some (i,(D i).x) else none) (j' n);unfold fz;simpa using this
def ncP(p:Nat×Cr):List PV := .v (.int .i64 p.1)::crP p.2
def n9(l:List (Nat×Cr)):List PV:=l.flatMap ncP
def ncA(l:List (Nat×Cr)):List AV:=(n9 l).map .p
theorem K7(l:List (Nat×Cr))(p:Nat×Cr):ncA l++[.i p.1,sv p.2.rp,sv p.2.us,sv p.2.nm,.w p.2.sd,.i p.2.hg,.b p.2.rs,.i p.2.pt,.b p.2.sh,.b p.2.bk]=ncA (l++[p]):=by simp[ncA,n9,ncP,crP]
theorem K8(l:List (Nat×Cr)):(n9 l).length=l.length*10:=by
 induction l with
 |nil=>rfl
 |cons p l a=>simp only[n9,s6,c9,ew] at a⊢;rw[a];simp[ncP,crP];omega
theorem Gi(l:List (Nat×Cr)):(ncA l).length=l.length*10:=by unfold ncA;rw[h',K8]
theorem Ca(h:bv)(S:List Nat)(σ:Nat->Nat)(l:List (Nat×Cr)):aj h S σ (ncA l) (ncA l):=aL h S σ _
theorem ED(d:aU)(D:Nat->CR)(hv:VLen d.v.prs)(l:∀i:Nat,i<8->FPure prog 72 [.p (.data 1 (vgetM (64+(i:Int)) d.v.prs).length ((vgetM (64+(i:Int)) d.v.prs).map bt))] (crAV (D i))):FPure prog 71 [bg d,.i 64,.i 8,.p (.v (.func (.func 72) #[] #[]))] (.p (.data 10 (fz D 8).length (n9 (fz D 8)))):=by
 apply ba f71 ajs;intro c J m Y Z;refine θ ?_;apply aX 135;refine ay Y m ajs 8 (fun i=>⟨38,[(1,.i 64),(3,.p (.v (.func (.func 72) #[] #[]))),(4,.ptr 0 0),(9,.sl 1 0 (fz D i).length 10),(13,.i 8),(14,.i i)],[(1,some ⟨135,ncA (fz D i)⟩),(0,some ⟨41,dvC (bp d)⟩)],2⟩) [] (fun i=>i) ?_ ?_
 .refine⟨rfl,?_,?_,rfl,rfl,trivial,fun i h=>h⟩
  .simp only[go_sem];rfl
  .simp only[go_sem];exact af1
 .intro i q;rcases ea i 8 with a|a
  .have k:=ac i
   have n:a'.wrap (64+(i:Int))=64+(i:Int):=ab ω ω;have hs:=rx D i;have j:=B9 D i;simp only[go_sem,J,n,(ω:((i:Int)<8))];apply aa Z (qu d.v _ (64+(i:Int)) hv.1 (fun x o=>by have:=hv.2 x o;omega));have hg:=hv.get (64+(i:Int));have f:=l i a;generalize r:vgetM (64+(i:Int)) d.v.prs=b at *;refine δ f ?_;clear f;generalize D i=L at *;generalize s:fz D i=N at *;generalize fz D (i+1)=N' at *;by_cases g:L.e=0
   .rw[b9 g] at hs;subst hs;simp only[go_sem,J,g,k];refine⟨⟨Gi N,ω,ω⟩,a,aA [0,4] rfl ?_ ?_ rfl rfl (c7 _)⟩
    .exact κ
    .rw[K7 N (i,L.x)];simp only[go_sem];exact Ca _ _ _ _
   .rw[b0 g] at hs;subst hs;simp only[go_sem,J,g,k];refine⟨a,aA [0,1] rfl ?_ ?_ rfl rfl (c7 _)⟩
    .exact κ
    .simp only[go_sem];exact Ca _ _ _ _
  .obtain rfl:i=8:=by omega
   have j:=Gi (fz D 8);simp only[go_sem,J,(ω:¬((8:Int)<8))];exact ah8
theorem wZ(d:aU)(D:Nat->CR)(hv:VLen d.v.prs)(a:∀i:Nat,i<8->FPure prog 72 [.p (.data 1 (vgetM (64+(i:Int)) d.v.prs).length ((vgetM (64+(i:Int)) d.v.prs).map bt))] (crAV (D i))):FPure prog 20 [bg d] (.p (.data 10 (fz D 8).length (n9 (fz D 8)))):=by
 apply ba f20 [0,1,2];intro c J b Y Z;refine δ (ED d D hv a) ?_;simp only[go_sem,J]
def H9(l:List Cr):List PV:=l.flatMap crP
theorem K9(l:List Cr):(H9 l).length=l.length*9:=by
 induction l with
 |nil=>rfl
 |cons p l a=>simp only[H9,s6,c9,ew] at a⊢;rw[a];simp[crP];omega
def csA(l:List Cr):List AV:=(H9 l).map .p
theorem La(l:List Cr)(p:Cr):csA l++[sv p.rp,sv p.us,sv p.nm,.w p.sd,.i p.hg,.b p.rs,.i p.pt,.b p.sh,.b p.bk]=csA (l++[p]):=by simp[csA,H9,crP]
theorem Gj(l:List Cr):(csA l).length=l.length*9:=by unfold csA;rw[h',K9]
theorem Lb(h:bv)(S:List Nat)(σ:Nat->Nat)(l:List Cr):aj h S σ (csA l) (csA l):=aL h S σ _
theorem Pc(l:List (Nat×Cr))(i:Nat)(h:i<l.length):(n9 l).drop (i*10)=ncP (l.getD i (0,cr0))++n9 (l.drop (i+1)):=by
 induction l generalizing i with
 |nil=>simp at h
 |cons p l a =>
  cases i with
  |zero=>simp[n9]
  |succ i =>
   have:=a i χ;have e:(n9 (p::l)).drop ((i+1)*10)=(n9 l).drop (i*10):=by
    rw[show n9 (p::l)=ncP p++n9 l from by simp[n9],show(i+1)*10=(ncP p).length+i*10 from by simp[ncP,crP];omega,i']
   rw[e,this];simp
theorem Ia(l:List (Nat×Cr))(g:l.length<1000):FPure prog 19 [.p (.data 10 l.length (n9 l))] (.p (.data 9 l.length (H9 (l.map (·.2))))):=by
 apply ba f19 [0,2,3,5,6,7,8,9];intro c J e Y Z;refine θ ?_;apply aX 46;refine ay Y e [0,2,3,5,6,7,8,9] l.length (fun i=>⟨19,[(3,.sl 0 0 i 9),(6,.p (.data 10 l.length (n9 l))),(7,.i l.length),(8,.i i)],[(0,some ⟨46,csA ((l.take i).map (·.2))⟩)],1⟩) [] (fun i=>i) ?_ ?_
 .refine⟨rfl,?_,?_,rfl,rfl,trivial,fun i h=>h⟩
  .exact κ
  .refine akv ?_;exact af1
 .intro i j;rcases ea i l.length with a|a
  .have f:=ac i
   have b:=Pc l i a;have d:l.take (i+1)=l.take i++[l.getD i (0,cr0)]:=by rw[f'];simp[cR,a]
   generalize l.getD i (0,cr0)=p at *;simp only[go_sem,J,f,b,ncP,crP,(ω:((i:Int)<(l.length:Int)))];refine⟨ω,⟨by rw[Gj];simp;omega,ω,ω⟩,a,aA [3] rfl ?_ ?_ rfl rfl (c7 _)⟩
   .exact κ
   .rw[La,d];simp only[go_sem,List.map_append];exact Lb _ _ _ _
  .obtain rfl:i=l.length:=by omega
   have hll:=Gj ((l.take l.length).map (·.2));exact agk
theorem vh(d:aU)(D:Nat->CR)(hv:VLen d.v.prs)(a:∀i:Nat,i<8->FPure prog 72 [.p (.data 1 (vgetM (64+(i:Int)) d.v.prs).length ((vgetM (64+(i:Int)) d.v.prs).map bt))] (crAV (D i))):FPure prog 6 [bg d] (.p (.data 9 (fz D 8).length (H9 ((fz D 8).map (·.2))))):=by
 apply ba f6 [0,1,2];intro c J b Y Z;refine δ (wZ d D hv a) ?_;have:(fz D 8).length<=8:=B9 D 8;refine δ (Ia (fz D 8) ω) ?_;simp only[go_sem,J]
theorem j0{f:aO}(h:gV f=0):¬jy f/\f.ce.length<=3/\mc f=kV f 0 (cW f.ps 2):=by
 have a:mc f=kV f 0 (cW f.ps 2):=by unfold mc;rw[b9 h]
 unfold gV at h;split at h
 .cases h
 .rename_i h1;split at h
  .cases h
  .exact⟨h1,ω,a⟩
theorem ry{ps:Int}(h1:512<=ps)(h2:ps<=8192):VFl (cW ps 2) ps.toNat 2/\(cW ps 2).bs=e' (ps.toNat*2) 255/\(cW ps 2).ps=ps:=by
 have e:cW ps 2=⟨ps,e' (ps*2).toNat 255⟩:=by unfold cW;rw[b0 ω]
 have a:(ps*2).toNat=ps.toNat*2:=ω;rw[e,a];exact⟨⟨by show ps=_;omega,ω,ω,η,ω,ω⟩,rfl,rfl⟩
theorem pV{f:aO}(h:¬jy f):gX ⟨0,f.af,f.ato,f.af⟩=true:=by
 unfold jy at h;unfold gX;have b:iF .i64 1 f.ah<=16:=by
  have h1:0<=f.ah:=ω;have h2:f.ah<=4:=ω;have⟨k,a⟩:=i0 h1;rw[a] at h2⊢;have:k=0\/k=1\/k=2\/k=3\/k=4:=ω;rcases this with rfl|rfl|rfl|rfl|rfl<;>decide
 simp only[decide_eq_true_eq];omega
theorem pW{x:Ls}(h:gX x=true):(dy x).length=11:=by unfold dy;rw[b9 h];simp[az]
def bw(f:aO)(n:Nat):ai:=[(1,dc (ij f.se gk ((n*1048576:Nat):Int)) 8),(2,beB n),(16,dy ⟨0,f.af,f.ato,f.af⟩)]
theorem rz(f:aO)(n:Nat):bootL f [] n=bw f n:=by unfold bootL;rw[b9 (by rfl)];rfl
theorem xS{f:aO}(h:¬jy f)(n:Nat):szM (bw f n)=32:=by
 have:=pW (pV h);simp only[bw,szM,az,beB,ew,km,this]
theorem zT{f:aO}(h:¬jy f)(n:Nat):di (bw f n)=0:=by
 have hs:=xS h n;unfold di;rw[b0 (by simp[bw]),b0 (by simp[bw,jR]),b0 ω]
theorem EE(f:aO)(n:Nat):Srt (bw f n):=by
 unfold Srt bw;simp
theorem Cb{f:aO}(h:¬jy f)(n:Nat):b7 [] (bw f n)=bw f n:=by
 have b:=pW (pV h);rw[(iP _ [] (by simp[Srt])).1,pd _ [] (EE f n) ?_ (fun x a=>by cases a)]
 .rfl
 .intro x a;simp only[bw,hZ,g',or_false] at a;rcases a with rfl|rfl|rfl
  .intro e;have:=congrArg u' e;simp[az] at this
  .simp[beB]
  .intro e;have:=congrArg u' e;rw[b] at this;simp at this
theorem sM{f:aO}(h:¬jy f)(n:Nat):VLen (bw f n):=by
 have b:=pW (pV h);refine⟨by simp[bw],fun x a=>?_⟩;simp only[bw,hZ,g',or_false] at a;rcases a with rfl|rfl|rfl
 .simp[az]
 .simp[beB]
 .simp only;omega
theorem Ib(f:aO)(n:Nat):vgetM 1 (bw f n)=dc (ij f.se gk ((n*1048576:Nat):Int)) 8:=rfl
theorem Ic(f:aO)(n:Nat):vgetM 2 (bw f n)=beB n:=by simp[bw,vgetM]
theorem jb{f:aO}(h:¬jy f)(n:Nat) :
 (ropenM (cW f.ps 2) (-1)).err=0/\(ropenM (cW f.ps 2) (-1)).left = -1/\(ropenM (cW f.ps 2) (-1)).v.prs=[] /\
 (rputM (ropenM (cW f.ps 2) (-1)).v (bw f n) (-1)).err=0/\(rputM (ropenM (cW f.ps 2) (-1)).v (bw f n) (-1)).left = -1 /\
 VOk (rputM (ropenM (cW f.ps 2) (-1)).v (bw f n) (-1)).v 2/\(rputM (ropenM (cW f.ps 2) (-1)).v (bw f n) (-1)).v.prs=bw f n:=by
 have g:512<=f.ps/\f.ps<=8192:=by unfold jy at h;omega
 have⟨hv,d,k⟩:=ry g.1 g.2;have b:=M9 hv d;have⟨l,m⟩:=Fm hv b;have⟨c,hpr⟩:=M8 hv b l;refine⟨l,m,hpr,?_⟩;have i:=c.ps512;have e:=xS h n;have j:b7 (ropenM (cW f.ps 2) (-1)).v.prs (bw f n)=bw f n:=by rw[hpr,Cb h]
 rcases Fh c ε (bw f n) (-1) with⟨h1,h2,o,-,-⟩|⟨-,-,p,-,-⟩|⟨-,-,-,a⟩
 .exact⟨h1,Nd _ _ h1,h2,by rw[o,j]⟩
 .omega
 .exfalso;rcases a with a|a
  .exact a (zT h n)
  .rw[j,e] at a;simp only[bw,ew,km] at a;omega
theorem vi{f:aO}(h:gV f=0){B:Int}(y:i64 B:=by unfold i64;decide):zR (mc f) B:=by
 obtain⟨a,-,e⟩:=j0 h;have g:512<=f.ps/\f.ps<=8192:=by unfold jy at a;omega
 have⟨hv,k,_⟩:=ry g.1 g.2;have b:=M9 hv k;rw[e];have q:flOf (kV f 0 (cW f.ps 2)).v.j=cW f.ps 2:=rfl;have v:(kV f 0 (cW f.ps 2)).fac=f:=rfl;refine⟨y,by show(cW f.ps 2).bs.length<_;rw[k];simp;omega,fun z=>?_,fun n z w=>?_⟩
 .rw[q] at z⊢;rw[(M8 hv b z).2];exact⟨⟨η,fun x g=>by cases g⟩,by simp[vgetM]⟩
 .rw[q] at z w⊢;rw[v] at w⊢;have⟨c,i⟩:=M8 hv b z;rw[i,rz] at w⊢;rcases Fh c ε (bw f n) _ with⟨-,-,o,-,-⟩|⟨l,-⟩|⟨l,-⟩
  .rw[o,i,Cb a];exact⟨sM a n,by rw[Ic];simp[beB],by rw[Ib,az];exact c7 _⟩
  .cases w.symm.trans l
  .exact absurd w l
def gl(f:aO)(now:Int):aU :=
 let x:aU:=⟨f,(rputM (ropenM (cW f.ps 2) (-1)).v (bw f 1) (-1)).v,true,now,now,0,0,tj,it0⟩
 {l5 x with tok:={tj with sec:=jZ x} }
theorem vj{f:aO}(h:gV f=0){now:Int}(h1:0<=now)(h2:now<=1099511627776):mK (mc f) now (-1)=⟨gl f now,-1,0⟩:=by
 obtain⟨g,-,i⟩:=j0 h;have a:=jb g 1;rw[i];have c:flOf (kV f 0 (cW f.ps 2)).v.j=cW f.ps 2:=rfl;have b:(kV f 0 (cW f.ps 2)).fac=f:=rfl;have d:(kV f 0 (cW f.ps 2)).on=false:=rfl;have e:(kV f 0 (cW f.ps 2)).now=0:=rfl;unfold mK;rw[d,c,b,e];simp only[Bool.false_eq_true,if_false];rw[b0 ω,b0 (by rw[a.1];decide),a.2.2.1,b0 ε];have k:(gp (vgetM 2 [])).toNat+1=1:=ε;rw[k,rz,a.2.1,b0 (by rw[a.2.2.2.1];decide),a.2.2.2.2.1];have l:(if 0<now then now else 0)=now:=by split<;>omega
 rw[l];rfl
theorem vk{f:aO}(h:gV f=0)(now:Int):(gl f now).v.prs=bw f 1/\VOk (gl f now).v 2:=by
 obtain⟨b,-,c⟩:=j0 h;have a:=jb b 1;exact⟨a.2.2.2.2.2.2,a.2.2.2.2.2.1⟩
theorem rA{z:Int}(a:0<=z)(h1:z<=255):((u8i z).toNat:Int)=z:=by
 unfold u8i;rw[u8w,dh];omega
theorem Lc{x:Ls}(h:gX x=true):jx (dy x)=⟨x,0⟩:=by
 have c:=pW h;have hv:=h;unfold gX at hv;simp only[decide_eq_true_eq] at hv;have a:dy x=dc x.tag 8++[u8i x.fr,u8i x.tto,u8i x.nx]:=by unfold dy;rw[b9 h]
 have d:EA (dy x)=x:=by
  unfold EA;have e:(dy x).getD 8 0=u8i x.fr:=by rw[a,eO,b0 (by simp[az]),az];rfl
  have f:(dy x).getD 9 0=u8i x.tto:=by rw[a,eO,b0 (by simp[az]),az];rfl
  have b:(dy x).getD 10 0=u8i x.nx:=by rw[a,eO,b0 (by simp[az]),az];rfl
  have g:aB (dy x) 8=x.tag:=by
   rw[<-Ga x.tag];refine jX 8 fun i j=>?_
   rw[a,eO,b9 (by rw[az];omega)]
  rw[e,f,b,g,rA ω ω,rA ω ω,rA ω ω]
 unfold jx;rw[d,b9 ⟨c,h⟩]
theorem Le:jx []=⟨ls0,2⟩:=rfl
theorem zU{f:aO}(h:¬jy f):bq (bw f 1)=[(0,⟨0,f.af,f.ato,f.af⟩)]:=by
 have c:bc (bw f 1) 0=⟨⟨0,f.af,f.ato,f.af⟩,0⟩:=by
  unfold bc;have:vgetM (16+((0:Nat):Int)) (bw f 1)=dy ⟨0,f.af,f.ato,f.af⟩:=by simp[bw,vgetM]
  rw[this,Lc (pV h)]
 have d:∀i,1<=i->bc (bw f 1) i=⟨ls0,2⟩:=fun i g=>by
  unfold bc;have:vgetM (16+(i:Int)) (bw f 1)=[]:=by
   unfold bw;simp only[vgetM];rw[b0 ω,b0 ω,b0 ω]
  rw[this,Le]
 have a:∀n,1<=n->cz (bw f 1) n=[(0,⟨0,f.af,f.ato,f.af⟩)]:=by
  intro n
  induction n with
  |zero=>intro h;omega
  |succ n e =>
   intro _;rw[gK];by_cases b:n=0
   .subst b;rw[c,b9 rfl];rfl
   .rw[d n ω,b0 ε];exact e ω
 exact a 16 ε
theorem Lf(f:aO)(i:Nat):vgetM (64+(i:Int)) (bw f 1)=[]:=by
 unfold bw;simp only[vgetM];rw[b0 ω,b0 ω,b0 ω]
theorem Lg:fz (fun _=>⟨cr0,2⟩) 8=[]:=rfl
theorem TG(d:aU)(hv:VLen d.v.prs)(h:vgetM 3 d.v.prs=[]):FPure prog 40 [bg d] (.agg [.b false,.w 0,.i 0,.i d.wr]):=by
 apply ba f40 [0,1,2,7];intro c J e Y Z;refine δ (qu d.v _ 3 hv.1 (fun x a=>by have:=hv.2 x a;omega)) ?_;simp only[go_sem,J,h,show((([]:List UInt8).length:Int)=0) from rfl];rfl
def Cc(k:Int):Int:=if k=0 then 2048 else if k=1 then 1024 else if k=2 then 512 else 640
def gL(n:Int):aO :=
 ⟨cq (band .i64 n 3),cq (((cq (band .i64 (ishr .i64 n 2) 255)).toNat:Int)+1),Cc (band .i64 (ishr .i64 n 4) 3),band .i64 (ishr .i64 n 6) 1==1,77,2,band .i64 (ishr .i64 n 7) 1,a'.wrap (2+band .i64 (ishr .i64 n 8) 1),
  ([[111,110,101],[116,119,111]]:List (List UInt8)).take (1+band .i64 (ishr .i64 n 9) 1).toNat⟩
theorem Lh{k:Int}(a:0<=k)(b:k<=3):ag (.v (.int .i64 0)) (List.drop k.toNat [AV.i 2048,.i 1024,.i 512,.i 640]) = .i (Cc k):=by
 have:k=0\/k=1\/k=2\/k=3:=ω;rcases this with rfl|rfl|rfl|rfl<;>rfl
theorem xT(n:Int):FPure prog 38 [.i n] (.agg (wY (gL n))):=by
 apply ba f38 [0,2,3];intro c J f Y Z;have b:=cg (ishr .i64 n 4) 3 ε ε;have g:=cg (ishr .i64 n 9) 1 ε ε;have a:=Lh b.1 b.2;simp only[go_sem,J,ca,a];have d:(gL n).ce=([[111,110,101],[116,119,111]]:List (List UInt8)).take (1+band .i64 (ishr .i64 n 9) 1).toNat:=rfl;rw[d];generalize band .i64 (ishr .i64 n 9) 1=k at *;have e:k=0\/k=1:=ω;rcases e with rfl|rfl
 .exact⟨⟨ω,ω⟩,ω,ε,⟨ε,aG [byP [111,110,101]]⟩,rfl,rfl,rfl,rfl,rfl,rfl,rfl,rfl,rfl,rfl⟩
 .exact⟨⟨ω,ω⟩,ω,ε,⟨ε,aG [byP [111,110,101],byP [116,119,111]]⟩,rfl,rfl,rfl,rfl,rfl,rfl,rfl,rfl,rfl,rfl⟩
theorem Pd:gV (gL 0)=0:=ε
theorem Id:FPure prog 9 [] (.b true):=by
 apply ba f9 [0,1,2,3,4,5];intro c J t Y Z;refine θ ?_;have e:=Pd;have⟨p,r,s⟩:=j0 e;have k:∀b,b∈(gL 0).ce->b.length<1000000000:=ε;have m:=vi e (B:=-1);have n:=vj e (now:=5) ε ε;obtain⟨hpr,-⟩:=vk e 5;have g:=zU p;have h:=Lf (gL 0);have a:=sM p 1;have q:vgetM 3 (bw (gL 0) 1)=[]:=by simp[bw,vgetM]
 have o:(mc (gL 0)).on=false:=by rw[s];rfl
 have j:(gl (gL 0) 5).on=true:=rfl;have d:(gl (gL 0) 5).now=5:=rfl;apply aa Z (xT 0);generalize gL 0=f at *;refine δ (TE f ω k) ?_;rw[e];generalize mc f=D at *;refine δ (O7 D 5 (-1) m) ?_;rw[n];generalize gl f 5=X at *;rw[<-hpr] at g h a q;simp only[go_sem,J,o,j,d];apply aa Z (H7 X a);rw[g];refine δ (vh X (fun _=>⟨cr0,2⟩) a (fun i u=>by rw[h i];exact Gh)) ?_;rw[Lg];refine δ (TG X a q) ?_;simp only[go_sem,J]
theorem rB:∀cs:List PV,dj (cs.map .p)=[]
 |[]=>rfl
 |c::cs=>by simp[dj,fzI,rB cs]
theorem abd(x:Dvp):dj (dvC x)=[]:=by have⟨cs,a⟩:=m7 x;rw[a];exact rB cs
attribute [go_sem] abd Zr
structure RVk where
 d:aU
 leaf:Int
 left:Int
 e:Int
def ae0(r:RVk):AV := .tup [bg r.d,.i r.leaf,.i r.left,.i r.e]
attribute [go_sem] ae0
theorem xU:∀a b:List AV,dI (a++b)=(dI a&&dI b)
 |[],b=>rfl
 |x::a,b=>by
  simp only[p',dI,xU a b];cases oneC x<;>rfl
theorem nC:∀(vs cs a b:List AV),cs.length=vs.length->bY (a++(cs++b)) a.length vs=a++(vs++b)
 |[],[],a,b,_=>by simp[bY]
 |[],c::cs,a,b,h=>by simp at h
 |v::vs,[],a,b,h=>by simp at h
 |v::vs,c::cs,a,b,h=>by
  rw[bY];have e:(a++(c::cs++b)).set a.length v=(a++[v])++(cs++b):=η;rw[e,show a.length+1=(a++[v]).length by simp,nC vs cs (a++[v]) b χ];simp
def plC(x:Dvp):List AV:=dvC x++[.p (.v (.slice none 0 0))]
theorem rC(x:Dvp):∃cs:List PV,plC x=cs.map .p:=by
 have⟨cs,a⟩:=m7 x;exact⟨cs++[.v (.slice none 0 0)],by unfold plC;rw[a];simp⟩
theorem EF(x:Dvp):(plC x).length=33:=rfl
theorem Pe:pvs z43=plC dv0:=rfl
theorem Pf(x:Dvp):(plC x).take 32=dvC x:=rfl
theorem abe(x y:Dvp):bY (plC x) 0 (dvC y)=plC y:=nC (dvC y) (dvC x) [] [.p (.v (.slice none 0 0))] rfl
theorem abf(x y:Dvp):bY (plC x) 0 (plC y)=plC y:=by
 have:=dG (plC y) (plC x) [] (by rw[EF,EF]);simpa using this
theorem abg(h:List (Nat×Option Blk))(x:Dvp):ik h (plC x):=by have⟨cs,a⟩:=rC x;rw[a];exact fc h cs
theorem abh(h:List (Nat×Option Blk))(x:Dvp):fzL h (plC x)=plC x:=by have⟨cs,a⟩:=rC x;rw[a];exact fX h cs
theorem abi(h:bv)(S:List Nat)(σ:Nat->Nat)(x:Dvp):aj h S σ (plC x) (plC x):=by have⟨cs,a⟩:=rC x;rw[a];exact aL h S σ cs
@[simp] theorem TH(T:List Nat)(x:Dvp):ak T (plC x):=by have⟨cs,a⟩:=rC x;rw[a];exact aM T cs
theorem abj(τ:Nat->Nat)(x:Dvp):eu τ (plC x)=plC x:=by have⟨cs,a⟩:=rC x;rw[a];exact cT τ cs
theorem abk(x:Dvp):dj (plC x)=[]:=by have⟨cs,a⟩:=rC x;rw[a];exact rB cs
theorem abl(x:Dvp):(plC x).take 33=plC x:=rfl
theorem abm(x:Dvp):cy (plC x) (plC x):=av _
theorem TJ(x:Dvp):dI (plC x)=true:=by unfold plC;rw[xU,Ng];rfl
attribute [go_sem] TJ EF Pe Pf abe abf abg abh abi TH abj abk abl abm
theorem zV(n:Int):gV (gL n)=0:=by
 have h:=cg (ishr .i64 n 7) 1 ε ε;have i:=cg (ishr .i64 n 8) 1 ε ε;have f:a'.wrap (2+band .i64 (ishr .i64 n 8) 1)=2+band .i64 (ishr .i64 n 8) 1:=ab ω ω;have j:512<=(gL n).ps/\(gL n).ps<=8192:=by
  show 512<=Cc _/\Cc _<=8192;unfold Cc;split
  .decide
  .split
   .decide
   .split<;>decide
 have g:iF .i64 1 2=4:=ε;have a:(gL n).ah=2:=rfl;have c:(gL n).af=band .i64 (ishr .i64 n 7) 1:=rfl;have d:(gL n).ato=2+band .i64 (ishr .i64 n 8) 1:=f;have e:¬jy (gL n):=by
  unfold jy;rw[a,c,d,g];omega
 have hc:(gL n).ce=([[111,110,101],[116,119,111]]:List (List UInt8)).take (1+band .i64 (ishr .i64 n 9) 1).toNat:=rfl;unfold gV;rw[b0 e,b0 (by rw[hc,hV];simp;omega),b9];rw[q'];intro b hb;exact aht
theorem Gk(n:Int):FPure prog 13 [.i n] (.agg (plC (bp (gl (gL n) (band .i64 n 7))))):=by
 apply ba f13 [0,2,3];intro c J k Y Z;refine δ (xT n) ?_;have a:=zV n;have e:∀b,b∈(gL n).ce->b.length<1000000000:=by
  intro b hb;have hc:(gL n).ce=([[111,110,101],[116,119,111]]:List (List UInt8)).take (1+band .i64 (ishr .i64 n 9) 1).toNat:=rfl;exact aht
 generalize gL n=f at *;have g:=j0 a
 refine δ (TF f ω e) ?_;have j:=cg n 7 ε ε;refine δ (Gf (mc f) (band .i64 n 7) (-1) (vi a)) ?_;rw[vj a ω ω];generalize gl f (band .i64 n 7)=d at *;simp only[go_sem,J]
def bgB(n:UInt64)(s:Nat):Nat->List UInt8
 |0=>[]
 |k+1=>bgB n s k++[(fu n (8*(s-1-k))).toUInt8]
theorem lF(n:UInt64)(s k:Nat):(bgB n s k).length=k:=by
 induction k with
 |zero=>rfl
 |succ k a=>simp[bgB,a]
theorem Gl(n:UInt64)(s:Nat):∀k i,i<k->(bgB n s k).getD i 0=(fu n (8*(s-1-i))).toUInt8
 |0,i,h=>by omega
 |k+1,i,h=>by
  simp only[bgB,eO,lF];split
  .exact Gl n s k i ‹_›
  .obtain rfl:i=k:=by omega
   simp
theorem abn(n:UInt64):∀k,k<=8->bgB n 8 k=dc n k
 |0,_=>rfl
 |k+1,h=>by
  simp only[bgB,dc,abn n k ω,(ω:8*(8-1-k)=56-8*k)]
theorem Gm(n:UInt64)(s:Nat)(h8:s<=8)(a:n.toNat<2^(8*s)):∀k,k<=s->(aB (bgB n s s) k).toNat=n.toNat/2^(8*(s-k))
 |0,_=>by
  simp only[aB,Nat.sub_zero];rw[Nat.div_eq_of_lt a];rfl
 |k+1,h=>by
  rw[jv _ _ ω,Gm n s h8 a k ω,Gl n s s k ω];simp only[fu];have hw:=n.toNat_lt;rw[C',gr];have e:8*(s-k)=8*(s-(k+1))+8:=ω;have b:8*(s-1-k)=8*(s-(k+1)):=ω;rw[b,e,Nat.pow_add];generalize hd:n.toNat/2^(8*(s-(k+1)))=d;exact ahr
theorem QX(n:UInt64)(s:Nat)(a:s<=8)(b:n.toNat<2^(8*s)):aB (bgB n s s) s=n:=by
 apply s9.1;rw[Gm n s a b s (c7 _)];simp
def szN(n:UInt64):Nat:=if n.toNat<24 then 0 else if n.toNat<256 then 1 else if n.toNat<65536 then 2 else if n.toNat<4294967296 then 4 else 8
def loN(n:UInt64):UInt8:=if n.toNat<24 then n.toUInt8 else if n.toNat<256 then 24 else if n.toNat<65536 then 25 else if n.toNat<4294967296 then 26 else 27
def hdB(m:UInt8)(n:UInt64):List UInt8:=(m+loN n)::bgB n (szN n) (szN n)
theorem ci(m:UInt8)(n:UInt64):(hdB m n).length=1+szN n:=by simp[hdB,lF];omega
theorem ia(n:UInt64):szN n<=8:=by(unfold szN;repeat' split);all_goals omega
theorem Gn(n:UInt64)(h:szN n≠0):n.toNat<2^(8*szN n):=by
 have:=n.toNat_lt;unfold szN at *
 repeat' split
 all_goals first|omega|(simp_all;try omega)
inductive Itm where
 |u (n:UInt64)
 |d (s:List UInt8)
 |t (s:List UInt8)
 |m (n:UInt64)
 |b (v:Bool)
def bN(v:Bool):UInt64:=if v then 1 else 0
def Itm.kd:Itm->Int
 |.u _=>1 | .d _=>3 | .t _=>4 | .m _=>6 | .b _=>7
def Itm.nu:Itm->UInt64
 |.u n=>n | .d _=>0 | .t _=>0 | .m n=>n | .b v=>bN v
def Itm.da:Itm->List UInt8
 |.u _=>[] | .d s=>s | .t s=>s | .m _=>[] | .b _=>[]
def eP(x:Itm):List AV:=[.i x.kd,.w x.nu,sv x.da]
def dW(x:Itm):List PV:=[.v (.int .i64 x.kd),wd x.nu,.v (.string ⟨x.da.toArray⟩)]
def cn:Itm->List UInt8
 |.u n=>hdB 0 n
 |.d s=>hdB 64 (A' s.length)++s
 |.t s=>hdB 96 (A' s.length)++s
 |.m n=>hdB 160 n
 |.b v=>[if v then 245 else 244]
def bB(l:List Itm):List PV:=l.flatMap dW
def cZ(l:List Itm):List AV:=(bB l).map .p
def cO(l:List Itm):List UInt8:=l.flatMap cn
attribute [go_sem] eP
theorem kI(l:List Itm):(bB l).length=l.length*3:=by
 induction l with
 |nil=>rfl
 |cons p l a=>simp only[bB,s6,c9,ew] at a⊢;rw[a];simp[dW];omega
theorem jA(l:List Itm):(cZ l).length=l.length*3:=by unfold cZ;rw[h',kI]
theorem vm(l a:List Itm):cZ l++cZ a=cZ (l++a):=by simp[cZ,bB]
theorem kJ(h:bv)(S:List Nat)(σ:Nat->Nat)(l:List Itm):aj h S σ (cZ l) (cZ l):=aL h S σ _
theorem cJ(l:List Itm)(i:Nat)(h:i<l.length):(bB l).drop (i*3)=dW (l.getD i (.b false))++bB (l.drop (i+1)):=by
 induction l generalizing i with
 |nil=>simp at h
 |cons p l a =>
  cases i with
  |zero=>simp[bB]
  |succ i =>
   have:=a i χ;have e:(bB (p::l)).drop ((i+1)*3)=(bB l).drop (i*3):=by
    rw[show bB (p::l)=dW p++bB l from by simp[bB],show(i+1)*3=(dW p).length+i*3 from by simp[dW];omega,i']
   rw[e,this];simp
theorem gq(l:List Itm)(i:Nat)(h:i<l.length):cO (l.take (i+1))=cO (l.take i)++cn (l.getD i (.b false)):=by
 rw[f',show l[i]?=some (l.getD i (.b false)) from by simp[cR,h]];simp[cO]
theorem Gp(x:Itm):(cn x).length<=9+x.da.length:=by
 cases x<;>simp only[cn,Itm.da,c9,ci,ew,km]<;>first|omega|(have:=ia (A' (by assumption:List UInt8).length);omega)|(rename_i n;have:=ia n;omega)
theorem Lj{c:Ctx}{ρ:aD}{F:aK}{st:AS}{a:Act}{w:World}(t:TypeId)(hc:Conc c ρ F st a w):Conc c ρ F (oc t st) a w:=by
 have⟨n,g,hp,nx⟩:=st;have hn:ρ nx=none:=hc.fresh nx (c7 _);have hg:∀i,hget ((nx,some ⟨t,[]⟩)::hp) i=if nx=i then some ⟨t,[]⟩ else hget hp i:=by
  exact ag3
 have d:∀i,hget ((nx,some ⟨t,[]⟩)::hp) i≠none->ρ i≠none->hget hp i≠none:=by
  exact ail
 refine⟨hc.defers,hc.size,hc.slots,⟨fun i k hk=>?_,fun i j b hi f h1 h2=>hc.heap.inj i j b (d i hi (by rw[h1];simp)) (d j f (by rw[h2];simp)) h1 h2⟩,fun i hi=>hc.fresh i (Nat.le_trans (Nat.le_succ nx) hi),hc.fok,hc.chg,fun i hi=>?_,fun i b hi e=>hc.own i b (d i hi (by rw[e];simp)) e,hc.keep,hc.glob⟩
 .simp only[oc,hg] at hk;exact ahz
 .simp only[oc,hg] at hi⊢;exact ah1
theorem Ie{c:Ctx}{f:FuncId}{vs:List AV}{o:Oper}{b:Array Oper}{os:List Oper}{k:List It}{st:AS}(t:TypeId)(h:kv c f vs o b os k (oc t st)):kv c f vs o b os k st:=by
 intro e ρ F a w d;exact h e ρ F a w (Lj t d)
theorem vn(x:UInt8)(k:Nat)(a:k<256):c'.wrap ((x.toNat:Int)+(k:Int))=((x+y' k).toNat:Int):=by
 rw[dh,UInt8.toNat_add,nw];omega
theorem jB(x y:UInt8):c'.wrap ((x.toNat:Int)+(y.toNat:Int))=((x+y).toNat:Int):=by
 rw[dh,UInt8.toNat_add];omega
theorem Pg{s j:Nat}(a:j<s)(b:s<=8)(n:UInt64):a'.wrap (8*((s:Int)-1-j))=((8*(s-1-j):Nat):Int)/\ishr .u64 (n.toNat:Int) ((8*(s-1-j):Nat):Int)=((fu n (8*(s-1-j))).toNat:Int):=by
 refine⟨by rw[ab ω ω];omega,?_⟩;rw[oz n _ ω,h5]
theorem pX(n:UInt64)(h:n.toNat<24):loN n=n.toUInt8/\szN n=0:=⟨by unfold loN;rw[b9 h],by unfold szN;rw[b9 h]⟩
theorem mM(n:UInt64)(h:¬n.toNat<24)(h1:n.toNat<256):loN n=24/\szN n=1:=⟨by unfold loN;rw[b0 h,b9 h1],by unfold szN;rw[b0 h,b9 h1]⟩
theorem og(n:UInt64)(h:¬n.toNat<256)(h1:n.toNat<65536):loN n=25/\szN n=2:=⟨by unfold loN;rw[b0 ω,b0 h,b9 h1],by unfold szN;rw[b0 ω,b0 h,b9 h1]⟩
theorem oh(n:UInt64)(h:¬n.toNat<65536)(h1:n.toNat<4294967296):loN n=26/\szN n=4:=⟨by unfold loN;rw[b0 ω,b0 ω,b0 h,b9 h1],by unfold szN;rw[b0 ω,b0 ω,b0 h,b9 h1]⟩
theorem oi(n:UInt64)(h:¬n.toNat<4294967296):loN n=27/\szN n=8:=⟨by unfold loN;rw[b0 ω,b0 ω,b0 ω,b0 h],by unfold szN;rw[b0 ω,b0 ω,b0 ω,b0 h]⟩
theorem sgD(nx a:Nat):∀i,i∉[1]->nx<=sg nx [nx,a] i:=by
 intro i b
 match i,b with
 |0,_=>simp[sg]
 |1,b=>exact s5 η b
 |i+2,_=>simp[sg];omega
theorem i6(l:List UInt8)(k:Nat)(o:l.length=k)(E:k<1000000)(m M:UInt8)(p:iF .u8 (m.toNat:Int) 5=(M.toNat:Int))(n:UInt64) :
 Con prog 221 [.sl 0 0 k 1,.y m,.w n] [(0,some ⟨bP,cb l⟩)] (.sl 1 0 (k+(1+szN n)) 1) [(1,some ⟨bP,cb (l++hdB M n)⟩),(0,none)]:=by
 apply bn 1 f221 [0,1,2,6,7,8,9,14,24,29,34,46];intro c J q Y Z;by_cases f:n.toNat<24
 .have⟨e,d⟩:=pX n f;have x:hdB M n=[M+n.toUInt8]:=by unfold hdB;rw[e,d];rfl
  simp only[go_sem,J,p,(ω:((n.toNat:Int)<24)),aH,jB,fZ,d,x];refine⟨⟨o,ω,ω⟩,aR [3,2] rfl ?_ ?_ rfl rfl (fun i a=>by simp at a;subst a;simp[liveK,keys]) (sgD _ _)⟩
  .exact κ
  .exact agP
 have b:¬((n.toNat:Int)<24):=ω;have s:c'.wrap ((M.toNat:Int)+24)=((M+24).toNat:Int):=vn M 24 ε;have t:c'.wrap ((M.toNat:Int)+25)=((M+25).toNat:Int):=vn M 25 ε;have u:c'.wrap ((M.toNat:Int)+26)=((M+26).toNat:Int):=vn M 26 ε;have v:c'.wrap ((M.toNat:Int)+27)=((M+27).toNat:Int):=vn M 27 ε;have z:=ia n;have A:1<=szN n:=by(unfold szN;rw[b0 f];repeat' split);all_goals omega
 rcases(show(n.toNat<256/\loN n=24/\szN n=1)\/(¬n.toNat<256/\n.toNat<65536/\loN n=25/\szN n=2)\/(¬n.toNat<65536/\n.toNat<4294967296/\loN n=26/\szN n=4)\/(¬n.toNat<4294967296/\loN n=27/\szN n=8) from by
  by_cases h1:n.toNat<256
  .exact .inl ⟨h1,mM n f h1⟩
  by_cases h2:n.toNat<65536
  .exact .inr (.inl ⟨h1,h2,og n h1 h2⟩)
  by_cases r:n.toNat<4294967296
  .exact .inr (.inr (.inl ⟨h2,r,oh n h2 r⟩))
  .exact .inr (.inr (.inr ⟨r,oi n r⟩))) with⟨c1,e,d⟩|⟨c1,c2,e,d⟩|⟨c1,c2,e,d⟩|⟨c1,e,d⟩
 case' neg.inl =>
  simp only[go_sem,J,p,b,(ω:((n.toNat:Int)<256)),s,fZ,show a'.wrap (1-1)=0 from ε];refine⟨⟨o,ω,ω⟩,?_⟩;refine bK Y [0] (fun i a=>by have:=q i a;simpa[liveK] using this) [0,1,2,6,7,8,9,14,24,29,34,46] (szN n) (fun j=>⟨58,[(0,.sl 1 0 (k+(1+j)) 1),(2,.w n),(9,.i ((szN n:Int)-1-j))],[(1,some ⟨bP,cb (l++(M+loN n)::bgB n (szN n) j)⟩)],2⟩) [] (sg 3 [0,2]) ⟨rfl,?_,?_,rfl,rfl,trivial,fun i h=>aw [0,2] 3 i h⟩ (fun i a=>by simp at a;subst a;rfl) ?_
  .simp only[go_sem,d]
   try decide
  .simp only[go_sem,bgB,e];exact aC _ _ _ _
 case' neg.inr.inl =>
  simp only[go_sem,J,p,b,(ω:¬((n.toNat:Int)<256)),(ω:((n.toNat:Int)<65536)),t,fZ,show a'.wrap (2-1)=1 from ε];refine⟨⟨o,ω,ω⟩,?_⟩;refine bK Y [0] (fun i a=>by have:=q i a;simpa[liveK] using this) [0,1,2,6,7,8,9,14,24,29,34,46] (szN n) (fun j=>⟨58,[(0,.sl 1 0 (k+(1+j)) 1),(2,.w n),(9,.i ((szN n:Int)-1-j))],[(1,some ⟨bP,cb (l++(M+loN n)::bgB n (szN n) j)⟩)],2⟩) [] (sg 3 [0,2]) ⟨rfl,?_,?_,rfl,rfl,trivial,fun i h=>aw [0,2] 3 i h⟩ (fun i a=>by simp at a;subst a;rfl) ?_
  .simp only[go_sem,d]
   try decide
  .simp only[go_sem,bgB,e];exact aC _ _ _ _
 case' neg.inr.inr.inl =>
  simp only[go_sem,J,p,b,(ω:¬((n.toNat:Int)<256)),(ω:¬((n.toNat:Int)<65536)),(ω:((n.toNat:Int)<4294967296)),u,fZ,show a'.wrap (4-1)=3 from ε];refine⟨⟨o,ω,ω⟩,?_⟩;refine bK Y [0] (fun i a=>by have:=q i a;simpa[liveK] using this) [0,1,2,6,7,8,9,14,24,29,34,46] (szN n) (fun j=>⟨58,[(0,.sl 1 0 (k+(1+j)) 1),(2,.w n),(9,.i ((szN n:Int)-1-j))],[(1,some ⟨bP,cb (l++(M+loN n)::bgB n (szN n) j)⟩)],2⟩) [] (sg 3 [0,2]) ⟨rfl,?_,?_,rfl,rfl,trivial,fun i h=>aw [0,2] 3 i h⟩ (fun i a=>by simp at a;subst a;rfl) ?_
  .simp only[go_sem,d]
   try decide
  .simp only[go_sem,bgB,e];exact aC _ _ _ _
 case' neg.inr.inr.inr =>
  simp only[go_sem,J,p,b,(ω:¬((n.toNat:Int)<256)),(ω:¬((n.toNat:Int)<65536)),(ω:¬((n.toNat:Int)<4294967296)),v,fZ,show a'.wrap (8-1)=7 from ε];refine⟨⟨o,ω,ω⟩,?_⟩;refine bK Y [0] (fun i a=>by have:=q i a;simpa[liveK] using this) [0,1,2,6,7,8,9,14,24,29,34,46] (szN n) (fun j=>⟨58,[(0,.sl 1 0 (k+(1+j)) 1),(2,.w n),(9,.i ((szN n:Int)-1-j))],[(1,some ⟨bP,cb (l++(M+loN n)::bgB n (szN n) j)⟩)],2⟩) [] (sg 3 [0,2]) ⟨rfl,?_,?_,rfl,rfl,trivial,fun i h=>aw [0,2] 3 i h⟩ (fun i a=>by simp at a;subst a;rfl) ?_
  .simp only[go_sem,d]
   try decide
  .simp only[go_sem,bgB,e];exact aC _ _ _ _
 all_goals
  intro j F;rcases ea j (szN n) with g|g
  .have⟨B,C⟩:=Pg g z n;have D:a'.wrap ((szN n:Int)-1-j-1)=(szN n:Int)-1-((j+1:Nat):Int):=by rw[ab ω ω];omega
   simp only[go_sem,J,B,C,D,aH,fZ,(ω:((szN n:Int)-1-j>=0))];refine⟨ω,⟨by rw[lF];omega,ω,ω⟩,g,kY [0] [0,3] rfl ?_ ?_ rfl rfl (c7 _) (fun i a=>by simp at a;subst a;rfl)⟩
   .exact aiM
   .simp only[go_sem,bgB,k',p'];exact aC _ _ _ _
  .obtain rfl:j=szN n:=by omega
   simp only[go_sem,J,(ω:¬((szN n:Int)-1-(szN n:Int)>=0))];refine aR [2,1] rfl ?_ ?_ rfl rfl (fun i a=>by simp at a;subst a;simp[liveK,keys]) (sgD _ _)
   .exact aiM
   .exact agP
theorem TL(n:UInt64):(Itm.u n).kd=1:=rfl
theorem TM(n:UInt64):(Itm.u n).nu=n:=rfl
theorem TN(n:UInt64):(Itm.u n).da=[]:=rfl
theorem TO(s:List UInt8):(Itm.d s).kd=3:=rfl
theorem TQ(s:List UInt8):(Itm.d s).nu=0:=rfl
theorem TR(s:List UInt8):(Itm.d s).da=s:=rfl
theorem TS(s:List UInt8):(Itm.t s).kd=4:=rfl
theorem TT(s:List UInt8):(Itm.t s).nu=0:=rfl
theorem TU(s:List UInt8):(Itm.t s).da=s:=rfl
theorem TV(n:UInt64):(Itm.m n).kd=6:=rfl
theorem TW(n:UInt64):(Itm.m n).nu=n:=rfl
theorem TX(n:UInt64):(Itm.m n).da=[]:=rfl
theorem TY(v:Bool):(Itm.b v).kd=7:=rfl
theorem TZ(v:Bool):(Itm.b v).nu=bN v:=rfl
theorem T2(v:Bool):(Itm.b v).da=[]:=rfl
theorem ae1:((B' 0:Nat):Int)=0:=rfl
attribute [go_sem] abv ae1 TL TM TN TO TQ TR TS TT TU TV TW TX TY TZ T2
theorem fQ{s:List UInt8}(h:s.length<1000000):d'.wrap (s.length:Int)=((A' s.length).toNat:Int):=by
 rw[ao ω ω,gr,ie ω]
@[simp] theorem abo(T:List Nat)(x:Itm):ak T (eP x):=by simp[eP,ak,ax]
abbrev u8A(n:Int):AV := .p (.v (.int .u8 n))
abbrev HdK(l:List UInt8)(k:Nat)(m:Int)(M:UInt8)(n:UInt64):Prop:=Con prog 221 [.sl 0 0 k 1,u8A m,.w n] [(0,some ⟨bP,cb l⟩)] (.sl 1 0 (k+(1+szN n)) 1) [(1,some ⟨bP,cb (l++hdB M n)⟩),(0,none)]
theorem zW(l:List UInt8)(k:Nat)(a:l.length=k)(b:k<1000000)(n:UInt64):HdK l k 0 0 n:=i6 l k a b 0 0 ε n
theorem zX(l:List UInt8)(k:Nat)(a:l.length=k)(b:k<1000000)(n:UInt64):HdK l k 2 64 n:=i6 l k a b 2 64 ε n
theorem zY(l:List UInt8)(k:Nat)(a:l.length=k)(b:k<1000000)(n:UInt64):HdK l k 3 96 n:=i6 l k a b 3 96 ε n
theorem zZ(l:List UInt8)(k:Nat)(a:l.length=k)(b:k<1000000)(n:UInt64):HdK l k 5 160 n:=i6 l k a b 5 160 ε n
theorem pY(l:List UInt8)(k:Nat)(a:l.length=k)(g:k<900000)(x:Itm)(f:x.da.length<2000) :
 Con prog 152 [.sl 0 0 k 1,.agg (eP x)] [(0,some ⟨bP,cb l⟩)] (.sl 1 0 (k+(cn x).length) 1) [(1,some ⟨bP,cb (l++cn x)⟩),(0,none)]:=by
 apply bn 1 f152 [0,1,3,4,6,7,16,21];intro c J h Y Z;cases x with
 |b v =>
  have e:c'.wrap (244+c'.wrap ((bN v).toNat:Int))=(((if v then 245 else 244:UInt8)).toNat:Int):=by cases v<;>decide
  simp only[go_sem,J,e,fZ];refine⟨⟨a,ω,ω⟩,aR [4,3] rfl ?_ ?_ rfl rfl (fun i hi=>by simp at hi;subst hi;simp[liveK,keys]) (sgD _ _)⟩
  .cases v<;>simp only[go_sem]<;>rfl
  .cases v<;>simp only[go_sem]<;>exact aC _ _ _ _
 |u n =>
  simp only[go_sem,J,show c'.wrap (a'.wrap (1-1))=0 from ε];have hO:=zW l k a ω n;exact afO
 |m n =>
  simp only[go_sem,J,show c'.wrap (a'.wrap (6-1))=5 from ε];have hO:=zZ l k a ω n;exact afO
 |d s =>
  have hs:s.length<2000:=f;simp only[go_sem,J,show c'.wrap (a'.wrap (3-1))=2 from ε,fQ (show s.length<1000000 from ω)];have hO:=zX l k a ω (A' s.length);exact afE
 |t s =>
  have hs:s.length<2000:=f;simp only[go_sem,J,show c'.wrap (a'.wrap (4-1))=3 from ε,fQ (show s.length<1000000 from ω)];have hO:=zY l k a ω (A' s.length);exact afE
theorem If{P:Program}{f:FuncId}{g:Func}{e:Array Value->Sem Value}{vs:List AV}{v:AV}(l:P.funcs[f]?=some g)(d:(g.name=="runtime.NumGoroutine")=false)(m:g.body.isNone=true)(n:Extern.findNext g=none)(o:Extern.find g=some e)
 (h:∀(ρ:aD) (F:aK) (us:Array Value) (w:World),us.size=vs.length->(∀j c,vs[j]?=some c->Rd ρ F w c (us.getD j undef))->∃x,(e us).run P w = .ok x w/\Rd ρ F w v x):FPure P f vs v:=by
 intro k;refine⟨fun ρ F us w a p q=>?_⟩;have⟨x,r,hv⟩:=h ρ F us w p q;refine .inr ⟨x,w,by rw[run_callFunc_extern l d m n o,r];rfl,ρ,F,⟨fun _ _ h=>h,fun i h1 h2=>s5 h1 h2,fun i b h1 h2=>(by rw[h1] at h2;cases h2),hv,?_,a.fok,Chg.refl _ _ _⟩⟩;have:restr ([]++keys []) (updH [] k)=restr [] k:=by funext i;simp[restr,keys,updH]
 rw[this];exact a.hp
theorem xV{P:Program}{ρ:aD}{F:aK}{w:World}{a:UInt8}{u:Value}(c:Rd ρ F w (.p (.data 1 1 [bt a])) u):(Extern.Bytes.bytesOf u).run P w = .ok (D'.push a) w:=by
 cases c with
 |p _ _ h =>
  cases h with
  |data s n cs b off cap f hl hcap hF hc h1 c =>
   have d:=hc 0 η;have hv:=c 0 (bt a) rfl;have hv:f 0 = .int .u8 (a.toNat:Int):=by
    generalize f 0=y at hv;unfold bt at hv;cases hv;rfl
   rw[hv,Nat.add_zero] at d;simp[Extern.Bytes.bytesOf,Extern.Bytes.loadBytes,d]
theorem Ph(h:bv)(S:List Nat)(σ:Nat->Nat)(cs:List PV):aj h S σ (cs.map .p) (cs.map .p)↔True:=⟨fun _=>trivial,fun _=>aL h S σ cs⟩
theorem Lk(h:bv)(S:List Nat)(c:PV):ep h S c (.p c)↔True:=⟨fun _=>trivial,fun _=>eX h S c⟩
@[simp] theorem Pi(T:List Nat)(cs:List PV):ak T (cs.map .p)↔True:=⟨fun _=>trivial,fun _=>aM T cs⟩
attribute [go_sem] Ph Lk Pi Int.reduceGT Int.reduceGE gt_iff_lt
abbrev eK:AV := .p (.v (.slice none 0 0))
abbrev frT:Nat:=414
abbrev ckT:Nat:=271
theorem z6(t:TypeId)(a:Int)(e:List PV):Con prog 213 [.ptr 0 0] [(0,some ⟨t,eK :: .i a::e.map .p⟩)] (.b (decide (0<a))) [(0,some ⟨t,eK :: .i a::e.map .p⟩)]:=by
 apply bn 1 f213 [0,2];intro c J f Y Z;by_cases d:0<a
 .simp only[go_sem,J,d,decide_true];exact Φ
 .simp only[go_sem,J,d,decide_false];exact Φ
theorem z7(t:TypeId)(n:Nat)(a:Int)(e f:List PV)(g:0<a):Con prog 213 [.ptr 0 0] [(0,some ⟨t,.sl 1 0 n 3 :: .i a::e.map .p⟩),(1,some ⟨frT,f.map .p⟩)] (.b (decide ((n:Int)=0))) [(0,some ⟨t,.sl 1 0 n 3 :: .i a::e.map .p⟩),(1,some ⟨frT,f.map .p⟩)]:=by
 apply bn 2 f213 [0,2];intro c J j Y Z;simp only[go_sem,J,g];refine aq [0,1] rfl ?_ ?_ rfl rfl (fun i d=>by simp at d;rcases d with rfl|rfl<;>exact⟨rfl,ξ⟩) (fun i d=>by simp[liveK] at d;simp;omega)
 .simp only[go_sem];by_cases h:n=0<;>simp[h]
 .exact κ
theorem nD(t:TypeId)(a:Int)(e:List PV):Con prog 342 [.ptr 0 0] [(0,some ⟨t,eK :: .i a::e.map .p⟩)] (.b false) [(0,some ⟨t,eK :: .i a::e.map .p⟩)]:=by
 apply bn 1 f342 [0,2,3];intro c J d Y Z;refine θ ?_;exact Φ
theorem tI(t:TypeId)(left a:Int)(f:PV)(e:List PV)(g:0<=left):Con prog 342 [.ptr 0 0] [(0,some ⟨t,.sl 1 0 1 3 :: .i a::e.map .p⟩),(1,some ⟨frT,[.b true,.i left,.p f]⟩)] (.b (decide (left % 2=0))) [(0,some ⟨t,.sl 1 0 1 3 :: .i a::e.map .p⟩),(1,some ⟨frT,[.b true,.i left,.p f]⟩)]:=by
 apply bn 2 f342 [0,2,3];intro c J k Y Z;have j:left.tmod 2=left % 2:=Int.tmod_eq_emod_of_nonneg g;simp only[go_sem,J,j,show a'.wrap (1-1)=0 from ε];refine aq [0,1] rfl ?_ ?_ rfl rfl (fun i d=>by simp at d;rcases d with rfl|rfl<;>exact⟨rfl,ξ⟩) (fun i d=>by simp[liveK] at d;simp;omega)
 .simp only[go_sem];by_cases h:left % 2=0<;>simp[h]
 .exact κ
theorem z8(t:TypeId)(kd a:Int)(e:List PV)(b:1<=kd/\kd<=8)(d:a<512):Con prog 297 [.ptr 0 0,.i kd] [(0,some ⟨t,eK :: .i a::e.map .p⟩)] (.i 0) [(0,some ⟨t,eK :: .i a::e.map .p⟩)]:=by
 apply bn 1 f297 [0,1,4,9,15,29,35];intro c J f Y Z;simp only[go_sem,J,(ω:¬a>=512),(ω:¬kd<1),(ω:¬kd>8)];refine x_k Z 1 (nD t a e) ?_;refine θ ?_;exact Φ
theorem pZ(t:TypeId)(kd left a:Int)(f:PV)(e:List PV)(j:1<=kd/\kd<=8)(h:0<=left)(d:left % 2=0->kd=1)(k:a<512):Con prog 297 [.ptr 0 0,.i kd] [(0,some ⟨t,.sl 1 0 1 3 :: .i a::e.map .p⟩),(1,some ⟨frT,[.b true,.i left,.p f]⟩)] (.i 0) [(0,some ⟨t,.sl 1 0 1 3 :: .i a::e.map .p⟩),(1,some ⟨frT,[.b true,.i left,.p f]⟩)]:=by
 apply bn 2 f297 [0,1,4,9,15,29,35];intro c J l Y Z;simp only[go_sem,J,(ω:¬a>=512),(ω:¬kd<1),(ω:¬kd>8)];refine x_k Z 2 (tI t left a f e h) ?_;by_cases g:left % 2=0
 .obtain rfl:=d g;simp only[go_sem,J,g,decide_true];exact afB
 .simp only[go_sem,J,g,decide_false];exact afB
def Itm.sc:Itm->Prop
 |.m _=>False
 |_=>True
theorem T3(t:TypeId)(a:Int)(e:List PV)(x:Itm)(b:x.sc)(g:0<=a/\a<512):Con prog 344 [.ptr 0 0,.agg (eP x)] [(0,some ⟨t,eK :: .i a::e.map .p⟩)] (.tup []) [(0,some ⟨t,eK :: .i (a+1)::e.map .p⟩)]:=by
 apply bn 1 f344 [0,1,3,4,5,19,39,60,93];intro c J d Y Z;have f:a'.wrap (a+1)=a+1:=ab ω ω;cases x
 case m=>exact b.elim
 all_goals
  simp only[go_sem,J,f];refine bK Y [0] (fun i hi=>by have:=d i hi;simpa[liveK] using this) [0,1,3,4,5,19,39,60,93] 0 (fun _=>⟨106,[(0,.ptr 0 0),(5,.i 0)],[(0,some ⟨t,eK :: .i (a+1)::e.map .p⟩)],2⟩) [] (fun i=>i) ⟨rfl,?_,?_,rfl,rfl,trivial,fun i h=>h⟩ (fun i _=>rfl) ?_
  .exact κ
  .exact κ
  intro j k;refine θ ?_;exact Φ
theorem Ll(t:TypeId)(left a:Int)(f:PV)(e:List PV)(x:Itm)(k:x.sc)(o:0<=a/\a<512)(q:2<=left/\left<=1000):Con prog 344 [.ptr 0 0,.agg (eP x)] [(0,some ⟨t,.sl 1 0 1 3 :: .i a::e.map .p⟩),(1,some ⟨frT,[.b true,.i left,.p f]⟩)] (.tup []) [(0,some ⟨t,.sl 1 0 1 3 :: .i (a+1)::e.map .p⟩),(1,some ⟨frT,[.b true,.i (left-1),.p f]⟩)]:=by
 apply bn 2 f344 [0,1,3,4,5,19,39,60,93];intro c J l Y Z;have n:a'.wrap (a+1)=a+1:=ab ω ω;have g:a'.wrap (left-1)=left-1:=ab ω ω;have d:a'.wrap (1-1)=0:=ε;cases x
 case m=>exact k.elim
 all_goals
  simp only[go_sem,J,n,g,d];refine bK Y [0,1] (fun i hi=>by have:=l i hi;simpa[liveK] using this) [0,1,3,4,5,19,39,60,93] 0 (fun _=>⟨106,[(0,.ptr 0 0),(5,.i 1)],[(0,some ⟨t,.sl 1 0 1 3 :: .i (a+1)::e.map .p⟩),(1,some ⟨frT,[.b true,.i (left-1),.p f]⟩)],3⟩) [] (fun i=>i) ⟨rfl,?_,?_,rfl,rfl,trivial,fun i h=>h⟩ (fun i _=>rfl) ?_
  .exact κ
  .exact κ
  intro j r;simp only[go_sem,J,d,(ω:¬left-1=0)];exact afB
theorem T4(t:TypeId)(a:Int)(f:PV)(e:List PV)(x:Itm)(g:x.sc)(n:0<=a/\a<512):Con prog 344 [.ptr 0 0,.agg (eP x)] [(0,some ⟨t,.sl 1 0 1 3 :: .i a::e.map .p⟩),(1,some ⟨frT,[.b true,.i 1,.p f]⟩)] (.tup []) [(0,some ⟨t,.sl 1 0 0 3 :: .i (a+1)::e.map .p⟩),(1,some ⟨frT,[.b true,.i 0,.p f]⟩)]:=by
 apply bn 2 f344 [0,1,3,4,5,19,39,60,93];intro c J k Y Z;have l:a'.wrap (a+1)=a+1:=ab ω ω;have d:a'.wrap (1-1)=0:=ε;cases x
 case m=>exact g.elim
 all_goals
  simp only[go_sem,J,l,d];refine bK Y [0,1] (fun i hi=>by have:=k i hi;simpa[liveK] using this) [0,1,3,4,5,19,39,60,93] 1 (fun i=>⟨106,[(0,.ptr 0 0),(5,.i (1-(i:Int)))],[(0,some ⟨t,.sl 1 0 (1-i) 3 :: .i (a+1)::e.map .p⟩),(1,some ⟨frT,[.b true,.i 0,.p f]⟩)],3⟩) [] (fun i=>i) ⟨rfl,?_,?_,rfl,rfl,trivial,fun i h=>h⟩ (fun i _=>rfl) ?_
  .simp only[go_sem];rfl
  .exact κ
  intro j o;rcases(show j=0\/j=1 from ω) with rfl|rfl
  .simp only[go_sem,J,d,Int.sub_zero,Int.sub_self,show a'.wrap 0=0 from ε];refine⟨ω,kY [0,1] [0,1] rfl ?_ ?_ rfl rfl (cV rfl) (fun i hi=>by simp at hi;rcases hi with rfl|rfl<;>rfl)⟩
   .exact κ
   .exact κ
  .simp only[go_sem,J,d,Int.sub_self];exact afB
theorem T5(t:TypeId)(e:List PV):Con prog 344 [.ptr 0 0,.agg (eP (.m 9))] [(0,some ⟨t,eK :: .i 0::e.map .p⟩)] (.tup []) [(0,some ⟨t,.sl 1 0 1 3 :: .i 1::e.map .p⟩),(1,some ⟨frT,[.b true,.i 18,eK]⟩)]:=by
 apply bn 1 f344 [0,1,3,4,5,19,39,60,93];intro c J a Y Z;have d:((B' 9:Nat):Int)=9:=ε;simp only[go_sem,J,d,show a'.wrap (0+1)=1 from ε,show a'.wrap (2*a'.wrap 9)=18 from ε];refine⟨π,?_⟩;refine bK Y [0] (fun i hi=>by have:=a i hi;simpa[liveK] using this) [0,1,3,4,5,19,39,60,93] 0 (fun _=>⟨106,[(0,.ptr 0 0),(5,.i 1)],[(0,some ⟨t,.sl 1 0 1 3 :: .i 1::e.map .p⟩),(1,some ⟨frT,[.b true,.i 18,eK]⟩)],4⟩) [] (sg 4 [0,3]) ⟨rfl,?_,?_,rfl,rfl,trivial,fun i h=>aw [0,3] 4 i (Nat.le_trans (cV rfl) h)⟩ (fun i hi=>by simp at hi;subst hi;rfl) ?_
 .exact κ
 .exact κ
 intro j f;simp only[go_sem,J,show a'.wrap (1-1)=0 from ε];exact ag4
theorem T6(a b:UInt8)(h:a.toNat<b.toNat):FPure prog 378 [.p (.data 1 1 ([a].map bt)),.p (.data 1 1 ([b].map bt))] (.i (-1)):=by
 apply If func378 π π π (e:=Extern.BytealgCompare.compare) π;intro ρ F us w o k;have c:=k 0 _ rfl;have h1:=k 1 _ rfl;obtain⟨d,f,rfl⟩:∃x y,us=#[x,y]:=by
  have⟨l⟩:=us
  match l,o with
  |[x,y],_=>exact⟨x,y,rfl⟩
 have c:(Extern.Bytes.bytesOf d).run prog w = .ok (D'.push a) w:=xV c;have h1:(Extern.Bytes.bytesOf f).run prog w = .ok (D'.push b) w:=xV h1;refine⟨.int .i64 (-1),?_,.p _ _ (.v _ rfl)⟩;have g:a<b:=z'.2 h;have j:¬a=b:=fun e=>by subst e;omega
 have q:Extern.BytealgCompare.cmp (D'.push a) (D'.push b) = -1:=by
  have m:(D'.push a)[0]! = a:=rfl;have n:(D'.push b)[0]! = b:=rfl;have r:min (D'.push a).size (D'.push b).size=1:=rfl;unfold Extern.BytealgCompare.cmp;have s:(j' 1).find? (fun i=>(D'.push a)[i]! != (D'.push b)[i]!)=some 0:=by
   rw[show j' 1=[0] from rfl,List.find?_cons_of_pos];rw[m,n];simpa using j
  rw[r,s];show(if(D'.push a)[0]! < (D'.push b)[0]! then(-1:Int) else 1) = -1;rw[m,n,b9 g]
 have e:Extern.BytealgCompare.compare #[d,f]=(do pure (goInt (Extern.BytealgCompare.cmp (<-Extern.Bytes.bytesOf d) (<-Extern.Bytes.bytesOf f)))):=rfl;rw[e];simp only[hW,c,h1,ez,q,lh,goInt]
theorem Pj(a b:UInt8)(h:a.toNat<b.toNat):FPure prog 367 [.p (.data 1 1 ([a].map bt)),.p (.data 1 1 ([b].map bt))] (.i (-1)):=by
 apply ba f367 [0,1,4];intro c J d Y Z;refine δ (T6 a b h) ?_;simp only[go_sem,J]
theorem Ig(a b:UInt8)(h:a.toNat<b.toNat):FPure prog 343 [.p (.data 1 1 ([a].map bt)),.p (.data 1 1 ([b].map bt))] (.b true):=by
 apply ba f343 [0,1,4,9];intro c J d Y Z;refine δ (Pj a b h) ?_;simp only[go_sem,J]
def okI:Itm->Prop
 |.u _=>True
 |.d s=>s.length<=1024
 |.t s=>s.length<=1024/\okU s=true
 |.m _=>False
 |.b _=>True
theorem okI.sc{x:Itm}(h:okI x):x.sc:=by cases x<;>first|trivial|exact h.elim
theorem Lm(t:TypeId)(a:Int)(e:List PV)(x:Itm)(f:okI x)(g:0<=a/\a<512):Con prog 298 [.ptr 0 0,.agg (eP x)] [(0,some ⟨t,eK :: .i a::e.map .p⟩)] (.i 0) [(0,some ⟨t,eK :: .i (a+1)::e.map .p⟩)]:=by
 apply bn 1 f298 [0,1,3,4,5,6,15,17,44];intro c J h Y Z;have hs:=T3 t a e x f.sc g;cases x with
 |m n=>exact f.elim
 |t s =>
  refine δ (bW s (by have:=f.1;omega)) ?_;simp only[go_sem,J,f.2];refine akI ?_;exact Φ
 |u n =>
  refine θ ?_;refine akI ?_;exact Φ
 |d s =>
  refine θ ?_;refine akI ?_;exact Φ
 |b v =>
  refine θ ?_;refine akI ?_;exact Φ
theorem Cd(t:TypeId)(e:List PV):Con prog 298 [.ptr 0 0,.agg (eP (.m 9))] [(0,some ⟨t,eK :: .i 0::e.map .p⟩)] (.i 0) [(0,some ⟨t,.sl 1 0 1 3 :: .i 1::e.map .p⟩),(1,some ⟨frT,[.b true,.i 18,eK]⟩)]:=by
 apply bn 1 f298 [0,1,3,4,5,6,15,17,44];intro c J d Y Z;have a:=T5 t e;refine θ ?_;refine x_k Z 2 (nD t 0 e) ?_;refine θ ?_;apply co Y (ks:=[0,1,3,4,5,6,15,17,44]) (n:=2000) [] (sg 2 [0]) _ (by rw[J];exact a) ⟨κ,κ,rfl,trivial,oy _ 2,fun i hi=>by simp[keys] at hi;rcases hi with rfl|rfl<;>simp[liveK,sg],by simp[ax,ak,keys],by simp[bV,ak,ax,keys],rfl⟩;refine θ ?_;refine aq [0,3] rfl ?_ ?_ rfl rfl (fun i hi=>by simp at hi;subst hi;exact⟨rfl,ξ⟩) (fun i hi=>by simp[liveK] at hi;simp;omega)
 .exact κ
 .exact κ
theorem Ih:∀j:_root_.Fin 10,cn (.u (A' j.val))=[y' j.val]:=by decide +kernel
theorem xW(cs:List PV):iY (cs.map .p):=by
 intro c hc;exact agN
theorem xX(id:Nat)(b:Blk)(cs:List PV):fJ id b (cs.map .p)=cs.map .p:=ej id b _ (xW cs)
theorem vo(id:Nat)(b:Blk)(cs:List PV):eU id b (cs.map .p)↔True:=⟨fun _=>trivial,fun _=>dx id b _ (xW cs)⟩
attribute [go_sem] xX vo
def laP(j:Nat):PV:=if j=1 then .v (.slice none 0 0) else .data 1 1 ([y' (j-1)].map bt)
def laK(j:Nat):PV := .data 1 1 ([y' j].map bt)
attribute [go_sem] laK
theorem Ce(t:TypeId)(e:List PV)(j:Nat)(h1:1<=j)(k:j<=9):Con prog 298 [.ptr 0 0,.agg (eP (.u (A' j)))] [(0,some ⟨t,.sl 1 0 1 3 :: .i (2*j-1)::e.map .p⟩),(1,some ⟨frT,[.b true,.i (20-2*j),.p (laP j)]⟩)] (.i 0) [(0,some ⟨t,.sl 1 0 1 3 :: .i (2*j)::e.map .p⟩),(1,some ⟨frT,[.b true,.i (19-2*j),.p (laK j)]⟩)]:=by
 apply bn 2 f298 [0,1,3,4,5,6,15,17,44];intro c J l Y Z;have g:=pY [] 0 rfl ε (.u (A' j)) (by simp[Itm.da]);rw[show cn (.u (A' j))=[y' j] from Ih ⟨j,ω⟩] at g;have h:(20-2*(j:Int)) % 2=0:=ω;have d:a'.wrap (1-1)=0:=ε;refine θ ?_;refine x_k Z 3 (tI t (20-2*j) (2*j-1) (laP j) e ω) ?_;simp only[go_sem,J,h,decide_true,d];refine⟨π,Ie bP ?_⟩;apply co Y (ks:=[0,1,3,4,5,6,15,17,44]) (n:=2000) [] (sg 4 [3]) 6 (by rw[J];exact g) ⟨by simp only[go_sem,oc],by simp only[go_sem,oc,wK],rfl,trivial,by simp[oc],fun i hi=>by simp[keys] at hi;rcases hi with rfl|rfl<;>simp[liveK,sg,oc],by simp[ax,ak,keys],by simp[bV,ak,ax,cm],rfl⟩;have hs:=Ll t (20-2*j) (2*j-1) (laK j) e (.u (A' j)) trivial ω ω;rw[(ω:(2*(j:Int)-1+1)=2*j),(ω:20-2*(j:Int)-1=19-2*j)] at hs;rcases Nat.eq_or_lt_of_le h1 with a|a
 .have f:laP j = .v (.slice none 0 0):=by unfold laP;rw[b9 a.symm]
  simp only[go_sem,J,oc,f];refine gU Y (ks:=[0,1,3,4,5,6,15,17,44]) (n:=2000) 5 ?_ ?_
  .exact κ
  refine θ ?_;refine x_k Z 6 hs ?_;refine θ ?_;exact afB
 .have f:laP j = .data 1 1 ([y' (j-1)].map bt):=by unfold laP;rw[b0 ω]
  simp only[go_sem,J,oc,f];refine gU Y (ks:=[0,1,3,4,5,6,15,17,44]) (n:=2000) 5 ?_ ?_
  .exact κ
  refine δ (Ig (y' (j-1)) (y' j) (by rw[nw,nw];omega)) ?_;refine θ ?_;refine x_k Z 6 hs ?_;refine θ ?_;exact afB
theorem Cf(t:TypeId)(e:List PV)(x:Itm)(a:okI x)(j:Nat)(h1:1<=j)(f:j<9):Con prog 298 [.ptr 0 0,.agg (eP x)] [(0,some ⟨t,.sl 1 0 1 3 :: .i (2*j)::e.map .p⟩),(1,some ⟨frT,[.b true,.i (19-2*j),.p (laK j)]⟩)] (.i 0) [(0,some ⟨t,.sl 1 0 1 3 :: .i (2*j+1)::e.map .p⟩),(1,some ⟨frT,[.b true,.i (18-2*j),.p (laK j)]⟩)]:=by
 apply bn 2 f298 [0,1,3,4,5,6,15,17,44];intro c J g Y Z;have hs:=Ll t (19-2*j) (2*j) (laK j) e x a.sc ω ω;rw[(ω:19-2*(j:Int)-1=18-2*j)] at hs;have ha:=tI t (19-2*j) (2*j) (laK j) e ω;have d:¬(19-2*(j:Int)) % 2=0:=ω;cases x
 case m=>exact a.elim
 case t s =>
  refine δ (bW s (by have:=a.1;omega)) ?_;simp only[go_sem,J,a.2];refine x_k Z 3 ha ?_;simp only[go_sem,J,d,decide_false];refine x_k Z 3 hs ?_;refine θ ?_;exact afB
 all_goals
  refine θ ?_;refine x_k Z 3 ha ?_;simp only[go_sem,J,d,decide_false];refine x_k Z 3 hs ?_;refine θ ?_;exact afB
theorem Cg(t:TypeId)(e:List PV)(x:Itm)(a:okI x):Con prog 298 [.ptr 0 0,.agg (eP x)] [(0,some ⟨t,.sl 1 0 1 3 :: .i 18::e.map .p⟩),(1,some ⟨frT,[.b true,.i 1,.p (laK 9)]⟩)] (.i 0) [(0,some ⟨t,.sl 1 0 0 3 :: .i 19::e.map .p⟩),(1,some ⟨frT,[.b true,.i 0,.p (laK 9)]⟩)]:=by
 apply bn 2 f298 [0,1,3,4,5,6,15,17,44];intro c J f Y Z;have hs:=T4 t 18 (laK 9) e x a.sc ω;have ha:=tI t 1 18 (laK 9) e ω;have d:decide ((1:Int) % 2=0)=false:=rfl;rw[d] at ha;cases x
 case m=>exact a.elim
 case t s =>
  refine δ (bW s (by have:=a.1;omega)) ?_;simp only[go_sem,J,a.2];exact age
 all_goals
  refine θ ?_;exact age
def okS:Itm->Prop
 |.d s=>s.length<=1024
 |.t s=>s.length<=1024
 |.m n=>n.toNat<=512
 |_=>True
theorem okI.s{x:Itm}(h:okI x):okS x:=by cases x<;>first|trivial|exact h|exact h.1|exact h.elim
theorem vp(x:Itm):FPure prog 311 [.agg (eP x)] (.b true):=by
 apply ba f311 [0,1,2,4,5,11,21];intro c J a Y Z;cases x with
 |b v =>
  have hv:((B' (bN v):Nat):Int)<=1:=by cases v<;>decide
  simp only[go_sem,J,hv]
 |u n=>simp only[go_sem,J]
 |m n=>simp only[go_sem,J]
 |d s=>simp only[go_sem,J]
 |t s=>simp only[go_sem,J]
theorem Gq(x:Itm):1<=x.kd/\x.kd<=8:=by cases x<;>simp[Itm.kd]
theorem EG(x:Itm)(o:okS x)(left e d f:Int)(k g:PV)(q:Nat)(r:0<d/\d<512)(t:0<=left)(h:left % 2=0->x.kd=1)
 (a:Con prog 298 [.ptr 0 0,.agg (eP x)] [(0,some ⟨ckT,.sl 1 0 1 3 :: .i d::([]:List PV).map .p⟩),(1,some ⟨frT,[.b true,.i left,.p k]⟩)] (.i 0) [(0,some ⟨ckT,.sl 1 0 q 3 :: .i f::([]:List PV).map .p⟩),(1,some ⟨frT,[.b true,.i e,.p g]⟩)]) :
 Con prog 220 [.ptr 0 0,.agg (eP x)] [(0,some ⟨ckT,[.sl 1 0 1 3,.i d]⟩),(1,some ⟨frT,[.b true,.i left,.p k]⟩)] (.i 0) [(0,some ⟨ckT,[.sl 1 0 q 3,.i f]⟩),(1,some ⟨frT,[.b true,.i e,.p g]⟩)]:=by
 apply bn 2 f220 [0,1,3,4,5,9,17,21,25,38];intro c J z Y Z;have w:=z7 ckT 1 d [] [.v (.bool true),.v (.int .i64 left),k] r.1;have y:=pZ ckT x.kd left d k [] (Gq x) t h r.2;have hsh:=vp x;refine θ ?_;refine x_k Z 3 w ?_;refine θ ?_;refine x_k Z 3 y ?_;refine wi ?_;apply aa Z hsh;cases x
 case u n =>
  refine θ ?_;refine x_k Z 3 a ?_;exact afA
 case b v =>
  refine θ ?_;refine x_k Z 3 a ?_;exact afA
 case m n =>
  have j:¬((n.toNat:Int)>512):=by have:n.toNat<=512:=o;omega
  simp only[go_sem,J,j];refine x_k Z 3 a ?_;exact afA
 all_goals
  rename_i s;have l:¬((s.length:Int)>1024):=by have:s.length<=1024:=o;omega
  simp only[go_sem,J,l];refine x_k Z 3 a ?_;exact afA
theorem T7(x:Itm)(d:okI x):Con prog 220 [.ptr 0 0,.agg (eP x)] [(0,some ⟨ckT,[eK,.i 0]⟩)] (.i 0) [(0,some ⟨ckT,[eK,.i 1]⟩)]:=by
 apply bn 1 f220 [0,1,3,4,5,9,17,21,25,38];intro c J h Y Z;have f:Con prog 213 [.ptr 0 0] _ (.b false) _:=z6 ckT 0 [];have g:=z8 ckT x.kd 0 [] (Gq x) ε;have hsh:=vp x;have a:Con prog 298 [.ptr 0 0,.agg (eP x)] _ (.i 0) [(0,some ⟨ckT,eK :: .i 1::([]:List PV).map .p⟩)]:=Lm ckT 0 [] x d ε;refine θ ?_;refine x_k Z 2 f ?_;refine akN ?_;refine wi ?_;apply aa Z hsh;cases x
 case m n=>exact d.elim
 case u n =>
  refine θ ?_;refine x_k Z 2 a ?_;exact afW
 case b v =>
  refine θ ?_;refine x_k Z 2 a ?_;exact afW
 all_goals
  rename_i s;have e:¬((s.length:Int)>1024):=by have:s.length<=1024:=d.s;omega
  simp only[go_sem,J,e];refine x_k Z 2 a ?_;exact afW
theorem T8:Con prog 220 [.ptr 0 0,.agg (eP (.m 9))] [(0,some ⟨ckT,[eK,.i 0]⟩)] (.i 0) [(0,some ⟨ckT,[.sl 1 0 1 3,.i 1]⟩),(1,some ⟨frT,[.b true,.i 18,eK]⟩)]:=by
 apply bn 1 f220 [0,1,3,4,5,9,17,21,25,38];intro c J g Y Z;have a:Con prog 213 [.ptr 0 0] _ (.b false) _:=z6 ckT 0 [];have d:=z8 ckT 6 0 [] ε ε;have hsh:=vp (.m 9);have e:=Cd ckT [];have f:((B' 9:Nat):Int)=9:=ε;refine θ ?_;refine x_k Z 2 a ?_;refine akh ?_;refine wi ?_;apply aa Z hsh;simp only[go_sem,J,f];apply sm Y (ks:=[0,1,3,4,5,9,17,21,25,38]) (n:=2000) [] (sg 2 [0]) _ (by rw[J];exact e) ⟨κ,κ,rfl,trivial,oy _ 2,fun i hi=>by simp[keys] at hi;rcases hi with rfl|rfl<;>simp[liveK,sg],by simp[ax,ak,keys],by simp[bV,ak,ax,keys],rfl⟩ rfl;refine θ ?_;refine⟨π,aq [0,3] rfl ?_ ?_ rfl rfl (fun i hi=>by simp at hi;subst hi;exact⟨rfl,ξ⟩) (fun i hi=>by simp[liveK] at hi;simp;omega)⟩
 .exact κ
 .exact κ
theorem T9(x:Itm)(d:okI x):FPure prog 151 [.p (.data 3 1 (dW x))] (.i 0):=by
 apply ba f151 [0,2,3,5,6,7,8,9,10,16,21];intro c J e Y Z;have hi:=T7 x d;have f:Con prog 213 [.ptr 0 0] [(0,some ⟨ckT,[eK,.i 1]⟩)] (.b true) _:=z6 ckT 1 [];have a:a'.wrap (0+1)=1:=ε;refine θ ?_;refine ay Y e [0,2,3,5,6,7,8,9,10,16,21] 1 (fun i=>⟨22,[(3,.ptr 0 0),(7,.p (.data 3 1 (dW x))),(8,.i 1),(9,.i i)],[(0,some ⟨ckT,[eK,.i i]⟩)],1⟩) [] (fun i=>i) ?_ ?_
 .exact afM
 .intro i g;rcases(show i=0\/i=1 from ω) with rfl|rfl
  .simp only[go_sem,J,dW];refine x_k Z 2 hi ?_;simp only[go_sem,J,a];refine⟨ε,aA [0] rfl ?_ ?_ rfl rfl (cV rfl)⟩
   .exact κ
   .exact κ
  .refine θ ?_;refine x_k Z 1 f ?_;simp only[go_sem,J]
structure G19(l:List Itm):Prop where
 len:l.length=19
 h0:l.getD 0 (.b false) = .m 9
 hk:∀j,1<=j->j<=9->l.getD (2*j-1) (.b false) = .u (A' j)
 hv:∀j,1<=j->j<=9->okI (l.getD (2*j) (.b false))
def laI(i:Nat):PV:=if i<=1 then .v (.slice none 0 0) else laK (i/2)
def hpI(i:Nat):List (Nat×Option Blk):=if i=0 then[(0,some ⟨ckT,[eK,.i 0]⟩)] else[(0,some ⟨ckT,[.sl 1 0 (if i=19 then 0 else 1) 3,.i i]⟩),(1,some ⟨frT,[.b true,.i (19-(i:Int)),.p (laI i)]⟩)]
theorem Gr{i:Nat}(h:i≠0)(a:i≠19):hpI i=[(0,some ⟨ckT,[.sl 1 0 1 3,.i i]⟩),(1,some ⟨frT,[.b true,.i (19-(i:Int)),.p (laI i)]⟩)]:=by unfold hpI;rw[b0 h,b0 a]
theorem QY{i:Nat}(h:i≠0):hpI i=[(0,some ⟨ckT,[.sl 1 0 (if i=19 then 0 else 1) 3,.i i]⟩),(1,some ⟨frT,[.b true,.i (19-(i:Int)),.p (laI i)]⟩)]:=by unfold hpI;rw[b0 h]
theorem Ua{l:List Itm}(a:G19 l){i:Nat}(h1:1<=i)(f:i<19):Con prog 220 [.ptr 0 0,.agg (eP (l.getD i (.b false)))] (hpI i) (.i 0) (hpI (i+1)):=by
 rw[Gr ω ω];obtain⟨j,hj⟩:∃j,i=2*j-1/\1<=j/\j<=9\/i=2*j/\1<=j/\j<9\/i=18:=⟨(i+1)/2,ω⟩
 rcases hj with⟨rfl,h2,c⟩|⟨rfl,h2,c⟩|rfl
 .have d:laI (2*j-1)=laP j:=by
   exact ah9
  have e:laI (2*j-1+1)=laK j:=by unfold laI;rw[b0 ω,(ω:(2*j-1+1)/2=j)]
  rw[Gr ω ω,d,e,a.hk j h2 c,(ω:(((2*j-1:Nat):Int))=2*j-1),(ω:(((2*j-1+1:Nat):Int))=2*j),
   show(19-(2*(j:Int)-1))=20-2*j from ω]
  exact EG (.u (A' j)) trivial _ _ _ _ _ _ _ ω ω (fun _=>rfl) (Ce ckT [] j h2 c)
 .have d:laI (2*j)=laK j:=by unfold laI;rw[b0 ω,(ω:2*j/2=j)]
  have e:laI (2*j+1)=laK j:=by unfold laI;rw[b0 ω,(ω:(2*j+1)/2=j)]
  rw[Gr ω ω,d,e,(ω:(((2*j:Nat):Int))=2*j),(ω:(((2*j+1:Nat):Int))=2*j+1),(ω:(19-(2*(j:Int)+1))=18-2*j)];exact EG _ (a.hv j h2 ω).s _ _ _ _ _ _ _ ω ω (fun h=>ω) (Cf ckT [] _ (a.hv j h2 ω) j h2 c)
 .exact EG _ (a.hv 9 ε ε).s _ _ _ _ _ _ _ ε ε (fun h=>s5 h ε) (Cg ckT [] _ (a.hv 9 ε ε))
theorem Aa(l:List Itm)(e:G19 l):FPure prog 151 [.p (.data 3 19 (bB l))] (.i 0):=by
 apply ba f151 [0,2,3,5,6,7,8,9,10,16,21];intro c J j Y Z;have k:=z7 ckT 0 19 [] [.v (.bool true),.v (.int .i64 0),laK 9] ε;refine θ ?_;refine ay Y j [0,2,3,5,6,7,8,9,10,16,21] 19 (fun i=>⟨22,[(3,.ptr 0 0),(7,.p (.data 3 19 (bB l))),(8,.i 19),(9,.i i)],hpI i,2⟩) [] (fun i=>i) ?_ ?_
 .refine⟨rfl,?_,?_,rfl,rfl,trivial,fun i h=>Nat.le_of_succ_le h⟩
  .exact κ
  .simp only[go_sem,hpI]
 .intro i m;have g:=ac i
  rcases ea i 19 with a|a
  .have d:=cJ l i (by rw[e.len];exact a);rcases w' i with rfl|o
   .have q:=T8;rw[e.h0] at d;rw[show hpI 0=[(0,some ⟨ckT,[eK,.i 0]⟩)] from rfl];simp only[go_sem,J,d,dW];apply co Y (ks:=[0,2,3,5,6,7,8,9,10,16,21]) (n:=2000) [] (sg 3 [0]) _ (by rw[J];exact q) ⟨κ,κ,rfl,trivial,oy _ 2,fun i hi=>by simp[keys] at hi;rcases hi with rfl|rfl<;>simp[liveK,sg],by simp[ax,ak,keys],by simp[bV,ak,ax,keys],rfl⟩;refine alc ?_;refine⟨ε,aA [0,4] rfl ?_ ?_ rfl rfl (cV rfl)⟩
    .exact κ
    .rw[show hpI (0+1)=[(0,some ⟨ckT,[.sl 1 0 1 3,.i 1]⟩),(1,some ⟨frT,[.b true,.i 18,eK]⟩)] from rfl];simp only[go_sem]
   .have f:=Ua e o a;generalize l.getD i (.b false)=x at *;rw[Gr (i:=i) ω ω] at f⊢;rw[QY (i:=i+1) (Nat.succ_ne_zero i)] at f;simp only[go_sem,J,d,dW,g,(ω:((i:Int)<19))];rw[QY (i:=i+1) (Nat.succ_ne_zero i)];generalize(if i+1=19 then 0 else 1)=n' at *;refine⟨ω,?_⟩;refine x_k Z 3 f ?_;simp only[go_sem,J,g];refine⟨a,aA [0,1] rfl ?_ ?_ rfl rfl (cV rfl)⟩
    .exact κ
    .exact κ
  .obtain rfl:i=19:=by omega
   rw[show hpI 19=[(0,some ⟨ckT,[.sl 1 0 0 3,.i 19]⟩),(1,some ⟨frT,[.b true,.i 0,.p (laK 9)]⟩)] from rfl];refine θ ?_;refine x_k Z 2 k ?_;simp only[go_sem,J]
abbrev blA(x:List UInt8):AV := .p (.data 1 x.length (x.map bt))
def oj:List UInt64:=[1,2,3,4,5,6,7,8,9]
abbrev xY:PV := .data 1 9 (oj.map wd)
abbrev fnK:AV := .fn (.func 147) [] [.cp [xY]]
def i7:List AV:=[.i 0,.i 1,.i 2,.i 3,.i 4,.i 5,.i 6,.i 7,.i 8]
@[simp] theorem Pk(T:List Nat):ak T i7:=by simp[i7,ak,ax]
theorem Gs:i7.length=9:=rfl
theorem Ub(h:bv)(S:List Nat)(σ:Nat->Nat):aj h S σ i7 i7↔True:=⟨fun _=>trivial,fun _=>aL h S σ [.v (.int .i64 0),.v (.int .i64 1),.v (.int .i64 2),.v (.int .i64 3),.v (.int .i64 4),.v (.int .i64 5),.v (.int .i64 6),.v (.int .i64 7),.v (.int .i64 8)]⟩
theorem Uc(τ:Nat->Nat):eu τ i7=i7:=cT τ [.v (.int .i64 0),.v (.int .i64 1),.v (.int .i64 2),.v (.int .i64 3),.v (.int .i64 4),.v (.int .i64 5),.v (.int .i64 6),.v (.int .i64 7),.v (.int .i64 8)]
def abp:List PV:=[.v (.int .i64 0),.v (.int .i64 1),.v (.int .i64 2),.v (.int .i64 3),.v (.int .i64 4),.v (.int .i64 5),.v (.int .i64 6),.v (.int .i64 7),.v (.int .i64 8)]
theorem abq(id:Nat)(b:Blk):fJ id b i7=i7:=xX id b abp
theorem Ud(id:Nat)(b:Blk):eU id b i7↔True:=vo id b abp
attribute [go_sem] Gs Pk Ub Uc abq Ud
theorem vq:∀i,i<9->ag (.v (.int .i64 0)) (i7.drop i) = .i i
 |0,_=>rfl|1,_=>rfl|2,_=>rfl|3,_=>rfl|4,_=>rfl|5,_=>rfl|6,_=>rfl|7,_=>rfl|8,_=>rfl
 |n+9,h=>by omega
theorem vr:∀i,i<9->(oj.getD i 0).toNat=i+1
 |0,_=>rfl|1,_=>rfl|2,_=>rfl|3,_=>rfl|4,_=>rfl|5,_=>rfl|6,_=>rfl|7,_=>rfl|8,_=>rfl
 |n+9,h=>by omega
theorem QZ(n:Int):FPure prog 219 [.p (.v (.int .u64 n))] (.b false):=by
 apply ba f219 [0,2];intro c J a Y Z;simp only[go_sem,J,bne_self_eq_false]
theorem Ii(a b:Int)(h:b<a):FPure prog 148 [.p (.v (.int .u64 a)),.p (.v (.int .u64 b))] (.i 1):=by
 apply ba f148 [0,1,4,5,6,11,12,13,16,19];intro c J d Y Z;refine δ (QZ a) ?_;refine δ (QZ b) ?_;simp only[go_sem,J,(ω:¬a<b),h,gt_iff_lt]
theorem Ln(j:Nat)(h1:1<=j)(a:j<9):FPure prog 147 [.i j,.i ((j:Int)-1),.cp [xY]] (.i 1):=by
 apply ba f147 [0,1,2,5];intro c J d Y Z;have e:=vr j a;have f:=vr (j-1) ω;have b:((j:Int)-1).toNat=j-1:=ω;have g:oj.length=9:=rfl;simp only[go_sem,J,b];refine⟨⟨ω,ω⟩,ω,⟨ω,ω⟩,ω,?_⟩;generalize oj.getD j 0=x at *;generalize oj.getD (j-1) 0=y at *;apply aa Z (Ii (x.toNat:Int) (y.toNat:Int) ω);simp only[go_sem,J];kernel_rfl
theorem Lo:Con prog 301 [.sl 0 0 9 1,.i 0,.i 9,fnK] [(0,some ⟨3,i7⟩)] (.tup []) [(0,some ⟨3,i7⟩)]:=by
 apply bn 1 f301 [0,1,2,3,8,9,14,34];intro c J a Y Z;refine alc ?_;refine bK Y [0] (fun i hi=>by have:=a i hi;simpa[liveK] using this) [0,1,2,3,8,9,14,34] 8 (fun i=>⟨53,[(0,.sl 0 0 9 1),(1,.i 0),(2,.i 9),(3,fnK),(8,.i (1+(i:Int)))],[(0,some ⟨3,i7⟩)],1⟩) [] (fun i=>i) ⟨rfl,?_,?_,rfl,rfl,trivial,fun i h=>h⟩ (fun i _=>rfl) ?_
 .simp only[go_sem];rfl
 .exact κ
 intro i hi;rcases ea i 8 with b|b
 .have e:=vq (1+i) ω;have f:=vq i ω;have g:(1+(i:Int)).toNat=1+i:=ω;have j:a'.wrap (1+(i:Int)-1)=(i:Int):=by rw[ab ω ω];omega
  have k:a'.wrap (1+(i:Int)+1)=1+((i+1:Nat):Int):=by rw[ab ω ω];omega
  have d:=Ln (1+i) ω ω;rw[(ω:(((1+i:Nat):Int)-1)=(i:Int))] at d;simp only[go_sem,J,(ω:(1:Int)+i<9)];refine bK Y [0] (fun i hi=>by have:=a i hi;simpa[liveK] using this) [0,1,2,3,8,9,14,34] 0 (fun _=>⟨53,[(0,.sl 0 0 9 1),(1,.i 0),(2,.i 9),(3,fnK),(8,.i (1+(i:Int))),(9,.i (1+(i:Int)))],[(0,some ⟨3,i7⟩)],1⟩) [] (fun i=>i) ⟨rfl,?_,?_,rfl,rfl,trivial,fun i h=>h⟩ (fun i _=>rfl) ?_
  .exact κ
  .exact κ
  intro _ _;simp only[go_sem,J,e,f,g,j,(ω:(0:Int)<1+i)];refine⟨⟨ω,ω⟩,ω,⟨ω,ω⟩,ω,?_⟩;apply aa Z d;simp only[go_sem,J,k];refine⟨π,b,kY [0] [0] rfl ?_ ?_ rfl rfl (c7 _) (fun i hi=>by simp at hi;subst hi;rfl)⟩
  .exact κ
  .exact κ
 .obtain rfl:i=8:=by omega
  simp only[go_sem,J,(ω:¬((1:Int)+((8:Nat):Int)<9)),(ω:¬((1:Int)+8<9))];exact Φ
def ajk:List Nat:=[0,1,2,3,4,10,11,12,13,14,15,16,17,18,19,20,25,32,39,56,75,80,97,125]
attribute[go_sem]ajk
theorem abr(n:Int):Con prog 217 [.sl 0 0 9 1,.i 0,.i 9,.i n,fnK] [(0,some ⟨3,i7⟩)] (.tup []) [(0,some ⟨3,i7⟩)]:=by
 apply bn 1 f217 ajk;intro c J a Y Z;refine θ ?_;refine bK Y [0] (fun i hi=>by have:=a i hi;simpa[liveK] using this) ajk 0 (fun _=>⟨148,[(0,.sl 0 0 9 1),(1,.i 0),(2,.i 9),(3,.i n),(4,fnK),(10,.b true),(11,.b true)],[(0,some ⟨3,i7⟩)],1⟩) [] (fun i=>i) ⟨rfl,?_,?_,rfl,rfl,trivial,fun i h=>h⟩ (fun i _=>rfl) ?_
 .exact κ
 .exact κ
 intro _ _;simp only[go_sem,J,show a'.wrap (9-0)=9 from ε];refine x_k Z 1 Lo ?_;refine θ ?_;exact Φ
theorem Pm:FPure prog 310 [.p (.v (.int .u64 9))] (.i 4):=by
 apply ba f310 [0,2,4,8,14];intro c J a Y Z;simp only[go_sem,J,show c'.wrap 9=9 from ε];refine⟨su π,?_⟩;kernel_rfl
theorem Pn:FPure prog 218 [.p (.v (.int .u64 9))] (.i 4):=by
 apply ba f218 [0,2];intro c J a Y Z;refine δ Pm ?_;simp only[go_sem,J]
theorem Po:Con prog 146 [.sl 0 0 9 1,fnK] [(0,some ⟨3,i7⟩)] (.tup []) [(0,some ⟨3,i7⟩)]:=by
 apply bn 1 f146 [0,1,4];intro c J a Y Z;simp only[go_sem,J,show d'.wrap 9=9 from ε];apply aa Z Pn;refine θ ?_;refine x_k Z 1 (abr 4) ?_;refine θ ?_;exact Φ
theorem Gt(s:List UInt8):FPure prog 75 [sv s] (.p (.data 3 1 (dW (.t s)))):=by
 apply ba f75 [0,2];intro c J a Y Z;simp only[go_sem,J];rfl
theorem tJ(n:UInt64):FPure prog 77 [.w n] (.p (.data 3 1 (dW (.u n)))):=by
 apply ba f77 [0,2];intro c J a Y Z;simp only[go_sem,J];rfl
theorem Ab(v:Bool):FPure prog 78 [.b v] (.p (.data 3 1 (dW (.b v)))):=by
 apply ba f78 [0,2,3,5];intro c J a Y Z;cases v
 .simp only[go_sem,J];rfl
 .simp only[go_sem,J];rfl
theorem Ch(s:List UInt8):FPure prog 76 [blA s] (.p (.data 3 1 (dW (.d s)))):=by
 apply ba f76 [0,2];intro c J a Y Z;refine θ ?_;exact⟨bL _,by rw[bS];rfl⟩
def xa(vs:List Itm):List PV:=vs.map fun x => .data 3 1 (dW x)
theorem Ci(vs:List Itm)(i:Nat)(h:i<vs.length):gE (.data 1 0 []) ((xa vs).drop i) = .data 3 1 (dW (vs.getD i (.b false))):=by
 induction vs generalizing i with
 |nil=>simp at h
 |cons x r a =>
  cases i with
  |zero=>rfl
  |succ i=>simpa[xa] using a i χ
theorem Gu(vs:List Itm):(xa vs).length=vs.length:=by simp[xa]
theorem Lp(vs:List Itm)(n:Nat)(j:vs.length=n)(k:n<1000)(hv:∀x,x∈vs->okI x):FPure prog 149 [.p (.data 1 n (xa vs))] (.i 0):=by
 refine ba f149 [0,2,4,5,6,7,8,9,15] ?_;intro c J e Y Z;refine θ ?_;refine ay Y e [0,2,4,5,6,7,8,9,15] n (fun i=>⟨18,[(6,.p (.data 1 n (xa vs))),(7,.i n),(8,.i i)],[],0⟩) [] (fun i=>i) ?_ ?_
 .exact afM
 .intro i l;rcases ea i n with a|a
  .have f:=ac i
   have d:=Ci vs i ω;have g:okI (vs.getD i (.b false)):=hv _ (by rw[show vs.getD i (.b false)=vs[i]'ω from by simp[cR,(ω:i<vs.length)]];exact ix _);generalize vs.getD i (.b false)=x at *;simp only[go_sem,J,d,(ω:((i:Int)<(n:Int)))];refine⟨ω,by rw[Gu];omega,?_⟩;refine aa Z (T9 x g) ?_;simp only[go_sem,J,f];refine⟨a,eh rfl ?_ ?_ rfl rfl (c7 _)⟩
   .exact κ
   .exact κ
  .obtain rfl:i=n:=by omega
   simp only[go_sem,J,(ω:¬((i:Int)<(i:Int)))]
theorem xZ(l:List Itm)(a:G19 l):FPure prog 150 [.p (.data 3 19 (bB l))] (.tup [.p (.data 3 19 (bB l)),.i 0]):=by
 apply ba f150 [0,2,3,4,8];intro c J b Y Z;refine δ (Aa l a) ?_;simp only[go_sem,J]
theorem Ue(x:Itm):(dW x).map AV.p=cZ [x]:=by simp[cZ,bB]
theorem Uf(l:List Itm):jN (cZ l)↔True:=⟨fun _=>trivial,fun _=>aG _⟩
theorem Pp(l:List Itm):jO (cZ l)=bB l:=aJ _
theorem Pq(h:bv)(S:List Nat)(σ:Nat->Nat)(l:List Itm):aj h S σ (cZ l) (cZ l)↔True:=⟨fun _=>trivial,fun _=>kJ h S σ l⟩
theorem Pr(τ:Nat->Nat)(l:List Itm):eu τ (cZ l)=cZ l:=cT τ _
attribute [go_sem] Ue Uf Pp Pq Pr vm jA
def kf(vs:List Itm)(n:Nat):List Itm := .m 9::(j' n).flatMap fun i=>[.u (A' (i+1)),vs.getD i (.b false)]
theorem nE(vs:List Itm)(n:Nat):kf vs (n+1)=kf vs n++[.u (A' (n+1)),vs.getD n (.b false)]:=by
 unfold kf;rw[List.range_succ,o'];simp
theorem vt(vs:List Itm):∀n,(kf vs n).length=1+2*n
 |0=>rfl
 |n+1=>by rw[nE,c9,vt vs n];simp;omega
theorem Lq(vs:List Itm)(h:∀i,i<9->okI (vs.getD i (.b false))):G19 (kf vs 9) where
 len:=rfl
 h0:=rfl
 hk j h1 h9:=by
  match j,h1,h9 with
  |1,_,_=>rfl|2,_,_=>rfl|3,_,_=>rfl|4,_,_=>rfl|5,_,_=>rfl|6,_,_=>rfl|7,_,_=>rfl|8,_,_=>rfl|9,_,_=>rfl
  |n+10,_,h=>omega
 hv j h1 h9:=by
  match j,h1,h9 with
  |1,_,_=>exact h 0 ε|2,_,_=>exact h 1 ε|3,_,_=>exact h 2 ε|4,_,_=>exact h 3 ε|5,_,_=>exact h 4 ε
  |6,_,_=>exact h 5 ε|7,_,_=>exact h 6 ε|8,_,_=>exact h 7 ε|9,_,_=>exact h 8 ε
  |n+10,_,h=>omega
def Ad(i:Nat):List AV:=i7.take i++e' (9-i) (.i 0)
theorem Lr:∀i,i<9->(Ad i).set i (.i i)=Ad (i+1)
 |0,_=>rfl|1,_=>rfl|2,_=>rfl|3,_=>rfl|4,_=>rfl|5,_=>rfl|6,_=>rfl|7,_=>rfl|8,_=>rfl
 |n+9,h=>by omega
theorem Lt(i:Nat)(h:i<=9):(Ad i).length=9:=by simp[Ad,Gs];omega
theorem Ps(i:Nat)(h:i<=9):∃cs:List PV,Ad i=cs.map .p:=by
 match i,h with
 |0,_=>exact⟨e' 9 (PV.v (.int .i64 0)),rfl⟩
 |n+1,hn=>exact⟨(Ad (n+1)).map unP,by
  match n,hn with
  |0,_=>rfl|1,_=>rfl|2,_=>rfl|3,_=>rfl|4,_=>rfl|5,_=>rfl|6,_=>rfl|7,_=>rfl|8,_=>rfl
  |k+9,h=>omega⟩
def ajl:List Nat:=[0,1,2,4,5,6,7,8,9,10,12,17,22,23,24,37,55,59,66,67,68,69,74]
attribute[go_sem]ajl
theorem Ug(vs:List Itm)(u:vs.length=9)(hv:∀x,x∈vs->okI x):FPure prog 74 [.p xY,.p (.data 1 9 (xa vs))] (.tup [.p (.data 3 19 (bB (kf vs 9))),.i 0]):=by
 apply ba f74 ajl;intro c J g Y Z;have w:a'.wrap (0+1)=1:=ε;refine θ ?_;refine⟨ε,?_⟩;refine ay Y g ajl 9 (fun i=>⟨93,[(1,.p (.data 1 9 (xa vs))),(2,.ptr 0 0),(6,.sl 1 0 9 1),(22,.i 9),(23,.i i)],[(1,some ⟨3,Ad i⟩),(0,some ⟨139,[.p xY]⟩)],2⟩) [] (fun i=>i) ?_ ?_
 .refine⟨rfl,?_,?_,rfl,rfl,trivial,fun i h=>h⟩
  .exact κ
  .simp only[go_sem];exact aL _ _ _ (e' 9 (.v (.int .i64 0)))
 intro i d;have r:=Lt i d;rcases ea i 9 with a|a
 .have e:=Lr i a;have j:=ac i
  have⟨cs,k⟩:=Ps (i+1) a;generalize Ad i=O at *;simp only[go_sem,J,j,(ω:((i:Int)<9)),Nat.mul_one];rw[e,k];refine⟨ω,ω,a,eh rfl ?_ ?_ rfl rfl (c7 _)⟩
  .exact κ
  .exact κ
 obtain rfl:i=9:=by omega
 rw[show Ad 9=i7 from rfl];refine θ ?_;refine gU Y (ks:=ajl) (n:=2000) 0 ?_ ?_
 .exact κ
 refine θ ?_;apply co Y (ks:=ajl) (n:=2000) [] (sg 2 [1]) 2 (by rw[J];exact Po) ⟨κ,κ,rfl,trivial,c7 _,fun i d => .inl (by simp[keys] at d;simp[liveK,d]),by simp[ax,ak,keys],by simp[bV,ak,ax,keys],rfl⟩;refine θ ?_;refine ay Y g ajl 8 (fun i=>⟨93,[(1,.p (.data 1 9 (xa vs))),(2,.cp [xY]),(6,.sl 1 0 9 1),(8,.i (1+(i:Int)))],[(1,some ⟨3,i7⟩)],2⟩) [] (fun i=>i) ?_ ?_
 .refine⟨rfl,?_,?_,rfl,rfl,trivial,fun i h=>h⟩
  .simp only[go_sem];rfl
  .exact κ
 intro i d;rcases ea i 8 with s|s
 .have z:=vq (1+i) ω;have l:=vq i ω;have A:(1+(i:Int)).toNat=1+i:=ω;have B:a'.wrap (1+(i:Int)-1)=(i:Int):=by rw[ab ω ω];omega
  have C:a'.wrap (1+(i:Int)+1)=1+((i+1:Nat):Int):=by rw[ab ω ω];omega
  have G:=vr (1+i) ω;have t:=vr i ω;have D:oj.length=9:=rfl;simp only[go_sem,J,z,l,A,B,C,(ω:(1:Int)+i<9)];generalize oj.getD (1+i) 0=x at *;generalize oj.getD i 0=y at *;refine⟨⟨ω,ω⟩,ω,⟨ω,ω⟩,ω,ω,ω,⟨ω,ω⟩,ω,π,?_⟩;rw[b0 ω];refine⟨s,eh rfl ?_ ?_ rfl rfl (c7 _)⟩
  .exact κ
  .exact κ
 obtain rfl:i=8:=by omega
 simp only[go_sem,J,(ω:¬((1:Int)+((8:Nat):Int)<9)),(ω:¬((1:Int)+8<9))];apply aa Z (Lp vs 9 u ε hv);simp only[go_sem,J,show d'.wrap 9=9 from ε];refine ay Y g ajl 9 (fun i=>⟨93,[(1,.p (.data 1 9 (xa vs))),(2,.cp [xY]),(6,.sl 1 0 9 1),(10,.sl 2 0 (1+2*i) 3),(66,.sl 1 0 9 1),(67,.i 9),(68,.i i)],[(1,some ⟨3,i7⟩),(2,some ⟨154,cZ (kf vs i)⟩)],3⟩) [] (fun i=>i) ?_ ?_
 .refine⟨rfl,?_,?_,rfl,rfl,trivial,fun i h=>h⟩
  .exact κ
  .simp only[go_sem];exact(show aj _ _ _ (cZ [.m 9]) (cZ [.m 9]) from kJ _ _ _ _)
 intro i d;rcases ea i 9 with a|a
 .have l:=vq i ω;have j:=ac i
  have t:=vr i a;have D:oj.length=9:=rfl;have E:oj.getD i 0=A' (i+1):=by
   apply s9.1;rw[t,gr,ie ω]
  have F:=vt vs i;have o:=Ci vs i ω;have q:=nE vs i;generalize vs.getD i (.b false)=v at *;generalize kf vs i=L at *;generalize kf vs (i+1)=L' at *;subst q;simp only[go_sem,J,l,E,(ω:¬(((1+2*i:Nat):Int)>512)),(ω:((i:Int)<9))];refine⟨ω,ω,ω,ω,?_⟩;apply aa Z (tJ (A' (i+1)));simp only[go_sem,J,o,j];refine⟨⟨ω,ω,ω⟩,⟨ω,ω⟩,by rw[Gu];omega,⟨ω,ω,ω⟩,a,aA [0,1,4] rfl ?_ ?_ rfl rfl (cV rfl)⟩
  .simp only[go_sem,(ω:1+2*(i+1)=1+2*i+1+1)]
  .simp only[go_sem,k']
 obtain rfl:i=9:=by omega
 have f:=Lq vs (fun i d=>hv _ (by rw[show vs.getD i (.b false)=vs[i]'ω from by simp[cR,(ω:i<vs.length)]];exact ix _));simp only[go_sem,J]
 first|refine df Y (ks:=ajl) (n:=2000) ?_ ?_ rfl (by rw[J];exact xZ (kf vs 9) f) (by simp only[go_sem,ax,ak,and_self]) ?_|refine dg Y (ks:=ajl) (n:=2000) ?_ ?_ rfl (by rw[J];exact xZ (kf vs 9) f) (by simp only[go_sem,ax,ak,and_self]) ?_
 .simp only[go_sem];rw[cD (by rw[jA,f.len];decide)];simp only[go_sem]
 .simp only[go_sem];rw[cD (by rw[jA,f.len];decide)];simp only[go_sem,f.len]
 simp only[go_sem,J]
theorem rD(n:UInt64)(k:Nat)(a:k<=64):c'.wrap (ishr .u64 (n.toNat:Int) (k:Int))=(((fu n k).toUInt8).toNat:Int):=by
 rw[oz n _ (by simpa using a),aH];simp
def abs:Itm->UInt8
 |.u _=>0 | .d _=>64 | .t _=>96 | .m _=>160 | .b _=>0
def xb:Itm->UInt64
 |.u n=>n | .d s=>A' s.length | .t s=>A' s.length | .m n=>n | .b _=>0
def jC:Itm->List UInt8
 |.b v=>[if v then 245 else 244]
 |x=>hdB (abs x) (xb x)
theorem Ij(x:Itm):cn x=jC x++x.da:=by cases x<;>simp[cn,jC,abs,xb,Itm.da]
theorem Uh(n:UInt64):fu n 0=n:=by unfold fu;simp
theorem ae2(n:UInt64):bgB n 1 1=[n.toUInt8]:=by simp[bgB,Uh]
theorem ae3(n:UInt64):bgB n 2 2=[(fu n 8).toUInt8,n.toUInt8]:=by simp[bgB,Uh]
theorem ae4(n:UInt64):bgB n 4 4=[(fu n 24).toUInt8,(fu n 16).toUInt8,(fu n 8).toUInt8,n.toUInt8]:=by simp[bgB,Uh]
theorem Cj(m:UInt8)(n:UInt64):(n.toNat<24/\hdB m n=[m+n.toUInt8])\/(¬n.toNat<24/\n.toNat<256/\hdB m n=[m+24,n.toUInt8]) \/
 (¬n.toNat<256/\n.toNat<65536/\hdB m n=[m+25,(fu n 8).toUInt8,n.toUInt8]) \/
 (¬n.toNat<65536/\n.toNat<4294967296/\hdB m n=[m+26,(fu n 24).toUInt8,(fu n 16).toUInt8,(fu n 8).toUInt8,n.toUInt8]) \/
 (¬n.toNat<4294967296/\hdB m n=(m+27)::dc n 8):=by
 by_cases h1:n.toNat<24
 .have⟨a,b⟩:=pX n h1;exact .inl ⟨h1,by unfold hdB;rw[a,b];rfl⟩
 by_cases h2:n.toNat<256
 .have⟨a,b⟩:=mM n h1 h2;exact .inr (.inl ⟨h1,h2,by unfold hdB;rw[a,b,ae2]⟩)
 by_cases c:n.toNat<65536
 .have⟨a,b⟩:=og n h2 c;exact .inr (.inr (.inl ⟨h2,c,by unfold hdB;rw[a,b,ae3]⟩))
 by_cases d:n.toNat<4294967296
 .have⟨a,b⟩:=oh n c d;exact .inr (.inr (.inr (.inl ⟨c,d,by unfold hdB;rw[a,b,ae4]⟩)))
 .have⟨a,b⟩:=oi n d;exact .inr (.inr (.inr (.inr ⟨d,by unfold hdB;rw[a,b,abn n 8 (c7 _)]⟩)))
theorem Ae(k:Itm)(M:UInt8)(n:UInt64)(r:jC k=hdB M n)(j:M=0/\k.kd=1/\k.nu=n\/M=160/\k.kd=6/\k.nu=n\/(M=64/\k.kd=3\/M=96/\k.kd=4)/\k.da.length<1000000/\n=A' k.da.length) :
 FPure prog 230 [.agg (eP k)] (blA (jC k)):=by
 apply ba f230 [0,1,2,3,4,8,9,15,18,20,26,32,34,36,44,52,63];intro c J t Y Z;rw[r] at Y Z⊢;have s:c'.wrap (0+((n.toUInt8).toNat:Int))=((0+n.toUInt8).toNat:Int):=jB 0 n.toUInt8;have o:c'.wrap (64+((n.toUInt8).toNat:Int))=((64+n.toUInt8).toNat:Int):=jB 64 n.toUInt8;have p:c'.wrap (96+((n.toUInt8).toNat:Int))=((96+n.toUInt8).toNat:Int):=jB 96 n.toUInt8;have l:c'.wrap (160+((n.toUInt8).toNat:Int))=((160+n.toUInt8).toNat:Int):=jB 160 n.toUInt8;have i:c'.wrap (ishr .u64 (n.toNat:Int) 8)=(((fu n 8).toUInt8).toNat:Int):=rD n 8 ε;have g:c'.wrap (ishr .u64 (n.toNat:Int) 16)=(((fu n 16).toUInt8).toNat:Int):=rD n 16 ε;have h:c'.wrap (ishr .u64 (n.toNat:Int) 24)=(((fu n 24).toUInt8).toNat:Int):=rD n 24 ε;rcases Cj M n with⟨m,e⟩|⟨m,q,e⟩|⟨m,q,e⟩|⟨m,q,e⟩|⟨m,e⟩<;>rw[e] at Y Z⊢
 .rcases j with⟨rfl,a,rfl⟩|⟨rfl,a,rfl⟩|⟨⟨rfl,a⟩|⟨rfl,a⟩,d,f⟩
  .simp only[go_sem,J,a,(ω:((k.nu.toNat:Int)<24)),aH,s]
   all_goals first|rfl|kernel_rfl|exact⟨π,rfl⟩
  .simp only[go_sem,J,a,(ω:((k.nu.toNat:Int)<24)),aH,l]
   all_goals first|rfl|kernel_rfl|exact⟨π,rfl⟩
  .have b:=fQ d;rw[<-f] at b;simp only[go_sem,J,a,b,(ω:((n.toNat:Int)<24)),aH,o]
   all_goals first|rfl|kernel_rfl|exact⟨π,rfl⟩
  .have b:=fQ d;rw[<-f] at b;simp only[go_sem,J,a,b,(ω:((n.toNat:Int)<24)),aH,p]
   all_goals first|rfl|kernel_rfl|exact⟨π,rfl⟩
 .rcases j with⟨rfl,a,rfl⟩|⟨rfl,a,rfl⟩|⟨⟨rfl,a⟩|⟨rfl,a⟩,d,f⟩
  .simp only[go_sem,J,a,(ω:¬((k.nu.toNat:Int)<24)),(ω:((k.nu.toNat:Int)<256)),aH,show c'.wrap (0+24)=24 from ε]
   all_goals first|rfl|kernel_rfl|exact⟨π,rfl⟩
  .simp only[go_sem,J,a,(ω:¬((k.nu.toNat:Int)<24)),(ω:((k.nu.toNat:Int)<256)),aH,show c'.wrap (160+24)=184 from ε]
   all_goals first|rfl|kernel_rfl|exact⟨π,rfl⟩
  .have b:=fQ d;rw[<-f] at b;simp only[go_sem,J,a,b,(ω:¬((n.toNat:Int)<24)),(ω:((n.toNat:Int)<256)),aH,show c'.wrap (64+24)=88 from ε]
   all_goals first|rfl|kernel_rfl|exact⟨π,rfl⟩
  .have b:=fQ d;rw[<-f] at b;simp only[go_sem,J,a,b,(ω:¬((n.toNat:Int)<24)),(ω:((n.toNat:Int)<256)),aH,show c'.wrap (96+24)=120 from ε]
   all_goals first|rfl|kernel_rfl|exact⟨π,rfl⟩
 .rcases j with⟨rfl,a,rfl⟩|⟨rfl,a,rfl⟩|⟨⟨rfl,a⟩|⟨rfl,a⟩,d,f⟩
  .simp only[go_sem,J,a,(ω:¬((k.nu.toNat:Int)<24)),(ω:¬((k.nu.toNat:Int)<256)),(ω:((k.nu.toNat:Int)<65536)),aH,show c'.wrap (0+25)=25 from ε,i]
   all_goals first|rfl|kernel_rfl|exact⟨π,rfl⟩
  .simp only[go_sem,J,a,(ω:¬((k.nu.toNat:Int)<24)),(ω:¬((k.nu.toNat:Int)<256)),(ω:((k.nu.toNat:Int)<65536)),aH,show c'.wrap (160+25)=185 from ε,i]
   all_goals first|rfl|kernel_rfl|exact⟨π,rfl⟩
  .have b:=fQ d;rw[<-f] at b;simp only[go_sem,J,a,b,(ω:¬((n.toNat:Int)<24)),(ω:¬((n.toNat:Int)<256)),(ω:((n.toNat:Int)<65536)),aH,show c'.wrap (64+25)=89 from ε,i]
   all_goals first|rfl|kernel_rfl|exact⟨π,rfl⟩
  .have b:=fQ d;rw[<-f] at b;simp only[go_sem,J,a,b,(ω:¬((n.toNat:Int)<24)),(ω:¬((n.toNat:Int)<256)),(ω:((n.toNat:Int)<65536)),aH,show c'.wrap (96+25)=121 from ε,i]
   all_goals first|rfl|kernel_rfl|exact⟨π,rfl⟩
 .rcases j with⟨rfl,a,rfl⟩|⟨rfl,a,rfl⟩|⟨⟨rfl,a⟩|⟨rfl,a⟩,d,f⟩
  .simp only[go_sem,J,a,(ω:¬((k.nu.toNat:Int)<24)),(ω:¬((k.nu.toNat:Int)<256)),(ω:¬((k.nu.toNat:Int)<65536)),(ω:((k.nu.toNat:Int)<4294967296)),aH,show c'.wrap (0+26)=26 from ε,i,g,h]
   all_goals first|rfl|kernel_rfl|exact⟨π,rfl⟩
  .simp only[go_sem,J,a,(ω:¬((k.nu.toNat:Int)<24)),(ω:¬((k.nu.toNat:Int)<256)),(ω:¬((k.nu.toNat:Int)<65536)),(ω:((k.nu.toNat:Int)<4294967296)),aH,show c'.wrap (160+26)=186 from ε,i,g,h]
   all_goals first|rfl|kernel_rfl|exact⟨π,rfl⟩
  .have b:=fQ d;rw[<-f] at b;simp only[go_sem,J,a,b,(ω:¬((n.toNat:Int)<24)),(ω:¬((n.toNat:Int)<256)),(ω:¬((n.toNat:Int)<65536)),(ω:((n.toNat:Int)<4294967296)),aH,show c'.wrap (64+26)=90 from ε,i,g,h]
   all_goals first|rfl|kernel_rfl|exact⟨π,rfl⟩
  .have b:=fQ d;rw[<-f] at b;simp only[go_sem,J,a,b,(ω:¬((n.toNat:Int)<24)),(ω:¬((n.toNat:Int)<256)),(ω:¬((n.toNat:Int)<65536)),(ω:((n.toNat:Int)<4294967296)),aH,show c'.wrap (96+26)=122 from ε,i,g,h]
   all_goals first|rfl|kernel_rfl|exact⟨π,rfl⟩
 .rcases j with⟨rfl,a,rfl⟩|⟨rfl,a,rfl⟩|⟨⟨rfl,a⟩|⟨rfl,a⟩,d,f⟩
  .simp only[go_sem,J,a,(ω:¬((k.nu.toNat:Int)<24)),(ω:¬((k.nu.toNat:Int)<256)),(ω:¬((k.nu.toNat:Int)<65536)),(ω:¬((k.nu.toNat:Int)<4294967296)),aH,show c'.wrap (0+27)=27 from ε];refine x_f Z (bI k.nu) ?_;exact agj
  .simp only[go_sem,J,a,(ω:¬((k.nu.toNat:Int)<24)),(ω:¬((k.nu.toNat:Int)<256)),(ω:¬((k.nu.toNat:Int)<65536)),(ω:¬((k.nu.toNat:Int)<4294967296)),aH,show c'.wrap (160+27)=187 from ε];refine x_f Z (bI k.nu) ?_;exact agj
  .have b:=fQ d;rw[<-f] at b;simp only[go_sem,J,a,b,(ω:¬((n.toNat:Int)<24)),(ω:¬((n.toNat:Int)<256)),(ω:¬((n.toNat:Int)<65536)),(ω:¬((n.toNat:Int)<4294967296)),aH,show c'.wrap (64+27)=91 from ε];refine⟨π,?_⟩;refine x_f Z (bI n) ?_;exact agj
  .have b:=fQ d;rw[<-f] at b;simp only[go_sem,J,a,b,(ω:¬((n.toNat:Int)<24)),(ω:¬((n.toNat:Int)<256)),(ω:¬((n.toNat:Int)<65536)),(ω:¬((n.toNat:Int)<4294967296)),aH,show c'.wrap (96+27)=123 from ε];refine⟨π,?_⟩;refine x_f Z (bI n) ?_;exact agj
theorem Pt(x:Itm)(a:x.da.length<1000000):FPure prog 230 [.agg (eP x)] (blA (jC x)):=by
 cases x with
 |u n=>exact Ae _ 0 n rfl (.inl ⟨rfl,rfl,rfl⟩)
 |m n=>exact Ae _ 160 n rfl (.inr (.inl ⟨rfl,rfl,rfl⟩))
 |d s=>exact Ae _ 64 _ rfl (.inr (.inr ⟨.inl ⟨rfl,rfl⟩,a,rfl⟩))
 |t s=>exact Ae _ 96 _ rfl (.inr (.inr ⟨.inr ⟨rfl,rfl⟩,a,rfl⟩))
 |b v =>
  apply ba f230 [0,1,2,3,4,8,9,15,18,20,26,32,34,36,44,52,63];intro c J e Y Z;cases v
  .refine θ ?_;exact⟨rfl,π⟩
  .refine θ ?_;exact⟨rfl,π⟩
theorem Ik(x:Itm):(jC x).length<=9:=by
 cases x with
 |u n=>have:=ia n;simp only[jC,ci,xb];omega
 |m n=>have:=ia n;simp only[jC,ci,xb];omega
 |d s=>have:=ia (A' s.length);simp only[jC,ci,xb];omega
 |t s=>have:=ia (A' s.length);simp only[jC,ci,xb];omega
 |b v=>simp[jC]
theorem mN(x:Itm)(a:x.da.length<1000000):FPure prog 160 [.agg (eP x)] (sv (cn x)):=by
 apply ba f160 [0,1,2];intro c J b Y Z;refine θ ?_;have hh:=Pt x a;have d:=Ik x;have e:=Ij x;rw[e] at Y Z;exact ahy
theorem rE:FPure prog 351 [.i 1] (.b true):=by
 apply ba f351 [0,2];intro c J a Y Z;simp only[go_sem,J]
theorem vu(n a d:Int)(h1:a<=n)(h2:n<=d):FPure prog 350 [.i n,.i a,.i d] (.b true):=by
 apply ba f350 [0,1,2,6];intro c J e Y Z;simp only[go_sem,J,h1,h2,decide_true,show n>=a from h1]
theorem Gv(a b:UInt8)(h:a.toNat<b.toNat):FPure prog 352 [sv [a],sv [b]] (.b true):=by
 apply ba f352 [0,1,4,9];intro c J d Y Z;refine θ ?_;rw[cK,cK];simp[Op.bytesLess,z',h]
theorem G19.da{l:List Itm}(h:G19 l)(i:Nat)(c:i<19):(l.getD i (.b false)).da.length<=1024:=by
 rcases w' i with rfl|d
 .rw[h.h0];decide
 obtain⟨j,a⟩:∃j,i=2*j-1/\1<=j/\j<=9\/i=2*j/\1<=j/\j<=9:=⟨(i+1)/2,ω⟩;rcases a with⟨rfl,h1,h2⟩|⟨rfl,h1,h2⟩
 .rw[h.hk j h1 h2];exact gi _
 .have:=h.hv j h1 h2;generalize l.getD (2*j) (.b false)=x at *;cases x<;>simp only[okI,Itm.da,km] at * <;> omega
theorem G19.bs{l:List Itm}(h:G19 l):∀i,i<=19->(cO (l.take i)).length<=i*1033
 |0,_=>by simp[cO]
 |i+1,hi=>by
  rw[gq l i (by rw[h.len];omega),c9];have h1:=h.bs i ω;have h2:=Gp (l.getD i (.b false));have a:=h.da i ω;omega
theorem EH(l:List Itm)(hl:G19 l):FPure prog 79 [.p (.data 3 19 (bB l))] (.tup [blA (cO l),.i 0]):=by
 apply ba f79 [0,2,3,4,5,7,11,13,14,15,16];intro c J j Y Z;have e:=hl.bs 19 ε;rw[show l.take 19=l from cD (by rw[hl.len];decide)] at e;refine δ (Aa l hl) ?_;refine θ ?_;apply aX bP;refine ay Y j [0,2,3,4,5,7,11,13,14,15,16] 19 (fun i=>⟨24,[(5,.sl 0 0 (cO (l.take i)).length 1),(13,.p (.data 3 19 (bB l))),(14,.i 19),(15,.i i)],[(0,some ⟨bP,cb (cO (l.take i))⟩)],1⟩) [] (fun i=>i) ?_ ?_
 .refine⟨rfl,?_,?_,rfl,rfl,trivial,fun i h=>h⟩
  .refine akv ?_;rfl
  .refine akv ?_;exact af1
 intro i d;rcases ea i 19 with a|a
 .have k:=ac i
  have f:=cJ l i (by rw[hl.len];exact a);have m:=hl.da i a;have o:=hl.bs i d;have g:=gq l i (by rw[hl.len];exact a);generalize l.getD i (.b false)=x at *;generalize cO (l.take i)=b at *;generalize cO (l.take (i+1))=b' at *;subst g;have q:=pY b b.length rfl ω x ω;simp only[go_sem,J,f,dW,(ω:((i:Int)<19))];refine⟨ω,?_⟩;apply co Y (ks:=[0,2,3,4,5,7,11,13,14,15,16]) (n:=2000) [] (sg 2 [0]) _ (by rw[J];exact q) ⟨κ,by simp only[go_sem];exact aC _ _ _ _,rfl,trivial,oy _ 2,fun i d=>by simp[keys] at d;rcases d with rfl|rfl<;>simp[liveK,sg],by simp[ax,ak,keys],by simp[bV,ak,ax,cm],rfl⟩;simp only[go_sem,J,k];refine⟨a,aA [3] rfl ?_ ?_ rfl rfl (cV rfl)⟩
  .exact κ
  .exact agP
 exact agU
def kL(n:Int):UInt64:=A' n.toNat
structure CrOk(c:Cr):Prop where
 rp1:1<=c.rp.length
 rp2:c.rp.length<=64
 us1:1<=c.us.length
 us2:c.us.length<=16
 nm:c.nm.length<=32
 hg:1<=c.hg/\c.hg<=4
 pt:1<=c.pt/\c.pt<=3
 u1:okU c.rp=true
 u2:okU c.nm=true
 sh:c.sh=true->c.rs=true
 bk:c.bk=true->c.sh=true
def fA(c:Cr):List Itm:=[.t c.rp,.d c.us,.t c.nm,.u c.sd,.u (kL c.hg),.b c.rs,.u (kL c.pt),.b c.sh,.b c.bk]
def crL(c:Cr):List Itm:=kf (fA c) 9
def fj(c:Cr):List UInt8:=cO (crL c)
theorem CrOk.it{c:Cr}(h:CrOk c):∀x,x∈fA c->okI x:=by
 intro x a;simp only[fA,hZ,g',or_false] at a;have:=h.rp2;have:=h.us2;have:=h.nm;rcases a with rfl|rfl|rfl|rfl|rfl|rfl|rfl|rfl|rfl<;>first|trivial|(simp only[okI];omega)|exact⟨ω,h.u1⟩|exact⟨ω,h.u2⟩
theorem CrOk.G{c:Cr}(h:CrOk c):G19 (crL c):=Lq _ fun i a=>h.it _ (by
 match i,a with
 |0,_=>simp[fA]|1,_=>simp[fA]|2,_=>simp[fA]|3,_=>simp[fA]|4,_=>simp[fA]|5,_=>simp[fA]|6,_=>simp[fA]|7,_=>simp[fA]|8,_=>simp[fA]
 |n+9,h=>omega)
theorem p6(n a d:Int)(h1:a<=n)(h2:n<=d):FPure prog 144 [.i n,.i a,.i d] (.b true):=by
 apply ba f144 [0,1,2,6];intro c J e Y Z;simp only[go_sem,J,h1,h2,decide_true]
@[simp] theorem aeQ(T:List Nat)(x:Cr):ak T (crC x):=by simp[crC,ak,ax]
theorem Lu(x:Cr)(h:CrOk x):FPure prog 73 [.agg (crC x)] (.i 0):=by
 apply ba f73 [0,1,2,3,26,35];intro c J d Y Z;have h1:=h.rp1;have h2:=h.rp2;have e:=h.us1;have f:=h.us2;have g:=h.nm;have a:=h.hg;have b:=h.pt;have h8:=h.u1;have h9:=h.u2;have h10:=h.sh;have h11:=h.bk;have⟨rp,us,nm,j,hg,rs,pt,sh,bk⟩:=x;dsimp only at *;refine δ (p6 rp.length 1 64 ω ω) ?_;refine δ (p6 us.length 1 16 ω ω) ?_;simp only[go_sem,J,(ω:¬((nm.length:Int)>32))];apply aa Z (p6 hg 1 4 a.1 a.2);refine δ (p6 pt 1 3 b.1 b.2) ?_;exact agE
theorem fR(n:Int)(a:0<=n)(h:n<1000000):d'.wrap n=((kL n).toNat:Int):=by
 unfold kL;rw[ao a ω,gr,ie ω];omega
theorem Il(x:Cr)(h:CrOk x):FPure prog 21 [.agg (crC x)] (.tup [blA (fj x),.i 0]):=by
 apply ba f21 [0,1,2,3,4,5,6,7,11,51];intro c J f Y Z;have a:=Ug (fA x) rfl h.it;have b:=EH (crL x) h.G;have hv:=Lu x h;have d:=fR x.hg (by have:=h.hg;omega) (by have:=h.hg;omega);have e:=fR x.pt (by have:=h.pt;omega) (by have:=h.pt;omega);refine aky ?_;apply aa Z (Gt x.rp);simp only[go_sem,J]
 first|refine df Y (ks:=[0,1,2,3,4,5,6,7,11,51]) (n:=2000) ?_ ?_ rfl (by rw[J];exact Ch x.us) (by simp only[go_sem,ax,ak,and_self]) ?_|refine dg Y (ks:=[0,1,2,3,4,5,6,7,11,51]) (n:=2000) ?_ ?_ rfl (by rw[J];exact Ch x.us) (by simp only[go_sem,ax,ak,and_self]) ?_
 .simp only[go_sem];rw[cD η];exact aJ _
 .simp only[go_sem];rw[cD η];exact⟨c7 _,aG _⟩
 refine δ (Gt x.nm) ?_;refine δ (tJ x.sd) ?_;simp only[go_sem,J,d];apply aa Z (tJ (kL x.hg));refine δ (Ab x.rs) ?_;simp only[go_sem,J,e];apply aa Z (tJ (kL x.pt));refine δ (Ab x.sh) ?_;refine δ (Ab x.bk) ?_;refine θ ?_;refine x_f Z a ?_;refine wi ?_;refine als ?_;exact⟨rfl,rfl⟩
theorem Ck(x:Itm)(g:okI x\/x = .m 9)(e a:Int)(ha:e<512)(l:a<=8)(j:List UInt8):FPure prog 314 [.agg (eP x),.i e,.i a,.b false,sv j] (.i 0):=by
 refine ba f314 [0,1,2,3,4,5,10,11,12,29,32,46,49,80,93,103] ?_;intro c J o Y Z;have f:=vu x.kd 1 8 (Gq x).1 (Gq x).2;have k:((B' 9:Nat):Int)=9:=ε;cases x with
 |u n =>
  simp only[go_sem,J,(ω:¬e>=512),(ω:¬a>8)];refine aa Z f ?_;simp only[go_sem,J,(ω:¬a>8)]
 |m n =>
  obtain rfl:n=9:=by rcases g with h|h;exact h.elim;cases h;rfl
  simp only[go_sem,J,(ω:¬e>=512),(ω:¬a>8)];refine aa Z f ?_;simp only[go_sem,J,(ω:¬a>8),k]
 |d s =>
  have hs:okI (.d s):=by rcases g with h|h;exact h;cases h
  have hs:s.length<=1024:=hs;simp only[go_sem,J,(ω:¬e>=512),(ω:¬a>8)];refine aa Z f ?_;simp only[go_sem,J,(ω:¬a>8),(ω:¬((s.length:Int)>1024))]
 |t s =>
  have hs:okI (.t s):=by rcases g with h|h;exact h;cases h
  simp only[go_sem,J,(ω:¬e>=512),(ω:¬a>8)];refine aa Z f ?_;simp only[go_sem,J,(ω:¬a>8),show¬((s.length:Int)>1024) from by have:=hs.1;omega];refine aa Z (bW s (by have:=hs.1;omega)) ?_;simp only[go_sem,J,hs.2]
 |b v =>
  have hv:¬((B' (bN v):Nat):Int)>1:=by cases v<;>decide
  simp only[go_sem,J,(ω:¬e>=512),(ω:¬a>8)];refine aa Z f ?_;simp only[go_sem,J,(ω:¬a>8),hv]
def bfP(j:Nat):List UInt8:=if j=1 then[] else[y' (j-1)]
theorem Im(j:Nat)(h1:1<=j)(k:j<=9)(d a:Int)(ha:d<512)(l:a<=8):FPure prog 314 [.agg (eP (.u (A' j))),.i d,.i a,.b true,sv (bfP j)] (.i 0):=by
 apply ba f314 [0,1,2,3,4,5,10,11,12,29,32,46,49,80,93,103];intro c J m Y Z;have h:=vu 1 1 8 ε ε;have g:=mN (.u (A' j)) (by simp[Itm.da]);rw[show cn (.u (A' j))=[y' j] from Ih ⟨j,ω⟩] at g;simp only[go_sem,J,(ω:¬d>=512),(ω:¬a>8)];apply aa Z h;refine δ rE ?_;rcases Nat.eq_or_lt_of_le h1 with e|e
 .have f:bfP j=[]:=by unfold bfP;rw[b9 e.symm]
  simp only[go_sem,J,(ω:¬a>8),f]
 .have f:bfP j=[y' (j-1)]:=by unfold bfP;rw[b0 ω]
  simp only[go_sem,J,(ω:¬a>8),f,cK];apply aa Z g;refine δ (Gv (y' (j-1)) (y' j) (by rw[nw,nw];omega)) ?_;simp only[go_sem,J]
def ajo:List Nat:=[0,1,2,3,4,10,11,12,13,14,15,16,17,18,22,35,53,58,70,87]
attribute[go_sem]ajo
theorem Lv(l:List Itm)(n i:Nat)(t:l.length=n)(m:n<512)(u:i<n)(j:okI (l.getD i (.b false)))(a:Int)(o:a<=8)(k:List UInt8) :
 FPure prog 229 [.p (.data 3 n (bB l)),.i i,.i a,.b false,sv k] (.tup [.i ((i+1:Nat):Int),.i 0]):=by
 refine ba f229 ajo ?_;intro c J q Y Z;have e:=cJ l i ω;have r:=Ck (l.getD i (.b false)) (.inl j) i a ω o k;have s:=ac i
 generalize l.getD i (.b false)=x at *;simp only[go_sem,J,e,dW,(ω:¬((i:Int)>=(n:Int)))];refine⟨⟨ω,ω⟩,?_⟩;refine aa Z r ?_;have f:¬x.kd=5:=by cases x<;>simp[Itm.kd]
 have g:¬x.kd=6:=by cases x<;>first|exact j.elim|simp[Itm.kd]
 simp only[go_sem,J,s];refine ay Y q ajo 0 (fun _=>⟨91,[(12,.ptr 0 0),(14,.i ((i+1:Nat):Int)),(16,.p (.v (.int .u64 0)))],[(0,some ⟨154,eP x⟩)],1⟩) [] (fun i=>i) ?_ ?_
 .exact afM
 .intro _ _;by_cases d:(0:Int)<(x.nu.toNat:Int)
  .simp only[go_sem,J,d,f,g]
  .simp only[go_sem,J,d]
theorem Lw(l:List Itm)(n i:Nat)(s:l.length=n)(f:n<512)(t:i<n)(j:Nat)(h1:1<=j)(g:j<=9)(k:l.getD i (.b false) = .u (A' j))(a:Int)(m:a<=8) :
 FPure prog 229 [.p (.data 3 n (bB l)),.i i,.i a,.b true,sv (bfP j)] (.tup [.i ((i+1:Nat):Int),.i 0]):=by
 refine ba f229 ajo ?_;intro c J o Y Z;have d:=cJ l i ω;have q:=Im j h1 g i a ω m;have r:=ac i
 rw[k] at d;generalize bfP j=bf at *;generalize x:A' j=w at *;simp only[go_sem,J,d,dW,(ω:¬((i:Int)>=(n:Int)))];refine⟨⟨ω,ω⟩,?_⟩;refine aa Z q ?_;simp only[go_sem,J,r];refine ay Y o ajo 0 (fun _=>⟨91,[(12,.ptr 0 0),(14,.i ((i+1:Nat):Int)),(16,.p (.v (.int .u64 0)))],[(0,some ⟨154,eP (.u w)⟩)],1⟩) [] (fun i=>i) ?_ ?_
 .exact afM
 .intro _ _;by_cases e:(0:Int)<(w.toNat:Int)
  .simp only[go_sem,J,e]
  .simp only[go_sem,J,e]
def laS(i:Nat):List UInt8:=if i=0 then[] else[y' i]
theorem In(l:List Itm)(d:G19 l):FPure prog 229 [.p (.data 3 19 (bB l)),.i 0,.i 0,.b false,sv []] (.tup [.i 19,.i 0]):=by
 refine ba f229 ajo ?_;intro c J r Y Z;have a:=cJ l 0 (by rw[d.len];decide);have s:=Ck (.m 9) (.inr rfl) 0 0 ε ε [];have k:((B' 9:Nat):Int)=9:=ε;rw[d.h0,Nat.zero_mul,List.drop_zero] at a;have g:(bB l).take 3=dW (.m 9):=by rw[a];rfl
 have e:a'.wrap (0+1)=1:=ε;have j:(bB l).length=57:=by rw[kI,d.len]
 clear a;simp only[go_sem,J,g,dW];refine⟨by rw[j];decide,?_⟩;refine aa Z s ?_;simp only[go_sem,J,e];refine ay Y r ajo 9 (fun i=>⟨91,[(0,.p (.data 3 19 (bB l))),(2,.i 0),(12,.ptr 0 0),(14,.i ((1+2*i:Nat):Int)),(15,sv (laS i)),(16,.p (.v (.int .u64 i)))],[(0,some ⟨154,eP (.m 9)⟩)],1⟩) [] (fun i=>i) ?_ ?_
 .refine⟨rfl,?_,?_,rfl,rfl,trivial,fun i h=>h⟩
  .simp only[go_sem,laS]
  .exact κ
 intro i y;rcases ea i 9 with f|f
 .have n:=Lw l 19 (1+2*i) d.len ε ω (i+1) ω ω (by have:=d.hk (i+1) ω ω;rwa [(ω:2*(i+1)-1=1+2*i)] at this) 1 ε;have hv:=Lv l 19 (1+2*i+1) d.len ε ω (by have:=d.hv (i+1) ω ω;rwa [(ω:2*(i+1)=1+2*i+1)] at this) 1 ε [];have a:=cJ l (1+2*i) (by rw[d.len];omega);have o:=d.hk (i+1) ω ω;rw[(ω:2*(i+1)-1=1+2*i)] at o;rw[o] at a;have q:=mN (.u (A' (i+1))) (by simp[Itm.da]);rw[show cn (.u (A' (i+1)))=[y' (i+1)] from Ih ⟨i+1,ω⟩] at q;have t:bfP (i+1)=laS i:=by
   unfold bfP laS;by_cases h:i=0
   .subst h;rfl
   .rw[b0 ω,b0 h];rfl
  have w:laS (i+1)=[y' (i+1)]:=by unfold laS;rw[b0 ω]
  rw[t] at n;have x:d'.wrap ((i:Int)+1)=((i+1:Nat):Int):=by rw[ao ω ω];omega
  generalize laS i=la at *;simp only[go_sem,J,k,e,(ω:((i:Int)<9))];refine aa Z n ?_;simp only[go_sem,J,a,dW];refine⟨⟨ω,ω⟩,?_⟩;refine aa Z q ?_;simp only[go_sem,J,e];refine aa Z hv ?_;simp only[go_sem,J,x];refine⟨f,eh rfl ?_ ?_ rfl rfl (c7 _)⟩
  .simp only[go_sem,w];omega
  .exact κ
 obtain rfl:i=9:=by omega
 simp only[go_sem,J,k]
theorem Lx(l:List Itm)(a:G19 l):FPure prog 159 [.p (.data 3 19 (bB l))] (.i 0):=by
 apply ba f159 [0,2,3,4,11,16];intro c J b Y Z;refine δ (In l a) ?_;simp only[go_sem,J]
theorem Cl(l:List Itm)(hl:G19 l):FPure prog 90 [.p (.data 3 19 (bB l))] (.tup [blA (cO l),.i 0]):=by
 apply ba f90 [0,2,3,4,5,6,10,15];intro c J f Y Z;have a:=hl.bs 19 ε;rw[show l.take 19=l from cD (by rw[hl.len];decide)] at a;refine δ (Lx l hl) ?_;refine θ ?_;apply aX bP;refine ay Y f [0,2,3,4,5,6,10,15] 19 (fun i=>⟨26,[(0,.p (.data 3 19 (bB l))),(5,.sl 0 0 (cO (l.take i)).length 1),(6,.i i)],[(0,some ⟨bP,cb (cO (l.take i))⟩)],1⟩) [] (fun i=>i) ?_ ?_
 .refine⟨rfl,?_,?_,rfl,rfl,trivial,fun i h=>h⟩
  .refine akv ?_;rfl
  .refine akv ?_;exact af1
 intro i g;rcases ea i 19 with h19|h19
 .have hw:=ac i
  have d:=cJ l i (by rw[hl.len];exact h19);have j:=hl.da i h19;have k:=hl.bs i g;have e:=gq l i (by rw[hl.len];exact h19);have m:=Gp (l.getD i (.b false));have n:=mN (l.getD i (.b false)) ω;generalize l.getD i (.b false)=x at *;generalize cO (l.take i)=b at *;generalize cO (l.take (i+1))=b' at *;subst e;simp only[go_sem,J,d,dW,(ω:((i:Int)<19))];refine⟨ω,?_⟩;apply aa Z n;exact ag6
 exact agU
theorem ib(n:UInt64):FPure prog 88 [.w n] (.agg (eP (.u n))):=by
 apply ba f88 [0,2];intro c J a Y Z;simp only[go_sem,J]
theorem lG(v:Bool):FPure prog 89 [.b v] (.agg (eP (.b v))):=by
 apply ba f89 [0,2,3];intro c J a Y Z;cases v<;>simp only[go_sem,J]
 all_goals try rfl
theorem Af(s:List UInt8):FPure prog 86 [sv s] (.agg (eP (.t s))):=by
 apply ba f86 [0,2];intro c J a Y Z;simp only[go_sem,J]
theorem Ag(s:List UInt8):FPure prog 87 [sv s] (.agg (eP (.d s))):=by
 apply ba f87 [0,2];intro c J a Y Z;simp only[go_sem,J]
theorem j1(n a d:Int)(h1:a<=n)(h2:n<=d):FPure prog 158 [.i n,.i a,.i d] (.b true):=by
 apply ba f158 [0,1,2,6];intro c J e Y Z;simp only[go_sem,J,h1,h2,decide_true,show n>=a from h1]
theorem rF(x:Cr)(h:CrOk x):FPure prog 85 [.agg (crC x)] (.i 0):=by
 apply ba f85 [0,1,2,3,34,45];intro c J d Y Z;have h1:=h.rp1;have h2:=h.rp2;have e:=h.us1;have f:=h.us2;have g:=h.nm;have a:=h.hg;have b:=h.pt;have h8:=h.u1;have h9:=h.u2;have h10:=h.sh;have h11:=h.bk;have⟨rp,us,nm,j,hg,rs,pt,sh,bk⟩:=x;dsimp only at *;refine δ (j1 rp.length 1 64 ω ω) ?_;refine δ (j1 us.length 1 16 ω ω) ?_;simp only[go_sem,J,(ω:¬((nm.length:Int)>32))];apply aa Z (j1 hg 1 4 a.1 a.2);refine δ (j1 pt 1 3 b.1 b.2) ?_;exact agE
theorem Gw(l:List Itm)(i:Nat)(h:i<l.length):(cZ l).drop (i*3) = .i (l.getD i (.b false)).kd :: .w (l.getD i (.b false)).nu::sv (l.getD i (.b false)).da::cZ (l.drop (i+1)):=by
 unfold cZ;rw[<-List.map_drop,cJ l i h];simp[dW]
theorem fG(x:Cr)(h:CrOk x):FPure prog 28 [.agg (crC x)] (.tup [blA (fj x),.i 0]):=by
 apply ba f28 [0,1,2,3,4,5,6,7,11,48];intro c J k Y Z;have hv:=rF x h;have l:=fR x.hg (by have:=h.hg;omega) (by have:=h.hg;omega);have o:=fR x.pt (by have:=h.pt;omega) (by have:=h.pt;omega);refine aky ?_;apply aa Z (Af x.rp);refine δ (Ag x.us) ?_;refine δ (Af x.nm) ?_;refine δ (ib x.sd) ?_;simp only[go_sem,J,l];apply aa Z (ib (kL x.hg));refine δ (lG x.rs) ?_;simp only[go_sem,J,o];apply aa Z (ib (kL x.pt));refine δ (lG x.sh) ?_;refine δ (lG x.bk) ?_;refine wi ?_;refine ay Y k [0,1,2,3,4,5,6,7,11,48] 9 (fun i=>⟨66,[(5,.sl 1 0 9 3),(6,.sl 2 0 (1+2*i) 3),(7,.i i)],[(1,some ⟨154,cZ (fA x)⟩),(2,some ⟨154,cZ (kf (fA x) i)⟩)],3⟩) [] (fun i=>i) ?_ ?_
 .refine⟨rfl,?_,?_,rfl,rfl,trivial,fun i h=>h⟩
  .exact κ
  .simp only[go_sem];exact⟨(show aj _ _ _ (cZ (fA x)) (cZ (fA x)) from kJ _ _ _ _),(show aj _ _ _ (cZ [.m 9]) (cZ [.m 9]) from kJ _ _ _ _)⟩
 intro i y;rcases ea i 9 with d|d
 .have g:=ac i
  have p:d'.wrap ((i+1:Nat):Int)=((A' (i+1)).toNat:Int):=by rw[ao ω ω,gr,ie ω]
  have e:=Gw (fA x) i d;have f:=nE (fA x) i;have q:=vt (fA x) i;have r:(fA x).length=9:=rfl;generalize s:fA x=L0 at *;generalize L0.getD i (.b false)=v at *;generalize kf L0 i=L at *;generalize kf L0 (i+1)=L' at *;subst f;simp only[go_sem,J,g,p,(ω:((i:Int)<9))];apply aa Z (ib (A' (i+1)));have t:cZ L++[.i 1,.w (A' (i+1)),sv [],.i v.kd,.w v.nu,sv v.da]=cZ (L++[.u (A' (i+1)),v]):=by rw[<-vm];rfl
  simp only[go_sem,J,e,g,t];refine⟨⟨ω,ω⟩,ω,⟨ω,ω,ω⟩,π,d,aA [0,1,4] rfl ?_ ?_ rfl rfl (cV rfl)⟩
  .simp only[go_sem,(ω:1+2*(i+1)=1+2*i+2)]
  .exact κ
 obtain rfl:i=9:=by omega
 have a:=h.G;have j:=Cl (crL x) a;unfold fj at Y Z;simp only[go_sem,J]
 first|refine df Y (ks:=[0,1,2,3,4,5,6,7,11,48]) (n:=2000) ?_ ?_ rfl (by rw[J];exact j) (by simp only[go_sem,ax,ak,and_self]) ?_|refine dg Y (ks:=[0,1,2,3,4,5,6,7,11,48]) (n:=2000) ?_ ?_ rfl (by rw[J];exact j) (by simp only[go_sem,ax,ak,and_self]) ?_
 .refine alo ?_;rfl
 .refine alo ?_;exact Nat.le_of_eq (congrArg (·*3) a.len.symm)
 simp only[go_sem,J]
theorem abt(n:UInt64)(h:n.toNat<256):szN n<=1:=by
 by_cases h2:n.toNat<24
 .rw[(pX n h2).2];decide
 .rw[(mM n h2 h).2];exact c7 _
theorem EI(v:List Itm)(n:Nat):(cO (kf v (n+1))).length=(cO (kf v n)).length+(cn (.u (A' (n+1)))).length+(cn (v.getD n (.b false))).length:=by
 rw[nE];simp only[cO,o',s6,List.flatMap_nil,c9,km];omega
theorem Ly:∀i:_root_.Fin 9,(cn (.u (A' (i.val+1)))).length=1:=by decide +kernel
theorem mO(x:Cr)(h:CrOk x):(fj x).length<=160:=by
 have v:=h.rp2;have w:=h.us2;have y:=h.nm;have hg:=h.hg;have z:=h.pt;have c:∀s:List UInt8,s.length<256->szN (A' s.length)<=1:=fun s hs=>abt _ (by rw[gr,ie ω];exact hs)
 have st:∀s:List UInt8,s.length<256->(cn (.t s)).length<=2+s.length:=fun s hs=>by have:=c s hs;rw[cn,c9,ci];omega
 have q:∀s:List UInt8,s.length<256->(cn (.d s)).length<=2+s.length:=fun s hs=>by have:=c s hs;rw[cn,c9,ci];omega
 have a:∀n:UInt64,(cn (.u n)).length<=9:=fun n=>by have:=ia n;rw[show cn (.u n)=hdB 0 n from rfl,ci];omega
 have h1:=st x.rp ω;have h2:=q x.us ω;have A:=st x.nm ω;have B:=a x.sd;have C:=a (kL x.hg);have D:=a (kL x.pt);have E:(cn (.b x.rs)).length=1:=rfl;have F:(cn (.b x.sh)).length=1:=rfl;have G:(cn (.b x.bk)).length=1:=rfl;have hs:∀n:Nat,n<9->(cO (kf (fA x) (n+1))).length=(cO (kf (fA x) n)).length+1+(cn ((fA x).getD n (.b false))).length:=fun n r=>by
  rw[EI,Ly ⟨n,r⟩]
 have H:(cO (kf (fA x) 0)).length=1:=by
  show(cn (.m 9)++[]).length=1;decide +kernel
 have e:=hs 0 ε;have f:=hs 1 ε;have g:=hs 2 ε;have i:=hs 3 ε;have j:=hs 4 ε;have k:=hs 5 ε;have l:=hs 6 ε;have o:=hs 7 ε;have p:=hs 8 ε;simp only[Nat.reduceAdd] at e f g i j k l o p;rw[show(fA x).getD 0 (.b false) = .t x.rp from rfl] at e;rw[show(fA x).getD 1 (.b false) = .d x.us from rfl] at f;rw[show(fA x).getD 2 (.b false) = .t x.nm from rfl] at g;rw[show(fA x).getD 3 (.b false) = .u x.sd from rfl] at i;rw[show(fA x).getD 4 (.b false) = .u (kL x.hg) from rfl] at j;rw[show(fA x).getD 5 (.b false) = .b x.rs from rfl] at k;rw[show(fA x).getD 6 (.b false) = .u (kL x.pt) from rfl] at l;rw[show(fA x).getD 7 (.b false) = .b x.sh from rfl] at o;rw[show(fA x).getD 8 (.b false) = .b x.bk from rfl] at p;show(cO (kf (fA x) 9)).length<=_;omega
def Lz(b:List UInt8):Prop:=b=[]\/∃x,CrOk x/\x.rs=true/\b=fj x
structure StOk(s:ai):Prop where
 k:(vgetM 1 s).length=8/\(vgetM 2 s).length=4
 c:∀i:Nat,i<8->Lz (vgetM (64+(i:Int)) s)
 p:(vgetM 3 s).length=0\/8<=(vgetM 3 s).length
theorem StOk.m{s:ai}(h:StOk s):(vgetM 1 s).length<=8:=by rw[h.k.1];decide
theorem StOk.b{s:ai}(h:StOk s):(vgetM 2 s).length<=4:=by rw[h.k.2];decide
structure p7(p:Int×List UInt8):Prop where
 len:p.2.length<1000
 m:p.1=1->p.2.length=8
 n:p.1≠2
 c:∀i:Nat,i<8->p.1=64+(i:Int)->Lz p.2
 p:p.1=3->p.2.length=0\/8<=p.2.length
theorem p8(P:List UInt8->Prop)(k:Int):∀(l:ai) (s:ai),P (vgetM k s)->(∀p,p∈l->p.1=k->P p.2)->P (B4 k s l):=by
 intro l s h a;unfold B4;have b:∀(l:ai) (w:List UInt8),P w->(∀p,p∈l->p.1=k->P p.2)->P (l.foldl (fun w p=>if p.1=k then p.2 else w) w):=by
  intro l
  induction l with
  |nil=>intro w h _;exact h
  |cons p l c =>
   intro w h a;rw[s7];refine c _ ?_ fun q d=>a q (nk _ d)
   split
   .rename_i e;exact a p (List.mem_cons_self ..) e
   .exact h
 exact b l _ h a
theorem vgN{s l:ai}(hs:Srt s)(j:Int)(d:∀p,p∈l->p.1≠j):vgetM j (b7 s l)=vgetM j s:=by
 rw[lE _ hs];exact p8 (fun b=>b=vgetM j s) j l s rfl fun p a e=>s5 e (d p a)
theorem StOk.with{s l:ai}(h:StOk s)(hs:Srt s)(d:∀p,p∈l->p7 p):StOk (b7 s l) :=
 ⟨⟨by rw[lE _ hs];exact p8 (fun b=>b.length=8) 1 l s h.k.1 fun p a=>(d p a).m,by rw[vgN hs 2 fun p a=>(d p a).n];exact h.k.2⟩,
  fun i e=>by rw[lE _ hs];exact p8 Lz _ l s (h.c i e) fun p a=>(d p a).c i e,
  by rw[lE _ hs];exact p8 (fun b=>b.length=0\/8<=b.length) 3 l s h.p fun p a=>(d p a).p⟩
structure DOn(f:aO)(d:aU)(G:Int):Prop where
 fac:d.fac=f
 on:d.on=true
 now:0<=d.now/\d.now<=1099511627776
 ids:d.nx.ids.length<1000/\∀b,b∈d.nx.ids->b.length=176
 len:d.v.j.bs.length<1000000000
 ok:VOk d.v G
 st:StOk d.v.prs
 bo:((gp (vgetM 2 d.v.prs)).toNat:Int)<=G
structure DOff(f:aO)(d:aU)(G:Int):Prop where
 now:0<=d.now/\d.now<=1099511627776
 is:d=kV f d.now (flOf d.v.j)
 len:d.v.j.bs.length<1000000000
 st:∃s,FOk (flOf d.v.j) s G/\StOk s/\((gp (vgetM 2 s)).toNat:Int)<=G
def DInv(f:aO)(d:aU)(G:Int):Prop:=DOn f d G\/DOff f d G
theorem DOn.mono{f:aO}{d:aU}{G H:Int}(h:DOn f d G)(hg:G<=H):DOn f d H:=⟨h.fac,h.on,h.now,h.ids,h.len,h.ok.mono hg,h.st,Int.le_trans h.bo hg⟩
theorem DOff.mono{f:aO}{d:aU}{G H:Int}(h:DOff f d G)(hg:G<=H):DOff f d H:=⟨h.now,h.is,h.len,by have⟨s,h1,h2,h3⟩:=h.st;exact⟨s,h1.monoK hg,h2,Int.le_trans h3 hg⟩⟩
theorem DInv.mono{f:aO}{d:aU}{G H:Int}(h:DInv f d G)(hg:G<=H):DInv f d H:=h.elim (fun h => .inl (h.mono hg)) fun h => .inr (h.mono hg)
theorem Io{f:aO}{d:aU}{G:Int}(h:DOn f d G)(w:G<1000000)(l:ai)(B:Int)(s:i64 B)(m:∀p,p∈l->p7 p)(k:l.length<300) :
 i64 (dF d l B).left/\(((dF d l B).e=0/\DOn f (dF d l B).d (G+1))\/((dF d l B).e=16/\DOff f (dF d l B).d (G+1))\/((dF d l B).e≠0/\(dF d l B).e≠16/\(dF d l B).d=d)):=by
 have vb:vgetM 2 (b7 d.v.prs l)=vgetM 2 d.v.prs:=vgN h.ok.so.srt 2 fun p a=>(m p a).n
 have hbo:=h.bo;have a:=m6 d.v l B s h.len (fun x o=>(m x o).len) k;have q:=rW d.v l B s h.len (fun x o=>(m x o).len) k;have t:dF d l B=if(rputM d.v l B).err≠0 then jz d (rputM d.v l B).v (rputM d.v l B).err else⟨{d with v:=(rputM d.v l B).v},(rputM d.v l B).left,0⟩:=by
  unfold dF;rw[b0 (by rw[h.on];decide)]
 rw[t];have r:=Fh h.ok ω l B;generalize rputM d.v l B=P at *;rcases r with⟨b,n,u,-,i⟩|⟨b,-,-,y,i⟩|⟨b,n,-,-⟩
 .rw[b0 (fun c=>c b)];refine⟨q,.inl ⟨rfl,h.fac,h.on,h.now,h.ids,Nat.lt_of_le_of_lt a.1 h.len,n,by show StOk P.v.prs;rw[u];exact h.st.with h.ok.so.srt m,by show((gp (vgetM 2 P.v.prs)).toNat:Int)<=G+1;rw[u,vb];omega⟩⟩
 .rw[b9 (by rw[b];decide)];unfold jz;rw[b9 b];refine⟨z64,.inr (.inl ⟨rfl,h.now,congrArg (fun g=>kV g d.now (flOf P.v.j)) h.fac,Nat.lt_of_le_of_lt a.1 h.len,?_⟩)⟩;rcases i with i|i
  .exact⟨_,i,h.st,ω⟩
  .exact⟨_,i,h.st.with h.ok.so.srt m,by rw[vb];omega⟩
 .rw[b9 b];unfold jz;rw[b0 n];exact⟨z64,.inr (.inr ⟨b,n,rfl⟩)⟩
theorem gpB(n:Nat)(h:n<4294967296):(gp (beB n)).toNat=n:=by
 show(aB (beB n) 4).toNat=n;rw[jv _ 3 ε,jv _ 2 ε,jv _ 1 ε,jv _ 0 ε];simp only[beB,List.getD_cons_zero,List.getD_cons_succ,nw,aB];show((((0*256+_)*256+_)*256+_)*256+_)=n;omega
theorem LA(s:ai)(h:StOk s)(hs:Srt s)(f:aO)(n:Nat):bootL f s n=[(2,beB n)]/\StOk (b7 s (bootL f s n))/\vgetM 2 (b7 s (bootL f s n))=beB n:=by
 have e:bootL f s n=[(2,beB n)]:=by unfold bootL;rw[b0 (by rw[h.k.1];decide)]
 have v:∀k:Int,k≠2->vgetM k (b7 s [(2,beB n)])=vgetM k s:=fun k c=>vgN hs k fun p a=>by rw[n4.1 a];exact Ne.symm c
 have w:vgetM 2 (b7 s [(2,beB n)])=beB n:=by rw[lE _ hs];rfl
 rw[e];exact⟨rfl,⟨by rw[v 1 ε,w];exact⟨h.k.1,rfl⟩,fun i c=>by rw[v _ ω];exact h.c i c,by rw[v 3 ε];exact h.p⟩,w⟩
theorem LC{f:aO}{d:aU}{G:Int}(h:DOff f d G)(S:G<1000000)(now B:Int)(w:i64 B):zR d B/\DInv f (mK d now B).d (G+2):=by
 have⟨s,L,hs,hbo⟩:=h.st;have q:(flOf d.v.j).bs.length<1000000000:=h.len;have D:d.on=false:=by rw[h.is];rfl
 have i:d.fac=f:=by rw[h.is];rfl
 have y:DInv f d (G+2) := .inr (h.mono ω);have M:=nR (flOf d.v.j) B w q;have E:=Qk L ω B;have F:=pi (flOf d.v.j) B w q;have a:∀(x:Fl) (z:ai),x.bs.length<1000000000->FOk x z (G+2)->StOk z->((gp (vgetM 2 z)).toNat:Int)<=G+2->DInv f (kV d.fac d.now x) (G+2):=fun x z h1 h2 N o => .inr ⟨h.now,by rw[i];rfl,h1,z,h2,N,o⟩
 unfold mK;rw[D];simp only[Bool.false_eq_true,if_false];generalize A:ropenM (flOf d.v.j) B=O at *;have H:∀n,(rputM O.v (bootL d.fac O.v.prs n) O.left).v.j.bs.length<1000000000:=fun n=>by
  have:=m6 O.v (bootL d.fac O.v.prs n) O.left F ω (mL _ _ _).2 (mL _ _ _).1;omega
 rcases E with⟨o,I,r,T⟩|⟨o,-,r,-⟩
 .have k:=fun n=>Fh I ω (bootL d.fac O.v.prs n) O.left
  have lA:=LA O.v.prs (by rw[r];exact hs) I.so.srt d.fac;have l:=fun n=>(lA n).2.1
  refine⟨⟨w,h.len,fun _=>?_,fun n _ g=>?_⟩,?_⟩
  .rw[A];exact⟨I.vlen,by rw[r];exact hs.b⟩
  .rw[A] at g⊢;rcases k n with⟨e,t,C,-,-⟩|⟨e,-⟩|⟨e,-⟩
   .rw[C];exact⟨C ▸ t.vlen,(l n).b,(l n).m⟩
   .exact s5 (g.symm.trans e) ε
   .exact s5 g e
  .split
   .exact y
   rw[b0 (fun c=>c o)];split
   .exact y
   rename_i nn;have hn:(gp (vgetM 2 O.v.prs)).toNat+1<4294967296:=by rw[r];omega
   have hb:(((gp (vgetM 2 O.v.prs)).toNat+1:Nat):Int)<=G+2:=by rw[r];omega
   generalize(gp (vgetM 2 O.v.prs)).toNat+1=n at *;have Q:=k n;have K:=H n;have u:=l n;have hv:((gp (vgetM 2 (b7 O.v.prs (bootL d.fac O.v.prs n)))).toNat:Int)<=G+2:=by rw[(lA n).2.2,gpB n hn];exact hb
   generalize rputM O.v (bootL d.fac O.v.prs n) O.left=P at *;rcases Q with⟨e,t,C,-,-⟩|⟨e,-,-,-,p⟩|⟨e,t,-,-⟩
   .rw[b0 (fun c=>c e)];refine .inl ⟨i,rfl,?_,⟨by show it0.ids.length<_;decide,fun b R=>(by cases R)⟩,K,?_,?_,by show((gp (vgetM 2 P.v.prs)).toNat:Int)<=G+2;rw[C];exact hv⟩
    .show 0<=(if d.now<now then now else d.now)/\(if d.now<now then now else d.now)<=1099511627776;have:=h.now;split<;>omega
    .have:G+1+1=G+2:=ω;rw[<-this];exact t
    .show StOk P.v.prs;rw[C];exact u
   .rw[b9 (by rw[e];decide)];unfold jz;rw[b9 e];have h2:G+1+1=G+2:=ω;rw[h2] at p;rcases p with p|p
    .exact a _ _ K p (by rw[r];exact hs) (by rw[r];omega)
    .exact a _ _ K p u hv
   .rw[b9 e];unfold jz;rw[b0 t];exact y
 .refine⟨⟨w,h.len,fun g=>?_,fun n g=>?_⟩,?_⟩
  .rw[A] at g;exact s5 (g.symm.trans o) ε
  .rw[A] at g;exact s5 (g.symm.trans o) ε
  .split
   .exact y
   rw[b9 (by rw[o];decide)];unfold jz;rw[b9 o];exact a _ _ (by show O.v.j.bs.length<_;omega) (r.monoK ω) hs ω
theorem Pu{f:aO}{d:aU}{G:Int}(h:DInv f d G):DOff f (kV d.fac d.now (flOf d.v.j)) G:=by
 rcases h with h|h
 .exact⟨h.now,by rw[h.fac];rfl,h.len,d.v.prs,h.ok.fokK,h.st,h.bo⟩
 .rw[show kV d.fac d.now (flOf d.v.j)=d from by rw[show d.fac=f by rw[h.is];rfl];exact h.is.symm];exact h
theorem Gx:∀k:_root_.Fin 6,∀lo:_root_.Fin 28,((y' (32*k.val)+y' lo.val).toNat<244/\ishr .u8 (((y' (32*k.val)+y' lo.val).toNat:Nat):Int) 5=(k.val:Int) /\
 band .u8 (((y' (32*k.val)+y' lo.val).toNat:Nat):Int) 31=(lo.val:Int)):=by decide +kernel
theorem LD(n:UInt64):∃lo:_root_.Fin 28,loN n=y' lo.val/\(lo.val:Int)=(loN n).toNat/\(n.toNat<24->lo.val=n.toNat):=by
 by_cases h:n.toNat<24
 .refine⟨⟨n.toNat,ω⟩,?_,?_,fun _=>rfl⟩
  .rw[(pX n h).1];apply UInt8.toNat_inj.1;rw[nw,C']
  .rw[(pX n h).1,C',ie ω]
 .by_cases h1:n.toNat<256
  .exact⟨24,(mM n h h1).1,by rw[(mM n h h1).1];rfl,fun c=>s5 c h⟩
  by_cases h2:n.toNat<65536
  .exact⟨25,(og n h1 h2).1,by rw[(og n h1 h2).1];rfl,fun c=>s5 c h⟩
  by_cases a:n.toNat<4294967296
  .exact⟨26,(oh n h2 a).1,by rw[(oh n h2 a).1];rfl,fun c=>s5 c h⟩
  .exact⟨27,(oi n a).1,by rw[(oi n a).1];rfl,fun c=>s5 c h⟩
theorem LE(n:UInt64)(h:¬n.toNat<24):iF .i64 1 (c'.wrap (((loN n).toNat:Int)-24))=(szN n:Int)/\1<=szN n:=by
 by_cases h1:n.toNat<256
 .rw[(mM n h h1).1,(mM n h h1).2];decide
 by_cases h2:n.toNat<65536
 .rw[(og n h1 h2).1,(og n h1 h2).2];decide
 by_cases a:n.toNat<4294967296
 .rw[(oh n h2 a).1,(oh n h2 a).2];decide
 .rw[(oi n a).1,(oi n a).2];decide
theorem Pv(n:UInt64):FPure prog 341 [.w n] (.i (szN n)):=by
 apply ba f341 [0,2,3,6,9,12];intro c J b Y Z;by_cases h:n.toNat<24
 .simp only[go_sem,J,(ω:((n.toNat:Int)<24))];rw[(pX n h).2];rfl
 by_cases h1:n.toNat<256
 .simp only[go_sem,J,(ω:¬((n.toNat:Int)<24)),(ω:((n.toNat:Int)<256))];rw[(mM n h h1).2];rfl
 by_cases h2:n.toNat<65536
 .simp only[go_sem,J,(ω:¬((n.toNat:Int)<24)),(ω:¬((n.toNat:Int)<256)),(ω:((n.toNat:Int)<65536))];rw[(og n h1 h2).2];rfl
 by_cases a:n.toNat<4294967296
 .simp only[go_sem,J,(ω:¬((n.toNat:Int)<24)),(ω:¬((n.toNat:Int)<256)),(ω:¬((n.toNat:Int)<65536)),(ω:((n.toNat:Int)<4294967296))];rw[(oh n h2 a).2];rfl
 simp only[go_sem,J,(ω:¬((n.toNat:Int)<24)),(ω:¬((n.toNat:Int)<256)),(ω:¬((n.toNat:Int)<65536)),(ω:¬((n.toNat:Int)<4294967296))];rw[(oi n a).2];rfl
theorem jc{B:List UInt8}{p:Nat}{x:UInt8}{r:List UInt8}(h:B.drop p=x::r):B.getD p 0=x/\p<B.length/\B.drop (p+1)=r/\B.length=p+1+r.length:=by
 have h1:p<B.length:=by
  rcases ea p B.length with h1|h1
  .exact h1
  .rw[l2 h1] at h;cases h
 have h2:B[p]?=some x:=by
  have:=congrArg (·[0]?) h;simpa using this
 refine⟨by simp[cR,h2],h1,by rw[<-List.drop_drop,h];rfl,?_⟩;have:=congrArg u' h;simp at this;omega
abbrev rdF(cnt:Int)(B:List UInt8)(L:Nat)(at':Int)(left:Int)(la:PV):List (Nat×Option Blk):=[(0,some ⟨rdT,[.sl 1 0 1 3,.i cnt,.p (.data 1 L (B.map bt)),.i at']⟩),(1,some ⟨frT,[.b true,.i left,.p la]⟩)]
theorem EJ(k:_root_.Fin 6)(n:UInt64)(B b:List UInt8)(L p:Nat)(V:B.length=L)(W:L<1000000)(u:B.drop p=hdB (y' (32*k.val)) n++b)(e left:Int)(v:PV) :
 Con prog 296 [.ptr 0 0] (rdF e B L p left v) (.tup [.i (1+(k.val:Int)),.w n,.i 0]) (rdF e B L ((p+(1+szN n):Nat):Int) left v):=by
 apply bn 2 f296 ajn;intro c J X Y Z;have⟨f,e1,A,e3⟩:=LD n;have⟨f1,C,E⟩:=Gx k f;unfold hdB at u;rw[e1] at u;have⟨G,g2,g3,g4⟩:=jc u;have g3:B.drop (p+1)=bgB n (szN n) (szN n)++b:=g3;have g4:B.length=p+1+(bgB n (szN n) (szN n)++b).length:=g4;generalize y' (32*k.val)+y' f.val=F at *;have w1:=ac p
 have H:a'.wrap (k.val:Int)=(k.val:Int):=ab ω ω;have I:a'.wrap (1+(k.val:Int))=1+(k.val:Int):=ab ω ω;have K:d'.wrap (f.val:Int)=(f.val:Int):=ao ω ω;have kl:(B.map bt).length=L:=by simpa using V
 have M:¬((p:Int)>=(L:Int)):=ω;have g:¬((F.toNat:Int)=244):=ω;have j:¬((F.toNat:Int)=245):=ω;have l:¬((F.toNat:Int)=246):=ω;have N:¬((k.val:Int)>5):=ω;have o:¬((f.val:Int)>27):=ω;by_cases d:n.toNat<24
 .have O:=e3 d;have e6:=(pX n d).2;simp only[go_sem,J,G,w1,H,I,K,C,E,M,g,j,l,N,o,(ω:((n.toNat:Int)<24)),(ω:¬((27:Int)<n.toNat)),O,e6];refine⟨π,⟨ω,ω⟩,ω,π,?_⟩;refine aq [0,1] rfl ?_ ?_ rfl rfl (fun i a=>by simp at a;rcases a with rfl|rfl<;>exact⟨rfl,ξ⟩) (fun i a=>by simp[liveK] at a;simp;omega)
  .simp only[go_sem,O,ao (n:=(n.toNat:Int)) ω ω]
  .exact κ
 have⟨P,z2⟩:=LE n d;rw[<-A] at P;have x:=ia n;have y:=QX n (szN n) x (Gn n ω);have q:(B.drop (p+1)).take (szN n)=bgB n (szN n) (szN n):=by rw[g3,List.take_left' (lF _ _ _)]
 have r:¬((f.val:Int)<24):=by
  intro hc;have:(f.val:Int)=(loN n).toNat:=A
  rcases(show(loN n).toNat>=24\/n.toNat<24 from by
   by_cases Q:n.toNat<256
   .rw[(mM n d Q).1];exact .inl ε
   by_cases R:n.toNat<65536
   .rw[(og n Q R).1];exact .inl ε
   by_cases T:n.toNat<4294967296
   .rw[(oh n R T).1];exact .inl ε
   .rw[(oi n T).1];exact .inl ε) with h|h
  .omega
  .exact d h
 rw[c9,lF] at g4;have hsh:=Pv n;generalize hS:szN n=S at *;have w5:a'.wrap ((L:Int)-((p+1:Nat):Int))=((L-(p+1):Nat):Int):=by rw[ab ω ω];omega
 have U:a'.wrap (((p+1:Nat):Int)+(S:Int))=((p+1+S:Nat):Int):=by rw[ab ω ω];omega
 have e7:p+1+S-(p+1)=S:=ω;have nS:¬(((L-(p+1):Nat):Int)<(S:Int)):=ω;simp only[go_sem,J,G,w1,H,I,K,w5,U,P,C,E,M,g,j,l,N,o,r,nS,e7,q];refine⟨π,⟨ω,ω⟩,ω,π,π,⟨ω,ω,ω⟩,π,?_⟩;generalize hD:bgB n S S=D at *;have hDl:D.length=S:=by rw[<-hD,lF]
 refine bK Y [0,1] (fun i a=>by have:=X i a;simpa[liveK] using this) ajn S (fun i=>⟨120,[(0,.ptr 0 0),(2,.i (1+(k.val:Int))),(3,.w (aB D i)),(8,.i S),(94,.p (.data 1 S (D.map bt))),(95,.i S),(96,.i i)],rdF e B L ((p+1:Nat):Int) left v,2⟩) [] (fun i=>i) ⟨rfl,?_,?_,rfl,rfl,trivial,fun i h=>h⟩ (fun i _=>rfl) ?_
 .simp only[go_sem,aB]
 .exact κ
 intro i a;rcases ea i S with s|s
 .have hw:=ac i
  have z:aB D (i+1)=eJ (aB D i) 8 ||| (D.getD i 0).toUInt64:=rfl
  generalize aB D i=m at *;generalize aB D (i+1)=m' at *;subst z;simp only[go_sem,J,hw,dS,kZ m 8 ε,g6,fK,pA,j9,(ω:((i:Int)<(S:Int)))];refine⟨ω,ω,s,kY [0,1] [0,1] rfl ?_ ?_ rfl rfl (cV rfl) (fun i a=>by simp at a;rcases a with rfl|rfl<;>rfl)⟩
  .exact κ
  .exact κ
 obtain rfl:i=S:=by omega
 rw[y];have t:¬((i:Int)<(i:Int)):=ω;simp only[go_sem,J,U,t];apply aa Z hsh;simp only[go_sem,J,t];refine aq [0,1] rfl ?_ ?_ rfl rfl (fun i a=>by simp at a;rcases a with rfl|rfl<;>exact⟨rfl,ξ⟩) (fun i a=>by simp[liveK] at a;simp;omega)
 .exact κ
 .exact aiM
theorem Ui(v:Bool)(B d:List UInt8)(L p:Nat)(l:B.length=L)(j:L<1000000)(k:B.drop p=(if v then 245 else 244)::d)(e left:Int)(g:PV) :
 Con prog 296 [.ptr 0 0] (rdF e B L p left g) (.tup [.i 7,.w (bN v),.i 0]) (rdF e B L ((p+1:Nat):Int) left g):=by
 apply bn 2 f296 ajn;intro c J m Y Z;have⟨b,n,g3,g4⟩:=jc k;have w1:=ac p
 have h:¬((p:Int)>=(L:Int)):=ω;cases v with
 |false =>
  have b:B.getD p 0=244:=b;have f:(((244:UInt8).toNat:Nat):Int)=244:=rfl;simp only[go_sem,J,b,w1,h,f,show d'.wrap (c'.wrap (244-244))=0 from ε];refine⟨π,⟨ω,ω⟩,ω,π,aq [0,1] rfl ?_ ?_ rfl rfl (fun i a=>by simp at a;rcases a with rfl|rfl<;>exact⟨rfl,ξ⟩) (fun i a=>by simp[liveK] at a;simp;omega)⟩
  .simp only[go_sem,show(((bN false).toNat:Nat):Int)=0 from rfl]
  .exact κ
 |true =>
  have b:B.getD p 0=245:=b;have f:(((245:UInt8).toNat:Nat):Int)=245:=rfl;simp only[go_sem,J,b,w1,h,f,show d'.wrap (c'.wrap (245-244))=1 from ε];refine⟨π,⟨ω,ω⟩,ω,π,aq [0,1] rfl ?_ ?_ rfl rfl (fun i a=>by simp at a;rcases a with rfl|rfl<;>exact⟨rfl,ξ⟩) (fun i a=>by simp[liveK] at a;simp;omega)⟩
  .simp only[go_sem,show(((bN true).toNat:Nat):Int)=1 from rfl]
  .exact κ
abbrev rdE(cnt:Int)(B:List UInt8)(L:Nat)(at':Int)(n':Nat)(left:Int)(la:PV):List (Nat×Option Blk):=[(0,some ⟨rdT,[.sl 1 0 n' 3,.i cnt,.p (.data 1 L (B.map bt)),.i at']⟩),(1,some ⟨frT,[.b true,.i left,.p la]⟩)]
abbrev ae5(x:Itm)(B:List UInt8)(L:Nat)(at' cnt left:Int)(la:PV)(cnt' left':Int)(la':PV)(n':Nat):Prop :=
 Con prog 298 [.ptr 0 0,.agg (eP x)] (rdF cnt B L at' left la) (.i 0) (rdE cnt' B L at' n' left' la')
theorem Ah(x:Itm)(w:okI x)(B e:List UInt8)(L p:Nat)(hL:B.length=L)(j:L<1000000)(o:B.drop p=cn x++e)(a left:Int)(h:PV)(k g:Int)(l:PV)(y:Nat)
 (q:0<a/\a<512) (r:0<=left) (f:left % 2=0->x.kd=1) (hacc:ae5 x B L ((p+(cn x).length:Nat):Int) a left h k g l y) :
 Con prog 214 [.ptr 0 0] (rdF a B L p left h) (.tup [.agg (eP x),.i 0]) (rdE k B L ((p+(cn x).length:Nat):Int) y g l):=by
 apply bn 2 f214 ajp;intro c J A Y Z;cases x
 case m n=>exact w.elim
 case u n =>
  have hh:=EJ 0 n B e L p hL j (by simpa[cn] using o) a left h;rw[show(1+(((0:_root_.Fin 6).val:Nat):Int))=1 from rfl] at hh;have ha:=pZ rdT 1 left a h [.data 1 L (B.map bt),.v (.int .i64 ((p+(1+szN n):Nat):Int))] ε r f q.2;rw[show(cn (.u n)).length=1+szN n from ci 0 n] at hacc Y Z;refine alt ?_;refine θ ?_;refine x_k Z 4 hacc ?_;exact afA
 case b v =>
  have hh:=Ui v B e L p hL j (by simpa[cn] using o) a left h;have ha:=pZ rdT 7 left a h [.data 1 L (B.map bt),.v (.int .i64 ((p+1:Nat):Int))] ε r f q.2;rw[show(cn (.b v)).length=1 from rfl] at hacc Y Z;refine alt ?_;refine θ ?_;refine x_k Z 4 hacc ?_;exact afA
 case d s =>
  have hs:s.length<=1024:=w;have hn:((A' s.length).toNat:Int)=s.length:=by rw[gr,ie ω]
  have hB':B.drop p=hdB 64 (A' s.length)++(s++e):=by rw[o];simp[cn]
  have hh:=EJ 2 (A' s.length) B (s++e) L p hL j hB' a left h;rw[show(1+(((2:_root_.Fin 6).val:Nat):Int))=3 from rfl] at hh;generalize hz:1+szN (A' s.length)=z at *;have ha:=pZ rdT 3 left a h [.data 1 L (B.map bt),.v (.int .i64 ((p+z:Nat):Int))] ε r f q.2;have hlen:(cn (.d s)).length=z+s.length:=by rw[cn,c9,ci,hz]
  have hcut:(B.drop (p+z)).take s.length=s:=by
   exact air
  exact afw
 case t s =>
  have hs:s.length<=1024:=w.1;have hn:((A' s.length).toNat:Int)=s.length:=by rw[gr,ie ω]
  have hB':B.drop p=hdB 96 (A' s.length)++(s++e):=by rw[o];simp[cn]
  have hh:=EJ 3 (A' s.length) B (s++e) L p hL j hB' a left h;rw[show(1+(((3:_root_.Fin 6).val:Nat):Int))=4 from rfl] at hh;generalize hz:1+szN (A' s.length)=z at *;have ha:=pZ rdT 4 left a h [.data 1 L (B.map bt),.v (.int .i64 ((p+z:Nat):Int))] ε r f q.2;have hlen:(cn (.t s)).length=z+s.length:=by rw[cn,c9,ci,hz]
  have hcut:(B.drop (p+z)).take s.length=s:=by
   exact aiq
  exact afw
theorem Uj(B a:List UInt8)(L:Nat)(k:B.length=L)(e:L<1000000)(f:B=169::a) :
 Con prog 296 [.ptr 0 0] [(0,some ⟨rdT,[eK,.i 0,.p (.data 1 L (B.map bt)),.i 0]⟩)] (.tup [.i 6,.w 9,.i 0]) [(0,some ⟨rdT,[eK,.i 0,.p (.data 1 L (B.map bt)),.i 1]⟩)]:=by
 apply bn 1 f296 ajn;intro c J l Y Z;obtain⟨g,m,g3,g4⟩:=jc (B:=B) (p:=0) (by simpa using f);have h:(((169:UInt8).toNat:Nat):Int)=169:=rfl;have j:(0:Int)<L:=ω;have d:gE (.v (.int .u8 0)) (B.map bt) = .v (.int .u8 169):=by
  have:=AN B 0;rw[List.drop_zero,g] at this;exact this
 simp only[go_sem,J,d,h,(ω:¬((L:Int)<=0)),show a'.wrap (0+1)=1 from ε,show ishr .u8 169 5=5 from ε,show band .u8 169 31=9 from ε,show a'.wrap 5=5 from ε,show a'.wrap (1+5)=6 from ε,show d'.wrap 9=9 from ε];refine⟨π,j,ω,π,aq [0] rfl ?_ ?_ rfl rfl (fun i b=>by simp at b;subst b;exact⟨rfl,ξ⟩) (fun i b=>by simp[liveK] at b;simp;omega)⟩
 .simp only[go_sem,show(((9:UInt64).toNat:Nat):Int)=9 from rfl]
 .simp only[go_sem]
theorem Pw(B a:List UInt8)(L:Nat)(d:B.length=L)(b:L<1000000)(e:B=169::a) :
 Con prog 214 [.ptr 0 0] [(0,some ⟨rdT,[eK,.i 0,.p (.data 1 L (B.map bt)),.i 0]⟩)] (.tup [.agg (eP (.m 9)),.i 0]) (rdE 1 B L 1 1 18 (.v (.slice none 0 0))):=by
 apply bn 1 f214 ajp;intro c J j Y Z;have f:=Uj B a L d b e;have ha:=z8 rdT 6 0 [.data 1 L (B.map bt),.v (.int .i64 1)] ε ε;have g:=Cd rdT [.data 1 L (B.map bt),.v (.int .i64 1)];have h:((B' 9:Nat):Int)=9:=ε;refine θ ?_;refine x_k Z 2 f ?_;refine θ ?_;refine x_k Z 2 ha ?_;simp only[go_sem,J,h];apply sm Y (ks:=ajp) (n:=2000) [] (sg 3 [0]) _ (by rw[J];exact g) ⟨κ,κ,rfl,trivial,oy _ 2,fun i hi=>by simp[keys] at hi;rcases hi with rfl|rfl<;>simp[liveK,sg],by simp[ax,ak,keys],by simp[bV,ak,ax,keys],rfl⟩ rfl;refine θ ?_;refine⟨π,aq [0,4] rfl ?_ ?_ rfl rfl (fun i hi=>by simp at hi;subst hi;exact⟨rfl,ξ⟩) (fun i hi=>by simp[liveK] at hi;simp;omega)⟩
 .exact κ
 .exact κ
theorem iK(l:List Itm)(i:Nat)(h:i<l.length):(cO l).drop (cO (l.take i)).length=cn (l.getD i (.b false))++cO (l.drop (i+1)):=by
 have e:cO l=cO (l.take i)++(cn (l.getD i (.b false))++cO (l.drop (i+1))):=by
  rw[<-k',<-gq l i h];unfold cO;rw[<-o',List.take_append_drop]
 rw[e,List.drop_left]
def gW(l:List Itm)(i:Nat):Nat:=(cO (l.take i)).length
def hpR(l:List Itm)(B:List UInt8)(L i:Nat):List (Nat×Option Blk) :=
 if i=0 then[(0,some ⟨rdT,[eK,.i 0,.p (.data 1 L (B.map bt)),.i 0]⟩)] else rdE i B L (gW l i) (if i=19 then 0 else 1) (19-(i:Int)) (laI i)
theorem Px{l:List Itm}(hl:G19 l){B:List UInt8}{L:Nat}(hB:B=cO l)(hL:B.length=L){i:Nat}(h1:1<=i)(d:i<19) :
 Con prog 214 [.ptr 0 0] (rdF i B L (gW l i) (19-(i:Int)) (laI i)) (.tup [.agg (eP (l.getD i (.b false))),.i 0]) (rdE ((i+1:Nat):Int) B L (gW l (i+1)) (if i+1=19 then 0 else 1) (19-((i+1:Nat):Int)) (laI (i+1))):=by
 have c:L<1000000:=by
  exact ag8
 have a:=iK l i (by rw[hl.len];exact d);rw[<-hB] at a;have f:gW l (i+1)=gW l i+(cn (l.getD i (.b false))).length:=by unfold gW;rw[gq l i (by rw[hl.len];exact d),c9]
 rw[f];obtain⟨j,hj⟩:∃j,i=2*j-1/\1<=j/\j<=9\/i=2*j/\1<=j/\j<9\/i=18:=⟨(i+1)/2,ω⟩
 rcases hj with⟨rfl,h2,e⟩|⟨rfl,h2,e⟩|rfl
 .have g:laI (2*j-1)=laP j:=by
   exact ah9
  have k:laI (2*j-1+1)=laK j:=by unfold laI;rw[b0 ω,(ω:(2*j-1+1)/2=j)]
  rw[b0 ω,g,k];rw[hl.hk j h2 e] at a⊢;rw[(ω:(((2*j-1:Nat):Int))=2*j-1),(ω:(((2*j-1+1:Nat):Int))=2*j),(ω:(19-(2*(j:Int)-1))=20-2*j)];exact Ah (.u (A' j)) trivial B _ L _ hL c a _ _ _ _ _ _ _ ω ω (fun _=>rfl) (Ce rdT [.data 1 L (B.map bt),.v (.int .i64 _)] j h2 e)
 .have g:laI (2*j)=laK j:=by unfold laI;rw[b0 ω,(ω:2*j/2=j)]
  have k:laI (2*j+1)=laK j:=by unfold laI;rw[b0 ω,(ω:(2*j+1)/2=j)]
  rw[b0 ω,g,k,(ω:(((2*j:Nat):Int))=2*j),(ω:(((2*j+1:Nat):Int))=2*j+1),(ω:(19-(2*(j:Int)+1))=18-2*j)];exact Ah _ (hl.hv j h2 ω) B _ L _ hL c a _ _ _ _ _ _ _ ω ω (fun h=>ω) (Cf rdT [.data 1 L (B.map bt),.v (.int .i64 _)] _ (hl.hv j h2 ω) j h2 e)
 .exact Ah _ (hl.hv 9 ε ε) B _ L _ hL c a _ _ _ _ _ _ _ ε ε (fun h=>s5 h ε) (Cg rdT [.data 1 L (B.map bt),.v (.int .i64 _)] _ (hl.hv 9 ε ε))
theorem LF{l:List Itm}{B:List UInt8}{L i:Nat}(h:i≠0):hpR l B L i=rdE i B L (gW l i) (if i=19 then 0 else 1) (19-(i:Int)) (laI i):=by unfold hpR;rw[b0 h]
abbrev dp:Nat:=154
theorem jd(T:List Itm)(x:Itm):cZ T++[.p (.v (.int .i64 x.kd)),.p (wd x.nu),.p (.v (.string ⟨x.da.toArray⟩))]=cZ (T++[x]):=by rw[<-vm];rfl
theorem p9(l:List Itm)(i:Nat)(h:i<l.length):l.take (i+1)=l.take i++[l.getD i (.b false)]:=by
 rw[f',show l[i]?=some (l.getD i (.b false)) from by simp[cR,h]];rfl
theorem EK(l:List Itm)(hl:G19 l)(B:List UInt8)(L:Nat)(hB:B=cO l)(hL:B.length=L):FPure prog 141 [.p (.data 1 L (B.map bt))] (.tup [.p (.data 3 19 (bB l)),.i L,.i 0]):=by
 apply ba f141 [0,2,3,4,5,6,7,12,18];intro c J k Y Z;have f:L<1000000:=by
  exact ag8
 have hp0:gW l 0=0:=rfl;refine θ ?_;apply aX dp;refine ay Y k [0,2,3,4,5,6,7,12,18] 19 (fun i=>⟨27,[(2,.sl 2 0 i 3),(5,.ptr 0 0)],hpR l B L i++[(2,some ⟨dp,cZ (l.take i)⟩)],3⟩) [] (sg 2 [0,2,1]) ?_ ?_
 .refine⟨rfl,?_,?_,?_,?_,trivial,fun i h=>aw [0,2,1] 2 i h⟩
  .exact κ
  .simp only[go_sem,hpR,r'];exact af1
  .rfl
  .rfl
 intro i hi;rcases ea i 19 with a|a
 .have d:=p9 l i (by rw[hl.len];exact a);have o:(l.take i).length=i:=by rw[hV,hl.len];omega
  rcases w' i with rfl|q
  .have e:Con prog 213 [.ptr 0 0] _ (.b false) _:=z6 rdT 0 [.data 1 L (B.map bt),.v (.int .i64 0)]
   have r:=Pw B (cO (l.drop 1)) L hL f (by
    have:=iK l 0 (by rw[hl.len];decide)
    rw[hl.h0] at this
    rw[hB]
    simpa[cO,cn,hdB,loN,szN,bgB] using this)
   rw[show hpR l B L 0=[(0,some ⟨rdT,[eK,.i 0,.p (.data 1 L (B.map bt)),.i 0]⟩)] from rfl];refine θ ?_;refine x_k Z 3 e ?_;refine θ ?_;apply co Y (ks:=[0,2,3,4,5,6,7,12,18]) (n:=2000) [] (sg 3 [0]) _ (by rw[J];exact r) ⟨κ,κ,rfl,trivial,oy _ 2,fun i hi=>by simp[keys] at hi;rcases hi with rfl|rfl<;>simp[liveK,sg],by simp[ax,ak,keys],by simp[bV,ak,ax,keys],rfl⟩;rw[hl.h0] at d;have g:gW l (0+1)=1:=by unfold gW;rw[d];rfl
   have s:cZ []++[.p (.v (.int .i64 6)),.p (wd 9),.p (.v (.string ⟨#[]⟩))]=cZ [.m 9]:=rfl;rw[LF (i:=0+1) ε,d,g];simp only[go_sem,J,s];refine⟨ε,aA [0,4,7] rfl ?_ ?_ rfl rfl (cV rfl)⟩
   .exact κ
   .simp only[go_sem,r',laI];exact⟨rfl,rfl⟩
  .have t:=Px hl hB hL q a;have e:=z7 rdT 1 i [.data 1 L (B.map bt),.v (.int .i64 (gW l i))] [.v (.bool true),.v (.int .i64 (19-(i:Int))),laI i] ω;rw[LF (i:=i) ω,b0 ω];rw[LF (i:=i+1) ω,d];generalize l.getD i (.b false)=x at *;generalize l.take i=T at *;generalize(if i+1=19 then 0 else 1)=n' at *;refine θ ?_;refine x_k Z 3 e ?_;refine θ ?_;refine x_k Z 3 t ?_;simp only[go_sem,J,jd];refine⟨⟨ω,ω,ω⟩,a,aA [0,1,5] rfl ?_ ?_ rfl rfl (cV rfl)⟩
   .exact κ
   .exact κ
 .obtain rfl:i=19:=by omega
  have e:=z7 rdT 0 19 [.data 1 L (B.map bt),.v (.int .i64 L)] [.v (.bool true),.v (.int .i64 0),laK 9] ε;have j:gW l 19=L:=by unfold gW;rw[cD (by rw[hl.len];decide),<-hB,hL]
  rw[show hpR l B L 19=rdE 19 B L L 0 0 (laK 9) from by unfold hpR;rw[j];rfl];rw[show l.take 19=l from cD (by rw[hl.len];decide)];refine θ ?_;refine x_k Z 3 e ?_;exact ahA

/- own work: steps of the proof -/
import Derived.Test.YtgnmplopdkgccaaGreatDoorRD
import Derived.Test.YtgnmplopdkgccaaGreatDoorRE
set_option linter.all false
set_option maxRecDepth 100000
set_option maxHeartbeats 8000000
open Int renaming tmod_eq_emod_of_nonneg→a',emod_lt_of_pos→b',emod_nonneg→c'
open Go.IntKind renaming i64→d',u64→e'
open List renaming replicate→f',map→g',length_set→h',length_replicate→i',drop→j',map_append→k',map_replicate→l',set_set→m'
namespace Go.Abs
open RowKit Proofs Proofs.Tryz
structure Plp where
 d:Dvp
 ids:SlP
structure Acp where
 pw:Bool
 now:Int
 r:Rqp
 gs:SlP
 bu:Int
def py0:Plp:=⟨dv0,SlP.nil⟩
def ac0:Acp:=⟨false,0,rq0,SlP.nil,0⟩
def pyC(x:Plp):List AV:=[.w x.d.fac.mo,.w x.d.fac.se,.i x.d.fac.ps,.b x.d.fac.fi,.w x.d.fac.ase,.i x.d.fac.ah,.i x.d.fac.af,.i x.d.fac.ato,.p x.d.fac.ce.pv,.i x.d.v.ps,.p x.d.v.bs.pv,.i x.d.v.pg,.i x.d.v.gn,.i x.d.v.tl,.b x.d.v.tn,.p x.d.v.pr.pv,.b x.d.on,.i x.d.now,.i x.d.boo,.i x.d.dr,.i x.d.wr,.w x.d.tok.sec,.b x.d.tok.act,.w x.d.tok.val,.i x.d.tok.per,sv x.d.tok.rp,.i x.d.tok.sin,.b x.d.nx.act,.i x.d.nx.sin,.w x.d.nx.hsh,.i x.d.nx.flg,.p x.d.nx.ids.pv,.p x.ids.pv]
theorem RB(x:Plp):(pyC x).length=33:=rfl
theorem Oq(x:Plp):(pyC x).take 33=pyC x:=rfl
theorem RC(x:Plp):dI (pyC x)=true:=by simp only[pyC,dI,SlP.oneC,rX,rY,rZ,r4,Bool.and_self]
theorem RT(d:PV)(x:Plp):ag d ((pyC x).drop 16) = .b x.d.on:=rfl
theorem RW(d:PV)(x:Plp):ag d ((pyC x).drop 17) = .i x.d.now:=rfl
theorem Sv(d:PV)(x:Plp):ag d ((pyC x).drop 32) = .p x.ids.pv:=rfl
theorem Sw(x:Plp)(k n:Nat)(cs:List PV):(pyC x).set 32 (.p (.data k n cs))=pyC {x with ids := .d k n cs}:=rfl
theorem Kh(x:Plp):(pyC x).take 32=dvC x.d:=rfl
theorem Ki(x:Plp)(y:Dvp):bY (pyC x) 0 (dvC y)=pyC {x with d:=y}:=nC (dvC y) (dvC x.d) [] [.p x.ids.pv] rfl
theorem Ot(x:Plp):(pyC x).take 9=[.w x.d.fac.mo,.w x.d.fac.se,.i x.d.fac.ps,.b x.d.fac.fi,.w x.d.fac.ase,.i x.d.fac.ah,.i x.d.fac.af,.i x.d.fac.ato,.p x.d.fac.ce.pv]:=rfl
theorem Ou(x:Plp):((pyC x).drop 9).take 7=[.i x.d.v.ps,.p x.d.v.bs.pv,.i x.d.v.pg,.i x.d.v.gn,.i x.d.v.tl,.b x.d.v.tn,.p x.d.v.pr.pv]:=rfl
theorem Kj(x:Plp):((pyC x).drop 21).take 6=[.w x.d.tok.sec,.b x.d.tok.act,.w x.d.tok.val,.i x.d.tok.per,sv x.d.tok.rp,.i x.d.tok.sin]:=rfl
theorem Kk(x:Plp):((pyC x).drop 27).take 5=[.b x.d.nx.act,.i x.d.nx.sin,.w x.d.nx.hsh,.i x.d.nx.flg,.p x.d.nx.ids.pv]:=rfl
theorem q7(x:Plp):∃cs:List PV,pyC x=cs.map .p:=⟨(pyC x).map unP,rfl⟩
theorem D3(x:Plp):iY (pyC x):=by
 obtain⟨cs,a⟩:=q7 x;rw[a];intro c hc;exact agN
@[simp] theorem aeV(T:List Nat)(x:Plp):ak T (pyC x):=by obtain⟨cs,a⟩:=q7 x;rw[a];exact aM T cs
theorem aar(i:Nat)(b:Blk)(x:Plp):fJ i b (pyC x)=pyC x:=ej i b _ (D3 x)
theorem Kl(i:Nat)(b:Blk)(x:Plp):eU i b (pyC x):=dx i b _ (D3 x)
theorem aas(h:List (Nat×Option Blk))(x:Plp):ik h (pyC x):=by obtain⟨cs,a⟩:=q7 x;rw[a];exact fc h cs
theorem aat(h:List (Nat×Option Blk))(x:Plp):fzL h (pyC x)=pyC x:=by obtain⟨cs,a⟩:=q7 x;rw[a];exact fX h cs
theorem sD(h:bv)(S:List Nat)(σ:Nat->Nat)(x:Plp):aj h S σ (pyC x) (pyC x):=by obtain⟨cs,a⟩:=q7 x;rw[a];exact aL h S σ cs
theorem aau(τ:Nat->Nat)(x:Plp):eu τ (pyC x)=pyC x:=by obtain⟨cs,a⟩:=q7 x;rw[a];exact cT τ cs
theorem aav(x y:Plp):bY (pyC x) 0 (pyC y)=pyC y:=dG (pyC y) (pyC x) [] rfl
theorem Ov:pvs z43=pyC py0:=rfl
attribute [go_sem]RB Oq RC RT RW Sv Sw Kh Ki Ot Ou Kj Kk D3 aar Kl aas aat sD aau aav Ov
def acC(x:Acp):List AV:=[.b x.pw,.i x.now,.i x.r.kd,sv x.r.rp,sv x.r.us,sv x.r.nm,.w x.r.hs,.i x.r.hg,.i x.r.pt,.p x.r.ls.pv,.b x.r.rs,.b x.r.pr,.b x.r.ve,.b x.r.sh,.i x.r.fm,.w x.r.au,.b x.r.ha,.w x.r.pe,.p x.r.bx.pv,.p x.r.pf.pv,.i x.r.pm,.p x.r.id.pv,.i x.r.ct,.p x.gs.pv,.i x.bu]
theorem Sz(x:Acp):(acC x).length=25:=rfl
theorem Ow(x:Acp):(acC x).take 25=acC x:=rfl
theorem SA(x:Acp):dI (acC x)=true:=by simp only[acC,dI,SlP.oneC,rX,rY,rZ,r4,Bool.and_self]
theorem aaw(d:PV)(x:Acp):ag d (acC x) = .b x.pw:=rfl
theorem aax(x:Acp)(n:Bool):(acC x).set 0 (.b n)=acC {x with pw:=n}:=rfl
theorem aay(d:PV)(x:Acp):ag d ((acC x).drop 1) = .i x.now:=rfl
theorem aaz(x:Acp)(n:Int):(acC x).set 1 (.i n)=acC {x with now:=n}:=rfl
theorem Ta(d:PV)(x:Acp):ag d ((acC x).drop 23) = .p x.gs.pv:=rfl
theorem Tb(x:Acp)(k n:Nat)(cs:List PV):(acC x).set 23 (.p (.data k n cs))=acC {x with gs := .d k n cs}:=rfl
theorem Te(d:PV)(x:Acp):ag d ((acC x).drop 24) = .i x.bu:=rfl
theorem Tf(x:Acp)(n:Int):(acC x).set 24 (.i n)=acC {x with bu:=n}:=rfl
theorem Km(x:Acp):((acC x).drop 2).take 21=rqC x.r:=rfl
theorem Kn(x:Acp)(y:Rqp):bY (acC x) 2 (rqC y)=acC {x with r:=y}:=nC (rqC y) (rqC x.r) [.b x.pw,.i x.now] [.p x.gs.pv,.i x.bu] rfl
theorem q8(x:Acp):∃cs:List PV,acC x=cs.map .p:=⟨(acC x).map unP,rfl⟩
theorem D4(x:Acp):iY (acC x):=by
 obtain⟨cs,a⟩:=q8 x;rw[a];intro c hc;exact agN
@[simp] theorem aeW(T:List Nat)(x:Acp):ak T (acC x):=by obtain⟨cs,a⟩:=q8 x;rw[a];exact aM T cs
theorem aaT(i:Nat)(b:Blk)(x:Acp):fJ i b (acC x)=acC x:=ej i b _ (D4 x)
theorem QS(i:Nat)(b:Blk)(x:Acp):eU i b (acC x):=dx i b _ (D4 x)
theorem QT(h:List (Nat×Option Blk))(x:Acp):ik h (acC x):=by obtain⟨cs,a⟩:=q8 x;rw[a];exact fc h cs
theorem aaU(h:List (Nat×Option Blk))(x:Acp):fzL h (acC x)=acC x:=by obtain⟨cs,a⟩:=q8 x;rw[a];exact fX h cs
theorem aaV(h:bv)(S:List Nat)(σ:Nat->Nat)(x:Acp):aj h S σ (acC x) (acC x):=by obtain⟨cs,a⟩:=q8 x;rw[a];exact aL h S σ cs
theorem aaW(τ:Nat->Nat)(x:Acp):eu τ (acC x)=acC x:=by obtain⟨cs,a⟩:=q8 x;rw[a];exact cT τ cs
theorem aaX(x y:Acp):bY (acC x) 0 (acC y)=acC y:=dG (acC y) (acC x) [] rfl
theorem Ox:pvs z121=acC ac0:=rfl
attribute [go_sem]Sz Ow SA aaw aax aay aaz Ta Tb Te Tf Km Kn D4 aaT QS QT aaU aaV aaW aaX Ox
theorem aaY(x:Dvp):plC x=pyC ⟨x,.nil⟩:=rfl
attribute [go_sem] aaY
structure Pl where
 d:aU
 ids:List (List UInt8)
def pyP(p:Pl):Plp:=⟨bp p.d,.d 1 p.ids.length (p.ids.map byP)⟩
theorem aeX(p:Pl):(pyP p).d=bp p.d:=rfl
theorem Tg(p:Pl):(pyP p).ids.pv = .data 1 p.ids.length (p.ids.map byP):=rfl
attribute [go_sem] aeX Tg
abbrev plA(p:Pl):AV := .agg (pyC (pyP p))
structure Ac where
 pw:Bool
 now:Int
 r:RqM
 gs:List (Int×Int)
 bu:Int
def acP(a:Ac):Acp:=⟨a.pw,a.now,rqP a.r,.d 2 a.gs.length (gsP a.gs),a.bu⟩
theorem aaZ(a:Ac):(acP a).pw=a.pw:=rfl
theorem Th(a:Ac):(acP a).now=a.now:=rfl
theorem aeY(a:Ac):(acP a).r=rqP a.r:=rfl
theorem aa0(a:Ac):(acP a).gs.pv = .data 2 a.gs.length (gsP a.gs):=rfl
theorem aa1(a:Ac):(acP a).bu=a.bu:=rfl
attribute [go_sem] aaZ Th aeY aa0 aa1
def pnS:Nat->List UInt8
 |0=>[49,50,51,52]
 |1=>[53,54,55,56,97]
 |2=>[195,169,195,168,195,169,195,168]
 |_=>[48,48,48,48,48,48,48,48,48,49]
theorem nt:∀k:Nat,(pnS k).length<=10
 |0=>by decide|1=>by decide|2=>by decide|k+3=>c7 _
def k4(n:Int):Nat:=(band .i64 n 3).toNat
theorem FW(n:Int):band .i64 n 3=(k4 n:Int)/\k4 n<4:=by
 have a:=cg n 3 ε ε;unfold k4;omega
theorem q9(n:Int):FPure prog 54 [.i n] (sv (pnS (k4 n))):=by
 apply ba f54 [0,2];intro c J a Y Z;obtain⟨h1,h2⟩:=FW n;generalize k4 n=k at *
 match k,h2 with
 |0,_=>simp only[go_sem,J,h1,pnS]
 |1,_=>simp only[go_sem,J,h1,pnS]
 |2,_=>simp only[go_sem,J,h1,pnS]
 |3,_=>simp only[go_sem,J,h1,pnS]
def Ko(d:aU):UInt64:=(nU 4711 (Ay d.tok.sec)).w
theorem D5(d:aU):FPure prog 51 [bg d] (.w (Ko d)):=by
 have h1:=fv d.tok.sec;unfold Ko;generalize Ay d.tok.sec=y at *;have h2:=yE 4711 y;generalize nU 4711 y=R at *;apply ba f51 [0,1,2,3];intro c J a Y Z;simp only[go_sem,J];apply aa Z h1;simp only[go_sem,J];exact afV
theorem ln(n:Int):∃y,FPure prog 59 [.i n] (.w y):=by
 have h2:=fS 99 (an [cq n] 1) 8 (am _ 1) ε ε ε;obtain⟨y,hs⟩:∃y,bA (UInt64.ofNat (99:Int).toNat) 0 (an [cq n] 1)=y:=⟨_,rfl⟩
 rw[hs] at h2;refine⟨y,?_⟩;apply ba f59 [0,2];intro c J a Y Z;simp only[go_sem,J,ca];refine x_f Z (bI (cq n)) ?_;simp only[go_sem,J];exact afV
theorem aa2(n:Int):∃b:List UInt8,b.length=176/\FPure prog 295 [.i n] (.p (.data 1 176 (b.map bt))):=by
 have h:=oX (cq (((cq (band .i64 n 7)).toNat:Int)+1)) 5 176 ε;have a:=CO (cq (((cq (band .i64 n 7)).toNat:Int)+1)) 5 176;generalize oa (cq (((cq (band .i64 n 7)).toNat:Int)+1)) 5 176=b at *;rw[show((176:Nat):Int)=176 from rfl] at h;refine⟨b,a,?_⟩;apply ba f295 [0,2];intro c J d Y Z;simp only[go_sem,J,ca];apply aa Z h;simp only[go_sem,J]
theorem FX(d:aU)(r:RqM)(a:aP r):∃y,FPure prog 60 [bg d,rqA r] (rqA {r with au:=y,ha:=true}):=by
 obtain⟨z,b⟩:=yn r a;have ha:=qA d.tok.val z;refine⟨Dl d.tok.val z,?_⟩;generalize Dl d.tok.val z=y at *;apply ba f60 [0,1,2,3,4];intro c J e Y Z;simp only[go_sem,J];refine als ?_;apply aa Z ha;exact aiK
theorem HC(k:Int)(h:0<=k)(m:Nat)(a:0<m):∃j:Nat,k.tmod m=j/\j<m:=by
 have h1:=a' (b:=(m:Int)) h;have h2:=c' k (show(m:Int)≠0 by omega);have c:=b' k (show(0:Int)<m by omega);exact⟨(k.tmod m).toNat,ω,ω⟩
theorem Kp(l:List Int)(n:Nat)(h:l.length=n)(k:n<9223372036854775808)(i:Int)(e:0<=i):∃y,FPure prog 135 [.p (.data 1 n (l.map qI)),.i i] (.i y):=by
 by_cases d:n=0
 .refine⟨band .i64 i 65535,?_⟩;apply ba f135 [0,1,4,7];intro c J d Y Z;simp only[go_sem,J,(ω:((n:Int)=0))]
 obtain⟨j,f,g⟩:=HC i e n ω
 have a:=Q8 l j ω;refine⟨d'.wrap (band .i64 (l.getD j 0) 65535+band .i64 (d'.wrap (i.tdiv n)) 65535),?_⟩;generalize l.getD j 0=x at *;apply ba f135 [0,1,4,7];intro c J d Y Z;simp only[go_sem,J,(ω:¬((n:Int)=0)),f,a];exact⟨⟨ω,ω⟩,π⟩
structure PlInv(f:aO)(p:Pl)(G:Int)(N:Nat):Prop where
 d:DInv f p.d G
 n:p.ids.length<=N
 el:∀b,b∈p.ids->b.length<2000
theorem PlInv.mono{f:aO}{p:Pl}{G H:Int}{N M:Nat}(h:PlInv f p G N)(hg:G<=H)(a:N<=M):PlInv f p H M:=⟨h.d.mono hg,Nat.le_trans h.n a,h.el⟩
theorem Ti(l:List (List UInt8))(i:Nat)(h:i<l.length):(l.map byP).drop i=byP (l.getD i [])::(l.map byP).drop (i+1):=by
 have a:i<(l.map byP).length:=χ;rw[hE a];exact agO
theorem mu{f:aO}{p:Pl}{G:Int}{N:Nat}(k:PlInv f p G N)(r:N<1000)(n:Int):∃b:List UInt8,b.length<2000/\FPure prog 210 [plA p,.i n] (.p (.data 1 b.length (b.map bt))):=by
 obtain⟨l,a,d⟩:=aa2 n;have s:=k.n;by_cases t:p.ids.length=0
 .refine⟨l,ω,?_⟩;rw[a];refine ba f210 [0,1,2,4,13] ?_;intro c J a Y Z;simp only[go_sem,J,(ω:(p.ids.length:Int)=0)];refine aa Z d ?_;simp only[go_sem,J]
 by_cases m:band .i64 n 15=15
 .refine⟨l,ω,?_⟩;rw[a];refine ba f210 [0,1,2,4,13] ?_;intro c J a Y Z;simp only[go_sem,J,(ω:¬((p.ids.length:Int)=0)),m];refine aa Z d ?_;simp only[go_sem,J]
 have o:=cg n 15 ε ε;obtain⟨j,q,e⟩:=HC _ o.1 p.ids.length ω
 have g:=Ti p.ids j e;have h:=k.el _ (eS e []);refine⟨_,h,?_⟩;generalize p.ids.getD j []=x at *;refine ba f210 [0,1,2,4,13] ?_;intro c J a Y Z;simp only[go_sem,J,(ω:¬((p.ids.length:Int)=0)),m,q,g,byP];exact⟨⟨ω,ω⟩,π⟩
def kdS:Nat->Int
 |0=>1|1=>2|2=>2|3=>1|4=>3|5=>4|6=>5|_=>0
theorem aa3(d:PV):∀k:_root_.Fin 8,ag d (j' k.val [AV.p (.v (.int .i64 1)),.p (.v (.int .i64 2)),.p (.v (.int .i64 2)),.p (.v (.int .i64 1)),.p (.v (.int .i64 3)),.p (.v (.int .i64 4)),.p (.v (.int .i64 5)),.p (.v (.int .i64 0))]) = .i (kdS k.val)
 |0=>rfl|1=>rfl|2=>rfl|3=>rfl|4=>rfl|5=>rfl|6=>rfl|7=>rfl
def gsX(l:List (Int×Int)):List AV:=(gsP l).map .p
theorem pI(l:List (Int×Int)):(gsX l).length=l.length*2:=by
 unfold gsX gsP;rw[List.length_map]
 induction l with
 |nil=>rfl
 |cons a l b=>rw[s6,c9,b,ew];simp only[ew,km];omega
theorem Bu(l:List (Int×Int))(a b:Int):gsX l++[.i a,.i b]=gsX (l++[(a,b)]):=by simp[gsX,gsP]
theorem Kq(h:bv)(S:List Nat)(σ:Nat->Nat)(l:List (Int×Int)):aj h S σ (gsX l) (gsX l):=aL h S σ _
def gsT(now n i:Int):Int:=d'.wrap (d'.wrap (d'.wrap (now+1)+band .i64 (ishr .i64 n i) 7)-d'.wrap (d'.wrap ((band .i64 (ishr .i64 n 6) 15).tdiv 15)*3))
theorem Oy(now n:Int):∃gs:List (Int×Int),gs.length<=2/\FPure prog 137 [.i now,.i n] (gsA gs):=by
 have D:=cg (ishr .i64 n 12) 1 ε ε;have E:d'.wrap (1+band .i64 (ishr .i64 n 12) 1)=1+band .i64 (ishr .i64 n 12) 1:=ab ω ω;obtain⟨M,o,p⟩:∃M:Nat,d'.wrap (1+band .i64 (ishr .i64 n 12) 1)=M/\M<=2:=⟨(1+band .i64 (ishr .i64 n 12) 1).toNat,ω,ω⟩
 have A:∀x:Int,∃k:Nat,d'.wrap (band .i64 x 7*band .i64 (ishr .i64 n 4) 1)=k/\k<8:=fun x=>by
  have P:=cg x 7 ε ε;have h1:=cg (ishr .i64 n 4) 1 ε ε;rcases(show band .i64 (ishr .i64 n 4) 1=0\/band .i64 (ishr .i64 n 4) 1=1 from ω) with h|h<;>rw[h]
  .exact⟨0,by rw[Int.mul_zero];decide,ε⟩
  .exact⟨(band .i64 x 7).toNat,by rw[Int.mul_one,ab ω ω];omega,ω⟩
 obtain⟨q,r,e⟩:=A (ishr .i64 n 8);obtain⟨s,t,f⟩:=A (ishr .i64 n 11);have a0:=aa3 (.v (.int .i64 0)) ⟨q,e⟩;have B:=aa3 (.v (.int .i64 0)) ⟨s,f⟩;dsimp only at a0 B;obtain⟨g,u,w⟩:∃g:Nat->Int×Int,g 0=(gsT now n 0,kdS q)/\g 1=(gsT now n 3,kdS s):=⟨fun i=>if i=0 then(gsT now n 0,kdS q) else(gsT now n 3,kdS s),rfl,rfl⟩
 obtain⟨L,m⟩:∃L:Nat->List (Int×Int),∀i,L i=(List.range i).map g:=⟨_,fun _=>rfl⟩;have j:L 0=[]:=by rw[m];rfl
 have y:∀i,L (i+1)=L i++[g i]:=fun i=>by rw[m,m,List.range_succ,k'];rfl
 have d:∀i,(L i).length=i:=fun i=>by rw[m];simp
 refine⟨L M,by rw[d];exact p,?_⟩;have F:e'.wrap (d'.wrap (3*0))=0:=ε;have G:e'.wrap (d'.wrap (3*1))=3:=ε;have H:e'.wrap (d'.wrap (8+d'.wrap (3*0)))=8:=ε;have z:e'.wrap (d'.wrap (8+d'.wrap (3*1)))=11:=ε;apply ba f137 [0,1,4,5,6,7,14];intro c J I Y Z;simp only[go_sem,J];apply aX 126;refine ay Y I [0,1,4,5,6,7,14] M (fun i=>⟨51,[(0,.i now),(1,.i n),(5,.sl 0 0 8 1),(6,.sl 1 0 i 2),(7,.i i)],[(0,some ⟨3,[.i 1,.i 2,.i 2,.i 1,.i 3,.i 4,.i 5,.i 0]⟩),(1,some ⟨126,gsX (L i)⟩)],2⟩) [] (fun i=>i) ⟨rfl,?_,?_,rfl,rfl,trivial,fun i h=>h⟩ ?_
 .simp only[go_sem]
 .simp only[go_sem,j];simp[gsX,gsP,aj]
 intro i Q;rcases ea i M with hlt|K
 .have N:(i:Int)<(M:Int):=ω;have C:=d i;rw[y i];have O:=pI;rcases(show i=0\/i=1 from ω) with rfl|rfl
  .rw[j] at C⊢;simp only[go_sem,J,o,(ω:((0:Int)<(M:Int))),F,H,r,a0,u,show d'.wrap (0+1)=1 from ε];exact agp
  .simp only[go_sem,J,o,(ω:((1:Int)<(M:Int))),G,z,t,B,w,show d'.wrap (1+1)=2 from ε];exact agp
 .obtain rfl:i=M:=by omega
  have C:=d i;simp only[go_sem,J,o,(ω:¬((i:Int)<(i:Int)))];rw[cD (by rw[pI];omega)];exact⟨⟨by rw[pI];omega,aG _⟩,ω,aJ _⟩
def RqV(q:Rqp)(r:RqM):Prop:=∀{f:FuncId} {a b c e v:AV},FPure prog f [a,b,rqA r,c,e] v->FPure prog f [a,b,.agg (rqC q),c,e] v
theorem RqV.refl(r:RqM):RqV (rqP r) r:=fun h=>h
theorem Kr{F:aK}{w:World}{n:Nat}{cs:List PV}{u:Value}(h:RdP F w (.data 1 n cs) u)(g:∀c,c∈cs->c = .v (.slice none 0 0)):RdP F w (.data 1 n (f' cs.length (.data 1 0 []))) u:=by
 cases h with
 |nil _ A cap=>exact .nil _ _ _
 |data _ _ _ b off cap f hl hcap hF hcl h1 hr =>
  refine .data _ _ _ b off cap f (by simpa using hl) hcap hF (fun j a=>hcl j (by simpa using a)) (fun j a=>h1 j (by simpa using a)) (fun j c a=>?_);obtain⟨e,rfl⟩:=hP.1 a;have d:j<cs.length:=by simpa using e
  have:=hr j _ (n0 d);rw[g _ (ix d)] at this;rw[List.getElem_replicate];generalize f j=u at this⊢;cases this;exact .nil _ _ _
theorem Oz(r:RqM)(j:Nat)(m:r.ls=f' j []):RqV {rqP r with ls := .d 1 j (f' j (.v (.slice none 0 0)))} r:=by
 intro f a b c e v h;refine lI h rfl fun ρ F w g hg i x k=>?_
 match i,k with
 |0,k=>exact hg 0 x k
 |1,k=>exact hg 1 x k
 |2,k =>
  have h2:=hg 2 _ rfl;cases k;generalize g 2=u at h2⊢;cases h2 with
  |agg _ us hl hr' =>
   refine .agg _ us hl fun i c n=>?_
   by_cases l:i=7
   .subst l;have l:=hr' 7 _ rfl;cases n;cases l with
    |p _ _ h =>
     have:=Kr h (fun c o=>(List.mem_replicate.1 o).2);rw[i'] at this;refine .p _ _ ?_;have e:r.ls.map byP=f' j (.data 1 0 []):=by rw[m];simp[byP]
     show RdP F w (.data 1 r.ls.length (r.ls.map byP)) _;rw[e,show r.ls.length=j from by rw[m,i']];exact this
   .apply hr' i c;rw[<-Q7,List.getElem?_set_ne (Ne.symm l)];exact n
 |3,k=>exact hg 3 x k
 |4,k=>exact hg 4 x k
 |i+5,k=>simp at k
theorem FY(k:Int)(h:0<=k):∃j:Nat,k.tmod 3=j/\j<3:=HC k h 3 ε
theorem aa4(k:Int)(h:0<=k):∃j:Nat,k.tmod 5=j/\j<5:=HC k h 5 ε
theorem aa5(k:Int)(h:0<=k):∃j:Nat,k.tmod 6=j/\j<6:=HC k h 6 ε
theorem Tj(k:Int)(h:0<=k):∃j:Nat,k.tmod 10=j/\j<10:=HC k h 10 ε
theorem Ks(k:Int)(h:0<=k):∃j:Nat,band .i64 k 3=j/\j<4:=⟨_,FW k⟩
def zb(n:Nat):List UInt8:=f' n 0
theorem dO(n:Nat):(zb n).length=n:=i' ..
theorem zbN(n:Nat):f' n (AV.p (.v (.int .u8 0)))=cb (zb n):=by
 unfold zb cb;rw[l',l'];rfl
theorem rlS(s:List UInt8)(h:s.length<100:=by decide):s.length<100000:=Nat.lt_trans h ε
def ai4:List Nat:=[0,1,2,4,5,10,11,17,27,35,45,51,57,69,75,81,87,93,101,110,120,128,135,143,149,155,160,180,186]
attribute[go_sem]ai4
theorem Kt(r:RqM)(a:aP r)(n:Int)(u:¬band .i64 n 31=6)(v:¬band .i64 n 31=7)(e:¬band .i64 n 31=12)(f:¬band .i64 n 31=13)(g:¬band .i64 n 31=15)(h:¬band .i64 n 31=19):∃(q:Rqp) (r':RqM),RqV q r'/\aP r'/\FPure prog 212 [rqA r,.i n] (.agg (rqC q)):=by
 obtain⟨y,hy⟩:∃y,band .i64 n 31=y:=⟨_,rfl⟩;rw[hy] at u v e f g h;obtain⟨k,hk,b⟩:∃k,band .i64 (ishr .i64 n 5) 65535=k/\0<=k:=⟨_,rfl,(cg _ 65535 ε ε).1⟩
 by_cases w:y=0
 .refine⟨_,{r with kd:=d'.wrap (k.tmod 20-2)},RqV.refl _,⟨a.rp,a.us,a.nm,a.ls,a.bx,a.pf,a.id,a.el⟩,?_⟩;apply ba f212 ai4;intro c J h0 Y Z;simp only[go_sem,J,hy,hk,w];exact av _
 by_cases c1:y=1
 .obtain⟨j,hj,d⟩:=Ks k b;rcases(show j=0\/j=1\/j=2\/j=3 from ω) with rfl|rfl|rfl|rfl
  .refine⟨_,{r with rp:=[]},RqV.refl _,⟨rlS ([]),a.us,a.nm,a.ls,a.bx,a.pf,a.id,a.el⟩,?_⟩;exact afU
  .refine⟨_,{r with rp:=[99,46,101,120,97,109,112,108,101]},RqV.refl _,⟨rlS ([99,46,101,120,97,109,112,108,101]),a.us,a.nm,a.ls,a.bx,a.pf,a.id,a.el⟩,?_⟩;exact afU
  .refine⟨_,{r with rp:=[255]},RqV.refl _,⟨rlS ([255]),a.us,a.nm,a.ls,a.bx,a.pf,a.id,a.el⟩,?_⟩;exact afU
  .refine⟨_,{r with rp:=zb 65},RqV.refl _,⟨by show(zb 65).length<_;rw[dO];decide,a.us,a.nm,a.ls,a.bx,a.pf,a.id,a.el⟩,?_⟩;apply ba f212 ai4;intro c J h0 Y Z;simp only[go_sem,J,hy,hk,c1,hj,↓zbN,bS,Abs.strOf,bL];exact ahN
 by_cases c2:y=2
 .obtain⟨j,hj,d⟩:=FY k b;rcases(show j=0\/j=1\/j=2 from ω) with rfl|rfl|rfl
  .refine⟨_,{r with us:=[]},RqV.refl _,⟨a.rp,rlS ([]),a.nm,a.ls,a.bx,a.pf,a.id,a.el⟩,?_⟩;exact af8
  .refine⟨_,{r with us:=[117,49]},RqV.refl _,⟨a.rp,rlS ([117,49]),a.nm,a.ls,a.bx,a.pf,a.id,a.el⟩,?_⟩;exact af8
  .refine⟨_,{r with us:=[48,49,50,51,52,53,54,55,56,57,48,49,50,51,52,53,54]},RqV.refl _,⟨a.rp,rlS ([48,49,50,51,52,53,54,55,56,57,48,49,50,51,52,53,54]),a.nm,a.ls,a.bx,a.pf,a.id,a.el⟩,?_⟩;exact af8
 by_cases c3:y=3
 .obtain⟨j,hj,d⟩:=FY k b;rcases(show j=0\/j=1\/j=2 from ω) with rfl|rfl|rfl
  .refine⟨_,{r with nm:=[]},RqV.refl _,⟨a.rp,a.us,rlS ([]),a.ls,a.bx,a.pf,a.id,a.el⟩,?_⟩;exact agc
  .refine⟨_,{r with nm:=[192]},RqV.refl _,⟨a.rp,a.us,rlS ([192]),a.ls,a.bx,a.pf,a.id,a.el⟩,?_⟩;exact agc
  .refine⟨_,{r with nm:=zb 33},RqV.refl _,⟨a.rp,a.us,by show(zb 33).length<_;rw[dO];decide,a.ls,a.bx,a.pf,a.id,a.el⟩,?_⟩;apply ba f212 ai4;intro c J h0 Y Z;simp only[go_sem,J,hy,hk,c3,hj,↓zbN,bS,Abs.strOf,bL];exact ahN
 by_cases z:y=4
 .refine⟨_,{r with hg:=d'.wrap (k.tmod 8-1)},RqV.refl _,⟨a.rp,a.us,a.nm,a.ls,a.bx,a.pf,a.id,a.el⟩,?_⟩;apply ba f212 ai4;intro c J h0 Y Z;simp only[go_sem,J,hy,hk,z];exact av _
 by_cases A:y=5
 .refine⟨_,{r with pt:=d'.wrap (k.tmod 6-1)},RqV.refl _,⟨a.rp,a.us,a.nm,a.ls,a.bx,a.pf,a.id,a.el⟩,?_⟩;apply ba f212 ai4;intro c J h0 Y Z;simp only[go_sem,J,hy,hk,A];exact av _
 by_cases B:y=8
 .refine⟨_,{r with fm:=d'.wrap (k.tmod 5-1)},RqV.refl _,⟨a.rp,a.us,a.nm,a.ls,a.bx,a.pf,a.id,a.el⟩,?_⟩;apply ba f212 ai4;intro c J h0 Y Z;simp only[go_sem,J,hy,hk,B];exact av _
 by_cases C:y=9
 .have t:e'.wrap ((r.au.toNat:Int)+1)=((r.au+1).toNat:Int):=g6 r.au 1;refine⟨_,{r with au:=r.au+1},RqV.refl _,⟨a.rp,a.us,a.nm,a.ls,a.bx,a.pf,a.id,a.el⟩,?_⟩;apply ba f212 ai4;intro c J h0 Y Z;simp only[go_sem,J,hy,hk,C,t];exact av _
 by_cases l:y=10
 .refine⟨_,{r with ha := !r.ha},RqV.refl _,⟨a.rp,a.us,a.nm,a.ls,a.bx,a.pf,a.id,a.el⟩,?_⟩;apply ba f212 ai4;intro c J h0 Y Z;simp only[go_sem,J,hy,hk,l];exact av _
 by_cases c11:y=11
 .obtain⟨j,hj,d⟩:=aa5 k b;rcases(show j=0\/j=1\/j=2\/j=3\/j=4\/j=5 from ω) with rfl|rfl|rfl|rfl|rfl|rfl
  .refine⟨_,{r with pe:=0},RqV.refl _,⟨a.rp,a.us,a.nm,a.ls,a.bx,a.pf,a.id,a.el⟩,?_⟩;exact Δ
  .refine⟨_,{r with pe:=1},RqV.refl _,⟨a.rp,a.us,a.nm,a.ls,a.bx,a.pf,a.id,a.el⟩,?_⟩;exact Δ
  .refine⟨_,{r with pe:=2},RqV.refl _,⟨a.rp,a.us,a.nm,a.ls,a.bx,a.pf,a.id,a.el⟩,?_⟩;exact Δ
  .refine⟨_,{r with pe:=2305843009213693950},RqV.refl _,⟨a.rp,a.us,a.nm,a.ls,a.bx,a.pf,a.id,a.el⟩,?_⟩;exact Δ
  .refine⟨_,{r with pe:=2305843009213693949},RqV.refl _,⟨a.rp,a.us,a.nm,a.ls,a.bx,a.pf,a.id,a.el⟩,?_⟩;exact Δ
  .refine⟨_,{r with pe:=2305843009213693951},RqV.refl _,⟨a.rp,a.us,a.nm,a.ls,a.bx,a.pf,a.id,a.el⟩,?_⟩;exact Δ
 by_cases c14:y=14
 .obtain⟨j,hj,d⟩:=aa4 k b;rcases(show j=0\/j=1\/j=2\/j=3\/j=4 from ω) with rfl|rfl|rfl|rfl|rfl
  .refine⟨_,{r with pm:=0},RqV.refl _,⟨a.rp,a.us,a.nm,a.ls,a.bx,a.pf,a.id,a.el⟩,?_⟩;exact afG
  .refine⟨_,{r with pm:=7},RqV.refl _,⟨a.rp,a.us,a.nm,a.ls,a.bx,a.pf,a.id,a.el⟩,?_⟩;exact afG
  .refine⟨_,{r with pm:=8},RqV.refl _,⟨a.rp,a.us,a.nm,a.ls,a.bx,a.pf,a.id,a.el⟩,?_⟩;exact afG
  .refine⟨_,{r with pm:=256},RqV.refl _,⟨a.rp,a.us,a.nm,a.ls,a.bx,a.pf,a.id,a.el⟩,?_⟩;exact afG
  .refine⟨_,{r with pm := -1},RqV.refl _,⟨a.rp,a.us,a.nm,a.ls,a.bx,a.pf,a.id,a.el⟩,?_⟩;exact afG
 by_cases c16:y=16
 .obtain⟨j,hj,d⟩:=Ks k b;rcases(show j=0\/j=1\/j=2\/j=3 from ω) with rfl|rfl|rfl|rfl
  .refine⟨_,{r with ct:=0},RqV.refl _,⟨a.rp,a.us,a.nm,a.ls,a.bx,a.pf,a.id,a.el⟩,?_⟩;exact afT
  .refine⟨_,{r with ct:=16},RqV.refl _,⟨a.rp,a.us,a.nm,a.ls,a.bx,a.pf,a.id,a.el⟩,?_⟩;exact afT
  .refine⟨_,{r with ct:=256},RqV.refl _,⟨a.rp,a.us,a.nm,a.ls,a.bx,a.pf,a.id,a.el⟩,?_⟩;exact afT
  .refine⟨_,{r with ct := -1},RqV.refl _,⟨a.rp,a.us,a.nm,a.ls,a.bx,a.pf,a.id,a.el⟩,?_⟩;exact afT
 by_cases m:y=17
 .refine⟨_,{r with sh := !r.sh},RqV.refl _,⟨a.rp,a.us,a.nm,a.ls,a.bx,a.pf,a.id,a.el⟩,?_⟩;apply ba f212 ai4;intro c J h0 Y Z;simp only[go_sem,J,hy,hk,m];exact av _
 by_cases o:y=18
 .refine⟨_,{r with ve := !r.ve},RqV.refl _,⟨a.rp,a.us,a.nm,a.ls,a.bx,a.pf,a.id,a.el⟩,?_⟩;apply ba f212 ai4;intro c J h0 Y Z;simp only[go_sem,J,hy,hk,o];exact av _
 by_cases p:y=20
 .refine⟨_,{r with rs := !r.rs},RqV.refl _,⟨a.rp,a.us,a.nm,a.ls,a.bx,a.pf,a.id,a.el⟩,?_⟩;apply ba f212 ai4;intro c J h0 Y Z;simp only[go_sem,J,hy,hk,p];exact av _
 by_cases s:y=21
 .refine⟨_,{r with pr := !r.pr},RqV.refl _,⟨a.rp,a.us,a.nm,a.ls,a.bx,a.pf,a.id,a.el⟩,?_⟩;apply ba f212 ai4;intro c J h0 Y Z;simp only[go_sem,J,hy,hk,s];exact av _
 refine⟨_,r,RqV.refl _,a,?_⟩;apply ba f212 ai4;intro c J h0 Y Z;simp only[go_sem,J,hy,hk,w,c1,c2,c3,z,A,u,v,B,C,l,c11,e,f,c14,g,c16,m,o,h,p,s]
theorem FZ(l:List PV):iY (l.map .p):=fun c hc=>by
 exact agN
theorem nv(i:Nat)(b:Blk)(l:List PV):fJ i b (l.map .p)=l.map .p:=ej i b _ (FZ l)
theorem jq(i:Nat)(b:Blk)(l:List PV):eU i b (l.map .p):=dx i b _ (FZ l)
theorem mv(i:Nat)(b:Blk):∀l m:List AV,fJ i b (l++m)=fJ i b l++fJ i b m
 |[],m=>rfl
 |a::l,m=>by show fz1 i b a::fJ i b (l++m)=_;rw[mv i b l m];rfl
theorem xC(i:Nat)(b:Blk):∀l m:List AV,eU i b l->eU i b m->eU i b (l++m)
 |[],m,_,h=>h
 |a::l,m,h,k=>⟨h.1,xC i b l m h.2 k⟩
theorem Tk(d:PV)(x:Rqp)(v:AV):ag d (((rqC x).set 16 v).drop 16)=v:=rfl
section
attribute[local go_sem]gj h' Tk m'
def ai2:List Nat:=1000049::ai4
attribute[go_sem]ai2
theorem Ku(r:RqM)(a:aP r)(hs:r.ls.length<1000/\r.pf.length<1000)(n:Int)(e:band .i64 n 31=6):∃(q:Rqp) (r':RqM),RqV q r'/\aP r'/\FPure prog 212 [rqA r,.i n] (.agg (rqC q)):=by
 obtain⟨k,f,d⟩:∃k,band .i64 (ishr .i64 n 5) 65535=k/\0<=k:=⟨_,rfl,(cg _ 65535 ε ε).1⟩;obtain⟨j,g,l⟩:=FY k d;obtain⟨z,m,o⟩:∃z:Nat,d'.wrap (175+k.tmod 3)=z/\z<200:=⟨175+j,by rw[g,ab ω ω];omega,ω⟩
 have s:=hs.1;refine⟨_,{r with ls:=r.ls++[zb z]},RqV.refl _,⟨a.rp,a.us,a.nm,by show(r.ls++[zb z]).length<_;rw[c9];simp only[ew,km];omega,a.bx,a.pf,a.id,fun b t=>by rcases o1.1 t with h|h;exact a.el b h;rw[n4.1 h,dO];omega⟩,?_⟩;apply ba f212 ai2;intro c J v Y Z;simp only[go_sem,J,f,e,m,↓zbN];refine⟨ω,ω,ω,π,?_⟩;have u:fJ 3 ⟨5,cb (zb z)⟩ (g' AV.p (g' byP r.ls)++[AV.sl 3 0 z 1])=((r.ls++[zb z]).map byP).map .p:=by
  rw[mv,nv];simp only[go_sem,cD (Nat.le_of_eq (dO z)),k',byP,dO]
 refine cw Y (ks:=[]) (n:=0) 3 ?_ ?_
 .simp only[go_sem];exact⟨bR κ _ _ (iO _ _ _),xC _ _ _ _ (jq _ _ _) ⟨by show 0+z*1<=(cb (zb z)).length;rw[wL,dO];omega,trivial⟩,by rw[dO];exact c7 _⟩
 simp only[go_sem,u];show SAW _ _ _;refine cw Y (ks:=ai4) (n:=2000) 5 ?_ ?_
 .exact af4
 simp only[go_sem,J];rw[cD η,aJ,show r.ls.length+1=(r.ls++[zb z]).length from η];exact av _
theorem Kv(r:RqM)(a:aP r)(hs:r.ls.length<1000/\r.pf.length<1000)(n:Int)(g:band .i64 n 31=7):∃(q:Rqp) (r':RqM),RqV q r'/\aP r'/\FPure prog 212 [rqA r,.i n] (.agg (rqC q)):=by
 obtain⟨k,h,e⟩:∃k,band .i64 (ishr .i64 n 5) 65535=k/\0<=k:=⟨_,rfl,(cg _ 65535 ε ε).1⟩;obtain⟨j,l,m⟩:=Tj k e;refine⟨{rqP r with ls := .d 1 j (f' j (.v (.slice none 0 0)))},{r with ls:=f' j []},Oz _ j rfl,⟨a.rp,a.us,a.nm,by show(f' j _).length<_;rw[i'];omega,a.bx,a.pf,a.id,fun b f=>by have f:b∈f' j ([]:List UInt8):=f;rw[List.eq_of_mem_replicate f];decide⟩,?_⟩;apply ba f212 ai2;intro c J o Y Z;simp only[go_sem,J,h,g,l];refine⟨ω,?_⟩;have er:f' j (AV.p (.v (.slice none 0 0)))=(f' j (.v (.slice none 0 0))).map .p:=by rw[l']
 rw[er];refine cw Y (ks:=ai4) (n:=2000) 2 ?_ ?_
 .exact af4
 simp only[go_sem,J];rw[cD η,aJ];exact av _
theorem HD(r:RqM)(a:aP r)(hs:r.ls.length<1000/\r.pf.length<1000)(n:Int)(d:band .i64 n 31=12):∃(q:Rqp) (r':RqM),RqV q r'/\aP r'/\FPure prog 212 [rqA r,.i n] (.agg (rqC q)):=by
 obtain⟨k,h,f⟩:∃k,band .i64 (ishr .i64 n 5) 65535=k/\0<=k:=⟨_,rfl,(cg _ 65535 ε ε).1⟩;obtain⟨j,l,m⟩:=Ks k f;obtain⟨z,g,o⟩:∃z:Nat,ag (.v (.int .i64 0)) (j' j [.i 0,.i 16,.i 1024,.i 1025]) = .i z/\z<2000:=by
  rcases(show j=0\/j=1\/j=2\/j=3 from ω) with rfl|rfl|rfl|rfl
  .exact⟨0,rfl,ε⟩
  .exact⟨16,rfl,ε⟩
  .exact⟨1024,rfl,ε⟩
  .exact⟨1025,rfl,ε⟩
 refine⟨_,{r with bx:=zb z},RqV.refl _,⟨a.rp,a.us,a.nm,a.ls,by show(zb _).length<_;rw[dO];omega,a.pf,a.id,a.el⟩,?_⟩;apply ba f212 ai2;intro c J p Y Z;simp only[go_sem,J,h,d,l,g,↓zbN];refine⟨ω,ω,ω,?_⟩;refine cw Y (ks:=ai4) (n:=2000) 3 ?_ ?_
 .exact aim
 exact ahl
theorem HE(r:RqM)(a:aP r)(hs:r.ls.length<1000/\r.pf.length<1000)(n:Int)(b:band .i64 n 31=13):∃(q:Rqp) (r':RqM),RqV q r'/\aP r'/\FPure prog 212 [rqA r,.i n] (.agg (rqC q)):=by
 obtain⟨k,d,e⟩:∃k,band .i64 (ishr .i64 n 5) 65535=k/\0<=k:=⟨_,rfl,(cg _ 65535 ε ε).1⟩;have f:=hs.2;refine⟨_,{r with pf:=r.pf++[u8i k]},RqV.refl _,⟨a.rp,a.us,a.nm,a.ls,a.bx,by show(r.pf++[u8i k]).length<_;rw[c9];simp only[ew,km];omega,a.id,a.el⟩,?_⟩;apply ba f212 ai2;intro c J g Y Z;simp only[go_sem,J,d,b];refine⟨ω,ω,?_⟩;have er:g' AV.p (g' bt r.pf)++[AV.p (.v (.int .u8 (IntKind.u8.wrap k)))]=((r.pf++[u8i k]).map bt).map .p:=by rw[k',k'];simp only[hX,List.map_nil,bt,u8i,u8w]
 rw[er];refine cw Y (ks:=ai4) (n:=2000) 4 ?_ ?_
 .exact af4
 simp only[go_sem,J];rw[cD η,aJ,show r.pf.length+1=(r.pf++[u8i k]).length from η];exact av _
theorem HF(r:RqM)(a:aP r)(hs:r.ls.length<1000/\r.pf.length<1000)(n:Int)(d:band .i64 n 31=15):∃(q:Rqp) (r':RqM),RqV q r'/\aP r'/\FPure prog 212 [rqA r,.i n] (.agg (rqC q)):=by
 obtain⟨k,g,f⟩:∃k,band .i64 (ishr .i64 n 5) 65535=k/\0<=k:=⟨_,rfl,(cg _ 65535 ε ε).1⟩;obtain⟨j,h,l⟩:=FY k f;obtain⟨z,m,o⟩:∃z:Nat,d'.wrap (175+k.tmod 3)=z/\z<200:=⟨175+j,by rw[h,ab ω ω];omega,ω⟩
 refine⟨_,{r with id:=zb z},RqV.refl _,⟨a.rp,a.us,a.nm,a.ls,a.bx,a.pf,by show(zb _).length<_;rw[dO];omega,a.el⟩,?_⟩;apply ba f212 ai2;intro c J p Y Z;simp only[go_sem,J,g,d,m,↓zbN];refine⟨ω,?_⟩;refine cw Y (ks:=ai4) (n:=2000) 2 ?_ ?_
 .exact aim
 exact ahl
theorem HG(r:RqM)(a:aP r)(hs:r.ls.length<1000/\r.pf.length<1000)(n:Int)(b:band .i64 n 31=19):∃(q:Rqp) (r':RqM),RqV q r'/\aP r'/\FPure prog 212 [rqA r,.i n] (.agg (rqC q)):=by
 obtain⟨k,h,f⟩:∃k,band .i64 (ishr .i64 n 5) 65535=k/\0<=k:=⟨_,rfl,(cg _ 65535 ε ε).1⟩;by_cases l:r.bx.length=0
 .refine⟨_,r,RqV.refl _,a,?_⟩;apply ba f212 ai4;intro c J l Y Z;simp only[go_sem,J,h,b,(ω:(r.bx.length:Int)=0)]
 obtain⟨j,m,e⟩:=HC k f r.bx.length ω;have o:=a.bx;obtain⟨z,s⟩:∃z,r.bx.getD j 0 ^^^ u8i (d'.wrap (1+band .i64 k 7))=z:=⟨_,rfl⟩
 have g:∀d,ag d (j' j (g' AV.p (g' bt r.bx))) = .p (bt (r.bx.getD j 0)):=fun d=>by
  rw[hE (by simpa using e)];simp[ag,cR,e]
 have t:IntKind.u8.wrap (d'.wrap (1+band .i64 k 7))=((u8i (d'.wrap (1+band .i64 k 7))).toNat:Int):=(u8w _).symm;have u:(g' AV.p (g' bt r.bx)).set j (.p (.v (.int .u8 ((r.bx.getD j 0 ^^^ u8i (d'.wrap (1+band .i64 k 7))).toNat:Int))))=((r.bx.set j z).map bt).map .p:=by
  rw[s];simp only[List.map_set,bt]
 refine⟨_,{r with bx:=r.bx.set j z},RqV.refl _,⟨a.rp,a.us,a.nm,a.ls,by show(List.set _ _ _).length<_;rw[h'];exact a.bx,a.pf,a.id,a.el⟩,?_⟩;apply ba f212 ai2;intro c J l Y Z;simp only[go_sem,J,h,b,(ω:(r.bx.length:Int)>0),m];refine⟨ω,ω,ω,ω,?_⟩;simp only[go_sem,J,g,t,Mu,u];refine⟨ω,ω,π,?_⟩;refine cw Y (ks:=ai4) (n:=2000) 2 ?_ ?_
 .simp only[go_sem]
  repeat' (first|exact aG _|exact jq _ _ _|exact bR (by simp only[go_sem,List.length_map,h']<;>omega) _ _ (iO _ _ _)|refine⟨?_,?_⟩)
 simp only[go_sem,J];rw[cD η,aJ,show r.bx.length=(r.bx.set j z).length from η];exact av _
theorem OA(r:RqM)(a:aP r)(hs:r.ls.length<1000/\r.pf.length<1000)(n:Int):∃(q:Rqp) (r':RqM),RqV q r'/\aP r'/\FPure prog 212 [rqA r,.i n] (.agg (rqC q)):=by
 by_cases f:band .i64 n 31=6
 .exact Ku r a hs n f
 by_cases g:band .i64 n 31=7
 .exact Kv r a hs n g
 by_cases b:band .i64 n 31=12
 .exact HD r a hs n b
 by_cases c:band .i64 n 31=13
 .exact HE r a hs n c
 by_cases d:band .i64 n 31=15
 .exact HF r a hs n d
 by_cases e:band .i64 n 31=19
 .exact HG r a hs n e
 exact Kt r a n f g b c d e
end
theorem Kw(d:PV)(x:Rqp)(v:AV):ag d (((rqC x).set 7 v).drop 7)=v:=rfl
theorem fh(h:bv)(S:List Nat)(σ:Nat->Nat)(r:RqM)(q:Rqp)(a:cy (rqC (rqP r)) (rqC q)):aj h S σ (rqC (rqP r)) (rqC q):=by
 obtain⟨cs,b⟩:=o5 q;rw[b] at a⊢;exact AE h S σ _ _ a
theorem kb(k:Nat):(rpS k).length<=64:=by
 match k with
 |0=>decide
 |1=>decide
 |k+2=>exact(show(rpS 2).length<=64 from ε)
theorem uP(k:Nat):(usS k).length<=16:=by
 match k with
 |0=>decide
 |1=>decide
 |k+2=>exact(show(usS 2).length<=16 from ε)
theorem OB(n:Int):yj (crB n):=by
 have h1:=iz (k8 (ishr .i64 n 4));have h2:=iz (k8 (ishr .i64 (ishr .i64 n 4) 3));exact⟨by have:=kb (k3 n);show(rpS (k3 n)).length<_;omega,by have:=uP (k3 (ishr .i64 n 2));show(usS (k3 (ishr .i64 n 2))).length<_;omega,by show(txS _++txS _).length<_;rw[c9];omega⟩
theorem dP(d:aU)(b:RqM)(h:aP b)(hs:b.ls.length<1000/\b.pf.length<1000)(m:Int)(A S:Prop):∃(q:Rqp) (e:RqM),RqV q e/\aP e/\∃a:RqM,(A->FPure prog 60 [bg d,rqA b] (rqA a))/\(¬A->a=b)/\(S->FPure prog 212 [rqA a,.i m] (.agg (rqC q)))/\(¬S->q=rqP a):=by
 obtain⟨a,⟨h2,l⟩,f,g⟩:∃a:RqM,(aP a/\a.ls.length<1000/\a.pf.length<1000)/\(A->FPure prog 60 [bg d,rqA b] (rqA a))/\(¬A->a=b):=by
  by_cases j:A
  .obtain⟨y,n⟩:=FX d b h;exact⟨{b with au:=y,ha:=true},⟨⟨h.rp,h.us,h.nm,h.ls,h.bx,h.pf,h.id,h.el⟩,hs⟩,fun _=>n,fun c=>s5 j c⟩
  .exact⟨b,⟨h,hs⟩,fun c=>s5 c j,fun _=>rfl⟩
 by_cases k:S
 .obtain⟨q,e,o,p,r⟩:=OA a h2 l m;exact⟨q,e,o,p,a,f,g,fun _=>r,fun c=>s5 k c⟩
 .exact⟨rqP a,a,RqV.refl a,h2,a,f,g,fun c=>s5 c k,fun _=>rfl⟩
theorem lp{A B:Prop}(b:B)(k:Hid B->A:=by
 intro zz
 skip
 simp only[go_sem,J,ca]
 apply aa Z hk
 simp only[go_sem,J,ca]
 apply aa Z hpu
 simp only[go_sem,J,ca]
 apply aa Z hp1
 simp only[go_sem,J,ca]
 apply aa Z hh
 simp only[go_sem,J,ca]
 apply aa Z hwd
 simp only[go_sem,J,ca]
 apply aa Z hp2
 simp only[go_sem,J,ca]
 apply aa Z hp3
 simp only[go_sem,J,ca]
 apply aa Z hp4
 simp only[go_sem,J,ca,hj,hat]
 refine⟨ω,ω,?_⟩
 apply aa Z hsp
 exact zz.h):A:=k ⟨b⟩
def ai3:List Nat:=[0,1,2,3,6,7,8,9,10,11,13,14,15,16,56,57,103,114,135,151,154,159,178,184,192,195,201,211,251,258]
attribute[go_sem]ai3
theorem lq{A:Prop}(k:A:=by
 skip
 rintro _ -
 apply l6 Y (ks:=ai3) (n:=2000);replace Z:XK prog ai3 c _:=⟨J,Y⟩
 by_cases cA:band .i64 (ishr .i64 n 4) 1=1<;>by_cases cS:band .i64 (ishr .i64 n 10) 15=15
 all_goals
  simp only[cA,cS,hy,true_and,false_and,and_true,and_false,or_false,false_or,true_or,or_true,Int.reduceLE,Int.reduceLT,not_true_eq_false,not_false_eq_true,false_implies,forall_const] at t1 t2 t3 t4
  simp only[go_sem,J,hy,cA,cS]
  first|refine aa Z t1 ?_|subst t2|skip
  first|simp only[go_sem,J,hy,cA,cS]|skip
  first|refine aa Z t3 ?_|subst t4|skip
  first|simp only[go_sem,J]|skip):A:=k
theorem rqF(p:Pl)(m:Int):∃(k pe:UInt64) (s1:List UInt8) (ph:UInt64) (wb s2 s3 s4:List UInt8) (j:Nat) (t bx:List UInt8),
 FPure prog 51 [bg p.d] (.w k)/\FPure prog 52 [.w 4711] (.w pe)/\FPure prog 54 [.i (band .i64 (ishr .i64 m 3) 1)] (sv s1)/\FPure prog 132 [sv s1] (.w ph) /\
 FPure prog 131 [.w k,.w (cq m),.w ph] (blA wb)/\wb.length=24/\FPure prog 54 [.i (band .i64 (ishr .i64 m 4) 1)] (sv s2)/\FPure prog 54 [.i (band .i64 (ishr .i64 m 5) 3)] (sv s3)/\FPure prog 54 [.i 0] (sv s4) /\
 band .i64 (ishr .i64 m 7) 3=(j:Int)/\j<4/\ag (.v undef) (j' j [sv s2,sv s3,.p (.v (.string ⟨#[49,49,49]⟩)),sv s4])=sv t/\FPure prog 53 [.w k,.w (cq (((cq m).toNat:Int)+1)),sv t] (.tup [blA bx,.i 0])/\bx.length=80:=by
 have s:=D5 p.d;generalize Ko p.d=k at *;have b:=fv 4711;generalize Ay 4711=pe at *;have c:=q9 (band .i64 (ishr .i64 m 3) 1);have u:=nt (k4 (band .i64 (ishr .i64 m 3) 1));generalize pnS (k4 (band .i64 (ishr .i64 m 3) 1))=s1 at *;have x:=pl s1 ω;generalize bA 8 0 s1=ph at *;have e:=mX k (cq m) ph;have f:=fU k (cq m) [] (an [ph] 1);rw[am] at f;generalize gZ k (cq m) [] (an [ph] 1)=wb at *;have g:=q9 (band .i64 (ishr .i64 m 4) 1);have y:=nt (k4 (band .i64 (ishr .i64 m 4) 1));generalize pnS (k4 (band .i64 (ishr .i64 m 4) 1))=s2 at *;have h:=q9 (band .i64 (ishr .i64 m 5) 3);have z:=nt (k4 (band .i64 (ishr .i64 m 5) 3));generalize pnS (k4 (band .i64 (ishr .i64 m 5) 3))=s3 at *;have l:=q9 0;have A:=nt (k4 0);generalize pnS (k4 0)=s4 at *;obtain⟨B,a⟩:=FW (ishr .i64 m 7);generalize k4 (ishr .i64 m 7)=j at *;obtain⟨t,n,o⟩:∃t:List UInt8,ag (.v undef) (j' j [sv s2,sv s3,.p (.v (.string ⟨#[49,49,49]⟩)),sv s4])=sv t/\t.length<=63:=by
  match j,a with
  |0,_=>exact⟨s2,rfl,ω⟩
  |1,_=>exact⟨s3,rfl,ω⟩
  |2,_=>exact⟨[49,49,49],rfl,ε⟩
  |3,_=>exact⟨s4,rfl,ω⟩
 have q:=vG k (cq (((cq m).toNat:Int)+1)) t o;have r:=fU k (cq (((cq m).toNat:Int)+1)) [] (lM t);rw[show(lM t).length=64 from by simp[lM]] at r;generalize gZ k (cq (((cq m).toNat:Int)+1)) [] (lM t)=bx at *;exact⟨k,pe,s1,ph,wb,s2,s3,s4,j,t,bx,s,b,c,x,e,ω,g,h,l,B,a,n,q,ω⟩
theorem SlOkB.is{s:SlP}(h:SlOkB s):∃b:List UInt8,b.length<2000/\((s.pv = .v (.slice none 0 0)/\b=[])\/s.pv = .data 1 b.length (b.map bt)):=by
 rcases h with rfl|⟨b,a,rfl⟩
 .exact⟨[],ε,.inl ⟨rfl,rfl⟩⟩
 .exact⟨b,a,.inr rfl⟩
theorem OC{s:SlP}(h:SlOkB s):∃rp a ct c mo id d f e,(id.length=0\/id.length=176) /\
 FPure prog 207 [.p s.pv] (.tup [adA rp a ct c mo id d f,.i e]):=by
 rcases h with rfl|⟨b,g,rfl⟩
 .obtain⟨rp,a,ct,c,mo,id,d,f,e,h1,h2⟩:=wu [] ε;exact⟨rp,a,ct,c,mo,id,d,f,e,h1,h2.nil ⟨⟨rfl,rfl⟩,trivial⟩⟩
 .obtain⟨rp,a,ct,c,mo,id,d,f,e,h1,h2⟩:=wu b ω;exact⟨rp,a,ct,c,mo,id,d,f,e,h1,h2⟩
theorem Tl(d:PV)(x:Plp)(v:AV):ag d (((pyC x).set 32 v).drop 32)=v:=rfl
def OD(p:Pl)(q:Bool)(b:List UInt8):Pl:=if q=true then⟨p.d,p.ids++[b]⟩ else p
theorem F1{f:aO}{p:Pl}{G:Int}{N:Nat}(a:PlInv f p G N)(q:Bool)(b:List UInt8)(c:b.length<2000):PlInv f (OD p q b) G (N+1)/\(OD p q b).d=p.d:=by
 cases q with
 |false=>exact⟨a.mono (Int.le_refl _) ω,rfl⟩
 |true=>exact⟨⟨a.d,by have:=a.n;show(p.ids++[b]).length<=_;rw[c9];simp only[ew,km];omega,fun x e=>by
  rcases o1.1 e with h|h
  .exact a.el x h
  .rw[n4.1 h];exact c⟩,rfl⟩
section
attribute[local go_sem]gj h' m' Tl nv
theorem OE{f:aO}{p:Pl}{G:Int}{N:Nat}(C:PlInv f p G N)(I:N<1000)(x:Rpp)(t:MS x):∃p',PlInv f p' G (N+2)/\FPure prog 130 [plA p,.agg (rpC x)] (plA p'):=by
 obtain⟨rp,K,ct,L,mo,id,M,O,e,P,u⟩:=OC t.ad;obtain⟨j,F,k⟩:=t.ad.is;obtain⟨a,v,l⟩:=t.id.is;have Q:=C.n;obtain⟨w,y⟩:=F1 C (decide (e=0/\0<id.length)) id ω;obtain⟨D,z⟩:=F1 w (decide (0<a.length/\j.length=0)) a v;refine⟨_,D,?_⟩;obtain⟨b,s⟩:∃b,b=OD p (decide (e=0/\0<id.length)) id:=⟨_,rfl⟩
 rw[<-s] at w y D z⊢;obtain⟨m,A⟩:∃m,m=OD b (decide (0<a.length/\j.length=0)) a:=⟨_,rfl⟩
 rw[<-A];have H:=w.n;rcases k with⟨k,B⟩|k<;>rcases l with⟨l,o⟩|l
 all_goals
  apply ba f130 (1000004::1000006::[0,1,2,3,4,5,6,20,38]);intro c J h0 Y Z;refine ak1 ?_;apply bM (fun _:Unit=>(⟨48,[(2,.ptr 0 0),(3,.ptr 1 0),(4,.ptr 2 0)],[(0,some ⟨43,pyC (pyP b)⟩),(1,some ⟨114,rpC x⟩),(2,some ⟨43,pyC py0⟩)],3⟩:AS)) (fun _=>True)
  case tree =>
   intro hj;have hj:=hj () trivial;by_cases i:e=0
   .by_cases g:0<id.length
    .have e3:b=⟨p.d,p.ids++[id]⟩:=by rw[s,qi ⟨i,g⟩];rfl
     simp only[go_sem,J,i,(ω:((id.length:Int)>0))];refine⟨ω,ω,π,?_⟩;rw[show g' AV.p (g' byP p.ids)++[AV.p (.data 1 id.length (id.map bt))]=((p.ids++[id]).map byP).map .p from by simp[byP]];refine cw Y (ks:=[]) (n:=0) 6 ?_ ?_
     .exact agQ
     refine alf ?_;simp only[go_sem,e3];rw[show p.ids.length+1=(p.ids++[id]).length from η];exact⟨sD _ _ _ _,sD _ _ _ _⟩
    .have e3:b=p:=by rw[s,p4 (fun h=>g h.2)];rfl
     simp only[go_sem,J,i,(ω:¬((id.length:Int)>0))];exact ahU
   .have e3:b=p:=by rw[s,p4 (fun h=>i h.1)];rfl
    simp only[go_sem,J,i];exact ahU
  rintro _ -;apply l6 Y (ks:=(1000006::[0,1,2,3,4,5,6,20,38])) (n:=2000);replace Z:XK prog (1000006::[0,1,2,3,4,5,6,20,38]) c _:=⟨J,Y⟩
  apply bM (fun _:Unit=>(⟨48,[(2,.ptr 0 0),(4,.ptr 2 0)],[(0,some ⟨43,pyC (pyP m)⟩),(2,some ⟨43,pyC py0⟩)],3⟩:AS)) (fun _=>True)
  case tree =>
   intro hj;have hj:=hj () trivial;by_cases i:0<a.length/\j.length=0
   .have e4:m=⟨b.d,b.ids++[a]⟩:=by rw[A,qi i];rfl
    have g:(a.length:Int)>0:=ω;have q:(j.length:Int)=0:=ω;by_cases r:a=[]
    .rw[r] at g;exact s5 g ε
    first
     |exact s5 o r
     |simp only[go_sem,J,k,l,g,q]
      refine⟨ω,ω,π,?_⟩;rw[show g' AV.p (g' byP b.ids)++[AV.p (.data 1 a.length (a.map bt))]=((b.ids++[a]).map byP).map .p from by simp[byP]];refine cw Y (ks:=[]) (n:=0) 5 ?_ ?_
      .exact agQ
      refine alf ?_;simp only[go_sem,e4];rw[show b.ids.length+1=(b.ids++[a]).length from η];exact sD _ _ _ _
   .have e4:m=b:=by rw[A,p4 i];rfl
    by_cases g:0<a.length
    .have q:¬(j.length:Int)=0:=fun h=>i ⟨g,ω⟩
     by_cases r:a=[]
     .rw[r] at g;exact s5 g ε
     by_cases E:j=[]
     .rw[E] at q;exact s5 rfl q
     first
      |exact s5 o r
      |exact s5 B E
      |simp only[go_sem,J,l,k,(ω:((a.length:Int)>0)),q]
       exact aij
    .simp only[go_sem,J,l,k,(ω:¬((a.length:Int)>0))];exact aij
  rintro _ -;apply l6 Y (ks:=[0,1,2,3,4,5,6,20,38]) (n:=2000);replace Z:XK prog [0,1,2,3,4,5,6,20,38] c _:=⟨J,Y⟩
  simp only[go_sem,J]
end
section
attribute[local go_sem]gj h' Kw nv mv m'
theorem D6{f:aO}{p:Pl}{G:Int}{N:Nat}(hp:PlInv f p G N)(a:N<900)(n m:Int)(hy:band .i64 n 15=3):∃(q:Rqp) (r:RqM),RqV q r/\aP r/\FPure prog 136 [plA p,.i n,.i m] (.agg (rqC q)):=by
 exact Ω
theorem D8{f:aO}{p:Pl}{G:Int}{N:Nat}(hp:PlInv f p G N)(a:N<900)(n m:Int)(hy:band .i64 n 15=4):∃(q:Rqp) (r:RqM),RqV q r/\aP r/\FPure prog 136 [plA p,.i n,.i m] (.agg (rqC q)):=by
 exact Ω
theorem D9{f:aO}{p:Pl}{G:Int}{N:Nat}(hp:PlInv f p G N)(a:N<900)(n m:Int)(hy:band .i64 n 15=5):∃(q:Rqp) (r:RqM),RqV q r/\aP r/\FPure prog 136 [plA p,.i n,.i m] (.agg (rqC q)):=by
 exact Ω
theorem Ea{f:aO}{p:Pl}{G:Int}{N:Nat}(hp:PlInv f p G N)(a:N<900)(n m:Int)(hy:band .i64 n 15=0):∃(q:Rqp) (r:RqM),RqV q r/\aP r/\FPure prog 136 [plA p,.i n,.i m] (.agg (rqC q)):=by
 exact ν
theorem Eb{f:aO}{p:Pl}{G:Int}{N:Nat}(hp:PlInv f p G N)(a:N<900)(n m:Int)(hy:band .i64 n 15=1):∃(q:Rqp) (r:RqM),RqV q r/\aP r/\FPure prog 136 [plA p,.i n,.i m] (.agg (rqC q)):=by
 exact ν
theorem Ec{f:aO}{p:Pl}{G:Int}{N:Nat}(hp:PlInv f p G N)(a:N<900)(n m:Int)(hy:band .i64 n 15=2):∃(q:Rqp) (r:RqM),RqV q r/\aP r/\FPure prog 136 [plA p,.i n,.i m] (.agg (rqC q)):=by
 exact ν
def ai1:List Nat:=1000045::ai3
attribute[go_sem]ai1
theorem Ed{f:aO}{p:Pl}{G:Int}{N:Nat}(A:PlInv f p G N)(B:N<900)(n m:Int)(hy:band .i64 n 15=6):∃(q:Rqp) (r:RqM),RqV q r/\aP r/\FPure prog 136 [plA p,.i n,.i m] (.agg (rqC q)):=by
 obtain⟨k,pe,C,D,E,F,H,I,j,t,bx,hk,hpu,hp1,hh,hwd,s,hp2,hp3,hp4,hj,u,hat,hsp,v⟩:=rqF p m;have a:([]:List UInt8).length<100000:=ε;have h:∀b:List UInt8,b∈([]:List (List UInt8))->b.length<100000:=fun b w=>by cases w
 obtain⟨e,g⟩:∃e:RqM,e=⟨4,[],[],[],0,0,0,[],false,false,false,false,0,0,false,0,[],[],0,[],0⟩:=⟨_,rfl⟩;have l:aP e:=by rw[g];exact⟨a,a,a,by show 0<100000;decide,a,a,a,h⟩
 have o:e.ls.length<1000/\e.pf.length<1000:=by rw[g];exact⟨by show 0<1000;decide,by show 0<1000;decide⟩
 obtain⟨q,x,y,z,K,t1,t2,t3,t4⟩:=dP p.d e l o m (12<=band .i64 n 15\/band .i64 (ishr .i64 n 4) 1=1/\band .i64 n 15<6) (band .i64 (ishr .i64 n 10) 15=15);refine⟨q,x,y,z,?_⟩;refine ba f136 ai1 ?_;intro c J h0 Y Z;refine lp ?_;apply bM (fun _:Unit=>(⟨263,[(1,.i n),(2,.i m),(6,.ptr 1 0),(7,.ptr 2 0),(13,.ptr 3 0)],[(1,some ⟨118,rqC rq0⟩),(2,some ⟨41,dvC (bp p.d)⟩),(3,some ⟨118,rqC (rqP e)⟩)],4⟩:AS)) (fun _=>True)
 case tree =>
  intro hj;have hj:=hj () trivial;subst g;simp only[go_sem,J,hy];exact aft
 exact lq
theorem Ee{f:aO}{p:Pl}{G:Int}{N:Nat}(A:PlInv f p G N)(B:N<900)(n m:Int)(hy:band .i64 n 15=7):∃(q:Rqp) (r:RqM),RqV q r/\aP r/\FPure prog 136 [plA p,.i n,.i m] (.agg (rqC q)):=by
 obtain⟨k,pe,C,D,E,F,H,I,j,t,bx,hk,hpu,hp1,hh,hwd,s,hp2,hp3,hp4,hj,u,hat,hsp,v⟩:=rqF p m;have a:([]:List UInt8).length<100000:=ε;have h:∀b:List UInt8,b∈([]:List (List UInt8))->b.length<100000:=fun b w=>by cases w
 obtain⟨e,g⟩:∃e:RqM,e=⟨7,[],[],[],0,0,0,[],false,false,false,false,0,0,false,pe,bx,[],0,[],0⟩:=⟨_,rfl⟩;have l:aP e:=by rw[g];exact⟨a,a,a,by show 0<100000;decide,by show bx.length<_;omega,a,a,h⟩
 have o:e.ls.length<1000/\e.pf.length<1000:=by rw[g];exact⟨by show 0<1000;decide,by show 0<1000;decide⟩
 obtain⟨q,x,y,z,K,t1,t2,t3,t4⟩:=dP p.d e l o m (12<=band .i64 n 15\/band .i64 (ishr .i64 n 4) 1=1/\band .i64 n 15<6) (band .i64 (ishr .i64 n 10) 15=15);refine⟨q,x,y,z,?_⟩;refine ba f136 ai1 ?_;intro c J h0 Y Z;refine lp ?_;apply bM (fun _:Unit=>(⟨263,[(1,.i n),(2,.i m),(6,.ptr 1 0),(7,.ptr 2 0),(13,.ptr 3 0)],[(1,some ⟨118,rqC rq0⟩),(2,some ⟨41,dvC (bp p.d)⟩),(3,some ⟨118,rqC (rqP e)⟩)],4⟩:AS)) (fun _=>True)
 case tree =>
  intro hj;have hj:=hj () trivial;subst g;simp only[go_sem,J,hy];exact aft
 exact lq
theorem Ef{f:aO}{p:Pl}{G:Int}{N:Nat}(a:PlInv f p G N)(d:N<900)(n m:Int)(hy:band .i64 n 15=8):∃(q:Rqp) (r:RqM),RqV q r/\aP r/\FPure prog 136 [plA p,.i n,.i m] (.agg (rqC q)):=by
 exact xf
theorem Eg{f:aO}{p:Pl}{G:Int}{N:Nat}(a:PlInv f p G N)(d:N<900)(n m:Int)(hy:band .i64 n 15=9):∃(q:Rqp) (r:RqM),RqV q r/\aP r/\FPure prog 136 [plA p,.i n,.i m] (.agg (rqC q)):=by
 exact xf
theorem Bv{f:aO}{p:Pl}{G:Int}{N:Nat}(B:PlInv f p G N)(C:N<900)(n m:Int)(hy:band .i64 n 15=10):∃(q:Rqp) (r:RqM),RqV q r/\aP r/\FPure prog 136 [plA p,.i n,.i m] (.agg (rqC q)):=by
 obtain⟨k,pe,D,E,h,F,H,I,j,t,bx,hk,hpu,hp1,hh,hwd,u,hp2,hp3,hp4,hj,v,hat,hsp,w⟩:=rqF p m;have a:([]:List UInt8).length<100000:=ε;have l:∀b:List UInt8,b∈([]:List (List UInt8))->b.length<100000:=fun b x=>by cases x
 obtain⟨e,g⟩:∃e:RqM,e=⟨8,[],[],[],0,0,0,[],false,false,false,false,0,0,false,pe,bx,h,0,[],0⟩:=⟨_,rfl⟩;have o:aP e:=by rw[g];exact⟨a,a,a,by show 0<100000;decide,by show bx.length<_;omega,by show h.length<_;omega,a,l⟩
 have s:e.ls.length<1000/\e.pf.length<1000:=by rw[g];exact⟨by show 0<1000;decide,by show h.length<1000;omega⟩
 obtain⟨q,y,z,A,K,t1,t2,t3,t4⟩:=dP p.d e o s m (12<=band .i64 n 15\/band .i64 (ishr .i64 n 4) 1=1/\band .i64 n 15<6) (band .i64 (ishr .i64 n 10) 15=15);refine⟨q,y,z,A,?_⟩;refine ba f136 ai1 ?_;intro c J h0 Y Z;refine lp ?_;apply bM (fun _:Unit=>(⟨263,[(1,.i n),(2,.i m),(6,.ptr 1 0),(7,.ptr 2 0),(13,.ptr 3 0)],[(1,some ⟨118,rqC rq0⟩),(2,some ⟨41,dvC (bp p.d)⟩),(3,some ⟨118,rqC (rqP e)⟩)],4⟩:AS)) (fun _=>True)
 case tree =>
  intro hj;have hj:=hj () trivial;subst g;simp only[go_sem,J,hy];exact aft
 exact lq
theorem Bw{f:aO}{p:Pl}{G:Int}{N:Nat}(E:PlInv f p G N)(F:N<900)(n m:Int)(hy:band .i64 n 15=11):∃(q:Rqp) (r:RqM),RqV q r/\aP r/\FPure prog 136 [plA p,.i n,.i m] (.agg (rqC q)):=by
 obtain⟨k,pe,H,I,K,L,M,O,j,t,bx,hk,hpu,hp1,hh,hwd,w,hp2,hp3,hp4,hj,x,hat,hsp,y⟩:=rqF p m;have a:([]:List UInt8).length<100000:=ε;have l:∀b:List UInt8,b∈([]:List (List UInt8))->b.length<100000:=fun b z=>by cases z
 obtain⟨o,A⟩:=FW m;generalize k4 m=jj at *;obtain⟨kd,h⟩:∃kd:Int,ag (.v (.int .i64 0)) (j' jj [.i 1,.i 5,.i 6,.i 10]) = .i kd:=by
  rcases(show jj=0\/jj=1\/jj=2\/jj=3 from ω) with rfl|rfl|rfl|rfl
  .exact⟨1,rfl⟩
  .exact⟨5,rfl⟩
  .exact⟨6,rfl⟩
  .exact⟨10,rfl⟩
 obtain⟨e,g⟩:∃e:RqM,e=⟨kd,[],[],[],0,0,0,[],false,false,false,false,0,0,false,0,[],[],0,[],0⟩:=⟨_,rfl⟩;have s:aP e:=by rw[g];exact⟨a,a,a,by show 0<100000;decide,a,a,a,l⟩
 have u:e.ls.length<1000/\e.pf.length<1000:=by rw[g];exact⟨by show 0<1000;decide,by show 0<1000;decide⟩
 obtain⟨q,B,C,D,P,t1,t2,t3,t4⟩:=dP p.d e s u m (12<=band .i64 n 15\/band .i64 (ishr .i64 n 4) 1=1/\band .i64 n 15<6) (band .i64 (ishr .i64 n 10) 15=15);refine⟨q,B,C,D,?_⟩;refine ba f136 ai1 ?_;intro c J h0 Y Z;refine lp ?_;apply bM (fun _:Unit=>(⟨263,[(1,.i n),(2,.i m),(6,.ptr 1 0),(7,.ptr 2 0),(13,.ptr 3 0)],[(1,some ⟨118,rqC rq0⟩),(2,some ⟨41,dvC (bp p.d)⟩),(3,some ⟨118,rqC (rqP e)⟩)],4⟩:AS)) (fun _=>True)
 case tree =>
  intro hj;have hj:=hj () trivial;subst g;simp only[go_sem,J,hy,o,h];refine⟨ω,ω,?_⟩;exact aft
 exact lq
theorem Bx{f:aO}{p:Pl}{G:Int}{N:Nat}(A:PlInv f p G N)(B:N<900)(n m:Int)(hy:band .i64 n 15=12):∃(q:Rqp) (r:RqM),RqV q r/\aP r/\FPure prog 136 [plA p,.i n,.i m] (.agg (rqC q)):=by
 obtain⟨k,pe,C,D,E,F,H,I,j,t,bx,hk,hpu,hp1,hh,hwd,s,hp2,hp3,hp4,hj,u,hat,hsp,v⟩:=rqF p m;have a:([]:List UInt8).length<100000:=ε;have h:∀b:List UInt8,b∈([]:List (List UInt8))->b.length<100000:=fun b w=>by cases w
 obtain⟨e,g⟩:∃e:RqM,e=⟨11,[],[],[],0,0,0,[],false,false,false,false,0,0,false,0,[],[],0,[],0⟩:=⟨_,rfl⟩;have l:aP e:=by rw[g];exact⟨a,a,a,by show 0<100000;decide,a,a,a,h⟩
 have o:e.ls.length<1000/\e.pf.length<1000:=by rw[g];exact⟨by show 0<1000;decide,by show 0<1000;decide⟩
 obtain⟨q,x,y,z,K,t1,t2,t3,t4⟩:=dP p.d e l o m (12<=band .i64 n 15\/band .i64 (ishr .i64 n 4) 1=1/\band .i64 n 15<6) (band .i64 (ishr .i64 n 10) 15=15);refine⟨q,x,y,z,?_⟩;refine ba f136 ai1 ?_;intro c J h0 Y Z;refine lp ?_;apply bM (fun _:Unit=>(⟨263,[(1,.i n),(2,.i m),(6,.ptr 1 0),(7,.ptr 2 0),(13,.ptr 3 0)],[(1,some ⟨118,rqC rq0⟩),(2,some ⟨41,dvC (bp p.d)⟩),(3,some ⟨118,rqC (rqP e)⟩)],4⟩:AS)) (fun _=>True)
 case tree =>
  intro hj;have hj:=hj () trivial;subst g;simp only[go_sem,J,hy];exact aft
 exact lq
theorem By{f:aO}{p:Pl}{G:Int}{N:Nat}(u:PlInv f p G N)(E:N<900)(n m:Int)(hy:band .i64 n 15=13):∃(q:Rqp) (r:RqM),RqV q r/\aP r/\FPure prog 136 [plA p,.i n,.i m] (.agg (rqC q)):=by
 obtain⟨k,pe,F,H,I,K,L,M,j,t,bx,hk,hpu,hp1,hh,hwd,v,hp2,hp3,hp4,hj,w,hat,hsp,x⟩:=rqF p m;have a:([]:List UInt8).length<100000:=ε;have h:∀b:List UInt8,b∈([]:List (List UInt8))->b.length<100000:=fun b y=>by cases y
 obtain⟨s,z,A⟩:=mu u ω m;obtain⟨e,g⟩:∃e:RqM,e=⟨12,[],[],[],0,0,0,[],false,false,false,false,0,0,false,0,[],[],0,s,0⟩:=⟨_,rfl⟩
 have l:aP e:=by rw[g];exact⟨a,a,a,by show 0<100000;decide,a,a,by show s.length<_;omega,h⟩
 have o:e.ls.length<1000/\e.pf.length<1000:=by rw[g];exact⟨by show 0<1000;decide,by show 0<1000;decide⟩
 obtain⟨q,B,C,D,O,t1,t2,t3,t4⟩:=dP p.d e l o m (12<=band .i64 n 15\/band .i64 (ishr .i64 n 4) 1=1/\band .i64 n 15<6) (band .i64 (ishr .i64 n 10) 15=15);refine⟨q,B,C,D,?_⟩;refine ba f136 ai1 ?_;intro c J h0 Y Z;refine lp ?_;apply bM (fun _:Unit=>(⟨263,[(1,.i n),(2,.i m),(6,.ptr 1 0),(7,.ptr 2 0),(13,.ptr 3 0)],[(1,some ⟨118,rqC rq0⟩),(2,some ⟨41,dvC (bp p.d)⟩),(3,some ⟨118,rqC (rqP e)⟩)],4⟩:AS)) (fun _=>True)
 case tree =>
  intro hj;have hj:=hj () trivial;subst g;simp only[go_sem,J,hy];refine aa Z A ?_;simp only[go_sem,J,hy];exact aft
 exact lq
theorem Bz{f:aO}{p:Pl}{G:Int}{N:Nat}(u:PlInv f p G N)(E:N<900)(n m:Int)(hy:band .i64 n 15=14):∃(q:Rqp) (r:RqM),RqV q r/\aP r/\FPure prog 136 [plA p,.i n,.i m] (.agg (rqC q)):=by
 obtain⟨k,pe,F,H,I,K,L,M,j,t,bx,hk,hpu,hp1,hh,hwd,v,hp2,hp3,hp4,hj,w,hat,hsp,x⟩:=rqF p m;have a:([]:List UInt8).length<100000:=ε;have h:∀b:List UInt8,b∈([]:List (List UInt8))->b.length<100000:=fun b y=>by cases y
 obtain⟨s,z,A⟩:=mu u ω m;obtain⟨e,g⟩:∃e:RqM,e=⟨13,[],[],[],0,0,0,[],false,false,false,false,0,0,false,pe,[],[],0,s,band .i64 (ishr .i64 m 5) 3⟩:=⟨_,rfl⟩
 have l:aP e:=by rw[g];exact⟨a,a,a,by show 0<100000;decide,a,a,by show s.length<_;omega,h⟩
 have o:e.ls.length<1000/\e.pf.length<1000:=by rw[g];exact⟨by show 0<1000;decide,by show 0<1000;decide⟩
 obtain⟨q,B,C,D,O,t1,t2,t3,t4⟩:=dP p.d e l o m (12<=band .i64 n 15\/band .i64 (ishr .i64 n 4) 1=1/\band .i64 n 15<6) (band .i64 (ishr .i64 n 10) 15=15);refine⟨q,B,C,D,?_⟩;refine ba f136 ai1 ?_;intro c J h0 Y Z;refine lp ?_;apply bM (fun _:Unit=>(⟨263,[(1,.i n),(2,.i m),(6,.ptr 1 0),(7,.ptr 2 0),(13,.ptr 3 0)],[(1,some ⟨118,rqC rq0⟩),(2,some ⟨41,dvC (bp p.d)⟩),(3,some ⟨118,rqC (rqP e)⟩)],4⟩:AS)) (fun _=>True)
 case tree =>
  intro hj;have hj:=hj () trivial;subst g;simp only[go_sem,J,hy];refine aa Z A ?_;simp only[go_sem,J,hy];exact aft
 exact lq
theorem BA{f:aO}{p:Pl}{G:Int}{N:Nat}(O:PlInv f p G N)(P:N<900)(n m:Int)(hy:band .i64 n 15=15):∃(q:Rqp) (r:RqM),RqV q r/\aP r/\FPure prog 136 [plA p,.i n,.i m] (.agg (rqC q)):=by
 obtain⟨k,pe,Q,R,S,T,U,V,j,t,bx,hk,hpu,hp1,hh,hwd,B,hp2,hp3,hp4,hj,C,hat,hsp,D⟩:=rqF p m;have a:([]:List UInt8).length<100000:=ε;have l:∀b:List UInt8,b∈([]:List (List UInt8))->b.length<100000:=fun b E=>by cases E
 have o:=abu (bor .i64 m 896);have s:=OB (bor .i64 m 896);generalize crB (bor .i64 m 896)=x at *;have F:=cg m 1 ε ε;have H:=cg (ishr .i64 m 1) 1 ε ε;have u:d'.wrap (1+band .i64 (ishr .i64 m 1) 1)=1+band .i64 (ishr .i64 m 1) 1:=ab ω ω;obtain⟨h,W,A,-,v⟩:=na x s (band .i64 m 1) (1+band .i64 (ishr .i64 m 1) 1) ω ω;have w:=qg k (cq m) [] h 0 h.length rfl ε rfl ω;have I:=fU k (cq m) [] h;generalize gZ k (cq m) [] h=sb at *;obtain⟨e,g⟩:∃e:RqM,e=⟨14,[],[],[],0,0,0,[],false,false,false,false,0,0,false,pe,sb,[],0,[],0⟩:=⟨_,rfl⟩
 have y:aP e:=by rw[g];exact⟨a,a,a,by show 0<100000;decide,by show sb.length<_;omega,a,a,l⟩
 have z:e.ls.length<1000/\e.pf.length<1000:=by rw[g];exact⟨by show 0<1000;decide,by show 0<1000;decide⟩
 obtain⟨q,K,L,M,X,t1,t2,t3,t4⟩:=dP p.d e y z m (12<=band .i64 n 15\/band .i64 (ishr .i64 n 4) 1=1/\band .i64 n 15<6) (band .i64 (ishr .i64 n 10) 15=15);refine⟨q,K,L,M,?_⟩;refine ba f136 ai1 ?_;intro c J h0 Y Z;refine lp ?_;apply bM (fun _:Unit=>(⟨263,[(1,.i n),(2,.i m),(6,.ptr 1 0),(7,.ptr 2 0),(13,.ptr 3 0)],[(1,some ⟨118,rqC rq0⟩),(2,some ⟨41,dvC (bp p.d)⟩),(3,some ⟨118,rqC (rqP e)⟩)],4⟩:AS)) (fun _=>True)
 case tree =>
  intro hj;have hj:=hj () trivial;subst g;simp only[go_sem,J,hy];refine aa Z o ?_;simp only[go_sem,J,hy,u];refine aa Z v ?_;simp only[go_sem,J,hy,ca];refine aa Z ((w).nil κ) ?_;simp only[go_sem,J,hy];simp only[(ω:h.length+16=sb.length)];exact aft
 exact lq
end
theorem HH{f:aO}{p:Pl}{G:Int}{N:Nat}(a:PlInv f p G N)(b:N<900)(n m:Int):∃(q:Rqp) (r:RqM),RqV q r/\aP r/\FPure prog 136 [plA p,.i n,.i m] (.agg (rqC q)):=by
 have k:=cg n 15 ε ε;by_cases l:band .i64 n 15=0
 .exact Ea a b n m l
 by_cases h1:band .i64 n 15=1
 .exact Eb a b n m h1
 by_cases h2:band .i64 n 15=2
 .exact Ec a b n m h2
 by_cases o:band .i64 n 15=3
 .exact D6 a b n m o
 by_cases s:band .i64 n 15=4
 .exact D8 a b n m s
 by_cases t:band .i64 n 15=5
 .exact D9 a b n m t
 by_cases u:band .i64 n 15=6
 .exact Ed a b n m u
 by_cases v:band .i64 n 15=7
 .exact Ee a b n m v
 by_cases w:band .i64 n 15=8
 .exact Ef a b n m w
 by_cases x:band .i64 n 15=9
 .exact Eg a b n m x
 by_cases c:band .i64 n 15=10
 .exact Bv a b n m c
 by_cases d:band .i64 n 15=11
 .exact Bw a b n m d
 by_cases e:band .i64 n 15=12
 .exact Bx a b n m e
 by_cases g:band .i64 n 15=13
 .exact By a b n m g
 by_cases h:band .i64 n 15=14
 .exact Bz a b n m h
 by_cases j:band .i64 n 15=15
 .exact BA a b n m j
 omega
structure Kx(a:Acp):Prop where
 bu:i64 a.bu
 r:a.pw=false->∃(r:RqM) (gs:List (Int×Int)),RqV a.r r/\aP r/\gs.length<1000/\(a.gs.pv = .data 2 gs.length (gsP gs)\/(a.gs.pv = .v (.slice none 0 0)/\gs=[]))
theorem Ky(x:Int):i64 (d'.wrap x):=by
 unfold i64;rw[IntKind.wrap_i64];omega
section
attribute[local go_sem]gj h' m' nv
def ai5:List Nat:=[0,1,2,3,6,7,8,9,10,45,51,66]
attribute[go_sem]ai5
theorem Tm{f:aO}{p:Pl}{G:Int}{N:Nat}(P:PlInv f p G N)(Q:N<900)(l:List Int)(L:Nat)(D:l.length=L)(x:L<9223372036854775808)(i:Nat)(U:i<4) :
 ∃a,Kx a/\FPure prog 61 [plA p,.p (.data 1 L (l.map qI)),.i i] (.agg (acC a)):=by
 have e:d'.wrap (3*(i:Int))=3*i:=ab ω ω;have w1:d'.wrap (3*(i:Int)+1)=3*i+1:=ab ω ω;have g:d'.wrap (3*(i:Int)+2)=3*i+2:=ab ω ω;obtain⟨n,h1⟩:=Kp l L D x (3*(i:Int)) ω;obtain⟨m,h2⟩:=Kp l L D x (3*(i:Int)+1) ω;obtain⟨k,E⟩:=Kp l L D x (3*(i:Int)+2) ω;obtain⟨u,j⟩:∃u,d'.wrap (p.d.now+band .i64 k 7)=u:=⟨_,rfl⟩
 obtain⟨bu,b,y⟩:∃bu:Int,bu=(if band .i64 (ishr .i64 k 7) 7=7 then d'.wrap (ishr .i64 k 10*9) else -1)/\i64 bu:=by
  refine⟨_,rfl,?_⟩;split
  .exact Ky _
  .unfold i64;decide
 by_cases z:p.d.on=false\/band .i64 (ishr .i64 k 3) 15=15
 .refine⟨⟨true,u,rq0,.nil,bu⟩,⟨y,fun h=>by cases h⟩,?_⟩;have o:p.d.on=false\/(p.d.on=true/\band .i64 (ishr .i64 k 3) 15=15):=by
   cases s:p.d.on with
   |false=>exact .inl rfl
   |true=>exact .inr ⟨rfl,z.resolve_left (by rw[s];decide)⟩
  by_cases t:band .i64 (ishr .i64 k 7) 7=7<;>simp only[t,if_true,if_false] at b<;>rcases o with o|⟨o,R⟩
  all_goals
   subst b;apply ba f61 ai5;intro c J I Y Z;refine akd ?_
   first|simp only[go_sem,J,o,R,t,j]|simp only[go_sem,J,o,t,j]
   exact av _
 have s:p.d.on=true:=by
  cases h:p.d.on with
  |true=>rfl
  |false=>exact s5 (.inl h) z
 have o:¬band .i64 (ishr .i64 k 3) 15=15:=fun h=>z (.inr h)
 have A:(band .i64 (ishr .i64 k 3) 15==15)=false:=beq_eq_false_iff_ne.2 o;obtain⟨q,r,K,M,w⟩:=HH P Q n m;obtain⟨gs,S,B⟩:=Oy u k;by_cases O:band .i64 (ishr .i64 k 7) 1=0
 .have V:=cg (ishr .i64 n 5) 1 ε ε;obtain⟨kd,C,F,T,H⟩:∃(kd:Int) (C:Nat),band .i64 (ishr .i64 n 5) 1=C/\C<2/\ag (.v (.int .i64 0)) (j' C [.i 1,.i 2]) = .i kd:=by
   rcases(show band .i64 (ishr .i64 n 5) 1=0\/band .i64 (ishr .i64 n 5) 1=1 from ω) with h|h
   .exact⟨1,0,h,ε,rfl⟩
   .exact⟨2,1,h,ε,rfl⟩
  refine⟨⟨false,u,q,.d 2 1 (gsP [(d'.wrap (u+2),kd)]),bu⟩,⟨y,fun _=>⟨r,[(d'.wrap (u+2),kd)],K,M,by show 1<1000;decide,.inl rfl⟩⟩,?_⟩;by_cases t:band .i64 (ishr .i64 k 7) 7=7<;>simp only[t,if_true,if_false] at b
  all_goals
   subst b;apply ba f61 (1000011::ai5);intro c J I Y Z;refine akd ?_;simp only[go_sem,J,s,o,A,t,j];apply aa Z w;simp only[go_sem,J];apply aa Z B;simp only[go_sem,J,O,F,H];refine⟨ω,ω,π,?_⟩;refine cw Y (ks:=ai5) (n:=2000) 4 ?_ ?_
   .simp only[go_sem];exact bR κ _ _ (QS _ _ _)
   simp only[go_sem,J];exact av _
 .refine⟨⟨false,u,q,.d 2 gs.length (gsP gs),bu⟩,⟨y,fun _=>⟨r,gs,K,M,ω,.inl rfl⟩⟩,?_⟩;by_cases t:band .i64 (ishr .i64 k 7) 7=7<;>simp only[t,if_true,if_false] at b
  all_goals
   subst b;apply ba f61 ai5;intro c J I Y Z;refine akd ?_;simp only[go_sem,J,s,o,A,t,j];apply aa Z w;simp only[go_sem,J];apply aa Z B;simp only[go_sem,J,O]

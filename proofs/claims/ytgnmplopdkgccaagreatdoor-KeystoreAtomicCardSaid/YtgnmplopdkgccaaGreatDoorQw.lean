/- own work: steps of the proof -/
import Derived.Test.YtgnmplopdkgccaaGreatDoorRQ
set_option linter.all false
namespace Go.Abs
open RowKit Proofs Proofs.Tryz
structure Rqp where
 kd:Int
 rp:List UInt8
 us:List UInt8
 nm:List UInt8
 hs:UInt64
 hg:Int
 pt:Int
 ls:SlP
 rs:Bool
 pr:Bool
 ve:Bool
 sh:Bool
 fm:Int
 au:UInt64
 ha:Bool
 pe:UInt64
 bx:SlP
 pf:SlP
 pm:Int
 id:SlP
 ct:Int
structure Rpp where
 er:Int
 ad:SlP
 sg:SlP
 ce:SlP
 fm:Int
 id:SlP
 us:List UInt8
 nm:List UInt8
 ct:Int
 pe:UInt64
 bx:SlP
 mo:UInt64
 rt:Int
 rm:Int
 le:Int
 ps:Bool
 fi:Bool
 en:SlP
structure Wkp where
 d:Dvp
 r:Rqp
 g:SlP
 bu:Int
 rep:Rpp
 er:Int
def rq0:Rqp:=⟨0,[],[],[],0,0,0,SlP.nil,false,false,false,false,0,0,false,0,SlP.nil,SlP.nil,0,SlP.nil,0⟩
def rp0:Rpp:=⟨0,SlP.nil,SlP.nil,SlP.nil,0,SlP.nil,[],[],0,0,SlP.nil,0,0,0,0,false,false,SlP.nil⟩
def wk0:Wkp:=⟨dv0,rq0,SlP.nil,0,rp0,0⟩
def rqC(x:Rqp):List AV:=[.i x.kd,sv x.rp,sv x.us,sv x.nm,.w x.hs,.i x.hg,.i x.pt,.p x.ls.pv,.b x.rs,.b x.pr,.b x.ve,.b x.sh,.i x.fm,.w x.au,.b x.ha,.w x.pe,.p x.bx.pv,.p x.pf.pv,.i x.pm,.p x.id.pv,.i x.ct]
theorem ME(x:Rqp):(rqC x).length=21:=rfl
theorem PU(x:Rqp):(rqC x).take 21=rqC x:=rfl
theorem UR(x:Rqp):dI (rqC x)=true:=by simp only[rqC,dI,SlP.oneC,rX,rY,rZ,r4]
theorem abD(d:PV)(x:Rqp):ag d (rqC x) = .i x.kd:=rfl
theorem abE(x:Rqp)(n:Int):(rqC x).set 0 (.i n)=rqC {x with kd:=n}:=rfl
theorem abF(d:PV)(x:Rqp):ag d ((rqC x).drop 1)=sv x.rp:=rfl
theorem abG(x:Rqp)(n:List UInt8):(rqC x).set 1 (sv n)=rqC {x with rp:=n}:=rfl
theorem abH(d:PV)(x:Rqp):ag d ((rqC x).drop 2)=sv x.us:=rfl
theorem abI(x:Rqp)(n:List UInt8):(rqC x).set 2 (sv n)=rqC {x with us:=n}:=rfl
theorem abJ(d:PV)(x:Rqp):ag d ((rqC x).drop 3)=sv x.nm:=rfl
theorem abK(x:Rqp)(n:List UInt8):(rqC x).set 3 (sv n)=rqC {x with nm:=n}:=rfl
theorem abL(d:PV)(x:Rqp):ag d ((rqC x).drop 4) = .w x.hs:=rfl
theorem abM(x:Rqp)(n:UInt64):(rqC x).set 4 (.w n)=rqC {x with hs:=n}:=rfl
theorem abO(d:PV)(x:Rqp):ag d ((rqC x).drop 5) = .i x.hg:=rfl
theorem abP(x:Rqp)(n:Int):(rqC x).set 5 (.i n)=rqC {x with hg:=n}:=rfl
theorem abQ(d:PV)(x:Rqp):ag d ((rqC x).drop 6) = .i x.pt:=rfl
theorem abR(x:Rqp)(n:Int):(rqC x).set 6 (.i n)=rqC {x with pt:=n}:=rfl
theorem abS(d:PV)(x:Rqp):ag d ((rqC x).drop 7) = .p x.ls.pv:=rfl
theorem Q7(x:Rqp)(k n:Nat)(cs:List PV):(rqC x).set 7 (.p (.data k n cs))=rqC {x with ls := .d k n cs}:=rfl
theorem abV(d:PV)(x:Rqp):ag d ((rqC x).drop 8) = .b x.rs:=rfl
theorem abW(x:Rqp)(n:Bool):(rqC x).set 8 (.b n)=rqC {x with rs:=n}:=rfl
theorem abX(d:PV)(x:Rqp):ag d ((rqC x).drop 9) = .b x.pr:=rfl
theorem abY(x:Rqp)(n:Bool):(rqC x).set 9 (.b n)=rqC {x with pr:=n}:=rfl
theorem US(d:PV)(x:Rqp):ag d ((rqC x).drop 10) = .b x.ve:=rfl
theorem UT(x:Rqp)(n:Bool):(rqC x).set 10 (.b n)=rqC {x with ve:=n}:=rfl
theorem UU(d:PV)(x:Rqp):ag d ((rqC x).drop 11) = .b x.sh:=rfl
theorem UV(x:Rqp)(n:Bool):(rqC x).set 11 (.b n)=rqC {x with sh:=n}:=rfl
theorem UW(d:PV)(x:Rqp):ag d ((rqC x).drop 12) = .i x.fm:=rfl
theorem UX(x:Rqp)(n:Int):(rqC x).set 12 (.i n)=rqC {x with fm:=n}:=rfl
theorem UY(d:PV)(x:Rqp):ag d ((rqC x).drop 13) = .w x.au:=rfl
theorem UZ(x:Rqp)(n:UInt64):(rqC x).set 13 (.w n)=rqC {x with au:=n}:=rfl
theorem U0(x:Rqp):(rqC x).set 13 (.p (.v (.int .u64 0)))=rqC {x with au:=0}:=rfl
theorem U1(d:PV)(x:Rqp):ag d ((rqC x).drop 14) = .b x.ha:=rfl
theorem U2(x:Rqp)(n:Bool):(rqC x).set 14 (.b n)=rqC {x with ha:=n}:=rfl
theorem U3(d:PV)(x:Rqp):ag d ((rqC x).drop 15) = .w x.pe:=rfl
theorem U4(x:Rqp)(n:UInt64):(rqC x).set 15 (.w n)=rqC {x with pe:=n}:=rfl
theorem U5(x:Rqp):(rqC x).set 15 (.p (.v (.int .u64 0)))=rqC {x with pe:=0}:=rfl
theorem U6(d:PV)(x:Rqp):ag d ((rqC x).drop 16) = .p x.bx.pv:=rfl
theorem U7(x:Rqp)(k n:Nat)(cs:List PV):(rqC x).set 16 (.p (.data k n cs))=rqC {x with bx := .d k n cs}:=rfl
theorem Va(d:PV)(x:Rqp):ag d ((rqC x).drop 17) = .p x.pf.pv:=rfl
theorem Vb(x:Rqp)(k n:Nat)(cs:List PV):(rqC x).set 17 (.p (.data k n cs))=rqC {x with pf := .d k n cs}:=rfl
theorem Ve(d:PV)(x:Rqp):ag d ((rqC x).drop 18) = .i x.pm:=rfl
theorem Vf(x:Rqp)(n:Int):(rqC x).set 18 (.i n)=rqC {x with pm:=n}:=rfl
theorem Vg(d:PV)(x:Rqp):ag d ((rqC x).drop 19) = .p x.id.pv:=rfl
theorem Vh(x:Rqp)(k n:Nat)(cs:List PV):(rqC x).set 19 (.p (.data k n cs))=rqC {x with id := .d k n cs}:=rfl
theorem Vk(d:PV)(x:Rqp):ag d ((rqC x).drop 20) = .i x.ct:=rfl
theorem Vl(x:Rqp)(n:Int):(rqC x).set 20 (.i n)=rqC {x with ct:=n}:=rfl
theorem o5(x:Rqp):∃cs:List PV,rqC x=cs.map .p:=⟨(rqC x).map unP,rfl⟩
theorem EY(x:Rqp):iY (rqC x):=by
 obtain⟨cs,a⟩:=o5 x;rw[a];intro c hc;exact agN
@[simp] theorem afd(T:List Nat)(x:Rqp):ak T (rqC x):=by obtain⟨cs,a⟩:=o5 x;rw[a];exact aM T cs
theorem abZ(i:Nat)(b:Blk)(x:Rqp):fJ i b (rqC x)=rqC x:=ej i b _ (EY x)
theorem iO(i:Nat)(b:Blk)(x:Rqp):eU i b (rqC x):=dx i b _ (EY x)
theorem ab0(h:List (Nat×Option Blk))(x:Rqp):ik h (rqC x):=by obtain⟨cs,a⟩:=o5 x;rw[a];exact fc h cs
theorem ab1(h:List (Nat×Option Blk))(x:Rqp):fzL h (rqC x)=rqC x:=by obtain⟨cs,a⟩:=o5 x;rw[a];exact fX h cs
theorem vL(h:bv)(S:List Nat)(σ:Nat->Nat)(x:Rqp):aj h S σ (rqC x) (rqC x):=by obtain⟨cs,a⟩:=o5 x;rw[a];exact aL h S σ cs
theorem ab2(τ:Nat->Nat)(x:Rqp):eu τ (rqC x)=rqC x:=by obtain⟨cs,a⟩:=o5 x;rw[a];exact cT τ cs
theorem ab3(x y:Rqp):bY (rqC x) 0 (rqC y)=rqC y:=dG (rqC y) (rqC x) [] rfl
theorem PW:pvs z118=rqC rq0:=rfl
attribute [go_sem]ME PU UR abD abE abF abG abH abI abJ abK abL abM abO abP abQ abR abS Q7 abV abW abX abY US UT UU UV UW UX UY UZ U0 U1 U2 U3 U4 U5 U6 U7 Va Vb Ve Vf Vg Vh Vk Vl EY abZ iO ab0 ab1 vL ab2 ab3 PW
def rpC(x:Rpp):List AV:=[.i x.er,.p x.ad.pv,.p x.sg.pv,.p x.ce.pv,.i x.fm,.p x.id.pv,sv x.us,sv x.nm,.i x.ct,.w x.pe,.p x.bx.pv,.w x.mo,.i x.rt,.i x.rm,.i x.le,.b x.ps,.b x.fi,.p x.en.pv]
theorem Vm(x:Rpp):(rpC x).length=18:=rfl
theorem PX(x:Rpp):(rpC x).take 18=rpC x:=rfl
theorem Vn(x:Rpp):dI (rpC x)=true:=by simp only[rpC,dI,SlP.oneC,rX,rY,rZ,r4]
theorem ab5(x:Rpp)(n:Int):(rpC x).set 0 (.i n)=rpC {x with er:=n}:=rfl
theorem ab6(d:PV)(x:Rpp):ag d ((rpC x).drop 1) = .p x.ad.pv:=rfl
theorem acl(d:PV)(x:Rpp):ag d ((rpC x).drop 5) = .p x.id.pv:=rfl
theorem Vu(x:Rpp)(n:UInt64):(rpC x).set 11 (.w n)=rpC {x with mo:=n}:=rfl
theorem Vx(x:Rpp)(n:Int):(rpC x).set 12 (.i n)=rpC {x with rt:=n}:=rfl
theorem Vz(x:Rpp)(n:Int):(rpC x).set 13 (.i n)=rpC {x with rm:=n}:=rfl
theorem VB(x:Rpp)(n:Int):(rpC x).set 14 (.i n)=rpC {x with le:=n}:=rfl
theorem VD(x:Rpp)(n:Bool):(rpC x).set 15 (.b n)=rpC {x with ps:=n}:=rfl
theorem VF(x:Rpp)(n:Bool):(rpC x).set 16 (.b n)=rpC {x with fi:=n}:=rfl
theorem rP(x:Rpp):∃cs:List PV,rpC x=cs.map .p:=⟨(rpC x).map unP,rfl⟩
theorem EZ(x:Rpp):iY (rpC x):=by
 obtain⟨cs,a⟩:=rP x;rw[a];intro c hc;exact agN
@[simp] theorem afe(T:List Nat)(x:Rpp):ak T (rpC x):=by obtain⟨cs,a⟩:=rP x;rw[a];exact aM T cs
theorem acz(i:Nat)(b:Blk)(x:Rpp):fJ i b (rpC x)=rpC x:=ej i b _ (EZ x)
theorem acA(i:Nat)(b:Blk)(x:Rpp):eU i b (rpC x):=dx i b _ (EZ x)
theorem acB(h:List (Nat×Option Blk))(x:Rpp):ik h (rpC x):=by obtain⟨cs,a⟩:=rP x;rw[a];exact fc h cs
theorem acD(h:List (Nat×Option Blk))(x:Rpp):fzL h (rpC x)=rpC x:=by obtain⟨cs,a⟩:=rP x;rw[a];exact fX h cs
theorem acE(h:bv)(S:List Nat)(σ:Nat->Nat)(x:Rpp):aj h S σ (rpC x) (rpC x):=by obtain⟨cs,a⟩:=rP x;rw[a];exact aL h S σ cs
theorem acF(τ:Nat->Nat)(x:Rpp):eu τ (rpC x)=rpC x:=by obtain⟨cs,a⟩:=rP x;rw[a];exact cT τ cs
theorem acG(x y:Rpp):bY (rpC x) 0 (rpC y)=rpC y:=dG (rpC y) (rpC x) [] rfl
theorem PY:pvs z114=rpC rp0:=rfl
attribute [go_sem]Vm PX Vn ab5 ab6 acl Vu Vx Vz VB VD VF EZ acz acA acB acD acE acF acG PY
def wkC(x:Wkp):List AV:=[.w x.d.fac.mo,.w x.d.fac.se,.i x.d.fac.ps,.b x.d.fac.fi,.w x.d.fac.ase,.i x.d.fac.ah,.i x.d.fac.af,.i x.d.fac.ato,.p x.d.fac.ce.pv,.i x.d.v.ps,.p x.d.v.bs.pv,.i x.d.v.pg,.i x.d.v.gn,.i x.d.v.tl,.b x.d.v.tn,.p x.d.v.pr.pv,.b x.d.on,.i x.d.now,.i x.d.boo,.i x.d.dr,.i x.d.wr,.w x.d.tok.sec,.b x.d.tok.act,.w x.d.tok.val,.i x.d.tok.per,sv x.d.tok.rp,.i x.d.tok.sin,.b x.d.nx.act,.i x.d.nx.sin,.w x.d.nx.hsh,.i x.d.nx.flg,.p x.d.nx.ids.pv,.i x.r.kd,sv x.r.rp,sv x.r.us,sv x.r.nm,.w x.r.hs,.i x.r.hg,.i x.r.pt,.p x.r.ls.pv,.b x.r.rs,.b x.r.pr,.b x.r.ve,.b x.r.sh,.i x.r.fm,.w x.r.au,.b x.r.ha,.w x.r.pe,.p x.r.bx.pv,.p x.r.pf.pv,.i x.r.pm,.p x.r.id.pv,.i x.r.ct,.p x.g.pv,.i x.bu,.i x.rep.er,.p x.rep.ad.pv,.p x.rep.sg.pv,.p x.rep.ce.pv,.i x.rep.fm,.p x.rep.id.pv,sv x.rep.us,sv x.rep.nm,.i x.rep.ct,.w x.rep.pe,.p x.rep.bx.pv,.w x.rep.mo,.i x.rep.rt,.i x.rep.rm,.i x.rep.le,.b x.rep.ps,.b x.rep.fi,.p x.rep.en.pv,.i x.er]
theorem nM:∀(vs cs a b:List AV),cs.length=vs.length->bY (a++(cs++b)) a.length vs=a++(vs++b)
 |[],[],a,b,_=>by simp[bY]
 |[],c::cs,a,b,h=>by simp at h
 |v::vs,[],a,b,h=>by simp at h
 |v::vs,c::cs,a,b,h=>by
  rw[bY];have e:(a++(c::cs++b)).set a.length v=(a++[v])++(cs++b):=η;rw[e,show a.length+1=(a++[v]).length by simp,nM vs cs (a++[v]) b χ];simp
theorem rQ(x:Wkp):wkC x=dvC x.d++(rqC x.r++([.p x.g.pv,.i x.bu]++(rpC x.rep++[.i x.er]))):=rfl
theorem VK(x:Wkp):(wkC x).length=74:=rfl
theorem PZ(x:Wkp):(wkC x).take 74=wkC x:=rfl
theorem VL(x:Wkp):dI (wkC x)=true:=by simp only[wkC,dI,SlP.oneC,rX,rY,rZ,r4]
theorem acQ(d:PV)(x:Wkp):ag d ((wkC x).drop 3) = .b x.d.fac.fi:=rfl
theorem VZ(d:PV)(x:Wkp):ag d ((wkC x).drop 15) = .p x.d.v.pr.pv:=rfl
theorem V6(d:PV)(x:Wkp):ag d ((wkC x).drop 17) = .i x.d.now:=rfl
theorem V7(x:Wkp)(n:Int):(wkC x).set 17 (.i n)=wkC {x with d:={x.d with now:=n} }:=rfl
theorem V8(d:PV)(x:Wkp):ag d ((wkC x).drop 18) = .i x.d.boo:=rfl
theorem Wa(d:PV)(x:Wkp):ag d ((wkC x).drop 19) = .i x.d.dr:=rfl
theorem Wb(x:Wkp)(n:Int):(wkC x).set 19 (.i n)=wkC {x with d:={x.d with dr:=n} }:=rfl
theorem Wd(x:Wkp)(n:Int):(wkC x).set 20 (.i n)=wkC {x with d:={x.d with wr:=n} }:=rfl
theorem We(d:PV)(x:Wkp):ag d ((wkC x).drop 21) = .w x.d.tok.sec:=rfl
theorem Wf(x:Wkp)(n:UInt64):(wkC x).set 21 (.w n)=wkC {x with d:={x.d with tok:={x.d.tok with sec:=n} } }:=rfl
theorem Wi(x:Wkp)(n:Bool):(wkC x).set 22 (.b n)=wkC {x with d:={x.d with tok:={x.d.tok with act:=n} } }:=rfl
theorem Wl(x:Wkp)(n:UInt64):(wkC x).set 23 (.w n)=wkC {x with d:={x.d with tok:={x.d.tok with val:=n} } }:=rfl
theorem Wo(x:Wkp)(n:Int):(wkC x).set 24 (.i n)=wkC {x with d:={x.d with tok:={x.d.tok with per:=n} } }:=rfl
theorem Wq(x:Wkp)(n:List UInt8):(wkC x).set 25 (sv n)=wkC {x with d:={x.d with tok:={x.d.tok with rp:=n} } }:=rfl
theorem Ws(x:Wkp)(n:Int):(wkC x).set 26 (.i n)=wkC {x with d:={x.d with tok:={x.d.tok with sin:=n} } }:=rfl
theorem Wu(x:Wkp)(n:Bool):(wkC x).set 27 (.b n)=wkC {x with d:={x.d with nx:={x.d.nx with act:=n} } }:=rfl
theorem Ww(x:Wkp)(n:Int):(wkC x).set 28 (.i n)=wkC {x with d:={x.d with nx:={x.d.nx with sin:=n} } }:=rfl
theorem Wy(x:Wkp)(n:UInt64):(wkC x).set 29 (.w n)=wkC {x with d:={x.d with nx:={x.d.nx with hsh:=n} } }:=rfl
theorem Wz(x:Wkp):(wkC x).set 29 (.p (.v (.int .u64 0)))=wkC {x with d:={x.d with nx:={x.d.nx with hsh:=0} } }:=rfl
theorem WB(x:Wkp)(n:Int):(wkC x).set 30 (.i n)=wkC {x with d:={x.d with nx:={x.d.nx with flg:=n} } }:=rfl
theorem WD(x:Wkp)(k n:Nat)(cs:List PV):(wkC x).set 31 (.p (.data k n cs))=wkC {x with d:={x.d with nx:={x.d.nx with ids := .d k n cs} } }:=rfl
theorem WE(x:Wkp):(wkC x).set 31 (.p (.v (.slice none 0 0)))=wkC {x with d:={x.d with nx:={x.d.nx with ids := .nil} } }:=rfl
theorem Xa(d:PV)(x:Wkp):ag d ((wkC x).drop 45) = .w x.r.au:=rfl
theorem Xd(d:PV)(x:Wkp):ag d ((wkC x).drop 46) = .b x.r.ha:=rfl
theorem Xf(d:PV)(x:Wkp):ag d ((wkC x).drop 47) = .w x.r.pe:=rfl
theorem Xy(d:PV)(x:Wkp):ag d ((wkC x).drop 53) = .p x.g.pv:=rfl
theorem Xz(x:Wkp)(k n:Nat)(cs:List PV):(wkC x).set 53 (.p (.data k n cs))=wkC {x with g := .d k n cs}:=rfl
theorem XC(d:PV)(x:Wkp):ag d ((wkC x).drop 54) = .i x.bu:=rfl
theorem XD(x:Wkp)(n:Int):(wkC x).set 54 (.i n)=wkC {x with bu:=n}:=rfl
theorem XG(d:PV)(x:Wkp):ag d ((wkC x).drop 56) = .p x.rep.ad.pv:=rfl
theorem XH(x:Wkp)(k n:Nat)(cs:List PV):(wkC x).set 56 (.p (.data k n cs))=wkC {x with rep:={x.rep with ad := .d k n cs} }:=rfl
theorem XM(x:Wkp)(k n:Nat)(cs:List PV):(wkC x).set 57 (.p (.data k n cs))=wkC {x with rep:={x.rep with sg := .d k n cs} }:=rfl
theorem XQ(x:Wkp)(k n:Nat)(cs:List PV):(wkC x).set 58 (.p (.data k n cs))=wkC {x with rep:={x.rep with ce := .d k n cs} }:=rfl
theorem MF(x:Wkp):(wkC x).set 58 (.p (.v (.slice none 0 0)))=wkC {x with rep:={x.rep with ce := .nil} }:=rfl
theorem XT(x:Wkp)(n:Int):(wkC x).set 59 (.i n)=wkC {x with rep:={x.rep with fm:=n} }:=rfl
theorem XU(d:PV)(x:Wkp):ag d ((wkC x).drop 60) = .p x.rep.id.pv:=rfl
theorem XV(x:Wkp)(k n:Nat)(cs:List PV):(wkC x).set 60 (.p (.data k n cs))=wkC {x with rep:={x.rep with id := .d k n cs} }:=rfl
theorem X0(x:Wkp)(n:List UInt8):(wkC x).set 61 (sv n)=wkC {x with rep:={x.rep with us:=n} }:=rfl
theorem X2(x:Wkp)(n:List UInt8):(wkC x).set 62 (sv n)=wkC {x with rep:={x.rep with nm:=n} }:=rfl
theorem X4(x:Wkp)(n:Int):(wkC x).set 63 (.i n)=wkC {x with rep:={x.rep with ct:=n} }:=rfl
theorem X6(x:Wkp)(n:UInt64):(wkC x).set 64 (.w n)=wkC {x with rep:={x.rep with pe:=n} }:=rfl
theorem X9(x:Wkp)(k n:Nat)(cs:List PV):(wkC x).set 65 (.p (.data k n cs))=wkC {x with rep:={x.rep with bx := .d k n cs} }:=rfl
theorem Yg(x:Wkp)(n:Int):(wkC x).set 67 (.i n)=wkC {x with rep:={x.rep with rt:=n} }:=rfl
theorem Yq(x:Wkp)(k n:Nat)(cs:List PV):(wkC x).set 72 (.p (.data k n cs))=wkC {x with rep:={x.rep with en := .d k n cs} }:=rfl
theorem MG(x:Wkp):(wkC x).set 72 (.p (.v (.slice none 0 0)))=wkC {x with rep:={x.rep with en := .nil} }:=rfl
theorem Ys(d:PV)(x:Wkp):ag d ((wkC x).drop 73) = .i x.er:=rfl
theorem Yt(x:Wkp)(n:Int):(wkC x).set 73 (.i n)=wkC {x with er:=n}:=rfl
theorem MH(x:Wkp):(wkC x).take 32=dvC x.d:=rfl
theorem MI(x:Wkp)(y:Dvp):bY (wkC x) 0 (dvC y)=wkC {x with d:=y}:=by rw[rQ,rQ];exact nM (dvC y) (dvC x.d) [] _ rfl
theorem P0(x:Wkp):(wkC x).take 9=[.w x.d.fac.mo,.w x.d.fac.se,.i x.d.fac.ps,.b x.d.fac.fi,.w x.d.fac.ase,.i x.d.fac.ah,.i x.d.fac.af,.i x.d.fac.ato,.p x.d.fac.ce.pv]:=rfl
theorem P1(x:Wkp):((wkC x).drop 9).take 7=[.i x.d.v.ps,.p x.d.v.bs.pv,.i x.d.v.pg,.i x.d.v.gn,.i x.d.v.tl,.b x.d.v.tn,.p x.d.v.pr.pv]:=rfl
theorem MJ(x:Wkp):((wkC x).drop 21).take 6=[.w x.d.tok.sec,.b x.d.tok.act,.w x.d.tok.val,.i x.d.tok.per,sv x.d.tok.rp,.i x.d.tok.sin]:=rfl
theorem MK(x:Wkp):((wkC x).drop 27).take 5=[.b x.d.nx.act,.i x.d.nx.sin,.w x.d.nx.hsh,.i x.d.nx.flg,.p x.d.nx.ids.pv]:=rfl
theorem IR(x:Wkp):((wkC x).drop 32).take 21=rqC x.r:=rfl
theorem IS(x:Wkp)(y:Rqp):bY (wkC x) 32 (rqC y)=wkC {x with r:=y}:=by rw[rQ,rQ];exact nM (rqC y) (rqC x.r) (dvC x.d) _ rfl
theorem IU(x:Wkp):((wkC x).drop 55).take 18=rpC x.rep:=rfl
theorem IV(x:Wkp)(y:Rpp):bY (wkC x) 55 (rpC y)=wkC {x with rep:=y}:=by
 have h:(dvC x.d++(rqC x.r++[AV.p x.g.pv,AV.i x.bu])).length=55:=by rw[c9,c9,Nf,ME];rfl
 have:=nM (rpC y) (rpC x.rep) (dvC x.d++(rqC x.r++[.p x.g.pv,.i x.bu])) [.i x.er] rfl;rw[h] at this;exact this
theorem o6(x:Wkp):∃cs:List PV,wkC x=cs.map .p:=⟨(wkC x).map unP,rfl⟩
theorem E1(x:Wkp):iY (wkC x):=by
 obtain⟨cs,a⟩:=o6 x;rw[a];intro c hc;exact agN
@[simp] theorem aff(T:List Nat)(x:Wkp):ak T (wkC x):=by obtain⟨cs,a⟩:=o6 x;rw[a];exact aM T cs
theorem ac8(i:Nat)(b:Blk)(x:Wkp):fJ i b (wkC x)=wkC x:=ej i b _ (E1 x)
theorem GK(i:Nat)(b:Blk)(x:Wkp):eU i b (wkC x):=dx i b _ (E1 x)
theorem ac9(h:List (Nat×Option Blk))(x:Wkp):ik h (wkC x):=by obtain⟨cs,a⟩:=o6 x;rw[a];exact fc h cs
theorem ada(h:List (Nat×Option Blk))(x:Wkp):fzL h (wkC x)=wkC x:=by obtain⟨cs,a⟩:=o6 x;rw[a];exact fX h cs
theorem l7(h:bv)(S:List Nat)(σ:Nat->Nat)(x:Wkp):aj h S σ (wkC x) (wkC x):=by obtain⟨cs,a⟩:=o6 x;rw[a];exact aL h S σ cs
theorem ML(τ:Nat->Nat)(x:Wkp):eu τ (wkC x)=wkC x:=by obtain⟨cs,a⟩:=o6 x;rw[a];exact cT τ cs
theorem adb(x y:Wkp):bY (wkC x) 0 (wkC y)=wkC y:=dG (wkC y) (wkC x) [] rfl
theorem P2:pvs QH=wkC wk0:=rfl
attribute [go_sem]VK PZ VL acQ VZ V6 V7 V8 Wa Wb Wd We Wf Wi Wl Wo Wq Ws Wu Ww Wy Wz WB WE WD Xa Xd Xf Xy Xz XC XD XG XH XM MF XQ XT XU XV X0 X2 X4 X6 X9 Yg MG Yq Ys Yt MH MI P0 P1 MJ MK IR IS IU IV E1 ac8 GK ac9 ada l7 ML adb P2
structure RqM where
 kd:Int
 rp:List UInt8
 us:List UInt8
 nm:List UInt8
 hs:UInt64
 hg:Int
 pt:Int
 ls:List (List UInt8)
 rs:Bool
 pr:Bool
 ve:Bool
 sh:Bool
 fm:Int
 au:UInt64
 ha:Bool
 pe:UInt64
 bx:List UInt8
 pf:List UInt8
 pm:Int
 id:List UInt8
 ct:Int
def rqP(r:RqM):Rqp:=⟨r.kd,r.rp,r.us,r.nm,r.hs,r.hg,r.pt,.d 1 r.ls.length (r.ls.map byP),r.rs,r.pr,r.ve,r.sh,r.fm,r.au,r.ha,r.pe,.d 1 r.bx.length (r.bx.map bt),.d 1 r.pf.length (r.pf.map bt),r.pm,.d 1 r.id.length (r.id.map bt),r.ct⟩
section
variable (r : RqM)
theorem adc:(rqP r).kd=r.kd:=rfl
theorem ade:(rqP r).rp=r.rp:=rfl
theorem adf:(rqP r).us=r.us:=rfl
theorem adg:(rqP r).nm=r.nm:=rfl
theorem adh:(rqP r).hs=r.hs:=rfl
theorem adi:(rqP r).hg=r.hg:=rfl
theorem adj:(rqP r).pt=r.pt:=rfl
theorem adk:(rqP r).ls.pv = .data 1 r.ls.length (r.ls.map byP):=rfl
theorem adl:(rqP r).rs=r.rs:=rfl
theorem adm:(rqP r).pr=r.pr:=rfl
theorem adn:(rqP r).ve=r.ve:=rfl
theorem ado:(rqP r).sh=r.sh:=rfl
theorem adp:(rqP r).fm=r.fm:=rfl
theorem adq:(rqP r).au=r.au:=rfl
theorem adr:(rqP r).ha=r.ha:=rfl
theorem ads:(rqP r).pe=r.pe:=rfl
theorem adt:(rqP r).bx.pv = .data 1 r.bx.length (r.bx.map bt):=rfl
theorem adu:(rqP r).pf.pv = .data 1 r.pf.length (r.pf.map bt):=rfl
theorem adv:(rqP r).pm=r.pm:=rfl
theorem adw:(rqP r).id.pv = .data 1 r.id.length (r.id.map bt):=rfl
theorem adx:(rqP r).ct=r.ct:=rfl
end
attribute [go_sem] adc ade adf adg adh adi adj adk adl adm adn ado adp adq adr ads adt adu adv adw adx
abbrev rqA(r:RqM):AV := .agg (rqC (rqP r))
def gsP(l:List (Int×Int)):List PV:=l.flatMap fun g=>[.v (.int .i64 g.1),.v (.int .i64 g.2)]
abbrev gsA(l:List (Int×Int)):AV := .p (.data 2 l.length (gsP l))

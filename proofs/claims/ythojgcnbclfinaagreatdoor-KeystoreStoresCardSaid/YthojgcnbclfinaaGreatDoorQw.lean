/- own work: steps of the proof -/
import Derived.Test.YthojgcnbclfinaaGreatDoorRQ
set_option linter.all false
namespace Go.Abs
open RowKit Proofs Proofs.Tryz
structure Rqp where
 kd:Int
 rp:List UInt8
 us:List UInt8
 nm:List UInt8
 hs:UInt64
 hg:Int
 pt:Int
 ls:SlP
 rs:Bool
 pr:Bool
 ve:Bool
 sh:Bool
 fm:Int
 au:UInt64
 ha:Bool
 pe:UInt64
 bx:SlP
 pf:SlP
 pm:Int
 id:SlP
 ct:Int
structure Rpp where
 er:Int
 ad:SlP
 sg:SlP
 ce:SlP
 fm:Int
 id:SlP
 us:List UInt8
 nm:List UInt8
 ct:Int
 pe:UInt64
 bx:SlP
 mo:UInt64
 rt:Int
 rm:Int
 le:Int
 ps:Bool
 fi:Bool
 en:SlP
structure Wkp where
 d:Dvp
 r:Rqp
 g:SlP
 bu:Int
 rep:Rpp
 er:Int
def rq0:Rqp:=⟨0,[],[],[],0,0,0,SlP.nil,false,false,false,false,0,0,false,0,SlP.nil,SlP.nil,0,SlP.nil,0⟩
def rp0:Rpp:=⟨0,SlP.nil,SlP.nil,SlP.nil,0,SlP.nil,[],[],0,0,SlP.nil,0,0,0,0,false,false,SlP.nil⟩
def wk0:Wkp:=⟨dv0,rq0,SlP.nil,0,rp0,0⟩
def rqC(x:Rqp):List AV:=[.i x.kd,sv x.rp,sv x.us,sv x.nm,.w x.hs,.i x.hg,.i x.pt,.p x.ls.pv,.b x.rs,.b x.pr,.b x.ve,.b x.sh,.i x.fm,.w x.au,.b x.ha,.w x.pe,.p x.bx.pv,.p x.pf.pv,.i x.pm,.p x.id.pv,.i x.ct]
theorem ME(x:Rqp):(rqC x).length=21:=rfl
theorem PU(x:Rqp):(rqC x).take 21=rqC x:=rfl
theorem UR(x:Rqp):dI (rqC x)=true:=by simp only[rqC,dI,SlP.oneC,rX,rY,rZ,r4]
theorem abD(d:PV)(x:Rqp):ag d (rqC x) = .i x.kd:=rfl
theorem abE(x:Rqp)(n:Int):(rqC x).set 0 (.i n)=rqC {x with kd:=n}:=rfl
theorem abF(d:PV)(x:Rqp):ag d ((rqC x).drop 1)=sv x.rp:=rfl
theorem abG(x:Rqp)(n:List UInt8):(rqC x).set 1 (sv n)=rqC {x with rp:=n}:=rfl
theorem abH(d:PV)(x:Rqp):ag d ((rqC x).drop 2)=sv x.us:=rfl
theorem abI(x:Rqp)(n:List UInt8):(rqC x).set 2 (sv n)=rqC {x with us:=n}:=rfl
theorem abJ(d:PV)(x:Rqp):ag d ((rqC x).drop 3)=sv x.nm:=rfl
theorem abK(x:Rqp)(n:List UInt8):(rqC x).set 3 (sv n)=rqC {x with nm:=n}:=rfl
theorem abL(d:PV)(x:Rqp):ag d ((rqC x).drop 4) = .w x.hs:=rfl
theorem abM(x:Rqp)(n:UInt64):(rqC x).set 4 (.w n)=rqC {x with hs:=n}:=rfl
theorem abN(x:Rqp):(rqC x).set 4 (.p (.v (.int .u64 0)))=rqC {x with hs:=0}:=rfl
theorem abO(d:PV)(x:Rqp):ag d ((rqC x).drop 5) = .i x.hg:=rfl
theorem abP(x:Rqp)(n:Int):(rqC x).set 5 (.i n)=rqC {x with hg:=n}:=rfl
theorem abQ(d:PV)(x:Rqp):ag d ((rqC x).drop 6) = .i x.pt:=rfl
theorem abR(x:Rqp)(n:Int):(rqC x).set 6 (.i n)=rqC {x with pt:=n}:=rfl
theorem abS(d:PV)(x:Rqp):ag d ((rqC x).drop 7) = .p x.ls.pv:=rfl
theorem Q7(x:Rqp)(k n:Nat)(cs:List PV):(rqC x).set 7 (.p (.data k n cs))=rqC {x with ls := .d k n cs}:=rfl
theorem abT(x:Rqp):(rqC x).set 7 (.p (.v (.slice none 0 0)))=rqC {x with ls := .nil}:=rfl
theorem abU(x:Rqp)(s:SlP):(rqC x).set 7 (.p s.pv)=rqC {x with ls:=s}:=rfl
theorem abV(d:PV)(x:Rqp):ag d ((rqC x).drop 8) = .b x.rs:=rfl
theorem abW(x:Rqp)(n:Bool):(rqC x).set 8 (.b n)=rqC {x with rs:=n}:=rfl
theorem abX(d:PV)(x:Rqp):ag d ((rqC x).drop 9) = .b x.pr:=rfl
theorem abY(x:Rqp)(n:Bool):(rqC x).set 9 (.b n)=rqC {x with pr:=n}:=rfl
theorem US(d:PV)(x:Rqp):ag d ((rqC x).drop 10) = .b x.ve:=rfl
theorem UT(x:Rqp)(n:Bool):(rqC x).set 10 (.b n)=rqC {x with ve:=n}:=rfl
theorem UU(d:PV)(x:Rqp):ag d ((rqC x).drop 11) = .b x.sh:=rfl
theorem UV(x:Rqp)(n:Bool):(rqC x).set 11 (.b n)=rqC {x with sh:=n}:=rfl
theorem UW(d:PV)(x:Rqp):ag d ((rqC x).drop 12) = .i x.fm:=rfl
theorem UX(x:Rqp)(n:Int):(rqC x).set 12 (.i n)=rqC {x with fm:=n}:=rfl
theorem UY(d:PV)(x:Rqp):ag d ((rqC x).drop 13) = .w x.au:=rfl
theorem UZ(x:Rqp)(n:UInt64):(rqC x).set 13 (.w n)=rqC {x with au:=n}:=rfl
theorem U0(x:Rqp):(rqC x).set 13 (.p (.v (.int .u64 0)))=rqC {x with au:=0}:=rfl
theorem U1(d:PV)(x:Rqp):ag d ((rqC x).drop 14) = .b x.ha:=rfl
theorem U2(x:Rqp)(n:Bool):(rqC x).set 14 (.b n)=rqC {x with ha:=n}:=rfl
theorem U3(d:PV)(x:Rqp):ag d ((rqC x).drop 15) = .w x.pe:=rfl
theorem U4(x:Rqp)(n:UInt64):(rqC x).set 15 (.w n)=rqC {x with pe:=n}:=rfl
theorem U5(x:Rqp):(rqC x).set 15 (.p (.v (.int .u64 0)))=rqC {x with pe:=0}:=rfl
theorem U6(d:PV)(x:Rqp):ag d ((rqC x).drop 16) = .p x.bx.pv:=rfl
theorem U7(x:Rqp)(k n:Nat)(cs:List PV):(rqC x).set 16 (.p (.data k n cs))=rqC {x with bx := .d k n cs}:=rfl
theorem U8(x:Rqp):(rqC x).set 16 (.p (.v (.slice none 0 0)))=rqC {x with bx := .nil}:=rfl
theorem U9(x:Rqp)(s:SlP):(rqC x).set 16 (.p s.pv)=rqC {x with bx:=s}:=rfl
theorem Va(d:PV)(x:Rqp):ag d ((rqC x).drop 17) = .p x.pf.pv:=rfl
theorem Vb(x:Rqp)(k n:Nat)(cs:List PV):(rqC x).set 17 (.p (.data k n cs))=rqC {x with pf := .d k n cs}:=rfl
theorem Vc(x:Rqp):(rqC x).set 17 (.p (.v (.slice none 0 0)))=rqC {x with pf := .nil}:=rfl
theorem Vd(x:Rqp)(s:SlP):(rqC x).set 17 (.p s.pv)=rqC {x with pf:=s}:=rfl
theorem Ve(d:PV)(x:Rqp):ag d ((rqC x).drop 18) = .i x.pm:=rfl
theorem Vf(x:Rqp)(n:Int):(rqC x).set 18 (.i n)=rqC {x with pm:=n}:=rfl
theorem Vg(d:PV)(x:Rqp):ag d ((rqC x).drop 19) = .p x.id.pv:=rfl
theorem Vh(x:Rqp)(k n:Nat)(cs:List PV):(rqC x).set 19 (.p (.data k n cs))=rqC {x with id := .d k n cs}:=rfl
theorem Vi(x:Rqp):(rqC x).set 19 (.p (.v (.slice none 0 0)))=rqC {x with id := .nil}:=rfl
theorem Vj(x:Rqp)(s:SlP):(rqC x).set 19 (.p s.pv)=rqC {x with id:=s}:=rfl
theorem Vk(d:PV)(x:Rqp):ag d ((rqC x).drop 20) = .i x.ct:=rfl
theorem Vl(x:Rqp)(n:Int):(rqC x).set 20 (.i n)=rqC {x with ct:=n}:=rfl
theorem o5(x:Rqp):∃cs:List PV,rqC x=cs.map .p:=⟨(rqC x).map unP,rfl⟩
theorem EY(x:Rqp):iY (rqC x):=by
 obtain⟨cs,a⟩:=o5 x;rw[a];intro c hc;exact agN
@[simp] theorem afd(T:List Nat)(x:Rqp):ak T (rqC x):=by obtain⟨cs,a⟩:=o5 x;rw[a];exact aM T cs
theorem abZ(i:Nat)(b:Blk)(x:Rqp):fJ i b (rqC x)=rqC x:=ej i b _ (EY x)
theorem iO(i:Nat)(b:Blk)(x:Rqp):eU i b (rqC x):=dx i b _ (EY x)
theorem ab0(h:List (Nat×Option Blk))(x:Rqp):ik h (rqC x):=by obtain⟨cs,a⟩:=o5 x;rw[a];exact fc h cs
theorem ab1(h:List (Nat×Option Blk))(x:Rqp):fzL h (rqC x)=rqC x:=by obtain⟨cs,a⟩:=o5 x;rw[a];exact fX h cs
theorem vL(h:bv)(S:List Nat)(σ:Nat->Nat)(x:Rqp):aj h S σ (rqC x) (rqC x):=by obtain⟨cs,a⟩:=o5 x;rw[a];exact aL h S σ cs
theorem ab2(τ:Nat->Nat)(x:Rqp):eu τ (rqC x)=rqC x:=by obtain⟨cs,a⟩:=o5 x;rw[a];exact cT τ cs
theorem ab3(x y:Rqp):bY (rqC x) 0 (rqC y)=rqC y:=dG (rqC y) (rqC x) [] rfl
theorem PW:pvs z142=rqC rq0:=rfl
attribute [go_sem] ME PU UR abD abE abF abG abH abI abJ abK abL abM abN abO abP abQ abR abT abU abS Q7 abV abW abX abY US UT UU UV UW UX UY UZ U0 U1 U2 U3 U4 U5 U8 U9 U6 U7 Vc Vd Va Vb Ve Vf Vi Vj Vg Vh Vk Vl EY abZ iO ab0 ab1 vL ab2 ab3 PW
def rpC(x:Rpp):List AV:=[.i x.er,.p x.ad.pv,.p x.sg.pv,.p x.ce.pv,.i x.fm,.p x.id.pv,sv x.us,sv x.nm,.i x.ct,.w x.pe,.p x.bx.pv,.w x.mo,.i x.rt,.i x.rm,.i x.le,.b x.ps,.b x.fi,.p x.en.pv]
theorem Vm(x:Rpp):(rpC x).length=18:=rfl
theorem PX(x:Rpp):(rpC x).take 18=rpC x:=rfl
theorem Vn(x:Rpp):dI (rpC x)=true:=by simp only[rpC,dI,SlP.oneC,rX,rY,rZ,r4]
theorem ab4(d:PV)(x:Rpp):ag d (rpC x) = .i x.er:=rfl
theorem ab5(x:Rpp)(n:Int):(rpC x).set 0 (.i n)=rpC {x with er:=n}:=rfl
theorem ab6(d:PV)(x:Rpp):ag d ((rpC x).drop 1) = .p x.ad.pv:=rfl
theorem ab7(x:Rpp)(k n:Nat)(cs:List PV):(rpC x).set 1 (.p (.data k n cs))=rpC {x with ad := .d k n cs}:=rfl
theorem ab8(x:Rpp):(rpC x).set 1 (.p (.v (.slice none 0 0)))=rpC {x with ad := .nil}:=rfl
theorem ab9(x:Rpp)(s:SlP):(rpC x).set 1 (.p s.pv)=rpC {x with ad:=s}:=rfl
theorem aca(d:PV)(x:Rpp):ag d ((rpC x).drop 2) = .p x.sg.pv:=rfl
theorem acb(x:Rpp)(k n:Nat)(cs:List PV):(rpC x).set 2 (.p (.data k n cs))=rpC {x with sg := .d k n cs}:=rfl
theorem acd(x:Rpp):(rpC x).set 2 (.p (.v (.slice none 0 0)))=rpC {x with sg := .nil}:=rfl
theorem ace(x:Rpp)(s:SlP):(rpC x).set 2 (.p s.pv)=rpC {x with sg:=s}:=rfl
theorem acf(d:PV)(x:Rpp):ag d ((rpC x).drop 3) = .p x.ce.pv:=rfl
theorem acg(x:Rpp)(k n:Nat)(cs:List PV):(rpC x).set 3 (.p (.data k n cs))=rpC {x with ce := .d k n cs}:=rfl
theorem ach(x:Rpp):(rpC x).set 3 (.p (.v (.slice none 0 0)))=rpC {x with ce := .nil}:=rfl
theorem aci(x:Rpp)(s:SlP):(rpC x).set 3 (.p s.pv)=rpC {x with ce:=s}:=rfl
theorem acj(d:PV)(x:Rpp):ag d ((rpC x).drop 4) = .i x.fm:=rfl
theorem ack(x:Rpp)(n:Int):(rpC x).set 4 (.i n)=rpC {x with fm:=n}:=rfl
theorem acl(d:PV)(x:Rpp):ag d ((rpC x).drop 5) = .p x.id.pv:=rfl
theorem acm(x:Rpp)(k n:Nat)(cs:List PV):(rpC x).set 5 (.p (.data k n cs))=rpC {x with id := .d k n cs}:=rfl
theorem acn(x:Rpp):(rpC x).set 5 (.p (.v (.slice none 0 0)))=rpC {x with id := .nil}:=rfl
theorem aco(x:Rpp)(s:SlP):(rpC x).set 5 (.p s.pv)=rpC {x with id:=s}:=rfl
theorem acp(d:PV)(x:Rpp):ag d ((rpC x).drop 6)=sv x.us:=rfl
theorem acq(x:Rpp)(n:List UInt8):(rpC x).set 6 (sv n)=rpC {x with us:=n}:=rfl
theorem acr(d:PV)(x:Rpp):ag d ((rpC x).drop 7)=sv x.nm:=rfl
theorem acs(x:Rpp)(n:List UInt8):(rpC x).set 7 (sv n)=rpC {x with nm:=n}:=rfl
theorem acu(d:PV)(x:Rpp):ag d ((rpC x).drop 8) = .i x.ct:=rfl
theorem acv(x:Rpp)(n:Int):(rpC x).set 8 (.i n)=rpC {x with ct:=n}:=rfl
theorem acw(d:PV)(x:Rpp):ag d ((rpC x).drop 9) = .w x.pe:=rfl
theorem acx(x:Rpp)(n:UInt64):(rpC x).set 9 (.w n)=rpC {x with pe:=n}:=rfl
theorem acy(x:Rpp):(rpC x).set 9 (.p (.v (.int .u64 0)))=rpC {x with pe:=0}:=rfl
theorem Vo(d:PV)(x:Rpp):ag d ((rpC x).drop 10) = .p x.bx.pv:=rfl
theorem Vp(x:Rpp)(k n:Nat)(cs:List PV):(rpC x).set 10 (.p (.data k n cs))=rpC {x with bx := .d k n cs}:=rfl
theorem Vq(x:Rpp):(rpC x).set 10 (.p (.v (.slice none 0 0)))=rpC {x with bx := .nil}:=rfl
theorem Vr(x:Rpp)(s:SlP):(rpC x).set 10 (.p s.pv)=rpC {x with bx:=s}:=rfl
theorem Vs(d:PV)(x:Rpp):ag d ((rpC x).drop 11) = .w x.mo:=rfl
theorem Vu(x:Rpp)(n:UInt64):(rpC x).set 11 (.w n)=rpC {x with mo:=n}:=rfl
theorem Vv(x:Rpp):(rpC x).set 11 (.p (.v (.int .u64 0)))=rpC {x with mo:=0}:=rfl
theorem Vw(d:PV)(x:Rpp):ag d ((rpC x).drop 12) = .i x.rt:=rfl
theorem Vx(x:Rpp)(n:Int):(rpC x).set 12 (.i n)=rpC {x with rt:=n}:=rfl
theorem Vy(d:PV)(x:Rpp):ag d ((rpC x).drop 13) = .i x.rm:=rfl
theorem Vz(x:Rpp)(n:Int):(rpC x).set 13 (.i n)=rpC {x with rm:=n}:=rfl
theorem VA(d:PV)(x:Rpp):ag d ((rpC x).drop 14) = .i x.le:=rfl
theorem VB(x:Rpp)(n:Int):(rpC x).set 14 (.i n)=rpC {x with le:=n}:=rfl
theorem VC(d:PV)(x:Rpp):ag d ((rpC x).drop 15) = .b x.ps:=rfl
theorem VD(x:Rpp)(n:Bool):(rpC x).set 15 (.b n)=rpC {x with ps:=n}:=rfl
theorem VE(d:PV)(x:Rpp):ag d ((rpC x).drop 16) = .b x.fi:=rfl
theorem VF(x:Rpp)(n:Bool):(rpC x).set 16 (.b n)=rpC {x with fi:=n}:=rfl
theorem VG(d:PV)(x:Rpp):ag d ((rpC x).drop 17) = .p x.en.pv:=rfl
theorem VH(x:Rpp)(k n:Nat)(cs:List PV):(rpC x).set 17 (.p (.data k n cs))=rpC {x with en := .d k n cs}:=rfl
theorem VI(x:Rpp):(rpC x).set 17 (.p (.v (.slice none 0 0)))=rpC {x with en := .nil}:=rfl
theorem VJ(x:Rpp)(s:SlP):(rpC x).set 17 (.p s.pv)=rpC {x with en:=s}:=rfl
theorem rP(x:Rpp):∃cs:List PV,rpC x=cs.map .p:=⟨(rpC x).map unP,rfl⟩
theorem EZ(x:Rpp):iY (rpC x):=by
 obtain⟨cs,a⟩:=rP x;rw[a];intro c hc;exact agN
@[simp] theorem afe(T:List Nat)(x:Rpp):ak T (rpC x):=by obtain⟨cs,a⟩:=rP x;rw[a];exact aM T cs
theorem acz(i:Nat)(b:Blk)(x:Rpp):fJ i b (rpC x)=rpC x:=ej i b _ (EZ x)
theorem acA(i:Nat)(b:Blk)(x:Rpp):eU i b (rpC x):=dx i b _ (EZ x)
theorem acB(h:List (Nat×Option Blk))(x:Rpp):ik h (rpC x):=by obtain⟨cs,a⟩:=rP x;rw[a];exact fc h cs
theorem acD(h:List (Nat×Option Blk))(x:Rpp):fzL h (rpC x)=rpC x:=by obtain⟨cs,a⟩:=rP x;rw[a];exact fX h cs
theorem acE(h:bv)(S:List Nat)(σ:Nat->Nat)(x:Rpp):aj h S σ (rpC x) (rpC x):=by obtain⟨cs,a⟩:=rP x;rw[a];exact aL h S σ cs
theorem acF(τ:Nat->Nat)(x:Rpp):eu τ (rpC x)=rpC x:=by obtain⟨cs,a⟩:=rP x;rw[a];exact cT τ cs
theorem acG(x y:Rpp):bY (rpC x) 0 (rpC y)=rpC y:=dG (rpC y) (rpC x) [] rfl
theorem PY:pvs z138=rpC rp0:=rfl
attribute [go_sem] Vm PX Vn ab4 ab5 ab8 ab9 ab6 ab7 acd ace aca acb ach aci acf acg acj ack acn aco acl acm acp acq acr acs acu acv acw acx acy Vq Vr Vo Vp Vs Vu Vv Vw Vx Vy Vz VA VB VC VD VE VF VI VJ VG VH EZ acz acA acB acD acE acF acG PY
def wkC(x:Wkp):List AV:=[.w x.d.fac.mo,.w x.d.fac.se,.i x.d.fac.ps,.b x.d.fac.fi,.w x.d.fac.ase,.i x.d.fac.ah,.i x.d.fac.af,.i x.d.fac.ato,.p x.d.fac.ce.pv,.i x.d.v.ps,.p x.d.v.bs.pv,.i x.d.v.pg,.i x.d.v.gn,.i x.d.v.tl,.b x.d.v.tn,.p x.d.v.pr.pv,.b x.d.on,.i x.d.now,.i x.d.boo,.i x.d.dr,.i x.d.wr,.w x.d.tok.sec,.b x.d.tok.act,.w x.d.tok.val,.i x.d.tok.per,sv x.d.tok.rp,.i x.d.tok.sin,.b x.d.nx.act,.i x.d.nx.sin,.w x.d.nx.hsh,.i x.d.nx.flg,.p x.d.nx.ids.pv,.i x.r.kd,sv x.r.rp,sv x.r.us,sv x.r.nm,.w x.r.hs,.i x.r.hg,.i x.r.pt,.p x.r.ls.pv,.b x.r.rs,.b x.r.pr,.b x.r.ve,.b x.r.sh,.i x.r.fm,.w x.r.au,.b x.r.ha,.w x.r.pe,.p x.r.bx.pv,.p x.r.pf.pv,.i x.r.pm,.p x.r.id.pv,.i x.r.ct,.p x.g.pv,.i x.bu,.i x.rep.er,.p x.rep.ad.pv,.p x.rep.sg.pv,.p x.rep.ce.pv,.i x.rep.fm,.p x.rep.id.pv,sv x.rep.us,sv x.rep.nm,.i x.rep.ct,.w x.rep.pe,.p x.rep.bx.pv,.w x.rep.mo,.i x.rep.rt,.i x.rep.rm,.i x.rep.le,.b x.rep.ps,.b x.rep.fi,.p x.rep.en.pv,.i x.er]
theorem nM:∀(vs cs a b:List AV),cs.length=vs.length->bY (a++(cs++b)) a.length vs=a++(vs++b)
 |[],[],a,b,_=>by simp[bY]
 |[],c::cs,a,b,h=>by simp at h
 |v::vs,[],a,b,h=>by simp at h
 |v::vs,c::cs,a,b,h=>by
  rw[bY];have e:(a++(c::cs++b)).set a.length v=(a++[v])++(cs++b):=η;rw[e,show a.length+1=(a++[v]).length by simp,nM vs cs (a++[v]) b χ];simp
theorem rQ(x:Wkp):wkC x=dvC x.d++(rqC x.r++([.p x.g.pv,.i x.bu]++(rpC x.rep++[.i x.er]))):=rfl
theorem VK(x:Wkp):(wkC x).length=74:=rfl
theorem PZ(x:Wkp):(wkC x).take 74=wkC x:=rfl
theorem VL(x:Wkp):dI (wkC x)=true:=by simp only[wkC,dI,SlP.oneC,rX,rY,rZ,r4]
theorem acH(d:PV)(x:Wkp):ag d (wkC x) = .w x.d.fac.mo:=rfl
theorem acI(x:Wkp)(n:UInt64):(wkC x).set 0 (.w n)=wkC {x with d:={x.d with fac:={x.d.fac with mo:=n} } }:=rfl
theorem acJ(x:Wkp):(wkC x).set 0 (.p (.v (.int .u64 0)))=wkC {x with d:={x.d with fac:={x.d.fac with mo:=0} } }:=rfl
theorem acK(d:PV)(x:Wkp):ag d ((wkC x).drop 1) = .w x.d.fac.se:=rfl
theorem acL(x:Wkp)(n:UInt64):(wkC x).set 1 (.w n)=wkC {x with d:={x.d with fac:={x.d.fac with se:=n} } }:=rfl
theorem acM(x:Wkp):(wkC x).set 1 (.p (.v (.int .u64 0)))=wkC {x with d:={x.d with fac:={x.d.fac with se:=0} } }:=rfl
theorem acN(d:PV)(x:Wkp):ag d ((wkC x).drop 2) = .i x.d.fac.ps:=rfl
theorem acO(x:Wkp)(n:Int):(wkC x).set 2 (.i n)=wkC {x with d:={x.d with fac:={x.d.fac with ps:=n} } }:=rfl
theorem acQ(d:PV)(x:Wkp):ag d ((wkC x).drop 3) = .b x.d.fac.fi:=rfl
theorem acR(x:Wkp)(n:Bool):(wkC x).set 3 (.b n)=wkC {x with d:={x.d with fac:={x.d.fac with fi:=n} } }:=rfl
theorem acS(d:PV)(x:Wkp):ag d ((wkC x).drop 4) = .w x.d.fac.ase:=rfl
theorem acT(x:Wkp)(n:UInt64):(wkC x).set 4 (.w n)=wkC {x with d:={x.d with fac:={x.d.fac with ase:=n} } }:=rfl
theorem acU(x:Wkp):(wkC x).set 4 (.p (.v (.int .u64 0)))=wkC {x with d:={x.d with fac:={x.d.fac with ase:=0} } }:=rfl
theorem acV(d:PV)(x:Wkp):ag d ((wkC x).drop 5) = .i x.d.fac.ah:=rfl
theorem acW(x:Wkp)(n:Int):(wkC x).set 5 (.i n)=wkC {x with d:={x.d with fac:={x.d.fac with ah:=n} } }:=rfl
theorem acX(d:PV)(x:Wkp):ag d ((wkC x).drop 6) = .i x.d.fac.af:=rfl
theorem acY(x:Wkp)(n:Int):(wkC x).set 6 (.i n)=wkC {x with d:={x.d with fac:={x.d.fac with af:=n} } }:=rfl
theorem acZ(d:PV)(x:Wkp):ag d ((wkC x).drop 7) = .i x.d.fac.ato:=rfl
theorem ac1(x:Wkp)(n:Int):(wkC x).set 7 (.i n)=wkC {x with d:={x.d with fac:={x.d.fac with ato:=n} } }:=rfl
theorem ac2(d:PV)(x:Wkp):ag d ((wkC x).drop 8) = .p x.d.fac.ce.pv:=rfl
theorem ac3(x:Wkp)(k n:Nat)(cs:List PV):(wkC x).set 8 (.p (.data k n cs))=wkC {x with d:={x.d with fac:={x.d.fac with ce := .d k n cs} } }:=rfl
theorem ac4(x:Wkp):(wkC x).set 8 (.p (.v (.slice none 0 0)))=wkC {x with d:={x.d with fac:={x.d.fac with ce := .nil} } }:=rfl
theorem ac5(x:Wkp)(s:SlP):(wkC x).set 8 (.p s.pv)=wkC {x with d:={x.d with fac:={x.d.fac with ce:=s} } }:=rfl
theorem ac6(d:PV)(x:Wkp):ag d ((wkC x).drop 9) = .i x.d.v.ps:=rfl
theorem ac7(x:Wkp)(n:Int):(wkC x).set 9 (.i n)=wkC {x with d:={x.d with v:={x.d.v with ps:=n} } }:=rfl
theorem VM(d:PV)(x:Wkp):ag d ((wkC x).drop 10) = .p x.d.v.bs.pv:=rfl
theorem VN(x:Wkp)(k n:Nat)(cs:List PV):(wkC x).set 10 (.p (.data k n cs))=wkC {x with d:={x.d with v:={x.d.v with bs := .d k n cs} } }:=rfl
theorem VO(x:Wkp):(wkC x).set 10 (.p (.v (.slice none 0 0)))=wkC {x with d:={x.d with v:={x.d.v with bs := .nil} } }:=rfl
theorem VP(x:Wkp)(s:SlP):(wkC x).set 10 (.p s.pv)=wkC {x with d:={x.d with v:={x.d.v with bs:=s} } }:=rfl
theorem VQ(d:PV)(x:Wkp):ag d ((wkC x).drop 11) = .i x.d.v.pg:=rfl
theorem VS(x:Wkp)(n:Int):(wkC x).set 11 (.i n)=wkC {x with d:={x.d with v:={x.d.v with pg:=n} } }:=rfl
theorem VT(d:PV)(x:Wkp):ag d ((wkC x).drop 12) = .i x.d.v.gn:=rfl
theorem VU(x:Wkp)(n:Int):(wkC x).set 12 (.i n)=wkC {x with d:={x.d with v:={x.d.v with gn:=n} } }:=rfl
theorem VV(d:PV)(x:Wkp):ag d ((wkC x).drop 13) = .i x.d.v.tl:=rfl
theorem VW(x:Wkp)(n:Int):(wkC x).set 13 (.i n)=wkC {x with d:={x.d with v:={x.d.v with tl:=n} } }:=rfl
theorem VX(d:PV)(x:Wkp):ag d ((wkC x).drop 14) = .b x.d.v.tn:=rfl
theorem VY(x:Wkp)(n:Bool):(wkC x).set 14 (.b n)=wkC {x with d:={x.d with v:={x.d.v with tn:=n} } }:=rfl
theorem VZ(d:PV)(x:Wkp):ag d ((wkC x).drop 15) = .p x.d.v.pr.pv:=rfl
theorem V0(x:Wkp)(k n:Nat)(cs:List PV):(wkC x).set 15 (.p (.data k n cs))=wkC {x with d:={x.d with v:={x.d.v with pr := .d k n cs} } }:=rfl
theorem V1(x:Wkp):(wkC x).set 15 (.p (.v (.slice none 0 0)))=wkC {x with d:={x.d with v:={x.d.v with pr := .nil} } }:=rfl
theorem V2(x:Wkp)(s:SlP):(wkC x).set 15 (.p s.pv)=wkC {x with d:={x.d with v:={x.d.v with pr:=s} } }:=rfl
theorem V3(d:PV)(x:Wkp):ag d ((wkC x).drop 16) = .b x.d.on:=rfl
theorem V5(x:Wkp)(n:Bool):(wkC x).set 16 (.b n)=wkC {x with d:={x.d with on:=n} }:=rfl
theorem V6(d:PV)(x:Wkp):ag d ((wkC x).drop 17) = .i x.d.now:=rfl
theorem V7(x:Wkp)(n:Int):(wkC x).set 17 (.i n)=wkC {x with d:={x.d with now:=n} }:=rfl
theorem V8(d:PV)(x:Wkp):ag d ((wkC x).drop 18) = .i x.d.boo:=rfl
theorem V9(x:Wkp)(n:Int):(wkC x).set 18 (.i n)=wkC {x with d:={x.d with boo:=n} }:=rfl
theorem Wa(d:PV)(x:Wkp):ag d ((wkC x).drop 19) = .i x.d.dr:=rfl
theorem Wb(x:Wkp)(n:Int):(wkC x).set 19 (.i n)=wkC {x with d:={x.d with dr:=n} }:=rfl
theorem Wc(d:PV)(x:Wkp):ag d ((wkC x).drop 20) = .i x.d.wr:=rfl
theorem Wd(x:Wkp)(n:Int):(wkC x).set 20 (.i n)=wkC {x with d:={x.d with wr:=n} }:=rfl
theorem We(d:PV)(x:Wkp):ag d ((wkC x).drop 21) = .w x.d.tok.sec:=rfl
theorem Wf(x:Wkp)(n:UInt64):(wkC x).set 21 (.w n)=wkC {x with d:={x.d with tok:={x.d.tok with sec:=n} } }:=rfl
theorem Wg(x:Wkp):(wkC x).set 21 (.p (.v (.int .u64 0)))=wkC {x with d:={x.d with tok:={x.d.tok with sec:=0} } }:=rfl
theorem Wh(d:PV)(x:Wkp):ag d ((wkC x).drop 22) = .b x.d.tok.act:=rfl
theorem Wi(x:Wkp)(n:Bool):(wkC x).set 22 (.b n)=wkC {x with d:={x.d with tok:={x.d.tok with act:=n} } }:=rfl
theorem Wj(d:PV)(x:Wkp):ag d ((wkC x).drop 23) = .w x.d.tok.val:=rfl
theorem Wl(x:Wkp)(n:UInt64):(wkC x).set 23 (.w n)=wkC {x with d:={x.d with tok:={x.d.tok with val:=n} } }:=rfl
theorem Wm(x:Wkp):(wkC x).set 23 (.p (.v (.int .u64 0)))=wkC {x with d:={x.d with tok:={x.d.tok with val:=0} } }:=rfl
theorem Wn(d:PV)(x:Wkp):ag d ((wkC x).drop 24) = .i x.d.tok.per:=rfl
theorem Wo(x:Wkp)(n:Int):(wkC x).set 24 (.i n)=wkC {x with d:={x.d with tok:={x.d.tok with per:=n} } }:=rfl
theorem Wp(d:PV)(x:Wkp):ag d ((wkC x).drop 25)=sv x.d.tok.rp:=rfl
theorem Wq(x:Wkp)(n:List UInt8):(wkC x).set 25 (sv n)=wkC {x with d:={x.d with tok:={x.d.tok with rp:=n} } }:=rfl
theorem Wr(d:PV)(x:Wkp):ag d ((wkC x).drop 26) = .i x.d.tok.sin:=rfl
theorem Ws(x:Wkp)(n:Int):(wkC x).set 26 (.i n)=wkC {x with d:={x.d with tok:={x.d.tok with sin:=n} } }:=rfl
theorem Wt(d:PV)(x:Wkp):ag d ((wkC x).drop 27) = .b x.d.nx.act:=rfl
theorem Wu(x:Wkp)(n:Bool):(wkC x).set 27 (.b n)=wkC {x with d:={x.d with nx:={x.d.nx with act:=n} } }:=rfl
theorem Wv(d:PV)(x:Wkp):ag d ((wkC x).drop 28) = .i x.d.nx.sin:=rfl
theorem Ww(x:Wkp)(n:Int):(wkC x).set 28 (.i n)=wkC {x with d:={x.d with nx:={x.d.nx with sin:=n} } }:=rfl
theorem Wx(d:PV)(x:Wkp):ag d ((wkC x).drop 29) = .w x.d.nx.hsh:=rfl
theorem Wy(x:Wkp)(n:UInt64):(wkC x).set 29 (.w n)=wkC {x with d:={x.d with nx:={x.d.nx with hsh:=n} } }:=rfl
theorem Wz(x:Wkp):(wkC x).set 29 (.p (.v (.int .u64 0)))=wkC {x with d:={x.d with nx:={x.d.nx with hsh:=0} } }:=rfl
theorem WA(d:PV)(x:Wkp):ag d ((wkC x).drop 30) = .i x.d.nx.flg:=rfl
theorem WB(x:Wkp)(n:Int):(wkC x).set 30 (.i n)=wkC {x with d:={x.d with nx:={x.d.nx with flg:=n} } }:=rfl
theorem WC(d:PV)(x:Wkp):ag d ((wkC x).drop 31) = .p x.d.nx.ids.pv:=rfl
theorem WD(x:Wkp)(k n:Nat)(cs:List PV):(wkC x).set 31 (.p (.data k n cs))=wkC {x with d:={x.d with nx:={x.d.nx with ids := .d k n cs} } }:=rfl
theorem WE(x:Wkp):(wkC x).set 31 (.p (.v (.slice none 0 0)))=wkC {x with d:={x.d with nx:={x.d.nx with ids := .nil} } }:=rfl
theorem WF(x:Wkp)(s:SlP):(wkC x).set 31 (.p s.pv)=wkC {x with d:={x.d with nx:={x.d.nx with ids:=s} } }:=rfl
theorem WG(d:PV)(x:Wkp):ag d ((wkC x).drop 32) = .i x.r.kd:=rfl
theorem WH(x:Wkp)(n:Int):(wkC x).set 32 (.i n)=wkC {x with r:={x.r with kd:=n} }:=rfl
theorem WI(d:PV)(x:Wkp):ag d ((wkC x).drop 33)=sv x.r.rp:=rfl
theorem WJ(x:Wkp)(n:List UInt8):(wkC x).set 33 (sv n)=wkC {x with r:={x.r with rp:=n} }:=rfl
theorem WK(d:PV)(x:Wkp):ag d ((wkC x).drop 34)=sv x.r.us:=rfl
theorem WL(x:Wkp)(n:List UInt8):(wkC x).set 34 (sv n)=wkC {x with r:={x.r with us:=n} }:=rfl
theorem WM(d:PV)(x:Wkp):ag d ((wkC x).drop 35)=sv x.r.nm:=rfl
theorem WN(x:Wkp)(n:List UInt8):(wkC x).set 35 (sv n)=wkC {x with r:={x.r with nm:=n} }:=rfl
theorem WO(d:PV)(x:Wkp):ag d ((wkC x).drop 36) = .w x.r.hs:=rfl
theorem WP(x:Wkp)(n:UInt64):(wkC x).set 36 (.w n)=wkC {x with r:={x.r with hs:=n} }:=rfl
theorem WQ(x:Wkp):(wkC x).set 36 (.p (.v (.int .u64 0)))=wkC {x with r:={x.r with hs:=0} }:=rfl
theorem WS(d:PV)(x:Wkp):ag d ((wkC x).drop 37) = .i x.r.hg:=rfl
theorem WT(x:Wkp)(n:Int):(wkC x).set 37 (.i n)=wkC {x with r:={x.r with hg:=n} }:=rfl
theorem WU(d:PV)(x:Wkp):ag d ((wkC x).drop 38) = .i x.r.pt:=rfl
theorem WV(x:Wkp)(n:Int):(wkC x).set 38 (.i n)=wkC {x with r:={x.r with pt:=n} }:=rfl
theorem WW(d:PV)(x:Wkp):ag d ((wkC x).drop 39) = .p x.r.ls.pv:=rfl
theorem WX(x:Wkp)(k n:Nat)(cs:List PV):(wkC x).set 39 (.p (.data k n cs))=wkC {x with r:={x.r with ls := .d k n cs} }:=rfl
theorem WY(x:Wkp):(wkC x).set 39 (.p (.v (.slice none 0 0)))=wkC {x with r:={x.r with ls := .nil} }:=rfl
theorem WZ(x:Wkp)(s:SlP):(wkC x).set 39 (.p s.pv)=wkC {x with r:={x.r with ls:=s} }:=rfl
theorem W0(d:PV)(x:Wkp):ag d ((wkC x).drop 40) = .b x.r.rs:=rfl
theorem W1(x:Wkp)(n:Bool):(wkC x).set 40 (.b n)=wkC {x with r:={x.r with rs:=n} }:=rfl
theorem W2(d:PV)(x:Wkp):ag d ((wkC x).drop 41) = .b x.r.pr:=rfl
theorem W3(x:Wkp)(n:Bool):(wkC x).set 41 (.b n)=wkC {x with r:={x.r with pr:=n} }:=rfl
theorem W4(d:PV)(x:Wkp):ag d ((wkC x).drop 42) = .b x.r.ve:=rfl
theorem W5(x:Wkp)(n:Bool):(wkC x).set 42 (.b n)=wkC {x with r:={x.r with ve:=n} }:=rfl
theorem W6(d:PV)(x:Wkp):ag d ((wkC x).drop 43) = .b x.r.sh:=rfl
theorem W7(x:Wkp)(n:Bool):(wkC x).set 43 (.b n)=wkC {x with r:={x.r with sh:=n} }:=rfl
theorem W8(d:PV)(x:Wkp):ag d ((wkC x).drop 44) = .i x.r.fm:=rfl
theorem W9(x:Wkp)(n:Int):(wkC x).set 44 (.i n)=wkC {x with r:={x.r with fm:=n} }:=rfl
theorem Xa(d:PV)(x:Wkp):ag d ((wkC x).drop 45) = .w x.r.au:=rfl
theorem Xb(x:Wkp)(n:UInt64):(wkC x).set 45 (.w n)=wkC {x with r:={x.r with au:=n} }:=rfl
theorem Xc(x:Wkp):(wkC x).set 45 (.p (.v (.int .u64 0)))=wkC {x with r:={x.r with au:=0} }:=rfl
theorem Xd(d:PV)(x:Wkp):ag d ((wkC x).drop 46) = .b x.r.ha:=rfl
theorem Xe(x:Wkp)(n:Bool):(wkC x).set 46 (.b n)=wkC {x with r:={x.r with ha:=n} }:=rfl
theorem Xf(d:PV)(x:Wkp):ag d ((wkC x).drop 47) = .w x.r.pe:=rfl
theorem Xg(x:Wkp)(n:UInt64):(wkC x).set 47 (.w n)=wkC {x with r:={x.r with pe:=n} }:=rfl
theorem Xh(x:Wkp):(wkC x).set 47 (.p (.v (.int .u64 0)))=wkC {x with r:={x.r with pe:=0} }:=rfl
theorem Xi(d:PV)(x:Wkp):ag d ((wkC x).drop 48) = .p x.r.bx.pv:=rfl
theorem Xj(x:Wkp)(k n:Nat)(cs:List PV):(wkC x).set 48 (.p (.data k n cs))=wkC {x with r:={x.r with bx := .d k n cs} }:=rfl
theorem Xk(x:Wkp):(wkC x).set 48 (.p (.v (.slice none 0 0)))=wkC {x with r:={x.r with bx := .nil} }:=rfl
theorem Xl(x:Wkp)(s:SlP):(wkC x).set 48 (.p s.pv)=wkC {x with r:={x.r with bx:=s} }:=rfl
theorem Xm(d:PV)(x:Wkp):ag d ((wkC x).drop 49) = .p x.r.pf.pv:=rfl
theorem Xn(x:Wkp)(k n:Nat)(cs:List PV):(wkC x).set 49 (.p (.data k n cs))=wkC {x with r:={x.r with pf := .d k n cs} }:=rfl
theorem Xo(x:Wkp):(wkC x).set 49 (.p (.v (.slice none 0 0)))=wkC {x with r:={x.r with pf := .nil} }:=rfl
theorem Xp(x:Wkp)(s:SlP):(wkC x).set 49 (.p s.pv)=wkC {x with r:={x.r with pf:=s} }:=rfl
theorem Xq(d:PV)(x:Wkp):ag d ((wkC x).drop 50) = .i x.r.pm:=rfl
theorem Xr(x:Wkp)(n:Int):(wkC x).set 50 (.i n)=wkC {x with r:={x.r with pm:=n} }:=rfl
theorem Xs(d:PV)(x:Wkp):ag d ((wkC x).drop 51) = .p x.r.id.pv:=rfl
theorem Xt(x:Wkp)(k n:Nat)(cs:List PV):(wkC x).set 51 (.p (.data k n cs))=wkC {x with r:={x.r with id := .d k n cs} }:=rfl
theorem Xu(x:Wkp):(wkC x).set 51 (.p (.v (.slice none 0 0)))=wkC {x with r:={x.r with id := .nil} }:=rfl
theorem Xv(x:Wkp)(s:SlP):(wkC x).set 51 (.p s.pv)=wkC {x with r:={x.r with id:=s} }:=rfl
theorem Xw(d:PV)(x:Wkp):ag d ((wkC x).drop 52) = .i x.r.ct:=rfl
theorem Xx(x:Wkp)(n:Int):(wkC x).set 52 (.i n)=wkC {x with r:={x.r with ct:=n} }:=rfl
theorem Xy(d:PV)(x:Wkp):ag d ((wkC x).drop 53) = .p x.g.pv:=rfl
theorem Xz(x:Wkp)(k n:Nat)(cs:List PV):(wkC x).set 53 (.p (.data k n cs))=wkC {x with g := .d k n cs}:=rfl
theorem XA(x:Wkp):(wkC x).set 53 (.p (.v (.slice none 0 0)))=wkC {x with g := .nil}:=rfl
theorem XB(x:Wkp)(s:SlP):(wkC x).set 53 (.p s.pv)=wkC {x with g:=s}:=rfl
theorem XC(d:PV)(x:Wkp):ag d ((wkC x).drop 54) = .i x.bu:=rfl
theorem XD(x:Wkp)(n:Int):(wkC x).set 54 (.i n)=wkC {x with bu:=n}:=rfl
theorem XE(d:PV)(x:Wkp):ag d ((wkC x).drop 55) = .i x.rep.er:=rfl
theorem XF(x:Wkp)(n:Int):(wkC x).set 55 (.i n)=wkC {x with rep:={x.rep with er:=n} }:=rfl
theorem XG(d:PV)(x:Wkp):ag d ((wkC x).drop 56) = .p x.rep.ad.pv:=rfl
theorem XH(x:Wkp)(k n:Nat)(cs:List PV):(wkC x).set 56 (.p (.data k n cs))=wkC {x with rep:={x.rep with ad := .d k n cs} }:=rfl
theorem XI(x:Wkp):(wkC x).set 56 (.p (.v (.slice none 0 0)))=wkC {x with rep:={x.rep with ad := .nil} }:=rfl
theorem XJ(x:Wkp)(s:SlP):(wkC x).set 56 (.p s.pv)=wkC {x with rep:={x.rep with ad:=s} }:=rfl
theorem XL(d:PV)(x:Wkp):ag d ((wkC x).drop 57) = .p x.rep.sg.pv:=rfl
theorem XM(x:Wkp)(k n:Nat)(cs:List PV):(wkC x).set 57 (.p (.data k n cs))=wkC {x with rep:={x.rep with sg := .d k n cs} }:=rfl
theorem XN(x:Wkp):(wkC x).set 57 (.p (.v (.slice none 0 0)))=wkC {x with rep:={x.rep with sg := .nil} }:=rfl
theorem XO(x:Wkp)(s:SlP):(wkC x).set 57 (.p s.pv)=wkC {x with rep:={x.rep with sg:=s} }:=rfl
theorem XP(d:PV)(x:Wkp):ag d ((wkC x).drop 58) = .p x.rep.ce.pv:=rfl
theorem XQ(x:Wkp)(k n:Nat)(cs:List PV):(wkC x).set 58 (.p (.data k n cs))=wkC {x with rep:={x.rep with ce := .d k n cs} }:=rfl
theorem MF(x:Wkp):(wkC x).set 58 (.p (.v (.slice none 0 0)))=wkC {x with rep:={x.rep with ce := .nil} }:=rfl
theorem XR(x:Wkp)(s:SlP):(wkC x).set 58 (.p s.pv)=wkC {x with rep:={x.rep with ce:=s} }:=rfl
theorem XS(d:PV)(x:Wkp):ag d ((wkC x).drop 59) = .i x.rep.fm:=rfl
theorem XT(x:Wkp)(n:Int):(wkC x).set 59 (.i n)=wkC {x with rep:={x.rep with fm:=n} }:=rfl
theorem XU(d:PV)(x:Wkp):ag d ((wkC x).drop 60) = .p x.rep.id.pv:=rfl
theorem XV(x:Wkp)(k n:Nat)(cs:List PV):(wkC x).set 60 (.p (.data k n cs))=wkC {x with rep:={x.rep with id := .d k n cs} }:=rfl
theorem XX(x:Wkp):(wkC x).set 60 (.p (.v (.slice none 0 0)))=wkC {x with rep:={x.rep with id := .nil} }:=rfl
theorem XY(x:Wkp)(s:SlP):(wkC x).set 60 (.p s.pv)=wkC {x with rep:={x.rep with id:=s} }:=rfl
theorem XZ(d:PV)(x:Wkp):ag d ((wkC x).drop 61)=sv x.rep.us:=rfl
theorem X0(x:Wkp)(n:List UInt8):(wkC x).set 61 (sv n)=wkC {x with rep:={x.rep with us:=n} }:=rfl
theorem X1(d:PV)(x:Wkp):ag d ((wkC x).drop 62)=sv x.rep.nm:=rfl
theorem X2(x:Wkp)(n:List UInt8):(wkC x).set 62 (sv n)=wkC {x with rep:={x.rep with nm:=n} }:=rfl
theorem X3(d:PV)(x:Wkp):ag d ((wkC x).drop 63) = .i x.rep.ct:=rfl
theorem X4(x:Wkp)(n:Int):(wkC x).set 63 (.i n)=wkC {x with rep:={x.rep with ct:=n} }:=rfl
theorem X5(d:PV)(x:Wkp):ag d ((wkC x).drop 64) = .w x.rep.pe:=rfl
theorem X6(x:Wkp)(n:UInt64):(wkC x).set 64 (.w n)=wkC {x with rep:={x.rep with pe:=n} }:=rfl
theorem X7(x:Wkp):(wkC x).set 64 (.p (.v (.int .u64 0)))=wkC {x with rep:={x.rep with pe:=0} }:=rfl
theorem X8(d:PV)(x:Wkp):ag d ((wkC x).drop 65) = .p x.rep.bx.pv:=rfl
theorem X9(x:Wkp)(k n:Nat)(cs:List PV):(wkC x).set 65 (.p (.data k n cs))=wkC {x with rep:={x.rep with bx := .d k n cs} }:=rfl
theorem Ya(x:Wkp):(wkC x).set 65 (.p (.v (.slice none 0 0)))=wkC {x with rep:={x.rep with bx := .nil} }:=rfl
theorem Yb(x:Wkp)(s:SlP):(wkC x).set 65 (.p s.pv)=wkC {x with rep:={x.rep with bx:=s} }:=rfl
theorem Yc(d:PV)(x:Wkp):ag d ((wkC x).drop 66) = .w x.rep.mo:=rfl
theorem Yd(x:Wkp)(n:UInt64):(wkC x).set 66 (.w n)=wkC {x with rep:={x.rep with mo:=n} }:=rfl
theorem Ye(x:Wkp):(wkC x).set 66 (.p (.v (.int .u64 0)))=wkC {x with rep:={x.rep with mo:=0} }:=rfl
theorem Yf(d:PV)(x:Wkp):ag d ((wkC x).drop 67) = .i x.rep.rt:=rfl
theorem Yg(x:Wkp)(n:Int):(wkC x).set 67 (.i n)=wkC {x with rep:={x.rep with rt:=n} }:=rfl
theorem Yh(d:PV)(x:Wkp):ag d ((wkC x).drop 68) = .i x.rep.rm:=rfl
theorem Yi(x:Wkp)(n:Int):(wkC x).set 68 (.i n)=wkC {x with rep:={x.rep with rm:=n} }:=rfl
theorem Yj(d:PV)(x:Wkp):ag d ((wkC x).drop 69) = .i x.rep.le:=rfl
theorem Yk(x:Wkp)(n:Int):(wkC x).set 69 (.i n)=wkC {x with rep:={x.rep with le:=n} }:=rfl
theorem Yl(d:PV)(x:Wkp):ag d ((wkC x).drop 70) = .b x.rep.ps:=rfl
theorem Ym(x:Wkp)(n:Bool):(wkC x).set 70 (.b n)=wkC {x with rep:={x.rep with ps:=n} }:=rfl
theorem Yn(d:PV)(x:Wkp):ag d ((wkC x).drop 71) = .b x.rep.fi:=rfl
theorem Yo(x:Wkp)(n:Bool):(wkC x).set 71 (.b n)=wkC {x with rep:={x.rep with fi:=n} }:=rfl
theorem Yp(d:PV)(x:Wkp):ag d ((wkC x).drop 72) = .p x.rep.en.pv:=rfl
theorem Yq(x:Wkp)(k n:Nat)(cs:List PV):(wkC x).set 72 (.p (.data k n cs))=wkC {x with rep:={x.rep with en := .d k n cs} }:=rfl
theorem MG(x:Wkp):(wkC x).set 72 (.p (.v (.slice none 0 0)))=wkC {x with rep:={x.rep with en := .nil} }:=rfl
theorem Yr(x:Wkp)(s:SlP):(wkC x).set 72 (.p s.pv)=wkC {x with rep:={x.rep with en:=s} }:=rfl
theorem Ys(d:PV)(x:Wkp):ag d ((wkC x).drop 73) = .i x.er:=rfl
theorem Yt(x:Wkp)(n:Int):(wkC x).set 73 (.i n)=wkC {x with er:=n}:=rfl
theorem MH(x:Wkp):(wkC x).take 32=dvC x.d:=rfl
theorem MI(x:Wkp)(y:Dvp):bY (wkC x) 0 (dvC y)=wkC {x with d:=y}:=by rw[rQ,rQ];exact nM (dvC y) (dvC x.d) [] _ rfl
theorem P0(x:Wkp):(wkC x).take 9=[.w x.d.fac.mo,.w x.d.fac.se,.i x.d.fac.ps,.b x.d.fac.fi,.w x.d.fac.ase,.i x.d.fac.ah,.i x.d.fac.af,.i x.d.fac.ato,.p x.d.fac.ce.pv]:=rfl
theorem P1(x:Wkp):((wkC x).drop 9).take 7=[.i x.d.v.ps,.p x.d.v.bs.pv,.i x.d.v.pg,.i x.d.v.gn,.i x.d.v.tl,.b x.d.v.tn,.p x.d.v.pr.pv]:=rfl
theorem MJ(x:Wkp):((wkC x).drop 21).take 6=[.w x.d.tok.sec,.b x.d.tok.act,.w x.d.tok.val,.i x.d.tok.per,sv x.d.tok.rp,.i x.d.tok.sin]:=rfl
theorem MK(x:Wkp):((wkC x).drop 27).take 5=[.b x.d.nx.act,.i x.d.nx.sin,.w x.d.nx.hsh,.i x.d.nx.flg,.p x.d.nx.ids.pv]:=rfl
theorem IR(x:Wkp):((wkC x).drop 32).take 21=rqC x.r:=rfl
theorem IS(x:Wkp)(y:Rqp):bY (wkC x) 32 (rqC y)=wkC {x with r:=y}:=by rw[rQ,rQ];exact nM (rqC y) (rqC x.r) (dvC x.d) _ rfl
theorem IU(x:Wkp):((wkC x).drop 55).take 18=rpC x.rep:=rfl
theorem IV(x:Wkp)(y:Rpp):bY (wkC x) 55 (rpC y)=wkC {x with rep:=y}:=by
 have h:(dvC x.d++(rqC x.r++[AV.p x.g.pv,AV.i x.bu])).length=55:=by rw[c9,c9,Nf,ME];rfl
 have:=nM (rpC y) (rpC x.rep) (dvC x.d++(rqC x.r++[.p x.g.pv,.i x.bu])) [.i x.er] rfl;rw[h] at this;exact this
theorem o6(x:Wkp):∃cs:List PV,wkC x=cs.map .p:=⟨(wkC x).map unP,rfl⟩
theorem E1(x:Wkp):iY (wkC x):=by
 obtain⟨cs,a⟩:=o6 x;rw[a];intro c hc;exact agN
@[simp] theorem aff(T:List Nat)(x:Wkp):ak T (wkC x):=by obtain⟨cs,a⟩:=o6 x;rw[a];exact aM T cs
theorem ac8(i:Nat)(b:Blk)(x:Wkp):fJ i b (wkC x)=wkC x:=ej i b _ (E1 x)
theorem GK(i:Nat)(b:Blk)(x:Wkp):eU i b (wkC x):=dx i b _ (E1 x)
theorem ac9(h:List (Nat×Option Blk))(x:Wkp):ik h (wkC x):=by obtain⟨cs,a⟩:=o6 x;rw[a];exact fc h cs
theorem ada(h:List (Nat×Option Blk))(x:Wkp):fzL h (wkC x)=wkC x:=by obtain⟨cs,a⟩:=o6 x;rw[a];exact fX h cs
theorem l7(h:bv)(S:List Nat)(σ:Nat->Nat)(x:Wkp):aj h S σ (wkC x) (wkC x):=by obtain⟨cs,a⟩:=o6 x;rw[a];exact aL h S σ cs
theorem ML(τ:Nat->Nat)(x:Wkp):eu τ (wkC x)=wkC x:=by obtain⟨cs,a⟩:=o6 x;rw[a];exact cT τ cs
theorem adb(x y:Wkp):bY (wkC x) 0 (wkC y)=wkC y:=dG (wkC y) (wkC x) [] rfl
theorem P2:pvs QH=wkC wk0:=rfl
attribute [go_sem] VK PZ VL acH acI acJ acK acL acM acN acO acQ acR acS acT acU acV acW acX acY acZ ac1 ac4 ac5 ac2 ac3 ac6 ac7 VO VP VM VN VQ VS VT VU VV VW VX VY V1 V2 VZ V0 V3 V5 V6 V7 V8 V9 Wa Wb Wc Wd We Wf Wg Wh Wi Wj Wl Wm Wn Wo Wp Wq Wr Ws Wt Wu Wv Ww Wx Wy Wz WA WB WE WF WC WD WG WH WI WJ WK WL WM WN WO WP WQ WS WT WU WV WY WZ WW WX W0 W1 W2 W3 W4 W5 W6 W7 W8 W9 Xa Xb Xc Xd Xe Xf Xg Xh Xk Xl Xi Xj Xo Xp Xm Xn Xq Xr Xu Xv Xs Xt Xw Xx XA XB Xy Xz XC XD XE XF XI XJ XG XH XN XO XL XM MF XR XP XQ XS XT XX XY XU XV XZ X0 X1 X2 X3 X4 X5 X6 X7 Ya Yb X8 X9 Yc Yd Ye Yf Yg Yh Yi Yj Yk Yl Ym Yn Yo MG Yr Yp Yq Ys Yt MH MI P0 P1 MJ MK IR IS IU IV E1 ac8 GK ac9 ada l7 ML adb P2
structure RqM where
 kd:Int
 rp:List UInt8
 us:List UInt8
 nm:List UInt8
 hs:UInt64
 hg:Int
 pt:Int
 ls:List (List UInt8)
 rs:Bool
 pr:Bool
 ve:Bool
 sh:Bool
 fm:Int
 au:UInt64
 ha:Bool
 pe:UInt64
 bx:List UInt8
 pf:List UInt8
 pm:Int
 id:List UInt8
 ct:Int
def rqP(r:RqM):Rqp:=⟨r.kd,r.rp,r.us,r.nm,r.hs,r.hg,r.pt,.d 1 r.ls.length (r.ls.map byP),r.rs,r.pr,r.ve,r.sh,r.fm,r.au,r.ha,r.pe,.d 1 r.bx.length (r.bx.map bt),.d 1 r.pf.length (r.pf.map bt),r.pm,.d 1 r.id.length (r.id.map bt),r.ct⟩
section
variable (r : RqM)
theorem adc:(rqP r).kd=r.kd:=rfl
theorem ade:(rqP r).rp=r.rp:=rfl
theorem adf:(rqP r).us=r.us:=rfl
theorem adg:(rqP r).nm=r.nm:=rfl
theorem adh:(rqP r).hs=r.hs:=rfl
theorem adi:(rqP r).hg=r.hg:=rfl
theorem adj:(rqP r).pt=r.pt:=rfl
theorem adk:(rqP r).ls.pv = .data 1 r.ls.length (r.ls.map byP):=rfl
theorem adl:(rqP r).rs=r.rs:=rfl
theorem adm:(rqP r).pr=r.pr:=rfl
theorem adn:(rqP r).ve=r.ve:=rfl
theorem ado:(rqP r).sh=r.sh:=rfl
theorem adp:(rqP r).fm=r.fm:=rfl
theorem adq:(rqP r).au=r.au:=rfl
theorem adr:(rqP r).ha=r.ha:=rfl
theorem ads:(rqP r).pe=r.pe:=rfl
theorem adt:(rqP r).bx.pv = .data 1 r.bx.length (r.bx.map bt):=rfl
theorem adu:(rqP r).pf.pv = .data 1 r.pf.length (r.pf.map bt):=rfl
theorem adv:(rqP r).pm=r.pm:=rfl
theorem adw:(rqP r).id.pv = .data 1 r.id.length (r.id.map bt):=rfl
theorem adx:(rqP r).ct=r.ct:=rfl
end
attribute [go_sem] adc ade adf adg adh adi adj adk adl adm adn ado adp adq adr ads adt adu adv adw adx
abbrev rqA(r:RqM):AV := .agg (rqC (rqP r))
def gsP(l:List (Int×Int)):List PV:=l.flatMap fun g=>[.v (.int .i64 g.1),.v (.int .i64 g.2)]
abbrev gsA(l:List (Int×Int)):AV := .p (.data 2 l.length (gsP l))

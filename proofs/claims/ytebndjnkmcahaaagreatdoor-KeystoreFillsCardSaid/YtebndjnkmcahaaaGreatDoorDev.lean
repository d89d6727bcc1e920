/- Devices as opaque records of cells. Written by gen_rec.py. Own work; no statement of the seat is proved here. -/
import Derived.Test.YtebndjnkmcahaaaGreatDoorStr
namespace Go.Proofs.YtebndjnkmcahaaaGreatDoor
set_option linter.unusedSimpArgs false
set_option linter.unusedVariables false
open Go Go.Abs Go.RowKit
theorem kQ (h:List (Nat×Option Blk)):∀cs:List PV,i7 h (cs.map .p)
 | []=>trivial
 | c::cs=>⟨by cases c<;>trivial,kQ h cs⟩
theorem mA (h:List (Nat×Option Blk)):∀cs:List PV,fzL h (cs.map .p)=cs.map .p
 | []=>rfl
 | c::cs=>by simp only [List.map_cons,fzL,mA h cs];cases c<;>rfl
theorem kR:∀(vs cs pre:List AV),cs.length=vs.length→cA (pre++cs) pre.length vs=pre++vs
 | [],[],pre,_=>by simp [cA]
 | [],c::cs,pre,h=>by simp at h
 | v::vs,[],pre,h=>by simp at h
 | v::vs,c::cs,pre,h=>by
  rw [cA]
  have e:(pre++c::cs).set pre.length v=(pre++[v])++cs:=by simp
  rw [e,show pre.length+1=(pre++[v]).length by simp,kR vs cs (pre++[v]) (by simpa using h)]
  simp
inductive SlP where
 | nil
 | d (k n:Nat) (cs:List PV)
def SlP.pv:SlP→PV
 | .nil => .v (.slice none 0 0)
 | .d k n cs => .data k n cs
theorem SlP.one (s:SlP):DS s.pv=true:=by cases s<;>rfl
theorem SlP.oneC (s:SlP):oneC (.p s.pv)=true:=by cases s<;>rfl
theorem Gu (n:Int):oneC (.i n)=true:=rfl
theorem Gv (n:UInt64):oneC (.w n)=true:=rfl
theorem Gw (n:Bool):oneC (.b n)=true:=rfl
theorem Gx (n:List UInt8):oneC (sv n)=true:=rfl
attribute [go_sem] SlP.pv.eq_1 SlP.pv.eq_2 SlP.one SlP.oneC
structure Fac where
 mo:UInt64
 se:UInt64
 ps:Int
 fi:Bool
 ase:UInt64
 ah:Int
 af:Int
 ato:Int
 ce:SlP
structure Vtp where
 ps:Int
 bs:SlP
 pg:Int
 gn:Int
 tl:Int
 tn:Bool
 pr:SlP
structure Tok where
 sec:UInt64
 act:Bool
 val:UInt64
 per:Int
 rp:List UInt8
 sin:Int
structure Itn where
 act:Bool
 sin:Int
 hsh:UInt64
 flg:Int
 ids:SlP
structure Dvp where
 fac:Fac
 v:Vtp
 on:Bool
 now:Int
 boo:Int
 dr:Int
 wr:Int
 tok:Tok
 nx:Itn
def dv0:Dvp:=⟨⟨0,0,0,false,0,0,0,0,SlP.nil⟩,⟨0,SlP.nil,0,0,0,false,SlP.nil⟩,false,0,0,0,0,⟨0,false,0,0,[],0⟩,⟨false,0,0,0,SlP.nil⟩⟩
def dvC (x:Dvp):List AV:=[.w x.fac.mo,.w x.fac.se,.i x.fac.ps,.b x.fac.fi,.w x.fac.ase,.i x.fac.ah,.i x.fac.af,.i x.fac.ato,.p x.fac.ce.pv,.i x.v.ps,.p x.v.bs.pv,.i x.v.pg,.i x.v.gn,.i x.v.tl,.b x.v.tn,.p x.v.pr.pv,.b x.on,.i x.now,.i x.boo,.i x.dr,.i x.wr,.w x.tok.sec,.b x.tok.act,.w x.tok.val,.i x.tok.per,sv x.tok.rp,.i x.tok.sin,.b x.nx.act,.i x.nx.sin,.w x.nx.hsh,.i x.nx.flg,.p x.nx.ids.pv]
theorem Gy (x:Dvp):(dvC x).length=32:=rfl
theorem Ej (x:Dvp):(dvC x).take 32=dvC x:=rfl
theorem BB (x:Dvp):eJ (dvC x)=true:=by simp only [dvC,eJ,SlP.oneC,Gu,Gv,Gw,Gx,Bool.and_self]
theorem I1 (d:PV) (x:Dvp):aS d (dvC x) = .w x.fac.mo:=rfl
theorem I2 (x:Dvp) (n:UInt64):(dvC x).set 0 (.w n)=dvC { x with fac:={ x.fac with mo:=n } }:=rfl
theorem I3 (x:Dvp):(dvC x).set 0 (.p (.v (.int .u64 0)))=dvC { x with fac:={ x.fac with mo:=0 } }:=rfl
theorem I4 (d:PV) (x:Dvp):aS d ((dvC x).drop 1) = .w x.fac.se:=rfl
theorem I5 (x:Dvp) (n:UInt64):(dvC x).set 1 (.w n)=dvC { x with fac:={ x.fac with se:=n } }:=rfl
theorem I6 (x:Dvp):(dvC x).set 1 (.p (.v (.int .u64 0)))=dvC { x with fac:={ x.fac with se:=0 } }:=rfl
theorem I7 (d:PV) (x:Dvp):aS d ((dvC x).drop 2) = .i x.fac.ps:=rfl
theorem I8 (x:Dvp) (n:Int):(dvC x).set 2 (.i n)=dvC { x with fac:={ x.fac with ps:=n } }:=rfl
theorem I9 (d:PV) (x:Dvp):aS d ((dvC x).drop 3) = .b x.fac.fi:=rfl
theorem Ja (x:Dvp) (n:Bool):(dvC x).set 3 (.b n)=dvC { x with fac:={ x.fac with fi:=n } }:=rfl
theorem Jb (d:PV) (x:Dvp):aS d ((dvC x).drop 4) = .w x.fac.ase:=rfl
theorem Jc (x:Dvp) (n:UInt64):(dvC x).set 4 (.w n)=dvC { x with fac:={ x.fac with ase:=n } }:=rfl
theorem Jd (x:Dvp):(dvC x).set 4 (.p (.v (.int .u64 0)))=dvC { x with fac:={ x.fac with ase:=0 } }:=rfl
theorem Je (d:PV) (x:Dvp):aS d ((dvC x).drop 5) = .i x.fac.ah:=rfl
theorem Jf (x:Dvp) (n:Int):(dvC x).set 5 (.i n)=dvC { x with fac:={ x.fac with ah:=n } }:=rfl
theorem Jg (d:PV) (x:Dvp):aS d ((dvC x).drop 6) = .i x.fac.af:=rfl
theorem Jh (x:Dvp) (n:Int):(dvC x).set 6 (.i n)=dvC { x with fac:={ x.fac with af:=n } }:=rfl
theorem Ji (d:PV) (x:Dvp):aS d ((dvC x).drop 7) = .i x.fac.ato:=rfl
theorem Jj (x:Dvp) (n:Int):(dvC x).set 7 (.i n)=dvC { x with fac:={ x.fac with ato:=n } }:=rfl
theorem Jk (d:PV) (x:Dvp):aS d ((dvC x).drop 8) = .p x.fac.ce.pv:=rfl
theorem Jl (x:Dvp) (k n:Nat) (cs:List PV):(dvC x).set 8 (.p (.data k n cs))=dvC { x with fac:={ x.fac with ce := .d k n cs } }:=rfl
theorem Jm (x:Dvp):(dvC x).set 8 (.p (.v (.slice none 0 0)))=dvC { x with fac:={ x.fac with ce := .nil } }:=rfl
theorem Jo (x:Dvp) (s:SlP):(dvC x).set 8 (.p s.pv)=dvC { x with fac:={ x.fac with ce:=s } }:=rfl
theorem Jp (d:PV) (x:Dvp):aS d ((dvC x).drop 9) = .i x.v.ps:=rfl
theorem Jq (x:Dvp) (n:Int):(dvC x).set 9 (.i n)=dvC { x with v:={ x.v with ps:=n } }:=rfl
theorem Gz (d:PV) (x:Dvp):aS d ((dvC x).drop 10) = .p x.v.bs.pv:=rfl
theorem GA (x:Dvp) (k n:Nat) (cs:List PV):(dvC x).set 10 (.p (.data k n cs))=dvC { x with v:={ x.v with bs := .d k n cs } }:=rfl
theorem GB (x:Dvp):(dvC x).set 10 (.p (.v (.slice none 0 0)))=dvC { x with v:={ x.v with bs := .nil } }:=rfl
theorem GC (x:Dvp) (s:SlP):(dvC x).set 10 (.p s.pv)=dvC { x with v:={ x.v with bs:=s } }:=rfl
theorem GD (d:PV) (x:Dvp):aS d ((dvC x).drop 11) = .i x.v.pg:=rfl
theorem GE (x:Dvp) (n:Int):(dvC x).set 11 (.i n)=dvC { x with v:={ x.v with pg:=n } }:=rfl
theorem GF (d:PV) (x:Dvp):aS d ((dvC x).drop 12) = .i x.v.gn:=rfl
theorem GG (x:Dvp) (n:Int):(dvC x).set 12 (.i n)=dvC { x with v:={ x.v with gn:=n } }:=rfl
theorem GH (d:PV) (x:Dvp):aS d ((dvC x).drop 13) = .i x.v.tl:=rfl
theorem GI (x:Dvp) (n:Int):(dvC x).set 13 (.i n)=dvC { x with v:={ x.v with tl:=n } }:=rfl
theorem GJ (d:PV) (x:Dvp):aS d ((dvC x).drop 14) = .b x.v.tn:=rfl
theorem GK (x:Dvp) (n:Bool):(dvC x).set 14 (.b n)=dvC { x with v:={ x.v with tn:=n } }:=rfl
theorem GL (d:PV) (x:Dvp):aS d ((dvC x).drop 15) = .p x.v.pr.pv:=rfl
theorem GM (x:Dvp) (k n:Nat) (cs:List PV):(dvC x).set 15 (.p (.data k n cs))=dvC { x with v:={ x.v with pr := .d k n cs } }:=rfl
theorem GN (x:Dvp):(dvC x).set 15 (.p (.v (.slice none 0 0)))=dvC { x with v:={ x.v with pr := .nil } }:=rfl
theorem GO (x:Dvp) (s:SlP):(dvC x).set 15 (.p s.pv)=dvC { x with v:={ x.v with pr:=s } }:=rfl
theorem GP (d:PV) (x:Dvp):aS d ((dvC x).drop 16) = .b x.on:=rfl
theorem GQ (x:Dvp) (n:Bool):(dvC x).set 16 (.b n)=dvC { x with on:=n }:=rfl
theorem GR (d:PV) (x:Dvp):aS d ((dvC x).drop 17) = .i x.now:=rfl
theorem GS (x:Dvp) (n:Int):(dvC x).set 17 (.i n)=dvC { x with now:=n }:=rfl
theorem GT (d:PV) (x:Dvp):aS d ((dvC x).drop 18) = .i x.boo:=rfl
theorem GU (x:Dvp) (n:Int):(dvC x).set 18 (.i n)=dvC { x with boo:=n }:=rfl
theorem GV (d:PV) (x:Dvp):aS d ((dvC x).drop 19) = .i x.dr:=rfl
theorem GW (x:Dvp) (n:Int):(dvC x).set 19 (.i n)=dvC { x with dr:=n }:=rfl
theorem GX (d:PV) (x:Dvp):aS d ((dvC x).drop 20) = .i x.wr:=rfl
theorem GY (x:Dvp) (n:Int):(dvC x).set 20 (.i n)=dvC { x with wr:=n }:=rfl
theorem GZ (d:PV) (x:Dvp):aS d ((dvC x).drop 21) = .w x.tok.sec:=rfl
theorem G0 (x:Dvp) (n:UInt64):(dvC x).set 21 (.w n)=dvC { x with tok:={ x.tok with sec:=n } }:=rfl
theorem G4 (x:Dvp):(dvC x).set 21 (.p (.v (.int .u64 0)))=dvC { x with tok:={ x.tok with sec:=0 } }:=rfl
theorem G5 (d:PV) (x:Dvp):aS d ((dvC x).drop 22) = .b x.tok.act:=rfl
theorem G6 (x:Dvp) (n:Bool):(dvC x).set 22 (.b n)=dvC { x with tok:={ x.tok with act:=n } }:=rfl
theorem G7 (d:PV) (x:Dvp):aS d ((dvC x).drop 23) = .w x.tok.val:=rfl
theorem G8 (x:Dvp) (n:UInt64):(dvC x).set 23 (.w n)=dvC { x with tok:={ x.tok with val:=n } }:=rfl
theorem G9 (x:Dvp):(dvC x).set 23 (.p (.v (.int .u64 0)))=dvC { x with tok:={ x.tok with val:=0 } }:=rfl
theorem Ha (d:PV) (x:Dvp):aS d ((dvC x).drop 24) = .i x.tok.per:=rfl
theorem Hb (x:Dvp) (n:Int):(dvC x).set 24 (.i n)=dvC { x with tok:={ x.tok with per:=n } }:=rfl
theorem Hc (d:PV) (x:Dvp):aS d ((dvC x).drop 25)=sv x.tok.rp:=rfl
theorem Hd (x:Dvp) (n:List UInt8):(dvC x).set 25 (sv n)=dvC { x with tok:={ x.tok with rp:=n } }:=rfl
theorem He (d:PV) (x:Dvp):aS d ((dvC x).drop 26) = .i x.tok.sin:=rfl
theorem Hf (x:Dvp) (n:Int):(dvC x).set 26 (.i n)=dvC { x with tok:={ x.tok with sin:=n } }:=rfl
theorem Hg (d:PV) (x:Dvp):aS d ((dvC x).drop 27) = .b x.nx.act:=rfl
theorem Hh (x:Dvp) (n:Bool):(dvC x).set 27 (.b n)=dvC { x with nx:={ x.nx with act:=n } }:=rfl
theorem Hi (d:PV) (x:Dvp):aS d ((dvC x).drop 28) = .i x.nx.sin:=rfl
theorem Hj (x:Dvp) (n:Int):(dvC x).set 28 (.i n)=dvC { x with nx:={ x.nx with sin:=n } }:=rfl
theorem Hk (d:PV) (x:Dvp):aS d ((dvC x).drop 29) = .w x.nx.hsh:=rfl
theorem Hl (x:Dvp) (n:UInt64):(dvC x).set 29 (.w n)=dvC { x with nx:={ x.nx with hsh:=n } }:=rfl
theorem Hm (x:Dvp):(dvC x).set 29 (.p (.v (.int .u64 0)))=dvC { x with nx:={ x.nx with hsh:=0 } }:=rfl
theorem Hn (d:PV) (x:Dvp):aS d ((dvC x).drop 30) = .i x.nx.flg:=rfl
theorem Ho (x:Dvp) (n:Int):(dvC x).set 30 (.i n)=dvC { x with nx:={ x.nx with flg:=n } }:=rfl
theorem Hp (d:PV) (x:Dvp):aS d ((dvC x).drop 31) = .p x.nx.ids.pv:=rfl
theorem Hq (x:Dvp) (k n:Nat) (cs:List PV):(dvC x).set 31 (.p (.data k n cs))=dvC { x with nx:={ x.nx with ids := .d k n cs } }:=rfl
theorem Hr (x:Dvp):(dvC x).set 31 (.p (.v (.slice none 0 0)))=dvC { x with nx:={ x.nx with ids := .nil } }:=rfl
theorem Hs (x:Dvp) (s:SlP):(dvC x).set 31 (.p s.pv)=dvC { x with nx:={ x.nx with ids:=s } }:=rfl
theorem Ek (x:Dvp):((dvC x).drop 9).take 2=[.i x.v.ps,.p x.v.bs.pv]:=rfl
theorem El (x:Dvp):((dvC x).drop 9).take 6=[.i x.v.ps,.p x.v.bs.pv,.i x.v.pg,.i x.v.gn,.i x.v.tl,.b x.v.tn]:=rfl
theorem Em (x:Dvp):(dvC x).take 9=[.w x.fac.mo,.w x.fac.se,.i x.fac.ps,.b x.fac.fi,.w x.fac.ase,.i x.fac.ah,.i x.fac.af,.i x.fac.ato,.p x.fac.ce.pv]:=rfl
theorem En (x:Dvp):((dvC x).drop 9).take 7=[.i x.v.ps,.p x.v.bs.pv,.i x.v.pg,.i x.v.gn,.i x.v.tl,.b x.v.tn,.p x.v.pr.pv]:=rfl
theorem BC (x:Dvp):((dvC x).drop 21).take 6=[.w x.tok.sec,.b x.tok.act,.w x.tok.val,.i x.tok.per,sv x.tok.rp,.i x.tok.sin]:=rfl
theorem BD (x:Dvp):((dvC x).drop 27).take 5=[.b x.nx.act,.i x.nx.sin,.w x.nx.hsh,.i x.nx.flg,.p x.nx.ids.pv]:=rfl
theorem jq (x:Dvp):∃cs:List PV,dvC x=cs.map .p:=⟨(dvC x).map unP,rfl⟩
theorem wH (x:Dvp):jc (dvC x):=by
 obtain⟨cs,he⟩:=jq x
 rw [he];intro c hc
 obtain⟨y,_,rfl⟩:=List.mem_map.1 hc
 trivial
@[simp] theorem Ht (T:List Nat) (x:Dvp):an T (dvC x):=by obtain⟨cs,he⟩:=jq x;rw [he];exact a8 T cs
theorem Jr (i:Nat) (b:Blk) (x:Dvp):hJ i b (dvC x)=dvC x:=iz i b _ (wH x)
theorem Js (i:Nat) (b:Blk) (x:Dvp):gh i b (dvC x):=fm i b _ (wH x)
theorem Jt (h:List (Nat×Option Blk)) (x:Dvp):i7 h (dvC x):=by obtain⟨cs,he⟩:=jq x;rw [he];exact kQ h cs
theorem Ju (h:List (Nat×Option Blk)) (x:Dvp):fzL h (dvC x)=dvC x:=by obtain⟨cs,he⟩:=jq x;rw [he];exact mA h cs
theorem Jv (h:ba) (S:List Nat) (σ:Nat→Nat) (x:Dvp):ai h S σ (dvC x) (dvC x):=by obtain⟨cs,he⟩:=jq x;rw [he];exact aW h S σ cs
theorem Jw (τ:Nat→Nat) (x:Dvp):eG τ (dvC x)=dvC x:=by obtain⟨cs,he⟩:=jq x;rw [he];exact eM τ cs
theorem Jx (x y:Dvp):cA (dvC x) 0 (dvC y)=dvC y:=kR (dvC y) (dvC x) [] rfl
theorem Eo:pvs z43=dvC dv0:=rfl
attribute [go_sem] Gy Ej BB I1 I2 I3 I4 I5 I6 I7 I8 I9 Ja Jb Jc Jd Je Jf Jg Jh Ji Jj Jm Jo Jk Jl Jp Jq GB GC Gz GA GD GE GF GG GH GI GJ GK GN GO GL GM GP GQ GR GS GT GU GV GW GX GY GZ G0 G4 G5 G6 G7 G8 G9 Ha Hb Hc Hd He Hf Hg Hh Hi Hj Hk Hl Hm Hn Ho Hr Hs Hp Hq Ek El Em En BC BD wH Jr Js Jt Ju Jv Jw Jx Eo
end Go.Proofs.YtebndjnkmcahaaaGreatDoor

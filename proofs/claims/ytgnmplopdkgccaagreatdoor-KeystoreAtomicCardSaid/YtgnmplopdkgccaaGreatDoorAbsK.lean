/- own work: steps of the proof -/
import Derived.Test.YtgnmplopdkgccaaGreatDoorZz
import Derived.Handy
import GoSem.Claim
import Derived.Calls
import Derived.Orders
import Derived.Below
import Derived.Tactics
import Derived.WalkKit
import Derived.Laws.CopyRow
import Derived.Laws.AppendOwn
import Derived.Laws.OwnMore
import Derived.Maps.Own
import Derived.Laws.StructEq
import Derived.Lib.AppendStr
import Derived.Laws.MakeOwn
import Derived.Laws.IdiomStrings
import Derived.LaidEql
import Derived.Lib.Builder
import Derived.Lib.UnsafeStr
set_option linter.all false
namespace Go
section
variable{p q:Prop}
def ω(h:p:=by omega):=h
def ε(h:p:=by decide):=h
def κ(h:p:=by simp only [go_sem]):=h
def π(h:p:=by kernel_rfl):=h
def φ(h:p:=by simp [ho,Op.operands]):=h
def ψ(h:p:=by simp [ho,Op.operands,Call.operands]):=h
def η(h:p:=by simp):=h
def ζ(h:p:=by simp;omega):=h
def ξ(h:p:=by simp [keys]):=h
def χ(h:p:=by simpa using h):=h
end
def aiZ:List Nat:=1000045::[0,1,2,3,6,7,8,9,10,11,13,14,15,16,56,57,103,114,135,151,154,159,178,184,192,195,201,211,251,258]
attribute[go_sem]aiZ
section
variable{p q:Prop}
def ν(h:p:=by
 obtain⟨k,pe,s1,ph,wb,s2,s3,s4,j,t,bx,hk,hpu,hp1,hh,hwd,hwl,hp2,hp3,hp4,hj,hj4,hat,hsp,hbl⟩:=rqF p m;have hnl:([]:List UInt8).length<100000:=ε;have hnn:∀b:List UInt8,b∈([]:List (List UInt8))->b.length<100000:=fun b hb=>by cases hb
 have hrp:=ol m;have hrl:=kb (k3 m);generalize rpS (k3 m)=rp at *;obtain⟨yw,hwb⟩:=ln m;have hus:=Cm (ishr .i64 m 2);have hul:=uP (k3 (ishr .i64 m 2));generalize usS (k3 (ishr .i64 m 2))=us at *;have htx:=Gy (ishr .i64 m 4);have htl2:(txS (k8 (ishr .i64 m 4))++txS (k8 (ishr .i64 (ishr .i64 m 4) 3))).length<=32:=by
  have h1:=iz (k8 (ishr .i64 m 4));have h2:=iz (k8 (ishr .i64 (ishr .i64 m 4) 3));rw[c9];omega
 generalize txS (k8 (ishr .i64 m 4))++txS (k8 (ishr .i64 (ishr .i64 m 4) 3))=tx at *;obtain⟨b1,hb1,i1⟩:=mu hp ω (ishr .i64 n 8);obtain⟨b2,hb2,i2⟩:=mu hp ω (ishr .i64 n 9);by_cases h7:band .i64 (ishr .i64 m 3) 7=7
 case pos =>
  obtain⟨r1,er1⟩:∃r1:RqM,r1=⟨2,rp,us,tx,yw,IntKind.i64.wrap (1+band .i64 (ishr .i64 m 5) 1),IntKind.i64.wrap (1+(ishr .i64 m 6).tmod 3),[b1,b2],band .i64 (ishr .i64 m 8) 1==1,false,band .i64 (ishr .i64 m 9) 3==3,if band .i64 (ishr .i64 m 8) 1=1 then band .i64 (ishr .i64 m 13) 1==1 else false,(ishr .i64 m 11).tmod 3,0,false,0,[],[],0,[],0⟩:=⟨_,rfl⟩;have hr1:aP r1:=by rw[er1];exact⟨by show rp.length<_;omega,by show us.length<_;omega,by show tx.length<_;omega,by show 2<100000;decide,hnl,hnl,hnl,fun b hb=>by have hb:b∈[b1,b2]:=hb;simp at hb;rcases hb with rfl|rfl<;>omega⟩
  have hs1:r1.ls.length<1000/\r1.pf.length<1000:=by rw[er1];exact⟨by show 2<1000;decide,by show 0<1000;decide⟩
  obtain⟨q,r',q1,q2,r2,t1,t2,t3,t4⟩:=dP p.d r1 hr1 hs1 m (12<=band .i64 n 15\/band .i64 (ishr .i64 n 4) 1=1/\band .i64 n 15<6) (band .i64 (ishr .i64 n 10) 15=15);refine akf ?_;intro c J h0 Y Z;refine lp ?_;apply bM (fun _:Unit=>(⟨263,[(1,.i n),(2,.i m),(6,.ptr 1 0),(7,.ptr 2 0),(13,.ptr 3 0)],[(1,some ⟨118,rqC rq0⟩),(2,some ⟨41,dvC (bp p.d)⟩),(3,some ⟨118,rqC (rqP r1)⟩)],4⟩:AS)) (fun _=>True)
  case tree =>
   intro hj;have hj:=hj () trivial;subst er1;refine alv ?_;by_cases h8:band .i64 (ishr .i64 m 8) 1=1
   case pos =>
    have h8b:(band .i64 (ishr .i64 m 8) 1==1)=true:=by rw[h8];rfl
    simp only[h8b,h8,if_true,if_false] at hj;simp only[go_sem,J,hy,h8,h8b,h7];apply aa Z i1;simp only[go_sem,J];apply aa Z i2;refine wi ?_;refine cw Y (ks:=[]) (n:=0) 5 ?_ ?_
    .simp only[go_sem];exact bR (by show 0+2*1<=2;decide) _ _ (iO _ _ _)
    simp only[go_sem];show SAW _ _ _;refine aj2 ?_;exact fh _ _ _ _ _ (by simp[rqC,rqP,rq0,cy,eqN,eqP,SlP.pv,byP])
   case neg =>
    have h8b:(band .i64 (ishr .i64 m 8) 1==1)=false:=beq_eq_false_iff_ne.2 h8;simp only[h8b,h8,if_true,if_false] at hj;simp only[go_sem,J,hy,h8,h8b,h7];apply aa Z i1;simp only[go_sem,J];apply aa Z i2;refine wi ?_;refine cw Y (ks:=[]) (n:=0) 5 ?_ ?_
    .simp only[go_sem];exact bR (by show 0+2*1<=2;decide) _ _ (iO _ _ _)
    simp only[go_sem];show SAW _ _ _;refine aj2 ?_;exact fh _ _ _ _ _ (by simp[rqC,rqP,rq0,cy,eqN,eqP,SlP.pv,byP])
  exact lq
 case neg =>
  obtain⟨r1,er1⟩:∃r1:RqM,r1=⟨2,rp,us,tx,yw,IntKind.i64.wrap (1+band .i64 (ishr .i64 m 5) 1),IntKind.i64.wrap (1+(ishr .i64 m 6).tmod 3),[],band .i64 (ishr .i64 m 8) 1==1,false,band .i64 (ishr .i64 m 9) 3==3,if band .i64 (ishr .i64 m 8) 1=1 then band .i64 (ishr .i64 m 13) 1==1 else false,(ishr .i64 m 11).tmod 3,0,false,0,[],[],0,[],0⟩:=⟨_,rfl⟩;have hr1:aP r1:=by rw[er1];exact⟨by show rp.length<_;omega,by show us.length<_;omega,by show tx.length<_;omega,by show 0<100000;decide,hnl,hnl,hnl,hnn⟩
  have hs1:r1.ls.length<1000/\r1.pf.length<1000:=by rw[er1];exact⟨by show 0<1000;decide,by show 0<1000;decide⟩
  obtain⟨q,r',q1,q2,r2,t1,t2,t3,t4⟩:=dP p.d r1 hr1 hs1 m (12<=band .i64 n 15\/band .i64 (ishr .i64 n 4) 1=1/\band .i64 n 15<6) (band .i64 (ishr .i64 n 10) 15=15);refine akf ?_;intro c J h0 Y Z;refine lp ?_;apply bM (fun _:Unit=>(⟨263,[(1,.i n),(2,.i m),(6,.ptr 1 0),(7,.ptr 2 0),(13,.ptr 3 0)],[(1,some ⟨118,rqC rq0⟩),(2,some ⟨41,dvC (bp p.d)⟩),(3,some ⟨118,rqC (rqP r1)⟩)],4⟩:AS)) (fun _=>True)
  case tree =>
   intro hj;have hj:=hj () trivial;subst er1;refine alv ?_;by_cases h8:band .i64 (ishr .i64 m 8) 1=1
   case pos =>
    have h8b:(band .i64 (ishr .i64 m 8) 1==1)=true:=by rw[h8];rfl
    simp only[h8b,h8,if_true,if_false] at hj;simp only[go_sem,J,hy,h8,h8b,h7];refine aj2 ?_;exact fh _ _ _ _ _ (by simp[rqC,rqP,rq0,cy,eqN,eqP,SlP.pv,byP])
   case neg =>
    have h8b:(band .i64 (ishr .i64 m 8) 1==1)=false:=beq_eq_false_iff_ne.2 h8;simp only[h8b,h8,if_true,if_false] at hj;simp only[go_sem,J,hy,h8,h8b,h7];refine aj2 ?_;exact fh _ _ _ _ _ (by simp[rqC,rqP,rq0,cy,eqN,eqP,SlP.pv,byP])
  exact lq):=h
def Ω(h:p:=by
 obtain⟨k,pe,s1,ph,wb,s2,s3,s4,j,t,bx,hk,hpu,hp1,hh,hwd,hwl,hp2,hp3,hp4,hj,hj4,hat,hsp,hbl⟩:=rqF p m;have hnl:([]:List UInt8).length<100000:=ε;have hnn:∀b:List UInt8,b∈([]:List (List UInt8))->b.length<100000:=fun b hb=>by cases hb
 have hrp:=ol m;have hrl:=kb (k3 m);generalize rpS (k3 m)=rp at *;obtain⟨yw,hwb⟩:=ln m;have hM:=cg (ishr .i64 m 7) 3 ε ε;obtain⟨M,hMe,hM3⟩:∃M:Nat,band .i64 (ishr .i64 m 7) 3=M/\M<=3:=⟨(band .i64 (ishr .i64 m 7) 3).toNat,ω,ω⟩
 have hids:∀i:Nat,∃b:List UInt8,b.length<2000/\FPure Tryz.prog 210 [plA p,.i (ishr .i64 n (4+3*i))] (.p (.data 1 b.length (b.map bt))):=fun i=>mu hp ω _
 obtain⟨I,hI⟩:=Classical.axiomOfChoice hids;obtain⟨L,hL⟩:∃L:Nat->List (List UInt8),∀i,L i=(List.range i).map I:=⟨_,fun _=>rfl⟩
 have hL0:L 0=[]:=by rw[hL];rfl
 have hLs:∀i,L (i+1)=L i++[I i]:=fun i=>by rw[hL,hL,List.range_succ,List.map_append];rfl
 have hLl:∀i,(L i).length=i:=fun i=>by rw[hL];simp
 have hLe:∀b,b∈L M->b.length<2000:=fun b hb=>by
  rw[hL,o4] at hb;obtain⟨i,-,rfl⟩:=hb;exact(hI i).1
 have hLM:=hLl M;obtain⟨r1,er1⟩:∃r1:RqM,r1=⟨3,rp,[],[],yw,0,0,L M,false,band .i64 (ishr .i64 m 3) 3 != 3,band .i64 (ishr .i64 m 5) 3==3,false,0,0,false,0,[],[],0,[],0⟩:=⟨_,rfl⟩
 have hr1:aP r1:=by rw[er1];exact⟨by show rp.length<_;omega,hnl,hnl,by show(L M).length<_;omega,hnl,hnl,hnl,fun b hb=>by have:=hLe b hb;omega⟩
 have hs1:r1.ls.length<1000/\r1.pf.length<1000:=by rw[er1];exact⟨by show(L M).length<_;omega,by show 0<1000;decide⟩
 obtain⟨q,r',q1,q2,r2,t1,t2,t3,t4⟩:=dP p.d r1 hr1 hs1 m (12<=band .i64 n 15\/band .i64 (ishr .i64 n 4) 1=1/\band .i64 n 15<6) (band .i64 (ishr .i64 n 10) 15=15);refine akf ?_;intro c J h0 Y Z;refine lp ?_;apply bM (fun _:Unit=>(⟨263,[(1,.i n),(2,.i m),(6,.ptr 1 0),(7,.ptr 2 0),(13,.ptr 3 0)],[(1,some ⟨118,rqC rq0⟩),(2,some ⟨41,dvC (bp p.d)⟩),(3,some ⟨118,rqC (rqP r1)⟩)],4⟩:AS)) (fun _=>True)
 case tree =>
  intro hj;have hj:=hj () trivial;subst er1;simp only[go_sem,J,hy];apply aa Z hrp;simp only[go_sem,J];apply aa Z hwb;simp only[go_sem,J,hy];apply aX 28;refine ay Y h0 aiZ M (fun i=>⟨263,[(1,.i n),(2,.i m),(3,.ptr 0 0),(6,.ptr 1 0),(7,.ptr 2 0),(13,.ptr 4 0),(14,.i i)],[(0,some ⟨43,pyC (pyP p)⟩),(1,some ⟨118,rqC rq0⟩),(2,some ⟨41,dvC (bp p.d)⟩),(4,some ⟨118,(rqC {rq0 with kd:=3,rp:=rp,hs:=yw,pr:=band .i64 (ishr .i64 m 3) 3 != 3,ve:=band .i64 (ishr .i64 m 5) 3==3}).set 7 (.sl 5 0 i 1)⟩),(5,some ⟨28,byL (L i)⟩)],6⟩) [] (fun i=>i) ⟨rfl,κ,?_,rfl,rfl,trivial,fun i h=>h⟩ ?_
  .simp only[go_sem,hL0];exact⟨bX 7 (.sl 5 0 0 1) (.p (.v (.slice none 0 0))) (vL _ _ _ _) κ,by simp[byL,aj]⟩
  intro i hi;have hLi:=hLl i;rcases ea i M with hlt|hge
  .have hw:IntKind.i64.wrap ((i:Int)+1)=((i+1:Nat):Int):=by rw[ab ω ω];omega
   have hsf:IntKind.u64.wrap (IntKind.i64.wrap (4+IntKind.i64.wrap (3*(i:Int))))=4+3*i:=by
    rcases(show i=0\/i=1\/i=2 from ω) with rfl|rfl|rfl<;>decide
   rw[hLs i];simp only[go_sem,J,hMe,(ω:((i:Int)<(M:Int))),hsf];refine⟨ω,?_⟩;apply aa Z (by exact(hI i).2);simp only[go_sem,J,hw];refine⟨ω,π,hlt,aA [0,1,2,3,4,7] rfl κ ?_ rfl rfl (cV rfl)⟩;simp only[go_sem];exact⟨bX 7 _ _ (vL _ _ _ _) κ,dK _ _ _ _⟩
  .have e:M=i:=ω;subst e;simp only[go_sem,J,hMe,(ω:¬((M:Int)<(M:Int)))];refine cw Y (ks:=[]) (n:=0) 5 ?_ ?_
   .simp only[go_sem];exact bR (by show 0+M*1<=(byL (L M)).length;simp[byL,hLM]) _ _ (iO _ _ _)
   simp only[go_sem];show SAW _ _ _;refine aj2 ?_;rw[cD ω,show SlP.d 1 M=SlP.d 1 (L M).length from by rw[hLM]];exact fh _ _ _ _ _ (by simp[rqC,rqP,rq0,cy,eqN,eqP,SlP.pv,byP])
 exact lq):=h
def Ψ(h:p:=by
 apply aa Z (zG ps bs p k n 1 1 (UInt64.ofNat (bz (pgM ⟨ps,bs⟩ 1)).toNat) _ (fO _ ω ω) hp rfl hn hnk ω hk2 hp1 hp2);have hpl:(pgM ⟨ps,bs⟩ 1).length=p:=fN hp (hn.trans hnk) ω;have hs:=iJ (pgM ⟨ps,bs⟩ 1) (UInt64.ofNat (bz (pgM ⟨ps,bs⟩ 1)).toNat) ω;have hma:db ⟨ps,bs⟩ 1 (bz (pgM ⟨ps,bs⟩ 1))=⟨ps,bs,(1:Nat),bz (pgM ⟨ps,bs⟩ 1),((du (pgM ⟨ps,bs⟩ 1) (UInt64.ofNat (bz (pgM ⟨ps,bs⟩ 1)).toNat)).2:Nat),!((pgM ⟨ps,bs⟩ 1).drop (du (pgM ⟨ps,bs⟩ 1) (UInt64.ofNat (bz (pgM ⟨ps,bs⟩ 1)).toNat)).2).all (·==255)⟩:=rfl;generalize du (pgM ⟨ps,bs⟩ 1) (UInt64.ofNat (bz (pgM ⟨ps,bs⟩ 1)).toNat)=T at *;simp only[go_sem,J,dl];generalize hG:bz (pgM ⟨ps,bs⟩ 1)=G at *;have hget:∀i,i<p->(pgM ⟨ps,bs⟩ 1).getD i 0=bs.getD (1*p+i) 0:=by
  intro i hi;unfold pgM;simp only[hp,h5,cR,l0,b9 hi,List.getElem?_drop]
 have hle:=fT (p:=p) (show 1<k by omega)
 refine ay Y h0 [0,1,2,3,4,5,6,7,8,12,21,32,44,63] (p-T.2) (fun d=>⟨84,[(1,.ptr 0 0),(2,.ptr 1 0),(7,.ptr 3 0),(8,.i ((T.2+d:Nat):Int))],
  [(3,some ⟨32,[.i ps,.sl 2 0 n 1,.i 1,.i G,.i T.2,.b (!((((pgM ⟨ps,bs⟩ 1).drop T.2).take d).all (·==255)))]⟩),(2,some ⟨bP,cb bs⟩),(1,some ⟨32,[.i 0,.p (.v (.slice none 0 0)),.i 0,.i 0,.i 0,.b false]⟩),(0,some ⟨30,[.i ps,.p (.data 1 n (bs.map bt))]⟩)],4⟩) [] (fun i=>i) ?_ ?_
 .refine⟨rfl,?_,?_,rfl,rfl,trivial,fun i h=>h⟩
  .simp only[go_sem]
  .simp only[go_sem,List.take_zero,List.all_nil,Bool.not_true];exact aC _ _ _ _
 .intro d hd;have hst:=uY (pgM ⟨ps,bs⟩ 1) T.2 d;generalize hU:(((pgM ⟨ps,bs⟩ 1).drop T.2).take d).all (·==255)=U at *;have e1:IntKind.i64.wrap (1*ps)=((1*p:Nat):Int):=by rw[hp,ab ω ω];omega
  have e2:d<p-T.2->IntKind.i64.wrap (((1*p:Nat):Int)+((T.2+d:Nat):Int))=((1*p+(T.2+d):Nat):Int):=fun h=>by rw[ab ω ω];omega
  have e255:∀x:UInt8,((x.toNat:Int) != 255) = !(x==255):=fun x=>by
   have:((x.toNat:Int)=255)↔x=255:=by rw[<-UInt8.toNat_inj];simp;omega
   rw[Bool.eq_iff_iff];simp[this]
  by_cases hdl:d<p-T.2
  .have hst:=hst ω;rw[hget _ ω] at hst;simp only[go_sem,J,e1,e2 hdl,e255];rw[b9 ω,ab ω ω];cases U
   .rw[b0 ε];refine⟨hdl,eh rfl ?_ ?_ rfl rfl (c7 _)⟩
    .simp only[go_sem];omega
    .simp only[go_sem,hst,Bool.false_and,Bool.not_false];exact aC _ _ _ _
   .rw[b9 rfl];refine⟨⟨ω,ω⟩,ω,hdl,eh rfl ?_ ?_ rfl rfl (c7 _)⟩
    .simp only[go_sem];omega
    .simp only[go_sem,hst,Bool.true_and];exact aC _ _ _ _
  .obtain rfl:d=p-T.2:=by omega
   rw[cD ζ] at hU;simp only[go_sem,J];rw[b0 ω];rw[hma,hU] at hR;subst hR;simp only[hn,cD (Nat.le_of_eq hn),and_self,c7,true_and]
   first|rfl|trivial|exact⟨⟨rfl,trivial⟩,trivial⟩|exact⟨rfl,trivial⟩):=h
def Φ(h:p:=by
 refine aq [0] rfl ?_ ?_ rfl rfl (fun i hi=>by simp at hi;subst hi;exact⟨rfl,ξ⟩) (fun i hi=>by simp[liveK] at hi;simp;omega)
 .simp only[go_sem]
 .simp only[go_sem]):=h
def Ξ(h:p:=by exact aR [] rfl κ κ rfl rfl (fun i hi=>by simp at hi;rcases hi with rfl|rfl<;>simp[liveK,keys]) (fun i _=>aw [] _ i (gi _))):=h
end
def ai0:List Nat:=[0,1,2,4,5,10,11,17,27,35,45,51,57,69,75,81,87,93,101,110,120,128,135,143,149,155,160,180,186]
attribute[go_sem]ai0
section
variable{p q:Prop}
def Δ(h:p:=by refine en Tryz.func212 Tryz.ntmps212 Tryz.results212 ai0 ?_;intro c J h0 Y Z;simp only[go_sem,J,hy,hk,c11,hj,show ∀x:Rqp,(rqC x).set 15 (.p (.v (.int .u64 1)))=rqC {x with pe:=1} from fun _=>rfl,show ∀x:Rqp,(rqC x).set 15 (.p (.v (.int .u64 2)))=rqC {x with pe:=2} from fun _=>rfl,show ∀x:Rqp,(rqC x).set 15 (.p (.v (.int .u64 2305843009213693950)))=rqC {x with pe:=2305843009213693950} from fun _=>rfl,show ∀x:Rqp,(rqC x).set 15 (.p (.v (.int .u64 2305843009213693949)))=rqC {x with pe:=2305843009213693949} from fun _=>rfl,show ∀x:Rqp,(rqC x).set 15 (.p (.v (.int .u64 2305843009213693951)))=rqC {x with pe:=2305843009213693951} from fun _=>rfl];exact av _):=h
def xf(h:p:=by
 obtain⟨k,pe,s1,ph,wb,s2,s3,s4,j,t,bx,hk,hpu,hp1,hh,hwd,hwl,hp2,hp3,hp4,hj,hj4,hat,hsp,hbl⟩:=rqF p m;have hnl:([]:List UInt8).length<100000:=ε;have hnn:∀b:List UInt8,b∈([]:List (List UInt8))->b.length<100000:=fun b hb=>by cases hb
 have hrp:=ol (ishr .i64 m 1);have hrl:=kb (k3 (ishr .i64 m 1));generalize rpS (k3 (ishr .i64 m 1))=rp0' at *;have hq:=cg (ishr .i64 m 2) 1 ε ε;obtain⟨jj,hjj,rp,hat2,hrl2⟩:∃jj:Nat,band .i64 (ishr .i64 m 2) 1=jj/\∃rp:List UInt8,ag (.v undef) (List.drop jj [.p (.v (.string ⟨#[]⟩)),sv rp0'])=sv rp/\rp.length<=64:=by
  rcases(show band .i64 (ishr .i64 m 2) 1=0\/band .i64 (ishr .i64 m 2) 1=1 from ω) with h|h
  .exact⟨0,h,[],rfl,ε⟩
  .exact⟨1,h,rp0',rfl,hrl⟩
 have hj1:jj<2:=ω;obtain⟨r1,er1⟩:∃r1:RqM,r1=⟨9,rp,[],[],0,0,0,[],false,false,false,false,0,0,false,pe,[],wb,IntKind.i64.wrap (1+(ishr .i64 m 8).tmod 7),[],0⟩:=⟨_,rfl⟩
 have hr1:aP r1:=by rw[er1];exact⟨by show rp.length<_;omega,hnl,hnl,by show 0<100000;decide,hnl,by show wb.length<_;omega,hnl,hnn⟩
 have hs1:r1.ls.length<1000/\r1.pf.length<1000:=by rw[er1];exact⟨by show 0<1000;decide,by show wb.length<1000;omega⟩
 obtain⟨q,r',q1,q2,r2,t1,t2,t3,t4⟩:=dP p.d r1 hr1 hs1 m (12<=band .i64 n 15\/band .i64 (ishr .i64 n 4) 1=1/\band .i64 n 15<6) (band .i64 (ishr .i64 n 10) 15=15);refine akf ?_;intro c J h0 Y Z;refine lp ?_;apply bM (fun _:Unit=>(⟨263,[(1,.i n),(2,.i m),(6,.ptr 1 0),(7,.ptr 2 0),(13,.ptr 3 0)],[(1,some ⟨118,rqC rq0⟩),(2,some ⟨41,dvC (bp p.d)⟩),(3,some ⟨118,rqC (rqP r1)⟩)],4⟩:AS)) (fun _=>True)
 case tree =>
  intro hj;have hj:=hj () trivial;subst er1;simp only[go_sem,J,hy];apply aa Z hrp;simp only[go_sem,J,hjj,hat2];refine⟨ω,ω,?_⟩;refine aj2 ?_;exact fh _ _ _ _ _ (by simp[rqC,rqP,rq0,cy,eqN,eqP,SlP.pv,byP])
 exact lq):=h
def vy(h:p:=by refine x_w Z hen ?_;simp only[go_sem,J]):=h
def aft(h:p:=by refine bm h0 hj (aA [0,1,2,4] rfl κ ?_ rfl rfl (cV rfl));simp only[go_sem,true_and,and_true];exact fh _ _ _ _ _ (by simp[rqC,rqP,rq0,cy,eqN,eqP,SlP.pv,byP])):=h
def afu(h:p:=by
 intro i hi;simp only[go_sem,J];refine aR [0,3,2] rfl ?_ ?_ rfl rfl (fun i hi=>by simp at hi;rcases hi with rfl|rfl<;>simp[liveK,keys,sg]) (oW _ _)
 .simp only[go_sem]
 .simp only[go_sem]):=h
def afv(h:p:=by
 refine ay Y h0 [0,2,3,4,5,9,13] 8 (fun j=>⟨29,[(0,.p (.data 1 n (ws.map wd))),(3,.sl 0 0 (8*i+j) 1),(4,.i i),(5,.i (7-(j:Int)))],[(0,some ⟨bP,cb (an ws i++dc (ws.getD i 0) j)⟩)],1⟩) [] (fun i=>i) ?_ ?_
 .refine⟨rfl,?_,?_,rfl,rfl,trivial,fun i h=>h⟩
  .simp only[go_sem]
   try simp
  .simp only[go_sem,dc,List.append_nil];exact aC _ _ _ _
 .intro j hj;have e8:j<8->IntKind.u64.wrap (8*(7-(j:Int)))=((56-8*j:Nat):Int):=fun _=>by rw[ao ω ω];omega
  have e9:j<8->IntKind.i64.wrap (8*(7-(j:Int)))=8*(7-(j:Int)):=fun _=>by rw[ab ω ω]
  by_cases hj8:j<8
  .simp only[go_sem,J,e9 hj8,e8 hj8,oz (ws.getD i 0) ((56-8*j:Nat):Int) ω,aH,fZ];split
   ·(try go_unwrap)
    refine⟨⟨ω,ω⟩,ω,ω,⟨by simp only[am,az],ω,ω⟩,hj8,aA [2] rfl ?_ ?_ rfl rfl (c7 _)⟩
    .simp only[go_sem,Nat.add_assoc];omega
    .simp only[go_sem,dc,List.append_assoc];exact aC _ _ _ _
   .omega
  .obtain rfl:j=8:=by omega
   simp only[go_sem,J];split
   .omega
   ·(try go_unwrap)
    refine⟨ω,eh rfl ?_ ?_ rfl rfl (c7 _)⟩
    .simp only[go_sem,Nat.mul_add,Nat.mul_one];omega
    .simp only[go_sem,an];exact aC _ _ _ _):=h
def afw(h:p:=by
 have hLe:p+z+s.length<=L:=by
  have:=congrArg List.length hB';rw[kK,c9,c9,ci,hz,hL] at this;omega
 rw[hlen,<-Nat.add_assoc] at hacc Y Z;have w1:IntKind.i64.wrap (s.length:Int)=s.length:=ab ω ω;have w2:IntKind.i64.wrap (((p+z:Nat):Int)+(s.length:Int))=((p+z+s.length:Nat):Int):=by rw[ab ω ω];omega
 have w3:IntKind.i64.wrap ((L:Int)-((p+z:Nat):Int))=((L-(p+z):Nat):Int):=by rw[ab ω ω];omega
 have e7:p+z+s.length-(p+z)=s.length:=ω;have n1:¬((s.length:Int)>1024):=ω;have n1':¬((1024:Int)<(s.length:Int)):=ω;have n2:¬(((L-(p+z):Nat):Int)<(s.length:Int)):=ω;refine alt ?_;simp only[go_sem,J,hn,w1,w2,w3,e7,n1,n1',n2,hcut,bS,Abs.strOf];refine⟨π,⟨ω,ω,ω⟩,bL _,π,?_⟩;refine x_k Z 4 hacc ?_;simp only[go_sem,J];refine⟨π,aq [0,1] rfl ?_ ?_ rfl rfl (fun i hi=>by simp at hi;rcases hi with rfl|rfl<;>exact⟨rfl,ξ⟩) (fun i hi=>by simp[liveK] at hi;simp;omega)⟩
 .simp only[go_sem]
 .simp only[go_sem]):=h
def afx(h:p:=by
 refine⟨⟨ω,ω⟩,ω,aq [0,1] rfl ?_ ?_ rfl rfl (fun i hi=>by simp at hi;rcases hi with rfl|rfl<;>exact⟨rfl,ξ⟩) (fun i hi=>by simp[liveK] at hi;simp;omega)⟩
 .simp only[go_sem]
 .simp only[go_sem]):=h
def afy(h:p:=by
 refine⟨⟨hk,ω,ω⟩,?_⟩;refine bK Y [0] (fun i hi=>by have:=h0 i hi;simpa[liveK] using this) [0,1,2,6,7,8,9,14,24,29,34,46] (szN n) (fun j=>⟨58,[(0,.sl 1 0 (k+(1+j)) 1),(2,.w n),(9,.i ((szN n:Int)-1-j))],[(1,some ⟨bP,cb (l++(M+loN n)::bgB n (szN n) j)⟩)],2⟩) [] (sg 3 [0,2]) ⟨rfl,?_,?_,rfl,rfl,trivial,fun i h=>aw [0,2] 3 i h⟩ (fun i hi=>by simp at hi;subst hi;rfl) ?_
 .simp only[go_sem,e2]
  try decide
 .simp only[go_sem,bgB,e1];exact aC _ _ _ _):=h
def afz(h:p:=by
 simp only[go_sem,J]
 (try exact⟨⟨rfl,⟨rfl,rfl⟩,rfl,rfl,rfl,rfl,rfl,rfl⟩,rfl,rfl⟩)):=h
def afA(h:p:=by
 simp only[go_sem,J];refine⟨π,aq [0,1] rfl ?_ ?_ rfl rfl (fun i hi=>by simp at hi;rcases hi with rfl|rfl<;>exact⟨rfl,ξ⟩) (fun i hi=>by simp[liveK] at hi;simp;omega)⟩
 .simp only[go_sem]
 .simp only[go_sem]):=h
def afB(h:p:=by
 refine aq [0,1] rfl ?_ ?_ rfl rfl (fun i hi=>by simp at hi;rcases hi with rfl|rfl<;>exact⟨rfl,ξ⟩) (fun i hi=>by simp[liveK] at hi;simp;omega)
 .simp only[go_sem]
 .simp only[go_sem]):=h
def afC(h:p:=by
 rintro e w' ⟨rfl,hbel⟩;refine⟨_,rfl,ρ,F,⟨fun _ _ h=>h,fun i h1 h2=>s5 h1 h2,fun i b h1 h2=>(by rw[h1] at h2;cases h2),.p _ _ (.v _ rfl),?_,fun b hb=>Nat.lt_of_lt_of_le (hpre.fok b hb) hbel.size,?_⟩⟩
 .refine⟨fun i k hk=>?_,fun i j b hi=>?_⟩
  .simp[restr,keys] at hk
  .simp[restr,keys] at hi
 .refine⟨hbel.os,hbel.tape,hbel.output,hbel.size,fun b hb _=>hbel.block b hb,⟨fun b n hcl=>?_,fun b hcl=>?_⟩,fun b hb=>hb,fun b hb => .inl hb⟩
  .obtain⟨ar,t',fr,hb,hn⟩:=hcl;exact⟨ar,t',fr,(hbel.block b (Array.getElem?_eq_some_iff.1 hb).1).trans hb,hn⟩
  .have hlt:=hcl.lt;obtain⟨es,c,hb⟩:=hcl;exact⟨es,c,(hbel.block b hlt).trans hb⟩):=h
def afD(h:p:=by
 rw[<-hL] at *;generalize rputM O.v (bootL d.fac O.v.prs (k+1)) O.left=P at *;simp only[go_sem,J];by_cases hpe:P.err=0
 case neg =>
  rw[b9 hpe] at hR⊢;subst hR;apply aa Z (nB d P.v P.err);simp only[go_sem,J]
 rw[b0 ω];rw[b0 ω] at hR;obtain⟨hpv,hp2,hp1⟩:=hpu hpe;generalize ht:(if now>d.now then now else d.now)=t at *;dsimp only at hR;apply aa Z (by exact(tG ⟨d.fac,P.v,true,t,t,0,0,tj,it0⟩ hpv hp2 hp1).nil ⟨mJ _ _ _ _ _ (cY _) (cY _) (cY _) ⟨rfl,rfl⟩,trivial⟩);generalize jZ ⟨d.fac,P.v,true,t,t,0,0,tj,it0⟩=w at *;simp only[go_sem,J];apply aa Z (pT w);subst hR;simp only[go_sem,J];exact av _):=h
def afE(h:p:=by
 apply co Y (ks:=[0,1,3,4,6,7,16,21]) (n:=2000) [] (sg 2 [0]) _ (by rw[J];exact hO) ⟨κ,by simp only[go_sem];exact aC _ _ _ _,rfl,trivial,oy _ 2,fun i hi=>by simp[keys] at hi;rcases hi with rfl|rfl<;>simp[liveK,sg],by simp[ax,ak,keys],by simp[bV,ak,ax,cm],rfl⟩;have:=ia (UInt64.ofNat s.length);simp only[go_sem,J];refine⟨⟨by rw[ci];omega,ω,ω⟩,aR [5,4] rfl ?_ ?_ rfl rfl (fun i hi=>by simp at hi;subst hi;simp[liveK,keys]) (sgD _ _)⟩
 .simp only[go_sem,cn,ci,Nat.add_assoc]
 .simp only[go_sem,cn,dl,dX,List.append_assoc];exact aC _ _ _ _):=h
def afF(h:p:=by
 rw[hr2] at hr;simp only[cE,hr2] at h4;simp only[go_sem,J];split
 .rename_i he;rw[b9 he] at h4;subst h4;simp only[he,and_self]
 .rename_i he;rw[b0 he] at h4;split
  .rename_i he2;rw[b9 he2] at h4;subst h4;simp only[jn0,km,List.map_nil,and_self]
  .rename_i he2;rw[b0 ω] at h4
   (try go_unwrap)
   refine⟨⟨(i+1,r.f,r.left),by show i+1<=m;omega,by show r.f.bs.length<_;omega,hr.1,h4⟩,by show m-(i+1)<m-i;omega,aA [0,1] rfl ?_ ?_ rfl rfl (c7 _)⟩
   .simp only[go_sem];omega
   .simp only[go_sem]):=h
def afG(h:p:=by refine en Tryz.func212 Tryz.ntmps212 Tryz.results212 ai0 ?_;intro c J h0 Y Z;simp only[go_sem,J,hy,hk,c14,hj];exact av _):=h
def afH(h:p:=by
 split
 .rw[ab (n:=bi-1) ω ω];refine⟨⟨i+1,ω,fun h=>ω⟩,by show m-(i+1)<m-i;omega,eh rfl ?_ ?_ rfl rfl (c7 _)⟩
  .simp only[go_sem,hnx]
   first
    |(rw[b9 ω];exact⟨ω,ω⟩)
    |(rw[b0 ω];exact⟨ω,ω⟩)
  .simp only[go_sem,hun,hc];exact aC _ _ _ _
 .refine⟨⟨i+1,ω,fun h=>ω⟩,by show m-(i+1)<m-i;omega,eh rfl ?_ ?_ rfl rfl (c7 _)⟩
  .simp only[go_sem,hnx]
   first
    |(rw[b9 ω];exact⟨ω,ω⟩)
    |(rw[b0 ω];exact⟨ω,ω⟩)
  .simp only[go_sem,hun,hc];exact aC _ _ _ _):=h
def afI(h:p:=by
 intro i hi;rcases ea i l.length with hin|hin
 .have hat:=dY l i hin;have hc:((i:Int)<(l.length:Int)):=ω;have hts:=eD l i hin;have hs:=nh l (i+1);rw[hts,gm] at hs;simp only[szM] at hs;simp only[go_sem,J,PL,hat,hc,byP]
  (try go_unwrap)
  refine⟨ω,hin,aA [] rfl ?_ ?_ rfl rfl (c7 _)⟩
  .simp only[go_sem,hts,gm,szM];omega
  .simp only[go_sem]
 .obtain rfl:i=l.length:=by omega
  have hnc:¬((l.length:Int)<(l.length:Int)):=ω;simp only[go_sem,J,PL,hnc];rw[cD (c7 _)]):=h
def afJ(h:p:=by simp only[go_sem,J];refine aa Z hb ?_;simp only[go_sem,J,he]):=h
def afK(h:p:=by
 cases v with
 |agg cs =>
  cases hc:gC (.agg cs) with
  |false=>exact .any _
  |true =>
   simp only[iX];refine .agg _ _ η (fun j x hj=>?_);simp only[List.getElem?_map,nL] at hj;obtain⟨y,hy,rfl⟩:=hj;have hy':cs[j]?=some y:=by simpa using hy
   have:cs.getD j undef=y:=by simp[kc,hy']
   rw[this];refine .p _ _ (.v _ ?_)
   grind [gC,List.all_eq_true,List.mem_of_getElem?]
 |tuple vs=>simp only[gC,iX];exact .any _
 |_=>simp only[gC,iX];exact .p _ _ (.v _ rfl)):=h
def afL(h:p:=by
 refine aA [0] rfl ?_ ?_ rfl rfl (cV rfl)
 .simp only[go_sem]
 .simp only[go_sem]):=h
def afM(h:p:=by
 refine⟨rfl,?_,?_,rfl,rfl,trivial,fun i h=>h⟩
 .simp only[go_sem]
 .simp only[go_sem]):=h
def afN(h:p:=by
 rw[hsz] at hK;rw[hm0] at hK;simp only[List.take_zero,bY] at hK;refine hK _ ρ F w ⟨fun _ _ h=>h,fun i h1 h2=>s5 h1 h2,fun i b h1 h2=>(by rw[h1] at h2;cases h2),.p _ _ (.v _ rfl),?_,hpre.fok,Chg.refl _ _ _⟩;have e:restr ((id::T0)++keys [(id,some (⟨b.t,b.cs⟩:Blk))]) (updH [(id,some (⟨b.t,b.cs⟩:Blk))] (hget st.hp))=restr (id::T0) (hget st.hp):=by
  funext j;by_cases hj:j=id
  .subst hj;simp[restr,updH,keys,hblk0,hget]
  .simp[restr,updH,keys,hj]
 rw[e];exact hpre.hp):=h
def afO(h:p:=by
 apply co Y (ks:=[0,1,3,4,6,7,16,21]) (n:=2000) [] (sg 2 [0]) _ (by rw[J];exact hO) ⟨κ,by simp only[go_sem];exact aC _ _ _ _,rfl,trivial,oy _ 2,fun i hi=>by simp[keys] at hi;rcases hi with rfl|rfl<;>simp[liveK,sg],by simp[ax,ak,keys],by simp[bV,ak,ax,cm],rfl⟩;simp only[go_sem,J];refine aR [4,3] rfl ?_ ?_ rfl rfl (fun i hi=>by simp at hi;subst hi;simp[liveK,keys]) (sgD _ _)
 .simp only[go_sem,cn,ci]
 .simp only[go_sem,cn];exact aC _ _ _ _):=h
def afP(h:p:=by subst hc;simp only[go_sem,J,sy hlt,hat,hw,sy hta];omega):=h
def afQ(h:p:=by
 refine⟨hk8,aA [0,1,2,3] rfl ?_ ?_ rfl rfl (cV rfl)⟩
 .simp only[go_sem]
 .simp only[go_sem]):=h
def afR(h:p:=by simp only[jn0,km,List.map_nil,and_self]):=h
def afS(h:p:=by exact⟨rfl,rfl,rfl,rfl,rfl,rfl,rfl,rfl,rfl⟩):=h
def afT(h:p:=by refine en Tryz.func212 Tryz.ntmps212 Tryz.results212 ai0 ?_;intro c J h0 Y Z;simp only[go_sem,J,hy,hk,c16,hj];exact av _):=h
def afU(h:p:=by refine en Tryz.func212 Tryz.ntmps212 Tryz.results212 ai0 ?_;intro c J h0 Y Z;simp only[go_sem,J,hy,hk,c1,hj,↓zbN,bS,Abs.strOf,bL];refine⟨ε,by rw[dO];exact c7 _,?_⟩;exact av _):=h
def afV(h:p:=by refine aa Z h2 ?_;simp only[go_sem,J]):=h
def afW(h:p:=by
 simp only[go_sem,J];refine⟨π,aq [0] rfl ?_ ?_ rfl rfl (fun i hi=>by simp at hi;subst hi;exact⟨rfl,ξ⟩) (fun i hi=>by simp[liveK] at hi;simp;omega)⟩
 .simp only[go_sem]
 .simp only[go_sem]):=h
def afX(h:p:=by
 refine aq [0,1] rfl ?_ ?_ rfl rfl (fun i hi=>by simp at hi;rcases hi with rfl|rfl<;>exact⟨rfl,ξ⟩) (fun i hi=>by simp[liveK] at hi;simp;omega)
 .simp only[go_sem,xt0]<;>rfl
 .simp only[go_sem]):=h
def afY(h:p:=by
 unfold gX at *;by_cases h1:0<=x.fr
 .by_cases h2:x.fr<=x.nx
  .by_cases h3:x.nx<=x.tto
   .by_cases h4:x.tto<=16
    .simp only[go_sem,J,h1,h2,h3,h4,decide_true]
    .simp only[go_sem,J,h1,h2,h3,h4,decide_true,decide_false]
   .simp only[go_sem,J,h1,h2,h3,decide_true,decide_false]
  .simp only[go_sem,J,h1,h2,decide_true,decide_false]
 .simp only[go_sem,J,h1,decide_true,decide_false]):=h
def afZ(h:p:=by refine en Tryz.func265 Tryz.ntmps265 Tryz.results265 [0,1,2,3,6,7,8,9,10,11,12,13,16,23,32,38,60] ?_;intro c J h0 Y Z;simp only[go_sem,J,hon,h16,(ω:¬((i:Int)<0))];refine aa Z hl ?_;simp only[go_sem,J,he,decide_true,hx,hw1];refine aa Z hle ?_;simp only[go_sem,J,hw];refine x_f Z h2 ?_;simp only[go_sem,J,hz];kernel_rfl):=h
def af0(h:p:=by
 split
 .have hby2:FPure Tryz.prog 160 [.agg [.i x.k,.w x.n,sv x.s]] (sv by'):=hby;rw[hk] at hby2;apply aa Z hby2;simp only[go_sem,J];apply aa Z hls;simp only[go_sem,J];cases ls<;>(first|(simp_all;done)|(simp_all;(repeat' split at hR)<;>omega))
 .first|(simp_all;done)|(simp_all;(repeat' split at hR)<;>omega)):=h
def af1(h:p:=by exact(show aj _ _ _ [] [] from by simp[aj])):=h
def af2(h:p:=by subst hR;exact⟨⟨rfl,⟨rfl,rfl⟩,rfl,rfl,rfl,rfl,rfl,rfl⟩,rfl,rfl⟩):=h
def af3(h:p:=by
 simp only[go_sem,J];apply aa Z (gy X.j _ X.left X.err rfl ω);have hfe:(if X.err=0 then(⟨⟨X.j,bJ X.j⟩,X.left,0⟩:VR) else bU X.j X.err)=jJ X.j X.left X.err:=rfl;rw[hfe,hR];simp only[go_sem,J]
 (try exact⟨π,⟨rfl,⟨rfl,rfl⟩,rfl,rfl,rfl,rfl,rfl,rfl⟩,rfl,rfl⟩)
 refine Eq.trans (b:=true) ?_ rfl;kernel_rfl):=h
def af4(h:p:=by
 simp only[go_sem]
 repeat' (first|exact aG _|exact jq _ _ _|exact bR (by simp only[go_sem,List.length_map,c9,ew,km,List.length_replicate]<;>omega) _ _ (iO _ _ _)|refine⟨?_,?_⟩)):=h
def af5(h:p:=by
 have:restr ([id]++keys []) (updH [] (hget st.hp))=restr [id] (hget st.hp):=by funext i;simp[restr,keys,updH]
 rw[this];exact hpre.hp):=h
def af6(h:p:=by
 refine⟨π,⟨ω,ω⟩,π,aq [0,1] rfl ?_ ?_ rfl rfl (fun i hi=>by simp at hi;rcases hi with rfl|rfl<;>exact⟨rfl,ξ⟩) (fun i hi=>by simp[liveK] at hi;simp;omega)⟩
 .simp only[go_sem]<;>rfl
 .simp only[go_sem]):=h
def af7(h:p:=by
 revert h;cases hu:P.underlying t with
 |none=>intro h;cases h
 |some d=>cases d<;>intro h<;>first|rfl|cases h):=h
def af8(h:p:=by refine en Tryz.func212 Tryz.ntmps212 Tryz.results212 ai0 ?_;intro c J h0 Y Z;simp only[go_sem,J,hy,hk,c2,hj];exact av _):=h
def af9(h:p:=by
 refine⟨ω,ω,ω,ω,ω,ω,ω,ω,?_⟩;apply aa Z ht;simp only[go_sem,J,hw];refine⟨⟨ω,ω⟩,ω,h,ow [6] [0,1,2,3,4,5] rfl ?_ ?_ rfl rfl ⟨rfl,trivial⟩ (cV rfl)⟩
 .simp only[go_sem]
 .simp only[go_sem];rw[<-pj];exact bX _ _ _ (l9 _ _ _ _ _) (nO rfl)):=h
def aga(h:p:=by intro A cap hcap hv;obtain⟨m,hm1,hm2,hrun⟩:=me (P:=P) hb (fun y hy=>hin y (hin' y hy)) h0 h1 h2 hcap true;refine⟨m,hm1,hm2,?_⟩;simp only[execOp,ho,hv,Instr.sliceAt,qs hu,hW,ez,Instr.slice,hrun,sizeOf,typeInfo,run_program,hi',lh,hz,hs]):=h
def agb(h:p:=by
 refine⟨ω,h,ow [6] [0,1,2,3,4,5] rfl ?_ ?_ rfl rfl ⟨rfl,trivial⟩ (cV rfl)⟩
 .simp only[go_sem]
 .simp only[go_sem];rw[<-pj];exact bX _ _ _ (l9 _ _ _ _ _) (nO rfl)):=h
def agc(h:p:=by refine en Tryz.func212 Tryz.ntmps212 Tryz.results212 ai0 ?_;intro c J h0 Y Z;simp only[go_sem,J,hy,hk,c3,hj,↓zbN,bS,Abs.strOf,bL];refine⟨ε,by rw[dO];exact c7 _,?_⟩;exact av _):=h
def agd(h:p:=by exact bm h0 hj (aA [0,1,2,3,4,5,6] rfl κ κ rfl rfl (cV rfl))):=h
def age(h:p:=by
 refine x_k Z 3 ha ?_;simp only[go_sem,J];refine x_k Z 3 hs ?_;simp only[go_sem,J];refine aq [0,1] rfl ?_ ?_ rfl rfl (fun i hi=>by simp at hi;rcases hi with rfl|rfl<;>exact⟨rfl,ξ⟩) (fun i hi=>by simp[liveK] at hi;simp;omega)
 .simp only[go_sem]
 .simp only[go_sem];rfl):=h
def agf(h:p:=by split at h<;>first|cases h;done|(unfold fC at h;split at h<;>simp[R.pureS] at h)):=h
def agh(h:p:=by first|(simp_all;done)|(simp_all;(repeat' split at hR)<;>omega)):=h
def agi(h:p:=by
 show IntKind.i64.wrap ((((BitVec.ofInt 64 ((a*256:Nat):Int)) ||| (BitVec.ofInt 64 (b:Int))).toNat:Nat):Int)=_;rw[BitVec.toNat_or,sw _ ω,sw _ ω];have e2:a*256 ||| b=a*256+b:=by
  rw[show(256:Nat)=2^8 from rfl,Nat.mul_comm,<-Nat.two_pow_add_eq_or_of_lt ω]
 rw[e2,ab ω ω]):=h
def agj(h:p:=by simp only[go_sem,J];rw[kn,cD (by simp[az])];exact⟨⟨by rw[az];exact c7 _,aG _⟩,by rw[az],rfl,aJ _⟩):=h
def agk(h:p:=by have hmm:(List.map (fun x=>x.2) (l.take l.length)).length=l.length:=η;rw[List.take_length] at hll;simp only[go_sem,J,(ω:¬((l.length:Int)<(l.length:Int)))];rw[List.take_length,cD (by rw[hll];simp)];exact⟨⟨by rw[hll];simp,aG _⟩,aJ _⟩):=h
def agl(h:p:=by exact bm h0 hj (aA [] rfl (by simp only[go_sem]<;>decide) trivial rfl rfl (gi _))):=h
def agm(h:p:=by
 cases hv:gX ⟨m,((b.getD 8 0).toNat:Int),((b.getD 9 0).toNat:Int),((b.getD 10 0).toNat:Int)⟩ with
 |false =>
  rw[hv,b0 η] at hR;subst hR;simp only[go_sem,J];exact⟨rfl,rfl,rfl,rfl⟩
 |true =>
  rw[hv,b9 ⟨rfl,rfl⟩] at hR;subst hR;simp only[go_sem,J]):=h
def agn(h:p:=by
 obtain rfl:i=l.length:=by omega
 have hnc:¬((l.length:Int)<(l.length:Int)):=ω;simp only[go_sem,J,PL,hnc];rw[cD (c7 _)];have hsl:(aV l).length=l.length:=by simp[aV]
 exact⟨c7 _,hsl,by rw[cD (c7 _)]⟩):=h
def ago(h:p:=by refine⟨ω,?_⟩;rw[cD (by simp only[kK];omega)];refine aa Z (CJ _ _ (by simp only[kK];omega) ω) ?_;simp only[go_sem,J];subst ex;simp only[db,hn,and_self];exact⟨⟨trivial,trivial,rfl,trivial⟩,trivial⟩):=h
def agp(h:p:=by
 refine⟨⟨ω,ω⟩,ω,by rw[pI];omega,hlt,aA [0,3] rfl ?_ ?_ rfl rfl (cV rfl)⟩
 .simp only[go_sem]
 .simp only[go_sem];rw[show ∀l (a b:Int),gsX l++[AV.p (.v (.int .i64 a)),.p (.v (.int .i64 b))]=gsX (l++[(a,b)]) from Bu];exact Kq _ _ _ _):=h
def agq(h:p:=by
 refine aq [0] rfl ?_ ?_ rfl rfl (fun i hi=>?_) (fun i hi=>?_)
 .simp only[go_sem]
 .simp only[go_sem]
 .simp at hi;subst hi;exact⟨rfl,ξ⟩
 .simp[liveK] at hi;simp;omega):=h
def agr(h:p:=by simp only[Src.some.injEq] at h;obtain⟨rfl,rfl,rfl,rfl⟩:=h;refine⟨fun i hi=>by simp at hi,fun{ρ F w u T'} _ _ hr=>?_⟩;have:=hr.pv;subst this;exact⟨η,[],SrcV.slice η (fun _=>rfl) (fun ad e j v hv=>by simp at hv),rfl,fun j x hx=>by simp at hx⟩):=h
def ags(h:p:=by
 apply aa Z ha;by_cases c8:a=y
 .rw[b0 (fun c=>c c8)] at hR;subst hR;subst c8;simp only[go_sem,J]
 .rw[b9 c8] at hR;subst hR;simp only[go_sem,J,show¬((a.toNat:Int)=(y.toNat:Int)) from fun h=>c8 (s9.1 ω)]):=h
def agt(h:p:=by
 subst h6;rw[o0 _ _ rfl] at Y Z⊢;simp only[go_sem,J,hNe,(ω:¬((N:Int)<(N:Int)))];refine aR [0,4,2] rfl ?_ ?_ rfl rfl (fun i hi=>by simp at hi;rcases hi with rfl|rfl<;>simp[liveK,keys,sg]) (oW _ _)
 .simp only[go_sem]
 .simp only[go_sem]):=h
def agu(h:p:=by
 have hn:j∉keys (renU τ u0):=by
  rw[kC];intro hm;obtain⟨i,hi,he⟩:=o4.1 hm;exact hSno i hi (he ▸ h2)
 simp only[updH,b0 hn] at hjk;have hdel:=uH S [] j;simp only[List.append_nil] at hdel;rw[hdel,b9 h2] at hjk;cases hjk):=h
def agv(h:p:=by
 have hall:l.all (fun c=>decide (c.length<=512))=false:=by
  rw[List.all_eq_false];exact⟨b,hmem,ζ⟩
 rw[b0 (by rw[hall];simp)] at hR;subst hR;rw[b0 ε] at hD;subst hD;simp only[go_sem,J,hc',bC,hb,byP,h9];exact⟨ω,ω,fy⟩):=h
def agw(h:p:=by
 unfold mountM at h⊢;split
 .rfl
 .rename_i h1;rw[b0 h1] at h;split
  .rename_i h2;rw[b9 h2] at h;exact s5 rfl h
  .rename_i h2;rw[b0 h2] at h;split
   .rfl
   .rename_i h3;rw[b0 h3] at h;exact s5 rfl h):=h
def agx(h:p:=by
 refine⟨π,⟨i+1,ω,hb⟩,by dsimp only;omega,?_⟩;refine aA [0,1] rfl ?_ ?_ rfl rfl (cV rfl)
 .simp only[go_sem]
 .simp only[go_sem]):=h
def agy(h:p:=by rw[cD (by rw[qC];exact c7 _),cD ω];exact⟨⟨⟨c7 _,(G5 _).2 trivial⟩,ω⟩,AC _,rfl⟩):=h
def agz(h:p:=by
 refine x_k Z 1 k3 ?_;simp only[go_sem,J];refine aq [0] rfl ?_ ?_ rfl rfl (fun i hi=>by simp at hi;subst hi;exact⟨rfl,ξ⟩) (fun i hi=>by simp[liveK] at hi;simp;omega)
 .simp only[go_sem];exact Au _
 .simp only[go_sem]):=h
def agA(h:p:=by
 obtain rfl:i=l.length:=by omega
 have hnc:¬((l.length:Int)<(l.length:Int)):=ω;simp only[go_sem,J,PL,hnc];rw[cD (c7 _)];exact⟨c7 _,cB l,by rw[cD (c7 _)]⟩):=h
def agB(h:p:=by refine en Tryz.func129 Tryz.ntmps129 Tryz.results129 [0,1,2,3,4,5,7,10,11,12,14,15,26,37,48,59,70,81,92,103,114,125,136,147,158,171] ?_;intro c J h0 Y Z;simp only[go_sem,J,k1,k2,k3,k4,k5,k6,k7,k8,k9,k10,k11,k12,k13,k14,hon]):=h
def agC(h:p:=by have:=congrArg List.length hB';rw[kK,c9,c9,ci,hz,hL] at this;omega):=h
def agD(h:p:=by exact⟨π,⟨(i+1,false),by show i+1<=_;omega,fun _=>hnx⟩,by show r.ls.length-(i+1)<r.ls.length-i;omega,aA [0,1,2,3,4,5,6] rfl κ (by simp only[go_sem,if_false,Bool.false_eq_true]) rfl rfl (cV rfl)⟩):=h
def agE(h:p:=by
 simp only[go_sem,J];apply aa Z (bW rp ω);simp only[go_sem,J,h8];apply aa Z (bW nm ω);simp only[go_sem,J,h9];cases sh<;>cases rs<;>cases bk<;>simp at h10 h11
 all_goals simp only[go_sem,J]):=h
def agF(h:p:=by
 refine⟨π,⟨ω,ω⟩,π,aq [0,1] rfl ?_ ?_ rfl rfl (fun i hi=>by simp at hi;rcases hi with rfl|rfl<;>exact⟨rfl,ξ⟩) (fun i hi=>by simp[liveK] at hi;simp;omega)⟩
 .simp only[go_sem,xt0]<;>rfl
 .simp only[go_sem]):=h
def agG(h:p:=by rw[b9 ω] at hR;subst hR;refine en Tryz.func229 Tryz.ntmps229 Tryz.results229 [0,1,2,3,4,10,11,12,13,14,15,16,17,18,22,35,53,58,70,87] ?_;intro c J h0 Y Z;simp only[go_sem,J,(ω:((at':Int)>=(n:Int)))]):=h
def agH(h:p:=by
 refine⟨π,⟨ω,ω⟩,π,aq [0,1] rfl ?_ ?_ rfl rfl (fun i hi=>by simp at hi;rcases hi with rfl|rfl<;>exact⟨rfl,ξ⟩) (fun i hi=>by simp[liveK] at hi;simp;omega)⟩
 .simp only[go_sem];rfl
 .simp only[go_sem]):=h
def agI(h:p:=by rw[b0 (fun c=>c.elim (fun c=>s5 c.1 ε) fun c=>c5 c.2)] at hR;rw[b0 (fun c=>s5 c.1 ε)] at hR;rw[b0 (fun c=>s5 c.1 ε)] at hR;rw[b0 (fun c=>by cases c.1)] at hR;exact s5 hR.symm hR0):=h
def agJ(h:p:=by exact⟨η,[],SrcV.slice η (fun _=>rfl) (fun ad e j v hv=>by simp at hv),rfl,fun j x hx=>by simp at hx⟩):=h
def agK(h:p:=by refine aa Z hl ?_;simp only[go_sem,J,he,decide_false,hw];exact⟨h8,aA [0,1] rfl (by simp only[go_sem,List.append_nil]) (by simp only[go_sem,List.append_nil]) rfl rfl (cV rfl)⟩):=h
def agL(h:p:=by
 simp only[go_sem,J];refine aq [0] rfl ?_ ?_ rfl rfl (fun i hi=>by simp at hi;subst hi;exact⟨rfl,ξ⟩) (fun i hi=>by simp[liveK] at hi;simp;omega)
 .simp only[go_sem]
 .simp only[go_sem];exact l7 _ _ _ _):=h
def agM(h:p:=by
 rw[<-hlen];simp only[go_sem,J]
 (try go_unwrap)
 refine⟨⟨ω,ω⟩,hin,aA [2] rfl ?_ ?_ rfl rfl (c7 _)⟩
 .simp only[go_sem,hst]
  (try simp)
  (try omega)
 .simp only[go_sem,hst];exact dK _ _ _ _):=h
def agN(h:p:=by obtain⟨y,_,rfl⟩:=o4.1 hc;trivial):=h
def agO(h:p:=by simp[cR,h]):=h
def agP(h:p:=by simp only[go_sem];exact aC _ _ _ _):=h
def agQ(h:p:=by
 simp only[go_sem]
 repeat' (first|exact aG _|exact jq _ _ _|exact bR (by simp only[go_sem,List.length_map,c9,ew,km]<;>omega) _ _ (Kl _ _ _)|refine⟨?_,?_⟩)):=h
def agR(h:p:=by
 exact⟨h.chg.os,h.chg.tape,h.chg.output,h.chg.size,h.chg.same,h.chg.cells,fun b hb => .inl (h.chg.sub b hb),fun b hb=>by
  rcases hb with hb|hb
  .exact h.chg.new b hb
  .exact .inr (hOlt b hb).2⟩):=h
def agS(h:p:=by
 obtain rfl:i=n:=by omega
 have hc:¬((i:Int)<(i:Int)):=ω;simp only[go_sem,J,hc];have hr:ma i i=cb (List.replicate i 255):=by simp[ma]
 rw[hr,cD η];exact⟨⟨η,lY _⟩,lZ _⟩):=h
def agT(h:p:=by
 by_cases h1:lo<=n
 .by_cases h2:n<=hi
  .simp only[go_sem,J,h1,h2,show n>=lo from h1]
  .simp only[go_sem,J,h1,h2,show n>=lo from h1]
 .simp only[go_sem,J,h1,show¬n>=lo from h1,decide_false]):=h
def agU(h:p:=by
 obtain rfl:i=19:=by omega
 rw[show l.take 19=l from cD (by rw[hl.len];decide)];generalize cO l=b at *;simp only[go_sem,J];exact⟨c7 _,by rw[List.take_length]⟩):=h
def agV(h:p:=by
 rw[ho];congr 2
 .exact dZ ha
 .exact dZ ht):=h
def agW(h:p:=by
 refine⟨⟨ω,ω⟩,π,his,kY [0,1] [0,1,2] rfl ?_ ?_ rfl rfl (cV rfl) (fun i hi=>by simp at hi;rcases hi with rfl|rfl<;>rfl)⟩
 .simp only[go_sem]
 .simp only[go_sem]):=h
def agX(h:p:=by subst this;refine aa Z (cU j.ps j.bs n 9 hn) ?_;rw[br 9 ε];simp only[go_sem,J]):=h
def agY(h:p:=by rw[List.nil_append,List.nil_append,km] at this;rw[this,e1,uc,dX,List.take_append,cD hl,List.take_replicate,List.drop_replicate,Nat.min_eq_left ω]):=h
def agZ(h:p:=by simp only[go_sem,J];refine aa Z hh ?_;simp only[go_sem,J]):=h
def ag0(h:p:=by rw[b0 (fun h=>h hx)] at hR⊢;refine aa Z (kT X.j _ rfl ω) ?_;simp only[go_sem,J];subst hR;exact⟨π,⟨rfl,⟨rfl,rfl⟩,rfl,rfl,rfl,rfl,rfl,rfl⟩,rfl,rfl⟩):=h
def ag1(h:p:=by
 obtain rfl:i=l.length:=by omega
 have hnc:¬((l.length:Int)<(l.length:Int)):=ω;simp only[go_sem,J,PL,hnc];rw[cD (c7 _)]
 (try exact⟨rfl,rfl⟩)):=h
def ag2(h:p:=by
 show Rd ρ F w (match od g with|some cs => .cp (cs.map .v)|none => .any) (.pointer (some ⟨g,0,none⟩));cases hg:od g with
 |none=>exact .any _
 |some cs=>exact h.glob.rd hg):=h
def ag3(h:p:=by
 intro i;show(match Nat.beq nx i with|true=>_|false=>hget hp i)=_;by_cases h:nx=i
 .subst h;simp
 .rw[eN h,b0 h]):=h
def ag4(h:p:=by
 refine aq [0,1] rfl ?_ ?_ rfl rfl (fun i hi=>by simp at hi;subst hi;exact⟨rfl,ξ⟩) (fun i hi=>by simp[liveK] at hi;simp;omega)
 .simp only[go_sem]
 .simp only[go_sem]):=h
def ag5(h:p:=by
 obtain⟨ar2,t2,fr2,hb2,hm2⟩:=hcm;by_cases e:c=b
 .subst e;rw[ha] at hb2;cases hb2;exact⟨arr,_,_,hnew,hm2⟩
 .exact⟨ar2,t2,fr2,by rw[hold c e];exact hb2,hm2⟩):=h
def ag6(h:p:=by
 simp only[go_sem,J,hw];refine⟨⟨ω,ω⟩,h19,aA [1] rfl ?_ ?_ rfl rfl (cV rfl)⟩
 .simp only[go_sem]
 .simp only[go_sem,dl,dX];exact aC _ _ _ _):=h
def ag7(h:p:=by show Int.fdiv (n:Int) (2^(min (k:Int).toNat 64))=_;rw[h5,Nat.min_eq_left h,Int.fdiv_eq_ediv_of_nonneg _ (by have:(0:Int)<2^k:=Int.pow_pos ε;omega)];simp):=h
def ag8(h:p:=by have:=hl.bs 19 ε;rw[show l.take 19=l from cD (by rw[hl.len];decide),<-hB,hL] at this;omega):=h
def ag9(h:p:=by
 obtain rfl:i=l.length:=by omega
 have hnc:¬((l.length:Int)<(l.length:Int)):=ω;rw[cD (c7 _)] at hno;simp only[go_sem,J,hnc,C2 k l hno]):=h
def aha(h:p:=by
 intro x hx;rw[hta] at hx;rcases o1.1 hx with hx|hx
 .exact hno x hx
 .simp at hx;rw[hx];exact he):=h
def ahb(h:p:=by
 refine⟨⟨hll,ω,ω⟩,h,aA [2] rfl ?_ ?_ rfl rfl (cV rfl)⟩
 .simp only[go_sem]
 .simp only[go_sem];exact(tQ _ _ _).symm ▸ l9 _ _ _ _ _):=h
def ahc(h:p:=by
 refine⟨π,⟨i+1,⟨ω,ω⟩,hst⟩,by show 16-(i+1)<16-i;omega,aA [0] rfl ?_ ?_ rfl rfl (cV rfl)⟩
 .simp only[go_sem]
 .simp only[go_sem]):=h
def ahd(h:p:=by rw[b0 (fun c=>by cases c.1)] at hR;exact s5 hR.symm hR0):=h
def ahe(h:p:=by
 refine⟨rfl,?_,?_,rfl,rfl,trivial,fun i h=>h⟩
 .simp only[go_sem]
  try simp
 .simp only[go_sem,an,wK]):=h
def ahf(h:p:=by simp only[iM,km,List.map_nil,and_self]):=h
def ahg(h:p:=by
 intro l
 induction l with
 |nil=>intro h;cases h
 |cons q l ih =>
  intro h;simp only[szM];rcases hZ.1 h with rfl|h
  .omega
  .have:=ih h;omega):=h
def ahh(h:p:=by refine⟨.agg us',?_,.agg _ _ h3 (fun j c hj=>(h4 j c hj).2)⟩;simp only[execOp,ho,hW,run_build w t _ us' hb,ez,lh]):=h
def ahi(h:p:=by simp only[show((24:Nat):Int)=24 from rfl,show((16:Nat):Int)=16 from rfl,show((8:Nat):Int)=8 from rfl] at h24 h16 h8;rw[h24,h16,h8,lo8,lo8,lo8,lo8];rfl):=h
def ahj(h:p:=by
 simp only[ep] at hv;subst hv;cases hr with
 |p _ _ h=>exact h.mono (fun _ h => .inl h) (fun _ _=>rfl)):=h
def ahk(h:p:=by
 have hR:9=R:=by simpa using hR
 subst hR;simp only[go_sem,J]):=h
def ahl(h:p:=by simp only[go_sem,J];rw[cD (Nat.le_of_eq (dO z))];have e:z=(zb z).length:=(dO z).symm;generalize zb z=b at *;subst e;exact av _):=h
def ahm(h:p:=by unfold tk at hb;subst hm;simp only[go_sem,J,(ω:(60-(i:Int)>=0)),hs,hb,No,Fp,g6,hw];exact⟨h,eh rfl κ trivial rfl rfl (c7 _)⟩):=h
def ahn(h:p:=by simp[restr,updH,keys,hget] at h;obtain⟨h1,h2⟩:=h;subst h1;simp at h2):=h
def aho(h:p:=by refine⟨rfl,?_,trivial,rfl,rfl,trivial,fun i h=>h⟩;simp only[go_sem]):=h
def ahp(h:p:=by simp only[execOp,ho,resolve,invoke,builtin,hW,lh,ez,List.map_toArray,hX,List.map_nil,hxv,hr]):=h
def ahq(h:p:=by refine⟨ω,ω,?_⟩;refine aa Z hfi ?_;simp only[go_sem,J,hil,bC,byP];refine⟨π,ω,ω,?_⟩;refine aa Z hnu ?_):=h
def ahr(h:p:=by
 have hdl:d<2^64:=by rw[<-hd];exact Nat.lt_of_le_of_lt (Nat.div_le_self _ _) hw
 rw[ie hdl,<-Nat.div_div_eq_div_mul,hd];omega):=h
def ahs(h:p:=by subst hR;refine aa Z (cU j.ps j.bs n 18 hn) ?_;rw[br 18 ε];simp only[go_sem,J]):=h
def aht(h:p:=by rw[hc] at hb;have:=List.mem_of_mem_take hb;simp only[hZ,List.not_mem_nil,or_false] at this;rcases this with rfl|rfl<;>decide):=h
def ahu(h:p:=by
 rename_i hx hy;split
 .rename_i hk
  exact pE ho hk hy (fun hn ρ F w u hr=>by
   rw[hx] at hr
   exact⟨_,_,_,hr.pv,rfl⟩)
 .exact .bad):=h
def ahv(h:p:=by simp only[go_sem,J];rw[cb3,kn,dX,cD (by simp[az])];refine⟨az _ _,π,⟨by simp[az],lY _⟩,by simp[az],lZ _⟩):=h
def ahw(h:p:=by rw[hb];show(UInt8.ofNat (p.2.length/256)).toNat*256+(UInt8.ofNat p.2.length).toNat=_;rw[nw,nw];omega):=h
def ahx(h:p:=by
 have hge:a.tmps.size<=d:=by
  rw[h.size]
  grind [Nat.lt_or_ge,Nat.blt,Nat.blt_eq]
 grind):=h
def ahy(h:p:=by refine aa Z hh ?_;simp only[go_sem,J];refine⟨bL _,?_⟩;rw[bS];simp only[go_sem,J,Abs.strOf,EQ];exact⟨ω,π⟩):=h
def ahz(h:p:=by
 by_cases h:nx=i
 .subst h;rw[b9 rfl] at hk;cases hk;exact .inl ⟨rfl,hn⟩
 .rw[b0 h] at hk;exact hc.heap.ok i k hk):=h
def ahA(h:p:=by simp only[go_sem,J];rw[cD (by rw[jA,hl.len];decide)];simp only[go_sem];exact⟨π,by rw[hl.len];decide⟩):=h
def ahB(h:p:=by rw[(ω:(m+1-tm).toNat=0),awT] at hc;subst hc;simp only[go_sem,J,w30,hm,hle]):=h
def ahC(h:p:=by
 simp only[fzA] at he;cases v<;>simp only[eqN] at he<;>first|(cases he;done)|skip
 simp only[aS];exact sj h S σ cs _ he hS ho):=h
def ahD(h:p:=by
 obtain⟨es2,c2,hb2⟩:=hcm;by_cases e:c=b
 .subst e;rw[ha] at hb2;cases hb2
 .exact⟨es2,c2,by rw[hold c e];exact hb2⟩):=h
def ahE(h:p:=by simp only[go_sem,J];exact mJ _ _ _ _ _ (cY _) (cY _) ⟨rfl,rfl⟩ ⟨rfl,rfl⟩):=h
def ahF(h:p:=by refine aa Z (cU j.ps j.bs n 12 hn) ?_;rw[br 12 ε];simp only[go_sem,J]):=h
def ahG(h:p:=by
 obtain⟨p,hp,rfl⟩:=o4.1 hb;rw[jh];rcases nQ hp with⟨hp,_⟩|hp
 .have:=hl p hp;omega
 .have:=hv p hp;omega):=h
def ahH(h:p:=by obtain⟨rfl,rfl⟩:=bad ω;exact⟨⟨rfl,rfl,rfl⟩,rfl⟩):=h
def ahI(h:p:=by
 have e1:es'.size=((es'.toList.map (rg P kt RV)).foldr DataW.insert []).length:=by rw[length_sorted];simp
 grind [entries]):=h
def ahJ(h:p:=by simp[keys] at hi;simp[liveK];omega):=h
def ahK(h:p:=by simp only[go_sem];exact gT _ _ _ _):=h
def ahL(h:p:=by
 refine⟨rfl,?_,?_,rfl,rfl,trivial,fun i h=>h⟩
 .simp only[go_sem,PL];simp[aV]
 .simp only[go_sem];simp[aV,byL,aj]):=h
def ahM(h:p:=by rw[b0 (fun h=>h11 h.1)] at hR;subst hR;simp only[go_sem,J,(ω:¬((n:Int)=11))];exact⟨rfl,rfl,rfl,rfl⟩):=h
def ahN(h:p:=by refine⟨ε,by rw[dO];exact c7 _,?_⟩;rw[cD (by rw[dO];exact c7 _)];exact av _):=h
def ahO(h:p:=by
 refine⟨rfl,?_,?_,rfl,rfl,trivial,fun i h=>h⟩
 .simp only[go_sem,PL];simp[bh]
 .simp only[go_sem];simp[bh,cb,aj]):=h
def ahP(h:p:=by simp only[go_sem];rw[cD (by simp[am])]):=h
def ahQ(h:p:=by
 have:((q:Int)*(p:Int)+(t:Int)).toNat=q*p+t:=by(have e:(q:Int)*(p:Int)=((q*p:Nat):Int):=by simp);rw[e];omega
 rw[this]):=h
def ahR(h:p:=by
 split
 .rw[b9 ‹_›] at hR;exact hR
 .rw[b0 ‹_›] at hR;rw[<-hR];split<;>split<;>(try split)<;>omega):=h
def ahS(h:p:=by
 refine⟨hk15,aA [0,1,2,3] rfl ?_ ?_ rfl rfl (cV rfl)⟩
 .simp only[go_sem]
 .simp only[go_sem]):=h
def ahT(h:p:=by have hh:=h ρ F a w hc;exact Go.wp_mono (show body.wp c.P _ a w from hh) key):=h
def ahU(h:p:=by exact bm h0 hj (aA [0,1,2] rfl κ (by simp only[go_sem,e3];exact sD _ _ _ _) rfl rfl (cV rfl))):=h
def ahV(h:p:=by simp[keys] at hj;subst hj;exact .inr ⟨c7 _,Nat.lt_succ_self _⟩):=h
def ahW(h:p:=by simp[execOp,ho,hv,hr2.pv,Instr.indexAt,asIntOf,qs hu,Instr.sureAddr,h0,h1,sizeOf,typeInfo,hi',hz,dJ]):=h
def ahX(h:p:=by simp only[go_sem];exact c7 _):=h
def ahY(h:p:=by simp only[go_sem,J];refine aa Z hv ?_;simp only[go_sem,J,hz]):=h
def ahZ(h:p:=by exact⟨ω,ω,ω,ω,h,aA [0,1,2,3,4,5] rfl κ (by simp only[go_sem,hFs]) rfl rfl (cV rfl)⟩):=h
def ah0(h:p:=by simp only[go_sem,hPz];exact⟨(show aj _ _ _ [] [] from by simp[aj]),(show aj _ _ _ [] [] from by simp[aj])⟩):=h
def ah1(h:p:=by
 by_cases h:nx=i
 .subst h;exact Nat.lt_succ_self _
 .rw[b0 h] at hi;exact Nat.lt_succ_of_lt (hc.dom i hi)):=h
def ah2(h:p:=by unfold aF;rw[h.get t,b9 ω,h.get (t+1),b9 ω,Nat.sub_self,show t+1-t=1 by omega,u6,u7];exact rq _ h2):=h
def ah3(h:p:=by
 refine⟨rfl,?_,?_,rfl,rfl,trivial,fun i h=>h⟩
 .simp only[go_sem]
 .simp only[go_sem];exact nA _ _ _ _ _):=h
def ah4(h:p:=by
 refine⟨rfl,?_,?_,rfl,rfl,trivial,fun i h=>h⟩
 .simp only[go_sem,hn]
 .simp only[go_sem];simp[prA,ft,aj]):=h
def ah5(h:p:=by simp only[go_sem,J];refine aa Z h3 ?_;simp only[go_sem,J]):=h
def ah6(h:p:=by simp only[go_sem];rw[cD (by rw[mw];exact c7 _)];exact⟨c7 _,aG _⟩):=h
def ah7(h:p:=by
 cases v with
 |true=>exact .inl ⟨rfl,rfl⟩
 |false=>exact .inr ⟨rfl,c3.elim (fun h=>by cases h) id⟩):=h
def ah8(h:p:=by
 rw[cD ω]
 first
  |exact⟨⟨ω,aG _⟩,rfl,aJ _⟩
  |exact⟨⟨ω,aG _⟩,aJ _⟩):=h
def ah9(h:p:=by
 unfold laI laP;by_cases hj:j=1
 .subst hj;rfl
 .rw[b0 ω,b0 hj,(ω:(2*j-1)/2=j-1)];rfl):=h
def aia(h:p:=by refine en Tryz.func96 Tryz.ntmps96 Tryz.results96 [0,2,4] ?_;intro c J h0 Y Z;simp only[go_sem,J]):=h
def aib(h:p:=by exact bm h0 hj (aA [0,1,2,3,4] rfl (by simp only[go_sem,hm3]) κ rfl rfl (cV rfl))):=h
def aic(h:p:=by
 simp only[go_sem];rw[cD (by rw[mw];exact c7 _)];simp only[go_sem]
 done):=h
def aid(h:p:=by simp only[go_sem,J,(ω:¬((i:Int)<(i:Int)))];exact⟨ω,by rw[cD ω]⟩):=h
def aie(h:p:=by rename_i hG;refine aa Z (cU G.f.ps G.f.bs _ G.err rfl) ?_;rw[fin hG];simp only[go_sem,J]):=h
def aif(h:p:=by exact⟨π,hlt,aA [0,1,2,3] rfl κ (by simp only[go_sem,px]) rfl rfl (cV rfl)⟩):=h
def aig(h:p:=by
 refine⟨rfl,?_,?_,rfl,rfl,trivial,fun i h=>h⟩
 .simp only[go_sem];simp[bF]
 .simp only[go_sem]):=h
def aih(h:p:=by
 rw[hta] at hx;rcases o1.1 hx with hx|hx
 .exact hsm x hx
 .simp at hx;subst hx;omega):=h
def aii(h:p:=by simp only[go_sem,J,hw];exact⟨π,hlt,aA [0,1] rfl κ κ rfl rfl (cV rfl)⟩):=h
def aij(h:p:=by exact bm h0 hj (aA [0,1,2] rfl κ (by simp only[go_sem,e4]) rfl rfl (cV rfl))):=h
def aik(h:p:=by rw[b9 ω] at hR;subst hR;exact⟨rfl,rfl⟩):=h
def ail(h:p:=by
 intro i hi hr;rw[hg] at hi;by_cases h:nx=i
 .subst h;exact s5 hn hr
 .rwa [b0 h] at hi):=h
def aim(h:p:=by simp only[go_sem];exact bR (by show 0+z*1<=(cb (zb z)).length;rw[wL,dO];omega) _ _ (iO _ _ _)):=h
def ain(h:p:=by
 cases mx with
 |none=>rfl
 |some y =>
  simp only[Option.map_some] at hm;unfold sB at hm
  grind):=h
def aio(h:p:=by simp only[aE,hr,hl,hp,hu,hul,cD (Nat.le_of_eq hul),and_self,c7]):=h
def aip(h:p:=by rw[b9 hml,show h.toNat-l.toNat=0 by omega,show m-l.toNat=0 by omega];exact .slz _ _ _ _):=h
def aiq(h:p:=by rw[<-List.drop_drop,hB',<-hz,<-ci 96 (UInt64.ofNat s.length),List.drop_left,List.take_left]):=h
def air(h:p:=by rw[<-List.drop_drop,hB',<-hz,<-ci 64 (UInt64.ofNat s.length),List.drop_left,List.take_left]):=h
def ais(h:p:=by simp[updH,keys,hget] at hk;subst hk;exact .inl ⟨rfl,hid⟩):=h
def ait(h:p:=by rintro⟨⟨⟨h1,h2⟩,h3⟩,h4⟩;exact⟨⟨⟨h1.symm,h2.symm⟩,h3.symm⟩,h4.symm⟩):=h
def aiu(h:p:=by
 rw[List.range_succ,List.filterMap_append];split
 .rename_i h;simp[h]
 .rename_i h;simp[h]):=h
def aiv(h:p:=by show(l++[_]).length+(r.drop (3+aF r 1)).length<=n;rw[c9,hdl];simp;omega):=h
def aiw(h:p:=by rw[b0 h3] at hR;subst hR;simp only[go_sem,J,h1,h2,h3]):=h
def aix(h:p:=by
 unfold oH at h2;split at h2
 .rename_i b hb;exact⟨b,hb,h2.1,h2.2⟩
 .exact h2.elim):=h
def aiy(h:p:=by
 simp only[go_sem,PL]
 (try simp[*])):=h
def aiz(h:p:=by refine⟨rfl,?_,trivial,rfl,rfl,trivial,fun i h=>h⟩;simp only[go_sem,PL];simp[szM]):=h
def aiA(h:p:=by have:=hval e (List.mem_filter.1 he).1;exact⟨this.1,this.2.mono (fun _ h=>h) hFb⟩):=h
def aiB(h:p:=by rw[cD (c7 _),cD ω] at he;exact he):=h
def aiC(h:p:=by
 refine akg ?_;simp only[go_sem,aB]
 try simp):=h
def aiD(h:p:=by
 rw[this];clear this hf hl hxn h
 induction xs with
 |nil=>rfl
 |cons a l ih=>simp_all):=h
def aiE(h:p:=by exact⟨π,hlt,aA [0,1,2,3,4,5,6] rfl κ κ rfl rfl (cV rfl)⟩):=h
def aiF(h:p:=by rw[b9 hon] at hR;subst hR;simp only[go_sem,J,hon]):=h
def aiG(h:p:=by refine⟨ω,h9,aA [0,1,2,3,4,5] rfl κ κ rfl rfl (cV rfl)⟩):=h
def aiH(h:p:=by
 have hz:us.size=1:=hz;obtain⟨l⟩:=us
 match l,hz with
 |[u],_=>exact⟨u,rfl⟩):=h
def aiI(h:p:=by
 rcases ea k 2 with h7|h7
 .obtain rfl:k=1:=by omega
  omega
 .exact h7):=h
def aiJ(h:p:=by simp only[go_sem,sN,hlen,Nat.add_assoc]):=h
def aiK(h:p:=by simp only[go_sem,J];exact⟨π,av _⟩):=h
def aiL(h:p:=by refine⟨rfl,?_,trivial,rfl,rfl,trivial,fun i h=>h⟩;simp only[go_sem,aB];rfl):=h
def aiM(h:p:=by simp only[go_sem,Nat.add_assoc]):=h
def aiN(h:p:=by
 refine nq hH cs _ (fun j=>arr.getD (off+j) undef) hcs (fun j c hj=>?_)
 grind):=h
def aiO(h:p:=by
 have hne:¬b=c:=fun e=>hc e.symm
 simp only[Array.getElem?_modify,b0 hne]):=h
def aiP(h:p:=by simp only[execOp,ho,hr.pv,hW,hrun,ez,lh]):=h
def aiQ(h:p:=by refine fin ?_;unfold cI;rw[b0 ω,b9 ω]):=h
def aiR(h:p:=by intro _;exact⟨by show p+1<=_;omega,η,rfl⟩):=h
def aiS(h:p:=by exact⟨gi _,fun x hx=>by cases hx⟩):=h
def aiT(h:p:=by simp only[go_sem];exact dK _ _ _ _):=h
def aiU(h:p:=by simpa only[pgM,h5] using this):=h
def aiV(h:p:=by exact⟨by simp[undef],by simp[undef],rfl⟩):=h
def aiW(h:p:=by exact⟨(wk _ _ _ _).2 trivial,dK _ _ _ _⟩):=h
def aiX(h:p:=by rw[hR];exact⟨π,by simp only[and_self]⟩):=h
def aiY(h:p:=by refine x_f Z hst ?_;simp only[go_sem,J]):=h
end
end Go
open List renaming getElem?_map→c',replicate→d',size_toArray→e',map_nil→f',getElem?_append→g',map_toArray→h',range→j',getElem?_toArray→m',getElem?_of_mem→n',getElem?_drop→o'
open Nat renaming beq→p',lt_of_lt_of_le→q',ble→u',le_succ→v',zero_add→x',add_mul→y',le_trans→z',add_zero→A',two_pow_pos→B',blt→C',add_sub_cancel'→D',lt_irrefl→E',lt_succ_self→G',eq_of_mul_eq_mul_left→H',mul_le_mul_right→I'
open BitVec renaming ofInt→J'
open Go.Op renaming equalIn→K',operands→L',bytesLess→M'
open Array renaming length_toList→N',size_append→Q',getElem?_eq_some_iff→S',getElem?_toList→U',getElem?_append_left→V',getElem?_modify→W'
open Option renaming map_some→X',some→Y',map_none→Z',bind_eq_some_iff→af
open Go.Builtin renaming append_→ah,firstCells→al,zeroCells→ap,copy_→au,lenOf→a0,nextslicecap→a1
namespace Go.Abs
open RowKit
def Jw:List Nat:=d' 128 240++d' 66 241++d' 30 2++[19]++d' 12 3++[35,3,3,52,4,4,4,68]++d' 11 241
def qV:List Value:=Jw.map fun(n:Nat) => .int .u8 (n:Int)
def pB:List Value:=[.int .u8 128,.int .u8 191,.int .u8 160,.int .u8 191,.int .u8 128,.int .u8 159,.int .u8 144,.int .u8 191,.int .u8 128,.int .u8 143]++d' 22 (.int .u8 0)
def od(g:Nat):Option (List Value) :=
 match p' g 0,p' g 1 with
 |true,_=>some qV
 |_,true=>some pB
 |_,_=>none
inductive PV where
 |v (x:Value)
 |data (s n:Nat) (cs:List PV)
 |iface (t:TypeId) (x:PV)
 |agg (cs:List PV)
 deriving Inhabited
inductive AV where
 |p (x:PV)
 |ptr (id off:Nat)
 |sl (id off len s:Nat)
 |cp (cs:List PV)
 |agg (cs:List AV)
 |tup (vs:List AV)
 |iface (t:TypeId) (x:AV)
 |fn (f:Fn) (first captured:List AV)
 |mp (id:Nat)
 |any
 deriving Inhabited
structure Blk where
 t:TypeId
 cs:List AV
abbrev aK:=Nat->Prop
abbrev aD:=Nat->Option Nat
def hasCells(w:World)(b n:Nat):Prop:=∃arr t fr,w.heap[b]?=some (.cells arr t fr)/\n<=arr.size
def isMapO(w:World)(b:Nat):Prop:=∃es c,w.heap[b]?=some (.map es c)
inductive RdP(F:aK)(w:World):PV->Value->Prop
 |v (x:Value) (h1:x.oneCell'=true):RdP F w (.v x) x
 |nil (s:Nat) (A:Option Addr) (cap:Nat):RdP F w (.data s 0 []) (.slice A 0 cap)
 |data (s n:Nat) (cs:List PV) (b off cap:Nat) (f:Nat->Value) (hl:cs.length=n*s) (hcap:n<=cap) (hF:F b)
  (hc:∀j,j<cs.length->w.cell? ⟨b,off+j,none⟩=some (f j)) (h1:∀j,j<cs.length->(f j).oneCell'=true) (hr:∀j c,cs[j]?=some c->RdP F w c (f j)) :
  RdP F w (.data s n cs) (.slice (some ⟨b,off,none⟩) n cap)
 |iface (t:TypeId) (x:PV) (u:Value) (h:RdP F w x u):RdP F w (.iface t x) (.iface t u)
 |agg (cs:List PV) (us:Array Value) (hl:us.size=cs.length) (hr:∀j c,cs[j]?=some c->RdP F w c (us.getD j undef)):RdP F w (.agg cs) (.agg us)
inductive Rd(ρ:aD)(F:aK)(w:World):AV->Value->Prop
 |p (x:PV) (u:Value) (h:RdP F w x u):Rd ρ F w (.p x) u
 |ptr (id off b:Nat) (h:ρ id=some b):Rd ρ F w (.ptr id off) (.pointer (some ⟨b,off,none⟩))
 |sl (id off len s b cap:Nat) (h:ρ id=some b) (hcap:len<=cap) (hs:hasCells w b (off+cap*s)) :
  Rd ρ F w (.sl id off len s) (.slice (some ⟨b,off,none⟩) len cap)
 |slz (id off s:Nat) (A:Option Addr):Rd ρ F w (.sl id off 0 s) (.slice A 0 0)
 |cp (cs:List PV) (b off:Nat) (f:Nat->Value) (hF:F b) (hc:∀j,j<cs.length->w.cell? ⟨b,off+j,none⟩=some (f j)) (h1:∀j,j<cs.length->(f j).oneCell'=true)
  (hr:∀j c,cs[j]?=some c->RdP F w c (f j)):Rd ρ F w (.cp cs) (.pointer (some ⟨b,off,none⟩))
 |agg (cs:List AV) (us:Array Value) (hl:us.size=cs.length) (hr:∀j c,cs[j]?=some c->Rd ρ F w c (us.getD j undef)):Rd ρ F w (.agg cs) (.agg us)
 |tup (cs:List AV) (us:Array Value) (hl:us.size=cs.length) (hr:∀j c,cs[j]?=some c->Rd ρ F w c (us.getD j undef)):Rd ρ F w (.tup cs) (.tuple us)
 |iface (t:TypeId) (x:AV) (u:Value) (h:Rd ρ F w x u):Rd ρ F w (.iface t x) (.iface t u)
 |fn (f:Fn) (zas bs:List AV) (us vs:Array Value) (hl:us.size=zas.length) (hr:∀j c,zas[j]?=some c->Rd ρ F w c (us.getD j undef))
  (hl':vs.size=bs.length) (hr':∀j c,bs[j]?=some c->Rd ρ F w c (vs.getD j undef)):Rd ρ F w (.fn f zas bs) (.func f us vs)
 |mp (id b:Nat) (h:ρ id=some b) (hm:isMapO w b):Rd ρ F w (.mp id) (.map (some b))
 |any (u:Value):Rd ρ F w .any u
theorem RdP.mono{F F':aK}{w w':World}(a:∀b,F b->F' b)(c:∀b,F b->w'.heap[b]?=w.heap[b]?){x:PV}{u:Value}
 (h:RdP F w x u):RdP F' w' x u:=by
 induction h with
 |v x h1=>exact .v x h1
 |nil s A cap=>exact .nil s A cap
 |data s n cs b off cap f hl hcap hFb hc h1 _ ih =>
  refine .data s n cs b off cap f hl hcap (a _ hFb) (fun j d=>?_) h1 ih;simp_all[World.cell?]
 |iface t x u _ ih=>exact .iface t x u ih
 |agg cs us hl _ ih=>exact .agg cs us hl ih
theorem Rd.mono{ρ ρ':aD}{F F':aK}{w w':World}(a:∀i b,ρ i=some b->ρ' i=some b)(d:∀b,F b->F' b)
 (e:∀b,F b->w'.heap[b]?=w.heap[b]?) (hs:(∀b n,hasCells w b n->hasCells w' b n)/\∀b,isMapO w b->isMapO w' b) {x:AV} {u:Value} (h:Rd ρ F w x u):Rd ρ' F' w' x u:=by
 induction h with
 |p x u h=>exact .p x u (h.mono d e)
 |ptr id off b h=>exact .ptr id off b (a _ _ h)
 |sl id off len s b cap h hcap hc=>exact .sl id off len s b cap (a _ _ h) hcap (hs.1 _ _ hc)
 |slz id off s A=>exact .slz id off s A
 |cp cs b off f hFb hc h1 hr =>
  refine .cp cs b off f (d _ hFb) (fun j g=>?_) h1 (fun j c g=>(hr j c g).mono d e);simp_all[World.cell?]
 |agg cs us hl _ ih=>exact .agg cs us hl ih
 |tup cs us hl _ ih=>exact .tup cs us hl ih
 |iface t x u _ ih=>exact .iface t x u ih
 |fn f zas bs us vs hl _ hl' _ ih ih'=>exact .fn f zas bs us vs hl ih hl' ih'
 |mp id b h hm=>exact .mp id b (a _ _ h) (hs.2 _ hm)
 |any u=>exact .any u
abbrev ai:=List (Int×List UInt8)
def wM:List Nat->Nat
 |[]=>0
 |a::l=>2^a*(2*wM l+1)
theorem NZ{a b x y:Nat}(h:2^a*(2*x+1)=2^b*(2*y+1)):a=b/\x=y:=by
 have c:∀a b x y:Nat,a<b->2^a*(2*x+1)≠2^b*(2*y+1):=by
  intro a b x y f e;obtain⟨d,rfl⟩:∃d,b=a+(d+1):=⟨b-a-1,ω⟩
  rw[Nat.pow_add,Nat.mul_assoc] at e
  grind [H',B',Nat.pow_succ,Nat.mul_comm,Nat.mul_assoc]
 grind [Nat.lt_trichotomy,absurd,H',B']
theorem ud:∀{l l':List Nat},wM l=wM l'->l=l'
 |[],[],_=>rfl
 |[],a::l,h=>by have:=Nat.mul_pos (B' a) (show 0<2*wM l+1 by omega);simp only[wM] at h;omega
 |a::l,[],h=>by have:=Nat.mul_pos (B' a) (show 0<2*wM l+1 by omega);simp only[wM] at h;omega
 |a::l,b::l',h=>by
  simp only[wM] at h;obtain⟨h1,h2⟩:=NZ h;rw[h1,ud h2]
def zz(k:Int):Nat:=if 0<=k then 2*k.toNat else 2*(-k).toNat+1
theorem Rk{a b:Int}(h:zz a=zz b):a=b:=by
 grind [zz]
theorem yW{α β:Type}{f:α->β}(c:∀a b,f a=f b->a=b):∀{l l':List α},l.map f=l'.map f->l=l'
 |[],[],_=>rfl
 |[],_::_,h=>by simp at h
 |_::_,[],h=>by simp at h
 |a::l,b::l',h=>by
  simp only[hX,List.cons.injEq] at h;rw[c _ _ h.1,yW c h.2]
def Rl(e:Int×List UInt8):Nat:=wM (zz e.1::e.2.map UInt8.toNat)
theorem Jx{e a:Int×List UInt8}(h:Rl e=Rl a):e=a:=by
 have:=ud h
 grind [List.cons.injEq,Prod.ext,Rk,yW,UInt8.toNat_inj]
def eF(s:ai):TypeId:=wM (s.map Rl)
theorem Jy{s a:ai}(h:eF s=eF a):s=a:=yW (fun _ _=>Jx) (ud h)
def RV(v:Value):Option (DataW Value×List MemPlace):=some (.held v,[])
abbrev Ent:=Int×List UInt8×Value
def entries(E:List Ent):List (Lit×DataW Value):=E.map fun e=>(.int .i64 e.1,.held e.2.2)
def eM(E:List Ent):ai:=E.map fun e=>(e.1,e.2.1)
structure MapIs(F:aK)(w:World)(b:Nat)(s:ai):Prop where
 obj:isMapO w b
 is:∃E:List Ent,s=eM E/\(∀(P:Program) (k:TypeId),P.underlying k=some (.int .i64)->w.ownsMap P k RV b E.length (.map (entries E))) /\
  ∀e,e∈E->e.2.2.oneCell'=true/\RdP F w (.data 1 e.2.1.length (e.2.1.map fun x => .v (.int .u8 (x.toNat:Int)))) e.2.2
theorem isMapO.lt{w:World}{b:Nat}(h:isMapO w b):b<w.heap.size:=by
 obtain⟨a,c,d⟩:=h
 grind
theorem isMapO.no{w:World}{b n:Nat}(h:isMapO w b)(a:hasCells w b n):False:=by
 obtain⟨e,c,f⟩:=h;obtain⟨arr,t,g,d,_⟩:=a;simp_all
theorem MapIs.mono{F F':aK}{w w':World}{b:Nat}{s:ai}(h:MapIs F w b s)(d:w'.heap[b]?=w.heap[b]?)(i:∀b,F b->F' b)(j:∀b,F b->w'.heap[b]?=w.heap[b]?):MapIs F' w' b s:=by
 obtain⟨⟨a,c,l⟩,E,h1,h2,f⟩:=h;refine⟨⟨a,c,d.trans l⟩,E,h1,fun P k m=>?_,fun e g=>⟨(f e g).1,(f e g).2.mono i j⟩⟩;obtain⟨a,c,n,o⟩:=h2 P k m;exact⟨a,c,d.trans n,o⟩
abbrev bv:=Nat->Option Blk
def FrOk(fr:Nat×Nat)(n:Nat):Prop:=fr.2=0\/n<=fr.1
theorem FrOk.zero(n:Nat):FrOk (0,0) n := .inl rfl
structure BlkOk(ρ:aD)(F:aK)(w:World)(b:Nat)(k:Blk):Prop where
 own:¬F b
 is0:(∃arr fr,w.heap[b]?=some (.cells arr k.t fr)/\FrOk fr arr.size/\k.cs.length<=arr.size/\∀j c,k.cs[j]?=some c->(arr.getD j undef).oneCell'=true/\Rd ρ F w c (arr.getD j undef)) \/
  (k.cs=[]/\∃s,k.t=eF s/\MapIs F w b s)
theorem BlkOk.is{ρ:aD}{F:aK}{w:World}{b:Nat}{k:Blk}(h:BlkOk ρ F w b k)(a:1<=k.cs.length\/∃n,hasCells w b n) :
 ∃arr fr,w.heap[b]?=some (.cells arr k.t fr)/\FrOk fr arr.size/\k.cs.length<=arr.size/\∀j c,k.cs[j]?=some c->(arr.getD j undef).oneCell'=true/\Rd ρ F w c (arr.getD j undef):=by
 rcases h.is0 with h1|⟨h1,s,_,d⟩
 .exact h1
 .rcases a with a|⟨n,a⟩
  .simp_all
  .exact(d.obj.no a).elim
theorem BlkOk.lt{ρ:aD}{F:aK}{w:World}{b:Nat}{k:Blk}(h:BlkOk ρ F w b k):b<w.heap.size:=by
 rcases h.is0 with⟨arr,c,ha,_⟩|⟨_,s,_,a⟩
 .grind
 .exact a.obj.lt
theorem BlkOk.view{ρ ρ':aD}{F F':aK}{w:World}{b:Nat}{k d:Blk}(h:BlkOk ρ F w b k)(e:¬F' b)(l:d.t=k.t)(m:d.cs.length=k.cs.length)(p:∀b,F b->F' b)
 (q:∀f:Nat->Value,(∀j a,k.cs[j]?=some a->Rd ρ F w a (f j))->∀j c,d.cs[j]?=some c->Rd ρ' F' w c (f j)):BlkOk ρ' F' w b d:=by
 refine⟨e,?_⟩;rcases h.is0 with⟨arr,r,ha,g,u,n⟩|⟨h1,s,hs,v⟩
 .refine .inl ⟨arr,r,by rw[l];exact ha,g,ω,fun j c o=>?_⟩;have i:j<k.cs.length:=by rw[<-m];exact(hP.1 o).1
  exact⟨(n j _ (n0 i)).1,q (fun j=>arr.getD j undef) (fun j a ha=>(n j a ha).2) j c o⟩
 .exact .inr ⟨fo (by rw[m,h1];rfl),s,by rw[l];exact hs,v.mono rfl p (fun _ _=>rfl)⟩
theorem BlkOk.keep{ρ ρ':aD}{F F':aK}{w w':World}{b:Nat}{k:Blk}(h:BlkOk ρ F w b k)(a:¬F' b)(d:w'.heap[b]?=w.heap[b]?)(e:∀b,F b->F' b)(f:∀b,F b->w'.heap[b]?=w.heap[b]?)
 (l:∀c u,c∈k.cs->Rd ρ F w c u->Rd ρ' F' w' c u):BlkOk ρ' F' w' b k:=by
 refine⟨a,?_⟩;rcases h.is0 with⟨arr,m,ha,g,n,o⟩|⟨h1,s,i,j⟩
 .grind
 .exact .inr ⟨h1,s,i,j.mono d e f⟩
structure HpOk(ρ:aD)(F:aK)(w:World)(h:bv):Prop where
 ok:∀i k,h i=some k->(k.cs=[]/\ρ i=none)\/∃b,ρ i=some b/\BlkOk ρ F w b k
 inj:∀i j b,h i≠none->h j≠none->ρ i=some b->ρ j=some b->i=j
def oB(F:aK)(w:World):Prop:=∀b,F b->b<w.heap.size
def GlobOk(F:aK)(w:World):Prop:=∀g cs,od g=some cs->F g/\∀j v,cs[j]?=some v->v.oneCell'=true/\w.cell? ⟨g,j,none⟩=some v
theorem GlobOk.mono{F F':aK}{w w':World}(h:GlobOk F w)(a:∀b,F b->F' b)(c:∀b,F b->w'.heap[b]?=w.heap[b]?):GlobOk F' w':=fun g cs hg =>
 ⟨a g (h g cs hg).1,fun j v hv=>⟨((h g cs hg).2 j v hv).1,by rw[<-((h g cs hg).2 j v hv).2];simp only[World.cell?,c g (h g cs hg).1]⟩⟩
theorem GlobOk.rd{ρ:aD}{F:aK}{w:World}(h:GlobOk F w){g:Nat}{cs:List Value}(hg:od g=some cs):Rd ρ F w (.cp (cs.map .v)) (.pointer (some ⟨g,0,none⟩)):=by
 obtain⟨h1,h2⟩:=h g cs hg;have hget:∀j,j<cs.length->cs[j]?=some (cs.getD j undef):=fun j a=>by simp[cR,a]
 refine .cp _ g 0 (fun j=>cs.getD j undef) h1 (fun j a=>?_) (fun j a=>?_) (fun j c a=>?_)
 .simp_all
 .grind
 .simp only[c',nL] at a;obtain⟨y,b,rfl⟩:=a;have:cs.getD j undef=y:=by simp[cR,b]
  rw[this];exact .v _ (h2 j y b).1
structure Chg(O:aK)(F F':aK)(w w':World):Prop where
 os:w'.os=w.os
 tape:w'.tape=w.tape
 output:w'.output=w.output
 size:w.heap.size<=w'.heap.size
 same:∀b,b<w.heap.size->¬O b->w'.heap[b]?=w.heap[b]?
 cells:(∀b n,hasCells w b n->hasCells w' b n)/\∀b,isMapO w b->isMapO w' b
 sub:∀b,F b->F' b
 new:∀b,F' b->F b\/w.heap.size<=b\/O b
theorem Chg.refl(O F:aK)(w:World):Chg O F F w w :=
 ⟨rfl,rfl,rfl,c7 _,fun _ _ _=>rfl,⟨fun _ _ h=>h,fun _ h=>h⟩,fun _ h=>h,fun _ h => .inl h⟩
theorem Chg.trans{O O' F F' F'':aK}{w w' c:World}(h:Chg O F F' w w')(a:Chg O' F' F'' w' c)
 (e:∀b,O' b->O b\/w.heap.size<=b):Chg O F F'' w c where
 os:=a.os.trans h.os
 tape:=a.tape.trans h.tape
 output:=a.output.trans h.output
 size:=z' h.size a.size
 same b hb hn:=(a.same b (q' hb h.size) (fun f=>by rcases e b f with h1|h1;exact hn h1;omega)).trans (h.same b hb hn)
 cells:=⟨fun b n d=>a.cells.1 b n (h.cells.1 b n d),fun b d=>a.cells.2 b (h.cells.2 b d)⟩
 sub b hb:=a.sub b (h.sub b hb)
 new b hb:=by
  rcases a.new b hb with h1|h1|h1
  .exact h.new b h1
  .exact .inr (.inl (z' h.size h1))
  .grind
theorem Chg.mono{O O' F F':aK}{w w':World}(h:Chg O F F' w w')(a:∀b,O b->O' b):Chg O' F F' w w' where
 os:=h.os
 tape:=h.tape
 output:=h.output
 size:=h.size
 same b hb hn:=h.same b hb (fun c=>hn (a b c))
 cells:=h.cells
 sub:=h.sub
 new b hb:=by
  rcases h.new b hb with h1|h1|h1
  .exact .inl h1
  .omega
  .simp_all
theorem Chg.below{F F':aK}{w w':World}(h:Chg (fun _=>False) F F' w w'):Below w.heap.size w w' :=
 ⟨h.os,h.tape,h.output,h.size,fun b a=>h.same b a (fun c=>c)⟩
theorem hasCells.alloc{w:World}{b n:Nat}(o:Obj)(h:hasCells w b n):hasCells (w.alloc o) b n:=by
 obtain⟨arr,t,c,d,e⟩:=h;have a:b<w.heap.size:=by
  grind
 exact⟨arr,t,c,(Below.heap_alloc w o b a).trans d,e⟩
theorem isMapO.alloc{w:World}{b:Nat}(o:Obj)(h:isMapO w b):isMapO (w.alloc o) b:=by
 have a:=h.lt;obtain⟨d,c,e⟩:=h;exact⟨d,c,(Below.heap_alloc w o b a).trans e⟩
theorem Chg.alloc(O F:aK)(w:World)(o:Obj):Chg O F F w (w.alloc o) where
 os:=rfl
 tape:=rfl
 output:=rfl
 size:=by simp
 same b hb _:=Below.heap_alloc w o b hb
 cells:=⟨fun _ _ h=>h.alloc o,fun _ h=>h.alloc o⟩
 sub _ h:=h
 new _ h := .inl h
theorem Chg.drew(O F:aK)(w:World):Chg O F F w w.drew :=
 ⟨rfl,rfl,rfl,c7 _,fun _ _ _=>rfl,⟨fun _ _ h=>h,fun _ h=>h⟩,fun _ h=>h,fun _ h => .inl h⟩
inductive TK where
 |none|bool|int (k:IntKind)|str|slice|array|struct|ptr|iface|other|uptr
structure TI where
 kind:TK
 size:Nat
 bytes:Nat
 zero:Option (List Value)
 flds:List (Nat×Nat×TK)
 elem:TypeId
 len:Nat
def fx:Option TypeDesc->TK
 |some .bool => .bool
 |some (.int k) => .int k
 |some .string => .str
 |some (.slice _) => .slice
 |some (.array _ _) => .array
 |some (.struct _) => .struct
 |some (.pointer _) => .ptr
 |some (.interface _) => .iface
 |some .unsafePointer => .uptr
 |some _ => .other
 |Option.none => .none
def TK.agg:TK->Bool
 |.array | .struct=>true
 |_=>false
def cx(P:Program)(t:TypeId):Nat :=
 match P.underlying t,P.info? t with
 |some _,some i=>i.size
 |_,_=>0
def N0:Option TypeDesc->TypeId
 |some (.slice e)=>e
 |some (.array _ e)=>e
 |some (.pointer e)=>e
 |_=>0
def Rm:Option TypeDesc->Nat
 |some (.array n _)=>n
 |_=>0
def tw(P:Program):Option TypeDesc->List (Nat×Nat×TK)
 |some (.struct fs)=>fs.toList.map fun f=>(f.offset,cx P f.type,fx (P.underlying f.type))
 |_=>[]
def ae(P:Program)(t:TypeId):TI where
 kind:=fx (P.underlying t)
 size:=cx P t
 bytes:=((P.info? t).map (·.bytes)).getD 0
 zero:=(P.info? t).bind fun i=>i.zero.map fun z=>z.cells.toList
 flds:=tw P (P.underlying t)
 elem:=N0 (P.underlying t)
 len:=Rm (P.underlying t)
structure AS where
 n:Nat
 sl:List (Nat×AV)
 hp:List (Nat×Option Blk)
 nx:Nat
def lk:List (Nat×AV)->Nat->AV
 |[],_ => .any
 |(k,v)::r,n=>match p' k n with|true=>v|false=>lk r n
def hget:List (Nat×Option Blk)->Nat->Option Blk
 |[],_=>none
 |(k,v)::r,n=>match p' k n with|true=>v|false=>hget r n
def iX:Value->AV
 |.agg cs => .agg (cs.toList.map fun v => .p (.v v))
 |.tuple _ => .any
 |.bool b => .p (.v (.bool b))
 |.int k n => .p (.v (.int k n))
 |.float k n => .p (.v (.float k n))
 |.complex k n m => .p (.v (.complex k n m))
 |.string s => .p (.v (.string s))
 |.pointer a => .p (.v (.pointer a))
 |.slice a l c => .p (.v (.slice a l c))
 |.map r => .p (.v (.map r))
 |.chan r => .p (.v (.chan r))
 |.func f a b => .p (.v (.func f a b))
 |.nilFunc => .p (.v .nilFunc)
 |.iface t v => .p (.v (.iface t v))
 |.nilIface => .p (.v .nilIface)
def gC:Value->Bool
 |.agg cs=>cs.toList.all (·.oneCell')
 |_=>true
def ev(st:AS):Operand->AV
 |.tmp t=>lk st.sl t
 |.const v=>match gC v with|true=>iX v|false => .any
 |.func f => .p (.v (.func (.func f) #[] #[]))
 |.global g=>match od g with|some cs => .cp (cs.map .v)|none => .any
def evs(st:AS):List Operand->List AV
 |[]=>[]
 |x::xs=>ev st x::evs st xs
abbrev AV.i(n:Int):AV := .p (.v (.int .i64 n))
abbrev AV.b(b:Bool):AV := .p (.v (.bool b))
def Jz:PV->Bool
 |.agg _=>false
 |_=>true
def oneC:AV->Bool
 |.p x=>Jz x
 |.ptr _ _=>true
 |.sl _ _ _ _=>true
 |.cp _=>true
 |.fn _ _ _=>true
 |.mp _=>true
 |.iface _ _=>true
 |.agg _=>false
 |.tup _=>false
 |.any=>false
def dI:List AV->Bool
 |[]=>true
 |c::r=>match oneC c with|true=>dI r|false=>false
def cells:AV->List AV
 |.agg cs=>cs
 |.p x=>[.p x]
 |.ptr a b=>[.ptr a b]
 |.sl a b c d=>[.sl a b c d]
 |.cp a=>[.cp a]
 |.tup a=>[.tup a]
 |.iface a b=>[.iface a b]
 |.fn a b c=>[.fn a b c]
 |.mp a=>[.mp a]
 |.any=>[.any]
inductive R where
 |ok (v:AV) (T:List Nat) (upd:List (Nat×Option Blk)) (nx:Nat)
 |okS (side:Prop) (v:AV) (T:List Nat) (upd:List (Nat×Option Blk)) (nx:Nat)
 |call (f:FuncId) (vs:List AV)
 |bad
def R.pure(st:AS)(v:AV):R := .ok v [] [] st.nx
def R.pureS(st:AS)(s:Prop)(v:AV):R := .okS s v [] [] st.nx
def Fy(st:AS):AV->AV->AV->R
 |.p (.v (.bool c)),a,b => .pure st (if c=true then a else b)
 |_,_,_ => .bad
def N1(st:AS)(t:TypeId)(v:AV):R :=
 match dI (cells v) with
 |true => .ok (.ptr st.nx 0) [] [(st.nx,some ⟨t,cells v⟩)] (st.nx+1)
 |false => .bad
def pvs:List Value->List AV
 |[]=>[]
 |v::r => .p (.v v)::pvs r
def fB:List Value->Bool
 |[]=>true
 |v::r=>match v.oneCell' with|true=>fB r|false=>false
def yX(st:AS)(t:TypeId):Option (List Value)->R
 |some z=>match fB z with
  |true => .ok (.ptr st.nx 0) [] [(st.nx,some ⟨t,pvs z⟩)] (st.nx+1)
  |false => .bad
 |none => .bad
def dfl:TK->PV
 |.int k => .v (.int k 0)
 |.bool => .v (.bool false)
 |.slice => .data 1 0 []
 |_ => .v undef
def ag(d:PV):List AV->AV
 |c::_=>c
 |[] => .p d
def ka(k:TK)(size:Nat)(cs:List AV):AV :=
 match k.agg with
 |true => .agg (cs.take size)
 |false=>ag (dfl k) cs
def Fz(st:AS)(ti:TI)(id off:Nat):Option Blk->R
 |some b=>match u' 1 ti.size with
  |true => .okS (off+ti.size<=b.cs.length) (ka ti.kind ti.size (b.cs.drop off)) [id] [] st.nx
  |false => .bad
 |none => .bad
def gE(d:PV):List PV->PV
 |c::_=>c
 |[]=>d
def xm(st:AS)(ti:TI):AV->R
 |.ptr id off=>Fz st ti id off (hget st.hp id)
 |.cp cs=>match ti.kind.agg,u' 1 ti.size with
  |true,true => .pureS st (ti.size<=cs.length) (.agg ((cs.take ti.size).map .p))
  |false,true => .pureS st (ti.size<=cs.length) (.p (gE (dfl ti.kind) cs))
  |_,_ => .bad
 |_ => .bad
def bY:List AV->Nat->List AV->List AV
 |cs,_,[]=>cs
 |cs,i,v::vs=>bY (cs.set i v) (i+1) vs
def yY(st:AS)(ti:TI)(id off:Nat)(vs:List AV):Option Blk->R
 |some b=>match dI vs,p' vs.length ti.size,u' 1 ti.size with
  |true,true,true => .okS (off+vs.length<=b.cs.length) .any [id] [(id,some ⟨b.t,bY b.cs off vs⟩)] st.nx
  |_,_,_ => .bad
 |none => .bad
def ue(st:AS)(ti:TI):AV->AV->R
 |.ptr id off,v=>yY st ti id off (cells v) (hget st.hp id)
 |_,_ => .bad
def uf(st:AS)(x:AV):Option (Nat×Nat×TK)->R
 |some (o,s,_)=>match u' 1 s,x with
  |true,.ptr id off => .pure st (.ptr id (off+o))
  |true,.cp cs => .pure st (.cp (cs.drop o))
  |_,_ => .bad
 |none => .bad
def ug(st:AS):AV->Option (Nat×Nat×TK)->R
 |.agg cs,some (o,s,k)=>match u' 1 s with
  |true => .pureS st (o+s<=cs.length) (ka k s (cs.drop o))
  |false => .bad
 |_,_ => .bad
def pC(st:AS)(i:Nat):AV->R
 |.tup vs=>match vs[i]? with
  |some v => .pure st v
  |none => .bad
 |_ => .bad
def band(k:IntKind)(a b:Int):Int:=k.wrap ((J' k.bits a &&& J' k.bits b).toNat:Int)
def bor(k:IntKind)(a b:Int):Int:=k.wrap ((J' k.bits a ||| J' k.bits b).toNat:Int)
def kq(k:IntKind)(a b:Int):Int:=k.wrap ((J' k.bits a ^^^ J' k.bits b).toNat:Int)
def xn(k:IntKind)(a b:Int):Int:=k.wrap ((J' k.bits a &&& ~~~ J' k.bits b).toNat:Int)
def iF(k:IntKind)(a b:Int):Int:=k.wrap (a*2^(min b.toNat k.bits))
def ishr(k:IntKind)(a b:Int):Int:=a.fdiv (2^(min b.toNat k.bits))
def eqK:IntKind->IntKind->Bool
 |.i8,.i8 | .i16,.i16 | .i32,.i32 | .i64,.i64 | .u8,.u8 | .u16,.u16 | .u32,.u32 | .u64,.u64=>true
 |_,_=>false
def lc(st:AS)(op:BinOp)(k:IntKind)(a b:Int)(same:Bool):R :=
 match op,same with
 |.shl,_ => .pureS st (0<=b) (.p (.v (.int k (iF k a b))))
 |.shr,_ => .pureS st (0<=b) (.p (.v (.int k (ishr k a b))))
 |.add,true => .pure st (.p (.v (.int k (k.wrap (a+b)))))
 |.sub,true => .pure st (.p (.v (.int k (k.wrap (a-b)))))
 |.mul,true => .pure st (.p (.v (.int k (k.wrap (a*b)))))
 |.quo,true => .pureS st (b≠0) (.p (.v (.int k (k.wrap (a.tdiv b)))))
 |.rem,true => .pureS st (b≠0) (.p (.v (.int k (a.tmod b))))
 |.and,true => .pure st (.p (.v (.int k (band k a b))))
 |.or,true => .pure st (.p (.v (.int k (bor k a b))))
 |.xor,true => .pure st (.p (.v (.int k (kq k a b))))
 |.andNot,true => .pure st (.p (.v (.int k (xn k a b))))
 |.eql,true => .pure st (.b (a==b))
 |.neq,true => .pure st (.b (a != b))
 |.lss,true => .pure st (.b (decide (a<b)))
 |.leq,true => .pure st (.b (decide (a<=b)))
 |.gtr,true => .pure st (.b (decide (a>b)))
 |.geq,true => .pure st (.b (decide (a>=b)))
 |_,_ => .bad
def N2(st:AS)(op:BinOp)(a b:ByteArray):R :=
 match op with
 |.eql => .pure st (.b (a.toList==b.toList))
 |.neq => .pure st (.b (!(a.toList==b.toList)))
 |.add => .pureS st (a.size+b.size<=9223372036854775807) (.p (.v (.string (a++b))))
 |.lss => .pure st (.b (M' a.toList b.toList))
 |.leq => .pure st (.b (M' a.toList b.toList||a.toList==b.toList))
 |.gtr => .pure st (.b (!(M' a.toList b.toList||a.toList==b.toList)))
 |.geq => .pure st (.b (!(M' a.toList b.toList)))
 |_ => .bad
def FA(st:AS)(op:BinOp)(a b:Bool):TK->R
 |.bool=>match op with
  |.eql => .pure st (.b (a==b))
  |.neq => .pure st (.b (!(a==b)))
  |_ => .bad
 |_ => .bad
def fC(st:AS)(op:BinOp)(side:Prop)(r:Bool):R :=
 match op with
 |.eql => .pureS st side (.b r)
 |.neq => .pureS st side (.b (!r))
 |_ => .bad
def ld:TK->AV->AV->Option Bool
 |.int _,.p (.v (.int i a)),.p (.v (.int j b))=>match eqK i j with|true=>some (a==b)|false=>none
 |.bool,.p (.v (.bool a)),.p (.v (.bool b))=>some (a==b)
 |.str,.p (.v (.string a)),.p (.v (.string b))=>some (a.toList==b.toList)
 |_,_,_=>none
def JA:Option Bool->Option Bool->Option Bool
 |some a,some b=>some (a&&b)
 |_,_=>none
def lg:List (Nat×Nat×TK)->List AV->List AV->Option Bool
 |[],_,_=>some true
 |(o,_,k)::r,xs,ys=>JA (ld k (ag (.v undef) (xs.drop o)) (ag (.v undef) (ys.drop o))) (lg r xs ys)
def DE(st:AS)(op:BinOp):Option Bool->Bool->R
 |some b,true=>match op with
  |.eql => .pure st (.b b)
  |.neq => .pure st (.b (!b))
  |_ => .bad
 |_,_ => .bad
def eqT(P:Program)(t:TypeId):Bool :=
 match P.underlying t with
 |some (.struct fs)=>fs.toList.all (fun f=>f.name != "_") && !P.stoodInHeld t && !P.eqGuardType P.depth t
 |some (.pointer e)=>(P.info? e).isSome
 |_=>false
def JB(st:AS)(op:BinOp)(k:TK)(q:Bool)(fl:List (Nat×Nat×TK)):AV->AV->R
 |.p (.v (.int i a)),.p (.v (.int j b))=>lc st op i a b (eqK i j)
 |.p (.v (.string a)),.p (.v (.string b))=>N2 st op a b
 |.p (.v (.bool a)),.p (.v (.bool b))=>FA st op a b k
 |.p (.data _ n _),.p (.v (.slice none 0 0))=>match k with | .slice=>fC st op (n≠0) false|_ => .bad
 |.sl _ _ n _,.p (.v (.slice none 0 0))=>match k with | .slice=>fC st op (n≠0) false|_ => .bad
 |.p (.v (.slice none _ _)),.p (.v (.slice none 0 0))=>match k with | .slice=>fC st op True true|_ => .bad
 |.p (.v (.slice (some _) _ _)),.p (.v (.slice none 0 0))=>match k with | .slice=>fC st op True false|_ => .bad
 |.agg xs,.agg ys=>match k with | .struct=>DE st op (lg fl xs ys) q|_ => .bad
 |.p (.v (.pointer none)),.p (.v (.pointer none))=>match k with | .ptr=>fC st op True true|_ => .bad
 |.ptr _ _,.p (.v (.pointer none))=>match k with | .ptr=>fC st op True false|_ => .bad
 |.ptr i a,.ptr j b=>match k,q,p' i j,p' a b with | .ptr,true,true,true=>fC st op True true|_,_,_,_ => .bad
 |_,_ => .bad
def unR(st:AS):UnOp->AV->R
 |.not,.p (.v (.bool b)) => .pure st (.b (!b))
 |.neg,.p (.v (.int k n)) => .pure st (.p (.v (.int k (k.wrap (0-n)))))
 |.xor,.p (.v (.int k n)) => .pure st (.p (.v (.int k (kq k (if k.signed then -1 else k.max) n))))
 |_,_ => .bad
def bt(x:UInt8):PV := .v (.int .u8 (x.toNat:Int))
def isB:PV->Prop
 |.v (.int .u8 n)=>∃x:UInt8,n=(x.toNat:Int)
 |_=>False
def unB:PV->UInt8
 |.v (.int .u8 n)=>UInt8.ofNat n.toNat
 |_=>0
def uh(cs:List PV):Prop:=∀c∈cs,isB c
def eV(cs:List PV):List UInt8:=cs.map unB
def unP:AV->PV
 |.p x=>x
 |_ => .v undef
def isP:AV->Prop
 |.p _=>True
 |_=>False
def fD(cs:List AV):List PV:=cs.map unP
def iY(cs:List AV):Prop:=∀c∈cs,isP c
def strOf(l:List UInt8):Value := .string ⟨l.toArray⟩
def ui(st:AS)(ti:TI)(es:Nat):AV->AV->R
 |.p (.data s n cs),.p (.v (.int _ i))=>match ti.kind,p' s es,u' 1 es with
  |.slice,true,true => .pureS st (0<=i/\i<n) (.cp (cs.drop (i.toNat*s)))
  |_,_,_ => .bad
 |.sl id off n s,.p (.v (.int _ i))=>match ti.kind,p' s es,u' 1 es with
  |.slice,true,true => .pureS st (0<=i/\i<n) (.ptr id (off+i.toNat*s))
  |_,_,_ => .bad
 |.ptr id off,.p (.v (.int _ i))=>match ti.kind,u' 1 es with
  |.array,true => .pureS st (0<=i/\i<ti.len) (.ptr id (off+i.toNat*es))
  |_,_ => .bad
 |.cp cs,.p (.v (.int _ i))=>match ti.kind,u' 1 es with
  |.array,true => .pureS st (0<=i/\i<ti.len) (.cp (cs.drop (i.toNat*es)))
  |_,_ => .bad
 |_,_ => .bad
def AT(st:AS)(ti:TI)(es:Nat)(ek:TK):AV->AV->R
 |.p (.v (.string s)),.p (.v (.int _ i))=>match ti.kind with
  |.str => .pureS st (0<=i/\i<s.size) (.p (.v (.int .u8 ((s.data.toList.getD i.toNat 0).toNat:Int))))
  |_ => .bad
 |.agg cs,.p (.v (.int _ i))=>match ti.kind,u' 1 es with
  |.array,true => .pureS st (0<=i/\i<ti.len/\i.toNat*es+es<=cs.length) (ka ek es (cs.drop (i.toNat*es)))
  |_,_ => .bad
 |_,_ => .bad
def N3(st:AS)(ti:TI):AV->R
 |.p (.data _ n _)=>match ti.kind with | .slice => .pure st (.i n)|_ => .bad
 |.p (.v (.slice _ n _))=>match ti.kind with | .slice => .pure st (.i n)|_ => .bad
 |.sl _ _ n _=>match ti.kind with | .slice => .pure st (.i n)|_ => .bad
 |.p (.v (.string s))=>match ti.kind with | .str => .pure st (.i s.size)|_ => .bad
 |_ => .bad
def FB(st:AS):AV->AV->R
 |.p (.v (.int k a)),.p (.v (.int _ b)) => .pure st (.p (.v (.int k (if b>a then b else a))))
 |_,_ => .bad
def FC(st:AS):AV->AV->R
 |.p (.v (.int k a)),.p (.v (.int _ b)) => .pure st (.p (.v (.int k (if b<a then b else a))))
 |_,_ => .bad
def keys(u:List (Nat×Option Blk)):List Nat:=u.map (·.1)
def updH(u:List (Nat×Option Blk))(h:bv):bv:=fun i=>if i∈keys u then hget u i else h i
def restr(T:List Nat)(h:bv):bv:=fun i=>if i∈T then h i else none
def OSet(ρ:aD)(ids:List Nat):aK:=fun b=>∃i,i∈ids/\ρ i=some b
theorem eN{k i:Nat}(h:¬k=i):p' k i=false:=by
 grind [p',absurd,Nat.eq_of_beq_eq_true]
theorem dA(u b:List (Nat×Option Blk)):hget (u++b)=updH u (hget b):=by
 funext i
 induction u with
 |nil=>simp[updH,keys]
 |cons x r e =>
  obtain⟨k,v⟩:=x;by_cases c:k=i
  .simp_all[hget,updH,keys]
  .have d:p' k i=false:=eN c;have a:¬i=k:=fun h=>c h.symm
   simp only[List.cons_append,hget,d,e];simp only[updH,keys,hX,hZ,a,false_or,hget,d];rfl
structure Post(ρ:aD)(F:aK)(w:World)(T:List Nat)(u:List (Nat×Option Blk))(h:bv)(v:AV)(x:Value)(ρ':aD)(F':aK)(w':World):Prop where
 rho:∀i b,ρ i=some b->ρ' i=some b
 new:∀i,ρ i=none->ρ' i≠none->i∈keys u
 blk:∀i b,ρ i=none->ρ' i=some b->w.heap.size<=b\/OSet ρ (keys u) b
 rd:Rd ρ' F' w' v x
 hp:HpOk ρ' F' w' (restr (T++keys u) (updH u h))
 fok:oB F' w'
 chg:Chg (OSet ρ (keys u)) F F' w w'
structure PreH(ρ:aD)(F:aK)(w:World)(T:List Nat)(u:List (Nat×Option Blk))(h:bv):Prop where
 fok:oB F w
 hp:HpOk ρ F w (restr T h)
 fresh:∀i,i∈keys u->i∉T->ρ i=none
structure Pre(ρ:aD)(F:aK)(w:World)(T:List Nat)(u:List (Nat×Option Blk))(h:bv):Prop where
 fok:oB F w
 hp:HpOk ρ F w (restr T h)
 fresh:∀i,i∈keys u->i∉T->ρ i=none
 glob:GlobOk F w
def OpT(P:Program)(o:Oper)(st:AS)(v:AV)(T:List Nat)(u:List (Nat×Option Blk)):Prop :=
 ∀(ρ:aD) (F:aK) (a:Act) (w:World),Pre ρ F w T u (hget st.hp)->(∀x,x∈o.op.operands.toList->Rd ρ F w (ev st x) (a.eval x)) ->
  ∀(K:Act->World->Prop) (Q:Exit->Act->World->Prop),
   (∀x ρ' F' w',Post ρ F w T u (hget st.hp) v x ρ' F' w'->K (a.put o.dst x) w')->o.wp P a w K Q
structure OpOk(P:Program)(o:Oper)(st:AS)(v:AV)(T:List Nat)(u:List (Nat×Option Blk))(nx:Nat):Prop where
 tri:OpT P o st v T u
 le:st.nx<=nx
 keysOk:∀i,i∈keys u->i∈T\/(st.nx<=i/\i<nx)
 live:∀i,i∈T->hget st.hp i≠none
structure Ctx where
 P:Program
 fn:Func
 R:Ending->World->Prop
 w0:World
 F0:aK
 O:aK
 ρ0:aD
structure Conc(c:Ctx)(ρ:aD)(F:aK)(st:AS)(a:Act)(w:World):Prop where
 defers:a.defers=[]
 size:a.tmps.size=st.n
 slots:∀s,Rd ρ F w (lk st.sl s) (a.tmps.getD s undef)
 heap:HpOk ρ F w (hget st.hp)
 fresh:∀i,st.nx<=i->ρ i=none
 fok:oB F w
 chg:Chg c.O c.F0 F c.w0 w
 dom:∀i,hget st.hp i≠none->i<st.nx
 own:∀i b,hget st.hp i≠none->ρ i=some b->c.w0.heap.size<=b\/c.O b
 keep:∀i b,c.ρ0 i=some b->ρ i=some b
 glob:GlobOk F w
def put(st:AS)(d:Option Nat)(v:AV):AS :=
 match d with
 |some d=>match C' d st.n with
  |true=>⟨st.n,(d,v)::st.sl,st.hp,st.nx⟩
  |false=>st
 |none=>st
def eff(st:AS)(d:Option Nat)(v:AV)(u:List (Nat×Option Blk))(nx:Nat):AS :=
 put ⟨st.n,st.sl,u++st.hp,nx⟩ d v
theorem aY{T:List Nat}{h:bv}{i:Nat}{k:Blk}(a:restr T h i=some k):i∈T/\h i=some k:=by
 simp_all[restr]
theorem HpOk.restr{ρ:aD}{F:aK}{w:World}{h:bv}(a:HpOk ρ F w h)(T:List Nat):HpOk ρ F w (restr T h) where
 ok i k hi:=a.ok i k (aY hi).2
 inj i j b hi hj h1 h2:=a.inj i j b
  (by intro e;apply hi;unfold Abs.restr;split<;>simp[e]) (by intro e;apply hj;unfold Abs.restr;split<;>simp[e]) h1 h2
theorem PreH.notF{ρ:aD}{F:aK}{w:World}{T:List Nat}{u:List (Nat×Option Blk)}{h:bv}(f:PreH ρ F w T u h)(a:∀i,i∈T->h i≠none)
 {b:Nat} (g:OSet ρ (keys u) b):¬F b:=by
 obtain⟨i,j,e⟩:=g;have c:i∈T:=by
  by_cases c:i∈T
  .exact c
  .have:=f.fresh i j c;rw[this] at e;cases e
 obtain⟨k,l⟩:=em.1 (a i c);rcases f.hp.ok i k (by simp[restr,c,l]) with⟨_,m⟩|⟨n,d,ho⟩
 .simp_all
 .rw[e] at d;cases d;exact ho.own
theorem Post.keepH{ρ:aD}{F:aK}{w:World}{T:List Nat}{u:List (Nat×Option Blk)}{h:bv}{v:AV}{x:Value}{ρ':aD}{F':aK}{w':World}
 (a:PreH ρ F w T u h) (c:∀i,i∈T->h i≠none) (d:Post ρ F w T u h v x ρ' F' w') {y:AV} {z:Value} (f:Rd ρ F w y z):Rd ρ' F' w' y z :=
 f.mono d.rho d.chg.sub (fun b e=>d.chg.same b (a.fok b e) (fun g=>a.notF c g e)) d.chg.cells
theorem Pre.toH{ρ:aD}{F:aK}{w:World}{T:List Nat}{u:List (Nat×Option Blk)}{h:bv}(a:Pre ρ F w T u h):PreH ρ F w T u h:=⟨a.fok,a.hp,a.fresh⟩
theorem Pre.notF{ρ:aD}{F:aK}{w:World}{T:List Nat}{u:List (Nat×Option Blk)}{h:bv}(c:Pre ρ F w T u h)(a:∀i,i∈T->h i≠none)
 {b:Nat} (d:OSet ρ (keys u) b):¬F b:=c.toH.notF a d
theorem Post.keep{ρ:aD}{F:aK}{w:World}{T:List Nat}{u:List (Nat×Option Blk)}{h:bv}{v:AV}{x:Value}{ρ':aD}{F':aK}{w':World}
 (a:Pre ρ F w T u h) (b:∀i,i∈T->h i≠none) (c:Post ρ F w T u h v x ρ' F' w') {y:AV} {z:Value} (d:Rd ρ F w y z):Rd ρ' F' w' y z:=Post.keepH a.toH b c d
theorem Post.glob{ρ:aD}{F:aK}{w:World}{T:List Nat}{u:List (Nat×Option Blk)}{h:bv}{v:AV}{x:Value}{ρ':aD}{F':aK}{w':World}
 (a:Pre ρ F w T u h) (c:∀i,i∈T->h i≠none) (d:Post ρ F w T u h v x ρ' F' w'):GlobOk F' w' :=
 a.glob.mono d.chg.sub (fun b e=>d.chg.same b (a.fok b e) (fun f=>a.notF c f e))
theorem Post.frame{ρ:aD}{F:aK}{w:World}{T:List Nat}{u:List (Nat×Option Blk)}{h:bv}{v:AV}{x:Value}{ρ':aD}{F':aK}{w':World}
 (y:HpOk ρ F w h) (L:oB F w) (M:∀i,i∈keys u->i∉T->ρ i=none) (e:∀i,i∈T->h i≠none) (n:Post ρ F w T u h v x ρ' F' w') :
 HpOk ρ' F' w' (updH u h):=by
 have q:PreH ρ F w T u h:=⟨L,y.restr T,M⟩;have z:∀i,i∈T++keys u->restr (T++keys u) (updH u h) i=updH u h i:=fun i l=>by simp only[restr,b9 l]
 have f:∀i,i∉T++keys u->updH u h i=h i:=fun i l=>by
  simp_all[keys,updH]
 have r:∀i b,i∉T++keys u->h i≠none->ρ i=some b->¬OSet ρ (keys u) b/\b<w.heap.size:=by
  intro i b l Q s;refine⟨?_,?_⟩
  .rintro⟨j,A,a⟩;have d:j∈T:=by
    grind
   have:=y.inj i j b Q (e j d) s a;simp_all
  .obtain⟨k,C⟩:=em.1 Q;rcases y.ok i k C with⟨_,R⟩|⟨K,D,ho⟩
   .simp_all
   .rw[s] at D;cases D;exact ho.lt
 have o:∀i,i∉T++keys u->ρ' i=ρ i:=by
  intro i l;cases p:ρ i with
  |some b=>exact n.rho i b p
  |none =>
   cases N:ρ' i with
   |none=>rfl
   |some b=>exact s5 (List.mem_append_right T (n.new i p (by rw[N];simp))) l
 refine⟨fun i k C=>?_,fun i j b l A g a=>?_⟩
 .by_cases l:i∈T++keys u
  .exact n.hp.ok i k (by rw[z i l];exact C)
  .rw[f i l] at C;rcases y.ok i k C with⟨h1,R⟩|⟨b,s,ho⟩
   .simp_all
   .refine .inr ⟨b,n.rho _ _ s,?_⟩;obtain⟨t,B⟩:=r i b l (by rw[C];simp) s;refine ho.keep (fun O=>?_) (n.chg.same b B t) n.chg.sub (fun b s=>n.chg.same b (q.fok b s) (fun t=>q.notF e t s)) (fun c u _ p=>Post.keepH q e n p);rcases n.chg.new b O with h1|h1|h1
    .exact ho.own h1
    .omega
    .exact t h1
 .by_cases m:i∈T++keys u<;>by_cases d:j∈T++keys u
  .exact n.hp.inj i j b (by rw[z i m];exact l) (by rw[z j d];exact A) g a
  ·
   rw[f j d] at A;rw[o j d] at a;obtain⟨t,B⟩:=r j b d A a;cases p:ρ i with
   |some K =>
    have:=n.rho i K p;rw[g] at this;cases this;by_cases E:i∈keys u
    .exact s5 ⟨i,E,p⟩ t
    .have G:i∈T:=by rcases o1.1 m with h1|h1;exact h1;exact s5 h1 E
     exact y.inj i j b (e i G) A p a
   |none =>
    rcases n.blk i b p g with h1|h1
    .omega
    .simp_all
  .rw[f i m] at l;rw[o i m] at g;obtain⟨t,B⟩:=r i b m l g;cases p:ρ j with
   |some K =>
    have:=n.rho j K p;rw[a] at this;cases this;by_cases H:j∈keys u
    .exact s5 ⟨j,H,p⟩ t
    .have I:j∈T:=by rcases o1.1 d with h1|h1;exact h1;exact s5 h1 H
     exact y.inj i j b l (e j I) g p
   |none =>
    rcases n.blk j b p a with h1|h1
    .omega
    .simp_all
  .rw[f i m] at l;rw[f j d] at A;rw[o i m] at g;rw[o j d] at a;exact y.inj i j b l A g a
theorem Conc.ev{c:Ctx}{ρ:aD}{F:aK}{st:AS}{a:Act}{w:World}(h:Conc c ρ F st a w)(x:Operand) :
 Rd ρ F w (ev st x) (a.eval x):=by
 cases x with
 |tmp t =>
  simp only[Abs.ev,Act.eval];exact h.slots t
 |const v =>
  simp only[Abs.ev,Act.eval];exact afK
 |global g =>
  exact ag2
 |func f=>exact .p _ _ (.v _ rfl)
theorem iq(k:Nat)(v:AV)(r:List (Nat×AV))(n:Nat):lk ((k,v)::r) n=if k=n then v else lk r n:=by
 show(match p' k n with|true=>v|false=>lk r n)=_;by_cases h:k=n
 .subst h;simp
 .rw[eN h,b0 h]
theorem tz{P:Program}{o:Oper}{st:AS}{v:AV}{T:List Nat}{u:List (Nat×Option Blk)}{nx:Nat}(ho:OpOk P o st v T u nx)
 {c:Ctx} {ρ:aD} {F:aK} {a:Act} {w:World} (h:Conc c ρ F st a w) (K:Act->World->Prop) (Q:Exit->Act->World->Prop)
 (D:∀ ρ' F' a' w',Conc c ρ' F' (eff st o.dst v u nx) a' w'->K a' w'):o.wp P a w K Q:=by
 have m:∀i,i∈keys u->i∉T->ρ i=none:=fun i e q=>h.fresh i (by rcases ho.keysOk i e with h1|h1;exact s5 h1 q;exact h1.1)
 have f:Pre ρ F w T u (hget st.hp):=⟨h.fok,h.heap.restr T,m,h.glob⟩;refine ho.tri ρ F a w f (fun x _=>h.ev x) K Q (fun x ρ' F' w' g=>D ρ' F' _ w' ?_);have r:=Post.frame h.heap h.fok m ho.live g;have E:∀b,OSet ρ (keys u) b->c.O b\/c.w0.heap.size<=b:=by
  rintro b ⟨i,e,l⟩;have q:i∈T:=by
   grind
  rcases h.own i b (ho.live i q) l with h1|h1
  .exact .inr h1
  .exact .inl h1
 have G:∀(d:Option Nat) (s:Nat),Rd ρ' F' w' (lk (eff st d v u nx).sl s) ((a.put d x).tmps.getD s undef):=by
  intro d s;have p:=Post.keep f ho.live g (h.slots s);cases d with
  |none=>exact p
  |some d =>
   simp only[eff,put,Act.put];cases t:C' d st.n with
   |false =>
    exact ahx
   |true =>
    have y:d<st.n:=by simpa[Nat.blt_eq] using t
    simp only[iq];by_cases z:d=s
    .subst z;have:d<a.tmps.size:=by rw[h.size];exact y
     simp[kc,this];exact g.rd
    .simp_all
 have H:(eff st o.dst v u nx).n=st.n:=by unfold eff put;cases o.dst with|none=>rfl|some d=>dsimp only;cases C' d st.n<;>rfl
 have A:(eff st o.dst v u nx).hp=u++st.hp:=by unfold eff put;cases o.dst with|none=>rfl|some d=>dsimp only;cases C' d st.n<;>rfl
 have B:(eff st o.dst v u nx).nx=nx:=by unfold eff put;cases o.dst with|none=>rfl|some d=>dsimp only;cases C' d st.n<;>rfl
 refine⟨?_,?_,?_,?_,?_,g.fok,h.chg.trans g.chg E,?_,?_,fun i b l=>g.rho i b (h.keep i b l),Post.glob f ho.live g⟩
 .cases z:o.dst<;>simp[Act.put,h.defers]
 .rw[H,<-h.size];cases z:o.dst<;>simp[Act.put]
 .simp_all
 .simp_all[dA]
 .intro i e;rw[B] at e;have I:=h.fresh i (z' ho.le e);cases k:ρ' i with
  |none=>rfl
  |some b =>
   have j:=g.new i I (by rw[k];simp);rcases ho.keysOk i j with h1|h1
   .have:=h.dom i (ho.live i h1);have:=ho.le;omega
   .omega
 .intro i e;rw[A,dA] at e;rw[B];by_cases j:i∈keys u
  .rcases ho.keysOk i j with h1|h1
   .exact q' (h.dom i (ho.live i h1)) ho.le
   .exact h1.2
  .simp only[updH,b0 j] at e;exact q' (h.dom i e) ho.le
 .intro i b e l;rw[A,dA] at e;cases k:ρ i with
  |some b' =>
   have:=g.rho i b' k;rw[l] at this;cases this;by_cases C:hget st.hp i=none
   ·
    have j:i∈keys u:=by
     by_cases j:i∈keys u
     .exact j
     .simp_all[updH]
    rcases ho.keysOk i j with h1|h1
    .exact s5 C (ho.live i h1)
    .rw[h.fresh i h1.1] at k;cases k
   .exact h.own i b C k
  |none =>
   rcases g.blk i b k l with h1|h1
   .exact .inl (z' h.chg.size h1)
   .grind
section
variable {ρ : aD} {F : aK} {w : World}
theorem Rd.pv{x:Value}{u:Value}(h:Rd ρ F w (.p (.v x)) u):u=x:=by
 cases h with
 |p _ _ h=>cases h with|v _ _=>rfl
theorem Rd.ptrInv{i o:Nat}{u:Value}(h:Rd ρ F w (.ptr i o) u):∃b,ρ i=some b/\u = .pointer (some ⟨b,o,none⟩):=by
 cases h with
 |ptr _ _ b h=>exact⟨b,h,rfl⟩
theorem Rd.aggInv{cs:List AV}{u:Value}(h:Rd ρ F w (.agg cs) u):∃us:Array Value,u = .agg us/\us.size=cs.length/\∀j c,cs[j]?=some c->Rd ρ F w c (us.getD j undef):=by
 cases h with
 |agg _ us hl hr=>exact⟨us,rfl,hl,hr⟩
theorem Rd.tupInv{cs:List AV}{u:Value}(h:Rd ρ F w (.tup cs) u):∃us:Array Value,u = .tuple us/\us.size=cs.length/\∀j c,cs[j]?=some c->Rd ρ F w c (us.getD j undef):=by
 cases h with
 |tup _ us hl hr=>exact⟨us,rfl,hl,hr⟩
theorem Rd.ofV{x:Value}(h:x.oneCell'=true):Rd ρ F w (.p (.v x)) x := .p _ _ (.v _ h)
theorem Rd.ofI(k:IntKind)(n:Int):Rd ρ F w (.p (.v (.int k n))) (.int k n) := .p _ _ (.v _ rfl)
theorem RdP.one{x:PV}{u:Value}(h:RdP F w x u)(h1:Jz x=true):u.oneCell'=true:=by
 cases h with
 |v _ h=>exact h
 |nil=>rfl
 |data=>rfl
 |iface=>rfl
 |agg=>cases h1
theorem Rd.one{x:AV}{u:Value}(h:Rd ρ F w x u)(h1:oneC x=true):u.oneCell'=true:=by
 cases h with
 |p _ _ h=>exact h.one h1
 |ptr=>rfl
 |sl=>rfl
 |slz=>rfl
 |cp=>rfl
 |agg=>cases h1
 |tup=>cases h1
 |iface=>rfl
 |fn=>rfl
 |mp=>rfl
 |any=>cases h1
theorem Rd.cells{x:AV}{u:Value}(h:Rd ρ F w x u)(h1:dI (cells x)=true):u.cells.size=(cells x).length/\∀j c,(cells x)[j]?=some c->Rd ρ F w c (u.cells.getD j undef):=by
 have a:∀(y:AV),Abs.cells x=[y]->y=x->oneC x=true->u.cells.size=(Abs.cells x).length/\∀j c,(Abs.cells x)[j]?=some c->Rd ρ F w c (u.cells.getD j undef):=by
  intro y f e ho;subst e;have g:u.cells=#[u]:=by
   have:=h.one ho;cases u<;>first|rfl|(simp[Value.oneCell'] at this)
  rw[f,g];refine⟨rfl,fun j c d=>?_⟩;cases j with
  |zero=>simp at d;subst d;simpa using h
  |succ j=>simp at d
 have b:∀y,dI [y]=true->oneC y=true:=by
  grind [dI,oneC]
 cases x with
 |agg cs =>
  obtain⟨us,rfl,i,k⟩:=h.aggInv;exact⟨i,k⟩
 |p x=>exact a _ rfl rfl (b _ h1)
 |ptr=>exact a _ rfl rfl rfl
 |sl=>exact a _ rfl rfl rfl
 |cp=>exact a _ rfl rfl rfl
 |tup=>cases h1
 |iface=>exact a _ rfl rfl rfl
 |fn=>exact a _ rfl rfl rfl
 |mp=>exact a _ rfl rfl rfl
 |any=>cases h1
theorem qW{cs:List AV}(h:dI cs=true){j:Nat}{c:AV}(a:cs[j]?=some c):oneC c=true:=by
 induction cs generalizing j with
 |nil=>simp at a
 |cons x r b =>
  grind [dI,oneC]
end
section
variable {P : Program}
theorem Post.pure{ρ:aD}{F:aK}{w:World}{h:bv}{v:AV}{x:Value}(a:oB F w)(c:Rd ρ F w v x):Post ρ F w [] [] h v x ρ F w where
 rho _ _ h:=h
 new i h1 h2:=s5 h1 h2
 blk i b h1 h2:=by rw[h1] at h2;cases h2
 rd:=c
 hp:=⟨fun i k h=>by simp[restr,keys] at h,fun i j b h=>by simp[restr,keys] at h⟩
 fok:=a
 chg:=Chg.refl _ _ _
theorem bH{o:Oper}{st:AS}{v:AV}
 (h:∀(ρ:aD) (F:aK) (a:Act) (w:World),(∀x,x∈o.op.operands.toList->Rd ρ F w (ev st x) (a.eval x)) ->
  ∃x,(execOp a.eval o).run P w = .ok (.value x) w/\Rd ρ F w v x):OpOk P o st v [] [] st.nx where
 tri ρ F a w hpre hin K Q hK:=by
  obtain⟨x,b,c⟩:=h ρ F a w hin;unfold Oper.wp;rw[b];exact hK x ρ F w (Post.pure hpre.fok c)
 le:=c7 _
 keysOk i hi:=by simp[keys] at hi
 live i hi:=by simp at hi
theorem FD{o:Oper}{st:AS}{x:Operand}(ho:o.op = .move x\/o.op = .assign x):OpOk P o st (ev st x) [] [] st.nx :=
 bH fun ρ F a w b=>⟨a.eval x,by rcases ho with ho|ho<;>simp[execOp,ho],b x (by rcases ho with ho|ho<;>simp[ho,L'])⟩
theorem N4{o:Oper}{st:AS}{c x y:Operand}(ho:o.op = .pick c x y){b:Bool}(e:ev st c = .p (.v (.bool b))) :
 OpOk P o st (if b=true then ev st x else ev st y) [] [] st.nx :=
 bH fun ρ F a w d=>by
  have h1:=d c φ;have h2:=d x φ;have f:=d y φ;rw[e] at h1;refine⟨if b=true then a.eval x else a.eval y,?_,by cases b<;>assumption⟩;simp only[execOp,ho,h1.pv,asBool];cases b<;>rfl
theorem DF{o:Oper}{st:AS}{c:BinOp}{t h:TypeId}{x y:Operand}(ho:o.op = .binOp c t x y h){d e:Value}(i:ev st x = .p (.v d))(j:ev st y = .p (.v e)){r:Value}
 (k:∀w,(do eqGuard c t x y d e;binOp c t d e:Sem Value).run P w = .ok r w) (h1:r.oneCell'=true):OpOk P o st (.p (.v r)) [] [] st.nx :=
 bH fun ρ F a w b=>by
  have f:=b x φ;have g:=b y φ;rw[i] at f;rw[j] at g;refine⟨r,?_,.ofV h1⟩;have:=k w;simp only[execOp,ho,f.pv,g.pv];rw[hW,this];rfl
theorem Rn{a b:IntKind}(h:eqK a b=true):a=b:=by cases a<;>cases b<;>first|rfl|cases h
theorem wN(c:BinOp)(t:TypeId)(x y:Operand)(k j:IntKind)(a b:Int)(w:World):(eqGuard c t x y (.int k a) (.int j b)).run P w = .ok () w:=by
 simp[eqGuard]
theorem uj(c:BinOp)(t:TypeId)(x y:Operand)(a b:Bool)(w:World):(eqGuard c t x y (.bool a) (.bool b)).run P w = .ok () w:=by
 simp[eqGuard]
theorem wO(c:BinOp)(t:TypeId)(x y:Operand)(a b:ByteArray)(w:World):(eqGuard c t x y (.string a) (.string b)).run P w = .ok () w:=by
 simp[eqGuard]
theorem JC{o:Oper}{st:AS}{d:BinOp}{t e:TypeId}{x y:Operand}(ho:o.op = .binOp d t x y e){k j:IntKind}{a b:Int}(f:ev st x = .p (.v (.int k a)))(g:ev st y = .p (.v (.int j b))) :
 (∀v T u nx,lc st d k a b (eqK k j) = .ok v T u nx->OpOk P o st v T u nx)/\(∀s v T u nx,lc st d k a b (eqK k j) = .okS s v T u nx->s->OpOk P o st v T u nx):=by
 have c:∀r:Value,r.oneCell'=true->(∀w,(binOp d t (.int k a) (.int j b)).run P w = .ok r w)->OpOk P o st (.p (.v r)) [] [] st.nx:=fun r h1 h2 =>
  DF ho f g (fun w=>by rw[hW,wN];exact h2 w) h1
 cases i:eqK k j with
 |true =>
  have:=Rn i;subst this;refine⟨fun v T u nx h=>?_,fun s v T u nx h hs=>?_⟩
  .cases d<;>simp only[lc,R.pure,R.pureS,R.ok.injEq,reduceCtorEq] at h <;>
    (obtain⟨rfl,rfl,rfl,rfl⟩:=h;exact c _ rfl (fun w=>by simp[binOp,Op.intArith,Op.intCmp,Op.intBits,band,bor,kq,xn]<;>rfl))
  .cases d<;>simp only[lc,R.pure,R.pureS,R.okS.injEq,reduceCtorEq] at h <;>
    (obtain⟨rfl,rfl,rfl,rfl,rfl⟩:=h)
   .exact c _ rfl (fun w=>by simp[binOp,Op.intDiv,hs])
   .exact c _ rfl (fun w=>by simp[binOp,Op.intDiv,hs])
   .exact c _ rfl (fun w=>by simp[binOp,Op.shift,iF,show¬b<0 by omega])
   .exact c _ rfl (fun w=>by simp[binOp,Op.shift,ishr,show¬b<0 by omega])
 |false =>
  refine⟨fun v T u nx h=>?_,fun s v T u nx h hs=>?_⟩
  .cases d<;>simp only[lc,R.pureS,reduceCtorEq] at h
  .cases d<;>simp only[lc,R.pureS,R.okS.injEq,reduceCtorEq] at h <;>
    (obtain⟨rfl,rfl,rfl,rfl,rfl⟩:=h)
   .exact c _ rfl (fun w=>by simp[binOp,Op.shift,iF,show¬b<0 by omega])
   .exact c _ rfl (fun w=>by simp[binOp,Op.shift,ishr,show¬b<0 by omega])
theorem cC{t:TypeId}(h:1<=cx P t):∃d i,P.underlying t=some d/\P.info? t=some i/\i.size=cx P t:=by
 grind [cx]
theorem dJ(b o n:Nat):(⟨b,o,none⟩:Addr).add n=⟨b,o+n,none⟩:=by
 simp[Addr.add]
theorem jT{w:World}{b:Nat}{arr:Array Value}{t:TypeId}{a:Nat×Nat}(h:w.heap[b]?=some (.cells arr t a)){i:Nat}(c:i<arr.size) :
 w.cell? ⟨b,i,none⟩=some (arr.getD i undef):=by
 simp_all[World.cell?,kc]
theorem xo{t:TypeId}{d:TypeDesc}(a:P.underlying t=some d)(w:World):(isAgg t).run P w = .ok (fx (some d)).agg w:=by
 cases d<;>simp[isAgg,qs a,fx,TK.agg]
theorem gF{t:TypeId}{w:World}{b o:Nat}(f:Nat->Value)(hs:1<=cx P t)(a:∀j,j<cx P t->w.cell? ⟨b,o+j,none⟩=some (f j)) :
 (loadVar t ⟨b,o,none⟩).run P w = .ok (if(fx (P.underlying t)).agg=true then .agg ((j' (cx P t)).map f).toArray else f 0) w:=by
 obtain⟨d,i,c,g,h⟩:=cC hs;have k:=run_loadCells (P:=P) w ⟨b,o,none⟩ (cx P t) f (fun j l=>by rw[dJ];exact a j l);have e:=a 0 ω;simp only[A'] at e;unfold loadVar;rw[hW,xo c,c];cases ha:(fx (some d)).agg with
 |true=>simp[sizeOf,typeInfo,g,h,k]
 |false=>simp[e]
theorem eo{arr:Array Value}{j:Nat}:arr.getD j undef=(arr[j]?).getD undef:=by simp[kc]
theorem nl{ρ:aD}{F:aK}{w:World}{t:TypeId}{cs:List AV}{off:Nat}{f:Nat->Value}(hs:1<=cx P t)(b:off+cx P t<=cs.length)
 (d:∀j c,cs[j]?=some c->Rd ρ F w c (f j)) :
 Rd ρ F w (ka (fx (P.underlying t)) (cx P t) (cs.drop off)) (if(fx (P.underlying t)).agg=true then .agg ((j' (cx P t)).map fun j=>f (off+j)).toArray else f (off+0)):=by
 unfold ka;cases ha:(fx (P.underlying t)).agg with
 |true =>
  simp only[if_true];refine .agg _ _ ζ (fun j c e=>?_);simp_all[cx,l0]
 |false =>
  simp only[Bool.false_eq_true,if_false];cases a:cs.drop off with
  |nil =>
   have:=congrArg List.length a
   grind
  |cons c r =>
   simp only[ag];have:cs[off]?=some c:=by
    have h2:(cs.drop off)[0]?=some c:=by rw[a];rfl
    simpa using h2
   simp_all
theorem AU{o:Oper}{st:AS}{t:TypeId}{x:Operand}(ho:o.op = .load t x){id off:Nat}(q:ev st x = .ptr id off){k:Blk}(l:hget st.hp id=some k)
 (hs:1<=cx P t) (r:off+cx P t<=k.cs.length):OpOk P o st (ka (fx (P.underlying t)) (cx P t) (k.cs.drop off)) [id] [] st.nx where
 tri ρ F a w hpre hin K Q hK:=by
  have h1:=hin x φ;rw[q] at h1;obtain⟨b,s,hv⟩:=h1.ptrInv;have u:restr [id] (hget st.hp) id=some k:=by simp[restr,l]
  rcases hpre.hp.ok id k u with⟨_,z⟩|⟨A,d,e⟩
  .simp_all
  rw[s] at d;cases d;obtain⟨arr,B,ha,v,m,y⟩:=e.is (.inl ω);have n:=gF (P:=P) (t:=t) (w:=w) (b:=b) (o:=off) (fun j=>arr.getD (off+j) undef) hs (fun j p=>jT ha ω);unfold Oper.wp;have g:(execOp a.eval o).run P w = .ok (.value (if(fx (P.underlying t)).agg=true then .agg ((j' (cx P t)).map fun j=>arr.getD (off+j) undef).toArray else arr.getD (off+0) undef)) w:=by
   simp_all[execOp,Instr.loadAt,Instr.sureAddr,ez]
  rw[g];refine hK _ ρ F w ⟨fun _ _ h=>h,fun i h1 h2=>s5 h1 h2,fun i b h1 h2=>(by rw[h1] at h2;cases h2),nl hs r (f:=fun j=>arr.getD j undef) (fun j c p=>(y j c p).2),?_,hpre.fok,Chg.refl _ _ _⟩;exact af5
 le:=c7 _
 keysOk i hi:=by simp[keys] at hi
 live i hi:=by simp at hi;subst hi;rw[l];simp
def eG(ρ:aD)(id b:Nat):aD:=fun i=>if i=id then some b else ρ i
theorem Post.newBlkF{ρ:aD}{F:aK}{w w1:World}{id:Nat}{t:TypeId}{cs:List AV}{arr:Array Value}{h:bv}{v:AV}{x:Value}(f:Nat×Nat)(o:FrOk f arr.size)
 (p:oB F w) (z:ρ id=none) (A:cs.length<=arr.size) (u:∀j c,cs[j]?=some c->(arr.getD j undef).oneCell'=true/\Rd ρ F w c (arr.getD j undef))
 (B:w1.heap=w.heap) (C:w1.os=w.os) (D:w1.tape=w.tape) (E:w1.output=w.output)
 (hv:Rd (eG ρ id w.heap.size) F (w1.alloc (.cells arr t f)) v x) :
 Post ρ F w [] [(id,some ⟨t,cs⟩)] h v x (eG ρ id w.heap.size) F (w1.alloc (.cells arr t f)):=by
 have G:∀b,¬OSet ρ (keys [(id,some (⟨t,cs⟩:Blk))]) b:=by
  rintro b ⟨i,l,e⟩;simp_all[keys]
 have a:∀b,b<w.heap.size->(w1.alloc (.cells arr t f)).heap[b]?=w.heap[b]?:=fun b e=>by
  simp_all[Below.heap_alloc]
 have d:Chg (OSet ρ (keys [(id,some (⟨t,cs⟩:Blk))])) F F w (w1.alloc (.cells arr t f)) :=
  ⟨C,D,E,by simp[World.alloc,B],fun b e _=>a b e,⟨fun b n q=>by
   obtain⟨H,I,f,e,K⟩:=q
   exact⟨H,I,f,(a b (S'.1 e).1).trans e,K⟩,fun b y=>by
   have r:=y.lt
   obtain⟨L,c,e⟩:=y
   exact⟨L,c,(a b r).trans e⟩⟩,fun _ h=>h,fun _ h => .inl h⟩
 have g:∀i b,ρ i=some b->eG ρ id w.heap.size i=some b:=fun i b e=>by
  grind [eG]
 refine⟨g,fun i h1 h2=>?_,fun i b h1 h2=>?_,hv,⟨fun i k m=>?_,fun i j b l s _ _=>?_⟩,fun b e=>q' (p b e) d.size,d⟩
 .simp_all[eG,keys]
 .simp_all[eG]
 .obtain⟨l,m⟩:=aY m;simp[keys] at l;subst l;simp[updH,keys,hget] at m;subst m;refine .inr ⟨w.heap.size,by simp[eG],⟨fun M=>s5 (p _ M) (E' _),.inl ⟨arr,f,?_,o,A,fun j c s=>⟨(u j c s).1,(u j c s).2.mono g d.sub (fun b e=>a b (p b e)) d.cells⟩⟩⟩⟩
  grind [heap_alloc_new]
 .simp_all[restr,keys,updH]
theorem Post.newBlk{ρ:aD}{F:aK}{w w1:World}{id:Nat}{t:TypeId}{cs:List AV}{arr:Array Value}{h:bv}{v:AV}{x:Value}
 (b:oB F w) (a:ρ id=none) (d:cs.length<=arr.size) (e:∀j c,cs[j]?=some c->(arr.getD j undef).oneCell'=true/\Rd ρ F w c (arr.getD j undef))
 (f:w1.heap=w.heap) (g:w1.os=w.os) (i:w1.tape=w.tape) (k:w1.output=w.output)
 (hv:Rd (eG ρ id w.heap.size) F (w1.alloc (.cells arr t)) v x) :
 Post ρ F w [] [(id,some ⟨t,cs⟩)] h v x (eG ρ id w.heap.size) F (w1.alloc (.cells arr t)):=Post.newBlkF (0,0) (.zero _) b a d e f g i k hv
theorem Ro{o:Oper}{st:AS}{t:TypeId}{x:Operand}(ho:o.op = .box t x)(h1:dI (cells (ev st x))=true) :
 OpOk P o st (.ptr st.nx 0) [] [(st.nx,some ⟨t,cells (ev st x)⟩)] (st.nx+1) where
 tri ρ F a w hpre hin K Q hK:=by
  have g:=hin x φ;obtain⟨h,f⟩:=g.cells h1;have b:=hpre.fresh st.nx ξ η;unfold Oper.wp;have d:(execOp a.eval o).run P w = .ok (.value (.pointer (some ⟨w.heap.size,0,none⟩))) (w.alloc (.cells (a.eval x).cells t)):=by
   simp only[execOp,ho];rfl
  rw[d];exact hK _ _ F _ (Post.newBlk hpre.fok b ω (fun j c e=>⟨(f j c e).one (qW h1 e),f j c e⟩) rfl rfl rfl rfl (.ptr _ _ _ (by simp[eG])))
 le:=v' _
 keysOk i hi:=by simp[keys] at hi;subst hi;exact .inr ⟨c7 _,G' _⟩
 live i hi:=by simp at hi
theorem FE{z:List Value}{j:Nat}{c:AV}(h:(pvs z)[j]?=some c):∃y,z[j]?=some y/\c = .p (.v y):=by
 induction z generalizing j with
 |nil=>simp[pvs] at h
 |cons x r a =>
  grind [pvs]
theorem tA(z:List Value):(pvs z).length=z.length:=by induction z<;>simp_all[pvs]
theorem xp{z:List Value}(h:fB z=true){j:Nat}{y:Value}(a:z[j]?=some y):y.oneCell'=true:=by
 induction z generalizing j with
 |nil=>simp at a
 |cons x r b =>
  grind [fB]
theorem JD{o:Oper}{st:AS}{t:TypeId}(ho:o.op = .alloc t){z:List Value}(h:(ae P t).zero=some z)(h1:fB z=true) :
 OpOk P o st (.ptr st.nx 0) [] [(st.nx,some ⟨t,pvs z⟩)] (st.nx+1) where
 tri ρ F a w hpre hin K Q hK:=by
  have e:=hpre.fresh st.nx ξ η;simp only[ae,af,nL] at h;obtain⟨i,b,k,f,rfl⟩:=h;unfold Oper.wp;have g:(execOp a.eval o).run P w = .ok (.value (.pointer (some ⟨w.heap.size,0,none⟩))) (w.alloc (.cells k.cells t)):=by
   simp[execOp,ho,Instr.alloc,zeroValue,typeInfo,b,f];rfl
  rw[g];refine hK _ _ F _ (Post.newBlk hpre.fok e (by simp[tA]) (fun j c l=>?_) rfl rfl rfl rfl (.ptr _ _ _ (by simp[eG])));obtain⟨y,m,rfl⟩:=FE l;have d:=xp h1 m;have:k.cells.getD j undef=y:=by
   simp_all
  rw[this];exact⟨d,.ofV d⟩
 le:=v' _
 keysOk i b:=by simp[keys] at b;subst b;exact .inr ⟨c7 _,G' _⟩
 live i b:=by simp at b
theorem nn(vs:List AV):∀(cs:List AV) (i:Nat),(bY cs i vs).length=cs.length:=by
 induction vs with
 |nil=>intro cs i;rfl
 |cons v r a=>intro cs i;simp[bY,a]
theorem xq(vs:List AV):∀(cs:List AV) (i j:Nat),i+vs.length<=cs.length ->
 (bY cs i vs)[j]?=if i<=j/\j<i+vs.length then vs[j-i]? else cs[j]?:=by
 induction vs with
 |nil=>intro cs i j _;simp[bY];omega
 |cons v r a =>
  intro cs i j h;simp only[ew] at h;simp only[bY]
  grind
theorem sz{w:World}{b:Nat}{arr arr':Array Value}{t:TypeId}{f:Nat×Nat}(ha:w.heap[b]?=some (.cells arr t f))(r:arr'.size=arr.size)(O F:aK)(i:O b) :
 Chg O F F w (w.setRow b arr') where
 os:=rfl
 tape:=rfl
 output:=rfl
 size:=by simp[World.setRow]
 same k _ a:=setRow_other w b k arr' (fun e=>a (e ▸ i))
 cells:=by
  refine⟨fun k n j=>?_,fun k l=>?_⟩
  .obtain⟨m,o,g,d,p⟩:=j;by_cases a:k=b
   .subst a;rw[ha] at d;cases d;exact⟨arr',t,f,setRow_heap w k arr arr' t f ha,ω⟩
   .exact⟨m,o,g,(setRow_other w b k arr' a).trans d,p⟩
  .obtain⟨q,c,d⟩:=l;by_cases a:k=b
   .simp_all
   .exact⟨q,c,(setRow_other w b k arr' a).trans d⟩
 sub _ h:=h
 new _ h := .inl h
theorem Post.wrBlk{ρ:aD}{F:aK}{w:World}{id b:Nat}{t:TypeId}{cs:List AV}{arr arr':Array Value}{h:bv}{v:AV}{x:Value}
 (s:oB F w) (o:¬F b) (g:ρ id=some b) {p:Nat×Nat} (ha:w.heap[b]?=some (.cells arr t p)) (l:FrOk p arr.size) (q:arr'.size=arr.size) (u:cs.length<=arr'.size)
 (r:∀j c,cs[j]?=some c->(arr'.getD j undef).oneCell'=true/\Rd ρ F w c (arr'.getD j undef))
 (hv:Rd ρ F w v x):Post ρ F w [id] [(id,some ⟨t,cs⟩)] h v x ρ F (w.setRow b arr'):=by
 have y:OSet ρ (keys [(id,some (⟨t,cs⟩:Blk))]) b:=⟨id,ξ,g⟩;have a:=sz ha q (OSet ρ (keys [(id,some (⟨t,cs⟩:Blk))])) F y;have d:∀k,F k->(w.setRow b arr').heap[k]?=w.heap[k]?:=fun k f=>setRow_other w b k arr' (fun e=>o (e ▸ f))
 refine⟨fun _ _ h=>h,fun i h1 h2=>s5 h1 h2,fun i b h1 h2=>(by rw[h1] at h2;cases h2),hv.mono (fun _ _ h=>h) (fun _ h=>h) d a.cells,⟨fun i k f=>?_,fun i j c m n _ _=>?_⟩,fun k f=>q' (s k f) a.size,a⟩
 .obtain⟨m,f⟩:=aY f;simp[keys] at m;subst m;simp[updH,keys,hget] at f;subst f;exact .inr ⟨b,g,⟨o,.inl ⟨arr',_,setRow_heap w b arr arr' t _ ha,by rw[q];exact l,u,fun j c n=>⟨(r j c n).1,(r j c n).2.mono (fun _ _ h=>h) (fun _ h=>h) d a.cells⟩⟩⟩⟩
 .simp_all[restr,keys,updH]
theorem FF{ρ:aD}{F:aK}{w:World}{arr:Array Value}{cs vs:List AV}{us:List Value}{off:Nat}(f:cs.length<=arr.size)(a:off+vs.length<=cs.length)(d:us.length=vs.length)
 (g:∀j c,cs[j]?=some c->(arr.getD j undef).oneCell'=true/\Rd ρ F w c (arr.getD j undef))
 (hv:∀j c,vs[j]?=some c->(us.getD j undef).oneCell'=true/\Rd ρ F w c (us.getD j undef)) :
 ∀j c,(bY cs off vs)[j]?=some c ->
  (((arr.toList.take off++us++arr.toList.drop (off+us.length)).toArray).getD j undef).oneCell'=true /\
  Rd ρ F w c (((arr.toList.take off++us++arr.toList.drop (off+us.length)).toArray).getD j undef):=by
 intro j c e;rw[xq vs cs off j a] at e;have hget:((arr.toList.take off++us++arr.toList.drop (off+us.length)).toArray).getD j undef=if off<=j/\j<off+vs.length then us.getD (j-off) undef else arr.getD j undef:=by
  have b:min off arr.size=off:=ω;simp only[eo,m',g',c9,hV,N',b,l0,o',U',d,cR]
  grind
 grind
theorem iu{P:Program}(g o:Nat)(t:TypeId)(a:Nat×Nat):∀(vs:List Value) (i:Nat) (cur:Array Value) (w:World),w.heap[g]?=some (.cells cur t a)->FrOk a cur.size->o+i+vs.length<=cur.size->(∀v∈vs,v.oneCell'=true) ->
 (storeCells ⟨g,o,none⟩ vs i).run P w = .ok () (w.setRow g (cur.toList.take (o+i)++vs++cur.toList.drop (o+i+vs.length)).toArray)
 |[],i,cur,w,hg,_,_,_=>by
  simp only[storeCells,List.append_nil,km,A',List.take_append_drop,Array.toArray_toList];rw[setRow_self w g cur t a hg];rfl
 |v::rest,i,cur,w,hg,hfr,hl,h1=>by
  have d:o+i<cur.size:=by simp at hl;omega
  have b:w.cell? ⟨g,o+i,none⟩=some cur[o+i]:=by simp[World.cell?,hg,d]
  have c:w.frozen? ⟨g,o+i,none⟩=false:=by
   rcases hfr with h|h
   .grind [World.frozen?]
   .grind [World.frozen?]
  have e:(store ((⟨g,o,none⟩:Addr).add i) v).run P w = .ok () (w.setRow g (cur.setIfInBounds (o+i) v)):=by
   grind [dJ,run_store,setCell_eq_setRow]
  have j:=iu (P:=P) g o t a rest (i+1) (cur.setIfInBounds (o+i) v) (w.setRow g (cur.setIfInBounds (o+i) v)) (setRow_heap w g cur _ t _ hg) (by simpa using hfr) (by simp at hl⊢;omega) (fun x f=>h1 x (by simp[f]))
  grind [storeCells,Sem.run_bind,Result.andThen_ok,setRow_setRow,list_seg_step,Array.toList_setIfInBounds,Nat.add_assoc]
theorem JE{o:Oper}{st:AS}{t:TypeId}{x y:Operand}(ho:o.op = .store t x y){id off:Nat}(I:ev st x = .ptr id off){k:Blk}(E:hget st.hp id=some k)
 (h1:dI (cells (ev st y))=true) (L:off+(cells (ev st y)).length<=k.cs.length) (hs:(cells (ev st y)).length=cx P t) (M:1<=cx P t) :
 OpOk P o st .any [id] [(id,some ⟨k.t,bY k.cs off (cells (ev st y))⟩)] st.nx where
 tri ρ F a w hpre hin K Q hK:=by
  have h:=hin x φ;have A:=hin y φ;rw[I] at h;obtain⟨b,G,hv⟩:=h.ptrInv;obtain⟨l,m⟩:=A.cells h1;have N:restr [id] (hget st.hp) id=some k:=by simp[restr,E]
  rcases hpre.hp.ok id k N with⟨_,T⟩|⟨U,n,f⟩
  .simp_all
  rw[G] at n;cases n;obtain⟨arr,O,ha,p,q,R⟩:=f.is (.inl ω);obtain⟨d,i,V,g,S⟩:=cC M;have H:(a.eval y).cells.toList.length=(cells (ev st y)).length:=by simpa using l
  have r:∀j c,(cells (ev st y))[j]?=some c->((a.eval y).cells.toList.getD j undef).oneCell'=true/\Rd ρ F w c ((a.eval y).cells.toList.getD j undef):=by
   intro j c s;have e:(a.eval y).cells.toList.getD j undef=(a.eval y).cells.getD j undef:=by simp[cR]
   rw[e];exact⟨(m j c s).one (qW h1 s),m j c s⟩
  have u:∀v∈(a.eval y).cells.toList,v.oneCell'=true:=by
   intro v hv;obtain⟨j,s⟩:=n' hv;have B:j<(cells (ev st y)).length:=by rw[<-H];exact(hP.1 s).1
   have:=(r j _ (n0 B)).1;simp_all
  have z:=iu (P:=P) b off k.t O (a.eval y).cells.toList 0 arr w ha p ω u;simp only[A'] at z;unfold Oper.wp;have C:(execOp a.eval o).run P w = .ok .skip (w.setRow b (arr.toList.take off++(a.eval y).cells.toList++arr.toList.drop (off+(a.eval y).cells.toList.length)).toArray):=by
   have D:(a.eval y).cells.size=i.size:=by rw[l,hs,S]
   simp only[execOp,ho,hv,Instr.storeAt,Instr.sureAddr,storeVar,hW,lh,ez,sizeOf,typeInfo,run_program,g];simp[D,z]
  rw[C];refine hK _ ρ F _ (Post.wrBlk hpre.fok f.own G ha p ?_ ?_ (FF q L H R r) (.any _))
  .grind
  .grind [nn,e',List.length_append,List.length_take,List.length_drop,N']
 le:=c7 _
 keysOk i g:=by simp[keys] at g;subst g;exact .inl η
 live i g:=by simp at g;subst g;rw[E];simp
theorem Rd.cpInv{ρ:aD}{F:aK}{w:World}{cs:List PV}{u:Value}(h:Rd ρ F w (.cp cs) u) :
 ∃(b off:Nat) (f:Nat->Value),u = .pointer (some ⟨b,off,none⟩)/\F b/\(∀j,j<cs.length->w.cell? ⟨b,off+j,none⟩=some (f j))/\(∀j,j<cs.length->(f j).oneCell'=true)/\(∀j c,cs[j]?=some c->RdP F w c (f j)):=by
 cases h with
 |cp _ b off f hF hc h1 hr=>exact⟨b,off,f,rfl,hF,hc,h1,hr⟩
theorem Rd.cpDrop{ρ:aD}{F:aK}{w:World}{cs:List PV}{b off:Nat}{f:Nat->Value}(d:F b)(e:∀j,j<cs.length->w.cell? ⟨b,off+j,none⟩=some (f j))
 (h1:∀j,j<cs.length->(f j).oneCell'=true) (g:∀j c,cs[j]?=some c->RdP F w c (f j)) (k:Nat):Rd ρ F w (.cp (cs.drop k)) (.pointer (some ⟨b,off+k,none⟩)) :=
 .cp _ b (off+k) (fun j=>f (k+j)) d (fun j a=>by rw[Nat.add_assoc];exact e _ (by simp at a;omega)) (fun j a=>h1 _ (by simp at a;omega)) (fun j c a=>g _ _ (by simpa using a))
theorem FG{t:TypeId}{f o s:Nat}{k:TK}(h:(ae P t).flds[f]?=some (o,s,k))(hs:1<=s) :
 ∃(fs:Array Field) (fd:Field),P.underlying t=some (.struct fs)/\fs[f]?=some fd/\fd.offset=o/\cx P fd.type=s/\fx (P.underlying fd.type)=k:=by
 simp only[ae,tw] at h
 grind
theorem sA{t:TypeId}{f o s:Nat}{k:TK}(h:(ae P t).flds[f]?=some (o,s,k))(hs:1<=s)(b off:Nat)(w:World) :
 (Instr.fieldAt t (.pointer (some ⟨b,off,none⟩)) f).run P w = .ok (.pointer (some ⟨b,off+o,none⟩)) w:=by
 obtain⟨fs,a,g,j,ho,l,_⟩:=FG h hs;obtain⟨d,i,m,n,c⟩:=cC (P:=P) (t:=a.type) ω;have e:i.size≠0:=ω;simp_all[Instr.fieldAt,qs,Instr.sureAddr,fieldPlace,sizeOf,typeInfo,dJ]
theorem AW{o:Oper}{st:AS}{t:TypeId}{x:Operand}{f:Nat}(ho:o.op = .fieldAddr t x f){id off:Nat}(e:ev st x = .ptr id off){d s:Nat}{k:TK}
 (h:(ae P t).flds[f]?=some (d,s,k)) (hs:1<=s):OpOk P o st (.ptr id (off+d)) [] [] st.nx :=
 bH fun ρ F a w c=>by
  have h1:=c x φ;rw[e] at h1;obtain⟨b,g,hv⟩:=h1.ptrInv;exact⟨_,by simp only[execOp,ho,hv,hW,sA h hs,ez,lh],.ptr _ _ _ g⟩
theorem DG{o:Oper}{st:AS}{t:TypeId}{x:Operand}{f:Nat}(ho:o.op = .fieldAddr t x f){cs:List PV}(i:ev st x = .cp cs){c s:Nat}{k:TK}
 (h:(ae P t).flds[f]?=some (c,s,k)) (hs:1<=s):OpOk P o st (.cp (cs.drop c)) [] [] st.nx :=
 bH fun ρ F a w d=>by
  have h1:=d x φ;rw[i] at h1;obtain⟨b,off,g,hv,j,l,e,m⟩:=h1.cpInv;exact⟨_,by simp only[execOp,ho,hv,hW,sA h hs,ez,lh],.cpDrop j l e m c⟩
theorem AX{t:TypeId}{us:Array Value}{off:Nat}(hs:1<=cx P t)(e:off+cx P t<=us.size)(w:World) :
 (part t us off).run P w = .ok (if(fx (P.underlying t)).agg=true then .agg ((j' (cx P t)).map fun j=>us.getD (off+j) undef).toArray else us.getD (off+0) undef) w:=by
 obtain⟨d,i,a,b,c⟩:=cC hs;unfold part;rw[hW,xo a,a];cases ha:(fx (some d)).agg with
 |true =>
  simp only[ez,sizeOf,typeInfo,hW,run_program,b,lh,if_true,c];congr 2;apply Array.ext_getElem?
  grind [Array.getElem?_extract,List.getElem?_range',eo,cx]
 |false =>
  have h2:off<us.size:=ω;simp_all
theorem JF{o:Oper}{st:AS}{t:TypeId}{x:Operand}{f:Nat}(ho:o.op = .field t x f){cs:List AV}(e:ev st x = .agg cs){b s:Nat}{k:TK}
 (h:(ae P t).flds[f]?=some (b,s,k)) (hs:1<=s) (g:b+s<=cs.length):OpOk P o st (ka k s (cs.drop b)) [] [] st.nx :=
 bH fun ρ F a w c=>by
  have h1:=c x φ;rw[e] at h1;obtain⟨us,hv,l,i⟩:=h1.aggInv;obtain⟨fs,d,m,n,rfl,rfl,rfl⟩:=FG h hs;have p:=AX (P:=P) (t:=d.type) (us:=us) (off:=d.offset) hs ω w;refine⟨_,?_,nl hs g (f:=fun j=>us.getD j undef) i⟩;simp_all[execOp,Instr.field,asAgg,hW,qs,ez]
theorem DH{o:Oper}{st:AS}{x:Operand}{i:Nat}(ho:o.op = .extract x i){vs:List AV}(c:ev st x = .tup vs){v:AV}(hv:vs[i]?=some v):OpOk P o st v [] [] st.nx :=
 bH fun ρ F a w b=>by
  have h1:=b x φ;rw[c] at h1;obtain⟨us,f,d,e⟩:=h1.tupInv;have g:i<us.size:=by rw[d];exact(hP.1 hv).1
  refine⟨us.getD i undef,?_,e i v hv⟩;simp_all[execOp,Instr.extract]
theorem xr{o:Oper}{st:AS}{t:TypeId}{x:Operand}(ho:o.op = .load t x){cs:List PV}(m:ev st x = .cp cs)(hs:1<=cx P t)(n:cx P t<=cs.length)(d:PV) :
 OpOk P o st (if(fx (P.underlying t)).agg=true then .agg ((cs.take (cx P t)).map .p) else .p (gE d cs)) [] [] st.nx :=
 bH fun ρ F a w f=>by
  have h1:=f x φ;rw[m] at h1;obtain⟨b,off,g,hv,u,q,s,l⟩:=h1.cpInv;have e:=gF (P:=P) (t:=t) (w:=w) (b:=b) (o:=off) g hs (fun j h=>q j ω);refine⟨_,by simp only[execOp,ho,hv,Instr.loadAt,Instr.sureAddr,hW,lh,ez,e];rfl,?_⟩;cases ha:(fx (P.underlying t)).agg with
  |true =>
   simp only[if_true];refine .agg _ _ ζ (fun j c h=>?_);simp only[c',nL,l0] at h;obtain⟨y,i,rfl⟩:=h;split at i
   .rename_i k;simp[k];exact .p _ _ (l j y i)
   .cases i
  |false =>
   simp only[Bool.false_eq_true,if_false];cases cs with
   |nil=>simp at n;omega
   |cons c r=>exact .p _ _ (l 0 c rfl)
theorem Rd.dataInv{ρ:aD}{F:aK}{w:World}{s n:Nat}{cs:List PV}{u:Value}(h:Rd ρ F w (.p (.data s n cs)) u) :
 (n=0/\cs=[]/\∃A cap,u = .slice A 0 cap) \/
 ∃(b off cap:Nat) (f:Nat->Value),u = .slice (some ⟨b,off,none⟩) n cap/\cs.length=n*s/\n<=cap/\F b/\(∀j,j<cs.length->w.cell? ⟨b,off+j,none⟩=some (f j))/\(∀j,j<cs.length->(f j).oneCell'=true)/\(∀j c,cs[j]?=some c->RdP F w c (f j)):=by
 cases h with
 |p _ _ h =>
  cases h with
  |nil _ A cap=>exact .inl ⟨rfl,rfl,A,cap,rfl⟩
  |data _ _ _ b off cap f hl hcap hF hc h1 hr=>exact .inr ⟨b,off,cap,f,rfl,hl,hcap,hF,hc,h1,hr⟩
theorem Rd.slInv{ρ:aD}{F:aK}{w:World}{id off n s:Nat}{u:Value}(h:Rd ρ F w (.sl id off n s) u) :
 (n=0/\∃A,u = .slice A 0 0)\/∃b cap,ρ id=some b/\u = .slice (some ⟨b,off,none⟩) n cap/\n<=cap/\hasCells w b (off+cap*s):=by
 cases h with
 |sl _ _ _ _ b cap h hcap hs=>exact .inr ⟨b,cap,h,rfl,hcap,hs⟩
 |slz _ _ _ A=>exact .inl ⟨rfl,A,rfl⟩
theorem jn{k:IntKind}{n:Int}{y:Nat}{c:BoundsCode}(a:0<=n)(h1:n<=y)(w:World):(Instr.sliceBound (.int k n) y c).run P w = .ok n.toNat w:=by
 simp_all[Instr.sliceBound,asIntOf]
theorem l4{isS:Bool}{len cap:Nat}{e f d:Option Value}{l h m:Int}(a:(e=none/\l=0)\/∃k,e=some (.int k l))(b:(f=none/\h=len/\d=none)\/∃k,f=some (.int k h))
 (g:(d=none/\m=cap)\/∃k,d=some (.int k m)) (t:0<=l) (h1:l<=h) (h2:h<=m) (o:m<=cap) (w:World) :
 (Instr.sliceBounds isS len cap e f d).run P w = .ok (l.toNat,h.toNat,m.toNat) w:=by
 have p:(m.toNat:Int)=m:=Int.toNat_of_nonneg ω;have q:(h.toNat:Int)=h:=Int.toNat_of_nonneg ω;have u:∀k c,(Instr.sliceBound (.int k m) cap c).run P w = .ok m.toNat w:=fun k c=>jn ω o w
 have i:∀k c,(Instr.sliceBound (.int k h) m.toNat c).run P w = .ok h.toNat w:=fun k c=>jn ω ω w
 have j:∀k c,(Instr.sliceBound (.int k l) h.toNat c).run P w = .ok l.toNat w:=fun k c=>jn ω ω w
 rcases g with⟨rfl,rfl⟩|⟨v,rfl⟩
 .simp only[h5] at i⊢;rcases b with⟨rfl,rfl,_⟩|⟨r,rfl⟩
  .simp only[h5] at j⊢;rcases a with⟨rfl,rfl⟩|⟨n,rfl⟩
   .rfl
   .simp[Instr.sliceBounds,j]
  .rcases a with⟨rfl,rfl⟩|⟨n,rfl⟩
   .simp[Instr.sliceBounds,i]
   .simp_all[Instr.sliceBounds]
 .rcases b with⟨rfl,rfl,s⟩|⟨r,rfl⟩
  .cases s
  .rcases a with⟨rfl,rfl⟩|⟨n,rfl⟩
   .simp_all[Instr.sliceBounds]
   .simp_all[Instr.sliceBounds]
structure DI(st:AS)(lo hi mx:Option Operand)(top l h:Int):Prop where
 lo:(lo=none/\l=0)\/∃x k,lo=some x/\ev st x = .p (.v (.int k l))
 hi:(hi=none/\h=top/\mx=none)\/∃x k,hi=some x/\ev st x = .p (.v (.int k h))
 mx:mx=none\/∃x k,mx=some x/\ev st x = .p (.v (.int k h))
theorem me{st:AS}{d f b:Option Operand}{l h:Int}{len cap:Nat}(n:DI st d f b len l h){ρ:aD}{F:aK}{w:World}{a:Act}
 (c:∀x,(d=some x\/f=some x\/b=some x)->Rd ρ F w (ev st x) (a.eval x)) (p:0<=l) (h1:l<=h) (h2:h<=len) (q:len<=cap) (isS:Bool) :
 ∃m:Nat,h.toNat<=m/\m<=cap/\(Instr.sliceBounds isS len cap (d.map a.eval) (f.map a.eval) (b.map a.eval)).run P w = .ok (l.toNat,h.toNat,m) w:=by
 have g:((d.map a.eval=none)/\l=0)\/∃k,d.map a.eval=some (.int k l):=by
  rcases n.lo with⟨rfl,rfl⟩|⟨x,k,rfl,i⟩
  .simp_all
  .have:=c x (.inl rfl);rw[i] at this;exact .inr ⟨k,by simp[this.pv]⟩
 have o:(b.map a.eval=none/\b=none)\/∃k,b.map a.eval=some (.int k h):=by
  rcases n.mx with rfl|⟨x,k,rfl,i⟩
  .simp_all
  .have:=c x (.inr (.inr rfl));rw[i] at this;exact .inr ⟨k,by simp[this.pv]⟩
 have j:((f.map a.eval=none)/\h=len/\b.map a.eval=none)\/∃k,f.map a.eval=some (.int k h):=by
  rcases n.hi with⟨rfl,rfl,rfl⟩|⟨x,k,rfl,i⟩
  .simp_all
  .have:=c x (.inr (.inl rfl));rw[i] at this;exact .inr ⟨k,by simp[this.pv]⟩
 rcases o with⟨e,_⟩|⟨k,e⟩
 .exact⟨cap,ω,c7 _,by have:=l4 (P:=P) (isS:=isS) g j (m:=cap) (.inl ⟨e,rfl⟩) p h1 ω ω w;simpa using this⟩
 .exact⟨h.toNat,c7 _,ω,l4 g j (m:=h) (.inr ⟨k,e⟩) p h1 ω ω w⟩
theorem kr{o:Oper}{t:TypeId}{x:Operand}{a b c:Option Operand}(ho:o.op = .slice t x a b c):x∈o.op.operands.toList/\∀y,(a=some y\/b=some y\/c=some y)->y∈o.op.operands.toList:=by
 simp_all[L']
theorem cQ{t:TypeId}(h:(ae P t).kind = .slice):P.underlying t=some (.slice (ae P t).elem):=by
 simp only[ae] at h⊢;exact af7
theorem mf{t:TypeId}(h:(ae P t).kind = .array):P.underlying t=some (.array (ae P t).len (ae P t).elem):=by
 simp only[ae] at h⊢;exact af7
theorem mg{t:TypeId}(h:(ae P t).kind = .str):P.underlying t=some .string:=by
 simp only[ae] at h;exact af7
theorem oC{t:TypeId}(h:(ae P t).kind = .ptr):P.underlying t=some (.pointer (ae P t).elem):=by
 simp only[ae] at h⊢;exact af7
theorem FH{t:TypeId}(h:(ae P t).kind = .uptr):P.underlying t=some .unsafePointer:=by
 simp only[ae] at h;exact af7
theorem N5{t:TypeId}(h:(ae P t).kind = .bool):P.underlying t=some .bool:=by
 simp only[ae] at h;exact af7
theorem oD{t:TypeId}{k:IntKind}(h:(ae P t).kind = .int k):P.underlying t=some (.int k):=by
 simp only[ae] at h;revert h;cases a:P.underlying t with
 |none=>intro h;cases h
 |some d=>cases d<;>intro h<;>first|(cases h;rfl)|cases h
theorem yZ{o:Oper}{st:AS}{t:TypeId}{x:Operand}{q r u:Option Operand}(ho:o.op = .slice t x q r u){s n:Nat}{cs:List PV}(D:ev st x = .p (.data s n cs))(E:(ae P t).kind = .slice)
 (hs:cx P (ae P t).elem=s) (G:1<=s) {l h:Int} (hb:DI st q r u n l h) (h0:0<=l) (h1:l<=h) (h2:h<=n) :
 OpOk P o st (.p (.data s (h.toNat-l.toNat) ((cs.drop (l.toNat*s)).take ((h.toNat-l.toNat)*s)))) [] [] st.nx :=
 bH fun ρ F a w hin=>by
  obtain⟨k,hin'⟩:=kr ho;have v:=hin x k;rw[D] at v;have hu:=cQ E;obtain⟨d,i,O,hi',hz⟩:=cC (P:=P) (t:=(ae P t).elem) ω;have e:∀A cap,n<=cap->a.eval x = .slice A n cap->∃m,h.toNat<=m/\m<=cap/\(execOp a.eval o).run P w = .ok (.value (.slice (if m=l.toNat then A else A.map (·.add (l.toNat*s))) (h.toNat-l.toNat) (m-l.toNat))) w:=by
   exact aga
  have z:n=h.toNat-l.toNat+(n-(h.toNat-l.toNat)):=ω;rcases v.dataInv with⟨rfl,rfl,A,cap,hv⟩|⟨b,off,cap,f,hv,B,hcap,H,Q,I,K⟩
  .obtain⟨m,hm1,hm2,hrun⟩:=e A cap (gi _) hv;refine⟨_,hrun,?_⟩;have L:h.toNat-l.toNat=0:=ω;simp only[L,List.drop_nil,List.take_nil];exact .p _ _ (.nil _ _ _)
  .obtain⟨m,hm1,hm2,hrun⟩:=e _ cap hcap hv;refine⟨_,hrun,?_⟩;by_cases M:h.toNat-l.toNat=0
   .rw[M];simp only[Nat.zero_mul,List.take_zero];exact .p _ _ (.nil _ _ _)
   .rw[b0 ω];simp only[X',dJ];have g:((cs.drop (l.toNat*s)).take ((h.toNat-l.toNat)*s)).length=(h.toNat-l.toNat)*s:=by
     rw[hV,kK,B,<-Nat.sub_mul]
     grind [Nat.min_eq_left,I']
    have N:l.toNat*s+(h.toNat-l.toNat)*s<=cs.length:=by rw[B,<-y'];exact iy _ ω
    refine .p _ _ (.data s _ _ b _ _ (fun j=>f (l.toNat*s+j)) g ω H (fun j C=>?_) (fun j C=>?_) (fun j c C=>?_))
    .grind
    .grind
    .grind
theorem DJ{o:Oper}{st:AS}{t:TypeId}{x:Operand}{g j k:Option Operand}(ho:o.op = .slice t x g j k){id off n s:Nat}(q:ev st x = .sl id off n s)(r:(ae P t).kind = .slice)
 (hs:cx P (ae P t).elem=s) (u:1<=s) {l h:Int} (hb:DI st g j k n l h) (h0:0<=l) (h1:l<=h) (h2:h<=n) :
 OpOk P o st (.sl id (off+l.toNat*s) (h.toNat-l.toNat) s) [] [] st.nx :=
 bH fun ρ F a w hin=>by
  obtain⟨c,hin'⟩:=kr ho;have p:=hin x c;rw[q] at p;have hu:=cQ r;obtain⟨d,i,D,hi',hz⟩:=cC (P:=P) (t:=(ae P t).elem) ω;have e:∀A cap,n<=cap->a.eval x = .slice A n cap->∃m,h.toNat<=m/\m<=cap/\(execOp a.eval o).run P w = .ok (.value (.slice (if m=l.toNat then A else A.map (·.add (l.toNat*s))) (h.toNat-l.toNat) (m-l.toNat))) w:=by
   exact aga
  rcases p.slInv with⟨rfl,A,hv⟩|⟨b,cap,f,hv,hcap,v⟩
  .grind
  .obtain⟨m,hm1,hm2,hrun⟩:=e _ cap hcap hv;refine⟨_,hrun,?_⟩;by_cases hml:m=l.toNat
   .exact aip
   .rw[b0 hml];simp only[X',dJ];refine .sl _ _ _ _ b _ f ω ?_;obtain⟨arr,z,B,ha,C⟩:=v;refine⟨arr,z,B,ha,z' ?_ C⟩;have:l.toNat*s+(m-l.toNat)*s<=cap*s:=by rw[<-y'];exact iy _ ω
    omega
theorem AY{o:Oper}{st:AS}{t:TypeId}{x:Operand}{A f B:Option Operand}(ho:o.op = .slice t x A f B){id off:Nat}(G:ev st x = .ptr id off)(H:(ae P t).kind = .array)
 (r:1<=cx P (ae P t).elem) {l h:Int} (I:DI st A f B (ae P t).len l h) (L:0<=l) (h1:l<=h) (h2:h<=(ae P t).len)
 {k:Blk} (g:hget st.hp id=some k) (C:off+(ae P t).len*cx P (ae P t).elem<=k.cs.length) (c:1<=(ae P t).len) :
 OpOk P o st (.sl id (off+l.toNat*cx P (ae P t).elem) (h.toNat-l.toNat) (cx P (ae P t).elem)) [id] [] st.nx where
 tri ρ F a w hpre hin K Q hK:=by
  obtain⟨s,j⟩:=kr ho;have D:=hin x s;rw[G] at D;obtain⟨b,n,hv⟩:=D.ptrInv;have M:=mf H;obtain⟨d,i,W,u,N⟩:=cC (P:=P) (t:=(ae P t).elem) r;obtain⟨m,O,R,p⟩:=me (P:=P) (cap:=(ae P t).len) I (fun y S=>hin y (j y S)) L h1 h2 (c7 _) false;have v:restr [id] (hget st.hp) id=some k:=by simp[restr,g]
  rcases hpre.hp.ok id k v with⟨_,T⟩|⟨X,e,q⟩
  .simp_all
  rw[n] at e;cases e;unfold Oper.wp;have z:(execOp a.eval o).run P w = .ok (.value (.slice (some (if m=l.toNat then⟨b,off,none⟩ else⟨b,off+l.toNat*cx P (ae P t).elem,none⟩)) (h.toNat-l.toNat) (m-l.toNat))) w:=by
   simp only[execOp,ho,hv,Instr.sliceAt,qs M,hW,ez,Instr.sureAddr,p,sizeOf,typeInfo,run_program,u,lh,N,dJ]
  rw[z];refine hK _ ρ F w ⟨fun _ _ h=>h,fun i h1 h2=>s5 h1 h2,fun i b h1 h2=>(by rw[h1] at h2;cases h2),?_,?_,hpre.fok,Chg.refl _ _ _⟩
  .by_cases hml:m=l.toNat
   .exact aip
   .rw[b0 hml];have c:1<=k.cs.length:=by
     have U:1*cx P (ae P t).elem<=(ae P t).len*cx P (ae P t).elem:=iy _ ω;omega
    obtain⟨arr,fr,ha,V,E,hc⟩:=q.is (.inl c);refine .sl _ _ _ _ b _ n ω ⟨arr,_,_,ha,?_⟩;have:l.toNat*cx P (ae P t).elem+(m-l.toNat)*cx P (ae P t).elem<=(ae P t).len*cx P (ae P t).elem:=by rw[<-y'];exact iy _ ω
    omega
  .exact af5
 le:=c7 _
 keysOk i f:=by simp[keys] at f
 live i f:=by simp at f;subst f;rw[g];simp
theorem mh{t:TypeId}{A:Addr}{n cap:Nat}{k:IntKind}{i:Int}(e:P.underlying t=some (.slice (ae P t).elem))(a:1<=cx P (ae P t).elem)(f:0<=i)(h1:i<n)(w:World) :
 (Instr.indexAt t (.slice (some A) n cap) (.int k i)).run P w = .ok (.pointer (some (A.add (i.toNat*cx P (ae P t).elem)))) w:=by
 obtain⟨d,b,g,c,h⟩:=cC (P:=P) (t:=(ae P t).elem) a;simp_all[Instr.indexAt,asIntOf,qs,sizeOf,typeInfo]
theorem y3{o:Oper}{st:AS}{t:TypeId}{x y:Operand}(ho:o.op = .indexAddr t x y){s n:Nat}{cs:List PV}(l:ev st x = .p (.data s n cs)){k:IntKind}{i:Int}(m:ev st y = .p (.v (.int k i)))
 (q:(ae P t).kind = .slice) (hs:cx P (ae P t).elem=s) (r:1<=s) (u:0<=i) (h1:i<n):OpOk P o st (.cp (cs.drop (i.toNat*s))) [] [] st.nx :=
 bH fun ρ F a w c=>by
  have h:=c x φ;have d:=c y φ;rw[l] at h;rw[m] at d;rcases h.dataInv with⟨rfl,_⟩|⟨b,off,cap,f,hv,B,j,z,A,e,g⟩
  .exfalso;omega
  .refine⟨_,by simp only[execOp,ho,hv,d.pv,hW,mh (cQ q) ω u h1,ez,lh];rfl,?_⟩;rw[dJ,hs];exact .cpDrop z A e g _
theorem DL{o:Oper}{st:AS}{t:TypeId}{x y:Operand}(ho:o.op = .indexAddr t x y){id off n s:Nat}(h:ev st x = .sl id off n s){k:IntKind}{i:Int}(j:ev st y = .p (.v (.int k i)))
 (l:(ae P t).kind = .slice) (hs:cx P (ae P t).elem=s) (m:1<=s) (q:0<=i) (h1:i<n):OpOk P o st (.ptr id (off+i.toNat*s)) [] [] st.nx :=
 bH fun ρ F a w c=>by
  have f:=c x φ;have d:=c y φ;rw[h] at f;rw[j] at d;rcases f.slInv with⟨rfl,_⟩|⟨b,cap,e,hv,g,r⟩
  .exfalso;omega
  .refine⟨_,by simp only[execOp,ho,hv,d.pv,hW,mh (cQ l) ω q h1,ez,lh];rfl,?_⟩;rw[dJ,hs];exact .ptr _ _ _ e
theorem AZ{o:Oper}{st:AS}{t:TypeId}{x y:Operand}(ho:o.op = .indexAddr t x y){id off:Nat}(h:ev st x = .ptr id off){k:IntKind}{i:Int}(j:ev st y = .p (.v (.int k i)))
 (l:(ae P t).kind = .array) (e:1<=cx P (ae P t).elem) (h0:0<=i) (h1:i<(ae P t).len):OpOk P o st (.ptr id (off+i.toNat*cx P (ae P t).elem)) [] [] st.nx :=
 bH fun ρ F a w c=>by
  have g:=c x φ;have hr2:=c y φ;rw[h] at g;rw[j] at hr2;obtain⟨b,f,hv⟩:=g.ptrInv;have hu:=mf l;obtain⟨d,m,n,hi',hz⟩:=cC (P:=P) (t:=(ae P t).elem) e;refine⟨_,?_,.ptr _ _ _ f⟩;exact ahW
theorem DM{o:Oper}{st:AS}{t:TypeId}{x y:Operand}(ho:o.op = .indexAddr t x y){cs:List PV}(l:ev st x = .cp cs){k:IntKind}{i:Int}(m:ev st y = .p (.v (.int k i)))
 (n:(ae P t).kind = .array) (e:1<=cx P (ae P t).elem) (h0:0<=i) (h1:i<(ae P t).len):OpOk P o st (.cp (cs.drop (i.toNat*cx P (ae P t).elem))) [] [] st.nx :=
 bH fun ρ F a w c=>by
  have j:=c x φ;have hr2:=c y φ;rw[l] at j;rw[m] at hr2;obtain⟨b,off,f,hv,q,r,g,h⟩:=j.cpInv;have hu:=mf n;obtain⟨d,s,u,hi',hz⟩:=cC (P:=P) (t:=(ae P t).elem) e;refine⟨_,?_,.cpDrop q r g h _⟩;exact ahW
theorem A0{o:Oper}{st:AS}{t:TypeId}{x y:Operand}(ho:o.op = .index t x y){s:ByteArray}(g:ev st x = .p (.v (.string s))){k:IntKind}{i:Int}(h:ev st y = .p (.v (.int k i)))
 (j:(ae P t).kind = .str) (l:0<=i) (h1:i<s.size):OpOk P o st (.p (.v (.int .u8 ((s.data.toList.getD i.toNat 0).toNat:Int)))) [] [] st.nx :=
 bH fun ρ F a w b=>by
  have f:=b x φ;have c:=b y φ;rw[g] at f;rw[h] at c;have d:i.toNat<s.size:=ω;have m:=mg j;refine⟨_,?_,.ofI _ _⟩;have e:s[i.toNat]?=some s[i.toNat]:=by simp[d]
  have n:s.data.toList.getD i.toNat 0=s[i.toNat]:=by
   have:i.toNat<s.data.toList.length:=by simpa using d
   rw[cR,n0 this];rfl
  rw[n];simp[execOp,ho,f.pv,c.pv,Instr.index,asIntOf,qs m,l,e]
theorem A2{o:Oper}{st:AS}{t:TypeId}{x y:Operand}(ho:o.op = .index t x y){cs:List AV}(n:ev st x = .agg cs){k:IntKind}{i:Int}(q:ev st y = .p (.v (.int k i)))
 (r:(ae P t).kind = .array) (hs:1<=(ae P (ae P t).elem).size) (s:0<=i) (h1:i<(ae P t).len) (u:i.toNat*(ae P (ae P t).elem).size+(ae P (ae P t).elem).size<=cs.length) :
 OpOk P o st (ka (ae P (ae P t).elem).kind (ae P (ae P t).elem).size (cs.drop (i.toNat*(ae P (ae P t).elem).size))) [] [] st.nx :=
 bH fun ρ F a w c=>by
  have g:=c x φ;have e:=c y φ;rw[n] at g;rw[q] at e;obtain⟨us,hv,C,g⟩:=g.aggInv;have z:=mf r;have b:1<=cx P (ae P t).elem:=hs;have h:i.toNat*cx P (ae P t).elem+cx P (ae P t).elem<=cs.length:=u;obtain⟨d,A,D,l,m⟩:=cC b;have B:=AX (P:=P) (t:=(ae P t).elem) (us:=us) (off:=i.toNat*cx P (ae P t).elem) b ω w;refine⟨_,?_,nl b h (f:=fun j=>us.getD j undef) g⟩;simp[execOp,ho,hv,e.pv,Instr.index,asIntOf,qs z,s,h1,sizeOf,typeInfo,l,m,B];rfl
theorem y5{o:Oper}{st:AS}{t:TypeId}{x:Operand}(ho:o.op = .call ⟨.builtin .len,#[x],#[t]⟩){n:Nat}
 (h:((ae P t).kind = .slice/\((∃s cs,ev st x = .p (.data s n cs))\/(∃A c,ev st x = .p (.v (.slice A n c)))\/∃id off s,ev st x = .sl id off n s)) \/
  ((ae P t).kind = .str/\∃s:ByteArray,s.size=n/\ev st x = .p (.v (.string s)))):OpOk P o st (.i n) [] [] st.nx :=
 bH fun ρ F a w g=>by
  have d:=g x ψ;rcases h with⟨j,h⟩|⟨j,s,rfl,e⟩
  .have k:=cQ j;have hv:∃A c,a.eval x = .slice A n c:=by
    rcases h with⟨s,cs,e⟩|⟨A,c,e⟩|⟨id,off,s,e⟩
    .rw[e] at d;rcases d.dataInv with⟨rfl,_,A,cap,hv⟩|⟨b,off,cap,f,hv,_⟩
     .simp_all
     .simp_all
    .rw[e] at d;exact⟨A,c,d.pv⟩
    .rw[e] at d;rcases d.slInv with⟨rfl,A,hv⟩|⟨b,cap,_,hv,_⟩
     .simp_all
     .simp_all
   obtain⟨A,c,hv⟩:=hv;refine⟨.int .i64 n,?_,.ofI _ _⟩;simp_all[execOp,resolve,invoke,builtin,Builtin.len_,qs,goInt]
  .have k:=mg j;rw[e] at d;refine⟨.int .i64 s.size,?_,.ofI _ _⟩;simp[execOp,ho,resolve,invoke,builtin,d.pv,Builtin.len_,qs k,goInt]
theorem Rp{o:Oper}{st:AS}{f:Array TypeId}{x y:Operand}(ho:o.op = .call ⟨.builtin .max,#[x,y],f⟩){k j:IntKind}{a b:Int}(g:ev st x = .p (.v (.int k a)))(h:ev st y = .p (.v (.int j b))) :
 OpOk P o st (.p (.v (.int k (if b>a then b else a)))) [] [] st.nx :=
 bH fun ρ F i w c=>by
  have e:=c x ψ;have d:=c y ψ;rw[g] at e;rw[h] at d;exact⟨_,by simp[execOp,ho,resolve,invoke,builtin,e.pv,d.pv,Builtin.max_,Builtin.max2],.ofI _ _⟩
theorem Rq{o:Oper}{st:AS}{f:Array TypeId}{x y:Operand}(ho:o.op = .call ⟨.builtin .min,#[x,y],f⟩){k j:IntKind}{a b:Int}(g:ev st x = .p (.v (.int k a)))(h:ev st y = .p (.v (.int j b))) :
 OpOk P o st (.p (.v (.int k (if b<a then b else a)))) [] [] st.nx :=
 bH fun ρ F i w c=>by
  have e:=c x ψ;have d:=c y ψ;rw[g] at e;rw[h] at d;exact⟨_,by simp[execOp,ho,resolve,invoke,builtin,e.pv,d.pv,Builtin.min_,Builtin.min2],.ofI _ _⟩
theorem JG{o:Oper}{st:AS}{d:UnOp}{t:TypeId}{x:Operand}(ho:o.op = .unOp d t x){v r:Value}(e:ev st x = .p (.v v))(f:∀w,(Op.unary d v).run P w = .ok r w)(h1:r.oneCell'=true) :
 OpOk P o st (.p (.v r)) [] [] st.nx :=
 bH fun ρ F a w c=>by
  have b:=c x φ;rw[e] at b;exact⟨r,by simp only[execOp,ho,b.pv,hW,f w,ez,lh],.ofV h1⟩
theorem DN{o:Oper}{st:AS}{s d:TypeId}{x:Operand}(ho:o.op = .convert s d x){j k:IntKind}{n:Int}(f:ev st x = .p (.v (.int j n)))(g:(ae P d).kind = .int k)(hs:(ae P s).kind ≠ .none) :
 OpOk P o st (.p (.v (.int k (k.wrap n)))) [] [] st.nx :=
 bH fun ρ F a w e=>by
  have b:=e x φ;rw[f] at b;have h:=oD g;cases c:P.underlying s with
  |none=>exact s5 (by simp[ae,c,fx]) hs
  |some ds=>exact⟨_,by simp[execOp,ho,b.pv,convert,qs h,qs c,Conv.intToInt],.ofI _ _⟩
theorem JH{o:Oper}{st:AS}{t:TypeId}{x:Operand}(ho:o.op = .makeInterface t x)(i:(ae P t).kind ≠ .iface)(b:(ae P t).kind ≠ .none):OpOk P o st (.iface t (ev st x)) [] [] st.nx :=
 bH fun ρ F a w c=>by
  have f:=c x φ;refine⟨.iface t (a.eval x),?_,.iface _ _ _ f⟩;cases g:P.underlying t with
  |none=>exact s5 (by simp[ae,g,fx]) b
  |some d =>
   have j:∀h,d ≠ .interface h:=fun h e=>i (by subst e;simp[ae,g,fx])
   simp_all[execOp,Instr.makeInterface,hW,qs,ez]
theorem N6(st:AS):∀(l:List Operand) (j:Nat) (c:AV),(evs st l)[j]?=some c->∃x,l[j]?=some x/\c=ev st x:=by
 intro l
 induction l with
 |nil=>intro j c h;simp[evs] at h
 |cons x r a =>
  grind [evs]
theorem N7(st:AS)(l:List Operand):(evs st l).length=l.length:=by induction l<;>simp_all[evs]
theorem y7{ρ:aD}{F:aK}{w:World}{st:AS}{a:Act}{xs:Array Operand}(h:∀x,x∈xs->Rd ρ F w (ev st x) (a.eval x)) :
 (xs.map a.eval).size=(evs st xs.toList).length/\∀j c,(evs st xs.toList)[j]?=some c->Rd ρ F w c ((xs.map a.eval).getD j undef):=by
 grind [N7,N6,undef,eo,Array.mem_of_getElem?]
theorem A3{o:Oper}{st:AS}{f:Fn}{xs ys:Array Operand}(ho:o.op = .makeFunc f xs ys):OpOk P o st (.fn f (evs st xs.toList) (evs st ys.toList)) [] [] st.nx :=
 bH fun ρ F a w b=>by
  obtain⟨d,e⟩:=y7 (xs:=xs) (st:=st) (a:=a) (ρ:=ρ) (F:=F) (w:=w) (fun x c=>b x (by simp[ho,L',c]));obtain⟨g,h⟩:=y7 (xs:=ys) (st:=st) (a:=a) (ρ:=ρ) (F:=F) (w:=w) (fun x c=>b x (by simp[ho,L',c]));exact⟨.func f (xs.map a.eval) (ys.map a.eval),by simp[execOp,ho,Instr.makeFunc],.fn _ _ _ _ _ d e g h⟩
theorem jU{o:Oper}{st:AS}{x:Operand}(ho:o.op = .nilCheck x)(h:(∃id off,ev st x = .ptr id off)\/(∃cs,ev st x = .cp cs)\/(∃f a b,ev st x = .fn (.func f) a b)\/∃f a b,ev st x = .p (.v (.func (.func f) a b))):OpOk P o st (ev st x) [] [] st.nx :=
 bH fun ρ F a w e=>by
  have c:=e x φ;rcases h with⟨id,off,d⟩|⟨cs,d⟩|⟨f,i,bs,d⟩|⟨f,i,bs,d⟩
  .rw[d] at c⊢;obtain⟨b,_,hv⟩:=c.ptrInv;simp_all[execOp]
  .rw[d] at c⊢;obtain⟨b,off,g,hv,_⟩:=c.cpInv;simp_all[execOp]
  .rw[d] at c⊢;generalize hv:a.eval x=v at c;cases c with
   |fn _ _ _ us vs=>exact⟨.func (.func f) us vs,by simp only[execOp,ho,hv];rfl,.fn _ _ _ _ _ ‹_› ‹_› ‹_› ‹_›⟩
  .rw[d] at c⊢;exact⟨_,by simp only[execOp,ho,c.pv];rfl,.ofV rfl⟩
def mi(place:Nat->Option (Nat×Nat)):List AV->List (Nat×AV)->Option (List AV)
 |cs,[]=>some cs
 |cs,(i,v)::rest=>match place i with
  |some (off,size)=>match p' (cells v).length size,dI (cells v),u' (off+(cells v).length) cs.length with
   |true,true,true=>mi place (bY cs off (cells v)) rest
   |_,_,_=>none
  |none=>none
def evp(st:AS):List (Nat×Operand)->List (Nat×AV)
 |[]=>[]
 |(i,x)::r=>(i,ev st x)::evp st r
theorem Hi(off:Nat):∀(l:List Value) (k:Nat) (cs:Array Value) (j:Nat),off+k+l.length<=cs.size ->
 ((l.zipIdx k).foldl (fun(cs:Array Value) (x:Value×Nat)=>cs.setIfInBounds (off+x.2) x.1) cs).size=cs.size /\
 ((l.zipIdx k).foldl (fun(cs:Array Value) (x:Value×Nat)=>cs.setIfInBounds (off+x.2) x.1) cs).getD j undef=if off+k<=j/\j<off+k+l.length then l.getD (j-(off+k)) undef else cs.getD j undef:=by
 intro l
 induction l with
 |nil=>intro k cs j h;simp;omega
 |cons v r a =>
  intro k cs j h;simp only[ew] at h;simp only[List.zipIdx_cons,s7,ew];obtain⟨h1,h2⟩:=a (k+1) (cs.setIfInBounds (off+k) v) j ζ;refine⟨by rw[h1];simp,?_⟩;rw[h2];by_cases b:off+(k+1)<=j/\j<off+(k+1)+r.length
  .grind
  .rw[b0 b];by_cases c:j=off+k
   .subst c;rw[b9 ω]
    grind [eo]
   .rw[b0 ω]
    grind [eo,Array.getElem?_setIfInBounds_ne]
theorem y9{ρ:aD}{F:aK}{w:World}{st:AS}{a:Act}(d:Nat->Option (Nat×Nat)):∀(b:List (Nat×Operand)) (cs:List AV) (us:Array Value) (r:List AV),
 (∀p,p∈b->Rd ρ F w (ev st p.2) (a.eval p.2))->us.size=cs.length->(∀j c,cs[j]?=some c->(us.getD j undef).oneCell'=true/\Rd ρ F w c (us.getD j undef))->mi d cs (evp st b)=some r ->
 ∃f,Instr.fill d us (b.map fun(i,x)=>(i,a.eval x))=some f/\f.size=r.length/\∀j c,r[j]?=some c->(f.getD j undef).oneCell'=true/\Rd ρ F w c (f.getD j undef):=by
 intro b
 induction b with
 |nil=>intro cs us r _ q s h;simp[evp,mi] at h;subst h;exact⟨us,rfl,q,s⟩
 |cons p v B =>
  obtain⟨i,x⟩:=p;intro cs us r m q s h;simp only[evp,mi] at h;cases n:d i with
  |none=>rw[n] at h;cases h
  |some os =>
   obtain⟨off,g⟩:=os;rw[n] at h;simp only at h;split at h
   .rename_i C y D;have z:=m (i,x) η;simp only at z;obtain⟨E,o⟩:=z.cells y;have G:(cells (ev st x)).length=g:=ef C;have t:off+(cells (ev st x)).length<=cs.length:=cV D;have A:∀j,_:=fun j=>Hi off (a.eval x).cells.toList 0 us j ζ
    have k:¬((a.eval x).cells.size≠g||off+(a.eval x).cells.size>us.size)=true:=ζ
    obtain⟨f,h1,h2,H⟩:=B (bY cs off (cells (ev st x))) (((a.eval x).cells.toList.zipIdx 0).foldl (fun(cs:Array Value) (x:Value×Nat)=>cs.setIfInBounds (off+x.2) x.1) us) r (fun p n=>m p (by simp[n])) (by rw[(A 0).1,nn,q]) (fun j c l=>by
     rw[xq _ _ _ _ t] at l
     rw[(A j).2]
     simp only[A',N',E]
     split at l
     .rename_i u
      rw[b9 u]
      have e:(a.eval x).cells.toList.getD (j-off) undef=(a.eval x).cells.getD (j-off) undef:=by simp[cR]
      rw[e]
      exact⟨(o _ _ l).one (qW y l),o _ _ l⟩
     .rename_i u
      rw[b0 u]
      exact s _ _ l) h
    refine⟨f,?_,h2,H⟩;simp only[hX,Instr.fill,n];rw[b0 k];have e:(a.eval x).cells.zipIdx.foldl (fun cs (x:Value×Nat)=>match x with|(c,j)=>cs.setIfInBounds (off+j) c) us=((a.eval x).cells.toList.zipIdx 0).foldl (fun(cs:Array Value) (x:Value×Nat)=>cs.setIfInBounds (off+x.2) x.1) us:=by
     rw[<-Array.foldl_toList];simp
    rw[<-e] at h1;exact h1
   .cases h
def JI:List (Nat×Nat×TK)->Bool
 |[]=>true
 |(_,s,_)::r=>match u' 1 s with|true=>JI r|false=>false
def uk(fl:List (Nat×Nat×TK))(i:Nat):Option (Nat×Nat):=match fl[i]? with|some (o,s,_)=>some (o,s)|none=>none
def oE(st:AS)(ti:TI)(es:Nat)(parts:List (Nat×AV)):R :=
 match ti.kind,ti.zero with
 |.struct,some z=>match JI ti.flds,fB z with
  |true,true=>match mi (uk ti.flds) (pvs z) parts with
   |some cs => .pure st (.agg cs)
   |none => .bad
  |_,_ => .bad
 |.array,some z=>match u' 1 es,fB z with
  |true,true=>match mi (fun i=>some (i*es,es)) (pvs z) parts with
   |some cs => .pure st (.agg cs)
   |none => .bad
  |_,_ => .bad
 |_,_ => .bad
theorem xt{t:TypeId}(h:(ae P t).kind = .struct):∃fs,P.underlying t=some (.struct fs):=by
 simp only[ae] at h;revert h;cases a:P.underlying t with
 |none=>intro h;cases h
 |some d=>cases d<;>intro h<;>first|exact⟨_,rfl⟩|cases h
theorem JJ{a:List (Nat×Nat×TK)}(h:JI a=true){x:Nat×Nat×TK}(b:x∈a):1<=x.2.1:=by
 induction a with
 |nil=>cases b
 |cons y r c =>
  grind [JI,u',Nat.le_of_ble_eq_true]
theorem wP{fs:List Field}(h:∀f,f∈fs->1<=cx P f.type):fs.mapM (fun f=>(P.info? f.type).map fun i=>(f.offset,i.size))=some (fs.map fun f=>(f.offset,cx P f.type)):=by
 induction fs with
 |nil=>rfl
 |cons f r a =>
  grind [cC]
theorem ku{t:TypeId}{z:List Value}(a:(ae P t).zero=some z):∃i zv,P.info? t=some i/\i.zero=some zv/\zv.cells.toList=z:=by
 simp_all[ae,af,nL]
theorem DO{ρ:aD}{F:aK}{w:World}{z:Array Value}(h1:fB z.toList=true):z.size=(pvs z.toList).length/\∀j c,(pvs z.toList)[j]?=some c->(z.getD j undef).oneCell'=true/\Rd ρ F w c (z.getD j undef):=by
 refine⟨by simp[tA],fun j c d=>?_⟩;obtain⟨y,b,rfl⟩:=FE d;have a:=xp h1 b;have hy':z[j]?=some y:=by simpa using b
 have:z.getD j undef=y:=by simp[hy']
 rw[this];exact⟨a,.ofV a⟩
theorem JK{o:Oper}{st:AS}{t:TypeId}{b:Array (Nat×Operand)}(ho:o.op = .build t b){v:AV}{T:List Nat}{u:List (Nat×Option Blk)}{nx:Nat}
 (h:oE st (ae P t) (cx P (ae P t).elem) (evp st b.toList) = .ok v T u nx):OpOk P o st v T u nx:=by
 have l:∀(a:Act) (ρ:aD) (F:aK) (w:World),(∀x,x∈o.op.operands.toList->Rd ρ F w (ev st x) (a.eval x))->∀p,p∈b.toList->Rd ρ F w (ev st p.2) (a.eval p.2):=by
  intro a ρ F w e p E;exact e p.2 (by simp only[ho,L'];simp;exact⟨p.1,by simpa using E⟩)
 unfold oE at h;split at h
 .rename_i y m;rename_i z;split at h
  .rename_i g h1;split at h
   .rename_i cs q;simp only[R.pure,R.ok.injEq] at h;obtain⟨rfl,rfl,rfl,rfl⟩:=h;refine bH fun ρ F a w e=>?_
    obtain⟨i,G,A,n,rfl⟩:=ku m;obtain⟨fs,s⟩:=xt y;obtain⟨B,C⟩:=DO (ρ:=ρ) (F:=F) (w:=w) h1;obtain⟨us',h2,h3,h4⟩:=y9 (a:=a) (uk (ae P t).flds) b.toList _ _ cs (l a ρ F w e) B C q;have r:(ae P t).flds=fs.toList.map fun f=>(f.offset,cx P f.type,fx (P.underlying f.type)):=by simp[ae,tw,s]
    have k:uk (ae P t).flds=fun i=>(fs.toList.map fun f=>(f.offset,cx P f.type)).toArray[i]?:=by
     funext i;rw[r];simp only[uk,c',m',U'];cases fs[i]?<;>rfl
    have hb:P.built t (b.map fun(i,x)=>(i,a.eval x)).toList=some us':=by
     unfold Program.built;simp only[A,s,n];rw[wP (fun f q=>JJ g (x:=(f.offset,cx P f.type,fx (P.underlying f.type))) (by rw[r];exact o4.2 ⟨f,q,rfl⟩))];simp only[Array.toList_map];rw[<-k];exact h2
    exact ahh
   .cases h
  .cases h
 .rename_i y m;rename_i z;split at h
  .rename_i g h1;split at h
   .rename_i cs q;simp only[R.pure,R.ok.injEq] at h;obtain⟨rfl,rfl,rfl,rfl⟩:=h;refine bH fun ρ F a w e=>?_
    obtain⟨i,G,A,n,rfl⟩:=ku m;have s:=mf y;obtain⟨d,I,K,D,H⟩:=cC (P:=P) (t:=(ae P t).elem) (cV g);obtain⟨B,C⟩:=DO (ρ:=ρ) (F:=F) (w:=w) h1;obtain⟨us',h2,h3,h4⟩:=y9 (a:=a) (fun i=>some (i*cx P (ae P t).elem,cx P (ae P t).elem)) b.toList _ _ cs (l a ρ F w e) B C q;have hb:P.built t (b.map fun(i,x)=>(i,a.eval x)).toList=some us':=by
     unfold Program.built;simp only[A,s,n,D,Array.toList_map,H];exact h2
    exact ahh
   .cases h
  .cases h
 .cases h
def mj(n:Nat):List Value->List AV
 |[z]=>d' n (.p (.v z))
 |zs=>(d' n (pvs zs)).flatten
theorem JL{zs:List AV}(c:0<zs.length):∀(n j:Nat),(d' n zs).flatten[j]?=if j<n*zs.length then zs[j % zs.length]? else none:=by
 intro n
 induction n with
 |zero=>intro j;simp
 |succ n b =>
  intro j;rw[List.replicate_succ,List.flatten_cons,g'];by_cases a:j<zs.length
  .rw[b9 a,b9 (by rw[Nat.succ_mul];omega),ie a]
  .rw[b0 a,b];have e:(j-zs.length) % zs.length=j % zs.length:=by rw[Nat.mod_eq_sub_mod (by omega:j>=zs.length)]
   grind
theorem A4{zs:List Value}(d:0<zs.length)(n j:Nat):(mj n zs)[j]?=if j<n*zs.length then(pvs zs)[j % zs.length]? else none:=by
 have c:(d' n (pvs zs)).flatten[j]?=if j<n*zs.length then(pvs zs)[j % zs.length]? else none:=by
  simp_all[JL,tA]
 match zs,d with
 |[z],_ =>
  simp[mj,Nat.mul_one,Nat.mod_one,pvs,List.getElem?_replicate]
 |a::b::r,_=>exact c
theorem pD(zs:List Value)(n:Nat):(mj n zs).length=n*zs.length:=by
 match zs with
 |[]=>simp[mj,pvs]
 |[z]=>simp[mj]
 |a::b::r=>simp[mj,List.length_flatten,tA,List.map_replicate,List.sum_replicate_nat]
theorem FI{ρ:aD}{F:aK}{w:World}{z:Array Value}(h1:fB z.toList=true)(d:0<z.size)(n:Nat) :
 (madeCells z (n*z.size)).size=(mj n z.toList).length/\∀j c,(mj n z.toList)[j]?=some c->((madeCells z (n*z.size)).getD j undef).oneCell'=true/\Rd ρ F w c ((madeCells z (n*z.size)).getD j undef):=by
 refine⟨by simp[pD,size_madeCells],fun j c a=>?_⟩;rw[A4 (by simpa using d)] at a;split at a
 .rename_i b;simp only[N'] at b a;have e:(madeCells z (n*z.size)).getD j undef=z.getD (j % z.size) undef:=by
   simp_all[Nat.mod_lt,madeCells]
  rw[e];exact(DO h1).2 _ _ a
 .cases a
theorem N8{zs:List Value}(d:0<zs.length){m n j:Nat}{c:AV}(h:m<=n)(a:(mj m zs)[j]?=some c):(mj n zs)[j]?=some c:=by
 rw[A4 d] at a⊢;split at a
 .rename_i b;rw[b9 (q' b (iy _ h))];exact a
 .cases a
def ul(st:AS)(ti ei:TI):AV->AV->R
 |.p (.v (.int _ l)),.p (.v (.int _ c))=>match ti.kind,ei.zero,u' 1 ei.size with
  |.slice,some z,true=>match fB z,p' z.length ei.size with
   |true,true => .okS (0<=l/\l<=c/\(ei.bytes:Int)*c<=281474976710656/\c<=9223372036854775807) (.sl st.nx 0 l.toNat ei.size) [] [(st.nx,some ⟨ti.elem,mj l.toNat z⟩)] (st.nx+1)
   |_,_ => .bad
  |_,_,_ => .bad
 |_,_ => .bad
theorem gv(t:TypeId):(ae P t).size=cx P t:=rfl
theorem N9{o:Oper}{st:AS}{t:TypeId}{x y:Operand}(ho:o.op = .makeSlice t x y){s:Prop}{v:AV}{T:List Nat}{u:List (Nat×Option Blk)}{nx:Nat}
 (h:ul st (ae P t) (ae P (ae P t).elem) (ev st x) (ev st y) = .okS s v T u nx) (hs:s):OpOk P o st v T u nx:=by
 unfold ul at h;split at h
 .rename_i S l U c V W;split at h
  .rename_i X C g;rename_i z;split at h
   .rename_i h1 D;simp only[R.okS.injEq] at h;obtain⟨rfl,rfl,rfl,rfl,rfl⟩:=h;obtain⟨s0,s1,O,s3⟩:=hs;have b:=cV g;obtain⟨i,A,E,G,rfl⟩:=ku C;obtain⟨d,i',hd,k,H⟩:=cC (P:=P) (t:=(ae P t).elem) b;rw[E] at k;cases k;have f:A.cells.size=i.size:=by rw[H,<-gv];simpa using ef D
    refine⟨?_,v' _,fun j B=>?_,fun j B=>by simp at B⟩
    .intro ρ F a w e m K Q hK;have n:=m x φ;have p:=m y φ;rw[V] at n;rw[W] at p;have I:=e.fresh st.nx ξ η;have L:(ae P (ae P t).elem).bytes=i.bytes:=by show((P.info? (ae P t).elem).map (·.bytes)).getD 0=i.bytes;rw[E];rfl
     rw[L] at O;have q:=run_make (P:=P) w t (ae P t).elem i A (cQ X) E G S U l c s0 s1 O s3;obtain⟨hl,hc⟩:=FI (ρ:=ρ) (F:=F) (w:=w) h1 (by rw[f,H];exact b) c.toNat;unfold Oper.wp;have M:(execOp a.eval o).run P w = .ok (.value (.slice (some ⟨w.heap.size,0,none⟩) l.toNat c.toNat)) (w.alloc (.cells (madeCells A.cells (c.toNat*i.size)) (ae P t).elem)):=by
      simp only[execOp,ho,n.pv,p.pv,hW,q,ez,lh]
     rw[M,<-f];have N:0<A.cells.toList.length:=by rw[N',f,H];exact b
     have r:l.toNat<=c.toNat:=ω;refine hK _ _ F _ (Post.newBlk e.fok I (by rw[hl,pD,pD];exact iy _ r) (fun j c B=>hc j c (N8 N r B)) rfl rfl rfl rfl (.sl _ _ _ _ w.heap.size c.toNat (by simp[eG]) ω ?_));refine⟨_,_,_,heap_alloc_new w _,?_⟩;simp_all[size_madeCells,gv]
    .simp_all[keys]
   .cases h
  .cases h
 .cases h
def g7(st:AS)(ti ei:TI)(len:Nat)(parts:List (Nat×AV)):R :=
 match ti.kind,ei.zero,u' 1 ei.size with
 |.slice,some z,true=>match fB z,p' z.length ei.size,u' (len*ei.size) 16777216 with
  |true,true,true=>match mi (fun i=>some (i*ei.size,ei.size)) (mj len z) parts with
   |some cs => .ok (.sl st.nx 0 len ei.size) [] [(st.nx,some ⟨ti.elem,cs⟩)] (st.nx+1)
   |none => .bad
  |_,_,_ => .bad
 |_,_,_ => .bad
theorem A5{o:Oper}{st:AS}{t:TypeId}{len:Nat}{b:Array (Nat×Operand)}(ho:o.op = .buildSlice t len b){v:AV}{T:List Nat}{u:List (Nat×Option Blk)}{nx:Nat}
 (h:g7 st (ae P t) (ae P (ae P t).elem) len (evp st b.toList) = .ok v T u nx):OpOk P o st v T u nx:=by
 unfold g7 at h;split at h
 .rename_i S C q;rename_i z;split at h
  .rename_i h1 D E;split at h
   .rename_i cs U;simp only[R.ok.injEq] at h;obtain⟨rfl,rfl,rfl,rfl⟩:=h;have c:=cV q;obtain⟨i,n,B,G,rfl⟩:=ku C;obtain⟨d,i',hd,s,V⟩:=cC (P:=P) (t:=(ae P t).elem) c;rw[B] at s;cases s;have l:n.cells.size=i.size:=by rw[V,<-gv];simpa using ef D
    have f:(ae P (ae P t).elem).size=i.size:=by rw[gv,V]
    have W:len*i.size<=16777216:=by rw[<-f];exact cV E
    refine⟨?_,v' _,fun j hj=>?_,fun j hj=>by simp at hj⟩
    .intro ρ F a w g H K Q hK;have I:=g.fresh st.nx ξ η;obtain⟨hl,hc⟩:=FI (ρ:=ρ) (F:=F) (w:=w) h1 (by rw[l,<-f];exact c) len;have y:∀p,p∈b.toList->Rd ρ F w (ev st p.2) (a.eval p.2):=fun p hp=>H p.2 (by simp only[ho,L'];simp;exact⟨p.1,by simpa using hp⟩)
     obtain⟨L,h2,h3,h4⟩:=y9 (a:=a) (fun i=>some (i*(ae P (ae P t).elem).size,(ae P (ae P t).elem).size)) b.toList _ _ cs y hl hc U;unfold Oper.wp;have M:(execOp a.eval o).run P w = .ok (.value (.slice (some ⟨w.heap.size,0,none⟩) len len)) (w.alloc (.cells L (ae P t).elem)):=by
      have m:madeCells n.cells (len*n.cells.size)=(Array.range (len*i.size)).map ((if len*i.size=0 then #[] else n.cells)[· % (if len*i.size=0 then #[] else n.cells).size]!):=by
       rw[l];by_cases k:len*i.size=0
       .rw[k];simp[madeCells]
       .rw[b0 k];rfl
      rw[m,f] at h2;have A:¬(16777216<len*i.size):=ω;by_cases k:len*i.size=0
      .rw[b9 k] at h2;simp only[execOp,ho,Instr.buildSlice,hW,qs (cQ S),ez,sizeOf,typeInfo,run_program,B,lh];simp[k];rw[k] at h2;simp at h2;simp[h2,newRow]
      .rw[b0 k] at h2;simp only[execOp,ho,Instr.buildSlice,hW,qs (cQ S),ez,sizeOf,typeInfo,run_program,B,lh];simp[A,k,zeroValue,typeInfo,B,G];simp at h2;simp[h2,newRow]
     rw[M];refine hK _ _ F _ (Post.newBlk g.fok I ω h4 rfl rfl rfl rfl (.sl _ _ _ _ w.heap.size len (by simp[eG]) (c7 _) ?_));refine⟨_,_,_,heap_alloc_new w _,?_⟩;have N:cs.length=(mj len n.cells.toList).length:=by
      have O:∀(e:Nat->Option (Nat×Nat)) (b:List (Nat×AV)) (cs r:List AV),mi e cs b=some r->r.length=cs.length:=by
       intro e b
       induction b with
       |nil=>intro cs r h;simp[mi] at h;subst h;rfl
       |cons p X ih =>
        obtain⟨i,x⟩:=p;intro cs r h;simp only[mi] at h;split at h
        .split at h
         .rw[ih _ _ h,nn]
         .cases h
        .cases h
      exact O _ _ _ _ U
     rw[h3,N,pD,f];simp[l]
    .exact ahV
   .cases h
  .cases h
 .cases h
inductive Src where
 |some (n:Nat) (cs:List AV) (T:List Nat) (side:Prop)
 |none
def ml(st:AS)(es:Nat):AV->Src
 |.p (.data s n cs)=>match p' s es with|true => .some n (cs.map .p) [] True|false => .none
 |.p (.v (.slice Option.none 0 0)) => .some 0 [] [] True
 |.p (.v (.slice (Y' _) 0 _)) => .some 0 [] [] True
 |.p (.v (.string s))=>match p' es 1 with|true => .some s.size ((s.data.toList.map bt).map .p) [] True|false => .none
 |.sl id off n s=>match p' s es,C' id st.nx,hget st.hp id with
  |true,true,Y' b => .some n ((b.cs.drop off).take (n*s)) [id] (off+n*s<=b.cs.length)
  |_,_,_ => .none
 |_ => .none
structure SrcV(w:World)(es n:Nat)(us:List Value)(u:Value):Prop where
 len:∀(P:Program) w',(a0 u).run P w' = .ok n w'
 first:∀(P:Program) (w':World),w'.cell?=w.cell?->(al es n u).run P w' = .ok us.toArray w'
 part:∀(P:Program) (m:Nat),m<=n->(al es m u).run P w = .ok (us.take (m*es)).toArray w
theorem SrcV.slice{w:World}{a n c:Nat}{us:List Value}{A:Option Addr}(d:us.length=n*a)(f:A=none->n=0)(e:∀ad,A=some ad->∀j v,us[j]?=some v->w.cell? (ad.add j)=some v):SrcV w a n us (.slice A n c):=by
 refine⟨fun P w'=>by simp[a0],fun P w' b=>?_,fun P m g=>?_⟩
 .cases A with
  |none =>
   simp_all[fo,al]
  |some ad=>exact run_firstCells_some (P:=P) w' a n ad n c us d (by rw[b];exact e ad rfl)
 .cases A with
  |none =>
   simp_all[fo,al]
  |some ad =>
   grind [I',run_firstCells_some,List.length_take]
theorem SrcV.str{w:World}(s:ByteArray):SrcV w 1 s.size (s.data.toList.map fun b=>Value.int .u8 (b.toNat:Int)) (.string s) :=
 ⟨fun P w'=>by simp[a0],fun P w' _=>Lib.run_firstCells_string (P:=P) w' 1 s,fun P m a=>by
  simp only[al,lh,Result.ok.injEq,and_true]
  apply Array.ext'
  simp[ByteArray.data_extract]⟩
structure QP(ρ:aD)(F:aK)(w:World)(es n:Nat)(cs:List AV)(u:Value):Prop where
 len:cs.length=n*es
 rd:∃(us:List Value),SrcV w es n us u/\us.length=cs.length/\∀j x,cs[j]?=some x->(us.getD j undef).oneCell'=true/\Rd ρ F w x (us.getD j undef)
theorem um{st:AS}{m n:Nat}{x:AV}{cs:List AV}{T:List Nat}{g:Prop}(h:ml st m x = .some n cs T g)(hs:g)(O:1<=m) :
 (∀i,i∈T->hget st.hp i≠none/\i<st.nx)/\∀{ρ:aD} {F:aK} {w:World} {u:Value} {T':List Nat},(∀i,i∈T->i∈T')->HpOk ρ F w (restr T' (hget st.hp))->Rd ρ F w x u->QP ρ F w m n cs u:=by
 have N:∀{ρ:aD} {F:aK} {w:World} (b off n cap:Nat) (cs:List AV) (f:Nat->Value),cs.length=n*m->(∀j,j<cs.length->w.cell? ⟨b,off+j,none⟩=some (f j)) ->
  (∀j x,cs[j]?=some x->(f j).oneCell'=true/\Rd ρ F w x (f j))->QP ρ F w m n cs (.slice (some ⟨b,off,none⟩) n cap):=by
  intro ρ F w b off n cap cs f G o hr;refine⟨G,(j' cs.length).map f,SrcV.slice (by simpa using G) η (fun ad e j v hv=>?_),η,fun j x hx=>?_⟩
  .cases e;simp only[c',nL] at hv;obtain⟨q,H,rfl⟩:=hv;have c:j<cs.length:=by
    rcases ea j cs.length with h1|h1
    .exact h1
    .rw[List.getElem?_eq_none (by simpa using h1)] at H;cases H
   rw[List.getElem?_range c] at H;cases H;rw[dJ];exact o j c
  .have c:j<cs.length:=(hP.1 hx).1;have:((j' cs.length).map f).getD j undef=f j:=by simp[cR,c]
   rw[this];exact hr j x hx
 unfold ml at h;split at h
 .rename_i s r cs';split at h
  .rename_i t;simp only[Src.some.injEq] at h;obtain⟨rfl,rfl,rfl,rfl⟩:=h;refine⟨fun i hi=>by simp at hi,fun{ρ F w u T'} _ _ hr=>?_⟩;have a:=ef t;subst a;rcases hr.dataInv with⟨rfl,rfl,A,cap,rfl⟩|⟨b,off,cap,f,rfl,G,z,X,o,K,L⟩
   .exact agJ
   .refine N b off r cap _ f (by simpa using G) (fun j M=>o j (by simpa using M)) (fun j x hx=>?_);simp only[c',nL] at hx;obtain⟨y,I,rfl⟩:=hx;exact⟨K j (hP.1 I).1,.p _ _ (L j y I)⟩
  .cases h
 .exact agr
 .exact agr
 .rename_i s;split at h
  .rename_i t;simp only[Src.some.injEq] at h;obtain⟨rfl,rfl,rfl,rfl⟩:=h;have a:=ef t;subst a;refine⟨fun i hi=>by simp at hi,fun{ρ F w u T'} _ _ hr=>?_⟩;have:=hr.pv;subst this;refine⟨by simp only[List.length_map,Nat.mul_one,N'];rfl,_,SrcV.str s,η,fun j x hx=>?_⟩;simp only[c',nL] at hx;obtain⟨_,⟨y,I,rfl⟩,rfl⟩:=hx;have e:(s.data.toList.map fun b=>Value.int .u8 (b.toNat:Int)).getD j undef = .int .u8 (y.toNat:Int):=by simp[cR,I]
   rw[e];exact⟨rfl,.p _ _ (.v _ rfl)⟩
  .cases h
 .rename_i id off r s;split at h
  .rename_i t B C;rename_i b;simp only[Src.some.injEq] at h;obtain⟨rfl,rfl,rfl,rfl⟩:=h;have a:=ef t;subst a;refine⟨fun i hi=>by simp at hi;subst hi;exact⟨by rw[C];simp,by simpa[Nat.blt_eq] using B⟩,fun{ρ F w u T'} Q R hr=>?_⟩;have k:((b.cs.drop off).take (r*s)).length=r*s:=ζ;rcases hr.slInv with⟨rfl,A,rfl⟩|⟨S,cap,l,rfl,z,o⟩
   .simp only[Nat.zero_mul,List.take_zero];exact agJ
   .rcases R.ok id b (by simp[restr,Q id η,C]) with⟨_,U⟩|⟨b2,D,E⟩
    .rw[U] at l;cases l
    rw[l] at D;cases D;obtain⟨arr,fr,ha,V,W,d⟩:=E.is (.inr ⟨_,o⟩);refine N S off r cap _ (fun j=>arr.getD (off+j) undef) k (fun j M=>jT ha (by rw[k] at M;omega)) (fun j x hx=>?_);rw[l0] at hx;split at hx
    .exact d (off+j) x (by simpa using hx)
    .cases hx
  .cases h
 .cases h
theorem DP(w:World)(t ty e:TypeId)(i:TypeInfo)(v:P.underlying t=some (.slice e))(x:P.info? e=some i)(g a c:Nat)(b:Array Value)(o:Nat×Nat)(hg:w.heap[g]?=some (.cells b e o))(p:FrOk o b.size)
 (s:TypeId) (n:TypeDesc) (q:P.underlying s=some n) (r:∀k,n ≠ .int k) (y:Value) (m:Nat) (news:List Value) (B:news.length=m*i.size) (d:SrcV w i.size m news y) (h1:∀u∈news,u.oneCell'=true) (f:a+m<=c) (h:a*i.size+news.length<=b.size) :
 (ah #[t,s] ty #[.slice (some ⟨g,0,none⟩) a c,y]).run P w = .ok (.slice (some ⟨g,0,none⟩) (a+m) c) (w.setRow g (b.toList.take (a*i.size)++news++b.toList.drop (a*i.size+news.length)).toArray):=by
 have z:=d.first P w rfl;have j:=d.len P;have A:(n matches .int _)=false:=by cases n<;>first|rfl|exact s5 rfl (r _)
 have l:=iu (P:=P) g (a*i.size) e o news 0 b w hg p (by simpa using h) h1;simp only[A'] at l;simp[ah,qs v,qs q,sizeOf,typeInfo,x,j,f,z,Addr.add_lit,l]
def gG(st:AS)(ti ei:TI)(dst:AV):Src->R
 |.some m cs T side=>match ti.kind,ei.zero,u' 1 ei.size with
  |.slice,some z,true=>match p' z.length ei.size,dst with
   |true,.p (.v (.slice none 0 0)) => .okS (side/\m*ei.bytes<=140737488355328/\m<=9223372036854775807) (.sl st.nx 0 m ei.size) T [(st.nx,some ⟨ti.elem,cs⟩)] (st.nx+1)
   |true,.sl id 0 n s=>match p' s ei.size,C' id st.nx,hget st.hp id with
    |true,true,some b => .okS (side/\b.t=ti.elem/\b.cs.length=n*s/\(n+m)*ei.bytes<=140737488355328/\n+m<=9223372036854775807) (.sl st.nx 0 (n+m) s) (id::T) [(st.nx,some ⟨ti.elem,b.cs++cs⟩),(id,none)] (st.nx+1)
    |_,_,_ => .bad
   |_,_ => .bad
  |_,_,_ => .bad
 |.none => .bad
theorem jo{t ty e:TypeId}{i:TypeInfo}{z:Value}(u:P.underlying t=some (.slice e))(x:P.info? e=some i)(H:i.zero=some z){A:Option Addr}{n cap:Nat}{olds:List Value}
 {B:TypeId} {r:TypeDesc} (d:P.underlying B=some r) (C:∀k,r ≠ .int k) {y:Value} {m:Nat} {news:List Value} {w:World} (h:olds.length=n*i.size) (f:∀ad,A=some ad->∀j v,olds[j]?=some v->w.cell? (ad.add j)=some v) (I:A=none->n=0)
 (K:news.length=m*i.size) (a:SrcV w i.size m news y)
 (L:n+m<=9223372036854775807) (M:(n+m)*i.bytes<=140737488355328) :
 (cap<n+m->(ah #[t,B] ty #[.slice A n cap,y]).run P w =
  .ok (.slice (some ⟨w.heap.size,0,none⟩) (n+m) (grownCap w (n+m) cap e)) (w.drew.alloc (.cells (olds.toArray++news.toArray++ap z.cells (grownCap w (n+m) cap e-(n+m))) e))) /\
 (n+m<=cap->m=0->(ah #[t,B] ty #[.slice A n cap,y]).run P w = .ok (.slice A n cap) w):=by
 have l:=a.first P;have b:=a.len P;have g:(r matches .int _)=false:=by cases r<;>first|rfl|exact s5 rfl (C _)
 have D:∀(w':World),w'.cell?=w.cell?->(al i.size n (.slice A n cap)).run P w' = .ok olds.toArray w':=by
  intro w' E;cases A with
  |none =>
   have G:=I rfl;subst G;have:olds=[]:=fo (by simpa using h);subst this;simp[al]
  |some ad=>exact run_firstCells_some (P:=P) w' i.size n ad n cap olds h (by rw[E];exact f ad rfl)
 refine⟨fun hg=>?_,fun N G=>?_⟩
 .have O:¬(n+m<=cap):=ω;have o:¬(9223372036854775807<((n:Int)+(m:Int))):=ω;have Q:=growslice_fits (need:=n+m) (old:=cap) (bytes:=i.bytes) hg M;have p:¬(281474976710656<a1 (n+m) cap*i.bytes):=ω;have s:=l w.drew rfl;have R:=D w.drew rfl;simp[ah,qs u,qs d,sizeOf,typeInfo,zeroValue,x,H,b,O,o,p,Question.forced,s,R,newRow,grownCap];congr 2;apply Array.ext';simp[List.append_assoc]
 .subst G;have q:news=[]:=fo (by simpa using K);subst q;have s:=l w rfl;have c:n<=cap:=ω;cases A with
  |none=>simp[ah,qs u,qs d,sizeOf,typeInfo,x,b,c,s]
  |some ad=>simp[ah,qs u,qs d,sizeOf,typeInfo,x,b,c,s,storeCells]
theorem Post.widen{ρ:aD}{F:aK}{w:World}{T0 T:List Nat}{u:List (Nat×Option Blk)}{h:bv}{v:AV}{x:Value}{ρ':aD}{F':aK}{w':World}
 (a:Post ρ F w T0 u h v x ρ' F' w') (g:HpOk ρ F w (restr T h)) (j:oB F w) (c:∀i,i∈keys u->i∉T0->ρ i=none) (b:∀i,i∈T0->i∈T) (k:∀i,i∈T0->h i≠none) :
 Post ρ F w T u h v x ρ' F' w':=by
 have l:restr (T0++keys u) (updH u (restr T h))=restr (T0++keys u) (updH u h):=by
  grind [restr,updH,keys]
 have d:Post ρ F w T0 u (restr T h) v x ρ' F' w':=⟨a.rho,a.new,a.blk,a.rd,by rw[l];exact a.hp,a.fok,a.chg⟩;have:=Post.frame g j c (fun i f=>by simp[restr,b i f,k i f]) d;refine⟨a.rho,a.new,a.blk,a.rd,?_,a.fok,a.chg⟩;have e:restr (T++keys u) (updH u h)=updH u (restr T h):=by
  grind [restr,updH,keys]
 simp_all
theorem Post.del{ρ:aD}{F:aK}{w:World}{T:List Nat}{u:List (Nat×Option Blk)}{h:bv}{v:AV}{x:Value}{ρ':aD}{F':aK}{w':World}{id:Nat}
 (c:Post ρ F w T u h v x ρ' F' w') (m:id∉keys u):Post ρ F w T (u++[(id,none)]) h v x ρ' F' w':=by
 have g:∀i,i∈keys (u++[(id,none)])↔i∈keys u\/i=id:=fun i=>by simp[keys]
 have l:∀b,OSet ρ (keys u) b->OSet ρ (keys (u++[(id,none)])) b:=fun b ⟨i,d,n⟩=>⟨i,(g i).2 (.inl d),n⟩
 have a:∀i k,restr (T++keys (u++[(id,none)])) (updH (u++[(id,none)]) h) i=some k->restr (T++keys u) (updH u h) i=some k:=by
  intro i k d;obtain⟨q,hv⟩:=aY d;unfold updH at hv;by_cases o:i=id
  .simp_all[dA,updH,hget]
  .have f:i∈T++keys u:=by
    simp_all
   simp only[restr,b9 f,updH];by_cases r:i∈keys u
   .simp_all[dA,updH]
   .simp_all
 refine⟨c.rho,fun i h1 h2=>(g i).2 (.inl (c.new i h1 h2)),fun i b h1 h2=>(c.blk i b h1 h2).imp (fun h=>h) (l b),c.rd,⟨fun i k d=>c.hp.ok i k (a i k d),fun i j b d p h1 h2=>c.hp.inj i j b ?_ ?_ h1 h2⟩,c.fok,c.chg.mono l⟩
 .obtain⟨k,e⟩:=em.1 d;rw[a i k e];simp
 .obtain⟨k,e⟩:=em.1 p;rw[a j k e];simp
theorem Post.moveBlk{ρ:aD}{F:aK}{w:World}{id a b:Nat}{t:TypeId}{cs:List AV}{arr arr':Array Value}{h:bv}{v:AV}{x:Value}
 (A:oB F w) (s:¬F b) (m:ρ id=some b) (B:ρ a=none) {u:Nat×Nat} (ha:w.heap[b]?=some (.cells arr t u)) (p:FrOk u arr.size) (y:arr'.size=arr.size) (C:cs.length<=arr'.size)
 (z:∀j c,cs[j]?=some c->(arr'.getD j undef).oneCell'=true/\Rd ρ F w c (arr'.getD j undef))
 (hv:Rd (eG ρ a b) F w v x):Post ρ F w [id] [(a,some ⟨t,cs⟩),(id,none)] h v x (eG ρ a b) F (w.setRow b arr'):=by
 have D:a≠id:=fun e=>by subst e;rw[B] at m;cases m
 have E:OSet ρ (keys [(a,some (⟨t,cs⟩:Blk)),(id,none)]) b:=⟨id,ξ,m⟩;have d:=sz ha y (OSet ρ (keys [(a,some (⟨t,cs⟩:Blk)),(id,none)])) F E;have f:∀k,F k->(w.setRow b arr').heap[k]?=w.heap[k]?:=fun k g=>setRow_other w b k arr' (fun e=>s (e ▸ g))
 have l:∀i o,ρ i=some o->eG ρ a b i=some o:=fun i o H=>by
  grind [eG]
 refine⟨l,fun i h1 h2=>?_,fun i o h1 h2=>?_,hv.mono (fun _ _ h=>h) (fun _ h=>h) f d.cells,⟨fun i k g=>?_,fun i j c n q _ _=>?_⟩,fun k g=>q' (A k g) d.size,d⟩
 .simp_all[eG,keys]
 .simp_all[eG]
 .obtain⟨n,g⟩:=aY g;have r:i=a\/i=id:=by simp[keys] at n;omega
  rcases r with rfl|rfl
  .simp[updH,keys,hget] at g;subst g;exact .inr ⟨b,by simp[eG],⟨s,.inl ⟨arr',_,setRow_heap w b arr arr' t _ ha,by rw[y];exact p,C,fun j c q=>⟨(z j c q).1,(z j c q).2.mono l (fun _ h=>h) f d.cells⟩⟩⟩⟩
  .simp_all[updH,keys,hget,eN]
 .have G:∀i,restr ([id]++keys [(a,some (⟨t,cs⟩:Blk)),(id,none)]) (updH [(a,some ⟨t,cs⟩),(id,none)] h) i≠none->i=a:=fun i n=>by
   obtain⟨k,g⟩:=em.1 n;obtain⟨n,g⟩:=aY g
   grind [keys,updH,hget,eN]
  grind
theorem FJ{ρ:aD}{F:aK}{w:World}{xs ys:List AV}{us vs:List Value}{zs:Array Value}(h1:us.length=xs.length)(h2:vs.length=ys.length)
 (d:∀j c,xs[j]?=some c->(us.getD j undef).oneCell'=true/\Rd ρ F w c (us.getD j undef)) (f:∀j c,ys[j]?=some c->(vs.getD j undef).oneCell'=true/\Rd ρ F w c (vs.getD j undef)) :
 (xs++ys).length<=(us.toArray++vs.toArray++zs).size/\∀j c,(xs++ys)[j]?=some c->((us.toArray++vs.toArray++zs).getD j undef).oneCell'=true/\Rd ρ F w c ((us.toArray++vs.toArray++zs).getD j undef):=by
 refine⟨ζ,fun j c b=>?_⟩;have a:j<(xs++ys).length:=(hP.1 b).1;simp only[c9] at a;have e:(us.toArray++vs.toArray++zs).getD j undef=if j<xs.length then us.getD j undef else vs.getD (j-xs.length) undef:=by
  grind [eo,Q',e']
 grind
theorem Hj{o:Oper}{st:AS}{t t':TypeId}{x y:Operand}(ho:o.op = .call ⟨.builtin .append,#[x,y],#[t,t']⟩){dt:TypeDesc}(hdt:P.underlying t'=some dt)(hni:∀k,dt ≠ .int k){s:Prop}{v:AV}{T:List Nat}{u:List (Nat×Option Blk)}{nx:Nat}
 (h:gG st (ae P t) (ae P (ae P t).elem) (ev st x) (ml st (ae P (ae P t).elem).size (ev st y)) = .okS s v T u nx) (hs:s):OpOk P o st v T u nx:=by
 cases U:ml st (ae P (ae P t).elem).size (ev st y) with
 |none=>rw[U] at h;simp[gG] at h
 |some m cs T0 side =>
  rw[U] at h;simp only[gG] at h;split at h
  .rename_i hk hz0 hpos;rename_i z;have I:=cV hpos;obtain⟨i,zv,l,hzv,rfl⟩:=ku hz0;obtain⟨d,i',hd,W,hz⟩:=cC (P:=P) (t:=(ae P t).elem) I;rw[l] at W;cases W;have H:(ae P (ae P t).elem).size=i.size:=by rw[gv,hz]
   have hby:(ae P (ae P t).elem).bytes=i.bytes:=by show((P.info? (ae P t).elem).map (·.bytes)).getD 0=i.bytes;rw[l];rfl
   have ht:=cQ hk;split at h
   ·
    rename_i hzl hx;simp only[R.okS.injEq] at h;obtain⟨rfl,rfl,rfl,rfl,rfl⟩:=h;obtain⟨L,hb,h63⟩:=hs;rw[hby] at hb;obtain⟨q,hok⟩:=um U L I;refine⟨?_,v' _,fun j hj=>?_,fun j hj=>(q j hj).1⟩
    .intro ρ F a w f g K Q hK;have hrx:=g x ψ;have hry:=g y ψ;rw[hx] at hrx;obtain⟨B,us,M,N,hrd⟩:=hok (T':=T0) (fun _ h=>h) f.hp hry;rw[H] at B M;have hnT:st.nx∉T0:=fun hm=>E' _ (q _ hm).2
     have hid:=f.fresh st.nx ξ hnT;obtain⟨C,G⟩:=jo (P:=P) (ty:=o.type) (A:=none) (n:=0) (cap:=0) (olds:=[]) (m:=m) (news:=us) (w:=w) ht l hzv hdt hni η (fun ad e=>by cases e) (fun _=>rfl) ω M ω (by simpa using hb);unfold Oper.wp;have p:∀r,(ah #[t,t'] o.type #[.slice none 0 0,a.eval y]).run P w=r->(execOp a.eval o).run P w=r.andThen fun v w => .ok (.value v) w:=by
      intro r hr;simp only[execOp,ho,resolve,invoke,builtin,hW,lh,ez,h',hX,f',hrx.pv,hr]
     by_cases hm:m=0
     .subst hm;have hcs:cs=[]:=fo (by simpa using B);subst hcs;rw[p _ (G ω rfl)];refine hK _ ρ F w ⟨fun _ _ h=>h,fun i h1 h2=>s5 h1 h2,fun i b h1 h2=>(by rw[h1] at h2;cases h2),.slz _ _ _ _,⟨fun i k hk=>?_,fun i j b l hj h1 h2=>?_⟩,f.fok,Chg.refl _ _ _⟩
      .obtain⟨l,hk⟩:=aY hk;by_cases g:i=st.nx
       .subst g;exact ais
       .simp only[updH,keys,hX,f',n4,g,if_false] at hk;apply f.hp.ok i k;have:i∈T0:=by simpa[keys,g] using l
        simp[restr,this,hk]
      .have key:∀i b,restr (T0++keys [(st.nx,some (⟨(ae P t).elem,[]⟩:Blk))]) (updH [(st.nx,some ⟨(ae P t).elem,[]⟩)] (hget st.hp)) i≠none->ρ i=some b->restr T0 (hget st.hp) i≠none:=by
        intro i b l hb;have g:¬i=st.nx:=fun e=>by subst e;rw[hid] at hb;cases hb
        obtain⟨k,hk⟩:=em.1 l;obtain⟨W,hk⟩:=aY hk;simp only[updH,keys,hX,f',n4,g,if_false] at hk;have:i∈T0:=by simpa[keys,g] using W
        simp[restr,this,hk]
       exact f.hp.inj i j b (key i b l h1) (key j b hj h2) h1 h2
     .have hcap:0<0+m:=ω;rw[p _ (C hcap)];obtain⟨jl,jr⟩:=FJ (ρ:=ρ) (F:=F) (w:=w) (xs:=[]) (ys:=cs) (us:=[]) (vs:=us) (zs:=ap zv.cells (grownCap w (0+m) 0 (ae P t).elem-(0+m))) rfl N (fun j c hj=>by simp at hj) hrd;simp only[List.nil_append] at jl jr
      have D:=Post.newBlk (h:=hget st.hp) (w1:=w.drew) (t:=(ae P t).elem) f.fok hid jl jr rfl rfl rfl rfl (v := .sl st.nx 0 m (ae P (ae P t).elem).size) (x := .slice (some ⟨w.heap.size,0,none⟩) (0+m) (grownCap w (0+m) 0 (ae P t).elem)) (by
       rw[x']
       have hge:=grownCap_ge w m 0 (ae P t).elem
       refine .sl _ _ _ _ w.heap.size _ (by simp[eG]) hge ⟨_,_,_,heap_alloc_new w.drew _,?_⟩
       have hzs:zv.cells.size=i.size:=by rw[<-H];simpa using ef hzl
       simp only[Q',e',km,size_zeroCells,hzs,N,B,H,x',<-y']
       rw[D' hge]
       exact c7 _)
      exact hK _ _ F _ (D.widen f.hp f.fok (fun i l _=>by simp[keys] at l;subst l;exact hid) (fun i l=>by simp at l) (fun i l=>by simp at l))
    .exact ahV
   ·
    rename_i hzl hx;rename_i id n s';have hzs:zv.cells.size=i.size:=by rw[<-H];simpa using ef hzl
    split at h
    .rename_i hse hidlt O;rename_i b;simp only[R.okS.injEq] at h;obtain⟨rfl,rfl,rfl,rfl,rfl⟩:=h;obtain⟨L,hbt,X,hb,h63⟩:=hs;have hse':=ef hse;subst hse';rw[hby] at hb;rw[H] at X;have hidlt':id<st.nx:=by simpa[Nat.blt_eq] using hidlt
     have hne:id≠st.nx:=ω;obtain⟨q,hok⟩:=um U L I;refine⟨?_,v' _,fun j hj=>?_,fun j hj=>?_⟩
     .intro ρ F a w f g K Q hK;have hrx:=g x ψ;have hry:=g y ψ;rw[hx] at hrx;obtain⟨B,us,M,N,hrd⟩:=hok (T':=id::T0) (fun _ h=>nk _ h) f.hp hry;rw[H] at B M;have hnT:st.nx∉id::T0:=fun hm=>by
       rcases hZ.1 hm with h1|h1
       .exact hne h1.symm
       .exact E' _ (q _ h1).2
      have hid:=f.fresh st.nx ξ hnT;have hfr:∀i,i∈keys [(st.nx,some (⟨(ae P t).elem,b.cs++cs⟩:Blk)),(id,none)]->i∉[id]->ρ i=none:=fun i l hn=>by
       simp[keys] at l;rcases l with rfl|rfl
       .exact hid
       .simp at hn
      have p:∀A cap r,a.eval x = .slice A n cap->(ah #[t,t'] o.type #[.slice A n cap,a.eval y]).run P w=r->(execOp a.eval o).run P w=r.andThen fun v w => .ok (.value v) w:=by
       intro A cap r hxv hr;exact ahp
      have grown:∀(cap:Nat) (olds:List Value),olds.length=b.cs.length->(∀j c,b.cs[j]?=some c->(olds.getD j undef).oneCell'=true/\Rd ρ F w c (olds.getD j undef)) ->
       K (a.put o.dst (.slice (some ⟨w.heap.size,0,none⟩) (n+m) (grownCap w (n+m) cap (ae P t).elem))) (w.drew.alloc (.cells (olds.toArray++us.toArray++ap zv.cells (grownCap w (n+m) cap (ae P t).elem-(n+m))) (ae P t).elem)):=by
       intro cap olds hol hold;obtain⟨jl,jr⟩:=FJ (ρ:=ρ) (F:=F) (w:=w) (xs:=b.cs) (ys:=cs) (us:=olds) (vs:=us) (zs:=ap zv.cells (grownCap w (n+m) cap (ae P t).elem-(n+m))) hol N hold hrd;have hge:=grownCap_ge w (n+m) cap (ae P t).elem
       have D:=Post.newBlk (h:=hget st.hp) (w1:=w.drew) (t:=(ae P t).elem) f.fok hid jl jr rfl rfl rfl rfl (v := .sl st.nx 0 (n+m) (ae P (ae P t).elem).size) (x := .slice (some ⟨w.heap.size,0,none⟩) (n+m) (grownCap w (n+m) cap (ae P t).elem)) (by
        refine .sl _ _ _ _ w.heap.size _ (by simp[eG]) hge ⟨_,_,_,heap_alloc_new w.drew _,?_⟩
        simp only[Q',e',size_zeroCells,hzs,N,B,H,hol,X,x',<-y']
        rw[D' hge]
        exact c7 _)
       have hpost2:=D.widen f.hp f.fok (fun i l _=>by simp[keys] at l;subst l;exact hid) (fun i l=>by simp at l) (fun i l=>by simp at l);exact hK _ _ F _ (hpost2.del (id:=id) (by simp[keys];exact hne))
      have hrs:restr (id::T0) (hget st.hp) id=some b:=by simp[restr,O]
      unfold Oper.wp;rcases hrx.slInv with⟨rfl,A,hxv⟩|⟨bb,cap,hbb,hxv,hcap,hcc⟩
      ·
       have S:b.cs=[]:=fo (by simpa using X);obtain⟨C,G⟩:=jo (P:=P) (ty:=o.type) (A:=A) (n:=0) (cap:=0) (olds:=[]) (m:=m) (news:=us) (w:=w) ht l hzv hdt hni η (fun ad e j v hv=>by simp at hv) (fun _=>rfl) ω M h63 hb;by_cases hm:m=0
       .subst hm;have hcs:cs=[]:=fo (by simpa using B);subst hcs;rw[p A 0 _ hxv (G ω rfl)];rw[S] at hK;refine hK _ ρ F w ⟨fun _ _ h=>h,fun i h1 h2=>s5 h1 h2,fun i b h1 h2=>(by rw[h1] at h2;cases h2),.slz _ _ _ _,⟨fun i k hk=>?_,fun i j b' l hj h1 h2=>?_⟩,f.fok,Chg.refl _ _ _⟩
        .obtain⟨l,hk⟩:=aY hk;by_cases g:i=st.nx
         .subst g;exact ais
         .by_cases E:i=id
          .subst E;simp[updH,keys,hget,eN (fun e=>g e.symm)] at hk
          .simp only[updH,keys,hX,f',hZ,List.not_mem_nil,or_false,g,E,if_false] at hk;apply f.hp.ok i k;have:i∈T0:=by simpa[keys,g,E] using l
           simp[restr,this,hk]
        .have key:∀i b',restr ((id::T0)++keys [(st.nx,some (⟨(ae P t).elem,[]++[]⟩:Blk)),(id,none)]) (updH [(st.nx,some ⟨(ae P t).elem,[]++[]⟩),(id,none)] (hget st.hp)) i≠none->ρ i=some b'->restr (id::T0) (hget st.hp) i≠none:=by
          intro i b' l hb;have g:¬i=st.nx:=fun e=>by subst e;rw[hid] at hb;cases hb
          obtain⟨k,hk⟩:=em.1 l;obtain⟨W,hk⟩:=aY hk;by_cases E:i=id
          .subst E;simp[updH,keys,hget,eN (fun e=>g e.symm)] at hk
          .simp only[updH,keys,hX,f',hZ,List.not_mem_nil,or_false,g,E,if_false] at hk;have:i∈T0:=by simpa[keys,g,E] using W
           simp[restr,this,hk]
         exact f.hp.inj i j b' (key i b' l h1) (key j b' hj h2) h1 h2
       .rw[p A 0 _ hxv (C ω)];exact grown 0 [] (by rw[S];rfl) (fun j c hj=>by rw[S] at hj;simp at hj)
      .rcases f.hp.ok id b hrs with⟨_,h0⟩|⟨b2,hb2,hblk⟩
       .rw[h0] at hbb;cases hbb
       rw[hbb] at hb2;cases hb2;obtain⟨arr,fr,ha,hfo,hln,V⟩:=hblk.is (.inr ⟨_,hcc⟩);have harr:cap*i.size<=arr.size:=by
        obtain⟨ar,t',fr,h1,h2⟩:=hcc;rw[ha] at h1;cases h1;rw[<-H];omega
       have hlo:(arr.toList.take (n*i.size)).length=n*i.size:=ζ;have holdc:∀j v,(arr.toList.take (n*i.size))[j]?=some v->w.cell? ((⟨bb,0,none⟩:Addr).add j)=some v:=by
        intro j v hv;rw[l0] at hv;split at hv
        .rw[dJ,x'];simp only[World.cell?,ha];simpa using hv
        .cases hv
       have hold:∀j c,b.cs[j]?=some c->((arr.toList.take (n*i.size)).getD j undef).oneCell'=true/\Rd ρ F w c ((arr.toList.take (n*i.size)).getD j undef):=by
        intro j c hj;have hjl:j<n*i.size:=by rw[<-X];exact(hP.1 hj).1
        have e:(arr.toList.take (n*i.size)).getD j undef=arr.getD j undef:=by simp[cR,hjl]
        rw[e];exact V j c hj
       obtain⟨C,G⟩:=jo (P:=P) (ty:=o.type) (A:=some ⟨bb,0,none⟩) (n:=n) (cap:=cap) (olds:=arr.toList.take (n*i.size)) (m:=m) (news:=us) (w:=w) ht l hzv hdt hni hlo (fun ad e=>by cases e;exact holdc) (fun e=>by cases e) ω M h63 hb;by_cases hfit:n+m<=cap
       ·
        have hle:n*i.size+us.length<=arr.size:=by
         have:(n+m)*i.size<=cap*i.size:=iy _ hfit;rw[y'] at this;omega
        have hrun:(ah #[t,t'] o.type #[.slice (some ⟨bb,0,none⟩) n cap,a.eval y]).run P w = .ok (.slice (some ⟨bb,0,none⟩) (n+m) cap) (w.setRow bb (arr.toList.take (n*i.size)++us++arr.toList.drop (n*i.size+us.length)).toArray):=by
         rw[hbt] at ha
         exact DP (P:=P) w t o.type (ae P t).elem i ht l bb n cap arr fr ha hfo t' dt hdt hni (a.eval y) m us ω M (fun v hv=>by
          obtain⟨j,hj⟩:=n' hv
          have hjl:j<cs.length:=by rw[<-N];exact(hP.1 hj).1
          have:=(hrd j _ (n0 hjl)).1
          simpa[cR,hj] using this) hfit hle
        rw[p _ cap _ hxv hrun];rw[hbt] at ha;have hasz:(arr.toList.take (n*i.size)++us++arr.toList.drop (n*i.size+us.length)).toArray.size=arr.size:=by
         simp only[e',c9,hV,kK,N'];omega
        have D:=Post.moveBlk (h:=hget st.hp) (cs:=b.cs++cs) (arr':=(arr.toList.take (n*i.size)++us++arr.toList.drop (n*i.size+us.length)).toArray) f.fok hblk.own hbb hid ha hfo hasz (by rw[hasz,c9];omega) (fun j c hj=>by
         have hjl:j<(b.cs++cs).length:=(hP.1 hj).1
         simp only[c9] at hjl
         have e:((arr.toList.take (n*i.size)++us++arr.toList.drop (n*i.size+us.length)).toArray).getD j undef=if j<b.cs.length then arr.getD j undef else us.getD (j-b.cs.length) undef:=by
          have hmin:min (n*i.size) arr.size=n*i.size:=ω
          simp only[eo,m',g',c9,hV,N',hmin,l0,U',cR,X,N]
          by_cases h1:j<n*i.size
          .simp[h1,show j<n*i.size+cs.length by omega]
          .simp[h1,show j<n*i.size+cs.length by omega]
         rw[e]
         rw[g'] at hj
         split at hj
         .rename_i h1;rw[b9 h1];exact V j c hj
         .rename_i h1;rw[b0 h1];exact hrd _ c hj) (v := .sl st.nx 0 (n+m) (ae P (ae P t).elem).size) (x := .slice (some ⟨bb,0,none⟩) (n+m) cap) (.sl _ _ _ _ bb cap (by simp[eG]) hfit hcc)
        exact hK _ _ F _ (D.widen f.hp f.fok hfr (fun i l=>by simp at l;subst l;simp) (fun i l=>by simp at l;subst l;rw[O];simp))
       .rw[p _ cap _ hxv (C ω)];exact grown cap _ (by rw[hlo,X]) hold
     .simp[keys] at hj;rcases hj with rfl|rfl
      .exact .inr ⟨c7 _,G' _⟩
      .exact .inl η
     .rcases hZ.1 hj with rfl|h1
      .rw[O];simp
      .exact(q j h1).1
    .cases h
   .cases h
  .cases h
theorem za{c:PV}(h:isB c):c=bt (unB c):=by
 cases c with
 |v x =>
  cases x with
  |int k n =>
   cases k with
   |u8 =>
    obtain⟨b,rfl⟩:=h;simp[unB,bt]
   |_=>exact h.elim
  |_=>exact h.elim
 |_=>exact h.elim
theorem JM{cs:List PV}(h:uh cs):cs=(eV cs).map bt:=by
 unfold eV;rw[List.map_map]
 conv=>lhs;rw[<-List.map_id cs]
 exact List.map_congr_left fun c a=>za (h c a)
theorem xu{s d:TypeId}{A:Option Addr}{n cap:Nat}{l:List UInt8}{w:World}(hs:P.underlying s=some (.slice (ae P s).elem))(b:P.underlying (ae P s).elem=some (.int .u8))(c:P.underlying d=some .string)
 (e:l.length=n) (g:A=none->n=0) (h:∀ad,A=some ad->∀j,j<n->w.cell? (ad.add j)=some (.int .u8 ((l.getD j 0).toNat:Int))) :
 (convert s d (.slice A n cap)).run P w = .ok (strOf l) w:=by
 cases A with
 |some ad =>
  subst e;exact run_convert_bytes_back w s d _ ad cap l hs b c (fun j f=>by rw[h ad rfl j f];simp[cR,f])
 |none =>
  have:=g rfl;subst this;have a:l=[]:=fo e;subst a;rw[run_convert_bytes_string w s d _ none 0 cap hs b c];rfl
theorem ze{o:Oper}{st:AS}{s d:TypeId}{x:Operand}(ho:o.op = .convert s d x){n:Nat}{cs:List PV}(B:ev st x = .p (.data 1 n cs))(C:(ae P d).kind = .str)(hs:(ae P s).kind = .slice)
 (D:(ae P (ae P s).elem).kind = .int .u8) (r:uh cs):OpOk P o st (.p (.v (strOf (eV cs)))) [] [] st.nx :=
 bH fun ρ F a w i=>by
  have t:=i x φ;rw[B] at t;have e:=JM r;have fin:∀A cap,a.eval x = .slice A n cap->(eV cs).length=n->(A=none->n=0)->(∀ad,A=some ad->∀j,j<n->w.cell? (ad.add j)=some (.int .u8 (((eV cs).getD j 0).toNat:Int))) ->
   ∃y,(execOp a.eval o).run P w = .ok (.value y) w/\Rd ρ F w (.p (.v (strOf (eV cs)))) y:=by
   intro A cap hv u E k;have:=xu (P:=P) (cap:=cap) (cQ hs) (oD D) (mg C) u E k;exact⟨_,by simp only[execOp,ho,hv,hW,this,ez,lh],.ofV rfl⟩
  rcases t.dataInv with⟨rfl,rfl,A,cap,hv⟩|⟨b,off,cap,f,hv,u,z,I,k,G,l⟩
  .exact fin A cap hv rfl (fun _=>rfl) (fun ad _ j H=>ω)
  .have m:(eV cs).length=n:=by simp[eV];omega
   refine fin _ cap hv m (fun h=>by cases h) (fun ad h j H=>?_);cases h;rw[dJ,k j ω];have c:j<cs.length:=ω;have g:=l j _ (n0 c);have q:=za (r _ (ix c));rw[q] at g;have:=(Rd.p (ρ:=ρ) _ _ g).pv
   grind [eV]
theorem DQ{o:Oper}{st:AS}{s d:TypeId}{x:Operand}(ho:o.op = .convert s d x){id off n:Nat}(L:ev st x = .sl id off n 1)(M:(ae P d).kind = .str)(hs:(ae P s).kind = .slice)
 (N:(ae P (ae P s).elem).kind = .int .u8) {k:Blk} (E:hget st.hp id=some k) (V:off+n<=k.cs.length) (O:iY ((k.cs.drop off).take n)) (R:uh (fD ((k.cs.drop off).take n))) :
 OpOk P o st (.p (.v (strOf (eV (fD ((k.cs.drop off).take n)))))) [id] [] st.nx where
 tri ρ F a w hpre hin K Q hK:=by
  have G:=hin x φ;rw[L] at G;have q:(eV (fD ((k.cs.drop off).take n))).length=n:=by simp[eV,fD];omega
  have fin:∀A cap,a.eval x = .slice A n cap->(A=none->n=0)->(∀ad,A=some ad->∀j,j<n->w.cell? (ad.add j)=some (.int .u8 (((eV (fD ((k.cs.drop off).take n))).getD j 0).toNat:Int)))->o.wp P a w K Q:=by
   intro A cap hv S r;have f:=xu (P:=P) (cap:=cap) (cQ hs) (oD N) (mg M) q S r;unfold Oper.wp;have t:(execOp a.eval o).run P w = .ok (.value (strOf (eV (fD ((k.cs.drop off).take n))))) w:=by simp only[execOp,ho,hv,hW,f,ez,lh]
   rw[t];refine hK _ ρ F w ⟨fun _ _ h=>h,fun i h1 h2=>s5 h1 h2,fun i b h1 h2=>(by rw[h1] at h2;cases h2),.ofV rfl,?_,hpre.fok,Chg.refl _ _ _⟩;exact af5
  rcases G.slInv with⟨rfl,A,hv⟩|⟨b,cap,u,hv,H,y⟩
  .simp_all
  .have z:restr [id] (hget st.hp) id=some k:=by simp[restr,E]
   rcases hpre.hp.ok id k z with⟨_,W⟩|⟨X,g,l⟩
   .simp_all
   rw[u] at g;cases g;obtain⟨arr,fr,ha,T,I,r⟩:=l.is (.inr ⟨_,y⟩);refine fin _ cap hv (fun h=>by cases h) (fun ad h j hj=>?_);cases h;rw[dJ,jT ha ω];have c:j<((k.cs.drop off).take n).length:=ζ;have B:((k.cs.drop off).take n)[j]?=some ((k.cs.drop off).take n)[j]:=n0 c;have C:k.cs[off+j]?=some ((k.cs.drop off).take n)[j]:=by
    simp_all
   have m:=(r _ _ C).2;have e:=O _ (ix c);have D:=R (unP ((k.cs.drop off).take n)[j]) (by unfold fD;exact o4.2 ⟨_,ix c,rfl⟩);have U:((k.cs.drop off).take n)[j] = .p (unP ((k.cs.drop off).take n)[j]):=by
    revert e;cases((k.cs.drop off).take n)[j]<;>intro e<;>first|rfl|exact e.elim
   rw[U,za D] at m;have:=m.pv
   grind [eV,fD,unB,unP]
 le:=c7 _
 keysOk i hi:=by simp[keys] at hi
 live i hi:=by simp at hi;subst hi;rw[E];simp
theorem DS{o:Oper}{st:AS}{s d:TypeId}{x:Operand}(ho:o.op = .convert s d x){b:ByteArray}(z:ev st x = .p (.v (.string b)))(hs:(ae P s).kind = .str)(A:(ae P d).kind = .slice)
 (B:(ae P (ae P d).elem).kind = .int .u8):OpOk P o st (.p (.data 1 b.size (b.data.toList.map bt))) [] [] st.nx where
 tri ρ F a w hpre hin K Q hK:=by
  have hr:=hin x φ;rw[z] at hr;have hrun:=run_bytes_of_string (P:=P) w s d (ae P d).elem b (mg hs) (cQ A) (oD B);unfold Oper.wp;have r:(execOp a.eval o).run P w = .ok (.value (.slice (some ⟨w.heap.size,0,none⟩) b.size (grownCap w b.size 0 (ae P d).elem)))
   (w.drew.alloc (.cells (bytesRow b (grownCap w b.size 0 (ae P d).elem)) (ae P d).elem ((bytesRow b (grownCap w b.size 0 (ae P d).elem)).size,(bytesRow b (grownCap w b.size 0 (ae P d).elem)).size+1))):=by
   exact aiP
  rw[r];generalize q:bytesRow b (grownCap w b.size 0 (ae P d).elem)=row;have t:=grownCap_ge w b.size 0 (ae P d).elem;have l:∀j,j<b.size->row[j]?=some (.int .u8 ((b.data.toList.getD j 0).toNat:Int)):=by
   intro j m;rw[<-q];unfold bytesRow;have f:j<b.data.size:=m;rw[V' (by simpa using f)];simp[cR,Array.getElem?_eq_getElem f]
  refine hK _ ρ (fun k=>F k\/k=w.heap.size) _ ⟨fun _ _ h=>h,fun i h1 h2=>s5 h1 h2,fun i b h1 h2=>(by rw[h1] at h2;cases h2),?_,⟨fun i k h=>by simp[restr,keys] at h,fun i j b h=>by simp[restr,keys] at h⟩,?_,?_⟩
  .refine .p _ _ (.data 1 _ _ w.heap.size 0 _ (fun j => .int .u8 ((b.data.toList.getD j 0).toNat:Int)) η t (.inr rfl) (fun j m=>?_) (fun j _=>rfl) (fun j c m=>?_))
   .have f:j<b.size:=by simpa using m
    have g:=heap_alloc_new w.drew (.cells row (ae P d).elem (row.size,row.size+1));simp only[World.cell?,x'];have:w.drew.heap.size=w.heap.size:=rfl;rw[this] at g;rw[g];simpa using l j f
   .simp only[c',nL] at m;obtain⟨y,C,rfl⟩:=m;have:b.data.toList.getD j 0=y:=by rw[cR,C];rfl
    rw[this];exact .v _ rfl
  .intro k e;rcases e with e|rfl
   .have:=hpre.fok k e;simp;omega
   .simp
  .exact⟨rfl,rfl,rfl,η,fun k e _=>Below.heap_alloc w.drew _ k e,⟨fun k n u=>(show hasCells w.drew k n from u).alloc _,fun k u=>(show isMapO w.drew k from u).alloc _⟩,fun k e => .inl e,fun k e=>by
    rcases e with e|rfl
    .exact .inl e
    .exact .inr (.inl (c7 _))⟩
 le:=c7 _
 keysOk i hi:=by simp[keys] at hi
 live i hi:=by simp at hi
theorem A6{o:Oper}{st:AS}{s d:TypeId}{x:Operand}(ho:o.op = .convert s d x){b:ByteArray}(k:ev st x = .p (.v (.string b)))(hs:(ae P s).kind = .str)(l:(ae P d).kind = .slice)
 (m:(ae P (ae P d).elem).kind = .int .u8):OpOk P o st (.sl st.nx 0 b.size 1) [] [(st.nx,some ⟨(ae P d).elem,(b.data.toList.map bt).map .p⟩)] (st.nx+1) where
 tri ρ F a w hpre hin K Q hK:=by
  have hr:=hin x φ;rw[k] at hr;have hrun:=run_bytes_of_string (P:=P) w s d (ae P d).elem b (mg hs) (cQ l) (oD m);unfold Oper.wp;have e:(execOp a.eval o).run P w = .ok (.value (.slice (some ⟨w.heap.size,0,none⟩) b.size (grownCap w b.size 0 (ae P d).elem)))
   (w.drew.alloc (.cells (bytesRow b (grownCap w b.size 0 (ae P d).elem)) (ae P d).elem ((bytesRow b (grownCap w b.size 0 (ae P d).elem)).size,(bytesRow b (grownCap w b.size 0 (ae P d).elem)).size+1))):=by
   exact aiP
  rw[e];have f:=grownCap_ge w b.size 0 (ae P d).elem;have n:(bytesRow b (grownCap w b.size 0 (ae P d).elem)).size=grownCap w b.size 0 (ae P d).elem:=by
   simp_all[bytesRow,Q',Array.size_map,Array.size_replicate]
  have g:∀j,j<b.size->(bytesRow b (grownCap w b.size 0 (ae P d).elem))[j]?=some (.int .u8 ((b.data.toList.getD j 0).toNat:Int)):=by
   simp_all[bytesRow,V',cR]
  generalize bytesRow b (grownCap w b.size 0 (ae P d).elem)=row at *;refine hK _ _ F _ (Post.newBlkF (row.size,row.size+1) (.inr (c7 _)) hpre.fok (hpre.fresh st.nx ξ η) ?_ (fun j c h=>?_) rfl rfl rfl rfl ?_)
  .simp_all
  .simp only[c',nL] at h;obtain⟨y,⟨z,q,rfl⟩,rfl⟩:=h;have r:j<b.size:=by have:=(hP.1 q).1;simpa using this
   have hg:row.getD j undef = .int .u8 (z.toNat:Int):=by
    simp_all
   rw[hg];exact⟨rfl,.p _ _ (.v _ rfl)⟩
  .refine .sl _ _ _ _ w.heap.size _ (by simp[eG]) f ?_;refine⟨row,_,_,heap_alloc_new w.drew _,?_⟩;omega
 le:=by omega
 keysOk i hi:=by simp[keys] at hi;omega
 live i hi:=by simp at hi
theorem Oa{o:Oper}{st:AS}{s:TypeId}{x:Operand}(ho:o.op = .convert s s x){id off n:Nat}(U:ev st x = .sl id off n 1)(hs:(ae P s).kind = .slice)
 (V:(ae P (ae P s).elem).kind = .int .u8) {k:Blk} (O:hget st.hp id=some k) (hl:off+n<=k.cs.length) (W:n≠0) (X:iY ((k.cs.drop off).take n)) :
 OpOk P o st (.p (.data 1 n (fD ((k.cs.drop off).take n)))) [id] [(id,none)] st.nx where
 tri ρ F a w hpre hin K Q hK:=by
  have R:=hin x φ;rw[U] at R;rcases R.slInv with⟨C,A,hv⟩|⟨b,cap,f,hv,v,D⟩
  .exact s5 C W
  .have E:restr [id] (hget st.hp) id=some k:=by simp[restr,O]
   rcases hpre.hp.ok id k E with⟨_,C⟩|⟨b2,hb2,g⟩
   .rw[C] at f;cases f
   rw[f] at hb2;cases hb2;obtain⟨arr,fr,ha,hfr,S,hc⟩:=g.is (.inr ⟨_,D⟩);have z:b<w.heap.size:=(S'.1 ha).1;have G:(execOp a.eval o).run P w = .ok (.value (.slice (some ⟨b,off,none⟩) n cap)) (w.freeze ⟨b,arr.size,none⟩ 1):=by
    have hsh:w.shape? b=some (k.t,arr.size):=by unfold World.shape?;rw[ha]
    simp[execOp,ho,hv,convert,qs (cQ hs),qs (oD V),markStringish,hsh]
   obtain⟨T,hnew⟩:∃T,(w.freeze ⟨b,arr.size,none⟩ 1).heap[b]?=some (.cells arr k.t T):=by
    unfold World.freeze;rw[b0 ε];obtain⟨lo,q⟩:=fr;simp[W',ha]
   have hold:∀c,c≠b->(w.freeze ⟨b,arr.size,none⟩ 1).heap[c]?=w.heap[c]?:=fun c hc=>by
    unfold World.freeze;rw[b0 ε];exact aiO
   have B:(w.freeze ⟨b,arr.size,none⟩ 1).heap.size=w.heap.size:=by
    unfold World.freeze;rw[b0 ε];simp
   unfold Oper.wp;rw[G];refine hK _ ρ (fun c=>F c\/c=b) _ ⟨fun _ _ h=>h,fun i h1 h2=>s5 h1 h2,fun i b h1 h2=>(by rw[h1] at h2;cases h2),?_,⟨fun i k' h=>?_,fun i j b' h=>?_⟩,?_,?_⟩
   .refine .p _ _ (.data 1 _ _ b off cap (fun j=>arr.getD (off+j) undef) (by simp[fD];omega) v (.inr rfl) (fun j r=>?_) (fun j r=>?_) (fun j c r=>?_))
    .have l:j<n:=by simp[fD] at r;omega
     simp only[World.cell?,hnew];have:off+j<arr.size:=ω;simp[Array.getD,this]
    .have l:j<n:=by simp[fD] at r;omega
     have H:off+j<k.cs.length:=ω;exact(hc (off+j) _ (n0 H)).1
    .simp only[fD,c',nL] at r;obtain⟨y,u,rfl⟩:=r;have l:j<n:=by
      rw[l0] at u;split at u
      .assumption
      .cases u
     have I:k.cs[off+j]?=some y:=by
      rw[l0,b9 l,o'] at u;exact u
     have L:isP y:=X y (List.mem_of_getElem? u);have M:=(hc (off+j) y I).2;cases y<;>simp only[isP] at L;cases M with
     |p _ _ hrp =>
      have N:¬F b:=g.own;exact hrp.mono (fun c h => .inl h) (fun c hF=>hold c (fun e=>N (e ▸ hF)))
   .exact ahn
   .exact ahn
   .intro c d;rw[B];rcases d with d|rfl
    .exact hpre.fok c d
    .exact z
   .refine⟨?_,?_,?_,by rw[B];exact c7 _,fun c _ hO=>hold c (fun e=>hO ⟨id,ξ,by rw[e];exact f⟩),⟨fun c m hcm=>?_,fun c hcm=>?_⟩,fun c d => .inl d,fun c d=>?_⟩
    .unfold World.freeze;rw[b0 ε]
    .unfold World.freeze;rw[b0 ε]
    .unfold World.freeze;rw[b0 ε]
    .exact ag5
    .exact ahD
    .rcases d with d|rfl
     .exact .inl d
     .exact .inr (.inr ⟨id,ξ,f⟩)
 le:=c7 _
 keysOk i q:=by simp[keys] at q;exact .inl (by simp[q])
 live i q:=by simp at q;subst q;rw[O];simp
def un(st:AS)(ti ei:TI)(dst:AV):Src->R
 |.some n cs T side=>match ti.kind,u' 1 ei.size,dst with
  |.slice,true,.sl id off dn s=>match p' s ei.size,C' id st.nx,hget st.hp id with
   |true,true,some b => .okS (side/\off+min n dn*s<=b.cs.length) (.p (.v (.int .i64 ((min n dn:Nat):Int)))) (id::T) [(id,some ⟨b.t,bY b.cs off (cs.take (min n dn*s))⟩)] st.nx
   |_,_,_ => .bad
  |_,_,_ => .bad
 |.none => .bad
theorem li{dT sT ty e:TypeId}{i:TypeInfo}(f:P.underlying dT=some (.slice e))(g:P.info? e=some i){A:Option Addr}{n dn cap:Nat}{us:List Value}{u:Value}{w w':World}
 (hv:SrcV w i.size n us u) (c:∀a,A=some a->(storeCells a (us.take (min n dn*i.size)) 0).run P w = .ok () w') (k:A=none->w'=w) :
 (au #[dT,sT] ty #[.slice A dn cap,u]).run P w = .ok (.int .i64 ((min n dn:Nat):Int)) w':=by
 have h:=hv.len P w;have j:=hv.part P (min n dn) (Nat.min_le_left _ _);cases A with
 |none =>
  rw[k rfl];have b:(al i.size (n.min dn) u).run P w=_:=j;simp[au,qs f,sizeOf,typeInfo,g,h,b];rfl
 |some a =>
  have b:(al i.size (n.min dn) u).run P w=_:=j;have d:=c a rfl;simp[au,qs f,sizeOf,typeInfo,g,h,b,d];rfl
theorem Ob{o:Oper}{st:AS}{t L:TypeId}{x y:Operand}(ho:o.op = .call ⟨.builtin .copy,#[x,y],#[t,L]⟩){s:Prop}{v:AV}{T:List Nat}{u:List (Nat×Option Blk)}{nx:Nat}
 (h:un st (ae P t) (ae P (ae P t).elem) (ev st x) (ml st (ae P (ae P t).elem).size (ev st y)) = .okS s v T u nx) (hs:s):OpOk P o st v T u nx:=by
 cases k:ml st (ae P (ae P t).elem).size (ev st y) with
 |none=>rw[k] at h;simp[un] at h
 |some n cs T0 side =>
  rw[k] at h;simp only[un] at h;split at h
  .rename_i hk M hx;rename_i id off dn s';have l:=cV M;obtain⟨d,i,hd,hi,hz⟩:=cC (P:=P) (t:=(ae P t).elem) l;have hsz:(ae P (ae P t).elem).size=i.size:=by rw[gv,hz]
   have ht:=cQ hk;split at h
   .rename_i hse hidlt hblk0;rename_i b;simp only[R.okS.injEq] at h;obtain⟨rfl,rfl,rfl,rfl,rfl⟩:=h;obtain⟨C,r⟩:=hs;have N:=ef hse;subst N;rw[hsz] at r;obtain⟨D,hok⟩:=um k C l;refine⟨?_,c7 _,fun j hj=>?_,fun j hj=>?_⟩
    .intro ρ F a w hpre O K Q hK;have S:=O x ψ;have hry:=O y ψ;rw[hx] at S;obtain⟨z,us,m,hul,hrd⟩:=hok (T':=id::T0) (fun _ h=>nk _ h) hpre.hp hry;rw[hsz] at z m;have hrs:restr (id::T0) (hget st.hp) id=some b:=by simp[restr,hblk0]
     have g:∀A cap w',a.eval x = .slice A dn cap->(au #[t,L] o.type #[.slice A dn cap,a.eval y]).run P w = .ok (.int .i64 ((min n dn:Nat):Int)) w'->(execOp a.eval o).run P w = .ok (.value (.int .i64 ((min n dn:Nat):Int))) w':=by
      intro A cap w' hxv hr;exact ahp
     have hmn:min n dn<=n:=Nat.min_le_left _ _;have E:(us.take (min n dn*i.size)).length=(cs.take (min n dn*i.size)).length:=by rw[hV,hV,hul]
     have hle:min n dn*i.size<=cs.length:=by rw[z];exact iy _ hmn
     have U:(cs.take (min n dn*i.size)).length=min n dn*i.size:=by rw[hV];omega
     have V:∀j c,(cs.take (min n dn*i.size))[j]?=some c->((us.take (min n dn*i.size)).getD j undef).oneCell'=true/\Rd ρ F w c ((us.take (min n dn*i.size)).getD j undef):=by
      intro j c hj;rw[l0] at hj;split at hj
      .rename_i G;have:=hrd j c hj;have e:(us.take (min n dn*i.size)).getD j undef=us.getD j undef:=by simp[cR,G]
       rw[e];exact this
      .cases hj
     unfold Oper.wp;rcases S.slInv with⟨hdn,A,hxv⟩|⟨bb,cap,q,hxv,hcap,hcc⟩
     .subst hdn;have hm0:min n 0*i.size=0:=η;have f:=li (P:=P) (dT:=t) (sT:=L) (ty:=o.type) (A:=A) (dn:=0) (cap:=0) (w':=w) ht hi m (fun ad _=>by rw[hm0];rfl) (fun _=>rfl);rw[g A 0 w hxv f];exact afN
     .rcases hpre.hp.ok id b hrs with⟨_,h0⟩|⟨b',W,B⟩
      .rw[h0] at q;cases q
      rw[q] at W;cases W;by_cases hm0:min n dn*i.size=0
      .have f:=li (P:=P) (dT:=t) (sT:=L) (ty:=o.type) (A:=some ⟨bb,off,none⟩) (dn:=dn) (cap:=cap) (w':=w) ht hi m (fun ad _=>by rw[hm0];rfl) (fun h=>by cases h);rw[g _ cap w hxv f];exact afN
      .obtain⟨arr,fr,ha,X,H,hc⟩:=B.is (.inl ω);have hone:∀v∈us.take (min n dn*i.size),v.oneCell'=true:=by
        intro v hv;obtain⟨j,hj⟩:=n' hv;have G:j<(cs.take (min n dn*i.size)).length:=by rw[<-E];exact(hP.1 hj).1
        have:=(V j _ (n0 G)).1;simpa[cR,hj] using this
       have hst:=iu (P:=P) bb off b.t fr (us.take (min n dn*i.size)) 0 arr w ha X (by rw[E,U];omega) hone;simp only[A'] at hst;have f:=li (P:=P) (dT:=t) (sT:=L) (ty:=o.type) (A:=some ⟨bb,off,none⟩) (dn:=dn) (cap:=cap) ht hi m (fun ad had=>by cases had;exact hst) (fun h=>by cases h);rw[g _ cap _ hxv f];rw[hsz] at hK;have I:=Post.wrBlk (h:=hget st.hp) (v := .p (.v (.int .i64 ((min n dn:Nat):Int)))) (x := .int .i64 ((min n dn:Nat):Int)) hpre.fok B.own q ha X (arr':=(arr.toList.take off++us.take (min n dn*i.size)++arr.toList.drop (off+(us.take (min n dn*i.size)).length)).toArray) (cs:=bY b.cs off (cs.take (min n dn*i.size)))
        (by simp only[e',c9,hV,kK,N'];omega)
        (by simp only[nn,e',c9,hV,kK,N'];omega)
        (FF H (by rw[U];exact r) E hc V) (.p _ _ (.v _ rfl))
       exact hK _ ρ F _ (I.widen hpre.hp hpre.fok (fun j hj hn=>by simp[keys] at hj hn;exact s5 hj hn) (fun j hj=>by simp at hj;subst hj;exact List.mem_cons_self ..) (fun j hj=>by simp at hj;subst hj;rw[hblk0];simp))
    .simp[keys] at hj;subst hj;exact .inl (List.mem_cons_self ..)
    .rcases hZ.1 hj with rfl|hj
     .rw[hblk0];simp
     .exact(D j hj).1
   .cases h
  .cases h
theorem te(a:BinOp)(t:TypeId)(x y:Operand)(A B:Option Addr)(n m c d:Nat)(w:World):(eqGuard a t x y (.slice A n c) (.slice B m d)).run P w = .ok () w:=by
 simp[eqGuard]
theorem Hk{t:TypeId}{e:TypeId}(a:P.underlying t=some (.slice e))(b:Option Addr)(n c:Nat)(w:World):(Op.equal t (.slice b n c) (.slice none 0 0)).run P w = .ok b.isNone w:=by
 have f:∀(d:Nat),(K' (d+1) t (.slice b n c) (.slice none 0 0)).run P w = .ok b.isNone w:=fun d=>by
  cases b<;>simp[K',qs a]
 exact f 9999
theorem pE{o:Oper}{st:AS}{e:BinOp}{t k:TypeId}{x y:Operand}(ho:o.op = .binOp e t x y k)(l:(ae P t).kind = .slice)(m:ev st y = .p (.v (.slice none 0 0))){r:Bool}{d:Prop}
 (z:d->∀(ρ:aD) (F:aK) (w:World) (u:Value),Rd ρ F w (ev st x) u->∃b n c,u = .slice b n c/\b.isNone=r) :
 (∀v T u nx,fC st e d r = .ok v T u nx->OpOk P o st v T u nx)/\(∀s v T u nx,fC st e d r = .okS s v T u nx->s->OpOk P o st v T u nx):=by
 have A:=cQ l;have g:∀(q:Value) ,d->q.oneCell'=true->(∀b n c w,b.isNone=r->(binOp e t (.slice b n c) (.slice none 0 0)).run P w = .ok q w)->OpOk P o st (.p (.v q)) [] [] st.nx:=fun q hs h1 h2 =>
  bH fun ρ F a w f=>by
   have B:=f x φ;have j:=f y φ;obtain⟨b,n,c,C,i⟩:=z hs ρ F w _ B;rw[m] at j;refine⟨q,?_,.ofV h1⟩;simp only[execOp,ho,C,j.pv,hW,te,ez,h2 b n c w i,lh]
 refine⟨fun v T u nx h=>?_,fun s v T u nx h hs=>?_⟩
 .cases e<;>simp[fC,R.pureS] at h
 .cases e<;>simp only[fC,R.pureS,R.okS.injEq] at h
  all_goals first
   |((obtain⟨rfl,rfl,rfl,rfl,rfl⟩:=h);exact g _ hs rfl (fun b n c w i=>by simp[binOp,Hk A,i]))
   |cases h
theorem wQ(c:BinOp)(t:TypeId)(x y:Operand)(a b:Option Addr)(w:World):(eqGuard c t x y (.pointer a) (.pointer b)).run P w = .ok () w:=by
 simp[eqGuard]
theorem uo{o:Oper}{st:AS}{c:BinOp}{t g:TypeId}{x y:Operand}(ho:o.op = .binOp c t x y g){r:Bool}
 (i:∀(ρ:aD) (F:aK) (w:World) (u v:Value),Rd ρ F w (ev st x) u->Rd ρ F w (ev st y) v->∃a b,u = .pointer a/\v = .pointer b/\∀(d:Nat) (w':World),(K' (d+1) t (.pointer a) (.pointer b)).run P w' = .ok r w') :
 (∀v T u nx,fC st c True r = .ok v T u nx->OpOk P o st v T u nx)/\(∀s v T u nx,fC st c True r = .okS s v T u nx->s->OpOk P o st v T u nx):=by
 have f:∀(q:Value),q.oneCell'=true->(∀a b w,(Op.equal t (.pointer a) (.pointer b)).run P w = .ok r w->(binOp c t (.pointer a) (.pointer b)).run P w = .ok q w)->OpOk P o st (.p (.v q)) [] [] st.nx:=fun q h1 h2 =>
  bH fun ρ F a w e=>by
   have j:=e x φ;have k:=e y φ;obtain⟨l,m,n,hv,z⟩:=i ρ F w _ _ j k;refine⟨q,?_,.ofV h1⟩;simp only[execOp,ho,n,hv,hW,wQ,ez,h2 l m w (z 9999 w),lh]
 refine⟨fun v T u nx h=>?_,fun s v T u nx h hs=>?_⟩
 .cases c<;>simp[fC,R.pureS] at h
 .cases c<;>simp only[fC,R.pureS,R.okS.injEq] at h
  all_goals first
   |((obtain⟨rfl,rfl,rfl,rfl,rfl⟩:=h);exact f _ rfl (fun a b w A=>by simp[binOp,A]))
   |cases h
theorem up{o:Oper}{st:AS}{x:Operand}(g:x∈o.op.operands.toList){id:Nat}(q:ev st x = .ptr id 0){k:Blk}(m:hget st.hp id=some k)(r:1<=k.cs.length)
 (c:∀(a:Act) (w:World) (b:Nat) (arr:Array Value) (j:Nat×Nat),a.eval x = .pointer (some ⟨b,0,none⟩)->w.heap[b]?=some (.cells arr k.t j)->k.cs.length<=arr.size->(execOp a.eval o).run P w = .ok (.value (.pointer (some ⟨b,0,none⟩))) w) :
 OpOk P o st (.ptr id 0) [id] [] st.nx where
 tri ρ F a w hpre hin K Q hK:=by
  have n:=hin x g;rw[q] at n;obtain⟨b,p,hv⟩:=n.ptrInv;have l:restr [id] (hget st.hp) id=some k:=by simp[restr,m]
  rcases hpre.hp.ok id k l with⟨_,u⟩|⟨v,d,e⟩
  .simp_all
  rw[p] at d;cases d;obtain⟨arr,j,ha,s,f,_⟩:=e.is (.inl r);unfold Oper.wp;rw[c a w b arr j hv ha f];refine hK _ ρ F w ⟨fun _ _ h=>h,fun i h1 h2=>s5 h1 h2,fun i b h1 h2=>(by rw[h1] at h2;cases h2),.ptr _ _ b p,?_,hpre.fok,Chg.refl _ _ _⟩;exact af5
 le:=c7 _
 keysOk i hi:=by simp[keys] at hi
 live i hi:=by simp at hi;subst hi;rw[m];simp
theorem uq{w:World}{b:Nat}{arr:Array Value}{t:TypeId}{a:Nat×Nat}(h:w.heap[b]?=some (.cells arr t a)):w.shape? b=some (t,arr.size):=by unfold World.shape?;rw[h]
theorem A7{e:TypeId}{a:Nat}(h:1<=a)(c:¬P.cellsOf e=0):liesAt P P.depth e a 0 e 1=true:=by
 have b:P.depth=(2*(P.types.size+Made.depth)+1)+1:=rfl;rw[b];simp only[liesAt,Bool.or_eq_true];left;rw[b];simp[rowAt,h,c,sameLayout]
theorem A8{o:Oper}{st:AS}{s d:TypeId}{x:Operand}(ho:o.op = .convert s d x){id:Nat}(f:ev st x = .ptr id 0)(hs:(ae P s).kind = .ptr)(g:(ae P d).kind = .uptr)
 {k:Blk} (h:hget st.hp id=some k) (i:1<=k.cs.length) (c:1<=(ae P (ae P s).elem).size):OpOk P o st (.ptr id 0) [id] [] st.nx :=
 up φ f h i (fun a w b arr m hv ha e=>by
  obtain⟨n,j,_,l,p⟩:=cC (P:=P) (t:=(ae P s).elem) c
  have:=Lib.run_to_unsafe (P:=P) w ⟨b,0,none⟩ (oC hs) (FH g) l (by have:1<=cx P (ae P s).elem:=c;omega) (uq ha) (show 0<arr.size by omega)
  simp only[execOp,ho,hv,hW,this,ez,lh])
theorem wR{o:Oper}{st:AS}{s d:TypeId}{x:Operand}(ho:o.op = .convert s d x){id:Nat}(i:ev st x = .ptr id 0)(hs:(ae P s).kind = .uptr)(l:(ae P d).kind = .ptr)
 {k:Blk} (m:hget st.hp id=some k) (c:1<=(ae P (ae P d).elem).size) (n:(ae P (ae P d).elem).size<=k.cs.length) (p:k.t=(ae P d).elem):OpOk P o st (.ptr id 0) [id] [] st.nx :=
 up φ i m ω (fun a w b arr u hv ha e=>by
  obtain⟨v,j,_,h,q⟩:=cC (P:=P) (t:=(ae P d).elem) c
  rw[p] at ha
  have f:P.cellsOf (ae P d).elem=cx P (ae P d).elem:=by unfold Program.cellsOf;rw[h];exact q
  have g:1<=cx P (ae P d).elem:=c
  have r:cx P (ae P d).elem<=arr.size:=z' n e
  have:=Lib.run_from_unsafe (P:=P) w ⟨b,0,none⟩ (FH hs) (oC l) h (uq ha) (A7 (by rw[f];exact(Nat.le_div_iff_mul_le g).2 ω) (by rw[f];omega))
  simp only[execOp,ho,hv,hW,this,ez,lh])
def FK(st:AS):AV->R
 |.sl id off n _ => .pureS st (1<=n) (.ptr id off)
 |_ => .bad
theorem wS{o:Oper}{st:AS}{x:Operand}{t:TypeId}(ho:o.op = .call ⟨.builtin .unsafeSliceData,#[x],#[t]⟩){id off n s:Nat}(f:ev st x = .sl id off n s)(h:1<=n):OpOk P o st (.ptr id off) [] [] st.nx :=
 bH fun ρ F a w c=>by
  have d:=c x ψ;rw[f] at d;rcases d.slInv with⟨i,_⟩|⟨b,cap,g,hv,e,_⟩
  .omega
  .refine⟨_,?_,.ptr _ _ b g⟩;have:=Lib.run_unsafeSliceData_row (P:=P) w #[t] o.type ⟨b,off,none⟩ n cap ω;simp only[execOp,ho,resolve,invoke,builtin,hW,lh,ez,h',hX,f',hv,this]
def FL(st:AS)(et:TypeId)(es:Nat)(ek:TK):AV->AV->R
 |.ptr id off,.p (.v (.int .i64 n))=>match p' off 0,p' es 1,ek,hget st.hp id with
  |true,true,.int .u8,some b => .okS (1<=n/\n.toNat<=b.cs.length/\n<=9223372036854775807/\b.t=et/\iY (b.cs.take n.toNat)/\uh (fD (b.cs.take n.toNat))) (.p (.v (strOf (eV (fD (b.cs.take n.toNat)))))) [id] [(id,none)] st.nx
  |_,_,_,_ => .bad
 |_,_ => .bad
theorem Oc{o:Oper}{st:AS}{x y:Operand}{pt it:TypeId}(ho:o.op = .call ⟨.builtin .unsafeString,#[x,y],#[pt,it]⟩)(M:(ae P pt).kind = .ptr){id:Nat}(B:ev st x = .ptr id 0){n:Int}(hy:ev st y = .p (.v (.int .i64 n)))
 (C:(ae P (ae P pt).elem).size=1) {k:Blk} (V:hget st.hp id=some k) (h1:1<=n) (hn:n.toNat<=k.cs.length) (h63:n<=9223372036854775807) (ht:k.t=(ae P pt).elem) (hp:iY (k.cs.take n.toNat)) (hb:uh (fD (k.cs.take n.toNat))) :
 OpOk P o st (.p (.v (strOf (eV (fD (k.cs.take n.toNat)))))) [id] [(id,none)] st.nx where
 tri ρ F a w hpre hin K Q hK:=by
  have W:=hin x ψ;have D:=hin y ψ;rw[B] at W;rw[hy] at D;obtain⟨b,l,hv⟩:=W.ptrInv;have N:restr [id] (hget st.hp) id=some k:=by simp[restr,V]
  rcases hpre.hp.ok id k N with⟨_,h0⟩|⟨b2,hb2,E⟩
  .rw[h0] at l;cases l
  rw[l] at hb2;cases hb2;obtain⟨arr,fr,ha,hfr,X,hc⟩:=E.is (.inl ω);have hblt:b<w.heap.size:=(S'.1 ha).1;have G:1<=cx P (ae P pt).elem:=by have:cx P (ae P pt).elem=1:=C;omega
  obtain⟨dd,j,_,hj,hz⟩:=cC (P:=P) (t:=(ae P pt).elem) G;have q:P.cellsOf (ae P pt).elem=1:=by unfold Program.cellsOf;rw[hj];exact hz.trans C
  have r:(eV (fD (k.cs.take n.toNat))).length=n.toNat:=by simp[eV,fD];omega
  have O:((eV (fD (k.cs.take n.toNat))).length:Int)=n:=by rw[r];omega
  rw[ht] at ha
  have s:=Lib.run_unsafeString_row (P:=P) w pt it o.type (ae P pt).elem (oC M) q b arr.size (uq ha) (eV (fD (k.cs.take n.toNat))) (fun e=>by rw[e] at r;simp at r;omega) ω ω (fun j x B=>by
   rw[dJ,x']
   have R:j<n.toNat:=by rw[<-r];exact(hP.1 B).1
   have u:j<(k.cs.take n.toNat).length:=ζ
   have f:(k.cs.take n.toNat)[j]?=some (k.cs.take n.toNat)[j]:=n0 u
   have S:k.cs[j]?=some (k.cs.take n.toNat)[j]:=by rw[<-f,l0,b9 R]
   have H:=(hc _ _ S).2
   have z:=hp _ (ix u)
   have T:=hb (unP (k.cs.take n.toNat)[j]) (by unfold fD;exact o4.2 ⟨_,ix u,rfl⟩)
   have e1:(k.cs.take n.toNat)[j] = .p (unP (k.cs.take n.toNat)[j]):=by
    revert z
    cases(k.cs.take n.toNat)[j]<;>intro z<;>first|rfl|exact z.elim
   have e2:unB (unP (k.cs.take n.toNat)[j])=x:=by
    simp only[eV,fD,c',f,X',Y'.injEq] at B
    exact B
   rw[e1,za T,e2] at H
   have I:=H.pv
   have:=jT ha (i:=j) ω
   rw[this,I])
  rw[O] at s;have d:¬(eV (fD (k.cs.take n.toNat))).length=0:=ω;have U:(execOp a.eval o).run P w = .ok (.value (strOf (eV (fD (k.cs.take n.toNat))))) (w.freeze ⟨b,0,none⟩ (eV (fD (k.cs.take n.toNat))).length):=by
   simp only[execOp,ho,resolve,invoke,builtin,hW,lh,ez,h',hX,f',hv,D.pv,s,strOf]
  generalize(eV (fD (k.cs.take n.toNat))).length=m at *;obtain⟨fq,hnew⟩:∃fq,(w.freeze ⟨b,0,none⟩ m).heap[b]?=some (.cells arr (ae P pt).elem fq):=by
   unfold World.freeze;rw[b0 d];obtain⟨lo,A⟩:=fr;simp[W',ha]
  have hold:∀c,c≠b->(w.freeze ⟨b,0,none⟩ m).heap[c]?=w.heap[c]?:=fun c hc=>by
   unfold World.freeze;rw[b0 d];exact aiO
  have L:(w.freeze ⟨b,0,none⟩ m).heap.size=w.heap.size:=by
   unfold World.freeze;rw[b0 d];simp
  unfold Oper.wp;rw[U];refine hK _ ρ F _ ⟨fun _ _ h=>h,fun i h1 h2=>s5 h1 h2,fun i b h1 h2=>(by rw[h1] at h2;cases h2),.ofV rfl,⟨fun i k' h=>?_,fun i j b' h=>?_⟩,?_,?_⟩
  .exact ahn
  .exact ahn
  .intro c g;rw[L];exact hpre.fok c g
  .refine⟨?_,?_,?_,by rw[L];exact c7 _,fun c _ hO=>hold c (fun e=>hO ⟨id,ξ,by rw[e];exact l⟩),⟨fun c m hcm=>?_,fun c hcm=>?_⟩,fun c g=>g,fun c g => .inl g⟩
   .unfold World.freeze;rw[b0 d]
   .unfold World.freeze;rw[b0 d]
   .unfold World.freeze;rw[b0 d]
   .exact ag5
   .exact ahD
 le:=c7 _
 keysOk i A:=by simp[keys] at A;exact .inl (by simp[A])
 live i A:=by simp at A;subst A;rw[V];simp
def Od(st:AS)(ti:TI):AV->R
 |.p (.v (.slice _ _ c))=>match ti.kind with | .slice => .pure st (.i c)|_ => .bad
 |_ => .bad
theorem Rr{o:Oper}{st:AS}{t:TypeId}{x:Operand}(ho:o.op = .call ⟨.builtin .cap,#[x],#[t]⟩)(e:(ae P t).kind = .slice){A:Option Addr}{n c:Nat}(f:ev st x = .p (.v (.slice A n c))) :
 OpOk P o st (.i c) [] [] st.nx :=
 bH fun ρ F a w b=>by
  have d:=b x ψ;rw[f] at d;refine⟨.int .i64 c,?_,.ofV rfl⟩;simp[execOp,ho,resolve,invoke,builtin,d.pv,Builtin.cap_,qs (cQ e),goInt]
theorem A9{o:Oper}{st:AS}{t:TypeId}{x:Operand}{k g:Option Operand}(ho:o.op = .slice t x k g none)(q:ev st x = .p (.v (.slice none 0 0)))(r:(ae P t).kind = .slice)(c:1<=(ae P (ae P t).elem).size)
 {l h:Int} (s:DI st k g none 0 l h) (u:0<=l) (h1:l<=h) (h2:h<=0):OpOk P o st (.p (.v (.slice none 0 0))) [] [] st.nx :=
 bH fun ρ F a w e=>by
  obtain⟨j,f⟩:=kr ho;have n:=e x j;rw[q] at n;obtain⟨m,z,A,b⟩:=me (P:=P) (len:=0) (cap:=0) s (fun y B=>e y (f y B)) u h1 h2 (c7 _) true;simp only[Z'] at b;have C:m=0:=ω;have D:l.toNat=0:=ω;have E:h.toNat=0:=ω;obtain⟨d,i,G,g,H⟩:=cC (P:=P) (t:=(ae P t).elem) c;refine⟨_,?_,.ofV rfl⟩;simp[execOp,ho,n.pv,Instr.sliceAt,qs (cQ r),Instr.slice,b,C,D,E,sizeOf,typeInfo,g]
def xv(st:AS)(ti ei:TI)(dst:AV):AV->R
 |.p (.v (.int _ m))=>match ti.kind,ei.zero,u' 1 ei.size with
  |.slice,some z,true=>match p' z.length ei.size,dst with
   |true,.p (.v (.slice none 0 0)) => .okS (0<=m/\m*(ei.bytes:Int)<=140737488355328/\m<=9223372036854775807) (.sl st.nx 0 m.toNat ei.size) [] [(st.nx,some ⟨ti.elem,[]⟩)] (st.nx+1)
   |_,_ => .bad
  |_,_,_ => .bad
 |_ => .bad
theorem Ba{t d ty e:TypeId}{i:TypeInfo}{z:Value}{o k:IntKind}(l:P.underlying t=some (.slice e))(a:P.underlying d=some (.int o))(n:P.info? e=some i)(p:i.zero=some z)(q:1<=i.size){m:Nat}{w:World}
 (r:m<=9223372036854775807) (s:m*i.bytes<=140737488355328) :
 (0<m->(ah #[t,d] ty #[.slice none 0 0,.int k m]).run P w =
  .ok (.slice (some ⟨w.heap.size,0,none⟩) m (grownCap w m 0 e)) (w.drew.alloc (.cells (ap z.cells m++ap z.cells (grownCap w m 0 e-m)) e))) /\
 (m=0->(ah #[t,d] ty #[.slice none 0 0,.int k m]).run P w = .ok (.slice none 0 0) w):=by
 have u:IntKind.i64.wrap (m:Int)=m:=by rw[IntKind.wrap_i64];omega
 refine⟨fun hg=>?_,fun v=>?_⟩
 .have x:¬(m<=0):=ω;have y:¬((m:Int)<0):=ω;have b:¬(9223372036854775807<(m:Int)):=ω;have A:=growslice_fits (need:=m) (old:=0) (bytes:=i.bytes) hg s;have c:¬(281474976710656<a1 m 0*i.bytes):=ω;have f:¬(281474976710656<(m:Int)*(i.bytes:Int)):=by
   omega
  have g:¬m=0:=ω;have h:¬(m*i.size=0):=by have:=Nat.mul_le_mul hg q;omega
  simp[ah,qs l,qs a,sizeOf,typeInfo,zeroValue,n,p,asInt,asIntOf,u,y,b,f,c,Question.forced,newRow,grownCap,h,g,al]
 .subst v;have j:IntKind.i64.wrap (0:Int)=0:=by rw[IntKind.wrap_i64];decide
  simp[ah,qs l,qs a,sizeOf,typeInfo,n,asInt,asIntOf,j]
theorem DT{o:Oper}{st:AS}{t I:TypeId}{x y:Operand}(ho:o.op = .call ⟨.builtin .append,#[x,y],#[t,I]⟩){kt:IntKind}(L:(ae P I).kind = .int kt){s:Prop}{v:AV}{T:List Nat}{u:List (Nat×Option Blk)}{nx:Nat}
 (h:xv st (ae P t) (ae P (ae P t).elem) (ev st x) (ev st y) = .okS s v T u nx) (hs:s):OpOk P o st v T u nx:=by
 unfold xv at h;split at h
 .rename_i X m hy;split at h
  .rename_i hk M B;rename_i z;have e:=cV B;obtain⟨i,N,l,O,rfl⟩:=ku M;obtain⟨d,i',hd,C,hz⟩:=cC (P:=P) (t:=(ae P t).elem) e;rw[l] at C;cases C;have n:(ae P (ae P t).elem).size=i.size:=by rw[gv,hz]
   have S:(ae P (ae P t).elem).bytes=i.bytes:=by show((P.info? (ae P t).elem).map (·.bytes)).getD 0=i.bytes;rw[l];rfl
   have ht:=cQ hk;split at h
   .rename_i U hx;simp only[R.okS.injEq] at h;obtain⟨rfl,rfl,rfl,rfl,rfl⟩:=h;obtain⟨h0,hb,h63⟩:=hs;rw[S] at hb;obtain⟨m,rfl⟩:=i0 h0;refine⟨?_,v' _,fun j hj=>?_,fun j hj=>by simp at hj⟩
    .intro ρ F a w f D K Q hK;have E:=D x ψ;have G:=D y ψ;rw[hx] at E;rw[hy] at G;have hid:=f.fresh st.nx ξ η;have V:m*i.bytes<=140737488355328:=by
      have:((m*i.bytes:Nat):Int)<=140737488355328:=by rw[Int.natCast_mul];exact hb
      omega
     obtain⟨p,q⟩:=Ba (P:=P) (ty:=o.type) (k:=X) (m:=m) (w:=w) ht (oD L) l O (by rw[<-n];exact e) ω V;unfold Oper.wp;have g:∀r,(ah #[t,I] o.type #[.slice none 0 0,.int X m]).run P w=r->(execOp a.eval o).run P w=r.andThen fun v w => .ok (.value v) w:=by
      intro r hr;simp only[execOp,ho,resolve,invoke,builtin,hW,lh,ez,h',hX,f',E.pv,G.pv,hr]
     by_cases hm:m=0
     .rw[g _ (q hm)];subst hm;refine hK _ ρ F w ⟨fun _ _ h=>h,fun i h1 h2=>s5 h1 h2,fun i b h1 h2=>(by rw[h1] at h2;cases h2),.slz _ _ _ _,⟨fun i k hk=>?_,fun i j b l hj h1 h2=>?_⟩,f.fok,Chg.refl _ _ _⟩
      .obtain⟨l,hk⟩:=aY hk;have:i=st.nx:=by simpa[keys] using l
       subst this;exact ais
      .obtain⟨k,hk⟩:=em.1 l;obtain⟨l,hk⟩:=aY hk;have:i=st.nx:=by simpa[keys] using l
       subst this;rw[hid] at h1;cases h1
     .rw[g _ (p ω)]
      have A:=Post.newBlk (h:=hget st.hp) (w1:=w.drew) (t:=(ae P t).elem) (cs:=[]) f.fok hid (arr:=ap N.cells m++ap N.cells (grownCap w m 0 (ae P t).elem-m)) η (fun j c hj=>by simp at hj) rfl rfl rfl rfl (v := .sl st.nx 0 m (ae P (ae P t).elem).size) (x := .slice (some ⟨w.heap.size,0,none⟩) m (grownCap w m 0 (ae P t).elem)) (by
       have H:=grownCap_ge w m 0 (ae P t).elem
       refine .sl _ _ _ _ w.heap.size _ (by simp[eG]) H ⟨_,_,_,heap_alloc_new w.drew _,?_⟩
       have W:N.cells.size=i.size:=by rw[<-n];simpa using ef U
       simp only[Q',size_zeroCells,W,n,x',<-y']
       rw[D' H]
       exact c7 _)
      exact hK _ _ F _ A
    .exact ahV
   .cases h
  .cases h
 .cases h
end
section
open Go.Maps Go.MapKept Go.ChangeMaps
open Go.WideElems (Fit rd rg)
variable {P : Program}
def jQ(k:Int)(v:List UInt8):ai->ai
 |[]=>[(k,v)]
 |y::r=>if k<y.1 then(k,v)::y::r else y::jQ k v r
def lj(k:Int)(s:ai):ai:=s.filter fun e=>decide (e.1≠k)
def DU(k:Int)(v:List UInt8)(s:ai):ai:=jQ k v (lj k s)
def iZ(k:Int):ai->List UInt8
 |[]=>[]
 |y::r=>if y.1=k then y.2 else iZ k r
noncomputable def unT (t:TypeId):ai:=@dite _ (∃s,eF s=t) (Classical.propDecidable _) (fun h=>Classical.choose h) (fun _=>[])
theorem ur(s:ai):unT (eF s)=s:=by
 have h:∃s',eF s'=eF s:=⟨s,rfl⟩;unfold unT;rw[dif_pos h];exact Jy (Classical.choose_spec h)
def wT(e:Ent):List Ent->List Ent
 |[]=>[e]
 |y::r=>if e.1<y.1 then e::y::r else y::wT e r
def Bb(k:Int)(E:List Ent):List Ent:=E.filter fun e=>decide (e.1≠k)
theorem ut(e:Ent):∀E,eM (wT e E)=jQ e.1 e.2.1 (eM E)
 |[]=>rfl
 |y::r=>by
  have a:=ut e r
  grind [eM,wT,jQ]
theorem Bc(e:Ent):∀E,entries (wT e E)=DataW.insert (.int .i64 e.1,.held e.2.2) (entries E)
 |[]=>rfl
 |y::r=>by
  have a:=Bc e r;unfold entries at *;simp only[wT,hX,DataW.insert,Lit.before,decide_eq_true_eq]
  grind
theorem uu(k:Int)(E:List Ent):eM (Bb k E)=lj k (eM E):=by
 unfold eM Bb lj;rw[List.filter_map];rfl
theorem Be(k:Int)(E:List Ent):entries (Bb k E)=(entries E).filter (notKey (.int .i64 k)):=by
 grind [entries,Bb,List.filter_congr,notKey,Lit.sameKey]
theorem Bf{e x:Ent}:∀{E},x∈wT e E->x=e\/x∈E
 |[],h=>by simp[wT] at h;exact .inl h
 |y::r,h=>by
  simp only[wT] at h;split at h
  .simp_all
  .rcases hZ.1 h with h|h
   .simp_all
   .rcases Bf h with h|h
    .exact .inl h
    .simp_all
theorem Hl{P P':Program}{k a:TypeId}(h:P.underlying k=some (.int .i64))(b:P'.underlying a=some (.int .i64))(v:Value):keyOf P k v=keyOf P' a v:=by
 simp_all[keyOf,mapKey]
theorem JN{P P':Program}{k a:TypeId}(h:P.underlying k=some (.int .i64))(b:P'.underlying a=some (.int .i64))(x:MapEntry):rd P k RV x=rd P' a RV x:=by
 grind [WideElems.rd,Hl]
theorem Rs{P P':Program}{k a:TypeId}(h:P.underlying k=some (.int .i64))(b:P'.underlying a=some (.int .i64)):rg P k RV=rg P' a RV:=by
 grind [WideElems.rg,JN]
theorem Bg{P P':Program}{k d:TypeId}(h:P.underlying k=some (.int .i64))(i:P'.underlying d=some (.int .i64)){w:World}{b n:Nat}{D:DataW Value}(ho:w.ownsMap P k RV b n D):w.ownsMap P' d RV b n D:=by
 obtain⟨e,c,f,a,hs,j⟩:=ho;refine⟨e,c,f,⟨a.size,a.stamped,fun x g=>?_⟩,hs,?_⟩
 .obtain⟨y,l⟩:=a.reads x g
  grind [JN]
 .grind [Rs]
theorem Post.wrMap{ρ:aD}{F:aK}{w w':World}{id b:Nat}{m:ai}{h:bv}{v:AV}{x:Value}(z:oB F w)(s:¬F b)(g:ρ id=some b)(l:isMapO w b)
 (A:w'.os=w.os) (B:w'.tape=w.tape) (C:w'.output=w.output) (hs:w'.heap.size=w.heap.size) (ho:∀k,k≠b->w'.heap[k]?=w.heap[k]?) (u:MapIs F w' b m) (hv:Rd ρ F w v x) :
 Post ρ F w [id] [(id,some ⟨eF m,[]⟩)] h v x ρ F w':=by
 have f:∀k,F k->w'.heap[k]?=w.heap[k]?:=fun k d=>ho k (fun e=>s (e ▸ d))
 have a:Chg (OSet ρ (keys [(id,some (⟨eF m,[]⟩:Blk))])) F F w w':=by
  refine⟨A,B,C,ω,fun k _ o=>ho k (fun e=>o ⟨id,ξ,by rw[e];exact g⟩),⟨fun k n y=>?_,fun k d=>?_⟩,fun _ h=>h,fun _ h => .inl h⟩
  .have p:k≠b:=fun e=>l.no (n:=n) (by rw[<-e];exact y)
   obtain⟨arr,t,D,q,o⟩:=y;exact⟨arr,t,D,(ho k p).trans q,o⟩
  .by_cases e:k=b
   .rw[e];exact u.obj
   .obtain⟨E,c,q⟩:=d;exact⟨E,c,(ho k e).trans q⟩
 refine⟨fun _ _ h=>h,fun i h1 h2=>s5 h1 h2,fun i b h1 h2=>(by rw[h1] at h2;cases h2),hv.mono (fun _ _ h=>h) (fun _ h=>h) f a.cells,⟨fun i k d=>?_,fun i j c r G _ _=>?_⟩,fun k d=>q' (z k d) a.size,a⟩
 .obtain⟨r,d⟩:=aY d;simp[keys] at r;subst r;simp[updH,keys,hget] at d;subst d;exact .inr ⟨b,g,⟨s,.inr ⟨rfl,m,rfl,u⟩⟩⟩
 .simp_all[restr,keys,eF,updH]
theorem Post.newMap{ρ:aD}{F:aK}{w:World}{id:Nat}{h:bv}(m:oB F w)(n:ρ id=none) :
 Post ρ F w [] [(id,some ⟨eF [],[]⟩)] h (.mp id) (.map (some w.heap.size)) (eG ρ id w.heap.size) F (w.alloc (.map #[] 0)):=by
 have o:∀b,¬OSet ρ (keys [(id,some (⟨eF [],[]⟩:Blk))]) b:=by
  rintro b ⟨i,f,l⟩;simp_all[keys]
 have c:∀i b,ρ i=some b->eG ρ id w.heap.size i=some b:=fun i b l=>by
  grind [eG]
 have a:isMapO (w.alloc (.map #[] 0)) w.heap.size:=⟨#[],0,heap_alloc_new w _⟩;have d:MapIs F (w.alloc (.map #[] 0)) w.heap.size []:=⟨a,[],rfl,fun P k _=>World.ownsMap_made w P k RV,fun e p=>by cases p⟩
 refine⟨c,fun i h1 h2=>?_,fun i b h1 h2=>?_,.mp _ _ (by simp[eG]) a,⟨fun i k g=>?_,fun i j b f r _ _=>?_⟩,fun b l=>q' (m b l) (Chg.alloc (fun _=>False) F w (.map #[] 0)).size,Chg.alloc _ F w _⟩
 .simp_all[eG,keys]
 .simp_all[eG]
 .obtain⟨f,g⟩:=aY g;simp[keys] at f;subst f;simp[updH,keys,hget] at g;subst g;exact .inr ⟨w.heap.size,by simp[eG],⟨fun q=>s5 (m _ q) (E' _),.inr ⟨rfl,[],rfl,d⟩⟩⟩
 .simp_all[restr,keys,eF,updH]
def zf(P:Program)(t:TypeId):Bool :=
 match P.underlying t with
 |some (.map k e)=>match P.underlying k,(P.info? e).bind (·.zero) with
  |some (.int .i64),some (.slice none 0 0)=>true
  |_,_=>false
 |_=>false
def Z0(P:Program)(t:TypeId):TypeId:=match P.underlying t with|some (.map _ e)=>e|_=>0
def JO(P:Program)(t:TypeId):TypeId:=match P.underlying t with|some (.map k _)=>k|_=>0
theorem tB{t:TypeId}(h:zf P t=true):∃k e,P.underlying t=some (.map k e)/\P.underlying k=some (.int .i64)/\∀w:World,(zeroValue e).run P w = .ok (.slice none 0 0) w:=by
 unfold zf at h;split at h
 .rename_i k e b;split at h
  .rename_i c a;refine⟨k,e,b,c,fun w=>?_⟩;cases d:P.info? e with
   |none=>rw[d] at a;simp at a
   |some i =>
    simp_all[Option.bind_some,zeroValue,typeInfo]
  .cases h
 .cases h
theorem np{ρ:aD}{F:aK}{w:World}{b:Nat}{k:Blk}(h:BlkOk ρ F w b k)(d:isMapO w b):k.cs=[]/\MapIs F w b (unT k.t):=by
 rcases h.is0 with⟨arr,e,ha,_⟩|⟨h1,s,hs,a⟩
 .obtain⟨f,c,g⟩:=d;simp_all
 .simp_all[ur]
theorem Rd.mpInv{ρ:aD}{F:aK}{w:World}{id:Nat}{u:Value}(h:Rd ρ F w (.mp id) u):∃b,ρ id=some b/\u = .map (some b)/\isMapO w b:=by
 cases h with
 |mp _ b h hm=>exact⟨b,h,rfl,hm⟩
theorem DV{o:Oper}{st:AS}{t:TypeId}(ho:o.op = .makeMap t none):OpOk P o st (.mp st.nx) [] [(st.nx,some ⟨eF [],[]⟩)] (st.nx+1) where
 tri ρ F a w hpre hin K Q hK:=by
  unfold Oper.wp;have b:(execOp a.eval o).run P w = .ok (.value (.map (some w.heap.size))) (w.alloc (.map #[] 0)):=by
   simp[execOp,ho,Instr.makeMap]
  rw[b];exact hK _ _ _ _ (Post.newMap hpre.fok (hpre.fresh st.nx ξ η))
 le:=v' _
 keysOk i hi:=by simp[keys] at hi;exact .inr ω
 live i hi:=by cases hi
theorem zg{k:TypeId}(b:P.underlying k=some (.int .i64)){n:Int}(h : -9223372036854775808<=n/\n<=9223372036854775807):keyOf P k (.int .i64 n)=some (.int .i64 n):=by
 apply keyOf_int_mk b;have a:IntKind.i64.min = -9223372036854775808:=rfl;simp_all[Lit.wf]
theorem QQ:∀(cs:List PV),uh cs->cs=(eV cs).map fun x => .v (.int .u8 (x.toNat:Int))
 |[],_=>rfl
 |c::cs,h=>by
  have b:=QQ cs (fun x d=>h x (by simp[d]));have a:=h c η;unfold eV at *;simp only[hX];rw[<-b];congr 1;unfold isB at a;split at a
  .obtain⟨x,rfl⟩:=a;simp[unB]
  .exact a.elim
theorem zh{o:Oper}{st:AS}{t:TypeId}{m x y:Operand}(ho:o.op = .mapUpdate t m x y){id:Nat}(V:ev st m = .mp id){n:Int}(W:ev st x = .p (.v (.int .i64 n))){len:Nat}{cs:List PV}(X:ev st y = .p (.data 1 len cs))
 (ht:zf P t=true) {k:Blk} (S:hget st.hp id=some k) (hn : -9223372036854775808<=n/\n<=9223372036854775807) (hb:uh cs) (hl:cs.length=len) (hs:(unT k.t).length<1000000000) :
 OpOk P o st .any [id] [(id,some ⟨eF (DU n (eV cs) (unT k.t)),[]⟩)] st.nx where
 tri ρ F a w hpre hin K Q hK:=by
  have h1:=hin m φ;have h2:=hin x φ;have G:=hin y φ;rw[V] at h1;rw[W] at h2;rw[X] at G;obtain⟨b,r,hv1,l⟩:=h1.mpInv;have hv2:=h2.pv;have hr:restr [id] (hget st.hp) id=some k:=by simp[restr,S]
  rcases hpre.hp.ok id k hr with⟨_,h0⟩|⟨b2,s,g⟩
  .simp_all
  rw[r] at s;cases s;obtain⟨_,u⟩:=np g l;obtain⟨_,E,Y,z,hval⟩:=u;obtain⟨kt,et,H,j,_⟩:=tB ht;have I:E.length<maxLen:=by
   grind [unT,eM,maxLen]
  obtain⟨es,L,f,hF,M,T⟩:=z P kt j;have A:es.size<maxLen:=Nat.lt_of_le_of_lt M I;obtain⟨es',d,U,F',B,_⟩:=fit_store (R':=RV) (yv:=(.held (a.eval y),[])) (int_keyed j) H f hF A (fun _ _ _ _ hz=>hz) (zg j hn) rfl;simp only[DataW.map.injEq] at T;have q:(es'.toList.map (rg P kt RV)).foldr DataW.insert []=entries (wT (n,eV cs,a.eval y) (Bb n E)):=by
   rw[B,<-T,Bc,Be];rfl
  unfold Oper.wp;have N:(execOp a.eval o).run P w = .ok .skip (setBlock w b (.map es' d)):=by
   simp_all[execOp]
  rw[N];have C:RdP F w (.data 1 (eV cs).length ((eV cs).map fun x => .v (.int .u8 (x.toNat:Int)))) (a.eval y):=by
   cases G with
   |p _ _ G =>
    grind [QQ,eV]
  have D:(a.eval y).oneCell'=true:=G.one rfl;have hFb:∀c,F c->(setBlock w b (.map es' d)).heap[c]?=w.heap[c]?:=fun c O=>heap_setBlock_other f _ (fun e=>g.own (e ▸ O))
  refine hK undef ρ F _ (Post.wrMap hpre.fok g.own r l rfl rfl rfl (by simp[setBlock]) (fun c O=>heap_setBlock_other f _ O) ?_ (.any _));refine⟨⟨es',d,heap_setBlock_same f _⟩,wT (n,eV cs,a.eval y) (Bb n E),?_,fun P' k' R=>?_,fun e he=>?_⟩
  .rw[ut,uu,<-Y];rfl
  .refine Bg j R ⟨es',d,heap_setBlock_same f _,F',?_,by rw[q]⟩;exact ahI
  .rcases Bf he with rfl|he
   .exact⟨D,C.mono (fun _ h=>h) hFb⟩
   .exact aiA
 le:=c7 _
 keysOk i hi:=by simp[keys] at hi;exact .inl (by simp[hi])
 live i hi:=by simp at hi;subst hi;rw[S];simp
theorem zi{o:Oper}{st:AS}{t r:TypeId}{m x:Operand}(ho:o.op = .call ⟨.builtin .delete,#[m,x],#[t,r]⟩){id:Nat}(O:ev st m = .mp id){n:Int}(S:ev st x = .p (.v (.int .i64 n)))
 (T:zf P t=true) (l:P.underlying t=some (.map r (Z0 P t))) {k:Blk} (I:hget st.hp id=some k) (U : -9223372036854775808<=n/\n<=9223372036854775807) :
 OpOk P o st .any [id] [(id,some ⟨eF (lj n (unT k.t)),[]⟩)] st.nx where
 tri ρ F a w hpre hin K Q hK:=by
  have h1:=hin m ψ;have h2:=hin x ψ;rw[O] at h1;rw[S] at h2;obtain⟨b,u,V,q⟩:=h1.mpInv;have W:=h2.pv;have X:restr [id] (hget st.hp) id=some k:=by simp[restr,I]
  rcases hpre.hp.ok id k X with⟨_,h0⟩|⟨b2,y,g⟩
  .simp_all
  rw[u] at y;cases y;obtain⟨_,z⟩:=np g q;obtain⟨_,E,Y,A,hval⟩:=z;obtain⟨kt,et,B,j,_⟩:=tB T;obtain rfl:kt=r:=by rw[B] at l;injection l with h;injection h
  obtain⟨es,f,d,hF,hsz,L⟩:=A P kt j;obtain⟨es',M,F',N,C,_⟩:=fit_drop (R:=RV) (ty:=o.type) (int_keyed j) B d hF (zg j U);simp only[DataW.map.injEq] at L;have s:(es'.toList.map (rg P kt RV)).foldr DataW.insert []=entries (Bb n E):=by
   rw[C,<-L,Be];rfl
  unfold Oper.wp;have D:(execOp a.eval o).run P w = .ok (.value (.tuple #[])) (setBlock w b (.map es' f)):=by
   simp_all[execOp,resolve,invoke,builtin]
  rw[D];have hFb:∀c,F c->(setBlock w b (.map es' f)).heap[c]?=w.heap[c]?:=fun c G=>heap_setBlock_other d _ (fun e=>g.own (e ▸ G))
  refine hK _ ρ F _ (Post.wrMap hpre.fok g.own u q rfl rfl rfl (by simp[setBlock]) (fun c G=>heap_setBlock_other d _ G) ?_ (.any _));refine⟨⟨es',f,heap_setBlock_same d _⟩,Bb n E,?_,fun P' k' H=>?_,fun e he=>?_⟩
  .grind [uu]
  .refine Bg j H ⟨es',f,heap_setBlock_same d _,F',?_,by rw[s]⟩;exact ahI
  .exact aiA
 le:=c7 _
 keysOk i hi:=by simp[keys] at hi;exact .inl (by simp[hi])
 live i hi:=by simp at hi;subst hi;rw[I];simp
theorem xw(n:Int)(z:DataW Value):∀E:List Ent,(DataW.map (entries E)).atKey (.int .i64 n) z=z/\iZ n (eM E)=[]/\(∀e,e∈E->e.1≠n)\/∃e,e∈E/\(DataW.map (entries E)).atKey (.int .i64 n) z = .held e.2.2/\iZ n (eM E)=e.2.1
 |[] => .inl ⟨rfl,rfl,fun e a=>by cases a⟩
 |y::r=>by
  by_cases h:y.1=n
  .simp_all[DataW.atKey,entries,Lit.sameKey,eM,iZ]
  .have b:(DataW.map (entries (y::r))).atKey (.int .i64 n) z=(DataW.map (entries r)).atKey (.int .i64 n) z:=by
    grind [DataW.atKey,entries,Lit.sameKey]
   have c:iZ n (eM (y::r))=iZ n (eM r):=by simp[eM,iZ,h]
   rw[b,c];rcases xw n z r with⟨h1,h2,d⟩|⟨e,a,h1,h2⟩
   .grind
   .grind
theorem zj{o:Oper}{st:AS}{t:TypeId}{m x:Operand}(ho:o.op = .lookup t m x false){id:Nat}(G:ev st m = .mp id){n:Int}(H:ev st x = .p (.v (.int .i64 n)))
 (I:zf P t=true) {k:Blk} (C:hget st.hp id=some k) (L : -9223372036854775808<=n/\n<=9223372036854775807) :
 OpOk P o st (.p (.data 1 (iZ n (unT k.t)).length ((iZ n (unT k.t)).map bt))) [id] [] st.nx where
 tri ρ F a w hpre hin K Q hK:=by
  have h1:=hin m φ;have h2:=hin x φ;rw[G] at h1;rw[H] at h2;obtain⟨b,s,M,f⟩:=h1.mpInv;have N:=h2.pv;have O:restr [id] (hget st.hp) id=some k:=by simp[restr,C]
  rcases hpre.hp.ok id k O with⟨_,U⟩|⟨V,g,j⟩
  .simp_all
  rw[s] at g;cases g;obtain⟨_,l⟩:=np j f;obtain⟨_,E,Y,q,r⟩:=l;obtain⟨R,W,u,d,S⟩:=tB I;obtain⟨v,ps,D,c⟩:=(q P R d).lookup (int_keyed d) u (S w) (zd := .held (.slice none 0 0)) (zp:=[]) rfl (zg d L);simp only[RV,Y'.injEq,Prod.mk.injEq] at c;have y:RdP F w (.data 1 (iZ n (unT k.t)).length ((iZ n (unT k.t)).map bt)) v:=by
   rw[Y];rcases xw n (.held (.slice none 0 0)) E with⟨z,A,_⟩|⟨e,T,z,A⟩
   .rw[z] at c;obtain⟨c,_⟩:=c;cases c;rw[A];exact .nil _ _ _
   .rw[z] at c;obtain⟨c,_⟩:=c;cases c;rw[A];exact(r e T).2
  unfold Oper.wp;have B:(execOp a.eval o).run P w = .ok (.value v) w:=by
   simp_all[execOp]
  rw[B];refine hK _ ρ F w ⟨fun _ _ h=>h,fun i h1 h2=>s5 h1 h2,fun i b h1 h2=>(by rw[h1] at h2;cases h2),.p _ _ y,?_,hpre.fok,Chg.refl _ _ _⟩;exact af5
 le:=c7 _
 keysOk i hi:=by simp[keys] at hi
 live i hi:=by simp at hi;subst hi;rw[C];simp
noncomputable def FM (st:AS) (mk:Bool):AV->AV->AV->R
 |.mp id,.p (.v (.int .i64 n)),.p (.data 1 len cs)=>match mk,hget st.hp id with
  |true,some b => .okS ((-9223372036854775808<=n/\n<=9223372036854775807)/\uh cs/\cs.length=len/\(unT b.t).length<1000000000) .any [id] [(id,some ⟨eF (DU n (eV cs) (unT b.t)),[]⟩)] st.nx
  |_,_ => .bad
 |_,_,_ => .bad
noncomputable def FN (st:AS) (mk same:Bool):AV->AV->R
 |.mp id,.p (.v (.int .i64 n))=>match mk,same,hget st.hp id with
  |true,true,some b => .okS (-9223372036854775808<=n/\n<=9223372036854775807) .any [id] [(id,some ⟨eF (lj n (unT b.t)),[]⟩)] st.nx
  |_,_,_ => .bad
 |_,_ => .bad
noncomputable def zk (st:AS) (mk:Bool):AV->AV->R
 |.mp id,.p (.v (.int .i64 n))=>match mk,hget st.hp id with
  |true,some b => .okS (-9223372036854775808<=n/\n<=9223372036854775807) (.p (.data 1 (iZ n (unT b.t)).length ((iZ n (unT b.t)).map bt))) [id] [] st.nx
  |_,_ => .bad
 |_,_ => .bad
end
section
variable {P : Program}
def TK.isNone:TK->Bool
 |.none=>true
 |_=>false
def TK.isIface:TK->Bool
 |.iface=>true
 |_=>false
def isK:Operand->Bool
 |.const _=>true
 |_=>false
def Bh(st:AS)(same isC:Bool)(et:TypeId)(ss ds:Nat)(sk dk se de:TK):AV->R
 |.p (.v (.int _ n))=>match dk,sk.isNone with
  |.int k,false => .pure st (.p (.v (.int k (k.wrap n))))
  |_,_ => .bad
 |.p (.v (.string s))=>match dk,sk,de,isC with
  |.slice,.str,.int .u8,true => .pure st (.p (.data 1 s.size (s.data.toList.map bt)))
  |.slice,.str,.int .u8,false => .ok (.sl st.nx 0 s.size 1) [] [(st.nx,some ⟨et,(s.data.toList.map bt).map .p⟩)] (st.nx+1)
  |_,_,_,_ => .bad
 |.p (.data s n cs)=>match dk,sk,se,p' s 1 with
  |.str,.slice,.int .u8,true => .pureS st (uh cs) (.p (.v (strOf (eV cs))))
  |_,_,_,_ => .bad
 |.sl id off n s=>match dk,sk,se,p' s 1,hget st.hp id with
  |.str,.slice,.int .u8,true,some b => .okS (off+n<=b.cs.length/\iY ((b.cs.drop off).take n)/\uh (fD ((b.cs.drop off).take n))) (.p (.v (strOf (eV (fD ((b.cs.drop off).take n)))))) [id] [] st.nx
  |.slice,.slice,.int .u8,true,some b=>match same with
   |true => .okS (off+n<=b.cs.length/\n≠0/\iY ((b.cs.drop off).take n)) (.p (.data 1 n (fD ((b.cs.drop off).take n)))) [id] [(id,none)] st.nx
   |false => .bad
  |_,_,_,_,_ => .bad
 |.ptr id off=>match sk,dk,p' off 0,hget st.hp id with
  |.ptr,.uptr,true,some b => .okS (1<=b.cs.length/\1<=ss) (.ptr id 0) [id] [] st.nx
  |.uptr,.ptr,true,some b => .okS (1<=ds/\ds<=b.cs.length/\b.t=et) (.ptr id 0) [id] [] st.nx
  |_,_,_,_ => .bad
 |_ => .bad
def xx:Option AV->Option Int
 |none=>some 0
 |some (.p (.v (.int _ n)))=>some n
 |some _=>none
def xy(top:Int):Option AV->Option Int
 |none=>some top
 |some (.p (.v (.int _ n)))=>some n
 |some _=>none
def sB(h:Option AV):Option AV->Option (Option Int)
 |none=>some none
 |some (.p (.v (.int _ n)))=>match h with
  |some _=>some (some n)
  |none=>none
 |some _=>none
def Hm(h:Int):Option Int->Prop
 |none=>True
 |some m=>m=h
def JP(n:Nat):AV->Int
 |.p (.v (.string s))=>s.size
 |.p (.data _ n _)=>n
 |.sl _ _ n _=>n
 |.ptr _ _=>n
 |_=>0
def uv(st:AS)(k:TK)(len es:Nat)(x:AV)(l h:Option Int)(m:Option (Option Int)):R :=
 match x,l,h,m with
 |.p (.v (.string s)),some l,some h,some none=>match k with
  |.str => .pureS st (0<=l/\l<=h/\h<=s.size) (.p (.v (.string (s.extract l.toNat h.toNat))))
  |_ => .bad
 |.p (.v (.slice none 0 0)),some l,some h,some none=>match k,u' 1 es with
  |.slice,true => .pureS st (0<=l/\l<=h/\h<=0) (.p (.v (.slice none 0 0)))
  |_,_ => .bad
 |.p (.data s n cs),some l,some h,some m=>match k,p' s es,u' 1 es with
  |.slice,true,true => .pureS st (0<=l/\l<=h/\h<=n/\Hm h m) (.p (.data s (h.toNat-l.toNat) ((cs.drop (l.toNat*s)).take ((h.toNat-l.toNat)*s))))
  |_,_,_ => .bad
 |.sl id off n s,some l,some h,some m=>match k,p' s es,u' 1 es with
  |.slice,true,true => .pureS st (0<=l/\l<=h/\h<=n/\Hm h m) (.sl id (off+l.toNat*s) (h.toNat-l.toNat) s)
  |_,_,_ => .bad
 |.ptr id off,some l,some h,some m=>match k,u' 1 es,u' 1 len,hget st.hp id with
  |.array,true,true,some b => .okS (0<=l/\l<=h/\h<=len/\Hm h m/\off+len*es<=b.cs.length) (.sl id (off+l.toNat*es) (h.toNat-l.toNat) es) [id] [] st.nx
  |_,_,_,_ => .bad
 |_,_,_,_ => .bad
def Oe(st:AS):AV->R
 |.ptr id off => .pure st (.ptr id off)
 |.cp cs => .pure st (.cp cs)
 |.fn (.func f) a b => .pure st (.fn (.func f) a b)
 |.p (.v (.func (.func f) a b)) => .pure st (.p (.v (.func (.func f) a b)))
 |_ => .bad
def zl(st:AS)(t:TypeId)(k:TK)(x:AV):R :=
 match k.isIface,k.isNone with
 |false,false => .pure st (.iface t x)
 |_,_ => .bad
def Bi(P:Program)(t:TypeId)(name:String):Option FuncId :=
 match P.info? t,P.underlying t with
 |some i,some d=>match i.methods.find? (·.name==name) with
  |some m=>match m.path.toList,m.func,fx (some d) with
   |[],some (f,true),.ptr=>some f
   |[],some (_,false),.ptr=>none
   |[],some (f,false),_=>some f
   |_,_,_=>none
  |none=>none
 |_,_=>none
def uw(args:List AV):AV->R
 |.p (.v (.func (.func f) a b))=>match p' a.size 0,p' b.size 0 with
  |true,true => .call f args
  |_,_ => .bad
 |.fn (.func f) a b => .call f (a++args++b)
 |_ => .bad
def unI:PV->AV
 |.agg cs => .agg (cs.map .p)
 |.v x => .p (.v x)
 |.data s n cs => .p (.data s n cs)
 |.iface t x => .p (.iface t x)
def Bj(args:List AV)(x:AV):Option FuncId->R
 |some f => .call f (x::args)
 |none => .bad
def tC(P:Program)(args:List AV)(name:String):AV->R
 |.iface t x=>Bj args x (Bi P t name)
 |.p (.iface t x)=>Bj args (unI x) (Bi P t name)
 |_ => .bad
theorem Rt{ρ:aD}{F:aK}{w:World}{x:PV}{u:Value}(h:RdP F w x u):Rd ρ F w (unI x) u:=by
 cases h with
 |agg cs us hl hr =>
  refine .agg _ us (by simpa using hl) (fun j c a=>?_);simp only[c',nL] at a;obtain⟨y,d,rfl⟩:=a;exact .p _ _ (hr j y d)
 |v _ h1=>exact .p _ _ (.v _ h1)
 |nil s A cap=>exact .p _ _ (.nil s A cap)
 |data s n cs b off cap f hl hcap hF hc h1 hr=>exact .p _ _ (.data s n cs b off cap f hl hcap hF hc h1 hr)
 |iface t x u h=>exact .p _ _ (.iface t x u h)
noncomputable def Bk (P:Program) (st:AS):Builtin->List Operand->List TypeId->R
 |.len,[x],[t]=>N3 st (ae P t) (ev st x)
 |.max,[x,y],_=>FB st (ev st x) (ev st y)
 |.min,[x,y],_=>FC st (ev st x) (ev st y)
 |.append,[x,y],[t,t']=>match p' t t' with
  |true=>gG st (ae P t) (ae P (ae P t).elem) (ev st x) (ml st (ae P (ae P t).elem).size (ev st y))
  |false=>match(ae P t').kind with
   |.int _=>xv st (ae P t) (ae P (ae P t).elem) (ev st x) (ev st y)
   |.str=>gG st (ae P t) (ae P (ae P t).elem) (ev st x) (ml st (ae P (ae P t).elem).size (ev st y))
   |_ => .bad
 |.cap,[x],[t]=>Od st (ae P t) (ev st x)
 |.copy,[x,y],[t,_]=>un st (ae P t) (ae P (ae P t).elem) (ev st x) (ml st (ae P (ae P t).elem).size (ev st y))
 |.delete,[x,y],[t,t']=>FN st (zf P t) (p' (JO P t) t') (ev st x) (ev st y)
 |.unsafeSliceData,[x],[_]=>FK st (ev st x)
 |.unsafeString,[x,y],[pt,_]=>match(ae P pt).kind with
  |.ptr=>FL st (ae P pt).elem (ae P (ae P pt).elem).size (ae P (ae P pt).elem).kind (ev st x) (ev st y)
  |_ => .bad
 |_,_,_ => .bad
noncomputable def ux (P:Program) (st:AS) (args:List Operand) (tys:List TypeId):Callee->R
 |.builtin b=>Bk P st b args tys
 |.value f=>uw (evs st args) (ev st f)
 |.invoke r m=>tC P (evs st args) m (ev st r)
noncomputable def aop (P:Program) (o:Op) (st:AS):R :=
 match o with
 |.move x => .pure st (ev st x)
 |.assign x => .pure st (ev st x)
 |.pick c a b=>Fy st (ev st c) (ev st a) (ev st b)
 |.alloc t=>yX st t (ae P t).zero
 |.box t x=>N1 st t (ev st x)
 |.build t parts=>oE st (ae P t) (ae P (ae P t).elem).size (evp st parts.toList)
 |.buildSlice t len parts=>g7 st (ae P t) (ae P (ae P t).elem) len (evp st parts.toList)
 |.load t x=>xm st (ae P t) (ev st x)
 |.store t x y=>ue st (ae P t) (ev st x) (ev st y)
 |.nilCheck x=>Oe st (ev st x)
 |.binOp op t x y _=>JB st op (ae P t).kind (eqT P t) (ae P t).flds (ev st x) (ev st y)
 |.unOp op _ x=>unR st op (ev st x)
 |.convert s d x=>Bh st (p' s d) (isK x) (ae P d).elem (ae P (ae P s).elem).size (ae P (ae P d).elem).size (ae P s).kind (ae P d).kind (ae P (ae P s).elem).kind (ae P (ae P d).elem).kind (ev st x)
 |.makeInterface t x=>zl st t (ae P t).kind (ev st x)
 |.makeFunc f xs ys => .pure st (.fn f (evs st xs.toList) (evs st ys.toList))
 |.makeSlice t x y=>ul st (ae P t) (ae P (ae P t).elem) (ev st x) (ev st y)
 |.slice t x lo hi mx=>uv st (ae P t).kind (ae P t).len (ae P (ae P t).elem).size (ev st x) (xx (lo.map (ev st))) (xy (JP (ae P t).len (ev st x)) (hi.map (ev st))) (sB (hi.map (ev st)) (mx.map (ev st)))
 |.fieldAddr t x f=>uf st (ev st x) (ae P t).flds[f]?
 |.field t x f=>ug st (ev st x) (ae P t).flds[f]?
 |.indexAddr t x y=>ui st (ae P t) (ae P (ae P t).elem).size (ev st x) (ev st y)
 |.index t x y=>AT st (ae P t) (ae P (ae P t).elem).size (ae P (ae P t).elem).kind (ev st x) (ev st y)
 |.extract x i=>pC st i (ev st x)
 |.call c=>ux P st c.args.toList c.argTypes.toList c.callee
 |.makeMap _ none => .ok (.mp st.nx) [] [(st.nx,some ⟨eF [],[]⟩)] (st.nx+1)
 |.mapUpdate t m x y=>FM st (zf P t) (ev st m) (ev st x) (ev st y)
 |.lookup t m x false=>zk st (zf P t) (ev st m) (ev st x)
 |_ => .bad
def AopOk(P:Program)(o:Oper)(st:AS)(r:R):Prop :=
 (∀v T u nx,r = .ok v T u nx->OpOk P o st v T u nx)/\(∀s v T u nx,r = .okS s v T u nx->s->OpOk P o st v T u nx)
theorem AopOk.bad{o:Oper}{st:AS}:AopOk P o st .bad:=⟨fun _ _ _ _ h=>(by cases h),fun _ _ _ _ _ h=>by cases h⟩
theorem AopOk.call{o:Oper}{st:AS}{f:FuncId}{vs:List AV}:AopOk P o st (.call f vs):=⟨fun _ _ _ _ h=>(by cases h),fun _ _ _ _ _ h=>by cases h⟩
theorem AopOk.pure{o:Oper}{st:AS}{v:AV}(h:OpOk P o st v [] [] st.nx):AopOk P o st (.pure st v) :=
 ⟨fun _ _ _ _ e=>by simp only[R.pure,R.ok.injEq] at e;obtain⟨rfl,rfl,rfl,rfl⟩:=e;exact h,fun _ _ _ _ _ e=>by cases e⟩
theorem AopOk.ok{o:Oper}{st:AS}{v:AV}{T:List Nat}{u:List (Nat×Option Blk)}{nx:Nat}(h:OpOk P o st v T u nx):AopOk P o st (.ok v T u nx) :=
 ⟨fun _ _ _ _ e=>by simp only[R.ok.injEq] at e;obtain⟨rfl,rfl,rfl,rfl⟩:=e;exact h,fun _ _ _ _ _ e=>by cases e⟩
theorem AopOk.okS{o:Oper}{st:AS}{s:Prop}{v:AV}{T:List Nat}{u:List (Nat×Option Blk)}{nx:Nat}(h:s->OpOk P o st v T u nx):AopOk P o st (.okS s v T u nx) :=
 ⟨fun _ _ _ _ e=>(by cases e),fun _ _ _ _ _ e hs=>by simp only[R.okS.injEq] at e;obtain⟨rfl,rfl,rfl,rfl,rfl⟩:=e;exact h hs⟩
theorem AopOk.pureS{o:Oper}{st:AS}{s:Prop}{v:AV}(h:s->OpOk P o st v [] [] st.nx):AopOk P o st (.pureS st s v):=AopOk.okS h
theorem pF{st:AS}{e b c:Option Operand}{a:Int}{l h:Int}{m:Option Int}(h1:xx (e.map (ev st))=some l)(h2:xy a (b.map (ev st))=some h)(d:sB (b.map (ev st)) (c.map (ev st))=some m)(f:Hm h m) :
 DI st e b c a l h:=by
 refine⟨?_,?_,?_⟩
 .cases e with
  |none=>simp[xx] at h1;exact .inl ⟨rfl,h1.symm⟩
  |some x =>
   simp only[X'] at h1;unfold xx at h1
   grind
 .cases b with
  |none =>
   simp[xy] at h2;refine .inl ⟨rfl,h2.symm,?_⟩;cases c with
   |none=>rfl
   |some x =>
    simp only[Z',X'] at d;unfold sB at d
    grind
  |some x =>
   simp only[X'] at h2;unfold xy at h2
   grind
 .cases c with
  |none=>exact .inl rfl
  |some x =>
   simp only[X'] at d;unfold sB at d
   grind [Hm]
theorem Bl{o:Oper}{st:AS}{t:TypeId}{x:Operand}{f g:Option Operand}(ho:o.op = .slice t x f g none){s:ByteArray}(j:ev st x = .p (.v (.string s)))(k:(ae P t).kind = .str)
 {l h:Int} (n:DI st f g none s.size l h) (q:0<=l) (h1:l<=h) (h2:h<=s.size):OpOk P o st (.p (.v (.string (s.extract l.toNat h.toNat)))) [] [] st.nx :=
 bH fun ρ F a w c=>by
  obtain⟨e,d⟩:=kr ho;have i:=c x e;rw[j] at i;obtain⟨m,r,u,b⟩:=me (P:=P) n (fun y z=>c y (d y z)) q h1 h2 (c7 _) false;simp only[Z'] at b;refine⟨_,?_,.ofV rfl⟩;simp[execOp,ho,i.pv,Instr.sliceAt,qs (mg k),Instr.slice,b]
theorem Hn{o:Oper}{st:AS}{t:TypeId}{a:Array (Nat×Operand)}(ho:o.op = .build t a):AopOk P o st (oE st (ae P t) (ae P (ae P t).elem).size (evp st a.toList)):=by
 refine⟨fun v T u nx h=>JK ho h,fun s v T u nx h=>?_⟩;unfold oE at h
 repeat' split at h
 all_goals cases h
theorem zm{o:Oper}{st:AS}{t:TypeId}{len:Nat}{a:Array (Nat×Operand)}(ho:o.op = .buildSlice t len a):AopOk P o st (g7 st (ae P t) (ae P (ae P t).elem) len (evp st a.toList)):=by
 refine⟨fun v T u nx h=>A5 ho h,fun s v T u nx h=>?_⟩
 grind [g7]
theorem JQ{o:Oper}{st:AS}{t:TypeId}{x y:Operand}(ho:o.op = .makeSlice t x y):AopOk P o st (ul st (ae P t) (ae P (ae P t).elem) (ev st x) (ev st y)):=by
 refine⟨fun v T u nx h=>?_,fun s v T u nx h hs=>N9 ho h hs⟩;unfold ul at h
 repeat' split at h
 all_goals cases h
theorem Bm{st:AS}{a b:TI}{x:AV}{s:Src}(h:a.kind ≠ .slice):gG st a b x s = .bad:=by
 unfold gG
 grind
theorem uy{o:Oper}{st:AS}{t c:TypeId}{x y:Operand}(ho:o.op = .call ⟨.builtin .append,#[x,y],#[t,c]⟩){d:TypeDesc}(a:P.underlying c=some d)(b:∀k,d ≠ .int k) :
 AopOk P o st (gG st (ae P t) (ae P (ae P t).elem) (ev st x) (ml st (ae P (ae P t).elem).size (ev st y))):=by
 refine⟨fun v T u nx h=>?_,fun s v T u nx h hs=>Hj ho a b h hs⟩;unfold gG at h
 repeat' split at h
 all_goals cases h
theorem JS{o:Oper}{st:AS}{t:TypeId}{x:Operand}(ho:o.op = .load t x):AopOk P o st (xm st (ae P t) (ev st x)):=by
 cases b:ev st x with
 |ptr id off =>
  simp only[xm];cases d:hget st.hp id with
  |none=>exact .bad
  |some k =>
   simp only[Fz];split
   .rename_i h2;exact .okS fun h1=>AU ho b d (cV h2) h1
   .exact .bad
 |cp cs =>
  simp only[xm];split
  .rename_i h1 h2;refine .pureS fun c=>?_
   have:=xr ho b (cV h2) c (dfl (ae P t).kind);have a:(fx (P.underlying t)).agg=true:=h1;rw[b9 a] at this;exact this
  .rename_i h1 h2;refine .pureS fun c=>?_
   have:=xr ho b (cV h2) c (dfl (ae P t).kind);have a:¬(fx (P.underlying t)).agg=true:=by
    have:(fx (P.underlying t)).agg=false:=h1;rw[this];simp
   simp_all
  .exact .bad
 |_=>exact .bad
theorem Ho{o:Oper}{st:AS}{t:TypeId}{x y:Operand}(ho:o.op = .store t x y):AopOk P o st (ue st (ae P t) (ev st x) (ev st y)):=by
 cases a:ev st x with
 |ptr id off =>
  simp only[ue];cases b:hget st.hp id with
  |none=>exact .bad
  |some k =>
   simp only[yY];split
   .rename_i h1 h2 c;exact .okS fun d=>JE ho a b h1 d (ef h2) (cV c)
   .exact .bad
 |_=>exact .bad
theorem xz(d:PV)(xs:List AV)(o:Nat)(x:AV)(h:ag d (xs.drop o)=x)(b:x ≠ .p d):xs[o]?=some x:=by
 cases a:xs.drop o with
 |nil=>rw[a] at h;simp[ag] at h;exact s5 h.symm b
 |cons c r =>
  rw[a] at h;simp only[ag] at h;subst h;have:=o' (xs:=xs) (i:=o) (j:=0);simp_all
theorem DW{ρ:aD}{F:aK}{w:World}{t:TypeId}{x y:AV}{u v:Value}{b:Bool}{d:Nat}(h:ld (fx (P.underlying t)) x y=some b)(g:Rd ρ F w x u)(l:Rd ρ F w y v)(w':World):(K' (d+1) t u v).run P w' = .ok b w':=by
 cases m:P.underlying t with
 |none=>rw[m] at h;simp[fx,ld] at h
 |some dd =>
  rw[m] at h;unfold ld at h;split at h
  .rename_i c;split at h
   .rename_i n;cases h;have e:=g.pv;have f:=l.pv;subst e f;rename_i k i a j o _;have:i=j:=by cases i<;>cases j<;>simp_all[eqK]
    subst this;cases dd<;>simp[fx] at c;simp_all[run_equalIn_int]
   .cases h
  .rename_i c;cases h;have e:=g.pv;have f:=l.pv;subst e f;cases dd<;>simp[fx] at c;simp_all[run_equalIn_bool']
  .rename_i c;cases h;have e:=g.pv;have f:=l.pv;subst e f;cases dd<;>simp[fx] at c;simp_all[run_equalIn_string]
  .cases h
theorem Hp{k:TK}{x y:AV}{b:Bool}(h:ld k x y=some b):x ≠ .p (.v undef)/\y ≠ .p (.v undef)/\k.agg=false:=by
 unfold ld at h;split at h
 .exact aiV
 .exact aiV
 .exact aiV
 .cases h
theorem pG{t:TypeId}{xs:Array Value}{o:Nat}{v:Value}(a:(fx (P.underlying t)).agg=false)(b:P.underlying t≠none)(hv:xs[o]?=some v)(w:World):(part t xs o).run P w = .ok v w:=by
 cases h:P.underlying t with
 |none=>exact s5 h b
 |some d=>cases d<;>simp[h,fx,TK.agg] at a<;>simp[part,isAgg,qs h,hv]
theorem uz{ρ:aD}{F:aK}{w:World}{cs ds:List AV}{us vs:Array Value}(l:us.size=cs.length)(g:vs.size=ds.length)(m:∀j c,cs[j]?=some c->Rd ρ F w c (us.getD j undef))(i:∀j c,ds[j]?=some c->Rd ρ F w c (vs.getD j undef))(d:Nat)(w':World) :
 ∀(fs:List Field) (b:Bool),(∀f,f∈fs->f.name≠"_")->lg (fs.map fun f=>(f.offset,cx P f.type,fx (P.underlying f.type))) cs ds=some b->(Op.eqFields (d+1) us vs fs).run P w' = .ok b w'
 |[],b,_,h=>by simp[lg] at h;subst h;simp[Op.eqFields]
 |f::fs,b,hn,h=>by
  simp only[hX,lg] at h;cases a:ld (fx (P.underlying f.type)) (ag (.v undef) (cs.drop f.offset)) (ag (.v undef) (ds.drop f.offset)) with
  |none=>rw[a] at h;simp[JA] at h
  |some b1 =>
   cases k:lg (fs.map fun f=>(f.offset,cx P f.type,fx (P.underlying f.type))) cs ds with
   |none=>rw[a,k] at h;simp[JA] at h
   |some b2 =>
    rw[a,k] at h;simp only[JA,Y'.injEq] at h;obtain⟨r,s,n⟩:=Hp a;have o:=xz _ _ _ _ rfl r;have p:=xz _ _ _ _ rfl s;have t:=m _ _ o;have u:=i _ _ p;have x:f.offset<us.size:=by rw[l];exact(hP.1 o).1
    have y:f.offset<vs.size:=by rw[g];exact(hP.1 p).1
    have z:us[f.offset]?=some (us.getD f.offset undef):=by simp[x]
    have A:vs[f.offset]?=some (vs.getD f.offset undef):=by simp[y]
    have q:P.underlying f.type≠none:=fun e=>by rw[e] at a;simp[fx,ld] at a
    simp only[Op.eqFields,b9 (hn f η),hW,pG n q z,pG n q A,ez,DW a t u w'];cases b1 with
    |false=>simp at h;subst h;simp
    |true =>
     simp at h;subst h;simpa using uz l g m i d w' fs b2 (fun f B=>hn f (by simp[B])) k
theorem JT{o:Oper}{st:AS}{g:BinOp}{t v:TypeId}{x y:Operand}(ho:o.op = .binOp g t x y v)(z:(ae P t).kind = .struct){xs ys:List AV}(A:ev st x = .agg xs)(B:ev st y = .agg ys) :
 AopOk P o st (DE st g (lg (ae P t).flds xs ys) (eqT P t)):=by
 obtain⟨fs,i⟩:=xt z;cases n:lg (ae P t).flds xs ys with
 |none=>simp only[DE];exact .bad
 |some b =>
  cases p:eqT P t with
  |false=>simp only[DE];exact .bad
  |true =>
   simp only[eqT,i,Bool.and_eq_true,Bool.not_eq_true',List.all_eq_true,bne_iff_ne,ne_eq] at p;obtain⟨⟨C,hs⟩,hg⟩:=p;have j:(ae P t).flds=fs.toList.map fun f=>(f.offset,cx P f.type,fx (P.underlying f.type)):=by simp[ae,tw,i]
   rw[j] at n;have c:P.fieldsOf t=fs:=by simp[Program.fieldsOf,i]
   have d:∀(r:Bool),(∀us vs w,(K' 10000 t (.agg us) (.agg vs)).run P w = .ok b w->(binOp g t (.agg us) (.agg vs)).run P w = .ok (.bool r) w)->OpOk P o st (.b r) [] [] st.nx:=fun r G =>
    bH fun ρ F a w e=>by
     have q:=e x φ;have s:=e y φ;rw[A] at q;rw[B] at s;obtain⟨us,H,D,k⟩:=q.aggInv;obtain⟨vs,E,l,m⟩:=s.aggInv;refine⟨.bool r,?_,.ofV rfl⟩;have u:(K' 10000 t (.agg us) (.agg vs)).run P w = .ok b w:=by
      rw[run_equalIn_agg w 9999 t us vs (by rw[c];exact i) hs,c];exact uz D l k m 9998 w fs.toList b C n
     simp_all[execOp,hW,run_eqGuard_agg,ez]
   simp only[DE];cases g<;>first
    |exact .bad
    |exact .pure (d _ (fun us vs w h=>by rw[run_eql_struct,h];rfl))
    |exact .pure (d _ (fun us vs w h=>by rw[run_neq_struct,h];rfl))
theorem Of{o:Oper}{st:AS}{g:BinOp}{t B:TypeId}{x y:Operand}(ho:o.op = .binOp g t x y B):AopOk P o st (JB st g (ae P t).kind (eqT P t) (ae P t).flds (ev st x) (ev st y)):=by
 unfold JB;split
 .rename_i hx hy;exact JC ho hx hy
 .rename_i a b hx hy;have e:∀r:Value,r.oneCell'=true->(∀w,(binOp g t (.string a) (.string b)).run P w = .ok r w)->OpOk P o st (.p (.v r)) [] [] st.nx:=fun r h1 h2 =>
   DF ho hx hy (fun w=>by rw[hW,wO];exact h2 w) h1
  cases g<;>simp only[N2]<;>first
   |exact .bad
   |exact .pure (e _ rfl (fun w=>by simp[binOp,Op.stringOp]))
   |skip
  refine .pureS fun hs=>e _ rfl (fun w=>?_)
  have:¬(IntKind.i64.max<((a.size+b.size:Nat):Int)):=by
   have:IntKind.i64.max=9223372036854775807:=rfl;omega
  simp[binOp,Op.stringOp];simp at this;omega
 .rename_i a b hx hy;cases hk:(ae P t).kind with
  |bool =>
   have c:=N5 hk;have e:∀r:Value,r.oneCell'=true->(∀w,(binOp g t (.bool a) (.bool b)).run P w = .ok r w)->OpOk P o st (.p (.v r)) [] [] st.nx:=fun r h1 h2 =>
    DF ho hx hy (fun w=>by rw[hW,uj];exact h2 w) h1
   have h:∀(d:Nat) (w:World),(K' (d+1) t (.bool a) (.bool b)).run P w = .ok (a==b) w:=fun d w=>by simp[K',qs c]
   have l:∀w,(Op.equal t (.bool a) (.bool b)).run P w = .ok (a==b) w:=fun w=>h 9999 w
   cases g<;>simp only[FA]<;>first
    |exact .bad
    |exact .pure (e _ rfl (fun w=>by simp[binOp,l]))
  |_=>exact .bad
 .rename_i hx hy;split
  .rename_i hk
   exact pE ho hk hy (fun hn ρ F w u hr=>by
    rw[hx] at hr
    rcases hr.dataInv with⟨m,_,_⟩|⟨b,off,cap,f,hv,_⟩
    .exact s5 m hn
    .exact⟨_,_,_,hv,rfl⟩)
  .exact .bad
 .rename_i hx hy;split
  .rename_i hk
   exact pE ho hk hy (fun hn ρ F w u hr=>by
    rw[hx] at hr
    rcases hr.slInv with⟨m,_⟩|⟨b,cap,E,hv,_⟩
    .exact s5 m hn
    .exact⟨_,_,_,hv,rfl⟩)
  .exact .bad
 .exact ahu
 .exact ahu
 .rename_i xs ys hx hy;split
  .rename_i hk;exact JT ho hk hx hy
  .exact .bad
 .rename_i hx hy;split
  .rename_i hk
   exact uo ho (fun ρ F w u v c hv=>by
    rw[hx] at c;rw[hy] at hv
    exact⟨_,_,c.pv,hv.pv,fun d w'=>by simp[K',qs (oC hk)]⟩)
  .exact .bad
 .rename_i hx hy;split
  .rename_i hk
   exact uo ho (fun ρ F w u v c hv=>by
    rw[hx] at c;rw[hy] at hv
    obtain⟨b,_,rfl⟩:=c.ptrInv
    exact⟨_,_,rfl,hv.pv,fun d w'=>by simp[K',qs (oC hk)]⟩)
  .exact .bad
 .rename_i i a j b hx hy;split
  .rename_i hk n q s;have C:=ef q;have D:=ef s;subst C D;have k:∃A,P.info? (ae P t).elem=some A:=by
    unfold eqT at n;rw[oC hk] at n;exact Option.isSome_iff_exists.1 n
   obtain⟨A,z⟩:=k
   exact uo ho (fun ρ F w u v c hv=>by
    rw[hx] at c;rw[hy] at hv
    obtain⟨G,h1,rfl⟩:=c.ptrInv
    obtain⟨H,h2,rfl⟩:=hv.ptrInv
    rw[h1] at h2;cases h2
    exact⟨_,_,rfl,rfl,fun d w'=>by simp[K',qs (oC hk),sizeOf,typeInfo,z,run_sameAddr_same]⟩)
  .exact .bad
 .exact .bad
theorem Ru{o:Oper}{st:AS}{b:UnOp}{t:TypeId}{x:Operand}(ho:o.op = .unOp b t x):AopOk P o st (unR st b (ev st x)):=by
 unfold unR;split
 .rename_i a;exact .pure (JG ho a (fun w=>by simp[Op.unary]) rfl)
 .rename_i a;exact .pure (JG ho a (fun w=>by simp[Op.unary,Op.intArith]) rfl)
 .rename_i a;exact .pure (JG ho a (fun w=>by simp[Op.unary,Op.intBits,kq]) rfl)
 .exact .bad
theorem JU{o:Oper}{st:AS}{s d:TypeId}{x:Operand}(ho:o.op = .convert s d x):AopOk P o st (Bh st (p' s d) (isK x) (ae P d).elem (ae P (ae P s).elem).size (ae P (ae P d).elem).size (ae P s).kind (ae P d).kind (ae P (ae P s).elem).kind (ae P (ae P d).elem).kind (ev st x)):=by
 unfold Bh;split
 .rename_i c;split
  .rename_i a hs;exact .pure (DN ho c a (fun e=>by rw[e] at hs;cases hs))
  .exact .bad
 .rename_i c;split
  .rename_i a hs f j;exact .pure (DS ho c hs a f)
  .rename_i a hs f j;exact .ok (A6 ho c hs a f)
  .exact .bad
 .rename_i k n cs c;split
  .rename_i a hs f h1;have:=ef h1;subst this;exact .pureS fun l=>ze ho c a hs f l
  .exact .bad
 .rename_i id off n k c;split
  .rename_i a hs f h1 g;have:=ef h1;subst this;exact .okS fun b=>DQ ho c a hs f g b.1 b.2.1 b.2.2
  .rename_i a hs f h1 g;have:=ef h1;subst this;split
   .rename_i h;have:=ef h;subst this;exact .okS fun b=>Oa ho c hs f g b.1 b.2.1 b.2.2
   .exact .bad
  .exact .bad
 .rename_i id off c;split
  .rename_i hs a i g;have:=ef i;subst this;exact .okS fun b=>A8 ho c hs a g b.1 b.2
  .rename_i hs a i g;have:=ef i;subst this;exact .okS fun b=>wR ho c hs a g b.1 b.2.1 b.2.2
  .exact .bad
 .exact .bad
theorem Hq{o:Oper}{st:AS}{t:TypeId}{x:Operand}{r q mx:Option Operand}(ho:o.op = .slice t x r q mx) :
 AopOk P o st (uv st (ae P t).kind (ae P t).len (ae P (ae P t).elem).size (ev st x) (xx (r.map (ev st))) (xy (JP (ae P t).len (ev st x)) (q.map (ev st))) (sB (q.map (ev st)) (mx.map (ev st)))):=by
 unfold uv;split
 .rename_i s l h a e b hm;split
  .rename_i f;refine .pureS fun⟨g,h1,h2⟩=>?_
   have i:mx=none:=by
    exact ain
   subst i;rw[a] at b;exact Bl ho a f (pF e b hm trivial) g h1 h2
  .exact .bad
 .rename_i l h a e b hm;split
  .rename_i f j;refine .pureS fun⟨g,h1,h2⟩=>?_
   have i:mx=none:=by
    exact ain
   subst i;rw[a] at b;exact A9 ho a f (cV j) (pF e b hm trivial) g h1 h2
  .exact .bad
 .rename_i s n cs l h m a e b hm;split
  .rename_i f hs h1;refine .pureS fun⟨g,c,h2,k⟩=>?_
   rw[a] at b;have d:=ef hs;exact yZ ho a f d.symm (by rw[d];exact cV h1) (pF e b hm k) g c h2
  .exact .bad
 .rename_i id off n s l h m a e b hm;split
  .rename_i f hs h1;refine .pureS fun⟨g,c,h2,k⟩=>?_
   rw[a] at b;have d:=ef hs;exact DJ ho a f d.symm (by rw[d];exact cV h1) (pF e b hm k) g c h2
  .exact .bad
 .rename_i id off l h m a e b hm;split
  .rename_i f h1 p u;refine .okS fun⟨g,c,h2,k,v⟩=>?_
   rw[a] at b;exact AY ho a f (cV h1) (pF e b hm k) g c h2 u v (cV p)
  .exact .bad
 .exact .bad
theorem wU{o:Oper}{st:AS}{t:TypeId}{x:Operand}{f:Nat}(ho:o.op = .fieldAddr t x f):AopOk P o st (uf st (ev st x) (ae P t).flds[f]?):=by
 cases b:(ae P t).flds[f]? with
 |none=>exact .bad
 |some p =>
  obtain⟨c,s,k⟩:=p;simp only[uf];split
  .rename_i h1 a;exact .pure (AW ho a b (cV h1))
  .rename_i h1 a;exact .pure (DG ho a b (cV h1))
  .exact .bad
theorem Hr{o:Oper}{st:AS}{t:TypeId}{x:Operand}{f:Nat}(ho:o.op = .field t x f):AopOk P o st (ug st (ev st x) (ae P t).flds[f]?):=by
 unfold ug;split
 .rename_i a b;split
  .rename_i h1;exact .pureS fun c=>JF ho a b (cV h1) c
  .exact .bad
 .exact .bad
theorem wV{o:Oper}{st:AS}{t:TypeId}{x y:Operand}(ho:o.op = .indexAddr t x y):AopOk P o st (ui st (ae P t) (ae P (ae P t).elem).size (ev st x) (ev st y)):=by
 unfold ui;split
 .rename_i b c;split
  .rename_i d hs h1;have a:=ef hs;exact .pureS fun h=>y3 ho b c d a.symm (by rw[a];exact cV h1) h.1 h.2
  .exact .bad
 .rename_i b c;split
  .rename_i d hs h1;have a:=ef hs;exact .pureS fun h=>DL ho b c d a.symm (by rw[a];exact cV h1) h.1 h.2
  .exact .bad
 .rename_i b c;split
  .rename_i d h1;exact .pureS fun h=>AZ ho b c d (cV h1) h.1 h.2
  .exact .bad
 .rename_i b c;split
  .rename_i d h1;exact .pureS fun h=>DM ho b c d (cV h1) h.1 h.2
  .exact .bad
 .exact .bad
theorem Hs{o:Oper}{st:AS}{t:TypeId}{x y:Operand}(ho:o.op = .index t x y):AopOk P o st (AT st (ae P t) (ae P (ae P t).elem).size (ae P (ae P t).elem).kind (ev st x) (ev st y)):=by
 unfold AT;split
 .rename_i a b;split
  .rename_i c;exact .pureS fun h=>A0 ho a b c h.1 h.2
  .exact .bad
 .rename_i a b;split
  .rename_i c hs;exact .pureS fun h=>A2 ho a b c (cV hs) h.1 h.2.1 h.2.2
  .exact .bad
 .exact .bad
theorem dZ{α:Type}{a:Array α}{l:List α}(h:a.toList=l):a=l.toArray:=by rw[<-h]
theorem Ht{o:Oper}{st:AS}{b:Builtin}{g:Array Operand}{f:Array TypeId}(ho:o.op = .call ⟨.builtin b,g,f⟩):AopOk P o st (Bk P st b g.toList f.toList):=by
 unfold Bk;split
 .rename_i x t ha ht;have a:o.op = .call ⟨.builtin .len,#[x],#[t]⟩:=by
   exact agV
  unfold N3;split
  .rename_i d;split
   .rename_i c;exact .pure (y5 a (.inl ⟨c,.inl ⟨_,_,d⟩⟩))
   .exact .bad
  .rename_i d;split
   .rename_i c;exact .pure (y5 a (.inl ⟨c,.inr (.inl ⟨_,_,d⟩)⟩))
   .exact .bad
  .rename_i d;split
   .rename_i c;exact .pure (y5 a (.inl ⟨c,.inr (.inr ⟨_,_,_,d⟩)⟩))
   .exact .bad
  .rename_i d;split
   .rename_i c;exact .pure (y5 a (.inr ⟨c,_,rfl,d⟩))
   .exact .bad
  .exact .bad
 .rename_i x y ha;have a:o.op = .call ⟨.builtin .max,#[x,y],f⟩:=by
   rw[ho];congr 2;exact dZ ha
  unfold FB;split
  .rename_i d l;exact .pure (Rp a d l)
  .exact .bad
 .rename_i x y ha;have a:o.op = .call ⟨.builtin .min,#[x,y],f⟩:=by
   rw[ho];congr 2;exact dZ ha
  unfold FC;split
  .rename_i d l;exact .pure (Rq a d l)
  .exact .bad
 .rename_i x y t j ha ht;split
  .rename_i r;have:=ef r;subst this;have a:o.op = .call ⟨.builtin .append,#[x,y],#[t,t]⟩:=by
    exact agV
   by_cases c:(ae P t).kind = .slice
   .exact uy a (cQ c) (fun k h=>by cases h)
   .rw[Bm c];exact .bad
  .split
   .rename_i c;have a:o.op = .call ⟨.builtin .append,#[x,y],#[t,j]⟩:=by
     exact agV
    refine⟨fun v T u nx h=>?_,fun s v T u nx h hs=>DT a c h hs⟩;unfold xv at h
    repeat' split at h
    all_goals cases h
   .rename_i c;have a:o.op = .call ⟨.builtin .append,#[x,y],#[t,j]⟩:=by
     exact agV
    exact uy a (mg c) (fun k h=>by cases h)
   .exact .bad
 .rename_i x t ha ht;have a:o.op = .call ⟨.builtin .cap,#[x],#[t]⟩:=by
   exact agV
  unfold Od;split
  .rename_i d;split
   .rename_i c;exact .pure (Rr a c d)
   .exact .bad
  .exact .bad
 .rename_i x y t j ha ht;have a:o.op = .call ⟨.builtin .copy,#[x,y],#[t,j]⟩:=by
   exact agV
  refine⟨fun v T u nx h=>?_,fun s v T u nx h hs=>Ob a h hs⟩;unfold un at h
  repeat' split at h
  all_goals cases h
 .rename_i x y t j ha ht;have a:o.op = .call ⟨.builtin .delete,#[x,y],#[t,j]⟩:=by
   exact agV
  unfold FN;split
  .rename_i z d;split
   .rename_i m i c;refine .okS fun h1=>zi a z d m ?_ c h1
    have e:=ef i;obtain⟨C,D,n,_⟩:=tB m;unfold JO at e;unfold Z0;rw[n] at e⊢;simp only at e;rw[e]
   .exact .bad
  .exact .bad
 .rename_i x t ha ht;have a:o.op = .call ⟨.builtin .unsafeSliceData,#[x],#[t]⟩:=by
   exact agV
  unfold FK;split
  .rename_i d;exact .pureS fun h=>wS a d h
  .exact .bad
 .rename_i x y pt it ha ht;have a:o.op = .call ⟨.builtin .unsafeString,#[x,y],#[pt,it]⟩:=by
   exact agV
  split
  .rename_i p;unfold FL;split
   .rename_i d l;split
    .rename_i A q B c;have:=ef A;subst this;exact .okS fun h=>Oc a p d l (ef q) c h.1 h.2.1 h.2.2.1 h.2.2.2.1 h.2.2.2.2.1 h.2.2.2.2.2
    .exact .bad
   .exact .bad
  .exact .bad
 .exact .bad
theorem JV(o:Oper)(st:AS):AopOk P o st (aop P o.op st):=by
 cases ho:o.op with
 |move x=>exact .pure (FD (.inl ho))
 |assign x=>exact .pure (FD (.inr ho))
 |pick c a b =>
  simp only[aop];unfold Fy;split
  .rename_i p;exact .pure (N4 ho p)
  .exact .bad
 |alloc t =>
  simp only[aop];cases q:(ae P t).zero with
  |none=>exact .bad
  |some z =>
   simp only[yX];split
   .rename_i h1;exact .ok (JD ho q h1)
   .exact .bad
 |box t x =>
  simp only[aop,N1];split
  .rename_i h1;exact .ok (Ro ho h1)
  .exact .bad
 |build t parts=>exact Hn ho
 |buildSlice t len parts=>exact zm ho
 |load t x=>exact JS ho
 |store t x y=>exact Ho ho
 |nilCheck x =>
  simp only[aop];unfold Oe;split
  .rename_i g;exact .pure (g ▸ jU ho (.inl ⟨_,_,g⟩))
  .rename_i g;exact .pure (g ▸ jU ho (.inr (.inl ⟨_,g⟩)))
  .rename_i g;exact .pure (g ▸ jU ho (.inr (.inr (.inl ⟨_,_,_,g⟩))))
  .rename_i g;exact .pure (g ▸ jU ho (.inr (.inr (.inr ⟨_,_,_,g⟩))))
  .exact .bad
 |binOp op t x y t'=>exact Of ho
 |unOp op t x=>exact Ru ho
 |convert s d x=>exact JU ho
 |makeInterface t x =>
  simp only[aop,zl];split
  .rename_i h1 h2;exact .pure (JH ho (fun e=>by rw[e] at h1;cases h1) (fun e=>by rw[e] at h2;cases h2))
  .exact .bad
 |makeFunc f xs ys=>exact .pure (A3 ho)
 |makeSlice t x y=>exact JQ ho
 |slice t x lo hi mx=>exact Hq ho
 |fieldAddr t x f=>exact wU ho
 |field t x f=>exact Hr ho
 |indexAddr t x y=>exact wV ho
 |index t x y=>exact Hs ho
 |extract x i =>
  simp only[aop];unfold pC;split
  .rename_i g;split
   .rename_i hv;exact .pure (DH ho g hv)
   .exact .bad
  .exact .bad
 |call c =>
  obtain⟨h,n,u⟩:=c;simp only[aop];cases h with
  |builtin b=>exact Ht ho
  |value f =>
   simp only[ux];unfold uw;split
   .split
    .exact .call
    .exact .bad
   .exact .call
   .exact .bad
  |invoke r m =>
   simp only[ux];unfold tC;split
   .unfold Bj;split
    .exact .call
    .exact .bad
   .unfold Bj;split
    .exact .call
    .exact .bad
   .exact .bad
 |makeMap t r =>
  cases r with
  |none=>exact .ok (DV ho)
  |some r=>exact .bad
 |mapUpdate t m x y =>
  simp only[aop];unfold FM;split
  .rename_i j g v;split
   .rename_i k l;exact .okS fun⟨h1,h2,A,B⟩=>zh ho j g v k l h1 h2 A B
   .exact .bad
  .exact .bad
 |lookup t m x c =>
  cases c with
  |true=>exact .bad
  |false =>
   simp only[aop];unfold zk;split
   .rename_i j g;split
    .rename_i k l;exact .okS fun h1=>zj ho j g k l h1
    .exact .bad
   .exact .bad
 |_=>exact .bad

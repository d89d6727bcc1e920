/- KeystoreRemoves returns true for all arguments; there is no condition. -/
import Derived.Test.YthojgcnbclfinaaGreatDoorDv
import Derived.Test.YthojgcnbclfinaaGreatDoorTie
import Derived.LaidMore
import Derived.Stop.Joined
import Derived.OpenShut
import Derived.Lay
import Derived.Test.YthojgcnbclfinaaGreatDoorRemovesFacts
import Derived.Test.YthojgcnbclfinaaGreatDoorRemovesGoes
set_option linter.all false
set_option maxRecDepth 100000
set_option maxHeartbeats 4000000
open List renaming take_of_length_le→a',mem_singleton→b',flatMap_cons→c',getElem?_cons_zero→d',mem_cons_self→e',length_cons→f',all_eq_true→g',getD_eq_getElem?_getD→h',getElem?_eq_some_iff→i',length_eq_zero_iff→j',head_eq_of_cons_eq→k',getElem?_cons_succ→l',mem_cons_of_mem→m'
open Go.IntKind renaming i64→n',u64→o'
open Nat renaming le_of_ble_eq_true→q',lt_or_ge→r',lt_of_le_of_lt→s',eq_of_beq_eq_true→t',le_refl→u'
open Option renaming some→v'
open Bool renaming eq_false_or_eq_true→w',false_eq_true→x',true_or→y',or_true→z',or_self→A'
namespace Go.Abs
open RowKit Proofs Proofs.Tryz
attribute[go_sem]ntmps12 results12 ntmps10 results10 ntmps194 results194 ntmps112 results112 ntmps39 results39 ntmps51 results51 ntmps23 results23 ntmps136 results136 ntmps52 results52 ntmps116 results116 ntmps117 results117 ntmps43 results43 ntmps16 results16 ntmps14 results14 ntmps4 results4
def Lnn(d:aU):Prop:=d.fac.ce.length<1000000000/\d.nx.ids.length<1000000000/\d.v.prs.length<1000000000
theorem sam(r:DR)(h:Lnn r.d):FPure prog 12 [bg r.d,.i r.left,.i r.e,bg r.d,.i r.left,.i r.e] (.b true):=by
 refine ba f12 [0,1,2,3,4,5,6,9,12] ?_;intro c J b Y Z;refine δ (H5 r.d h.1 h.2.1 h.2.2) ?_;simp only[go_sem,J,beq_self_eq_true]
theorem Lnn.off{d:aU}(h:Lnn d)(t:Int)(x:Fl):Lnn (kV d.fac t x):=⟨h.1,Nat.succ_pos _,Nat.succ_pos _⟩
theorem Lnn.fl{d:aU}(h:Lnn d)(v:Vt)(e:Int):Lnn (jz d v e).d:=by unfold jz;split;exact h.off _ _;exact h
theorem Lnn.st{f:aO}{d:aU}{G B:Int}{T:DR}(h:Lnn d)(q:DInv f d G)(hG:G<99)(t:Ans d B T):Lnn T.d:=by
 rcases t with⟨e,-,-,rfl⟩|⟨l,-,-,rfl⟩
 .exact h
 unfold dF;split;exact h;rename_i a;dsimp only;split;exact h.fl _ _;rename_i b;rcases q with q|q
 .rcases Fh q.ok ω l B with⟨-,e,-,-,-⟩|⟨e,-⟩|⟨e,-⟩
  .exact⟨h.1,h.2.1,e.vlen.1⟩
  .omega
  .exact absurd e b
 .exact absurd (by rw[q.is];rfl) a
theorem pst(d:aU)(l:ai)(B:Int)(e:d.v.j.bs.length<1000000000)(g:∀x,x∈l->x.2.length<1000)(h:l.length<300)(k:i64 B):FPure prog 10 [bg d,.p (PL l),.i B] (th (dF d l B)):=by
 refine ba f10 [0,1,2,3,6,7,8,9,10,11,14,26] ?_;intro c J n Y Z;obtain⟨R,hR⟩:∃R,dF d l B=R:=⟨_,rfl⟩;rw[hR] at Y Z;(try rw[hR]);unfold dF at hR;by_cases hon:d.on=false
 .exact aiF
 rw[b0 hon] at hR;have a:d.on=true:=by simpa using hon
 simp only[go_sem,J,a];apply aa Z (Yz d.v _ l B rfl e ω (fun x m=>by have:=g x m;omega) k);rw[Qj];generalize rputM d.v l B=P at *;by_cases b:P.err=0
 .rw[b0 ω] at hR;subst hR;simp only[go_sem,J,b];exact av _
 .rw[b9 b] at hR;subst hR;simp only[go_sem,J,b];apply aa Z (xP d P.v P.err);simp only[go_sem,J]
theorem stm(k:UInt64):FPure prog 194 [.w k,.w 0,.i 176] (.p (.data 1 176 ((rN k 0 22).map bt))):=by
 apply ba f194 [0,1,2,6,7,8,9,19];intro c J o Y Z;refine θ ?_;refine⟨ε,?_⟩;refine ay Y o [0,1,2,6,7,8,9,19] 22 (fun i=>⟨36,[(0,.w k),(1,.w 0),(2,.i 176),(7,.sl 0 0 (8*i) 1),(8,.p (.v (.int .u64 i)))],[(0,some ⟨bP,cb (rN k 0 i)⟩)],1⟩) [] (fun i=>i) ?_ ?_
 .refine⟨rfl,?_,?_,rfl,rfl,trivial,fun i h=>h⟩
  .exact κ
  .simp only[go_sem,rN];exact af1
 intro i u;rcases ea i 22 with a|a
 .have m:o'.wrap ((i:Int)+1)=((i+1:Nat):Int):=by rw[ao ω ω];omega
  have q:(i:Int)=((UInt64.ofNat i).toNat:Int):=by rw[gr,ie ω]
  have l:=mV k 0 i;have hs:rN k 0 (i+1)=rN k 0 i++an [mkN k 0 i] 1:=rfl;rw[hs];have w:=GC [0,UInt64.ofNat i] 2 rfl ε;rw[show [0,UInt64.ofNat i].map wd=[wd 0,.v (.int .u64 (i:Int))] from by rw[q];rfl] at w;generalize rN k 0 i=b at *;simp only[go_sem,J,(ω:(((8*i:Nat):Int)<176))];refine x_f Z w ?_;refine δ (L4 k 5 (an [0,UInt64.ofNat i] 2) 16 (am _ 2) ε ε ε) ?_;rw[show bA k (UInt64.ofNat ((5:Int).toNat+1)) (an [0,UInt64.ofNat i] 2)=mkN k 0 i from rfl];generalize mkN k 0 i=y at *;refine θ ?_;refine x_f Z (qf y) ?_;simp only[go_sem,J,m];refine⟨⟨ω,ω⟩,a,aA [3] rfl ?_ ?_ rfl rfl (cV rfl)⟩
  .simp only[go_sem,(ω:8*(i+1)=8*i+8)]
  .simp only[go_sem,dl,dX];exact aC _ _ _ _
 obtain rfl:i=22:=by omega
 simp only[go_sem,J,(ω:¬(((8*22:Nat):Int)<176))];have l:=mV k 0 22;exact⟨ω,by rw[cD ω]⟩
theorem isC(x:Cr)(h:CrOk x)(r:x.rs=true)(id:List UInt8)(n:Nat):FPure prog 39 [.agg (crC x),.p (.data 1 n (id.map bt))] (.b (idR x==id)):=by
 have k:FPure prog 112 [.w 0,.w 0,.agg (crC x)] (.tup [.p (.data 1 176 ((idR x).map bt)),.i 0]):=by
  apply ba f112 [0,1,2,5,6,7,8,9,10,17,20];intro c J e Y Z;have b:=Il x h;have d:=Df x.sd [105,100] 0 ε;have s:=stm (ij x.sd [105,100] 0);rw[show rN (ij x.sd [105,100] 0) 0 22=idR x from rfl] at s;generalize idR x=I at *;generalize ij x.sd [105,100] 0=D at *;refine δ b ?_;simp only[go_sem,J,r];apply aa Z d;refine δ s ?_;simp only[go_sem,J]
 apply ba f39 [0,1,2,4,5,6];intro c J e Y Z;generalize idR x=I at *;refine δ k ?_;simp only[go_sem,J,r];apply aa Z (tM I id 176 n);simp only[go_sem,J]
theorem duD(l:List (Nat×Ls))(t:UInt64)(i:Nat)(h:i<l.length):dU (l.drop i) t=if 0<(l.getD i (0,ls0)).1/\(l.getD i (0,ls0)).2.tag=t then(l.getD i (0,ls0)).1 else dU (l.drop (i+1)) t:=by
 rw[hE h];simp[dU,cR,h]
theorem num(d:aU)(b:List UInt8)(n:Nat)(u:b.length=n)(v:n<100000)(hv:VLen d.v.prs):FPure prog 23 [bg d,.p (.data 1 n (b.map bt))] (.tup [.i (dU (bq d.v.prs) (bA 10 0 b)),.b (decide (dU (bq d.v.prs) (bA 10 0 b)≠0))]):=by
 have a:FPure prog 51 [.p (.data 1 n (b.map bt))] (.w (bA 10 0 b)):=by
  apply ba f51 [0,2];intro c J e Y Z;refine δ (Up 10 b n u ω ε ε) ?_;simp only[go_sem,J];rfl
 apply ba f23 [0,1,2,4,5,6,8,12,13,14,15,27];intro c J e Y Z;have s:=K5 d hv;have w:(bq d.v.prs).length<=16:=sL d.v.prs 16;generalize bA 10 0 b=t at *;generalize bq d.v.prs=l at *;refine δ a ?_;refine δ s ?_;refine θ ?_;refine bl Y e [0,1,2,4,5,6,8,12,13,14,15,27] (α:={i:Nat // i<=l.length/\dU l t=dU (l.drop i) t}) (fun i=>⟨31,[(6,.w t),(12,.p (.data 5 l.length (n8 l))),(13,.i l.length),(14,.i i.1)],[],1⟩) (fun i=>l.length-i.1) ⟨0,gi _,rfl⟩ [] (fun i=>i) ⟨rfl,κ,κ,rfl,rfl,trivial,fun i h=>h⟩ ?_
 rintro⟨i,g,h⟩;rcases ea i l.length with q|q
 .have o:=ac i
  have p:=O8 l i q;have y:=duD l t i q;rw[<-h] at y;generalize l.getD i (0,ls0)=z at *
  by_cases m:0<z.1/\z.2.tag=t
  .rw[b9 m] at y;simp only[go_sem,J,p,nlP,m.2,o,(ω:((i:Int)<(l.length:Int))),(ω:((z.1:Int)>0))];exact⟨ω,ω,by rw[y,qi];omega⟩
  .rw[b0 m] at y
   by_cases r:0<z.1
   .have:¬((z.2.tag.toNat:Int)=(t.toNat:Int)):=fun h=>m ⟨r,s9.1 ω⟩
    simp only[go_sem,J,p,nlP,this,o,(ω:((i:Int)<(l.length:Int))),(ω:((z.1:Int)>0))];exact⟨ω,⟨i+1,ω,y⟩,by show l.length-(i+1)<l.length-i;omega,aA [] rfl κ κ rfl rfl (cV rfl)⟩
   .simp only[go_sem,J,p,nlP,o,(ω:((i:Int)<(l.length:Int))),(ω:¬((z.1:Int)>0))];exact⟨ω,⟨i+1,ω,y⟩,by show l.length-(i+1)<l.length-i;omega,aA [] rfl κ κ rfl rfl (cV rfl)⟩
 .obtain rfl:i=l.length:=by omega
  rw[List.drop_length] at h;simp only[go_sem,J,h,(ω:¬((l.length:Int)<(l.length:Int)))];exact⟨rfl,rfl⟩
theorem fnd(x:Ls):FPure prog 136 [.p (.data 4 1 (lsP x)),.w x.tag] (.tup [.i 0,.b true]):=by
 apply ba f136 [0,1,4,5,6,7,8,9,10,11,18];intro c J e Y Z;refine θ ?_;refine ay Y e [0,1,4,5,6,7,8,9,10,11,18] 0 (fun i=>⟨21,[(1,.w x.tag),(8,.p (.data 4 1 (lsP x))),(9,.i 1),(10,.i i)],[],0⟩) [] (fun i=>i) ⟨rfl,κ,κ,rfl,rfl,trivial,fun i h=>h⟩ ?_
 intro i hi;obtain rfl:i=0:=by omega
 simp only[go_sem,J,lsP,beq_self_eq_true]
theorem fnd0(t:UInt64):FPure prog 136 [.p (.data 4 0 []),.w t] (.tup [.i 0,.b false]):=by
 apply ba f136 [0,1,4,5,6,7,8,9,10,11,18];intro c J e Y Z;refine θ ?_;refine ay Y e [0,1,4,5,6,7,8,9,10,11,18] 0 (fun i=>⟨21,[(1,.w t),(8,.p (.data 4 0 [])),(9,.i 0),(10,.i i)],[],0⟩) [] (fun i=>i) ⟨rfl,κ,κ,rfl,rfl,trivial,fun i h=>h⟩ ?_
 intro i hi;obtain rfl:i=0:=by omega
 simp only[go_sem,J]
theorem lva(x:Ls)(h:gX x=true):FPure prog 52 [.p (.data 4 1 (lsP x))] (.i 0):=by
 apply ba f52 [0,2,3,4,6,9,10,11,12,13,19,29];intro c J e Y Z;refine θ ?_;refine ay Y e [0,2,3,4,6,9,10,11,12,13,19,29] 1 (fun i=>⟨31,[(0,.p (.data 4 1 (lsP x))),(10,.p (.data 4 1 (lsP x))),(11,.i 1),(12,.i i)],[],i⟩) [] (fun i=>i) ⟨rfl,κ,κ,rfl,rfl,trivial,fun i h=>h⟩ ?_
 intro i hi;rcases ea i 1 with a|a
 .obtain rfl:i=0:=by omega
  simp only[go_sem,J,lsP];apply aa Z (BW x);simp only[go_sem,J,h];apply aa Z (fnd0 x.tag);simp only[go_sem,J,show IntKind.i64.wrap (0+1)=1 from ε];refine⟨π,ω,eh rfl ?_ κ rfl rfl (c7 _)⟩
  simp only[go_sem,lsP]
 .obtain rfl:i=1:=by omega
  simp only[go_sem,J]
theorem take(x:Ls)(h:gX x=true)(l e:Int)(n:Nat)(cs:List PV)(q:if x.nx=x.tto then n=0/\cs=[]/\l=0/\e=13 else n=1/\cs=lsP {x with nx:=x.nx+1}/\l=x.nx/\e=0):FPure prog 43 [.p (.data 4 1 (lsP x)),.w x.tag] (.tup [.p (.data 4 n cs),.i l,.i e]):=by
 have k:FPure prog 116 [.p (.data 4 1 (lsP x)),.w x.tag] (.tup [.i 0,.i 0]):=by
  apply ba f116 [0,1,4,5,6,7,8,12,21];intro c J e Y Z;refine δ (lva x h) ?_;refine δ (fnd x) ?_;simp only[go_sem,J]
 have w:Con prog 117 [.p (.data 4 1 (lsP x))] [] (.sl 0 0 1 4) [(0,some ⟨98,[.w x.tag,.i x.fr,.i x.tto,.i x.nx]⟩)]:=by
  apply bn 0 f117 [0,2,4];intro c J h0' Y Z;have h0:∀i,c.ρ0 i≠none->False:=fun i hi=>by cases h0' i hi
  refine θ ?_;refine lW [1] rfl κ ?_ rfl rfl (fun i hi=>?_)
  .simp only[go_sem,lsP]
  .simp[liveK] at hi;simp;omega
 have hb:0<=x.nx/\x.nx<=16:=by unfold gX at h;simp only[decide_eq_true_eq] at h;omega
 apply ba f43 [0,1,4,5,6,7,8,9,10,18,31];intro c J e Y Z;refine δ k ?_;split at q
 .rename_i he;obtain⟨rfl,rfl,rfl,rfl⟩:=q;simp only[go_sem,J,lsP,he]
 .rename_i he;obtain⟨rfl,rfl,rfl,rfl⟩:=q;simp only[go_sem,J,lsP,he];refine wF Y (ks:=[0,1,4,5,6,7,8,9,10,18,31]) (n:=2000) 1 (by rw[J];exact w) rfl rfl (by simp[ax,ak,keys]) (by simp[bV,ak,ax]) ?_
  simp only[go_sem,J,ab (n:=x.nx+1) ω ω];rfl
theorem pres(d:aU)(n B:Int)(u:-1<=n/\n<100)(hv:VLen d.v.prs)(hb:d.v.j.bs.length<1000000000)(hB:i64 B):FPure prog 16 [bg d,.i n,.i B] (ae0 (rzM d n B)):=by
 obtain⟨R,hR⟩:∃R,rzM d n B=R:=⟨_,rfl⟩;rw[hR];unfold rzM at hR;apply ba f16 [0,1,2,3,6,7,8,9,11,12,13,14,15,16,19,22,23,24,25,31,49,68];intro c J e Y Z;by_cases a:d.on=true
 case neg =>
  rw[b0 a] at hR;subst hR;have a:d.on=false:=by simpa using a
  simp only[go_sem,J,a]
 rw[b9 a] at hR;have s:=K5 d hv;have w:(bq d.v.prs).length<=16:=sL d.v.prs 16;have k:∀p,p∈bq d.v.prs↔p.1<16/\(bc d.v.prs p.1).e=0/\p.2=(bc d.v.prs p.1).x:=by
  rintro⟨i,x⟩;unfold bq cz;simp only[List.mem_filterMap,List.mem_range];constructor
  .rintro⟨j,h,e⟩;split at e
   .cases e;exact⟨h,by assumption,rfl⟩
   .cases e
  .rintro⟨h,e,rfl⟩;exact⟨i,h,by rw[b9 e]⟩
 generalize bq d.v.prs=l at *;simp only[go_sem,J,a];apply aa Z s;refine θ ?_;refine bl Y e [0,1,2,3,6,7,8,9,11,12,13,14,15,16,19,22,23,24,25,31,49,68] (α:={i:Nat // i<=l.length/\∀p,p∈l->(p.1:Int)=n->p∈l.drop i}) (fun i=>⟨77,[(1,.i n),(2,.i B),(3,.ptr 0 0),(6,.ptr 1 0),(22,.p (.data 5 l.length (n8 l))),(23,.i l.length),(24,.i i.1)],[(1,some ⟨41,dvC dv0⟩),(0,some ⟨41,dvC (bp d)⟩)],2⟩) (fun i=>l.length-i.1) ⟨0,gi _,fun p h _=>h⟩ [] (fun i=>i) ⟨rfl,κ,κ,rfl,rfl,trivial,fun i h=>h⟩ ?_
 rintro⟨i,g,h⟩;dsimp only at g h⊢;rcases ea i l.length with q|q
 .have o:=ac i
  have p:=O8 l i q;have m:l.getD i (0,ls0)∈l:=eS q _;have y:∀p,p∈l->(p.1:Int)=n->p=l.getD i (0,ls0)\/p∈l.drop (i+1):=fun p a b=>by have:=h p a b;rw[hE q,hZ] at this;rwa[show l.getD i (0,ls0)=l[i] from by simp[cR,q]]
  generalize l.getD i (0,ls0)=z at *;have hc:((i:Int)<(l.length:Int)):=ω;by_cases r:(z.1:Int)=n
  .subst r;obtain⟨z1,z2,z3⟩:=(k z).1 m;have t:=yL z2;rw[h5,b9 ⟨ω,ω,z2⟩,<-z3] at hR;rw[<-z3] at t;unfold rzN at hR;by_cases v:z.2.nx=z.2.tto
   .rw[b9 v] at hR;subst hR;simp only[go_sem,J,p,nlP,hc];refine⟨ω,?_⟩;refine x_f Z (take z.2 t 0 13 0 [] (by rw[b9 v];exact⟨rfl,rfl,rfl,rfl⟩)) ?_;simp only[go_sem,J]
   .rw[b0 v] at hR;have x:=pU {z.2 with nx:=z.2.nx+1};have A:=TA {z.2 with nx:=z.2.nx+1};have W:n'.wrap (16+(z.1:Int))=16+(z.1:Int):=ab ω ω;have tk:=take z.2 t z.2.nx 0 1 (lsP {z.2 with nx:=z.2.nx+1}) (by rw[b0 v];exact⟨rfl,rfl,rfl,rfl⟩);generalize dy {z.2 with nx:=z.2.nx+1}=b at *;simp only[go_sem,J,p,nlP,hc];refine⟨ω,?_⟩;refine x_f Z tk ?_;simp only[go_sem,J,lsP,W];apply aa Z A;refine θ ?_;refine x_f Z (pst d [(16+(z.1:Int),b)] B hb (fun y f=>by rw[n4.1 f];show b.length<1000;omega) η hB) ?_;generalize dF d [(16+(z.1:Int),b)] B=S at *;unfold rzO at hR;by_cases f:S.e=0
    .rw[b9 f] at hR;subst hR;simp only[go_sem,J,f];exact π
    .rw[b0 f] at hR;subst hR;simp only[go_sem,J,f];exact π
  .simp only[go_sem,J,p,nlP,hc,r,o];exact⟨ω,⟨i+1,ω,fun p a b=>(y p a b).resolve_left (fun c=>r (c▸b))⟩,by dsimp only;omega,aA [0,1] rfl κ κ rfl rfl (cV rfl)⟩
 obtain rfl:i=l.length:=by omega
 rw[b0 (fun c=>by have:=h (n.toNat,(bc d.v.prs n.toNat).x) ((k _).2 ⟨by omega,c.2.2,rfl⟩) (by dsimp only;omega);simp at this)] at hR;subst hR;simp only[go_sem,J,(ω:¬((l.length:Int)<(l.length:Int)))]
def fsC(id:List UInt8):List (Nat×Cr)->Option Nat
 |[]=>none
 |p::l=>if idR p.2=id then some p.1 else fsC id l
theorem fsI(D:Nat->CR)(id:List UInt8):∀k i,fsC id ((List.range' i k).filterMap fun i=>if(D i).e=0 then some (i,(D i).x) else none)=Ft D id i k
 |0,i=>rfl
 |k+1,i=>by
  rw[List.range'_succ,Ft,List.filterMap_cons];have:=fsI D id k (i+1);by_cases h:(D i).e=0
  .simp only[h,if_true,fsC,true_and];rw[this]
  .simp only[h,if_false,false_and];exact this
theorem fsD(id:List UInt8)(l:List (Nat×Cr))(i:Nat)(h:i<l.length):fsC id (l.drop i)=if idR (l.getD i (0,cr0)).2=id then some (l.getD i (0,cr0)).1 else fsC id (l.drop (i+1)):=by
 rw[hE h];simp[fsC,cR,h]
theorem prem(d:aU)(D:Nat->CR)(h:Cn d D)(id:List UInt8)(n:Nat)(s:id.length=n)(m:n<100000)(t:d.v.j.bs.length<1000000000)(B:Int)(u:i64 B):FPure prog 14 [bg d,.p (.data 1 n (id.map bt)),.i B] (th (rmM d D id B)):=by
 obtain⟨R,hR⟩:∃R,rmM d D id B=R:=⟨_,rfl⟩;rw[hR];unfold rmM at hR;apply ba f14 [0,1,2,3,6,7,8,9,10,11,13,16,25,32,33,34,35,41];intro c J o Y Z;by_cases hon:d.on=false
 .rw[b9 hon] at hR;subst hR;simp only[go_sem,J,hon]
 have a:d.on=true:=by simpa using hon
 rw[b0 hon] at hR;have e:=num d id n s m h.vl;have z:dU (bq d.v.prs) (bA 10 0 id)<16:=lH _ 16 ε _ (fun p g=>ic _ 16 p g);generalize dU (bq d.v.prs) (bA 10 0 id)=N at *;simp only[go_sem,J,a];apply aa Z e;by_cases q:N=0
 .rw[b9 q] at hR;subst hR;simp only[go_sem,J,q]
 rw[b0 q] at hR;have y:n'.wrap (16+(N:Int))=16+(N:Int):=ab ω ω;have w:=wZ d D h.vl h.p;have g:(fz D 8).length<=8:=B9 D 8;have k:=LK D 8;obtain⟨V,v⟩:∃V,fsC id (fz D 8)=V:=⟨_,rfl⟩;rw[show Ft D id 0 8=fsC id (fz D 8) from (fsI D id 8 0).symm,v] at hR;generalize fz D 8=l at *;simp only[go_sem,J,q,y];apply aa Z w;simp only[go_sem,J]
 refine bl Y o [0,1,2,3,6,7,8,9,10,11,13,16,25,32,33,34,35,41] (α:={i:Nat // i<=l.length/\fsC id (l.drop i)=V}) (fun i=>⟨57,[(1,.p (.data 1 n (id.map bt))),(2,.i B),(3,.ptr 0 0),(6,.ptr 1 0),(11,.sl 2 0 1 2),(32,.p (.data 10 l.length (n9 l))),(33,.i l.length),(34,.i i.1)],[(0,some ⟨41,dvC (bp d)⟩),(1,some ⟨41,dvC dv0⟩),(2,some ⟨48,[.i (16+(N:Int)),.p (.v (.slice none 0 0))]⟩)],3⟩) (fun i=>l.length-i.1) ⟨0,gi _,v⟩ [] (fun i=>i) ⟨rfl,κ,κ,rfl,rfl,trivial,fun i h=>h⟩ ?_
 rintro⟨i,gi,F⟩;dsimp only at gi F⊢;rcases ea i l.length with x|x
 .have A:=ac i
  have p:=Pc l i x;have K:=k _ (eS x (0,cr0));rw[fsD id l i x] at F;generalize l.getD i (0,cr0)=b at *;obtain⟨C,W⟩:=h.ok _ K.1 K.2.1;rw[<-K.2.2] at C W;have G:=isC b.2 C W id n;have hc:((i:Int)<(l.length:Int)):=ω;by_cases I:idR b.2=id
  .rw[b9 I] at F;subst F;have M:n'.wrap (64+(b.1:Int))=64+(b.1:Int):=ab ω ω;simp only[go_sem,J,hc,p,ncP,crP];refine⟨ω,?_⟩;apply aa Z G;simp only[go_sem,J,I,beq_self_eq_true,M];have U:=pst d [(16+(N:Int),[]),(64+(b.1:Int),[])] B t (fun y f=>by simp at f;rcases f with rfl|rfl<;>exact Nat.succ_pos _) η u;rw[show dF d [(16+(N:Int),[]),(64+(b.1:Int),[])] B=R from hR] at U;refine x_f Z (pn U _ rfl 2 rfl) ?_;simp only[go_sem,J]
  .rw[b0 I] at F;have I:(idR b.2==id)=false:=by simpa using I
   simp only[go_sem,J,hc,p,ncP,crP];refine⟨ω,?_⟩;apply aa Z G;simp only[go_sem,J,I,A];exact⟨⟨i+1,x,F⟩,by dsimp only;omega,aA [0,1,2] rfl κ κ rfl rfl (cV rfl)⟩
 obtain rfl:i=l.length:=by omega
 rw[List.drop_length] at F;subst F;simp only[go_sem,J,(ω:¬((l.length:Int)<(l.length:Int)))];have U:=pst d [(16+(N:Int),[])] B t (fun y f=>by rw[n4.1 f];exact Nat.succ_pos _) η u;rw[show dF d [(16+(N:Int),[])] B=R from hR] at U;refine x_f Z (pn U _ rfl 1 rfl) ?_;simp only[go_sem,J]
theorem lwC(n:Int)(l:List Int)(L:Nat)(C:l.length=L)(m:L<9223372036854775808)(k:Int)(B:Int):FPure prog 4 [.i n,.p (.data 1 L (l.map qI)),.i k,.i B] (.b true):=by
 obtain⟨f,p,G,E,⟨s,nn,el⟩,hG,g⟩:=KK n l L C m;have o:Lnn p.d:=s.same E;have o1:=K0 p.d;have o3:=o.off p.d.now (flOf p.d.v.j);have k1:=cg k 7 ε ε;have k2:=cg (ishr .i64 k 3) 31 ε ε;have k3:=cg B 511 ε ε;have k4:=cg B 127 ε ε;obtain⟨i0,a0,hid⟩:=aa2 k;obtain⟨x,w1,i1⟩:∃z,n'.wrap (band .i64 B 511-150)=z/\i64 z:=⟨_,ab ω ω,by unfold i64;omega⟩;obtain⟨y,w2,i2⟩:∃z,n'.wrap (band .i64 (ishr .i64 k 3) 31-1)=z/\-1<=z/\z<100:=⟨_,ab ω ω,ω,ω⟩;obtain⟨z,w3,i3⟩:∃z,n'.wrap (band .i64 B 127-50)=z/\i64 z:=⟨_,ab ω ω,by unfold i64;omega⟩
 obtain⟨O,hO,h1,r⟩:∃O,O=(if band .i64 (ishr .i64 k 10) 15=0 then kV p.d.fac p.d.now (flOf p.d.v.j) else p.d)/\Lnn O/\DInv f O G:=by
  refine⟨_,rfl,?_⟩;split;exact⟨o3,.inr (Pu s)⟩;exact⟨o,s⟩
 obtain⟨id,li,hd⟩:∃id:List UInt8,id.length<2000/\(p.ids.length=0/\id=i0\/∃j:Nat,¬p.ids.length=0/\(band .i64 k 7).tmod p.ids.length=j/\(p.ids.map byP).drop j=byP id::(p.ids.map byP).drop (j+1)/\j<p.ids.length):=by
  by_cases t:p.ids.length=0
  .exact⟨i0,ω,.inl ⟨t,rfl⟩⟩
  .obtain⟨j,q,e⟩:=HC _ k1.1 p.ids.length ω;exact⟨_,el _ (eS e []),.inr ⟨j,t,q,Ti p.ids j e,e⟩⟩
 have j:StOk O.v.prs/\O.v.j.bs.length<1000000000:=by
  rcases r with r|r
  .exact⟨r.st,r.len⟩
  .exact⟨by rw[show O.v.prs=[] from by rw[r.is];rfl];exact⟨ε,ε,fun _ _=>.inl rfl,.inl rfl⟩,r.len⟩
 have v:=r.vl.1;obtain⟨D,cn⟩:=ou O v j.1;obtain⟨R,e1,e2,c2⟩:=Jl O D cn id _ rfl ω j.2 x i1;obtain⟨a,S,f1,-,-,f2,c4⟩:=wm O v y z j.2 i3;have c1:=prem O D cn id _ rfl ω j.2 x i1;have c3:=pres O y z i2 v j.2 i3;rw[e1] at c1;rw[f1] at c3;have c5:=sam _ (h1.st r hG e2);have c6:=sam _ (h1.st r hG f2)
 refine ba f4 [0,1,2,3,8,9,10,11,12,13,14,15,16,17,18,19,20,21,22,23,24,25,34,42] ?_;intro c J b Y Z;refine δ g ?_;by_cases h:band .i64 (ishr .i64 k 10) 15=0
 case' pos=>rw[b9 h] at hO;rw[<-hO] at o1;simp only[go_sem,J,h];apply aa Z o1;simp only[go_sem,J]
 case' neg=>rw[b0 h] at hO;subst hO;simp only[go_sem,J,h]
 all_goals apply aa Z hid;rcases hd with⟨t,rfl⟩|⟨j,t,q,u,e⟩
 case' pos.inl|neg.inl=>rw[a0] at c1 c2;simp only[go_sem,J,(ω:¬((p.ids.length:Int)>0)),w1]
 case' pos.inr|neg.inr=>simp only[go_sem,J,(ω:((p.ids.length:Int)>0)),q,u,byP,w1];refine⟨ω,⟨ω,ω⟩,π,?_⟩
 all_goals (apply aa Z c1;simp only[go_sem,J,w1];apply aa Z c2;simp only[go_sem,J,w2,w3];apply aa Z c3;simp only[go_sem,J,w2,w3];apply aa Z c4;refine δ c5 ?_;refine δ c6 ?_;refine δ Id ?_;simp only[go_sem,J])
end Go.Abs
namespace Go.Proofs.YthojgcnbclfinaaGreatDoor
open Go Abs RowKit Proofs.Tryz
section
open Go.WideShapes Go.ChangeShapes Go.ChangeAt
theorem BI{D:Type}(k:Nat)(f:D->List Value):∀(n:Nat) (cs:List Value) (ds:List D),cs.length=n*k->ds.length=n ->
 (∀i d,ds[i]?=some d->(cs.drop (i*k)).take k=f d)->cs=ds.flatMap f:=by
 intro n
 induction n with
 |zero =>
  intro cs ds g a _;have b:cs=[]:=j'.1 ω;have c:ds=[]:=j'.1 a;subst b;subst c;rfl
 |succ n l =>
  intro cs ds g a h;cases ds with
  |nil=>cases a
  |cons d ds =>
   have j:=h 0 d rfl;rw[Nat.zero_mul,List.drop_zero] at j
   have h1:=l (cs.drop k) ds (by rw[List.length_drop,g,Nat.succ_mul];omega) (by simpa using a) (fun i x m=>by
    have:=h (i+1) x (by simpa using m)
    rw[List.drop_drop,Nat.add_comm k,<-Nat.succ_mul]
    exact this)
   rw[c',<-h1,<-j,List.take_append_drop]
def BJ:DataW Unit->Value
 |.lit (.int k n) => .int k n
 |_=>undef
def Tt:DataW Unit->List Value
 |.agg l=>l.map BJ
 |d=>[BJ d]
end
section
open Go.WideShapes Go.ChangeShapes Go.ChangeAt
variable {w : World} {fuel : Nat} {base : Nat} {sp : Nat → Bool} {held : Bool} {e : TypeId × Value → Unit}
theorem zy{t:TypeId}{k:IntKind}{cs:List Value}{x:DataW Unit×List MemPlace}(a:prog.underlying t=some (.int k))(h:DataW.trod e prog w base sp held fuel t cs=some x):cs=[BJ x.1]:=by
 obtain⟨n,rfl,rfl,-⟩:=DataW.trod_int a h;rfl
theorem KM{t:TypeId}{n:Nat}{cs:List Value}{ds:List (DataW Unit)}{p:List MemPlace}(g:prog.underlying t=some (.array n 5))(k:prog.cellsOf t=n)
 (h:DataW.trod e prog w base sp held fuel t cs=some (.agg ds,p)):cs=ds.map BJ:=by
 obtain⟨xs,m,-,c,hl,hxn,hf⟩:=DataW.trod_array g h;have j:prog.cellsOf 5=1:=π;simp only[Prod.mk.injEq,DataW.agg.injEq] at c;obtain⟨rfl,-⟩:=c
 have:=BI 1 (fun x:DataW Unit×List MemPlace=>[BJ x.1]) n cs xs ω hxn (fun i d f=>by
  have b:i<n:=by
   rw[<-hxn];exact(i'.1 f).1
  have:=hf i b
  rw[f,j] at this
  exact zy underlying5 this)
 exact aiD
theorem HN{cs:List Value}{x:DataW Unit×List MemPlace}(h:DataW.trod e prog w base sp held fuel 309 cs=some x):cs=Tt x.1:=by
 obtain⟨xs,m,-,g,l,a,i⟩:=DataW.trod_struct underlying309 h;have n:prog.cellsOf 309=2:=π;have o:prog.cellsOf 5=1:=π;rw[n] at l;have b:DataW.trod e prog w base sp held m 5 ((cs.drop 0).take (prog.cellsOf 5))=xs[0]?:=i 0 _ rfl;have c:DataW.trod e prog w base sp held m 5 ((cs.drop 1).take (prog.cellsOf 5))=xs[1]?:=i 1 _ rfl;rw[o] at b c;have d:xs.length=2:=a
 match xs,d,g,b,c with
 |[x0,x1],_,g,b,c =>
  have j:=zy underlying5 (show _=some x0 from b);have k:=zy underlying5 (show _=some x1 from c);have f:x.1 = .agg [x0.1,x1.1]:=by rw[g];rfl
  rw[f];clear g f b c h i a
  match cs,l,j,k with
  |[c0,c1],_,j,k =>
   have p:c0=BJ x0.1:=k' j;have q:c1=BJ x1.1:=k' k;rw[p,q];rfl
theorem Ek{t:TypeId}{n:Nat}{cs:List Value}{ds:List (DataW Unit)}{p:List MemPlace}(g:prog.underlying t=some (.array n 309))(k:prog.cellsOf t=n*2)
 (h:DataW.trod e prog w base sp held fuel t cs=some (.agg ds,p)):cs=ds.flatMap Tt:=by
 obtain⟨xs,m,-,c,hl,hxn,hf⟩:=DataW.trod_array g h;have j:prog.cellsOf 309=2:=π;simp only[Prod.mk.injEq,DataW.agg.injEq] at c;obtain⟨rfl,-⟩:=c
 have:=BI 2 (fun x:DataW Unit×List MemPlace=>Tt x.1) n cs xs ω hxn (fun i d f=>by
  have b:i<n:=by
   rw[<-hxn];exact(i'.1 f).1
  have:=hf i b
  rw[f,j] at this
  exact HN this)
 exact aiD
end
section
open Go.WideShapes Go.ChangeShapes Go.ChangeAt
theorem Tu:prog.globalNamed "unicode/utf8.acceptRanges"=some 1:=π
theorem Tv:prog.globalNamed "unicode/utf8.first"=some 0:=π
theorem uT{W:World}{n:String}{g:Nat}{cs:Array Value}{l:List Value}(hg:prog.globalNamed n=some g)(hv:W.var? prog n=some cs)(c:cs.toList=l)(h1:l.all (fun v=>v.oneCell')=true)(d:l≠[]) :
 g<W.heap.size/\∀j v,l[j]?=some v->v.oneCell'=true/\W.cell? ⟨g,j,none⟩=some v:=by
 have a:∀j v,l[j]?=some v->v.oneCell'=true/\W.cell? ⟨g,j,none⟩=some v:=by
  intro j v b;refine⟨g'.1 h1 v (List.mem_of_getElem? b),?_⟩;rw[World.var?_cell hg hv j,<-b,<-c,Array.getElem?_toList]
 refine⟨?_,a⟩;cases l with
 |nil=>exact absurd rfl d
 |cons v r =>
  have:=(a 0 v rfl).2;rcases r' g W.heap.size with h|h
  ·exact h
  ·simp[World.cell?,Array.getElem?_eq_none h] at this
theorem HO:(Go.Pinned.numbers .u8 Go.Pinned.utf8FirstZ).map BJ=qV:=π
theorem HP:qV≠[]:=fun b=>by
 have a:qV.length=256:=π;rw[b] at a;cases a
theorem OP{W:World}(h:laidMetH prog Rows.keystoreRemovesRow.laid W):GlobOk (fun b=>b<W.heap.size) W:=by
 rw[MakeChecks.laidMetH_plain _ _ _ π] at h;obtain⟨ps,⟨y,z,p,A,p0,B,d,i,j,k,⟨C,D,q,E,F,G,f,m,n,o,_,_⟩,_⟩,_,_⟩:=h;obtain rfl:=v'.inj (Tu.symm.trans d);obtain rfl:=v'.inj (Tv.symm.trans f);have r:(prog.globals[1]?).map (·.type)=some 310:=π;have s:(prog.globals[0]?).map (·.type)=some 307:=π;obtain rfl:=v'.inj (r.symm.trans i);obtain rfl:=v'.inj (s.symm.trans m);have t:=Ek underlying310 π k;have u:=(KM (ds:=Go.Pinned.numbers .u8 Go.Pinned.utf8FirstZ) underlying307 π o).trans HO;have v:=uT (l:=pB) d j t π (by simp[pB]);have x:=uT (l:=qV) f n u π HP;intro g cs hg;unfold od at hg;cases a:Nat.beq g 0 with
 |true=>rw[a] at hg;simp only[v'.injEq] at hg;subst hg;rw[t' a];exact x
 |false =>
  cases c:Nat.beq g 1 with
  |true=>rw[a,c] at hg;simp only[v'.injEq] at hg;subst hg;rw[t' c];exact v
  |false=>rw[a,c] at hg;cases hg
theorem zA(os:Os)(f:os.Started)(H:Type)(enc:TypeId×Value->H) :
 ReturnsInHanded {} checked os 4 .any (fun w a=>(Rows.keystoreRemovesSpec.pre enc prog f4 [] false w a/\laidMetH prog Rows.keystoreRemovesRow.laid w)/\sizedMet enc prog f4 (OpenSpec.ofChange Rows.keystoreRemovesSpec) false w a)
  (Rows.keystoreRemovesSpec.post enc prog f4 false true false false):=by
 refine returnsInHanded_of_change_and (C:=checked) (X:=fun w _=>laidMetH prog Rows.keystoreRemovesRow.laid w) (fun _ _ _ S h=>h.of_heap S) own f π func4
  (ChangeSpec.witness_shaped (enc:=enc) (C:=checked) (os:=os) (X:=fun w _=>laidMetH prog Rows.keystoreRemovesRow.laid w) false (World.laidAll prog os Rows.keystoreRemovesRow.laid) #[.int .i64 0,.slice none 0 0,.int .i64 0,.int .i64 0] 8 (World.laidAll_os _ _ _)
   (World.shaped_of_ZipB π π) π π π
   (by rw[MakeChecks.laidMetH_plain _ _ _ π];exact laidMet_laidAll _ π π)) ?_
 intro W base a ds gs n g K _ T U _;have b:∀(j:Nat) t v,f4.params[j]?=some t->a[j]?=some v->Value.okWide prog W .any base t v:=g;have k:=K;obtain⟨p,q,r,V,rfl,hfz,hnd⟩:=K;have s:DataW.TrodAll enc prog W 0 (fun _=>true) true f4.params.toList a.toList ds p:=r;have u:=s;rw[params4] at s b
 obtain⟨v0,vs0,d0,ds0,p0,q0,y,rfl,rfl,h0,r0⟩:=trodAll_cons s
 obtain⟨v1,vs1,d1,ds1,p1,q1,rfl,rfl,rfl,h1,r1⟩:=trodAll_cons r0
 obtain⟨v2,vs2,d2,ds2,p2,q2,rfl,rfl,rfl,h2,r2⟩:=trodAll_cons r1
 obtain⟨v3,vs3,d3,ds3,p3,q3,rfl,rfl,rfl,h3,r3⟩:=trodAll_cons r2
 obtain⟨rfl,rfl,rfl⟩:=trodAll_nil r3;obtain rfl:a=#[v0,v1,v2,v3]:=by cases a;simp_all
 obtain⟨rfl,rfl⟩:=trodVars_none V;have z:∀x∈p0++(p1++(p2++(p3++[]))),x.block<W.heap.size:=fun x A=>k.lt x (by simpa using A)
 obtain⟨z0,e0,-,-,-⟩:=open_int underlying3 (b 0 _ v0 rfl rfl) h0
 obtain⟨A1,L1,C1,D1⟩:=okWide_slice underlying22 (b 1 _ v1 rfl rfl);have e1:v1.cells.toList=[v1]:=by rw[D1];rfl
 obtain⟨n1,O1⟩:=h1;rw[e1] at O1;obtain⟨l1,m1,w1,g1⟩:=PE underlying22 underlying3 π O1
 obtain⟨z2,e2,-,-,-⟩:=open_int underlying3 (b 2 _ v2 rfl rfl) h2
 obtain⟨z3,e3,-,-,-⟩:=open_int underlying3 (b 3 _ v3 rfl rfl) h3
 refine(IE (lwC z0 l1 l1.length rfl (Nat.lt_succ_of_le m1) z2 z3) (lm func4 rfl π) (OP U) rfl ?_).mono fun e W' ⟨he,Q⟩=>?_
 ·intro i c d
  match i,d with
  |0,d =>
   simp only[d',v'.injEq] at d;subst d;subst e0;exact .p _ _ (.v _ rfl)
  |1,d =>
   simp only[l',d',v'.injEq] at d;subst d;exact .p _ _ g1
  |2,d =>
   simp only[l',d',v'.injEq] at d;subst d;subst e2;exact .p _ _ (.v _ rfl)
  |3,d =>
   simp only[l',d',v'.injEq] at d;subst d;subst e3;exact .p _ _ (.v _ rfl)
  |i+4,d=>simp at d
 ·subst he;refine⟨_,rfl,xe (pa:=p0++(p1++(p2++(p3++[])))) (pv:=[]) k (fun _ _ _=>trodAll_cons_mk (shut_bool underlying4 _) trodAll_mk0) (fun sp I=>om Q ?_ u z sp (fun x A=>I x (by simpa using A))) (fun _ _=>rfl) rfl Q (ok_one π rfl (okWide_bool_mk underlying4 _))⟩;rw[params4];intro t ht;simp only[List.mem_cons,List.not_mem_nil,or_false] at ht;rcases ht with rfl|rfl|rfl|rfl<;>exact⟨π,of_decide_eq_true π⟩
theorem El:Rows.KeystoreRemovesSaid :=
 OpenClaim.holds_of_wide 4 f4 rfl rfl rfl rfl rfl rfl rfl ⟨rfl,rfl,rfl,rfl,rfl⟩ rfl rfl rfl rfl rfl sF func4 zB Em En
  (fun os a H enc _=>zA os a H enc)
theorem removes_holds:Rows.KeystoreRemovesCardSaid :=
 Claim7.holds_tied_plain_at .later [] [.data,.pinned] true Rows.keystoreRemovesCard.stood.harness false
  El (fun _ h=>by cases h) Eo (fun _ h=>by cases h) keystoreRemoves_row_tie rfl ⟨rfl,rfl⟩ π rfl
  (fun f c d a=>by
   obtain rfl:f=4:=v'.inj (sF.symm.trans d) |>.symm
   obtain rfl:c=f4:=(v'.inj (func4.symm.trans a)).symm
   exact⟨BK,fun j t b=>by
    rw[params4] at b
    have g:t∈[3,22,3,3]:=by simpa using Array.mem_of_getElem? b
    exact(show prog.wantsStandIn t=false by simpa using g'.1 BL t (by simp only[List.mem_cons,List.not_mem_nil,or_false] at g⊢;rcases g with h|h|h|h<;>simp[h]))⟩)
  Ep

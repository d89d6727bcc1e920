/- KeystoreAtomic returns true for all arguments; there is no condition. -/
import Derived.Test.YtgnmplopdkgccaaGreatDoorDv
import Derived.Test.YtgnmplopdkgccaaGreatDoorTie
import Derived.LaidMore
import Derived.Stop.Joined
import Derived.OpenShut
import Derived.Lay
import Derived.Test.YtgnmplopdkgccaaGreatDoorAtomicFacts
import Derived.Test.YtgnmplopdkgccaaGreatDoorAtomicGoes
set_option linter.all false
set_option maxRecDepth 100000
set_option maxHeartbeats 4000000
open List renaming take_of_length_le→a',mem_singleton→b',flatMap_cons→c',getElem?_cons_zero→d',mem_cons_self→e',length_cons→f',all_eq_true→g',getD_eq_getElem?_getD→h',getElem?_eq_some_iff→i',length_eq_zero_iff→j',head_eq_of_cons_eq→k',getElem?_cons_succ→l',mem_cons_of_mem→m'
open Go.IntKind renaming i64→n',u64→o'
open Nat renaming le_of_ble_eq_true→q',lt_or_ge→r',lt_of_le_of_lt→s',eq_of_beq_eq_true→t',le_refl→u'
open Option renaming some→v'
open Bool renaming eq_false_or_eq_true→w',false_eq_true→x',true_or→y',or_true→z',or_self→A'
namespace Go.Abs
open RowKit Proofs Proofs.Tryz
attribute[go_sem]ntmps27 results27 ntmps154 results154 ntmps83 results83 ntmps22 results22 ntmps11 results11 ntmps82 results82 ntmps23 results23 ntmps25 results25 ntmps24 results24 ntmps7 results7 ntmps5 results5 ntmps3 results3
theorem pst(d:aU)(l:ai)(B:Int)(e:d.v.j.bs.length<1000000000)(g:∀x,x∈l->x.2.length<1000)(h:l.length<300)(k:i64 B):FPure prog 27 [bg d,.p (PL l),.i B] (th (dF d l B)):=by
 refine ba f27 [0,1,2,3,6,7,8,9,10,11,14,26] ?_;intro c J n Y Z;obtain⟨R,hR⟩:∃R,dF d l B=R:=⟨_,rfl⟩;rw[hR] at Y Z;(try rw[hR]);unfold dF at hR;by_cases hon:d.on=false
 .exact aiF
 rw[b0 hon] at hR;have a:d.on=true:=by simpa using hon
 simp only[go_sem,J,a];apply aa Z (Yz d.v _ l B rfl e ω (fun x m=>by have:=g x m;omega) k);rw[Qj];generalize rputM d.v l B=P at *;by_cases b:P.err=0
 .rw[b0 ω] at hR;subst hR;simp only[go_sem,J,b];exact av _
 .rw[b9 b] at hR;subst hR;simp only[go_sem,J,b];apply aa Z (xP d P.v P.err);simp only[go_sem,J]
theorem stm(k:UInt64):FPure prog 154 [.w k,.w 0,.i 176] (.p (.data 1 176 ((rN k 0 22).map bt))):=by
 apply ba f154 [0,1,2,6,7,8,9,19];intro c J o Y Z;refine θ ?_;refine⟨ε,?_⟩;refine ay Y o [0,1,2,6,7,8,9,19] 22 (fun i=>⟨36,[(0,.w k),(1,.w 0),(2,.i 176),(7,.sl 0 0 (8*i) 1),(8,.p (.v (.int .u64 i)))],[(0,some ⟨bP,cb (rN k 0 i)⟩)],1⟩) [] (fun i=>i) ?_ ?_
 .refine⟨rfl,?_,?_,rfl,rfl,trivial,fun i h=>h⟩
  .exact κ
  .simp only[go_sem,rN];exact af1
 intro i u;rcases ea i 22 with a|a
 .have m:o'.wrap ((i:Int)+1)=((i+1:Nat):Int):=by rw[ao ω ω];omega
  have q:(i:Int)=((UInt64.ofNat i).toNat:Int):=by rw[gr,ie ω]
  have l:=mV k 0 i;have hs:rN k 0 (i+1)=rN k 0 i++an [mkN k 0 i] 1:=rfl;rw[hs];have w:=GC [0,UInt64.ofNat i] 2 rfl ε;rw[show [0,UInt64.ofNat i].map wd=[wd 0,.v (.int .u64 (i:Int))] from by rw[q];rfl] at w;generalize rN k 0 i=b at *;simp only[go_sem,J,(ω:(((8*i:Nat):Int)<176))];refine x_f Z w ?_;refine δ (L4 k 5 (an [0,UInt64.ofNat i] 2) 16 (am _ 2) ε ε ε) ?_;rw[show bA k (UInt64.ofNat ((5:Int).toNat+1)) (an [0,UInt64.ofNat i] 2)=mkN k 0 i from rfl];generalize mkN k 0 i=y at *;refine θ ?_;refine x_f Z (qf y) ?_;simp only[go_sem,J,m];refine⟨⟨ω,ω⟩,a,aA [3] rfl ?_ ?_ rfl rfl (cV rfl)⟩
  .simp only[go_sem,(ω:8*(i+1)=8*i+8)]
  .simp only[go_sem,dl,dX];exact aC _ _ _ _
 obtain rfl:i=22:=by omega
 simp only[go_sem,J,(ω:¬(((8*22:Nat):Int)<176))];have l:=mV k 0 22;exact⟨ω,by rw[cD ω]⟩
theorem idC(x:Cr)(h:CrOk x)(r:x.rs=true):FPure prog 83 [.w 0,.w 0,.agg (crC x)] (.tup [.p (.data 1 176 ((idR x).map bt)),.i 0]):=by
 apply ba f83 [0,1,2,5,6,7,8,9,10,17,20];intro c J e Y Z;have b:=Il x h;have d:=Df x.sd [105,100] 0 ε;have s:=stm (ij x.sd [105,100] 0);rw[show rN (ij x.sd [105,100] 0) 0 22=idR x from rfl] at s;generalize idR x=I at *;generalize ij x.sd [105,100] 0=D at *;refine δ b ?_;simp only[go_sem,J,r];apply aa Z d;refine δ s ?_;simp only[go_sem,J]
theorem tag(b:List UInt8)(n:Nat)(u:b.length=n)(v:n<100000):FPure prog 22 [.p (.data 1 n (b.map bt))] (.w (bA 10 0 b)):=by
 apply ba f22 [0,2];intro c J e Y Z;refine δ (Up 10 b n u ω ε ε) ?_;simp only[go_sem,J];rfl
theorem duD(l:List (Nat×Ls))(t:UInt64)(i:Nat)(h:i<l.length):dU (l.drop i) t=if 0<(l.getD i (0,ls0)).1/\(l.getD i (0,ls0)).2.tag=t then(l.getD i (0,ls0)).1 else dU (l.drop (i+1)) t:=by
 rw[hE h];simp[dU,cR,h]
theorem num(d:aU)(b:List UInt8)(n:Nat)(u:b.length=n)(v:n<100000)(hv:VLen d.v.prs):FPure prog 11 [bg d,.p (.data 1 n (b.map bt))] (.tup [.i (dU (bq d.v.prs) (bA 10 0 b)),.b (decide (dU (bq d.v.prs) (bA 10 0 b)≠0))]):=by
 have a:=tag b n u v
 apply ba f11 [0,1,2,4,5,6,8,12,13,14,15,27];intro c J e Y Z;have s:=K5 d hv;have w:(bq d.v.prs).length<=16:=sL d.v.prs 16;generalize bA 10 0 b=t at *;generalize bq d.v.prs=l at *;refine δ a ?_;refine δ s ?_;refine θ ?_;refine bl Y e [0,1,2,4,5,6,8,12,13,14,15,27] (α:={i:Nat // i<=l.length/\dU l t=dU (l.drop i) t}) (fun i=>⟨31,[(6,.w t),(12,.p (.data 5 l.length (n8 l))),(13,.i l.length),(14,.i i.1)],[],1⟩) (fun i=>l.length-i.1) ⟨0,gi _,rfl⟩ [] (fun i=>i) ⟨rfl,κ,κ,rfl,rfl,trivial,fun i h=>h⟩ ?_
 rintro⟨i,g,h⟩;rcases ea i l.length with q|q
 .have o:=ac i
  have p:=O8 l i q;have y:=duD l t i q;rw[<-h] at y;generalize l.getD i (0,ls0)=z at *
  by_cases m:0<z.1/\z.2.tag=t
  .rw[b9 m] at y;simp only[go_sem,J,p,nlP,m.2,o,(ω:((i:Int)<(l.length:Int))),(ω:((z.1:Int)>0))];exact⟨ω,ω,by rw[y,qi];omega⟩
  .rw[b0 m] at y
   by_cases r:0<z.1
   .have:¬((z.2.tag.toNat:Int)=(t.toNat:Int)):=fun h=>m ⟨r,s9.1 ω⟩
    simp only[go_sem,J,p,nlP,this,o,(ω:((i:Int)<(l.length:Int))),(ω:((z.1:Int)>0))];exact⟨ω,⟨i+1,ω,y⟩,by show l.length-(i+1)<l.length-i;omega,aA [] rfl κ κ rfl rfl (cV rfl)⟩
   .simp only[go_sem,J,p,nlP,o,(ω:((i:Int)<(l.length:Int))),(ω:¬((z.1:Int)>0))];exact⟨ω,⟨i+1,ω,y⟩,by show l.length-(i+1)<l.length-i;omega,aA [] rfl κ κ rfl rfl (cV rfl)⟩
 .obtain rfl:i=l.length:=by omega
  rw[List.drop_length] at h;simp only[go_sem,J,h,(ω:¬((l.length:Int)<(l.length:Int)))];exact⟨rfl,rfl⟩
theorem fnd0(t:UInt64):FPure prog 82 [.p (.data 4 0 []),.w t] (.tup [.i 0,.b false]):=by
 apply ba f82 [0,1,4,5,6,7,8,9,10,11,18];intro c J e Y Z;refine θ ?_;refine ay Y e [0,1,4,5,6,7,8,9,10,11,18] 0 (fun i=>⟨21,[(1,.w t),(8,.p (.data 4 0 [])),(9,.i 0),(10,.i i)],[],0⟩) [] (fun i=>i) ⟨rfl,κ,κ,rfl,rfl,trivial,fun i h=>h⟩ ?_
 intro i hi;obtain rfl:i=0:=by omega
 simp only[go_sem,J]
theorem lva(x:Ls)(h:gX x=true):FPure prog 23 [.p (.data 4 1 (lsP x))] (.i 0):=by
 apply ba f23 [0,2,3,4,6,9,10,11,12,13,19,29];intro c J e Y Z;refine θ ?_;refine ay Y e [0,2,3,4,6,9,10,11,12,13,19,29] 1 (fun i=>⟨31,[(0,.p (.data 4 1 (lsP x))),(10,.p (.data 4 1 (lsP x))),(11,.i 1),(12,.i i)],[],i⟩) [] (fun i=>i) ⟨rfl,κ,κ,rfl,rfl,trivial,fun i h=>h⟩ ?_
 intro i hi;rcases ea i 1 with a|a
 .obtain rfl:i=0:=by omega
  simp only[go_sem,J,lsP];apply aa Z (BW x);simp only[go_sem,J,h];apply aa Z (fnd0 x.tag);simp only[go_sem,J,show IntKind.i64.wrap (0+1)=1 from ε];refine⟨π,ω,eh rfl ?_ κ rfl rfl (c7 _)⟩
  simp only[go_sem,lsP]
 .obtain rfl:i=1:=by omega
  simp only[go_sem,J]
theorem tiA:ae prog 152=⟨.array,16,16,some [.bool false,.bool false,.bool false,.bool false,.bool false,.bool false,.bool false,.bool false,.bool false,.bool false,.bool false,.bool false,.bool false,.bool false,.bool false,.bool false],[],4,16⟩/\ae prog 151=⟨.array,8,8,some [.bool false,.bool false,.bool false,.bool false,.bool false,.bool false,.bool false,.bool false],[],4,8⟩:=by and_intros<;>kernel_rfl
attribute[go_sem]tiA
theorem mbq(s:ai):∀p,p∈bq s↔p.1<16/\(bc s p.1).e=0/\p.2=(bc s p.1).x:=by
 rintro⟨i,x⟩;unfold bq cz;simp only[List.mem_filterMap,List.mem_range];constructor
 .rintro⟨j,h,e⟩;split at e
  .cases e;exact⟨h,by assumption,rfl⟩
  .cases e
 .rintro⟨h,e,rfl⟩;exact⟨i,h,by rw[b9 e]⟩
theorem bsS(u:List Bool)(k:Nat)(b:Bool):(bAs u).set k (.b b)=bAs (u.set k b):=by simp[bAs,List.map_set]
theorem bsA(u:List Bool)(k:Nat)(h:k<u.length):(bAs u).drop k=.b (u.getD k false)::(bAs u).drop (k+1):=by rw[hE (by simpa using h)];simp[bAs,cR,h]
theorem rom(d:aU)(dr:Int)(hv:VLen d.v.prs):FPure prog 25 [bg d,.i dr] (.i (jD d.v.prs dr)):=by
 apply ba f25 [0,1,2,4,5,7,8,11,12,13,14,26,32];intro c J e Y Z;have s:=K5 d hv;have w:(bq d.v.prs).length<=16:=sL d.v.prs 16;have k:=mbq d.v.prs
 generalize bq d.v.prs=l at *;refine θ ?_;apply aa Z s;refine θ ?_
 refine bl Y e [0,1,2,4,5,7,8,11,12,13,14,26,32] (α:={q:List Bool×Nat // q.1.length=16/\q.2<=l.length/\∀j,j<16->(q.1.getD j false=true↔(∃p,p∈l.take q.2/\p.1=j)/\(j:Int)≠dr)}) (fun q=>⟨34,[(1,.i dr),(5,.ptr 0 0),(11,.p (.data 5 l.length (n8 l))),(12,.i l.length),(13,.i q.1.2)],[(0,some ⟨152,bAs q.1.1⟩)],1⟩) (fun q=>l.length-q.1.2) ⟨(List.replicate 16 false,0),rfl,gi _,fun j h=>by rw[(by decide:∀j:_root_.Fin 16,(List.replicate 16 false).getD j.val false=false) ⟨j,h⟩];simp⟩ [] (sg 2 [1]) ⟨rfl,κ,?_,rfl,rfl,trivial,fun i h=>aw [1] 2 i h⟩ ?_
 .simp only[go_sem];exact aL _ _ _ _
 rintro⟨⟨u,i⟩,a,b,h⟩;dsimp only at a b h⊢;rcases ea i l.length with q|q
 .have o:=ac i
  have p:=O8 l i q;have m:=((k _).1 (eS q (0,ls0))).1;have y:l.take (i+1)=l.take i++[l.getD i (0,ls0)]:=by rw[List.take_add_one];simp[cR,q]
  generalize l.getD i (0,ls0)=z at *;have hne:((z.1:Int)!=dr)=decide ((z.1:Int)≠dr):=by by_cases h:(z.1:Int)=dr<;>simp[h]
  simp only[go_sem,J,p,nlP,o,(ω:((i:Int)<(l.length:Int))),hne];refine⟨ω,⟨ω,ω⟩,by rw[aeR];omega,⟨(u.set z.1 (decide ((z.1:Int)≠dr)),i+1),by simp[a],q,fun j f=>?_⟩,by dsimp only;omega,aA [0] rfl κ ?_ rfl rfl (cV rfl)⟩
  .dsimp only;rw[y];by_cases g:j=z.1
   .subst g;rw[show(u.set z.1 (decide ((z.1:Int)≠dr))).getD z.1 false=decide ((z.1:Int)≠dr) from by simp[cR,a,f]];exact⟨fun h=>⟨⟨z,by simp,rfl⟩,of_decide_eq_true h⟩,fun h=>qi h.2⟩
   .rw[show(u.set z.1 (decide ((z.1:Int)≠dr))).getD j false=u.getD j false from by simp[cR,List.getElem?_set_ne (Ne.symm g)],h j f];refine and_congr_left fun _=>⟨fun⟨p,x,r⟩=>⟨p,o1.2 (.inl x),r⟩,fun⟨p,x,r⟩=>⟨p,(o1.1 x).resolve_right fun v=>g (by rw[n4.1 v] at r;exact r.symm),r⟩⟩
  .simp only[go_sem];rw[bsS];exact aL _ _ _ _
 obtain rfl:i=l.length:=by omega
 have t:∀j,j<16->u.getD j false=eY d.v.prs dr j:=fun j f=>by
  rw[Bool.eq_iff_iff,h j f,eY,decide_eq_true_iff,List.take_length];exact and_congr_left fun _=>⟨fun⟨p,x,r⟩=>r▸((k p).1 x).2.1,fun x=>⟨(j,(bc d.v.prs j).x),(k _).2 ⟨f,x,rfl⟩,rfl⟩⟩
 simp only[go_sem,J,(ω:¬((l.length:Int)<(l.length:Int)))]
 refine bl Y e [0,1,2,4,5,7,8,11,12,13,14,26,32] (α:={i:Nat // (1<=i/\i<=16)/\jD d.v.prs dr=scan (fun i=>!eY d.v.prs dr i) i (16-i)}) (fun i=>⟨34,[(5,.ptr 0 0),(8,.i i.1)],[(0,some ⟨152,bAs u⟩)],1⟩) (fun i=>16-i.1) ⟨1,⟨ε,ε⟩,rfl⟩ [] (fun i=>i) ⟨rfl,κ,?_,rfl,rfl,trivial,fun i h=>h⟩ ?_
 .simp only[go_sem];exact aL _ _ _ _
 rintro⟨i,⟨h1,h6⟩,g⟩;rcases ea i 16 with q|q
 .have o:=ac i
  have p:=bsA u i ω;rw[t i q] at p;rw[(ω:16-i=(16-(i+1))+1),scan] at g;by_cases v:eY d.v.prs dr i=true
  .rw[v] at p;rw[b0 (by simp[v])] at g;simp only[go_sem,J,o,p,(ω:((i:Int)<16))];refine⟨ω,by rw[aeR];omega,⟨i+1,⟨ω,ω⟩,g⟩,by show 16-(i+1)<16-i;omega,aA [0] rfl κ ?_ rfl rfl (cV rfl)⟩
   simp only[go_sem];exact aL _ _ _ _
  .have v:eY d.v.prs dr i=false:=by simpa using v
   rw[v] at p;rw[b9 (by simp[v])] at g;simp only[go_sem,J,o,p,(ω:((i:Int)<16))];rw[g];exact⟨ω,by rw[aeR];omega,rfl⟩
 obtain rfl:i=16:=by omega
 simp only[go_sem,J,(ω:¬((16:Int)<16))];rw[g];rfl
theorem plc(d:aU)(D:Nat->CR)(x:Cr)(h:Cn d D):FPure prog 24 [bg d,.agg (crC x)] (.tup [.i (ig d.v.prs D x).1,.i (ig d.v.prs D x).2]):=by
 apply ba f24 [0,1,2,3,4,5,6,8,9,10,11,14,15,16,17,40,50,63,69];intro c J e Y Z;have s:=wZ d D h.vl h.p;have w:=B9 D 8;have k:=LK D 8;have F:ig d.v.prs D x=(if(plF (iR d.v.prs) x (fz D 8)).1<0 then Gz (kM (fz D 8)) else(plF (iR d.v.prs) x (fz D 8)).1,(plF (iR d.v.prs) x (fz D 8)).2):=rfl
 have G:(plF (iR d.v.prs) x (fz D 8)).1=-1\/0<=(plF (iR d.v.prs) x (fz D 8)).1:=by
  have:∀(l:List (Nat×Cr)) (s:Int×Int),(s.1=-1\/0<=s.1)->((l.foldl (fun s p=>if s.1<0/\p.2.rp=x.rp/\p.2.us=x.us then((p.1:Int),iR d.v.prs p.2) else s) s).1=-1\/0<=(l.foldl (fun s p=>if s.1<0/\p.2.rp=x.rp/\p.2.us=x.us then((p.1:Int),iR d.v.prs p.2) else s) s).1):=by
   intro l;induction l with
   |nil=>intro s h;exact h
   |cons p l a=>intro s h;rw[s7];apply a;split;exact .inr (Int.natCast_nonneg _);exact h
  exact this _ (-1,0) (.inl rfl)
 generalize fz D 8=l at *;refine θ ?_;apply aa Z s;refine θ ?_
 refine ay Y e [0,1,2,3,4,5,6,8,9,10,11,14,15,16,17,40,50,63,69] l.length (fun i=>⟨73,[(2,.ptr 0 0),(3,.ptr 1 0),(4,.i (plF (iR d.v.prs) x (l.take i)).1),(5,.i (plF (iR d.v.prs) x (l.take i)).2),(6,.ptr 2 0),(14,.p (.data 10 l.length (n9 l))),(15,.i l.length),(16,.i i)],[(0,some ⟨41,dvC (bp d)⟩),(1,some ⟨46,crC x⟩),(2,some ⟨151,bAs (kM (l.take i))⟩)],3⟩) [] (fun i=>i) ⟨rfl,?_,?_,rfl,rfl,trivial,fun i h=>h⟩ ?_
 .simp only[go_sem,List.take_zero];exact⟨rfl,rfl⟩
 .simp only[go_sem,List.take_zero];exact aL _ _ _ _
 intro i _;rcases ea i l.length with q|q
 .have o:=ac i
  have p:=Pc l i q;have y:l.take (i+1)=l.take i++[l.getD i (0,cr0)]:=by rw[List.take_add_one];simp[cR,q]
  obtain⟨h8,he,hx⟩:=k _ (eS q (0,cr0));obtain⟨u1,u2⟩:=h.ok _ h8 he;rw[<-hx] at u1 u2;rw[y,EN,LJ];have hul:=Iq (l.take i);have hid:=idC _ u1 u2;have hnu:=num d (idR (l.getD i (0,cr0)).2) 176 (nK _) ε h.vl;rw[show(dU (bq d.v.prs) (bA 10 0 (idR (l.getD i (0,cr0)).2)):Int)=iR d.v.prs (l.getD i (0,cr0)).2 from rfl] at hnu;generalize l.getD i (0,cr0)=z at *;generalize kM (l.take i)=u at *;generalize plF (iR d.v.prs) x (l.take i)=R at *;have hc:((i:Int)<(l.length:Int)):=ω;by_cases c1:R.1<0
  case neg =>
   rw[b0 (fun c=>c1 c.1)];simp only[go_sem,J,p,ncP,crP,o,hc,c1];refine⟨ω,⟨ω,ω⟩,by rw[aeR];omega,q,aA [0,1,2] rfl κ ?_ rfl rfl (cV rfl)⟩;simp only[go_sem];rw[bsS];exact aL _ _ _ _
  by_cases c2:z.2.rp=x.rp
  case neg =>
   rw[b0 (fun c=>c2 c.2.1)];simp only[go_sem,J,p,ncP,crP,o,hc,c1,cK,eq_false c2];refine⟨ω,⟨ω,ω⟩,by rw[aeR];omega,q,aA [0,1,2] rfl κ ?_ rfl rfl (cV rfl)⟩;simp only[go_sem];rw[bsS];exact aL _ _ _ _
  by_cases c3:z.2.us=x.us
  case neg =>
   rw[b0 (fun c=>c3 c.2.2)];simp only[go_sem,J,p,ncP,crP,o,hc,c1,cK,sy c2,eq_false c3];refine⟨ω,⟨ω,ω⟩,by rw[aeR];omega,q,aA [0,1,2] rfl κ ?_ rfl rfl (cV rfl)⟩;simp only[go_sem];rw[bsS];exact aL _ _ _ _
  rw[b9 ⟨c1,c2,c3⟩];simp only[go_sem,J,p,ncP,crP,o,hc,c1,cK,sy c2,sy c3];refine⟨ω,⟨ω,ω⟩,by rw[aeR];omega,?_⟩;apply aa Z hid;refine θ ?_;apply aa Z hnu;simp only[go_sem,J,o];refine⟨q,aA [0,1,2] rfl κ ?_ rfl rfl (cV rfl)⟩;simp only[go_sem];rw[bsS];exact aL _ _ _ _
 obtain rfl:i=l.length:=by omega
 rw[List.take_length];have hul:=Iq l;have F2:(ig d.v.prs D x).2=_:=congrArg (·.2) F;have F1:(ig d.v.prs D x).1=_:=congrArg (·.1) F;dsimp only at F1 F2;generalize plF (iR d.v.prs) x l=R at *;generalize kM l=u at *;simp only[go_sem,J,(ω:¬((l.length:Int)<(l.length:Int)))]
 refine bl Y e [0,1,2,3,4,5,6,8,9,10,11,14,15,16,17,40,50,63,69] (α:={q:Int×Nat // q.2<=8/\(q.1=-1\/0<=q.1)/\(if q.1<0 then vw u q.2 (8-q.2) else q.1)=(ig d.v.prs D x).1}) (fun q=>⟨73,[(4,.i q.1.1),(5,.i R.2),(6,.ptr 2 0),(11,.i q.1.2)],[(2,some ⟨151,bAs u⟩)],3⟩) (fun q=>8-q.1.2) ⟨(R.1,0),gi _,G,F1.symm⟩ [] (fun i=>i) ⟨rfl,κ,?_,rfl,rfl,trivial,fun i h=>h⟩ ?_
 .simp only[go_sem];exact aL _ _ _ _
 rintro⟨⟨s,i⟩,h8,hs,g⟩;generalize ig d.v.prs D x=E at *;dsimp only at h8 hs g;rcases hs with rfl|hs
 .rw[b9 ε] at g;rcases ea i 8 with q|q
  .have o:=ac i
   have p:=bsA u i ω;rw[(ω:8-i=(8-(i+1))+1),vw] at g;by_cases v:u.getD i false=false
   .rw[b9 v] at g;rw[v] at p;simp only[go_sem,J,o,p,(ω:((i:Int)<8))];refine⟨ω,by rw[aeR];omega,⟨((i:Int),i+1),ω,.inr (Int.natCast_nonneg _),by rw[b0 (by show¬((i:Int)<0);omega)];exact g⟩,by show 8-(i+1)<8-i;omega,aA [0,1,2] rfl κ ?_ rfl rfl (cV rfl)⟩
    simp only[go_sem];exact aL _ _ _ _
   .rw[b0 v] at g;rw[show u.getD i false=true from by simpa using v] at p;simp only[go_sem,J,o,p,(ω:((i:Int)<8))];refine⟨ω,by rw[aeR];omega,⟨(-1,i+1),ω,.inl rfl,g⟩,by show 8-(i+1)<8-i;omega,aA [0,1,2] rfl κ ?_ rfl rfl (cV rfl)⟩
    simp only[go_sem];exact aL _ _ _ _
  .obtain rfl:i=8:=by omega
   simp only[go_sem,J,(ω:¬((8:Int)<8))];exact⟨g,F2.symm⟩
 .rw[b0 ω] at g;simp only[go_sem,J,(ω:¬(s<0))];exact⟨g,F2.symm⟩
theorem padd(g:G3)(hg:GOk g)(d:aU)(D:Nat->CR)(x:Cr)(id:List UInt8)(n:Nat)(B:Int)(h:Cn d D)(hon:d.on=true)(hx:CrOk x)(s:id.length=n)(m:n<100000)(hb:d.v.j.bs.length<1000000000)(k:i64 B):FPure prog 7 [bg d,.agg (crC x),.p (.data 1 n (id.map bt)),.i g.fr,.i g.tt,.i g.nx,.i B] (th (vz g d D x (bA 10 0 id) B)):=by
 obtain⟨R,hR⟩:∃R,vz g d D x (bA 10 0 id) B=R:=⟨_,rfl⟩;rw[hR];unfold vz at hR;have he:=Il x hx;have xl:=mO x hx;have ht:=tag id n s m;have hnu:=num d id n s m h.vl;generalize bA 10 0 id=t at *;have hv:=lva (leF g t) (Uk g hg t);have hpl:=plc d D x h;have hbd:=ya d.v.prs D x;have hle:=TA (leF g t);have hln:=pU (leF g t);generalize dU (bq d.v.prs) t=N at *;have K16:∀r,jD d.v.prs r<1000:=fun r=>Nat.lt_of_le_of_lt (tL _ 1 15) ε
 apply ba f7 [0,1,2,3,4,5,6,7,8,14,15,16,17,18,19,21,22,23,24,25,28,36,48,56,59,67,73,76,98];intro c J e Y Z;simp only[go_sem,J,hon];apply aa Z he;refine δ ht ?_;refine θ ?_;refine x_f Z hv ?_;simp only[go_sem,J];apply aa Z hnu;by_cases hN:N=0
 case neg =>
  rw[b9 hN] at hR;subst hR;simp only[go_sem,J,hN]
 rw[b0 (fun c=>c hN)] at hR;by_cases hr:x.rs=true
 case neg =>
  have hr:x.rs=false:=by simpa using hr
  simp only[hr,Bool.false_eq_true,false_and,if_false] at hR;have r:=rom d 0 h.vl;have:=K16 0;generalize jD d.v.prs 0=K at *;simp only[go_sem,J,hN,hr];apply aa Z r;by_cases q:K=0
  .rw[b9 q] at hR;subst hR;simp only[go_sem,J,q]
  have W:n'.wrap (16+(K:Int))=16+(K:Int):=ab ω ω;have u:=pst d [(16+(K:Int),dy (leF g t))] B hb (fun y f=>by rw[n4.1 f];show(dy _).length<1000;omega) η k;rw[b0 q,show xc g x t (ig d.v.prs D x).1 0 K=[(16+(K:Int),dy (leF g t))] from by simp[xc,hr]] at hR;rw[hR] at u;generalize dy (leF g t)=b at *;simp only[go_sem,J,W,(ω:¬((K:Int)=0))];apply aa Z hle;refine θ ?_;refine x_f Z u ?_;simp only[go_sem,J]
 simp only[hr,true_and,if_true] at hR;generalize hF:ig d.v.prs D x=F at *;simp only[go_sem,J,hN,sy hr];apply aa Z hpl;by_cases p:F.1<0
 .rw[b9 p] at hR;subst hR;simp only[go_sem,J,p]
 rw[b0 p] at hR;have r:=rom d F.2 h.vl;have:=K16 F.2;generalize jD d.v.prs F.2=K at *;simp only[go_sem,J,p];apply aa Z r;by_cases q:K=0
 .rw[b9 q] at hR;subst hR;simp only[go_sem,J,q]
 rw[b0 q] at hR;have W:n'.wrap (16+(K:Int))=16+(K:Int):=ab ω ω;have W2:n'.wrap (64+F.1)=64+F.1:=ab ω ω;have W3:n'.wrap (16+F.2)=16+F.2:=ab ω ω;by_cases c:0<F.2/\F.2≠K
 .have u:=pst d [(64+F.1,fj x),(16+(K:Int),dy (leF g t)),(16+F.2,[])] B hb (fun y f=>by simp at f;rcases f with rfl|rfl|rfl;(show(fj x).length<1000;omega);(show(dy _).length<1000;omega);exact Nat.succ_pos _) η k;rw[show xc g x t F.1 F.2 K=[(64+F.1,fj x),(16+(K:Int),dy (leF g t)),(16+F.2,[])] from by simp[xc,hr,c]] at hR;rw[hR] at u;generalize dy (leF g t)=b at *;generalize fj x=E at *;simp only[go_sem,J,W,W2,sy hr,(ω:¬((K:Int)=0))];apply aa Z hle;simp only[go_sem,J,W3,(c.1:F.2>0),c.2];refine x_f Z (Ir u) ?_;simp only[go_sem,J]
 .have u:=pst d [(64+F.1,fj x),(16+(K:Int),dy (leF g t))] B hb (fun y f=>by simp at f;rcases f with rfl|rfl;(show(fj x).length<1000;omega);(show(dy _).length<1000;omega)) η k;rw[show xc g x t F.1 F.2 K=[(64+F.1,fj x),(16+(K:Int),dy (leF g t))] from by simp[xc,hr,c]] at hR;rw[hR] at u;generalize dy (leF g t)=b at *;generalize fj x=E at *;simp only[go_sem,J,W,W2,sy hr,(ω:¬((K:Int)=0))];apply aa Z hle;by_cases v:F.2>0
  .have w:F.2=K:=Decidable.byContradiction fun z=>c ⟨v,z⟩
   simp only[go_sem,J,v,w,(ω:((K:Int)>0))];refine x_f Z u ?_;simp only[go_sem,J]
  .simp only[go_sem,J,v];refine x_f Z u ?_;simp only[go_sem,J]
theorem crK(n:Int)(h:0<=n):CrOk (crB n):=by
 have b3:=cg (ishr .i64 n 3) 1 ε ε;have l1:=iz (k8 (ishr .i64 n 4));have l2:=iz (k8 (ishr .i64 (ishr .i64 n 4) 3));have r:∀k,1<=(rpS k).length/\(rpS k).length<=64/\okU (rpS k)=true:=fun k=>by
  match k with
  |0=>decide +kernel
  |1=>decide +kernel
  |k+2=>exact(show 1<=(rpS 2).length/\(rpS 2).length<=64/\okU (rpS 2)=true from by decide +kernel)
 have u:∀k,1<=(usS k).length/\(usS k).length<=16:=fun k=>by
  match k with
  |0=>decide
  |1=>decide
  |k+2=>exact(show 1<=(usS 2).length/\(usS 2).length<=16 from by decide)
 have t:∀k j:_root_.Fin 8,okU (txS k.val++txS j.val)=true:=by decide +kernel
 have h5:0<=(ishr .i64 n 5).tmod 3/\(ishr .i64 n 5).tmod 3<=2:=by
  have s:0<=ishr .i64 n 5:=by unfold ishr;exact Int.fdiv_nonneg h (by exact Int.pow_nonneg (by decide))
  rw[Int.tmod_eq_emod_of_nonneg s];omega
 exact{rp1:=(r _).1,rp2:=(r _).2.1,us1:=(u _).1,us2:=(u _).2,nm:=by show(txS _++txS _).length<=32;rw[c9];omega,hg:=by show 1<=IntKind.i64.wrap _/\IntKind.i64.wrap _<=4;rw[ab ω ω];omega,pt:=by show 1<=IntKind.i64.wrap _/\IntKind.i64.wrap _<=3;rw[ab ω ω];omega,u1:=(r _).2.2,u2:=t ⟨_,(Q1 _).2⟩ ⟨_,(Q1 _).2⟩,sh:=fun h=>by simp only[crB,Bool.and_eq_true] at h⊢;exact h.1,bk:=fun h=>by simp only[crB,Bool.and_eq_true] at h⊢;exact h.1}
theorem val0(x:Cr)(h:CrOk {x with hg:=1}):FPure prog 21 [.agg (crC {x with hg:=0})] (.tup [blA [],.i 9])/\FPure prog 28 [.agg (crC {x with hg:=0})] (.tup [blA [],.i 9]):=by
 have h1:=h.rp1;have h2:=h.rp2;have e:=h.us1;have f:=h.us2;have g:=h.nm;have⟨rp,us,nm,j,hg,rs,pt,sh,bk⟩:=x;dsimp only at *
 have q1:FPure prog 144 [.i 0,.i 1,.i 4] (.b false):=by
  apply ba f144 [0,1,2,6];intro c J e Y Z;simp only[go_sem,J]
 have q2:FPure prog 158 [.i 0,.i 1,.i 4] (.b false):=cM 0 1 4
 have v1:FPure prog 73 [.agg (crC ⟨rp,us,nm,j,0,rs,pt,sh,bk⟩)] (.i 9):=by
  apply ba f73 [0,1,2,3,26,35];intro c J d Y Z;refine δ (p6 rp.length 1 64 ω ω) ?_;refine δ (p6 us.length 1 16 ω ω) ?_;simp only[go_sem,J,(ω:¬((nm.length:Int)>32))];apply aa Z q1;simp only[go_sem,J]
 have v2:FPure prog 85 [.agg (crC ⟨rp,us,nm,j,0,rs,pt,sh,bk⟩)] (.i 9):=by
  apply ba f85 [0,1,2,3,34,45];intro c J d Y Z;refine δ (j1 rp.length 1 64 ω ω) ?_;refine δ (j1 us.length 1 16 ω ω) ?_;simp only[go_sem,J,(ω:¬((nm.length:Int)>32))];apply aa Z q2;simp only[go_sem,J]
 constructor
 .apply ba f21 [0,1,2,3,4,5,6,7,11,51];intro c J d Y Z;refine δ v1 ?_;simp only[go_sem,J]
 .apply ba f28 [0,1,2,3,4,5,6,7,11,48];intro c J d Y Z;refine δ v2 ?_;simp only[go_sem,J]
theorem crd{f:aO}{p:Pl}{G:Int}{N:Nat}(k:PlInv f p G N)(n:Int):∃(x:Cr)(v:PV),FPure prog 5 [plA p,.i n] (.tup [.agg (crC x),.p v])/\((∃y:Cr,CrOk {y with hg:=1}/\x={y with hg:=0})\/(CrOk x/\∃id:List UInt8,id.length<2000/\v=.data 1 id.length (id.map bt))):=by
 have a:=cg n 1048575 ε ε;have cx:=crK _ a.1;have bx:=abu (band .i64 n 1048575);have hv:=k.d.vl;have m:=ja p.d hv.1 hv.2.2;generalize crB (band .i64 n 1048575)=x at *;generalize gp (vgetM 1 p.d.v.prs)=m0 at *;have o:=cg (ishr .i64 n 3) 7 ε ε
 obtain⟨y,v,e,i,hy,w⟩:∃(y:Cr)(v:PV)(e:Int),FPure prog 17 [.w m0,.w (cq n),.agg (crC y)] (.tup [.p v,.i e])/\(y=if band .i64 (ishr .i64 n 20) 15=0 then {x with hg:=0} else x)/\((∃y':Cr,CrOk {y' with hg:=1}/\y={y' with hg:=0})\/(CrOk y/\∃id:List UInt8,id.length<2000/\v=.data 1 id.length (id.map bt))):=by
  by_cases h:band .i64 (ishr .i64 n 20) 15=0
  .have q:CrOk {x with hg:=1}:=⟨cx.1,cx.2,cx.3,cx.4,cx.5,by dsimp only;omega,cx.7,cx.8,cx.9,cx.10,cx.11⟩
   refine⟨{x with hg:=0},.v (.slice none 0 0),9,?_,(b9 h).symm,.inl ⟨x,q,rfl⟩⟩;apply ba f17 [0,1,2,5,6,7,8,9,10,17,20];intro c J e Y Z;refine δ (val0 x q).2 ?_;simp only[go_sem,J]
  .cases r:x.rs with
   |true=>exact⟨x,_,0,Mx _ _ x cx r,(b0 h).symm,.inr ⟨cx,idR x,by rw[nK];decide,by rw[nK]⟩⟩
   |false=>exact⟨x,_,0,Ux _ _ x cx r (mO x cx),(b0 h).symm,.inr ⟨cx,gZ (ij m0 [119,114,97,112] 0) (cq n) (an [bA 9 0 x.rp] 1) (mW x),by rw[fU,show(mW x).length=160 from by simp[mW]];decide,by rw[fU,show(mW x).length=160 from by simp[mW]]⟩⟩
 by_cases t:band .i64 (ishr .i64 n 24) 7=0/\¬p.ids.length=0
 .obtain⟨j,q,u⟩:=HC _ o.1 p.ids.length (by omega);have g:=Ti p.ids j u;refine⟨y,byP (p.ids.getD j []),?_,w.imp id fun h=>⟨h.1,_,k.el _ (eS u []),rfl⟩⟩;generalize p.ids.getD j []=I at *;apply ba f5 [0,1,2,4,5,6,7,15,36];intro c J r Y Z;simp only[go_sem,J];apply aa Z bx;by_cases h:band .i64 (ishr .i64 n 20) 15=0
  .rw[b9 h] at hy;subst hy;simp only[go_sem,J,h];apply aa Z m;simp only[go_sem,J,ca];apply aa Z i;simp only[go_sem,J,t.1,(ω:((p.ids.length:Int)>0)),q,g,byP];exact⟨π,ω,⟨ω,ω⟩,π⟩
  .rw[b0 h] at hy;subst hy;simp only[go_sem,J,h];apply aa Z m;simp only[go_sem,J,ca];apply aa Z i;simp only[go_sem,J,t.1,(ω:((p.ids.length:Int)>0)),q,g,byP];exact⟨π,ω,⟨ω,ω⟩,π⟩
 .refine⟨y,v,?_,w⟩;apply ba f5 [0,1,2,4,5,6,7,15,36];intro c J r Y Z;simp only[go_sem,J];apply aa Z bx;by_cases h:band .i64 (ishr .i64 n 20) 15=0
  case' pos=>rw[b9 h] at hy;subst hy;simp only[go_sem,J,h];apply aa Z m;simp only[go_sem,J,ca];apply aa Z i
  case' neg=>rw[b0 h] at hy;subst hy;simp only[go_sem,J,h];apply aa Z m;simp only[go_sem,J,ca];apply aa Z i
  all_goals by_cases r:band .i64 (ishr .i64 n 24) 7=0
  all_goals (try have z:p.ids.length=0:=Decidable.byContradiction fun c=>t ⟨r,c⟩)
  all_goals first|simp only[go_sem,J,r,(ω:¬((p.ids.length:Int)>0))]|simp only[go_sem,J,r]
  all_goals (refine Eq.trans (b:=true) ?_ rfl;exact π)
theorem lva0(x:Ls)(h:gX x=false):FPure prog 23 [.p (.data 4 1 (lsP x))] (.i 9):=by
 apply ba f23 [0,2,3,4,6,9,10,11,12,13,19,29];intro c J e Y Z;refine θ ?_;refine ay Y e [0,2,3,4,6,9,10,11,12,13,19,29] 0 (fun i=>⟨31,[(0,.p (.data 4 1 (lsP x))),(10,.p (.data 4 1 (lsP x))),(11,.i 1),(12,.i i)],[],i⟩) [] (fun i=>i) ⟨rfl,κ,κ,rfl,rfl,trivial,fun i h=>h⟩ ?_
 intro i hi;obtain rfl:i=0:=by omega
 simp only[go_sem,J,lsP];apply aa Z (BW x);simp only[go_sem,J,h]
theorem adRf(d:aU)(D:Nat->CR)(c:Cn d D)(b:d.v.j.bs.length<1000000000)(x:Cr)(id:List UInt8)(g:G3)(G:GOk g)(a:d.on=true)(h:CrOk x)(li:id.length<2000)(z:Int)(i:i64 z):FPure prog 8 [bg d,.agg (crC x),.p (.data 1 id.length (id.map bt)),.i g.fr,.i g.tt,.i g.nx,.i z] (th (vz g d D x (bA 10 0 id) z)):=by
 cases r:x.rs with
 |false=>exact PB g G d D x id _ z c a h r rfl ω b i
 |true=>exact GB g G d D x id _ z c a h r (by have:=mO x h;omega) rfl ω b i
theorem adBo(d:aU)(D:Nat->CR)(c:Cn d D)(b:d.v.j.bs.length<1000000000)(x:Cr)(v:PV)(g:G3)(hg:0<=g.fr/\g.fr<=g.nx/\g.tt<=16)(z:Int)(i:i64 z)(H:(∃y:Cr,CrOk {y with hg:=1}/\x={y with hg:=0})\/(CrOk x/\∃id:List UInt8,id.length<2000/\v=.data 1 id.length (id.map bt))):∃R,FPure prog 7 [bg d,.agg (crC x),.p v,.i g.fr,.i g.tt,.i g.nx,.i z] (th R)/\FPure prog 8 [bg d,.agg (crC x),.p v,.i g.fr,.i g.tt,.i g.nx,.i z] (th R)/\(R.e=16->d.on=true/\CrOk x/\∃id:List UInt8,id.length<2000/\v=.data 1 id.length (id.map bt)/\R=vz g d D x (bA 10 0 id) z):=by
 cases a:d.on with
 |false =>
  refine⟨⟨d,0,17⟩,?_,?_,fun c=>by cases c⟩
  .apply ba f7 [0,1,2,3,4,5,6,7,8,14,15,16,17,18,19,21,22,23,24,25,28,36,48,56,59,67,73,76,98];intro c J e Y Z;simp only[go_sem,J,a]
  .apply ba f8 ajt;intro c J e Y Z;simp only[go_sem,J,a]
 |true =>
 rcases H with⟨y,h,rfl⟩|⟨h,id,li,rfl⟩
 .have⟨e1,e2⟩:=val0 y h;refine⟨⟨d,0,9⟩,?_,?_,fun c=>by cases c⟩
  .apply ba f7 [0,1,2,3,4,5,6,7,8,14,15,16,17,18,19,21,22,23,24,25,28,36,48,56,59,67,73,76,98];intro c J e Y Z;simp only[go_sem,J,a];apply aa Z e1;simp only[go_sem,J]
  .apply ba f8 ajt;intro c J e Y Z;simp only[go_sem,J,a];apply aa Z e2;simp only[go_sem,J]
 by_cases k:g.nx<=g.tt
 .have G:GOk g:=⟨hg.1,hg.2.1,k,hg.2.2⟩;refine⟨_,padd g G d D x id _ z c a h rfl ω b i,adRf d D c b x id g G a h li z i,?_⟩
  .exact fun _=>⟨rfl,h,id,li,rfl,rfl⟩
 have l:gX (leF g (bA 10 0 id))=false:=p4 (fun c=>k c.2.2.1);have t1:=tag id _ rfl ω;have t2:=An id _ rfl ω;have r:=rv (leF g (bA 10 0 id));have q:=lva0 _ l;rw[l] at r;have e1:=Il x h;have e2:=fG x h;generalize bA 10 0 id=t at *;refine⟨⟨d,0,9⟩,?_,?_,fun c=>by cases c⟩
 .apply ba f7 [0,1,2,3,4,5,6,7,8,14,15,16,17,18,19,21,22,23,24,25,28,36,48,56,59,67,73,76,98];intro c J e Y Z;simp only[go_sem,J,a];apply aa Z e1;refine δ t1 ?_;refine θ ?_;refine x_f Z q ?_;simp only[go_sem,J]
 .apply ba f8 ajt;intro c J e Y Z;simp only[go_sem,J,a];apply aa Z e2;refine δ t2 ?_;simp only[go_sem,J];apply aa Z r;simp only[go_sem,J]
theorem edL(f:Fl)(B:Int)(b:B<0):∀o,(ed f B o).err=0->(ed f B o).left=B:=by
 have c:∀n:Nat,dL n B=B:=fun n=>by unfold dL;rw[b0 ω,b0 ω]
 intro o h;cases o with
 |er p=>change(eR f p B).err=0 at h;show(eR f p B).left=B;unfold eR at h⊢;split at h;exact s5 h (by assumption);rename_i e;rw[b0 e];exact c _
 |wr p a x=>change(dM f p a x B).err=0 at h;show(dM f p a x B).left=B;unfold dM at h⊢;split at h;exact s5 h (by assumption);rename_i e;rw[b0 e];exact c _
theorem deL(B:Int)(b:B<0):∀(l:List JOp)(f:Fl),(dE f B l).err=0->(dE f B l).left=B
 |[],f,_=>rfl
 |o::r,f,h=>by
  unfold dE at h⊢;split at h;exact s5 h (by assumption)
  rename_i e;have e:=Decidable.not_not.1 e;rw[b0 (fun c=>c e),edL f B b o e] at *;exact deL B b r _ h
theorem roL{f:Fl}{s:ai}{G:Int}(h:FOk f s G)(B:Int)(b:B<0)(e:(ropenM f B).err=0):(ropenM f B).left=B:=by
 have k:ropenM f B=gu (mountM f).j B:=by unfold ropenM;rw[b0 (by rw[h.err];decide),b0 (by rw[h.err];decide)]
 rw[k] at e⊢;unfold gu at e⊢;split
 .rfl
 .rename_i t;rw[b0 t] at e;by_cases x:(be (mountM f).j (aV (aQ (mountM f).j)) B).err=0
  .rw[b0 (fun c=>c x)];dsimp only;unfold be at x⊢;split at x;cases x;split at x;cases x;split at x;cases x;split at x;cases x;unfold lz at x⊢
   rename_i a1 a2 a3 a4;rw[b0 a1,b0 a2,b0 a3,b0 a4];split at x
   .rename_i g;unfold cd at x;split at x;cases x;exact s5 x g
   .rename_i g;rw[b0 g];exact deL B b _ _ (Decidable.not_not.1 g)
  .rw[b9 x] at e;unfold bU at e;split at e;cases e;exact s5 e x
theorem b7L(k:Int)(v:List UInt8)(h:0<v.length):∀s:ai,Srt s->(vgetM k s).length=v.length->(b7 s [(k,v)]).length=s.length/\szM (b7 s [(k,v)])=szM s:=by
 have e:∀s,b7 s [(k,v)]=eW (k,v) false s:=fun s=>by show eW (k,v) (decide (v.length=0)) s=_;rw[p4 ω]
 intro s hs w;rw[e];clear e;induction s with
 |nil=>simp only[vgetM,List.length_nil] at w;omega
 |cons q r a=>
  unfold eW;unfold vgetM at w;by_cases c:q.1=k
  .rw[b9 c] at w;have d:lj k r=r:=List.filter_eq_self.2 fun x m=>by have:=hs.head x m;simp;omega
   have z:(false||decide (q.1>=k))=true:=by simp;omega
   rw[z,pc,d];simp[c,szM];omega
  .rw[b0 c] at w;by_cases g:k<=q.1
   .have d:vgetM k r=[]:=by
     have:∀l:ai,(∀x,x∈l->x.1≠k)->vgetM k l=[]:=fun l=>by
      induction l with
      |nil=>intro _;rfl
      |cons p l b=>intro m;unfold vgetM;rw[b0 (m p (by simp))];exact b fun x y=>m x (by simp[y])
     exact this r fun x m=>by have:=hs.head x m;omega
    rw[d] at w;simp at w;omega
   .have i:=a hs.tail w;have z:(false||decide (q.1>=k))=false:=by simp;omega
    rw[z];simp[c,szM,(ω:¬q.1>=k)];omega
theorem fullP{v:Vt}{G:Int}(h:VOk v G)(O:G<1099511627776)(l:ai)(B:Int)(e:(rputM v l B).err=16):(rputM v l (-1)).err=0:=by
 have j:∀(l:ai) (s:List Int),jR s l=0\/jR s l=9\/jR s l=10:=fun l=>by
  induction l with
  |nil=>intro s;exact .inl rfl
  |cons p l a=>intro s;unfold jR;split;simp;split;simp;exact a _
 rcases Fh h O l (-1) with⟨a,-⟩|⟨-,-,x,-⟩|⟨-,-,-,x⟩
 .exact a
 .omega
 .unfold rputM bU at e;have j:=j l [];unfold di at e x;grind
theorem booted{d:aU}{G:Int}{s:ai}(D:d.on=false)(L:FOk (flOf d.v.j) s G)(hs:StOk s)(hb:((gp (vgetM 2 s)).toNat:Int)<=G)(S:G<1000000)(now:Int)(hn:0<=now/\now<=1099511627776):∃n,(mK d now (-1)).e=0/\(mK d now (-1)).d.v.prs=b7 s [(2,beB n)]:=by
 unfold mK;rw[D];simp only[Bool.false_eq_true,if_false];rw[b0 ω];have E:=Qk L ω (-1);have l:=roL L (-1) ε;generalize ropenM (flOf d.v.j) (-1)=O at *;rcases E with⟨o,I,r,T⟩|⟨-,x,-⟩
 case inr=>omega
 have l:=l o;rw[b0 (fun c=>c o),b0 (by rw[r];omega)];generalize(gp (vgetM 2 O.v.prs)).toNat+1=n;have sr:Srt s:=r▸I.so.srt;have Q:=Fh I ω (bootL d.fac O.v.prs n) O.left;rw[r,(LA s hs sr d.fac n).1] at Q⊢;have B:=b7L 2 (beB n) (Nat.succ_pos _) s sr hs.k.2;have F:=I.so.fit;rw[r] at F;generalize rputM O.v [(2,beB n)] O.left=P at *;rcases Q with⟨e,t,C,-,-⟩|⟨-,-,x,-,-⟩|⟨-,-,-,x⟩
 .rw[b0 (fun c=>c e)];exact⟨n,rfl,C⟩
 .omega
 .rcases x with x|x
  .exact s5 (by simp[di,jR,szM,beB]) x
  .omega
theorem bqB(s l:ai)(hs:Srt s)(h:∀p,p∈l->p.1<16\/31<p.1):bq (b7 s l)=bq s:=by
 have a:∀n,n<=16->cz (b7 s l) n=cz s n:=fun n=>by
  induction n with
  |zero=>intro _;rfl
  |succ n e=>intro c;rw[gK,gK,e ω,show bc (b7 s l) n=bc s n from by unfold bc;rw[vgN hs _ fun p m=>by have:=h p m;omega]]
 exact a 16 (c7 _)
theorem CnB{d e:aU}{D:Nat->CR}(c:Cn d D)(v:VLen e.v.prs)(h:∀i:Nat,i<8->vgetM (64+(i:Int)) e.v.prs=vgetM (64+(i:Int)) d.v.prs):Cn e D:=⟨v,fun i a=>by rw[h i a];exact c.p i a,fun i a=>by rw[h i a];exact c.r i a,c.ok⟩
theorem duP(t:UInt64):∀l:List (Nat×Ls),(∃p,p∈l/\0<p.1/\p.2.tag=t)->dU l t≠0
 |[],⟨p,h,_⟩=>by cases h
 |q::l,⟨p,h,a,b⟩=>by
  unfold dU;split;omega
  rename_i c;rcases hZ.1 h with rfl|h;exact absurd ⟨a,b⟩ c;exact duP t l ⟨p,h,a,b⟩
theorem mdF(D:Nat->CR):∀n,md D n=(fz D n).map (·.2)
 |0=>rfl
 |n+1=>by rw[md,rx,mdF D n];split<;>simp
theorem scL(P:Nat->Bool):∀k i:Nat,scan P i k=0\/scan P i k<i+k
 |0,i=>.inl rfl
 |k+1,i=>by
  unfold scan;split;exact .inr ω
  have:=scL P k (i+1);omega
theorem vzA{g:G3}{d:aU}{D:Nat->CR}{x:Cr}{t:UInt64}{z:Int}(e:(vz g d D x t z).e=16):∃(sl dr:Int)(K:Nat),0<K/\K<16/\(x.rs=true->0<=sl/\sl<8)/\dU (bq d.v.prs) t=0/\∀B,vz g d D x t B=dF d (xc g x t sl dr K) B:=by
 unfold vz at e⊢;by_cases a:dU (bq d.v.prs) t≠0
 .rw[b9 a] at e;cases e
 rw[b0 a] at e;by_cases b:x.rs=true/\(ig d.v.prs D x).1<0
 .rw[b9 b] at e;cases e
 rw[b0 b] at e;dsimp only at e;generalize(if x.rs=true then(ig d.v.prs D x).2 else 0)=dr at *;by_cases c:jD d.v.prs dr=0
 .rw[b9 c] at e;cases e
 refine⟨(ig d.v.prs D x).1,dr,jD d.v.prs dr,ω,(scL _ 15 1).elim (fun h=>absurd h c) id,fun h=>⟨Int.not_lt.1 fun c=>b ⟨h,c⟩,(ya d.v.prs D x).1⟩,Decidable.not_not.1 a,fun B=>?_⟩;rw[b0 a,b0 b];dsimp only;rw[b0 c]
theorem hasN{s:ai}(hs:Srt s)(g:G3)(hg:GOk g)(x:Cr)(t:UInt64)(sl dr:Int)(n:Nat)(h1:0<n)(h2:n<16)(h:x.rs=true->0<=sl):dU (bq (b7 s (xc g x t sl dr n))) t≠0:=by
 have v:vgetM (16+(n:Int)) (b7 s (xc g x t sl dr n))=dy (leF g t):=by
  rw[lE _ hs];unfold B4 xc;by_cases a:x.rs=true<;>by_cases c:0<dr/\dr≠n
  .have:=h a;simp[a,c,(ω:¬64+sl=16+(n:Int))]
  .have:=h a;simp[a,c,(ω:¬64+sl=16+(n:Int))]
  .simp[a,c]
  .simp[a,c]
 have b:bc (b7 s (xc g x t sl dr n)) n=⟨leF g t,0⟩:=by unfold bc;rw[v];exact Lc (Uk g hg t)
 exact duP t _ ⟨(n,leF g t),(mbq _ _).2 ⟨h2,by rw[b],by rw[b]⟩,h1,rfl⟩
theorem atB{f:aO}{d:aU}{G:Int}(h:DInv f d G)(hG:G<99)(x:Cr)(v:PV)(H:(∃y:Cr,CrOk {y with hg:=1}/\x={y with hg:=0})\/(CrOk x/\∃id:List UInt8,id.length<2000/\v=.data 1 id.length (id.map bt)))(z:Int)(iz:i64 z):∃(R:DR)(bl:List Cr),FPure prog 6 [bg d] (.p (.data 9 bl.length (H9 bl)))/\FPure prog 7 [bg d,.agg (crC x),.p v,.i 0,.i 2,.i 0,.i z] (th R)/\FPure prog 8 [bg d,.agg (crC x),.p v,.i 0,.i 2,.i 0,.i z] (th R)/\(R.e=16->∃(y F:DR)(m:Int)(h:Bool)(ls:List Cr),y.e=0/\ls.length<100/\FPure prog 10 [bg R.d,.i 1,.i (-1)] (th y)/\FPure prog 11 [bg y.d,.p v] (.tup [.i m,.b h])/\FPure prog 6 [bg y.d] (.p (.data 9 ls.length (H9 ls)))/\FPure prog 8 [bg d,.agg (crC x),.p v,.i 0,.i 2,.i 0,.i (-1)] (th F)/\(h=true->FPure prog 12 [bg F.d] (.p (.data 9 ls.length (H9 ls))))/\(h=false->bl=ls)):=by
 have ht:(∀i:Nat,i<8->Lz (vgetM (64+(i:Int)) d.v.prs))/\d.v.j.bs.length<1000000000/\VLen d.v.prs:=by
  rcases h with h|h
  .exact⟨h.st.c,h.len,h.ok.vlen⟩
  .rw[show d.v.prs=[] from by rw[h.is];rfl];exact⟨fun _ _=>.inl rfl,h.len,ε,fun x c=>by cases c⟩
 obtain⟨D,c⟩:=ou d ht.2.2 ht.1;have C:∀{e:aU}{D:Nat->CR},Cn e D->FPure prog 6 [bg e] (.p (.data 9 ((fz D 8).map (·.2)).length (H9 ((fz D 8).map (·.2))))):=fun c=>by rw[List.length_map];exact vh _ _ c.vl c.p
 obtain⟨R,a1,a2,e⟩:=adBo d D c ht.2.1 x v ⟨0,2,0⟩ ⟨ε,ε,ε⟩ z iz H;refine⟨R,_,C c,a1,a2,fun r=>?_⟩;obtain⟨on,hx,id,li,rfl,hR⟩:=e r;rw[hR] at r;obtain⟨sl,dr,K,k1,k2,k3,N0,V⟩:=vzA r;have q:DOn f d G:=by
  rcases h with h|h
  .exact h
  .rw[h.is] at on;cases on
 have hp:=Qz ⟨0,2,0⟩ x hx (bA 10 0 id) sl dr k3 K ω;have GO:GOk ⟨0,2,0⟩:=⟨ε,ε,ε,ε⟩;have a3:=adRf d D c ht.2.1 x id ⟨0,2,0⟩ GO on hx li (-1) (by unfold i64;decide)
 rw[V] at r hR a3;have I:=(Io q ω _ z iz hp.1 hp.2).2;have I1:=(Io q ω _ (-1) (by unfold i64;decide) hp.1 hp.2).2;have hs:=hasN q.ok.so.srt ⟨0,2,0⟩ GO x (bA 10 0 id) sl dr K k1 k2 fun a=>(k3 a).1;generalize xc ⟨0,2,0⟩ x (bA 10 0 id) sl dr K=l at *;subst hR;dsimp only at a3
 have t:∀B,dF d l B=if(rputM d.v l B).err≠0 then jz d (rputM d.v l B).v (rputM d.v l B).err else⟨{d with v:=(rputM d.v l B).v},(rputM d.v l B).left,0⟩:=fun B=>by unfold dF;rw[b0 (by rw[on];decide)]
 have P:(rputM d.v l z).err=16:=by
  rw[t] at r;split at r
  .unfold jz at r;split at r;assumption;exact r
  .cases r
 have of:DOff f (dF d l z).d (G+1):=by
  rcases I with⟨e,-⟩|⟨-,o⟩|⟨-,e,-⟩
  .omega
  .exact o
  .exact absurd r e
 have Rd:(dF d l z).d=kV d.fac d.now (flOf (rputM d.v l z).v.j):=by rw[t,b9 (by rw[P];decide)];unfold jz;rw[b9 P]
 have P0:=fullP q.ok ω l z P;have Fd:(dF d l (-1)).d.v=(rputM d.v l (-1)).v:=by rw[t,b0 (fun c=>c P0)]
 have F1:VOk (rputM d.v l (-1)).v (G+1)/\(rputM d.v l (-1)).v.prs=b7 d.v.prs l:=by
  rcases Fh q.ok ω l (-1) with⟨-,k,e,-⟩|⟨e,-⟩|⟨e,-⟩
  .exact⟨k,e⟩
  .omega
  .exact absurd P0 e
 have sr:=q.ok.so.srt;have sr2:Srt (b7 d.v.prs l):=F1.2▸F1.1.so.srt;have st2:=q.st.with sr hp.1;have bo:=q.bo;have bo2:((gp (vgetM 2 (b7 d.v.prs l))).toNat:Int)<=G+1:=by rw[vgN sr 2 fun p m=>(hp.1 p m).n];omega
 have B:∀s,FOk (flOf (dF d l z).d.v.j) s (G+1)->StOk s->((gp (vgetM 2 s)).toNat:Int)<=G+1->∃n,(mK (dF d l z).d 1 (-1)).e=0/\(mK (dF d l z).d 1 (-1)).d.v.prs=b7 s [(2,beB n)]:=fun s a b c=>booted (by rw[Rd];rfl) a b c ω 1 ⟨ε,ε⟩
 have L:=LC of ω 1 (-1) (by unfold i64;decide);have b1:=O7 _ 1 (-1) L.1;have vl:=L.2.vl.1;have M:∀s,Srt s->∀(n:Nat)(i:Nat),i<8->vgetM (64+(i:Int)) (b7 s [(2,beB n)])=vgetM (64+(i:Int)) s:=fun s a n i _=>vgN a _ fun p m=>by rw[n4.1 m];show(2:Int)≠_;omega
 have lb:∀D,((fz D 8).map (·.2)).length<100:=fun D=>by rw[List.length_map];have:=B9 D 8;omega
 have u:=num (mK (dF d l z).d 1 (-1)).d id _ rfl ω vl;rcases Fh q.ok ω l z with⟨e,-⟩|⟨-,-,-,-,i⟩|⟨-,e,-⟩
 .omega
 .rcases i with i|i
  .obtain⟨n,e0,ep⟩:=B d.v.prs (by rw[Rd];exact i) q.st ω;rw[ep,bqB d.v.prs [(2,beB n)] sr (fun p m=>by rw[n4.1 m];exact .inl (by show(2:Int)<16;decide)),N0] at u;exact⟨_,_,_,false,_,e0,lb D,b1,u,C (CnB c vl fun i h=>by rw[ep];exact M _ sr n i h),a3,nofun,fun _=>rfl⟩
  .obtain⟨n,e0,ep⟩:=B (b7 d.v.prs l) (by rw[Rd];exact i) st2 bo2;rw[ep,bqB _ [(2,beB n)] sr2 (fun p m=>by rw[n4.1 m];exact .inl (by show(2:Int)<16;decide)),qi hs] at u;obtain⟨D2,c2⟩:=ou (dF d l (-1)).d (by rw[Fd];exact F1.1.vlen) (by rw[Fd,F1.2];exact st2.c);have w:=qE _ D2 c2;rw[mdF] at w;exact⟨_,_,_,true,_,e0,lb D2,b1,u,C (CnB c2 vl fun i h=>by rw[ep,Fd,F1.2];exact M _ sr2 n i h),a3,fun _=>w,nofun⟩
 .exact absurd P e
theorem tiB:ae prog 23=⟨.int .u16,1,2,some [.int .u16 0],[],0,0⟩/\eqT prog 46=true:=by and_intros<;>kernel_rfl
attribute[go_sem]tiB
theorem lwB(p:Pl)(n:Int)(l:List Int)(L:Nat)(k:Int)(B z:Int)(w:n'.wrap (B.tmod 1500)=z)(x:Cr)(v:PV)(R:DR)(bl:List Cr)(g:FPure prog 4 [.i n,.p (.data 1 L (l.map qI))] (plA p))(cr:FPure prog 5 [plA p,.i k] (.tup [.agg (crC x),.p v]))(cb:FPure prog 6 [bg p.d] (.p (.data 9 bl.length (H9 bl))))(a1:FPure prog 7 [bg p.d,.agg (crC x),.p v,.i 0,.i 2,.i 0,.i z] (th R))(a2:FPure prog 8 [bg p.d,.agg (crC x),.p v,.i 0,.i 2,.i 0,.i z] (th R))(q:R.e=16->∃(y F:DR)(m:Int)(h:Bool)(ls:List Cr),y.e=0/\ls.length<100/\FPure prog 10 [bg R.d,.i 1,.i (-1)] (th y)/\FPure prog 11 [bg y.d,.p v] (.tup [.i m,.b h])/\FPure prog 6 [bg y.d] (.p (.data 9 ls.length (H9 ls)))/\FPure prog 8 [bg p.d,.agg (crC x),.p v,.i 0,.i 2,.i 0,.i (-1)] (th F)/\(h=true->FPure prog 12 [bg F.d] (.p (.data 9 ls.length (H9 ls))))/\(h=false->bl=ls)):FPure prog 3 [.i n,.p (.data 1 L (l.map qI)),.i k,.p (.v (.int .u16 B))] (.b true):=by
 refine ba f3 [0,1,2,3,8,9,10,11,12,13,15,18,19,21,23,24,25,28,29,55,81,100,107,111,122] ?_;intro c J b Y Z;refine δ g ?_;simp only[go_sem,J];apply aa Z cr;refine θ ?_;apply aa Z cb;simp only[go_sem,J,w];apply aa Z a1;by_cases e:R.e=16
 case neg =>
  simp only[go_sem,J,e,w];apply aa Z a2;refine δ Id ?_;simp only[go_sem,J,beq_self_eq_true]
 obtain⟨y,F,m,h,ls,ye,ln,b1,b2,b3,b4,b5,b6⟩:=q e
 simp only[go_sem,J,e];apply aa Z b1;simp only[go_sem,J,ye];apply aa Z b2;refine δ b3 ?_;refine θ ?_;apply aa Z b4;cases h
 case' false=>rw[b6 rfl];simp only[go_sem,J]
 case' true=>simp only[go_sem,J];apply aa Z (b5 rfl);simp only[go_sem,J]
 all_goals
  refine ay Y b [0,1,2,3,8,9,10,11,12,13,15,18,19,21,23,24,25,28,29,55,81,100,107,111,122] ls.length (fun i=>⟨124,[(24,.p (.data 9 ls.length (H9 ls))),(28,.p (.data 9 ls.length (H9 ls))),(29,.i i)],[],5⟩) [] (fun i=>i) ⟨rfl,κ,trivial,rfl,rfl,trivial,fun i h=>h⟩ ?_
  intro i _;rcases ea i ls.length with a|a
  .have o:=ac i
   have t:=tR ls i a;rw[show jS ls=H9 ls from rfl] at t;generalize ls.getD i cr0=u at *;generalize jS (ls.drop (i+1))=rs at *;simp only[go_sem,J,o,t,crP,beq_self_eq_true,Bool.and_self,(ω:((i:Int)<(ls.length:Int)))];exact⟨ω,ω,π,a,eh rfl κ trivial rfl rfl (c7 _)⟩
  .obtain rfl:i=ls.length:=by omega
   simp only[go_sem,J,(ω:¬((ls.length:Int)<(ls.length:Int)))];apply aa Z Id;simp only[go_sem,J]
theorem lwC(n:Int)(l:List Int)(L:Nat)(C:l.length=L)(m:L<9223372036854775808)(k B:Int)(_:(0:Int)<=B/\B<=65535):FPure prog 3 [.i n,.p (.data 1 L (l.map qI)),.i k,.p (.v (.int .u16 B))] (.b true):=by
 obtain⟨f,p,G,E,s,hG,g⟩:=KK n l L C m;obtain⟨x,v,cr,H⟩:=crd s k;obtain⟨R,bl,cb,a1,a2,q⟩:=atB s.d hG x v H _ (Ky (B.tmod 1500));exact lwB p n l L k B _ rfl x v R bl g cr cb a1 a2 q
end Go.Abs
namespace Go.Proofs.YtgnmplopdkgccaaGreatDoor
open Go Abs RowKit Proofs.Tryz
section
open Go.WideShapes Go.ChangeShapes Go.ChangeAt
theorem BI{D:Type}(k:Nat)(f:D->List Value):∀(n:Nat) (cs:List Value) (ds:List D),cs.length=n*k->ds.length=n ->
 (∀i d,ds[i]?=some d->(cs.drop (i*k)).take k=f d)->cs=ds.flatMap f:=by
 intro n
 induction n with
 |zero =>
  intro cs ds g a _;have b:cs=[]:=j'.1 ω;have c:ds=[]:=j'.1 a;subst b;subst c;rfl
 |succ n l =>
  intro cs ds g a h;cases ds with
  |nil=>cases a
  |cons d ds =>
   have j:=h 0 d rfl;rw[Nat.zero_mul,List.drop_zero] at j
   have h1:=l (cs.drop k) ds (by rw[List.length_drop,g,Nat.succ_mul];omega) (by simpa using a) (fun i x m=>by
    have:=h (i+1) x (by simpa using m)
    rw[List.drop_drop,Nat.add_comm k,<-Nat.succ_mul]
    exact this)
   rw[c',<-h1,<-j,List.take_append_drop]
def BJ:DataW Unit->Value
 |.lit (.int k n) => .int k n
 |_=>undef
def Tt:DataW Unit->List Value
 |.agg l=>l.map BJ
 |d=>[BJ d]
end
section
open Go.WideShapes Go.ChangeShapes Go.ChangeAt
variable {w : World} {fuel : Nat} {base : Nat} {sp : Nat → Bool} {held : Bool} {e : TypeId × Value → Unit}
theorem zy{t:TypeId}{k:IntKind}{cs:List Value}{x:DataW Unit×List MemPlace}(a:prog.underlying t=some (.int k))(h:DataW.trod e prog w base sp held fuel t cs=some x):cs=[BJ x.1]:=by
 obtain⟨n,rfl,rfl,-⟩:=DataW.trod_int a h;rfl
theorem KM{t:TypeId}{n:Nat}{cs:List Value}{ds:List (DataW Unit)}{p:List MemPlace}(g:prog.underlying t=some (.array n 5))(k:prog.cellsOf t=n)
 (h:DataW.trod e prog w base sp held fuel t cs=some (.agg ds,p)):cs=ds.map BJ:=by
 obtain⟨xs,m,-,c,hl,hxn,hf⟩:=DataW.trod_array g h;have j:prog.cellsOf 5=1:=π;simp only[Prod.mk.injEq,DataW.agg.injEq] at c;obtain⟨rfl,-⟩:=c
 have:=BI 1 (fun x:DataW Unit×List MemPlace=>[BJ x.1]) n cs xs ω hxn (fun i d f=>by
  have b:i<n:=by
   rw[<-hxn];exact(i'.1 f).1
  have:=hf i b
  rw[f,j] at this
  exact zy underlying5 this)
 exact aiD
theorem HN{cs:List Value}{x:DataW Unit×List MemPlace}(h:DataW.trod e prog w base sp held fuel 265 cs=some x):cs=Tt x.1:=by
 obtain⟨xs,m,-,g,l,a,i⟩:=DataW.trod_struct underlying265 h;have n:prog.cellsOf 265=2:=π;have o:prog.cellsOf 5=1:=π;rw[n] at l;have b:DataW.trod e prog w base sp held m 5 ((cs.drop 0).take (prog.cellsOf 5))=xs[0]?:=i 0 _ rfl;have c:DataW.trod e prog w base sp held m 5 ((cs.drop 1).take (prog.cellsOf 5))=xs[1]?:=i 1 _ rfl;rw[o] at b c;have d:xs.length=2:=a
 match xs,d,g,b,c with
 |[x0,x1],_,g,b,c =>
  have j:=zy underlying5 (show _=some x0 from b);have k:=zy underlying5 (show _=some x1 from c);have f:x.1 = .agg [x0.1,x1.1]:=by rw[g];rfl
  rw[f];clear g f b c h i a
  match cs,l,j,k with
  |[c0,c1],_,j,k =>
   have p:c0=BJ x0.1:=k' j;have q:c1=BJ x1.1:=k' k;rw[p,q];rfl
theorem Ek{t:TypeId}{n:Nat}{cs:List Value}{ds:List (DataW Unit)}{p:List MemPlace}(g:prog.underlying t=some (.array n 265))(k:prog.cellsOf t=n*2)
 (h:DataW.trod e prog w base sp held fuel t cs=some (.agg ds,p)):cs=ds.flatMap Tt:=by
 obtain⟨xs,m,-,c,hl,hxn,hf⟩:=DataW.trod_array g h;have j:prog.cellsOf 265=2:=π;simp only[Prod.mk.injEq,DataW.agg.injEq] at c;obtain⟨rfl,-⟩:=c
 have:=BI 2 (fun x:DataW Unit×List MemPlace=>Tt x.1) n cs xs ω hxn (fun i d f=>by
  have b:i<n:=by
   rw[<-hxn];exact(i'.1 f).1
  have:=hf i b
  rw[f,j] at this
  exact HN this)
 exact aiD
end
section
open Go.WideShapes Go.ChangeShapes Go.ChangeAt
theorem Tu:prog.globalNamed "unicode/utf8.acceptRanges"=some 1:=π
theorem Tv:prog.globalNamed "unicode/utf8.first"=some 0:=π
theorem uT{W:World}{n:String}{g:Nat}{cs:Array Value}{l:List Value}(hg:prog.globalNamed n=some g)(hv:W.var? prog n=some cs)(c:cs.toList=l)(h1:l.all (fun v=>v.oneCell')=true)(d:l≠[]) :
 g<W.heap.size/\∀j v,l[j]?=some v->v.oneCell'=true/\W.cell? ⟨g,j,none⟩=some v:=by
 have a:∀j v,l[j]?=some v->v.oneCell'=true/\W.cell? ⟨g,j,none⟩=some v:=by
  intro j v b;refine⟨g'.1 h1 v (List.mem_of_getElem? b),?_⟩;rw[World.var?_cell hg hv j,<-b,<-c,Array.getElem?_toList]
 refine⟨?_,a⟩;cases l with
 |nil=>exact absurd rfl d
 |cons v r =>
  have:=(a 0 v rfl).2;rcases r' g W.heap.size with h|h
  ·exact h
  ·simp[World.cell?,Array.getElem?_eq_none h] at this
theorem HO:(Go.Pinned.numbers .u8 Go.Pinned.utf8FirstZ).map BJ=qV:=π
theorem HP:qV≠[]:=fun b=>by
 have a:qV.length=256:=π;rw[b] at a;cases a
theorem OP{W:World}(h:laidMetH prog Rows.keystoreAtomicRow.laid W):GlobOk (fun b=>b<W.heap.size) W:=by
 rw[MakeChecks.laidMetH_plain _ _ _ π] at h;obtain⟨ps,⟨y,z,p,A,p0,B,d,i,j,k,⟨C,D,q,E,F,G,f,m,n,o,_,_⟩,_⟩,_,_⟩:=h;obtain rfl:=v'.inj (Tu.symm.trans d);obtain rfl:=v'.inj (Tv.symm.trans f);have r:(prog.globals[1]?).map (·.type)=some 266:=π;have s:(prog.globals[0]?).map (·.type)=some 263:=π;obtain rfl:=v'.inj (r.symm.trans i);obtain rfl:=v'.inj (s.symm.trans m);have t:=Ek underlying266 π k;have u:=(KM (ds:=Go.Pinned.numbers .u8 Go.Pinned.utf8FirstZ) underlying263 π o).trans HO;have v:=uT (l:=pB) d j t π (by simp[pB]);have x:=uT (l:=qV) f n u π HP;intro g cs hg;unfold od at hg;cases a:Nat.beq g 0 with
 |true=>rw[a] at hg;simp only[v'.injEq] at hg;subst hg;rw[t' a];exact x
 |false =>
  cases c:Nat.beq g 1 with
  |true=>rw[a,c] at hg;simp only[v'.injEq] at hg;subst hg;rw[t' c];exact v
  |false=>rw[a,c] at hg;cases hg
theorem zA(os:Os)(f:os.Started)(H:Type)(enc:TypeId×Value->H) :
 ReturnsInHanded {} checked os 3 .any (fun w a=>(Rows.keystoreAtomicSpec.pre enc prog f3 [] false w a/\laidMetH prog Rows.keystoreAtomicRow.laid w)/\sizedMet enc prog f3 (OpenSpec.ofChange Rows.keystoreAtomicSpec) false w a)
  (Rows.keystoreAtomicSpec.post enc prog f3 false true false false):=by
 refine returnsInHanded_of_change_and (C:=checked) (X:=fun w _=>laidMetH prog Rows.keystoreAtomicRow.laid w) (fun _ _ _ S h=>h.of_heap S) own f π func3
  (ChangeSpec.witness_shaped (enc:=enc) (C:=checked) (os:=os) (X:=fun w _=>laidMetH prog Rows.keystoreAtomicRow.laid w) false (World.laidAll prog os Rows.keystoreAtomicRow.laid) #[.int .i64 0,.slice none 0 0,.int .i64 0,.int .u16 0] 8 (World.laidAll_os _ _ _)
   (World.shaped_of_ZipB π π) π π π
   (by rw[MakeChecks.laidMetH_plain _ _ _ π];exact laidMet_laidAll _ π π)) ?_
 intro W base a ds gs n g K _ T U _;have b:∀(j:Nat) t v,f3.params[j]?=some t->a[j]?=some v->Value.okWide prog W .any base t v:=g;have k:=K;obtain⟨p,q,r,V,rfl,hfz,hnd⟩:=K;have s:DataW.TrodAll enc prog W 0 (fun _=>true) true f3.params.toList a.toList ds p:=r;have u:=s;rw[params3] at s b
 obtain⟨v0,vs0,d0,ds0,p0,q0,y,rfl,rfl,h0,r0⟩:=trodAll_cons s
 obtain⟨v1,vs1,d1,ds1,p1,q1,rfl,rfl,rfl,h1,r1⟩:=trodAll_cons r0
 obtain⟨v2,vs2,d2,ds2,p2,q2,rfl,rfl,rfl,h2,r2⟩:=trodAll_cons r1
 obtain⟨v3,vs3,d3,ds3,p3,q3,rfl,rfl,rfl,h3,r3⟩:=trodAll_cons r2
 obtain⟨rfl,rfl,rfl⟩:=trodAll_nil r3;obtain rfl:a=#[v0,v1,v2,v3]:=by cases a;simp_all
 obtain⟨rfl,rfl⟩:=trodVars_none V;have z:∀x∈p0++(p1++(p2++(p3++[]))),x.block<W.heap.size:=fun x A=>k.lt x (by simpa using A)
 obtain⟨z0,e0,-,-,-⟩:=open_int underlying3 (b 0 _ v0 rfl rfl) h0
 obtain⟨A1,L1,C1,D1⟩:=okWide_slice underlying22 (b 1 _ v1 rfl rfl);have e1:v1.cells.toList=[v1]:=by rw[D1];rfl
 obtain⟨n1,O1⟩:=h1;rw[e1] at O1;obtain⟨l1,m1,w1,g1⟩:=PE underlying22 underlying3 π O1
 obtain⟨z2,e2,-,-,-⟩:=open_int underlying3 (b 2 _ v2 rfl rfl) h2
 obtain⟨z3,e3,-,-,w3⟩:=open_int underlying23 (b 3 _ v3 rfl rfl) h3;have w3:(0:Int)<=z3/\z3<=65535:=by
  have l:IntKind.u16.min=0:=rfl;have m:IntKind.u16.max=65535:=rfl;simpa only[Lit.wf,l,m,Bool.and_eq_true,decide_eq_true_eq] using w3
 refine(IE (lwC z0 l1 l1.length rfl (Nat.lt_succ_of_le m1) z2 z3 w3) (lm func3 rfl π) (OP U) rfl ?_).mono fun e W' ⟨he,Q⟩=>?_
 ·intro i c d
  match i,d with
  |0,d =>
   simp only[d',v'.injEq] at d;subst d;subst e0;exact .p _ _ (.v _ rfl)
  |1,d =>
   simp only[l',d',v'.injEq] at d;subst d;exact .p _ _ g1
  |2,d =>
   simp only[l',d',v'.injEq] at d;subst d;subst e2;exact .p _ _ (.v _ rfl)
  |3,d =>
   simp only[l',d',v'.injEq] at d;subst d;subst e3;exact .p _ _ (.v _ rfl)
  |i+4,d=>simp at d
 ·subst he;refine⟨_,rfl,xe (pa:=p0++(p1++(p2++(p3++[])))) (pv:=[]) k (fun _ _ _=>trodAll_cons_mk (shut_bool underlying4 _) trodAll_mk0) (fun sp I=>om Q ?_ u z sp (fun x A=>I x (by simpa using A))) (fun _ _=>rfl) rfl Q (ok_one π rfl (okWide_bool_mk underlying4 _))⟩;rw[params3];intro t ht;simp only[List.mem_cons,List.not_mem_nil,or_false] at ht;rcases ht with rfl|rfl|rfl|rfl<;>exact⟨π,of_decide_eq_true π⟩
theorem El:Rows.KeystoreAtomicSaid :=
 OpenClaim.holds_of_wide 3 f3 rfl rfl rfl rfl rfl rfl rfl ⟨rfl,rfl,rfl,rfl,rfl⟩ rfl rfl rfl rfl rfl sF func3 zB Em En
  (fun os a H enc _=>zA os a H enc)
theorem atomic_holds:Rows.KeystoreAtomicCardSaid :=
 Claim7.holds_tied_plain_at .later [] [.data,.pinned] true Rows.keystoreAtomicCard.stood.harness false
  El (fun _ h=>by cases h) Eo (fun _ h=>by cases h) keystoreAtomic_row_tie rfl ⟨rfl,rfl⟩ π rfl
  (fun f c d a=>by
   obtain rfl:f=3:=v'.inj (sF.symm.trans d) |>.symm
   obtain rfl:c=f3:=(v'.inj (func3.symm.trans a)).symm
   exact⟨BK,fun j t b=>by
    rw[params3] at b
    have g:t∈[3,22,3,23]:=by simpa using Array.mem_of_getElem? b
    exact(show prog.wantsStandIn t=false by simpa using g'.1 BL t (by simp only[List.mem_cons,List.not_mem_nil,or_false] at g⊢;rcases g with h|h|h|h<;>simp[h]))⟩)
  Ep

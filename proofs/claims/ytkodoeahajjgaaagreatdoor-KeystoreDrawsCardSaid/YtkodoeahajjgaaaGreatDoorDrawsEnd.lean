/- KeystoreDraws is proved: the law returns true for all arguments; there is no condition. -/
import Derived.Test.YtkodoeahajjgaaaGreatDoorDv
import Derived.Test.YtkodoeahajjgaaaGreatDoorTie
import Derived.LaidMore
import Derived.Stop.Joined
import Derived.OpenShut
import Derived.Lay
import Derived.Test.YtkodoeahajjgaaaGreatDoorDrawsFacts
set_option linter.all false
set_option maxRecDepth 100000
set_option maxHeartbeats 4000000
open List renaming take_of_length_le→a',mem_singleton→b',flatMap_cons→c',getElem?_cons_zero→d',mem_cons_self→e',length_cons→f',all_eq_true→g',getD_eq_getElem?_getD→h',getElem?_eq_some_iff→i',length_eq_zero_iff→j',head_eq_of_cons_eq→k',getElem?_cons_succ→l',mem_cons_of_mem→m'
open Go.IntKind renaming i64→n',u64→o'
open Nat renaming le_of_ble_eq_true→q',lt_or_ge→r',lt_of_le_of_lt→s',eq_of_beq_eq_true→t',le_refl→u'
open Option renaming some→v'
open Bool renaming eq_false_or_eq_true→w',false_eq_true→x',true_or→y',or_true→z',or_self→A'
namespace Go.Abs
open RowKit Proofs Proofs.Tryz
def drN(d:aU):Nat->aU
 |0=>d
 |k+1=>l5 (drN d k)
theorem KL(d:aU):∀k,(drN d k).v=d.v/\(drN d k).fac=d.fac/\(drN d k).nx=d.nx
 |0=>⟨rfl,rfl,rfl⟩
 |k+1=>KL d k
theorem OO(n:Int)(_:(-9223372036854775808:Int)<=n/\n<=9223372036854775807)(l:List Int)(L:Nat)(C:l.length=L)(m:L<9223372036854775808)(k:Int)(D:(0:Int)<=k/\k<=255):FPure prog 3 [.i n,.p (.data 1 L (l.map qI)),.p (.v (.int .u8 k))] (.b true):=by
 obtain⟨f,p,G,E,s,-,g⟩:=KK n l L C m;obtain⟨h1,h2,o⟩:=s.vl;obtain⟨t,u,x⟩:=s.same E;obtain⟨d,ids⟩:=p;dsimp only at h1 h2 o t u x;have F:=B0 d h1;have q:=ja d h1 o;generalize gp (vgetM 1 d.v.prs)=mk at *;obtain⟨M,z,H⟩:∃M:Nat,k.tmod 8=M/\M<8:=HC k D.1 8 ε;have j:n'.wrap (M:Int)=M:=ab ω ω;refine en func3 ntmps3 results3 [0,1,2,6,7,8,9,10,11,21,26,47] ?_;intro c J I Y Z;simp only[go_sem,J];refine aa Z (by exact g) ?_;simp only[go_sem,J];refine aa Z (by exact F) ?_;simp only[go_sem,J];refine aa Z (by exact q) ?_;simp only[go_sem,J];refine⟨π,?_⟩;refine ay Y I [0,1,2,6,7,8,9,10,11,21,26,47] M (fun i=>⟨49,[(2,.p (.v (.int .u8 k))),(7,.ptr 0 0),(8,.ptr 1 0),(9,.i i)],[(0,some ⟨40,dvC (bp (drN d i))⟩),(1,some ⟨40,dvC (bp (drN d i))⟩)],2⟩) [] (fun i=>i) ⟨rfl,κ,by simp only[go_sem,drN],rfl,rfl,trivial,fun i h=>h⟩ ?_;intro i P;rcases r' i M with r|K
 ·have N:n'.wrap ((i:Int)+1)=((i+1:Nat):Int):=by rw[ab ω ω];omega
  obtain⟨a,O,v3⟩:=KL d i;have A:=KZ (drN d i) (by rw[a];exact h1) (by rw[a];exact h2);have B:=tG (drN d i) (by rw[a];exact h1) (by rw[a];exact h2) (by rw[a];exact o);have g3:=H5 (l5 (drN d i)) (by show(drN d i).fac.ce.length<_;rw[O];exact t) (by show(drN d i).nx.ids.length<_;rw[v3];exact u) (by show(drN d i).v.prs.length<_;rw[a];exact x);rw[show l5 (drN d i)=drN d (i+1) from rfl] at A B g3;generalize drN d (i+1)=d2 at *;generalize jZ (drN d i)=y at *;generalize drN d i=d1 at *;simp only[go_sem,J,z,j,show((i:Int)<(M:Int)) from ω];refine aa Z (by exact A) ?_;simp only[go_sem,J];refine aa Z (by exact B) ?_;simp only[go_sem,J];refine aa Z (by exact g3) ?_;simp only[go_sem,J,N];exact⟨r,aA [0,1] rfl κ κ rfl rfl (q' rfl)⟩
 ·have e:M=i:=ω;subst e;simp only[go_sem,J,z,j,show¬((M:Int)<(M:Int)) from ω];refine aa Z (by exact Id) ?_;simp only[go_sem,J]
end Go.Abs
namespace Go.Proofs.YtkodoeahajjgaaaGreatDoor
open Go Abs RowKit Proofs.Tryz
section
open Go.WideShapes Go.ChangeShapes Go.ChangeAt
theorem BI{D:Type}(k:Nat)(f:D->List Value):∀(n:Nat) (cs:List Value) (ds:List D),cs.length=n*k->ds.length=n ->
 (∀i d,ds[i]?=some d->(cs.drop (i*k)).take k=f d)->cs=ds.flatMap f:=by
 intro n
 induction n with
 |zero =>
  intro cs ds g a _;have b:cs=[]:=j'.1 ω;have c:ds=[]:=j'.1 a;subst b;subst c;rfl
 |succ n l =>
  intro cs ds g a h;cases ds with
  |nil=>cases a
  |cons d ds =>
   have j:=h 0 d rfl;rw[Nat.zero_mul,List.drop_zero] at j
   have h1:=l (cs.drop k) ds (by rw[List.length_drop,g,Nat.succ_mul];omega) (by simpa using a) (fun i x m=>by
    have:=h (i+1) x (by simpa using m)
    rw[List.drop_drop,Nat.add_comm k,<-Nat.succ_mul]
    exact this)
   rw[c',<-h1,<-j,List.take_append_drop]
def BJ:DataW Unit->Value
 |.lit (.int k n) => .int k n
 |_=>undef
def Tt:DataW Unit->List Value
 |.agg l=>l.map BJ
 |d=>[BJ d]
end
section
open Go.WideShapes Go.ChangeShapes Go.ChangeAt
variable {w : World} {fuel : Nat} {base : Nat} {sp : Nat → Bool} {held : Bool} {e : TypeId × Value → Unit}
theorem zy{t:TypeId}{k:IntKind}{cs:List Value}{x:DataW Unit×List MemPlace}(a:prog.underlying t=some (.int k))(h:DataW.trod e prog w base sp held fuel t cs=some x):cs=[BJ x.1]:=by
 obtain⟨n,rfl,rfl,-⟩:=DataW.trod_int a h;rfl
theorem KM{t:TypeId}{n:Nat}{cs:List Value}{ds:List (DataW Unit)}{p:List MemPlace}(g:prog.underlying t=some (.array n 5))(k:prog.cellsOf t=n)
 (h:DataW.trod e prog w base sp held fuel t cs=some (.agg ds,p)):cs=ds.map BJ:=by
 obtain⟨xs,m,-,c,hl,hxn,hf⟩:=DataW.trod_array g h;have j:prog.cellsOf 5=1:=π;simp only[Prod.mk.injEq,DataW.agg.injEq] at c;obtain⟨rfl,-⟩:=c
 have:=BI 1 (fun x:DataW Unit×List MemPlace=>[BJ x.1]) n cs xs ω hxn (fun i d f=>by
  have b:i<n:=by
   rw[<-hxn];exact(i'.1 f).1
  have:=hf i b
  rw[f,j] at this
  exact zy underlying5 this)
 exact aiD
theorem HN{cs:List Value}{x:DataW Unit×List MemPlace}(h:DataW.trod e prog w base sp held fuel 357 cs=some x):cs=Tt x.1:=by
 obtain⟨xs,m,-,g,l,a,i⟩:=DataW.trod_struct underlying357 h;have n:prog.cellsOf 357=2:=π;have o:prog.cellsOf 5=1:=π;rw[n] at l;have b:DataW.trod e prog w base sp held m 5 ((cs.drop 0).take (prog.cellsOf 5))=xs[0]?:=i 0 _ rfl;have c:DataW.trod e prog w base sp held m 5 ((cs.drop 1).take (prog.cellsOf 5))=xs[1]?:=i 1 _ rfl;rw[o] at b c;have d:xs.length=2:=a
 match xs,d,g,b,c with
 |[x0,x1],_,g,b,c =>
  have j:=zy underlying5 (show _=some x0 from b);have k:=zy underlying5 (show _=some x1 from c);have f:x.1 = .agg [x0.1,x1.1]:=by rw[g];rfl
  rw[f];clear g f b c h i a
  match cs,l,j,k with
  |[c0,c1],_,j,k =>
   have p:c0=BJ x0.1:=k' j;have q:c1=BJ x1.1:=k' k;rw[p,q];rfl
theorem Ek{t:TypeId}{n:Nat}{cs:List Value}{ds:List (DataW Unit)}{p:List MemPlace}(g:prog.underlying t=some (.array n 357))(k:prog.cellsOf t=n*2)
 (h:DataW.trod e prog w base sp held fuel t cs=some (.agg ds,p)):cs=ds.flatMap Tt:=by
 obtain⟨xs,m,-,c,hl,hxn,hf⟩:=DataW.trod_array g h;have j:prog.cellsOf 357=2:=π;simp only[Prod.mk.injEq,DataW.agg.injEq] at c;obtain⟨rfl,-⟩:=c
 have:=BI 2 (fun x:DataW Unit×List MemPlace=>Tt x.1) n cs xs ω hxn (fun i d f=>by
  have b:i<n:=by
   rw[<-hxn];exact(i'.1 f).1
  have:=hf i b
  rw[f,j] at this
  exact HN this)
 exact aiD
end
section
open Go.WideShapes Go.ChangeShapes Go.ChangeAt
theorem Tu:prog.globalNamed "unicode/utf8.acceptRanges"=some 2:=π
theorem Tv:prog.globalNamed "unicode/utf8.first"=some 1:=π
theorem uT{W:World}{n:String}{g:Nat}{cs:Array Value}{l:List Value}(hg:prog.globalNamed n=some g)(hv:W.var? prog n=some cs)(c:cs.toList=l)(h1:l.all (fun v=>v.oneCell')=true)(d:l≠[]) :
 g<W.heap.size/\∀j v,l[j]?=some v->v.oneCell'=true/\W.cell? ⟨g,j,none⟩=some v:=by
 have a:∀j v,l[j]?=some v->v.oneCell'=true/\W.cell? ⟨g,j,none⟩=some v:=by
  intro j v b;refine⟨g'.1 h1 v (List.mem_of_getElem? b),?_⟩;rw[World.var?_cell hg hv j,<-b,<-c,Array.getElem?_toList]
 refine⟨?_,a⟩;cases l with
 |nil=>exact absurd rfl d
 |cons v r =>
  have:=(a 0 v rfl).2;rcases r' g W.heap.size with h|h
  ·exact h
  ·simp[World.cell?,Array.getElem?_eq_none h] at this
theorem HO:(Go.Pinned.numbers .u8 Go.Pinned.utf8FirstZ).map BJ=qV:=π
theorem HP:qV≠[]:=fun b=>by
 have a:qV.length=256:=π;rw[b] at a;cases a
theorem OP{W:World}(h:laidMetH prog Rows.keystoreDrawsRow.laid W):GlobOk (fun b=>b<W.heap.size) W:=by
 rw[MakeChecks.laidMetH_plain _ _ _ π] at h;obtain⟨ps,⟨y,z,p,A,p0,B,d,i,j,k,⟨C,D,q,E,F,G,f,m,n,o,_,_⟩,_⟩,_,_⟩:=h;obtain rfl:=v'.inj (Tu.symm.trans d);obtain rfl:=v'.inj (Tv.symm.trans f);have r:(prog.globals[2]?).map (·.type)=some 358:=π;have s:(prog.globals[1]?).map (·.type)=some 355:=π;obtain rfl:=v'.inj (r.symm.trans i);obtain rfl:=v'.inj (s.symm.trans m);have t:=Ek underlying358 π k;have u:=(KM (ds:=Go.Pinned.numbers .u8 Go.Pinned.utf8FirstZ) underlying355 π o).trans HO;have v:=uT (l:=pB) d j t π (by simp[pB]);have x:=uT (l:=qV) f n u π HP;intro g cs hg;unfold od at hg;cases a:Nat.beq g 1 with
 |true=>rw[a] at hg;simp only[v'.injEq] at hg;subst hg;rw[t' a];exact x
 |false =>
  cases c:Nat.beq g 2 with
  |true=>rw[a,c] at hg;simp only[v'.injEq] at hg;subst hg;rw[t' c];exact v
  |false=>rw[a,c] at hg;cases hg
theorem zA(os:Os)(f:os.Started)(H:Type)(enc:TypeId×Value->H) :
 ReturnsInHanded {} checked os 3 .any (fun w a=>(Rows.keystoreDrawsSpec.pre enc prog f3 [] false w a/\laidMetH prog Rows.keystoreDrawsRow.laid w)/\sizedMet enc prog f3 (OpenSpec.ofChange Rows.keystoreDrawsSpec) false w a)
  (Rows.keystoreDrawsSpec.post enc prog f3 false true false false):=by
 refine returnsInHanded_of_change_and (C:=checked) (X:=fun w _=>laidMetH prog Rows.keystoreDrawsRow.laid w) (fun _ _ _ S h=>h.of_heap S) own f π func3
  (ChangeSpec.witness_shaped (enc:=enc) (C:=checked) (os:=os) (X:=fun w _=>laidMetH prog Rows.keystoreDrawsRow.laid w) false (World.laidAll prog os Rows.keystoreDrawsRow.laid) #[.int .i64 0,.slice none 0 0,.int .u8 0] 8 (World.laidAll_os _ _ _)
   (World.shaped_of_ZipB π π) π π π
   (by rw[MakeChecks.laidMetH_plain _ _ _ π];exact laidMet_laidAll _ π π)) ?_
 intro W base a ds gs n g K _ T U _;have b:∀(j:Nat) t v,f3.params[j]?=some t->a[j]?=some v->Value.okWide prog W .any base t v:=g;have k:=K;obtain⟨p,q,r,V,rfl,hfz,hnd⟩:=K;have s:DataW.TrodAll enc prog W 0 (fun _=>true) true f3.params.toList a.toList ds p:=r;have u:=s;rw[params3] at s b
 obtain⟨v0,vs0,d0,ds0,p0,q0,y,rfl,rfl,h0,r0⟩:=trodAll_cons s
 obtain⟨v1,vs1,d1,ds1,p1,q1,rfl,rfl,rfl,h1,r1⟩:=trodAll_cons r0
 obtain⟨v2,vs2,d2,ds2,p2,q2,rfl,rfl,rfl,h2,r2⟩:=trodAll_cons r1
 obtain⟨rfl,rfl,rfl⟩:=trodAll_nil r2;obtain rfl:a=#[v0,v1,v2]:=by cases a;simp_all
 obtain⟨rfl,rfl⟩:=trodVars_none V;have z:∀x∈p0++(p1++(p2++[])),x.block<W.heap.size:=fun x A=>k.lt x (by simpa using A)
 obtain⟨z0,e0,-,-,w0⟩:=open_int underlying3 (b 0 _ v0 rfl rfl) h0;have w0:(-9223372036854775808:Int)<=z0/\z0<=9223372036854775807:=by
  have l:IntKind.i64.min=-9223372036854775808:=rfl;have m:IntKind.i64.max=9223372036854775807:=rfl;simpa only[Lit.wf,l,m,Bool.and_eq_true,decide_eq_true_eq] using w0
 obtain⟨A1,L1,C1,D1⟩:=okWide_slice underlying22 (b 1 _ v1 rfl rfl);have e1:v1.cells.toList=[v1]:=by rw[D1];rfl
 obtain⟨n1,O1⟩:=h1;rw[e1] at O1;obtain⟨l1,m1,w1,g1⟩:=PE underlying22 underlying3 π O1
 obtain⟨z2,e2,-,-,w2⟩:=open_int underlying5 (b 2 _ v2 rfl rfl) h2;have w2:(0:Int)<=z2/\z2<=255:=by
  have l:IntKind.u8.min=0:=rfl;have m:IntKind.u8.max=255:=rfl;simpa only[Lit.wf,l,m,Bool.and_eq_true,decide_eq_true_eq] using w2
 refine(IE (OO z0 w0 l1 l1.length rfl (Nat.lt_succ_of_le m1) z2 w2) (lm func3 rfl π) (OP U) rfl ?_).mono fun e W' ⟨he,Q⟩=>?_
 ·intro i c d
  match i,d with
  |0,d =>
   simp only[d',v'.injEq] at d;subst d;subst e0;exact .p _ _ (.v _ rfl)
  |1,d =>
   simp only[l',d',v'.injEq] at d;subst d;exact .p _ _ g1
  |2,d =>
   simp only[l',d',v'.injEq] at d;subst d;subst e2;exact .p _ _ (.v _ rfl)
  |i+3,d=>simp at d
 ·subst he;refine⟨_,rfl,xe (pa:=p0++(p1++(p2++[]))) (pv:=[]) k (fun _ _ _=>trodAll_cons_mk (shut_bool underlying4 _) trodAll_mk0) (fun sp I=>om Q ?_ u z sp (fun x A=>I x (by simpa using A))) (fun _ _=>rfl) rfl Q (ok_one π rfl (okWide_bool_mk underlying4 _))⟩;rw[params3];intro t ht;simp only[List.mem_cons,List.not_mem_nil,or_false] at ht;rcases ht with rfl|rfl|rfl<;>exact⟨π,of_decide_eq_true π⟩
theorem El:Rows.KeystoreDrawsSaid :=
 OpenClaim.holds_of_wide 3 f3 rfl rfl rfl rfl rfl rfl rfl ⟨rfl,rfl,rfl,rfl,rfl⟩ rfl rfl rfl rfl rfl sF func3 zB Em En
  (fun os a H enc _=>zA os a H enc)
theorem draws_holds:Rows.KeystoreDrawsCardSaid :=
 Claim7.holds_tied_plain_at .later [] [.data,.pinned] true Rows.keystoreDrawsCard.stood.harness false
  El (fun _ h=>by cases h) Eo (fun _ h=>by cases h) keystoreDraws_row_tie rfl ⟨rfl,rfl⟩ π rfl
  (fun f c d a=>by
   obtain rfl:f=3:=v'.inj (sF.symm.trans d) |>.symm
   obtain rfl:c=f3:=(v'.inj (func3.symm.trans a)).symm
   exact⟨BK,fun j t b=>by
    rw[params3] at b
    have g:t∈[3,22,5]:=by simpa using Array.mem_of_getElem? b
    exact(show prog.wantsStandIn t=false by simpa using g'.1 BL t (by simp at g⊢;omega))⟩)
  Ep

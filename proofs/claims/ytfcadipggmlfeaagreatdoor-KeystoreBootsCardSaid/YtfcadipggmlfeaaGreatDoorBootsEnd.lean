/- KeystoreBoots is proved: the law returns true for all arguments; there is no condition. -/
import Derived.Test.YtfcadipggmlfeaaGreatDoorDv
import Derived.Test.YtfcadipggmlfeaaGreatDoorTie
import Derived.LaidMore
import Derived.Stop.Joined
import Derived.OpenShut
import Derived.Lay
import Derived.Test.YtfcadipggmlfeaaGreatDoorBootsFacts
set_option linter.all false
set_option maxRecDepth 100000
set_option maxHeartbeats 4000000
open List renaming take_of_length_le→a',mem_singleton→b',flatMap_cons→c',getElem?_cons_zero→d',mem_cons_self→e',length_cons→f',all_eq_true→g',getD_eq_getElem?_getD→h',getElem?_eq_some_iff→i',length_eq_zero_iff→j',head_eq_of_cons_eq→k',getElem?_cons_succ→l',mem_cons_of_mem→m'
open Go.IntKind renaming i64→n',u64→o'
open Nat renaming le_of_ble_eq_true→q',lt_or_ge→r',lt_of_le_of_lt→s',eq_of_beq_eq_true→t',le_refl→u'
open Option renaming some→v'
open Bool renaming eq_false_or_eq_true→w',false_eq_true→x',true_or→y',or_true→z',or_self→A'
namespace Go.Abs
open RowKit Proofs Proofs.Tryz
theorem pOff(d:aU):FPure prog 12 [bg d] (bg (kV d.fac d.now (flOf d.v.j))):=by
 refine en Tryz.func12 Tryz.ntmps12 Tryz.results12 [0,1,2] ?_;intro c J b Y Z;simp only[go_sem,J];apply aa Z (KX d.fac d.now (flOf d.v.j) _ rfl);simp only[go_sem,J]
def Lnn(d:aU):Prop:=d.fac.ce.length<1000000000/\d.nx.ids.length<1000000000/\d.v.prs.length<1000000000
theorem same_c(r:DR)(h:Lnn r.d):FPure prog 10 [bg r.d,.i r.left,.i r.e,bg r.d,.i r.left,.i r.e] (.b true):=by
 refine en Tryz.func10 Tryz.ntmps10 Tryz.results10 [0,1,2,3,4,5,6,9,12] ?_;intro c J b Y Z;simp only[go_sem,J];apply aa Z (H5 r.d h.1 h.2.1 h.2.2);simp only[go_sem,J,beq_self_eq_true]
theorem Lnn.off{d:aU}(h:Lnn d)(t:Int)(x:Fl):Lnn (kV d.fac t x):=⟨h.1,by show 0<1000000000;decide,by show 0<1000000000;decide⟩
theorem Lnn.fl{d:aU}(h:Lnn d)(v:Vt)(e:Int):Lnn (jz d v e).d:=by unfold jz;split;exact h.off _ _;exact h
theorem Lnn.boot{d:aU}{now B:Int}(h:Lnn d)(k:zR d B):Lnn (mK d now B).d:=by
 unfold mK;split;exact h;split;exact h;dsimp only;split;exact h.fl _ _;rename_i a;split;exact h;split;exact h.fl _ _;rename_i b;exact⟨h.1,by show 0<1000000000;decide,(k.pu _ (by simpa using a) (by simpa using b)).1.1⟩
theorem boots_c(n:Int)(_:(-9223372036854775808:Int)<=n/\n<=9223372036854775807)(l:List Int)(L:Nat)(C:l.length=L)(m:L<9223372036854775808)(now:Int)(_:(-9223372036854775808:Int)<=now/\now<=9223372036854775807)(B:Int)(wB:(-9223372036854775808:Int)<=B/\B<=9223372036854775807):FPure prog 3 [.i n,.p (.data 1 L (l.map qI)),.i now,.i B] (.b true):=by
 obtain⟨f,p,G,E,⟨s,-,-⟩,hG,g⟩:=KK n l L C m;have o:Lnn p.d:=s.same E;have q:=Pu s;have k:=fun B (h:i64 B)=>(LC q ω 0 B h).1;have o1:=K0 p.d;have o2:=pOff p.d;have o3:=o.off p.d.now (flOf p.d.v.j);have k1:=k (-1) (by unfold i64;decide);have k3:zR p.d (-1):=⟨k1.i64,k1.len,k1.op,k1.pu⟩
 have T:∀O:aU,Lnn O->(∀B,i64 B->zR O B)->∀t B,i64 B->FPure prog 8 [bg O,.i t,.i B] (th (mK O t B))/\FPure prog 9 [bg O,.i t,.i B] (th (mK O t B))/\FPure prog 10 [bg (mK O t B).d,.i (mK O t B).left,.i (mK O t B).e,bg (mK O t B).d,.i (mK O t B).left,.i (mK O t B).e] (.b true):=fun O h k t B b=>⟨O7 O t B (k B b),Gf O t B (k B b),same_c _ (h.boot (k B b))⟩
 have b1:=O7 p.d 3 (-1) k3;have b2:=Gf p.d 3 (-1) k3;have b3:=same_c _ (o.boot (now:=3) k3);generalize mK p.d 3 (-1)=R3 at *;have e1:=H5 _ o3.1 o3.2.1 o3.2.2;have x1:=cg now 65535 ε ε;have x2:=cg B 2047 ε ε;obtain⟨t1,ht⟩:∃t,t=n'.wrap (band .i64 now 65535-20):=⟨_,rfl⟩;obtain⟨B1,hB⟩:∃b,b=n'.wrap (band .i64 B 2047-700):=⟨_,rfl⟩;have i1:i64 B1:=by rw[hB,ab ω ω];unfold i64;omega
 by_cases h:band .i64 (ishr .i64 n 28) 7=0
 .have f1:=xT (band .i64 n 65535);have f2:=zV (band .i64 n 65535);obtain⟨f3,f4,f5⟩:=j0 f2;have f6:=fun b h=>vi f2 (B:=b) h;have f7:Lnn (mc (gL (band .i64 n 65535))):=by rw[f5];exact⟨by show(gL (band .i64 n 65535)).ce.length<_;omega,by show 0<1000000000;decide,by show 0<1000000000;decide⟩
  have f8:=TF (gL (band .i64 n 65535)) ω (by
   intro b hb;have hc:(gL (band .i64 n 65535)).ce=([[111,110,101],[116,119,111]]:List (List UInt8)).take (1+band .i64 (ishr .i64 (band .i64 n 65535) 9) 1).toNat:=rfl;exact aht)
  generalize gL (band .i64 n 65535)=F at *;generalize mc F=O at *;obtain⟨a1,a2,a3⟩:=T O f7 f6 t1 B1 i1;obtain⟨c1,c2,c3⟩:=T O f7 f6 now B wB;generalize mK O t1 B1=R1 at *;generalize mK O now B=R2 at *
  refine en Tryz.func3 Tryz.ntmps3 Tryz.results3 [0,1,2,3,8,9,10,11,12,13,14,15,16,17,18,19,20,21,22,23,24,25,26,27,28,38] ?_;intro c J b Y Z;simp only[go_sem,J];apply aa Z g;simp only[go_sem,J];apply aa Z o1;simp only[go_sem,J,h];apply aa Z f1;simp only[go_sem,J];apply aa Z f8;simp only[go_sem,J,<-ht,<-hB];apply aa Z a1;simp only[go_sem,J,<-ht,<-hB];apply aa Z a2;simp only[go_sem,J];apply aa Z c1;simp only[go_sem,J];apply aa Z c2;simp only[go_sem,J];apply aa Z b1;simp only[go_sem,J];apply aa Z b2;simp only[go_sem,J];apply aa Z a3;simp only[go_sem,J];apply aa Z c3;simp only[go_sem,J];apply aa Z b3;simp only[go_sem,J];apply aa Z o2;simp only[go_sem,J];apply aa Z o1;simp only[go_sem,J];apply aa Z e1;simp only[go_sem,J];apply aa Z Id;simp only[go_sem,J];exact π
 .obtain⟨a1,a2,a3⟩:=T _ o3 k t1 B1 i1;obtain⟨c1,c2,c3⟩:=T _ o3 k now B wB;generalize kV p.d.fac p.d.now (flOf p.d.v.j)=O at *;generalize mK O t1 B1=R1 at *;generalize mK O now B=R2 at *
  refine en Tryz.func3 Tryz.ntmps3 Tryz.results3 [0,1,2,3,8,9,10,11,12,13,14,15,16,17,18,19,20,21,22,23,24,25,26,27,28,38] ?_;intro c J b Y Z;simp only[go_sem,J];apply aa Z g;simp only[go_sem,J];apply aa Z o1;simp only[go_sem,J,h,<-ht,<-hB];apply aa Z a1;simp only[go_sem,J,<-ht,<-hB];apply aa Z a2;simp only[go_sem,J];apply aa Z c1;simp only[go_sem,J];apply aa Z c2;simp only[go_sem,J];apply aa Z b1;simp only[go_sem,J];apply aa Z b2;simp only[go_sem,J];apply aa Z a3;simp only[go_sem,J];apply aa Z c3;simp only[go_sem,J];apply aa Z b3;simp only[go_sem,J];apply aa Z o2;simp only[go_sem,J];apply aa Z o1;simp only[go_sem,J];apply aa Z e1;simp only[go_sem,J];apply aa Z Id;simp only[go_sem,J];exact π
end Go.Abs
namespace Go.Proofs.YtfcadipggmlfeaaGreatDoor
open Go Abs RowKit Proofs.Tryz
section
open Go.WideShapes Go.ChangeShapes Go.ChangeAt
theorem BI{D:Type}(k:Nat)(f:D->List Value):∀(n:Nat) (cs:List Value) (ds:List D),cs.length=n*k->ds.length=n ->
 (∀i d,ds[i]?=some d->(cs.drop (i*k)).take k=f d)->cs=ds.flatMap f:=by
 intro n
 induction n with
 |zero =>
  intro cs ds g a _;have b:cs=[]:=j'.1 ω;have c:ds=[]:=j'.1 a;subst b;subst c;rfl
 |succ n l =>
  intro cs ds g a h;cases ds with
  |nil=>cases a
  |cons d ds =>
   have j:=h 0 d rfl;rw[Nat.zero_mul,List.drop_zero] at j
   have h1:=l (cs.drop k) ds (by rw[List.length_drop,g,Nat.succ_mul];omega) (by simpa using a) (fun i x m=>by
    have:=h (i+1) x (by simpa using m)
    rw[List.drop_drop,Nat.add_comm k,<-Nat.succ_mul]
    exact this)
   rw[c',<-h1,<-j,List.take_append_drop]
def BJ:DataW Unit->Value
 |.lit (.int k n) => .int k n
 |_=>undef
def Tt:DataW Unit->List Value
 |.agg l=>l.map BJ
 |d=>[BJ d]
end
section
open Go.WideShapes Go.ChangeShapes Go.ChangeAt
variable {w : World} {fuel : Nat} {base : Nat} {sp : Nat → Bool} {held : Bool} {e : TypeId × Value → Unit}
theorem zy{t:TypeId}{k:IntKind}{cs:List Value}{x:DataW Unit×List MemPlace}(a:prog.underlying t=some (.int k))(h:DataW.trod e prog w base sp held fuel t cs=some x):cs=[BJ x.1]:=by
 obtain⟨n,rfl,rfl,-⟩:=DataW.trod_int a h;rfl
theorem KM{t:TypeId}{n:Nat}{cs:List Value}{ds:List (DataW Unit)}{p:List MemPlace}(g:prog.underlying t=some (.array n 5))(k:prog.cellsOf t=n)
 (h:DataW.trod e prog w base sp held fuel t cs=some (.agg ds,p)):cs=ds.map BJ:=by
 obtain⟨xs,m,-,c,hl,hxn,hf⟩:=DataW.trod_array g h;have j:prog.cellsOf 5=1:=π;simp only[Prod.mk.injEq,DataW.agg.injEq] at c;obtain⟨rfl,-⟩:=c
 have:=BI 1 (fun x:DataW Unit×List MemPlace=>[BJ x.1]) n cs xs ω hxn (fun i d f=>by
  have b:i<n:=by
   rw[<-hxn];exact(i'.1 f).1
  have:=hf i b
  rw[f,j] at this
  exact zy underlying5 this)
 exact aiD
theorem HN{cs:List Value}{x:DataW Unit×List MemPlace}(h:DataW.trod e prog w base sp held fuel 360 cs=some x):cs=Tt x.1:=by
 obtain⟨xs,m,-,g,l,a,i⟩:=DataW.trod_struct underlying360 h;have n:prog.cellsOf 360=2:=π;have o:prog.cellsOf 5=1:=π;rw[n] at l;have b:DataW.trod e prog w base sp held m 5 ((cs.drop 0).take (prog.cellsOf 5))=xs[0]?:=i 0 _ rfl;have c:DataW.trod e prog w base sp held m 5 ((cs.drop 1).take (prog.cellsOf 5))=xs[1]?:=i 1 _ rfl;rw[o] at b c;have d:xs.length=2:=a
 match xs,d,g,b,c with
 |[x0,x1],_,g,b,c =>
  have j:=zy underlying5 (show _=some x0 from b);have k:=zy underlying5 (show _=some x1 from c);have f:x.1 = .agg [x0.1,x1.1]:=by rw[g];rfl
  rw[f];clear g f b c h i a
  match cs,l,j,k with
  |[c0,c1],_,j,k =>
   have p:c0=BJ x0.1:=k' j;have q:c1=BJ x1.1:=k' k;rw[p,q];rfl
theorem Ek{t:TypeId}{n:Nat}{cs:List Value}{ds:List (DataW Unit)}{p:List MemPlace}(g:prog.underlying t=some (.array n 360))(k:prog.cellsOf t=n*2)
 (h:DataW.trod e prog w base sp held fuel t cs=some (.agg ds,p)):cs=ds.flatMap Tt:=by
 obtain⟨xs,m,-,c,hl,hxn,hf⟩:=DataW.trod_array g h;have j:prog.cellsOf 360=2:=π;simp only[Prod.mk.injEq,DataW.agg.injEq] at c;obtain⟨rfl,-⟩:=c
 have:=BI 2 (fun x:DataW Unit×List MemPlace=>Tt x.1) n cs xs ω hxn (fun i d f=>by
  have b:i<n:=by
   rw[<-hxn];exact(i'.1 f).1
  have:=hf i b
  rw[f,j] at this
  exact HN this)
 exact aiD
end
section
open Go.WideShapes Go.ChangeShapes Go.ChangeAt
theorem Tu:prog.globalNamed "unicode/utf8.acceptRanges"=some 2:=π
theorem Tv:prog.globalNamed "unicode/utf8.first"=some 1:=π
theorem uT{W:World}{n:String}{g:Nat}{cs:Array Value}{l:List Value}(hg:prog.globalNamed n=some g)(hv:W.var? prog n=some cs)(c:cs.toList=l)(h1:l.all (fun v=>v.oneCell')=true)(d:l≠[]) :
 g<W.heap.size/\∀j v,l[j]?=some v->v.oneCell'=true/\W.cell? ⟨g,j,none⟩=some v:=by
 have a:∀j v,l[j]?=some v->v.oneCell'=true/\W.cell? ⟨g,j,none⟩=some v:=by
  intro j v b;refine⟨g'.1 h1 v (List.mem_of_getElem? b),?_⟩;rw[World.var?_cell hg hv j,<-b,<-c,Array.getElem?_toList]
 refine⟨?_,a⟩;cases l with
 |nil=>exact absurd rfl d
 |cons v r =>
  have:=(a 0 v rfl).2;rcases r' g W.heap.size with h|h
  ·exact h
  ·simp[World.cell?,Array.getElem?_eq_none h] at this
theorem HO:(Go.Pinned.numbers .u8 Go.Pinned.utf8FirstZ).map BJ=qV:=π
theorem HP:qV≠[]:=fun b=>by
 have a:qV.length=256:=π;rw[b] at a;cases a
theorem OP{W:World}(h:laidMetH prog Rows.keystoreBootsRow.laid W):GlobOk (fun b=>b<W.heap.size) W:=by
 rw[MakeChecks.laidMetH_plain _ _ _ π] at h;obtain⟨ps,⟨y,z,p,A,p0,B,d,i,j,k,⟨C,D,q,E,F,G,f,m,n,o,_,_⟩,_⟩,_,_⟩:=h;obtain rfl:=v'.inj (Tu.symm.trans d);obtain rfl:=v'.inj (Tv.symm.trans f);have r:(prog.globals[2]?).map (·.type)=some 361:=π;have s:(prog.globals[1]?).map (·.type)=some 358:=π;obtain rfl:=v'.inj (r.symm.trans i);obtain rfl:=v'.inj (s.symm.trans m);have t:=Ek underlying361 π k;have u:=(KM (ds:=Go.Pinned.numbers .u8 Go.Pinned.utf8FirstZ) underlying358 π o).trans HO;have v:=uT (l:=pB) d j t π (by simp[pB]);have x:=uT (l:=qV) f n u π HP;intro g cs hg;unfold od at hg;cases a:Nat.beq g 1 with
 |true=>rw[a] at hg;simp only[v'.injEq] at hg;subst hg;rw[t' a];exact x
 |false =>
  cases c:Nat.beq g 2 with
  |true=>rw[a,c] at hg;simp only[v'.injEq] at hg;subst hg;rw[t' c];exact v
  |false=>rw[a,c] at hg;cases hg
theorem zA(os:Os)(f:os.Started)(H:Type)(enc:TypeId×Value->H) :
 ReturnsInHanded {} checked os 3 .any (fun w a=>(Rows.keystoreBootsSpec.pre enc prog f3 [] false w a/\laidMetH prog Rows.keystoreBootsRow.laid w)/\sizedMet enc prog f3 (OpenSpec.ofChange Rows.keystoreBootsSpec) false w a)
  (Rows.keystoreBootsSpec.post enc prog f3 false true false false):=by
 refine returnsInHanded_of_change_and (C:=checked) (X:=fun w _=>laidMetH prog Rows.keystoreBootsRow.laid w) (fun _ _ _ S h=>h.of_heap S) own f π func3
  (ChangeSpec.witness_shaped (enc:=enc) (C:=checked) (os:=os) (X:=fun w _=>laidMetH prog Rows.keystoreBootsRow.laid w) false (World.laidAll prog os Rows.keystoreBootsRow.laid) #[.int .i64 0,.slice none 0 0,.int .i64 0,.int .i64 0] 8 (World.laidAll_os _ _ _)
   (World.shaped_of_ZipB π π) π π π
   (by rw[MakeChecks.laidMetH_plain _ _ _ π];exact laidMet_laidAll _ π π)) ?_
 intro W base a ds gs n g K _ T U _;have b:∀(j:Nat) t v,f3.params[j]?=some t->a[j]?=some v->Value.okWide prog W .any base t v:=g;have k:=K;obtain⟨p,q,r,V,rfl,hfz,hnd⟩:=K;have s:DataW.TrodAll enc prog W 0 (fun _=>true) true f3.params.toList a.toList ds p:=r;have u:=s;rw[params3] at s b
 obtain⟨v0,vs0,d0,ds0,p0,q0,y,rfl,rfl,h0,r0⟩:=trodAll_cons s
 obtain⟨v1,vs1,d1,ds1,p1,q1,rfl,rfl,rfl,h1,r1⟩:=trodAll_cons r0
 obtain⟨v2,vs2,d2,ds2,p2,q2,rfl,rfl,rfl,h2,r2⟩:=trodAll_cons r1
 obtain⟨v3,vs3,d3,ds3,p3,q3,rfl,rfl,rfl,h3,r3⟩:=trodAll_cons r2
 obtain⟨rfl,rfl,rfl⟩:=trodAll_nil r3;obtain rfl:a=#[v0,v1,v2,v3]:=by cases a;simp_all
 obtain⟨rfl,rfl⟩:=trodVars_none V;have z:∀x∈p0++(p1++(p2++(p3++[]))),x.block<W.heap.size:=fun x A=>k.lt x (by simpa using A)
 obtain⟨z0,e0,-,-,w0⟩:=open_int underlying3 (b 0 _ v0 rfl rfl) h0;have w0:(-9223372036854775808:Int)<=z0/\z0<=9223372036854775807:=by
  have l:IntKind.i64.min=-9223372036854775808:=rfl;have m:IntKind.i64.max=9223372036854775807:=rfl;simpa only[Lit.wf,l,m,Bool.and_eq_true,decide_eq_true_eq] using w0
 obtain⟨A1,L1,C1,D1⟩:=okWide_slice underlying22 (b 1 _ v1 rfl rfl);have e1:v1.cells.toList=[v1]:=by rw[D1];rfl
 obtain⟨n1,O1⟩:=h1;rw[e1] at O1;obtain⟨l1,m1,w1,g1⟩:=PE underlying22 underlying3 π O1
 obtain⟨z2,e2,-,-,w2⟩:=open_int underlying3 (b 2 _ v2 rfl rfl) h2;have w2:(-9223372036854775808:Int)<=z2/\z2<=9223372036854775807:=by
  have l:IntKind.i64.min=-9223372036854775808:=rfl;have m:IntKind.i64.max=9223372036854775807:=rfl;simpa only[Lit.wf,l,m,Bool.and_eq_true,decide_eq_true_eq] using w2
 obtain⟨z3,e3,-,-,w3⟩:=open_int underlying3 (b 3 _ v3 rfl rfl) h3;have w3:(-9223372036854775808:Int)<=z3/\z3<=9223372036854775807:=by
  have l:IntKind.i64.min=-9223372036854775808:=rfl;have m:IntKind.i64.max=9223372036854775807:=rfl;simpa only[Lit.wf,l,m,Bool.and_eq_true,decide_eq_true_eq] using w3
 refine(IE (boots_c z0 w0 l1 l1.length rfl (Nat.lt_succ_of_le m1) z2 w2 z3 w3) (lm func3 rfl π) (OP U) rfl ?_).mono fun e W' ⟨he,Q⟩=>?_
 ·intro i c d
  match i,d with
  |0,d =>
   simp only[d',v'.injEq] at d;subst d;subst e0;exact .p _ _ (.v _ rfl)
  |1,d =>
   simp only[l',d',v'.injEq] at d;subst d;exact .p _ _ g1
  |2,d =>
   simp only[l',d',v'.injEq] at d;subst d;subst e2;exact .p _ _ (.v _ rfl)
  |3,d =>
   simp only[l',d',v'.injEq] at d;subst d;subst e3;exact .p _ _ (.v _ rfl)
  |i+4,d=>simp at d
 ·subst he;refine⟨_,rfl,xe (pa:=p0++(p1++(p2++(p3++[])))) (pv:=[]) k (fun _ _ _=>trodAll_cons_mk (shut_bool underlying4 _) trodAll_mk0) (fun sp I=>om Q ?_ u z sp (fun x A=>I x (by simpa using A))) (fun _ _=>rfl) rfl Q (ok_one π rfl (okWide_bool_mk underlying4 _))⟩;rw[params3];intro t ht;simp only[List.mem_cons,List.not_mem_nil,or_false] at ht;rcases ht with rfl|rfl|rfl|rfl<;>exact⟨π,of_decide_eq_true π⟩
theorem El:Rows.KeystoreBootsSaid :=
 OpenClaim.holds_of_wide 3 f3 rfl rfl rfl rfl rfl rfl rfl ⟨rfl,rfl,rfl,rfl,rfl⟩ rfl rfl rfl rfl rfl sF func3 zB Em En
  (fun os a H enc _=>zA os a H enc)
theorem boots_holds:Rows.KeystoreBootsCardSaid :=
 Claim7.holds_tied_plain_at .later [] [.data,.pinned] true Rows.keystoreBootsCard.stood.harness false
  El (fun _ h=>by cases h) Eo (fun _ h=>by cases h) keystoreBoots_row_tie rfl ⟨rfl,rfl⟩ π rfl
  (fun f c d a=>by
   obtain rfl:f=3:=v'.inj (sF.symm.trans d) |>.symm
   obtain rfl:c=f3:=(v'.inj (func3.symm.trans a)).symm
   exact⟨BK,fun j t b=>by
    rw[params3] at b
    have g:t∈[3,22,3,3]:=by simpa using Array.mem_of_getElem? b
    exact(show prog.wantsStandIn t=false by simpa using g'.1 BL t (by simp only[List.mem_cons,List.not_mem_nil,or_false] at g⊢;rcases g with h|h|h|h<;>simp[h]))⟩)
  Ep

/- KeystoreStores returns true for all arguments; there is no condition. -/
import Derived.Test.YthojgcnbclfinaaGreatDoorDv
import Derived.Test.YthojgcnbclfinaaGreatDoorTie
import Derived.LaidMore
import Derived.Stop.Joined
import Derived.OpenShut
import Derived.Lay
import Derived.Test.YthojgcnbclfinaaGreatDoorStoresFacts
set_option linter.all false
set_option maxRecDepth 100000
set_option maxHeartbeats 4000000
open List renaming take_of_length_le→a',mem_singleton→b',flatMap_cons→c',getElem?_cons_zero→d',mem_cons_self→e',length_cons→f',all_eq_true→g',getD_eq_getElem?_getD→h',getElem?_eq_some_iff→i',length_eq_zero_iff→j',head_eq_of_cons_eq→k',getElem?_cons_succ→l',mem_cons_of_mem→m'
open Go.IntKind renaming i64→n',u64→o'
open Nat renaming le_of_ble_eq_true→q',lt_or_ge→r',lt_of_le_of_lt→s',eq_of_beq_eq_true→t',le_refl→u'
open Option renaming some→v'
open Bool renaming eq_false_or_eq_true→w',false_eq_true→x',true_or→y',or_true→z',or_self→A'
namespace Go.Abs
open RowKit Proofs Proofs.Tryz
attribute[go_sem]ntmps12 results12 ntmps10 results10 ntmps3 results3
theorem bOf(zs:List Int)(h:∀z∈zs,(Lit.int .u8 z).wf=true):∃bs:List UInt8,bs.length=zs.length/\(zs.map fun z=>PV.v (.int .u8 z))=bs.map bt:=by
 refine⟨zs.map u8i,by simp,?_⟩;rw[List.map_map];refine List.map_congr_left fun z hz=>?_;have w:=h z hz;have:0<=z/\z<=255:=by
  have l:IntKind.u8.min=0:=rfl;have m:IntKind.u8.max=255:=rfl;simpa only[Lit.wf,l,m,Bool.and_eq_true,decide_eq_true_eq] using w
 show PV.v (.int .u8 z)=.v (.int .u8 ((u8i z).toNat:Int));rw[rA this.1 this.2]
def Lnn(d:aU):Prop:=d.fac.ce.length<1000000000/\d.nx.ids.length<1000000000/\d.v.prs.length<1000000000
theorem sam(r:DR)(h:Lnn r.d):FPure prog 12 [bg r.d,.i r.left,.i r.e,bg r.d,.i r.left,.i r.e] (.b true):=by
 refine ba f12 [0,1,2,3,4,5,6,9,12] ?_;intro c J b Y Z;refine δ (H5 r.d h.1 h.2.1 h.2.2) ?_;simp only[go_sem,J,beq_self_eq_true]
theorem Lnn.off{d:aU}(h:Lnn d)(t:Int)(x:Fl):Lnn (kV d.fac t x):=⟨h.1,Nat.succ_pos _,Nat.succ_pos _⟩
theorem Lnn.fl{d:aU}(h:Lnn d)(v:Vt)(e:Int):Lnn (jz d v e).d:=by unfold jz;split;exact h.off _ _;exact h
theorem Lnn.st{f:aO}{d:aU}{G B:Int}{T:DR}(h:Lnn d)(q:DInv f d G)(hG:G<99)(t:Ans d B T):Lnn T.d:=by
 rcases t with⟨e,-,-,rfl⟩|⟨l,-,-,rfl⟩
 .exact h
 unfold dF;split;exact h;rename_i a;dsimp only;split;exact h.fl _ _;rename_i b;rcases q with q|q
 .rcases Fh q.ok ω l B with⟨-,e,-,-,-⟩|⟨e,-⟩|⟨e,-⟩
  .exact⟨h.1,h.2.1,e.vlen.1⟩
  .omega
  .exact absurd e b
 .exact absurd (by rw[q.is];rfl) a
theorem pst(d:aU)(l:ai)(B:Int)(e:d.v.j.bs.length<1000000000)(g:∀x,x∈l->x.2.length<1000)(h:l.length<300)(k:i64 B):FPure prog 10 [bg d,.p (PL l),.i B] (th (dF d l B)):=by
 refine ba f10 [0,1,2,3,6,7,8,9,10,11,14,26] ?_;intro c J n Y Z;obtain⟨R,hR⟩:∃R,dF d l B=R:=⟨_,rfl⟩;rw[hR] at Y Z;(try rw[hR]);unfold dF at hR;by_cases hon:d.on=false
 .exact aiF
 rw[b0 hon] at hR;have a:d.on=true:=by simpa using hon
 simp only[go_sem,J,a];apply aa Z (Yz d.v _ l B rfl e ω (fun x m=>by have:=g x m;omega) k);rw[Qj];generalize rputM d.v l B=P at *;by_cases b:P.err=0
 .rw[b0 ω] at hR;subst hR;simp only[go_sem,J,b];exact av _
 .rw[b9 b] at hR;subst hR;simp only[go_sem,J,b];apply aa Z (xP d P.v P.err);simp only[go_sem,J]
theorem st2{P:Program}{f:FuncId}{d:aU}{a k:Int}{v:List UInt8}{B:Int}{r:AV}(h:FPure P f [bg d,.p (PL [(a,v),(k,[])]),.i B] r):FPure P f [bg d,.p (.data 2 2 [.v (.int .i64 a),.data 1 v.length (v.map bt),.v (.int .i64 k),.v (.slice none 0 0)]),.i B] r:=by
 refine lI h rfl fun ρ F w g hg j x c=>?_
 match j,c with
 |0,c=>exact hg 0 x c
 |1,c =>
  have h1:=hg 1 _ rfl;cases c;cases h1 with
  |p _ _ h1=>
   refine .p _ _ (yb (cs':=[.v (.int .i64 a),.data 1 v.length (v.map bt),.v (.int .i64 k),.v (.slice none 0 0)]) rfl (fun j x hx=>?_) h1)
   match j,hx with
   |0,hx=>exact .inl hx
   |1,hx=>exact .inl hx
   |2,hx=>exact .inl hx
   |3,hx=>cases hx;exact .inr ⟨1,rfl,rfl⟩
   |j+4,hx=>rw[List.getElem?_eq_none (by show 4<=j+4;omega)] at hx;cases hx
 |2,c=>exact hg 2 x c
 |j+3,c=>simp at c
theorem lwC(n:Int)(l:List Int)(L:Nat)(C:l.length=L)(m:L<9223372036854775808)(key:Int)(v:List UInt8)(V:Nat)(hV:v.length=V)(mV:V<9223372036854775808)(B:Int):FPure prog 3 [.i n,.p (.data 1 L (l.map qI)),.i key,.p (.data 1 V (v.map bt)),.i B] (.b true):=by
 subst hV;by_cases h0:(v.length:Int)>300
 .refine ba f3 [0,1,2,3,4,10,11,12,13,14,15,16,17,18,21,30] ?_;intro c J b Y Z;simp only[go_sem,J,h0];apply aa Z Id;simp only[go_sem,J]
 obtain⟨f,p,G,E,⟨s,-,-⟩,hG,g⟩:=KK n l L C m;have o:Lnn p.d:=s.same E;have o1:=K0 p.d;obtain⟨x,k4⟩:∃x,n'.wrap (100+band .i64 key 31)=x:=⟨_,rfl⟩;obtain⟨y,k5⟩:∃y,n'.wrap (120+band .i64 (ishr .i64 key 5) 31)=y:=⟨_,rfl⟩;have k3:=cg B 1023 ε ε;obtain⟨z,k6,i⟩:∃z,n'.wrap (band .i64 B 1023-300)=z/\i64 z:=⟨_,ab ω ω,by unfold i64;omega⟩;have q1:=cg key 31 ε ε;have q2:=cg (ishr .i64 key 5) 31 ε ε;have q4:=k4;have q5:=k5;rw[ab ω ω] at q4 q5
 obtain⟨O,hO,a,e⟩:∃O,O=(if band .i64 (ishr .i64 key 10) 7=0 then kV p.d.fac p.d.now (flOf p.d.v.j) else p.d)/\Lnn O/\DInv f O G:=by
  refine⟨_,rfl,?_⟩;split;exact⟨o.off _ _,.inr (Pu s)⟩;exact⟨o,s⟩
 have j:O.v.j.bs.length<1000000000:=e.elim (·.len) (·.len);have b:∀e,e∈[(x,v),(y,[])]->p7 e:=by
  intro e he;simp at he;rcases he with rfl|rfl
  .constructor<;>intros<;>(try dsimp only at *)<;>omega
  .exact nW _
 have t1:=st2 (pst O _ z j (fun x f=>(b x f).len) η i);have t3:=nX O _ z j e.vl.1 b η i;have t2:=st2 t3.2;have t4:=sam _ (a.st e hG t3.1);generalize dF O [(x,v),(y,[])] z=R at *
 refine ba f3 [0,1,2,3,4,10,11,12,13,14,15,16,17,18,21,30] ?_;intro c J b Y Z;simp only[go_sem,J,h0];apply aa Z g;by_cases h:band .i64 (ishr .i64 key 10) 7=0
 case' pos=>rw[b9 h] at hO;rw[<-hO] at o1;simp only[go_sem,J,h];apply aa Z o1
 case' neg=>rw[b0 h] at hO;subst hO
 all_goals (simp only[go_sem,J,h,k4,k5,k6];refine gU Y (ks:=[0,1,2,3,4,10,11,12,13,14,15,16,17,18,21,30]) (n:=2000) 1 κ ?_;simp only[go_sem,J,k6];apply aa Z t1;simp only[go_sem,J,k6];apply aa Z t2;refine δ t4 ?_;refine δ Id ?_;simp only[go_sem,J])
end Go.Abs
namespace Go.Proofs.YthojgcnbclfinaaGreatDoor
open Go Abs RowKit Proofs.Tryz
section
open Go.WideShapes Go.ChangeShapes Go.ChangeAt
theorem BI{D:Type}(k:Nat)(f:D->List Value):∀(n:Nat) (cs:List Value) (ds:List D),cs.length=n*k->ds.length=n ->
 (∀i d,ds[i]?=some d->(cs.drop (i*k)).take k=f d)->cs=ds.flatMap f:=by
 intro n
 induction n with
 |zero =>
  intro cs ds g a _;have b:cs=[]:=j'.1 ω;have c:ds=[]:=j'.1 a;subst b;subst c;rfl
 |succ n l =>
  intro cs ds g a h;cases ds with
  |nil=>cases a
  |cons d ds =>
   have j:=h 0 d rfl;rw[Nat.zero_mul,List.drop_zero] at j
   have h1:=l (cs.drop k) ds (by rw[List.length_drop,g,Nat.succ_mul];omega) (by simpa using a) (fun i x m=>by
    have:=h (i+1) x (by simpa using m)
    rw[List.drop_drop,Nat.add_comm k,<-Nat.succ_mul]
    exact this)
   rw[c',<-h1,<-j,List.take_append_drop]
def BJ:DataW Unit->Value
 |.lit (.int k n) => .int k n
 |_=>undef
def Tt:DataW Unit->List Value
 |.agg l=>l.map BJ
 |d=>[BJ d]
end
section
open Go.WideShapes Go.ChangeShapes Go.ChangeAt
variable {w : World} {fuel : Nat} {base : Nat} {sp : Nat → Bool} {held : Bool} {e : TypeId × Value → Unit}
theorem zy{t:TypeId}{k:IntKind}{cs:List Value}{x:DataW Unit×List MemPlace}(a:prog.underlying t=some (.int k))(h:DataW.trod e prog w base sp held fuel t cs=some x):cs=[BJ x.1]:=by
 obtain⟨n,rfl,rfl,-⟩:=DataW.trod_int a h;rfl
theorem KM{t:TypeId}{n:Nat}{cs:List Value}{ds:List (DataW Unit)}{p:List MemPlace}(g:prog.underlying t=some (.array n 5))(k:prog.cellsOf t=n)
 (h:DataW.trod e prog w base sp held fuel t cs=some (.agg ds,p)):cs=ds.map BJ:=by
 obtain⟨xs,m,-,c,hl,hxn,hf⟩:=DataW.trod_array g h;have j:prog.cellsOf 5=1:=π;simp only[Prod.mk.injEq,DataW.agg.injEq] at c;obtain⟨rfl,-⟩:=c
 have:=BI 1 (fun x:DataW Unit×List MemPlace=>[BJ x.1]) n cs xs ω hxn (fun i d f=>by
  have b:i<n:=by
   rw[<-hxn];exact(i'.1 f).1
  have:=hf i b
  rw[f,j] at this
  exact zy underlying5 this)
 exact aiD
theorem HN{cs:List Value}{x:DataW Unit×List MemPlace}(h:DataW.trod e prog w base sp held fuel 309 cs=some x):cs=Tt x.1:=by
 obtain⟨xs,m,-,g,l,a,i⟩:=DataW.trod_struct underlying309 h;have n:prog.cellsOf 309=2:=π;have o:prog.cellsOf 5=1:=π;rw[n] at l;have b:DataW.trod e prog w base sp held m 5 ((cs.drop 0).take (prog.cellsOf 5))=xs[0]?:=i 0 _ rfl;have c:DataW.trod e prog w base sp held m 5 ((cs.drop 1).take (prog.cellsOf 5))=xs[1]?:=i 1 _ rfl;rw[o] at b c;have d:xs.length=2:=a
 match xs,d,g,b,c with
 |[x0,x1],_,g,b,c =>
  have j:=zy underlying5 (show _=some x0 from b);have k:=zy underlying5 (show _=some x1 from c);have f:x.1 = .agg [x0.1,x1.1]:=by rw[g];rfl
  rw[f];clear g f b c h i a
  match cs,l,j,k with
  |[c0,c1],_,j,k =>
   have p:c0=BJ x0.1:=k' j;have q:c1=BJ x1.1:=k' k;rw[p,q];rfl
theorem Ek{t:TypeId}{n:Nat}{cs:List Value}{ds:List (DataW Unit)}{p:List MemPlace}(g:prog.underlying t=some (.array n 309))(k:prog.cellsOf t=n*2)
 (h:DataW.trod e prog w base sp held fuel t cs=some (.agg ds,p)):cs=ds.flatMap Tt:=by
 obtain⟨xs,m,-,c,hl,hxn,hf⟩:=DataW.trod_array g h;have j:prog.cellsOf 309=2:=π;simp only[Prod.mk.injEq,DataW.agg.injEq] at c;obtain⟨rfl,-⟩:=c
 have:=BI 2 (fun x:DataW Unit×List MemPlace=>Tt x.1) n cs xs ω hxn (fun i d f=>by
  have b:i<n:=by
   rw[<-hxn];exact(i'.1 f).1
  have:=hf i b
  rw[f,j] at this
  exact HN this)
 exact aiD
end
section
open Go.WideShapes Go.ChangeShapes Go.ChangeAt
theorem Tu:prog.globalNamed "unicode/utf8.acceptRanges"=some 1:=π
theorem Tv:prog.globalNamed "unicode/utf8.first"=some 0:=π
theorem uT{W:World}{n:String}{g:Nat}{cs:Array Value}{l:List Value}(hg:prog.globalNamed n=some g)(hv:W.var? prog n=some cs)(c:cs.toList=l)(h1:l.all (fun v=>v.oneCell')=true)(d:l≠[]) :
 g<W.heap.size/\∀j v,l[j]?=some v->v.oneCell'=true/\W.cell? ⟨g,j,none⟩=some v:=by
 have a:∀j v,l[j]?=some v->v.oneCell'=true/\W.cell? ⟨g,j,none⟩=some v:=by
  intro j v b;refine⟨g'.1 h1 v (List.mem_of_getElem? b),?_⟩;rw[World.var?_cell hg hv j,<-b,<-c,Array.getElem?_toList]
 refine⟨?_,a⟩;cases l with
 |nil=>exact absurd rfl d
 |cons v r =>
  have:=(a 0 v rfl).2;rcases r' g W.heap.size with h|h
  ·exact h
  ·simp[World.cell?,Array.getElem?_eq_none h] at this
theorem HO:(Go.Pinned.numbers .u8 Go.Pinned.utf8FirstZ).map BJ=qV:=π
theorem HP:qV≠[]:=fun b=>by
 have a:qV.length=256:=π;rw[b] at a;cases a
theorem OP{W:World}(h:laidMetH prog Rows.keystoreStoresRow.laid W):GlobOk (fun b=>b<W.heap.size) W:=by
 rw[MakeChecks.laidMetH_plain _ _ _ π] at h;obtain⟨ps,⟨y,z,p,A,p0,B,d,i,j,k,⟨C,D,q,E,F,G,f,m,n,o,_,_⟩,_⟩,_,_⟩:=h;obtain rfl:=v'.inj (Tu.symm.trans d);obtain rfl:=v'.inj (Tv.symm.trans f);have r:(prog.globals[1]?).map (·.type)=some 310:=π;have s:(prog.globals[0]?).map (·.type)=some 307:=π;obtain rfl:=v'.inj (r.symm.trans i);obtain rfl:=v'.inj (s.symm.trans m);have t:=Ek underlying310 π k;have u:=(KM (ds:=Go.Pinned.numbers .u8 Go.Pinned.utf8FirstZ) underlying307 π o).trans HO;have v:=uT (l:=pB) d j t π (by simp[pB]);have x:=uT (l:=qV) f n u π HP;intro g cs hg;unfold od at hg;cases a:Nat.beq g 0 with
 |true=>rw[a] at hg;simp only[v'.injEq] at hg;subst hg;rw[t' a];exact x
 |false =>
  cases c:Nat.beq g 1 with
  |true=>rw[a,c] at hg;simp only[v'.injEq] at hg;subst hg;rw[t' c];exact v
  |false=>rw[a,c] at hg;cases hg
theorem zA(os:Os)(f:os.Started)(H:Type)(enc:TypeId×Value->H) :
 ReturnsInHanded {} checked os 3 .any (fun w a=>(Rows.keystoreStoresSpec.pre enc prog f3 [] false w a/\laidMetH prog Rows.keystoreStoresRow.laid w)/\sizedMet enc prog f3 (OpenSpec.ofChange Rows.keystoreStoresSpec) false w a)
  (Rows.keystoreStoresSpec.post enc prog f3 false true false false):=by
 refine returnsInHanded_of_change_and (C:=checked) (X:=fun w _=>laidMetH prog Rows.keystoreStoresRow.laid w) (fun _ _ _ S h=>h.of_heap S) own f π func3
  (ChangeSpec.witness_shaped (enc:=enc) (C:=checked) (os:=os) (X:=fun w _=>laidMetH prog Rows.keystoreStoresRow.laid w) false (World.laidAll prog os Rows.keystoreStoresRow.laid) #[.int .i64 0,.slice none 0 0,.int .i64 0,.slice none 0 0,.int .i64 0] 8 (World.laidAll_os _ _ _)
   (World.shaped_of_ZipB π π) π π π
   (by rw[MakeChecks.laidMetH_plain _ _ _ π];exact laidMet_laidAll _ π π)) ?_
 intro W base a ds gs n g K _ T U _;have b:∀(j:Nat) t v,f3.params[j]?=some t->a[j]?=some v->Value.okWide prog W .any base t v:=g;have k:=K;obtain⟨p,q,r,V,rfl,hfz,hnd⟩:=K;have s:DataW.TrodAll enc prog W 0 (fun _=>true) true f3.params.toList a.toList ds p:=r;have u:=s;rw[params3] at s b
 obtain⟨v0,vs0,d0,ds0,p0,q0,y,rfl,rfl,h0,r0⟩:=trodAll_cons s
 obtain⟨v1,vs1,d1,ds1,p1,q1,rfl,rfl,rfl,h1,r1⟩:=trodAll_cons r0
 obtain⟨v2,vs2,d2,ds2,p2,q2,rfl,rfl,rfl,h2,r2⟩:=trodAll_cons r1
 obtain⟨v3,vs3,d3,ds3,p3,q3,rfl,rfl,rfl,h3,r3⟩:=trodAll_cons r2
 obtain⟨v4,vs4,d4,ds4,p4,q4,rfl,rfl,rfl,h4,r4⟩:=trodAll_cons r3
 obtain⟨rfl,rfl,rfl⟩:=trodAll_nil r4;obtain rfl:a=#[v0,v1,v2,v3,v4]:=by cases a;simp_all
 obtain⟨rfl,rfl⟩:=trodVars_none V;have z:∀x∈p0++(p1++(p2++(p3++(p4++[])))),x.block<W.heap.size:=fun x A=>k.lt x (by simpa using A)
 obtain⟨z0,e0,-,-,-⟩:=open_int underlying3 (b 0 _ v0 rfl rfl) h0
 obtain⟨A1,L1,C1,D1⟩:=okWide_slice underlying22 (b 1 _ v1 rfl rfl);have e1:v1.cells.toList=[v1]:=by rw[D1];rfl
 obtain⟨n1,O1⟩:=h1;rw[e1] at O1;obtain⟨l1,m1,w1,g1⟩:=PE underlying22 underlying3 π O1
 obtain⟨z2,e2,-,-,-⟩:=open_int underlying3 (b 2 _ v2 rfl rfl) h2
 obtain⟨A3,L3,C3,D3⟩:=okWide_slice underlying23 (b 3 _ v3 rfl rfl);have e3:v3.cells.toList=[v3]:=by rw[D3];rfl
 obtain⟨n3,O3⟩:=h3;rw[e3] at O3;obtain⟨l3,m3,w3,g3⟩:=PE underlying23 underlying5 π O3
 obtain⟨b3,B3,M3⟩:=bOf l3 w3;rw[M3,<-B3] at g3
 obtain⟨z4,e4,-,-,-⟩:=open_int underlying3 (b 4 _ v4 rfl rfl) h4
 refine(IE (lwC z0 l1 l1.length rfl (Nat.lt_succ_of_le m1) z2 b3 b3.length rfl (by rw[B3];exact Nat.lt_succ_of_le m3) z4) (lm func3 rfl π) (OP U) rfl ?_).mono fun e W' ⟨he,Q⟩=>?_
 ·intro i c d
  match i,d with
  |0,d =>
   simp only[d',v'.injEq] at d;subst d;subst e0;exact .p _ _ (.v _ rfl)
  |1,d =>
   simp only[l',d',v'.injEq] at d;subst d;exact .p _ _ g1
  |2,d =>
   simp only[l',d',v'.injEq] at d;subst d;subst e2;exact .p _ _ (.v _ rfl)
  |3,d =>
   simp only[l',d',v'.injEq] at d;subst d;exact .p _ _ g3
  |4,d =>
   simp only[l',d',v'.injEq] at d;subst d;subst e4;exact .p _ _ (.v _ rfl)
  |i+5,d=>simp at d
 ·subst he;refine⟨_,rfl,xe (pa:=p0++(p1++(p2++(p3++(p4++[]))))) (pv:=[]) k (fun _ _ _=>trodAll_cons_mk (shut_bool underlying4 _) trodAll_mk0) (fun sp I=>om Q ?_ u z sp (fun x A=>I x (by simpa using A))) (fun _ _=>rfl) rfl Q (ok_one π rfl (okWide_bool_mk underlying4 _))⟩;rw[params3];intro t ht;simp only[List.mem_cons,List.not_mem_nil,or_false] at ht;rcases ht with rfl|rfl|rfl|rfl|rfl<;>exact⟨π,of_decide_eq_true π⟩
theorem El:Rows.KeystoreStoresSaid :=
 OpenClaim.holds_of_wide 3 f3 rfl rfl rfl rfl rfl rfl rfl ⟨rfl,rfl,rfl,rfl,rfl⟩ rfl rfl rfl rfl rfl sF func3 zB Em En
  (fun os a H enc _=>zA os a H enc)
theorem stores_holds:Rows.KeystoreStoresCardSaid :=
 Claim7.holds_tied_plain_at .later [] [.data,.pinned] true Rows.keystoreStoresCard.stood.harness false
  El (fun _ h=>by cases h) Eo (fun _ h=>by cases h) keystoreStores_row_tie rfl ⟨rfl,rfl⟩ π rfl
  (fun f c d a=>by
   obtain rfl:f=3:=v'.inj (sF.symm.trans d) |>.symm
   obtain rfl:c=f3:=(v'.inj (func3.symm.trans a)).symm
   exact⟨BK,fun j t b=>by
    rw[params3] at b
    have g:t∈[3,22,3,23,3]:=by simpa using Array.mem_of_getElem? b
    exact(show prog.wantsStandIn t=false by simpa using g'.1 BL t (by simp only[List.mem_cons,List.not_mem_nil,or_false] at g⊢;rcases g with h|h|h|h|h<;>simp[h]))⟩)
  Ep

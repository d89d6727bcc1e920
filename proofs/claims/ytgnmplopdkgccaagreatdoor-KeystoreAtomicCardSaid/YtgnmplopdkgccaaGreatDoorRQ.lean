/- own work: steps of the proof -/
import Derived.Test.YtgnmplopdkgccaaGreatDoorVg
import Derived.Test.YtgnmplopdkgccaaGreatDoorLe
import Derived.Ground.NamesProg
import Derived.Shelf.Unicode.ValidAny
import Derived.Shelf.Unicode.DecodeAny
import Derived.Shelf.Utf8.RuneCount
import Derived.LoopTactic
import Derived.Laws.RangeAny
set_option linter.all false
set_option maxRecDepth 1000000
set_option maxHeartbeats 8000000
open UInt64 renaming ofNat→g'
open List renaming replicate→h',length→i',foldl_append→j',mem_filter→k',replicate_succ→l',length_pos_iff→m'
open Nat renaming le_trans→n',le_of_lt→o'
open Go.IntKind renaming i64→p',u64→q'
namespace Go.Abs
open RowKit Proofs Proofs.Tryz
theorem vQ:∀(f:Nat) (b:List UInt8) (l:ai),ff f b=some l->3*l.length<=b.length/\szM l<=b.length
 |0,b,l,h=>by simp[ff] at h;subst h;simp[szM]
 |f+1,b,l,h=>by
  simp only[ff] at h;split at h
  .cases h;simp[szM]
  .split at h
   .cases h
   .split at h
    .cases h
    .split at h
     .rename_i c a;have e:=vQ f _ c a;cases h;simp only[ew,szM,kK,hV] at e⊢;omega
     .cases h
theorem lO(b:List UInt8):(bE b).length<=b.length:=by
 unfold bE dH;cases h:ff b.length b with
 |none=>simp
 |some l=>have:=vQ _ _ _ h;simp;omega
theorem yo(old:ai):∀l:ai,(b7 old l).length<=old.length+l.length:=by
 intro l;unfold b7
 induction l generalizing old with
 |nil=>simp
 |cons p l a =>
  rw[s7];have h1:=a (eW p (decide (p.2.length=0)) old);have h2:=sf p (decide (p.2.length=0)) old;simp only[ew];omega
def cH(l:List (List UInt8)):ai:=l.foldl (fun o b=>b7 o (bE b)) []
def aQ(j:Jn):ai:=cH (aZ j)
theorem sU(l:List (List UInt8)):(cH l).length<=bF l:=by
 have a:∀(l:List (List UInt8)) (o:ai),(l.foldl (fun o b=>b7 o (bE b)) o).length<=o.length+bF l:=by
  intro l
  induction l with
  |nil=>intro o;simp
  |cons b l c =>
   intro o;rw[s7];have h1:=c (b7 o (bE b));have h2:=yo o (bE b);have e:=lO b;simp only[bF];omega
 have:=a l [];unfold cH;simpa using this
theorem kS(j:Jn):bF (aZ j)<=8192/\∀b,b∈aZ j->b.length<=8192:=by
 have a:bF (aZ j)<=8192:=by
  unfold aZ;split
  .rename_i h;obtain⟨p,k,q,e,n,o,g,r,s,t,u,w,c,-⟩:=cG h;rw[c,h5];have y:(pgM (flOf j) q).length=p:=fN (k:=k) e g ω;have h1:=iJ (pgM (flOf j) q) (g' j.gen.toNat) ω;have h2:=lv (pgM (flOf j) q) (g' j.gen.toNat) (pgM (flOf j) q).length 16;unfold du at h1⊢;omega
  .simp[bF]
 refine⟨a,fun b i=>?_⟩;have:∀l:List (List UInt8),b∈l->b.length<=bF l:=by
  intro l
  induction l with
  |nil=>intro h;cases h
  |cons x l m =>
   intro h;simp only[bF];rcases hZ.1 h with rfl|h
   .omega
   .have:=m h;omega
 have:=this _ i;omega
theorem Aw(l:List (List UInt8))(i:Nat)(h:i<l.length):cH (l.take (i+1))=b7 (cH (l.take i)) (bE (l.getD i [])):=by
 unfold cH;rw[s8 h,j'];exact agO
theorem qn(l:List (List UInt8))(i:Nat):bF (l.take i)<=bF l:=by
 conv=>rhs;rw[<-List.take_append_drop i l,fE]
 omega
theorem kT(j:Jn)(n:Nat)(q:j.bs.length=n)(r:n<1000000000):FPure prog 172 [.agg [.i j.ps,.p (.data 1 n (j.bs.map bt)),.i j.page,.i j.gen,.i j.tail,.b j.torn]] (.p (PL (aQ j))):=by
 apply ba f172 [0,1,2,3,4,5,6,7,13,24];intro c J s Y Z;refine δ (Et j n q r) ?_;have⟨C,k⟩:=kS j;have t:=mD (aZ j);unfold aQ at Y Z;generalize aZ j=l at *;simp only[go_sem];refine ay Y s [0,1,2,3,4,5,6,7,13,24] l.length (fun i=>⟨29,[(3,.p (PL (cH (l.take i)))),(4,.p (.data 1 l.length (l.map byP))),(5,.i i)],[],1⟩) [] (fun i=>i) ?_ ?_
 .refine akg ?_;simp only[go_sem,PL];simp[cH,ft]
 .intro i D;rcases ea i l.length with a|a
  .have u:((i:Int)<(l.length:Int)):=ω;have g:=Aw l i a;have w:=sU (l.take i);have y:=qn l i;have z:(l.getD i []).length<=8192:=k _ (by rw[show l.getD i []=l[i]'a from by simp[cR,a]];exact ix _);have A:=lO (l.getD i []);have m:=ac i
   simp only[go_sem,J,PL,bC,byP,u];refine⟨ω,ω,?_⟩;apply aa Z (NQ (l.getD i []) _ rfl ω);generalize cH (l.take i)=o at *;simp only[go_sem,PL,m];have e:(dH (l.getD i [])).isSome=false->b7 o (bE (l.getD i []))=o:=fun h=>by
    unfold bE;cases B:dH (l.getD i []) with
    |none=>rfl
    |some x=>rw[B] at h;simp at h
   split
   .rw[<-PL,<-PL];apply aa Z (Hd o (bE (l.getD i [])) ω);simp only[go_sem,m];refine⟨a,aA [] rfl ?_ ?_ rfl rfl (gi _)⟩
    .simp only[go_sem,PL,g]
    .exact κ
   .rename_i h;have h:=e χ;refine⟨a,aA [] rfl ?_ ?_ rfl rfl (gi _)⟩
    .simp only[go_sem,g,h]
    .exact κ
  .exact ag1
theorem qo(a b:ai)(ha:a.length<1000000000):FPure prog 235 [.p (PL a),.p (PL b)] (.b (decide (a=b))):=by
 apply ba f235 [0,1,4,5,10,14,42];intro c J t Y Z;simp only[go_sem,J,PL];by_cases u:a.length=b.length
 .rw[b0 ω];refine bl Y t [0,1,4,5,10,14,42] (α:={i:Nat // i<=a.length/\a.take i=b.take i}) (fun i=>⟨43,[(0,.p (PL a)),(1,.p (PL b)),(5,.i i.1)],[],0⟩) (fun i=>a.length-i.1) ⟨0,gi _,η⟩ [] (fun i=>i) ?_ ?_
  .refine akg ?_;simp only[go_sem,PL]
  .rintro⟨i,A,he⟩;rcases ea i a.length with g|g
   .have w:((i:Int)<(a.length:Int)):=ω;have l:((i:Int)<(b.length:Int)):=ω;have m:=dY a i g;have j:=dY b i ω;have n:=eD a i g;have o:=eD b i ω;have z:=ac i
    have k:a.getD i (0,[])≠b.getD i (0,[])->a≠b:=fun h e=>by subst e;exact h rfl
    generalize a.getD i (0,[])=x at *;generalize b.getD i (0,[])=y at *;simp only[go_sem,J,PL,m,j,w,l,z,byP,bS,strOf,bL,jf];refine⟨ω,ω,?_⟩;by_cases h1:x.1=y.1
    .rw[b9 h1];refine⟨ω,ω,π,?_⟩;by_cases h2:x.2=y.2
     .rw[b0 (fun h=>h h2)];have q:x=y:=Prod.ext h1 h2;refine⟨⟨i+1,ω,by rw[n,o,he,q]⟩,by show a.length-(i+1)<a.length-i;omega,eh rfl ?_ ?_ rfl rfl (c7 _)⟩
      .exact κ
      .exact κ
     .rw[b9 h2];simp[k (fun e=>h2 (by rw[e]))]
    .rw[b0 h1];exact⟨π,by simp[k (fun e=>h1 (by rw[e]))]⟩
   .obtain rfl:i=a.length:=by omega
    have r:¬((a.length:Int)<(a.length:Int)):=ω;have s:a=b:=by
     exact aiB
    simp only[go_sem,J,PL,r];simp[s]
 .rw[b9 ω];have:a≠b:=fun e=>u (by rw[e])
  simp[this]
structure Vt where
 j:Jn
 prs:ai
structure VR where
 v:Vt
 left:Int
 err:Int
def adC(v:Vt):AV := .agg [.i v.j.ps,.p (.data 1 v.j.bs.length (v.j.bs.map bt)),.i v.j.page,.i v.j.gen,.i v.j.tail,.b v.j.torn,.p (PL v.prs)]
def E8(r:VR):AV := .tup [adC r.v,.i r.left,.i r.err]
attribute [go_sem] adC E8 PL
def vt0:Vt:=⟨jn0,[]⟩
def bU(j:Jn)(e:Int):VR:=if e=16 then⟨⟨⟨j.ps,j.bs,0,0,0,false⟩,[]⟩,0,16⟩ else⟨vt0,0,e⟩
theorem fW(j:Jn)(n:Nat)(e:Int)(a:j.bs.length=n):FPure prog 164 [.agg [.i j.ps,.p (.data 1 n (j.bs.map bt)),.i j.page,.i j.gen,.i j.tail,.b j.torn],.i e] (E8 (bU j e)):=by
 apply ba f164 [0,1,2,4,5,6,8];intro c J g Y Z;obtain⟨R,hR⟩:∃R,bU j e=R:=⟨_,rfl⟩;rw[hR] at Y Z;(try rw[hR]);unfold bU at hR;simp only[go_sem,J];split
 .rename_i h;rw[b9 h] at hR;subst hR;exact⟨⟨rfl,⟨a.symm,rfl⟩,rfl,rfl,rfl,rfl,rfl,rfl⟩,rfl,h⟩
 .rename_i h;rw[b0 h] at hR;exact af2
def mY(v:Vt):Bool:=aT v.j&&decide (v.prs=aQ v.j)
theorem E9(v:Vt)(n:Nat)(a:v.j.bs.length=n)(e:n<1000000000)(g:v.prs.length<1000000000):FPure prog 163 [.agg [.i v.j.ps,.p (.data 1 n (v.j.bs.map bt)),.i v.j.page,.i v.j.gen,.i v.j.tail,.b v.j.torn,.p (PL v.prs)]] (.b (mY v)):=by
 apply ba f163 [0,1,2];intro c J h Y Z;refine δ (ju v.j n a e) ?_;have hg:mY v=(aT v.j&&decide (v.prs=aQ v.j)):=rfl;generalize aT v.j=u at *;simp only[go_sem,J];cases u with
 |false=>exact⟨π,by rw[hg];rfl⟩
 |true =>
  rw[b9 rfl];apply aa Z (kT v.j n a e);simp only[go_sem];apply aa Z (qo v.prs (aQ v.j) g);simp only[go_sem];exact⟨π,by rw[hg,Bool.true_and]⟩
def gu(j:Jn)(left:Int):VR :=
 if j.torn=false then⟨⟨j,aQ j⟩,left,0⟩ else
 if(be j (aV (aQ j)) left).err≠0 then bU (be j (aV (aQ j)) left).j (be j (aV (aQ j)) left).err
 else⟨⟨(be j (aV (aQ j)) left).j,aQ j⟩,(be j (aV (aQ j)) left).left,0⟩
def ropenM(f:Fl)(budget:Int):VR :=
 if(mountM f).err=11 then
  (if(cr f budget).err≠0 then bU (cr f budget).j (cr f budget).err else gu (cr f budget).j (cr f budget).left)
 else if(mountM f).err≠0 then bU (mountM f).j (mountM f).err else gu (mountM f).j budget
theorem gx(j:Jn):(aQ j).length<=8192:=by
 have:=sU (aZ j);have:=(kS j).1;unfold aQ;omega
theorem yp{p x:Int×List UInt8}:∀{d:Bool} {r:ai},x∈eW p d r->(x=p/\d=false)\/x∈r
 |d,[],h=>by
  simp only[eW] at h;split at h
  .cases h
  .rename_i a;simp at h;exact .inl ⟨h,by simpa using a⟩
 |d,q::r,h=>by
  simp only[eW,o1] at h;rcases h with(h|h)|h
  .split at h
   .rename_i a;simp at h;exact .inl ⟨h,a.1⟩
   .cases h
  .split at h
   .simp at h;exact .inr (by simp[h])
   .cases h
  .rcases yp h with⟨h1,h2⟩|h1
   .exact .inl ⟨h1,by cases d<;>simp at h2⊢⟩
   .exact .inr (by simp[h1])
theorem nQ{x:Int×List UInt8}:∀{l old:ai},x∈b7 old l->(x∈l/\x.2≠[])\/x∈old:=by
 intro l;unfold b7
 induction l with
 |nil=>intro old h;exact .inr h
 |cons p l a =>
  intro old h;rw[s7] at h;rcases a h with⟨h1,h2⟩|h1
  .exact .inl ⟨by simp[h1],h2⟩
  .rcases yp h1 with⟨rfl,h2⟩|h2
   .exact .inl ⟨η,fun e=>by simp[e] at h2⟩
   .exact .inr h2
theorem CZ{x:Int×List UInt8}{l:List (List UInt8)}(h:x∈cH l):x.2≠[]/\∃b,b∈l/\x∈bE b:=by
 have a:∀(l:List (List UInt8)) (o:ai),x∈l.foldl (fun o b=>b7 o (bE b)) o->(x.2≠[]/\∃b,b∈l/\x∈bE b)\/x∈o:=by
  intro l
  induction l with
  |nil=>intro o h;exact .inr h
  |cons b l e =>
   intro o h;rw[s7] at h;rcases e _ h with⟨h1,g,h2,c⟩|h1
   .exact .inl ⟨h1,g,by simp[h2],c⟩
   .rcases nQ h1 with⟨h2,c⟩|h2
    .exact .inl ⟨c,b,η,h2⟩
    .exact .inr h2
 rcases a l [] h with h|h
 .exact h
 .cases h
theorem vR{x:Int×List UInt8}:∀(f:Nat) (b:List UInt8) (l:ai),ff f b=some l->x∈l->0<=x.1/\x.1<=255/\x.2.length<=b.length
 |0,b,l,h,a=>by simp[ff] at h;subst h;cases a
 |f+1,b,l,h,a=>by
  simp only[ff] at h;split at h
  .cases h;cases a
  .split at h
   .cases h
   .split at h
    .cases h
    .split at h
     .rename_i e c;cases h;rcases hZ.1 a with rfl|a
      .have:=(b.getD 0 0).toNat_lt;simp only[hV,kK];omega
      .have:=vR f _ e c a;simp only[kK] at this;omega
     .cases h
theorem lP{x:Int×List UInt8}{b:List UInt8}(h:x∈bE b):0<=x.1/\x.1<=255/\x.2.length<=b.length:=by
 unfold bE dH at h;cases a:ff b.length b with
 |none=>rw[a] at h;cases h
 |some l=>rw[a] at h;exact vR _ _ l a h
theorem fa{j:Jn}{x:Int×List UInt8}(h:x∈aQ j):x.2≠[]/\0<=x.1/\x.1<=255/\x.2.length<=8192:=by
 have⟨h1,b,a,c⟩:=CZ h;have h2:=lP c;have e:=(kS j).2 b a;exact⟨h1,h2.1,h2.2.1,ω⟩
theorem o7(l:ai)(M:Nat)(h:∀x,x∈l->x.2.length<=M):szM l<=l.length*(3+M):=by
 induction l with
 |nil=>simp[szM]
 |cons p l a =>
  have h1:=a (fun x b=>h x (by simp[b]));have h2:=h p η;simp only[szM,ew];rw[Nat.succ_mul];omega
theorem rS(j:Jn):szM (aQ j)<100000000:=by
 have h1:=o7 (aQ j) 8192 (fun x a=>(fa a).2.2.2);have h2:=iy (3+8192) (gx j);omega
theorem tP{l:ai}(h:szM l<100000000){b:List UInt8}(c:b∈aV l):b.length<1000000000/\(∀M,(∀x,x∈l->x.2.length<=M)->b.length<=3+M):=by
 obtain⟨p,a,rfl⟩:=o4.1 c;rw[cB];simp only[szM];have:∀l:ai,p∈l->3+p.2.length<=szM l:=by
  exact ahg
 have:=this l a;exact⟨ω,fun M e=>by have:=e p a;omega⟩
theorem kU(l:ai):(aV l).length=l.length:=by simp[aV]
theorem yq{f:Fl}{budget:Int}(l:List JOp)(a:i64 budget)(e:f.bs.length<1000000000)(b:∀o,o∈l->wX o):i64 (dE f budget l).left:=by
 induction l generalizing f budget with
 |nil=>exact a
 |cons o r g =>
  rw[cf _ _ _ _ _ rfl];have c:=gJ (f:=f) (budget:=budget) o a e (b o η);split
  .exact c.1
  .exact g c.1 ω (fun o ho=>b o (by simp[ho]))
theorem GO:∀o,o∈[JOp.er 0,.er 1,.wr 0 0 (headM 1)]->wX o:=by
 intro o ho;simp only[hZ,List.not_mem_nil,or_false] at ho;rcases ho with rfl|rfl|rfl
 .trivial
 .trivial
 .show(headM 1).length<_;rw[cX];decide
theorem lQ(f:Fl)(budget:Int)(a:i64 budget)(b:f.bs.length<1000000000):i64 (cr f budget).left/\(cr f budget).j.bs.length<=f.bs.length:=by
 have h1:=yq (f:=f) _ a b GO;have h2:=BQ (f:=f) _ a b GO;have z:i64 0:=by unfold i64;decide
 unfold cr;split
 .exact⟨z,by simp[jn0]⟩
 .split
  .refine⟨?_,n' (mH _ _) h2⟩;unfold cd;split<;>exact z
  .exact⟨h1,n' (i9 _) h2⟩
theorem Qa(ps:Int)(bs:List UInt8)(n:Nat)(budget:Int)(w:bs.length=n)(q:n<1000000000)(t:i64 budget) :
 FPure prog 120 [.agg [.i ps,.p (.data 1 n (bs.map bt))],.i budget] (E8 (ropenM ⟨ps,bs⟩ budget)):=by
 apply ba f120 [0,1,2,4,5,6,7,8,9,16,25,35,46];intro c J C Y Z;obtain⟨R,hR⟩:∃R,ropenM ⟨ps,bs⟩ budget=R:=⟨_,rfl⟩;rw[hR] at Y Z;(try rw[hR]);unfold ropenM at hR;refine δ (uZ ps bs n w q) ?_;have B:(mountM ⟨ps,bs⟩).j.bs.length<=n:=by rw[<-w];exact i9 ⟨ps,bs⟩
 generalize mountM ⟨ps,bs⟩=M at *;refine θ ?_;by_cases m:M.err=11
 .rw[b9 m];rw[b9 m] at hR;apply aa Z (HW ps bs n budget w q t);have⟨r,s⟩:=lQ ⟨ps,bs⟩ budget t (by show bs.length<_;omega);have s:(cr ⟨ps,bs⟩ budget).j.bs.length<=bs.length:=s;generalize cr ⟨ps,bs⟩ budget=G at *;refine θ ?_;by_cases hg:G.err=0
  .rw[b0 (fun h=>h hg)];rw[b0 (fun h=>h hg)] at hR;apply aa Z (kT G.j _ rfl ω);have o:=rS G.j;have y:=gx G.j;have g:=fun x (e:x∈aQ G.j)=>(fa e).2.2.2
   unfold gu at hR;generalize z:aQ G.j=l at *;refine θ ?_;by_cases a:G.j.torn=true
   .rw[b9 a];rw[b0 (by rw[a];decide)] at hR;apply aa Z (AL l ω);have k:∀b,b∈aV l->b.length<1000000:=fun b q=>by have:=(tP o q).2 8192 g;omega
    have A:=eA G.j (aV l) G.left r ω k;simp only[go_sem];apply aa Z (oM G.j _ (aV l) _ G.left rfl ω (kU l) ω k r);generalize be G.j (aV l) G.left=X at *;refine wi ?_;by_cases e:X.err=0
    .rw[b0 (fun h=>h e)];rw[b0 (fun h=>h e)] at hR;exact af2
    .rw[b9 e];rw[b9 e] at hR;subst hR;apply aa Z (fW X.j _ X.err rfl);generalize bU X.j X.err=zzY at *;exact afz
   .rw[b0 a];rw[b9 (by simpa using a)] at hR;exact af2
  .rw[b9 hg];rw[b9 hg] at hR;subst hR;apply aa Z (fW G.j _ G.err rfl);generalize bU G.j G.err=zzY at *;exact afz
 .rw[b0 m];rw[b0 m] at hR;by_cases u:M.err=0
  .rw[b0 (fun h=>h u)];rw[b0 (fun h=>h u)] at hR;apply aa Z (kT M.j _ rfl ω);have o:=rS M.j;have y:=gx M.j;have g:=fun x (e:x∈aQ M.j)=>(fa e).2.2.2
   unfold gu at hR;generalize z:aQ M.j=l at *;refine θ ?_;by_cases a:M.j.torn=true
   .rw[b9 a];rw[b0 (by rw[a];decide)] at hR;apply aa Z (AL l ω);have k:∀b,b∈aV l->b.length<1000000:=fun b q=>by have:=(tP o q).2 8192 g;omega
    have A:=eA M.j (aV l) budget t ω k;simp only[go_sem];apply aa Z (oM M.j _ (aV l) _ budget rfl ω (kU l) ω k t);generalize be M.j (aV l) budget=X at *;refine wi ?_;by_cases e:X.err=0
    .rw[b0 (fun h=>h e)];rw[b0 (fun h=>h e)] at hR;exact af2
    .rw[b9 e];rw[b9 e] at hR;subst hR;apply aa Z (fW X.j _ X.err rfl);generalize bU X.j X.err=zzY at *;exact afz
   .rw[b0 a];rw[b9 (by simpa using a)] at hR;exact af2
  .rw[b9 u];rw[b9 u] at hR;subst hR;apply aa Z (fW M.j _ M.err rfl);generalize bU M.j M.err=zzY at *;exact afz
def vgetM(k:Int):ai->List UInt8
 |[]=>[]
 |p::l=>if p.1=k then p.2 else vgetM k l
theorem C0(k:Int)(l:ai)(i:Nat)(h:i<l.length)(a:∀x,x∈l.take i->x.1≠k)(b:(l.getD i (0,[])).1=k):vgetM k l=(l.getD i (0,[])).2:=by
 induction l generalizing i with
 |nil=>simp at h
 |cons p l c =>
  cases i with
  |zero=>simp at b;simp[vgetM,b]
  |succ i =>
   have e:p.1≠k:=a p η;simp only[vgetM,b0 e];exact c i χ (fun x g=>a x (by simp[g])) (by simpa using b)
theorem C2(k:Int)(l:ai)(a:∀x,x∈l->x.1≠k):vgetM k l=[]:=by
 induction l with
 |nil=>rfl
 |cons p l b=>simp only[vgetM,b0 (a p η)];exact b (fun x c=>a x (by simp[c]))
theorem o8(v:Vt)(n:Nat)(k:Int)(u:v.prs.length<1000000000)(o:∀x,x∈v.prs->x.2.length<=140737488355328):FPure prog 70 [.agg [.i v.j.ps,.p (.data 1 n (v.j.bs.map bt)),.i v.j.page,.i v.j.gen,.i v.j.tail,.b v.j.torn,.p (PL v.prs)],.i k] (.p (.data 1 (vgetM k v.prs).length ((vgetM k v.prs).map bt))):=by
 apply ba f70 [0,1,2,4,5,10,20];intro c J q Y Z;simp only[go_sem];generalize hv:v.prs=l at *;refine bl Y q [0,1,2,4,5,10,20] (α:={i:Nat // i<=l.length/\∀x,x∈l.take i->x.1≠k}) (fun i=>⟨28,[(1,.i k),(2,.ptr 0 0),(5,.i i.1)],[(0,some ⟨35,[.i v.j.ps,.p (.data 1 n (v.j.bs.map bt)),.i v.j.page,.i v.j.gen,.i v.j.tail,.b v.j.torn,.p (PL l)]⟩)],1⟩) (fun i=>l.length-i.1) ⟨0,gi _,η⟩ [] (fun i=>i) ?_ ?_
 .exact afM
 .rintro⟨i,w,hno⟩;rcases ea i l.length with a|a
  .have r:((i:Int)<(l.length:Int)):=ω;have m:=dY l i a;have hta:=eD l i a;have g:l.getD i (0,[])∈l:=by rw[show l.getD i (0,[])=l[i]'a from by simp[cR,a]];exact ix _
   have s:=o _ g;have t:=ac i
   have e:=C0 k l i a hno;simp only[go_sem,J,m,r,byP,t,dl];refine⟨ω,?_⟩;by_cases he:(l.getD i (0,[])).1=k
   .rw[b9 he];have e:=e he;rw[e];exact⟨ω,⟨ω,ω⟩,c7 _,rfl,by rw[cD (c7 _)]⟩
   .rw[b0 he];refine⟨⟨i+1,ω,?_⟩,by show l.length-(i+1)<l.length-i;omega,eh rfl ?_ ?_ rfl rfl (c7 _)⟩
    .exact aha
    .exact κ
    .exact κ
  .exact ag9
def jR(seen:List Int):ai->Int
 |[]=>0
 |p::l=>if p.1<0\/255<p.1 then 9 else if p.1∈seen then 10 else jR (seen++[p.1]) l
def di(l:ai):Int:=if l=[] then 4 else if jR [] l≠0 then jR [] l else if 256<szM l then 8 else 0
def dv(v:Vt)(l:ai)(budget:Int):JR :=
 if(szM l:Int)<=gI v.j then ey v.j (bh l) budget else be v.j (aV (b7 v.prs l)) budget
def rputM(v:Vt)(l:ai)(budget:Int):VR :=
 if mY v=false then bU v.j 18 else
 if di l≠0 then bU v.j (di l) else
 if v.j.ps<16+10*((b7 v.prs l).length:Int)+(szM (b7 v.prs l):Int) then bU v.j 12 else
 if(dv v l budget).err≠0 then bU (dv v l budget).j (dv v l budget).err
 else⟨⟨(dv v l budget).j,aQ (dv v l budget).j⟩,(dv v l budget).left,0⟩
theorem C3(p:Int×List UInt8):∀(d:Bool) (r:ai),szM (eW p d r)<=szM r+(if d then 0 else 3+p.2.length)
 |d,[]=>by simp only[eW];cases d<;>simp[szM]
 |d,q::r=>by
  have a:=C3 p (d||decide (q.1>=p.1)) r;simp only[eW,gm,szM];cases d with
  |true =>
   simp only[Bool.true_or,if_true] at a⊢;split<;>split<;>simp[szM] at * <;> omega
  |false =>
   by_cases h:q.1>=p.1
   .simp only[h,decide_true,Bool.or_true,and_self,if_true,Bool.false_eq_true,if_false] at a⊢;split<;>simp[szM] at * <;> omega
   .simp only[h,decide_false,Bool.or_false,and_false,if_false,Bool.false_eq_true] at a⊢;split<;>simp[szM] at * <;> omega
theorem MX:∀(l old:ai),szM (b7 old l)<=szM old+szM l:=by
 intro l;unfold b7
 induction l with
 |nil=>intro old;simp[szM]
 |cons p l a =>
  intro old;rw[s7];have h1:=a (eW p (decide (p.2.length=0)) old);have h2:=C3 p (decide (p.2.length=0)) old;simp only[szM];split at h2<;>omega
theorem GP{l:ai}{b:List UInt8}(c:b∈aV l):b.length<=szM l:=by
 obtain⟨p,a,rfl⟩:=o4.1 c;rw[cB];simp only[szM]
 induction l with
 |nil=>cases a
 |cons q l e =>
  simp only[szM];rcases hZ.1 a with rfl|a
  .omega
  .have:=e a (o4.2 ⟨p,a,rfl⟩);omega
theorem C4(l:ai)(i:Nat)(h:i<l.length):l.drop i=l.getD i (0,[])::l.drop (i+1):=by
 rw[hE h];simp[cR,h]
theorem yr(l:ai)(i:Nat)(h:i<l.length):(l.take (i+1)).map (·.1)=(l.take i).map (·.1)++[(l.getD i (0,[])).1]:=by
 rw[eD l i h];simp
theorem qp{v:Vt}(h:¬mY v=false):aT v.j=true/\v.prs=aQ v.j:=by
 unfold mY at h;simpa using h
def ajJ:List Nat:=[0,1,2,3,6,7,8,9,10,11,12,13,16,25,35,51,60,73,82,104,117,137]
attribute[go_sem]ajJ
theorem vS(v:Vt)(n:Nat)(l:ai)(budget:Int)(m:v.j.bs.length=n)(y:n<1000000000)(hp:v.prs.length<1000000000)(hl:l.length<100000)(K:∀x,x∈l->x.2.length<1000000)(I:i64 budget) :
 FPure prog 94 [.agg [.i v.j.ps,.p (.data 1 n (v.j.bs.map bt)),.i v.j.page,.i v.j.gen,.i v.j.tail,.b v.j.torn,.p (PL v.prs)],.p (PL l),.i budget] (E8 (rputM v l budget)):=by
 refine ba f94 ajJ ?_;intro c J V Y Z;obtain⟨R,hR⟩:∃R,rputM v l budget=R:=⟨_,rfl⟩;rw[hR] at Y Z;(try rw[hR]);unfold rputM at hR;refine δ (E9 v n m y hp) ?_;refine θ ?_;by_cases hg:mY v=false
 .rw[b9 hg] at hR⊢;subst hR;refine aa Z (fW v.j n 18 m) ?_;generalize bU v.j 18=zzY at *;exact afz
 .rw[b0 hg] at hR⊢;have⟨z,hpr⟩:=qp hg;have A:=rS v.j;have B:=gx v.j;rw[<-hpr] at A B;have W:szM l<=l.length*(3+1000000):=o7 l 1000000 (fun x hx=>o' (K x hx));have L:l.length*(3+1000000)<=100000*(3+1000000):=iy _ ω;by_cases g:l=[]
  .rw[b9 (by rw[g];rfl)];have ha:di l=4:=by unfold di;rw[b9 g]
   rw[ha,b9 ε] at hR;subst hR;refine aa Z (fW v.j n 4 m) ?_;generalize bU v.j 4=zzY at *;exact afz
  .have hl0:0<l.length:=m'.2 g;rw[b0 ω];have e:di l=if jR [] l≠0 then jR [] l else if 256<szM l then 8 else 0:=by unfold di;rw[b0 g]
   refine bl Y V ajJ (α:={ i:Nat // i<=l.length/\jR [] l=jR ((l.take i).map (·.1)) (l.drop i)}) (fun i=>⟨149,[(1,.p (PL l)),(2,.i budget),(3,.ptr 0 0),(6,.ptr 1 0),(7,.i 0),(8,.i 0),(9,.i i.1)],
    [(1,some ⟨35,[.i 0,.p (.v (.slice none 0 0)),.i 0,.i 0,.i 0,.b false,.p (.v (.slice none 0 0))]⟩),(0,some ⟨35,[.i v.j.ps,.p (.data 1 n (v.j.bs.map bt)),.i v.j.page,.i v.j.gen,.i v.j.tail,.b v.j.torn,.p (PL v.prs)]⟩)],2⟩) (fun i=>l.length-i.1) ⟨0,gi _,η⟩ [] (fun i=>i) ?_ ?_
   .exact afM
   .rintro⟨i,hi,a⟩;rcases ea i l.length with s|s
    .have hc:((i:Int)<(l.length:Int)):=ω;have C:=dY l i s;have M:=yr l i s;rw[C4 l i s] at a;simp only[jR] at a;generalize l.getD i (0,[])=p at *;have hw:=ac i
     simp only[go_sem,J,C,hc,byP];refine⟨ω,?_⟩;by_cases hr:p.1<0\/255<p.1
     .rw[b9 hr] at a;have ha:di l=9:=by rw[e,a];rfl
      rw[ha,b9 ε] at hR;subst hR;by_cases t:p.1<0
      .rw[b0 (fun h=>h t)];refine aa Z (fW v.j n 9 m) ?_;generalize bU v.j 9=zzY at *;exact afz
      .rw[b9 t];refine⟨ω,?_⟩;rw[b9 ω];refine aa Z (fW v.j n 9 m) ?_;generalize bU v.j 9=zzY at *;exact afz
     .rw[b0 hr] at a;rw[b9 ω];refine⟨ω,?_⟩;rw[b0 ω]
      refine bl Y V ajJ (α:={ k:Nat // k<=i/\∀x,x∈l.take k->x.1≠p.1}) (fun k=>⟨149,[(1,.p (PL l)),(2,.i budget),(3,.ptr 0 0),(6,.ptr 1 0),(7,.i 0),(8,.i 0),(9,.i i),(10,.i k.1)],
       [(1,some ⟨35,[.i 0,.p (.v (.slice none 0 0)),.i 0,.i 0,.i 0,.b false,.p (.v (.slice none 0 0))]⟩),(0,some ⟨35,[.i v.j.ps,.p (.data 1 n (v.j.bs.map bt)),.i v.j.page,.i v.j.gen,.i v.j.tail,.b v.j.torn,.p (PL v.prs)]⟩)],2⟩) (fun k=>i-k.1) ⟨0,gi _,η⟩ [] (fun i=>i) ?_ ?_
      .exact afM
      .rintro⟨k,hk,hno⟩;rcases ea k i with N|N
       .have O:((k:Int)<(i:Int)):=ω;have P:((k:Int)<(l.length:Int)):=ω;have D:=dY l k ω;have hta:=eD l k ω;have E:l.getD k (0,[])∈l.take i:=by
         rw[show l.getD k (0,[])=(l.take i)[k]'ζ from by simp[cR,show k<l.length by omega]];exact ix _
        generalize l.getD k (0,[])=q at *;have Q:=ac k
        simp only[go_sem,J,C,D,hc,O,P,byP,Q];refine⟨ω,ω,π,?_⟩;by_cases he:q.1=p.1
        .rw[b9 he];have F:p.1∈(l.take i).map (·.1):=by rw[<-he];exact o4.2 ⟨q,E,rfl⟩
         rw[b9 F] at a;have ha:di l=10:=by rw[e,a];rfl
         rw[ha,b9 ε] at hR;subst hR;refine aa Z (fW v.j n 10 m) ?_;generalize bU v.j 10=zzY at *;exact afz
        .rw[b0 he];refine⟨⟨k+1,ω,?_⟩,by show i-(k+1)<i-k;omega,eh rfl ?_ ?_ rfl rfl (c7 _)⟩
         .exact aha
         .exact κ
         .exact κ
       .obtain rfl:k=i:=by omega
        have w:¬((k:Int)<(k:Int)):=ω;have G:¬p.1∈(l.take k).map (·.1):=fun h=>by
         have⟨x,hx,S⟩:=o4.1 h;exact hno x hx S
        rw[b0 G,<-M] at a;simp only[go_sem,w,hw];refine⟨⟨k+1,ω,a⟩,by show l.length-(k+1)<l.length-k;omega,eh rfl ?_ ?_ rfl rfl (c7 _)⟩
        .exact κ
        .exact κ
    .obtain rfl:i=l.length:=by omega
     have w:¬((l.length:Int)<(l.length:Int)):=ω;rw[l2 (c7 _)] at a;simp only[jR] at a;rw[a] at e;simp only[ne_eq,not_true_eq_false,if_false] at e;simp only[go_sem,J,w];refine aa Z (AK l ω) ?_;refine θ ?_;by_cases u:256<szM l
     .rw[b9 ω];rw[b9 u] at e;rw[e,b9 ε] at hR;subst hR;refine aa Z (fW v.j n 8 m) ?_;generalize bU v.j 8=zzY at *;exact afz
     .rw[b0 ω];rw[b0 u] at e;rw[e,b0 (fun h=>h rfl)] at hR;have hwl:=yo v.prs l;have hws:=MX l v.prs;refine aa Z (Hd v.prs l ω) ?_;unfold dv at hR;generalize hwm:b7 v.prs l=now at *;refine δ (AK now ω) ?_;refine θ ?_;have hps:=fP z;obtain⟨pp,kk,qq,e1,e2,e3,-⟩:=cG z;rw[ab (n:=10*((i' now:Nat):Int)) ω ω,ab (n:=16+10*((i' now:Nat):Int)) ω ω,ab (n:=16+10*((i' now:Nat):Int)+((szM now:Nat):Int)) ω ω];refine⟨π,?_⟩;by_cases o:v.j.ps<16+10*((i' now:Nat):Int)+((szM now:Nat):Int)
      .rw[b9 ω];rw[b9 o] at hR;subst hR;refine aa Z (fW v.j n 12 m) ?_;generalize bU v.j 12=zzY at *;exact afz
      .rw[b0 ω];rw[b0 o] at hR;refine aa Z (AK l ω) ?_;refine δ (F7 v.j n m y) ?_;refine θ ?_;refine⟨π,?_⟩;by_cases r:((szM l:Nat):Int)<=gI v.j
       .rw[b9 r] at hR⊢;refine aa Z (yP l ω) ?_;have T:=cB l;have U:=mI v.j (bh l) budget I ω ω;simp only[go_sem];refine aa Z (HV v.j n (bh l) _ budget m y T ω I) ?_;generalize ey v.j (bh l) budget=X at *;refine θ ?_;refine⟨π,?_⟩;by_cases hx:X.err=0
        .exact ag0
        .rw[b9 hx] at hR⊢;subst hR;refine aa Z (fW X.j _ X.err rfl) ?_;generalize bU X.j X.err=zzY at *;exact afz
       .rw[b0 r] at hR⊢;refine aa Z (AL now ω) ?_;have H:∀b,b∈aV now->b.length<1000000:=fun b y=>by
         have:=GP y;omega
        have U:=eA v.j (aV now) budget I ω H;simp only[go_sem];refine aa Z (oM v.j n (aV now) _ budget m y (kU now) ω H I) ?_;generalize be v.j (aV now) budget=X at *;refine θ ?_;refine⟨π,?_⟩;by_cases hx:X.err=0
        .exact ag0
        .rw[b9 hx] at hR⊢;subst hR;refine aa Z (fW X.j _ X.err rfl) ?_;generalize bU X.j X.err=zzY at *;exact afz
theorem afg:zf prog 176=true:=π
theorem adD:JO prog 176=3:=π
attribute [go_sem] afg adD
def fb(s:ai)(p:Int×List UInt8):ai:=if p.2.length=0 then lj p.1 s else DU p.1 p.2 s
def cc(s l:ai):ai:=l.foldl fb s
theorem C5(s l:ai)(i:Nat)(h:i<l.length):cc s (l.take (i+1))=fb (cc s (l.take i)) (l.getD i (0,[])):=by
 unfold cc;rw[eD l i h,j'];rfl
theorem C6(k:Int)(v:List UInt8):∀s:ai,(jQ k v s).length=s.length+1
 |[]=>rfl
 |y::r=>by simp only[jQ];split<;>simp[C6 k v r]
theorem C7(k:Int)(s:ai):(lj k s).length<=s.length:=List.length_filter_le _ _
theorem Fa(s:ai)(p:Int×List UInt8):(fb s p).length<=s.length+1:=by
 unfold fb;split
 .have:=C7 p.1 s;omega
 .unfold DU;rw[C6];have:=C7 p.1 s;omega
theorem lR(s:ai):∀l:ai,(cc s l).length<=s.length+l.length:=by
 intro l;unfold cc
 induction l generalizing s with
 |nil=>simp
 |cons p l a =>
  rw[s7];have h1:=a (fb s p);have h2:=Fa s p;simp only[ew];omega
theorem Ax(s l:ai)(hs:s.length+l.length<1000000000)(r:∀x,x∈l->i64 x.1):Con prog 109 [.mp 0,.p (PL l)] [(0,some ⟨eF s,[]⟩)] (.tup []) [(0,some ⟨eF (cc s l),[]⟩)]:=by
 apply bn 1 f109 [0,1,5,6,7,8,9,15];intro c J t Y Z;refine θ ?_;refine bK Y [0] (fun i e=>by have:=t i e;simpa[liveK] using this) [0,1,5,6,7,8,9,15] l.length (fun i=>⟨25,[(0,.mp 0),(6,.p (PL l)),(7,.i l.length),(8,.i i)],[(0,some ⟨eF (cc s (l.take i)),[]⟩)],1⟩) [] (fun i=>i) ?_ (fun i _=>rfl) ?_
 .refine⟨rfl,?_,?_,rfl,rfl,trivial,fun i h=>h⟩
  .exact κ
  .simp only[go_sem];simp[cc]
 .intro i e;rcases ea i l.length with a|a
  .have k:=dY l i a;have u:((i:Int)<(l.length:Int)):=ω;have b:=C5 s l i a;have w:=lR s (l.take i);have y:(l.take i).length<=l.length:=ζ;have g:l.getD i (0,[])∈l:=by rw[show l.getD i (0,[])=l[i]'a from by simp[cR,a]];exact ix _
   have j:=r _ g;have z:=ac i
   generalize cc s (l.take i)=o at *;generalize l.getD i (0,[])=p at *;simp only[go_sem,J,k,u,byP,z,bS,bL];have n:∀i,i∈[0]->sg 2 [0] i=i:=fun i e=>by simp at e;subst e;rfl
   refine⟨ω,?_⟩;by_cases q:p.2.length=0
   .rw[b9 ω];have b:cc s (l.take (i+1))=lj p.1 o:=by rw[b];unfold fb;rw[b9 q]
    rw[b];refine⟨j,a,kY [0] [0] rfl ?_ ?_ rfl rfl (c7 _) n⟩
    .exact κ
    .exact κ
   .rw[b0 ω];have b:cc s (l.take (i+1))=DU p.1 p.2 o:=by rw[b];unfold fb;rw[b0 q]
    rw[b];refine⟨⟨j,ω⟩,a,kY [0] [0] rfl ?_ ?_ rfl rfl (c7 _) n⟩
    .exact κ
    .exact κ
  .obtain rfl:i=l.length:=by omega
   have m:¬((l.length:Int)<(l.length:Int)):=ω;simp only[go_sem,m];refine aq [0] rfl ?_ ?_ rfl rfl (fun i e=>?_) (fun i e=>?_)
   .exact κ
   .simp only[go_sem];rw[cD (c7 _)]
   .simp at e;subst e;exact⟨rfl,ξ⟩
   .simp[liveK] at e;simp;omega
def bD(s:ai):ai:=s.map fun p=>(p.1,iZ p.1 s)
theorem xh(s:ai)(i:Nat)(h:i<s.length):(bD s).take (i+1)=(bD s).take i++[((s.getD i (0,[])).1,iZ (s.getD i (0,[])).1 s)]:=by
 have:=eD (bD s) i (by simpa[bD] using h);rw[this];simp[bD,cR,h]
def kA(s:ai):List AV:=s.map fun p => .p (.v (.int .i64 p.1))
theorem Qb(s:ai)(i:Nat):ag (.v (.int .i64 0)) ((kA s).drop i) = .p (.v (.int .i64 (s.getD i (0,[])).1)):=by
 induction s generalizing i with
 |nil=>simp[ag,kA]
 |cons b r a=>cases i with
  |zero=>simp[ag,kA]
  |succ i=>simpa[kA] using a i
theorem Yx(s:ai):(kA s).length=s.length:=by simp[kA]
theorem GQ(h:bv)(S:List Nat)(σ:Nat->Nat)(s:ai):aj h S σ (kA s) (kA s):=by
 have:kA s=(s.map fun p=>PV.v (.int .i64 p.1)).map .p:=by simp[kA]
 rw[this];exact aL h S σ _
theorem MY(s:ai)(hs:s.length<1000000000):Con prog 186 [.fn (.func 253) [] [.ptr 1 0]] [(0,some ⟨eF s,[]⟩),(1,some ⟨iW,[.mp 0]⟩)] (.sl 2 0 s.length 1)
 [(0,some ⟨eF s,[]⟩),(1,some ⟨iW,[.mp 0]⟩),(2,some ⟨3,kA s⟩)]:=NR s hs
theorem yt(s:ai)(hs:s.length<1000000)(z:∀x,x∈s->i64 x.1/\iZ x.1 s≠[]/\(iZ x.1 s).length<1000000000):Con prog 110 [.mp 0] [(0,some ⟨eF s,[]⟩)] (.sl 1 0 s.length 2) [(0,some ⟨eF s,[]⟩),(1,some ⟨80,prA (bD s)⟩)]:=by
 apply bn 1 f110 [0,2,3,5,8,9,10,11];intro c J A Y Z;simp only[go_sem];refine co Y (ks:=[0,2,3,5,8,9,10,11]) (n:=2000) [] (fun i=>i) 2 (by rw[J];exact ZW s) ⟨κ,κ,rfl,trivial,cV rfl,fun i hi=>?_,by simp[ax,ak,keys],by simp[bV,ak,ax,keys],rfl⟩ ?_
 .exact ahJ
 simp only[go_sem];refine co Y (ks:=[0,2,3,5,8,9,10,11]) (n:=2000) [] (fun i=>i) 3 (by rw[J];exact MY s ω) ⟨κ,κ,rfl,trivial,cV rfl,fun i hi=>?_,by simp[ax,keys],?_,rfl⟩ ?_
 .exact ahJ
 .have:ak [0,1,2] (kA s):=by
   have e:kA s=(s.map fun p=>PV.v (.int .i64 p.1)).map .p:=by simp[kA]
   rw[e];exact aM _ _
  simp only[bV,ak,ax,keys,hX,List.map_nil];exact⟨trivial,⟨η,trivial⟩,this,trivial⟩
 have b:eu (fun i=>i) (kA s)=kA s:=nZ _;simp only[go_sem,J,b];apply aX 80;refine bK Y [0] (fun i hi=>by have:=A i hi;simpa[liveK] using this) [0,2,3,5,8,9,10,11] s.length (fun i=>⟨25,[(0,.mp 0),(3,.sl 3 0 i 2),(8,.sl 2 0 s.length 1),(9,.i s.length),(10,.i i)],[(0,some ⟨eF s,[]⟩),(2,some ⟨3,kA s⟩),(3,some ⟨80,prA ((bD s).take i)⟩)],4⟩) [] (fun i=>i) ?_ (fun i _=>rfl) ?_
 .refine⟨rfl,?_,?_,rfl,rfl,trivial,fun i h=>h⟩
  .exact κ
  .simp only[go_sem];refine⟨GQ _ _ _ _,?_⟩;simp[prA,ft,aj]
 .intro i hi;have B:(bD s).length=s.length:=by simp[bD]
  have g:((bD s).take i).length=i:=ζ;have k:=Yx s;rcases ea i s.length with a|a
  .have C:((i:Int)<(s.length:Int)):=ω;have l:=xh s i a;have j:s.getD i (0,[])∈s:=by rw[show s.getD i (0,[])=s[i]'a from by simp[cR,a]];exact ix _
   have⟨m,o,q⟩:=z _ j;have y:=ac i
   generalize r:s.getD i (0,[])=p at *;have t:(iZ p.1 s).length≠0:=fun e=>o (fo e)
   have u:(prA ((bD s).take i)).length=i*2:=by rw[tW,g]
   simp only[go_sem,J,C,Qb,r,k];refine⟨ω,ω,m,?_⟩;apply aa Z (zE ((iZ p.1 s).map bt) _ η t q);simp only[go_sem,J,y,u];rw[<-l];refine⟨⟨ω,ω⟩,a,kY [0] [0,1,2,5] rfl ?_ ?_ rfl rfl (c7 _) (fun i hi=>by simp at hi;subst hi;rfl)⟩
   .exact κ
   .simp only[go_sem];exact⟨GQ _ _ _ _,gT _ _ _ _⟩
  .obtain rfl:i=s.length:=by omega
   have w:¬((s.length:Int)<(s.length:Int)):=ω;simp only[go_sem,w];rw[cD ω];refine aq [0,3] rfl ?_ ?_ rfl rfl (fun i hi=>?_) (fun i hi=>?_)
   .exact κ
   .exact ahK
   .simp at hi;subst hi;exact⟨rfl,ξ⟩
   .simp[liveK] at hi;simp;omega
def fI(l:List (List UInt8)):ai:=l.foldl (fun s b=>cc s (bE b)) []
def bJ(j:Jn):ai:=bD (fI (aZ j))
theorem C8(l:List (List UInt8))(i:Nat)(h:i<l.length):fI (l.take (i+1))=cc (fI (l.take i)) (bE (l.getD i [])):=by
 unfold fI;rw[s8 h,j'];exact agO
theorem o9(l:List (List UInt8)):(fI l).length<=bF l:=by
 have a:∀(l:List (List UInt8)) (o:ai),(l.foldl (fun o b=>cc o (bE b)) o).length<=o.length+bF l:=by
  intro l
  induction l with
  |nil=>intro o;simp
  |cons b l c =>
   intro o;rw[s7];have h1:=c (cc o (bE b));have h2:=lR o (bE b);have e:=lO b;simp only[bF];omega
 have:=a l [];unfold fI;simpa using this
theorem vT{k:Int}{v:List UInt8}{x:Int×List UInt8}:∀{s:ai},x∈jQ k v s->x=(k,v)\/x∈s
 |[],h=>by simp[jQ] at h;exact .inl h
 |y::r,h=>by
  simp only[jQ] at h;split at h
  .rcases hZ.1 h with h|h
   .exact .inl h
   .exact .inr h
  .rcases hZ.1 h with h|h
   .exact .inr (by simp[h])
   .rcases vT h with h|h
    .exact .inl h
    .exact .inr (by simp[h])
theorem pb{x:Int×List UInt8}:∀{l s:ai},x∈cc s l->(x∈l/\x.2≠[])\/x∈s:=by
 intro l;unfold cc
 induction l with
 |nil=>intro s h;exact .inr h
 |cons p l a =>
  intro s h;rw[s7] at h;rcases a h with⟨h1,h2⟩|h1
  .exact .inl ⟨by simp[h1],h2⟩
  .unfold fb at h1;split at h1
   .exact .inr (k'.1 h1).1
   .rename_i b;rcases vT h1 with rfl|h1
    .exact .inl ⟨η,fun e=>b (by rw[show p.2=[] from e];rfl)⟩
    .exact .inr (k'.1 h1).1
theorem vU{x:Int×List UInt8}{l:List (List UInt8)}(h:x∈fI l):x.2≠[]/\∃b,b∈l/\x∈bE b:=by
 have a:∀(l:List (List UInt8)) (o:ai),x∈l.foldl (fun o b=>cc o (bE b)) o->(x.2≠[]/\∃b,b∈l/\x∈bE b)\/x∈o:=by
  intro l
  induction l with
  |nil=>intro o h;exact .inr h
  |cons b l e =>
   intro o h;rw[s7] at h;rcases e _ h with⟨h1,g,h2,c⟩|h1
   .exact .inl ⟨h1,g,by simp[h2],c⟩
   .rcases pb h1 with⟨h2,c⟩|h2
    .exact .inl ⟨c,b,η,h2⟩
    .exact .inr h2
 rcases a l [] h with h|h
 .exact h
 .cases h
theorem qr{k:Int}:∀{s:ai},(∃x,x∈s/\x.1=k)->(k,iZ k s)∈s
 |[],h=>by have⟨x,a,_⟩:=h;cases a
 |y::r,h=>by
  simp only[iZ];split
  .rename_i e;subst e;simp
  .rename_i e;have⟨x,a,b⟩:=h;rcases hZ.1 a with rfl|a
   .exact s5 b e
   .have:=qr (s:=r) ⟨x,a,b⟩;simp[this]
theorem qt(j:Jn)(n:Nat)(y:j.bs.length=n)(g:n<1000000000):FPure prog 105 [.agg [.i j.ps,.p (.data 1 n (j.bs.map bt)),.i j.page,.i j.gen,.i j.tail,.b j.torn]] (.p (PL (bJ j))):=by
 apply ba f105 [0,1,2,3,5,8,9,10,11];intro c J z Y Z;refine δ (Es j n y g) ?_;have⟨H,e⟩:=kS j;have A:=mD (aZ j);unfold bJ at Y Z;generalize aZ j=l at *;refine θ ?_;refine ay Y z [0,1,2,3,5,8,9,10,11] l.length (fun i=>⟨21,[(3,.mp 1),(8,.p (.data 1 l.length (l.map byP))),(9,.i l.length),(10,.i i)],[(1,some ⟨eF (fI (l.take i)),[]⟩)],2⟩) [] (fun i=>i) ?_ ?_
 .refine⟨rfl,?_,?_,rfl,rfl,trivial,fun i h=>h⟩
  .exact κ
  .simp only[go_sem];simp[fI]
 .intro i hi;rcases ea i l.length with a|a
  .have B:((i:Int)<(l.length:Int)):=ω;have m:=C8 l i a;have C:=o9 (l.take i);have D:=qn l i;have E:(l.getD i []).length<=8192:=e _ (by rw[show l.getD i []=l[i]'a from by simp[cR,a]];exact ix _);have F:=lO (l.getD i []);have u:=ac i
   simp only[go_sem,J,bC,byP,B];refine⟨ω,ω,?_⟩;apply aa Z (NP (l.getD i []) _ rfl ω);generalize fI (l.take i)=o at *;simp only[go_sem];refine co Y (ks:=[0,1,2,3,5,8,9,10,11]) (n:=2000) [] (fun i=>i+1) 2 (by rw[J];exact Ax o (bE (l.getD i [])) ω (fun x q=>by have:=lP q;unfold i64;omega)) ⟨κ,κ,rfl,trivial,c7 _,fun i hi=>?_,by simp[ax,ak],by simp[bV,ak],rfl⟩ ?_
   .exact ahJ
   simp only[go_sem,u];refine⟨a,aA [0,1] rfl ?_ ?_ rfl rfl (c7 _)⟩
   .exact κ
   .simp only[go_sem,m]
  .obtain rfl:i=l.length:=by omega
   have r:¬((l.length:Int)<(l.length:Int)):=ω;rw[cD (c7 _)];have G:=o9 l;simp only[go_sem,r]
   refine co Y (ks:=[0,1,2,3,5,8,9,10,11]) (n:=2000) [] (fun i=>i+1) 3 (by rw[J];exact yt (fI l) ω (fun x q=>by
    have hg:=qr (k:=x.1) ⟨x,q,rfl⟩
    have⟨w,b,g,s⟩:=vU hg
    have h1:=lP s
    have h2:=e b g
    simp only at w h1
    exact⟨by unfold i64;omega,w,ω⟩)) ⟨κ,κ,rfl,trivial,cV rfl,fun i hi=>?_,by simp[ax,keys],by simp only[bV,ak,DA,and_self],rfl⟩ ?_
   .exact ahJ
   simp only[go_sem];have t:(bD (fI l)).length=(fI l).length:=by simp[bD]
   rw[<-t,qN];exact⟨⟨c7 _,Dy _⟩,rfl,Dz _⟩
theorem MZ(x y:Int×List UInt8)(m n:Nat):FPure prog 185 [.agg [.i x.1,.p (.data 1 m (x.2.map bt))],.agg [.i y.1,.p (.data 1 n (y.2.map bt))]] (.b (decide (x=y))):=by
 apply ba f185 [0,1,2,3,4];intro c J g Y Z;refine θ ?_;by_cases h:x.1=y.1
 .rw[b9 h];apply aa Z (tM x.2 y.2 m n);simp only[go_sem];have:(x.2==y.2)=decide (x=y):=by
   by_cases h2:x.2=y.2
   .have:x=y:=Prod.ext h h2;simp[this]
   .have a:x≠y:=fun e=>h2 (by rw[e])
    simp[h2,a]
  (try rw[this])
 .rw[b0 h];have a:x≠y:=fun e=>h (by rw[e])
  simp[a]
theorem C9(a b:ai)(ha:a.length<1000000000):FPure prog 184 [.p (PL a),.p (PL b),.p (.v (.func (.func 185) #[] #[]))] (.b (decide (a=b))):=by
 apply ba f184 [0,1,2,6,7,8,9,14,15,16,17,18,30];intro c J u Y Z;refine θ ?_;by_cases w:a.length=b.length
 .rw[b0 ω];refine bl Y u [0,1,2,6,7,8,9,14,15,16,17,18,30] (α:={i:Nat // i<=a.length/\a.take i=b.take i}) (fun i=>⟨32,[(1,.p (PL b)),(2,.p (.v (.func (.func 185) #[] #[]))),(15,.p (PL a)),(16,.i a.length),(17,.i i.1)],[],0⟩) (fun i=>a.length-i.1) ⟨0,gi _,η⟩ [] (fun i=>i) ?_ ?_
  .exact aho
  .rintro⟨i,A,he⟩;rcases ea i a.length with j|j
   .have z:((i:Int)<(a.length:Int)):=ω;have l:((i:Int)<(b.length:Int)):=ω;have m:=dY a i j;have k:=dY b i ω;have n:=eD a i j;have o:=eD b i ω;have t:=ac i
    have q:a.getD i (0,[])≠b.getD i (0,[])->a≠b:=fun h e=>by subst e;exact h rfl
    generalize a.getD i (0,[])=x at *;generalize b.getD i (0,[])=y at *;simp only[go_sem,J,m,k,z,l,byP];refine⟨ω,ω,?_⟩;apply aa Z (MZ x y _ _);simp only[go_sem,t];by_cases g:x=y
    .rw[b0 (by simp[g])];refine⟨⟨i+1,ω,by rw[n,o,he,g]⟩,by show a.length-(i+1)<a.length-i;omega,aA [] rfl ?_ ?_ rfl rfl (c7 _)⟩
     .exact κ
     .exact κ
    .rw[b9 (by simp[g])];simp[q g]
   .obtain rfl:i=a.length:=by omega
    have r:¬((a.length:Int)<(a.length:Int)):=ω;have s:a=b:=by
     exact aiB
    simp only[go_sem,r];simp[s]
 .rw[b9 ω];have:a≠b:=fun e=>w (by rw[e])
  simp[this]
def sV(v:Vt):Bool:=aT v.j&&decide (bJ v.j=v.prs)
theorem jI(j:Jn):(bJ j).length<=8192:=by
 have h1:=o9 (aZ j);have h2:=(kS j).1;have:(bJ j).length=(fI (aZ j)).length:=by simp[bJ,bD]
 omega
theorem Fb(v:Vt)(n:Nat)(s:v.j.bs.length=n)(u:n<1000000000):FPure prog 107 [.agg [.i v.j.ps,.p (.data 1 n (v.j.bs.map bt)),.i v.j.page,.i v.j.gen,.i v.j.tail,.b v.j.torn,.p (PL v.prs)]] (.b (sV v)):=by
 apply ba f107 [0,1,2,3,4,13,43];intro c J B Y Z;refine δ (BN v.j.ps v.j.bs n s u) ?_;have hg:aT v.j=((mountM ⟨v.j.ps,v.j.bs⟩).err==0&&(mountM ⟨v.j.ps,v.j.bs⟩).j.page==v.j.page&&(mountM ⟨v.j.ps,v.j.bs⟩).j.gen==v.j.gen&&(mountM ⟨v.j.ps,v.j.bs⟩).j.tail==v.j.tail&&(mountM ⟨v.j.ps,v.j.bs⟩).j.torn==v.j.torn):=rfl;have w:(mountM ⟨v.j.ps,v.j.bs⟩).j.bs.length<=n:=by rw[<-s];exact i9 ⟨v.j.ps,v.j.bs⟩
 have m:(mountM ⟨v.j.ps,v.j.bs⟩).err=0->flOf (mountM ⟨v.j.ps,v.j.bs⟩).j=⟨v.j.ps,v.j.bs⟩:=fun h=>pP h
 have hv:sV v=(aT v.j&&decide (bJ v.j=v.prs)):=rfl;generalize mountM ⟨v.j.ps,v.j.bs⟩=M at *;refine θ ?_;by_cases h1:M.err=0
 .rw[b0 (fun h=>h h1)];by_cases h2:M.j.page=v.j.page
  .rw[b9 h2];by_cases g:M.j.gen=v.j.gen
   .rw[b9 g];by_cases k:M.j.tail=v.j.tail
    .rw[b9 k];by_cases l:M.j.torn=v.j.torn
     .rw[b0 (fun h=>h l)];have y:M.j=v.j:=by
       have t:=m h1;have o:M.j.ps=v.j.ps:=congrArg Fl.ps t;have q:M.j.bs=v.j.bs:=congrArg Fl.bs t;cases z:M.j with|mk a b c d e f=>cases A:v.j with|mk a' b' c' d' e' f'=>rw[z,A] at h2 g k l o q;simp only at h2 g k l o q;rw[h2,g,k,l,o,q]
      have r:aT v.j=true:=by rw[hg];simp[h1,h2,g,k,l]
      rw[r,Bool.true_and] at hv;apply aa Z (qt M.j _ rfl ω);refine δ (C9 (bJ M.j) v.prs (by have:=jI M.j;omega)) ?_;rw[y];simp only[go_sem];exact⟨π,by rw[hv]⟩
     .rw[b9 l];rw[hv,hg];simp[l]
    .rw[b0 k];rw[hv,hg];simp[k]
   .rw[b0 g];rw[hv,hg];simp[g]
  .rw[b0 h2];rw[hv,hg];simp[h2]
 .rw[b9 h1];rw[hv,hg];simp[h1]
theorem gy(j:Jn)(n:Nat)(left e:Int)(g:j.bs.length=n)(k:n<1000000000):FPure prog 106 [.agg [.i j.ps,.p (.data 1 n (j.bs.map bt)),.i j.page,.i j.gen,.i j.tail,.b j.torn],.i left,.i e] (E8 (if e=0 then⟨⟨j,bJ j⟩,left,0⟩ else bU j e)):=by
 apply ba f106 [0,1,2,3,6,7,8,9,10,17];intro c J h Y Z;obtain⟨R,hR⟩:∃R,(if e=0 then(⟨⟨j,bJ j⟩,left,0⟩:VR) else bU j e)=R:=⟨_,rfl⟩;rw[hR] at Y Z;(try rw[hR]);refine θ ?_;by_cases h:e=0
 .rw[b9 h] at hR⊢;apply aa Z (qt j n g k);refine θ ?_;subst hR;exact⟨π,⟨rfl,⟨g.symm,rfl⟩,rfl,rfl,rfl,rfl,rfl,rfl⟩,rfl,rfl⟩
 .rw[b0 h] at hR⊢;unfold bU at hR;by_cases a:e=16
  .rw[b9 a] at hR⊢;subst hR;exact⟨⟨rfl,⟨g.symm,rfl⟩,rfl,rfl,rfl,rfl,rfl,rfl⟩,rfl,a⟩
  .rw[b0 a] at hR⊢;exact af2
def jJ(j:Jn)(left e:Int):VR:=if e=0 then⟨⟨j,bJ j⟩,left,0⟩ else bU j e
def rT(j:Jn)(left e:Int):VR :=
 if e=0/\j.torn=true then jJ (aI j (aV (bJ j)) left).j (aI j (aV (bJ j)) left).left (aI j (aV (bJ j)) left).err else jJ j left e
def vV(f:Fl)(budget:Int):VR :=
 if(mountM f).err=11 then rT (iv f budget).j (iv f budget).left (iv f budget).err else rT (mountM f).j budget (mountM f).err
theorem lS{j:Jn}{x:Int×List UInt8}(h:x∈bJ j):x.2≠[]/\0<=x.1/\x.1<=255/\x.2.length<=8192:=by
 unfold bJ bD at h;obtain⟨y,c,rfl⟩:=o4.1 h;have hg:=qr (k:=y.1) ⟨y,c,rfl⟩;have⟨e,b,g,a⟩:=vU hg;have h1:=lP a;have h2:=(kS j).2 b g;exact⟨e,h1.1,h1.2.1,by simp only at h1⊢;omega⟩
theorem rU(j:Jn):szM (bJ j)<100000000:=by
 have h1:=o7 (bJ j) 8192 (fun x a=>(lS a).2.2.2);have h2:=iy (3+8192) (jI j);omega
theorem Qc(ps:Int)(bs:List UInt8)(n:Nat)(budget:Int)(z:bs.length=n)(s:n<1000000000)(y:i64 budget) :
 FPure prog 41 [.agg [.i ps,.p (.data 1 n (bs.map bt))],.i budget] (E8 (vV ⟨ps,bs⟩ budget)):=by
 apply ba f41 [0,1,2,4,5,6,7,8,15,28];intro c J C Y Z;obtain⟨R,e⟩:∃R,vV ⟨ps,bs⟩ budget=R:=⟨_,rfl⟩;rw[e] at Y Z;(try rw[e]);unfold vV at e;refine δ (BN ps bs n z s) ?_;have B:(mountM ⟨ps,bs⟩).j.bs.length<=n:=by rw[<-z];exact i9 ⟨ps,bs⟩
 generalize mountM ⟨ps,bs⟩=M at *;refine θ ?_;by_cases t:M.err=11
 .rw[b9 t] at e⊢;apply aa Z (HQ ps bs n budget z s y);rw[lC] at e⊢;have⟨u,w⟩:=lQ ⟨ps,bs⟩ budget y (by show bs.length<_;omega);have w:(cr ⟨ps,bs⟩ budget).j.bs.length<=bs.length:=w;generalize cr ⟨ps,bs⟩ budget=G at *;refine θ ?_;unfold rT at e;by_cases o:G.err=0
  .rw[b9 o];by_cases g:G.j.torn=true
   .rw[b9 g];rw[b9 ⟨o,g⟩] at e;apply aa Z (qt G.j _ rfl ω);have q:=rU G.j;have A:=jI G.j;have k:=fun x (hx:x∈bJ G.j)=>(lS hx).2.2.2
    generalize bJ G.j=l at *;simp only[go_sem];apply aa Z (sa l ω);have m:∀b,b∈aV l->b.length<1000000:=fun b s=>by have:=(tP q s).2 8192 k;omega
    have r:=eA G.j (aV l) G.left u ω m;rw[<-dB] at r;simp only[go_sem];apply aa Z (oJ G.j _ (aV l) _ G.left rfl ω (kU l) ω m u);generalize aI G.j (aV l) G.left=X at *;refine wi ?_;apply aa Z (gy X.j _ X.left X.err rfl ω);have a:(if X.err=0 then(⟨⟨X.j,bJ X.j⟩,X.left,0⟩:VR) else bU X.j X.err)=jJ X.j X.left X.err:=rfl;rw[a,e];exact afz
   .rw[b0 g];rw[b0 (fun h=>g h.2)] at e;apply aa Z (gy G.j _ G.left G.err rfl ω);have a:(if G.err=0 then(⟨⟨G.j,bJ G.j⟩,G.left,0⟩:VR) else bU G.j G.err)=jJ G.j G.left G.err:=rfl;rw[a,e];exact afz
  .rw[b0 o];rw[b0 (fun h=>o h.1)] at e;apply aa Z (gy G.j _ G.left G.err rfl ω);have a:(if G.err=0 then(⟨⟨G.j,bJ G.j⟩,G.left,0⟩:VR) else bU G.j G.err)=jJ G.j G.left G.err:=rfl;rw[a,e];exact afz
 .rw[b0 t] at e⊢;unfold rT at e;by_cases o:M.err=0
  .rw[b9 o];by_cases g:M.j.torn=true
   .rw[b9 g];rw[b9 ⟨o,g⟩] at e;apply aa Z (qt M.j _ rfl ω);have q:=rU M.j;have A:=jI M.j;have k:=fun x (hx:x∈bJ M.j)=>(lS hx).2.2.2
    generalize bJ M.j=l at *;simp only[go_sem];apply aa Z (sa l ω);have m:∀b,b∈aV l->b.length<1000000:=fun b s=>by have:=(tP q s).2 8192 k;omega
    have r:=eA M.j (aV l) budget y ω m;rw[<-dB] at r;simp only[go_sem];apply aa Z (oJ M.j _ (aV l) _ budget rfl ω (kU l) ω m y);generalize aI M.j (aV l) budget=X at *;refine wi ?_;apply aa Z (gy X.j _ X.left X.err rfl ω);have a:(if X.err=0 then(⟨⟨X.j,bJ X.j⟩,X.left,0⟩:VR) else bU X.j X.err)=jJ X.j X.left X.err:=rfl;rw[a,e];exact afz
   .rw[b0 g];rw[b0 (fun h=>g h.2)] at e;apply aa Z (gy M.j _ budget M.err rfl ω);have a:(if M.err=0 then(⟨⟨M.j,bJ M.j⟩,budget,0⟩:VR) else bU M.j M.err)=jJ M.j budget M.err:=rfl;rw[a,e];exact afz
  .rw[b0 o];rw[b0 (fun h=>o h.1)] at e;apply aa Z (gy M.j _ budget M.err rfl ω);have a:(if M.err=0 then(⟨⟨M.j,bJ M.j⟩,budget,0⟩:VR) else bU M.j M.err)=jJ M.j budget M.err:=rfl;rw[a,e];exact afz
def gQ(ks:List Int):List AV:=(List.range 256).map fun(k:Nat) => .b (decide ((k:Int)∈ks))
theorem yu(ks:List Int):(gQ ks).length=256:=by simp[gQ]
theorem Fc(ks:List Int)(k:Nat)(h:k<256):ag (.v (.bool false)) ((gQ ks).drop k) = .b (decide ((k:Int)∈ks)):=by
 have:(gQ ks).drop k = .b (decide ((k:Int)∈ks))::(gQ ks).drop (k+1):=by
  rw[hE (by rw[yu];exact h)];simp[gQ]
 rw[this];rfl
theorem IZ(ks:List Int)(k:Nat):(gQ ks).set k (.b true)=gQ (ks++[(k:Int)]):=by
 apply List.ext_getElem
 .simp[gQ]
 .intro i h1 h2;rw[List.getElem_set];split
  .rename_i e;subst e;simp[gQ]
  .rename_i e;have a:¬(i:Int)=(k:Int):=ω;simp[gQ,a]
theorem vW(h:bv)(S:List Nat)(σ:Nat->Nat)(ks:List Int):aj h S σ (gQ ks) (gQ ks):=by
 have:gQ ks=((List.range 256).map fun(k:Nat)=>PV.v (.bool (decide ((k:Int)∈ks)))).map .p:=by simp[gQ]
 rw[this];exact aL h S σ _
theorem Qd:gQ []=h' 256 (.b false):=by
 unfold gQ;rw[List.eq_replicate_iff];simp
def M0:List Value:=h' 256 (.bool false)
theorem I0(n:Nat):fB (h' n (.bool false))=true:=by
 induction n with
 |zero=>rfl
 |succ n a=>rw[l'];simp only[fB,Value.oneCell'];exact a
theorem Qe(n:Nat):pvs (h' n (.bool false))=h' n (.b false):=by
 induction n with
 |zero=>rfl
 |succ n a=>rw[l',l'];simp only[pvs,a]
theorem Qf:fB M0=true:=I0 256
theorem adE:pvs M0=gQ []:=by rw[Qd];exact Qe 256
theorem Yy:QG=M0:=π
attribute [go_sem] Yy Qf adE yu
theorem M1(l:ai)(C:l.length<100000)(q:szM l<1000000000000):FPure prog 108 [.p (PL l)] (.i (di l)):=by
 refine ba f108 [0,2,3,5,8,9,10,11,12,22,26,33] ?_;intro c J z Y Z;obtain⟨R,b⟩:∃R,di l=R:=⟨_,rfl⟩;rw[b] at Y Z;(try rw[b]);unfold di at b;refine θ ?_;by_cases g:l=[]
 .rw[b9 (by rw[g];rfl)];rw[b9 g] at b;exact b
 .have A:0<l.length:=m'.2 g;rw[b0 ω];rw[b0 g] at b
  refine bl Y z [0,2,3,5,8,9,10,11,12,22,26,33] (α:={ i:Nat // i<=l.length/\jR [] l=jR ((l.take i).map (·.1)) (l.drop i)}) (fun i=>⟨34,[(0,.p (PL l)),(3,.ptr 0 0),(9,.p (PL l)),(10,.i l.length),(11,.i i.1)],
   [(0,some ⟨238,gQ ((l.take i.1).map (·.1))⟩)],1⟩) (fun i=>l.length-i.1) ⟨0,gi _,η⟩ [] (fun i=>i) ?_ ?_
  .refine⟨rfl,?_,?_,rfl,rfl,trivial,fun i h=>h⟩
   .exact κ
   .simp only[go_sem];exact vW _ _ _ _
  .rintro⟨i,D,a⟩;rcases ea i l.length with j|j
   .have B:((i:Int)<(l.length:Int)):=ω;have r:=dY l i j;have o:=yr l i j;rw[C4 l i j] at a;simp only[jR] at a;generalize l.getD i (0,[])=p at *;have u:=ac i
    simp only[go_sem,J,r,B,byP];refine⟨ω,?_⟩;by_cases w:p.1<0\/255<p.1
    .rw[b9 w] at a;rw[a,b9 ε] at b;by_cases m:p.1<0
     .rw[b0 (fun h=>h m)];exact b
     .rw[b9 m,b9 ω];exact b
    .rw[b0 w] at a;rw[b9 ω,b0 ω];obtain⟨k,y⟩:∃k:Nat,p.1=k:=i0 ω;have s:k<256:=ω;refine⟨⟨ω,ω⟩,ω,?_⟩;rw[y] at a o;rw[y,h5,Fc _ k s];refine θ ?_;by_cases e:(k:Int)∈(l.take i).map (·.1)
     .rw[b9 e] at a;rw[a,b9 ε] at b;rw[b9 (by simpa using e)];exact b
     .rw[b0 e,<-o] at a;rw[b0 (by simpa using e)];simp only[go_sem,u,IZ];rw[<-o];refine⟨⟨ω,ω⟩,ω,⟨i+1,ω,a⟩,by show l.length-(i+1)<l.length-i;omega,aA [0] rfl ?_ ?_ rfl rfl (c7 _)⟩
      .exact κ
      .simp only[go_sem];exact vW _ _ _ _
   .obtain rfl:i=l.length:=by omega
    have t:¬((l.length:Int)<(l.length:Int)):=ω;rw[l2 (c7 _)] at a;simp only[jR] at a;rw[a] at b;simp only[ne_eq,not_true_eq_false,if_false] at b;simp only[go_sem,t];refine aa Z (AJ l q) ?_;simp only[go_sem];by_cases n:256<szM l
    .rw[b9 ω];rw[b9 n] at b;exact b
    .rw[b0 ω];rw[b0 n] at b;exact b
def yx(v:Vt)(l now:ai)(budget:Int):JR :=
 if(szM l:Int)<=gI v.j then b8 v.j (bh l) budget else aI v.j (aV now) budget
def mZ(v:Vt)(l:ai):ai:=bD (cc (cc [] v.prs) l)
def Da(v:Vt)(l:ai)(budget:Int):VR :=
 if sV v=false then⟨vt0,0,18⟩ else
 if di l≠0 then⟨vt0,0,di l⟩ else
 if v.j.ps<16+10*((mZ v l).length:Int)+(szM (mZ v l):Int) then⟨vt0,0,12⟩ else
 jJ (yx v l (mZ v l) budget).j (yx v l (mZ v l) budget).left (yx v l (mZ v l) budget).err
theorem M2{v:Vt}(h:¬sV v=false):aT v.j=true/\bJ v.j=v.prs:=by
 unfold sV at h;simpa using h
theorem M3{v:Vt}{l:ai}{x:Int×List UInt8}(h:x∈mZ v l):((x∈l/\x.2≠[])\/(x∈v.prs/\x.2≠[])):=by
 unfold mZ bD at h;obtain⟨y,a,rfl⟩:=o4.1 h;have hg:=qr (k:=y.1) ⟨y,a,rfl⟩;rcases pb hg with h1|h1
 .exact .inl h1
 .rcases pb h1 with h1|h1
  .exact .inr h1
  .cases h1
def ajK:List Nat:=[0,1,2,3,6,7,8,9,10,11,14,19,43,50]
attribute[go_sem]ajK
theorem Yz(v:Vt)(n:Nat)(l:ai)(budget:Int)(G:v.j.bs.length=n)(y:n<1000000000)(U:l.length<100000)(z:∀x,x∈l->x.2.length<1000000)(H:i64 budget) :
 FPure prog 44 [.agg [.i v.j.ps,.p (.data 1 n (v.j.bs.map bt)),.i v.j.page,.i v.j.gen,.i v.j.tail,.b v.j.torn,.p (PL v.prs)],.p (PL l),.i budget] (E8 (Da v l budget)):=by
 refine ba f44 ajK ?_;intro c J h0 Y Z;obtain⟨R,hR⟩:∃R,Da v l budget=R:=⟨_,rfl⟩;rw[hR] at Y Z;(try rw[hR]);unfold Da at hR;have Q:szM l<=l.length*(3+1000000):=o7 l 1000000 (fun x e=>o' (z x e));have I:l.length*(3+1000000)<=100000*(3+1000000):=iy _ ω;simp only[go_sem,J];refine aa Z (Fb v n G y) ?_;simp only[go_sem,J];by_cases hg:sV v=false
 .rw[b9 hg] at hR⊢;exact af2
 .rw[b0 hg] at hR⊢;obtain⟨K,hpr⟩:=M2 hg;have A:=rU v.j;have B:=jI v.j;have r:=fun x (e:x∈bJ v.j)=>lS e
  rw[hpr] at A B r;refine aa Z (M1 l U ω) ?_;simp only[go_sem,J];by_cases a:di l=0
  .rw[b0 (fun h=>h a)] at hR⊢;have S:szM l<=256:=by
    unfold di at a;split at a
    .cases a
    .split at a
     .rename_i h1 h2;exact s5 a h2
     .split at a
      .cases a
      .omega
   have g:∀x,x∈l->0<=x.1/\x.1<=255:=by
    have L:∀(l:ai) (t:List Int),jR t l=0->∀x,x∈l->0<=x.1/\x.1<=255:=by
     intro l
     induction l with
     |nil=>intro _ _ x e;cases e
     |cons p l ih =>
      intro t h x e;simp only[jR] at h;split at h
      .cases h
      .split at h
       .cases h
       .rcases hZ.1 e with rfl|e
        .omega
        .exact ih _ h x e
    refine L l [] ?_;unfold di at a;split at a
    .cases a
    .split at a
     .rename_i h1 h2;exact s5 a h2
     .rename_i h1 h2;simpa using h2
   have C:=lR [] v.prs;have D:=lR (cc [] v.prs) l;have V:=ni l;have u:=fun x (e:x∈mZ v l)=>M3 e
   simp only[km] at C;refine co Y (ks:=ajK) (n:=2000) [] (fun i=>i+2) 3 (by rw[J];exact Ax [] v.prs ζ (fun x e=>by have:=r x e;unfold i64;omega)) ⟨κ,κ,rfl,trivial,c7 _,fun i hi=>?_,by simp[ax,ak],by simp[bV,ak],rfl⟩ ?_
   .exact ahJ
   simp only[go_sem];refine co Y (ks:=ajK) (n:=2000) [] (fun i=>i+2) 3 (by rw[J];exact Ax (cc [] v.prs) l ω (fun x e=>by have:=g x e;unfold i64;omega)) ⟨κ,κ,rfl,trivial,c7 _,fun i hi=>?_,by simp[ax,ak],by simp[bV,ak],rfl⟩ ?_
   .exact ahJ
   unfold mZ at hR u;generalize W:cc (cc [] v.prs) l=st at *;simp only[go_sem]
   refine co Y (ks:=1000010::ajK) (n:=2000) [] (fun i=>i+2) 4 (by rw[J];exact yt st ω (fun x e=>by
    have hg:=qr (k:=x.1) ⟨x,e,rfl⟩
    have hm:(x.1,iZ x.1 st)∈bD st:=o4.2 ⟨x,e,rfl⟩
    rcases u _ hm with⟨h1,h2⟩|⟨h1,h2⟩
    .have M:=g _ h1
     have q2:=z _ h1
     simp only at M q2 h2
     exact⟨by unfold i64;omega,h2,ω⟩
    .have M:=r _ h1
     simp only at M h2
     exact⟨by unfold i64;omega,h2,ω⟩)) ⟨κ,κ,rfl,trivial,cV rfl,fun i hi=>?_,by simp[ax,keys],by simp only[bV,ak,DA,and_self],rfl⟩ ?_
   .exact ahJ
   have s:(bD st).length=st.length:=by simp[bD]
   have E:(prA (bD st)).take (st.length*2)=prA (bD st):=by rw[<-s,qN]
   simp only[go_sem,J];refine cw Y (ks:=ajK) (n:=2000) 3 ?_ ?_
   .simp only[go_sem]
    exact⟨ω,dx _ _ _ (fun c hc=>by
     obtain⟨x,_,rfl⟩:=o4.1 hc
     trivial)⟩
   .simp only[go_sem,J,E];have N:∀x,x∈bD st->x.2.length<=8192:=fun x e=>by
     rcases u x e with⟨h1,_⟩|⟨h1,_⟩
     .have:∀l:ai,x∈l->3+x.2.length<=szM l:=by
       exact ahg
      have:=this l h1;omega
     .exact(r x h1).2.2.2
    have T:=o7 (bD st) 8192 N;have O:(bD st).length*(3+8192)<=10000*(3+8192):=iy _ ω;rw[<-s];rw[<-s] at D;clear s E;generalize bD st=now at *;obtain⟨pp,kk,qq,e1,e2,e3,-⟩:=cG K;refine aa Z (AJ now ω) ?_;simp only[go_sem,J];rw[ab (n:=10*((i' now:Nat):Int)) ω ω,ab (n:=16+10*((i' now:Nat):Int)) ω ω,ab (n:=16+10*((i' now:Nat):Int)+((szM now:Nat):Int)) ω ω];refine⟨π,?_⟩;by_cases m:v.j.ps<16+10*((i' now:Nat):Int)+((szM now:Nat):Int)
    .rw[b9 ω];rw[b9 m] at hR;exact af2
    .rw[b0 ω];rw[b0 m] at hR;unfold yx at hR;refine aa Z (AJ l ω) ?_;simp only[go_sem,J];refine aa Z (OS v.j n G y) ?_;simp only[go_sem,J];refine⟨π,?_⟩;by_cases o:((szM l:Nat):Int)<=gI v.j
     .rw[b9 o] at hR⊢;refine aa Z (yO l ω) ?_;have P:=cB l;have w:=mI v.j (bh l) budget H ω ω;rw[<-oO] at w;simp only[go_sem];refine aa Z (HR v.j n (bh l) _ budget G y P ω H) ?_;generalize b8 v.j (bh l) budget=X at *;exact af3
     .rw[b0 o] at hR⊢;refine aa Z (sa now ω) ?_;have F:∀b,b∈aV now->b.length<1000000:=fun b y=>by
       have:=GP y;omega
      have w:=eA v.j (aV now) budget H ω F;rw[<-dB] at w;simp only[go_sem];refine aa Z (oJ v.j n (aV now) _ budget G y (kU now) ω F H) ?_;generalize aI v.j (aV now) budget=X at *;exact af3
  .rw[b9 a] at hR⊢;exact af2
theorem FPure.ofNil{P:Program}{f:FuncId}{s:Nat}{v:AV}(h:∀A c,FPure P f [.p (.v (.slice A 0 c))] v):FPure P f [.p (.data s 0 [])] v:=by
 intro k;refine⟨fun ρ F us w a l m=>?_⟩;have n:=m 0 _ rfl
 have g:∀A c,us.getD 0 undef = .slice A 0 c->_:=fun A c e=>((h A c) k).tri ρ F us w a l (fun j x i=>by
  cases j with
  |zero=>simp at i;subst i;rw[e];exact .p _ _ (.v _ rfl)
  |succ j=>simp at i)
 rcases n.dataInv with⟨_,_,A,cap,e⟩|⟨b,off,cap,f,e,_⟩
 .exact g _ _ e
 .exact g _ _ e
theorem Qg(c:Nat):FPure prog 96 [.p (.v (.slice none 0 c))] (.p (.data 1 0 [])):=by
 exact aia
theorem Qh(a:Addr)(c:Nat):FPure prog 96 [.p (.v (.slice (some a) 0 c))] (.p (.data 1 0 [])):=by
 exact aia
theorem yy(cs:List PV)(n:Nat)(b:cs.length=n)(e:n<=140737488355328):FPure prog 96 [.p (.data 1 n cs)] (.p (.data 1 n cs)):=by
 by_cases h:n=0
 .subst h;obtain rfl:=fo b;exact FPure.ofNil fun A c=>by cases A with|none=>exact Qg c|some a=>exact Qh a c
 .apply ba f96 [0,2,4];intro c J g Y Z;refine θ ?_;rw[cD ζ];exact⟨h,⟨ω,ω⟩,⟨ω,aG _⟩,aJ _⟩
theorem qu(v:Vt)(n:Nat)(k:Int)(u:v.prs.length<1000000000)(q:∀x,x∈v.prs->x.2.length<=140737488355328):FPure prog 100 [.agg [.i v.j.ps,.p (.data 1 n (v.j.bs.map bt)),.i v.j.page,.i v.j.gen,.i v.j.tail,.b v.j.torn,.p (PL v.prs)],.i k] (.p (.data 1 (vgetM k v.prs).length ((vgetM k v.prs).map bt))):=by
 apply ba f100 [0,1,2,4,6,8,9,10,11,17];intro c J r Y Z;refine θ ?_;generalize hv:v.prs=l at *;refine bl Y r [0,1,2,4,6,8,9,10,11,17] (α:={i:Nat // i<=l.length/\∀x,x∈l.take i->x.1≠k}) (fun i=>⟨22,[(1,.i k),(8,.p (PL l)),(9,.i l.length),(10,.i i.1)],[],1⟩) (fun i=>l.length-i.1) ⟨0,gi _,η⟩ [] (fun i=>i) ?_ ?_
 .exact aho
 .rintro⟨i,w,hno⟩;rcases ea i l.length with a|a
  .have s:((i:Int)<(l.length:Int)):=ω;have m:=dY l i a;have hta:=eD l i a;have g:l.getD i (0,[])∈l:=by rw[show l.getD i (0,[])=l[i]'a from by simp[cR,a]];exact ix _
   have o:=q _ g;have t:=ac i
   have e:=C0 k l i a hno;generalize l.getD i (0,[])=p at *;simp only[go_sem,J,m,s,byP,t];refine⟨ω,?_⟩;by_cases he:p.1=k
   .rw[b9 he];have e:=e he;apply aa Z (yy (p.2.map bt) _ η o);rw[<-e];simp only[go_sem]
   .rw[b0 he];refine⟨⟨i+1,ω,?_⟩,by show l.length-(i+1)<l.length-i;omega,aA [0] rfl ?_ ?_ rfl rfl (c7 _)⟩
    .exact aha
    .exact κ
    .exact κ
  .exact ag9
def Srt(s:ai):Prop:=s.Pairwise fun a b=>a.1<b.1
theorem Srt.tail{p:Int×List UInt8}{s:ai}(h:Srt (p::s)):Srt s:=(vx.1 h).2
theorem Srt.head{p:Int×List UInt8}{s:ai}(h:Srt (p::s)):∀x,x∈s->p.1<x.1:=(vx.1 h).1
theorem rV(k:Int)(q:Int×List UInt8)(r:ai):lj k (q::r)=if q.1≠k then q::lj k r else lj k r:=by
 unfold lj;rw[List.filter_cons];by_cases h:q.1=k<;>simp[h]
theorem pc(p:Int×List UInt8):∀s:ai,eW p true s=lj p.1 s
 |[]=>rfl
 |q::r=>by
  rw[rV];simp only[eW,Bool.true_or,pc p r];by_cases h:q.1=p.1<;>simp[h]
theorem Fd{k:Int}{v:List UInt8}:∀{s:ai},(∀x,x∈s->k<x.1)->jQ k v s=(k,v)::s
 |[],_=>rfl
 |q::r,h=>by simp only[jQ];rw[b9 (h q η)]
theorem sW(p:Int×List UInt8):∀{s:ai},Srt s->eW p false s=jQ p.1 p.2 (lj p.1 s)
 |[],_=>rfl
 |q::r,h=>by
  have a:=h.head;rw[rV];simp only[eW,Bool.false_or,true_and];by_cases h1:q.1>=p.1
  .simp only[h1,if_true,decide_true,pc];by_cases h2:q.1=p.1
   .rw[b0 (fun h=>h h2),b0 (fun h=>h h2)];rw[Fd (fun x b=>by have:=a x (k'.1 b).1;omega)];rfl
   .rw[b9 h2,b9 h2];simp only[jQ];rw[b9 ω];rfl
  .have h2:q.1≠p.1:=ω;rw[b0 h1,b9 h2,b9 h2];simp only[jQ];rw[b0 ω];simp only[h1,decide_false,List.nil_append,List.cons_append];rw[sW p h.tail]
theorem GR{s:ai}(h:Srt s)(k:Int):Srt (lj k s):=List.Pairwise.filter _ h
theorem GS{k:Int}{v:List UInt8}:∀{s:ai},Srt s->(∀x,x∈s->x.1≠k)->Srt (jQ k v s)
 |[],_,_=>by simp[jQ,Srt]
 |q::r,h,hn=>by
  simp only[jQ];split
  .rename_i b;refine vx.2 ⟨fun x a=>?_,h⟩;rcases hZ.1 a with rfl|a
   .exact b
   .have:=h.head x a;simp only;omega
  .rename_i b;refine vx.2 ⟨fun x a=>?_,GS h.tail (fun x a=>hn x (by simp[a]))⟩;rcases vT a with rfl|a
   .have:=hn q η;simp only;omega
   .exact h.head x a
theorem Ff{s:ai}(h:Srt s)(p:Int×List UInt8):Srt (fb s p):=by
 unfold fb;split
 .exact GR h _
 .exact GS (GR h _) (fun x a=>by have:=(k'.1 a).2;simpa using this)
theorem Db{s:ai}(h:Srt s)(p:Int×List UInt8):eW p (decide (p.2.length=0)) s=fb s p:=by
 unfold fb;split
 .rename_i a;simp only[a,decide_true];exact pc p s
 .rename_i a;simp only[a,decide_false];exact sW p h
theorem iP:∀(l old:ai),Srt old->b7 old l=cc old l/\Srt (cc old l):=by
 intro l;unfold b7 cc
 induction l with
 |nil=>intro old h;exact⟨rfl,h⟩
 |cons p l a =>
  intro old h;simp only[s7];rw[Db h];exact a _ (Ff h p)
theorem lT(l:List (List UInt8)):cH l=fI l/\Srt (fI l):=by
 have a:∀(l:List (List UInt8)) (o:ai),Srt o->l.foldl (fun o b=>b7 o (bE b)) o=l.foldl (fun s b=>cc s (bE b)) o/\Srt (l.foldl (fun s b=>cc s (bE b)) o):=by
  intro l
  induction l with
  |nil=>intro o h;exact⟨rfl,h⟩
  |cons b l c =>
   intro o h;simp only[s7];have⟨h1,h2⟩:=iP (bE b) o h;rw[h1];exact c _ h2
 exact a l [] (by simp[Srt])
theorem Dc:∀{s:ai},Srt s->∀p,p∈s->iZ p.1 s=p.2
 |[],_,p,a=>by cases a
 |q::r,h,p,a=>by
  simp only[iZ];rcases hZ.1 a with rfl|a
  .rw[b9 rfl]
  .have:=h.head p a;rw[b0 ω];exact Dc h.tail p a
theorem sX{s:ai}(h:Srt s):bD s=s:=by
 unfold bD
 conv=>rhs;rw[<-List.map_id s]
 refine List.map_congr_left fun p a=>?_
 rw[Dc h p a];rfl
theorem jK(j:Jn):bJ j=aQ j:=by
 have⟨h1,h2⟩:=lT (aZ j);unfold bJ aQ;rw[sX h2,h1]
theorem vX(j:Jn):Srt (aQ j):=by
 have⟨h1,h2⟩:=lT (aZ j);unfold aQ;rw[h1];exact h2
theorem yz{k:Int}{v:List UInt8}:∀{s:ai},(∀x,x∈s->x.1<k)->jQ k v s=s++[(k,v)]
 |[],_=>rfl
 |q::r,h=>by
  simp only[jQ];rw[b0 (by have:=h q η;omega),yz (fun x a=>h x (by simp[a]))];rfl
theorem Qi{k:Int}{s:ai}(h:∀x,x∈s->x.1≠k):lj k s=s:=by
 unfold lj;rw[List.filter_eq_self];intro x a;simpa using h x a
theorem pd:∀(s o:ai),Srt s->(∀x,x∈s->x.2≠[])->(∀x,x∈o->∀y,y∈s->x.1<y.1)->cc o s=o++s:=by
 intro s
 induction s with
 |nil=>intro o _ _ _;simp[cc]
 |cons p s i =>
  intro o h c ho;have b:∀x,x∈o->x.1<p.1:=fun x a=>ho x a p η
  have h1:fb o p=o++[p]:=by
   unfold fb;rw[b0 (fun e=>c p η (fo e))];unfold DU;rw[Qi (fun x a=>by have:=b x a;omega),yz b]
  show(p::s).foldl fb o=_;rw[s7,h1]
  have:=i (o++[p]) h.tail (fun x a=>c x (by simp[a])) (fun x a y g=>by
   rcases o1.1 a with a|a
   .exact ho x a y (by simp[g])
   .simp at a;subst a;exact h.head y g)
  unfold cc at this;rw[this];simp
theorem M4(v:Vt):sV v=mY v:=by
 unfold sV mY;rw[jK];congr 1;by_cases h:aQ v.j=v.prs
 .simp[h]
 .have:v.prs≠aQ v.j:=fun e=>h e.symm
  simp[h,this]
theorem M5{v:Vt}(h:v.prs=aQ v.j)(l:ai):mZ v l=b7 v.prs l:=by
 have hs:Srt v.prs:=by rw[h];exact vX _
 have b:∀x,x∈v.prs->x.2≠[]:=fun x a=>by rw[h] at a;exact(fa a).1
 have ha:cc [] v.prs=v.prs:=by
  have:=pd v.prs [] hs b (fun x a=>by cases a);simpa using this
 have⟨h1,h2⟩:=iP l v.prs hs;unfold mZ;rw[ha,sX h2,h1]
theorem vY(l:ai):di l≠16:=by
 have b:∀(l:ai) (a:List Int),jR a l≠16:=by
  intro l
  induction l with
  |nil=>intro _;simp[jR]
  |cons p l c =>
   intro a;simp only[jR];split
   .decide
   .split
    .decide
    .exact c _
 unfold di;split
 .decide
 .split
  .exact b l []
  .split<;>decide
theorem qv(j:Jn)(e:Int)(h:e≠16):bU j e=⟨vt0,0,e⟩:=by unfold bU;rw[b0 h]
theorem Qj(v:Vt)(l:ai)(budget:Int):Da v l budget=rputM v l budget:=by
 unfold Da rputM;rw[M4];by_cases hg:mY v=false
 .rw[b9 hg,b9 hg,qv v.j 18 ε]
 .rw[b0 hg,b0 hg];have⟨e,hpr⟩:=qp hg;by_cases ha:di l=0
  .have a:¬di l≠0:=fun h=>h ha
   rw[b0 a,b0 a,M5 hpr];have g:yx v l (b7 v.prs l) budget=dv v l budget:=by
    unfold yx dv;rw[oO,dB]
   rw[g,qv v.j 12 ε];split
   .rfl
   .generalize dv v l budget=X;unfold jJ;by_cases b:X.err=0
    .have c:¬X.err≠0:=fun h=>h b
     rw[b9 b,b0 c,jK]
    .rw[b0 b,b9 b]
  .rw[b9 ha,b9 ha,qv _ _ (vY l)]
theorem I1(p:Int×List UInt8)(h1:0<=p.1/\p.1<=255)(h2:p.2.length<65536):bE (bh [p])=[p]:=by
 have hb:bh [p]=u8i p.1::UInt8.ofNat (p.2.length/256)::UInt8.ofNat p.2.length::p.2:=by simp[bh]
 have h:(bh [p]).length=3+p.2.length:=by rw[hb];simp;omega
 have a:aF (bh [p]) 1=p.2.length:=by
  exact ahw
 have c:(((bh [p]).getD 0 0).toNat:Int)=p.1:=by
  rw[hb];show((u8i p.1).toNat:Int)=_;rw[tV,dh];omega
 have b:=j8 (bh [p]) (by rw[hb];simp) ω ω;rw[a,c] at b;have e:(bh [p]).drop (3+p.2.length)=[]:=l2 ω;have g:((bh [p]).drop 3).take p.2.length=p.2:=by rw[hb];simp
 rw[e,g,py] at b;unfold bE;rw[b];rfl
theorem sY{s:ai}(hs:Srt s)(e:∀x,x∈s->x.2≠[]/\0<=x.1/\x.1<=255/\x.2.length<=8192):cH (aV s)=s:=by
 rw[(lT _).1];have c:∀(r o:ai),(∀x,x∈r->0<=x.1/\x.1<=255/\x.2.length<=8192)->(aV r).foldl (fun s b=>cc s (bE b)) o=cc o r:=by
  intro r
  induction r with
  |nil=>intro o _;rfl
  |cons p r i =>
   intro o h;have g:=h p η;show((bh [p])::aV r).foldl _ o=_;rw[s7,I1 p ⟨g.1,g.2.1⟩ ω,i _ (fun x a=>h x (by simp[a]))];rfl
 unfold fI;rw[c s [] (fun x a=>(e x a).2)];have:=pd s [] hs (fun x a=>(e x a).1) (fun x a=>by cases a);simpa using this
theorem m5{j:Jn}(b:MtOk j)(B:Int)(a:(be j (aV (aQ j)) B).err=0):aQ (be j (aV (aQ j)) B).j=aQ j:=by
 rw[<-dB] at a⊢;rcases zN b (aV (aQ j)) B with⟨_,_,_,h,_⟩|⟨h,_⟩|⟨h,_⟩
 .show cH (aZ _)=_;rw[h];exact sY (vX j) (fun x c=>fa c)
 .rw[h] at a;cases a
 .exact s5 a h
theorem yA{j:Jn}(left e:Int)(k:e=0->j.torn=true->MtOk j):rT j left e=if e≠0 then bU j e else gu j left:=by
 unfold rT gu;by_cases a:e=0
 .have g:¬e≠0:=fun h=>h a
  rw[b0 g];by_cases b:j.torn=true
  .rw[b9 ⟨a,b⟩,b0 (by rw[b];decide),dB,jK];have hs:=m5 (k a b) left;generalize be j (aV (aQ j)) left=X at *;unfold jJ;by_cases c:X.err=0
   .have i:¬X.err≠0:=fun h=>h c
    rw[b9 c,b0 i,jK,hs c]
   .rw[b0 c,b9 c]
  .rw[b0 (fun h=>b h.2),b9 (by simpa using b)];unfold jJ;rw[b9 a,jK]
 .rw[b0 (fun h=>a h.1),b9 a];unfold jJ;rw[b0 a]
theorem I2{f:Fl}{B:Int}(h:(cr f B).err=0):MtOk (cr f B).j/\(cr f B).j.torn=false:=by
 unfold cr at h⊢;split at h
 .rename_i h1;exact s5 h h1
 .rename_i h1;rw[b0 h1];split at h
  .rename_i h2;exfalso;unfold cd at h;split at h
   .cases h
   .exact h2 h
  .rename_i h2;rw[b0 h2];have⟨p,k,hv⟩:=VFl.of (show dQ f=0 by simpa using h1);have⟨_,a⟩:=oP hv (show(dE f B [.er 0,.er 1,.wr 0 0 (headM 1)]).err=0 by simpa using h2);exact⟨MtOk.of (by rw[a]),by show(mountM _).j.torn=false;rw[a]⟩
theorem M6(f:Fl)(budget:Int):vV f budget=ropenM f budget:=by
 unfold vV ropenM;by_cases a:(mountM f).err=11
 .rw[b9 a,b9 a,lC];exact yA _ _ (fun h _=>(I2 h).1)
 .rw[b0 a,b0 a];exact yA _ _ (fun h _=>MtOk.of h)
theorem jh(p:Int×List UInt8):(bh [p]).length=3+p.2.length:=by rw[cB];simp[szM]
theorem vZ:∀s:ai,bF (aV s)=10*s.length+szM s
 |[]=>rfl
 |p::s=>by
  show bF (bh [p]::aV s)=_;rw[bF,jh,vZ s];simp only[szM,ew];omega
theorem v6{s:ai}(h:∀x,x∈s->3+x.2.length<=256):ee (aV s)=true:=by
 unfold ee aV;rw[List.all_eq_true];intro b a;obtain⟨p,c,rfl⟩:=o4.1 a;have:=h p c;rw[jh];simp;omega
theorem v7:∀l:ai,(∀x,x∈l->0<=x.1/\x.1<=255/\x.2.length<65536)->dH (bh l)=some l
 |[],_=>rfl
 |p::l,h=>by
  have⟨h1,h2,k⟩:=h p η;have c:=v7 l (fun x e=>h x (by simp[e]));have hb:bh (p::l)=u8i p.1::UInt8.ofNat (p.2.length/256)::UInt8.ofNat p.2.length::(p.2++bh l):=by simp[bh]
  have m:(bh (p::l)).length=3+p.2.length+(bh l).length:=by rw[hb];simp;omega
  have a:aF (bh (p::l)) 1=p.2.length:=by
   exact ahw
  have g:(((bh (p::l)).getD 0 0).toNat:Int)=p.1:=by
   rw[hb];show((u8i p.1).toNat:Int)=_;rw[tV,dh];omega
  have b:=j8 (bh (p::l)) (by rw[hb];simp) ω ω;rw[a,g] at b;have i:(bh (p::l)).drop (3+p.2.length)=bh l:=by rw[hb,<-List.drop_drop];simp
  have j:((bh (p::l)).drop 3).take p.2.length=p.2:=by rw[hb];simp
  rw[i,j,c] at b;rw[b];rfl
theorem Fg(r:List (List UInt8))(b:List UInt8):cH (r++[b])=b7 (cH r) (bE b):=by
 unfold cH;rw[j'];rfl
theorem M7:∀(l:ai) (seen:List Int),jR seen l=0->∀x,x∈l->0<=x.1/\x.1<=255
 |[],_,_,x,a=>by cases a
 |p::l,seen,h,x,a=>by
  simp only[jR] at h;split at h
  .cases h
  .rename_i h1;split at h
   .cases h
   .rcases hZ.1 a with rfl|a
    .omega
    .exact M7 l _ h x a
theorem GT:∀{l:ai} {x:Int×List UInt8},x∈l->3+x.2.length<=szM l
 |p::l,x,h=>by
  simp only[szM];rcases hZ.1 h with rfl|h
  .omega
  .have:=GT h;omega
theorem Dd{l:ai}(h:di l=0):1<=szM l/\szM l<=256/\∀x,x∈l->0<=x.1/\x.1<=255/\3+x.2.length<=256:=by
 unfold di at h;split at h
 .cases h
 .rename_i a;split at h
  .rename_i h1;exact s5 h h1
  .rename_i h1;split at h
   .cases h
   .rename_i h2;have h1:jR [] l=0:=by simpa using h1
    refine⟨?_,ω,fun x b=>?_⟩
    .cases l with
     |nil=>exact s5 rfl a
     |cons p l=>simp only[szM];omega
    .have:=M7 l [] h1 x b;have:=GT b;omega
structure SOk(s:ai)(ps:Int):Prop where
 srt:Srt s
 el:∀x,x∈s->x.2≠[]/\0<=x.1/\x.1<=255/\3+x.2.length<=256
 fit:16+10*(s.length:Int)+(szM s:Int)<=ps
theorem SOk.snap{s:ai}{ps:Int}(h:SOk s ps):cH (aV s)=s:=sY h.srt (fun x a=>by have:=h.el x a;exact⟨this.1,this.2.1,this.2.2.1,ω⟩)
theorem SOk.with{s l:ai}{ps:Int}(h:SOk s ps)(ha:di l=0)(e:¬ps<16+10*((b7 s l).length:Int)+(szM (b7 s l):Int)):SOk (b7 s l) ps:=by
 have⟨_,_,b⟩:=Dd ha;have⟨h1,h2⟩:=iP l s h.srt;refine⟨by rw[h1];exact h2,fun x a=>?_,ω⟩;rcases nQ a with⟨a,c⟩|a
 .exact⟨c,b x a⟩
 .exact h.el x a
structure VOk(v:Vt)(G:Int):Prop where
 mt:MtOk v.j
 pr:v.prs=aQ v.j
 so:SOk v.prs v.j.ps
 gen:v.j.gen<=G
structure FOk(f:Fl)(s:ai)(G:Int):Prop where
 err:(mountM f).err=0
 st:aQ (mountM f).j=s
 so:SOk s f.ps
 gen:(mountM f).j.gen<=G
theorem Qk{f:Fl}{s:ai}{G:Int}(h:FOk f s G)(I:G<1099511627776)(B:Int) :
 ((ropenM f B).err=0/\VOk (ropenM f B).v (G+1)/\(ropenM f B).v.prs=s/\(ropenM f B).v.j.ps=f.ps) \/
 ((ropenM f B).err=16/\0<=B/\FOk (flOf (ropenM f B).v.j) s (G+1)/\(ropenM f B).v.j.ps=f.ps):=by
 have r:=MtOk.of h.err;have t:=pP h.err;have a:(mountM f).j.ps=f.ps:=congrArg Fl.ps t;have e:=h.st;have D:=h.gen;have k:ropenM f B=gu (mountM f).j B:=by
  unfold ropenM;rw[b0 (by rw[h.err];decide),b0 (by rw[h.err];decide)]
 rw[k];generalize(mountM f).j=j at *;have b:=h.so;unfold gu;by_cases C:j.torn=false
 .left;rw[b9 C];exact⟨rfl,⟨r,rfl,by rw[e,a];exact b,by show j.gen<=G+1;omega⟩,e,a⟩
 .rw[b0 C];have g:=ke r (aV (aQ j)) B;have m:=m5 r B;rw[dB,e] at g;rw[e] at m⊢;generalize be j (aV s) B=X at *;rcases g with⟨n,u,E,i,w,hg,o⟩|⟨n,w,y,i,hg,o,F⟩|⟨_,_,_,p⟩
  .left;have l:¬X.err≠0:=fun c=>c n
   rw[b0 l];exact⟨rfl,⟨u,(m n).symm,by show SOk s X.j.ps;rw[o,a];exact b,by show X.j.gen<=G+1;omega⟩,rfl,by show X.j.ps=_;rw[o,a]⟩
  .right;have l:X.err≠0:=by rw[n];decide
   rw[b9 l,n];have z:bU X.j 16=⟨⟨⟨X.j.ps,X.j.bs,0,0,0,false⟩,[]⟩,0,16⟩:=by unfold bU;rw[b9 rfl]
   rw[z];refine⟨rfl,F,⟨y,?_,by show SOk s X.j.ps;rw[o,a];exact b,?_⟩,by show X.j.ps=_;rw[o,a]⟩
   .show cH (aZ (mountM (flOf X.j)).j)=s;rcases i with A|A
    .rw[A];exact e
    .rw[A];exact b.snap
   .show(mountM (flOf X.j)).j.gen<=G+1;omega
  .exfalso;rcases p with q|q|q
   .rw[v6 (fun x H=>(b.el x H).2.2.2)] at q;cases q
   .have:=b.fit;rw[vZ] at q;omega
   .omega
theorem Fh{v:Vt}{G:Int}(h:VOk v G)(O:G<1099511627776)(l:ai)(B:Int) :
 ((rputM v l B).err=0/\VOk (rputM v l B).v (G+1)/\(rputM v l B).v.prs=b7 v.prs l/\(0<=B->0<=(rputM v l B).left)/\(rputM v l B).v.j.ps=v.j.ps) \/
 ((rputM v l B).err=16/\(rputM v l B).left=0/\0<=B/\(rputM v l B).v.j.ps=v.j.ps/\(FOk (flOf (rputM v l B).v.j) v.prs (G+1)\/FOk (flOf (rputM v l B).v.j) (b7 v.prs l) (G+1))) \/
 ((rputM v l B).err≠0/\(rputM v l B).err≠16/\(rputM v l B).err=(rputM v l (-1)).err/\(di l≠0\/v.j.ps<16+10*((b7 v.prs l).length:Int)+(szM (b7 v.prs l):Int))):=by
 have o:¬mY v=false:=by
  unfold mY;rw[h.mt.gen,h.pr];simp
 have M:=h.gen;by_cases ha:di l=0
 case neg =>
  right;right;unfold rputM;rw[b0 o,b0 o,b9 ha,b9 ha,qv _ _ (vY l)];exact⟨ha,vY l,rfl,.inl ha⟩
 have r:¬di l≠0:=fun c=>c ha
 by_cases u:v.j.ps<16+10*((b7 v.prs l).length:Int)+(szM (b7 v.prs l):Int)
 .right;right;unfold rputM;rw[b0 o,b0 o,b0 r,b0 r,b9 u,b9 u,qv _ 12 ε];exact⟨ε,ε,rfl,.inr u⟩
 have w:=h.so;have k:=w.with ha u;have⟨D,E,F⟩:=Dd ha;have y:∀B,rputM v l B=if(dv v l B).err≠0 then bU (dv v l B).j (dv v l B).err else⟨⟨(dv v l B).j,aQ (dv v l B).j⟩,(dv v l B).left,0⟩:=fun B=>by
  unfold rputM;rw[b0 o,b0 r,b0 u]
 have H:((dv v l B).err=0/\MtOk (dv v l B).j/\aQ (dv v l B).j=b7 v.prs l/\(0<=B->0<=(dv v l B).left)/\(dv v l B).j.gen<=G+1/\(dv v l B).j.ps=v.j.ps) \/
  ((dv v l B).err=16/\0<=B/\(mountM (flOf (dv v l B).j)).err=0/\(aQ (mountM (flOf (dv v l B).j)).j=v.prs\/aQ (mountM (flOf (dv v l B).j)).j=b7 v.prs l)/\(mountM (flOf (dv v l B).j)).j.gen<=G+1/\(dv v l B).j.ps=v.j.ps):=by
  have I:bE (bh l)=l:=by
   unfold bE;rw[v7 l (fun x K=>by have:=F x K;omega)];rfl
  have b:cH (aZ v.j)=v.prs:=h.pr.symm;unfold dv;by_cases e:(szM l:Int)<=gI v.j
  .rw[b9 e,<-oO];have q:cH (aZ v.j++[bh l])=b7 v.prs l:=by rw[Fg,I,b]
   rcases zO h.mt (bh l) B with⟨n,p,a,g,hg,i⟩|⟨n,g,m,a,hg,i,z⟩|⟨_,_,_,s⟩
   .exact .inl ⟨n,p,by show cH (aZ _)=_;rw[a,q],g,ω,i⟩
   .refine .inr ⟨n,z,m,?_,ω,i⟩;rcases a with e|e
    .left;show cH (aZ _)=_;rw[e,b]
    .right;show cH (aZ _)=_;rw[e,q]
   .exfalso;unfold gI at e;rw[h.mt.gen,b9 rfl] at e;rw[cB] at s;rcases s with s|s|s
    .exact s ⟨D,E⟩
    .rw[s] at e;unfold kF at e;rw[b9 rfl] at e;omega
    .omega
  .rw[b0 e,<-dB];rcases ke h.mt (aV (b7 v.prs l)) B with⟨n,p,N,a,g,hg,i⟩|⟨n,g,m,a,hg,i,z⟩|⟨_,_,_,A⟩
   .exact .inl ⟨n,p,by show cH (aZ _)=_;rw[a,k.snap],g,ω,i⟩
   .refine .inr ⟨n,z,m,?_,ω,i⟩;rcases a with e|e
    .left;show cH (aZ _)=_;rw[e,b]
    .right;show cH (aZ _)=_;rw[e,k.snap]
   .exfalso;rcases A with C|C|C
    .rw[v6 (fun x K=>(k.el x K).2.2.2)] at C;cases C
    .have:=k.fit;rw[vZ] at C;omega
    .omega
 rw[y B];generalize dv v l B=X at *;rcases H with⟨n,p,b,g,hg,i⟩|⟨n,z,m,b,hg,i⟩
 .left;have t:¬X.err≠0:=fun c=>c n
  rw[b0 t];exact⟨rfl,⟨p,rfl,by show SOk (aQ X.j) X.j.ps;rw[b,i];exact k,hg⟩,b,g,i⟩
 .right;left;have t:X.err≠0:=by rw[n];decide
  rw[b9 t,n];have L:bU X.j 16=⟨⟨⟨X.j.ps,X.j.bs,0,0,0,false⟩,[]⟩,0,16⟩:=by unfold bU;rw[b9 rfl]
  rw[L];refine⟨rfl,rfl,z,i,?_⟩;rcases b with hs|hs
  .exact .inl ⟨m,hs,by show SOk v.prs X.j.ps;rw[i];exact w,hg⟩
  .exact .inr ⟨m,hs,by show SOk (b7 v.prs l) X.j.ps;rw[i];exact k,hg⟩
theorem M8{f:Fl}{p k:Nat}(hv:VFl f p k)(e:(mountM f).err=11){B:Int}(z:(ropenM f B).err=0):VOk (ropenM f B).v 1/\(ropenM f B).v.prs=[]:=by
 unfold ropenM at z⊢;rw[b9 e] at z⊢;by_cases c:(cr f B).err=0
 .rw[b0 (fun q=>q c)] at z⊢;have y:(dE f B [.er 0,.er 1,.wr 0 0 (headM 1)]).err=0:=by
   rw[<-lC] at c;unfold iv at c;rw[hv.exam,b0 ε,jY] at c;by_cases h:(dE f B [.er 0,.er 1,.wr 0 0 (headM 1)]).err=0
   .exact h
   .rw[b9 h] at c;unfold cd at c;split at c;cases c;exact c
  have⟨j,m,n,o,r,g,h,a,l⟩:=pO hv y;rw[<-lC,m];have b:aQ j=[]:=by unfold aQ;rw[a];rfl
  unfold gu;rw[b9 g,b];refine⟨⟨n,b.symm,⟨by simp[Srt],(fun x q=>by cases q),?_⟩,?_⟩,rfl⟩
  .have:=hv.p1;show 16+10*(([]:ai).length:Int)+(szM []:Int)<=j.ps;rw[h];simp[szM];omega
  .show j.gen<=1;omega
 .rw[b9 c] at z;unfold bU at z;split at z;cases z;exact absurd z c
theorem M9{f:Fl}{p k:Nat}(hv:VFl f p k)(e:f.bs=h' (p*k) 255):(mountM f).err=11:=by
 have g:=hv.p1;have b:=hv.k1;have h:p*2<=p*k:=Nat.mul_le_mul_left p b;have c:∀q,q<2->bz (pgM f q)=0:=fun q i=>by
  apply lB;unfold pgM;rw[e,hv.ps,h5];have:q*p<=1*p:=iy p ω;rw[List.drop_replicate,List.take_replicate];have a:min p (p*k-q*p)=p:=ω;rw[a];obtain⟨m,rfl⟩:∃m,p=m+1:=⟨p-1,ω⟩
  rfl
 unfold mountM;rw[b0 (by rw[hv.exam];decide),b0 (by rw[c 0 ε,c 1 ε];decide),b9 (c 0 ε)]
theorem VOk.prl{v:Vt}{G:Int}(h:VOk v G):v.prs.length<=8192:=by rw[h.pr];exact gx _
theorem I3(v:Vt)(l:ai)(B:Int)(a:i64 B)(hb:v.j.bs.length<1000000000)(hl:∀x,x∈l->x.2.length<1000)(c:l.length<300)(hv:∀x,x∈v.prs->x.2.length<=8192):(dv v l B).j.bs.length<=v.j.bs.length:=by
 unfold dv;have e:szM l<=l.length*(3+1000):=o7 l 1000 (fun x g=>o' (hl x g));have:l.length*(3+1000)<=300*(3+1000):=iy _ ω;split
 .exact mI _ _ _ a hb (by rw[cB];omega)
 .refine eA _ _ _ a hb (fun b hb=>?_);exact ahG
theorem jL(j:Jn)(e:Int):(bU j e).v.j.bs.length<=j.bs.length:=by
 unfold bU;split
 .exact c7 _
 .exact gi _
theorem m6(v:Vt)(l:ai)(B:Int)(g:i64 B)(h:v.j.bs.length<1000000000)(i:∀x,x∈l->x.2.length<1000)(b:l.length<300):(rputM v l B).v.j.bs.length<=v.j.bs.length/\(rputM v l B).v.prs.length<=8192:=by
 have a:∀j e,(bU j e).v.prs.length<=8192:=fun j e=>by unfold bU;split<;>exact gi _
 unfold rputM;split
 .exact⟨jL _ _,a _ _⟩
 .rename_i hg;have hv:∀x,x∈v.prs->x.2.length<=8192:=fun x c=>by rw[(qp hg).2] at c;exact(fa c).2.2.2
  have:=I3 v l B g h i b hv;split
  .exact⟨jL _ _,a _ _⟩
  .split
   .exact⟨jL _ _,a _ _⟩
   .split
    .exact⟨n' (jL _ _) this,a _ _⟩
    .exact⟨this,gx _⟩
theorem nR(f:Fl)(B:Int)(h:i64 B)(a:f.bs.length<1000000000):(ropenM f B).v.j.bs.length<=f.bs.length/\(ropenM f B).v.prs.length<=8192:=by
 have c:∀j e,(bU j e).v.prs.length<=8192:=fun j e=>by unfold bU;split<;>exact gi _
 have Y:∀j left,i64 left->j.bs.length<=f.bs.length->(gu j left).v.j.bs.length<=f.bs.length/\(gu j left).v.prs.length<=8192:=fun j left k l=>by
  have:=eA j (aV (aQ j)) left k ω (fun b a=>by
   obtain⟨p,m,rfl⟩:=o4.1 a
   rw[jh]
   have:=(fa m).2.2.2
   omega)
  unfold gu;split
  .exact⟨l,gx _⟩
  .split
   .exact⟨n' (jL _ _) ω,c _ _⟩
   .exact⟨by show(be _ _ _).j.bs.length<=_;omega,gx _⟩
 have g:=lQ f B h a;have i:=i9 f;unfold ropenM;split
 .split
  .exact⟨n' (jL _ _) g.2,c _ _⟩
  .exact Y _ _ g.1 g.2
 .split
  .exact⟨n' (jL _ _) i,c _ _⟩
  .exact Y _ _ h i
theorem z64:i64 0:=by unfold i64;decide
theorem sZ(f:Fl)(e:Int):(cd f e).left=0:=by unfold cd;split<;>rfl
theorem ii(j:Jn)(e:Int):(bU j e).left=0:=by unfold bU;split<;>rfl
theorem yB(j:Jn)(l:List (List UInt8))(B:Int)(a:i64 B)(c:j.bs.length<1000000000)(e:∀b,b∈l->b.length<1000000):i64 (be j l B).left:=by
 unfold be;split
 .exact z64
 split
 .exact z64
 split
 .exact z64
 split
 .exact z64
 have hs:=yq (f:=flOf j) (budget:=B) (iw j l) a c (fun o ho=>by
  unfold iw at ho
  simp only[hZ,o1,List.not_mem_nil,or_false] at ho
  rcases ho with rfl|ho|rfl
  .trivial
  .exact Ez _ _ _ _ e o ho
  .show(headM _).length<_;rw[cX];decide)
 unfold lz;split
 .rw[sZ];exact z64
 .exact hs
theorem I4(j:Jn)(b:List UInt8)(B:Int)(a:i64 B)(c:j.bs.length<1000000000)(g:b.length<1000000):i64 (ey j b B).left:=by
 have e:=(gJ (f:=flOf j) (budget:=B) (.wr j.page j.tail (bQ (g' j.gen.toNat) b)) a c (by show(bQ _ _).length<_;rw[cj];omega)).1;unfold ey;split
 .exact z64
 split
 .exact z64
 split
 .exact z64
 split
 .exact z64
 split
 .rw[sZ];exact z64
 .exact e
theorem Fj(j:Jn):∀b,b∈aV (aQ j)->b.length<1000000:=fun b a=>by
 obtain⟨p,c,rfl⟩:=o4.1 a;rw[jh];have:=(fa c).2.2.2;omega
theorem pi(f:Fl)(B:Int)(a:i64 B)(e:f.bs.length<1000000000):i64 (ropenM f B).left:=by
 have Y:∀j left,i64 left->j.bs.length<=f.bs.length->i64 (gu j left).left:=fun j left b h=>by
  unfold gu;split
  .exact b
  .split
   .rw[ii];exact z64
   .exact yB j _ left b ω (Fj j)
 have c:=lQ f B a e;have g:=i9 f;unfold ropenM;split
 .split
  .rw[ii];exact z64
  .exact Y _ _ c.1 c.2
 .split
  .rw[ii];exact z64
  .exact Y _ _ a g
theorem yC(f:Fl)(a m:Nat)(ch:Nat->UInt8->UInt8):(aE f a m (-1) ch).left = -1:=(lD m).2.2
theorem I5(f:Fl)(p:Int)(h:(eR f p (-1)).err=0):(eR f p (-1)).left = -1:=by
 unfold eR at h⊢;by_cases ha:gb f p 0 0≠0
 .rw[b9 ha] at h;exact s5 h ha
 .rw[b0 ha];exact yC _ _ _ _
theorem De(f:Fl)(p a:Int)(b:List UInt8)(h:(dM f p a b (-1)).err=0):(dM f p a b (-1)).left = -1:=by
 unfold dM at h⊢;by_cases ha:gb f p a b.length≠0
 .rw[b9 ha] at h;exact s5 h ha
 .rw[b0 ha];exact yC _ _ _ _
theorem Ql(f:Fl)(o:JOp)(h:(ed f (-1) o).err=0):(ed f (-1) o).left = -1:=by
 cases o with
 |er p=>exact I5 f p h
 |wr p a b=>exact De f p a b h
theorem GU:∀(l:List JOp) (f:Fl),(dE f (-1) l).err=0->(dE f (-1) l).left = -1
 |[],f,_=>rfl
 |o::r,f,h=>by
  simp only[dE] at h⊢;by_cases a:(ed f (-1) o).err≠0
  .rw[b9 a] at h;exact s5 h a
  .rw[b0 a] at h⊢;have b:=Ql f o (by simpa using a);rw[b] at h⊢;exact GU r _ h
theorem Na(j:Jn)(l:List (List UInt8))(h:(be j l (-1)).err=0):(be j l (-1)).left = -1:=by
 unfold be at h⊢;split at h
 .cases h
 rename_i h1;rw[b0 h1];split at h
 .cases h
 rename_i h2;rw[b0 h2];split at h
 .cases h
 rename_i b;rw[b0 b];split at h
 .cases h
 rename_i c;rw[b0 c];unfold lz at h⊢;by_cases a:(dE (flOf j) (-1) (iw j l)).err≠0
 .rw[b9 a] at h;unfold cd at h;split at h
  .cases h
  .exact s5 h a
 .rw[b0 a];exact GU _ _ (by simpa using a)
theorem Nb(j:Jn)(b:List UInt8)(h:(ey j b (-1)).err=0):(ey j b (-1)).left = -1:=by
 unfold ey at h⊢;split at h
 .cases h
 rename_i h1;rw[b0 h1];split at h
 .cases h
 rename_i h2;rw[b0 h2];split at h
 .cases h
 rename_i c;rw[b0 c];split at h
 .cases h
 rename_i e;rw[b0 e];split at h
 .rename_i a;unfold cd at h;split at h
  .cases h
  .exact s5 h a
 .rename_i a;rw[b0 a];exact De (flOf j) j.page j.tail (bQ (g' j.gen.toNat) b) (by simpa using a)
theorem Fk(v:Vt)(l:ai)(B:Int)(a:i64 B)(hb:v.j.bs.length<1000000000)(hl:∀x,x∈l->x.2.length<1000)(c:l.length<300)(hv:∀x,x∈v.prs->x.2.length<=8192):i64 (dv v l B).left:=by
 unfold dv;have e:szM l<=l.length*(3+1000):=o7 l 1000 (fun x g=>o' (hl x g));have:l.length*(3+1000)<=300*(3+1000):=iy _ ω;split
 .exact I4 _ _ _ a hb (by rw[cB];omega)
 .refine yB _ _ _ a hb (fun b hb=>?_);exact ahG
theorem rW(v:Vt)(l:ai)(B:Int)(c:i64 B)(e:v.j.bs.length<1000000000)(g:∀x,x∈l->x.2.length<1000)(a:l.length<300):i64 (rputM v l B).left:=by
 unfold rputM;split
 .rw[ii];exact z64
 .rename_i hg;have hv:∀x,x∈v.prs->x.2.length<=8192:=fun x b=>by rw[(qp hg).2] at b;exact(fa b).2.2.2
  split
  .rw[ii];exact z64
  .split
   .rw[ii];exact z64
   .split
    .rw[ii];exact z64
    .exact Fk v l B c e g a hv
theorem Nc(j:Jn)(e:Int)(a:e≠0):(bU j e).err≠0:=by
 unfold bU;split
 .show(16:Int)≠0;decide
 .exact a
theorem Nd(v:Vt)(l:ai)(h:(rputM v l (-1)).err=0):(rputM v l (-1)).left = -1:=by
 have a:=@Nc;unfold rputM at h⊢;split at h
 .exact s5 h (a _ _ ε)
 rename_i h1;rw[b0 h1];split at h
 .rename_i c;exact s5 h (a _ _ c)
 rename_i h2;rw[b0 h2];split at h
 .exact s5 h (a _ _ ε)
 rename_i g;rw[b0 g];split at h
 .rename_i c;exact s5 h (a _ _ c)
 rename_i b;rw[b0 b];show(dv v l (-1)).left = -1;have b:(dv v l (-1)).err=0:=by simpa using b
 unfold dv at b⊢;split at b
 .rename_i e;rw[b9 e];exact Nb _ _ b
 .rename_i e;rw[b0 e];exact Na _ _ b
theorem Fm{f:Fl}{p k:Nat}(hv:VFl f p k)(a:(mountM f).err=11):(ropenM f (-1)).err=0/\(ropenM f (-1)).left = -1:=by
 have⟨h1,h2⟩:=Ex hv;have⟨j,i,n,l,o,b,m,g,h⟩:=pO hv h1;rw[h2,lC] at i;unfold ropenM;rw[b9 a,i,b0 (fun c=>c rfl)];unfold gu;rw[b9 b];exact⟨rfl,rfl⟩
theorem VOk.ps512{v:Vt}{G:Int}(h:VOk v G):(512:Int)<=v.j.ps/\v.j.ps<=8192:=by
 have⟨p,k,h⟩:=h.mt.vfl;have h1:v.j.ps=p:=h.ps;have h2:=h.p1;have a:=h.p2;omega
theorem fc(h:List (Nat×Option Blk)):∀cs:List PV,ik h (cs.map .p)
 |[]=>trivial
 |c::cs=>⟨by cases c<;>trivial,fc h cs⟩
theorem fX(h:List (Nat×Option Blk)):∀cs:List PV,fzL h (cs.map .p)=cs.map .p
 |[]=>rfl
 |c::cs=>by simp only[hX,fzL,fX h cs];cases c<;>rfl
theorem dG:∀(vs cs a:List AV),cs.length=vs.length->bY (a++cs) a.length vs=a++vs
 |[],[],a,_=>by simp[bY]
 |[],c::cs,a,h=>by simp at h
 |v::vs,[],a,h=>by simp at h
 |v::vs,c::cs,a,h=>by
  rw[bY];have e:(a++c::cs).set a.length v=(a++[v])++cs:=η;rw[e,show a.length+1=(a++[v]).length by simp,dG vs cs (a++[v]) χ];simp
inductive SlP where
 |nil
 |d (k n:Nat) (cs:List PV)
def SlP.pv:SlP->PV
 |.nil => .v (.slice none 0 0)
 |.d k n cs => .data k n cs
theorem SlP.one(s:SlP):Jz s.pv=true:=by cases s<;>rfl
theorem SlP.oneC(s:SlP):oneC (.p s.pv)=true:=by cases s<;>rfl
theorem rX(n:Int):oneC (.i n)=true:=rfl
theorem rY(n:UInt64):oneC (.w n)=true:=rfl
theorem rZ(n:Bool):oneC (.b n)=true:=rfl
theorem r4(n:List UInt8):oneC (sv n)=true:=rfl
attribute [go_sem] SlP.pv.eq_1 SlP.pv.eq_2 SlP.one SlP.oneC
structure Fac where
 mo:UInt64
 se:UInt64
 ps:Int
 fi:Bool
 ase:UInt64
 ah:Int
 af:Int
 ato:Int
 ce:SlP
structure Vtp where
 ps:Int
 bs:SlP
 pg:Int
 gn:Int
 tl:Int
 tn:Bool
 pr:SlP
structure Tok where
 sec:UInt64
 act:Bool
 val:UInt64
 per:Int
 rp:List UInt8
 sin:Int
structure Itn where
 act:Bool
 sin:Int
 hsh:UInt64
 flg:Int
 ids:SlP
structure Dvp where
 fac:Fac
 v:Vtp
 on:Bool
 now:Int
 boo:Int
 dr:Int
 wr:Int
 tok:Tok
 nx:Itn
def dv0:Dvp:=⟨⟨0,0,0,false,0,0,0,0,SlP.nil⟩,⟨0,SlP.nil,0,0,0,false,SlP.nil⟩,false,0,0,0,0,⟨0,false,0,0,[],0⟩,⟨false,0,0,0,SlP.nil⟩⟩
def dvC(x:Dvp):List AV:=[.w x.fac.mo,.w x.fac.se,.i x.fac.ps,.b x.fac.fi,.w x.fac.ase,.i x.fac.ah,.i x.fac.af,.i x.fac.ato,.p x.fac.ce.pv,.i x.v.ps,.p x.v.bs.pv,.i x.v.pg,.i x.v.gn,.i x.v.tl,.b x.v.tn,.p x.v.pr.pv,.b x.on,.i x.now,.i x.boo,.i x.dr,.i x.wr,.w x.tok.sec,.b x.tok.act,.w x.tok.val,.i x.tok.per,sv x.tok.rp,.i x.tok.sin,.b x.nx.act,.i x.nx.sin,.w x.nx.hsh,.i x.nx.flg,.p x.nx.ids.pv]
theorem Nf(x:Dvp):(dvC x).length=32:=rfl
theorem Qm(x:Dvp):(dvC x).take 32=dvC x:=rfl
theorem Ng(x:Dvp):dI (dvC x)=true:=by simp only[dvC,dI,SlP.oneC,rX,rY,rZ,r4]
theorem adF(d:PV)(x:Dvp):ag d (dvC x) = .w x.fac.mo:=rfl
theorem adG(x:Dvp)(n:UInt64):(dvC x).set 0 (.w n)=dvC {x with fac:={x.fac with mo:=n} }:=rfl
theorem adI(d:PV)(x:Dvp):ag d ((dvC x).drop 1) = .w x.fac.se:=rfl
theorem adJ(x:Dvp)(n:UInt64):(dvC x).set 1 (.w n)=dvC {x with fac:={x.fac with se:=n} }:=rfl
theorem adM(x:Dvp)(n:Int):(dvC x).set 2 (.i n)=dvC {x with fac:={x.fac with ps:=n} }:=rfl
theorem adN(d:PV)(x:Dvp):ag d ((dvC x).drop 3) = .b x.fac.fi:=rfl
theorem adO(x:Dvp)(n:Bool):(dvC x).set 3 (.b n)=dvC {x with fac:={x.fac with fi:=n} }:=rfl
theorem adP(d:PV)(x:Dvp):ag d ((dvC x).drop 4) = .w x.fac.ase:=rfl
theorem adQ(x:Dvp)(n:UInt64):(dvC x).set 4 (.w n)=dvC {x with fac:={x.fac with ase:=n} }:=rfl
theorem adS(d:PV)(x:Dvp):ag d ((dvC x).drop 5) = .i x.fac.ah:=rfl
theorem adT(x:Dvp)(n:Int):(dvC x).set 5 (.i n)=dvC {x with fac:={x.fac with ah:=n} }:=rfl
theorem adU(d:PV)(x:Dvp):ag d ((dvC x).drop 6) = .i x.fac.af:=rfl
theorem adV(x:Dvp)(n:Int):(dvC x).set 6 (.i n)=dvC {x with fac:={x.fac with af:=n} }:=rfl
theorem adW(d:PV)(x:Dvp):ag d ((dvC x).drop 7) = .i x.fac.ato:=rfl
theorem adX(x:Dvp)(n:Int):(dvC x).set 7 (.i n)=dvC {x with fac:={x.fac with ato:=n} }:=rfl
theorem adY(d:PV)(x:Dvp):ag d ((dvC x).drop 8) = .p x.fac.ce.pv:=rfl
theorem adZ(x:Dvp)(k n:Nat)(cs:List PV):(dvC x).set 8 (.p (.data k n cs))=dvC {x with fac:={x.fac with ce := .d k n cs} }:=rfl
theorem ad3(x:Dvp)(n:Int):(dvC x).set 9 (.i n)=dvC {x with v:={x.v with ps:=n} }:=rfl
theorem YB(x:Dvp)(k n:Nat)(cs:List PV):(dvC x).set 10 (.p (.data k n cs))=dvC {x with v:={x.v with bs := .d k n cs} }:=rfl
theorem YF(x:Dvp)(n:Int):(dvC x).set 11 (.i n)=dvC {x with v:={x.v with pg:=n} }:=rfl
theorem YH(x:Dvp)(n:Int):(dvC x).set 12 (.i n)=dvC {x with v:={x.v with gn:=n} }:=rfl
theorem YJ(x:Dvp)(n:Int):(dvC x).set 13 (.i n)=dvC {x with v:={x.v with tl:=n} }:=rfl
theorem YL(x:Dvp)(n:Bool):(dvC x).set 14 (.b n)=dvC {x with v:={x.v with tn:=n} }:=rfl
theorem YN(x:Dvp)(k n:Nat)(cs:List PV):(dvC x).set 15 (.p (.data k n cs))=dvC {x with v:={x.v with pr := .d k n cs} }:=rfl
theorem YO(x:Dvp):(dvC x).set 15 (.p (.v (.slice none 0 0)))=dvC {x with v:={x.v with pr := .nil} }:=rfl
theorem YQ(d:PV)(x:Dvp):ag d ((dvC x).drop 16) = .b x.on:=rfl
theorem YR(x:Dvp)(n:Bool):(dvC x).set 16 (.b n)=dvC {x with on:=n}:=rfl
theorem YS(d:PV)(x:Dvp):ag d ((dvC x).drop 17) = .i x.now:=rfl
theorem YT(x:Dvp)(n:Int):(dvC x).set 17 (.i n)=dvC {x with now:=n}:=rfl
theorem YU(d:PV)(x:Dvp):ag d ((dvC x).drop 18) = .i x.boo:=rfl
theorem YV(x:Dvp)(n:Int):(dvC x).set 18 (.i n)=dvC {x with boo:=n}:=rfl
theorem YW(d:PV)(x:Dvp):ag d ((dvC x).drop 19) = .i x.dr:=rfl
theorem YX(x:Dvp)(n:Int):(dvC x).set 19 (.i n)=dvC {x with dr:=n}:=rfl
theorem YY(d:PV)(x:Dvp):ag d ((dvC x).drop 20) = .i x.wr:=rfl
theorem YZ(x:Dvp)(n:Int):(dvC x).set 20 (.i n)=dvC {x with wr:=n}:=rfl
theorem Y0(d:PV)(x:Dvp):ag d ((dvC x).drop 21) = .w x.tok.sec:=rfl
theorem Y1(x:Dvp)(n:UInt64):(dvC x).set 21 (.w n)=dvC {x with tok:={x.tok with sec:=n} }:=rfl
theorem Y4(x:Dvp)(n:Bool):(dvC x).set 22 (.b n)=dvC {x with tok:={x.tok with act:=n} }:=rfl
theorem Y5(d:PV)(x:Dvp):ag d ((dvC x).drop 23) = .w x.tok.val:=rfl
theorem Y6(x:Dvp)(n:UInt64):(dvC x).set 23 (.w n)=dvC {x with tok:={x.tok with val:=n} }:=rfl
theorem Y9(x:Dvp)(n:Int):(dvC x).set 24 (.i n)=dvC {x with tok:={x.tok with per:=n} }:=rfl
theorem Zb(x:Dvp)(n:List UInt8):(dvC x).set 25 (sv n)=dvC {x with tok:={x.tok with rp:=n} }:=rfl
theorem Zd(x:Dvp)(n:Int):(dvC x).set 26 (.i n)=dvC {x with tok:={x.tok with sin:=n} }:=rfl
theorem Zf(x:Dvp)(n:Bool):(dvC x).set 27 (.b n)=dvC {x with nx:={x.nx with act:=n} }:=rfl
theorem Zh(x:Dvp)(n:Int):(dvC x).set 28 (.i n)=dvC {x with nx:={x.nx with sin:=n} }:=rfl
theorem Zk(x:Dvp):(dvC x).set 29 (.p (.v (.int .u64 0)))=dvC {x with nx:={x.nx with hsh:=0} }:=rfl
theorem Zm(x:Dvp)(n:Int):(dvC x).set 30 (.i n)=dvC {x with nx:={x.nx with flg:=n} }:=rfl
theorem Zp(x:Dvp):(dvC x).set 31 (.p (.v (.slice none 0 0)))=dvC {x with nx:={x.nx with ids := .nil} }:=rfl
theorem Qn(x:Dvp):((dvC x).drop 9).take 2=[.i x.v.ps,.p x.v.bs.pv]:=rfl
theorem Qo(x:Dvp):((dvC x).drop 9).take 6=[.i x.v.ps,.p x.v.bs.pv,.i x.v.pg,.i x.v.gn,.i x.v.tl,.b x.v.tn]:=rfl
theorem Qp(x:Dvp):(dvC x).take 9=[.w x.fac.mo,.w x.fac.se,.i x.fac.ps,.b x.fac.fi,.w x.fac.ase,.i x.fac.ah,.i x.fac.af,.i x.fac.ato,.p x.fac.ce.pv]:=rfl
theorem Qq(x:Dvp):((dvC x).drop 9).take 7=[.i x.v.ps,.p x.v.bs.pv,.i x.v.pg,.i x.v.gn,.i x.v.tl,.b x.v.tn,.p x.v.pr.pv]:=rfl
theorem Nh(x:Dvp):((dvC x).drop 21).take 6=[.w x.tok.sec,.b x.tok.act,.w x.tok.val,.i x.tok.per,sv x.tok.rp,.i x.tok.sin]:=rfl
theorem Nj(x:Dvp):((dvC x).drop 27).take 5=[.b x.nx.act,.i x.nx.sin,.w x.nx.hsh,.i x.nx.flg,.p x.nx.ids.pv]:=rfl
theorem m7(x:Dvp):∃cs:List PV,dvC x=cs.map .p:=⟨(dvC x).map unP,rfl⟩
theorem Fo(x:Dvp):iY (dvC x):=by
 have⟨cs,a⟩:=m7 x;rw[a];intro c hc;exact agN
@[simp] theorem Zr(T:List Nat)(x:Dvp):ak T (dvC x):=by have⟨cs,a⟩:=m7 x;rw[a];exact aM T cs
theorem ad4(i:Nat)(b:Blk)(x:Dvp):fJ i b (dvC x)=dvC x:=ej i b _ (Fo x)
theorem ad5(i:Nat)(b:Blk)(x:Dvp):eU i b (dvC x):=dx i b _ (Fo x)
theorem ad6(h:List (Nat×Option Blk))(x:Dvp):ik h (dvC x):=by have⟨cs,a⟩:=m7 x;rw[a];exact fc h cs
theorem ad7(h:List (Nat×Option Blk))(x:Dvp):fzL h (dvC x)=dvC x:=by have⟨cs,a⟩:=m7 x;rw[a];exact fX h cs
theorem ad8(h:bv)(S:List Nat)(σ:Nat->Nat)(x:Dvp):aj h S σ (dvC x) (dvC x):=by have⟨cs,a⟩:=m7 x;rw[a];exact aL h S σ cs
theorem ad9(τ:Nat->Nat)(x:Dvp):eu τ (dvC x)=dvC x:=by have⟨cs,a⟩:=m7 x;rw[a];exact cT τ cs
theorem aea(x y:Dvp):bY (dvC x) 0 (dvC y)=dvC y:=dG (dvC y) (dvC x) [] rfl
theorem Qr:pvs z41=dvC dv0:=rfl
attribute [go_sem]Nf Qm Ng adF adG adI adJ adM adN adO adP adQ adS adT adU adV adW adX adY adZ ad3 YB YF YH YJ YL YO YN YQ YR YS YT YU YV YW YX YY YZ Y0 Y1 Y4 Y5 Y6 Y9 Zb Zd Zf Zh Zk Zm Zp Qn Qo Qp Qq Nh Nj Fo ad4 ad5 ad6 ad7 ad8 ad9 aea Qr
def cq(n:Int):UInt64:=g' (n % 18446744073709551616).toNat
theorem ca(n:Int):q'.wrap n=((cq n).toNat:Int):=by
 rw[fY,cq,<-lX _ ω];omega
def ij(k:UInt64)(s:List UInt8)(n:Int):UInt64:=bA k 5 (s++[0]++an [cq n] 1)
theorem kn(x:UInt64):an [x] 1=dc x 8:=by simp[an]
theorem Ra:[AV.p (.v (.int .u8 0))]=cb [0]:=rfl
theorem Df(k:UInt64)(s:List UInt8)(n:Int)(hs:s.length<1000):FPure prog 115 [.w k,sv s,.i n] (.w (ij k s n)):=by
 refine ba f115 [0,1,2,6,7] ?_;intro c J a Y Z;simp only[go_sem,J,ca];simp only[dl,Ra,dX];refine⟨⟨ω,ω⟩,?_⟩;refine x_f Z (qf (cq n)) ?_;simp only[go_sem,J];simp only[dl,dX];refine⟨⟨ω,ω⟩,?_⟩
 first|refine df Y (ks:=[0,1,2,6,7]) (n:=2000) ?_ ?_ rfl (by rw[J];exact L4 k 4 (s++[0]++an [cq n] 1) (s.length+1+8) (by simp[am]) ω ε ε) (by simp only[go_sem,ax]) ?_|refine dg Y (ks:=[0,1,2,6,7]) (n:=2000) ?_ ?_ rfl (by rw[J];exact L4 k 4 (s++[0]++an [cq n] 1) (s.length+1+8) (by simp[am]) ω ε ε) (by simp only[go_sem,ax,ak,and_self]) ?_
 .exact ahP
 .simp only[go_sem,am,c7]
 simp only[go_sem];rfl
theorem nT(k:UInt64)(s:List UInt8)(n:Int)(hs:s.length<1000):FPure prog 64 [.w k,sv s,.i n] (.w (ij k s n)):=by
 refine ba f64 [0,1,2,6] ?_;intro c J a Y Z;simp only[go_sem,J,ca];simp only[dl,Ra,dX];refine⟨⟨ω,ω⟩,?_⟩;refine x_f Z (bI (cq n)) ?_;simp only[go_sem,J];simp only[dl,dX];refine⟨⟨ω,ω⟩,?_⟩
 first|refine df Y (ks:=[0,1,2,6]) (n:=2000) ?_ ?_ rfl (by rw[J];exact mQ k 4 (s++[0]++an [cq n] 1) (s.length+1+8) (by simp[am]) ω ε ε) (by simp only[go_sem,ax]) ?_|refine dg Y (ks:=[0,1,2,6]) (n:=2000) ?_ ?_ rfl (by rw[J];exact mQ k 4 (s++[0]++an [cq n] 1) (s.length+1+8) (by simp[am]) ω ε ε) (by simp only[go_sem,ax,ak,and_self]) ?_
 .exact ahP
 .simp only[go_sem,am,c7]
 simp only[go_sem];rfl
theorem qw(bs:List UInt8)(n:Nat)(k:bs.length=n)(l:n<=8):FPure prog 69 [.p (.data 1 n (bs.map bt))] (.w (aB bs n)):=by
 apply ba f69 [0,2,3,4,12];intro c J e Y Z;simp only[go_sem];refine ay Y e [0,2,3,4,12] n (fun i=>⟨24,[(0,.p (.data 1 n (bs.map bt))),(3,.w (aB bs i)),(4,.i i)],[],0⟩) [] (fun i=>i) ?_ ?_
 .exact aiC
 .intro i o;generalize b:aB bs i=m;rcases ea i n with a|a
  .simp only[go_sem,J,dS,kZ m 8 ε,pA,a,(ω:((i:Int)<8)),(ω:((i:Int)<(n:Int)))];have g:=ac i
   refine⟨ω,ω,eh rfl ?_ trivial rfl rfl (c7 _)⟩;simp only[go_sem,aB,b,g]
  .obtain rfl:i=n:=by omega
   have h1:¬((i:Int)<(i:Int)):=ω;subst b;rcases ea i 8 with j|j
   .simp only[go_sem,J,h1,(ω:((i:Int)<8))]
   .simp only[go_sem,(ω:¬((i:Int)<8))]
structure aO where
 mo:UInt64
 se:UInt64
 ps:Int
 fi:Bool
 ase:UInt64
 ah:Int
 af:Int
 ato:Int
 ce:List (List UInt8)
structure ItM where
 act:Bool
 sin:Int
 hsh:UInt64
 flg:Int
 ids:List (List UInt8)
structure aU where
 fac:aO
 v:Vt
 on:Bool
 now:Int
 boo:Int
 dr:Int
 wr:Int
 tok:Tok
 nx:ItM
def v8(f:aO):Fac:=⟨f.mo,f.se,f.ps,f.fi,f.ase,f.ah,f.af,f.ato,.d 1 f.ce.length (f.ce.map byP)⟩
def vtP(v:Vt):Vtp:=⟨v.j.ps,.d 1 v.j.bs.length (v.j.bs.map bt),v.j.page,v.j.gen,v.j.tail,v.j.torn,.d 2 v.prs.length (gB v.prs)⟩
def itP(x:ItM):Itn:=⟨x.act,x.sin,x.hsh,x.flg,.d 1 x.ids.length (x.ids.map byP)⟩
def bp(d:aU):Dvp:=⟨v8 d.fac,vtP d.v,d.on,d.now,d.boo,d.dr,d.wr,d.tok,itP d.nx⟩
section
variable (d : aU) (f : aO) (v : Vt) (x : ItM)
theorem Nk:(bp d).fac=v8 d.fac:=rfl
theorem aeb:(bp d).v=vtP d.v:=rfl
theorem Rb:(bp d).on=d.on:=rfl
theorem Nl:(bp d).now=d.now:=rfl
theorem Nm:(bp d).boo=d.boo:=rfl
theorem Rc:(bp d).dr=d.dr:=rfl
theorem Re:(bp d).wr=d.wr:=rfl
theorem Nn:(bp d).tok=d.tok:=rfl
theorem Rf:(bp d).nx=itP d.nx:=rfl
theorem aec:(v8 f).mo=f.mo:=rfl
theorem aed:(v8 f).se=f.se:=rfl
theorem aee:(v8 f).ps=f.ps:=rfl
theorem aef:(v8 f).fi=f.fi:=rfl
theorem Zs:(v8 f).ase=f.ase:=rfl
theorem aeg:(v8 f).ah=f.ah:=rfl
theorem aeh:(v8 f).af=f.af:=rfl
theorem Zt:(v8 f).ato=f.ato:=rfl
theorem aei:(v8 f).ce.pv = .data 1 f.ce.length (f.ce.map byP):=rfl
theorem aej:(vtP v).ps=v.j.ps:=rfl
theorem aek:(vtP v).bs.pv = .data 1 v.j.bs.length (v.j.bs.map bt):=rfl
theorem ael:(vtP v).pg=v.j.page:=rfl
theorem aem:(vtP v).gn=v.j.gen:=rfl
theorem aen:(vtP v).tl=v.j.tail:=rfl
theorem aeo:(vtP v).tn=v.j.torn:=rfl
theorem aep:(vtP v).pr.pv = .data 2 v.prs.length (gB v.prs):=rfl
theorem Zu:(itP x).act=x.act:=rfl
theorem Zv:(itP x).sin=x.sin:=rfl
theorem Zw:(itP x).hsh=x.hsh:=rfl
theorem Zx:(itP x).flg=x.flg:=rfl
theorem Zy:(itP x).ids.pv = .data 1 x.ids.length (x.ids.map byP):=rfl
end
attribute [go_sem] Nk aeb Rb Nl Nm Rc Re Nn Rf aec aed aee aef Zs aeg aeh Zt aei aej aek ael aem aen aeo aep Zu Zv Zw Zx Zy
abbrev bg(d:aU):AV := .agg (dvC (bp d))
def afh:aO:=⟨0,0,0,false,0,0,0,0,[]⟩
def it0:ItM:=⟨false,0,0,0,[]⟩
def tj:Tok:=⟨0,false,0,0,[],0⟩
def I6:aU:=⟨afh,vt0,false,0,0,0,0,tj,it0⟩
def kV(f:aO)(now:Int)(m:Fl):aU:=⟨f,⟨⟨m.ps,m.bs,0,0,0,false⟩,[]⟩,false,now,0,0,0,tj,it0⟩
theorem No(x:UInt64):q'.wrap ((x.toNat:Int)*2)=((x*2).toNat:Int):=by
 rw[fY,UInt64.toNat_mul];simp
theorem Np(x:UInt64)(n:Nat)(a:n<18446744073709551616):Int.tmod (x.toNat:Int) (n:Int)=((x % g' n).toNat:Int):=by
 rw[UInt64.toNat_mod,gr,ie (by omega:n<2^64)];rfl
abbrev wc(x:UInt64):UInt64:=x % g' 2305843009213693951
theorem Fp(x:UInt64):Int.tmod (x.toNat:Int) 2305843009213693951=((wc x).toNat:Int):=Np x 2305843009213693951 ε
def tk(n:UInt64)(j:Nat):Prop:=band .u64 ((fu n j).toNat:Int) 1=1
instance (n:UInt64)(j:Nat):Decidable (tk n j):=by unfold tk;infer_instance
def oq(a b:UInt64):Nat->UInt64
 |0=>0
 |k+1=>if tk b (60-k) then wc (wc (oq a b k*2)+a) else wc (oq a b k*2)
def m8(a b:UInt64):UInt64:=oq (wc a) (wc b) 61
theorem Fq(x:UInt64)(k:Nat)(h:k<=64):ishr .u64 (x.toNat:Int) (q'.wrap (k:Int))=((fu x k).toNat:Int):=by
 rw[ao ω ω,oz x (k:Int) χ];rfl
theorem Nq(a b:UInt64):FPure prog 192 [.w a,.w b] (.w (m8 a b)):=by
 unfold m8;apply ba f192 [0,1,4,5,6,12,23];intro c J e Y Z;simp only[go_sem,Fp];generalize wc a=a' at *;generalize wc b=b' at *;refine ay Y e [0,1,4,5,6,12,23] 61 (fun i=>⟨29,[(0,.w a'),(1,.w b'),(5,.w (oq a' b' i)),(6,.i (60-(i:Int)))],[],0⟩) [] (fun i=>i) ⟨rfl,?_,trivial,rfl,rfl,trivial,fun i h=>h⟩ ?_
 .simp only[go_sem,oq];exact⟨rfl,rfl⟩
 intro i g;rcases ea i 61 with h|h
 .have hw:p'.wrap (60-(i:Int)-1)=60-((i+1:Nat):Int):=by rw[ab ω ω];omega
  have hs:=Fq b' (60-i) ω;rw[(ω:((60-i:Nat):Int)=60-(i:Int))] at hs;have hm:oq a' b' (i+1)=if tk b' (60-i) then wc (wc (oq a' b' i*2)+a') else wc (oq a' b' i*2):=rfl;generalize oq a' b' i=x at *;generalize oq a' b' (i+1)=y at *;by_cases hb:tk b' (60-i)
  .rw[b9 hb] at hm;exact ahm
  .rw[b0 hb] at hm;exact ahm
 obtain rfl:i=61:=by omega
 simp only[go_sem,show¬((60:Int)-61>=0) from ε]
def j6(a n:UInt64):Nat->UInt64
 |0=>1
 |k+1=>if tk n (63-k) then m8 (m8 (j6 a n k) (j6 a n k)) a else m8 (j6 a n k) (j6 a n k)
def yD(a n:UInt64):UInt64:=j6 a n 64
theorem Nr(a n:UInt64):FPure prog 126 [.w a,.w n] (.w (yD a n)):=by
 unfold yD;apply ba f126 [0,1,4,5,6,8,19];intro c J j Y Z;simp only[go_sem];refine ay Y j [0,1,4,5,6,8,19] 64 (fun i=>⟨24,[(0,.w a),(1,.w n),(5,.w (j6 a n i)),(6,.i (63-(i:Int)))],[],0⟩) [] (fun i=>i) ⟨rfl,?_,trivial,rfl,rfl,trivial,fun i h=>h⟩ ?_
 .simp only[go_sem,j6];exact⟨rfl,rfl⟩
 intro i k;rcases ea i 64 with h|h
 .have g:p'.wrap (63-(i:Int)-1)=63-((i+1:Nat):Int):=by rw[ab ω ω];omega
  have hs:=Fq n (63-i) ω;rw[(ω:((63-i:Nat):Int)=63-(i:Int))] at hs;have e:j6 a n (i+1)=if tk n (63-i) then m8 (m8 (j6 a n i) (j6 a n i)) a else m8 (j6 a n i) (j6 a n i):=rfl;generalize j6 a n i=x at *;generalize j6 a n (i+1)=y at *;have h1:=Nq x x;have h2:=Nq (m8 x x) a;generalize m8 x x=z at *;generalize m8 z a=u at *;by_cases b:tk n (63-i)
  .rw[b9 b] at e;unfold tk at b;subst e;simp only[go_sem,(ω:(63-(i:Int)>=0))];apply aa Z h1;simp only[go_sem,J,hs,b];apply aa Z h2;simp only[go_sem,g];exact⟨h,eh rfl κ trivial rfl rfl (c7 _)⟩
  .rw[b0 b] at e;unfold tk at b;subst e;simp only[go_sem,(ω:(63-(i:Int)>=0))];apply aa Z h1;simp only[go_sem,J,hs,b,g];exact⟨h,eh rfl κ trivial rfl rfl (c7 _)⟩
 obtain rfl:i=64:=by omega
 simp only[go_sem,show¬((63:Int)-64>=0) from ε]
abbrev I7(s:UInt64):UInt64:=2+s % g' 2305843009213693948
theorem ta(s:UInt64):FPure prog 127 [.w s] (.w (I7 s)):=by
 have h1:=Np s 2305843009213693948 ε;have h2:=g6 2 (s % g' 2305843009213693948);unfold I7;generalize s % g' 2305843009213693948=y at *;apply ba f127 [0,2];intro c J a Y Z;simp only[go_sem];rw[show Int.tmod (s.toNat:Int) 2305843009213693948=(y.toNat:Int) from h1];exact h2
def Ay(s:UInt64):UInt64:=yD 37 (I7 s)
theorem fv(s:UInt64):FPure prog 52 [.w s] (.w (Ay s)):=by
 have h1:=ta s;unfold Ay;generalize I7 s=y at *;have h2:=Nr 37 y;generalize yD 37 y=z at *;apply ba f52 [0,2];intro c J a Y Z;simp only[go_sem];apply aa Z h1;simp only[go_sem];exact afV
structure WR where
 w:UInt64
 e:Int
def nU(s p:UInt64):WR:=if(p.toNat:Int)<2\/(p.toNat:Int)>2305843009213693949 then⟨0,9⟩ else⟨bA 12 0 (an [yD p (I7 s)] 1),0⟩
theorem yE(s p:UInt64):FPure prog 125 [.w s,.w p] (.tup [.w (nU s p).w,.i (nU s p).e]):=by
 have h1:=ta s;unfold nU;generalize I7 s=y at *;have h2:=Nr p y;generalize yD p y=z at *;have h3:=fS 12 (an [z] 1) 8 (am _ 1) ε ε ε;rw[show g' (12:Int).toNat=12 from rfl] at h3;generalize bA 12 0 (an [z] 1)=u at *;by_cases a:(p.toNat:Int)<2
 .rw[b9 (.inl a)];apply ba f125 [0,1,4,5,11];intro c J g Y Z;simp only[go_sem,a];rfl
 by_cases b:(p.toNat:Int)>2305843009213693949
 .rw[b9 (.inr b)];apply ba f125 [0,1,4,5,11];intro c J g Y Z;simp only[go_sem,a,b];rfl
 rw[b0 ω];apply ba f125 [0,1,4,5,11];intro c J g Y Z;simp only[go_sem,a,b];apply aa Z h1;simp only[go_sem];apply aa Z h2;refine θ ?_;refine x_f Z (bI z) ?_;exact ah5
theorem fk(ws:List UInt64)(n:Nat)(e:ws.length=n)(h1:1<=n)(g:n<1000000):Con prog 67 [.p (.data 1 n (ws.map wd))] [] (.sl 0 0 (8*n) 1) [(0,some ⟨bP,cb (an ws n)⟩)]:=by
 apply bn 0 f67 [0,2,3,4,5,9,13];intro c J b Y Z;have h0:∀i,c.ρ0 i≠none->False:=fun i a=>by cases b i a
 simp only[go_sem];apply aX bP;refine ay Y h0 [0,2,3,4,5,9,13] n (fun i=>⟨29,[(0,.p (.data 1 n (ws.map wd))),(3,.sl 0 0 (8*i) 1),(4,.i i)],[(0,some ⟨bP,cb (an ws i)⟩)],1⟩) [] (fun i=>i) ?_ ?_
 .exact ahe
 .intro i a;simp only[go_sem,J];split
  .exact afv
  .obtain rfl:i=n:=by omega
   refine lW [0] rfl ?_ ?_ rfl rfl (fun i a=>?_)
   .exact κ
   .exact agP
   .simp[liveK] at a;simp;omega
theorem GV(a:List UInt64)(n:Nat)(y:a.length=n)(h1:1<=n)(z:n<1000000):Con prog 84 [.p (.data 1 n (a.map wd))] [] (.sl 0 0 (8*n) 1) [(0,some ⟨bP,cb (an a n)⟩)]:=by
 apply bn 0 f84 [0,2,3,5,6,11,12,13,14,17,18];intro c J g Y Z;have s:∀i,c.ρ0 i≠none->False:=fun i e=>by cases g i e
 have t:p'.wrap (8*(n:Int))=((8*n:Nat):Int):=by rw[ab ω ω];omega
 simp only[go_sem,J,t];refine⟨⟨ω,ω,ω⟩,?_⟩;refine ay Y s [0,2,3,5,6,11,12,13,14,17,18] n (fun i=>⟨32,[(3,.sl 0 0 (8*i) 1),(11,.p (.data 1 n (a.map wd))),(12,.i n),(13,.i i)],[(0,some ⟨bP,cb (an a i)⟩)],1⟩) [] (fun i=>i) ?_ ?_
 .exact ahe
 .intro i e;by_cases k:i<n
  .have l:((i:Int)<(n:Int)):=ω;have m:=ac i
   simp only[go_sem,J,l,AO a i];refine⟨ω,ω,?_⟩;generalize u:a.getD i 0=w;refine ay Y s [0,2,3,5,6,11,12,13,14,17,18] 8 (fun j=>⟨32,[(3,.sl 0 0 (8*i+j) 1),(5,.w w),(11,.p (.data 1 n (a.map wd))),(12,.i n),(13,.i i),(17,.i j)],[(0,some ⟨bP,cb (an a i++dc w j)⟩)],1⟩) [] (fun i=>i) ?_ ?_
   .refine⟨rfl,?_,?_,rfl,rfl,trivial,fun i h=>h⟩
    .exact κ
     try simp
    .simp only[go_sem,dc,List.append_nil];exact aC _ _ _ _
   .intro j A;by_cases o:j<8
    .have b:((j:Int)<8):=ω;have q:p'.wrap (8*(j:Int))=((8*j:Nat):Int):=by rw[ab ω ω];omega
     have hs:p'.wrap (56-((8*j:Nat):Int))=((56-8*j:Nat):Int):=by rw[ab ω ω];omega
     have r:=ac j
     simp only[go_sem,J,b,q,hs,r,oz w ((56-8*j:Nat):Int) ω,aH,fZ];refine⟨ω,⟨by simp only[am,az],ω,ω⟩,o,aA [2] rfl ?_ ?_ rfl rfl (c7 _)⟩
     .exact aiM
     .simp only[go_sem,dc,List.append_assoc];exact aC _ _ _ _
    .obtain rfl:j=8:=by omega
     have b:¬(((8:Nat):Int)<8):=ω;simp only[go_sem,m];refine⟨k,aA [0] rfl ?_ ?_ rfl rfl (c7 _)⟩
     .simp only[go_sem,Nat.mul_add]
     .simp only[go_sem,an,u];exact aC _ _ _ _
  .obtain rfl:i=n:=by omega
   have l:¬((i:Int)<(i:Int)):=ω;simp only[go_sem,l];refine lW [0] rfl ?_ ?_ rfl rfl (fun i e=>?_)
   .exact κ
   .exact agP
   .simp[liveK] at e;simp;omega
end Go.Abs
namespace Go.Proofs
open Go.Shelf
def Tryz.laysValid_ren:Go.Shelf.Ren:=⟨fun|196=>145|259=>216|n=>n,fun|9=>9|4=>4|3=>3|5=>5|12=>12|119=>263|0=>0|46=>60|139=>266|138=>265|53=>24|n=>n,fun|3=>0|4=>1|n=>n⟩
theorem Tryz.laysValid:Go.Proofs.Lays.n196 Tryz.prog Tryz.laysValid_ren:={
 mixed:=by kernel_rfl
 f196:=Tryz.func145.trans (congrArg some π)
 f259:=Tryz.func216.trans (congrArg some π)
 t0:=Tryz.underlying0
 a0:=Tryz.isAgg0
 z0:=Tryz.sizeOf0
 v0:=Tryz.zeroValue0
 t3:=Tryz.underlying3
 a3:=Tryz.isAgg3
 z3:=Tryz.sizeOf3
 v3:=Tryz.zeroValue3
 t4:=Tryz.underlying4
 a4:=Tryz.isAgg4
 z4:=Tryz.sizeOf4
 v4:=Tryz.zeroValue4
 t5:=Tryz.underlying5
 a5:=Tryz.isAgg5
 z5:=Tryz.sizeOf5
 v5:=Tryz.zeroValue5
 t9:=Tryz.underlying9
 a9:=Tryz.isAgg9
 z9:=Tryz.sizeOf9
 v9:=Tryz.zeroValue9
 t12:=Tryz.underlying12
 a12:=Tryz.isAgg12
 z12:=Tryz.sizeOf12
 v12:=Tryz.zeroValue12
 t46:=Tryz.underlying60
 a46:=Tryz.isAgg60
 z46:=Tryz.sizeOf60
 v46:=Tryz.zeroValue60
 t53:=Tryz.underlying24
 a53:=Tryz.isAgg24
 z53:=Tryz.sizeOf24
 v53:=Tryz.zeroValue24
 t119:=Tryz.underlying263
 a119:=Tryz.isAgg263
 z119:=Tryz.sizeOf263
 t138:=Tryz.underlying265
 a138:=Tryz.isAgg265
 z138:=Tryz.sizeOf265
 v138:=Tryz.zeroValue265
 t139:=Tryz.underlying266
 a139:=Tryz.isAgg266
 z139:=Tryz.sizeOf266
 v139:=Tryz.zeroValue266
 g3:=by kernel_rfl
 g4:=by kernel_rfl}
end Go.Proofs
namespace Go.Abs
open RowKit Proofs Proofs.Tryz
section
open Go.Shelf
abbrev okU(s:List UInt8):Bool:=Lib.validD s
theorem I8:∀c:_root_.Fin 256,(Jw[c.val]?).map (fun(n:Nat)=>(n:Int))=some (Lib.firstT c.val):=by decide +kernel
def Zz:List Nat:=[128,191,160,191,128,159,144,191,128,143]++h' 22 0
theorem we:pB=Zz.map fun(n:Nat)=>Value.int .u8 (n:Int):=rfl
theorem GW:∀i:_root_.Fin 16,(Zz[2*i.val]?).map (fun(n:Nat)=>(n:Int))=some (Lib.accLo i.val)/\(Zz[2*i.val+1]?).map (fun(n:Nat)=>(n:Int))=some (Lib.accHi i.val):=by decide +kernel
theorem ZA{l:List Nat}{j:Nat}{n:Int}(h:(l[j]?).map (fun(n:Nat)=>(n:Int))=some n):(l.map fun(n:Nat)=>Value.int .u8 (n:Int))[j]?=some (.int .u8 n):=by
 rw[nL] at h;obtain⟨a,ha,rfl⟩:=h;simp[ha]
theorem GX{F:aK}{w:World}(h:GlobOk F w):Lib.Utf8Tabs 0 1 w:=by
 have h1:=(h 0 qV rfl).2;have h2:=(h 1 pB rfl).2;refine⟨fun c b=>(h1 c _ (ZA (I8 ⟨c,b⟩))).2,fun i a=>⟨(h2 _ _ ?_).2,(h2 _ _ ?_).2⟩⟩
 .rw[we];exact ZA (GW ⟨i,a⟩).1
 .rw[we];exact ZA (GW ⟨i,a⟩).2
theorem bW(s:List UInt8)(hs:s.length<1000000):FPure prog 145 [sv s] (.b (okU s)):=by
 intro q;refine⟨fun ρ F us w hpre g m=>?_⟩;have o:=m 0 _ rfl;obtain⟨u,rfl⟩:∃x,us=#[x]:=by
  have⟨l⟩:=us
  match l,g with
  |[x],_=>exact⟨x,rfl⟩
 have hv:u = .string ⟨s.toArray⟩:=Rd.pv o;subst hv;have a:(⟨s.toArray⟩:ByteArray).size=s.length:=by simp[ByteArray.size]
 have p:Calls prog 145 #[.string ⟨s.toArray⟩] w _:=Any.utf8_ValidString laysValid ⟨s.toArray⟩ w (by rw[a];omega) (GX hpre.glob);refine .inl ⟨enters_of func145 π rfl _ _,p.mono ?_⟩;exact afC
end
end Go.Abs
namespace Go.Proofs
open Go.Shelf
def Tryz.laysWeak_ren:Go.Shelf.Ren:=⟨fun|195=>333|197=>334|260=>366|n=>Tryz.laysValid_ren.f n,fun|21=>21|105=>403|n=>Tryz.laysValid_ren.t n,Tryz.laysValid_ren.g⟩
theorem Tryz.laysRc:Go.Proofs.Lays.n195 Tryz.prog Tryz.laysWeak_ren :=
 let L:=Tryz.laysValid
 { mixed:=L.mixed
   f195:=Tryz.func333.trans (congrArg some π)
   t0:=L.t0,a0:=L.a0,z0:=L.z0,v0:=L.v0,t3:=L.t3,a3:=L.a3,z3:=L.z3,v3:=L.v3,t4:=L.t4,a4:=L.a4,z4:=L.z4,v4:=L.v4,t9:=L.t9,a9:=L.a9,z9:=L.z9,v9:=L.v9}
theorem Tryz.laysDr:Go.Proofs.Lays.n197 Tryz.prog Tryz.laysWeak_ren :=
 let L:=Tryz.laysValid
 { mixed:=L.mixed
   f197:=Tryz.func334.trans (congrArg some π)
   f260:=Tryz.func366.trans (congrArg some π)
   t0:=L.t0,a0:=L.a0,z0:=L.z0,v0:=L.v0,t3:=L.t3,a3:=L.a3,z3:=L.z3,v3:=L.v3,t4:=L.t4,a4:=L.a4,z4:=L.z4,v4:=L.v4,t5:=L.t5,a5:=L.a5,z5:=L.z5,v5:=L.v5,t9:=L.t9,a9:=L.a9,z9:=L.z9,v9:=L.v9,t46:=L.t46,a46:=L.a46,z46:=L.z46,v46:=L.v46,t119:=L.t119,a119:=L.a119,z119:=L.z119,t138:=L.t138,a138:=L.a138,z138:=L.z138,v138:=L.v138,t139:=L.t139,a139:=L.a139,z139:=L.z139,v139:=L.v139,g3:=L.g3,g4:=L.g4
   t21:=Tryz.underlying21
   a21:=Tryz.isAgg21
   z21:=Tryz.sizeOf21
   v21:=Tryz.zeroValue21
   t105:=Tryz.underlying403
   a105:=Tryz.isAgg403
   z105:=Tryz.sizeOf403
   v105:=Tryz.zeroValue403}
end Go.Proofs
namespace Go.Abs
open RowKit Proofs Proofs.Tryz
section
open Go.Shelf
def yF(s:ByteArray)(r:Nat):Nat->Nat->Bool->Bool
 |0,_,q=>q
 |b+1,pos,q=>if pos<s.size then(if(Utf8.decode s pos).1=0 then true else yF s r b (pos+(Utf8.decode s pos).2) (q&&decide ((Utf8.decode s pos).1=r))) else q
theorem I9(s:ByteArray)(r b a:Nat)(q:Bool)(h:¬a<s.size):yF s r b a q=q:=by
 cases b with
 |zero=>rfl
 |succ b=>simp[yF,h]
def GY(s:ByteArray):Bool:=if s.size<4 then true else if 63<s.size then true else if Lib.validD s.data.toList=false then true else if Lib.runeCount s<4 then true else yF s (Lib.decodeGo s).1 s.size 0 true
abbrev Rg(w:World):Prop:=Lib.Utf8Tabs 0 1 w
theorem Fr(s:ByteArray)(w:World)(hs:s.size<1000000)(G:Rg w) :
 Calls prog 279 #[.string s] w fun e w'=>e = .returned (.bool (GY s))/\Below w.heap.size w w':=by
 have y:Calls prog 145 #[.string s] w _:=Any.utf8_ValidString laysValid s w ω G;have H:∀w1,Calls prog 333 #[.string s] w1 _:=fun w1=>Any.utf8_RuneCountInString Tryz.laysRc s w1 ω
 have P:∀l,Rg l->Calls prog 334 #[.string s] l _:=fun l h=>Any.utf8_DecodeRuneInString Tryz.laysDr s l h
 obtain⟨B,c⟩:∃B,GY s=B:=⟨_,rfl⟩;rw[c];unfold GY at c;generalize Lib.validD s.data.toList=V at *;generalize Lib.runeCount s=C at *;generalize Lib.decodeGo s=R at *;by_cases I:s.size<4
 .rw[b9 I] at c;subst c;have z:(s.size:Int)<4:=ω
  go_enter func279,ntmps279
  go_wp2
  go_ret
  exact⟨rfl,Below.refl _ _⟩
 rw[b0 I] at c;have z:¬(s.size:Int)<4:=ω;by_cases K:63<s.size
 .rw[b9 K] at c;subst c;have A:(s.size:Int)>63:=ω
  go_enter func279,ntmps279
  go_wp2
  go_ret
  exact⟨rfl,Below.refl _ _⟩
 rw[b0 K] at c;have A:¬(s.size:Int)>63:=ω;cases V with
 |false =>
  rw[b9 rfl] at c;subst c
  go_enter func279,ntmps279
  go_wp2_with (go_at_call 145;refine y.mono ?_;rintro e w' ⟨rfl,m⟩)
  go_ret
  exact⟨rfl,m⟩
 |true =>
 rw[b0 ε] at c;by_cases L:C<4
 .rw[b9 L] at c;subst c;have D:(C:Int)<4:=ω
  go_enter func279,ntmps279
  go_wp2_with (first|(go_at_call 145;refine y.mono ?_;rintro e w' ⟨rfl,m⟩)|(go_at_call 333;refine(H _).mono ?_;rintro e l ⟨rfl,a,rfl⟩))
  go_ret
  exact⟨rfl,m.alloc (by have:=m.size;omega) _⟩
 rw[b0 L] at c;have D:¬(C:Int)<4:=ω;have o:∀{w1 g:World} {p0:Nat},Below w.heap.size w w1->Below (w1.iter s p0).heap.size (w1.iter s p0) g->∀p,Below w.heap.size w (g.iter s p):=by
  intro w1 g p0 h1 Q p;have E:w1.heap.size<=(w1.iter s p0).heap.size:=by show _<=(w1.heap.push _).size;rw[Array.size_push];omega
  have h2:Below w.heap.size w (w1.iter s p0):=h1.alloc h1.size _;have M:Below w.heap.size w g:=h2.trans (Q.mono (n' h1.size E));exact M.alloc M.size _
 go_enter func279,ntmps279
 go_wp2_with (first|(go_at_call 145;refine y.mono ?_;rintro e w1 ⟨rfl,j⟩)|(go_at_call 333;refine(H _).mono ?_;rintro e l ⟨rfl,p0,rfl⟩)|(go_at_call 334;refine(P _ (Utf8Tabs_below (Utf8Tabs_below G j) ((Below.refl _ _).alloc (c7 _) _))).mono ?_;rintro e g ⟨rfl,r⟩))
 go_loopw [5] (fun n w'=>∃(a b:Nat) (q:Bool),w'=g.iter s a/\n = .bool q/\yF s R.1 b a q=B/\s.size<=a+b) (fun _ w'=>s.size-w'.iterPos g.heap.size)
 case atStart=>exact⟨0,s.size,true,rfl,rfl,c,ω⟩
 case round =>
  obtain⟨a,b,q,rfl,rfl,i,m⟩:=hrel;by_cases t:a<s.size
  .have F:∀ty,(Instr.next (.pointer (some ⟨g.heap.size,0,none⟩)) true ty).run prog (g.iter s a)=_:=fun ty=>run_next_any g s a ty t
   have S:=Lib.decode_width_pos s a t;obtain⟨b,rfl⟩:∃k,b=k+1:=⟨b-1,ω⟩
   rw[yF,b9 t] at i;by_cases N:(Utf8.decode s a).1=0
   .rw[b9 N] at i;subst i
    go_wp2
    go_ret
    exact⟨rfl,o j r _⟩
   .rw[b0 N] at i;have T:¬((Utf8.decode s a).1:Int)=0:=ω;by_cases O:(Utf8.decode s a).1=R.1
    .have u:((Utf8.decode s a).1:Int)=(R.1:Int):=ω;cases q
     .go_wp2
      go_roundw
      case rel=>exact⟨_,b,_,rfl,rfl,by simpa using i,ω⟩
      case measure =>
       simp;omega
     .go_wp2
      go_roundw
      case rel=>exact⟨_,b,_,rfl,rfl,by simpa[O] using i,ω⟩
      case measure =>
       simp;omega
    .have u:¬((Utf8.decode s a).1:Int)=(R.1:Int):=ω;cases q
     .go_wp2
      go_roundw
      case rel=>exact⟨_,b,_,rfl,rfl,by simpa using i,ω⟩
      case measure =>
       simp;omega
     .go_wp2
      go_roundw
      case rel=>exact⟨_,b,_,rfl,rfl,by rw[show(((Utf8.decode s a).1:Int)==(R.1:Int))=false from beq_eq_false_iff_ne.2 u];simpa[O] using i,ω⟩
      case measure =>
       simp;omega
  .have F:∀ty,(Instr.next (.pointer (some ⟨g.heap.size,0,none⟩)) true ty).run prog (g.iter s a)=_:=fun ty=>run_next_end g s a ty t
   go_wp2
   go_ret
   rw[I9 s _ b a q t] at i;subst i;exact⟨rfl,o j r _⟩
theorem GZ(s:List UInt8)(hs:s.length<1000000):∃q,FPure prog 279 [sv s] (.b q):=by
 refine⟨GY ⟨s.toArray⟩,?_⟩;intro r;refine⟨fun ρ F us w hpre g m=>?_⟩;have o:=m 0 _ rfl;obtain⟨u,rfl⟩:∃x,us=#[x]:=by
  have⟨l⟩:=us
  match l,g with
  |[x],_=>exact⟨x,rfl⟩
 have hv:u = .string ⟨s.toArray⟩:=Rd.pv o;subst hv;have a:(⟨s.toArray⟩:ByteArray).size=s.length:=by simp[ByteArray.size]
 have p:=Fr ⟨s.toArray⟩ w (by rw[a];omega) (GX hpre.glob);refine .inl ⟨enters_of func279 π rfl _ _,p.mono ?_⟩;exact afC

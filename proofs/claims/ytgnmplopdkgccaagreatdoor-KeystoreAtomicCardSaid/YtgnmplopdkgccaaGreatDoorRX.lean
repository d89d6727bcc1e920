/- own work: steps of the proof -/
import Derived.Test.YtgnmplopdkgccaaGreatDoorRD
import Derived.Test.YtgnmplopdkgccaaGreatDoorRE
set_option linter.all false
set_option maxRecDepth 100000
set_option maxHeartbeats 4000000
open Go.IntKind renaming i64→a'
namespace Go.Abs
open RowKit Proofs Proofs.Tryz
theorem qF{f:aO}{G:Int}{r:RqM}{gs:List (Int×Int)}{w:Wkp}(h:W f G r gs w)(m:gs.length<1000000)(v:Bool):∃w' c,W f G r gs w'/\((w'.er=0->w.er=0)/\w'.rep=w.rep) /\
 Con prog 263 [.ptr 0 0,.b v] (wB w) (.agg (rR c)) (wB w'):=by
 by_cases a:w.er=0
 case neg =>
  refine⟨w,⟨false,false,0,0⟩,h,⟨id,rfl⟩,?_⟩;apply bn 1 f263 [0,1,4,5,6,11,34];intro c J p Y Z;simp only[go_sem,J,a];exact Φ
 obtain⟨d,h1,h2,u⟩:=h.d;have n:=h2 a;obtain⟨R,s,q⟩:=MW d.now n.now d.fac.fi v gs m;have hg:=h.g;by_cases l:R.e=0
 .have o:=h.setd {d with now:=R.tm} (n.upd rfl rfl (s l) n.ids rfl);have j:=qm {w with d:={bp d with now:=R.tm} } a;refine⟨_,R,o,⟨fun _=>a,rfl⟩,?_⟩;apply bn 1 f263 [0,1,4,5,6,11,34];intro c J p Y Z;simp only[go_sem,J,a,h1,hg];apply aa Z q;simp only[go_sem,J,l,h1];refine⟨π,?_⟩;refine x_k Z 3 j ?_;exact agL
 .have j:=aW w R.e;have t:bG w.er R.e=R.e:=by unfold bG;rw[b9 a]
  refine⟨_,R,h.fail R.e,⟨fun _=>a,rfl⟩,?_⟩;rw[t] at j⊢;rw[qi l] at j;apply bn 1 f263 [0,1,4,5,6,11,34];intro c J p Y Z;simp only[go_sem,J,a,h1,hg];apply aa Z q;simp only[go_sem,J,l];refine⟨π,?_⟩;refine x_k Z 3 j ?_;simp only[go_sem,J];exact Φ
theorem Dq{f:aO}{d:aU}{G:Int}(h:DOn f d G):DOn f (l5 d) G:=h.upd rfl rfl h.now h.ids rfl
theorem W.draw{f:aO}{G:Int}{r:RqM}{gs:List (Int×Int)}{w:Wkp}(h:W f G r gs w)(e:w.er=0):∃w' y,W f G r gs w'/\w'.er=0/\w'.rep=w.rep/\Con prog 267 [.ptr 0 0] (wB w) (.w y) (wB w'):=by
 obtain⟨d,h1,h2,g⟩:=h.d;have a:=h2 e;exact⟨_,_,h.setd (l5 d) (Dq a),e,rfl,P8 w d h1 a.vl a.st.b a.st.m⟩
theorem dw{f:aO}{G:Int}{r:RqM}{gs:List (Int×Int)}{w:Wkp}(h:W f G r gs w):∃w' y,W f G r gs w'/\(w'.er=0->w.er=0) /\
 Con prog 277 [.ptr 0 0] (wB w) (.w y) (wB w'):=by
 by_cases a:w.er=0
 case neg =>
  refine⟨w,0,h,id,?_⟩;apply bn 1 f277 [0,2,3,4,9,27];intro c J l Y Z;simp only[go_sem,J,a];exact Φ
 obtain⟨d,h1,h2,u⟩:=h.d;have v:=h2 a;have hs:=yE d.tok.sec r.pe;have m:=h.r;generalize nU d.tok.sec r.pe=R at *;by_cases j:R.e=0
 .have g:=qm w a;obtain⟨w1,y,n,p,k3,k4⟩:=h.draw a;obtain⟨o,q,s,x⟩:=n.d;have b:=s p;refine⟨_,R.w,n.setd {o with tok:={o.tok with sec:=y} } (b.upd rfl rfl b.now b.ids rfl),fun _=>a,?_⟩;apply bn 1 f277 [0,2,3,4,9,27];intro c J l Y Z;refine alg ?_;simp only[go_sem,J];refine x_k Z 1 k4 ?_;simp only[go_sem,J];refine aq [0] rfl ?_ ?_ rfl rfl (fun i hi=>by simp at hi;subst hi;exact⟨rfl,ξ⟩) (fun i hi=>by simp[liveK] at hi;simp;omega)
  .simp only[go_sem]
  .rw[q];simp only[go_sem];exact l7 _ _ _ _
 .have g:=aW w R.e;have t:bG w.er R.e=R.e:=by unfold bG;rw[b9 a]
  refine⟨_,0,h.fail R.e,fun _=>a,?_⟩;rw[t] at g⊢;rw[qi j] at g;apply bn 1 f277 [0,2,3,4,9,27];intro c J l Y Z;refine alg ?_;simp only[go_sem,J];exact Φ
theorem wv{f:aO}{d:aU}{G:Int}(h:DOn f d G):FPure prog 258 [bg d] (.agg (AB (tr d))):=ZD d h.vl h.st.p
theorem lU{f:aO}{G:Int}{r:RqM}{gs:List (Int×Int)}{w:Wkp}(h:W f G r gs w)(g:aP r):∃w',W f G r gs w'/\((w'.er=0->w.er=0)/\w'.rep=w.rep) /\
 Con prog 286 [.ptr 0 0] (wB w) (.b (decide (w'.er=0))) (wB w'):=by
 have j:=h.r;cases ha:r.ha with
 |true =>
  obtain⟨w1,b,e,a,-,k3⟩:=iA h g 4 [];refine⟨w1,e,a,?_⟩;apply bn 1 f286 [0,2,8];intro c J l Y Z;simp only[go_sem,J,j,ha];exact agz
 |false =>
  have m:=aW w 23;obtain⟨w1,b,e,a,-,k3⟩:=iA (h.fail 23) g 4 [];refine⟨w1,e,⟨fun n=>Av (a.1 n),a.2⟩,?_⟩;generalize({w with er:=bG w.er 23}:Wkp)=w2 at *;apply bn 1 f286 [0,2,8];intro c J l Y Z;simp only[go_sem,J,j,ha];refine x_k Z 1 m ?_;simp only[go_sem,J];exact agz
theorem tT(n:Int):∃x:UInt8,FPure prog 282 [.i n] (.agg [.i 4,.p (.data 1 1 ([x].map bt))]):=by
 refine⟨u8i n,?_⟩;apply ba f282 [0,2];intro c J a Y Z;simp only[go_sem,J];simp only[u8i,u8w]
mutual
theorem r6(τ:Nat->Nat):∀(v:AV),ax [] v->renA τ v=v
 |.p _,_=>by simp[renA]
 |.ptr _ _,h=>by simp[ax] at h
 |.sl _ _ _ _,h=>by simp[ax] at h
 |.cp _,_=>by simp[renA]
 |.agg vs,h=>by simp only[renA];rw[kW τ vs h]
 |.tup vs,h=>by simp only[renA];rw[kW τ vs h]
 |.iface _ x,h=>by simp only[renA];rw[r6 τ x h]
 |.fn _ xs ys,h=>by simp only[renA];rw[kW τ xs h.1,kW τ ys h.2]
 |.mp _,h=>by simp[ax] at h
 |.any,_=>by simp[renA]
theorem kW(τ:Nat->Nat):∀(vs:List AV),ak [] vs->eu τ vs=vs
 |[],_=>by simp[eu]
 |v::vs,h=>by simp only[eu];rw[r6 τ v h.1,kW τ vs h.2]
end
section
variable {f : FuncId} {G : Prop} {ks : List Nat} {c : Ctx} {E : AS → Prop} {st : AS} {d : Option Nat} {H : List FP → AS → Prop} (hK : XK prog ks c E) {us : List AV} {k : Nat} [i : IsC G c E ks f (.ptr k 0 :: us) st d H]
include hK
theorem x_w{l b:List AV}{v:AV}{w w':Wkp}(m:Con prog f (.ptr 0 0::l) (wB w) v (wB w'))
 (h:H [(k::dj us,k::dj us)] (eff st d v ((k,some ⟨wkT,wkC w'⟩)::fg (dj us)) st.nx))
 (e:fzL st.hp us=b:=by first|(simp only[go_sem];rfl)|rfl) (n:b=l:=by rfl) (ho:ik st.hp us:=by simp only[go_sem])
 (o:hget st.hp k=some ⟨wkT,wkC w⟩:=by rfl) (p:ll (dj us) k=false:=by rfl)
 (a:dm st.nx (k::dj us)=true:=by rfl) (hv:ax [] v:=by simp[ax,ak]) (j:ax [0] v:=by simp[ax,ak]):G:=by
 subst n;have q:dm st.nx (dj us)=true:=by
  simp only[dm] at a;split at a
  .exact a
  .cases a
 have h1:iU (hget st.hp) (dj us) (fun i=>if i=0 then k else i+st.nx) (wB w):=by
  refine⟨⟨by simpa using p,?_⟩,trivial⟩;simp only[if_true,o];exact⟨rfl,l7 _ _ _ _⟩
 refine Hg hK (dj us) (fun i=>if i=0 then k else i+st.nx) st.nx m ⟨?_,h1,rfl,nj (jk _ _ ho),c7 _,fun i g => .inl (by simp[keys] at g;simp[liveK,g]),j,by simp[bV,ak,keys],q⟩ (by simpa[liveK] using a) ?_
 .simp only[aj,aS,if_true,true_and];rw[<-e];exact kX _ _ _ us (fun i g=>g) ho
 .rw[r6 _ _ hv];have r:renU (fun i=>if i=0 then k else i+st.nx) (wB w')=[(k,some ⟨wkT,wkC w'⟩)]:=by
   simp only[renU,ML,if_true]
   done
  rw[r,uO,mr];exact h
end
theorem Dr{f:aO}{G:Int}{r:RqM}{gs:List (Int×Int)}{w:Wkp}(h:W f G r gs w)(g:w.er=0)(s:List UInt8)(hs:s.length<2000):∃b:List UInt8,b.length=8 /\
 Con prog 281 [.ptr 0 0,sv s] (wB w) (.agg [.i 3,.p (.data 1 8 (b.map bt))]) (wB w):=by
 obtain⟨d,h1,h2,o⟩:=h.d;have e:=h2 g;have j:=ja d e.vl e.st.m;have l:=pl s hs;have n:=tb (gp (vgetM 1 d.v.prs)) (bA 8 0 s);generalize Nw (gp (vgetM 1 d.v.prs)) (bA 8 0 s)=y at *;refine⟨an [y] 1,am _ 1,?_⟩;apply bn 1 f281 [0,1,4];intro c J q Y Z;simp only[go_sem,J,h1];refine akZ ?_;apply aa Z l;simp only[go_sem,J];apply aa Z n;simp only[go_sem,J];refine x_f Z (bI y) ?_;simp only[go_sem,J];refine aq [0] rfl ?_ ?_ rfl rfl (fun i a=>by simp at a;subst a;exact⟨rfl,ξ⟩) (fun i a=>by simp[liveK] at a;simp;omega)
 .simp only[go_sem]
 .simp only[go_sem]
  done
theorem ww{f:aO}{G:Int}{r:RqM}{gs:List (Int×Int)}{w:Wkp}(h:W f G r gs w)(o:w.er=0)(I:G<1000000)(y:UInt64):∃w',W f (G+1) r gs w' /\
 Con prog 284 [.ptr 0 0,.w y] (wB w) (.tup []) (wB w'):=by
 obtain⟨d,h1,h2,R⟩:=h.d;have K:=h2 o;have j:=wv K;have s:=Jg (tr d);generalize tr d=p at *;generalize qy p=C at *;by_cases t:C.e=0
 case neg =>
  have g:=aW w C.e;have L:bG w.er C.e=C.e:=by unfold bG;rw[b9 o]
  refine⟨_,(h.fail C.e).mono ω,?_⟩;rw[L] at g⊢;rw[qi t] at g;apply bn 1 f284 [0,1,4,5,6,26];intro c J B Y Z;simp only[go_sem,J,h1];refine akZ ?_;apply aa Z s;simp only[go_sem,J];refine x_w Z g ?_;simp only[go_sem,J];exact Φ
 have g:=qm w o;obtain⟨x,D⟩:=tT C.p.rt;obtain⟨w1,u,T,k3⟩:=jH h I [(4,[x])] (fun p j=>by rw[n4.1 j];exact⟨(by show 1<1000;decide),fun h=>(by cases h),(by show(4:Int)≠2;decide),fun i _ h=>(by have:(4:Int)=64+(i:Int):=h;omega),fun h=>(by cases h)⟩) η 1 _ (.inl rfl) rfl;by_cases b:w1.er=0
 case neg =>
  rw[qi b] at k3;refine⟨w1,u,?_⟩;apply bn 1 f284 [0,1,4,5,6,26];intro c J B Y Z;refine alw ?_;refine x_w Z k3 ?_;simp only[go_sem,J];exact Φ
 rw[p4 (fun c=>c b)] at k3;obtain⟨l,F,M,U⟩:=u.d;have a:=M b;have N:=ja l a.vl a.st.m;have O:=tb (gp (vgetM 1 l.v.prs)) y;generalize gp (vgetM 1 l.v.prs)=mk at *;generalize Nw mk y=z at *;obtain⟨q,P⟩:∃q,((z.toNat:Int)==(C.p.chk.toNat:Int))=q:=⟨_,rfl⟩
 have A:=Jh C.p q;generalize qz C.p q=S at *;have Q:=u.setd {l with wr:=S.p.wr} (a.upd rfl rfl a.now a.ids rfl);have n:=aW {w1 with d:={bp l with wr:=S.p.wr} } S.e;simp only[Nk,aeb,Rb,Nl,Nm,Rc,Re,Nn,Rf] at n;refine⟨_,Q.fail S.e,?_⟩;apply bn 1 f284 [0,1,4,5,6,26];intro c J B Y Z;refine alw ?_;refine x_w Z k3 ?_;simp only[go_sem,J,F];apply aa Z N;simp only[go_sem,J];apply aa Z O;simp only[go_sem,J,P];apply aa Z A;simp only[go_sem,J,F];refine⟨π,?_⟩;refine x_w Z n ?_;exact agL
theorem Ds{a b c e:List AV}(h:cy a b)(k:cy c e):cy (a++c) (b++e):=by
 induction a generalizing b with
 |nil =>
  cases b with
  |nil=>exact k
  |cons x b=>simp[cy] at h
 |cons x a g =>
  cases b with
  |nil=>simp[cy] at h
  |cons y b =>
   simp only[cy,List.cons_append] at h⊢;exact⟨h.1,g h.2⟩
theorem Rh(h:bv)(S:List Nat)(σ:Nat->Nat)(x y:Wkp)(b:cy (dvC x.d) (dvC y.d))(h1:y.r=x.r)(h2:y.g=x.g)(e:y.bu=x.bu)(j:y.rep=x.rep)(l:y.er=x.er):aj h S σ (wkC x) (wkC y):=by
 have a:cy (wkC x) (wkC y):=by
  rw[rQ,rQ,h1,h2,e,j,l];exact Ds b (av _)
 obtain⟨cs,m⟩:=o6 y;rw[m] at a⊢;exact AE h S σ _ _ a
theorem Ri(x:Dvp):cy (dvC {x with nx:=itP it0}) (dvC {x with nx:=⟨false,0,0,0,.nil⟩}) :=
 mJ {x with nx:=⟨false,0,0,0,.nil⟩} x.fac.ce x.v.bs x.v.pr (.d 1 0 []) (cY _) (cY _) (cY _) ⟨rfl,rfl⟩
def bgE(d:aU)(now:Int)(r:RqM)(kind:Int):Int :=
 if d.on=false then 17 else if now<0\/now>1099511627776 then 9 else if¬r.kd=kind then 3 else l8 r
def bgD(d:aU)(now kind:Int):aU:={d with now:=if d.now<now then now else d.now,nx:=if kind=4 then d.nx else it0}
def bgW(d:aU)(now:Int)(r:RqM)(gs:List (Int×Int))(bu kind:Int):Wkp:=⟨bp (bgD d now kind),rqP r,.d 2 gs.length (gsP gs),bu,rp0,0⟩
def ajV:List Nat:=[0,1,2,3,4,5,6,8,12,13,14,17,21,28,34,42]
attribute[go_sem]ajV
theorem dD(d:aU)(now:Int)(r:RqM)(n:aP r)(gs:List (Int×Int))(bu a:Int)(m:¬bgE d now r a=0) :
 FPure prog 257 [bg d,.i now,rqA r,gsA gs,.i bu,.i a] (.tup [.p (.v (.pointer none)),.i (bgE d now r a)]):=by
 have hv:=j5 r n;obtain⟨R,e⟩:∃R,bgE d now r a=R:=⟨_,rfl⟩
 rw[e] at m⊢;unfold bgE at e;cases b:d.on with
 |false =>
  rw[b9 b] at e;subst e;apply ba f257 ajV;intro c J h Y Z;simp only[go_sem,J,b]
 |true =>
 rw[b0 (by rw[b];decide)] at e;by_cases g:now<0
 .rw[b9 (.inl g)] at e;subst e;apply ba f257 ajV;intro c J h Y Z;simp only[go_sem,J,b,g]
 by_cases j:now>1099511627776
 .rw[b9 (.inr j)] at e;subst e;apply ba f257 ajV;intro c J h Y Z;simp only[go_sem,J,b,g,j]
 rw[b0 ω] at e;by_cases l:r.kd=a
 case neg =>
  rw[b9 l] at e;subst e;apply ba f257 ajV;intro c J h Y Z;simp only[go_sem,J,b,g,j,l]
 rw[b0 (fun c=>c l)] at e;rw[e] at hv;apply ba f257 ajV;intro c J h Y Z;simp only[go_sem,J,b,g,j,sy l];apply aa Z hv;simp only[go_sem,J,m]
theorem eC(d:aU)(now:Int)(r:RqM)(o:aP r)(gs:List (Int×Int))(bu a:Int)(b:bgE d now r a=0) :
 Con prog 257 [bg d,.i now,rqA r,gsA gs,.i bu,.i a] [] (.tup [.ptr 0 0,.i 0]) (wB (bgW d now r gs bu a)):=by
 have hv:=j5 r o;unfold bgE at b;cases e:d.on with
 |false=>rw[b9 e] at b;cases b
 |true =>
 rw[b0 (by rw[e];decide)] at b;by_cases l:now<0
 .rw[b9 (.inl l)] at b;cases b
 by_cases m:now>1099511627776
 .rw[b9 (.inr m)] at b;cases b
 rw[b0 ω] at b;by_cases j:r.kd=a
 case neg=>rw[b9 j] at b;cases b
 rw[b0 (fun c=>c j)] at b;rw[b] at hv;by_cases n:a=4
 .apply bn 0 f257 ajV;intro c J g Y Z;have p:∀i,c.ρ0 i≠none->False:=fun i h=>by cases g i h
  simp only[go_sem,J,e,l,m,sy j];apply aa Z hv;simp only[go_sem,J,n];refine lW [2] rfl ?_ ?_ rfl rfl (fun i h=>by simp[liveK] at h;simp;omega)
  .simp only[go_sem]
  .rw[show bgW d now r gs bu 4={bgW d now r gs bu 4 with d:=bp {d with now:=if d.now<now then now else d.now} } from rfl];simp only[go_sem];exact l7 _ _ _ _
 .apply bn 0 f257 ajV;intro c J g Y Z;have p:∀i,c.ρ0 i≠none->False:=fun i h=>by cases g i h
  simp only[go_sem,J,e,l,m,sy j];apply aa Z hv;simp only[go_sem,J,n];refine lW [2] rfl ?_ ?_ rfl rfl (fun i h=>by simp[liveK] at h;simp;omega)
  .simp only[go_sem]
  .have q:bgD d now a={d with now:=if d.now<now then now else d.now,nx:=it0}:=by unfold bgD;rw[b0 n]
   simp only[go_sem];refine Rh _ _ _ _ _ ?_ rfl rfl rfl rfl rfl;unfold bgW;rw[q];exact Ri (bp {d with now:=if d.now<now then now else d.now})
theorem kp{d:aU}{now a:Int}{r:RqM}(h:bgE d now r a=0):d.on=true/\(0<=now/\now<=1099511627776)/\r.kd=a/\l8 r=0:=by
 unfold bgE at h;by_cases h1:d.on=false
 .rw[b9 h1] at h;cases h
 rw[b0 h1] at h;by_cases h2:now<0\/now>1099511627776
 .rw[b9 h2] at h;cases h
 rw[b0 h2] at h;by_cases b:¬r.kd=a
 .rw[b9 b] at h;cases h
 rw[b0 b] at h;exact⟨by simpa using h1,ω,Decidable.byContradiction b,h⟩
theorem gR{f:aO}{d:aU}{G now bu a:Int}{r:RqM}{gs:List (Int×Int)}(e:DInv f d G)(h:bgE d now r a=0)(j:i64 bu):W f G r gs (bgW d now r gs bu a):=by
 obtain⟨h1,h2,m,n⟩:=kp h;have ho:DOn f d G:=by
  rcases e with e|e
  .exact e
  .have:d.on=false:=by rw[e.is];rfl
   rw[this] at h1;cases h1
 have g:DOn f (bgD d now a) G:=by
  refine ho.upd rfl rfl ?_ ?_ rfl
  .show 0<=(if d.now<now then now else d.now)/\(if d.now<now then now else d.now)<=1099511627776;have:=ho.now;split<;>omega
  .show(if a=4 then d.nx else it0).ids.length<1000/\∀b,b∈(if a=4 then d.nx else it0).ids->b.length=176;split
   .exact ho.ids
   .exact⟨by show 0<1000;decide,fun b l=>by cases l⟩
 exact⟨⟨_,rfl,fun _=>g,.inl g⟩,rfl,rfl,j,Yw⟩
structure Ret(f:aO)(G:Int)(d':aU)(x:Rpp)(left:Int):Prop where
 d:DInv f d' G
 x:MS x
 b:i64 left
theorem Ret.mono{f:aO}{G H:Int}{a:aU}{x:Rpp}{left:Int}(h:Ret f G a x left)(hg:G<=H):Ret f H a x left:=⟨h.d.mono hg,h.x,h.b⟩
theorem W.end{f:aO}{G:Int}{r:RqM}{gs:List (Int×Int)}{w:Wkp}(h:W f G r gs w):∃d',w.d=bp d'/\Ret f G d' (GN w) w.bu:=by
 obtain⟨d,h1,h2,a⟩:=h.d;refine⟨d,h1,a,?_,h.bu⟩;unfold GN;split
 .exact h.rep
 .exact⟨.inl rfl,.inl rfl⟩
def ne(d:aU)(x:Rpp)(left:Int):AV := .tup [bg d,.agg (rpC x),.i left]
attribute [go_sem] ne
theorem ob{f:aO}{G:Int}{d:aU}(h:DInv f d G)(e:Int)(bu:Int)(a:i64 bu):Ret f G d {rp0 with er:=e} bu:=⟨h,⟨.inl rfl,.inl rfl⟩,a⟩
section
variable {f : FuncId} {G : Prop} {ks : List Nat} {c : Ctx} {E : AS → Prop} {st : AS} {d : Option Nat} {H : List FP → AS → Prop} (hK : XK prog ks c E) {vs : List AV} [i : IsC G c E ks f vs st d H]
include hK
theorem x_b{b:List AV}{w:Wkp}(g:Con prog f b [] (.tup [.ptr 0 0,.i 0]) (wB w))
 (h:H [([],[st.nx])] (eff st d (.tup [.ptr st.nx 0,.i 0]) [(st.nx,some ⟨wkT,wkC w⟩)] (st.nx+1)))
 (a:aj (hget st.hp) [] (fun i=>st.nx+i) b vs:=by simp only[go_sem]):G:=by
 refine Hg hK [] (fun i=>st.nx+i) (st.nx+1) g ⟨a,trivial,rfl,trivial,Nat.le_succ _,fun i e => .inr ?_,by simp[ax,ak,keys],by simp[bV,ak,keys],rfl⟩ rfl ?_
 .simp[keys] at e;subst e;exact⟨ω,ω⟩
 .have j:renU (fun i=>st.nx+i) (wB w)=[(st.nx,some ⟨wkT,wkC w⟩)]:=by
   simp only[renU,ML,Nat.add_zero]
  rw[j];exact h
end
theorem W.fin{f:aO}{G:Int}{r:RqM}{gs:List (Int×Int)}{w:Wkp}(h:W f G r gs w):∃a x left,Ret f G a x left /\
 Con prog 260 [.ptr 0 0] (wB w) (.tup [bg a,.agg (rpC x),.i left]) (wB w):=by
 obtain⟨a,h1,h2⟩:=h.end;have:=Yv w;rw[h1] at this;exact⟨a,_,_,h2,this⟩
theorem NA{f:aO}{d:aU}{G:Int}(h:DInv f d G)(now:Int)(r:RqM)(j:aP r)(gs:List (Int×Int))(bu:Int)(l:i64 bu) :
 ∃a x left,Ret f G a x left/\FPure prog 198 [bg d,.i now,rqA r,gsA gs,.i bu] (ne a x left):=by
 by_cases he:bgE d now r 6=0
 case neg =>
  refine⟨d,_,bu,ob h (bgE d now r 6) bu l,?_⟩;have hb:=dD d now r j gs bu 6 he;generalize bgE d now r 6=e at *;apply ba f198 [0,1,2,3,4,5,7,10,11,12,13,14,25];intro c J m Y Z;exact afJ
 have hb:=eC d now r j gs bu 6 he;have b:=gR (bu:=bu) (gs:=gs) h he l;generalize bgW d now r gs bu 6=w at *;have n:=fv w.d.tok.sec;generalize Ay w.d.tok.sec=y at *;have g:=b.setrep {w.rep with pe:=y} ⟨b.rep.ad,b.rep.id⟩;obtain⟨a,X,left,h2,hen⟩:=g.fin;refine⟨a,X,left,h2,?_⟩;apply ba f198 [0,1,2,3,4,5,7,10,11,12,13,14,25];intro c J m Y Z;refine akQ ?_;simp only[go_sem,J];apply aa Z n;simp only[go_sem,J];exact vy
def ajX:List Nat:=[0,1,2,3,4,5,7,10,11,12,13,14,25,31]
attribute[go_sem]ajX
theorem Jo{f:aO}{d:aU}{G:Int}(p:DInv f d G)(u:G<1000000)(now:Int)(r:RqM)(g:aP r)(gs:List (Int×Int))(bu:Int)(q:i64 bu) :
 ∃b x left,Ret f (G+1) b x left/\FPure prog 204 [bg d,.i now,rqA r,gsA gs,.i bu] (ne b x left):=by
 by_cases he:bgE d now r 12=0
 case neg =>
  refine⟨d,_,bu,ob (p.mono ω) (bgE d now r 12) bu q,?_⟩;have hb:=dD d now r g gs bu 12 he;generalize bgE d now r 12=e at *;apply ba f204 ajX;intro c J s Y Z;exact afJ
 have hb:=eC d now r g gs bu 12 he;have v:=gR (bu:=bu) (gs:=gs) p he q;generalize bgW d now r gs bu 12=w at *;obtain⟨w1,h,K,k3⟩:=lU v g;by_cases j:w1.er=0
 case neg =>
  obtain⟨y,l,z,m⟩:=fH h 4;obtain⟨b,X,left,h2,hen⟩:=l.fin;refine⟨b,X,left,h2.mono ω,?_⟩;rw[p4 j] at k3;apply ba f204 ajX;intro c J s Y Z;refine akQ ?_;simp only[go_sem,J];refine x_w Z k3 ?_;simp only[go_sem,J];refine alj ?_;exact vy
 obtain⟨t,A,B,L⟩:=h.d;have a:=B j;obtain⟨D,C⟩:=ou t a.vl a.st.c;obtain⟨T,-,F,I⟩:=Jl t D C r.id r.id.length rfl g.id a.len w1.bu h.bu;have n:=nP w1 (bp T.d) T.left T.e;have o:=h.take j a F u;generalize iV w1 (bp T.d) T.left T.e=y at *;obtain⟨M,l,z,m⟩:=fH o 4;obtain⟨b,X,left,h2,hen⟩:=l.fin;refine⟨b,X,left,h2,?_⟩;rw[qi j] at k3;apply ba f204 ajX;intro c J s Y Z;refine akQ ?_;simp only[go_sem,J];refine x_w Z k3 ?_;simp only[go_sem,J,A];apply aa Z I;simp only[go_sem,J];refine x_w Z n ?_;refine wi ?_;refine alj ?_;exact vy
def ajW:List Nat:=[0,1,2,3,4,5,7,10,11,12,13,14,15,26,38]
attribute[go_sem]ajW
theorem Fv{f:aO}{d:aU}{G:Int}(l:DInv f d G)(now:Int)(r:RqM)(m:aP r)(gs:List (Int×Int))(bu:Int)(n:i64 bu) :
 ∃g x left,Ret f G g x left/\FPure prog 197 [bg d,.i now,rqA r,gsA gs,.i bu] (ne g x left):=by
 by_cases he:bgE d now r 5=0
 case neg =>
  refine⟨d,_,bu,ob l (bgE d now r 5) bu n,?_⟩;have hb:=dD d now r m gs bu 5 he;generalize bgE d now r 5=e at *;apply ba f197 ajW;intro c J o Y Z;exact afJ
 have hb:=eC d now r m gs bu 5 he;have a:=gR (bu:=bu) (gs:=gs) l he n;have h:(bgW d now r gs bu 5).er=0:=rfl;generalize bgW d now r gs bu 5=w at *;obtain⟨t,q,u,y⟩:=a.d;have j:=u h;have s:=wv j;generalize tr t=p at *;cases hs:p.set with
 |true =>
  have b:=a.setrep {w.rep with rt:=p.rt} ⟨a.rep.ad,a.rep.id⟩;obtain⟨g,X,left,h2,hen⟩:=b.fin;refine⟨g,X,left,h2,?_⟩;apply ba f197 ajW;intro c J o Y Z;refine akQ ?_;simp only[go_sem,J,q];apply aa Z s;simp only[go_sem,J,hs];exact vy
 |false =>
  have v:=aW w 25;have b:=(a.fail 25).setrep {w.rep with rt:=p.rt} ⟨a.rep.ad,a.rep.id⟩;obtain⟨g,X,left,h2,hen⟩:=b.fin;refine⟨g,X,left,h2,?_⟩;apply ba f197 ajW;intro c J o Y Z;refine akQ ?_;simp only[go_sem,J,q];apply aa Z s;simp only[go_sem,J,hs];refine x_w Z v ?_;simp only[go_sem,J];exact vy
theorem QB{f:aO}{d:aU}{G:Int}(o:DInv f d G)(now:Int)(r:RqM)(q:aP r)(gs:List (Int×Int))(bu:Int)(s:i64 bu) :
 ∃b x left,Ret f G b x left/\FPure prog 193 [bg d,.i now,rqA r,gsA gs,.i bu] (ne b x left):=by
 by_cases he:bgE d now r 1=0
 case neg =>
  refine⟨d,_,bu,ob o (bgE d now r 1) bu s,?_⟩;have hb:=dD d now r q gs bu 1 he;generalize bgE d now r 1=e at *;apply ba f193 [0,1,2,3,4,5,7,10,11,12,13,14,15,26];intro c J u Y Z;exact afJ
 have hb:=eC d now r q gs bu 1 he;have t:=gR (bu:=bu) (gs:=gs) o he s;have h:(bgW d now r gs bu 1).er=0:=rfl;generalize bgW d now r gs bu 1=w at *;obtain⟨g,j,v,F⟩:=t.d;have a:=v h;have y:=wv a;generalize tr g=p at *;obtain⟨D,z⟩:=ou g a.vl a.st.c;have A:=qE g D z;have B:=m9 D 8;generalize md D 8=cl at *;obtain⟨cs,n,I,l⟩:=Jk g a.vl;have w1:a'.wrap (8-(cl.length:Int))=8-(cl.length:Int):=ab ω ω;have C:a'.wrap (16-(n:Int))=16-(n:Int):=ab ω ω;have m:=t.setrep {rp0 with mo:=d.fac.mo,fi:=d.fac.fi,ps:=p.set,rt:=p.rt,rm:=8-(cl.length:Int),le:=16-(n:Int)} ⟨.inl rfl,.inl rfl⟩;obtain⟨b,X,left,h2,hen⟩:=m.fin;refine⟨b,X,left,h2,?_⟩;apply ba f193 [0,1,2,3,4,5,7,10,11,12,13,14,15,26];intro c J u Y Z;refine akQ ?_;simp only[go_sem,J,j];apply aa Z y;simp only[go_sem,J,j];apply aa Z A;simp only[go_sem,J,j];apply aa Z l;simp only[go_sem,J,w1,C];refine⟨π,?_⟩;exact vy
theorem AF(x:UInt8):∀p,p∈[((4:Int),[x])]->p7 p:=fun p a=>by
 rw[n4.1 a];exact⟨(by show 1<1000;decide),fun h=>(by cases h),(by show(4:Int)≠2;decide),fun i _ h=>(by have:(4:Int)=64+(i:Int):=h;omega),fun h=>(by cases h)⟩
theorem iC{A B:Prop}(b:B)(k:Hid B->A:=by
 intro zz
 simp only[go_sem,J]
 refine x_b Z hb ?_
 exact zz.h):A:=k ⟨b⟩
theorem qG{A B:Prop}(b:B)(k:Hid B->A:=by
 intro zz
 simp only[go_sem,J,c1,c2]
 apply aa Z hp
 simp only[go_sem,J,hs]
 refine x_w Z k3 ?_
 exact zz.h):A:=k ⟨b⟩
theorem tU{A B:Prop}(b:B)(k:Hid B->A:=by
 intro zz
 simp only[go_sem,J,hz]
 apply aa Z ho
 simp only[go_sem,J]
 refine x_w Z hf4 ?_
 exact zz.h):A:=k ⟨b⟩
theorem AG{A B:Prop}(b:B)(k:Hid B->A:=by
 intro zz
 refine akq ?_
 refine x_w Z k6 ?_
 exact zz.h):A:=k ⟨b⟩
theorem Ha{A B:Prop}(b:B)(k:Hid B->A:=by
 intro zz
 simp only[go_sem,J,hz5]
 apply aa Z hx
 simp only[go_sem,J]
 refine x_w Z k9 ?_
 exact zz.h):A:=k ⟨b⟩
theorem QC{A B:Prop}(b:B)(k:Hid B->A:=by
 intro zz
 refine akl ?_
 refine x_w Z q4 ?_
 simp only[go_sem,J,m1]
 apply aa Z his
 simp only[go_sem,J,m1]
 exact zz.h):A:=k ⟨b⟩
def ajR:List Nat:=[0,1,2,3,4,5,7,10,11,12,13,14,15,16,17,28,40,49,58,73,92]
attribute[go_sem]ajR
theorem NB{f:aO}{d:aU}{G:Int}(L:DInv f d G)(hG:G<900000)(now:Int)(r:RqM)(C:aP r)(gs:List (Int×Int))(S:gs.length<1000000)(bu:Int)(M:i64 bu) :
 ∃a x left,Ret f (G+2) a x left/\FPure prog 201 [bg d,.i now,rqA r,gsA gs,.i bu] (ne a x left):=by
 by_cases he:bgE d now r 9=0
 case neg =>
  refine⟨d,_,bu,ob (L.mono ω) (bgE d now r 9) bu M,?_⟩;have hb:=dD d now r C gs bu 9 he;generalize bgE d now r 9=e at *;refine ba f201 ajR ?_;intro c J m Y Z;exact afJ
 have hb:=eC d now r C gs bu 9 he;have D:=gf (kp he).2.2.2;have s:=gR (bu:=bu) (gs:=gs) L he M;have T:=s.r;have g:(bgW d now r gs bu 9).er=0:=rfl;have U:(bgW d now r gs bu 9).rep=rp0:=rfl;generalize bgW d now r gs bu 9=w at *;obtain⟨N,V,n2,n3⟩:=s.d;have F:=n2 g;have hp:=wv F;rw[show bg N=AV.agg (dvC w.d) from by rw[V]] at hp;generalize tr N=p at *;by_cases c1:r.pm<1
 case pos =>
  have t:=aW w 9;cases hs:p.set with
  |true =>
   obtain⟨b,y,j,n,k3⟩:=dw (s.fail 9);have hz:¬b.er=0:=fun c=>by have:=n c;simp only[bG,g,if_true] at this;exact s5 this ε
   obtain⟨a,X,left,h2,hen⟩:=(j).fin;refine⟨a,X,left,h2.mono ω,?_⟩;refine ba f201 ajR ?_;intro c J m Y Z;refine iC ?_;simp only[go_sem,J,c1];refine x_w Z t ?_;simp only[go_sem,J];refine aa Z hp ?_;simp only[go_sem,J,hs];refine x_w Z k3 ?_;simp only[go_sem,J,hz];exact vy
  |false =>
   have u:=aW {w with er:=bG w.er 9} 25;obtain⟨b,y,j,n,k3⟩:=dw ((s.fail 9).fail 25);have hz:¬b.er=0:=fun c=>by have:=n c;simp only[bG,g,if_true] at this;exact s5 this ε
   obtain⟨a,X,left,h2,hen⟩:=(j).fin;refine⟨a,X,left,h2.mono ω,?_⟩;refine ba f201 ajR ?_;intro c J m Y Z;refine iC ?_;simp only[go_sem,J,c1];refine x_w Z t ?_;simp only[go_sem,J];refine aa Z hp ?_;simp only[go_sem,J,hs];refine x_w Z u ?_;simp only[go_sem,J];refine x_w Z k3 ?_;simp only[go_sem,J,hz];exact vy
 by_cases c2:r.pm>7
 case pos =>
  have t:=aW w 9;cases hs:p.set with
  |true =>
   obtain⟨b,y,j,n,k3⟩:=dw (s.fail 9);have hz:¬b.er=0:=fun c=>by have:=n c;simp only[bG,g,if_true] at this;exact s5 this ε
   obtain⟨a,X,left,h2,hen⟩:=(j).fin;refine⟨a,X,left,h2.mono ω,?_⟩;refine ba f201 ajR ?_;intro c J m Y Z;refine iC ?_;simp only[go_sem,J,c1,c2];refine x_w Z t ?_;simp only[go_sem,J];refine aa Z hp ?_;simp only[go_sem,J,hs];refine x_w Z k3 ?_;simp only[go_sem,J,hz];exact vy
  |false =>
   have u:=aW {w with er:=bG w.er 9} 25;obtain⟨b,y,j,n,k3⟩:=dw ((s.fail 9).fail 25);have hz:¬b.er=0:=fun c=>by have:=n c;simp only[bG,g,if_true] at this;exact s5 this ε
   obtain⟨a,X,left,h2,hen⟩:=(j).fin;refine⟨a,X,left,h2.mono ω,?_⟩;refine ba f201 ajR ?_;intro c J m Y Z;refine iC ?_;simp only[go_sem,J,c1,c2];refine x_w Z t ?_;simp only[go_sem,J];refine aa Z hp ?_;simp only[go_sem,J,hs];refine x_w Z u ?_;simp only[go_sem,J];refine x_w Z k3 ?_;simp only[go_sem,J,hz];exact vy
 cases hs:p.set with
 |false =>
  have t:=aW w 25;obtain⟨b,y,j,n,k3⟩:=dw (s.fail 25);have hz:¬b.er=0:=fun c=>by have:=n c;simp only[bG,g,if_true] at this;exact s5 this ε
  obtain⟨a,X,left,h2,hen⟩:=(j).fin;refine⟨a,X,left,h2.mono ω,?_⟩;refine ba f201 ajR ?_;intro c J m Y Z;refine iC ?_;simp only[go_sem,J,c1,c2];refine aa Z hp ?_;simp only[go_sem,J,hs];refine x_w Z t ?_;simp only[go_sem,J];refine x_w Z k3 ?_;simp only[go_sem,J,hz];exact vy
 |true =>
 obtain⟨b,y,j,n,k3⟩:=dw s;by_cases hz:b.er=0
 case neg =>
  obtain⟨a,X,left,h2,hen⟩:=(j).fin;refine⟨a,X,left,h2.mono ω,?_⟩;refine ba f201 ajR ?_;intro c J m Y Z;refine iC ?_;refine qG ?_;simp only[go_sem,J,hz];exact vy
 obtain⟨h,A,ho⟩:=sR y r.pf r.pf.length rfl C.pf;have hf4:=aW b A;have l:bG b.er A=A:=by unfold bG;rw[b9 hz]
 rw[l] at hf4;by_cases o:A=0
 case neg =>
  have k4:=j.fail A;rw[l] at k4;obtain⟨a,X,left,h2,hen⟩:=(k4).fin;refine⟨a,X,left,h2.mono ω,?_⟩;refine ba f201 ajR ?_;intro c J m Y Z;refine iC ?_;refine qG ?_;refine tU ?_;simp only[go_sem,J,o,decide_true,decide_false,not_true,not_false_eq_true];exact vy
 subst o;have k4:W f G r gs {b with er:=0}:=by have:=j.fail 0;rwa [l] at this
 have o:({b with er:=0}:Wkp).er=0:=rfl;generalize({b with er:=0}:Wkp)=w4 at *;obtain⟨w5,O,k6⟩:=ww k4 o ω h;by_cases hz5:w5.er=0
 case neg =>
  obtain⟨a,X,left,h2,hen⟩:=(O).fin;refine⟨a,X,left,h2.mono ω,?_⟩;refine ba f201 ajR ?_;intro c J m Y Z;refine iC ?_;refine qG ?_;refine tU ?_;refine AG ?_;simp only[go_sem,J,hz5];exact vy
 obtain⟨x,hx⟩:=tT 8;obtain⟨w6,P,k8,k9⟩:=jH O ω [(4,[x])] (AF x) η 1 _ (.inl rfl) rfl;by_cases hz6:w6.er=0
 case neg =>
  obtain⟨a,X,left,h2,hen⟩:=(P).fin;refine⟨a,X,left,h2.mono ω,?_⟩;refine ba f201 ajR ?_;intro c J m Y Z;refine iC ?_;refine qG ?_;refine tU ?_;refine AG ?_;refine Ha ?_;simp only[go_sem,J,hz6,decide_true,decide_false,not_true,not_false_eq_true];exact vy
 obtain⟨w7,v,Q,R,q3,q4⟩:=P.draw hz6;obtain⟨B,m1,m2,m3⟩:=Q.d;have q:=m2 R;have his:=Nx B.tok v r.pm r.rp B.now ω ω q.now D.rp;have q5:=Q.setd {B with tok:=⟨B.tok.sec,true,v,r.pm,r.rp,B.now⟩} (q.upd rfl rfl q.now q.ids rfl);obtain⟨w8,z,I,t2,t3,t4⟩:=q5.draw R;have K:=mX y z v;generalize gZ y z [] (an [v] 1)=sb at *;have t5:=I.setrep {w8.rep with bx := .d 1 sb.length (sb.map bt)} ⟨I.rep.ad,I.rep.id⟩;obtain⟨a,X,left,h2,hen⟩:=(t5).fin;refine⟨a,X,left,h2.mono ω,?_⟩;refine ba f201 ajR ?_;intro c J m Y Z;refine iC ?_;refine qG ?_;refine tU ?_;refine AG ?_;refine Ha ?_;refine QC ?_;refine⟨π,?_⟩;refine x_w Z t4 ?_;simp only[go_sem,J];refine aa Z K ?_;simp only[go_sem,J];exact vy
theorem nf{A B:Prop}(b:B)(k:Hid B->A:=by
 intro zz
 simp only[go_sem,J]
 refine x_b Z hb ?_
 simp only[go_sem,J]
 refine x_w Z k3 ?_
 exact zz.h):A:=k ⟨b⟩
theorem qH{A B:Prop}(b:B)(k:Hid B->A:=by
 intro zz
 refine aj5 ?_
 refine x_w Z k6 ?_
 exact zz.h):A:=k ⟨b⟩
theorem wx{A B:Prop}(b:B)(k:Hid B->A:=by
 intro zz
 simp only[go_sem,J,hz2]
 apply aa Z ((ho).nil κ)
 simp only[go_sem,J]
 refine x_w Z hf4 ?_
 exact zz.h):A:=k ⟨b⟩
theorem Dt{A B:Prop}(b:B)(k:Hid B->A:=by
 intro zz
 simp only[go_sem,J,hz4,decide_true,decide_false,not_true,not_false_eq_true]
 apply aa Z hdg
 simp only[go_sem,J]
 refine x_w Z hf5 ?_
 exact zz.h):A:=k ⟨b⟩
theorem NC{A B:Prop}(b:B)(k:Hid B->A:=by
 intro zz
 simp only[go_sem,J,he5,decide_true,decide_false,not_true,not_false_eq_true]
 apply aa Z hid
 simp only[go_sem,J]
 apply aa Z had
 simp only[go_sem,J]
 refine x_w Z hta ?_
 simp only[go_sem,J]
 refine⟨π,?_⟩
 refine x_w Z p3 ?_
 simp only[go_sem,J]
 exact zz.h):A:=k ⟨b⟩
def ajP:List Nat:=[0,1,2,3,4,5,7,10,11,12,13,14,15,16,17,18,19,30,37,49,64,79]
attribute[go_sem]ajP
theorem Jp{f:aO}{d:aU}{G:Int}(N:DInv f d G)(hG:G<900000)(now:Int)(r:RqM)(o:aP r)(gs:List (Int×Int))(R:gs.length<1000000)(bu:Int)(P:i64 bu) :
 ∃a x left,Ret f (G+1) a x left/\FPure prog 206 [bg d,.i now,rqA r,gsA gs,.i bu] (ne a x left):=by
 by_cases he:bgE d now r 14=0
 case neg =>
  refine⟨d,_,bu,ob (N.mono ω) (bgE d now r 14) bu P,?_⟩;have hb:=dD d now r o gs bu 14 he;generalize bgE d now r 14=e at *;refine ba f206 ajP ?_;intro c J p Y Z;exact afJ
 have hb:=eC d now r o gs bu 14 he;have S:=gf (kp he).2.2.2;have B:=gR (bu:=bu) (gs:=gs) N he P;have U:=B.r;have C:(bgW d now r gs bu 14).er=0:=rfl;have V:(bgW d now r gs bu 14).rep=rp0:=rfl;generalize bgW d now r gs bu 14=w at *;obtain⟨d1,n1,n2,n3⟩:=B.d;have hd1:=n2 C;obtain⟨w1,Q,⟨k2,hre⟩,k3⟩:=lU B o;by_cases hz:w1.er=0
 case neg =>
  obtain⟨a,X,left,h2,hen⟩:=(Q).fin;refine⟨a,X,left,h2.mono ω,?_⟩;refine ba f206 ajP ?_;intro c J p Y Z;refine nf ?_;simp only[go_sem,J,hz,decide_true,decide_false,not_true,not_false_eq_true];exact vy
 obtain⟨m,y,k4,k5,k6⟩:=dw Q;by_cases hz2:m.er=0
 case neg =>
  obtain⟨a,X,left,h2,hen⟩:=(k4).fin;refine⟨a,X,left,h2.mono ω,?_⟩;refine ba f206 ajP ?_;intro c J p Y Z;refine nf ?_;refine qH ?_;simp only[go_sem,J,hz2];exact vy
 have ho:=GH y [] r.bx 0 r.bx.length rfl rfl ε o.bx;have hol:=Ap y [] r.bx;generalize ubM y [] r.bx=O at *;have hf4:=aW m O.e;have b:bG m.er O.e=O.e:=by unfold bG;rw[b9 hz2]
 rw[b] at hf4;by_cases hz4:O.e=0
 case neg =>
  have q:=k4.fail O.e;rw[b] at q;obtain⟨a,X,left,h2,hen⟩:=(q).fin;refine⟨a,X,left,h2.mono ω,?_⟩;refine ba f206 ajP ?_;intro c J p Y Z;refine nf ?_;refine qH ?_;refine wx ?_;simp only[go_sem,J,hz4,decide_true,decide_false,not_true,not_false_eq_true];exact vy
 have q:W f G r gs {m with er:=O.e}:=by have:=k4.fail O.e;rwa [b] at this
 have F:({m with er:=O.e}:Wkp).er=0:=hz4;generalize({m with er:=O.e}:Wkp)=w4 at *;obtain⟨x,n,K,l,L,hdg⟩:=Dp O.t (by have:=o.bx;omega);have hf5:=aW w4 l;have g:bG w4.er l=l:=by unfold bG;rw[b9 F]
 rw[g] at hf5;by_cases he5:l=0
 case neg =>
  have k8:=q.fail l;rw[g] at k8;obtain⟨a,X,left,h2,hen⟩:=(k8).fin;refine⟨a,X,left,h2.mono ω,?_⟩;refine ba f206 ajP ?_;intro c J p Y Z;refine nf ?_;refine qH ?_;refine wx ?_;refine Dt ?_;simp only[go_sem,J,he5,decide_true,decide_false,not_true,not_false_eq_true];exact vy
 obtain⟨A,s,g1,g2,g3⟩:=L he5;have k8:W f G r gs {w4 with er:=l}:=by have:=q.fail l;rwa [g] at this
 have u:({w4 with er:=l}:Wkp).er=0:=he5;generalize({w4 with er:=l}:Wkp)=w5 at *;have hid:=nF x A s;have h:=nK x;have k9:=k8.setrep {w5.rep with id := .d 1 176 ((idR x).map bt)} ⟨k8.rep.ad,.inr ⟨idR x,by rw[h];decide,by rw[h]⟩⟩;obtain⟨v,m1,m2,m3⟩:=k8.d;have j:=m2 u;obtain⟨D,hD⟩:=ou v j.vl j.st.c;have had:=GB ⟨n,K,n⟩ ⟨g1,Int.le_refl _,g2,g3⟩ v D x (idR x) 176 w5.bu hD j.on A s (Nat.lt_of_le_of_lt (mO x A) ε) h ε j.len k8.bu;have z:=G8 ⟨n,K,n⟩ v D x A (bA 10 0 (idR x)) w5.bu;generalize vz ⟨n,K,n⟩ v D x (bA 10 0 (idR x)) w5.bu=T at *;have M:=k9.take u j z ω;have hta:=nP {w5 with rep:={w5.rep with id := .d 1 176 ((idR x).map bt)} } (bp T.d) T.left T.e;generalize iV {w5 with rep:={w5.rep with id := .d 1 176 ((idR x).map bt)} } (bp T.d) T.left T.e=w6 at *;rw[show bg v=AV.agg (dvC w5.d) from by rw[m1]] at had;obtain⟨w7,p1,p2,p3⟩:=fH M 4;generalize idR x=I at *;obtain⟨a,X,left,h2,hen⟩:=(p1).fin;refine⟨a,X,left,h2.mono ω,?_⟩;refine ba f206 ajP ?_;intro c J p Y Z;refine nf ?_;refine qH ?_;refine wx ?_;refine Dt ?_;refine NC ?_;exact vy
theorem yM(s:ai)(i:Nat):0<=(bc s i).x.nx/\(bc s i).x.nx<=16/\0<=(bc s i).x.tto/\(bc s i).x.tto<=16:=by
 by_cases h:(bc s i).e=0
 .have:=su (yL h);omega
 .have:(bc s i).x=ls0:=by
   unfold bc jx at *;split
   .rename_i a;rw[b9 a] at h;exact s5 rfl h
   .rfl
  rw[this];exact⟨ε,ε,ε,ε⟩
theorem gS{A B:Prop}(b:B)(k:Hid B->A:=by
 intro zz
 simp only[go_sem,J]
 refine x_b Z hb ?_
 simp only[go_sem,J]
 refine x_w Z k3 ?_
 exact zz.h):A:=k ⟨b⟩
theorem iQ{A B:Prop}(b:B)(k:Hid B->A:=by
 intro zz
 refine aj5 ?_
 apply aa Z hrs
 simp only[go_sem,J]
 refine⟨π,?_⟩
 apply aa Z hnu
 simp only[go_sem,J]
 refine⟨π,?_⟩
 exact zz.h):A:=k ⟨b⟩
theorem ng{A B:Prop}(b:B)(k:Hid B->A:=by
 intro zz
 simp only[go_sem,J,hbt,hN,hsh,decide_true,decide_false,not_true,not_false_eq_true]
 apply aa Z hpu
 simp only[go_sem,J]
 refine x_w Z q3 ?_
 exact zz.h):A:=k ⟨b⟩
theorem qJ{A B:Prop}(b:B)(k:Hid B->A:=by
 intro zz
 simp only[go_sem,J,hz3]
 apply aa Z hle
 exact zz.h):A:=k ⟨b⟩
theorem Du{A B:Prop}(b:B)(k:Hid B->A:=by
 intro zz
 simp only[go_sem,J,c1,ws,c2,wt]
 apply aa Z hen2
 simp only[go_sem,J,hw64,hw16]
 apply aa Z hl2
 simp only[go_sem,J]
 refine x_w Z k9 ?_
 exact zz.h):A:=k ⟨b⟩
theorem ND{A B:Prop}(b:B)(k:Hid B->A:=by
 intro zz
 refine akl ?_
 apply aa Z hgr
 simp only[go_sem,J]
 refine x_w Z t4 ?_
 simp only[go_sem,J]
 apply aa Z ((hse).nil κ)
 simp only[go_sem,J]
 refine x_w Z v3 ?_
 simp only[go_sem,J]
 exact zz.h):A:=k ⟨b⟩
def ajN:List Nat:=[0,1,2,3,4,5,7,10,11,12,13,14,15,16,17,18,19,20,21,22,24,25,27,39,46,78,83,99,116,131,164]
attribute[go_sem]ajN
theorem Jq{f:aO}{d:aU}{G:Int}(W:DInv f d G)(hG:G<900000)(now:Int)(r:RqM)(C:aP r)(gs:List (Int×Int))(hgl:gs.length<1000000)(bu:Int)(hB:i64 bu) :
 ∃a x left,Ret f (G+1) a x left/\FPure prog 205 [bg d,.i now,rqA r,gsA gs,.i bu] (ne a x left):=by
 by_cases he:bgE d now r 13=0
 case neg =>
  refine⟨d,_,bu,ob (W.mono ω) (bgE d now r 13) bu hB,?_⟩;have hb:=dD d now r C gs bu 13 he;generalize bgE d now r 13=e at *;refine ba f205 ajN ?_;intro c J n Y Z;exact afJ
 have hb:=eC d now r C gs bu 13 he;have K:=gf (kp he).2.2.2;have M:=gR (bu:=bu) (gs:=gs) W he hB;have hwr:=M.r;have O:(bgW d now r gs bu 13).er=0:=rfl;have hwp:(bgW d now r gs bu 13).rep=rp0:=rfl;generalize bgW d now r gs bu 13=w at *;obtain⟨d1,n1,n2,n3⟩:=M.d;have hd1:=n2 O;obtain⟨w1,s,⟨k2,hre⟩,k3⟩:=lU M C;by_cases hz:w1.er=0
 case neg =>
  obtain⟨a,X,left,h2,hen⟩:=(s).fin;refine⟨a,X,left,h2.mono ω,?_⟩;refine ba f205 ajN ?_;intro c J n Y Z;refine gS ?_;simp only[go_sem,J,hz,decide_true,decide_false,not_true,not_false_eq_true];exact vy
 obtain⟨t,m1,m2,m3⟩:=s.d;have q:=m2 hz;obtain⟨D,hD⟩:=ou t q.vl q.st.c;obtain⟨k,x,b,hk,P,-,hrs⟩:=j7 t D hD r.id r.id.length rfl;have hnu:=dR t r.id r.id.length rfl C.id q.vl;have hlt:dU (bq t.v.prs) (bA 10 0 r.id)<16:=lH _ 16 ε _ (ic _ 16);generalize dU (bq t.v.prs) (bA 10 0 r.id)=N at *;rw[show bg t=AV.agg (dvC w1.d) from by rw[m1]] at hrs hnu;have hpu:=fv w1.d.tok.sec;generalize Ay w1.d.tok.sec=own at *;by_cases hbt:b=true
 case neg =>
  have Q:b=false:=by simpa using hbt
  have o:=aW w1 11;obtain⟨m,y,j,u,q3⟩:=dw (s.fail 11);have l:¬m.er=0:=fun c=>by have:=u c;simp only[bG,hz,if_true] at this;exact s5 this ε
  obtain⟨a,X,left,h2,hen⟩:=(j).fin;refine⟨a,X,left,h2.mono ω,?_⟩;refine ba f205 ajN ?_;intro c J n Y Z;refine gS ?_;refine iQ ?_;simp only[go_sem,J,Q,decide_true,decide_false,not_true,not_false_eq_true];refine x_w Z o ?_;simp only[go_sem,J];refine aa Z hpu ?_;simp only[go_sem,J];refine x_w Z q3 ?_;simp only[go_sem,J,l];exact vy
 by_cases hN:N=0
 case pos =>
  have o:=aW w1 11;obtain⟨m,y,j,u,q3⟩:=dw (s.fail 11);have l:¬m.er=0:=fun c=>by have:=u c;simp only[bG,hz,if_true] at this;exact s5 this ε
  obtain⟨a,X,left,h2,hen⟩:=(j).fin;refine⟨a,X,left,h2.mono ω,?_⟩;refine ba f205 ajN ?_;intro c J n Y Z;refine gS ?_;refine iQ ?_;simp only[go_sem,J,hbt,hN,decide_true,decide_false,not_true,not_false_eq_true];refine x_w Z o ?_;simp only[go_sem,J];refine aa Z hpu ?_;simp only[go_sem,J];refine x_w Z q3 ?_;simp only[go_sem,J,l];exact vy
 by_cases hsh:x.sh=true
 case neg =>
  have R:x.sh=false:=by simpa using hsh
  have o:=aW w1 18;obtain⟨m,y,j,u,q3⟩:=dw (s.fail 18);have l:¬m.er=0:=fun c=>by have:=u c;simp only[bG,hz,if_true] at this;exact s5 this ε
  obtain⟨a,X,left,h2,hen⟩:=(j).fin;refine⟨a,X,left,h2.mono ω,?_⟩;refine ba f205 ajN ?_;intro c J n Y Z;refine gS ?_;refine iQ ?_;simp only[go_sem,J,hbt,hN,R,decide_true,decide_false,not_true,not_false_eq_true];refine x_w Z o ?_;simp only[go_sem,J];refine aa Z hpu ?_;simp only[go_sem,J];refine x_w Z q3 ?_;simp only[go_sem,J,l];exact vy
 obtain⟨m,y,j,u,q3⟩:=dw s;by_cases hz3:m.er=0
 case neg =>
  obtain⟨a,X,left,h2,hen⟩:=(j).fin;refine⟨a,X,left,h2.mono ω,?_⟩;refine ba f205 ajN ?_;intro c J n Y Z;refine gS ?_;refine iQ ?_;refine ng ?_;simp only[go_sem,J,hz3];exact vy
 obtain⟨F,p1,p2,p3⟩:=j.d;have S:=p2 hz3;have hle:=gM F N ω S.vl;have hlb:=yM F.v.prs N;generalize bc F.v.prs N=L at *;rw[show bg F=AV.agg (dvC m.d) from by rw[p1]] at hle;have hct:=K.ct;by_cases c1:r.ct<1
 case pos =>
  have o:=aW m 9;obtain⟨a,X,left,h2,hen⟩:=(j.fail 9).fin;refine⟨a,X,left,h2.mono ω,?_⟩;refine ba f205 ajN ?_;intro c J n Y Z;refine gS ?_;refine iQ ?_;refine ng ?_;refine qJ ?_;simp only[go_sem,J,c1];refine x_w Z o ?_;simp only[go_sem,J];exact vy
 have ws:a'.wrap (L.x.tto-L.x.nx)=L.x.tto-L.x.nx:=ab ω ω;by_cases c2:L.x.tto-L.x.nx<r.ct
 case pos =>
  have o:=aW m 13;obtain⟨a,X,left,h2,hen⟩:=(j.fail 13).fin;refine⟨a,X,left,h2.mono ω,?_⟩;refine ba f205 ajN ?_;intro c J n Y Z;refine gS ?_;refine iQ ?_;refine ng ?_;refine qJ ?_;simp only[go_sem,J,c1,ws,c2];refine x_w Z o ?_;simp only[go_sem,J];exact vy
 have wt:a'.wrap (L.x.tto-r.ct)=L.x.tto-r.ct:=ab ω ω;obtain⟨h,A,-⟩:=P hbt;have B:CrOk {x with sh:=true,bk:=true}:=⟨h.rp1,h.rp2,h.us1,h.us2,h.nm,h.hg,h.pt,h.u1,h.u2,fun _=>A,fun _=>rfl⟩
 have hen2:=fG _ B;have hl2:=pR ⟨L.x.tag,L.x.fr,L.x.tto-r.ct,L.x.nx⟩;have T:=G7 (64+(k:Int)) ω _ B A;have U:=wl N ω ⟨L.x.tag,L.x.fr,L.x.tto-r.ct,L.x.nx⟩;obtain⟨g,e6,hgl6,-,hgr⟩:=na {x with sh:=true,bk:=true} ⟨by have:=h.rp2;dsimp only;omega,by have:=h.us2;dsimp only;omega,by have:=h.nm;dsimp only;omega⟩ (L.x.tto-r.ct) L.x.tto ω ω;generalize fj {x with sh:=true,bk:=true}=eb at *;generalize dy ⟨L.x.tag,L.x.fr,L.x.tto-r.ct,L.x.nx⟩=lb at *;obtain⟨w6,I,k8,k9⟩:=jH j ω [(64+(k:Int),eb),(16+(N:Int),lb)] (fun p hp=>by simp at hp;rcases hp with rfl|rfl;exact T;exact U) η 2 _ (.inl rfl) rfl;have hw64:a'.wrap (64+(k:Int))=64+(k:Int):=ab ω ω;have hw16:a'.wrap (16+(N:Int))=16+(N:Int):=ab ω ω;by_cases hz6:w6.er=0
 case neg =>
  obtain⟨a,X,left,h2,hen⟩:=(I).fin;refine⟨a,X,left,h2.mono ω,?_⟩;refine ba f205 ajN ?_;intro c J n Y Z;refine gS ?_;refine iQ ?_;refine ng ?_;refine qJ ?_;refine Du ?_;simp only[go_sem,J,hz6,decide_true,decide_false,not_true,not_false_eq_true];exact vy
 obtain⟨w7,z,V,t2,t3,t4⟩:=(I.setrep {w6.rep with pe:=own} ⟨I.rep.ad,I.rep.id⟩).draw hz6;have hse:=qg y z [] g 0 g.length rfl ε rfl ω;have hsl:=fU y z [] g;generalize gZ y z [] g=sb at *;have t5:=V.setrep {w7.rep with bx := .d 1 (g.length+16) (sb.map bt)} ⟨V.rep.ad,V.rep.id⟩;obtain⟨w8,v1,v2,v3⟩:=fH t5 4;obtain⟨a,X,left,h2,hen⟩:=(v1).fin;refine⟨a,X,left,h2.mono ω,?_⟩;refine ba f205 ajN ?_;intro c J n Y Z;refine gS ?_;refine iQ ?_;refine ng ?_;refine qJ ?_;refine Du ?_;refine ND ?_;exact vy
theorem ZJ(x:Wkp)(k o n z:Nat)(v:AV):((wkC x).set 60 (.sl k o n z)).set 61 v=((wkC x).set 61 v).set 60 (.sl k o n z):=List.set_comm _ _ ε
section
attribute[local go_sem]gj ZJ List.length_set
def ajU:List Nat:=[0,1,2,3,4,6,10,12,14,15,16,17,37,64,66,70,121]
attribute[go_sem]ajU
theorem r7{f:aO}{G:Int}{r:RqM}{gs:List (Int×Int)}{w:Wkp}(h:W f G r gs w)(Q:w.er=0)(X:G<1000000)(x:Cr)(hx:CrOk x)(id:List UInt8)(n:Nat)(R:id.length=n)(hid:n<2000)(hs:UInt64)(q:Int):∃w',W f (G+1) r gs w' /\
 Con prog 275 [.ptr 0 0,.agg (crC x),.p (.data 1 n (id.map bt)),.w hs,.i q] (wB w) (.tup []) (wB w'):=by
 obtain⟨d,h1,h2,h3⟩:=h.d;have t:=h2 Q;have j:=dR d id n R ω t.vl;have hlt:dU (bq d.v.prs) (bA 10 0 id)<16:=lH _ 16 ε _ (ic _ 16);generalize dU (bq d.v.prs) (bA 10 0 id)=N at *;have l:=gM d N ω t.vl;generalize bc d.v.prs N=L at *;rw[show bg d=AV.agg (dvC w.d) from by rw[h1]] at j l;by_cases hN:N=0
 .have hf:=aW w 31;refine⟨_,(h.fail 31).mono ω,?_⟩;apply bn 1 f275 ajU;intro c J S Y Z;simp only[go_sem,J];refine akZ ?_;apply aa Z l;simp only[go_sem,J,hN];refine x_w Z hf ?_;simp only[go_sem,J];exact Φ
 have u:¬((N:Int)=0):=ω;obtain⟨a,T,-,ha0,ha1,hT,F⟩:=wm d t.vl N w.bu t.len h.bu;rw[show bg d=AV.agg (dvC w.d) from by rw[h1]] at F;have A:=nP w (bp T.d) T.left T.e;have U:=h.take Q t hT X;generalize iV w (bp T.d) T.left T.e=w1 at *;by_cases V:w1.er=0
 case neg =>
  refine⟨_,U,?_⟩;apply bn 1 f275 ajU;intro c J S Y Z;refine alB ?_;simp only[go_sem,J,V];exact Φ
 obtain⟨I,K⟩:∃I:Int,a'.wrap (a+1)=I:=⟨_,rfl⟩;have M:=nJ x.rp (by have:=hx.rp2;omega);obtain⟨g,B⟩:∃g:Int,g=(if x.bk=true then bor .i64 (if x.sh=true then bor .i64 q 8 else q) 16 else(if x.sh=true then bor .i64 q 8 else q)):=⟨_,rfl⟩
 obtain⟨b,e,hbl,m⟩:=wq (bA 9 0 x.rp) g I L.x.fr 0 [] 0 0;have m:=tS m;generalize bA 9 0 x.rp=y at *;obtain⟨z,O⟩:=wo b ω hs;obtain⟨s,P⟩:=Fu x.sd x.hg a z;obtain⟨nm,C⟩:∃nm,nm=if band .i64 g 4=0 then w1.rep.nm else x.nm:=⟨_,rfl⟩
 have k2:=U.setrep {w1.rep with ad := .d 1 b.length (b.map bt),sg := .d 1 s.length (s.map bt),id := .d 1 n (id.map bt),us:=x.us,nm:=nm} ⟨.inr ⟨b,ω,rfl⟩,.inr ⟨id,ω,by rw[R]⟩⟩;refine⟨_,k2,?_⟩;rcases l1 x.sh with hsh|hsh<;>rcases l1 x.bk with o|o<;>by_cases D:band .i64 g 4=0 <;>
  simp only[hsh,o,if_true,if_false,Bool.false_eq_true] at B<;>simp only[D,if_true,if_false] at C
 all_goals
  subst C;subst B;apply bn 1 f275 (1000015::ajU);intro c J S Y Z;refine alB ?_;simp only[go_sem,J,V,hsh,o];apply aa Z M;simp only[go_sem,J,K];apply aa Z m;refine wi ?_;apply aa Z O;simp only[go_sem,J];apply aa Z P;simp only[go_sem,J];refine⟨π,⟨ω,ω⟩,π,?_⟩;refine cw Y (ks:=ajU) (n:=2000) 4 ?_ ?_
  .simp only[go_sem];exact⟨aG _,bR (by show 0+n*1<=((id.map bt).map AV.p).length;simp;omega) _ _ (GK _ _ _)⟩
  simp only[go_sem,J,D];rw[cD ζ,aJ];exact Φ
end
def ajS:List Nat:=[0,1,2,3,4,5,7,10,11,12,13,14,15,17,18,29,63,74,106]
attribute[go_sem]ajS
theorem pq{A B:Prop}(b:B)(k:Hid B->A:=by
 intro zz
 skip
 simp only[go_sem,J]
 refine x_b Z hb ?_
 simp only[go_sem,J,n1]
 apply bM (fun _:Unit=>(⟨130,[(5,.ptr 0 0),(7,.ptr 1 0),(10,.ptr 2 0),(11,.ptr 3 0),(12,.i 0),(13,.ptr 4 0),(15,.ptr 5 0)],[(0,some ⟨41,dvC (bp d)⟩),(1,some ⟨118,rqC (rqP r)⟩),(2,some ⟨41,dvC dv0⟩),(3,some ⟨114,rpC rp0⟩),(4,some ⟨wkT,wkC w2⟩),(5,some ⟨39,[.b d1.nx.act,.i d1.nx.sin,.w d1.nx.hsh,.i d1.nx.flg,.p (.data 1 d1.nx.ids.length (d1.nx.ids.map byP))]⟩)],6⟩:AS)) (fun _=>True)
 case tree =>
  intro hj
  have hj:=hj () trivial
  refine bm h0 hj (aA [0,1,2,3,4,5] rfl κ ?_ rfl rfl (cV rfl))
  simp only[go_sem,n1,and_true,true_and]
  exact Rh _ _ _ _ _ (by rw[hd2];exact Ri (bp {d1 with nx:=it0})) (by rw[e2]) (by rw[e2]) (by rw[e2]) (by rw[e2]) (by rw[e2])
 rintro _ -
 apply l6 Y (ks:=ajS) (n:=2000);replace Z:XK prog ajS c _:=⟨J,Y⟩
 exact zz.h):A:=k ⟨b⟩
theorem NE{A B:Prop}(b:B)(k:Hid B->A:=by
 intro zz
 simp only[go_sem,J,hnx,ha,hd2n,hs,hni]
 refine⟨π,?_⟩
 simp only[go_sem,J,hnx,hti]
 exact zz.h):A:=k ⟨b⟩
theorem AH{A B:Prop}(b:B)(k:Hid B->A:=by
 intro zz
 repeat' (first|refine⟨ω,?_⟩|refine⟨π,?_⟩)
 try simp only[byP]
 apply aa Z hrs
 simp only[go_sem,J]
 refine⟨π,?_⟩
 exact zz.h):A:=k ⟨b⟩
theorem NF{A B:Prop}(b:B)(k:Hid B->A:=by
 intro zz
 simp only[go_sem,J,hnx,hbt]
 repeat' (first|refine⟨ω,?_⟩|refine⟨π,?_⟩)
 try simp only[byP]
 refine x_w Z has ?_
 simp only[go_sem,J]
 refine⟨π,?_⟩
 exact zz.h):A:=k ⟨b⟩
theorem NG{A B:Prop}(b:B)(k:Hid B->A:=by
 intro zz
 simp only[go_sem,J,hnx,ha,hd2n,hs,hni]
 refine⟨π,?_⟩
 simp only[go_sem,J,hnx,hti,hd2]
 repeat' (first|refine⟨ω,?_⟩|refine⟨π,?_⟩)
 simp only[hl1,htk]
 exact zz.h):A:=k ⟨b⟩
def ajO:List Nat:=1000006::ajS
attribute[go_sem]ajO
theorem QD{f:aO}{d:aU}{G:Int}(L:DInv f d G)(hG:G<900000)(now:Int)(r:RqM)(M:aP r)(gs:List (Int×Int))(Q:gs.length<1000000)(bu:Int)(N:i64 bu) :
 ∃a x left,Ret f (G+1) a x left/\FPure prog 196 [bg d,.i now,rqA r,gsA gs,.i bu] (ne a x left):=by
 by_cases he:bgE d now r 4=0
 case neg =>
  refine⟨d,_,bu,ob (L.mono ω) (bgE d now r 4) bu N,?_⟩;have hb:=dD d now r M gs bu 4 he;generalize bgE d now r 4=e at *;refine ba f196 ajS ?_;intro c J h0 Y Z;exact afJ
 have hb:=eC d now r M gs bu 4 he;have R:=gf (kp he).2.2.2;have A:=gR (bu:=bu) (gs:=gs) L he N;have S:=A.r;have v:(bgW d now r gs bu 4).er=0:=rfl;have T:(bgW d now r gs bu 4).rep=rp0:=rfl;generalize bgW d now r gs bu 4=w at *;obtain⟨d1,n1,U,n3⟩:=A.d;have g:=U v;have u:=A.setd {d1 with nx:=it0} (g.upd rfl rfl g.now ⟨by show 0<1000;decide,fun b hb=>by cases hb⟩ rfl);obtain⟨w2,e2⟩:∃x:Wkp,x={w with d:=bp {d1 with nx:=it0} }:=⟨_,rfl⟩
 rw[<-e2] at u;have y:w2.er=0:=by rw[e2];exact v
 have hd2:w2.d=bp {d1 with nx:=it0}:=by rw[e2]
 have hd2n:w2.d.now=d1.now:=by rw[hd2];rfl
 have z:=g.ids;obtain⟨⟨act,sin,hsh,flg,ids⟩,hnx⟩:∃x,d1.nx=x:=⟨_,rfl⟩
 rw[hnx] at z;dsimp only at z;by_cases ha:act=true
 case neg =>
  have m:=aW w2 18;have B:act=false:=by simpa using ha
  obtain⟨a,X,left,h2,hen⟩:=(u.fail 18).fin;refine⟨a,X,left,h2.mono ω,?_⟩;refine ba f196 ajO ?_;intro c J h0 Y Z;refine pq ?_;simp only[go_sem,J,hnx,B];refine⟨π,?_⟩;refine x_w Z m ?_;simp only[go_sem,J];exact vy
 by_cases hs:d1.now>a'.wrap (sin+30)
 case pos =>
  have m:=aW w2 18;obtain⟨a,X,left,h2,hen⟩:=(u.fail 18).fin;refine⟨a,X,left,h2.mono ω,?_⟩;refine ba f196 ajO ?_;intro c J h0 Y Z;refine pq ?_;simp only[go_sem,J,hnx,ha,hd2n,hs];refine⟨π,?_⟩;refine x_w Z m ?_;simp only[go_sem,J];exact vy
 by_cases O:ids=[]
 case pos =>
  have m:=aW w2 18;have hni:(ids.length:Int)=0:=by rw[O];rfl
  obtain⟨a,X,left,h2,hen⟩:=(u.fail 18).fin;refine⟨a,X,left,h2.mono ω,?_⟩;refine ba f196 ajO ?_;intro c J h0 Y Z;refine pq ?_;simp only[go_sem,J,hnx,ha,hd2n,hs,hni];refine⟨π,?_⟩;refine x_w Z m ?_;simp only[go_sem,J];exact vy
 obtain⟨id,t,rfl⟩:∃x l3,ids=x::l3:=by
  match ids,O with
  |x::l3,_=>exact⟨x,l3,rfl⟩
 have V:=z.2 id (List.mem_cons_self ..);have hni:¬(((t.length+1:Nat):Int)=0):=ω;by_cases P:t=[]
 case pos =>
  have hti:¬(((t.length+1:Nat):Int)>1):=by rw[P];show¬((1:Nat):Int)>1;decide
  have o:=u;have h:=y;obtain⟨p,C,F,W⟩:=o.d;have j:=F h;obtain⟨D,I⟩:=ou p j.vl j.st.c;obtain⟨k,x,b,hk,q,-,hrs⟩:=j7 p D I id id.length rfl;rw[show bg p=AV.agg (dvC (w2).d) from by rw[C]] at hrs;by_cases hbt:b=true
  case neg =>
   have m:=aW (w2) 31;have s:b=false:=by simpa using hbt
   obtain⟨a,X,left,h2,hen⟩:=(o.fail 31).fin;refine⟨a,X,left,h2.mono ω,?_⟩;refine ba f196 ajO ?_;intro c J h0 Y Z;refine pq ?_;refine NE ?_;refine AH ?_;simp only[go_sem,J,s];refine x_w Z m ?_;simp only[go_sem,J];exact vy
  obtain⟨w4,K,has⟩:=r7 o h ω x (q hbt).1 id id.length rfl ω hsh flg;obtain⟨a,X,left,h2,hen⟩:=(K).fin;refine⟨a,X,left,h2.mono ω,?_⟩;refine ba f196 ajO ?_;intro c J h0 Y Z;refine pq ?_;refine NE ?_;refine AH ?_;refine NF ?_;exact vy
 have hti:(((t.length+1:Nat):Int)>1):=by
  match t,P with
  |x::l,_=>simp only[ew];omega
 have o:=u.setd {d1 with nx:=⟨true,d1.now,hsh,flg,t⟩} (g.upd rfl rfl g.now ⟨by have:=z.1;simp at this;show t.length<1000;omega,fun b hb=>z.2 b (nk _ hb)⟩ rfl);have h:({w2 with d:=bp {d1 with nx:=⟨true,d1.now,hsh,flg,t⟩} }:Wkp).er=0:=y;obtain⟨p,C,F,W⟩:=o.d;have hl1:t.length+1-1=t.length:=Nat.add_sub_cancel ..;have htk:List.take t.length (t.map byP)=t.map byP:=cD η;have j:=F h;obtain⟨D,I⟩:=ou p j.vl j.st.c;obtain⟨k,x,b,hk,q,-,hrs⟩:=j7 p D I id id.length rfl;rw[show bg p=AV.agg (dvC (({w2 with d:=bp {d1 with nx:=⟨true,d1.now,hsh,flg,t⟩} }:Wkp)).d) from by rw[C]] at hrs;by_cases hbt:b=true
 case neg =>
  have m:=aW (({w2 with d:=bp {d1 with nx:=⟨true,d1.now,hsh,flg,t⟩} }:Wkp)) 31;have s:b=false:=by simpa using hbt
  obtain⟨a,X,left,h2,hen⟩:=(o.fail 31).fin;refine⟨a,X,left,h2.mono ω,?_⟩;refine ba f196 ajO ?_;intro c J h0 Y Z;refine pq ?_;refine NG ?_;refine AH ?_;simp only[go_sem,J,s];refine x_w Z m ?_;simp only[go_sem,J];exact vy
 obtain⟨w4,K,has⟩:=r7 o h ω x (q hbt).1 id id.length rfl ω hsh flg;obtain⟨a,X,left,h2,hen⟩:=(K).fin;refine⟨a,X,left,h2.mono ω,?_⟩;refine ba f196 ajO ?_;intro c J h0 Y Z;refine pq ?_;refine NG ?_;refine AH ?_;refine NF ?_;exact vy
theorem px(h:bv)(S:List Nat)(σ:Nat->Nat)(l:List (List UInt8)):aj h S σ (byL l) (byL l)↔True:=⟨fun _=>trivial,fun _=>dK h S σ l⟩
def r8(X:Nat->Cr)(I:Nat->List UInt8)(q:Nat->Bool)(p0:List Cr×List (List UInt8)):Nat->List Cr×List (List UInt8)
 |0=>p0
 |k+1=>if q k=true then((r8 X I q p0 k).1++[X k],(r8 X I q p0 k).2++[I k]) else r8 X I q p0 k
theorem qK{X:Nat->Cr}{I:Nat->List UInt8}{q:Nat->Bool}{p0:List Cr×List (List UInt8)}(a:p0.2.length=p0.1.length):∀k,(r8 X I q p0 k).2.length=(r8 X I q p0 k).1.length/\(r8 X I q p0 k).1.length<=p0.1.length+k
 |0=>⟨a,c7 _⟩
 |k+1=>by
  have:=qK a (X:=X) (I:=I) (q:=q) k;rw[r8];split
  .simp;omega
  .omega
theorem qL{X:Nat->Cr}{I:Nat->List UInt8}{q:Nat->Bool}{p0:List Cr×List (List UInt8)}(A:Cr->Prop)(B:List UInt8->Prop)(h1:∀x,x∈p0.1->A x)(h2:∀b,b∈p0.2->B b):∀k,(∀i,i<k->q i=true->A (X i)/\B (I i))->(∀x,x∈(r8 X I q p0 k).1->A x)/\(∀b,b∈(r8 X I q p0 k).2->B b)
 |0,_=>⟨h1,h2⟩
 |k+1,h=>by
  have e:=qL A B h1 h2 k (fun i j=>h i ω);rw[r8];split
  .rename_i g;have:=h k ω g
   exact⟨fun x a=>by
    rcases o1.1 a with a|a
    .exact e.1 x a
    .rw[n4.1 a];exact this.1,fun x a=>by
    rcases o1.1 a with a|a
    .exact e.2 x a
    .rw[n4.1 a];exact this.2⟩
  .exact e
theorem Jr(d:aU)(hv:VLen d.v.prs)(l:List Cr)(ids:List (List UInt8))(n:Nat)(V:l.length=n)(K:ids.length=n)(M:n<1000)(A:Cr->Prop)(B:List UInt8->Prop)(O:∀b,B b->b.length<100000)(h1:∀x,x∈l->A x)(h2:∀b,b∈ids->B b) :
 ∃(m:Nat) (l':List Cr) (ids':List (List UInt8)),l'.length=m/\ids'.length=m/\m<=n/\(∀x,x∈l'->A x)/\(∀b,b∈ids'->B b) /\
  FPure prog 274 [bg d,.p (.data 9 n (jS l)),.p (.data 1 n (ids.map byP))] (.tup [.p (.data 9 m (jS l')),.p (.data 1 m (ids'.map byP))]):=by
 obtain⟨q,Q⟩:∃q:Nat->Bool,∀i,q i=decide ((bc d.v.prs (dU (bq d.v.prs) (bA 10 0 (ids.getD i [])))).x.nx<(bc d.v.prs (dU (bq d.v.prs) (bA 10 0 (ids.getD i [])))).x.tto):=⟨_,fun _=>rfl⟩;have g:=qK (X:=fun i=>l.getD i cr0) (I:=fun i=>ids.getD i []) (q:=q) (p0:=([],[])) rfl;obtain⟨z,C⟩:=qL (X:=fun i=>l.getD i cr0) (I:=fun i=>ids.getD i []) (q:=q) (p0:=([],[])) A B (fun x t=>by cases t) (fun x t=>by cases t) n (fun i R _=>⟨h1 _ (eS ω _),h2 _ (eS ω _)⟩);refine⟨_,_,_,rfl,(g n).1,by have:=(g n).2;rw[show(([],[]):List Cr×List (List UInt8)).1.length=0 from rfl] at this;omega,z,C,?_⟩;obtain⟨P,a⟩:∃P,r8 (fun i=>l.getD i cr0) (fun i=>ids.getD i []) q ([],[])=P:=⟨_,rfl⟩
 have u:∀k,P (k+1)=if q k=true then((P k).1++[l.getD k cr0],(P k).2++[ids.getD k []]) else P k:=fun k=>by rw[<-a];rfl
 have hPz:P 0=([],[]):=by rw[<-a];rfl
 rw[a] at g⊢;clear z C a;refine ba f274 [0,1,2,3,6,7,8,9,10,11,13,18,40] ?_;intro c J S Y Z;simp only[go_sem,J];refine aX 46 ?_;refine aX 28 ?_;refine ay Y S [0,1,2,3,6,7,8,9,10,11,13,18,40] n (fun i=>⟨57,[(1,.p (.data 9 n (jS l))),(2,.p (.data 1 n (ids.map byP))),(3,.ptr 0 0),(8,.sl 1 0 (P i).1.length 9),(9,.sl 2 0 (P i).1.length 1),(10,.i i)],[(0,some ⟨41,dvC (bp d)⟩),(1,some ⟨46,crA (P i).1⟩),(2,some ⟨28,byL (P i).2⟩)],3⟩) [] (fun i=>i) ⟨rfl,?_,?_,rfl,rfl,trivial,fun i h=>h⟩ ?_
 .simp only[go_sem,hPz]
 .exact ah0
 intro i K;rcases ea i n with j|T
 .have D:=ac i
  have o:=dR d (ids.getD i []) _ rfl (O _ (h2 _ (eS ω _))) hv;have F:dU (bq d.v.prs) (bA 10 0 (ids.getD i []))<16:=lH _ 16 ε _ (ic _ 16);have r:=Q i;generalize dU (bq d.v.prs) (bA 10 0 (ids.getD i []))=N at *;have s:=gM d N ω hv;generalize bc d.v.prs N=L at *;have y:=tR l i ω;rw[u i];have e:=g i;have U:(P i).1.length<=i:=by have:=e.2;simpa using this
  generalize P i=p at *;generalize l.getD i cr0=x at *;by_cases c:L.x.nx<L.x.tto
  .rw[b9 (by rw[r];exact qi c)];simp only[go_sem,J,(ω:((i:Int)<(n:Int))),bC,byP];refine⟨ω,ω,?_⟩;refine aa Z o ?_;simp only[go_sem,J];refine⟨π,?_⟩;refine aa Z s ?_;simp only[go_sem,J,c,D,y,crP,bC,byP];refine⟨⟨ω,ω⟩,⟨ω,ω⟩,⟨ω,ω⟩,ω,⟨e.1,ω,ω⟩,π,j,aA [0,5,7] rfl ?_ ?_ rfl rfl (cV rfl)⟩
   .simp only[go_sem]
   .simp only[go_sem];rw[show crA p.1++[sv x.rp,sv x.us,sv x.nm,AV.w x.sd,AV.i x.hg,AV.b x.rs,AV.i x.pt,AV.b x.sh,AV.b x.bk]=crA (p.1++[x]) from qD p.1 x];exact aiW
  .rw[b0 (by rw[r,p4 c];decide)];simp only[go_sem,J,(ω:((i:Int)<(n:Int))),bC,byP];refine⟨ω,ω,?_⟩;refine aa Z o ?_;simp only[go_sem,J];refine⟨π,?_⟩;refine aa Z s ?_;simp only[go_sem,J,c,D];exact⟨j,aA [0,1,2] rfl κ (by simp only[go_sem,px]) rfl rfl (cV rfl)⟩
 obtain rfl:i=n:=by omega
 simp only[go_sem,J,(ω:¬((i:Int)<(i:Int)))];have e:=g i;exact agy
def ajT:List Nat:=[0,1,2,3,4,6,7,8,9,10,11,12,14,15,16,21,58,82,103]
attribute[go_sem]ajT
theorem QE{f:aO}{d:aU}{G:Int}(hd:DOn f d G)(r:RqM)(U:ady r)(v:Bool) :
 ∃(m:Nat) (l:List Cr) (ids:List (List UInt8)),l.length=m/\ids.length=m/\m<=16/\(∀x,x∈l->CrOk x)/\(∀b,b∈ids->b.length=176) /\
  FPure prog 273 [bg d,rqA r,.b v] (.tup [.p (.data 9 m (jS l)),.p (.data 1 m (ids.map byP))]):=by
 obtain⟨D,hD⟩:=ou d hd.vl hd.st.c;have hcr:=qE d D hD;have hcl:=m9 D 8;have V:=AD hD 8 (c7 _);generalize md D 8=C at *;have L:∀i:Nat,∃p:Cr×Int,i<r.ls.length->(p.2=0->CrOk p.1)/\FPure prog 264 [bg d,sv r.rp,.p (.data 1 (r.ls.getD i []).length ((r.ls.getD i []).map bt))] (.tup [.agg (crC p.1),.i p.2]):=by
  intro i;by_cases O:i<r.ls.length
  .obtain⟨x,e,h1,h2⟩:=G6 d D hD hd.st.m r.rp (r.ls.getD i []) _ rfl (by rw[U.el _ (eS O _)];decide) (by have:=U.rp;omega);exact⟨(x,e),fun _=>⟨fun h=>(h1 h).1,h2⟩⟩
  .exact⟨(cr0,0),fun h=>s5 h O⟩
 obtain⟨F,hF⟩:=Classical.axiomOfChoice L;obtain⟨q,hq⟩:∃q:Nat->Bool,∀i,q i=decide (¬dU (bq d.v.prs) (bA 10 0 (r.ls.getD i []))=0/\(F i).2=0/\(v=true\/¬(F i).1.pt=3)):=⟨_,fun _=>rfl⟩
 obtain⟨q2,hq2⟩:∃q:Nat->Bool,∀i,q i=decide ((C.getD i cr0).rp=r.rp/\(v=true\/(C.getD i cr0).pt=1)):=⟨_,fun _=>rfl⟩;obtain⟨P,s⟩:∃P,r8 (fun i=>(F i).1) (fun i=>r.ls.getD i []) q ([],[])=P:=⟨_,rfl⟩
 obtain⟨M,hM⟩:∃M,M=if r.ls.length=0 then C.length else 0:=⟨_,rfl⟩;obtain⟨Q,t⟩:∃Q,r8 (fun i=>C.getD i cr0) (fun i=>idR (C.getD i cr0)) q2 (P r.ls.length)=Q:=⟨_,rfl⟩
 have hPz:P 0=([],[]):=by rw[<-s];rfl
 have hPs:∀k,P (k+1)=if q k=true then((P k).1++[(F k).1],(P k).2++[r.ls.getD k []]) else P k:=fun k=>by rw[<-s];rfl
 have W:Q 0=P r.ls.length:=by rw[<-t];rfl
 have hQs:∀k,Q (k+1)=if q2 k=true then((Q k).1++[C.getD k cr0],(Q k).2++[idR (C.getD k cr0)]) else Q k:=fun k=>by rw[<-t];rfl
 have R:∀k,(P k).2.length=(P k).1.length/\(P k).1.length<=k:=fun k=>by
  have:=qK (X:=fun i=>(F i).1) (I:=fun i=>r.ls.getD i []) (q:=q) (p0:=([],[])) rfl k;rw[s] at this;simpa using this
 have S:∀k,(Q k).2.length=(Q k).1.length/\(Q k).1.length<=r.ls.length+k:=fun k=>by
  have:=qK (X:=fun i=>C.getD i cr0) (I:=fun i=>idR (C.getD i cr0)) (q:=q2) (p0:=P r.ls.length) (R _).1 k;rw[t] at this;have h2:=(R r.ls.length).2;exact⟨this.1,ω⟩
 have u:=qL (X:=fun i=>(F i).1) (I:=fun i=>r.ls.getD i []) (q:=q) (p0:=([],[])) CrOk (fun b=>b.length=176) (fun x T=>by cases T) (fun x T=>by cases T) r.ls.length (fun i O g=>by
  rw[hq i] at g
  exact⟨(hF i O).1 (su g).2.1,U.el _ (eS O _)⟩)
 rw[s] at u;have hMle:M<=C.length:=by rw[hM];split<;>omega
 have y:=qL (X:=fun i=>C.getD i cr0) (I:=fun i=>idR (C.getD i cr0)) (q:=q2) (p0:=P r.ls.length) CrOk (fun b=>b.length=176) u.1 u.2 M (fun i O _=>⟨(V _ (eS ω _)).1,nK _⟩);rw[t] at y;have hls:=U.ls;refine⟨_,(Q M).1,(Q M).2,rfl,(S M).1,by have:=(S M).2;omega,y.1,y.2,?_⟩;clear u y s t;refine ba f273 ajT ?_;intro c J h0 Y Z;simp only[go_sem,J];refine aX 46 ?_;refine aX 28 ?_;refine ay Y h0 ajT r.ls.length (fun i=>⟨121,[(2,.b v),(3,.ptr 0 0),(4,.ptr 1 0),(8,.sl 2 0 (P i).1.length 9),(9,.sl 3 0 (P i).1.length 1),(10,.i i)],[(0,some ⟨41,dvC (bp d)⟩),(1,some ⟨118,rqC (rqP r)⟩),(2,some ⟨46,crA (P i).1⟩),(3,some ⟨28,byL (P i).2⟩)],4⟩) [] (fun i=>i) ⟨rfl,?_,?_,rfl,rfl,trivial,fun i h=>h⟩ ?_
 .simp only[go_sem,hPz]
 .exact ah0
 intro i O;rcases ea i r.ls.length with hlt|hge
 .have K:=ac i
  have hil:(i:Int)<(r.ls.length:Int):=ω;have hfi:=(hF i hlt).2;have hnu:=dR d (r.ls.getD i []) _ rfl (by rw[U.el _ (eS hlt _)];decide) hd.vl;have g:=hq i;have hLi:=R i;rw[hPs i];generalize dU (bq d.v.prs) (bA 10 0 (r.ls.getD i []))=N at *;generalize F i=p at *;generalize P i=pp at *;by_cases c:¬N=0/\p.2=0/\(v=true\/¬p.1.pt=3)
  .rw[b9 (by rw[g];exact qi c)];obtain⟨a,o,c3⟩:=c;have n:(v=true/\v=true)\/(v=false/\¬p.1.pt=3):=by
    exact ah7
   rcases n with⟨n,c5⟩|⟨n,c5⟩
   all_goals
    simp only[go_sem,J,hil,bC,byP];refine⟨ω,ω,?_⟩;refine aa Z hfi ?_;simp only[go_sem,J,hil,bC,byP];refine⟨π,ω,ω,?_⟩;refine aa Z hnu ?_;simp only[go_sem,J,a,o,n,c5,K,hil,bC,byP];refine⟨π,⟨ω,ω⟩,ω,ω,⟨hLi.1,ω,ω⟩,π,hlt,aA [0,1,6,8] rfl ?_ ?_ rfl rfl (cV rfl)⟩
    .simp only[go_sem,n]
    .simp only[go_sem];rw[show crA pp.1++[sv p.1.rp,sv p.1.us,sv p.1.nm,AV.w p.1.sd,AV.i p.1.hg,AV.b p.1.rs,AV.i p.1.pt,AV.b p.1.sh,AV.b p.1.bk]=crA (pp.1++[p.1]) from qD pp.1 p.1];exact aiW
  .rw[b0 (by rw[g,p4 c];decide)];have n:N=0\/(¬N=0/\¬p.2=0)\/(¬N=0/\p.2=0/\v=false/\p.1.pt=3):=by
    by_cases a:N=0
    .exact .inl a
    by_cases o:p.2=0
    .refine .inr (.inr ⟨a,o,?_,Decidable.byContradiction fun h=>c ⟨a,o,.inr h⟩⟩);cases v with
     |true=>exact s5 ⟨a,o,.inl rfl⟩ c
     |false=>rfl
    .exact .inr (.inl ⟨a,o⟩)
   rcases n with a|⟨a,o⟩|⟨a,o,c3,n⟩
   all_goals
    simp only[go_sem,J,hil,bC,byP];refine⟨ω,ω,?_⟩;refine aa Z hfi ?_;simp only[go_sem,J,hil,bC,byP];refine⟨π,ω,ω,?_⟩;refine aa Z hnu ?_
   .simp only[go_sem,J,a,K];exact aif
   .simp only[go_sem,J,a,o,K];exact aif
   .simp only[go_sem,J,a,o,c3,n,K];exact⟨π,hlt,aA [0,1,2,3] rfl (by simp only[go_sem,c3]) (by simp only[go_sem,px]) rfl rfl (cV rfl)⟩
 obtain rfl:i=r.ls.length:=by omega
 simp only[go_sem,J,(ω:¬((r.ls.length:Int)<(r.ls.length:Int)))];refine aa Z hcr ?_;simp only[go_sem,J];refine ay Y h0 ajT M (fun j=>⟨121,[(2,.b v),(4,.ptr 1 0),(8,.sl 2 0 (Q j).1.length 9),(9,.sl 3 0 (Q j).1.length 1),(15,.p (.data 9 C.length (jS C))),(16,.i j)],[(1,some ⟨118,rqC (rqP r)⟩),(2,some ⟨46,crA (Q j).1⟩),(3,some ⟨28,byL (Q j).2⟩)],4⟩) [] (fun i=>i) ⟨rfl,?_,?_,rfl,rfl,trivial,fun i h=>h⟩ ?_
 .simp only[go_sem,W]
 .simp only[go_sem,W,px]
 intro j hj;have hLj:=S j;rcases ea j M with hlt|hge
 .have hz:r.ls.length=0:=Decidable.byContradiction fun h=>by rw[hM,b0 h] at hlt;omega
  have hjC:j<C.length:=ω;have z:(r.ls.length:Int)=0:=ω;have A:(j:Int)<(C.length:Int):=ω;have K:=ac j
  have B:=tR C j hjC;have g:=hq2 j;rw[hQs j];obtain⟨T,hxr⟩:=V _ (eS hjC cr0);have hid:=nF _ T hxr;have hidl:=nK (C.getD j cr0);generalize C.getD j cr0=x at *;generalize idR x=I at *;generalize Q j=pp at *;by_cases c:x.rp=r.rp/\(v=true\/x.pt=1)
  .rw[b9 (by rw[g];exact qi c)];obtain⟨a,c3⟩:=c;have n:(v=true/\v=true)\/(v=false/\x.pt=1):=by
    exact ah7
   rcases n with⟨n,c5⟩|⟨n,c5⟩
   all_goals
    simp only[go_sem,J,z,A,B,crP,cK,sy a,n,sy c5]
    first
     |refine⟨ω,ω,π,ω,⟨ω,ω⟩,ω,?_⟩
     |refine⟨ω,π,ω,⟨ω,ω⟩,ω,?_⟩
    refine aa Z hid ?_;simp only[go_sem,J,z,A,B,crP,K];refine⟨⟨hLj.1,ω,ω⟩,π,hlt,aA [0,1,5,7] rfl ?_ ?_ rfl rfl (cV rfl)⟩
    .simp only[go_sem,n]
    .simp only[go_sem];rw[show crA pp.1++[sv x.rp,sv x.us,sv x.nm,AV.w x.sd,AV.i x.hg,AV.b x.rs,AV.i x.pt,AV.b x.sh,AV.b x.bk]=crA (pp.1++[x]) from qD pp.1 x,show byL pp.2++[AV.p (.data 1 176 (I.map bt))]=byL (pp.2++[I]) from by rw[<-hidl];exact qb _ _];exact aiW
  .rw[b0 (by rw[g,p4 c];decide)];have n:¬x.rp=r.rp\/(x.rp=r.rp/\v=false/\¬x.pt=1):=by
    by_cases a:x.rp=r.rp
    .refine .inr ⟨a,?_,fun h=>c ⟨a,.inr h⟩⟩;cases v with
     |true=>exact s5 ⟨a,.inl rfl⟩ c
     |false=>rfl
    .exact .inl a
   rcases n with a|⟨a,o,c3⟩
   .rcases l1 v with hv|hv
    all_goals
     simp only[go_sem,J,z,A,B,crP,cK,eq_false a,K,hv];refine⟨ω,π,hlt,aA [0,1,2,3] rfl (by simp only[go_sem,hv]) (by simp only[go_sem,px]) rfl rfl (cV rfl)⟩
   .simp only[go_sem,J,z,A,B,crP,cK,sy a,o,c3,K];refine⟨ω,ω,π,hlt,aA [0,1,2,3] rfl (by simp only[go_sem,o]) (by simp only[go_sem,px]) rfl rfl (cV rfl)⟩
 .have e:j=M:=ω;have T:(M=C.length/\M=C.length)\/(M<C.length/\¬r.ls.length=0):=by
   rw[hM];by_cases hz:r.ls.length=0
   .rw[b9 hz];exact .inl ⟨rfl,rfl⟩
   .rw[b0 hz];by_cases h:C.length=0
    .exact .inl ⟨h.symm,h.symm⟩
    .exact .inr ⟨ω,hz⟩
  subst e;rcases T with⟨h1,h2⟩|⟨h1,h2⟩
  .simp only[go_sem,J,(ω:¬((j:Int)<(C.length:Int)))];exact agy
  .simp only[go_sem,J,(ω:((j:Int)<(C.length:Int))),(ω:¬((r.ls.length:Int)=0))];exact agy
def enC(e:Cr×Int):List AV:=[sv e.1.rp,sv e.1.us,sv e.1.nm,.p (byP (idR e.1)),.i e.2]
def enP(e:Cr×Int):List PV:=[.v (.string ⟨e.1.rp.toArray⟩),.v (.string ⟨e.1.us.toArray⟩),.v (.string ⟨e.1.nm.toArray⟩),byP (idR e.1),.v (.int .i64 e.2)]
def Js(l:List (Cr×Int)):List PV:=l.flatMap enP
def enA(l:List (Cr×Int)):List AV:=(Js l).map .p
theorem AI(l:List (Cr×Int)):(enA l).length=l.length*5:=by
 unfold enA Js;rw[List.length_map]
 induction l with
 |nil=>rfl
 |cons a l b=>rw[s6,c9,b,ew];show 5+_=_;omega
theorem Fw(h:bv)(S:List Nat)(σ:Nat->Nat)(l:List (Cr×Int)):aj h S σ (enA l) (enA l)↔True:=⟨fun _=>trivial,fun _=>aL h S σ _⟩
theorem aeA(l:List (Cr×Int)):jN (enA l)↔True:=⟨fun _=>trivial,fun _=>aG _⟩
theorem NH(l:List (Cr×Int)):jO (enA l)=Js l:=aJ _
theorem NI(l:List (Cr×Int))(x:Cr×Int):enA l++enC x=enA (l++[x]):=by simp[enA,Js,enP,enC]
theorem ZK(τ:Nat->Nat)(l:List (Cr×Int)):eu τ (enA l)=enA l:=cT τ _
theorem Hb(l:List (Cr×Int)):iY (enA l):=fun c hc=>by
 exact agN
theorem ZL(i:Nat)(b:Blk)(l:List (Cr×Int)):fJ i b (enA l)=enA l:=ej i b _ (Hb l)
theorem ZM(i:Nat)(b:Blk)(l:List (Cr×Int)):eU i b (enA l):=dx i b _ (Hb l)
theorem ZN(x:Wkp)(v:AV):((wkC x).set 72 v).take 32=dvC x.d:=rfl
theorem ZO(x:Wkp)(v:AV)(d:PV):ag d (((wkC x).set 72 v).drop 72)=v:=rfl
theorem ZP(x:Wkp)(a:x.rep.en = .nil):(wkC x).set 72 (.p (.v (.slice none 0 0)))=wkC x:=by
 rw[MG];obtain⟨d,r,g,bu,rep,er⟩:=x;cases rep;cases a;rfl
section
attribute[local go_sem]AI Fw aeA NH ZK ZL ZM ZN ZO List.set_set List.length_set gj
theorem NJ{A B:Prop}(b:B)(k:Hid B->A:=by
 intro zz
 simp only[go_sem,J]
 refine x_b Z hb ?_
 simp only[go_sem,J]
 refine x_w Z k3 ?_
 exact zz.h):A:=k ⟨b⟩
theorem ZQ{A B:Prop}(b:B)(k:Hid B->A:=by
 intro zz
 refine aj5 ?_
 apply aa Z hcr
 simp only[go_sem,J]
 exact zz.h):A:=k ⟨b⟩
def ajQ:List Nat:=[0,1,2,3,4,5,7,10,11,12,13,14,15,16,17,18,19,20,32,39,53,87]
attribute[go_sem]ajQ
theorem QF{f:aO}{d:aU}{G:Int}(hd:DInv f d G)(hG:G<900000)(now:Int)(r:RqM)(P:aP r)(gs:List (Int×Int))(hgl:gs.length<1000000)(bu:Int)(hB:i64 bu) :
 ∃o x left,Ret f (G+1) o x left/\FPure prog 203 [bg d,.i now,rqA r,gsA gs,.i bu] (ne o x left):=by
 by_cases he:bgE d now r 11=0
 case neg =>
  refine⟨d,_,bu,ob (hd.mono ω) (bgE d now r 11) bu hB,?_⟩;have hb:=dD d now r P gs bu 11 he;generalize bgE d now r 11=e at *;refine ba f203 ajQ ?_;intro c J Q Y Z;exact afJ
 have hb:=eC d now r P gs bu 11 he;have hrq:=gf (kp he).2.2.2;have l:=gR (bu:=bu) (gs:=gs) hd he hB;have hwr:=l.r;have R:(bgW d now r gs bu 11).er=0:=rfl;have T:(bgW d now r gs bu 11).rep=rp0:=rfl;generalize bgW d now r gs bu 11=w at *;obtain⟨d1,n1,n2,n3⟩:=l.d;have hd1:=n2 R;obtain⟨w1,q,⟨k2,U⟩,k3⟩:=lU l P;by_cases hz:w1.er=0
 case neg =>
  obtain⟨o,X,left,h2,hen⟩:=(q).fin;refine⟨o,X,left,h2.mono ω,?_⟩;refine ba f203 ajQ ?_;intro c J Q Y Z;refine NJ ?_;simp only[go_sem,J,hz,decide_true,decide_false,not_true,not_false_eq_true];exact vy
 have s:w1.rep.en = .nil:=by rw[U,T];rfl
 obtain⟨a,m1,m2,m3⟩:=q.d;have b:=m2 hz;obtain⟨D,hD⟩:=ou a b.vl b.st.c;have hcr:=qE a D hD;have hcl:=m9 D 8;have V:=AD hD 8 (c7 _);generalize md D 8=C at *;rw[show bg a=AV.agg (dvC w1.d) from by rw[m1]] at hcr;obtain⟨M,W⟩:∃M:Nat->Cr×Int,∀i,M i=(C.getD i cr0,if dU (bq a.v.prs) (bA 10 0 (idR (C.getD i cr0)))=0 then 0 else(bc a.v.prs (dU (bq a.v.prs) (bA 10 0 (idR (C.getD i cr0))))).x.tto-(bc a.v.prs (dU (bq a.v.prs) (bA 10 0 (idR (C.getD i cr0))))).x.nx):=⟨_,fun _=>rfl⟩
 obtain⟨L,O⟩:∃L:Nat->List (Cr×Int),∀i,L i=(List.range i).map M:=⟨_,fun _=>rfl⟩;have hL0:L 0=[]:=by rw[O];rfl
 have hLs:∀i,L (i+1)=L i++[M i]:=fun i=>by rw[O,O,List.range_succ,List.map_append];rfl
 have t:∀i,(L i).length=i:=fun i=>by rw[O];simp
 obtain⟨w5,k9,k10,k11⟩:=fH (q.setrep {w1.rep with en := .d 5 C.length (Js (L C.length))} ⟨q.rep.ad,q.rep.id⟩) 4;obtain⟨o,X,left,h2,hen⟩:=(k9).fin;refine⟨o,X,left,h2.mono ω,?_⟩;refine ba f203 ajQ ?_;intro c J Q Y Z;refine NJ ?_;refine ZQ ?_;refine aX 343 ?_;refine ay Y Q ajQ C.length (fun i=>⟨122,[(10,.ptr 2 0),(11,.ptr 3 0),(12,.i 0),(13,.ptr 4 0),(15,.p (.data 9 C.length (jS C))),(16,.i i)],[(2,some ⟨41,dvC dv0⟩),(3,some ⟨114,rpC rp0⟩),(4,some ⟨wkT,(wkC w1).set 72 (.sl 5 0 i 5)⟩),(5,some ⟨343,enA (L i)⟩)],6⟩) [] (fun i=>i) ⟨rfl,?_,?_,rfl,rfl,trivial,fun i h=>h⟩ ?_
 .simp only[go_sem]
 .simp only[go_sem,hL0];have u:=fun h S σ=>bX (h:=h) (S:=S) (σ:=σ) 72 (.sl 5 0 0 5) (.p (.v (.slice none 0 0))) (l7 h S σ w1) κ
  simp only[ZP w1 s] at u;exact⟨u _ _ _,by simp[enA,Js,aj]⟩
 intro i hi;rcases ea i C.length with g|hge
 .have l:=ac i
  have y:(i:Int)<(C.length:Int):=ω;have A:=tR C i g;obtain⟨hx,hxr⟩:=V _ (eS g cr0);have B:=nF _ hx hxr;have j:=nK (C.getD i cr0);have m:=dR a (idR (C.getD i cr0)) 176 j ε b.vl;have hlt16:dU (bq a.v.prs) (bA 10 0 (idR (C.getD i cr0)))<16:=lH _ 16 ε _ (ic _ 16);have hei:=W i;have hLi:=t i;rw[hLs i];generalize C.getD i cr0=x at *;generalize dU (bq a.v.prs) (bA 10 0 (idR x))=N at *;have F:=gM a N ω b.vl;have hlb:=yM a.v.prs N;generalize bc a.v.prs N=zzY at *;have ws:a'.wrap (zzY.x.tto-zzY.x.nx)=zzY.x.tto-zzY.x.nx:=ab ω ω;rw[show bg a=AV.agg (dvC w1.d) from by rw[m1]] at m F;rw[hei];generalize hI:idR x=I at *;generalize L i=Li at *;have K:∀z:Int,enA Li++[sv x.rp,sv x.us,sv x.nm,.p (.data 1 176 (I.map bt)),.i z]=enA (Li++[(x,z)]):=fun z=>by rw[<-NI];simp only[enC,byP,hI,j]
  by_cases hN:N=0
  .simp only[go_sem,J,y,A,crP,cK];refine⟨ω,ω,ω,ω,?_⟩;refine aa Z B ?_;simp only[go_sem,J];refine⟨π,?_⟩;refine aa Z m ?_;simp only[go_sem,J,hN,l];refine⟨π,⟨ω,ω,ω⟩,π,g,aA [0,1,2,3,4,8] rfl ?_ ?_ rfl rfl (cV rfl)⟩
   .simp only[go_sem]
   .simp only[go_sem,K,Fw];exact bX 72 _ _ (l7 _ _ _ _) κ
  .simp only[go_sem,J,y,A,crP,cK];refine⟨ω,ω,ω,ω,?_⟩;refine aa Z B ?_;simp only[go_sem,J];refine⟨π,?_⟩;refine aa Z m ?_;simp only[go_sem,J,hN,l];refine⟨π,?_⟩;refine aa Z F ?_;simp only[go_sem,J,ws,l];refine⟨⟨ω,ω,ω⟩,π,g,aA [0,1,2,3,4,9] rfl ?_ ?_ rfl rfl (cV rfl)⟩
   .simp only[go_sem]
   .simp only[go_sem,K,Fw];exact bX 72 _ _ (l7 _ _ _ _) κ
 .obtain rfl:i=C.length:=by omega
  have hll:=t C.length;generalize L C.length=LL at *;simp only[go_sem,J,(ω:¬((C.length:Int)<(C.length:Int)))];refine gU Y (ks:=ajQ) (n:=2000) 5 ?_ ?_
  .simp only[go_sem];exact bR (by show 0+C.length*5<=(enA LL).length;rw[AI];omega) _ _ (GK _ _ _)
  simp only[go_sem,J];rw[cD (by rw[AI];omega),NH];refine x_w Z k11 ?_;simp only[go_sem,J];exact vy

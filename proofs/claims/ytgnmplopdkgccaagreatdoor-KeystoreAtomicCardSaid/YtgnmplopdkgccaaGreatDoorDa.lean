/- own work: steps of the proof -/
import Derived.Test.YtgnmplopdkgccaaGreatDoorRX
import Derived.OpenShut
import Derived.Lay
set_option linter.all false
set_option maxRecDepth 100000
set_option maxHeartbeats 4000000
open List renaming take_of_length_le→a',mem_singleton→b',flatMap_cons→c',mem_cons_self→e',length_cons→f',all_eq_true→g',getD_eq_getElem?_getD→h',mem_cons_of_mem→m'
open Go.IntKind renaming i64→n',u64→o'
open Nat renaming le_of_ble_eq_true→q',lt_or_ge→r',lt_of_le_of_lt→s',le_refl→u'
open Option renaming some→v'
open Bool renaming eq_false_or_eq_true→w',false_eq_true→x',true_or→y',or_true→z',or_self→A'
namespace Go.Abs
open RowKit Proofs Proofs.Tryz
def HI(mb:List UInt8)(p:Int×List UInt8):ai:=if p.1=1 then[(1,mb)] else if p.1=2\/p.1=16 then[] else[(p.1,[])]
def tf(mb:List UInt8)(s:ai):ai:=s.flatMap (HI mb)
theorem Kz(a:List UInt8)(p:Int×List UInt8):(HI a p).length<=1:=by unfold HI;split;simp;split<;>simp
theorem BB(a:List UInt8)(s:ai):(tf a s).length<=s.length:=by
 induction s with
 |nil=>simp[tf]
 |cons p s b=>have:=Kz a p;simp only[tf,c',List.length_append,f'] at b⊢;omega
theorem HJ(a:List UInt8)(s:ai)(i:Nat)(h:i<s.length):tf a (s.take (i+1))=tf a (s.take i)++HI a (s.getD i (0,[])):=by
 rw[List.take_succ_eq_append_getElem h];simp only[tf,List.flatMap_append,c',List.flatMap_nil,List.append_nil,h',List.getElem?_eq_getElem h,Option.getD_some]
@[simp] theorem aa6(T:List Nat)(q:AwR):ak T (rR q):=by simp[rR,ak,ax]
theorem OF(b:List UInt8)(d:b.length=8)(s:ai):∀p,p∈tf b s->p7 p:=by
 intro p c;obtain⟨q,-,a⟩:=List.mem_flatMap.1 c;unfold HI at a;split at a
 ·rw[b'.1 a];exact⟨by dsimp only;omega,fun _=>d,by show(1:Int)≠2;decide,fun i _ h=>(by have:(1:Int)=64+(i:Int):=h;omega),fun h=>(by cases h)⟩
 ·rename_i e;split at a
  ·cases a
  ·rename_i f;rw[b'.1 a];exact nW _ e fun c=>f (.inl c)
theorem F2:∀(s:ai) (a:Int),Srt s->(∀x,x∈s->a<=x.1/\x.1<=255)->a<=256->(s.length:Int)<=256-a
 |[],a,_,_,ha=>by simp only[List.length_nil];omega
 |p::s,a,h,hb,_=>by
  have d:=hb p (e' ..);have h1:∀x,x∈s->p.1+1<=x.1/\x.1<=255:=fun x b=>by
   have:=hb x (m' _ b);have c:p.1<x.1:=by
    exact(List.pairwise_cons.1 h).1 x b
   omega
  have:=F2 s (p.1+1) (List.pairwise_cons.1 h).2 h1 ω;simp only[f'];omega
def lr(l:ai):List AV:=(tu l).map .p
theorem HK(l:ai):(gB l).length=l.length*2:=by
 induction l with
 |nil=>rfl
 |cons p l a=>rw[fw];simp only[f',a];omega
theorem mw(l:ai):(lr l).length=l.length*2:=by rw[lr,List.length_map,Dn,HK]
theorem OG(h:bv)(S:List Nat)(σ:Nat->Nat)(l:ai):aj h S σ (lr l) (lr l)↔True:=⟨fun _=>trivial,fun _=>aL h S σ _⟩
theorem OH(τ:Nat->Nat)(l:ai):eu τ (lr l)=lr l:=cT τ _
theorem KA(T:List Nat)(l:ai):ak T (lr l)↔True:=⟨fun _=>trivial,fun _=>aM T _⟩
theorem Tn(l:ai):jN (lr l)↔True:=⟨fun _=>trivial,fun _=>aG _⟩
theorem OI(l:ai):jO (lr l)=tu l:=aJ _
theorem HL(l:ai)(k:Int):lr l++[.i k,.p (.v (.slice none 0 0))]=lr (l++[(k,[])]):=by simp[lr,tu]
theorem Eh(l:ai)(k:Int)(b:List UInt8)(a:b≠[]):lr l++[.i k,.p (.data 1 b.length (b.map bt))]=lr (l++[(k,b)]):=by simp[lr,tu,a,byP]
section
attribute[local go_sem]mw OG OH KA Tn OI HL
def ajf:List Nat:=[0,1,2,3,4,5,7,10,11,12,13,14,15,16,17,28,44,53,67,80,86,112,127]
attribute[go_sem]ajf
theorem KB{f:aO}{d:aU}{G:Int}(hd:DInv f d G)(hG:G<900000)(now:Int)(r:RqM)(hl:aP r)(gs:List (Int×Int))(C:gs.length<1000000)(bu:Int)(hB:i64 bu) :
 ∃g x left,Ret f (G+1) g x left/\FPure prog 202 [bg d,.i now,rqA r,gsA gs,.i bu] (ne g x left):=by
 by_cases he:bgE d now r 10=0
 case neg =>
  refine⟨d,_,bu,ob (hd.mono ω) (bgE d now r 10) bu hB,?_⟩;have hb:=dD d now r hl gs bu 10 he;generalize bgE d now r 10=e at *;refine en func202 ntmps202 results202 ajf ?_;intro c J I Y Z;exact afJ
 have hb:=eC d now r hl gs bu 10 he;have hw:=gR (bu:=bu) (gs:=gs) hd he hB;have O:(bgW d now r gs bu 10).er=0:=rfl;generalize bgW d now r gs bu 10=w at *;by_cases P:w.d.now>n'.wrap (w.d.boo+10)
 ·have hf:=aW w 18;obtain⟨K,q,D,⟨k2,-⟩,k3⟩:=qF (hw.fail 18) C false;have E:¬K.er=0:=fun c=>by have:=k2 c;simp only[bG,O,if_true] at this;exact absurd this ε
  obtain⟨g,X,left,h2,hen⟩:=D.fin;refine⟨g,X,left,h2.mono ω,?_⟩;refine en func202 ntmps202 results202 ajf ?_;intro c J I Y Z;simp only[go_sem,J];refine x_b Z (by exact hb) ?_;simp only[go_sem,J,P];refine⟨π,?_⟩;refine x_w Z (by exact hf) ?_;simp only[go_sem,J];refine x_w Z (by exact k3) ?_;simp only[go_sem,J,E];exact vy
 obtain⟨K,q,D,⟨k2,-⟩,k3⟩:=qF hw C false;by_cases E:K.er=0
 case neg =>
  obtain⟨g,X,left,h2,hen⟩:=D.fin;refine⟨g,X,left,h2.mono ω,?_⟩;refine en func202 ntmps202 results202 ajf ?_;intro c J I Y Z;simp only[go_sem,J];refine x_b Z (by exact hb) ?_;simp only[go_sem,J,P];refine⟨π,?_⟩;refine x_w Z (by exact k3) ?_;simp only[go_sem,J,E];exact vy
 obtain⟨j,B,n2,n3⟩:=D.d;have k:=n2 E;have F:=zP j.v k.vl k.st.b;generalize(gp (vgetM 2 j.v.prs)).toNat=bo at *;obtain⟨N,hN⟩:∃N,n'.wrap (n'.wrap (iF .i64 (bo:Int) 20+j.dr)+1)=N:=⟨_,rfl⟩
 have Q:=xQ j N;have L:(dc (ij j.fac.se gk N) 8).length=8:=az _ _;generalize dc (ij j.fac.se gk N) 8=mb at *;have hsl:j.v.prs.length<=256:=by
  have:=F2 j.v.prs 0 k.ok.so.srt (fun x hx=>⟨(k.ok.so.el x hx).2.1,(k.ok.so.el x hx).2.2.1⟩) ε;omega
 have hrl:=BB mb j.v.prs;have hpr:=OF mb L j.v.prs;have k5:=D.setd (l5 j) (Dq k);obtain⟨t,R,k7,k8⟩:=jH k5 ω (tf mb j.v.prs) hpr ω _ _ (.inr rfl) rfl;generalize u:j.v.prs=s at *
 obtain⟨g,X,left,h2,H⟩:∃g X left,Ret f (G+1) g X left/\((¬t.er=0/\Con prog 260 [.ptr 0 0] (wB t) (.tup [bg g,.agg (rpC X),.i left]) (wB t)) \/
  (t.er=0/\∃o z,Con prog 267 [.ptr 0 0] (wB {t with d:={t.d with wr:=0} }) (.w z) (wB o) /\
   Con prog 260 [.ptr 0 0] (wB {o with d:={o.d with tok:=⟨z,false,0,0,[],0⟩} }) (.tup [bg g,.agg (rpC X),.i left]) (wB {o with d:={o.d with tok:=⟨z,false,0,0,[],0⟩} }))):=by
  by_cases a:t.er=0
  case neg =>
   obtain⟨g,X,left,h2,hen⟩:=R.fin;exact⟨g,X,left,h2,.inl ⟨a,hen⟩⟩
  obtain⟨d6,m1,m2,m3⟩:=R.d;have y:=m2 a;obtain⟨o,z,t1,t2,t3,t4⟩:=(R.setd {d6 with wr:=0} (y.upd rfl rfl y.now y.ids rfl)).draw a;obtain⟨d8,e1,e2,e3⟩:=t1.d;have A:=e2 t2;obtain⟨g,X,left,h2,hen⟩:=(t1.setd {d8 with tok:=⟨z,false,0,0,[],0⟩} (A.upd rfl rfl A.now A.ids rfl)).fin;refine⟨g,X,left,h2,.inr ⟨a,o,z,?_,?_⟩⟩
  ·rw[m1];exact t4
  ·rw[e1];exact hen
 refine⟨g,X,left,h2,?_⟩;simp only[vtC,u] at F;refine en func202 ntmps202 results202 ajf ?_;intro c J I Y Z;simp only[go_sem,J];refine x_b Z (by exact hb) ?_;simp only[go_sem,J,P];refine⟨π,?_⟩;refine x_w Z (by exact k3) ?_;simp only[go_sem,J,E];refine aX 80 ?_;refine ay Y I ajf s.length (fun i=>⟨144,[(5,.ptr 0 0),(7,.ptr 1 0),(10,.ptr 2 0),(11,.ptr 3 0),(13,.ptr 4 0),(15,.sl 5 0 (tf mb (s.take i)).length 2),(16,.i i)],[(0,some ⟨41,dvC (bp d)⟩),(1,some ⟨118,rqC (rqP r)⟩),(2,some ⟨41,dvC dv0⟩),(3,some ⟨114,rpC rp0⟩),(4,some ⟨wkT,wkC K⟩),(5,some ⟨80,lr (tf mb (s.take i))⟩)],6⟩) [] (fun i=>i) ⟨rfl,?_,?_,rfl,rfl,trivial,fun i h=>h⟩ ?_
 ·simp only[go_sem];rfl
 ·simp only[go_sem,List.take_zero,tf,List.flatMap_nil,lr,tu,List.map_nil]
 intro i hi;have S:=BB mb (s.take i);rw[List.length_take] at S;rcases r' i s.length with h9|h9
 ·have m:n'.wrap ((i:Int)+1)=((i+1:Nat):Int):=by rw[ab ω ω];omega
  have n:=dY s i h9;rw[HJ mb s i h9];generalize tf mb (s.take i)=l at *;generalize s.getD i (0,[])=q at *;unfold HI;by_cases M:q.1=1
  ·rw[if_pos M];simp only[go_sem,J,B,u,n,M,m,show((i:Int)<(s.length:Int)) from ω];refine⟨ω,?_⟩;refine aa Z (by exact F) ?_;simp only[go_sem,J,B,u,hN];refine aa Z (by exact Q) ?_;simp only[go_sem,J,m];have T:lr l++[AV.p (PV.v (Value.int .i64 1)),AV.p (PV.data 1 8 (mb.map bt))]=lr (l++[(1,mb)]):=by
    have:=Eh l 1 mb (fun c=>by rw[c] at L;cases L);rw[L] at this;exact this
   refine⟨⟨ω,ω⟩,π,h9,aA [0,1,2,3,4,7] rfl κ (by simp only[go_sem,T]) rfl rfl (q' rfl)⟩
  rw[if_neg M];by_cases U:q.1=2
  ·rw[if_pos (.inl U)];simp only[go_sem,J,B,u,n,U,m,show((i:Int)<(s.length:Int)) from ω];exact aiG
  by_cases V:q.1=16
  ·rw[if_pos (.inr V)];simp only[go_sem,J,B,u,n,V,m,show((i:Int)<(s.length:Int)) from ω];exact aiG
  ·rw[if_neg ω];simp only[go_sem,J,B,u,n,M,U,V,m,show((i:Int)<(s.length:Int)) from ω];refine⟨ω,⟨ω,ω⟩,h9,aA [0,1,2,3,4,7] rfl κ κ rfl rfl (q' rfl)⟩
 obtain rfl:i=s.length:=by omega
 rw[List.take_length];simp only[go_sem,J,B,u,Int.lt_irrefl];rcases H with⟨a,hen⟩|⟨a,o,z,W,hen⟩
 ·rw[decide_eq_true a] at k8;refine x_w Z (by exact k8) ?_ (e:=?e) (ho:=?ho)
  case e =>
   exact aic
  case ho =>
   exact ah6
  simp only[go_sem,J];exact vy
 ·rw[decide_eq_false (fun c=>c a)] at k8;have hst:=pT z;refine x_w Z (by exact k8) ?_ (e:=?e) (ho:=?ho)
  case e =>
   exact aic
  case ho =>
   exact ah6
  simp only[go_sem,J];refine x_w Z (by exact W) ?_;simp only[go_sem,J];refine aa Z (by exact hst) ?_;simp only[go_sem,J];exact vy
end
theorem KC{b:List UInt8}(c:b.length=8)(x:UInt8):∀p,p∈[((3:Int),b),((4:Int),[x])]->p7 p:=fun p a=>by
 simp at a;rcases a with rfl|rfl
 ·exact⟨by dsimp only;omega,fun h=>(by cases h),by show(3:Int)≠2;decide,fun i _ h=>(by have:(3:Int)=64+(i:Int):=h;omega),fun h => .inr (by dsimp only;omega)⟩
 ·exact AF x _ (b'.2 rfl)
theorem kD{A B:Prop}(b:B)(k:Hid B->A:=by
 intro zz
 simp only[go_sem,J]
 refine x_b Z (by exact hb) ?_
 simp only[go_sem,J]
 refine aa Z (by exact hp) ?_
 exact zz.h):A:=k ⟨b⟩
theorem my{A B:Prop}(b:B)(k:Hid B->A:=by
 intro zz
 simp only[go_sem,J,hs]
 refine x_w Z (by exact k3) ?_
 exact zz.h):A:=k ⟨b⟩
theorem pJ{A B:Prop}(b:B)(k:Hid B->A:=by
 intro zz
 simp only[go_sem,J,hz]
 refine aa Z (by exact ho) ?_
 simp only[go_sem,J]
 refine x_w Z (by exact hf4) ?_
 exact zz.h):A:=k ⟨b⟩
theorem uQ{A B:Prop}(b:B)(k:Hid B->A:=by
 intro zz
 simp only[go_sem,J,decide_true,decide_false,not_true,not_false_eq_true]
 refine aa Z (by exact hq) ?_
 exact zz.h):A:=k ⟨b⟩
theorem BC{A B:Prop}(b:B)(k:Hid B->A:=by
 intro zz
 simp only[go_sem,J,hqq]
 refine x_w Z (by exact hck) ?_
 simp only[go_sem,J]
 refine aa Z (by exact hx) ?_
 simp only[go_sem,J]
 refine x_w Z (by exact k9) ?_
 exact zz.h):A:=k ⟨b⟩
theorem KD{A B:Prop}(b:B)(k:Hid B->A:=by
 intro zz
 simp only[go_sem,J,m1,decide_true,decide_false,not_true,not_false_eq_true]
 exact zz.h):A:=k ⟨b⟩
def ajg:List Nat:=[0,1,2,3,4,5,7,10,11,12,13,14,15,16,27,37,46,61,68,83]
attribute[go_sem]ajg
theorem HM{f:aO}{d:aU}{G:Int}(F:DInv f d G)(U:G<900000)(now:Int)(r:RqM)(B:aP r)(gs:List (Int×Int))(L:gs.length<1000000)(bu:Int)(H:i64 bu) :
 ∃a x left,Ret f (G+1) a x left/\FPure prog 199 [bg d,.i now,rqA r,gsA gs,.i bu] (ne a x left):=by
 by_cases he:bgE d now r 7=0
 case neg =>
  refine⟨d,_,bu,ob (F.mono ω) (bgE d now r 7) bu H,?_⟩;have hb:=dD d now r B gs bu 7 he;generalize bgE d now r 7=e at *;refine en func199 ntmps199 results199 ajg ?_;intro c J m Y Z;exact afJ
 have hb:=eC d now r B gs bu 7 he;have M:=gf (kp he).2.2.2;have A:=gR (bu:=bu) (gs:=gs) F he H;have N:=A.r;have n:(bgW d now r gs bu 7).er=0:=rfl;have O:(bgW d now r gs bu 7).rep=rp0:=rfl;generalize bgW d now r gs bu 7=w at *;obtain⟨I,P,Q,V⟩:=A.d;have C:=Q n;have hp:=wv C;rw[show bg I=AV.agg (dvC w.d) from by rw[P]] at hp;generalize tr I=p at *;cases hs:p.set with
 |true =>
  have D:=aW w 18;obtain⟨j,y,o,K,k3⟩:=dw (A.fail 18);have hz:¬j.er=0:=fun c=>by have:=K c;simp only[bG,n,if_true] at this;exact absurd this ε
  obtain⟨a,X,left,h2,hen⟩:=(o).fin;refine⟨a,X,left,h2.mono ω,?_⟩;refine en func199 ntmps199 results199 ajg ?_;intro c J m Y Z;refine kD ?_;simp only[go_sem,J,hs];refine x_w Z (by exact D) ?_;simp only[go_sem,J];refine x_w Z (by exact k3) ?_;simp only[go_sem,J,hz];exact vy
 |false =>
 obtain⟨j,y,o,K,k3⟩:=dw A;by_cases hz:j.er=0
 case neg =>
  obtain⟨a,X,left,h2,hen⟩:=(o).fin;refine⟨a,X,left,h2.mono ω,?_⟩;refine en func199 ntmps199 results199 ajg ?_;intro c J m Y Z;refine kD ?_;refine my ?_;simp only[go_sem,J,hz];exact vy
 obtain⟨t,s,u,ho⟩:=vF y r.bx r.bx.length rfl B.bx;have hf4:=aW j s;have g:bG j.er s=s:=by unfold bG;rw[if_pos hz]
 rw[g] at hf4;by_cases h:s=0
 case neg =>
  have k4:=o.fail s;rw[g] at k4;obtain⟨a,X,left,h2,hen⟩:=(k4).fin;refine⟨a,X,left,h2.mono ω,?_⟩;refine en func199 ntmps199 results199 ajg ?_;intro c J m Y Z;refine kD ?_;refine my ?_;refine pJ ?_;simp only[go_sem,J,h,decide_true,decide_false,not_true,not_false_eq_true];exact vy
 subst h;have k4:W f G r gs {j with er:=0}:=by have:=o.fail 0;rwa [g] at this
 have h:({j with er:=0}:Wkp).er=0:=rfl;generalize({j with er:=0}:Wkp)=w4 at *;have u:=u rfl;obtain⟨q,hq⟩:=GZ t ω;by_cases hqq:q=true
 case pos =>
  have D:=aW w4 26;obtain⟨a,X,left,h2,hen⟩:=(k4.fail 26).fin;refine⟨a,X,left,h2.mono ω,?_⟩;refine en func199 ntmps199 results199 ajg ?_;intro c J m Y Z;refine kD ?_;refine my ?_;refine pJ ?_;refine uQ ?_;simp only[go_sem,J,hqq];refine x_w Z (by exact D) ?_;simp only[go_sem,J];exact vy
 have hqq:q=false:=by simpa using hqq
 obtain⟨b,z,hck⟩:=Dr k4 h t ω;obtain⟨x,hx⟩:=tT 8;obtain⟨R,E,k8,k9⟩:=jH k4 ω [(3,b),(4,[x])] (KC z x) η 2 [.v (.int .i64 3),.data 1 8 (b.map bt),.v (.int .i64 4),.data 1 1 ([x].map bt)] (.inl (by simp[gB,prC,byP,z])) rfl;by_cases k:R.er=0
 case neg =>
  obtain⟨a,X,left,h2,hen⟩:=(E).fin;refine⟨a,X,left,h2.mono ω,?_⟩;refine en func199 ntmps199 results199 ajg ?_;intro c J m Y Z;refine kD ?_;refine my ?_;refine pJ ?_;refine uQ ?_;refine BC ?_;simp only[go_sem,J,k,decide_true,decide_false,not_true,not_false_eq_true];exact vy
 rw[decide_eq_false (fun c=>c k)] at k9;obtain⟨S,m1,T,m3⟩:=E.d;have l:=T k;have k8:=E.setd {S with wr:=0} (l.upd rfl rfl l.now l.ids rfl);obtain⟨a,X,left,h2,hen⟩:=(k8).fin;refine⟨a,X,left,h2.mono ω,?_⟩;refine en func199 ntmps199 results199 ajg ?_;intro c J m Y Z;refine kD ?_;refine my ?_;refine pJ ?_;refine uQ ?_;refine BC ?_;refine KD ?_;exact vy
theorem gH{A B:Prop}(b:B)(k:Hid B->A:=by
 intro zz
 simp only[go_sem,J]
 refine x_b Z (by exact hb) ?_
 simp only[go_sem,J]
 refine aa Z (by exact hp) ?_
 exact zz.h):A:=k ⟨b⟩
theorem iI{A B:Prop}(b:B)(k:Hid B->A:=by
 intro zz
 simp only[go_sem,J,hs]
 refine x_w Z (by exact k3) ?_
 exact zz.h):A:=k ⟨b⟩
theorem js{A B:Prop}(b:B)(k:Hid B->A:=by
 intro zz
 simp only[go_sem,J,hz]
 refine aa Z (by exact ho) ?_
 simp only[go_sem,J]
 refine x_w Z (by exact hf4) ?_
 exact zz.h):A:=k ⟨b⟩
theorem kE{A B:Prop}(b:B)(k:Hid B->A:=by
 intro zz
 simp only[go_sem,J,decide_true,decide_false,not_true,not_false_eq_true]
 refine aa Z (by exact ho2) ?_
 simp only[go_sem,J]
 refine x_w Z (by exact hf5) ?_
 exact zz.h):A:=k ⟨b⟩
theorem mz{A B:Prop}(b:B)(k:Hid B->A:=by
 intro zz
 simp only[go_sem,J,decide_true,decide_false,not_true,not_false_eq_true]
 refine x_w Z (by exact q6) ?_
 exact zz.h):A:=k ⟨b⟩
theorem BD{A B:Prop}(b:B)(k:Hid B->A:=by
 intro zz
 simp only[go_sem,J,hz6]
 refine aa Z (by exact hq) ?_
 simp only[go_sem,J,hqq]
 refine aa Z (by exact hx) ?_
 simp only[go_sem,J]
 refine x_w Z (by exact k9) ?_
 exact zz.h):A:=k ⟨b⟩
theorem BE{A B:Prop}(b:B)(k:Hid B->A:=by
 intro zz
 simp only[go_sem,J,hz6]
 refine aa Z (by exact hq) ?_
 simp only[go_sem,J,hqq]
 refine x_w Z (by exact hck) ?_
 simp only[go_sem,J]
 refine aa Z (by exact hx) ?_
 simp only[go_sem,J]
 refine x_w Z (by exact k9) ?_
 exact zz.h):A:=k ⟨b⟩
theorem KE{A B:Prop}(b:B)(k:Hid B->A:=by
 intro zz
 simp only[go_sem,J,m1,decide_true,decide_false,not_true,not_false_eq_true]
 refine aa Z (by exact hst) ?_
 simp only[go_sem,J,m1]
 exact zz.h):A:=k ⟨b⟩
def aje:List Nat:=[0,1,2,3,4,5,7,10,11,12,13,14,15,16,17,28,39,48,63,78,91,98,103,118]
attribute[go_sem]aje
theorem Ei{f:aO}{d:aU}{G:Int}(P:DInv f d G)(hG:G<900000)(now:Int)(r:RqM)(F:aP r)(gs:List (Int×Int))(T:gs.length<1000000)(bu:Int)(Q:i64 bu) :
 ∃a x left,Ret f (G+2) a x left/\FPure prog 200 [bg d,.i now,rqA r,gsA gs,.i bu] (ne a x left):=by
 by_cases he:bgE d now r 8=0
 case neg =>
  refine⟨d,_,bu,ob (P.mono ω) (bgE d now r 8) bu Q,?_⟩;have hb:=dD d now r F gs bu 8 he;generalize bgE d now r 8=e at *;refine en func200 ntmps200 results200 aje ?_;intro c J l Y Z;exact afJ
 have hb:=eC d now r F gs bu 8 he;have U:=gf (kp he).2.2.2;have H:=gR (bu:=bu) (gs:=gs) P he Q;have V:=H.r;have z:(bgW d now r gs bu 8).er=0:=rfl;have hwp:(bgW d now r gs bu 8).rep=rp0:=rfl;generalize bgW d now r gs bu 8=w at *;obtain⟨R,n1,n2,n3⟩:=H.d;have M:=n2 z;have hp:=wv M;rw[show bg R=AV.agg (dvC w.d) from by rw[n1]] at hp;generalize tr R=p at *;cases hs:p.set with
 |false =>
  have N:=aW w 25;obtain⟨o,y,A,S,k3⟩:=dw (H.fail 25);have hz:¬o.er=0:=fun c=>by have:=S c;simp only[bG,z,if_true] at this;exact absurd this ε
  obtain⟨a,X,left,h2,hen⟩:=(A).fin;refine⟨a,X,left,h2.mono ω,?_⟩;refine en func200 ntmps200 results200 aje ?_;intro c J l Y Z;refine gH ?_;simp only[go_sem,J,hs];refine x_w Z (by exact N) ?_;simp only[go_sem,J];refine x_w Z (by exact k3) ?_;simp only[go_sem,J,hz];exact vy
 |true =>
 obtain⟨o,y,A,S,k3⟩:=dw H;by_cases hz:o.er=0
 case neg =>
  obtain⟨a,X,left,h2,hen⟩:=(A).fin;refine⟨a,X,left,h2.mono ω,?_⟩;refine en func200 ntmps200 results200 aje ?_;intro c J l Y Z;refine gH ?_;refine iI ?_;simp only[go_sem,J,hz];exact vy
 obtain⟨t,B,C,ho⟩:=vF y r.bx r.bx.length rfl F.bx;have hf4:=aW o B;have j:bG o.er B=B:=by unfold bG;rw[if_pos hz]
 rw[j] at hf4;by_cases m:B=0
 case neg =>
  have k4:=A.fail B;rw[j] at k4;obtain⟨a,X,left,h2,hen⟩:=(k4).fin;refine⟨a,X,left,h2.mono ω,?_⟩;refine en func200 ntmps200 results200 aje ?_;intro c J l Y Z;refine gH ?_;refine iI ?_;refine js ?_;simp only[go_sem,J,m,decide_true,decide_false,not_true,not_false_eq_true];exact vy
 subst m;have k4:W f G r gs {o with er:=0}:=by have:=A.fail 0;rwa [j] at this
 have m:({o with er:=0}:Wkp).er=0:=rfl;generalize({o with er:=0}:Wkp)=w4 at *;have C:=C rfl;obtain⟨h,D,ho2⟩:=sR y r.pf r.pf.length rfl F.pf;have hf5:=aW w4 D;have k:bG w4.er D=D:=by unfold bG;rw[if_pos m]
 rw[k] at hf5;by_cases n:D=0
 case neg =>
  have I:=k4.fail D;rw[k] at I;obtain⟨a,X,left,h2,hen⟩:=(I).fin;refine⟨a,X,left,h2.mono ω,?_⟩;refine en func200 ntmps200 results200 aje ?_;intro c J l Y Z;refine gH ?_;refine iI ?_;refine js ?_;refine kE ?_;simp only[go_sem,J,n,decide_true,decide_false,not_true,not_false_eq_true];exact vy
 subst n;have I:W f G r gs {w4 with er:=0}:=by have:=k4.fail 0;rwa [k] at this
 have n:({w4 with er:=0}:Wkp).er=0:=rfl;generalize({w4 with er:=0}:Wkp)=w5 at *;obtain⟨w6,K,q6⟩:=ww I n ω h;by_cases hz6:w6.er=0
 case neg =>
  obtain⟨a,X,left,h2,hen⟩:=(K).fin;refine⟨a,X,left,h2.mono ω,?_⟩;refine en func200 ntmps200 results200 aje ?_;intro c J l Y Z;refine gH ?_;refine iI ?_;refine js ?_;refine kE ?_;refine mz ?_;simp only[go_sem,J,hz6];exact vy
 obtain⟨q,hq⟩:=GZ t ω;obtain⟨x,hx⟩:=tT 8;by_cases hqq:q=true
 case pos =>
  obtain⟨L,u,k8,k9⟩:=jH K ω [(4,[x])] (AF x) η 1 _ (.inl rfl) rfl;by_cases g:L.er=0
  case neg =>
   obtain⟨a,X,left,h2,hen⟩:=(u).fin;refine⟨a,X,left,h2.mono ω,?_⟩;refine en func200 ntmps200 results200 aje ?_;intro c J l Y Z;refine gH ?_;refine iI ?_;refine js ?_;refine kE ?_;refine mz ?_;refine BD ?_;simp only[go_sem,J,g,decide_true,decide_false,not_true,not_false_eq_true];exact vy
  have N:=aW L 26;obtain⟨a,X,left,h2,hen⟩:=(u.fail 26).fin;refine⟨a,X,left,h2.mono ω,?_⟩;refine en func200 ntmps200 results200 aje ?_;intro c J l Y Z;refine gH ?_;refine iI ?_;refine js ?_;refine kE ?_;refine mz ?_;refine BD ?_;simp only[go_sem,J,g,decide_true,decide_false,not_true,not_false_eq_true];refine x_w Z (by exact N) ?_;simp only[go_sem,J];exact vy
 have hqq:q=false:=by simpa using hqq
 obtain⟨b,E,hck⟩:=Dr K hz6 t ω;obtain⟨L,u,k8,k9⟩:=jH K ω [(3,b),(4,[x])] (KC E x) η 2 [.v (.int .i64 3),.data 1 8 (b.map bt),.v (.int .i64 4),.data 1 1 ([x].map bt)] (.inl (by simp[gB,prC,byP,E])) rfl;by_cases g:L.er=0
 case neg =>
  obtain⟨a,X,left,h2,hen⟩:=(u).fin;refine⟨a,X,left,h2.mono ω,?_⟩;refine en func200 ntmps200 results200 aje ?_;intro c J l Y Z;refine gH ?_;refine iI ?_;refine js ?_;refine kE ?_;refine mz ?_;refine BE ?_;simp only[go_sem,J,g,decide_true,decide_false,not_true,not_false_eq_true];exact vy
 rw[decide_eq_false (fun c=>c g)] at k9;obtain⟨O,m1,m2,m3⟩:=u.d;have s:=m2 g;have hst:=pT O.tok.sec;have k8:=u.setd {O with tok:=⟨O.tok.sec,false,0,0,[],0⟩} (s.upd rfl rfl s.now s.ids rfl);obtain⟨a,X,left,h2,hen⟩:=(k8).fin;refine⟨a,X,left,h2.mono ω,?_⟩;refine en func200 ntmps200 results200 aje ?_;intro c J l Y Z;refine gH ?_;refine iI ?_;refine js ?_;refine kE ?_;refine mz ?_;refine BE ?_;refine KE ?_;exact vy
theorem KF{h:bv}{σ:Nat->Nat}{id:Nat}{x:List UInt8}{t:Nat}(b:h id=some ⟨t,(x.map bt).map .p⟩):aS h [id] σ (.p (byP x)) (.sl id 0 x.length 1):=by
 have a:((x.map bt).map AV.p).length=x.length:=η;simp only[byP,aS,ep,b',true_and,b,v'.injEq,exists_eq_left',List.drop_zero,Nat.zero_add,Nat.mul_one];rw[a' (Nat.le_of_eq a)];exact⟨Nat.le_of_eq a.symm,iH _ _ _⟩
theorem aeZ{h:Int}(h1:1<=h)(a:h<=4):∃z:Int,iF .i64 1 h=z/\2<=z/\z<=16:=by
 rcases(show h=1\/h=2\/h=3\/h=4 from ω) with rfl|rfl|rfl|rfl
 ·exact⟨2,ε,ε,ε⟩
 ·exact⟨4,ε,ε,ε⟩
 ·exact⟨8,ε,ε,ε⟩
 ·exact⟨16,ε,ε,ε⟩
theorem To(x:Wkp)(v:AV)(d:PV):ag d (((wkC x).set 58 v).drop 58)=v:=rfl
theorem Tp(x:Wkp)(a:x.rep.ce = .nil):(wkC x).set 58 (.p (.v (.slice none 0 0)))=wkC x:=by
 rw[MF];obtain⟨d,r,g,bu,rep,er⟩:=x;cases rep;cases a;rfl
section
attribute[local go_sem]To List.set_set List.length_set gj
theorem OJ{f:aO}(h:gV f=0):f.ce.length<=3/\∀b,b∈f.ce->b.length<=512:=by
 refine⟨(j0 h).2.1,?_⟩;unfold gV at h;split at h
 ·cases h
 split at h
 ·cases h
 split at h
 ·rename_i a;intro b c;simpa using g'.1 a b c
 ·cases h
theorem lu{A B:Prop}(b:B)(k:Hid B->A:=by
 intro zz
 simp only[go_sem,J]
 refine x_b Z (by exact hb) ?_
 simp only[go_sem,J]
 exact zz.h):A:=k ⟨b⟩
theorem mB{A B:Prop}(b:B)(k:Hid B->A:=by
 intro zz
 refine aa Z (by exact hv) ?_
 simp only[go_sem,J]
 refine x_w Z (by exact hfz) ?_
 exact zz.h):A:=k ⟨b⟩
def aja:List Nat:=[0,1,2,3,4,5,7,10,11,12,13,14,15,16,17,18,20,22,23,24,25,26,27,28,29,31,32,33,35,36,47,70,78,105,128,163,175,200,224,250,260,264,306,307,319,339]
attribute[go_sem]aja
def ai7:List Nat:=1000026::1000034::1000042::aja
attribute[go_sem]ai7
theorem oI{A B:Prop}(b:B)(k:Hid B->A:=by
 intro zz
 skip
 simp only[go_sem,J,hfm]
 refine x_w Z (by exact k4) ?_
 simp only[go_sem,J]
 apply bM (fun _:Unit=>(⟨367,[(5,.ptr 0 0),(7,.ptr 1 0),(10,.ptr 2 0),(11,.ptr 3 0),(12,.i 0),(13,.ptr 4 0),(15,.ptr 5 0),(16,.b b),(17,.ptr 6 0)],[(0,some ⟨41,dvC (bp d)⟩),(1,some ⟨118,rqC (rqP r)⟩),(2,some ⟨41,dvC dv0⟩),(3,some ⟨114,rpC rp0⟩),(4,some ⟨wkT,wkC w3⟩),(5,some ⟨46,crC ⟨r.rp,r.us,r.nm,0,r.hg,r.rs,r.pt,r.sh,false⟩⟩),(6,some ⟨316,rR cv⟩)],7⟩:AS)) (fun _=>True)
 case tree =>
  intro hj
  have hj:=hj () trivial
  rcases w' r.ha with hha|hha<;>rcases w' r.ve with hve|hve
  all_goals simp only[hha,hve,Bool.not_true,Bool.not_false,Bool.and_true,Bool.and_false,true_or,or_true,false_or,or_false,Bool.true_eq_false,x',forall_const,true_implies,false_implies] at m3 m4 k7
  all_goals
   first
   |subst m4
    simp only[go_sem,J,hha,hve]
    refine x_w Z (by exact k7) ?_
    simp only[go_sem,J]
    exact agd
   |simp only[go_sem,J,hha,hve]
    refine aa Z (by exact hp) ?_
    rcases w' p.set with hps|hps
    ·have m3:=m3 hps
     simp only[go_sem,J,hps]
     refine x_w Z (by exact m3) ?_
     simp only[go_sem,J,hha,hve]
     refine x_w Z (by exact k7) ?_
     simp only[go_sem,J]
     exact agd
    ·have m4:=m4 hps
     subst m4
     simp only[go_sem,J,hps,hha,hve]
     refine x_w Z (by exact k7) ?_
     simp only[go_sem,J]
     exact agd
 rintro _ -
 refine l6 Y (ks:=ai7) (n:=2000) ?_;replace Z:XK prog ai7 c _:=⟨J,Y⟩
 exact zz.h):A:=k ⟨b⟩
def ai8:List Nat:=1000034::1000042::aja
attribute[go_sem]ai8
theorem uR{A B:Prop}(b:B)(k:Hid B->A:=by
 intro zz
 skip
 refine ay Y h0 ai7 r.ls.length (fun i=>⟨367,[(5,.ptr 0 0),(7,.ptr 1 0),(10,.ptr 2 0),(11,.ptr 3 0),(12,.i 0),(13,.ptr 4 0),(15,.ptr 5 0),(16,.b b),(17,.ptr 6 0),(18,.i i)],[(0,some ⟨41,dvC (bp d)⟩),(1,some ⟨118,rqC (rqP r)⟩),(2,some ⟨41,dvC dv0⟩),(3,some ⟨114,rpC rp0⟩),(4,some ⟨wkT,wkC w3⟩),(5,some ⟨46,crC ⟨r.rp,r.us,r.nm,0,r.hg,r.rs,r.pt,r.sh,false⟩⟩),(6,some ⟨316,rR cv⟩)],7⟩) [] (fun i=>i) ⟨rfl,κ,κ,rfl,rfl,trivial,fun i h=>h⟩ ?_
 intro i hi
 rcases r' i r.ls.length with hlt|hge
 ·have hil:(i:Int)<(r.ls.length:Int):=ω
  have hw1:n'.wrap ((i:Int)+1)=((i+1:Nat):Int):=by rw[ab ω ω];omega
  have hfi:=hF i hlt
  have hnu:=xb i hlt
  have hne:=hex i hlt
  generalize N i=Ni at *
  generalize F i=Fi at *
  by_cases g1:Ni=0
  ·simp only[go_sem,J,hil,hz3,bC,byP]
   refine⟨ω,ω,?_⟩
   refine aa Z (by exact hfi) ?_
   simp only[go_sem,J,hil,bC,byP]
   refine⟨π,ω,ω,?_⟩
   refine aa Z (by exact hnu) ?_
   simp only[go_sem,J,g1,hw1]
   exact aiE
  ·have g2:¬Fi.2=0:=fun h=>hne ⟨g1,h⟩
   simp only[go_sem,J,hil,hz3,bC,byP]
   refine⟨ω,ω,?_⟩
   refine aa Z (by exact hfi) ?_
   simp only[go_sem,J,hil,bC,byP]
   refine⟨π,ω,ω,?_⟩
   refine aa Z (by exact hnu) ?_
   simp only[go_sem,J,g1,g2,hw1]
   exact aiE
 have e:r.ls.length=i:=ω
 subst e
 simp only[go_sem,J,show¬((r.ls.length:Int)<(r.ls.length:Int)) from ω,hz3]
 apply bM (fun _:Unit=>(⟨367,[(5,.ptr 0 0),(7,.ptr 1 0),(10,.ptr 2 0),(11,.ptr 3 0),(12,.i 0),(13,.ptr 4 0),(15,.ptr 5 0),(16,.b b),(17,.ptr 6 0),(23,.i lf)],[(0,some ⟨41,dvC (bp d)⟩),(1,some ⟨118,rqC (rqP r)⟩),(2,some ⟨41,dvC dv0⟩),(3,some ⟨114,rpC rp0⟩),(4,some ⟨wkT,wkC w5⟩),(5,some ⟨46,crC ⟨r.rp,r.us,r.nm,0,r.hg,r.rs,r.pt,r.sh,false⟩⟩),(6,some ⟨316,rR cv⟩)],7⟩:AS)) (fun _=>True)
 case tree =>
  intro hj
  have hj:=hj () trivial
  by_cases hf2:r.fm=2
  ·obtain⟨T,hr,hta⟩:=s2 hf2
   simp only[go_sem,J,hf2]
   refine aa Z (by exact hr) ?_
   simp only[go_sem,J]
   refine⟨π,?_⟩
   refine x_w Z (by exact hta) ?_
   simp only[go_sem,J]
   exact agd
  ·obtain⟨e1,e2⟩:=s3 hf2
   subst e1 e2
   simp only[go_sem,J,hf2]
   exact agd
 rintro _ -
 refine l6 Y (ks:=ai8) (n:=2000) ?_;replace Z:XK prog ai8 c _:=⟨J,Y⟩
 exact zz.h):A:=k ⟨b⟩
def ai9:List Nat:=1000042::aja
attribute[go_sem]ai9
theorem zx{A B:Prop}(b:B)(k:Hid B->A:=by
 intro zz
 skip
 simp only[go_sem,J,hz5]
 refine x_w Z (by exact t4) ?_
 simp only[go_sem,J]
 refine x_w Z (by exact t8) ?_
 simp only[go_sem,J]
 refine aa Z (by exact hms) ?_
 simp only[go_sem,J]
 refine aa Z (by exact hid) ?_
 simp only[go_sem,J]
 refine⟨π,?_⟩
 apply bM (fun _:Unit=>(⟨367,[(5,.ptr 0 0),(7,.ptr 1 0),(10,.ptr 2 0),(11,.ptr 3 0),(12,.i 0),(13,.ptr 4 0),(15,.ptr 5 0),(16,.b b),(17,.ptr 6 0),(23,.i lf),(29,.p (.data 1 176 (I.map bt))),(31,.i us)],[(0,some ⟨41,dvC (bp d)⟩),(1,some ⟨118,rqC (rqP r)⟩),(2,some ⟨41,dvC dv0⟩),(3,some ⟨114,rpC rp0⟩),(4,some ⟨wkT,wkC w7⟩),(5,some ⟨46,crC ⟨r.rp,r.us,r.nm,sd,r.hg,r.rs,r.pt,r.sh,false⟩⟩),(6,some ⟨316,rR cv⟩)],7⟩:AS)) (fun _=>True)
 case tree =>
  intro hj
  have hj:=hj () trivial
  by_cases hf1:r.fm=1
  ·obtain rfl:=hus1 hf1
   simp only[go_sem,J,hf1]
   exact agd
  ·obtain rfl:=hus2 hf1
   simp only[go_sem,J,hf1]
   exact agd
 rintro _ -
 refine l6 Y (ks:=ai9) (n:=2000) ?_;replace Z:XK prog ai9 c _:=⟨J,Y⟩
 simp only[go_sem,J,hcv,hsh]
 refine⟨ω,?_⟩
 refine aa Z (by exact had) ?_
 simp only[go_sem,J]
 refine x_w Z (by exact hta) ?_
 simp only[go_sem,J]
 refine⟨π,?_⟩
 exact zz.h):A:=k ⟨b⟩
theorem Ej{A B:Prop}(b:B)(k:Hid B->A:=by
 intro zz
 skip
 simp only[go_sem,J,hz8]
 apply bM (fun _:Unit=>(⟨367,[(5,.ptr 0 0),(7,.ptr 1 0),(10,.ptr 2 0),(11,.ptr 3 0),(12,.i 0),(13,.ptr 4 0),(15,.ptr 5 0),(16,.b b),(17,.ptr 6 0),(23,.i lf),(29,.p (.data 1 176 (I.map bt))),(31,.i us),(32,.i fl)],[(0,some ⟨41,dvC (bp d)⟩),(1,some ⟨118,rqC (rqP r)⟩),(2,some ⟨41,dvC dv0⟩),(3,some ⟨114,rpC rp0⟩),(4,some ⟨wkT,wkC w8⟩),(5,some ⟨46,crC ⟨r.rp,r.us,r.nm,sd,r.hg,r.rs,r.pt,r.sh,false⟩⟩),(6,some ⟨316,rR cv⟩)],7⟩:AS)) (fun _=>True)
 case tree =>
  intro hj
  have hj:=hj () trivial
  rcases w' b with hbb|hbb<;>rcases w' cv.vf with hcf|hcf<;>rcases w' r.sh with hsf|hsf
  all_goals
   simp only[hbb,hcf,hsf,z',y',A',if_true,if_false,x'] at hfl
   simp only[go_sem,J,hbb,hcf,hsf]
   exact bm h0 hj (aA [0,1,2,3,4,5,6] rfl (by simp only[go_sem,hfl,hbb]) (by simp only[go_sem,hbb,hcf,hsf]) rfl rfl (q' rfl))
 rintro _ -
 refine l6 Y (ks:=aja) (n:=2000) ?_;replace Z:XK prog aja c _:=⟨J,Y⟩
 simp only[go_sem,J]
 refine aa Z (by exact hkey) ?_
 simp only[go_sem,J]
 refine aa Z (by exact hrh) ?_
 simp only[go_sem,J]
 refine aa Z (by exact hed) ?_
 simp only[go_sem,J]
 refine⟨π,?_⟩
 refine aa Z (by exact hme) ?_
 simp only[go_sem,J]
 refine⟨π,?_⟩
 exact zz.h):A:=k ⟨b⟩
def ai6:List Nat:=1000014::1000026::1000034::1000042::aja
attribute[go_sem]ai6
theorem OK{f:aO}(hfE:gV f=0){d:aU}{G:Int}(hd:DInv f d G)(hG:G<900000)(now:Int)(r:RqM)(hl:aP r)(gs:List (Int×Int))(hgl:gs.length<1000000)(bu:Int)(hB:i64 bu) :
 ∃g x left,Ret f (G+2) g x left/\FPure prog 194 [bg d,.i now,rqA r,gsA gs,.i bu] (ne g x left):=by
 by_cases he:bgE d now r 2=0
 case neg =>
  refine⟨d,_,bu,ob (hd.mono ω) (bgE d now r 2) bu hB,?_⟩;have hb:=dD d now r hl gs bu 2 he;generalize bgE d now r 2=e at *;refine en func194 ntmps194 results194 aja ?_;intro c J h0 Y Z;exact afJ
 have hb:=eC d now r hl gs bu 2 he;have s:=gf (kp he).2.2.2;have hw:=gR (bu:=bu) (gs:=gs) hd he hB;have hwr:=hw.r;have E:(bgW d now r gs bu 2).er=0:=rfl;have hwp:(bgW d now r gs bu 2).rep=rp0:=rfl;generalize bgW d now r gs bu 2=w at *;obtain⟨d1,n1,n2,n3⟩:=hw.d;have hd1:=n2 E;have hxl:yj ⟨r.rp,r.us,r.nm,0,r.hg,r.rs,r.pt,r.sh,false⟩:=⟨by have:=s.rp;dsimp only;omega,by have:=s.us;dsimp only;omega,by have:=s.nm;dsimp only;omega⟩
 by_cases o:CrOk ⟨r.rp,r.us,r.nm,0,r.hg,r.rs,r.pt,r.sh,false⟩
 case neg =>
  obtain⟨e,he0,hv⟩:=vK _ hxl o;have R:=MQ w E e he0;rw[show({w with er:=e}:Wkp)={w with er:=bG w.er e} from by unfold bG;rw[if_pos E]] at R;obtain⟨g,X,left,h2,hen⟩:=(hw.fail e).fin;refine⟨g,X,left,h2.mono ω,?_⟩;refine en func194 ntmps194 results194 ai6 ?_;intro c J h0 Y Z;refine lu ?_;refine aa Z (by exact hv) ?_;simp only[go_sem,J];refine x_w Z (by exact R) ?_;simp only[go_sem,J];exact vy
 have hv:=rF _ o;have hfz:=qm w E;by_cases hfm:r.fm>2
 case pos =>
  have R:=aW w 9;obtain⟨g,X,left,h2,hen⟩:=(hw.fail 9).fin;refine⟨g,X,left,h2.mono ω,?_⟩;refine en func194 ntmps194 results194 ai6 ?_;intro c J h0 Y Z;refine lu ?_;refine mB ?_;simp only[go_sem,J,hfm];refine x_w Z (by exact R) ?_;simp only[go_sem,J];exact vy
 obtain⟨w1,b,k1,k2,k3,k4⟩:=iA hw hl 1 r.rp;have hp:=wv hd1;rw[show bg d1=AV.agg (dvC w1.d) from by rw[k3,n1]] at hp;generalize tr d1=p at *;obtain⟨U,bb,⟨m1,m0⟩,m2,m3,m4⟩:∃U bb,(W f G r gs U/\U.rep=w1.rep)/\(U.er=0->w1.er=0)/\(r.ha=false->r.ve=false->p.set=true->Con prog 261 [.ptr 0 0,.i 23] (wB w1) (.b bb) (wB U))/\((r.ha=true\/r.ve=true\/p.set=false)->U=w1):=by
  by_cases hc:r.ha=false/\r.ve=false/\p.set=true
  ·exact⟨_,_,⟨k1.fail 23,rfl⟩,fun hz=>Av hz,fun _ _ _=>aW w1 23,fun h=>by rcases h with h|h|h<;>simp[hc.1,hc.2.1,hc.2.2] at h⟩
  ·exact⟨w1,true,⟨k1,rfl⟩,id,fun h1 h2 h3=>absurd ⟨h1,h2,h3⟩ hc,fun _=>rfl⟩
 obtain⟨w3,cv,V,k6,k7⟩:=qF m1 hgl (r.ve && !r.ha);by_cases hz3:w3.er=0
 case neg =>
  obtain⟨g,X,left,h2,hen⟩:=(V).fin;refine⟨g,X,left,h2.mono ω,?_⟩;refine en func194 ntmps194 results194 ai6 ?_;intro c J h0 Y Z;refine lu ?_;refine mB ?_;refine oI ?_;refine ay Y h0 ai7 0 (fun i=>⟨367,[(5,.ptr 0 0),(7,.ptr 1 0),(10,.ptr 2 0),(11,.ptr 3 0),(12,.i 0),(13,.ptr 4 0),(15,.ptr 5 0),(16,.b b),(17,.ptr 6 0),(18,.i i)],[(0,some ⟨41,dvC (bp d)⟩),(1,some ⟨118,rqC (rqP r)⟩),(2,some ⟨41,dvC dv0⟩),(3,some ⟨114,rpC rp0⟩),(4,some ⟨wkT,wkC w3⟩),(5,some ⟨46,crC ⟨r.rp,r.us,r.nm,0,r.hg,r.rs,r.pt,r.sh,false⟩⟩),(6,some ⟨316,rR cv⟩)],7⟩) [] (fun i=>i) ⟨rfl,κ,κ,rfl,rfl,trivial,fun i h=>h⟩ ?_;intro i hi;obtain rfl:i=0:=by omega
  by_cases L:(0:Int)<(r.ls.length:Int)
  all_goals
   simp only[go_sem,J,L,hz3];refine l6 Y (ks:=aja) (n:=2000) ?_;replace Z:XK prog aja c _:=⟨J,Y⟩
   simp only[go_sem,J,hz3];exact vy
 obtain⟨H,p1,p2,p3⟩:=V.d;have u:=p2 hz3;obtain⟨D,hD⟩:=ou H u.vl u.st.c;have M:∀i:Nat,∃p:Cr×Int,i<r.ls.length->FPure prog 264 [bg H,sv r.rp,.p (.data 1 (r.ls.getD i []).length ((r.ls.getD i []).map bt))] (.tup [.agg (crC p.1),.i p.2]):=by
  intro i;by_cases hi:i<r.ls.length
  ·obtain⟨x,e,h1,h2⟩:=G6 H D hD u.st.m r.rp (r.ls.getD i []) _ rfl (by rw[s.el _ (eS hi _)];decide) (by have:=s.rp;omega);exact⟨(x,e),fun _=>h2⟩
  ·exact⟨(cr0,0),fun h=>absurd h hi⟩
 obtain⟨F,hF⟩:=Classical.axiomOfChoice M;rw[show bg H=AV.agg (dvC w3.d) from by rw[p1]] at hF;have xb:∀i:Nat,i<r.ls.length->FPure prog 32 [.agg (dvC w3.d),.p (.data 1 (r.ls.getD i []).length ((r.ls.getD i []).map bt))] _:=fun i hi=>by
  have:=dR H (r.ls.getD i []) _ rfl (by rw[s.el _ (eS hi _)];decide) u.vl;rw[show bg H=AV.agg (dvC w3.d) from by rw[p1]] at this;exact this
 obtain⟨N,hN⟩:∃N:Nat->Nat,∀i,N i=dU (bq H.v.prs) (bA 10 0 (r.ls.getD i [])):=⟨_,fun _=>rfl⟩;simp only[<-hN] at xb;have hls:=s.ls;by_cases hex:∃i,i<r.ls.length/\¬N i=0/\(F i).2=0
 case pos =>
  obtain⟨g,X,left,h2,hen⟩:=(V.fail 30).fin;refine⟨g,X,left,h2.mono ω,?_⟩;refine en func194 ntmps194 results194 ai6 ?_;intro c J h0 Y Z;refine lu ?_;refine mB ?_;refine oI ?_;have R:=aW w3 30;have hz9:¬({w3 with er:=bG w3.er 30}:Wkp).er=0:=by simp only[bG,hz3,if_true];decide
  generalize({w3 with er:=bG w3.er 30}:Wkp)=w9 at *;refine bl Y h0 ai7 (α:={a:Nat×Bool // a.1<=r.ls.length/\(a.2=false->∀i,i<a.1->¬(¬N i=0/\(F i).2=0))}) (fun a=>⟨367,[(5,.ptr 0 0),(7,.ptr 1 0),(10,.ptr 2 0),(11,.ptr 3 0),(12,.i 0),(13,.ptr 4 0),(15,.ptr 5 0),(16,.b b),(17,.ptr 6 0),(18,.i a.1.1)],[(0,some ⟨41,dvC (bp d)⟩),(1,some ⟨118,rqC (rqP r)⟩),(2,some ⟨41,dvC dv0⟩),(3,some ⟨114,rpC rp0⟩),(4,some ⟨wkT,wkC (if a.1.2=true then w9 else w3)⟩),(5,some ⟨46,crC ⟨r.rp,r.us,r.nm,0,r.hg,r.rs,r.pt,r.sh,false⟩⟩),(6,some ⟨316,rR cv⟩)],7⟩) (fun a=>r.ls.length-a.1.1) ⟨(0,false),Nat.zero_le _,fun _ i hi=>absurd hi (Nat.not_lt_zero _)⟩ [] (fun i=>i) ⟨rfl,κ,by simp only[go_sem,if_false,x'],rfl,rfl,trivial,fun i h=>h⟩ ?_;rintro⟨⟨i,q⟩,hi,hq⟩;dsimp only at hi hq⊢;cases q with
  |true =>
   simp only[if_true];by_cases L:(i:Int)<(r.ls.length:Int)
   all_goals
    simp only[go_sem,J,L,hz9];refine l6 Y (ks:=aja) (n:=2000) ?_;replace Z:XK prog aja c _:=⟨J,Y⟩
    simp only[go_sem,J,hz9];exact vy
  |false =>
   have hq:=hq rfl;simp only[if_false,x'];rcases r' i r.ls.length with hlt|hge
   ·have hil:(i:Int)<(r.ls.length:Int):=ω;have hw1:n'.wrap ((i:Int)+1)=((i+1:Nat):Int):=by rw[ab ω ω];omega
    have hfi:=hF i hlt;have hnu:=xb i hlt;by_cases O:¬N i=0/\(F i).2=0
    ·obtain⟨g1,g2⟩:=O;generalize hNi:N i=Ni at hnu g1;generalize hFi:F i=Fi at hfi g2;simp only[go_sem,J,hil,hz3,bC,byP];refine⟨ω,ω,?_⟩;refine aa Z (by exact hfi) ?_;simp only[go_sem,J,hil,bC,byP];refine⟨π,ω,ω,?_⟩;refine aa Z (by exact hnu) ?_;simp only[go_sem,J,g1,g2];refine⟨π,?_⟩;refine x_w Z (by exact R) ?_;simp only[go_sem,J,hw1];exact⟨⟨(i+1,true),by show i+1<=_;omega,fun h=>by cases h⟩,by show r.ls.length-(i+1)<r.ls.length-i;omega,aA [0,1,2,3,4,5,6] rfl κ (by simp only[go_sem,if_true]) rfl rfl (q' rfl)⟩
    ·have hnx:∀j,j<i+1->¬(¬N j=0/\(F j).2=0):=fun j hj=>by
      by_cases e:j=i
      ·rw[e];exact O
      ·exact hq j ω
     have c3:N i=0\/(¬N i=0/\¬(F i).2=0):=by
      by_cases g1:N i=0
      ·exact .inl g1
      ·exact .inr ⟨g1,fun h=>O ⟨g1,h⟩⟩
     generalize hNi:N i=Ni at hnu c3;generalize hFi:F i=Fi at hfi c3;rcases c3 with g1|⟨g1,g2⟩
     all_goals
      simp only[go_sem,J,hil,hz3,bC,byP];refine⟨ω,ω,?_⟩;refine aa Z (by exact hfi) ?_;simp only[go_sem,J,hil,bC,byP];refine⟨π,ω,ω,?_⟩;refine aa Z (by exact hnu) ?_
     ·simp only[go_sem,J,g1,hw1];exact agD
     ·simp only[go_sem,J,g1,g2,hw1];exact agD
   ·obtain rfl:i=r.ls.length:=by omega
    obtain⟨j,hj,hjq⟩:=hex;exact absurd hjq (hq j hj)
 have hex:∀i,i<r.ls.length->¬(¬N i=0/\(F i).2=0):=fun i hi h=>hex ⟨i,hi,h⟩
 obtain⟨w5,lf,⟨s1,s0⟩,s2,s3⟩:∃(w5:Wkp) (lf:Int),(W f (G+1) r gs w5/\w5.rep=w3.rep)/\(r.fm=2->∃T:DR,FPure prog 265 [.agg (dvC w3.d),.i 0,.i w3.bu] (.tup [bg T.d,.i lf,.i T.left,.i T.e])/\Con prog 266 [.ptr 0 0,.agg (dvC (bp T.d)),.i T.left,.i T.e] (wB w3) (.tup []) (wB w5))/\(¬r.fm=2->w5=w3/\lf=0):=by
  by_cases hf2:r.fm=2
  ·obtain⟨a,T,-,-,-,hT,hr⟩:=wm H u.vl 0 w3.bu u.len V.bu;rw[show bg H=AV.agg (dvC w3.d) from by rw[p1]] at hr;exact⟨_,a,⟨V.take hz3 u hT ω,rfl⟩,fun _=>⟨T,hr,nP w3 (bp T.d) T.left T.e⟩,fun h=>absurd hf2 h⟩
  ·exact⟨w3,0,⟨V.mono ω,rfl⟩,fun h=>absurd h hf2,fun _=>⟨rfl,rfl⟩⟩
 by_cases hz5:w5.er=0
 case neg =>
  obtain⟨g,X,left,h2,hen⟩:=(s1).fin;refine⟨g,X,left,h2.mono ω,?_⟩;refine en func194 ntmps194 results194 ai6 ?_;intro c J h0 Y Z;refine lu ?_;refine mB ?_;refine oI ?_;refine uR ?_;simp only[go_sem,J,hz5];exact vy
 obtain⟨w6,sd,t1,t2,t3,t4⟩:=s1.draw hz5;obtain⟨w7,nc,t5,t6,t7,t8⟩:=t1.draw t2;obtain⟨B,u1,u2,u3⟩:=t5.d;have k:=u2 t6;obtain⟨D7,hD7⟩:=ou B k.vl k.st.c;have hms:=ja B k.vl k.st.m;generalize gp (vgetM 1 B.v.prs)=mk at *;rw[show bg B=AV.agg (dvC w7.d) from by rw[u1]] at hms;have l:CrOk ⟨r.rp,r.us,r.nm,sd,r.hg,r.rs,r.pt,r.sh,false⟩:=⟨o.rp1,o.rp2,o.us1,o.us2,o.nm,o.hg,o.pt,o.u1,o.u2,o.sh,o.bk⟩
 have hid:=abz mk nc _ l (mO _ l);have C:=PS mk nc ⟨r.rp,r.us,r.nm,sd,r.hg,r.rs,r.pt,r.sh,false⟩;generalize idX mk nc ⟨r.rp,r.us,r.nm,sd,r.hg,r.rs,r.pt,r.sh,false⟩=I at *;obtain⟨us,hus1,hus2,hub⟩:∃us:Int,(r.fm=1->us=1)/\(¬r.fm=1->us=0)/\0<=us/\us<=1:=by
  by_cases hf1:r.fm=1
  ·exact⟨1,fun _=>rfl,fun h=>absurd hf1 h,ε,ε⟩
  ·exact⟨0,fun h=>absurd h hf1,fun _=>rfl,ε,ε⟩
 obtain⟨sh,hsh,hsh2,hsh16⟩:=aeZ o.hg.1 o.hg.2;dsimp only at hsh;have hcv:o'.wrap r.hg=r.hg:=ao (by have:=o.hg;dsimp only at this;omega) (by have:=o.hg;dsimp only at this;omega);have hhg:1<=r.hg/\r.hg<=4:=o.hg;have hG3:GOk ⟨0,sh,us⟩:=⟨by dsimp only;omega,by dsimp only;omega,by dsimp only;omega,by dsimp only;omega⟩
 have had:FPure prog 8 [bg B,.agg (crC ⟨r.rp,r.us,r.nm,sd,r.hg,r.rs,r.pt,r.sh,false⟩),.p (.data 1 176 (I.map bt)),.i 0,.i sh,.i us,.i w7.bu] (th (vz ⟨0,sh,us⟩ B D7 ⟨r.rp,r.us,r.nm,sd,r.hg,r.rs,r.pt,r.sh,false⟩ (bA 10 0 I) w7.bu)):=by
  cases hrs:r.rs with
  |true =>
   rw[hrs] at l;exact GB ⟨0,sh,us⟩ hG3 B D7 _ I 176 w7.bu hD7 k.on l rfl (s' (mO _ l) ε) C ε k.len t5.bu
  |false =>
   rw[hrs] at l;exact PB ⟨0,sh,us⟩ hG3 B D7 _ I 176 w7.bu hD7 k.on l rfl C ε k.len t5.bu
 have hans:=G8 ⟨0,sh,us⟩ B D7 _ l (bA 10 0 I) w7.bu;generalize vz ⟨0,sh,us⟩ B D7 ⟨r.rp,r.us,r.nm,sd,r.hg,r.rs,r.pt,r.sh,false⟩ (bA 10 0 I) w7.bu=T at *;have A:=t5.take t6 k hans ω;have hta:=nP w7 (bp T.d) T.left T.e;have hr8:(iV w7 (bp T.d) T.left T.e).rep=w7.rep:=rfl;generalize iV w7 (bp T.d) T.left T.e=w8 at *;rw[show bg B=AV.agg (dvC w7.d) from by rw[u1]] at had;by_cases hz8:w8.er=0
 case neg =>
  obtain⟨g,X,left,h2,hen⟩:=(A).fin;refine⟨g,X,left,h2.mono ω,?_⟩;refine en func194 ntmps194 results194 ai6 ?_;intro c J h0 Y Z;refine lu ?_;refine mB ?_;refine oI ?_;refine uR ?_;refine zx ?_;simp only[go_sem,J,hz8];exact vy
 obtain⟨fl,hfl⟩:∃fl:Int,fl=(if r.sh=true then bor .i64 (if(b||cv.vf)=true then bor .i64 65 4 else 65) 8 else(if(b||cv.vf)=true then bor .i64 65 4 else 65)):=⟨_,rfl⟩;obtain⟨hh,y,hhe,hkey⟩:=ZI _ l;have hrh:=nJ r.rp (by have:=s.rp;omega);generalize bA 9 0 r.rp=rpw at *;obtain⟨t,e5,hbl5,hed⟩:=wq rpw fl us 0 d.fac.mo I hh y;unfold adA at hed;rw[C] at hed;obtain⟨z,hme⟩:=wo t ω r.hs;by_cases hf1:r.fm=1
 case pos =>
  obtain⟨sg,P⟩:=Fu sd r.hg 0 z;obtain⟨w9,q1,q2,q3⟩:=fH (A.setrep {w8.rep with ad := .d 1 t.length (t.map bt),fm:=1,sg := .d 1 sg.length (sg.map bt)} ⟨.inr ⟨t,ω,rfl⟩,A.rep.id⟩) 1;obtain⟨g,X,left,h2,hen⟩:=(q1).fin;refine⟨g,X,left,h2.mono ω,?_⟩;refine en func194 ntmps194 results194 ai6 ?_;intro c J h0 Y Z;refine lu ?_;refine mB ?_;refine oI ?_;refine uR ?_;refine zx ?_;refine Ej ?_;simp only[go_sem,J,hf1];refine aa Z (by exact P) ?_;simp only[go_sem,J];refine x_w Z (by exact q3) ?_;simp only[go_sem,J];exact vy
 by_cases hf2:r.fm=2
 case neg =>
  obtain⟨w9,q1,q2,q3⟩:=fH (A.setrep {w8.rep with ad := .d 1 t.length (t.map bt),fm:=r.fm} ⟨.inr ⟨t,ω,rfl⟩,A.rep.id⟩) 1;obtain⟨g,X,left,h2,hen⟩:=(q1).fin;refine⟨g,X,left,h2.mono ω,?_⟩;refine en func194 ntmps194 results194 ai6 ?_;intro c J h0 Y Z;refine lu ?_;refine mB ?_;refine oI ?_;refine uR ?_;refine zx ?_;refine Ej ?_;simp only[go_sem,J,hf1,hf2];refine x_w Z (by exact q3) ?_;simp only[go_sem,J];exact vy
 obtain⟨sg,P⟩:=Fu d.fac.ase d.fac.ah lf z;have K:d.fac=f:=by
  rcases hd with h|h
  ·exact h.fac
  ·rw[h.is];rfl
 have hce:=OJ hfE;have hcl:=hce.1;rw[<-K] at hcl;have hcb:∀b,b∈d.fac.ce->b.length<=512:=by rw[K];exact hce.2
 have hnce:w8.rep.ce = .nil:=by rw[hr8,t7,t3,s0,k6.2,m0,k2.2,hwp];rfl
 obtain⟨w9,q1,q2,q3⟩:=fH (A.setrep {w8.rep with ad := .d 1 t.length (t.map bt),fm:=2,sg := .d 1 sg.length (sg.map bt),ce := .d 1 d.fac.ce.length (d.fac.ce.map byP)} ⟨.inr ⟨t,ω,rfl⟩,A.rep.id⟩) 1;obtain⟨g,X,left,h2,hen⟩:=(q1).fin;refine⟨g,X,left,h2.mono ω,?_⟩;refine en func194 ntmps194 results194 ai6 ?_;intro c J h0 Y Z;refine lu ?_;refine mB ?_;refine oI ?_;refine uR ?_;refine zx ?_;refine Ej ?_;simp only[go_sem,J,hf1,hf2];refine aa Z (by exact P) ?_;simp only[go_sem,J];refine aX 28 ?_;refine ay Y h0 aja d.fac.ce.length (fun i=>⟨367,[(5,.ptr 0 0),(10,.ptr 2 0),(11,.ptr 3 0),(12,.i 0),(13,.ptr 4 0),(36,.i i)],[(0,some ⟨41,dvC (bp d)⟩),(2,some ⟨41,dvC dv0⟩),(3,some ⟨114,rpC rp0⟩),(4,some ⟨wkT,(wkC {w8 with rep:={w8.rep with ad := .d 1 t.length (t.map bt),fm:=2,sg := .d 1 sg.length (sg.map bt)} }).set 58 (.sl 8 0 i 1)⟩),(8,some ⟨28,byL (d.fac.ce.take i)⟩)],9⟩) [] (fun i=>i) ⟨rfl,κ,?_,rfl,rfl,trivial,fun i h=>h⟩ ?_
 ·simp only[go_sem,List.take_zero];have Q:=fun h S σ=>bX (h:=h) (S:=S) (σ:=σ) 58 (.sl 8 0 0 1) (.p (.v (.slice none 0 0))) (l7 h S σ {w8 with rep:={w8.rep with ad := .d 1 t.length (t.map bt),fm:=2,sg := .d 1 sg.length (sg.map bt)} }) κ
  have Q:=fun h S σ=>(Tp {w8 with rep:={w8.rep with ad := .d 1 t.length (t.map bt),fm:=2,sg := .d 1 sg.length (sg.map bt)} } hnce) ▸ Q h S σ
  exact⟨Q _ _ _,by simp[byL,aj]⟩
 intro i hi;rcases r' i d.fac.ce.length with hlt|hge
 ·have hil:(i:Int)<(d.fac.ce.length:Int):=ω;have hw1:n'.wrap ((i:Int)+1)=((i+1:Nat):Int):=by rw[ab ω ω];omega
  have hb:=hcb _ (eS hlt []);have htk:d.fac.ce.take (i+1)=d.fac.ce.take i++[d.fac.ce.getD i []]:=by rw[List.take_add_one];simp[h',hlt]
  rw[htk];have htl:(d.fac.ce.take i).length=i:=by rw[List.length_take];omega
  generalize d.fac.ce.take i=ct at *;simp only[go_sem,J,hil,bC,byP,hw1];refine⟨ω,ω,ω,ω,π,hlt,ow [9] [0,1,2,3,4,5,6,7,11] rfl κ ?_ rfl rfl ⟨rfl,trivial⟩ (q' rfl)⟩;simp only[go_sem];rw[<-qb];exact⟨bX 58 _ _ (l7 _ _ _ _) κ,pz _ _ (dK _ _ _ _) ⟨KF rfl,by simp[aj]⟩⟩
 have e:d.fac.ce.length=i:=ω;subst e;rw[a' (u' _)];simp only[go_sem,J,show¬((d.fac.ce.length:Int)<(d.fac.ce.length:Int)) from ω];refine gU Y (ks:=aja) (n:=2000) 8 ?_ ?_
 ·simp only[go_sem];exact bR (by show 0+d.fac.ce.length*1<=(byL d.fac.ce).length;simp[byL]) _ _ (GK _ _ _)
 simp only[go_sem,J];rw[a' (u' _)];refine x_w Z (by exact q3) ?_;simp only[go_sem,J];exact vy
end
theorem F3:(ByteArray.mk #[]).toList=[]:=cK []
theorem OL{f:aO}{G:Int}{r:RqM}{gs:List (Int×Int)}{w:Wkp}(h:W f G r gs w)(g:gs.length<1000000)(b a v:Bool):∃d c fl,W f G r gs d /\
 (a=true->Con prog 263 [.ptr 0 0,.b v] (wB w) (.agg (rR c)) (wB d))/\(a=false->d=w/\c=⟨false,false,0,0⟩) /\
 fl=(if(b||c.vf)=true then bor .i64 (if a=true then 1 else 0) 4 else(if a=true then 1 else 0)):=by
 cases a with
 |true =>
  obtain⟨d,c,h1,h2,i⟩:=qF h g v;exact⟨d,c,_,h1,fun _=>i,fun c=>(by cases c),rfl⟩
 |false=>exact⟨w,_,_,h,fun c=>(by cases c),fun _=>⟨rfl,rfl⟩,rfl⟩
theorem sE{A B:Prop}(b:B)(k:Hid B->A:=by
 intro zz
 simp only[go_sem,J]
 refine x_b Z (by exact hb) ?_
 simp only[go_sem,J]
 exact zz.h):A:=k ⟨b⟩
def ajc:List Nat:=[0,1,2,3,4,5,7,10,11,12,13,14,15,16,17,18,19,30,37,59,73,80,100,120,143,156,165]
attribute[go_sem]ajc
theorem uS{A B:Prop}(b:B)(k:Hid B->A:=by
 intro zz
 skip
 simp only[go_sem,J,cK,F3,eq_false hrp]
 refine x_w Z (by exact k4) ?_
 simp only[go_sem,J]
 apply bM (fun _:Unit=>(⟨188,[(5,.ptr 0 0),(7,.ptr 1 0),(10,.ptr 2 0),(11,.ptr 3 0),(12,.i 0),(13,.ptr 4 0),(15,.i fl)],[(0,some ⟨41,dvC (bp d)⟩),(1,some ⟨118,rqC (rqP r)⟩),(2,some ⟨41,dvC dv0⟩),(3,some ⟨114,rpC rp0⟩),(4,some ⟨wkT,wkC w2⟩)],6⟩:AS)) (fun _=>True)
 case tree =>
  intro hj
  have hj:=hj () trivial
  rcases w' r.pr with hpr|hpr<;>rcases w' r.ve with hve|hve<;>rcases w' r.ha with hha|hha
  all_goals
   first
   |have hm1:=hm1 (by simp[hpr,hve,hha])
    rw[show(r.pr||(r.ve && !r.ha))=true from by simp[hpr,hve,hha]] at hm3
    simp only[hve,hha,Bool.not_true,Bool.not_false,Bool.and_true,Bool.and_false] at hm1
    simp only[go_sem,J,hpr,hve,hha]
    refine x_w Z (by exact hm1) ?_
    rcases w' b with hbb|hbb<;>rcases w' cv.vf with hcf|hcf
    all_goals
     simp only[go_sem,J,hpr,hve,hha,hbb,hcf]
     simp only[hbb,hcf,z',y',A',if_true,if_false,x'] at hm3
     exact aib
   |obtain⟨hm4,hm5⟩:=hm2 (by simp[hpr,hve,hha])
    rw[show(r.pr||(r.ve && !r.ha))=false from by simp[hpr,hve,hha]] at hm3
    subst hm4 hm5
    rcases w' b with hbb|hbb
    all_goals
     simp only[go_sem,J,hpr,hve,hha,hbb]
     simp only[hbb,z',y',A',if_true,if_false,x'] at hm3
     exact aib
 rintro _ -
 refine l6 Y (ks:=ajc) (n:=2000) ?_;replace Z:XK prog ajc c _:=⟨J,Y⟩
 exact zz.h):A:=k ⟨b⟩
theorem xE{A B:Prop}(b:B)(k:Hid B->A:=by
 intro zz
 simp only[go_sem,J,hz2]
 refine aa Z (by exact hcd) ?_
 simp only[go_sem,J]
 refine⟨π,?_⟩
 exact zz.h):A:=k ⟨b⟩
theorem BF{A B:Prop}(b:B)(k:Hid B->A:=by
 intro zz
 simp only[go_sem,J,hn0i]
 refine aa Z (by exact hus) ?_
 simp only[go_sem,J]
 exact zz.h):A:=k ⟨b⟩
theorem F4{A B:Prop}(b:B)(k:Hid B->A:=by
 intro zz
 simp only[go_sem,J,hm0i,List.map_cons,jS,crP,c',byP]
 refine⟨ω,ω,?_⟩
 refine x_w Z (by exact has) ?_
 simp only[go_sem,J]
 refine⟨π,?_⟩
 exact zz.h):A:=k ⟨b⟩
theorem KG{A B:Prop}(b:B)(k:Hid B->A:=by
 intro zz
 simp only[go_sem,J,hz3]
 exact zz.h):A:=k ⟨b⟩
theorem aa7{A B:Prop}(b:B)(k:Hid B->A:=by
 intro zz
 simp only[go_sem,J,hlsi,hm1i,q1]
 refine⟨⟨ω,ω⟩,π,?_⟩
 simp only[<-hl3,htk]
 exact zz.h):A:=k ⟨b⟩
def ajb:List Nat:=1000015::ajc
attribute[go_sem]ajb
theorem Tq{f:aO}{d:aU}{G:Int}(S:DInv f d G)(hG:G<900000)(now:Int)(r:RqM)(F:aP r)(gs:List (Int×Int))(H:gs.length<1000000)(bu:Int)(D:i64 bu) :
 ∃g x left,Ret f (G+1) g x left/\FPure prog 195 [bg d,.i now,rqA r,gsA gs,.i bu] (ne g x left):=by
 by_cases he:bgE d now r 3=0
 case neg =>
  refine⟨d,_,bu,ob (S.mono ω) (bgE d now r 3) bu D,?_⟩;have hb:=dD d now r F gs bu 3 he;generalize bgE d now r 3=e at *;refine en func195 ntmps195 results195 ajc ?_;intro c J h0 Y Z;exact afJ
 have hb:=eC d now r F gs bu 3 he;have I:=gf (kp he).2.2.2;have E:=gR (bu:=bu) (gs:=gs) S he D;have hwr:=E.r;have K:(bgW d now r gs bu 3).er=0:=rfl;have hwp:(bgW d now r gs bu 3).rep=rp0:=rfl;generalize bgW d now r gs bu 3=w at *;obtain⟨d1,n1,n2,n3⟩:=E.d;have hd1:=n2 K;by_cases hrp:r.rp=[]
 case pos =>
  have t:=aW w 9;obtain⟨g,X,left,h2,hen⟩:=(E.fail 9).fin;refine⟨g,X,left,h2.mono ω,?_⟩;refine en func195 ntmps195 results195 ajb ?_;intro c J h0 Y Z;refine sE ?_;simp only[go_sem,J,cK,F3,eq_true hrp];refine x_w Z (by exact t) ?_;simp only[go_sem,J];exact vy
 obtain⟨w1,b,k1,k2,k3,k4⟩:=iA E F 2 r.rp;obtain⟨w2,cv,fl,u,hm1,hm2,hm3⟩:=OL k1 H b (r.pr||(r.ve && !r.ha)) (r.ve && !r.ha);by_cases hz2:w2.er=0
 case neg =>
  obtain⟨g,X,left,h2,hen⟩:=(u).fin;refine⟨g,X,left,h2.mono ω,?_⟩;refine en func195 ntmps195 results195 ajb ?_;intro c J h0 Y Z;refine sE ?_;refine uS ?_;simp only[go_sem,J,hz2];exact vy
 obtain⟨L,T,p2,p3⟩:=u.d;have v:=p2 hz2;obtain⟨n,l,ids,M,N,U,hA,D,hcd⟩:=QE v r I (band .i64 fl 4 != 0);rw[show bg L=AV.agg (dvC w2.d) from by rw[T]] at hcd;by_cases O:n=0
 case pos =>
  have t:=aW w2 31;obtain⟨g,X,left,h2,hen⟩:=(u.fail 31).fin;refine⟨g,X,left,h2.mono ω,?_⟩;refine en func195 ntmps195 results195 ajb ?_;intro c J h0 Y Z;refine sE ?_;refine uS ?_;refine xE ?_;simp only[go_sem,J,O];refine x_w Z (by exact t) ?_;simp only[go_sem,J];exact vy
 have hn0i:¬((n:Int)=0):=ω;obtain⟨m,V,o,P,y,hmn,Q,z,hus⟩:=Jr L v.vl l ids n M N ω CrOk (fun b=>b.length=176) (fun b hb=>ω) hA D;rw[show bg L=AV.agg (dvC w2.d) from by rw[T]] at hus;by_cases s:m=0
 case pos =>
  have t:=aW w2 13;obtain⟨g,X,left,h2,hen⟩:=(u.fail 13).fin;refine⟨g,X,left,h2.mono ω,?_⟩;refine en func195 ntmps195 results195 ajb ?_;intro c J h0 Y Z;refine sE ?_;refine uS ?_;refine xE ?_;refine BF ?_;simp only[go_sem,J,s];refine x_w Z (by exact t) ?_;simp only[go_sem,J];exact vy
 have hm0i:¬((m:Int)=0):=ω;obtain⟨x,p,rfl⟩:∃x p,V=x::p:=by
  match V,P with
  |x::p,_=>exact⟨x,p,rfl⟩
  |[],h=>exact absurd h.symm s
 obtain⟨id,a,rfl⟩:∃x p,o=x::p:=by
  match o,y with
  |x::p,_=>exact⟨x,p,rfl⟩
  |[],h=>exact absurd h.symm s
 have hid:=z id (e' ..);obtain⟨q,j,has⟩:=r7 u hz2 ω x (Q x (e' ..)) id id.length rfl ω r.hs fl;by_cases hz3:q.er=0
 case neg =>
  obtain⟨g,X,left,h2,hen⟩:=(j).fin;refine⟨g,X,left,h2.mono ω,?_⟩;refine en func195 ntmps195 results195 ajb ?_;intro c J h0 Y Z;refine sE ?_;refine uS ?_;refine xE ?_;refine BF ?_;refine F4 ?_;simp only[go_sem,J,hz3];exact vy
 rw[show q={q with er:=0} from by cases q;cases hz3;rfl] at j;by_cases hls:r.ls.length=0
 case neg =>
  have hlsi:¬((r.ls.length:Int)=0):=ω;obtain⟨W,A,B,k⟩:=fH (j.setrep {q.rep with ct:=1} ⟨j.rep.ad,j.rep.id⟩) 2;obtain⟨g,X,left,h2,hen⟩:=(A).fin;refine⟨g,X,left,h2.mono ω,?_⟩;refine en func195 ntmps195 results195 ajb ?_;intro c J h0 Y Z;refine sE ?_;refine uS ?_;refine xE ?_;refine BF ?_;refine F4 ?_;refine KG ?_;simp only[go_sem,J,hlsi];refine x_w Z (by exact k) ?_;simp only[go_sem,J];exact vy
 have hlsi:((r.ls.length:Int)=0):=ω;by_cases hgt1:1<m
 case neg =>
  have hm1i:¬((m:Int)>1):=ω;obtain⟨W,A,B,k⟩:=fH (j.setrep {q.rep with ct:=m} ⟨j.rep.ad,j.rep.id⟩) 2;obtain⟨g,X,left,h2,hen⟩:=(A).fin;refine⟨g,X,left,h2.mono ω,?_⟩;refine en func195 ntmps195 results195 ajb ?_;intro c J h0 Y Z;refine sE ?_;refine uS ?_;refine xE ?_;refine BF ?_;refine F4 ?_;refine KG ?_;simp only[go_sem,J,hlsi,hm1i];refine x_w Z (by exact k) ?_;simp only[go_sem,J];exact vy
 have hm1i:((m:Int)>1):=ω;obtain⟨R,q1,q2,q3⟩:=j.d;have q1:q.d=bp R:=q1;have C:=q2 rfl;have hl3:a.length=m-1:=by simp at y;omega
 have htk:List.take a.length (a.map byP)=a.map byP:=a' η;have k7:=(j.setrep {q.rep with ct:=m} ⟨j.rep.ad,j.rep.id⟩).setd {R with nx:=⟨true,R.now,r.hs,fl,a⟩} (C.upd rfl rfl C.now ⟨by show a.length<1000;omega,fun b hb=>z b (m' _ hb)⟩ rfl);obtain⟨W,A,B,k⟩:=fH k7 2;obtain⟨g,X,left,h2,hen⟩:=(A).fin;refine⟨g,X,left,h2.mono ω,?_⟩;refine en func195 ntmps195 results195 ajb ?_;intro c J h0 Y Z;refine sE ?_;refine uS ?_;refine xE ?_;refine BF ?_;refine F4 ?_;refine KG ?_;refine aa7 ?_;refine x_w Z (by exact k) ?_;simp only[go_sem,J];exact vy
def ajd:List Nat:=[0,1,2,3,4,5,7,10,11,12,14,15,26,37,48,59,70,81,92,103,114,125,136,147,158,171]
attribute[go_sem]ajd
theorem Tr{f:aO}(l:gV f=0){d:aU}{G:Int}(g:DInv f d G)(k:G<900000)(now:Int)(r:RqM)(j:aP r)(gs:List (Int×Int))(b:gs.length<1000000)(bu:Int)(h:i64 bu) :
 ∃a x left,Ret f (G+2) a x left/\FPure prog 129 [bg d,.i now,rqA r,gsA gs,.i bu] (ne a x left):=by
 by_cases k1:r.kd=1
 ·obtain⟨a,x,left,h1,h2⟩:=QB g now r j gs bu h;refine⟨a,x,left,h1.mono ω,?_⟩;refine en func129 ntmps129 results129 ajd ?_;intro c J h0 Y Z;simp only[go_sem,J,k1];exact afV
 by_cases k2:r.kd=2
 ·obtain⟨a,x,left,h1,h2⟩:=OK l g k now r j gs b bu h;refine⟨a,x,left,h1.mono ω,?_⟩;refine en func129 ntmps129 results129 ajd ?_;intro c J h0 Y Z;simp only[go_sem,J,k2];exact afV
 by_cases k3:r.kd=3
 ·obtain⟨a,x,left,h1,h2⟩:=Tq g k now r j gs b bu h;refine⟨a,x,left,h1.mono ω,?_⟩;refine en func129 ntmps129 results129 ajd ?_;intro c J h0 Y Z;simp only[go_sem,J,k3];exact afV
 by_cases k4:r.kd=4
 ·obtain⟨a,x,left,h1,h2⟩:=QD g k now r j gs b bu h;refine⟨a,x,left,h1.mono ω,?_⟩;refine en func129 ntmps129 results129 ajd ?_;intro c J h0 Y Z;simp only[go_sem,J,k4];exact afV
 by_cases k5:r.kd=5
 ·obtain⟨a,x,left,h1,h2⟩:=Fv g now r j gs bu h;refine⟨a,x,left,h1.mono ω,?_⟩;refine en func129 ntmps129 results129 ajd ?_;intro c J h0 Y Z;simp only[go_sem,J,k5];exact afV
 by_cases k6:r.kd=6
 ·obtain⟨a,x,left,h1,h2⟩:=NA g now r j gs bu h;refine⟨a,x,left,h1.mono ω,?_⟩;refine en func129 ntmps129 results129 ajd ?_;intro c J h0 Y Z;simp only[go_sem,J,k6];exact afV
 by_cases k7:r.kd=7
 ·obtain⟨a,x,left,h1,h2⟩:=HM g k now r j gs b bu h;refine⟨a,x,left,h1.mono ω,?_⟩;refine en func129 ntmps129 results129 ajd ?_;intro c J h0 Y Z;simp only[go_sem,J,k7];exact afV
 by_cases k8:r.kd=8
 ·obtain⟨a,x,left,h1,h2⟩:=Ei g k now r j gs b bu h;refine⟨a,x,left,h1.mono ω,?_⟩;refine en func129 ntmps129 results129 ajd ?_;intro c J h0 Y Z;simp only[go_sem,J,k8];exact afV
 by_cases k9:r.kd=9
 ·obtain⟨a,x,left,h1,h2⟩:=NB g k now r j gs b bu h;refine⟨a,x,left,h1.mono ω,?_⟩;refine en func129 ntmps129 results129 ajd ?_;intro c J h0 Y Z;simp only[go_sem,J,k9];exact afV
 by_cases k10:r.kd=10
 ·obtain⟨a,x,left,h1,h2⟩:=KB g k now r j gs b bu h;refine⟨a,x,left,h1.mono ω,?_⟩;refine en func129 ntmps129 results129 ajd ?_;intro c J h0 Y Z;simp only[go_sem,J,k10];exact afV
 by_cases k11:r.kd=11
 ·obtain⟨a,x,left,h1,h2⟩:=QF g k now r j gs b bu h;refine⟨a,x,left,h1.mono ω,?_⟩;refine en func129 ntmps129 results129 ajd ?_;intro c J h0 Y Z;simp only[go_sem,J,k11];exact afV
 by_cases k12:r.kd=12
 ·obtain⟨a,x,left,h1,h2⟩:=Jo g ω now r j gs bu h;refine⟨a,x,left,h1.mono ω,?_⟩;refine en func129 ntmps129 results129 ajd ?_;intro c J h0 Y Z;simp only[go_sem,J,k12];exact afV
 by_cases k13:r.kd=13
 ·obtain⟨a,x,left,h1,h2⟩:=Jq g k now r j gs b bu h;refine⟨a,x,left,h1.mono ω,?_⟩;refine en func129 ntmps129 results129 ajd ?_;intro c J h0 Y Z;simp only[go_sem,J,k13];exact afV
 by_cases k14:r.kd=14
 ·obtain⟨a,x,left,h1,h2⟩:=Jp g k now r j gs b bu h;refine⟨a,x,left,h1.mono ω,?_⟩;refine en func129 ntmps129 results129 ajd ?_;intro c J h0 Y Z;simp only[go_sem,J,k14];exact afV
 cases hon:d.on with
 |false =>
  refine⟨d,_,bu,ob (g.mono ω) 17 bu h,?_⟩;exact agB
 |true =>
  refine⟨d,_,bu,ob (g.mono ω) 3 bu h,?_⟩;exact agB
end Go.Abs

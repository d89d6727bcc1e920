/- Plain facts on journals: the journal behind Append is the reference's. Own work; no statement of the seat is proved here. -/
import Derived.Test.YtebndjnkmcahaaaGreatDoorRj
namespace Go.Proofs.YtebndjnkmcahaaaGreatDoor
set_option linter.unusedSimpArgs false
set_option linter.unusedVariables false
open Go Go.Abs
theorem uW (ch:Nat→UInt8→UInt8) (bs:List UInt8) (a:Nat):∀(m i:Nat),a+m≤bs.length→(cL ch bs a m).getD i 0=if a≤i∧i<a+m then ch (i-a) (bs.getD i 0) else bs.getD i 0
 | 0,i,_=>by rw [if_neg (by omega)];rfl
 | m+1,i,h=>by
  have ih:=uW ch bs a m
  simp only [cL]
  have hl:=eq ch bs a m
  by_cases hi:i=a+m
  ·subst hi
   rw [if_pos (by omega)]
   have e:((cL ch bs a m).set (a+m) (ch m ((cL ch bs a m).getD (a+m) 0))).getD (a+m) 0=ch m ((cL ch bs a m).getD (a+m) 0):=by
    simp [List.getD_eq_getElem?_getD,show a+m<(cL ch bs a m).length by omega]
   rw [e,ih (a+m) (by omega),if_neg (by omega),show a+m-a=m by omega]
  ·have e:((cL ch bs a m).set (a+m) (ch m ((cL ch bs a m).getD (a+m) 0))).getD i 0=(cL ch bs a m).getD i 0:=by
    simp [List.getD_eq_getElem?_getD,List.getElem?_set_ne (fun e=>hi e.symm)]
   rw [e,ih i (by omega)]
   by_cases h2:a≤i∧i<a+m
   ·rw [if_pos h2,if_pos (by omega)]
   ·rw [if_neg h2,if_neg (by omega)]
theorem yh {f:Fl} {p q:Nat} (h:f.ps=p) (i:Nat):(pgM f q).getD i 0=if i<p then f.bs.getD (q*p+i) 0 else 0:=by
 unfold pgM
 simp only [h,Int.toNat_natCast,List.getD_eq_getElem?_getD,List.getElem?_take,List.getElem?_drop]
 split<;>simp
theorem pz {x y:List UInt8} {a b m:Nat} (hx:a+m≤x.length) (hy:b+m≤y.length) (h:∀i,i<m→x.getD (a+i) 0=y.getD (b+i) 0):(x.drop a).take m=(y.drop b).take m:=by
 apply List.ext_getElem
 ·simp;omega
 ·intro i h1 h2
  have hi:i<m:=by simp at h1;omega
  have:=h i hi
  simp only [List.getElem_take,List.getElem_drop]
  simpa [List.getD_eq_getElem?_getD,show a+i<x.length by omega,show b+i<y.length by omega] using this
theorem EL {x y:List UInt8} (hl:x.length=y.length) (h:∀i,i<x.length→x.getD i 0=y.getD i 0):x=y:=by
 apply List.ext_getElem hl
 intro i h1 h2
 have:=h i h1
 simpa [List.getD_eq_getElem?_getD,h1,h2] using this
structure Laid (t r:Nat) (s x y:List UInt8):Prop where
 len:y.length=x.length
 fits:t+r≤x.length
 le:r≤s.length
 get:∀i,y.getD i 0=if t≤i∧i<t+r then s.getD (i-t) 0 else x.getD i 0
theorem Laid.cut {t r:Nat} {s x y:List UInt8} (h:Laid t r s x y) {a m:Nat} (hm:a+m≤r):(y.drop (t+a)).take m=(s.drop a).take m:=by
 refine pz (by rw [h.len];have:=h.fits;omega) (by have:=h.le;omega) fun i hi=>?_
 rw [h.get,if_pos (by omega),show t+a+i-t=a+i by omega]
theorem Laid.agree {t r:Nat} {s x y:List UInt8} (h:Laid t r s x y):Agree t x y:=⟨h.len.symm,fun i hi=>by rw [h.get,if_neg (by omega)]⟩
theorem sV (x:UInt8):255 &&& x=x:=by
 apply UInt8.toNat_inj.1
 rw [UInt8.toNat_and]
 have:=x.toNat_lt
 show 255 &&& x.toNat=x.toNat
 rw [Nat.and_comm,show (255:Nat)=2^8-1 from rfl,Nat.and_two_pow_sub_one_eq_mod]
 omega
theorem HJ {l:List UInt8} (h:l.all (·==255)=true) (i:Nat) (hi:i<l.length):l.getD i 0=255:=by
 rw [List.all_eq_true] at h
 have:=h l[i] (List.getElem_mem hi)
 simpa [List.getD_eq_getElem?_getD,hi] using this
theorem mN {l:List UInt8} (h:∀i,i<l.length→l.getD i 0=255):l.all (·==255)=true:=by
 rw [List.all_eq_true]
 intro x hx
 obtain⟨i,hi,rfl⟩:=List.mem_iff_getElem.1 hx
 have:=h i hi
 simpa [List.getD_eq_getElem?_getD,hi] using this
theorem jC (l:List UInt8) (t i:Nat):(l.drop t).getD i 0=l.getD (t+i) 0:=by
 simp [List.getD_eq_getElem?_getD]
theorem iM {page:List UInt8} {g:UInt64} {a:Nat} (h:∀i,a≤i→i<page.length→page.getD i 0=255):bG page g a=[]:=by
 unfold bG
 split
 ·rfl
 ·have h1:=h a (Nat.le_refl _) (by omega)
  have h2:=h (a+1) (by omega) (by omega)
  have:aq page a=65535:=by unfold aq;rw [h1,h2];rfl
  rw [if_pos (by omega)]
theorem pA (g:UInt64) (b:List UInt8):(aY g b).getD 0 0=UInt8.ofNat (b.length/256):=rfl
theorem pB (g:UInt64) (b:List UInt8):(aY g b).getD 1 0=UInt8.ofNat b.length:=rfl
theorem sW (g:UInt64) (b:List UInt8):((aY g b).drop 2).take b.length=b:=by simp [aY]
theorem yi (g:UInt64) (b:List UInt8):((aY g b).drop (2+b.length)).take 8=mZ g b:=by
 have e:(aY g b).drop (2+b.length)=mZ g b:=by
  rw [← List.drop_drop];simp [aY]
 rw [e,List.take_of_length_le (by rw [jI];decide)]
theorem mO (n:Nat) (h:n≤256):(UInt8.ofNat (n/256)).toNat*256+(UInt8.ofNat n).toNat=n:=by
 rw [UInt8.toNat_ofNat',UInt8.toNat_ofNat'];omega
theorem Laid.pay {t r:Nat} {g:UInt64} {b x y:List UInt8} (h:Laid t r (aY g b) x y) (hr:r=b.length+10) (h1:1≤b.length) (h2:b.length≤256):bG y g t=b:=by
 have hf:=h.fits
 have hl:=h.len
 have hn:aq y t=b.length:=by
  unfold aq
  rw [h.get t,if_pos (by omega),h.get (t+1),if_pos (by omega),Nat.sub_self,show t+1-t=1 by omega,pA,pB]
  exact mO _ h2
 have e1:(y.drop (t+2)).take b.length=b:=by rw [h.cut (by omega),sW]
 rw [tE hn (by omega) h1 h2 (by rw [e1,show t+2+b.length=t+(2+b.length) by omega,h.cut (by omega),yi]),e1]
theorem zN {t:Nat} {g:UInt64} {b x y:List UInt8} (h:Laid t (b.length+10) (aY g b) x y) (h1:1≤b.length) (h2:b.length≤256) (ht:(scanA x g 16).2=t) (he:∀i,t≤i→i<x.length→x.getD i 0=255) (h16:16≤x.length) :
 scanA y g 16=((scanA x g 16).1++[b],t+10+b.length)∧(y.drop (t+10+b.length)).all (·==255)=true:=by
 have hl:=h.len
 have hf:=h.fits
 have hrest:∀i,t+10+b.length≤i→i<y.length→y.getD i 0=255:=fun i hi hi'=>by
  rw [h.get,if_neg (by omega)];exact he i (by omega) (by omega)
 have ha:=ld (x:=x) (y:=y) (g:=g) x.length 16 (by omega) (by rw [ht];exact h.agree)
 have hp:=h.pay rfl h1 h2
 have hne:bG y g t≠[]:=by rw [hp];intro e;rw [e] at h1;simp at h1
 have hn:=fg y g t hne
 rw [hp] at hn
 rw [c7 y g _ (iM hrest)] at hn
 rw [ht,hn] at ha
 refine⟨ha,mN fun i hi=>?_⟩
 rw [jC]
 simp at hi
 exact hrest _ (by omega) (by omega)
theorem pC {f:Fl} {p k q t m:Nat} {budget:Int} {ch:Nat→UInt8→UInt8} (hp:f.ps=p) (hn:f.bs.length=p*k) (hq:q<k) (ht:t+m≤p) (q':Nat) (hq':q'<k) (i:Nat) :
 (pgM (ao f (q*p+t) m budget ch).f q').getD i 0=if q'=q∧t≤i∧i<t+be m budget then ch (i-t) ((pgM f q').getD i 0) else (pgM f q').getD i 0:=by
 have hr:=io m budget
 have hle:=dX (p:=p) hq
 have hle':=dX (p:=p) hq'
 rw [yh (f:=(ao f (q*p+t) m budget ch).f) (p:=p) hp,yh hp]
 by_cases hi:i<p
 ·rw [if_pos hi,if_pos hi]
  simp only [ao]
  rw [uW _ _ _ _ _ (by omega)]
  by_cases he:q'=q
  ·subst he
   by_cases h1:t≤i∧i<t+be m budget
   ·rw [if_pos (by omega),if_pos (by omega),show q'*p+i-(q'*p+t)=i-t by omega]
   ·rw [if_neg (by omega),if_neg (by omega)]
  ·have hne:q'*p+p≤q*p∨q*p+p≤q'*p:=by
    rcases Nat.lt_or_ge q' q with h|h
    ·left;have:=Nat.mul_le_mul_right p (show q'+1≤q by omega);rw [Nat.add_mul] at this;omega
    ·right;have:=Nat.mul_le_mul_right p (show q+1≤q' by omega);rw [Nat.add_mul] at this;omega
   rw [if_neg (by omega),if_neg (fun h=>he h.1)]
 ·rw [if_neg hi,if_neg hi,if_neg (by omega)]
theorem zO {f:Fl} {p k q a m:Nat} {budget:Int} {ch:Nat→UInt8→UInt8} (hp:f.ps=p) (hn:f.bs.length=p*k) (hq:q<k):(pgM (ao f a m budget ch).f q).length=p :=
 dY (k:=k) hp (by simp [ao,eq,hn]) hq
theorem lN {f:Fl} {p k q:Nat} (hp:f.ps=p) (hp1:512≤p) (hp2:p≤8192) (hn:f.bs.length=p*k) (hk1:2≤k) (hk2:k≤8) (hq:q<2) (h1:1≤aN (pgM f q)) (h2:aN (pgM f (1-q))≤aN (pgM f q)) (h3:q=1→aN (pgM f 0)<aN (pgM f 1)) :
 mountM f=⟨bZ f q (aN (pgM f q)),0⟩:=by
 have hx:cB f=0:=by
  unfold cB
  rw [hp,hn,lI p k hp1 hp2 (by omega) hk2,if_neg (by decide),if_neg]
  have:p*2≤p*k:=Nat.mul_le_mul_left p hk1
  omega
 unfold mountM
 rw [hx,if_neg (by decide)]
 have:q=0∨q=1:=by omega
 rcases this with rfl|rfl
 ·rw [if_neg (by simp at h2;omega),if_neg (by omega)]
 ·rw [if_pos (h3 rfl)]
theorem fO (f:Fl) (budget:Int) (o:JOp) (r:List JOp) (G:FR) (h:cM f budget o=G):bC f budget (o::r) =
 if G.err=16 then ⟨⟨G.f.ps,G.f.bs,0,0,0,false⟩,0,16⟩ else if G.err≠0 then ⟨jn0,0,G.err⟩ else bC G.f G.left r:=by
 rw [← h];rfl
theorem dQ (f:Fl) (budget:Int) (M:MR) (h:mountM f=M):bC f budget []=if M.err≠0 then ⟨jn0,0,M.err⟩ else ⟨M.j,budget,0⟩:=by
 rw [← h];rfl
theorem kV {j:Jn} (h:mountM (flOf j)=⟨j,0⟩):aE j=true:=by
 unfold aE;rw [h];simp
structure JAt (j:Jn) (p k q t:Nat) (g:UInt64):Prop where
 gen:aE j=true
 ps:(flOf j).ps=p
 p1:512≤p
 p2:p≤8192
 len:(flOf j).bs.length=p*k
 k1:2≤k
 k2:k≤8
 q2:q<2
 page:j.page=q
 tail:j.tail=t
 t16:16≤t
 tp:t≤p
 g1:1≤j.gen
 g2:j.gen≤1099511627776
 gg:UInt64.ofNat j.gen.toNat=g
 geq:j.gen=aN (pgM (flOf j) q)
 oth:aN (pgM (flOf j) (1-q))≤j.gen
 one:q=1→aN (pgM (flOf j) 0)<j.gen
 scan:(scanA (pgM (flOf j) q) g 16).2=t
 recs:aK j=(scanA (pgM (flOf j) q) g 16).1
 torn:j.torn = !((pgM (flOf j) q).drop t).all (·==255)
 mnt:mountM (flOf j)=⟨j,0⟩
theorem JAt.of {j:Jn} (hg:aE j=true):∃p k q t g,JAt j p k q t g:=by
 obtain⟨p,k,q,e1,e2,e3,e4,e5,e6,e7,e8,e9,e10,e11,e12,e13,e14,e15⟩:=bF hg
 have ht:=ea hg
 obtain⟨t,htt⟩:=Int.eq_ofNat_of_zero_le (show 0≤j.tail by omega)
 have hlo:(pgM (flOf j) q).length=p:=dY (k:=k) e1 e4 (by omega)
 have hA:=ke (pgM (flOf j) q) (UInt64.ofNat j.gen.toNat) (by omega)
 have htail:(scanA (pgM (flOf j) q) (UInt64.ofNat j.gen.toNat) 16).2=t:=by
  rw [← hA]
  have:j.tail=((ci (pgM (flOf j) q) (UInt64.ofNat j.gen.toNat)).2:Int):=by rw [e14];rfl
  rw [htt] at this
  exact_mod_cast this.symm
 refine⟨p,k,q,t,UInt64.ofNat j.gen.toNat,hg,e1,e2,e3,e4,e5,e6,e7,e10,htt,by omega,by omega,e8,e9,rfl,e11,e12,e13,htail,?_,?_,e15⟩
 ·unfold aK
  rw [if_pos hg,e10,Int.toNat_natCast,hA]
 ·have:j.torn = !((pgM (flOf j) q).drop (ci (pgM (flOf j) q) (UInt64.ofNat j.gen.toNat)).2).all (·==255):=by
   conv=>lhs;rw [e14]
   rfl
  rw [hA,htail] at this
  exact this
theorem JAt.pg {j:Jn} {p k q t:Nat} {g:UInt64} (h:JAt j p k q t g) {q':Nat} (hq:q'<k):(pgM (flOf j) q').length=p:=dY h.ps h.len hq
theorem JAt.prog {j:Jn} {p k q t:Nat} {g:UInt64} (h:JAt j p k q t g) {s:List UInt8} (hs:t+s.length≤p) (budget:Int):cy (flOf j) j.page j.tail s budget=ao (flOf j) (q*p+t) s.length budget (aC s):=by
 have hq:=h.q2
 have hk:=h.k1
 have ha:eo (flOf j) j.page j.tail (s.length:Nat)=0:=by
  have hf:flOf j=⟨p,(flOf j).bs⟩:=by rw [← h.ps]
  rw [hf]
  refine js (k:=k) h.p1 h.p2 (by omega) h.k2 h.len ?_
  rw [h.page,h.tail]
  exact⟨by omega,by omega,by omega,by omega⟩
 rw [lJ rfl ha,h.ps,h.page,h.tail]
 have:((q:Int)*(p:Int)+(t:Int)).toNat=q*p+t:=by (have e:(q:Int)*(p:Int)=((q*p:Nat):Int):=by simp);rw [e];omega
 rw [this]
theorem JAt.erasedTail {j:Jn} {p k q t:Nat} {g:UInt64} (h:JAt j p k q t g) (htn:j.torn=false):∀i,t≤i→i<(pgM (flOf j) q).length→(pgM (flOf j) q).getD i 0=255:=by
 have ht:=h.torn
 rw [htn] at ht
 have htorn:((pgM (flOf j) q).drop t).all (·==255)=true:=by simpa using ht
 intro i h1 h2
 have:=HJ htorn (i-t) (by simp;omega)
 rw [jC,show t+(i-t)=i by omega] at this
 exact this
theorem JAt.laid {j:Jn} {p k q t:Nat} {g:UInt64} (h:JAt j p k q t g) (htn:j.torn=false) {s:List UInt8} (hs:t+s.length≤p) (budget:Int) :
 Laid t (be s.length budget) s (pgM (flOf j) q) (pgM (ao (flOf j) (q*p+t) s.length budget (aC s)).f q) ∧
 (∀q',q'<k→q'≠q→∀i,(pgM (ao (flOf j) (q*p+t) s.length budget (aC s)).f q').getD i 0=(pgM (flOf j) q').getD i 0) ∧
 (∀q',q'<k→(pgM (ao (flOf j) (q*p+t) s.length budget (aC s)).f q').length=p):=by
 have hr:=io s.length budget
 have hq:=h.q2
 have hk:=h.k1
 have hpg:=pC (budget:=budget) (ch:=aC s) h.ps h.len (show q<k by omega) hs
 have hlen:∀q',q'<k→(pgM (ao (flOf j) (q*p+t) s.length budget (aC s)).f q').length=p:=fun q' hq=>zO h.ps h.len hq
 have he:=h.erasedTail htn
 refine⟨⟨by rw [hlen q (by omega),h.pg (by omega)],by rw [h.pg (by omega)];omega,hr,fun i=>?_⟩,fun q' hq hne i=>by rw [hpg q' hq,if_neg (fun e=>hne e.1)],hlen⟩
 rw [hpg q (by omega)]
 by_cases hi:t≤i∧i<t+be s.length budget
 ·rw [if_pos ⟨rfl,hi⟩,if_pos hi,he i hi.1 (by rw [h.pg (by omega)];omega)]
  exact sV _
 ·rw [if_neg (fun e=>hi e.2),if_neg hi]
theorem JAt.gens {j:Jn} {p k q t:Nat} {g:UInt64} (h:JAt j p k q t g) {f':Fl} (hl:∀q',q'<k→(pgM f' q').length=p) (ho:∀q',q'<k→q'≠q→∀i,(pgM f' q').getD i 0=(pgM (flOf j) q').getD i 0) (ha:∀i,i<16→(pgM f' q).getD i 0=(pgM (flOf j) q).getD i 0) :
 ∀q',q'<k→aN (pgM f' q')=aN (pgM (flOf j) q'):=fun q' hq'=>by
 have hp1:=h.p1
 refine Ax ?_
 have:=pz (x:=pgM f' q') (y:=pgM (flOf j) q') (a:=0) (b:=0) (m:=16) (by rw [hl q' hq'];omega) (by rw [h.pg hq'];omega) (fun i hi=>by
  by_cases e:q'=q
  ·subst e;rw [Nat.zero_add];exact ha i hi
  ·exact ho q' hq' e _)
 simpa using this
theorem JAt.mount {j:Jn} {p k q t:Nat} {g:UInt64} (h:JAt j p k q t g) {f':Fl} (hps:f'.ps=p) (hbs:f'.bs.length=p*k) (hgen:∀q',q'<k→aN (pgM f' q')=aN (pgM (flOf j) q')):mountM f'=⟨bZ f' q j.gen,0⟩:=by
 have hq:=h.q2
 have hk:=h.k1
 have e11:=h.geq
 have e8:=h.g1
 have e12:=h.oth
 have hm:=lN (q:=q) hps h.p1 h.p2 hbs h.k1 h.k2 h.q2 (by rw [hgen q (by omega)];omega) (by rw [hgen q (by omega),hgen (1-q) (by omega)];omega) (fun e=>by subst e;rw [hgen 0 (by omega),hgen 1 (by omega)];have:=h.one rfl;omega)
 rw [hgen q (by omega),←e11] at hm
 exact hm
theorem nv {j:Jn} {p k q t:Nat} {g:UInt64} (h:JAt j p k q t g) (htn:j.torn=false) {b:List UInt8} (h1:1≤b.length) (h2:b.length≤256) (hfit:t+(b.length+10)≤p) {budget:Int} (hpw:be (aY g b).length budget=b.length+10)
 {G:FR} (hG:ao (flOf j) (q*p+t) (aY g b).length budget (aC (aY g b))=G) :
 mountM G.f=⟨⟨G.f.ps,G.f.bs,j.page,j.gen,j.tail+10+b.length,j.torn⟩,0⟩∧aK ⟨G.f.ps,G.f.bs,j.page,j.gen,j.tail+10+b.length,j.torn⟩=aK j++[b]:=by
 have hq:=h.q2
 have hk:=h.k1
 have hp1:=h.p1
 obtain⟨hla,hoth,hlen⟩:=h.laid htn (s:=aY g b) (by rw [bp];exact hfit) budget
 rw [hpw] at hla
 have hps':G.f.ps=p:=by rw [← hG];exact h.ps
 have hbs':G.f.bs.length=p*k:=by rw [← hG];simp [ao,eq,h.len]
 rw [hG] at hla hoth hlen
 obtain⟨hs1,hs2⟩:=zN hla h1 h2 h.scan (h.erasedTail htn) (by rw [h.pg (by omega)];omega)
 have hgen:=h.gens hlen hoth (fun i hi=>by rw [hla.get,if_neg (by have:=h.t16;omega)])
 have hm:=h.mount hps' hbs' hgen
 have hat:bZ G.f q j.gen=⟨G.f.ps,G.f.bs,j.page,j.gen,j.tail+10+b.length,j.torn⟩:=by
  unfold bZ
  rw [h.gg,ke _ _ (by rw [hlen q (by omega)];omega),hs1,hs2,←h.page,h.tail,htn]
  simp
 rw [hat] at hm
 refine⟨hm,?_⟩
 have hgn:aE ⟨G.f.ps,G.f.bs,j.page,j.gen,j.tail+10+b.length,j.torn⟩=true:=kV hm
 unfold aK
 rw [if_pos hgn]
 have:=h.recs
 unfold aK at this
 rw [this]
 show (ci (pgM G.f j.page.toNat) (UInt64.ofNat j.gen.toNat)).1=_
 rw [h.page,Int.toNat_natCast,h.gg,ke _ _ (by rw [hlen q (by omega)];omega),hs1]
theorem kW (j:Jn) (b:List UInt8) (budget:Int):bh j b budget=cU j b budget:=by
 unfold bh cU
 split
 ·rfl
 ·rename_i hg
  have hg:aE j=true:=by simpa using hg
  split
  ·rfl
  ·rename_i hs
   split
   ·rfl
   ·rename_i htn
    split
    ·rfl
    ·rename_i hr
     obtain⟨p,k,q,t,g,h⟩:=JAt.of hg
     have e1:j.ps=p:=h.ps
     have htt:=h.tail
     have hx:=h.t16
     have hy:=h.tp
     unfold ia at hr
     rw [if_neg htn] at hr
     have hfit:t+(b.length+10)≤p:=by
      split at hr
      ·omega
      ·split at hr<;>omega
     have htn:j.torn=false:=by simpa using htn
     rw [h.gg]
     have hG:=h.prog (s:=aY g b) (by rw [bp];exact hfit) budget
     rw [fO _ _ _ _ _ (show cM (flOf j) budget (.wr j.page j.tail (aY g b))=_ from hG),hG]
     have hful:=fun (hpw:be (aY g b).length budget=b.length+10)=>nv h htn (b:=b) (by omega) (by omega) hfit hpw rfl
     have herr:(ao (flOf j) (q*p+t) (aY g b).length budget (aC (aY g b))).err=cR (aY g b).length budget:=rfl
     generalize ao (flOf j) (q*p+t) (aY g b).length budget (aC (aY g b))=G at *
     rw [bp] at herr hful
     by_cases hpw:0≤budget∧budget<((b.length+10:Nat):Int)
     ·have hp16:cR (b.length+10) budget=16:=by unfold cR;rw [if_pos hpw]
      rw [herr,hp16,if_pos rfl,if_pos (by decide)]
      unfold bq
      rw [if_pos rfl]
     ·have hp0:cR (b.length+10) budget=0:=by unfold cR;rw [if_neg hpw]
      have hre:be (b.length+10) budget=b.length+10:=by unfold be;rw [if_neg hpw]
      rw [herr,hp0,if_neg (by decide),if_neg (by decide)]
      obtain⟨hm,-⟩:=hful hre
      rw [dQ _ _ _ hm,if_neg (fun e=>e rfl)]
      rfl
end Go.Proofs.YtebndjnkmcahaaaGreatDoor

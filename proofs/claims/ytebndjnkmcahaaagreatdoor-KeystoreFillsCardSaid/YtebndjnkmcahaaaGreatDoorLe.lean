/- Plain laws of Rewrite, and of power losses: what is mounted behind operations that were cut off. Own work; no statement of the seat is proved here. -/
import Derived.Test.YtebndjnkmcahaaaGreatDoorLd
namespace Go.Proofs.YtebndjnkmcahaaaGreatDoor
set_option linter.unusedSimpArgs false
set_option linter.unusedVariables false
open Go Go.Abs Go.RowKit
theorem B9 {t r:Nat} {g:UInt64} {b x y:List UInt8} (h:Laid t r (aY g b) x y) (h2:b.length≤256) (he:∀i,t≤i→i<x.length→x.getD i 0=255):bG y g t=[]∨bG y g t=b:=by
 by_cases hp:bG y g t=[]
 ·exact .inl hp
 ·right
  obtain⟨e1,e2,e3,e4,e5,e6⟩:=rF hp
  have hl:=h.len
  have hf:=h.fits
  have hle:=h.le
  rw [bp] at hle
  have hc:=zP g ((y.drop (t+2)).take (aq y t))
  rw [JC e6 0 (by decide),jC,Nat.add_zero] at hc
  have hlt:2+aq y t<r:=by
   rcases Nat.lt_or_ge (2+aq y t) r with h'|h'
   ·exact h'
   ·rw [h.get,if_neg (by omega),he _ (by omega) (by omega)] at hc
    exact absurd hc (by decide)
  have hn:aq y t=b.length:=by
   unfold aq
   rw [h.get t,if_pos (by omega),h.get (t+1),if_pos (by omega),Nat.sub_self,show t+1-t=1 by omega,pA,pB]
   exact mO _ h2
  rw [e1,hn,h.cut (by omega),sW]
theorem zQ {t r:Nat} {g:UInt64} {b x y:List UInt8} (h:Laid t r (aY g b) x y) (h2:b.length≤256) (ht:(scanA x g 16).2=t) (he:∀i,t≤i→i<x.length→x.getD i 0=255) (h16:16≤x.length) :
 (scanA y g 16).1=(scanA x g 16).1∨(scanA y g 16).1=(scanA x g 16).1++[b]:=by
 have hl:=h.len
 have hle:=h.le
 rw [bp] at hle
 have ha:=ld (x:=x) (y:=y) (g:=g) x.length 16 (by omega) (by rw [ht];exact h.agree)
 rw [ha,ht]
 rcases B9 h h2 he with hp|hp
 ·left;rw [c7 y g t hp];simp
 ·by_cases hb:b=[]
  ·left;rw [c7 y g t (by rw [hp,hb])];simp
  ·right
   have hrest:∀i,t+10+b.length≤i→i<y.length→y.getD i 0=255:=fun i hi hi'=>by
    rw [h.get,if_neg (by omega)];exact he i (by omega) (by omega)
   have hn:=fg y g t (by rw [hp];exact hb)
   rw [hp,c7 y g _ (iM hrest)] at hn
   rw [hn]
theorem sZ {f:Fl} {p k q:Nat} {G:Int} (hv:VFl f p k) (hq:q<k) (hm:mountM f=⟨bZ f q G,0⟩):aK (mountM f).j=(scanA (pgM f q) (UInt64.ofNat G.toNat) 16).1:=by
 have he:(mountM f).err=0:=by rw [hm]
 have hg:=(MtOk.of he).gen
 have hp1:=hv.p1
 unfold aK
 rw [if_pos hg,hm]
 show (ci (pgM (flOf (bZ f q G)) ((q:Int)).toNat) (UInt64.ofNat G.toNat)).1=_
 rw [Int.toNat_natCast,←ke _ _ (by rw [hv.pg hq];omega)]
 rfl
theorem VFl.ofJ {j:Jn} {p k q t:Nat} {g:UInt64} (h:JAt j p k q t g):VFl (flOf j) p k:=⟨h.ps,h.p1,h.p2,h.len,h.k1,h.k2⟩
theorem Ca {f f':Fl} {p k q:Nat} (hv:VFl f p k) (hv':VFl f' p k) (hq:q<k) (h:∀i,i<p→(pgM f' q).getD i 0=(pgM f q).getD i 0):pgM f' q=pgM f q :=
 EL (by rw [hv.pg hq,hv'.pg hq]) fun i hi=>h i (by rw [hv'.pg hq] at hi;exact hi)
theorem u4 {j:Jn} {p k q t:Nat} {g:UInt64} (h:JAt j p k q t g) (htn:j.torn=false) {b:List UInt8} (h2:b.length≤256) (hfit:t+(b.length+10)≤p) {budget:Int}
 {G:FR} (hG:ao (flOf j) (q*p+t) (aY g b).length budget (aC (aY g b))=G) :
 (mountM G.f).err=0∧(aK (mountM G.f).j=aK j∨aK (mountM G.f).j=aK j++[b])∧(mountM G.f).j.gen=j.gen:=by
 have hq:=h.q2
 have hk:=h.k1
 have hp1:=h.p1
 obtain⟨hla,hoth,hlen⟩:=h.laid htn (s:=aY g b) (by rw [bp];exact hfit) budget
 have hv:VFl G.f p k:=by rw [← hG];exact (VFl.ofJ h).alter _ _ _ _
 rw [hG] at hla hoth hlen
 have hs:=zQ hla h2 h.scan (h.erasedTail htn) (by rw [h.pg (by omega)];omega)
 have hgen:=h.gens hlen hoth (fun i hi=>by rw [hla.get,if_neg (by have:=h.t16;omega)])
 have hm:=h.mount hv.ps hv.len hgen
 refine⟨by rw [hm],?_,by rw [hm];rfl⟩
 rw [sZ hv (by omega) hm,h.gg,h.recs]
 exact hs
theorem mP {j:Jn} {p k q t:Nat} {g:UInt64} (h:JAt j p k q t g) {f':Fl} (hv:VFl f' p k) (hs:∀i,i<p→(pgM f' q).getD i 0=(pgM (flOf j) q).getD i 0) (h0:aN (pgM f' (1-q))=0) :
 (mountM f').err=0∧aK (mountM f').j=aK j∧(mountM f').j.gen=j.gen:=by
 have hq:=h.q2
 have hk:=h.k1
 have hg1:=h.g1
 have hp:pgM f' q=pgM (flOf j) q:=Ca (VFl.ofJ h) hv (by omega) hs
 have hgq:aN (pgM f' q)=j.gen:=by rw [hp,←h.geq]
 have hm:=lN (q:=q) hv.ps hv.p1 hv.p2 hv.len hv.k1 hv.k2 hq (by omega) (by omega) (fun e=>by subst e;have h0:aN (pgM f' 0)=0:=h0;omega)
 rw [hgq] at hm
 refine⟨by rw [hm],?_,by rw [hm];rfl⟩
 rw [sZ hv (by omega) hm,hp,h.gg,h.recs]
theorem zR {j:Jn} {p k q t:Nat} {g0 g:UInt64} (h:JAt j p k q t g0) {l:List (List UInt8)} (hs:cO l=true) (hl:16+aR l≤p) (hg:UInt64.ofNat (j.gen+1).toNat=g) (hj:j.gen<1099511627776) {f':Fl} (hv:VFl f' p k)
 (hq:∀i,i<p→(pgM f' q).getD i 0=(pgM (flOf j) q).getD i 0) (h0:(pgM f' (1-q)).take 16=headM g) (h1:Put (pgM f' (1-q)) 16 (rsM g l)) (h2:∀i,16+aR l≤i→i<p→(pgM f' (1-q)).getD i 0=255) :
 mountM f'=⟨⟨f'.ps,f'.bs,1-j.page,j.gen+1,((16+aR l:Nat):Int),false⟩,0⟩∧aK (mountM f').j=l:=by
 have hq2:=h.q2
 have hk:=h.k1
 have hg1:=h.g1
 have hp1:=h.p1
 have hpg:pgM f' q=pgM (flOf j) q:=Ca (VFl.ofJ h) hv (by omega) hq
 have hgq:aN (pgM f' q)=j.gen:=by rw [hpg,←h.geq]
 have hgn:(g.toNat:Int)=j.gen+1:=by
  rw [← hg,UInt64.toNat_ofNat',Nat.mod_eq_of_lt (by omega)];omega
 have hgo:aN (pgM f' (1-q))=j.gen+1:=by rw [yO h0 (by omega) (by omega)];exact hgn
 have hm:=lN (q:=1-q) hv.ps hv.p1 hv.p2 hv.len hv.k1 hv.k2 (by omega) (by omega) (by rw [show 1-(1-q)=q by omega];omega) (fun e=>by
  obtain rfl:q=0:=by omega
  have hgo:aN (pgM f' 1)=j.gen+1:=hgo
  omega)
 rw [hgo] at hm
 have hlen:=hv.pg (q:=1-q) (by omega)
 have hsc:=u3 l 16 h1 hs (fun i hi hi'=>h2 i hi (by rw [hlen] at hi';exact hi'))
 have hat:bZ f' (1-q) (j.gen+1)=⟨f'.ps,f'.bs,1-j.page,j.gen+1,((16+aR l:Nat):Int),false⟩:=by
  have hall:((pgM f' (1-q)).drop (16+aR l)).all (·==255)=true:=mN fun i hi=>by
   rw [jC];simp at hi;exact h2 _ (by omega) (by omega)
  unfold bZ
  rw [hg,ke _ _ (by rw [hlen];omega),hsc,h.page]
  simp only [hall,Bool.not_true]
  congr 1
  omega
 have hr:=sZ hv (by omega) hm
 rw [hg,hsc] at hr
 rw [hat] at hm
 exact⟨hm,hr⟩
theorem Cb {r:Nat} {g:UInt64} {page:List UInt8} (hl:16≤page.length) (h:∀i,i<16→page.getD i 0=if i<r then (headM g).getD i 0 else 255):aN page=0∨page.take 16=headM g:=by
 by_cases h0:aN page=0
 ·exact .inl h0
 ·right
  unfold aN at h0
  split at h0
  ·exact absurd rfl h0
  ·rename_i hc
   have ht:page.take 16=headM (av page 8):=Classical.byContradiction fun e=>hc (.inr (.inr e))
   have h8:=HK (av page 8)
   rw [JC ht 8 (by decide)] at h8
   have hr:8<r:=by
    rcases Nat.lt_or_ge 8 r with h'|h'
    ·exact h'
    ·rw [h 8 (by decide),if_neg (by omega)] at h8
     exact absurd h8 (by decide)
   have hw:av page 8=g:=by
    have:=qa g []
    rw [← this]
    refine gR 8 fun i hi=>?_
    rw [h i (by omega),if_pos (by omega),List.append_nil]
   rw [ht,hw]
theorem nY {m:Nat} {B:Int} (h:0≤B):0≤cx m B:=by
 unfold cx;split
 ·exact Int.le_refl _
 ·(try rw [if_pos h]);omega
theorem lP {m:Nat} {B:Int} (h:0≤cx m B):0≤B:=by
 unfold cx at h;split at h
 ·omega
 ·split at h<;>omega
theorem mQ {m:Nat} {B:Int} (h:cR m B=16):0≤B:=by
 unfold cR at h;split at h
 ·omega
 ·cases h
theorem u5 {j:Jn} {p k q t:Nat} {g0 g:UInt64} (h:JAt j p k q t g0) {l:List (List UInt8)} (hs:cO l=true) (hl:16+aR l≤p) (hg:UInt64.ofNat (j.gen+1).toNat=g) (hj:j.gen<1099511627776) (B:Int) {X:FR}
 (hX:cv (flOf j) B [.er (1-j.page),.wr (1-j.page) 16 (rsM g l),.wr (1-j.page) 0 (headM g)]=X) :
 VFl X.f p k∧((X.err=0∧mountM X.f=⟨⟨X.f.ps,X.f.bs,1-j.page,j.gen+1,((16+aR l:Nat):Int),false⟩,0⟩∧aK (mountM X.f).j=l∧(0≤B→0≤X.left)) ∨
  (X.err=16∧(mountM X.f).err=0∧(aK (mountM X.f).j=aK j∨aK (mountM X.f).j=l)∧(mountM X.f).j.gen≤j.gen+1∧0≤B)):=by
 have hq2:=h.q2
 have hk:=h.k1
 have hp1:=h.p1
 have hv:=VFl.ofJ h
 have hpg:1-j.page=((1-q:Nat):Int):=by rw [h.page];omega
 have hX:=hX
 rw [hpg] at hX
 have hrl:=ob g l
 have hhl:=bT g
 have r1:cM (flOf j) B (.er ((1-q:Nat):Int))=_:=hv.erase (q:=1-q) (by omega) B
 rw [bu _ _ _ _ _ r1] at hX
 have hv1:=hv.alter ((1-q)*p+0) p B (fun _ _=>255)
 have hg1:∀q',q'<k→∀i,_:=fun q' h i=>hv.page (q:=1-q) (t:=0) (m:=p) (by omega) (by omega) B (fun _ _=>255) (q':=q') h i
 have hpw1:(ao (flOf j) ((1-q)*p+0) p B (fun _ _=>255)).err=cR p B:=rfl
 have hb1:(ao (flOf j) ((1-q)*p+0) p B (fun _ _=>255)).f.bs=cL (fun _ _=>255) j.bs ((1-q)*p+0) (be p B):=rfl
 have hps1:(ao (flOf j) ((1-q)*p+0) p B (fun _ _=>255)).f.ps=j.ps:=rfl
 have hl1:(ao (flOf j) ((1-q)*p+0) p B (fun _ _=>255)).left=cx p B:=rfl
 generalize ao (flOf j) ((1-q)*p+0) p B (fun _ _=>255)=G1 at *
 rcases sX p B with hz1|hz1
 ·rw [hpw1,hz1,if_neg (by decide)] at hX
  rw [nw hz1] at hg1
  have r2:cM G1.f G1.left (.wr ((1-q:Nat):Int) 16 (rsM g l))=_:=hv1.prog (q:=1-q) (t:=16) (s:=rsM g l) (by omega) (by omega) G1.left
  rw [bu _ _ _ _ _ r2] at hX
  have hv2:=hv1.alter ((1-q)*p+16) (rsM g l).length G1.left (aC (rsM g l))
  have hg2:∀q',q'<k→∀i,_:=fun q' h i=>hv1.page (q:=1-q) (t:=16) (m:=(rsM g l).length) (by omega) (by omega) G1.left (aC (rsM g l)) (q':=q') h i
  have hpw2:(ao G1.f ((1-q)*p+16) (rsM g l).length G1.left (aC (rsM g l))).err=cR (rsM g l).length G1.left:=rfl
  have hl2:(ao G1.f ((1-q)*p+16) (rsM g l).length G1.left (aC (rsM g l))).left=cx (rsM g l).length G1.left:=rfl
  generalize ao G1.f ((1-q)*p+16) (rsM g l).length G1.left (aC (rsM g l))=G2 at *
  have hr2:=io (rsM g l).length G1.left
  have o2:∀i,i<p→(pgM G2.f q).getD i 0=(pgM (flOf j) q).getD i 0:=fun i hi=>by
   rw [hg2 q (by omega),if_neg (by omega),hg1 q (by omega),if_neg (by omega)]
  rcases sX (rsM g l).length G1.left with hz2|hz2
  ·rw [hpw2,hz2,if_neg (by decide)] at hX
   rw [nw hz2] at hg2
   have r3:cM G2.f G2.left (.wr ((1-q:Nat):Int) 0 (headM g))=_:=hv2.prog (q:=1-q) (t:=0) (s:=headM g) (by omega) (by omega) G2.left
   rw [bu _ _ _ _ _ r3] at hX
   have hv3:=hv2.alter ((1-q)*p+0) (headM g).length G2.left (aC (headM g))
   have hg3:∀q',q'<k→∀i,_:=fun q' h i=>hv2.page (q:=1-q) (t:=0) (m:=(headM g).length) (by omega) (by omega) G2.left (aC (headM g)) (q':=q') h i
   have hpw3:(ao G2.f ((1-q)*p+0) (headM g).length G2.left (aC (headM g))).err=cR (headM g).length G2.left:=rfl
   have hl3:(ao G2.f ((1-q)*p+0) (headM g).length G2.left (aC (headM g))).left=cx (headM g).length G2.left:=rfl
   generalize ao G2.f ((1-q)*p+0) (headM g).length G2.left (aC (headM g))=G3 at *
   have hr3:=io (headM g).length G2.left
   have o3:∀i,i<p→(pgM G3.f q).getD i 0=(pgM (flOf j) q).getD i 0:=fun i hi=>by
    rw [hg3 q (by omega),if_neg (by omega),o2 i hi]
   have e16:∀i,16≤i→i<p→(pgM G3.f (1-q)).getD i 0=if i<16+aR l then (rsM g l).getD (i-16) 0 else 255:=fun i hi hi'=>by
    rw [hg3 (1-q) (by omega),if_neg (by omega),hg2 (1-q) (by omega),hg1 (1-q) (by omega),if_pos (show (1-q=1-q)∧0≤i∧i<0+p by omega)]
    by_cases hc:i<16+aR l
    ·rw [if_pos (by omega),if_pos hc];exact sV _
    ·rw [if_neg (by omega),if_neg hc]
   have ehd:∀i,i<16→(pgM G3.f (1-q)).getD i 0=if i<be (headM g).length G2.left then (headM g).getD i 0 else 255:=fun i hi=>by
    rw [hg3 (1-q) (by omega),hg2 (1-q) (by omega),if_neg (show ¬((1-q=1-q)∧16≤i∧i<16+(rsM g l).length) by omega),hg1 (1-q) (by omega),if_pos (show (1-q=1-q)∧0≤i∧i<0+p by omega)]
    by_cases hc:i<be (headM g).length G2.left
    ·rw [if_pos (by omega),if_pos hc,Nat.sub_zero];exact sV _
    ·rw [if_neg (by omega),if_neg hc]
   have hlen:=hv3.pg (q:=1-q) (by omega)
   have new:=zR h hs hl hg hj hv3 o3 (h1:=⟨by rw [hlen];omega,fun i hi=>by rw [e16 _ (by omega) (by omega),if_pos (by omega),Nat.add_sub_cancel_left]⟩) (h2:=fun i hi hi'=>by rw [e16 i (by omega) hi',if_neg (by omega)])
   rcases sX (headM g).length G2.left with hz3|hz3
   ·rw [hpw3,hz3,if_neg (by decide)] at hX
    simp only [cv] at hX
    subst hX
    refine⟨hv3,.inl ?_⟩
    rw [nw hz3,hhl] at ehd
    obtain⟨n1,n2⟩:=new (by
     have:=pz (x:=pgM G3.f (1-q)) (y:=headM g) (a:=0) (b:=0) (m:=16) (by rw [hlen];omega) (by omega) (fun i hi=>by
      rw [Nat.zero_add,ehd i hi,if_pos hi])
     simpa [List.take_of_length_le (Nat.le_of_eq hhl)] using this)
    exact⟨rfl,n1,n2,fun hB=>by show 0≤G3.left;rw [hl3];apply nY;rw [hl2];apply nY;rw [hl1];exact nY hB⟩
   ·rw [hpw3,hz3,if_pos (by decide)] at hX
    subst hX
    refine⟨hv3,.inr ⟨by rw [hpw3,hz3],?_⟩⟩
    rcases Cb (by rw [hlen];omega) ehd with h0|h0
    ·obtain⟨m1,m2,m3⟩:=mP h hv3 o3 h0
     exact⟨m1,.inl m2,by omega,by have:=mQ hz3;rw [hl2] at this;have:=lP this;rw [hl1] at this;exact lP this⟩
    ·obtain⟨n1,n2⟩:=new h0
     exact⟨by rw [n1],.inr n2,by rw [n1];exact Int.le_refl _,by have:=mQ hz3;rw [hl2] at this;have:=lP this;rw [hl1] at this;exact lP this⟩
  ·rw [hpw2,hz2,if_pos (by decide)] at hX
   subst hX
   refine⟨hv2,.inr ⟨by rw [hpw2,hz2],?_⟩⟩
   obtain⟨m1,m2,m3⟩:=mP h hv2 o2 (iN (by
    rw [hg2 (1-q) (by omega),if_neg (by omega),hg1 (1-q) (by omega),if_pos (by omega)]))
   exact⟨m1,.inl m2,by omega,by have:=mQ hz2;rw [hl1] at this;exact lP this⟩
 ·rw [hpw1,hz1,if_pos (by decide)] at hX
  subst hX
  refine⟨hv1,.inr ⟨by rw [hpw1,hz1],?_⟩⟩
  by_cases hr:be p B=0
  ·rw [hr] at hb1
   have:G1.f=flOf j:=by
    cases hf:G1.f with|mk a b=>rw [hf] at hb1 hps1;simp only [cL] at hb1 hps1;rw [hb1,hps1];rfl
   rw [this,h.mnt]
   exact⟨rfl,.inl rfl,by show j.gen≤j.gen+1;omega,mQ hz1⟩
  ·obtain⟨m1,m2,m3⟩:=mP h hv1 (fun i hi=>by rw [hg1 q (by omega),if_neg (by omega)]) (iN (by
    rw [hg1 (1-q) (by omega),if_pos (by omega)]))
   exact⟨m1,.inl m2,by omega,mQ hz1⟩
theorem EO {j:Jn} {p k q t:Nat} {g0 g:UInt64} (h:JAt j p k q t g0) {l:List (List UInt8)} (hs:cO l=true) (hl:16+aR l≤p) (hg:UInt64.ofNat (j.gen+1).toNat=g) (hj:j.gen<1099511627776) (B:Int) {X:FR}
 (hX:cv (flOf j) B [.er (1-j.page),.wr (1-j.page) 16 (rsM g l),.wr (1-j.page) 0 (headM g)]=X) :
 VFl X.f p k∧((X.err=0∧mountM X.f=⟨⟨X.f.ps,X.f.bs,1-j.page,j.gen+1,((16+aR l:Nat):Int),false⟩,0⟩∧aK (mountM X.f).j=l∧(0≤B→0≤X.left)) ∨
  (X.err=16∧(mountM X.f).err=0∧(aK (mountM X.f).j=aK j∨aK (mountM X.f).j=l))):=by
 obtain⟨h1,h2⟩:=u5 h hs hl hg hj B hX
 refine⟨h1,h2.imp (fun h=>h) (fun h=>⟨h.1,h.2.1,h.2.2.1⟩)⟩
theorem cC (j:Jn) (l:List (List UInt8)) (budget:Int):aw j l budget=aL j l budget:=by
 unfold aw aL
 split
 ·rfl
 split
 ·rfl
 split
 ·rfl
 split
 ·rfl
 rename_i h1 h2 h3 h4
 obtain⟨p,k,q,t,g0,h⟩:=JAt.of (show aE j=true by simpa using h1)
 have hs:cO l=true:=by simpa using h2
 have hps:j.ps=p:=h.ps
 have hq:=h.q2
 have hk:=h.k1
 generalize hg:UInt64.ofNat (j.gen+1).toNat=g
 have hv:=VFl.ofJ h
 have hpg:1-j.page=((1-q:Nat):Int):=by rw [h.page];omega
 have hseq:cv (flOf j) budget (fw j l)=cv (flOf j) budget [.er (1-j.page),.wr (1-j.page) 16 (rsM g l),.wr (1-j.page) 0 (headM g)]:=by
  unfold fw
  rw [hg,hpg]
  have r1:cM (flOf j) budget (.er ((1-q:Nat):Int))=_:=hv.erase (q:=1-q) (by omega) budget
  rw [bu _ _ _ _ _ r1,bu _ _ _ _ _ r1]
  have:=yj (p:=p) (k:=k) (q:=1-q) (by omega) g [.wr ((1-q:Nat):Int) 0 (headM g)] l 16 (ao (flOf j) ((1-q)*p+0) p budget (fun _ _=>255)).f (ao (flOf j) ((1-q)*p+0) p budget (fun _ _=>255)).left (hv.alter _ _ _ _) (by omega)
  rw [this]
  rfl
 obtain⟨X,hX⟩:∃X,cv (flOf j) budget [.er (1-j.page),.wr (1-j.page) 16 (rsM g l),.wr (1-j.page) 0 (headM g)]=X:=⟨_,rfl⟩
 obtain⟨hvX,hc⟩:=EO h hs (by omega) hg (by omega) budget hX
 rw [gN,hseq,hX]
 unfold iV
 rcases hc with ⟨e,m,-⟩|⟨e,-⟩
 ·rw [if_neg (fun c=>c e),if_neg (fun c=>c e),dQ _ _ _ m,if_neg (fun c=>c rfl)]
 ·rw [if_pos (by rw [e];decide),if_pos (by rw [e];decide)]
theorem kx {j:Jn} (hm:MtOk j) (l:List (List UInt8)) (B:Int) :
 ((aw j l B).err=0∧mountM (flOf (aw j l B).j)=⟨(aw j l B).j,0⟩∧(aw j l B).j.torn=false∧aK (aw j l B).j=l∧(0≤B→0≤(aw j l B).left)∧(aw j l B).j.gen=j.gen+1∧(aw j l B).j.ps=j.ps) ∨
 ((aw j l B).err=16∧(aw j l B).left=0∧(mountM (flOf (aw j l B).j)).err=0∧(aK (mountM (flOf (aw j l B).j)).j=aK j∨aK (mountM (flOf (aw j l B).j)).j=l)∧(mountM (flOf (aw j l B).j)).j.gen≤j.gen+1∧(aw j l B).j.ps=j.ps∧0≤B) ∨
 ((aw j l B).err≠0∧(aw j l B).err≠16∧(aw j l B).err=(aw j l (-1)).err∧(cO l=false∨j.ps<16+(aR l:Int)∨1099511627776≤j.gen)):=by
 have hg:=hm.gen
 rw [cC,cC]
 obtain⟨p,k,q,t,g0,h⟩:=JAt.of hg
 have hps:j.ps=p:=h.ps
 by_cases h2:cO l=false
 ·right;right;unfold aL;rw [if_neg (by rw [hg];decide),if_pos h2,if_neg (by rw [hg];decide),if_pos h2];simp [h2]
 by_cases h3:j.ps<16+(aR l:Int)
 ·right;right;unfold aL;rw [if_neg (by rw [hg];decide),if_neg h2,if_pos h3,if_neg (by rw [hg];decide),if_neg h2,if_pos h3];simp [h3]
 by_cases h4:1099511627776≤j.gen
 ·right;right;unfold aL;rw [if_neg (by rw [hg];decide),if_neg h2,if_neg h3,if_pos h4,if_neg (by rw [hg];decide),if_neg h2,if_neg h3,if_pos h4];simp [h4]
 rw [← cC]
 have e:aw j l B=bC (flOf j) B [.er (1-j.page),.wr (1-j.page) 16 (rsM (UInt64.ofNat (j.gen+1).toNat) l),.wr (1-j.page) 0 (headM (UInt64.ofNat (j.gen+1).toNat))]:=by
  unfold aw;rw [if_neg (by rw [hg];decide),if_neg h2,if_neg h3,if_neg h4]
 obtain⟨X,hX⟩:∃X,cv (flOf j) B [.er (1-j.page),.wr (1-j.page) 16 (rsM (UInt64.ofNat (j.gen+1).toNat) l),.wr (1-j.page) 0 (headM (UInt64.ofNat (j.gen+1).toNat))]=X:=⟨_,rfl⟩
 obtain⟨hvX,hc⟩:=u5 h (by simpa using h2) (by omega) rfl (by omega) B hX
 rw [e,gN,hX]
 have hpsX:X.f.ps=j.ps:=by rw [hvX.ps,hps]
 rcases hc with ⟨e,m,r,lf⟩|⟨e,m,r,gn,bn⟩
 ·left
  rw [if_neg (fun c=>c e),dQ _ _ _ m,if_neg (fun c=>c rfl)]
  rw [m] at r
  exact⟨rfl,m,rfl,r,lf,rfl,hpsX⟩
 ·right;left
  rw [if_pos (by rw [e];decide),e]
  exact⟨rfl,rfl,m,r,gn,hpsX,bn⟩
theorem ta {j:Jn} (hm:MtOk j) (l:List (List UInt8)) (B:Int) :
 ((aw j l B).err=0∧mountM (flOf (aw j l B).j)=⟨(aw j l B).j,0⟩∧(aw j l B).j.torn=false∧aK (aw j l B).j=l∧(0≤B→0≤(aw j l B).left)) ∨
 ((aw j l B).err=16∧(aw j l B).left=0∧(mountM (flOf (aw j l B).j)).err=0∧(aK (mountM (flOf (aw j l B).j)).j=aK j∨aK (mountM (flOf (aw j l B).j)).j=l)) ∨
 ((aw j l B).err≠0∧(aw j l B).err≠16∧(aw j l B).err=(aw j l (-1)).err):=by
 rcases kx hm l B with ⟨a,b,c,d,e,_⟩|⟨a,b,c,d,_⟩|⟨a,b,c,_⟩
 ·exact .inl ⟨a,b,c,d,e⟩
 ·exact .inr (.inl ⟨a,b,c,d⟩)
 ·exact .inr (.inr ⟨a,b,c⟩)
theorem tb {j:Jn} (hm:MtOk j) (b:List UInt8) (B:Int) :
 ((bh j b B).err=0∧mountM (flOf (bh j b B).j)=⟨(bh j b B).j,0⟩∧aK (bh j b B).j=aK j++[b]∧(0≤B→0≤(bh j b B).left)∧(bh j b B).j.gen=j.gen∧(bh j b B).j.ps=j.ps) ∨
 ((bh j b B).err=16∧(bh j b B).left=0∧(mountM (flOf (bh j b B).j)).err=0∧(aK (mountM (flOf (bh j b B).j)).j=aK j∨aK (mountM (flOf (bh j b B).j)).j=aK j++[b])∧(mountM (flOf (bh j b B).j)).j.gen=j.gen∧(bh j b B).j.ps=j.ps∧0≤B) ∨
 ((bh j b B).err≠0∧(bh j b B).err≠16∧(bh j b B).err=(bh j b (-1)).err∧(¬(1≤b.length∧b.length≤256)∨j.torn=true∨(b.length:Int)>ia j.ps j.tail j.torn)):=by
 have hg:=hm.gen
 obtain⟨p,k,q,t,g,h⟩:=JAt.of hg
 have hps:j.ps=p:=h.ps
 have htl:=h.tail
 by_cases h2:¬(1≤b.length∧b.length≤256)
 ·right;right;unfold bh;rw [if_neg (by rw [hg];decide),if_pos h2,if_neg (by rw [hg];decide),if_pos h2];exact⟨by decide,by decide,rfl,.inl h2⟩
 by_cases h3:j.torn=true
 ·right;right;unfold bh;rw [if_neg (by rw [hg];decide),if_neg h2,if_pos h3,if_neg (by rw [hg];decide),if_neg h2,if_pos h3];exact⟨by decide,by decide,rfl,.inr (.inl h3)⟩
 by_cases h4:(b.length:Int)>ia j.ps j.tail j.torn
 ·right;right;unfold bh;rw [if_neg (by rw [hg];decide),if_neg h2,if_neg h3,if_pos h4,if_neg (by rw [hg];decide),if_neg h2,if_neg h3,if_pos h4];exact⟨by decide,by decide,rfl,.inr (.inr h4)⟩
 have htn:j.torn=false:=by simpa using h3
 have hfit:t+(b.length+10)≤p:=by
  unfold ia at h4
  rw [htn] at h4
  simp only [Bool.false_eq_true,if_false] at h4
  split at h4
  ·omega
  ·split at h4<;>omega
 have e:bh j b B=bC (flOf j) B [.wr j.page j.tail (aY g b)]:=by
  unfold bh;rw [if_neg (by rw [hg];decide),if_neg h2,if_neg h3,if_neg h4,h.gg]
 have r1:cM (flOf j) B (.wr j.page j.tail (aY g b))=_:=h.prog (s:=aY g b) (by rw [bp];exact hfit) B
 rw [e,fO _ _ _ _ _ r1]
 obtain⟨G,hG⟩:∃G,ao (flOf j) (q*p+t) (aY g b).length B (aC (aY g b))=G:=⟨_,rfl⟩
 rw [hG]
 have hpw:G.err=cR (aY g b).length B:=by rw [← hG];rfl
 have hpsG:G.f.ps=j.ps:=by rw [← hG];rfl
 have hlf:G.left=cx (aY g b).length B:=by rw [← hG];rfl
 have h2:1≤b.length∧b.length≤256:=by omega
 rcases sX (aY g b).length B with hz|hz
 ·left
  obtain⟨m,r⟩:=nv h htn h2.1 h2.2 hfit (by rw [nw hz,bp]) hG
  rw [hpw,hz,if_neg (by decide),if_neg (by decide),dQ _ _ _ m,if_neg (fun c=>c rfl)]
  exact⟨rfl,m,r,(fun hB=>by show 0≤G.left;rw [hlf];exact nY hB),rfl,hpsG⟩
 ·right;left
  obtain⟨m,r,gn⟩:=u4 h htn h2.2 hfit hG
  rw [hpw,hz,if_pos rfl]
  exact⟨rfl,rfl,m,r,gn,hpsG,mQ hz⟩
theorem fY (f:Fl):(mountM f).j.bs.length≤f.bs.length:=by
 by_cases h:(mountM f).err=0
 ·have:=pD h
  have e:(mountM f).j.bs=f.bs:=congrArg Fl.bs this
  rw [e];exact Nat.le_refl _
 ·have:(mountM f).j=jn0:=by
   unfold mountM at h ⊢
   split
   ·rfl
   ·rename_i h1
    rw [if_neg h1] at h
    split
    ·rename_i h2;rw [if_pos h2] at h;exact absurd rfl h
    ·rename_i h2
     rw [if_neg h2] at h
     split
     ·rfl
     ·rename_i h3;rw [if_neg h3] at h;exact absurd rfl h
  rw [this];simp [jn0]
end Go.Proofs.YtebndjnkmcahaaaGreatDoor

/- Contracts of package journal. Own work; no statement of the seat is proved here. -/
import Derived.Test.YtebndjnkmcahaaaGreatDoorPg
namespace Go.Proofs.YtebndjnkmcahaaaGreatDoor
set_option linter.unusedSimpArgs false
set_option linter.unusedVariables false
open Go Go.Abs Go.RowKit
structure Jn where
 ps:Int
 bs:List UInt8
 page:Int
 gen:Int
 tail:Int
 torn:Bool
structure MR where
 j:Jn
 err:Int
structure JR where
 j:Jn
 left:Int
 err:Int
def Hw (j:Jn):AV := .agg [.i j.ps,.p (.data 1 j.bs.length (j.bs.map bt)),.i j.page,.i j.gen,.i j.tail,.b j.torn]
def Es (r:MR):AV := .tup [Hw r.j,.i r.err]
def sJ (r:JR):AV := .tup [Hw r.j,.i r.left,.i r.err]
attribute [go_sem] Hw Es sJ Value.bool.injEq
def jn0:Jn:=⟨0,[],0,0,0,false⟩
def cB (f:Fl):Int:=if bw f.ps f.bs.length≠0 then bw f.ps f.bs.length else if (f.bs.length:Int)<2*f.ps then 4 else 0
def pgM (f:Fl) (q:Nat):List UInt8:=(f.bs.drop (q*f.ps.toNat)).take f.ps.toNat
def bZ (f:Fl) (q:Nat) (g:Int):Jn :=
 ⟨f.ps,f.bs,q,g,(ci (pgM f q) (UInt64.ofNat g.toNat)).2,!((pgM f q).drop (ci (pgM f q) (UInt64.ofNat g.toNat)).2).all (·==255)⟩
def mountM (f:Fl):MR :=
 if cB f≠0 then ⟨jn0,cB f⟩ else
 if aN (pgM f 1)>aN (pgM f 0) then ⟨bZ f 1 (aN (pgM f 1)),0⟩ else
 if aN (pgM f 0)=0 then ⟨jn0,11⟩ else ⟨bZ f 0 (aN (pgM f 0)),0⟩
theorem ez (page:List UInt8):0≤aN page∧aN page≤1099511627776:=by
 unfold aN;split<;>omega
theorem pc {f:Fl} (h:cB f=0):∃p k:Nat,f.ps=p∧512≤p∧p≤8192∧f.bs.length=p*k∧2≤k∧k≤8:=by
 unfold cB at h
 by_cases hv:bw f.ps f.bs.length=0
 ·obtain⟨p,k,h1,h2,h3,h4,h5,h6⟩:=ep hv
  refine⟨p,k,h1,h2,h3,h4,?_,h6⟩
  rw [hv,if_neg (by decide)] at h
  split at h
  ·cases h
  ·rename_i hh
   rw [h1,h4] at hh
   rcases Nat.lt_or_ge k 2 with h7|h7
   ·obtain rfl:k=1:=by omega
    omega
   ·exact h7
 ·rw [if_pos hv] at h;exact absurd h hv
theorem rc (ps:Int) (bs:List UInt8) (n:Nat) (hn:bs.length=n) (hb:n<1000000000):FPure Tryz.prog 148 [.agg [.i ps,.p (.data 1 n (bs.map bt))]] (.i (cB ⟨ps,bs⟩)):=by
 refine en Tryz.func148 Tryz.ntmps148 Tryz.results148 [0,1,2,3,7,15] ?_;intro c hP h0 hE kK
 simp only [go_sem,hP]
 refine aa kK (by exact kS ps n _ hb) ?_
 simp only [go_sem,hP]
 obtain⟨R,hR⟩:∃R,cB ⟨ps,bs⟩=R:=⟨_,rfl⟩;rw [hR] at hE kK;(try rw [hR])
 unfold cB at hR
 simp only [hn] at hR
 split
 ·rw [if_pos ‹_›] at hR;exact hR
 ·rename_i h
  rw [if_neg (by omega)] at hR
  obtain⟨p,k,rfl,hp1,hp2,-⟩:=ep (show bw ps n=0 by omega)
  (try go_unwrap)
  split
  ·rw [if_pos ‹_›] at hR;exact hR
  ·rw [if_neg ‹_›] at hR;exact hR
theorem pd (page:List UInt8) (g:UInt64):∀f a,a≤page.length→(cg page g f a).2≤page.length∧a≤(cg page g f a).2
 | 0,a,h=>⟨h,Nat.le_refl _⟩
 | f+1,a,h=>by
  simp only [cg]
  split
  ·exact⟨h,Nat.le_refl _⟩
  ·rename_i hp
   have:=iS page g a hp
   have:=pd page g f (a+10+(bG page g a).length) this.1
   exact⟨this.1,by omega⟩
theorem fz (page:List UInt8) (g:UInt64) (h:16≤page.length):(ci page g).2≤page.length∧16≤(ci page g).2:=pd page g _ _ h
theorem dY {f:Fl} {p k q:Nat} (h1:f.ps=p) (h2:f.bs.length=p*k) (hq:q<k):(pgM f q).length=p:=by
 have:=dX (p:=p) hq
 unfold pgM
 simp only [h1,Int.toNat_natCast,List.length_take,List.length_drop]
 omega
theorem dZ (g:Int) (h0:0≤g) (h1:g<9223372036854775808):IntKind.u64.wrap g=((UInt64.ofNat g.toNat).toNat:Int):=by
 rw [ak h0 (by omega),←gT _ (by omega)];omega
theorem ju (ps:Int) (bs:List UInt8) (p k n q:Nat) (qi:Int) (hps:ps=p) (hqi:qi=q) (hl:bs.length=n) (hn:n=p*k) (hq:q<k) (hk:k≤8) (hp:p≤8192) :
 FPure Tryz.prog 198 [.agg [.i ps,.p (.data 1 n (bs.map bt))],.i qi] (.p (.data 1 p ((pgM ⟨ps,bs⟩ q).map bt))):=by
 subst hps hqi
 have hb:p*k≤8192*8:=Nat.mul_le_mul hp hk
 have:=C7 p k q n bs hn (by omega) hq hk (by omega)
 simpa only [pgM,Int.toNat_natCast] using this
set_option maxHeartbeats 2000000 in
theorem sK (ps:Int) (bs:List UInt8) (n:Nat) (hn:bs.length=n) (hb:n<1000000000):FPure Tryz.prog 147 [.agg [.i ps,.p (.data 1 n (bs.map bt))]] (Es (mountM ⟨ps,bs⟩)):=by
 refine en Tryz.func147 Tryz.ntmps147 Tryz.results147 [0,1,2,3,4,5,6,7,11,25,31] ?_;intro c hP h0 hE kK
 simp only [go_sem,hP]
 refine aa kK (by exact rc ps bs n hn hb) ?_
 simp only [go_sem,hP]
 split
 ·rename_i h
  simp only [mountM,if_pos h,jn0,List.length_nil,List.map_nil,and_self]
 ·rename_i h
  have h:cB ⟨ps,bs⟩=0:=by omega
  obtain⟨p,k,hp,hp1,hp2,hnk,hk1,hk2⟩:=pc h
  simp only at hp hnk
  refine aa kK (by exact ju ps bs p k n 0 0 hp rfl hn (by omega) (by omega) hk2 hp2) ?_
  simp only [go_sem,hP]
  refine aa kK (by exact jK (pgM ⟨ps,bs⟩ 0) p (dY hp hnk (by omega)) (by omega) (by omega)) ?_
  simp only [go_sem,hP]
  refine⟨by kernel_rfl,?_⟩
  refine aa kK (by exact ju ps bs p k n 1 1 hp rfl hn (by omega) (by omega) hk2 hp2) ?_
  simp only [go_sem,hP]
  refine aa kK (by exact jK (pgM ⟨ps,bs⟩ 1) p (dY hp hnk (by omega)) (by omega) (by omega)) ?_
  simp only [go_sem,hP]
  have r0:=ez (pgM ⟨ps,bs⟩ 0)
  have r1:=ez (pgM ⟨ps,bs⟩ 1)
  have ex:∀R,mountM ⟨ps,bs⟩=R→R=if aN (pgM ⟨ps,bs⟩ 1)>aN (pgM ⟨ps,bs⟩ 0) then ⟨bZ ⟨ps,bs⟩ 1 (aN (pgM ⟨ps,bs⟩ 1)),0⟩ else if aN (pgM ⟨ps,bs⟩ 0)=0 then ⟨jn0,11⟩ else ⟨bZ ⟨ps,bs⟩ 0 (aN (pgM ⟨ps,bs⟩ 0)),0⟩:=by
   intro R hR
   rw [← hR,mountM,if_neg (by omega)]
  obtain⟨R,hR⟩:∃R,mountM ⟨ps,bs⟩=R:=⟨_,rfl⟩
  have ex:=ex R hR
  rw [hR] at hE kK ⊢
  have w8:∀q,q<k→(pgM ⟨ps,bs⟩ q).length=p:=fun q hq=>dY hp hnk hq
  split
  ·rw [if_pos ‹_›] at ex
   rw [if_neg (by omega)]
   refine aa kK (by exact ju ps bs p k n 1 1 hp rfl hn (by omega) (by omega) hk2 hp2) ?_
   simp only [go_sem,hP]
   first|refine o4 hE (ks:=[0,1,2,3,4,5,6,7,11,25,31]) (n:=2000) 1 (by rw [hP];exact gr (pgM ⟨ps,bs⟩ 1) p (w8 1 (by omega)) (by omega) (by omega) (UInt64.ofNat (aN (pgM ⟨ps,bs⟩ 1)).toNat) _ (dZ _ (by omega) (by omega))) rfl rfl (by simp [ax,an,keys]) (by simp only [bS,an,a8,cc,cz,and_self]) ?_|refine o5 hE (ks:=[0,1,2,3,4,5,6,7,11,25,31]) (n:=2000) 1 (by rw [hP];exact gr (pgM ⟨ps,bs⟩ 1) p (w8 1 (by omega)) (by omega) (by omega) (UInt64.ofNat (aN (pgM ⟨ps,bs⟩ 1)).toNat) _ (dZ _ (by omega) (by omega))) rfl rfl (by simp [ax,an,keys]) (by simp only [bS,an,a8,cc,cz,and_self]) ?_
   simp only [go_sem,hP]
   have hs:=fz (pgM ⟨ps,bs⟩ 1) (UInt64.ofNat (aN (pgM ⟨ps,bs⟩ 1)).toNat) (by rw [w8 1 (by omega)];omega)
   rw [w8 1 (by omega)] at hs
   have hw:=w8 1 (by omega)
   refine⟨by omega,?_⟩
   rw [List.take_of_length_le (by simp only [List.length_drop];omega)]
   refine aa kK (by exact vE _ _ (by simp only [List.length_drop];omega) (by omega)) ?_
   simp only [go_sem,hP]
   subst ex
   simp only [bZ,hn,and_self]
   exact⟨⟨trivial,trivial,rfl,trivial⟩,trivial⟩
  ·rw [if_neg ‹_›] at ex
   split
   ·rw [if_pos ‹_›] at ex
    subst ex
    simp only [jn0,List.length_nil,List.map_nil,and_self]
   ·rw [if_neg ‹_›] at ex
    refine aa kK (by exact ju ps bs p k n 0 0 hp rfl hn (by omega) (by omega) hk2 hp2) ?_
    simp only [go_sem,hP]
    first|refine o4 hE (ks:=[0,1,2,3,4,5,6,7,11,25,31]) (n:=2000) 1 (by rw [hP];exact gr (pgM ⟨ps,bs⟩ 0) p (w8 0 (by omega)) (by omega) (by omega) (UInt64.ofNat (aN (pgM ⟨ps,bs⟩ 0)).toNat) _ (dZ _ (by omega) (by omega))) rfl rfl (by simp [ax,an,keys]) (by simp only [bS,an,a8,cc,cz,and_self]) ?_|refine o5 hE (ks:=[0,1,2,3,4,5,6,7,11,25,31]) (n:=2000) 1 (by rw [hP];exact gr (pgM ⟨ps,bs⟩ 0) p (w8 0 (by omega)) (by omega) (by omega) (UInt64.ofNat (aN (pgM ⟨ps,bs⟩ 0)).toNat) _ (dZ _ (by omega) (by omega))) rfl rfl (by simp [ax,an,keys]) (by simp only [bS,an,a8,cc,cz,and_self]) ?_
    simp only [go_sem,hP]
    have hs:=fz (pgM ⟨ps,bs⟩ 0) (UInt64.ofNat (aN (pgM ⟨ps,bs⟩ 0)).toNat) (by rw [w8 0 (by omega)];omega)
    rw [w8 0 (by omega)] at hs
    have hw:=w8 0 (by omega)
    refine⟨by omega,?_⟩
    rw [List.take_of_length_le (by simp only [List.length_drop];omega)]
    refine aa kK (by exact vE _ _ (by simp only [List.length_drop];omega) (by omega)) ?_
    simp only [go_sem,hP]
    subst ex
    simp only [bZ,hn,and_self]
    exact⟨⟨trivial,trivial,rfl,trivial⟩,trivial⟩
def flOf (j:Jn):Fl:=⟨j.ps,j.bs⟩
def aE (j:Jn):Bool :=
 (mountM (flOf j)).err==0&&(mountM (flOf j)).j.page==j.page&&(mountM (flOf j)).j.gen==j.gen&&(mountM (flOf j)).j.tail==j.tail&&(mountM (flOf j)).j.torn==j.torn
theorem j1 (j:Jn) (n:Nat) (hn:j.bs.length=n) (hb:n<1000000000):FPure Tryz.prog 151 [.agg [.i j.ps,.p (.data 1 n (j.bs.map bt)),.i j.page,.i j.gen,.i j.tail,.b j.torn]] (.b (aE j)):=by
 refine en Tryz.func151 Tryz.ntmps151 Tryz.results151 [0,1,2,3,4] ?_;intro c hP h0 hE kK
 simp only [go_sem,hP]
 refine aa kK (by exact sK j.ps j.bs n hn hb) ?_
 obtain⟨R,hR⟩:∃R,aE j=R:=⟨_,rfl⟩;rw [hR] at hE kK;(try rw [hR])
 unfold aE flOf at hR
 generalize mountM ⟨j.ps,j.bs⟩=M at *
 simp only [go_sem,hP]
 rw [← hR]
 by_cases h1:M.err=0<;>by_cases h2:M.j.page=j.page<;>by_cases h3:M.j.gen=j.gen<;>by_cases h4:M.j.tail=j.tail<;>simp [h1,h2,h3,h4]
theorem uI (n:Nat) (cs:List PV):FPure Tryz.prog 152 [.p (.data 1 n cs)] (.b (decide (1≤n∧n≤256))):=by
 refine en Tryz.func152 Tryz.ntmps152 Tryz.results152 [0,2] ?_;intro c hP h0 hE kK
 simp only [go_sem,hP]
 have e:((n:Int)≤256)↔n≤256:=by omega
 split
 ·simp only [e,show 1≤n by omega,true_and]
 ·simp only [show ¬ 1≤n by omega,false_and,decide_false]
def ia (ps tail:Int) (torn:Bool):Int:=if torn then 0 else if ps-tail-10<0 then 0 else if 256<ps-tail-10 then 256 else ps-tail-10
theorem BK (ps:Int) (n:Nat) (cs:List PV) (page gen tail:Int) (torn:Bool) (h1:0≤ps∧ps≤8192) (h2:0≤tail∧tail≤8192) :
 FPure Tryz.prog 161 [.agg [.i ps,.p (.data 1 n cs),.i page,.i gen,.i tail,.b torn]] (.i (ia ps tail torn)):=by
 refine en Tryz.func161 Tryz.ntmps161 Tryz.results161 [0,1,2,4] ?_;intro c hP h0 hE kK
 have e1:IntKind.i64.wrap (ps-tail)=ps-tail:=ab (by omega) (by omega)
 have e2:IntKind.i64.wrap (ps-tail-10)=ps-tail-10:=ab (by omega) (by omega)
 simp only [go_sem,hP,e1,e2]
 obtain⟨R,hR⟩:∃R,ia ps tail torn=R:=⟨_,rfl⟩;rw [hR] at hE kK;(try rw [hR])
 unfold ia at hR
 split
 ·rw [if_pos ‹_›] at hR;exact hR
 ·rw [if_neg ‹_›] at hR
  rw [← hR]
  split<;>split<;>(try split)<;>omega
theorem sL (cs:List PV) (n:Nat) (hn:cs.length=n) (h1:n≠0) (hb:n<1000000000):FPure Tryz.prog 24 [.p (.data 1 n cs)] (.p (.data 1 n cs)):=by
 refine en Tryz.func24 Tryz.ntmps24 Tryz.results24 [0,2,4] ?_;intro c hP h0 hE kK
 simp only [go_sem,hP]
 rw [List.take_of_length_le (by simp;omega)]
 exact⟨h1,⟨by omega,by omega⟩,⟨by omega,bI _⟩,bY _⟩
theorem wK {f:Fl} (h:(mountM f).err≠0):(mountM f).j=jn0:=by
 unfold mountM at h ⊢
 split
 ·rfl
 ·rename_i h1
  rw [if_neg h1] at h
  split
  ·rename_i h2;rw [if_pos h2] at h;exact absurd rfl h
  ·rename_i h2
   rw [if_neg h2] at h
   split
   ·rfl
   ·rename_i h3;rw [if_neg h3] at h;exact absurd rfl h
theorem ib {f:Fl} (h:(mountM f).err=0):∃p k q:Nat,f.ps=p∧512≤p∧p≤8192∧f.bs.length=p*k∧2≤k∧k≤8∧q<2∧1≤aN (pgM f q)∧aN (pgM f (1-q))≤aN (pgM f q)∧(q=1→aN (pgM f 0)<aN (pgM f 1))∧mountM f=⟨bZ f q (aN (pgM f q)),0⟩:=by
 unfold mountM at h
 split at h
 ·rename_i h1;simp only at h;exact absurd h h1
 ·rename_i h1
  obtain⟨p,k,e1,e2,e3,e4,e5,e6⟩:=pc (show cB f=0 by omega)
  have r0:=ez (pgM f 0)
  have r1:=ez (pgM f 1)
  split at h
  ·rename_i h2
   exact⟨p,k,1,e1,e2,e3,e4,e5,e6,by decide,by omega,by show aN (pgM f 0)≤_;omega,fun _=>by omega,by unfold mountM;rw [if_neg h1,if_pos h2]⟩
  ·rename_i h2
   split at h
   ·cases h
   ·rename_i h3
    exact⟨p,k,0,e1,e2,e3,e4,e5,e6,by decide,by omega,by show aN (pgM f 1)≤_;omega,fun e=>by omega,by unfold mountM;rw [if_neg h1,if_neg h2,if_neg h3]⟩
theorem uJ (ps:Int) (bs:List UInt8) (n:Nat) (hn:bs.length=n) (hb:n<1000000000):FPure Tryz.prog 91 [.agg [.i ps,.p (.data 1 n (bs.map bt))]] (Es (mountM ⟨ps,bs⟩)):=by
 refine en Tryz.func91 Tryz.ntmps91 Tryz.results91 [0,1,2,3,4,5,12] ?_;intro c hP h0 hE kK
 simp only [go_sem,hP]
 refine aa kK (by exact sK ps bs n hn hb) ?_
 simp only [go_sem,hP]
 split
 ·rename_i h
  simp only [wK h,jn0,List.length_nil,List.map_nil,and_self]
 ·rename_i h
  obtain⟨p,k,q,e1,e2,e3,e4,e5,e6,e7,-,-,-,e8⟩:=ib (show (mountM ⟨ps,bs⟩).err=0 by omega)
  simp only at e1 e4
  have:1*1≤p*k:=Nat.mul_le_mul (by omega) (by omega)
  refine aa kK (by exact sL (bs.map bt) n (by simpa using hn) (by omega) hb) ?_
  simp only [go_sem,hP]
  simp only [e8,bZ,hn,and_self]
theorem re (page:List UInt8) (g:UInt64):∀f a b,b∈(cg page g f a).1→1≤b.length∧b.length≤256
 | 0,a,b,h=>by simp [cg] at h
 | f+1,a,b,h=>by
  simp only [cg] at h
  split at h
  ·simp at h
  ·rename_i hp
   simp only [List.mem_cons] at h
   rcases h with rfl|h
   ·exact (iS page g a hp).2
   ·exact re page g f _ b h
def aR:List (List UInt8)→Nat
 | []=>0
 | b::l=>10+b.length+aR l
theorem jv:∀l,10*l.length≤aR l
 | []=>by simp [aR]
 | b::l=>by have:=jv l;simp only [aR,List.length_cons];omega
theorem iK (page:List UInt8) (g:UInt64):∀f a,(cg page g f a).2=a+aR (cg page g f a).1
 | 0,a=>by simp [cg,aR]
 | f+1,a=>by
  simp only [cg]
  split
  ·simp [aR]
  ·simp only [aR]
   rw [iK page g f]
   omega
def aK (j:Jn):List (List UInt8):=if aE j then (ci (pgM (flOf j) j.page.toNat) (UInt64.ofNat j.gen.toNat)).1 else []
theorem bF {j:Jn} (h:aE j=true):∃p k q:Nat,j.ps=p∧512≤p∧p≤8192∧j.bs.length=p*k∧2≤k∧k≤8∧q<2∧1≤j.gen∧j.gen≤1099511627776∧j.page=q∧j.gen=aN (pgM (flOf j) q)∧aN (pgM (flOf j) (1-q))≤j.gen∧(q=1→aN (pgM (flOf j) 0)<j.gen) ∧
 j=bZ (flOf j) q j.gen∧mountM (flOf j)=⟨j,0⟩:=by
 unfold aE at h
 simp only [Bool.and_eq_true,beq_iff_eq] at h
 obtain⟨⟨⟨⟨h1,h2⟩,h3⟩,h4⟩,h5⟩:=h
 obtain⟨p,k,q,e1,e2,e3,e4,e5,e6,e7,e8,e9,e10,e11⟩:=ib h1
 have r:=ez (pgM (flOf j) q)
 rw [e11] at h2 h3 h4 h5
 have hp:j.page=q:=h2.symm
 have hg:j.gen=aN (pgM (flOf j) q):=h3.symm
 have hj:j=bZ (flOf j) q j.gen:=by
  rw [hg]
  obtain⟨ps,bs,page,gen,tail,torn⟩:=j
  simp only [bZ,Jn.mk.injEq] at h2 h3 h4 h5 ⊢
  exact⟨rfl,rfl,h2.symm,h3.symm,h4.symm,h5.symm⟩
 refine⟨p,k,q,e1,e2,e3,e4,e5,e6,e7,by omega,by omega,hp,hg,by omega,fun e=>by have:=e10 e;subst e;omega,hj,?_⟩
 rw [e11,←hg,←hj]
theorem wL (j:Jn) (n:Nat) (hn:j.bs.length=n) (hb:n<1000000000):FPure Tryz.prog 154 [.agg [.i j.ps,.p (.data 1 n (j.bs.map bt)),.i j.page,.i j.gen,.i j.tail,.b j.torn]] (.p (.data 1 (aK j).length ((aK j).map byP))):=by
 refine en Tryz.func154 Tryz.ntmps154 Tryz.results154 [0,1,2,3,5,6,9,21,22,23,24] ?_;intro c hP h0 hE kK
 simp only [go_sem,hP]
 refine aa kK (by exact j1 j n hn hb) ?_
 simp only [go_sem,hP]
 obtain⟨R,hR⟩:∃R,aK j=R:=⟨_,rfl⟩;rw [hR] at hE kK;(try rw [hR])
 unfold aK at hR
 split
 ·rename_i h
  rw [h] at hR
  subst hR
  exact⟨rfl,rfl⟩
 ·rename_i h
  have h:aE j=true:=by simpa using h
  rw [if_pos h] at hR
  obtain⟨p,k,q,e1,e2,e3,e4,e5,e6,e7,e8,e9,e10,e11,-,-,-,-⟩:=bF h
  refine aa kK (by exact ju j.ps j.bs p k n q j.page e1 e10 hn (by omega) (by omega) e6 e3) ?_
  simp only [go_sem,hP]
  have hw:(pgM ⟨j.ps,j.bs⟩ q).length=p:=dY e1 e4 (by omega)
  refine o5 hE (ks:=[0,1,2,3,5,6,9,21,22,23,24]) (n:=2000) 1 (by rw [hP];exact gr (pgM ⟨j.ps,j.bs⟩ q) p hw (by omega) (by omega) (UInt64.ofNat j.gen.toNat) _ (dZ _ (by omega) (by omega))) rfl rfl (by simp [ax,an,keys]) (by simp only [bS,an,a8,cc,cz,and_self]) ?_
  rw [e10,Int.toNat_natCast] at hR
  have hR:(ci (pgM ⟨j.ps,j.bs⟩ q) (UInt64.ofNat j.gen.toNat)).1=R:=hR
  rw [hR]
  simp only [go_sem,hP]
  refine⟨by kernel_rfl,?_⟩
  have hmem:∀i,i<R.length→1≤(R.getD i []).length∧(R.getD i []).length≤256:=by
   intro i hi
   have e:R.getD i []=R[i]:=by simp [List.getD_eq_getElem?_getD,hi]
   rw [e]
   refine re _ _ _ _ _ (?_:R[i]∈(ci (pgM ⟨j.ps,j.bs⟩ q) (UInt64.ofNat j.gen.toNat)).1)
   rw [hR];exact List.getElem_mem hi
  have hRl:R.length<1000000:=by
   have h1:=fz (pgM ⟨j.ps,j.bs⟩ q) (UInt64.ofNat j.gen.toNat) (by omega)
   have h2:=iK (pgM ⟨j.ps,j.bs⟩ q) (UInt64.ofNat j.gen.toNat) (pgM ⟨j.ps,j.bs⟩ q).length 16
   have h3:(cg (pgM ⟨j.ps,j.bs⟩ q) (UInt64.ofNat j.gen.toNat) (pgM ⟨j.ps,j.bs⟩ q).length 16).1=R:=hR
   rw [h3] at h2
   have h4:=jv R
   have h5:(cg (pgM ⟨j.ps,j.bs⟩ q) (UInt64.ofNat j.gen.toNat) (pgM ⟨j.ps,j.bs⟩ q).length 16).2=(ci (pgM ⟨j.ps,j.bs⟩ q) (UInt64.ofNat j.gen.toNat)).2:=rfl
   omega
  refine ay hE h0 [0,1,2,3,5,6,9,21,22,23,24] R.length (fun i=>⟨35,[(3,.sl 1 0 R.length 1),(21,.sl 1 0 R.length 1),(22,.i R.length),(23,.i i)],[(1,some ⟨fF,byL R⟩)],2⟩) [] (fun i=>i) ?_ ?_
  ·refine⟨rfl,?_,?_,rfl,rfl,trivial,fun i h=>h⟩
   ·simp only [go_sem]
    trace_state
   ·simp only [go_sem]
    exact fA _ _ _ _
  ·intro i hi
   simp only [go_sem,hP,byP]
   split
   ·refine⟨⟨by omega,by omega⟩,by omega,?_⟩
    refine aa kK (by exact sL ((R.getD i []).map bt) (R.getD i []).length (by simp) (by have:=hmem i (by omega);omega) (by have:=hmem i (by omega);omega)) ?_
    simp only [go_sem,hP,ET]
    have hset:R.set i (R.getD i [])=R:=by
     apply List.ext_getElem (by simp)
     intro m h1 h2
     rw [List.getElem_set]
     split
     ·rename_i e;subst e;simp [List.getD_eq_getElem?_getD,h2]
     ·rfl
    (try go_unwrap)
    refine⟨⟨by omega,by omega⟩,by omega,by omega,dp rfl ?_ ?_ rfl rfl (Nat.le_refl _)⟩
    ·simp only [go_sem]
     omega
    ·simp only [go_sem,hset]
     exact fA _ _ _ _
   ·exact⟨Nat.le_refl _,by rw [List.take_of_length_le (Nat.le_refl _)]⟩
def eN (j:Jn):Int:=if aE j then ia j.ps j.tail j.torn else 0
theorem ea {j:Jn} (h:aE j=true):16≤j.tail∧j.tail≤j.ps:=by
 obtain⟨p,k,q,e1,e2,e3,e4,e5,e6,e7,e8,e9,e10,e11,e12,e13,e14,-⟩:=bF h
 have hw:(pgM (flOf j) q).length=p:=dY e1 e4 (by omega)
 have h1:=fz (pgM (flOf j) q) (UInt64.ofNat j.gen.toNat) (by omega)
 have h2:j.tail=((ci (pgM (flOf j) q) (UInt64.ofNat j.gen.toNat)).2:Int):=by rw [e14];rfl
 omega
theorem Et (j:Jn) (n:Nat) (hn:j.bs.length=n) (hb:n<1000000000):FPure Tryz.prog 102 [.agg [.i j.ps,.p (.data 1 n (j.bs.map bt)),.i j.page,.i j.gen,.i j.tail,.b j.torn]] (.i (eN j)):=by
 refine en Tryz.func102 Tryz.ntmps102 Tryz.results102 [0,1,2,5] ?_;intro c hP h0 hE kK
 simp only [go_sem,hP]
 refine aa kK (by exact j1 j n hn hb) ?_
 simp only [go_sem,hP]
 obtain⟨R,hR⟩:∃R,eN j=R:=⟨_,rfl⟩;rw [hR] at hE kK;(try rw [hR])
 unfold eN at hR
 split
 ·rename_i h
  rw [h] at hR;exact hR
 ·rename_i h
  have h:aE j=true:=by simpa using h
  rw [if_pos h] at hR
  obtain⟨p,k,q,e1,e2,e3,-⟩:=bF h
  have ht:=ea h
  refine aa kK (by exact BK j.ps n _ j.page j.gen j.tail j.torn (by omega) (by omega)) ?_
  simp only [go_sem,hP]
  exact hR
inductive JOp where
 | er (page:Int)
 | wr (page at_:Int) (b:List UInt8)
def opP:JOp→PV
 | .er p => .iface 198 (.agg [.v (.int .i64 p)])
 | .wr p a b => .iface 200 (.agg [.v (.int .i64 p),.v (.int .i64 a),.data 1 b.length (b.map bt)])
def cM (f:Fl) (budget:Int):JOp→FR
 | .er p=>df f p budget
 | .wr p a b=>cy f p a b budget
def qJ:JOp→Prop
 | .er _=>True
 | .wr _ _ b=>b.length<1000000000
def bC (f:Fl) (budget:Int):List JOp→JR
 | []=>if (mountM f).err≠0 then ⟨jn0,0,(mountM f).err⟩ else ⟨(mountM f).j,budget,0⟩
 | o::r=>if (cM f budget o).err=16 then ⟨⟨(cM f budget o).f.ps,(cM f budget o).f.bs,0,0,0,false⟩,0,16⟩
  else if (cM f budget o).err≠0 then ⟨jn0,0,(cM f budget o).err⟩
  else bC (cM f budget o).f (cM f budget o).left r
theorem Eu (ps:Int) (bs:List UInt8) (n:Nat) (page budget:Int) (hn:bs.length=n) (hb:n<1000000000) (hB:i64 budget) :
 FPure Tryz.prog 299 [.agg [.i page],.agg [.i ps,.p (.data 1 n (bs.map bt))],.i budget] (uH (df ⟨ps,bs⟩ page budget)):=by
 refine en Tryz.func299 Tryz.ntmps299 Tryz.results299 [0,1,2,3,4,6,7,8] ?_;intro c hP h0 hE kK
 simp only [go_sem,hP]
 refine aa kK (by exact Er ps bs n page budget hn hb hB) ?_
 simp only [go_sem,hP]
theorem Ev (ps:Int) (bs:List UInt8) (n:Nat) (page at_:Int) (b:List UInt8) (m:Nat) (budget:Int) (hn:bs.length=n) (hb:n<1000000000) (hm:b.length=m) (hmb:m<1000000000) (hB:i64 budget) :
 FPure Tryz.prog 304 [.agg [.i page,.i at_,.p (.data 1 m (b.map bt))],.agg [.i ps,.p (.data 1 n (bs.map bt))],.i budget] (uH (cy ⟨ps,bs⟩ page at_ b budget)):=by
 refine en Tryz.func304 Tryz.ntmps304 Tryz.results304 [0,1,2,3,4,6,7,8] ?_;intro c hP h0 hE kK
 simp only [go_sem,hP]
 refine aa kK (by exact zt ps bs n page at_ b m budget hn hb hm hmb hB) ?_
 simp only [go_sem,hP]
theorem Ew (l:List JOp) (i:Nat) (h:i<l.length) (d:PV):eV d ((l.map opP).drop i)=opP l[i]:=by
 rw [List.drop_eq_getElem_cons (by simpa using h)]
 simp [eV]
theorem rf {m:Nat} {budget:Int} (h:i64 budget) (hm:m<1000000000):i64 (cx m budget):=by
 unfold i64 cx at *
 split
 ·omega
 ·split<;>omega
theorem eO {f:Fl} {budget:Int} (o:JOp) (hB:i64 budget) (hb:f.bs.length<1000000000) (ho:qJ o):i64 (cM f budget o).left∧(cM f budget o).f.bs.length≤f.bs.length:=by
 have h0:∀e,i64 (fy e).left∧(fy e).f.bs.length≤f.bs.length:=fun e=>⟨by simp [fy,i64],by simp [fy]⟩
 cases o with
 | er p =>
  simp only [cM]
  unfold df
  split
  ·exact h0 _
  ·rename_i ha
   have hv:bw f.ps f.bs.length=0:=by
    by_cases hv:bw f.ps f.bs.length=0
    ·exact hv
    ·exact absurd (fW p 0 0 hv) (by omega)
   obtain⟨p,k,e1,e2,e3,-⟩:=ep hv
   exact⟨rf hB (by omega),by simp [ao,eq]⟩
 | wr p a b =>
  simp only [cM]
  unfold cy
  split
  ·exact h0 _
  ·exact⟨rf hB ho,by simp [ao,eq]⟩
set_option maxRecDepth 100000 in
set_option maxHeartbeats 2000000 in
theorem mE (ps:Int) (bs:List UInt8) (n:Nat) (budget:Int) (l:List JOp) (m:Nat) (hm:l.length=m) (hmb:m<1000) (hn:bs.length=n) (hb:n<1000000000) (hB:i64 budget) (hl:∀o,o∈l→qJ o) :
 FPure Tryz.prog 149 [.agg [.i ps,.p (.data 1 n (bs.map bt))],.i budget,.p (.data 1 m (l.map opP))] (sJ (bC ⟨ps,bs⟩ budget l)):=by
 refine en Tryz.func149 Tryz.ntmps149 Tryz.results149 [0,1,2,3,6,7,8,10,11,12,13,14,15,16,17,18,19,31,36,48] ?_;intro c hP h0 hE kK
 simp only [go_sem,hP]
 obtain⟨R,hR⟩:∃R,bC ⟨ps,bs⟩ budget l=R:=⟨_,rfl⟩;rw [hR] at hE kK;(try rw [hR])
 refine bo hE h0 [0,1,2,3,6,7,8,10,11,12,13,14,15,16,17,18,19,31,36,48] (α:={ x:Nat×Fl×Int // x.1≤m∧x.2.1.bs.length<1000000000∧i64 x.2.2∧bC x.2.1 x.2.2 (l.drop x.1)=R })
  (fun x=>⟨53,[(1,.i x.1.2.2),(3,.ptr 0 0),(6,.ptr 1 0),(16,.p (.data 1 m (l.map opP))),(17,.i m),(18,.i x.1.1)],[(0,some ⟨32,[.i x.1.2.1.ps,.p (.data 1 x.1.2.1.bs.length (x.1.2.1.bs.map bt))]⟩),(1,some ⟨34,[.i 0,.p (.v (.slice none 0 0)),.i 0,.i 0,.i 0,.b false]⟩)],2⟩)
  (fun x=>m-x.1.1) ⟨(0,⟨ps,bs⟩,budget),Nat.zero_le _,by show bs.length<_;omega,hB,hR⟩ [] (fun i=>i) ?_ ?_
 ·refine⟨rfl,?_,?_,rfl,rfl,trivial,fun i h=>h⟩
  ·simp only [go_sem]
  ·simp only [go_sem,hn]
 ·rintro⟨⟨i,f,bud⟩,h1,h2,h3,h4⟩
  simp only at h1 h2 h3 h4
  by_cases hlt:i<m
  ·have hlt':i<l.length:=by omega
   simp only [go_sem,hP,Ew l i hlt']
   rw [List.drop_eq_getElem_cons hlt'] at h4
   have hok:=hl l[i] (List.getElem_mem hlt')
   generalize l[i]=o at *
   have hr:=eO o h3 h2 hok
   cases o with
   | er pg =>
    simp only [opP,go_sem]
    rw [if_pos (by omega)]
    refine⟨by omega,by omega,?_⟩
    refine By (f:=299) (by kernel_rfl) ?_
    refine aa kK (by exact Eu f.ps f.bs _ pg bud rfl h2 h3) ?_
    generalize hrr:df ⟨f.ps,f.bs⟩ pg bud=r at *
    have hr2:cM f bud (.er pg)=r:=hrr
    rw [hr2] at hr
    simp only [bC,hr2] at h4
    simp only [go_sem,hP]
    split
    ·rename_i he
     rw [if_pos he] at h4
     subst h4
     simp only [he,and_self]
    ·rename_i he
     rw [if_neg he] at h4
     split
     ·rename_i he2
      rw [if_pos he2] at h4
      subst h4
      simp only [jn0,List.length_nil,List.map_nil,and_self]
     ·rename_i he2
      rw [if_neg (by omega)] at h4
      (try go_unwrap)
      refine⟨⟨(i+1,r.f,r.left),by show i+1≤m;omega,by show r.f.bs.length<_;omega,hr.1,h4⟩,by show m-(i+1)<m-i;omega,aZ [0,1] rfl ?_ ?_ rfl rfl (Nat.le_refl _)⟩
      ·simp only [go_sem]
       omega
      ·simp only [go_sem]
   | wr pg a b =>
    simp only [opP,go_sem]
    rw [if_pos (by omega)]
    refine⟨by omega,by omega,?_⟩
    refine By (f:=304) (by kernel_rfl) ?_
    refine aa kK (by exact Ev f.ps f.bs _ pg a b _ bud rfl h2 rfl hok h3) ?_
    generalize hrr:cy ⟨f.ps,f.bs⟩ pg a b bud=r at *
    have hr2:cM f bud (.wr pg a b)=r:=hrr
    rw [hr2] at hr
    simp only [bC,hr2] at h4
    simp only [go_sem,hP]
    split
    ·rename_i he
     rw [if_pos he] at h4
     subst h4
     simp only [he,and_self]
    ·rename_i he
     rw [if_neg he] at h4
     split
     ·rename_i he2
      rw [if_pos he2] at h4
      subst h4
      simp only [jn0,List.length_nil,List.map_nil,and_self]
     ·rename_i he2
      rw [if_neg (by omega)] at h4
      (try go_unwrap)
      refine⟨⟨(i+1,r.f,r.left),by show i+1≤m;omega,by show r.f.bs.length<_;omega,hr.1,h4⟩,by show m-(i+1)<m-i;omega,aZ [0,1] rfl ?_ ?_ rfl rfl (Nat.le_refl _)⟩
      ·simp only [go_sem]
       omega
      ·simp only [go_sem]
  ·obtain rfl:i=m:=by omega
   rw [List.drop_eq_nil_of_le (by omega)] at h4
   simp only [bC] at h4
   simp only [go_sem,hP]
   rw [if_neg (by omega)]
   refine aa kK (by exact sK f.ps f.bs _ rfl h2) ?_
   simp only [go_sem,hP]
   split
   ·rename_i he
    rw [if_pos he] at h4
    subst h4
    simp only [jn0,List.length_nil,List.map_nil,and_self]
   ·rename_i he
    rw [if_neg he] at h4
    subst h4
    simp only [and_self]
theorem Ex (a b:Int) (p:Int) (at_:Int) (x:List UInt8) (h:x.length<1000000000):∀o,o∈[JOp.er a,.er b,.wr p at_ x]→qJ o:=by
 intro o ho
 simp only [List.mem_cons,List.not_mem_nil,or_false] at ho
 rcases ho with rfl|rfl|rfl
 ·trivial
 ·trivial
 ·exact h
def fu (f:Fl) (budget:Int):JR:=if cB f≠0 then ⟨jn0,0,cB f⟩ else bC f budget [.er 0,.er 1,.wr 0 0 (headM 1)]
theorem zu (ps:Int) (bs:List UInt8) (n:Nat) (budget:Int) (hn:bs.length=n) (hb:n<1000000000) (hB:i64 budget) :
 FPure Tryz.prog 92 [.agg [.i ps,.p (.data 1 n (bs.map bt))],.i budget] (sJ (fu ⟨ps,bs⟩ budget)):=by
 refine en Tryz.func92 Tryz.ntmps92 Tryz.results92 [0,1,2,4,5,6,7,11] ?_;intro c hP h0 hE kK
 simp only [go_sem,hP]
 refine aa kK (by exact rc ps bs n hn hb) ?_
 simp only [go_sem,hP]
 obtain⟨R,hR⟩:∃R,fu ⟨ps,bs⟩ budget=R:=⟨_,rfl⟩;rw [hR] at hE kK;(try rw [hR])
 unfold fu at hR
 split
 ·rename_i h
  rw [if_pos h] at hR
  subst hR
  simp only [jn0,List.length_nil,List.map_nil,and_self]
 ·rename_i h
  rw [if_neg h] at hR
  refine aa kK (by exact p5 1 1 rfl) ?_
  simp only [go_sem,hP]
  refine x_f kK (mE ps bs n budget [.er 0,.er 1,.wr 0 0 (headM 1)] 3 rfl (by decide) hn hb hB (Ex _ _ _ _ _ (by rw [bT];decide))) ?_
  simp only [go_sem,hP]
  rw [hR]
  exact⟨by kernel_rfl,by simp only [and_self]⟩
def bh (j:Jn) (b:List UInt8) (budget:Int):JR :=
 if aE j=false then ⟨jn0,0,18⟩ else
 if ¬(1≤b.length∧b.length≤256) then ⟨jn0,0,9⟩ else
 if j.torn then ⟨jn0,0,18⟩ else
 if (b.length:Int)>ia j.ps j.tail j.torn then ⟨jn0,0,12⟩ else
 bC (flOf j) budget [.wr j.page j.tail (aY (UInt64.ofNat j.gen.toNat) b)]
theorem Hx (p:Int) (at_:Int) (x:List UInt8) (h:x.length<1000000000):∀o,o∈[JOp.wr p at_ x]→qJ o:=by
 intro o ho
 simp only [List.mem_cons,List.not_mem_nil,or_false] at ho
 subst ho
 exact h
theorem zw (j:Jn) (n:Nat) (b:List UInt8) (m:Nat) (budget:Int) (hn:j.bs.length=n) (hb:n<1000000000) (hm:b.length=m) (hmb:m<1000000) (hB:i64 budget) :
 FPure Tryz.prog 103 [.agg [.i j.ps,.p (.data 1 n (j.bs.map bt)),.i j.page,.i j.gen,.i j.tail,.b j.torn],.p (.data 1 m (b.map bt)),.i budget] (sJ (bh j b budget)):=by
 refine en Tryz.func103 Tryz.ntmps103 Tryz.results103 [0,1,2,3,6,7,8,9,10,14,18,21,28] ?_;intro c hP h0 hE kK
 simp only [go_sem,hP]
 refine aa kK (by exact j1 j n hn hb) ?_
 simp only [go_sem,hP]
 obtain⟨R,hR⟩:∃R,bh j b budget=R:=⟨_,rfl⟩;rw [hR] at hE kK;(try rw [hR])
 unfold bh at hR
 rw [hm] at hR
 split
 ·rename_i h
  rw [if_pos h] at hR
  subst hR
  simp only [jn0,List.length_nil,List.map_nil,and_self]
 ·rename_i h
  rw [if_neg h] at hR
  have h:aE j=true:=by simpa using h
  obtain⟨p,k,q,e1,e2,e3,e4,e5,e6,e7,e8,e9,e10,-⟩:=bF h
  have ht:=ea h
  refine aa kK (by exact uI m _) ?_
  simp only [go_sem,hP]
  split
  ·rename_i h2
   rw [if_pos h2] at hR
   subst hR
   simp only [jn0,List.length_nil,List.map_nil,and_self]
  ·rename_i h2
   rw [if_neg h2] at hR
   split
   ·rename_i h3
    rw [if_pos h3] at hR
    subst hR
    simp only [jn0,List.length_nil,List.map_nil,and_self]
   ·rename_i h3
    rw [if_neg h3] at hR
    refine aa kK (by exact BK j.ps n _ j.page j.gen j.tail j.torn (by omega) (by omega)) ?_
    simp only [go_sem,hP]
    split
    ·rename_i h4
     rw [if_pos h4] at hR
     subst hR
     simp only [jn0,List.length_nil,List.map_nil,and_self]
    ·rename_i h4
     rw [if_neg h4] at hR
     refine aa kK (by exact vD (UInt64.ofNat j.gen.toNat) j.gen (dZ _ (by omega) (by omega)) b m hm (by omega)) ?_
     simp only [go_sem,hP]
     have hpc:=mE j.ps j.bs n budget [.wr j.page j.tail (aY (UInt64.ofNat j.gen.toNat) b)] 1 rfl (by decide) hn hb hB (Hx _ _ _ (by rw [bp];omega))
     simp only [List.map_cons,List.map_nil,opP,bp,hm] at hpc
     refine x_f kK (hpc) ?_
     simp only [go_sem,hP]
     have hR:bC ⟨j.ps,j.bs⟩ budget [.wr j.page j.tail (aY (UInt64.ofNat j.gen.toNat) b)]=R:=hR
     rw [hR]
     exact⟨by kernel_rfl,by simp only [and_self]⟩
end Go.Proofs.YtebndjnkmcahaaaGreatDoor

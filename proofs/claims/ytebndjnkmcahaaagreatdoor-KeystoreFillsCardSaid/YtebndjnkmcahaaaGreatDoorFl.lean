/- Contracts of package flash. Own work; no statement of the seat is proved here. -/
import Derived.Test.YtebndjnkmcahaaaGreatDoorLib
namespace Go.Proofs.YtebndjnkmcahaaaGreatDoor
set_option linter.unusedSimpArgs false
set_option linter.unusedVariables false
open Go Go.Abs Go.RowKit
def bw (ps:Int) (n:Nat):Int :=
 if ps<512∨8192<ps then 9 else if n=0∨n % ps.toNat≠0∨8<n/ps.toNat then 4 else 0
theorem lH (n:Nat) (ps:Int) (h:0<ps):(n:Int).tdiv ps=((n/ps.toNat:Nat):Int):=by
 obtain⟨p,rfl⟩:=Int.eq_ofNat_of_zero_le (Int.le_of_lt h)
 rw [Int.tdiv_eq_ediv_of_nonneg (by omega)];simp
theorem uE (n:Nat) (ps:Int) (h:0<ps):(n:Int).tmod ps=((n % ps.toNat:Nat):Int):=by
 obtain⟨p,rfl⟩:=Int.eq_ofNat_of_zero_le (Int.le_of_lt h)
 rw [Int.tmod_eq_emod_of_nonneg (by omega)];simp
theorem uF (ps:Int):FPure Tryz.prog 73 [.i ps] (.b (decide (512≤ps∧ps≤8192))):=by
 refine en Tryz.func73 Tryz.ntmps73 Tryz.results73 [0,2] ?_;intro c hP h0 hE kK
 simp only [go_sem,hP]
 split<;>simp<;>omega
theorem kS (ps:Int) (n:Nat) (bs:List PV) (hb:n<1000000000):FPure Tryz.prog 201 [.agg [.i ps,.p (.data 1 n bs)]] (.i (bw ps n)):=by
 refine en Tryz.func201 Tryz.ntmps201 Tryz.results201 [0,1,2,3,7,26] ?_;intro c hP h0 hE kK
 simp only [go_sem,hP]
 refine aa kK (by exact uF ps) ?_
 simp only [go_sem,hP]
 unfold bw
 split
 ·rw [if_pos (by omega)]
 ·have hr:512≤ps∧ps≤8192:=by omega
  rw [if_neg (show ¬(ps<512∨8192<ps) by omega)]
  rw [uE n ps (by omega),lH n ps (by omega)]
  have hd:n/ps.toNat≤n:=Nat.div_le_self _ _
  generalize n/ps.toNat=d at *
  generalize n % ps.toNat=r at *
  (try go_unwrap)
  split
  ·refine⟨by omega,?_⟩
   split
   ·refine⟨by omega,?_⟩
    split
    ·rw [if_pos (by omega)]
    ·rw [if_neg (by omega)]
   ·rw [if_pos (by omega)]
  ·rw [if_pos (by omega)]
theorem ep {ps:Int} {n:Nat} (h:bw ps n=0):∃p k:Nat,ps=p∧512≤p∧p≤8192∧n=p*k∧1≤k∧k≤8:=by
 unfold bw at h
 split at h
 ·cases h
 ·split at h
  ·cases h
  ·obtain⟨p,rfl⟩:=Int.eq_ofNat_of_zero_le (show 0≤ps by omega)
   have h2:¬(n=0∨n % p≠0∨8<n/p):=by assumption
   have hm:p*(n/p)+n % p=n:=Nat.div_add_mod n p
   refine⟨p,n/p,rfl,by omega,by omega,by omega,?_,by omega⟩
   rcases Nat.eq_zero_or_pos (n/p) with h3|h3
   ·rw [h3] at hm;omega
   ·exact h3
theorem lI (p k:Nat) (h1:512≤p) (h2:p≤8192) (h3:1≤k) (h4:k≤8):bw p (p*k)=0:=by
 unfold bw
 rw [if_neg (by omega),if_neg]
 have e1:p*k % p=0:=Nat.mul_mod_right p k
 have e2:p*k/p=k:=Nat.mul_div_cancel_left k (by omega)
 have e3:1*1≤p*k:=Nat.mul_le_mul (by omega) h3
 simp only [Int.toNat_natCast,e1,e2]
 omega
theorem uG (p k n:Nat) (page:Int) (cs:List PV) (h1:1≤p) (hn:n=p*k) (hb:n<1000000000):FPure Tryz.prog 301 [.agg [.i p,.p (.data 1 n cs)],.i page] (.b (decide (0≤page∧page<k))):=by
 refine en Tryz.func301 Tryz.ntmps301 Tryz.results301 [0,1,2,4] ?_;intro c hP h0 hE kK
 have e:(n:Int).tdiv p=k:=by rw [lH n p (by omega),hn];rw [Int.toNat_natCast,Nat.mul_div_cancel_left k (by omega)]
 have hk:k≤n:=by rw [hn];exact Nat.le_mul_of_pos_left k (by omega)
 simp only [go_sem,hP,e]
 rw [ab (by omega) (by omega)]
 split
 ·refine⟨by omega,?_⟩
  simp;omega
 ·simp;omega
def cL (ch:Nat→UInt8→UInt8) (bs:List UInt8) (at_:Nat):Nat→List UInt8
 | 0=>bs
 | i+1=>(cL ch bs at_ i).set (at_+i) (ch i ((cL ch bs at_ i).getD (at_+i) 0))
theorem eq (ch:Nat→UInt8→UInt8) (bs:List UInt8) (a i:Nat):(cL ch bs a i).length=bs.length:=by
 induction i with
 | zero=>rfl
 | succ i ih=>simp [cL,ih]
def be (n:Nat) (budget:Int):Nat:=if 0≤budget∧budget<n then budget.toNat else n
def cx (n:Nat) (budget:Int):Int:=if 0≤budget∧budget<n then 0 else if 0≤budget then budget-n else budget
def cR (n:Nat) (budget:Int):Int:=if 0≤budget∧budget<n then 16 else 0
set_option maxHeartbeats 2000000 in
theorem xX (ps:Int) (bs:List UInt8) (n a m:Nat) (budget:Int) (g:AV) (fid:FuncId) (cap:List AV) (hg:∀l,oG l g = .call fid (l++cap)) (ch:Nat→UInt8→UInt8) (hcap:ax [] g) (hn:bs.length=n) (h1:1≤n) (ha:a+m≤n) (hb:n<1000000000)
 (hB : -9223372036854775808≤budget∧budget≤9223372036854775807)
 (hch:∀i x,i<m→FPure Tryz.prog fid (.i i :: .y x::cap) (.y (ch i x))) :
 FPure Tryz.prog 302 [.agg [.i ps,.p (.data 1 n (bs.map bt))],.i a,.i m,.i budget,g] (.tup [.agg [.i ps,.p (.data 1 n ((cL ch bs a (be m budget)).map bt))],.i (cx m budget),.i (cR m budget)]):=by
 refine sE De Tryz.func302 rfl (by kernel_rfl) Tryz.ntmps302 Tryz.results302 (by simp) (by simp [an,ax, *]) [0,1,2,3,4,5,10,11,12,13,14,15,16,17,24,39,40,41,42,55] ?_;intro c hP h0 hE
 simp only [go_sem,hP]
 obtain⟨q,hq⟩:∃q,be m budget=q:=⟨_,rfl⟩
 obtain⟨e,he⟩:∃e,cR m budget=e:=⟨_,rfl⟩
 obtain⟨lf,hlf⟩:∃lf,cx m budget=lf:=⟨_,rfl⟩
 rw [hq,he,hlf] at hE
 have hqm:q≤m:=by rw [← hq];unfold be;split<;>omega
 unfold be at hq
 unfold cR at he
 unfold cx at hlf
 split
 all_goals try split
 all_goals
  first
   | rw [if_pos ⟨by omega,by omega⟩] at hq he hlf
   | (rw [if_neg (by omega)] at hq he hlf;first|rw [if_pos (by omega)] at hlf|rw [if_neg (by omega)] at hlf)
  refine o5 hE (ks:=[0,1,2,3,4,5,10,11,12,13,14,15,16,17,24,39,40,41,42,55]) (n:=2000) 1 (by rw [hP];exact ER bs n hn (by omega) hb) rfl rfl (by simp [ax,an,keys]) (by simp only [bS,an,a8,cc,cz,and_self]) ?_
  simp only [go_sem,hP]
  (try go_unwrap)
  refine⟨by kernel_rfl,⟨by omega,by omega,by omega⟩,?_⟩
  refine ay hE h0 [0,1,2,3,4,5,10,11,12,13,14,15,16,17,24,39,40,41,42,55] q (fun i=>⟨62,[(2,.i q),(3,.i budget),(4,g),(10,.ptr 1 0),(13,.i e),(14,.ptr 3 0),(15,.sl 2 a q 1),(39,.sl 2 a q 1),(40,.i q),(41,.i i)],[(3,some ⟨32,[.i ps,.sl 2 0 n 1]⟩),(2,some ⟨a7,cb (cL ch bs a i)⟩),(1,some ⟨32,[.i 0,.p (.v (.slice none 0 0))]⟩)],4⟩) [] (fun i=>i) ?_ ?_
  ·refine⟨rfl,?_,?_,rfl,rfl,trivial,fun i h=>h⟩
   ·simp only [go_sem,AV.sl.injEq]
    exact⟨by omega,iH _ _ _ _ hcap,by omega,by omega,by omega,by omega⟩
   ·simp only [go_sem,cL]
    exact aj _ _ _ _
  ·intro i hi
   generalize hu:cL ch bs a i=us
   have hul:us.length=n:=by rw [← hu,eq,hn]
   simp only [go_sem,hP,hg]
   split
   ·refine⟨⟨by omega,by omega⟩,by omega,?_⟩
    first|refine nV hE (ks:=[0,1,2,3,4,5,10,11,12,13,14,15,16,17,24,39,40,41,42,55]) (n:=2000) (by rw [hP];exact hch i _ (by omega)) ?_|refine nX hE (ks:=[0,1,2,3,4,5,10,11,12,13,14,15,16,17,24,39,40,41,42,55]) (n:=2000) (by rw [hP];exact hch i _ (by omega)) ?_
    simp only [go_sem,hP]
    (try go_unwrap)
    refine⟨⟨by omega,by omega⟩,by omega,by omega,dp rfl ?_ ?_ rfl rfl (Nat.le_refl _)⟩
    ·simp only [go_sem]
     exact⟨iH _ _ _ _ hcap,by omega⟩
    ·simp only [go_sem,cL,hu,DM]
     exact aj _ _ _ _
   ·obtain rfl:i=q:=by omega
    rw [hu,List.take_of_length_le (by omega)]
    (try go_unwrap)
    first
     | exact⟨by omega,trivial,by omega⟩
     | exact⟨by omega,trivial⟩
theorem BH (i:Int) (x:UInt8):FPure Tryz.prog 303 [.i i,.y x] (.y 255):=by
 refine en Tryz.func303 Tryz.ntmps303 Tryz.results303 [4] ?_;intro c hP h0 hE kK
 simp only [go_sem,hP]
 rfl
theorem BI (x y:UInt8):cu .u8 (x.toNat:Int) (y.toNat:Int)=((x &&& y).toNat:Int):=by
 show IntKind.u8.wrap (((BitVec.ofInt 8 (x.toNat:Int)) &&& (BitVec.ofInt 8 (y.toNat:Int))).toNat:Int)=_
 have e:∀z:UInt8,BitVec.ofInt 8 (z.toNat:Int)=z.toBitVec:=fun z=>by
  rw [BitVec.ofInt_natCast]
  exact BitVec.eq_of_toNat_eq (by rw [BitVec.toNat_ofNat];exact Nat.mod_eq_of_lt z.toBitVec.isLt)
 rw [e,e]
 have:=(x.toBitVec &&& y.toBitVec).isLt
 rw [bW]
 show ((x.toBitVec &&& y.toBitVec).toNat:Int) % 256=((x.toBitVec &&& y.toBitVec).toNat:Int)
 omega
def aC (b:List UInt8) (i:Nat) (x:UInt8):UInt8:=x &&& b.getD i 0
theorem wJ (i m:Nat) (x:UInt8) (b:List UInt8) (hm:b.length=m) (hi:i<m):FPure Tryz.prog 306 [.i i,.y x,.cp [.data 1 m (b.map bt)]] (.y (aC b i x)):=by
 refine en Tryz.func306 Tryz.ntmps306 Tryz.results306 [0,1,2,5] ?_;intro c hP h0 hE kK
 simp only [go_sem,hP,BI]
 exact⟨⟨by omega,by omega⟩,by omega,rfl⟩
structure Fl where
 ps:Int
 bs:List UInt8
structure FR where
 f:Fl
 left:Int
 err:Int
def Ep (f:Fl):AV := .agg [.i f.ps,.p (.data 1 f.bs.length (f.bs.map bt))]
def uH (r:FR):AV := .tup [Ep r.f,.i r.left,.i r.err]
attribute [go_sem] Ep uH
def ao (f:Fl) (a m:Nat) (budget:Int) (ch:Nat→UInt8→UInt8):FR:=⟨⟨f.ps,cL ch f.bs a (be m budget)⟩,cx m budget,cR m budget⟩
def fy (e:Int):FR:=⟨⟨0,[]⟩,0,e⟩
def eo (f:Fl) (page at_ m:Int):Int :=
 if bw f.ps f.bs.length≠0 then bw f.ps f.bs.length
 else if page<0∨(f.bs.length/f.ps.toNat:Nat)≤page∨at_<0∨f.ps-m<at_ then 9 else 0
def cy (f:Fl) (page at_:Int) (b:List UInt8) (budget:Int):FR :=
 if eo f page at_ b.length≠0 then fy (eo f page at_ b.length)
 else ao f (page*f.ps+at_).toNat b.length budget (aC b)
def df (f:Fl) (page:Int) (budget:Int):FR :=
 if eo f page 0 0≠0 then fy (eo f page 0 0)
 else ao f (page*f.ps).toNat f.ps.toNat budget (fun _ _=>255)
def i64 (n:Int):Prop := -9223372036854775808≤n∧n≤9223372036854775807
theorem fW {f:Fl} (page at_ m:Int) (h:bw f.ps f.bs.length≠0):eo f page at_ m=bw f.ps f.bs.length:=by
 unfold eo;rw [if_pos h]
theorem js {p k:Nat} {bs:List UInt8} {page at_ m:Int} (h1:512≤p) (h2:p≤8192) (h3:1≤k) (h4:k≤8) (hn:bs.length=p*k) (hi:0≤page∧page<k∧0≤at_∧at_≤p-m):eo ⟨p,bs⟩ page at_ m=0:=by
 have hv:=lI p k h1 h2 h3 h4
 unfold eo
 simp only [hn,hv,ne_eq,not_true_eq_false,if_false,Int.toNat_natCast,Nat.mul_div_cancel_left k (show 0<p by omega)]
 rw [if_neg (by omega)]
theorem hY {p k:Nat} {bs:List UInt8} {page at_ m:Int} (h1:512≤p) (h2:p≤8192) (h3:1≤k) (h4:k≤8) (hn:bs.length=p*k) (hi:¬(0≤page∧page<k∧0≤at_∧at_≤p-m)):eo ⟨p,bs⟩ page at_ m=9:=by
 have hv:=lI p k h1 h2 h3 h4
 unfold eo
 simp only [hn,hv,ne_eq,not_true_eq_false,if_false,Int.toNat_natCast,Nat.mul_div_cancel_left k (show 0<p by omega)]
 rw [if_pos (by omega)]
theorem kT {f:Fl} {page at_:Int} {b:List UInt8} {m:Nat} {budget e:Int} (hm:b.length=m) (h:eo f page at_ m=e) (he:e≠0):cy f page at_ b budget=fy e:=by
 subst hm;unfold cy;rw [h,if_pos he]
theorem lJ {f:Fl} {page at_:Int} {b:List UInt8} {m:Nat} {budget:Int} (hm:b.length=m) (h:eo f page at_ m=0):cy f page at_ b budget=ao f (page*f.ps+at_).toNat m budget (aC b):=by
 subst hm;unfold cy;rw [h,if_neg (by decide)]
theorem jt {f:Fl} {page budget e:Int} (h:eo f page 0 0=e) (he:e≠0):df f page budget=fy e:=by
 unfold df;rw [h,if_pos he]
theorem mC {f:Fl} {page budget:Int} (h:eo f page 0 0=0):df f page budget=ao f (page*f.ps).toNat f.ps.toNat budget (fun _ _=>255):=by
 unfold df;rw [h,if_neg (by decide)]
theorem gK (q p:Nat) (h:q*p<1000000000000):IntKind.i64.wrap ((q:Int)*(p:Int))=((q*p:Nat):Int):=by
 have e:(q:Int)*(p:Int)=((q*p:Nat):Int):=by simp
 rw [e,ab (by omega) (by omega)]
theorem dX {q p k:Nat} (h:q<k):q*p+p≤p*k:=by
 have:(q+1)*p≤k*p:=Nat.mul_le_mul_right p (by omega)
 rw [Nat.mul_comm p k];rw [Nat.add_mul] at this;omega
theorem zt (ps:Int) (bs:List UInt8) (n:Nat) (page at_:Int) (b:List UInt8) (m:Nat) (budget:Int) (hn:bs.length=n) (hb:n<1000000000) (hm:b.length=m) (hmb:m<1000000000) (hB:i64 budget) :
 FPure Tryz.prog 305 [.agg [.i ps,.p (.data 1 n (bs.map bt))],.i page,.i at_,.p (.data 1 m (b.map bt)),.i budget] (uH (cy ⟨ps,bs⟩ page at_ b budget)):=by
 refine en Tryz.func305 Tryz.ntmps305 Tryz.results305 [0,1,2,3,4,5,8,10,11,12,13,17,36] ?_;intro c hP h0 hE kK
 simp only [go_sem,hP]
 refine aa kK (by exact kS ps n _ hb) ?_
 simp only [go_sem,hP]
 split
 ·rename_i h
  have hv:bw ps bs.length≠0:=by rw [hn];exact h
  rw [kT hm (fW (f:=⟨ps,bs⟩) page at_ m hv) hv]
  simp only [fy,List.length_nil,List.map_nil,and_self,hn]
 ·rename_i h
  have h:bw ps n=0:=by omega
  obtain⟨p,k,rfl,hp1,hp2,rfl,hk1,hk2⟩:=ep h
  refine aa kK (by exact uG p k _ page _ (by omega) rfl hb) ?_
  simp only [go_sem,hP]
  (try go_unwrap)
  have fail:¬(0≤page∧page<k∧0≤at_∧at_≤p-m)→cy ⟨p,bs⟩ page at_ b budget=fy 9:=fun hx=>kT hm (hY hp1 hp2 hk1 hk2 hn hx) (by decide)
  split
  ·split
   ·split
    ·rw [fail (by omega)]
     simp only [fy,List.length_nil,List.map_nil,and_self]
    ·have hR:=lJ (budget:=budget) hm (js (m:=m) hp1 hp2 hk1 hk2 hn (by omega:0≤page∧page<k∧0≤at_∧at_≤p-m))
     obtain⟨q,rfl⟩:=Int.eq_ofNat_of_zero_le (show 0≤page by omega)
     obtain⟨a,rfl⟩:=Int.eq_ofNat_of_zero_le (show 0≤at_ by omega)
     have hle:=dX (p:=p) (show q<k by omega)
     have hqp:((q:Int)*(p:Int)+a).toNat=q*p+a:=by (have e:(q:Int)*(p:Int)=((q*p:Nat):Int):=by simp);rw [e];omega
     have hw:IntKind.i64.wrap (((q*p:Nat):Int)+(a:Int))=((q*p+a:Nat):Int):=by rw [ab (by omega) (by omega)];simp
     rw [gK q p (by omega),hw]
     simp only [hqp] at hR
     refine iI hE (ks:=[0,1,2,3,4,5,8,10,11,12,13,17,36]) (n:=2000) 1 ?_ ?_
     ·simp only [go_sem,hP]
     ·simp only [go_sem,hP]
      refine aa kK (by exact xX p bs _ (q*p+a) m budget _ 306 _ (fun _=>rfl) (aC b) (by simp [an,ax]) hn (by omega) (by omega) hb hB (fun i x hi=>wJ i m x b hm hi)) ?_
      simp only [go_sem,hP]
      simp only [hR,ao,eq,hn,and_self]
   ·rw [fail (by omega)]
    simp only [fy,List.length_nil,List.map_nil,and_self]
  ·rw [fail (by omega)]
   simp only [fy,List.length_nil,List.map_nil,and_self]
theorem Er (ps:Int) (bs:List UInt8) (n:Nat) (page budget:Int) (hn:bs.length=n) (hb:n<1000000000) (hB:i64 budget) :
 FPure Tryz.prog 300 [.agg [.i ps,.p (.data 1 n (bs.map bt))],.i page,.i budget] (uH (df ⟨ps,bs⟩ page budget)):=by
 refine en Tryz.func300 Tryz.ntmps300 Tryz.results300 [0,1,2,3,6,7,8,9,13,19] ?_;intro c hP h0 hE kK
 simp only [go_sem,hP]
 refine aa kK (by exact kS ps n _ hb) ?_
 simp only [go_sem,hP]
 split
 ·rename_i h
  have hv:bw ps bs.length≠0:=by rw [hn];exact h
  rw [jt (fW (f:=⟨ps,bs⟩) page 0 0 hv) hv]
  simp only [fy,List.length_nil,List.map_nil,and_self,hn]
 ·rename_i h
  have h:bw ps n=0:=by omega
  obtain⟨p,k,rfl,hp1,hp2,rfl,hk1,hk2⟩:=ep h
  refine aa kK (by exact uG p k _ page _ (by omega) rfl hb) ?_
  simp only [go_sem,hP]
  split
  ·rw [jt (hY hp1 hp2 hk1 hk2 hn (by omega)) (by decide)]
   simp only [fy,List.length_nil,List.map_nil,and_self]
  ·have hR:=mC (budget:=budget) (js hp1 hp2 hk1 hk2 hn (by omega:0≤page∧page<k∧0≤(0:Int)∧(0:Int)≤p-0))
   obtain⟨q,rfl⟩:=Int.eq_ofNat_of_zero_le (show 0≤page by omega)
   have hle:=dX (p:=p) (show q<k by omega)
   rw [gK q p (by omega)]
   refine aa kK (by exact xX p bs _ (q*p) p budget _ 303 [] (fun l=>by simp [oG]) (fun _ _=>255) (by simp [ax]) hn (by omega) (by omega) hb hB (fun i x hi=>BH i x)) ?_
   have hqp:((q:Int)*(p:Int)).toNat=q*p:=by (have e:(q:Int)*(p:Int)=((q*p:Nat):Int):=by simp);rw [e];omega
   simp only [go_sem,hP]
   simp only [hR,ao,eq,hn,and_self,hqp,Int.toNat_natCast]
end Go.Proofs.YtebndjnkmcahaaaGreatDoor

/- joined of several texts; own work; no statement of the seat is proved but in the last -/
import Derived.Test.YtebndjnkmcahaaaGreatDoorJn
section
namespace Go.Proofs.YtebndjnkmcahaaaGreatDoor
set_option linter.unusedSimpArgs false
set_option linter.unusedVariables false
open Go Go.Abs Go.RowKit
def cO (l:List (List UInt8)):Bool:=l.all fun b=>decide (1≤b.length∧b.length≤256)
def rsM (g:UInt64) (l:List (List UInt8)):List UInt8:=(l.map (aY g)).flatten
def aw (j:Jn) (l:List (List UInt8)) (budget:Int):JR :=
 if aE j=false then ⟨jn0,0,18⟩ else
 if cO l=false then ⟨jn0,0,9⟩ else
 if j.ps<16+(aR l:Int) then ⟨jn0,0,12⟩ else
 if 1099511627776≤j.gen then ⟨jn0,0,13⟩ else
 bC (flOf j) budget [.er (1-j.page),.wr (1-j.page) 16 (rsM (UInt64.ofNat (j.gen+1).toNat) l),.wr (1-j.page) 0 (headM (UInt64.ofNat (j.gen+1).toNat))]
theorem ob (g:UInt64):∀l,(rsM g l).length=aR l
 | []=>rfl
 | b::l=>by
  have:=ob g l
  unfold rsM at *
  simp only [List.map_cons,List.flatten_cons,List.length_append,bp,aR,this];omega
theorem C8 (g:UInt64) (l:List (List UInt8)) (b:List UInt8):rsM g (l++[b])=rsM g l++aY g b:=by simp [rsM]
theorem dR:∀(l r:List (List UInt8)),aR (l++r)=aR l+aR r
 | [],r=>by simp [aR]
 | b::l,r=>by simp only [List.cons_append,aR,dR l r];omega
theorem gt (l:List (List UInt8)) (i:Nat) (h:i<l.length):l.take (i+1)=l.take i++[l.getD i []]:=by
 rw [List.take_succ_eq_append_getElem h];simp [List.getD_eq_getElem?_getD,h]
theorem ff (l:List (List UInt8)) (i:Nat):aR (l.take i)≤aR l:=by
 conv=>rhs;rw [← List.take_append_drop i l,dR]
 omega
theorem tC:∀(l:List (List UInt8)),(∀b,b∈l→b.length<1000000)→aR l≤1000010*l.length
 | [],_=>by simp [aR]
 | b::l,h=>by
  have:=tC l fun x hx=>h x (by simp [hx])
  have:=h b (by simp)
  simp only [aR,List.length_cons];omega
theorem rD {l:List (List UInt8)} {i:Nat} (hi:i<l.length) (h:¬(1≤(l.getD i []).length∧(l.getD i []).length≤256)):cO l=false:=by
 have e:l.getD i []=l[i]:=by simp [List.getD_eq_getElem?_getD,hi]
 rw [e] at h
 unfold cO
 rw [List.all_eq_false]
 exact⟨l[i],List.getElem_mem hi,by simpa using h⟩
theorem p6 {l:List (List UInt8)} (h:cO l=true) {b:List UInt8} (hb:b∈l):1≤b.length∧b.length≤256:=by
 unfold cO at h
 rw [List.all_eq_true] at h
 simpa using h b hb
theorem FB (a:Int) (p at_:Int) (x:List UInt8) (p' at':Int) (y:List UInt8) (h:x.length<1000000000) (h':y.length<1000000000):∀o,o∈[JOp.er a,.wr p at_ x,.wr p' at' y]→qJ o:=by
 intro o ho
 simp only [List.mem_cons,List.not_mem_nil,or_false] at ho
 rcases ho with rfl|rfl|rfl
 ·trivial
 ·exact h
 ·exact h'
set_option maxHeartbeats 4000000 in
theorem k9 (j:Jn) (n:Nat) (l:List (List UInt8)) (m:Nat) (budget:Int) (hn:j.bs.length=n) (hb:n<1000000000) (hm:l.length=m) (hmb:m<1000000) (hlb:∀b,b∈l→b.length<1000000) (hB:i64 budget) :
 FPure Tryz.prog 93 [.agg [.i j.ps,.p (.data 1 n (j.bs.map bt)),.i j.page,.i j.gen,.i j.tail,.b j.torn],.p (.data 1 m (l.map byP)),.i budget] (sJ (aw j l budget)):=by
 refine en Tryz.func93 Tryz.ntmps93 Tryz.results93 [0,1,2,3,6,7,8,9,11,12,13,14,16,19,21,22,23,24,29,41,45,53,54,55,56] ?_;intro c hP h0 hE kK
 simp only [go_sem,hP]
 refine aa kK (by exact j1 j n hn hb) ?_
 simp only [go_sem,hP]
 obtain⟨R,hR⟩:∃R,aw j l budget=R:=⟨_,rfl⟩;rw [hR] at hE kK;(try rw [hR])
 unfold aw at hR
 split
 ·rename_i h
  rw [if_pos h] at hR
  subst hR
  simp only [jn0,List.length_nil,List.map_nil,and_self]
 ·rename_i h
  rw [if_neg h] at hR
  have h:aE j=true:=by simpa using h
  obtain⟨p,k,q,e1,e2,e3,e4,e5,e6,e7,e8,e9,e10,-⟩:=bF h
  have htb:=tC l hlb
  refine bo hE h0 [0,1,2,3,6,7,8,9,11,12,13,14,16,19,21,22,23,24,29,41,45,53,54,55,56] (α:={ i:Nat // i≤m∧cO (l.take i)=true }) (fun i=>⟨85,[(1,.p (.data 1 m (l.map byP))),(2,.i budget),(3,.ptr 0 0),(6,.ptr 1 0),(9,.i ((16+aR (l.take i.1):Nat):Int)),(21,.p (.data 1 m (l.map byP))),(22,.i m),(23,.i i.1)],
   [(1,some ⟨34,[.i 0,.p (.v (.slice none 0 0)),.i 0,.i 0,.i 0,.b false]⟩),(0,some ⟨34,[.i j.ps,.p (.data 1 n (j.bs.map bt)),.i j.page,.i j.gen,.i j.tail,.b j.torn]⟩)],2⟩) (fun i=>m-i.1) ⟨0,Nat.zero_le _,by simp [cO]⟩ [] (fun i=>i) ?_ ?_
  ·refine⟨rfl,?_,?_,rfl,rfl,trivial,fun i h=>h⟩
   ·simp only [go_sem]
    simp [aR]
   ·simp only [go_sem]
  ·rintro⟨i,hi,hs⟩
   have ht1:=ff l i
   simp only [go_sem,hP,dq,byP]
   split
   ·refine⟨⟨by omega,by omega⟩,by omega,?_⟩
    refine aa kK (by exact uI _ _) ?_
    simp only [go_sem,hP]
    split
    ·rename_i h2
     rw [if_pos (rD (by omega) h2)] at hR
     subst hR
     simp only [jn0,List.length_nil,List.map_nil,and_self]
    ·rename_i h2
     have hts:=gt l i (by omega)
     have ht2:=ff l (i+1)
     rw [hts,dR] at ht2
     simp only [aR] at ht2
     (try go_unwrap)
     refine⟨⟨i+1,by omega,?_⟩,by show m-(i+1)<m-i;omega,dp rfl ?_ ?_ rfl rfl (Nat.le_refl _)⟩
     ·rw [hts];unfold cO at hs ⊢;rw [List.all_append,hs];simp only [List.all_cons,List.all_nil];simpa using h2
     ·simp only [go_sem,hts,dR,aR,byP]
      omega
     ·simp only [go_sem]
   ·obtain rfl:i=m:=by omega
    rw [List.take_of_length_le (by omega)] at hs ht1 ⊢
    rw [if_neg (by rw [hs];decide)] at hR
    split
    ·rename_i h2
     rw [if_pos (by omega)] at hR
     subst hR
     simp only [jn0,List.length_nil,List.map_nil,and_self]
    ·rename_i h2
     rw [if_neg (by omega)] at hR
     split
     ·rename_i h3
      rw [if_pos h3] at hR
      subst hR
      simp only [jn0,List.length_nil,List.map_nil,and_self]
     ·rename_i h3
      rw [if_neg h3] at hR
      refine⟨by kernel_rfl,?_⟩
      rw [ab (n:=1-j.page) (by omega) (by omega),ab (n:=j.gen+1) (by omega) (by omega)]
      have hgu:=dZ (j.gen+1) (by omega) (by omega)
      generalize hg:UInt64.ofNat (j.gen+1).toNat=g at *
      refine bE a7 ?_
      refine ay hE h0 (1000022::[0,1,2,3,6,7,8,9,11,12,13,14,16,19,21,22,23,24,29,41,45,53,54,55,56]) i (fun a=>⟨85,[(2,.i budget),(3,.ptr 0 0),(6,.ptr 1 0),(12,.i (1-j.page)),(13,.i (j.gen+1)),(14,.sl 2 0 (aR (l.take a)) 1),(53,.p (.data 1 i (l.map byP))),(54,.i i),(55,.i a)],
       [(2,some ⟨a7,cb (rsM g (l.take a))⟩),(1,some ⟨34,[.i 0,.p (.v (.slice none 0 0)),.i 0,.i 0,.i 0,.b false]⟩),(0,some ⟨34,[.i j.ps,.p (.data 1 n (j.bs.map bt)),.i j.page,.i j.gen,.i j.tail,.b j.torn]⟩)],3⟩) [] (fun i=>i) ?_ ?_
      ·refine⟨rfl,?_,?_,rfl,rfl,trivial,fun i h=>h⟩
       ·simp only [go_sem]
        simp [aR]
       ·simp only [go_sem]
        simp [rsM,cb,ai]
      ·intro a ha
       have hta:=ff l a
       have hlen:=ob g (l.take a)
       simp only [go_sem,hP,dq,byP]
       split
       ·refine⟨⟨by omega,by omega⟩,by omega,?_⟩
        have hel:1≤(l.getD a []).length∧(l.getD a []).length≤256:=by
         have e:l.getD a []=l[a]'(by omega):=by simp [List.getD_eq_getElem?_getD,show a<l.length by omega]
         rw [e];exact p6 hs (List.getElem_mem _)
        refine aa kK (by exact vD g (j.gen+1) hgu (l.getD a []) _ rfl (by omega)) ?_
        simp only [go_sem,hP,cI,dA]
        have hts:=gt l a (by omega)
        have ht2:=ff l (a+1)
        rw [hts,dR] at ht2
        simp only [aR] at ht2
        (try go_unwrap)
        refine⟨⟨by omega,by omega,by omega⟩,by omega,aZ [0,1,3] rfl ?_ ?_ rfl rfl (Nat.le_refl _)⟩
        ·simp only [go_sem,hts,dR,aR,AV.sl.injEq]
         exact⟨by omega,by omega⟩
        ·simp only [go_sem,hts,C8]
         exact aj _ _ _ _
       ·obtain rfl:a=i:=by omega
        rw [List.take_of_length_le (show l.length≤a by omega)] at hlen ⊢
        refine o9 hE (ks:=[0,1,2,3,6,7,8,9,11,12,13,14,16,19,21,22,23,24,29,41,45,53,54,55,56]) (n:=2000) 2 ?_ ?_
        ·simp only [go_sem,hP]
         omega
        ·simp only [go_sem,hP]
         rw [List.take_of_length_le (show (rsM g l).length≤aR l by omega)]
         refine aa kK (by exact p5 g (j.gen+1) hgu) ?_
         simp only [go_sem,hP]
         have hpc:=mE j.ps j.bs n budget [.er (1-j.page),.wr (1-j.page) 16 (rsM g l),.wr (1-j.page) 0 (headM g)] 3 rfl (by decide) hn hb hB (FB _ _ _ _ _ _ _ (by omega) (by rw [bT];decide))
         simp only [List.map_cons,List.map_nil,opP,hlen,bT] at hpc
         refine x_f kK (hpc) ?_
         simp only [go_sem,hP]
         have hR:bC ⟨j.ps,j.bs⟩ budget [.er (1-j.page),.wr (1-j.page) 16 (rsM g l),.wr (1-j.page) 0 (headM g)]=R:=hR
         rw [hR]
         exact⟨by kernel_rfl,by simp only [and_self]⟩
end Go.Proofs.YtebndjnkmcahaaaGreatDoor
end
section
namespace Go.Proofs.YtebndjnkmcahaaaGreatDoor
set_option linter.unusedSimpArgs false
set_option linter.unusedVariables false
open Go Go.Abs Go.RowKit
theorem jL (ps:Int) (n:Nat) (bs:List PV) (hb:n<1000000000):FPure Tryz.prog 186 [.agg [.i ps,.p (.data 1 n bs)]] (.i (bw ps n)):=by
 refine en Tryz.func186 Tryz.ntmps186 Tryz.results186 [0,1,2,10,32] ?_;intro c hP h0 hE kK
 simp only [go_sem,hP]
 obtain⟨R,hR⟩:∃R,bw ps n=R:=⟨_,rfl⟩;rw [hR] at hE kK;(try rw [hR])
 unfold bw at hR
 have hd:n/ps.toNat≤n:=Nat.div_le_self _ _
 have key:0<ps→(n:Int).tmod ps=((n % ps.toNat:Nat):Int)∧(n:Int).tdiv ps=((n/ps.toNat:Nat):Int):=fun h=>⟨uE n ps h,lH n ps h⟩
 generalize n/ps.toNat=d at *
 generalize n % ps.toNat=r at *
 split
 ·split
  ·split at hR<;>omega
  ·obtain⟨k1,k2⟩:=key (by omega)
   rw [k1,k2,ab (by omega) (by omega)]
   rw [if_neg (by omega)] at hR
   split
   ·refine⟨by omega,?_⟩
    split
    ·refine⟨by omega,?_⟩
     split<;>(split at hR<;>omega)
    ·split at hR<;>omega
   ·split at hR<;>omega
 ·split at hR<;>omega
theorem yJ (ps:Int) (bs:List UInt8) (n:Nat) (page at_ m:Int) (hn:bs.length=n) (hb:n<1000000000) (hm:0≤m∧m<1000000000):FPure Tryz.prog 227 [.agg [.i ps,.p (.data 1 n (bs.map bt))],.i page,.i at_,.i m] (.i (eo ⟨ps,bs⟩ page at_ m)):=by
 refine en Tryz.func227 Tryz.ntmps227 Tryz.results227 [0,1,2,3,4,8,9,13,48] ?_;intro c hP h0 hE kK
 simp only [go_sem,hP]
 refine aa kK (by exact jL ps n _ hb) ?_
 simp only [go_sem,hP]
 split
 ·rename_i h
  have hv:bw ps bs.length≠0:=by rw [hn];exact h
  rw [fW (f:=⟨ps,bs⟩) page at_ m hv]
  simp only [hn]
 ·rename_i h
  obtain⟨p,k,rfl,hp1,hp2,rfl,hk1,hk2⟩:=ep (show bw ps n=0 by omega)
  have hd:((p*k:Nat):Int).tdiv p=k:=by rw [lH _ p (by omega),Int.toNat_natCast,Nat.mul_div_cancel_left k (by omega)]
  rw [hd,ab (n:=(k:Int)) (by omega) (by omega)]
  have out:¬(0≤page∧page<k∧0≤at_∧at_≤p-m)→eo ⟨p,bs⟩ page at_ m=9:=fun hx=>hY hp1 hp2 hk1 hk2 hn hx
  split
  ·refine⟨by omega,?_⟩
   split
   ·split
    ·split
     ·split
      ·rw [ab (by omega) (by omega)]
       split
       ·rw [out (by omega)]
       ·rw [js hp1 hp2 hk1 hk2 hn (by omega)]
      ·rw [out (by omega)]
     ·omega
    ·rw [out (by omega)]
   ·rw [out (by omega)]
  ·rw [out (by omega)]
def lX (b:List UInt8) (i:Nat) (x:UInt8):UInt8:=if b.length=0 then 255 else x &&& b.getD i 0
def rE (budget:Int) (i:Nat):Int:=if 0≤budget then budget-i else budget
theorem FC:(255:Int)=((255:UInt8).toNat:Int):=rfl
set_option maxHeartbeats 2000000 in
theorem m4 (ps:Int) (bs:List UInt8) (n a m:Nat) (b:List UInt8) (mb:Nat) (budget:Int) (hn:bs.length=n) (ha:a+m≤n) (hb:n<1000000000) (hmb:b.length=mb) (hmm:mb=0∨mb=m) (hB:i64 budget) :
 FPure Tryz.prog 228 [.agg [.i ps,.p (.data 1 n (bs.map bt))],.i a,.i m,.p (.data 1 mb (b.map bt)),.i budget] (uH (ao ⟨ps,bs⟩ a m budget (lX b))):=by
 unfold i64 at hB
 refine en Tryz.func228 Tryz.ntmps228 Tryz.results228 [0,1,2,3,4,5,10,11,12,13,20,24,28,49] ?_;intro c hP h0 hE kK
 simp only [go_sem,hP,cI]
 refine⟨⟨by omega,by omega⟩,?_⟩
 refine bo hE h0 [0,1,2,3,4,5,10,11,12,13,20,24,28,49] (α:={ i:Nat // i≤m∧(0≤budget→(i:Int)≤budget) }) (fun i=>⟨54,[(1,.i a),(2,.i m),(3,.p (.data 1 mb (b.map bt))),(4,.i (rE budget i.1)),(5,.ptr 0 0),(10,.ptr 1 0),(13,.i i.1)],
  [(0,some ⟨32,[.i ps,.sl 2 0 n 1]⟩),(2,some ⟨a7,cb (cL (lX b) bs a i.1)⟩),(1,some ⟨32,[.i 0,.p (.v (.slice none 0 0))]⟩)],3⟩) (fun i=>m-i.1) ⟨0,Nat.zero_le _,fun h=>by simpa using h⟩ [] (fun i=>i) ?_ ?_
 ·refine⟨rfl,?_,?_,rfl,rfl,trivial,fun i h=>h⟩
  ·simp only [go_sem,rE]
   split<;>omega
  ·simp only [go_sem,cL]
   exact aj _ _ _ _
 ·rintro⟨i,hi,hib⟩
  generalize hu:cL (lX b) bs a i=us
  have hul:us.length=n:=by rw [← hu,eq,hn]
  obtain⟨bi,hbi⟩:∃bi,rE budget i=bi:=⟨_,rfl⟩
  have hbd:(0≤budget∧bi=budget-i)∨(budget<0∧bi=budget):=by
   unfold rE at hbi;split at hbi<;>omega
  have hnx:rE budget (i+1)=if 0≤budget then bi-1 else bi:=by unfold rE;split<;>omega
  have hun:cL (lX b) bs a (i+1)=us.set (a+i) (lX b i (us.getD (a+i) 0)):=by simp only [cL,hu]
  simp only
  rw [hbi]
  have wa:IntKind.i64.wrap ((a:Int)+(i:Int))=((a+i:Nat):Int)∨¬i<m:=by
   by_cases h:i<m
   ·left;rw [ab (by omega) (by omega)];omega
   ·exact .inr h
  simp only [go_sem,hP,BI,DM,FC]
  split
  ·have wa:=wa.resolve_right (by omega)
   rw [wa]
   simp only [Int.toNat_natCast]
   have wi:IntKind.i64.wrap ((i:Int)+1)=(i:Int)+1:=ab (by omega) (by omega)
   split
   ·obtain⟨h0b,hib'⟩:0≤budget∧budget=i:=by omega
    have hr:be m budget=i:=by unfold be;rw [if_pos (by omega)];omega
    have hl:cx m budget=0:=by unfold cx;rw [if_pos (by omega)]
    have hp:cR m budget=16:=by unfold cR;rw [if_pos (by omega)]
    simp only [ao,hr,hl,hp,hu,hul,List.take_of_length_le (Nat.le_of_eq hul),and_self,Nat.le_refl]
   ·rw [wi]
    split
    ·have hc:lX b i (us.getD (a+i) 0)=255:=by unfold lX;rw [if_pos (by omega)]
     refine⟨⟨by omega,by omega⟩,by omega,?_⟩
     split
     ·rw [ab (n:=bi-1) (by omega) (by omega)]
      refine⟨⟨i+1,by omega,fun h=>by omega⟩,by show m-(i+1)<m-i;omega,dp rfl ?_ ?_ rfl rfl (Nat.le_refl _)⟩
      ·simp only [go_sem,hnx]
       first
        | (rw [if_pos (by omega)];exact⟨by omega,by omega⟩)
        | (rw [if_neg (by omega)];exact⟨by omega,by omega⟩)
      ·simp only [go_sem,hun,hc]
       exact aj _ _ _ _
     ·refine⟨⟨i+1,by omega,fun h=>by omega⟩,by show m-(i+1)<m-i;omega,dp rfl ?_ ?_ rfl rfl (Nat.le_refl _)⟩
      ·simp only [go_sem,hnx]
       first
        | (rw [if_pos (by omega)];exact⟨by omega,by omega⟩)
        | (rw [if_neg (by omega)];exact⟨by omega,by omega⟩)
      ·simp only [go_sem,hun,hc]
       exact aj _ _ _ _
    ·have hc:lX b i (us.getD (a+i) 0)=us.getD (a+i) 0 &&& b.getD i 0:=by unfold lX;rw [if_neg (by omega)]
     refine⟨⟨by omega,by omega⟩,by omega,⟨by omega,by omega⟩,by omega,⟨by omega,by omega⟩,by omega,by kernel_rfl,?_⟩
     split
     ·rw [ab (n:=bi-1) (by omega) (by omega)]
      refine⟨⟨i+1,by omega,fun h=>by omega⟩,by show m-(i+1)<m-i;omega,dp rfl ?_ ?_ rfl rfl (Nat.le_refl _)⟩
      ·simp only [go_sem,hnx]
       first
        | (rw [if_pos (by omega)];exact⟨by omega,by omega⟩)
        | (rw [if_neg (by omega)];exact⟨by omega,by omega⟩)
      ·simp only [go_sem,hun,hc]
       exact aj _ _ _ _
     ·refine⟨⟨i+1,by omega,fun h=>by omega⟩,by show m-(i+1)<m-i;omega,dp rfl ?_ ?_ rfl rfl (Nat.le_refl _)⟩
      ·simp only [go_sem,hnx]
       first
        | (rw [if_pos (by omega)];exact⟨by omega,by omega⟩)
        | (rw [if_neg (by omega)];exact⟨by omega,by omega⟩)
      ·simp only [go_sem,hun,hc]
       exact aj _ _ _ _
  ·obtain rfl:i=m:=by omega
   have hr:be i budget=i:=by unfold be;rw [if_neg (by omega)]
   have hl:cx i budget=bi:=by unfold cx;rw [if_neg (by omega)];split<;>omega
   have hp:cR i budget=0:=by unfold cR;rw [if_neg (by omega)]
   simp only [ao,hr,hl,hp,hu,hul,List.take_of_length_le (Nat.le_of_eq hul),and_self,Nat.le_refl]
theorem lc {c d:Nat→UInt8→UInt8} (bs:List UInt8) (a:Nat):∀m,(∀i x,i<m→c i x=d i x)→cL c bs a m=cL d bs a m
 | 0,_=>rfl
 | m+1,h=>by
  simp only [cL]
  rw [lc bs a m fun i x hi=>h i x (by omega),h m _ (by omega)]
theorem io (m:Nat) (budget:Int):be m budget≤m:=by unfold be;split<;>omega
theorem Ar (f:Fl) (a m:Nat) (budget:Int) (b:List UInt8) (hm:b.length=m):ao f a m budget (lX b)=ao f a m budget (aC b):=by
 unfold ao
 rw [lc f.bs a (be m budget) (c:=lX b) (d:=aC b)]
 intro i x hi
 have:=io m budget
 unfold lX aC
 rw [if_neg (by omega)]
theorem As (f:Fl) (a m:Nat) (budget:Int):ao f a m budget (lX [])=ao f a m budget (fun _ _=>255):=by
 unfold ao
 rw [lc f.bs a (be m budget) (c:=lX []) (d:=fun _ _=>255)]
 intro i x hi
 rfl
theorem iT (ps:Int) (bs:List UInt8) (n:Nat) (page at_:Int) (b:List UInt8) (m:Nat) (budget:Int) (hn:bs.length=n) (hb:n<1000000000) (hm:b.length=m) (hmb:m<1000000000) (hB:i64 budget) :
 FPure Tryz.prog 191 [.agg [.i ps,.p (.data 1 n (bs.map bt))],.i page,.i at_,.p (.data 1 m (b.map bt)),.i budget] (uH (cy ⟨ps,bs⟩ page at_ b budget)):=by
 refine en Tryz.func191 Tryz.ntmps191 Tryz.results191 [0,1,2,3,4,5,10,11,12,13,21] ?_;intro c hP h0 hE kK
 simp only [go_sem,hP]
 refine aa kK (by exact yJ ps bs n page at_ m hn hb (by omega)) ?_
 simp only [go_sem,hP]
 split
 ·rename_i h
  rw [kT hm rfl h]
  simp only [fy,List.length_nil,List.map_nil,and_self]
 ·rename_i h
  have h:eo ⟨ps,bs⟩ page at_ m=0:=by omega
  have hv:bw ps n=0:=by
   by_cases hv:bw ps n=0
   ·exact hv
   ·have:=fW (f:=⟨ps,bs⟩) page at_ m (by rw [hn];exact hv)
    rw [h,hn] at this;exact absurd this.symm hv
  obtain⟨p,k,rfl,hp1,hp2,rfl,hk1,hk2⟩:=ep hv
  have hin:0≤page∧page<k∧0≤at_∧at_≤p-m:=by
   by_cases hx:0≤page∧page<k∧0≤at_∧at_≤p-m
   ·exact hx
   ·rw [hY hp1 hp2 hk1 hk2 hn hx] at h;cases h
  have hR:=lJ (budget:=budget) hm h
  obtain⟨q,rfl⟩:=Int.eq_ofNat_of_zero_le (show 0≤page by omega)
  obtain⟨a,rfl⟩:=Int.eq_ofNat_of_zero_le (show 0≤at_ by omega)
  have hle:=dX (p:=p) (show q<k by omega)
  have hqp:((q:Int)*(p:Int)+a).toNat=q*p+a:=by (have e:(q:Int)*(p:Int)=((q*p:Nat):Int):=by simp);rw [e];omega
  have hw:IntKind.i64.wrap (((q*p:Nat):Int)+(a:Int))=((q*p+a:Nat):Int):=by rw [ab (by omega) (by omega)];simp
  rw [gK q p (by omega),hw]
  simp only [hqp] at hR
  refine aa kK (by exact m4 p bs _ (q*p+a) m b m budget hn (by omega) hb hm (.inr rfl) hB) ?_
  rw [Ar _ _ _ _ _ hm]
  simp only [go_sem,hP]
  simp only [hR,and_self]
theorem p7 (ps:Int) (bs:List UInt8) (n:Nat) (page budget:Int) (hn:bs.length=n) (hb:n<1000000000) (hB:i64 budget) :
 FPure Tryz.prog 190 [.agg [.i ps,.p (.data 1 n (bs.map bt))],.i page,.i budget] (uH (df ⟨ps,bs⟩ page budget)):=by
 refine en Tryz.func190 Tryz.ntmps190 Tryz.results190 [0,1,2,3,6,7,8,9,14] ?_;intro c hP h0 hE kK
 simp only [go_sem,hP]
 refine aa kK (by exact yJ ps bs n page 0 0 hn hb (by omega)) ?_
 simp only [go_sem,hP]
 split
 ·rename_i h
  rw [jt rfl h]
  simp only [fy,List.length_nil,List.map_nil,and_self]
 ·rename_i h
  have h:eo ⟨ps,bs⟩ page 0 0=0:=by omega
  have hv:bw ps n=0:=by
   by_cases hv:bw ps n=0
   ·exact hv
   ·have:=fW (f:=⟨ps,bs⟩) page 0 0 (by rw [hn];exact hv)
    rw [h,hn] at this;exact absurd this.symm hv
  obtain⟨p,k,rfl,hp1,hp2,rfl,hk1,hk2⟩:=ep hv
  have hin:0≤page∧page<k∧0≤(0:Int)∧(0:Int)≤p-0:=by
   by_cases hx:0≤page∧page<k∧0≤(0:Int)∧(0:Int)≤p-0
   ·exact hx
   ·rw [hY hp1 hp2 hk1 hk2 hn hx] at h;cases h
  have hR:=mC (budget:=budget) h
  obtain⟨q,rfl⟩:=Int.eq_ofNat_of_zero_le (show 0≤page by omega)
  have hle:=dX (p:=p) (show q<k by omega)
  have hqp:((q:Int)*(p:Int)).toNat=q*p:=by (have e:(q:Int)*(p:Int)=((q*p:Nat):Int):=by simp);rw [e];omega
  rw [gK q p (by omega)]
  simp only [hqp,Int.toNat_natCast] at hR
  first|refine nV hE (ks:=[0,1,2,3,6,7,8,9,14]) (n:=2000) (by rw [hP];exact (m4 p bs _ (q*p) p [] 0 budget hn (by omega) hb rfl (.inl rfl) hB).nil (by simp only [go_sem])) ?_|refine nX hE (ks:=[0,1,2,3,6,7,8,9,14]) (n:=2000) (by rw [hP];exact (m4 p bs _ (q*p) p [] 0 budget hn (by omega) hb rfl (.inl rfl) hB).nil (by simp only [go_sem])) ?_
  rw [As]
  simp only [go_sem,hP]
  simp only [hR,and_self]
end Go.Proofs.YtebndjnkmcahaaaGreatDoor
end

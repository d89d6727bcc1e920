/- Contract of the reference's Put. Own work; no statement of the seat is proved here. -/
import Derived.Test.YtebndjnkmcahaaaGreatDoorVe
namespace Go.Proofs.YtebndjnkmcahaaaGreatDoor
set_option linter.unusedSimpArgs false
set_option linter.unusedVariables false
open Go Go.Abs Go.RowKit
def gE (seen:List Int):ag→Int
 | []=>0
 | p::l=>if p.1<0∨255<p.1 then 9 else if p.1∈seen then 10 else gE (seen++[p.1]) l
def cd (l:ag):Int:=if l=[] then 4 else if gE [] l≠0 then gE [] l else if 256<szM l then 8 else 0
def cj (v:Vt) (l:ag) (budget:Int):JR :=
 if (szM l:Int)≤eN v.j then cU v.j (aM l) budget else aL v.j (aI (bv v.prs l)) budget
def rputM (v:Vt) (l:ag) (budget:Int):VR :=
 if jQ v=false then bg v.j 18 else
 if cd l≠0 then bg v.j (cd l) else
 if v.j.ps<16+10*((bv v.prs l).length:Int)+(szM (bv v.prs l):Int) then bg v.j 12 else
 if (cj v l budget).err≠0 then bg (cj v l budget).j (cj v l budget).err
 else ⟨⟨(cj v l budget).j,aF (cj v l budget).j⟩,(cj v l budget).left,0⟩
theorem vR (p:Int×List UInt8):∀(d:Bool) (r:ag),szM (dl p d r)≤szM r+(if d then 0 else 3+p.2.length)
 | d,[]=>by simp only [dl];cases d<;>simp [szM]
 | d,q::r=>by
  have ih:=vR p (d||decide (q.1≥p.1)) r
  simp only [dl,ey,szM]
  cases d with
  | true =>
   simp only [Bool.true_or,if_true] at ih ⊢
   split<;>split<;>simp [szM] at * <;> omega
  | false =>
   by_cases h:q.1≥p.1
   ·simp only [h,decide_true,Bool.or_true,and_self,if_true,Bool.false_eq_true,if_false] at ih ⊢
    split<;>simp [szM] at * <;> omega
   ·simp only [h,decide_false,Bool.or_false,and_false,if_false,Bool.false_eq_true] at ih ⊢
    split<;>simp [szM] at * <;> omega
theorem Dq:∀(l old:ag),szM (bv old l)≤szM old+szM l:=by
 intro l
 unfold bv
 induction l with
 | nil=>intro old;simp [szM]
 | cons p l ih =>
  intro old
  rw [List.foldl_cons]
  have h1:=ih (dl p (decide (p.2.length=0)) old)
  have h2:=vR p (decide (p.2.length=0)) old
  simp only [szM]
  split at h2<;>omega
theorem yU {l:ag} {b:List UInt8} (hb:b∈aI l):b.length≤szM l:=by
 obtain⟨p,hp,rfl⟩:=List.mem_map.1 hb
 rw [bA]
 simp only [szM]
 induction l with
 | nil=>cases hp
 | cons q l ih =>
  simp only [szM]
  rcases List.mem_cons.1 hp with rfl|hp
  ·omega
  ·have:=ih hp (List.mem_map.2 ⟨p,hp,rfl⟩);omega
theorem vS (l:ag) (i:Nat) (h:i<l.length):l.drop i=l.getD i (0,[])::l.drop (i+1):=by
 rw [List.drop_eq_getElem_cons h];simp [List.getD_eq_getElem?_getD,h]
theorem rN (l:ag) (i:Nat) (h:i<l.length):(l.take (i+1)).map (·.1)=(l.take i).map (·.1)++[(l.getD i (0,[])).1]:=by
 rw [cX l i h];simp
theorem l9 {v:Vt} (h:¬jQ v=false):aE v.j=true∧v.prs=aF v.j:=by
 unfold jQ at h
 simpa using h
set_option maxHeartbeats 8000000 in
theorem ql (v:Vt) (n:Nat) (l:ag) (budget:Int) (hn:v.j.bs.length=n) (hb:n<1000000000) (hp:v.prs.length<1000000000) (hl:l.length<100000) (hls:∀x,x∈l→x.2.length<1000000) (hB:i64 budget) :
 FPure Tryz.prog 82 [.agg [.i v.j.ps,.p (.data 1 n (v.j.bs.map bt)),.i v.j.page,.i v.j.gen,.i v.j.tail,.b v.j.torn,.p (PL v.prs)],.p (PL l),.i budget] (xn (rputM v l budget)):=by
 refine en Tryz.func82 Tryz.ntmps82 Tryz.results82 [0,1,2,3,6,7,8,9,10,11,12,13,16,25,35,51,60,73,82,104,117,137] ?_;intro c hP h0 hE kK
 obtain⟨R,hR⟩:∃R,rputM v l budget=R:=⟨_,rfl⟩;rw [hR] at hE kK;(try rw [hR])
 unfold rputM at hR
 simp only [go_sem,hP]
 refine aa kK (by exact xo v n hn hb hp) ?_
 simp only [go_sem,hP]
 by_cases hg:jQ v=false
 ·rw [if_pos hg] at hR ⊢
  subst hR
  refine aa kK (by exact eg v.j n 18 hn) ?_
  generalize bg v.j 18=Y at *
  simp only [go_sem,hP]
  (try exact⟨⟨rfl,⟨rfl,rfl⟩,rfl,rfl,rfl,rfl,rfl,rfl⟩,rfl,rfl⟩)
 ·rw [if_neg hg] at hR ⊢
  obtain⟨hgj,hpr⟩:=l9 hg
  have hssz:=nc v.j
  have hsbd:=eE v.j
  rw [← hpr] at hssz hsbd
  have hlsz:szM l≤l.length*(3+1000000):=lj l 1000000 (fun x hx=>Nat.le_of_lt (hls x hx))
  have hlsz2:l.length*(3+1000000)≤100000*(3+1000000):=Nat.mul_le_mul_right _ (by omega)
  by_cases hl00:l=[]
  ·rw [if_pos (by rw [hl00];rfl)]
   have ha:cd l=4:=by unfold cd;rw [if_pos hl00]
   rw [ha,if_pos (by decide)] at hR
   subst hR
   refine aa kK (by exact eg v.j n 4 hn) ?_
   generalize bg v.j 4=Y at *
   simp only [go_sem,hP]
   (try exact⟨⟨rfl,⟨rfl,rfl⟩,rfl,rfl,rfl,rfl,rfl,rfl⟩,rfl,rfl⟩)
  ·have hl0:0<l.length:=List.length_pos_iff.2 hl00
   rw [if_neg (by omega)]
   have hadm:cd l=if gE [] l≠0 then gE [] l else if 256<szM l then 8 else 0:=by unfold cd;rw [if_neg hl00]
   refine bo hE h0 [0,1,2,3,6,7,8,9,10,11,12,13,16,25,35,51,60,73,82,104,117,137] (α:={ i:Nat // i≤l.length∧gE [] l=gE ((l.take i).map (·.1)) (l.drop i) }) (fun i=>⟨149,[(1,.p (PL l)),(2,.i budget),(3,.ptr 0 0),(6,.ptr 1 0),(7,.i 0),(8,.i 0),(9,.i i.1)],
    [(1,some ⟨37,[.i 0,.p (.v (.slice none 0 0)),.i 0,.i 0,.i 0,.b false,.p (.v (.slice none 0 0))]⟩),(0,some ⟨37,[.i v.j.ps,.p (.data 1 n (v.j.bs.map bt)),.i v.j.page,.i v.j.gen,.i v.j.tail,.b v.j.torn,.p (PL v.prs)]⟩)],2⟩) (fun i=>l.length-i.1) ⟨0,Nat.zero_le _,by simp⟩ [] (fun i=>i) ?_ ?_
   ·refine⟨rfl,?_,?_,rfl,rfl,trivial,fun i h=>h⟩
    ·simp only [go_sem]
    ·simp only [go_sem]
   ·rintro⟨i,hi,hdup⟩
    rcases Nat.lt_or_ge i l.length with hin|hin
    ·have hc:((i:Int)<(l.length:Int)):=by omega
     have hat:=cW l i hin
     have hkt:=rN l i hin
     rw [vS l i hin] at hdup
     simp only [gE] at hdup
     generalize l.getD i (0,[])=p at *
     have hw:IntKind.i64.wrap ((i:Int)+1)=((i+1:Nat):Int):=by rw [ab (by omega) (by omega)];omega
     simp only [go_sem,hP,hat,hc,byP,hw]
     refine⟨by omega,?_⟩
     by_cases hr:p.1<0∨255<p.1
     ·rw [if_pos hr] at hdup
      have ha:cd l=9:=by rw [hadm,hdup];rfl
      rw [ha,if_pos (by decide)] at hR
      subst hR
      by_cases hneg:p.1<0
      ·rw [if_neg (fun h=>h hneg)]
       refine aa kK (by exact eg v.j n 9 hn) ?_
       generalize bg v.j 9=Y at *
       simp only [go_sem,hP]
       (try exact⟨⟨rfl,⟨rfl,rfl⟩,rfl,rfl,rfl,rfl,rfl,rfl⟩,rfl,rfl⟩)
      ·rw [if_pos hneg]
       refine⟨by omega,?_⟩
       rw [if_pos (by omega)]
       refine aa kK (by exact eg v.j n 9 hn) ?_
       generalize bg v.j 9=Y at *
       simp only [go_sem,hP]
       (try exact⟨⟨rfl,⟨rfl,rfl⟩,rfl,rfl,rfl,rfl,rfl,rfl⟩,rfl,rfl⟩)
     ·rw [if_neg hr] at hdup
      rw [if_pos (by omega)]
      refine⟨by omega,?_⟩
      rw [if_neg (by omega)]
      refine bo hE h0 [0,1,2,3,6,7,8,9,10,11,12,13,16,25,35,51,60,73,82,104,117,137] (α:={ k:Nat // k≤i∧∀x,x∈l.take k→x.1≠p.1 }) (fun k=>⟨149,[(1,.p (PL l)),(2,.i budget),(3,.ptr 0 0),(6,.ptr 1 0),(7,.i 0),(8,.i 0),(9,.i i),(10,.i k.1)],
       [(1,some ⟨37,[.i 0,.p (.v (.slice none 0 0)),.i 0,.i 0,.i 0,.b false,.p (.v (.slice none 0 0))]⟩),(0,some ⟨37,[.i v.j.ps,.p (.data 1 n (v.j.bs.map bt)),.i v.j.page,.i v.j.gen,.i v.j.tail,.b v.j.torn,.p (PL v.prs)]⟩)],2⟩) (fun k=>i-k.1) ⟨0,Nat.zero_le _,by simp⟩ [] (fun i=>i) ?_ ?_
      ·refine⟨rfl,?_,?_,rfl,rfl,trivial,fun i h=>h⟩
       ·simp only [go_sem]
       ·simp only [go_sem]
      ·rintro⟨k,hk,hno⟩
       rcases Nat.lt_or_ge k i with hki|hki
       ·have hc2:((k:Int)<(i:Int)):=by omega
        have hc3:((k:Int)<(l.length:Int)):=by omega
        have hat2:=cW l k (by omega)
        have hta:=cX l k (by omega)
        have hmem:l.getD k (0,[])∈l.take i:=by
         rw [show l.getD k (0,[])=(l.take i)[k]'(by simp;omega) from by simp [List.getD_eq_getElem?_getD,show k<l.length by omega]]
         exact List.getElem_mem _
        generalize l.getD k (0,[])=q at *
        have hw2:IntKind.i64.wrap ((k:Int)+1)=((k+1:Nat):Int):=by rw [ab (by omega) (by omega)];omega
        simp only [go_sem,hP,hat,hat2,hc,hc2,hc3,byP,hw2]
        refine⟨by omega,by omega,by kernel_rfl,?_⟩
        by_cases he:q.1=p.1
        ·rw [if_pos he]
         have hin2:p.1∈(l.take i).map (·.1):=by rw [← he];exact List.mem_map.2 ⟨q,hmem,rfl⟩
         rw [if_pos hin2] at hdup
         have ha:cd l=10:=by rw [hadm,hdup];rfl
         rw [ha,if_pos (by decide)] at hR
         subst hR
         refine aa kK (by exact eg v.j n 10 hn) ?_
         generalize bg v.j 10=Y at *
         simp only [go_sem,hP]
         (try exact⟨⟨rfl,⟨rfl,rfl⟩,rfl,rfl,rfl,rfl,rfl,rfl⟩,rfl,rfl⟩)
        ·rw [if_neg he]
         refine⟨⟨k+1,by omega,?_⟩,by show i-(k+1)<i-k;omega,dp rfl ?_ ?_ rfl rfl (Nat.le_refl _)⟩
         ·intro x hx
          rw [hta] at hx
          rcases List.mem_append.1 hx with hx|hx
          ·exact hno x hx
          ·simp at hx;rw [hx];exact he
         ·simp only [go_sem]
         ·simp only [go_sem]
       ·obtain rfl:k=i:=by omega
        have hnc:¬((k:Int)<(k:Int)):=by omega
        have hnin:¬p.1∈(l.take k).map (·.1):=fun h=>by
         obtain⟨x,hx,hxe⟩:=List.mem_map.1 h
         exact hno x hx hxe
        rw [if_neg hnin,←hkt] at hdup
        simp only [go_sem,hP,hnc,hw]
        refine⟨⟨k+1,by omega,hdup⟩,by show l.length-(k+1)<l.length-k;omega,dp rfl ?_ ?_ rfl rfl (Nat.le_refl _)⟩
        ·simp only [go_sem]
        ·simp only [go_sem]
    ·obtain rfl:i=l.length:=by omega
     have hnc:¬((l.length:Int)<(l.length:Int)):=by omega
     rw [List.drop_eq_nil_of_le (Nat.le_refl _)] at hdup
     simp only [gE] at hdup
     rw [hdup] at hadm
     simp only [ne_eq,not_true_eq_false,if_false] at hadm
     simp only [go_sem,hP,hnc]
     refine aa kK (by exact tG l (by omega)) ?_
     simp only [go_sem,hP]
     by_cases h256:256<szM l
     ·rw [if_pos (by omega)]
      rw [if_pos h256] at hadm
      rw [hadm,if_pos (by decide)] at hR
      subst hR
      refine aa kK (by exact eg v.j n 8 hn) ?_
      generalize bg v.j 8=Y at *
      simp only [go_sem,hP]
      (try exact⟨⟨rfl,⟨rfl,rfl⟩,rfl,rfl,rfl,rfl,rfl,rfl⟩,rfl,rfl⟩)
     ·rw [if_neg (by omega)]
      rw [if_neg h256] at hadm
      rw [hadm,if_neg (fun h=>h rfl)] at hR
      have hwl:=rK v.prs l
      have hws:=Dq l v.prs
      refine aa kK (by exact yS v.prs l (by omega)) ?_
      unfold cj at hR
      generalize hwm:bv v.prs l=now at *
      simp only [go_sem,hP]
      refine aa kK (by exact tG now (by omega)) ?_
      simp only [go_sem,hP]
      have hps:=ea hgj
      obtain⟨pp,kk,qq,e1,e2,e3,-⟩:=bF hgj
      rw [ab (n:=10*((List.length now:Nat):Int)) (by omega) (by omega),ab (n:=16+10*((List.length now:Nat):Int)) (by omega) (by omega),ab (n:=16+10*((List.length now:Nat):Int)+((szM now:Nat):Int)) (by omega) (by omega)]
      refine⟨by kernel_rfl,?_⟩
      by_cases hfull:v.j.ps<16+10*((List.length now:Nat):Int)+((szM now:Nat):Int)
      ·rw [if_pos (by omega)]
       rw [if_pos hfull] at hR
       subst hR
       refine aa kK (by exact eg v.j n 12 hn) ?_
       generalize bg v.j 12=Y at *
       simp only [go_sem,hP]
       (try exact⟨⟨rfl,⟨rfl,rfl⟩,rfl,rfl,rfl,rfl,rfl,rfl⟩,rfl,rfl⟩)
      ·rw [if_neg (by omega)]
       rw [if_neg hfull] at hR
       refine aa kK (by exact tG l (by omega)) ?_
       simp only [go_sem,hP]
       refine aa kK (by exact yK v.j n hn hb) ?_
       simp only [go_sem,hP]
       refine⟨by kernel_rfl,?_⟩
       by_cases hroom:((szM l:Nat):Int)≤eN v.j
       ·rw [if_pos hroom] at hR ⊢
        refine aa kK (by exact rJ l (by omega)) ?_
        have hpl:=bA l
        have hxl:=jE v.j (aM l) budget hB (by omega) (by omega)
        simp only [go_sem,hP]
        refine aa kK (by exact Au v.j n (aM l) _ budget hn hb hpl (by omega) hB) ?_
        generalize cU v.j (aM l) budget=X at *
        simp only [go_sem,hP]
        refine⟨by kernel_rfl,?_⟩
        by_cases hx:X.err=0
        ·rw [if_neg (fun h=>h hx)] at hR ⊢
         refine aa kK (by exact ir X.j _ rfl (by omega)) ?_
         simp only [go_sem,hP]
         subst hR
         exact⟨by kernel_rfl,⟨rfl,⟨rfl,rfl⟩,rfl,rfl,rfl,rfl,rfl,rfl⟩,rfl,rfl⟩
        ·rw [if_pos hx] at hR ⊢
         subst hR
         refine aa kK (by exact eg X.j _ X.err rfl) ?_
         generalize bg X.j X.err=Y at *
         simp only [go_sem,hP]
         (try exact⟨⟨rfl,⟨rfl,rfl⟩,rfl,rfl,rfl,rfl,rfl,rfl⟩,rfl,rfl⟩)
       ·rw [if_neg hroom] at hR ⊢
        refine aa kK (by exact tH now (by omega)) ?_
        have hel:∀b,b∈aI now→b.length<1000000:=fun b hb=>by
         have:=yU hb
         omega
        have hxl:=cT v.j (aI now) budget hB (by omega) hel
        simp only [go_sem,hP]
        refine aa kK (by exact lg v.j n (aI now) _ budget hn hb (iu now) (by omega) hel hB) ?_
        generalize aL v.j (aI now) budget=X at *
        simp only [go_sem,hP]
        refine⟨by kernel_rfl,?_⟩
        by_cases hx:X.err=0
        ·rw [if_neg (fun h=>h hx)] at hR ⊢
         refine aa kK (by exact ir X.j _ rfl (by omega)) ?_
         simp only [go_sem,hP]
         subst hR
         exact⟨by kernel_rfl,⟨rfl,⟨rfl,rfl⟩,rfl,rfl,rfl,rfl,rfl,rfl⟩,rfl,rfl⟩
        ·rw [if_pos hx] at hR ⊢
         subst hR
         refine aa kK (by exact eg X.j _ X.err rfl) ?_
         generalize bg X.j X.err=Y at *
         simp only [go_sem,hP]
         (try exact⟨⟨rfl,⟨rfl,rfl⟩,rfl,rfl,rfl,rfl,rfl,rfl⟩,rfl,rfl⟩)
end Go.Proofs.YtebndjnkmcahaaaGreatDoor

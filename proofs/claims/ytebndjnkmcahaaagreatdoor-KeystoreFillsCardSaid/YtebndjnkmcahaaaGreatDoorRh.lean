/- joined of several texts; own work; no statement of the seat is proved but in the last -/
import Derived.Test.YtebndjnkmcahaaaGreatDoorRf
section
namespace Go.Proofs.YtebndjnkmcahaaaGreatDoor
set_option linter.unusedSimpArgs false
set_option linter.unusedVariables false
open Go Go.Abs Go.RowKit
theorem lY (ps:Int) (bs:List UInt8) (p k n q:Nat) (qi:Int) (hps:ps=p) (hqi:qi=q) (hl:bs.length=n) (hn:n=p*k) (hq:q<k) (hk:k≤8) (hp1:512≤p) (hp:p≤8192) :
 FPure Tryz.prog 187 [.agg [.i ps,.p (.data 1 n (bs.map bt))],.i qi] (.i (aN (pgM ⟨ps,bs⟩ q))):=by
 subst hps hqi
 have hb:p*k≤8192*8:=Nat.mul_le_mul hp hk
 have:=tB p k q n bs hn hl (by omega) hq hk hp1 (by omega)
 simpa only [pgM,Int.toNat_natCast] using this
theorem tD (ps:Int) (bs:List UInt8) (p k n q:Nat) (qi:Int) (g:UInt64) (gi:Int) (hg:IntKind.u64.wrap gi=g.toNat) (hps:ps=p) (hqi:qi=q) (hl:bs.length=n) (hn:n=p*k) (hq:q<k) (hk:k≤8) (hp1:512≤p) (hp:p≤8192) :
 FPure Tryz.prog 188 [.agg [.i ps,.p (.data 1 n (bs.map bt))],.i qi,.i gi] (.tup [.p (.data 1 (ci (pgM ⟨ps,bs⟩ q) g).1.length ((ci (pgM ⟨ps,bs⟩ q) g).1.map byP)),.i (ci (pgM ⟨ps,bs⟩ q) g).2]):=by
 subst hps hqi
 have hb:p*k≤8192*8:=Nat.mul_le_mul hp hk
 have:=IC p k q n bs hn hl (by omega) hq hk hp1 (by omega) g gi hg
 simpa only [pgM,Int.toNat_natCast] using this
theorem p8 (pg:List UInt8) (t i:Nat) (hi:t+i<pg.length):(((pg.drop t).take (i+1)).all (·==255))=((((pg.drop t).take i).all (·==255))&&(pg.getD (t+i) 0==255)):=by
 rw [List.take_succ_eq_append_getElem (by simp;omega),List.all_append]
 simp [List.getD_eq_getElem?_getD,hi]
set_option maxHeartbeats 4000000 in
theorem p9 (ps:Int) (bs:List UInt8) (n:Nat) (hn:bs.length=n) (hb:n<1000000000):FPure Tryz.prog 134 [.agg [.i ps,.p (.data 1 n (bs.map bt))]] (Es (mountM ⟨ps,bs⟩)):=by
 refine en Tryz.func134 Tryz.ntmps134 Tryz.results134 [0,1,2,3,4,5,6,7,8,12,21,32,44,63] ?_;intro c hP h0 hE kK
 simp only [go_sem,hP]
 refine aa kK (by exact jL ps n _ hb) ?_
 simp only [go_sem,hP]
 obtain⟨R,hR⟩:∃R,mountM ⟨ps,bs⟩=R:=⟨_,rfl⟩;rw [hR] at hE kK;(try rw [hR])
 unfold mountM at hR
 split
 ·rename_i h
  have hx:cB ⟨ps,bs⟩=bw ps n:=by unfold cB;simp only [hn];rw [if_pos h]
  rw [hx,if_pos h] at hR
  subst hR
  simp only [jn0,List.length_nil,List.map_nil,and_self]
 ·rename_i h
  obtain⟨p,k,hp,hp1,hp2,hnk,hk1,hk2⟩:=ep (show bw ps n=0 by omega)
  (try go_unwrap)
  split
  ·have hx:cB ⟨ps,bs⟩=4:=by unfold cB;simp only [hn];rw [if_neg h,if_pos (by omega)]
   rw [hx,if_pos (by decide)] at hR
   subst hR
   simp only [jn0,List.length_nil,List.map_nil,and_self]
  ·have hx:cB ⟨ps,bs⟩=0:=by unfold cB;simp only [hn];rw [if_neg h,if_neg (by omega)]
   rw [hx,if_neg (by decide)] at hR
   have hk3:2≤k:=by
    rcases Nat.lt_or_ge k 2 with h7|h7
    ·obtain rfl:k=1:=by omega
     omega
    ·exact h7
   refine aa kK (by exact lY ps bs p k n 0 0 hp rfl hn hnk (by omega) hk2 hp1 hp2) ?_
   simp only [go_sem,hP]
   refine aa kK (by exact lY ps bs p k n 1 1 hp rfl hn hnk (by omega) hk2 hp1 hp2) ?_
   simp only [go_sem,hP]
   refine⟨by kernel_rfl,?_⟩
   have r0:=ez (pgM ⟨ps,bs⟩ 0)
   have r1:=ez (pgM ⟨ps,bs⟩ 1)
   have hbk:p*k≤8192*8:=Nat.mul_le_mul hp2 hk2
   split
   ·rename_i ha
    split
    ·rename_i hb0
     rw [if_neg (by omega),if_pos ha] at hR
     subst hR
     simp only [jn0,List.length_nil,List.map_nil,and_self]
    ·rename_i hb0
     refine⟨⟨by omega,by omega⟩,by kernel_rfl,?_⟩
     rw [if_pos (by omega)] at hR ⊢
     refine aa kK (by exact tD ps bs p k n 1 1 (UInt64.ofNat (aN (pgM ⟨ps,bs⟩ 1)).toNat) _ (dZ _ (by omega) (by omega)) hp rfl hn hnk (by omega) hk2 hp1 hp2) ?_
     have hpl:(pgM ⟨ps,bs⟩ 1).length=p:=dY hp (hn.trans hnk) (by omega)
     have hs:=fz (pgM ⟨ps,bs⟩ 1) (UInt64.ofNat (aN (pgM ⟨ps,bs⟩ 1)).toNat) (by omega)
     have hma:bZ ⟨ps,bs⟩ 1 (aN (pgM ⟨ps,bs⟩ 1))=⟨ps,bs,(1:Nat),aN (pgM ⟨ps,bs⟩ 1),((ci (pgM ⟨ps,bs⟩ 1) (UInt64.ofNat (aN (pgM ⟨ps,bs⟩ 1)).toNat)).2:Nat),!((pgM ⟨ps,bs⟩ 1).drop (ci (pgM ⟨ps,bs⟩ 1) (UInt64.ofNat (aN (pgM ⟨ps,bs⟩ 1)).toNat)).2).all (·==255)⟩:=rfl
     generalize ci (pgM ⟨ps,bs⟩ 1) (UInt64.ofNat (aN (pgM ⟨ps,bs⟩ 1)).toNat)=T at *
     simp only [go_sem,hP,cI]
     generalize hG:aN (pgM ⟨ps,bs⟩ 1)=G at *
     have hget:∀i,i<p→(pgM ⟨ps,bs⟩ 1).getD i 0=bs.getD (1*p+i) 0:=by
      intro i hi
      unfold pgM
      simp only [hp,Int.toNat_natCast,List.getD_eq_getElem?_getD,List.getElem?_take,if_pos hi,List.getElem?_drop]
     have hle:=dX (p:=p) (show 1<k by omega)
     refine ay hE h0 [0,1,2,3,4,5,6,7,8,12,21,32,44,63] (p-T.2) (fun d=>⟨84,[(1,.ptr 0 0),(2,.ptr 1 0),(7,.ptr 3 0),(8,.i ((T.2+d:Nat):Int))],
      [(3,some ⟨34,[.i ps,.sl 2 0 n 1,.i 1,.i G,.i T.2,.b (!((((pgM ⟨ps,bs⟩ 1).drop T.2).take d).all (·==255)))]⟩),(2,some ⟨a7,cb bs⟩),(1,some ⟨34,[.i 0,.p (.v (.slice none 0 0)),.i 0,.i 0,.i 0,.b false]⟩),(0,some ⟨32,[.i ps,.p (.data 1 n (bs.map bt))]⟩)],4⟩) [] (fun i=>i) ?_ ?_
     ·refine⟨rfl,?_,?_,rfl,rfl,trivial,fun i h=>h⟩
      ·simp only [go_sem]
      ·simp only [go_sem,List.take_zero,List.all_nil,Bool.not_true]
       exact aj _ _ _ _
     ·intro d hd
      have hst:=p8 (pgM ⟨ps,bs⟩ 1) T.2 d
      generalize hU:(((pgM ⟨ps,bs⟩ 1).drop T.2).take d).all (·==255)=U at *
      have e1:IntKind.i64.wrap (1*ps)=((1*p:Nat):Int):=by rw [hp,ab (by omega) (by omega)];omega
      have e2:d<p-T.2→IntKind.i64.wrap (((1*p:Nat):Int)+((T.2+d:Nat):Int))=((1*p+(T.2+d):Nat):Int):=fun h=>by rw [ab (by omega) (by omega)];omega
      have e255:∀x:UInt8,((x.toNat:Int) != 255) = !(x==255):=fun x=>by
       have:((x.toNat:Int)=255)↔x=255:=by rw [← UInt8.toNat_inj];simp;omega
       rw [Bool.eq_iff_iff];simp [this]
      by_cases hdl:d<p-T.2
      ·have hst:=hst (by omega)
       rw [hget _ (by omega)] at hst
       simp only [go_sem,hP,e1,e2 hdl,e255]
       rw [if_pos (by omega),ab (by omega) (by omega)]
       cases U
       ·rw [if_neg (by decide)]
        refine⟨hdl,dp rfl ?_ ?_ rfl rfl (Nat.le_refl _)⟩
        ·simp only [go_sem];omega
        ·simp only [go_sem,hst,Bool.false_and,Bool.not_false]
         exact aj _ _ _ _
       ·rw [if_pos rfl]
        refine⟨⟨by omega,by omega⟩,by omega,hdl,dp rfl ?_ ?_ rfl rfl (Nat.le_refl _)⟩
        ·simp only [go_sem];omega
        ·simp only [go_sem,hst,Bool.true_and]
         exact aj _ _ _ _
      ·obtain rfl:d=p-T.2:=by omega
       rw [List.take_of_length_le (by simp;omega)] at hU
       simp only [go_sem,hP]
       rw [if_neg (by omega)]
       rw [hma,hU] at hR
       subst hR
       simp only [hn,List.take_of_length_le (Nat.le_of_eq hn),and_self,Nat.le_refl,true_and]
       first|rfl|trivial|exact⟨⟨rfl,trivial⟩,trivial⟩|exact⟨rfl,trivial⟩
   ·rename_i ha
    refine⟨⟨by omega,by omega⟩,by kernel_rfl,?_⟩
    split
    ·rw [if_pos ‹_›] at hR
     refine aa kK (by exact tD ps bs p k n 1 1 (UInt64.ofNat (aN (pgM ⟨ps,bs⟩ 1)).toNat) _ (dZ _ (by omega) (by omega)) hp rfl hn hnk (by omega) hk2 hp1 hp2) ?_
     have hpl:(pgM ⟨ps,bs⟩ 1).length=p:=dY hp (hn.trans hnk) (by omega)
     have hs:=fz (pgM ⟨ps,bs⟩ 1) (UInt64.ofNat (aN (pgM ⟨ps,bs⟩ 1)).toNat) (by omega)
     have hma:bZ ⟨ps,bs⟩ 1 (aN (pgM ⟨ps,bs⟩ 1))=⟨ps,bs,(1:Nat),aN (pgM ⟨ps,bs⟩ 1),((ci (pgM ⟨ps,bs⟩ 1) (UInt64.ofNat (aN (pgM ⟨ps,bs⟩ 1)).toNat)).2:Nat),!((pgM ⟨ps,bs⟩ 1).drop (ci (pgM ⟨ps,bs⟩ 1) (UInt64.ofNat (aN (pgM ⟨ps,bs⟩ 1)).toNat)).2).all (·==255)⟩:=rfl
     generalize ci (pgM ⟨ps,bs⟩ 1) (UInt64.ofNat (aN (pgM ⟨ps,bs⟩ 1)).toNat)=T at *
     simp only [go_sem,hP,cI]
     generalize hG:aN (pgM ⟨ps,bs⟩ 1)=G at *
     have hget:∀i,i<p→(pgM ⟨ps,bs⟩ 1).getD i 0=bs.getD (1*p+i) 0:=by
      intro i hi
      unfold pgM
      simp only [hp,Int.toNat_natCast,List.getD_eq_getElem?_getD,List.getElem?_take,if_pos hi,List.getElem?_drop]
     have hle:=dX (p:=p) (show 1<k by omega)
     refine ay hE h0 [0,1,2,3,4,5,6,7,8,12,21,32,44,63] (p-T.2) (fun d=>⟨84,[(1,.ptr 0 0),(2,.ptr 1 0),(7,.ptr 3 0),(8,.i ((T.2+d:Nat):Int))],
      [(3,some ⟨34,[.i ps,.sl 2 0 n 1,.i 1,.i G,.i T.2,.b (!((((pgM ⟨ps,bs⟩ 1).drop T.2).take d).all (·==255)))]⟩),(2,some ⟨a7,cb bs⟩),(1,some ⟨34,[.i 0,.p (.v (.slice none 0 0)),.i 0,.i 0,.i 0,.b false]⟩),(0,some ⟨32,[.i ps,.p (.data 1 n (bs.map bt))]⟩)],4⟩) [] (fun i=>i) ?_ ?_
     ·refine⟨rfl,?_,?_,rfl,rfl,trivial,fun i h=>h⟩
      ·simp only [go_sem]
      ·simp only [go_sem,List.take_zero,List.all_nil,Bool.not_true]
       exact aj _ _ _ _
     ·intro d hd
      have hst:=p8 (pgM ⟨ps,bs⟩ 1) T.2 d
      generalize hU:(((pgM ⟨ps,bs⟩ 1).drop T.2).take d).all (·==255)=U at *
      have e1:IntKind.i64.wrap (1*ps)=((1*p:Nat):Int):=by rw [hp,ab (by omega) (by omega)];omega
      have e2:d<p-T.2→IntKind.i64.wrap (((1*p:Nat):Int)+((T.2+d:Nat):Int))=((1*p+(T.2+d):Nat):Int):=fun h=>by rw [ab (by omega) (by omega)];omega
      have e255:∀x:UInt8,((x.toNat:Int) != 255) = !(x==255):=fun x=>by
       have:((x.toNat:Int)=255)↔x=255:=by rw [← UInt8.toNat_inj];simp;omega
       rw [Bool.eq_iff_iff];simp [this]
      by_cases hdl:d<p-T.2
      ·have hst:=hst (by omega)
       rw [hget _ (by omega)] at hst
       simp only [go_sem,hP,e1,e2 hdl,e255]
       rw [if_pos (by omega),ab (by omega) (by omega)]
       cases U
       ·rw [if_neg (by decide)]
        refine⟨hdl,dp rfl ?_ ?_ rfl rfl (Nat.le_refl _)⟩
        ·simp only [go_sem];omega
        ·simp only [go_sem,hst,Bool.false_and,Bool.not_false]
         exact aj _ _ _ _
       ·rw [if_pos rfl]
        refine⟨⟨by omega,by omega⟩,by omega,hdl,dp rfl ?_ ?_ rfl rfl (Nat.le_refl _)⟩
        ·simp only [go_sem];omega
        ·simp only [go_sem,hst,Bool.true_and]
         exact aj _ _ _ _
      ·obtain rfl:d=p-T.2:=by omega
       rw [List.take_of_length_le (by simp;omega)] at hU
       simp only [go_sem,hP]
       rw [if_neg (by omega)]
       rw [hma,hU] at hR
       subst hR
       simp only [hn,List.take_of_length_le (Nat.le_of_eq hn),and_self,Nat.le_refl,true_and]
       first|rfl|trivial|exact⟨⟨rfl,trivial⟩,trivial⟩|exact⟨rfl,trivial⟩
    ·rw [if_neg ‹_›,if_neg ha] at hR
     refine aa kK (by exact tD ps bs p k n 0 0 (UInt64.ofNat (aN (pgM ⟨ps,bs⟩ 0)).toNat) _ (dZ _ (by omega) (by omega)) hp rfl hn hnk (by omega) hk2 hp1 hp2) ?_
     have hpl:(pgM ⟨ps,bs⟩ 0).length=p:=dY hp (hn.trans hnk) (by omega)
     have hs:=fz (pgM ⟨ps,bs⟩ 0) (UInt64.ofNat (aN (pgM ⟨ps,bs⟩ 0)).toNat) (by omega)
     have hma:bZ ⟨ps,bs⟩ 0 (aN (pgM ⟨ps,bs⟩ 0))=⟨ps,bs,(0:Nat),aN (pgM ⟨ps,bs⟩ 0),((ci (pgM ⟨ps,bs⟩ 0) (UInt64.ofNat (aN (pgM ⟨ps,bs⟩ 0)).toNat)).2:Nat),!((pgM ⟨ps,bs⟩ 0).drop (ci (pgM ⟨ps,bs⟩ 0) (UInt64.ofNat (aN (pgM ⟨ps,bs⟩ 0)).toNat)).2).all (·==255)⟩:=rfl
     generalize ci (pgM ⟨ps,bs⟩ 0) (UInt64.ofNat (aN (pgM ⟨ps,bs⟩ 0)).toNat)=T at *
     simp only [go_sem,hP,cI]
     generalize hG:aN (pgM ⟨ps,bs⟩ 0)=G at *
     have hget:∀i,i<p→(pgM ⟨ps,bs⟩ 0).getD i 0=bs.getD (0*p+i) 0:=by
      intro i hi
      unfold pgM
      simp only [hp,Int.toNat_natCast,List.getD_eq_getElem?_getD,List.getElem?_take,if_pos hi,List.getElem?_drop]
     have hle:=dX (p:=p) (show 0<k by omega)
     refine ay hE h0 [0,1,2,3,4,5,6,7,8,12,21,32,44,63] (p-T.2) (fun d=>⟨84,[(1,.ptr 0 0),(2,.ptr 1 0),(7,.ptr 3 0),(8,.i ((T.2+d:Nat):Int))],
      [(3,some ⟨34,[.i ps,.sl 2 0 n 1,.i 0,.i G,.i T.2,.b (!((((pgM ⟨ps,bs⟩ 0).drop T.2).take d).all (·==255)))]⟩),(2,some ⟨a7,cb bs⟩),(1,some ⟨34,[.i 0,.p (.v (.slice none 0 0)),.i 0,.i 0,.i 0,.b false]⟩),(0,some ⟨32,[.i ps,.p (.data 1 n (bs.map bt))]⟩)],4⟩) [] (fun i=>i) ?_ ?_
     ·refine⟨rfl,?_,?_,rfl,rfl,trivial,fun i h=>h⟩
      ·simp only [go_sem]
      ·simp only [go_sem,List.take_zero,List.all_nil,Bool.not_true]
       exact aj _ _ _ _
     ·intro d hd
      have hst:=p8 (pgM ⟨ps,bs⟩ 0) T.2 d
      generalize hU:(((pgM ⟨ps,bs⟩ 0).drop T.2).take d).all (·==255)=U at *
      have e1:IntKind.i64.wrap (0*ps)=((0*p:Nat):Int):=by rw [hp,ab (by omega) (by omega)];omega
      have e2:d<p-T.2→IntKind.i64.wrap (((0*p:Nat):Int)+((T.2+d:Nat):Int))=((0*p+(T.2+d):Nat):Int):=fun h=>by rw [ab (by omega) (by omega)];omega
      have e255:∀x:UInt8,((x.toNat:Int) != 255) = !(x==255):=fun x=>by
       have:((x.toNat:Int)=255)↔x=255:=by rw [← UInt8.toNat_inj];simp;omega
       rw [Bool.eq_iff_iff];simp [this]
      by_cases hdl:d<p-T.2
      ·have hst:=hst (by omega)
       rw [hget _ (by omega)] at hst
       simp only [go_sem,hP,e1,e2 hdl,e255]
       rw [if_pos (by omega),ab (by omega) (by omega)]
       cases U
       ·rw [if_neg (by decide)]
        refine⟨hdl,dp rfl ?_ ?_ rfl rfl (Nat.le_refl _)⟩
        ·simp only [go_sem];omega
        ·simp only [go_sem,hst,Bool.false_and,Bool.not_false]
         exact aj _ _ _ _
       ·rw [if_pos rfl]
        refine⟨⟨by omega,by omega⟩,by omega,hdl,dp rfl ?_ ?_ rfl rfl (Nat.le_refl _)⟩
        ·simp only [go_sem];omega
        ·simp only [go_sem,hst,Bool.true_and]
         exact aj _ _ _ _
      ·obtain rfl:d=p-T.2:=by omega
       rw [List.take_of_length_le (by simp;omega)] at hU
       simp only [go_sem,hP]
       rw [if_neg (by omega)]
       rw [hma,hU] at hR
       subst hR
       simp only [hn,List.take_of_length_le (Nat.le_of_eq hn),and_self,Nat.le_refl,true_and]
       first|rfl|trivial|exact⟨⟨rfl,trivial⟩,trivial⟩|exact⟨rfl,trivial⟩
end Go.Proofs.YtebndjnkmcahaaaGreatDoor
end
section
namespace Go.Proofs.YtebndjnkmcahaaaGreatDoor
set_option linter.unusedSimpArgs false
set_option linter.unusedVariables false
open Go Go.Abs Go.RowKit
theorem vG (p1 p2:Int) (b1 b2:List UInt8) (n1 n2:Nat):FPure Tryz.prog 133 [.agg [.i p1,.p (.data 1 n1 (b1.map bt))],.agg [.i p2,.p (.data 1 n2 (b2.map bt))]] (.b (p1==p2&&b1==b2)):=by
 refine en Tryz.func133 Tryz.ntmps133 Tryz.results133 [0,1,2,3,4] ?_;intro c hP h0 hE kK
 simp only [go_sem,hP,dI,strOf,dc,fZ]
 split
 ·rename_i h;subst h;simp
 ·rename_i h;simp [h]
def lZ (a b:Jn):Bool:=a.ps==b.ps&&a.bs==b.bs&&a.page==b.page&&a.gen==b.gen&&a.tail==b.tail&&a.torn==b.torn
theorem kF (a b:Jn) (n1 n2:Nat):FPure Tryz.prog 76 [.agg [.i a.ps,.p (.data 1 n1 (a.bs.map bt)),.i a.page,.i a.gen,.i a.tail,.b a.torn],.agg [.i b.ps,.p (.data 1 n2 (b.bs.map bt)),.i b.page,.i b.gen,.i b.tail,.b b.torn]] (.b (lZ a b)):=by
 refine en Tryz.func76 Tryz.ntmps76 Tryz.results76 [0,1,2,3,4] ?_;intro c hP h0 hE kK
 simp only [go_sem,hP]
 refine aa kK (by exact vG a.ps b.ps a.bs b.bs n1 n2) ?_
 simp only [go_sem,hP]
 unfold lZ
 generalize (a.ps==b.ps&&a.bs==b.bs)=u
 by_cases h2:a.page=b.page<;>by_cases h3:a.gen=b.gen<;>by_cases h4:a.tail=b.tail<;>cases u<;>simp [h2,h3,h4]
theorem At (a b:Jn):lZ a b=true↔a=b:=by
 unfold lZ
 obtain⟨a1,a2,a3,a4,a5,a6⟩:=a
 obtain⟨b1,b2,b3,b4,b5,b6⟩:=b
 simp only [Bool.and_eq_true,beq_iff_eq,Jn.mk.injEq]
 constructor
 ·rintro⟨⟨⟨⟨⟨h1,h2⟩,h3⟩,h4⟩,h5⟩,h6⟩;exact⟨h1,h2,h3,h4,h5,h6⟩
 ·rintro⟨h1,h2,h3,h4,h5,h6⟩;exact⟨⟨⟨⟨⟨h1,h2⟩,h3⟩,h4⟩,h5⟩,h6⟩
theorem gu (j:Jn) (n:Nat) (hn:j.bs.length=n) (hb:n<1000000000):FPure Tryz.prog 195 [.agg [.i j.ps,.p (.data 1 n (j.bs.map bt)),.i j.page,.i j.gen,.i j.tail,.b j.torn]] (.b (aE j)):=by
 refine en Tryz.func195 Tryz.ntmps195 Tryz.results195 [0,1,2,3,4] ?_;intro c hP h0 hE kK
 simp only [go_sem,hP]
 refine aa kK (by exact p9 j.ps j.bs n hn hb) ?_
 simp only [go_sem,hP]
 split
 ·rename_i h
  obtain⟨p,k,q,e1,e2,e3,e4,e5,e6,e7,-,-,-,e8⟩:=ib h
  refine aa kK (by exact kF j (mountM ⟨j.ps,j.bs⟩).j n (mountM ⟨j.ps,j.bs⟩).j.bs.length) ?_
  simp only [go_sem,hP]
  have h9:(mountM ⟨j.ps,j.bs⟩).j.ps=j.ps∧(mountM ⟨j.ps,j.bs⟩).j.bs=j.bs:=by rw [e8];exact⟨rfl,rfl⟩
  unfold aE lZ flOf
  generalize mountM ⟨j.ps,j.bs⟩=M at *
  obtain⟨h10,h11⟩:=h9
  rw [h10,h11,h]
  rw [Bool.eq_iff_iff]
  simp only [beq_self_eq_true,Bool.true_and,Bool.and_eq_true,beq_iff_eq]
  constructor
  ·rintro⟨⟨⟨h1,h2⟩,h3⟩,h4⟩;exact⟨⟨⟨h1.symm,h2.symm⟩,h3.symm⟩,h4.symm⟩
  ·rintro⟨⟨⟨h1,h2⟩,h3⟩,h4⟩;exact⟨⟨⟨h1.symm,h2.symm⟩,h3.symm⟩,h4.symm⟩
 ·rename_i h
  unfold aE flOf
  simp [h]
def bq (f:Fl) (e:Int):JR:=if e=16 then ⟨⟨f.ps,f.bs,0,0,0,false⟩,0,16⟩ else ⟨jn0,0,e⟩
theorem bU (ps:Int) (bs:List UInt8) (n:Nat) (e:Int) (hn:bs.length=n):FPure Tryz.prog 189 [.agg [.i ps,.p (.data 1 n (bs.map bt))],.i e] (sJ (bq ⟨ps,bs⟩ e)):=by
 refine en Tryz.func189 Tryz.ntmps189 Tryz.results189 [0,1,2,4,5,6,8] ?_;intro c hP h0 hE kK
 simp only [go_sem,hP]
 obtain⟨R,hR⟩:∃R,bq ⟨ps,bs⟩ e=R:=⟨_,rfl⟩;rw [hR] at hE kK;(try rw [hR])
 unfold bq at hR
 split
 ·rename_i h
  rw [if_pos h] at hR
  subst hR
  simp only [hn,h,and_self]
 ·rename_i h
  rw [if_neg h] at hR
  subst hR
  simp only [jn0,List.length_nil,List.map_nil,and_self]
theorem yK (j:Jn) (n:Nat) (hn:j.bs.length=n) (hb:n<1000000000):FPure Tryz.prog 144 [.agg [.i j.ps,.p (.data 1 n (j.bs.map bt)),.i j.page,.i j.gen,.i j.tail,.b j.torn]] (.i (eN j)):=by
 refine en Tryz.func144 Tryz.ntmps144 Tryz.results144 [0,1,2,9] ?_;intro c hP h0 hE kK
 simp only [go_sem,hP]
 refine aa kK (by exact gu j n hn hb) ?_
 simp only [go_sem,hP]
 obtain⟨R,hR⟩:∃R,eN j=R:=⟨_,rfl⟩;rw [hR] at hE kK;(try rw [hR])
 unfold eN at hR
 split
 ·rename_i h
  rw [if_pos h] at hR
  obtain⟨p,k,q,e1,e2,e3,-⟩:=bF h
  have ht:=ea h
  unfold ia at hR
  rw [ab (n:=j.ps-j.tail) (by omega) (by omega),ab (n:=j.ps-j.tail-10) (by omega) (by omega)]
  split
  ·rw [if_pos ‹_›] at hR;exact hR
  ·rw [if_neg ‹_›] at hR
   rw [← hR]
   split<;>split<;>(try split)<;>omega
 ·rename_i h
  rw [if_neg h] at hR;exact hR
theorem xk (j:Jn) (n:Nat) (hn:j.bs.length=n) (hb:n<1000000000):FPure Tryz.prog 193 [.agg [.i j.ps,.p (.data 1 n (j.bs.map bt)),.i j.page,.i j.gen,.i j.tail,.b j.torn]] (.p (.data 1 (aK j).length ((aK j).map byP))):=by
 refine en Tryz.func193 Tryz.ntmps193 Tryz.results193 [0,1,2,3,7] ?_;intro c hP h0 hE kK
 simp only [go_sem,hP]
 refine aa kK (by exact gu j n hn hb) ?_
 simp only [go_sem,hP]
 obtain⟨R,hR⟩:∃R,aK j=R:=⟨_,rfl⟩;rw [hR] at hE kK;(try rw [hR])
 unfold aK at hR
 split
 ·rename_i h
  rw [h] at hR
  subst hR
  exact⟨rfl,rfl⟩
 ·rename_i h
  have h:aE j=true:=by simpa using h
  rw [if_pos h] at hR
  obtain⟨p,k,q,e1,e2,e3,e4,e5,e6,e7,e8,e9,e10,e11,-,-,-,-⟩:=bF h
  refine aa kK (by exact tD j.ps j.bs p k n q j.page (UInt64.ofNat j.gen.toNat) j.gen (dZ _ (by omega) (by omega)) e1 e10 hn (by omega) (by omega) e6 e2 e3) ?_
  rw [e10,Int.toNat_natCast] at hR
  have hR:(ci (pgM ⟨j.ps,j.bs⟩ q) (UInt64.ofNat j.gen.toNat)).1=R:=hR
  rw [hR]
  simp only [go_sem,hP]
def cU (j:Jn) (b:List UInt8) (budget:Int):JR :=
 if aE j=false then ⟨jn0,0,18⟩ else
 if ¬(1≤b.length∧b.length≤256) then ⟨jn0,0,9⟩ else
 if j.torn then ⟨jn0,0,18⟩ else
 if (b.length:Int)>ia j.ps j.tail j.torn then ⟨jn0,0,12⟩ else
 if (cy (flOf j) j.page j.tail (aY (UInt64.ofNat j.gen.toNat) b) budget).err≠0 then bq (cy (flOf j) j.page j.tail (aY (UInt64.ofNat j.gen.toNat) b) budget).f (cy (flOf j) j.page j.tail (aY (UInt64.ofNat j.gen.toNat) b) budget).err
 else ⟨⟨(cy (flOf j) j.page j.tail (aY (UInt64.ofNat j.gen.toNat) b) budget).f.ps,(cy (flOf j) j.page j.tail (aY (UInt64.ofNat j.gen.toNat) b) budget).f.bs,j.page,j.gen,j.tail+10+b.length,j.torn⟩,(cy (flOf j) j.page j.tail (aY (UInt64.ofNat j.gen.toNat) b) budget).left,0⟩
theorem Au (j:Jn) (n:Nat) (b:List UInt8) (m:Nat) (budget:Int) (hn:j.bs.length=n) (hb:n<1000000000) (hm:b.length=m) (hmb:m<1000000) (hB:i64 budget) :
 FPure Tryz.prog 145 [.agg [.i j.ps,.p (.data 1 n (j.bs.map bt)),.i j.page,.i j.gen,.i j.tail,.b j.torn],.p (.data 1 m (b.map bt)),.i budget] (sJ (cU j b budget)):=by
 refine en Tryz.func145 Tryz.ntmps145 Tryz.results145 [0,1,2,3,6,7,8,9,10,11,21,36,45,74] ?_;intro c hP h0 hE kK
 simp only [go_sem,hP]
 refine aa kK (by exact gu j n hn hb) ?_
 simp only [go_sem,hP]
 obtain⟨R,hR⟩:∃R,cU j b budget=R:=⟨_,rfl⟩;rw [hR] at hE kK;(try rw [hR])
 unfold cU at hR
 rw [hm] at hR
 have br:∀e,e≠16→bq ⟨j.ps,j.bs⟩ e=⟨jn0,0,e⟩:=fun e he=>by unfold bq;rw [if_neg he]
 split
 ·rename_i h
  rw [if_pos h] at hR
  subst hR
  refine aa kK (by exact bU j.ps j.bs n 18 hn) ?_
  rw [br 18 (by decide)]
  simp only [go_sem,hP]
 ·rename_i h
  rw [if_neg h] at hR
  have h:aE j=true:=by simpa using h
  obtain⟨p,k,q,e1,e2,e3,e4,e5,e6,e7,e8,e9,e10,-⟩:=bF h
  have ht:=ea h
  have nine:¬(1≤m∧m≤256)→R=⟨jn0,0,9⟩:=fun hx=>by rw [if_pos hx] at hR;exact hR.symm
  split
  ·split
   ·have:=nine (by omega)
    subst this
    refine aa kK (by exact bU j.ps j.bs n 9 hn) ?_
    rw [br 9 (by decide)]
    simp only [go_sem,hP]
   ·rw [if_neg (by omega)] at hR
    split
    ·rename_i h3
     rw [if_pos h3] at hR
     subst hR
     refine aa kK (by exact bU j.ps j.bs n 18 hn) ?_
     rw [br 18 (by decide)]
     simp only [go_sem,hP]
    ·rename_i h3
     rw [if_neg h3] at hR
     refine aa kK (by exact yK j n hn hb) ?_
     simp only [go_sem,hP]
     have hrm:eN j=ia j.ps j.tail j.torn:=by unfold eN;rw [if_pos h]
     rw [hrm]
     split
     ·rename_i h4
      rw [if_pos h4] at hR
      subst hR
      refine aa kK (by exact bU j.ps j.bs n 12 hn) ?_
      rw [br 12 (by decide)]
      simp only [go_sem,hP]
     ·rename_i h4
      rw [if_neg h4] at hR
      refine aa kK (by exact tA (UInt64.ofNat j.gen.toNat) j.gen (dZ _ (by omega) (by omega)) b m hm (by omega)) ?_
      simp only [go_sem,hP]
      refine aa kK (by exact iT j.ps j.bs n j.page j.tail _ (m+10) budget hn hb (by rw [bp];omega) (by omega) hB) ?_
      have hx:cy ⟨j.ps,j.bs⟩ j.page j.tail (aY (UInt64.ofNat j.gen.toNat) b) budget=cy (flOf j) j.page j.tail (aY (UInt64.ofNat j.gen.toNat) b) budget:=rfl
      rw [hx]
      generalize cy (flOf j) j.page j.tail (aY (UInt64.ofNat j.gen.toNat) b) budget=G at *
      simp only [go_sem,hP]
      refine⟨by kernel_rfl,?_⟩
      split
      ·rename_i h5
       rw [if_pos h5] at hR
       refine aa kK (by exact bU G.f.ps G.f.bs _ G.err rfl) ?_
       have hx:bq ⟨G.f.ps,G.f.bs⟩ G.err=R:=hR
       rw [hx]
       simp only [go_sem,hP]
      ·rename_i h5
       rw [if_neg h5] at hR
       subst hR
       rw [ab (n:=j.tail+10) (by omega) (by omega),ab (by omega) (by omega)]
       simp only [and_self]
  ·have:=nine (by omega)
   subst this
   refine aa kK (by exact bU j.ps j.bs n 9 hn) ?_
   rw [br 9 (by decide)]
   simp only [go_sem,hP]
end Go.Proofs.YtebndjnkmcahaaaGreatDoor
end

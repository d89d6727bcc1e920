/- joined of several texts; own work; no statement of the seat is proved but in the last -/
import Derived.Test.YtebndjnkmcahaaaGreatDoorOc
section
section
namespace Go.Proofs.YtebndjnkmcahaaaGreatDoor
set_option linter.unusedSimpArgs false
set_option linter.unusedVariables false
open Go Go.Abs Go.RowKit
abbrev raH (d:ca) (x:Cr) (t:UInt64):List (Nat×Option Blk):=[(0,some ⟨43,dvC (iW d)⟩),(1,some ⟨61,crC x⟩),(2,some ⟨43,dvC dv0⟩),(3,some ⟨86,[.w t,.i 0,.i 2,.i 0]⟩)]
theorem vu (t:UInt64):FPure Tryz.prog 62 [.agg [.w t,.i 0,.i 2,.i 0]] (.b true):=by
 have:=mM (leF t)
 rw [C1] at this
 exact this
set_option maxHeartbeats 4000000 in
theorem Fs (d:ca) (D:Nat→CR) (x:Cr) (id:List UInt8) (n:Nat) (B:Int) (h:vq d D) (hon:d.on=true) (hx:CrOk x) (hr:x.rs=false) (hn:id.length=n) (hnb:n<100000) (hb:d.v.j.bs.length<1000000000) (hB:i64 B) :
 FPure Tryz.prog 19 [cP d,.agg (crC x),.p (.data 1 n (id.map bt)),.i 0,.i 2,.i 0,.i B] (mF (jH d D x (cm 10 0 id) B)):=by
 refine en Tryz.func19 Tryz.ntmps19 Tryz.results19 [0,1,2,3,4,5,6,7,8,14,15,16,17,18,19,20,21,22,24,25,26,27,29,30,31,33,34,37,45,56,63,73,80,103,118,121,136,147,150,172] ?_;intro c hP h0 hE kK
 obtain⟨R,hR⟩:∃R,jH d D x (cm 10 0 id) B=R:=⟨_,rfl⟩;rw [hR] at hE kK;(try rw [hR])
 unfold jH at hR
 have he:=gp x hx
 have ht:=tv id n hn hnb
 have hnu:=jG d id n hn hnb h.vl
 generalize cm 10 0 id=t at *
 have hv:=vu t
 simp only [hr,Bool.false_eq_true,false_and,if_false] at hR
 generalize dv (bl d.v.prs) t=N at *
 generalize hE0:dh x=E0 at *
 have hf:(x.rs=true)=False:=eq_false (by simp [hr])
 by_cases hN:N=0
 case neg =>
  rw [if_pos hN] at hR
  subst hR
  simp only [go_sem,hP,hon]
  refine aa kK (by exact he) ?_
  simp only [go_sem,hP]
  refine aa kK (by exact ht) ?_
  simp only [go_sem,hP]
  refine aa kK (by exact hv) ?_
  simp only [go_sem,hP]
  refine ay hE h0 [0,1,2,3,4,5,6,7,8,14,15,16,17,18,19,20,21,22,24,25,26,27,29,30,31,33,34,37,45,56,63,73,80,103,118,121,136,147,150,172] 0 (fun i=>⟨186,[(2,.p (.data 1 n (id.map bt))),(6,.i B),(7,.ptr 0 0),(8,.ptr 1 0),(14,.ptr 2 0),(17,blA E0),(19,.ptr 3 0),(20,.i (-1)),(21,.i 0),(22,.i 7)],raH d x t,4⟩) [] (fun i=>i) ⟨rfl,by simp only [go_sem],by simp only [go_sem],rfl,rfl,trivial,fun i h=>h⟩ ?_
  intro _ _
  simp only [go_sem,hP,hf]
  refine ay hE h0 [0,1,2,3,4,5,6,7,8,14,15,16,17,18,19,20,21,22,24,25,26,27,29,30,31,33,34,37,45,56,63,73,80,103,118,121,136,147,150,172] 0 (fun i=>⟨186,[(2,.p (.data 1 n (id.map bt))),(6,.i B),(7,.ptr 0 0),(8,.ptr 1 0),(14,.ptr 2 0),(17,blA E0),(19,.ptr 3 0),(20,.i (-1)),(21,.i 0),(25,.i 7)],raH d x t,4⟩) [] (fun i=>i) ⟨rfl,by simp only [go_sem],by simp only [go_sem],rfl,rfl,trivial,fun i h=>h⟩ ?_
  intro _ _
  simp only [go_sem,hP,hf]
  refine aa kK (by exact hnu) ?_
  simp only [go_sem,hP,hN]
  done
 rw [if_neg (by omega)] at hR
 simp only [go_sem,hP,hon]
 refine aa kK (by exact he) ?_
 simp only [go_sem,hP]
 refine aa kK (by exact ht) ?_
 simp only [go_sem,hP]
 refine aa kK (by exact hv) ?_
 simp only [go_sem,hP]
 refine ay hE h0 [0,1,2,3,4,5,6,7,8,14,15,16,17,18,19,20,21,22,24,25,26,27,29,30,31,33,34,37,45,56,63,73,80,103,118,121,136,147,150,172] 0 (fun i=>⟨186,[(2,.p (.data 1 n (id.map bt))),(6,.i B),(7,.ptr 0 0),(8,.ptr 1 0),(14,.ptr 2 0),(17,blA E0),(19,.ptr 3 0),(20,.i (-1)),(21,.i 0),(22,.i 7)],raH d x t,4⟩) [] (fun i=>i) ⟨rfl,by simp only [go_sem],by simp only [go_sem],rfl,rfl,trivial,fun i h=>h⟩ ?_
 intro _ _
 simp only [go_sem,hP,hf]
 refine ay hE h0 [0,1,2,3,4,5,6,7,8,14,15,16,17,18,19,20,21,22,24,25,26,27,29,30,31,33,34,37,45,56,63,73,80,103,118,121,136,147,150,172] 0 (fun i=>⟨186,[(2,.p (.data 1 n (id.map bt))),(6,.i B),(7,.ptr 0 0),(8,.ptr 1 0),(14,.ptr 2 0),(17,blA E0),(19,.ptr 3 0),(20,.i (-1)),(21,.i 0),(25,.i 7)],raH d x t,4⟩) [] (fun i=>i) ⟨rfl,by simp only [go_sem],by simp only [go_sem],rfl,rfl,trivial,fun i h=>h⟩ ?_
 intro _ _
 simp only [go_sem,hP,hf]
 refine aa kK (by exact hnu) ?_
 simp only [go_sem,hP,hN]
 refine ay hE h0 [0,1,2,3,4,5,6,7,8,14,15,16,17,18,19,20,21,22,24,25,26,27,29,30,31,33,34,37,45,56,63,73,80,103,118,121,136,147,150,172] 15 (fun k=>⟨186,[(6,.i B),(7,.ptr 0 0),(8,.ptr 1 0),(14,.ptr 2 0),(17,blA E0),(19,.ptr 3 0),(20,.i (-1)),(21,.i 0),(30,.i (scan (fun i => !b8 d.v.prs 0 i) (16-k) k)),(31,.i (15-(k:Int)))],raH d x t,4⟩) [] (fun i=>i) ?_ ?_
 ·refine⟨rfl,?_,?_,rfl,rfl,trivial,fun i h=>h⟩
  ·simp only [go_sem]
   exact⟨rfl,rfl⟩
  ·simp only [go_sem]
 intro k hk
 have hf:(x.rs=true)=False:=eq_false (by simp [hr])
 rcases Nat.lt_or_ge k 15 with hk15|hk15
 ·obtain⟨i,hi⟩:∃i,i=15-k:=⟨_,rfl⟩
  have hi1:1≤i∧i≤15:=by omega
  have e1:(15:Int)-(k:Int)=(i:Int):=by omega
  have e2:(15:Int)-((k+1:Nat):Int)=(i:Int)-1:=by omega
  have hw:IntKind.i64.wrap ((i:Int)-1)=(i:Int)-1:=ab (by omega) (by omega)
  have hl:=pU d i (by omega) h.vl
  have hsc:scan (fun i => !b8 d.v.prs 0 i) (16-(k+1)) (k+1)=if (!b8 d.v.prs 0 i)=true then i else scan (fun i => !b8 d.v.prs 0 i) (16-k) k:=by
   rw [show 16-(k+1)=i from by omega,show 16-k=i+1 from by omega];rfl
  have htk:b8 d.v.prs 0 i=decide ((b7 d.v.prs i).e=0):=by
   unfold b8
   exact decide_eq_decide.2 ⟨fun h=>h.1,fun h=>⟨h,by omega⟩⟩
  rw [htk] at hsc
  rw [e1,e2]
  generalize b7 d.v.prs i=L at *
  by_cases he':L.e=0
  ·rw [if_neg (by simp [he'])] at hsc
   rw [hsc]
   generalize scan (fun i => !b8 d.v.prs 0 i) (16-k) k=S at *
   simp only [go_sem,hP,show ((i:Int)≥1) from by omega,hw]
   refine aa kK (by exact hl) ?_
   simp only [go_sem,hP,he',decide_true,hw,show ¬((i:Int)=0) from by omega]
   refine⟨hk15,aZ [0,1,2,3] rfl ?_ ?_ rfl rfl (Nat.le_of_ble_eq_true rfl)⟩
   ·simp only [go_sem]
   ·simp only [go_sem]
  ·rw [if_pos (by simp [he'])] at hsc
   rw [hsc]
   generalize scan (fun i => !b8 d.v.prs 0 i) (16-k) k=S at *
   simp only [go_sem,hP,show ((i:Int)≥1) from by omega,hw]
   refine aa kK (by exact hl) ?_
   simp only [go_sem,hP,he',decide_false,hw]
   refine⟨hk15,aZ [0,1,2,3] rfl ?_ ?_ rfl rfl (Nat.le_of_ble_eq_true rfl)⟩
   ·simp only [go_sem]
   ·simp only [go_sem]
 obtain rfl:k=15:=by omega
 rw [show scan (fun i => !b8 d.v.prs 0 i) (16-15) 15=eB d.v.prs 0 from rfl]
 have hK16:eB d.v.prs 0<1000:=Nat.lt_of_le_of_lt (kb _ 1 15) (by decide)
 have hle:=sS (leF t)
 have hlen:=j3 (leF t)
 have e0:(15:Int)-((15:Nat):Int)=0:=by decide
 generalize eB d.v.prs 0=K at *
 rw [e0]
 by_cases hk0:K=0
 ·rw [if_pos hk0] at hR
  subst hR
  simp only [go_sem,hP,hk0,hf]
  done
 rw [if_neg hk0] at hR
 have hw:IntKind.i64.wrap (16+(K:Int))=16+(K:Int):=ab (by omega) (by omega)
 have hal:fE x t (cN d.v.prs D x).1 0 K=[(16+(K:Int),cf (leF t))]:=by simp [fE,hr]
 rw [hal] at hR
 generalize hlb:cf (leF t)=lb at *
 have hst:=pV d [(16+(K:Int),lb)] B hb h.vl.1 (fun y hy=>by rw [List.mem_singleton.1 hy];show lb.length<1000;omega) (by simp) hB
 rw [hR] at hst
 simp only [go_sem,hP,hf,hw,show ¬((K:Int)=0) from by omega]
 refine aa kK (by exact hle) ?_
 simp only [go_sem,hP]
 refine x_f kK (hst) ?_
 simp only [go_sem,hP]
end Go.Proofs.YtebndjnkmcahaaaGreatDoor
end
section
namespace Go.Proofs.YtebndjnkmcahaaaGreatDoor
set_option linter.unusedSimpArgs false
set_option linter.unusedVariables false
open Go Go.Abs Go.RowKit
def mtB (D:Nat→CR) (x:Cr) (i:Nat):Bool:=decide ((D i).e=0∧(D i).x.rp=x.rp∧(D i).x.us=x.us)
def mtD (f:Cr→Int) (D:Nat→CR) (x:Cr) (z:Int×Int):Nat→Nat→Int×Int
 | _,0=>z
 | i,k+1=>if mtB D x i=true then ((i:Int),f (D i).x) else mtD f D x z (i+1) k
def frD (D:Nat→CR):Nat→Nat→Int
 | _,0 => -1
 | i,k+1=>if (D i).e=0 then frD D (i+1) k else (i:Int)
theorem vv (f:Cr→Int) (D:Nat→CR) (x:Cr) (z:Int×Int):∀k i:Nat,mtD f D x z i (k+1)=mtD f D x (if mtB D x (i+k)=true then (((i+k:Nat):Int),f (D (i+k)).x) else z) i k
 | 0,i=>rfl
 | k+1,i=>by
  have ih:=vv f D x z k (i+1)
  rw [show i+1+k=i+(k+1) from by omega] at ih
  rw [mtD,ih]
  rfl
theorem yG (f:Cr→Int) (D:Nat→CR) (x:Cr) (z:Int×Int):∀k i:Nat,mtD f D x z i k=if (mtD f D x (-1,0) i k).1<0 then z else mtD f D x (-1,0) i k
 | 0,i=>rfl
 | k+1,i=>by
  by_cases h:mtB D x i=true
  ·have a:∀z,mtD f D x z i (k+1)=((i:Int),f (D i).x):=fun z=>if_pos h
   rw [a,a,if_neg (by show ¬((i:Int)<0);omega)]
  ·have a:∀z,mtD f D x z i (k+1)=mtD f D x z (i+1) k:=fun z=>if_neg h
   rw [a,a];exact yG f D x z k (i+1)
theorem C2 (f:Cr→Int) (D:Nat→CR) (x:Cr):∀n:Nat,plF f x (dC D n)=mtD f D x (-1,0) 0 n
 | 0=>rfl
 | n+1=>by
  have ih:=C2 f D x n
  have hs:=vv f D x (-1,0) n 0
  have hz:=yG f D x (if mtB D x n=true then (((n:Nat):Int),f (D n).x) else (-1,0)) n 0
  have hz0:=yG f D x (-1,0) n 0
  rw [Nat.zero_add] at hs
  rw [hs,hz,mH]
  generalize mtD f D x (-1,0) 0 n=R at *
  by_cases he:(D n).e=0
  ·rw [if_pos he,vo,ih]
   by_cases hm:(D n).x.rp=x.rp∧(D n).x.us=x.us
   ·have hb:mtB D x n=true:=decide_eq_true ⟨he,hm.1,hm.2⟩
    simp only [hb,if_true]
    by_cases hz:R.1<0
    ·rw [if_pos ⟨hz,hm.1,hm.2⟩,if_pos hz]
    ·rw [if_neg (fun c=>hz c.1),if_neg hz]
   ·have hb:mtB D x n=false:=decide_eq_false (fun c=>hm c.2)
    simp only [hb,Bool.false_eq_true,if_false]
    rw [if_neg (fun c=>hm c.2)]
    exact hz0
  ·have hb:mtB D x n=false:=decide_eq_false (fun c=>he c.1)
   rw [if_neg he,ih]
   simp only [hb,Bool.false_eq_true,if_false]
   exact hz0
theorem vw (D:Nat→CR) (i:Nat) (hi:i<8):∀n,n≤8→(eX (dC D n)).getD i false=decide (i<n∧(D i).e=0)
 | 0,_=>by
  have h:∀i:Fin 8,(List.replicate 8 false).getD i.val false=false:=by decide
  rw [show eX (dC D 0)=List.replicate 8 false from rfl,h ⟨i,hi⟩]
  simp
 | n+1,hn=>by
  have ih:=vw D i hi n (by omega)
  have hl:=mX (dC D n)
  rw [mH]
  by_cases he:(D n).e=0
  ·rw [if_pos he,pZ]
   by_cases hin:i=n
   ·subst hin
    simp [List.getD_eq_getElem?_getD,hl,hi,he]
   ·have:((eX (dC D n)).set n true).getD i false=(eX (dC D n)).getD i false:=by simp [List.getD_eq_getElem?_getD,List.getElem?_set_ne (fun h:n=i=>hin h.symm)]
    rw [this,ih]
    exact decide_eq_decide.2 ⟨fun h=>⟨by omega,h.2⟩,fun h=>⟨by omega,h.2⟩⟩
  ·rw [if_neg he,ih]
   exact decide_eq_decide.2 ⟨fun h=>⟨by omega,h.2⟩,fun h=>⟨by rcases Nat.eq_or_lt_of_le (Nat.le_of_lt_succ h.1) with rfl|h';exact absurd h.2 he;exact h',h.2⟩⟩
theorem vz (D:Nat→CR) (u:List Bool) (hu:∀i,i<8→u.getD i false=decide ((D i).e=0)):∀k i:Nat,i+k≤8→lW u i k=frD D i k
 | 0,_,_=>rfl
 | k+1,i,h=>by
  simp only [lW,frD]
  rw [hu i (by omega),vz D u hu k (i+1) (by omega)]
  by_cases he:(D i).e=0
  ·simp [he]
  ·simp [he]
theorem Al (s:ag) (D:Nat→CR) (x:Cr):cN s D x=mtD (ee s) D x (frD D 0 8,0) 0 8:=by
 have h1:=C2 (ee s) D x 8
 have h2:vr (eX (dC D 8))=frD D 0 8:=vz D _ (fun i hi=>by rw [vw D i hi 8 (Nat.le_refl _)];exact decide_eq_decide.2 ⟨fun h=>h.2,fun h=>⟨hi,h⟩⟩) 8 0 (by decide)
 have h3:(mtD (ee s) D x (-1,0) 0 8).1<0→(mtD (ee s) D x (-1,0) 0 8).2=0:=by
  have key:∀k i,(mtD (ee s) D x (-1,0) i k).1<0→(mtD (ee s) D x (-1,0) i k).2=0:=by
   intro k
   induction k with
   | zero=>intro i _;rfl
   | succ k ih =>
    intro i
    simp only [mtD]
    split
    ·intro h;exact absurd h (by show ¬((i:Int)<0);omega)
    ·exact ih (i+1)
  exact key 8 0
 have h4:=yG (ee s) D x (frD D 0 8,0) 8 0
 show ((if (plF (ee s) x (dC D 8)).1<0 then vr (eX (dC D 8)) else (plF (ee s) x (dC D 8)).1),(plF (ee s) x (dC D 8)).2)=_
 rw [h4,h2,h1]
 generalize mtD (ee s) D x (-1,0) 0 8=R at *
 by_cases h:R.1<0
 ·rw [if_pos h,if_pos h,h3 h]
 ·rw [if_neg h,if_neg h]
end Go.Proofs.YtebndjnkmcahaaaGreatDoor
end
end
section
namespace Go.Proofs.YtebndjnkmcahaaaGreatDoor
set_option linter.unusedSimpArgs false
set_option linter.unusedVariables false
open Go Go.Abs Go.RowKit
set_option maxHeartbeats 4000000 in
theorem Ft (d:ca) (D:Nat→CR) (x:Cr) (id:List UInt8) (n:Nat) (B:Int) (h:vq d D) (hon:d.on=true) (hx:CrOk x) (hr:x.rs=true) (hxl:(dh x).length<1000) (hn:id.length=n) (hnb:n<100000) (hb:d.v.j.bs.length<1000000000) (hB:i64 B) :
 FPure Tryz.prog 19 [cP d,.agg (crC x),.p (.data 1 n (id.map bt)),.i 0,.i 2,.i 0,.i B] (mF (jH d D x (cm 10 0 id) B)):=by
 refine en Tryz.func19 Tryz.ntmps19 Tryz.results19 [0,1,2,3,4,5,6,7,8,14,15,16,17,18,19,20,21,22,24,25,26,27,29,30,31,33,34,37,45,56,63,73,80,103,118,121,136,147,150,172] ?_;intro c hP h0 hE kK
 obtain⟨R,hR⟩:∃R,jH d D x (cm 10 0 id) B=R:=⟨_,rfl⟩;rw [hR] at hE kK;(try rw [hR])
 unfold jH at hR
 have he:=gp x hx
 have ht:=tv id n hn hnb
 have hnu:=jG d id n hn hnb h.vl
 generalize cm 10 0 id=t at *
 have hv:=vu t
 have hbd:=mY d.v.prs D x
 have hpm:=Al d.v.prs D x
 simp only [hr,true_and,if_true] at hR
 generalize dv (bl d.v.prs) t=N at *
 generalize hE0:dh x=E0 at *
 have hf:(x.rs=true)=True:=eq_true hr
 simp only [go_sem,hP,hon]
 refine aa kK (by exact he) ?_
 simp only [go_sem,hP]
 refine aa kK (by exact ht) ?_
 simp only [go_sem,hP]
 refine aa kK (by exact hv) ?_
 simp only [go_sem,hP]
 refine ay hE h0 [0,1,2,3,4,5,6,7,8,14,15,16,17,18,19,20,21,22,24,25,26,27,29,30,31,33,34,37,45,56,63,73,80,103,118,121,136,147,150,172] 8 (fun k=>⟨186,[(2,.p (.data 1 n (id.map bt))),(6,.i B),(7,.ptr 0 0),(8,.ptr 1 0),(14,.ptr 2 0),(17,blA E0),(19,.ptr 3 0),(20,.i (frD D (8-k) k)),(21,.i 0),(22,.i (7-(k:Int)))],raH d x t,4⟩) [] (fun i=>i) ⟨rfl,by simp only [go_sem];exact⟨rfl,rfl⟩,by simp only [go_sem],rfl,rfl,trivial,fun i h=>h⟩ ?_
 intro k hk
 rcases Nat.lt_or_ge k 8 with hk8|hk8
 ·obtain⟨i,hi⟩:∃i,i=7-k:=⟨_,rfl⟩
  have hi1:i≤7:=by omega
  have e1:(7:Int)-(k:Int)=(i:Int):=by omega
  have e2:(7:Int)-((k+1:Nat):Int)=(i:Int)-1:=by omega
  have hw:IntKind.i64.wrap ((i:Int)-1)=(i:Int)-1:=ab (by omega) (by omega)
  have hl:=yB d D i (by omega) h.vl (h.r i (by omega))
  have hsc:frD D (8-(k+1)) (k+1)=if (D i).e=0 then frD D (8-k) k else (i:Int):=by
   rw [show 8-(k+1)=i from by omega,show 8-k=i+1 from by omega];rfl
  rw [e1,e2,hsc]
  generalize frD D (8-k) k=S at *
  generalize D i=L at *
  by_cases he':L.e=0
  ·rw [if_pos he']
   simp only [go_sem,hP,hf,show ((i:Int)≥0) from by omega,hw]
   refine aa kK (by exact hl) ?_
   simp only [go_sem,hP,he',decide_true,hw]
   refine⟨hk8,aZ [0,1,2,3] rfl ?_ ?_ rfl rfl (Nat.le_of_ble_eq_true rfl)⟩
   ·simp only [go_sem]
   ·simp only [go_sem]
  ·rw [if_neg he']
   simp only [go_sem,hP,hf,show ((i:Int)≥0) from by omega,hw]
   refine aa kK (by exact hl) ?_
   simp only [go_sem,hP,he',decide_false,hw]
   refine⟨hk8,aZ [0,1,2,3] rfl ?_ ?_ rfl rfl (Nat.le_of_ble_eq_true rfl)⟩
   ·simp only [go_sem]
   ·simp only [go_sem]
 obtain rfl:k=8:=by omega
 rw [show frD D (8-8) 8=frD D 0 8 from rfl]
 generalize hF0:frD D 0 8=F0 at *
 have e8:(7:Int)-((8:Nat):Int) = -1:=by decide
 rw [e8]
 simp only [go_sem,hP,hf]
 refine ay hE h0 [0,1,2,3,4,5,6,7,8,14,15,16,17,18,19,20,21,22,24,25,26,27,29,30,31,33,34,37,45,56,63,73,80,103,118,121,136,147,150,172] 8 (fun k=>⟨186,[(2,.p (.data 1 n (id.map bt))),(6,.i B),(7,.ptr 0 0),(8,.ptr 1 0),(14,.ptr 2 0),(17,blA E0),(19,.ptr 3 0),(20,.i (mtD (ee d.v.prs) D x (F0,0) (8-k) k).1),(21,.i (mtD (ee d.v.prs) D x (F0,0) (8-k) k).2),(25,.i (7-(k:Int)))],raH d x t,4⟩) [] (fun i=>i) ⟨rfl,by simp only [go_sem];exact⟨rfl,rfl,rfl⟩,by simp only [go_sem],rfl,rfl,trivial,fun i h=>h⟩ ?_
 intro k hk
 rcases Nat.lt_or_ge k 8 with hk8|hk8
 ·obtain⟨i,hi⟩:∃i,i=7-k:=⟨_,rfl⟩
  have hi1:i≤7:=by omega
  have e1:(7:Int)-(k:Int)=(i:Int):=by omega
  have e2:(7:Int)-((k+1:Nat):Int)=(i:Int)-1:=by omega
  have hw:IntKind.i64.wrap ((i:Int)-1)=(i:Int)-1:=ab (by omega) (by omega)
  have hl:=yB d D i (by omega) h.vl (h.r i (by omega))
  have hok:=h.ok i (by omega)
  have hsc:mtD (ee d.v.prs) D x (F0,0) (8-(k+1)) (k+1)=if mtB D x i=true then ((i:Int),ee d.v.prs (D i).x) else mtD (ee d.v.prs) D x (F0,0) (8-k) k:=by
   rw [show 8-(k+1)=i from by omega,show 8-k=i+1 from by omega];rfl
  have hnu2:=jG d (idR (D i).x) 176 (tw _) (by decide) h.vl
  rw [show (dv (bl d.v.prs) (cm 10 0 (idR (D i).x)):Int)=ee d.v.prs (D i).x from rfl] at hnu2
  rw [e1,e2,hsc]
  generalize mtD (ee d.v.prs) D x (F0,0) (8-k) k=S at *
  by_cases he':(D i).e=0
  ·obtain⟨hc,hrs⟩:=hok he'
   have hid:=Fm (D i).x hc hrs
   by_cases hm1:(D i).x.rp=x.rp
   ·by_cases hm2:(D i).x.us=x.us
    ·rw [show mtB D x i=true from decide_eq_true ⟨he',hm1,hm2⟩,if_pos rfl]
     generalize D i=L at *
     simp only [go_sem,hP,hf,show ((i:Int)≥0) from by omega,hw]
     refine aa kK (by exact hl) ?_
     simp only [go_sem,hP,he',decide_true,hw,gX,eq_true hm1,eq_true hm2]
     refine aa kK (by exact hid) ?_
     simp only [go_sem,hP]
     refine aa kK (by exact hnu2) ?_
     simp only [go_sem,hP,hw]
     refine⟨by kernel_rfl,hk8,aZ [0,1,2,3] rfl ?_ ?_ rfl rfl (Nat.le_of_ble_eq_true rfl)⟩
     ·simp only [go_sem]
     ·simp only [go_sem]
    ·rw [show mtB D x i=false from decide_eq_false (fun c=>hm2 c.2.2),if_neg (by decide)]
     generalize D i=L at *
     simp only [go_sem,hP,hf,show ((i:Int)≥0) from by omega,hw]
     refine aa kK (by exact hl) ?_
     simp only [go_sem,hP,he',decide_true,hw,gX,eq_true hm1,eq_false hm2]
     refine⟨hk8,aZ [0,1,2,3] rfl ?_ ?_ rfl rfl (Nat.le_of_ble_eq_true rfl)⟩
     ·simp only [go_sem]
     ·simp only [go_sem]
   ·rw [show mtB D x i=false from decide_eq_false (fun c=>hm1 c.2.1),if_neg (by decide)]
    generalize D i=L at *
    simp only [go_sem,hP,hf,show ((i:Int)≥0) from by omega,hw]
    refine aa kK (by exact hl) ?_
    simp only [go_sem,hP,he',decide_true,hw,gX,eq_false hm1]
    refine⟨hk8,aZ [0,1,2,3] rfl ?_ ?_ rfl rfl (Nat.le_of_ble_eq_true rfl)⟩
    ·simp only [go_sem]
    ·simp only [go_sem]
  ·rw [show mtB D x i=false from decide_eq_false (fun c=>he' c.1),if_neg (by decide)]
   generalize D i=L at *
   simp only [go_sem,hP,hf,show ((i:Int)≥0) from by omega,hw]
   refine aa kK (by exact hl) ?_
   simp only [go_sem,hP,he',decide_false,hw]
   refine⟨hk8,aZ [0,1,2,3] rfl ?_ ?_ rfl rfl (Nat.le_of_ble_eq_true rfl)⟩
   ·simp only [go_sem]
   ·simp only [go_sem]
 obtain rfl:k=8:=by omega
 rw [show mtD (ee d.v.prs) D x (F0,0) (8-8) 8=mtD (ee d.v.prs) D x (F0,0) 0 8 from rfl,←hpm,e8]
 generalize cN d.v.prs D x=F at *
 by_cases hN:N=0
 case neg =>
  rw [if_pos hN] at hR
  subst hR
  simp only [go_sem,hP,hf]
  refine aa kK (by exact hnu) ?_
  simp only [go_sem,hP,hN]
 rw [if_neg (by omega)] at hR
 simp only [go_sem,hP,hf]
 refine aa kK (by exact hnu) ?_
 simp only [go_sem,hP,hN]
 refine ay hE h0 [0,1,2,3,4,5,6,7,8,14,15,16,17,18,19,20,21,22,24,25,26,27,29,30,31,33,34,37,45,56,63,73,80,103,118,121,136,147,150,172] 15 (fun k=>⟨186,[(6,.i B),(7,.ptr 0 0),(8,.ptr 1 0),(14,.ptr 2 0),(17,blA E0),(19,.ptr 3 0),(20,.i F.1),(21,.i F.2),(30,.i (scan (fun i => !b8 d.v.prs F.2 i) (16-k) k)),(31,.i (15-(k:Int)))],raH d x t,4⟩) [] (fun i=>i) ⟨rfl,by simp only [go_sem];exact⟨rfl,rfl⟩,by simp only [go_sem],rfl,rfl,trivial,fun i h=>h⟩ ?_
 intro k hk
 rcases Nat.lt_or_ge k 15 with hk8|hk8
 ·obtain⟨i,hi⟩:∃i,i=15-k:=⟨_,rfl⟩
  have hi1:1≤i∧i≤15:=by omega
  have e1:(15:Int)-(k:Int)=(i:Int):=by omega
  have e2:(15:Int)-((k+1:Nat):Int)=(i:Int)-1:=by omega
  have hw:IntKind.i64.wrap ((i:Int)-1)=(i:Int)-1:=ab (by omega) (by omega)
  have hl:=pU d i (by omega) h.vl
  have hsc:scan (fun i => !b8 d.v.prs F.2 i) (16-(k+1)) (k+1)=if (!b8 d.v.prs F.2 i)=true then i else scan (fun i => !b8 d.v.prs F.2 i) (16-k) k:=by
   rw [show 16-(k+1)=i from by omega,show 16-k=i+1 from by omega];rfl
  have htk:b8 d.v.prs F.2 i=decide ((b7 d.v.prs i).e=0∧(i:Int)≠F.2):=rfl
  rw [htk] at hsc
  rw [e1,e2]
  generalize b7 d.v.prs i=L at *
  by_cases he':L.e=0
  ·by_cases hd:(i:Int)=F.2
   ·rw [if_pos (by simp [hd])] at hsc
    rw [hsc]
    generalize scan (fun i => !b8 d.v.prs F.2 i) (16-k) k=S at *
    simp only [go_sem,hP,show ((i:Int)≥1) from by omega,hw]
    refine aa kK (by exact hl) ?_
    simp only [go_sem,hP,he',decide_true,hw,eq_true hd]
    refine⟨hk8,aZ [0,1,2,3] rfl ?_ ?_ rfl rfl (Nat.le_of_ble_eq_true rfl)⟩
    ·simp only [go_sem]
    ·simp only [go_sem]
   ·rw [if_neg (by simp [he',hd])] at hsc
    rw [hsc]
    generalize scan (fun i => !b8 d.v.prs F.2 i) (16-k) k=S at *
    simp only [go_sem,hP,show ((i:Int)≥1) from by omega,hw]
    refine aa kK (by exact hl) ?_
    simp only [go_sem,hP,he',decide_true,hw,eq_false hd]
    refine⟨hk8,aZ [0,1,2,3] rfl ?_ ?_ rfl rfl (Nat.le_of_ble_eq_true rfl)⟩
    ·simp only [go_sem]
    ·simp only [go_sem]
  ·rw [if_pos (by simp [he'])] at hsc
   rw [hsc]
   generalize scan (fun i => !b8 d.v.prs F.2 i) (16-k) k=S at *
   simp only [go_sem,hP,show ((i:Int)≥1) from by omega,hw]
   refine aa kK (by exact hl) ?_
   simp only [go_sem,hP,he',decide_false,hw]
   refine⟨hk8,aZ [0,1,2,3] rfl ?_ ?_ rfl rfl (Nat.le_of_ble_eq_true rfl)⟩
   ·simp only [go_sem]
   ·simp only [go_sem]
 obtain rfl:k=15:=by omega
 rw [show scan (fun i => !b8 d.v.prs F.2 i) (16-15) 15=eB d.v.prs F.2 from rfl]
 have hK16:eB d.v.prs F.2<1000:=Nat.lt_of_le_of_lt (kb _ 1 15) (by decide)
 have hle:=sS (leF t)
 have hlen:=j3 (leF t)
 have e0:(15:Int)-((15:Nat):Int)=0:=by decide
 generalize eB d.v.prs F.2=K at *
 rw [e0]
 by_cases hp:F.1<0
 ·rw [if_pos hp] at hR
  subst hR
  by_cases hk0:K=0
  ·simp only [go_sem,hP,hk0,hf,hp]
  ·simp only [go_sem,hP,show ¬((K:Int)=0) from by omega,hf,hp]
 rw [if_neg hp] at hR
 by_cases hk0:K=0
 ·rw [if_pos hk0] at hR
  subst hR
  simp only [go_sem,hP,hk0,hf]
 rw [if_neg hk0] at hR
 have hw:IntKind.i64.wrap (16+(K:Int))=16+(K:Int):=ab (by omega) (by omega)
 have hw2:IntKind.i64.wrap (64+F.1)=64+F.1:=ab (by omega) (by omega)
 have hw3:IntKind.i64.wrap (16+F.2)=16+F.2:=ab (by omega) (by omega)
 generalize hlb:cf (leF t)=lb at *
 by_cases hd:0<F.2∧F.2≠K
 ·have hal:fE x t F.1 F.2 K=[(64+F.1,E0),(16+(K:Int),lb),(16+F.2,[])]:=by simp [fE,hr,hd,hlb,hE0]
  rw [hal] at hR
  have hst:=pV d [(64+F.1,E0),(16+(K:Int),lb),(16+F.2,[])] B hb h.vl.1 (fun y hy=>by simp at hy;rcases hy with rfl|rfl|rfl;exact hxl;(show lb.length<1000;omega);exact Nat.succ_pos _) (by simp) hB
  rw [hR] at hst
  simp only [go_sem,hP,hf,hp,hw,hw2,show ¬((K:Int)=0) from by omega]
  refine aa kK (by exact hle) ?_
  simp only [go_sem,hP,hw3,show ¬(F.2=0) from by omega,hd.2]
  refine x_f kK (rB hst) ?_
  simp only [go_sem,hP]
 ·have hal:fE x t F.1 F.2 K=[(64+F.1,E0),(16+(K:Int),lb)]:=by simp [fE,hr,hd,hlb,hE0]
  rw [hal] at hR
  have hst:=pV d [(64+F.1,E0),(16+(K:Int),lb)] B hb h.vl.1 (fun y hy=>by simp at hy;rcases hy with rfl|rfl;exact hxl;(show lb.length<1000;omega)) (by simp) hB
  rw [hR] at hst
  simp only [go_sem,hP,hf,hp,hw,hw2,show ¬((K:Int)=0) from by omega]
  refine aa kK (by exact hle) ?_
  by_cases h0:F.2=0
  ·simp only [go_sem,hP,h0]
   refine x_f kK (hst) ?_
   simp only [go_sem,hP]
  ·have h1:F.2=K:=Decidable.byContradiction fun hc=>hd ⟨by omega,hc⟩
   simp only [go_sem,hP,h1,show ¬((K:Int)=0) from by omega]
   refine x_f kK (hst) ?_
   simp only [go_sem,hP]
end Go.Proofs.YtebndjnkmcahaaaGreatDoor
end

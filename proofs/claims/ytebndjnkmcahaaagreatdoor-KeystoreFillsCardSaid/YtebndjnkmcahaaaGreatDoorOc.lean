/- joined of several texts; own work; no statement of the seat is proved but in the last -/
import Derived.Test.YtebndjnkmcahaaaGreatDoorNz
section
namespace Go.Proofs.YtebndjnkmcahaaaGreatDoor
set_option linter.unusedSimpArgs false
set_option linter.unusedVariables false
open Go Go.Abs Go.RowKit
def plF (f:Cr→Int) (x:Cr) (l:List (Nat×Cr)):Int×Int :=
 l.foldl (fun s p=>if s.1<0∧p.2.rp=x.rp∧p.2.us=x.us then ((p.1:Int),f p.2) else s) (-1,0)
theorem vo (f:Cr→Int) (x:Cr) (l:List (Nat×Cr)) (p:Nat×Cr):plF f x (l++[p])=if (plF f x l).1<0∧p.2.rp=x.rp∧p.2.us=x.us then ((p.1:Int),f p.2) else plF f x l:=by
 unfold plF
 rw [List.foldl_append]
 rfl
def eX (l:List (Nat×Cr)):List Bool:=l.foldl (fun u p=>u.set p.1 true) (List.replicate 8 false)
theorem pZ (l:List (Nat×Cr)) (p:Nat×Cr):eX (l++[p])=(eX l).set p.1 true:=by simp [eX]
theorem mX (l:List (Nat×Cr)):(eX l).length=8:=by
 have:∀(l:List (Nat×Cr)) (u:List Bool),(l.foldl (fun u p=>u.set p.1 true) u).length=u.length:=by
  intro l
  induction l with
  | nil=>intro u;rfl
  | cons p l ih=>intro u;rw [List.foldl_cons,ih,List.length_set]
 rw [eX,this];rfl
theorem vp (D:Nat→CR) (n:Nat):∀p,p∈dC D n→p.1<n∧(D p.1).e=0∧p.2=(D p.1).x:=by
 intro p hp
 unfold dC at hp
 rw [List.mem_filterMap] at hp
 obtain⟨i,hi,h⟩:=hp
 split at h
 ·rename_i he;cases h;exact⟨List.mem_range.1 hi,he,rfl⟩
 ·cases h
def ee (s:ag) (y:Cr):Int:=dv (bl s) (cm 10 0 (idR y))
structure vq (d:ca) (D:Nat→CR):Prop where
 vl:VLen d.v.prs
 p:∀i:Nat,i<8→FPure Tryz.prog 130 [.p (.data 1 (vgetM (64+(i:Int)) d.v.prs).length ((vgetM (64+(i:Int)) d.v.prs).map bt))] (crAV (D i))
 r:∀i:Nat,i<8→FPure Tryz.prog 127 [.p (.data 1 (vgetM (64+(i:Int)) d.v.prs).length ((vgetM (64+(i:Int)) d.v.prs).map bt))] (crAV (D i))
 ok:∀i:Nat,i<8→(D i).e=0→CrOk (D i).x∧(D i).x.rs=true
def lW (u:List Bool):Nat→Nat→Int
 | _,0 => -1
 | i,k+1=>if u.getD i false=false then (i:Int) else lW u (i+1) k
def vr (u:List Bool):Int:=lW u 0 8
theorem Iw (f:Cr→Int) (x:Cr) (l:List (Nat×Cr)):(plF f x l).1 = -1∨0≤(plF f x l).1:=by
 have:∀(l:List (Nat×Cr)) (s:Int×Int),(s.1 = -1∨0≤s.1)→((l.foldl (fun s p=>if s.1<0∧p.2.rp=x.rp∧p.2.us=x.us then ((p.1:Int),f p.2) else s) s).1 = -1∨0≤(l.foldl (fun s p=>if s.1<0∧p.2.rp=x.rp∧p.2.us=x.us then ((p.1:Int),f p.2) else s) s).1):=by
  intro l
  induction l with
  | nil=>intro s h;exact h
  | cons p l ih =>
   intro s h
   rw [List.foldl_cons]
   apply ih
   split
   ·exact .inr (Int.natCast_nonneg _)
   ·exact h
 exact this l (-1,0) (.inl rfl)
def cN (s:ag) (D:Nat→CR) (x:Cr):Int×Int :=
 let r:=plF (ee s) x (dC D 8)
 (if r.1<0 then vr (eX (dC D 8)) else r.1,r.2)
set_option maxHeartbeats 2000000 in
theorem Fq (d:ca) (D:Nat→CR) (x:Cr) (h:vq d D):FPure Tryz.prog 59 [cP d,.agg (crC x)] (.tup [.i (cN d.v.prs D x).1,.i (cN d.v.prs D x).2]):=by
 refine en Tryz.func59 Tryz.ntmps59 Tryz.results59 [0,1,2,3,4,5,6,8,9,10,11,14,15,16,17,40,50,63,69] ?_;intro c hP h0 hE kK
 have hls:=kw d D h.vl h.p
 have hll:=pi D 8
 have hlt:=vp D 8
 generalize hl:dC D 8=l at *
 simp only [go_sem,hP]
 refine aa kK (by exact hls) ?_
 simp only [go_sem,hP]
 refine ay hE h0 [0,1,2,3,4,5,6,8,9,10,11,14,15,16,17,40,50,63,69] l.length (fun i=>⟨73,[(2,.ptr 0 0),(3,.ptr 1 0),(4,.i (plF (ee d.v.prs) x (l.take i)).1),(5,.i (plF (ee d.v.prs) x (l.take i)).2),(6,.ptr 2 0),(14,.p (.data 10 l.length (jy l))),(15,.i l.length),(16,.i i)],[(0,some ⟨43,dvC (iW d)⟩),(1,some ⟨61,crC x⟩),(2,some ⟨181,bAs (eX (l.take i))⟩)],3⟩) [] (fun i=>i) ?_ ?_
 ·refine⟨rfl,?_,?_,rfl,rfl,trivial,fun i h=>h⟩
  ·simp only [go_sem,List.take_zero]
   exact⟨rfl,rfl⟩
  ·simp only [go_sem,List.take_zero]
   exact dD _ _ _ (eX [])
 intro i hi
 rcases Nat.lt_or_ge i l.length with hin|hin
 ·have hw:IntKind.i64.wrap ((i:Int)+1)=((i+1:Nat):Int):=by rw [ab (by omega) (by omega)];omega
  have hp:=yg l i hin
  have hta:l.take (i+1)=l.take i++[l.getD i (0,cr0)]:=by rw [List.take_add_one];simp [List.getD_eq_getElem?_getD,hin]
  have hmem:l.getD i (0,cr0)∈l:=by rw [show l.getD i (0,cr0)=l[i]'hin from by simp [List.getD_eq_getElem?_getD,hin]];exact List.getElem_mem _
  obtain⟨h8,he,hx⟩:=hlt _ hmem
  obtain⟨hok,hrs⟩:=h.ok _ h8 he
  rw [← hx] at hok hrs
  rw [hta,pZ,vo]
  have hul:=mX (l.take i)
  have hid:=JW 0 0 _ hok hrs
  have hnu:=k5 d (idR (l.getD i (0,cr0)).2) 176 (tw _) (by decide) h.vl
  rw [show (dv (bl d.v.prs) (cm 10 0 (idR (l.getD i (0,cr0)).2)):Int)=ee d.v.prs (l.getD i (0,cr0)).2 from rfl] at hnu
  generalize l.getD i (0,cr0)=p at *
  generalize eX (l.take i)=u at *
  generalize plF (ee d.v.prs) x (l.take i)=R at *
  by_cases hc:R.1<0∧p.2.rp=x.rp∧p.2.us=x.us
  ·rw [if_pos hc]
   obtain⟨c1,c2,c3⟩:=hc
   simp only [go_sem,hP,hp,ncP,crP,hw,show ((i:Int)<(l.length:Int)) from by omega,c1,gX,eq_true c2,eq_true c3]
   refine⟨by omega,⟨by omega,by omega⟩,by rw [fT];omega,?_⟩
   refine aa kK (by exact hid) ?_
   simp only [go_sem,hP]
   refine aa kK (by exact hnu) ?_
   simp only [go_sem,hP,hw]
   refine⟨hin,aZ [0,1,2] rfl ?_ ?_ rfl rfl (Nat.le_of_ble_eq_true rfl)⟩
   ·simp only [go_sem]
   ·simp only [go_sem]
    rw [lV]
    exact dD _ _ _ _
  ·rw [if_neg hc]
   by_cases c1:R.1<0
   ·by_cases c2:p.2.rp=x.rp
    ·have c3:¬p.2.us=x.us:=fun h=>hc ⟨c1,c2,h⟩
     simp only [go_sem,hP,hp,ncP,crP,hw,show ((i:Int)<(l.length:Int)) from by omega,c1,gX,eq_true c2,eq_false c3]
     refine⟨by omega,⟨by omega,by omega⟩,by rw [fT];omega,hin,aZ [0,1,2] rfl ?_ ?_ rfl rfl (Nat.le_of_ble_eq_true rfl)⟩
     ·simp only [go_sem]
     ·simp only [go_sem]
      rw [lV]
      exact dD _ _ _ _
    ·simp only [go_sem,hP,hp,ncP,crP,hw,show ((i:Int)<(l.length:Int)) from by omega,c1,gX,eq_false c2]
     refine⟨by omega,⟨by omega,by omega⟩,by rw [fT];omega,hin,aZ [0,1,2] rfl ?_ ?_ rfl rfl (Nat.le_of_ble_eq_true rfl)⟩
     ·simp only [go_sem]
     ·simp only [go_sem]
      rw [lV]
      exact dD _ _ _ _
   ·simp only [go_sem,hP,hp,ncP,crP,hw,show ((i:Int)<(l.length:Int)) from by omega,c1]
    refine⟨by omega,⟨by omega,by omega⟩,by rw [fT];omega,hin,aZ [0,1,2] rfl ?_ ?_ rfl rfl (Nat.le_of_ble_eq_true rfl)⟩
    ·simp only [go_sem]
    ·simp only [go_sem]
     rw [lV]
     exact dD _ _ _ _
 obtain rfl:i=l.length:=by omega
 rw [List.take_length]
 have hul:=mX l
 have hpm:cN d.v.prs D x=(if (plF (ee d.v.prs) x l).1<0 then vr (eX l) else (plF (ee d.v.prs) x l).1,(plF (ee d.v.prs) x l).2):=by unfold cN;rw [hl]
 have hge:=Iw (ee d.v.prs) x l
 generalize plF (ee d.v.prs) x l=R at *
 generalize eX l=u at *
 simp only [go_sem,hP,show ¬((l.length:Int)<(l.length:Int)) from by omega]
 refine bo hE h0 [0,1,2,3,4,5,6,8,9,10,11,14,15,16,17,40,50,63,69] (α:={ q:Int×Nat // q.2≤8∧(q.1 = -1∨0≤q.1)∧(if q.1<0 then lW u q.2 (8-q.2) else q.1)=(cN d.v.prs D x).1 }) (fun q=>⟨73,[(4,.i q.1.1),(5,.i R.2),(6,.ptr 2 0),(11,.i q.1.2)],[(2,some ⟨181,bAs u⟩)],3⟩) (fun q=>8-q.1.2) ⟨(R.1,0),Nat.zero_le _,hge,by rw [hpm];rfl⟩ [] (fun i=>i) ?_ ?_
 ·refine⟨rfl,?_,?_,rfl,rfl,trivial,fun i h=>h⟩
  ·simp only [go_sem]
   done
  ·simp only [go_sem]
   exact dD _ _ _ _
 rintro⟨⟨s,i⟩,hi8,hs,hF⟩
 have hF2:(cN d.v.prs D x).2=R.2:=by rw [hpm]
 generalize cN d.v.prs D x=F at *
 dsimp only at hi8 hs hF
 rcases hs with rfl|hs
 ·rw [if_pos (by decide)] at hF
  rcases Nat.lt_or_ge i 8 with hin|hin
  ·have hw:IntKind.i64.wrap ((i:Int)+1)=((i+1:Nat):Int):=by rw [ab (by omega) (by omega)];omega
   have hai:=CX u i (by omega)
   rw [show 8-i=(8-(i+1))+1 from by omega] at hF
   simp only [lW] at hF
   by_cases hk:u.getD i false=false
   ·rw [if_pos hk] at hF
    rw [hk] at hai
    simp only [go_sem,hP,hw,hai,show ((i:Int)<8) from by omega]
    refine⟨by omega,by rw [fT];omega,⟨((i:Int),i+1),by omega,.inr (Int.natCast_nonneg _),by rw [if_neg (by show ¬((i:Int)<0);omega)];exact hF⟩,by show 8-(i+1)<8-i;omega,aZ [0,1,2] rfl ?_ ?_ rfl rfl (Nat.le_of_ble_eq_true rfl)⟩
    ·simp only [go_sem]
    ·simp only [go_sem]
     exact dD _ _ _ _
   ·rw [if_neg hk] at hF
    rw [show u.getD i false=true from by simpa using hk] at hai
    simp only [go_sem,hP,hw,hai,show ((i:Int)<8) from by omega]
    refine⟨by omega,by rw [fT];omega,⟨(-1,i+1),by omega,.inl rfl,hF⟩,by show 8-(i+1)<8-i;omega,aZ [0,1,2] rfl ?_ ?_ rfl rfl (Nat.le_of_ble_eq_true rfl)⟩
    ·simp only [go_sem]
    ·simp only [go_sem]
     exact dD _ _ _ _
  ·obtain rfl:i=8:=by omega
   simp only [go_sem,hP,show ¬((8:Int)<8) from by decide]
   exact⟨hF,hF2.symm⟩
 ·rw [if_neg (by omega)] at hF
  simp only [go_sem,hP,show ¬(s<0) from by omega]
  exact⟨hF,hF2.symm⟩
end Go.Proofs.YtebndjnkmcahaaaGreatDoor
end
section
section
namespace Go.Proofs.YtebndjnkmcahaaaGreatDoor
set_option linter.unusedSimpArgs false
set_option linter.unusedVariables false
open Go Go.Abs Go.RowKit
def leF (t:UInt64):Ls:=⟨t,0,2,0⟩
theorem C1 (t:UInt64):eW (leF t)=true:=by simp [eW,leF]
def fE (x:Cr) (t:UInt64) (sl dr:Int) (n:Nat):ag :=
 (if x.rs=true then [(64+sl,dh x)] else [])++((16+(n:Int),cf (leF t))::(if 0<dr∧dr≠n then [(16+dr,[])] else []))
def jH (d:ca) (D:Nat→CR) (x:Cr) (t:UInt64) (B:Int):DR :=
 if dv (bl d.v.prs) t≠0 then ⟨d,0,10⟩ else
 if x.rs=true∧(cN d.v.prs D x).1<0 then ⟨d,0,12⟩ else
 let dr:=if x.rs=true then (cN d.v.prs D x).2 else 0
 if eB d.v.prs dr=0 then ⟨d,0,12⟩ else
 jA d (fE x t (cN d.v.prs D x).1 dr (eB d.v.prs dr)) B
theorem yE (t:UInt64):FPure Tryz.prog 57 [.p (.data 4 1 [wd t,.v (.int .i64 0),.v (.int .i64 2),.v (.int .i64 0)])] (.i 0):=EF (leF t) (C1 t)
theorem kb (P:Nat→Bool):∀i k:Nat,scan P i k≤i+k
 | _,0=>Nat.zero_le _
 | i,k+1=>by
  simp only [scan]
  split
  ·omega
  ·have:=kb P (i+1) k;omega
set_option maxHeartbeats 4000000 in
theorem Ix (d:ca) (D:Nat→CR) (x:Cr) (id:List UInt8) (n:Nat) (B:Int) (h:vq d D) (hon:d.on=true) (hx:CrOk x) (hr:x.rs=false) (hn:id.length=n) (hnb:n<100000) (hb:d.v.j.bs.length<1000000000) (hB:i64 B) :
 FPure Tryz.prog 18 [cP d,.agg (crC x),.p (.data 1 n (id.map bt)),.i 0,.i 2,.i 0,.i B] (mF (jH d D x (cm 10 0 id) B)):=by
 refine en Tryz.func18 Tryz.ntmps18 Tryz.results18 [0,1,2,3,4,5,6,7,8,14,15,16,17,18,19,21,22,23,24,25,28,36,48,56,59,67,73,76,98] ?_;intro c hP h0 hE kK
 obtain⟨R,hR⟩:∃R,jH d D x (cm 10 0 id) B=R:=⟨_,rfl⟩;rw [hR] at hE kK;(try rw [hR])
 unfold jH at hR
 have he:=j8 x hx
 have ht:=xd id n hn hnb
 have hnu:=k5 d id n hn hnb h.vl
 generalize cm 10 0 id=t at *
 have hv:=yE t
 have hro:=yC d 0 h.vl
 have hle:=wR (leF t)
 simp only [hr,Bool.false_eq_true,false_and,if_false] at hR
 generalize dv (bl d.v.prs) t=N at *
 generalize hK:eB d.v.prs 0=K at *
 by_cases hN:N=0
 ·rw [if_neg (by omega)] at hR
  by_cases hk:K=0
  ·rw [if_pos hk] at hR
   subst hR
   simp only [go_sem,hP,hon]
   refine aa kK (by exact he) ?_
   simp only [go_sem,hP]
   refine aa kK (by exact ht) ?_
   simp only [go_sem,hP]
   refine x_f kK (hv) ?_
   simp only [go_sem,hP]
   refine aa kK (by exact hnu) ?_
   simp only [go_sem,hP,hN,hr]
   refine aa kK (by exact hro) ?_
   simp only [go_sem,hP,hk]
   done
  ·rw [if_neg hk] at hR
   have hlen:=j3 (leF t)
   have hK16:K<1000:=by rw [← hK];exact Nat.lt_of_le_of_lt (kb _ 1 15) (by decide)
   have hw:IntKind.i64.wrap (16+(K:Int))=16+(K:Int):=ab (by omega) (by omega)
   have hal:fE x t (cN d.v.prs D x).1 0 K=[(16+(K:Int),cf (leF t))]:=by simp [fE,hr]
   rw [hal] at hR
   generalize hlb:cf (leF t)=lb at *
   have hst:=pn d [(16+(K:Int),lb)] B hb (fun y hy=>by rw [List.mem_singleton.1 hy];show lb.length<1000;omega) (by simp) hB
   rw [hR] at hst
   simp only [go_sem,hP,hon]
   refine aa kK (by exact he) ?_
   simp only [go_sem,hP]
   refine aa kK (by exact ht) ?_
   simp only [go_sem,hP]
   refine x_f kK (hv) ?_
   simp only [go_sem,hP]
   refine aa kK (by exact hnu) ?_
   simp only [go_sem,hP,hN,hr]
   refine aa kK (by exact hro) ?_
   simp only [go_sem,hP,hw,show ¬((K:Int)=0) from by omega]
   refine aa kK (by exact hle) ?_
   simp only [go_sem,hP]
   refine x_f kK (hst) ?_
   simp only [go_sem,hP]
   done
 ·rw [if_pos hN] at hR
  subst hR
  simp only [go_sem,hP,hon]
  refine aa kK (by exact he) ?_
  simp only [go_sem,hP]
  refine aa kK (by exact ht) ?_
  simp only [go_sem,hP]
  refine x_f kK (hv) ?_
  simp only [go_sem,hP]
  refine aa kK (by exact hnu) ?_
  simp only [go_sem,hP,hN]
  done
end Go.Proofs.YtebndjnkmcahaaaGreatDoor
end
section
namespace Go.Proofs.YtebndjnkmcahaaaGreatDoor
set_option linter.unusedSimpArgs false
set_option linter.unusedVariables false
open Go Go.Abs Go.RowKit
theorem yF (t:UInt64) (m:Nat) (hm:0<m):∀l:List (Nat×Ls),(∀p,p∈l→p.1<m)→dv l t<m
 | [],_=>hm
 | p::l,h=>by
  simp only [dv]
  split
  ·exact h p (List.mem_cons_self ..)
  ·exact yF t m hm l fun q hq=>h q (List.mem_cons_of_mem _ hq)
theorem Fr (s:ag) (y:Cr):0≤ee s y∧ee s y<16:=by
 have:=yF (cm 10 0 (idR y)) 16 (by decide) (bl s) (pY s 16)
 unfold ee
 omega
theorem Iy (f:Cr→Int) (x:Cr) (hf:∀y,0≤f y∧f y<16) (l:List (Nat×Cr)) (hl:∀p,p∈l→p.1<8):((plF f x l).1<8)∧0≤(plF f x l).2∧(plF f x l).2<16:=by
 have:∀(l:List (Nat×Cr)) (s:Int×Int),(∀p,p∈l→p.1<8)→(s.1<8∧0≤s.2∧s.2<16) →
  ((l.foldl (fun s p=>if s.1<0∧p.2.rp=x.rp∧p.2.us=x.us then ((p.1:Int),f p.2) else s) s).1<8∧0≤(l.foldl (fun s p=>if s.1<0∧p.2.rp=x.rp∧p.2.us=x.us then ((p.1:Int),f p.2) else s) s).2 ∧
   (l.foldl (fun s p=>if s.1<0∧p.2.rp=x.rp∧p.2.us=x.us then ((p.1:Int),f p.2) else s) s).2<16):=by
  intro l
  induction l with
  | nil=>intro s _ h;exact h
  | cons p l ih =>
   intro s hl h
   rw [List.foldl_cons]
   apply ih _ (fun q hq=>hl q (List.mem_cons_of_mem _ hq))
   have:=hl p (List.mem_cons_self ..)
   have:=hf p.2
   split
   ·exact⟨by show (p.1:Int)<8;omega,this.1,this.2⟩
   ·exact h
 exact this l (-1,0) hl ⟨by decide,by decide,by decide⟩
theorem vt (u:List Bool):∀i k:Nat,lW u i k<(i+k:Nat)∨lW u i k = -1
 | _,0 => .inr rfl
 | i,k+1=>by
  simp only [lW]
  split
  ·exact .inl (by omega)
  ·rcases vt u (i+1) k with h|h
   ·exact .inl (by omega)
   ·exact .inr h
theorem mY (s:ag) (D:Nat→CR) (x:Cr):(cN s D x).1<8∧0≤(cN s D x).2∧(cN s D x).2<16:=by
 have hb:=Iy (ee s) x (Fr s) (dC D 8) (fun p hp=>(vp D 8 p hp).1)
 unfold cN
 refine⟨?_,hb.2⟩
 show (if _ then _ else _)<(8:Int)
 split
 ·rcases vt (eX (dC D 8)) 0 8 with h|h
  ·exact h
  ·unfold vr;omega
 ·exact hb.1
theorem Ak {F:aA} {w:World} {s n:Nat} {cs cs':List PV} {u:Value} (hl:cs'.length=cs.length) (hc:∀(j:Nat) x,cs[j]?=some x→cs'[j]?=some x∨(∃s,x = .data s 0 []∧cs'[j]?=some (.v (.slice none 0 0))))
 (h:RdP F w (.data s n cs') u):RdP F w (.data s n cs) u:=by
 cases h with
 | nil =>
  obtain rfl:cs=[]:=List.length_eq_zero_iff.1 (by rw [← hl];rfl)
  exact .nil _ _ _
 | data _ _ _ b off cap f hl' hcap hF hc' h1 hr =>
  refine .data s n cs b off cap f (by rw [← hl];exact hl') hcap hF (fun j hj=>hc' j (by rw [hl];exact hj)) (fun j hj=>h1 j (by rw [hl];exact hj)) fun j x hx=>?_
  rcases hc j x hx with h|⟨s',rfl,h⟩
  ·exact hr j x h
  ·have:=hr j _ h
   generalize f j=u at *
   cases this with
   | v _ _=>exact .nil _ _ _
theorem xh {P:Program} {f:FuncId} {vs vs':List AV} {v:AV} (h:FPure P f vs v) (hl:vs'.length=vs.length) (he:∀(ρ:am) (F:aA) (w:World) (g:Nat→Value),(∀j x,vs'[j]?=some x→Rd ρ F w x (g j))→∀j x,vs[j]?=some x→Rd ρ F w x (g j)):FPure P f vs' v:=by
 intro hh
 obtain⟨h2⟩:=h hh
 exact⟨fun ρ F us w hpre hz hr=>h2 ρ F us w hpre (by rw [hz,hl]) (he ρ F w _ hr)⟩
theorem rB {P:Program} {f:FuncId} {d:ca} {a b k:Int} {E0 lb:List UInt8} {B:Int} {v:AV} (h:FPure P f [cP d,.p (PL [(a,E0),(b,lb),(k,[])]),.i B] v) :
 FPure P f [cP d,.p (.data 2 3 [.v (.int .i64 a),.data 1 E0.length (E0.map bt),.v (.int .i64 b),.data 1 lb.length (lb.map bt),.v (.int .i64 k),.v (.slice none 0 0)]),.i B] v:=by
 refine xh h rfl fun ρ F w g hg j x hj=>?_
 match j,hj with
 | 0,hj=>exact hg 0 x hj
 | 1,hj =>
  have h1:=hg 1 _ rfl
  cases hj
  cases h1 with
  | p _ _ h1 =>
   refine .p _ _ (Ak (cs':=[.v (.int .i64 a),.data 1 E0.length (E0.map bt),.v (.int .i64 b),.data 1 lb.length (lb.map bt),.v (.int .i64 k),.v (.slice none 0 0)]) rfl (fun j x hx=>?_) h1)
   match j,hx with
   | 0,hx=>exact .inl hx
   | 1,hx=>exact .inl hx
   | 2,hx=>exact .inl hx
   | 3,hx=>exact .inl hx
   | 4,hx=>exact .inl hx
   | 5,hx=>cases hx;exact .inr ⟨1,rfl,rfl⟩
   | j+6,hx=>rw [List.getElem?_eq_none (by show 6≤j+6;omega)] at hx;cases hx
 | 2,hj=>exact hg 2 x hj
 | j+3,hj=>simp at hj
set_option maxHeartbeats 4000000 in
theorem Iz (d:ca) (D:Nat→CR) (x:Cr) (id:List UInt8) (n:Nat) (B:Int) (h:vq d D) (hon:d.on=true) (hx:CrOk x) (hr:x.rs=true) (hxl:(dh x).length<1000) (hn:id.length=n) (hnb:n<100000) (hb:d.v.j.bs.length<1000000000) (hB:i64 B) :
 FPure Tryz.prog 18 [cP d,.agg (crC x),.p (.data 1 n (id.map bt)),.i 0,.i 2,.i 0,.i B] (mF (jH d D x (cm 10 0 id) B)):=by
 refine en Tryz.func18 Tryz.ntmps18 Tryz.results18 [0,1,2,3,4,5,6,7,8,14,15,16,17,18,19,21,22,23,24,25,28,36,48,56,59,67,73,76,98] ?_;intro c hP h0 hE kK
 obtain⟨R,hR⟩:∃R,jH d D x (cm 10 0 id) B=R:=⟨_,rfl⟩;rw [hR] at hE kK;(try rw [hR])
 unfold jH at hR
 have he:=j8 x hx
 have ht:=xd id n hn hnb
 have hnu:=k5 d id n hn hnb h.vl
 generalize cm 10 0 id=t at *
 have hv:=yE t
 have hpl:=Fq d D x h
 have hbd:=mY d.v.prs D x
 simp only [hr,true_and,if_true] at hR
 generalize cN d.v.prs D x=F at *
 have hro:=yC d F.2 h.vl
 have hle:=wR (leF t)
 have hlen:=j3 (leF t)
 generalize dv (bl d.v.prs) t=N at *
 have hK16:eB d.v.prs F.2<1000:=Nat.lt_of_le_of_lt (kb _ 1 15) (by decide)
 generalize hK:eB d.v.prs F.2=K at *
 by_cases hN:N=0
 case neg =>
  rw [if_pos hN] at hR
  subst hR
  simp only [go_sem,hP,hon]
  refine aa kK (by exact he) ?_
  simp only [go_sem,hP]
  refine aa kK (by exact ht) ?_
  simp only [go_sem,hP]
  refine x_f kK (hv) ?_
  simp only [go_sem,hP]
  refine aa kK (by exact hnu) ?_
  simp only [go_sem,hP,hN]
 rw [if_neg (by omega)] at hR
 by_cases hp:F.1<0
 ·rw [if_pos hp] at hR
  subst hR
  simp only [go_sem,hP,hon]
  refine aa kK (by exact he) ?_
  simp only [go_sem,hP]
  refine aa kK (by exact ht) ?_
  simp only [go_sem,hP]
  refine x_f kK (hv) ?_
  simp only [go_sem,hP]
  refine aa kK (by exact hnu) ?_
  simp only [go_sem,hP,hN,eq_true hr]
  refine aa kK (by exact hpl) ?_
  simp only [go_sem,hP,hp]
 rw [if_neg hp] at hR
 by_cases hk:K=0
 ·rw [if_pos hk] at hR
  subst hR
  simp only [go_sem,hP,hon]
  refine aa kK (by exact he) ?_
  simp only [go_sem,hP]
  refine aa kK (by exact ht) ?_
  simp only [go_sem,hP]
  refine x_f kK (hv) ?_
  simp only [go_sem,hP]
  refine aa kK (by exact hnu) ?_
  simp only [go_sem,hP,hN,eq_true hr]
  refine aa kK (by exact hpl) ?_
  simp only [go_sem,hP,hp]
  refine aa kK (by exact hro) ?_
  simp only [go_sem,hP,hk]
 rw [if_neg hk] at hR
 have hw:IntKind.i64.wrap (16+(K:Int))=16+(K:Int):=ab (by omega) (by omega)
 have hw2:IntKind.i64.wrap (64+F.1)=64+F.1:=ab (by omega) (by omega)
 have hw3:IntKind.i64.wrap (16+F.2)=16+F.2:=ab (by omega) (by omega)
 generalize hlb:cf (leF t)=lb at *
 generalize hE0:dh x=E0 at *
 by_cases hd:0<F.2∧F.2≠K
 ·have hal:fE x t F.1 F.2 K=[(64+F.1,E0),(16+(K:Int),lb),(16+F.2,[])]:=by simp [fE,hr,hd,hlb,hE0]
  rw [hal] at hR
  have hst:=pn d [(64+F.1,E0),(16+(K:Int),lb),(16+F.2,[])] B hb (fun y hy=>by simp at hy;rcases hy with rfl|rfl|rfl;exact hxl;(show lb.length<1000;omega);exact Nat.succ_pos _) (by simp) hB
  rw [hR] at hst
  simp only [go_sem,hP,hon]
  refine aa kK (by exact he) ?_
  simp only [go_sem,hP]
  refine aa kK (by exact ht) ?_
  simp only [go_sem,hP]
  refine x_f kK (hv) ?_
  simp only [go_sem,hP]
  refine aa kK (by exact hnu) ?_
  simp only [go_sem,hP,hN,eq_true hr]
  refine aa kK (by exact hpl) ?_
  simp only [go_sem,hP,hp]
  refine aa kK (by exact hro) ?_
  simp only [go_sem,hP,hw,hw2,eq_true hr,show ¬((K:Int)=0) from by omega]
  refine aa kK (by exact hle) ?_
  simp only [go_sem,hP,hw3,show (F.2>0) from hd.1,hd.2]
  refine x_f kK (rB hst) ?_
  simp only [go_sem,hP]
 ·have hal:fE x t F.1 F.2 K=[(64+F.1,E0),(16+(K:Int),lb)]:=by simp [fE,hr,hd,hlb,hE0]
  rw [hal] at hR
  have hst:=pn d [(64+F.1,E0),(16+(K:Int),lb)] B hb (fun y hy=>by simp at hy;rcases hy with rfl|rfl;exact hxl;(show lb.length<1000;omega)) (by simp) hB
  rw [hR] at hst
  simp only [go_sem,hP,hon]
  refine aa kK (by exact he) ?_
  simp only [go_sem,hP]
  refine aa kK (by exact ht) ?_
  simp only [go_sem,hP]
  refine x_f kK (hv) ?_
  simp only [go_sem,hP]
  refine aa kK (by exact hnu) ?_
  simp only [go_sem,hP,hN,eq_true hr]
  refine aa kK (by exact hpl) ?_
  simp only [go_sem,hP,hp]
  refine aa kK (by exact hro) ?_
  simp only [go_sem,hP,hw,hw2,eq_true hr,show ¬((K:Int)=0) from by omega]
  refine aa kK (by exact hle) ?_
  by_cases h0:F.2>0
  ·have h1:F.2=K:=Decidable.byContradiction fun hc=>hd ⟨h0,hc⟩
   simp only [go_sem,hP,h0,h1,show ((K:Int)>0) from by omega]
   refine x_f kK (hst) ?_
   simp only [go_sem,hP]
  ·simp only [go_sem,hP,h0]
   refine x_f kK (hst) ?_
   simp only [go_sem,hP]
end Go.Proofs.YtebndjnkmcahaaaGreatDoor
end
end

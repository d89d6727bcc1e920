/- joined of several texts; own work; no statement of the seat is proved but in the last -/
import Derived.Test.YtebndjnkmcahaaaGreatDoorOf
section
section
namespace Go.Proofs.YtebndjnkmcahaaaGreatDoor
set_option linter.unusedSimpArgs false
set_option linter.unusedVariables false
open Go Go.Abs Go.RowKit
theorem xi (v:List Itm) (n:Nat):(bP (gW v (n+1))).length=(bP (gW v n)).length+(bD (.u (UInt64.ofNat (n+1)))).length+(bD (v.getD n (.b false))).length:=by
 rw [j7]
 simp only [bP,List.flatMap_append,List.flatMap_cons,List.flatMap_nil,List.length_append,List.length_nil]
 omega
theorem C3:∀i:Fin 9,(bD (.u (UInt64.ofNat (i.val+1)))).length=1:=by decide +kernel
theorem Fu (x:Cr):(dh x).length≤100+x.rp.length+x.us.length+x.nm.length:=by
 have h1:=gP (.t x.rp);have h2:=gP (.d x.us);have h3:=gP (.t x.nm);have h4:=gP (.u x.sd);have h5:=gP (.u (ik x.hg));have h6:=gP (.u (ik x.pt))
 have b1:(bD (.b x.rs)).length=1:=rfl
 have b2:(bD (.b x.sh)).length=1:=rfl
 have b3:(bD (.b x.bk)).length=1:=rfl
 have hs:∀n:Nat,n<9→(bP (gW (dK x) (n+1))).length=(bP (gW (dK x) n)).length+1+(bD ((dK x).getD n (.b false))).length:=fun n hn=>by
  rw [xi,C3 ⟨n,hn⟩]
 have s0:(bP (gW (dK x) 0)).length=1:=by
  show (bD (.m 9)++[]).length=1
  decide +kernel
 have s1:=hs 0 (by decide);have s2:=hs 1 (by decide);have s3:=hs 2 (by decide);have s4:=hs 3 (by decide);have s5:=hs 4 (by decide);have s6:=hs 5 (by decide);have s7:=hs 6 (by decide);have s8:=hs 7 (by decide);have s9:=hs 8 (by decide)
 simp only [Nat.reduceAdd] at s1 s2 s3 s4 s5 s6 s7 s8 s9
 rw [show (dK x).getD 0 (.b false) = .t x.rp from rfl] at s1
 rw [show (dK x).getD 1 (.b false) = .d x.us from rfl] at s2
 rw [show (dK x).getD 2 (.b false) = .t x.nm from rfl] at s3
 rw [show (dK x).getD 3 (.b false) = .u x.sd from rfl] at s4
 rw [show (dK x).getD 4 (.b false) = .u (ik x.hg) from rfl] at s5
 rw [show (dK x).getD 5 (.b false) = .b x.rs from rfl] at s6
 rw [show (dK x).getD 6 (.b false) = .u (ik x.pt) from rfl] at s7
 rw [show (dK x).getD 7 (.b false) = .b x.sh from rfl] at s8
 rw [show (dK x).getD 8 (.b false) = .b x.bk from rfl] at s9
 simp only [Itm.da,List.length_nil] at h1 h2 h3 h4 h5 h6
 show (bP (gW (dK x) 9)).length≤_
 omega
theorem Fv (m:Int) (i:Nat):(dh (crF m i)).length≤160:=by
 have h:=Fu (crF m i)
 have hr:∀k,(rpS k).length≤9:=fun k=>by
  match k with
  | 0=>decide
  | 1=>decide
  | k+2=>exact (show (rpS 2).length≤9 from by decide)
 have h1:(crF m i).rp.length≤9:=hr _
 have h2:(crF m i).us.length=1:=rfl
 have h3:(crF m i).nm.length≤32:=by
  show (txS _++txS _).length≤32
  rw [List.length_append]
  have l1:=ka (k8 (bc .i64 (m+37*(i:Int)) 4))
  have l2:=ka (k8 (bc .i64 (bc .i64 (m+37*(i:Int)) 4) 3))
  omega
 omega
end Go.Proofs.YtebndjnkmcahaaaGreatDoor
end
section
namespace Go.Proofs.YtebndjnkmcahaaaGreatDoor
set_option linter.unusedSimpArgs false
set_option linter.unusedVariables false
open Go Go.Abs Go.RowKit
theorem p3 (k k':Int):∀s:ag,vgetM k (iE k' s)=if k'=k then [] else vgetM k s
 | []=>by simp [iE,vgetM]
 | q::r=>by
  rw [ng]
  have ih:=p3 k k' r
  by_cases h1:q.1=k'
  ·rw [if_neg (fun c=>c h1),ih]
   by_cases h2:k'=k
   ·rw [if_pos h2,if_pos h2]
   ·rw [if_neg h2,if_neg h2]
    simp only [vgetM]
    rw [if_neg (by omega)]
  ·rw [if_pos h1]
   simp only [vgetM]
   by_cases h3:q.1=k
   ·rw [if_pos h3,if_neg (by omega),if_pos h3]
   ·rw [if_neg h3,ih,if_neg h3]
theorem vA (k k':Int) (v:List UInt8):∀s:ag,(∀x,x∈s→x.1≠k')→vgetM k (gB k' v s)=if k'=k then v else vgetM k s
 | [],_=>by simp [gB,vgetM]
 | q::r,h=>by
  have ih:=vA k k' v r (fun x hx=>h x (by simp [hx]))
  have hq:=h q (by simp)
  simp only [gB]
  split
  ·simp only [vgetM]
  ·simp only [vgetM]
   rw [ih]
   by_cases h3:q.1=k
   ·rw [if_pos h3,if_neg (by omega),if_pos h3]
   ·rw [if_neg h3,if_neg h3]
theorem vB (k:Int) (s:ag) (p:Int×List UInt8):vgetM k (dz s p)=if p.1=k then p.2 else vgetM k s:=by
 unfold dz
 split
 ·rename_i h
  rw [p3,List.eq_nil_of_length_eq_zero h]
 ·unfold wx
  rw [vA _ _ _ _ (fun x hx=>by have:=(List.mem_filter.1 hx).2;simpa using this),p3]
  by_cases h:p.1=k
  ·rw [if_pos h,if_pos h]
  ·rw [if_neg h,if_neg h,if_neg h]
def nA (k:Int) (s x:ag):List UInt8:=x.foldl (fun w p=>if p.1=k then p.2 else w) (vgetM k s)
theorem nB (k:Int):∀(x s:ag),vgetM k (bm s x)=nA k s x
 | [],s=>rfl
 | p::x,s=>by
  show vgetM k (bm (dz s p) x)=_
  rw [nB k x (dz s p)]
  unfold nA
  rw [List.foldl_cons,vB]
theorem p4 (k:Int) {s:ag} (h:Srt s) (x:ag):vgetM k (bv s x)=nA k s x:=by
 rw [(fC x s h).1,nB]
theorem VOk.vlen {v:Vt} {G:Int} (h:VOk v G):VLen v.prs :=
 ⟨by have:=h.prl;omega,fun x hx=>by have:=(h.so.el x hx).2.2.2;omega⟩
theorem VOk.mono {v:Vt} {G H:Int} (h:VOk v G) (hg:G≤H):VOk v H:=⟨h.mt,h.pr,h.so,Int.le_trans h.gen hg⟩
structure FiI (f:c8) (d:ca) (D:Nat→CR) (G:Int):Prop where
 fac:d.fac=f
 on:d.on=true
 nx:d.nx.ids.length<1000000000
 len:d.v.j.bs.length<1000000000
 ok:VOk d.v G
 sl:vq d D
 m8:(vgetM 1 d.v.prs).length≤8
theorem FiI.mono {f:c8} {d:ca} {D:Nat→CR} {G H:Int} (h:FiI f d D G) (hg:G≤H):FiI f d D H:=⟨h.fac,h.on,h.nx,h.len,h.ok.mono hg,h.sl,h.m8⟩
def Fw (D:Nat→CR) (x:Cr) (sl:Int):Nat→CR:=fun i=>if x.rs=true∧(i:Int)=sl then ⟨x,0⟩ else D i
theorem vC (x:Cr) (t:UInt64) (sl dr:Int) (n:Nat) (s:ag) (hn:n≤16) (hd:dr<16) (hs:0≤sl) (i:Nat) :
 nA (64+(i:Int)) s (fE x t sl dr n)=if x.rs=true∧(i:Int)=sl then dh x else vgetM (64+(i:Int)) s:=by
 have h1:∀w:List UInt8,((16+(n:Int),cf (leF t))::(if 0<dr∧dr≠n then [(16+dr,([]:List UInt8))] else [])).foldl (fun w p=>if p.1=64+(i:Int) then p.2 else w) w=w:=fun w=>by
  rw [List.foldl_cons,if_neg (by show ¬(16+(n:Int)=64+(i:Int));omega)]
  split
  ·rw [List.foldl_cons,if_neg (by show ¬(16+dr=64+(i:Int));omega)];rfl
  ·rfl
 unfold nA fE
 rw [List.foldl_append,h1]
 by_cases hr:x.rs=true
 ·rw [if_pos hr,List.foldl_cons]
  by_cases hi:(i:Int)=sl
  ·rw [if_pos (show 64+sl=64+(i:Int) by omega),if_pos ⟨hr,hi⟩];rfl
  ·rw [if_neg (show ¬(64+sl=64+(i:Int)) by omega),if_neg (fun c=>hi c.2)];rfl
 ·rw [if_neg hr,if_neg (fun c=>hr c.1)];rfl
theorem Am (x:Cr) (t:UInt64) (sl dr:Int) (n:Nat) (s:ag) (hs:0≤sl∨x.rs=false):nA 1 s (fE x t sl dr n)=vgetM 1 s:=by
 have h1:∀w:List UInt8,((16+(n:Int),cf (leF t))::(if 0<dr∧dr≠n then [(16+dr,([]:List UInt8))] else [])).foldl (fun w p=>if p.1=1 then p.2 else w) w=w:=fun w=>by
  rw [List.foldl_cons,if_neg (by show ¬(16+(n:Int)=1);omega)]
  split
  ·rename_i h
   rw [List.foldl_cons,if_neg (by show ¬(16+dr=1);omega)];rfl
  ·rfl
 unfold nA fE
 rw [List.foldl_append,h1]
 by_cases hr:x.rs=true
 ·have:0≤sl:=by rcases hs with h|h;exact h;rw [hr] at h;cases h
  rw [if_pos hr,List.foldl_cons,if_neg (show ¬(64+sl=1) by omega)];rfl
 ·rw [if_neg hr];rfl
theorem C4 (x:Cr) (t:UInt64) (sl dr:Int) (n:Nat) (hx:(dh x).length<1000):(∀y,y∈fE x t sl dr n→y.2.length<1000)∧(fE x t sl dr n).length<100:=by
 have hl:=j3 (leF t)
 unfold fE
 refine⟨fun y hy=>?_,?_⟩
 ·rw [List.mem_append,List.mem_cons] at hy
  rcases hy with hy|rfl|hy
  ·split at hy
   ·rw [List.mem_singleton.1 hy];exact hx
   ·cases hy
  ·show (cf (leF t)).length<1000;omega
  ·split at hy
   ·rw [List.mem_singleton.1 hy];exact Nat.succ_pos _
   ·cases hy
 ·rw [List.length_append,List.length_cons]
  split<;>split<;>simp
theorem IA {f:c8} {d:ca} {D:Nat→CR} {G:Int} (h:FiI f d D G) (hG:G<1000) (x:Cr) (hx:CrOk x) (hxl:(dh x).length<1000) (t:UInt64):∃D',FiI f (jH d D x t (-1)).d D' (G+1):=by
 have hbd:=mY d.v.prs D x
 have h0:FiI f d D (G+1):=h.mono (by omega)
 unfold jH
 split
 ·exact⟨D,h0⟩
 split
 ·exact⟨D,h0⟩
 rename_i hpl
 dsimp only
 generalize hdr:(if x.rs=true then (cN d.v.prs D x).2 else 0)=dr
 have hdr16:dr<16:=by rw [← hdr];split<;>omega
 split
 ·exact⟨D,h0⟩
 have hK:eB d.v.prs dr≤16:=kb _ 1 15
 generalize eB d.v.prs dr=K at *
 have hsl:0≤(cN d.v.prs D x).1∨x.rs=false:=by
  by_cases hr:x.rs=true
  ·left;exact Int.not_lt.1 fun c=>hpl ⟨hr,c⟩
  ·right;simpa using hr
 generalize (cN d.v.prs D x).1=sl at *
 have hi:i64 (-1):=by unfold i64;decide
 obtain⟨l1,l2⟩:=C4 x t sl dr K hxl
 have hg1:=Am x t sl dr K d.v.prs hsl
 have hgi:∀i:Nat,nA (64+(i:Int)) d.v.prs (fE x t sl dr K)=if x.rs=true∧(i:Int)=sl then dh x else vgetM (64+(i:Int)) d.v.prs:=fun i=>by
  rcases hsl with hs|hs
  ·exact vC x t sl dr K d.v.prs hK hdr16 hs i
  ·have:=vC x t 0 dr K d.v.prs hK hdr16 (Int.le_refl _) i
   rw [show fE x t 0 dr K=fE x t sl dr K by unfold fE;rw [hs];rfl] at this
   rw [this,if_neg (fun c=>by rw [hs] at c;cases c.1),if_neg (fun c=>by rw [hs] at c;cases c.1)]
 generalize fE x t sl dr K=l at *
 have hlen:=mf d.v l (-1) hi h.len l1 l2
 unfold jA
 rw [if_neg (by rw [h.on];decide)]
 dsimp only
 rcases DD h.ok (by omega) l (-1) with ⟨e1,e2,e3,-,-⟩|⟨-,-,e3,-,-⟩|⟨e1,e2,-,-⟩
 ·rw [if_neg (fun c=>c e1)]
  generalize rputM d.v l (-1)=P at *
  refine⟨Fw D x sl,h.fac,h.on,h.nx,Nat.lt_of_le_of_lt hlen.1 h.len,e2,?_,?_⟩
  ·have hgs:∀i:Nat,vgetM (64+(i:Int)) P.v.prs=if x.rs=true∧(i:Int)=sl then dh x else vgetM (64+(i:Int)) d.v.prs:=fun i=>by rw [e3,p4 _ h.ok.so.srt,hgi i]
   refine⟨e2.vlen,fun i hi8=>?_,fun i hi8=>?_,fun i hi8 he=>?_⟩
   ·show FPure _ _ [.p (.data 1 (vgetM (64+(i:Int)) P.v.prs).length ((vgetM (64+(i:Int)) P.v.prs).map bt))] _
    rw [hgs i]
    unfold Fw
    split
    ·exact Im x hx
    ·exact h.sl.p i hi8
   ·show FPure _ _ [.p (.data 1 (vgetM (64+(i:Int)) P.v.prs).length ((vgetM (64+(i:Int)) P.v.prs).map bt))] _
    rw [hgs i]
    unfold Fw
    split
    ·exact Fj x hx
    ·exact h.sl.r i hi8
   ·unfold Fw at he ⊢
    split at he
    ·rename_i hc;rw [if_pos hc];exact⟨hx,hc.1⟩
    ·rename_i hc;rw [if_neg hc];exact h.sl.ok i hi8 he
  ·show (vgetM 1 P.v.prs).length≤8
   rw [e3,p4 _ h.ok.so.srt,hg1]
   exact h.m8
 ·omega
 ·rw [if_pos e1]
  unfold kv
  rw [if_neg e2]
  exact⟨D,h0⟩
def idX (m n:UInt64) (x:Cr):List UInt8:=if x.rs=true then idR x else pT (fU m [119,114,97,112] 0) n (az [cm 9 0 x.rp] 1) (k4 x) 20
theorem Fx (m n:UInt64) (x:Cr):(idX m n x).length=176:=by
 unfold idX
 split
 ·exact tw x
 ·exact Ah ..
theorem J1 (m n:UInt64) (x:Cr) (h:CrOk x) (hl:(dh x).length≤160):FPure Tryz.prog 16 [.w m,.w n,.agg (crC x)] (.tup [.p (.data 1 176 ((idX m n x).map bt)),.i 0]):=by
 unfold idX
 by_cases hr:x.rs=true
 ·rw [if_pos hr];exact CU m n x h hr
 ·rw [if_neg hr];exact Ir m n x h (by simpa using hr) hl
theorem J2 (d:ca) (D:Nat→CR) (x:Cr) (id:List UInt8) (n:Nat) (B:Int) (h:vq d D) (hon:d.on=true) (hx:CrOk x) (hxl:(dh x).length<1000) (hn:id.length=n) (hnb:n<100000) (hb:d.v.j.bs.length<1000000000) (hB:i64 B) :
 FPure Tryz.prog 18 [cP d,.agg (crC x),.p (.data 1 n (id.map bt)),.i 0,.i 2,.i 0,.i B] (mF (jH d D x (cm 10 0 id) B)):=by
 by_cases hr:x.rs=true
 ·exact Iz d D x id n B h hon hx hr hxl hn hnb hb hB
 ·exact Ix d D x id n B h hon hx (by simpa using hr) hn hnb hb hB
theorem IB (d:ca) (D:Nat→CR) (x:Cr) (id:List UInt8) (n:Nat) (B:Int) (h:vq d D) (hon:d.on=true) (hx:CrOk x) (hxl:(dh x).length<1000) (hn:id.length=n) (hnb:n<100000) (hb:d.v.j.bs.length<1000000000) (hB:i64 B) :
 FPure Tryz.prog 19 [cP d,.agg (crC x),.p (.data 1 n (id.map bt)),.i 0,.i 2,.i 0,.i B] (mF (jH d D x (cm 10 0 id) B)):=by
 by_cases hr:x.rs=true
 ·exact Ft d D x id n B h hon hx hr hxl hn hnb hb hB
 ·exact Fs d D x id n B h hon hx (by simpa using hr) hn hnb hb hB
theorem xj {f:c8} (h:iL f=0) (now:Int):(eP f now).v.j.bs.length<1000000000:=by
 obtain⟨hb,-,-⟩:=gM h
 have h5:512≤f.ps∧f.ps≤8192:=by unfold gj at hb;omega
 obtain⟨-,hbs,-⟩:=mI h5.1 h5.2
 have hlf:(bV f.ps 2).bs.length<1000000000:=by rw [hbs,List.length_replicate];omega
 have hi:i64 (-1):=by unfold i64;decide
 have hol:=nh (bV f.ps 2) (-1) hi hlf
 have hlen:=mf (ropenM (bV f.ps 2) (-1)).v (aV f 1) (-1) hi (by omega) (fun x hx=>by rw [← mJ] at hx;exact (pf f [] 1).2 x hx) (by simp [aV])
 exact Nat.lt_of_le_of_lt hlen.1 (Nat.lt_of_le_of_lt hol.1 hlf)
theorem An {f:c8} (h:iL f=0) (now:Int):FiI f (eP f now) (fun _=>⟨cr0,2⟩) 2:=by
 obtain⟨hb,-,-⟩:=gM h
 obtain⟨e1,e2⟩:=pm h now
 have hfc:=uP f
 refine⟨rfl,rfl,by show it0.ids.length<_;decide,xj h now,e2,?_,?_⟩
 ·have hv:=jz hb 1
  refine⟨by rw [e1];exact hv,fun i hi=>?_,fun i hi=>?_,fun i hi he=>?_⟩
  ·rw [e1,hfc i];exact yd
  ·rw [e1,hfc i];exact CZ
  ·cases he
 ·rw [e1,rk,au];exact Nat.le_refl _
end Go.Proofs.YtebndjnkmcahaaaGreatDoor
end
end
section
namespace Go.Proofs.YtebndjnkmcahaaaGreatDoor
set_option linter.unusedSimpArgs false
set_option linter.unusedVariables false
open Go Go.Abs Go.RowKit
theorem C5 (d:ca) (l e:Int) (h1:d.fac.ce.length<1000000000) (h2:d.nx.ids.length<1000000000) (h3:d.v.prs.length<1000000000):FPure Tryz.prog 20 [cP d,.i l,.i e,cP d,.i l,.i e] (.b true):=by
 refine en Tryz.func20 Tryz.ntmps20 Tryz.results20 [0,1,2,3,4,5,6,9,12] ?_;intro c hP h0 hE kK
 simp only [go_sem,hP]
 refine aa kK (by exact zy d h1 h2 h3) ?_
 simp only [go_sem,hP]
theorem Fy (i:Nat):IntKind.u8.wrap ((i:Int).tmod 11)=((UInt8.ofNat (i % 11)).toNat:Int):=by
 rw [Int.tmod_eq_emod_of_nonneg (by omega),bW,UInt8.toNat_ofNat']
 omega
theorem KF (b:UInt8):PV.v (Abs.strOf (cZ [PV.v (Value.int .u8 (b.toNat:Int))])) = .v (.string ⟨[b].toArray⟩):=by
 rw [show [PV.v (Value.int .u8 (b.toNat:Int))]=[b].map bt from rfl,dI]
 rfl
set_option maxHeartbeats 4000000 in
theorem Fz (n m:Int):FPure Tryz.prog 5 [.i n,.i m] (.b true):=by
 refine en Tryz.func5 Tryz.ntmps5 Tryz.results5 [0,1,4,5,6,7,8,9,11,12,13,14,15,16,23,73] ?_;intro c hP h0 hE kK
 have hM:=fP m 65535 (by decide) (by decide)
 simp only [go_sem,hP]
 refine aa kK (by exact EW (cu .i64 n 65535)) ?_
 have he:=Cs (cu .i64 n 65535)
 generalize fN (cu .i64 n 65535)=f at *
 have hfi:=An he (cu .i64 (cu .i64 n 65535) 7)
 have hce:=(gM he).2.1
 generalize eP f (cu .i64 (cu .i64 n 65535) 7)=d0 at *
 simp only [go_sem,hP]
 refine bo hE h0 [0,1,4,5,6,7,8,9,11,12,13,14,15,16,23,73] (α:={ a:Nat×ca×(Nat→CR) // a.1≤18∧FiI f a.2.1 a.2.2 (2+a.1) }) (fun a=>⟨77,[(1,.i m),(5,.ptr 0 0),(6,.ptr 1 0),(7,.i a.1.1)],[(0,some ⟨43,dvC (iW a.1.2.1)⟩),(1,some ⟨43,dvC (iW a.1.2.1)⟩)],2⟩) (fun a=>18-a.1.1) ⟨(0,d0,fun _=>⟨cr0,2⟩),Nat.zero_le _,by simpa using hfi⟩ [] (fun i=>i) ?_ ?_
 ·refine⟨rfl,?_,?_,rfl,rfl,trivial,fun i h=>h⟩
  ·simp only [go_sem]
  ·simp only [go_sem]
 rintro⟨⟨i,d,D⟩,hi,hd⟩
 dsimp only at hi hd ⊢
 have hw:IntKind.i64.wrap ((i:Int)+1)=((i+1:Nat):Int):=by rw [ab (by omega) (by omega)];omega
 rcases Nat.lt_or_ge i 18 with hin|hin
 case inr =>
  simp only [go_sem,hP,show ¬((i:Int)<18) from by omega]
  refine aa kK (by exact zI) ?_
  simp only [go_sem,hP]
 have hw1:IntKind.i64.wrap (37*(i:Int))=37*(i:Int):=ab (by omega) (by omega)
 generalize hMm:cu .i64 m 65535=M at *
 have hw2:IntKind.i64.wrap (M+37*(i:Int))=M+37*(i:Int):=ab (by omega) (by omega)
 have hw3:IntKind.u64.wrap (i:Int)=((UInt64.ofNat i).toNat:Int):=by rw [ak (by omega) (by omega)];exact gT _ (by omega)
 have hcr:=J0 (M+37*(i:Int))
 have hok:=Iv M i hM.1 (by omega) (by omega)
 have hl:=Fv M i
 rw [show crF M i={ crB (M+37*(i:Int)) with us:=[UInt8.ofNat (i % 11)],sd:=UInt64.ofNat i } from rfl] at hok hl
 have hub:=Fy i
 generalize UInt8.ofNat (i % 11)=ub at *
 generalize crB (M+37*(i:Int))=y at *
 have hms:=rh d hd.sl.vl hd.m8
 generalize gk (vgetM 1 d.v.prs)=ms at *
 have hid:=J1 ms (UInt64.ofNat i) _ hok hl
 have hidl:=Fx ms (UInt64.ofNat i) { y with us:=[ub],sd:=UInt64.ofNat i }
 generalize idX ms (UInt64.ofNat i) { y with us:=[ub],sd:=UInt64.ofNat i }=id at *
 have hi1:i64 (-1):=by unfold i64;decide
 have ha:=J2 d D _ id 176 (-1) hd.sl hd.on hok (by omega) hidl (by decide) hd.len hi1
 have hra:=IB d D _ id 176 (-1) hd.sl hd.on hok (by omega) hidl (by decide) hd.len hi1
 obtain⟨D',hd'⟩:=IA hd (by omega) _ hok (by omega) (cm 10 0 id)
 generalize jH d D { y with us:=[ub],sd:=UInt64.ofNat i } (cm 10 0 id) (-1)=R at *
 have hsm:=C5 R.d R.left R.e (by rw [hd'.fac];omega) hd'.nx (hd'.sl.vl.1)
 simp only [go_sem,hP,show ((i:Int)<18) from by omega,hMm,hw1,hw2]
 refine aa kK (by exact hcr) ?_
 simp only [go_sem,hP,hw3,hub,KF]
 refine⟨dc [ub],?_⟩
 refine aa kK (by exact hms) ?_
 simp only [go_sem,hP,hw3]
 refine aa kK (by exact hid) ?_
 simp only [go_sem,hP]
 refine⟨by kernel_rfl,?_⟩
 refine aa kK (by exact ha) ?_
 simp only [go_sem,hP]
 refine aa kK (by exact hra) ?_
 simp only [go_sem,hP]
 refine aa kK (by exact hsm) ?_
 simp only [go_sem,hP,hw]
 refine⟨by kernel_rfl,⟨⟨(i+1,R.d,D'),hin,by dsimp only;have:=hd'.mono (show 2+(i:Int)+1≤2+((i+1:Nat):Int) by omega);exact this⟩,by dsimp only;omega,aZ [0,1] rfl ?_ ?_ rfl rfl (Nat.le_of_ble_eq_true rfl)⟩⟩
 ·simp only [go_sem]
 ·simp only [go_sem]
end Go.Proofs.YtebndjnkmcahaaaGreatDoor
end

/- joined of several texts; own work; no statement of the seat is proved but in the last -/
import Derived.Test.YtebndjnkmcahaaaGreatDoorKr
section
namespace Go.Proofs.YtebndjnkmcahaaaGreatDoor
set_option linter.unusedSimpArgs false
set_option linter.unusedVariables false
open Go Go.Abs Go.RowKit
def qK (f:c8):List AV:=[.w f.mo,.w f.se,.i f.ps,.b f.fi,.w f.ase,.i f.ah,.i f.af,.i f.ato,.p (.data 1 f.ce.length (f.ce.map byP))]
attribute [go_sem] qK
def gj (f:c8):Prop:=f.ps<512∨f.ps>8192∨f.ah<0∨f.ah>4∨f.af<0∨f.af>f.ato∨f.ato>gV .i64 1 f.ah
instance (f:c8):Decidable (gj f):=by unfold gj;infer_instance
def iL (f:c8):Int:=if gj f then 9 else if 3<f.ce.length then 8 else if f.ce.all (fun c=>decide (c.length≤512)) then 0 else 8
def i9 (f:c8):ca:=if iL f=0 then l4 f 0 (bV f.ps 2) else AB
theorem kU (y:Dvp) (ce bs pr ids:SlP) (h1:eqP ce.pv y.fac.ce.pv) (h2:eqP bs.pv y.v.bs.pv) (h3:eqP pr.pv y.v.pr.pv) (h4:eqP ids.pv y.nx.ids.pv) :
 fM (dvC { y with fac:={ y.fac with ce:=ce },v:={ y.v with bs:=bs,pr:=pr },nx:={ y.nx with ids:=ids } }) (dvC y) :=
 ⟨rfl,rfl,rfl,rfl,rfl,rfl,rfl,rfl,h1,rfl,h2,rfl,rfl,rfl,rfl,h3,rfl,rfl,rfl,rfl,rfl,rfl,rfl,rfl,rfl,rfl,rfl,rfl,rfl,rfl,rfl,h4,trivial⟩
theorem dH:fM (dvC (iW AB)) (dvC dv0):=kU dv0 _ _ _ _ ⟨rfl,rfl⟩ ⟨rfl,rfl⟩ ⟨rfl,rfl⟩ ⟨rfl,rfl⟩
theorem Hy (x:Dvp):fM (dvC x) (dvC x):=cD _
attribute [go_sem] Hy
@[simp] theorem Jz (T:List Nat) (f:c8):an T (qK f):=by simp [qK,an,ax]
theorem BL (f:c8) (now:Int) (m:Fl) (n:Nat) (hn:m.bs.length=n):FPure Tryz.prog 26 [.agg (qK f),.i now,.agg [.i m.ps,.p (.data 1 n (m.bs.map bt))]] (cP (l4 f now m)):=by
 refine en Tryz.func26 Tryz.ntmps26 Tryz.results26 [0,1,2,3,5,6] ?_;intro c hP h0 hE kK
 subst hn
 simp only [go_sem,hP]
 exact kU _ _ _ _ _ (cq _) (cq _) ⟨rfl,rfl⟩ ⟨rfl,rfl⟩
set_option maxRecDepth 100000 in
set_option maxHeartbeats 4000000 in
theorem Hz (f:c8) (hc:f.ce.length<1000000000) (hl:∀b,b∈f.ce→b.length<1000000000):FPure Tryz.prog 8 [.agg (qK f)] (.tup [cP (i9 f),.i (iL f)]):=by
 refine en Tryz.func8 Tryz.ntmps8 Tryz.results8 [0,1,2,3,4,6,7,8,46,51,54,55,56,57,62,79] ?_;intro c hP h0 hE kK
 obtain⟨R,hR⟩:∃R,iL f=R:=⟨_,rfl⟩;rw [hR] at hE kK;(try rw [hR])
 have hD:i9 f=if R=0 then l4 f 0 (bV f.ps 2) else AB:=by unfold i9;rw [hR]
 have bad:gj f→R=9∧i9 f=AB:=fun h=>by unfold iL at hR;rw [if_pos h] at hR;subst hR;exact⟨rfl,by rw [hD,if_neg (by decide)]⟩
 generalize i9 f=D at *
 by_cases h1:f.ps<512
 ·obtain⟨rfl,rfl⟩:=bad (.inl h1)
  simp only [go_sem,hP,h1]
  exact⟨by kernel_rfl,dH⟩
 by_cases h2:f.ps>8192
 ·obtain⟨rfl,rfl⟩:=bad (.inr (.inl h2))
  simp only [go_sem,hP,h1,h2]
  exact⟨by kernel_rfl,dH⟩
 by_cases h3:f.ah<0
 ·obtain⟨rfl,rfl⟩:=bad (.inr (.inr (.inl h3)))
  simp only [go_sem,hP,h1,h2,h3]
  exact⟨by kernel_rfl,dH⟩
 by_cases h4:f.ah>4
 ·obtain⟨rfl,rfl⟩:=bad (.inr (.inr (.inr (.inl h4))))
  simp only [go_sem,hP,h1,h2,h3,h4]
  exact⟨by kernel_rfl,dH⟩
 by_cases h5:f.af<0
 ·obtain⟨rfl,rfl⟩:=bad (.inr (.inr (.inr (.inr (.inl h5)))))
  simp only [go_sem,hP,h1,h2,h3,h4,h5]
  exact⟨by kernel_rfl,dH⟩
 by_cases h6:f.af>f.ato
 ·obtain⟨rfl,rfl⟩:=bad (.inr (.inr (.inr (.inr (.inr (.inl h6))))))
  simp only [go_sem,hP,h1,h2,h3,h4,h5,h6]
  exact⟨by kernel_rfl,dH⟩
 by_cases h7:f.ato>gV .i64 1 f.ah
 ·obtain⟨rfl,rfl⟩:=bad (.inr (.inr (.inr (.inr (.inr (.inr h7))))))
  simp only [go_sem,hP,h1,h2,h3,h4,h5,h6,h7]
  exact⟨by omega,by kernel_rfl,dH⟩
 have hng:¬gj f:=fun h=>by unfold gj at h;simp only [h1,h2,h3,h4,h5,h6,h7,or_self] at h
 unfold iL at hR
 rw [if_neg hng] at hR
 by_cases h8:(f.ce.length:Int)>3
 ·rw [if_pos (by omega)] at hR
  subst hR
  rw [if_neg (by decide)] at hD
  subst hD
  simp only [go_sem,hP,h1,h2,h3,h4,h5,h6,h7,h8]
  exact⟨by omega,by kernel_rfl,dH⟩
 rw [if_neg (by omega)] at hR
 simp only [go_sem,hP,h1,h2,h3,h4,h5,h6,h7,h8]
 refine⟨by omega,by kernel_rfl,bE fF ?_⟩
 generalize hce:f.ce=l at *
 refine bo hE h0 [0,1,2,3,4,6,7,8,46,51,54,55,56,57,62,79] (α:={ i:Nat // i≤l.length∧∀b,b∈l.take i→b.length≤512 }) (fun i=>⟨85,[(1,.ptr 0 0),(2,.ptr 1 0),(3,.i 0),(4,.sl 2 0 i.1 1),(54,.p (.data 1 l.length (l.map byP))),(55,.i l.length),(56,.i i.1)],[(2,some ⟨fF,byL (l.take i.1)⟩),(1,some ⟨43,dvC dv0⟩),(0,some ⟨25,[.w f.mo,.w f.se,.i f.ps,.b f.fi,.w f.ase,.i f.ah,.i f.af,.i f.ato,.p (.data 1 l.length (l.map byP))]⟩)],3⟩) (fun i=>l.length-i.1) ⟨0,Nat.zero_le _,by simp⟩ [] (fun i=>i) ?_ ?_
 ·refine⟨rfl,?_,?_,rfl,rfl,trivial,fun i h=>h⟩
  ·simp only [go_sem]
  ·simp only [go_sem,List.take_zero,byL,List.map_nil]
 ·rintro⟨i,hi,hsm⟩
  rcases Nat.lt_or_ge i l.length with hin|hin
  ·have hc':((i:Int)<(l.length:Int)):=by omega
   have hmem:l.getD i []∈l:=by rw [show l.getD i []=l[i]'hin from by simp [List.getD_eq_getElem?_getD,hin]];exact List.getElem_mem _
   have hta:l.take (i+1)=l.take i++[l.getD i []]:=by rw [List.take_add_one];simp [List.getD_eq_getElem?_getD,hin]
   have hlb:=hl _ hmem
   generalize hb:l.getD i []=b at *
   have hw:IntKind.i64.wrap ((i:Int)+1)=((i+1:Nat):Int):=by rw [ab (by omega) (by omega)];omega
   by_cases h9:(b.length:Int)>512
   ·have hall:l.all (fun c=>decide (c.length≤512))=false:=by
     rw [List.all_eq_false]
     exact⟨b,hmem,by simp;omega⟩
    rw [if_neg (by rw [hall];simp)] at hR
    subst hR
    rw [if_neg (by decide)] at hD
    subst hD
    simp only [go_sem,hP,hc',dq,hb,byP,h9]
    exact⟨by omega,by omega,dH⟩
   ·simp only [go_sem,hP,hc',dq,hb,byP,h9]
    refine⟨by omega,by omega,?_⟩
    refine aa kK (by exact rR (b.map bt) b.length (by simp) (by omega)) ?_
    simp only [go_sem,hP,hw]
    refine⟨⟨by omega,by omega,by omega⟩,⟨i+1,hin,fun x hx=>?_⟩,by simp only;omega,aZ [0,1,4] rfl ?_ ?_ rfl rfl (Nat.le_refl _)⟩
    ·rw [hta] at hx
     rcases List.mem_append.1 hx with hx|hx
     ·exact hsm x hx
     ·simp at hx;subst hx;omega
    ·simp only [go_sem]
    ·simp only [go_sem,hta]
     exact fA _ _ _ _
  ·obtain rfl:i=l.length:=by omega
   rw [List.take_of_length_le (Nat.le_refl _)] at hsm
   have hc':¬((l.length:Int)<(l.length:Int)):=by omega
   have hall:l.all (fun c=>decide (c.length≤512))=true:=by
    rw [List.all_eq_true]
    exact fun c hcm=>by simpa using hsm c hcm
   rw [if_pos hall] at hR
   subst hR
   rw [if_pos rfl] at hD
   have hne:jM f.ps 2=0:=by unfold jM;rw [if_neg (by omega)]
   simp only [go_sem,hP,hc']
   refine iI hE (ks:=[0,1,2,3,4,6,7,8,46,51,54,55,56,57,62,79]) (n:=2000) 2 ?_ ?_
   ·simp only [go_sem]
    omega
   ·simp only [go_sem,hP]
    refine aa kK (by exact uT f.ps) ?_
    simp only [go_sem,hP,hne,List.take_length]
    subst hce
    refine aa kK (by exact BL f 0 (bV f.ps 2) _ rfl) ?_
    rw [← hD]
    simp only [go_sem,hP]
set_option maxRecDepth 100000 in
set_option maxHeartbeats 4000000 in
theorem HA (f:c8) (hc:f.ce.length<1000000000) (hl:∀b,b∈f.ce→b.length<1000000000):FPure Tryz.prog 9 [.agg (qK f)] (.tup [cP (i9 f),.i (iL f)]):=by
 refine en Tryz.func9 Tryz.ntmps9 Tryz.results9 [0,1,2,3,4,5,44,49,55,64] ?_;intro c hP h0 hE kK
 obtain⟨R,hR⟩:∃R,iL f=R:=⟨_,rfl⟩;rw [hR] at hE kK;(try rw [hR])
 have hD:i9 f=if R=0 then l4 f 0 (bV f.ps 2) else AB:=by unfold i9;rw [hR]
 have bad:gj f→R=9∧i9 f=AB:=fun h=>by unfold iL at hR;rw [if_pos h] at hR;subst hR;exact⟨rfl,by rw [hD,if_neg (by decide)]⟩
 generalize i9 f=D at *
 by_cases h1:f.ps<512
 ·obtain⟨rfl,rfl⟩:=bad (.inl h1)
  simp only [go_sem,hP,h1]
  exact dH
 by_cases h2:f.ps>8192
 ·obtain⟨rfl,rfl⟩:=bad (.inr (.inl h2))
  simp only [go_sem,hP,h1,h2]
  exact dH
 by_cases h3:f.ah<0
 ·obtain⟨rfl,rfl⟩:=bad (.inr (.inr (.inl h3)))
  simp only [go_sem,hP,h1,h2,h3]
  exact dH
 by_cases h4:f.ah>4
 ·obtain⟨rfl,rfl⟩:=bad (.inr (.inr (.inr (.inl h4))))
  simp only [go_sem,hP,h1,h2,h3,h4]
  exact dH
 by_cases h5:f.af<0
 ·obtain⟨rfl,rfl⟩:=bad (.inr (.inr (.inr (.inr (.inl h5)))))
  simp only [go_sem,hP,h1,h2,h3,h4,h5]
  exact dH
 by_cases h6:f.af>f.ato
 ·obtain⟨rfl,rfl⟩:=bad (.inr (.inr (.inr (.inr (.inr (.inl h6))))))
  simp only [go_sem,hP,h1,h2,h3,h4,h5,h6]
  exact dH
 have hwu:IntKind.u64.wrap f.ah=f.ah:=ak (by omega) (by omega)
 by_cases h7:f.ato>gV .i64 1 f.ah
 ·obtain⟨rfl,rfl⟩:=bad (.inr (.inr (.inr (.inr (.inr (.inr h7))))))
  simp only [go_sem,hP,h1,h2,h3,h4,h5,h6,hwu,h7]
  exact⟨by omega,dH⟩
 have hng:¬gj f:=fun h=>by unfold gj at h;simp only [h1,h2,h3,h4,h5,h6,h7,or_self] at h
 unfold iL at hR
 rw [if_neg hng] at hR
 by_cases h8:(f.ce.length:Int)>3
 ·rw [if_pos (by omega)] at hR
  subst hR
  rw [if_neg (by decide)] at hD
  subst hD
  simp only [go_sem,hP,h1,h2,h3,h4,h5,h6,hwu,h7,h8]
  exact⟨by omega,dH⟩
 rw [if_neg (by omega)] at hR
 simp only [go_sem,hP,h1,h2,h3,h4,h5,h6,hwu,h7,h8]
 refine⟨by omega,?_⟩
 generalize hce:f.ce=l at *
 refine bo hE h0 [0,1,2,3,4,5,44,49,55,64] (α:={ i:Nat // i≤l.length∧∀b,b∈l.take i→b.length≤512 }) (fun i=>⟨78,[(1,.ptr 0 0),(2,.ptr 1 0),(3,.i 0),(4,.i i.1)],[(1,some ⟨43,dvC dv0⟩),(0,some ⟨25,[.w f.mo,.w f.se,.i f.ps,.b f.fi,.w f.ase,.i f.ah,.i f.af,.i f.ato,.p (.data 1 l.length (l.map byP))]⟩)],2⟩) (fun i=>l.length-i.1) ⟨0,Nat.zero_le _,by simp⟩ [] (fun i=>i) ?_ ?_
 ·refine⟨rfl,?_,?_,rfl,rfl,trivial,fun i h=>h⟩
  ·simp only [go_sem]
  ·simp only [go_sem]
 ·rintro⟨i,hi,hsm⟩
  rcases Nat.lt_or_ge i l.length with hin|hin
  ·have hc':((i:Int)<(l.length:Int)):=by omega
   have hmem:l.getD i []∈l:=by rw [show l.getD i []=l[i]'hin from by simp [List.getD_eq_getElem?_getD,hin]];exact List.getElem_mem _
   have hta:l.take (i+1)=l.take i++[l.getD i []]:=by rw [List.take_add_one];simp [List.getD_eq_getElem?_getD,hin]
   have hlb:=hl _ hmem
   generalize hb:l.getD i []=b at *
   have hw:IntKind.i64.wrap ((i:Int)+1)=((i+1:Nat):Int):=by rw [ab (by omega) (by omega)];omega
   by_cases h9:(b.length:Int)>512
   ·have hall:l.all (fun c=>decide (c.length≤512))=false:=by
     rw [List.all_eq_false]
     exact⟨b,hmem,by simp;omega⟩
    rw [if_neg (by rw [hall];simp)] at hR
    subst hR
    rw [if_neg (by decide)] at hD
    subst hD
    simp only [go_sem,hP,hc',dq,hb,byP,h9]
    exact⟨by omega,by omega,dH⟩
   ·simp only [go_sem,hP,hc',dq,hb,byP,h9,hw]
    refine⟨by omega,by omega,⟨i+1,hin,fun x hx=>?_⟩,by simp only;omega,aZ [0,1] rfl ?_ ?_ rfl rfl (Nat.le_refl _)⟩
    ·rw [hta] at hx
     rcases List.mem_append.1 hx with hx|hx
     ·exact hsm x hx
     ·simp at hx;subst hx;omega
    ·simp only [go_sem]
    ·simp only [go_sem]
  ·obtain rfl:i=l.length:=by omega
   rw [List.take_of_length_le (Nat.le_refl _)] at hsm
   have hc':¬((l.length:Int)<(l.length:Int)):=by omega
   have hall:l.all (fun c=>decide (c.length≤512))=true:=by
    rw [List.all_eq_true]
    exact fun c hcm=>by simpa using hsm c hcm
   rw [if_pos hall] at hR
   subst hR
   rw [if_pos rfl] at hD
   simp only [go_sem,hP,hc']
   refine aa kK (by exact xl f.ps 2) ?_
   subst hce
   generalize hF:bV f.ps 2=F at *
   subst hD
   simp only [go_sem,hP]
   exact kU _ _ _ _ _ (cq _) (cq _) ⟨rfl,rfl⟩ ⟨rfl,rfl⟩
end Go.Proofs.YtebndjnkmcahaaaGreatDoor
end
section
namespace Go.Proofs.YtebndjnkmcahaaaGreatDoor
set_option linter.unusedSimpArgs false
set_option linter.unusedVariables false
open Go Go.Abs Go.RowKit
set_option maxHeartbeats 1000000 in
theorem nr (l:List (List UInt8)) (n:Nat) (hn:l.length=n) (hb:n<1000000000):FPure Tryz.prog 75 [.p (.data 1 n (l.map byP)),.p (.data 1 n (l.map byP))] (.b true):=by
 refine en Tryz.func75 Tryz.ntmps75 Tryz.results75 [0,1,4,5,10,14,27] ?_;intro c hP h0 hE kK
 simp only [go_sem,hP]
 subst hn
 refine ay hE h0 [0,1,4,5,10,14,27] l.length (fun i=>⟨28,[(0,.p (.data 1 l.length (l.map byP))),(1,.p (.data 1 l.length (l.map byP))),(5,.i i)],[],0⟩) [] (fun i=>i) ?_ ?_
 ·refine⟨rfl,?_,trivial,rfl,rfl,trivial,fun i h=>h⟩
  simp only [go_sem]
 ·intro i hi
  rcases Nat.lt_or_ge i l.length with hin|hin
  ·have hc:((i:Int)<(l.length:Int)):=by omega
   have hw:IntKind.i64.wrap ((i:Int)+1)=((i+1:Nat):Int):=by rw [ab (by omega) (by omega)];omega
   simp only [go_sem,hP,hc,dq,byP,hw,dI,Abs.strOf,dc,fZ,beq_self_eq_true]
   refine⟨by omega,by omega,by omega,by omega,by kernel_rfl,hin,dp rfl ?_ trivial rfl rfl (Nat.le_refl _)⟩
   simp only [go_sem]
  ·obtain rfl:i=l.length:=by omega
   have hc:¬((l.length:Int)<(l.length:Int)):=by omega
   simp only [go_sem,hP,hc]
theorem zx (f:c8) (hb:f.ce.length<1000000000):FPure Tryz.prog 28 [.agg (qK f),.agg (qK f)] (.b true):=by
 refine en Tryz.func28 Tryz.ntmps28 Tryz.results28 [0,1,2,3,4] ?_;intro c hP h0 hE kK
 simp only [go_sem,hP]
 refine aa kK (by exact nr f.ce _ rfl hb) ?_
 simp only [go_sem,hP]
def itC (x:ItM):List AV:=[.b x.act,.i x.sin,.w x.hsh,.i x.flg,.p (.data 1 x.ids.length (x.ids.map byP))]
attribute [go_sem] itC
@[simp] theorem Ku (T:List Nat) (f:ItM):an T (itC f):=by simp [itC,an,ax]
theorem wM (x:ItM) (hb:x.ids.length<1000000000):FPure Tryz.prog 30 [.agg (itC x),.agg (itC x)] (.b true):=by
 refine en Tryz.func30 Tryz.ntmps30 Tryz.results30 [0,1,2,3,4] ?_;intro c hP h0 hE kK
 simp only [go_sem,hP]
 refine aa kK (by exact nr x.ids _ rfl hb) ?_
 simp only [go_sem,hP]
set_option maxRecDepth 100000 in
theorem zy (d:ca) (h1:d.fac.ce.length<1000000000) (h2:d.nx.ids.length<1000000000) (h3:d.v.prs.length<1000000000):FPure Tryz.prog 10 [cP d,cP d] (.b true):=by
 refine en Tryz.func10 Tryz.ntmps10 Tryz.results10 [0,1,2,3,4] ?_;intro c hP h0 hE kK
 simp only [go_sem,hP]
 refine aa kK (by exact zx d.fac h1) ?_
 simp only [go_sem,hP]
 refine aa kK (by exact vN d.v d.v _ _ h3) ?_
 have hsv:(lZ d.v.j d.v.j&&decide (d.v.prs=d.v.prs))=true:=by rw [wV];simp
 rw [hsv]
 simp only [go_sem,hP,beq_self_eq_true,Bool.and_self]
 refine aa kK (by exact wM d.nx h2) ?_
 simp only [go_sem,hP]
end Go.Proofs.YtebndjnkmcahaaaGreatDoor
end

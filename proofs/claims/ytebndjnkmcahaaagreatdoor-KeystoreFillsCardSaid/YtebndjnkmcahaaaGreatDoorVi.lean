/- joined of several texts; own work; no statement of the seat is proved but in the last -/
import Derived.Test.YtebndjnkmcahaaaGreatDoorVg
import Derived.Test.YtebndjnkmcahaaaGreatDoorVf
section
namespace Go.Proofs.YtebndjnkmcahaaaGreatDoor
set_option linter.unusedSimpArgs false
set_option linter.unusedVariables false
open Go Go.Abs Go.RowKit
theorem KS:sb Tryz.prog 152=true:=by kernel_rfl
theorem Ks:A3 Tryz.prog 152=3:=by kernel_rfl
attribute [go_sem] KS Ks
def dz (s:ag) (p:Int×List UInt8):ag:=if p.2.length=0 then iE p.1 s else wx p.1 p.2 s
def bm (s l:ag):ag:=l.foldl dz s
theorem vT (s l:ag) (i:Nat) (h:i<l.length):bm s (l.take (i+1))=dz (bm s (l.take i)) (l.getD i (0,[])):=by
 unfold bm;rw [cX l i h,List.foldl_append];rfl
theorem vU (k:Int) (v:List UInt8):∀s:ag,(gB k v s).length=s.length+1
 | []=>rfl
 | y::r=>by simp only [gB];split<;>simp [vU k v r]
theorem vV (k:Int) (s:ag):(iE k s).length≤s.length:=List.length_filter_le _ _
theorem xp (s:ag) (p:Int×List UInt8):(dz s p).length≤s.length+1:=by
 unfold dz
 split
 ·have:=vV p.1 s;omega
 ·unfold wx;rw [vU];have:=vV p.1 s;omega
theorem i0 (s:ag):∀l:ag,(bm s l).length≤s.length+l.length:=by
 intro l
 unfold bm
 induction l generalizing s with
 | nil=>simp
 | cons p l ih =>
  rw [List.foldl_cons]
  have h1:=ih (dz s p)
  have h2:=xp s p
  simp only [List.length_cons]
  omega
set_option maxHeartbeats 2000000 in
theorem tK (s l:ag) (hs:s.length+l.length<1000000000) (hk:∀x,x∈l→i64 x.1):Con Tryz.prog 99 [.mp 0,.p (PL l)] [(0,some ⟨cJ s,[]⟩)] (.tup []) [(0,some ⟨cJ (bm s l),[]⟩)]:=by
 refine ec 1 Tryz.func99 Tryz.ntmps99 Tryz.results99 [0,1,5,6,7,8,9,15] ?_;intro c hP h0 hE kK
 simp only [go_sem,hP]
 refine bK hE [0] (fun i hi=>by have:=h0 i hi;simpa [liveK] using this) [0,1,5,6,7,8,9,15] l.length (fun i=>⟨25,[(0,.mp 0),(6,.p (PL l)),(7,.i l.length),(8,.i i)],[(0,some ⟨cJ (bm s (l.take i)),[]⟩)],1⟩) [] (fun i=>i) ?_ (fun i _=>rfl) ?_
 ·refine⟨rfl,?_,?_,rfl,rfl,trivial,fun i h=>h⟩
  ·simp only [go_sem]
  ·simp only [go_sem]
   simp [bm]
 ·intro i hi
  rcases Nat.lt_or_ge i l.length with hin|hin
  ·have hat:=cW l i hin
   have hc:((i:Int)<(l.length:Int)):=by omega
   have hst:=vT s l i hin
   have hln:=i0 s (l.take i)
   have htl:(l.take i).length≤l.length:=by simp;omega
   have hmem:l.getD i (0,[])∈l:=by rw [show l.getD i (0,[])=l[i]'hin from by simp [List.getD_eq_getElem?_getD,hin]];exact List.getElem_mem _
   have hki:=hk _ hmem
   have hw:IntKind.i64.wrap ((i:Int)+1)=((i+1:Nat):Int):=by rw [ab (by omega) (by omega)];omega
   generalize bm s (l.take i)=o at *
   generalize l.getD i (0,[])=p at *
   simp only [go_sem,hP,hat,hc,byP,hw,dI,dc]
   have ht:∀i,i∈[0]→sg 2 [0] i=i:=fun i hi=>by simp at hi;subst hi;rfl
   refine⟨by omega,?_⟩
   by_cases hz:p.2.length=0
   ·rw [if_pos (by omega)]
    have hst:bm s (l.take (i+1))=iE p.1 o:=by rw [hst];unfold dz;rw [if_pos hz]
    rw [hst]
    refine⟨hki,hin,kq [0] [0] rfl ?_ ?_ rfl rfl (Nat.le_refl _) ht⟩
    ·simp only [go_sem]
    ·simp only [go_sem]
   ·rw [if_neg (by omega)]
    have hst:bm s (l.take (i+1))=wx p.1 p.2 o:=by rw [hst];unfold dz;rw [if_neg hz]
    rw [hst]
    refine⟨⟨hki,by omega⟩,hin,kq [0] [0] rfl ?_ ?_ rfl rfl (Nat.le_refl _) ht⟩
    ·simp only [go_sem]
    ·simp only [go_sem]
  ·obtain rfl:i=l.length:=by omega
   have hnc:¬((l.length:Int)<(l.length:Int)):=by omega
   simp only [go_sem,hP,hnc]
   refine aB [0] rfl ?_ ?_ rfl rfl (fun i hi=>?_) (fun i hi=>?_)
   ·simp only [go_sem]
   ·simp only [go_sem]
    rw [List.take_of_length_le (Nat.le_refl _)]
   ·simp at hi;subst hi;exact⟨rfl,by simp [keys]⟩
   ·simp [liveK] at hi;simp;omega
def aQ (s:ag):ag:=s.map fun p=>(p.1,fK p.1 s)
theorem qN (s:ag) (i:Nat) (h:i<s.length):(aQ s).take (i+1)=(aQ s).take i++[((s.getD i (0,[])).1,fK (s.getD i (0,[])).1 s)]:=by
 have:=cX (aQ s) i (by simpa [aQ] using h)
 rw [this]
 simp [aQ,List.getD_eq_getElem?_getD,h]
def kA (s:ag):List AV:=s.map fun p => .p (.v (.int .i64 p.1))
theorem FG (s:ag) (i:Nat):aS (.v (.int .i64 0)) ((kA s).drop i) = .p (.v (.int .i64 (s.getD i (0,[])).1)):=by
 induction s generalizing i with
 | nil=>simp [aS,kA]
 | cons b r ih=>cases i with
  | zero=>simp [aS,kA]
  | succ i=>simpa [kA] using ih i
theorem IV (s:ag):(kA s).length=s.length:=by simp [kA]
theorem yV (h:ba) (S:List Nat) (σ:Nat→Nat) (s:ag):ai h S σ (kA s) (kA s):=by
 have:kA s=(s.map fun p=>PV.v (.int .i64 p.1)).map .p:=by simp [kA]
 rw [this];exact aW h S σ _
theorem Ds (s:ag) (hs:s.length<1000000000):Con Tryz.prog 159 [.fn (.func 206) [] [.ptr 1 0]] [(0,some ⟨cJ s,[]⟩),(1,some ⟨fH,[.mp 0]⟩)] (.sl 2 0 s.length 1)
 [(0,some ⟨cJ s,[]⟩),(1,some ⟨fH,[.mp 0]⟩),(2,some ⟨3,kA s⟩)]:=Dr s hs
set_option maxHeartbeats 2000000 in
theorem rO (s:ag) (hs:s.length<1000000) (hk:∀x,x∈s→i64 x.1∧fK x.1 s≠[]∧(fK x.1 s).length<1000000000):Con Tryz.prog 100 [.mp 0] [(0,some ⟨cJ s,[]⟩)] (.sl 1 0 s.length 2) [(0,some ⟨cJ s,[]⟩),(1,some ⟨94,prA (aQ s)⟩)]:=by
 refine ec 1 Tryz.func100 Tryz.ntmps100 Tryz.results100 [0,2,3,5,8,9,10,11] ?_;intro c hP h0 hE kK
 simp only [go_sem,hP]
 refine ck hE (ks:=[0,2,3,5,8,9,10,11]) (n:=2000) [] (fun i=>i) 2 (by rw [hP];exact IU s) ⟨by simp only [go_sem],by simp only [go_sem],rfl,trivial,Nat.le_of_ble_eq_true rfl,fun i hi=>?_,by simp [ax,an,keys],by simp [bS,an,ax,keys],rfl⟩ ?_
 ·simp [keys] at hi;simp [liveK];omega
 simp only [go_sem,hP]
 refine ck hE (ks:=[0,2,3,5,8,9,10,11]) (n:=2000) [] (fun i=>i) 3 (by rw [hP];exact Ds s (by omega)) ⟨by simp only [go_sem],by simp only [go_sem],rfl,trivial,Nat.le_of_ble_eq_true rfl,fun i hi=>?_,by simp [ax,an,keys],?_,rfl⟩ ?_
 ·simp [keys] at hi;simp [liveK];omega
 ·have:an [0,1,2] (kA s):=by
   have e:kA s=(s.map fun p=>PV.v (.int .i64 p.1)).map .p:=by simp [kA]
   rw [e];exact a8 _ _
  simp only [bS,an,ax,keys,List.map_cons,List.map_nil]
  exact⟨trivial,⟨by simp,trivial⟩,this,trivial⟩
 have hren:eG (fun i=>i) (kA s)=kA s:=jY _
 simp only [go_sem,hP,hren]
 refine bE 94 ?_
 refine bK hE [0] (fun i hi=>by have:=h0 i hi;simpa [liveK] using this) [0,2,3,5,8,9,10,11] s.length (fun i=>⟨25,[(0,.mp 0),(3,.sl 3 0 i 2),(8,.sl 2 0 s.length 1),(9,.i s.length),(10,.i i)],[(0,some ⟨cJ s,[]⟩),(2,some ⟨3,kA s⟩),(3,some ⟨94,prA ((aQ s).take i)⟩)],4⟩) [] (fun i=>i) ?_ (fun i _=>rfl) ?_
 ·refine⟨rfl,?_,?_,rfl,rfl,trivial,fun i h=>h⟩
  ·simp only [go_sem]
  ·simp only [go_sem]
   refine⟨yV _ _ _ _,?_⟩
   simp [prA,dE,ai]
 ·intro i hi
  have hol:(aQ s).length=s.length:=by simp [aQ]
  have htl:((aQ s).take i).length=i:=by simp;omega
  have hkl:=IV s
  rcases Nat.lt_or_ge i s.length with hin|hin
  ·have hc:((i:Int)<(s.length:Int)):=by omega
   have hst:=qN s i hin
   have hmem:s.getD i (0,[])∈s:=by rw [show s.getD i (0,[])=s[i]'hin from by simp [List.getD_eq_getElem?_getD,hin]];exact List.getElem_mem _
   obtain⟨hk1,hk2,hk3⟩:=hk _ hmem
   have hw:IntKind.i64.wrap ((i:Int)+1)=((i+1:Nat):Int):=by rw [ab (by omega) (by omega)];omega
   generalize hpe:s.getD i (0,[])=p at *
   have hgl:(fK p.1 s).length≠0:=fun e=>hk2 (List.eq_nil_of_length_eq_zero e)
   have htp:(prA ((aQ s).take i)).length=i*2:=by rw [od,htl]
   simp only [go_sem,hP,hc,FG,hpe,hw,hkl]
   refine⟨by omega,by omega,hk1,?_⟩
   refine aa kK (by exact sL ((fK p.1 s).map bt) _ (by simp) hgl hk3) ?_
   simp only [go_sem,hP,hw,htl,htp]
   rw [← hst]
   refine⟨⟨by omega,by omega⟩,hin,kq [0] [0,1,2,5] rfl ?_ ?_ rfl rfl (Nat.le_refl _) (fun i hi=>by simp at hi;subst hi;rfl)⟩
   ·simp only [go_sem]
   ·simp only [go_sem]
    exact⟨yV _ _ _ _,eQ _ _ _ _⟩
  ·obtain rfl:i=s.length:=by omega
   have hnc:¬((s.length:Int)<(s.length:Int)):=by omega
   simp only [go_sem,hP,hnc]
   rw [List.take_of_length_le (by omega)]
   refine aB [0,3] rfl ?_ ?_ rfl rfl (fun i hi=>?_) (fun i hi=>?_)
   ·simp only [go_sem]
   ·simp only [go_sem]
    exact eQ _ _ _ _
   ·simp at hi;subst hi;exact⟨rfl,by simp [keys]⟩
   ·simp [liveK] at hi;simp;omega
def dS (l:List (List UInt8)):ag:=l.foldl (fun s b=>bm s (aP b)) []
def aU (j:Jn):ag:=aQ (dS (aK j))
theorem vW (l:List (List UInt8)) (i:Nat) (h:i<l.length):dS (l.take (i+1))=bm (dS (l.take i)) (aP (l.getD i [])):=by
 unfold dS
 rw [List.take_succ_eq_append_getElem h,List.foldl_append]
 simp [List.getD_eq_getElem?_getD,h]
theorem ll (l:List (List UInt8)):(dS l).length≤aR l:=by
 have key:∀(l:List (List UInt8)) (o:ag),(l.foldl (fun o b=>bm o (aP b)) o).length≤o.length+aR l:=by
  intro l
  induction l with
  | nil=>intro o;simp
  | cons b l ih =>
   intro o
   rw [List.foldl_cons]
   have h1:=ih (bm o (aP b))
   have h2:=i0 o (aP b)
   have h3:=iX b
   simp only [aR]
   omega
 have:=key l []
 unfold dS
 simpa using this
theorem qm {k:Int} {v:List UInt8} {x:Int×List UInt8}:∀{s:ag},x∈gB k v s→x=(k,v)∨x∈s
 | [],h=>by simp [gB] at h;exact .inl h
 | y::r,h=>by
  simp only [gB] at h
  split at h
  ·rcases List.mem_cons.1 h with h|h
   ·exact .inl h
   ·exact .inr h
  ·rcases List.mem_cons.1 h with h|h
   ·exact .inr (by simp [h])
   ·rcases qm h with h|h
    ·exact .inl h
    ·exact .inr (by simp [h])
theorem lm {x:Int×List UInt8}:∀{l s:ag},x∈bm s l→(x∈l∧x.2≠[])∨x∈s:=by
 intro l
 unfold bm
 induction l with
 | nil=>intro s h;exact .inr h
 | cons p l ih =>
  intro s h
  rw [List.foldl_cons] at h
  rcases ih h with ⟨h1,h2⟩|h1
  ·exact .inl ⟨by simp [h1],h2⟩
  ·unfold dz at h1
   split at h1
   ·exact .inr (List.mem_filter.1 h1).1
   ·rename_i hz
    rcases qm h1 with rfl|h1
    ·exact .inl ⟨by simp,fun e=>hz (by rw [show p.2=[] from e];rfl)⟩
    ·exact .inr (List.mem_filter.1 h1).1
theorem qn {x:Int×List UInt8} {l:List (List UInt8)} (h:x∈dS l):x.2≠[]∧∃b,b∈l∧x∈aP b:=by
 have key:∀(l:List (List UInt8)) (o:ag),x∈l.foldl (fun o b=>bm o (aP b)) o→(x.2≠[]∧∃b,b∈l∧x∈aP b)∨x∈o:=by
  intro l
  induction l with
  | nil=>intro o h;exact .inr h
  | cons b l ih =>
   intro o h
   rw [List.foldl_cons] at h
   rcases ih _ h with ⟨h1,b',h2,h3⟩|h1
   ·exact .inl ⟨h1,b',by simp [h2],h3⟩
   ·rcases lm h1 with ⟨h2,h3⟩|h2
    ·exact .inl ⟨h3,b,by simp,h2⟩
    ·exact .inr h2
 rcases key l [] h with h|h
 ·exact h
 ·cases h
theorem ma {k:Int}:∀{s:ag},(∃x,x∈s∧x.1=k)→(k,fK k s)∈s
 | [],h=>by obtain⟨x,hx,_⟩:=h;cases hx
 | y::r,h=>by
  simp only [fK]
  split
  ·rename_i e;subst e;simp
  ·rename_i e
   obtain⟨x,hx,hk⟩:=h
   rcases List.mem_cons.1 hx with rfl|hx
   ·exact absurd hk e
   ·have:=ma (s:=r) ⟨x,hx,hk⟩
    simp [this]
set_option maxHeartbeats 2000000 in
theorem mc (j:Jn) (n:Nat) (hn:j.bs.length=n) (hb:n<1000000000):FPure Tryz.prog 95 [.agg [.i j.ps,.p (.data 1 n (j.bs.map bt)),.i j.page,.i j.gen,.i j.tail,.b j.torn]] (.p (PL (aU j))):=by
 refine en Tryz.func95 Tryz.ntmps95 Tryz.results95 [0,1,2,3,5,8,9,10,11] ?_;intro c hP h0 hE kK
 simp only [go_sem,hP]
 refine aa kK (by exact wL j n hn hb) ?_
 obtain⟨ht,hbl⟩:=iq j
 have hrl:=jv (aK j)
 unfold aU at hE kK
 generalize aK j=l at *
 simp only [go_sem,hP]
 refine ay hE h0 [0,1,2,3,5,8,9,10,11] l.length (fun i=>⟨21,[(3,.mp 1),(8,.p (.data 1 l.length (l.map byP))),(9,.i l.length),(10,.i i)],[(1,some ⟨cJ (dS (l.take i)),[]⟩)],2⟩) [] (fun i=>i) ?_ ?_
 ·refine⟨rfl,?_,?_,rfl,rfl,trivial,fun i h=>h⟩
  ·simp only [go_sem]
  ·simp only [go_sem]
   simp [dS]
 ·intro i hi
  rcases Nat.lt_or_ge i l.length with hin|hin
  ·have hc:((i:Int)<(l.length:Int)):=by omega
   have hst:=vW l i hin
   have hln:=ll (l.take i)
   have htl:=l7 l i
   have hel:(l.getD i []).length≤8192:=hbl _ (by rw [show l.getD i []=l[i]'hin from by simp [List.getD_eq_getElem?_getD,hin]];exact List.getElem_mem _)
   have hpl:=iX (l.getD i [])
   have hw:IntKind.i64.wrap ((i:Int)+1)=((i+1:Nat):Int):=by rw [ab (by omega) (by omega)];omega
   simp only [go_sem,hP,dq,byP,hc,hw]
   refine⟨by omega,by omega,?_⟩
   refine aa kK (by exact Dn (l.getD i []) _ rfl (by omega)) ?_
   generalize dS (l.take i)=o at *
   simp only [go_sem,hP]
   refine ck hE (ks:=[0,1,2,3,5,8,9,10,11]) (n:=2000) [] (fun i=>i+1) 2 (by rw [hP];exact tK o (aP (l.getD i [])) (by omega) (fun x hx=>by have:=iY hx;unfold i64;omega)) ⟨by simp only [go_sem],by simp only [go_sem],rfl,trivial,Nat.le_refl _,fun i hi=>?_,by simp [ax,an,keys],by simp [bS,an,ax,keys],rfl⟩ ?_
   ·simp [keys] at hi;simp [liveK];omega
   simp only [go_sem,hP,hw]
   refine⟨hin,aZ [0,1] rfl ?_ ?_ rfl rfl (Nat.le_refl _)⟩
   ·simp only [go_sem]
   ·simp only [go_sem,hst]
  ·obtain rfl:i=l.length:=by omega
   have hnc:¬((l.length:Int)<(l.length:Int)):=by omega
   rw [List.take_of_length_le (Nat.le_refl _)]
   have hsl:=ll l
   simp only [go_sem,hP,hnc]
   refine ck hE (ks:=[0,1,2,3,5,8,9,10,11]) (n:=2000) [] (fun i=>i+1) 3 (by rw [hP];exact rO (dS l) (by omega) (fun x hx=>by
    have hg:=ma (k:=x.1) ⟨x,hx,rfl⟩
    obtain⟨g1,b,hb,hg2⟩:=qn hg
    have h1:=iY hg2
    have h2:=hbl b hb
    simp only at g1 h1
    exact⟨by unfold i64;omega,g1,by omega⟩)) ⟨by simp only [go_sem],by simp only [go_sem],rfl,trivial,Nat.le_of_ble_eq_true rfl,fun i hi=>?_,by simp [ax,an,keys],by simp only [bS,an,vM,and_self],rfl⟩ ?_
   ·simp [keys] at hi;simp [liveK];omega
   simp only [go_sem,hP]
   have hol:(aQ (dS l)).length=(dS l).length:=by simp [aQ]
   rw [← hol,l6]
   exact⟨⟨Nat.le_refl _,vK _⟩,rfl,vL _⟩
end Go.Proofs.YtebndjnkmcahaaaGreatDoor
end
section
namespace Go.Proofs.YtebndjnkmcahaaaGreatDoor
set_option linter.unusedSimpArgs false
set_option linter.unusedVariables false
open Go Go.Abs Go.RowKit
set_option maxHeartbeats 1000000 in
theorem Dt (x y:Int×List UInt8) (m n:Nat):FPure Tryz.prog 157 [.agg [.i x.1,.p (.data 1 m (x.2.map bt))],.agg [.i y.1,.p (.data 1 n (y.2.map bt))]] (.b (decide (x=y))):=by
 refine en Tryz.func157 Tryz.ntmps157 Tryz.results157 [0,1,2,3,4] ?_;intro c hP h0 hE kK
 simp only [go_sem,hP]
 by_cases h:x.1=y.1
 ·rw [if_pos h]
  refine aa kK (by exact n0 x.2 y.2 m n) ?_
  simp only [go_sem,hP]
  have:(x.2==y.2)=decide (x=y):=by
   by_cases h2:x.2=y.2
   ·have:x=y:=Prod.ext h h2
    simp [this]
   ·have hne:x≠y:=fun e=>h2 (by rw [e])
    simp [h2,hne]
  (try rw [this])
 ·rw [if_neg h]
  have hne:x≠y:=fun e=>h (by rw [e])
  simp [hne]
set_option maxHeartbeats 2000000 in
theorem vX (a b:ag) (ha:a.length<1000000000):FPure Tryz.prog 156 [.p (PL a),.p (PL b),.p (.v (.func (.func 157) #[] #[]))] (.b (decide (a=b))):=by
 refine en Tryz.func156 Tryz.ntmps156 Tryz.results156 [0,1,2,6,7,8,9,14,15,16,17,18,30] ?_;intro c hP h0 hE kK
 simp only [go_sem,hP]
 by_cases hl:a.length=b.length
 ·rw [if_neg (by omega)]
  refine bo hE h0 [0,1,2,6,7,8,9,14,15,16,17,18,30] (α:={ i:Nat // i≤a.length∧a.take i=b.take i }) (fun i=>⟨32,[(1,.p (PL b)),(2,.p (.v (.func (.func 157) #[] #[]))),(15,.p (PL a)),(16,.i a.length),(17,.i i.1)],[],0⟩) (fun i=>a.length-i.1) ⟨0,Nat.zero_le _,by simp⟩ [] (fun i=>i) ?_ ?_
  ·refine⟨rfl,?_,trivial,rfl,rfl,trivial,fun i h=>h⟩
   simp only [go_sem]
  ·rintro⟨i,hi,he⟩
   rcases Nat.lt_or_ge i a.length with hin|hin
   ·have hc:((i:Int)<(a.length:Int)):=by omega
    have hc2:((i:Int)<(b.length:Int)):=by omega
    have hat:=cW a i hin
    have hat2:=cW b i (by omega)
    have hta:=cX a i hin
    have htb:=cX b i (by omega)
    have hw:IntKind.i64.wrap ((i:Int)+1)=((i+1:Nat):Int):=by rw [ab (by omega) (by omega)];omega
    have hne:a.getD i (0,[])≠b.getD i (0,[])→a≠b:=fun h e=>by subst e;exact h rfl
    generalize a.getD i (0,[])=x at *
    generalize b.getD i (0,[])=y at *
    simp only [go_sem,hP,hat,hat2,hc,hc2,hw,byP]
    refine⟨by omega,by omega,?_⟩
    refine aa kK (by exact Dt x y _ _) ?_
    simp only [go_sem,hP,hw]
    by_cases hxy:x=y
    ·rw [if_neg (by simp [hxy])]
     refine⟨⟨i+1,by omega,by rw [hta,htb,he,hxy]⟩,by show a.length-(i+1)<a.length-i;omega,aZ [] rfl ?_ ?_ rfl rfl (Nat.le_refl _)⟩
     ·simp only [go_sem]
     ·simp only [go_sem]
    ·rw [if_pos (by simp [hxy])]
     simp [hne hxy]
   ·obtain rfl:i=a.length:=by omega
    have hnc:¬((a.length:Int)<(a.length:Int)):=by omega
    have hab:a=b:=by
     rw [List.take_of_length_le (Nat.le_refl _),List.take_of_length_le (by omega)] at he
     exact he
    simp only [go_sem,hP,hnc]
    simp [hab]
 ·rw [if_pos (by omega)]
  have:a≠b:=fun e=>hl (by rw [e])
  simp [this]
def nG (v:Vt):Bool:=aE v.j&&decide (aU v.j=v.prs)
theorem gw (j:Jn):(aU j).length≤8192:=by
 have h1:=ll (aK j)
 have h2:=(iq j).1
 have:(aU j).length=(dS (aK j)).length:=by simp [aU,aQ]
 omega
set_option maxHeartbeats 4000000 in
theorem xq (v:Vt) (n:Nat) (hn:v.j.bs.length=n) (hb:n<1000000000):FPure Tryz.prog 97 [.agg [.i v.j.ps,.p (.data 1 n (v.j.bs.map bt)),.i v.j.page,.i v.j.gen,.i v.j.tail,.b v.j.torn,.p (PL v.prs)]] (.b (nG v)):=by
 refine en Tryz.func97 Tryz.ntmps97 Tryz.results97 [0,1,2,3,4,13,43] ?_;intro c hP h0 hE kK
 simp only [go_sem,hP]
 refine aa kK (by exact uJ v.j.ps v.j.bs n hn hb) ?_
 have hg:aE v.j=((mountM ⟨v.j.ps,v.j.bs⟩).err==0&&(mountM ⟨v.j.ps,v.j.bs⟩).j.page==v.j.page&&(mountM ⟨v.j.ps,v.j.bs⟩).j.gen==v.j.gen&&(mountM ⟨v.j.ps,v.j.bs⟩).j.tail==v.j.tail&&(mountM ⟨v.j.ps,v.j.bs⟩).j.torn==v.j.torn):=rfl
 have hml:(mountM ⟨v.j.ps,v.j.bs⟩).j.bs.length≤n:=by rw [← hn];exact fY ⟨v.j.ps,v.j.bs⟩
 have hfl:(mountM ⟨v.j.ps,v.j.bs⟩).err=0→flOf (mountM ⟨v.j.ps,v.j.bs⟩).j=⟨v.j.ps,v.j.bs⟩:=fun h=>pD h
 have hv:nG v=(aE v.j&&decide (aU v.j=v.prs)):=rfl
 generalize mountM ⟨v.j.ps,v.j.bs⟩=M at *
 simp only [go_sem,hP]
 by_cases h1:M.err=0
 ·rw [if_neg (fun h=>h h1)]
  by_cases h2:M.j.page=v.j.page
  ·rw [if_pos h2]
   by_cases h3:M.j.gen=v.j.gen
   ·rw [if_pos h3]
    by_cases h4:M.j.tail=v.j.tail
    ·rw [if_pos h4]
     by_cases h5:M.j.torn=v.j.torn
     ·rw [if_neg (fun h=>h h5)]
      have hj:M.j=v.j:=by
       have hf:=hfl h1
       have f1:M.j.ps=v.j.ps:=congrArg Fl.ps hf
       have f2:M.j.bs=v.j.bs:=congrArg Fl.bs hf
       cases hM:M.j with|mk a b c d e f=>cases hV:v.j with|mk a' b' c' d' e' f'=>rw [hM,hV] at h2 h3 h4 h5 f1 f2;simp only at h2 h3 h4 h5 f1 f2;rw [h2,h3,h4,h5,f1,f2]
      have hgt:aE v.j=true:=by rw [hg];simp [h1,h2,h3,h4,h5]
      rw [hgt,Bool.true_and] at hv
      refine aa kK (by exact mc M.j _ rfl (by omega)) ?_
      simp only [go_sem,hP]
      refine aa kK (by exact vX (aU M.j) v.prs (by have:=gw M.j;omega)) ?_
      rw [hj]
      simp only [go_sem,hP]
      exact⟨by kernel_rfl,by rw [hv]⟩
     ·rw [if_pos h5]
      rw [hv,hg];simp [h5]
    ·rw [if_neg h4]
     rw [hv,hg];simp [h4]
   ·rw [if_neg h3]
    rw [hv,hg];simp [h3]
  ·rw [if_neg h2]
   rw [hv,hg];simp [h2]
 ·rw [if_pos h1]
  rw [hv,hg];simp [h1]
set_option maxHeartbeats 1000000 in
theorem eF (j:Jn) (n:Nat) (left e:Int) (hn:j.bs.length=n) (hb:n<1000000000):FPure Tryz.prog 96 [.agg [.i j.ps,.p (.data 1 n (j.bs.map bt)),.i j.page,.i j.gen,.i j.tail,.b j.torn],.i left,.i e] (xn (if e=0 then ⟨⟨j,aU j⟩,left,0⟩ else bg j e)):=by
 refine en Tryz.func96 Tryz.ntmps96 Tryz.results96 [0,1,2,3,6,7,8,9,10,17] ?_;intro c hP h0 hE kK
 obtain⟨R,hR⟩:∃R,(if e=0 then (⟨⟨j,aU j⟩,left,0⟩:VR) else bg j e)=R:=⟨_,rfl⟩;rw [hR] at hE kK;(try rw [hR])
 simp only [go_sem,hP]
 by_cases h0:e=0
 ·rw [if_pos h0] at hR ⊢
  refine aa kK (by exact mc j n hn hb) ?_
  simp only [go_sem,hP]
  subst hR
  exact⟨by kernel_rfl,⟨rfl,⟨hn.symm,rfl⟩,rfl,rfl,rfl,rfl,rfl,rfl⟩,rfl,rfl⟩
 ·rw [if_neg h0] at hR ⊢
  unfold bg at hR
  by_cases h16:e=16
  ·rw [if_pos h16] at hR ⊢
   subst hR
   exact⟨⟨rfl,⟨hn.symm,rfl⟩,rfl,rfl,rfl,rfl,rfl,rfl⟩,rfl,h16⟩
  ·rw [if_neg h16] at hR ⊢
   subst hR
   exact⟨⟨rfl,⟨rfl,rfl⟩,rfl,rfl,rfl,rfl,rfl,rfl⟩,rfl,rfl⟩
def gx (j:Jn) (left e:Int):VR:=if e=0 then ⟨⟨j,aU j⟩,left,0⟩ else bg j e
def ne (j:Jn) (left e:Int):VR :=
 if e=0∧j.torn=true then gx (aw j (aI (aU j)) left).j (aw j (aI (aU j)) left).left (aw j (aI (aU j)) left).err else gx j left e
def qo (f:Fl) (budget:Int):VR :=
 if (mountM f).err=11 then ne (fu f budget).j (fu f budget).left (fu f budget).err else ne (mountM f).j budget (mountM f).err
theorem i1 {j:Jn} {x:Int×List UInt8} (h:x∈aU j):x.2≠[]∧0≤x.1∧x.1≤255∧x.2.length≤8192:=by
 unfold aU aQ at h
 obtain⟨y,hy,rfl⟩:=List.mem_map.1 h
 have hg:=ma (k:=y.1) ⟨y,hy,rfl⟩
 obtain⟨g1,b,hb,hg2⟩:=qn hg
 have h1:=iY hg2
 have h2:=(iq j).2 b hb
 exact⟨g1,h1.1,h1.2.1,by simp only at h1 ⊢;omega⟩
theorem nf (j:Jn):szM (aU j)<100000000:=by
 have h1:=lj (aU j) 8192 (fun x hx=>(i1 hx).2.2.2)
 have h2:=Nat.mul_le_mul_right (3+8192) (gw j)
 omega
set_option maxHeartbeats 4000000 in
theorem FH (ps:Int) (bs:List UInt8) (n:Nat) (budget:Int) (hn:bs.length=n) (hb:n<1000000000) (hB:i64 budget) :
 FPure Tryz.prog 36 [.agg [.i ps,.p (.data 1 n (bs.map bt))],.i budget] (xn (qo ⟨ps,bs⟩ budget)):=by
 refine en Tryz.func36 Tryz.ntmps36 Tryz.results36 [0,1,2,4,5,6,7,8,15,28] ?_;intro c hP h0 hE kK
 obtain⟨R,hR⟩:∃R,qo ⟨ps,bs⟩ budget=R:=⟨_,rfl⟩;rw [hR] at hE kK;(try rw [hR])
 unfold qo at hR
 simp only [go_sem,hP]
 refine aa kK (by exact uJ ps bs n hn hb) ?_
 have hml:(mountM ⟨ps,bs⟩).j.bs.length≤n:=by rw [← hn];exact fY ⟨ps,bs⟩
 generalize mountM ⟨ps,bs⟩=M at *
 simp only [go_sem,hP]
 by_cases h11:M.err=11
 ·rw [if_pos h11] at hR ⊢
  refine aa kK (by exact zu ps bs n budget hn hb hB) ?_
  rw [iO] at hR ⊢
  obtain⟨hfl,hfb⟩:=iZ ⟨ps,bs⟩ budget hB (by show bs.length<_;omega)
  have hfb:(bx ⟨ps,bs⟩ budget).j.bs.length≤bs.length:=hfb
  generalize bx ⟨ps,bs⟩ budget=G at *
  simp only [go_sem,hP]
  unfold ne at hR
  by_cases he:G.err=0
  ·rw [if_pos he]
   by_cases htn:G.j.torn=true
   ·rw [if_pos htn]
    rw [if_pos ⟨he,htn⟩] at hR
    refine aa kK (by exact mc G.j _ rfl (by omega)) ?_
    have hsz:=nf G.j
    have hbd:=gw G.j
    have hmem:=fun x (hx:x∈aU G.j)=>(i1 hx).2.2.2
    generalize aU G.j=l at *
    simp only [go_sem,hP]
    refine aa kK (by exact m9 l (by omega)) ?_
    have hel:∀b,b∈aI l→b.length<1000000:=fun b hb=>by have:=(oe hsz hb).2 8192 hmem;omega
    have hxl:=cT G.j (aI l) G.left hfl (by omega) hel
    rw [← cC] at hxl
    simp only [go_sem,hP]
    refine aa kK (by exact k9 G.j _ (aI l) _ G.left rfl (by omega) (iu l) (by omega) hel hfl) ?_
    generalize aw G.j (aI l) G.left=X at *
    simp only [go_sem,hP]
    refine⟨by kernel_rfl,?_⟩
    refine aa kK (by exact eF X.j _ X.left X.err rfl (by omega)) ?_
    have hfe:(if X.err=0 then (⟨⟨X.j,aU X.j⟩,X.left,0⟩:VR) else bg X.j X.err)=gx X.j X.left X.err:=rfl
    rw [hfe,hR]
    simp only [go_sem,hP]
    (try exact⟨⟨rfl,⟨rfl,rfl⟩,rfl,rfl,rfl,rfl,rfl,rfl⟩,rfl,rfl⟩)
   ·rw [if_neg htn]
    rw [if_neg (fun h=>htn h.2)] at hR
    refine aa kK (by exact eF G.j _ G.left G.err rfl (by omega)) ?_
    have hfe:(if G.err=0 then (⟨⟨G.j,aU G.j⟩,G.left,0⟩:VR) else bg G.j G.err)=gx G.j G.left G.err:=rfl
    rw [hfe,hR]
    simp only [go_sem,hP]
    (try exact⟨⟨rfl,⟨rfl,rfl⟩,rfl,rfl,rfl,rfl,rfl,rfl⟩,rfl,rfl⟩)
  ·rw [if_neg he]
   rw [if_neg (fun h=>he h.1)] at hR
   refine aa kK (by exact eF G.j _ G.left G.err rfl (by omega)) ?_
   have hfe:(if G.err=0 then (⟨⟨G.j,aU G.j⟩,G.left,0⟩:VR) else bg G.j G.err)=gx G.j G.left G.err:=rfl
   rw [hfe,hR]
   simp only [go_sem,hP]
   (try exact⟨⟨rfl,⟨rfl,rfl⟩,rfl,rfl,rfl,rfl,rfl,rfl⟩,rfl,rfl⟩)
 ·rw [if_neg h11] at hR ⊢
  unfold ne at hR
  by_cases he:M.err=0
  ·rw [if_pos he]
   by_cases htn:M.j.torn=true
   ·rw [if_pos htn]
    rw [if_pos ⟨he,htn⟩] at hR
    refine aa kK (by exact mc M.j _ rfl (by omega)) ?_
    have hsz:=nf M.j
    have hbd:=gw M.j
    have hmem:=fun x (hx:x∈aU M.j)=>(i1 hx).2.2.2
    generalize aU M.j=l at *
    simp only [go_sem,hP]
    refine aa kK (by exact m9 l (by omega)) ?_
    have hel:∀b,b∈aI l→b.length<1000000:=fun b hb=>by have:=(oe hsz hb).2 8192 hmem;omega
    have hxl:=cT M.j (aI l) budget hB (by omega) hel
    rw [← cC] at hxl
    simp only [go_sem,hP]
    refine aa kK (by exact k9 M.j _ (aI l) _ budget rfl (by omega) (iu l) (by omega) hel hB) ?_
    generalize aw M.j (aI l) budget=X at *
    simp only [go_sem,hP]
    refine⟨by kernel_rfl,?_⟩
    refine aa kK (by exact eF X.j _ X.left X.err rfl (by omega)) ?_
    have hfe:(if X.err=0 then (⟨⟨X.j,aU X.j⟩,X.left,0⟩:VR) else bg X.j X.err)=gx X.j X.left X.err:=rfl
    rw [hfe,hR]
    simp only [go_sem,hP]
    (try exact⟨⟨rfl,⟨rfl,rfl⟩,rfl,rfl,rfl,rfl,rfl,rfl⟩,rfl,rfl⟩)
   ·rw [if_neg htn]
    rw [if_neg (fun h=>htn h.2)] at hR
    refine aa kK (by exact eF M.j _ budget M.err rfl (by omega)) ?_
    have hfe:(if M.err=0 then (⟨⟨M.j,aU M.j⟩,budget,0⟩:VR) else bg M.j M.err)=gx M.j budget M.err:=rfl
    rw [hfe,hR]
    simp only [go_sem,hP]
    (try exact⟨⟨rfl,⟨rfl,rfl⟩,rfl,rfl,rfl,rfl,rfl,rfl⟩,rfl,rfl⟩)
  ·rw [if_neg he]
   rw [if_neg (fun h=>he h.1)] at hR
   refine aa kK (by exact eF M.j _ budget M.err rfl (by omega)) ?_
   have hfe:(if M.err=0 then (⟨⟨M.j,aU M.j⟩,budget,0⟩:VR) else bg M.j M.err)=gx M.j budget M.err:=rfl
   rw [hfe,hR]
   simp only [go_sem,hP]
   (try exact⟨⟨rfl,⟨rfl,rfl⟩,rfl,rfl,rfl,rfl,rfl,rfl⟩,rfl,rfl⟩)
end Go.Proofs.YtebndjnkmcahaaaGreatDoor
end

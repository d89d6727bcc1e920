/- joined of several texts; own work; no statement of the seat is proved but in the last -/
import Derived.Test.YtebndjnkmcahaaaGreatDoorNk
section
namespace Go.Proofs.YtebndjnkmcahaaaGreatDoor
set_option linter.unusedSimpArgs false
set_option linter.unusedVariables false
open Go Go.Abs Go.RowKit
abbrev rdE (cnt:Int) (B:List UInt8) (L:Nat) (at':Int) (n':Nat) (left:Int) (la:PV):List (Nat×Option Blk):=[(0,some ⟨rdT,[.sl 1 0 n' 3,.i cnt,.p (.data 1 L (B.map bt)),.i at']⟩),(1,some ⟨frT,[.b true,.i left,.p la]⟩)]
abbrev KE (x:Itm) (B:List UInt8) (L:Nat) (at' cnt left:Int) (la:PV) (cnt' left':Int) (la':PV) (n':Nat):Prop :=
 Con Tryz.prog 247 [.ptr 0 0,.agg (dg x)] (rdF cnt B L at' left la) (.i 0) (rdE cnt' B L at' n' left' la')
set_option maxHeartbeats 4000000 in
set_option maxRecDepth 100000 in
theorem tu (x:Itm) (hx:okI x) (B post:List UInt8) (L p:Nat) (hL:B.length=L) (hLb:L<1000000) (hB:B.drop p=bD x++post) (cnt left:Int) (la:PV) (cnt' left':Int) (la':PV) (n':Nat)
 (hc:0<cnt∧cnt<512) (hl:0≤left) (hkey:left % 2=0→x.kd=1) (hacc:KE x B L ((p+(bD x).length:Nat):Int) cnt left la cnt' left' la' n') :
 Con Tryz.prog 225 [.ptr 0 0] (rdF cnt B L p left la) (.tup [.agg (dg x),.i 0]) (rdE cnt' B L ((p+(bD x).length:Nat):Int) n' left' la'):=by
 refine ec 2 Tryz.func225 Tryz.ntmps225 Tryz.results225 [0,2,3,4,5,6,7,8,9,17,26,32,33,37,39,43,57,93] ?_;intro c hP h0 hE kK
 cases x
 case m n=>exact hx.elim
 case u n =>
  have hh:=xb 0 n B post L p hL hLb (by simpa [bD] using hB) cnt left la
  rw [show (1+(((0:Fin 6).val:Nat):Int))=1 from rfl] at hh
  have ha:=lR rdT 1 left cnt la [.data 1 L (B.map bt),.v (.int .i64 ((p+(1+szN n):Nat):Int))] (by decide) hl hkey hc.2
  rw [show (bD (.u n)).length=1+szN n from bM 0 n] at hacc hE kK
  simp only [go_sem,hP]
  refine x_k kK 3 (hh) ?_
  simp only [go_sem,hP]
  refine x_k kK 3 (ha) ?_
  simp only [go_sem,hP]
  refine x_k kK 4 (hacc) ?_
  simp only [go_sem,hP]
  refine⟨by kernel_rfl,aB [0,1] rfl ?_ ?_ rfl rfl (fun i hi=>by simp at hi;rcases hi with rfl|rfl<;>exact⟨rfl,by simp [keys]⟩) (fun i hi=>by simp [liveK] at hi;simp;omega)⟩
  ·simp only [go_sem]
  ·simp only [go_sem]
 case b v =>
  have hh:=Ij v B post L p hL hLb (by simpa [bD] using hB) cnt left la
  have ha:=lR rdT 7 left cnt la [.data 1 L (B.map bt),.v (.int .i64 ((p+1:Nat):Int))] (by decide) hl hkey hc.2
  rw [show (bD (.b v)).length=1 from rfl] at hacc hE kK
  simp only [go_sem,hP]
  refine x_k kK 3 (hh) ?_
  simp only [go_sem,hP]
  refine x_k kK 3 (ha) ?_
  simp only [go_sem,hP]
  refine x_k kK 4 (hacc) ?_
  simp only [go_sem,hP]
  refine⟨by kernel_rfl,aB [0,1] rfl ?_ ?_ rfl rfl (fun i hi=>by simp at hi;rcases hi with rfl|rfl<;>exact⟨rfl,by simp [keys]⟩) (fun i hi=>by simp [liveK] at hi;simp;omega)⟩
  ·simp only [go_sem]
  ·simp only [go_sem]
 case d s =>
  have hs:s.length≤1024:=hx
  have hn:((UInt64.ofNat s.length).toNat:Int)=s.length:=by rw [UInt64.toNat_ofNat',Nat.mod_eq_of_lt (by omega)]
  have hB':B.drop p=hdB 64 (UInt64.ofNat s.length)++(s++post):=by rw [hB];simp [bD]
  have hh:=xb 2 (UInt64.ofNat s.length) B (s++post) L p hL hLb hB' cnt left la
  rw [show (1+(((2:Fin 6).val:Nat):Int))=3 from rfl] at hh
  generalize hz:1+szN (UInt64.ofNat s.length)=z at *
  have ha:=lR rdT 3 left cnt la [.data 1 L (B.map bt),.v (.int .i64 ((p+z:Nat):Int))] (by decide) hl hkey hc.2
  have hlen:(bD (.d s)).length=z+s.length:=by rw [bD,List.length_append,bM,hz]
  have hcut:(B.drop (p+z)).take s.length=s:=by
   rw [← List.drop_drop,hB',←hz,←bM 64 (UInt64.ofNat s.length),List.drop_left,List.take_left]
  have hLe:p+z+s.length≤L:=by
   have:=congrArg List.length hB'
   rw [List.length_drop,List.length_append,List.length_append,bM,hz,hL] at this
   omega
  rw [hlen,←Nat.add_assoc] at hacc hE kK
  have w1:IntKind.i64.wrap (s.length:Int)=s.length:=ab (by omega) (by omega)
  have w2:IntKind.i64.wrap (((p+z:Nat):Int)+(s.length:Int))=((p+z+s.length:Nat):Int):=by rw [ab (by omega) (by omega)];omega
  have w3:IntKind.i64.wrap ((L:Int)-((p+z:Nat):Int))=((L-(p+z):Nat):Int):=by rw [ab (by omega) (by omega)];omega
  have e7:p+z+s.length-(p+z)=s.length:=by omega
  have n1:¬((s.length:Int)>1024):=by omega
  have n1':¬((1024:Int)<(s.length:Int)):=by omega
  have n2:¬(((L-(p+z):Nat):Int)<(s.length:Int)):=by omega
  simp only [go_sem,hP]
  refine x_k kK 3 (hh) ?_
  simp only [go_sem,hP]
  refine x_k kK 3 (ha) ?_
  simp only [go_sem,hP,hn,w1,w2,w3,e7,n1,n1',n2,hcut,dI,Abs.strOf]
  refine⟨by kernel_rfl,⟨by omega,by omega,by omega⟩,dc _,by kernel_rfl,?_⟩
  refine x_k kK 4 (hacc) ?_
  simp only [go_sem,hP]
  refine⟨by kernel_rfl,aB [0,1] rfl ?_ ?_ rfl rfl (fun i hi=>by simp at hi;rcases hi with rfl|rfl<;>exact⟨rfl,by simp [keys]⟩) (fun i hi=>by simp [liveK] at hi;simp;omega)⟩
  ·simp only [go_sem]
  ·simp only [go_sem]
 case t s =>
  have hs:s.length≤1024:=hx.1
  have hn:((UInt64.ofNat s.length).toNat:Int)=s.length:=by rw [UInt64.toNat_ofNat',Nat.mod_eq_of_lt (by omega)]
  have hB':B.drop p=hdB 96 (UInt64.ofNat s.length)++(s++post):=by rw [hB];simp [bD]
  have hh:=xb 3 (UInt64.ofNat s.length) B (s++post) L p hL hLb hB' cnt left la
  rw [show (1+(((3:Fin 6).val:Nat):Int))=4 from rfl] at hh
  generalize hz:1+szN (UInt64.ofNat s.length)=z at *
  have ha:=lR rdT 4 left cnt la [.data 1 L (B.map bt),.v (.int .i64 ((p+z:Nat):Int))] (by decide) hl hkey hc.2
  have hlen:(bD (.t s)).length=z+s.length:=by rw [bD,List.length_append,bM,hz]
  have hcut:(B.drop (p+z)).take s.length=s:=by
   rw [← List.drop_drop,hB',←hz,←bM 96 (UInt64.ofNat s.length),List.drop_left,List.take_left]
  have hLe:p+z+s.length≤L:=by
   have:=congrArg List.length hB'
   rw [List.length_drop,List.length_append,List.length_append,bM,hz,hL] at this
   omega
  rw [hlen,←Nat.add_assoc] at hacc hE kK
  have w1:IntKind.i64.wrap (s.length:Int)=s.length:=ab (by omega) (by omega)
  have w2:IntKind.i64.wrap (((p+z:Nat):Int)+(s.length:Int))=((p+z+s.length:Nat):Int):=by rw [ab (by omega) (by omega)];omega
  have w3:IntKind.i64.wrap ((L:Int)-((p+z:Nat):Int))=((L-(p+z):Nat):Int):=by rw [ab (by omega) (by omega)];omega
  have e7:p+z+s.length-(p+z)=s.length:=by omega
  have n1:¬((s.length:Int)>1024):=by omega
  have n1':¬((1024:Int)<(s.length:Int)):=by omega
  have n2:¬(((L-(p+z):Nat):Int)<(s.length:Int)):=by omega
  simp only [go_sem,hP]
  refine x_k kK 3 (hh) ?_
  simp only [go_sem,hP]
  refine x_k kK 3 (ha) ?_
  simp only [go_sem,hP,hn,w1,w2,w3,e7,n1,n1',n2,hcut,dI,Abs.strOf]
  refine⟨by kernel_rfl,⟨by omega,by omega,by omega⟩,dc _,by kernel_rfl,?_⟩
  refine x_k kK 4 (hacc) ?_
  simp only [go_sem,hP]
  refine⟨by kernel_rfl,aB [0,1] rfl ?_ ?_ rfl rfl (fun i hi=>by simp at hi;rcases hi with rfl|rfl<;>exact⟨rfl,by simp [keys]⟩) (fun i hi=>by simp [liveK] at hi;simp;omega)⟩
  ·simp only [go_sem]
  ·simp only [go_sem]
end Go.Proofs.YtebndjnkmcahaaaGreatDoor
end
section
namespace Go.Proofs.YtebndjnkmcahaaaGreatDoor
set_option linter.unusedSimpArgs false
set_option linter.unusedVariables false
open Go Go.Abs Go.RowKit
set_option maxRecDepth 100000 in
theorem Ik (B post:List UInt8) (L:Nat) (hL:B.length=L) (hLb:L<1000000) (hB:B=169::post) :
 Con Tryz.prog 250 [.ptr 0 0] [(0,some ⟨rdT,[du,.i 0,.p (.data 1 L (B.map bt)),.i 0]⟩)] (.tup [.i 6,.w 9,.i 0]) [(0,some ⟨rdT,[du,.i 0,.p (.data 1 L (B.map bt)),.i 1]⟩)]:=by
 refine ec 1 Tryz.func250 Tryz.ntmps250 Tryz.results250 [0,2,3,4,5,6,7,8,10,20,38,39,45,56,61,79,94,95,96,97,117] ?_;intro c hP h0 hE kK
 obtain⟨g1,g2,g3,g4⟩:=f4 (B:=B) (p:=0) (by simpa using hB)
 have f1:(((169:UInt8).toNat:Nat):Int)=169:=rfl
 have hp:(0:Int)<L:=by omega
 have hd0:eV (.v (.int .u8 0)) (B.map bt) = .v (.int .u8 169):=by
  have:=tL B 0
  rw [List.drop_zero,g1] at this
  exact this
 simp only [go_sem,hP,hd0,f1,show ¬((L:Int)≤0) from by omega,show IntKind.i64.wrap (0+1)=1 from by decide,show bc .u8 169 5=5 from by decide,show cu .u8 169 31=9 from by decide,show IntKind.i64.wrap 5=5 from by decide,show IntKind.i64.wrap (1+5)=6 from by decide,show IntKind.u64.wrap 9=9 from by decide]
 refine⟨by kernel_rfl,hp,by omega,by kernel_rfl,aB [0] rfl ?_ ?_ rfl rfl (fun i hi=>by simp at hi;subst hi;exact⟨rfl,by simp [keys]⟩) (fun i hi=>by simp [liveK] at hi;simp;omega)⟩
 ·simp only [go_sem,show (((9:UInt64).toNat:Nat):Int)=9 from rfl]
 ·simp only [go_sem]
set_option maxRecDepth 100000 in
theorem Fd (B post:List UInt8) (L:Nat) (hL:B.length=L) (hLb:L<1000000) (hB:B=169::post) :
 Con Tryz.prog 225 [.ptr 0 0] [(0,some ⟨rdT,[du,.i 0,.p (.data 1 L (B.map bt)),.i 0]⟩)] (.tup [.agg (dg (.m 9)),.i 0]) (rdE 1 B L 1 1 18 (.v (.slice none 0 0))):=by
 refine ec 1 Tryz.func225 Tryz.ntmps225 Tryz.results225 [0,2,3,4,5,6,7,8,9,17,26,32,33,37,39,43,57,93] ?_;intro c hP h0 hE kK
 have hh:=Ik B post L hL hLb hB
 have ha:=tj rdT 6 0 [.data 1 L (B.map bt),.v (.int .i64 1)] (by decide) (by decide)
 have hO:=vd rdT [.data 1 L (B.map bt),.v (.int .i64 1)]
 have h9:((UInt64.toNat 9:Nat):Int)=9:=by decide
 simp only [go_sem,hP]
 refine x_k kK 2 (hh) ?_
 simp only [go_sem,hP]
 refine x_k kK 2 (ha) ?_
 simp only [go_sem,hP,h9]
 refine mw hE (ks:=[0,2,3,4,5,6,7,8,9,17,26,32,33,37,39,43,57,93]) (n:=2000) [] (sg 3 [0]) _ (by rw [hP];exact hO) ⟨by simp only [go_sem],by simp only [go_sem],rfl,trivial,Nat.le_add_right _ 2,fun i hi=>by simp [keys] at hi;rcases hi with rfl|rfl<;>simp [liveK,sg],by simp [ax,an,keys],by simp [bS,an,ax,keys],rfl⟩ rfl ?_
 simp only [go_sem,hP]
 refine⟨by kernel_rfl,aB [0,4] rfl ?_ ?_ rfl rfl (fun i hi=>by simp at hi;subst hi;exact⟨rfl,by simp [keys]⟩) (fun i hi=>by simp [liveK] at hi;simp;omega)⟩
 ·simp only [go_sem]
 ·simp only [go_sem]
theorem fB (l:List Itm) (i:Nat) (h:i<l.length):(bP l).drop (bP (l.take i)).length=bD (l.getD i (.b false))++bP (l.drop (i+1)):=by
 have e:bP l=bP (l.take i)++(bD (l.getD i (.b false))++bP (l.drop (i+1))):=by
  rw [← List.append_assoc,←eA l i h]
  unfold bP
  rw [← List.flatMap_append,List.take_append_drop]
 rw [e,List.drop_left]
def eT (l:List Itm) (i:Nat):Nat:=(bP (l.take i)).length
def hpR (l:List Itm) (B:List UInt8) (L i:Nat):List (Nat×Option Blk) :=
 if i=0 then [(0,some ⟨rdT,[du,.i 0,.p (.data 1 L (B.map bt)),.i 0]⟩)] else rdE i B L (eT l i) (if i=19 then 0 else 1) (19-(i:Int)) (laI i)
theorem Ff {l:List Itm} (hl:G19 l) {B:List UInt8} {L:Nat} (hB:B=bP l) (hL:B.length=L) {i:Nat} (h1:1≤i) (h19:i<19) :
 Con Tryz.prog 225 [.ptr 0 0] (rdF i B L (eT l i) (19-(i:Int)) (laI i)) (.tup [.agg (dg (l.getD i (.b false))),.i 0]) (rdE ((i+1:Nat):Int) B L (eT l (i+1)) (if i+1=19 then 0 else 1) (19-((i+1:Nat):Int)) (laI (i+1))):=by
 have hLb:L<1000000:=by
  have:=hl.bs 19 (by decide)
  rw [show l.take 19=l from List.take_of_length_le (by rw [hl.len];decide),←hB,hL] at this
  omega
 have hsp:=fB l i (by rw [hl.len];exact h19)
 rw [← hB] at hsp
 have hps:eT l (i+1)=eT l i+(bD (l.getD i (.b false))).length:=by unfold eT;rw [eA l i (by rw [hl.len];exact h19),List.length_append]
 rw [hps]
 obtain⟨j,hj⟩:∃j,i=2*j-1∧1≤j∧j≤9∨i=2*j∧1≤j∧j<9∨i=18:=⟨(i+1)/2,by omega⟩
 rcases hj with ⟨rfl,h2,h3⟩|⟨rfl,h2,h3⟩|rfl
 ·have e1:laI (2*j-1)=laP j:=by
   unfold laI laP
   by_cases hj:j=1
   ·subst hj;rfl
   ·rw [if_neg (by omega),if_neg hj,show (2*j-1)/2=j-1 from by omega];rfl
  have e2:laI (2*j-1+1)=laK j:=by unfold laI;rw [if_neg (by omega),show (2*j-1+1)/2=j from by omega]
  rw [if_neg (by omega),e1,e2]
  rw [hl.hk j h2 h3] at hsp ⊢
  rw [show (((2*j-1:Nat):Int))=2*j-1 from by omega,show (((2*j-1+1:Nat):Int))=2*j from by omega,show (19-(2*(j:Int)-1))=20-2*j from by omega]
  exact tu (.u (UInt64.ofNat j)) trivial B _ L _ hL hLb hsp _ _ _ _ _ _ _ (by omega) (by omega) (fun _=>rfl) (ve rdT [.data 1 L (B.map bt),.v (.int .i64 _)] j h2 h3)
 ·have e1:laI (2*j)=laK j:=by unfold laI;rw [if_neg (by omega),show 2*j/2=j from by omega]
  have e2:laI (2*j+1)=laK j:=by unfold laI;rw [if_neg (by omega),show (2*j+1)/2=j from by omega]
  rw [if_neg (by omega),e1,e2,show (((2*j:Nat):Int))=2*j from by omega,show (((2*j+1:Nat):Int))=2*j+1 from by omega,show (19-(2*(j:Int)+1))=18-2*j from by omega]
  exact tu _ (hl.hv j h2 (by omega)) B _ L _ hL hLb hsp _ _ _ _ _ _ _ (by omega) (by omega) (fun h=>by omega) (vf rdT [.data 1 L (B.map bt),.v (.int .i64 _)] _ (hl.hv j h2 (by omega)) j h2 h3)
 ·exact tu _ (hl.hv 9 (by decide) (by decide)) B _ L _ hL hLb hsp _ _ _ _ _ _ _ (by decide) (by decide) (fun h=>absurd h (by decide)) (vg rdT [.data 1 L (B.map bt),.v (.int .i64 _)] _ (hl.hv 9 (by decide) (by decide)))
theorem CK {l:List Itm} {B:List UInt8} {L i:Nat} (h:i≠0):hpR l B L i=rdE i B L (eT l i) (if i=19 then 0 else 1) (19-(i:Int)) (laI i):=by unfold hpR;rw [if_neg h]
abbrev fG:Nat:=162
theorem f9 (T:List Itm) (x:Itm):bX T++[.p (.v (.int .i64 x.kd)),.p (wd x.nu),.p (.v (.string ⟨x.da.toArray⟩))]=bX (T++[x]):=by rw [← pJ];rfl
theorem lT (l:List Itm) (i:Nat) (h:i<l.length):l.take (i+1)=l.take i++[l.getD i (.b false)]:=by
 rw [List.take_add_one,show l[i]?=some (l.getD i (.b false)) from by simp [List.getD_eq_getElem?_getD,h]]
 rfl
set_option maxHeartbeats 1000000 in
theorem xc (l:List Itm) (hl:G19 l) (B:List UInt8) (L:Nat) (hB:B=bP l) (hL:B.length=L):FPure Tryz.prog 182 [.p (.data 1 L (B.map bt))] (.tup [.p (.data 3 19 (aO l)),.i L,.i 0]):=by
 refine en Tryz.func182 Tryz.ntmps182 Tryz.results182 [0,2,3,4,5,6,7,12,18] ?_;intro c hP h0 hE kK
 have hLb:L<1000000:=by
  have:=hl.bs 19 (by decide)
  rw [show l.take 19=l from List.take_of_length_le (by rw [hl.len];decide),←hB,hL] at this
  omega
 have hp0:eT l 0=0:=rfl
 simp only [go_sem,hP]
 refine bE fG ?_
 refine ay hE h0 [0,2,3,4,5,6,7,12,18] 19 (fun i=>⟨27,[(2,.sl 2 0 i 3),(5,.ptr 0 0)],hpR l B L i++[(2,some ⟨fG,bX (l.take i)⟩)],3⟩) [] (sg 2 [0,2,1]) ?_ ?_
 ·refine⟨rfl,?_,?_,?_,?_,trivial,fun i h=>bH [0,2,1] 2 i h⟩
  ·simp only [go_sem]
  ·simp only [go_sem,hpR,List.take_zero]
   exact (show ai _ _ _ [] [] from by simp [ai])
  ·rfl
  ·rfl
 intro i hi
 rcases Nat.lt_or_ge i 19 with h19|h19
 ·have hti:=lT l i (by rw [hl.len];exact h19)
  have hlt:(l.take i).length=i:=by rw [List.length_take,hl.len];omega
  rcases Nat.eq_zero_or_pos i with rfl|hp
  ·have hd:Con Tryz.prog 215 [.ptr 0 0] _ (.b false) _:=tg rdT 0 [.data 1 L (B.map bt),.v (.int .i64 0)]
   have hO:=Fd B (bP (l.drop 1)) L hL hLb (by
    have:=fB l 0 (by rw [hl.len];decide)
    rw [hl.h0] at this
    rw [hB]
    simpa [bP,bD,hdB,loN,szN,bgB] using this)
   rw [show hpR l B L 0=[(0,some ⟨rdT,[du,.i 0,.p (.data 1 L (B.map bt)),.i 0]⟩)] from rfl]
   simp only [go_sem,hP]
   refine x_k kK 3 (hd) ?_
   simp only [go_sem,hP]
   refine ck hE (ks:=[0,2,3,4,5,6,7,12,18]) (n:=2000) [] (sg 3 [0]) _ (by rw [hP];exact hO) ⟨by simp only [go_sem],by simp only [go_sem],rfl,trivial,Nat.le_add_right _ 2,fun i hi=>by simp [keys] at hi;rcases hi with rfl|rfl<;>simp [liveK,sg],by simp [ax,an,keys],by simp [bS,an,ax,keys],rfl⟩ ?_
   rw [hl.h0] at hti
   have hp1:eT l (0+1)=1:=by unfold eT;rw [hti];rfl
   have e0:bX []++[.p (.v (.int .i64 6)),.p (wd 9),.p (.v (.string ⟨#[]⟩))]=bX [.m 9]:=rfl
   rw [CK (i:=0+1) (by decide),hti,hp1]
   simp only [go_sem,hP,e0]
   refine⟨by decide,aZ [0,4,7] rfl ?_ ?_ rfl rfl (Nat.le_of_ble_eq_true rfl)⟩
   ·simp only [go_sem]
   ·simp only [go_sem,List.take_zero,laI]
    exact⟨rfl,rfl⟩
  ·have hI:=Ff hl hB hL hp h19
   have hd:=th rdT 1 i [.data 1 L (B.map bt),.v (.int .i64 (eT l i))] [.v (.bool true),.v (.int .i64 (19-(i:Int))),laI i] (by omega)
   rw [CK (i:=i) (by omega),if_neg (by omega)]
   rw [CK (i:=i+1) (by omega),hti]
   generalize l.getD i (.b false)=x at *
   generalize l.take i=T at *
   generalize (if i+1=19 then 0 else 1)=n' at *
   simp only [go_sem,hP]
   refine x_k kK 3 (hd) ?_
   simp only [go_sem,hP]
   refine x_k kK 3 (hI) ?_
   simp only [go_sem,hP,f9]
   refine⟨⟨by omega,by omega,by omega⟩,h19,aZ [0,1,5] rfl ?_ ?_ rfl rfl (Nat.le_of_ble_eq_true rfl)⟩
   ·simp only [go_sem]
   ·simp only [go_sem]
 ·obtain rfl:i=19:=by omega
  have hd:=th rdT 0 19 [.data 1 L (B.map bt),.v (.int .i64 L)] [.v (.bool true),.v (.int .i64 0),laK 9] (by decide)
  have hps:eT l 19=L:=by unfold eT;rw [List.take_of_length_le (by rw [hl.len];decide),←hB,hL]
  rw [show hpR l B L 19=rdE 19 B L L 0 0 (laK 9) from by unfold hpR;rw [hps];rfl]
  rw [show l.take 19=l from List.take_of_length_le (by rw [hl.len];decide)]
  simp only [go_sem,hP]
  refine x_k kK 3 (hd) ?_
  simp only [go_sem,hP]
  rw [List.take_of_length_le (by rw [gm,hl.len];decide)]
  simp only [go_sem]
  exact⟨by kernel_rfl,by rw [hl.len];decide⟩
end Go.Proofs.YtebndjnkmcahaaaGreatDoor
end

/- joined of several texts; own work; no statement of the seat is proved but in the last -/
import Derived.Test.YtebndjnkmcahaaaGreatDoorNp
section
section
namespace Go.Proofs.YtebndjnkmcahaaaGreatDoor
set_option linter.unusedSimpArgs false
set_option linter.unusedVariables false
open Go Go.Abs Go.RowKit
abbrev rrG (B:List UInt8) (at':Int) (n:Nat) (T:List Itm):List (Nat×Option Blk):=[(0,some ⟨rrT,[sv B,.i at',.sl 2 0 n 3]⟩),(2,some ⟨fG,bX T⟩),(1,none)]
theorem Ac (nx a:Nat):∀i,i∉[0,2]→nx≤sg nx [0,nx,a] i:=by
 intro i hi
 match i,hi with
 | 0,hi=>exact absurd (by simp) hi
 | 1,_=>simp [sg]
 | 2,hi=>exact absurd (by simp) hi
 | i+3,_=>simp [sg];omega
set_option maxHeartbeats 4000000 in
set_option maxRecDepth 100000 in
theorem CO (x:Itm) (hx:okI x) (B post:List UInt8) (L p:Nat) (hL:B.length=L) (hLb:L<1000000) (hB:B.drop p=bD x++post) (m:Nat) (T:List Itm) (hm:T.length=m) (hm':m<512) :
 Con Tryz.prog 249 [.ptr 0 0,.i 1,.b false,sv []] (rrF B p m T) (.i 0) (rrG B ((p+(bD x).length:Nat):Int) (m+1) (T++[x])):=by
 refine ec 2 Tryz.func249 Tryz.ntmps249 Tryz.results249 [0,1,2,3,8,9,10,11,12,13,14,15,16,17,18,25,45,52,60,63,76,93,129,141,157,162,174,189] ?_;intro c hP h0 hE kK
 cases x
 case m n=>exact hx.elim
 case u n =>
  have hh:=oa 0 n B post L p hL hLb (by simpa [bD] using hB) m T
  rw [show (1+(((0:Fin 6).val:Nat):Int))=1 from rfl] at hh
  have hlen:(bD (.u n)).length=1+szN n:=bM 0 n
  have sN:bX T++[.p (.v (.int .i64 1)),.p (wd n),.p (.v (.string ⟨#[]⟩))]=bX (T++[.u n]):=f9 T (.u n)
  simp only [go_sem,hP]
  refine x_k kK 2 (hh) ?_
  simp only [go_sem,hP,show ¬((m:Int)≥512) from by omega]
  refine⟨by kernel_rfl,⟨by omega,by omega,by omega⟩,by kernel_rfl,?_⟩
  refine bK hE [0,1] (fun i hi=>by have:=h0 i hi;simpa [liveK] using this) [0,1,2,3,8,9,10,11,12,13,14,15,16,17,18,25,45,52,60,63,76,93,129,141,157,162,174,189] 0 (fun i=>⟨191,[(13,.b false)],[(0,some ⟨rrT,[sv B,.i ((p+(bD (.u n)).length:Nat):Int),.sl 2 0 (m+1) 3]⟩),(2,some ⟨fG,bX (T++[.u n])⟩)],3⟩) [] (sg 5 [0,1,4]) ⟨rfl,?_,?_,rfl,rfl,trivial,fun i h=>bH [0,1,4] 5 i h⟩ (fun i hi=>by simp at hi;rcases hi with rfl|rfl<;>rfl) ?_
  ·simp only [go_sem]
  ·simp only [go_sem,sN,hlen,Nat.add_assoc]
  intro i hi
  simp only [go_sem,hP]
  refine fc [0,3,2] rfl ?_ ?_ rfl rfl (fun i hi=>by simp at hi;rcases hi with rfl|rfl<;>simp [liveK,keys,sg]) (Ac _ _)
  ·simp only [go_sem]
  ·simp only [go_sem]
 case b v =>
  have hh:=Fh v B post L p hL hLb (by simpa [bD] using hB) m T
  have hlen:(bD (.b v)).length=1:=rfl
  have sN:bX T++[.p (.v (.int .i64 7)),.p (wd (bN v)),.p (.v (.string ⟨#[]⟩))]=bX (T++[.b v]):=f9 T (.b v)
  simp only [go_sem,hP]
  refine x_k kK 2 (hh) ?_
  simp only [go_sem,hP,show ¬((m:Int)≥512) from by omega]
  refine⟨by kernel_rfl,⟨by omega,by omega,by omega⟩,by kernel_rfl,?_⟩
  refine bK hE [0,1] (fun i hi=>by have:=h0 i hi;simpa [liveK] using this) [0,1,2,3,8,9,10,11,12,13,14,15,16,17,18,25,45,52,60,63,76,93,129,141,157,162,174,189] 0 (fun i=>⟨191,[(13,.b false)],[(0,some ⟨rrT,[sv B,.i ((p+(bD (.b v)).length:Nat):Int),.sl 2 0 (m+1) 3]⟩),(2,some ⟨fG,bX (T++[.b v])⟩)],3⟩) [] (sg 5 [0,1,4]) ⟨rfl,?_,?_,rfl,rfl,trivial,fun i h=>bH [0,1,4] 5 i h⟩ (fun i hi=>by simp at hi;rcases hi with rfl|rfl<;>rfl) ?_
  ·simp only [go_sem]
  ·simp only [go_sem,sN,hlen,Nat.add_assoc]
  intro i hi
  simp only [go_sem,hP]
  refine fc [0,3,2] rfl ?_ ?_ rfl rfl (fun i hi=>by simp at hi;rcases hi with rfl|rfl<;>simp [liveK,keys,sg]) (Ac _ _)
  ·simp only [go_sem]
  ·simp only [go_sem]
 case d s =>
  have hs:s.length≤1024:=hx
  have hn:((UInt64.ofNat s.length).toNat:Int)=s.length:=by rw [UInt64.toNat_ofNat',Nat.mod_eq_of_lt (by omega)]
  have hB':B.drop p=hdB 64 (UInt64.ofNat s.length)++(s++post):=by rw [hB];simp [bD]
  have hh:=oa 2 (UInt64.ofNat s.length) B (s++post) L p hL hLb hB' m T
  rw [show (1+(((2:Fin 6).val:Nat):Int))=3 from rfl] at hh
  generalize hz:1+szN (UInt64.ofNat s.length)=z at *
  have hlen:(bD (.d s)).length=z+s.length:=by rw [bD,List.length_append,bM,hz]
  have hcut:(B.drop (p+z)).take s.length=s:=by
   rw [← List.drop_drop,hB',←hz,←bM 64 (UInt64.ofNat s.length),List.drop_left,List.take_left]
  have hLe:p+z+s.length≤L:=by
   have:=congrArg List.length hB'
   rw [List.length_drop,List.length_append,List.length_append,bM,hz,hL] at this
   omega
  have w1:IntKind.i64.wrap (s.length:Int)=s.length:=ab (by omega) (by omega)
  have w2:IntKind.i64.wrap (((p+z:Nat):Int)+(s.length:Int))=((p+z+s.length:Nat):Int):=by rw [ab (by omega) (by omega)];omega
  have w3:IntKind.i64.wrap ((B.length:Int)-((p+z:Nat):Int))=((B.length-(p+z):Nat):Int):=by rw [ab (by omega) (by omega)];omega
  have w4:IntKind.u64.wrap ((B.length-(p+z):Nat):Int)=((B.length-(p+z):Nat):Int):=ak (by omega) (by omega)
  have hext:(⟨B.toArray⟩:ByteArray).extract (p+z) (p+z+s.length)=⟨s.toArray⟩:=by rw [Df,List.drop_take,Nat.add_sub_cancel_left,hcut]
  have n1:¬((s.length:Int)>1024):=by omega
  have n2:¬(((B.length-(p+z):Nat):Int)<(s.length:Int)):=by omega
  have sN:bX T++[.p (.v (.int .i64 3)),.p (.v (.int .u64 0)),.p (.v (.string ⟨s.toArray⟩))]=bX (T++[.d s]):=f9 T (.d s)
  simp only [go_sem,hP]
  refine x_k kK 2 (hh) ?_
  simp only [go_sem,hP,show ¬((m:Int)≥512) from by omega,hn,w1,w2,w3,w4,n1,n2,hext]
  refine⟨by kernel_rfl,⟨by omega,by omega,by omega⟩,by kernel_rfl,⟨by omega,by omega,by omega⟩,by kernel_rfl,?_⟩
  refine bK hE [0,1] (fun i hi=>by have:=h0 i hi;simpa [liveK] using this) [0,1,2,3,8,9,10,11,12,13,14,15,16,17,18,25,45,52,60,63,76,93,129,141,157,162,174,189] 0 (fun i=>⟨191,[(13,.b false)],[(0,some ⟨rrT,[sv B,.i ((p+(bD (.d s)).length:Nat):Int),.sl 2 0 (m+1) 3]⟩),(2,some ⟨fG,bX (T++[.d s])⟩)],3⟩) [] (sg 5 [0,1,4]) ⟨rfl,?_,?_,rfl,rfl,trivial,fun i h=>bH [0,1,4] 5 i h⟩ (fun i hi=>by simp at hi;rcases hi with rfl|rfl<;>rfl) ?_
  ·simp only [go_sem]
  ·simp only [go_sem,sN,hlen,Nat.add_assoc]
  intro i hi
  simp only [go_sem,hP]
  refine fc [0,3,2] rfl ?_ ?_ rfl rfl (fun i hi=>by simp at hi;rcases hi with rfl|rfl<;>simp [liveK,keys,sg]) (Ac _ _)
  ·simp only [go_sem]
  ·simp only [go_sem]
 case t s =>
  have hs:s.length≤1024:=hx.1
  have hn:((UInt64.ofNat s.length).toNat:Int)=s.length:=by rw [UInt64.toNat_ofNat',Nat.mod_eq_of_lt (by omega)]
  have hB':B.drop p=hdB 96 (UInt64.ofNat s.length)++(s++post):=by rw [hB];simp [bD]
  have hh:=oa 3 (UInt64.ofNat s.length) B (s++post) L p hL hLb hB' m T
  rw [show (1+(((3:Fin 6).val:Nat):Int))=4 from rfl] at hh
  generalize hz:1+szN (UInt64.ofNat s.length)=z at *
  have hlen:(bD (.t s)).length=z+s.length:=by rw [bD,List.length_append,bM,hz]
  have hcut:(B.drop (p+z)).take s.length=s:=by
   rw [← List.drop_drop,hB',←hz,←bM 96 (UInt64.ofNat s.length),List.drop_left,List.take_left]
  have hLe:p+z+s.length≤L:=by
   have:=congrArg List.length hB'
   rw [List.length_drop,List.length_append,List.length_append,bM,hz,hL] at this
   omega
  have w1:IntKind.i64.wrap (s.length:Int)=s.length:=ab (by omega) (by omega)
  have w2:IntKind.i64.wrap (((p+z:Nat):Int)+(s.length:Int))=((p+z+s.length:Nat):Int):=by rw [ab (by omega) (by omega)];omega
  have w3:IntKind.i64.wrap ((B.length:Int)-((p+z:Nat):Int))=((B.length-(p+z):Nat):Int):=by rw [ab (by omega) (by omega)];omega
  have w4:IntKind.u64.wrap ((B.length-(p+z):Nat):Int)=((B.length-(p+z):Nat):Int):=ak (by omega) (by omega)
  have hext:(⟨B.toArray⟩:ByteArray).extract (p+z) (p+z+s.length)=⟨s.toArray⟩:=by rw [Df,List.drop_take,Nat.add_sub_cancel_left,hcut]
  have n1:¬((s.length:Int)>1024):=by omega
  have n2:¬(((B.length-(p+z):Nat):Int)<(s.length:Int)):=by omega
  have sN:bX T++[.p (.v (.int .i64 4)),.p (.v (.int .u64 0)),.p (.v (.string ⟨s.toArray⟩))]=bX (T++[.t s]):=f9 T (.t s)
  simp only [go_sem,hP]
  refine x_k kK 2 (hh) ?_
  simp only [go_sem,hP,show ¬((m:Int)≥512) from by omega,hn,w1,w2,w3,w4,n1,n2,hext]
  refine⟨by kernel_rfl,⟨by omega,by omega,by omega⟩,by kernel_rfl,?_⟩
  refine aa kK (by exact dw s (by omega)) ?_
  simp only [go_sem,hP,hx.2]
  refine⟨⟨by omega,by omega,by omega⟩,by kernel_rfl,?_⟩
  refine bK hE [0,1] (fun i hi=>by have:=h0 i hi;simpa [liveK] using this) [0,1,2,3,8,9,10,11,12,13,14,15,16,17,18,25,45,52,60,63,76,93,129,141,157,162,174,189] 0 (fun i=>⟨191,[(13,.b false)],[(0,some ⟨rrT,[sv B,.i ((p+(bD (.t s)).length:Nat):Int),.sl 2 0 (m+1) 3]⟩),(2,some ⟨fG,bX (T++[.t s])⟩)],3⟩) [] (sg 5 [0,1,4]) ⟨rfl,?_,?_,rfl,rfl,trivial,fun i h=>bH [0,1,4] 5 i h⟩ (fun i hi=>by simp at hi;rcases hi with rfl|rfl<;>rfl) ?_
  ·simp only [go_sem]
  ·simp only [go_sem,sN,hlen,Nat.add_assoc]
  intro i hi
  simp only [go_sem,hP]
  refine fc [0,3,2] rfl ?_ ?_ rfl rfl (fun i hi=>by simp at hi;rcases hi with rfl|rfl<;>simp [liveK,keys,sg]) (Ac _ _)
  ·simp only [go_sem]
  ·simp only [go_sem]
end Go.Proofs.YtebndjnkmcahaaaGreatDoor
end
section
namespace Go.Proofs.YtebndjnkmcahaaaGreatDoor
set_option linter.unusedSimpArgs false
set_option linter.unusedVariables false
open Go Go.Abs Go.RowKit
set_option maxHeartbeats 4000000 in
set_option maxRecDepth 100000 in
theorem CP (j:Nat) (h1:1≤j) (h9:j≤9) (B post:List UInt8) (L p:Nat) (hL:B.length=L) (hLb:L<1000000) (hB:B.drop p=bD (.u (UInt64.ofNat j))++post) (m:Nat) (T:List Itm) (hm:T.length=m) (hm':m<512) :
 Con Tryz.prog 249 [.ptr 0 0,.i 1,.b true,sv (bfP j)] (rrF B p m T) (.i 0) (rrG B ((p+1:Nat):Int) (m+1) (T++[.u (UInt64.ofNat j)])):=by
 refine ec 2 Tryz.func249 Tryz.ntmps249 Tryz.results249 [0,1,2,3,8,9,10,11,12,13,14,15,16,17,18,25,45,52,60,63,76,93,129,141,157,162,174,189] ?_;intro c hP h0 hE kK
 have hb:=jF (.u (UInt64.ofNat j)) (by simp [Itm.da])
 rw [show bD (.u (UInt64.ofNat j))=[UInt8.ofNat j] from z6 ⟨j,by omega⟩] at hb
 have hlt:=fun h=>yt (UInt8.ofNat (j-1)) (UInt8.ofNat j) h
 have hw:(UInt64.ofNat j).toNat<24:=by rw [UInt64.toNat_ofNat',Nat.mod_eq_of_lt (by omega)];omega
 generalize hb':bfP j=bf at *
 generalize UInt64.ofNat j=w at *
 have hh:=oa 0 w B post L p hL hLb hB m T
 rw [show (1+(((0:Fin 6).val:Nat):Int))=1 from rfl,(ny w hw).2] at hh
 have sN:bX T++[.p (.v (.int .i64 1)),.p (wd w),.p (.v (.string ⟨#[]⟩))]=bX (T++[.u w]):=f9 T (.u w)
 by_cases h1':j=1
 ·obtain rfl:bf=[]:=by rw [← hb'];unfold bfP;rw [if_pos h1']
  simp only [go_sem,hP]
  refine x_k kK 2 (hh) ?_
  simp only [go_sem,hP,show ¬((m:Int)≥512) from by omega]
  refine aa kK (by exact mV) ?_
  simp only [go_sem,hP]
  refine⟨by kernel_rfl,⟨by omega,by omega,by omega⟩,by kernel_rfl,?_⟩
  refine bK hE [0,1] (fun i hi=>by have:=h0 i hi;simpa [liveK] using this) [0,1,2,3,8,9,10,11,12,13,14,15,16,17,18,25,45,52,60,63,76,93,129,141,157,162,174,189] 0 (fun i=>⟨191,[(13,.b false)],[(0,some ⟨rrT,[sv B,.i ((p+1:Nat):Int),.sl 2 0 (m+1) 3]⟩),(2,some ⟨fG,bX (T++[.u w])⟩)],3⟩) [] (sg 5 [0,1,4]) ⟨rfl,?_,?_,rfl,rfl,trivial,fun i h=>bH [0,1,4] 5 i h⟩ (fun i hi=>by simp at hi;rcases hi with rfl|rfl<;>rfl) ?_
  ·simp only [go_sem]
  ·simp only [go_sem,sN]
  intro i hi
  simp only [go_sem,hP]
  refine fc [0,3,2] rfl ?_ ?_ rfl rfl (fun i hi=>by simp at hi;rcases hi with rfl|rfl<;>simp [liveK,keys,sg]) (Ac _ _)
  ·simp only [go_sem]
  ·simp only [go_sem]
 ·obtain rfl:bf=[UInt8.ofNat (j-1)]:=by rw [← hb'];unfold bfP;rw [if_neg (by omega)]
  have hlt:=hlt (by rw [UInt8.toNat_ofNat',UInt8.toNat_ofNat'];omega)
  generalize UInt8.ofNat (j-1)=u1 at *
  generalize UInt8.ofNat j=u2 at *
  simp only [go_sem,hP]
  refine x_k kK 2 (hh) ?_
  simp only [go_sem,hP,show ¬((m:Int)≥512) from by omega]
  refine aa kK (by exact mV) ?_
  simp only [go_sem,hP,gX]
  refine⟨by kernel_rfl,?_⟩
  refine aa kK (by exact hb) ?_
  simp only [go_sem,hP]
  refine aa kK (by exact hlt) ?_
  simp only [go_sem,hP]
  refine⟨⟨by omega,by omega,by omega⟩,by kernel_rfl,?_⟩
  refine bK hE [0,1] (fun i hi=>by have:=h0 i hi;simpa [liveK] using this) [0,1,2,3,8,9,10,11,12,13,14,15,16,17,18,25,45,52,60,63,76,93,129,141,157,162,174,189] 0 (fun i=>⟨191,[(13,.b false)],[(0,some ⟨rrT,[sv B,.i ((p+1:Nat):Int),.sl 2 0 (m+1) 3]⟩),(2,some ⟨fG,bX (T++[.u w])⟩)],3⟩) [] (sg 5 [0,1,4]) ⟨rfl,?_,?_,rfl,rfl,trivial,fun i h=>bH [0,1,4] 5 i h⟩ (fun i hi=>by simp at hi;rcases hi with rfl|rfl<;>rfl) ?_
  ·simp only [go_sem]
  ·simp only [go_sem,sN]
  intro i hi
  simp only [go_sem,hP]
  refine fc [0,3,2] rfl ?_ ?_ rfl rfl (fun i hi=>by simp at hi;rcases hi with rfl|rfl<;>simp [liveK,keys,sg]) (Ac _ _)
  ·simp only [go_sem]
  ·simp only [go_sem]
end Go.Proofs.YtebndjnkmcahaaaGreatDoor
end
end
section
namespace Go.Proofs.YtebndjnkmcahaaaGreatDoor
set_option linter.unusedSimpArgs false
set_option linter.unusedVariables false
open Go Go.Abs Go.RowKit
theorem Ad (T:List Itm) (x:Itm) (m:Nat) (h:T.length=m) (r:List Itm):(bX (T++x::r)).drop (m*3) = .i x.kd :: .w x.nu::sv x.da::bX r:=by
 have:=yy (T++x::r) m (by simp;omega)
 rw [this]
 subst h
 simp [List.getD_eq_getElem?_getD,List.drop_append,List.drop_eq_nil_of_le (Nat.le_succ T.length)]
theorem Ae (l:List Itm) (i:Nat) (h:i+1<l.length):l.take (i+2)=l.take i++[l.getD i (.b false),l.getD (i+1) (.b false)]:=by
 rw [show i+2=(i+1)+1 from rfl,lT l (i+1) h,lT l i (by omega),List.append_assoc]
 rfl
set_option maxHeartbeats 4000000 in
set_option maxRecDepth 100000 in
theorem CQ (l:List Itm) (hl:G19 l) (B:List UInt8) (L:Nat) (hB:B=bP l) (hL:B.length=L) :
 Con Tryz.prog 249 [.ptr 0 0,.i 0,.b false,sv []] [(0,some ⟨rrT,[sv B,.i 0,du]⟩)] (.i 0) [(0,some ⟨rrT,[sv B,.i L,.sl 1 0 19 3]⟩),(1,some ⟨fG,bX l⟩)]:=by
 refine ec 1 Tryz.func249 Tryz.ntmps249 Tryz.results249 [0,1,2,3,8,9,10,11,12,13,14,15,16,17,18,25,45,52,60,63,76,93,129,141,157,162,174,189] ?_;intro c hP h0 hE kK
 have hLb:L<1000000:=by
  have:=hl.bs 19 (by decide)
  rw [show l.take 19=l from List.take_of_length_le (by rw [hl.len];decide),←hB,hL] at this
  omega
 have hsp0:=fB l 0 (by rw [hl.len];decide)
 rw [hl.h0] at hsp0
 have hh:=Fi B (bP (l.drop 1)) L hL hLb (by rw [hB];simpa [bP,bD,hdB,loN,szN,bgB] using hsp0)
 have h9:(((9:UInt64).toNat:Nat):Int)=9:=rfl
 have e1:l.take 1=[.m 9]:=by have:=lT l 0 (by rw [hl.len];decide);rw [hl.h0] at this;exact this
 have p1:eT l 1=1:=by unfold eT;rw [e1];rfl
 simp only [go_sem,hP]
 refine x_k kK 1 (hh) ?_
 simp only [go_sem,hP,h9]
 refine⟨by kernel_rfl,by kernel_rfl,?_⟩
 refine bK hE [0] (fun i hi=>by have:=h0 i hi;simpa [liveK] using this) [0,1,2,3,8,9,10,11,12,13,14,15,16,17,18,25,45,52,60,63,76,93,129,141,157,162,174,189] 9 (fun i=>⟨191,[(0,.ptr 0 0),(1,.i 0),(9,.ptr 2 0),(11,.w 9),(13,.b true),(14,sv (laS i)),(15,.p (.v (.int .u64 i)))],[(0,some ⟨rrT,[sv B,.i (eT l (1+2*i)),.sl 1 0 (1+2*i) 3]⟩),(1,some ⟨fG,bX (l.take (1+2*i))⟩),(2,some ⟨fG,dg (.m 9)⟩)],3⟩) [] (sg 4 [0,3,1]) ?_ (fun i hi=>by simp at hi;subst hi;rfl) ?_
 ·refine⟨rfl,?_,?_,rfl,rfl,trivial,fun i h=>bH [0,3,1] 4 i h⟩
  ·simp only [go_sem,laS,h9]
  ·simp only [go_sem,Nat.mul_zero,Nat.add_zero,e1,p1]
   exact (show ai _ _ _ (bX [.m 9]) (bX [.m 9]) from ij _ _ _ _)
 intro i hi
 rcases Nat.lt_or_ge i 9 with hi9|hi9
 ·have hk:=hl.hk (i+1) (by omega) (by omega)
  have hv:=hl.hv (i+1) (by omega) (by omega)
  rw [show 2*(i+1)-1=1+2*i from by omega] at hk
  rw [show 2*(i+1)=1+2*i+1 from by omega] at hv
  have s1:=fB l (1+2*i) (by rw [hl.len];omega)
  have s2:=fB l (1+2*i+1) (by rw [hl.len];omega)
  rw [← hB] at s1 s2
  rw [hk] at s1
  have q1:eT l (1+2*i+1)=eT l (1+2*i)+1:=by
   unfold eT
   rw [eA l _ (by rw [hl.len];omega),List.length_append,hk,z6 ⟨i+1,by omega⟩]
   rfl
  have q2:eT l (1+2*(i+1))=eT l (1+2*i)+1+(bD (l.getD (1+2*i+1) (.b false))).length:=by
   rw [← q1]
   unfold eT
   rw [show 1+2*(i+1)=1+2*i+1+1 from by omega,eA l _ (by rw [hl.len];omega),List.length_append]
  have t2:=Ae l (1+2*i) (by rw [hl.len];omega)
  rw [hk,show 1+2*i+2=1+2*(i+1) from by omega] at t2
  have hTl:(l.take (1+2*i)).length=1+2*i:=by rw [List.length_take,hl.len];omega
  rw [show (bP (l.take (1+2*i+1))).length=eT l (1+2*i)+1 from q1] at s2
  have hO:=CP (i+1) (by omega) (by omega) B _ L (eT l (1+2*i)) hL hLb s1 (1+2*i) (l.take (1+2*i)) hTl (by omega)
  have hO2:=CO _ hv B _ L (eT l (1+2*i)+1) hL hLb s2 (1+2*i+1) (l.take (1+2*i)++[.u (UInt64.ofNat (i+1))]) (by rw [List.length_append,hTl];rfl) (by omega)
  have hb:=jF (.u (UInt64.ofNat (i+1))) (by simp [Itm.da])
  rw [show bD (.u (UInt64.ofNat (i+1)))=[UInt8.ofNat (i+1)] from z6 ⟨i+1,by omega⟩] at hb
  have e1:bfP (i+1)=laS i:=by
   unfold bfP laS
   by_cases h:i=0
   ·subst h;rfl
   ·rw [if_neg (by omega),if_neg h];rfl
  have e2:laS (i+1)=[UInt8.ofNat (i+1)]:=by unfold laS;rw [if_neg (by omega)]
  have hw:IntKind.u64.wrap ((i:Int)+1)=((i+1:Nat):Int):=by rw [ak (by omega) (by omega)];omega
  have hla:=Ad (l.take (1+2*i)) (.u (UInt64.ofNat (i+1))) _ hTl []
  rw [List.append_assoc] at hO2
  rw [e1] at hO
  rw [t2,q2,e2]
  generalize laS i=la at *
  generalize eT l (1+2*i)=p at *
  generalize l.take (1+2*i)=T at *
  generalize l.getD (1+2*i+1) (.b false)=x at *
  generalize UInt64.ofNat (i+1)=w at *
  generalize UInt8.ofNat (i+1)=w8 at *
  simp only [go_sem,hP,h9,show ((i:Int)<9) from by omega,show IntKind.i64.wrap (0+1)=1 from by decide]
  refine ck hE (ks:=[0,1,2,3,8,9,10,11,12,13,14,15,16,17,18,25,45,52,60,63,76,93,129,141,157,162,174,189]) (n:=2000) [] (sg 3 [0,1]) _ (by rw [hP];exact hO) ⟨by simp only [go_sem],by simp only [go_sem],rfl,trivial,Nat.le_add_right _ 3,fun i hi=>by simp [keys] at hi;rcases hi with rfl|rfl|rfl<;>simp [liveK,sg],by simp [ax,an,keys],by simp [bS,an,ax,keys],rfl⟩ ?_
  simp only [go_sem,hP,hla]
  refine⟨⟨by omega,by omega⟩,by omega,?_⟩
  refine aa kK (by exact hb) ?_
  simp only [go_sem,hP,show IntKind.i64.wrap (0+1)=1 from by decide]
  have hO:=hO2
  refine ck hE (ks:=[0,1,2,3,8,9,10,11,12,13,14,15,16,17,18,25,45,52,60,63,76,93,129,141,157,162,174,189]) (n:=2000) [] (sg 6 [0,5]) _ (by rw [hP];exact hO) ⟨by simp only [go_sem],by simp only [go_sem],rfl,trivial,Nat.le_add_right _ 3,fun i hi=>by simp [keys] at hi;rcases hi with rfl|rfl|rfl<;>simp [liveK,sg],by simp [ax,an,keys],by simp [bS,an,ax,keys],rfl⟩ ?_
  simp only [go_sem,hP,hw]
  refine⟨hi9,kq [0] [0,8,2] rfl ?_ ?_ rfl rfl (Nat.le_of_ble_eq_true rfl) (fun i hi=>by simp at hi;subst hi;rfl)⟩
  ·simp only [go_sem]
  ·simp only [go_sem,show 1+2*(i+1)=1+2*i+1+1 from by omega]
   done
 obtain rfl:i=9:=by omega
 have p19:eT l 19=L:=by unfold eT;rw [List.take_of_length_le (by rw [hl.len];decide),←hB,hL]
 rw [show 1+2*9=19 from rfl,p19,show l.take 19=l from List.take_of_length_le (by rw [hl.len];decide)]
 simp only [go_sem,hP,h9]
 refine aB [0,1] rfl ?_ ?_ rfl rfl (fun i hi=>by simp at hi;subst hi;exact⟨rfl,by simp [keys]⟩) (fun i hi=>by simp [liveK] at hi;simp;omega)
 ·simp only [go_sem]
 ·simp only [go_sem]
theorem vk (l:List Itm) (hl:G19 l) (B:List UInt8) (L:Nat) (hB:B=bP l) (hL:B.length=L):FPure Tryz.prog 223 [.p (.data 1 L (B.map bt))] (.tup [.p (.data 3 19 (aO l)),.i L,.i 0]):=by
 refine en Tryz.func223 Tryz.ntmps223 Tryz.results223 [0,2,3,4,5,6,14] ?_;intro c hP h0 hE kK
 have hO:=CQ l hl B L hB hL
 simp only [go_sem,hP,dI,Abs.strOf]
 refine⟨dc _,?_⟩
 refine ck hE (ks:=[0,2,3,4,5,6,14]) (n:=2000) [] (sg 1 [0]) _ (by rw [hP];exact hO) ⟨by simp only [go_sem],by simp only [go_sem],rfl,trivial,Nat.le_add_right _ 2,fun i hi=>by simp [keys] at hi;rcases hi with rfl|rfl<;>simp [liveK,sg],by simp [ax,an,keys],by simp [bS,an,ax,keys],rfl⟩ ?_
 simp only [go_sem,hP]
 rw [List.take_of_length_le (by rw [gm,hl.len];decide)]
 simp only [go_sem]
 exact⟨by kernel_rfl,by rw [hl.len];decide⟩
theorem yA (n:UInt64) (h:n.toNat<1048576):FPure Tryz.prog 224 [.w n] (.i n.toNat):=by
 refine en Tryz.func224 Tryz.ntmps224 Tryz.results224 [0,2] ?_;intro c hP h0 hE kK
 simp only [go_sem,hP,show ((n.toNat:Int)≤1048576) from by omega,show ((n.toNat:Int)<1048576) from by omega,show ¬((1048576:Int)<n.toNat) from by omega,ab (n:=(n.toNat:Int)) (by omega) (by omega)]
 done
theorem vm (n:Int) (h0:0≤n) (h:n<1000000):((ik n).toNat:Int)=n:=by
 rw [← ed n h0 h,ak h0 (by omega)]
set_option maxHeartbeats 2000000 in
theorem In (x:Cr) (h:CrOk x):FPure Tryz.prog 181 [.p (.data 1 (dh x).length ((dh x).map bt))] (.tup [.agg (crC x),.i (dh x).length,.b true]):=by
 refine en Tryz.func181 Tryz.ntmps181 Tryz.results181 [0,2,3,4,5,6,7,8,9,22] ?_;intro c hP h0 hE kK
 have hd:=vk (crL x) h.G (dh x) (dh x).length rfl rfl
 have hg1:=vm x.hg (by have:=h.hg;omega) (by have:=h.hg;omega)
 have hg2:=vm x.pt (by have:=h.pt;omega) (by have:=h.pt;omega)
 have hs1:=yA (ik x.hg) (by have:=h.hg;omega)
 have hs2:=yA (ik x.pt) (by have:=h.pt;omega)
 rw [hg1] at hs1
 rw [hg2] at hs2
 have he:=gp x h
 have hl:=vj x h
 have hG:=h.G.len
 have hpl:(aO (crL x)).length=57:=by rw [ii,hG]
 have d1:(aO (crL x)).drop 6=cH (.t x.rp)++aO ((crL x).drop 3):=bJ (crL x) 2 (by rw [hG];decide)
 have d2:(aO (crL x)).drop 12=cH (.d x.us)++aO ((crL x).drop 5):=bJ (crL x) 4 (by rw [hG];decide)
 have d3:(aO (crL x)).drop 18=cH (.t x.nm)++aO ((crL x).drop 7):=bJ (crL x) 6 (by rw [hG];decide)
 have d4:(aO (crL x)).drop 24=cH (.u x.sd)++aO ((crL x).drop 9):=bJ (crL x) 8 (by rw [hG];decide)
 have d5:(aO (crL x)).drop 30=cH (.u (ik x.hg))++aO ((crL x).drop 11):=bJ (crL x) 10 (by rw [hG];decide)
 have d6:(aO (crL x)).drop 36=cH (.b x.rs)++aO ((crL x).drop 13):=bJ (crL x) 12 (by rw [hG];decide)
 have d7:(aO (crL x)).drop 42=cH (.u (ik x.pt))++aO ((crL x).drop 15):=bJ (crL x) 14 (by rw [hG];decide)
 have d8:(aO (crL x)).drop 48=cH (.b x.sh)++aO ((crL x).drop 17):=bJ (crL x) 16 (by rw [hG];decide)
 have d9:(aO (crL x)).drop 54=cH (.b x.bk)++aO ((crL x).drop 19):=bJ (crL x) 18 (by rw [hG];decide)
 generalize aO (crL x)=C at *
 simp only [go_sem,hP]
 refine aa kK (by exact hd) ?_
 simp only [go_sem,hP,d1,d2,d3,d4,d5,d6,d7,d8,d9,cH,hpl]
 refine aa kK (by exact hs1) ?_
 simp only [go_sem,hP,d1,d2,d3,d4,d5,d6,d7,d8,d9,cH,hpl]
 refine aa kK (by exact hs2) ?_
 simp only [go_sem,hP,d1,d2,d3,d4,d5,d6,d7,d8,d9,cH,hpl,JT]
 refine⟨by kernel_rfl,?_⟩
 refine aa kK (by exact he) ?_
 generalize hE':dh x=E at *
 simp only [go_sem,hP,dI,Abs.strOf]
 rw [List.take_of_length_le (Nat.le_refl E.length)]
 exact⟨dc _,⟨by omega,by omega⟩,dc _,by kernel_rfl,rfl⟩
theorem Fj (x:Cr) (h:CrOk x):FPure Tryz.prog 127 [.p (.data 1 (dh x).length ((dh x).map bt))] (.tup [.agg (crC x),.i 0]):=by
 refine en Tryz.func127 Tryz.ntmps127 Tryz.results127 [0,2,3,4,5,6,20] ?_;intro c hP h0 hE kK
 have hr:=In x h
 generalize dh x=E at *
 simp only [go_sem,hP]
 refine aa kK (by exact hr) ?_
 simp only [go_sem,hP]
 done
end Go.Proofs.YtebndjnkmcahaaaGreatDoor
end

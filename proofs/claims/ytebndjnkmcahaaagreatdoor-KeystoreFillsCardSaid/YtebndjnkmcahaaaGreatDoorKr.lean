/- joined of several texts; own work; no statement of the seat is proved but in the last -/
import Derived.Test.YtebndjnkmcahaaaGreatDoorUv
import Derived.Lib.MakeNoZero
section
namespace Go.Proofs.YtebndjnkmcahaaaGreatDoor
set_option linter.unusedSimpArgs false
set_option linter.unusedVariables false
open Go Go.Abs Go.RowKit
structure Ls where
 tag:UInt64
 fr:Int
 tto:Int
 nx:Int
deriving DecidableEq
def lsC (x:Ls):List AV:=[.w x.tag,.i x.fr,.i x.tto,.i x.nx]
attribute [go_sem] lsC
def lsP (x:Ls):List PV:=[wd x.tag,.v (.int .i64 x.fr),.v (.int .i64 x.tto),.v (.int .i64 x.nx)]
def ls0:Ls:=⟨0,0,0,0⟩
def eW (x:Ls):Bool:=decide (0≤x.fr∧x.fr≤x.nx∧x.nx≤x.tto∧x.tto≤16)
theorem po (x:Ls):FPure Tryz.prog 89 [.agg [.w x.tag,.i x.fr,.i x.tto,.i x.nx]] (.b (eW x)):=by
 refine en Tryz.func89 Tryz.ntmps89 Tryz.results89 [0,1,2] ?_;intro c hP h0 hE kK
 unfold eW at *
 by_cases h1:0≤x.fr
 ·by_cases h2:x.fr≤x.nx
  ·by_cases h3:x.nx≤x.tto
   ·by_cases h4:x.tto≤16
    ·simp only [go_sem,hP,h1,h2,h3,h4,decide_true]
    ·simp only [go_sem,hP,h1,h2,h3,h4,decide_true,decide_false]
   ·simp only [go_sem,hP,h1,h2,h3,decide_true,decide_false]
  ·simp only [go_sem,hP,h1,h2,decide_true,decide_false]
 ·simp only [go_sem,hP,h1,decide_true,decide_false]
theorem mM (x:Ls):FPure Tryz.prog 62 [.agg [.w x.tag,.i x.fr,.i x.tto,.i x.nx]] (.b (eW x)):=by
 refine en Tryz.func62 Tryz.ntmps62 Tryz.results62 [0,1,2] ?_;intro c hP h0 hE kK
 unfold eW at *
 by_cases h1:0≤x.fr
 ·by_cases h2:x.fr≤x.nx
  ·by_cases h3:x.nx≤x.tto
   ·by_cases h4:x.tto≤16
    ·simp only [go_sem,hP,h1,h2,h3,h4,decide_true]
    ·simp only [go_sem,hP,h1,h2,h3,h4,decide_true,decide_false]
   ·simp only [go_sem,hP,h1,h2,h3,decide_true,decide_false]
  ·simp only [go_sem,hP,h1,h2,decide_true,decide_false]
 ·simp only [go_sem,hP,h1,decide_true,decide_false]
def cf (x:Ls):List UInt8:=if eW x then cr x.tag 8++[u8i x.fr,u8i x.tto,u8i x.nx] else []
theorem cb3 (a b d:Int):[AV.p (.v (.int .u8 (IntKind.u8.wrap a))),AV.p (.v (.int .u8 (IntKind.u8.wrap b))),AV.p (.v (.int .u8 (IntKind.u8.wrap d)))]=cb [u8i a,u8i b,u8i d]:=by
 simp only [cb,bt,u8i,u8w,List.map_cons,List.map_nil]
theorem wR (x:Ls):FPure Tryz.prog 35 [.agg [.w x.tag,.i x.fr,.i x.tto,.i x.nx]] (.p (.data 1 (cf x).length ((cf x).map bt))):=by
 refine en Tryz.func35 Tryz.ntmps35 Tryz.results35 [0,1,2,5] ?_;intro c hP h0 hE kK
 obtain⟨R,hR⟩:∃R,cf x=R:=⟨_,rfl⟩;rw [hR] at hE kK;(try rw [hR])
 unfold cf at hR
 simp only [go_sem,hP]
 refine aa kK (by exact po x) ?_
 simp only [go_sem,hP]
 cases hv:eW x with
 | false =>
  rw [hv] at hR
  subst hR
  simp only [go_sem,hP]
 | true =>
  rw [hv] at hR
  subst hR
  simp only [go_sem,hP]
  first|refine jZ hE (ks:=[0,1,2,5]) (n:=2000) 1 (by simp only [go_sem];rfl) (by simp only [go_sem]) rfl (by rw [hP];exact yP [x.tag] 1 rfl (by decide) (by decide)) rfl rfl (by simp [ax,an,keys]) (by simp only [bS,an,a8,cc,cz,and_self]) ?_|refine j0 hE (ks:=[0,1,2,5]) (n:=2000) 1 (by simp only [go_sem];rfl) (by simp only [go_sem]) rfl (by rw [hP];exact yP [x.tag] 1 rfl (by decide) (by decide)) rfl rfl (by simp [ax,an,keys]) (by simp only [bS,an,a8,cc,cz,and_self]) rfl ?_
  simp only [go_sem,hP]
  rw [cb3,jN,dA,List.take_of_length_le (by simp [au])]
  refine⟨au _ _,by kernel_rfl,⟨by simp [au],mi _⟩,by simp [au],mj _⟩
theorem sS (x:Ls):FPure Tryz.prog 67 [.agg [.w x.tag,.i x.fr,.i x.tto,.i x.nx]] (.p (.data 1 (cf x).length ((cf x).map bt))):=by
 refine en Tryz.func67 Tryz.ntmps67 Tryz.results67 [0,1,2,5] ?_;intro c hP h0 hE kK
 obtain⟨R,hR⟩:∃R,cf x=R:=⟨_,rfl⟩;rw [hR] at hE kK;(try rw [hR])
 unfold cf at hR
 simp only [go_sem,hP]
 refine aa kK (by exact mM x) ?_
 simp only [go_sem,hP]
 cases hv:eW x with
 | false =>
  rw [hv] at hR
  subst hR
  simp only [go_sem,hP]
 | true =>
  rw [hv] at hR
  subst hR
  simp only [go_sem,hP]
  first|refine jZ hE (ks:=[0,1,2,5]) (n:=2000) 1 (by simp only [go_sem];rfl) (by simp only [go_sem]) rfl (by rw [hP];exact ip [x.tag] 1 rfl (by decide) (by decide)) rfl rfl (by simp [ax,an,keys]) (by simp only [bS,an,a8,cc,cz,and_self]) ?_|refine j0 hE (ks:=[0,1,2,5]) (n:=2000) 1 (by simp only [go_sem];rfl) (by simp only [go_sem]) rfl (by rw [hP];exact ip [x.tag] 1 rfl (by decide) (by decide)) rfl rfl (by simp [ax,an,keys]) (by simp only [bS,an,a8,cc,cz,and_self]) rfl ?_
  simp only [go_sem,hP]
  rw [cb3,jN,dA,List.take_of_length_le (by simp [au])]
  refine⟨au _ _,by kernel_rfl,⟨by simp [au],mi _⟩,by simp [au],mj _⟩
structure LR where
 x:Ls
 e:Int
def zJ (b:List UInt8):Ls:=⟨av b 8,((b.getD 8 0).toNat:Int),((b.getD 9 0).toNat:Int),((b.getD 10 0).toNat:Int)⟩
def ic (b:List UInt8):LR:=if b.length=11∧eW (zJ b)=true then ⟨zJ b,0⟩ else ⟨ls0,2⟩
def HE (r:LR):AV := .tup [.agg [.w r.x.tag,.i r.x.fr,.i r.x.tto,.i r.x.nx],.i r.e]
attribute [go_sem] HE
theorem jB (x:UInt8):IntKind.i64.wrap (x.toNat:Int)=(x.toNat:Int):=by
 have:=x.toNat_lt
 rw [ab (by omega) (by omega)]
set_option maxHeartbeats 1000000 in
theorem HF (b:List UInt8) (n:Nat) (hn:b.length=n) (hb:n<1000000000):FPure Tryz.prog 86 [.p (.data 1 n (b.map bt))] (HE (ic b)):=by
 refine en Tryz.func86 Tryz.ntmps86 Tryz.results86 [0,2,3,4,6,9,25,26,27,28,41] ?_;intro c hP h0 hE kK
 obtain⟨R,hR⟩:∃R,ic b=R:=⟨_,rfl⟩;rw [hR] at hE kK;(try rw [hR])
 unfold ic at hR
 rw [hn] at hR
 by_cases h11:n=11
 ·subst h11
  simp only [go_sem,hP,jB]
  refine⟨by omega,by omega,by omega,by kernel_rfl,?_⟩
  have hx:zJ b=⟨av (b.take 8) 8,((b.getD 8 0).toNat:Int),((b.getD 9 0).toNat:Int),((b.getD 10 0).toNat:Int)⟩:=by rw [eC _ _ _ (Nat.le_refl _)];rfl
  have hlen:(b.take 8).length=8:=by simp [hn]
  refine ay hE h0 [0,2,3,4,6,9,25,26,27,28,41] 8 (fun i=>⟨44,[(2,.ptr 0 0),(4,.ptr 1 0),(25,.p (.data 1 8 ((b.take 8).map bt))),(26,.i 8),(27,.i i)],[(1,some ⟨86,[.w (av (b.take 8) i),.i (b.getD 8 0).toNat,.i (b.getD 9 0).toNat,.i (b.getD 10 0).toNat]⟩),(0,some ⟨86,[.w 0,.i 0,.i 0,.i 0]⟩)],2⟩) [] (fun i=>i) ?_ ?_
  ·refine⟨rfl,?_,?_,rfl,rfl,trivial,fun i h=>h⟩
   ·simp only [go_sem]
   ·simp only [go_sem,av]
    rfl
  ·intro i hi
   generalize hm:av (b.take 8) i=m
   rcases Nat.lt_or_ge i 8 with hin|hin
   ·have hw:IntKind.i64.wrap ((i:Int)+1)=((i+1:Nat):Int):=by rw [ab (by omega) (by omega)];omega
    simp only [go_sem,hP,cY,i4 m 8 (by decide),iv,dU,lq,iw,show ((i:Int)<8) from by omega]
    refine⟨by omega,by omega,hin,dp rfl ?_ ?_ rfl rfl (Nat.le_refl _)⟩
    ·simp only [go_sem,hw]
    ·simp only [go_sem,av,hm]
   ·obtain rfl:i=8:=by omega
    subst hm
    rw [hx] at hR
    generalize av (b.take 8) 8=m at *
    simp only [go_sem,hP,show ¬((8:Int)<8) from by omega]
    refine aa kK (by exact po ⟨m,((b.getD 8 0).toNat:Int),((b.getD 9 0).toNat:Int),((b.getD 10 0).toNat:Int)⟩) ?_
    cases hv:eW ⟨m,((b.getD 8 0).toNat:Int),((b.getD 9 0).toNat:Int),((b.getD 10 0).toNat:Int)⟩ with
    | false =>
     rw [hv,if_neg (by simp)] at hR
     subst hR
     simp only [go_sem,hP]
     exact⟨rfl,rfl,rfl,rfl⟩
    | true =>
     rw [hv,if_pos ⟨rfl,rfl⟩] at hR
     subst hR
     simp only [go_sem,hP]
 ·rw [if_neg (fun h=>h11 h.1)] at hR
  subst hR
  simp only [go_sem,hP,show ¬((n:Int)=11) from by omega]
  exact⟨rfl,rfl,rfl,rfl⟩
theorem EG (b:List UInt8) (n:Nat) (hn:b.length=n) (hb:n<1000000000):FPure Tryz.prog 128 [.p (.data 1 n (b.map bt))] (HE (ic b)):=by
 refine en Tryz.func128 Tryz.ntmps128 Tryz.results128 [0,2,3,4,7,27] ?_;intro c hP h0 hE kK
 obtain⟨R,hR⟩:∃R,ic b=R:=⟨_,rfl⟩;rw [hR] at hE kK;(try rw [hR])
 unfold ic at hR
 rw [hn] at hR
 by_cases h11:n=11
 ·subst h11
  have hx:zJ b=⟨av (b.take 8) 8,((b.getD 8 0).toNat:Int),((b.getD 9 0).toNat:Int),((b.getD 10 0).toNat:Int)⟩:=by rw [eC _ _ _ (Nat.le_refl _)];rfl
  simp only [go_sem,hP]
  refine aa kK (by exact yl (b.take 8) 8 (by simp [hn]) (by decide) (by decide)) ?_
  simp only [go_sem,hP,jB]
  rw [hx] at hR
  generalize av (b.take 8) 8=m at *
  refine⟨by omega,by omega,by omega,by kernel_rfl,?_⟩
  refine aa kK (by exact mM ⟨m,((b.getD 8 0).toNat:Int),((b.getD 9 0).toNat:Int),((b.getD 10 0).toNat:Int)⟩) ?_
  cases hv:eW ⟨m,((b.getD 8 0).toNat:Int),((b.getD 9 0).toNat:Int),((b.getD 10 0).toNat:Int)⟩ with
  | false =>
   rw [hv,if_neg (by simp)] at hR
   subst hR
   simp only [go_sem,hP]
   exact⟨rfl,rfl,rfl,rfl⟩
  | true =>
   rw [hv,if_pos ⟨rfl,rfl⟩] at hR
   subst hR
   simp only [go_sem,hP]
 ·rw [if_neg (fun h=>h11 h.1)] at hR
  subst hR
  simp only [go_sem,hP,show ¬((n:Int)=11) from by omega]
  exact⟨rfl,rfl,rfl,rfl⟩
end Go.Proofs.YtebndjnkmcahaaaGreatDoor
end
section
namespace Go.Abs
set_option linter.unusedSimpArgs false
set_option linter.unusedVariables false
open Go Go.RowKit
theorem rm:∀(n t:Nat) (acc:Array Value),(∀j,j<acc.size→(acc.getD j undef).oneCell'=true)→∀j,j<(Extern.BytealgMakeNoZero.digits n t acc).size→((Extern.BytealgMakeNoZero.digits n t acc).getD j undef).oneCell'=true
 | 0,_,acc,h,j,hj=>h j hj
 | n+1,t,acc,h,j,hj=>by
  refine rm n (t/256) _ (fun i hi=>?_) j hj
  simp only [Array.size_push] at hi
  rcases Nat.lt_or_ge i acc.size with h1|h1
  ·have:=h i h1
   rw [Array.getD_eq_getD_getElem?,Array.getElem?_push,if_neg (by omega)]
   rwa [Array.getD_eq_getD_getElem?] at this
  ·obtain rfl:i=acc.size:=by omega
   rw [Array.getD_eq_getD_getElem?,Array.getElem?_push_size]
   rfl
theorem EH {P:Program} (w:World) (ps:Array TypeId) (t e:TypeId) (ht:P.underlying t=some (.slice e)) (n:Nat) (hn:n≤281474976710656) :
 ∃cs:Array Value,(Extern.BytealgMakeNoZero.makeNoZero ps #[t] #[.int .i64 n]).run P w = .ok (.slice (some ⟨w.heap.size,0,none⟩) n cs.size) (w.drew.drew.alloc (.cells cs e))∧n≤cs.size∧∀j,j<cs.size→(cs.getD j undef).oneCell'=true:=by
 have hdef:Extern.BytealgMakeNoZero.makeNoZero ps #[t] #[.int .i64 n] =
  (do
   let .slice elem←underlying t|stuck "bytealg.MakeNoZero: slice type expected"
   if (n:Int)<0||(n:Int)>2^48 then runtimePanic (.error "makeslice: len out of range")
   let cap←choose (.appendCap (n:Int).toNat 0 elem)
   askRoom cap
   let bytes←choose (.extern "internal/bytealg.MakeNoZero.bytes" 0)
   let a←newRow elem (Extern.BytealgMakeNoZero.digits cap bytes #[])
   pure (.slice (some a) (n:Int).toNat cap)):=rfl
 refine⟨Extern.BytealgMakeNoZero.digits (grownCap w n 0 e) ((Question.extern "internal/bytealg.MakeNoZero.bytes" 0).cut (w.tape (w.drawn+1) (.extern "internal/bytealg.MakeNoZero.bytes" 0))) #[],?_,?_,?_⟩
 ·rw [hdef]
  have h1:¬(n:Int)<0:=by omega
  have h2:¬(281474976710656:Int)<(n:Int):=by omega
  simp [run_underlying ht,h1,h2,Question.forced,newRow,Lib.size_digits,grownCap]
 ·rw [Lib.size_digits]
  simpa using grownCap_ge w n 0 e
 ·exact fun j hj=>rm _ _ _ (fun i hi=>by simp at hi) j hj
theorem EI {P:Program} {f:FuncId} {fn:Func} {ps:Array TypeId} {t e:TypeId} (hf:P.funcs[f]?=some fn) (hname:(fn.name=="runtime.NumGoroutine")=false) (hb:fn.body.isNone=true) (hn:Extern.findNext fn=none)
 (he:Extern.find fn=some (Extern.BytealgMakeNoZero.makeNoZero ps #[t])) (ht:P.underlying t=some (.slice e)) (n:Nat) (hn48:n≤281474976710656):Con P f [.p (.v (.int .i64 n))] [] (.sl 0 0 n 1) [(0,some ⟨e,List.replicate n .any⟩)] where
 call:={
  tri:=by
   intro ρ F us w hpre hz hr
   have hu:=hr 0 _ rfl
   obtain⟨u,rfl⟩:∃u,us=#[u]:=by
    have hz:us.size=1:=hz
    obtain⟨l⟩:=us
    match l,hz with
    | [u],_=>exact⟨u,rfl⟩
   have hu:Rd ρ F w (.p (.v (.int .i64 n))) u:=hu
   have hu:=hu.pv
   subst hu
   obtain⟨cs,hrun,hle,hone⟩:=EH (P:=P) w ps t e ht n hn48
   refine .inr ⟨_,_,by rw [run_callFunc_extern hf hname hb hn he,hrun];rfl,c5 ρ 0 w.heap.size,F,?_⟩
   have hid:ρ 0=none:=hpre.fresh 0 (by simp [keys]) (by simp [liveK])
   refine Post.newBlk (w1:=w.drew.drew) hpre.fok hid (by simpa using hle) (fun j c hj=>?_) rfl rfl rfl rfl ?_
   ·rw [List.getElem?_replicate] at hj
    split at hj
    ·cases hj
     exact⟨hone j (by omega),.any _⟩
    ·cases hj
   ·exact .sl _ _ _ _ w.heap.size _ (by simp [c5]) hle ⟨_,_,_,heap_alloc_new w.drew.drew _,by simp⟩ }
 ids:=by simp [an,ax]
 idh:=trivial
 sub:=fun i hi=>by cases hi
end Go.Abs
namespace Go.Proofs.YtebndjnkmcahaaaGreatDoor
set_option linter.unusedSimpArgs false
set_option linter.unusedVariables false
open Go Go.Abs Go.RowKit
theorem F4 (n:Nat) (hn:n≤281474976710656):Con Tryz.prog 132 [.i n] [] (.sl 0 0 n 1) [(0,some ⟨a7,List.replicate n .any⟩)] :=
 EI Tryz.func132 (by kernel_rfl) (by kernel_rfl) (by kernel_rfl) (ps:=#[3]) (t:=27) (by kernel_rfl) Tryz.underlying27 n hn
theorem EJ (n:Nat) (hn:n<1000000):FPure Tryz.prog 185 [.p (.v (.int .u64 1)),.p (.v (.int .u64 n))] (.tup [.p (.v (.int .u64 0)),.p (.v (.int .u64 n))]):=by
 refine en Tryz.func185 Tryz.ntmps185 Tryz.results185 [0,1,4,5,6,7,8,9,10,11,12,13] ?_;intro c hP h0 hE kK
 simp only [go_sem,hP]
 have s1:bc .u64 1 32=0:=by decide
 have s2:bc .u64 (n:Int) 32=0:=by
  show Int.fdiv (n:Int) (2^32)=_
  rw [Int.fdiv_eq_ediv_of_nonneg _ (by decide)]
  omega
 have s0:bc .u64 0 32=0:=by decide
 have b1:cu .u64 1 4294967295=1:=by decide
 have b0:cu .u64 0 4294967295=0:=by decide
 have b2:cu .u64 (n:Int) 4294967295=(n:Int):=by
  have:=mh n 4294967295 (by omega) (by omega)
  rw [show ((4294967295:Nat):Int)=4294967295 from rfl] at this
  rw [this,show (4294967295:Nat)=2^32-1 from rfl,Nat.and_two_pow_sub_one_eq_mod,Nat.mod_eq_of_lt (by omega)]
 have w0:IntKind.u64.wrap 0=0:=by decide
 have wn:IntKind.u64.wrap (n:Int)=n:=ak (by omega) (by omega)
 simp only [s1,s2,b1,b2,Int.zero_mul,Int.mul_zero,Int.one_mul,w0,wn,s0,b0,Int.add_zero]
 first|done|exact⟨rfl,rfl⟩|exact⟨rfl,trivial⟩|trivial
theorem JB (n:Nat) (hn:n<1000000):FPure Tryz.prog 131 [.p (.v (.int .u64 1)),.p (.v (.int .u64 n))] (.tup [.p (.v (.int .u64 0)),.p (.v (.int .u64 n))]):=by
 refine en Tryz.func131 Tryz.ntmps131 Tryz.results131 [0,1,4,5,6,7,8,9] ?_;intro c hP h0 hE kK
 simp only [go_sem,hP]
 refine aa kK (by exact EJ n hn) ?_
 simp only [go_sem,hP]
@[simp] theorem B4 (T:List Nat):∀n:Nat,an T (List.replicate n AV.any)
 | 0=>trivial
 | n+1=>⟨trivial,B4 T n⟩
theorem pq (τ:Nat→Nat):∀n:Nat,eG τ (List.replicate n AV.any)=List.replicate n .any
 | 0=>rfl
 | n+1=>by rw [List.replicate_succ,eG,pq τ n];rfl
theorem pw (h:ba) (S:List Nat) (σ:Nat→Nat):∀n:Nat,ai h S σ (List.replicate n AV.any) (List.replicate n AV.any)
 | 0=>by simp [ai]
 | n+1=>by rw [List.replicate_succ];simp only [ai,aH,true_and];exact pw h S σ n
def jb (n i:Nat):List AV:=cb (List.replicate i 255)++List.replicate (n-i) .any
theorem uR {n i:Nat} (h:i≤n):(jb n i).length=n:=by simp [jb];omega
theorem nt (h:ba) (S:List Nat) (σ:Nat→Nat):∀(a b:List AV),ai h S σ a a→ai h S σ b b→ai h S σ (a++b) (a++b)
 | [],b,_,hb=>hb
 | x::a,b,ha,hb=>by
  simp only [List.cons_append,ai] at ha ⊢
  exact⟨ha.1,nt h S σ a b ha.2 hb⟩
theorem j4 (h:ba) (S:List Nat) (σ:Nat→Nat) (n i:Nat):ai h S σ (jb n i) (jb n i):=nt _ _ _ _ _ (aj _ _ _ _) (pw _ _ _ _)
theorem px:∀(xs ys zs:List AV),xs.length≤zs.length→cA (ys++zs) ys.length xs=ys++(xs++zs.drop xs.length):=by
 intro xs
 induction xs with
 | nil=>intro ys zs _;simp [cA]
 | cons x xs ih =>
  intro ys zs h
  cases zs with
  | nil=>simp at h
  | cons z zs =>
   rw [cA]
   have e:(ys++z::zs).set ys.length x=(ys++[x])++zs:=by simp
   rw [e,show ys.length+1=(ys++[x]).length by simp,ih (ys++[x]) zs (by simpa using h)]
   simp
theorem rn {n i c:Nat} (h:i≤n) (hc:c≤i):cA (jb n i) i (((jb n i).take c).take (min c (n-i)))=jb n (i+min c (n-i)):=by
 have hm:min c (n-i)≤i:=by omega
 have e1:((jb n i).take c).take (min c (n-i))=cb (List.replicate (min c (n-i)) 255):=by
  rw [List.take_take,Nat.min_eq_left (Nat.min_le_left _ _)]
  unfold jb
  rw [List.take_append_of_le_length (by simpa using hm),tP]
  congr 1
  rw [List.take_replicate,Nat.min_eq_left hm]
 rw [e1]
 generalize hq:min c (n-i)=m at *
 have hmn:m≤n-i:=by omega
 have:=px (cb (List.replicate m 255)) (cb (List.replicate i 255)) (List.replicate (n-i) .any) (by simpa using hmn)
 simp only [DL,List.length_replicate] at this
 unfold jb
 rw [this,List.drop_replicate,←List.append_assoc,dA,List.replicate_append_replicate]
 congr 2
 omega
theorem B5 (n:Nat) (h:1≤n):(List.replicate n AV.any).set 0 (AV.p (.v (.int .u8 ((UInt8.toNat 255:Nat):Int))))=jb n 1:=by
 cases n with
 | zero=>omega
 | succ n=>simp [cA,List.replicate_succ,jb,cb,bt]
set_option maxHeartbeats 1000000 in
theorem uS (n:Nat) (hn:n<1000000) (h1:1≤n):FPure Tryz.prog 74 [.p (.data 1 1 [bt 255]),.i n] (.p (.data 1 n ((List.replicate n 255).map bt))):=by
 refine en Tryz.func74 Tryz.ntmps74 Tryz.results74 [0,1,4,5,6,7,8,9,10,11,13,16,32,38,42,50,63] ?_;intro c hP h0 hE kK
 have wn:IntKind.u64.wrap (n:Int)=n:=ak (by omega) (by omega)
 have wi:IntKind.i64.wrap (n:Int)=n:=ab (by omega) (by omega)
 have w1:IntKind.u64.wrap 1=1:=by decide
 have w8:IntKind.i64.wrap (IntKind.i64.wrap (Int.tdiv 8192 1)*1)=8192:=by decide
 have m1:min 1 n=1:=by omega
 simp only [go_sem,hP,show ¬((n:Int)=0) from by omega,show ¬((n:Int)<0) from by omega,wn,w1]
 refine aa kK (by exact JB n hn) ?_
 simp only [go_sem,hP,wi,w8,show ¬((n:Int)>9223372036854775807) from by omega]
 by_cases h:(n:Int)>8192
 ·simp only [go_sem,hP,h,show ¬((0:Int)>0) from by omega]
  refine o4 hE (ks:=[0,1,4,5,6,7,8,9,10,11,13,16,32,38,42,50,63]) (n:=2000) 1 (by rw [hP];exact F4 n (by omega)) rfl rfl (by simp [ax,an,keys]) (by simp [bS,an,ax]) ?_
  simp only [go_sem,hP,m1,pq,B5 n h1]
  refine⟨⟨by omega,by omega⟩,h1,?_⟩
  refine bo hE h0 [0,1,4,5,6,7,8,9,10,11,13,16,32,38,42,50,63] (α:={ i:Nat // 1≤i∧i≤n }) (fun i=>⟨77,[(7,.i n),(8,.i 8192),(9,.sl 0 0 n 1),(10,.i i.1)],[(0,some ⟨a7,jb n i.1⟩)],1⟩) (fun i=>n-i.1) ⟨1,by omega,by omega⟩ [] (fun i=>i) ?_ ?_
  ·refine⟨rfl,?_,?_,rfl,rfl,trivial,fun i h=>h⟩
   ·simp only [go_sem]
   ·simp only [go_sem]
    exact j4 _ _ _ _ _
  ·rintro⟨i,hi1,hin⟩
   rcases Nat.lt_or_ge i n with hlt|hge
   ·have hc:((i:Int)<(n:Int)):=by omega
    have hmin:(if (8192:Int)<(i:Int) then (8192:Int) else (i:Int))=((min i 8192:Nat):Int):=by
     split<;>omega
    have hw:IntKind.i64.wrap ((i:Int)+((min (min i 8192) (n-i):Nat):Int))=((i+min (min i 8192) (n-i):Nat):Int):=by rw [ab (by omega) (by omega)];omega
    simp only [go_sem,hP,hc,hmin,hw,uR hin,rn hin (Nat.min_le_left i 8192)]
    refine⟨⟨by omega,by omega,by omega⟩,⟨by omega,by omega⟩,⟨by omega,by omega⟩,by kernel_rfl,⟨i+min (min i 8192) (n-i),by omega,by omega⟩,by simp only;omega,aZ [0] rfl ?_ ?_ rfl rfl (Nat.le_refl _)⟩
    ·simp only [go_sem]
    ·simp only [go_sem]
     exact j4 _ _ _ _ _
   ·obtain rfl:i=n:=by omega
    have hc:¬((i:Int)<(i:Int)):=by omega
    simp only [go_sem,hP,hc]
    have hr:jb i i=cb (List.replicate i 255):=by simp [jb]
    rw [hr,List.take_of_length_le (by simp)]
    exact⟨⟨by simp,mi _⟩,mj _⟩
 ·simp only [go_sem,hP,h,show ¬((0:Int)>0) from by omega]
  refine o4 hE (ks:=[0,1,4,5,6,7,8,9,10,11,13,16,32,38,42,50,63]) (n:=2000) 1 (by rw [hP];exact F4 n (by omega)) rfl rfl (by simp [ax,an,keys]) (by simp [bS,an,ax]) ?_
  simp only [go_sem,hP,m1,pq,B5 n h1]
  refine⟨⟨by omega,by omega⟩,h1,?_⟩
  refine bo hE h0 [0,1,4,5,6,7,8,9,10,11,13,16,32,38,42,50,63] (α:={ i:Nat // 1≤i∧i≤n }) (fun i=>⟨77,[(7,.i n),(8,.i n),(9,.sl 0 0 n 1),(10,.i i.1)],[(0,some ⟨a7,jb n i.1⟩)],1⟩) (fun i=>n-i.1) ⟨1,by omega,by omega⟩ [] (fun i=>i) ?_ ?_
  ·refine⟨rfl,?_,?_,rfl,rfl,trivial,fun i h=>h⟩
   ·simp only [go_sem]
   ·simp only [go_sem]
    exact j4 _ _ _ _ _
  ·rintro⟨i,hi1,hin⟩
   rcases Nat.lt_or_ge i n with hlt|hge
   ·have hc:((i:Int)<(n:Int)):=by omega
    have hmin:(if (n:Int)<(i:Int) then (n:Int) else (i:Int))=((min i n:Nat):Int):=by
     split<;>omega
    have hw:IntKind.i64.wrap ((i:Int)+((min (min i n) (n-i):Nat):Int))=((i+min (min i n) (n-i):Nat):Int):=by rw [ab (by omega) (by omega)];omega
    simp only [go_sem,hP,hc,hmin,hw,uR hin,rn hin (Nat.min_le_left i n)]
    refine⟨⟨by omega,by omega,by omega⟩,⟨by omega,by omega⟩,⟨by omega,by omega⟩,by kernel_rfl,⟨i+min (min i n) (n-i),by omega,by omega⟩,by simp only;omega,aZ [0] rfl ?_ ?_ rfl rfl (Nat.le_refl _)⟩
    ·simp only [go_sem]
    ·simp only [go_sem]
     exact j4 _ _ _ _ _
   ·obtain rfl:i=n:=by omega
    have hc:¬((i:Int)<(i:Int)):=by omega
    simp only [go_sem,hP,hc]
    have hr:jb i i=cb (List.replicate i 255):=by simp [jb]
    rw [hr,List.take_of_length_le (by simp)]
    exact⟨⟨by simp,mi _⟩,mj _⟩
theorem uT (ps:Int):FPure Tryz.prog 25 [.i ps,.i 2] (.tup [Ep (bV ps 2),.i (jM ps 2)]):=by
 refine en Tryz.func25 Tryz.ntmps25 Tryz.results25 [0,1,4,5,16] ?_;intro c hP h0 hE kK
 obtain⟨F,hF⟩:∃F,bV ps 2=F:=⟨_,rfl⟩
 obtain⟨e,he⟩:∃e,jM ps 2=e:=⟨_,rfl⟩
 rw [hF,he] at hE kK ⊢
 unfold bV at hF
 unfold jM at he
 simp only [go_sem,hP]
 refine aa kK (by exact uF ps) ?_
 by_cases h:512≤ps∧ps≤8192
 ·rw [if_neg (by omega)] at hF he
  subst hF he
  obtain⟨p,rfl⟩:=Int.eq_ofNat_of_zero_le (show 0≤ps by omega)
  have hw:IntKind.i64.wrap ((p:Int)*2)=((p*2:Nat):Int):=by rw [ab (by omega) (by omega)];omega
  have e2:((p:Int)*2).toNat=p*2:=by omega
  rw [e2] at hE kK
  simp only [go_sem,hP,h,decide_true,hw,show ¬((2:Int)>8) from by omega]
  first|refine dO hE (ks:=[0,1,4,5,16]) (n:=2000) ?_ ?_ rfl (by rw [hP];exact uS (p*2) (by omega) (by omega)) (by simp only [go_sem,ax,an,and_self]) ?_|refine dP hE (ks:=[0,1,4,5,16]) (n:=2000) ?_ ?_ rfl (by rw [hP];exact uS (p*2) (by omega) (by omega)) (by simp only [go_sem,ax,an,and_self]) ?_
  ·simp only [go_sem]
   rfl
  ·simp only [go_sem]
  simp only [go_sem,hP]
 ·rw [if_pos (by omega)] at hF he
  subst hF he
  simp only [go_sem,hP,h,decide_false]
end Go.Proofs.YtebndjnkmcahaaaGreatDoor
end

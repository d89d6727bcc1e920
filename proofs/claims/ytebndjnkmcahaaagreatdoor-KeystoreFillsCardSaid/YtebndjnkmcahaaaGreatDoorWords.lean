/- Plain facts: machine words of 64 and 8 bits as the model's integers. Own work; no statement of the seat is proved here. -/
import Derived.Test.YtebndjnkmcahaaaGreatDoorAbsT
namespace Go.Abs
set_option linter.unusedSimpArgs false
set_option linter.unusedVariables false
open Go Go.RowKit
abbrev wd (x:UInt64):PV := .v (.int .u64 (x.toNat:Int))
abbrev AV.w (x:UInt64):AV := .p (wd x)
abbrev AV.y (x:UInt8):AV := .p (.v (.int .u8 (x.toNat:Int)))
theorem eS (n:Int):IntKind.u64.wrap n=n % 18446744073709551616:=by
 simp [IntKind.wrap,IntKind.bits,IntKind.signed]
theorem bW (n:Int):IntKind.u8.wrap n=n % 256:=by
 simp [IntKind.wrap,IntKind.bits,IntKind.signed]
theorem ab {n:Int} (h1 : -9223372036854775808≤n) (h2:n≤9223372036854775807):IntKind.i64.wrap n=n:=by
 rw [IntKind.wrap_i64];omega
theorem ak {n:Int} (h1:0≤n) (h2:n<18446744073709551616):IntKind.u64.wrap n=n:=by
 rw [eS];omega
theorem iv (x y:UInt64):IntKind.u64.wrap ((x.toNat:Int)+(y.toNat:Int))=((x+y).toNat:Int):=by
 rw [eS,UInt64.toNat_add];omega
theorem ni (x:UInt64):BitVec.ofInt 64 (x.toNat:Int)=x.toBitVec:=by
 rw [BitVec.ofInt_natCast]
 exact BitVec.eq_of_toNat_eq (by rw [BitVec.toNat_ofNat];exact Nat.mod_eq_of_lt x.toBitVec.isLt)
theorem og (b:BitVec 64):IntKind.u64.wrap (b.toNat:Int)=(b.toNat:Int):=by
 have:=b.isLt
 rw [eS];omega
theorem dU (x y:UInt64):ko .u64 (x.toNat:Int) (y.toNat:Int)=((x ^^^ y).toNat:Int):=by
 show IntKind.u64.wrap (((BitVec.ofInt 64 (x.toNat:Int)) ^^^ (BitVec.ofInt 64 (y.toNat:Int))).toNat:Int)=_
 rw [ni,ni,og];rfl
theorem lq (x y:UInt64):bor .u64 (x.toNat:Int) (y.toNat:Int)=((x ||| y).toNat:Int):=by
 show IntKind.u64.wrap (((BitVec.ofInt 64 (x.toNat:Int)) ||| (BitVec.ofInt 64 (y.toNat:Int))).toNat:Int)=_
 rw [ni,ni,og];rfl
theorem iw (x y:UInt64):cu .u64 (x.toNat:Int) (y.toNat:Int)=((x &&& y).toNat:Int):=by
 show IntKind.u64.wrap (((BitVec.ofInt 64 (x.toNat:Int)) &&& (BitVec.ofInt 64 (y.toNat:Int))).toNat:Int)=_
 rw [ni,ni,og];rfl
def c9 (x:UInt64) (n:Nat):UInt64:=UInt64.ofNat (x.toNat*2^n)
def eH (x:UInt64) (n:Nat):UInt64:=UInt64.ofNat (x.toNat/2^n)
theorem i4 (x:UInt64) (n:Int) (h:n.toNat≤64):gV .u64 (x.toNat:Int) n=((c9 x n.toNat).toNat:Int):=by
 show IntKind.u64.wrap ((x.toNat:Int)*2^(min n.toNat 64))=_
 rw [Nat.min_eq_left h,eS]
 unfold c9
 rw [UInt64.toNat_ofNat',Int.natCast_emod,Int.natCast_mul,Int.natCast_pow]
 rfl
theorem mg (x:UInt64) (n:Int) (h:n.toNat≤64):bc .u64 (x.toNat:Int) n=((eH x n.toNat).toNat:Int):=by
 show Int.fdiv (x.toNat:Int) (2^(min n.toNat 64))=_
 rw [Nat.min_eq_left h]
 unfold eH
 have hlt:x.toNat/2^n.toNat<18446744073709551616:=Nat.lt_of_le_of_lt (Nat.div_le_self _ _) x.toNat_lt
 rw [UInt64.toNat_ofNat',Nat.mod_eq_of_lt (by simpa using hlt)]
 have e:((2:Int)^n.toNat)=((2^n.toNat:Nat):Int):=by rw [Int.natCast_pow];rfl
 rw [e,Int.fdiv_eq_ediv_of_nonneg _ (Int.natCast_nonneg _)]
 rfl
def kI (x:UInt64) (n:Nat):UInt64:=c9 x n ||| eH x (64-n)
theorem gT (n:Nat) (h:n<18446744073709551616):(n:Int)=((UInt64.ofNat n).toNat:Int):=by
 rw [UInt64.toNat_ofNat',Nat.mod_eq_of_lt (by simpa using h)]
theorem nj (a:Nat) (ha:a<18446744073709551616):(BitVec.ofInt 64 (a:Int)).toNat=a:=by
 rw [BitVec.ofInt_natCast,BitVec.toNat_ofNat];exact Nat.mod_eq_of_lt (by simpa using ha)
theorem mh (a b:Nat) (ha:a<18446744073709551616) (hb:b<18446744073709551616):cu .u64 (a:Int) (b:Int)=((a &&& b:Nat):Int):=by
 show IntKind.u64.wrap (((BitVec.ofInt 64 (a:Int)) &&& (BitVec.ofInt 64 (b:Int))).toNat:Int)=_
 rw [og,BitVec.toNat_and,nj a ha,nj b hb]
theorem IX (k:Nat) (hk:k<64):cu .u64 (k:Int) 63=(k:Int):=by
 have:=mh k 63 (by omega) (by omega)
 rw [show ((63:Nat):Int)=63 from rfl] at this
 rw [this,show (63:Nat)=2^6-1 from rfl,Nat.and_two_pow_sub_one_eq_mod,Nat.mod_eq_of_lt (by simpa using hk)]
theorem cY (x:UInt8):IntKind.u64.wrap (x.toNat:Int)=((x.toUInt64).toNat:Int):=by
 have:=x.toNat_lt
 rw [ak (by omega) (by omega)]
 simp
theorem tL (bs:List UInt8) (i:Nat):eV (.v (.int .u8 0)) ((bs.map bt).drop i)=bt (bs.getD i 0):=by
 induction bs generalizing i with
 | nil=>simp [eV,bt]
 | cons b r ih=>cases i with
  | zero=>simp [eV]
  | succ i=>simpa using ih i
theorem tM (ws:List UInt64) (i:Nat):eV (.v (.int .u64 0)) ((ws.map wd).drop i)=wd (ws.getD i 0):=by
 induction ws generalizing i with
 | nil=>simp [eV]
 | cons b r ih=>cases i with
  | zero=>simp [eV]
  | succ i=>simpa using ih i
theorem tN (bs:List UInt8) (a b:Nat):((bs.map bt).drop a).take b=((bs.drop a).take b).map bt:=by
 rw [← List.map_drop,←List.map_take]
theorem FQ (bs:List UInt8) (b:Nat):(bs.map bt).take b=(bs.take b).map bt:=List.map_take.symm
def cb (bs:List UInt8):List AV:=(bs.map bt).map .p
theorem cI (bs:List UInt8):(bs.map bt).map AV.p=cb bs:=rfl
theorem qw:cb []=[]:=rfl
@[simp] theorem DL (bs:List UInt8):(cb bs).length=bs.length:=by simp [cb]
theorem eh (bs:List UInt8) (x:UInt8):cb bs++[.p (.v (.int .u8 (x.toNat:Int)))]=cb (bs++[x]):=by simp [cb,bt]
theorem dA (bs cs:List UInt8):cb bs++cb cs=cb (bs++cs):=by simp [cb]
theorem tO (bs:List UInt8) (n:Nat):(cb bs).drop n=cb (bs.drop n):=by simp [cb]
theorem tP (bs:List UInt8) (n:Nat):(cb bs).take n=cb (bs.take n):=by simp [cb]
theorem DM (bs:List UInt8) (n:Nat) (x:UInt8):(cb bs).set n (.p (.v (.int .u8 (x.toNat:Int))))=cb (bs.set n x):=by simp [cb,bt,List.map_set]
theorem aj (h:ba) (S:List Nat) (σ:Nat→Nat) (bs:List UInt8):ai h S σ (cb bs) (cb bs):=aW h S σ _
theorem y3 (bs:List UInt8) (i:Nat):aS (.v (.int .u8 0)) ((cb bs).drop i) = .p (bt (bs.getD i 0)):=by
 induction bs generalizing i with
 | nil=>simp [aS,bt,cb]
 | cons b r ih=>cases i with
  | zero=>simp [aS,cb]
  | succ i=>simpa [cb] using ih i
theorem DN (bs:List UInt8) (i:Nat):aS (.v (.int .u8 0)) (cb (bs.drop i)) = .p (bt (bs.getD i 0)):=by
 rw [← tO];exact y3 bs i
theorem tQ (bs:List UInt8):jc (cb bs):=by
 intro c hc
 obtain⟨x,_,rfl⟩:=List.mem_map.1 hc
 trivial
theorem cc (T:List Nat) (bs:List UInt8):an T (cb bs):=a8 T _
theorem FT (τ:Nat→Nat) (bs:List UInt8):eG τ (cb bs)=cb bs:=eM τ _
theorem FU (bs:List UInt8):dJ (cb bs)=bs.map bt:=by
 unfold dJ cb
 rw [List.map_map]
 conv=>rhs;rw [← List.map_id (bs.map bt)]
 exact List.map_congr_left fun x _=>rfl
theorem aD (x:UInt64):IntKind.u8.wrap (x.toNat:Int)=((x.toUInt8).toNat:Int):=by
 rw [bW,UInt64.toNat_toUInt8];omega
theorem dI (bs:List UInt8):cZ (bs.map bt)=bs:=by
 unfold cZ
 rw [List.map_map]
 conv=>rhs;rw [← List.map_id bs]
 refine List.map_congr_left fun x _=>?_
 simp [unB,bt]
theorem dc (bs:List UInt8):om (bs.map bt):=by
 intro c hc
 obtain⟨x,_,rfl⟩:=List.mem_map.1 hc
 exact⟨x,rfl⟩
theorem mi (bs:List UInt8):i5 (cb bs):=bI _
theorem mj (bs:List UInt8):i6 (cb bs)=bs.map bt:=bY _
theorem iz (id:Nat) (b:Blk):∀(l:List AV),jc l→hJ id b l=l
 | [],_=>rfl
 | a::l,h=>by
  have h1:isP a:=h a (by simp)
  cases a<;>simp only [isP] at h1
  simp only [hJ,fz1,iz id b l fun c hc=>h c (by simp [hc])]
theorem fm (id:Nat) (b:Blk):∀(l:List AV),jc l→gh id b l
 | [],_=>trivial
 | a::l,h=>by
  have h1:isP a:=h a (by simp)
  cases a<;>simp only [isP] at h1
  exact⟨trivial,fm id b l fun c hc=>h c (by simp [hc])⟩
theorem FV (id:Nat) (b:Blk) (bs:List UInt8):hJ id b (cb bs)=cb bs:=iz id b _ (tQ bs)
theorem DO (id:Nat) (b:Blk) (bs:List UInt8):gh id b (cb bs):=fm id b _ (tQ bs)
end Go.Abs

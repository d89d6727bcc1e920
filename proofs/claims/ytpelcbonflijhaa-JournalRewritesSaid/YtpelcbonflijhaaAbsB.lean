/-
  The abstract executor: what an operation does to an abstract state. Own work; no statement of the seat is proved here.
-/
import Derived.Test.YtpelcbonflijhaaAbsA
namespace Go.Abs
set_option linter.unusedSimpArgs false
set_option linter.unusedVariables false
open Go Go.RowKit

/-! what the executor asks of a type -/
inductive TK where
  | none | bool | int (k : IntKind) | str | slice | array | struct | ptr | iface | other

structure TI where
  kind : TK
  size : Nat
  bytes : Nat
  zero : Option (List Value)
  flds : List (Nat × Nat × TK)
  elem : TypeId
  len : Nat

def tkOf : Option TypeDesc → TK
  | some .bool => .bool
  | some (.int k) => .int k
  | some .string => .str
  | some (.slice _) => .slice
  | some (.array _ _) => .array
  | some (.struct _) => .struct
  | some (.pointer _) => .ptr
  | some (.interface _) => .iface
  | some _ => .other
  | Option.none => .none

def TK.agg : TK → Bool
  | .array | .struct => true
  | _ => false

def szOf (P : Program) (t : TypeId) : Nat :=
  match P.underlying t, P.info? t with
  | some _, some i => i.size
  | _, _ => 0
def elemOfD : Option TypeDesc → TypeId
  | some (.slice e) => e
  | some (.array _ e) => e
  | some (.pointer e) => e
  | _ => 0
def lenOfD : Option TypeDesc → Nat
  | some (.array n _) => n
  | _ => 0
def fldsOfD (P : Program) : Option TypeDesc → List (Nat × Nat × TK)
  | some (.struct fs) => fs.toList.map fun f => (f.offset, szOf P f.type, tkOf (P.underlying f.type))
  | _ => []

def tiOf (P : Program) (t : TypeId) : TI where
  kind := tkOf (P.underlying t)
  size := szOf P t
  bytes := ((P.info? t).map (·.bytes)).getD 0
  zero := (P.info? t).bind fun i => i.zero.map fun z => z.cells.toList
  flds := fldsOfD P (P.underlying t)
  elem := elemOfD (P.underlying t)
  len := lenOfD (P.underlying t)

/-! states -/
structure AS where
  n : Nat
  sl : List (Nat × AV)
  hp : List (Nat × Option Blk)
  nx : Nat

def lk : List (Nat × AV) → Nat → AV
  | [], _ => .any
  | (k, v) :: r, n => match Nat.beq k n with | true => v | false => lk r n

def hget : List (Nat × Option Blk) → Nat → Option Blk
  | [], _ => none
  | (k, v) :: r, n => match Nat.beq k n with | true => v | false => hget r n

def ofConst : Value → AV
  | .agg cs => .agg (cs.toList.map fun v => .p (.v v))
  | .tuple _ => .any
  | .bool b => .p (.v (.bool b))
  | .int k n => .p (.v (.int k n))
  | .float k n => .p (.v (.float k n))
  | .complex k n m => .p (.v (.complex k n m))
  | .string s => .p (.v (.string s))
  | .pointer a => .p (.v (.pointer a))
  | .slice a l c => .p (.v (.slice a l c))
  | .map r => .p (.v (.map r))
  | .chan r => .p (.v (.chan r))
  | .func f a b => .p (.v (.func f a b))
  | .nilFunc => .p (.v .nilFunc)
  | .iface t v => .p (.v (.iface t v))
  | .nilIface => .p (.v .nilIface)

def constOk : Value → Bool
  | .agg cs => cs.toList.all (·.oneCell')
  | _ => true

def ev (st : AS) : Operand → AV
  | .tmp t => lk st.sl t
  | .const v => match constOk v with | true => ofConst v | false => .any
  | .func f => .p (.v (.func (.func f) #[] #[]))
  | .global _ => .any

def evs (st : AS) : List Operand → List AV
  | [] => []
  | x :: xs => ev st x :: evs st xs

abbrev AV.i (n : Int) : AV := .p (.v (.int .i64 n))
abbrev AV.b (b : Bool) : AV := .p (.v (.bool b))

def oneP : PV → Bool
  | .agg _ => false
  | _ => true
def oneC : AV → Bool
  | .p x => oneP x
  | .ptr _ _ => true
  | .sl _ _ _ _ => true
  | .cp _ => true
  | .fn _ _ _ => true
  | .iface _ _ => true
  | .agg _ => false
  | .tup _ => false
  | .any => false
def oneCs : List AV → Bool
  | [] => true
  | c :: r => match oneC c with | true => oneCs r | false => false

def cells : AV → List AV
  | .agg cs => cs
  | .p x => [.p x]
  | .ptr a b => [.ptr a b]
  | .sl a b c d => [.sl a b c d]
  | .cp a => [.cp a]
  | .tup a => [.tup a]
  | .iface a b => [.iface a b]
  | .fn a b c => [.fn a b c]
  | .any => [.any]

/-! the outcome of an operation -/
inductive R where
  | ok (v : AV) (T : List Nat) (upd : List (Nat × Option Blk)) (nx : Nat)
  | okS (side : Prop) (v : AV) (T : List Nat) (upd : List (Nat × Option Blk)) (nx : Nat)
  | call (f : FuncId) (vs : List AV)
  | bad

def R.pure (st : AS) (v : AV) : R := .ok v [] [] st.nx
def R.pureS (st : AS) (s : Prop) (v : AV) : R := .okS s v [] [] st.nx

def pickR (st : AS) : AV → AV → AV → R
  | .p (.v (.bool c)), a, b => .pure st (if c = true then a else b)
  | _, _, _ => .bad

def boxR (st : AS) (t : TypeId) (v : AV) : R :=
  match oneCs (cells v) with
  | true => .ok (.ptr st.nx 0) [] [(st.nx, some ⟨t, cells v⟩)] (st.nx + 1)
  | false => .bad

def pvs : List Value → List AV
  | [] => []
  | v :: r => .p (.v v) :: pvs r

def oneVs : List Value → Bool
  | [] => true
  | v :: r => match v.oneCell' with | true => oneVs r | false => false

def allocR (st : AS) (t : TypeId) : Option (List Value) → R
  | some z => match oneVs z with
    | true => .ok (.ptr st.nx 0) [] [(st.nx, some ⟨t, pvs z⟩)] (st.nx + 1)
    | false => .bad
  | none => .bad

/-- what stands where nothing can be read (never asked) -/
def dfl : TK → PV
  | .int k => .v (.int k 0)
  | .bool => .v (.bool false)
  | .slice => .data 1 0 []
  | _ => .v undef
def headA (d : PV) : List AV → AV
  | c :: _ => c
  | [] => .p d
/-- the cells that a value of a type has at an offset -/
def takeAs (k : TK) (size : Nat) (cs : List AV) : AV :=
  match k.agg with
  | true => .agg (cs.take size)
  | false => headA (dfl k) cs

def pcells : List PV → List AV
  | cs => cs.map .p

def loadB (st : AS) (ti : TI) (id off : Nat) : Option Blk → R
  | some b => match Nat.ble 1 ti.size with
    | true => .okS (off + ti.size ≤ b.cs.length) (takeAs ti.kind ti.size (b.cs.drop off)) [id] [] st.nx
    | false => .bad
  | none => .bad

def headP (d : PV) : List PV → PV
  | c :: _ => c
  | [] => d

def loadR (st : AS) (ti : TI) : AV → R
  | .ptr id off => loadB st ti id off (hget st.hp id)
  | .cp cs => match ti.kind.agg, Nat.ble 1 ti.size with
    | true, true => .pureS st (ti.size ≤ cs.length) (.agg ((cs.take ti.size).map .p))
    | false, true => .pureS st (ti.size ≤ cs.length) (.p (headP (dfl ti.kind) cs))
    | _, _ => .bad
  | _ => .bad

def setAt : List AV → Nat → List AV → List AV
  | cs, _, [] => cs
  | cs, i, v :: vs => setAt (cs.set i v) (i + 1) vs

def storeB (st : AS) (ti : TI) (id off : Nat) (vs : List AV) : Option Blk → R
  | some b => match oneCs vs, Nat.beq vs.length ti.size, Nat.ble 1 ti.size with
    | true, true, true => .okS (off + vs.length ≤ b.cs.length) .any [id] [(id, some ⟨b.t, setAt b.cs off vs⟩)] st.nx
    | _, _, _ => .bad
  | none => .bad

def storeR (st : AS) (ti : TI) : AV → AV → R
  | .ptr id off, v => storeB st ti id off (cells v) (hget st.hp id)
  | _, _ => .bad

def fieldR (st : AS) (x : AV) : Option (Nat × Nat × TK) → R
  | some (o, s, _) => match Nat.ble 1 s, x with
    | true, .ptr id off => .pure st (.ptr id (off + o))
    | true, .cp cs => .pure st (.cp (cs.drop o))
    | _, _ => .bad
  | none => .bad

def fieldV (st : AS) : AV → Option (Nat × Nat × TK) → R
  | .agg cs, some (o, s, k) => match Nat.ble 1 s with
    | true => .pureS st (o + s ≤ cs.length) (takeAs k s (cs.drop o))
    | false => .bad
  | _, _ => .bad

def extractR (st : AS) (i : Nat) : AV → R
  | .tup vs => match vs[i]? with
    | some v => .pure st v
    | none => .bad
  | _ => .bad

def band (k : IntKind) (a b : Int) : Int := k.wrap ((BitVec.ofInt k.bits a &&& BitVec.ofInt k.bits b).toNat : Int)
def bor (k : IntKind) (a b : Int) : Int := k.wrap ((BitVec.ofInt k.bits a ||| BitVec.ofInt k.bits b).toNat : Int)
def bxor (k : IntKind) (a b : Int) : Int := k.wrap ((BitVec.ofInt k.bits a ^^^ BitVec.ofInt k.bits b).toNat : Int)
def bandn (k : IntKind) (a b : Int) : Int := k.wrap ((BitVec.ofInt k.bits a &&& ~~~ BitVec.ofInt k.bits b).toNat : Int)
def ishl (k : IntKind) (a b : Int) : Int := k.wrap (a * 2 ^ (min b.toNat k.bits))
def ishr (k : IntKind) (a b : Int) : Int := a.fdiv (2 ^ (min b.toNat k.bits))

def eqK : IntKind → IntKind → Bool
  | .i8, .i8 | .i16, .i16 | .i32, .i32 | .i64, .i64 | .u8, .u8 | .u16, .u16 | .u32, .u32 | .u64, .u64 => true
  | _, _ => false

def arithR (st : AS) (op : BinOp) (k : IntKind) (a b : Int) (same : Bool) : R :=
  match op, same with
  | .shl, _ => .pureS st (0 ≤ b) (.p (.v (.int k (ishl k a b))))
  | .shr, _ => .pureS st (0 ≤ b) (.p (.v (.int k (ishr k a b))))
  | .add, true => .pure st (.p (.v (.int k (k.wrap (a + b)))))
  | .sub, true => .pure st (.p (.v (.int k (k.wrap (a - b)))))
  | .mul, true => .pure st (.p (.v (.int k (k.wrap (a * b)))))
  | .quo, true => .pureS st (b ≠ 0) (.p (.v (.int k (k.wrap (a.tdiv b)))))
  | .rem, true => .pureS st (b ≠ 0) (.p (.v (.int k (a.tmod b))))
  | .and, true => .pure st (.p (.v (.int k (band k a b))))
  | .or, true => .pure st (.p (.v (.int k (bor k a b))))
  | .xor, true => .pure st (.p (.v (.int k (bxor k a b))))
  | .andNot, true => .pure st (.p (.v (.int k (bandn k a b))))
  | .eql, true => .pure st (.b (a == b))
  | .neq, true => .pure st (.b (a != b))
  | .lss, true => .pure st (.b (decide (a < b)))
  | .leq, true => .pure st (.b (decide (a ≤ b)))
  | .gtr, true => .pure st (.b (decide (a > b)))
  | .geq, true => .pure st (.b (decide (a ≥ b)))
  | _, _ => .bad

def strR (st : AS) (op : BinOp) (a b : ByteArray) : R :=
  match op with
  | .eql => .pure st (.b (a.toList == b.toList))
  | .neq => .pure st (.b (!(a.toList == b.toList)))
  | .add => .pureS st (a.size + b.size ≤ 9223372036854775807) (.p (.v (.string (a ++ b))))
  | .lss => .pure st (.b (Op.bytesLess a.toList b.toList))
  | .leq => .pure st (.b (Op.bytesLess a.toList b.toList || a.toList == b.toList))
  | .gtr => .pure st (.b (!(Op.bytesLess a.toList b.toList || a.toList == b.toList)))
  | .geq => .pure st (.b (!(Op.bytesLess a.toList b.toList)))
  | _ => .bad

def boolR (st : AS) (op : BinOp) (a b : Bool) : TK → R
  | .bool => match op with
    | .eql => .pure st (.b (a == b))
    | .neq => .pure st (.b (!(a == b)))
    | _ => .bad
  | _ => .bad

def nilEq (st : AS) (op : BinOp) (side : Prop) (r : Bool) : R :=
  match op with
  | .eql => .pureS st side (.b r)
  | .neq => .pureS st side (.b (!r))
  | _ => .bad

def binR (st : AS) (op : BinOp) (k : TK) : AV → AV → R
  | .p (.v (.int i a)), .p (.v (.int j b)) => arithR st op i a b (eqK i j)
  | .p (.v (.string a)), .p (.v (.string b)) => strR st op a b
  | .p (.v (.bool a)), .p (.v (.bool b)) => boolR st op a b k
  | .p (.data _ n _), .p (.v (.slice none 0 0)) => match k with | .slice => nilEq st op (n ≠ 0) false | _ => .bad
  | .sl _ _ n _, .p (.v (.slice none 0 0)) => match k with | .slice => nilEq st op (n ≠ 0) false | _ => .bad
  | .p (.v (.slice none 0 0)), .p (.v (.slice none 0 0)) => match k with | .slice => nilEq st op True true | _ => .bad
  | _, _ => .bad

def unR (st : AS) : UnOp → AV → R
  | .not, .p (.v (.bool b)) => .pure st (.b (!b))
  | .neg, .p (.v (.int k n)) => .pure st (.p (.v (.int k (k.wrap (0 - n)))))
  | .xor, .p (.v (.int k n)) => .pure st (.p (.v (.int k (bxor k (if k.signed then -1 else k.max) n))))
  | _, _ => .bad

/-! bytes -/
def bt (x : UInt8) : PV := .v (.int .u8 (x.toNat : Int))
def isB : PV → Prop
  | .v (.int .u8 n) => ∃ x : UInt8, n = (x.toNat : Int)
  | _ => False
def unB : PV → UInt8
  | .v (.int .u8 n) => UInt8.ofNat n.toNat
  | _ => 0
def allB (cs : List PV) : Prop := ∀ c ∈ cs, isB c
def unBs (cs : List PV) : List UInt8 := cs.map unB

def unP : AV → PV
  | .p x => x
  | _ => .v undef
def isP : AV → Prop
  | .p _ => True
  | _ => False
def unPs (cs : List AV) : List PV := cs.map unP
def allP (cs : List AV) : Prop := ∀ c ∈ cs, isP c

def strOf (l : List UInt8) : Value := .string ⟨l.toArray⟩

def indexR (st : AS) (ti : TI) (es : Nat) : AV → AV → R
  | .p (.data s n cs), .p (.v (.int _ i)) => match ti.kind, Nat.beq s es, Nat.ble 1 es with
    | .slice, true, true => .pureS st (0 ≤ i ∧ i < n) (.cp (cs.drop (i.toNat * s)))
    | _, _, _ => .bad
  | .sl id off n s, .p (.v (.int _ i)) => match ti.kind, Nat.beq s es, Nat.ble 1 es with
    | .slice, true, true => .pureS st (0 ≤ i ∧ i < n) (.ptr id (off + i.toNat * s))
    | _, _, _ => .bad
  | .ptr id off, .p (.v (.int _ i)) => match ti.kind, Nat.ble 1 es with
    | .array, true => .pureS st (0 ≤ i ∧ i < ti.len) (.ptr id (off + i.toNat * es))
    | _, _ => .bad
  | _, _ => .bad

def idxVR (st : AS) (ti : TI) (es : Nat) (ek : TK) : AV → AV → R
  | .p (.v (.string s)), .p (.v (.int _ i)) => match ti.kind with
    | .str => .pureS st (0 ≤ i ∧ i < s.size) (.p (.v (.int .u8 ((s.data.toList.getD i.toNat 0).toNat : Int))))
    | _ => .bad
  | _, _ => .bad

def lenR (st : AS) (ti : TI) : AV → R
  | .p (.data _ n _) => match ti.kind with | .slice => .pure st (.i n) | _ => .bad
  | .p (.v (.slice _ n _)) => match ti.kind with | .slice => .pure st (.i n) | _ => .bad
  | .sl _ _ n _ => match ti.kind with | .slice => .pure st (.i n) | _ => .bad
  | .p (.v (.string s)) => match ti.kind with | .str => .pure st (.i s.size) | _ => .bad
  | _ => .bad

def max2R (st : AS) : AV → AV → R
  | .p (.v (.int k a)), .p (.v (.int _ b)) => .pure st (.p (.v (.int k (if b > a then b else a))))
  | _, _ => .bad
def min2R (st : AS) : AV → AV → R
  | .p (.v (.int k a)), .p (.v (.int _ b)) => .pure st (.p (.v (.int k (if b < a then b else a))))
  | _, _ => .bad

end Go.Abs

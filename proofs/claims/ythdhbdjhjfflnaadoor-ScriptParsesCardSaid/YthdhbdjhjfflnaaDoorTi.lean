/- What the executor asks of each type of the program: closed facts, written by a program (ti.sh). -/
import Derived.Test.YthdhbdjhjfflnaaDoorAbsS
import Derived.Test.YthdhbdjhjfflnaaDoorProg
import Derived.KernelRfl
namespace Go.Proofs.YthdhbdjhjfflnaaDoor
open Go Go.Abs
set_option maxRecDepth 100000
def z42 : List Value := [Value.int IntKind.i64 0, Value.int IntKind.i64 0, Value.int IntKind.i64 0, Value.int IntKind.i64 0, Value.int IntKind.i64 0, Value.string { data := { toList := [] } }, Value.int IntKind.i64 0, Value.string { data := { toList := [] } }, Value.slice none 0 0, Value.string { data := { toList := [] } }, Value.string { data := { toList := [] } }, Value.slice none 0 0, Value.int IntKind.i64 0, Value.int IntKind.i64 0, Value.bool false, Value.int IntKind.i64 0, Value.bool false, Value.int IntKind.i64 0, Value.int IntKind.i64 0, Value.string { data := { toList := [] } }, Value.slice none 0 0, Value.slice none 0 0, Value.slice none 0 0, Value.int IntKind.i64 0, Value.slice none 0 0, Value.string { data := { toList := [] } }]
theorem one42 : oneVs z42 = true := by kernel_rfl
theorem len42 : z42.length = 26 := rfl
def z43 : List Value := [Value.int IntKind.i64 0, Value.int IntKind.i64 0, Value.int IntKind.i64 0, Value.int IntKind.i64 0, Value.int IntKind.i64 0, Value.string { data := { toList := [] } }, Value.int IntKind.i64 0, Value.string { data := { toList := [] } }, Value.slice none 0 0, Value.string { data := { toList := [] } }, Value.string { data := { toList := [] } }, Value.slice none 0 0, Value.int IntKind.i64 0, Value.int IntKind.i64 0, Value.bool false, Value.int IntKind.i64 0, Value.bool false, Value.int IntKind.i64 0, Value.int IntKind.i64 0, Value.string { data := { toList := [] } }, Value.slice none 0 0, Value.slice none 0 0, Value.slice none 0 0, Value.int IntKind.i64 0, Value.slice none 0 0, Value.string { data := { toList := [] } }]
theorem one43 : oneVs z43 = true := by kernel_rfl
theorem len43 : z43.length = 26 := rfl
def z71 : List Value := [Value.string { data := { toList := [] } }, Value.int IntKind.i64 0, Value.int IntKind.i64 0, Value.string { data := { toList := [] } }, Value.string { data := { toList := [] } }, Value.int IntKind.i64 0, Value.int IntKind.i64 0, Value.string { data := { toList := [] } }, Value.string { data := { toList := [] } }, Value.int IntKind.i64 0, Value.int IntKind.i64 0, Value.string { data := { toList := [] } }, Value.string { data := { toList := [] } }, Value.int IntKind.i64 0, Value.int IntKind.i64 0, Value.string { data := { toList := [] } }, Value.string { data := { toList := [] } }, Value.int IntKind.i64 0, Value.int IntKind.i64 0, Value.string { data := { toList := [] } }, Value.string { data := { toList := [] } }, Value.int IntKind.i64 0, Value.int IntKind.i64 0, Value.string { data := { toList := [] } }, Value.string { data := { toList := [] } }, Value.int IntKind.i64 0, Value.int IntKind.i64 0, Value.string { data := { toList := [] } }, Value.string { data := { toList := [] } }, Value.int IntKind.i64 0, Value.int IntKind.i64 0, Value.string { data := { toList := [] } }, Value.string { data := { toList := [] } }, Value.int IntKind.i64 0, Value.int IntKind.i64 0, Value.string { data := { toList := [] } }, Value.string { data := { toList := [] } }, Value.int IntKind.i64 0, Value.int IntKind.i64 0, Value.string { data := { toList := [] } }, Value.string { data := { toList := [] } }, Value.int IntKind.i64 0, Value.int IntKind.i64 0, Value.string { data := { toList := [] } }, Value.string { data := { toList := [] } }, Value.int IntKind.i64 0, Value.int IntKind.i64 0, Value.string { data := { toList := [] } }, Value.string { data := { toList := [] } }, Value.int IntKind.i64 0, Value.int IntKind.i64 0, Value.string { data := { toList := [] } }, Value.string { data := { toList := [] } }, Value.int IntKind.i64 0, Value.int IntKind.i64 0, Value.string { data := { toList := [] } }, Value.string { data := { toList := [] } }, Value.int IntKind.i64 0, Value.int IntKind.i64 0, Value.string { data := { toList := [] } }, Value.string { data := { toList := [] } }, Value.int IntKind.i64 0, Value.int IntKind.i64 0, Value.string { data := { toList := [] } }, Value.string { data := { toList := [] } }, Value.int IntKind.i64 0, Value.int IntKind.i64 0, Value.string { data := { toList := [] } }, Value.string { data := { toList := [] } }, Value.int IntKind.i64 0, Value.int IntKind.i64 0, Value.string { data := { toList := [] } }, Value.string { data := { toList := [] } }, Value.int IntKind.i64 0, Value.int IntKind.i64 0, Value.string { data := { toList := [] } }, Value.string { data := { toList := [] } }, Value.int IntKind.i64 0, Value.int IntKind.i64 0, Value.string { data := { toList := [] } }, Value.string { data := { toList := [] } }, Value.int IntKind.i64 0, Value.int IntKind.i64 0, Value.string { data := { toList := [] } }, Value.string { data := { toList := [] } }, Value.int IntKind.i64 0, Value.int IntKind.i64 0, Value.string { data := { toList := [] } }, Value.string { data := { toList := [] } }, Value.int IntKind.i64 0, Value.int IntKind.i64 0, Value.string { data := { toList := [] } }, Value.string { data := { toList := [] } }, Value.int IntKind.i64 0, Value.int IntKind.i64 0, Value.string { data := { toList := [] } }, Value.string { data := { toList := [] } }, Value.int IntKind.i64 0, Value.int IntKind.i64 0, Value.string { data := { toList := [] } }]
theorem one71 : oneVs z71 = true := by kernel_rfl
theorem len71 : z71.length = 100 := rfl
attribute [go_sem] one42 len42 one43 len43 one71 len71
theorem tis0 : tiOf Tryd.prog 0 = ⟨TK.other, 1, 0, some [Value.tuple { toList := [] }], [], 0, 0⟩ ∧
  tiOf Tryd.prog 1 = ⟨TK.other, 1, 8, some [Value.nilFunc], [], 0, 0⟩ ∧
  tiOf Tryd.prog 2 = ⟨TK.int IntKind.i64, 1, 8, some [Value.int IntKind.i64 0], [], 0, 0⟩ ∧
  tiOf Tryd.prog 3 = ⟨TK.int IntKind.i64, 1, 8, some [Value.int IntKind.i64 0], [], 0, 0⟩ ∧
  tiOf Tryd.prog 4 = ⟨TK.bool, 1, 1, some [Value.bool false], [], 0, 0⟩ ∧
  tiOf Tryd.prog 5 = ⟨TK.int IntKind.u8, 1, 1, some [Value.int IntKind.u8 0], [], 0, 0⟩ ∧
  tiOf Tryd.prog 6 = ⟨TK.int IntKind.u8, 1, 1, some [Value.int IntKind.u8 0], [], 0, 0⟩ ∧
  tiOf Tryd.prog 7 = ⟨TK.struct, 4, 24, some [Value.int IntKind.i64 0, Value.int IntKind.i64 0, Value.bool false, Value.int IntKind.u8 0], [(0, 1, TK.int IntKind.i64), (1, 1, TK.int IntKind.i64), (2, 1, TK.bool), (3, 1, TK.int IntKind.u8)], 0, 0⟩ ∧
  tiOf Tryd.prog 8 = ⟨TK.struct, 4, 24, some [Value.int IntKind.i64 0, Value.int IntKind.i64 0, Value.bool false, Value.int IntKind.u8 0], [(0, 1, TK.int IntKind.i64), (1, 1, TK.int IntKind.i64), (2, 1, TK.bool), (3, 1, TK.int IntKind.u8)], 0, 0⟩ ∧
  tiOf Tryd.prog 9 = ⟨TK.str, 1, 16, some [Value.string { data := { toList := [] } }], [], 0, 0⟩ ∧
  tiOf Tryd.prog 10 = ⟨TK.str, 1, 16, some [Value.string { data := { toList := [] } }], [], 0, 0⟩ ∧
  tiOf Tryd.prog 11 = ⟨TK.str, 1, 16, some [Value.string { data := { toList := [] } }], [], 0, 0⟩ ∧
  tiOf Tryd.prog 12 = ⟨TK.int IntKind.u64, 1, 8, some [Value.int IntKind.u64 0], [], 0, 0⟩ ∧
  tiOf Tryd.prog 13 = ⟨TK.struct, 2, 24, some [Value.string { data := { toList := [] } }, Value.int IntKind.u64 0], [(0, 1, TK.str), (1, 1, TK.int IntKind.u64)], 0, 0⟩ ∧
  tiOf Tryd.prog 14 = ⟨TK.struct, 2, 24, some [Value.string { data := { toList := [] } }, Value.int IntKind.u64 0], [(0, 1, TK.str), (1, 1, TK.int IntKind.u64)], 0, 0⟩ ∧
  tiOf Tryd.prog 15 = ⟨TK.ptr, 1, 8, some [Value.pointer none], [], 114, 0⟩ :=
  ⟨by kernel_rfl, by kernel_rfl, by kernel_rfl, by kernel_rfl, by kernel_rfl, by kernel_rfl, by kernel_rfl, by kernel_rfl, by kernel_rfl, by kernel_rfl, by kernel_rfl, by kernel_rfl, by kernel_rfl, by kernel_rfl, by kernel_rfl, by kernel_rfl⟩
theorem tis1 : tiOf Tryd.prog 16 = ⟨TK.ptr, 1, 8, some [Value.pointer none], [], 117, 0⟩ ∧
  tiOf Tryd.prog 17 = ⟨TK.ptr, 1, 8, some [Value.pointer none], [], 125, 0⟩ ∧
  tiOf Tryd.prog 18 = ⟨TK.struct, 1, 8, some [Value.pointer none], [(0, 1, TK.ptr)], 0, 0⟩ ∧
  tiOf Tryd.prog 19 = ⟨TK.struct, 1, 8, some [Value.pointer none], [(0, 1, TK.ptr)], 0, 0⟩ ∧
  tiOf Tryd.prog 20 = ⟨TK.iface, 1, 16, some [Value.nilIface], [], 0, 0⟩ ∧
  tiOf Tryd.prog 21 = ⟨TK.int IntKind.i32, 1, 4, some [Value.int IntKind.i32 0], [], 0, 0⟩ ∧
  tiOf Tryd.prog 22 = ⟨TK.slice, 1, 24, some [Value.slice none 0 0], [], 3, 0⟩ ∧
  tiOf Tryd.prog 23 = ⟨TK.other, 1, 8, some [Value.nilFunc], [], 0, 0⟩ ∧
  tiOf Tryd.prog 24 = ⟨TK.ptr, 1, 8, some [Value.pointer none], [], 45, 0⟩ ∧
  tiOf Tryd.prog 25 = ⟨TK.other, 1, 8, some [Value.nilFunc], [], 0, 0⟩ ∧
  tiOf Tryd.prog 26 = ⟨TK.other, 1, 8, some [Value.nilFunc], [], 0, 0⟩ ∧
  tiOf Tryd.prog 27 = ⟨TK.other, 1, 8, some [Value.nilFunc], [], 0, 0⟩ ∧
  tiOf Tryd.prog 28 = ⟨TK.other, 1, 8, some [Value.nilFunc], [], 0, 0⟩ ∧
  tiOf Tryd.prog 29 = ⟨TK.other, 1, 8, some [Value.nilFunc], [], 0, 0⟩ ∧
  tiOf Tryd.prog 30 = ⟨TK.slice, 1, 24, some [Value.slice none 0 0], [], 43, 0⟩ ∧
  tiOf Tryd.prog 31 = ⟨TK.int IntKind.i64, 1, 8, some [Value.int IntKind.i64 0], [], 0, 0⟩ :=
  ⟨by kernel_rfl, by kernel_rfl, by kernel_rfl, by kernel_rfl, by kernel_rfl, by kernel_rfl, by kernel_rfl, by kernel_rfl, by kernel_rfl, by kernel_rfl, by kernel_rfl, by kernel_rfl, by kernel_rfl, by kernel_rfl, by kernel_rfl, by kernel_rfl⟩
theorem tis2 : tiOf Tryd.prog 32 = ⟨TK.other, 1, 0, some [Value.tuple { toList := [Value.slice none 0 0, Value.int IntKind.i64 0, Value.int IntKind.i64 0] }], [], 0, 0⟩ ∧
  tiOf Tryd.prog 33 = ⟨TK.other, 1, 8, some [Value.nilFunc], [], 0, 0⟩ ∧
  tiOf Tryd.prog 34 = ⟨TK.other, 1, 0, some [Value.tuple { toList := [Value.string { data := { toList := [] } }, Value.int IntKind.i64 0] }], [], 0, 0⟩ ∧
  tiOf Tryd.prog 35 = ⟨TK.other, 1, 8, some [Value.nilFunc], [], 0, 0⟩ ∧
  tiOf Tryd.prog 36 = ⟨TK.slice, 1, 24, some [Value.slice none 0 0], [], 5, 0⟩ ∧
  tiOf Tryd.prog 37 = ⟨TK.slice, 1, 24, some [Value.slice none 0 0], [], 36, 0⟩ ∧
  tiOf Tryd.prog 38 = ⟨TK.struct, 12, 152, some [Value.int IntKind.i64 0, Value.string { data := { toList := [] } }, Value.slice none 0 0, Value.string { data := { toList := [] } }, Value.string { data := { toList := [] } }, Value.slice none 0 0, Value.int IntKind.i64 0, Value.int IntKind.i64 0, Value.bool false, Value.int IntKind.i64 0, Value.bool false, Value.int IntKind.i64 0], [(0, 1, TK.int IntKind.i64), (1, 1, TK.str), (2, 1, TK.slice), (3, 1, TK.str), (4, 1, TK.str), (5, 1, TK.slice), (6, 1, TK.int IntKind.i64), (7, 1, TK.int IntKind.i64), (8, 1, TK.bool), (9, 1, TK.int IntKind.i64), (10, 1, TK.bool), (11, 1, TK.int IntKind.i64)], 0, 0⟩ ∧
  tiOf Tryd.prog 39 = ⟨TK.struct, 12, 152, some [Value.int IntKind.i64 0, Value.string { data := { toList := [] } }, Value.slice none 0 0, Value.string { data := { toList := [] } }, Value.string { data := { toList := [] } }, Value.slice none 0 0, Value.int IntKind.i64 0, Value.int IntKind.i64 0, Value.bool false, Value.int IntKind.i64 0, Value.bool false, Value.int IntKind.i64 0], [(0, 1, TK.int IntKind.i64), (1, 1, TK.str), (2, 1, TK.slice), (3, 1, TK.str), (4, 1, TK.str), (5, 1, TK.slice), (6, 1, TK.int IntKind.i64), (7, 1, TK.int IntKind.i64), (8, 1, TK.bool), (9, 1, TK.int IntKind.i64), (10, 1, TK.bool), (11, 1, TK.int IntKind.i64)], 0, 0⟩ ∧
  tiOf Tryd.prog 40 = ⟨TK.struct, 8, 144, some [Value.int IntKind.i64 0, Value.string { data := { toList := [] } }, Value.slice none 0 0, Value.slice none 0 0, Value.slice none 0 0, Value.int IntKind.i64 0, Value.slice none 0 0, Value.string { data := { toList := [] } }], [(0, 1, TK.int IntKind.i64), (1, 1, TK.str), (2, 1, TK.slice), (3, 1, TK.slice), (4, 1, TK.slice), (5, 1, TK.int IntKind.i64), (6, 1, TK.slice), (7, 1, TK.str)], 0, 0⟩ ∧
  tiOf Tryd.prog 41 = ⟨TK.struct, 8, 144, some [Value.int IntKind.i64 0, Value.string { data := { toList := [] } }, Value.slice none 0 0, Value.slice none 0 0, Value.slice none 0 0, Value.int IntKind.i64 0, Value.slice none 0 0, Value.string { data := { toList := [] } }], [(0, 1, TK.int IntKind.i64), (1, 1, TK.str), (2, 1, TK.slice), (3, 1, TK.slice), (4, 1, TK.slice), (5, 1, TK.int IntKind.i64), (6, 1, TK.slice), (7, 1, TK.str)], 0, 0⟩ ∧
  tiOf Tryd.prog 42 = ⟨TK.struct, 26, 352, some z42, [(0, 1, TK.int IntKind.i64), (1, 1, TK.int IntKind.i64), (2, 1, TK.int IntKind.i64), (3, 1, TK.int IntKind.i64), (4, 1, TK.int IntKind.i64), (5, 1, TK.str), (6, 12, TK.struct), (18, 8, TK.struct)], 0, 0⟩ ∧
  tiOf Tryd.prog 43 = ⟨TK.struct, 26, 352, some z43, [(0, 1, TK.int IntKind.i64), (1, 1, TK.int IntKind.i64), (2, 1, TK.int IntKind.i64), (3, 1, TK.int IntKind.i64), (4, 1, TK.int IntKind.i64), (5, 1, TK.str), (6, 12, TK.struct), (18, 8, TK.struct)], 0, 0⟩ ∧
  tiOf Tryd.prog 44 = ⟨TK.struct, 2, 32, some [Value.slice none 0 0, Value.int IntKind.i64 0], [(0, 1, TK.slice), (1, 1, TK.int IntKind.i64)], 0, 0⟩ ∧
  tiOf Tryd.prog 45 = ⟨TK.struct, 2, 32, some [Value.slice none 0 0, Value.int IntKind.i64 0], [(0, 1, TK.slice), (1, 1, TK.int IntKind.i64)], 0, 0⟩ ∧
  tiOf Tryd.prog 46 = ⟨TK.other, 1, 8, some [Value.nilFunc], [], 0, 0⟩ ∧
  tiOf Tryd.prog 47 = ⟨TK.other, 1, 8, some [Value.nilFunc], [], 0, 0⟩ :=
  ⟨by kernel_rfl, by kernel_rfl, by kernel_rfl, by kernel_rfl, by kernel_rfl, by kernel_rfl, by kernel_rfl, by kernel_rfl, by kernel_rfl, by kernel_rfl, by kernel_rfl, by kernel_rfl, by kernel_rfl, by kernel_rfl, by kernel_rfl, by kernel_rfl⟩
theorem tis3 : tiOf Tryd.prog 48 = ⟨TK.other, 1, 8, some [Value.nilFunc], [], 0, 0⟩ ∧
  tiOf Tryd.prog 49 = ⟨TK.other, 1, 0, some [Value.tuple { toList := [Value.string { data := { toList := [] } }, Value.string { data := { toList := [] } }, Value.bool false] }], [], 0, 0⟩ ∧
  tiOf Tryd.prog 50 = ⟨TK.other, 1, 8, some [Value.nilFunc], [], 0, 0⟩ ∧
  tiOf Tryd.prog 51 = ⟨TK.other, 1, 0, some [Value.tuple { toList := [Value.agg { toList := [Value.int IntKind.i64 0, Value.int IntKind.i64 0, Value.int IntKind.i64 0, Value.int IntKind.i64 0, Value.int IntKind.i64 0, Value.string { data := { toList := [] } }, Value.int IntKind.i64 0, Value.string { data := { toList := [] } }, Value.slice none 0 0, Value.string { data := { toList := [] } }, Value.string { data := { toList := [] } }, Value.slice none 0 0, Value.int IntKind.i64 0, Value.int IntKind.i64 0, Value.bool false, Value.int IntKind.i64 0, Value.bool false, Value.int IntKind.i64 0, Value.int IntKind.i64 0, Value.string { data := { toList := [] } }, Value.slice none 0 0, Value.slice none 0 0, Value.slice none 0 0, Value.int IntKind.i64 0, Value.slice none 0 0, Value.string { data := { toList := [] } }] }, Value.bool false] }], [], 0, 0⟩ ∧
  tiOf Tryd.prog 52 = ⟨TK.other, 1, 8, some [Value.nilFunc], [], 0, 0⟩ ∧
  tiOf Tryd.prog 53 = ⟨TK.ptr, 1, 8, some [Value.pointer none], [], 55, 0⟩ ∧
  tiOf Tryd.prog 54 = ⟨TK.struct, 2, 32, some [Value.pointer none, Value.slice none 0 0], [(0, 1, TK.ptr), (1, 1, TK.slice)], 0, 0⟩ ∧
  tiOf Tryd.prog 55 = ⟨TK.struct, 2, 32, some [Value.pointer none, Value.slice none 0 0], [(0, 1, TK.ptr), (1, 1, TK.slice)], 0, 0⟩ ∧
  tiOf Tryd.prog 56 = ⟨TK.other, 1, 0, some [Value.tuple { toList := [Value.string { data := { toList := [] } }, Value.bool false] }], [], 0, 0⟩ ∧
  tiOf Tryd.prog 57 = ⟨TK.other, 1, 8, some [Value.nilFunc], [], 0, 0⟩ ∧
  tiOf Tryd.prog 58 = ⟨TK.iface, 1, 16, some [Value.nilIface], [], 0, 0⟩ ∧
  tiOf Tryd.prog 59 = ⟨TK.iface, 1, 16, some [Value.nilIface], [], 0, 0⟩ ∧
  tiOf Tryd.prog 60 = ⟨TK.other, 1, 0, some [Value.tuple { toList := [Value.int IntKind.i64 0, Value.nilIface] }], [], 0, 0⟩ ∧
  tiOf Tryd.prog 61 = ⟨TK.other, 1, 8, some [Value.nilFunc], [], 0, 0⟩ ∧
  tiOf Tryd.prog 62 = ⟨TK.other, 1, 8, some [Value.nilFunc], [], 0, 0⟩ ∧
  tiOf Tryd.prog 63 = ⟨TK.other, 1, 8, some [Value.nilFunc], [], 0, 0⟩ :=
  ⟨by kernel_rfl, by kernel_rfl, by kernel_rfl, by kernel_rfl, by kernel_rfl, by kernel_rfl, by kernel_rfl, by kernel_rfl, by kernel_rfl, by kernel_rfl, by kernel_rfl, by kernel_rfl, by kernel_rfl, by kernel_rfl, by kernel_rfl, by kernel_rfl⟩
theorem tis4 : tiOf Tryd.prog 64 = ⟨TK.slice, 1, 24, some [Value.slice none 0 0], [], 9, 0⟩ ∧
  tiOf Tryd.prog 65 = ⟨TK.int IntKind.u64, 1, 8, some [Value.int IntKind.u64 0], [], 0, 0⟩ ∧
  tiOf Tryd.prog 66 = ⟨TK.other, 1, 8, some [Value.nilFunc], [], 0, 0⟩ ∧
  tiOf Tryd.prog 67 = ⟨TK.other, 1, 8, some [Value.nilFunc], [], 0, 0⟩ ∧
  tiOf Tryd.prog 68 = ⟨TK.other, 1, 8, some [Value.nilFunc], [], 0, 0⟩ ∧
  tiOf Tryd.prog 69 = ⟨TK.struct, 4, 48, some [Value.string { data := { toList := [] } }, Value.int IntKind.i64 0, Value.int IntKind.i64 0, Value.string { data := { toList := [] } }], [(0, 1, TK.str), (1, 1, TK.int IntKind.i64), (2, 1, TK.int IntKind.i64), (3, 1, TK.str)], 0, 0⟩ ∧
  tiOf Tryd.prog 70 = ⟨TK.struct, 4, 48, some [Value.string { data := { toList := [] } }, Value.int IntKind.i64 0, Value.int IntKind.i64 0, Value.string { data := { toList := [] } }], [(0, 1, TK.str), (1, 1, TK.int IntKind.i64), (2, 1, TK.int IntKind.i64), (3, 1, TK.str)], 0, 0⟩ ∧
  tiOf Tryd.prog 71 = ⟨TK.array, 100, 1200, some z71, [], 70, 25⟩ ∧
  tiOf Tryd.prog 72 = ⟨TK.other, 1, 8, some [Value.nilFunc], [], 0, 0⟩ ∧
  tiOf Tryd.prog 73 = ⟨TK.ptr, 1, 8, some [Value.pointer none], [], 43, 0⟩ ∧
  tiOf Tryd.prog 74 = ⟨TK.other, 1, 8, some [Value.nilFunc], [], 0, 0⟩ ∧
  tiOf Tryd.prog 75 = ⟨TK.ptr, 1, 8, some [Value.pointer none], [], 5, 0⟩ ∧
  tiOf Tryd.prog 76 = ⟨TK.slice, 1, 24, some [Value.slice none 0 0], [], 80, 0⟩ ∧
  tiOf Tryd.prog 77 = ⟨TK.other, 1, 8, some [Value.nilFunc], [], 0, 0⟩ ∧
  tiOf Tryd.prog 78 = ⟨TK.other, 1, 8, some [Value.nilFunc], [], 0, 0⟩ ∧
  tiOf Tryd.prog 79 = ⟨TK.struct, 5, 56, some [Value.int IntKind.i64 0, Value.string { data := { toList := [] } }, Value.string { data := { toList := [] } }, Value.bool false, Value.int IntKind.i64 0], [(0, 1, TK.int IntKind.i64), (1, 1, TK.str), (2, 1, TK.str), (3, 1, TK.bool), (4, 1, TK.int IntKind.i64)], 0, 0⟩ :=
  ⟨by kernel_rfl, by kernel_rfl, by kernel_rfl, by kernel_rfl, by kernel_rfl, by kernel_rfl, by kernel_rfl, by kernel_rfl, by kernel_rfl, by kernel_rfl, by kernel_rfl, by kernel_rfl, by kernel_rfl, by kernel_rfl, by kernel_rfl, by kernel_rfl⟩
theorem tis5 : tiOf Tryd.prog 80 = ⟨TK.struct, 5, 56, some [Value.int IntKind.i64 0, Value.string { data := { toList := [] } }, Value.string { data := { toList := [] } }, Value.bool false, Value.int IntKind.i64 0], [(0, 1, TK.int IntKind.i64), (1, 1, TK.str), (2, 1, TK.str), (3, 1, TK.bool), (4, 1, TK.int IntKind.i64)], 0, 0⟩ ∧
  tiOf Tryd.prog 81 = ⟨TK.other, 1, 8, some [Value.nilFunc], [], 0, 0⟩ ∧
  tiOf Tryd.prog 82 = ⟨TK.other, 1, 0, some [Value.tuple { toList := [Value.int IntKind.i64 0, Value.bool false] }], [], 0, 0⟩ ∧
  tiOf Tryd.prog 83 = ⟨TK.other, 1, 8, some [Value.nilFunc], [], 0, 0⟩ ∧
  tiOf Tryd.prog 84 = ⟨TK.array, 7, 112, some [Value.string { data := { toList := [] } }, Value.string { data := { toList := [] } }, Value.string { data := { toList := [] } }, Value.string { data := { toList := [] } }, Value.string { data := { toList := [] } }, Value.string { data := { toList := [] } }, Value.string { data := { toList := [] } }], [], 9, 7⟩ ∧
  tiOf Tryd.prog 85 = ⟨TK.array, 4, 64, some [Value.string { data := { toList := [] } }, Value.string { data := { toList := [] } }, Value.string { data := { toList := [] } }, Value.string { data := { toList := [] } }], [], 9, 4⟩ ∧
  tiOf Tryd.prog 86 = ⟨TK.ptr, 1, 8, some [Value.pointer none], [], 3, 0⟩ ∧
  tiOf Tryd.prog 87 = ⟨TK.other, 1, 8, some [Value.nilFunc], [], 0, 0⟩ ∧
  tiOf Tryd.prog 88 = ⟨TK.uptr, 1, 8, some [Value.pointer none], [], 0, 0⟩ ∧
  tiOf Tryd.prog 89 = ⟨TK.other, 1, 8, some [Value.nilFunc], [], 0, 0⟩ ∧
  tiOf Tryd.prog 90 = ⟨TK.other, 1, 8, some [Value.nilFunc], [], 0, 0⟩ ∧
  tiOf Tryd.prog 91 = ⟨TK.other, 1, 8, some [Value.nilFunc], [], 0, 0⟩ ∧
  tiOf Tryd.prog 92 = ⟨TK.other, 1, 8, some [Value.nilFunc], [], 0, 0⟩ ∧
  tiOf Tryd.prog 93 = ⟨TK.other, 1, 8, some [Value.nilFunc], [], 0, 0⟩ ∧
  tiOf Tryd.prog 94 = ⟨TK.other, 1, 8, some [Value.nilFunc], [], 0, 0⟩ ∧
  tiOf Tryd.prog 95 = ⟨TK.int IntKind.u32, 1, 4, some [Value.int IntKind.u32 0], [], 0, 0⟩ :=
  ⟨by kernel_rfl, by kernel_rfl, by kernel_rfl, by kernel_rfl, by kernel_rfl, by kernel_rfl, by kernel_rfl, by kernel_rfl, by kernel_rfl, by kernel_rfl, by kernel_rfl, by kernel_rfl, by kernel_rfl, by kernel_rfl, by kernel_rfl, by kernel_rfl⟩
theorem tis6 : tiOf Tryd.prog 96 = ⟨TK.other, 1, 0, some [Value.tuple { toList := [Value.int IntKind.u32 0, Value.int IntKind.u32 0] }], [], 0, 0⟩ ∧
  tiOf Tryd.prog 97 = ⟨TK.other, 1, 8, some [Value.nilFunc], [], 0, 0⟩ ∧
  tiOf Tryd.prog 98 = ⟨TK.other, 1, 8, some [Value.nilFunc], [], 0, 0⟩ ∧
  tiOf Tryd.prog 99 = ⟨TK.array, 24, 24, some [Value.int IntKind.u8 0, Value.int IntKind.u8 0, Value.int IntKind.u8 0, Value.int IntKind.u8 0, Value.int IntKind.u8 0, Value.int IntKind.u8 0, Value.int IntKind.u8 0, Value.int IntKind.u8 0, Value.int IntKind.u8 0, Value.int IntKind.u8 0, Value.int IntKind.u8 0, Value.int IntKind.u8 0, Value.int IntKind.u8 0, Value.int IntKind.u8 0, Value.int IntKind.u8 0, Value.int IntKind.u8 0, Value.int IntKind.u8 0, Value.int IntKind.u8 0, Value.int IntKind.u8 0, Value.int IntKind.u8 0, Value.int IntKind.u8 0, Value.int IntKind.u8 0, Value.int IntKind.u8 0, Value.int IntKind.u8 0], [], 5, 24⟩ ∧
  tiOf Tryd.prog 100 = ⟨TK.int IntKind.u64, 1, 8, some [Value.int IntKind.u64 0], [], 0, 0⟩ ∧
  tiOf Tryd.prog 101 = ⟨TK.other, 1, 8, some [Value.nilFunc], [], 0, 0⟩ ∧
  tiOf Tryd.prog 102 = ⟨TK.other, 1, 8, some [Value.nilFunc], [], 0, 0⟩ ∧
  tiOf Tryd.prog 103 = ⟨TK.other, 1, 0, some [Value.tuple { toList := [Value.slice none 0 0, Value.string { data := { toList := [] } }] }], [], 0, 0⟩ ∧
  tiOf Tryd.prog 104 = ⟨TK.other, 1, 8, some [Value.nilFunc], [], 0, 0⟩ ∧
  tiOf Tryd.prog 105 = ⟨TK.other, 1, 8, some [Value.nilFunc], [], 0, 0⟩ ∧
  tiOf Tryd.prog 106 = ⟨TK.array, 20, 160, some [Value.int IntKind.u64 0, Value.int IntKind.u64 0, Value.int IntKind.u64 0, Value.int IntKind.u64 0, Value.int IntKind.u64 0, Value.int IntKind.u64 0, Value.int IntKind.u64 0, Value.int IntKind.u64 0, Value.int IntKind.u64 0, Value.int IntKind.u64 0, Value.int IntKind.u64 0, Value.int IntKind.u64 0, Value.int IntKind.u64 0, Value.int IntKind.u64 0, Value.int IntKind.u64 0, Value.int IntKind.u64 0, Value.int IntKind.u64 0, Value.int IntKind.u64 0, Value.int IntKind.u64 0, Value.int IntKind.u64 0], [], 100, 20⟩ ∧
  tiOf Tryd.prog 107 = ⟨TK.array, 65, 65, some [Value.int IntKind.u8 0, Value.int IntKind.u8 0, Value.int IntKind.u8 0, Value.int IntKind.u8 0, Value.int IntKind.u8 0, Value.int IntKind.u8 0, Value.int IntKind.u8 0, Value.int IntKind.u8 0, Value.int IntKind.u8 0, Value.int IntKind.u8 0, Value.int IntKind.u8 0, Value.int IntKind.u8 0, Value.int IntKind.u8 0, Value.int IntKind.u8 0, Value.int IntKind.u8 0, Value.int IntKind.u8 0, Value.int IntKind.u8 0, Value.int IntKind.u8 0, Value.int IntKind.u8 0, Value.int IntKind.u8 0, Value.int IntKind.u8 0, Value.int IntKind.u8 0, Value.int IntKind.u8 0, Value.int IntKind.u8 0, Value.int IntKind.u8 0, Value.int IntKind.u8 0, Value.int IntKind.u8 0, Value.int IntKind.u8 0, Value.int IntKind.u8 0, Value.int IntKind.u8 0, Value.int IntKind.u8 0, Value.int IntKind.u8 0, Value.int IntKind.u8 0, Value.int IntKind.u8 0, Value.int IntKind.u8 0, Value.int IntKind.u8 0, Value.int IntKind.u8 0, Value.int IntKind.u8 0, Value.int IntKind.u8 0, Value.int IntKind.u8 0, Value.int IntKind.u8 0, Value.int IntKind.u8 0, Value.int IntKind.u8 0, Value.int IntKind.u8 0, Value.int IntKind.u8 0, Value.int IntKind.u8 0, Value.int IntKind.u8 0, Value.int IntKind.u8 0, Value.int IntKind.u8 0, Value.int IntKind.u8 0, Value.int IntKind.u8 0, Value.int IntKind.u8 0, Value.int IntKind.u8 0, Value.int IntKind.u8 0, Value.int IntKind.u8 0, Value.int IntKind.u8 0, Value.int IntKind.u8 0, Value.int IntKind.u8 0, Value.int IntKind.u8 0, Value.int IntKind.u8 0, Value.int IntKind.u8 0, Value.int IntKind.u8 0, Value.int IntKind.u8 0, Value.int IntKind.u8 0, Value.int IntKind.u8 0], [], 5, 65⟩ ∧
  tiOf Tryd.prog 108 = ⟨TK.other, 1, 8, some [Value.nilFunc], [], 0, 0⟩ ∧
  tiOf Tryd.prog 109 = ⟨TK.other, 1, 8, some [Value.nilFunc], [], 0, 0⟩ ∧
  tiOf Tryd.prog 110 = ⟨TK.other, 1, 8, some [Value.nilFunc], [], 0, 0⟩ ∧
  tiOf Tryd.prog 111 = ⟨TK.array, 32, 32, some [Value.int IntKind.u8 0, Value.int IntKind.u8 0, Value.int IntKind.u8 0, Value.int IntKind.u8 0, Value.int IntKind.u8 0, Value.int IntKind.u8 0, Value.int IntKind.u8 0, Value.int IntKind.u8 0, Value.int IntKind.u8 0, Value.int IntKind.u8 0, Value.int IntKind.u8 0, Value.int IntKind.u8 0, Value.int IntKind.u8 0, Value.int IntKind.u8 0, Value.int IntKind.u8 0, Value.int IntKind.u8 0, Value.int IntKind.u8 0, Value.int IntKind.u8 0, Value.int IntKind.u8 0, Value.int IntKind.u8 0, Value.int IntKind.u8 0, Value.int IntKind.u8 0, Value.int IntKind.u8 0, Value.int IntKind.u8 0, Value.int IntKind.u8 0, Value.int IntKind.u8 0, Value.int IntKind.u8 0, Value.int IntKind.u8 0, Value.int IntKind.u8 0, Value.int IntKind.u8 0, Value.int IntKind.u8 0, Value.int IntKind.u8 0], [], 5, 32⟩ :=
  ⟨by kernel_rfl, by kernel_rfl, by kernel_rfl, by kernel_rfl, by kernel_rfl, by kernel_rfl, by kernel_rfl, by kernel_rfl, by kernel_rfl, by kernel_rfl, by kernel_rfl, by kernel_rfl, by kernel_rfl, by kernel_rfl, by kernel_rfl, by kernel_rfl⟩
theorem tis7 : tiOf Tryd.prog 112 = ⟨TK.array, 64, 64, some [Value.int IntKind.u8 0, Value.int IntKind.u8 0, Value.int IntKind.u8 0, Value.int IntKind.u8 0, Value.int IntKind.u8 0, Value.int IntKind.u8 0, Value.int IntKind.u8 0, Value.int IntKind.u8 0, Value.int IntKind.u8 0, Value.int IntKind.u8 0, Value.int IntKind.u8 0, Value.int IntKind.u8 0, Value.int IntKind.u8 0, Value.int IntKind.u8 0, Value.int IntKind.u8 0, Value.int IntKind.u8 0, Value.int IntKind.u8 0, Value.int IntKind.u8 0, Value.int IntKind.u8 0, Value.int IntKind.u8 0, Value.int IntKind.u8 0, Value.int IntKind.u8 0, Value.int IntKind.u8 0, Value.int IntKind.u8 0, Value.int IntKind.u8 0, Value.int IntKind.u8 0, Value.int IntKind.u8 0, Value.int IntKind.u8 0, Value.int IntKind.u8 0, Value.int IntKind.u8 0, Value.int IntKind.u8 0, Value.int IntKind.u8 0, Value.int IntKind.u8 0, Value.int IntKind.u8 0, Value.int IntKind.u8 0, Value.int IntKind.u8 0, Value.int IntKind.u8 0, Value.int IntKind.u8 0, Value.int IntKind.u8 0, Value.int IntKind.u8 0, Value.int IntKind.u8 0, Value.int IntKind.u8 0, Value.int IntKind.u8 0, Value.int IntKind.u8 0, Value.int IntKind.u8 0, Value.int IntKind.u8 0, Value.int IntKind.u8 0, Value.int IntKind.u8 0, Value.int IntKind.u8 0, Value.int IntKind.u8 0, Value.int IntKind.u8 0, Value.int IntKind.u8 0, Value.int IntKind.u8 0, Value.int IntKind.u8 0, Value.int IntKind.u8 0, Value.int IntKind.u8 0, Value.int IntKind.u8 0, Value.int IntKind.u8 0, Value.int IntKind.u8 0, Value.int IntKind.u8 0, Value.int IntKind.u8 0, Value.int IntKind.u8 0, Value.int IntKind.u8 0, Value.int IntKind.u8 0], [], 5, 64⟩ ∧
  tiOf Tryd.prog 113 = ⟨TK.struct, 4, 40, some [Value.pointer none, Value.pointer none, Value.pointer none, Value.string { data := { toList := [] } }], [(0, 1, TK.ptr), (1, 1, TK.ptr), (2, 1, TK.ptr), (3, 1, TK.str)], 0, 0⟩ ∧
  tiOf Tryd.prog 114 = ⟨TK.struct, 4, 40, some [Value.pointer none, Value.pointer none, Value.pointer none, Value.string { data := { toList := [] } }], [(0, 1, TK.ptr), (1, 1, TK.ptr), (2, 1, TK.ptr), (3, 1, TK.str)], 0, 0⟩ ∧
  tiOf Tryd.prog 115 = ⟨TK.array, 0, 0, some [], [], 16, 0⟩ ∧
  tiOf Tryd.prog 116 = ⟨TK.struct, 0, 0, some [], [(0, 0, TK.array)], 0, 0⟩ ∧
  tiOf Tryd.prog 117 = ⟨TK.struct, 0, 0, some [], [(0, 0, TK.array)], 0, 0⟩ ∧
  tiOf Tryd.prog 118 = ⟨TK.other, 1, 8, some [Value.nilFunc], [], 0, 0⟩ ∧
  tiOf Tryd.prog 119 = ⟨TK.int IntKind.u8, 1, 1, some [Value.int IntKind.u8 0], [], 0, 0⟩ ∧
  tiOf Tryd.prog 120 = ⟨TK.int IntKind.u8, 1, 1, some [Value.int IntKind.u8 0], [], 0, 0⟩ ∧
  tiOf Tryd.prog 121 = ⟨TK.other, 1, 8, some [Value.nilFunc], [], 0, 0⟩ ∧
  tiOf Tryd.prog 122 = ⟨TK.int IntKind.i32, 1, 4, some [Value.int IntKind.i32 0], [], 0, 0⟩ ∧
  tiOf Tryd.prog 123 = ⟨TK.int IntKind.i32, 1, 4, some [Value.int IntKind.i32 0], [], 0, 0⟩ ∧
  tiOf Tryd.prog 124 = ⟨TK.struct, 11, 48, some [Value.int IntKind.u64 0, Value.int IntKind.u64 0, Value.int IntKind.u32 0, Value.int IntKind.u8 0, Value.int IntKind.u8 0, Value.int IntKind.u8 0, Value.int IntKind.u8 0, Value.nilFunc, Value.pointer none, Value.int IntKind.i32 0, Value.int IntKind.i32 0], [(0, 1, TK.int IntKind.u64), (1, 1, TK.int IntKind.u64), (2, 1, TK.int IntKind.u32), (3, 1, TK.int IntKind.u8), (4, 1, TK.int IntKind.u8), (5, 1, TK.int IntKind.u8), (6, 1, TK.int IntKind.u8), (7, 1, TK.other), (8, 1, TK.ptr), (9, 1, TK.int IntKind.i32), (10, 1, TK.int IntKind.i32)], 0, 0⟩ ∧
  tiOf Tryd.prog 125 = ⟨TK.struct, 11, 48, some [Value.int IntKind.u64 0, Value.int IntKind.u64 0, Value.int IntKind.u32 0, Value.int IntKind.u8 0, Value.int IntKind.u8 0, Value.int IntKind.u8 0, Value.int IntKind.u8 0, Value.nilFunc, Value.pointer none, Value.int IntKind.i32 0, Value.int IntKind.i32 0], [(0, 1, TK.int IntKind.u64), (1, 1, TK.int IntKind.u64), (2, 1, TK.int IntKind.u32), (3, 1, TK.int IntKind.u8), (4, 1, TK.int IntKind.u8), (5, 1, TK.int IntKind.u8), (6, 1, TK.int IntKind.u8), (7, 1, TK.other), (8, 1, TK.ptr), (9, 1, TK.int IntKind.i32), (10, 1, TK.int IntKind.i32)], 0, 0⟩ :=
  ⟨by kernel_rfl, by kernel_rfl, by kernel_rfl, by kernel_rfl, by kernel_rfl, by kernel_rfl, by kernel_rfl, by kernel_rfl, by kernel_rfl, by kernel_rfl, by kernel_rfl, by kernel_rfl, by kernel_rfl, by kernel_rfl⟩
theorem eqts : eqT Tryd.prog 7 = true ∧
  eqT Tryd.prog 8 = true ∧
  eqT Tryd.prog 15 = true ∧
  eqT Tryd.prog 16 = true ∧
  eqT Tryd.prog 17 = true ∧
  eqT Tryd.prog 24 = true ∧
  eqT Tryd.prog 38 = true ∧
  eqT Tryd.prog 39 = true ∧
  eqT Tryd.prog 40 = true ∧
  eqT Tryd.prog 41 = true ∧
  eqT Tryd.prog 42 = true ∧
  eqT Tryd.prog 43 = true ∧
  eqT Tryd.prog 44 = true ∧
  eqT Tryd.prog 45 = true ∧
  eqT Tryd.prog 53 = true ∧
  eqT Tryd.prog 54 = true ∧
  eqT Tryd.prog 55 = true ∧
  eqT Tryd.prog 69 = true ∧
  eqT Tryd.prog 70 = true ∧
  eqT Tryd.prog 73 = true ∧
  eqT Tryd.prog 75 = true ∧
  eqT Tryd.prog 79 = true ∧
  eqT Tryd.prog 80 = true ∧
  eqT Tryd.prog 86 = true :=
  ⟨by kernel_rfl, by kernel_rfl, by kernel_rfl, by kernel_rfl, by kernel_rfl, by kernel_rfl, by kernel_rfl, by kernel_rfl, by kernel_rfl, by kernel_rfl, by kernel_rfl, by kernel_rfl, by kernel_rfl, by kernel_rfl, by kernel_rfl, by kernel_rfl, by kernel_rfl, by kernel_rfl, by kernel_rfl, by kernel_rfl, by kernel_rfl, by kernel_rfl, by kernel_rfl, by kernel_rfl⟩
end Go.Proofs.YthdhbdjhjfflnaaDoor

/- What the executor asks of each type of the program: closed facts, written by a program (ti.sh). -/
import Derived.Test.YtcnpgmlkocbhkaaGreatAbsS
import Derived.Test.YtcnpgmlkocbhkaaGreatProg
import Derived.KernelRfl
namespace Go.Proofs.YtcnpgmlkocbhkaaGreat
open Go Go.Abs
set_option maxRecDepth 100000
theorem tis0 : tiOf Tryz.prog 0 = ⟨TK.other, 1, 0, some [Value.tuple { toList := [] }], [], 0, 0⟩ ∧
  tiOf Tryz.prog 1 = ⟨TK.other, 1, 8, some [Value.nilFunc], [], 0, 0⟩ ∧
  tiOf Tryz.prog 2 = ⟨TK.int IntKind.i64, 1, 8, some [Value.int IntKind.i64 0], [], 0, 0⟩ ∧
  tiOf Tryz.prog 3 = ⟨TK.int IntKind.i64, 1, 8, some [Value.int IntKind.i64 0], [], 0, 0⟩ ∧
  tiOf Tryz.prog 4 = ⟨TK.bool, 1, 1, some [Value.bool false], [], 0, 0⟩ ∧
  tiOf Tryz.prog 5 = ⟨TK.int IntKind.u8, 1, 1, some [Value.int IntKind.u8 0], [], 0, 0⟩ ∧
  tiOf Tryz.prog 6 = ⟨TK.int IntKind.u8, 1, 1, some [Value.int IntKind.u8 0], [], 0, 0⟩ ∧
  tiOf Tryz.prog 7 = ⟨TK.struct, 4, 24, some [Value.int IntKind.i64 0, Value.int IntKind.i64 0, Value.bool false, Value.int IntKind.u8 0], [(0, 1, TK.int IntKind.i64), (1, 1, TK.int IntKind.i64), (2, 1, TK.bool), (3, 1, TK.int IntKind.u8)], 0, 0⟩ ∧
  tiOf Tryz.prog 8 = ⟨TK.struct, 4, 24, some [Value.int IntKind.i64 0, Value.int IntKind.i64 0, Value.bool false, Value.int IntKind.u8 0], [(0, 1, TK.int IntKind.i64), (1, 1, TK.int IntKind.i64), (2, 1, TK.bool), (3, 1, TK.int IntKind.u8)], 0, 0⟩ ∧
  tiOf Tryz.prog 9 = ⟨TK.str, 1, 16, some [Value.string { data := { toList := [] } }], [], 0, 0⟩ ∧
  tiOf Tryz.prog 10 = ⟨TK.str, 1, 16, some [Value.string { data := { toList := [] } }], [], 0, 0⟩ ∧
  tiOf Tryz.prog 11 = ⟨TK.str, 1, 16, some [Value.string { data := { toList := [] } }], [], 0, 0⟩ ∧
  tiOf Tryz.prog 12 = ⟨TK.int IntKind.u64, 1, 8, some [Value.int IntKind.u64 0], [], 0, 0⟩ ∧
  tiOf Tryz.prog 13 = ⟨TK.struct, 2, 24, some [Value.string { data := { toList := [] } }, Value.int IntKind.u64 0], [(0, 1, TK.str), (1, 1, TK.int IntKind.u64)], 0, 0⟩ ∧
  tiOf Tryz.prog 14 = ⟨TK.struct, 2, 24, some [Value.string { data := { toList := [] } }, Value.int IntKind.u64 0], [(0, 1, TK.str), (1, 1, TK.int IntKind.u64)], 0, 0⟩ ∧
  tiOf Tryz.prog 15 = ⟨TK.ptr, 1, 8, some [Value.pointer none], [], 162, 0⟩ ∧
  tiOf Tryz.prog 16 = ⟨TK.ptr, 1, 8, some [Value.pointer none], [], 165, 0⟩ ∧
  tiOf Tryz.prog 17 = ⟨TK.ptr, 1, 8, some [Value.pointer none], [], 174, 0⟩ ∧
  tiOf Tryz.prog 18 = ⟨TK.struct, 1, 8, some [Value.pointer none], [(0, 1, TK.ptr)], 0, 0⟩ ∧
  tiOf Tryz.prog 19 = ⟨TK.struct, 1, 8, some [Value.pointer none], [(0, 1, TK.ptr)], 0, 0⟩ ∧
  tiOf Tryz.prog 20 = ⟨TK.iface, 1, 16, some [Value.nilIface], [], 0, 0⟩ ∧
  tiOf Tryz.prog 21 = ⟨TK.int IntKind.i32, 1, 4, some [Value.int IntKind.i32 0], [], 0, 0⟩ ∧
  tiOf Tryz.prog 22 = ⟨TK.slice, 1, 24, some [Value.slice none 0 0], [], 3, 0⟩ :=
  ⟨by kernel_rfl, by kernel_rfl, by kernel_rfl, by kernel_rfl, by kernel_rfl, by kernel_rfl, by kernel_rfl, by kernel_rfl, by kernel_rfl, by kernel_rfl, by kernel_rfl, by kernel_rfl, by kernel_rfl, by kernel_rfl, by kernel_rfl, by kernel_rfl, by kernel_rfl, by kernel_rfl, by kernel_rfl, by kernel_rfl, by kernel_rfl, by kernel_rfl, by kernel_rfl⟩
theorem tis1 : tiOf Tryz.prog 23 = ⟨TK.slice, 1, 24, some [Value.slice none 0 0], [], 5, 0⟩ ∧
  tiOf Tryz.prog 24 = ⟨TK.struct, 2, 32, some [Value.int IntKind.i64 0, Value.slice none 0 0], [(0, 1, TK.int IntKind.i64), (1, 1, TK.slice)], 0, 0⟩ ∧
  tiOf Tryz.prog 25 = ⟨TK.struct, 2, 32, some [Value.int IntKind.i64 0, Value.slice none 0 0], [(0, 1, TK.int IntKind.i64), (1, 1, TK.slice)], 0, 0⟩ ∧
  tiOf Tryz.prog 26 = ⟨TK.struct, 6, 64, some [Value.int IntKind.i64 0, Value.slice none 0 0, Value.int IntKind.i64 0, Value.int IntKind.i64 0, Value.int IntKind.i64 0, Value.bool false], [(0, 2, TK.struct), (2, 1, TK.int IntKind.i64), (3, 1, TK.int IntKind.i64), (4, 1, TK.int IntKind.i64), (5, 1, TK.bool)], 0, 0⟩ ∧
  tiOf Tryz.prog 27 = ⟨TK.struct, 6, 64, some [Value.int IntKind.i64 0, Value.slice none 0 0, Value.int IntKind.i64 0, Value.int IntKind.i64 0, Value.int IntKind.i64 0, Value.bool false], [(0, 2, TK.struct), (2, 1, TK.int IntKind.i64), (3, 1, TK.int IntKind.i64), (4, 1, TK.int IntKind.i64), (5, 1, TK.bool)], 0, 0⟩ ∧
  tiOf Tryz.prog 28 = ⟨TK.slice, 1, 24, some [Value.slice none 0 0], [], 43, 0⟩ ∧
  tiOf Tryz.prog 29 = ⟨TK.struct, 7, 88, some [Value.int IntKind.i64 0, Value.slice none 0 0, Value.int IntKind.i64 0, Value.int IntKind.i64 0, Value.int IntKind.i64 0, Value.bool false, Value.slice none 0 0], [(0, 6, TK.struct), (6, 1, TK.slice)], 0, 0⟩ ∧
  tiOf Tryz.prog 30 = ⟨TK.struct, 7, 88, some [Value.int IntKind.i64 0, Value.slice none 0 0, Value.int IntKind.i64 0, Value.int IntKind.i64 0, Value.int IntKind.i64 0, Value.bool false, Value.slice none 0 0], [(0, 6, TK.struct), (6, 1, TK.slice)], 0, 0⟩ ∧
  tiOf Tryz.prog 31 = ⟨TK.other, 1, 8, some [Value.nilFunc], [], 0, 0⟩ ∧
  tiOf Tryz.prog 32 = ⟨TK.int IntKind.i64, 1, 8, some [Value.int IntKind.i64 0], [], 0, 0⟩ ∧
  tiOf Tryz.prog 33 = ⟨TK.other, 1, 0, some [Value.tuple { toList := [Value.agg { toList := [Value.int IntKind.i64 0, Value.slice none 0 0, Value.int IntKind.i64 0, Value.int IntKind.i64 0, Value.int IntKind.i64 0, Value.bool false, Value.slice none 0 0] }, Value.int IntKind.i64 0, Value.int IntKind.i64 0] }], [], 0, 0⟩ ∧
  tiOf Tryz.prog 34 = ⟨TK.other, 1, 8, some [Value.nilFunc], [], 0, 0⟩ ∧
  tiOf Tryz.prog 35 = ⟨TK.other, 1, 8, some [Value.nilFunc], [], 0, 0⟩ ∧
  tiOf Tryz.prog 36 = ⟨TK.int IntKind.u64, 1, 8, some [Value.int IntKind.u64 0], [], 0, 0⟩ ∧
  tiOf Tryz.prog 37 = ⟨TK.other, 1, 8, some [Value.nilFunc], [], 0, 0⟩ ∧
  tiOf Tryz.prog 38 = ⟨TK.other, 1, 8, some [Value.nilFunc], [], 0, 0⟩ ∧
  tiOf Tryz.prog 39 = ⟨TK.other, 1, 8, some [Value.nilFunc], [], 0, 0⟩ ∧
  tiOf Tryz.prog 40 = ⟨TK.other, 1, 8, some [Value.nilFunc], [], 0, 0⟩ ∧
  tiOf Tryz.prog 41 = ⟨TK.other, 1, 8, some [Value.nilFunc], [], 0, 0⟩ ∧
  tiOf Tryz.prog 42 = ⟨TK.struct, 2, 32, some [Value.int IntKind.i64 0, Value.slice none 0 0], [(0, 1, TK.int IntKind.i64), (1, 1, TK.slice)], 0, 0⟩ ∧
  tiOf Tryz.prog 43 = ⟨TK.struct, 2, 32, some [Value.int IntKind.i64 0, Value.slice none 0 0], [(0, 1, TK.int IntKind.i64), (1, 1, TK.slice)], 0, 0⟩ ∧
  tiOf Tryz.prog 44 = ⟨TK.other, 1, 8, some [Value.nilFunc], [], 0, 0⟩ ∧
  tiOf Tryz.prog 45 = ⟨TK.other, 1, 8, some [Value.nilFunc], [], 0, 0⟩ :=
  ⟨by kernel_rfl, by kernel_rfl, by kernel_rfl, by kernel_rfl, by kernel_rfl, by kernel_rfl, by kernel_rfl, by kernel_rfl, by kernel_rfl, by kernel_rfl, by kernel_rfl, by kernel_rfl, by kernel_rfl, by kernel_rfl, by kernel_rfl, by kernel_rfl, by kernel_rfl, by kernel_rfl, by kernel_rfl, by kernel_rfl, by kernel_rfl, by kernel_rfl, by kernel_rfl⟩
theorem tis2 : tiOf Tryz.prog 46 = ⟨TK.other, 1, 8, some [Value.nilFunc], [], 0, 0⟩ ∧
  tiOf Tryz.prog 47 = ⟨TK.other, 1, 8, some [Value.nilFunc], [], 0, 0⟩ ∧
  tiOf Tryz.prog 48 = ⟨TK.int IntKind.u16, 1, 2, some [Value.int IntKind.u16 0], [], 0, 0⟩ ∧
  tiOf Tryz.prog 49 = ⟨TK.other, 1, 8, some [Value.nilFunc], [], 0, 0⟩ ∧
  tiOf Tryz.prog 50 = ⟨TK.other, 1, 8, some [Value.nilFunc], [], 0, 0⟩ ∧
  tiOf Tryz.prog 51 = ⟨TK.other, 1, 8, some [Value.nilFunc], [], 0, 0⟩ ∧
  tiOf Tryz.prog 52 = ⟨TK.slice, 1, 24, some [Value.slice none 0 0], [], 48, 0⟩ ∧
  tiOf Tryz.prog 53 = ⟨TK.other, 1, 8, some [Value.nilFunc], [], 0, 0⟩ ∧
  tiOf Tryz.prog 54 = ⟨TK.other, 1, 0, some [Value.tuple { toList := [Value.agg { toList := [Value.int IntKind.i64 0, Value.slice none 0 0] }, Value.int IntKind.i64 0] }], [], 0, 0⟩ ∧
  tiOf Tryz.prog 55 = ⟨TK.other, 1, 8, some [Value.nilFunc], [], 0, 0⟩ ∧
  tiOf Tryz.prog 56 = ⟨TK.other, 1, 8, some [Value.nilFunc], [], 0, 0⟩ ∧
  tiOf Tryz.prog 57 = ⟨TK.other, 1, 8, some [Value.nilFunc], [], 0, 0⟩ ∧
  tiOf Tryz.prog 58 = ⟨TK.other, 1, 8, some [Value.nilFunc], [], 0, 0⟩ ∧
  tiOf Tryz.prog 59 = ⟨TK.other, 1, 0, some [Value.tuple { toList := [Value.agg { toList := [Value.int IntKind.i64 0, Value.slice none 0 0, Value.int IntKind.i64 0, Value.int IntKind.i64 0, Value.int IntKind.i64 0, Value.bool false] }, Value.int IntKind.i64 0, Value.int IntKind.i64 0] }], [], 0, 0⟩ ∧
  tiOf Tryz.prog 60 = ⟨TK.other, 1, 8, some [Value.nilFunc], [], 0, 0⟩ ∧
  tiOf Tryz.prog 61 = ⟨TK.other, 1, 8, some [Value.nilFunc], [], 0, 0⟩ ∧
  tiOf Tryz.prog 62 = ⟨TK.other, 1, 8, some [Value.nilFunc], [], 0, 0⟩ ∧
  tiOf Tryz.prog 63 = ⟨TK.slice, 1, 24, some [Value.slice none 0 0], [], 23, 0⟩ ∧
  tiOf Tryz.prog 64 = ⟨TK.other, 1, 8, some [Value.nilFunc], [], 0, 0⟩ ∧
  tiOf Tryz.prog 65 = ⟨TK.other, 1, 8, some [Value.nilFunc], [], 0, 0⟩ ∧
  tiOf Tryz.prog 66 = ⟨TK.other, 1, 8, some [Value.nilFunc], [], 0, 0⟩ ∧
  tiOf Tryz.prog 67 = ⟨TK.other, 1, 0, some [Value.tuple { toList := [Value.agg { toList := [Value.int IntKind.i64 0, Value.slice none 0 0, Value.int IntKind.i64 0, Value.int IntKind.i64 0, Value.int IntKind.i64 0, Value.bool false] }, Value.int IntKind.i64 0] }], [], 0, 0⟩ ∧
  tiOf Tryz.prog 68 = ⟨TK.other, 1, 8, some [Value.nilFunc], [], 0, 0⟩ :=
  ⟨by kernel_rfl, by kernel_rfl, by kernel_rfl, by kernel_rfl, by kernel_rfl, by kernel_rfl, by kernel_rfl, by kernel_rfl, by kernel_rfl, by kernel_rfl, by kernel_rfl, by kernel_rfl, by kernel_rfl, by kernel_rfl, by kernel_rfl, by kernel_rfl, by kernel_rfl, by kernel_rfl, by kernel_rfl, by kernel_rfl, by kernel_rfl, by kernel_rfl, by kernel_rfl⟩
theorem tis3 : tiOf Tryz.prog 69 = ⟨TK.other, 1, 8, some [Value.nilFunc], [], 0, 0⟩ ∧
  tiOf Tryz.prog 70 = ⟨TK.other, 1, 8, some [Value.nilFunc], [], 0, 0⟩ ∧
  tiOf Tryz.prog 71 = ⟨TK.other, 1, 8, some [Value.nilFunc], [], 0, 0⟩ ∧
  tiOf Tryz.prog 72 = ⟨TK.other, 1, 8, some [Value.nilFunc], [], 0, 0⟩ ∧
  tiOf Tryz.prog 73 = ⟨TK.other, 1, 8, some [Value.map none], [], 0, 0⟩ ∧
  tiOf Tryz.prog 74 = ⟨TK.other, 1, 8, some [Value.nilFunc], [], 0, 0⟩ ∧
  tiOf Tryz.prog 75 = ⟨TK.other, 1, 8, some [Value.nilFunc], [], 0, 0⟩ ∧
  tiOf Tryz.prog 76 = ⟨TK.other, 1, 8, some [Value.nilFunc], [], 0, 0⟩ ∧
  tiOf Tryz.prog 77 = ⟨TK.other, 1, 8, some [Value.nilFunc], [], 0, 0⟩ ∧
  tiOf Tryz.prog 78 = ⟨TK.other, 1, 8, some [Value.nilFunc], [], 0, 0⟩ ∧
  tiOf Tryz.prog 79 = ⟨TK.other, 1, 0, some [Value.tuple { toList := [Value.agg { toList := [Value.int IntKind.i64 0, Value.slice none 0 0] }, Value.int IntKind.i64 0, Value.int IntKind.i64 0] }], [], 0, 0⟩ ∧
  tiOf Tryz.prog 80 = ⟨TK.other, 1, 8, some [Value.nilFunc], [], 0, 0⟩ ∧
  tiOf Tryz.prog 81 = ⟨TK.other, 1, 8, some [Value.nilFunc], [], 0, 0⟩ ∧
  tiOf Tryz.prog 82 = ⟨TK.other, 1, 8, some [Value.nilFunc], [], 0, 0⟩ ∧
  tiOf Tryz.prog 83 = ⟨TK.other, 1, 8, some [Value.nilFunc], [], 0, 0⟩ ∧
  tiOf Tryz.prog 84 = ⟨TK.other, 1, 0, some [Value.tuple { toList := [Value.slice none 0 0, Value.bool false] }], [], 0, 0⟩ ∧
  tiOf Tryz.prog 85 = ⟨TK.other, 1, 8, some [Value.nilFunc], [], 0, 0⟩ ∧
  tiOf Tryz.prog 86 = ⟨TK.other, 1, 8, some [Value.nilFunc], [], 0, 0⟩ ∧
  tiOf Tryz.prog 87 = ⟨TK.other, 1, 8, some [Value.nilFunc], [], 0, 0⟩ ∧
  tiOf Tryz.prog 88 = ⟨TK.struct, 1, 8, some [Value.int IntKind.i64 0], [(0, 1, TK.int IntKind.i64)], 0, 0⟩ ∧
  tiOf Tryz.prog 89 = ⟨TK.struct, 1, 8, some [Value.int IntKind.i64 0], [(0, 1, TK.int IntKind.i64)], 0, 0⟩ ∧
  tiOf Tryz.prog 90 = ⟨TK.struct, 3, 40, some [Value.int IntKind.i64 0, Value.int IntKind.i64 0, Value.slice none 0 0], [(0, 1, TK.int IntKind.i64), (1, 1, TK.int IntKind.i64), (2, 1, TK.slice)], 0, 0⟩ ∧
  tiOf Tryz.prog 91 = ⟨TK.struct, 3, 40, some [Value.int IntKind.i64 0, Value.int IntKind.i64 0, Value.slice none 0 0], [(0, 1, TK.int IntKind.i64), (1, 1, TK.int IntKind.i64), (2, 1, TK.slice)], 0, 0⟩ :=
  ⟨by kernel_rfl, by kernel_rfl, by kernel_rfl, by kernel_rfl, by kernel_rfl, by kernel_rfl, by kernel_rfl, by kernel_rfl, by kernel_rfl, by kernel_rfl, by kernel_rfl, by kernel_rfl, by kernel_rfl, by kernel_rfl, by kernel_rfl, by kernel_rfl, by kernel_rfl, by kernel_rfl, by kernel_rfl, by kernel_rfl, by kernel_rfl, by kernel_rfl, by kernel_rfl⟩
theorem tis4 : tiOf Tryz.prog 92 = ⟨TK.other, 1, 8, some [Value.nilFunc], [], 0, 0⟩ ∧
  tiOf Tryz.prog 93 = ⟨TK.other, 1, 8, some [Value.nilFunc], [], 0, 0⟩ ∧
  tiOf Tryz.prog 94 = ⟨TK.other, 1, 8, some [Value.nilFunc], [], 0, 0⟩ ∧
  tiOf Tryz.prog 95 = ⟨TK.other, 1, 0, some [Value.tuple { toList := [Value.slice none 0 0, Value.int IntKind.i64 0] }], [], 0, 0⟩ ∧
  tiOf Tryz.prog 96 = ⟨TK.other, 1, 8, some [Value.nilFunc], [], 0, 0⟩ ∧
  tiOf Tryz.prog 97 = ⟨TK.other, 1, 8, some [Value.nilFunc], [], 0, 0⟩ ∧
  tiOf Tryz.prog 98 = ⟨TK.other, 1, 8, some [Value.nilFunc], [], 0, 0⟩ ∧
  tiOf Tryz.prog 99 = ⟨TK.other, 1, 8, some [Value.nilFunc], [], 0, 0⟩ ∧
  tiOf Tryz.prog 100 = ⟨TK.other, 1, 8, some [Value.nilFunc], [], 0, 0⟩ ∧
  tiOf Tryz.prog 102 = ⟨TK.other, 1, 8, some [Value.nilFunc], [], 0, 0⟩ ∧
  tiOf Tryz.prog 103 = ⟨TK.other, 1, 8, some [Value.nilFunc], [], 0, 0⟩ ∧
  tiOf Tryz.prog 104 = ⟨TK.other, 1, 8, some [Value.nilFunc], [], 0, 0⟩ ∧
  tiOf Tryz.prog 105 = ⟨TK.other, 1, 8, some [Value.nilFunc], [], 0, 0⟩ ∧
  tiOf Tryz.prog 106 = ⟨TK.other, 1, 8, some [Value.nilFunc], [], 0, 0⟩ ∧
  tiOf Tryz.prog 107 = ⟨TK.other, 1, 8, some [Value.nilFunc], [], 0, 0⟩ ∧
  tiOf Tryz.prog 108 = ⟨TK.int IntKind.u64, 1, 8, some [Value.int IntKind.u64 0], [], 0, 0⟩ ∧
  tiOf Tryz.prog 109 = ⟨TK.other, 1, 8, some [Value.nilFunc], [], 0, 0⟩ ∧
  tiOf Tryz.prog 110 = ⟨TK.other, 1, 8, some [Value.nilFunc], [], 0, 0⟩ ∧
  tiOf Tryz.prog 111 = ⟨TK.other, 1, 8, some [Value.nilFunc], [], 0, 0⟩ ∧
  tiOf Tryz.prog 112 = ⟨TK.other, 1, 8, some [Value.nilFunc], [], 0, 0⟩ ∧
  tiOf Tryz.prog 113 = ⟨TK.other, 1, 8, some [Value.nilFunc], [], 0, 0⟩ ∧
  tiOf Tryz.prog 114 = ⟨TK.slice, 1, 24, some [Value.slice none 0 0], [], 116, 0⟩ ∧
  tiOf Tryz.prog 115 = ⟨TK.iface, 1, 16, some [Value.nilIface], [], 0, 0⟩ :=
  ⟨by kernel_rfl, by kernel_rfl, by kernel_rfl, by kernel_rfl, by kernel_rfl, by kernel_rfl, by kernel_rfl, by kernel_rfl, by kernel_rfl, by kernel_rfl, by kernel_rfl, by kernel_rfl, by kernel_rfl, by kernel_rfl, by kernel_rfl, by kernel_rfl, by kernel_rfl, by kernel_rfl, by kernel_rfl, by kernel_rfl, by kernel_rfl, by kernel_rfl, by kernel_rfl⟩
theorem tis5 : tiOf Tryz.prog 116 = ⟨TK.iface, 1, 16, some [Value.nilIface], [], 0, 0⟩ ∧
  tiOf Tryz.prog 117 = ⟨TK.other, 1, 8, some [Value.nilFunc], [], 0, 0⟩ ∧
  tiOf Tryz.prog 118 = ⟨TK.other, 1, 8, some [Value.nilFunc], [], 0, 0⟩ ∧
  tiOf Tryz.prog 119 = ⟨TK.other, 1, 8, some [Value.nilFunc], [], 0, 0⟩ ∧
  tiOf Tryz.prog 120 = ⟨TK.other, 1, 8, some [Value.nilFunc], [], 0, 0⟩ ∧
  tiOf Tryz.prog 121 = ⟨TK.other, 1, 8, some [Value.nilFunc], [], 0, 0⟩ ∧
  tiOf Tryz.prog 122 = ⟨TK.other, 1, 8, some [Value.nilFunc], [], 0, 0⟩ ∧
  tiOf Tryz.prog 123 = ⟨TK.slice, 1, 24, some [Value.slice none 0 0], [], 108, 0⟩ ∧
  tiOf Tryz.prog 124 = ⟨TK.other, 1, 8, some [Value.nilFunc], [], 0, 0⟩ ∧
  tiOf Tryz.prog 125 = ⟨TK.other, 1, 8, some [Value.nilFunc], [], 0, 0⟩ ∧
  tiOf Tryz.prog 126 = ⟨TK.other, 1, 8, some [Value.nilFunc], [], 0, 0⟩ ∧
  tiOf Tryz.prog 127 = ⟨TK.other, 1, 8, some [Value.nilFunc], [], 0, 0⟩ ∧
  tiOf Tryz.prog 128 = ⟨TK.other, 1, 8, some [Value.nilFunc], [], 0, 0⟩ ∧
  tiOf Tryz.prog 129 = ⟨TK.other, 1, 8, some [Value.nilFunc], [], 0, 0⟩ ∧
  tiOf Tryz.prog 130 = ⟨TK.array, 4, 32, some [Value.int IntKind.u64 0, Value.int IntKind.u64 0, Value.int IntKind.u64 0, Value.int IntKind.u64 0], [], 108, 4⟩ ∧
  tiOf Tryz.prog 131 = ⟨TK.other, 1, 8, some [Value.nilFunc], [], 0, 0⟩ ∧
  tiOf Tryz.prog 132 = ⟨TK.struct, 4, 32, some [Value.int IntKind.u64 0, Value.int IntKind.u64 0, Value.int IntKind.u64 0, Value.int IntKind.u64 0], [(0, 1, TK.int IntKind.u64), (1, 1, TK.int IntKind.u64), (2, 1, TK.int IntKind.u64), (3, 1, TK.int IntKind.u64)], 0, 0⟩ ∧
  tiOf Tryz.prog 133 = ⟨TK.struct, 4, 32, some [Value.int IntKind.u64 0, Value.int IntKind.u64 0, Value.int IntKind.u64 0, Value.int IntKind.u64 0], [(0, 1, TK.int IntKind.u64), (1, 1, TK.int IntKind.u64), (2, 1, TK.int IntKind.u64), (3, 1, TK.int IntKind.u64)], 0, 0⟩ ∧
  tiOf Tryz.prog 134 = ⟨TK.other, 1, 8, some [Value.nilFunc], [], 0, 0⟩ ∧
  tiOf Tryz.prog 135 = ⟨TK.other, 1, 8, some [Value.nilFunc], [], 0, 0⟩ ∧
  tiOf Tryz.prog 136 = ⟨TK.other, 1, 8, some [Value.nilFunc], [], 0, 0⟩ ∧
  tiOf Tryz.prog 137 = ⟨TK.int IntKind.i64, 1, 8, some [Value.int IntKind.i64 0], [], 0, 0⟩ ∧
  tiOf Tryz.prog 138 = ⟨TK.other, 1, 0, some [Value.tuple { toList := [Value.int IntKind.i64 0, Value.int IntKind.i64 0] }], [], 0, 0⟩ :=
  ⟨by kernel_rfl, by kernel_rfl, by kernel_rfl, by kernel_rfl, by kernel_rfl, by kernel_rfl, by kernel_rfl, by kernel_rfl, by kernel_rfl, by kernel_rfl, by kernel_rfl, by kernel_rfl, by kernel_rfl, by kernel_rfl, by kernel_rfl, by kernel_rfl, by kernel_rfl, by kernel_rfl, by kernel_rfl, by kernel_rfl, by kernel_rfl, by kernel_rfl, by kernel_rfl⟩
theorem tis6 : tiOf Tryz.prog 139 = ⟨TK.other, 1, 8, some [Value.nilFunc], [], 0, 0⟩ ∧
  tiOf Tryz.prog 140 = ⟨TK.other, 1, 8, some [Value.nilFunc], [], 0, 0⟩ ∧
  tiOf Tryz.prog 141 = ⟨TK.other, 1, 8, some [Value.nilFunc], [], 0, 0⟩ ∧
  tiOf Tryz.prog 142 = ⟨TK.other, 1, 8, some [Value.nilFunc], [], 0, 0⟩ ∧
  tiOf Tryz.prog 143 = ⟨TK.other, 1, 0, some [Value.tuple { toList := [Value.int IntKind.i64 0, Value.bool false] }], [], 0, 0⟩ ∧
  tiOf Tryz.prog 144 = ⟨TK.other, 1, 8, some [Value.nilFunc], [], 0, 0⟩ ∧
  tiOf Tryz.prog 145 = ⟨TK.other, 1, 8, some [Value.nilFunc], [], 0, 0⟩ ∧
  tiOf Tryz.prog 146 = ⟨TK.int IntKind.u32, 1, 4, some [Value.int IntKind.u32 0], [], 0, 0⟩ ∧
  tiOf Tryz.prog 147 = ⟨TK.other, 1, 8, some [Value.nilFunc], [], 0, 0⟩ ∧
  tiOf Tryz.prog 148 = ⟨TK.other, 1, 8, some [Value.nilFunc], [], 0, 0⟩ ∧
  tiOf Tryz.prog 149 = ⟨TK.ptr, 1, 8, some [Value.pointer none], [], 133, 0⟩ ∧
  tiOf Tryz.prog 150 = ⟨TK.other, 1, 8, some [Value.nilFunc], [], 0, 0⟩ ∧
  tiOf Tryz.prog 151 = ⟨TK.int IntKind.u64, 1, 8, some [Value.int IntKind.u64 0], [], 0, 0⟩ ∧
  tiOf Tryz.prog 152 = ⟨TK.other, 1, 8, some [Value.nilFunc], [], 0, 0⟩ ∧
  tiOf Tryz.prog 153 = ⟨TK.other, 1, 8, some [Value.nilFunc], [], 0, 0⟩ ∧
  tiOf Tryz.prog 154 = ⟨TK.other, 1, 8, some [Value.nilFunc], [], 0, 0⟩ ∧
  tiOf Tryz.prog 155 = ⟨TK.ptr, 1, 8, some [Value.pointer none], [], 3, 0⟩ ∧
  tiOf Tryz.prog 156 = ⟨TK.other, 1, 8, some [Value.nilFunc], [], 0, 0⟩ ∧
  tiOf Tryz.prog 157 = ⟨TK.ptr, 1, 8, some [Value.pointer none], [], 151, 0⟩ ∧
  tiOf Tryz.prog 158 = ⟨TK.other, 1, 0, some [Value.tuple { toList := [Value.int IntKind.i64 0, Value.int IntKind.i64 0] }], [], 0, 0⟩ ∧
  tiOf Tryz.prog 159 = ⟨TK.other, 1, 8, some [Value.nilFunc], [], 0, 0⟩ ∧
  tiOf Tryz.prog 160 = ⟨TK.other, 1, 8, some [Value.nilFunc], [], 0, 0⟩ ∧
  tiOf Tryz.prog 161 = ⟨TK.struct, 4, 40, some [Value.pointer none, Value.pointer none, Value.pointer none, Value.string { data := { toList := [] } }], [(0, 1, TK.ptr), (1, 1, TK.ptr), (2, 1, TK.ptr), (3, 1, TK.str)], 0, 0⟩ :=
  ⟨by kernel_rfl, by kernel_rfl, by kernel_rfl, by kernel_rfl, by kernel_rfl, by kernel_rfl, by kernel_rfl, by kernel_rfl, by kernel_rfl, by kernel_rfl, by kernel_rfl, by kernel_rfl, by kernel_rfl, by kernel_rfl, by kernel_rfl, by kernel_rfl, by kernel_rfl, by kernel_rfl, by kernel_rfl, by kernel_rfl, by kernel_rfl, by kernel_rfl, by kernel_rfl⟩
theorem tis7 : tiOf Tryz.prog 162 = ⟨TK.struct, 4, 40, some [Value.pointer none, Value.pointer none, Value.pointer none, Value.string { data := { toList := [] } }], [(0, 1, TK.ptr), (1, 1, TK.ptr), (2, 1, TK.ptr), (3, 1, TK.str)], 0, 0⟩ ∧
  tiOf Tryz.prog 163 = ⟨TK.array, 0, 0, some [], [], 16, 0⟩ ∧
  tiOf Tryz.prog 164 = ⟨TK.struct, 0, 0, some [], [(0, 0, TK.array)], 0, 0⟩ ∧
  tiOf Tryz.prog 165 = ⟨TK.struct, 0, 0, some [], [(0, 0, TK.array)], 0, 0⟩ ∧
  tiOf Tryz.prog 166 = ⟨TK.other, 1, 8, some [Value.nilFunc], [], 0, 0⟩ ∧
  tiOf Tryz.prog 167 = ⟨TK.int IntKind.u8, 1, 1, some [Value.int IntKind.u8 0], [], 0, 0⟩ ∧
  tiOf Tryz.prog 168 = ⟨TK.int IntKind.u8, 1, 1, some [Value.int IntKind.u8 0], [], 0, 0⟩ ∧
  tiOf Tryz.prog 169 = ⟨TK.other, 1, 8, some [Value.nilFunc], [], 0, 0⟩ ∧
  tiOf Tryz.prog 170 = ⟨TK.ptr, 1, 8, some [Value.pointer none], [], 5, 0⟩ ∧
  tiOf Tryz.prog 171 = ⟨TK.int IntKind.i32, 1, 4, some [Value.int IntKind.i32 0], [], 0, 0⟩ ∧
  tiOf Tryz.prog 172 = ⟨TK.int IntKind.i32, 1, 4, some [Value.int IntKind.i32 0], [], 0, 0⟩ ∧
  tiOf Tryz.prog 173 = ⟨TK.struct, 11, 48, some [Value.int IntKind.u64 0, Value.int IntKind.u64 0, Value.int IntKind.u32 0, Value.int IntKind.u8 0, Value.int IntKind.u8 0, Value.int IntKind.u8 0, Value.int IntKind.u8 0, Value.nilFunc, Value.pointer none, Value.int IntKind.i32 0, Value.int IntKind.i32 0], [(0, 1, TK.int IntKind.u64), (1, 1, TK.int IntKind.u64), (2, 1, TK.int IntKind.u32), (3, 1, TK.int IntKind.u8), (4, 1, TK.int IntKind.u8), (5, 1, TK.int IntKind.u8), (6, 1, TK.int IntKind.u8), (7, 1, TK.other), (8, 1, TK.ptr), (9, 1, TK.int IntKind.i32), (10, 1, TK.int IntKind.i32)], 0, 0⟩ ∧
  tiOf Tryz.prog 174 = ⟨TK.struct, 11, 48, some [Value.int IntKind.u64 0, Value.int IntKind.u64 0, Value.int IntKind.u32 0, Value.int IntKind.u8 0, Value.int IntKind.u8 0, Value.int IntKind.u8 0, Value.int IntKind.u8 0, Value.nilFunc, Value.pointer none, Value.int IntKind.i32 0, Value.int IntKind.i32 0], [(0, 1, TK.int IntKind.u64), (1, 1, TK.int IntKind.u64), (2, 1, TK.int IntKind.u32), (3, 1, TK.int IntKind.u8), (4, 1, TK.int IntKind.u8), (5, 1, TK.int IntKind.u8), (6, 1, TK.int IntKind.u8), (7, 1, TK.other), (8, 1, TK.ptr), (9, 1, TK.int IntKind.i32), (10, 1, TK.int IntKind.i32)], 0, 0⟩ ∧
  tiOf Tryz.prog 175 = ⟨TK.other, 1, 8, some [Value.nilFunc], [], 0, 0⟩ ∧
  tiOf Tryz.prog 176 = ⟨TK.other, 1, 8, some [Value.nilFunc], [], 0, 0⟩ ∧
  tiOf Tryz.prog 177 = ⟨TK.other, 1, 8, some [Value.nilFunc], [], 0, 0⟩ ∧
  tiOf Tryz.prog 178 = ⟨TK.other, 1, 8, some [Value.pointer none], [], 0, 0⟩ :=
  ⟨by kernel_rfl, by kernel_rfl, by kernel_rfl, by kernel_rfl, by kernel_rfl, by kernel_rfl, by kernel_rfl, by kernel_rfl, by kernel_rfl, by kernel_rfl, by kernel_rfl, by kernel_rfl, by kernel_rfl, by kernel_rfl, by kernel_rfl, by kernel_rfl, by kernel_rfl⟩
theorem eqts : eqT Tryz.prog 7 = true ∧
  eqT Tryz.prog 8 = true ∧
  eqT Tryz.prog 24 = true ∧
  eqT Tryz.prog 25 = true ∧
  eqT Tryz.prog 26 = true ∧
  eqT Tryz.prog 27 = true ∧
  eqT Tryz.prog 29 = true ∧
  eqT Tryz.prog 30 = true ∧
  eqT Tryz.prog 42 = true ∧
  eqT Tryz.prog 43 = true ∧
  eqT Tryz.prog 88 = true ∧
  eqT Tryz.prog 89 = true ∧
  eqT Tryz.prog 90 = true ∧
  eqT Tryz.prog 91 = true ∧
  eqT Tryz.prog 132 = true ∧
  eqT Tryz.prog 133 = true :=
  ⟨by kernel_rfl, by kernel_rfl, by kernel_rfl, by kernel_rfl, by kernel_rfl, by kernel_rfl, by kernel_rfl, by kernel_rfl, by kernel_rfl, by kernel_rfl, by kernel_rfl, by kernel_rfl, by kernel_rfl, by kernel_rfl, by kernel_rfl, by kernel_rfl⟩
end Go.Proofs.YtcnpgmlkocbhkaaGreat

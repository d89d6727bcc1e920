/- What the executor asks of each type of the program: closed facts, written by a program (ti.sh). -/
import Derived.Test.YtpelcbonflijhaaAbsS
import Derived.Test.YtpelcbonflijhaaProg
import Derived.KernelRfl
namespace Go.Proofs.Ytpelcbonflijhaa
open Go Go.Abs
set_option maxRecDepth 100000
theorem tis0 : tiOf Try.prog 0 = ⟨TK.other, 1, 0, some [Value.tuple { toList := [] }], [], 0, 0⟩ ∧
  tiOf Try.prog 1 = ⟨TK.other, 1, 8, some [Value.nilFunc], [], 0, 0⟩ ∧
  tiOf Try.prog 2 = ⟨TK.int IntKind.i64, 1, 8, some [Value.int IntKind.i64 0], [], 0, 0⟩ ∧
  tiOf Try.prog 3 = ⟨TK.int IntKind.i64, 1, 8, some [Value.int IntKind.i64 0], [], 0, 0⟩ ∧
  tiOf Try.prog 4 = ⟨TK.bool, 1, 1, some [Value.bool false], [], 0, 0⟩ ∧
  tiOf Try.prog 5 = ⟨TK.int IntKind.u8, 1, 1, some [Value.int IntKind.u8 0], [], 0, 0⟩ ∧
  tiOf Try.prog 6 = ⟨TK.int IntKind.u8, 1, 1, some [Value.int IntKind.u8 0], [], 0, 0⟩ ∧
  tiOf Try.prog 7 = ⟨TK.struct, 4, 24, some [Value.int IntKind.i64 0, Value.int IntKind.i64 0, Value.bool false, Value.int IntKind.u8 0], [(0, 1, TK.int IntKind.i64), (1, 1, TK.int IntKind.i64), (2, 1, TK.bool), (3, 1, TK.int IntKind.u8)], 0, 0⟩ ∧
  tiOf Try.prog 8 = ⟨TK.struct, 4, 24, some [Value.int IntKind.i64 0, Value.int IntKind.i64 0, Value.bool false, Value.int IntKind.u8 0], [(0, 1, TK.int IntKind.i64), (1, 1, TK.int IntKind.i64), (2, 1, TK.bool), (3, 1, TK.int IntKind.u8)], 0, 0⟩ ∧
  tiOf Try.prog 9 = ⟨TK.str, 1, 16, some [Value.string { data := { toList := [] } }], [], 0, 0⟩ ∧
  tiOf Try.prog 10 = ⟨TK.str, 1, 16, some [Value.string { data := { toList := [] } }], [], 0, 0⟩ ∧
  tiOf Try.prog 11 = ⟨TK.str, 1, 16, some [Value.string { data := { toList := [] } }], [], 0, 0⟩ ∧
  tiOf Try.prog 12 = ⟨TK.int IntKind.u64, 1, 8, some [Value.int IntKind.u64 0], [], 0, 0⟩ ∧
  tiOf Try.prog 13 = ⟨TK.struct, 2, 24, some [Value.string { data := { toList := [] } }, Value.int IntKind.u64 0], [(0, 1, TK.str), (1, 1, TK.int IntKind.u64)], 0, 0⟩ ∧
  tiOf Try.prog 14 = ⟨TK.struct, 2, 24, some [Value.string { data := { toList := [] } }, Value.int IntKind.u64 0], [(0, 1, TK.str), (1, 1, TK.int IntKind.u64)], 0, 0⟩ ∧
  tiOf Try.prog 15 = ⟨TK.ptr, 1, 8, some [Value.pointer none], [], 104, 0⟩ :=
  ⟨by kernel_rfl, by kernel_rfl, by kernel_rfl, by kernel_rfl, by kernel_rfl, by kernel_rfl, by kernel_rfl, by kernel_rfl, by kernel_rfl, by kernel_rfl, by kernel_rfl, by kernel_rfl, by kernel_rfl, by kernel_rfl, by kernel_rfl, by kernel_rfl⟩
theorem tis1 : tiOf Try.prog 16 = ⟨TK.ptr, 1, 8, some [Value.pointer none], [], 107, 0⟩ ∧
  tiOf Try.prog 17 = ⟨TK.ptr, 1, 8, some [Value.pointer none], [], 117, 0⟩ ∧
  tiOf Try.prog 18 = ⟨TK.struct, 1, 8, some [Value.pointer none], [(0, 1, TK.ptr)], 0, 0⟩ ∧
  tiOf Try.prog 19 = ⟨TK.struct, 1, 8, some [Value.pointer none], [(0, 1, TK.ptr)], 0, 0⟩ ∧
  tiOf Try.prog 20 = ⟨TK.iface, 1, 16, some [Value.nilIface], [], 0, 0⟩ ∧
  tiOf Try.prog 21 = ⟨TK.int IntKind.i32, 1, 4, some [Value.int IntKind.i32 0], [], 0, 0⟩ ∧
  tiOf Try.prog 22 = ⟨TK.slice, 1, 24, some [Value.slice none 0 0], [], 3, 0⟩ ∧
  tiOf Try.prog 23 = ⟨TK.slice, 1, 24, some [Value.slice none 0 0], [], 5, 0⟩ ∧
  tiOf Try.prog 24 = ⟨TK.struct, 2, 32, some [Value.int IntKind.i64 0, Value.slice none 0 0], [(0, 1, TK.int IntKind.i64), (1, 1, TK.slice)], 0, 0⟩ ∧
  tiOf Try.prog 25 = ⟨TK.struct, 2, 32, some [Value.int IntKind.i64 0, Value.slice none 0 0], [(0, 1, TK.int IntKind.i64), (1, 1, TK.slice)], 0, 0⟩ ∧
  tiOf Try.prog 26 = ⟨TK.struct, 6, 64, some [Value.int IntKind.i64 0, Value.slice none 0 0, Value.int IntKind.i64 0, Value.int IntKind.i64 0, Value.int IntKind.i64 0, Value.bool false], [(0, 2, TK.struct), (2, 1, TK.int IntKind.i64), (3, 1, TK.int IntKind.i64), (4, 1, TK.int IntKind.i64), (5, 1, TK.bool)], 0, 0⟩ ∧
  tiOf Try.prog 27 = ⟨TK.struct, 6, 64, some [Value.int IntKind.i64 0, Value.slice none 0 0, Value.int IntKind.i64 0, Value.int IntKind.i64 0, Value.int IntKind.i64 0, Value.bool false], [(0, 2, TK.struct), (2, 1, TK.int IntKind.i64), (3, 1, TK.int IntKind.i64), (4, 1, TK.int IntKind.i64), (5, 1, TK.bool)], 0, 0⟩ ∧
  tiOf Try.prog 28 = ⟨TK.other, 1, 8, some [Value.nilFunc], [], 0, 0⟩ ∧
  tiOf Try.prog 29 = ⟨TK.other, 1, 8, some [Value.nilFunc], [], 0, 0⟩ ∧
  tiOf Try.prog 30 = ⟨TK.int IntKind.i64, 1, 8, some [Value.int IntKind.i64 0], [], 0, 0⟩ ∧
  tiOf Try.prog 31 = ⟨TK.other, 1, 0, some [Value.tuple { toList := [Value.agg { toList := [Value.int IntKind.i64 0, Value.slice none 0 0, Value.int IntKind.i64 0, Value.int IntKind.i64 0, Value.int IntKind.i64 0, Value.bool false] }, Value.int IntKind.i64 0, Value.int IntKind.i64 0] }], [], 0, 0⟩ :=
  ⟨by kernel_rfl, by kernel_rfl, by kernel_rfl, by kernel_rfl, by kernel_rfl, by kernel_rfl, by kernel_rfl, by kernel_rfl, by kernel_rfl, by kernel_rfl, by kernel_rfl, by kernel_rfl, by kernel_rfl, by kernel_rfl, by kernel_rfl, by kernel_rfl⟩
theorem tis2 : tiOf Try.prog 32 = ⟨TK.other, 1, 8, some [Value.nilFunc], [], 0, 0⟩ ∧
  tiOf Try.prog 33 = ⟨TK.other, 1, 8, some [Value.nilFunc], [], 0, 0⟩ ∧
  tiOf Try.prog 34 = ⟨TK.other, 1, 8, some [Value.nilFunc], [], 0, 0⟩ ∧
  tiOf Try.prog 35 = ⟨TK.other, 1, 8, some [Value.nilFunc], [], 0, 0⟩ ∧
  tiOf Try.prog 36 = ⟨TK.other, 1, 0, some [Value.tuple { toList := [Value.agg { toList := [Value.int IntKind.i64 0, Value.slice none 0 0, Value.int IntKind.i64 0, Value.int IntKind.i64 0, Value.int IntKind.i64 0, Value.bool false] }, Value.int IntKind.i64 0] }], [], 0, 0⟩ ∧
  tiOf Try.prog 37 = ⟨TK.other, 1, 8, some [Value.nilFunc], [], 0, 0⟩ ∧
  tiOf Try.prog 38 = ⟨TK.other, 1, 8, some [Value.nilFunc], [], 0, 0⟩ ∧
  tiOf Try.prog 39 = ⟨TK.other, 1, 8, some [Value.nilFunc], [], 0, 0⟩ ∧
  tiOf Try.prog 40 = ⟨TK.other, 1, 8, some [Value.nilFunc], [], 0, 0⟩ ∧
  tiOf Try.prog 41 = ⟨TK.other, 1, 8, some [Value.nilFunc], [], 0, 0⟩ ∧
  tiOf Try.prog 42 = ⟨TK.other, 1, 8, some [Value.nilFunc], [], 0, 0⟩ ∧
  tiOf Try.prog 43 = ⟨TK.slice, 1, 24, some [Value.slice none 0 0], [], 23, 0⟩ ∧
  tiOf Try.prog 44 = ⟨TK.other, 1, 8, some [Value.nilFunc], [], 0, 0⟩ ∧
  tiOf Try.prog 45 = ⟨TK.other, 1, 8, some [Value.nilFunc], [], 0, 0⟩ ∧
  tiOf Try.prog 46 = ⟨TK.other, 1, 8, some [Value.nilFunc], [], 0, 0⟩ ∧
  tiOf Try.prog 47 = ⟨TK.int IntKind.u64, 1, 8, some [Value.int IntKind.u64 0], [], 0, 0⟩ :=
  ⟨by kernel_rfl, by kernel_rfl, by kernel_rfl, by kernel_rfl, by kernel_rfl, by kernel_rfl, by kernel_rfl, by kernel_rfl, by kernel_rfl, by kernel_rfl, by kernel_rfl, by kernel_rfl, by kernel_rfl, by kernel_rfl, by kernel_rfl, by kernel_rfl⟩
theorem tis3 : tiOf Try.prog 48 = ⟨TK.other, 1, 8, some [Value.nilFunc], [], 0, 0⟩ ∧
  tiOf Try.prog 49 = ⟨TK.int IntKind.u16, 1, 2, some [Value.int IntKind.u16 0], [], 0, 0⟩ ∧
  tiOf Try.prog 50 = ⟨TK.other, 1, 8, some [Value.nilFunc], [], 0, 0⟩ ∧
  tiOf Try.prog 51 = ⟨TK.other, 1, 8, some [Value.nilFunc], [], 0, 0⟩ ∧
  tiOf Try.prog 52 = ⟨TK.other, 1, 8, some [Value.nilFunc], [], 0, 0⟩ ∧
  tiOf Try.prog 53 = ⟨TK.other, 1, 0, some [Value.tuple { toList := [Value.agg { toList := [Value.int IntKind.i64 0, Value.slice none 0 0] }, Value.int IntKind.i64 0] }], [], 0, 0⟩ ∧
  tiOf Try.prog 54 = ⟨TK.other, 1, 8, some [Value.nilFunc], [], 0, 0⟩ ∧
  tiOf Try.prog 55 = ⟨TK.other, 1, 8, some [Value.nilFunc], [], 0, 0⟩ ∧
  tiOf Try.prog 56 = ⟨TK.other, 1, 8, some [Value.nilFunc], [], 0, 0⟩ ∧
  tiOf Try.prog 57 = ⟨TK.struct, 1, 8, some [Value.int IntKind.i64 0], [(0, 1, TK.int IntKind.i64)], 0, 0⟩ ∧
  tiOf Try.prog 58 = ⟨TK.struct, 1, 8, some [Value.int IntKind.i64 0], [(0, 1, TK.int IntKind.i64)], 0, 0⟩ ∧
  tiOf Try.prog 59 = ⟨TK.struct, 3, 40, some [Value.int IntKind.i64 0, Value.int IntKind.i64 0, Value.slice none 0 0], [(0, 1, TK.int IntKind.i64), (1, 1, TK.int IntKind.i64), (2, 1, TK.slice)], 0, 0⟩ ∧
  tiOf Try.prog 60 = ⟨TK.struct, 3, 40, some [Value.int IntKind.i64 0, Value.int IntKind.i64 0, Value.slice none 0 0], [(0, 1, TK.int IntKind.i64), (1, 1, TK.int IntKind.i64), (2, 1, TK.slice)], 0, 0⟩ ∧
  tiOf Try.prog 61 = ⟨TK.other, 1, 8, some [Value.nilFunc], [], 0, 0⟩ ∧
  tiOf Try.prog 62 = ⟨TK.other, 1, 0, some [Value.tuple { toList := [Value.agg { toList := [Value.int IntKind.i64 0, Value.slice none 0 0] }, Value.int IntKind.i64 0, Value.int IntKind.i64 0] }], [], 0, 0⟩ ∧
  tiOf Try.prog 63 = ⟨TK.other, 1, 8, some [Value.nilFunc], [], 0, 0⟩ :=
  ⟨by kernel_rfl, by kernel_rfl, by kernel_rfl, by kernel_rfl, by kernel_rfl, by kernel_rfl, by kernel_rfl, by kernel_rfl, by kernel_rfl, by kernel_rfl, by kernel_rfl, by kernel_rfl, by kernel_rfl, by kernel_rfl, by kernel_rfl, by kernel_rfl⟩
theorem tis4 : tiOf Try.prog 64 = ⟨TK.other, 1, 8, some [Value.nilFunc], [], 0, 0⟩ ∧
  tiOf Try.prog 65 = ⟨TK.other, 1, 8, some [Value.nilFunc], [], 0, 0⟩ ∧
  tiOf Try.prog 66 = ⟨TK.other, 1, 8, some [Value.nilFunc], [], 0, 0⟩ ∧
  tiOf Try.prog 67 = ⟨TK.other, 1, 0, some [Value.tuple { toList := [Value.slice none 0 0, Value.int IntKind.i64 0] }], [], 0, 0⟩ ∧
  tiOf Try.prog 68 = ⟨TK.other, 1, 8, some [Value.nilFunc], [], 0, 0⟩ ∧
  tiOf Try.prog 69 = ⟨TK.other, 1, 8, some [Value.nilFunc], [], 0, 0⟩ ∧
  tiOf Try.prog 70 = ⟨TK.other, 1, 8, some [Value.nilFunc], [], 0, 0⟩ ∧
  tiOf Try.prog 71 = ⟨TK.other, 1, 8, some [Value.nilFunc], [], 0, 0⟩ ∧
  tiOf Try.prog 72 = ⟨TK.other, 1, 8, some [Value.nilFunc], [], 0, 0⟩ ∧
  tiOf Try.prog 73 = ⟨TK.other, 1, 8, some [Value.nilFunc], [], 0, 0⟩ ∧
  tiOf Try.prog 74 = ⟨TK.other, 1, 8, some [Value.nilFunc], [], 0, 0⟩ ∧
  tiOf Try.prog 75 = ⟨TK.slice, 1, 24, some [Value.slice none 0 0], [], 77, 0⟩ ∧
  tiOf Try.prog 76 = ⟨TK.iface, 1, 16, some [Value.nilIface], [], 0, 0⟩ ∧
  tiOf Try.prog 77 = ⟨TK.iface, 1, 16, some [Value.nilIface], [], 0, 0⟩ ∧
  tiOf Try.prog 78 = ⟨TK.other, 1, 8, some [Value.nilFunc], [], 0, 0⟩ ∧
  tiOf Try.prog 79 = ⟨TK.int IntKind.u64, 1, 8, some [Value.int IntKind.u64 0], [], 0, 0⟩ :=
  ⟨by kernel_rfl, by kernel_rfl, by kernel_rfl, by kernel_rfl, by kernel_rfl, by kernel_rfl, by kernel_rfl, by kernel_rfl, by kernel_rfl, by kernel_rfl, by kernel_rfl, by kernel_rfl, by kernel_rfl, by kernel_rfl, by kernel_rfl, by kernel_rfl⟩
theorem tis5 : tiOf Try.prog 80 = ⟨TK.other, 1, 8, some [Value.nilFunc], [], 0, 0⟩ ∧
  tiOf Try.prog 81 = ⟨TK.other, 1, 8, some [Value.nilFunc], [], 0, 0⟩ ∧
  tiOf Try.prog 82 = ⟨TK.other, 1, 8, some [Value.nilFunc], [], 0, 0⟩ ∧
  tiOf Try.prog 83 = ⟨TK.other, 1, 8, some [Value.nilFunc], [], 0, 0⟩ ∧
  tiOf Try.prog 84 = ⟨TK.other, 1, 8, some [Value.nilFunc], [], 0, 0⟩ ∧
  tiOf Try.prog 85 = ⟨TK.other, 1, 8, some [Value.nilFunc], [], 0, 0⟩ ∧
  tiOf Try.prog 86 = ⟨TK.other, 1, 8, some [Value.nilFunc], [], 0, 0⟩ ∧
  tiOf Try.prog 87 = ⟨TK.other, 1, 8, some [Value.nilFunc], [], 0, 0⟩ ∧
  tiOf Try.prog 88 = ⟨TK.other, 1, 8, some [Value.nilFunc], [], 0, 0⟩ ∧
  tiOf Try.prog 89 = ⟨TK.slice, 1, 24, some [Value.slice none 0 0], [], 79, 0⟩ ∧
  tiOf Try.prog 90 = ⟨TK.other, 1, 8, some [Value.nilFunc], [], 0, 0⟩ ∧
  tiOf Try.prog 91 = ⟨TK.other, 1, 8, some [Value.nilFunc], [], 0, 0⟩ ∧
  tiOf Try.prog 92 = ⟨TK.other, 1, 8, some [Value.nilFunc], [], 0, 0⟩ ∧
  tiOf Try.prog 93 = ⟨TK.struct, 4, 32, some [Value.int IntKind.u64 0, Value.int IntKind.u64 0, Value.int IntKind.u64 0, Value.int IntKind.u64 0], [(0, 1, TK.int IntKind.u64), (1, 1, TK.int IntKind.u64), (2, 1, TK.int IntKind.u64), (3, 1, TK.int IntKind.u64)], 0, 0⟩ ∧
  tiOf Try.prog 94 = ⟨TK.struct, 4, 32, some [Value.int IntKind.u64 0, Value.int IntKind.u64 0, Value.int IntKind.u64 0, Value.int IntKind.u64 0], [(0, 1, TK.int IntKind.u64), (1, 1, TK.int IntKind.u64), (2, 1, TK.int IntKind.u64), (3, 1, TK.int IntKind.u64)], 0, 0⟩ ∧
  tiOf Try.prog 95 = ⟨TK.other, 1, 8, some [Value.nilFunc], [], 0, 0⟩ :=
  ⟨by kernel_rfl, by kernel_rfl, by kernel_rfl, by kernel_rfl, by kernel_rfl, by kernel_rfl, by kernel_rfl, by kernel_rfl, by kernel_rfl, by kernel_rfl, by kernel_rfl, by kernel_rfl, by kernel_rfl, by kernel_rfl, by kernel_rfl, by kernel_rfl⟩
theorem tis6 : tiOf Try.prog 96 = ⟨TK.other, 1, 8, some [Value.nilFunc], [], 0, 0⟩ ∧
  tiOf Try.prog 97 = ⟨TK.array, 4, 32, some [Value.int IntKind.u64 0, Value.int IntKind.u64 0, Value.int IntKind.u64 0, Value.int IntKind.u64 0], [], 79, 4⟩ ∧
  tiOf Try.prog 98 = ⟨TK.other, 1, 8, some [Value.nilFunc], [], 0, 0⟩ ∧
  tiOf Try.prog 99 = ⟨TK.ptr, 1, 8, some [Value.pointer none], [], 94, 0⟩ ∧
  tiOf Try.prog 100 = ⟨TK.other, 1, 8, some [Value.nilFunc], [], 0, 0⟩ ∧
  tiOf Try.prog 101 = ⟨TK.other, 1, 8, some [Value.nilFunc], [], 0, 0⟩ ∧
  tiOf Try.prog 102 = ⟨TK.other, 1, 8, some [Value.nilFunc], [], 0, 0⟩ ∧
  tiOf Try.prog 103 = ⟨TK.struct, 4, 40, some [Value.pointer none, Value.pointer none, Value.pointer none, Value.string { data := { toList := [] } }], [(0, 1, TK.ptr), (1, 1, TK.ptr), (2, 1, TK.ptr), (3, 1, TK.str)], 0, 0⟩ ∧
  tiOf Try.prog 104 = ⟨TK.struct, 4, 40, some [Value.pointer none, Value.pointer none, Value.pointer none, Value.string { data := { toList := [] } }], [(0, 1, TK.ptr), (1, 1, TK.ptr), (2, 1, TK.ptr), (3, 1, TK.str)], 0, 0⟩ ∧
  tiOf Try.prog 105 = ⟨TK.array, 0, 0, some [], [], 16, 0⟩ ∧
  tiOf Try.prog 106 = ⟨TK.struct, 0, 0, some [], [(0, 0, TK.array)], 0, 0⟩ ∧
  tiOf Try.prog 107 = ⟨TK.struct, 0, 0, some [], [(0, 0, TK.array)], 0, 0⟩ ∧
  tiOf Try.prog 108 = ⟨TK.other, 1, 8, some [Value.nilFunc], [], 0, 0⟩ ∧
  tiOf Try.prog 109 = ⟨TK.int IntKind.u32, 1, 4, some [Value.int IntKind.u32 0], [], 0, 0⟩ ∧
  tiOf Try.prog 110 = ⟨TK.int IntKind.u8, 1, 1, some [Value.int IntKind.u8 0], [], 0, 0⟩ ∧
  tiOf Try.prog 111 = ⟨TK.int IntKind.u8, 1, 1, some [Value.int IntKind.u8 0], [], 0, 0⟩ :=
  ⟨by kernel_rfl, by kernel_rfl, by kernel_rfl, by kernel_rfl, by kernel_rfl, by kernel_rfl, by kernel_rfl, by kernel_rfl, by kernel_rfl, by kernel_rfl, by kernel_rfl, by kernel_rfl, by kernel_rfl, by kernel_rfl, by kernel_rfl, by kernel_rfl⟩
theorem tis7 : tiOf Try.prog 112 = ⟨TK.other, 1, 8, some [Value.nilFunc], [], 0, 0⟩ ∧
  tiOf Try.prog 113 = ⟨TK.ptr, 1, 8, some [Value.pointer none], [], 5, 0⟩ ∧
  tiOf Try.prog 114 = ⟨TK.int IntKind.i32, 1, 4, some [Value.int IntKind.i32 0], [], 0, 0⟩ ∧
  tiOf Try.prog 115 = ⟨TK.int IntKind.i32, 1, 4, some [Value.int IntKind.i32 0], [], 0, 0⟩ ∧
  tiOf Try.prog 116 = ⟨TK.struct, 11, 48, some [Value.int IntKind.u64 0, Value.int IntKind.u64 0, Value.int IntKind.u32 0, Value.int IntKind.u8 0, Value.int IntKind.u8 0, Value.int IntKind.u8 0, Value.int IntKind.u8 0, Value.nilFunc, Value.pointer none, Value.int IntKind.i32 0, Value.int IntKind.i32 0], [(0, 1, TK.int IntKind.u64), (1, 1, TK.int IntKind.u64), (2, 1, TK.int IntKind.u32), (3, 1, TK.int IntKind.u8), (4, 1, TK.int IntKind.u8), (5, 1, TK.int IntKind.u8), (6, 1, TK.int IntKind.u8), (7, 1, TK.other), (8, 1, TK.ptr), (9, 1, TK.int IntKind.i32), (10, 1, TK.int IntKind.i32)], 0, 0⟩ ∧
  tiOf Try.prog 117 = ⟨TK.struct, 11, 48, some [Value.int IntKind.u64 0, Value.int IntKind.u64 0, Value.int IntKind.u32 0, Value.int IntKind.u8 0, Value.int IntKind.u8 0, Value.int IntKind.u8 0, Value.int IntKind.u8 0, Value.nilFunc, Value.pointer none, Value.int IntKind.i32 0, Value.int IntKind.i32 0], [(0, 1, TK.int IntKind.u64), (1, 1, TK.int IntKind.u64), (2, 1, TK.int IntKind.u32), (3, 1, TK.int IntKind.u8), (4, 1, TK.int IntKind.u8), (5, 1, TK.int IntKind.u8), (6, 1, TK.int IntKind.u8), (7, 1, TK.other), (8, 1, TK.ptr), (9, 1, TK.int IntKind.i32), (10, 1, TK.int IntKind.i32)], 0, 0⟩ ∧
  tiOf Try.prog 118 = ⟨TK.other, 1, 8, some [Value.nilFunc], [], 0, 0⟩ ∧
  tiOf Try.prog 119 = ⟨TK.other, 1, 8, some [Value.nilFunc], [], 0, 0⟩ ∧
  tiOf Try.prog 120 = ⟨TK.other, 1, 8, some [Value.nilFunc], [], 0, 0⟩ ∧
  tiOf Try.prog 121 = ⟨TK.other, 1, 8, some [Value.pointer none], [], 0, 0⟩ :=
  ⟨by kernel_rfl, by kernel_rfl, by kernel_rfl, by kernel_rfl, by kernel_rfl, by kernel_rfl, by kernel_rfl, by kernel_rfl, by kernel_rfl, by kernel_rfl⟩
end Go.Proofs.Ytpelcbonflijhaa

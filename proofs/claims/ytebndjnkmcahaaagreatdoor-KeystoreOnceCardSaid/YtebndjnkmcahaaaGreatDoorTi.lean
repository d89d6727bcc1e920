/- What the executor asks of each type of the program: closed facts, written by a program (ti.sh). -/
import Derived.Test.YtebndjnkmcahaaaGreatDoorAbsS
import Derived.Test.YtebndjnkmcahaaaGreatDoorProg
import Derived.KernelRfl
namespace Go.Proofs.YtebndjnkmcahaaaGreatDoor
open Go Go.Abs
set_option maxRecDepth 100000
def z42 : List Value := [Value.int IntKind.u64 0, Value.int IntKind.u64 0, Value.int IntKind.i64 0, Value.bool false, Value.int IntKind.u64 0, Value.int IntKind.i64 0, Value.int IntKind.i64 0, Value.int IntKind.i64 0, Value.slice none 0 0, Value.int IntKind.i64 0, Value.slice none 0 0, Value.int IntKind.i64 0, Value.int IntKind.i64 0, Value.int IntKind.i64 0, Value.bool false, Value.slice none 0 0, Value.bool false, Value.int IntKind.i64 0, Value.int IntKind.i64 0, Value.int IntKind.i64 0, Value.int IntKind.i64 0, Value.int IntKind.u64 0, Value.bool false, Value.int IntKind.u64 0, Value.int IntKind.i64 0, Value.string { data := { toList := [] } }, Value.int IntKind.i64 0, Value.bool false, Value.int IntKind.i64 0, Value.int IntKind.u64 0, Value.int IntKind.i64 0, Value.slice none 0 0]
theorem one42 : oneVs z42 = true := by kernel_rfl
theorem len42 : z42.length = 32 := rfl
def z43 : List Value := [Value.int IntKind.u64 0, Value.int IntKind.u64 0, Value.int IntKind.i64 0, Value.bool false, Value.int IntKind.u64 0, Value.int IntKind.i64 0, Value.int IntKind.i64 0, Value.int IntKind.i64 0, Value.slice none 0 0, Value.int IntKind.i64 0, Value.slice none 0 0, Value.int IntKind.i64 0, Value.int IntKind.i64 0, Value.int IntKind.i64 0, Value.bool false, Value.slice none 0 0, Value.bool false, Value.int IntKind.i64 0, Value.int IntKind.i64 0, Value.int IntKind.i64 0, Value.int IntKind.i64 0, Value.int IntKind.u64 0, Value.bool false, Value.int IntKind.u64 0, Value.int IntKind.i64 0, Value.string { data := { toList := [] } }, Value.int IntKind.i64 0, Value.bool false, Value.int IntKind.i64 0, Value.int IntKind.u64 0, Value.int IntKind.i64 0, Value.slice none 0 0]
theorem one43 : oneVs z43 = true := by kernel_rfl
theorem len43 : z43.length = 32 := rfl
def z50 : List Value := [Value.int IntKind.u64 0, Value.int IntKind.u64 0, Value.int IntKind.i64 0, Value.bool false, Value.int IntKind.u64 0, Value.int IntKind.i64 0, Value.int IntKind.i64 0, Value.int IntKind.i64 0, Value.slice none 0 0, Value.int IntKind.i64 0, Value.slice none 0 0, Value.int IntKind.i64 0, Value.int IntKind.i64 0, Value.int IntKind.i64 0, Value.bool false, Value.slice none 0 0, Value.bool false, Value.int IntKind.i64 0, Value.int IntKind.i64 0, Value.int IntKind.i64 0, Value.int IntKind.i64 0, Value.int IntKind.u64 0, Value.bool false, Value.int IntKind.u64 0, Value.int IntKind.i64 0, Value.string { data := { toList := [] } }, Value.int IntKind.i64 0, Value.bool false, Value.int IntKind.i64 0, Value.int IntKind.u64 0, Value.int IntKind.i64 0, Value.slice none 0 0, Value.slice none 0 0]
theorem one50 : oneVs z50 = true := by kernel_rfl
theorem len50 : z50.length = 33 := rfl
def z51 : List Value := [Value.int IntKind.u64 0, Value.int IntKind.u64 0, Value.int IntKind.i64 0, Value.bool false, Value.int IntKind.u64 0, Value.int IntKind.i64 0, Value.int IntKind.i64 0, Value.int IntKind.i64 0, Value.slice none 0 0, Value.int IntKind.i64 0, Value.slice none 0 0, Value.int IntKind.i64 0, Value.int IntKind.i64 0, Value.int IntKind.i64 0, Value.bool false, Value.slice none 0 0, Value.bool false, Value.int IntKind.i64 0, Value.int IntKind.i64 0, Value.int IntKind.i64 0, Value.int IntKind.i64 0, Value.int IntKind.u64 0, Value.bool false, Value.int IntKind.u64 0, Value.int IntKind.i64 0, Value.string { data := { toList := [] } }, Value.int IntKind.i64 0, Value.bool false, Value.int IntKind.i64 0, Value.int IntKind.u64 0, Value.int IntKind.i64 0, Value.slice none 0 0, Value.slice none 0 0]
theorem one51 : oneVs z51 = true := by kernel_rfl
theorem len51 : z51.length = 33 := rfl
def z209 : List Value := [Value.bool false, Value.bool false, Value.bool false, Value.bool false, Value.bool false, Value.bool false, Value.bool false, Value.bool false, Value.bool false, Value.bool false, Value.bool false, Value.bool false, Value.bool false, Value.bool false, Value.bool false, Value.bool false, Value.bool false, Value.bool false, Value.bool false, Value.bool false, Value.bool false, Value.bool false, Value.bool false, Value.bool false, Value.bool false, Value.bool false, Value.bool false, Value.bool false, Value.bool false, Value.bool false, Value.bool false, Value.bool false, Value.bool false, Value.bool false, Value.bool false, Value.bool false, Value.bool false, Value.bool false, Value.bool false, Value.bool false, Value.bool false, Value.bool false, Value.bool false, Value.bool false, Value.bool false, Value.bool false, Value.bool false, Value.bool false, Value.bool false, Value.bool false, Value.bool false, Value.bool false, Value.bool false, Value.bool false, Value.bool false, Value.bool false, Value.bool false, Value.bool false, Value.bool false, Value.bool false, Value.bool false, Value.bool false, Value.bool false, Value.bool false, Value.bool false, Value.bool false, Value.bool false, Value.bool false, Value.bool false, Value.bool false, Value.bool false, Value.bool false, Value.bool false, Value.bool false, Value.bool false, Value.bool false, Value.bool false, Value.bool false, Value.bool false, Value.bool false, Value.bool false, Value.bool false, Value.bool false, Value.bool false, Value.bool false, Value.bool false, Value.bool false, Value.bool false, Value.bool false, Value.bool false, Value.bool false, Value.bool false, Value.bool false, Value.bool false, Value.bool false, Value.bool false, Value.bool false, Value.bool false, Value.bool false, Value.bool false, Value.bool false, Value.bool false, Value.bool false, Value.bool false, Value.bool false, Value.bool false, Value.bool false, Value.bool false, Value.bool false, Value.bool false, Value.bool false, Value.bool false, Value.bool false, Value.bool false, Value.bool false, Value.bool false, Value.bool false, Value.bool false, Value.bool false, Value.bool false, Value.bool false, Value.bool false, Value.bool false, Value.bool false, Value.bool false, Value.bool false, Value.bool false, Value.bool false, Value.bool false, Value.bool false, Value.bool false, Value.bool false, Value.bool false, Value.bool false, Value.bool false, Value.bool false, Value.bool false, Value.bool false, Value.bool false, Value.bool false, Value.bool false, Value.bool false, Value.bool false, Value.bool false, Value.bool false, Value.bool false, Value.bool false, Value.bool false, Value.bool false, Value.bool false, Value.bool false, Value.bool false, Value.bool false, Value.bool false, Value.bool false, Value.bool false, Value.bool false, Value.bool false, Value.bool false, Value.bool false, Value.bool false, Value.bool false, Value.bool false, Value.bool false, Value.bool false, Value.bool false, Value.bool false, Value.bool false, Value.bool false, Value.bool false, Value.bool false, Value.bool false, Value.bool false, Value.bool false, Value.bool false, Value.bool false, Value.bool false, Value.bool false, Value.bool false, Value.bool false, Value.bool false, Value.bool false, Value.bool false, Value.bool false, Value.bool false, Value.bool false, Value.bool false, Value.bool false, Value.bool false, Value.bool false, Value.bool false, Value.bool false, Value.bool false, Value.bool false, Value.bool false, Value.bool false, Value.bool false, Value.bool false, Value.bool false, Value.bool false, Value.bool false, Value.bool false, Value.bool false, Value.bool false, Value.bool false, Value.bool false, Value.bool false, Value.bool false, Value.bool false, Value.bool false, Value.bool false, Value.bool false, Value.bool false, Value.bool false, Value.bool false, Value.bool false, Value.bool false, Value.bool false, Value.bool false, Value.bool false, Value.bool false, Value.bool false, Value.bool false, Value.bool false, Value.bool false, Value.bool false, Value.bool false, Value.bool false, Value.bool false, Value.bool false, Value.bool false, Value.bool false, Value.bool false, Value.bool false, Value.bool false, Value.bool false, Value.bool false, Value.bool false, Value.bool false, Value.bool false, Value.bool false, Value.bool false, Value.bool false, Value.bool false, Value.bool false, Value.bool false, Value.bool false, Value.bool false, Value.bool false, Value.bool false, Value.bool false, Value.bool false, Value.bool false, Value.bool false, Value.bool false, Value.bool false]
theorem one209 : oneVs z209 = true := by kernel_rfl
theorem len209 : z209.length = 256 := rfl
def z255 : List Value := [Value.int IntKind.u8 0, Value.int IntKind.u8 0, Value.int IntKind.u8 0, Value.int IntKind.u8 0, Value.int IntKind.u8 0, Value.int IntKind.u8 0, Value.int IntKind.u8 0, Value.int IntKind.u8 0, Value.int IntKind.u8 0, Value.int IntKind.u8 0, Value.int IntKind.u8 0, Value.int IntKind.u8 0, Value.int IntKind.u8 0, Value.int IntKind.u8 0, Value.int IntKind.u8 0, Value.int IntKind.u8 0, Value.int IntKind.u8 0, Value.int IntKind.u8 0, Value.int IntKind.u8 0, Value.int IntKind.u8 0, Value.int IntKind.u8 0, Value.int IntKind.u8 0, Value.int IntKind.u8 0, Value.int IntKind.u8 0, Value.int IntKind.u8 0, Value.int IntKind.u8 0, Value.int IntKind.u8 0, Value.int IntKind.u8 0, Value.int IntKind.u8 0, Value.int IntKind.u8 0, Value.int IntKind.u8 0, Value.int IntKind.u8 0, Value.int IntKind.u8 0, Value.int IntKind.u8 0, Value.int IntKind.u8 0, Value.int IntKind.u8 0, Value.int IntKind.u8 0, Value.int IntKind.u8 0, Value.int IntKind.u8 0, Value.int IntKind.u8 0, Value.int IntKind.u8 0, Value.int IntKind.u8 0, Value.int IntKind.u8 0, Value.int IntKind.u8 0, Value.int IntKind.u8 0, Value.int IntKind.u8 0, Value.int IntKind.u8 0, Value.int IntKind.u8 0, Value.int IntKind.u8 0, Value.int IntKind.u8 0, Value.int IntKind.u8 0, Value.int IntKind.u8 0, Value.int IntKind.u8 0, Value.int IntKind.u8 0, Value.int IntKind.u8 0, Value.int IntKind.u8 0, Value.int IntKind.u8 0, Value.int IntKind.u8 0, Value.int IntKind.u8 0, Value.int IntKind.u8 0, Value.int IntKind.u8 0, Value.int IntKind.u8 0, Value.int IntKind.u8 0, Value.int IntKind.u8 0, Value.int IntKind.u8 0, Value.int IntKind.u8 0, Value.int IntKind.u8 0, Value.int IntKind.u8 0, Value.int IntKind.u8 0, Value.int IntKind.u8 0, Value.int IntKind.u8 0, Value.int IntKind.u8 0, Value.int IntKind.u8 0, Value.int IntKind.u8 0, Value.int IntKind.u8 0, Value.int IntKind.u8 0, Value.int IntKind.u8 0, Value.int IntKind.u8 0, Value.int IntKind.u8 0, Value.int IntKind.u8 0, Value.int IntKind.u8 0, Value.int IntKind.u8 0, Value.int IntKind.u8 0, Value.int IntKind.u8 0, Value.int IntKind.u8 0, Value.int IntKind.u8 0, Value.int IntKind.u8 0, Value.int IntKind.u8 0, Value.int IntKind.u8 0, Value.int IntKind.u8 0, Value.int IntKind.u8 0, Value.int IntKind.u8 0, Value.int IntKind.u8 0, Value.int IntKind.u8 0, Value.int IntKind.u8 0, Value.int IntKind.u8 0, Value.int IntKind.u8 0, Value.int IntKind.u8 0, Value.int IntKind.u8 0, Value.int IntKind.u8 0, Value.int IntKind.u8 0, Value.int IntKind.u8 0, Value.int IntKind.u8 0, Value.int IntKind.u8 0, Value.int IntKind.u8 0, Value.int IntKind.u8 0, Value.int IntKind.u8 0, Value.int IntKind.u8 0, Value.int IntKind.u8 0, Value.int IntKind.u8 0, Value.int IntKind.u8 0, Value.int IntKind.u8 0, Value.int IntKind.u8 0, Value.int IntKind.u8 0, Value.int IntKind.u8 0, Value.int IntKind.u8 0, Value.int IntKind.u8 0, Value.int IntKind.u8 0, Value.int IntKind.u8 0, Value.int IntKind.u8 0, Value.int IntKind.u8 0, Value.int IntKind.u8 0, Value.int IntKind.u8 0, Value.int IntKind.u8 0, Value.int IntKind.u8 0, Value.int IntKind.u8 0, Value.int IntKind.u8 0, Value.int IntKind.u8 0, Value.int IntKind.u8 0, Value.int IntKind.u8 0, Value.int IntKind.u8 0, Value.int IntKind.u8 0, Value.int IntKind.u8 0, Value.int IntKind.u8 0, Value.int IntKind.u8 0, Value.int IntKind.u8 0, Value.int IntKind.u8 0, Value.int IntKind.u8 0, Value.int IntKind.u8 0, Value.int IntKind.u8 0, Value.int IntKind.u8 0, Value.int IntKind.u8 0, Value.int IntKind.u8 0, Value.int IntKind.u8 0, Value.int IntKind.u8 0, Value.int IntKind.u8 0, Value.int IntKind.u8 0, Value.int IntKind.u8 0, Value.int IntKind.u8 0, Value.int IntKind.u8 0, Value.int IntKind.u8 0, Value.int IntKind.u8 0, Value.int IntKind.u8 0, Value.int IntKind.u8 0, Value.int IntKind.u8 0, Value.int IntKind.u8 0, Value.int IntKind.u8 0, Value.int IntKind.u8 0, Value.int IntKind.u8 0, Value.int IntKind.u8 0, Value.int IntKind.u8 0, Value.int IntKind.u8 0, Value.int IntKind.u8 0, Value.int IntKind.u8 0, Value.int IntKind.u8 0, Value.int IntKind.u8 0, Value.int IntKind.u8 0, Value.int IntKind.u8 0, Value.int IntKind.u8 0, Value.int IntKind.u8 0, Value.int IntKind.u8 0, Value.int IntKind.u8 0, Value.int IntKind.u8 0, Value.int IntKind.u8 0, Value.int IntKind.u8 0, Value.int IntKind.u8 0, Value.int IntKind.u8 0, Value.int IntKind.u8 0, Value.int IntKind.u8 0, Value.int IntKind.u8 0, Value.int IntKind.u8 0, Value.int IntKind.u8 0, Value.int IntKind.u8 0, Value.int IntKind.u8 0, Value.int IntKind.u8 0, Value.int IntKind.u8 0, Value.int IntKind.u8 0, Value.int IntKind.u8 0, Value.int IntKind.u8 0, Value.int IntKind.u8 0, Value.int IntKind.u8 0, Value.int IntKind.u8 0, Value.int IntKind.u8 0, Value.int IntKind.u8 0, Value.int IntKind.u8 0, Value.int IntKind.u8 0, Value.int IntKind.u8 0, Value.int IntKind.u8 0, Value.int IntKind.u8 0, Value.int IntKind.u8 0, Value.int IntKind.u8 0, Value.int IntKind.u8 0, Value.int IntKind.u8 0, Value.int IntKind.u8 0, Value.int IntKind.u8 0, Value.int IntKind.u8 0, Value.int IntKind.u8 0, Value.int IntKind.u8 0, Value.int IntKind.u8 0, Value.int IntKind.u8 0, Value.int IntKind.u8 0, Value.int IntKind.u8 0, Value.int IntKind.u8 0, Value.int IntKind.u8 0, Value.int IntKind.u8 0, Value.int IntKind.u8 0, Value.int IntKind.u8 0, Value.int IntKind.u8 0, Value.int IntKind.u8 0, Value.int IntKind.u8 0, Value.int IntKind.u8 0, Value.int IntKind.u8 0, Value.int IntKind.u8 0, Value.int IntKind.u8 0, Value.int IntKind.u8 0, Value.int IntKind.u8 0, Value.int IntKind.u8 0, Value.int IntKind.u8 0, Value.int IntKind.u8 0, Value.int IntKind.u8 0, Value.int IntKind.u8 0, Value.int IntKind.u8 0, Value.int IntKind.u8 0, Value.int IntKind.u8 0, Value.int IntKind.u8 0, Value.int IntKind.u8 0, Value.int IntKind.u8 0, Value.int IntKind.u8 0, Value.int IntKind.u8 0, Value.int IntKind.u8 0, Value.int IntKind.u8 0, Value.int IntKind.u8 0, Value.int IntKind.u8 0, Value.int IntKind.u8 0, Value.int IntKind.u8 0, Value.int IntKind.u8 0, Value.int IntKind.u8 0, Value.int IntKind.u8 0, Value.int IntKind.u8 0, Value.int IntKind.u8 0, Value.int IntKind.u8 0, Value.int IntKind.u8 0, Value.int IntKind.u8 0, Value.int IntKind.u8 0, Value.int IntKind.u8 0, Value.int IntKind.u8 0]
theorem one255 : oneVs z255 = true := by kernel_rfl
theorem len255 : z255.length = 256 := rfl
attribute [go_sem] one42 len42 one43 len43 one50 len50 one51 len51 one209 len209 one255 len255
theorem tis0 : tiOf Tryz.prog 0 = ⟨TK.other, 1, 0, some [Value.tuple { toList := [] }], [], 0, 0⟩ ∧
  tiOf Tryz.prog 1 = ⟨TK.other, 1, 8, some [Value.nilFunc], [], 0, 0⟩ ∧
  tiOf Tryz.prog 2 = ⟨TK.int IntKind.i64, 1, 8, some [Value.int IntKind.i64 0], [], 0, 0⟩ ∧
  tiOf Tryz.prog 3 = ⟨TK.int IntKind.i64, 1, 8, some [Value.int IntKind.i64 0], [], 0, 0⟩ ∧
  tiOf Tryz.prog 4 = ⟨TK.bool, 1, 1, some [Value.bool false], [], 0, 0⟩ ∧
  tiOf Tryz.prog 5 = ⟨TK.int IntKind.u8, 1, 1, some [Value.int IntKind.u8 0], [], 0, 0⟩ ∧
  tiOf Tryz.prog 6 = ⟨TK.int IntKind.u8, 1, 1, some [Value.int IntKind.u8 0], [], 0, 0⟩ ∧
  tiOf Tryz.prog 7 = ⟨TK.struct, 4, 24, some [Value.int IntKind.i64 0, Value.int IntKind.i64 0, Value.bool false, Value.int IntKind.u8 0], [(0, 1, TK.int IntKind.i64), (1, 1, TK.int IntKind.i64), (2, 1, TK.bool), (3, 1, TK.int IntKind.u8)], 0, 0⟩ ∧
  tiOf Tryz.prog 8 = ⟨TK.struct, 4, 24, some [Value.int IntKind.i64 0, Value.int IntKind.i64 0, Value.bool false, Value.int IntKind.u8 0], [(0, 1, TK.int IntKind.i64), (1, 1, TK.int IntKind.i64), (2, 1, TK.bool), (3, 1, TK.int IntKind.u8)], 0, 0⟩ ∧
  tiOf Tryz.prog 9 = ⟨TK.str, 1, 16, some [Value.string { data := { toList := [] } }], [], 0, 0⟩ ∧
  tiOf Tryz.prog 10 = ⟨TK.str, 1, 16, some [Value.string { data := { toList := [] } }], [], 0, 0⟩ ∧
  tiOf Tryz.prog 11 = ⟨TK.str, 1, 16, some [Value.string { data := { toList := [] } }], [], 0, 0⟩ ∧
  tiOf Tryz.prog 12 = ⟨TK.int IntKind.u64, 1, 8, some [Value.int IntKind.u64 0], [], 0, 0⟩ ∧
  tiOf Tryz.prog 13 = ⟨TK.struct, 2, 24, some [Value.string { data := { toList := [] } }, Value.int IntKind.u64 0], [(0, 1, TK.str), (1, 1, TK.int IntKind.u64)], 0, 0⟩ ∧
  tiOf Tryz.prog 14 = ⟨TK.struct, 2, 24, some [Value.string { data := { toList := [] } }, Value.int IntKind.u64 0], [(0, 1, TK.str), (1, 1, TK.int IntKind.u64)], 0, 0⟩ ∧
  tiOf Tryz.prog 15 = ⟨TK.ptr, 1, 8, some [Value.pointer none], [], 339, 0⟩ ∧
  tiOf Tryz.prog 16 = ⟨TK.ptr, 1, 8, some [Value.pointer none], [], 342, 0⟩ ∧
  tiOf Tryz.prog 17 = ⟨TK.ptr, 1, 8, some [Value.pointer none], [], 351, 0⟩ ∧
  tiOf Tryz.prog 18 = ⟨TK.struct, 1, 8, some [Value.pointer none], [(0, 1, TK.ptr)], 0, 0⟩ ∧
  tiOf Tryz.prog 19 = ⟨TK.struct, 1, 8, some [Value.pointer none], [(0, 1, TK.ptr)], 0, 0⟩ ∧
  tiOf Tryz.prog 20 = ⟨TK.iface, 1, 16, some [Value.nilIface], [], 0, 0⟩ ∧
  tiOf Tryz.prog 21 = ⟨TK.int IntKind.i32, 1, 4, some [Value.int IntKind.i32 0], [], 0, 0⟩ ∧
  tiOf Tryz.prog 22 = ⟨TK.int IntKind.u64, 1, 8, some [Value.int IntKind.u64 0], [], 0, 0⟩ ∧
  tiOf Tryz.prog 23 = ⟨TK.slice, 1, 24, some [Value.slice none 0 0], [], 27, 0⟩ ∧
  tiOf Tryz.prog 24 = ⟨TK.struct, 9, 88, some [Value.int IntKind.u64 0, Value.int IntKind.u64 0, Value.int IntKind.i64 0, Value.bool false, Value.int IntKind.u64 0, Value.int IntKind.i64 0, Value.int IntKind.i64 0, Value.int IntKind.i64 0, Value.slice none 0 0], [(0, 1, TK.int IntKind.u64), (1, 1, TK.int IntKind.u64), (2, 1, TK.int IntKind.i64), (3, 1, TK.bool), (4, 1, TK.int IntKind.u64), (5, 1, TK.int IntKind.i64), (6, 1, TK.int IntKind.i64), (7, 1, TK.int IntKind.i64), (8, 1, TK.slice)], 0, 0⟩ ∧
  tiOf Tryz.prog 25 = ⟨TK.struct, 9, 88, some [Value.int IntKind.u64 0, Value.int IntKind.u64 0, Value.int IntKind.i64 0, Value.bool false, Value.int IntKind.u64 0, Value.int IntKind.i64 0, Value.int IntKind.i64 0, Value.int IntKind.i64 0, Value.slice none 0 0], [(0, 1, TK.int IntKind.u64), (1, 1, TK.int IntKind.u64), (2, 1, TK.int IntKind.i64), (3, 1, TK.bool), (4, 1, TK.int IntKind.u64), (5, 1, TK.int IntKind.i64), (6, 1, TK.int IntKind.i64), (7, 1, TK.int IntKind.i64), (8, 1, TK.slice)], 0, 0⟩ ∧
  tiOf Tryz.prog 26 = ⟨TK.other, 1, 8, some [Value.nilFunc], [], 0, 0⟩ ∧
  tiOf Tryz.prog 27 = ⟨TK.slice, 1, 24, some [Value.slice none 0 0], [], 5, 0⟩ ∧
  tiOf Tryz.prog 28 = ⟨TK.other, 1, 8, some [Value.nilFunc], [], 0, 0⟩ ∧
  tiOf Tryz.prog 29 = ⟨TK.int IntKind.u64, 1, 8, some [Value.int IntKind.u64 0], [], 0, 0⟩ ∧
  tiOf Tryz.prog 30 = ⟨TK.slice, 1, 24, some [Value.slice none 0 0], [], 3, 0⟩ ∧
  tiOf Tryz.prog 31 = ⟨TK.struct, 2, 32, some [Value.int IntKind.i64 0, Value.slice none 0 0], [(0, 1, TK.int IntKind.i64), (1, 1, TK.slice)], 0, 0⟩ ∧
  tiOf Tryz.prog 32 = ⟨TK.struct, 2, 32, some [Value.int IntKind.i64 0, Value.slice none 0 0], [(0, 1, TK.int IntKind.i64), (1, 1, TK.slice)], 0, 0⟩ ∧
  tiOf Tryz.prog 33 = ⟨TK.struct, 6, 64, some [Value.int IntKind.i64 0, Value.slice none 0 0, Value.int IntKind.i64 0, Value.int IntKind.i64 0, Value.int IntKind.i64 0, Value.bool false], [(0, 2, TK.struct), (2, 1, TK.int IntKind.i64), (3, 1, TK.int IntKind.i64), (4, 1, TK.int IntKind.i64), (5, 1, TK.bool)], 0, 0⟩ ∧
  tiOf Tryz.prog 34 = ⟨TK.struct, 6, 64, some [Value.int IntKind.i64 0, Value.slice none 0 0, Value.int IntKind.i64 0, Value.int IntKind.i64 0, Value.int IntKind.i64 0, Value.bool false], [(0, 2, TK.struct), (2, 1, TK.int IntKind.i64), (3, 1, TK.int IntKind.i64), (4, 1, TK.int IntKind.i64), (5, 1, TK.bool)], 0, 0⟩ ∧
  tiOf Tryz.prog 35 = ⟨TK.slice, 1, 24, some [Value.slice none 0 0], [], 94, 0⟩ ∧
  tiOf Tryz.prog 36 = ⟨TK.struct, 7, 88, some [Value.int IntKind.i64 0, Value.slice none 0 0, Value.int IntKind.i64 0, Value.int IntKind.i64 0, Value.int IntKind.i64 0, Value.bool false, Value.slice none 0 0], [(0, 6, TK.struct), (6, 1, TK.slice)], 0, 0⟩ ∧
  tiOf Tryz.prog 37 = ⟨TK.struct, 7, 88, some [Value.int IntKind.i64 0, Value.slice none 0 0, Value.int IntKind.i64 0, Value.int IntKind.i64 0, Value.int IntKind.i64 0, Value.bool false, Value.slice none 0 0], [(0, 6, TK.struct), (6, 1, TK.slice)], 0, 0⟩ ∧
  tiOf Tryz.prog 38 = ⟨TK.struct, 6, 56, some [Value.int IntKind.u64 0, Value.bool false, Value.int IntKind.u64 0, Value.int IntKind.i64 0, Value.string { data := { toList := [] } }, Value.int IntKind.i64 0], [(0, 1, TK.int IntKind.u64), (1, 1, TK.bool), (2, 1, TK.int IntKind.u64), (3, 1, TK.int IntKind.i64), (4, 1, TK.str), (5, 1, TK.int IntKind.i64)], 0, 0⟩ ∧
  tiOf Tryz.prog 39 = ⟨TK.struct, 6, 56, some [Value.int IntKind.u64 0, Value.bool false, Value.int IntKind.u64 0, Value.int IntKind.i64 0, Value.string { data := { toList := [] } }, Value.int IntKind.i64 0], [(0, 1, TK.int IntKind.u64), (1, 1, TK.bool), (2, 1, TK.int IntKind.u64), (3, 1, TK.int IntKind.i64), (4, 1, TK.str), (5, 1, TK.int IntKind.i64)], 0, 0⟩ ∧
  tiOf Tryz.prog 40 = ⟨TK.struct, 5, 56, some [Value.bool false, Value.int IntKind.i64 0, Value.int IntKind.u64 0, Value.int IntKind.i64 0, Value.slice none 0 0], [(0, 1, TK.bool), (1, 1, TK.int IntKind.i64), (2, 1, TK.int IntKind.u64), (3, 1, TK.int IntKind.i64), (4, 1, TK.slice)], 0, 0⟩ ∧
  tiOf Tryz.prog 41 = ⟨TK.struct, 5, 56, some [Value.bool false, Value.int IntKind.i64 0, Value.int IntKind.u64 0, Value.int IntKind.i64 0, Value.slice none 0 0], [(0, 1, TK.bool), (1, 1, TK.int IntKind.i64), (2, 1, TK.int IntKind.u64), (3, 1, TK.int IntKind.i64), (4, 1, TK.slice)], 0, 0⟩ ∧
  tiOf Tryz.prog 42 = ⟨TK.struct, 32, 328, some z42, [(0, 9, TK.struct), (9, 7, TK.struct), (16, 1, TK.bool), (17, 1, TK.int IntKind.i64), (18, 1, TK.int IntKind.i64), (19, 1, TK.int IntKind.i64), (20, 1, TK.int IntKind.i64), (21, 6, TK.struct), (27, 5, TK.struct)], 0, 0⟩ ∧
  tiOf Tryz.prog 43 = ⟨TK.struct, 32, 328, some z43, [(0, 9, TK.struct), (9, 7, TK.struct), (16, 1, TK.bool), (17, 1, TK.int IntKind.i64), (18, 1, TK.int IntKind.i64), (19, 1, TK.int IntKind.i64), (20, 1, TK.int IntKind.i64), (21, 6, TK.struct), (27, 5, TK.struct)], 0, 0⟩ ∧
  tiOf Tryz.prog 44 = ⟨TK.int IntKind.i64, 1, 8, some [Value.int IntKind.i64 0], [], 0, 0⟩ :=
  ⟨by kernel_rfl, by kernel_rfl, by kernel_rfl, by kernel_rfl, by kernel_rfl, by kernel_rfl, by kernel_rfl, by kernel_rfl, by kernel_rfl, by kernel_rfl, by kernel_rfl, by kernel_rfl, by kernel_rfl, by kernel_rfl, by kernel_rfl, by kernel_rfl, by kernel_rfl, by kernel_rfl, by kernel_rfl, by kernel_rfl, by kernel_rfl, by kernel_rfl, by kernel_rfl, by kernel_rfl, by kernel_rfl, by kernel_rfl, by kernel_rfl, by kernel_rfl, by kernel_rfl, by kernel_rfl, by kernel_rfl, by kernel_rfl, by kernel_rfl, by kernel_rfl, by kernel_rfl, by kernel_rfl, by kernel_rfl, by kernel_rfl, by kernel_rfl, by kernel_rfl, by kernel_rfl, by kernel_rfl, by kernel_rfl, by kernel_rfl, by kernel_rfl⟩
theorem tis1 : tiOf Tryz.prog 45 = ⟨TK.other, 1, 0, some [Value.tuple { toList := [Value.agg { toList := [Value.int IntKind.u64 0, Value.int IntKind.u64 0, Value.int IntKind.i64 0, Value.bool false, Value.int IntKind.u64 0, Value.int IntKind.i64 0, Value.int IntKind.i64 0, Value.int IntKind.i64 0, Value.slice none 0 0, Value.int IntKind.i64 0, Value.slice none 0 0, Value.int IntKind.i64 0, Value.int IntKind.i64 0, Value.int IntKind.i64 0, Value.bool false, Value.slice none 0 0, Value.bool false, Value.int IntKind.i64 0, Value.int IntKind.i64 0, Value.int IntKind.i64 0, Value.int IntKind.i64 0, Value.int IntKind.u64 0, Value.bool false, Value.int IntKind.u64 0, Value.int IntKind.i64 0, Value.string { data := { toList := [] } }, Value.int IntKind.i64 0, Value.bool false, Value.int IntKind.i64 0, Value.int IntKind.u64 0, Value.int IntKind.i64 0, Value.slice none 0 0] }, Value.int IntKind.i64 0] }], [], 0, 0⟩ ∧
  tiOf Tryz.prog 46 = ⟨TK.other, 1, 8, some [Value.nilFunc], [], 0, 0⟩ ∧
  tiOf Tryz.prog 47 = ⟨TK.other, 1, 8, some [Value.nilFunc], [], 0, 0⟩ ∧
  tiOf Tryz.prog 48 = ⟨TK.other, 1, 8, some [Value.nilFunc], [], 0, 0⟩ ∧
  tiOf Tryz.prog 49 = ⟨TK.slice, 1, 24, some [Value.slice none 0 0], [], 55, 0⟩ ∧
  tiOf Tryz.prog 50 = ⟨TK.struct, 33, 352, some z50, [(0, 32, TK.struct), (32, 1, TK.slice)], 0, 0⟩ ∧
  tiOf Tryz.prog 51 = ⟨TK.struct, 33, 352, some z51, [(0, 32, TK.struct), (32, 1, TK.slice)], 0, 0⟩ ∧
  tiOf Tryz.prog 52 = ⟨TK.other, 1, 8, some [Value.nilFunc], [], 0, 0⟩ ∧
  tiOf Tryz.prog 53 = ⟨TK.other, 1, 0, some [Value.tuple { toList := [Value.agg { toList := [Value.int IntKind.u64 0, Value.int IntKind.u64 0, Value.int IntKind.i64 0, Value.bool false, Value.int IntKind.u64 0, Value.int IntKind.i64 0, Value.int IntKind.i64 0, Value.int IntKind.i64 0, Value.slice none 0 0, Value.int IntKind.i64 0, Value.slice none 0 0, Value.int IntKind.i64 0, Value.int IntKind.i64 0, Value.int IntKind.i64 0, Value.bool false, Value.slice none 0 0, Value.bool false, Value.int IntKind.i64 0, Value.int IntKind.i64 0, Value.int IntKind.i64 0, Value.int IntKind.i64 0, Value.int IntKind.u64 0, Value.bool false, Value.int IntKind.u64 0, Value.int IntKind.i64 0, Value.string { data := { toList := [] } }, Value.int IntKind.i64 0, Value.bool false, Value.int IntKind.i64 0, Value.int IntKind.u64 0, Value.int IntKind.i64 0, Value.slice none 0 0] }, Value.int IntKind.i64 0, Value.int IntKind.i64 0, Value.int IntKind.i64 0] }], [], 0, 0⟩ ∧
  tiOf Tryz.prog 54 = ⟨TK.other, 1, 8, some [Value.nilFunc], [], 0, 0⟩ ∧
  tiOf Tryz.prog 55 = ⟨TK.int IntKind.u16, 1, 2, some [Value.int IntKind.u16 0], [], 0, 0⟩ ∧
  tiOf Tryz.prog 56 = ⟨TK.other, 1, 0, some [Value.tuple { toList := [Value.agg { toList := [Value.int IntKind.u64 0, Value.int IntKind.u64 0, Value.int IntKind.i64 0, Value.bool false, Value.int IntKind.u64 0, Value.int IntKind.i64 0, Value.int IntKind.i64 0, Value.int IntKind.i64 0, Value.slice none 0 0, Value.int IntKind.i64 0, Value.slice none 0 0, Value.int IntKind.i64 0, Value.int IntKind.i64 0, Value.int IntKind.i64 0, Value.bool false, Value.slice none 0 0, Value.bool false, Value.int IntKind.i64 0, Value.int IntKind.i64 0, Value.int IntKind.i64 0, Value.int IntKind.i64 0, Value.int IntKind.u64 0, Value.bool false, Value.int IntKind.u64 0, Value.int IntKind.i64 0, Value.string { data := { toList := [] } }, Value.int IntKind.i64 0, Value.bool false, Value.int IntKind.i64 0, Value.int IntKind.u64 0, Value.int IntKind.i64 0, Value.slice none 0 0] }, Value.int IntKind.i64 0, Value.int IntKind.i64 0] }], [], 0, 0⟩ ∧
  tiOf Tryz.prog 57 = ⟨TK.other, 1, 8, some [Value.nilFunc], [], 0, 0⟩ ∧
  tiOf Tryz.prog 58 = ⟨TK.other, 1, 8, some [Value.nilFunc], [], 0, 0⟩ ∧
  tiOf Tryz.prog 59 = ⟨TK.other, 1, 8, some [Value.nilFunc], [], 0, 0⟩ ∧
  tiOf Tryz.prog 60 = ⟨TK.struct, 9, 88, some [Value.string { data := { toList := [] } }, Value.string { data := { toList := [] } }, Value.string { data := { toList := [] } }, Value.int IntKind.u64 0, Value.int IntKind.i64 0, Value.bool false, Value.int IntKind.i64 0, Value.bool false, Value.bool false], [(0, 1, TK.str), (1, 1, TK.str), (2, 1, TK.str), (3, 1, TK.int IntKind.u64), (4, 1, TK.int IntKind.i64), (5, 1, TK.bool), (6, 1, TK.int IntKind.i64), (7, 1, TK.bool), (8, 1, TK.bool)], 0, 0⟩ ∧
  tiOf Tryz.prog 61 = ⟨TK.struct, 9, 88, some [Value.string { data := { toList := [] } }, Value.string { data := { toList := [] } }, Value.string { data := { toList := [] } }, Value.int IntKind.u64 0, Value.int IntKind.i64 0, Value.bool false, Value.int IntKind.i64 0, Value.bool false, Value.bool false], [(0, 1, TK.str), (1, 1, TK.str), (2, 1, TK.str), (3, 1, TK.int IntKind.u64), (4, 1, TK.int IntKind.i64), (5, 1, TK.bool), (6, 1, TK.int IntKind.i64), (7, 1, TK.bool), (8, 1, TK.bool)], 0, 0⟩ ∧
  tiOf Tryz.prog 62 = ⟨TK.other, 1, 8, some [Value.nilFunc], [], 0, 0⟩ ∧
  tiOf Tryz.prog 63 = ⟨TK.other, 1, 0, some [Value.tuple { toList := [Value.slice none 0 0, Value.int IntKind.i64 0] }], [], 0, 0⟩ ∧
  tiOf Tryz.prog 64 = ⟨TK.other, 1, 8, some [Value.nilFunc], [], 0, 0⟩ ∧
  tiOf Tryz.prog 65 = ⟨TK.other, 1, 8, some [Value.nilFunc], [], 0, 0⟩ ∧
  tiOf Tryz.prog 66 = ⟨TK.other, 1, 8, some [Value.nilFunc], [], 0, 0⟩ ∧
  tiOf Tryz.prog 67 = ⟨TK.other, 1, 8, some [Value.nilFunc], [], 0, 0⟩ ∧
  tiOf Tryz.prog 68 = ⟨TK.other, 1, 8, some [Value.nilFunc], [], 0, 0⟩ ∧
  tiOf Tryz.prog 69 = ⟨TK.slice, 1, 24, some [Value.slice none 0 0], [], 86, 0⟩ ∧
  tiOf Tryz.prog 70 = ⟨TK.other, 1, 8, some [Value.nilFunc], [], 0, 0⟩ ∧
  tiOf Tryz.prog 71 = ⟨TK.slice, 1, 24, some [Value.slice none 0 0], [], 61, 0⟩ ∧
  tiOf Tryz.prog 72 = ⟨TK.other, 1, 8, some [Value.nilFunc], [], 0, 0⟩ ∧
  tiOf Tryz.prog 73 = ⟨TK.struct, 4, 32, some [Value.bool false, Value.int IntKind.u64 0, Value.int IntKind.i64 0, Value.int IntKind.i64 0], [(0, 1, TK.bool), (1, 1, TK.int IntKind.u64), (2, 1, TK.int IntKind.i64), (3, 1, TK.int IntKind.i64)], 0, 0⟩ ∧
  tiOf Tryz.prog 74 = ⟨TK.struct, 4, 32, some [Value.bool false, Value.int IntKind.u64 0, Value.int IntKind.i64 0, Value.int IntKind.i64 0], [(0, 1, TK.bool), (1, 1, TK.int IntKind.u64), (2, 1, TK.int IntKind.i64), (3, 1, TK.int IntKind.i64)], 0, 0⟩ ∧
  tiOf Tryz.prog 75 = ⟨TK.other, 1, 8, some [Value.nilFunc], [], 0, 0⟩ ∧
  tiOf Tryz.prog 76 = ⟨TK.other, 1, 8, some [Value.nilFunc], [], 0, 0⟩ ∧
  tiOf Tryz.prog 77 = ⟨TK.other, 1, 0, some [Value.tuple { toList := [Value.agg { toList := [Value.int IntKind.i64 0, Value.slice none 0 0] }, Value.int IntKind.i64 0] }], [], 0, 0⟩ ∧
  tiOf Tryz.prog 78 = ⟨TK.other, 1, 8, some [Value.nilFunc], [], 0, 0⟩ ∧
  tiOf Tryz.prog 79 = ⟨TK.other, 1, 8, some [Value.nilFunc], [], 0, 0⟩ ∧
  tiOf Tryz.prog 80 = ⟨TK.other, 1, 8, some [Value.nilFunc], [], 0, 0⟩ ∧
  tiOf Tryz.prog 81 = ⟨TK.other, 1, 8, some [Value.nilFunc], [], 0, 0⟩ ∧
  tiOf Tryz.prog 82 = ⟨TK.other, 1, 8, some [Value.nilFunc], [], 0, 0⟩ ∧
  tiOf Tryz.prog 83 = ⟨TK.slice, 1, 24, some [Value.slice none 0 0], [], 88, 0⟩ ∧
  tiOf Tryz.prog 84 = ⟨TK.other, 1, 8, some [Value.nilFunc], [], 0, 0⟩ ∧
  tiOf Tryz.prog 85 = ⟨TK.struct, 4, 32, some [Value.int IntKind.u64 0, Value.int IntKind.i64 0, Value.int IntKind.i64 0, Value.int IntKind.i64 0], [(0, 1, TK.int IntKind.u64), (1, 1, TK.int IntKind.i64), (2, 1, TK.int IntKind.i64), (3, 1, TK.int IntKind.i64)], 0, 0⟩ ∧
  tiOf Tryz.prog 86 = ⟨TK.struct, 4, 32, some [Value.int IntKind.u64 0, Value.int IntKind.i64 0, Value.int IntKind.i64 0, Value.int IntKind.i64 0], [(0, 1, TK.int IntKind.u64), (1, 1, TK.int IntKind.i64), (2, 1, TK.int IntKind.i64), (3, 1, TK.int IntKind.i64)], 0, 0⟩ ∧
  tiOf Tryz.prog 87 = ⟨TK.struct, 5, 40, some [Value.int IntKind.i64 0, Value.int IntKind.u64 0, Value.int IntKind.i64 0, Value.int IntKind.i64 0, Value.int IntKind.i64 0], [(0, 1, TK.int IntKind.i64), (1, 4, TK.struct)], 0, 0⟩ ∧
  tiOf Tryz.prog 88 = ⟨TK.struct, 5, 40, some [Value.int IntKind.i64 0, Value.int IntKind.u64 0, Value.int IntKind.i64 0, Value.int IntKind.i64 0, Value.int IntKind.i64 0], [(0, 1, TK.int IntKind.i64), (1, 4, TK.struct)], 0, 0⟩ ∧
  tiOf Tryz.prog 89 = ⟨TK.other, 1, 0, some [Value.tuple { toList := [Value.slice none 0 0, Value.int IntKind.i64 0, Value.int IntKind.i64 0] }], [], 0, 0⟩ :=
  ⟨by kernel_rfl, by kernel_rfl, by kernel_rfl, by kernel_rfl, by kernel_rfl, by kernel_rfl, by kernel_rfl, by kernel_rfl, by kernel_rfl, by kernel_rfl, by kernel_rfl, by kernel_rfl, by kernel_rfl, by kernel_rfl, by kernel_rfl, by kernel_rfl, by kernel_rfl, by kernel_rfl, by kernel_rfl, by kernel_rfl, by kernel_rfl, by kernel_rfl, by kernel_rfl, by kernel_rfl, by kernel_rfl, by kernel_rfl, by kernel_rfl, by kernel_rfl, by kernel_rfl, by kernel_rfl, by kernel_rfl, by kernel_rfl, by kernel_rfl, by kernel_rfl, by kernel_rfl, by kernel_rfl, by kernel_rfl, by kernel_rfl, by kernel_rfl, by kernel_rfl, by kernel_rfl, by kernel_rfl, by kernel_rfl, by kernel_rfl, by kernel_rfl⟩
theorem tis2 : tiOf Tryz.prog 90 = ⟨TK.other, 1, 8, some [Value.nilFunc], [], 0, 0⟩ ∧
  tiOf Tryz.prog 91 = ⟨TK.other, 1, 8, some [Value.nilFunc], [], 0, 0⟩ ∧
  tiOf Tryz.prog 92 = ⟨TK.other, 1, 8, some [Value.nilFunc], [], 0, 0⟩ ∧
  tiOf Tryz.prog 93 = ⟨TK.struct, 2, 32, some [Value.int IntKind.i64 0, Value.slice none 0 0], [(0, 1, TK.int IntKind.i64), (1, 1, TK.slice)], 0, 0⟩ ∧
  tiOf Tryz.prog 94 = ⟨TK.struct, 2, 32, some [Value.int IntKind.i64 0, Value.slice none 0 0], [(0, 1, TK.int IntKind.i64), (1, 1, TK.slice)], 0, 0⟩ ∧
  tiOf Tryz.prog 95 = ⟨TK.other, 1, 0, some [Value.tuple { toList := [Value.agg { toList := [Value.int IntKind.i64 0, Value.slice none 0 0, Value.int IntKind.i64 0, Value.int IntKind.i64 0, Value.int IntKind.i64 0, Value.bool false, Value.slice none 0 0] }, Value.int IntKind.i64 0, Value.int IntKind.i64 0] }], [], 0, 0⟩ ∧
  tiOf Tryz.prog 96 = ⟨TK.other, 1, 8, some [Value.nilFunc], [], 0, 0⟩ ∧
  tiOf Tryz.prog 97 = ⟨TK.other, 1, 8, some [Value.nilFunc], [], 0, 0⟩ ∧
  tiOf Tryz.prog 98 = ⟨TK.other, 1, 8, some [Value.nilFunc], [], 0, 0⟩ ∧
  tiOf Tryz.prog 99 = ⟨TK.other, 1, 8, some [Value.nilFunc], [], 0, 0⟩ ∧
  tiOf Tryz.prog 100 = ⟨TK.other, 1, 8, some [Value.nilFunc], [], 0, 0⟩ ∧
  tiOf Tryz.prog 101 = ⟨TK.other, 1, 0, some [Value.tuple { toList := [Value.agg { toList := [Value.int IntKind.u64 0, Value.int IntKind.u64 0, Value.int IntKind.i64 0, Value.bool false, Value.int IntKind.u64 0, Value.int IntKind.i64 0, Value.int IntKind.i64 0, Value.int IntKind.i64 0, Value.slice none 0 0, Value.int IntKind.i64 0, Value.slice none 0 0, Value.int IntKind.i64 0, Value.int IntKind.i64 0, Value.int IntKind.i64 0, Value.bool false, Value.slice none 0 0, Value.bool false, Value.int IntKind.i64 0, Value.int IntKind.i64 0, Value.int IntKind.i64 0, Value.int IntKind.i64 0, Value.int IntKind.u64 0, Value.bool false, Value.int IntKind.u64 0, Value.int IntKind.i64 0, Value.string { data := { toList := [] } }, Value.int IntKind.i64 0, Value.bool false, Value.int IntKind.i64 0, Value.int IntKind.u64 0, Value.int IntKind.i64 0, Value.slice none 0 0] }, Value.int IntKind.u64 0] }], [], 0, 0⟩ ∧
  tiOf Tryz.prog 102 = ⟨TK.other, 1, 8, some [Value.nilFunc], [], 0, 0⟩ ∧
  tiOf Tryz.prog 103 = ⟨TK.other, 1, 8, some [Value.nilFunc], [], 0, 0⟩ ∧
  tiOf Tryz.prog 104 = ⟨TK.other, 1, 8, some [Value.nilFunc], [], 0, 0⟩ ∧
  tiOf Tryz.prog 105 = ⟨TK.other, 1, 8, some [Value.nilFunc], [], 0, 0⟩ ∧
  tiOf Tryz.prog 106 = ⟨TK.other, 1, 8, some [Value.nilFunc], [], 0, 0⟩ ∧
  tiOf Tryz.prog 107 = ⟨TK.other, 1, 8, some [Value.nilFunc], [], 0, 0⟩ ∧
  tiOf Tryz.prog 108 = ⟨TK.other, 1, 8, some [Value.nilFunc], [], 0, 0⟩ ∧
  tiOf Tryz.prog 109 = ⟨TK.other, 1, 8, some [Value.nilFunc], [], 0, 0⟩ ∧
  tiOf Tryz.prog 110 = ⟨TK.other, 1, 8, some [Value.nilFunc], [], 0, 0⟩ ∧
  tiOf Tryz.prog 111 = ⟨TK.other, 1, 8, some [Value.nilFunc], [], 0, 0⟩ ∧
  tiOf Tryz.prog 112 = ⟨TK.other, 1, 8, some [Value.nilFunc], [], 0, 0⟩ ∧
  tiOf Tryz.prog 113 = ⟨TK.other, 1, 8, some [Value.nilFunc], [], 0, 0⟩ ∧
  tiOf Tryz.prog 114 = ⟨TK.other, 1, 8, some [Value.nilFunc], [], 0, 0⟩ ∧
  tiOf Tryz.prog 115 = ⟨TK.other, 1, 0, some [Value.tuple { toList := [Value.int IntKind.i64 0, Value.bool false] }], [], 0, 0⟩ ∧
  tiOf Tryz.prog 116 = ⟨TK.other, 1, 8, some [Value.nilFunc], [], 0, 0⟩ ∧
  tiOf Tryz.prog 117 = ⟨TK.other, 1, 0, some [Value.tuple { toList := [Value.int IntKind.i64 0, Value.int IntKind.i64 0] }], [], 0, 0⟩ ∧
  tiOf Tryz.prog 118 = ⟨TK.other, 1, 8, some [Value.nilFunc], [], 0, 0⟩ ∧
  tiOf Tryz.prog 119 = ⟨TK.other, 1, 8, some [Value.nilFunc], [], 0, 0⟩ ∧
  tiOf Tryz.prog 120 = ⟨TK.other, 1, 8, some [Value.nilFunc], [], 0, 0⟩ ∧
  tiOf Tryz.prog 121 = ⟨TK.other, 1, 0, some [Value.tuple { toList := [Value.agg { toList := [Value.string { data := { toList := [] } }, Value.string { data := { toList := [] } }, Value.string { data := { toList := [] } }, Value.int IntKind.u64 0, Value.int IntKind.i64 0, Value.bool false, Value.int IntKind.i64 0, Value.bool false, Value.bool false] }, Value.bool false] }], [], 0, 0⟩ ∧
  tiOf Tryz.prog 122 = ⟨TK.other, 1, 8, some [Value.nilFunc], [], 0, 0⟩ ∧
  tiOf Tryz.prog 123 = ⟨TK.other, 1, 8, some [Value.nilFunc], [], 0, 0⟩ ∧
  tiOf Tryz.prog 124 = ⟨TK.other, 1, 0, some [Value.tuple { toList := [Value.agg { toList := [Value.int IntKind.u64 0, Value.int IntKind.i64 0, Value.int IntKind.i64 0, Value.int IntKind.i64 0] }, Value.bool false] }], [], 0, 0⟩ ∧
  tiOf Tryz.prog 125 = ⟨TK.other, 1, 8, some [Value.nilFunc], [], 0, 0⟩ ∧
  tiOf Tryz.prog 126 = ⟨TK.other, 1, 8, some [Value.nilFunc], [], 0, 0⟩ ∧
  tiOf Tryz.prog 127 = ⟨TK.other, 1, 8, some [Value.nilFunc], [], 0, 0⟩ ∧
  tiOf Tryz.prog 128 = ⟨TK.slice, 1, 24, some [Value.slice none 0 0], [], 183, 0⟩ ∧
  tiOf Tryz.prog 129 = ⟨TK.other, 1, 8, some [Value.nilFunc], [], 0, 0⟩ ∧
  tiOf Tryz.prog 130 = ⟨TK.other, 1, 8, some [Value.nilFunc], [], 0, 0⟩ ∧
  tiOf Tryz.prog 131 = ⟨TK.other, 1, 8, some [Value.nilFunc], [], 0, 0⟩ ∧
  tiOf Tryz.prog 132 = ⟨TK.other, 1, 8, some [Value.nilFunc], [], 0, 0⟩ ∧
  tiOf Tryz.prog 133 = ⟨TK.other, 1, 8, some [Value.nilFunc], [], 0, 0⟩ ∧
  tiOf Tryz.prog 134 = ⟨TK.other, 1, 8, some [Value.nilFunc], [], 0, 0⟩ :=
  ⟨by kernel_rfl, by kernel_rfl, by kernel_rfl, by kernel_rfl, by kernel_rfl, by kernel_rfl, by kernel_rfl, by kernel_rfl, by kernel_rfl, by kernel_rfl, by kernel_rfl, by kernel_rfl, by kernel_rfl, by kernel_rfl, by kernel_rfl, by kernel_rfl, by kernel_rfl, by kernel_rfl, by kernel_rfl, by kernel_rfl, by kernel_rfl, by kernel_rfl, by kernel_rfl, by kernel_rfl, by kernel_rfl, by kernel_rfl, by kernel_rfl, by kernel_rfl, by kernel_rfl, by kernel_rfl, by kernel_rfl, by kernel_rfl, by kernel_rfl, by kernel_rfl, by kernel_rfl, by kernel_rfl, by kernel_rfl, by kernel_rfl, by kernel_rfl, by kernel_rfl, by kernel_rfl, by kernel_rfl, by kernel_rfl, by kernel_rfl, by kernel_rfl⟩
theorem tis3 : tiOf Tryz.prog 135 = ⟨TK.other, 1, 8, some [Value.nilFunc], [], 0, 0⟩ ∧
  tiOf Tryz.prog 136 = ⟨TK.other, 1, 8, some [Value.nilFunc], [], 0, 0⟩ ∧
  tiOf Tryz.prog 137 = ⟨TK.other, 1, 8, some [Value.nilFunc], [], 0, 0⟩ ∧
  tiOf Tryz.prog 138 = ⟨TK.other, 1, 8, some [Value.nilFunc], [], 0, 0⟩ ∧
  tiOf Tryz.prog 139 = ⟨TK.other, 1, 0, some [Value.tuple { toList := [Value.int IntKind.i64 0, Value.int IntKind.i64 0] }], [], 0, 0⟩ ∧
  tiOf Tryz.prog 140 = ⟨TK.other, 1, 8, some [Value.nilFunc], [], 0, 0⟩ ∧
  tiOf Tryz.prog 141 = ⟨TK.other, 1, 8, some [Value.nilFunc], [], 0, 0⟩ ∧
  tiOf Tryz.prog 142 = ⟨TK.other, 1, 0, some [Value.tuple { toList := [Value.agg { toList := [Value.int IntKind.i64 0, Value.slice none 0 0, Value.int IntKind.i64 0, Value.int IntKind.i64 0, Value.int IntKind.i64 0, Value.bool false] }, Value.int IntKind.i64 0] }], [], 0, 0⟩ ∧
  tiOf Tryz.prog 143 = ⟨TK.other, 1, 8, some [Value.nilFunc], [], 0, 0⟩ ∧
  tiOf Tryz.prog 144 = ⟨TK.other, 1, 0, some [Value.tuple { toList := [Value.agg { toList := [Value.int IntKind.i64 0, Value.slice none 0 0, Value.int IntKind.i64 0, Value.int IntKind.i64 0, Value.int IntKind.i64 0, Value.bool false] }, Value.int IntKind.i64 0, Value.int IntKind.i64 0] }], [], 0, 0⟩ ∧
  tiOf Tryz.prog 145 = ⟨TK.other, 1, 8, some [Value.nilFunc], [], 0, 0⟩ ∧
  tiOf Tryz.prog 146 = ⟨TK.other, 1, 8, some [Value.nilFunc], [], 0, 0⟩ ∧
  tiOf Tryz.prog 147 = ⟨TK.other, 1, 8, some [Value.nilFunc], [], 0, 0⟩ ∧
  tiOf Tryz.prog 148 = ⟨TK.other, 1, 8, some [Value.nilFunc], [], 0, 0⟩ ∧
  tiOf Tryz.prog 149 = ⟨TK.other, 1, 8, some [Value.nilFunc], [], 0, 0⟩ ∧
  tiOf Tryz.prog 150 = ⟨TK.other, 1, 8, some [Value.nilFunc], [], 0, 0⟩ ∧
  tiOf Tryz.prog 151 = ⟨TK.other, 1, 8, some [Value.nilFunc], [], 0, 0⟩ ∧
  tiOf Tryz.prog 152 = ⟨TK.other, 1, 8, some [Value.map none], [], 0, 0⟩ ∧
  tiOf Tryz.prog 153 = ⟨TK.other, 1, 8, some [Value.nilFunc], [], 0, 0⟩ ∧
  tiOf Tryz.prog 154 = ⟨TK.other, 1, 8, some [Value.nilFunc], [], 0, 0⟩ ∧
  tiOf Tryz.prog 155 = ⟨TK.other, 1, 8, some [Value.nilFunc], [], 0, 0⟩ ∧
  tiOf Tryz.prog 156 = ⟨TK.other, 1, 8, some [Value.nilFunc], [], 0, 0⟩ ∧
  tiOf Tryz.prog 157 = ⟨TK.other, 1, 8, some [Value.nilFunc], [], 0, 0⟩ ∧
  tiOf Tryz.prog 158 = ⟨TK.other, 1, 8, some [Value.nilFunc], [], 0, 0⟩ ∧
  tiOf Tryz.prog 159 = ⟨TK.slice, 1, 24, some [Value.slice none 0 0], [], 9, 0⟩ ∧
  tiOf Tryz.prog 160 = ⟨TK.other, 1, 8, some [Value.nilFunc], [], 0, 0⟩ ∧
  tiOf Tryz.prog 161 = ⟨TK.struct, 3, 32, some [Value.int IntKind.i64 0, Value.int IntKind.u64 0, Value.string { data := { toList := [] } }], [(0, 1, TK.int IntKind.i64), (1, 1, TK.int IntKind.u64), (2, 1, TK.str)], 0, 0⟩ ∧
  tiOf Tryz.prog 162 = ⟨TK.struct, 3, 32, some [Value.int IntKind.i64 0, Value.int IntKind.u64 0, Value.string { data := { toList := [] } }], [(0, 1, TK.int IntKind.i64), (1, 1, TK.int IntKind.u64), (2, 1, TK.str)], 0, 0⟩ ∧
  tiOf Tryz.prog 163 = ⟨TK.other, 1, 8, some [Value.nilFunc], [], 0, 0⟩ ∧
  tiOf Tryz.prog 164 = ⟨TK.other, 1, 8, some [Value.nilFunc], [], 0, 0⟩ ∧
  tiOf Tryz.prog 165 = ⟨TK.other, 1, 8, some [Value.nilFunc], [], 0, 0⟩ ∧
  tiOf Tryz.prog 166 = ⟨TK.slice, 1, 24, some [Value.slice none 0 0], [], 162, 0⟩ ∧
  tiOf Tryz.prog 167 = ⟨TK.other, 1, 8, some [Value.nilFunc], [], 0, 0⟩ ∧
  tiOf Tryz.prog 168 = ⟨TK.other, 1, 8, some [Value.nilFunc], [], 0, 0⟩ ∧
  tiOf Tryz.prog 169 = ⟨TK.other, 1, 8, some [Value.nilFunc], [], 0, 0⟩ ∧
  tiOf Tryz.prog 170 = ⟨TK.other, 1, 8, some [Value.nilFunc], [], 0, 0⟩ ∧
  tiOf Tryz.prog 171 = ⟨TK.slice, 1, 24, some [Value.slice none 0 0], [], 22, 0⟩ ∧
  tiOf Tryz.prog 172 = ⟨TK.other, 1, 8, some [Value.nilFunc], [], 0, 0⟩ ∧
  tiOf Tryz.prog 173 = ⟨TK.other, 1, 0, some [Value.tuple { toList := [Value.slice none 0 0, Value.int IntKind.i64 0] }], [], 0, 0⟩ ∧
  tiOf Tryz.prog 174 = ⟨TK.other, 1, 8, some [Value.nilFunc], [], 0, 0⟩ ∧
  tiOf Tryz.prog 175 = ⟨TK.other, 1, 8, some [Value.nilFunc], [], 0, 0⟩ ∧
  tiOf Tryz.prog 176 = ⟨TK.other, 1, 8, some [Value.nilFunc], [], 0, 0⟩ ∧
  tiOf Tryz.prog 177 = ⟨TK.other, 1, 8, some [Value.nilFunc], [], 0, 0⟩ ∧
  tiOf Tryz.prog 178 = ⟨TK.other, 1, 8, some [Value.nilFunc], [], 0, 0⟩ ∧
  tiOf Tryz.prog 179 = ⟨TK.slice, 1, 24, some [Value.slice none 0 0], [], 166, 0⟩ :=
  ⟨by kernel_rfl, by kernel_rfl, by kernel_rfl, by kernel_rfl, by kernel_rfl, by kernel_rfl, by kernel_rfl, by kernel_rfl, by kernel_rfl, by kernel_rfl, by kernel_rfl, by kernel_rfl, by kernel_rfl, by kernel_rfl, by kernel_rfl, by kernel_rfl, by kernel_rfl, by kernel_rfl, by kernel_rfl, by kernel_rfl, by kernel_rfl, by kernel_rfl, by kernel_rfl, by kernel_rfl, by kernel_rfl, by kernel_rfl, by kernel_rfl, by kernel_rfl, by kernel_rfl, by kernel_rfl, by kernel_rfl, by kernel_rfl, by kernel_rfl, by kernel_rfl, by kernel_rfl, by kernel_rfl, by kernel_rfl, by kernel_rfl, by kernel_rfl, by kernel_rfl, by kernel_rfl, by kernel_rfl, by kernel_rfl, by kernel_rfl, by kernel_rfl⟩
theorem tis4 : tiOf Tryz.prog 180 = ⟨TK.other, 1, 8, some [Value.nilFunc], [], 0, 0⟩ ∧
  tiOf Tryz.prog 181 = ⟨TK.array, 8, 8, some [Value.bool false, Value.bool false, Value.bool false, Value.bool false, Value.bool false, Value.bool false, Value.bool false, Value.bool false], [], 4, 8⟩ ∧
  tiOf Tryz.prog 182 = ⟨TK.struct, 10, 96, some [Value.int IntKind.i64 0, Value.string { data := { toList := [] } }, Value.string { data := { toList := [] } }, Value.string { data := { toList := [] } }, Value.int IntKind.u64 0, Value.int IntKind.i64 0, Value.bool false, Value.int IntKind.i64 0, Value.bool false, Value.bool false], [(0, 1, TK.int IntKind.i64), (1, 9, TK.struct)], 0, 0⟩ ∧
  tiOf Tryz.prog 183 = ⟨TK.struct, 10, 96, some [Value.int IntKind.i64 0, Value.string { data := { toList := [] } }, Value.string { data := { toList := [] } }, Value.string { data := { toList := [] } }, Value.int IntKind.u64 0, Value.int IntKind.i64 0, Value.bool false, Value.int IntKind.i64 0, Value.bool false, Value.bool false], [(0, 1, TK.int IntKind.i64), (1, 9, TK.struct)], 0, 0⟩ ∧
  tiOf Tryz.prog 184 = ⟨TK.array, 16, 16, some [Value.bool false, Value.bool false, Value.bool false, Value.bool false, Value.bool false, Value.bool false, Value.bool false, Value.bool false, Value.bool false, Value.bool false, Value.bool false, Value.bool false, Value.bool false, Value.bool false, Value.bool false, Value.bool false], [], 4, 16⟩ ∧
  tiOf Tryz.prog 185 = ⟨TK.other, 1, 0, some [Value.tuple { toList := [Value.agg { toList := [Value.string { data := { toList := [] } }, Value.string { data := { toList := [] } }, Value.string { data := { toList := [] } }, Value.int IntKind.u64 0, Value.int IntKind.i64 0, Value.bool false, Value.int IntKind.i64 0, Value.bool false, Value.bool false] }, Value.int IntKind.i64 0] }], [], 0, 0⟩ ∧
  tiOf Tryz.prog 186 = ⟨TK.other, 1, 8, some [Value.nilFunc], [], 0, 0⟩ ∧
  tiOf Tryz.prog 187 = ⟨TK.other, 1, 0, some [Value.tuple { toList := [Value.agg { toList := [Value.int IntKind.u64 0, Value.int IntKind.i64 0, Value.int IntKind.i64 0, Value.int IntKind.i64 0] }, Value.int IntKind.i64 0] }], [], 0, 0⟩ ∧
  tiOf Tryz.prog 188 = ⟨TK.other, 1, 8, some [Value.nilFunc], [], 0, 0⟩ ∧
  tiOf Tryz.prog 189 = ⟨TK.other, 1, 0, some [Value.tuple { toList := [Value.int IntKind.u64 0, Value.int IntKind.u64 0] }], [], 0, 0⟩ ∧
  tiOf Tryz.prog 190 = ⟨TK.other, 1, 8, some [Value.nilFunc], [], 0, 0⟩ ∧
  tiOf Tryz.prog 191 = ⟨TK.other, 1, 8, some [Value.nilFunc], [], 0, 0⟩ ∧
  tiOf Tryz.prog 192 = ⟨TK.other, 1, 8, some [Value.nilFunc], [], 0, 0⟩ ∧
  tiOf Tryz.prog 193 = ⟨TK.other, 1, 8, some [Value.nilFunc], [], 0, 0⟩ ∧
  tiOf Tryz.prog 194 = ⟨TK.other, 1, 8, some [Value.nilFunc], [], 0, 0⟩ ∧
  tiOf Tryz.prog 195 = ⟨TK.other, 1, 8, some [Value.nilFunc], [], 0, 0⟩ ∧
  tiOf Tryz.prog 196 = ⟨TK.other, 1, 8, some [Value.nilFunc], [], 0, 0⟩ ∧
  tiOf Tryz.prog 197 = ⟨TK.struct, 1, 8, some [Value.int IntKind.i64 0], [(0, 1, TK.int IntKind.i64)], 0, 0⟩ ∧
  tiOf Tryz.prog 198 = ⟨TK.struct, 1, 8, some [Value.int IntKind.i64 0], [(0, 1, TK.int IntKind.i64)], 0, 0⟩ ∧
  tiOf Tryz.prog 199 = ⟨TK.struct, 3, 40, some [Value.int IntKind.i64 0, Value.int IntKind.i64 0, Value.slice none 0 0], [(0, 1, TK.int IntKind.i64), (1, 1, TK.int IntKind.i64), (2, 1, TK.slice)], 0, 0⟩ ∧
  tiOf Tryz.prog 200 = ⟨TK.struct, 3, 40, some [Value.int IntKind.i64 0, Value.int IntKind.i64 0, Value.slice none 0 0], [(0, 1, TK.int IntKind.i64), (1, 1, TK.int IntKind.i64), (2, 1, TK.slice)], 0, 0⟩ ∧
  tiOf Tryz.prog 201 = ⟨TK.other, 1, 8, some [Value.nilFunc], [], 0, 0⟩ ∧
  tiOf Tryz.prog 202 = ⟨TK.other, 1, 8, some [Value.nilFunc], [], 0, 0⟩ ∧
  tiOf Tryz.prog 203 = ⟨TK.other, 1, 8, some [Value.nilFunc], [], 0, 0⟩ ∧
  tiOf Tryz.prog 204 = ⟨TK.other, 1, 8, some [Value.nilFunc], [], 0, 0⟩ ∧
  tiOf Tryz.prog 205 = ⟨TK.other, 1, 8, some [Value.nilFunc], [], 0, 0⟩ ∧
  tiOf Tryz.prog 206 = ⟨TK.other, 1, 8, some [Value.nilFunc], [], 0, 0⟩ ∧
  tiOf Tryz.prog 207 = ⟨TK.other, 1, 8, some [Value.nilFunc], [], 0, 0⟩ ∧
  tiOf Tryz.prog 208 = ⟨TK.other, 1, 8, some [Value.nilFunc], [], 0, 0⟩ ∧
  tiOf Tryz.prog 209 = ⟨TK.array, 256, 256, some z209, [], 4, 256⟩ ∧
  tiOf Tryz.prog 210 = ⟨TK.other, 1, 8, some [Value.nilFunc], [], 0, 0⟩ ∧
  tiOf Tryz.prog 211 = ⟨TK.other, 1, 8, some [Value.nilFunc], [], 0, 0⟩ ∧
  tiOf Tryz.prog 212 = ⟨TK.other, 1, 8, some [Value.nilFunc], [], 0, 0⟩ ∧
  tiOf Tryz.prog 213 = ⟨TK.other, 1, 8, some [Value.nilFunc], [], 0, 0⟩ ∧
  tiOf Tryz.prog 214 = ⟨TK.other, 1, 8, some [Value.nilFunc], [], 0, 0⟩ ∧
  tiOf Tryz.prog 215 = ⟨TK.other, 1, 8, some [Value.nilFunc], [], 0, 0⟩ ∧
  tiOf Tryz.prog 216 = ⟨TK.other, 1, 8, some [Value.nilFunc], [], 0, 0⟩ ∧
  tiOf Tryz.prog 217 = ⟨TK.other, 1, 8, some [Value.nilFunc], [], 0, 0⟩ ∧
  tiOf Tryz.prog 218 = ⟨TK.other, 1, 8, some [Value.nilFunc], [], 0, 0⟩ ∧
  tiOf Tryz.prog 219 = ⟨TK.other, 1, 8, some [Value.nilFunc], [], 0, 0⟩ ∧
  tiOf Tryz.prog 220 = ⟨TK.other, 1, 8, some [Value.nilFunc], [], 0, 0⟩ ∧
  tiOf Tryz.prog 221 = ⟨TK.other, 1, 8, some [Value.nilFunc], [], 0, 0⟩ ∧
  tiOf Tryz.prog 222 = ⟨TK.other, 1, 8, some [Value.nilFunc], [], 0, 0⟩ ∧
  tiOf Tryz.prog 223 = ⟨TK.other, 1, 8, some [Value.nilFunc], [], 0, 0⟩ ∧
  tiOf Tryz.prog 224 = ⟨TK.other, 1, 8, some [Value.nilFunc], [], 0, 0⟩ :=
  ⟨by kernel_rfl, by kernel_rfl, by kernel_rfl, by kernel_rfl, by kernel_rfl, by kernel_rfl, by kernel_rfl, by kernel_rfl, by kernel_rfl, by kernel_rfl, by kernel_rfl, by kernel_rfl, by kernel_rfl, by kernel_rfl, by kernel_rfl, by kernel_rfl, by kernel_rfl, by kernel_rfl, by kernel_rfl, by kernel_rfl, by kernel_rfl, by kernel_rfl, by kernel_rfl, by kernel_rfl, by kernel_rfl, by kernel_rfl, by kernel_rfl, by kernel_rfl, by kernel_rfl, by kernel_rfl, by kernel_rfl, by kernel_rfl, by kernel_rfl, by kernel_rfl, by kernel_rfl, by kernel_rfl, by kernel_rfl, by kernel_rfl, by kernel_rfl, by kernel_rfl, by kernel_rfl, by kernel_rfl, by kernel_rfl, by kernel_rfl, by kernel_rfl⟩
theorem tis5 : tiOf Tryz.prog 225 = ⟨TK.other, 1, 8, some [Value.nilFunc], [], 0, 0⟩ ∧
  tiOf Tryz.prog 226 = ⟨TK.other, 1, 0, some [Value.tuple { toList := [Value.agg { toList := [Value.string { data := { toList := [] } }, Value.string { data := { toList := [] } }, Value.string { data := { toList := [] } }, Value.int IntKind.u64 0, Value.int IntKind.i64 0, Value.bool false, Value.int IntKind.i64 0, Value.bool false, Value.bool false] }, Value.int IntKind.i64 0, Value.bool false] }], [], 0, 0⟩ ∧
  tiOf Tryz.prog 227 = ⟨TK.other, 1, 8, some [Value.nilFunc], [], 0, 0⟩ ∧
  tiOf Tryz.prog 228 = ⟨TK.other, 1, 0, some [Value.tuple { toList := [Value.slice none 0 0, Value.int IntKind.i64 0, Value.int IntKind.i64 0] }], [], 0, 0⟩ ∧
  tiOf Tryz.prog 229 = ⟨TK.other, 1, 8, some [Value.nilFunc], [], 0, 0⟩ ∧
  tiOf Tryz.prog 230 = ⟨TK.other, 1, 8, some [Value.nilFunc], [], 0, 0⟩ ∧
  tiOf Tryz.prog 231 = ⟨TK.int IntKind.u32, 1, 4, some [Value.int IntKind.u32 0], [], 0, 0⟩ ∧
  tiOf Tryz.prog 232 = ⟨TK.other, 1, 0, some [Value.tuple { toList := [Value.int IntKind.u32 0, Value.int IntKind.u32 0] }], [], 0, 0⟩ ∧
  tiOf Tryz.prog 233 = ⟨TK.other, 1, 8, some [Value.nilFunc], [], 0, 0⟩ ∧
  tiOf Tryz.prog 234 = ⟨TK.other, 1, 0, some [Value.tuple { toList := [Value.int IntKind.u64 0, Value.int IntKind.u64 0] }], [], 0, 0⟩ ∧
  tiOf Tryz.prog 235 = ⟨TK.other, 1, 8, some [Value.nilFunc], [], 0, 0⟩ ∧
  tiOf Tryz.prog 236 = ⟨TK.other, 1, 8, some [Value.nilFunc], [], 0, 0⟩ ∧
  tiOf Tryz.prog 237 = ⟨TK.other, 1, 0, some [Value.tuple { toList := [Value.slice none 0 0, Value.int IntKind.i64 0] }], [], 0, 0⟩ ∧
  tiOf Tryz.prog 238 = ⟨TK.other, 1, 8, some [Value.nilFunc], [], 0, 0⟩ ∧
  tiOf Tryz.prog 239 = ⟨TK.other, 1, 8, some [Value.nilFunc], [], 0, 0⟩ ∧
  tiOf Tryz.prog 240 = ⟨TK.other, 1, 0, some [Value.tuple { toList := [Value.agg { toList := [Value.int IntKind.i64 0, Value.slice none 0 0] }, Value.int IntKind.i64 0, Value.int IntKind.i64 0] }], [], 0, 0⟩ ∧
  tiOf Tryz.prog 241 = ⟨TK.other, 1, 8, some [Value.nilFunc], [], 0, 0⟩ ∧
  tiOf Tryz.prog 242 = ⟨TK.other, 1, 8, some [Value.nilFunc], [], 0, 0⟩ ∧
  tiOf Tryz.prog 243 = ⟨TK.other, 1, 0, some [Value.tuple { toList := [Value.slice none 0 0, Value.bool false] }], [], 0, 0⟩ ∧
  tiOf Tryz.prog 244 = ⟨TK.other, 1, 8, some [Value.nilFunc], [], 0, 0⟩ ∧
  tiOf Tryz.prog 245 = ⟨TK.other, 1, 8, some [Value.nilFunc], [], 0, 0⟩ ∧
  tiOf Tryz.prog 246 = ⟨TK.other, 1, 8, some [Value.nilFunc], [], 0, 0⟩ ∧
  tiOf Tryz.prog 247 = ⟨TK.other, 1, 8, some [Value.nilFunc], [], 0, 0⟩ ∧
  tiOf Tryz.prog 248 = ⟨TK.slice, 1, 24, some [Value.slice none 0 0], [], 250, 0⟩ ∧
  tiOf Tryz.prog 249 = ⟨TK.iface, 1, 16, some [Value.nilIface], [], 0, 0⟩ ∧
  tiOf Tryz.prog 250 = ⟨TK.iface, 1, 16, some [Value.nilIface], [], 0, 0⟩ ∧
  tiOf Tryz.prog 251 = ⟨TK.other, 1, 8, some [Value.nilFunc], [], 0, 0⟩ ∧
  tiOf Tryz.prog 252 = ⟨TK.other, 1, 8, some [Value.nilFunc], [], 0, 0⟩ ∧
  tiOf Tryz.prog 253 = ⟨TK.other, 1, 8, some [Value.nilFunc], [], 0, 0⟩ ∧
  tiOf Tryz.prog 254 = ⟨TK.other, 1, 8, some [Value.nilFunc], [], 0, 0⟩ ∧
  tiOf Tryz.prog 255 = ⟨TK.array, 256, 256, some z255, [], 5, 256⟩ ∧
  tiOf Tryz.prog 256 = ⟨TK.struct, 2, 2, some [Value.int IntKind.u8 0, Value.int IntKind.u8 0], [(0, 1, TK.int IntKind.u8), (1, 1, TK.int IntKind.u8)], 0, 0⟩ ∧
  tiOf Tryz.prog 257 = ⟨TK.struct, 2, 2, some [Value.int IntKind.u8 0, Value.int IntKind.u8 0], [(0, 1, TK.int IntKind.u8), (1, 1, TK.int IntKind.u8)], 0, 0⟩ ∧
  tiOf Tryz.prog 258 = ⟨TK.array, 32, 32, some [Value.int IntKind.u8 0, Value.int IntKind.u8 0, Value.int IntKind.u8 0, Value.int IntKind.u8 0, Value.int IntKind.u8 0, Value.int IntKind.u8 0, Value.int IntKind.u8 0, Value.int IntKind.u8 0, Value.int IntKind.u8 0, Value.int IntKind.u8 0, Value.int IntKind.u8 0, Value.int IntKind.u8 0, Value.int IntKind.u8 0, Value.int IntKind.u8 0, Value.int IntKind.u8 0, Value.int IntKind.u8 0, Value.int IntKind.u8 0, Value.int IntKind.u8 0, Value.int IntKind.u8 0, Value.int IntKind.u8 0, Value.int IntKind.u8 0, Value.int IntKind.u8 0, Value.int IntKind.u8 0, Value.int IntKind.u8 0, Value.int IntKind.u8 0, Value.int IntKind.u8 0, Value.int IntKind.u8 0, Value.int IntKind.u8 0, Value.int IntKind.u8 0, Value.int IntKind.u8 0, Value.int IntKind.u8 0, Value.int IntKind.u8 0], [], 257, 16⟩ ∧
  tiOf Tryz.prog 259 = ⟨TK.other, 1, 8, some [Value.nilFunc], [], 0, 0⟩ ∧
  tiOf Tryz.prog 260 = ⟨TK.other, 1, 8, some [Value.nilFunc], [], 0, 0⟩ ∧
  tiOf Tryz.prog 261 = ⟨TK.array, 4, 32, some [Value.int IntKind.u64 0, Value.int IntKind.u64 0, Value.int IntKind.u64 0, Value.int IntKind.u64 0], [], 22, 4⟩ ∧
  tiOf Tryz.prog 262 = ⟨TK.other, 1, 8, some [Value.nilFunc], [], 0, 0⟩ ∧
  tiOf Tryz.prog 263 = ⟨TK.other, 1, 8, some [Value.nilFunc], [], 0, 0⟩ ∧
  tiOf Tryz.prog 264 = ⟨TK.other, 1, 8, some [Value.nilFunc], [], 0, 0⟩ ∧
  tiOf Tryz.prog 265 = ⟨TK.other, 1, 8, some [Value.nilFunc], [], 0, 0⟩ ∧
  tiOf Tryz.prog 266 = ⟨TK.slice, 1, 24, some [Value.slice none 0 0], [], 329, 0⟩ ∧
  tiOf Tryz.prog 267 = ⟨TK.struct, 2, 32, some [Value.slice none 0 0, Value.int IntKind.i64 0], [(0, 1, TK.slice), (1, 1, TK.int IntKind.i64)], 0, 0⟩ ∧
  tiOf Tryz.prog 268 = ⟨TK.struct, 2, 32, some [Value.slice none 0 0, Value.int IntKind.i64 0], [(0, 1, TK.slice), (1, 1, TK.int IntKind.i64)], 0, 0⟩ ∧
  tiOf Tryz.prog 269 = ⟨TK.struct, 2, 32, some [Value.slice none 0 0, Value.int IntKind.i64 0], [(0, 2, TK.struct)], 0, 0⟩ :=
  ⟨by kernel_rfl, by kernel_rfl, by kernel_rfl, by kernel_rfl, by kernel_rfl, by kernel_rfl, by kernel_rfl, by kernel_rfl, by kernel_rfl, by kernel_rfl, by kernel_rfl, by kernel_rfl, by kernel_rfl, by kernel_rfl, by kernel_rfl, by kernel_rfl, by kernel_rfl, by kernel_rfl, by kernel_rfl, by kernel_rfl, by kernel_rfl, by kernel_rfl, by kernel_rfl, by kernel_rfl, by kernel_rfl, by kernel_rfl, by kernel_rfl, by kernel_rfl, by kernel_rfl, by kernel_rfl, by kernel_rfl, by kernel_rfl, by kernel_rfl, by kernel_rfl, by kernel_rfl, by kernel_rfl, by kernel_rfl, by kernel_rfl, by kernel_rfl, by kernel_rfl, by kernel_rfl, by kernel_rfl, by kernel_rfl, by kernel_rfl, by kernel_rfl⟩
theorem tis6 : tiOf Tryz.prog 270 = ⟨TK.struct, 2, 32, some [Value.slice none 0 0, Value.int IntKind.i64 0], [(0, 2, TK.struct)], 0, 0⟩ ∧
  tiOf Tryz.prog 271 = ⟨TK.other, 1, 8, some [Value.nilFunc], [], 0, 0⟩ ∧
  tiOf Tryz.prog 272 = ⟨TK.other, 1, 8, some [Value.nilFunc], [], 0, 0⟩ ∧
  tiOf Tryz.prog 273 = ⟨TK.struct, 4, 32, some [Value.int IntKind.u64 0, Value.int IntKind.u64 0, Value.int IntKind.u64 0, Value.int IntKind.u64 0], [(0, 1, TK.int IntKind.u64), (1, 1, TK.int IntKind.u64), (2, 1, TK.int IntKind.u64), (3, 1, TK.int IntKind.u64)], 0, 0⟩ ∧
  tiOf Tryz.prog 274 = ⟨TK.struct, 4, 32, some [Value.int IntKind.u64 0, Value.int IntKind.u64 0, Value.int IntKind.u64 0, Value.int IntKind.u64 0], [(0, 1, TK.int IntKind.u64), (1, 1, TK.int IntKind.u64), (2, 1, TK.int IntKind.u64), (3, 1, TK.int IntKind.u64)], 0, 0⟩ ∧
  tiOf Tryz.prog 275 = ⟨TK.other, 1, 8, some [Value.nilFunc], [], 0, 0⟩ ∧
  tiOf Tryz.prog 276 = ⟨TK.other, 1, 8, some [Value.nilFunc], [], 0, 0⟩ ∧
  tiOf Tryz.prog 277 = ⟨TK.array, 8, 8, some [Value.int IntKind.u8 0, Value.int IntKind.u8 0, Value.int IntKind.u8 0, Value.int IntKind.u8 0, Value.int IntKind.u8 0, Value.int IntKind.u8 0, Value.int IntKind.u8 0, Value.int IntKind.u8 0], [], 5, 8⟩ ∧
  tiOf Tryz.prog 278 = ⟨TK.other, 1, 8, some [Value.nilFunc], [], 0, 0⟩ ∧
  tiOf Tryz.prog 279 = ⟨TK.other, 1, 8, some [Value.nilFunc], [], 0, 0⟩ ∧
  tiOf Tryz.prog 280 = ⟨TK.struct, 4, 64, some [Value.slice none 0 0, Value.int IntKind.i64 0, Value.slice none 0 0, Value.int IntKind.i64 0], [(0, 2, TK.struct), (2, 1, TK.slice), (3, 1, TK.int IntKind.i64)], 0, 0⟩ ∧
  tiOf Tryz.prog 281 = ⟨TK.struct, 4, 64, some [Value.slice none 0 0, Value.int IntKind.i64 0, Value.slice none 0 0, Value.int IntKind.i64 0], [(0, 2, TK.struct), (2, 1, TK.slice), (3, 1, TK.int IntKind.i64)], 0, 0⟩ ∧
  tiOf Tryz.prog 282 = ⟨TK.other, 1, 0, some [Value.tuple { toList := [Value.agg { toList := [Value.int IntKind.i64 0, Value.int IntKind.u64 0, Value.string { data := { toList := [] } }] }, Value.int IntKind.i64 0] }], [], 0, 0⟩ ∧
  tiOf Tryz.prog 283 = ⟨TK.other, 1, 8, some [Value.nilFunc], [], 0, 0⟩ ∧
  tiOf Tryz.prog 284 = ⟨TK.other, 1, 0, some [Value.tuple { toList := [Value.slice none 0 0, Value.bool false] }], [], 0, 0⟩ ∧
  tiOf Tryz.prog 285 = ⟨TK.other, 1, 8, some [Value.nilFunc], [], 0, 0⟩ ∧
  tiOf Tryz.prog 286 = ⟨TK.other, 1, 8, some [Value.nilFunc], [], 0, 0⟩ ∧
  tiOf Tryz.prog 287 = ⟨TK.other, 1, 8, some [Value.nilFunc], [], 0, 0⟩ ∧
  tiOf Tryz.prog 288 = ⟨TK.other, 1, 8, some [Value.nilFunc], [], 0, 0⟩ ∧
  tiOf Tryz.prog 289 = ⟨TK.other, 1, 8, some [Value.nilFunc], [], 0, 0⟩ ∧
  tiOf Tryz.prog 290 = ⟨TK.other, 1, 8, some [Value.nilFunc], [], 0, 0⟩ ∧
  tiOf Tryz.prog 291 = ⟨TK.other, 1, 8, some [Value.nilFunc], [], 0, 0⟩ ∧
  tiOf Tryz.prog 292 = ⟨TK.other, 1, 8, some [Value.nilFunc], [], 0, 0⟩ ∧
  tiOf Tryz.prog 293 = ⟨TK.int IntKind.i64, 1, 8, some [Value.int IntKind.i64 0], [], 0, 0⟩ ∧
  tiOf Tryz.prog 294 = ⟨TK.other, 1, 0, some [Value.tuple { toList := [Value.int IntKind.i64 0, Value.int IntKind.i64 0] }], [], 0, 0⟩ ∧
  tiOf Tryz.prog 295 = ⟨TK.other, 1, 8, some [Value.nilFunc], [], 0, 0⟩ ∧
  tiOf Tryz.prog 296 = ⟨TK.other, 1, 8, some [Value.nilFunc], [], 0, 0⟩ ∧
  tiOf Tryz.prog 297 = ⟨TK.other, 1, 8, some [Value.nilFunc], [], 0, 0⟩ ∧
  tiOf Tryz.prog 298 = ⟨TK.other, 1, 8, some [Value.nilFunc], [], 0, 0⟩ ∧
  tiOf Tryz.prog 299 = ⟨TK.other, 1, 8, some [Value.nilFunc], [], 0, 0⟩ ∧
  tiOf Tryz.prog 300 = ⟨TK.ptr, 1, 8, some [Value.pointer none], [], 270, 0⟩ ∧
  tiOf Tryz.prog 301 = ⟨TK.other, 1, 8, some [Value.nilFunc], [], 0, 0⟩ ∧
  tiOf Tryz.prog 302 = ⟨TK.other, 1, 8, some [Value.nilFunc], [], 0, 0⟩ ∧
  tiOf Tryz.prog 303 = ⟨TK.ptr, 1, 8, some [Value.pointer none], [], 268, 0⟩ ∧
  tiOf Tryz.prog 304 = ⟨TK.ptr, 1, 8, some [Value.pointer none], [], 274, 0⟩ ∧
  tiOf Tryz.prog 305 = ⟨TK.other, 1, 8, some [Value.nilFunc], [], 0, 0⟩ ∧
  tiOf Tryz.prog 306 = ⟨TK.ptr, 1, 8, some [Value.pointer none], [], 308, 0⟩ ∧
  tiOf Tryz.prog 307 = ⟨TK.struct, 3, 48, some [Value.string { data := { toList := [] } }, Value.int IntKind.i64 0, Value.slice none 0 0], [(0, 1, TK.str), (1, 1, TK.int IntKind.i64), (2, 1, TK.slice)], 0, 0⟩ ∧
  tiOf Tryz.prog 308 = ⟨TK.struct, 3, 48, some [Value.string { data := { toList := [] } }, Value.int IntKind.i64 0, Value.slice none 0 0], [(0, 1, TK.str), (1, 1, TK.int IntKind.i64), (2, 1, TK.slice)], 0, 0⟩ ∧
  tiOf Tryz.prog 309 = ⟨TK.other, 1, 8, some [Value.nilFunc], [], 0, 0⟩ ∧
  tiOf Tryz.prog 310 = ⟨TK.ptr, 1, 8, some [Value.pointer none], [], 281, 0⟩ ∧
  tiOf Tryz.prog 311 = ⟨TK.other, 1, 0, some [Value.tuple { toList := [Value.int IntKind.i64 0, Value.int IntKind.u64 0, Value.int IntKind.i64 0] }], [], 0, 0⟩ ∧
  tiOf Tryz.prog 312 = ⟨TK.other, 1, 8, some [Value.nilFunc], [], 0, 0⟩ ∧
  tiOf Tryz.prog 313 = ⟨TK.other, 1, 8, some [Value.nilFunc], [], 0, 0⟩ ∧
  tiOf Tryz.prog 314 = ⟨TK.other, 1, 8, some [Value.nilFunc], [], 0, 0⟩ :=
  ⟨by kernel_rfl, by kernel_rfl, by kernel_rfl, by kernel_rfl, by kernel_rfl, by kernel_rfl, by kernel_rfl, by kernel_rfl, by kernel_rfl, by kernel_rfl, by kernel_rfl, by kernel_rfl, by kernel_rfl, by kernel_rfl, by kernel_rfl, by kernel_rfl, by kernel_rfl, by kernel_rfl, by kernel_rfl, by kernel_rfl, by kernel_rfl, by kernel_rfl, by kernel_rfl, by kernel_rfl, by kernel_rfl, by kernel_rfl, by kernel_rfl, by kernel_rfl, by kernel_rfl, by kernel_rfl, by kernel_rfl, by kernel_rfl, by kernel_rfl, by kernel_rfl, by kernel_rfl, by kernel_rfl, by kernel_rfl, by kernel_rfl, by kernel_rfl, by kernel_rfl, by kernel_rfl, by kernel_rfl, by kernel_rfl, by kernel_rfl, by kernel_rfl⟩
theorem tis7 : tiOf Tryz.prog 315 = ⟨TK.other, 1, 8, some [Value.nilFunc], [], 0, 0⟩ ∧
  tiOf Tryz.prog 316 = ⟨TK.other, 1, 8, some [Value.nilFunc], [], 0, 0⟩ ∧
  tiOf Tryz.prog 317 = ⟨TK.other, 1, 8, some [Value.nilFunc], [], 0, 0⟩ ∧
  tiOf Tryz.prog 318 = ⟨TK.other, 1, 8, some [Value.nilFunc], [], 0, 0⟩ ∧
  tiOf Tryz.prog 319 = ⟨TK.other, 1, 8, some [Value.nilFunc], [], 0, 0⟩ ∧
  tiOf Tryz.prog 320 = ⟨TK.other, 1, 8, some [Value.nilFunc], [], 0, 0⟩ ∧
  tiOf Tryz.prog 321 = ⟨TK.int IntKind.u64, 1, 8, some [Value.int IntKind.u64 0], [], 0, 0⟩ ∧
  tiOf Tryz.prog 322 = ⟨TK.other, 1, 8, some [Value.nilFunc], [], 0, 0⟩ ∧
  tiOf Tryz.prog 323 = ⟨TK.other, 1, 8, some [Value.nilFunc], [], 0, 0⟩ ∧
  tiOf Tryz.prog 324 = ⟨TK.other, 1, 8, some [Value.nilFunc], [], 0, 0⟩ ∧
  tiOf Tryz.prog 325 = ⟨TK.ptr, 1, 8, some [Value.pointer none], [], 3, 0⟩ ∧
  tiOf Tryz.prog 326 = ⟨TK.other, 1, 8, some [Value.nilFunc], [], 0, 0⟩ ∧
  tiOf Tryz.prog 327 = ⟨TK.ptr, 1, 8, some [Value.pointer none], [], 329, 0⟩ ∧
  tiOf Tryz.prog 328 = ⟨TK.struct, 3, 40, some [Value.bool false, Value.int IntKind.i64 0, Value.slice none 0 0], [(0, 1, TK.bool), (1, 1, TK.int IntKind.i64), (2, 1, TK.slice)], 0, 0⟩ ∧
  tiOf Tryz.prog 329 = ⟨TK.struct, 3, 40, some [Value.bool false, Value.int IntKind.i64 0, Value.slice none 0 0], [(0, 1, TK.bool), (1, 1, TK.int IntKind.i64), (2, 1, TK.slice)], 0, 0⟩ ∧
  tiOf Tryz.prog 330 = ⟨TK.other, 1, 8, some [Value.nilFunc], [], 0, 0⟩ ∧
  tiOf Tryz.prog 331 = ⟨TK.other, 1, 8, some [Value.nilFunc], [], 0, 0⟩ ∧
  tiOf Tryz.prog 332 = ⟨TK.other, 1, 8, some [Value.nilFunc], [], 0, 0⟩ ∧
  tiOf Tryz.prog 333 = ⟨TK.ptr, 1, 8, some [Value.pointer none], [], 321, 0⟩ ∧
  tiOf Tryz.prog 334 = ⟨TK.other, 1, 8, some [Value.nilFunc], [], 0, 0⟩ ∧
  tiOf Tryz.prog 335 = ⟨TK.other, 1, 8, some [Value.nilFunc], [], 0, 0⟩ ∧
  tiOf Tryz.prog 336 = ⟨TK.other, 1, 8, some [Value.nilFunc], [], 0, 0⟩ ∧
  tiOf Tryz.prog 337 = ⟨TK.other, 1, 8, some [Value.nilFunc], [], 0, 0⟩ ∧
  tiOf Tryz.prog 338 = ⟨TK.struct, 4, 40, some [Value.pointer none, Value.pointer none, Value.pointer none, Value.string { data := { toList := [] } }], [(0, 1, TK.ptr), (1, 1, TK.ptr), (2, 1, TK.ptr), (3, 1, TK.str)], 0, 0⟩ ∧
  tiOf Tryz.prog 339 = ⟨TK.struct, 4, 40, some [Value.pointer none, Value.pointer none, Value.pointer none, Value.string { data := { toList := [] } }], [(0, 1, TK.ptr), (1, 1, TK.ptr), (2, 1, TK.ptr), (3, 1, TK.str)], 0, 0⟩ ∧
  tiOf Tryz.prog 340 = ⟨TK.array, 0, 0, some [], [], 16, 0⟩ ∧
  tiOf Tryz.prog 341 = ⟨TK.struct, 0, 0, some [], [(0, 0, TK.array)], 0, 0⟩ ∧
  tiOf Tryz.prog 342 = ⟨TK.struct, 0, 0, some [], [(0, 0, TK.array)], 0, 0⟩ ∧
  tiOf Tryz.prog 343 = ⟨TK.other, 1, 8, some [Value.nilFunc], [], 0, 0⟩ ∧
  tiOf Tryz.prog 344 = ⟨TK.int IntKind.u8, 1, 1, some [Value.int IntKind.u8 0], [], 0, 0⟩ ∧
  tiOf Tryz.prog 345 = ⟨TK.int IntKind.u8, 1, 1, some [Value.int IntKind.u8 0], [], 0, 0⟩ ∧
  tiOf Tryz.prog 346 = ⟨TK.other, 1, 8, some [Value.nilFunc], [], 0, 0⟩ ∧
  tiOf Tryz.prog 347 = ⟨TK.ptr, 1, 8, some [Value.pointer none], [], 5, 0⟩ ∧
  tiOf Tryz.prog 348 = ⟨TK.int IntKind.i32, 1, 4, some [Value.int IntKind.i32 0], [], 0, 0⟩ ∧
  tiOf Tryz.prog 349 = ⟨TK.int IntKind.i32, 1, 4, some [Value.int IntKind.i32 0], [], 0, 0⟩ ∧
  tiOf Tryz.prog 350 = ⟨TK.struct, 11, 48, some [Value.int IntKind.u64 0, Value.int IntKind.u64 0, Value.int IntKind.u32 0, Value.int IntKind.u8 0, Value.int IntKind.u8 0, Value.int IntKind.u8 0, Value.int IntKind.u8 0, Value.nilFunc, Value.pointer none, Value.int IntKind.i32 0, Value.int IntKind.i32 0], [(0, 1, TK.int IntKind.u64), (1, 1, TK.int IntKind.u64), (2, 1, TK.int IntKind.u32), (3, 1, TK.int IntKind.u8), (4, 1, TK.int IntKind.u8), (5, 1, TK.int IntKind.u8), (6, 1, TK.int IntKind.u8), (7, 1, TK.other), (8, 1, TK.ptr), (9, 1, TK.int IntKind.i32), (10, 1, TK.int IntKind.i32)], 0, 0⟩ ∧
  tiOf Tryz.prog 351 = ⟨TK.struct, 11, 48, some [Value.int IntKind.u64 0, Value.int IntKind.u64 0, Value.int IntKind.u32 0, Value.int IntKind.u8 0, Value.int IntKind.u8 0, Value.int IntKind.u8 0, Value.int IntKind.u8 0, Value.nilFunc, Value.pointer none, Value.int IntKind.i32 0, Value.int IntKind.i32 0], [(0, 1, TK.int IntKind.u64), (1, 1, TK.int IntKind.u64), (2, 1, TK.int IntKind.u32), (3, 1, TK.int IntKind.u8), (4, 1, TK.int IntKind.u8), (5, 1, TK.int IntKind.u8), (6, 1, TK.int IntKind.u8), (7, 1, TK.other), (8, 1, TK.ptr), (9, 1, TK.int IntKind.i32), (10, 1, TK.int IntKind.i32)], 0, 0⟩ ∧
  tiOf Tryz.prog 352 = ⟨TK.other, 1, 8, some [Value.nilFunc], [], 0, 0⟩ ∧
  tiOf Tryz.prog 353 = ⟨TK.other, 1, 8, some [Value.nilFunc], [], 0, 0⟩ ∧
  tiOf Tryz.prog 354 = ⟨TK.other, 1, 8, some [Value.nilFunc], [], 0, 0⟩ ∧
  tiOf Tryz.prog 355 = ⟨TK.uptr, 1, 8, some [Value.pointer none], [], 0, 0⟩ :=
  ⟨by kernel_rfl, by kernel_rfl, by kernel_rfl, by kernel_rfl, by kernel_rfl, by kernel_rfl, by kernel_rfl, by kernel_rfl, by kernel_rfl, by kernel_rfl, by kernel_rfl, by kernel_rfl, by kernel_rfl, by kernel_rfl, by kernel_rfl, by kernel_rfl, by kernel_rfl, by kernel_rfl, by kernel_rfl, by kernel_rfl, by kernel_rfl, by kernel_rfl, by kernel_rfl, by kernel_rfl, by kernel_rfl, by kernel_rfl, by kernel_rfl, by kernel_rfl, by kernel_rfl, by kernel_rfl, by kernel_rfl, by kernel_rfl, by kernel_rfl, by kernel_rfl, by kernel_rfl, by kernel_rfl, by kernel_rfl, by kernel_rfl, by kernel_rfl, by kernel_rfl, by kernel_rfl⟩
theorem eqts : eqT Tryz.prog 7 = true ∧
  eqT Tryz.prog 8 = true ∧
  eqT Tryz.prog 15 = true ∧
  eqT Tryz.prog 16 = true ∧
  eqT Tryz.prog 17 = true ∧
  eqT Tryz.prog 24 = true ∧
  eqT Tryz.prog 25 = true ∧
  eqT Tryz.prog 31 = true ∧
  eqT Tryz.prog 32 = true ∧
  eqT Tryz.prog 33 = true ∧
  eqT Tryz.prog 34 = true ∧
  eqT Tryz.prog 36 = true ∧
  eqT Tryz.prog 37 = true ∧
  eqT Tryz.prog 38 = true ∧
  eqT Tryz.prog 39 = true ∧
  eqT Tryz.prog 40 = true ∧
  eqT Tryz.prog 41 = true ∧
  eqT Tryz.prog 42 = true ∧
  eqT Tryz.prog 43 = true ∧
  eqT Tryz.prog 50 = true ∧
  eqT Tryz.prog 51 = true ∧
  eqT Tryz.prog 60 = true ∧
  eqT Tryz.prog 61 = true ∧
  eqT Tryz.prog 73 = true ∧
  eqT Tryz.prog 74 = true ∧
  eqT Tryz.prog 85 = true ∧
  eqT Tryz.prog 86 = true ∧
  eqT Tryz.prog 87 = true ∧
  eqT Tryz.prog 88 = true ∧
  eqT Tryz.prog 93 = true ∧
  eqT Tryz.prog 94 = true ∧
  eqT Tryz.prog 161 = true ∧
  eqT Tryz.prog 162 = true ∧
  eqT Tryz.prog 182 = true ∧
  eqT Tryz.prog 183 = true ∧
  eqT Tryz.prog 197 = true ∧
  eqT Tryz.prog 198 = true ∧
  eqT Tryz.prog 199 = true ∧
  eqT Tryz.prog 200 = true ∧
  eqT Tryz.prog 256 = true ∧
  eqT Tryz.prog 257 = true ∧
  eqT Tryz.prog 267 = true ∧
  eqT Tryz.prog 268 = true ∧
  eqT Tryz.prog 269 = true ∧
  eqT Tryz.prog 270 = true ∧
  eqT Tryz.prog 273 = true ∧
  eqT Tryz.prog 274 = true ∧
  eqT Tryz.prog 280 = true ∧
  eqT Tryz.prog 281 = true ∧
  eqT Tryz.prog 300 = true ∧
  eqT Tryz.prog 303 = true ∧
  eqT Tryz.prog 304 = true ∧
  eqT Tryz.prog 306 = true ∧
  eqT Tryz.prog 307 = true ∧
  eqT Tryz.prog 308 = true ∧
  eqT Tryz.prog 310 = true ∧
  eqT Tryz.prog 325 = true ∧
  eqT Tryz.prog 327 = true ∧
  eqT Tryz.prog 328 = true ∧
  eqT Tryz.prog 329 = true ∧
  eqT Tryz.prog 333 = true ∧
  eqT Tryz.prog 347 = true :=
  ⟨by kernel_rfl, by kernel_rfl, by kernel_rfl, by kernel_rfl, by kernel_rfl, by kernel_rfl, by kernel_rfl, by kernel_rfl, by kernel_rfl, by kernel_rfl, by kernel_rfl, by kernel_rfl, by kernel_rfl, by kernel_rfl, by kernel_rfl, by kernel_rfl, by kernel_rfl, by kernel_rfl, by kernel_rfl, by kernel_rfl, by kernel_rfl, by kernel_rfl, by kernel_rfl, by kernel_rfl, by kernel_rfl, by kernel_rfl, by kernel_rfl, by kernel_rfl, by kernel_rfl, by kernel_rfl, by kernel_rfl, by kernel_rfl, by kernel_rfl, by kernel_rfl, by kernel_rfl, by kernel_rfl, by kernel_rfl, by kernel_rfl, by kernel_rfl, by kernel_rfl, by kernel_rfl, by kernel_rfl, by kernel_rfl, by kernel_rfl, by kernel_rfl, by kernel_rfl, by kernel_rfl, by kernel_rfl, by kernel_rfl, by kernel_rfl, by kernel_rfl, by kernel_rfl, by kernel_rfl, by kernel_rfl, by kernel_rfl, by kernel_rfl, by kernel_rfl, by kernel_rfl, by kernel_rfl, by kernel_rfl, by kernel_rfl, by kernel_rfl⟩
end Go.Proofs.YtebndjnkmcahaaaGreatDoor

/- What the executor asks of each type of the program: closed facts, written by a program (ti.sh). -/
import Derived.Test.YtebndjnkmcahaaaGreatDoorAbsS
import Derived.Test.YtebndjnkmcahaaaGreatDoorProg
import Derived.KernelRfl
namespace Go.Proofs.YtebndjnkmcahaaaGreatDoor
open Go Go.Abs
set_option maxRecDepth 100000
def z43:List Value:=[Value.int IntKind.u64 0,Value.int IntKind.u64 0,Value.int IntKind.i64 0,Value.bool false,Value.int IntKind.u64 0,Value.int IntKind.i64 0,Value.int IntKind.i64 0,Value.int IntKind.i64 0,Value.slice none 0 0,Value.int IntKind.i64 0,Value.slice none 0 0,Value.int IntKind.i64 0,Value.int IntKind.i64 0,Value.int IntKind.i64 0,Value.bool false,Value.slice none 0 0,Value.bool false,Value.int IntKind.i64 0,Value.int IntKind.i64 0,Value.int IntKind.i64 0,Value.int IntKind.i64 0,Value.int IntKind.u64 0,Value.bool false,Value.int IntKind.u64 0,Value.int IntKind.i64 0,Value.string { data:={ toList:=[] } },Value.int IntKind.i64 0,Value.bool false,Value.int IntKind.i64 0,Value.int IntKind.u64 0,Value.int IntKind.i64 0,Value.slice none 0 0]
theorem J5:eU z43=true:=by kernel_rfl
theorem J6:z43.length=32:=rfl
def z51:List Value:=[Value.int IntKind.u64 0,Value.int IntKind.u64 0,Value.int IntKind.i64 0,Value.bool false,Value.int IntKind.u64 0,Value.int IntKind.i64 0,Value.int IntKind.i64 0,Value.int IntKind.i64 0,Value.slice none 0 0,Value.int IntKind.i64 0,Value.slice none 0 0,Value.int IntKind.i64 0,Value.int IntKind.i64 0,Value.int IntKind.i64 0,Value.bool false,Value.slice none 0 0,Value.bool false,Value.int IntKind.i64 0,Value.int IntKind.i64 0,Value.int IntKind.i64 0,Value.int IntKind.i64 0,Value.int IntKind.u64 0,Value.bool false,Value.int IntKind.u64 0,Value.int IntKind.i64 0,Value.string { data:={ toList:=[] } },Value.int IntKind.i64 0,Value.bool false,Value.int IntKind.i64 0,Value.int IntKind.u64 0,Value.int IntKind.i64 0,Value.slice none 0 0,Value.slice none 0 0]
theorem J7:eU z51=true:=by kernel_rfl
theorem J8:z51.length=33:=rfl
def FD:List Value:=[Value.bool false,Value.bool false,Value.bool false,Value.bool false,Value.bool false,Value.bool false,Value.bool false,Value.bool false,Value.bool false,Value.bool false,Value.bool false,Value.bool false,Value.bool false,Value.bool false,Value.bool false,Value.bool false,Value.bool false,Value.bool false,Value.bool false,Value.bool false,Value.bool false,Value.bool false,Value.bool false,Value.bool false,Value.bool false,Value.bool false,Value.bool false,Value.bool false,Value.bool false,Value.bool false,Value.bool false,Value.bool false,Value.bool false,Value.bool false,Value.bool false,Value.bool false,Value.bool false,Value.bool false,Value.bool false,Value.bool false,Value.bool false,Value.bool false,Value.bool false,Value.bool false,Value.bool false,Value.bool false,Value.bool false,Value.bool false,Value.bool false,Value.bool false,Value.bool false,Value.bool false,Value.bool false,Value.bool false,Value.bool false,Value.bool false,Value.bool false,Value.bool false,Value.bool false,Value.bool false,Value.bool false,Value.bool false,Value.bool false,Value.bool false,Value.bool false,Value.bool false,Value.bool false,Value.bool false,Value.bool false,Value.bool false,Value.bool false,Value.bool false,Value.bool false,Value.bool false,Value.bool false,Value.bool false,Value.bool false,Value.bool false,Value.bool false,Value.bool false,Value.bool false,Value.bool false,Value.bool false,Value.bool false,Value.bool false,Value.bool false,Value.bool false,Value.bool false,Value.bool false,Value.bool false,Value.bool false,Value.bool false,Value.bool false,Value.bool false,Value.bool false,Value.bool false,Value.bool false,Value.bool false,Value.bool false,Value.bool false,Value.bool false,Value.bool false,Value.bool false,Value.bool false,Value.bool false,Value.bool false,Value.bool false,Value.bool false,Value.bool false,Value.bool false,Value.bool false,Value.bool false,Value.bool false,Value.bool false,Value.bool false,Value.bool false,Value.bool false,Value.bool false,Value.bool false,Value.bool false,Value.bool false,Value.bool false,Value.bool false,Value.bool false,Value.bool false,Value.bool false,Value.bool false,Value.bool false,Value.bool false,Value.bool false,Value.bool false,Value.bool false,Value.bool false,Value.bool false,Value.bool false,Value.bool false,Value.bool false,Value.bool false,Value.bool false,Value.bool false,Value.bool false,Value.bool false,Value.bool false,Value.bool false,Value.bool false,Value.bool false,Value.bool false,Value.bool false,Value.bool false,Value.bool false,Value.bool false,Value.bool false,Value.bool false,Value.bool false,Value.bool false,Value.bool false,Value.bool false,Value.bool false,Value.bool false,Value.bool false,Value.bool false,Value.bool false,Value.bool false,Value.bool false,Value.bool false,Value.bool false,Value.bool false,Value.bool false,Value.bool false,Value.bool false,Value.bool false,Value.bool false,Value.bool false,Value.bool false,Value.bool false,Value.bool false,Value.bool false,Value.bool false,Value.bool false,Value.bool false,Value.bool false,Value.bool false,Value.bool false,Value.bool false,Value.bool false,Value.bool false,Value.bool false,Value.bool false,Value.bool false,Value.bool false,Value.bool false,Value.bool false,Value.bool false,Value.bool false,Value.bool false,Value.bool false,Value.bool false,Value.bool false,Value.bool false,Value.bool false,Value.bool false,Value.bool false,Value.bool false,Value.bool false,Value.bool false,Value.bool false,Value.bool false,Value.bool false,Value.bool false,Value.bool false,Value.bool false,Value.bool false,Value.bool false,Value.bool false,Value.bool false,Value.bool false,Value.bool false,Value.bool false,Value.bool false,Value.bool false,Value.bool false,Value.bool false,Value.bool false,Value.bool false,Value.bool false,Value.bool false,Value.bool false,Value.bool false,Value.bool false,Value.bool false,Value.bool false,Value.bool false,Value.bool false,Value.bool false,Value.bool false,Value.bool false,Value.bool false,Value.bool false,Value.bool false,Value.bool false,Value.bool false,Value.bool false,Value.bool false,Value.bool false,Value.bool false,Value.bool false,Value.bool false,Value.bool false,Value.bool false,Value.bool false,Value.bool false,Value.bool false,Value.bool false,Value.bool false,Value.bool false,Value.bool false]
theorem ID:eU FD=true:=by kernel_rfl
theorem IE:FD.length=256:=rfl
attribute [go_sem] J5 J6 J7 J8 ID IE
theorem KH:ae Tryz.prog 3=⟨TK.int IntKind.i64,1,8,some [Value.int IntKind.i64 0],[],0,0⟩ ∧
 ae Tryz.prog 4=⟨TK.bool,1,1,some [Value.bool false],[],0,0⟩ ∧
 ae Tryz.prog 5=⟨TK.int IntKind.u8,1,1,some [Value.int IntKind.u8 0],[],0,0⟩ ∧
 ae Tryz.prog 9=⟨TK.str,1,16,some [Value.string { data:={ toList:=[] } }],[],0,0⟩ ∧
 ae Tryz.prog 22=⟨TK.int IntKind.u64,1,8,some [Value.int IntKind.u64 0],[],0,0⟩ ∧
 ae Tryz.prog 23=⟨TK.slice,1,24,some [Value.slice none 0 0],[],27,0⟩ :=
 ⟨by kernel_rfl,by kernel_rfl,by kernel_rfl,by kernel_rfl,by kernel_rfl,by kernel_rfl⟩
theorem KI:ae Tryz.prog 25=⟨TK.struct,9,88,some [Value.int IntKind.u64 0,Value.int IntKind.u64 0,Value.int IntKind.i64 0,Value.bool false,Value.int IntKind.u64 0,Value.int IntKind.i64 0,Value.int IntKind.i64 0,Value.int IntKind.i64 0,Value.slice none 0 0],[(0,1,TK.int IntKind.u64),(1,1,TK.int IntKind.u64),(2,1,TK.int IntKind.i64),(3,1,TK.bool),(4,1,TK.int IntKind.u64),(5,1,TK.int IntKind.i64),(6,1,TK.int IntKind.i64),(7,1,TK.int IntKind.i64),(8,1,TK.slice)],0,0⟩ ∧
 ae Tryz.prog 27=⟨TK.slice,1,24,some [Value.slice none 0 0],[],5,0⟩ ∧
 ae Tryz.prog 29=⟨TK.int IntKind.u64,1,8,some [Value.int IntKind.u64 0],[],0,0⟩ ∧
 ae Tryz.prog 30=⟨TK.slice,1,24,some [Value.slice none 0 0],[],3,0⟩ ∧
 ae Tryz.prog 32=⟨TK.struct,2,32,some [Value.int IntKind.i64 0,Value.slice none 0 0],[(0,1,TK.int IntKind.i64),(1,1,TK.slice)],0,0⟩ ∧
 ae Tryz.prog 34=⟨TK.struct,6,64,some [Value.int IntKind.i64 0,Value.slice none 0 0,Value.int IntKind.i64 0,Value.int IntKind.i64 0,Value.int IntKind.i64 0,Value.bool false],[(0,2,TK.struct),(2,1,TK.int IntKind.i64),(3,1,TK.int IntKind.i64),(4,1,TK.int IntKind.i64),(5,1,TK.bool)],0,0⟩ :=
 ⟨by kernel_rfl,by kernel_rfl,by kernel_rfl,by kernel_rfl,by kernel_rfl,by kernel_rfl⟩
theorem KJ:ae Tryz.prog 35=⟨TK.slice,1,24,some [Value.slice none 0 0],[],94,0⟩ ∧
 ae Tryz.prog 37=⟨TK.struct,7,88,some [Value.int IntKind.i64 0,Value.slice none 0 0,Value.int IntKind.i64 0,Value.int IntKind.i64 0,Value.int IntKind.i64 0,Value.bool false,Value.slice none 0 0],[(0,6,TK.struct),(6,1,TK.slice)],0,0⟩ ∧
 ae Tryz.prog 39=⟨TK.struct,6,56,some [Value.int IntKind.u64 0,Value.bool false,Value.int IntKind.u64 0,Value.int IntKind.i64 0,Value.string { data:={ toList:=[] } },Value.int IntKind.i64 0],[(0,1,TK.int IntKind.u64),(1,1,TK.bool),(2,1,TK.int IntKind.u64),(3,1,TK.int IntKind.i64),(4,1,TK.str),(5,1,TK.int IntKind.i64)],0,0⟩ ∧
 ae Tryz.prog 41=⟨TK.struct,5,56,some [Value.bool false,Value.int IntKind.i64 0,Value.int IntKind.u64 0,Value.int IntKind.i64 0,Value.slice none 0 0],[(0,1,TK.bool),(1,1,TK.int IntKind.i64),(2,1,TK.int IntKind.u64),(3,1,TK.int IntKind.i64),(4,1,TK.slice)],0,0⟩ ∧
 ae Tryz.prog 43=⟨TK.struct,32,328,some z43,[(0,9,TK.struct),(9,7,TK.struct),(16,1,TK.bool),(17,1,TK.int IntKind.i64),(18,1,TK.int IntKind.i64),(19,1,TK.int IntKind.i64),(20,1,TK.int IntKind.i64),(21,6,TK.struct),(27,5,TK.struct)],0,0⟩ ∧
 ae Tryz.prog 51=⟨TK.struct,33,352,some z51,[(0,32,TK.struct),(32,1,TK.slice)],0,0⟩ :=
 ⟨by kernel_rfl,by kernel_rfl,by kernel_rfl,by kernel_rfl,by kernel_rfl,by kernel_rfl⟩
theorem KK:ae Tryz.prog 61=⟨TK.struct,9,88,some [Value.string { data:={ toList:=[] } },Value.string { data:={ toList:=[] } },Value.string { data:={ toList:=[] } },Value.int IntKind.u64 0,Value.int IntKind.i64 0,Value.bool false,Value.int IntKind.i64 0,Value.bool false,Value.bool false],[(0,1,TK.str),(1,1,TK.str),(2,1,TK.str),(3,1,TK.int IntKind.u64),(4,1,TK.int IntKind.i64),(5,1,TK.bool),(6,1,TK.int IntKind.i64),(7,1,TK.bool),(8,1,TK.bool)],0,0⟩ ∧
 ae Tryz.prog 69=⟨TK.slice,1,24,some [Value.slice none 0 0],[],86,0⟩ ∧
 ae Tryz.prog 71=⟨TK.slice,1,24,some [Value.slice none 0 0],[],61,0⟩ ∧
 ae Tryz.prog 74=⟨TK.struct,4,32,some [Value.bool false,Value.int IntKind.u64 0,Value.int IntKind.i64 0,Value.int IntKind.i64 0],[(0,1,TK.bool),(1,1,TK.int IntKind.u64),(2,1,TK.int IntKind.i64),(3,1,TK.int IntKind.i64)],0,0⟩ ∧
 ae Tryz.prog 83=⟨TK.slice,1,24,some [Value.slice none 0 0],[],88,0⟩ ∧
 ae Tryz.prog 86=⟨TK.struct,4,32,some [Value.int IntKind.u64 0,Value.int IntKind.i64 0,Value.int IntKind.i64 0,Value.int IntKind.i64 0],[(0,1,TK.int IntKind.u64),(1,1,TK.int IntKind.i64),(2,1,TK.int IntKind.i64),(3,1,TK.int IntKind.i64)],0,0⟩ :=
 ⟨by kernel_rfl,by kernel_rfl,by kernel_rfl,by kernel_rfl,by kernel_rfl,by kernel_rfl⟩
theorem KL:ae Tryz.prog 88=⟨TK.struct,5,40,some [Value.int IntKind.i64 0,Value.int IntKind.u64 0,Value.int IntKind.i64 0,Value.int IntKind.i64 0,Value.int IntKind.i64 0],[(0,1,TK.int IntKind.i64),(1,4,TK.struct)],0,0⟩ ∧
 ae Tryz.prog 94=⟨TK.struct,2,32,some [Value.int IntKind.i64 0,Value.slice none 0 0],[(0,1,TK.int IntKind.i64),(1,1,TK.slice)],0,0⟩ ∧
 ae Tryz.prog 128=⟨TK.slice,1,24,some [Value.slice none 0 0],[],183,0⟩ ∧
 ae Tryz.prog 159=⟨TK.slice,1,24,some [Value.slice none 0 0],[],9,0⟩ ∧
 ae Tryz.prog 162=⟨TK.struct,3,32,some [Value.int IntKind.i64 0,Value.int IntKind.u64 0,Value.string { data:={ toList:=[] } }],[(0,1,TK.int IntKind.i64),(1,1,TK.int IntKind.u64),(2,1,TK.str)],0,0⟩ ∧
 ae Tryz.prog 166=⟨TK.slice,1,24,some [Value.slice none 0 0],[],162,0⟩ :=
 ⟨by kernel_rfl,by kernel_rfl,by kernel_rfl,by kernel_rfl,by kernel_rfl,by kernel_rfl⟩
theorem KM:ae Tryz.prog 171=⟨TK.slice,1,24,some [Value.slice none 0 0],[],22,0⟩ ∧
 ae Tryz.prog 179=⟨TK.slice,1,24,some [Value.slice none 0 0],[],166,0⟩ ∧
 ae Tryz.prog 181=⟨TK.array,8,8,some [Value.bool false,Value.bool false,Value.bool false,Value.bool false,Value.bool false,Value.bool false,Value.bool false,Value.bool false],[],4,8⟩ ∧
 ae Tryz.prog 183=⟨TK.struct,10,96,some [Value.int IntKind.i64 0,Value.string { data:={ toList:=[] } },Value.string { data:={ toList:=[] } },Value.string { data:={ toList:=[] } },Value.int IntKind.u64 0,Value.int IntKind.i64 0,Value.bool false,Value.int IntKind.i64 0,Value.bool false,Value.bool false],[(0,1,TK.int IntKind.i64),(1,9,TK.struct)],0,0⟩ ∧
 ae Tryz.prog 184=⟨TK.array,16,16,some [Value.bool false,Value.bool false,Value.bool false,Value.bool false,Value.bool false,Value.bool false,Value.bool false,Value.bool false,Value.bool false,Value.bool false,Value.bool false,Value.bool false,Value.bool false,Value.bool false,Value.bool false,Value.bool false],[],4,16⟩ ∧
 ae Tryz.prog 198=⟨TK.struct,1,8,some [Value.int IntKind.i64 0],[(0,1,TK.int IntKind.i64)],0,0⟩ :=
 ⟨by kernel_rfl,by kernel_rfl,by kernel_rfl,by kernel_rfl,by kernel_rfl,by kernel_rfl⟩
theorem KN:ae Tryz.prog 200=⟨TK.struct,3,40,some [Value.int IntKind.i64 0,Value.int IntKind.i64 0,Value.slice none 0 0],[(0,1,TK.int IntKind.i64),(1,1,TK.int IntKind.i64),(2,1,TK.slice)],0,0⟩ ∧
 ae Tryz.prog 209=⟨TK.array,256,256,some FD,[],4,256⟩ ∧
 ae Tryz.prog 248=⟨TK.slice,1,24,some [Value.slice none 0 0],[],250,0⟩ ∧
 ae Tryz.prog 250=⟨TK.iface,1,16,some [Value.nilIface],[],0,0⟩ ∧
 ae Tryz.prog 261=⟨TK.array,4,32,some [Value.int IntKind.u64 0,Value.int IntKind.u64 0,Value.int IntKind.u64 0,Value.int IntKind.u64 0],[],22,4⟩ ∧
 ae Tryz.prog 266=⟨TK.slice,1,24,some [Value.slice none 0 0],[],329,0⟩ :=
 ⟨by kernel_rfl,by kernel_rfl,by kernel_rfl,by kernel_rfl,by kernel_rfl,by kernel_rfl⟩
theorem KO:ae Tryz.prog 268=⟨TK.struct,2,32,some [Value.slice none 0 0,Value.int IntKind.i64 0],[(0,1,TK.slice),(1,1,TK.int IntKind.i64)],0,0⟩ ∧
 ae Tryz.prog 270=⟨TK.struct,2,32,some [Value.slice none 0 0,Value.int IntKind.i64 0],[(0,2,TK.struct)],0,0⟩ ∧
 ae Tryz.prog 274=⟨TK.struct,4,32,some [Value.int IntKind.u64 0,Value.int IntKind.u64 0,Value.int IntKind.u64 0,Value.int IntKind.u64 0],[(0,1,TK.int IntKind.u64),(1,1,TK.int IntKind.u64),(2,1,TK.int IntKind.u64),(3,1,TK.int IntKind.u64)],0,0⟩ ∧
 ae Tryz.prog 281=⟨TK.struct,4,64,some [Value.slice none 0 0,Value.int IntKind.i64 0,Value.slice none 0 0,Value.int IntKind.i64 0],[(0,2,TK.struct),(2,1,TK.slice),(3,1,TK.int IntKind.i64)],0,0⟩ ∧
 ae Tryz.prog 308=⟨TK.struct,3,48,some [Value.string { data:={ toList:=[] } },Value.int IntKind.i64 0,Value.slice none 0 0],[(0,1,TK.str),(1,1,TK.int IntKind.i64),(2,1,TK.slice)],0,0⟩ ∧
 ae Tryz.prog 329=⟨TK.struct,3,40,some [Value.bool false,Value.int IntKind.i64 0,Value.slice none 0 0],[(0,1,TK.bool),(1,1,TK.int IntKind.i64),(2,1,TK.slice)],0,0⟩ :=
 ⟨by kernel_rfl,by kernel_rfl,by kernel_rfl,by kernel_rfl,by kernel_rfl,by kernel_rfl⟩
theorem KP:eqT Tryz.prog 39=true:=by kernel_rfl
end Go.Proofs.YtebndjnkmcahaaaGreatDoor

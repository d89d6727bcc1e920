/- own work: steps of the proof -/
import Derived.Test.YtfcadipggmlfeaaGreatDoorAbsS
import Derived.Test.YtfcadipggmlfeaaGreatDoorProg
import Derived.KernelRfl
set_option linter.all false
set_option maxRecDepth 100000
namespace Go.Abs
open RowKit Proofs Proofs.Tryz
open Value renaming int→g',bool→v',slice→x',string→y'
open IntKind renaming i64→z',u64→A',u8→B'
def z40:List Value:=[g' A' 0,g' A' 0,g' z' 0,v' false,g' A' 0,g' z' 0,g' z' 0,g' z' 0,x' none 0 0,g' z' 0,x' none 0 0,g' z' 0,g' z' 0,g' z' 0,v' false,x' none 0 0,v' false,g' z' 0,g' z' 0,g' z' 0,g' z' 0,g' A' 0,v' false,g' A' 0,g' z' 0,y' ⟨⟨[]⟩⟩,g' z' 0,v' false,g' z' 0,g' A' 0,g' z' 0,x' none 0 0]
theorem aeB:fB z40=true:=π
theorem aeC:z40.length=32:=rfl
def z41:List Value:=z40++[x' none 0 0]
theorem aeD:fB z41=true:=π
theorem aeE:z41.length=33:=rfl
def z42:List Value:=z41
theorem aeF:fB z42=true:=π
theorem aeG:z42.length=33:=rfl
def z96:List Value:=[g' z' 0,x' none 0 0,x' none 0 0,x' none 0 0,g' z' 0,x' none 0 0,y' ⟨⟨[]⟩⟩,y' ⟨⟨[]⟩⟩,g' z' 0,g' A' 0,x' none 0 0,g' A' 0,g' z' 0,g' z' 0,g' z' 0,v' false,v' false,x' none 0 0]
theorem aeH:fB z96=true:=π
theorem aeI:z96.length=18:=rfl
def z100:List Value:=[g' z' 0,y' ⟨⟨[]⟩⟩,y' ⟨⟨[]⟩⟩,y' ⟨⟨[]⟩⟩,g' A' 0,g' z' 0,g' z' 0,x' none 0 0,v' false,v' false,v' false,v' false,g' z' 0,g' A' 0,v' false,g' A' 0,x' none 0 0,x' none 0 0,g' z' 0,x' none 0 0,g' z' 0]
theorem aeJ:fB z100=true:=π
theorem aeK:z100.length=21:=rfl
def z103:List Value:=[v' false,g' z' 0]++z100++[x' none 0 0,g' z' 0]
theorem aeL:fB z103=true:=π
theorem aeM:z103.length=25:=rfl
def QG:List Value:=List.replicate 256 (v' false)
theorem ZR:fB QG=true:=π
theorem ZS:QG.length=256:=π
def QH:List Value:=z40++z100++[x' none 0 0,g' z' 0]++z96++[g' z' 0]
theorem ZT:fB QH=true:=π
theorem ZU:QH.length=74:=rfl
attribute [go_sem] aeB aeC aeD aeE aeF aeG aeH aeI aeJ aeK aeL aeM ZR ZS ZT ZU
theorem afk:ae prog 3=⟨.int z',1,8,some [g' z' 0],[],0,0⟩/\
 ae prog 4=⟨.bool,1,1,some [v' false],[],0,0⟩/\
 ae prog 5=⟨.int B',1,1,some [g' B' 0],[],0,0⟩/\
 ae prog 9=⟨.str,1,16,some [y' ⟨⟨[]⟩⟩],[],0,0⟩/\
 ae prog 22=⟨.slice,1,24,some [x' none 0 0],[],3,0⟩/\
 ae prog 23=⟨.int A',1,8,some [g' A' 0],[],0,0⟩/\
 ae prog 24=⟨.slice,1,24,some [x' none 0 0],[],27,0⟩/\
 ae prog 26=⟨.struct,9,88,some [g' A' 0,g' A' 0,g' z' 0,v' false,g' A' 0,g' z' 0,g' z' 0,g' z' 0,x' none 0 0],[(0,1,.int A'),(1,1,.int A'),(2,1,.int z'),(3,1,.bool),(4,1,.int A'),(5,1,.int z'),(6,1,.int z'),(7,1,.int z'),(8,1,.slice)],0,0⟩:=by and_intros<;>kernel_rfl
theorem afl:ae prog 27=⟨.slice,1,24,some [x' none 0 0],[],5,0⟩/\
 ae prog 29=⟨.struct,2,32,some [g' z' 0,x' none 0 0],[(0,1,.int z'),(1,1,.slice)],0,0⟩/\
 ae prog 31=⟨.struct,6,64,some [g' z' 0,x' none 0 0,g' z' 0,g' z' 0,g' z' 0,v' false],[(0,2,.struct),(2,1,.int z'),(3,1,.int z'),(4,1,.int z'),(5,1,.bool)],0,0⟩/\
 ae prog 32=⟨.slice,1,24,some [x' none 0 0],[],74,0⟩/\
 ae prog 34=⟨.struct,7,88,some [g' z' 0,x' none 0 0,g' z' 0,g' z' 0,g' z' 0,v' false,x' none 0 0],[(0,6,.struct),(6,1,.slice)],0,0⟩/\
 ae prog 36=⟨.struct,6,56,some [g' A' 0,v' false,g' A' 0,g' z' 0,y' ⟨⟨[]⟩⟩,g' z' 0],[(0,1,.int A'),(1,1,.bool),(2,1,.int A'),(3,1,.int z'),(4,1,.str),(5,1,.int z')],0,0⟩/\
 ae prog 38=⟨.struct,5,56,some [v' false,g' z' 0,g' A' 0,g' z' 0,x' none 0 0],[(0,1,.bool),(1,1,.int z'),(2,1,.int A'),(3,1,.int z'),(4,1,.slice)],0,0⟩/\
 ae prog 40=⟨.struct,32,328,some z40,[(0,9,.struct),(9,7,.struct),(16,1,.bool),(17,1,.int z'),(18,1,.int z'),(19,1,.int z'),(20,1,.int z'),(21,6,.struct),(27,5,.struct)],0,0⟩:=by and_intros<;>kernel_rfl
theorem afm:ae prog 42=⟨.struct,33,352,some z42,[(0,32,.struct),(32,1,.slice)],0,0⟩/\
 ae prog 45=⟨.int A',1,8,some [g' A' 0],[],0,0⟩/\
 ae prog 46=⟨.int z',1,8,some [g' z' 0],[],0,0⟩/\
 ae prog 82=⟨.slice,1,24,some [x' none 0 0],[],76,0⟩/\
 ae prog 84=⟨.slice,1,24,some [x' none 0 0],[],141,0⟩/\
 ae prog 87=⟨.struct,4,32,some [v' false,g' A' 0,g' z' 0,g' z' 0],[(0,1,.bool),(1,1,.int A'),(2,1,.int z'),(3,1,.int z')],0,0⟩/\
 ae prog 94=⟨.slice,1,24,some [x' none 0 0],[],283,0⟩/\
 ae prog 96=⟨.struct,18,248,some z96,[(0,1,.int z'),(1,1,.slice),(2,1,.slice),(3,1,.slice),(4,1,.int z'),(5,1,.slice),(6,1,.str),(7,1,.str),(8,1,.int z'),(9,1,.int A'),(10,1,.slice),(11,1,.int A'),(12,1,.int z'),(13,1,.int z'),(14,1,.int z'),(15,1,.bool),(16,1,.bool),(17,1,.slice)],0,0⟩:=by and_intros<;>kernel_rfl
theorem afn:ae prog 100=⟨.struct,21,232,some z100,[(0,1,.int z'),(1,1,.str),(2,1,.str),(3,1,.str),(4,1,.int A'),(5,1,.int z'),(6,1,.int z'),(7,1,.slice),(8,1,.bool),(9,1,.bool),(10,1,.bool),(11,1,.bool),(12,1,.int z'),(13,1,.int A'),(14,1,.bool),(15,1,.int A'),(16,1,.slice),(17,1,.slice),(18,1,.int z'),(19,1,.slice),(20,1,.int z')],0,0⟩/\
 ae prog 101=⟨.slice,1,24,some [x' none 0 0],[],108,0⟩/\
 ae prog 103=⟨.struct,25,280,some z103,[(0,1,.bool),(1,1,.int z'),(2,21,.struct),(23,1,.slice),(24,1,.int z')],0,0⟩/\
 ae prog 108=⟨.struct,2,16,some [g' z' 0,g' z' 0],[(0,1,.int z'),(1,1,.int z')],0,0⟩/\
 ae prog 74=⟨.struct,2,32,some [g' z' 0,x' none 0 0],[(0,1,.int z'),(1,1,.slice)],0,0⟩/\
 ae prog 76=⟨.struct,4,32,some [g' A' 0,g' z' 0,g' z' 0,g' z' 0],[(0,1,.int A'),(1,1,.int z'),(2,1,.int z'),(3,1,.int z')],0,0⟩/\
 ae prog 137=⟨.slice,1,24,some [x' none 0 0],[],195,0⟩/\
 ae prog 141=⟨.struct,9,88,some [y' ⟨⟨[]⟩⟩,y' ⟨⟨[]⟩⟩,y' ⟨⟨[]⟩⟩,g' A' 0,g' z' 0,v' false,g' z' 0,v' false,v' false],[(0,1,.str),(1,1,.str),(2,1,.str),(3,1,.int A'),(4,1,.int z'),(5,1,.bool),(6,1,.int z'),(7,1,.bool),(8,1,.bool)],0,0⟩:=by and_intros<;>kernel_rfl
theorem afo:ae prog 142=⟨.slice,1,24,some [x' none 0 0],[],199,0⟩/\
 ae prog 148=⟨.slice,1,24,some [x' none 0 0],[],9,0⟩/\
 ae prog 180=⟨.slice,1,24,some [x' none 0 0],[],23,0⟩/\
 ae prog 195=⟨.struct,5,40,some [g' z' 0,g' A' 0,g' z' 0,g' z' 0,g' z' 0],[(0,1,.int z'),(1,4,.struct)],0,0⟩/\
 ae prog 199=⟨.struct,10,96,some [g' z' 0,y' ⟨⟨[]⟩⟩,y' ⟨⟨[]⟩⟩,y' ⟨⟨[]⟩⟩,g' A' 0,g' z' 0,v' false,g' z' 0,v' false,v' false],[(0,1,.int z'),(1,9,.struct)],0,0⟩/\
 ae prog 205=⟨.struct,2,16,some [g' z' 0,g' A' 0],[(0,1,.int z'),(1,1,.int A')],0,0⟩/\
 ae prog 207=⟨.struct,8,80,some [g' A' 0,g' z' 0,g' z' 0,g' z' 0,g' A' 0,x' none 0 0,g' z' 0,g' A' 0],[(0,1,.int A'),(1,1,.int z'),(2,1,.int z'),(3,1,.int z'),(4,1,.int A'),(5,1,.slice),(6,2,.struct)],0,0⟩/\
 ae prog 306=⟨.struct,4,32,some [g' A' 0,g' A' 0,g' A' 0,g' A' 0],[(0,1,.int A'),(1,1,.int A'),(2,1,.int A'),(3,1,.int A')],0,0⟩:=by and_intros<;>kernel_rfl
theorem afp:ae prog 292=⟨.array,4,32,some [g' A' 0,g' A' 0,g' A' 0,g' A' 0],[],23,4⟩/\
 ae prog 162=⟨.struct,1,8,some [g' z' 0],[(0,1,.int z')],0,0⟩/\
 ae prog 165=⟨.struct,3,40,some [g' z' 0,g' z' 0,x' none 0 0],[(0,1,.int z'),(1,1,.int z'),(2,1,.slice)],0,0⟩/\
 ae prog 174=⟨.array,256,256,some QG,[],4,256⟩/\
 ae prog 230=⟨.slice,1,24,some [x' none 0 0],[],234,0⟩/\
 ae prog 234=⟨.struct,3,32,some [g' z' 0,g' A' 0,y' ⟨⟨[]⟩⟩],[(0,1,.int z'),(1,1,.int A'),(2,1,.str)],0,0⟩/\
 ae prog 242=⟨.struct,74,848,some QH,[(0,32,.struct),(32,21,.struct),(53,1,.slice),(54,1,.int z'),(55,18,.struct),(73,1,.int z')],0,0⟩/\
 ae prog 248=⟨.struct,3,16,some [v' false,v' false,g' z' 0],[(0,1,.bool),(1,1,.bool),(2,1,.int z')],0,0⟩:=by and_intros<;>kernel_rfl
theorem afq:ae prog 283=⟨.struct,5,80,some [y' ⟨⟨[]⟩⟩,y' ⟨⟨[]⟩⟩,y' ⟨⟨[]⟩⟩,x' none 0 0,g' z' 0],[(0,1,.str),(1,1,.str),(2,1,.str),(3,1,.slice),(4,1,.int z')],0,0⟩/\
 ae prog 295=⟨.array,20,20,some [v' false,v' false,v' false,v' false,v' false,v' false,v' false,v' false,v' false,v' false,v' false,v' false,v' false,v' false,v' false,v' false,v' false,v' false,v' false,v' false],[],4,20⟩/\
 ae prog 297=⟨.array,20,480,some [x' none 0 0,x' none 0 0,x' none 0 0,x' none 0 0,x' none 0 0,x' none 0 0,x' none 0 0,x' none 0 0,x' none 0 0,x' none 0 0,x' none 0 0,x' none 0 0,x' none 0 0,x' none 0 0,x' none 0 0,x' none 0 0,x' none 0 0,x' none 0 0,x' none 0 0,x' none 0 0],[],230,20⟩/\
 ae prog 300=⟨.slice,1,24,some [x' none 0 0],[],230,0⟩/\
 ae prog 219=⟨.slice,1,24,some [x' none 0 0],[],221,0⟩/\
 ae prog 221=⟨.iface,1,16,some [Value.nilIface],[],0,0⟩/\
 ae prog 312=⟨.slice,1,24,some [x' none 0 0],[],401,0⟩/\
 ae prog 314=⟨.struct,2,32,some [x' none 0 0,g' z' 0],[(0,1,.slice),(1,1,.int z')],0,0⟩:=by and_intros<;>kernel_rfl
theorem afr:ae prog 316=⟨.struct,4,64,some [x' none 0 0,g' z' 0,x' none 0 0,g' z' 0],[(0,2,.struct),(2,1,.slice),(3,1,.int z')],0,0⟩/\
 ae prog 338=⟨.struct,3,56,some [g' z' 0,x' none 0 0,x' none 0 0],[(0,1,.int z'),(1,1,.slice),(2,1,.slice)],0,0⟩/\
 ae prog 354=⟨.array,20,160,some [g' A' 0,g' A' 0,g' A' 0,g' A' 0,g' A' 0,g' A' 0,g' A' 0,g' A' 0,g' A' 0,g' A' 0,g' A' 0,g' A' 0,g' A' 0,g' A' 0,g' A' 0,g' A' 0,g' A' 0,g' A' 0,g' A' 0,g' A' 0],[],23,20⟩/\
 ae prog 355=⟨.array,20,320,some [y' ⟨⟨[]⟩⟩,y' ⟨⟨[]⟩⟩,y' ⟨⟨[]⟩⟩,y' ⟨⟨[]⟩⟩,y' ⟨⟨[]⟩⟩,y' ⟨⟨[]⟩⟩,y' ⟨⟨[]⟩⟩,y' ⟨⟨[]⟩⟩,y' ⟨⟨[]⟩⟩,y' ⟨⟨[]⟩⟩,y' ⟨⟨[]⟩⟩,y' ⟨⟨[]⟩⟩,y' ⟨⟨[]⟩⟩,y' ⟨⟨[]⟩⟩,y' ⟨⟨[]⟩⟩,y' ⟨⟨[]⟩⟩,y' ⟨⟨[]⟩⟩,y' ⟨⟨[]⟩⟩,y' ⟨⟨[]⟩⟩,y' ⟨⟨[]⟩⟩],[],9,20⟩/\
 ae prog 401=⟨.struct,3,40,some [v' false,g' z' 0,x' none 0 0],[(0,1,.bool),(1,1,.int z'),(2,1,.slice)],0,0⟩/\
 ae prog 404=⟨.struct,2,32,some [x' none 0 0,g' z' 0],[(0,2,.struct)],0,0⟩/\
 ae prog 427=⟨.struct,3,48,some [y' ⟨⟨[]⟩⟩,g' z' 0,x' none 0 0],[(0,1,.str),(1,1,.int z'),(2,1,.slice)],0,0⟩:=by and_intros<;>kernel_rfl
theorem afs:eqT prog 36=true/\
 eqT prog 205=true:=by and_intros<;>kernel_rfl

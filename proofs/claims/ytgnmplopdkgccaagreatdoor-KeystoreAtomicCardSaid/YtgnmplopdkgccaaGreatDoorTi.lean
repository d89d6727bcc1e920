/- own work: steps of the proof -/
import Derived.Test.YtgnmplopdkgccaaGreatDoorAbsS
import Derived.Test.YtgnmplopdkgccaaGreatDoorProg
import Derived.KernelRfl
set_option linter.all false
set_option maxRecDepth 100000
namespace Go.Abs
open RowKit Proofs Proofs.Tryz
open Value renaming int→g',bool→v',slice→x',string→y'
open IntKind renaming i64→z',u64→A',u8→B'
def z41:List Value:=[g' A' 0,g' A' 0,g' z' 0,v' false,g' A' 0,g' z' 0,g' z' 0,g' z' 0,x' none 0 0,g' z' 0,x' none 0 0,g' z' 0,g' z' 0,g' z' 0,v' false,x' none 0 0,v' false,g' z' 0,g' z' 0,g' z' 0,g' z' 0,g' A' 0,v' false,g' A' 0,g' z' 0,y' ⟨⟨[]⟩⟩,g' z' 0,v' false,g' z' 0,g' A' 0,g' z' 0,x' none 0 0]
theorem aeB:fB z41=true:=π
theorem aeC:z41.length=32:=rfl
def z42:List Value:=z41++[x' none 0 0]
theorem aeD:fB z42=true:=π
theorem aeE:z42.length=33:=rfl
def z43:List Value:=z42
theorem aeF:fB z43=true:=π
theorem aeG:z43.length=33:=rfl
def z114:List Value:=[g' z' 0,x' none 0 0,x' none 0 0,x' none 0 0,g' z' 0,x' none 0 0,y' ⟨⟨[]⟩⟩,y' ⟨⟨[]⟩⟩,g' z' 0,g' A' 0,x' none 0 0,g' A' 0,g' z' 0,g' z' 0,g' z' 0,v' false,v' false,x' none 0 0]
theorem aeH:fB z114=true:=π
theorem aeI:z114.length=18:=rfl
def z118:List Value:=[g' z' 0,y' ⟨⟨[]⟩⟩,y' ⟨⟨[]⟩⟩,y' ⟨⟨[]⟩⟩,g' A' 0,g' z' 0,g' z' 0,x' none 0 0,v' false,v' false,v' false,v' false,g' z' 0,g' A' 0,v' false,g' A' 0,x' none 0 0,x' none 0 0,g' z' 0,x' none 0 0,g' z' 0]
theorem aeJ:fB z118=true:=π
theorem aeK:z118.length=21:=rfl
def z121:List Value:=[v' false,g' z' 0]++z118++[x' none 0 0,g' z' 0]
theorem aeL:fB z121=true:=π
theorem aeM:z121.length=25:=rfl
def QG:List Value:=List.replicate 256 (v' false)
theorem ZR:fB QG=true:=π
theorem ZS:QG.length=256:=π
def QH:List Value:=z41++z118++[x' none 0 0,g' z' 0]++z114++[g' z' 0]
theorem ZT:fB QH=true:=π
theorem ZU:QH.length=74:=rfl
attribute [go_sem] aeB aeC aeD aeE aeF aeG aeH aeI aeJ aeK aeL aeM ZR ZS ZT ZU
theorem afk:ae prog 3=⟨.int z',1,8,some [g' z' 0],[],0,0⟩/\
 ae prog 4=⟨.bool,1,1,some [v' false],[],0,0⟩/\
 ae prog 5=⟨.int B',1,1,some [g' B' 0],[],0,0⟩/\
 ae prog 9=⟨.str,1,16,some [y' ⟨⟨[]⟩⟩],[],0,0⟩/\
 ae prog 22=⟨.slice,1,24,some [x' none 0 0],[],3,0⟩/\
 ae prog 24=⟨.int A',1,8,some [g' A' 0],[],0,0⟩/\
 ae prog 25=⟨.slice,1,24,some [x' none 0 0],[],28,0⟩/\
 ae prog 27=⟨.struct,9,88,some [g' A' 0,g' A' 0,g' z' 0,v' false,g' A' 0,g' z' 0,g' z' 0,g' z' 0,x' none 0 0],[(0,1,.int A'),(1,1,.int A'),(2,1,.int z'),(3,1,.bool),(4,1,.int A'),(5,1,.int z'),(6,1,.int z'),(7,1,.int z'),(8,1,.slice)],0,0⟩:=by and_intros<;>kernel_rfl
theorem afl:ae prog 28=⟨.slice,1,24,some [x' none 0 0],[],5,0⟩/\
 ae prog 30=⟨.struct,2,32,some [g' z' 0,x' none 0 0],[(0,1,.int z'),(1,1,.slice)],0,0⟩/\
 ae prog 32=⟨.struct,6,64,some [g' z' 0,x' none 0 0,g' z' 0,g' z' 0,g' z' 0,v' false],[(0,2,.struct),(2,1,.int z'),(3,1,.int z'),(4,1,.int z'),(5,1,.bool)],0,0⟩/\
 ae prog 33=⟨.slice,1,24,some [x' none 0 0],[],80,0⟩/\
 ae prog 35=⟨.struct,7,88,some [g' z' 0,x' none 0 0,g' z' 0,g' z' 0,g' z' 0,v' false,x' none 0 0],[(0,6,.struct),(6,1,.slice)],0,0⟩/\
 ae prog 37=⟨.struct,6,56,some [g' A' 0,v' false,g' A' 0,g' z' 0,y' ⟨⟨[]⟩⟩,g' z' 0],[(0,1,.int A'),(1,1,.bool),(2,1,.int A'),(3,1,.int z'),(4,1,.str),(5,1,.int z')],0,0⟩/\
 ae prog 39=⟨.struct,5,56,some [v' false,g' z' 0,g' A' 0,g' z' 0,x' none 0 0],[(0,1,.bool),(1,1,.int z'),(2,1,.int A'),(3,1,.int z'),(4,1,.slice)],0,0⟩/\
 ae prog 41=⟨.struct,32,328,some z41,[(0,9,.struct),(9,7,.struct),(16,1,.bool),(17,1,.int z'),(18,1,.int z'),(19,1,.int z'),(20,1,.int z'),(21,6,.struct),(27,5,.struct)],0,0⟩:=by and_intros<;>kernel_rfl
theorem afm:ae prog 43=⟨.struct,33,352,some z43,[(0,32,.struct),(32,1,.slice)],0,0⟩/\
 ae prog 60=⟨.int A',1,8,some [g' A' 0],[],0,0⟩/\
 ae prog 51=⟨.int z',1,8,some [g' z' 0],[],0,0⟩/\
 ae prog 75=⟨.slice,1,24,some [x' none 0 0],[],73,0⟩/\
 ae prog 49=⟨.slice,1,24,some [x' none 0 0],[],46,0⟩/\
 ae prog 94=⟨.struct,4,32,some [v' false,g' A' 0,g' z' 0,g' z' 0],[(0,1,.bool),(1,1,.int A'),(2,1,.int z'),(3,1,.int z')],0,0⟩/\
 ae prog 112=⟨.slice,1,24,some [x' none 0 0],[],343,0⟩/\
 ae prog 114=⟨.struct,18,248,some z114,[(0,1,.int z'),(1,1,.slice),(2,1,.slice),(3,1,.slice),(4,1,.int z'),(5,1,.slice),(6,1,.str),(7,1,.str),(8,1,.int z'),(9,1,.int A'),(10,1,.slice),(11,1,.int A'),(12,1,.int z'),(13,1,.int z'),(14,1,.int z'),(15,1,.bool),(16,1,.bool),(17,1,.slice)],0,0⟩:=by and_intros<;>kernel_rfl
theorem afn:ae prog 118=⟨.struct,21,232,some z118,[(0,1,.int z'),(1,1,.str),(2,1,.str),(3,1,.str),(4,1,.int A'),(5,1,.int z'),(6,1,.int z'),(7,1,.slice),(8,1,.bool),(9,1,.bool),(10,1,.bool),(11,1,.bool),(12,1,.int z'),(13,1,.int A'),(14,1,.bool),(15,1,.int A'),(16,1,.slice),(17,1,.slice),(18,1,.int z'),(19,1,.slice),(20,1,.int z')],0,0⟩/\
 ae prog 119=⟨.slice,1,24,some [x' none 0 0],[],126,0⟩/\
 ae prog 121=⟨.struct,25,280,some z121,[(0,1,.bool),(1,1,.int z'),(2,21,.struct),(23,1,.slice),(24,1,.int z')],0,0⟩/\
 ae prog 126=⟨.struct,2,16,some [g' z' 0,g' z' 0],[(0,1,.int z'),(1,1,.int z')],0,0⟩/\
 ae prog 80=⟨.struct,2,32,some [g' z' 0,x' none 0 0],[(0,1,.int z'),(1,1,.slice)],0,0⟩/\
 ae prog 73=⟨.struct,4,32,some [g' A' 0,g' z' 0,g' z' 0,g' z' 0],[(0,1,.int A'),(1,1,.int z'),(2,1,.int z'),(3,1,.int z')],0,0⟩/\
 ae prog 105=⟨.slice,1,24,some [x' none 0 0],[],108,0⟩/\
 ae prog 46=⟨.struct,9,88,some [y' ⟨⟨[]⟩⟩,y' ⟨⟨[]⟩⟩,y' ⟨⟨[]⟩⟩,g' A' 0,g' z' 0,v' false,g' z' 0,v' false,v' false],[(0,1,.str),(1,1,.str),(2,1,.str),(3,1,.int A'),(4,1,.int z'),(5,1,.bool),(6,1,.int z'),(7,1,.bool),(8,1,.bool)],0,0⟩:=by and_intros<;>kernel_rfl
theorem afo:ae prog 68=⟨.slice,1,24,some [x' none 0 0],[],135,0⟩/\
 ae prog 189=⟨.slice,1,24,some [x' none 0 0],[],9,0⟩/\
 ae prog 139=⟨.slice,1,24,some [x' none 0 0],[],24,0⟩/\
 ae prog 108=⟨.struct,5,40,some [g' z' 0,g' A' 0,g' z' 0,g' z' 0,g' z' 0],[(0,1,.int z'),(1,4,.struct)],0,0⟩/\
 ae prog 135=⟨.struct,10,96,some [g' z' 0,y' ⟨⟨[]⟩⟩,y' ⟨⟨[]⟩⟩,y' ⟨⟨[]⟩⟩,g' A' 0,g' z' 0,v' false,g' z' 0,v' false,v' false],[(0,1,.int z'),(1,9,.struct)],0,0⟩/\
 ae prog 244=⟨.struct,2,16,some [g' z' 0,g' A' 0],[(0,1,.int z'),(1,1,.int A')],0,0⟩/\
 ae prog 246=⟨.struct,8,80,some [g' A' 0,g' z' 0,g' z' 0,g' z' 0,g' A' 0,x' none 0 0,g' z' 0,g' A' 0],[(0,1,.int A'),(1,1,.int z'),(2,1,.int z'),(3,1,.int z'),(4,1,.int A'),(5,1,.slice),(6,2,.struct)],0,0⟩/\
 ae prog 275=⟨.struct,4,32,some [g' A' 0,g' A' 0,g' A' 0,g' A' 0],[(0,1,.int A'),(1,1,.int A'),(2,1,.int A'),(3,1,.int A')],0,0⟩:=by and_intros<;>kernel_rfl
theorem afp:ae prog 284=⟨.array,4,32,some [g' A' 0,g' A' 0,g' A' 0,g' A' 0],[],24,4⟩/\
 ae prog 227=⟨.struct,1,8,some [g' z' 0],[(0,1,.int z')],0,0⟩/\
 ae prog 230=⟨.struct,3,40,some [g' z' 0,g' z' 0,x' none 0 0],[(0,1,.int z'),(1,1,.int z'),(2,1,.slice)],0,0⟩/\
 ae prog 238=⟨.array,256,256,some QG,[],4,256⟩/\
 ae prog 140=⟨.slice,1,24,some [x' none 0 0],[],154,0⟩/\
 ae prog 154=⟨.struct,3,32,some [g' z' 0,g' A' 0,y' ⟨⟨[]⟩⟩],[(0,1,.int z'),(1,1,.int A'),(2,1,.str)],0,0⟩/\
 ae prog 311=⟨.struct,74,848,some QH,[(0,32,.struct),(32,21,.struct),(53,1,.slice),(54,1,.int z'),(55,18,.struct),(73,1,.int z')],0,0⟩/\
 ae prog 316=⟨.struct,3,16,some [v' false,v' false,g' z' 0],[(0,1,.bool),(1,1,.bool),(2,1,.int z')],0,0⟩:=by and_intros<;>kernel_rfl
theorem afq:ae prog 343=⟨.struct,5,80,some [y' ⟨⟨[]⟩⟩,y' ⟨⟨[]⟩⟩,y' ⟨⟨[]⟩⟩,x' none 0 0,g' z' 0],[(0,1,.str),(1,1,.str),(2,1,.str),(3,1,.slice),(4,1,.int z')],0,0⟩/\
 ae prog 350=⟨.array,20,20,some [v' false,v' false,v' false,v' false,v' false,v' false,v' false,v' false,v' false,v' false,v' false,v' false,v' false,v' false,v' false,v' false,v' false,v' false,v' false,v' false],[],4,20⟩/\
 ae prog 352=⟨.array,20,480,some [x' none 0 0,x' none 0 0,x' none 0 0,x' none 0 0,x' none 0 0,x' none 0 0,x' none 0 0,x' none 0 0,x' none 0 0,x' none 0 0,x' none 0 0,x' none 0 0,x' none 0 0,x' none 0 0,x' none 0 0,x' none 0 0,x' none 0 0,x' none 0 0,x' none 0 0,x' none 0 0],[],140,20⟩/\
 ae prog 147=⟨.slice,1,24,some [x' none 0 0],[],140,0⟩/\
 ae prog 300=⟨.slice,1,24,some [x' none 0 0],[],302,0⟩/\
 ae prog 302=⟨.iface,1,16,some [Value.nilIface],[],0,0⟩/\
 ae prog 253=⟨.slice,1,24,some [x' none 0 0],[],414,0⟩/\
 ae prog 255=⟨.struct,2,32,some [x' none 0 0,g' z' 0],[(0,1,.slice),(1,1,.int z')],0,0⟩:=by and_intros<;>kernel_rfl
theorem afr:ae prog 257=⟨.struct,4,64,some [x' none 0 0,g' z' 0,x' none 0 0,g' z' 0],[(0,2,.struct),(2,1,.slice),(3,1,.int z')],0,0⟩/\
 ae prog 397=⟨.struct,3,56,some [g' z' 0,x' none 0 0,x' none 0 0],[(0,1,.int z'),(1,1,.slice),(2,1,.slice)],0,0⟩/\
 ae prog 409=⟨.array,20,160,some [g' A' 0,g' A' 0,g' A' 0,g' A' 0,g' A' 0,g' A' 0,g' A' 0,g' A' 0,g' A' 0,g' A' 0,g' A' 0,g' A' 0,g' A' 0,g' A' 0,g' A' 0,g' A' 0,g' A' 0,g' A' 0,g' A' 0,g' A' 0],[],24,20⟩/\
 ae prog 410=⟨.array,20,320,some [y' ⟨⟨[]⟩⟩,y' ⟨⟨[]⟩⟩,y' ⟨⟨[]⟩⟩,y' ⟨⟨[]⟩⟩,y' ⟨⟨[]⟩⟩,y' ⟨⟨[]⟩⟩,y' ⟨⟨[]⟩⟩,y' ⟨⟨[]⟩⟩,y' ⟨⟨[]⟩⟩,y' ⟨⟨[]⟩⟩,y' ⟨⟨[]⟩⟩,y' ⟨⟨[]⟩⟩,y' ⟨⟨[]⟩⟩,y' ⟨⟨[]⟩⟩,y' ⟨⟨[]⟩⟩,y' ⟨⟨[]⟩⟩,y' ⟨⟨[]⟩⟩,y' ⟨⟨[]⟩⟩,y' ⟨⟨[]⟩⟩,y' ⟨⟨[]⟩⟩],[],9,20⟩/\
 ae prog 414=⟨.struct,3,40,some [v' false,g' z' 0,x' none 0 0],[(0,1,.bool),(1,1,.int z'),(2,1,.slice)],0,0⟩/\
 ae prog 271=⟨.struct,2,32,some [x' none 0 0,g' z' 0],[(0,2,.struct)],0,0⟩/\
 ae prog 379=⟨.struct,3,48,some [y' ⟨⟨[]⟩⟩,g' z' 0,x' none 0 0],[(0,1,.str),(1,1,.int z'),(2,1,.slice)],0,0⟩:=by and_intros<;>kernel_rfl
theorem afs:eqT prog 37=true/\
 eqT prog 244=true:=by and_intros<;>kernel_rfl

/- own work: steps of the proof -/
import Derived.Test.YthojgcnbclfinaaGreatDoorAbsS
import Derived.Test.YthojgcnbclfinaaGreatDoorProg
import Derived.KernelRfl
set_option linter.all false
set_option maxRecDepth 100000
namespace Go.Abs
open RowKit Proofs Proofs.Tryz
open Value renaming int→g',bool→v',slice→x',string→y'
open IntKind renaming i64→z',u64→A',u8→B'
def z41:List Value:=[g' A' 0,g' A' 0,g' z' 0,v' false,g' A' 0,g' z' 0,g' z' 0,g' z' 0,x' none 0 0,g' z' 0,x' none 0 0,g' z' 0,g' z' 0,g' z' 0,v' false,x' none 0 0,v' false,g' z' 0,g' z' 0,g' z' 0,g' z' 0,g' A' 0,v' false,g' A' 0,g' z' 0,y' ⟨⟨[]⟩⟩,g' z' 0,v' false,g' z' 0,g' A' 0,g' z' 0,x' none 0 0]
theorem aeB:fB z41=true:=π
theorem aeC:z41.length=32:=rfl
def z42:List Value:=z41++[x' none 0 0]
theorem aeD:fB z42=true:=π
theorem aeE:z42.length=33:=rfl
def z43:List Value:=z42
theorem aeF:fB z43=true:=π
theorem aeG:z43.length=33:=rfl
def z138:List Value:=[g' z' 0,x' none 0 0,x' none 0 0,x' none 0 0,g' z' 0,x' none 0 0,y' ⟨⟨[]⟩⟩,y' ⟨⟨[]⟩⟩,g' z' 0,g' A' 0,x' none 0 0,g' A' 0,g' z' 0,g' z' 0,g' z' 0,v' false,v' false,x' none 0 0]
theorem aeH:fB z138=true:=π
theorem aeI:z138.length=18:=rfl
def z142:List Value:=[g' z' 0,y' ⟨⟨[]⟩⟩,y' ⟨⟨[]⟩⟩,y' ⟨⟨[]⟩⟩,g' A' 0,g' z' 0,g' z' 0,x' none 0 0,v' false,v' false,v' false,v' false,g' z' 0,g' A' 0,v' false,g' A' 0,x' none 0 0,x' none 0 0,g' z' 0,x' none 0 0,g' z' 0]
theorem aeJ:fB z142=true:=π
theorem aeK:z142.length=21:=rfl
def z145:List Value:=[v' false,g' z' 0]++z142++[x' none 0 0,g' z' 0]
theorem aeL:fB z145=true:=π
theorem aeM:z145.length=25:=rfl
def QG:List Value:=List.replicate 256 (v' false)
theorem ZR:fB QG=true:=π
theorem ZS:QG.length=256:=π
def QH:List Value:=z41++z142++[x' none 0 0,g' z' 0]++z138++[g' z' 0]
theorem ZT:fB QH=true:=π
theorem ZU:QH.length=74:=rfl
attribute [go_sem] aeB aeC aeD aeE aeF aeG aeH aeI aeJ aeK aeL aeM ZR ZS ZT ZU
theorem afk:ae prog 3=⟨.int z',1,8,some [g' z' 0],[],0,0⟩/\
 ae prog 4=⟨.bool,1,1,some [v' false],[],0,0⟩/\
 ae prog 5=⟨.int B',1,1,some [g' B' 0],[],0,0⟩/\
 ae prog 9=⟨.str,1,16,some [y' ⟨⟨[]⟩⟩],[],0,0⟩/\
 ae prog 22=⟨.slice,1,24,some [x' none 0 0],[],3,0⟩/\
 ae prog 25=⟨.int A',1,8,some [g' A' 0],[],0,0⟩/\
 ae prog 26=⟨.slice,1,24,some [x' none 0 0],[],23,0⟩/\
 ae prog 28=⟨.struct,9,88,some [g' A' 0,g' A' 0,g' z' 0,v' false,g' A' 0,g' z' 0,g' z' 0,g' z' 0,x' none 0 0],[(0,1,.int A'),(1,1,.int A'),(2,1,.int z'),(3,1,.bool),(4,1,.int A'),(5,1,.int z'),(6,1,.int z'),(7,1,.int z'),(8,1,.slice)],0,0⟩:=by and_intros<;>kernel_rfl
theorem afl:ae prog 23=⟨.slice,1,24,some [x' none 0 0],[],5,0⟩/\
 ae prog 30=⟨.struct,2,32,some [g' z' 0,x' none 0 0],[(0,1,.int z'),(1,1,.slice)],0,0⟩/\
 ae prog 32=⟨.struct,6,64,some [g' z' 0,x' none 0 0,g' z' 0,g' z' 0,g' z' 0,v' false],[(0,2,.struct),(2,1,.int z'),(3,1,.int z'),(4,1,.int z'),(5,1,.bool)],0,0⟩/\
 ae prog 33=⟨.slice,1,24,some [x' none 0 0],[],48,0⟩/\
 ae prog 35=⟨.struct,7,88,some [g' z' 0,x' none 0 0,g' z' 0,g' z' 0,g' z' 0,v' false,x' none 0 0],[(0,6,.struct),(6,1,.slice)],0,0⟩/\
 ae prog 37=⟨.struct,6,56,some [g' A' 0,v' false,g' A' 0,g' z' 0,y' ⟨⟨[]⟩⟩,g' z' 0],[(0,1,.int A'),(1,1,.bool),(2,1,.int A'),(3,1,.int z'),(4,1,.str),(5,1,.int z')],0,0⟩/\
 ae prog 39=⟨.struct,5,56,some [v' false,g' z' 0,g' A' 0,g' z' 0,x' none 0 0],[(0,1,.bool),(1,1,.int z'),(2,1,.int A'),(3,1,.int z'),(4,1,.slice)],0,0⟩/\
 ae prog 41=⟨.struct,32,328,some z41,[(0,9,.struct),(9,7,.struct),(16,1,.bool),(17,1,.int z'),(18,1,.int z'),(19,1,.int z'),(20,1,.int z'),(21,6,.struct),(27,5,.struct)],0,0⟩:=by and_intros<;>kernel_rfl
theorem afm:ae prog 43=⟨.struct,33,352,some z43,[(0,32,.struct),(32,1,.slice)],0,0⟩/\
 ae prog 45=⟨.int A',1,8,some [g' A' 0],[],0,0⟩/\
 ae prog 49=⟨.int z',1,8,some [g' z' 0],[],0,0⟩/\
 ae prog 75=⟨.slice,1,24,some [x' none 0 0],[],98,0⟩/\
 ae prog 66=⟨.slice,1,24,some [x' none 0 0],[],60,0⟩/\
 ae prog 78=⟨.struct,4,32,some [v' false,g' A' 0,g' z' 0,g' z' 0],[(0,1,.bool),(1,1,.int A'),(2,1,.int z'),(3,1,.int z')],0,0⟩/\
 ae prog 136=⟨.slice,1,24,some [x' none 0 0],[],366,0⟩/\
 ae prog 138=⟨.struct,18,248,some z138,[(0,1,.int z'),(1,1,.slice),(2,1,.slice),(3,1,.slice),(4,1,.int z'),(5,1,.slice),(6,1,.str),(7,1,.str),(8,1,.int z'),(9,1,.int A'),(10,1,.slice),(11,1,.int A'),(12,1,.int z'),(13,1,.int z'),(14,1,.int z'),(15,1,.bool),(16,1,.bool),(17,1,.slice)],0,0⟩:=by and_intros<;>kernel_rfl
theorem afn:ae prog 142=⟨.struct,21,232,some z142,[(0,1,.int z'),(1,1,.str),(2,1,.str),(3,1,.str),(4,1,.int A'),(5,1,.int z'),(6,1,.int z'),(7,1,.slice),(8,1,.bool),(9,1,.bool),(10,1,.bool),(11,1,.bool),(12,1,.int z'),(13,1,.int A'),(14,1,.bool),(15,1,.int A'),(16,1,.slice),(17,1,.slice),(18,1,.int z'),(19,1,.slice),(20,1,.int z')],0,0⟩/\
 ae prog 143=⟨.slice,1,24,some [x' none 0 0],[],150,0⟩/\
 ae prog 145=⟨.struct,25,280,some z145,[(0,1,.bool),(1,1,.int z'),(2,21,.struct),(23,1,.slice),(24,1,.int z')],0,0⟩/\
 ae prog 150=⟨.struct,2,16,some [g' z' 0,g' z' 0],[(0,1,.int z'),(1,1,.int z')],0,0⟩/\
 ae prog 48=⟨.struct,2,32,some [g' z' 0,x' none 0 0],[(0,1,.int z'),(1,1,.slice)],0,0⟩/\
 ae prog 98=⟨.struct,4,32,some [g' A' 0,g' z' 0,g' z' 0,g' z' 0],[(0,1,.int A'),(1,1,.int z'),(2,1,.int z'),(3,1,.int z')],0,0⟩/\
 ae prog 95=⟨.slice,1,24,some [x' none 0 0],[],100,0⟩/\
 ae prog 60=⟨.struct,9,88,some [y' ⟨⟨[]⟩⟩,y' ⟨⟨[]⟩⟩,y' ⟨⟨[]⟩⟩,g' A' 0,g' z' 0,v' false,g' z' 0,v' false,v' false],[(0,1,.str),(1,1,.str),(2,1,.str),(3,1,.int A'),(4,1,.int z'),(5,1,.bool),(6,1,.int z'),(7,1,.bool),(8,1,.bool)],0,0⟩:=by and_intros<;>kernel_rfl
theorem afo:ae prog 88=⟨.slice,1,24,some [x' none 0 0],[],91,0⟩/\
 ae prog 216=⟨.slice,1,24,some [x' none 0 0],[],9,0⟩/\
 ae prog 186=⟨.slice,1,24,some [x' none 0 0],[],25,0⟩/\
 ae prog 100=⟨.struct,5,40,some [g' z' 0,g' A' 0,g' z' 0,g' z' 0,g' z' 0],[(0,1,.int z'),(1,4,.struct)],0,0⟩/\
 ae prog 91=⟨.struct,10,96,some [g' z' 0,y' ⟨⟨[]⟩⟩,y' ⟨⟨[]⟩⟩,y' ⟨⟨[]⟩⟩,g' A' 0,g' z' 0,v' false,g' z' 0,v' false,v' false],[(0,1,.int z'),(1,9,.struct)],0,0⟩/\
 ae prog 274=⟨.struct,2,16,some [g' z' 0,g' A' 0],[(0,1,.int z'),(1,1,.int A')],0,0⟩/\
 ae prog 276=⟨.struct,8,80,some [g' A' 0,g' z' 0,g' z' 0,g' z' 0,g' A' 0,x' none 0 0,g' z' 0,g' A' 0],[(0,1,.int A'),(1,1,.int z'),(2,1,.int z'),(3,1,.int z'),(4,1,.int A'),(5,1,.slice),(6,2,.struct)],0,0⟩/\
 ae prog 319=⟨.struct,4,32,some [g' A' 0,g' A' 0,g' A' 0,g' A' 0],[(0,1,.int A'),(1,1,.int A'),(2,1,.int A'),(3,1,.int A')],0,0⟩:=by and_intros<;>kernel_rfl
theorem afp:ae prog 293=⟨.array,4,32,some [g' A' 0,g' A' 0,g' A' 0,g' A' 0],[],25,4⟩/\
 ae prog 239=⟨.struct,1,8,some [g' z' 0],[(0,1,.int z')],0,0⟩/\
 ae prog 237=⟨.struct,3,40,some [g' z' 0,g' z' 0,x' none 0 0],[(0,1,.int z'),(1,1,.int z'),(2,1,.slice)],0,0⟩/\
 ae prog 227=⟨.array,256,256,some QG,[],4,256⟩/\
 ae prog 187=⟨.slice,1,24,some [x' none 0 0],[],201,0⟩/\
 ae prog 201=⟨.struct,3,32,some [g' z' 0,g' A' 0,y' ⟨⟨[]⟩⟩],[(0,1,.int z'),(1,1,.int A'),(2,1,.str)],0,0⟩/\
 ae prog 338=⟨.struct,74,848,some QH,[(0,32,.struct),(32,21,.struct),(53,1,.slice),(54,1,.int z'),(55,18,.struct),(73,1,.int z')],0,0⟩/\
 ae prog 343=⟨.struct,3,16,some [v' false,v' false,g' z' 0],[(0,1,.bool),(1,1,.bool),(2,1,.int z')],0,0⟩:=by and_intros<;>kernel_rfl
theorem afq:ae prog 366=⟨.struct,5,80,some [y' ⟨⟨[]⟩⟩,y' ⟨⟨[]⟩⟩,y' ⟨⟨[]⟩⟩,x' none 0 0,g' z' 0],[(0,1,.str),(1,1,.str),(2,1,.str),(3,1,.slice),(4,1,.int z')],0,0⟩/\
 ae prog 372=⟨.array,20,20,some [v' false,v' false,v' false,v' false,v' false,v' false,v' false,v' false,v' false,v' false,v' false,v' false,v' false,v' false,v' false,v' false,v' false,v' false,v' false,v' false],[],4,20⟩/\
 ae prog 374=⟨.array,20,480,some [x' none 0 0,x' none 0 0,x' none 0 0,x' none 0 0,x' none 0 0,x' none 0 0,x' none 0 0,x' none 0 0,x' none 0 0,x' none 0 0,x' none 0 0,x' none 0 0,x' none 0 0,x' none 0 0,x' none 0 0,x' none 0 0,x' none 0 0,x' none 0 0,x' none 0 0,x' none 0 0],[],187,20⟩/\
 ae prog 194=⟨.slice,1,24,some [x' none 0 0],[],187,0⟩/\
 ae prog 284=⟨.slice,1,24,some [x' none 0 0],[],286,0⟩/\
 ae prog 286=⟨.iface,1,16,some [Value.nilIface],[],0,0⟩/\
 ae prog 295=⟨.slice,1,24,some [x' none 0 0],[],435,0⟩/\
 ae prog 297=⟨.struct,2,32,some [x' none 0 0,g' z' 0],[(0,1,.slice),(1,1,.int z')],0,0⟩:=by and_intros<;>kernel_rfl
theorem afr:ae prog 299=⟨.struct,4,64,some [x' none 0 0,g' z' 0,x' none 0 0,g' z' 0],[(0,2,.struct),(2,1,.slice),(3,1,.int z')],0,0⟩/\
 ae prog 412=⟨.struct,3,56,some [g' z' 0,x' none 0 0,x' none 0 0],[(0,1,.int z'),(1,1,.slice),(2,1,.slice)],0,0⟩/\
 ae prog 424=⟨.array,20,160,some [g' A' 0,g' A' 0,g' A' 0,g' A' 0,g' A' 0,g' A' 0,g' A' 0,g' A' 0,g' A' 0,g' A' 0,g' A' 0,g' A' 0,g' A' 0,g' A' 0,g' A' 0,g' A' 0,g' A' 0,g' A' 0,g' A' 0,g' A' 0],[],25,20⟩/\
 ae prog 425=⟨.array,20,320,some [y' ⟨⟨[]⟩⟩,y' ⟨⟨[]⟩⟩,y' ⟨⟨[]⟩⟩,y' ⟨⟨[]⟩⟩,y' ⟨⟨[]⟩⟩,y' ⟨⟨[]⟩⟩,y' ⟨⟨[]⟩⟩,y' ⟨⟨[]⟩⟩,y' ⟨⟨[]⟩⟩,y' ⟨⟨[]⟩⟩,y' ⟨⟨[]⟩⟩,y' ⟨⟨[]⟩⟩,y' ⟨⟨[]⟩⟩,y' ⟨⟨[]⟩⟩,y' ⟨⟨[]⟩⟩,y' ⟨⟨[]⟩⟩,y' ⟨⟨[]⟩⟩,y' ⟨⟨[]⟩⟩,y' ⟨⟨[]⟩⟩,y' ⟨⟨[]⟩⟩],[],9,20⟩/\
 ae prog 435=⟨.struct,3,40,some [v' false,g' z' 0,x' none 0 0],[(0,1,.bool),(1,1,.int z'),(2,1,.slice)],0,0⟩/\
 ae prog 315=⟨.struct,2,32,some [x' none 0 0,g' z' 0],[(0,2,.struct)],0,0⟩/\
 ae prog 402=⟨.struct,3,48,some [y' ⟨⟨[]⟩⟩,g' z' 0,x' none 0 0],[(0,1,.str),(1,1,.int z'),(2,1,.slice)],0,0⟩:=by and_intros<;>kernel_rfl
theorem afs:eqT prog 37=true/\
 eqT prog 274=true:=by and_intros<;>kernel_rfl

/- The package variables that the executor knows, and their cells. Own work; no statement of the seat is proved here. -/
import GoSem.Claim
namespace Go.Abs
set_option linter.unusedSimpArgs false
set_option linter.unusedVariables false
def BJ:List Nat:=List.replicate 128 240++List.replicate 66 241++List.replicate 30 2++[19]++List.replicate 12 3++[35,3,3,52,4,4,4,68]++List.replicate 11 241
def mD:List Value:=BJ.map fun (n:Nat) => .int .u8 (n:Int)
def lK:List Value:=[.int .u8 128,.int .u8 191,.int .u8 160,.int .u8 191,.int .u8 128,.int .u8 159,.int .u8 144,.int .u8 191,.int .u8 128,.int .u8 143]++List.replicate 22 (.int .u8 0)
def ku (g:Nat):Option (List Value) :=
 match Nat.beq g 1,Nat.beq g 2 with
 | true,_=>some mD
 | _,true=>some lK
 | _,_=>none
end Go.Abs

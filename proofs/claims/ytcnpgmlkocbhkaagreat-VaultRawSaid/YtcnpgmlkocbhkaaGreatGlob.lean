/-
  The package variables that the executor knows, and their cells. Own work; no statement of the seat is proved here.
-/
import GoSem.Claim
namespace Go.Abs
set_option linter.unusedSimpArgs false
set_option linter.unusedVariables false
def globT (_ : Nat) : Option (List Value) := none
end Go.Abs

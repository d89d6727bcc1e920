/- own work: steps of the proof -/
import Derived.Test.YtgnmplopdkgccaaGreatDoorRows
import Derived.KernelRfl
import GoSem.ClaimGoes
set_option linter.all false
namespace Go.Proofs.YtgnmplopdkgccaaGreatDoor
open Go
theorem Ep:false=Rows.keystoreAtomicRow.goesBy Tryz.prog:=by
 have h:Tryz.prog.funcs.any Func.goes=false:=by kernel_rfl
 have g:Tryz.prog.goes=fun _=>false:=by
  funext f;unfold Program.goes;rw[h,Bool.and_false,Bool.or_false,List.any_eq_false];intro x _ c
  cases a:Tryz.prog.funcs[x]? with
  |none=>rw[a] at c;cases c
  |some y=>
   rw[a] at c;have d:=Array.mem_of_getElem? a;rw[Array.any_eq_false'] at h;exact h y d c
 have q:∀o:Option FuncId,o.any (fun _=>false)=false:=fun o=>by cases o<;>rfl
 unfold OpenClaim.goesBy Program.goesAt Program.goesFrom;rw[g,q,Bool.false_or];rfl
end Go.Proofs.YtgnmplopdkgccaaGreatDoor

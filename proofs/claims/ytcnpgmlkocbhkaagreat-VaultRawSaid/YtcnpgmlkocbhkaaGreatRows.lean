/-
  No cell of these rows narrows 'for every input' (looked for: loops, veiled, ifaces, maps, wideKeys, modest, calm, conditions, laid).
  DERIVED. THE GIVEN ROWS OF THIS SEAT. 6 by the template 'for every input the law returns true; each argument reads behind the call as it read before'; 0 by the template 'total and deterministic' (their statements: YtcnpgmlkocbhkaaGreatTotals.lean).
  GIVEN WITH THE SEED: the statements are not yours to turn. If you find one false, say at which input.
  Laid BY PROGRAM, IN A SANDBOX (cutbox-rows.mjs): the forced cells as the released guide's own fill.sh prints them over the translation 3b6609eb334e0a12… (all of the seat's roots in one cut). By AI agents, Wed Nov 11 2026. No macro, syntax, notation, axiom, sorry.
-/
import Derived.Test.YtcnpgmlkocbhkaaGreatChecked
import GoSem.Claim
import GoSem.ClaimJoined
import GoSem.ClaimMapViews
import Derived.JoinedTies
import Derived.KernelRfl
namespace Go.Proofs.YtcnpgmlkocbhkaaGreat
/- THE CELL 'sum', in the pinned program and in every row, IS THE sha256 OF THE DUMP (.gsa) THAT YtcnpgmlkocbhkaaGreatProg.lean LOADS. Nothing in Lean hashes anything: it is a label: what it is worth is what the hold of that sum in a sandbox is worth. -/
noncomputable def Tryz.pinned : Pinned := { name := "ytcnpgmlkocbhkaagreat", sum := "3b6609eb334e0a12e633960ed11a6a7a20f52e95aa29d1206a12911a4ca33474", checked := Tryz.checked }
namespace Rows
def none {H : Type} : Left H := { results := [], args := [] }

/-- 'passkeylaw9.VaultOpens': WHATEVER THE INPUT: true; the input reads as it did. -/
def vaultOpensSpec : ChangeSpec := { name := "vaultOpens", fn := fun _ => fun
  | [d1, d2, d3, d4, d5] => { results := [.lit (.bool true)], args := [d1, d2, d3, d4, d5] }
  | _ => none }
def vaultOpensRow : OpenClaim := { program := "ytcnpgmlkocbhkaagreat", sum := "3b6609eb334e0a12e633960ed11a6a7a20f52e95aa29d1206a12911a4ca33474", func := "passkey/passkeylaw9.VaultOpens", spec := "vaultOpens", unfollowed := true, recurses := true, apart := false }
def VaultOpensSaid : Prop := vaultOpensRow.holds Tryz.pinned (OpenSpec.ofChange vaultOpensSpec)

/-- ITS FALSE NEIGHBOUR: 'it returns false'. Refute it at one input. -/
def vaultOpensWrong : ChangeSpec := { name := "vaultOpens", fn := fun _ => fun
  | [d1, d2, d3, d4, d5] => { results := [.lit (.bool false)], args := [d1, d2, d3, d4, d5] }
  | _ => none }
def VaultOpensWrongFalsely : Prop := vaultOpensRow.holds Tryz.pinned (OpenSpec.ofChange vaultOpensWrong)

/-- 'passkeylaw9.VaultRaw': WHATEVER THE INPUT: true; the input reads as it did. -/
def vaultRawSpec : ChangeSpec := { name := "vaultRaw", fn := fun _ => fun
  | [d1, d2, d3, d4] => { results := [.lit (.bool true)], args := [d1, d2, d3, d4] }
  | _ => none }
def vaultRawRow : OpenClaim := { program := "ytcnpgmlkocbhkaagreat", sum := "3b6609eb334e0a12e633960ed11a6a7a20f52e95aa29d1206a12911a4ca33474", func := "passkey/passkeylaw9.VaultRaw", spec := "vaultRaw", unfollowed := true, recurses := true, apart := false }
def VaultRawSaid : Prop := vaultRawRow.holds Tryz.pinned (OpenSpec.ofChange vaultRawSpec)

/-- ITS FALSE NEIGHBOUR: 'it returns false'. Refute it at one input. -/
def vaultRawWrong : ChangeSpec := { name := "vaultRaw", fn := fun _ => fun
  | [d1, d2, d3, d4] => { results := [.lit (.bool false)], args := [d1, d2, d3, d4] }
  | _ => none }
def VaultRawWrongFalsely : Prop := vaultRawRow.holds Tryz.pinned (OpenSpec.ofChange vaultRawWrong)

/-- 'passkeylaw9.VaultPuts': WHATEVER THE INPUT: true; the input reads as it did. -/
def vaultPutsSpec : ChangeSpec := { name := "vaultPuts", fn := fun _ => fun
  | [d1, d2, d3, d4, d5] => { results := [.lit (.bool true)], args := [d1, d2, d3, d4, d5] }
  | _ => none }
def vaultPutsRow : OpenClaim := { program := "ytcnpgmlkocbhkaagreat", sum := "3b6609eb334e0a12e633960ed11a6a7a20f52e95aa29d1206a12911a4ca33474", func := "passkey/passkeylaw9.VaultPuts", spec := "vaultPuts", unfollowed := true, recurses := true, apart := false }
def VaultPutsSaid : Prop := vaultPutsRow.holds Tryz.pinned (OpenSpec.ofChange vaultPutsSpec)

/-- ITS FALSE NEIGHBOUR: 'it returns false'. Refute it at one input. -/
def vaultPutsWrong : ChangeSpec := { name := "vaultPuts", fn := fun _ => fun
  | [d1, d2, d3, d4, d5] => { results := [.lit (.bool false)], args := [d1, d2, d3, d4, d5] }
  | _ => none }
def VaultPutsWrongFalsely : Prop := vaultPutsRow.holds Tryz.pinned (OpenSpec.ofChange vaultPutsWrong)

/-- 'passkeylaw9.VaultGets': WHATEVER THE INPUT: true; the input reads as it did. -/
def vaultGetsSpec : ChangeSpec := { name := "vaultGets", fn := fun _ => fun
  | [d1, d2, d3] => { results := [.lit (.bool true)], args := [d1, d2, d3] }
  | _ => none }
def vaultGetsRow : OpenClaim := { program := "ytcnpgmlkocbhkaagreat", sum := "3b6609eb334e0a12e633960ed11a6a7a20f52e95aa29d1206a12911a4ca33474", func := "passkey/passkeylaw9.VaultGets", spec := "vaultGets", unfollowed := true, recurses := true, apart := false }
def VaultGetsSaid : Prop := vaultGetsRow.holds Tryz.pinned (OpenSpec.ofChange vaultGetsSpec)

/-- ITS FALSE NEIGHBOUR: 'it returns false'. Refute it at one input. -/
def vaultGetsWrong : ChangeSpec := { name := "vaultGets", fn := fun _ => fun
  | [d1, d2, d3] => { results := [.lit (.bool false)], args := [d1, d2, d3] }
  | _ => none }
def VaultGetsWrongFalsely : Prop := vaultGetsRow.holds Tryz.pinned (OpenSpec.ofChange vaultGetsWrong)

/-- 'passkeylaw9.VaultAtomic': WHATEVER THE INPUT: true; the input reads as it did. -/
def vaultAtomicSpec : ChangeSpec := { name := "vaultAtomic", fn := fun _ => fun
  | [d1, d2, d3, d4] => { results := [.lit (.bool true)], args := [d1, d2, d3, d4] }
  | _ => none }
def vaultAtomicRow : OpenClaim := { program := "ytcnpgmlkocbhkaagreat", sum := "3b6609eb334e0a12e633960ed11a6a7a20f52e95aa29d1206a12911a4ca33474", func := "passkey/passkeylaw9.VaultAtomic", spec := "vaultAtomic", unfollowed := true, recurses := true, apart := false }
def VaultAtomicSaid : Prop := vaultAtomicRow.holds Tryz.pinned (OpenSpec.ofChange vaultAtomicSpec)

/-- ITS FALSE NEIGHBOUR: 'it returns false'. Refute it at one input. -/
def vaultAtomicWrong : ChangeSpec := { name := "vaultAtomic", fn := fun _ => fun
  | [d1, d2, d3, d4] => { results := [.lit (.bool false)], args := [d1, d2, d3, d4] }
  | _ => none }
def VaultAtomicWrongFalsely : Prop := vaultAtomicRow.holds Tryz.pinned (OpenSpec.ofChange vaultAtomicWrong)

/-- 'passkeylaw9.VaultReopens': WHATEVER THE INPUT: true; the input reads as it did. -/
def vaultReopensSpec : ChangeSpec := { name := "vaultReopens", fn := fun _ => fun
  | [d1, d2, d3, d4] => { results := [.lit (.bool true)], args := [d1, d2, d3, d4] }
  | _ => none }
def vaultReopensRow : OpenClaim := { program := "ytcnpgmlkocbhkaagreat", sum := "3b6609eb334e0a12e633960ed11a6a7a20f52e95aa29d1206a12911a4ca33474", func := "passkey/passkeylaw9.VaultReopens", spec := "vaultReopens", unfollowed := true, recurses := true, apart := false }
def VaultReopensSaid : Prop := vaultReopensRow.holds Tryz.pinned (OpenSpec.ofChange vaultReopensSpec)

/-- ITS FALSE NEIGHBOUR: 'it returns false'. Refute it at one input. -/
def vaultReopensWrong : ChangeSpec := { name := "vaultReopens", fn := fun _ => fun
  | [d1, d2, d3, d4] => { results := [.lit (.bool false)], args := [d1, d2, d3, d4] }
  | _ => none }
def VaultReopensWrongFalsely : Prop := vaultReopensRow.holds Tryz.pinned (OpenSpec.ofChange vaultReopensWrong)

/- THE SECOND FORM. 'bulk': how many values and letters a reading holds, each counted each time it is reached (what is shared counts as often as it is met; a slice's spare places count too). A statement '..UptoSaid' is the law's where the arguments, and the package variables that the reading takes, are together of bulk at most 1048576: NARROWER than '..Said'. Prove '..Said' where nothing that the law and all that it calls make is longer than what came in: it says more and counts as full. Else prove '..UptoSaid'. A law counts once. -/
mutual
def uptoBulk {H : Type} : DataW H → Nat
  | .lit (.string bytes) => bytes.length + 1
  | .lit _ => 1
  | .nil => 1
  | .ptr d => uptoBulk d + 1
  | .slice elems spare => uptoBulkAll elems + uptoBulkAll spare + 1
  | .agg parts => uptoBulkAll parts + 1
  | .iface _ d => uptoBulk d + 1
  | .map entries => uptoBulkEntries entries + 1
  | .held _ => 1
def uptoBulkAll {H : Type} : List (DataW H) → Nat
  | [] => 0
  | d :: r => uptoBulk d + uptoBulkAll r
def uptoBulkEntries {H : Type} : List (Lit × DataW H) → Nat
  | [] => 0
  | x :: r => uptoBulkEntry x + uptoBulkEntries r
def uptoBulkEntry {H : Type} : Lit × DataW H → Nat
  | (.string bytes, d) => bytes.length + uptoBulk d + 1
  | (_, d) => uptoBulk d + 1
 end
def uptoSmall : (H : Type) → List (DataW H) → Bool := fun _ ds => decide (uptoBulkAll ds ≤ 1048576)
def OpenSpec.upto (s : _root_.Go.ChangeSpec) : _root_.Go.OpenSpec := { _root_.Go.OpenSpec.ofChange s with cond := some uptoSmall }

/-- 'passkeylaw9.VaultOpens', WHERE WHAT IT READS IS OF BULK AT MOST 1048576: true; the input reads as it did. -/
def vaultOpensUptoRow : OpenClaim := { program := "ytcnpgmlkocbhkaagreat", sum := "3b6609eb334e0a12e633960ed11a6a7a20f52e95aa29d1206a12911a4ca33474", func := "passkey/passkeylaw9.VaultOpens", spec := "vaultOpens", unfollowed := true, recurses := true, apart := false, narrowed := true }
def VaultOpensUptoSaid : Prop := vaultOpensUptoRow.holds Tryz.pinned (OpenSpec.upto vaultOpensSpec)

/-- 'passkeylaw9.VaultRaw', WHERE WHAT IT READS IS OF BULK AT MOST 1048576: true; the input reads as it did. -/
def vaultRawUptoRow : OpenClaim := { program := "ytcnpgmlkocbhkaagreat", sum := "3b6609eb334e0a12e633960ed11a6a7a20f52e95aa29d1206a12911a4ca33474", func := "passkey/passkeylaw9.VaultRaw", spec := "vaultRaw", unfollowed := true, recurses := true, apart := false, narrowed := true }
def VaultRawUptoSaid : Prop := vaultRawUptoRow.holds Tryz.pinned (OpenSpec.upto vaultRawSpec)

/-- 'passkeylaw9.VaultPuts', WHERE WHAT IT READS IS OF BULK AT MOST 1048576: true; the input reads as it did. -/
def vaultPutsUptoRow : OpenClaim := { program := "ytcnpgmlkocbhkaagreat", sum := "3b6609eb334e0a12e633960ed11a6a7a20f52e95aa29d1206a12911a4ca33474", func := "passkey/passkeylaw9.VaultPuts", spec := "vaultPuts", unfollowed := true, recurses := true, apart := false, narrowed := true }
def VaultPutsUptoSaid : Prop := vaultPutsUptoRow.holds Tryz.pinned (OpenSpec.upto vaultPutsSpec)

/-- 'passkeylaw9.VaultGets', WHERE WHAT IT READS IS OF BULK AT MOST 1048576: true; the input reads as it did. -/
def vaultGetsUptoRow : OpenClaim := { program := "ytcnpgmlkocbhkaagreat", sum := "3b6609eb334e0a12e633960ed11a6a7a20f52e95aa29d1206a12911a4ca33474", func := "passkey/passkeylaw9.VaultGets", spec := "vaultGets", unfollowed := true, recurses := true, apart := false, narrowed := true }
def VaultGetsUptoSaid : Prop := vaultGetsUptoRow.holds Tryz.pinned (OpenSpec.upto vaultGetsSpec)

/-- 'passkeylaw9.VaultAtomic', WHERE WHAT IT READS IS OF BULK AT MOST 1048576: true; the input reads as it did. -/
def vaultAtomicUptoRow : OpenClaim := { program := "ytcnpgmlkocbhkaagreat", sum := "3b6609eb334e0a12e633960ed11a6a7a20f52e95aa29d1206a12911a4ca33474", func := "passkey/passkeylaw9.VaultAtomic", spec := "vaultAtomic", unfollowed := true, recurses := true, apart := false, narrowed := true }
def VaultAtomicUptoSaid : Prop := vaultAtomicUptoRow.holds Tryz.pinned (OpenSpec.upto vaultAtomicSpec)

/-- 'passkeylaw9.VaultReopens', WHERE WHAT IT READS IS OF BULK AT MOST 1048576: true; the input reads as it did. -/
def vaultReopensUptoRow : OpenClaim := { program := "ytcnpgmlkocbhkaagreat", sum := "3b6609eb334e0a12e633960ed11a6a7a20f52e95aa29d1206a12911a4ca33474", func := "passkey/passkeylaw9.VaultReopens", spec := "vaultReopens", unfollowed := true, recurses := true, apart := false, narrowed := true }
def VaultReopensUptoSaid : Prop := vaultReopensUptoRow.holds Tryz.pinned (OpenSpec.upto vaultReopensSpec)

end Rows
end Go.Proofs.YtcnpgmlkocbhkaaGreat

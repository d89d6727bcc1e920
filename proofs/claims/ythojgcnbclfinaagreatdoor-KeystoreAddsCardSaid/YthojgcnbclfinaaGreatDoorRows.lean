/-
  NARROWER THAN 'FOR EVERY INPUT', by the rows' own cells (each row's printed sentence says how): KeystoreStores: laid · KeystoreRemoves: laid · KeystoreAdds: laid · KeystoreAtomic: laid.
  DERIVED. THE GIVEN ROWS OF THIS SEAT. 4 by the template 'for every input the law returns true; each argument reads behind the call as it read before'; 0 by the template 'total and deterministic' (their statements: YthojgcnbclfinaaGreatDoorTotals.lean).
  GIVEN WITH THE SEED: the statements are not yours to turn. If you find one false, say at which input.
  Laid BY PROGRAM, IN A SANDBOX (cutbox-rows.mjs): the forced cells as the released guide's own fill.sh prints them over the translation c25192d17187a4f4… (all of the seat's roots in one cut). By AI agents, Wed Nov 11 2026. No macro, syntax, notation, axiom, sorry.
-/
import Derived.Test.YthojgcnbclfinaaGreatDoorChecked
import GoSem.PinnedTables
import GoSem.Claim
import GoSem.ClaimJoined
import GoSem.ClaimMapViews
import Derived.JoinedTies
import Derived.KernelRfl
namespace Go.Proofs.YthojgcnbclfinaaGreatDoor
/- THE CELL 'sum', in the pinned program and in every row, IS THE sha256 OF THE DUMP (.gsa) THAT YthojgcnbclfinaaGreatDoorProg.lean LOADS. Nothing in Lean hashes anything: it is a label: what it is worth is what the hold of that sum in a sandbox is worth. -/
noncomputable def Tryz.pinned : Pinned := { name := "ythojgcnbclfinaagreatdoor", sum := "c25192d17187a4f4fe1e8ee0242a06a3d9ce26b30247e1541557c7aa1e57a9fc", checked := Tryz.checked }
namespace Rows
def none {H : Type} : Left H := { results := [], args := [] }

/- WHAT THE LISTED PACKAGE-LEVEL VARIABLES READ AS WHEN THE CALL BEGINS. Each datum BY PROGRAM (the guide's laid-datum.mjs) off the statement by which the dump's own 'gosem.cut.vars' lays the variable. In a bare row this is a premise. The card (YthojgcnbclfinaaGreatDoorCards.lean) ties it to the program's text. -/
def laid_unicode_utf8_acceptRanges {H : Type} : DataW H := .agg [.agg [.lit (.int .u8 128), .lit (.int .u8 191)], .agg [.lit (.int .u8 160), .lit (.int .u8 191)], .agg [.lit (.int .u8 128), .lit (.int .u8 159)], .agg [.lit (.int .u8 144), .lit (.int .u8 191)], .agg [.lit (.int .u8 128), .lit (.int .u8 143)], .agg [.lit (.int .u8 0), .lit (.int .u8 0)], .agg [.lit (.int .u8 0), .lit (.int .u8 0)], .agg [.lit (.int .u8 0), .lit (.int .u8 0)], .agg [.lit (.int .u8 0), .lit (.int .u8 0)], .agg [.lit (.int .u8 0), .lit (.int .u8 0)], .agg [.lit (.int .u8 0), .lit (.int .u8 0)], .agg [.lit (.int .u8 0), .lit (.int .u8 0)], .agg [.lit (.int .u8 0), .lit (.int .u8 0)], .agg [.lit (.int .u8 0), .lit (.int .u8 0)], .agg [.lit (.int .u8 0), .lit (.int .u8 0)], .agg [.lit (.int .u8 0), .lit (.int .u8 0)]]
/-- One of Go's own tables, pinned by name: the form's constant. -/
def laid_unicode_utf8_first : DataW Unit := Go.Pinned.utf8First

/-- 'passkeylaw17.KeystoreStores': WHATEVER THE INPUT: true; the input reads as it did. -/
def keystoreStoresSpec : ChangeSpec := { name := "keystoreStores", fn := fun _ => fun
  | [d1, d2, d3, d4, d5] => { results := [.lit (.bool true)], args := [d1, d2, d3, d4, d5] }
  | _ => none }
def keystoreStoresRow : OpenClaim := { program := "ythojgcnbclfinaagreatdoor", sum := "c25192d17187a4f4fe1e8ee0242a06a3d9ce26b30247e1541557c7aa1e57a9fc", func := "passkey/passkeylaw17.KeystoreStores", spec := "keystoreStores", inPlace := ["internal/bytealg.MakeNoZero", "internal/bytealg.Compare"], unfollowed := true, recurses := true, named := ["unicode/utf8.first", "unicode/utf8.acceptRanges"], apart := false, laid := [("unicode/utf8.acceptRanges", laid_unicode_utf8_acceptRanges), ("unicode/utf8.first", laid_unicode_utf8_first)] }
def KeystoreStoresSaid : Prop := keystoreStoresRow.holds Tryz.pinned (OpenSpec.ofChange keystoreStoresSpec)

/-- ITS FALSE NEIGHBOUR: 'it returns false'. Refute it at one input. -/
def keystoreStoresWrong : ChangeSpec := { name := "keystoreStores", fn := fun _ => fun
  | [d1, d2, d3, d4, d5] => { results := [.lit (.bool false)], args := [d1, d2, d3, d4, d5] }
  | _ => none }
def KeystoreStoresWrongFalsely : Prop := keystoreStoresRow.holds Tryz.pinned (OpenSpec.ofChange keystoreStoresWrong)

/-- 'passkeylaw17.KeystoreRemoves': WHATEVER THE INPUT: true; the input reads as it did. -/
def keystoreRemovesSpec : ChangeSpec := { name := "keystoreRemoves", fn := fun _ => fun
  | [d1, d2, d3, d4] => { results := [.lit (.bool true)], args := [d1, d2, d3, d4] }
  | _ => none }
def keystoreRemovesRow : OpenClaim := { program := "ythojgcnbclfinaagreatdoor", sum := "c25192d17187a4f4fe1e8ee0242a06a3d9ce26b30247e1541557c7aa1e57a9fc", func := "passkey/passkeylaw17.KeystoreRemoves", spec := "keystoreRemoves", inPlace := ["internal/bytealg.Compare", "internal/bytealg.MakeNoZero"], unfollowed := true, recurses := true, named := ["unicode/utf8.first", "unicode/utf8.acceptRanges"], apart := false, laid := [("unicode/utf8.acceptRanges", laid_unicode_utf8_acceptRanges), ("unicode/utf8.first", laid_unicode_utf8_first)] }
def KeystoreRemovesSaid : Prop := keystoreRemovesRow.holds Tryz.pinned (OpenSpec.ofChange keystoreRemovesSpec)

/-- ITS FALSE NEIGHBOUR: 'it returns false'. Refute it at one input. -/
def keystoreRemovesWrong : ChangeSpec := { name := "keystoreRemoves", fn := fun _ => fun
  | [d1, d2, d3, d4] => { results := [.lit (.bool false)], args := [d1, d2, d3, d4] }
  | _ => none }
def KeystoreRemovesWrongFalsely : Prop := keystoreRemovesRow.holds Tryz.pinned (OpenSpec.ofChange keystoreRemovesWrong)

/-- 'passkeylaw17.KeystoreAdds': WHATEVER THE INPUT: true; the input reads as it did. -/
def keystoreAddsSpec : ChangeSpec := { name := "keystoreAdds", fn := fun _ => fun
  | [d1, d2, d3, d4, d5] => { results := [.lit (.bool true)], args := [d1, d2, d3, d4, d5] }
  | _ => none }
def keystoreAddsRow : OpenClaim := { program := "ythojgcnbclfinaagreatdoor", sum := "c25192d17187a4f4fe1e8ee0242a06a3d9ce26b30247e1541557c7aa1e57a9fc", func := "passkey/passkeylaw17.KeystoreAdds", spec := "keystoreAdds", inPlace := ["internal/bytealg.Compare", "internal/bytealg.MakeNoZero"], unfollowed := true, recurses := true, named := ["unicode/utf8.first", "unicode/utf8.acceptRanges"], apart := false, laid := [("unicode/utf8.acceptRanges", laid_unicode_utf8_acceptRanges), ("unicode/utf8.first", laid_unicode_utf8_first)] }
def KeystoreAddsSaid : Prop := keystoreAddsRow.holds Tryz.pinned (OpenSpec.ofChange keystoreAddsSpec)

/-- ITS FALSE NEIGHBOUR: 'it returns false'. Refute it at one input. -/
def keystoreAddsWrong : ChangeSpec := { name := "keystoreAdds", fn := fun _ => fun
  | [d1, d2, d3, d4, d5] => { results := [.lit (.bool false)], args := [d1, d2, d3, d4, d5] }
  | _ => none }
def KeystoreAddsWrongFalsely : Prop := keystoreAddsRow.holds Tryz.pinned (OpenSpec.ofChange keystoreAddsWrong)

/-- 'passkeylaw17.KeystoreAtomic': WHATEVER THE INPUT: true; the input reads as it did. -/
def keystoreAtomicSpec : ChangeSpec := { name := "keystoreAtomic", fn := fun _ => fun
  | [d1, d2, d3, d4] => { results := [.lit (.bool true)], args := [d1, d2, d3, d4] }
  | _ => none }
def keystoreAtomicRow : OpenClaim := { program := "ythojgcnbclfinaagreatdoor", sum := "c25192d17187a4f4fe1e8ee0242a06a3d9ce26b30247e1541557c7aa1e57a9fc", func := "passkey/passkeylaw17.KeystoreAtomic", spec := "keystoreAtomic", inPlace := ["internal/bytealg.Compare", "internal/bytealg.MakeNoZero"], unfollowed := true, recurses := true, named := ["unicode/utf8.first", "unicode/utf8.acceptRanges"], apart := false, laid := [("unicode/utf8.acceptRanges", laid_unicode_utf8_acceptRanges), ("unicode/utf8.first", laid_unicode_utf8_first)] }
def KeystoreAtomicSaid : Prop := keystoreAtomicRow.holds Tryz.pinned (OpenSpec.ofChange keystoreAtomicSpec)

/-- ITS FALSE NEIGHBOUR: 'it returns false'. Refute it at one input. -/
def keystoreAtomicWrong : ChangeSpec := { name := "keystoreAtomic", fn := fun _ => fun
  | [d1, d2, d3, d4] => { results := [.lit (.bool false)], args := [d1, d2, d3, d4] }
  | _ => none }
def KeystoreAtomicWrongFalsely : Prop := keystoreAtomicRow.holds Tryz.pinned (OpenSpec.ofChange keystoreAtomicWrong)

/- THE SECOND FORM. 'bulk': how many values and letters a reading holds, each counted each time it is reached (what is shared counts as often as it is met; a slice's spare places count too). A statement '..UptoSaid' is the law's where the arguments, and the package variables that the reading takes, are together of bulk at most 1048576: NARROWER than '..Said'. Prove '..Said' where nothing that the law and all that it calls make is longer than what came in: it says more and counts as full. Else prove '..UptoSaid'. A law counts once. -/
mutual
def uptoBulk {H : Type} : DataW H → Nat
  | .lit (.string bytes) => bytes.length + 1
  | .lit _ => 1
  | .nil => 1
  | .ptr d => uptoBulk d + 1
  | .slice elems spare => uptoBulkAll elems + uptoBulkAll spare + 1
  | .agg parts => uptoBulkAll parts + 1
  | .iface _ d => uptoBulk d + 1
  | .map entries => uptoBulkEntries entries + 1
  | .held _ => 1
def uptoBulkAll {H : Type} : List (DataW H) → Nat
  | [] => 0
  | d :: r => uptoBulk d + uptoBulkAll r
def uptoBulkEntries {H : Type} : List (Lit × DataW H) → Nat
  | [] => 0
  | x :: r => uptoBulkEntry x + uptoBulkEntries r
def uptoBulkEntry {H : Type} : Lit × DataW H → Nat
  | (.string bytes, d) => bytes.length + uptoBulk d + 1
  | (_, d) => uptoBulk d + 1
 end
def uptoSmall : (H : Type) → List (DataW H) → Bool := fun _ ds => decide (uptoBulkAll ds ≤ 1048576)
def OpenSpec.upto (s : _root_.Go.ChangeSpec) : _root_.Go.OpenSpec := { _root_.Go.OpenSpec.ofChange s with cond := some uptoSmall }

/-- 'passkeylaw17.KeystoreStores', WHERE WHAT IT READS IS OF BULK AT MOST 1048576: true; the input reads as it did. -/
def keystoreStoresUptoRow : OpenClaim := { program := "ythojgcnbclfinaagreatdoor", sum := "c25192d17187a4f4fe1e8ee0242a06a3d9ce26b30247e1541557c7aa1e57a9fc", func := "passkey/passkeylaw17.KeystoreStores", spec := "keystoreStores", inPlace := ["internal/bytealg.MakeNoZero", "internal/bytealg.Compare"], unfollowed := true, recurses := true, named := ["unicode/utf8.first", "unicode/utf8.acceptRanges"], apart := false, laid := [("unicode/utf8.acceptRanges", laid_unicode_utf8_acceptRanges), ("unicode/utf8.first", laid_unicode_utf8_first)], narrowed := true }
def KeystoreStoresUptoSaid : Prop := keystoreStoresUptoRow.holds Tryz.pinned (OpenSpec.upto keystoreStoresSpec)

/-- 'passkeylaw17.KeystoreRemoves', WHERE WHAT IT READS IS OF BULK AT MOST 1048576: true; the input reads as it did. -/
def keystoreRemovesUptoRow : OpenClaim := { program := "ythojgcnbclfinaagreatdoor", sum := "c25192d17187a4f4fe1e8ee0242a06a3d9ce26b30247e1541557c7aa1e57a9fc", func := "passkey/passkeylaw17.KeystoreRemoves", spec := "keystoreRemoves", inPlace := ["internal/bytealg.Compare", "internal/bytealg.MakeNoZero"], unfollowed := true, recurses := true, named := ["unicode/utf8.first", "unicode/utf8.acceptRanges"], apart := false, laid := [("unicode/utf8.acceptRanges", laid_unicode_utf8_acceptRanges), ("unicode/utf8.first", laid_unicode_utf8_first)], narrowed := true }
def KeystoreRemovesUptoSaid : Prop := keystoreRemovesUptoRow.holds Tryz.pinned (OpenSpec.upto keystoreRemovesSpec)

/-- 'passkeylaw17.KeystoreAdds', WHERE WHAT IT READS IS OF BULK AT MOST 1048576: true; the input reads as it did. -/
def keystoreAddsUptoRow : OpenClaim := { program := "ythojgcnbclfinaagreatdoor", sum := "c25192d17187a4f4fe1e8ee0242a06a3d9ce26b30247e1541557c7aa1e57a9fc", func := "passkey/passkeylaw17.KeystoreAdds", spec := "keystoreAdds", inPlace := ["internal/bytealg.Compare", "internal/bytealg.MakeNoZero"], unfollowed := true, recurses := true, named := ["unicode/utf8.first", "unicode/utf8.acceptRanges"], apart := false, laid := [("unicode/utf8.acceptRanges", laid_unicode_utf8_acceptRanges), ("unicode/utf8.first", laid_unicode_utf8_first)], narrowed := true }
def KeystoreAddsUptoSaid : Prop := keystoreAddsUptoRow.holds Tryz.pinned (OpenSpec.upto keystoreAddsSpec)

/-- 'passkeylaw17.KeystoreAtomic', WHERE WHAT IT READS IS OF BULK AT MOST 1048576: true; the input reads as it did. -/
def keystoreAtomicUptoRow : OpenClaim := { program := "ythojgcnbclfinaagreatdoor", sum := "c25192d17187a4f4fe1e8ee0242a06a3d9ce26b30247e1541557c7aa1e57a9fc", func := "passkey/passkeylaw17.KeystoreAtomic", spec := "keystoreAtomic", inPlace := ["internal/bytealg.Compare", "internal/bytealg.MakeNoZero"], unfollowed := true, recurses := true, named := ["unicode/utf8.first", "unicode/utf8.acceptRanges"], apart := false, laid := [("unicode/utf8.acceptRanges", laid_unicode_utf8_acceptRanges), ("unicode/utf8.first", laid_unicode_utf8_first)], narrowed := true }
def KeystoreAtomicUptoSaid : Prop := keystoreAtomicUptoRow.holds Tryz.pinned (OpenSpec.upto keystoreAtomicSpec)

end Rows
end Go.Proofs.YthojgcnbclfinaaGreatDoor

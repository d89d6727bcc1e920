/-
  NARROWER THAN 'FOR EVERY INPUT', by the rows' own cells (each row's printed sentence says how): KeystoreNew: laid · KeystoreOnce: laid · KeystoreFills: laid.
  DERIVED. THE GIVEN ROWS OF THIS SEAT. 3 by the template 'for every input the law returns true; each argument reads behind the call as it read before'; 0 by the template 'total and deterministic' (their statements: YtebndjnkmcahaaaGreatDoorTotals.lean).
  GIVEN WITH THE SEED: the statements are not yours to turn. If you find one false, say at which input.
  Laid BY PROGRAM, IN A SANDBOX (cutbox-rows.mjs): the forced cells as the released guide's own fill.sh prints them over the translation 1007c3f3e38b35ff… (all of the seat's roots in one cut). By AI agents, Wed Nov 11 2026. No macro, syntax, notation, axiom, sorry.
-/
import Derived.Test.YtebndjnkmcahaaaGreatDoorChecked
import GoSem.PinnedTables
import GoSem.Claim
import GoSem.ClaimJoined
import GoSem.ClaimMapViews
import Derived.JoinedTies
import Derived.KernelRfl
namespace Go.Proofs.YtebndjnkmcahaaaGreatDoor
/- THE CELL 'sum', in the pinned program and in every row, IS THE sha256 OF THE DUMP (.gsa) THAT YtebndjnkmcahaaaGreatDoorProg.lean LOADS. Nothing in Lean hashes anything: it is a label: what it is worth is what the hold of that sum in a sandbox is worth. -/
noncomputable def Tryz.pinned : Pinned := { name := "ytebndjnkmcahaaagreatdoor", sum := "1007c3f3e38b35fff07a43d7ea75fc820f541a7eb6f03c2a09155587b7371065", checked := Tryz.checked }
namespace Rows
def none {H : Type} : Left H := { results := [], args := [] }

/- WHAT THE LISTED PACKAGE-LEVEL VARIABLES READ AS WHEN THE CALL BEGINS. Each datum BY PROGRAM (the guide's laid-datum.mjs) off the statement by which the dump's own 'gosem.cut.vars' lays the variable. In a bare row this is a premise. The card (YtebndjnkmcahaaaGreatDoorCards.lean) ties it to the program's text. -/
def laid_unicode_utf8_acceptRanges {H : Type} : DataW H := .agg [.agg [.lit (.int .u8 128), .lit (.int .u8 191)], .agg [.lit (.int .u8 160), .lit (.int .u8 191)], .agg [.lit (.int .u8 128), .lit (.int .u8 159)], .agg [.lit (.int .u8 144), .lit (.int .u8 191)], .agg [.lit (.int .u8 128), .lit (.int .u8 143)], .agg [.lit (.int .u8 0), .lit (.int .u8 0)], .agg [.lit (.int .u8 0), .lit (.int .u8 0)], .agg [.lit (.int .u8 0), .lit (.int .u8 0)], .agg [.lit (.int .u8 0), .lit (.int .u8 0)], .agg [.lit (.int .u8 0), .lit (.int .u8 0)], .agg [.lit (.int .u8 0), .lit (.int .u8 0)], .agg [.lit (.int .u8 0), .lit (.int .u8 0)], .agg [.lit (.int .u8 0), .lit (.int .u8 0)], .agg [.lit (.int .u8 0), .lit (.int .u8 0)], .agg [.lit (.int .u8 0), .lit (.int .u8 0)], .agg [.lit (.int .u8 0), .lit (.int .u8 0)]]
/-- One of Go's own tables, pinned by name: the form's constant. -/
def laid_unicode_utf8_first : DataW Unit := Go.Pinned.utf8First

/-- 'passkeylaw17.KeystoreNew': WHATEVER THE INPUT: true; the input reads as it did. -/
def keystoreNewSpec : ChangeSpec := { name := "keystoreNew", fn := fun _ => fun
  | [d1, d2] => { results := [.lit (.bool true)], args := [d1, d2] }
  | _ => none }
def keystoreNewRow : OpenClaim := { program := "ytebndjnkmcahaaagreatdoor", sum := "1007c3f3e38b35fff07a43d7ea75fc820f541a7eb6f03c2a09155587b7371065", func := "passkey/passkeylaw17.KeystoreNew", spec := "keystoreNew", inPlace := ["internal/bytealg.MakeNoZero", "internal/bytealg.Compare"], unfollowed := true, recurses := true, named := ["unicode/utf8.first", "unicode/utf8.acceptRanges"], apart := false, laid := [("unicode/utf8.acceptRanges", laid_unicode_utf8_acceptRanges), ("unicode/utf8.first", laid_unicode_utf8_first)] }
def KeystoreNewSaid : Prop := keystoreNewRow.holds Tryz.pinned (OpenSpec.ofChange keystoreNewSpec)

/-- ITS FALSE NEIGHBOUR: 'it returns false'. Refute it at one input. -/
def keystoreNewWrong : ChangeSpec := { name := "keystoreNew", fn := fun _ => fun
  | [d1, d2] => { results := [.lit (.bool false)], args := [d1, d2] }
  | _ => none }
def KeystoreNewWrongFalsely : Prop := keystoreNewRow.holds Tryz.pinned (OpenSpec.ofChange keystoreNewWrong)

/-- 'passkeylaw17.KeystoreOnce': WHATEVER THE INPUT: true; the input reads as it did. -/
def keystoreOnceSpec : ChangeSpec := { name := "keystoreOnce", fn := fun _ => fun
  | [d1, d2] => { results := [.lit (.bool true)], args := [d1, d2] }
  | _ => none }
def keystoreOnceRow : OpenClaim := { program := "ytebndjnkmcahaaagreatdoor", sum := "1007c3f3e38b35fff07a43d7ea75fc820f541a7eb6f03c2a09155587b7371065", func := "passkey/passkeylaw17.KeystoreOnce", spec := "keystoreOnce", inPlace := ["internal/bytealg.MakeNoZero", "internal/bytealg.Compare"], unfollowed := true, recurses := true, named := ["unicode/utf8.first", "unicode/utf8.acceptRanges"], apart := false, laid := [("unicode/utf8.acceptRanges", laid_unicode_utf8_acceptRanges), ("unicode/utf8.first", laid_unicode_utf8_first)] }
def KeystoreOnceSaid : Prop := keystoreOnceRow.holds Tryz.pinned (OpenSpec.ofChange keystoreOnceSpec)

/-- ITS FALSE NEIGHBOUR: 'it returns false'. Refute it at one input. -/
def keystoreOnceWrong : ChangeSpec := { name := "keystoreOnce", fn := fun _ => fun
  | [d1, d2] => { results := [.lit (.bool false)], args := [d1, d2] }
  | _ => none }
def KeystoreOnceWrongFalsely : Prop := keystoreOnceRow.holds Tryz.pinned (OpenSpec.ofChange keystoreOnceWrong)

/-- 'passkeylaw17.KeystoreFills': WHATEVER THE INPUT: true; the input reads as it did. -/
def keystoreFillsSpec : ChangeSpec := { name := "keystoreFills", fn := fun _ => fun
  | [d1, d2] => { results := [.lit (.bool true)], args := [d1, d2] }
  | _ => none }
def keystoreFillsRow : OpenClaim := { program := "ytebndjnkmcahaaagreatdoor", sum := "1007c3f3e38b35fff07a43d7ea75fc820f541a7eb6f03c2a09155587b7371065", func := "passkey/passkeylaw17.KeystoreFills", spec := "keystoreFills", inPlace := ["internal/bytealg.Compare", "internal/bytealg.MakeNoZero"], unfollowed := true, recurses := true, named := ["unicode/utf8.first", "unicode/utf8.acceptRanges"], apart := false, laid := [("unicode/utf8.acceptRanges", laid_unicode_utf8_acceptRanges), ("unicode/utf8.first", laid_unicode_utf8_first)] }
def KeystoreFillsSaid : Prop := keystoreFillsRow.holds Tryz.pinned (OpenSpec.ofChange keystoreFillsSpec)

/-- ITS FALSE NEIGHBOUR: 'it returns false'. Refute it at one input. -/
def keystoreFillsWrong : ChangeSpec := { name := "keystoreFills", fn := fun _ => fun
  | [d1, d2] => { results := [.lit (.bool false)], args := [d1, d2] }
  | _ => none }
def KeystoreFillsWrongFalsely : Prop := keystoreFillsRow.holds Tryz.pinned (OpenSpec.ofChange keystoreFillsWrong)

/- THE SECOND FORM. 'bulk': how many values and letters a reading holds, each counted each time it is reached (what is shared counts as often as it is met; a slice's spare places count too). A statement '..UptoSaid' is the law's where the arguments, and the package variables that the reading takes, are together of bulk at most 1048576: NARROWER than '..Said'. Prove '..Said' where nothing that the law and all that it calls make is longer than what came in: it says more and counts as full. Else prove '..UptoSaid'. A law counts once. -/
mutual
def uptoBulk {H : Type} : DataW H → Nat
  | .lit (.string bytes) => bytes.length + 1
  | .lit _ => 1
  | .nil => 1
  | .ptr d => uptoBulk d + 1
  | .slice elems spare => uptoBulkAll elems + uptoBulkAll spare + 1
  | .agg parts => uptoBulkAll parts + 1
  | .iface _ d => uptoBulk d + 1
  | .map entries => uptoBulkEntries entries + 1
  | .held _ => 1
def uptoBulkAll {H : Type} : List (DataW H) → Nat
  | [] => 0
  | d :: r => uptoBulk d + uptoBulkAll r
def uptoBulkEntries {H : Type} : List (Lit × DataW H) → Nat
  | [] => 0
  | x :: r => uptoBulkEntry x + uptoBulkEntries r
def uptoBulkEntry {H : Type} : Lit × DataW H → Nat
  | (.string bytes, d) => bytes.length + uptoBulk d + 1
  | (_, d) => uptoBulk d + 1
 end
def uptoSmall : (H : Type) → List (DataW H) → Bool := fun _ ds => decide (uptoBulkAll ds ≤ 1048576)
def OpenSpec.upto (s : _root_.Go.ChangeSpec) : _root_.Go.OpenSpec := { _root_.Go.OpenSpec.ofChange s with cond := some uptoSmall }

/-- 'passkeylaw17.KeystoreNew', WHERE WHAT IT READS IS OF BULK AT MOST 1048576: true; the input reads as it did. -/
def keystoreNewUptoRow : OpenClaim := { program := "ytebndjnkmcahaaagreatdoor", sum := "1007c3f3e38b35fff07a43d7ea75fc820f541a7eb6f03c2a09155587b7371065", func := "passkey/passkeylaw17.KeystoreNew", spec := "keystoreNew", inPlace := ["internal/bytealg.MakeNoZero", "internal/bytealg.Compare"], unfollowed := true, recurses := true, named := ["unicode/utf8.first", "unicode/utf8.acceptRanges"], apart := false, laid := [("unicode/utf8.acceptRanges", laid_unicode_utf8_acceptRanges), ("unicode/utf8.first", laid_unicode_utf8_first)], narrowed := true }
def KeystoreNewUptoSaid : Prop := keystoreNewUptoRow.holds Tryz.pinned (OpenSpec.upto keystoreNewSpec)

/-- 'passkeylaw17.KeystoreOnce', WHERE WHAT IT READS IS OF BULK AT MOST 1048576: true; the input reads as it did. -/
def keystoreOnceUptoRow : OpenClaim := { program := "ytebndjnkmcahaaagreatdoor", sum := "1007c3f3e38b35fff07a43d7ea75fc820f541a7eb6f03c2a09155587b7371065", func := "passkey/passkeylaw17.KeystoreOnce", spec := "keystoreOnce", inPlace := ["internal/bytealg.MakeNoZero", "internal/bytealg.Compare"], unfollowed := true, recurses := true, named := ["unicode/utf8.first", "unicode/utf8.acceptRanges"], apart := false, laid := [("unicode/utf8.acceptRanges", laid_unicode_utf8_acceptRanges), ("unicode/utf8.first", laid_unicode_utf8_first)], narrowed := true }
def KeystoreOnceUptoSaid : Prop := keystoreOnceUptoRow.holds Tryz.pinned (OpenSpec.upto keystoreOnceSpec)

/-- 'passkeylaw17.KeystoreFills', WHERE WHAT IT READS IS OF BULK AT MOST 1048576: true; the input reads as it did. -/
def keystoreFillsUptoRow : OpenClaim := { program := "ytebndjnkmcahaaagreatdoor", sum := "1007c3f3e38b35fff07a43d7ea75fc820f541a7eb6f03c2a09155587b7371065", func := "passkey/passkeylaw17.KeystoreFills", spec := "keystoreFills", inPlace := ["internal/bytealg.Compare", "internal/bytealg.MakeNoZero"], unfollowed := true, recurses := true, named := ["unicode/utf8.first", "unicode/utf8.acceptRanges"], apart := false, laid := [("unicode/utf8.acceptRanges", laid_unicode_utf8_acceptRanges), ("unicode/utf8.first", laid_unicode_utf8_first)], narrowed := true }
def KeystoreFillsUptoSaid : Prop := keystoreFillsUptoRow.holds Tryz.pinned (OpenSpec.upto keystoreFillsSpec)

end Rows
end Go.Proofs.YtebndjnkmcahaaaGreatDoor

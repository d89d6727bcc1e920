/-
  No cell of these rows narrows 'for every input' (looked for: loops, veiled, ifaces, maps, wideKeys, modest, calm, conditions, laid).
  DERIVED. THE GIVEN ROWS OF THIS SEAT. 8 by the template 'for every input the law returns true; each argument reads behind the call as it read before'; 0 by the template 'total and deterministic' (their statements: YtpelcbonflijhaaTotals.lean).
  GIVEN WITH THE SEED: the statements are not yours to turn. If you find one false, say at which input.
  Laid BY PROGRAM, IN A SANDBOX (cutbox-rows.mjs): the forced cells as the released guide's own fill.sh prints them over the translation bf50b5885e9607c8… (all of the seat's roots in one cut). By AI agents, Wed Nov 11 2026. No macro, syntax, notation, axiom, sorry.
-/
import Derived.Test.YtpelcbonflijhaaChecked
import GoSem.Claim
import GoSem.ClaimJoined
import GoSem.ClaimMapViews
import Derived.JoinedTies
import Derived.KernelRfl
namespace Go.Proofs.Ytpelcbonflijhaa
/- THE CELL 'sum', in the pinned program and in every row, IS THE sha256 OF THE DUMP (.gsa) THAT YtpelcbonflijhaaProg.lean LOADS. Nothing in Lean hashes anything: it is a label: what it is worth is what the hold of that sum in a sandbox is worth. -/
noncomputable def Try.pinned : Pinned := { name := "ytpelcbonflijhaa", sum := "bf50b5885e9607c8f579b9f5fecf56a976edd5eb4a0565d40989c656500c9449", checked := Try.checked }
namespace Rows
def none {H : Type} : Left H := { results := [], args := [] }

/-- 'passkeylaw8.JournalFormats': WHATEVER THE INPUT: true; the input reads as it did. -/
def journalFormatsSpec : ChangeSpec := { name := "journalFormats", fn := fun _ => fun
  | [d1, d2, d3, d4] => { results := [.lit (.bool true)], args := [d1, d2, d3, d4] }
  | _ => none }
def journalFormatsRow : OpenClaim := { program := "ytpelcbonflijhaa", sum := "bf50b5885e9607c8f579b9f5fecf56a976edd5eb4a0565d40989c656500c9449", func := "passkey/passkeylaw8.JournalFormats", spec := "journalFormats", unfollowed := true, recurses := true, apart := false }
def JournalFormatsSaid : Prop := journalFormatsRow.holds Try.pinned (OpenSpec.ofChange journalFormatsSpec)

/-- ITS FALSE NEIGHBOUR: 'it returns false'. Refute it at one input. -/
def journalFormatsWrong : ChangeSpec := { name := "journalFormats", fn := fun _ => fun
  | [d1, d2, d3, d4] => { results := [.lit (.bool false)], args := [d1, d2, d3, d4] }
  | _ => none }
def JournalFormatsWrongFalsely : Prop := journalFormatsRow.holds Try.pinned (OpenSpec.ofChange journalFormatsWrong)

/-- 'passkeylaw8.JournalMounts': WHATEVER THE INPUT: true; the input reads as it did. -/
def journalMountsSpec : ChangeSpec := { name := "journalMounts", fn := fun _ => fun
  | [d1, d2, d3] => { results := [.lit (.bool true)], args := [d1, d2, d3] }
  | _ => none }
def journalMountsRow : OpenClaim := { program := "ytpelcbonflijhaa", sum := "bf50b5885e9607c8f579b9f5fecf56a976edd5eb4a0565d40989c656500c9449", func := "passkey/passkeylaw8.JournalMounts", spec := "journalMounts", unfollowed := true, recurses := true, apart := false }
def JournalMountsSaid : Prop := journalMountsRow.holds Try.pinned (OpenSpec.ofChange journalMountsSpec)

/-- ITS FALSE NEIGHBOUR: 'it returns false'. Refute it at one input. -/
def journalMountsWrong : ChangeSpec := { name := "journalMounts", fn := fun _ => fun
  | [d1, d2, d3] => { results := [.lit (.bool false)], args := [d1, d2, d3] }
  | _ => none }
def JournalMountsWrongFalsely : Prop := journalMountsRow.holds Try.pinned (OpenSpec.ofChange journalMountsWrong)

/-- 'passkeylaw8.JournalRaw': WHATEVER THE INPUT: true; the input reads as it did. -/
def journalRawSpec : ChangeSpec := { name := "journalRaw", fn := fun _ => fun
  | [d1, d2, d3] => { results := [.lit (.bool true)], args := [d1, d2, d3] }
  | _ => none }
def journalRawRow : OpenClaim := { program := "ytpelcbonflijhaa", sum := "bf50b5885e9607c8f579b9f5fecf56a976edd5eb4a0565d40989c656500c9449", func := "passkey/passkeylaw8.JournalRaw", spec := "journalRaw", unfollowed := true, recurses := true, apart := false }
def JournalRawSaid : Prop := journalRawRow.holds Try.pinned (OpenSpec.ofChange journalRawSpec)

/-- ITS FALSE NEIGHBOUR: 'it returns false'. Refute it at one input. -/
def journalRawWrong : ChangeSpec := { name := "journalRaw", fn := fun _ => fun
  | [d1, d2, d3] => { results := [.lit (.bool false)], args := [d1, d2, d3] }
  | _ => none }
def JournalRawWrongFalsely : Prop := journalRawRow.holds Try.pinned (OpenSpec.ofChange journalRawWrong)

/-- 'passkeylaw8.JournalReads': WHATEVER THE INPUT: true; the input reads as it did. -/
def journalReadsSpec : ChangeSpec := { name := "journalReads", fn := fun _ => fun
  | [d1, d2, d3] => { results := [.lit (.bool true)], args := [d1, d2, d3] }
  | _ => none }
def journalReadsRow : OpenClaim := { program := "ytpelcbonflijhaa", sum := "bf50b5885e9607c8f579b9f5fecf56a976edd5eb4a0565d40989c656500c9449", func := "passkey/passkeylaw8.JournalReads", spec := "journalReads", unfollowed := true, recurses := true, apart := false }
def JournalReadsSaid : Prop := journalReadsRow.holds Try.pinned (OpenSpec.ofChange journalReadsSpec)

/-- ITS FALSE NEIGHBOUR: 'it returns false'. Refute it at one input. -/
def journalReadsWrong : ChangeSpec := { name := "journalReads", fn := fun _ => fun
  | [d1, d2, d3] => { results := [.lit (.bool false)], args := [d1, d2, d3] }
  | _ => none }
def JournalReadsWrongFalsely : Prop := journalReadsRow.holds Try.pinned (OpenSpec.ofChange journalReadsWrong)

/-- 'passkeylaw8.JournalAppends': WHATEVER THE INPUT: true; the input reads as it did. -/
def journalAppendsSpec : ChangeSpec := { name := "journalAppends", fn := fun _ => fun
  | [d1, d2, d3, d4, d5] => { results := [.lit (.bool true)], args := [d1, d2, d3, d4, d5] }
  | _ => none }
def journalAppendsRow : OpenClaim := { program := "ytpelcbonflijhaa", sum := "bf50b5885e9607c8f579b9f5fecf56a976edd5eb4a0565d40989c656500c9449", func := "passkey/passkeylaw8.JournalAppends", spec := "journalAppends", unfollowed := true, recurses := true, apart := false }
def JournalAppendsSaid : Prop := journalAppendsRow.holds Try.pinned (OpenSpec.ofChange journalAppendsSpec)

/-- ITS FALSE NEIGHBOUR: 'it returns false'. Refute it at one input. -/
def journalAppendsWrong : ChangeSpec := { name := "journalAppends", fn := fun _ => fun
  | [d1, d2, d3, d4, d5] => { results := [.lit (.bool false)], args := [d1, d2, d3, d4, d5] }
  | _ => none }
def JournalAppendsWrongFalsely : Prop := journalAppendsRow.holds Try.pinned (OpenSpec.ofChange journalAppendsWrong)

/-- 'passkeylaw8.JournalSurvives': WHATEVER THE INPUT: true; the input reads as it did. -/
def journalSurvivesSpec : ChangeSpec := { name := "journalSurvives", fn := fun _ => fun
  | [d1, d2, d3, d4] => { results := [.lit (.bool true)], args := [d1, d2, d3, d4] }
  | _ => none }
def journalSurvivesRow : OpenClaim := { program := "ytpelcbonflijhaa", sum := "bf50b5885e9607c8f579b9f5fecf56a976edd5eb4a0565d40989c656500c9449", func := "passkey/passkeylaw8.JournalSurvives", spec := "journalSurvives", unfollowed := true, recurses := true, apart := false }
def JournalSurvivesSaid : Prop := journalSurvivesRow.holds Try.pinned (OpenSpec.ofChange journalSurvivesSpec)

/-- ITS FALSE NEIGHBOUR: 'it returns false'. Refute it at one input. -/
def journalSurvivesWrong : ChangeSpec := { name := "journalSurvives", fn := fun _ => fun
  | [d1, d2, d3, d4] => { results := [.lit (.bool false)], args := [d1, d2, d3, d4] }
  | _ => none }
def JournalSurvivesWrongFalsely : Prop := journalSurvivesRow.holds Try.pinned (OpenSpec.ofChange journalSurvivesWrong)

/-- 'passkeylaw8.JournalRewrites': WHATEVER THE INPUT: true; the input reads as it did. -/
def journalRewritesSpec : ChangeSpec := { name := "journalRewrites", fn := fun _ => fun
  | [d1, d2, d3, d4, d5] => { results := [.lit (.bool true)], args := [d1, d2, d3, d4, d5] }
  | _ => none }
def journalRewritesRow : OpenClaim := { program := "ytpelcbonflijhaa", sum := "bf50b5885e9607c8f579b9f5fecf56a976edd5eb4a0565d40989c656500c9449", func := "passkey/passkeylaw8.JournalRewrites", spec := "journalRewrites", unfollowed := true, recurses := true, apart := false }
def JournalRewritesSaid : Prop := journalRewritesRow.holds Try.pinned (OpenSpec.ofChange journalRewritesSpec)

/-- ITS FALSE NEIGHBOUR: 'it returns false'. Refute it at one input. -/
def journalRewritesWrong : ChangeSpec := { name := "journalRewrites", fn := fun _ => fun
  | [d1, d2, d3, d4, d5] => { results := [.lit (.bool false)], args := [d1, d2, d3, d4, d5] }
  | _ => none }
def JournalRewritesWrongFalsely : Prop := journalRewritesRow.holds Try.pinned (OpenSpec.ofChange journalRewritesWrong)

/-- 'passkeylaw8.JournalReplaces': WHATEVER THE INPUT: true; the input reads as it did. -/
def journalReplacesSpec : ChangeSpec := { name := "journalReplaces", fn := fun _ => fun
  | [d1, d2, d3, d4] => { results := [.lit (.bool true)], args := [d1, d2, d3, d4] }
  | _ => none }
def journalReplacesRow : OpenClaim := { program := "ytpelcbonflijhaa", sum := "bf50b5885e9607c8f579b9f5fecf56a976edd5eb4a0565d40989c656500c9449", func := "passkey/passkeylaw8.JournalReplaces", spec := "journalReplaces", unfollowed := true, recurses := true, apart := false }
def JournalReplacesSaid : Prop := journalReplacesRow.holds Try.pinned (OpenSpec.ofChange journalReplacesSpec)

/-- ITS FALSE NEIGHBOUR: 'it returns false'. Refute it at one input. -/
def journalReplacesWrong : ChangeSpec := { name := "journalReplaces", fn := fun _ => fun
  | [d1, d2, d3, d4] => { results := [.lit (.bool false)], args := [d1, d2, d3, d4] }
  | _ => none }
def JournalReplacesWrongFalsely : Prop := journalReplacesRow.holds Try.pinned (OpenSpec.ofChange journalReplacesWrong)

/- THE SECOND FORM. 'bulk': how many values and letters a reading holds, each counted each time it is reached (what is shared counts as often as it is met; a slice's spare places count too). A statement '..UptoSaid' is the law's where the arguments, and the package variables that the reading takes, are together of bulk at most 1048576: NARROWER than '..Said'. Prove '..Said' where nothing that the law and all that it calls make is longer than what came in: it says more and counts as full. Else prove '..UptoSaid'. A law counts once. -/
mutual
def uptoBulk {H : Type} : DataW H → Nat
  | .lit (.string bytes) => bytes.length + 1
  | .lit _ => 1
  | .nil => 1
  | .ptr d => uptoBulk d + 1
  | .slice elems spare => uptoBulkAll elems + uptoBulkAll spare + 1
  | .agg parts => uptoBulkAll parts + 1
  | .iface _ d => uptoBulk d + 1
  | .map entries => uptoBulkEntries entries + 1
  | .held _ => 1
def uptoBulkAll {H : Type} : List (DataW H) → Nat
  | [] => 0
  | d :: r => uptoBulk d + uptoBulkAll r
def uptoBulkEntries {H : Type} : List (Lit × DataW H) → Nat
  | [] => 0
  | x :: r => uptoBulkEntry x + uptoBulkEntries r
def uptoBulkEntry {H : Type} : Lit × DataW H → Nat
  | (.string bytes, d) => bytes.length + uptoBulk d + 1
  | (_, d) => uptoBulk d + 1
 end
def uptoSmall : (H : Type) → List (DataW H) → Bool := fun _ ds => decide (uptoBulkAll ds ≤ 1048576)
def OpenSpec.upto (s : _root_.Go.ChangeSpec) : _root_.Go.OpenSpec := { _root_.Go.OpenSpec.ofChange s with cond := some uptoSmall }

/-- 'passkeylaw8.JournalFormats', WHERE WHAT IT READS IS OF BULK AT MOST 1048576: true; the input reads as it did. -/
def journalFormatsUptoRow : OpenClaim := { program := "ytpelcbonflijhaa", sum := "bf50b5885e9607c8f579b9f5fecf56a976edd5eb4a0565d40989c656500c9449", func := "passkey/passkeylaw8.JournalFormats", spec := "journalFormats", unfollowed := true, recurses := true, apart := false, narrowed := true }
def JournalFormatsUptoSaid : Prop := journalFormatsUptoRow.holds Try.pinned (OpenSpec.upto journalFormatsSpec)

/-- 'passkeylaw8.JournalMounts', WHERE WHAT IT READS IS OF BULK AT MOST 1048576: true; the input reads as it did. -/
def journalMountsUptoRow : OpenClaim := { program := "ytpelcbonflijhaa", sum := "bf50b5885e9607c8f579b9f5fecf56a976edd5eb4a0565d40989c656500c9449", func := "passkey/passkeylaw8.JournalMounts", spec := "journalMounts", unfollowed := true, recurses := true, apart := false, narrowed := true }
def JournalMountsUptoSaid : Prop := journalMountsUptoRow.holds Try.pinned (OpenSpec.upto journalMountsSpec)

/-- 'passkeylaw8.JournalRaw', WHERE WHAT IT READS IS OF BULK AT MOST 1048576: true; the input reads as it did. -/
def journalRawUptoRow : OpenClaim := { program := "ytpelcbonflijhaa", sum := "bf50b5885e9607c8f579b9f5fecf56a976edd5eb4a0565d40989c656500c9449", func := "passkey/passkeylaw8.JournalRaw", spec := "journalRaw", unfollowed := true, recurses := true, apart := false, narrowed := true }
def JournalRawUptoSaid : Prop := journalRawUptoRow.holds Try.pinned (OpenSpec.upto journalRawSpec)

/-- 'passkeylaw8.JournalReads', WHERE WHAT IT READS IS OF BULK AT MOST 1048576: true; the input reads as it did. -/
def journalReadsUptoRow : OpenClaim := { program := "ytpelcbonflijhaa", sum := "bf50b5885e9607c8f579b9f5fecf56a976edd5eb4a0565d40989c656500c9449", func := "passkey/passkeylaw8.JournalReads", spec := "journalReads", unfollowed := true, recurses := true, apart := false, narrowed := true }
def JournalReadsUptoSaid : Prop := journalReadsUptoRow.holds Try.pinned (OpenSpec.upto journalReadsSpec)

/-- 'passkeylaw8.JournalAppends', WHERE WHAT IT READS IS OF BULK AT MOST 1048576: true; the input reads as it did. -/
def journalAppendsUptoRow : OpenClaim := { program := "ytpelcbonflijhaa", sum := "bf50b5885e9607c8f579b9f5fecf56a976edd5eb4a0565d40989c656500c9449", func := "passkey/passkeylaw8.JournalAppends", spec := "journalAppends", unfollowed := true, recurses := true, apart := false, narrowed := true }
def JournalAppendsUptoSaid : Prop := journalAppendsUptoRow.holds Try.pinned (OpenSpec.upto journalAppendsSpec)

/-- 'passkeylaw8.JournalSurvives', WHERE WHAT IT READS IS OF BULK AT MOST 1048576: true; the input reads as it did. -/
def journalSurvivesUptoRow : OpenClaim := { program := "ytpelcbonflijhaa", sum := "bf50b5885e9607c8f579b9f5fecf56a976edd5eb4a0565d40989c656500c9449", func := "passkey/passkeylaw8.JournalSurvives", spec := "journalSurvives", unfollowed := true, recurses := true, apart := false, narrowed := true }
def JournalSurvivesUptoSaid : Prop := journalSurvivesUptoRow.holds Try.pinned (OpenSpec.upto journalSurvivesSpec)

/-- 'passkeylaw8.JournalRewrites', WHERE WHAT IT READS IS OF BULK AT MOST 1048576: true; the input reads as it did. -/
def journalRewritesUptoRow : OpenClaim := { program := "ytpelcbonflijhaa", sum := "bf50b5885e9607c8f579b9f5fecf56a976edd5eb4a0565d40989c656500c9449", func := "passkey/passkeylaw8.JournalRewrites", spec := "journalRewrites", unfollowed := true, recurses := true, apart := false, narrowed := true }
def JournalRewritesUptoSaid : Prop := journalRewritesUptoRow.holds Try.pinned (OpenSpec.upto journalRewritesSpec)

/-- 'passkeylaw8.JournalReplaces', WHERE WHAT IT READS IS OF BULK AT MOST 1048576: true; the input reads as it did. -/
def journalReplacesUptoRow : OpenClaim := { program := "ytpelcbonflijhaa", sum := "bf50b5885e9607c8f579b9f5fecf56a976edd5eb4a0565d40989c656500c9449", func := "passkey/passkeylaw8.JournalReplaces", spec := "journalReplaces", unfollowed := true, recurses := true, apart := false, narrowed := true }
def JournalReplacesUptoSaid : Prop := journalReplacesUptoRow.holds Try.pinned (OpenSpec.upto journalReplacesSpec)

end Rows
end Go.Proofs.Ytpelcbonflijhaa

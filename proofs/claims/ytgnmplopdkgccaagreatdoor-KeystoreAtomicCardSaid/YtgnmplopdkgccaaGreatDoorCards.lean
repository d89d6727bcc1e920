/-
  DERIVED. GIVEN WITH THE SEED: THE CARDS: each row of YtgnmplopdkgccaaGreatDoorRows.lean that lists a variable, with what it lists TIED to the program's text (the seventh form; the later family's looks); each row that meets fmt, with fmt's text TOLD by the authors' own Lean function (tested against real Go, not proved from fmt's source: count such statements apart). THE CARD IS WHAT COUNTS. Prove the row's statement (the work); the ties are given (YtgnmplopdkgccaaGreatDoorTie.lean); close each card by the builder's one call (the guide's Derived/Test/ToyasCard.lean, 'card_holds'). Laid BY PROGRAM, IN A SANDBOX (cutbox-door.mjs). By AI agents, Wed Nov 11 2026. No macro, syntax, notation, axiom, sorry.
-/
import Derived.Test.YtgnmplopdkgccaaGreatDoorRows
import GoSem.ClaimSeven
namespace Go.Proofs.YtgnmplopdkgccaaGreatDoor
namespace Rows

/-- THE TIED CARD OF 'passkeylaw17.KeystoreAtomic'. -/
def keystoreAtomicCard : Claim7 := { stood := { row := keystoreAtomicRow, standIns := [], harness := (true, "54a16b0bfe3f1093e7b0a9457e75b2c8cf44c47731e254b2dbabedfa86fc8f0f"), looks := false }, kinds := [], alts := [], laidByText := true, laidKinds := [.data, .pinned], laidTests := true, laidLooks := .later }
def KeystoreAtomicCardSaid : Prop := Claim7.holds Tryz.pinned (.plain (OpenSpec.ofChange keystoreAtomicSpec)) keystoreAtomicCard

/-- THE SECOND FORM's CARD OF 'passkeylaw17.KeystoreAtomic'. -/
def keystoreAtomicUptoCard : Claim7 := { stood := { row := keystoreAtomicUptoRow, standIns := [], harness := (true, "54a16b0bfe3f1093e7b0a9457e75b2c8cf44c47731e254b2dbabedfa86fc8f0f"), looks := false }, kinds := [], alts := [], laidByText := true, laidKinds := [.data, .pinned], laidTests := true, laidLooks := .later }
def KeystoreAtomicUptoCardSaid : Prop := Claim7.holds Tryz.pinned (.plain (OpenSpec.upto keystoreAtomicSpec)) keystoreAtomicUptoCard
end Rows
end Go.Proofs.YtgnmplopdkgccaaGreatDoor

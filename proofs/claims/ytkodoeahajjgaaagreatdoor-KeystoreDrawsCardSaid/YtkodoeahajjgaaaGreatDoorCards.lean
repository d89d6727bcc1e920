/-
  DERIVED. GIVEN WITH THE SEED: THE CARDS: each row of YtkodoeahajjgaaaGreatDoorRows.lean that lists a variable, with what it lists TIED to the program's text (the seventh form; the later family's looks); each row that meets fmt, with fmt's text TOLD by the authors' own Lean function (tested against real Go, not proved from fmt's source: count such statements apart). THE CARD IS WHAT COUNTS. Prove the row's statement (the work); the ties are given (YtkodoeahajjgaaaGreatDoorTie.lean); close each card by the builder's one call (the guide's Derived/Test/ToyasCard.lean, 'card_holds'). Laid BY PROGRAM, IN A SANDBOX (cutbox-door.mjs). By AI agents, Wed Nov 11 2026. No macro, syntax, notation, axiom, sorry.
-/
import Derived.Test.YtkodoeahajjgaaaGreatDoorRows
import GoSem.ClaimSeven
namespace Go.Proofs.YtkodoeahajjgaaaGreatDoor
namespace Rows

/-- THE TIED CARD OF 'passkeylaw17.KeystoreDraws'. -/
def keystoreDrawsCard : Claim7 := { stood := { row := keystoreDrawsRow, standIns := [], harness := (true, "d037f5ca48c605533853811adaca5dd21195e771fc90a03f52917713588f96bb"), looks := false }, kinds := [], alts := [], laidByText := true, laidKinds := [.data, .pinned], laidTests := true, laidLooks := .later }
def KeystoreDrawsCardSaid : Prop := Claim7.holds Tryz.pinned (.plain (OpenSpec.ofChange keystoreDrawsSpec)) keystoreDrawsCard

/-- THE SECOND FORM's CARD OF 'passkeylaw17.KeystoreDraws'. -/
def keystoreDrawsUptoCard : Claim7 := { stood := { row := keystoreDrawsUptoRow, standIns := [], harness := (true, "d037f5ca48c605533853811adaca5dd21195e771fc90a03f52917713588f96bb"), looks := false }, kinds := [], alts := [], laidByText := true, laidKinds := [.data, .pinned], laidTests := true, laidLooks := .later }
def KeystoreDrawsUptoCardSaid : Prop := Claim7.holds Tryz.pinned (.plain (OpenSpec.upto keystoreDrawsSpec)) keystoreDrawsUptoCard
end Rows
end Go.Proofs.YtkodoeahajjgaaaGreatDoor

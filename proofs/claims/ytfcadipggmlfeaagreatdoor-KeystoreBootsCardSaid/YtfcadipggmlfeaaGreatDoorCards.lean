/-
  DERIVED. GIVEN WITH THE SEED: THE CARDS: each row of YtfcadipggmlfeaaGreatDoorRows.lean that lists a variable, with what it lists TIED to the program's text (the seventh form; the later family's looks); each row that meets fmt, with fmt's text TOLD by the authors' own Lean function (tested against real Go, not proved from fmt's source: count such statements apart). THE CARD IS WHAT COUNTS. Prove the row's statement (the work); the ties are given (YtfcadipggmlfeaaGreatDoorTie.lean); close each card by the builder's one call (the guide's Derived/Test/ToyasCard.lean, 'card_holds'). Laid BY PROGRAM, IN A SANDBOX (cutbox-door.mjs). By AI agents, Wed Nov 11 2026. No macro, syntax, notation, axiom, sorry.
-/
import Derived.Test.YtfcadipggmlfeaaGreatDoorRows
import GoSem.ClaimSeven
namespace Go.Proofs.YtfcadipggmlfeaaGreatDoor
namespace Rows

/-- THE TIED CARD OF 'passkeylaw17.KeystoreBoots'. -/
def keystoreBootsCard : Claim7 := { stood := { row := keystoreBootsRow, standIns := [], harness := (true, "a801e2728b2b24eecc4c2a5bb512acf2c414db616790c18b1c90cd56ed529079"), looks := false }, kinds := [], alts := [], laidByText := true, laidKinds := [.data, .pinned], laidTests := true, laidLooks := .later }
def KeystoreBootsCardSaid : Prop := Claim7.holds Tryz.pinned (.plain (OpenSpec.ofChange keystoreBootsSpec)) keystoreBootsCard

/-- THE SECOND FORM's CARD OF 'passkeylaw17.KeystoreBoots'. -/
def keystoreBootsUptoCard : Claim7 := { stood := { row := keystoreBootsUptoRow, standIns := [], harness := (true, "a801e2728b2b24eecc4c2a5bb512acf2c414db616790c18b1c90cd56ed529079"), looks := false }, kinds := [], alts := [], laidByText := true, laidKinds := [.data, .pinned], laidTests := true, laidLooks := .later }
def KeystoreBootsUptoCardSaid : Prop := Claim7.holds Tryz.pinned (.plain (OpenSpec.upto keystoreBootsSpec)) keystoreBootsUptoCard
end Rows
end Go.Proofs.YtfcadipggmlfeaaGreatDoor

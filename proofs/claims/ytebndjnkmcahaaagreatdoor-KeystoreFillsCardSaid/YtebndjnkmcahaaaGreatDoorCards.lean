/-
  DERIVED. GIVEN WITH THE SEED: THE CARDS: each row of YtebndjnkmcahaaaGreatDoorRows.lean that lists a variable, with what it lists TIED to the program's text (the seventh form; the later family's looks); each row that meets fmt, with fmt's text TOLD by the authors' own Lean function (tested against real Go, not proved from fmt's source: count such statements apart). THE CARD IS WHAT COUNTS. Prove the row's statement (the work); the ties are given (YtebndjnkmcahaaaGreatDoorTie.lean); close each card by the builder's one call (the guide's Derived/Test/ToyasCard.lean, 'card_holds'). Laid BY PROGRAM, IN A SANDBOX (cutbox-door.mjs). By AI agents, Wed Nov 11 2026. No macro, syntax, notation, axiom, sorry.
-/
import Derived.Test.YtebndjnkmcahaaaGreatDoorRows
import GoSem.ClaimSeven
namespace Go.Proofs.YtebndjnkmcahaaaGreatDoor
namespace Rows

/-- THE TIED CARD OF 'passkeylaw17.KeystoreNew'. -/
def keystoreNewCard : Claim7 := { stood := { row := keystoreNewRow, standIns := [], harness := (true, "6d00e20068115f4f42bc511bf278ebefee2115487aa565315649948d1caffafc"), looks := false }, kinds := [], alts := [], laidByText := true, laidKinds := [.data, .pinned], laidTests := true, laidLooks := .later }
def KeystoreNewCardSaid : Prop := Claim7.holds Tryz.pinned (.plain (OpenSpec.ofChange keystoreNewSpec)) keystoreNewCard

/-- THE TIED CARD OF 'passkeylaw17.KeystoreOnce'. -/
def keystoreOnceCard : Claim7 := { stood := { row := keystoreOnceRow, standIns := [], harness := (true, "6d00e20068115f4f42bc511bf278ebefee2115487aa565315649948d1caffafc"), looks := false }, kinds := [], alts := [], laidByText := true, laidKinds := [.data, .pinned], laidTests := true, laidLooks := .later }
def KeystoreOnceCardSaid : Prop := Claim7.holds Tryz.pinned (.plain (OpenSpec.ofChange keystoreOnceSpec)) keystoreOnceCard

/-- THE TIED CARD OF 'passkeylaw17.KeystoreFills'. -/
def keystoreFillsCard : Claim7 := { stood := { row := keystoreFillsRow, standIns := [], harness := (true, "6d00e20068115f4f42bc511bf278ebefee2115487aa565315649948d1caffafc"), looks := false }, kinds := [], alts := [], laidByText := true, laidKinds := [.data, .pinned], laidTests := true, laidLooks := .later }
def KeystoreFillsCardSaid : Prop := Claim7.holds Tryz.pinned (.plain (OpenSpec.ofChange keystoreFillsSpec)) keystoreFillsCard

/-- THE SECOND FORM's CARD OF 'passkeylaw17.KeystoreNew'. -/
def keystoreNewUptoCard : Claim7 := { stood := { row := keystoreNewUptoRow, standIns := [], harness := (true, "6d00e20068115f4f42bc511bf278ebefee2115487aa565315649948d1caffafc"), looks := false }, kinds := [], alts := [], laidByText := true, laidKinds := [.data, .pinned], laidTests := true, laidLooks := .later }
def KeystoreNewUptoCardSaid : Prop := Claim7.holds Tryz.pinned (.plain (OpenSpec.upto keystoreNewSpec)) keystoreNewUptoCard

/-- THE SECOND FORM's CARD OF 'passkeylaw17.KeystoreOnce'. -/
def keystoreOnceUptoCard : Claim7 := { stood := { row := keystoreOnceUptoRow, standIns := [], harness := (true, "6d00e20068115f4f42bc511bf278ebefee2115487aa565315649948d1caffafc"), looks := false }, kinds := [], alts := [], laidByText := true, laidKinds := [.data, .pinned], laidTests := true, laidLooks := .later }
def KeystoreOnceUptoCardSaid : Prop := Claim7.holds Tryz.pinned (.plain (OpenSpec.upto keystoreOnceSpec)) keystoreOnceUptoCard

/-- THE SECOND FORM's CARD OF 'passkeylaw17.KeystoreFills'. -/
def keystoreFillsUptoCard : Claim7 := { stood := { row := keystoreFillsUptoRow, standIns := [], harness := (true, "6d00e20068115f4f42bc511bf278ebefee2115487aa565315649948d1caffafc"), looks := false }, kinds := [], alts := [], laidByText := true, laidKinds := [.data, .pinned], laidTests := true, laidLooks := .later }
def KeystoreFillsUptoCardSaid : Prop := Claim7.holds Tryz.pinned (.plain (OpenSpec.upto keystoreFillsSpec)) keystoreFillsUptoCard
end Rows
end Go.Proofs.YtebndjnkmcahaaaGreatDoor

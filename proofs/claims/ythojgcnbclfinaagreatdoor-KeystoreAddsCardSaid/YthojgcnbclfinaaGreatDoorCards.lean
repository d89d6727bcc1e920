/-
  DERIVED. GIVEN WITH THE SEED: THE CARDS: each row of YthojgcnbclfinaaGreatDoorRows.lean that lists a variable, with what it lists TIED to the program's text (the seventh form; the later family's looks); each row that meets fmt, with fmt's text TOLD by the authors' own Lean function (tested against real Go, not proved from fmt's source: count such statements apart). THE CARD IS WHAT COUNTS. Prove the row's statement (the work); the ties are given (YthojgcnbclfinaaGreatDoorTie.lean); close each card by the builder's one call (the guide's Derived/Test/ToyasCard.lean, 'card_holds'). Laid BY PROGRAM, IN A SANDBOX (cutbox-door.mjs). By AI agents, Wed Nov 11 2026. No macro, syntax, notation, axiom, sorry.
-/
import Derived.Test.YthojgcnbclfinaaGreatDoorRows
import GoSem.ClaimSeven
namespace Go.Proofs.YthojgcnbclfinaaGreatDoor
namespace Rows

/-- THE TIED CARD OF 'passkeylaw17.KeystoreStores'. -/
def keystoreStoresCard : Claim7 := { stood := { row := keystoreStoresRow, standIns := [], harness := (true, "a13aec0c471114b30b45bfd3c44dae2bea9b27cfdb674131fb9c2572ed797bdf"), looks := false }, kinds := [], alts := [], laidByText := true, laidKinds := [.data, .pinned], laidTests := true, laidLooks := .later }
def KeystoreStoresCardSaid : Prop := Claim7.holds Tryz.pinned (.plain (OpenSpec.ofChange keystoreStoresSpec)) keystoreStoresCard

/-- THE TIED CARD OF 'passkeylaw17.KeystoreRemoves'. -/
def keystoreRemovesCard : Claim7 := { stood := { row := keystoreRemovesRow, standIns := [], harness := (true, "a13aec0c471114b30b45bfd3c44dae2bea9b27cfdb674131fb9c2572ed797bdf"), looks := false }, kinds := [], alts := [], laidByText := true, laidKinds := [.data, .pinned], laidTests := true, laidLooks := .later }
def KeystoreRemovesCardSaid : Prop := Claim7.holds Tryz.pinned (.plain (OpenSpec.ofChange keystoreRemovesSpec)) keystoreRemovesCard

/-- THE TIED CARD OF 'passkeylaw17.KeystoreAdds'. -/
def keystoreAddsCard : Claim7 := { stood := { row := keystoreAddsRow, standIns := [], harness := (true, "a13aec0c471114b30b45bfd3c44dae2bea9b27cfdb674131fb9c2572ed797bdf"), looks := false }, kinds := [], alts := [], laidByText := true, laidKinds := [.data, .pinned], laidTests := true, laidLooks := .later }
def KeystoreAddsCardSaid : Prop := Claim7.holds Tryz.pinned (.plain (OpenSpec.ofChange keystoreAddsSpec)) keystoreAddsCard

/-- THE TIED CARD OF 'passkeylaw17.KeystoreAtomic'. -/
def keystoreAtomicCard : Claim7 := { stood := { row := keystoreAtomicRow, standIns := [], harness := (true, "a13aec0c471114b30b45bfd3c44dae2bea9b27cfdb674131fb9c2572ed797bdf"), looks := false }, kinds := [], alts := [], laidByText := true, laidKinds := [.data, .pinned], laidTests := true, laidLooks := .later }
def KeystoreAtomicCardSaid : Prop := Claim7.holds Tryz.pinned (.plain (OpenSpec.ofChange keystoreAtomicSpec)) keystoreAtomicCard

/-- THE SECOND FORM's CARD OF 'passkeylaw17.KeystoreStores'. -/
def keystoreStoresUptoCard : Claim7 := { stood := { row := keystoreStoresUptoRow, standIns := [], harness := (true, "a13aec0c471114b30b45bfd3c44dae2bea9b27cfdb674131fb9c2572ed797bdf"), looks := false }, kinds := [], alts := [], laidByText := true, laidKinds := [.data, .pinned], laidTests := true, laidLooks := .later }
def KeystoreStoresUptoCardSaid : Prop := Claim7.holds Tryz.pinned (.plain (OpenSpec.upto keystoreStoresSpec)) keystoreStoresUptoCard

/-- THE SECOND FORM's CARD OF 'passkeylaw17.KeystoreRemoves'. -/
def keystoreRemovesUptoCard : Claim7 := { stood := { row := keystoreRemovesUptoRow, standIns := [], harness := (true, "a13aec0c471114b30b45bfd3c44dae2bea9b27cfdb674131fb9c2572ed797bdf"), looks := false }, kinds := [], alts := [], laidByText := true, laidKinds := [.data, .pinned], laidTests := true, laidLooks := .later }
def KeystoreRemovesUptoCardSaid : Prop := Claim7.holds Tryz.pinned (.plain (OpenSpec.upto keystoreRemovesSpec)) keystoreRemovesUptoCard

/-- THE SECOND FORM's CARD OF 'passkeylaw17.KeystoreAdds'. -/
def keystoreAddsUptoCard : Claim7 := { stood := { row := keystoreAddsUptoRow, standIns := [], harness := (true, "a13aec0c471114b30b45bfd3c44dae2bea9b27cfdb674131fb9c2572ed797bdf"), looks := false }, kinds := [], alts := [], laidByText := true, laidKinds := [.data, .pinned], laidTests := true, laidLooks := .later }
def KeystoreAddsUptoCardSaid : Prop := Claim7.holds Tryz.pinned (.plain (OpenSpec.upto keystoreAddsSpec)) keystoreAddsUptoCard

/-- THE SECOND FORM's CARD OF 'passkeylaw17.KeystoreAtomic'. -/
def keystoreAtomicUptoCard : Claim7 := { stood := { row := keystoreAtomicUptoRow, standIns := [], harness := (true, "a13aec0c471114b30b45bfd3c44dae2bea9b27cfdb674131fb9c2572ed797bdf"), looks := false }, kinds := [], alts := [], laidByText := true, laidKinds := [.data, .pinned], laidTests := true, laidLooks := .later }
def KeystoreAtomicUptoCardSaid : Prop := Claim7.holds Tryz.pinned (.plain (OpenSpec.upto keystoreAtomicSpec)) keystoreAtomicUptoCard
end Rows
end Go.Proofs.YthojgcnbclfinaaGreatDoor

/-
  DERIVED. GIVEN WITH THE SEED: THE CARDS: each row of YtkbpndohpkcikaaDoorRows.lean that lists a variable, with what it lists TIED to the program's text (the seventh form; the later family's looks); each row that meets fmt, with fmt's text TOLD by the authors' own Lean function (tested against real Go, not proved from fmt's source: count such statements apart). THE CARD IS WHAT COUNTS. Prove the row's statement (the work); the ties are given (YtkbpndohpkcikaaDoorTie.lean); close each card by the builder's one call (the guide's Derived/Test/ToyasCard.lean, 'card_holds'). Laid BY PROGRAM, IN A SANDBOX (cutbox-door.mjs). By AI agents, Wed Nov 11 2026. No macro, syntax, notation, axiom, sorry.
-/
import Derived.Test.YtkbpndohpkcikaaDoorRows
import GoSem.ClaimSeven
namespace Go.Proofs.YtkbpndohpkcikaaDoor
namespace Rows

/-- THE TIED CARD OF 'kymographlaw06.JsonWrites'. -/
def jsonWritesCard : Claim7 := { stood := { row := jsonWritesRow, standIns := [], harness := (true, "f2c61164825c1ca1036b6e6b5f827939ef4779dc2d540a0a4b702cc094822a0c"), looks := true }, kinds := [], alts := [], laidByText := true, laidKinds := [.data, .data, .data, .sentinel, .sentinel], laidTests := true, laidLooks := .later }
def JsonWritesCardSaid : Prop := Claim7.holds Tryd.pinned (.plain (OpenSpec.ofChange jsonWritesSpec)) jsonWritesCard

/-- THE TIED CARD OF 'kymographlaw06.JsonBack'. -/
def jsonBackCard : Claim7 := { stood := { row := jsonBackRow, standIns := [], harness := (true, "f2c61164825c1ca1036b6e6b5f827939ef4779dc2d540a0a4b702cc094822a0c"), looks := true }, kinds := [], alts := [], laidByText := true, laidKinds := [.data, .data, .data, .sentinel, .sentinel], laidTests := true, laidLooks := .later }
def JsonBackCardSaid : Prop := Claim7.holds Tryd.pinned (.plain (OpenSpec.ofChange jsonBackSpec)) jsonBackCard

/-- THE TIED CARD OF 'kymographlaw06.JsonSpaces'. -/
def jsonSpacesCard : Claim7 := { stood := { row := jsonSpacesRow, standIns := [], harness := (true, "f2c61164825c1ca1036b6e6b5f827939ef4779dc2d540a0a4b702cc094822a0c"), looks := true }, kinds := [], alts := [], laidByText := true, laidKinds := [.data, .data, .data, .sentinel, .sentinel], laidTests := true, laidLooks := .later }
def JsonSpacesCardSaid : Prop := Claim7.holds Tryd.pinned (.plain (OpenSpec.ofChange jsonSpacesSpec)) jsonSpacesCard

/-- THE TIED CARD OF 'kymographlaw06.JsonPlace'. -/
def jsonPlaceCard : Claim7 := { stood := { row := jsonPlaceRow, standIns := [], harness := (true, "f2c61164825c1ca1036b6e6b5f827939ef4779dc2d540a0a4b702cc094822a0c"), looks := true }, kinds := [], alts := [], laidByText := true, laidKinds := [.data, .data, .data, .sentinel, .sentinel], laidTests := true, laidLooks := .later }
def JsonPlaceCardSaid : Prop := Claim7.holds Tryd.pinned (.plain (OpenSpec.ofChange jsonPlaceSpec)) jsonPlaceCard

/-- THE TIED CARD OF 'kymographlaw06.JsonKeys'. -/
def jsonKeysCard : Claim7 := { stood := { row := jsonKeysRow, standIns := [], harness := (true, "f2c61164825c1ca1036b6e6b5f827939ef4779dc2d540a0a4b702cc094822a0c"), looks := true }, kinds := [], alts := [], laidByText := true, laidKinds := [.data, .data, .data, .sentinel, .sentinel], laidTests := true, laidLooks := .later }
def JsonKeysCardSaid : Prop := Claim7.holds Tryd.pinned (.plain (OpenSpec.ofChange jsonKeysSpec)) jsonKeysCard

/-- THE TIED CARD OF 'kymographlaw06.JsonLists'. -/
def jsonListsCard : Claim7 := { stood := { row := jsonListsRow, standIns := [], harness := (true, "f2c61164825c1ca1036b6e6b5f827939ef4779dc2d540a0a4b702cc094822a0c"), looks := true }, kinds := [], alts := [], laidByText := true, laidKinds := [.data, .data, .data, .sentinel, .sentinel], laidTests := true, laidLooks := .later }
def JsonListsCardSaid : Prop := Claim7.holds Tryd.pinned (.plain (OpenSpec.ofChange jsonListsSpec)) jsonListsCard

/-- THE SECOND FORM's CARD OF 'kymographlaw06.JsonWrites'. -/
def jsonWritesUptoCard : Claim7 := { stood := { row := jsonWritesUptoRow, standIns := [], harness := (true, "f2c61164825c1ca1036b6e6b5f827939ef4779dc2d540a0a4b702cc094822a0c"), looks := true }, kinds := [], alts := [], laidByText := true, laidKinds := [.data, .data, .data, .sentinel, .sentinel], laidTests := true, laidLooks := .later }
def JsonWritesUptoCardSaid : Prop := Claim7.holds Tryd.pinned (.plain (OpenSpec.upto jsonWritesSpec)) jsonWritesUptoCard

/-- THE SECOND FORM's CARD OF 'kymographlaw06.JsonBack'. -/
def jsonBackUptoCard : Claim7 := { stood := { row := jsonBackUptoRow, standIns := [], harness := (true, "f2c61164825c1ca1036b6e6b5f827939ef4779dc2d540a0a4b702cc094822a0c"), looks := true }, kinds := [], alts := [], laidByText := true, laidKinds := [.data, .data, .data, .sentinel, .sentinel], laidTests := true, laidLooks := .later }
def JsonBackUptoCardSaid : Prop := Claim7.holds Tryd.pinned (.plain (OpenSpec.upto jsonBackSpec)) jsonBackUptoCard

/-- THE SECOND FORM's CARD OF 'kymographlaw06.JsonSpaces'. -/
def jsonSpacesUptoCard : Claim7 := { stood := { row := jsonSpacesUptoRow, standIns := [], harness := (true, "f2c61164825c1ca1036b6e6b5f827939ef4779dc2d540a0a4b702cc094822a0c"), looks := true }, kinds := [], alts := [], laidByText := true, laidKinds := [.data, .data, .data, .sentinel, .sentinel], laidTests := true, laidLooks := .later }
def JsonSpacesUptoCardSaid : Prop := Claim7.holds Tryd.pinned (.plain (OpenSpec.upto jsonSpacesSpec)) jsonSpacesUptoCard

/-- THE SECOND FORM's CARD OF 'kymographlaw06.JsonPlace'. -/
def jsonPlaceUptoCard : Claim7 := { stood := { row := jsonPlaceUptoRow, standIns := [], harness := (true, "f2c61164825c1ca1036b6e6b5f827939ef4779dc2d540a0a4b702cc094822a0c"), looks := true }, kinds := [], alts := [], laidByText := true, laidKinds := [.data, .data, .data, .sentinel, .sentinel], laidTests := true, laidLooks := .later }
def JsonPlaceUptoCardSaid : Prop := Claim7.holds Tryd.pinned (.plain (OpenSpec.upto jsonPlaceSpec)) jsonPlaceUptoCard

/-- THE SECOND FORM's CARD OF 'kymographlaw06.JsonKeys'. -/
def jsonKeysUptoCard : Claim7 := { stood := { row := jsonKeysUptoRow, standIns := [], harness := (true, "f2c61164825c1ca1036b6e6b5f827939ef4779dc2d540a0a4b702cc094822a0c"), looks := true }, kinds := [], alts := [], laidByText := true, laidKinds := [.data, .data, .data, .sentinel, .sentinel], laidTests := true, laidLooks := .later }
def JsonKeysUptoCardSaid : Prop := Claim7.holds Tryd.pinned (.plain (OpenSpec.upto jsonKeysSpec)) jsonKeysUptoCard

/-- THE SECOND FORM's CARD OF 'kymographlaw06.JsonLists'. -/
def jsonListsUptoCard : Claim7 := { stood := { row := jsonListsUptoRow, standIns := [], harness := (true, "f2c61164825c1ca1036b6e6b5f827939ef4779dc2d540a0a4b702cc094822a0c"), looks := true }, kinds := [], alts := [], laidByText := true, laidKinds := [.data, .data, .data, .sentinel, .sentinel], laidTests := true, laidLooks := .later }
def JsonListsUptoCardSaid : Prop := Claim7.holds Tryd.pinned (.plain (OpenSpec.upto jsonListsSpec)) jsonListsUptoCard
end Rows
end Go.Proofs.YtkbpndohpkcikaaDoor

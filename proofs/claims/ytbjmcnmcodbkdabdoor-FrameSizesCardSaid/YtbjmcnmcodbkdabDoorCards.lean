/-
  DERIVED. GIVEN WITH THE SEED: THE CARDS: each row of YtbjmcnmcodbkdabDoorRows.lean that lists a variable, with what it lists TIED to the program's text (the seventh form; the later family's looks); each row that meets fmt, with fmt's text TOLD by the authors' own Lean function (tested against real Go, not proved from fmt's source: count such statements apart). THE CARD IS WHAT COUNTS. Prove the row's statement (the work); the ties are given (YtbjmcnmcodbkdabDoorTie.lean); close each card by the builder's one call (the guide's Derived/Test/ToyasCard.lean, 'card_holds'). Laid BY PROGRAM, IN A SANDBOX (cutbox-door.mjs). By AI agents, Wed Nov 11 2026. No macro, syntax, notation, axiom, sorry.
-/
import Derived.Test.YtbjmcnmcodbkdabDoorRows
import GoSem.ClaimSeven
namespace Go.Proofs.YtbjmcnmcodbkdabDoor
namespace Rows

/-- THE TIED CARD OF 'kymographlaw03.FrameSizes'. -/
def frameSizesCard : Claim7 := { stood := { row := frameSizesRow, standIns := [], harness := (true, "1a129f03ed4e57cdaf93f86b7379db45aa3145e1b7231581e56638be29b369c0"), looks := false }, kinds := [], alts := [], laidByText := true, laidKinds := [.data, .pinned], laidTests := true, laidLooks := .later }
def FrameSizesCardSaid : Prop := Claim7.holds Tryd.pinned (.plain (OpenSpec.ofChange frameSizesSpec)) frameSizesCard

/-- THE TIED CARD OF 'kymographlaw03.FrameTold'. -/
def frameToldCard : Claim7 := { stood := { row := frameToldRow, standIns := [], harness := (true, "1a129f03ed4e57cdaf93f86b7379db45aa3145e1b7231581e56638be29b369c0"), looks := false }, kinds := [], alts := [], laidByText := true, laidKinds := [.data, .pinned], laidTests := true, laidLooks := .later }
def FrameToldCardSaid : Prop := Claim7.holds Tryd.pinned (.plain (OpenSpec.ofChange frameToldSpec)) frameToldCard

/-- THE SECOND FORM's CARD OF 'kymographlaw03.FrameSizes'. -/
def frameSizesUptoCard : Claim7 := { stood := { row := frameSizesUptoRow, standIns := [], harness := (true, "1a129f03ed4e57cdaf93f86b7379db45aa3145e1b7231581e56638be29b369c0"), looks := false }, kinds := [], alts := [], laidByText := true, laidKinds := [.data, .pinned], laidTests := true, laidLooks := .later }
def FrameSizesUptoCardSaid : Prop := Claim7.holds Tryd.pinned (.plain (OpenSpec.upto frameSizesSpec)) frameSizesUptoCard

/-- THE SECOND FORM's CARD OF 'kymographlaw03.FrameTold'. -/
def frameToldUptoCard : Claim7 := { stood := { row := frameToldUptoRow, standIns := [], harness := (true, "1a129f03ed4e57cdaf93f86b7379db45aa3145e1b7231581e56638be29b369c0"), looks := false }, kinds := [], alts := [], laidByText := true, laidKinds := [.data, .pinned], laidTests := true, laidLooks := .later }
def FrameToldUptoCardSaid : Prop := Claim7.holds Tryd.pinned (.plain (OpenSpec.upto frameToldSpec)) frameToldUptoCard
end Rows
end Go.Proofs.YtbjmcnmcodbkdabDoor

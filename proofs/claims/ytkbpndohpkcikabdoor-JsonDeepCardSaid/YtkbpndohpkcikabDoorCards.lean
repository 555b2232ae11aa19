/-
  DERIVED. GIVEN WITH THE SEED: THE CARDS: each row of YtkbpndohpkcikabDoorRows.lean that lists a variable, with what it lists TIED to the program's text (the seventh form; the later family's looks); each row that meets fmt, with fmt's text TOLD by the authors' own Lean function (tested against real Go, not proved from fmt's source: count such statements apart). THE CARD IS WHAT COUNTS. Prove the row's statement (the work); the ties are given (YtkbpndohpkcikabDoorTie.lean); close each card by the builder's one call (the guide's Derived/Test/ToyasCard.lean, 'card_holds'). Laid BY PROGRAM, IN A SANDBOX (cutbox-door.mjs). By AI agents, Wed Nov 11 2026. No macro, syntax, notation, axiom, sorry.
-/
import Derived.Test.YtkbpndohpkcikabDoorRows
import GoSem.ClaimSeven
namespace Go.Proofs.YtkbpndohpkcikabDoor
namespace Rows

/-- THE TIED CARD OF 'kymographlaw06.JsonDeep'. -/
def jsonDeepCard : Claim7 := { stood := { row := jsonDeepRow, standIns := [], harness := (true, "0d6059e6cb4b14aca8dc28ddf9460738ba895f5f3d7b743269c2315edc97067b"), looks := true }, kinds := [], alts := [], laidByText := true, laidKinds := [.data, .data, .data, .sentinel, .sentinel], laidTests := true, laidLooks := .later }
def JsonDeepCardSaid : Prop := Claim7.holds Tryd.pinned (.plain (OpenSpec.ofChange jsonDeepSpec)) jsonDeepCard

/-- THE SECOND FORM's CARD OF 'kymographlaw06.JsonDeep'. -/
def jsonDeepUptoCard : Claim7 := { stood := { row := jsonDeepUptoRow, standIns := [], harness := (true, "0d6059e6cb4b14aca8dc28ddf9460738ba895f5f3d7b743269c2315edc97067b"), looks := true }, kinds := [], alts := [], laidByText := true, laidKinds := [.data, .data, .data, .sentinel, .sentinel], laidTests := true, laidLooks := .later }
def JsonDeepUptoCardSaid : Prop := Claim7.holds Tryd.pinned (.plain (OpenSpec.upto jsonDeepSpec)) jsonDeepUptoCard
end Rows
end Go.Proofs.YtkbpndohpkcikabDoor

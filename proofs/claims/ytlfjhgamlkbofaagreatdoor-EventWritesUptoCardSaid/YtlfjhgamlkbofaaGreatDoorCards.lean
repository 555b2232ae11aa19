/-
  DERIVED. GIVEN WITH THE SEED: THE CARDS: each row of YtlfjhgamlkbofaaGreatDoorRows.lean that lists a variable, with what it lists TIED to the program's text (the seventh form; the later family's looks); each row that meets fmt, with fmt's text TOLD by the authors' own Lean function (tested against real Go, not proved from fmt's source: count such statements apart). THE CARD IS WHAT COUNTS. Prove the row's statement (the work); the ties are given (YtlfjhgamlkbofaaGreatDoorTie.lean); close each card by the builder's one call (the guide's Derived/Test/ToyasCard.lean, 'card_holds'). Laid BY PROGRAM, IN A SANDBOX (cutbox-door.mjs). By AI agents, Wed Nov 11 2026. No macro, syntax, notation, axiom, sorry.
-/
import Derived.Test.YtlfjhgamlkbofaaGreatDoorRows
import GoSem.ClaimSeven
namespace Go.Proofs.YtlfjhgamlkbofaaGreatDoor
namespace Rows

/-- THE TIED CARD OF 'kymographlaw07.EventReads'. -/
def eventReadsCard : Claim7 := { stood := { row := eventReadsRow, standIns := [], harness := (true, "4c8695eb1ac032b4e716ff44961a2dcfc2aba7512ef385ed2dfdf8b9738e1b27"), looks := true }, kinds := [], alts := [], laidByText := true, laidKinds := [.data, .data, .data, .data, .sentinel, .sentinel, .pinned], laidTests := true, laidLooks := .later }
def EventReadsCardSaid : Prop := Claim7.holds Tryz.pinned (.plain (OpenSpec.ofChange eventReadsSpec)) eventReadsCard

/-- THE TIED CARD OF 'kymographlaw07.EventWrites'. -/
def eventWritesCard : Claim7 := { stood := { row := eventWritesRow, standIns := [], harness := (true, "4c8695eb1ac032b4e716ff44961a2dcfc2aba7512ef385ed2dfdf8b9738e1b27"), looks := true }, kinds := [], alts := [], laidByText := true, laidKinds := [.data, .data, .data, .data, .sentinel, .sentinel, .pinned], laidTests := true, laidLooks := .later }
def EventWritesCardSaid : Prop := Claim7.holds Tryz.pinned (.plain (OpenSpec.ofChange eventWritesSpec)) eventWritesCard

/-- THE TIED CARD OF 'kymographlaw07.EventValues'. -/
def eventValuesCard : Claim7 := { stood := { row := eventValuesRow, standIns := [], harness := (true, "4c8695eb1ac032b4e716ff44961a2dcfc2aba7512ef385ed2dfdf8b9738e1b27"), looks := true }, kinds := [], alts := [], laidByText := true, laidKinds := [.data, .data, .data, .data, .sentinel, .sentinel, .pinned], laidTests := true, laidLooks := .later }
def EventValuesCardSaid : Prop := Claim7.holds Tryz.pinned (.plain (OpenSpec.ofChange eventValuesSpec)) eventValuesCard

/-- THE TIED CARD OF 'kymographlaw07.EventBoth'. -/
def eventBothCard : Claim7 := { stood := { row := eventBothRow, standIns := [], harness := (true, "4c8695eb1ac032b4e716ff44961a2dcfc2aba7512ef385ed2dfdf8b9738e1b27"), looks := true }, kinds := [], alts := [], laidByText := true, laidKinds := [.data, .data, .data, .data, .sentinel, .sentinel, .pinned], laidTests := true, laidLooks := .later }
def EventBothCardSaid : Prop := Claim7.holds Tryz.pinned (.plain (OpenSpec.ofChange eventBothSpec)) eventBothCard

/-- THE TIED CARD OF 'kymographlaw07.EventBack'. -/
def eventBackCard : Claim7 := { stood := { row := eventBackRow, standIns := [], harness := (true, "4c8695eb1ac032b4e716ff44961a2dcfc2aba7512ef385ed2dfdf8b9738e1b27"), looks := true }, kinds := [], alts := [], laidByText := true, laidKinds := [.data, .data, .data, .data, .sentinel, .sentinel, .pinned], laidTests := true, laidLooks := .later }
def EventBackCardSaid : Prop := Claim7.holds Tryz.pinned (.plain (OpenSpec.ofChange eventBackSpec)) eventBackCard

/-- THE TIED CARD OF 'kymographlaw07.EventAhead'. -/
def eventAheadCard : Claim7 := { stood := { row := eventAheadRow, standIns := [], harness := (true, "4c8695eb1ac032b4e716ff44961a2dcfc2aba7512ef385ed2dfdf8b9738e1b27"), looks := true }, kinds := [], alts := [], laidByText := true, laidKinds := [.data, .data, .data, .data, .sentinel, .sentinel, .pinned], laidTests := true, laidLooks := .later }
def EventAheadCardSaid : Prop := Claim7.holds Tryz.pinned (.plain (OpenSpec.ofChange eventAheadSpec)) eventAheadCard

/-- THE TIED CARD OF 'kymographlaw07.EventJoins'. -/
def eventJoinsCard : Claim7 := { stood := { row := eventJoinsRow, standIns := [], harness := (true, "4c8695eb1ac032b4e716ff44961a2dcfc2aba7512ef385ed2dfdf8b9738e1b27"), looks := true }, kinds := [], alts := [], laidByText := true, laidKinds := [.data, .data, .data, .data, .sentinel, .sentinel, .pinned], laidTests := true, laidLooks := .later }
def EventJoinsCardSaid : Prop := Claim7.holds Tryz.pinned (.plain (OpenSpec.ofChange eventJoinsSpec)) eventJoinsCard

/-- THE TIED CARD OF 'kymographlaw07.EventCuts'. -/
def eventCutsCard : Claim7 := { stood := { row := eventCutsRow, standIns := [], harness := (true, "4c8695eb1ac032b4e716ff44961a2dcfc2aba7512ef385ed2dfdf8b9738e1b27"), looks := true }, kinds := [], alts := [], laidByText := true, laidKinds := [.data, .data, .data, .data, .sentinel, .sentinel, .pinned], laidTests := true, laidLooks := .later }
def EventCutsCardSaid : Prop := Claim7.holds Tryz.pinned (.plain (OpenSpec.ofChange eventCutsSpec)) eventCutsCard

/-- THE SECOND FORM's CARD OF 'kymographlaw07.EventReads'. -/
def eventReadsUptoCard : Claim7 := { stood := { row := eventReadsUptoRow, standIns := [], harness := (true, "4c8695eb1ac032b4e716ff44961a2dcfc2aba7512ef385ed2dfdf8b9738e1b27"), looks := true }, kinds := [], alts := [], laidByText := true, laidKinds := [.data, .data, .data, .data, .sentinel, .sentinel, .pinned], laidTests := true, laidLooks := .later }
def EventReadsUptoCardSaid : Prop := Claim7.holds Tryz.pinned (.plain (OpenSpec.upto eventReadsSpec)) eventReadsUptoCard

/-- THE SECOND FORM's CARD OF 'kymographlaw07.EventWrites'. -/
def eventWritesUptoCard : Claim7 := { stood := { row := eventWritesUptoRow, standIns := [], harness := (true, "4c8695eb1ac032b4e716ff44961a2dcfc2aba7512ef385ed2dfdf8b9738e1b27"), looks := true }, kinds := [], alts := [], laidByText := true, laidKinds := [.data, .data, .data, .data, .sentinel, .sentinel, .pinned], laidTests := true, laidLooks := .later }
def EventWritesUptoCardSaid : Prop := Claim7.holds Tryz.pinned (.plain (OpenSpec.upto eventWritesSpec)) eventWritesUptoCard

/-- THE SECOND FORM's CARD OF 'kymographlaw07.EventValues'. -/
def eventValuesUptoCard : Claim7 := { stood := { row := eventValuesUptoRow, standIns := [], harness := (true, "4c8695eb1ac032b4e716ff44961a2dcfc2aba7512ef385ed2dfdf8b9738e1b27"), looks := true }, kinds := [], alts := [], laidByText := true, laidKinds := [.data, .data, .data, .data, .sentinel, .sentinel, .pinned], laidTests := true, laidLooks := .later }
def EventValuesUptoCardSaid : Prop := Claim7.holds Tryz.pinned (.plain (OpenSpec.upto eventValuesSpec)) eventValuesUptoCard

/-- THE SECOND FORM's CARD OF 'kymographlaw07.EventBoth'. -/
def eventBothUptoCard : Claim7 := { stood := { row := eventBothUptoRow, standIns := [], harness := (true, "4c8695eb1ac032b4e716ff44961a2dcfc2aba7512ef385ed2dfdf8b9738e1b27"), looks := true }, kinds := [], alts := [], laidByText := true, laidKinds := [.data, .data, .data, .data, .sentinel, .sentinel, .pinned], laidTests := true, laidLooks := .later }
def EventBothUptoCardSaid : Prop := Claim7.holds Tryz.pinned (.plain (OpenSpec.upto eventBothSpec)) eventBothUptoCard

/-- THE SECOND FORM's CARD OF 'kymographlaw07.EventBack'. -/
def eventBackUptoCard : Claim7 := { stood := { row := eventBackUptoRow, standIns := [], harness := (true, "4c8695eb1ac032b4e716ff44961a2dcfc2aba7512ef385ed2dfdf8b9738e1b27"), looks := true }, kinds := [], alts := [], laidByText := true, laidKinds := [.data, .data, .data, .data, .sentinel, .sentinel, .pinned], laidTests := true, laidLooks := .later }
def EventBackUptoCardSaid : Prop := Claim7.holds Tryz.pinned (.plain (OpenSpec.upto eventBackSpec)) eventBackUptoCard

/-- THE SECOND FORM's CARD OF 'kymographlaw07.EventAhead'. -/
def eventAheadUptoCard : Claim7 := { stood := { row := eventAheadUptoRow, standIns := [], harness := (true, "4c8695eb1ac032b4e716ff44961a2dcfc2aba7512ef385ed2dfdf8b9738e1b27"), looks := true }, kinds := [], alts := [], laidByText := true, laidKinds := [.data, .data, .data, .data, .sentinel, .sentinel, .pinned], laidTests := true, laidLooks := .later }
def EventAheadUptoCardSaid : Prop := Claim7.holds Tryz.pinned (.plain (OpenSpec.upto eventAheadSpec)) eventAheadUptoCard

/-- THE SECOND FORM's CARD OF 'kymographlaw07.EventJoins'. -/
def eventJoinsUptoCard : Claim7 := { stood := { row := eventJoinsUptoRow, standIns := [], harness := (true, "4c8695eb1ac032b4e716ff44961a2dcfc2aba7512ef385ed2dfdf8b9738e1b27"), looks := true }, kinds := [], alts := [], laidByText := true, laidKinds := [.data, .data, .data, .data, .sentinel, .sentinel, .pinned], laidTests := true, laidLooks := .later }
def EventJoinsUptoCardSaid : Prop := Claim7.holds Tryz.pinned (.plain (OpenSpec.upto eventJoinsSpec)) eventJoinsUptoCard

/-- THE SECOND FORM's CARD OF 'kymographlaw07.EventCuts'. -/
def eventCutsUptoCard : Claim7 := { stood := { row := eventCutsUptoRow, standIns := [], harness := (true, "4c8695eb1ac032b4e716ff44961a2dcfc2aba7512ef385ed2dfdf8b9738e1b27"), looks := true }, kinds := [], alts := [], laidByText := true, laidKinds := [.data, .data, .data, .data, .sentinel, .sentinel, .pinned], laidTests := true, laidLooks := .later }
def EventCutsUptoCardSaid : Prop := Claim7.holds Tryz.pinned (.plain (OpenSpec.upto eventCutsSpec)) eventCutsUptoCard
end Rows
end Go.Proofs.YtlfjhgamlkbofaaGreatDoor

/-
  DERIVED. GIVEN WITH THE SEED: THE CARDS: each row of YtglenbikdahgjaaGreatDoorRows.lean that lists a variable, with what it lists TIED to the program's text (the seventh form; the later family's looks); each row that meets fmt, with fmt's text TOLD by the authors' own Lean function (tested against real Go, not proved from fmt's source: count such statements apart). THE CARD IS WHAT COUNTS. Prove the row's statement (the work); the ties are given (YtglenbikdahgjaaGreatDoorTie.lean); close each card by the builder's one call (the guide's Derived/Test/ToyasCard.lean, 'card_holds'). Laid BY PROGRAM, IN A SANDBOX (cutbox-door.mjs). By AI agents, Wed Nov 11 2026. No macro, syntax, notation, axiom, sorry.
-/
import Derived.Test.YtglenbikdahgjaaGreatDoorRows
import GoSem.ClaimSeven
namespace Go.Proofs.YtglenbikdahgjaaGreatDoor
namespace Rows

/-- THE TIED CARD OF 'baileelaw29.FoeForges'. -/
def foeForgesCard : Claim7 := { stood := { row := foeForgesRow, standIns := [], harness := (true, "a96116dcfde00babe3914d8afd2cdd123ba00c1e23803c31fdc6f0c8fb10553f"), looks := false }, kinds := [], alts := [], laidByText := true, laidKinds := [.data, .data, .sentinel, .sentinel, .sentinel, .sentinel, .sentinel, .sentinel, .data, .data, .data], laidTests := true, laidLooks := .later }
def FoeForgesCardSaid : Prop := Claim7.holds Tryz.pinned (.plain (OpenSpec.ofChange foeForgesSpec)) foeForgesCard

/-- THE TIED CARD OF 'baileelaw29.FoeAnswers'. -/
def foeAnswersCard : Claim7 := { stood := { row := foeAnswersRow, standIns := [], harness := (true, "a96116dcfde00babe3914d8afd2cdd123ba00c1e23803c31fdc6f0c8fb10553f"), looks := false }, kinds := [], alts := [], laidByText := true, laidKinds := [.data, .data, .sentinel, .sentinel, .sentinel, .sentinel, .sentinel, .sentinel, .data, .data, .data], laidTests := true, laidLooks := .later }
def FoeAnswersCardSaid : Prop := Claim7.holds Tryz.pinned (.plain (OpenSpec.ofChange foeAnswersSpec)) foeAnswersCard

/-- THE TIED CARD OF 'baileelaw25.ShelfPlays'. -/
def shelfPlaysCard : Claim7 := { stood := { row := shelfPlaysRow, standIns := [], harness := (true, "a96116dcfde00babe3914d8afd2cdd123ba00c1e23803c31fdc6f0c8fb10553f"), looks := false }, kinds := [], alts := [], laidByText := true, laidKinds := [.data, .data, .sentinel, .sentinel, .sentinel, .sentinel, .sentinel, .sentinel, .data, .data], laidTests := true, laidLooks := .later }
def ShelfPlaysCardSaid : Prop := Claim7.holds Tryz.pinned (.plain (OpenSpec.ofChange shelfPlaysSpec)) shelfPlaysCard

/-- THE SECOND FORM's CARD OF 'baileelaw29.FoeForges'. -/
def foeForgesUptoCard : Claim7 := { stood := { row := foeForgesUptoRow, standIns := [], harness := (true, "a96116dcfde00babe3914d8afd2cdd123ba00c1e23803c31fdc6f0c8fb10553f"), looks := false }, kinds := [], alts := [], laidByText := true, laidKinds := [.data, .data, .sentinel, .sentinel, .sentinel, .sentinel, .sentinel, .sentinel, .data, .data, .data], laidTests := true, laidLooks := .later }
def FoeForgesUptoCardSaid : Prop := Claim7.holds Tryz.pinned (.plain (OpenSpec.upto foeForgesSpec)) foeForgesUptoCard

/-- THE SECOND FORM's CARD OF 'baileelaw29.FoeAnswers'. -/
def foeAnswersUptoCard : Claim7 := { stood := { row := foeAnswersUptoRow, standIns := [], harness := (true, "a96116dcfde00babe3914d8afd2cdd123ba00c1e23803c31fdc6f0c8fb10553f"), looks := false }, kinds := [], alts := [], laidByText := true, laidKinds := [.data, .data, .sentinel, .sentinel, .sentinel, .sentinel, .sentinel, .sentinel, .data, .data, .data], laidTests := true, laidLooks := .later }
def FoeAnswersUptoCardSaid : Prop := Claim7.holds Tryz.pinned (.plain (OpenSpec.upto foeAnswersSpec)) foeAnswersUptoCard

/-- THE SECOND FORM's CARD OF 'baileelaw25.ShelfPlays'. -/
def shelfPlaysUptoCard : Claim7 := { stood := { row := shelfPlaysUptoRow, standIns := [], harness := (true, "a96116dcfde00babe3914d8afd2cdd123ba00c1e23803c31fdc6f0c8fb10553f"), looks := false }, kinds := [], alts := [], laidByText := true, laidKinds := [.data, .data, .sentinel, .sentinel, .sentinel, .sentinel, .sentinel, .sentinel, .data, .data], laidTests := true, laidLooks := .later }
def ShelfPlaysUptoCardSaid : Prop := Claim7.holds Tryz.pinned (.plain (OpenSpec.upto shelfPlaysSpec)) shelfPlaysUptoCard
end Rows
end Go.Proofs.YtglenbikdahgjaaGreatDoor

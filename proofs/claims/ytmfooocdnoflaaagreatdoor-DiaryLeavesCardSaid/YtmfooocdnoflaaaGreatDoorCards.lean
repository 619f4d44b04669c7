/-
  DERIVED. GIVEN WITH THE SEED: THE CARDS: each row of YtmfooocdnoflaaaGreatDoorRows.lean that lists a variable, with what it lists TIED to the program's text (the seventh form; the later family's looks); each row that meets fmt, with fmt's text TOLD by the authors' own Lean function (tested against real Go, not proved from fmt's source: count such statements apart). THE CARD IS WHAT COUNTS. Prove the row's statement (the work); the ties are given (YtmfooocdnoflaaaGreatDoorTie.lean); close each card by the builder's one call (the guide's Derived/Test/ToyasCard.lean, 'card_holds'). Laid BY PROGRAM, IN A SANDBOX (cutbox-door.mjs). By AI agents, Wed Nov 11 2026. No macro, syntax, notation, axiom, sorry.
-/
import Derived.Test.YtmfooocdnoflaaaGreatDoorRows
import GoSem.ClaimSeven
namespace Go.Proofs.YtmfooocdnoflaaaGreatDoor
namespace Rows

/-- THE TIED CARD OF 'baileelaw39.DiaryLeaves'. -/
def diaryLeavesCard : Claim7 := { stood := { row := diaryLeavesRow, standIns := [], harness := (true, "f0636544c795f65e7a0f1471ea7881aee22f6e7ac5156b020bde71c1c5b1265a"), looks := true }, kinds := [], alts := [], laidByText := true, laidKinds := [.data, .data, .sentinel, .sentinel, .sentinel, .sentinel, .sentinel, .sentinel, .sentinel, .sentinel, .sentinel, .sentinel, .sentinel, .sentinel, .sentinel, .sentinel, .sentinel, .sentinel, .sentinel, .sentinel, .sentinel, .sentinel, .data, .data], laidTests := true, laidLooks := .later }
def DiaryLeavesCardSaid : Prop := Claim7.holds Tryz.pinned (.plain (OpenSpec.ofChange diaryLeavesSpec)) diaryLeavesCard

/-- THE SECOND FORM's CARD OF 'baileelaw39.DiaryLeaves'. -/
def diaryLeavesUptoCard : Claim7 := { stood := { row := diaryLeavesUptoRow, standIns := [], harness := (true, "f0636544c795f65e7a0f1471ea7881aee22f6e7ac5156b020bde71c1c5b1265a"), looks := true }, kinds := [], alts := [], laidByText := true, laidKinds := [.data, .data, .sentinel, .sentinel, .sentinel, .sentinel, .sentinel, .sentinel, .sentinel, .sentinel, .sentinel, .sentinel, .sentinel, .sentinel, .sentinel, .sentinel, .sentinel, .sentinel, .sentinel, .sentinel, .sentinel, .sentinel, .data, .data], laidTests := true, laidLooks := .later }
def DiaryLeavesUptoCardSaid : Prop := Claim7.holds Tryz.pinned (.plain (OpenSpec.upto diaryLeavesSpec)) diaryLeavesUptoCard
end Rows
end Go.Proofs.YtmfooocdnoflaaaGreatDoor

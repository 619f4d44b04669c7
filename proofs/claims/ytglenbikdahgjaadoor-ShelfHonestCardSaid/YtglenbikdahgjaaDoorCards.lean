/-
  DERIVED. GIVEN WITH THE SEED: THE CARDS: each row of YtglenbikdahgjaaDoorRows.lean that lists a variable, with what it lists TIED to the program's text (the seventh form; the later family's looks); each row that meets fmt, with fmt's text TOLD by the authors' own Lean function (tested against real Go, not proved from fmt's source: count such statements apart). THE CARD IS WHAT COUNTS. Prove the row's statement (the work); the ties are given (YtglenbikdahgjaaDoorTie.lean); close each card by the builder's one call (the guide's Derived/Test/ToyasCard.lean, 'card_holds'). Laid BY PROGRAM, IN A SANDBOX (cutbox-door.mjs). By AI agents, Wed Nov 11 2026. No macro, syntax, notation, axiom, sorry.
-/
import Derived.Test.YtglenbikdahgjaaDoorRows
import GoSem.ClaimSeven
namespace Go.Proofs.YtglenbikdahgjaaDoor
namespace Rows

/-- THE TIED CARD OF 'baileelaw25.ShelfRefuses'. -/
def shelfRefusesCard : Claim7 := { stood := { row := shelfRefusesRow, standIns := [], harness := (true, "5d2826401b24e410a85ff50de6e7b52e08e5d66a706459bf5fcc291fdc1ebde3"), looks := false }, kinds := [], alts := [], laidByText := true, laidKinds := [.sentinel, .sentinel, .sentinel, .sentinel, .sentinel, .data, .data], laidTests := true, laidLooks := .later }
def ShelfRefusesCardSaid : Prop := Claim7.holds Tryd.pinned (.plain (OpenSpec.ofChange shelfRefusesSpec)) shelfRefusesCard

/-- THE TIED CARD OF 'baileelaw25.ShelfHonest'. -/
def shelfHonestCard : Claim7 := { stood := { row := shelfHonestRow, standIns := [], harness := (true, "5d2826401b24e410a85ff50de6e7b52e08e5d66a706459bf5fcc291fdc1ebde3"), looks := false }, kinds := [], alts := [], laidByText := true, laidKinds := [.data, .data, .sentinel, .sentinel, .sentinel, .sentinel, .sentinel, .sentinel, .data, .data], laidTests := true, laidLooks := .later }
def ShelfHonestCardSaid : Prop := Claim7.holds Tryd.pinned (.plain (OpenSpec.ofChange shelfHonestSpec)) shelfHonestCard

/-- THE SECOND FORM's CARD OF 'baileelaw25.ShelfRefuses'. -/
def shelfRefusesUptoCard : Claim7 := { stood := { row := shelfRefusesUptoRow, standIns := [], harness := (true, "5d2826401b24e410a85ff50de6e7b52e08e5d66a706459bf5fcc291fdc1ebde3"), looks := false }, kinds := [], alts := [], laidByText := true, laidKinds := [.sentinel, .sentinel, .sentinel, .sentinel, .sentinel, .data, .data], laidTests := true, laidLooks := .later }
def ShelfRefusesUptoCardSaid : Prop := Claim7.holds Tryd.pinned (.plain (OpenSpec.upto shelfRefusesSpec)) shelfRefusesUptoCard

/-- THE SECOND FORM's CARD OF 'baileelaw25.ShelfHonest'. -/
def shelfHonestUptoCard : Claim7 := { stood := { row := shelfHonestUptoRow, standIns := [], harness := (true, "5d2826401b24e410a85ff50de6e7b52e08e5d66a706459bf5fcc291fdc1ebde3"), looks := false }, kinds := [], alts := [], laidByText := true, laidKinds := [.data, .data, .sentinel, .sentinel, .sentinel, .sentinel, .sentinel, .sentinel, .data, .data], laidTests := true, laidLooks := .later }
def ShelfHonestUptoCardSaid : Prop := Claim7.holds Tryd.pinned (.plain (OpenSpec.upto shelfHonestSpec)) shelfHonestUptoCard
end Rows
end Go.Proofs.YtglenbikdahgjaaDoor

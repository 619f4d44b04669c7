/-
  DERIVED. GIVEN WITH THE SEED: THE CARDS: each row of YtmmolapkddbibaaDoorRows.lean that lists a variable, with what it lists TIED to the program's text (the seventh form; the later family's looks); each row that meets fmt, with fmt's text TOLD by the authors' own Lean function (tested against real Go, not proved from fmt's source: count such statements apart). THE CARD IS WHAT COUNTS. Prove the row's statement (the work); the ties are given (YtmmolapkddbibaaDoorTie.lean); close each card by the builder's one call (the guide's Derived/Test/ToyasCard.lean, 'card_holds'). Laid BY PROGRAM, IN A SANDBOX (cutbox-door.mjs). By AI agents, Wed Nov 11 2026. No macro, syntax, notation, axiom, sorry.
-/
import Derived.Test.YtmmolapkddbibaaDoorRows
import GoSem.ClaimSeven
namespace Go.Proofs.YtmmolapkddbibaaDoor
namespace Rows

/-- THE TIED CARD OF 'baileelaw29.FoeBends'. -/
def foeBendsCard : Claim7 := { stood := { row := foeBendsRow, standIns := [], harness := (true, "2ba18eb1f35c11cc0b41212184d98adad1c5da1a308e31c898815f3e22e5d9fb"), looks := true }, kinds := [], alts := [], laidByText := true, laidKinds := [.data], laidTests := true, laidLooks := .later }
def FoeBendsCardSaid : Prop := Claim7.holds Tryd.pinned (.plain (OpenSpec.ofChange foeBendsSpec)) foeBendsCard

/-- THE TIED CARD OF 'baileelaw22.LetterSame'. -/
def letterSameCard : Claim7 := { stood := { row := letterSameRow, standIns := [], harness := (true, "2ba18eb1f35c11cc0b41212184d98adad1c5da1a308e31c898815f3e22e5d9fb"), looks := true }, kinds := [], alts := [], laidByText := true, laidKinds := [.sentinel, .sentinel, .sentinel, .sentinel, .sentinel, .data], laidTests := true, laidLooks := .later }
def LetterSameCardSaid : Prop := Claim7.holds Tryd.pinned (.plain (OpenSpec.ofChange letterSameSpec)) letterSameCard

/-- THE TIED CARD OF 'baileelaw22.LetterBytes'. -/
def letterBytesCard : Claim7 := { stood := { row := letterBytesRow, standIns := [], harness := (true, "2ba18eb1f35c11cc0b41212184d98adad1c5da1a308e31c898815f3e22e5d9fb"), looks := true }, kinds := [], alts := [], laidByText := true, laidKinds := [.sentinel, .sentinel, .sentinel, .sentinel, .sentinel, .sentinel, .sentinel, .sentinel, .sentinel, .sentinel, .sentinel, .sentinel, .sentinel, .sentinel, .sentinel, .sentinel, .sentinel, .sentinel, .sentinel, .sentinel], laidTests := true, laidLooks := .later }
def LetterBytesCardSaid : Prop := Claim7.holds Tryd.pinned (.plain (OpenSpec.ofChange letterBytesSpec)) letterBytesCard

/-- THE TIED CARD OF 'baileelaw22.LetterParses'. -/
def letterParsesCard : Claim7 := { stood := { row := letterParsesRow, standIns := [], harness := (true, "2ba18eb1f35c11cc0b41212184d98adad1c5da1a308e31c898815f3e22e5d9fb"), looks := true }, kinds := [], alts := [], laidByText := true, laidKinds := [.sentinel, .sentinel, .sentinel, .sentinel, .sentinel, .sentinel, .sentinel, .sentinel, .sentinel, .sentinel, .sentinel, .sentinel, .sentinel, .sentinel, .sentinel, .sentinel, .sentinel, .sentinel, .sentinel, .sentinel], laidTests := true, laidLooks := .later }
def LetterParsesCardSaid : Prop := Claim7.holds Tryd.pinned (.plain (OpenSpec.ofChange letterParsesSpec)) letterParsesCard

/-- THE SECOND FORM's CARD OF 'baileelaw29.FoeBends'. -/
def foeBendsUptoCard : Claim7 := { stood := { row := foeBendsUptoRow, standIns := [], harness := (true, "2ba18eb1f35c11cc0b41212184d98adad1c5da1a308e31c898815f3e22e5d9fb"), looks := true }, kinds := [], alts := [], laidByText := true, laidKinds := [.data], laidTests := true, laidLooks := .later }
def FoeBendsUptoCardSaid : Prop := Claim7.holds Tryd.pinned (.plain (OpenSpec.upto foeBendsSpec)) foeBendsUptoCard

/-- THE SECOND FORM's CARD OF 'baileelaw22.LetterSame'. -/
def letterSameUptoCard : Claim7 := { stood := { row := letterSameUptoRow, standIns := [], harness := (true, "2ba18eb1f35c11cc0b41212184d98adad1c5da1a308e31c898815f3e22e5d9fb"), looks := true }, kinds := [], alts := [], laidByText := true, laidKinds := [.sentinel, .sentinel, .sentinel, .sentinel, .sentinel, .data], laidTests := true, laidLooks := .later }
def LetterSameUptoCardSaid : Prop := Claim7.holds Tryd.pinned (.plain (OpenSpec.upto letterSameSpec)) letterSameUptoCard

/-- THE SECOND FORM's CARD OF 'baileelaw22.LetterBytes'. -/
def letterBytesUptoCard : Claim7 := { stood := { row := letterBytesUptoRow, standIns := [], harness := (true, "2ba18eb1f35c11cc0b41212184d98adad1c5da1a308e31c898815f3e22e5d9fb"), looks := true }, kinds := [], alts := [], laidByText := true, laidKinds := [.sentinel, .sentinel, .sentinel, .sentinel, .sentinel, .sentinel, .sentinel, .sentinel, .sentinel, .sentinel, .sentinel, .sentinel, .sentinel, .sentinel, .sentinel, .sentinel, .sentinel, .sentinel, .sentinel, .sentinel], laidTests := true, laidLooks := .later }
def LetterBytesUptoCardSaid : Prop := Claim7.holds Tryd.pinned (.plain (OpenSpec.upto letterBytesSpec)) letterBytesUptoCard

/-- THE SECOND FORM's CARD OF 'baileelaw22.LetterParses'. -/
def letterParsesUptoCard : Claim7 := { stood := { row := letterParsesUptoRow, standIns := [], harness := (true, "2ba18eb1f35c11cc0b41212184d98adad1c5da1a308e31c898815f3e22e5d9fb"), looks := true }, kinds := [], alts := [], laidByText := true, laidKinds := [.sentinel, .sentinel, .sentinel, .sentinel, .sentinel, .sentinel, .sentinel, .sentinel, .sentinel, .sentinel, .sentinel, .sentinel, .sentinel, .sentinel, .sentinel, .sentinel, .sentinel, .sentinel, .sentinel, .sentinel], laidTests := true, laidLooks := .later }
def LetterParsesUptoCardSaid : Prop := Claim7.holds Tryd.pinned (.plain (OpenSpec.upto letterParsesSpec)) letterParsesUptoCard
end Rows
end Go.Proofs.YtmmolapkddbibaaDoor

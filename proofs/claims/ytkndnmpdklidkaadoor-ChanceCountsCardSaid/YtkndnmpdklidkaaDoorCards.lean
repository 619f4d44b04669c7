/-
  DERIVED. GIVEN WITH THE SEED: THE CARDS: each row of YtkndnmpdklidkaaDoorRows.lean that lists a variable, with what it lists TIED to the program's text (the seventh form; the later family's looks); each row that meets fmt, with fmt's text TOLD by the authors' own Lean function (tested against real Go, not proved from fmt's source: count such statements apart). THE CARD IS WHAT COUNTS. Prove the row's statement (the work); the ties are given (YtkndnmpdklidkaaDoorTie.lean); close each card by the builder's one call (the guide's Derived/Test/ToyasCard.lean, 'card_holds'). Laid BY PROGRAM, IN A SANDBOX (cutbox-door.mjs). By AI agents, Wed Nov 11 2026. No macro, syntax, notation, axiom, sorry.
-/
import Derived.Test.YtkndnmpdklidkaaDoorRows
import GoSem.ClaimSeven
namespace Go.Proofs.YtkndnmpdklidkaaDoor
namespace Rows

/-- THE TIED CARD OF 'baileelaw37.ChanceVandermonde'. -/
def chanceVandermondeCard : Claim7 := { stood := { row := chanceVandermondeRow, standIns := [], harness := (true, "22c09e9dae304bd39bf98f463debc2478d0eb5dd857444293bbcd2ffd202da62"), looks := true }, kinds := [], alts := [], laidByText := true, laidKinds := [.data, .sentinel, .pinned], laidTests := true, laidLooks := .later }
def ChanceVandermondeCardSaid : Prop := Claim7.holds Tryd.pinned (.plain (OpenSpec.ofChange chanceVandermondeSpec)) chanceVandermondeCard

/-- THE TIED CARD OF 'baileelaw37.ChanceCounts'. -/
def chanceCountsCard : Claim7 := { stood := { row := chanceCountsRow, standIns := [], harness := (true, "22c09e9dae304bd39bf98f463debc2478d0eb5dd857444293bbcd2ffd202da62"), looks := true }, kinds := [], alts := [], laidByText := true, laidKinds := [.data, .sentinel, .pinned], laidTests := true, laidLooks := .later }
def ChanceCountsCardSaid : Prop := Claim7.holds Tryd.pinned (.plain (OpenSpec.ofChange chanceCountsSpec)) chanceCountsCard

/-- THE TIED CARD OF 'baileelaw37.ChancePascal'. -/
def chancePascalCard : Claim7 := { stood := { row := chancePascalRow, standIns := [], harness := (true, "22c09e9dae304bd39bf98f463debc2478d0eb5dd857444293bbcd2ffd202da62"), looks := true }, kinds := [], alts := [], laidByText := true, laidKinds := [.data, .sentinel, .sentinel, .sentinel, .sentinel, .sentinel, .sentinel, .sentinel, .sentinel, .sentinel, .sentinel, .sentinel, .sentinel, .sentinel, .sentinel, .sentinel, .sentinel, .sentinel, .sentinel, .sentinel, .sentinel, .pinned], laidTests := true, laidLooks := .later }
def ChancePascalCardSaid : Prop := Claim7.holds Tryd.pinned (.plain (OpenSpec.ofChange chancePascalSpec)) chancePascalCard

/-- THE TIED CARD OF 'baileelaw37.ChanceDoubles'. -/
def chanceDoublesCard : Claim7 := { stood := { row := chanceDoublesRow, standIns := [], harness := (true, "22c09e9dae304bd39bf98f463debc2478d0eb5dd857444293bbcd2ffd202da62"), looks := true }, kinds := [], alts := [], laidByText := true, laidKinds := [.data, .sentinel, .sentinel, .sentinel, .sentinel, .sentinel, .sentinel, .sentinel, .sentinel, .sentinel, .sentinel, .sentinel, .sentinel, .sentinel, .sentinel, .sentinel, .sentinel, .sentinel, .sentinel, .sentinel, .sentinel, .pinned], laidTests := true, laidLooks := .later }
def ChanceDoublesCardSaid : Prop := Claim7.holds Tryd.pinned (.plain (OpenSpec.ofChange chanceDoublesSpec)) chanceDoublesCard

/-- THE TIED CARD OF 'baileelaw37.ChanceMisses'. -/
def chanceMissesCard : Claim7 := { stood := { row := chanceMissesRow, standIns := [], harness := (true, "22c09e9dae304bd39bf98f463debc2478d0eb5dd857444293bbcd2ffd202da62"), looks := true }, kinds := [], alts := [], laidByText := true, laidKinds := [.data, .sentinel, .sentinel, .sentinel, .sentinel, .sentinel, .sentinel, .sentinel, .sentinel, .sentinel, .sentinel, .sentinel, .sentinel, .sentinel, .sentinel, .sentinel, .sentinel, .sentinel, .sentinel, .sentinel, .sentinel, .pinned], laidTests := true, laidLooks := .later }
def ChanceMissesCardSaid : Prop := Claim7.holds Tryd.pinned (.plain (OpenSpec.ofChange chanceMissesSpec)) chanceMissesCard

/-- THE TIED CARD OF 'baileelaw37.ChanceNumbers'. -/
def chanceNumbersCard : Claim7 := { stood := { row := chanceNumbersRow, standIns := [], harness := (true, "22c09e9dae304bd39bf98f463debc2478d0eb5dd857444293bbcd2ffd202da62"), looks := true }, kinds := [], alts := [], laidByText := true, laidKinds := [.data, .sentinel, .sentinel, .sentinel, .sentinel, .sentinel, .sentinel, .sentinel, .sentinel, .sentinel, .sentinel, .sentinel, .sentinel, .sentinel, .sentinel, .sentinel, .sentinel, .sentinel, .sentinel, .sentinel, .sentinel, .pinned], laidTests := true, laidLooks := .later }
def ChanceNumbersCardSaid : Prop := Claim7.holds Tryd.pinned (.plain (OpenSpec.ofChange chanceNumbersSpec)) chanceNumbersCard

/-- THE TIED CARD OF 'baileelaw37.ChanceOdds'. -/
def chanceOddsCard : Claim7 := { stood := { row := chanceOddsRow, standIns := [], harness := (true, "22c09e9dae304bd39bf98f463debc2478d0eb5dd857444293bbcd2ffd202da62"), looks := true }, kinds := [], alts := [], laidByText := true, laidKinds := [.data, .sentinel, .sentinel, .sentinel, .sentinel, .sentinel, .sentinel, .sentinel, .sentinel, .sentinel, .sentinel, .sentinel, .sentinel, .sentinel, .sentinel, .sentinel, .sentinel, .sentinel, .sentinel, .sentinel, .sentinel, .pinned], laidTests := true, laidLooks := .later }
def ChanceOddsCardSaid : Prop := Claim7.holds Tryd.pinned (.plain (OpenSpec.ofChange chanceOddsSpec)) chanceOddsCard

/-- THE TIED CARD OF 'baileelaw37.ChanceRounds'. -/
def chanceRoundsCard : Claim7 := { stood := { row := chanceRoundsRow, standIns := [], harness := (true, "22c09e9dae304bd39bf98f463debc2478d0eb5dd857444293bbcd2ffd202da62"), looks := true }, kinds := [], alts := [], laidByText := true, laidKinds := [.data, .sentinel, .sentinel, .sentinel, .sentinel, .sentinel, .sentinel, .sentinel, .sentinel, .sentinel, .sentinel, .sentinel, .sentinel, .sentinel, .sentinel, .sentinel, .sentinel, .sentinel, .sentinel, .sentinel, .sentinel, .pinned], laidTests := true, laidLooks := .later }
def ChanceRoundsCardSaid : Prop := Claim7.holds Tryd.pinned (.plain (OpenSpec.ofChange chanceRoundsSpec)) chanceRoundsCard

/-- THE SECOND FORM's CARD OF 'baileelaw37.ChanceVandermonde'. -/
def chanceVandermondeUptoCard : Claim7 := { stood := { row := chanceVandermondeUptoRow, standIns := [], harness := (true, "22c09e9dae304bd39bf98f463debc2478d0eb5dd857444293bbcd2ffd202da62"), looks := true }, kinds := [], alts := [], laidByText := true, laidKinds := [.data, .sentinel, .pinned], laidTests := true, laidLooks := .later }
def ChanceVandermondeUptoCardSaid : Prop := Claim7.holds Tryd.pinned (.plain (OpenSpec.upto chanceVandermondeSpec)) chanceVandermondeUptoCard

/-- THE SECOND FORM's CARD OF 'baileelaw37.ChanceCounts'. -/
def chanceCountsUptoCard : Claim7 := { stood := { row := chanceCountsUptoRow, standIns := [], harness := (true, "22c09e9dae304bd39bf98f463debc2478d0eb5dd857444293bbcd2ffd202da62"), looks := true }, kinds := [], alts := [], laidByText := true, laidKinds := [.data, .sentinel, .pinned], laidTests := true, laidLooks := .later }
def ChanceCountsUptoCardSaid : Prop := Claim7.holds Tryd.pinned (.plain (OpenSpec.upto chanceCountsSpec)) chanceCountsUptoCard

/-- THE SECOND FORM's CARD OF 'baileelaw37.ChancePascal'. -/
def chancePascalUptoCard : Claim7 := { stood := { row := chancePascalUptoRow, standIns := [], harness := (true, "22c09e9dae304bd39bf98f463debc2478d0eb5dd857444293bbcd2ffd202da62"), looks := true }, kinds := [], alts := [], laidByText := true, laidKinds := [.data, .sentinel, .sentinel, .sentinel, .sentinel, .sentinel, .sentinel, .sentinel, .sentinel, .sentinel, .sentinel, .sentinel, .sentinel, .sentinel, .sentinel, .sentinel, .sentinel, .sentinel, .sentinel, .sentinel, .sentinel, .pinned], laidTests := true, laidLooks := .later }
def ChancePascalUptoCardSaid : Prop := Claim7.holds Tryd.pinned (.plain (OpenSpec.upto chancePascalSpec)) chancePascalUptoCard

/-- THE SECOND FORM's CARD OF 'baileelaw37.ChanceDoubles'. -/
def chanceDoublesUptoCard : Claim7 := { stood := { row := chanceDoublesUptoRow, standIns := [], harness := (true, "22c09e9dae304bd39bf98f463debc2478d0eb5dd857444293bbcd2ffd202da62"), looks := true }, kinds := [], alts := [], laidByText := true, laidKinds := [.data, .sentinel, .sentinel, .sentinel, .sentinel, .sentinel, .sentinel, .sentinel, .sentinel, .sentinel, .sentinel, .sentinel, .sentinel, .sentinel, .sentinel, .sentinel, .sentinel, .sentinel, .sentinel, .sentinel, .sentinel, .pinned], laidTests := true, laidLooks := .later }
def ChanceDoublesUptoCardSaid : Prop := Claim7.holds Tryd.pinned (.plain (OpenSpec.upto chanceDoublesSpec)) chanceDoublesUptoCard

/-- THE SECOND FORM's CARD OF 'baileelaw37.ChanceMisses'. -/
def chanceMissesUptoCard : Claim7 := { stood := { row := chanceMissesUptoRow, standIns := [], harness := (true, "22c09e9dae304bd39bf98f463debc2478d0eb5dd857444293bbcd2ffd202da62"), looks := true }, kinds := [], alts := [], laidByText := true, laidKinds := [.data, .sentinel, .sentinel, .sentinel, .sentinel, .sentinel, .sentinel, .sentinel, .sentinel, .sentinel, .sentinel, .sentinel, .sentinel, .sentinel, .sentinel, .sentinel, .sentinel, .sentinel, .sentinel, .sentinel, .sentinel, .pinned], laidTests := true, laidLooks := .later }
def ChanceMissesUptoCardSaid : Prop := Claim7.holds Tryd.pinned (.plain (OpenSpec.upto chanceMissesSpec)) chanceMissesUptoCard

/-- THE SECOND FORM's CARD OF 'baileelaw37.ChanceNumbers'. -/
def chanceNumbersUptoCard : Claim7 := { stood := { row := chanceNumbersUptoRow, standIns := [], harness := (true, "22c09e9dae304bd39bf98f463debc2478d0eb5dd857444293bbcd2ffd202da62"), looks := true }, kinds := [], alts := [], laidByText := true, laidKinds := [.data, .sentinel, .sentinel, .sentinel, .sentinel, .sentinel, .sentinel, .sentinel, .sentinel, .sentinel, .sentinel, .sentinel, .sentinel, .sentinel, .sentinel, .sentinel, .sentinel, .sentinel, .sentinel, .sentinel, .sentinel, .pinned], laidTests := true, laidLooks := .later }
def ChanceNumbersUptoCardSaid : Prop := Claim7.holds Tryd.pinned (.plain (OpenSpec.upto chanceNumbersSpec)) chanceNumbersUptoCard

/-- THE SECOND FORM's CARD OF 'baileelaw37.ChanceOdds'. -/
def chanceOddsUptoCard : Claim7 := { stood := { row := chanceOddsUptoRow, standIns := [], harness := (true, "22c09e9dae304bd39bf98f463debc2478d0eb5dd857444293bbcd2ffd202da62"), looks := true }, kinds := [], alts := [], laidByText := true, laidKinds := [.data, .sentinel, .sentinel, .sentinel, .sentinel, .sentinel, .sentinel, .sentinel, .sentinel, .sentinel, .sentinel, .sentinel, .sentinel, .sentinel, .sentinel, .sentinel, .sentinel, .sentinel, .sentinel, .sentinel, .sentinel, .pinned], laidTests := true, laidLooks := .later }
def ChanceOddsUptoCardSaid : Prop := Claim7.holds Tryd.pinned (.plain (OpenSpec.upto chanceOddsSpec)) chanceOddsUptoCard

/-- THE SECOND FORM's CARD OF 'baileelaw37.ChanceRounds'. -/
def chanceRoundsUptoCard : Claim7 := { stood := { row := chanceRoundsUptoRow, standIns := [], harness := (true, "22c09e9dae304bd39bf98f463debc2478d0eb5dd857444293bbcd2ffd202da62"), looks := true }, kinds := [], alts := [], laidByText := true, laidKinds := [.data, .sentinel, .sentinel, .sentinel, .sentinel, .sentinel, .sentinel, .sentinel, .sentinel, .sentinel, .sentinel, .sentinel, .sentinel, .sentinel, .sentinel, .sentinel, .sentinel, .sentinel, .sentinel, .sentinel, .sentinel, .pinned], laidTests := true, laidLooks := .later }
def ChanceRoundsUptoCardSaid : Prop := Claim7.holds Tryd.pinned (.plain (OpenSpec.upto chanceRoundsSpec)) chanceRoundsUptoCard
end Rows
end Go.Proofs.YtkndnmpdklidkaaDoor

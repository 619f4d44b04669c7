/- Closed facts of the program that every row of the seat asks. -/
import Derived.Test.YtmmolapkddbibaaDoorRows
import Derived.Test.YtmmolapkddbibaaDoorCards
import Derived.Test.YtmmolapkddbibaaDoorChecked
import Derived.Test.YtmmolapkddbibaaDoorOpn0
import Derived.JoinedOf
import Derived.SevenTiedAt
namespace Go.Proofs.YtmmolapkddbibaaDoor
open Go Go.ChangeShapes Go.WideShapes Go.ChangeAt Go.RowKit
namespace SeatF
theorem ai {a b : Bool} (h : a = true) (k : b = true) : (a && b) = true := by rw [h, k]; rfl
theorem fact1 : (laidOutB Tryd.pinned.checked.prog) = true := by kernel_rfl
theorem fact2 : (mapsRowed Tryd.pinned.checked.prog) = true := by kernel_rfl
theorem fact6 : ((Tryd.pinned.checked.prog.stops == [])) = true := by kernel_rfl
theorem fact8 : ((Tryd.pinned.checked.prog.stopKnobs == [])) = true := by kernel_rfl
theorem fact24 : (Tryd.pinned.checked.prog.stopsHeard) = true := by kernel_rfl
theorem fact25 : (Tryd.pinned.checked.prog.mayEnter) = true := by kernel_rfl
theorem c_main : Tryd.pinned.checked.prog.mainIs = some (Rows.letterSameCard.stood.harness.1, Rows.letterSameCard.stood.harness.2.toList) := by kernel_rfl
theorem c_looks : true = Tryd.pinned.checked.prog.looks [] := by kernel_rfl
end SeatF
end Go.Proofs.YtmmolapkddbibaaDoor

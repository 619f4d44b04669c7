/- Closed facts of the program that every row of the seat asks. -/
import Derived.Test.YtglenbikdahgjaaDoorRows
import Derived.Test.YtglenbikdahgjaaDoorCards
import Derived.Test.YtglenbikdahgjaaDoorChecked
import Derived.Test.YtglenbikdahgjaaDoorOpn0
import Derived.JoinedOf
import Derived.SevenTiedAt
namespace Go.Proofs.YtglenbikdahgjaaDoor
open Go Go.ChangeShapes Go.WideShapes Go.ChangeAt Go.RowKit
namespace SeatF
theorem ai {a b : Bool} (h : a = true) (k : b = true) : (a && b) = true := by rw [h, k]; rfl
theorem fact1 : (laidOutB Tryd.pinned.checked.prog) = true := by kernel_rfl
theorem fact2 : (mapsRowed Tryd.pinned.checked.prog) = true := by kernel_rfl
theorem fact6 : ((Tryd.pinned.checked.prog.stops == [])) = true := by kernel_rfl
theorem fact8 : ((Tryd.pinned.checked.prog.stopKnobs == [])) = true := by kernel_rfl
theorem fact24 : (Tryd.pinned.checked.prog.stopsHeard) = true := by kernel_rfl
theorem fact25 : (Tryd.pinned.checked.prog.mayEnter) = true := by kernel_rfl
theorem c_main : Tryd.pinned.checked.prog.mainIs = some (Rows.shelfRefusesCard.stood.harness.1, Rows.shelfRefusesCard.stood.harness.2.toList) := by kernel_rfl
theorem c_looks : false = Tryd.pinned.checked.prog.looks [] := by kernel_rfl
end SeatF
end Go.Proofs.YtglenbikdahgjaaDoor

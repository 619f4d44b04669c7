/- Closed facts of the program that every row of the seat asks. -/
import Derived.JoinedOf
import Derived.SevenTiedAt
import Derived.Test.YtglenbikdahgjaaGreatDoorCards
import Derived.Test.YtglenbikdahgjaaGreatDoorPs02
set_option maxRecDepth 100000
set_option maxHeartbeats 16000000
namespace Go.Proofs.YtglenbikdahgjaaGreatDoor
open Go.Proofs.Bl
open Go Go.ChangeShapes Go.WideShapes Go.ChangeAt Go.RowKit
namespace SeatF
theorem ai {a b:Bool} (h:a=true) (k:b=true):(a&&b)=true:=by rw[h,k];rfl
theorem fact1:(laidOutB Tryz.pinned.checked.prog)=true:=by kernel_rfl
theorem fact2:(mapsRowed Tryz.pinned.checked.prog)=true:=by kernel_rfl
theorem fact6:((Tryz.pinned.checked.prog.stops==[]))=true:=by kernel_rfl
theorem fact8:((Tryz.pinned.checked.prog.stopKnobs==[]))=true:=by kernel_rfl
theorem fact24:(Tryz.pinned.checked.prog.stopsHeard)=true:=by kernel_rfl
theorem fact25:(Tryz.pinned.checked.prog.mayEnter)=true:=by kernel_rfl
theorem c_main:Tryz.pinned.checked.prog.mainIs=some (Rows.foeAnswersCard.stood.harness.1,Rows.foeAnswersCard.stood.harness.2.toList):=by kernel_rfl
theorem c_looks:false=Tryz.pinned.checked.prog.looks []:=by kernel_rfl
end SeatF
end Go.Proofs.YtglenbikdahgjaaGreatDoor

/- Texts that stood apart, in one: OpenR, OpenE. -/
import Derived.ChangeMaps5
import Derived.JoinedOf
import Derived.SevenTiedAt
import Derived.Test.YtglenbikdahgjaaGreatDoorPk04
import Derived.Test.YtglenbikdahgjaaGreatDoorPk08
import Derived.Test.YtglenbikdahgjaaGreatDoorPk09
import Derived.Test.YtglenbikdahgjaaGreatDoorRows
import Derived.Test.YtglenbikdahgjaaGreatDoorPk02
import Derived.Test.YtglenbikdahgjaaGreatDoorCards
import Derived.Test.YtglenbikdahgjaaGreatDoorChecked
set_option maxRecDepth 100000
set_option maxHeartbeats 16000000
namespace Go.Proofs.YtglenbikdahgjaaGreatDoor
open Go Go.ChangeShapes Go.WideShapes Go.ChangeAt Go.RowKit Go.Proofs.Bl
theorem globS_of {L:List (String × DataW Unit)} {w:World} (h:laidMetH Tryz.prog L w)
  (h1:(L.filter fun x=>x.1== "bailee/sha.added")=[("bailee/sha.added",Lib.tabData .u32 kt)]) (h2:(L.filter fun x=>x.1== "bailee/sha.first")=[("bailee/sha.first",Lib.tabData .u32 iv)]):Glob w:=
 ⟨laid_cell h h1 (by kernel_rfl) (t:=189) (by kernel_rfl) Tryz.underlying189 Tryz.underlying187 (by kernel_rfl) (by kernel_rfl),
  laid_cell h h2 (by kernel_rfl) (t:=205) (by kernel_rfl) Tryz.underlying205 Tryz.underlying187 (by kernel_rfl) (by kernel_rfl)⟩
theorem glob_of {L:List (String × DataW Unit)} {w:World} (h:laidMetH Tryz.prog L w)
  (h1:(L.filter fun x=>x.1== "bailee/sha.added")=[("bailee/sha.added",Lib.tabData .u32 kt)]) (h2:(L.filter fun x=>x.1== "bailee/sha.first")=[("bailee/sha.first",Lib.tabData .u32 iv)])
  (h3:(L.filter fun x=>x.1== "bailee/baileeref07.added")=[("bailee/baileeref07.added",Lib.tabData .u32 kt)]) (h4:(L.filter fun x=>x.1== "bailee/baileeref07.begins")=[("bailee/baileeref07.begins",Lib.tabData .u32 iv)]):GlobR w:=
 ⟨globS_of h h1 h2,
  laid_cell h h3 (by kernel_rfl) (t:=189) (by kernel_rfl) Tryz.underlying189 Tryz.underlying187 (by kernel_rfl) (by kernel_rfl),
  laid_cell h h4 (by kernel_rfl) (t:=188) (by kernel_rfl) Tryz.underlying188 Tryz.underlying187 (by kernel_rfl) (by kernel_rfl)⟩
end Go.Proofs.YtglenbikdahgjaaGreatDoor
namespace Go.Proofs.Bl
open Go Go.ChangeShapes Go.WideShapes Go.ChangeAt Go.RowKit
def tx:DataW Unit->List UInt8
 | .iface _ (.ptr (.agg [.lit (.string t)]))=>t
 | _=>[]
end Go.Proofs.Bl
namespace Go.Proofs.YtglenbikdahgjaaGreatDoor
open Go Go.ChangeShapes Go.WideShapes Go.ChangeAt Go.RowKit Go.Proofs.Bl
namespace SeatF
theorem ai {a b:Bool} (h:a=true) (k:b=true):(a&&b)=true:=by rw [h,k];rfl
theorem fact1:(laidOutB Tryz.pinned.checked.prog)=true:=by kernel_rfl
theorem fact2:(mapsRowed Tryz.pinned.checked.prog)=true:=by kernel_rfl
theorem fact6:((Tryz.pinned.checked.prog.stops==[]))=true:=by kernel_rfl
theorem fact8:((Tryz.pinned.checked.prog.stopKnobs==[]))=true:=by kernel_rfl
theorem fact24:(Tryz.pinned.checked.prog.stopsHeard)=true:=by kernel_rfl
theorem fact25:(Tryz.pinned.checked.prog.mayEnter)=true:=by kernel_rfl
theorem c_main:Tryz.pinned.checked.prog.mainIs=some (Rows.foeAnswersCard.stood.harness.1,Rows.foeAnswersCard.stood.harness.2.toList):=by kernel_rfl
theorem c_looks:false=Tryz.pinned.checked.prog.looks []:=by kernel_rfl
end SeatF
end Go.Proofs.YtglenbikdahgjaaGreatDoor

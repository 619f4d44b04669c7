/- Texts that stood apart, in one: OpenR, OpenE. -/
import Derived.Test.YtglenbikdahgjaaDoorOpn1
import Derived.Test.YtglenbikdahgjaaDoorShaB
import Derived.Test.YtglenbikdahgjaaDoorWt0
import Derived.Test.YtglenbikdahgjaaDoorRows
import Derived.ChangeMaps5
import Derived.Test.YtglenbikdahgjaaDoorOpn0
import Derived.Test.YtglenbikdahgjaaDoorBA1
/- Lists of bytes' lists that came in, as our reading; the digest's tables out of what is laid. -/
namespace Go.Proofs.YtglenbikdahgjaaDoor
open Go Go.ChangeShapes Go.WideShapes Go.ChangeAt Go.RowKit
/-- the tables of package sha, out of what is laid: 'h1', 'h2': each stands once in the row's list -/
theorem globS_of {L : List (String × DataW Unit)} {w : World} (h : laidMetH Tryd.prog L w)
    (h1 : (L.filter fun x => x.1 == "bailee/sha.added") = [("bailee/sha.added", Lib.tabData .u32 Bl.kt)]) (h2 : (L.filter fun x => x.1 == "bailee/sha.first") = [("bailee/sha.first", Lib.tabData .u32 Bl.iv)]) : Glob w :=
  ⟨Bl.laid_cell h h1 (by kernel_rfl) (t := 108) (by kernel_rfl) Tryd.underlying108 Tryd.underlying106 (by kernel_rfl) (by kernel_rfl),
   Bl.laid_cell h h2 (by kernel_rfl) (t := 122) (by kernel_rfl) Tryd.underlying122 Tryd.underlying106 (by kernel_rfl) (by kernel_rfl)⟩
/-- the four tables -/
theorem glob_of {L : List (String × DataW Unit)} {w : World} (h : laidMetH Tryd.prog L w)
    (h1 : (L.filter fun x => x.1 == "bailee/sha.added") = [("bailee/sha.added", Lib.tabData .u32 Bl.kt)]) (h2 : (L.filter fun x => x.1 == "bailee/sha.first") = [("bailee/sha.first", Lib.tabData .u32 Bl.iv)])
    (h3 : (L.filter fun x => x.1 == "bailee/baileeref07.added") = [("bailee/baileeref07.added", Lib.tabData .u32 Bl.kt)]) (h4 : (L.filter fun x => x.1 == "bailee/baileeref07.begins") = [("bailee/baileeref07.begins", Lib.tabData .u32 Bl.iv)]) : GlobR w :=
  ⟨globS_of h h1 h2,
   Bl.laid_cell h h3 (by kernel_rfl) (t := 108) (by kernel_rfl) Tryd.underlying108 Tryd.underlying106 (by kernel_rfl) (by kernel_rfl),
   Bl.laid_cell h h4 (by kernel_rfl) (t := 107) (by kernel_rfl) Tryd.underlying107 Tryd.underlying106 (by kernel_rfl) (by kernel_rfl)⟩
end Go.Proofs.YtglenbikdahgjaaDoor

/- Texts that came in; the sentinels' texts out of what is laid. -/
namespace Go.Proofs.Bl
open Go Go.ChangeShapes Go.WideShapes Go.ChangeAt Go.RowKit
/-- a sentinel's text -/
def tx : DataW Unit → List UInt8
  | .iface _ (.ptr (.agg [.lit (.string t)])) => t
  | _ => []
end Go.Proofs.Bl

/- Texts that came in; the sentinels' texts out of what is laid. -/
import Derived.ChangeMaps5
import Derived.Test.YtmmolapkddbibaaDoorOpn0
import Derived.Test.YtmmolapkddbibaaDoorErrs
import Derived.Test.YtmmolapkddbibaaDoorRows
namespace Go.Proofs.Bl
open Go Go.ChangeShapes Go.WideShapes Go.ChangeAt Go.RowKit
/-- a sentinel's text -/
def tx : DataW Unit → List UInt8
  | .iface _ (.ptr (.agg [.lit (.string t)])) => t
  | _ => []
end Go.Proofs.Bl

/- Texts that came in; the sentinels' texts out of what is laid. -/
import Derived.ChangeMaps5
import Derived.Test.YtmfooocdnoflaaaDoorOpn0
import Derived.Test.YtmfooocdnoflaaaDoorErrs
import Derived.Test.YtmfooocdnoflaaaDoorRows
namespace Go.Proofs.Bl
open Go Go.ChangeShapes Go.WideShapes Go.ChangeAt Go.RowKit
/-- a sentinel's text -/
def tx : DataW Unit → List UInt8
  | .iface _ (.ptr (.agg [.lit (.string t)])) => t
  | _ => []
end Go.Proofs.Bl

/- Walk of tree.Depth. -/
import Derived.Test.YtmfooocdnoflaaaDoorBA1
namespace Go.Proofs.YtmfooocdnoflaaaDoor
open Go.RowKit Go.Proofs

end Go.Proofs.YtmfooocdnoflaaaDoor

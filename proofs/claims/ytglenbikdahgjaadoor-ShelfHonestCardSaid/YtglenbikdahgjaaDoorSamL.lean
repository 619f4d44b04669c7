/- Walk of baileenum.SameLists. -/
import Derived.Test.YtglenbikdahgjaaDoorShaR
import Derived.Test.YtglenbikdahgjaaDoorLib0
namespace Go.Proofs.YtglenbikdahgjaaDoor
open Go.RowKit Go.Proofs

end Go.Proofs.YtglenbikdahgjaaDoor

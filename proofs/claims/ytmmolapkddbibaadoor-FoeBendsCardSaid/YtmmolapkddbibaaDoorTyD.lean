/- The forms of slices of digests over this seat. -/
import Derived.Test.YtmmolapkddbibaaDoorLib0
import Derived.Test.YtmmolapkddbibaaDoorChecked
namespace Go.Proofs.YtmmolapkddbibaaDoor
open Go Go.RowKit Go.Proofs
theorem tDig : Bl.SlT Tryd.prog 63 70 (.agg #[.int .u8 0, .int .u8 0, .int .u8 0, .int .u8 0, .int .u8 0, .int .u8 0, .int .u8 0, .int .u8 0, .int .u8 0, .int .u8 0, .int .u8 0, .int .u8 0, .int .u8 0, .int .u8 0, .int .u8 0, .int .u8 0, .int .u8 0, .int .u8 0, .int .u8 0, .int .u8 0, .int .u8 0, .int .u8 0, .int .u8 0, .int .u8 0, .int .u8 0, .int .u8 0, .int .u8 0, .int .u8 0, .int .u8 0, .int .u8 0, .int .u8 0, .int .u8 0]) 32 32 := ⟨Tryd.underlying63, by kernel_rfl, rfl, by decide⟩
theorem tArr : Bl.SlT Tryd.prog 66 69 (.agg #[.int .u8 0, .int .u8 0, .int .u8 0, .int .u8 0, .int .u8 0, .int .u8 0, .int .u8 0, .int .u8 0, .int .u8 0, .int .u8 0, .int .u8 0, .int .u8 0, .int .u8 0, .int .u8 0, .int .u8 0, .int .u8 0, .int .u8 0, .int .u8 0, .int .u8 0, .int .u8 0, .int .u8 0, .int .u8 0, .int .u8 0, .int .u8 0, .int .u8 0, .int .u8 0, .int .u8 0, .int .u8 0, .int .u8 0, .int .u8 0, .int .u8 0, .int .u8 0]) 32 32 := ⟨Tryd.underlying66, by kernel_rfl, rfl, by decide⟩
end Go.Proofs.YtmmolapkddbibaaDoor

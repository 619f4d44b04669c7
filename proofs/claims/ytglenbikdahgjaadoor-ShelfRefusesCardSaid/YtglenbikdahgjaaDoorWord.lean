/- The kinds' words: the table, and the walk of letter.Word. -/
import Derived.Test.YtglenbikdahgjaaDoorChecked
import Derived.Test.YtglenbikdahgjaaDoorLet0
namespace Go.Proofs.YtglenbikdahgjaaDoor
open Go Go.RowKit Go.Proofs
def lwords : List (List UInt8) := [[], [112, 117, 116], [97, 99, 107], [97, 115, 107], [97, 110, 115, 119, 101, 114], [102, 101, 116, 99, 104], [103, 105, 118, 101], [114, 101, 102, 117, 115, 101]]
/-- a kind's word -/
def lword (k : Int) : ByteArray := if 1 ≤ k ∧ k ≤ 7 then ⟨(lwords.getD k.toNat []).toArray⟩ else ⟨#[]⟩
end Go.Proofs.YtglenbikdahgjaaDoor

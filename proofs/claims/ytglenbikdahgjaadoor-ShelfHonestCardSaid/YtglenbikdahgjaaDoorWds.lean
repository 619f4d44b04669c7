/- Texts that stood apart, in one: Word, FoeW. -/
import Derived.Test.YtglenbikdahgjaaDoorChecked
import Derived.Test.YtglenbikdahgjaaDoorLet0
/- The kinds' words: the table, and the walk of letter.Word. -/
namespace Go.Proofs.YtglenbikdahgjaaDoor
open Go Go.RowKit Go.Proofs
def lwords : List (List UInt8) := [[], [112, 117, 116], [97, 99, 107], [97, 115, 107], [97, 110, 115, 119, 101, 114], [102, 101, 116, 99, 104], [103, 105, 118, 101], [114, 101, 102, 117, 115, 101]]
/-- a kind's word -/
def lword (k : Int) : ByteArray := if 1 ≤ k ∧ k ≤ 7 then ⟨(lwords.getD k.toNat []).toArray⟩ else ⟨#[]⟩
end Go.Proofs.YtglenbikdahgjaaDoor

/- The tricks' words: the table, and the walks of foe.Word and foe.Honest. -/
namespace Go.Proofs.YtglenbikdahgjaaDoor
open Go Go.RowKit Go.Proofs
def fwords : List (List UInt8) := [[110, 111, 110, 101], [98, 108, 111, 99, 107], [112, 97, 116, 104], [115, 119, 97, 112], [99, 117, 116], [112, 108, 97, 99, 101], [114, 101, 102, 117, 115, 101], [105, 100], [111, 98, 106, 101, 99, 116], [115, 105, 108, 101, 110, 99, 101]]
/-- a trick's word -/
def fword (k : Int) : ByteArray := if 0 ≤ k ∧ k ≤ 9 then ⟨(fwords.getD k.toNat []).toArray⟩ else ⟨#[]⟩
end Go.Proofs.YtglenbikdahgjaaDoor

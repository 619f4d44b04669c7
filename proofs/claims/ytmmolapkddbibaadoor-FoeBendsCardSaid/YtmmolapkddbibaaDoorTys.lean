/- The forms of slices over this seat, and new variables of numbers. -/
import Derived.Test.YtmmolapkddbibaaDoorLib0
import Derived.Test.YtmmolapkddbibaaDoorChecked
namespace Go.Proofs.YtmmolapkddbibaaDoor
open Go Go.RowKit Go.Proofs
theorem tBytes : Bl.SlT Tryd.prog 46 5 (.int .u8 0) 1 1 := ⟨Tryd.underlying46, by kernel_rfl, rfl, by decide⟩
theorem fam_alloc (w : World) (n : Nat) (k : IntKind) (t : TypeId) (cs : Array Value) (f : Nat → Int) (hcs : ∀ i, i < n → cs[i]? = some (.int k (f i))) : Bl.Fam (w.alloc (.cells cs t)) w.heap.size k n f :=
  ⟨fun i hi => by rw [World.cell?_alloc_new]; exact hcs i hi, fun i => by simp⟩
theorem fam_new (w : World) (n : Nat) (k : IntKind) (t : TypeId) (cs : Array Value) (hcs : cs.toList = List.replicate n (Value.int k 0)) : Bl.Fam (w.alloc (.cells cs t)) w.heap.size k n (fun _ => 0) := by
  refine ⟨fun i hi => ?_, fun i => by simp⟩
  rw [World.cell?_alloc_new]
  rw [← Array.getElem?_toList, hcs]
  simp [hi]
end Go.Proofs.YtmmolapkddbibaaDoor

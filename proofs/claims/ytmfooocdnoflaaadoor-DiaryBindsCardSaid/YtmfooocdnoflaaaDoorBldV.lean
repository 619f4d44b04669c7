/- A slice of one element that is built, whatever the element's cells. No program. -/
import Derived.Test.YtmfooocdnoflaaaDoorLib0
import Derived.Test.YtmfooocdnoflaaaDoorBA2
namespace Go.Proofs.Bl
open Go Go.RowKit
theorem fill_oneV (cells : Array Value) (v : Value) (n : Nat) (hc : cells.size = n) (hs : v.cells.size = n) : Instr.fill (fun i => some (i * n, n)) cells [(0, v)] = some v.cells := by
  have h := fill_one cells v.cells n hc hs
  simp only [Instr.fill, Value.cells] at h ⊢
  exact h
section
variable {P : Program} {R : World → World → Prop} {w : World} {ev : Nat → Value} {φ : Value → World → Prop} {d : Option Tmp} {tt t e : TypeId} {z : Value} {bytes n : Nat} {pp : String} {af : Array Edge} {g : Option (Nat × Bool)} {x : Operand}
theorem goodX_buildV (hT : SlT P t e z n bytes) (hn : n ≤ 1000) {v : Value} (hx : evalE ev x = v) (hs : v.cells.size = n) (hφ : R w (w.alloc (.cells v.cells e)) ∧ φ (.slice (some ⟨w.heap.size, 0, none⟩) 1 1) (w.alloc (.cells v.cells e))) :
    GoodX R P w φ ((execOp (evalE ev) ⟨d, .buildSlice t 1 #[(0, x)], tt, pp, af, g⟩).run P w) := by
  obtain ⟨i, hi, hz, hs1, hb1⟩ := info_parts hT.info
  have hp := hT.pos
  have h : (Instr.buildSlice t 1 #[(0, v)]).run P w = .ok (.slice (some ⟨w.heap.size, 0, none⟩) 1 1) (w.alloc (.cells v.cells e)) := by
    refine run_buildSlice w t e 1 #[(0, v)] v.cells i z hT.ht hi hz (by rw [hs1]; omega) (by rw [hs1]; omega) ?_
    rw [hs1]
    exact fill_oneV _ v n (by simp) hs
  unfold execOp
  simp only [hx, List.map_toArray, List.map_cons, List.map_nil, Sem.run_bind, Sem.run_pure, h, Result.andThen_ok]
  exact hφ
end
end Go.Proofs.Bl

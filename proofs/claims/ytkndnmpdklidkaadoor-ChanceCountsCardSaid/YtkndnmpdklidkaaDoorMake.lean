/- make of a row of numbers. No program. -/
import Derived.Test.YtkndnmpdklidkaaDoorBase2
import Derived.Laws.OwnMore
import Derived.Laws.MakeOwn
namespace Go.Proofs.Bl
open Go Go.RowKit
theorem madeCells_int (k : IntKind) (n : Nat) : (madeCells (Value.int k 0).cells (n * 1)).toList = ints k (List.replicate n 0) := by
  apply List.ext_getElem
  · simp [madeCells]
  · intro i h1 h2
    simp [madeCells, ints, Value.cells, show i % 1 = 0 from Nat.mod_one i]
theorem make_ints {P : Program} {t e : TypeId} {k : IntKind} {bytes : Nat} (hT : SlT P t e (.int k 0) 1 bytes) (n : Nat) (hb : bytes * n ≤ 281474976710656) (hm : n ≤ maxLen) (w : World) :
    ∃ w', (Instr.makeSlice t (.int .i64 (n : Int)) (.int .i64 (n : Int))).run P w = .ok (.slice (some ⟨w.heap.size, 0, none⟩) n n) w' ∧
      w'.ownsRow w.heap.size e 1 (.slice (some ⟨w.heap.size, 0, none⟩) n n) n (ints k (List.replicate n 0)) ∧ Ext w w' ∧ w.heap.size < w'.heap.size := by
  obtain ⟨i, hi, hz, hs1, hb1⟩ := info_parts hT.info
  have h63 : (n : Int) ≤ 9223372036854775807 := by unfold maxLen at hm; omega
  have hb' : (i.bytes : Int) * (n : Int) ≤ 281474976710656 := by
    rw [hb1]
    have h : ((bytes * n : Nat) : Int) ≤ 281474976710656 := by omega
    rwa [Int.natCast_mul] at h
  have hr := run_make (P := P) w t e i (.int k 0) hT.ht hi hz .i64 .i64 n n (by omega) (Int.le_refl _) hb' h63
  simp only [Int.toNat_natCast, hs1] at hr
  refine ⟨_, hr, ?_, ext_alloc _ _, by simp⟩
  have := owns_new w e (madeCells (Value.int k 0).cells (n * 1)) w.heap.size n 1 (Nat.le_refl _) hm (size_madeCells _ _)
  rwa [madeCells_int] at this
end Go.Proofs.Bl

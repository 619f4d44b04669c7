/- Digests are bytes; a literal's reading. No program. -/
import Derived.Test.YtmfooocdnoflaaaDoorShaB
import Derived.Lib.SlBytesConst
import Derived.Lib.SmallJoins
namespace Go.Proofs.Bl
open Go
theorem eat_byt : ∀ (s : St), Byt s.bytes := fun s x hx => by
  obtain ⟨i, hi, rfl⟩ := List.mem_iff_getElem.1 hx
  have h := s.bytes_get i hi
  rw [List.getD_eq_getElem?_getD, List.getElem?_eq_getElem hi] at h
  simp only [Option.getD_some] at h
  rw [h]; unfold St.byte; omega
theorem sha_byt (l : List Int) : Byt (sha l) := eat_byt _
/-- a constant's bytes: the row is marked behind its end -/
theorem rds_mark (w : World) (e : TypeId) (l : List Int) (fr : Nat × Nat) (hm : l.length ≤ maxLen) :
    Rds (w.alloc (.cells (ints .u8 l).toArray e fr)) (.slice (some ⟨w.heap.size, 0, none⟩) l.length l.length) l.length (ints .u8 l) := by
  refine .inr ⟨w.heap.size, 0, l.length, rfl, Nat.le_refl _, hm, fun j v hv => ?_⟩
  rw [Nat.zero_add, World.cell?_alloc_mark]
  simpa using hv
/-- one slice in a slice -/
theorem rdss_one {w : World} {v : Value} {l : List Int} (h : Rd w .u8 v l) (e : TypeId) : Rdss (w.alloc (.cells #[v] e)) (.slice (some ⟨w.heap.size, 0, none⟩) 1 1) [l] := by
  refine ⟨[v], .inr ⟨w.heap.size, 0, 1, rfl, Nat.le_refl _, show 1 ≤ maxLen from by decide, fun j u hu => ?_⟩, rfl, fun i hi => ?_⟩
  · rw [Nat.zero_add, World.cell?_alloc_new]; simpa using hu
  · have : i = 0 := by simpa using hi
    subst this
    exact h.ext (ext_alloc _ _)
end Go.Proofs.Bl

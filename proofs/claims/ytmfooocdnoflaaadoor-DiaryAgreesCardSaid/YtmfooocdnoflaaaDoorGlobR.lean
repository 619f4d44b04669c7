/- What the tables of package sha and of the reference hold. -/
import Derived.Test.YtmfooocdnoflaaaDoorShaA
namespace Go.Proofs.YtmfooocdnoflaaaDoor
open Go.RowKit Go.Proofs
/-- the tables of package sha and of the reference -/
structure GlobR (w : World) : Prop where
  s : Glob w
  radded : ∀ i, i < 64 → w.cell? ⟨21, i, none⟩ = some (.int .u32 (Bl.kt.getD i 0))
  rbegins : ∀ i, i < 8 → w.cell? ⟨20, i, none⟩ = some (.int .u32 (Bl.iv.getD i 0))
theorem GlobR.ext {w w' : World} (h : GlobR w) (hb : Bl.Ext w w') : GlobR w' := by
  have l3 := World.block_lt_of_cell? w _ (h.radded 0 (by decide))
  have l4 := World.block_lt_of_cell? w _ (h.rbegins 0 (by decide))
  exact ⟨h.s.ext hb, fun i hi => ((Bl.bcell hb).1 _ _ l3).trans (h.radded i hi), fun i hi => ((Bl.bcell hb).1 _ _ l4).trans (h.rbegins i hi)⟩
instance globR_coe (w : World) : Coe (GlobR w) (Glob w) := ⟨GlobR.s⟩
end Go.Proofs.YtmfooocdnoflaaaDoor

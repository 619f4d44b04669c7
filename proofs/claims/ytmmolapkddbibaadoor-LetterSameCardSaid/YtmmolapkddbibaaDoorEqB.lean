/- Walk of bytes.Equal. -/
import Derived.Test.YtmmolapkddbibaaDoorLib0
import Derived.Test.YtmmolapkddbibaaDoorShaP
import Derived.Test.YtmmolapkddbibaaDoorChecked
namespace Go.Proofs.YtmmolapkddbibaaDoor
open Go Go.RowKit Go.Proofs
theorem equalB_any (va vb : Value) (xs ys : List Int) (w : World) (hx : Bl.Rd w .u8 va xs) (hy : Bl.Rd w .u8 vb ys) (bx : Bl.Byt xs) (bY : Bl.Byt ys) :
    Calls Tryd.prog 40 #[va, vb] w fun e w' => e = .returned (.bool (decide (xs = ys))) ∧ w = w' := by
  have hc1 := Bl.conv_bytes (P := Tryd.prog) hx Tryd.underlying46 Tryd.underlying5 Tryd.underlying9
  have hc2 := Bl.conv_bytes (P := Tryd.prog) hy Tryd.underlying46 Tryd.underlying5 Tryd.underlying9
  have hq := Bl.bstr_beq bx bY
  have Hq : Hid (decide (Bl.bstr xs = Bl.bstr ys) = decide (xs = ys)) := Bl.hid (by rw [Bool.eq_iff_iff]; simp [Bl.bstr_eq_iff bx bY])
  clear hx hy bx bY
  go_enter Tryd.func40, Tryd.ntmps40
  go_wp2
  go_ret
  first
  | exact ⟨rfl, rfl⟩
  | exact ⟨by rw [← hq]; rfl, rfl⟩
  | exact ⟨by rw [← Hq.out]; rfl, rfl⟩
end Go.Proofs.YtmmolapkddbibaaDoor

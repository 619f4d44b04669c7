/- Walk of growth.counted. -/
import Derived.Test.YtmfooocdnoflaaaDoorWOver
import Derived.Test.YtmfooocdnoflaaaDoorZs
import Derived.Test.YtmfooocdnoflaaaDoorErrs
import Derived.Test.YtmfooocdnoflaaaDoorGroQ
import Derived.BigQuiet
namespace Go.Proofs.YtmfooocdnoflaaaDoor
open Go.RowKit Go.Proofs

theorem counted_any (m n : Int) (w : World) : Calls Tryd.prog 36 #[.int .i64 m, .int .i64 n] w fun e w' => e = .returned (.bool (Bl.thereG m n)) ∧ w = w' := by
  by_cases h1 : 1 ≤ m
  · by_cases h2 : m ≤ n
    · by_cases h3 : n ≤ 512
      · have H := Bl.hid (Bl.thereG_mk h1 h2 h3)
        go_enter Tryd.func36, Tryd.ntmps36
        go_wp2
        go_ret
        exact ⟨by rw [H.out]; rfl, rfl⟩
      · have H := Bl.hid (Bl.thereG_no (m := m) (n := n) (by omega))
        go_enter Tryd.func36, Tryd.ntmps36
        go_wp2
        go_ret
        exact ⟨by rw [H.out]; rfl, rfl⟩
    · have H := Bl.hid (Bl.thereG_no (m := m) (n := n) (by omega))
      go_enter Tryd.func36, Tryd.ntmps36
      go_wp2
      go_ret
      exact ⟨by rw [H.out]; rfl, rfl⟩
  · have H := Bl.hid (Bl.thereG_no (m := m) (n := n) (by omega))
    go_enter Tryd.func36, Tryd.ntmps36
    go_wp2
    go_ret
    exact ⟨by rw [H.out]; rfl, rfl⟩
end Go.Proofs.YtmfooocdnoflaaaDoor

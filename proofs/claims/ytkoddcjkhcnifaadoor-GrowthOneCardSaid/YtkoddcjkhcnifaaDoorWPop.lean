/- Walk of math/bits.OnesCount, of a number below 2^48. -/
import Derived.Test.YtkoddcjkhcnifaaDoorW12a
import Derived.Test.YtkoddcjkhcnifaaDoorPop
import Derived.Test.YtkoddcjkhcnifaaDoorLib0
namespace Go.Proofs.YtkoddcjkhcnifaaDoor
open Go.RowKit Go.Proofs

theorem ones64_any (n : Nat) (w : World) (h : n < 2 ^ 48) : Calls Tryd.prog 51 #[.int .u64 n] w fun e w' => e = .returned (.int .i64 (Bl.ones n)) ∧ w = w' := by
  go_enter Tryd.func51, Tryd.ntmps51
  go_wp2
  go_ret
  refine ⟨?_, rfl⟩
  have e1 := Bl.pst1 n h
  have e2 := Bl.pst2 n h
  have e3 := Bl.pst3 n h
  have e4 := (Bl.pst4 n h).1
  have e5 := (Bl.pst5 n h).1
  have e6 := (Bl.pst6 n h).1
  have e7 := Bl.pst7 n h
  have h6 := (Bl.pst6 n h).2
  have e8 : wrap64 ((Bl.q6 n : Nat) : Int) = ((Bl.q6 n : Nat) : Int) := IntWalk.wrap64_in _ ⟨by omega, by omega⟩
  simp only [e1, e2, e3, e4, e5, e6, e8, e7]
  rfl

theorem ones_any (n : Nat) (w : World) (h : n < 2 ^ 48) : Calls Tryd.prog 33 #[.int .u64 n] w fun e w' => e = .returned (.int .i64 (Bl.ones n)) ∧ w = w' := by
  have H := Bl.hid (fun w => ones64_any n w h)
  clear h
  go_enter Tryd.func33, Tryd.ntmps33
  go_wp2_with fail
  refine (H.out _).mono ?_
  rintro e w1 ⟨rfl, hw⟩
  subst hw
  go_wp2_with fail
  go_ret
  exact ⟨rfl, rfl⟩
end Go.Proofs.YtkoddcjkhcnifaaDoor

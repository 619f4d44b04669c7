/- Walk of the law TreeHalves. -/
import Derived.Test.YtmfooocdnoflaaaDoorWl0
import Derived.Test.YtmfooocdnoflaaaDoorWNodes
import Derived.Test.YtmfooocdnoflaaaDoorWDepth
namespace Go.Proofs.Bl
theorem dp_pow (j : Nat) (h : j < 63) : dp (2 ^ j) = j := by
  cases j with
  | zero => exact dp_lo _ (by simp)
  | succ j =>
    have hp : 2 ^ (j + 1) = 2 * 2 ^ j := by rw [Nat.pow_succ]; omega
    have h1 := Nat.one_le_two_pow (n := j)
    have hlt : 2 ^ (j + 1) < 2 ^ 63 := Nat.pow_lt_pow_right (by decide) h
    obtain ⟨d1, d2, d3, d4⟩ := dp_bounds (2 ^ (j + 1)) (by omega) hlt
    have a := (Nat.pow_le_pow_iff_right (a := 2) (by decide)).1 d4
    have b := (Nat.pow_lt_pow_iff_right (a := 2) (by decide)).1 d3
    omega
theorem dp_sp (n : Nat) (h : 2 ≤ n) (hn : n ≤ 1048576) : dp n = 1 + dp (sp n) ∧ dp (sp n) ≤ 62 := by
  obtain ⟨d1, d2, d3, d4⟩ := dp_bounds n h (by omega)
  have hlt : 2 ^ (dp n - 1) < 2 ^ 63 := by omega
  have hd := (Nat.pow_lt_pow_iff_right (a := 2) (by decide)).1 hlt
  rw [sp_pow n (by omega), dp_pow _ hd]
  have : dp n ≠ 0 := fun q => by rw [q] at d4; simp at d4; omega
  omega
end Go.Proofs.Bl
namespace Go.Proofs.YtmfooocdnoflaaaDoor
open Go.RowKit Go.Proofs

end Go.Proofs.YtmfooocdnoflaaaDoor

/- A path is no longer than the tree is deep. No program. -/
import Derived.Test.YtjmkcenkjnoblaaDoorPla0
namespace Go.Proofs.Bl
theorem dp_mono {a b : Nat} (h : a ≤ b) (hb : b < 2 ^ 63) : dp a ≤ dp b := by
  by_cases ha : a < 2
  · rw [dp_lo a ha]; exact Nat.zero_le _
  · obtain ⟨_, _, a3, _⟩ := dp_bounds a (by omega) (by omega)
    obtain ⟨_, _, _, b4⟩ := dp_bounds b (by omega) hb
    have := (Nat.pow_lt_pow_iff_right (a := 2) (by decide)).1 (Nat.lt_of_lt_of_le (Nat.lt_of_lt_of_le a3 h) b4)
    omega
theorem dp_pow2 (j : Nat) (h : j < 63) : dp (2 ^ j) = j := by
  cases j with
  | zero => exact dp_lo _ (by simp)
  | succ j =>
    have hp : 2 ^ (j + 1) = 2 * 2 ^ j := by rw [Nat.pow_succ]; omega
    have h1 := Nat.one_le_two_pow (n := j)
    have hlt : 2 ^ (j + 1) < 2 ^ 63 := Nat.pow_lt_pow_right (by decide) h
    obtain ⟨d1, d2, d3, d4⟩ := dp_bounds (2 ^ (j + 1)) (by omega) hlt
    have a := (Nat.pow_le_pow_iff_right (a := 2) (by decide)).1 d4
    have b := (Nat.pow_lt_pow_iff_right (a := 2) (by decide)).1 d3
    omega
theorem turns_dp : ∀ (m n i : Nat), n ≤ m → n ≤ 1048576 → (turnsL n i).length ≤ dp n
  | 0, n, i, h, _ => by rw [turnsL_lo n i (by omega)]; exact Nat.zero_le _
  | m + 1, n, i, h, hn => by
    by_cases h2 : 2 ≤ n
    · obtain ⟨a, b, c⟩ := sp_bounds n h2 (by omega)
      obtain ⟨d1, d2, d3, d4⟩ := dp_bounds n h2 (by omega)
      have hlt : 2 ^ (dp n - 1) < 2 ^ 63 := by omega
      have hd := (Nat.pow_lt_pow_iff_right (a := 2) (by decide)).1 hlt
      have hs : dp (sp n) = dp n - 1 := by rw [sp_pow n (by omega), dp_pow2 _ hd]
      by_cases hi : i < sp n
      · rw [turnsL_left n i h2 (by omega) hi, List.length_cons]
        have := turns_dp m (sp n) i (by omega) (by omega)
        omega
      · rw [turnsL_right n i h2 (by omega) hi, List.length_cons]
        have := turns_dp m (n - sp n) (i - sp n) (by omega) (by omega)
        have := dp_mono (a := n - sp n) (b := sp n) (by omega) (by omega)
        omega
    · rw [turnsL_lo n i (by omega)]; exact Nat.zero_le _
end Go.Proofs.Bl

/- How many ones a number holds, plainly. -/
import Derived.Laws.BitsLemmas
namespace Go.Proofs.Bl
open Go
/-- the ones of a number -/
def onesN : Nat → Nat → Nat
  | 0, _ => 0
  | f + 1, n => n % 2 + onesN f (n / 2)
def ones (n : Nat) : Nat := onesN n n
theorem onesN_zero : ∀ f, onesN f 0 = 0
  | 0 => rfl
  | f + 1 => by simp only [onesN]; rw [Nat.zero_div, onesN_zero f]
theorem onesN_fuel : ∀ (f g n : Nat), n ≤ f → n ≤ g → onesN f n = onesN g n
  | 0, g, n, h, _ => by obtain rfl : n = 0 := by omega
                        rw [onesN_zero, onesN_zero]
  | f + 1, 0, n, _, h => by obtain rfl : n = 0 := by omega
                            rw [onesN_zero, onesN_zero]
  | f + 1, g + 1, n, h, k => by
    simp only [onesN]
    by_cases h0 : n = 0
    · subst h0; rw [Nat.zero_div, onesN_zero, onesN_zero]
    · rw [onesN_fuel f g (n / 2) (by omega) (by omega)]
theorem ones_half (n : Nat) : ones n = n % 2 + ones (n / 2) := by
  unfold ones
  rw [onesN_fuel n (n + 1) n (Nat.le_refl _) (by omega)]
  simp only [onesN]
  rw [onesN_fuel n (n / 2) (n / 2) (by omega) (Nat.le_refl _)]
theorem ones_zero : ones 0 = 0 := rfl
theorem ones_lt : ∀ (j n : Nat), n < 2 ^ j → ones n ≤ j
  | 0, n, h => by obtain rfl : n = 0 := by simpa using h
                  exact Nat.le_refl _
  | j + 1, n, h => by
    have := ones_lt j (n / 2) (by rw [Nat.pow_succ] at h; omega)
    rw [ones_half n]; omega
end Go.Proofs.Bl

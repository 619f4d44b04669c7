/- Plain arithmetic of how many leaves stand left of a tree's middle, and of how deep leaves stand. No program. -/
import Derived.Lib.BitFns
namespace Go.Proofs.Bl
open Go

theorem bitLen_bounds : ∀ (m : Nat), 1 ≤ m → m < 2 ^ 64 → 1 ≤ Lib.bitLen m ∧ 2 ^ (Lib.bitLen m - 1) ≤ m ∧ m < 2 ^ (Lib.bitLen m) := by
  intro m
  induction m using Nat.strongRecOn with
  | _ m ih =>
    intro h1 h2
    rw [Lib.bitLen_half m (by omega) h2]
    by_cases h : m = 1
    · subst h; decide
    · obtain ⟨a, b, c⟩ := ih (m / 2) (by omega) (by omega) (by omega)
      generalize Lib.bitLen (m / 2) = q at a b c
      obtain ⟨q, rfl⟩ : ∃ r, q = r + 1 := ⟨q - 1, by omega⟩
      refine ⟨by omega, ?_, ?_⟩
      · rw [show 1 + (q + 1) - 1 = q + 1 from by omega, Nat.pow_succ]
        simp only [Nat.add_sub_cancel] at b
        omega
      · rw [show 1 + (q + 1) = (q + 1) + 1 from by omega, Nat.pow_succ]
        omega

theorem pow_le_of (a b : Nat) (h : a ≤ b) : 2 ^ a ≤ 2 ^ b := Nat.pow_le_pow_right (by decide) h

theorem bitLen_eq (m j : Nat) (h2 : m < 2 ^ 64) (a : 2 ^ j ≤ m) (b : m < 2 ^ (j + 1)) : Lib.bitLen m = j + 1 := by
  have h1 : 1 ≤ m := Nat.le_trans (Nat.one_le_two_pow) a
  obtain ⟨c, d, e⟩ := bitLen_bounds m h1 h2
  generalize Lib.bitLen m = q at *
  have x1 : ¬ q < j + 1 := fun h => by
    have := pow_le_of q j (by omega)
    omega
  have x2 : ¬ j + 1 < q := fun h => by
    have := pow_le_of (j + 1) (q - 1) (by omega)
    omega
  omega

/-- how many leaves stand left, of n; 0 of fewer than two -/
def sp (n : Nat) : Nat := if n < 2 then 0 else 2 ^ (Lib.bitLen (n - 1) - 1)
/-- how deep leaves stand -/
def dp (n : Nat) : Nat := if n < 2 then 0 else Lib.bitLen (n - 1)

theorem sp_lo (n : Nat) (h : n < 2) : sp n = 0 := by simp [sp, h]
theorem dp_lo (n : Nat) (h : n < 2) : dp n = 0 := by simp [dp, h]

theorem bitLen_lim (n : Nat) (h : 2 ≤ n) (hn : n < 2 ^ 63) : Lib.bitLen (n - 1) ≤ 63 := by
  exact Lib.bitLen_le (n - 1) 63 (by decide) (by omega)

theorem sp_bounds (n : Nat) (h : 2 ≤ n) (hn : n < 2 ^ 63) : 1 ≤ sp n ∧ sp n < n ∧ n - sp n ≤ sp n := by
  obtain ⟨a, b, c⟩ := bitLen_bounds (n - 1) (by omega) (by omega)
  unfold sp
  rw [if_neg (by omega)]
  generalize Lib.bitLen (n - 1) = q at *
  obtain ⟨q, rfl⟩ : ∃ r, q = r + 1 := ⟨q - 1, by omega⟩
  simp only [Nat.add_sub_cancel, Nat.pow_succ] at *
  have := Nat.one_le_two_pow (n := q)
  omega

theorem sp_of_pow (n j : Nat) (hn : n < 2 ^ 63) (a : 2 ^ j < n) (b : n ≤ 2 ^ j * 2) : sp n = 2 ^ j := by
  have := Nat.one_le_two_pow (n := j)
  unfold sp
  rw [if_neg (by omega), bitLen_eq (n - 1) j (by omega) (by omega) (by rw [Nat.pow_succ]; omega)]
  rfl

theorem sp_pow (n : Nat) (h : 2 ≤ n) : sp n = 2 ^ (dp n - 1) := by
  unfold sp dp; rw [if_neg (by omega), if_neg (by omega)]

theorem dp_of_pow (n j : Nat) (hn : n < 2 ^ 63) (a : 2 ^ j < n) (b : n ≤ 2 ^ j * 2) : dp n = j + 1 := by
  have := Nat.one_le_two_pow (n := j)
  unfold dp
  rw [if_neg (by omega), bitLen_eq (n - 1) j (by omega) (by omega) (by rw [Nat.pow_succ]; omega)]

theorem dp_bounds (n : Nat) (h : 2 ≤ n) (hn : n < 2 ^ 63) : 1 ≤ dp n ∧ dp n ≤ 63 ∧ 2 ^ (dp n - 1) < n ∧ n ≤ 2 ^ (dp n) := by
  obtain ⟨a, b, c⟩ := bitLen_bounds (n - 1) (by omega) (by omega)
  have d := bitLen_lim n h hn
  unfold dp
  rw [if_neg (by omega)]
  exact ⟨a, d, by omega, by omega⟩

end Go.Proofs.Bl

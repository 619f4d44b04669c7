/- Choices of places, counted one by one. Plain. -/
import Derived.Test.YtkndnmpdklidkaaDoorChanceP
namespace Go.Proofs.Bl
/-- of the places of choice c below p: how many, and whether a bad one is among them -/
def mbs (bad : Nat → Bool) (c : Nat) : Nat → Nat × Bool
  | 0 => (0, false)
  | p + 1 => if c / 2 ^ p % 2 = 1 then ((mbs bad c p).1 + 1, (mbs bad c p).2 || bad p) else mbs bad c p
theorem bit_low (n p c : Nat) (h : p < n) : (2 ^ n + c) / 2 ^ p % 2 = c / 2 ^ p % 2 := by
  obtain ⟨k, rfl⟩ : ∃ k, n = p + 1 + k := ⟨n - p - 1, by omega⟩
  have e : 2 ^ (p + 1 + k) = 2 ^ p * (2 * 2 ^ k) := by rw [Nat.pow_add, Nat.pow_succ, Nat.mul_assoc]
  rw [e, Nat.mul_add_div (Nat.pow_pos (by decide))]
  omega
theorem bit_top (n c : Nat) (h : c < 2 ^ n) : (2 ^ n + c) / 2 ^ n % 2 = 1 := by
  have h2 : (2 ^ n + c) / 2 ^ n = 1 := by
    rw [Nat.add_div_left _ (Nat.pow_pos (by decide)), Nat.div_eq_of_lt h]
  rw [h2]
theorem mbs_low (bad : Nat → Bool) (n c : Nat) : ∀ p, p ≤ n → mbs bad (2 ^ n + c) p = mbs bad c p
  | 0, _ => rfl
  | p + 1, h => by
    simp only [mbs]
    rw [bit_low n p c (by omega), mbs_low bad n c p (by omega)]
theorem mbs_hi (bad : Nat → Bool) (n c : Nat) (h : c < 2 ^ n) : mbs bad (2 ^ n + c) (n + 1) = ((mbs bad c n).1 + 1, (mbs bad c n).2 || bad n) := by
  simp only [mbs]
  rw [if_pos (bit_top n c h), mbs_low bad n c n (Nat.le_refl n)]
theorem mbs_lo (bad : Nat → Bool) (n c : Nat) (h : c < 2 ^ n) : mbs bad c (n + 1) = mbs bad c n := by
  simp only [mbs]
  rw [Nat.div_eq_of_lt h, if_neg (by decide)]
theorem mbs_le (bad : Nat → Bool) (c : Nat) : ∀ p, (mbs bad c p).1 ≤ p
  | 0 => Nat.le_refl 0
  | p + 1 => by
    have := mbs_le bad c p
    simp only [mbs]
    split
    · show (mbs bad c p).1 + 1 ≤ p + 1; omega
    · omega
/-- the choices below c of k places, all, and those that have none of the bad ones -/
def alC (bad : Nat → Bool) (n k c : Nat) : Nat := sumn (fun i => if (mbs bad i n).1 = k then 1 else 0) c
def wyC (bad : Nat → Bool) (n k c : Nat) : Nat := sumn (fun i => if (mbs bad i n).1 = k ∧ (mbs bad i n).2 = false then 1 else 0) c
def wrC (bad : Nat → Bool) : Nat → Nat
  | 0 => 0
  | n + 1 => wrC bad n + if bad n = true then 1 else 0
theorem wrC_le (bad : Nat → Bool) : ∀ n, wrC bad n ≤ n
  | 0 => Nat.le_refl 0
  | n + 1 => by
    have := wrC_le bad n
    simp only [wrC]
    split <;> omega
theorem sumn_split (f : Nat → Nat) (a : Nat) : ∀ b, sumn f (a + b) = sumn f a + sumn (fun i => f (a + i)) b
  | 0 => by simp [sumn]
  | b + 1 => by
    have := sumn_split f a b
    rw [← Nat.add_assoc]
    simp only [sumn]
    omega
theorem sumn_le1 (f : Nat → Nat) (h : ∀ i, f i ≤ 1) : ∀ n, sumn f n ≤ n
  | 0 => Nat.le_refl 0
  | n + 1 => by
    have := sumn_le1 f h n
    have := h n
    simp only [sumn]
    omega
theorem alC_le (bad : Nat → Bool) (n k c : Nat) : alC bad n k c ≤ c := sumn_le1 _ (fun i => by show (if _ then 1 else 0) ≤ 1; split <;> omega) c
theorem wyC_le (bad : Nat → Bool) (n k c : Nat) : wyC bad n k c ≤ c := sumn_le1 _ (fun i => by show (if _ then 1 else 0) ≤ 1; split <;> omega) c
theorem alC_full (bad : Nat → Bool) : ∀ n k, alC bad n k (2 ^ n) = bin n k
  | 0, k => by
    cases k with
    | zero => rfl
    | succ k => show 0 + (if 0 = k + 1 then 1 else 0) = 0; rw [if_neg (by omega)]
  | n + 1, k => by
    unfold alC
    rw [show 2 ^ (n + 1) = 2 ^ n + 2 ^ n from by rw [Nat.pow_succ]; omega, sumn_split]
    rw [sumn_congr (g := fun i => if (mbs bad i n).1 = k then 1 else 0) (2 ^ n) (fun i hi => by rw [mbs_lo bad n i hi])]
    have h1 := alC_full bad n k
    unfold alC at h1
    rw [h1]
    cases k with
    | zero =>
      rw [sumn_congr (g := fun _ => 0) (2 ^ n) (fun i hi => by show (if (mbs bad (2 ^ n + i) (n + 1)).1 = 0 then 1 else 0) = 0; rw [mbs_hi bad n i hi, if_neg (by show ¬ (mbs bad i n).1 + 1 = 0; omega)]), sumn_zero, bin_zero, bin_zero]
    | succ k =>
      rw [sumn_congr (g := fun i => if (mbs bad i n).1 = k then 1 else 0) (2 ^ n) (fun i hi => by
        show (if (mbs bad (2 ^ n + i) (n + 1)).1 = k + 1 then 1 else 0) = _
        rw [mbs_hi bad n i hi]
        show (if (mbs bad i n).1 + 1 = k + 1 then 1 else 0) = _
        by_cases e : (mbs bad i n).1 = k
        · rw [if_pos e, if_pos (by omega)]
        · rw [if_neg e, if_neg (by omega)])]
      have h2 := alC_full bad n k
      unfold alC at h2
      rw [h2, bin_succ]
      omega
theorem wyC_full (bad : Nat → Bool) : ∀ n k, wyC bad n k (2 ^ n) = bin (n - wrC bad n) k
  | 0, k => by
    cases k with
    | zero => rfl
    | succ k => show 0 + (if 0 = k + 1 ∧ false = false then 1 else 0) = 0; rw [if_neg (by omega)]
  | n + 1, k => by
    unfold wyC
    rw [show 2 ^ (n + 1) = 2 ^ n + 2 ^ n from by rw [Nat.pow_succ]; omega, sumn_split]
    rw [sumn_congr (g := fun i => if (mbs bad i n).1 = k ∧ (mbs bad i n).2 = false then 1 else 0) (2 ^ n) (fun i hi => by rw [mbs_lo bad n i hi])]
    have h1 := wyC_full bad n k
    unfold wyC at h1
    rw [h1]
    have hle := wrC_le bad n
    cases hb : bad n with
    | true =>
      rw [sumn_congr (g := fun _ => 0) (2 ^ n) (fun i hi => by
        show (if (mbs bad (2 ^ n + i) (n + 1)).1 = k ∧ (mbs bad (2 ^ n + i) (n + 1)).2 = false then 1 else 0) = 0
        rw [mbs_hi bad n i hi, hb, Bool.or_true, if_neg (fun h => by cases h.2)]), sumn_zero]
      have e : n + 1 - wrC bad (n + 1) = n - wrC bad n := by simp only [wrC, hb, if_true]; omega
      rw [e]
      omega
    | false =>
      have e : n + 1 - wrC bad (n + 1) = (n - wrC bad n) + 1 := by simp only [wrC, hb, Bool.false_eq_true, if_false]; omega
      rw [e]
      cases k with
      | zero =>
        rw [sumn_congr (g := fun _ => 0) (2 ^ n) (fun i hi => by
          show (if (mbs bad (2 ^ n + i) (n + 1)).1 = 0 ∧ (mbs bad (2 ^ n + i) (n + 1)).2 = false then 1 else 0) = 0
          rw [mbs_hi bad n i hi, if_neg (fun h => by have := h.1; simp at this)]), sumn_zero, bin_zero, bin_zero]
      | succ k =>
        rw [sumn_congr (g := fun i => if (mbs bad i n).1 = k ∧ (mbs bad i n).2 = false then 1 else 0) (2 ^ n) (fun i hi => by
          show (if (mbs bad (2 ^ n + i) (n + 1)).1 = k + 1 ∧ (mbs bad (2 ^ n + i) (n + 1)).2 = false then 1 else 0) = _
          rw [mbs_hi bad n i hi, hb, Bool.or_false]
          show (if (mbs bad i n).1 + 1 = k + 1 ∧ (mbs bad i n).2 = false then 1 else 0) = _
          by_cases e : (mbs bad i n).1 = k ∧ (mbs bad i n).2 = false
          · rw [if_pos e, if_pos ⟨by omega, e.2⟩]
          · rw [if_neg e, if_neg (fun h => e ⟨by omega, h.2⟩)])]
        have h2 := wyC_full bad n k
        unfold wyC at h2
        rw [h2, bin_succ]
        omega
end Go.Proofs.Bl

/- Products of big numbers, plainly. No program. -/
import Derived.Test.YtkndnmpdklidkaaDoorChanceQ
namespace Go.Proofs.Bl
open Go
/-- the number of digits f 0 .. f (n - 1), the low one first -/
def lf (f : Nat → Int) : Nat → Nat
  | 0 => 0
  | k + 1 => lf f k + (f k).toNat * 256 ^ k
theorem lf_lew (A : List Int) : ∀ k, lf (fun i => A.getD i 0) k = lew A k
  | 0 => rfl
  | k + 1 => by simp only [lf, lew]; rw [lf_lew A k]
theorem lf_congr {f g : Nat → Int} : ∀ k, (∀ i, i < k → f i = g i) → lf f k = lf g k
  | 0, _ => rfl
  | k + 1, h => by simp only [lf]; rw [lf_congr k (fun i hi => h i (by omega)), h k (by omega)]
theorem lf_zero : ∀ k, lf (fun _ => 0) k = 0
  | 0 => rfl
  | k + 1 => by simp only [lf]; rw [lf_zero k]; simp
theorem lf_set (f : Nat → Int) (p : Nat) (v : Int) : ∀ n, p < n → lf (fun t => if t = p then v else f t) n + (f p).toNat * 256 ^ p = lf f n + v.toNat * 256 ^ p
  | 0, h => by omega
  | n + 1, h => by
    simp only [lf]
    by_cases e : n = p
    · subst e
      rw [if_pos rfl, lf_congr (f := fun t => if t = n then v else f t) (g := f) n (fun i hi => if_neg (by omega))]
      omega
    · rw [if_neg e]
      have := lf_set f p v n (by omega)
      omega
theorem lf_list (f : Nat → Int) (n : Nat) : lew ((List.range n).map f) n = lf f n := by
  rw [← lf_lew]
  refine lf_congr n fun i hi => ?_
  rw [List.getD_eq_getElem?_getD]
  simp [hi]
/-- one step within a row of the product -/
theorem mul_step (f : Nat → Int) (N i j lb : Nat) (c a b : Int) (K : Nat) (B : List Int) (hb : b = B.getD j 0) (hN : i + j < N) (hc : 0 ≤ c ∧ c ≤ 255) (ha : 0 ≤ a ∧ a ≤ 255) (hb2 : 0 ≤ b ∧ b ≤ 255)
    (hf : ∀ t, 0 ≤ f t ∧ f t ≤ 255) (hlb : B.length = lb) (hj : j ≤ lb) (hz : ∀ t, i + lb ≤ t → f t = 0)
    (h : lf f N + c.toNat * 256 ^ (i + j) = K + a.toNat * 256 ^ i * lew B j) :
    lf (fun t => if t = i + j then (c + (f (i + j) + a * b)) % 256 else f t) N + ((c + (f (i + j) + a * b)) / 256).toNat * 256 ^ (i + (j + 1)) = K + a.toNat * 256 ^ i * lew B (j + 1) ∧
    (0 ≤ (c + (f (i + j) + a * b)) / 256 ∧ (c + (f (i + j) + a * b)) / 256 ≤ 255) ∧
    (∀ t, 0 ≤ (fun t => if t = i + j then (c + (f (i + j) + a * b)) % 256 else f t) t ∧ (fun t => if t = i + j then (c + (f (i + j) + a * b)) % 256 else f t) t ≤ 255) ∧
    (j = lb → (c + (f (i + j) + a * b)) / 256 = 0 ∧ ∀ t, i + 1 + lb ≤ t → (fun t => if t = i + j then (c + (f (i + j) + a * b)) % 256 else f t) t = 0) ∧
    (j < lb → ∀ t, i + lb ≤ t → (fun t => if t = i + j then (c + (f (i + j) + a * b)) % 256 else f t) t = 0) := by
  have hab : 0 ≤ a * b ∧ a * b ≤ 65025 := by
    constructor
    · exact Int.mul_nonneg ha.1 hb2.1
    · have h1 : a * b ≤ 255 * b := Int.mul_le_mul_of_nonneg_right ha.2 hb2.1
      omega
  have hff := hf (i + j)
  obtain ⟨ab, habe⟩ : ∃ ab, ab = a * b := ⟨_, rfl⟩
  rw [← habe] at hab ⊢
  obtain ⟨s, hs⟩ : ∃ s, s = c + (f (i + j) + ab) := ⟨_, rfl⟩
  rw [← hs]
  have hs0 : 0 ≤ s ∧ s ≤ 65535 := by omega
  refine ⟨?_, ⟨by omega, by omega⟩, fun t => ?_, fun hjl => ?_, fun hjl t ht => ?_⟩
  · have h1 := lf_set f (i + j) (s % 256) N hN
    have h2 : (s % 256).toNat + (s / 256).toNat * 256 = c.toNat + (f (i + j)).toNat + ab.toNat := by omega
    have h3 : ab.toNat = a.toNat * b.toNat := by
      rw [habe]
      obtain ⟨x, rfl⟩ := Int.eq_ofNat_of_zero_le ha.1
      obtain ⟨y, rfl⟩ := Int.eq_ofNat_of_zero_le hb2.1
      rw [← Int.natCast_mul]; rfl
    have h4 : ((s % 256).toNat + (s / 256).toNat * 256) * 256 ^ (i + j) = (c.toNat + (f (i + j)).toNat + ab.toNat) * 256 ^ (i + j) := by rw [h2]
    simp only [lew]
    rw [← hb]
    have h5 : a.toNat * 256 ^ i * (lew B j + b.toNat * 256 ^ j) = a.toNat * 256 ^ i * lew B j + ab.toNat * 256 ^ (i + j) := by
      rw [Nat.mul_add, h3, Nat.pow_add]
      congr 1
      rw [Nat.mul_assoc, Nat.mul_assoc, Nat.mul_left_comm (256 ^ i)]
    rw [h5, show i + (j + 1) = (i + j) + 1 from rfl, Nat.pow_succ]
    rw [Nat.add_mul, Nat.add_mul, Nat.add_mul] at h4
    rw [Nat.mul_comm (256 ^ (i + j)) 256, ← Nat.mul_assoc]
    omega
  · show 0 ≤ (if t = i + j then s % 256 else f t) ∧ (if t = i + j then s % 256 else f t) ≤ 255
    by_cases e : t = i + j
    · rw [if_pos e]; omega
    · rw [if_neg e]; exact hf t
  · subst hjl
    have hb0 : b = 0 := by rw [hb, List.getD_eq_getElem?_getD, List.getElem?_eq_none (by omega)]; rfl
    have hf0 := hz (i + j) (by omega)
    have : ab = 0 := by rw [habe, hb0]; simp
    refine ⟨by omega, fun t ht => ?_⟩
    show (if t = i + j then s % 256 else f t) = 0
    rw [if_neg (by omega)]
    exact hz t (by omega)
  · show (if t = i + j then s % 256 else f t) = 0
    rw [if_neg (by omega)]
    exact hz t ht
theorem mul_end (a b : List Int) (ha : Byt a) (hb : Byt b) (f : Nat → Int) (N : Nat) (hf : ∀ t, 0 ≤ f t ∧ f t ≤ 255) (h : lf f N = lew a.reverse a.length * be b) : trimz ((List.range N).map f).reverse = tob (be a * be b) := by
  have hL : Byt ((List.range N).map f) := fun x hx => by
    obtain ⟨t, _, rfl⟩ := List.mem_map.1 hx
    exact hf t
  rw [trimz_eq _ (byt_rev hL), ← lew_big _ N (by simp), lf_list, h]
  have h1 : lew a.reverse a.length = be a := by have := lew_big a.reverse a.length (by simp); rwa [List.reverse_reverse] at this
  rw [h1]
end Go.Proofs.Bl

/- Bits of numbers, plainly. No program. -/
import Derived.Test.YtkndnmpdklidkaaDoorChanceQ
namespace Go.Proofs.Bl
open Go
/-- all are bits -/
def Bit (l : List Int) : Prop := ∀ x ∈ l, x = 0 ∨ x = 1
theorem Bit.byt {l : List Int} (h : Bit l) : Byt l := fun x hx => by rcases h x hx with h | h <;> omega
theorem Bit.get {l : List Int} (h : Bit l) (i : Nat) : l.getD i 0 = 0 ∨ l.getD i 0 = 1 := by
  rw [List.getD_eq_getElem?_getD]
  by_cases hi : i < l.length
  · rw [List.getElem?_eq_getElem hi]; exact h _ (List.getElem_mem hi)
  · rw [List.getElem?_eq_none (by omega)]; left; rfl
theorem Bit.append {a b : List Int} (h : Bit a) (k : Bit b) : Bit (a ++ b) := fun x hx => by
  rcases List.mem_append.1 hx with hx | hx
  · exact h x hx
  · exact k x hx
theorem Bit.take {l : List Int} (h : Bit l) (n : Nat) : Bit (l.take n) := fun x hx => h x (List.mem_of_mem_take hx)
theorem Bit.one {x : Int} (h : x = 0 ∨ x = 1) : Bit [x] := fun y hy => by simp at hy; subst hy; exact h
theorem Bit.rep (n : Nat) : Bit (List.replicate n 0) := fun x hx => .inl (List.eq_of_mem_replicate hx)
theorem Bit.nil : Bit [] := fun x hx => by cases hx
theorem take_snoc (l : List Int) (k : Nat) (h : k < l.length) : l.take (k + 1) = l.take k ++ [l.getD k 0] := by
  rw [List.take_succ_eq_append_getElem h, List.getD_eq_getElem?_getD, List.getElem?_eq_getElem h]; rfl
theorem cutz_take0 (l : List Int) (k : Nat) (h : k < l.length) (h0 : l.getD k 0 = 0) : cutz (l.take (k + 1)) = cutz (l.take k) := by
  rw [take_snoc l k h, h0, cutz_snoc0]
theorem cutz_take1 (l : List Int) (k : Nat) (h : k < l.length) (h0 : l.getD k 0 ≠ 0) : cutz (l.take (k + 1)) = l.take (k + 1) := by
  rw [take_snoc l k h, cutz_snoc1 _ _ h0]
/-- a bit more, the high one -/
theorem lb_snoc (l : List Int) (x : Int) : lb (l ++ [x]) = lb l + x.toNat * 2 ^ l.length := by
  rw [lb_append]; simp [lb, Nat.mul_comm]
theorem lb_take_succ (l : List Int) (k : Nat) : lb (l.take (k + 1)) = lb (l.take k) + (l.getD k 0).toNat * 2 ^ k := by
  by_cases h : k < l.length
  · rw [take_snoc l k h, lb_snoc, List.length_take, Nat.min_eq_left (by omega)]
  · rw [List.take_of_length_le (by omega), List.take_of_length_le (by omega), List.getD_eq_getElem?_getD, List.getElem?_eq_none (by omega)]; simp
/-- one step of a sum of bits -/
theorem badd_step (a b o : List Int) (c : Int) (i : Nat) (ho : o.length = i) (hc : c = 0 ∨ c = 1) (ha : Bit a) (hb : Bit b) (h : lb o + c.toNat * 2 ^ i = lb (a.take i) + lb (b.take i)) :
    lb (o ++ [(a.getD i 0 + b.getD i 0 + c) % 2]) + ((a.getD i 0 + b.getD i 0 + c) / 2).toNat * 2 ^ (i + 1) = lb (a.take (i + 1)) + lb (b.take (i + 1)) ∧
    ((a.getD i 0 + b.getD i 0 + c) / 2 = 0 ∨ (a.getD i 0 + b.getD i 0 + c) / 2 = 1) ∧ ((a.getD i 0 + b.getD i 0 + c) % 2 = 0 ∨ (a.getD i 0 + b.getD i 0 + c) % 2 = 1) := by
  have h1 := ha.get i
  have h2 := hb.get i
  rw [lb_snoc, ho, lb_take_succ, lb_take_succ]
  obtain ⟨x, hx⟩ : ∃ x, x = a.getD i 0 := ⟨_, rfl⟩
  obtain ⟨y, hy⟩ : ∃ y, y = b.getD i 0 := ⟨_, rfl⟩
  rw [← hx] at h1 ⊢
  rw [← hy] at h2 ⊢
  refine ⟨?_, by omega, by omega⟩
  have e : ((x + y + c) % 2).toNat + ((x + y + c) / 2).toNat * 2 = x.toNat + y.toNat + c.toNat := by omega
  have e2 : (((x + y + c) % 2).toNat + ((x + y + c) / 2).toNat * 2) * 2 ^ i = (x.toNat + y.toNat + c.toNat) * 2 ^ i := by rw [e]
  rw [Nat.pow_succ, Nat.mul_comm (2 ^ i) 2, ← Nat.mul_assoc]
  rw [Nat.add_mul, Nat.add_mul, Nat.add_mul] at e2
  omega
/-- bits of bytes -/
theorem bits_step (A o : List Int) (m k : Nat) (X x : Int) (ho : o.length = 8 * m + k) (hX : 0 ≤ X) (hx : x = X / 2 ^ k) (h : lb o = lew A m + (X.toNat % 2 ^ k) * 256 ^ m) :
    lb (o ++ [x % 2]) = lew A m + (X.toNat % 2 ^ (k + 1)) * 256 ^ m := by
  obtain ⟨n, rfl⟩ := Int.eq_ofNat_of_zero_le hX
  have hxn : x = ((n / 2 ^ k : Nat) : Int) := by rw [hx]; simp
  rw [lb_snoc, ho, h, hxn]
  have e1 : (((n / 2 ^ k : Nat) : Int) % 2).toNat = n / 2 ^ k % 2 := by omega
  rw [e1, Int.toNat_natCast]
  have e2 : n % 2 ^ (k + 1) = n % 2 ^ k + 2 ^ k * (n / 2 ^ k % 2) := by rw [Nat.pow_succ, Nat.mod_mul]
  rw [e2, Nat.add_mul, show (256 : Nat) = 2 ^ 8 from rfl, ← Nat.pow_mul, Nat.pow_add, Nat.mul_comm (2 ^ k) (n / 2 ^ k % 2), Nat.mul_assoc, Nat.mul_comm (2 ^ k) (2 ^ (8 * m))]
  omega
theorem shr_step (X : Int) (k : Nat) (hX : 0 ≤ X) : X / 2 ^ k / 2 = X / 2 ^ (k + 1) := by
  rw [Int.pow_succ, Int.ediv_ediv_of_nonneg (Int.pow_nonneg (by decide))]
/-- the number of eight bits from at on, the low k of them left out -/
def oct (l : List Int) (at' : Nat) : Nat → Nat
  | 0 => 0
  | k + 1 => oct l at' k + (l.getD (at' + k) 0).toNat * 2 ^ k
theorem oct_eq (l : List Int) (n : Nat) : ∀ k, lb (l.take n) + oct l n k * 2 ^ n = lb (l.take (n + k))
  | 0 => by simp [oct]
  | k + 1 => by
    rw [← Nat.add_assoc, lb_take_succ, ← oct_eq l n k]
    simp only [oct]
    rw [Nat.add_mul, Nat.pow_add, Nat.mul_assoc, Nat.mul_comm (2 ^ k) (2 ^ n)]
    omega
/-- the same, read from the high one on: Horner's way -/
def hor (l : List Int) (at' : Nat) : Nat → Nat
  | 0 => 0
  | k + 1 => hor l at' k * 2 + (l.getD (at' + (7 - k)) 0).toNat
theorem hor_eight (l : List Int) (n : Nat) : hor l n 8 = oct l n 8 := by
  simp only [hor, oct]
  simp only [Nat.sub_zero, Nat.sub_self, Nat.add_zero, show 7 - 1 = 6 from rfl, show 7 - 2 = 5 from rfl, show 7 - 3 = 4 from rfl, show 7 - 4 = 3 from rfl, show 7 - 5 = 2 from rfl, show 7 - 6 = 1 from rfl]
  omega
theorem hor_lt (l : List Int) (h : Bit l) (n : Nat) : ∀ k, hor l n k < 2 ^ k
  | 0 => by simp [hor]
  | k + 1 => by
    simp only [hor, Nat.pow_succ]
    have h1 := hor_lt l h n k
    have h2 := h.get (n + (7 - k))
    omega
end Go.Proofs.Bl

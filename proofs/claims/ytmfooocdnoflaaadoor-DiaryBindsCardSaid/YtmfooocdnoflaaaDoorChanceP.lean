/- Big numbers, plainly: bytes and bits of a number, binomials. No program. -/
import Derived.Lib.BitFns
namespace Go.Proofs.Bl
open Go

/-! ### numbers of bytes, the high one first; of bits, the low one first -/
/-- the number of bytes -/
def be (l : List Int) : Nat := l.foldl (fun a c => a * 256 + c.toNat) 0
theorem be_fold (l : List Int) : ∀ a, l.foldl (fun a c => a * 256 + c.toNat) a = a * 256 ^ l.length + be l := by
  unfold be
  induction l with
  | nil => intro a; simp
  | cons c r ih =>
    intro a
    simp only [List.foldl_cons, List.length_cons]
    rw [ih, ih (0 * 256 + c.toNat), Nat.pow_succ, Nat.add_mul]
    rw [Nat.zero_mul, Nat.zero_add, Nat.mul_assoc, Nat.mul_comm 256, Nat.add_assoc]
theorem be_nil : be [] = 0 := rfl
theorem be_cons (c : Int) (r : List Int) : be (c :: r) = c.toNat * 256 ^ r.length + be r := by
  conv => lhs; unfold be
  rw [List.foldl_cons, be_fold]; simp
theorem be_append (a b : List Int) : be (a ++ b) = be a * 256 ^ b.length + be b := by
  conv => lhs; unfold be
  rw [List.foldl_append, be_fold]; rfl
theorem be_snoc (a : List Int) (c : Int) : be (a ++ [c]) = be a * 256 + c.toNat := by rw [be_append]; simp [be]
theorem be_lt (l : List Int) (h : ∀ x ∈ l, 0 ≤ x ∧ x ≤ 255) : be l < 256 ^ l.length := by
  induction l with
  | nil => simp [be]
  | cons c r ih =>
    rw [be_cons, List.length_cons, Nat.pow_succ]
    have h1 := ih (fun x hx => h x (List.mem_cons_of_mem _ hx))
    have h2 := h c (by simp)
    have h3 : c.toNat ≤ 255 := by omega
    have h4 : c.toNat * 256 ^ r.length ≤ 255 * 256 ^ r.length := Nat.mul_le_mul_right _ h3
    omega
/-- bytes without noughts ahead -/
def trimz (l : List Int) : List Int := l.dropWhile (fun c => c == 0)
theorem be_trimz (l : List Int) : be (trimz l) = be l := by
  induction l with
  | nil => rfl
  | cons c r ih =>
    unfold trimz at ih ⊢
    rw [List.dropWhile_cons]
    split
    · rename_i h
      have : c = 0 := by simpa using h
      subst this
      rw [ih, be_cons]; simp
    · rfl
theorem trimz_len (l : List Int) : (trimz l).length ≤ l.length := by
  unfold trimz
  exact (List.dropWhile_suffix _).length_le
theorem trimz_mem (l : List Int) (x : Int) (h : x ∈ trimz l) : x ∈ l := (List.dropWhile_suffix _).subset h

/-- a number's bytes, the high one first, without noughts ahead -/
def tobN : Nat → Nat → List Int
  | 0, _ => []
  | f + 1, n => if n = 0 then [] else tobN f (n / 256) ++ [((n % 256 : Nat) : Int)]
def tob (n : Nat) : List Int := tobN n n
theorem tobN_fuel : ∀ (f g n : Nat), n ≤ f → n ≤ g → tobN f n = tobN g n
  | 0, 0, _, _, _ => rfl
  | 0, g + 1, n, h, _ => by simp only [tobN]; rw [if_pos (by omega)]
  | f + 1, 0, n, _, h => by simp only [tobN]; rw [if_pos (by omega)]
  | f + 1, g + 1, n, h, k => by
    simp only [tobN]
    split
    · rfl
    · rw [tobN_fuel f g (n / 256) (by omega) (by omega)]
theorem tob_zero : tob 0 = [] := rfl
theorem tob_pos (n : Nat) (h : 0 < n) : tob n = tob (n / 256) ++ [((n % 256 : Nat) : Int)] := by
  unfold tob
  rw [tobN_fuel n (n - 1 + 1) n (by omega) (by omega)]
  conv => lhs; simp only [tobN]
  rw [if_neg (by omega), tobN_fuel (n - 1) (n / 256) (n / 256) (by omega) (Nat.le_refl _)]
theorem trimz_snoc (l : List Int) (c : Int) : trimz (l ++ [c]) = if trimz l = [] then (if c = 0 then [] else [c]) else trimz l ++ [c] := by
  unfold trimz
  induction l with
  | nil => simp [List.dropWhile_cons]
  | cons x r ih =>
    simp only [List.cons_append, List.dropWhile_cons]
    split
    · exact ih
    · simp
theorem trimz_nil_iff (l : List Int) (h : ∀ x ∈ l, 0 ≤ x ∧ x ≤ 255) : trimz l = [] ↔ be l = 0 := by
  constructor
  · intro q; rw [← be_trimz, q]; rfl
  · intro q
    induction l with
    | nil => rfl
    | cons c r ih =>
      rw [be_cons] at q
      have h1 := h c (by simp)
      have hp : 0 < 256 ^ r.length := Nat.pow_pos (by decide)
      have hc : c.toNat = 0 := by
        by_cases hz : c.toNat = 0
        · exact hz
        · exfalso
          have := Nat.mul_pos (Nat.pos_of_ne_zero hz) hp
          omega
      have : c = 0 := by omega
      subst this
      unfold trimz at ih ⊢
      rw [List.dropWhile_cons]
      simp only [beq_self_eq_true, if_true]
      exact ih (fun x hx => h x (List.mem_cons_of_mem _ hx)) (by omega)
/-- the canonical bytes of a number -/
theorem trimz_eq (l : List Int) (h : ∀ x ∈ l, 0 ≤ x ∧ x ≤ 255) : trimz l = tob (be l) := by
  obtain ⟨n, hn⟩ : ∃ n, n = l.length := ⟨_, rfl⟩
  induction n generalizing l with
  | zero =>
    have : l = [] := List.length_eq_zero_iff.1 hn.symm
    subst this; rfl
  | succ n ih =>
    have hne : l ≠ [] := by intro q; subst q; simp at hn
    obtain ⟨q, c, rfl⟩ : ∃ q c, l = q ++ [c] := ⟨l.dropLast, l.getLast hne, (List.dropLast_concat_getLast hne).symm⟩
    have hq : ∀ x ∈ q, 0 ≤ x ∧ x ≤ 255 := fun x hx => h x (List.mem_append_left _ hx)
    have hc := h c (by simp)
    have i := ih q hq (by simp at hn; omega)
    rw [trimz_snoc, be_snoc]
    by_cases hz : be q = 0
    · rw [if_pos ((trimz_nil_iff q hq).2 hz), hz, Nat.zero_mul, Nat.zero_add]
      by_cases hc0 : c = 0
      · subst hc0; rfl
      · rw [if_neg hc0, tob_pos _ (by omega), show c.toNat / 256 = 0 from by omega, tob_zero, List.nil_append]
        congr 1; omega
    · rw [if_neg (fun q' => hz ((trimz_nil_iff q hq).1 q')), i]
      rw [tob_pos (be q * 256 + c.toNat) (by omega)]
      congr 2
      · congr 1; omega
      · omega
theorem be_tob (n : Nat) : be (tob n) = n := by
  induction n using Nat.strongRecOn with
  | _ n ih =>
    by_cases h : n = 0
    · subst h; rfl
    · rw [tob_pos n (by omega), be_snoc, ih (n / 256) (by omega)]; omega
theorem tob_byt (n : Nat) : ∀ x ∈ tob n, 0 ≤ x ∧ x ≤ 255 := by
  induction n using Nat.strongRecOn with
  | _ n ih =>
    intro x hx
    by_cases h : n = 0
    · subst h; cases hx
    · rw [tob_pos n (by omega)] at hx
      rcases List.mem_append.1 hx with hx | hx
      · exact ih (n / 256) (by omega) x hx
      · simp at hx; omega
theorem tob_inj {a b : Nat} (h : tob a = tob b) : a = b := by rw [← be_tob a, h, be_tob]
theorem trimz_tob (n : Nat) : trimz (tob n) = tob n := by rw [trimz_eq _ (tob_byt n), be_tob]
theorem tob_nil_iff (n : Nat) : tob n = [] ↔ n = 0 := ⟨fun h => tob_inj (h.trans tob_zero.symm), fun h => by rw [h]; rfl⟩
theorem tob_len_le : ∀ (k n : Nat), n < 256 ^ k → (tob n).length ≤ k
  | 0, n, h => by simp at h; subst h; simp [tob_zero]
  | k + 1, n, h => by
    by_cases hz : n = 0
    · subst hz; simp [tob_zero]
    · rw [tob_pos n (by omega), List.length_append]
      have := tob_len_le k (n / 256) (by rw [Nat.pow_succ] at h; omega)
      simp; omega
theorem tob_len_ge : ∀ (k n : Nat), 256 ^ k ≤ n → k + 1 ≤ (tob n).length
  | 0, n, h => by
    rw [tob_pos n (by simp at h; omega), List.length_append]; simp
  | k + 1, n, h => by
    have h1 : 0 < 256 ^ (k + 1) := Nat.pow_pos (by decide)
    rw [tob_pos n (by omega), List.length_append]
    have := tob_len_ge k (n / 256) (by rw [Nat.pow_succ] at h; omega)
    simp; omega
theorem tob_len_lt_iff (a b : Nat) (h : (tob a).length < (tob b).length) : a < b := by
  rcases Nat.lt_or_ge a b with q | q
  · exact q
  · exfalso
    by_cases hb : b = 0
    · subst hb; simp [tob_zero] at h
    · have h1 : (tob b).length ≤ (tob a).length := by
        obtain ⟨k, hk⟩ : ∃ k, (tob b).length = k + 1 := ⟨(tob b).length - 1, by
          have : (tob b).length ≠ 0 := fun q => hb ((tob_nil_iff b).1 (List.length_eq_zero_iff.1 q))
          omega⟩
        have : 256 ^ k ≤ b := by
          rcases Nat.lt_or_ge b (256 ^ k) with q' | q'
          · have := tob_len_le k b q'; omega
          · exact q'
        have := tob_len_ge k a (by omega)
        omega
      omega

/-- bits of a number, the low one first -/
def tbN : Nat → Nat → List Int
  | 0, _ => []
  | f + 1, n => if n = 0 then [] else ((n % 2 : Nat) : Int) :: tbN f (n / 2)
def tb (n : Nat) : List Int := tbN n n
theorem tbN_fuel : ∀ (f g n : Nat), n ≤ f → n ≤ g → tbN f n = tbN g n
  | 0, 0, _, _, _ => rfl
  | 0, g + 1, n, h, _ => by simp only [tbN]; rw [if_pos (by omega)]
  | f + 1, 0, n, _, h => by simp only [tbN]; rw [if_pos (by omega)]
  | f + 1, g + 1, n, h, k => by
    simp only [tbN]
    split
    · rfl
    · rw [tbN_fuel f g (n / 2) (by omega) (by omega)]
theorem tb_zero : tb 0 = [] := rfl
theorem tb_pos (n : Nat) (h : 0 < n) : tb n = ((n % 2 : Nat) : Int) :: tb (n / 2) := by
  unfold tb
  rw [tbN_fuel n (n - 1 + 1) n (by omega) (by omega)]
  conv => lhs; simp only [tbN]
  rw [if_neg (by omega), tbN_fuel (n - 1) (n / 2) (n / 2) (by omega) (Nat.le_refl _)]
/-- the number of bits -/
def lb : List Int → Nat
  | [] => 0
  | c :: r => c.toNat + 2 * lb r
theorem lb_tb (n : Nat) : lb (tb n) = n := by
  induction n using Nat.strongRecOn with
  | _ n ih =>
    by_cases h : n = 0
    · subst h; rfl
    · rw [tb_pos n (by omega)]; simp only [lb]; rw [ih (n / 2) (by omega)]; omega
theorem tb_bit (n : Nat) : ∀ x ∈ tb n, x = 0 ∨ x = 1 := by
  induction n using Nat.strongRecOn with
  | _ n ih =>
    intro x hx
    by_cases h : n = 0
    · subst h; cases hx
    · rw [tb_pos n (by omega)] at hx
      rcases List.mem_cons.1 hx with hx | hx
      · omega
      · exact ih (n / 2) (by omega) x hx
theorem lb_append (a b : List Int) : lb (a ++ b) = lb a + 2 ^ a.length * lb b := by
  induction a with
  | nil => simp [lb]
  | cons c r ih => simp only [List.cons_append, lb, ih, List.length_cons, Nat.pow_succ, Nat.mul_add]; rw [show 2 ^ r.length * 2 * lb b = 2 * (2 ^ r.length * lb b) from by rw [Nat.mul_comm (2 ^ r.length) 2, Nat.mul_assoc]]; omega
theorem lb_rep (k : Nat) : lb (List.replicate k 0) = 0 := by
  induction k with
  | zero => rfl
  | succ k ih => rw [List.replicate_succ]; simp [lb, ih]
theorem lb_lt (l : List Int) (h : ∀ x ∈ l, x = 0 ∨ x = 1) : lb l < 2 ^ l.length := by
  induction l with
  | nil => simp [lb]
  | cons c r ih =>
    have h1 := ih (fun x hx => h x (List.mem_cons_of_mem _ hx))
    have h2 := h c (by simp)
    simp only [lb, List.length_cons, Nat.pow_succ]
    omega
/-- bits without noughts at the end -/
def cutz (l : List Int) : List Int := (l.reverse.dropWhile (fun c => c == 0)).reverse
theorem cutz_snoc0 (l : List Int) : cutz (l ++ [0]) = cutz l := by unfold cutz; simp
theorem cutz_snoc1 (l : List Int) (c : Int) (h : c ≠ 0) : cutz (l ++ [c]) = l ++ [c] := by unfold cutz; simp [h]
theorem cutz_cons (c : Int) (l : List Int) : cutz (c :: l) = if cutz l = [] then (if c = 0 then [] else [c]) else c :: cutz l := by
  unfold cutz
  rw [List.reverse_cons, List.dropWhile_append]
  by_cases h : (l.reverse.dropWhile fun c => c == 0) = []
  · simp only [h, List.isEmpty_nil, if_true, List.reverse_nil, List.dropWhile_cons, List.dropWhile_nil]
    by_cases hc : c = 0 <;> simp [hc]
  · have : (l.reverse.dropWhile fun c => c == 0).isEmpty = false := by simpa using h
    simp only [this, Bool.false_eq_true, if_false, List.reverse_append, List.reverse_cons, List.reverse_nil, List.nil_append, List.reverse_eq_nil_iff, h]
    rfl
/-- the canonical bits of a number -/
theorem cutz_eq (l : List Int) (h : ∀ x ∈ l, x = 0 ∨ x = 1) : cutz l = tb (lb l) := by
  induction l with
  | nil => rfl
  | cons c r ih =>
    have h1 := ih (fun x hx => h x (List.mem_cons_of_mem _ hx))
    have h2 := h c (by simp)
    rw [cutz_cons, h1]
    simp only [lb]
    by_cases hr : lb r = 0
    · rw [hr, tb_zero, if_pos rfl]
      rcases h2 with rfl | rfl
      · rfl
      · rfl
    · have hn : ¬ tb (lb r) = [] := by rw [tb_pos _ (by omega)]; simp
      rw [if_neg hn, tb_pos (c.toNat + 2 * lb r) (by omega)]
      congr 1
      · omega
      · congr 1; omega
theorem tb_inj {a b : Nat} (h : tb a = tb b) : a = b := by rw [← lb_tb a, h, lb_tb]
theorem tb_nil_iff (n : Nat) : tb n = [] ↔ n = 0 := ⟨fun h => tb_inj (h.trans tb_zero.symm), fun h => by rw [h]; rfl⟩
theorem tb_len_le : ∀ (k n : Nat), n < 2 ^ k → (tb n).length ≤ k
  | 0, n, h => by simp at h; subst h; simp [tb_zero]
  | k + 1, n, h => by
    by_cases hz : n = 0
    · subst hz; simp [tb_zero]
    · rw [tb_pos n (by omega), List.length_cons]
      have := tb_len_le k (n / 2) (by rw [Nat.pow_succ] at h; omega)
      omega
theorem tb_len_ge : ∀ (k n : Nat), 2 ^ k ≤ n → k + 1 ≤ (tb n).length
  | 0, n, h => by
    rw [tb_pos n (by simp at h; omega), List.length_cons]; omega
  | k + 1, n, h => by
    have h1 : 0 < 2 ^ (k + 1) := Nat.pow_pos (by decide)
    rw [tb_pos n (by omega), List.length_cons]
    have := tb_len_ge k (n / 2) (by rw [Nat.pow_succ] at h; omega)
    omega

/-! ### binomials -/
def bin : Nat → Nat → Nat
  | _, 0 => 1
  | 0, _ + 1 => 0
  | n + 1, k + 1 => bin n k + bin n (k + 1)
theorem bin_zero (n : Nat) : bin n 0 = 1 := by cases n <;> rfl
theorem bin_succ (n k : Nat) : bin (n + 1) (k + 1) = bin n k + bin n (k + 1) := rfl
theorem bin_big : ∀ (n k : Nat), n < k → bin n k = 0
  | _, 0, h => by omega
  | 0, k + 1, _ => rfl
  | n + 1, k + 1, h => by rw [bin_succ, bin_big n k (by omega), bin_big n (k + 1) (by omega)]
theorem bin_self : ∀ n, bin n n = 1
  | 0 => rfl
  | n + 1 => by rw [bin_succ, bin_self n, bin_big n (n + 1) (by omega)]
theorem bin_mul : ∀ (n k : Nat), k ≤ n → bin n (k + 1) * (k + 1) = bin n k * (n - k)
  | 0, k, h => by
    have : k = 0 := by omega
    subst this; rfl
  | n + 1, 0, _ => by
    have h := bin_mul n 0 (by omega)
    rw [bin_succ, bin_zero, bin_zero]
    rw [bin_zero] at h
    simp at h ⊢
    omega
  | n + 1, k + 1, h => by
    have h1 := bin_mul n k (by omega)
    rw [bin_succ n (k + 1), bin_succ n k]
    by_cases hk : k + 1 ≤ n
    · have h2 := bin_mul n (k + 1) hk
      have e1 : n + 1 - (k + 1) = n - k := by omega
      obtain ⟨d, hd⟩ : ∃ d, n - k = d + 1 := ⟨n - k - 1, by omega⟩
      have e2 : n - (k + 1) = d := by omega
      rw [e1, hd]
      rw [hd] at h1
      rw [e2] at h2
      simp only [Nat.add_mul, Nat.mul_add, Nat.mul_one] at h1 h2 ⊢
      omega
    · have : k = n := by omega
      subst this
      rw [bin_big k (k + 1) (by omega), bin_big k (k + 1 + 1) (by omega), bin_self]
      simp
theorem bin_symm : ∀ (n k : Nat), k ≤ n → bin n k = bin n (n - k)
  | 0, k, h => by
    have : k = 0 := by omega
    subst this; rfl
  | n + 1, 0, _ => by rw [bin_zero, Nat.sub_zero, bin_self]
  | n + 1, k + 1, h => by
    by_cases hk : k = n
    · subst hk; rw [bin_self, Nat.sub_self, bin_zero]
    · have h1 := bin_symm n k (by omega)
      have h2 := bin_symm n (k + 1) (by omega)
      rw [bin_succ, h1, h2, show n + 1 - (k + 1) = (n - (k + 1)) + 1 from by omega, bin_succ, show n - (k + 1) + 1 = n - k from by omega]
      omega
/-- the sum of f 0 .. f (n - 1) -/
def sumn (f : Nat → Nat) : Nat → Nat
  | 0 => 0
  | n + 1 => sumn f n + f n
theorem sumn_congr {f g : Nat → Nat} : ∀ n, (∀ i, i < n → f i = g i) → sumn f n = sumn g n
  | 0, _ => rfl
  | n + 1, h => by simp only [sumn]; rw [sumn_congr n (fun i hi => h i (by omega)), h n (by omega)]
theorem sumn_add (f g : Nat → Nat) : ∀ n, sumn (fun i => f i + g i) n = sumn f n + sumn g n
  | 0 => rfl
  | n + 1 => by simp only [sumn]; rw [sumn_add f g n]; omega
theorem sumn_zero : ∀ n, sumn (fun _ => 0) n = 0
  | 0 => rfl
  | n + 1 => by simp only [sumn]; rw [sumn_zero n]
theorem sumn_front (f : Nat → Nat) : ∀ n, sumn f (n + 1) = f 0 + sumn (fun i => f (i + 1)) n
  | 0 => by simp [sumn]
  | n + 1 => by rw [sumn, sumn_front f n]; simp only [sumn]; omega
/-- Vandermonde's rule -/
theorem vander : ∀ (a b k : Nat), sumn (fun j => bin a j * bin b (k - j)) (k + 1) = bin (a + b) k
  | 0, b, k => by
    rw [sumn_front]
    have : sumn (fun i => bin 0 (i + 1) * bin b (k - (i + 1))) k = sumn (fun _ => 0) k := sumn_congr k (fun i _ => by show 0 * _ = 0; simp)
    rw [this, sumn_zero, bin_zero, Nat.zero_add]; simp
  | a + 1, b, 0 => by simp [sumn, bin_zero]
  | a + 1, b, k + 1 => by
    rw [sumn_front]
    have h1 : sumn (fun i => bin (a + 1) (i + 1) * bin b (k + 1 - (i + 1))) (k + 1) = sumn (fun i => bin a i * bin b (k - i)) (k + 1) + sumn (fun i => bin a (i + 1) * bin b (k - i)) (k + 1) := by
      rw [← sumn_add]
      refine sumn_congr _ fun i _ => ?_
      rw [bin_succ, show k + 1 - (i + 1) = k - i from by omega, Nat.add_mul]
    rw [h1, vander a b k]
    have h2 := vander a b (k + 1)
    rw [sumn_front] at h2
    have h3 : sumn (fun i => bin a (i + 1) * bin b (k + 1 - (i + 1))) (k + 1) = sumn (fun i => bin a (i + 1) * bin b (k - i)) (k + 1) := sumn_congr _ fun i _ => by rw [show k + 1 - (i + 1) = k - i from by omega]
    rw [h3] at h2
    rw [show a + 1 + b = (a + b) + 1 from by omega, bin_succ, ← h2]
    simp only [bin_zero, Nat.sub_zero, Nat.one_mul]
    omega
theorem bin_le_pow : ∀ (n k : Nat), bin n k ≤ 2 ^ n
  | 0, 0 => by decide
  | 0, k + 1 => by show 0 ≤ _; omega
  | n + 1, 0 => by rw [bin_zero]; exact Nat.one_le_two_pow
  | n + 1, k + 1 => by rw [bin_succ, Nat.pow_succ]; have := bin_le_pow n k; have := bin_le_pow n (k + 1); omega
theorem bin_mono : ∀ (n m k : Nat), n ≤ m → bin n k ≤ bin m k
  | n, 0, k, h => by
    have : n = 0 := by omega
    subst this; exact Nat.le_refl _
  | n, m + 1, k, h => by
    by_cases e : n = m + 1
    · subst e; exact Nat.le_refl _
    · refine Nat.le_trans (bin_mono n m k (by omega)) ?_
      cases k with
      | zero => rw [bin_zero, bin_zero]; exact Nat.le_refl _
      | succ k => rw [bin_succ]; omega
end Go.Proofs.Bl

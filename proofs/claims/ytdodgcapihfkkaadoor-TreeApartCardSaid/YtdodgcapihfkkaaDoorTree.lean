/- Trees of digests, plainly: the root of a row, level by level and by halves; the peaks of a tree that grows. No program. -/
import Derived.Test.YtdodgcapihfkkaaDoorPlain12
namespace Go.Proofs.Bl
open Go
section
variable {D : Type} (nd : D → D → D) (z : D)

def overN : Nat → List D → D
  | 0, _ => z
  | f + 1, l => if l.length < 2 then l.headD z else nd (overN f (l.take (sp l.length))) (overN f (l.drop (sp l.length)))
/-- the root of a row, by halves -/
def over (l : List D) : D := overN nd z l.length l

theorem overN_fuel : ∀ (f g : Nat) (l : List D), l.length ≤ f → l.length ≤ g → l.length < 2 ^ 63 → overN nd z f l = overN nd z g l
  | 0, 0, _, _, _, _ => rfl
  | 0, g + 1, l, h, _, _ => by
    have : l = [] := List.length_eq_zero_iff.1 (by omega)
    subst this; simp [overN]
  | f + 1, 0, l, _, h, _ => by
    have : l = [] := List.length_eq_zero_iff.1 (by omega)
    subst this; simp [overN]
  | f + 1, g + 1, l, h, k, hn => by
    simp only [overN]
    split
    · rfl
    · obtain ⟨a, b, c⟩ := sp_bounds l.length (by omega) hn
      rw [overN_fuel f g (l.take (sp l.length)) (by rw [List.length_take]; omega) (by rw [List.length_take]; omega) (by rw [List.length_take]; omega),
        overN_fuel f g (l.drop (sp l.length)) (by rw [List.length_drop]; omega) (by rw [List.length_drop]; omega) (by rw [List.length_drop]; omega)]
theorem over_nil : over nd z [] = z := rfl
theorem over_one (d : D) : over nd z [d] = d := by simp [over, overN]
theorem over_hi (l : List D) (h : 2 ≤ l.length) (hn : l.length < 2 ^ 63) : over nd z l = nd (over nd z (l.take (sp l.length))) (over nd z (l.drop (sp l.length))) := by
  obtain ⟨a, b, c⟩ := sp_bounds l.length h hn
  unfold over
  rw [overN_fuel nd z l.length (l.length - 1 + 1) l (by omega) (by omega) hn]
  simp only [overN]
  rw [if_neg (by omega)]
  rw [overN_fuel nd z (l.length - 1) (l.take (sp l.length)).length (l.take (sp l.length)) (by rw [List.length_take]; omega) (Nat.le_refl _) (by rw [List.length_take]; omega),
    overN_fuel nd z (l.length - 1) (l.drop (sp l.length)).length (l.drop (sp l.length)) (by rw [List.length_drop]; omega) (Nat.le_refl _) (by rw [List.length_drop]; omega)]

/-- a row's next level: pairs; an odd last one goes up as it is -/
def up : List D → List D
  | a :: b :: r => nd a b :: up r
  | l => l
theorem up_length : ∀ (l : List D), (up nd l).length = (l.length + 1) / 2
  | [] => by simp [up]
  | [a] => by simp [up]
  | a :: b :: r => by simp only [up, List.length_cons, up_length r]; omega
theorem up_append : ∀ (k : Nat) (a b : List D), a.length = 2 * k → up nd (a ++ b) = up nd a ++ up nd b
  | 0, a, b, h => by
    have : a = [] := List.length_eq_zero_iff.1 (by omega)
    subst this; simp [up]
  | k + 1, [], b, h => by simp at h
  | k + 1, [x], b, h => by simp at h; omega
  | k + 1, x :: y :: r, b, h => by
    simp only [List.cons_append, up]
    rw [up_append k r b (by simp at h; omega)]

theorem over_up : ∀ (n : Nat) (l : List D), l.length = n → l.length < 2 ^ 63 → over nd z (up nd l) = over nd z l := by
  intro n
  induction n using Nat.strongRecOn with
  | _ n ih =>
    intro l hl hn
    match l, hl with
    | [], _ => simp [up]
    | [a], _ => simp [up]
    | [a, b], _ =>
      rw [over_hi nd z [a, b] (by simp) (by simp)]
      have : sp 2 = 1 := by decide +kernel
      simp [up, this, over_one]
    | a :: b :: c :: r, hl =>
      obtain ⟨l, hl0⟩ : ∃ l, l = a :: b :: c :: r := ⟨_, rfl⟩
      rw [← hl0] at hl hn ⊢
      have h3 : 3 ≤ l.length := by rw [hl0]; simp
      obtain ⟨d1, d2, d3, d4⟩ := dp_bounds l.length (by omega) hn
      have hsp := sp_pow l.length (by omega)
      obtain ⟨j, hj⟩ : ∃ j, dp l.length = j + 2 := ⟨dp l.length - 2, by
        have : dp l.length ≠ 1 := fun q => by rw [q] at d4; simp at d4; omega
        omega⟩
      rw [hj] at d3 d4 hsp
      simp only [show j + 2 - 1 = j + 1 from rfl] at d3 hsp
      obtain ⟨s1, s2, s3⟩ := sp_bounds l.length (by omega) hn
      have hul := up_length nd l
      have e1 : 2 ^ (j + 1) = 2 * 2 ^ j := by rw [Nat.pow_succ]; omega
      have e2 : 2 ^ (j + 2) = 4 * 2 ^ j := by rw [Nat.pow_succ, Nat.pow_succ]; omega
      have hp := Nat.one_le_two_pow (n := j)
      have hsu : sp (up nd l).length = 2 ^ j := sp_of_pow _ j (by omega) (by omega) (by omega)
      rw [over_hi nd z l (by omega) hn, over_hi nd z (up nd l) (by omega) (by omega), hsu, hsp]
      have hk : l = l.take (2 ^ (j + 1)) ++ l.drop (2 ^ (j + 1)) := (List.take_append_drop _ _).symm
      have htl : (l.take (2 ^ (j + 1))).length = 2 * 2 ^ j := by rw [List.length_take]; omega
      have hu : up nd l = up nd (l.take (2 ^ (j + 1))) ++ up nd (l.drop (2 ^ (j + 1))) := by
        conv => lhs; rw [hk]
        exact up_append nd _ _ _ htl
      have hut : (up nd (l.take (2 ^ (j + 1)))).length = 2 ^ j := by rw [up_length, htl]; omega
      rw [hu, List.take_append_of_le_length (by omega), List.take_of_length_le (by omega), List.drop_append_of_le_length (by omega), List.drop_of_length_le (by omega), List.nil_append]
      rw [ih _ (by omega) (l.take (2 ^ (j + 1))) rfl (by omega), ih _ (by rw [List.length_drop]; omega) (l.drop (2 ^ (j + 1))) rfl (by rw [List.length_drop]; omega)]

theorem up_lt (l : List D) (h : 2 ≤ l.length) : (up nd l).length < l.length := by rw [up_length]; omega

/-! ### the peaks of a tree that grows -/
/-- the greatest power of two that is at most n -/
def gp (n : Nat) : Nat := sp (n + 1)
theorem gp_of_pow (n j : Nat) (hn : n + 1 < 2 ^ 63) (a : 2 ^ j ≤ n) (b : n < 2 ^ j * 2) : gp n = 2 ^ j := sp_of_pow _ j hn (by omega) (by omega)
theorem gp_pow (n : Nat) (h : 1 ≤ n) (hn : n + 1 < 2 ^ 63) : ∃ j, gp n = 2 ^ j ∧ 2 ^ j ≤ n ∧ n < 2 ^ j * 2 := by
  have h1 := sp_pow (n + 1) (by omega)
  obtain ⟨d1, d2, d3, d4⟩ := dp_bounds (n + 1) (by omega) hn
  refine ⟨dp (n + 1) - 1, h1, by omega, ?_⟩
  have : 2 ^ dp (n + 1) = 2 ^ (dp (n + 1) - 1) * 2 := by rw [← Nat.pow_succ]; congr 1; omega
  omega
def peaksN : Nat → List D → List D
  | 0, _ => []
  | f + 1, l => if l.length = 0 then [] else over nd z (l.take (gp l.length)) :: peaksN f (l.drop (gp l.length))
def peaks (l : List D) : List D := peaksN nd z l.length l
theorem peaksN_fuel : ∀ (f g : Nat) (l : List D), l.length ≤ f → l.length ≤ g → l.length + 1 < 2 ^ 63 → peaksN nd z f l = peaksN nd z g l
  | 0, 0, _, _, _, _ => rfl
  | 0, g + 1, l, h, _, _ => by simp only [peaksN]; rw [if_pos (by omega)]
  | f + 1, 0, l, _, h, _ => by simp only [peaksN]; rw [if_pos (by omega)]
  | f + 1, g + 1, l, h, k, hn => by
    simp only [peaksN]
    split
    · rfl
    · obtain ⟨j, h1, h2, h3⟩ := gp_pow l.length (by omega) hn
      have := Nat.one_le_two_pow (n := j)
      rw [peaksN_fuel f g (l.drop (gp l.length)) (by rw [List.length_drop]; omega) (by rw [List.length_drop]; omega) (by rw [List.length_drop]; omega)]
theorem peaks_nil : peaks nd z [] = [] := rfl
theorem peaks_hi (l : List D) (h : 1 ≤ l.length) (hn : l.length + 1 < 2 ^ 63) : peaks nd z l = over nd z (l.take (gp l.length)) :: peaks nd z (l.drop (gp l.length)) := by
  obtain ⟨j, h1, h2, h3⟩ := gp_pow l.length h hn
  have := Nat.one_le_two_pow (n := j)
  unfold peaks
  rw [peaksN_fuel nd z l.length (l.length - 1 + 1) l (by omega) (by omega) hn]
  simp only [peaksN]
  rw [if_neg (by omega)]
  rw [peaksN_fuel nd z (l.length - 1) (l.drop (gp l.length)).length (l.drop (gp l.length)) (by rw [List.length_drop]; omega) (Nat.le_refl _) (by rw [List.length_drop]; omega)]

/-- how many ones a number ends with -/
def trailN : Nat → Nat → Nat
  | 0, _ => 0
  | f + 1, n => if n % 2 = 1 then trailN f (n / 2) + 1 else 0
def trail (n : Nat) : Nat := trailN n n
theorem trailN_fuel : ∀ (f g n : Nat), n ≤ f → n ≤ g → trailN f n = trailN g n
  | 0, 0, _, _, _ => rfl
  | 0, g + 1, n, h, _ => by simp only [trailN]; rw [if_neg (by omega)]
  | f + 1, 0, n, _, h => by simp only [trailN]; rw [if_neg (by omega)]
  | f + 1, g + 1, n, h, k => by
    simp only [trailN]
    split
    · rw [trailN_fuel f g (n / 2) (by omega) (by omega)]
    · rfl
theorem trail_odd (n : Nat) (h : n % 2 = 1) : trail n = trail (n / 2) + 1 := by
  unfold trail
  rw [trailN_fuel n (n - 1 + 1) n (by omega) (by omega)]
  simp only [trailN]
  rw [if_pos h, trailN_fuel (n - 1) (n / 2) (n / 2) (by omega) (Nat.le_refl _)]
theorem trail_even (n : Nat) (h : n % 2 = 0) : trail n = 0 := by
  unfold trail
  cases n with
  | zero => rfl
  | succ n => simp only [trailN]; rw [if_neg (by omega)]
/-- trailing ones of 2^j + r, r below 2^j - 1 -/
theorem trail_add : ∀ (j r : Nat), r + 1 < 2 ^ j → trail (2 ^ j + r) = trail r
  | 0, r, h => by simp at h
  | j + 1, r, h => by
    have e : 2 ^ (j + 1) = 2 * 2 ^ j := by rw [Nat.pow_succ]; omega
    by_cases hr : r % 2 = 1
    · rw [trail_odd (2 ^ (j + 1) + r) (by omega), trail_odd r hr, show (2 ^ (j + 1) + r) / 2 = 2 ^ j + r / 2 from by omega, trail_add j (r / 2) (by omega)]
    · rw [trail_even (2 ^ (j + 1) + r) (by omega), trail_even r (by omega)]
theorem trail_ones : ∀ (j : Nat), trail (2 ^ j - 1) = j
  | 0 => rfl
  | j + 1 => by
    have e : 2 ^ (j + 1) = 2 * 2 ^ j := by rw [Nat.pow_succ]; omega
    have := Nat.one_le_two_pow (n := j)
    rw [trail_odd _ (by omega), show (2 ^ (j + 1) - 1) / 2 = 2 ^ j - 1 from by omega, trail_ones j]

/-- a peak more, as in counting: the last t peaks are taken into it -/
def carry (t : Nat) (ps : List D) (d : D) : List D := ps.take (ps.length - t) ++ [(ps.drop (ps.length - t)).foldr nd d]
theorem carry_cons (t : Nat) (p : D) (ps : List D) (d : D) (h : t ≤ ps.length) : carry nd t (p :: ps) d = p :: carry nd t ps d := by
  unfold carry
  rw [List.length_cons, show ps.length + 1 - t = (ps.length - t) + 1 from by omega]
  rfl
/-- full rows -/
theorem peaks_ones : ∀ (j : Nat) (l : List D) (x : D), l.length + 1 = 2 ^ j → j ≤ 62 → (peaks nd z l).length = j ∧ (peaks nd z l).foldr nd x = over nd z (l ++ [x])
  | 0, l, x, h, _ => by
    have : l = [] := List.length_eq_zero_iff.1 (by simp at h; exact List.length_eq_zero_iff.2 h)
    subst this
    exact ⟨rfl, by simp [peaks_nil, over_one]⟩
  | j + 1, l, x, h, hj => by
    have e : 2 ^ (j + 1) = 2 * 2 ^ j := by rw [Nat.pow_succ]; omega
    have hp := Nat.one_le_two_pow (n := j)
    have hb : 2 ^ (j + 1) ≤ 2 ^ 62 := Nat.pow_le_pow_right (by decide) hj
    have hg : gp l.length = 2 ^ j := gp_of_pow _ j (by omega) (by omega) (by omega)
    obtain ⟨i1, i2⟩ := peaks_ones j (l.drop (2 ^ j)) x (by rw [List.length_drop]; omega) (by omega)
    rw [peaks_hi nd z l (by omega) (by omega), hg]
    refine ⟨by simp [i1], ?_⟩
    have hs : sp (l ++ [x]).length = 2 ^ j := sp_of_pow _ j (by simp; omega) (by simp; omega) (by simp; omega)
    rw [List.foldr_cons, i2, over_hi nd z (l ++ [x]) (by simp; omega) (by simp; omega), hs, List.take_append_of_le_length (by omega), List.drop_append_of_le_length (by omega)]
theorem peaks_trail : ∀ (n : Nat) (l : List D), l.length = n → n + 1 < 2 ^ 62 → trail n ≤ (peaks nd z l).length := by
  intro n
  induction n using Nat.strongRecOn with
  | _ n ih =>
    intro l hl hn
    by_cases h0 : n = 0
    · subst h0; show 0 ≤ _; omega
    · obtain ⟨j, h1, h2, h3⟩ := gp_pow n (by omega) (by omega)
      have hp := Nat.one_le_two_pow (n := j)
      rw [peaks_hi nd z l (by omega) (by omega), hl, h1]
      by_cases hf : n + 1 = 2 ^ j * 2
      · have := (peaks_ones nd z j (l.drop (2 ^ j)) z (by rw [List.length_drop]; omega) (by
          have : j < 63 := (Nat.pow_lt_pow_iff_right (a := 2) (by decide)).1 (by omega)
          omega)).1
        rw [List.length_cons, this, show n = 2 ^ (j + 1) - 1 from by rw [Nat.pow_succ]; omega, trail_ones]
        omega
      · have := ih (n - 2 ^ j) (by omega) (l.drop (2 ^ j)) (by rw [List.length_drop]; omega) (by omega)
        rw [show n = 2 ^ j + (n - 2 ^ j) from by omega, trail_add j _ (by omega), List.length_cons]
        omega
theorem peaks_snoc : ∀ (n : Nat) (l : List D) (x : D), l.length = n → n + 1 < 2 ^ 62 → peaks nd z (l ++ [x]) = carry nd (trail n) (peaks nd z l) x := by
  intro n
  induction n using Nat.strongRecOn with
  | _ n ih =>
    intro l x hl hn
    by_cases h0 : n = 0
    · have : l = [] := List.length_eq_zero_iff.1 (by omega)
      subst this h0
      rw [peaks_hi nd z ([] ++ [x]) (by simp) (by simp)]
      have : gp 1 = 1 := by decide +kernel
      simp [this, over_one, peaks_nil, carry]
    · obtain ⟨j, h1, h2, h3⟩ := gp_pow n (by omega) (by omega)
      have hp := Nat.one_le_two_pow (n := j)
      by_cases hf : n + 1 = 2 ^ j * 2
      · have hj : j + 1 ≤ 62 := by
          have : j < 62 := (Nat.pow_lt_pow_iff_right (a := 2) (by decide)).1 (by omega)
          omega
        obtain ⟨i1, i2⟩ := peaks_ones nd z (j + 1) l x (by rw [Nat.pow_succ]; omega) hj
        have hg : gp (l ++ [x]).length = 2 ^ (j + 1) := gp_of_pow _ (j + 1) (by simp; omega) (by simp [Nat.pow_succ]; omega) (by simp [Nat.pow_succ]; omega)
        rw [peaks_hi nd z (l ++ [x]) (by simp) (by simp; omega), hg, List.take_of_length_le (by simp [Nat.pow_succ]; omega), List.drop_of_length_le (by simp [Nat.pow_succ]; omega), peaks_nil]
        unfold carry
        rw [show n = 2 ^ (j + 1) - 1 from by rw [Nat.pow_succ]; omega, trail_ones, i1, Nat.sub_self, List.take_zero, List.drop_zero, i2]; rfl
      · have hg : gp (l ++ [x]).length = 2 ^ j := gp_of_pow _ j (by simp; omega) (by simp; omega) (by simp; omega)
        rw [peaks_hi nd z (l ++ [x]) (by simp) (by simp; omega), hg, peaks_hi nd z l (by omega) (by omega), hl, h1, List.take_append_of_le_length (by omega), List.drop_append_of_le_length (by omega)]
        have hdl : (l.drop (2 ^ j)).length = n - 2 ^ j := by rw [List.length_drop]; omega
        rw [ih (n - 2 ^ j) (by omega) (l.drop (2 ^ j)) x hdl (by omega)]
        conv => rhs; rw [show n = 2 ^ j + (n - 2 ^ j) from by omega, trail_add j _ (by omega)]
        rw [carry_cons]
        exact peaks_trail nd z _ _ hdl (by omega)

/-- the root out of the peaks -/
def foldp : List D → D
  | [] => z
  | [d] => d
  | p :: r => nd p (foldp r)
theorem peaks_ne (l : List D) (h : 1 ≤ l.length) (hn : l.length + 1 < 2 ^ 63) : peaks nd z l ≠ [] := by rw [peaks_hi nd z l h hn]; simp
theorem foldp_cons (p : D) (r : List D) (h : r ≠ []) : foldp nd z (p :: r) = nd p (foldp nd z r) := by
  cases r with
  | nil => exact absurd rfl h
  | cons => rfl
theorem over_peaks : ∀ (n : Nat) (l : List D), l.length = n → n + 1 < 2 ^ 63 → foldp nd z (peaks nd z l) = over nd z l := by
  intro n
  induction n using Nat.strongRecOn with
  | _ n ih =>
    intro l hl hn
    by_cases h0 : n = 0
    · have : l = [] := List.length_eq_zero_iff.1 (by omega)
      subst this; rfl
    · obtain ⟨j, h1, h2, h3⟩ := gp_pow n (by omega) (by omega)
      have hp := Nat.one_le_two_pow (n := j)
      rw [peaks_hi nd z l (by omega) (by omega), hl, h1]
      have hdl : (l.drop (2 ^ j)).length = n - 2 ^ j := by rw [List.length_drop]; omega
      by_cases hf : n = 2 ^ j
      · rw [List.drop_of_length_le (by omega), List.take_of_length_le (by omega)]; rfl
      · rw [foldp_cons nd z _ _ (peaks_ne nd z _ (by omega) (by omega)), ih _ (by omega) _ hdl (by omega), over_hi nd z l (by omega) (by omega), sp_of_pow l.length j (by omega) (by omega) (by omega)]
end
end Go.Proofs.Bl

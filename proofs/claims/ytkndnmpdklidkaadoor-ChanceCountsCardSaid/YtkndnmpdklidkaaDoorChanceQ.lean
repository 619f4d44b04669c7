/- Sums, differences, products and quotients of big numbers, byte by byte, plainly. No program. -/
import Derived.Test.YtkndnmpdklidkaaDoorChanceP
import Derived.Test.YtkndnmpdklidkaaDoorBase
namespace Go.Proofs.Bl
open Go

/-- the number of the first k bytes, the low one first -/
def lew (A : List Int) : Nat → Nat
  | 0 => 0
  | k + 1 => lew A k + (A.getD k 0).toNat * 256 ^ k
theorem lew_append (a b : List Int) : ∀ k, k ≤ a.length → lew (a ++ b) k = lew a k
  | 0, _ => rfl
  | k + 1, h => by
    simp only [lew]
    rw [lew_append a b k (by omega), List.getD_eq_getElem?_getD, List.getElem?_append_left (by omega), ← List.getD_eq_getElem?_getD]
theorem lew_snoc (a : List Int) (c : Int) : lew (a ++ [c]) (a.length + 1) = lew a a.length + c.toNat * 256 ^ a.length := by
  simp only [lew]
  rw [lew_append a [c] _ (Nat.le_refl _)]
  simp
theorem lew_len (A : List Int) : lew A A.length = be A.reverse := by
  obtain ⟨n, hn⟩ : ∃ n, n = A.length := ⟨_, rfl⟩
  induction n generalizing A with
  | zero =>
    have : A = [] := List.length_eq_zero_iff.1 hn.symm
    subst this; rfl
  | succ n ih =>
    have hne : A ≠ [] := by intro q; subst q; simp at hn
    obtain ⟨q, c, rfl⟩ : ∃ q c, A = q ++ [c] := ⟨A.dropLast, A.getLast hne, (List.dropLast_concat_getLast hne).symm⟩
    rw [List.length_append, List.length_cons, List.length_nil, lew_snoc, List.reverse_append, List.reverse_cons, List.reverse_nil, List.nil_append, List.singleton_append, be_cons, ih q (by simp at hn; omega), List.length_reverse]
    omega
theorem lew_big (A : List Int) : ∀ k, A.length ≤ k → lew A k = be A.reverse
  | 0, h => by rw [← lew_len, show A.length = 0 from by omega]
  | k + 1, h => by
    by_cases e : A.length = k + 1
    · rw [← e, lew_len]
    · simp only [lew]
      rw [lew_big A k (by omega), List.getD_eq_getElem?_getD, List.getElem?_eq_none (by omega)]; simp
theorem lew_lt (A : List Int) (h : Byt A) : ∀ k, lew A k < 256 ^ k
  | 0 => by simp [lew]
  | k + 1 => by
    simp only [lew, Nat.pow_succ]
    have h1 := lew_lt A h k
    have h2 := h.get k
    have h3 : (A.getD k 0).toNat ≤ 255 := by omega
    have h4 : (A.getD k 0).toNat * 256 ^ k ≤ 255 * 256 ^ k := Nat.mul_le_mul_right _ h3
    omega
theorem lew_mono (A : List Int) (k : Nat) : ∀ d, lew A k ≤ lew A (k + d)
  | 0 => Nat.le_refl _
  | d + 1 => Nat.le_trans (lew_mono A k d) (by rw [← Nat.add_assoc]; simp only [lew]; omega)
/-- the bytes from k on make a multiple of 256 ^ k -/
theorem lew_split (A : List Int) (k : Nat) : ∀ d, ∃ q, lew A (k + d) = lew A k + q * 256 ^ k
  | 0 => ⟨0, by simp⟩
  | d + 1 => by
    obtain ⟨q, hq⟩ := lew_split A k d
    refine ⟨q + (A.getD (k + d) 0).toNat * 256 ^ d, ?_⟩
    rw [← Nat.add_assoc]
    simp only [lew, hq]
    rw [Nat.add_mul, Nat.pow_add, Nat.mul_assoc, Nat.mul_comm (256 ^ d), Nat.add_assoc]
theorem byt_rev {l : List Int} (h : Byt l) : Byt l.reverse := fun x hx => h x (List.mem_reverse.1 hx)

/-- sums, byte by byte: the bytes, and what is carried -/
def addc (A B : List Int) : Nat → List Int × Int
  | 0 => ([], 0)
  | k + 1 => ((addc A B k).1 ++ [((addc A B k).2 + (A.getD k 0 + B.getD k 0)) % 256], ((addc A B k).2 + (A.getD k 0 + B.getD k 0)) / 256)
theorem addc_spec (A B : List Int) (ha : Byt A) (hb : Byt B) : ∀ k, (addc A B k).1.length = k ∧ 0 ≤ (addc A B k).2 ∧ (addc A B k).2 ≤ 1 ∧ Byt (addc A B k).1 ∧ lew (addc A B k).1 k + (addc A B k).2.toNat * 256 ^ k = lew A k + lew B k
  | 0 => ⟨rfl, Int.le_refl 0, (by decide : (0 : Int) ≤ 1), Byt.nil, rfl⟩
  | k + 1 => by
    obtain ⟨h1, h2, h3, h4, h5⟩ := addc_spec A B ha hb k
    have hA := ha.get k
    have hB := hb.get k
    simp only [addc]
    obtain ⟨a, hae⟩ : ∃ a, a = A.getD k 0 := ⟨_, rfl⟩
    obtain ⟨b, hbe⟩ : ∃ b, b = B.getD k 0 := ⟨_, rfl⟩
    rw [← hae] at hA
    rw [← hbe] at hB
    simp only [← hae, ← hbe, lew]
    generalize addc A B k = o at *
    obtain ⟨o1, o2⟩ := o
    simp only at *
    subst h1
    refine ⟨by simp, by omega, by omega, h4.append (fun x hx => by simp at hx; subst hx; omega), ?_⟩
    rw [lew_append _ _ _ (Nat.le_refl _)]
    have e1 : ((o1 ++ [(o2 + (a + b)) % 256]).getD o1.length 0) = (o2 + (a + b)) % 256 := by rw [List.getD_eq_getElem?_getD]; simp
    rw [e1]
    have e2 : ((o2 + (a + b)) % 256).toNat + ((o2 + (a + b)) / 256).toNat * 256 = o2.toNat + a.toNat + b.toNat := by omega
    have e3 : ((o2 + (a + b)) % 256).toNat * 256 ^ o1.length + ((o2 + (a + b)) / 256).toNat * 256 ^ (o1.length + 1) = (o2.toNat + a.toNat + b.toNat) * 256 ^ o1.length := by
      rw [← e2, Nat.add_mul, Nat.pow_succ, Nat.mul_comm (256 ^ o1.length) 256, Nat.mul_assoc]
    rw [Nat.add_mul, Nat.add_mul] at e3
    omega
theorem addc_end (A B : List Int) (ha : Byt A) (hb : Byt B) : lew (addc A B (max A.length B.length + 1)).1 (max A.length B.length + 1) = be A.reverse + be B.reverse := by
  obtain ⟨h1, h2, h3, h4, h5⟩ := addc_spec A B ha hb (max A.length B.length)
  obtain ⟨g1, g2, g3, g4, g5⟩ := addc_spec A B ha hb (max A.length B.length + 1)
  have e1 : A.getD (max A.length B.length) 0 = 0 := by rw [List.getD_eq_getElem?_getD, List.getElem?_eq_none (by omega)]; rfl
  have e2 : B.getD (max A.length B.length) 0 = 0 := by rw [List.getD_eq_getElem?_getD, List.getElem?_eq_none (by omega)]; rfl
  have e3 : (addc A B (max A.length B.length + 1)).2 = 0 := by
    simp only [addc, e1, e2]; omega
  rw [e3, lew_big A _ (by omega), lew_big B _ (by omega)] at g5
  simpa using g5
theorem add_eq (a b : List Int) (ha : Byt a) (hb : Byt b) : trimz (addc a.reverse b.reverse (max a.length b.length + 1)).1.reverse = tob (be a + be b) := by
  obtain ⟨g1, g2, g3, g4, g5⟩ := addc_spec a.reverse b.reverse (byt_rev ha) (byt_rev hb) (max a.length b.length + 1)
  have h := addc_end a.reverse b.reverse (byt_rev ha) (byt_rev hb)
  rw [List.length_reverse, List.length_reverse, List.reverse_reverse, List.reverse_reverse] at h
  rw [trimz_eq _ (byt_rev g4), ← lew_big _ _ (Nat.le_of_eq g1), h]

/-- differences, byte by byte: the bytes, and what is owed -/
def subc (A B : List Int) : Nat → List Int × Int
  | 0 => ([], 0)
  | k + 1 => if A.getD k 0 - B.getD k 0 - (subc A B k).2 < 0 then ((subc A B k).1 ++ [A.getD k 0 - B.getD k 0 - (subc A B k).2 + 256], 1) else ((subc A B k).1 ++ [A.getD k 0 - B.getD k 0 - (subc A B k).2], 0)
theorem subc_spec (A B : List Int) (ha : Byt A) (hb : Byt B) : ∀ k, (subc A B k).1.length = k ∧ 0 ≤ (subc A B k).2 ∧ (subc A B k).2 ≤ 1 ∧ Byt (subc A B k).1 ∧ lew (subc A B k).1 k + lew B k = lew A k + (subc A B k).2.toNat * 256 ^ k
  | 0 => ⟨rfl, Int.le_refl 0, (by decide : (0 : Int) ≤ 1), Byt.nil, rfl⟩
  | k + 1 => by
    obtain ⟨h1, h2, h3, h4, h5⟩ := subc_spec A B ha hb k
    have hA := ha.get k
    have hB := hb.get k
    simp only [subc]
    obtain ⟨a, hae⟩ : ∃ a, a = A.getD k 0 := ⟨_, rfl⟩
    obtain ⟨b, hbe⟩ : ∃ b, b = B.getD k 0 := ⟨_, rfl⟩
    rw [← hae] at hA
    rw [← hbe] at hB
    simp only [← hae, ← hbe, lew]
    generalize subc A B k = o at *
    obtain ⟨o1, o2⟩ := o
    simp only at *
    subst h1
    have key : ∀ d : Int, 0 ≤ d → d ≤ 255 → ∀ w : Int, 0 ≤ w → w ≤ 1 → d + b + o2 = a + 256 * w → (o1 ++ [d]).length = o1.length + 1 ∧ 0 ≤ w ∧ w ≤ 1 ∧ Byt (o1 ++ [d]) ∧ lew (o1 ++ [d]) o1.length + ((o1 ++ [d]).getD o1.length 0).toNat * 256 ^ o1.length + (lew B o1.length + b.toNat * 256 ^ o1.length) = lew A o1.length + a.toNat * 256 ^ o1.length + w.toNat * 256 ^ (o1.length + 1) := by
      intro d hd1 hd2 w hw1 hw2 he
      refine ⟨by simp, hw1, hw2, h4.append (fun x hx => by simp at hx; subst hx; omega), ?_⟩
      rw [lew_append _ _ _ (Nat.le_refl _)]
      have e1 : ((o1 ++ [d]).getD o1.length 0) = d := by rw [List.getD_eq_getElem?_getD]; simp
      rw [e1]
      have e2 : d.toNat + b.toNat + o2.toNat = a.toNat + 256 * w.toNat := by omega
      have e3 : (d.toNat + b.toNat + o2.toNat) * 256 ^ o1.length = (a.toNat + 256 * w.toNat) * 256 ^ o1.length := by rw [e2]
      rw [Nat.add_mul, Nat.add_mul, Nat.add_mul] at e3
      rw [Nat.pow_succ, Nat.mul_comm (256 ^ o1.length) 256, ← Nat.mul_assoc, Nat.mul_comm w.toNat 256]
      omega
    split
    · exact key _ (by omega) (by omega) 1 (by decide) (by decide) (by omega)
    · exact key _ (by omega) (by omega) 0 (by decide) (by decide) (by omega)
theorem sub_eq (a b : List Int) (ha : Byt a) (hb : Byt b) (hle : be b ≤ be a) : trimz (subc a.reverse b.reverse a.length).1.reverse = tob (be a - be b) := by
  obtain ⟨g1, g2, g3, g4, g5⟩ := subc_spec a.reverse b.reverse (byt_rev ha) (byt_rev hb) a.length
  rw [trimz_eq _ (byt_rev g4), ← lew_big _ _ (Nat.le_of_eq g1)]
  have h1 : lew a.reverse a.length = be a := by have := lew_big a.reverse a.length (by simp); rwa [List.reverse_reverse] at this
  have h2 : lew b.reverse a.length = be b := by
    obtain ⟨q, hq⟩ := lew_split b.reverse a.length b.length
    have h3 : lew b.reverse (a.length + b.length) = be b := by have := lew_big b.reverse (a.length + b.length) (by simp); rwa [List.reverse_reverse] at this
    rw [h3] at hq
    have h4 := be_lt a ha
    have : q = 0 := by
      rcases Nat.eq_zero_or_pos q with h | h
      · exact h
      · exfalso
        have := Nat.mul_le_mul_right (256 ^ a.length) h
        omega
    subst this; omega
  rw [h1, h2] at g5
  have h5 := lew_lt _ g4 a.length
  have h6 := be_lt a ha
  congr 1
  have : (subc a.reverse b.reverse a.length).2 = 0 ∨ (subc a.reverse b.reverse a.length).2 = 1 := by omega
  rcases this with h | h
  · rw [h] at g5; simp at g5; omega
  · rw [h] at g5; simp at g5; omega

/-- quotients, byte by byte from the high end: rest r -/
def dvl (d : Nat) : Nat → List Int → List Int
  | _, [] => []
  | r, c :: t => (((r * 256 + c.toNat) / d : Nat) : Int) :: dvl d ((r * 256 + c.toNat) % d) t
def rst (d : Nat) : Nat → List Int → Nat
  | r, [] => r
  | r, c :: t => rst d ((r * 256 + c.toNat) % d) t
theorem dvl_length (d : Nat) : ∀ (l : List Int) (r : Nat), (dvl d r l).length = l.length
  | [], _ => rfl
  | c :: t, r => by simp only [dvl, List.length_cons, dvl_length d t]
theorem dvl_byt (d : Nat) (hd : 0 < d) : ∀ (l : List Int) (r : Nat), Byt l → r < d → Byt (dvl d r l)
  | [], _, _, _ => Byt.nil
  | c :: t, r, hl, hr => fun x hx => by
    have hc := hl c (by simp)
    simp only [dvl] at hx
    rcases List.mem_cons.1 hx with rfl | hx
    · have h1 : r * 256 + c.toNat < 256 * d := by omega
      have h2 : (r * 256 + c.toNat) / d < 256 := (Nat.div_lt_iff_lt_mul hd).2 h1
      exact ⟨Int.natCast_nonneg _, Int.ofNat_le.2 (Nat.le_of_lt_succ h2 : _ ≤ 255)⟩
    · exact dvl_byt d hd t _ (fun y hy => hl y (List.mem_cons_of_mem _ hy)) (Nat.mod_lt _ hd) x hx
theorem dvl_eq (d : Nat) (hd : 0 < d) : ∀ (l : List Int) (r : Nat), r < d → be (dvl d r l) * d + rst d r l = r * 256 ^ l.length + be l ∧ rst d r l < d
  | [], r, hr => ⟨by simp [dvl, rst, be], hr⟩
  | c :: t, r, hr => by
    obtain ⟨h1, h2⟩ := dvl_eq d hd t ((r * 256 + c.toNat) % d) (Nat.mod_lt _ hd)
    simp only [dvl, rst]
    refine ⟨?_, h2⟩
    rw [be_cons, be_cons, dvl_length, List.length_cons, Nat.pow_succ, Int.toNat_natCast]
    have h3 := Nat.div_add_mod (r * 256 + c.toNat) d
    have h4 : (r * 256 + c.toNat) / d * 256 ^ t.length * d + (r * 256 + c.toNat) % d * 256 ^ t.length = (r * 256 + c.toNat) * 256 ^ t.length := by
      conv => rhs; rw [← h3]
      rw [Nat.add_mul, Nat.mul_right_comm, Nat.mul_comm d]
    rw [Nat.add_mul] at h4
    rw [Nat.add_mul, Nat.mul_comm (256 ^ t.length) 256, ← Nat.mul_assoc]
    omega
theorem part_eq (a : List Int) (d : Nat) (ha : Byt a) (hd : 0 < d) (hv : d ∣ be a) : trimz (dvl d 0 a) = tob (be a / d) := by
  rw [trimz_eq _ (dvl_byt d hd a 0 ha hd)]
  obtain ⟨h1, h2⟩ := dvl_eq d hd a 0 hd
  rw [Nat.zero_mul, Nat.zero_add] at h1
  congr 1
  rw [← h1]
  rw [Nat.mul_comm, Nat.mul_add_div hd, Nat.div_eq_of_lt h2]; rfl
theorem rst_take (d : Nat) : ∀ (l : List Int) (r k : Nat), k < l.length → rst d r (l.take (k + 1)) = (rst d r (l.take k) * 256 + (l.getD k 0).toNat) % d
  | [], _, _, h => by simp at h
  | c :: t, r, 0, _ => by simp [rst]
  | c :: t, r, k + 1, h => by
    simp only [List.take_succ_cons, rst, List.getD_cons_succ]
    exact rst_take d t _ k (by simpa using h)
theorem dvl_get (d : Nat) : ∀ (l : List Int) (r k : Nat), k < l.length → (dvl d r l).getD k 0 = (((rst d r (l.take k) * 256 + (l.getD k 0).toNat) / d : Nat) : Int)
  | [], _, _, h => by simp at h
  | c :: t, r, 0, _ => by simp [rst, dvl]
  | c :: t, r, k + 1, h => by
    simp only [List.take_succ_cons, rst, List.getD_cons_succ, dvl]
    exact dvl_get d t _ k (by simpa using h)
theorem rst_lt (d : Nat) (hd : 0 < d) (l : List Int) : ∀ (r : Nat), r < d → rst d r l < d := by
  induction l with
  | nil => intro r h; exact h
  | cons c t ih => intro r _; exact ih _ (Nat.mod_lt _ hd)
end Go.Proofs.Bl

/- Walks of baileelaw37.alive and of the law ChanceVandermonde. -/
import Derived.Test.YtkndnmpdklidkaaDoorCh6
import Derived.Test.YtkndnmpdklidkaaDoorRf3
namespace Go.Proofs.Bl
open Go
/-- the sum of the law, as far as j -/
def vsum (a b : Nat) (k : Int) (j : Nat) : Nat := sumn (fun t => bin a t * binz b (k - t)) j
theorem vsum_end (a b : Nat) (k : Int) : vsum a b k (k + 1).toNat = binz (a + b) k := by
  unfold vsum
  by_cases h : k < 0
  · rw [binz_neg _ _ h, show (k + 1).toNat = 0 from by omega]; rfl
  · obtain ⟨m, rfl⟩ := Int.eq_ofNat_of_zero_le (a := k) (by omega)
    rw [binz_nat, ← vander a b m, show ((m : Int) + 1).toNat = m + 1 from by omega]
    refine sumn_congr _ fun i hi => ?_
    rw [show (m : Int) - (i : Int) = ((m - i : Nat) : Int) from by omega, binz_nat]
theorem binz_le (n : Nat) (k : Int) : binz n k ≤ 2 ^ n := by
  unfold binz
  split
  · exact Nat.zero_le _
  · exact bin_le_pow _ _
theorem vsum_lt (a b : Nat) (k : Int) (ha : a ≤ 60) (hb : b ≤ 60) : ∀ j, vsum a b k j ≤ j * 2 ^ 120
  | 0 => by simp [vsum, sumn]
  | j + 1 => by
    have h1 := vsum_lt a b k ha hb j
    have h2 : bin a j * binz b (k - j) ≤ 2 ^ 60 * 2 ^ 60 := Nat.mul_le_mul (Nat.le_trans (bin_le_pow a j) (Nat.pow_le_pow_right (by decide) ha)) (Nat.le_trans (binz_le b _) (Nat.pow_le_pow_right (by decide) hb))
    have h3 : (2 : Nat) ^ 60 * 2 ^ 60 = 2 ^ 120 := by rw [← Nat.pow_add]
    unfold vsum at h1 ⊢
    simp only [sumn]
    rw [Nat.add_mul]; omega
theorem tb_vsum (a b : Nat) (k : Int) (ha : a ≤ 60) (hb : b ≤ 60) (j : Nat) (hj : j ≤ 300) : (tb (vsum a b k j)).length ≤ 130 := by
  refine tb_len_le 130 _ ?_
  have h1 := vsum_lt a b k ha hb j
  have h2 : j * 2 ^ 120 ≤ 300 * 2 ^ 120 := Nat.mul_le_mul_right _ hj
  have h3 : 300 * 2 ^ 120 < (2 : Nat) ^ 130 := by decide
  omega
theorem tb_small (x : Nat) (h : x ≤ 2 ^ 60) : (tb x).length ≤ 61 := tb_len_le 61 x (by omega)
end Go.Proofs.Bl
namespace Go.Proofs.YtkndnmpdklidkaaDoor
open Go.RowKit Go.Proofs

set_option maxRecDepth 100000 in
theorem alive37 (w : World) : Calls Tryd.prog 11 #[] w fun e w' => e = .returned (.bool true) ∧ Bl.Ext w w' := by
  go_enter Tryd.func11, Tryd.ntmps11
  go_wp2_with fail
  refine (choose_any 5 2 _ (by decide) (by decide)).mono ?_
  rintro e w1 ⟨v1, rfl, h1, hE1⟩
  have hb : Bl.tob (Bl.binz 5 2) = [10] := by decide +kernel
  rw [hb] at h1
  have hc := Bl.conv_bytes (P := Tryd.prog) (src := 23) (dst := 9) h1 Tryd.underlying23 Tryd.underlying5 Tryd.underlying9
  rw [show Bl.bstr [10] = ⟨#[10]⟩ from rfl] at hc
  have HE1 := Bl.hid hE1
  clear h1 hE1 hb
  go_wp2_with fail
  go_ret
  exact ⟨rfl, HE1.out⟩

set_option maxRecDepth 100000 in
set_option maxHeartbeats 1000000 in
theorem vand_in (a b : Nat) (k : Int) (w : World) (ha : a ≤ 60) (hb : b ≤ 60) (hk : k ≤ 200) (hk0 : -9223372036854775808 ≤ k) :
    Calls Tryd.prog 3 #[.int .i64 a, .int .i64 b, .int .i64 k] w fun e w' => e = .returned (.bool true) ∧ Bl.Ext w w' := by
  have d1 : decide ((a : Int) < 0) = false := by simp
  have d2 : decide ((60 : Int) < (a : Int)) = false := by simp; omega
  have d3 : decide ((b : Int) < 0) = false := by simp
  have d4 : decide ((60 : Int) < (b : Int)) = false := by simp; omega
  have d5 : decide ((200 : Int) < k) = false := by simp; omega
  obtain ⟨K, hK⟩ : ∃ K, K = (k + 1).toNat := ⟨_, rfl⟩
  have hK3 : K ≤ 201 := by omega
  have hend := Bl.hid (Bl.vsum_end a b k)
  rw [← hK] at hend
  have HK := Bl.hid hK
  clear hK
  go_enter Tryd.func3, Tryd.ntmps3
  go_wp2_with fail
  refine (alive37 _).mono ?_
  rintro e w1 ⟨rfl, hE1⟩
  have HE1 := Bl.hid hE1
  clear hE1
  go_wp2_with fail
  go_loopw [7, 8] (fun o i wr => ∃ (j : Nat) (v : Value), j ≤ K ∧ i = .int .i64 j ∧ o = v ∧ Bl.Rd wr .u8 v (Bl.tb (Bl.vsum a b k j)) ∧ Bl.Ext w wr) (fun _ i _ => K - (intOf i).toNat)
  case atStart => exact ⟨0, _, Nat.zero_le _, rfl, rfl, .inr ⟨w1.heap.size, 0, 0, rfl, Nat.le_refl 0, Nat.zero_le _, fun j v hv => by simp [Bl.vsum, Bl.sumn, Bl.tb_zero, Bl.ints] at hv⟩, HE1.out.trans (Bl.ext_alloc _ _)⟩
  case round =>
    obtain ⟨j, o, hj, rfl, rfl, hR, hE⟩ := hrel
    have HR := Bl.hid hR
    have HE := Bl.hid hE
    clear hR hE
    by_cases hlt : j < K
    · have hji : (j : Int) ≤ k := by have := HK.out; omega
      have hsucc := Bl.hid (show Bl.vsum a b k (j + 1) = Bl.vsum a b k j + Bl.bin a j * Bl.binz b (k - j) from rfl)
      go_wp2_with fail
      refine (choose_any a j _ (by omega) (by omega)).mono ?_
      rintro e w2 ⟨v2, rfl, h2, hE2⟩
      rw [Bl.binz_nat] at h2
      have HR2 := Bl.hid h2
      have HE2 := Bl.hid hE2
      clear h2 hE2
      go_wp2_with fail
      refine (choose_any b (k - j) _ (by omega) (by omega)).mono ?_
      rintro e w3 ⟨v3, rfl, h3, hE3⟩
      have HR3 := Bl.hid h3
      have HE3 := Bl.hid hE3
      clear h3 hE3
      go_wp2_with fail
      refine (bits_any v2 _ _ (HR2.out.ext HE3.out) (by have := Bl.bin_len a j (by omega); omega) (Bl.tob_byt _)).mono ?_
      rintro e w4 ⟨v4, rfl, h4, hE4⟩
      rw [Bl.be_tob] at h4
      have HR4 := Bl.hid h4
      have HE4 := Bl.hid hE4
      clear h4 hE4
      go_wp2_with fail
      have hl3 : (Bl.tob (Bl.binz b (k - j))).length ≤ 100 := by
        refine Bl.tob_len_le 100 _ (Nat.lt_of_le_of_lt (Bl.binz_le b _) ?_)
        exact Nat.lt_of_le_of_lt (Nat.pow_le_pow_right (by decide) hb) (by decide)
      refine (bits_any v3 _ _ (HR3.out.ext HE4.out) (by omega) (Bl.tob_byt _)).mono ?_
      rintro e w5 ⟨v5, rfl, h5, hE5⟩
      rw [Bl.be_tob] at h5
      have HR5 := Bl.hid h5
      have HE5 := Bl.hid hE5
      clear h5 hE5 hl3
      go_wp2_with fail
      have l4 := Bl.tb_small (Bl.bin a j) (Nat.le_trans (Bl.bin_le_pow a j) (Nat.pow_le_pow_right (by decide) ha))
      have l5 := Bl.tb_small (Bl.binz b (k - j)) (Nat.le_trans (Bl.binz_le b _) (Nat.pow_le_pow_right (by decide) hb))
      refine (rmul_any v4 v5 _ _ _ (HR4.out.ext HE5.out) HR5.out (by omega) (by omega) (Bl.tb_bit _) (Bl.tb_bit _)).mono ?_
      rintro e w6 ⟨v6, rfl, h6, hE6⟩
      rw [Bl.lb_tb, Bl.lb_tb] at h6
      have HR6 := Bl.hid h6
      have HE6 := Bl.hid hE6
      clear h6 hE6 l4 l5
      go_wp2_with fail
      have l1 := Bl.tb_vsum a b k ha hb j (by omega)
      have l6 : (Bl.tb (Bl.bin a j * Bl.binz b (k - j))).length ≤ 130 := by
        refine Bl.tb_len_le 130 _ ?_
        have h2 : Bl.bin a j * Bl.binz b (k - j) ≤ 2 ^ 60 * 2 ^ 60 := Nat.mul_le_mul (Nat.le_trans (Bl.bin_le_pow a j) (Nat.pow_le_pow_right (by decide) ha)) (Nat.le_trans (Bl.binz_le b _) (Nat.pow_le_pow_right (by decide) hb))
        exact Nat.lt_of_le_of_lt h2 (by decide)
      have hext := Bl.hid (((HE2.out.trans HE3.out).trans HE4.out).trans HE5.out)
      refine (radd_any _ v6 _ _ _ (HR.out.ext (hext.out.trans HE6.out)) HR6.out (by omega) (by omega) (Bl.tb_bit _) (Bl.tb_bit _)).mono ?_
      rintro e w7 ⟨v7, rfl, h7, hE7⟩
      rw [Bl.lb_tb, Bl.lb_tb, ← hsucc.out] at h7
      have HR7 := Bl.hid h7
      have HE7 := Bl.hid hE7
      clear h7 hE7 l1 l6
      go_wp2_with fail
      go_roundw
      case rel => exact ⟨j + 1, v7, by omega, by simp, rfl, HR7.out, (HE.out.trans hext.out).trans (HE6.out.trans HE7.out)⟩
      case measure => simp [intOf]; omega
    · obtain rfl : j = K := by omega
      have hji : ¬ (j : Int) ≤ k := by have := HK.out; omega
      go_wp2_with fail
      have hab : (a : Int) + (b : Int) = ((a + b : Nat) : Int) := by omega
      rw [hab]
      refine (choose_any (a + b) k _ (by omega) (by omega)).mono ?_
      rintro e w2 ⟨v2, rfl, h2, hE2⟩
      have HR2 := Bl.hid h2
      have HE2 := Bl.hid hE2
      clear h2 hE2 hab
      go_wp2_with fail
      refine (same_any v2 _ _ _ _ HR2.out (HR.out.ext HE2.out) (by have := Bl.tb_vsum a b k ha hb j (by omega); omega) (Bl.tb_bit _) (by rw [Bl.lb_tb, hend.out])).mono ?_
      rintro e w3 ⟨rfl, hE3⟩
      have HE3 := Bl.hid hE3
      clear hE3
      go_wp2_with fail
      go_ret
      exact ⟨rfl, (HE.out.trans HE2.out).trans HE3.out⟩

set_option maxRecDepth 100000 in
theorem vand_out (a b k : Int) (w : World) (h : a < 0 ∨ (0 ≤ a ∧ 60 < a) ∨ (0 ≤ a ∧ a ≤ 60 ∧ b < 0) ∨ (0 ≤ a ∧ a ≤ 60 ∧ 0 ≤ b ∧ 60 < b) ∨ (0 ≤ a ∧ a ≤ 60 ∧ 0 ≤ b ∧ b ≤ 60 ∧ 200 < k)) :
    Calls Tryd.prog 3 #[.int .i64 a, .int .i64 b, .int .i64 k] w fun e w' => e = .returned (.bool true) ∧ Bl.Ext w w' := by
  rcases h with h1 | ⟨h1, h2⟩ | ⟨h1, h2, h3⟩ | ⟨h1, h2, h3, h4⟩ | ⟨h1, h2, h3, h4, h5⟩
  all_goals
    go_enter Tryd.func3, Tryd.ntmps3
    go_wp2_with fail
    refine (alive37 _).mono ?_
    rintro e w1 ⟨rfl, hE1⟩
    have HE1 := Bl.hid hE1
    clear hE1
    go_wp2_with fail
    go_ret
    exact ⟨rfl, HE1.out⟩

theorem vand_all (a b k : Int) (w : World) (ha : -9223372036854775808 ≤ a) (hb : -9223372036854775808 ≤ b) (hk : -9223372036854775808 ≤ k) :
    Calls Tryd.prog 3 #[.int .i64 a, .int .i64 b, .int .i64 k] w fun e w' => e = .returned (.bool true) ∧ Bl.Ext w w' := by
  by_cases h : 0 ≤ a ∧ a ≤ 60 ∧ 0 ≤ b ∧ b ≤ 60 ∧ k ≤ 200
  · obtain ⟨h1, h2, h3, h4, h5⟩ := h
    obtain ⟨x, rfl⟩ := Int.eq_ofNat_of_zero_le h1
    obtain ⟨y, rfl⟩ := Int.eq_ofNat_of_zero_le h3
    exact vand_in x y k w (by omega) (by omega) h5 hk
  · exact vand_out a b k w (by omega)
end Go.Proofs.YtkndnmpdklidkaaDoor

/- Walk of chance.Choose: binomials. -/
import Derived.Test.YtkndnmpdklidkaaDoorCh5
namespace Go.Proofs.Bl
open Go
/-- in how many ways some of all are chosen; 0 of fewer than none -/
def binz (n : Nat) (k : Int) : Nat := if k < 0 then 0 else bin n k.toNat
theorem binz_nat (n k : Nat) : binz n (k : Int) = bin n k := by unfold binz; rw [if_neg (by omega), Int.toNat_natCast]
theorem binz_neg (n : Nat) (k : Int) (h : k < 0) : binz n k = 0 := by unfold binz; rw [if_pos h]
theorem pow_lt (n a b : Nat) (h : n < a * b) : 2 ^ n < (2 ^ a) ^ b := by
  rw [← Nat.pow_mul]
  exact Nat.pow_lt_pow_right (by decide) h
theorem bin_len (n k : Nat) (h : n ≤ 1024) : (tob (bin n k)).length ≤ 129 := by
  refine tob_len_le 129 _ ?_
  have h1 := bin_le_pow n k
  exact Nat.lt_of_le_of_lt h1 (pow_lt n 8 129 (by omega))
theorem bin_step (n i : Nat) (h : i ≤ n) : (i + 1) ∣ bin n i * (n - i) ∧ bin n i * (n - i) / (i + 1) = bin n (i + 1) := by
  have h1 := bin_mul n i h
  rw [← h1]
  exact ⟨Nat.dvd_mul_left _ _, Nat.mul_div_cancel _ (by omega)⟩
end Go.Proofs.Bl
namespace Go.Proofs.YtkndnmpdklidkaaDoor
open Go.RowKit Go.Proofs

set_option maxRecDepth 100000 in
set_option maxHeartbeats 1000000 in
/-- chance.Choose within its range: a row of its own -/
theorem choose_own (n : Nat) (k : Int) (w : World) (hn : n ≤ 1024) (hk : -9223372036854775808 ≤ k ∧ k ≤ 9223372036854775807) :
    Calls Tryd.prog 12 #[.int .i64 n, .int .i64 k] w fun e w' => ∃ v', e = .returned (.tuple #[v', .nilIface]) ∧ w'.ownsRow w.heap.size 5 1 v' (Bl.tob (Bl.binz n k)).length (Bl.ints .u8 (Bl.tob (Bl.binz n k))) ∧ Bl.Ext w w' := by
  have hn0 : (0 : Int) ≤ (n : Int) := by omega
  have hn1 : (n : Int) ≤ 1024 := by omega
  by_cases hout : k < 0 ∨ (n : Int) < k
  · have hz : Bl.binz n k = 0 := by
      rcases hout with h | h
      · exact Bl.binz_neg n k h
      · obtain ⟨m, rfl⟩ := Int.eq_ofNat_of_zero_le (a := k) (by omega)
        rw [Bl.binz_nat, Bl.bin_big n m (by omega)]
    rw [hz]
    clear hz
    have hq : k < 0 ∨ (0 ≤ k ∧ (n : Int) < k) := by omega
    clear hout
    rcases hq with h1 | ⟨h1, h2⟩
    all_goals
      go_enter Tryd.func12, Tryd.ntmps12
      go_wp2_with fail
      go_ret2
      exact ⟨_, rfl, World.ownsRow_nil _ _ _ _, Below.refl _ _⟩
  · obtain ⟨m, rfl⟩ := Int.eq_ofNat_of_zero_le (a := k) (by omega)
    have hmn : m ≤ n := by omega
    have h1 : (0 : Int) ≤ (m : Int) := by omega
    have h2 : (m : Int) ≤ (n : Int) := by omega
    rw [Bl.binz_nat]
    clear hout hk
    have d1 : decide ((n : Int) < 0) = false := decide_eq_false (Int.not_lt.mpr hn0)
    have d2 : decide ((1024 : Int) < (n : Int)) = false := decide_eq_false (Int.not_lt.mpr hn1)
    have d3 : decide ((m : Int) < 0) = false := decide_eq_false (Int.not_lt.mpr h1)
    have d4 : decide ((n : Int) < (m : Int)) = false := decide_eq_false (Int.not_lt.mpr h2)
    have hcase : ((m : Int) ≤ (n : Int) - (m : Int) ∧ ∃ M : Nat, M ≤ n ∧ (M : Int) = (m : Int) ∧ Hid (Bl.bin n M = Bl.bin n m)) ∨ ((n : Int) - (m : Int) < (m : Int) ∧ ∃ M : Nat, M ≤ n ∧ (M : Int) = (n : Int) - (m : Int) ∧ Hid (Bl.bin n M = Bl.bin n m)) := by
      by_cases h : m ≤ n - m
      · exact .inl ⟨by omega, m, hmn, rfl, rfl⟩
      · exact .inr ⟨by omega, n - m, by omega, by omega, (Bl.bin_symm n m hmn).symm⟩
    rcases hcase with ⟨hc, M, hMn, hMi, hres⟩ | ⟨hc, M, hMn, hMi, hres⟩
    all_goals
      have HMi := Bl.hid hMi
      clear hMi
      go_enter Tryd.func12, Tryd.ntmps12
      go_wp2_with fail
      refine (one_any _).mono ?_
      rintro e w1 ⟨v1, rfl, h1o, hE1⟩
      have hR1 : w1.ownsRow w.heap.size 5 1 v1 (Bl.tob (Bl.bin n 0)).length (Bl.ints .u8 (Bl.tob (Bl.bin n 0))) := by rw [Bl.bin_zero]; exact h1o
      have HR1 := Bl.hid hR1
      have HE1 := Bl.hid hE1
      clear h1o hE1 hR1
      go_wp2_with fail
      go_loopw [6, 30] (fun o i wr => ∃ (k : Nat) (v : Value), k ≤ M ∧ i = .int .i64 k ∧ o = v ∧ wr.ownsRow w.heap.size 5 1 v (Bl.tob (Bl.bin n k)).length (Bl.ints .u8 (Bl.tob (Bl.bin n k))) ∧ Bl.Ext w wr) (fun _ i _ => M - (intOf i).toNat)
      case atStart => exact ⟨0, _, Nat.zero_le _, rfl, rfl, HR1.out, HE1.out⟩
      case round =>
        obtain ⟨k, o, hk, rfl, rfl, hR, hE⟩ := hrel
        have HO := Bl.hid hR
        have HR := Bl.hid (Bl.Rds.of_owns hR)
        have HE := Bl.hid hE
        clear hR hE
        by_cases hlt : k < M
        · have hki : (k : Int) < (M : Int) := by omega
          rw [HMi.out] at hki
          have hkn : (k : Int) ≤ (n : Int) := by omega
          have e1 : (n : Int) - (k : Int) = ((n - k : Nat) : Int) := by omega
          have e2 : (k : Int) + 1 = ((k + 1 : Nat) : Int) := by omega
          obtain ⟨s1, s2⟩ := Bl.bin_step n k (by omega)
          have S1 := Bl.hid s1
          have S2 := Bl.hid s2
          have L1 := Bl.bin_len n k hn
          have hnk : n - k < 65536 := by omega
          have E1 := Bl.hid e1
          have E2 := Bl.hid e2
          clear s1 s2 e1 e2
          go_wp2_with fail
          rw [E1.out]
          refine (small_any (n - k) hnk _).mono ?_
          rintro e w2 ⟨v2, rfl, h2o, hE2⟩
          have HR2 := Bl.hid (show Bl.Rd w2 .u8 v2 (Bl.tob (n - k)) from Bl.Rds.of_owns h2o)
          have HE2 := Bl.hid hE2
          clear h2o hE2
          go_wp2_with fail
          refine (mul_any _ _ _ _ _ (Bl.Rd.ext HR.out HE2.out) HR2.out (by omega) (by have := Bl.tob_len_le 2 (n - k) (by omega); omega) (Bl.tob_byt _) (Bl.tob_byt _)).mono ?_
          rintro e w3 ⟨v3, rfl, h3o, hE3⟩
          rw [Bl.be_tob, Bl.be_tob] at h3o
          have HR3 := Bl.hid (show Bl.Rd w3 .u8 v3 (Bl.tob (Bl.bin n k * (n - k))) from Bl.Rds.of_owns h3o)
          have HE3 := Bl.hid hE3
          clear h3o hE3
          go_wp2_with fail
          rw [E2.out]
          have hdv := S1.out
          rw [← Bl.be_tob (Bl.bin n k * (n - k))] at hdv
          have hlm : (Bl.tob (Bl.bin n k * (n - k))).length ≤ 1000 := by
            rw [← Bl.bin_mul n k (by omega)]
            refine Nat.le_trans (Bl.tob_len_le 131 _ ?_) (by decide)
            have h1 := Bl.bin_le_pow n (k + 1)
            have h2 : 2 ^ n < 256 ^ 129 := Bl.pow_lt n 8 129 (by omega)
            have h3 : Bl.bin n (k + 1) * (k + 1) < 256 ^ 129 * 256 ^ 2 := Nat.mul_lt_mul'' (Nat.lt_of_le_of_lt h1 h2) (by omega)
            rw [← Nat.pow_add] at h3
            exact h3
          refine (part_any _ _ (k + 1) _ HR3.out (by omega) (Bl.tob_byt _) (by omega) (by omega) hdv).mono ?_
          rintro e w4 ⟨v4, rfl, h4o, hE4⟩
          rw [Bl.be_tob, S2.out] at h4o
          have HR4 := Bl.hid (Bl.owns_mono h4o ((HE.out.trans HE2.out).trans HE3.out).size)
          have HE4 := Bl.hid hE4
          clear h4o hE4 hdv hlm
          go_wp2_with fail
          go_roundw
          case rel => exact ⟨k + 1, _, by omega, by rw [← E2.out], rfl, HR4.out, ((HE.out.trans HE2.out).trans HE3.out).trans HE4.out⟩
          case measure => simp [intOf]; omega
        · obtain rfl : k = M := by omega
          have hki : ¬ (k : Int) < (k : Int) := by omega
          rw [HMi.out] at hki
          rw [HMi.out]
          go_wp2_with fail
          go_ret2
          exact ⟨_, rfl, by rw [← hres.out]; exact HO.out, HE.out⟩

/-- chance.Choose within its range -/
theorem choose_any (n : Nat) (k : Int) (w : World) (hn : n ≤ 1024) (hk : -9223372036854775808 ≤ k ∧ k ≤ 9223372036854775807) :
    Calls Tryd.prog 12 #[.int .i64 n, .int .i64 k] w fun e w' => ∃ v', e = .returned (.tuple #[v', .nilIface]) ∧ Bl.Rd w' .u8 v' (Bl.tob (Bl.binz n k)) ∧ Bl.Ext w w' :=
  (choose_own n k w hn hk).mono fun e w' ⟨v', h1, h2, h3⟩ => ⟨v', h1, Bl.Rds.of_owns h2, h3⟩
end Go.Proofs.YtkndnmpdklidkaaDoor

/- Walk of the law ChancePascal. -/
import Derived.Test.YtkndnmpdklidkaaDoorCh7
import Derived.Test.YtkndnmpdklidkaaDoorLvW
import Derived.Test.YtkndnmpdklidkaaDoorWNum
namespace Go.Proofs.Bl
open Go
theorem tb_bin_len (n k : Nat) (h : n ≤ 1024) : (tb (bin n k)).length ≤ 1025 := by
  refine Nat.le_trans (tb_len_le (n + 1) _ ?_) (by omega)
  exact Nat.lt_of_le_of_lt (bin_le_pow n k) (Nat.pow_lt_pow_right (by decide) (by omega))
theorem pascal (n k : Int) (h0 : 0 < k) (h1 : k < n) : binz n.toNat k = binz (n - 1).toNat (k - 1) + binz (n - 1).toNat k := by
  obtain ⟨N, rfl⟩ := Int.eq_ofNat_of_zero_le (a := n) (by omega)
  obtain ⟨K, rfl⟩ := Int.eq_ofNat_of_zero_le (a := k) (by omega)
  obtain ⟨M, rfl⟩ : ∃ M, N = M + 1 := ⟨N - 1, by omega⟩
  obtain ⟨J, rfl⟩ : ∃ J, K = J + 1 := ⟨K - 1, by omega⟩
  rw [show ((J + 1 : Nat) : Int) - 1 = (J : Int) from by omega, show (((M + 1 : Nat) : Int) - 1).toNat = M from by omega, Int.toNat_natCast, binz_nat, binz_nat, binz_nat, bin_succ]
theorem binz_out (n k : Int) (h0 : 0 ≤ n) (h : k < 0 ∨ n < k) : binz n.toNat k = 0 := by
  rcases h with h | h
  · exact binz_neg _ _ h
  · obtain ⟨K, rfl⟩ := Int.eq_ofNat_of_zero_le (a := k) (by omega)
    rw [binz_nat, bin_big _ _ (by omega)]
theorem binz_edge (n k : Int) (h0 : 0 ≤ n) (h : k = 0 ∨ k = n) : binz n.toNat k = 1 := by
  rcases h with rfl | rfl
  · rw [show (0 : Int) = ((0 : Nat) : Int) from rfl, binz_nat, bin_zero]
  · obtain ⟨K, rfl⟩ := Int.eq_ofNat_of_zero_le (a := k) (by omega)
    rw [binz_nat, Int.toNat_natCast, bin_self]
theorem binz_len (n : Nat) (k : Int) (h : n ≤ 1024) : (tob (binz n k)).length ≤ 129 := by
  unfold binz
  split
  · show 0 ≤ 129; omega
  · exact bin_len _ _ h
theorem tb_binz_len (n : Nat) (k : Int) (h : n ≤ 1024) : (tb (binz n k)).length ≤ 1025 := by
  unfold binz
  split
  · rw [tb_zero]; show 0 ≤ 1025; omega
  · exact tb_bin_len _ _ h
end Go.Proofs.Bl
namespace Go.Proofs.YtkndnmpdklidkaaDoor
open Go.RowKit Go.Proofs

theorem choose_int (n k : Int) (w : World) (h0 : 0 ≤ n) (h1 : n ≤ 1024) (hk : -9223372036854775808 ≤ k ∧ k ≤ 9223372036854775807) :
    Calls Tryd.prog 12 #[.int .i64 n, .int .i64 k] w fun e w' => ∃ v', e = .returned (.tuple #[v', .nilIface]) ∧ Bl.Rd w' .u8 v' (Bl.tob (Bl.binz n.toNat k)) ∧ Bl.Ext w w' := by
  have h := choose_any n.toNat k w (by omega) hk
  rwa [Int.toNat_of_nonneg h0] at h

set_option maxRecDepth 100000 in
theorem pascal_err (n k : Int) (S : List Nat) (a : Nat → Addr) (w : World) (hS : ∀ i, 1 ≤ i → i ≤ 20 → i ∈ S) (He : Errs S a w) (h : n < 0 ∨ (0 ≤ n ∧ 1024 < n)) :
    Calls Tryd.prog 5 #[.int .i64 n, .int .i64 k] w fun e w' => e = .returned (.bool true) ∧ Bl.Ext w w' := by
  have HN := Bl.hid (fun w1 (h : Bl.Ext w w1) => num_any S a w1 1 hS (He.ext h) (by decide) (by decide))
  have HC := Bl.hid (fun w1 (hh : Bl.Ext w w1) => choose_err n k (a 1) w1 (by omega) ((He.ext hh).cell 1 (hS 1 (by decide) (by decide))))
  clear He hS
  rcases h with h1 | ⟨h1, h2⟩
  all_goals
    go_enter Tryd.func5, Tryd.ntmps5
    go_wp2_with fail
    refine (alive37 _).mono ?_
    rintro e w1 ⟨rfl, hE1⟩
    have HE1 := Bl.hid hE1
    clear hE1
    go_wp2_with fail
    refine (HC.out _ HE1.out).mono ?_
    rintro e w2 ⟨rfl, hE2⟩
    have HE2 := Bl.hid (HE1.out.trans hE2)
    clear hE2
    go_wp2_with fail
    refine (HN.out _ HE2.out).mono ?_
    rintro e w3 ⟨rfl, hE3⟩
    have HE3 := Bl.hid (HE2.out.trans hE3)
    clear hE3
    go_wp2_with fail
    go_ret
    exact ⟨rfl, HE3.out⟩

set_option maxRecDepth 100000 in
theorem pascal_zero (n k : Int) (w : World) (h0 : 0 ≤ n) (h1 : n ≤ 1024) (h : k < 0 ∨ (0 ≤ k ∧ n < k)) (hk : -9223372036854775808 ≤ k ∧ k ≤ 9223372036854775807) :
    Calls Tryd.prog 5 #[.int .i64 n, .int .i64 k] w fun e w' => e = .returned (.bool true) ∧ Bl.Ext w w' := by
  have HC := fun w1 => choose_int n k w1 h0 h1 hk
  rw [Bl.binz_out n k h0 (by omega), Bl.tob_zero] at HC
  have HC := Bl.hid HC
  rcases h with h2 | ⟨h2, h3⟩
  all_goals
    go_enter Tryd.func5, Tryd.ntmps5
    go_wp2_with fail
    refine (alive37 _).mono ?_
    rintro e w1 ⟨rfl, hE1⟩
    have HE1 := Bl.hid hE1
    clear hE1
    go_wp2_with fail
    refine (HC.out _).mono ?_
    rintro e w2 ⟨v2, rfl, hR2, hE2⟩
    have HE2 := Bl.hid (HE1.out.trans hE2)
    obtain ⟨p2, c2, rfl, _, _⟩ := hR2.form
    clear hE2 hR2
    go_wp2_with fail
    go_ret
    exact ⟨rfl, HE2.out⟩

set_option maxRecDepth 100000 in
theorem pascal_edge (n k : Int) (w : World) (h0 : 0 ≤ n) (h1 : n ≤ 1024) (h2 : 0 ≤ k) (h3 : k ≤ n) (h : k = 0 ∨ (k ≠ 0 ∧ k = n)) :
    Calls Tryd.prog 5 #[.int .i64 n, .int .i64 k] w fun e w' => e = .returned (.bool true) ∧ Bl.Ext w w' := by
  have HC := fun w1 => choose_int n k w1 h0 h1 (by omega)
  rw [Bl.binz_edge n k h0 (by omega), show Bl.tob 1 = [1] from by decide +kernel] at HC
  have HC := Bl.hid HC
  rcases h with h4 | ⟨h4, h5⟩
  · subst h4
    go_enter Tryd.func5, Tryd.ntmps5
    go_wp2_with fail
    refine (alive37 _).mono ?_
    rintro e w1 ⟨rfl, hE1⟩
    have HE1 := Bl.hid hE1
    clear hE1
    go_wp2_with fail
    refine (HC.out _).mono ?_
    rintro e w2 ⟨v2, rfl, hR2, hE2⟩
    have HE2 := Bl.hid (HE1.out.trans hE2)
    have hc := Bl.conv_bytes (P := Tryd.prog) (src := 23) (dst := 9) hR2 Tryd.underlying23 Tryd.underlying5 Tryd.underlying9
    rw [show Bl.bstr [1] = ⟨#[1]⟩ from rfl] at hc
    clear hE2 hR2
    go_wp2_with fail
    go_ret
    exact ⟨rfl, HE2.out⟩
  · subst h5
    go_enter Tryd.func5, Tryd.ntmps5
    go_wp2_with fail
    refine (alive37 _).mono ?_
    rintro e w1 ⟨rfl, hE1⟩
    have HE1 := Bl.hid hE1
    clear hE1
    go_wp2_with fail
    refine (HC.out _).mono ?_
    rintro e w2 ⟨v2, rfl, hR2, hE2⟩
    have HE2 := Bl.hid (HE1.out.trans hE2)
    have hc := Bl.conv_bytes (P := Tryd.prog) (src := 23) (dst := 9) hR2 Tryd.underlying23 Tryd.underlying5 Tryd.underlying9
    rw [show Bl.bstr [1] = ⟨#[1]⟩ from rfl] at hc
    clear hE2 hR2
    go_wp2_with fail
    go_ret
    exact ⟨rfl, HE2.out⟩

set_option maxRecDepth 100000 in
theorem pascal_in (n k : Int) (w : World) (h1 : n ≤ 1024) (h2 : 0 < k) (h3 : k < n) :
    Calls Tryd.prog 5 #[.int .i64 n, .int .i64 k] w fun e w' => e = .returned (.bool true) ∧ Bl.Ext w w' := by
  have h0 : 0 ≤ n := by omega
  have h4 : 0 ≤ k := by omega
  have h5 : k ≤ n := by omega
  have h6 : (k == 0) = false := by simp; omega
  have h7 : (k == n) = false := by simp; omega
  have HC1 := fun w1 => choose_int n k w1 (by omega) h1 (by omega)
  have HC2 := fun w1 => choose_int (n - 1) (k - 1) w1 (by omega) (by omega) (by omega)
  have HC3 := fun w1 => choose_int (n - 1) k w1 (by omega) (by omega) (by omega)
  have hsum := Bl.hid (Bl.pascal n k h2 h3)
  have l2 := Bl.binz_len (n - 1).toNat (k - 1) (by omega)
  have l3 := Bl.binz_len (n - 1).toNat k (by omega)
  have m2 := Bl.tb_binz_len (n - 1).toNat (k - 1) (by omega)
  have m3 := Bl.tb_binz_len (n - 1).toNat k (by omega)
  have m1 := Bl.tb_binz_len n.toNat k (by omega)
  obtain ⟨A, hA⟩ : ∃ A, A = Bl.binz n.toNat k := ⟨_, rfl⟩
  obtain ⟨B, hB⟩ : ∃ B, B = Bl.binz (n - 1).toNat (k - 1) := ⟨_, rfl⟩
  obtain ⟨C, hC⟩ : ∃ C, C = Bl.binz (n - 1).toNat k := ⟨_, rfl⟩
  rw [← hA] at HC1 hsum m1
  rw [← hB] at HC2 hsum l2 m2
  rw [← hC] at HC3 hsum l3 m3
  have HC1 := Bl.hid HC1
  have HC2 := Bl.hid HC2
  have HC3 := Bl.hid HC3
  have L2 := Bl.hid l2
  have L3 := Bl.hid l3
  have M1 := Bl.hid m1
  have M2 := Bl.hid m2
  have M3 := Bl.hid m3
  clear hA hB hC l2 l3 m1 m2 m3
  go_enter Tryd.func5, Tryd.ntmps5
  go_wp2_with fail
  refine (alive37 _).mono ?_
  rintro e w1 ⟨rfl, hE1⟩
  have HE1 := Bl.hid hE1
  clear hE1
  go_wp2_with fail
  refine (HC1.out _).mono ?_
  rintro e w2 ⟨v2, rfl, hR2, hE2⟩
  have HE2 := Bl.hid (HE1.out.trans hE2)
  have HR2 := Bl.hid hR2
  clear hE2 hR2
  go_wp2_with fail
  refine (HC2.out _).mono ?_
  rintro e w3 ⟨v3, rfl, hR3, hE3⟩
  have HE3 := Bl.hid (HE2.out.trans hE3)
  have HR2 := Bl.hid (HR2.out.ext hE3)
  have HR3 := Bl.hid hR3
  clear hE3 hR3
  go_wp2_with fail
  refine (HC3.out _).mono ?_
  rintro e w4 ⟨v4, rfl, hR4, hE4⟩
  have HE4 := Bl.hid (HE3.out.trans hE4)
  have HR2 := Bl.hid (HR2.out.ext hE4)
  have HR3 := Bl.hid (HR3.out.ext hE4)
  have HR4 := Bl.hid hR4
  clear hE4 hR4
  go_wp2_with fail
  refine (bits_any v3 _ _ HR3.out (by have := L2.out; omega) (Bl.tob_byt _)).mono ?_
  rintro e w5 ⟨v5, rfl, hR5, hE5⟩
  rw [Bl.be_tob] at hR5
  have HE5 := Bl.hid (HE4.out.trans hE5)
  have HR2 := Bl.hid (HR2.out.ext hE5)
  have HR4 := Bl.hid (HR4.out.ext hE5)
  have HR5 := Bl.hid hR5
  clear hE5 hR5
  go_wp2_with fail
  refine (bits_any v4 _ _ HR4.out (by have := L3.out; omega) (Bl.tob_byt _)).mono ?_
  rintro e w6 ⟨v6, rfl, hR6, hE6⟩
  rw [Bl.be_tob] at hR6
  have HE6 := Bl.hid (HE5.out.trans hE6)
  have HR2 := Bl.hid (HR2.out.ext hE6)
  have HR5 := Bl.hid (HR5.out.ext hE6)
  have HR6 := Bl.hid hR6
  clear hE6 hR6
  go_wp2_with fail
  refine (radd_any v5 v6 _ _ _ HR5.out HR6.out (by have := M2.out; omega) (by have := M3.out; omega) (Bl.tb_bit _) (Bl.tb_bit _)).mono ?_
  rintro e w7 ⟨v7, rfl, hR7, hE7⟩
  rw [Bl.lb_tb, Bl.lb_tb, ← hsum.out] at hR7
  have HE7 := Bl.hid (HE6.out.trans hE7)
  have HR2 := Bl.hid (HR2.out.ext hE7)
  have HR7 := Bl.hid hR7
  clear hE7 hR7
  go_wp2_with fail
  refine (same_any v2 v7 A _ _ HR2.out HR7.out (by have := M1.out; omega) (Bl.tb_bit _) (Bl.lb_tb _)).mono ?_
  rintro e w8 ⟨rfl, hE8⟩
  have HE8 := Bl.hid (HE7.out.trans hE8)
  clear hE8
  go_wp2_with fail
  go_ret
  exact ⟨rfl, HE8.out⟩

theorem pascal_all (n k : Int) (S : List Nat) (a : Nat → Addr) (w : World) (hS : ∀ i, 1 ≤ i → i ≤ 20 → i ∈ S) (He : Errs S a w) (hk : -9223372036854775808 ≤ k ∧ k ≤ 9223372036854775807) :
    Calls Tryd.prog 5 #[.int .i64 n, .int .i64 k] w fun e w' => e = .returned (.bool true) ∧ Bl.Ext w w' := by
  by_cases h1 : n < 0 ∨ (0 ≤ n ∧ 1024 < n)
  · exact pascal_err n k S a w hS He h1
  · by_cases h2 : k < 0 ∨ (0 ≤ k ∧ n < k)
    · exact pascal_zero n k w (by omega) (by omega) h2 hk
    · by_cases h3 : k = 0 ∨ k = n
      · exact pascal_edge n k w (by omega) (by omega) (by omega) (by omega) (by omega)
      · exact pascal_in n k w (by omega) (by omega) (by omega)
end Go.Proofs.YtkndnmpdklidkaaDoor

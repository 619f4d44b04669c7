/- Walk of the law ChanceDoubles. -/
import Derived.Test.YtkndnmpdklidkaaDoorCl1
import Derived.Test.YtkndnmpdklidkaaDoorRf4
namespace Go.Proofs.Bl
open Go
theorem tob_dbl_len (l : List Int) (t : Nat) (h : Byt l) (hl : l.length ≤ 40) (ht : t ≤ 200) : (tb (be l * 2 ^ t)).length ≤ 1000 := by
  obtain ⟨K, hK⟩ : ∃ K, K = 8 * l.length + t := ⟨_, rfl⟩
  refine Nat.le_trans (tb_len_le K _ ?_) (by omega)
  have h1 := be_lt l h
  have h2 : be l * 2 ^ t < 256 ^ l.length * 2 ^ t := Nat.mul_lt_mul_of_pos_right h1 (Nat.pow_pos (by decide))
  rwa [show (256 : Nat) = 2 ^ 8 from rfl, ← Nat.pow_mul, ← Nat.pow_add, ← hK] at h2
end Go.Proofs.Bl
namespace Go.Proofs.YtkndnmpdklidkaaDoor
open Go.RowKit Go.Proofs

set_option maxRecDepth 100000 in
theorem doubles_skip (v : Value) (l : List Int) (t : Int) (w : World) (hR : Bl.Rd w .u8 v l) (h : (40 : Int) < (l.length : Int) ∨ ((l.length : Int) ≤ 40 ∧ 200 < t ∧ t ≤ 4096)) :
    Calls Tryd.prog 6 #[v, .int .i64 t] w fun e w' => e = .returned (.bool true) ∧ Bl.Ext w w' := by
  obtain ⟨p, c, hvf, _, _⟩ := hR.form
  obtain ⟨N, hN⟩ : ∃ N, N = l.length := ⟨_, rfl⟩
  rw [← hN] at hvf h
  subst hvf
  clear hR hN
  rcases h with h1 | ⟨h1, h2, h3⟩
  all_goals
    go_enter Tryd.func6, Tryd.ntmps6
    go_wp2_with fail
    refine (alive37 _).mono ?_
    rintro e w1 ⟨rfl, hE1⟩
    have HE1 := Bl.hid hE1
    clear hE1
    go_wp2_with fail
    go_ret
    exact ⟨rfl, HE1.out⟩

set_option maxRecDepth 100000 in
theorem doubles_err (v : Value) (l : List Int) (t : Int) (S : List Nat) (a : Nat → Addr) (w : World) (hS : ∀ i, 1 ≤ i → i ≤ 20 → i ∈ S) (He : Errs S a w) (hR : Bl.Rd w .u8 v l) (hl : (l.length : Int) ≤ 40) (h : (t < 0 ∧ t ≤ 200) ∨ (0 ≤ t ∧ 200 < t ∧ 4096 < t)) :
    Calls Tryd.prog 6 #[v, .int .i64 t] w fun e w' => e = .returned (.bool true) ∧ Bl.Ext w w' := by
  obtain ⟨p, c, hvf, _, _⟩ := hR.form
  obtain ⟨N, hN⟩ : ∃ N, N = l.length := ⟨_, rfl⟩
  rw [← hN] at hvf hl
  subst hvf
  have HN := Bl.hid (fun w1 (h : Bl.Ext w w1) => num_any S a w1 1 hS (He.ext h) (by decide) (by decide))
  have HC := Bl.hid (fun w1 (hh : Bl.Ext w w1) => double_err (.slice p N c) t (a 1) w1 (by omega) ((He.ext hh).cell 1 (hS 1 (by decide) (by decide))))
  clear hR hN hS He
  rcases h with ⟨h1, h2⟩ | ⟨h1, h2, h3⟩
  all_goals
    go_enter Tryd.func6, Tryd.ntmps6
    go_wp2_with fail
    refine (alive37 _).mono ?_
    rintro e w1 ⟨rfl, hE1⟩
    have HE1 := Bl.hid hE1
    clear hE1
    go_wp2_with fail
    refine (HC.out _ HE1.out).mono ?_
    rintro e w2 ⟨rfl, hE2⟩
    have HE2 := Bl.hid (HE1.out.trans hE2)
    clear hE2
    go_wp2_with fail
    refine (HN.out _ HE2.out).mono ?_
    rintro e w3 ⟨rfl, hE3⟩
    have HE3 := Bl.hid (HE2.out.trans hE3)
    clear hE3
    go_wp2_with fail
    go_ret
    exact ⟨rfl, HE3.out⟩

set_option maxRecDepth 100000 in
theorem doubles_in (v : Value) (l : List Int) (t : Nat) (w : World) (hR : Bl.Rd w .u8 v l) (hy : Bl.Byt l) (hl : (l.length : Int) ≤ 40) (ht : t ≤ 200) :
    Calls Tryd.prog 6 #[v, .int .i64 t] w fun e w' => e = .returned (.bool true) ∧ Bl.Ext w w' := by
  have hlen := Bl.tob_dbl_len l t hy (by omega) ht
  obtain ⟨p, c, hvf, _, _⟩ := hR.form
  have HC := Bl.hid (fun w1 (hh : Bl.Ext w w1) => double_any v l t w1 (hR.ext hh) (by omega) hy (by omega))
  have HB := Bl.hid (fun w1 (hh : Bl.Ext w w1) => bits_any v l w1 (hR.ext hh) (by omega) hy)
  have h8 := Bl.tb_len_le (8 * l.length) (Bl.be l) (by have := Bl.be_lt l hy; rwa [show (256 : Nat) = 2 ^ 8 from rfl, ← Nat.pow_mul] at this)
  obtain ⟨N, hN⟩ : ∃ N, N = l.length := ⟨_, rfl⟩
  rw [← hN] at hvf hl h8
  subst hvf
  obtain ⟨m, hm⟩ : ∃ m, m = Bl.be l := ⟨_, rfl⟩
  rw [← hm] at HC HB hlen h8
  have Hlen := Bl.hid hlen
  have H8 := Bl.hid h8
  have d1 : decide ((t : Int) < 0) = false := decide_eq_false (by omega)
  have d2 : decide ((200 : Int) < (t : Int)) = false := decide_eq_false (by omega)
  have d3 : decide ((4096 : Int) < (t : Int)) = false := decide_eq_false (by omega)
  clear hR hN hy hlen hm h8
  go_enter Tryd.func6, Tryd.ntmps6
  go_wp2_with fail
  refine (alive37 _).mono ?_
  rintro e w1 ⟨rfl, hE1⟩
  have HE1 := Bl.hid hE1
  clear hE1
  go_wp2_with fail
  refine (HC.out _ HE1.out).mono ?_
  rintro e w2 ⟨v2, rfl, hR2, hE2⟩
  have HE2 := Bl.hid (HE1.out.trans hE2)
  have HR2 := Bl.hid hR2
  clear hE2 hR2
  go_wp2_with fail
  refine (HB.out _ HE2.out).mono ?_
  rintro e w3 ⟨v3, rfl, hR3, hE3⟩
  have HE3 := Bl.hid (HE2.out.trans hE3)
  have HR2 := Bl.hid (HR2.out.ext hE3)
  clear hE3
  by_cases hz : m = 0
  · subst hz
    rw [Bl.tb_zero] at hR3
    rw [Nat.zero_mul] at HR2
    have HR3 := Bl.hid hR3
    obtain ⟨p3, c3, rfl, _, _⟩ := hR3.form
    clear hR3
    go_wp2_with fail
    refine (same_any v2 _ 0 [] _ HR2.out HR3.out (by simp) Bl.Bit.nil rfl).mono ?_
    rintro e w4 ⟨rfl, hE4⟩
    have HE4 := Bl.hid (HE3.out.trans hE4)
    clear hE4
    go_wp2_with fail
    go_ret
    exact ⟨rfl, HE4.out⟩
  · have HR3 := Bl.hid hR3
    obtain ⟨p3, c3, hf3, _, _⟩ := hR3.form
    have hLp : 0 < (Bl.tb m).length := List.length_pos_iff.2 (fun q => hz ((Bl.tb_nil_iff m).1 q))
    have h8 := H8.out
    have hsh := Bl.tb_shift m (by omega) t
    obtain ⟨L, hL⟩ : ∃ L, L = (Bl.tb m).length := ⟨_, rfl⟩
    rw [← hL] at hf3 hLp h8
    subst hf3
    have hLi : (0 : Int) < (L : Int) := by omega
    obtain ⟨w4, hrun, hown4, hE4, hs4⟩ := Bl.make_ints (P := Tryd.prog) tB t (by omega) (by unfold maxLen; omega) w3
    have Hown := Bl.hid hown4
    have HE4 := Bl.hid hE4
    have HRd := Bl.hid (HR3.out.ext hE4)
    have HL := Bl.hid hL
    have Hsh := Bl.hid hsh
    clear hown4 hE4 hR3 hL hsh
    go_wp2_with (with_reducible refine Bl.stop_append ?_)
    clear hrun
    refine Bl.go_on ?_
    refine Bl.wpL_app tB Hown.out HRd.out rfl rfl (by simp) (Bl.ints_one _ _) (by rw [← HL.out]; unfold maxLen; omega) (by rw [← HL.out]; omega) (Nat.le_of_lt hs4) ?_
    intro p5 c5 w5 hown5 hg5 hB5 hK5 hn5 hc5
    have hR5 : Bl.Rd w5 .u8 (.slice p5 (t + (Bl.tb m).length) c5) (Bl.tb (2 ^ t * m)) := by
      have := Bl.Rds.of_owns hown5
      rw [← Bl.ints_append, ← Hsh.out] at this
      show Bl.Rds _ _ _ _
      rw [Hsh.out, List.length_append, List.length_replicate, ← Hsh.out]
      exact this
    have HR5 := Bl.hid hR5
    have HE5 := Bl.hid (HE3.out.trans (Below.trans HE4.out hB5))
    have HR2 := Bl.hid (HR2.out.ext (Below.trans HE4.out hB5))
    clear hR5 hown5 hg5 hB5 hK5 hn5
    go_wp2_with fail
    refine (same_any v2 _ (m * 2 ^ t) (Bl.tb (2 ^ t * m)) _ HR2.out HR5.out (by rw [Nat.mul_comm]; have := Hlen.out; omega) (Bl.tb_bit _) (by rw [Bl.lb_tb, Nat.mul_comm])).mono ?_
    rintro e w6 ⟨rfl, hE6⟩
    have HE6 := Bl.hid (HE5.out.trans hE6)
    clear hE6
    go_wp2_with fail
    go_ret
    exact ⟨rfl, HE6.out⟩

theorem doubles_all (v : Value) (l : List Int) (t : Int) (S : List Nat) (a : Nat → Addr) (w : World) (hS : ∀ i, 1 ≤ i → i ≤ 20 → i ∈ S) (He : Errs S a w) (hR : Bl.Rd w .u8 v l) (hy : Bl.Byt l) :
    Calls Tryd.prog 6 #[v, .int .i64 t] w fun e w' => e = .returned (.bool true) ∧ Bl.Ext w w' := by
  by_cases h1 : (40 : Int) < (l.length : Int) ∨ ((l.length : Int) ≤ 40 ∧ 200 < t ∧ t ≤ 4096)
  · exact doubles_skip v l t w hR h1
  · by_cases h2 : 0 ≤ t ∧ t ≤ 200
    · obtain ⟨T, rfl⟩ := Int.eq_ofNat_of_zero_le h2.1
      exact doubles_in v l T w hR hy (by omega) (by omega)
    · exact doubles_err v l t S a w hS He hR (by omega) (by omega)
end Go.Proofs.YtkndnmpdklidkaaDoor

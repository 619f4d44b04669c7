/- Walk of the law ChanceMisses. -/
import Derived.Test.YtkndnmpdklidkaaDoorRf5
import Derived.Test.YtkndnmpdklidkaaDoorCh10
import Derived.Test.YtkndnmpdklidkaaDoorCh9
namespace Go.Proofs.Bl
open Go
theorem cmpn_le0 (a b : Nat) (h : a ≤ b) : cmpn a b ≤ 0 := by
  unfold cmpn
  split
  · omega
  · rw [if_neg (by omega)]; omega
end Go.Proofs.Bl
namespace Go.Proofs.YtkndnmpdklidkaaDoor
open Go.RowKit Go.Proofs

set_option maxRecDepth 100000 in
theorem misses_skip (s b p : Int) (w : World) (h1 : 60 < s) (h2 : s ≤ 512) :
    Calls Tryd.prog 7 #[.int .i64 s, .int .i64 b, .int .i64 p] w fun e w' => e = .returned (.bool true) ∧ Bl.Ext w w' := by
  go_enter Tryd.func7, Tryd.ntmps7
  go_wp2_with fail
  refine (alive37 _).mono ?_
  rintro e w1 ⟨rfl, hE1⟩
  have HE1 := Bl.hid hE1
  clear hE1
  go_wp2_with fail
  go_ret
  exact ⟨rfl, HE1.out⟩

set_option maxRecDepth 100000 in
set_option maxHeartbeats 1000000 in
theorem misses_err (s b p : Int) (S : List Nat) (a : Nat → Addr) (w : World) (hS : ∀ i, 1 ≤ i → i ≤ 20 → i ∈ S) (He : Errs S a w)
    (h : (s ≤ 60 ∧ s < 1) ∨ (60 < s ∧ 1 ≤ s ∧ 512 < s) ∨ (s ≤ 60 ∧ 1 ≤ s ∧ s ≤ 512 ∧ b < 0) ∨ (s ≤ 60 ∧ 1 ≤ s ∧ s ≤ 512 ∧ 0 ≤ b ∧ s < b) ∨ (s ≤ 60 ∧ 1 ≤ s ∧ s ≤ 512 ∧ 0 ≤ b ∧ b ≤ s ∧ p < 1) ∨ (s ≤ 60 ∧ 1 ≤ s ∧ s ≤ 512 ∧ 0 ≤ b ∧ b ≤ s ∧ 1 ≤ p ∧ 12 < p) ∨ (s ≤ 60 ∧ 1 ≤ s ∧ s ≤ 512 ∧ 0 ≤ b ∧ b ≤ s ∧ 1 ≤ p ∧ p ≤ 12 ∧ s < p)) :
    Calls Tryd.prog 7 #[.int .i64 s, .int .i64 b, .int .i64 p] w fun e w' => e = .returned (.bool true) ∧ Bl.Ext w w' := by
  have HN := Bl.hid (fun w1 (h : Bl.Ext w w1) => num_any S a w1 1 hS (He.ext h) (by decide) (by decide))
  have HM := Bl.hid (fun w1 (hh : Bl.Ext w w1) => miss_err s b p (a 1) w1 (by omega) ((He.ext hh).cell 1 (hS 1 (by decide) (by decide))))
  clear hS He
  rcases h with ⟨h1, h2⟩ | ⟨h1, h2, h3⟩ | ⟨h1, h2, h3, h4⟩ | ⟨h1, h2, h3, h4, h5⟩ | ⟨h1, h2, h3, h4, h5, h6⟩ | ⟨h1, h2, h3, h4, h5, h6, h7⟩ | ⟨h1, h2, h3, h4, h5, h6, h7, h8⟩
  all_goals
    go_enter Tryd.func7, Tryd.ntmps7
    go_wp2_with fail
    refine (alive37 _).mono ?_
    rintro e w1 ⟨rfl, hE1⟩
    have HE1 := Bl.hid hE1
    clear hE1
    go_wp2_with fail
    refine (HM.out _ HE1.out).mono ?_
    rintro e w2 ⟨rfl, hE2⟩
    have HE2 := Bl.hid ((HE1.out.trans hE2).trans (Bl.ext_alloc w2 (.cells #[.slice none 0 0, .slice none 0 0] 35)))
    have m0 := World.cell?_alloc_new w2 #[.slice none 0 0, .slice none 0 0] 35 0
    have m1 := World.cell?_alloc_new w2 #[.slice none 0 0, .slice none 0 0] 35 1
    clear hE2
    go_wp2_with fail
    refine (HN.out _ HE2.out).mono ?_
    rintro e w3 ⟨rfl, hE3⟩
    have HE3 := Bl.hid (HE2.out.trans hE3)
    clear hE3
    go_wp2_with fail
    go_ret
    exact ⟨rfl, HE3.out⟩

set_option maxRecDepth 100000 in
set_option maxHeartbeats 2000000 in
theorem misses_eq (s b p : Int) (w : World) (h1 : 1 ≤ s) (h2 : s ≤ 60) (h3 : 0 ≤ b) (h4 : b = s) (h5 : 1 ≤ p) (h6 : p ≤ 12) (h7 : p ≤ s) :
    Calls Tryd.prog 7 #[.int .i64 s, .int .i64 b, .int .i64 p] w fun e w' => e = .returned (.bool true) ∧ Bl.Ext w w' := by
  have h8 : b ≤ s := by omega
  have h9 : s ≤ 512 := by omega
  have hz : Bl.bin (s - b).toNat p.toNat = 0 := Bl.bin_big _ _ (by omega)
  have heq : (b == s) = true := by simp; omega
  have H4 := Bl.hid h4
  clear h4
  have hM := fun w1 => miss_in s b p w1 h1 h9 h3 h8 h5 h6 h7
  have hR1 := fun w1 => rchoose_any (s - b) p w1 (by omega) (by omega)
  have hR2 := fun w1 => rchoose_any s p w1 (by omega) (by omega)
  rw [← Int.toNat_of_nonneg (show 0 ≤ p by omega), Bl.binz_nat, Int.toNat_of_nonneg (show 0 ≤ p by omega)] at hR1 hR2
  have l1 := Bl.tb_bin_len (s - b).toNat p.toNat (by omega)
  have l2 := Bl.tb_bin_len s.toNat p.toNat (by omega)
  have k1 := Bl.bin_len (s - b).toNat p.toNat (by omega)
  have k2 := Bl.bin_len s.toNat p.toNat (by omega)
  obtain ⟨A, hA⟩ : ∃ A, A = Bl.bin (s - b).toNat p.toNat := ⟨_, rfl⟩
  obtain ⟨B, hB⟩ : ∃ B, B = Bl.bin s.toNat p.toNat := ⟨_, rfl⟩
  rw [← hA] at hM hR1 l1 k1 hz
  rw [← hB] at hM hR2 l2 k2 
  have HM := Bl.hid hM
  have HR1 := Bl.hid hR1
  have HR2 := Bl.hid hR2
  have Hz := Bl.hid hz
  have L1 := Bl.hid l1
  have L2 := Bl.hid l2
  have K1 := Bl.hid k1
  have K2 := Bl.hid k2
  clear hz hM hR1 hR2 l1 l2 k1 k2 hA hB
  go_enter Tryd.func7, Tryd.ntmps7
  go_wp2_with fail
  refine (alive37 _).mono ?_
  rintro e w1 ⟨rfl, hE1⟩
  have HE1 := Bl.hid hE1
  clear hE1
  go_wp2_with fail
  refine (HM.out _).mono ?_
  rintro e w2 ⟨x, y, rfl, hx, hy, hE2⟩
  obtain ⟨q1, c1, rfl, _, _⟩ := hx.form
  obtain ⟨q2, c2, rfl, _, _⟩ := hy.form
  have HX := Bl.hid (Bl.ext_alloc w2 (.cells #[.slice q1 (Bl.tob A).length c1, .slice q2 (Bl.tob B).length c2] 35))
  have Hx := Bl.hid (hx.ext HX.out)
  have Hy := Bl.hid (hy.ext HX.out)
  have HE2 := Bl.hid (HE1.out.trans (hE2.trans HX.out))
  have m0 := World.cell?_alloc_new w2 #[.slice q1 (Bl.tob A).length c1, .slice q2 (Bl.tob B).length c2] 35 0
  have m1 := World.cell?_alloc_new w2 #[.slice q1 (Bl.tob A).length c1, .slice q2 (Bl.tob B).length c2] 35 1
  clear hE2 hx hy
  go_wp2_with fail
  obtain ⟨W2, hW2⟩ : ∃ W2, W2 = w2.alloc (.cells #[.slice q1 (Bl.tob A).length c1, .slice q2 (Bl.tob B).length c2] 35) := ⟨_, rfl⟩
  rw [← hW2] at Hx Hy m0 m1 HE2 ⊢
  clear hW2 HX
  have hwr : IntKind.i64.wrap (s - b) = s - b := IntWalk.i64_in _ (by omega)
  have HS1 := Bl.hid (fun (u : Value) wq (h : Bl.Ext W2 wq) (hu : Bl.Rd wq .u8 u (Bl.tb A)) => same_any (.slice q1 (Bl.tob A).length c1) u A _ wq (Hx.out.ext h) hu (by have := L1.out; omega) (Bl.tb_bit _) (Bl.lb_tb _))
  have HS2 := Bl.hid (fun (u : Value) wq (h : Bl.Ext W2 wq) (hu : Bl.Rd wq .u8 u (Bl.tb B)) => same_any (.slice q2 (Bl.tob B).length c2) u B _ wq (Hy.out.ext h) hu (by have := L2.out; omega) (Bl.tb_bit _) (Bl.lb_tb _))
  apply Bl.wp_region_ev 21 [68, 69, 70, 71, 72, 73, 74, 75, 76, 77, 78, 79, 80, 81, 82, 83, 84, 85, 86, 87, 88] [Bl.eqv _, Bl.eqv (.bool false), Bl.eqv (.bool false), Bl.eqv _, Bl.eqv (.slice q1 (Bl.tob A).length c1), Bl.eqv _, Bl.eqv _, Bl.eqv (.int .i64 (s - b)), Bl.eqv _, (fun v w' => Bl.Rd w' .u8 v (Bl.tb A)), Bl.eqv (.bool true), Bl.eqv (.bool false), Bl.eqv (.bool false), Bl.eqv (.bool false), Bl.eqv _, Bl.eqv (.slice q2 (Bl.tob B).length c2), Bl.eqv _, Bl.eqv _, (fun v w' => Bl.Rd w' .u8 v (Bl.tb B)), Bl.eqv (.bool true), Bl.eqv (.bool false)] (by kernel_rfl) (by kernel_rfl) (by kernel_rfl) (by kernel_rfl)
  case hsteps =>
    refine ⟨?_, ?_, ?_, ?_, ?_, ?_, ?_, ?_, ?_, ?_, ?_, ?_, ?_, ?_, ?_, ?_, ?_, ?_, ?_, ?_, ?_, trivial⟩
    all_goals
      intro ev w1 hext hb hd
      have e0 := hb 0 (by decide)
      have e1 := hb 1 (by decide)
      have e2 := hb 2 (by decide)
      have e7 := hb 7 (by decide)
      have e8 := hb 8 (by decide)
      clear hb
      simp only [Array.getD_eq_getD_getElem?, List.getElem?_toArray, List.getElem?_cons_succ, List.getElem?_cons_zero, Option.getD_some] at e0 e1 e2 e7 e8
      simp only [Bl.DepsE, List.getElem?_cons_succ, List.getElem?_cons_zero, Option.bind_some, List.getD_cons_succ, List.getD_cons_zero, Bl.eqv, and_true] at hd
      have hc := (Bl.bcell hext).1
      have m0x := (hc _ 0 (World.block_lt_of_cell? _ _ m0)).trans m0
      have m1x := (hc _ 1 (World.block_lt_of_cell? _ _ m1)).trans m1
      simp only [Bl.Good, Region.wanted, Bl.yieldE, List.getElem?_cons_succ, List.getElem?_cons_zero, Option.bind_some, hd, beq_self_eq_true, if_true]
      go_simp
      first | (go_at_call 20; (with_reducible refine (HR1.out _).mono ?_); rintro e w' ⟨v', rfl, h1, h2⟩; exact ⟨_, rfl, h2, h1⟩) | (go_at_call 20; (with_reducible refine (HR2.out _).mono ?_); rintro e w' ⟨v', rfl, h1, h2⟩; exact ⟨_, rfl, h2, h1⟩) | (go_at_call 16; (with_reducible refine (HS1.out _ _ hext hd).mono ?_); rintro e w' ⟨rfl, h2⟩; exact ⟨_, rfl, h2, rfl⟩) | (go_at_call 16; (with_reducible refine (HS1.out _ _ hext hd.1).mono ?_); rintro e w' ⟨rfl, h2⟩; exact ⟨_, rfl, h2, rfl⟩) | (go_at_call 16; (with_reducible refine (HS1.out _ _ hext hd.2).mono ?_); rintro e w' ⟨rfl, h2⟩; exact ⟨_, rfl, h2, rfl⟩) | (go_at_call 16; (with_reducible refine (HS1.out _ _ hext hd.2.1).mono ?_); rintro e w' ⟨rfl, h2⟩; exact ⟨_, rfl, h2, rfl⟩) | (go_at_call 16; (with_reducible refine (HS1.out _ _ hext hd.2.2).mono ?_); rintro e w' ⟨rfl, h2⟩; exact ⟨_, rfl, h2, rfl⟩) | (go_at_call 16; (with_reducible refine (HS2.out _ _ hext hd).mono ?_); rintro e w' ⟨rfl, h2⟩; exact ⟨_, rfl, h2, rfl⟩) | (go_at_call 16; (with_reducible refine (HS2.out _ _ hext hd.1).mono ?_); rintro e w' ⟨rfl, h2⟩; exact ⟨_, rfl, h2, rfl⟩) | (go_at_call 16; (with_reducible refine (HS2.out _ _ hext hd.2).mono ?_); rintro e w' ⟨rfl, h2⟩; exact ⟨_, rfl, h2, rfl⟩) | (go_at_call 16; (with_reducible refine (HS2.out _ _ hext hd.2.1).mono ?_); rintro e w' ⟨rfl, h2⟩; exact ⟨_, rfl, h2, rfl⟩) | (go_at_call 16; (with_reducible refine (HS2.out _ _ hext hd.2.2).mono ?_); rintro e w' ⟨rfl, h2⟩; exact ⟨_, rfl, h2, rfl⟩) | exact ⟨Below.refl _ _, rfl⟩
  case hmono => exact ⟨Bl.mono_eqv _, (Bl.mono_eqv _), (Bl.mono_eqv _), Bl.mono_eqv _, (Bl.mono_eqv _), Bl.mono_eqv _, Bl.mono_eqv _, (Bl.mono_eqv _), Bl.mono_eqv _, (fun _ _ _ h k => Bl.Rd.ext h k), (Bl.mono_eqv _), (Bl.mono_eqv _), (Bl.mono_eqv _), (Bl.mono_eqv _), Bl.mono_eqv _, (Bl.mono_eqv _), Bl.mono_eqv _, Bl.mono_eqv _, (fun _ _ _ h k => Bl.Rd.ext h k), (Bl.mono_eqv _), (Bl.mono_eqv _), trivial⟩
  case hend =>
    intro u w1 hext hend
    simp only [Bl.EndE, List.getElem?_cons_succ, List.getElem?_cons_zero, Option.bind_some, List.getD_cons_succ, List.getD_cons_zero, Bl.eqv, true_and] at hend
    simp only [Bl.fillAct, List.setIfInBounds_toArray, List.set_cons_succ, List.set_cons_zero, List.drop_succ_cons, List.drop_zero, hend]
    have m0 := ((Bl.bcell hext).1 _ 0 (World.block_lt_of_cell? _ _ m0)).trans m0
    have m1 := ((Bl.bcell hext).1 _ 1 (World.block_lt_of_cell? _ _ m1)).trans m1
    have Hx := Bl.hid (Hx.out.ext hext)
    have Hy := Bl.hid (Hy.out.ext hext)
    have HE3 := Bl.hid (HE2.out.trans hext)
    clear hext hend HS1 HS2
    have hA0 := Hz.out
    subst hA0
    have hl0 : (Bl.tob 0).length = 0 := rfl
    rw [hl0] at m0 ⊢
    clear hl0
    go_wp2_with fail
    go_ret
    exact ⟨rfl, HE3.out⟩

set_option maxRecDepth 100000 in
set_option maxHeartbeats 2000000 in
theorem misses_lt (s b p : Int) (w : World) (h1 : 1 ≤ s) (h2 : s ≤ 60) (h3 : 0 ≤ b) (h4 : b < s) (h5 : 1 ≤ p) (h6 : p ≤ 12) (h7 : p ≤ s) :
    Calls Tryd.prog 7 #[.int .i64 s, .int .i64 b, .int .i64 p] w fun e w' => e = .returned (.bool true) ∧ Bl.Ext w w' := by
  have h8 : b ≤ s := by omega
  have h9 : s ≤ 512 := by omega
  have heq : (b == s) = false := by simp; omega
  have hM := fun w1 => miss_in s b p w1 h1 h9 h3 h8 h5 h6 h7
  have hM2 := fun w1 => miss_in s (b + 1) p w1 h1 h9 (by omega) (by omega) h5 h6 h7
  have hR1 := fun w1 => rchoose_any (s - b) p w1 (by omega) (by omega)
  have hR2 := fun w1 => rchoose_any s p w1 (by omega) (by omega)
  rw [← Int.toNat_of_nonneg (show 0 ≤ p by omega), Bl.binz_nat, Int.toNat_of_nonneg (show 0 ≤ p by omega)] at hR1 hR2
  have l1 := Bl.tb_bin_len (s - b).toNat p.toNat (by omega)
  have l2 := Bl.tb_bin_len s.toNat p.toNat (by omega)
  have k1 := Bl.bin_len (s - b).toNat p.toNat (by omega)
  have k2 := Bl.bin_len s.toNat p.toNat (by omega)
  have k3 := Bl.bin_len (s - (b + 1)).toNat p.toNat (by omega)
  have o1 := Bl.bin_mono (s - (b + 1)).toNat (s - b).toNat p.toNat (by omega)
  have o2 := Bl.bin_mono (s - b).toNat s.toNat p.toNat (by omega)
  obtain ⟨C, hC⟩ : ∃ C, C = Bl.bin (s - (b + 1)).toNat p.toNat := ⟨_, rfl⟩
  rw [← hC] at hM2 k3 o1
  obtain ⟨A, hA⟩ : ∃ A, A = Bl.bin (s - b).toNat p.toNat := ⟨_, rfl⟩
  obtain ⟨B, hB⟩ : ∃ B, B = Bl.bin s.toNat p.toNat := ⟨_, rfl⟩
  rw [← hA] at hM hR1 l1 k1 o1 o2
  rw [← hB] at hM hR2 l2 k2 hM2 o2
  have HM := Bl.hid hM
  have HR1 := Bl.hid hR1
  have HR2 := Bl.hid hR2
  have HM2 := Bl.hid hM2
  have K3 := Bl.hid k3
  have O1 := Bl.hid (Bl.cmpn_le0 _ _ o1)
  have O2 := Bl.hid (Bl.cmpn_le0 _ _ o2)
  have L1 := Bl.hid l1
  have L2 := Bl.hid l2
  have K1 := Bl.hid k1
  have K2 := Bl.hid k2
  clear hM2 k3 o1 o2 hC hM hR1 hR2 l1 l2 k1 k2 hA hB
  go_enter Tryd.func7, Tryd.ntmps7
  go_wp2_with fail
  refine (alive37 _).mono ?_
  rintro e w1 ⟨rfl, hE1⟩
  have HE1 := Bl.hid hE1
  clear hE1
  go_wp2_with fail
  refine (HM.out _).mono ?_
  rintro e w2 ⟨x, y, rfl, hx, hy, hE2⟩
  obtain ⟨q1, c1, rfl, _, _⟩ := hx.form
  obtain ⟨q2, c2, rfl, _, _⟩ := hy.form
  have HX := Bl.hid (Bl.ext_alloc w2 (.cells #[.slice q1 (Bl.tob A).length c1, .slice q2 (Bl.tob B).length c2] 35))
  have Hx := Bl.hid (hx.ext HX.out)
  have Hy := Bl.hid (hy.ext HX.out)
  have HE2 := Bl.hid (HE1.out.trans (hE2.trans HX.out))
  have m0 := World.cell?_alloc_new w2 #[.slice q1 (Bl.tob A).length c1, .slice q2 (Bl.tob B).length c2] 35 0
  have m1 := World.cell?_alloc_new w2 #[.slice q1 (Bl.tob A).length c1, .slice q2 (Bl.tob B).length c2] 35 1
  clear hE2 hx hy
  go_wp2_with fail
  obtain ⟨W2, hW2⟩ : ∃ W2, W2 = w2.alloc (.cells #[.slice q1 (Bl.tob A).length c1, .slice q2 (Bl.tob B).length c2] 35) := ⟨_, rfl⟩
  rw [← hW2] at Hx Hy m0 m1 HE2 ⊢
  clear hW2 HX
  have hwr : IntKind.i64.wrap (s - b) = s - b := IntWalk.i64_in _ (by omega)
  have HS1 := Bl.hid (fun (u : Value) wq (h : Bl.Ext W2 wq) (hu : Bl.Rd wq .u8 u (Bl.tb A)) => same_any (.slice q1 (Bl.tob A).length c1) u A _ wq (Hx.out.ext h) hu (by have := L1.out; omega) (Bl.tb_bit _) (Bl.lb_tb _))
  have HS2 := Bl.hid (fun (u : Value) wq (h : Bl.Ext W2 wq) (hu : Bl.Rd wq .u8 u (Bl.tb B)) => same_any (.slice q2 (Bl.tob B).length c2) u B _ wq (Hy.out.ext h) hu (by have := L2.out; omega) (Bl.tb_bit _) (Bl.lb_tb _))
  apply Bl.wp_region_ev 21 [68, 69, 70, 71, 72, 73, 74, 75, 76, 77, 78, 79, 80, 81, 82, 83, 84, 85, 86, 87, 88] [Bl.eqv _, Bl.eqv (.bool false), Bl.eqv (.bool false), Bl.eqv _, Bl.eqv (.slice q1 (Bl.tob A).length c1), Bl.eqv _, Bl.eqv _, Bl.eqv (.int .i64 (s - b)), Bl.eqv _, (fun v w' => Bl.Rd w' .u8 v (Bl.tb A)), Bl.eqv (.bool true), Bl.eqv (.bool false), Bl.eqv (.bool false), Bl.eqv (.bool false), Bl.eqv _, Bl.eqv (.slice q2 (Bl.tob B).length c2), Bl.eqv _, Bl.eqv _, (fun v w' => Bl.Rd w' .u8 v (Bl.tb B)), Bl.eqv (.bool true), Bl.eqv (.bool false)] (by kernel_rfl) (by kernel_rfl) (by kernel_rfl) (by kernel_rfl)
  case hsteps =>
    refine ⟨?_, ?_, ?_, ?_, ?_, ?_, ?_, ?_, ?_, ?_, ?_, ?_, ?_, ?_, ?_, ?_, ?_, ?_, ?_, ?_, ?_, trivial⟩
    all_goals
      intro ev w1 hext hb hd
      have e0 := hb 0 (by decide)
      have e1 := hb 1 (by decide)
      have e2 := hb 2 (by decide)
      have e7 := hb 7 (by decide)
      have e8 := hb 8 (by decide)
      clear hb
      simp only [Array.getD_eq_getD_getElem?, List.getElem?_toArray, List.getElem?_cons_succ, List.getElem?_cons_zero, Option.getD_some] at e0 e1 e2 e7 e8
      simp only [Bl.DepsE, List.getElem?_cons_succ, List.getElem?_cons_zero, Option.bind_some, List.getD_cons_succ, List.getD_cons_zero, Bl.eqv, and_true] at hd
      have hc := (Bl.bcell hext).1
      have m0x := (hc _ 0 (World.block_lt_of_cell? _ _ m0)).trans m0
      have m1x := (hc _ 1 (World.block_lt_of_cell? _ _ m1)).trans m1
      simp only [Bl.Good, Region.wanted, Bl.yieldE, List.getElem?_cons_succ, List.getElem?_cons_zero, Option.bind_some, hd, beq_self_eq_true, if_true]
      go_simp
      first | (go_at_call 20; (with_reducible refine (HR1.out _).mono ?_); rintro e w' ⟨v', rfl, h1, h2⟩; exact ⟨_, rfl, h2, h1⟩) | (go_at_call 20; (with_reducible refine (HR2.out _).mono ?_); rintro e w' ⟨v', rfl, h1, h2⟩; exact ⟨_, rfl, h2, h1⟩) | (go_at_call 16; (with_reducible refine (HS1.out _ _ hext hd).mono ?_); rintro e w' ⟨rfl, h2⟩; exact ⟨_, rfl, h2, rfl⟩) | (go_at_call 16; (with_reducible refine (HS1.out _ _ hext hd.1).mono ?_); rintro e w' ⟨rfl, h2⟩; exact ⟨_, rfl, h2, rfl⟩) | (go_at_call 16; (with_reducible refine (HS1.out _ _ hext hd.2).mono ?_); rintro e w' ⟨rfl, h2⟩; exact ⟨_, rfl, h2, rfl⟩) | (go_at_call 16; (with_reducible refine (HS1.out _ _ hext hd.2.1).mono ?_); rintro e w' ⟨rfl, h2⟩; exact ⟨_, rfl, h2, rfl⟩) | (go_at_call 16; (with_reducible refine (HS1.out _ _ hext hd.2.2).mono ?_); rintro e w' ⟨rfl, h2⟩; exact ⟨_, rfl, h2, rfl⟩) | (go_at_call 16; (with_reducible refine (HS2.out _ _ hext hd).mono ?_); rintro e w' ⟨rfl, h2⟩; exact ⟨_, rfl, h2, rfl⟩) | (go_at_call 16; (with_reducible refine (HS2.out _ _ hext hd.1).mono ?_); rintro e w' ⟨rfl, h2⟩; exact ⟨_, rfl, h2, rfl⟩) | (go_at_call 16; (with_reducible refine (HS2.out _ _ hext hd.2).mono ?_); rintro e w' ⟨rfl, h2⟩; exact ⟨_, rfl, h2, rfl⟩) | (go_at_call 16; (with_reducible refine (HS2.out _ _ hext hd.2.1).mono ?_); rintro e w' ⟨rfl, h2⟩; exact ⟨_, rfl, h2, rfl⟩) | (go_at_call 16; (with_reducible refine (HS2.out _ _ hext hd.2.2).mono ?_); rintro e w' ⟨rfl, h2⟩; exact ⟨_, rfl, h2, rfl⟩) | exact ⟨Below.refl _ _, rfl⟩
  case hmono => exact ⟨Bl.mono_eqv _, (Bl.mono_eqv _), (Bl.mono_eqv _), Bl.mono_eqv _, (Bl.mono_eqv _), Bl.mono_eqv _, Bl.mono_eqv _, (Bl.mono_eqv _), Bl.mono_eqv _, (fun _ _ _ h k => Bl.Rd.ext h k), (Bl.mono_eqv _), (Bl.mono_eqv _), (Bl.mono_eqv _), (Bl.mono_eqv _), Bl.mono_eqv _, (Bl.mono_eqv _), Bl.mono_eqv _, Bl.mono_eqv _, (fun _ _ _ h k => Bl.Rd.ext h k), (Bl.mono_eqv _), (Bl.mono_eqv _), trivial⟩
  case hend =>
    intro u w1 hext hend
    simp only [Bl.EndE, List.getElem?_cons_succ, List.getElem?_cons_zero, Option.bind_some, List.getD_cons_succ, List.getD_cons_zero, Bl.eqv, true_and] at hend
    simp only [Bl.fillAct, List.setIfInBounds_toArray, List.set_cons_succ, List.set_cons_zero, List.drop_succ_cons, List.drop_zero, hend]
    have m0 := ((Bl.bcell hext).1 _ 0 (World.block_lt_of_cell? _ _ m0)).trans m0
    have m1 := ((Bl.bcell hext).1 _ 1 (World.block_lt_of_cell? _ _ m1)).trans m1
    have Hx := Bl.hid (Hx.out.ext hext)
    have Hy := Bl.hid (Hy.out.ext hext)
    have HE3 := Bl.hid (HE2.out.trans hext)
    clear hext hend HS1 HS2
    go_wp2_with fail
    refine (HM2.out _).mono ?_
    rintro e w3 ⟨x3, y3, rfl, hx3, hy3, hE4⟩
    obtain ⟨q3, c3, rfl, _, _⟩ := hx3.form
    obtain ⟨q4, c4, rfl, _, _⟩ := hy3.form
    have HX := Bl.hid (Bl.ext_alloc w3 (.cells #[.slice q3 (Bl.tob C).length c3, .slice q4 (Bl.tob B).length c4] 35))
    have Hx3 := Bl.hid (hx3.ext HX.out)
    have hXX := hE4.trans HX.out
    have m0 := ((Bl.bcell hXX).1 _ 0 (World.block_lt_of_cell? _ _ m0)).trans m0
    have m1 := ((Bl.bcell hXX).1 _ 1 (World.block_lt_of_cell? _ _ m1)).trans m1
    have Hx := Bl.hid (Hx.out.ext hXX)
    have Hy := Bl.hid (Hy.out.ext hXX)
    have HE4 := Bl.hid (HE3.out.trans hXX)
    have n0 := World.cell?_alloc_new w3 #[.slice q3 (Bl.tob C).length c3, .slice q4 (Bl.tob B).length c4] 35 0
    clear hE4 hXX hx3 hy3
    go_wp2_with fail
    have hc1 := compare_any (.slice q3 (Bl.tob C).length c3) (.slice q1 (Bl.tob A).length c1) _ _ _ Hx3.out Hx.out (by have := K3.out; omega) (by have := K1.out; omega) (Bl.tob_byt _) (Bl.tob_byt _)
    rw [Bl.be_tob, Bl.be_tob] at hc1
    refine hc1.mono ?_
    rintro e w5 ⟨rfl, hE5⟩
    have m0 := ((Bl.bcell hE5).1 _ 0 (World.block_lt_of_cell? _ _ m0)).trans m0
    have m1 := ((Bl.bcell hE5).1 _ 1 (World.block_lt_of_cell? _ _ m1)).trans m1
    have Hx := Bl.hid (Hx.out.ext hE5)
    have Hy := Bl.hid (Hy.out.ext hE5)
    have HE5 := Bl.hid (HE4.out.trans hE5)
    obtain ⟨cv, hcv⟩ : ∃ cv, cv = Bl.cmpn C A := ⟨_, rfl⟩
    rw [← hcv] at O1 ⊢
    have ho1 := O1.out
    clear hc1 hE5 n0 hcv
    go_wp2_with fail
    have hc2 := compare_any (.slice q1 (Bl.tob A).length c1) (.slice q2 (Bl.tob B).length c2) _ _ _ Hx.out Hy.out (by have := K1.out; omega) (by have := K2.out; omega) (Bl.tob_byt _) (Bl.tob_byt _)
    rw [Bl.be_tob, Bl.be_tob] at hc2
    refine hc2.mono ?_
    rintro e w6 ⟨rfl, hE6⟩
    have HE6 := Bl.hid (HE5.out.trans hE6)
    obtain ⟨cu, hcu⟩ : ∃ cu, cu = Bl.cmpn A B := ⟨_, rfl⟩
    rw [← hcu] at O2 ⊢
    have ho2 := O2.out
    clear hc2 hE6 hcu
    go_wp2_with fail
    go_ret
    exact ⟨rfl, HE6.out⟩

theorem misses_all (s b p : Int) (S : List Nat) (a : Nat → Addr) (w : World) (hS : ∀ i, 1 ≤ i → i ≤ 20 → i ∈ S) (He : Errs S a w) :
    Calls Tryd.prog 7 #[.int .i64 s, .int .i64 b, .int .i64 p] w fun e w' => e = .returned (.bool true) ∧ Bl.Ext w w' := by
  by_cases h1 : 60 < s ∧ s ≤ 512
  · exact misses_skip s b p w h1.1 h1.2
  · by_cases h : 1 ≤ s ∧ s ≤ 60 ∧ 0 ≤ b ∧ b ≤ s ∧ 1 ≤ p ∧ p ≤ 12 ∧ p ≤ s
    · obtain ⟨h1, h2, h3, h4, h5, h6, h7⟩ := h
      by_cases hb : b = s
      · exact misses_eq s b p w h1 h2 h3 hb h5 h6 h7
      · exact misses_lt s b p w h1 h2 h3 (by omega) h5 h6 h7
    · exact misses_err s b p S a w hS He (by omega)
end Go.Proofs.YtkndnmpdklidkaaDoor

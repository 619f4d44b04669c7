/- Walk of package chance: Miss. -/
import Derived.Test.YtkndnmpdklidkaaDoorCh8
namespace Go.Proofs.YtkndnmpdklidkaaDoor
open Go.RowKit Go.Proofs

set_option maxRecDepth 100000 in
set_option maxHeartbeats 1000000 in
/-- Miss out of its range -/
theorem miss_err0 (s b p : Int) (a : Addr) (w : World) (h : s < 1 ∨ (1 ≤ s ∧ 512 < s) ∨ (1 ≤ s ∧ s ≤ 512 ∧ b < 0) ∨ (1 ≤ s ∧ s ≤ 512 ∧ 0 ≤ b ∧ s < b) ∨ (1 ≤ s ∧ s ≤ 512 ∧ 0 ≤ b ∧ b ≤ s ∧ p < 1) ∨ (1 ≤ s ∧ s ≤ 512 ∧ 0 ≤ b ∧ b ≤ s ∧ 1 ≤ p ∧ s < 12 ∧ s < p) ∨ (1 ≤ s ∧ s ≤ 512 ∧ 0 ≤ b ∧ b ≤ s ∧ 1 ≤ p ∧ 12 ≤ s ∧ 12 < p)) (hF : w.cell? ⟨0, 0, none⟩ = some (.iface 97 (.pointer (some a)))) :
    Calls Tryd.prog 17 #[.int .i64 s, .int .i64 b, .int .i64 p] w fun e w' => e = .returned (.tuple #[.agg #[.slice none 0 0, .slice none 0 0], .iface 97 (.pointer (some a))]) ∧ Bl.Ext w w' := by
  have hF2 : (w.alloc (.cells #[.slice none 0 0, .slice none 0 0] 35)).cell? ⟨0, 0, none⟩ = some (.iface 97 (.pointer (some a))) := ((Bl.bcell (Bl.ext_alloc w _)).1 _ 0 (World.block_lt_of_cell? _ _ hF)).trans hF
  have hE := Bl.hid (Bl.ext_alloc w (.cells #[.slice none 0 0, .slice none 0 0] 35))
  have HP := Bl.hid (loadOdds (w.alloc (.cells #[.slice none 0 0, .slice none 0 0] 35)).drew w.heap.size _ _ (Bl.range2 (World.cell?_alloc_new w #[.slice none 0 0, .slice none 0 0] 35 0) (World.cell?_alloc_new w #[.slice none 0 0, .slice none 0 0] 35 1)))
  rcases h with h1 | ⟨h1, h2⟩ | ⟨h1, h2, h3⟩ | ⟨h1, h2, h3, h4⟩ | ⟨h1, h2, h3, h4, h5⟩ | ⟨h1, h2, h3, h4, h5, h6, h7⟩ | ⟨h1, h2, h3, h4, h5, h6, h7⟩
  all_goals
    go_enter Tryd.func17, Tryd.ntmps17
    go_wp2_with fail
    go_region
    all_goals
      go_wp2_with fail
      refine bodyPost_ret (v := .tuple #[.agg #[.slice none 0 0, .slice none 0 0], .iface 97 (.pointer (some a))]) (Bl.results_pair2 rfl rfl HP.out rfl) rfl ⟨rfl, hE.out.drew⟩

theorem miss_err (s b p : Int) (a : Addr) (w : World) (h : ¬ (1 ≤ s ∧ s ≤ 512 ∧ 0 ≤ b ∧ b ≤ s ∧ 1 ≤ p ∧ p ≤ 12 ∧ p ≤ s)) (hF : w.cell? ⟨0, 0, none⟩ = some (.iface 97 (.pointer (some a)))) :
    Calls Tryd.prog 17 #[.int .i64 s, .int .i64 b, .int .i64 p] w fun e w' => e = .returned (.tuple #[.agg #[.slice none 0 0, .slice none 0 0], .iface 97 (.pointer (some a))]) ∧ Bl.Ext w w' :=
  miss_err0 s b p a w (by omega) hF

set_option maxRecDepth 100000 in
set_option maxHeartbeats 1000000 in
/-- Miss within its range -/
theorem miss_in (s b p : Int) (w : World) (h1 : 1 ≤ s) (h2 : s ≤ 512) (h0 : 0 ≤ b) (h3 : b ≤ s) (h4 : 1 ≤ p) (h5 : p ≤ 12) (h6 : p ≤ s) :
    Calls Tryd.prog 17 #[.int .i64 s, .int .i64 b, .int .i64 p] w fun e w' => ∃ x y, e = .returned (.tuple #[.agg #[x, y], .nilIface]) ∧ Bl.Rd w' .u8 x (Bl.tob (Bl.bin (s - b).toNat p.toNat)) ∧ Bl.Rd w' .u8 y (Bl.tob (Bl.bin s.toNat p.toNat)) ∧ Bl.Ext w w' := by
  have hc : s < 12 ∨ 12 ≤ s := by omega
  have hE := Bl.hid (Bl.ext_alloc w (.cells #[.slice none 0 0, .slice none 0 0] 35))
  have hC1 := fun w1 => choose_own (s - b).toNat (p.toNat : Int) w1 (by omega) (by omega)
  have hC2 := fun w1 => choose_own s.toNat (p.toNat : Int) w1 (by omega) (by omega)
  simp only [Bl.binz_nat] at hC1 hC2
  rw [Int.toNat_of_nonneg (show 0 ≤ s - b by omega), Int.toNat_of_nonneg (show 0 ≤ p by omega)] at hC1
  rw [Int.toNat_of_nonneg (show 0 ≤ s by omega), Int.toNat_of_nonneg (show 0 ≤ p by omega)] at hC2
  obtain ⟨A, hA⟩ : ∃ A, A = Bl.bin (s - b).toNat p.toNat := ⟨_, rfl⟩
  obtain ⟨B, hB⟩ : ∃ B, B = Bl.bin s.toNat p.toNat := ⟨_, rfl⟩
  rw [← hA] at hC1 ⊢
  rw [← hB] at hC2 ⊢
  have HC1 := Bl.hid hC1
  have HC2 := Bl.hid hC2
  clear hC1 hC2 hA hB
  rcases hc with hc | hc
  all_goals
    go_enter Tryd.func17, Tryd.ntmps17
    go_wp2_with fail
    refine (HC1.out _).mono ?_
    rintro e w1 ⟨v1, rfl, ho1, hE1⟩
    have Ho1 := Bl.hid ho1
    have HE1 := Bl.hid hE1
    clear ho1 hE1
    go_wp2_with fail
    refine (HC2.out _).mono ?_
    rintro e w2 ⟨v2, rfl, ho2, hE2⟩
    have Ho1' := Bl.hid (Bl.owns_ext Ho1.out hE2)
    have HE2 := Bl.hid (HE1.out.trans hE2)
    have Ho2 := Bl.hid (Bl.owns_mono ho2 HE1.out.size)
    obtain ⟨p1, c1, e1, _, _⟩ := (Bl.Rds.of_owns Ho1.out).form
    obtain ⟨p2, c2, e2, _, _⟩ := (Bl.Rds.of_owns ho2).form
    subst e1 e2
    have C0 : w2.cell? ⟨w.heap.size, 0, none⟩ = some (.slice none 0 0) := ((Bl.bcell HE2.out).1 _ 0 (by simp)).trans (World.cell?_alloc_new w #[.slice none 0 0, .slice none 0 0] 35 0)
    have C1 : w2.cell? ⟨w.heap.size, 1, none⟩ = some (.slice none 0 0) := ((Bl.bcell HE2.out).1 _ 1 (by simp)).trans (World.cell?_alloc_new w #[.slice none 0 0, .slice none 0 0] 35 1)
    have F0 : w2.frozen? ⟨w.heap.size, 0, none⟩ = false := ((Bl.bcell HE2.out).2 _ 0 (by simp)).trans (World.frozen?_alloc_new w #[.slice none 0 0, .slice none 0 0] 35 0)
    have F1 : w2.frozen? ⟨w.heap.size, 1, none⟩ = false := ((Bl.bcell HE2.out).2 _ 1 (by simp)).trans (World.frozen?_alloc_new w #[.slice none 0 0, .slice none 0 0] 35 1)
    have HP := Bl.hid (loadOdds _ _ _ _ (Bl.pair_get (x := .slice p1 (Bl.tob A).length c1) (y := .slice p2 (Bl.tob B).length c2) C0 C1))
    have HE := Bl.hid (hE.out.trans HE2.out)
    clear ho2 hE2
    go_wp2_with fail
    refine bodyPost_ret (v := .tuple #[.agg #[.slice p1 (Bl.tob A).length c1, .slice p2 (Bl.tob B).length c2], .nilIface]) (Bl.results_pair2 rfl rfl HP.out rfl) rfl ⟨_, _, rfl, ?_, ?_, (HE.out.setCell (p := ⟨w.heap.size, 0, none⟩) (Nat.le_refl _) _).setCell (p := ⟨w.heap.size, 1, none⟩) (Nat.le_refl _) _⟩
    · exact Bl.Rds.of_owns (Bl.owns_setCell (Bl.owns_setCell Ho1'.out (fun q => by have := (Ho1'.out.lt _ q).1; simp only [World.size_alloc] at this; omega) 0 _) (fun q => by have := (Ho1'.out.lt _ q).1; simp only [World.size_alloc] at this; omega) 1 _)
    · exact Bl.Rds.of_owns (Bl.owns_setCell (Bl.owns_setCell Ho2.out (fun q => by have := (Ho2.out.lt _ q).1; simp only [World.size_alloc] at this; omega) 0 _) (fun q => by have := (Ho2.out.lt _ q).1; simp only [World.size_alloc] at this; omega) 1 _)
end Go.Proofs.YtkndnmpdklidkaaDoor

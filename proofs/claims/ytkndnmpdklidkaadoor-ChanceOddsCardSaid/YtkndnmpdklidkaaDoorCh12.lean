/- Walk of package chance: Rounds. -/
import Derived.Test.YtkndnmpdklidkaaDoorCh11
namespace Go.Proofs.Bl
open Go Go.RowKit
/-- n spot checks are enough -/
def enough (W A t n : Nat) : Bool := decide (W ^ n * 2 ^ t ≤ A ^ n)
/-- what Rounds answers -/
def RoundsR (W A t : Nat) (en : Value) (r : Value) : Prop :=
  (∃ n : Nat, n ≤ 200 ∧ r = .tuple #[.int .i64 n, .nilIface] ∧ enough W A t n = true ∧ ∀ m, m < n → enough W A t m = false) ∨ ((∀ m, m ≤ 200 → enough W A t m = false) ∧ r = .tuple #[.int .i64 0, en])
end Go.Proofs.Bl
namespace Go.Proofs.YtkndnmpdklidkaaDoor
open Go.RowKit Go.Proofs

set_option maxRecDepth 100000 in
theorem rounds_err (s b p t : Int) (a : Addr) (w : World) (h : ¬ (1 ≤ s ∧ s ≤ 512 ∧ 0 ≤ b ∧ b ≤ s ∧ 1 ≤ p ∧ p ≤ 12 ∧ p ≤ s)) (hF : w.cell? ⟨0, 0, none⟩ = some (.iface 97 (.pointer (some a)))) :
    Calls Tryd.prog 32 #[.int .i64 s, .int .i64 b, .int .i64 p, .int .i64 t] w fun e w' => e = .returned (.tuple #[.int .i64 0, .iface 97 (.pointer (some a))]) ∧ Bl.Ext w w' := by
  have HM := Bl.hid (miss_err s b p a w h hF)
  clear h hF
  go_enter Tryd.func32, Tryd.ntmps32
  go_wp2_with fail
  refine HM.out.mono ?_
  rintro e w1 ⟨rfl, hE1⟩
  have HE1 := Bl.hid hE1
  clear hE1
  go_wp2_with fail
  go_ret2
  exact ⟨rfl, HE1.out.trans (Bl.ext_alloc _ _)⟩

set_option maxRecDepth 100000 in
theorem rounds_err2 (s b p t : Int) (a : Addr) (w : World) (h1 : 1 ≤ s) (h2 : s ≤ 512) (h0 : 0 ≤ b) (h3 : b ≤ s) (h4 : 1 ≤ p) (h5 : p ≤ 12) (h6 : p ≤ s) (ht : t < 0 ∨ (0 ≤ t ∧ 64 < t)) (hF : w.cell? ⟨0, 0, none⟩ = some (.iface 97 (.pointer (some a)))) :
    Calls Tryd.prog 32 #[.int .i64 s, .int .i64 b, .int .i64 p, .int .i64 t] w fun e w' => e = .returned (.tuple #[.int .i64 0, .iface 97 (.pointer (some a))]) ∧ Bl.Ext w w' := by
  have HM := Bl.hid (miss_in s b p w h1 h2 h0 h3 h4 h5 h6)
  have HF := Bl.hid hF
  clear h1 h2 h0 h3 h4 h5 h6 hF
  rcases ht with t1 | ⟨t1, t2⟩
  all_goals
    go_enter Tryd.func32, Tryd.ntmps32
    go_wp2_with fail
    refine HM.out.mono ?_
    rintro e w1 ⟨x, y, rfl, hx, hy, hE1⟩
    obtain ⟨p1, c1, rfl, _, _⟩ := hx.form
    obtain ⟨p2, c2, rfl, _, _⟩ := hy.form
    have HE1 := Bl.hid (hE1.trans (Bl.ext_alloc w1 (.cells #[.slice p1 (Bl.tob (Bl.bin (s - b).toNat p.toNat)).length c1, .slice p2 (Bl.tob (Bl.bin s.toNat p.toNat)).length c2] 35)))
    have hc := ((Bl.bcell HE1.out).1 _ 0 (World.block_lt_of_cell? _ _ HF.out)).trans HF.out
    clear hE1 hx hy
    go_wp2_with fail
    go_quiet (fail)
    go_wp2_with fail
    go_ret2
    exact ⟨rfl, HE1.out.drewN _⟩

set_option maxRecDepth 100000 in
set_option maxHeartbeats 1000000 in
theorem rounds_in (s b p : Int) (t : Nat) (a : Addr) (w : World) (h1 : 1 ≤ s) (h2 : s ≤ 512) (h0 : 0 ≤ b) (h3 : b ≤ s) (h4 : 1 ≤ p) (h5 : p ≤ 12) (h6 : p ≤ s) (ht : t ≤ 64) (hF : w.cell? ⟨10, 0, none⟩ = some (.iface 97 (.pointer (some a)))) :
    Calls Tryd.prog 32 #[.int .i64 s, .int .i64 b, .int .i64 p, .int .i64 t] w fun e w' => ∃ r, e = .returned r ∧ Bl.RoundsR (Bl.bin (s - b).toNat p.toNat) (Bl.bin s.toNat p.toNat) t (.iface 97 (.pointer (some a))) r ∧ Bl.Ext w w' := by
  have HM := Bl.hid (miss_in s b p w h1 h2 h0 h3 h4 h5 h6)
  have hlA := Bl.bin_len (s - b).toNat p.toNat (by omega)
  have hlB := Bl.bin_len s.toNat p.toNat (by omega)
  have hpA := fun k => Bl.tob_pow_len (Bl.bin (s - b).toNat p.toNat) 129 k (by have := Bl.be_lt _ (Bl.tob_byt (Bl.bin (s - b).toNat p.toNat)); rw [Bl.be_tob] at this; exact Nat.lt_of_lt_of_le this (Nat.pow_le_pow_right (by decide) hlA))
  have hpB := fun k => Bl.tob_pow_len (Bl.bin s.toNat p.toNat) 129 k (by have := Bl.be_lt _ (Bl.tob_byt (Bl.bin s.toNat p.toNat)); rw [Bl.be_tob] at this; exact Nat.lt_of_lt_of_le this (Nat.pow_le_pow_right (by decide) hlB))
  obtain ⟨A, hA⟩ : ∃ A, A = Bl.bin (s - b).toNat p.toNat := ⟨_, rfl⟩
  obtain ⟨B, hB⟩ : ∃ B, B = Bl.bin s.toNat p.toNat := ⟨_, rfl⟩
  rw [← hA] at HM hlA hpA ⊢
  rw [← hB] at HM hlB hpB ⊢
  have HF := Bl.hid hF
  have HlA := Bl.hid hlA
  have HlB := Bl.hid hlB
  have HpA := Bl.hid hpA
  have HpB := Bl.hid hpB
  have d1 : decide ((t : Int) < 0) = false := decide_eq_false (by omega)
  have d2 : decide ((64 : Int) < (t : Int)) = false := decide_eq_false (by omega)
  clear h1 h2 h0 h3 h4 h5 h6 hF hA hB hlA hlB hpA hpB
  go_enter Tryd.func32, Tryd.ntmps32
  go_wp2_with fail
  refine HM.out.mono ?_
  rintro e w0 ⟨x, y, rfl, hx, hy, hE1⟩
  obtain ⟨p1, c1, rfl, _, _⟩ := hx.form
  obtain ⟨p2, c2, rfl, _, _⟩ := hy.form
  obtain ⟨X, hX⟩ : ∃ X, X = Value.slice p1 (Bl.tob A).length c1 := ⟨_, rfl⟩
  obtain ⟨Y, hY⟩ : ∃ Y, Y = Value.slice p2 (Bl.tob B).length c2 := ⟨_, rfl⟩
  have HE0 := Bl.hid (hE1.trans (Bl.ext_alloc w0 (.cells #[.slice p1 (Bl.tob A).length c1, .slice p2 (Bl.tob B).length c2] 35)))
  have Hx := Bl.hid (hx.ext (Bl.ext_alloc w0 (.cells #[.slice p1 (Bl.tob A).length c1, .slice p2 (Bl.tob B).length c2] 35)))
  have Hy := Bl.hid (hy.ext (Bl.ext_alloc w0 (.cells #[.slice p1 (Bl.tob A).length c1, .slice p2 (Bl.tob B).length c2] 35)))
  have Hx0 := Bl.hid (World.cell?_alloc_new w0 #[.slice p1 (Bl.tob A).length c1, .slice p2 (Bl.tob B).length c2] 35 0)
  have Hx1 := Bl.hid (World.cell?_alloc_new w0 #[.slice p1 (Bl.tob A).length c1, .slice p2 (Bl.tob B).length c2] 35 1)
  have Hs0 := Bl.hid (World.size_alloc w0 (.cells #[.slice p1 (Bl.tob A).length c1, .slice p2 (Bl.tob B).length c2] 35))
  clear hX hY hE1 hx hy
  go_wp2_with fail
  obtain ⟨W0, hW0⟩ : ∃ W0, W0 = w0.alloc (.cells #[.slice p1 (Bl.tob A).length c1, .slice p2 (Bl.tob B).length c2] 35) := ⟨_, rfl⟩
  rw [← hW0] at HE0 Hx Hy Hx0 Hx1 Hs0 ⊢
  clear hW0
  have hs0 := Hs0.out
  refine (one_any _).mono ?_
  rintro e w1 ⟨v1, rfl, ho1, hE1⟩
  have Ho1 := Bl.hid ho1
  have HE1 := Bl.hid hE1
  clear ho1 hE1
  go_wp2_with fail
  refine (one_any _).mono ?_
  rintro e w2 ⟨v2, rfl, ho2, hE2⟩
  have Ho1 := Bl.hid (Bl.owns_ext Ho1.out hE2)
  have Ho2 := Bl.hid (Bl.owns_mono ho2 HE1.out.size)
  have HE2 := Bl.hid (HE1.out.trans hE2)
  obtain ⟨q1, d1', e1⟩ := Bl.owns_slice Ho1.out
  obtain ⟨q2, d2', e2⟩ := Bl.owns_slice Ho2.out
  subst e1 e2
  have HO : Hid (Bl.OddsAt ((w2.alloc (.cells #[.slice q1 1 d1', .slice q2 1 d2'] 35))) 5 W0.heap.size w2.heap.size (A ^ 0) (B ^ 0) (.slice q1 1 d1') (.slice q2 1 d2')) := Bl.hid (by
    rw [Nat.pow_zero, Nat.pow_zero]
    have t1 : Bl.tob 1 = [1] := by decide +kernel
    refine ⟨⟨q1, d1', by rw [t1]; rfl⟩, ⟨q2, d2', by rw [t1]; rfl⟩, World.cell?_alloc_new _ _ _ 0, World.cell?_alloc_new _ _ _ 1, World.frozen?_alloc_new _ _ _ 0, World.frozen?_alloc_new _ _ _ 1, ?_, ?_, fun q => ?_, fun q => ?_⟩
    · rw [t1]; exact Bl.owns_ext Ho1.out (Bl.ext_alloc _ _)
    · rw [t1]; exact Bl.owns_ext Ho2.out (Bl.ext_alloc _ _)
    · have := (Ho1.out.lt _ q).2; omega
    · have := (Ho2.out.lt _ q).2; omega)
  have HE3 : Hid (Bl.Ext W0 (w2.alloc (.cells #[.slice q1 1 d1', .slice q2 1 d2'] 35))) := Bl.hid (HE2.out.trans (Bl.ext_alloc _ _))
  have hB0 : W0.heap.size ≤ w2.heap.size := HE2.out.size
  clear ho2 hE2
  go_wp2_with fail
  go_loopw [36] (fun i wr => ∃ (k : Nat) (u v : Value), k ≤ 201 ∧ i = .int .i64 k ∧ Bl.OddsAt wr 5 W0.heap.size w2.heap.size (A ^ k) (B ^ k) u v ∧ Bl.Ext W0 wr ∧ Hid (∀ m, m < k → Bl.enough A B t m = false)) (fun i _ => 201 - (intOf i).toNat)
  case atStart => exact ⟨0, _, _, Nat.zero_le _, rfl, HO.out, HE3.out, Bl.hid (fun m hm => absurd hm (Nat.not_lt_zero _))⟩
  case round =>
    obtain ⟨k, u, v, hk, rfl, hO, hE, hno⟩ := hrel
    have HOk := Bl.hid hO
    have HEk := Bl.hid hE
    have c0 := hO.c0
    have c1 := hO.c1
    have f0 := hO.f0
    have f1 := hO.f1
    obtain ⟨pu, cu, rfl⟩ := hO.fu
    obtain ⟨pv, cv, rfl⟩ := hO.fv
    obtain ⟨hcE, hfE⟩ := Bl.bcell hE
    by_cases hlt : k < 201
    · have cx0 := (hcE w0.heap.size 0 (by omega)).trans Hx0.out
      have cx1 := (hcE w0.heap.size 1 (by omega)).trans Hx1.out
      have hkn : (k : Int) < 201 := by omega
      have hl1 : (Bl.tob (A ^ k)).length ≤ 90000 := by have := HpA.out k; omega
      have hl2 : (Bl.tob (B ^ k)).length ≤ 90000 := by have := HpB.out k; omega
      have hBl := below_any (.slice pu (Bl.tob (A ^ k)).length cu) (.slice pv (Bl.tob (B ^ k)).length cv) _ _ t wr (by omega) (Bl.Rds.of_owns hO.ou) (Bl.Rds.of_owns hO.ov) hl1 hl2 (Bl.tob_byt _) (Bl.tob_byt _)
      rw [Bl.be_tob, Bl.be_tob] at hBl
      have HBl := Bl.hid hBl
      have Hl1 := Bl.hid hl1
      have Hl2 := Bl.hid hl2
      clear hBl hO hE hcE hfE f0 f1 hl1 hl2
      by_cases hen : Bl.enough A B t k = true
      · have Hen := Bl.hid hen
        rw [show decide (A ^ k * 2 ^ t ≤ B ^ k) = true from hen] at HBl
        clear hen
        go_wp2_with fail
        refine HBl.out.mono ?_
        rintro e w3 ⟨rfl, hE3⟩
        have HX := Bl.hid ((HE0.out.trans HEk.out).trans hE3)
        clear hE3 c0 c1 cx0 cx1
        go_wp2_with fail
        go_ret2
        exact ⟨_, rfl, .inl ⟨k, by omega, rfl, Hen.out, hno.out⟩, HX.out⟩
      · have hen' : Bl.enough A B t k = false := by simpa using hen
        have Hno : Hid (∀ m, m < k + 1 → Bl.enough A B t m = false) := Bl.hid (fun m hm => by
          by_cases e : m = k
          · rw [e]; exact hen'
          · exact hno.out m (by omega))
        rw [show decide (A ^ k * 2 ^ t ≤ B ^ k) = false from hen'] at HBl
        clear hen hen'
        go_wp2_with fail
        refine HBl.out.mono ?_
        rintro e w3 ⟨rfl, hE3⟩
        have hlB := HOk.out.lt
        obtain ⟨hc3, hf3⟩ := Bl.bcell hE3
        have c0' := (hc3 _ 0 hlB).trans c0
        have c1' := (hc3 _ 1 hlB).trans c1
        have cx0' := (hc3 _ 0 (World.block_lt_of_cell? _ _ cx0)).trans cx0
        have cx1' := (hc3 _ 1 (World.block_lt_of_cell? _ _ cx1)).trans cx1
        have HO3 : Hid (Bl.OddsAt w3 5 W0.heap.size w2.heap.size (A ^ k) (B ^ k) (.slice pu (Bl.tob (A ^ k)).length cu) (.slice pv (Bl.tob (B ^ k)).length cv)) := Bl.hid ⟨⟨_, _, rfl⟩, ⟨_, _, rfl⟩, c0', c1', (hf3 _ 0 hlB).trans HOk.out.f0, (hf3 _ 1 hlB).trans HOk.out.f1, Bl.owns_ext HOk.out.ou hE3, Bl.owns_ext HOk.out.ov hE3, HOk.out.nu, HOk.out.nv⟩
        have HEk3 := Bl.hid (HEk.out.trans hE3)
        have hT := times_any (.slice pu (Bl.tob (A ^ k)).length cu) (.slice pv (Bl.tob (B ^ k)).length cv) _ _ _ _ _ _ w3 (Bl.Rds.of_owns HO3.out.ou) (Bl.Rds.of_owns HO3.out.ov) (Hx.out.ext HEk3.out) (Hy.out.ext HEk3.out)
          (by have := Hl1.out; omega) (by have := Hl2.out; omega) (by have := HlA.out; omega) (by have := HlB.out; omega) (Bl.tob_byt _) (Bl.tob_byt _) (Bl.tob_byt _) (Bl.tob_byt _)
        simp only [Bl.be_tob] at hT
        rw [← Nat.pow_succ, ← Nat.pow_succ] at hT
        have HT := Bl.hid hT
        clear hT hE3 hc3 hf3 c0 c1 cx0 cx1
        go_wp2_with fail
        refine HT.out.mono ?_
        rintro e w4 ⟨u2, v2, rfl, ho1, ho2, hE4⟩
        have HN := Bl.hid (HO3.out.next hE4 HEk3.out.size ho1 ho2)
        obtain ⟨p1', c1'', rfl⟩ := Bl.owns_slice ho1
        obtain ⟨p2', c2'', rfl⟩ := Bl.owns_slice ho2
        have hlB := HO3.out.lt
        obtain ⟨hc4, hf4⟩ := Bl.bcell hE4
        have g0 := (hc4 _ 0 hlB).trans c0'
        have g1 := (hc4 _ 1 hlB).trans c1'
        have k0 := (hf4 _ 0 hlB).trans HO3.out.f0
        have k1 := (hf4 _ 1 hlB).trans HO3.out.f1
        have HX := Bl.hid (((HEk3.out.trans hE4).setCell (p := ⟨w2.heap.size, 0, none⟩) hB0 (.slice p1' (Bl.tob (A ^ (k + 1))).length c1'')).setCell (p := ⟨w2.heap.size, 1, none⟩) hB0 (.slice p2' (Bl.tob (B ^ (k + 1))).length c2''))
        clear c0' c1' cx0' cx1' ho1 ho2 hE4 hc4 hf4
        go_wp2_with fail
        go_roundw
        case rel => exact ⟨k + 1, _, _, by omega, by simp, HN.out, HX.out, Hno⟩
        case measure => simp [intOf]; omega
    · obtain rfl : k = 201 := by omega
      have HX := Bl.hid (HE0.out.trans HEk.out)
      have hc := ((Bl.bcell HX.out).1 _ 0 (World.block_lt_of_cell? _ _ HF.out)).trans HF.out
      clear hO hE hcE hfE f0 f1 c0 c1
      go_wp2_with fail
      go_quiet (fail)
      go_wp2_with fail
      go_ret2
      exact ⟨_, rfl, .inr ⟨fun m hm => hno.out m (by omega), rfl⟩, HX.out.drewN _⟩
end Go.Proofs.YtkndnmpdklidkaaDoor

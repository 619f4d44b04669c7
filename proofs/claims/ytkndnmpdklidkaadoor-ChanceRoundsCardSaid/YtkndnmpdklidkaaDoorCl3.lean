/- Walk of the law ChanceRounds. -/
import Derived.Test.YtkndnmpdklidkaaDoorCl1
import Derived.Test.YtkndnmpdklidkaaDoorCh12
namespace Go.Proofs.YtkndnmpdklidkaaDoor
open Go.RowKit Go.Proofs

theorem again_nat (x y : Value) (A B n : Nat) (w : World) (hn : n ≤ 200) (ha : Bl.Rd w .u8 x (Bl.tob A)) (hb : Bl.Rd w .u8 y (Bl.tob B)) (hla : (Bl.tob A).length ≤ 129) (hlb : (Bl.tob B).length ≤ 129) :
    Calls Tryd.prog 29 #[.agg #[x, y], .int .i64 n] w fun e w' => ∃ u v, e = .returned (.tuple #[.agg #[u, v], .nilIface]) ∧ Bl.Rd w' .u8 u (Bl.tob (A ^ n)) ∧ Bl.Rd w' .u8 v (Bl.tob (B ^ n)) ∧ Bl.Ext w w' := by
  have h := again_any x y _ _ n w hn ha hb (by omega) (by omega) (Bl.tob_byt _) (Bl.tob_byt _)
  rwa [Bl.be_tob, Bl.be_tob] at h
theorem pow129 (A n : Nat) (h : (Bl.tob A).length ≤ 129) (hn : n ≤ 200) : (Bl.tob (A ^ n)).length ≤ 90000 := by
  have h1 := Bl.be_lt _ (Bl.tob_byt A)
  rw [Bl.be_tob] at h1
  have h2 := Bl.tob_pow_len A 129 n (Nat.lt_of_lt_of_le h1 (Nat.pow_le_pow_right (by decide) h))
  omega
theorem below_nat (x y : Value) (A B n t : Nat) (w : World) (ht : t ≤ 512) (hn : n ≤ 200) (ha : Bl.Rd w .u8 x (Bl.tob (A ^ n))) (hb : Bl.Rd w .u8 y (Bl.tob (B ^ n))) (hla : (Bl.tob A).length ≤ 129) (hlb : (Bl.tob B).length ≤ 129) :
    Calls Tryd.prog 31 #[.agg #[x, y], .int .i64 t] w fun e w' => e = .returned (.tuple #[.bool (Bl.enough A B t n), .nilIface]) ∧ Bl.Ext w w' := by
  have h := below_any x y _ _ t w ht ha hb (pow129 A n hla hn) (pow129 B n hlb hn) (Bl.tob_byt _) (Bl.tob_byt _)
  rw [Bl.be_tob, Bl.be_tob] at h
  exact h

set_option maxRecDepth 100000 in
theorem roundsl_err (s b p t : Int) (S : List Nat) (a : Nat → Addr) (w : World) (hS : ∀ i, 1 ≤ i → i ≤ 20 → i ∈ S) (He : Errs S a w) (h : ¬ (1 ≤ s ∧ s ≤ 512 ∧ 0 ≤ b ∧ b ≤ s ∧ 1 ≤ p ∧ p ≤ 12 ∧ p ≤ s)) :
    Calls Tryd.prog 10 #[.agg #[.int .i64 s, .int .i64 b], .int .i64 p, .int .i64 t] w fun e w' => e = .returned (.bool true) ∧ Bl.Ext w w' := by
  have HE0 := Bl.hid (Bl.ext_alloc w (.cells #[.int .i64 s, .int .i64 b] 51))
  have HN := Bl.hid (fun w1 (h : Bl.Ext w w1) => num_any S a w1 1 hS (He.ext h) (by decide) (by decide))
  have HR := Bl.hid (fun w1 (hh : Bl.Ext w w1) => rounds_err s b p t (a 1) w1 h ((He.ext hh).cell 1 (hS 1 (by decide) (by decide))))
  have HM := Bl.hid (fun w1 (hh : Bl.Ext w w1) => miss_err s b p (a 1) w1 h ((He.ext hh).cell 1 (hS 1 (by decide) (by decide))))
  have cb : ∀ w1, Bl.Ext (w.alloc (.cells #[.int .i64 s, .int .i64 b] 51)) w1 → w1.cell? ⟨w.heap.size, 0, none⟩ = some (.int .i64 s) ∧ w1.cell? ⟨w.heap.size, 1, none⟩ = some (.int .i64 b) := fun w1 h1 => ⟨((Bl.bcell h1).1 _ 0 (by simp)).trans (World.cell?_alloc_new w _ _ 0), ((Bl.bcell h1).1 _ 1 (by simp)).trans (World.cell?_alloc_new w _ _ 1)⟩
  have CB := Bl.hid cb
  clear h hS He cb
  go_enter Tryd.func10, Tryd.ntmps10
  go_wp2_with fail
  refine (alive37 _).mono ?_
  rintro e w1 ⟨rfl, hE1⟩
  obtain ⟨k0, k1⟩ := CB.out _ hE1
  have HE1 := Bl.hid hE1
  clear hE1
  go_wp2_with fail
  refine (HR.out _ (HE0.out.trans HE1.out)).mono ?_
  rintro e w2 ⟨rfl, hE2⟩
  have HE2 := Bl.hid (HE1.out.trans hE2)
  obtain ⟨k0, k1⟩ := CB.out _ HE2.out
  clear hE2
  go_wp2_with fail
  refine (HM.out _ (HE0.out.trans HE2.out)).mono ?_
  rintro e w3 ⟨rfl, hE3⟩
  have HE3 := Bl.hid ((HE2.out.trans hE3).trans (Bl.ext_alloc w3 (.cells #[.slice none 0 0, .slice none 0 0] 35)))
  clear hE3
  go_wp2_with fail
  refine (HN.out _ (HE0.out.trans HE3.out)).mono ?_
  rintro e w4 ⟨rfl, hE4⟩
  have HE4 := Bl.hid (HE3.out.trans hE4)
  clear hE4
  go_wp2_with fail
  refine (HN.out _ (HE0.out.trans HE4.out)).mono ?_
  rintro e w5 ⟨rfl, hE5⟩
  have HE5 := Bl.hid (HE0.out.trans (HE4.out.trans hE5))
  clear hE5
  go_wp2_with fail
  go_ret
  exact ⟨rfl, HE5.out⟩

set_option maxRecDepth 100000 in
set_option maxHeartbeats 1000000 in
theorem roundsl_bits (s b p t : Int) (S : List Nat) (a : Nat → Addr) (w : World) (hS : ∀ i, 1 ≤ i → i ≤ 20 → i ∈ S) (He : Errs S a w) (h1 : 1 ≤ s) (h2 : s ≤ 512) (h0 : 0 ≤ b) (h3 : b ≤ s) (h4 : 1 ≤ p) (h5 : p ≤ 12) (h6 : p ≤ s) (ht : t < 0 ∨ (0 ≤ t ∧ 64 < t)) :
    Calls Tryd.prog 10 #[.agg #[.int .i64 s, .int .i64 b], .int .i64 p, .int .i64 t] w fun e w' => e = .returned (.bool true) ∧ Bl.Ext w w' := by
  have HE0 := Bl.hid (Bl.ext_alloc w (.cells #[.int .i64 s, .int .i64 b] 51))
  have HN := Bl.hid (fun w1 (h : Bl.Ext w w1) => num_any S a w1 1 hS (He.ext h) (by decide) (by decide))
  have HR := Bl.hid (fun w1 (hh : Bl.Ext w w1) => rounds_err2 s b p t (a 1) w1 h1 h2 h0 h3 h4 h5 h6 ht ((He.ext hh).cell 1 (hS 1 (by decide) (by decide))))
  have HM := Bl.hid (fun w1 => miss_in s b p w1 h1 h2 h0 h3 h4 h5 h6)
  have cb : ∀ w1, Bl.Ext (w.alloc (.cells #[.int .i64 s, .int .i64 b] 51)) w1 → w1.cell? ⟨w.heap.size, 0, none⟩ = some (.int .i64 s) ∧ w1.cell? ⟨w.heap.size, 1, none⟩ = some (.int .i64 b) := fun w1 h1 => ⟨((Bl.bcell h1).1 _ 0 (by simp)).trans (World.cell?_alloc_new w _ _ 0), ((Bl.bcell h1).1 _ 1 (by simp)).trans (World.cell?_alloc_new w _ _ 1)⟩
  have CB := Bl.hid cb
  clear h1 h2 h0 h3 h4 h5 h6 hS He cb
  rcases ht with t1 | ⟨t1, t2⟩
  all_goals
    go_enter Tryd.func10, Tryd.ntmps10
    go_wp2_with fail
    refine (alive37 _).mono ?_
    rintro e w1 ⟨rfl, hE1⟩
    obtain ⟨k0, k1⟩ := CB.out _ hE1
    have HE1 := Bl.hid hE1
    clear hE1
    go_wp2_with fail
    refine (HR.out _ (HE0.out.trans HE1.out)).mono ?_
    rintro e w2 ⟨rfl, hE2⟩
    have HE2 := Bl.hid (HE1.out.trans hE2)
    obtain ⟨k0, k1⟩ := CB.out _ HE2.out
    clear hE2
    go_wp2_with fail
    refine (HM.out _).mono ?_
    rintro e w3 ⟨x, y, rfl, hx, hy, hE3⟩
    obtain ⟨q1, c1, rfl, _, _⟩ := hx.form
    obtain ⟨q2, c2, rfl, _, _⟩ := hy.form
    have HE3 := Bl.hid ((HE2.out.trans hE3).trans (Bl.ext_alloc w3 (.cells #[.slice q1 (Bl.tob (Bl.bin (s - b).toNat p.toNat)).length c1, .slice q2 (Bl.tob (Bl.bin s.toNat p.toNat)).length c2] 35)))
    clear hE3 hx hy
    go_wp2_with fail
    refine (HN.out _ (HE0.out.trans HE3.out)).mono ?_
    rintro e w5 ⟨rfl, hE5⟩
    have HE5 := Bl.hid (HE0.out.trans (HE3.out.trans hE5))
    clear hE5
    go_wp2_with fail
    go_ret
    exact ⟨rfl, HE5.out⟩

set_option maxRecDepth 100000 in
set_option maxHeartbeats 2000000 in
theorem roundsl_in (s b p : Int) (t : Nat) (S : List Nat) (a : Nat → Addr) (w : World) (hS : ∀ i, 1 ≤ i → i ≤ 20 → i ∈ S) (He : Errs S a w) (h1 : 1 ≤ s) (h2 : s ≤ 512) (h0 : 0 ≤ b) (h3 : b ≤ s) (h4 : 1 ≤ p) (h5 : p ≤ 12) (h6 : p ≤ s) (ht : t ≤ 64) :
    Calls Tryd.prog 10 #[.agg #[.int .i64 s, .int .i64 b], .int .i64 p, .int .i64 t] w fun e w' => e = .returned (.bool true) ∧ Bl.Ext w w' := by
  have HE0 := Bl.hid (Bl.ext_alloc w (.cells #[.int .i64 s, .int .i64 b] 51))
  have HN := Bl.hid (fun w1 (h : Bl.Ext w w1) => num_any S a w1 11 hS (He.ext h) (by decide) (by decide))
  have HR := Bl.hid (fun w1 (hh : Bl.Ext w w1) => rounds_in s b p t (a 11) w1 h1 h2 h0 h3 h4 h5 h6 ht ((He.ext hh).cell 11 (hS 11 (by decide) (by decide))))
  have HM := Bl.hid (fun w1 => miss_in s b p w1 h1 h2 h0 h3 h4 h5 h6)
  have hlA := Bl.hid (Bl.bin_len (s - b).toNat p.toNat (by omega))
  have hlB := Bl.hid (Bl.bin_len s.toNat p.toNat (by omega))
  obtain ⟨A, hA⟩ : ∃ A, A = Bl.bin (s - b).toNat p.toNat := ⟨_, rfl⟩
  obtain ⟨B, hB⟩ : ∃ B, B = Bl.bin s.toNat p.toNat := ⟨_, rfl⟩
  rw [← hA] at HR HM hlA
  rw [← hB] at HR HM hlB
  have cb : ∀ w1, Bl.Ext (w.alloc (.cells #[.int .i64 s, .int .i64 b] 51)) w1 → w1.cell? ⟨w.heap.size, 0, none⟩ = some (.int .i64 s) ∧ w1.cell? ⟨w.heap.size, 1, none⟩ = some (.int .i64 b) := fun w1 h1 => ⟨((Bl.bcell h1).1 _ 0 (by simp)).trans (World.cell?_alloc_new w _ _ 0), ((Bl.bcell h1).1 _ 1 (by simp)).trans (World.cell?_alloc_new w _ _ 1)⟩
  have CB := Bl.hid cb
  have d1 : decide ((t : Int) < 0) = false := decide_eq_false (by omega)
  have d2 : decide ((64 : Int) < (t : Int)) = false := decide_eq_false (by omega)
  have Ht := Bl.hid ht
  clear h1 h2 h0 h3 h4 h5 h6 hS He cb hA hB ht
  go_enter Tryd.func10, Tryd.ntmps10
  go_wp2_with fail
  refine (alive37 _).mono ?_
  rintro e w1 ⟨rfl, hE1⟩
  obtain ⟨k0, k1⟩ := CB.out _ hE1
  have HE1 := Bl.hid hE1
  clear hE1
  go_wp2_with fail
  refine (HR.out _ (HE0.out.trans HE1.out)).mono ?_
  rintro e w2 ⟨r, rfl, hr, hE2⟩
  have HE2 := Bl.hid (HE1.out.trans hE2)
  obtain ⟨k0, k1⟩ := CB.out _ HE2.out
  clear hE2
  rcases hr with ⟨n, hn, rfl, hen, hno⟩ | ⟨hno, rfl⟩
  · have Hen := Bl.hid hen
    have Hno := Bl.hid hno
    clear hen hno
    go_wp2_with fail
    refine (HM.out _).mono ?_
    rintro e w3 ⟨x, y, rfl, hx, hy, hE3⟩
    obtain ⟨q1, c1, rfl, _, _⟩ := hx.form
    obtain ⟨q2, c2, rfl, _, _⟩ := hy.form
    have HX := Bl.hid (Bl.ext_alloc w3 (.cells #[.slice q1 (Bl.tob A).length c1, .slice q2 (Bl.tob B).length c2] 35))
    have Hx := Bl.hid (hx.ext HX.out)
    have Hy := Bl.hid (hy.ext HX.out)
    have HE3 := Bl.hid ((HE2.out.trans hE3).trans HX.out)
    have co : ∀ w1, Bl.Ext (w3.alloc (.cells #[.slice q1 (Bl.tob A).length c1, .slice q2 (Bl.tob B).length c2] 35)) w1 → w1.cell? ⟨w3.heap.size, 0, none⟩ = some (.slice q1 (Bl.tob A).length c1) ∧ w1.cell? ⟨w3.heap.size, 1, none⟩ = some (.slice q2 (Bl.tob B).length c2) := fun w1 h1 => ⟨((Bl.bcell h1).1 _ 0 (by simp)).trans (World.cell?_alloc_new w3 _ _ 0), ((Bl.bcell h1).1 _ 1 (by simp)).trans (World.cell?_alloc_new w3 _ _ 1)⟩
    have CO := Bl.hid co
    obtain ⟨o0, o1⟩ := co _ (Below.refl _ _)
    clear hE3 hx hy co
    have n1 : decide ((n : Int) < 0) = false := decide_eq_false (by omega)
    have n2 : decide ((200 : Int) < (n : Int)) = false := decide_eq_false (by omega)
    go_wp2_with fail
    refine (again_nat _ _ A B n _ hn Hx.out Hy.out hlA.out hlB.out).mono ?_
    rintro e w4 ⟨u, v, rfl, hu, hv, hE4⟩
    obtain ⟨q3, c3, rfl, _, _⟩ := hu.form
    obtain ⟨q4, c4, rfl, _, _⟩ := hv.form
    have HX4 := Bl.hid (Bl.ext_alloc w4 (.cells #[.slice q3 (Bl.tob (A ^ n)).length c3, .slice q4 (Bl.tob (B ^ n)).length c4] 35))
    have Hu := Bl.hid (hu.ext HX4.out)
    have Hv := Bl.hid (hv.ext HX4.out)
    have HE4 := Bl.hid (hE4.trans HX4.out)
    have m0 := World.cell?_alloc_new w4 #[.slice q3 (Bl.tob (A ^ n)).length c3, .slice q4 (Bl.tob (B ^ n)).length c4] 35 0
    have m1 := World.cell?_alloc_new w4 #[.slice q3 (Bl.tob (A ^ n)).length c3, .slice q4 (Bl.tob (B ^ n)).length c4] 35 1
    clear hE4 hu hv
    go_wp2_with fail
    refine (below_nat _ _ A B n t _ (by have := Ht.out; omega) hn Hu.out Hv.out hlA.out hlB.out).mono ?_
    rintro e w5 ⟨rfl, hE5⟩
    have HE5 := Bl.hid (HE4.out.trans hE5)
    obtain ⟨o0, o1⟩ := CO.out _ HE5.out
    rw [Hen.out]
    clear hE5 m0 m1
    by_cases hz : n = 0
    · subst hz
      go_wp2_with fail
      go_ret
      exact ⟨rfl, HE0.out.trans (HE3.out.trans HE5.out)⟩
    · have hzb : ((n : Int) == 0) = false := by simp; omega
      have e1 : (n : Int) - 1 = ((n - 1 : Nat) : Int) := by omega
      have E1 := Bl.hid e1
      clear e1 n1 n2
      go_wp2_with fail
      rw [E1.out]
      refine (again_nat _ _ A B (n - 1) _ (by omega) (Hx.out.ext HE5.out) (Hy.out.ext HE5.out) hlA.out hlB.out).mono ?_
      rintro e w6 ⟨u2, v2, rfl, hu, hv, hE6⟩
      obtain ⟨q5, c5, rfl, _, _⟩ := hu.form
      obtain ⟨q6, c6, rfl, _, _⟩ := hv.form
      have HX6 := Bl.hid (Bl.ext_alloc w6 (.cells #[.slice q5 (Bl.tob (A ^ (n - 1))).length c5, .slice q6 (Bl.tob (B ^ (n - 1))).length c6] 35))
      have Hu6 := Bl.hid (hu.ext HX6.out)
      have Hv6 := Bl.hid (hv.ext HX6.out)
      have HE6 := Bl.hid (HE5.out.trans (hE6.trans HX6.out))
      have m0 := World.cell?_alloc_new w6 #[.slice q5 (Bl.tob (A ^ (n - 1))).length c5, .slice q6 (Bl.tob (B ^ (n - 1))).length c6] 35 0
      have m1 := World.cell?_alloc_new w6 #[.slice q5 (Bl.tob (A ^ (n - 1))).length c5, .slice q6 (Bl.tob (B ^ (n - 1))).length c6] 35 1
      clear hE6 hu hv
      go_wp2_with fail
      refine (below_nat _ _ A B (n - 1) t _ (by have := Ht.out; omega) (by omega) Hu6.out Hv6.out hlA.out hlB.out).mono ?_
      rintro e w7 ⟨rfl, hE7⟩
      have HE7 := Bl.hid (HE6.out.trans hE7)
      rw [Hno.out (n - 1) (by omega)]
      clear hE7 m0 m1
      go_wp2_with fail
      go_ret
      exact ⟨rfl, HE0.out.trans (HE3.out.trans HE7.out)⟩
  · have Hno := Bl.hid hno
    clear hno
    go_wp2_with fail
    refine (HM.out _).mono ?_
    rintro e w3 ⟨x, y, rfl, hx, hy, hE3⟩
    obtain ⟨q1, c1, rfl, _, _⟩ := hx.form
    obtain ⟨q2, c2, rfl, _, _⟩ := hy.form
    have HX := Bl.hid (Bl.ext_alloc w3 (.cells #[.slice q1 (Bl.tob A).length c1, .slice q2 (Bl.tob B).length c2] 35))
    have Hx := Bl.hid (hx.ext HX.out)
    have Hy := Bl.hid (hy.ext HX.out)
    have HE3 := Bl.hid ((HE2.out.trans hE3).trans HX.out)
    have o0 := World.cell?_alloc_new w3 #[.slice q1 (Bl.tob A).length c1, .slice q2 (Bl.tob B).length c2] 35 0
    have o1 := World.cell?_alloc_new w3 #[.slice q1 (Bl.tob A).length c1, .slice q2 (Bl.tob B).length c2] 35 1
    clear hE3 hx hy
    have hA := again_nat (.slice q1 (Bl.tob A).length c1) (.slice q2 (Bl.tob B).length c2) A B 200 _ (Nat.le_refl _) Hx.out Hy.out hlA.out hlB.out
    rw [show (((200 : Nat) : Int)) = 200 from rfl] at hA
    obtain ⟨n, hn⟩ : ∃ n, n = 200 := ⟨_, rfl⟩
    rw [← hn] at Hno hA
    have HA := Bl.hid hA
    have Hn := Bl.hid hn
    clear hA hn
    go_wp2_with fail
    refine HA.out.mono ?_
    rintro e w4 ⟨u, v, rfl, hu, hv, hE4⟩
    obtain ⟨q3, c3, rfl, _, _⟩ := hu.form
    obtain ⟨q4, c4, rfl, _, _⟩ := hv.form
    have HX4 := Bl.hid (Bl.ext_alloc w4 (.cells #[.slice q3 (Bl.tob (A ^ n)).length c3, .slice q4 (Bl.tob (B ^ n)).length c4] 35))
    have Hu := Bl.hid (hu.ext HX4.out)
    have Hv := Bl.hid (hv.ext HX4.out)
    have HE4 := Bl.hid (HE3.out.trans (hE4.trans HX4.out))
    have m0 := World.cell?_alloc_new w4 #[.slice q3 (Bl.tob (A ^ n)).length c3, .slice q4 (Bl.tob (B ^ n)).length c4] 35 0
    have m1 := World.cell?_alloc_new w4 #[.slice q3 (Bl.tob (A ^ n)).length c3, .slice q4 (Bl.tob (B ^ n)).length c4] 35 1
    clear hE4 hu hv
    go_wp2_with fail
    refine (HN.out _ (HE0.out.trans HE4.out)).mono ?_
    rintro e w5 ⟨rfl, hE5⟩
    have HE5 := Bl.hid (HE4.out.trans hE5)
    have Hu := Bl.hid (Hu.out.ext hE5)
    have Hv := Bl.hid (Hv.out.ext hE5)
    have m0 := ((Bl.bcell hE5).1 _ 0 (World.block_lt_of_cell? _ _ m0)).trans m0
    have m1 := ((Bl.bcell hE5).1 _ 1 (World.block_lt_of_cell? _ _ m1)).trans m1
    clear hE5
    go_wp2_with fail
    refine (below_nat _ _ A B n t _ (by have := Ht.out; omega) (by rw [Hn.out]; exact Nat.le_refl _) Hu.out Hv.out hlA.out hlB.out).mono ?_
    rintro e w6 ⟨rfl, hE6⟩
    have HE6 := Bl.hid (HE5.out.trans hE6)
    rw [Hno.out n (Nat.le_refl _)]
    clear hE6 m0 m1
    go_wp2_with fail
    go_ret
    exact ⟨rfl, HE0.out.trans HE6.out⟩

theorem roundsl_all (s b p t : Int) (S : List Nat) (a : Nat → Addr) (w : World) (hS : ∀ i, 1 ≤ i → i ≤ 20 → i ∈ S) (He : Errs S a w) :
    Calls Tryd.prog 10 #[.agg #[.int .i64 s, .int .i64 b], .int .i64 p, .int .i64 t] w fun e w' => e = .returned (.bool true) ∧ Bl.Ext w w' := by
  by_cases h : 1 ≤ s ∧ s ≤ 512 ∧ 0 ≤ b ∧ b ≤ s ∧ 1 ≤ p ∧ p ≤ 12 ∧ p ≤ s
  · obtain ⟨h1, h2, h3, h4, h5, h6, h7⟩ := h
    by_cases ht : 0 ≤ t ∧ t ≤ 64
    · obtain ⟨T, rfl⟩ := Int.eq_ofNat_of_zero_le ht.1
      exact roundsl_in s b p T S a w hS He h1 h2 h3 h4 h5 h6 h7 (by omega)
    · exact roundsl_bits s b p t S a w hS He h1 h2 h3 h4 h5 h6 h7 (by omega)
  · exact roundsl_err s b p t S a w hS He h
end Go.Proofs.YtkndnmpdklidkaaDoor

/- Walk of the law ChanceNumbers: within its range. -/
import Derived.Test.YtkndnmpdklidkaaDoorCl4
import Derived.RegionTactic
import Derived.BigRegion
namespace Go.Proofs.Bl
open Go
theorem tb_sum_len {A B : Nat} (hA : A < 256 ^ 24) (hB : B < 256 ^ 24) : (tb (A + B)).length ≤ 200 := by
  refine Nat.le_trans (tb_le (k := 25) ?_) (by omega)
  have : 256 ^ 24 + 256 ^ 24 ≤ 256 ^ 25 := by decide
  omega
theorem tb_prod_len {A B : Nat} (hA : A < 256 ^ 24) (hB : B < 256 ^ 24) : (tb (A * B)).length ≤ 400 := by
  refine Nat.le_trans (tb_le (k := 48) ?_) (by omega)
  rw [show (48 : Nat) = 24 + 24 from rfl, Nat.pow_add]
  exact Nat.mul_lt_mul'' hA hB
end Go.Proofs.Bl
namespace Go.Proofs.YtkndnmpdklidkaaDoor
open Go.RowKit Go.Proofs

set_option maxRecDepth 100000 in
set_option maxHeartbeats 2000000 in
theorem numbers_lt (va vb : Value) (a b : List Int) (S : List Nat) (ea : Nat → Addr) (w : World) (hS : ∀ i, 1 ≤ i → i ≤ 20 → i ∈ S) (He : Errs S ea w) (ha : Bl.Rd w .u8 va a) (hb : Bl.Rd w .u8 vb b) (hya : Bl.Byt a) (hyb : Bl.Byt b) (hla : (a.length : Int) ≤ 24) (hlb : (b.length : Int) ≤ 24) (hlt : Bl.be a < Bl.be b) :
    Calls Tryd.prog 8 #[va, vb] w fun e w' => e = .returned (.bool true) ∧ Bl.Ext w w' := by
  obtain ⟨p, c, hvf, _, _⟩ := ha.form
  obtain ⟨q, d, hvg, _, _⟩ := hb.form
  have hA := Bl.be24 a hya (by omega)
  have hB := Bl.be24 b hyb (by omega)
  have Ha := Bl.hid ha
  have Hb := Bl.hid hb
  have Hya := Bl.hid hya
  have Hyb := Bl.hid hyb
  have HN := Bl.hid (fun w1 (h : Bl.Ext w w1) => num_any S ea w1 1 hS (He.ext h) (by decide) (by decide))
  have HF := Bl.hid (fun w1 (h : Bl.Ext w w1) => (He.ext h).cell 1 (hS 1 (by decide) (by decide)))
  obtain ⟨N, hN⟩ : ∃ N, N = a.length := ⟨_, rfl⟩
  obtain ⟨M, hM⟩ : ∃ M, M = b.length := ⟨_, rfl⟩
  have HNl := Bl.hid hN.symm
  have HMl := Bl.hid hM.symm
  rw [← hN] at hvf hla
  rw [← hM] at hvg hlb
  subst hvf hvg
  have HlA := Bl.hid hA
  have HlB := Bl.hid hB
  have g1 : (N : Int) ≤ 24 := by omega
  have g2 : (M : Int) ≤ 24 := by omega
  have Hlt := Bl.hid hlt
  clear ha hb hya hyb hS He hN hM hA hB hlt
  go_enter Tryd.func8, Tryd.ntmps8
  go_wp2_with fail
  refine (alive37 _).mono ?_
  rintro e w1 ⟨rfl, hE1⟩
  have HE1 := Bl.hid hE1
  clear hE1
  go_wp2_with fail
  refine (ebytes_any _ a w1 (Ha.out.ext HE1.out) (by rw [HNl.out]; omega)).mono ?_
  rintro e w2 ⟨gx, cx, rfl, ho2, hE2⟩
  rw [HNl.out] at ho2 ⊢
  have HK2 := Bl.hid (Bl.kept_of HNl.out ho2)
  have HE2 := Bl.hid (HE1.out.trans hE2)
  clear hE2 ho2
  go_wp2_with fail
  refine (ebytes_any _ b w2 (Hb.out.ext HE2.out) (by rw [HMl.out]; omega)).mono ?_
  rintro e w3 ⟨gy, cy, rfl, ho3, hE3⟩
  rw [HMl.out] at ho3 ⊢
  have HK3 := Bl.hid (Bl.kept_of HMl.out ho3)
  have HX3 := Bl.hid hE3
  have HE3 := Bl.hid (HE2.out.trans hE3)
  clear hE3 ho3
  go_wp2_with fail
  refine (bits_any _ a w3 (Ha.out.ext HE3.out) (by rw [HNl.out]; omega) Hya.out).mono ?_
  rintro e w4 ⟨vp, rfl, hR4, hE4⟩
  have HX4 := Bl.hid hE4
  have HR4 := Bl.hid hR4
  have HE4 := Bl.hid (HE3.out.trans hE4)
  clear hE4 hR4
  go_wp2_with fail
  refine (bits_any _ b w4 (Hb.out.ext HE4.out) (by rw [HMl.out]; omega) Hyb.out).mono ?_
  rintro e w5 ⟨vq, rfl, hR5, hE5⟩
  have HE5 := Bl.hid (HE4.out.trans hE5)
  have hC : NumC w5 (.slice (some ⟨gx, 0, none⟩) N cx) (.slice (some ⟨gy, 0, none⟩) M cy) (.slice p N c) (.slice q M d) vp vq (Bl.be a) (Bl.be b) := by
    have h := numC w5 (.slice p N c) (.slice q M d) vp vq gx cx gy cy a b (Ha.out.ext HE5.out) (Hb.out.ext HE5.out) Hya.out Hyb.out (by rw [HNl.out]; omega) (by rw [HMl.out]; omega)
      ⟨Bl.rangeAt_ext HK2.out.2.2.1 ((HX3.out.trans HX4.out).trans hE5), by rw [HNl.out]; exact HK2.out.1, HK2.out.2.1, by rw [HNl.out]; exact HK2.out.2.2.2.ext ((HX3.out.trans HX4.out).trans hE5)⟩
      ⟨Bl.rangeAt_ext HK3.out.2.2.1 (HX4.out.trans hE5), by rw [HMl.out]; exact HK3.out.1, HK3.out.2.1, by rw [HMl.out]; exact HK3.out.2.2.2.ext (HX4.out.trans hE5)⟩
      (HR4.out.ext hE5) hR5
    rw [HNl.out, HMl.out] at h
    exact h
  have Hcx := Bl.hid (show (N : Int) ≤ (cx : Int) from by have := HK2.out.1; omega)
  obtain ⟨A, hA⟩ : ∃ A, A = Bl.be a := ⟨_, rfl⟩
  obtain ⟨B, hB⟩ : ∃ B, B = Bl.be b := ⟨_, rfl⟩
  rw [← hA, ← hB] at hC
  rw [← hA] at HlA Hlt
  rw [← hB] at HlB Hlt
  have HC := Bl.hid hC
  clear hE5 hR5 hC hA hB HK2 HK3 HX3 HX4 HR4
  go_wp2_with fail
  refine (HC.out.tx _ (Below.refl _ _)).mono ?_
  rintro e w6 ⟨v6, rfl, hR6, hE6⟩
  have HR6 := Bl.hid hR6
  have HE6 := Bl.hid hE6
  clear hR6 hE6
  go_wp2_with fail
  refine (same_any v6 vp A _ w6 HR6.out (HC.out.rp.ext HE6.out) (by have := Bl.tb_le HlA.out; omega) (Bl.tb_bit _) (Bl.lb_tb _)).mono ?_
  rintro e w7 ⟨rfl, hE7⟩
  have HE7 := Bl.hid (HE6.out.trans hE7)
  clear hE7
  go_wp2_with fail
  refine (HC.out.ad _ HE7.out).mono ?_
  rintro e w8 ⟨v8, rfl, hR8, hE8⟩
  have HR8 := Bl.hid hR8
  have HE8 := Bl.hid (HE7.out.trans hE8)
  clear hR8 hE8
  go_wp2_with fail
  refine (HC.out.ra _ HE8.out).mono ?_
  rintro e w9 ⟨v9, rfl, hR9, hE9⟩
  have HR8 := Bl.hid (HR8.out.ext hE9)
  have HR9 := Bl.hid hR9
  have HE9 := Bl.hid (HE8.out.trans hE9)
  clear hR9 hE9
  go_wp2_with fail
  refine (same_any v8 v9 (A + B) _ w9 HR8.out HR9.out (by have := Bl.tb_sum_len HlA.out HlB.out; omega) (Bl.tb_bit _) (Bl.lb_tb _)).mono ?_
  rintro e w10 ⟨rfl, hE10⟩
  have HE10 := Bl.hid (HE9.out.trans hE10)
  clear hE10
  go_wp2_with fail
  refine (HC.out.mu _ HE10.out).mono ?_
  rintro e w11 ⟨v11, rfl, hR11, hE11⟩
  have HR11 := Bl.hid hR11
  have HE11 := Bl.hid (HE10.out.trans hE11)
  clear hR11 hE11
  go_wp2_with fail
  refine (HC.out.rm _ HE11.out).mono ?_
  rintro e w12 ⟨v12, rfl, hR12, hE12⟩
  have HR11 := Bl.hid (HR11.out.ext hE12)
  have HR12 := Bl.hid hR12
  have HE12 := Bl.hid (HE11.out.trans hE12)
  clear hR12 hE12
  go_wp2_with fail
  refine (same_any v11 v12 (A * B) _ w12 HR11.out HR12.out (by have := Bl.tb_prod_len HlA.out HlB.out; omega) (Bl.tb_bit _) (Bl.lb_tb _)).mono ?_
  rintro e w13 ⟨rfl, hE13⟩
  have HE13 := Bl.hid (HE12.out.trans hE13)
  clear hE13 HR6 HR8 HR9 HR11 HR12 HE6 HE7 HE8 HE9 HE10 HE11 HE12
  go_wp2_with fail
  refine (HC.out.l1 _ HE13.out).mono ?_
  rintro e w14 ⟨rfl, hE14⟩
  have HE14 := Bl.hid (HE13.out.trans hE14)
  rw [show decide (A < B) = true from decide_eq_true Hlt.out]
  clear hE14
  go_wp2_with fail
  refine (HC.out.l2 _ HE14.out).mono ?_
  rintro e w15 ⟨rfl, hE15⟩
  have HE15 := Bl.hid (HE14.out.trans hE15)
  rw [show decide (B < A) = false from decide_eq_false (by have := Hlt.out; omega)]
  clear hE15
  go_wp2_with fail
  refine (HC.out.slt Hlt.out (ea 1) _ HE15.out (HF.out _ (HE5.out.trans HE15.out))).mono ?_
  rintro e w16 ⟨rfl, hE16⟩
  have HE16 := Bl.hid (HE15.out.trans hE16)
  clear hE16
  go_wp2_with fail
  have hcm := HC.out.cm _ HE16.out
  rw [Bl.cmpn_lt Hlt.out] at hcm
  refine hcm.mono ?_
  rintro e w17 ⟨rfl, hE17⟩
  have HE17 := Bl.hid (HE16.out.trans hE17)
  clear hE17 hcm
  go_wp2_with fail
  refine (HC.out.kx _ HE17.out).mono ?_
  rintro e w18 ⟨rfl, hE18⟩
  have HE18 := Bl.hid (HE17.out.trans hE18)
  clear hE18
  go_wp2_with fail
  refine (HC.out.ky _ HE18.out).mono ?_
  rintro e w19 ⟨rfl, hE19⟩
  have HE19 := Bl.hid (HE18.out.trans hE19)
  clear hE19
  go_wp2_with fail
  refine (HN.out _ (HE5.out.trans HE19.out)).mono ?_
  rintro e w20 ⟨rfl, hE20⟩
  have HE20 := Bl.hid (HE5.out.trans (HE19.out.trans hE20))
  clear hE20
  go_wp2_with fail
  go_ret
  exact ⟨rfl, HE20.out⟩

set_option maxRecDepth 100000 in
set_option maxHeartbeats 2000000 in
theorem numbers_eq (va vb : Value) (a b : List Int) (S : List Nat) (ea : Nat → Addr) (w : World) (hS : ∀ i, 1 ≤ i → i ≤ 20 → i ∈ S) (He : Errs S ea w) (ha : Bl.Rd w .u8 va a) (hb : Bl.Rd w .u8 vb b) (hya : Bl.Byt a) (hyb : Bl.Byt b) (hla : (a.length : Int) ≤ 24) (hlb : (b.length : Int) ≤ 24) (hlt : Bl.be a = Bl.be b) :
    Calls Tryd.prog 8 #[va, vb] w fun e w' => e = .returned (.bool true) ∧ Bl.Ext w w' := by
  obtain ⟨p, c, hvf, _, _⟩ := ha.form
  obtain ⟨q, d, hvg, _, _⟩ := hb.form
  have hA := Bl.be24 a hya (by omega)
  have hB := Bl.be24 b hyb (by omega)
  have Ha := Bl.hid ha
  have Hb := Bl.hid hb
  have Hya := Bl.hid hya
  have Hyb := Bl.hid hyb
  have HN := Bl.hid (fun w1 (h : Bl.Ext w w1) => num_any S ea w1 1 hS (He.ext h) (by decide) (by decide))
  have HF := Bl.hid (fun w1 (h : Bl.Ext w w1) => (He.ext h).cell 1 (hS 1 (by decide) (by decide)))
  obtain ⟨N, hN⟩ : ∃ N, N = a.length := ⟨_, rfl⟩
  obtain ⟨M, hM⟩ : ∃ M, M = b.length := ⟨_, rfl⟩
  have HNl := Bl.hid hN.symm
  have HMl := Bl.hid hM.symm
  rw [← hN] at hvf hla
  rw [← hM] at hvg hlb
  subst hvf hvg
  have HlA := Bl.hid hA
  have HlB := Bl.hid hB
  have g1 : (N : Int) ≤ 24 := by omega
  have g2 : (M : Int) ≤ 24 := by omega
  have Hlt := Bl.hid hlt
  clear ha hb hya hyb hS He hN hM hA hB hlt
  go_enter Tryd.func8, Tryd.ntmps8
  go_wp2_with fail
  refine (alive37 _).mono ?_
  rintro e w1 ⟨rfl, hE1⟩
  have HE1 := Bl.hid hE1
  clear hE1
  go_wp2_with fail
  refine (ebytes_any _ a w1 (Ha.out.ext HE1.out) (by rw [HNl.out]; omega)).mono ?_
  rintro e w2 ⟨gx, cx, rfl, ho2, hE2⟩
  rw [HNl.out] at ho2 ⊢
  have HK2 := Bl.hid (Bl.kept_of HNl.out ho2)
  have HE2 := Bl.hid (HE1.out.trans hE2)
  clear hE2 ho2
  go_wp2_with fail
  refine (ebytes_any _ b w2 (Hb.out.ext HE2.out) (by rw [HMl.out]; omega)).mono ?_
  rintro e w3 ⟨gy, cy, rfl, ho3, hE3⟩
  rw [HMl.out] at ho3 ⊢
  have HK3 := Bl.hid (Bl.kept_of HMl.out ho3)
  have HX3 := Bl.hid hE3
  have HE3 := Bl.hid (HE2.out.trans hE3)
  clear hE3 ho3
  go_wp2_with fail
  refine (bits_any _ a w3 (Ha.out.ext HE3.out) (by rw [HNl.out]; omega) Hya.out).mono ?_
  rintro e w4 ⟨vp, rfl, hR4, hE4⟩
  have HX4 := Bl.hid hE4
  have HR4 := Bl.hid hR4
  have HE4 := Bl.hid (HE3.out.trans hE4)
  clear hE4 hR4
  go_wp2_with fail
  refine (bits_any _ b w4 (Hb.out.ext HE4.out) (by rw [HMl.out]; omega) Hyb.out).mono ?_
  rintro e w5 ⟨vq, rfl, hR5, hE5⟩
  have HE5 := Bl.hid (HE4.out.trans hE5)
  have hC : NumC w5 (.slice (some ⟨gx, 0, none⟩) N cx) (.slice (some ⟨gy, 0, none⟩) M cy) (.slice p N c) (.slice q M d) vp vq (Bl.be a) (Bl.be b) := by
    have h := numC w5 (.slice p N c) (.slice q M d) vp vq gx cx gy cy a b (Ha.out.ext HE5.out) (Hb.out.ext HE5.out) Hya.out Hyb.out (by rw [HNl.out]; omega) (by rw [HMl.out]; omega)
      ⟨Bl.rangeAt_ext HK2.out.2.2.1 ((HX3.out.trans HX4.out).trans hE5), by rw [HNl.out]; exact HK2.out.1, HK2.out.2.1, by rw [HNl.out]; exact HK2.out.2.2.2.ext ((HX3.out.trans HX4.out).trans hE5)⟩
      ⟨Bl.rangeAt_ext HK3.out.2.2.1 (HX4.out.trans hE5), by rw [HMl.out]; exact HK3.out.1, HK3.out.2.1, by rw [HMl.out]; exact HK3.out.2.2.2.ext (HX4.out.trans hE5)⟩
      (HR4.out.ext hE5) hR5
    rw [HNl.out, HMl.out] at h
    exact h
  have Hcx := Bl.hid (show (N : Int) ≤ (cx : Int) from by have := HK2.out.1; omega)
  obtain ⟨A, hA⟩ : ∃ A, A = Bl.be a := ⟨_, rfl⟩
  obtain ⟨B, hB⟩ : ∃ B, B = Bl.be b := ⟨_, rfl⟩
  rw [← hA, ← hB] at hC
  rw [← hA] at HlA Hlt
  rw [← hB] at HlB Hlt
  have HC := Bl.hid hC
  clear hE5 hR5 hC hA hB HK2 HK3 HX3 HX4 HR4
  go_wp2_with fail
  refine (HC.out.tx _ (Below.refl _ _)).mono ?_
  rintro e w6 ⟨v6, rfl, hR6, hE6⟩
  have HR6 := Bl.hid hR6
  have HE6 := Bl.hid hE6
  clear hR6 hE6
  go_wp2_with fail
  refine (same_any v6 vp A _ w6 HR6.out (HC.out.rp.ext HE6.out) (by have := Bl.tb_le HlA.out; omega) (Bl.tb_bit _) (Bl.lb_tb _)).mono ?_
  rintro e w7 ⟨rfl, hE7⟩
  have HE7 := Bl.hid (HE6.out.trans hE7)
  clear hE7
  go_wp2_with fail
  refine (HC.out.ad _ HE7.out).mono ?_
  rintro e w8 ⟨v8, rfl, hR8, hE8⟩
  have HR8 := Bl.hid hR8
  have HE8 := Bl.hid (HE7.out.trans hE8)
  clear hR8 hE8
  go_wp2_with fail
  refine (HC.out.ra _ HE8.out).mono ?_
  rintro e w9 ⟨v9, rfl, hR9, hE9⟩
  have HR8 := Bl.hid (HR8.out.ext hE9)
  have HR9 := Bl.hid hR9
  have HE9 := Bl.hid (HE8.out.trans hE9)
  clear hR9 hE9
  go_wp2_with fail
  refine (same_any v8 v9 (A + B) _ w9 HR8.out HR9.out (by have := Bl.tb_sum_len HlA.out HlB.out; omega) (Bl.tb_bit _) (Bl.lb_tb _)).mono ?_
  rintro e w10 ⟨rfl, hE10⟩
  have HE10 := Bl.hid (HE9.out.trans hE10)
  clear hE10
  go_wp2_with fail
  refine (HC.out.mu _ HE10.out).mono ?_
  rintro e w11 ⟨v11, rfl, hR11, hE11⟩
  have HR11 := Bl.hid hR11
  have HE11 := Bl.hid (HE10.out.trans hE11)
  clear hR11 hE11
  go_wp2_with fail
  refine (HC.out.rm _ HE11.out).mono ?_
  rintro e w12 ⟨v12, rfl, hR12, hE12⟩
  have HR11 := Bl.hid (HR11.out.ext hE12)
  have HR12 := Bl.hid hR12
  have HE12 := Bl.hid (HE11.out.trans hE12)
  clear hR12 hE12
  go_wp2_with fail
  refine (same_any v11 v12 (A * B) _ w12 HR11.out HR12.out (by have := Bl.tb_prod_len HlA.out HlB.out; omega) (Bl.tb_bit _) (Bl.lb_tb _)).mono ?_
  rintro e w13 ⟨rfl, hE13⟩
  have HE13 := Bl.hid (HE12.out.trans hE13)
  clear hE13 HR6 HR8 HR9 HR11 HR12 HE6 HE7 HE8 HE9 HE10 HE11 HE12
  go_wp2_with fail
  refine (HC.out.l1 _ HE13.out).mono ?_
  rintro e w14 ⟨rfl, hE14⟩
  have HE14 := Bl.hid (HE13.out.trans hE14)
  rw [show decide (A < B) = false from decide_eq_false (by have := Hlt.out; omega)]
  clear hE14
  go_wp2_with fail
  refine (HC.out.l2 _ HE14.out).mono ?_
  rintro e w15 ⟨rfl, hE15⟩
  have HE15 := Bl.hid (HE14.out.trans hE15)
  rw [show decide (B < A) = false from decide_eq_false (by have := Hlt.out; omega)]
  clear hE15
  go_wp2_with fail
  refine (HC.out.sge (Nat.le_of_eq Hlt.out.symm) _ HE15.out).mono ?_
  rintro e w16 ⟨v16, rfl, hR16, hE16⟩
  have HE16 := Bl.hid (HE15.out.trans hE16)
  have HR16 := Bl.hid hR16
  clear hR16 hE16
  go_wp2_with fail
  have hcm := HC.out.cm _ HE16.out
  rw [Hlt.out, Bl.cmpn_eq] at hcm
  refine hcm.mono ?_
  rintro e w17 ⟨rfl, hE17⟩
  have HR16 := Bl.hid (HR16.out.ext hE17)
  have HE17 := Bl.hid (HE16.out.trans hE17)
  clear hE17 hcm
  go_wp2_with fail
  refine (HC.out.kx _ HE17.out).mono ?_
  rintro e w18 ⟨rfl, hE18⟩
  have HR16 := Bl.hid (HR16.out.ext hE18)
  have HE18 := Bl.hid (HE17.out.trans hE18)
  clear hE18
  go_wp2_with fail
  refine (HC.out.ky _ HE18.out).mono ?_
  rintro e w19 ⟨rfl, hE19⟩
  have HR19 := Bl.hid (HR16.out.ext hE19)
  have HE19 := Bl.hid (HE18.out.trans hE19)
  clear hE19 HR16
  obtain ⟨p19, c19, e19, _, _⟩ := HR19.out.form
  subst e19
  have HT1 := Bl.hid (fun w2 (h : Bl.Ext w19 w2) => trim_tob (.slice p19 (Bl.tob (A - B)).length c19) _ w2 (HR19.out.ext h) (by have := Bl.tob_len_le 24 (A - B) (by have := HlA.out; omega); omega) (Bl.tob_byt _))
  have HT2 := Bl.hid (fun w2 (h : Bl.Ext w19 w2) => HC.out.tx w2 (HE19.out.trans h))
  have HBt := Bl.hid (fun w2 (h : Bl.Ext w19 w2) => bits_any (.slice p19 (Bl.tob (A - B)).length c19) _ w2 (HR19.out.ext h) (by have := Bl.tob_len_le 24 (A - B) (by have := HlA.out; omega); omega) (Bl.tob_byt _))
  have HAd := Bl.hid (fun (u : Value) w2 (h : Bl.Ext w19 w2) (hu : Bl.Rd w2 .u8 u (Bl.tb (A - B))) => radd_any u vq _ _ w2 hu (HC.out.rq.ext (HE19.out.trans h)) (by have := Bl.tb_le (x := A - B) (k := 24) (by have := HlA.out; omega); omega) (by have := Bl.tb_le HlB.out; omega) (Bl.tb_bit _) (Bl.tb_bit _))
  have HSm := Bl.hid (fun (u v : Value) w2 (hu : Bl.Rd w2 .u8 u (Bl.tob A)) (hv : Bl.Rd w2 .u8 v (Bl.tb A)) => same_any u v A _ w2 hu hv (by have := Bl.tb_le HlA.out; omega) (Bl.tb_bit _) (Bl.lb_tb _))
  simp only [Bl.be_tob] at HT1 HBt
  simp only [Bl.lb_tb] at HAd
  rw [Nat.sub_add_cancel (Nat.le_of_eq Hlt.out.symm)] at HAd
  have Hcv16 := Bl.hid (fun w2 (h : Bl.Ext w19 w2) => Bl.conv_bytes (P := Tryd.prog) (src := 23) (dst := 9) (HR19.out.ext h) Tryd.underlying23 Tryd.underlying5 Tryd.underlying9)
  go_wp2_with fail
  apply Bl.wp_region_ev 19 [94, 95, 96, 97, 98, 99, 100, 101, 102, 103, 104, 105, 106, 107, 108, 109, 110, 111, 112] [Bl.eqv _, Bl.eqv _, Bl.eqv _, Bl.eqv _, (fun v w' => Bl.Rd w' .u8 v (Bl.tob (A - B))), Bl.eqv (.string (Bl.bstr (Bl.tob (A - B)))), Bl.eqv _, Bl.eqv (.string (Bl.bstr (Bl.tob (A - B)))), Bl.eqv (.bool true), Bl.eqv (.bool true), Bl.eqv (.bool true), Bl.eqv _, (fun v w' => Bl.Rd w' .u8 v (Bl.tob A)), Bl.eqv _, (fun v w' => Bl.Rd w' .u8 v (Bl.tb (A - B))), Bl.eqv _, (fun v w' => Bl.Rd w' .u8 v (Bl.tb A)), Bl.eqv (.bool true), Bl.eqv (.bool true)] (by kernel_rfl) (by kernel_rfl) (by kernel_rfl) (by kernel_rfl)
  case hsteps =>
    refine ⟨?_, ?_, ?_, ?_, ?_, ?_, ?_, ?_, ?_, ?_, ?_, ?_, ?_, ?_, ?_, ?_, ?_, ?_, ?_, trivial⟩
    all_goals
      intro ev w1 hext hb hd
      have e5 := hb 5 (by decide)
      have e8 := hb 8 (by decide)
      have e10 := hb 10 (by decide)
      have e11 := hb 11 (by decide)
      clear hb
      simp only [Array.getD_eq_getD_getElem?, List.getElem?_toArray, List.getElem?_cons_succ, List.getElem?_cons_zero, Option.getD_some] at e5 e8 e10 e11
      simp only [Bl.DepsE, List.getElem?_cons_succ, List.getElem?_cons_zero, Option.bind_some, List.getD_cons_succ, List.getD_cons_zero, Bl.eqv, and_true] at hd
      have hc := (Bl.bcell hext).1
      have Hcv := fun (v : Value) (m : List Int) (h : Bl.Rd w1 .u8 v m) => Bl.conv_bytes (P := Tryd.prog) (src := 23) (dst := 9) h Tryd.underlying23 Tryd.underlying5 Tryd.underlying9
      have c1 := Hcv16.out w1 hext
      try (first | have c2 := Hcv _ _ hd | have c2 := Hcv _ _ hd.1 | have c2 := Hcv _ _ hd.2 | have c2 := Hcv _ _ hd.2.1)
      clear Hcv
      simp only [Bl.Good, Region.wanted, Bl.yieldE, List.getElem?_cons_succ, List.getElem?_cons_zero, Option.bind_some, hd, beq_self_eq_true, if_true]
      go_simp
      first | (go_at_call 23; (with_reducible refine (HT1.out _ hext).mono ?_); rintro e w' ⟨v', rfl, h1, h2⟩; exact ⟨_, rfl, h2, h1⟩) | (go_at_call 23; (with_reducible refine (HT2.out _ hext).mono ?_); rintro e w' ⟨v', rfl, h1, h2⟩; exact ⟨_, rfl, h2, h1⟩) | (go_at_call 15; (with_reducible refine (HBt.out _ hext).mono ?_); rintro e w' ⟨v', rfl, h1, h2⟩; exact ⟨_, rfl, h2, h1⟩) | (go_at_call 13; (with_reducible refine (HAd.out _ _ hext hd).mono ?_); rintro e w' ⟨v', rfl, h1, h2⟩; exact ⟨_, rfl, h2, h1⟩) | (go_at_call 13; (with_reducible refine (HAd.out _ _ hext hd.1).mono ?_); rintro e w' ⟨v', rfl, h1, h2⟩; exact ⟨_, rfl, h2, h1⟩) | (go_at_call 13; (with_reducible refine (HAd.out _ _ hext hd.2).mono ?_); rintro e w' ⟨v', rfl, h1, h2⟩; exact ⟨_, rfl, h2, h1⟩) | (go_at_call 13; (with_reducible refine (HAd.out _ _ hext hd.2.1).mono ?_); rintro e w' ⟨v', rfl, h1, h2⟩; exact ⟨_, rfl, h2, h1⟩) | (go_at_call 16; (with_reducible refine (HSm.out _ _ _ hd.1 hd.2).mono ?_); rintro e w' ⟨rfl, h2⟩; exact ⟨_, rfl, h2, rfl⟩) | (go_at_call 16; (with_reducible refine (HSm.out _ _ _ hd.1 hd.2.1).mono ?_); rintro e w' ⟨rfl, h2⟩; exact ⟨_, rfl, h2, rfl⟩) | (go_at_call 16; (with_reducible refine (HSm.out _ _ _ hd.2.1 hd.2.2).mono ?_); rintro e w' ⟨rfl, h2⟩; exact ⟨_, rfl, h2, rfl⟩) | (go_at_call 16; (with_reducible refine (HSm.out _ _ _ hd.2.1 hd.1).mono ?_); rintro e w' ⟨rfl, h2⟩; exact ⟨_, rfl, h2, rfl⟩) | (go_at_call 16; (with_reducible refine (HSm.out _ _ _ hd.2 hd.1).mono ?_); rintro e w' ⟨rfl, h2⟩; exact ⟨_, rfl, h2, rfl⟩) | exact ⟨Below.refl _ _, rfl⟩
  case hmono => exact ⟨Bl.mono_eqv _, Bl.mono_eqv _, Bl.mono_eqv _, Bl.mono_eqv _, (fun _ _ _ h k => Bl.Rd.ext h k), (Bl.mono_eqv _), Bl.mono_eqv _, (Bl.mono_eqv _), (Bl.mono_eqv _), (Bl.mono_eqv _), (Bl.mono_eqv _), Bl.mono_eqv _, (fun _ _ _ h k => Bl.Rd.ext h k), Bl.mono_eqv _, (fun _ _ _ h k => Bl.Rd.ext h k), Bl.mono_eqv _, (fun _ _ _ h k => Bl.Rd.ext h k), (Bl.mono_eqv _), (Bl.mono_eqv _), trivial⟩
  case hend =>
    intro u w1 hext hend
    simp only [Bl.EndE, List.getElem?_cons_succ, List.getElem?_cons_zero, Option.bind_some, List.getD_cons_succ, List.getD_cons_zero, Bl.eqv, true_and] at hend
    simp only [Bl.fillAct, List.setIfInBounds_toArray, List.set_cons_succ, List.set_cons_zero, List.drop_succ_cons, List.drop_zero, hend]
    have HX := Bl.hid (HE5.out.trans (HE19.out.trans hext))
    clear hext hend
    go_wp2_with fail
    go_ret
    exact ⟨rfl, HX.out⟩

set_option maxRecDepth 100000 in
set_option maxHeartbeats 2000000 in
theorem numbers_gt (va vb : Value) (a b : List Int) (S : List Nat) (ea : Nat → Addr) (w : World) (hS : ∀ i, 1 ≤ i → i ≤ 20 → i ∈ S) (He : Errs S ea w) (ha : Bl.Rd w .u8 va a) (hb : Bl.Rd w .u8 vb b) (hya : Bl.Byt a) (hyb : Bl.Byt b) (hla : (a.length : Int) ≤ 24) (hlb : (b.length : Int) ≤ 24) (hlt : Bl.be b < Bl.be a) :
    Calls Tryd.prog 8 #[va, vb] w fun e w' => e = .returned (.bool true) ∧ Bl.Ext w w' := by
  obtain ⟨p, c, hvf, _, _⟩ := ha.form
  obtain ⟨q, d, hvg, _, _⟩ := hb.form
  have hA := Bl.be24 a hya (by omega)
  have hB := Bl.be24 b hyb (by omega)
  have Ha := Bl.hid ha
  have Hb := Bl.hid hb
  have Hya := Bl.hid hya
  have Hyb := Bl.hid hyb
  have HN := Bl.hid (fun w1 (h : Bl.Ext w w1) => num_any S ea w1 1 hS (He.ext h) (by decide) (by decide))
  have HF := Bl.hid (fun w1 (h : Bl.Ext w w1) => (He.ext h).cell 1 (hS 1 (by decide) (by decide)))
  obtain ⟨N, hN⟩ : ∃ N, N = a.length := ⟨_, rfl⟩
  obtain ⟨M, hM⟩ : ∃ M, M = b.length := ⟨_, rfl⟩
  have HNl := Bl.hid hN.symm
  have HMl := Bl.hid hM.symm
  rw [← hN] at hvf hla
  rw [← hM] at hvg hlb
  subst hvf hvg
  have HlA := Bl.hid hA
  have HlB := Bl.hid hB
  have g1 : (N : Int) ≤ 24 := by omega
  have g2 : (M : Int) ≤ 24 := by omega
  have Hlt := Bl.hid hlt
  clear ha hb hya hyb hS He hN hM hA hB hlt
  go_enter Tryd.func8, Tryd.ntmps8
  go_wp2_with fail
  refine (alive37 _).mono ?_
  rintro e w1 ⟨rfl, hE1⟩
  have HE1 := Bl.hid hE1
  clear hE1
  go_wp2_with fail
  refine (ebytes_any _ a w1 (Ha.out.ext HE1.out) (by rw [HNl.out]; omega)).mono ?_
  rintro e w2 ⟨gx, cx, rfl, ho2, hE2⟩
  rw [HNl.out] at ho2 ⊢
  have HK2 := Bl.hid (Bl.kept_of HNl.out ho2)
  have HE2 := Bl.hid (HE1.out.trans hE2)
  clear hE2 ho2
  go_wp2_with fail
  refine (ebytes_any _ b w2 (Hb.out.ext HE2.out) (by rw [HMl.out]; omega)).mono ?_
  rintro e w3 ⟨gy, cy, rfl, ho3, hE3⟩
  rw [HMl.out] at ho3 ⊢
  have HK3 := Bl.hid (Bl.kept_of HMl.out ho3)
  have HX3 := Bl.hid hE3
  have HE3 := Bl.hid (HE2.out.trans hE3)
  clear hE3 ho3
  go_wp2_with fail
  refine (bits_any _ a w3 (Ha.out.ext HE3.out) (by rw [HNl.out]; omega) Hya.out).mono ?_
  rintro e w4 ⟨vp, rfl, hR4, hE4⟩
  have HX4 := Bl.hid hE4
  have HR4 := Bl.hid hR4
  have HE4 := Bl.hid (HE3.out.trans hE4)
  clear hE4 hR4
  go_wp2_with fail
  refine (bits_any _ b w4 (Hb.out.ext HE4.out) (by rw [HMl.out]; omega) Hyb.out).mono ?_
  rintro e w5 ⟨vq, rfl, hR5, hE5⟩
  have HE5 := Bl.hid (HE4.out.trans hE5)
  have hC : NumC w5 (.slice (some ⟨gx, 0, none⟩) N cx) (.slice (some ⟨gy, 0, none⟩) M cy) (.slice p N c) (.slice q M d) vp vq (Bl.be a) (Bl.be b) := by
    have h := numC w5 (.slice p N c) (.slice q M d) vp vq gx cx gy cy a b (Ha.out.ext HE5.out) (Hb.out.ext HE5.out) Hya.out Hyb.out (by rw [HNl.out]; omega) (by rw [HMl.out]; omega)
      ⟨Bl.rangeAt_ext HK2.out.2.2.1 ((HX3.out.trans HX4.out).trans hE5), by rw [HNl.out]; exact HK2.out.1, HK2.out.2.1, by rw [HNl.out]; exact HK2.out.2.2.2.ext ((HX3.out.trans HX4.out).trans hE5)⟩
      ⟨Bl.rangeAt_ext HK3.out.2.2.1 (HX4.out.trans hE5), by rw [HMl.out]; exact HK3.out.1, HK3.out.2.1, by rw [HMl.out]; exact HK3.out.2.2.2.ext (HX4.out.trans hE5)⟩
      (HR4.out.ext hE5) hR5
    rw [HNl.out, HMl.out] at h
    exact h
  have Hcx := Bl.hid (show (N : Int) ≤ (cx : Int) from by have := HK2.out.1; omega)
  obtain ⟨A, hA⟩ : ∃ A, A = Bl.be a := ⟨_, rfl⟩
  obtain ⟨B, hB⟩ : ∃ B, B = Bl.be b := ⟨_, rfl⟩
  rw [← hA, ← hB] at hC
  rw [← hA] at HlA Hlt
  rw [← hB] at HlB Hlt
  have HC := Bl.hid hC
  clear hE5 hR5 hC hA hB HK2 HK3 HX3 HX4 HR4
  go_wp2_with fail
  refine (HC.out.tx _ (Below.refl _ _)).mono ?_
  rintro e w6 ⟨v6, rfl, hR6, hE6⟩
  have HR6 := Bl.hid hR6
  have HE6 := Bl.hid hE6
  clear hR6 hE6
  go_wp2_with fail
  refine (same_any v6 vp A _ w6 HR6.out (HC.out.rp.ext HE6.out) (by have := Bl.tb_le HlA.out; omega) (Bl.tb_bit _) (Bl.lb_tb _)).mono ?_
  rintro e w7 ⟨rfl, hE7⟩
  have HE7 := Bl.hid (HE6.out.trans hE7)
  clear hE7
  go_wp2_with fail
  refine (HC.out.ad _ HE7.out).mono ?_
  rintro e w8 ⟨v8, rfl, hR8, hE8⟩
  have HR8 := Bl.hid hR8
  have HE8 := Bl.hid (HE7.out.trans hE8)
  clear hR8 hE8
  go_wp2_with fail
  refine (HC.out.ra _ HE8.out).mono ?_
  rintro e w9 ⟨v9, rfl, hR9, hE9⟩
  have HR8 := Bl.hid (HR8.out.ext hE9)
  have HR9 := Bl.hid hR9
  have HE9 := Bl.hid (HE8.out.trans hE9)
  clear hR9 hE9
  go_wp2_with fail
  refine (same_any v8 v9 (A + B) _ w9 HR8.out HR9.out (by have := Bl.tb_sum_len HlA.out HlB.out; omega) (Bl.tb_bit _) (Bl.lb_tb _)).mono ?_
  rintro e w10 ⟨rfl, hE10⟩
  have HE10 := Bl.hid (HE9.out.trans hE10)
  clear hE10
  go_wp2_with fail
  refine (HC.out.mu _ HE10.out).mono ?_
  rintro e w11 ⟨v11, rfl, hR11, hE11⟩
  have HR11 := Bl.hid hR11
  have HE11 := Bl.hid (HE10.out.trans hE11)
  clear hR11 hE11
  go_wp2_with fail
  refine (HC.out.rm _ HE11.out).mono ?_
  rintro e w12 ⟨v12, rfl, hR12, hE12⟩
  have HR11 := Bl.hid (HR11.out.ext hE12)
  have HR12 := Bl.hid hR12
  have HE12 := Bl.hid (HE11.out.trans hE12)
  clear hR12 hE12
  go_wp2_with fail
  refine (same_any v11 v12 (A * B) _ w12 HR11.out HR12.out (by have := Bl.tb_prod_len HlA.out HlB.out; omega) (Bl.tb_bit _) (Bl.lb_tb _)).mono ?_
  rintro e w13 ⟨rfl, hE13⟩
  have HE13 := Bl.hid (HE12.out.trans hE13)
  clear hE13 HR6 HR8 HR9 HR11 HR12 HE6 HE7 HE8 HE9 HE10 HE11 HE12
  go_wp2_with fail
  refine (HC.out.l1 _ HE13.out).mono ?_
  rintro e w14 ⟨rfl, hE14⟩
  have HE14 := Bl.hid (HE13.out.trans hE14)
  rw [show decide (A < B) = false from decide_eq_false (by have := Hlt.out; omega)]
  clear hE14
  go_wp2_with fail
  refine (HC.out.l2 _ HE14.out).mono ?_
  rintro e w15 ⟨rfl, hE15⟩
  have HE15 := Bl.hid (HE14.out.trans hE15)
  rw [show decide (B < A) = true from decide_eq_true Hlt.out]
  clear hE15
  go_wp2_with fail
  refine (HC.out.sge (Nat.le_of_lt Hlt.out) _ HE15.out).mono ?_
  rintro e w16 ⟨v16, rfl, hR16, hE16⟩
  have HE16 := Bl.hid (HE15.out.trans hE16)
  have HR16 := Bl.hid hR16
  clear hR16 hE16
  go_wp2_with fail
  have hcm := HC.out.cm _ HE16.out
  rw [Bl.cmpn_gt Hlt.out] at hcm
  refine hcm.mono ?_
  rintro e w17 ⟨rfl, hE17⟩
  have HR16 := Bl.hid (HR16.out.ext hE17)
  have HE17 := Bl.hid (HE16.out.trans hE17)
  clear hE17 hcm
  go_wp2_with fail
  refine (HC.out.kx _ HE17.out).mono ?_
  rintro e w18 ⟨rfl, hE18⟩
  have HR16 := Bl.hid (HR16.out.ext hE18)
  have HE18 := Bl.hid (HE17.out.trans hE18)
  clear hE18
  go_wp2_with fail
  refine (HC.out.ky _ HE18.out).mono ?_
  rintro e w19 ⟨rfl, hE19⟩
  have HR19 := Bl.hid (HR16.out.ext hE19)
  have HE19 := Bl.hid (HE18.out.trans hE19)
  clear hE19 HR16
  obtain ⟨p19, c19, e19, _, _⟩ := HR19.out.form
  subst e19
  have HT1 := Bl.hid (fun w2 (h : Bl.Ext w19 w2) => trim_tob (.slice p19 (Bl.tob (A - B)).length c19) _ w2 (HR19.out.ext h) (by have := Bl.tob_len_le 24 (A - B) (by have := HlA.out; omega); omega) (Bl.tob_byt _))
  have HT2 := Bl.hid (fun w2 (h : Bl.Ext w19 w2) => HC.out.tx w2 (HE19.out.trans h))
  have HBt := Bl.hid (fun w2 (h : Bl.Ext w19 w2) => bits_any (.slice p19 (Bl.tob (A - B)).length c19) _ w2 (HR19.out.ext h) (by have := Bl.tob_len_le 24 (A - B) (by have := HlA.out; omega); omega) (Bl.tob_byt _))
  have HAd := Bl.hid (fun (u : Value) w2 (h : Bl.Ext w19 w2) (hu : Bl.Rd w2 .u8 u (Bl.tb (A - B))) => radd_any u vq _ _ w2 hu (HC.out.rq.ext (HE19.out.trans h)) (by have := Bl.tb_le (x := A - B) (k := 24) (by have := HlA.out; omega); omega) (by have := Bl.tb_le HlB.out; omega) (Bl.tb_bit _) (Bl.tb_bit _))
  have HSm := Bl.hid (fun (u v : Value) w2 (hu : Bl.Rd w2 .u8 u (Bl.tob A)) (hv : Bl.Rd w2 .u8 v (Bl.tb A)) => same_any u v A _ w2 hu hv (by have := Bl.tb_le HlA.out; omega) (Bl.tb_bit _) (Bl.lb_tb _))
  simp only [Bl.be_tob] at HT1 HBt
  simp only [Bl.lb_tb] at HAd
  rw [Nat.sub_add_cancel (Nat.le_of_lt Hlt.out)] at HAd
  have Hcv16 := Bl.hid (fun w2 (h : Bl.Ext w19 w2) => Bl.conv_bytes (P := Tryd.prog) (src := 23) (dst := 9) (HR19.out.ext h) Tryd.underlying23 Tryd.underlying5 Tryd.underlying9)
  go_wp2_with fail
  apply Bl.wp_region_ev 19 [94, 95, 96, 97, 98, 99, 100, 101, 102, 103, 104, 105, 106, 107, 108, 109, 110, 111, 112] [Bl.eqv _, Bl.eqv _, Bl.eqv _, Bl.eqv _, (fun v w' => Bl.Rd w' .u8 v (Bl.tob (A - B))), Bl.eqv (.string (Bl.bstr (Bl.tob (A - B)))), Bl.eqv _, Bl.eqv (.string (Bl.bstr (Bl.tob (A - B)))), Bl.eqv (.bool true), Bl.eqv (.bool true), Bl.eqv (.bool true), Bl.eqv _, (fun v w' => Bl.Rd w' .u8 v (Bl.tob A)), Bl.eqv _, (fun v w' => Bl.Rd w' .u8 v (Bl.tb (A - B))), Bl.eqv _, (fun v w' => Bl.Rd w' .u8 v (Bl.tb A)), Bl.eqv (.bool true), Bl.eqv (.bool true)] (by kernel_rfl) (by kernel_rfl) (by kernel_rfl) (by kernel_rfl)
  case hsteps =>
    refine ⟨?_, ?_, ?_, ?_, ?_, ?_, ?_, ?_, ?_, ?_, ?_, ?_, ?_, ?_, ?_, ?_, ?_, ?_, ?_, trivial⟩
    all_goals
      intro ev w1 hext hb hd
      have e5 := hb 5 (by decide)
      have e8 := hb 8 (by decide)
      have e10 := hb 10 (by decide)
      have e11 := hb 11 (by decide)
      clear hb
      simp only [Array.getD_eq_getD_getElem?, List.getElem?_toArray, List.getElem?_cons_succ, List.getElem?_cons_zero, Option.getD_some] at e5 e8 e10 e11
      simp only [Bl.DepsE, List.getElem?_cons_succ, List.getElem?_cons_zero, Option.bind_some, List.getD_cons_succ, List.getD_cons_zero, Bl.eqv, and_true] at hd
      have hc := (Bl.bcell hext).1
      have Hcv := fun (v : Value) (m : List Int) (h : Bl.Rd w1 .u8 v m) => Bl.conv_bytes (P := Tryd.prog) (src := 23) (dst := 9) h Tryd.underlying23 Tryd.underlying5 Tryd.underlying9
      have c1 := Hcv16.out w1 hext
      try (first | have c2 := Hcv _ _ hd | have c2 := Hcv _ _ hd.1 | have c2 := Hcv _ _ hd.2 | have c2 := Hcv _ _ hd.2.1)
      clear Hcv
      simp only [Bl.Good, Region.wanted, Bl.yieldE, List.getElem?_cons_succ, List.getElem?_cons_zero, Option.bind_some, hd, beq_self_eq_true, if_true]
      go_simp
      first | (go_at_call 23; (with_reducible refine (HT1.out _ hext).mono ?_); rintro e w' ⟨v', rfl, h1, h2⟩; exact ⟨_, rfl, h2, h1⟩) | (go_at_call 23; (with_reducible refine (HT2.out _ hext).mono ?_); rintro e w' ⟨v', rfl, h1, h2⟩; exact ⟨_, rfl, h2, h1⟩) | (go_at_call 15; (with_reducible refine (HBt.out _ hext).mono ?_); rintro e w' ⟨v', rfl, h1, h2⟩; exact ⟨_, rfl, h2, h1⟩) | (go_at_call 13; (with_reducible refine (HAd.out _ _ hext hd).mono ?_); rintro e w' ⟨v', rfl, h1, h2⟩; exact ⟨_, rfl, h2, h1⟩) | (go_at_call 13; (with_reducible refine (HAd.out _ _ hext hd.1).mono ?_); rintro e w' ⟨v', rfl, h1, h2⟩; exact ⟨_, rfl, h2, h1⟩) | (go_at_call 13; (with_reducible refine (HAd.out _ _ hext hd.2).mono ?_); rintro e w' ⟨v', rfl, h1, h2⟩; exact ⟨_, rfl, h2, h1⟩) | (go_at_call 13; (with_reducible refine (HAd.out _ _ hext hd.2.1).mono ?_); rintro e w' ⟨v', rfl, h1, h2⟩; exact ⟨_, rfl, h2, h1⟩) | (go_at_call 16; (with_reducible refine (HSm.out _ _ _ hd.1 hd.2).mono ?_); rintro e w' ⟨rfl, h2⟩; exact ⟨_, rfl, h2, rfl⟩) | (go_at_call 16; (with_reducible refine (HSm.out _ _ _ hd.1 hd.2.1).mono ?_); rintro e w' ⟨rfl, h2⟩; exact ⟨_, rfl, h2, rfl⟩) | (go_at_call 16; (with_reducible refine (HSm.out _ _ _ hd.2.1 hd.2.2).mono ?_); rintro e w' ⟨rfl, h2⟩; exact ⟨_, rfl, h2, rfl⟩) | (go_at_call 16; (with_reducible refine (HSm.out _ _ _ hd.2.1 hd.1).mono ?_); rintro e w' ⟨rfl, h2⟩; exact ⟨_, rfl, h2, rfl⟩) | (go_at_call 16; (with_reducible refine (HSm.out _ _ _ hd.2 hd.1).mono ?_); rintro e w' ⟨rfl, h2⟩; exact ⟨_, rfl, h2, rfl⟩) | exact ⟨Below.refl _ _, rfl⟩
  case hmono => exact ⟨Bl.mono_eqv _, Bl.mono_eqv _, Bl.mono_eqv _, Bl.mono_eqv _, (fun _ _ _ h k => Bl.Rd.ext h k), (Bl.mono_eqv _), Bl.mono_eqv _, (Bl.mono_eqv _), (Bl.mono_eqv _), (Bl.mono_eqv _), (Bl.mono_eqv _), Bl.mono_eqv _, (fun _ _ _ h k => Bl.Rd.ext h k), Bl.mono_eqv _, (fun _ _ _ h k => Bl.Rd.ext h k), Bl.mono_eqv _, (fun _ _ _ h k => Bl.Rd.ext h k), (Bl.mono_eqv _), (Bl.mono_eqv _), trivial⟩
  case hend =>
    intro u w1 hext hend
    simp only [Bl.EndE, List.getElem?_cons_succ, List.getElem?_cons_zero, Option.bind_some, List.getD_cons_succ, List.getD_cons_zero, Bl.eqv, true_and] at hend
    simp only [Bl.fillAct, List.setIfInBounds_toArray, List.set_cons_succ, List.set_cons_zero, List.drop_succ_cons, List.drop_zero, hend]
    have HX := Bl.hid (HE5.out.trans (HE19.out.trans hext))
    clear hext hend
    go_wp2_with fail
    go_ret
    exact ⟨rfl, HX.out⟩

theorem numbers_all (va vb : Value) (a b : List Int) (S : List Nat) (ea : Nat → Addr) (w : World) (hS : ∀ i, 1 ≤ i → i ≤ 20 → i ∈ S) (He : Errs S ea w) (ha : Bl.Rd w .u8 va a) (hb : Bl.Rd w .u8 vb b) (hya : Bl.Byt a) (hyb : Bl.Byt b) :
    Calls Tryd.prog 8 #[va, vb] w fun e w' => e = .returned (.bool true) ∧ Bl.Ext w w' := by
  by_cases h1 : (24 : Int) < (a.length : Int) ∨ ((a.length : Int) ≤ 24 ∧ (24 : Int) < (b.length : Int))
  · exact numbers_skip va vb a b w ha hb h1
  · rcases Nat.lt_trichotomy (Bl.be a) (Bl.be b) with h | h | h
    · exact numbers_lt va vb a b S ea w hS He ha hb hya hyb (by omega) (by omega) h
    · exact numbers_eq va vb a b S ea w hS He ha hb hya hyb (by omega) (by omega) h
    · exact numbers_gt va vb a b S ea w hS He ha hb hya hyb (by omega) (by omega) h
end Go.Proofs.YtkndnmpdklidkaaDoor

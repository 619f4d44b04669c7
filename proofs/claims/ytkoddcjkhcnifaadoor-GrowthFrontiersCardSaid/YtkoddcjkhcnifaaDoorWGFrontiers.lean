/- Walk of the law GrowthFrontiers. -/
import Derived.Test.YtkoddcjkhcnifaaDoorWGroD
import Derived.Test.YtkoddcjkhcnifaaDoorWGro6
import Derived.Test.YtkoddcjkhcnifaaDoorWNumN
namespace Go.Proofs.YtkoddcjkhcnifaaDoor
open Go.RowKit Go.Proofs

set_option maxRecDepth 100000 in
/-- a frontier that is full -/
theorem gadd_full (b : Nat) (v vl : Value) (ds : List (List Int)) (w : World) (S : List Nat) (a : Nat → Addr) (hF : Bl.Fr w b v 1099511627776 ds) (he : Errs S a w) (h12 : 12 ∈ S) :
    Calls Tryd.prog 14 #[.pointer (some ⟨b, 0, none⟩), vl] w fun e w' => e = .returned (.iface 137 (.pointer (some (a 12)))) ∧ Bl.Ext w w' := by
  have hG : w.cell? ⟨2, 0, none⟩ = some (.iface 137 (.pointer (some (a 12)))) := he.cell 12 h12
  have hc0 : w.cell? ⟨b, 0, none⟩ = some (.int .i64 1099511627776) := hF.c0
  clear hF he
  go_enter Tryd.func14, Tryd.ntmps14
  go_wp2_with fail
  go_ret
  exact ⟨rfl, Below.refl _ _⟩

set_option maxRecDepth 100000 in
set_option maxHeartbeats 2000000 in
theorem gfront_all (n : Int) (v : Value) (ds : List (List Int)) (w : World) (S : List Nat) (a : Nat → Addr) (hR : Bl.RdD w v ds) (hd : Bl.Dig ds) (hg : GlobR w) (hS : ∀ i, 1 ≤ i → i ≤ 20 → i ∈ S) (he : Errs S a w) (hn1 : -9223372036854775808 ≤ n) (hn2 : n ≤ 9223372036854775807) :
    Calls Tryd.prog 4 #[.int .i64 n, v] w fun e w' => e = .returned (.bool true) ∧ Bl.Ext w w' := by
  obtain ⟨p, c, hvf, hvn, hvc⟩ := hR.form
  subst hvf
  unfold maxLen at hvc
  have HR := Bl.hid hR
  have Hd := Bl.hid hd
  have Hg := Bl.hid hg
  have He := Bl.hid he
  have HS := Bl.hid hS
  obtain ⟨L, hL⟩ : ∃ L, L = ds.length := ⟨_, rfl⟩
  rw [← hL] at hvn ⊢
  have HL := Bl.hid hL
  clear hR hd hg hS he hL
  go_enter Tryd.func4, Tryd.ntmps4
  go_wp2_with fail
  refine (alive14 w Hg.out).mono ?_
  rintro e w1 ⟨rfl, hE1⟩
  have HE1 := Bl.hid hE1
  have hD := digests13_any (.slice p L c) ds w1
  clear hE1
  by_cases h80 : (80 : Int) < (L : Int)
  · clear hD
    go_wp2_with fail
    go_ret
    exact ⟨rfl, HE1.out⟩
  have HDg := Bl.hid (hD (by have h := HR.out; rw [← HL.out] at h; exact Bl.Rds.ext h HE1.out) Hd.out (by rw [← HL.out]; omega))
  rw [← HL.out] at HDg
  clear hD
  go_wp2_with fail
  refine HDg.out.mono ?_
  rintro e w2 ⟨p2, c2, rfl, hown2, hE2⟩
  have HR2 : Hid (Bl.RdD w2 (.slice p2 L c2) ds) := Bl.hid (by show Bl.Rds w2 _ ds.length _; rw [← HL.out]; exact Bl.Rds.of_owns hown2)
  have HE2 := Bl.hid (HE1.out.trans hE2)
  clear hown2 hE2 HDg HE1
  by_cases hr : n < 0 ∨ 1099511627776 < n
  · have HO := Bl.hid (gof_range n (.slice p2 L c2) w2 S a (He.out.ext HE2.out) (HS.out 1 (by decide) (by decide)) hr)
    have HNm : Hid (∀ w2, Bl.Ext w w2 → Calls Tryd.prog 22 #[.iface 137 (.pointer (some (a 1)))] w2 fun e w' => e = .returned (.int .i64 1) ∧ Bl.Ext w2 w') := Bl.hid fun w2 h2 => num_any S a w2 1 HS.out (He.out.ext h2) (by decide) (by decide)
    go_wp2_with fail
    refine HO.out.mono ?_
    rintro e w3 ⟨rfl, hE3⟩
    have HE3 := Bl.hid (HE2.out.trans hE3)
    clear hE3 HO
    by_cases h0 : n < 0
    · clear hr
      go_wp2_with fail
      refine (HNm.out w3 HE3.out).mono ?_
      rintro e w4 ⟨rfl, hE4⟩
      have HE4 := Bl.hid (HE3.out.trans hE4)
      clear hE4
      go_wp2_with fail
      go_ret
      exact ⟨rfl, HE4.out⟩
    · have h1 : (1099511627776 : Int) < n := by omega
      clear hr
      go_wp2_with fail
      refine (HNm.out w3 HE3.out).mono ?_
      rintro e w4 ⟨rfl, hE4⟩
      have HE4 := Bl.hid (HE3.out.trans hE4)
      clear hE4
      go_wp2_with fail
      go_ret
      exact ⟨rfl, HE4.out⟩
  · obtain ⟨N, rfl⟩ := Int.eq_ofNat_of_zero_le (a := n) (by omega)
    have k1 : ¬ ((N : Int) < 0) := by omega
    have k2 : ¬ ((1099511627776 : Int) < (N : Int)) := by omega
    have hN : N ≤ 1099511627776 := by omega
    have hob := Bl.ones_lt 41 N (by omega)
    obtain ⟨O, hO⟩ : ∃ O, O = Bl.ones N := ⟨_, rfl⟩
    rw [← hO] at hob
    have HO := Bl.hid hO
    clear hr hn1 hn2 hO
    by_cases hlo : L = O
    · subst hlo
      have HOf := Bl.hid (gof_ok N (.slice p2 L c2) ds w2 HR2.out Hd.out hN (by rw [← HL.out, HO.out]))
      go_wp2_with fail
      refine HOf.out.mono ?_
      rintro e w3 ⟨b, v3, rfl, hb3, hv3, hF3, hE3⟩
      have HF3 := Bl.hid hF3
      have HE3 := Bl.hid (HE2.out.trans hE3)
      have Hb3 : Hid (w.heap.size ≤ b) := Bl.hid (Nat.le_trans HE2.out.size hb3)
      have Hv3 : Hid (∀ k, v3.ownBlock = some k → w.heap.size ≤ k) := Bl.hid fun k hk => Nat.le_trans HE2.out.size (hv3 k hk)
      clear hb3 hv3 hF3 hE3 HOf
      go_wp2_with fail
      go_loopw [7, 8] (fun o' q' wr => ∃ o q : Nat, o' = .int .i64 o ∧ q' = .int .i64 q ∧ q ≤ 1099511627776 ∧ o ≤ 41 ∧ Hid (o + Bl.ones q = L) ∧ w3 = wr) (fun _ q' _ => (intOf q').toNat)
      case atStart => exact ⟨0, N, rfl, rfl, hN, by omega, Bl.hid (by rw [Nat.zero_add, HO.out]), rfl⟩
      case round =>
        obtain ⟨o, q, rfl, rfl, hq, ho, HQ, hwr⟩ := hrel
        subst hwr
        by_cases hq0 : 0 < q
        · have hq1 : (0 : Int) < (q : Int) := by omega
          have HQ2 : Hid (o + q % 2 + Bl.ones (q / 2) = L) := Bl.hid (by have h := HQ.out; rw [Bl.ones_half q] at h; omega)
          have ho2 : o + q % 2 ≤ 41 := by have := HQ2.out; omega
          have e1 : IntKind.i64.wrap ((o : Int) + (q : Int) % 2) = (o : Int) + (q : Int) % 2 := IntWalk.i64_in _ (by omega)
          have e2 : IntKind.i64.wrap ((q : Int) / 2) = (q : Int) / 2 := IntWalk.i64_in _ (by omega)
          clear HQ
          go_wp2_with fail
          go_roundw
          case rel => exact ⟨o + q % 2, q / 2, by go_num, by go_num, by omega, ho2, HQ2.out, trivial⟩
          case measure => simp [intOf]; omega
        · obtain rfl : q = 0 := by omega
          have hOO : L = o := by have h := HQ.out; rw [Bl.ones_zero] at h; omega
          have HSz := Bl.hid (gsize_any b v3 N ds w3 HF3.out)
          have HPk := Bl.hid (gpeaks_any b v3 N ds w3 HF3.out (by rw [← HL.out]; omega))
          subst hOO
          clear HQ
          go_wp2_with fail
          refine HSz.out.mono ?_
          rintro e w4 ⟨rfl, hw4⟩
          subst hw4
          go_wp2_with fail
          refine HPk.out.mono ?_
          rintro e w5 ⟨v5, rfl, hown5, hE5⟩
          have HR5 : Hid (Bl.RdD w5 v5 ds) := Bl.hid (Bl.Rds.of_owns hown5)
          have HF5 := Bl.hid (HF3.out.ext hE5)
          have HE5 := Bl.hid (HE3.out.trans hE5)
          have HRp := Bl.hid (Bl.Rds.ext HR.out HE5.out)
          clear hown5 hE5 HSz HPk
          go_wp2_with fail
          refine (same14_any v5 (.slice p L c) ds ds w5 HR5.out (by have h := HRp.out; rw [← HL.out] at h; show Bl.Rds w5 _ ds.length _; rw [← HL.out]; exact h) Hd.out Hd.out).mono ?_
          rintro e w6 ⟨rfl, hE6⟩
          rw [decide_eq_true rfl]
          have HF6 := Bl.hid (HF5.out.ext hE6)
          have HE6 := Bl.hid (HE5.out.trans hE6)
          clear hE6 HR5 HRp
          by_cases hfull : N = 1099511627776
          · subst hfull
            have HAd := Bl.hid (gadd_full b v3 (.slice none 0 0) ds w6 S a HF6.out (He.out.ext HE6.out) (HS.out 12 (by decide) (by decide)))
            have HNm : Hid (∀ w2, Bl.Ext w w2 → Calls Tryd.prog 22 #[.iface 137 (.pointer (some (a 12)))] w2 fun e w' => e = .returned (.int .i64 12) ∧ Bl.Ext w2 w') := Bl.hid fun w2 h2 => num_any S a w2 12 HS.out (He.out.ext h2) (by decide) (by decide)
            go_wp2_with fail
            refine HAd.out.mono ?_
            rintro e w7 ⟨rfl, hE7⟩
            have HF7 := Bl.hid (HF6.out.ext hE7)
            have HE7 := Bl.hid (HE6.out.trans hE7)
            clear hE7
            go_wp2_with fail
            refine (HNm.out w7 HE7.out).mono ?_
            rintro e w8 ⟨rfl, hE8⟩
            have HF8 := Bl.hid (HF7.out.ext hE8)
            have HE8 := Bl.hid (HE7.out.trans hE8)
            clear hE8
            go_wp2_with fail
            refine (gsize_any b v3 _ ds w8 HF8.out).mono ?_
            rintro e w9 ⟨rfl, hw9⟩
            subst hw9
            go_wp2_with fail
            go_ret
            exact ⟨rfl, HE8.out⟩
          · have hlt : N < 1099511627776 := by omega
            have htr := Bl.trail_ones_le N N (Nat.le_refl _)
            have HAd := Bl.hid (gadd_any b v3 (.slice none 0 0) N ds [] w w6 HF6.out hlt (by rw [← HL.out, HO.out]; exact htr) (by rw [← HL.out]; omega) (Bl.Rd.nil _ _) Bl.Byt.nil (by decide) Hg.out.s HE6.out Hb3.out Hv3.out)
            have hfe : ((N : Int) == 1099511627776) = false := by rw [beq_eq_false_iff_ne]; omega
            go_wp2_with fail
            refine HAd.out.mono ?_
            rintro e w7 ⟨rfl, v7, hF7, hv7, hA7⟩
            have HF7 := Bl.hid hF7
            have HE7 : Hid (Bl.Ext w w7) := Bl.hid (Below.trans HE6.out (hA7.below HE6.out.size Hb3.out Hv3.out))
            clear hF7 hv7 hA7 HAd htr
            go_wp2_with fail
            refine (num_nil w7).mono ?_
            rintro e w8 ⟨rfl, hw8⟩
            subst hw8
            go_wp2_with fail
            refine (gsize_any b v7 _ _ _ HF7.out).mono ?_
            rintro e w9 ⟨rfl, hw9⟩
            subst hw9
            have hw1 := IntWalk.wrap64_in ((N : Int) + 1) ⟨by omega, by omega⟩
            go_wp2_with fail
            go_ret
            exact ⟨rfl, HE7.out⟩
    · have HOf := Bl.hid (gof_size N (.slice p2 L c2) ds w2 S a HR2.out (He.out.ext HE2.out) (HS.out 8 (by decide) (by decide)) hN (by rw [← HL.out, ← HO.out]; exact hlo))
      have HNm : Hid (∀ w2, Bl.Ext w w2 → Calls Tryd.prog 22 #[.iface 137 (.pointer (some (a 8)))] w2 fun e w' => e = .returned (.int .i64 8) ∧ Bl.Ext w2 w') := Bl.hid fun w2 h2 => num_any S a w2 8 HS.out (He.out.ext h2) (by decide) (by decide)
      go_wp2_with fail
      refine HOf.out.mono ?_
      rintro e w3 ⟨rfl, hE3⟩
      have HE3 := Bl.hid (HE2.out.trans hE3)
      clear hE3 HOf
      go_wp2_with fail
      go_loopw [7, 8] (fun o' q' wr => ∃ o q : Nat, o' = .int .i64 o ∧ q' = .int .i64 q ∧ q ≤ 1099511627776 ∧ o ≤ 41 ∧ Hid (o + Bl.ones q = O) ∧ w3 = wr) (fun _ q' _ => (intOf q').toNat)
      case atStart => exact ⟨0, N, rfl, rfl, hN, by omega, Bl.hid (by rw [Nat.zero_add, HO.out]), rfl⟩
      case round =>
        obtain ⟨o, q, rfl, rfl, hq, ho, HQ, hwr⟩ := hrel
        subst hwr
        by_cases hq0 : 0 < q
        · have hq1 : (0 : Int) < (q : Int) := by omega
          have HQ2 : Hid (o + q % 2 + Bl.ones (q / 2) = O) := Bl.hid (by have h := HQ.out; rw [Bl.ones_half q] at h; omega)
          have ho2 : o + q % 2 ≤ 41 := by have := HQ2.out; omega
          have e1 : IntKind.i64.wrap ((o : Int) + (q : Int) % 2) = (o : Int) + (q : Int) % 2 := IntWalk.i64_in _ (by omega)
          have e2 : IntKind.i64.wrap ((q : Int) / 2) = (q : Int) / 2 := IntWalk.i64_in _ (by omega)
          clear HQ
          go_wp2_with fail
          go_roundw
          case rel => exact ⟨o + q % 2, q / 2, by go_num, by go_num, by omega, ho2, HQ2.out, trivial⟩
          case measure => simp [intOf]; omega
        · obtain rfl : q = 0 := by omega
          have hOO : O = o := by have h := HQ.out; rw [Bl.ones_zero] at h; omega
          subst hOO
          have hne : ((O : Int) == (L : Int)) = false := by rw [beq_eq_false_iff_ne]; omega
          clear HQ
          go_wp2_with fail
          refine (HNm.out w3 HE3.out).mono ?_
          rintro e w4 ⟨rfl, hE4⟩
          have HE4 := Bl.hid (HE3.out.trans hE4)
          clear hE4
          go_wp2_with fail
          go_ret
          exact ⟨rfl, HE4.out⟩
end Go.Proofs.YtkoddcjkhcnifaaDoor

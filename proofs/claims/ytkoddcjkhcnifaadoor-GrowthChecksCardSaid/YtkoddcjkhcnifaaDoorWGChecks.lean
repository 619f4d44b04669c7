/- Walk of the law GrowthChecks. -/
import Derived.Test.YtkoddcjkhcnifaaDoorWGroB
import Derived.Test.YtkoddcjkhcnifaaDoorGwc
import Derived.Test.YtkoddcjkhcnifaaDoorWGroD
import Derived.Test.YtkoddcjkhcnifaaDoorWNumN
import Derived.Test.YtkoddcjkhcnifaaDoorWDig13
import Derived.Test.YtkoddcjkhcnifaaDoorGak
namespace Go.Proofs.Bl
theorem chkG_le (m n : Int) (old now : List Int) (p : List (List Int)) : chkG m n old now p ≤ 20 := by
  unfold chkG; split
  · split
    · split <;> decide
    · decide
  · decide
end Go.Proofs.Bl
namespace Go.Proofs.YtkoddcjkhcnifaaDoor
open Go.RowKit Go.Proofs

set_option maxRecDepth 100000 in
set_option maxHeartbeats 2000000 in
theorem gchecks_all (cs : List Value) (m n : Int) (old now : List Int) (vp : Value) (p : List (List Int)) (w : World) (S : List Nat) (a : Nat → Addr) (hA : Bl.AskGC cs m n old now vp) (bo : Bl.Byt old) (hp : Bl.RdD w vp p) (hdp : Bl.Dig p) (hg : GlobR w) (hS : ∀ i, 1 ≤ i → i ≤ 20 → i ∈ S) (he : Errs S a w) :
    Calls Tryd.prog 6 #[.agg cs.toArray] w fun e w' => e = .returned (.bool true) ∧ Bl.Ext w w' := by
  obtain ⟨pp, cp, hvpf, hvpn, hvpc⟩ := hp.form
  subst hvpf
  unfold maxLen at hvpc
  have HRC : Hid (∀ w2, Bl.Ext w w2 → Calls Tryd.prog 27 #[.int .i64 m, .agg (Bl.ints .u8 old).toArray, .int .i64 n, .agg (Bl.ints .u8 now).toArray, .slice pp p.length cp] w2 fun e w' => e = .returned (.int .i64 (Bl.chkG m n old now p)) ∧ Bl.Ext w2 w') := Bl.hid fun w2 h2 =>
    refgcheck_any m n old now _ p w2 hA.lo bo hA.ln (Bl.Rds.ext hp h2) hdp (hg.ext h2)
  have HGC : Hid (∀ w2 vd, Bl.Ext w w2 → Bl.RdD w2 vd p → Calls Tryd.prog 23 #[.int .i64 m, .agg (Bl.ints .u8 old).toArray, .int .i64 n, .agg (Bl.ints .u8 now).toArray, vd] w2 fun e w' => e = .returned (errN a (Bl.chkG m n old now p)) ∧ Bl.Ext w2 w') := Bl.hid fun w2 vd h2 h3 =>
    gcheck_any m n old now vd p w2 S a (he.ext h2) (hS 1 (by decide) (by decide)) (hS 8 (by decide) (by decide)) (hS 15 (by decide) (by decide)) hA.lo bo hA.ln h3 hdp (hg.ext h2).s
  have HNm : Hid (∀ w2, Bl.Ext w w2 → Calls Tryd.prog 22 #[errN a (Bl.chkG m n old now p)] w2 fun e w' => e = .returned (.int .i64 (Bl.chkG m n old now p)) ∧ Bl.Ext w2 w') := Bl.hid fun w2 h2 =>
    num_errN S a w2 _ hS (he.ext h2) (Bl.chkG_le _ _ _ _ _)
  have HDg : Hid (p.length ≤ 40 → ∀ w2, Bl.Ext w w2 → Calls Tryd.prog 21 #[.slice pp p.length cp] w2 fun e w' => ∃ v, e = .returned v ∧ Bl.RdD w' v p ∧ Bl.Ext w2 w') := Bl.hid fun h40 w2 h2 =>
    (digests13_any _ p w2 (Bl.Rds.ext hp h2) hdp (by omega)).mono fun e w' ⟨p', c', h1, h3, h4⟩ => ⟨_, h1, Bl.Rds.of_owns h3, h4⟩
  have HCn := Bl.hid (fun w2 => gcount_any m n w2)
  have HCr : Hid (1 ≤ m → m ≤ n → n ≤ 512 → ∀ w2, Calls Tryd.prog 25 #[.int .i64 m, .int .i64 n, .bool true] w2 fun e w' => e = .returned (.int .i64 (Bl.cntI m n)) ∧ w2 = w') := Bl.hid fun h1 h2 h3 w2 => by
    obtain ⟨x, rfl⟩ := Int.eq_ofNat_of_zero_le (a := m) (by omega)
    obtain ⟨y, rfl⟩ := Int.eq_ofNat_of_zero_le (a := n) (by omega)
    rw [Bl.cntI_yes (by omega) (by omega) (by omega)]
    exact refgcount_nat y x true w2 (by omega) (by omega) (by omega)
  have HCi : Hid (¬ (1 ≤ m ∧ m ≤ n ∧ n ≤ 512) → Bl.cntI m n = -1) := Bl.hid fun h => Bl.cntI_no (Bl.thereG_no h)
  obtain ⟨K, hK⟩ : ∃ K, K = Bl.chkG m n old now p := ⟨_, rfl⟩
  rw [← hK] at HRC HGC HNm
  obtain ⟨C, hC⟩ : ∃ C, C = Bl.cntI m n := ⟨_, rfl⟩
  rw [← hC] at HCn HCr HCi
  have HA0 := Bl.hid (hA.at' w 49)
  have HE0 := Bl.hid (Bl.ext_alloc w (.cells cs.toArray 49))
  have Hg := Bl.hid hg
  clear hA bo hp hdp hg hS he hK hC
  go_enter Tryd.func6, Tryd.ntmps6
  go_wp2_with fail
  generalize w.alloc (.cells cs.toArray 49) = W0 at HA0 HE0 ⊢
  refine (alive14 W0 (Hg.out.ext HE0.out)).mono ?_
  rintro e w1 ⟨rfl, hE1⟩
  have HA1 := Bl.hid (HA0.out.ext hE1)
  have HE1 := Bl.hid (HE0.out.trans hE1)
  clear hE1 HA0 HE0
  have q0 := HA1.out.qm
  have q1 := HA1.out.qn
  have q5 := HA1.out.pr
  by_cases hp40 : (40 : Int) < (p.length : Int)
  · go_wp2_with fail
    go_ret
    exact ⟨rfl, HE1.out⟩
  have Hp40 : Hid (p.length ≤ 40) := Bl.hid (by omega)
  have hB := HA1.out.lt
  have HLo : Hid (∀ w2, Bl.Ext w1 w2 → (Instr.loadAt 40 (.pointer (some ⟨w.heap.size, 2, none⟩))).run Tryd.prog w2 = .ok (.agg (Bl.ints .u8 old).toArray) w2) := Bl.hid fun w2 h2 => (HA1.out.ext h2).loadO Tryd.underlying40 (by kernel_rfl)
  have HLn : Hid (∀ w2, Bl.Ext w1 w2 → (Instr.loadAt 40 (.pointer (some ⟨w.heap.size, 34, none⟩))).run Tryd.prog w2 = .ok (.agg (Bl.ints .u8 now).toArray) w2) := Bl.hid fun w2 h2 => (HA1.out.ext h2).loadN Tryd.underlying40 (by kernel_rfl)
  by_cases h : 1 ≤ m ∧ m ≤ n ∧ n ≤ 512
  · obtain ⟨h1, h2, h3⟩ := h
    have HC2 := Bl.hid (HCr.out h1 h2 h3)
    clear HCr HCi
    go_wp2_with fail
    refine (HC2.out w1).mono ?_
    rintro e w2 ⟨rfl, hw2⟩
    subst hw2
    go_wp2_with fail
    apply Bl.wp_region_ev 34 [30, 31, 32, 33, 34, 35, 36, 37, 38, 39, 40, 41, 42, 43, 44, 45, 46, 47, 48, 49, 50, 51, 52, 53, 54, 55, 56, 57, 58, 59, 60, 61, 62, 63] [Bl.eqv _, Bl.eqv _, Bl.eqv _, Bl.eqv _, Bl.eqv _, Bl.eqv _, Bl.eqv _, Bl.eqv _, Bl.eqv _, Bl.eqv _, Bl.eqv _, Bl.eqv _, Bl.eqv _, Bl.eqv _, Bl.eqv _, Bl.eqv _, Bl.eqv _, Bl.eqv _, (fun v w' => Bl.RdD w' v p), Bl.eqv _, Bl.eqv _, Bl.eqv _, Bl.eqv _, Bl.eqv _, Bl.eqv _, Bl.eqv _, Bl.eqv _, Bl.eqv _, Bl.eqv _, Bl.eqv _, Bl.eqv _, Bl.eqv _, Bl.eqv _, Bl.eqv _] (by kernel_rfl) (by kernel_rfl) (by kernel_rfl) (by kernel_rfl)
    case hsteps =>
      refine ⟨?_, ?_, ?_, ?_, ?_, ?_, ?_, ?_, ?_, ?_, ?_, ?_, ?_, ?_, ?_, ?_, ?_, ?_, ?_, ?_, ?_, ?_, ?_, ?_, ?_, ?_, ?_, ?_, ?_, ?_, ?_, ?_, ?_, ?_, trivial⟩
      all_goals
        intro ev w1 hext hb hd
        have e1 := hb 1 (by decide)
        have e3 := hb 3 (by decide)
        clear hb
        simp only [Array.getD_eq_getD_getElem?, List.getElem?_toArray, List.getElem?_cons_succ, List.getElem?_cons_zero, Option.getD_some] at e1 e3
        simp only [Bl.DepsE, List.getElem?_cons_succ, List.getElem?_cons_zero, Option.bind_some, List.getD_cons_succ, List.getD_cons_zero, Bl.eqv, and_true] at hd
        have hc := (Bl.bcell hext).1
        have r0 := (hc _ 0 hB).trans q0
        have r1 := (hc _ 1 hB).trans q1
        have r5 := (hc _ 66 hB).trans q5
        simp only [Bl.Good, Region.wanted, Bl.yieldE, List.getElem?_cons_succ, List.getElem?_cons_zero, Option.bind_some, hd, beq_self_eq_true, if_true]
        first
        | ((with_reducible refine Bl.goodR_load ?_ (HLo.out _ hext) ?_); (first | exact hd | exact hd.1); exact rfl) | ((with_reducible refine Bl.goodR_load ?_ (HLn.out _ hext) ?_); (first | exact hd | exact hd.1); exact rfl)
        | (go_simp; first | (go_at_call 26; (with_reducible refine (HCn.out _).mono ?_); rintro e w2 ⟨rfl, hE2⟩; exact ⟨_, rfl, hE2, rfl⟩) | (go_at_call 21; (with_reducible refine (HDg.out Hp40.out _ (HE1.out.trans hext)).mono ?_); rintro e w2 ⟨v2, rfl, hR2, hE2⟩; exact ⟨_, rfl, hE2, hR2⟩) | (go_at_call 23; (with_reducible refine (HGC.out _ _ (HE1.out.trans hext) ?_).mono ?_); (first | exact hd.2.2.2.2.1 | exact hd.2.2.2.2.2.1); rintro e w2 ⟨rfl, hE2⟩; exact ⟨_, rfl, hE2, rfl⟩) | (go_at_call 22; (with_reducible refine (HNm.out _ (HE1.out.trans hext)).mono ?_); rintro e w2 ⟨rfl, hE2⟩; exact ⟨_, rfl, hE2, rfl⟩) | (go_at_call 27; (with_reducible refine (HRC.out _ (HE1.out.trans hext)).mono ?_); rintro e w2 ⟨rfl, hE2⟩; exact ⟨_, rfl, hE2, rfl⟩) | exact rfl | exact ⟨Below.refl _ _, rfl⟩ | exact ⟨Below.refl _ _, rfl⟩)
    case hmono => exact ⟨Bl.mono_eqv _, Bl.mono_eqv _, Bl.mono_eqv _, Bl.mono_eqv _, Bl.mono_eqv _, Bl.mono_eqv _, Bl.mono_eqv _, Bl.mono_eqv _, Bl.mono_eqv _, Bl.mono_eqv _, Bl.mono_eqv _, Bl.mono_eqv _, Bl.mono_eqv _, Bl.mono_eqv _, Bl.mono_eqv _, Bl.mono_eqv _, Bl.mono_eqv _, Bl.mono_eqv _, (fun _ _ _ h k => Bl.Rds.ext h k), Bl.mono_eqv _, Bl.mono_eqv _, Bl.mono_eqv _, Bl.mono_eqv _, Bl.mono_eqv _, Bl.mono_eqv _, Bl.mono_eqv _, Bl.mono_eqv _, Bl.mono_eqv _, Bl.mono_eqv _, Bl.mono_eqv _, Bl.mono_eqv _, Bl.mono_eqv _, Bl.mono_eqv _, Bl.mono_eqv _, trivial⟩
    case hend =>
      intro u w1 hext hend
      simp only [Bl.EndE, List.getElem?_cons_succ, List.getElem?_cons_zero, Option.bind_some, List.getD_cons_succ, List.getD_cons_zero, Bl.eqv, true_and] at hend
      simp only [Bl.fillAct, List.setIfInBounds_toArray, List.set_cons_succ, List.set_cons_zero, List.drop_succ_cons, List.drop_zero, hend]
      have HE9 := Bl.hid (HE1.out.trans hext)
      clear hext hend
      go_wp2_with fail
      go_ret
      exact ⟨rfl, HE9.out⟩
  · have hC1 := HCi.out h
    clear HCr HCi
    subst hC1
    by_cases h1 : 1 ≤ m
    · by_cases h2 : m ≤ n
      · have h3 : ¬ (n ≤ 512) := fun h3 => h ⟨h1, h2, h3⟩
        clear h
        go_wp2_with fail
        apply Bl.wp_region_ev 34 [30, 31, 32, 33, 34, 35, 36, 37, 38, 39, 40, 41, 42, 43, 44, 45, 46, 47, 48, 49, 50, 51, 52, 53, 54, 55, 56, 57, 58, 59, 60, 61, 62, 63] [Bl.eqv _, Bl.eqv _, Bl.eqv _, Bl.eqv _, Bl.eqv _, Bl.eqv _, Bl.eqv _, Bl.eqv _, Bl.eqv _, Bl.eqv _, Bl.eqv _, Bl.eqv _, Bl.eqv _, Bl.eqv _, Bl.eqv _, Bl.eqv _, Bl.eqv _, Bl.eqv _, (fun v w' => Bl.RdD w' v p), Bl.eqv _, Bl.eqv _, Bl.eqv _, Bl.eqv _, Bl.eqv _, Bl.eqv _, Bl.eqv _, Bl.eqv _, Bl.eqv _, Bl.eqv _, Bl.eqv _, Bl.eqv _, Bl.eqv _, Bl.eqv _, Bl.eqv _] (by kernel_rfl) (by kernel_rfl) (by kernel_rfl) (by kernel_rfl)
        case hsteps =>
          refine ⟨?_, ?_, ?_, ?_, ?_, ?_, ?_, ?_, ?_, ?_, ?_, ?_, ?_, ?_, ?_, ?_, ?_, ?_, ?_, ?_, ?_, ?_, ?_, ?_, ?_, ?_, ?_, ?_, ?_, ?_, ?_, ?_, ?_, ?_, trivial⟩
          all_goals
            intro ev w1 hext hb hd
            have e1 := hb 1 (by decide)
            have e3 := hb 3 (by decide)
            clear hb
            simp only [Array.getD_eq_getD_getElem?, List.getElem?_toArray, List.getElem?_cons_succ, List.getElem?_cons_zero, Option.getD_some] at e1 e3
            simp only [Bl.DepsE, List.getElem?_cons_succ, List.getElem?_cons_zero, Option.bind_some, List.getD_cons_succ, List.getD_cons_zero, Bl.eqv, and_true] at hd
            have hc := (Bl.bcell hext).1
            have r0 := (hc _ 0 hB).trans q0
            have r1 := (hc _ 1 hB).trans q1
            have r5 := (hc _ 66 hB).trans q5
            simp only [Bl.Good, Region.wanted, Bl.yieldE, List.getElem?_cons_succ, List.getElem?_cons_zero, Option.bind_some, hd, beq_self_eq_true, if_true]
            first
            | ((with_reducible refine Bl.goodR_load ?_ (HLo.out _ hext) ?_); (first | exact hd | exact hd.1); exact rfl) | ((with_reducible refine Bl.goodR_load ?_ (HLn.out _ hext) ?_); (first | exact hd | exact hd.1); exact rfl)
            | (go_simp; first | (go_at_call 26; (with_reducible refine (HCn.out _).mono ?_); rintro e w2 ⟨rfl, hE2⟩; exact ⟨_, rfl, hE2, rfl⟩) | (go_at_call 21; (with_reducible refine (HDg.out Hp40.out _ (HE1.out.trans hext)).mono ?_); rintro e w2 ⟨v2, rfl, hR2, hE2⟩; exact ⟨_, rfl, hE2, hR2⟩) | (go_at_call 23; (with_reducible refine (HGC.out _ _ (HE1.out.trans hext) ?_).mono ?_); (first | exact hd.2.2.2.2.1 | exact hd.2.2.2.2.2.1); rintro e w2 ⟨rfl, hE2⟩; exact ⟨_, rfl, hE2, rfl⟩) | (go_at_call 22; (with_reducible refine (HNm.out _ (HE1.out.trans hext)).mono ?_); rintro e w2 ⟨rfl, hE2⟩; exact ⟨_, rfl, hE2, rfl⟩) | (go_at_call 27; (with_reducible refine (HRC.out _ (HE1.out.trans hext)).mono ?_); rintro e w2 ⟨rfl, hE2⟩; exact ⟨_, rfl, hE2, rfl⟩) | exact rfl | exact ⟨Below.refl _ _, rfl⟩ | exact ⟨Below.refl _ _, rfl⟩)
        case hmono => exact ⟨Bl.mono_eqv _, Bl.mono_eqv _, Bl.mono_eqv _, Bl.mono_eqv _, Bl.mono_eqv _, Bl.mono_eqv _, Bl.mono_eqv _, Bl.mono_eqv _, Bl.mono_eqv _, Bl.mono_eqv _, Bl.mono_eqv _, Bl.mono_eqv _, Bl.mono_eqv _, Bl.mono_eqv _, Bl.mono_eqv _, Bl.mono_eqv _, Bl.mono_eqv _, Bl.mono_eqv _, (fun _ _ _ h k => Bl.Rds.ext h k), Bl.mono_eqv _, Bl.mono_eqv _, Bl.mono_eqv _, Bl.mono_eqv _, Bl.mono_eqv _, Bl.mono_eqv _, Bl.mono_eqv _, Bl.mono_eqv _, Bl.mono_eqv _, Bl.mono_eqv _, Bl.mono_eqv _, Bl.mono_eqv _, Bl.mono_eqv _, Bl.mono_eqv _, Bl.mono_eqv _, trivial⟩
        case hend =>
          intro u w1 hext hend
          simp only [Bl.EndE, List.getElem?_cons_succ, List.getElem?_cons_zero, Option.bind_some, List.getD_cons_succ, List.getD_cons_zero, Bl.eqv, true_and] at hend
          simp only [Bl.fillAct, List.setIfInBounds_toArray, List.set_cons_succ, List.set_cons_zero, List.drop_succ_cons, List.drop_zero, hend]
          have HE9 := Bl.hid (HE1.out.trans hext)
          clear hext hend
          go_wp2_with fail
          go_ret
          exact ⟨rfl, HE9.out⟩
      · clear h
        go_wp2_with fail
        apply Bl.wp_region_ev 34 [30, 31, 32, 33, 34, 35, 36, 37, 38, 39, 40, 41, 42, 43, 44, 45, 46, 47, 48, 49, 50, 51, 52, 53, 54, 55, 56, 57, 58, 59, 60, 61, 62, 63] [Bl.eqv _, Bl.eqv _, Bl.eqv _, Bl.eqv _, Bl.eqv _, Bl.eqv _, Bl.eqv _, Bl.eqv _, Bl.eqv _, Bl.eqv _, Bl.eqv _, Bl.eqv _, Bl.eqv _, Bl.eqv _, Bl.eqv _, Bl.eqv _, Bl.eqv _, Bl.eqv _, (fun v w' => Bl.RdD w' v p), Bl.eqv _, Bl.eqv _, Bl.eqv _, Bl.eqv _, Bl.eqv _, Bl.eqv _, Bl.eqv _, Bl.eqv _, Bl.eqv _, Bl.eqv _, Bl.eqv _, Bl.eqv _, Bl.eqv _, Bl.eqv _, Bl.eqv _] (by kernel_rfl) (by kernel_rfl) (by kernel_rfl) (by kernel_rfl)
        case hsteps =>
          refine ⟨?_, ?_, ?_, ?_, ?_, ?_, ?_, ?_, ?_, ?_, ?_, ?_, ?_, ?_, ?_, ?_, ?_, ?_, ?_, ?_, ?_, ?_, ?_, ?_, ?_, ?_, ?_, ?_, ?_, ?_, ?_, ?_, ?_, ?_, trivial⟩
          all_goals
            intro ev w1 hext hb hd
            have e1 := hb 1 (by decide)
            have e3 := hb 3 (by decide)
            clear hb
            simp only [Array.getD_eq_getD_getElem?, List.getElem?_toArray, List.getElem?_cons_succ, List.getElem?_cons_zero, Option.getD_some] at e1 e3
            simp only [Bl.DepsE, List.getElem?_cons_succ, List.getElem?_cons_zero, Option.bind_some, List.getD_cons_succ, List.getD_cons_zero, Bl.eqv, and_true] at hd
            have hc := (Bl.bcell hext).1
            have r0 := (hc _ 0 hB).trans q0
            have r1 := (hc _ 1 hB).trans q1
            have r5 := (hc _ 66 hB).trans q5
            simp only [Bl.Good, Region.wanted, Bl.yieldE, List.getElem?_cons_succ, List.getElem?_cons_zero, Option.bind_some, hd, beq_self_eq_true, if_true]
            first
            | ((with_reducible refine Bl.goodR_load ?_ (HLo.out _ hext) ?_); (first | exact hd | exact hd.1); exact rfl) | ((with_reducible refine Bl.goodR_load ?_ (HLn.out _ hext) ?_); (first | exact hd | exact hd.1); exact rfl)
            | (go_simp; first | (go_at_call 26; (with_reducible refine (HCn.out _).mono ?_); rintro e w2 ⟨rfl, hE2⟩; exact ⟨_, rfl, hE2, rfl⟩) | (go_at_call 21; (with_reducible refine (HDg.out Hp40.out _ (HE1.out.trans hext)).mono ?_); rintro e w2 ⟨v2, rfl, hR2, hE2⟩; exact ⟨_, rfl, hE2, hR2⟩) | (go_at_call 23; (with_reducible refine (HGC.out _ _ (HE1.out.trans hext) ?_).mono ?_); (first | exact hd.2.2.2.2.1 | exact hd.2.2.2.2.2.1); rintro e w2 ⟨rfl, hE2⟩; exact ⟨_, rfl, hE2, rfl⟩) | (go_at_call 22; (with_reducible refine (HNm.out _ (HE1.out.trans hext)).mono ?_); rintro e w2 ⟨rfl, hE2⟩; exact ⟨_, rfl, hE2, rfl⟩) | (go_at_call 27; (with_reducible refine (HRC.out _ (HE1.out.trans hext)).mono ?_); rintro e w2 ⟨rfl, hE2⟩; exact ⟨_, rfl, hE2, rfl⟩) | exact rfl | exact ⟨Below.refl _ _, rfl⟩ | exact ⟨Below.refl _ _, rfl⟩)
        case hmono => exact ⟨Bl.mono_eqv _, Bl.mono_eqv _, Bl.mono_eqv _, Bl.mono_eqv _, Bl.mono_eqv _, Bl.mono_eqv _, Bl.mono_eqv _, Bl.mono_eqv _, Bl.mono_eqv _, Bl.mono_eqv _, Bl.mono_eqv _, Bl.mono_eqv _, Bl.mono_eqv _, Bl.mono_eqv _, Bl.mono_eqv _, Bl.mono_eqv _, Bl.mono_eqv _, Bl.mono_eqv _, (fun _ _ _ h k => Bl.Rds.ext h k), Bl.mono_eqv _, Bl.mono_eqv _, Bl.mono_eqv _, Bl.mono_eqv _, Bl.mono_eqv _, Bl.mono_eqv _, Bl.mono_eqv _, Bl.mono_eqv _, Bl.mono_eqv _, Bl.mono_eqv _, Bl.mono_eqv _, Bl.mono_eqv _, Bl.mono_eqv _, Bl.mono_eqv _, Bl.mono_eqv _, trivial⟩
        case hend =>
          intro u w1 hext hend
          simp only [Bl.EndE, List.getElem?_cons_succ, List.getElem?_cons_zero, Option.bind_some, List.getD_cons_succ, List.getD_cons_zero, Bl.eqv, true_and] at hend
          simp only [Bl.fillAct, List.setIfInBounds_toArray, List.set_cons_succ, List.set_cons_zero, List.drop_succ_cons, List.drop_zero, hend]
          have HE9 := Bl.hid (HE1.out.trans hext)
          clear hext hend
          go_wp2_with fail
          go_ret
          exact ⟨rfl, HE9.out⟩
    · clear h
      go_wp2_with fail
      apply Bl.wp_region_ev 34 [30, 31, 32, 33, 34, 35, 36, 37, 38, 39, 40, 41, 42, 43, 44, 45, 46, 47, 48, 49, 50, 51, 52, 53, 54, 55, 56, 57, 58, 59, 60, 61, 62, 63] [Bl.eqv _, Bl.eqv _, Bl.eqv _, Bl.eqv _, Bl.eqv _, Bl.eqv _, Bl.eqv _, Bl.eqv _, Bl.eqv _, Bl.eqv _, Bl.eqv _, Bl.eqv _, Bl.eqv _, Bl.eqv _, Bl.eqv _, Bl.eqv _, Bl.eqv _, Bl.eqv _, (fun v w' => Bl.RdD w' v p), Bl.eqv _, Bl.eqv _, Bl.eqv _, Bl.eqv _, Bl.eqv _, Bl.eqv _, Bl.eqv _, Bl.eqv _, Bl.eqv _, Bl.eqv _, Bl.eqv _, Bl.eqv _, Bl.eqv _, Bl.eqv _, Bl.eqv _] (by kernel_rfl) (by kernel_rfl) (by kernel_rfl) (by kernel_rfl)
      case hsteps =>
        refine ⟨?_, ?_, ?_, ?_, ?_, ?_, ?_, ?_, ?_, ?_, ?_, ?_, ?_, ?_, ?_, ?_, ?_, ?_, ?_, ?_, ?_, ?_, ?_, ?_, ?_, ?_, ?_, ?_, ?_, ?_, ?_, ?_, ?_, ?_, trivial⟩
        all_goals
          intro ev w1 hext hb hd
          have e1 := hb 1 (by decide)
          have e3 := hb 3 (by decide)
          clear hb
          simp only [Array.getD_eq_getD_getElem?, List.getElem?_toArray, List.getElem?_cons_succ, List.getElem?_cons_zero, Option.getD_some] at e1 e3
          simp only [Bl.DepsE, List.getElem?_cons_succ, List.getElem?_cons_zero, Option.bind_some, List.getD_cons_succ, List.getD_cons_zero, Bl.eqv, and_true] at hd
          have hc := (Bl.bcell hext).1
          have r0 := (hc _ 0 hB).trans q0
          have r1 := (hc _ 1 hB).trans q1
          have r5 := (hc _ 66 hB).trans q5
          simp only [Bl.Good, Region.wanted, Bl.yieldE, List.getElem?_cons_succ, List.getElem?_cons_zero, Option.bind_some, hd, beq_self_eq_true, if_true]
          first
          | ((with_reducible refine Bl.goodR_load ?_ (HLo.out _ hext) ?_); (first | exact hd | exact hd.1); exact rfl) | ((with_reducible refine Bl.goodR_load ?_ (HLn.out _ hext) ?_); (first | exact hd | exact hd.1); exact rfl)
          | (go_simp; first | (go_at_call 26; (with_reducible refine (HCn.out _).mono ?_); rintro e w2 ⟨rfl, hE2⟩; exact ⟨_, rfl, hE2, rfl⟩) | (go_at_call 21; (with_reducible refine (HDg.out Hp40.out _ (HE1.out.trans hext)).mono ?_); rintro e w2 ⟨v2, rfl, hR2, hE2⟩; exact ⟨_, rfl, hE2, hR2⟩) | (go_at_call 23; (with_reducible refine (HGC.out _ _ (HE1.out.trans hext) ?_).mono ?_); (first | exact hd.2.2.2.2.1 | exact hd.2.2.2.2.2.1); rintro e w2 ⟨rfl, hE2⟩; exact ⟨_, rfl, hE2, rfl⟩) | (go_at_call 22; (with_reducible refine (HNm.out _ (HE1.out.trans hext)).mono ?_); rintro e w2 ⟨rfl, hE2⟩; exact ⟨_, rfl, hE2, rfl⟩) | (go_at_call 27; (with_reducible refine (HRC.out _ (HE1.out.trans hext)).mono ?_); rintro e w2 ⟨rfl, hE2⟩; exact ⟨_, rfl, hE2, rfl⟩) | exact rfl | exact ⟨Below.refl _ _, rfl⟩ | exact ⟨Below.refl _ _, rfl⟩)
      case hmono => exact ⟨Bl.mono_eqv _, Bl.mono_eqv _, Bl.mono_eqv _, Bl.mono_eqv _, Bl.mono_eqv _, Bl.mono_eqv _, Bl.mono_eqv _, Bl.mono_eqv _, Bl.mono_eqv _, Bl.mono_eqv _, Bl.mono_eqv _, Bl.mono_eqv _, Bl.mono_eqv _, Bl.mono_eqv _, Bl.mono_eqv _, Bl.mono_eqv _, Bl.mono_eqv _, Bl.mono_eqv _, (fun _ _ _ h k => Bl.Rds.ext h k), Bl.mono_eqv _, Bl.mono_eqv _, Bl.mono_eqv _, Bl.mono_eqv _, Bl.mono_eqv _, Bl.mono_eqv _, Bl.mono_eqv _, Bl.mono_eqv _, Bl.mono_eqv _, Bl.mono_eqv _, Bl.mono_eqv _, Bl.mono_eqv _, Bl.mono_eqv _, Bl.mono_eqv _, Bl.mono_eqv _, trivial⟩
      case hend =>
        intro u w1 hext hend
        simp only [Bl.EndE, List.getElem?_cons_succ, List.getElem?_cons_zero, Option.bind_some, List.getD_cons_succ, List.getD_cons_zero, Bl.eqv, true_and] at hend
        simp only [Bl.fillAct, List.setIfInBounds_toArray, List.set_cons_succ, List.set_cons_zero, List.drop_succ_cons, List.drop_zero, hend]
        have HE9 := Bl.hid (HE1.out.trans hext)
        clear hext hend
        go_wp2_with fail
        go_ret
        exact ⟨rfl, HE9.out⟩
end Go.Proofs.YtkoddcjkhcnifaaDoor

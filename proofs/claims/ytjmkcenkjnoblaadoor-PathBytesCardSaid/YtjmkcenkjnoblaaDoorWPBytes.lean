/- Walk of the law PathBytes. -/
import Derived.Test.YtjmkcenkjnoblaaDoorWPath3
import Derived.Test.YtjmkcenkjnoblaaDoorWAl13
import Derived.Test.YtjmkcenkjnoblaaDoorWNumN
import Derived.Test.YtjmkcenkjnoblaaDoorWParse
namespace Go.Proofs.YtjmkcenkjnoblaaDoor
open Go.RowKit Go.Proofs

set_option maxRecDepth 100000 in
set_option maxHeartbeats 2000000 in
theorem pathbytes_all (vl vb : Value) (ds : List (List Int)) (b : List Int) (w : World) (S : List Nat) (a : Nat → Addr) (hR : Bl.RdD w vl ds) (hd : Bl.Dig ds) (hb : Bl.Rd w .u8 vb b) (hbb : Bl.Byt b) (hg : Glob w) (hS : ∀ i, 1 ≤ i → i ≤ 20 → i ∈ S) (he : Errs S a w) :
    Calls Tryd.prog 3 #[vl, vb] w fun e w' => e = .returned (.bool true) ∧ Bl.Ext w w' := by
  obtain ⟨p, c, hvf, hvn, hvc⟩ := hR.form
  subst hvf
  obtain ⟨pb, cb, hvbf, hvbn, hvbc⟩ := hb.form
  subst hvbf
  unfold maxLen at hvc hvbc
  have HPs : Hid (¬ b.length % 32 = 0 → ∀ w2, Bl.Ext w w2 → Calls Tryd.prog 11 #[.slice pb b.length cb] w2 fun e w' => e = .returned (.tuple #[.slice none 0 0, .iface 128 (.pointer (some (a 8)))]) ∧ Bl.Ext w2 w') := Bl.hid fun h w2 h2 =>
    pparse_size _ b w2 S a (hb.ext h2) (he.ext h2) (hS 8 (by decide) (by decide)) h
  have HPl : Hid (b.length % 32 = 0 → 320 < b.length → ∀ w2, Bl.Ext w w2 → Calls Tryd.prog 11 #[.slice pb b.length cb] w2 fun e w' => e = .returned (.tuple #[.slice none 0 0, .iface 128 (.pointer (some (a 3)))]) ∧ Bl.Ext w2 w') := Bl.hid fun h h' w2 h2 =>
    pparse_long _ b w2 S a (hb.ext h2) (he.ext h2) (hS 3 (by decide) (by decide)) h h'
  have HPo : Hid (∀ m, b.length = 32 * m → m ≤ 10 → ∀ w2, Bl.Ext w w2 → Calls Tryd.prog 11 #[.slice pb b.length cb] w2 fun e w' => ∃ v', e = .returned (.tuple #[v', .nilIface]) ∧ Bl.RdD w' v' (Bl.parts b m) ∧ Bl.Ext w2 w') := Bl.hid fun m h h' w2 h2 =>
    pparse_ok _ b m w2 (hb.ext h2) h h'
  have HN : Hid (∀ k, 1 ≤ k → k ≤ 20 → ∀ w2, Bl.Ext w w2 → Calls Tryd.prog 12 #[.iface 128 (.pointer (some (a k)))] w2 fun e w' => e = .returned (.int .i64 k) ∧ Bl.Ext w2 w') := Bl.hid fun k h1 h2 w2 h3 => num_any S a w2 k hS (he.ext h3) h1 h2
  have HR := Bl.hid hR
  have Hd := Bl.hid hd
  have Hb := Bl.hid hb
  have Hbb := Bl.hid hbb
  have Hg := Bl.hid hg
  obtain ⟨n, hn0⟩ : ∃ n, n = ds.length := ⟨_, rfl⟩
  rw [← hn0] at hvn ⊢
  have Hn := Bl.hid hn0
  clear hR hd hb hbb hg hS he hn0
  go_enter Tryd.func3, Tryd.ntmps3
  go_wp2_with fail
  refine (alive13 w Hg.out).mono ?_
  rintro e w1 ⟨rfl, hE1⟩
  have HE1 := Bl.hid hE1
  clear hE1
  by_cases hn30 : (30 : Int) < (n : Int)
  · go_wp2_with fail
    go_ret
    exact ⟨rfl, HE1.out⟩
  by_cases hb700 : (700 : Int) < (b.length : Int)
  · go_wp2_with fail
    go_ret
    exact ⟨rfl, HE1.out⟩
  have Hown0 := Bl.hid (Bl.owns_nil_lit w1 5 w1.heap.size (Nat.le_refl _) 1)
  have HE0 := Bl.hid (Bl.ext_alloc w1 (.cells #[] 5))
  go_wp2_with fail
  go_loopw [5, 23] (fun o i wr => ∃ (k c1 : Nat) (p1 : Option Addr), k ≤ n ∧ i = .int .i64 k ∧ o = .slice p1 (k * 32) c1 ∧ wr.ownsRow w1.heap.size 5 1 (.slice p1 (k * 32) c1) (k * 32) (Bl.ints .u8 (ds.take k).flatten) ∧ Bl.Ext w1 wr) (fun _ i _ => n - (intOf i).toNat)
  case atStart => exact ⟨0, 0, _, Nat.zero_le _, rfl, rfl, Hown0.out, HE0.out⟩
  case round =>
    obtain ⟨k, c1, p1, hk, rfl, rfl, hown, hE⟩ := hrel
    have Hown := Bl.hid hown
    have HE := Bl.hid hE
    clear hown hE Hown0 HE0
    by_cases hlt : k < n
    · obtain ⟨b1, o, c', hp, hp1, hp2, hbl, hrg⟩ := Bl.RdD.pos (Bl.Rds.ext HR.out (HE1.out.trans HE.out)) Hd.out (by rw [← Hn.out]; omega)
      injection hp with hp hp3 hp4
      clear hp3 hp4
      subst hp
      have hr1 := Bl.digit_at hrg Hd.out (i := k) (by rw [← Hn.out]; exact hlt)
      obtain ⟨hll, _⟩ := Hd.out.get (i := k) (by rw [← Hn.out]; exact hlt)
      have Htk := Bl.hid (Bl.take_snocD ds k (by rw [← Hn.out]; exact hlt))
      obtain ⟨d, hd⟩ : ∃ d, d = ds.getD k [] := ⟨_, rfl⟩
      rw [← hd] at hr1 hll Htk
      have Hld := Bl.hid (Bl.load_ints (P := Tryd.prog) (ty := 25) hr1 Tryd.underlying25 (by kernel_rfl) hll)
      have Hll := Bl.hid hll
      clear hr1 hll hd hp1 hp2 hrg hbl
      go_wp2_with (with_reducible refine Bl.stop_load (ty := 25) ?_)
      refine Bl.go_on ?_
      refine Bl.wpL_load rfl Hld.out ?_
      have HF5 := Bl.hid (fam_new wr 32 .u8 25 #[.int .u8 0, .int .u8 0, .int .u8 0, .int .u8 0, .int .u8 0, .int .u8 0, .int .u8 0, .int .u8 0, .int .u8 0, .int .u8 0, .int .u8 0, .int .u8 0, .int .u8 0, .int .u8 0, .int .u8 0, .int .u8 0, .int .u8 0, .int .u8 0, .int .u8 0, .int .u8 0, .int .u8 0, .int .u8 0, .int .u8 0, .int .u8 0, .int .u8 0, .int .u8 0, .int .u8 0, .int .u8 0, .int .u8 0, .int .u8 0, .int .u8 0, .int .u8 0] rfl)
      have Hst := Bl.hid (Bl.store_ints (P := Tryd.prog) (ty := 25) (k := .u8) (l := d) (n := 32) HF5.out.there (by kernel_rfl) Hll.out)
      have HE6 : Hid (Bl.Ext wr ((wr.alloc (.cells #[.int .u8 0, .int .u8 0, .int .u8 0, .int .u8 0, .int .u8 0, .int .u8 0, .int .u8 0, .int .u8 0, .int .u8 0, .int .u8 0, .int .u8 0, .int .u8 0, .int .u8 0, .int .u8 0, .int .u8 0, .int .u8 0, .int .u8 0, .int .u8 0, .int .u8 0, .int .u8 0, .int .u8 0, .int .u8 0, .int .u8 0, .int .u8 0, .int .u8 0, .int .u8 0, .int .u8 0, .int .u8 0, .int .u8 0, .int .u8 0, .int .u8 0, .int .u8 0] 25)).setCells wr.heap.size 0 (Bl.ints .u8 d))) := Bl.hid (Bl.below_setCells _ _ _ _ (Bl.ext_alloc _ _) (Nat.le_refl _))
      have Hr7 : Hid (((wr.alloc (.cells #[.int .u8 0, .int .u8 0, .int .u8 0, .int .u8 0, .int .u8 0, .int .u8 0, .int .u8 0, .int .u8 0, .int .u8 0, .int .u8 0, .int .u8 0, .int .u8 0, .int .u8 0, .int .u8 0, .int .u8 0, .int .u8 0, .int .u8 0, .int .u8 0, .int .u8 0, .int .u8 0, .int .u8 0, .int .u8 0, .int .u8 0, .int .u8 0, .int .u8 0, .int .u8 0, .int .u8 0, .int .u8 0, .int .u8 0, .int .u8 0, .int .u8 0, .int .u8 0] 25)).setCells wr.heap.size 0 (Bl.ints .u8 d)).rangeAt wr.heap.size 0 (Bl.ints .u8 d)) := Bl.hid (World.rangeAt_setCells_same _ _ _ _ (by rw [Bl.ints_length, Hll.out]; exact HF5.out.there))
      go_wp2_with (with_reducible refine Bl.stop_store (ty := 25) ?_)
      refine Bl.go_on ?_
      refine Bl.wpL_store0 rfl rfl Hst.out ?_
      generalize hWS : (wr.alloc (.cells #[.int .u8 0, .int .u8 0, .int .u8 0, .int .u8 0, .int .u8 0, .int .u8 0, .int .u8 0, .int .u8 0, .int .u8 0, .int .u8 0, .int .u8 0, .int .u8 0, .int .u8 0, .int .u8 0, .int .u8 0, .int .u8 0, .int .u8 0, .int .u8 0, .int .u8 0, .int .u8 0, .int .u8 0, .int .u8 0, .int .u8 0, .int .u8 0, .int .u8 0, .int .u8 0, .int .u8 0, .int .u8 0, .int .u8 0, .int .u8 0, .int .u8 0, .int .u8 0] 25)).setCells wr.heap.size 0 (Bl.ints .u8 d) = W6 at *
      clear hWS Hst HF5 Hld
      generalize wr.heap.size = s7 at *
      have Hown2 := Bl.hid (Bl.owns_ext Hown.out HE6.out)
      have Hnew : Hid (Bl.Rd W6 .u8 (.slice (some ⟨s7, 0, none⟩) 32 32) d) := Bl.hid (Bl.rd_box Hr7.out Hll.out (by decide))
      have HE2 := Bl.hid (HE.out.trans HE6.out)
      go_wp2_with (with_reducible refine Bl.stop_append ?_)
      refine Bl.go_on ?_
      have Hnew32 : Hid (Bl.Rds W6 (.slice (some ⟨s7, 0, none⟩) 32 32) 32 (Bl.ints .u8 d)) := Bl.hid (by have h := Hnew.out; unfold Bl.Rd at h; rw [Hll.out] at h; exact h)
      refine Bl.wpL_app tBytes Hown2.out Hnew32.out rfl rfl (by rw [Bl.ints_length, Hll.out]) (Bl.ints_one _ _) (by unfold maxLen; omega) (by omega) HE2.out.size ?_
      intro q3 d3 w3 hown3 hg3 hB3 hK3 hn3 hc3
      have e32 : k * 32 + 32 = (k + 1) * 32 := by omega
      rw [e32] at hown3 ⊢
      have Hown3 := Bl.hid hown3
      have HE3 : Hid (Bl.Ext w1 w3) := Bl.hid (Below.trans HE2.out hB3)
      clear hown3 hg3 hB3 hK3 e32
      go_wp2_with fail
      go_roundw
      case rel =>
        refine ⟨k + 1, d3, q3, by omega, by go_num, rfl, ?_, HE3.out⟩
        rw [Htk.out, List.flatten_append, List.flatten_singleton, Bl.ints_append]
        exact Hown3.out
      case measure => simp [intOf]; omega
    · obtain rfl : k = n := by omega
      have hown := Hown.out
      rw [List.take_of_length_le (by rw [← Hn.out]; exact Nat.le_refl _)] at hown
      have hfl : ds.flatten.length = k * 32 := by
        have h := hown.1
        rw [Bl.ints_length] at h; omega
      have HA : Hid (Bl.Rd wr .u8 (.slice p1 (k * 32) c1) ds.flatten) := Bl.hid (by show Bl.Rds _ _ ds.flatten.length _; rw [hfl]; exact Bl.Rds.of_owns hown)
      have HEr := Bl.hid (HE1.out.trans HE.out)
      have HDg : Hid (∀ w2, Bl.Ext wr w2 → Calls Tryd.prog 10 #[.slice p k c] w2 fun e w' => ∃ v', e = .returned v' ∧ Bl.RdD w' v' ds ∧ Bl.Ext w2 w') := Bl.hid fun w2 h2 => by
        have hRn : Bl.RdD w (.slice p k c) ds := by have h := HR.out; rw [← Hn.out] at h; exact h
        have h := digests13_any (.slice p k c) ds w2 (Bl.Rds.ext hRn (HEr.out.trans h2)) Hd.out (by rw [← Hn.out]; omega)
        exact h.mono fun e w' ⟨q, d, h3, h4, h5⟩ => ⟨_, h3, Bl.Rds.of_owns h4, h5⟩
      have HBy : Hid (∀ w2 v, Bl.Ext wr w2 → Bl.RdD w2 v ds → Calls Tryd.prog 9 #[v] w2 fun e w' => ∃ v', e = .returned v' ∧ Bl.Rd w' .u8 v' ds.flatten ∧ Bl.Ext w2 w') := Bl.hid fun w2 v h2 h3 =>
        pbytes_any v ds w2 h3 Hd.out (by rw [← Hn.out]; omega)
      obtain ⟨FL, hFL⟩ : ∃ FL, FL = ds.flatten := ⟨_, rfl⟩
      rw [← hFL] at HA HBy
      clear hown hfl hFL Hown HE
      go_wp2_with fail
      apply Bl.wp_region_ev 6 [31, 32, 33, 34, 35, 36] [Bl.eqv _, (fun v w' => Bl.RdD w' v ds), (fun v w' => Bl.Rd w' .u8 v FL), Bl.eqv _, Bl.eqv _, Bl.eqv _] (by kernel_rfl) (by kernel_rfl) (by kernel_rfl) (by kernel_rfl)
      case hsteps =>
        refine ⟨?_, ?_, ?_, ?_, ?_, ?_, trivial⟩
        all_goals
          intro ev w1 hext hb hd
          have e0 := hb 0 (by decide)
          have e5 := hb 5 (by decide)
          clear hb
          simp only [Array.getD_eq_getD_getElem?, List.getElem?_toArray, List.getElem?_cons_succ, List.getElem?_cons_zero, Option.getD_some] at e0 e5
          simp only [Bl.DepsE, List.getElem?_cons_succ, List.getElem?_cons_zero, Option.bind_some, List.getD_cons_succ, List.getD_cons_zero, Bl.eqv, and_true] at hd
          have hc := (Bl.bcell hext).1
          have Hcv := fun (v : Value) (m : List Int) (h : Bl.Rd w1 .u8 v m) => Bl.conv_bytes (P := Tryd.prog) (src := 23) (dst := 9) h Tryd.underlying23 Tryd.underlying5 Tryd.underlying9
          have c1 := Hcv _ _ (HA.out.ext hext)
          try (have c2 := Hcv _ _ hd)
          try (have c2 := Hcv _ _ hd.1)
          clear Hcv
          simp only [Bl.Good, Region.wanted, if_true]
          go_simp
          first | (go_at_call 10; (with_reducible refine (HDg.out _ hext).mono ?_); rintro e w2 ⟨v2, rfl, h1, h2⟩; exact ⟨_, rfl, h2, h1⟩) | (go_at_call 9; (with_reducible refine (HBy.out _ _ hext hd).mono ?_); rintro e w2 ⟨v2, rfl, h1, h2⟩; exact ⟨_, rfl, h2, h1⟩) | (go_at_call 9; (with_reducible refine (HBy.out _ _ hext hd.1).mono ?_); rintro e w2 ⟨v2, rfl, h1, h2⟩; exact ⟨_, rfl, h2, h1⟩) | exact ⟨Below.refl _ _, rfl⟩ | exact ⟨Below.refl _ _, rfl⟩
      case hmono => exact ⟨Bl.mono_eqv _, (fun _ _ _ h k => Bl.Rds.ext h k), (fun _ _ _ h k => Bl.Rd.ext h k), Bl.mono_eqv _, Bl.mono_eqv _, Bl.mono_eqv _, trivial⟩
      case hend =>
        intro u w1 hext hend
        simp only [Bl.EndE, List.getElem?_cons_succ, List.getElem?_cons_zero, Option.bind_some, List.getD_cons_succ, List.getD_cons_zero, Bl.eqv, true_and] at hend
        simp only [Bl.fillAct, List.setIfInBounds_toArray, List.set_cons_succ, List.set_cons_zero, List.drop_succ_cons, List.drop_zero, hend]
        have HE2 := Bl.hid (HEr.out.trans hext)
        clear hext hend HA HDg HBy HEr
        by_cases h32 : b.length % 32 = 0
        · have hr32 : ((b.length : Int) % 32 == 0) = true := by rw [beq_iff_eq]; omega
          by_cases h320 : 320 < b.length
          · have hg3 : (320 : Int) < (b.length : Int) := by omega
            have HP := Bl.hid (HPl.out h32 h320)
            clear HPs HPl HPo h32 h320
            go_wp2_with fail
            refine (HP.out _ HE2.out).mono ?_
            rintro e w4 ⟨rfl, hE4⟩
            have HE4 := Bl.hid (HE2.out.trans hE4)
            clear hE4
            go_wp2_with fail
            refine (HN.out 3 (by decide) (by decide) _ HE4.out).mono ?_
            rintro e w5 ⟨rfl, hE5⟩
            have HE5 := Bl.hid (HE4.out.trans hE5)
            clear hE5
            go_wp2_with fail
            go_ret
            exact ⟨rfl, HE5.out⟩
          · have hg3 : ¬ ((320 : Int) < (b.length : Int)) := by omega
            obtain ⟨m, hm⟩ : ∃ m, b.length = 32 * m := ⟨b.length / 32, by omega⟩
            have HP := Bl.hid (HPo.out m hm (by omega))
            have Hfl : Hid ((Bl.parts b m).flatten = b) := Bl.hid (by rw [Bl.parts_flat, List.take_of_length_le (by omega)])
            have Hpd := Bl.hid (Bl.parts_dig b m (by omega) Hbb.out)
            have hpl := Bl.parts_length b m
            have hm10 : m ≤ 10 := by omega
            have Hpl : Hid ((Bl.parts b m).length = m) := Bl.hid hpl
            clear HPs HPl HPo h32 h320 hm hpl
            go_wp2_with fail
            refine (HP.out _ HE2.out).mono ?_
            rintro e w4 ⟨v4, rfl, hR4, hE4⟩
            have HBy : Hid (∀ w2, Bl.Ext w4 w2 → Calls Tryd.prog 9 #[v4] w2 fun e w' => ∃ v', e = .returned v' ∧ Bl.Rd w' .u8 v' b ∧ Bl.Ext w2 w') := Bl.hid fun w2 h2 => by
              have h := pbytes_any v4 (Bl.parts b m) w2 (Bl.Rds.ext hR4 h2) Hpd.out (by rw [Hpl.out]; omega)
              rw [Hfl.out] at h; exact h
            have HE4 := Bl.hid (HE2.out.trans hE4)
            have Hb4 := Bl.hid (Hb.out.ext HE4.out)
            clear hE4 hR4
            go_wp2_with fail
            apply Bl.wp_region_ev 10 [66, 67, 68, 69, 70, 71, 72, 73, 74, 75] [Bl.eqv _, Bl.eqv _, Bl.eqv _, Bl.eqv _, (fun v w' => Bl.Rd w' .u8 v b), Bl.eqv _, Bl.eqv _, Bl.eqv _, Bl.eqv _, Bl.eqv _] (by kernel_rfl) (by kernel_rfl) (by kernel_rfl) (by kernel_rfl)
            case hsteps =>
              refine ⟨?_, ?_, ?_, ?_, ?_, ?_, ?_, ?_, ?_, ?_, trivial⟩
              all_goals
                intro ev w1 hext hb hd
                have e1 := hb 1 (by decide)
                have e8 := hb 8 (by decide)
                have e9 := hb 9 (by decide)
                clear hb
                simp only [Array.getD_eq_getD_getElem?, List.getElem?_toArray, List.getElem?_cons_succ, List.getElem?_cons_zero, Option.getD_some] at e1 e8 e9
                simp only [Bl.DepsE, List.getElem?_cons_succ, List.getElem?_cons_zero, Option.bind_some, List.getD_cons_succ, List.getD_cons_zero, Bl.eqv, and_true] at hd
                have hc := (Bl.bcell hext).1
                have Hcv := fun (v : Value) (m : List Int) (h : Bl.Rd w1 .u8 v m) => Bl.conv_bytes (P := Tryd.prog) (src := 23) (dst := 9) h Tryd.underlying23 Tryd.underlying5 Tryd.underlying9
                have c1 := Hcv _ _ (Hb4.out.ext hext)
                try (have c2 := Hcv _ _ hd)
                try (have c2 := Hcv _ _ hd.1)
                try (have c2 := Hcv _ _ hd.2)
                clear Hcv
                simp only [Bl.Good, Region.wanted, Bl.yieldE, List.getElem?_cons_succ, List.getElem?_cons_zero, Option.bind_some, hd, beq_self_eq_true, if_true]
                go_simp
                first | (go_at_call 9; (with_reducible refine (HBy.out _ hext).mono ?_); rintro e w2 ⟨v2, rfl, h1, h2⟩; exact ⟨_, rfl, h2, h1⟩) | exact rfl | exact ⟨Below.refl _ _, rfl⟩ | exact ⟨Below.refl _ _, rfl⟩
            case hmono => exact ⟨Bl.mono_eqv _, Bl.mono_eqv _, Bl.mono_eqv _, Bl.mono_eqv _, (fun _ _ _ h k => Bl.Rd.ext h k), Bl.mono_eqv _, Bl.mono_eqv _, Bl.mono_eqv _, Bl.mono_eqv _, Bl.mono_eqv _, trivial⟩
            case hend =>
              intro u w1 hext hend
              simp only [Bl.EndE, List.getElem?_cons_succ, List.getElem?_cons_zero, Option.bind_some, List.getD_cons_succ, List.getD_cons_zero, Bl.eqv, true_and] at hend
              simp only [Bl.fillAct, List.setIfInBounds_toArray, List.set_cons_succ, List.set_cons_zero, List.drop_succ_cons, List.drop_zero, hend]
              have HE5 := Bl.hid (HE4.out.trans hext)
              clear hext hend
              go_wp2_with fail
              go_ret
              exact ⟨rfl, HE5.out⟩
        · have hr32 : ((b.length : Int) % 32 == 0) = false := by rw [beq_eq_false_iff_ne]; omega
          have HP := Bl.hid (HPs.out h32)
          clear HPs HPl HPo h32
          go_wp2_with fail
          refine (HP.out _ HE2.out).mono ?_
          rintro e w4 ⟨rfl, hE4⟩
          have HE4 := Bl.hid (HE2.out.trans hE4)
          clear hE4
          go_wp2_with fail
          refine (HN.out 8 (by decide) (by decide) _ HE4.out).mono ?_
          rintro e w5 ⟨rfl, hE5⟩
          have HE5 := Bl.hid (HE4.out.trans hE5)
          clear hE5
          go_wp2_with fail
          go_ret
          exact ⟨rfl, HE5.out⟩
end Go.Proofs.YtjmkcenkjnoblaaDoor

/- Walk of the law TreeHalves. -/
import Derived.Test.YtdodgcapihfkkaaDoorWRoots
namespace Go.Proofs.Bl
theorem dp_pow (j : Nat) (h : j < 63) : dp (2 ^ j) = j := by
  cases j with
  | zero => exact dp_lo _ (by simp)
  | succ j =>
    have hp : 2 ^ (j + 1) = 2 * 2 ^ j := by rw [Nat.pow_succ]; omega
    have h1 := Nat.one_le_two_pow (n := j)
    have hlt : 2 ^ (j + 1) < 2 ^ 63 := Nat.pow_lt_pow_right (by decide) h
    obtain ⟨d1, d2, d3, d4⟩ := dp_bounds (2 ^ (j + 1)) (by omega) hlt
    have a := (Nat.pow_le_pow_iff_right (a := 2) (by decide)).1 d4
    have b := (Nat.pow_lt_pow_iff_right (a := 2) (by decide)).1 d3
    omega
theorem dp_sp (n : Nat) (h : 2 ≤ n) (hn : n ≤ 1048576) : dp n = 1 + dp (sp n) ∧ dp (sp n) ≤ 62 := by
  obtain ⟨d1, d2, d3, d4⟩ := dp_bounds n h (by omega)
  have hlt : 2 ^ (dp n - 1) < 2 ^ 63 := by omega
  have hd := (Nat.pow_lt_pow_iff_right (a := 2) (by decide)).1 hlt
  rw [sp_pow n (by omega), dp_pow _ hd]
  have : dp n ≠ 0 := fun q => by rw [q] at d4; simp at d4; omega
  omega
end Go.Proofs.Bl
namespace Go.Proofs.YtdodgcapihfkkaaDoor
open Go.RowKit Go.Proofs

set_option maxRecDepth 100000 in
set_option maxHeartbeats 2000000 in
theorem halves_all (v : Value) (ps : List (List Int)) (w : World) (hR : Bl.Rdss w v ps) (hg : Glob w) (hby : ∀ p ∈ ps, Bl.Byt p) :
    Calls Tryd.prog 8 #[v] w fun e w' => e = .returned (.bool true) ∧ Bl.Ext w w' := by
  have hR2 := hR
  obtain ⟨ws, hv, hwl, hws⟩ := hR2
  obtain ⟨p, c, hvf, hvn, hvc⟩ := hv.form
  subst hvf
  unfold maxLen at hvc
  obtain ⟨n, hn⟩ : ∃ n, n = ps.length := ⟨_, rfl⟩
  rw [← hn] at hR hv hvn ⊢
  have HR := Bl.hid hR
  have Hg := Bl.hid hg
  have Hby := Bl.hid hby
  have Hn := Bl.hid hn
  have Hv := Bl.hid hv
  have Hwl := Bl.hid hwl
  have Hws := Bl.hid hws
  clear hR hg hby hn hv hwl hws
  go_enter Tryd.func8, Tryd.ntmps8
  go_wp2_with fail
  refine (alive12 w).mono ?_
  rintro e w1 ⟨rfl, hE1⟩
  have HE1 := Bl.hid hE1
  clear hE1
  go_wp2_with fail
  refine (long_any _ ps w1 60 (Bl.Rdss.ext HR.out HE1.out)).mono ?_
  rintro e w2 ⟨hw2, he⟩
  replace hw2 := hw2.symm
  subst hw2
  rcases he with rfl | ⟨rfl, hl, hlp⟩
  · go_wp2_with fail
    go_ret
    exact ⟨rfl, HE1.out⟩
  · have Hlp : Hid (∀ p ∈ ps, p.length ≤ 1099511627000) := Bl.hid fun q hq => by have := hlp q hq; omega
    have hn60 : n ≤ 60 := by rw [Hn.out]; omega
    clear hl hlp
    go_wp2_with fail
    refine (split_any _ _ (by omega)).mono ?_
    rintro e w3 ⟨rfl, hw3⟩
    subst hw3
    rw [Int.toNat_natCast]
    by_cases h0 : n = 0
    · subst h0
      have hs0 : Bl.sp 0 = 0 := Bl.sp_lo _ (by omega)
      rw [hs0]
      clear hs0
      go_wp2_with fail
      apply Bl.wp_region_ev 15 [15, 16, 17, 18, 19, 20, 21, 22, 23, 24, 25, 26, 27, 28, 29] [Bl.eqv _, Bl.eqv _, Bl.eqv _, Bl.eqv _, Bl.eqv _, Bl.eqv _, Bl.eqv _, Bl.eqv _, Bl.eqv _, Bl.eqv _, Bl.eqv _, Bl.eqv _, Bl.eqv _, Bl.eqv _, Bl.eqv _] (by kernel_rfl) (by kernel_rfl) (by kernel_rfl) (by kernel_rfl)
      case hsteps =>
        refine ⟨?_, ?_, ?_, ?_, ?_, ?_, ?_, ?_, ?_, ?_, ?_, ?_, ?_, ?_, ?_, trivial⟩
        all_goals
          intro ev w1 hext hb hd
          have e0 := hb 0 (by decide)
          have e3 := hb 3 (by decide)
          have e4 := hb 4 (by decide)
          clear hb
          simp only [Array.getD_eq_getD_getElem?, List.getElem?_toArray, List.getElem?_cons_succ, List.getElem?_cons_zero, Option.getD_some] at e0 e3 e4
          simp only [Bl.DepsE, List.getElem?_cons_succ, List.getElem?_cons_zero, Option.bind_some, List.getD_cons_succ, List.getD_cons_zero, Bl.eqv, and_true] at hd
          have hc := (Bl.bcell hext).1
          simp only [Bl.Good, Region.wanted, Bl.yieldE, List.getElem?_cons_succ, List.getElem?_cons_zero, Option.bind_some, hd, beq_self_eq_true, if_true]
          go_simp
          first | exact rfl | exact ⟨Below.refl _ _, rfl⟩
      case hmono => exact ⟨Bl.mono_eqv _, Bl.mono_eqv _, Bl.mono_eqv _, Bl.mono_eqv _, Bl.mono_eqv _, Bl.mono_eqv _, Bl.mono_eqv _, Bl.mono_eqv _, Bl.mono_eqv _, Bl.mono_eqv _, Bl.mono_eqv _, Bl.mono_eqv _, Bl.mono_eqv _, Bl.mono_eqv _, Bl.mono_eqv _, trivial⟩
      case hend =>
        intro u w1 hext hend
        simp only [Bl.EndE, List.getElem?_cons_succ, List.getElem?_cons_zero, Option.bind_some, List.getD_cons_succ, List.getD_cons_zero, Bl.eqv, true_and] at hend
        simp only [Bl.fillAct, List.setIfInBounds_toArray, List.set_cons_succ, List.set_cons_zero, List.drop_succ_cons, List.drop_zero, hend]
        have HEf := Bl.hid (HE1.out.trans hext)
        clear hext hend
        go_wp2_with fail
        go_ret
        exact ⟨rfl, HEf.out⟩
    · by_cases h1 : n = 1
      · subst h1
        have hs0 : Bl.sp 1 = 0 := Bl.sp_lo _ (by omega)
        rw [hs0]
        have hl1 := Hn.out
        obtain ⟨bs, rfl⟩ : ∃ bs, ps = [bs] := by
          match ps, hl1 with
          | [bs], _ => exact ⟨bs, rfl⟩
        obtain ⟨b, o, hpe, hbl, hcell0⟩ := Bl.Rdss.cell' (ps := [bs]) (n := 1) (Hv.out.ext HE1.out) Hwl.out 0 (by simp)
        subst hpe
        have hRk0 := Hws.out 0 (by simp)
        obtain ⟨pk, ck, hfk, hnk, hck⟩ := hRk0.form
        have hcell : w1.cell? ⟨b, o, none⟩ = some (.slice pk bs.length ck) := by rw [Nat.add_zero] at hcell0; rw [hcell0, hfk]; rfl
        have hRk : Bl.Rd w .u8 (.slice pk bs.length ck) bs := by rw [hfk] at hRk0; exact hRk0
        have HLf : Hid (∀ w2, Bl.Ext w1 w2 → Calls Tryd.prog 49 #[.slice pk bs.length ck] w2 fun e w' => e = .returned (.agg (Bl.ints .u8 (Bl.lfD bs)).toArray) ∧ Bl.Ext w2 w') := Bl.hid fun w2 h2 =>
          leaf_any _ bs w2 (hRk.ext (HE1.out.trans h2)) (Hg.out.ext (HE1.out.trans h2)) (Hby.out bs (by simp)) (Hlp.out bs (by simp))
        have HRt : Hid (∀ w2, Bl.Ext w1 w2 → Calls Tryd.prog 51 #[.slice (some ⟨b, o, none⟩) 1 c] w2 fun e w' => e = .returned (.agg (Bl.ints .u8 (Bl.lfD bs)).toArray) ∧ Bl.Ext w2 w') := Bl.hid fun w2 h2 => by
          rw [← Bl.rootD_one]; exact root_any _ [bs] w2 (Bl.Rdss.ext HR.out (HE1.out.trans h2)) (Hg.out.ext (HE1.out.trans h2)) Hby.out Hlp.out (by simp)
        obtain ⟨d, hd⟩ : ∃ d, d = Bl.lfD bs := ⟨_, rfl⟩
        have hdl : d.length = 32 := by rw [hd]; exact Bl.lfD_length bs
        rw [← hd] at HLf HRt
        have heq : ∀ w, (Op.equalIn 10000 28 (.agg (Bl.ints .u8 d).toArray) (.agg (Bl.ints .u8 d).toArray)).run Tryd.prog w = .ok true w := fun w => Bl.eq10k_same Tryd.underlying28 Tryd.underlying5 (fun w => by simp [go_sem]) _ hdl w
        clear hs0 hl1 hcell0 hRk0 hfk hRk hd hdl
        go_wp2_with fail
        apply Bl.wp_region_ev 15 [15, 16, 17, 18, 19, 20, 21, 22, 23, 24, 25, 26, 27, 28, 29] [Bl.eqv _, Bl.eqv _, Bl.eqv _, Bl.eqv _, Bl.eqv _, Bl.eqv _, Bl.eqv _, Bl.eqv _, Bl.eqv _, Bl.eqv _, Bl.eqv _, Bl.eqv _, Bl.eqv _, Bl.eqv _, Bl.eqv _] (by kernel_rfl) (by kernel_rfl) (by kernel_rfl) (by kernel_rfl)
        case hsteps =>
          refine ⟨?_, ?_, ?_, ?_, ?_, ?_, ?_, ?_, ?_, ?_, ?_, ?_, ?_, ?_, ?_, trivial⟩
          all_goals
            intro ev w1 hext hb hd
            have e0 := hb 0 (by decide)
            have e3 := hb 3 (by decide)
            have e4 := hb 4 (by decide)
            clear hb
            simp only [Array.getD_eq_getD_getElem?, List.getElem?_toArray, List.getElem?_cons_succ, List.getElem?_cons_zero, Option.getD_some] at e0 e3 e4
            simp only [Bl.DepsE, List.getElem?_cons_succ, List.getElem?_cons_zero, Option.bind_some, List.getD_cons_succ, List.getD_cons_zero, Bl.eqv, and_true] at hd
            have hc := (Bl.bcell hext).1
            have hc1 := (hc _ o hbl).trans hcell
            simp only [Bl.Good, Region.wanted, Bl.yieldE, List.getElem?_cons_succ, List.getElem?_cons_zero, Option.bind_some, hd, beq_self_eq_true, if_true]
            go_simp
            first | (go_at_call 51; (with_reducible refine (HRt.out _ hext).mono ?_); rintro e w2 ⟨rfl, hE2⟩; exact ⟨_, rfl, hE2, rfl⟩) | (go_at_call 49; (with_reducible refine (HLf.out _ hext).mono ?_); rintro e w2 ⟨rfl, hE2⟩; exact ⟨_, rfl, hE2, rfl⟩) | exact rfl | exact ⟨Below.refl _ _, rfl⟩
        case hmono => exact ⟨Bl.mono_eqv _, Bl.mono_eqv _, Bl.mono_eqv _, Bl.mono_eqv _, Bl.mono_eqv _, Bl.mono_eqv _, Bl.mono_eqv _, Bl.mono_eqv _, Bl.mono_eqv _, Bl.mono_eqv _, Bl.mono_eqv _, Bl.mono_eqv _, Bl.mono_eqv _, Bl.mono_eqv _, Bl.mono_eqv _, trivial⟩
        case hend =>
          intro u w1 hext hend
          simp only [Bl.EndE, List.getElem?_cons_succ, List.getElem?_cons_zero, Option.bind_some, List.getD_cons_succ, List.getD_cons_zero, Bl.eqv, true_and] at hend
          simp only [Bl.fillAct, List.setIfInBounds_toArray, List.set_cons_succ, List.set_cons_zero, List.drop_succ_cons, List.drop_zero, hend]
          have HEf := Bl.hid (HE1.out.trans hext)
          clear hext hend
          go_wp2_with fail
          go_ret
          exact ⟨rfl, HEf.out⟩
      · obtain ⟨s1, s2, s3⟩ := Bl.sp_bounds n (by omega) (by omega)
        obtain ⟨hdd, hdx⟩ := Bl.dp_sp n (by omega) (by omega)
        obtain ⟨k, hk⟩ : ∃ k, k = Bl.sp n := ⟨_, rfl⟩
        rw [← hk] at s1 s2 s3 hdd hdx ⊢
        obtain ⟨x, hx⟩ : ∃ x, x = Bl.dp k := ⟨_, rfl⟩
        rw [← hx] at hdd hdx
        have Hx := Bl.hid hx
        have Hdd := Bl.hid hdd
        have Hk := Bl.hid hk
        obtain ⟨b, o, hpe, hbl, _⟩ := Bl.Rdss.cell' (n := n) (ps := ps) (by have := Hv.out.ext HE1.out; rw [Hn.out] at this ⊢; exact this) Hwl.out 0 (by rw [← Hn.out]; omega)
        subst hpe
        have hkn : (k : Int) < (n : Int) := by omega
        have hk1 : ¬ ((k : Int) < 1) := by omega
        have hnk : ¬ ((n : Int) ≤ (k : Int)) := by omega
        have hn2 : ¬ ((n : Int) < 2) := by omega
        have hnc : (n : Int) ≤ (c : Int) := by omega
        have hkc : ¬ (k = c) := by omega
        have hk0 : (0 : Int) ≤ (k : Int) := by omega
        have hkn' : (k : Int) ≤ (n : Int) := by omega
        have hkc' : (k : Int) ≤ (c : Int) := by omega
        have hx62 : x ≤ 62 := hdx
        clear hk hx hdd hdx
        have HRt : Hid (∀ w2, Bl.Ext w1 w2 → Calls Tryd.prog 51 #[.slice (some ⟨b, o, none⟩) n c] w2 fun e w' => e = .returned (.agg (Bl.ints .u8 (Bl.rootD ps)).toArray) ∧ Bl.Ext w2 w') := Bl.hid fun w2 h2 =>
          root_any _ ps w2 (Bl.Rdss.ext HR.out (HE1.out.trans h2)) (Hg.out.ext (HE1.out.trans h2)) Hby.out Hlp.out (by rw [← Hn.out]; omega)
        have HRl : Hid (∀ w2, Bl.Ext w1 w2 → Calls Tryd.prog 51 #[.slice (some ⟨b, o, none⟩) k c] w2 fun e w' => e = .returned (.agg (Bl.ints .u8 (Bl.rootD (ps.take k))).toArray) ∧ Bl.Ext w2 w') := Bl.hid fun w2 h2 =>
          root_any _ (ps.take k) w2 (Bl.Rdss.take (Bl.Rdss.ext HR.out (HE1.out.trans h2)) k (by rw [← Hn.out]; omega)) (Hg.out.ext (HE1.out.trans h2)) (fun q hq => Hby.out q (List.mem_of_mem_take hq)) (fun q hq => Hlp.out q (List.mem_of_mem_take hq)) (by rw [List.length_take]; omega)
        have HRr : Hid (∀ w2, Bl.Ext w1 w2 → Calls Tryd.prog 51 #[.slice (some ⟨b, o + k, none⟩) (n - k) (c - k)] w2 fun e w' => e = .returned (.agg (Bl.ints .u8 (Bl.rootD (ps.drop k))).toArray) ∧ Bl.Ext w2 w') := Bl.hid fun w2 h2 =>
          root_any _ (ps.drop k) w2 (Bl.Rdss.drop (Bl.Rdss.ext HR.out (HE1.out.trans h2)) k (by rw [← Hn.out]; omega)) (Hg.out.ext (HE1.out.trans h2)) (fun q hq => Hby.out q (List.mem_of_mem_drop hq)) (fun q hq => Hlp.out q (List.mem_of_mem_drop hq)) (by rw [List.length_drop, ← Hn.out]; omega)
        have HN : Hid (∀ w2, Bl.Ext w1 w2 → Calls Tryd.prog 36 #[.agg (Bl.ints .u8 (Bl.rootD (ps.take k))).toArray, .agg (Bl.ints .u8 (Bl.rootD (ps.drop k))).toArray] w2 fun e w' => e = .returned (.agg (Bl.ints .u8 (Bl.rootD ps)).toArray) ∧ Bl.Ext w2 w') := Bl.hid fun w2 h2 => by
          have hh := Bl.rootD_hi ps (by rw [← Hn.out]; omega) (by rw [← Hn.out]; omega)
          rw [← Hn.out, ← Hk.out] at hh
          rw [hh]
          exact node_any _ _ w2 (Bl.rootD_length _ (by rw [List.length_take]; omega)) (Bl.rootD_length _ (by rw [List.length_drop, ← Hn.out]; omega)) (Bl.rootD_byt _ (by rw [List.length_take]; omega)) (Bl.rootD_byt _ (by rw [List.length_drop, ← Hn.out]; omega)) (Hg.out.ext (HE1.out.trans h2))
        obtain ⟨d, hd⟩ : ∃ d, d = Bl.rootD ps := ⟨_, rfl⟩
        have hdl : d.length = 32 := by rw [hd]; exact Bl.rootD_length ps (by rw [← Hn.out]; omega)
        rw [← hd] at HRt HN
        generalize Bl.rootD (ps.take k) = dl at HRl HN
        generalize Bl.rootD (ps.drop k) = dr at HRr HN
        have heq : ∀ w, (Op.equalIn 10000 28 (.agg (Bl.ints .u8 d).toArray) (.agg (Bl.ints .u8 d).toArray)).run Tryd.prog w = .ok true w := fun w => Bl.eq10k_same Tryd.underlying28 Tryd.underlying5 (fun w => by simp [go_sem]) _ hdl w
        clear hd hdl s1 s2 s3 hbl
        go_wp2_with fail
        refine (depth_any _ _ (by omega)).mono ?_
        rintro e w4 ⟨rfl, hw4⟩
        subst hw4
        rw [Int.toNat_natCast, Hdd.out]
        go_wp2_with fail
        refine (depth_any _ _ (by omega)).mono ?_
        rintro e w5 ⟨rfl, hw5⟩
        subst hw5
        rw [Int.toNat_natCast, ← Hx.out]
        go_wp2_with fail
        apply Bl.wp_region_ev 12 [45, 46, 47, 48, 49, 50, 51, 52, 53, 54, 55, 56] [Bl.eqv _, Bl.eqv _, Bl.eqv _, Bl.eqv _, Bl.eqv (.slice (some ⟨b, o, none⟩) k c), Bl.eqv _, Bl.eqv _, Bl.eqv _, Bl.eqv (.slice (some ⟨b, o + k, none⟩) (n - k) (c - k)), Bl.eqv _, Bl.eqv _, Bl.eqv _] (by kernel_rfl) (by kernel_rfl) (by kernel_rfl) (by kernel_rfl)
        case hsteps =>
          refine ⟨?_, ?_, ?_, ?_, ?_, ?_, ?_, ?_, ?_, ?_, ?_, ?_, trivial⟩
          all_goals
            intro ev w1 hext hb hd
            have e0 := hb 0 (by decide)
            have e4 := hb 4 (by decide)
            clear hb
            simp only [Array.getD_eq_getD_getElem?, List.getElem?_toArray, List.getElem?_cons_succ, List.getElem?_cons_zero, Option.getD_some] at e0 e4
            simp only [Bl.DepsE, List.getElem?_cons_succ, List.getElem?_cons_zero, Option.bind_some, List.getD_cons_succ, List.getD_cons_zero, Bl.eqv, and_true] at hd
            have hc := (Bl.bcell hext).1
            simp only [Bl.Good, Region.wanted, if_true]
            go_simp
            first | (go_at_call 51; (with_reducible refine (HRt.out _ hext).mono ?_); rintro e w2 ⟨rfl, hE2⟩; exact ⟨_, rfl, hE2, rfl⟩) | (go_at_call 51; (with_reducible refine (HRl.out _ hext).mono ?_); rintro e w2 ⟨rfl, hE2⟩; exact ⟨_, rfl, hE2, rfl⟩) | (go_at_call 51; (with_reducible refine (HRr.out _ hext).mono ?_); rintro e w2 ⟨rfl, hE2⟩; exact ⟨_, rfl, hE2, rfl⟩) | (go_at_call 36; (with_reducible refine (HN.out _ hext).mono ?_); rintro e w2 ⟨rfl, hE2⟩; exact ⟨_, rfl, hE2, rfl⟩) | exact ⟨Below.refl _ _, by rw [if_neg (by omega)]; rfl⟩ | exact ⟨Below.refl _ _, rfl⟩
        case hmono => exact ⟨Bl.mono_eqv _, Bl.mono_eqv _, Bl.mono_eqv _, Bl.mono_eqv _, (Bl.mono_eqv _), Bl.mono_eqv _, Bl.mono_eqv _, Bl.mono_eqv _, (Bl.mono_eqv _), Bl.mono_eqv _, Bl.mono_eqv _, Bl.mono_eqv _, trivial⟩
        case hend =>
          intro u w1 hext hend
          simp only [Bl.EndE, List.getElem?_cons_succ, List.getElem?_cons_zero, Option.bind_some, List.getD_cons_succ, List.getD_cons_zero, Bl.eqv, true_and] at hend
          simp only [Bl.fillAct, List.setIfInBounds_toArray, List.set_cons_succ, List.set_cons_zero, List.drop_succ_cons, List.drop_zero, hend]
          have HEf := Bl.hid (HE1.out.trans hext)
          clear hext hend
          go_wp2_with fail
          go_ret
          exact ⟨rfl, HEf.out⟩
end Go.Proofs.YtdodgcapihfkkaaDoor

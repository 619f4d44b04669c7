/- Texts that stood apart, in one: EqI, LW1, LW2, LW5. -/
import Derived.Test.YtmmolapkddbibaaDoorLet0
import Derived.Test.YtmmolapkddbibaaDoorLib0
import Derived.Test.YtmmolapkddbibaaDoorChecked
import Derived.Test.YtmmolapkddbibaaDoorEqs
import Derived.Test.YtmmolapkddbibaaDoorShaR
/- Walks of slices.Equal over whole numbers and of baileenum.SameInts. -/
namespace Go.Proofs.YtmmolapkddbibaaDoor
open Go Go.RowKit Go.Proofs

set_option maxRecDepth 100000 in
set_option maxHeartbeats 400000 in
theorem equalI_any (va vb : Value) (xs ys : List Int) (w : World) (hA : Bl.Rd w .i64 va xs) (hB : Bl.Rd w .i64 vb ys) :
    Calls Tryd.prog 36 #[va, vb] w fun e w' => e = .returned (.bool (decide (xs = ys))) ∧ Bl.Ext w w' := by
  obtain ⟨pa, ca, hvfa, hvna, hvca⟩ := hA.form
  obtain ⟨pb, cb, hvfb, hvnb, hvcb⟩ := hB.form
  subst hvfa hvfb
  have Hva := Bl.hid hA
  have Hvb := Bl.hid hB
  unfold maxLen at hvca hvcb
  obtain ⟨n, hn⟩ : ∃ n, n = xs.length := ⟨_, rfl⟩
  obtain ⟨m, hm⟩ : ∃ m, m = ys.length := ⟨_, rfl⟩
  rw [← hn] at ⊢ hvna
  rw [← hm] at ⊢ hvnb
  have Hn := Bl.hid hn
  have Hm := Bl.hid hm
  clear hA hB hn hm
  by_cases hnm : n = m
  · subst hnm
    go_enter Tryd.func36, Tryd.ntmps36
    go_wp2_with fail
    go_loopw [13] (fun i wr => ∃ k : Nat, k ≤ n ∧ i = .int .i64 k ∧ Bl.Ext w wr ∧ Hid (xs.take k = ys.take k)) (fun i _ => n - (intOf i).toNat)
    case atStart => exact ⟨0, Nat.zero_le _, rfl, Below.refl _ _, Bl.hid rfl⟩
    case round =>
      obtain ⟨k, hk, rfl, hE, Htk⟩ := hrel
      have HE := Bl.hid hE
      clear hE
      by_cases hlt : k < n
      · have hla : k < xs.length := by rw [← Hn.out]; exact hlt
        have hlb : k < ys.length := by rw [← Hm.out]; exact hlt
        obtain ⟨b1, o1, c1, hpa, _, _, _, _, hel1⟩ := Bl.Rd.pos (Hva.out.ext HE.out) (by omega)
        obtain ⟨b2, o2, c2, hpb, _, _, _, _, hel2⟩ := Bl.Rd.pos (Hvb.out.ext HE.out) (by omega)
        injection hpa with hp1 hp2 hp3
        injection hpb with hq1 hq2 hq3
        subst hp1 hq1
        have hcell1 := hel1 k hla
        have hcell2 := hel2 k hlb
        have Ht1 := Bl.hid (Bl.take_succ_getDD 0 xs k hla)
        have Ht2 := Bl.hid (Bl.take_succ_getDD 0 ys k hlb)
        obtain ⟨x, hx⟩ : ∃ x, x = xs.getD k 0 := ⟨_, rfl⟩
        obtain ⟨y, hy⟩ : ∃ y, y = ys.getD k 0 := ⟨_, rfl⟩
        rw [← hx] at hcell1 Ht1
        rw [← hy] at hcell2 Ht2
        have Hx := Bl.hid hx
        have Hy := Bl.hid hy
        clear hel1 hel2 hp2 hp3 hq2 hq3 hx hy hla hlb
        by_cases hxy : x = y
        · subst hxy
          go_wp2_with fail
          go_quiet (fail)
          go_wp2_with fail
          go_roundw
          case rel => exact ⟨k + 1, by omega, by go_num, HE.out.trans ((Below.refl _ _).drewN _), Bl.hid (by rw [Ht1.out, Ht2.out, Htk.out])⟩
          case measure => simp [intOf]; omega
        · have hq : (x == y) = false := by rw [beq_eq_false_iff_ne]; exact hxy
          have Hne : Hid (¬ xs = ys) := Bl.hid fun q => hxy (by rw [Hx.out, Hy.out, q])
          go_wp2_with fail
          go_quiet (fail)
          go_wp2_with fail
          go_ret
          exact ⟨by rw [decide_eq_false Hne.out]; rfl, HE.out.trans ((Below.refl _ _).drewN _)⟩
      · obtain rfl : k = n := by omega
        have Heq : Hid (xs = ys) := Bl.hid (by
          have h := Htk.out
          rwa [List.take_of_length_le (by rw [← Hn.out]; exact Nat.le_refl _), List.take_of_length_le (by rw [← Hm.out]; exact Nat.le_refl _)] at h)
        go_wp2_with fail
        go_ret
        exact ⟨by rw [decide_eq_true Heq.out]; rfl, HE.out⟩
  · have Hne : Hid (¬ xs = ys) := Bl.hid fun q => hnm (by rw [Hn.out, Hm.out, q])
    have hnm' : ((n : Int) == (m : Int)) = false := by rw [beq_eq_false_iff_ne]; omega
    go_enter Tryd.func36, Tryd.ntmps36
    go_wp2_with fail
    go_ret
    exact ⟨by rw [decide_eq_false Hne.out]; rfl, Below.refl _ _⟩

set_option maxRecDepth 100000 in
set_option maxHeartbeats 400000 in
theorem sameints_any (va vb : Value) (xs ys : List Int) (w : World) (hA : Bl.Rd w .i64 va xs) (hB : Bl.Rd w .i64 vb ys) :
    Calls Tryd.prog 34 #[va, vb] w fun e w' => e = .returned (.bool (decide (xs = ys))) ∧ Bl.Ext w w' := by
  obtain ⟨pa, ca, hvfa, hvna, hvca⟩ := hA.form
  obtain ⟨pb, cb, hvfb, hvnb, hvcb⟩ := hB.form
  subst hvfa hvfb
  have Hva := Bl.hid hA
  have Hvb := Bl.hid hB
  unfold maxLen at hvca hvcb
  obtain ⟨n, hn⟩ : ∃ n, n = xs.length := ⟨_, rfl⟩
  obtain ⟨m, hm⟩ : ∃ m, m = ys.length := ⟨_, rfl⟩
  rw [← hn] at ⊢ hvna
  rw [← hm] at ⊢ hvnb
  have Hn := Bl.hid hn
  have Hm := Bl.hid hm
  clear hA hB hn hm
  by_cases hnm : n = m
  · subst hnm
    go_enter Tryd.func34, Tryd.ntmps34
    go_wp2_with fail
    go_loopw [13] (fun i wr => ∃ k : Nat, k ≤ n ∧ i = .int .i64 k ∧ Bl.Ext w wr ∧ Hid (xs.take k = ys.take k)) (fun i _ => n - (intOf i).toNat)
    case atStart => exact ⟨0, Nat.zero_le _, rfl, Below.refl _ _, Bl.hid rfl⟩
    case round =>
      obtain ⟨k, hk, rfl, hE, Htk⟩ := hrel
      have HE := Bl.hid hE
      clear hE
      by_cases hlt : k < n
      · have hla : k < xs.length := by rw [← Hn.out]; exact hlt
        have hlb : k < ys.length := by rw [← Hm.out]; exact hlt
        obtain ⟨b1, o1, c1, hpa, _, _, _, _, hel1⟩ := Bl.Rd.pos (Hva.out.ext HE.out) (by omega)
        obtain ⟨b2, o2, c2, hpb, _, _, _, _, hel2⟩ := Bl.Rd.pos (Hvb.out.ext HE.out) (by omega)
        injection hpa with hp1 hp2 hp3
        injection hpb with hq1 hq2 hq3
        subst hp1 hq1
        have hcell1 := hel1 k hla
        have hcell2 := hel2 k hlb
        have Ht1 := Bl.hid (Bl.take_succ_getDD 0 xs k hla)
        have Ht2 := Bl.hid (Bl.take_succ_getDD 0 ys k hlb)
        obtain ⟨x, hx⟩ : ∃ x, x = xs.getD k 0 := ⟨_, rfl⟩
        obtain ⟨y, hy⟩ : ∃ y, y = ys.getD k 0 := ⟨_, rfl⟩
        rw [← hx] at hcell1 Ht1
        rw [← hy] at hcell2 Ht2
        have Hx := Bl.hid hx
        have Hy := Bl.hid hy
        clear hel1 hel2 hp2 hp3 hq2 hq3 hx hy hla hlb
        by_cases hxy : x = y
        · subst hxy
          go_wp2_with fail
          go_quiet (fail)
          go_wp2_with fail
          go_roundw
          case rel => exact ⟨k + 1, by omega, by go_num, HE.out.trans ((Below.refl _ _).drewN _), Bl.hid (by rw [Ht1.out, Ht2.out, Htk.out])⟩
          case measure => simp [intOf]; omega
        · have hq : (x == y) = false := by rw [beq_eq_false_iff_ne]; exact hxy
          have Hne : Hid (¬ xs = ys) := Bl.hid fun q => hxy (by rw [Hx.out, Hy.out, q])
          go_wp2_with fail
          go_quiet (fail)
          go_wp2_with fail
          go_ret
          exact ⟨by rw [decide_eq_false Hne.out]; rfl, HE.out.trans ((Below.refl _ _).drewN _)⟩
      · obtain rfl : k = n := by omega
        have Heq : Hid (xs = ys) := Bl.hid (by
          have h := Htk.out
          rwa [List.take_of_length_le (by rw [← Hn.out]; exact Nat.le_refl _), List.take_of_length_le (by rw [← Hm.out]; exact Nat.le_refl _)] at h)
        go_wp2_with fail
        go_ret
        exact ⟨by rw [decide_eq_true Heq.out]; rfl, HE.out⟩
  · have Hne : Hid (¬ xs = ys) := Bl.hid fun q => hnm (by rw [Hn.out, Hm.out, q])
    have hnm' : ((n : Int) == (m : Int)) = false := by rw [beq_eq_false_iff_ne]; omega
    go_enter Tryd.func34, Tryd.ntmps34
    go_wp2_with fail
    go_ret
    exact ⟨by rw [decide_eq_false Hne.out]; rfl, Below.refl _ _⟩

end Go.Proofs.YtmmolapkddbibaaDoor

/- Walks of slices.Equal over digests, Shown.same, slices.EqualFunc over shown blocks and over bytes. -/
namespace Go.Proofs.YtmmolapkddbibaaDoor
open Go Go.RowKit Go.Proofs

set_option maxRecDepth 100000 in
set_option maxHeartbeats 400000 in
theorem equalD_any (va vb : Value) (xs ys : List (List Int)) (w : World) (hA : Bl.RdD w va xs) (hB : Bl.RdD w vb ys) (hdx : Bl.Dig xs) (hdy : Bl.Dig ys) :
    Calls Tryd.prog 60 #[va, vb] w fun e w' => e = .returned (.bool (decide (xs = ys))) ∧ Bl.Ext w w' := by
  obtain ⟨pa, ca, hvfa, hvna, hvca⟩ := hA.form
  obtain ⟨pb, cb, hvfb, hvnb, hvcb⟩ := hB.form
  subst hvfa hvfb
  have HA := Bl.hid hA
  have HB := Bl.hid hB
  have Hdx := Bl.hid hdx
  have Hdy := Bl.hid hdy
  unfold maxLen at hvca hvcb
  obtain ⟨n, hn⟩ : ∃ n, n = xs.length := ⟨_, rfl⟩
  obtain ⟨m, hm⟩ : ∃ m, m = ys.length := ⟨_, rfl⟩
  rw [← hn] at ⊢ hvna
  rw [← hm] at ⊢ hvnb
  have Hn := Bl.hid hn
  have Hm := Bl.hid hm
  clear hA hB hdx hdy hn hm
  by_cases hnm : n = m
  · subst hnm
    go_enter Tryd.func60, Tryd.ntmps60
    go_wp2_with fail
    go_loopw [13] (fun i wr => ∃ k : Nat, k ≤ n ∧ i = .int .i64 k ∧ Bl.Ext w wr ∧ Hid (xs.take k = ys.take k)) (fun i _ => n - (intOf i).toNat)
    case atStart => exact ⟨0, Nat.zero_le _, rfl, Below.refl _ _, Bl.hid rfl⟩
    case round =>
      obtain ⟨k, hk, rfl, hE, Htk⟩ := hrel
      have HE := Bl.hid hE
      clear hE
      by_cases hlt : k < n
      · have hla : k < xs.length := by rw [← Hn.out]; exact hlt
        have hlb : k < ys.length := by rw [← Hm.out]; exact hlt
        obtain ⟨b1, o1, c1, hpa, hpa1, hpa2, hbl1, hrg1⟩ := Bl.RdD.pos (Bl.Rds.ext HA.out HE.out) Hdx.out (by omega)
        obtain ⟨b2, o2, c2, hpb, hpb1, hpb2, hbl2, hrg2⟩ := Bl.RdD.pos (Bl.Rds.ext HB.out HE.out) Hdy.out (by omega)
        injection hpa with hpa hpa3 hpa4
        injection hpb with hpb hpb3 hpb4
        clear hpa3 hpa4 hpb3 hpb4
        subst hpa hpb
        have hr1 := Bl.digit_at hrg1 Hdx.out (i := k) hla
        have hr2 := Bl.digit_at hrg2 Hdy.out (i := k) hlb
        obtain ⟨hl1, _⟩ := Hdx.out.get (i := k) hla
        obtain ⟨hl2, _⟩ := Hdy.out.get (i := k) hlb
        have Ht1 := Bl.hid (Bl.take_snocD xs k hla)
        have Ht2 := Bl.hid (Bl.take_snocD ys k hlb)
        obtain ⟨x, hx⟩ : ∃ x, x = xs.getD k [] := ⟨_, rfl⟩
        obtain ⟨y, hy⟩ : ∃ y, y = ys.getD k [] := ⟨_, rfl⟩
        rw [← hx] at hr1 hl1 Ht1
        rw [← hy] at hr2 hl2 Ht2
        have HL1 : Hid (∀ w2, Bl.Ext wr w2 → (Instr.loadAt 70 (.pointer (some ⟨b1, o1 + k * 32, none⟩))).run Tryd.prog w2 = .ok (.agg (Bl.ints .u8 x).toArray) w2) := Bl.hid fun w2 h2 => Bl.load_ints (Bl.rangeAt_ext hr1 h2) Tryd.underlying70 (by kernel_rfl) hl1
        have HL2 : Hid (∀ w2, Bl.Ext wr w2 → (Instr.loadAt 70 (.pointer (some ⟨b2, o2 + k * 32, none⟩))).run Tryd.prog w2 = .ok (.agg (Bl.ints .u8 y).toArray) w2) := Bl.hid fun w2 h2 => Bl.load_ints (Bl.rangeAt_ext hr2 h2) Tryd.underlying70 (by kernel_rfl) hl2
        have Hx := Bl.hid hx
        have Hy := Bl.hid hy
        have Hq : Hid (∀ w, (Op.equalIn 10000 70 (.agg (Bl.ints .u8 x).toArray) (.agg (Bl.ints .u8 y).toArray)).run Tryd.prog w = .ok (decide (x = y)) w) := Bl.hid fun w => Bl.eq10k Tryd.underlying70 Tryd.underlying5 (fun w => by simp [go_sem]) x y hl1 hl2 w
        clear hr1 hr2 hl1 hl2 hrg1 hrg2 hbl1 hbl2 hx hy hla hlb hpa1 hpa2 hpb1 hpb2
        have hk0 : (0 : Int) ≤ (k : Int) := by omega
        have hkl : (k : Int) < (n : Int) := by omega
        by_cases hxy : x = y
        · have heq := Hq.out
          rw [decide_eq_true hxy] at heq
          have Hxy := Bl.hid hxy
          clear hxy Hq
          go_wp2_with fail
          apply Bl.wp_region_ev 8 [16, 17, 18, 19, 20, 21, 22, 23] [Bl.eqv _, Bl.eqv _, Bl.eqv _, Bl.eqv _, Bl.eqv _, Bl.eqv _, Bl.eqv _, Bl.eqv _] (by kernel_rfl) (by kernel_rfl) (by kernel_rfl) (by kernel_rfl)
          case hsteps =>
            refine ⟨?_, ?_, ?_, ?_, ?_, ?_, ?_, ?_, trivial⟩
            all_goals
              intro ev w1 hext hb hd
              have e0 := hb 0 (by decide)
              have e1 := hb 1 (by decide)
              have e5 := hb 5 (by decide)
              clear hb
              simp only [Array.getD_eq_getD_getElem?, List.getElem?_toArray, List.getElem?_cons_succ, List.getElem?_cons_zero, Option.getD_some] at e0 e1 e5
              simp only [Bl.DepsE, List.getElem?_cons_succ, List.getElem?_cons_zero, Option.bind_some, List.getD_cons_succ, List.getD_cons_zero, Bl.eqv, and_true] at hd
              have hc := (Bl.bcell hext).1
              simp only [Bl.Good, Region.wanted, if_true]
              first
              | ((with_reducible refine Bl.goodR_load ?_ (HL1.out _ hext) ?_); exact hd; exact rfl) | ((with_reducible refine Bl.goodR_load ?_ (HL2.out _ hext) ?_); exact hd; exact rfl)
              | (go_simp; first | exact ⟨Below.refl _ _, rfl⟩ | exact ⟨Below.refl _ _, rfl⟩)
          case hmono => exact ⟨Bl.mono_eqv _, Bl.mono_eqv _, Bl.mono_eqv _, Bl.mono_eqv _, Bl.mono_eqv _, Bl.mono_eqv _, Bl.mono_eqv _, Bl.mono_eqv _, trivial⟩
          case hend =>
            intro u w1 hext hend
            simp only [Bl.EndE, List.getElem?_cons_succ, List.getElem?_cons_zero, Option.bind_some, List.getD_cons_succ, List.getD_cons_zero, Bl.eqv, true_and] at hend
            simp only [Bl.fillAct, List.setIfInBounds_toArray, List.set_cons_succ, List.set_cons_zero, List.drop_succ_cons, List.drop_zero, hend]
            have HE2 := Bl.hid (HE.out.trans hext)
            clear hext hend
            go_wp2_with fail
            go_roundw
            case rel => exact ⟨k + 1, by omega, by go_num, HE2.out, Bl.hid (by rw [Ht1.out, Ht2.out, Htk.out, Hxy.out])⟩
            case measure => simp [intOf]; omega
        · have heq := Hq.out
          rw [decide_eq_false hxy] at heq
          have Hne : Hid (¬ xs = ys) := Bl.hid fun q => hxy (by rw [Hx.out, Hy.out, q])
          clear hxy Hq
          go_wp2_with fail
          apply Bl.wp_region_ev 8 [16, 17, 18, 19, 20, 21, 22, 23] [Bl.eqv _, Bl.eqv _, Bl.eqv _, Bl.eqv _, Bl.eqv _, Bl.eqv _, Bl.eqv _, Bl.eqv _] (by kernel_rfl) (by kernel_rfl) (by kernel_rfl) (by kernel_rfl)
          case hsteps =>
            refine ⟨?_, ?_, ?_, ?_, ?_, ?_, ?_, ?_, trivial⟩
            all_goals
              intro ev w1 hext hb hd
              have e0 := hb 0 (by decide)
              have e1 := hb 1 (by decide)
              have e5 := hb 5 (by decide)
              clear hb
              simp only [Array.getD_eq_getD_getElem?, List.getElem?_toArray, List.getElem?_cons_succ, List.getElem?_cons_zero, Option.getD_some] at e0 e1 e5
              simp only [Bl.DepsE, List.getElem?_cons_succ, List.getElem?_cons_zero, Option.bind_some, List.getD_cons_succ, List.getD_cons_zero, Bl.eqv, and_true] at hd
              have hc := (Bl.bcell hext).1
              simp only [Bl.Good, Region.wanted, if_true]
              first
              | ((with_reducible refine Bl.goodR_load ?_ (HL1.out _ hext) ?_); exact hd; exact rfl) | ((with_reducible refine Bl.goodR_load ?_ (HL2.out _ hext) ?_); exact hd; exact rfl)
              | (go_simp; first | exact ⟨Below.refl _ _, rfl⟩ | exact ⟨Below.refl _ _, rfl⟩)
          case hmono => exact ⟨Bl.mono_eqv _, Bl.mono_eqv _, Bl.mono_eqv _, Bl.mono_eqv _, Bl.mono_eqv _, Bl.mono_eqv _, Bl.mono_eqv _, Bl.mono_eqv _, trivial⟩
          case hend =>
            intro u w1 hext hend
            simp only [Bl.EndE, List.getElem?_cons_succ, List.getElem?_cons_zero, Option.bind_some, List.getD_cons_succ, List.getD_cons_zero, Bl.eqv, true_and] at hend
            simp only [Bl.fillAct, List.setIfInBounds_toArray, List.set_cons_succ, List.set_cons_zero, List.drop_succ_cons, List.drop_zero, hend]
            have HE2 := Bl.hid (HE.out.trans hext)
            clear hext hend
            go_wp2_with fail
            go_ret
            exact ⟨by rw [decide_eq_false Hne.out]; rfl, HE2.out⟩
      · obtain rfl : k = n := by omega
        have Heq : Hid (xs = ys) := Bl.hid (by
          have h := Htk.out
          rwa [List.take_of_length_le (by rw [← Hn.out]; exact Nat.le_refl _), List.take_of_length_le (by rw [← Hm.out]; exact Nat.le_refl _)] at h)
        go_wp2_with fail
        go_ret
        exact ⟨by rw [decide_eq_true Heq.out]; rfl, HE.out⟩
  · have Hne : Hid (¬ xs = ys) := Bl.hid fun q => hnm (by rw [Hn.out, Hm.out, q])
    have hnm' : ((n : Int) == (m : Int)) = false := by rw [beq_eq_false_iff_ne]; omega
    go_enter Tryd.func60, Tryd.ntmps60
    go_wp2_with fail
    go_ret
    exact ⟨by rw [decide_eq_false Hne.out]; rfl, Below.refl _ _⟩

set_option maxRecDepth 100000 in
set_option maxHeartbeats 400000 in
theorem shsame_any (x y : Bl.Sv) (w : World) (hx : Bl.OkS w x) (hy : Bl.OkS w y) :
    Calls Tryd.prog 38 #[.agg (Bl.cS x).toArray, .agg (Bl.cS y).toArray] w fun e w' => e = .returned (.bool (decide (Bl.plS x = Bl.plS y))) ∧ Bl.Ext w w' := by
  obtain ⟨n1, ⟨v1, l1⟩, u1, d1⟩ := x
  obtain ⟨n2, ⟨v2, l2⟩, u2, d2⟩ := y
  obtain ⟨hst1, hbs1, hpa1, hdg1⟩ := hx
  obtain ⟨hst2, hbs2, hpa2, hdg2⟩ := hy
  have HEq : Hid (∀ w2, Bl.Ext w w2 → Calls Tryd.prog 40 #[v1, v2] w2 fun e w' => e = .returned (.bool (decide (l1 = l2))) ∧ w2 = w') := Bl.hid fun w2 h2 => equalB_any v1 v2 l1 l2 w2 (hst1.ext h2) (hst2.ext h2) hbs1 hbs2
  have HEd : Hid (∀ w2, Bl.Ext w w2 → Calls Tryd.prog 60 #[u1, u2] w2 fun e w' => e = .returned (.bool (decide (d1 = d2))) ∧ Bl.Ext w2 w') := Bl.hid fun w2 h2 => equalD_any u1 u2 d1 d2 w2 (Bl.Rds.ext hpa1 h2) (Bl.Rds.ext hpa2 h2) hdg1 hdg2
  have HD : Hid (decide (Bl.plS (n1, (v1, l1), u1, d1) = Bl.plS (n2, (v2, l2), u2, d2)) = (decide (n1 = n2) && decide (l1 = l2) && decide (d1 = d2))) := Bl.hid (by
    rw [Bool.eq_iff_iff]; simp [Bl.plS, and_assoc])
  clear hst1 hbs1 hpa1 hdg1 hst2 hbs2 hpa2 hdg2
  have HE0 := Bl.hid ((Bl.ext_alloc w (.cells #[.int .i64 n1, v1, u1] 65)).trans (Bl.ext_alloc (w.alloc (.cells #[.int .i64 n1, v1, u1] 65)) (.cells #[.int .i64 n2, v2, u2] 65)))
  show Calls Tryd.prog 38 #[.agg #[.int .i64 n1, v1, u1], .agg #[.int .i64 n2, v2, u2]] w _
  go_enter Tryd.func38, Tryd.ntmps38
  by_cases h1 : n1 = n2
  · subst h1
    go_wp2_with fail
    refine (HEq.out _ HE0.out).mono ?_
    rintro e w1 ⟨rfl, hw1⟩
    subst hw1
    by_cases h2 : l1 = l2
    · have h2d := decide_eq_true h2
      rw [h2d]
      have HD2 : Hid (decide (Bl.plS (n1, (v1, l1), u1, d1) = Bl.plS (n1, (v2, l2), u2, d2)) = decide (d1 = d2)) := Bl.hid (by rw [HD.out, h2d]; simp)
      clear h2 h2d
      go_wp2_with fail
      refine (HEd.out _ HE0.out).mono ?_
      rintro e w1 ⟨rfl, hE1⟩
      have HE1 := Bl.hid (HE0.out.trans hE1)
      clear hE1
      generalize decide (d1 = d2) = q at *
      cases q
      · go_wp2_with fail
        go_ret
        exact ⟨by rw [HD2.out]; rfl, HE1.out⟩
      · go_wp2_with fail
        go_ret
        exact ⟨by rw [HD2.out]; rfl, HE1.out⟩
    · have h2d := decide_eq_false h2
      rw [h2d]
      have HD2 : Hid (decide (Bl.plS (n1, (v1, l1), u1, d1) = Bl.plS (n1, (v2, l2), u2, d2)) = false) := Bl.hid (by rw [HD.out, h2d]; simp)
      clear h2 h2d
      go_wp2_with fail
      go_ret
      exact ⟨by rw [HD2.out]; rfl, HE0.out⟩
  · have h1d : (n1 == n2) = false := by rw [beq_eq_false_iff_ne]; exact h1
    have HD2 : Hid (decide (Bl.plS (n1, (v1, l1), u1, d1) = Bl.plS (n2, (v2, l2), u2, d2)) = false) := Bl.hid (by rw [HD.out, decide_eq_false h1]; rfl)
    go_wp2_with fail
    go_ret
    exact ⟨by rw [HD2.out]; rfl, HE0.out⟩
end Go.Proofs.YtmmolapkddbibaaDoor

/- Walks of slices.EqualFunc over shown blocks and over bytes, letter.Same. -/
namespace Go.Proofs.YtmmolapkddbibaaDoor
open Go Go.RowKit Go.Proofs

set_option maxRecDepth 100000 in
set_option maxHeartbeats 1000000 in
theorem eqfS_any (va vb : Value) (L M : List Bl.Sv) (w : World) (hA : Bl.RdS w va L) (hB : Bl.RdS w vb M) :
    Calls Tryd.prog 37 #[va, vb, .func (.func 38) #[] #[]] w fun e w' => e = .returned (.bool (decide (L.map Bl.plS = M.map Bl.plS))) ∧ Bl.Ext w w' := by
  obtain ⟨pa, ca, hvfa, hvna, hvca⟩ := hA.rd.form
  obtain ⟨pb, cb, hvfb, hvnb, hvcb⟩ := hB.rd.form
  subst hvfa hvfb
  have HA := Bl.hid hA
  have HB := Bl.hid hB
  unfold maxLen at hvca hvcb
  obtain ⟨n, hn⟩ : ∃ n, n = L.length := ⟨_, rfl⟩
  obtain ⟨m, hm⟩ : ∃ m, m = M.length := ⟨_, rfl⟩
  rw [← hn] at ⊢ hvna
  rw [← hm] at ⊢ hvnb
  have Hn := Bl.hid hn
  have Hm := Bl.hid hm
  clear hA hB hn hm
  by_cases hnm : n = m
  · subst hnm
    go_enter Tryd.func37, Tryd.ntmps37
    go_wp2_with fail
    go_loopw [17] (fun i wr => ∃ k : Nat, k ≤ n ∧ i = .int .i64 k ∧ Bl.Ext w wr ∧ Hid ((L.map Bl.plS).take k = (M.map Bl.plS).take k)) (fun i _ => n - (intOf i).toNat)
    case atStart => exact ⟨0, Nat.zero_le _, rfl, Below.refl _ _, Bl.hid rfl⟩
    case round =>
      obtain ⟨k, hk, rfl, hE, Htk⟩ := hrel
      have HE := Bl.hid hE
      clear hE
      by_cases hlt : k < n
      · have hla : k < L.length := by rw [← Hn.out]; exact hlt
        have hlb : k < M.length := by rw [← Hm.out]; exact hlt
        obtain ⟨b1, o1, c1, hpa, _, _, _, hel1⟩ := (HA.out.ext HE.out).pos (by omega)
        obtain ⟨b2, o2, c2, hpb, _, _, _, hel2⟩ := (HB.out.ext HE.out).pos (by omega)
        injection hpa with hp1 hp2 hp3
        injection hpb with hq1 hq2 hq3
        subst hp1 hq1
        have hr1 := hel1 k hla
        have hr2 := hel2 k hlb
        have hok1 := (HA.out.ext HE.out).ok _ (Bl.getD_mem Bl.s0 hla)
        have hok2 := (HB.out.ext HE.out).ok _ (Bl.getD_mem Bl.s0 hlb)
        have Ht1 : Hid ((L.map Bl.plS).take (k + 1) = (L.map Bl.plS).take k ++ [Bl.plS (L.getD k Bl.s0)]) := Bl.hid (by rw [← Bl.plS_getD]; exact Bl.take_succ_getDD Bl.h0 (L.map Bl.plS) k (by simpa using hla))
        have Ht2 : Hid ((M.map Bl.plS).take (k + 1) = (M.map Bl.plS).take k ++ [Bl.plS (M.getD k Bl.s0)]) := Bl.hid (by rw [← Bl.plS_getD]; exact Bl.take_succ_getDD Bl.h0 (M.map Bl.plS) k (by simpa using hlb))
        have Hne : Hid (¬ Bl.plS (L.getD k Bl.s0) = Bl.plS (M.getD k Bl.s0) → ¬ L.map Bl.plS = M.map Bl.plS) := Bl.hid fun h q => h (by rw [← Bl.plS_getD, ← Bl.plS_getD, q])
        obtain ⟨x, hx⟩ : ∃ x, x = L.getD k Bl.s0 := ⟨_, rfl⟩
        obtain ⟨y, hy⟩ : ∃ y, y = M.getD k Bl.s0 := ⟨_, rfl⟩
        rw [← hx] at hr1 hok1 Ht1 Hne
        rw [← hy] at hr2 hok2 Ht2 Hne
        have Hld1 := Bl.hid (run_loadAt_mid (P := Tryd.prog) wr b1 (o1 + k * 3) 65 _ _ hr1 Tryd.underlying65 rfl (by rw [Bl.cS_len]; kernel_rfl))
        obtain ⟨hB8, hE8⟩ := Bl.BoxC.fresh (cs := Bl.cS x) wr 65 Bl.zSh rfl (Bl.cS_ne x)
        have Hst1 := Bl.hid (Bl.fresh_store (P := Tryd.prog) (cs := Bl.cS x) wr 65 Bl.zSh rfl (Bl.cS_one hok1) (ty := 65) (by rw [Bl.cS_len]; kernel_rfl))
        have HB8 := Bl.hid hB8
        have HE8 := Bl.hid hE8
        have Hok1 := Bl.hid hok1
        have Hok2 := Bl.hid hok2
        have Hr2 := Bl.hid hr2
        clear hel1 hel2 hp2 hp3 hq2 hq3 hx hy hla hlb hr1 hr2 hok1 hok2 hB8 hE8
        have hk0 : (0 : Int) ≤ (k : Int) := by omega
        have hkl : (k : Int) < (n : Int) := by omega
        go_wp2_with (with_reducible refine Bl.stop_load (ty := 65) ?_)
        refine Bl.go_on ?_
        refine Bl.wpL_load rfl Hld1.out ?_
        go_wp2_with (with_reducible refine Bl.stop_store (ty := 65) ?_)
        refine Bl.go_on ?_
        refine Bl.wpL_store0 rfl rfl Hst1.out ?_
        obtain ⟨W8, hW8⟩ : ∃ W8, W8 = (wr.alloc (.cells Bl.zSh 65)).setCells wr.heap.size 0 (Bl.cS x) := ⟨_, rfl⟩
        obtain ⟨X8, hX8⟩ : ∃ X8, X8 = wr.heap.size := ⟨_, rfl⟩
        rw [← hW8] at HB8 HE8 ⊢
        rw [← hX8] at HB8 ⊢
        clear hW8 hX8 Hst1 Hld1
        have Hld2 := Bl.hid (run_loadAt_mid (P := Tryd.prog) W8 b2 (o2 + k * 3) 65 _ _ (Bl.rangeAt_ext Hr2.out HE8.out) Tryd.underlying65 rfl (by rw [Bl.cS_len]; kernel_rfl))
        obtain ⟨hB9, hE9⟩ := Bl.BoxC.fresh (cs := Bl.cS y) W8 65 Bl.zSh rfl (Bl.cS_ne y)
        have Hst2 := Bl.hid (Bl.fresh_store (P := Tryd.prog) (cs := Bl.cS y) W8 65 Bl.zSh rfl (Bl.cS_one Hok2.out) (ty := 65) (by rw [Bl.cS_len]; kernel_rfl))
        have HB9 := Bl.hid hB9
        have HB89 := Bl.hid (HB8.out.ext hE9)
        have HE9 := Bl.hid (HE8.out.trans hE9)
        clear hB9 hE9
        go_wp2_with (with_reducible refine Bl.stop_load (ty := 65) ?_)
        refine Bl.go_on ?_
        refine Bl.wpL_load rfl Hld2.out ?_
        go_wp2_with (with_reducible refine Bl.stop_store (ty := 65) ?_)
        refine Bl.go_on ?_
        refine Bl.wpL_store0 rfl rfl Hst2.out ?_
        obtain ⟨W9, hW9⟩ : ∃ W9, W9 = (W8.alloc (.cells Bl.zSh 65)).setCells W8.heap.size 0 (Bl.cS y) := ⟨_, rfl⟩
        obtain ⟨X9, hX9⟩ : ∃ X9, X9 = W8.heap.size := ⟨_, rfl⟩
        rw [← hW9] at HB9 HB89 HE9 ⊢
        rw [← hX9] at HB9 ⊢
        clear hW9 hX9 Hst2 Hld2 HB8 HE8
        have Hl8 := Bl.hid (HB89.out.load (P := Tryd.prog) Tryd.underlying65 rfl (by rw [Bl.cS_len]; kernel_rfl))
        have Hl9 := Bl.hid (HB9.out.load (P := Tryd.prog) Tryd.underlying65 rfl (by rw [Bl.cS_len]; kernel_rfl))
        go_wp2_with (with_reducible refine Bl.stop_load (ty := 65) ?_)
        refine Bl.go_on ?_
        refine Bl.wpL_load rfl Hl8.out ?_
        go_wp2_with (with_reducible refine Bl.stop_load (ty := 65) ?_)
        refine Bl.go_on ?_
        refine Bl.wpL_load rfl Hl9.out ?_
        go_wp2_with fail
        refine (shsame_any x y W9 (Hok1.out.ext HE9.out) (Hok2.out.ext HE9.out)).mono ?_
        rintro e w1 ⟨rfl, hE1⟩
        have HE1 := Bl.hid ((HE.out.trans HE9.out).trans hE1)
        clear hE1
        by_cases hxy : Bl.plS x = Bl.plS y
        · have hd := decide_eq_true hxy
          have Hxy := Bl.hid hxy
          rw [hd]
          clear hd hxy
          go_wp2_with fail
          go_roundw
          case rel => exact ⟨k + 1, by omega, by go_num, HE1.out, Bl.hid (by rw [Ht1.out, Ht2.out, Htk.out, Hxy.out])⟩
          case measure => simp [intOf]; omega
        · have hd := decide_eq_false hxy
          have Hne2 := Bl.hid (Hne.out hxy)
          rw [hd]
          clear hd hxy
          go_wp2_with fail
          go_ret
          exact ⟨by rw [decide_eq_false Hne2.out]; rfl, HE1.out⟩
      · obtain rfl : k = n := by omega
        have Heq : Hid (L.map Bl.plS = M.map Bl.plS) := Bl.hid (by
          have h := Htk.out
          rwa [List.take_of_length_le (by rw [List.length_map, ← Hn.out]; exact Nat.le_refl _), List.take_of_length_le (by rw [List.length_map, ← Hm.out]; exact Nat.le_refl _)] at h)
        go_wp2_with fail
        go_ret
        exact ⟨by rw [decide_eq_true Heq.out]; rfl, HE.out⟩
  · have Hne : Hid (¬ L.map Bl.plS = M.map Bl.plS) := Bl.hid fun q => hnm (by have := congrArg List.length q; rw [List.length_map, List.length_map] at this; rw [Hn.out, Hm.out, this])
    have hnm' : ((n : Int) == (m : Int)) = false := by rw [beq_eq_false_iff_ne]; omega
    go_enter Tryd.func37, Tryd.ntmps37
    go_wp2_with fail
    go_ret
    exact ⟨by rw [decide_eq_false Hne.out]; rfl, Below.refl _ _⟩

set_option maxRecDepth 100000 in
set_option maxHeartbeats 1000000 in
theorem eqfB_any (va vb : Value) (xs ys : List (List Int)) (w : World) (hA : Bl.Rdss w va xs) (hB : Bl.Rdss w vb ys) (hba : ∀ p ∈ xs, Bl.Byt p) (hbb : ∀ p ∈ ys, Bl.Byt p) :
    Calls Tryd.prog 39 #[va, vb, .func (.func 40) #[] #[]] w fun e w' => e = .returned (.bool (decide (xs = ys))) ∧ Bl.Ext w w' := by
  obtain ⟨wa, hva, hwla, hwsa⟩ := hA
  obtain ⟨wb, hvb, hwlb, hwsb⟩ := hB
  obtain ⟨pa, ca, hvfa, hvna, hvca⟩ := hva.form
  obtain ⟨pb, cb, hvfb, hvnb, hvcb⟩ := hvb.form
  subst hvfa hvfb
  have Hva := Bl.hid hva
  have Hvb := Bl.hid hvb
  have Hwsa := Bl.hid hwsa
  have Hwsb := Bl.hid hwsb
  have Hwla := Bl.hid hwla
  have Hwlb := Bl.hid hwlb
  have Hba := Bl.hid hba
  have Hbb := Bl.hid hbb
  unfold maxLen at hvca hvcb
  obtain ⟨n, hn⟩ : ∃ n, n = xs.length := ⟨_, rfl⟩
  obtain ⟨m, hm⟩ : ∃ m, m = ys.length := ⟨_, rfl⟩
  rw [← hn] at Hva ⊢ hvna
  rw [← hm] at Hvb ⊢ hvnb
  have Hn := Bl.hid hn
  have Hm := Bl.hid hm
  clear hva hvb hwsa hwsb hwla hwlb hba hbb hn hm
  by_cases hnm : n = m
  · subst hnm
    go_enter Tryd.func39, Tryd.ntmps39
    go_wp2_with fail
    go_loopw [17] (fun i wr => ∃ k : Nat, k ≤ n ∧ i = .int .i64 k ∧ wr = w ∧ Hid (xs.take k = ys.take k)) (fun i _ => n - (intOf i).toNat)
    case atStart => exact ⟨0, Nat.zero_le _, rfl, rfl, Bl.hid rfl⟩
    case round =>
      obtain ⟨k, hk, rfl, hwr, Htk⟩ := hrel
      subst hwr
      by_cases hlt : k < n
      · have hla : k < xs.length := by rw [← Hn.out]; exact hlt
        have hlb : k < ys.length := by rw [← Hm.out]; exact hlt
        obtain ⟨b1, o1, hpa, hbl1, hcell1⟩ := Bl.Rdss.cell' (ps := xs) (n := n) (by have := Hva.out; rw [Hn.out] at this ⊢; exact this) Hwla.out k hla
        obtain ⟨b2, o2, hpb, hbl2, hcell2⟩ := Bl.Rdss.cell' (ps := ys) (n := n) (by have := Hvb.out; rw [Hm.out] at this ⊢; exact this) Hwlb.out k hlb
        subst hpa hpb
        have hR1 := Hwsa.out k hla
        have hR2 := Hwsb.out k hlb
        have hbx : Bl.Byt (xs.getD k []) := Hba.out _ (Bl.getD_mem [] hla)
        have hby : Bl.Byt (ys.getD k []) := Hbb.out _ (Bl.getD_mem [] hlb)
        have Ht1 := Bl.hid (Bl.take_succ_getDD [] xs k hla)
        have Ht2 := Bl.hid (Bl.take_succ_getDD [] ys k hlb)
        have Hne : Hid (¬ xs.getD k [] = ys.getD k [] → ¬ xs = ys) := Bl.hid fun h q => h (by rw [q])
        obtain ⟨x, hx⟩ : ∃ x, x = xs.getD k [] := ⟨_, rfl⟩
        obtain ⟨y, hy⟩ : ∃ y, y = ys.getD k [] := ⟨_, rfl⟩
        rw [← hx] at hR1 hbx Ht1 Hne
        rw [← hy] at hR2 hby Ht2 Hne
        generalize wa.getD k undef = u1 at *
        generalize wb.getD k undef = u2 at *
        have HEq := Bl.hid (equalB_any u1 u2 x y wr hR1 hR2 hbx hby)
        clear hR1 hR2 hbl1 hbl2 hx hy hla hlb hbx hby
        go_wp2_with fail
        refine HEq.out.mono ?_
        rintro e w1 ⟨rfl, hw1⟩
        subst hw1
        by_cases hxy : x = y
        · have hd := decide_eq_true hxy
          have Hxy := Bl.hid hxy
          rw [hd]
          clear hd hxy
          go_wp2_with fail
          go_roundw
          case rel => exact ⟨k + 1, by omega, by go_num, trivial, Bl.hid (by rw [Ht1.out, Ht2.out, Htk.out, Hxy.out])⟩
          case measure => simp [intOf]; omega
        · have hd := decide_eq_false hxy
          have Hne2 := Bl.hid (Hne.out hxy)
          rw [hd]
          clear hd hxy
          go_wp2_with fail
          go_ret
          exact ⟨by rw [decide_eq_false Hne2.out]; rfl, Below.refl _ _⟩
      · obtain rfl : k = n := by omega
        have Heq : Hid (xs = ys) := Bl.hid (by
          have h := Htk.out
          rwa [List.take_of_length_le (by rw [← Hn.out]; exact Nat.le_refl _), List.take_of_length_le (by rw [← Hm.out]; exact Nat.le_refl _)] at h)
        go_wp2_with fail
        go_ret
        exact ⟨by rw [decide_eq_true Heq.out]; rfl, Below.refl _ _⟩
  · have Hne : Hid (¬ xs = ys) := Bl.hid fun q => hnm (by rw [Hn.out, Hm.out, q])
    have hnm' : ((n : Int) == (m : Int)) = false := by rw [beq_eq_false_iff_ne]; omega
    go_enter Tryd.func39, Tryd.ntmps39
    go_wp2_with fail
    go_ret
    exact ⟨by rw [decide_eq_false Hne.out]; rfl, Below.refl _ _⟩

set_option maxRecDepth 100000 in
set_option maxHeartbeats 1000000 in
theorem lsame_any (va vb : Value) (a b : Bl.LT) (w : World) (hA : Bl.LtV w va a) (hB : Bl.LtV w vb b) :
    Calls Tryd.prog 16 #[va, vb] w fun e w' => e = .returned (.bool (Bl.sameL a b)) ∧ Bl.Ext w w' := by
  obtain ⟨csa, pa, sa, ba, L, rfl, ha⟩ := hA
  obtain ⟨csb, pb, sb, bb, M, rfl, hb⟩ := hB
  obtain rfl := ha.eq
  obtain rfl := hb.eq
  have HI : Hid (∀ w2, Bl.Ext w w2 → Calls Tryd.prog 36 #[pa, pb] w2 fun e w' => e = .returned (.bool (decide (a.places = b.places))) ∧ Bl.Ext w2 w') := Bl.hid fun w2 h2 => equalI_any pa pb _ _ w2 (ha.pl.ext h2) (hb.pl.ext h2)
  have HS : Hid (∀ w2, Bl.Ext w w2 → Calls Tryd.prog 37 #[sa, sb, .func (.func 38) #[] #[]] w2 fun e w' => e = .returned (.bool (decide (a.shown = b.shown))) ∧ Bl.Ext w2 w') := Bl.hid fun w2 h2 => by
    rw [← ha.sl, ← hb.sl]; exact eqfS_any sa sb L M w2 (ha.sh.ext h2) (hb.sh.ext h2)
  have HB : Hid (∀ w2, Bl.Ext w w2 → Calls Tryd.prog 39 #[ba, bb, .func (.func 40) #[] #[]] w2 fun e w' => e = .returned (.bool (decide (a.blocks = b.blocks))) ∧ Bl.Ext w2 w') := Bl.hid fun w2 h2 => eqfB_any ba bb _ _ w2 (ha.bl.ext h2) (hb.bl.ext h2) ha.by' hb.by'
  have HD : Hid (Bl.sameL a b = (decide (a.nums = b.nums) && decide (a.places = b.places) && decide (a.shown = b.shown) && decide (a.blocks = b.blocks))) := Bl.hid (by
    rw [Bool.eq_iff_iff]; simp [Bl.sameL, Bl.LT.ext_iff', and_assoc])
  clear ha hb
  obtain ⟨k1, i1, j1, pl1, sh1, f1, c1, bl1, d1⟩ := a
  obtain ⟨k2, i2, j2, pl2, sh2, f2, c2, bl2, d2⟩ := b
  have heq : ∀ w, (Op.equalIn 10000 81 (.agg #[.int .i64 k1, .int .i64 i1, .int .i64 j1, .int .i64 f1, .int .i64 c1, .int .i64 d1]) (.agg #[.int .i64 k2, .int .i64 i2, .int .i64 j2, .int .i64 f2, .int .i64 c2, .int .i64 d2])).run Tryd.prog w = .ok (decide (Bl.LT.nums ⟨k1, i1, j1, pl1, sh1, f1, c1, bl1, d1⟩ = Bl.LT.nums ⟨k2, i2, j2, pl2, sh2, f2, c2, bl2, d2⟩)) w := fun w =>
    Bl.eq10k (k := .i64) Tryd.underlying81 Tryd.underlying3 (fun w => by simp [go_sem]) [k1, i1, j1, f1, c1, d1] [k2, i2, j2, f2, c2, d2] rfl rfl w
  obtain ⟨W0, hW0⟩ : ∃ W0, W0 = (w.alloc (.cells #[.int .i64 k1, .int .i64 i1, .int .i64 j1, pa, sa, .int .i64 f1, .int .i64 c1, ba, .int .i64 d1] 26)).alloc (.cells #[.int .i64 k2, .int .i64 i2, .int .i64 j2, pb, sb, .int .i64 f2, .int .i64 c2, bb, .int .i64 d2] 26) := ⟨_, rfl⟩
  have HE0 : Hid (Bl.Ext w W0) := Bl.hid (by rw [hW0]; exact (Bl.ext_alloc _ _).trans (Bl.ext_alloc _ _))
  have HBa : Hid (Bl.BoxC W0 w.heap.size (Bl.cL ⟨k1, i1, j1, pl1, sh1, f1, c1, bl1, d1⟩ pa sa ba)) := Bl.hid (by rw [hW0]; exact (Bl.BoxC.box w 26 (Bl.cL_ne _ _ _ _)).ext (Bl.ext_alloc _ _))
  have HBb : Hid (Bl.BoxC W0 (w.heap.size + 1) (Bl.cL ⟨k2, i2, j2, pl2, sh2, f2, c2, bl2, d2⟩ pb sb bb)) := Bl.hid (by
    rw [hW0]
    have h := Bl.BoxC.box (w.alloc (.cells #[.int .i64 k1, .int .i64 i1, .int .i64 j1, pa, sa, .int .i64 f1, .int .i64 c1, ba, .int .i64 d1] 26)) 26 (Bl.cL_ne ⟨k2, i2, j2, pl2, sh2, f2, c2, bl2, d2⟩ pb sb bb)
    rw [show (w.alloc (.cells #[.int .i64 k1, .int .i64 i1, .int .i64 j1, pa, sa, .int .i64 f1, .int .i64 c1, ba, .int .i64 d1] 26)).heap.size = w.heap.size + 1 from by simp] at h
    exact h)
  generalize decide (Bl.LT.nums ⟨k1, i1, j1, pl1, sh1, f1, c1, bl1, d1⟩ = Bl.LT.nums ⟨k2, i2, j2, pl2, sh2, f2, c2, bl2, d2⟩) = q1 at *
  simp only at HI HS HB HD
  generalize decide (pl1 = pl2) = q2 at *
  generalize decide (sh1 = sh2) = q3 at *
  generalize decide (bl1 = bl2) = q4 at *
  show Calls Tryd.prog 16 #[.agg #[.int .i64 k1, .int .i64 i1, .int .i64 j1, pa, sa, .int .i64 f1, .int .i64 c1, ba, .int .i64 d1], .agg #[.int .i64 k2, .int .i64 i2, .int .i64 j2, pb, sb, .int .i64 f2, .int .i64 c2, bb, .int .i64 d2]] w _
  go_enter Tryd.func16, Tryd.ntmps16
  cases q1
  · go_wp2_with fail
    go_ret
    refine ⟨by rw [HD.out]; rfl, ?_⟩
    rw [← hW0]; exact HE0.out
  go_wp2_with fail
  rw [← hW0]
  clear hW0
  refine (HI.out W0 HE0.out).mono ?_
  rintro e w1 ⟨rfl, hE1⟩
  have HE1 := Bl.hid (HE0.out.trans hE1)
  have HBa1 := Bl.hid (HBa.out.ext hE1)
  have HBb1 := Bl.hid (HBb.out.ext hE1)
  clear hE1 HBa HBb
  cases q2
  · go_wp2_with fail
    go_ret
    exact ⟨by rw [HD.out]; rfl, HE1.out⟩
  have ga := HBa1.out.cell (i := 4) rfl
  have gb := HBb1.out.cell (i := 4) rfl
  go_wp2_with fail
  refine (HS.out w1 HE1.out).mono ?_
  rintro e w2 ⟨rfl, hE2⟩
  have HE2 := Bl.hid (HE1.out.trans hE2)
  have HBa2 := Bl.hid (HBa1.out.ext hE2)
  have HBb2 := Bl.hid (HBb1.out.ext hE2)
  clear hE2 HBa1 HBb1 ga gb
  cases q3
  · go_wp2_with fail
    go_ret
    exact ⟨by rw [HD.out]; rfl, HE2.out⟩
  have ga := HBa2.out.cell (i := 7) rfl
  have gb := HBb2.out.cell (i := 7) rfl
  go_wp2_with fail
  refine (HB.out w2 HE2.out).mono ?_
  rintro e w3 ⟨rfl, hE3⟩
  have HE3 := Bl.hid (HE2.out.trans hE3)
  clear hE3 ga gb HBa2 HBb2
  cases q4
  · go_wp2_with fail
    go_ret
    exact ⟨by rw [HD.out]; rfl, HE3.out⟩
  · go_wp2_with fail
    go_ret
    exact ⟨by rw [HD.out]; rfl, HE3.out⟩
end Go.Proofs.YtmmolapkddbibaaDoor

/- Walk of baileeref22.Same. -/
namespace Go.Proofs.YtmmolapkddbibaaDoor
open Go Go.RowKit Go.Proofs

set_option maxRecDepth 100000 in
set_option maxHeartbeats 4000000 in
theorem rsame22_any (va vb : Value) (a b : Bl.LT) (w : World) (hA : Bl.LtV w va a) (hB : Bl.LtV w vb b) :
    Calls Tryd.prog 12 #[va, vb] w fun e w' => e = .returned (.bool (Bl.sameL a b)) ∧ Bl.Ext w w' := by
  obtain ⟨csa, pa, sa, ba, L, rfl, ha⟩ := hA
  obtain ⟨csb, pb, sb, bb, M, rfl, hb⟩ := hB
  obtain rfl := ha.eq
  obtain rfl := hb.eq
  have HI : Hid (∀ w2, Bl.Ext w w2 → Calls Tryd.prog 34 #[pa, pb] w2 fun e w' => e = .returned (.bool (decide (a.places = b.places))) ∧ Bl.Ext w2 w') := Bl.hid fun w2 h2 => sameints_any pa pb _ _ w2 (ha.pl.ext h2) (hb.pl.ext h2)
  have HB : Hid (∀ w2, Bl.Ext w w2 → Calls Tryd.prog 35 #[ba, bb] w2 fun e w' => e = .returned (.bool (decide (a.blocks = b.blocks))) ∧ Bl.Ext w2 w') := Bl.hid fun w2 h2 => samelists_any ba bb _ _ w2 (ha.bl.ext h2) (hb.bl.ext h2) ha.by' hb.by'
  have HD : Hid (Bl.sameL a b = (decide (a.nums = b.nums) && decide (a.places = b.places) && decide (a.shown = b.shown) && decide (a.blocks = b.blocks))) := Bl.hid (by
    rw [Bool.eq_iff_iff]; simp [Bl.sameL, Bl.LT.ext_iff', and_assoc])
  have HSa := Bl.hid ha.sh
  have HSb := Bl.hid hb.sh
  have Hma := Bl.hid ha.sl
  have Hmb := Bl.hid hb.sl
  obtain ⟨sp, sc, e1, hn1, hc1⟩ := ha.sh.rd.form
  obtain ⟨tp, tc, e2, hn2, hc2⟩ := hb.sh.rd.form
  subst e1 e2
  unfold maxLen at hc1 hc2
  obtain ⟨n1, hnn1⟩ : ∃ n1, n1 = L.length := ⟨_, rfl⟩
  obtain ⟨n2, hnn2⟩ : ∃ n2, n2 = M.length := ⟨_, rfl⟩
  have Hn1 := Bl.hid hnn1
  have Hn2 := Bl.hid hnn2
  rw [← hnn1] at HSa hn1 ⊢
  rw [← hnn2] at HSb hn2 ⊢
  clear ha hb hnn1 hnn2
  obtain ⟨k1, i1, j1, pl1, sh1, f1, c1, bl1, d1⟩ := a
  obtain ⟨k2, i2, j2, pl2, sh2, f2, c2, bl2, d2⟩ := b
  simp only at HI HB Hma Hmb
  obtain ⟨W0, hW0⟩ : ∃ W0, W0 = (w.alloc (.cells #[.int .i64 k1, .int .i64 i1, .int .i64 j1, pa, .slice sp n1 sc, .int .i64 f1, .int .i64 c1, ba, .int .i64 d1] 33)).alloc (.cells #[.int .i64 k2, .int .i64 i2, .int .i64 j2, pb, .slice tp n2 tc, .int .i64 f2, .int .i64 c2, bb, .int .i64 d2] 33) := ⟨_, rfl⟩
  have HE0 : Hid (Bl.Ext w W0) := Bl.hid (by rw [hW0]; exact (Bl.ext_alloc _ _).trans (Bl.ext_alloc _ _))
  have HBa : Hid (Bl.BoxC W0 w.heap.size (Bl.cL ⟨k1, i1, j1, pl1, sh1, f1, c1, bl1, d1⟩ pa (.slice sp n1 sc) ba)) := Bl.hid (by rw [hW0]; exact (Bl.BoxC.box w 33 (Bl.cL_ne _ _ _ _)).ext (Bl.ext_alloc _ _))
  have HBb : Hid (Bl.BoxC W0 (w.heap.size + 1) (Bl.cL ⟨k2, i2, j2, pl2, sh2, f2, c2, bl2, d2⟩ pb (.slice tp n2 tc) bb)) := Bl.hid (by
    rw [hW0]
    have h := Bl.BoxC.box (w.alloc (.cells #[.int .i64 k1, .int .i64 i1, .int .i64 j1, pa, .slice sp n1 sc, .int .i64 f1, .int .i64 c1, ba, .int .i64 d1] 33)) 33 (Bl.cL_ne ⟨k2, i2, j2, pl2, sh2, f2, c2, bl2, d2⟩ pb (.slice tp n2 tc) bb)
    rw [show (w.alloc (.cells #[.int .i64 k1, .int .i64 i1, .int .i64 j1, pa, .slice sp n1 sc, .int .i64 f1, .int .i64 c1, ba, .int .i64 d1] 33)).heap.size = w.heap.size + 1 from by simp] at h
    exact h)
  show Calls Tryd.prog 12 #[.agg #[.int .i64 k1, .int .i64 i1, .int .i64 j1, pa, .slice sp n1 sc, .int .i64 f1, .int .i64 c1, ba, .int .i64 d1], .agg #[.int .i64 k2, .int .i64 i2, .int .i64 j2, pb, .slice tp n2 tc, .int .i64 f2, .int .i64 c2, bb, .int .i64 d2]] w _
  go_enter Tryd.func12, Tryd.ntmps12
  by_cases hd : k1 = k2
  rotate_left
  · have hd2 : (k1 == k2) = false := by rw [beq_eq_false_iff_ne]; exact hd
    have HV : Hid (Bl.sameL ⟨k1, i1, j1, pl1, sh1, f1, c1, bl1, d1⟩ ⟨k2, i2, j2, pl2, sh2, f2, c2, bl2, d2⟩ = false) := Bl.hid (by
      unfold Bl.sameL; rw [decide_eq_false]; intro q; injection q with q1 q2 q3 q4 q5 q6 q7 q8 q9; exact hd (by assumption))
    go_wp2_with fail
    go_ret
    refine ⟨by rw [HV.out]; rfl, ?_⟩
    rw [← hW0]; exact HE0.out
  subst hd
  by_cases hd : i1 = i2
  rotate_left
  · have hd2 : (i1 == i2) = false := by rw [beq_eq_false_iff_ne]; exact hd
    have HV : Hid (Bl.sameL ⟨k1, i1, j1, pl1, sh1, f1, c1, bl1, d1⟩ ⟨k1, i2, j2, pl2, sh2, f2, c2, bl2, d2⟩ = false) := Bl.hid (by
      unfold Bl.sameL; rw [decide_eq_false]; intro q; injection q with q1 q2 q3 q4 q5 q6 q7 q8 q9; exact hd (by assumption))
    go_wp2_with fail
    go_ret
    refine ⟨by rw [HV.out]; rfl, ?_⟩
    rw [← hW0]; exact HE0.out
  subst hd
  by_cases hd : j1 = j2
  rotate_left
  · have hd2 : (j1 == j2) = false := by rw [beq_eq_false_iff_ne]; exact hd
    have HV : Hid (Bl.sameL ⟨k1, i1, j1, pl1, sh1, f1, c1, bl1, d1⟩ ⟨k1, i1, j2, pl2, sh2, f2, c2, bl2, d2⟩ = false) := Bl.hid (by
      unfold Bl.sameL; rw [decide_eq_false]; intro q; injection q with q1 q2 q3 q4 q5 q6 q7 q8 q9; exact hd (by assumption))
    go_wp2_with fail
    go_ret
    refine ⟨by rw [HV.out]; rfl, ?_⟩
    rw [← hW0]; exact HE0.out
  subst hd
  by_cases hd : f1 = f2
  rotate_left
  · have hd2 : (f1 == f2) = false := by rw [beq_eq_false_iff_ne]; exact hd
    have HV : Hid (Bl.sameL ⟨k1, i1, j1, pl1, sh1, f1, c1, bl1, d1⟩ ⟨k1, i1, j1, pl2, sh2, f2, c2, bl2, d2⟩ = false) := Bl.hid (by
      unfold Bl.sameL; rw [decide_eq_false]; intro q; injection q with q1 q2 q3 q4 q5 q6 q7 q8 q9; exact hd (by assumption))
    go_wp2_with fail
    go_ret
    refine ⟨by rw [HV.out]; rfl, ?_⟩
    rw [← hW0]; exact HE0.out
  subst hd
  by_cases hd : c1 = c2
  rotate_left
  · have hd2 : (c1 == c2) = false := by rw [beq_eq_false_iff_ne]; exact hd
    have HV : Hid (Bl.sameL ⟨k1, i1, j1, pl1, sh1, f1, c1, bl1, d1⟩ ⟨k1, i1, j1, pl2, sh2, f1, c2, bl2, d2⟩ = false) := Bl.hid (by
      unfold Bl.sameL; rw [decide_eq_false]; intro q; injection q with q1 q2 q3 q4 q5 q6 q7 q8 q9; exact hd (by assumption))
    go_wp2_with fail
    go_ret
    refine ⟨by rw [HV.out]; rfl, ?_⟩
    rw [← hW0]; exact HE0.out
  subst hd
  by_cases hd : d1 = d2
  rotate_left
  · have hd2 : (d1 == d2) = false := by rw [beq_eq_false_iff_ne]; exact hd
    have HV : Hid (Bl.sameL ⟨k1, i1, j1, pl1, sh1, f1, c1, bl1, d1⟩ ⟨k1, i1, j1, pl2, sh2, f1, c1, bl2, d2⟩ = false) := Bl.hid (by
      unfold Bl.sameL; rw [decide_eq_false]; intro q; injection q with q1 q2 q3 q4 q5 q6 q7 q8 q9; exact hd (by assumption))
    go_wp2_with fail
    go_ret
    refine ⟨by rw [HV.out]; rfl, ?_⟩
    rw [← hW0]; exact HE0.out
  subst hd
  by_cases hd : n1 = n2
  rotate_left
  · have hd2 : ((n1 : Int) == (n2 : Int)) = false := by rw [beq_eq_false_iff_ne]; omega
    have HV : Hid (Bl.sameL ⟨k1, i1, j1, pl1, sh1, f1, c1, bl1, d1⟩ ⟨k1, i1, j1, pl2, sh2, f1, c1, bl2, d1⟩ = false) := Bl.hid (by
      unfold Bl.sameL; rw [decide_eq_false]; intro q; injection q with q1 q2 q3 q4 q5
      refine hd ?_
      rw [Hn1.out, Hn2.out, ← List.length_map (f := Bl.plS), ← List.length_map (f := Bl.plS), Hma.out, Hmb.out, q5])
    go_wp2_with fail
    go_ret
    refine ⟨by rw [HV.out]; rfl, ?_⟩
    rw [← hW0]; exact HE0.out
  subst hd
  go_wp2_with fail
  rw [← hW0]
  clear hW0
  have HV : Hid (¬ sh1 = sh2 → Bl.sameL ⟨k1, i1, j1, pl1, sh1, f1, c1, bl1, d1⟩ ⟨k1, i1, j1, pl2, sh2, f1, c1, bl2, d1⟩ = false) := Bl.hid fun h => by
    unfold Bl.sameL; rw [decide_eq_false]; intro q; injection q with q1 q2 q3 q4 q5; exact h q5
  go_loopw [61] (fun x wr => ∃ i : Nat, i ≤ n1 ∧ x = .int .i64 i ∧ Hid (sh1.take i = sh2.take i) ∧ Bl.Ext W0 wr) (fun x _ => n1 - (intOf x).toNat)
  case atStart => exact ⟨0, Nat.zero_le _, rfl, Bl.hid rfl, Below.refl _ _⟩
  case round =>
    obtain ⟨i, hi, rfl, Htk, hE⟩ := hrel
    have HE := Bl.hid hE
    clear hE
    by_cases hlt : i < n1
    · have hla : i < L.length := by rw [← Hn1.out]; exact hlt
      have hlb : i < M.length := by rw [← Hn2.out]; exact hlt
      have HEw := Bl.hid (HE0.out.trans HE.out)
      have hRa := HSa.out.ext HEw.out
      have hRb := HSb.out.ext HEw.out
      obtain ⟨g1, o1, cc1, hpe, _, _, _, hel1⟩ := hRa.pos (by omega)
      obtain ⟨g2, o2, cc2, hpf, _, _, _, hel2⟩ := hRb.pos (by omega)
      injection hpe with hp1 hp2 hp3
      injection hpf with hq1 hq2 hq3
      subst hp1 hq1
      have hr1 := hel1 i hla
      have hr2 := hel2 i hlb
      have hok1 := hRa.ok _ (Bl.getD_mem Bl.s0 hla)
      have hok2 := hRb.ok _ (Bl.getD_mem Bl.s0 hlb)
      have hx1 : Bl.plS (L.getD i Bl.s0) = sh1.getD i Bl.h0 := by rw [← Bl.plS_getD, Hma.out]
      have hx2 : Bl.plS (M.getD i Bl.s0) = sh2.getD i Bl.h0 := by rw [← Bl.plS_getD, Hmb.out]
      have Ht1 : Hid (sh1.take (i + 1) = sh1.take i ++ [Bl.plS (L.getD i Bl.s0)]) := Bl.hid (by rw [hx1]; exact Bl.take_succ_getDD Bl.h0 sh1 i (by rw [← Hma.out, List.length_map]; exact hla))
      have Ht2 : Hid (sh2.take (i + 1) = sh2.take i ++ [Bl.plS (M.getD i Bl.s0)]) := Bl.hid (by rw [hx2]; exact Bl.take_succ_getDD Bl.h0 sh2 i (by rw [← Hmb.out, List.length_map]; exact hlb))
      have Hne : Hid (¬ Bl.plS (L.getD i Bl.s0) = Bl.plS (M.getD i Bl.s0) → Bl.sameL ⟨k1, i1, j1, pl1, sh1, f1, c1, bl1, d1⟩ ⟨k1, i1, j1, pl2, sh2, f1, c1, bl2, d1⟩ = false) := Bl.hid fun h => HV.out fun q => h (by rw [hx1, hx2, q])
      clear hx1 hx2
      obtain ⟨x, hx⟩ : ∃ x, x = L.getD i Bl.s0 := ⟨_, rfl⟩
      obtain ⟨y, hy⟩ : ∃ y, y = M.getD i Bl.s0 := ⟨_, rfl⟩
      rw [← hx] at hr1 hok1 Ht1 Hne
      rw [← hy] at hr2 hok2 Ht2 Hne
      clear hx hy
      obtain ⟨z1, ⟨v1, l1⟩, u1, e1⟩ := x
      obtain ⟨z2, ⟨v2, l2⟩, u2, e2⟩ := y
      have Hok1 := Bl.hid hok1
      have Hok2 := Bl.hid hok2
      obtain ⟨vp1, vc1, hv1, _, _⟩ := hok1.st.form
      obtain ⟨vp2, vc2, hv2, _, _⟩ := hok2.st.form
      obtain ⟨up1, uc1, hu1, hun1, huc1⟩ := hok1.pa.form
      unfold maxLen at huc1
      obtain ⟨up2, uc2, hu2, hun2, _⟩ := hok2.pa.form
      simp only at hv1 hv2 hu1 hu2 hun1 hun2
      subst hv1 hv2 hu1 hu2
      obtain ⟨m1, hm1⟩ : ∃ m1, m1 = e1.length := ⟨_, rfl⟩
      obtain ⟨m2, hm2⟩ : ∃ m2, m2 = e2.length := ⟨_, rfl⟩
      have Hm1 := Bl.hid hm1
      have Hm2 := Bl.hid hm2
      rw [← hm1] at Hok1 hok1 hr1 hun1 Ht1 Hne
      rw [← hm2] at Hok2 hok2 hr2 hun2 Ht2 Hne
      have Hld1 := Bl.hid (run_loadAt_mid (P := Tryd.prog) wr g1 (o1 + i * 3) 68 _ _ hr1 Tryd.underlying68 rfl (by rw [Bl.cS_len]; kernel_rfl))
      obtain ⟨hB6, hE6⟩ := Bl.BoxC.fresh (cs := Bl.cS (z1, (.slice vp1 l1.length vc1, l1), .slice up1 m1 uc1, e1)) wr 68 Bl.zSh rfl (Bl.cS_ne _)
      have Hst1 := Bl.hid (Bl.fresh_store (P := Tryd.prog) (cs := Bl.cS (z1, (.slice vp1 l1.length vc1, l1), .slice up1 m1 uc1, e1)) wr 68 Bl.zSh rfl (Bl.cS_one hok1) (ty := 68) (by rw [Bl.cS_len]; kernel_rfl))
      have HB6 := Bl.hid hB6
      have HE6 := Bl.hid hE6
      have Hr2 := Bl.hid hr2
      have hi0 : (0 : Int) ≤ (i : Int) := by omega
      have hi1 : (i : Int) < (n1 : Int) := by omega
      clear hel1 hel2 hp2 hp3 hq2 hq3 hla hlb hr1 hr2 hok1 hok2 hB6 hE6 hRa hRb hm1 hm2
      go_wp2_with (with_reducible refine Bl.stop_load (ty := 68) ?_)
      refine Bl.go_on ?_
      refine Bl.wpL_load rfl Hld1.out ?_
      go_wp2_with (with_reducible refine Bl.stop_store (ty := 68) ?_)
      refine Bl.go_on ?_
      refine Bl.wpL_store0 rfl rfl Hst1.out ?_
      obtain ⟨W6, hW6⟩ : ∃ W6, W6 = (wr.alloc (.cells Bl.zSh 68)).setCells wr.heap.size 0 (Bl.cS (z1, (.slice vp1 l1.length vc1, l1), .slice up1 m1 uc1, e1)) := ⟨_, rfl⟩
      obtain ⟨X6, hX6⟩ : ∃ X6, X6 = wr.heap.size := ⟨_, rfl⟩
      rw [← hW6] at HB6 HE6 ⊢
      rw [← hX6] at HB6 ⊢
      clear hW6 hX6 Hst1 Hld1
      have Hld2 := Bl.hid (run_loadAt_mid (P := Tryd.prog) W6 g2 (o2 + i * 3) 68 _ _ (Bl.rangeAt_ext Hr2.out HE6.out) Tryd.underlying68 rfl (by rw [Bl.cS_len]; kernel_rfl))
      obtain ⟨hB7, hE7⟩ := Bl.BoxC.fresh (cs := Bl.cS (z2, (.slice vp2 l2.length vc2, l2), .slice up2 m2 uc2, e2)) W6 68 Bl.zSh rfl (Bl.cS_ne _)
      have Hst2 := Bl.hid (Bl.fresh_store (P := Tryd.prog) (cs := Bl.cS (z2, (.slice vp2 l2.length vc2, l2), .slice up2 m2 uc2, e2)) W6 68 Bl.zSh rfl (Bl.cS_one Hok2.out) (ty := 68) (by rw [Bl.cS_len]; kernel_rfl))
      have HB7 := Bl.hid hB7
      have HB67 := Bl.hid (HB6.out.ext hE7)
      have HE7 := Bl.hid (HE6.out.trans hE7)
      have gb4 := (HBb.out.ext (HE.out.trans HE6.out)).cell (i := 4) rfl
      clear hB7 hE7
      go_wp2_with (with_reducible refine Bl.stop_load (ty := 68) ?_)
      refine Bl.go_on ?_
      refine Bl.wpL_load rfl Hld2.out ?_
      go_wp2_with (with_reducible refine Bl.stop_store (ty := 68) ?_)
      refine Bl.go_on ?_
      refine Bl.wpL_store0 rfl rfl Hst2.out ?_
      obtain ⟨W7, hW7⟩ : ∃ W7, W7 = (W6.alloc (.cells Bl.zSh 68)).setCells W6.heap.size 0 (Bl.cS (z2, (.slice vp2 l2.length vc2, l2), .slice up2 m2 uc2, e2)) := ⟨_, rfl⟩
      obtain ⟨X7, hX7⟩ : ∃ X7, X7 = W6.heap.size := ⟨_, rfl⟩
      rw [← hW7] at HB7 HB67 HE7 ⊢
      rw [← hX7] at HB7 ⊢
      clear hW7 hX7 Hst2 Hld2 HB6 HE6 gb4 Hr2
      have q60 := HB67.out.cell (i := 0) rfl
      have q61 := HB67.out.cell (i := 1) rfl
      have q62 := HB67.out.cell (i := 2) rfl
      have q70 := HB7.out.cell (i := 0) rfl
      have q71 := HB7.out.cell (i := 1) rfl
      have q72 := HB7.out.cell (i := 2) rfl
      by_cases hz : z1 = z2
      rotate_left
      · have hz2 : (z1 == z2) = false := by rw [beq_eq_false_iff_ne]; exact hz
        have HV2 := Bl.hid (Hne.out (fun q => hz (congrArg Prod.fst q)))
        go_wp2_with fail
        go_ret
        exact ⟨by rw [HV2.out]; rfl, (HEw.out.trans HE7.out)⟩
      subst hz
      have hcv1 := Bl.conv_bytes (P := Tryd.prog) (Hok1.out.st.ext HE7.out) Tryd.underlying46 Tryd.underlying5 Tryd.underlying9
      have hcv2 := Bl.conv_bytes (P := Tryd.prog) (Hok2.out.st.ext HE7.out) Tryd.underlying46 Tryd.underlying5 Tryd.underlying9
      simp only at hcv1 hcv2
      by_cases hl : l1 = l2
      rotate_left
      · have hq := Bl.bstr_beq Hok1.out.bs Hok2.out.bs
        simp only at hq
        rw [decide_eq_false hl] at hq
        have hq2 : ¬ (Bl.bstr l1 = Bl.bstr l2) := fun q => by rw [q] at hq; simp at hq
        have HV2 := Bl.hid (Hne.out (fun q => hl (congrArg (fun s : Bl.Sh => s.2.1) q)))
        go_wp2_with fail
        go_ret
        exact ⟨by rw [HV2.out]; rfl, (HEw.out.trans HE7.out)⟩
      subst hl
      by_cases hm : m1 = m2
      rotate_left
      · have hm3 : ((m1 : Int) == (m2 : Int)) = false := by rw [beq_eq_false_iff_ne]; omega
        have HV2 := Bl.hid (Hne.out (fun q => hm (by rw [Hm1.out, Hm2.out]; exact congrArg (fun s : Bl.Sh => s.2.2.length) q)))
        go_wp2_with fail
        go_ret
        exact ⟨by rw [HV2.out]; rfl, (HEw.out.trans HE7.out)⟩
      subst hm
      go_wp2_with fail
      clear hcv1 hcv2 q60 q61 q62 q70 q71 q72
      go_loopw [97] (fun y wr => ∃ k : Nat, k ≤ m1 ∧ y = .int .i64 k ∧ Hid (e1.take k = e2.take k) ∧ Bl.Ext W7 wr) (fun y _ => m1 - (intOf y).toNat)
      case atStart => exact ⟨0, Nat.zero_le _, rfl, Bl.hid rfl, Below.refl _ _⟩
      case round =>
        obtain ⟨k, hk, rfl, Hdk, hE8⟩ := hrel
        have HE8 := Bl.hid hE8
        clear hE8
        by_cases hkt : k < m1
        · have hka : k < e1.length := by rw [← Hm1.out]; exact hkt
          have hkb : k < e2.length := by rw [← Hm2.out]; exact hkt
          obtain ⟨b1, p1, c1', hpa, _, _, _, hrg1⟩ := Bl.RdD.pos (Bl.Rds.ext (Bl.Rds.ext Hok1.out.pa HE7.out) HE8.out) Hok1.out.dg (by simp only; omega)
          obtain ⟨b2, p2, c2', hpb, _, _, _, hrg2⟩ := Bl.RdD.pos (Bl.Rds.ext (Bl.Rds.ext Hok2.out.pa HE7.out) HE8.out) Hok2.out.dg (by simp only; omega)
          injection hpa with hpa hpa3 hpa4
          injection hpb with hpb hpb3 hpb4
          clear hpa3 hpa4 hpb3 hpb4
          subst hpa hpb
          have hr1 := Bl.digit_at hrg1 Hok1.out.dg (i := k) hka
          have hr2 := Bl.digit_at hrg2 Hok2.out.dg (i := k) hkb
          obtain ⟨hl1, _⟩ := Hok1.out.dg.get (i := k) hka
          obtain ⟨hl2, _⟩ := Hok2.out.dg.get (i := k) hkb
          have Hk1 := Bl.hid (Bl.take_succ_getDD [] e1 k hka)
          have Hk2 := Bl.hid (Bl.take_succ_getDD [] e2 k hkb)
          have Hnk : Hid (¬ e1.getD k [] = e2.getD k [] → Bl.sameL ⟨k1, i1, j1, pl1, sh1, f1, c1, bl1, d1⟩ ⟨k1, i1, j1, pl2, sh2, f1, c1, bl2, d1⟩ = false) := Bl.hid fun h => Hne.out fun q => h (by
            have q2 : e1 = e2 := congrArg (fun s : Bl.Sh => s.2.2) q
            rw [q2])
          simp only at hr1 hr2 hl1 hl2
          obtain ⟨x1, hx1⟩ : ∃ x1, x1 = e1.getD k [] := ⟨_, rfl⟩
          obtain ⟨x2, hx2⟩ : ∃ x2, x2 = e2.getD k [] := ⟨_, rfl⟩
          rw [← hx1] at hr1 hl1 Hk1 Hnk
          rw [← hx2] at hr2 hl2 Hk2 Hnk
          have HL1 : Hid (∀ w2, Bl.Ext wr w2 → (Instr.loadAt 69 (.pointer (some ⟨b1, p1 + k * 32, none⟩))).run Tryd.prog w2 = .ok (.agg (Bl.ints .u8 x1).toArray) w2) := Bl.hid fun w2 h2 => Bl.load_ints (Bl.rangeAt_ext hr1 h2) Tryd.underlying69 (by kernel_rfl) hl1
          have HL2 : Hid (∀ w2, Bl.Ext wr w2 → (Instr.loadAt 69 (.pointer (some ⟨b2, p2 + k * 32, none⟩))).run Tryd.prog w2 = .ok (.agg (Bl.ints .u8 x2).toArray) w2) := Bl.hid fun w2 h2 => Bl.load_ints (Bl.rangeAt_ext hr2 h2) Tryd.underlying69 (by kernel_rfl) hl2
          have Hq : Hid (∀ w, (Op.equalIn 10000 69 (.agg (Bl.ints .u8 x1).toArray) (.agg (Bl.ints .u8 x2).toArray)).run Tryd.prog w = .ok (decide (x1 = x2)) w) := Bl.hid fun w => Bl.eq10k Tryd.underlying69 Tryd.underlying5 (fun w => by simp [go_sem]) x1 x2 hl1 hl2 w
          have HB6r := Bl.hid (HB67.out.ext HE8.out)
          have HB7r := Bl.hid (HB7.out.ext HE8.out)
          clear hr1 hr2 hl1 hl2 hrg1 hrg2 hx1 hx2 hka hkb
          have hk0 : (0 : Int) ≤ (k : Int) := by omega
          have hkl : (k : Int) < (m1 : Int) := by omega
          by_cases hxy : x1 = x2
          · have heq := Hq.out
            rw [decide_eq_true hxy] at heq
            have Hxy := Bl.hid hxy
            clear hxy Hq
            go_wp2_with fail
            apply Bl.wp_region_ev 10 [100, 101, 102, 103, 104, 105, 106, 107, 108, 109] [Bl.eqv _, Bl.eqv _, Bl.eqv _, Bl.eqv _, Bl.eqv _, Bl.eqv _, Bl.eqv _, Bl.eqv _, Bl.eqv _, Bl.eqv _] (by kernel_rfl) (by kernel_rfl) (by kernel_rfl) (by kernel_rfl)
            case hsteps =>
              refine ⟨?_, ?_, ?_, ?_, ?_, ?_, ?_, ?_, ?_, ?_, trivial⟩
              all_goals
                intro ev w1 hext hb hd
                have e6 := hb 6 (by decide)
                have e7 := hb 7 (by decide)
                have e8 := hb 8 (by decide)
                clear hb
                simp only [Array.getD_eq_getD_getElem?, List.getElem?_toArray, List.getElem?_cons_succ, List.getElem?_cons_zero, Option.getD_some] at e6 e7 e8
                simp only [Bl.DepsE, List.getElem?_cons_succ, List.getElem?_cons_zero, Option.bind_some, List.getD_cons_succ, List.getD_cons_zero, Bl.eqv, and_true] at hd
                have hc := (Bl.bcell hext).1
                have q62 := (HB6r.out.ext hext).cell (i := 2) rfl
                have q72 := (HB7r.out.ext hext).cell (i := 2) rfl
                simp only [Bl.Good, Region.wanted, if_true]
                first
                | ((with_reducible refine Bl.goodR_load ?_ (HL1.out _ hext) ?_); exact hd; exact rfl) | ((with_reducible refine Bl.goodR_load ?_ (HL2.out _ hext) ?_); exact hd; exact rfl)
                | (go_simp; first | exact ⟨Below.refl _ _, rfl⟩ | exact ⟨Below.refl _ _, rfl⟩)
            case hmono => exact ⟨Bl.mono_eqv _, Bl.mono_eqv _, Bl.mono_eqv _, Bl.mono_eqv _, Bl.mono_eqv _, Bl.mono_eqv _, Bl.mono_eqv _, Bl.mono_eqv _, Bl.mono_eqv _, Bl.mono_eqv _, trivial⟩
            case hend =>
              intro u w1 hext hend
              simp only [Bl.EndE, List.getElem?_cons_succ, List.getElem?_cons_zero, Option.bind_some, List.getD_cons_succ, List.getD_cons_zero, Bl.eqv, true_and] at hend
              simp only [Bl.fillAct, List.setIfInBounds_toArray, List.set_cons_succ, List.set_cons_zero, List.drop_succ_cons, List.drop_zero, hend]
              have HE9 := Bl.hid (HE8.out.trans hext)
              clear hext hend
              go_wp2_with fail
              go_roundw
              case rel => exact ⟨k + 1, by omega, by go_num, Bl.hid (by rw [Hk1.out, Hk2.out, Hdk.out, Hxy.out]), HE9.out⟩
              case measure => simp [intOf]; omega
          · have heq := Hq.out
            rw [decide_eq_false hxy] at heq
            have HV2 := Bl.hid (Hnk.out hxy)
            clear hxy Hq
            go_wp2_with fail
            apply Bl.wp_region_ev 10 [100, 101, 102, 103, 104, 105, 106, 107, 108, 109] [Bl.eqv _, Bl.eqv _, Bl.eqv _, Bl.eqv _, Bl.eqv _, Bl.eqv _, Bl.eqv _, Bl.eqv _, Bl.eqv _, Bl.eqv _] (by kernel_rfl) (by kernel_rfl) (by kernel_rfl) (by kernel_rfl)
            case hsteps =>
              refine ⟨?_, ?_, ?_, ?_, ?_, ?_, ?_, ?_, ?_, ?_, trivial⟩
              all_goals
                intro ev w1 hext hb hd
                have e6 := hb 6 (by decide)
                have e7 := hb 7 (by decide)
                have e8 := hb 8 (by decide)
                clear hb
                simp only [Array.getD_eq_getD_getElem?, List.getElem?_toArray, List.getElem?_cons_succ, List.getElem?_cons_zero, Option.getD_some] at e6 e7 e8
                simp only [Bl.DepsE, List.getElem?_cons_succ, List.getElem?_cons_zero, Option.bind_some, List.getD_cons_succ, List.getD_cons_zero, Bl.eqv, and_true] at hd
                have hc := (Bl.bcell hext).1
                have q62 := (HB6r.out.ext hext).cell (i := 2) rfl
                have q72 := (HB7r.out.ext hext).cell (i := 2) rfl
                simp only [Bl.Good, Region.wanted, if_true]
                first
                | ((with_reducible refine Bl.goodR_load ?_ (HL1.out _ hext) ?_); exact hd; exact rfl) | ((with_reducible refine Bl.goodR_load ?_ (HL2.out _ hext) ?_); exact hd; exact rfl)
                | (go_simp; first | exact ⟨Below.refl _ _, rfl⟩ | exact ⟨Below.refl _ _, rfl⟩)
            case hmono => exact ⟨Bl.mono_eqv _, Bl.mono_eqv _, Bl.mono_eqv _, Bl.mono_eqv _, Bl.mono_eqv _, Bl.mono_eqv _, Bl.mono_eqv _, Bl.mono_eqv _, Bl.mono_eqv _, Bl.mono_eqv _, trivial⟩
            case hend =>
              intro u w1 hext hend
              simp only [Bl.EndE, List.getElem?_cons_succ, List.getElem?_cons_zero, Option.bind_some, List.getD_cons_succ, List.getD_cons_zero, Bl.eqv, true_and] at hend
              simp only [Bl.fillAct, List.setIfInBounds_toArray, List.set_cons_succ, List.set_cons_zero, List.drop_succ_cons, List.drop_zero, hend]
              have HE9 := Bl.hid ((HEw.out.trans (HE7.out.trans HE8.out)).trans hext)
              clear hext hend
              go_wp2_with fail
              go_ret
              exact ⟨by rw [HV2.out]; rfl, HE9.out⟩
        · obtain rfl : k = m1 := by omega
          have He12 : Hid (e1 = e2) := Bl.hid (by
            have h := Hdk.out
            rwa [List.take_of_length_le (by rw [← Hm1.out]; exact Nat.le_refl _), List.take_of_length_le (by rw [← Hm2.out]; exact Nat.le_refl _)] at h)
          have HEn := Bl.hid (HE.out.trans (HE7.out.trans HE8.out))
          go_wp2_with fail
          go_roundw
          case rel => exact ⟨i + 1, by omega, by go_num, Bl.hid (by rw [Ht1.out, Ht2.out, Htk.out]; show _ ++ [(z1, l1, e1)] = _ ++ [(z1, l1, e2)]; rw [He12.out]), HEn.out⟩
          case measure => simp [intOf]; omega
    · obtain rfl : i = n1 := by omega
      have Hsh : Hid (sh1 = sh2) := Bl.hid (by
        have h := Htk.out
        rwa [List.take_of_length_le (by rw [← Hma.out, List.length_map, ← Hn1.out]; exact Nat.le_refl _), List.take_of_length_le (by rw [← Hmb.out, List.length_map, ← Hn2.out]; exact Nat.le_refl _)] at h)
      have HD2 : Hid (Bl.sameL ⟨k1, i1, j1, pl1, sh1, f1, c1, bl1, d1⟩ ⟨k1, i1, j1, pl2, sh2, f1, c1, bl2, d1⟩ = (decide (pl1 = pl2) && decide (bl1 = bl2))) := Bl.hid (by rw [HD.out]; simp [Bl.LT.nums, Hsh.out])
      have HEw := Bl.hid (HE0.out.trans HE.out)
      have ga := (HBa.out.ext HE.out).cell (i := 3) rfl
      have gb := (HBb.out.ext HE.out).cell (i := 3) rfl
      clear HD HV hlt hi Htk
      generalize decide (pl1 = pl2) = y1 at *
      generalize decide (bl1 = bl2) = y2 at *
      go_wp2_with fail
      refine (HI.out wr HEw.out).mono ?_
      rintro e w1 ⟨rfl, hE1⟩
      have HE1 := Bl.hid (HEw.out.trans hE1)
      have HBa1 := Bl.hid ((HBa.out.ext HE.out).ext hE1)
      have HBb1 := Bl.hid ((HBb.out.ext HE.out).ext hE1)
      clear hE1 ga gb
      cases y1
      · go_wp2_with fail
        go_ret
        exact ⟨by rw [HD2.out]; rfl, HE1.out⟩
      have ga := HBa1.out.cell (i := 7) rfl
      have gb := HBb1.out.cell (i := 7) rfl
      go_wp2_with fail
      refine (HB.out w1 HE1.out).mono ?_
      rintro e w2 ⟨rfl, hE2⟩
      have HE2 := Bl.hid (HE1.out.trans hE2)
      clear hE2 ga gb
      cases y2
      · go_wp2_with fail
        go_ret
        exact ⟨by rw [HD2.out]; rfl, HE2.out⟩
      · go_wp2_with fail
        go_ret
        exact ⟨by rw [HD2.out]; rfl, HE2.out⟩
end Go.Proofs.YtmmolapkddbibaaDoor

/- Walk of baileelaw14.same. -/
import Derived.Test.YtkoddcjkhcnifaaDoorWDig13
import Derived.Test.YtkoddcjkhcnifaaDoorLib0
namespace Go.Proofs.YtkoddcjkhcnifaaDoor
open Go.RowKit Go.Proofs

set_option maxRecDepth 100000 in
set_option maxHeartbeats 400000 in
theorem same14_any (va vb : Value) (xs ys : List (List Int)) (w : World) (hA : Bl.RdD w va xs) (hB : Bl.RdD w vb ys) (hdx : Bl.Dig xs) (hdy : Bl.Dig ys) :
    Calls Tryd.prog 17 #[va, vb] w fun e w' => e = .returned (.bool (decide (xs = ys))) ∧ Bl.Ext w w' := by
  obtain ⟨pa, ca, hvfa, hvna, hvca⟩ := hA.form
  obtain ⟨pb, cb, hvfb, hvnb, hvcb⟩ := hB.form
  subst hvfa hvfb
  have HA := Bl.hid hA
  have HB := Bl.hid hB
  have Hdx := Bl.hid hdx
  have Hdy := Bl.hid hdy
  unfold maxLen at hvca hvcb
  obtain ⟨n, hn⟩ : ∃ n, n = xs.length := ⟨_, rfl⟩
  obtain ⟨m, hm⟩ : ∃ m, m = ys.length := ⟨_, rfl⟩
  rw [← hn] at ⊢ hvna
  rw [← hm] at ⊢ hvnb
  have Hn := Bl.hid hn
  have Hm := Bl.hid hm
  clear hA hB hdx hdy hn hm
  by_cases hnm : n = m
  · subst hnm
    go_enter Tryd.func17, Tryd.ntmps17
    go_wp2_with fail
    go_loopw [13] (fun i wr => ∃ k : Nat, k ≤ n ∧ i = .int .i64 k ∧ Bl.Ext w wr ∧ Hid (xs.take k = ys.take k)) (fun i _ => n - (intOf i).toNat)
    case atStart => exact ⟨0, Nat.zero_le _, rfl, Below.refl _ _, Bl.hid rfl⟩
    case round =>
      obtain ⟨k, hk, rfl, hE, Htk⟩ := hrel
      have HE := Bl.hid hE
      clear hE
      by_cases hlt : k < n
      · have hla : k < xs.length := by rw [← Hn.out]; exact hlt
        have hlb : k < ys.length := by rw [← Hm.out]; exact hlt
        obtain ⟨b1, o1, c1, hpa, hpa1, hpa2, hbl1, hrg1⟩ := Bl.RdD.pos (Bl.Rds.ext HA.out HE.out) Hdx.out (by omega)
        obtain ⟨b2, o2, c2, hpb, hpb1, hpb2, hbl2, hrg2⟩ := Bl.RdD.pos (Bl.Rds.ext HB.out HE.out) Hdy.out (by omega)
        injection hpa with hpa hpa3 hpa4
        injection hpb with hpb hpb3 hpb4
        clear hpa3 hpa4 hpb3 hpb4
        subst hpa hpb
        have hr1 := Bl.digit_at hrg1 Hdx.out (i := k) hla
        have hr2 := Bl.digit_at hrg2 Hdy.out (i := k) hlb
        obtain ⟨hl1, _⟩ := Hdx.out.get (i := k) hla
        obtain ⟨hl2, _⟩ := Hdy.out.get (i := k) hlb
        have Ht1 := Bl.hid (Bl.take_snocD xs k hla)
        have Ht2 := Bl.hid (Bl.take_snocD ys k hlb)
        obtain ⟨x, hx⟩ : ∃ x, x = xs.getD k [] := ⟨_, rfl⟩
        obtain ⟨y, hy⟩ : ∃ y, y = ys.getD k [] := ⟨_, rfl⟩
        rw [← hx] at hr1 hl1 Ht1
        rw [← hy] at hr2 hl2 Ht2
        have HL1 : Hid (∀ w2, Bl.Ext wr w2 → (Instr.loadAt 41 (.pointer (some ⟨b1, o1 + k * 32, none⟩))).run Tryd.prog w2 = .ok (.agg (Bl.ints .u8 x).toArray) w2) := Bl.hid fun w2 h2 => Bl.load_ints (Bl.rangeAt_ext hr1 h2) Tryd.underlying41 (by kernel_rfl) hl1
        have HL2 : Hid (∀ w2, Bl.Ext wr w2 → (Instr.loadAt 40 (.pointer (some ⟨b2, o2 + k * 32, none⟩))).run Tryd.prog w2 = .ok (.agg (Bl.ints .u8 y).toArray) w2) := Bl.hid fun w2 h2 => Bl.load_ints (Bl.rangeAt_ext hr2 h2) Tryd.underlying40 (by kernel_rfl) hl2
        have Hx := Bl.hid hx
        have Hy := Bl.hid hy
        have Hq : Hid (∀ w, (Op.equalIn 10000 40 (.agg (Bl.ints .u8 x).toArray) (.agg (Bl.ints .u8 y).toArray)).run Tryd.prog w = .ok (decide (x = y)) w) := Bl.hid fun w => Bl.eq10k Tryd.underlying40 Tryd.underlying5 (fun w => by simp [go_sem]) x y hl1 hl2 w
        clear hr1 hr2 hl1 hl2 hrg1 hrg2 hbl1 hbl2 hx hy hla hlb hpa1 hpa2 hpb1 hpb2
        have hk0 : (0 : Int) ≤ (k : Int) := by omega
        have hkl : (k : Int) < (n : Int) := by omega
        by_cases hxy : x = y
        · have heq := Hq.out
          rw [decide_eq_true hxy] at heq
          have Hxy := Bl.hid hxy
          clear hxy Hq
          go_wp2_with fail
          apply Bl.wp_region_ev 8 [16, 17, 18, 19, 20, 21, 22, 23] [Bl.eqv _, Bl.eqv _, Bl.eqv _, Bl.eqv _, Bl.eqv _, Bl.eqv _, Bl.eqv _, Bl.eqv _] (by kernel_rfl) (by kernel_rfl) (by kernel_rfl) (by kernel_rfl)
          case hsteps =>
            refine ⟨?_, ?_, ?_, ?_, ?_, ?_, ?_, ?_, trivial⟩
            all_goals
              intro ev w1 hext hb hd
              have e0 := hb 0 (by decide)
              have e1 := hb 1 (by decide)
              have e5 := hb 5 (by decide)
              clear hb
              simp only [Array.getD_eq_getD_getElem?, List.getElem?_toArray, List.getElem?_cons_succ, List.getElem?_cons_zero, Option.getD_some] at e0 e1 e5
              simp only [Bl.DepsE, List.getElem?_cons_succ, List.getElem?_cons_zero, Option.bind_some, List.getD_cons_succ, List.getD_cons_zero, Bl.eqv, and_true] at hd
              have hc := (Bl.bcell hext).1
              simp only [Bl.Good, Region.wanted, if_true]
              first
              | ((with_reducible refine Bl.goodR_load ?_ (HL1.out _ hext) ?_); exact hd; exact rfl) | ((with_reducible refine Bl.goodR_load ?_ (HL2.out _ hext) ?_); exact hd; exact rfl)
              | (go_simp; first | exact ⟨Below.refl _ _, rfl⟩ | exact ⟨Below.refl _ _, rfl⟩)
          case hmono => exact ⟨Bl.mono_eqv _, Bl.mono_eqv _, Bl.mono_eqv _, Bl.mono_eqv _, Bl.mono_eqv _, Bl.mono_eqv _, Bl.mono_eqv _, Bl.mono_eqv _, trivial⟩
          case hend =>
            intro u w1 hext hend
            simp only [Bl.EndE, List.getElem?_cons_succ, List.getElem?_cons_zero, Option.bind_some, List.getD_cons_succ, List.getD_cons_zero, Bl.eqv, true_and] at hend
            simp only [Bl.fillAct, List.setIfInBounds_toArray, List.set_cons_succ, List.set_cons_zero, List.drop_succ_cons, List.drop_zero, hend]
            have HE2 := Bl.hid (HE.out.trans hext)
            clear hext hend
            go_wp2_with fail
            go_roundw
            case rel => exact ⟨k + 1, by omega, by go_num, HE2.out, Bl.hid (by rw [Ht1.out, Ht2.out, Htk.out, Hxy.out])⟩
            case measure => simp [intOf]; omega
        · have heq := Hq.out
          rw [decide_eq_false hxy] at heq
          have Hne : Hid (¬ xs = ys) := Bl.hid fun q => hxy (by rw [Hx.out, Hy.out, q])
          clear hxy Hq
          go_wp2_with fail
          apply Bl.wp_region_ev 8 [16, 17, 18, 19, 20, 21, 22, 23] [Bl.eqv _, Bl.eqv _, Bl.eqv _, Bl.eqv _, Bl.eqv _, Bl.eqv _, Bl.eqv _, Bl.eqv _] (by kernel_rfl) (by kernel_rfl) (by kernel_rfl) (by kernel_rfl)
          case hsteps =>
            refine ⟨?_, ?_, ?_, ?_, ?_, ?_, ?_, ?_, trivial⟩
            all_goals
              intro ev w1 hext hb hd
              have e0 := hb 0 (by decide)
              have e1 := hb 1 (by decide)
              have e5 := hb 5 (by decide)
              clear hb
              simp only [Array.getD_eq_getD_getElem?, List.getElem?_toArray, List.getElem?_cons_succ, List.getElem?_cons_zero, Option.getD_some] at e0 e1 e5
              simp only [Bl.DepsE, List.getElem?_cons_succ, List.getElem?_cons_zero, Option.bind_some, List.getD_cons_succ, List.getD_cons_zero, Bl.eqv, and_true] at hd
              have hc := (Bl.bcell hext).1
              simp only [Bl.Good, Region.wanted, if_true]
              first
              | ((with_reducible refine Bl.goodR_load ?_ (HL1.out _ hext) ?_); exact hd; exact rfl) | ((with_reducible refine Bl.goodR_load ?_ (HL2.out _ hext) ?_); exact hd; exact rfl)
              | (go_simp; first | exact ⟨Below.refl _ _, rfl⟩ | exact ⟨Below.refl _ _, rfl⟩)
          case hmono => exact ⟨Bl.mono_eqv _, Bl.mono_eqv _, Bl.mono_eqv _, Bl.mono_eqv _, Bl.mono_eqv _, Bl.mono_eqv _, Bl.mono_eqv _, Bl.mono_eqv _, trivial⟩
          case hend =>
            intro u w1 hext hend
            simp only [Bl.EndE, List.getElem?_cons_succ, List.getElem?_cons_zero, Option.bind_some, List.getD_cons_succ, List.getD_cons_zero, Bl.eqv, true_and] at hend
            simp only [Bl.fillAct, List.setIfInBounds_toArray, List.set_cons_succ, List.set_cons_zero, List.drop_succ_cons, List.drop_zero, hend]
            have HE2 := Bl.hid (HE.out.trans hext)
            clear hext hend
            go_wp2_with fail
            go_ret
            exact ⟨by rw [decide_eq_false Hne.out]; rfl, HE2.out⟩
      · obtain rfl : k = n := by omega
        have Heq : Hid (xs = ys) := Bl.hid (by
          have h := Htk.out
          rwa [List.take_of_length_le (by rw [← Hn.out]; exact Nat.le_refl _), List.take_of_length_le (by rw [← Hm.out]; exact Nat.le_refl _)] at h)
        go_wp2_with fail
        go_ret
        exact ⟨by rw [decide_eq_true Heq.out]; rfl, HE.out⟩
  · have Hne : Hid (¬ xs = ys) := Bl.hid fun q => hnm (by rw [Hn.out, Hm.out, q])
    have hnm' : ((n : Int) == (m : Int)) = false := by rw [beq_eq_false_iff_ne]; omega
    go_enter Tryd.func17, Tryd.ntmps17
    go_wp2_with fail
    go_ret
    exact ⟨by rw [decide_eq_false Hne.out]; rfl, Below.refl _ _⟩
end Go.Proofs.YtkoddcjkhcnifaaDoor

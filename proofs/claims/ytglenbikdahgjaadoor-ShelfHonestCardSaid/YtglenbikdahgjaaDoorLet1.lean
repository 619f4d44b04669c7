/- Texts that stood apart, in one: EqI, LW1, LW2, LW5. -/
import Derived.Test.YtglenbikdahgjaaDoorLet0
import Derived.Test.YtglenbikdahgjaaDoorLib0
import Derived.Test.YtglenbikdahgjaaDoorChecked
import Derived.Test.YtglenbikdahgjaaDoorBA1
import Derived.Test.YtglenbikdahgjaaDoorShaR
import Derived.Test.YtglenbikdahgjaaDoorSamL
/- Walks of slices.Equal over whole numbers and of baileenum.SameInts. -/
namespace Go.Proofs.YtglenbikdahgjaaDoor
open Go Go.RowKit Go.Proofs

set_option maxRecDepth 100000 in
set_option maxHeartbeats 400000 in
theorem equalI_any (va vb : Value) (xs ys : List Int) (w : World) (hA : Bl.Rd w .i64 va xs) (hB : Bl.Rd w .i64 vb ys) :
    Calls Tryd.prog 14 #[va, vb] w fun e w' => e = .returned (.bool (decide (xs = ys))) ∧ Bl.Ext w w' := by
  obtain ⟨pa, ca, hvfa, hvna, hvca⟩ := hA.form
  obtain ⟨pb, cb, hvfb, hvnb, hvcb⟩ := hB.form
  subst hvfa hvfb
  have Hva := Bl.hid hA
  have Hvb := Bl.hid hB
  unfold maxLen at hvca hvcb
  obtain ⟨n, hn⟩ : ∃ n, n = xs.length := ⟨_, rfl⟩
  obtain ⟨m, hm⟩ : ∃ m, m = ys.length := ⟨_, rfl⟩
  rw [← hn] at ⊢ hvna
  rw [← hm] at ⊢ hvnb
  have Hn := Bl.hid hn
  have Hm := Bl.hid hm
  clear hA hB hn hm
  by_cases hnm : n = m
  · subst hnm
    go_enter Tryd.func14, Tryd.ntmps14
    go_wp2_with fail
    go_loopw [13] (fun i wr => ∃ k : Nat, k ≤ n ∧ i = .int .i64 k ∧ Bl.Ext w wr ∧ Hid (xs.take k = ys.take k)) (fun i _ => n - (intOf i).toNat)
    case atStart => exact ⟨0, Nat.zero_le _, rfl, Below.refl _ _, Bl.hid rfl⟩
    case round =>
      obtain ⟨k, hk, rfl, hE, Htk⟩ := hrel
      have HE := Bl.hid hE
      clear hE
      by_cases hlt : k < n
      · have hla : k < xs.length := by rw [← Hn.out]; exact hlt
        have hlb : k < ys.length := by rw [← Hm.out]; exact hlt
        obtain ⟨b1, o1, c1, hpa, _, _, _, _, hel1⟩ := Bl.Rd.pos (Hva.out.ext HE.out) (by omega)
        obtain ⟨b2, o2, c2, hpb, _, _, _, _, hel2⟩ := Bl.Rd.pos (Hvb.out.ext HE.out) (by omega)
        injection hpa with hp1 hp2 hp3
        injection hpb with hq1 hq2 hq3
        subst hp1 hq1
        have hcell1 := hel1 k hla
        have hcell2 := hel2 k hlb
        have Ht1 := Bl.hid (Bl.take_succ_getDD 0 xs k hla)
        have Ht2 := Bl.hid (Bl.take_succ_getDD 0 ys k hlb)
        obtain ⟨x, hx⟩ : ∃ x, x = xs.getD k 0 := ⟨_, rfl⟩
        obtain ⟨y, hy⟩ : ∃ y, y = ys.getD k 0 := ⟨_, rfl⟩
        rw [← hx] at hcell1 Ht1
        rw [← hy] at hcell2 Ht2
        have Hx := Bl.hid hx
        have Hy := Bl.hid hy
        clear hel1 hel2 hp2 hp3 hq2 hq3 hx hy hla hlb
        by_cases hxy : x = y
        · subst hxy
          go_wp2_with fail
          go_quiet (fail)
          go_wp2_with fail
          go_roundw
          case rel => exact ⟨k + 1, by omega, by go_num, HE.out.trans ((Below.refl _ _).drewN _), Bl.hid (by rw [Ht1.out, Ht2.out, Htk.out])⟩
          case measure => simp [intOf]; omega
        · have hq : (x == y) = false := by rw [beq_eq_false_iff_ne]; exact hxy
          have Hne : Hid (¬ xs = ys) := Bl.hid fun q => hxy (by rw [Hx.out, Hy.out, q])
          go_wp2_with fail
          go_quiet (fail)
          go_wp2_with fail
          go_ret
          exact ⟨by rw [decide_eq_false Hne.out]; rfl, HE.out.trans ((Below.refl _ _).drewN _)⟩
      · obtain rfl : k = n := by omega
        have Heq : Hid (xs = ys) := Bl.hid (by
          have h := Htk.out
          rwa [List.take_of_length_le (by rw [← Hn.out]; exact Nat.le_refl _), List.take_of_length_le (by rw [← Hm.out]; exact Nat.le_refl _)] at h)
        go_wp2_with fail
        go_ret
        exact ⟨by rw [decide_eq_true Heq.out]; rfl, HE.out⟩
  · have Hne : Hid (¬ xs = ys) := Bl.hid fun q => hnm (by rw [Hn.out, Hm.out, q])
    have hnm' : ((n : Int) == (m : Int)) = false := by rw [beq_eq_false_iff_ne]; omega
    go_enter Tryd.func14, Tryd.ntmps14
    go_wp2_with fail
    go_ret
    exact ⟨by rw [decide_eq_false Hne.out]; rfl, Below.refl _ _⟩

end Go.Proofs.YtglenbikdahgjaaDoor

/- Walks of slices.Equal over digests, Shown.same, slices.EqualFunc over shown blocks and over bytes. -/
namespace Go.Proofs.YtglenbikdahgjaaDoor
open Go Go.RowKit Go.Proofs

set_option maxRecDepth 100000 in
set_option maxHeartbeats 400000 in
theorem equalD_any (va vb : Value) (xs ys : List (List Int)) (w : World) (hA : Bl.RdD w va xs) (hB : Bl.RdD w vb ys) (hdx : Bl.Dig xs) (hdy : Bl.Dig ys) :
    Calls Tryd.prog 31 #[va, vb] w fun e w' => e = .returned (.bool (decide (xs = ys))) ∧ Bl.Ext w w' := by
  obtain ⟨pa, ca, hvfa, hvna, hvca⟩ := hA.form
  obtain ⟨pb, cb, hvfb, hvnb, hvcb⟩ := hB.form
  subst hvfa hvfb
  have HA := Bl.hid hA
  have HB := Bl.hid hB
  have Hdx := Bl.hid hdx
  have Hdy := Bl.hid hdy
  unfold maxLen at hvca hvcb
  obtain ⟨n, hn⟩ : ∃ n, n = xs.length := ⟨_, rfl⟩
  obtain ⟨m, hm⟩ : ∃ m, m = ys.length := ⟨_, rfl⟩
  rw [← hn] at ⊢ hvna
  rw [← hm] at ⊢ hvnb
  have Hn := Bl.hid hn
  have Hm := Bl.hid hm
  clear hA hB hdx hdy hn hm
  by_cases hnm : n = m
  · subst hnm
    go_enter Tryd.func31, Tryd.ntmps31
    go_wp2_with fail
    go_loopw [13] (fun i wr => ∃ k : Nat, k ≤ n ∧ i = .int .i64 k ∧ Bl.Ext w wr ∧ Hid (xs.take k = ys.take k)) (fun i _ => n - (intOf i).toNat)
    case atStart => exact ⟨0, Nat.zero_le _, rfl, Below.refl _ _, Bl.hid rfl⟩
    case round =>
      obtain ⟨k, hk, rfl, hE, Htk⟩ := hrel
      have HE := Bl.hid hE
      clear hE
      by_cases hlt : k < n
      · have hla : k < xs.length := by rw [← Hn.out]; exact hlt
        have hlb : k < ys.length := by rw [← Hm.out]; exact hlt
        obtain ⟨b1, o1, c1, hpa, hpa1, hpa2, hbl1, hrg1⟩ := Bl.RdD.pos (Bl.Rds.ext HA.out HE.out) Hdx.out (by omega)
        obtain ⟨b2, o2, c2, hpb, hpb1, hpb2, hbl2, hrg2⟩ := Bl.RdD.pos (Bl.Rds.ext HB.out HE.out) Hdy.out (by omega)
        injection hpa with hpa hpa3 hpa4
        injection hpb with hpb hpb3 hpb4
        clear hpa3 hpa4 hpb3 hpb4
        subst hpa hpb
        have hr1 := Bl.digit_at hrg1 Hdx.out (i := k) hla
        have hr2 := Bl.digit_at hrg2 Hdy.out (i := k) hlb
        obtain ⟨hl1, _⟩ := Hdx.out.get (i := k) hla
        obtain ⟨hl2, _⟩ := Hdy.out.get (i := k) hlb
        have Ht1 := Bl.hid (Bl.take_snocD xs k hla)
        have Ht2 := Bl.hid (Bl.take_snocD ys k hlb)
        obtain ⟨x, hx⟩ : ∃ x, x = xs.getD k [] := ⟨_, rfl⟩
        obtain ⟨y, hy⟩ : ∃ y, y = ys.getD k [] := ⟨_, rfl⟩
        rw [← hx] at hr1 hl1 Ht1
        rw [← hy] at hr2 hl2 Ht2
        have HL1 : Hid (∀ w2, Bl.Ext wr w2 → (Instr.loadAt 41 (.pointer (some ⟨b1, o1 + k * 32, none⟩))).run Tryd.prog w2 = .ok (.agg (Bl.ints .u8 x).toArray) w2) := Bl.hid fun w2 h2 => Bl.load_ints (Bl.rangeAt_ext hr1 h2) Tryd.underlying41 (by kernel_rfl) hl1
        have HL2 : Hid (∀ w2, Bl.Ext wr w2 → (Instr.loadAt 41 (.pointer (some ⟨b2, o2 + k * 32, none⟩))).run Tryd.prog w2 = .ok (.agg (Bl.ints .u8 y).toArray) w2) := Bl.hid fun w2 h2 => Bl.load_ints (Bl.rangeAt_ext hr2 h2) Tryd.underlying41 (by kernel_rfl) hl2
        have Hx := Bl.hid hx
        have Hy := Bl.hid hy
        have Hq : Hid (∀ w, (Op.equalIn 10000 41 (.agg (Bl.ints .u8 x).toArray) (.agg (Bl.ints .u8 y).toArray)).run Tryd.prog w = .ok (decide (x = y)) w) := Bl.hid fun w => Bl.eq10k Tryd.underlying41 Tryd.underlying5 (fun w => by simp [go_sem]) x y hl1 hl2 w
        clear hr1 hr2 hl1 hl2 hrg1 hrg2 hbl1 hbl2 hx hy hla hlb hpa1 hpa2 hpb1 hpb2
        have hk0 : (0 : Int) ≤ (k : Int) := by omega
        have hkl : (k : Int) < (n : Int) := by omega
        by_cases hxy : x = y
        · have heq := Hq.out
          rw [decide_eq_true hxy] at heq
          have Hxy := Bl.hid hxy
          clear hxy Hq
          go_wp2_with fail
          apply Bl.wp_region_ev 8 [16, 17, 18, 19, 20, 21, 22, 23] [Bl.eqv _, Bl.eqv _, Bl.eqv _, Bl.eqv _, Bl.eqv _, Bl.eqv _, Bl.eqv _, Bl.eqv _] (by kernel_rfl) (by kernel_rfl) (by kernel_rfl) (by kernel_rfl)
          case hsteps =>
            refine ⟨?_, ?_, ?_, ?_, ?_, ?_, ?_, ?_, trivial⟩
            all_goals
              intro ev w1 hext hb hd
              have e0 := hb 0 (by decide)
              have e1 := hb 1 (by decide)
              have e5 := hb 5 (by decide)
              clear hb
              simp only [Array.getD_eq_getD_getElem?, List.getElem?_toArray, List.getElem?_cons_succ, List.getElem?_cons_zero, Option.getD_some] at e0 e1 e5
              simp only [Bl.DepsE, List.getElem?_cons_succ, List.getElem?_cons_zero, Option.bind_some, List.getD_cons_succ, List.getD_cons_zero, Bl.eqv, and_true] at hd
              have hc := (Bl.bcell hext).1
              simp only [Bl.Good, Region.wanted, if_true]
              first
              | ((with_reducible refine Bl.goodR_load ?_ (HL1.out _ hext) ?_); exact hd; exact rfl) | ((with_reducible refine Bl.goodR_load ?_ (HL2.out _ hext) ?_); exact hd; exact rfl)
              | (go_simp; first | exact ⟨Below.refl _ _, rfl⟩ | exact ⟨Below.refl _ _, rfl⟩)
          case hmono => exact ⟨Bl.mono_eqv _, Bl.mono_eqv _, Bl.mono_eqv _, Bl.mono_eqv _, Bl.mono_eqv _, Bl.mono_eqv _, Bl.mono_eqv _, Bl.mono_eqv _, trivial⟩
          case hend =>
            intro u w1 hext hend
            simp only [Bl.EndE, List.getElem?_cons_succ, List.getElem?_cons_zero, Option.bind_some, List.getD_cons_succ, List.getD_cons_zero, Bl.eqv, true_and] at hend
            simp only [Bl.fillAct, List.setIfInBounds_toArray, List.set_cons_succ, List.set_cons_zero, List.drop_succ_cons, List.drop_zero, hend]
            have HE2 := Bl.hid (HE.out.trans hext)
            clear hext hend
            go_wp2_with fail
            go_roundw
            case rel => exact ⟨k + 1, by omega, by go_num, HE2.out, Bl.hid (by rw [Ht1.out, Ht2.out, Htk.out, Hxy.out])⟩
            case measure => simp [intOf]; omega
        · have heq := Hq.out
          rw [decide_eq_false hxy] at heq
          have Hne : Hid (¬ xs = ys) := Bl.hid fun q => hxy (by rw [Hx.out, Hy.out, q])
          clear hxy Hq
          go_wp2_with fail
          apply Bl.wp_region_ev 8 [16, 17, 18, 19, 20, 21, 22, 23] [Bl.eqv _, Bl.eqv _, Bl.eqv _, Bl.eqv _, Bl.eqv _, Bl.eqv _, Bl.eqv _, Bl.eqv _] (by kernel_rfl) (by kernel_rfl) (by kernel_rfl) (by kernel_rfl)
          case hsteps =>
            refine ⟨?_, ?_, ?_, ?_, ?_, ?_, ?_, ?_, trivial⟩
            all_goals
              intro ev w1 hext hb hd
              have e0 := hb 0 (by decide)
              have e1 := hb 1 (by decide)
              have e5 := hb 5 (by decide)
              clear hb
              simp only [Array.getD_eq_getD_getElem?, List.getElem?_toArray, List.getElem?_cons_succ, List.getElem?_cons_zero, Option.getD_some] at e0 e1 e5
              simp only [Bl.DepsE, List.getElem?_cons_succ, List.getElem?_cons_zero, Option.bind_some, List.getD_cons_succ, List.getD_cons_zero, Bl.eqv, and_true] at hd
              have hc := (Bl.bcell hext).1
              simp only [Bl.Good, Region.wanted, if_true]
              first
              | ((with_reducible refine Bl.goodR_load ?_ (HL1.out _ hext) ?_); exact hd; exact rfl) | ((with_reducible refine Bl.goodR_load ?_ (HL2.out _ hext) ?_); exact hd; exact rfl)
              | (go_simp; first | exact ⟨Below.refl _ _, rfl⟩ | exact ⟨Below.refl _ _, rfl⟩)
          case hmono => exact ⟨Bl.mono_eqv _, Bl.mono_eqv _, Bl.mono_eqv _, Bl.mono_eqv _, Bl.mono_eqv _, Bl.mono_eqv _, Bl.mono_eqv _, Bl.mono_eqv _, trivial⟩
          case hend =>
            intro u w1 hext hend
            simp only [Bl.EndE, List.getElem?_cons_succ, List.getElem?_cons_zero, Option.bind_some, List.getD_cons_succ, List.getD_cons_zero, Bl.eqv, true_and] at hend
            simp only [Bl.fillAct, List.setIfInBounds_toArray, List.set_cons_succ, List.set_cons_zero, List.drop_succ_cons, List.drop_zero, hend]
            have HE2 := Bl.hid (HE.out.trans hext)
            clear hext hend
            go_wp2_with fail
            go_ret
            exact ⟨by rw [decide_eq_false Hne.out]; rfl, HE2.out⟩
      · obtain rfl : k = n := by omega
        have Heq : Hid (xs = ys) := Bl.hid (by
          have h := Htk.out
          rwa [List.take_of_length_le (by rw [← Hn.out]; exact Nat.le_refl _), List.take_of_length_le (by rw [← Hm.out]; exact Nat.le_refl _)] at h)
        go_wp2_with fail
        go_ret
        exact ⟨by rw [decide_eq_true Heq.out]; rfl, HE.out⟩
  · have Hne : Hid (¬ xs = ys) := Bl.hid fun q => hnm (by rw [Hn.out, Hm.out, q])
    have hnm' : ((n : Int) == (m : Int)) = false := by rw [beq_eq_false_iff_ne]; omega
    go_enter Tryd.func31, Tryd.ntmps31
    go_wp2_with fail
    go_ret
    exact ⟨by rw [decide_eq_false Hne.out]; rfl, Below.refl _ _⟩

set_option maxRecDepth 100000 in
set_option maxHeartbeats 400000 in
theorem shsame_any (x y : Bl.Sv) (w : World) (hx : Bl.OkS w x) (hy : Bl.OkS w y) :
    Calls Tryd.prog 16 #[.agg (Bl.cS x).toArray, .agg (Bl.cS y).toArray] w fun e w' => e = .returned (.bool (decide (Bl.plS x = Bl.plS y))) ∧ Bl.Ext w w' := by
  obtain ⟨n1, ⟨v1, l1⟩, u1, d1⟩ := x
  obtain ⟨n2, ⟨v2, l2⟩, u2, d2⟩ := y
  obtain ⟨hst1, hbs1, hpa1, hdg1⟩ := hx
  obtain ⟨hst2, hbs2, hpa2, hdg2⟩ := hy
  have HEq : Hid (∀ w2, Bl.Ext w w2 → Calls Tryd.prog 18 #[v1, v2] w2 fun e w' => e = .returned (.bool (decide (l1 = l2))) ∧ w2 = w') := Bl.hid fun w2 h2 => equalB_any v1 v2 l1 l2 w2 (hst1.ext h2) (hst2.ext h2) hbs1 hbs2
  have HEd : Hid (∀ w2, Bl.Ext w w2 → Calls Tryd.prog 31 #[u1, u2] w2 fun e w' => e = .returned (.bool (decide (d1 = d2))) ∧ Bl.Ext w2 w') := Bl.hid fun w2 h2 => equalD_any u1 u2 d1 d2 w2 (Bl.Rds.ext hpa1 h2) (Bl.Rds.ext hpa2 h2) hdg1 hdg2
  have HD : Hid (decide (Bl.plS (n1, (v1, l1), u1, d1) = Bl.plS (n2, (v2, l2), u2, d2)) = (decide (n1 = n2) && decide (l1 = l2) && decide (d1 = d2))) := Bl.hid (by
    rw [Bool.eq_iff_iff]; simp [Bl.plS, and_assoc])
  clear hst1 hbs1 hpa1 hdg1 hst2 hbs2 hpa2 hdg2
  have HE0 := Bl.hid ((Bl.ext_alloc w (.cells #[.int .i64 n1, v1, u1] 46)).trans (Bl.ext_alloc (w.alloc (.cells #[.int .i64 n1, v1, u1] 46)) (.cells #[.int .i64 n2, v2, u2] 46)))
  show Calls Tryd.prog 16 #[.agg #[.int .i64 n1, v1, u1], .agg #[.int .i64 n2, v2, u2]] w _
  go_enter Tryd.func16, Tryd.ntmps16
  by_cases h1 : n1 = n2
  · subst h1
    go_wp2_with fail
    refine (HEq.out _ HE0.out).mono ?_
    rintro e w1 ⟨rfl, hw1⟩
    subst hw1
    by_cases h2 : l1 = l2
    · have h2d := decide_eq_true h2
      rw [h2d]
      have HD2 : Hid (decide (Bl.plS (n1, (v1, l1), u1, d1) = Bl.plS (n1, (v2, l2), u2, d2)) = decide (d1 = d2)) := Bl.hid (by rw [HD.out, h2d]; simp)
      clear h2 h2d
      go_wp2_with fail
      refine (HEd.out _ HE0.out).mono ?_
      rintro e w1 ⟨rfl, hE1⟩
      have HE1 := Bl.hid (HE0.out.trans hE1)
      clear hE1
      generalize decide (d1 = d2) = q at *
      cases q
      · go_wp2_with fail
        go_ret
        exact ⟨by rw [HD2.out]; rfl, HE1.out⟩
      · go_wp2_with fail
        go_ret
        exact ⟨by rw [HD2.out]; rfl, HE1.out⟩
    · have h2d := decide_eq_false h2
      rw [h2d]
      have HD2 : Hid (decide (Bl.plS (n1, (v1, l1), u1, d1) = Bl.plS (n1, (v2, l2), u2, d2)) = false) := Bl.hid (by rw [HD.out, h2d]; simp)
      clear h2 h2d
      go_wp2_with fail
      go_ret
      exact ⟨by rw [HD2.out]; rfl, HE0.out⟩
  · have h1d : (n1 == n2) = false := by rw [beq_eq_false_iff_ne]; exact h1
    have HD2 : Hid (decide (Bl.plS (n1, (v1, l1), u1, d1) = Bl.plS (n2, (v2, l2), u2, d2)) = false) := Bl.hid (by rw [HD.out, decide_eq_false h1]; rfl)
    go_wp2_with fail
    go_ret
    exact ⟨by rw [HD2.out]; rfl, HE0.out⟩
end Go.Proofs.YtglenbikdahgjaaDoor

/- Walks of slices.EqualFunc over shown blocks and over bytes, letter.Same. -/
namespace Go.Proofs.YtglenbikdahgjaaDoor
open Go Go.RowKit Go.Proofs

set_option maxRecDepth 100000 in
set_option maxHeartbeats 1000000 in
theorem eqfS_any (va vb : Value) (L M : List Bl.Sv) (w : World) (hA : Bl.RdS w va L) (hB : Bl.RdS w vb M) :
    Calls Tryd.prog 15 #[va, vb, .func (.func 16) #[] #[]] w fun e w' => e = .returned (.bool (decide (L.map Bl.plS = M.map Bl.plS))) ∧ Bl.Ext w w' := by
  obtain ⟨pa, ca, hvfa, hvna, hvca⟩ := hA.rd.form
  obtain ⟨pb, cb, hvfb, hvnb, hvcb⟩ := hB.rd.form
  subst hvfa hvfb
  have HA := Bl.hid hA
  have HB := Bl.hid hB
  unfold maxLen at hvca hvcb
  obtain ⟨n, hn⟩ : ∃ n, n = L.length := ⟨_, rfl⟩
  obtain ⟨m, hm⟩ : ∃ m, m = M.length := ⟨_, rfl⟩
  rw [← hn] at ⊢ hvna
  rw [← hm] at ⊢ hvnb
  have Hn := Bl.hid hn
  have Hm := Bl.hid hm
  clear hA hB hn hm
  by_cases hnm : n = m
  · subst hnm
    go_enter Tryd.func15, Tryd.ntmps15
    go_wp2_with fail
    go_loopw [17] (fun i wr => ∃ k : Nat, k ≤ n ∧ i = .int .i64 k ∧ Bl.Ext w wr ∧ Hid ((L.map Bl.plS).take k = (M.map Bl.plS).take k)) (fun i _ => n - (intOf i).toNat)
    case atStart => exact ⟨0, Nat.zero_le _, rfl, Below.refl _ _, Bl.hid rfl⟩
    case round =>
      obtain ⟨k, hk, rfl, hE, Htk⟩ := hrel
      have HE := Bl.hid hE
      clear hE
      by_cases hlt : k < n
      · have hla : k < L.length := by rw [← Hn.out]; exact hlt
        have hlb : k < M.length := by rw [← Hm.out]; exact hlt
        obtain ⟨b1, o1, c1, hpa, _, _, _, hel1⟩ := (HA.out.ext HE.out).pos (by omega)
        obtain ⟨b2, o2, c2, hpb, _, _, _, hel2⟩ := (HB.out.ext HE.out).pos (by omega)
        injection hpa with hp1 hp2 hp3
        injection hpb with hq1 hq2 hq3
        subst hp1 hq1
        have hr1 := hel1 k hla
        have hr2 := hel2 k hlb
        have hok1 := (HA.out.ext HE.out).ok _ (Bl.getD_mem Bl.s0 hla)
        have hok2 := (HB.out.ext HE.out).ok _ (Bl.getD_mem Bl.s0 hlb)
        have Ht1 : Hid ((L.map Bl.plS).take (k + 1) = (L.map Bl.plS).take k ++ [Bl.plS (L.getD k Bl.s0)]) := Bl.hid (by rw [← Bl.plS_getD]; exact Bl.take_succ_getDD Bl.h0 (L.map Bl.plS) k (by simpa using hla))
        have Ht2 : Hid ((M.map Bl.plS).take (k + 1) = (M.map Bl.plS).take k ++ [Bl.plS (M.getD k Bl.s0)]) := Bl.hid (by rw [← Bl.plS_getD]; exact Bl.take_succ_getDD Bl.h0 (M.map Bl.plS) k (by simpa using hlb))
        have Hne : Hid (¬ Bl.plS (L.getD k Bl.s0) = Bl.plS (M.getD k Bl.s0) → ¬ L.map Bl.plS = M.map Bl.plS) := Bl.hid fun h q => h (by rw [← Bl.plS_getD, ← Bl.plS_getD, q])
        obtain ⟨x, hx⟩ : ∃ x, x = L.getD k Bl.s0 := ⟨_, rfl⟩
        obtain ⟨y, hy⟩ : ∃ y, y = M.getD k Bl.s0 := ⟨_, rfl⟩
        rw [← hx] at hr1 hok1 Ht1 Hne
        rw [← hy] at hr2 hok2 Ht2 Hne
        have Hld1 := Bl.hid (run_loadAt_mid (P := Tryd.prog) wr b1 (o1 + k * 3) 46 _ _ hr1 Tryd.underlying46 rfl (by rw [Bl.cS_len]; kernel_rfl))
        obtain ⟨hB8, hE8⟩ := Bl.BoxC.fresh (cs := Bl.cS x) wr 46 Bl.zSh rfl (Bl.cS_ne x)
        have Hst1 := Bl.hid (Bl.fresh_store (P := Tryd.prog) (cs := Bl.cS x) wr 46 Bl.zSh rfl (Bl.cS_one hok1) (ty := 46) (by rw [Bl.cS_len]; kernel_rfl))
        have HB8 := Bl.hid hB8
        have HE8 := Bl.hid hE8
        have Hok1 := Bl.hid hok1
        have Hok2 := Bl.hid hok2
        have Hr2 := Bl.hid hr2
        clear hel1 hel2 hp2 hp3 hq2 hq3 hx hy hla hlb hr1 hr2 hok1 hok2 hB8 hE8
        have hk0 : (0 : Int) ≤ (k : Int) := by omega
        have hkl : (k : Int) < (n : Int) := by omega
        go_wp2_with (with_reducible refine Bl.stop_load (ty := 46) ?_)
        refine Bl.go_on ?_
        refine Bl.wpL_load rfl Hld1.out ?_
        go_wp2_with (with_reducible refine Bl.stop_store (ty := 46) ?_)
        refine Bl.go_on ?_
        refine Bl.wpL_store0 rfl rfl Hst1.out ?_
        obtain ⟨W8, hW8⟩ : ∃ W8, W8 = (wr.alloc (.cells Bl.zSh 46)).setCells wr.heap.size 0 (Bl.cS x) := ⟨_, rfl⟩
        obtain ⟨X8, hX8⟩ : ∃ X8, X8 = wr.heap.size := ⟨_, rfl⟩
        rw [← hW8] at HB8 HE8 ⊢
        rw [← hX8] at HB8 ⊢
        clear hW8 hX8 Hst1 Hld1
        have Hld2 := Bl.hid (run_loadAt_mid (P := Tryd.prog) W8 b2 (o2 + k * 3) 46 _ _ (Bl.rangeAt_ext Hr2.out HE8.out) Tryd.underlying46 rfl (by rw [Bl.cS_len]; kernel_rfl))
        obtain ⟨hB9, hE9⟩ := Bl.BoxC.fresh (cs := Bl.cS y) W8 46 Bl.zSh rfl (Bl.cS_ne y)
        have Hst2 := Bl.hid (Bl.fresh_store (P := Tryd.prog) (cs := Bl.cS y) W8 46 Bl.zSh rfl (Bl.cS_one Hok2.out) (ty := 46) (by rw [Bl.cS_len]; kernel_rfl))
        have HB9 := Bl.hid hB9
        have HB89 := Bl.hid (HB8.out.ext hE9)
        have HE9 := Bl.hid (HE8.out.trans hE9)
        clear hB9 hE9
        go_wp2_with (with_reducible refine Bl.stop_load (ty := 46) ?_)
        refine Bl.go_on ?_
        refine Bl.wpL_load rfl Hld2.out ?_
        go_wp2_with (with_reducible refine Bl.stop_store (ty := 46) ?_)
        refine Bl.go_on ?_
        refine Bl.wpL_store0 rfl rfl Hst2.out ?_
        obtain ⟨W9, hW9⟩ : ∃ W9, W9 = (W8.alloc (.cells Bl.zSh 46)).setCells W8.heap.size 0 (Bl.cS y) := ⟨_, rfl⟩
        obtain ⟨X9, hX9⟩ : ∃ X9, X9 = W8.heap.size := ⟨_, rfl⟩
        rw [← hW9] at HB9 HB89 HE9 ⊢
        rw [← hX9] at HB9 ⊢
        clear hW9 hX9 Hst2 Hld2 HB8 HE8
        have Hl8 := Bl.hid (HB89.out.load (P := Tryd.prog) Tryd.underlying46 rfl (by rw [Bl.cS_len]; kernel_rfl))
        have Hl9 := Bl.hid (HB9.out.load (P := Tryd.prog) Tryd.underlying46 rfl (by rw [Bl.cS_len]; kernel_rfl))
        go_wp2_with (with_reducible refine Bl.stop_load (ty := 46) ?_)
        refine Bl.go_on ?_
        refine Bl.wpL_load rfl Hl8.out ?_
        go_wp2_with (with_reducible refine Bl.stop_load (ty := 46) ?_)
        refine Bl.go_on ?_
        refine Bl.wpL_load rfl Hl9.out ?_
        go_wp2_with fail
        refine (shsame_any x y W9 (Hok1.out.ext HE9.out) (Hok2.out.ext HE9.out)).mono ?_
        rintro e w1 ⟨rfl, hE1⟩
        have HE1 := Bl.hid ((HE.out.trans HE9.out).trans hE1)
        clear hE1
        by_cases hxy : Bl.plS x = Bl.plS y
        · have hd := decide_eq_true hxy
          have Hxy := Bl.hid hxy
          rw [hd]
          clear hd hxy
          go_wp2_with fail
          go_roundw
          case rel => exact ⟨k + 1, by omega, by go_num, HE1.out, Bl.hid (by rw [Ht1.out, Ht2.out, Htk.out, Hxy.out])⟩
          case measure => simp [intOf]; omega
        · have hd := decide_eq_false hxy
          have Hne2 := Bl.hid (Hne.out hxy)
          rw [hd]
          clear hd hxy
          go_wp2_with fail
          go_ret
          exact ⟨by rw [decide_eq_false Hne2.out]; rfl, HE1.out⟩
      · obtain rfl : k = n := by omega
        have Heq : Hid (L.map Bl.plS = M.map Bl.plS) := Bl.hid (by
          have h := Htk.out
          rwa [List.take_of_length_le (by rw [List.length_map, ← Hn.out]; exact Nat.le_refl _), List.take_of_length_le (by rw [List.length_map, ← Hm.out]; exact Nat.le_refl _)] at h)
        go_wp2_with fail
        go_ret
        exact ⟨by rw [decide_eq_true Heq.out]; rfl, HE.out⟩
  · have Hne : Hid (¬ L.map Bl.plS = M.map Bl.plS) := Bl.hid fun q => hnm (by have := congrArg List.length q; rw [List.length_map, List.length_map] at this; rw [Hn.out, Hm.out, this])
    have hnm' : ((n : Int) == (m : Int)) = false := by rw [beq_eq_false_iff_ne]; omega
    go_enter Tryd.func15, Tryd.ntmps15
    go_wp2_with fail
    go_ret
    exact ⟨by rw [decide_eq_false Hne.out]; rfl, Below.refl _ _⟩

set_option maxRecDepth 100000 in
set_option maxHeartbeats 1000000 in
theorem eqfB_any (va vb : Value) (xs ys : List (List Int)) (w : World) (hA : Bl.Rdss w va xs) (hB : Bl.Rdss w vb ys) (hba : ∀ p ∈ xs, Bl.Byt p) (hbb : ∀ p ∈ ys, Bl.Byt p) :
    Calls Tryd.prog 17 #[va, vb, .func (.func 18) #[] #[]] w fun e w' => e = .returned (.bool (decide (xs = ys))) ∧ Bl.Ext w w' := by
  obtain ⟨wa, hva, hwla, hwsa⟩ := hA
  obtain ⟨wb, hvb, hwlb, hwsb⟩ := hB
  obtain ⟨pa, ca, hvfa, hvna, hvca⟩ := hva.form
  obtain ⟨pb, cb, hvfb, hvnb, hvcb⟩ := hvb.form
  subst hvfa hvfb
  have Hva := Bl.hid hva
  have Hvb := Bl.hid hvb
  have Hwsa := Bl.hid hwsa
  have Hwsb := Bl.hid hwsb
  have Hwla := Bl.hid hwla
  have Hwlb := Bl.hid hwlb
  have Hba := Bl.hid hba
  have Hbb := Bl.hid hbb
  unfold maxLen at hvca hvcb
  obtain ⟨n, hn⟩ : ∃ n, n = xs.length := ⟨_, rfl⟩
  obtain ⟨m, hm⟩ : ∃ m, m = ys.length := ⟨_, rfl⟩
  rw [← hn] at Hva ⊢ hvna
  rw [← hm] at Hvb ⊢ hvnb
  have Hn := Bl.hid hn
  have Hm := Bl.hid hm
  clear hva hvb hwsa hwsb hwla hwlb hba hbb hn hm
  by_cases hnm : n = m
  · subst hnm
    go_enter Tryd.func17, Tryd.ntmps17
    go_wp2_with fail
    go_loopw [17] (fun i wr => ∃ k : Nat, k ≤ n ∧ i = .int .i64 k ∧ wr = w ∧ Hid (xs.take k = ys.take k)) (fun i _ => n - (intOf i).toNat)
    case atStart => exact ⟨0, Nat.zero_le _, rfl, rfl, Bl.hid rfl⟩
    case round =>
      obtain ⟨k, hk, rfl, hwr, Htk⟩ := hrel
      subst hwr
      by_cases hlt : k < n
      · have hla : k < xs.length := by rw [← Hn.out]; exact hlt
        have hlb : k < ys.length := by rw [← Hm.out]; exact hlt
        obtain ⟨b1, o1, hpa, hbl1, hcell1⟩ := Bl.Rdss.cell' (ps := xs) (n := n) (by have := Hva.out; rw [Hn.out] at this ⊢; exact this) Hwla.out k hla
        obtain ⟨b2, o2, hpb, hbl2, hcell2⟩ := Bl.Rdss.cell' (ps := ys) (n := n) (by have := Hvb.out; rw [Hm.out] at this ⊢; exact this) Hwlb.out k hlb
        subst hpa hpb
        have hR1 := Hwsa.out k hla
        have hR2 := Hwsb.out k hlb
        have hbx : Bl.Byt (xs.getD k []) := Hba.out _ (Bl.getD_mem [] hla)
        have hby : Bl.Byt (ys.getD k []) := Hbb.out _ (Bl.getD_mem [] hlb)
        have Ht1 := Bl.hid (Bl.take_succ_getDD [] xs k hla)
        have Ht2 := Bl.hid (Bl.take_succ_getDD [] ys k hlb)
        have Hne : Hid (¬ xs.getD k [] = ys.getD k [] → ¬ xs = ys) := Bl.hid fun h q => h (by rw [q])
        obtain ⟨x, hx⟩ : ∃ x, x = xs.getD k [] := ⟨_, rfl⟩
        obtain ⟨y, hy⟩ : ∃ y, y = ys.getD k [] := ⟨_, rfl⟩
        rw [← hx] at hR1 hbx Ht1 Hne
        rw [← hy] at hR2 hby Ht2 Hne
        generalize wa.getD k undef = u1 at *
        generalize wb.getD k undef = u2 at *
        have HEq := Bl.hid (equalB_any u1 u2 x y wr hR1 hR2 hbx hby)
        clear hR1 hR2 hbl1 hbl2 hx hy hla hlb hbx hby
        go_wp2_with fail
        refine HEq.out.mono ?_
        rintro e w1 ⟨rfl, hw1⟩
        subst hw1
        by_cases hxy : x = y
        · have hd := decide_eq_true hxy
          have Hxy := Bl.hid hxy
          rw [hd]
          clear hd hxy
          go_wp2_with fail
          go_roundw
          case rel => exact ⟨k + 1, by omega, by go_num, trivial, Bl.hid (by rw [Ht1.out, Ht2.out, Htk.out, Hxy.out])⟩
          case measure => simp [intOf]; omega
        · have hd := decide_eq_false hxy
          have Hne2 := Bl.hid (Hne.out hxy)
          rw [hd]
          clear hd hxy
          go_wp2_with fail
          go_ret
          exact ⟨by rw [decide_eq_false Hne2.out]; rfl, Below.refl _ _⟩
      · obtain rfl : k = n := by omega
        have Heq : Hid (xs = ys) := Bl.hid (by
          have h := Htk.out
          rwa [List.take_of_length_le (by rw [← Hn.out]; exact Nat.le_refl _), List.take_of_length_le (by rw [← Hm.out]; exact Nat.le_refl _)] at h)
        go_wp2_with fail
        go_ret
        exact ⟨by rw [decide_eq_true Heq.out]; rfl, Below.refl _ _⟩
  · have Hne : Hid (¬ xs = ys) := Bl.hid fun q => hnm (by rw [Hn.out, Hm.out, q])
    have hnm' : ((n : Int) == (m : Int)) = false := by rw [beq_eq_false_iff_ne]; omega
    go_enter Tryd.func17, Tryd.ntmps17
    go_wp2_with fail
    go_ret
    exact ⟨by rw [decide_eq_false Hne.out]; rfl, Below.refl _ _⟩

set_option maxRecDepth 100000 in
set_option maxHeartbeats 1000000 in
theorem lsame_any (va vb : Value) (a b : Bl.LT) (w : World) (hA : Bl.LtV w va a) (hB : Bl.LtV w vb b) :
    Calls Tryd.prog 7 #[va, vb] w fun e w' => e = .returned (.bool (Bl.sameL a b)) ∧ Bl.Ext w w' := by
  obtain ⟨csa, pa, sa, ba, L, rfl, ha⟩ := hA
  obtain ⟨csb, pb, sb, bb, M, rfl, hb⟩ := hB
  obtain rfl := ha.eq
  obtain rfl := hb.eq
  have HI : Hid (∀ w2, Bl.Ext w w2 → Calls Tryd.prog 14 #[pa, pb] w2 fun e w' => e = .returned (.bool (decide (a.places = b.places))) ∧ Bl.Ext w2 w') := Bl.hid fun w2 h2 => equalI_any pa pb _ _ w2 (ha.pl.ext h2) (hb.pl.ext h2)
  have HS : Hid (∀ w2, Bl.Ext w w2 → Calls Tryd.prog 15 #[sa, sb, .func (.func 16) #[] #[]] w2 fun e w' => e = .returned (.bool (decide (a.shown = b.shown))) ∧ Bl.Ext w2 w') := Bl.hid fun w2 h2 => by
    rw [← ha.sl, ← hb.sl]; exact eqfS_any sa sb L M w2 (ha.sh.ext h2) (hb.sh.ext h2)
  have HB : Hid (∀ w2, Bl.Ext w w2 → Calls Tryd.prog 17 #[ba, bb, .func (.func 18) #[] #[]] w2 fun e w' => e = .returned (.bool (decide (a.blocks = b.blocks))) ∧ Bl.Ext w2 w') := Bl.hid fun w2 h2 => eqfB_any ba bb _ _ w2 (ha.bl.ext h2) (hb.bl.ext h2) ha.by' hb.by'
  have HD : Hid (Bl.sameL a b = (decide (a.nums = b.nums) && decide (a.places = b.places) && decide (a.shown = b.shown) && decide (a.blocks = b.blocks))) := Bl.hid (by
    rw [Bool.eq_iff_iff]; simp [Bl.sameL, Bl.LT.ext_iff', and_assoc])
  clear ha hb
  obtain ⟨k1, i1, j1, pl1, sh1, f1, c1, bl1, d1⟩ := a
  obtain ⟨k2, i2, j2, pl2, sh2, f2, c2, bl2, d2⟩ := b
  have heq : ∀ w, (Op.equalIn 10000 49 (.agg #[.int .i64 k1, .int .i64 i1, .int .i64 j1, .int .i64 f1, .int .i64 c1, .int .i64 d1]) (.agg #[.int .i64 k2, .int .i64 i2, .int .i64 j2, .int .i64 f2, .int .i64 c2, .int .i64 d2])).run Tryd.prog w = .ok (decide (Bl.LT.nums ⟨k1, i1, j1, pl1, sh1, f1, c1, bl1, d1⟩ = Bl.LT.nums ⟨k2, i2, j2, pl2, sh2, f2, c2, bl2, d2⟩)) w := fun w =>
    Bl.eq10k (k := .i64) Tryd.underlying49 Tryd.underlying3 (fun w => by simp [go_sem]) [k1, i1, j1, f1, c1, d1] [k2, i2, j2, f2, c2, d2] rfl rfl w
  obtain ⟨W0, hW0⟩ : ∃ W0, W0 = (w.alloc (.cells #[.int .i64 k1, .int .i64 i1, .int .i64 j1, pa, sa, .int .i64 f1, .int .i64 c1, ba, .int .i64 d1] 26)).alloc (.cells #[.int .i64 k2, .int .i64 i2, .int .i64 j2, pb, sb, .int .i64 f2, .int .i64 c2, bb, .int .i64 d2] 26) := ⟨_, rfl⟩
  have HE0 : Hid (Bl.Ext w W0) := Bl.hid (by rw [hW0]; exact (Bl.ext_alloc _ _).trans (Bl.ext_alloc _ _))
  have HBa : Hid (Bl.BoxC W0 w.heap.size (Bl.cL ⟨k1, i1, j1, pl1, sh1, f1, c1, bl1, d1⟩ pa sa ba)) := Bl.hid (by rw [hW0]; exact (Bl.BoxC.box w 26 (Bl.cL_ne _ _ _ _)).ext (Bl.ext_alloc _ _))
  have HBb : Hid (Bl.BoxC W0 (w.heap.size + 1) (Bl.cL ⟨k2, i2, j2, pl2, sh2, f2, c2, bl2, d2⟩ pb sb bb)) := Bl.hid (by
    rw [hW0]
    have h := Bl.BoxC.box (w.alloc (.cells #[.int .i64 k1, .int .i64 i1, .int .i64 j1, pa, sa, .int .i64 f1, .int .i64 c1, ba, .int .i64 d1] 26)) 26 (Bl.cL_ne ⟨k2, i2, j2, pl2, sh2, f2, c2, bl2, d2⟩ pb sb bb)
    rw [show (w.alloc (.cells #[.int .i64 k1, .int .i64 i1, .int .i64 j1, pa, sa, .int .i64 f1, .int .i64 c1, ba, .int .i64 d1] 26)).heap.size = w.heap.size + 1 from by simp] at h
    exact h)
  generalize decide (Bl.LT.nums ⟨k1, i1, j1, pl1, sh1, f1, c1, bl1, d1⟩ = Bl.LT.nums ⟨k2, i2, j2, pl2, sh2, f2, c2, bl2, d2⟩) = q1 at *
  simp only at HI HS HB HD
  generalize decide (pl1 = pl2) = q2 at *
  generalize decide (sh1 = sh2) = q3 at *
  generalize decide (bl1 = bl2) = q4 at *
  show Calls Tryd.prog 7 #[.agg #[.int .i64 k1, .int .i64 i1, .int .i64 j1, pa, sa, .int .i64 f1, .int .i64 c1, ba, .int .i64 d1], .agg #[.int .i64 k2, .int .i64 i2, .int .i64 j2, pb, sb, .int .i64 f2, .int .i64 c2, bb, .int .i64 d2]] w _
  go_enter Tryd.func7, Tryd.ntmps7
  cases q1
  · go_wp2_with fail
    go_ret
    refine ⟨by rw [HD.out]; rfl, ?_⟩
    rw [← hW0]; exact HE0.out
  go_wp2_with fail
  rw [← hW0]
  clear hW0
  refine (HI.out W0 HE0.out).mono ?_
  rintro e w1 ⟨rfl, hE1⟩
  have HE1 := Bl.hid (HE0.out.trans hE1)
  have HBa1 := Bl.hid (HBa.out.ext hE1)
  have HBb1 := Bl.hid (HBb.out.ext hE1)
  clear hE1 HBa HBb
  cases q2
  · go_wp2_with fail
    go_ret
    exact ⟨by rw [HD.out]; rfl, HE1.out⟩
  have ga := HBa1.out.cell (i := 4) rfl
  have gb := HBb1.out.cell (i := 4) rfl
  go_wp2_with fail
  refine (HS.out w1 HE1.out).mono ?_
  rintro e w2 ⟨rfl, hE2⟩
  have HE2 := Bl.hid (HE1.out.trans hE2)
  have HBa2 := Bl.hid (HBa1.out.ext hE2)
  have HBb2 := Bl.hid (HBb1.out.ext hE2)
  clear hE2 HBa1 HBb1 ga gb
  cases q3
  · go_wp2_with fail
    go_ret
    exact ⟨by rw [HD.out]; rfl, HE2.out⟩
  have ga := HBa2.out.cell (i := 7) rfl
  have gb := HBb2.out.cell (i := 7) rfl
  go_wp2_with fail
  refine (HB.out w2 HE2.out).mono ?_
  rintro e w3 ⟨rfl, hE3⟩
  have HE3 := Bl.hid (HE2.out.trans hE3)
  clear hE3 ga gb HBa2 HBb2
  cases q4
  · go_wp2_with fail
    go_ret
    exact ⟨by rw [HD.out]; rfl, HE3.out⟩
  · go_wp2_with fail
    go_ret
    exact ⟨by rw [HD.out]; rfl, HE3.out⟩
end Go.Proofs.YtglenbikdahgjaaDoor

/- Walk of baileeref22.Same. -/
namespace Go.Proofs.YtglenbikdahgjaaDoor
open Go Go.RowKit Go.Proofs

end Go.Proofs.YtglenbikdahgjaaDoor

/- Walk of the law PathClashes. -/
import Derived.Test.YtjmkcenkjnoblaaDoorWRefFold
import Derived.Test.YtjmkcenkjnoblaaDoorWAl13
import Derived.Test.YtjmkcenkjnoblaaDoorWNumN
import Derived.Test.YtjmkcenkjnoblaaDoorAsk
import Derived.Test.YtjmkcenkjnoblaaDoorWClash2
import Derived.Test.YtjmkcenkjnoblaaDoorWClash3
namespace Go.Proofs.YtjmkcenkjnoblaaDoor
open Go.RowKit Go.Proofs

set_option maxRecDepth 100000 in
set_option maxHeartbeats 2000000 in
theorem clashes_A (v : Value) (ps : List (List Int)) (cs : List Value) (root : List Int) (n : Int) (i : Int) (vl vp : Value) (l : List Int) (p : List (List Int)) (w : World) (_a : Nat → Addr) (hR : Bl.Rdss w v ps) (hA : Bl.AskC cs root n i vl vp) (hl : Bl.Rd w .u8 vl l) (hbl : Bl.Byt l) (hby : ∀ q ∈ ps, Bl.Byt q) (hp : Bl.RdD w vp p) (hdp : Bl.Dig p) (hg : GlobR w) (hi : ¬ (0 ≤ i ∧ i < (ps.length : Int)))
    (hCl : l.length ≤ 200 → ps.length ≤ 40 → (∀ q ∈ ps, q.length ≤ 200) → ∀ w2 vd, Bl.Ext w w2 → Bl.RdD w2 vd p → Calls Tryd.prog 14 #[v, .int .i64 i, vl, vd] w2 fun e w' => e = .returned (.tuple #[.slice none 0 0, .slice none 0 0, .bool false]) ∧ Bl.Ext w2 w') :
    Calls Tryd.prog 4 #[v, .agg cs.toArray] w fun e w' => e = .returned (.bool true) ∧ Bl.Ext w w' := by
  have hR2 := hR
  obtain ⟨ws, hv, hwl, hws⟩ := hR2
  obtain ⟨pv, cvv, hvf, hvn, hvc⟩ := hv.form
  subst hvf
  obtain ⟨pl, cl, hvlf, hvln, hvlc⟩ := hl.form
  subst hvlf
  obtain ⟨pp, cp, hvpf, hvpn, hvpc⟩ := hp.form
  subst hvpf
  unfold maxLen at hvlc hvpc hvc
  have HR := Bl.hid hR
  have Hv := Bl.hid hv
  have Hwl := Bl.hid hwl
  have Hws := Bl.hid hws
  have HCl := Bl.hid hCl
  have Hby := Bl.hid hby
  have Hbl := Bl.hid hbl
  have Hl := Bl.hid hl
  have HA0 := Bl.hid (hA.at' w 37)
  have HE0 := Bl.hid (Bl.ext_alloc w (.cells cs.toArray 37))
  have Hp := Bl.hid hp
  have Hdp := Bl.hid hdp
  have Hg := Bl.hid hg
  clear hCl hA hl hp hdp hg hR hv hwl hws hby hbl
  go_enter Tryd.func4, Tryd.ntmps4
  go_wp2_with fail
  generalize w.alloc (.cells cs.toArray 37) = W0 at HA0 HE0 ⊢
  refine (alive13 W0 (Hg.out.s.ext HE0.out)).mono ?_
  rintro e w1 ⟨rfl, hE1⟩
  have HA1 := Bl.hid (HA0.out.ext hE1)
  have HE1 := Bl.hid (HE0.out.trans hE1)
  clear hE1 HA0 HE0
  go_wp2_with fail
  refine (long_any _ ps w1 40 (Bl.Rdss.ext HR.out HE1.out)).mono ?_
  rintro e w2 ⟨hw2, hlo⟩
  replace hw2 := hw2.symm
  subst hw2
  have hq4 := HA1.out.leaf
  have hq5 := HA1.out.path
  rcases hlo with rfl | ⟨rfl, hl40, hlp⟩
  · go_wp2_with fail
    go_ret
    exact ⟨rfl, HE1.out⟩
  have Hlp : Hid (∀ q ∈ ps, q.length ≤ 200) := Bl.hid hlp
  clear hlp
  by_cases hl200 : (200 : Int) < (l.length : Int)
  · go_wp2_with fail
    go_ret
    exact ⟨rfl, HE1.out⟩
  by_cases hp40 : (40 : Int) < (p.length : Int)
  · go_wp2_with fail
    go_ret
    exact ⟨rfl, HE1.out⟩
  have Hl2 : Hid (l.length ≤ 200) := Bl.hid (by omega)
  have Hl4 : Hid (ps.length ≤ 40) := Bl.hid (by omega)
  go_wp2_with fail
  refine (digests13_any _ p w1 (Bl.Rds.ext Hp.out HE1.out) Hdp.out (by omega)).mono ?_
  rintro e w2 ⟨pd, cd, rfl, hown2, hE2⟩
  have HD2 : Hid (Bl.RdD w2 (.slice pd p.length cd) p) := Bl.hid (Bl.Rds.of_owns hown2)
  have HA2 := Bl.hid (HA1.out.ext hE2)
  have HE2 := Bl.hid (HE1.out.trans hE2)
  clear hown2 hE2 HA1 HE1 hq4 hq5
  have hq3 := HA2.out.qi
  have hq4 := HA2.out.leaf
  go_wp2_with fail
  refine (HCl.out Hl2.out Hl4.out Hlp.out w2 _ HE2.out HD2.out).mono ?_
  rintro e w3 ⟨rfl, hE3⟩
  have HD3 := Bl.hid (Bl.Rds.ext HD2.out hE3)
  have HA3 := Bl.hid (HA2.out.ext hE3)
  have HE3 := Bl.hid (HE2.out.trans hE3)
  clear hE3 HA2 HE2 HD2 hq3 hq4
  have hq3 := HA3.out.qi
  have hc2 : i < 0 ∨ (¬ i < 0 ∧ (ps.length : Int) ≤ i) := by omega
  clear hi
  rcases hc2 with h1 | ⟨h1, h2⟩
  all_goals
    go_wp2_with fail
    go_ret
    exact ⟨rfl, HE3.out⟩

set_option maxRecDepth 100000 in
set_option maxHeartbeats 2000000 in
theorem clashes_B (v : Value) (ps : List (List Int)) (cs : List Value) (root : List Int) (n : Int) (i : Nat) (vl vp : Value) (l : List Int) (p : List (List Int)) (w : World) (a : Nat → Addr) (K : Value) (hK : ∃ m, K = errN a m ∧ ¬ m = 0) (hR : Bl.Rdss w v ps) (hA : Bl.AskC cs root n (i : Int) vl vp) (hl : Bl.Rd w .u8 vl l) (hbl : Bl.Byt l) (hby : ∀ q ∈ ps, Bl.Byt q) (hp : Bl.RdD w vp p) (hdp : Bl.Dig p) (hg : GlobR w) (hi : i < ps.length)
    (hCl : l.length ≤ 200 → ps.length ≤ 40 → (∀ q ∈ ps, q.length ≤ 200) → ∀ w2 vd, Bl.Ext w w2 → Bl.RdD w2 vd p → Calls Tryd.prog 14 #[v, .int .i64 (i : Int), vl, vd] w2 fun e w' => e = .returned (.tuple #[.slice none 0 0, .slice none 0 0, .bool false]) ∧ Bl.Ext w2 w')
    (hCk : l.length ≤ 200 → ps.length ≤ 40 → (∀ q ∈ ps, q.length ≤ 200) → ∀ w2 vd, Bl.Ext w w2 → Bl.RdD w2 vd p → Calls Tryd.prog 15 #[.agg (Bl.ints .u8 (Bl.rootD ps)).toArray, .int .i64 ps.length, .int .i64 (i : Int), vl, vd] w2 fun e w' => e = .returned (K) ∧ Bl.Ext w2 w') :
    Calls Tryd.prog 4 #[v, .agg cs.toArray] w fun e w' => e = .returned (.bool true) ∧ Bl.Ext w w' := by
  have hR2 := hR
  obtain ⟨ws, hv, hwl, hws⟩ := hR2
  obtain ⟨pv, cvv, hvf, hvn, hvc⟩ := hv.form
  subst hvf
  obtain ⟨pl, cl, hvlf, hvln, hvlc⟩ := hl.form
  subst hvlf
  obtain ⟨pp, cp, hvpf, hvpn, hvpc⟩ := hp.form
  subst hvpf
  unfold maxLen at hvlc hvpc hvc
  have HR := Bl.hid hR
  have Hv := Bl.hid hv
  have Hwl := Bl.hid hwl
  have Hws := Bl.hid hws
  have HCl := Bl.hid hCl
  have Hby := Bl.hid hby
  have Hbl := Bl.hid hbl
  have Hl := Bl.hid hl
  have HCk := Bl.hid hCk
  have HA0 := Bl.hid (hA.at' w 37)
  have HE0 := Bl.hid (Bl.ext_alloc w (.cells cs.toArray 37))
  have Hp := Bl.hid hp
  have Hdp := Bl.hid hdp
  have Hg := Bl.hid hg
  clear hCl hA hl hp hdp hg hR hv hwl hws hby hbl hCk
  go_enter Tryd.func4, Tryd.ntmps4
  go_wp2_with fail
  generalize w.alloc (.cells cs.toArray 37) = W0 at HA0 HE0 ⊢
  refine (alive13 W0 (Hg.out.s.ext HE0.out)).mono ?_
  rintro e w1 ⟨rfl, hE1⟩
  have HA1 := Bl.hid (HA0.out.ext hE1)
  have HE1 := Bl.hid (HE0.out.trans hE1)
  clear hE1 HA0 HE0
  go_wp2_with fail
  refine (long_any _ ps w1 40 (Bl.Rdss.ext HR.out HE1.out)).mono ?_
  rintro e w2 ⟨hw2, hlo⟩
  replace hw2 := hw2.symm
  subst hw2
  have hq4 := HA1.out.leaf
  have hq5 := HA1.out.path
  rcases hlo with rfl | ⟨rfl, hl40, hlp⟩
  · go_wp2_with fail
    go_ret
    exact ⟨rfl, HE1.out⟩
  have Hlp : Hid (∀ q ∈ ps, q.length ≤ 200) := Bl.hid hlp
  clear hlp
  by_cases hl200 : (200 : Int) < (l.length : Int)
  · go_wp2_with fail
    go_ret
    exact ⟨rfl, HE1.out⟩
  by_cases hp40 : (40 : Int) < (p.length : Int)
  · go_wp2_with fail
    go_ret
    exact ⟨rfl, HE1.out⟩
  have Hl2 : Hid (l.length ≤ 200) := Bl.hid (by omega)
  have Hl4 : Hid (ps.length ≤ 40) := Bl.hid (by omega)
  go_wp2_with fail
  refine (digests13_any _ p w1 (Bl.Rds.ext Hp.out HE1.out) Hdp.out (by omega)).mono ?_
  rintro e w2 ⟨pd, cd, rfl, hown2, hE2⟩
  have HD2 : Hid (Bl.RdD w2 (.slice pd p.length cd) p) := Bl.hid (Bl.Rds.of_owns hown2)
  have HA2 := Bl.hid (HA1.out.ext hE2)
  have HE2 := Bl.hid (HE1.out.trans hE2)
  clear hown2 hE2 HA1 HE1 hq4 hq5
  have hq3 := HA2.out.qi
  have hq4 := HA2.out.leaf
  go_wp2_with fail
  refine (HCl.out Hl2.out Hl4.out Hlp.out w2 _ HE2.out HD2.out).mono ?_
  rintro e w3 ⟨rfl, hE3⟩
  have HD3 := Bl.hid (Bl.Rds.ext HD2.out hE3)
  have HA3 := Bl.hid (HA2.out.ext hE3)
  have HE3 := Bl.hid (HE2.out.trans hE3)
  clear hE3 HA2 HE2 HD2 hq3 hq4
  have hq3 := HA3.out.qi
  have hq4 := HA3.out.leaf
  have hB := HA3.out.lt
  have hi0 : ¬ ((i : Int) < 0) := by omega
  have hi1 : (i : Int) < (ps.length : Int) := by omega
  have hi00 : (0 : Int) ≤ (i : Int) := by omega
  obtain ⟨b, o, hpe, hbl0, hcell0⟩ := Bl.Rdss.cell' (Hv.out.ext HE3.out) Hwl.out i hi
  subst hpe
  have hRk0 := Hws.out i hi
  obtain ⟨pk, ck, hfk, _, _⟩ := hRk0.form
  rw [hfk] at hcell0
  have hRk : Bl.Rd w3 .u8 (.slice pk (ps.getD i []).length ck) (ps.getD i []) := by rw [hfk] at hRk0; exact hRk0.ext HE3.out
  have hmem : ps.getD i [] ∈ ps := by rw [List.getD_eq_getElem?_getD, List.getElem?_eq_getElem hi]; exact List.getElem_mem hi
  have Hbi : Hid (Bl.Byt (ps.getD i [])) := Bl.hid (Hby.out _ hmem)
  have HRt : Hid (∀ w2, Bl.Ext w3 w2 → Calls Tryd.prog 16 #[.slice (some ⟨b, o, none⟩) ps.length cvv] w2 fun e w' => e = .returned (.agg (Bl.ints .u8 (Bl.rootD ps)).toArray) ∧ Bl.Ext w2 w') := Bl.hid fun w2 h2 =>
    refroot_any _ ps w2 (Bl.Rdss.ext HR.out (HE3.out.trans h2)) (Hg.out.ext (HE3.out.trans h2)) Hby.out (fun q hq => by have := Hlp.out q hq; omega) (by have := Hl4.out; omega)
  have HCk3 : Hid (∀ w2, Bl.Ext w3 w2 → Calls Tryd.prog 15 #[.agg (Bl.ints .u8 (Bl.rootD ps)).toArray, .int .i64 ps.length, .int .i64 (i : Int), .slice pl l.length cl, .slice pd p.length cd] w2 fun e w' => e = .returned (K) ∧ Bl.Ext w2 w') := Bl.hid fun w2 h2 =>
    HCk.out Hl2.out Hl4.out Hlp.out w2 _ (HE3.out.trans h2) (Bl.Rds.ext HD3.out h2)
  obtain ⟨RD, hRD⟩ : ∃ RD, RD = Bl.rootD ps := ⟨_, rfl⟩
  rw [← hRD] at HRt HCk3
  obtain ⟨m, hK1, hK2⟩ := hK
  rw [errN_pos a m hK2] at hK1
  subst hK1
  clear hRk0 hfk hRD hmem
  go_wp2_with fail
  apply Bl.wp_region_ev 11 [62, 63, 64, 65, 66, 67, 68, 69, 70, 71, 72] [Bl.eqv _, Bl.eqv _, Bl.eqv _, Bl.eqv _, Bl.eqv _, Bl.eqv _, Bl.eqv _, Bl.eqv _, Bl.eqv _, Bl.eqv _, Bl.eqv _] (by kernel_rfl) (by kernel_rfl) (by kernel_rfl) (by kernel_rfl)
  case hsteps =>
    refine ⟨?_, ?_, ?_, ?_, ?_, ?_, ?_, ?_, ?_, ?_, ?_, trivial⟩
    all_goals
      intro ev w1 hext hb hd
      have e0 := hb 0 (by decide)
      have e3 := hb 3 (by decide)
      have e5 := hb 5 (by decide)
      clear hb
      simp only [Array.getD_eq_getD_getElem?, List.getElem?_toArray, List.getElem?_cons_succ, List.getElem?_cons_zero, Option.getD_some] at e0 e3 e5
      simp only [Bl.DepsE, List.getElem?_cons_succ, List.getElem?_cons_zero, Option.bind_some, List.getD_cons_succ, List.getD_cons_zero, Bl.eqv, and_true] at hd
      have hc := (Bl.bcell hext).1
      have hq3' := (hc _ 33 hB).trans hq3
      have hq4' := (hc _ 34 hB).trans hq4
      simp only [Bl.Good, Region.wanted, if_true]
      go_simp
      first | (go_at_call 16; (with_reducible refine (HRt.out _ hext).mono ?_); rintro e w2 ⟨rfl, hE2⟩; exact ⟨_, rfl, hE2, rfl⟩) | (go_at_call 15; (with_reducible refine (HCk3.out _ hext).mono ?_); rintro e w2 ⟨rfl, hE2⟩; exact ⟨_, rfl, hE2, rfl⟩) | exact rfl | exact ⟨Below.refl _ _, rfl⟩ | exact ⟨Below.refl _ _, rfl⟩
  case hmono => exact ⟨Bl.mono_eqv _, Bl.mono_eqv _, Bl.mono_eqv _, Bl.mono_eqv _, Bl.mono_eqv _, Bl.mono_eqv _, Bl.mono_eqv _, Bl.mono_eqv _, Bl.mono_eqv _, Bl.mono_eqv _, Bl.mono_eqv _, trivial⟩
  case hend =>
    intro u w1 hext hend
    simp only [Bl.EndE, List.getElem?_cons_succ, List.getElem?_cons_zero, Option.bind_some, List.getD_cons_succ, List.getD_cons_zero, Bl.eqv, true_and] at hend
    simp only [Bl.fillAct, List.setIfInBounds_toArray, List.set_cons_succ, List.set_cons_zero, List.drop_succ_cons, List.drop_zero, hend]
    have HE4 := Bl.hid hext
    have HA4 := Bl.hid (HA3.out.ext hext)
    have HE4w := Bl.hid (HE3.out.trans hext)
    have hbl4 : b < w1.heap.size := Nat.lt_of_lt_of_le hbl0 hext.size
    have hc4 := ((Bl.bcell hext).1 _ (o + i) hbl0).trans hcell0
    clear hext hend hq3 hq4 hcell0 hbl0 hB
    have hq3 := HA4.out.qi
    have hq4 := HA4.out.leaf
    have hB := HA4.out.lt
    go_wp2_with fail
    apply Bl.wp_region_ev 13 [73, 74, 75, 76, 77, 78, 79, 80, 81, 82, 83, 84, 85] [Bl.eqv _, Bl.eqv _, Bl.eqv _, Bl.eqv _, Bl.eqv _, Bl.eqv _, Bl.eqv _, Bl.eqv _, Bl.eqv _, Bl.eqv _, Bl.eqv _, Bl.eqv _, Bl.eqv _] (by kernel_rfl) (by kernel_rfl) (by kernel_rfl) (by kernel_rfl)
    case hsteps =>
      refine ⟨?_, ?_, ?_, ?_, ?_, ?_, ?_, ?_, ?_, ?_, ?_, ?_, ?_, trivial⟩
      all_goals
        intro ev w1 hext hb hd
        have e0 := hb 0 (by decide)
        have e3 := hb 3 (by decide)
        have e9 := hb 9 (by decide)
        clear hb
        simp only [Array.getD_eq_getD_getElem?, List.getElem?_toArray, List.getElem?_cons_succ, List.getElem?_cons_zero, Option.getD_some] at e0 e3 e9
        simp only [Bl.DepsE, List.getElem?_cons_succ, List.getElem?_cons_zero, Option.bind_some, List.getD_cons_succ, List.getD_cons_zero, Bl.eqv, and_true] at hd
        have hc := (Bl.bcell hext).1
        simp only [Bl.Good, Region.wanted, Bl.yieldE, List.getElem?_cons_succ, List.getElem?_cons_zero, Option.bind_some, hd, if_true]
        go_simp
        first | exact rfl | exact ⟨Below.refl _ _, rfl⟩ | exact ⟨Below.refl _ _, rfl⟩
    case hmono => exact ⟨Bl.mono_eqv _, Bl.mono_eqv _, Bl.mono_eqv _, Bl.mono_eqv _, Bl.mono_eqv _, Bl.mono_eqv _, Bl.mono_eqv _, Bl.mono_eqv _, Bl.mono_eqv _, Bl.mono_eqv _, Bl.mono_eqv _, Bl.mono_eqv _, Bl.mono_eqv _, trivial⟩
    case hend =>
      intro u w1 hext hend
      simp only [Bl.EndE, List.getElem?_cons_succ, List.getElem?_cons_zero, Option.bind_some, List.getD_cons_succ, List.getD_cons_zero, Bl.eqv, true_and] at hend
      simp only [Bl.fillAct, List.setIfInBounds_toArray, List.set_cons_succ, List.set_cons_zero, List.drop_succ_cons, List.drop_zero, hend]
      have HE5 := Bl.hid (HE4w.out.trans hext)
      clear hext hend
      go_wp2_with fail
      go_ret
      exact ⟨rfl, HE5.out⟩

set_option maxRecDepth 100000 in
set_option maxHeartbeats 2000000 in
theorem clashes_S (v : Value) (ps : List (List Int)) (cs : List Value) (root : List Int) (n : Int) (i : Nat) (vl vp : Value) (l : List Int) (p : List (List Int)) (w : World) (_a : Nat → Addr) (hR : Bl.Rdss w v ps) (hA : Bl.AskC cs root n (i : Int) vl vp) (hl : Bl.Rd w .u8 vl l) (hbl : Bl.Byt l) (hby : ∀ q ∈ ps, Bl.Byt q) (hp : Bl.RdD w vp p) (hdp : Bl.Dig p) (hg : GlobR w) (hi : i < ps.length) (heqL : ps.getD i [] = l)
    (hCl : l.length ≤ 200 → ps.length ≤ 40 → (∀ q ∈ ps, q.length ≤ 200) → ∀ w2 vd, Bl.Ext w w2 → Bl.RdD w2 vd p → Calls Tryd.prog 14 #[v, .int .i64 (i : Int), vl, vd] w2 fun e w' => e = .returned (.tuple #[.slice none 0 0, .slice none 0 0, .bool false]) ∧ Bl.Ext w2 w')
    (hCk : l.length ≤ 200 → ps.length ≤ 40 → (∀ q ∈ ps, q.length ≤ 200) → ∀ w2 vd, Bl.Ext w w2 → Bl.RdD w2 vd p → Calls Tryd.prog 15 #[.agg (Bl.ints .u8 (Bl.rootD ps)).toArray, .int .i64 ps.length, .int .i64 (i : Int), vl, vd] w2 fun e w' => e = .returned (.nilIface) ∧ Bl.Ext w2 w') :
    Calls Tryd.prog 4 #[v, .agg cs.toArray] w fun e w' => e = .returned (.bool true) ∧ Bl.Ext w w' := by
  have hR2 := hR
  obtain ⟨ws, hv, hwl, hws⟩ := hR2
  obtain ⟨pv, cvv, hvf, hvn, hvc⟩ := hv.form
  subst hvf
  obtain ⟨pl, cl, hvlf, hvln, hvlc⟩ := hl.form
  subst hvlf
  obtain ⟨pp, cp, hvpf, hvpn, hvpc⟩ := hp.form
  subst hvpf
  unfold maxLen at hvlc hvpc hvc
  have HR := Bl.hid hR
  have Hv := Bl.hid hv
  have Hwl := Bl.hid hwl
  have Hws := Bl.hid hws
  have HCl := Bl.hid hCl
  have Hby := Bl.hid hby
  have Hbl := Bl.hid hbl
  have Hl := Bl.hid hl
  have HCk := Bl.hid hCk
  have HA0 := Bl.hid (hA.at' w 37)
  have HE0 := Bl.hid (Bl.ext_alloc w (.cells cs.toArray 37))
  have Hp := Bl.hid hp
  have Hdp := Bl.hid hdp
  have Hg := Bl.hid hg
  clear hCl hA hl hp hdp hg hR hv hwl hws hby hbl hCk
  go_enter Tryd.func4, Tryd.ntmps4
  go_wp2_with fail
  generalize w.alloc (.cells cs.toArray 37) = W0 at HA0 HE0 ⊢
  refine (alive13 W0 (Hg.out.s.ext HE0.out)).mono ?_
  rintro e w1 ⟨rfl, hE1⟩
  have HA1 := Bl.hid (HA0.out.ext hE1)
  have HE1 := Bl.hid (HE0.out.trans hE1)
  clear hE1 HA0 HE0
  go_wp2_with fail
  refine (long_any _ ps w1 40 (Bl.Rdss.ext HR.out HE1.out)).mono ?_
  rintro e w2 ⟨hw2, hlo⟩
  replace hw2 := hw2.symm
  subst hw2
  have hq4 := HA1.out.leaf
  have hq5 := HA1.out.path
  rcases hlo with rfl | ⟨rfl, hl40, hlp⟩
  · go_wp2_with fail
    go_ret
    exact ⟨rfl, HE1.out⟩
  have Hlp : Hid (∀ q ∈ ps, q.length ≤ 200) := Bl.hid hlp
  clear hlp
  by_cases hl200 : (200 : Int) < (l.length : Int)
  · go_wp2_with fail
    go_ret
    exact ⟨rfl, HE1.out⟩
  by_cases hp40 : (40 : Int) < (p.length : Int)
  · go_wp2_with fail
    go_ret
    exact ⟨rfl, HE1.out⟩
  have Hl2 : Hid (l.length ≤ 200) := Bl.hid (by omega)
  have Hl4 : Hid (ps.length ≤ 40) := Bl.hid (by omega)
  go_wp2_with fail
  refine (digests13_any _ p w1 (Bl.Rds.ext Hp.out HE1.out) Hdp.out (by omega)).mono ?_
  rintro e w2 ⟨pd, cd, rfl, hown2, hE2⟩
  have HD2 : Hid (Bl.RdD w2 (.slice pd p.length cd) p) := Bl.hid (Bl.Rds.of_owns hown2)
  have HA2 := Bl.hid (HA1.out.ext hE2)
  have HE2 := Bl.hid (HE1.out.trans hE2)
  clear hown2 hE2 HA1 HE1 hq4 hq5
  have hq3 := HA2.out.qi
  have hq4 := HA2.out.leaf
  go_wp2_with fail
  refine (HCl.out Hl2.out Hl4.out Hlp.out w2 _ HE2.out HD2.out).mono ?_
  rintro e w3 ⟨rfl, hE3⟩
  have HD3 := Bl.hid (Bl.Rds.ext HD2.out hE3)
  have HA3 := Bl.hid (HA2.out.ext hE3)
  have HE3 := Bl.hid (HE2.out.trans hE3)
  clear hE3 HA2 HE2 HD2 hq3 hq4
  have hq3 := HA3.out.qi
  have hq4 := HA3.out.leaf
  have hB := HA3.out.lt
  have hi0 : ¬ ((i : Int) < 0) := by omega
  have hi1 : (i : Int) < (ps.length : Int) := by omega
  have hi00 : (0 : Int) ≤ (i : Int) := by omega
  obtain ⟨b, o, hpe, hbl0, hcell0⟩ := Bl.Rdss.cell' (Hv.out.ext HE3.out) Hwl.out i hi
  subst hpe
  have hRk0 := Hws.out i hi
  obtain ⟨pk, ck, hfk, _, _⟩ := hRk0.form
  rw [hfk] at hcell0
  have hRk : Bl.Rd w3 .u8 (.slice pk (ps.getD i []).length ck) (ps.getD i []) := by rw [hfk] at hRk0; exact hRk0.ext HE3.out
  have hmem : ps.getD i [] ∈ ps := by rw [List.getD_eq_getElem?_getD, List.getElem?_eq_getElem hi]; exact List.getElem_mem hi
  have Hbi : Hid (Bl.Byt (ps.getD i [])) := Bl.hid (Hby.out _ hmem)
  have HRt : Hid (∀ w2, Bl.Ext w3 w2 → Calls Tryd.prog 16 #[.slice (some ⟨b, o, none⟩) ps.length cvv] w2 fun e w' => e = .returned (.agg (Bl.ints .u8 (Bl.rootD ps)).toArray) ∧ Bl.Ext w2 w') := Bl.hid fun w2 h2 =>
    refroot_any _ ps w2 (Bl.Rdss.ext HR.out (HE3.out.trans h2)) (Hg.out.ext (HE3.out.trans h2)) Hby.out (fun q hq => by have := Hlp.out q hq; omega) (by have := Hl4.out; omega)
  have HCk3 : Hid (∀ w2, Bl.Ext w3 w2 → Calls Tryd.prog 15 #[.agg (Bl.ints .u8 (Bl.rootD ps)).toArray, .int .i64 ps.length, .int .i64 (i : Int), .slice pl l.length cl, .slice pd p.length cd] w2 fun e w' => e = .returned (.nilIface) ∧ Bl.Ext w2 w') := Bl.hid fun w2 h2 =>
    HCk.out Hl2.out Hl4.out Hlp.out w2 _ (HE3.out.trans h2) (Bl.Rds.ext HD3.out h2)
  obtain ⟨RD, hRD⟩ : ∃ RD, RD = Bl.rootD ps := ⟨_, rfl⟩
  rw [← hRD] at HRt HCk3
  obtain ⟨z, hz⟩ : ∃ z, z = ps.getD i [] := ⟨_, rfl⟩
  rw [← hz] at hcell0 hRk Hbi heqL
  clear hRk0 hfk hRD hmem hz
  go_wp2_with fail
  apply Bl.wp_region_ev 11 [62, 63, 64, 65, 66, 67, 68, 69, 70, 71, 72] [Bl.eqv _, Bl.eqv _, Bl.eqv _, Bl.eqv _, Bl.eqv _, Bl.eqv _, Bl.eqv _, Bl.eqv _, Bl.eqv _, Bl.eqv _, Bl.eqv _] (by kernel_rfl) (by kernel_rfl) (by kernel_rfl) (by kernel_rfl)
  case hsteps =>
    refine ⟨?_, ?_, ?_, ?_, ?_, ?_, ?_, ?_, ?_, ?_, ?_, trivial⟩
    all_goals
      intro ev w1 hext hb hd
      have e0 := hb 0 (by decide)
      have e3 := hb 3 (by decide)
      have e5 := hb 5 (by decide)
      clear hb
      simp only [Array.getD_eq_getD_getElem?, List.getElem?_toArray, List.getElem?_cons_succ, List.getElem?_cons_zero, Option.getD_some] at e0 e3 e5
      simp only [Bl.DepsE, List.getElem?_cons_succ, List.getElem?_cons_zero, Option.bind_some, List.getD_cons_succ, List.getD_cons_zero, Bl.eqv, and_true] at hd
      have hc := (Bl.bcell hext).1
      have hq3' := (hc _ 33 hB).trans hq3
      have hq4' := (hc _ 34 hB).trans hq4
      simp only [Bl.Good, Region.wanted, if_true]
      go_simp
      first | (go_at_call 16; (with_reducible refine (HRt.out _ hext).mono ?_); rintro e w2 ⟨rfl, hE2⟩; exact ⟨_, rfl, hE2, rfl⟩) | (go_at_call 15; (with_reducible refine (HCk3.out _ hext).mono ?_); rintro e w2 ⟨rfl, hE2⟩; exact ⟨_, rfl, hE2, rfl⟩) | exact rfl | exact ⟨Below.refl _ _, rfl⟩ | exact ⟨Below.refl _ _, rfl⟩
  case hmono => exact ⟨Bl.mono_eqv _, Bl.mono_eqv _, Bl.mono_eqv _, Bl.mono_eqv _, Bl.mono_eqv _, Bl.mono_eqv _, Bl.mono_eqv _, Bl.mono_eqv _, Bl.mono_eqv _, Bl.mono_eqv _, Bl.mono_eqv _, trivial⟩
  case hend =>
    intro u w1 hext hend
    simp only [Bl.EndE, List.getElem?_cons_succ, List.getElem?_cons_zero, Option.bind_some, List.getD_cons_succ, List.getD_cons_zero, Bl.eqv, true_and] at hend
    simp only [Bl.fillAct, List.setIfInBounds_toArray, List.set_cons_succ, List.set_cons_zero, List.drop_succ_cons, List.drop_zero, hend]
    have HE4 := Bl.hid hext
    have HA4 := Bl.hid (HA3.out.ext hext)
    have HE4w := Bl.hid (HE3.out.trans hext)
    have hbl4 : b < w1.heap.size := Nat.lt_of_lt_of_le hbl0 hext.size
    have hc4 := ((Bl.bcell hext).1 _ (o + i) hbl0).trans hcell0
    clear hext hend hq3 hq4 hcell0 hbl0 hB
    have hq3 := HA4.out.qi
    have hq4 := HA4.out.leaf
    have hB := HA4.out.lt
    subst heqL
    have Hcva : Hid (∀ w2, Bl.Ext w1 w2 → (convert 23 9 (.slice pk z.length ck)).run Tryd.prog w2 = .ok (.string (Bl.bstr z)) w2) := Bl.hid fun w2 h2 => Bl.conv_bytes (hRk.ext (HE4.out.trans h2)) Tryd.underlying23 Tryd.underlying5 Tryd.underlying9
    have Hcvb : Hid (∀ w2, Bl.Ext w1 w2 → (convert 23 9 (.slice pl z.length cl)).run Tryd.prog w2 = .ok (.string (Bl.bstr z)) w2) := Bl.hid fun w2 h2 => Bl.conv_bytes (Hl.out.ext (HE4w.out.trans h2)) Tryd.underlying23 Tryd.underlying5 Tryd.underlying9
    clear hRk
    go_wp2_with fail
    apply Bl.wp_region_ev 13 [73, 74, 75, 76, 77, 78, 79, 80, 81, 82, 83, 84, 85] [Bl.eqv _, Bl.eqv _, Bl.eqv _, Bl.eqv _, Bl.eqv _, Bl.eqv _, Bl.eqv _, Bl.eqv _, Bl.eqv _, Bl.eqv _, Bl.eqv _, Bl.eqv _, Bl.eqv _] (by kernel_rfl) (by kernel_rfl) (by kernel_rfl) (by kernel_rfl)
    case hsteps =>
      refine ⟨?_, ?_, ?_, ?_, ?_, ?_, ?_, ?_, ?_, ?_, ?_, ?_, ?_, trivial⟩
      all_goals
        intro ev w1 hext hb hd
        have e0 := hb 0 (by decide)
        have e3 := hb 3 (by decide)
        have e9 := hb 9 (by decide)
        clear hb
        simp only [Array.getD_eq_getD_getElem?, List.getElem?_toArray, List.getElem?_cons_succ, List.getElem?_cons_zero, Option.getD_some] at e0 e3 e9
        simp only [Bl.DepsE, List.getElem?_cons_succ, List.getElem?_cons_zero, Option.bind_some, List.getD_cons_succ, List.getD_cons_zero, Bl.eqv, and_true] at hd
        have hc := (Bl.bcell hext).1
        have hq3' := (hc _ 33 hB).trans hq3
        have hq4' := (hc _ 34 hB).trans hq4
        have hcl := (hc _ (o + i) hbl4).trans hc4
        have c1 := Hcva.out _ hext
        have c2 := Hcvb.out _ hext
        simp only [Bl.Good, Region.wanted, Bl.yieldE, List.getElem?_cons_succ, List.getElem?_cons_zero, Option.bind_some, hd, beq_self_eq_true, if_true]
        go_simp
        first | exact rfl | exact ⟨Below.refl _ _, rfl⟩ | exact ⟨Below.refl _ _, rfl⟩
    case hmono => exact ⟨Bl.mono_eqv _, Bl.mono_eqv _, Bl.mono_eqv _, Bl.mono_eqv _, Bl.mono_eqv _, Bl.mono_eqv _, Bl.mono_eqv _, Bl.mono_eqv _, Bl.mono_eqv _, Bl.mono_eqv _, Bl.mono_eqv _, Bl.mono_eqv _, Bl.mono_eqv _, trivial⟩
    case hend =>
      intro u w1 hext hend
      simp only [Bl.EndE, List.getElem?_cons_succ, List.getElem?_cons_zero, Option.bind_some, List.getD_cons_succ, List.getD_cons_zero, Bl.eqv, true_and] at hend
      simp only [Bl.fillAct, List.setIfInBounds_toArray, List.set_cons_succ, List.set_cons_zero, List.drop_succ_cons, List.drop_zero, hend]
      have HE5 := Bl.hid (HE4w.out.trans hext)
      have HE5a := Bl.hid (HE4.out.trans hext)
      clear hext hend
      go_wp2_with fail
      go_ret
      exact ⟨rfl, HE5.out⟩

set_option maxRecDepth 100000 in
set_option maxHeartbeats 2000000 in
theorem clashes_C (v : Value) (ps : List (List Int)) (cs : List Value) (root : List Int) (n : Int) (i : Nat) (vl vp : Value) (l : List Int) (p : List (List Int)) (w : World) (_a : Nat → Addr) (hR : Bl.Rdss w v ps) (hA : Bl.AskC cs root n (i : Int) vl vp) (hl : Bl.Rd w .u8 vl l) (hbl : Bl.Byt l) (hby : ∀ q ∈ ps, Bl.Byt q) (hp : Bl.RdD w vp p) (hdp : Bl.Dig p) (hg : GlobR w) (hi : i < ps.length) (hneL : ¬ ps.getD i [] = l)
    (hCl : l.length ≤ 200 → ps.length ≤ 40 → (∀ q ∈ ps, q.length ≤ 200) → ∀ w2 vd, Bl.Ext w w2 → Bl.RdD w2 vd p → Calls Tryd.prog 14 #[v, .int .i64 (i : Int), vl, vd] w2 fun e w' => ∃ x y, e = .returned (.tuple #[x, y, .bool true]) ∧ Bl.ClashR w' x y ∧ Bl.Ext w2 w')
    (hCk : l.length ≤ 200 → ps.length ≤ 40 → (∀ q ∈ ps, q.length ≤ 200) → ∀ w2 vd, Bl.Ext w w2 → Bl.RdD w2 vd p → Calls Tryd.prog 15 #[.agg (Bl.ints .u8 (Bl.rootD ps)).toArray, .int .i64 ps.length, .int .i64 (i : Int), vl, vd] w2 fun e w' => e = .returned (.nilIface) ∧ Bl.Ext w2 w') :
    Calls Tryd.prog 4 #[v, .agg cs.toArray] w fun e w' => e = .returned (.bool true) ∧ Bl.Ext w w' := by
  have hR2 := hR
  obtain ⟨ws, hv, hwl, hws⟩ := hR2
  obtain ⟨pv, cvv, hvf, hvn, hvc⟩ := hv.form
  subst hvf
  obtain ⟨pl, cl, hvlf, hvln, hvlc⟩ := hl.form
  subst hvlf
  obtain ⟨pp, cp, hvpf, hvpn, hvpc⟩ := hp.form
  subst hvpf
  unfold maxLen at hvlc hvpc hvc
  have HR := Bl.hid hR
  have Hv := Bl.hid hv
  have Hwl := Bl.hid hwl
  have Hws := Bl.hid hws
  have HCl := Bl.hid hCl
  have Hby := Bl.hid hby
  have Hbl := Bl.hid hbl
  have Hl := Bl.hid hl
  have HCk := Bl.hid hCk
  have HA0 := Bl.hid (hA.at' w 37)
  have HE0 := Bl.hid (Bl.ext_alloc w (.cells cs.toArray 37))
  have Hp := Bl.hid hp
  have Hdp := Bl.hid hdp
  have Hg := Bl.hid hg
  clear hCl hA hl hp hdp hg hR hv hwl hws hby hbl hCk
  go_enter Tryd.func4, Tryd.ntmps4
  go_wp2_with fail
  generalize w.alloc (.cells cs.toArray 37) = W0 at HA0 HE0 ⊢
  refine (alive13 W0 (Hg.out.s.ext HE0.out)).mono ?_
  rintro e w1 ⟨rfl, hE1⟩
  have HA1 := Bl.hid (HA0.out.ext hE1)
  have HE1 := Bl.hid (HE0.out.trans hE1)
  clear hE1 HA0 HE0
  go_wp2_with fail
  refine (long_any _ ps w1 40 (Bl.Rdss.ext HR.out HE1.out)).mono ?_
  rintro e w2 ⟨hw2, hlo⟩
  replace hw2 := hw2.symm
  subst hw2
  have hq4 := HA1.out.leaf
  have hq5 := HA1.out.path
  rcases hlo with rfl | ⟨rfl, hl40, hlp⟩
  · go_wp2_with fail
    go_ret
    exact ⟨rfl, HE1.out⟩
  have Hlp : Hid (∀ q ∈ ps, q.length ≤ 200) := Bl.hid hlp
  clear hlp
  by_cases hl200 : (200 : Int) < (l.length : Int)
  · go_wp2_with fail
    go_ret
    exact ⟨rfl, HE1.out⟩
  by_cases hp40 : (40 : Int) < (p.length : Int)
  · go_wp2_with fail
    go_ret
    exact ⟨rfl, HE1.out⟩
  have Hl2 : Hid (l.length ≤ 200) := Bl.hid (by omega)
  have Hl4 : Hid (ps.length ≤ 40) := Bl.hid (by omega)
  go_wp2_with fail
  refine (digests13_any _ p w1 (Bl.Rds.ext Hp.out HE1.out) Hdp.out (by omega)).mono ?_
  rintro e w2 ⟨pd, cd, rfl, hown2, hE2⟩
  have HD2 : Hid (Bl.RdD w2 (.slice pd p.length cd) p) := Bl.hid (Bl.Rds.of_owns hown2)
  have HA2 := Bl.hid (HA1.out.ext hE2)
  have HE2 := Bl.hid (HE1.out.trans hE2)
  clear hown2 hE2 HA1 HE1 hq4 hq5
  have hq3 := HA2.out.qi
  have hq4 := HA2.out.leaf
  go_wp2_with fail
  refine (HCl.out Hl2.out Hl4.out Hlp.out w2 _ HE2.out HD2.out).mono ?_
  rintro e w3 ⟨x, y, rfl, hC, hE3⟩
  obtain ⟨X, Y, hX, hY, hbX, hbY, hXY, hsh, hXl, hYl⟩ := hC
  obtain ⟨px, cx, hxf, _, _⟩ := hX.form
  subst hxf
  obtain ⟨py, cy, hyf, _, _⟩ := hY.form
  subst hyf
  have HX := Bl.hid hX
  have HY := Bl.hid hY
  have HbX := Bl.hid hbX
  have HbY := Bl.hid hbY
  have HXY := Bl.hid hXY
  have Hsh := Bl.hid hsh
  have HXl := Bl.hid hXl
  have HYl := Bl.hid hYl
  clear hX hY hbX hbY hXY hsh hXl hYl
  have HD3 := Bl.hid (Bl.Rds.ext HD2.out hE3)
  have HA3 := Bl.hid (HA2.out.ext hE3)
  have HE3 := Bl.hid (HE2.out.trans hE3)
  clear hE3 HA2 HE2 HD2 hq3 hq4
  have hq3 := HA3.out.qi
  have hq4 := HA3.out.leaf
  have hB := HA3.out.lt
  have hi0 : ¬ ((i : Int) < 0) := by omega
  have hi1 : (i : Int) < (ps.length : Int) := by omega
  have hi00 : (0 : Int) ≤ (i : Int) := by omega
  obtain ⟨b, o, hpe, hbl0, hcell0⟩ := Bl.Rdss.cell' (Hv.out.ext HE3.out) Hwl.out i hi
  subst hpe
  have hRk0 := Hws.out i hi
  obtain ⟨pk, ck, hfk, _, _⟩ := hRk0.form
  rw [hfk] at hcell0
  have hRk : Bl.Rd w3 .u8 (.slice pk (ps.getD i []).length ck) (ps.getD i []) := by rw [hfk] at hRk0; exact hRk0.ext HE3.out
  have hmem : ps.getD i [] ∈ ps := by rw [List.getD_eq_getElem?_getD, List.getElem?_eq_getElem hi]; exact List.getElem_mem hi
  have Hbi : Hid (Bl.Byt (ps.getD i [])) := Bl.hid (Hby.out _ hmem)
  have HRt : Hid (∀ w2, Bl.Ext w3 w2 → Calls Tryd.prog 16 #[.slice (some ⟨b, o, none⟩) ps.length cvv] w2 fun e w' => e = .returned (.agg (Bl.ints .u8 (Bl.rootD ps)).toArray) ∧ Bl.Ext w2 w') := Bl.hid fun w2 h2 =>
    refroot_any _ ps w2 (Bl.Rdss.ext HR.out (HE3.out.trans h2)) (Hg.out.ext (HE3.out.trans h2)) Hby.out (fun q hq => by have := Hlp.out q hq; omega) (by have := Hl4.out; omega)
  have HCk3 : Hid (∀ w2, Bl.Ext w3 w2 → Calls Tryd.prog 15 #[.agg (Bl.ints .u8 (Bl.rootD ps)).toArray, .int .i64 ps.length, .int .i64 (i : Int), .slice pl l.length cl, .slice pd p.length cd] w2 fun e w' => e = .returned (.nilIface) ∧ Bl.Ext w2 w') := Bl.hid fun w2 h2 =>
    HCk.out Hl2.out Hl4.out Hlp.out w2 _ (HE3.out.trans h2) (Bl.Rds.ext HD3.out h2)
  obtain ⟨RD, hRD⟩ : ∃ RD, RD = Bl.rootD ps := ⟨_, rfl⟩
  rw [← hRD] at HRt HCk3
  obtain ⟨z, hz⟩ : ∃ z, z = ps.getD i [] := ⟨_, rfl⟩
  rw [← hz] at hcell0 hRk Hbi hneL
  clear hRk0 hfk hRD hmem hz
  go_wp2_with fail
  apply Bl.wp_region_ev 11 [62, 63, 64, 65, 66, 67, 68, 69, 70, 71, 72] [Bl.eqv _, Bl.eqv _, Bl.eqv _, Bl.eqv _, Bl.eqv _, Bl.eqv _, Bl.eqv _, Bl.eqv _, Bl.eqv _, Bl.eqv _, Bl.eqv _] (by kernel_rfl) (by kernel_rfl) (by kernel_rfl) (by kernel_rfl)
  case hsteps =>
    refine ⟨?_, ?_, ?_, ?_, ?_, ?_, ?_, ?_, ?_, ?_, ?_, trivial⟩
    all_goals
      intro ev w1 hext hb hd
      have e0 := hb 0 (by decide)
      have e3 := hb 3 (by decide)
      have e5 := hb 5 (by decide)
      clear hb
      simp only [Array.getD_eq_getD_getElem?, List.getElem?_toArray, List.getElem?_cons_succ, List.getElem?_cons_zero, Option.getD_some] at e0 e3 e5
      simp only [Bl.DepsE, List.getElem?_cons_succ, List.getElem?_cons_zero, Option.bind_some, List.getD_cons_succ, List.getD_cons_zero, Bl.eqv, and_true] at hd
      have hc := (Bl.bcell hext).1
      have hq3' := (hc _ 33 hB).trans hq3
      have hq4' := (hc _ 34 hB).trans hq4
      simp only [Bl.Good, Region.wanted, if_true]
      go_simp
      first | (go_at_call 16; (with_reducible refine (HRt.out _ hext).mono ?_); rintro e w2 ⟨rfl, hE2⟩; exact ⟨_, rfl, hE2, rfl⟩) | (go_at_call 15; (with_reducible refine (HCk3.out _ hext).mono ?_); rintro e w2 ⟨rfl, hE2⟩; exact ⟨_, rfl, hE2, rfl⟩) | exact rfl | exact ⟨Below.refl _ _, rfl⟩ | exact ⟨Below.refl _ _, rfl⟩
  case hmono => exact ⟨Bl.mono_eqv _, Bl.mono_eqv _, Bl.mono_eqv _, Bl.mono_eqv _, Bl.mono_eqv _, Bl.mono_eqv _, Bl.mono_eqv _, Bl.mono_eqv _, Bl.mono_eqv _, Bl.mono_eqv _, Bl.mono_eqv _, trivial⟩
  case hend =>
    intro u w1 hext hend
    simp only [Bl.EndE, List.getElem?_cons_succ, List.getElem?_cons_zero, Option.bind_some, List.getD_cons_succ, List.getD_cons_zero, Bl.eqv, true_and] at hend
    simp only [Bl.fillAct, List.setIfInBounds_toArray, List.set_cons_succ, List.set_cons_zero, List.drop_succ_cons, List.drop_zero, hend]
    have HE4 := Bl.hid hext
    have HA4 := Bl.hid (HA3.out.ext hext)
    have HE4w := Bl.hid (HE3.out.trans hext)
    have hbl4 : b < w1.heap.size := Nat.lt_of_lt_of_le hbl0 hext.size
    have hc4 := ((Bl.bcell hext).1 _ (o + i) hbl0).trans hcell0
    clear hext hend hq3 hq4 hcell0 hbl0 hB
    have hq3 := HA4.out.qi
    have hq4 := HA4.out.leaf
    have hB := HA4.out.lt
    have Hcva : Hid (∀ w2, Bl.Ext w1 w2 → (convert 23 9 (.slice pk z.length ck)).run Tryd.prog w2 = .ok (.string (Bl.bstr z)) w2) := Bl.hid fun w2 h2 => Bl.conv_bytes (hRk.ext (HE4.out.trans h2)) Tryd.underlying23 Tryd.underlying5 Tryd.underlying9
    have Hcvb : Hid (∀ w2, Bl.Ext w1 w2 → (convert 23 9 (.slice pl l.length cl)).run Tryd.prog w2 = .ok (.string (Bl.bstr l)) w2) := Bl.hid fun w2 h2 => Bl.conv_bytes (Hl.out.ext (HE4w.out.trans h2)) Tryd.underlying23 Tryd.underlying5 Tryd.underlying9
    have hsq := Bl.bstr_beq Hbi.out Hbl.out
    rw [decide_eq_false hneL] at hsq
    have hsq2 : ¬ (Bl.bstr z = Bl.bstr l) := fun q => hneL ((Bl.bstr_eq_iff Hbi.out Hbl.out).1 q)
    clear hRk hneL
    go_wp2_with fail
    apply Bl.wp_region_ev 13 [73, 74, 75, 76, 77, 78, 79, 80, 81, 82, 83, 84, 85] [Bl.eqv _, Bl.eqv _, Bl.eqv _, Bl.eqv _, Bl.eqv _, Bl.eqv _, Bl.eqv _, Bl.eqv _, Bl.eqv _, Bl.eqv _, Bl.eqv _, Bl.eqv _, Bl.eqv _] (by kernel_rfl) (by kernel_rfl) (by kernel_rfl) (by kernel_rfl)
    case hsteps =>
      refine ⟨?_, ?_, ?_, ?_, ?_, ?_, ?_, ?_, ?_, ?_, ?_, ?_, ?_, trivial⟩
      all_goals
        intro ev w1 hext hb hd
        have e0 := hb 0 (by decide)
        have e3 := hb 3 (by decide)
        have e9 := hb 9 (by decide)
        clear hb
        simp only [Array.getD_eq_getD_getElem?, List.getElem?_toArray, List.getElem?_cons_succ, List.getElem?_cons_zero, Option.getD_some] at e0 e3 e9
        simp only [Bl.DepsE, List.getElem?_cons_succ, List.getElem?_cons_zero, Option.bind_some, List.getD_cons_succ, List.getD_cons_zero, Bl.eqv, and_true] at hd
        have hc := (Bl.bcell hext).1
        have hq3' := (hc _ 33 hB).trans hq3
        have hq4' := (hc _ 34 hB).trans hq4
        have hcl := (hc _ (o + i) hbl4).trans hc4
        have c1 := Hcva.out _ hext
        have c2 := Hcvb.out _ hext
        simp only [Bl.Good, Region.wanted, Bl.yieldE, List.getElem?_cons_succ, List.getElem?_cons_zero, Option.bind_some, hd, beq_self_eq_true, if_true]
        go_simp
        first | exact rfl | exact ⟨Below.refl _ _, rfl⟩ | exact ⟨Below.refl _ _, rfl⟩
    case hmono => exact ⟨Bl.mono_eqv _, Bl.mono_eqv _, Bl.mono_eqv _, Bl.mono_eqv _, Bl.mono_eqv _, Bl.mono_eqv _, Bl.mono_eqv _, Bl.mono_eqv _, Bl.mono_eqv _, Bl.mono_eqv _, Bl.mono_eqv _, Bl.mono_eqv _, Bl.mono_eqv _, trivial⟩
    case hend =>
      intro u w1 hext hend
      simp only [Bl.EndE, List.getElem?_cons_succ, List.getElem?_cons_zero, Option.bind_some, List.getD_cons_succ, List.getD_cons_zero, Bl.eqv, true_and] at hend
      simp only [Bl.fillAct, List.setIfInBounds_toArray, List.set_cons_succ, List.set_cons_zero, List.drop_succ_cons, List.drop_zero, hend]
      have HE5 := Bl.hid (HE4w.out.trans hext)
      have HE5a := Bl.hid (HE4.out.trans hext)
      clear hext hend
      have hx1 : (convert 23 9 (.slice px X.length cx)).run Tryd.prog w1 = .ok (.string (Bl.bstr X)) w1 := Bl.conv_bytes (HX.out.ext HE5a.out) Tryd.underlying23 Tryd.underlying5 Tryd.underlying9
      have hy1 : (convert 23 9 (.slice py Y.length cy)).run Tryd.prog w1 = .ok (.string (Bl.bstr Y)) w1 := Bl.conv_bytes (HY.out.ext HE5a.out) Tryd.underlying23 Tryd.underlying5 Tryd.underlying9
      have hxy1 := Bl.bstr_beq HbX.out HbY.out
      rw [decide_eq_false HXY.out] at hxy1
      have hxy2 : ¬ (Bl.bstr X = Bl.bstr Y) := fun q => HXY.out ((Bl.bstr_eq_iff HbX.out HbY.out).1 q)
      have hshl : (Bl.sha X).length = 32 := rfl
      have heq : ∀ w, (Op.equalIn 10000 25 (.agg (Bl.ints .u8 (Bl.sha X)).toArray) (.agg (Bl.ints .u8 (Bl.sha X)).toArray)).run Tryd.prog w = .ok true w := fun w =>
        Bl.eq10k_same Tryd.underlying25 Tryd.underlying5 (fun w => by simp [go_sem]) _ hshl w
      clear hsq hsq2 hshl
      go_wp2_with fail
      refine (refof_any _ X w1 (HX.out.ext HE5a.out) (Hg.out.ext HE5.out) HbX.out (by have := HXl.out; omega)).mono ?_
      rintro e w6 ⟨rfl, hE6⟩
      have HE6 := Bl.hid hE6
      clear hE6 hx1 hy1
      go_wp2_with fail
      refine (refof_any _ Y w6 (HY.out.ext (HE5a.out.trans HE6.out)) (Hg.out.ext (HE5.out.trans HE6.out)) HbY.out (by have := HYl.out; omega)).mono ?_
      rintro e w7 ⟨rfl, hE7⟩
      rw [← Hsh.out]
      have HE7 := Bl.hid ((HE5.out.trans HE6.out).trans hE7)
      clear hE7
      go_wp2_with fail
      go_ret
      exact ⟨rfl, HE7.out⟩

theorem clashes_all (v : Value) (ps : List (List Int)) (cs : List Value) (root : List Int) (n i : Int) (vl vp : Value) (l : List Int) (p : List (List Int)) (w : World) (S : List Nat) (a : Nat → Addr) (hR : Bl.Rdss w v ps) (hA : Bl.AskC cs root n i vl vp) (hl : Bl.Rd w .u8 vl l) (hbl : Bl.Byt l) (hby : ∀ q ∈ ps, Bl.Byt q) (hp : Bl.RdD w vp p) (hdp : Bl.Dig p) (hg : GlobR w) (he : Errs S a w) (s1 : 1 ∈ S) (s8 : 8 ∈ S) (s15 : 15 ∈ S) :
    Calls Tryd.prog 4 #[v, .agg cs.toArray] w fun e w' => e = .returned (.bool true) ∧ Bl.Ext w w' := by
  by_cases hi : 0 ≤ i ∧ i < (ps.length : Int)
  · obtain ⟨h0, h1⟩ := hi
    obtain ⟨j, rfl⟩ := Int.eq_ofNat_of_zero_le h0
    have hj : j < ps.length := by omega
    have hCk : l.length ≤ 200 → ps.length ≤ 40 → (∀ q ∈ ps, q.length ≤ 200) → ∀ w2 vd, Bl.Ext w w2 → Bl.RdD w2 vd p → Calls Tryd.prog 15 #[.agg (Bl.ints .u8 (Bl.rootD ps)).toArray, .int .i64 ps.length, .int .i64 (j : Int), vl, vd] w2 fun e w' => e = .returned (errN a (Bl.chkP (Bl.rootD ps) ps.length j l p)) ∧ Bl.Ext w2 w' := fun h200 h40 _ w2 vd h2 h3 =>
      pcheck_any (Bl.rootD ps) ps.length j vl vd l p w2 S a (he.ext h2) s1 s8 s15 (Bl.rootD_length ps (by omega)) (hl.ext h2) hbl (by omega) h3 hdp (hg.ext h2)
    by_cases hq : ps.getD j [] = l
    · have hSm : l.length ≤ 200 → ps.length ≤ 40 → (∀ q ∈ ps, q.length ≤ 200) → ∀ w2 vd, Bl.Ext w w2 → Bl.RdD w2 vd p → Calls Tryd.prog 14 #[v, .int .i64 (j : Int), vl, vd] w2 fun e w' => e = .returned (.tuple #[.slice none 0 0, .slice none 0 0, .bool false]) ∧ Bl.Ext w2 w' := fun h200 h40 hlp w2 vd h2 h3 =>
        pclash_same v vl vd ps ps.length j l p w2 S a (hR.ext h2) (hg.s.ext h2) hby (fun q hq => by have := hlp q hq; omega) rfl (by omega) hj (he.ext h2) s1 s8 s15 (hl.ext h2) hbl (by omega) h3 hdp hq
      by_cases hc : Bl.chkP (Bl.rootD ps) ps.length j l p = 0
      · rw [hc] at hCk
        exact clashes_S v ps cs root n j vl vp l p w a hR hA hl hbl hby hp hdp hg hj hq hSm hCk
      · exact clashes_B v ps cs root n j vl vp l p w a _ ⟨_, rfl, hc⟩ hR hA hl hbl hby hp hdp hg hj hSm hCk
    · by_cases hc : Bl.chkP (Bl.rootD ps) ps.length j l p = 0
      · have hc0 := hc
        rw [hc] at hCk
        refine clashes_C v ps cs root n j vl vp l p w a hR hA hl hbl hby hp hdp hg hj hq (fun h200 h40 hlp w2 vd h2 h3 => ?_) hCk
        have hth : Bl.thereB (ps.length : Int) (j : Int) = true := Bl.thereB_mk (by omega) (by omega) (by omega)
        have hpl : p.length = (Bl.turnsL ps.length j).length := by
          by_cases h : p.length = (Bl.turnsL ps.length j).length
          · exact h
          · rw [Bl.chkP_size hth h] at hc0; cases hc0
        have hf : Bl.foldP Bl.ndD ps.length j (Bl.lfD l) p = Bl.rootD ps := by
          by_cases h : Bl.foldP Bl.ndD ps.length j (Bl.lfD l) p = Bl.rootD ps
          · exact h
          · rw [Bl.chkP_bad hth hpl h] at hc0; cases hc0
        exact pclash_found v vl vd ps ps.length j l p w2 S a (hR.ext h2) (hg.s.ext h2) hby (fun q hq => by have := hlp q hq; omega) rfl (by omega) hj (he.ext h2) s1 s8 s15 (hl.ext h2) hbl (by omega) h3 hdp hpl hf hq
      · refine clashes_B v ps cs root n j vl vp l p w a _ ⟨_, rfl, hc⟩ hR hA hl hbl hby hp hdp hg hj (fun h200 h40 hlp w2 vd h2 h3 => ?_) hCk
        exact pclash_bad v vl vd ps ps.length j l p w2 S a (hR.ext h2) (hg.s.ext h2) hby (fun q hq => by have := hlp q hq; omega) rfl (by omega) hj (he.ext h2) s1 s8 s15 (hl.ext h2) hbl (by omega) h3 hdp hq hc
  · exact clashes_A v ps cs root n i vl vp l p w a hR hA hl hbl hby hp hdp hg hi (fun _ _ _ w2 vd h2 _ => pclash_none v vl vd ps i w2 S a (hR.ext h2) (he.ext h2) s1 (fun q => hi ⟨q.2.1, q.2.2⟩))
end Go.Proofs.YtjmkcenkjnoblaaDoor

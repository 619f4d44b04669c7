/- Walk of the law PathChecks. -/
import Derived.Test.YtjmkcenkjnoblaaDoorWRefFold
import Derived.Test.YtjmkcenkjnoblaaDoorWAl13
import Derived.Test.YtjmkcenkjnoblaaDoorWNumN
import Derived.Test.YtjmkcenkjnoblaaDoorAsk
namespace Go.Proofs.YtjmkcenkjnoblaaDoor
open Go.RowKit Go.Proofs

set_option maxRecDepth 100000 in
set_option maxHeartbeats 2000000 in
theorem checks_bad1 (cs : List Value) (root : List Int) (n i : Int) (vl vp : Value) (l : List Int) (p : List (List Int)) (w : World) (a : Nat → Addr) (hA : Bl.AskC cs root n i vl vp) (hl : Bl.Rd w .u8 vl l) (hp : Bl.RdD w vp p) (hdp : Bl.Dig p) (hg : Glob w)
    (hRC : l.length ≤ 200 → ∀ w2, Bl.Ext w w2 → Calls Tryd.prog 27 #[.agg (Bl.ints .u8 root).toArray, .int .i64 n, .int .i64 i, vl, vp] w2 fun e w' => e = .returned (.int .i64 1) ∧ Bl.Ext w2 w')
    (hPC : l.length ≤ 200 → ∀ w2 vd, Bl.Ext w w2 → Bl.RdD w2 vd p → Calls Tryd.prog 15 #[.agg (Bl.ints .u8 root).toArray, .int .i64 n, .int .i64 i, vl, vd] w2 fun e w' => e = .returned (.iface 128 (.pointer (some (a 1)))) ∧ Bl.Ext w2 w')
    (hNm : ∀ w2, Bl.Ext w w2 → Calls Tryd.prog 12 #[.iface 128 (.pointer (some (a 1)))] w2 fun e w' => e = .returned (.int .i64 1) ∧ Bl.Ext w2 w')
    (hFo : l.length ≤ 200 → ∀ w2 vd, Bl.Ext w w2 → Bl.RdD w2 vd p → Calls Tryd.prog 22 #[.int .i64 n, .int .i64 i, vl, vd] w2 fun e w' => e = .returned (.tuple #[.agg (Bl.ints .u8 Bl.zs32).toArray, .iface 128 (.pointer (some (a 1)))]) ∧ Bl.Ext w2 w') :
    Calls Tryd.prog 7 #[.agg cs.toArray] w fun e w' => e = .returned (.bool true) ∧ Bl.Ext w w' := by
  obtain ⟨pl, cl, hvlf, hvln, hvlc⟩ := hl.form
  subst hvlf
  obtain ⟨pp, cp, hvpf, hvpn, hvpc⟩ := hp.form
  subst hvpf
  unfold maxLen at hvlc hvpc
  have HRC := Bl.hid hRC
  have HPC := Bl.hid hPC
  have HNm := Bl.hid hNm
  have HFo := Bl.hid hFo
  have HA0 := Bl.hid (hA.at' w 37)
  have HE0 := Bl.hid (Bl.ext_alloc w (.cells cs.toArray 37))
  have Hp := Bl.hid hp
  have Hdp := Bl.hid hdp
  have Hg := Bl.hid hg
  clear hRC hPC hNm hFo hA hl hp hdp hg
  go_enter Tryd.func7, Tryd.ntmps7
  go_wp2_with fail
  generalize w.alloc (.cells cs.toArray 37) = W0 at HA0 HE0 ⊢
  refine (alive13 W0 (Hg.out.ext HE0.out)).mono ?_
  rintro e w1 ⟨rfl, hE1⟩
  have HA1 := Bl.hid (HA0.out.ext hE1)
  have HE1 := Bl.hid (HE0.out.trans hE1)
  clear hE1 HA0 HE0
  have hq4 := HA1.out.leaf
  have hq5 := HA1.out.path
  by_cases hl200 : (200 : Int) < (l.length : Int)
  · go_wp2_with fail
    go_ret
    exact ⟨rfl, HE1.out⟩
  by_cases hp40 : (40 : Int) < (p.length : Int)
  · go_wp2_with fail
    go_ret
    exact ⟨rfl, HE1.out⟩
  have hl2 : l.length ≤ 200 := by omega
  have Hl2 := Bl.hid hl2
  go_wp2_with fail
  refine (digests13_any _ p w1 (Bl.Rds.ext Hp.out HE1.out) Hdp.out (by omega)).mono ?_
  rintro e w2 ⟨pd, cd, rfl, hown2, hE2⟩
  have HD2 : Hid (Bl.RdD w2 (.slice pd p.length cd) p) := Bl.hid (Bl.Rds.of_owns hown2)
  have HA2 := Bl.hid (HA1.out.ext hE2)
  have HE2 := Bl.hid (HE1.out.trans hE2)
  clear hown2 hE2 HA1 HE1 hq4 hq5
  have hq2 := HA2.out.qn
  have hq3 := HA2.out.qi
  have hq4 := HA2.out.leaf
  have hq5 := HA2.out.path
  go_wp2_with (with_reducible refine Bl.stop_load (ty := 25) ?_)
  refine Bl.go_on ?_
  refine Bl.wpL_load rfl (HA2.out.load Tryd.underlying25 (by kernel_rfl)) ?_
  go_wp2_with fail
  refine (HRC.out Hl2.out w2 HE2.out).mono ?_
  rintro e w3 ⟨rfl, hE3⟩
  have HD3 := Bl.hid (Bl.Rds.ext HD2.out hE3)
  have HA3 := Bl.hid (HA2.out.ext hE3)
  have HE3 := Bl.hid (HE2.out.trans hE3)
  clear hE3 HA2 HE2 HD2 hq2 hq3 hq4 hq5
  have hq2 := HA3.out.qn
  have hq3 := HA3.out.qi
  have hq4 := HA3.out.leaf
  go_wp2_with (with_reducible refine Bl.stop_load (ty := 25) ?_)
  refine Bl.go_on ?_
  refine Bl.wpL_load rfl (HA3.out.load Tryd.underlying25 (by kernel_rfl)) ?_
  go_wp2_with fail
  refine (HPC.out Hl2.out w3 _ HE3.out HD3.out).mono ?_
  rintro e w4 ⟨rfl, hE4⟩
  have HD4 := Bl.hid (Bl.Rds.ext HD3.out hE4)
  have HA4 := Bl.hid (HA3.out.ext hE4)
  have HE4 := Bl.hid (HE3.out.trans hE4)
  clear hE4 HA3 HE3 HD3 hq2 hq3 hq4
  go_wp2_with fail
  refine (HNm.out w4 HE4.out).mono ?_
  rintro e w5 ⟨rfl, hE5⟩
  have HD5 := Bl.hid (Bl.Rds.ext HD4.out hE5)
  have HA5 := Bl.hid (HA4.out.ext hE5)
  have HE5 := Bl.hid (HE4.out.trans hE5)
  clear hE5 HA4 HE4 HD4
  have hq2 := HA5.out.qn
  have hq3 := HA5.out.qi
  have hq4 := HA5.out.leaf
  go_wp2_with fail
  refine (HFo.out Hl2.out w5 _ HE5.out HD5.out).mono ?_
  rintro e w6 ⟨rfl, hE6⟩
  have HA6 := Bl.hid (HA5.out.ext hE6)
  have HE6 := Bl.hid (HE5.out.trans hE6)
  have HFz := Bl.hid (fam_new w6 32 .u8 42 #[.int .u8 0, .int .u8 0, .int .u8 0, .int .u8 0, .int .u8 0, .int .u8 0, .int .u8 0, .int .u8 0, .int .u8 0, .int .u8 0, .int .u8 0, .int .u8 0, .int .u8 0, .int .u8 0, .int .u8 0, .int .u8 0, .int .u8 0, .int .u8 0, .int .u8 0, .int .u8 0, .int .u8 0, .int .u8 0, .int .u8 0, .int .u8 0, .int .u8 0, .int .u8 0, .int .u8 0, .int .u8 0, .int .u8 0, .int .u8 0, .int .u8 0, .int .u8 0] rfl)
  have HBx := Bl.hid (Bl.BoxD.of_fam HFz.out (d := Bl.zs32) rfl)
  have Hst := Bl.hid (Bl.store_ints (P := Tryd.prog) (ty := 42) (k := .u8) (l := Bl.zs32) (n := 32) HFz.out.there (by kernel_rfl) rfl)
  have HE7a : Hid (Bl.Ext w6 ((w6.alloc (.cells #[.int .u8 0, .int .u8 0, .int .u8 0, .int .u8 0, .int .u8 0, .int .u8 0, .int .u8 0, .int .u8 0, .int .u8 0, .int .u8 0, .int .u8 0, .int .u8 0, .int .u8 0, .int .u8 0, .int .u8 0, .int .u8 0, .int .u8 0, .int .u8 0, .int .u8 0, .int .u8 0, .int .u8 0, .int .u8 0, .int .u8 0, .int .u8 0, .int .u8 0, .int .u8 0, .int .u8 0, .int .u8 0, .int .u8 0, .int .u8 0, .int .u8 0, .int .u8 0] 42)).setCells w6.heap.size 0 (Bl.ints .u8 Bl.zs32))) := Bl.hid (Bl.below_setCells _ _ _ _ (Bl.ext_alloc _ _) (Nat.le_refl _))
  clear hE6 HA5 HE5 HD5 hq2 hq3 hq4
  go_wp2_with (with_reducible refine Bl.stop_store (ty := 42) ?_)
  refine Bl.go_on ?_
  refine Bl.wpL_store0 rfl rfl Hst.out ?_
  clear Hst HFz
  generalize (w6.alloc (.cells #[.int .u8 0, .int .u8 0, .int .u8 0, .int .u8 0, .int .u8 0, .int .u8 0, .int .u8 0, .int .u8 0, .int .u8 0, .int .u8 0, .int .u8 0, .int .u8 0, .int .u8 0, .int .u8 0, .int .u8 0, .int .u8 0, .int .u8 0, .int .u8 0, .int .u8 0, .int .u8 0, .int .u8 0, .int .u8 0, .int .u8 0, .int .u8 0, .int .u8 0, .int .u8 0, .int .u8 0, .int .u8 0, .int .u8 0, .int .u8 0, .int .u8 0, .int .u8 0] 42)).setCells w6.heap.size 0 (Bl.ints .u8 Bl.zs32) = W7 at *
  generalize w6.heap.size = X at *
  have HA7 := Bl.hid (HA6.out.ext HE7a.out)
  have HE7 := Bl.hid (HE6.out.trans HE7a.out)
  clear HA6 HE6 HE7a
  have heqz : ∀ w, (Op.equalIn 10000 42 (.agg (Bl.ints .u8 Bl.zs32).toArray) (.agg #[.int .u8 0, .int .u8 0, .int .u8 0, .int .u8 0, .int .u8 0, .int .u8 0, .int .u8 0, .int .u8 0, .int .u8 0, .int .u8 0, .int .u8 0, .int .u8 0, .int .u8 0, .int .u8 0, .int .u8 0, .int .u8 0, .int .u8 0, .int .u8 0, .int .u8 0, .int .u8 0, .int .u8 0, .int .u8 0, .int .u8 0, .int .u8 0, .int .u8 0, .int .u8 0, .int .u8 0, .int .u8 0, .int .u8 0, .int .u8 0, .int .u8 0, .int .u8 0])).run Tryd.prog w = .ok true w := fun w =>
    Bl.eq10k_same Tryd.underlying42 Tryd.underlying5 (fun w => by simp [go_sem]) Bl.zs32 rfl w
  go_wp2_with (with_reducible refine Bl.stop_load (ty := 42) ?_)
  refine Bl.go_on ?_
  refine Bl.wpL_load rfl (HBx.out.load Tryd.underlying42 (by kernel_rfl)) ?_
  go_wp2_with fail
  refine (HNm.out W7 HE7.out).mono ?_
  rintro e w8 ⟨rfl, hE8⟩
  have HE8 := Bl.hid (HE7.out.trans hE8)
  clear hE8
  go_wp2_with fail
  go_ret
  exact ⟨rfl, HE8.out⟩

set_option maxRecDepth 100000 in
set_option maxHeartbeats 2000000 in
theorem checks_bad8 (cs : List Value) (root : List Int) (n i : Int) (vl vp : Value) (l : List Int) (p : List (List Int)) (w : World) (a : Nat → Addr) (hA : Bl.AskC cs root n i vl vp) (hl : Bl.Rd w .u8 vl l) (hp : Bl.RdD w vp p) (hdp : Bl.Dig p) (hg : Glob w)
    (hRC : l.length ≤ 200 → ∀ w2, Bl.Ext w w2 → Calls Tryd.prog 27 #[.agg (Bl.ints .u8 root).toArray, .int .i64 n, .int .i64 i, vl, vp] w2 fun e w' => e = .returned (.int .i64 8) ∧ Bl.Ext w2 w')
    (hPC : l.length ≤ 200 → ∀ w2 vd, Bl.Ext w w2 → Bl.RdD w2 vd p → Calls Tryd.prog 15 #[.agg (Bl.ints .u8 root).toArray, .int .i64 n, .int .i64 i, vl, vd] w2 fun e w' => e = .returned (.iface 128 (.pointer (some (a 8)))) ∧ Bl.Ext w2 w')
    (hNm : ∀ w2, Bl.Ext w w2 → Calls Tryd.prog 12 #[.iface 128 (.pointer (some (a 8)))] w2 fun e w' => e = .returned (.int .i64 8) ∧ Bl.Ext w2 w')
    (hFo : l.length ≤ 200 → ∀ w2 vd, Bl.Ext w w2 → Bl.RdD w2 vd p → Calls Tryd.prog 22 #[.int .i64 n, .int .i64 i, vl, vd] w2 fun e w' => e = .returned (.tuple #[.agg (Bl.ints .u8 Bl.zs32).toArray, .iface 128 (.pointer (some (a 8)))]) ∧ Bl.Ext w2 w') :
    Calls Tryd.prog 7 #[.agg cs.toArray] w fun e w' => e = .returned (.bool true) ∧ Bl.Ext w w' := by
  obtain ⟨pl, cl, hvlf, hvln, hvlc⟩ := hl.form
  subst hvlf
  obtain ⟨pp, cp, hvpf, hvpn, hvpc⟩ := hp.form
  subst hvpf
  unfold maxLen at hvlc hvpc
  have HRC := Bl.hid hRC
  have HPC := Bl.hid hPC
  have HNm := Bl.hid hNm
  have HFo := Bl.hid hFo
  have HA0 := Bl.hid (hA.at' w 37)
  have HE0 := Bl.hid (Bl.ext_alloc w (.cells cs.toArray 37))
  have Hp := Bl.hid hp
  have Hdp := Bl.hid hdp
  have Hg := Bl.hid hg
  clear hRC hPC hNm hFo hA hl hp hdp hg
  go_enter Tryd.func7, Tryd.ntmps7
  go_wp2_with fail
  generalize w.alloc (.cells cs.toArray 37) = W0 at HA0 HE0 ⊢
  refine (alive13 W0 (Hg.out.ext HE0.out)).mono ?_
  rintro e w1 ⟨rfl, hE1⟩
  have HA1 := Bl.hid (HA0.out.ext hE1)
  have HE1 := Bl.hid (HE0.out.trans hE1)
  clear hE1 HA0 HE0
  have hq4 := HA1.out.leaf
  have hq5 := HA1.out.path
  by_cases hl200 : (200 : Int) < (l.length : Int)
  · go_wp2_with fail
    go_ret
    exact ⟨rfl, HE1.out⟩
  by_cases hp40 : (40 : Int) < (p.length : Int)
  · go_wp2_with fail
    go_ret
    exact ⟨rfl, HE1.out⟩
  have hl2 : l.length ≤ 200 := by omega
  have Hl2 := Bl.hid hl2
  go_wp2_with fail
  refine (digests13_any _ p w1 (Bl.Rds.ext Hp.out HE1.out) Hdp.out (by omega)).mono ?_
  rintro e w2 ⟨pd, cd, rfl, hown2, hE2⟩
  have HD2 : Hid (Bl.RdD w2 (.slice pd p.length cd) p) := Bl.hid (Bl.Rds.of_owns hown2)
  have HA2 := Bl.hid (HA1.out.ext hE2)
  have HE2 := Bl.hid (HE1.out.trans hE2)
  clear hown2 hE2 HA1 HE1 hq4 hq5
  have hq2 := HA2.out.qn
  have hq3 := HA2.out.qi
  have hq4 := HA2.out.leaf
  have hq5 := HA2.out.path
  go_wp2_with (with_reducible refine Bl.stop_load (ty := 25) ?_)
  refine Bl.go_on ?_
  refine Bl.wpL_load rfl (HA2.out.load Tryd.underlying25 (by kernel_rfl)) ?_
  go_wp2_with fail
  refine (HRC.out Hl2.out w2 HE2.out).mono ?_
  rintro e w3 ⟨rfl, hE3⟩
  have HD3 := Bl.hid (Bl.Rds.ext HD2.out hE3)
  have HA3 := Bl.hid (HA2.out.ext hE3)
  have HE3 := Bl.hid (HE2.out.trans hE3)
  clear hE3 HA2 HE2 HD2 hq2 hq3 hq4 hq5
  have hq2 := HA3.out.qn
  have hq3 := HA3.out.qi
  have hq4 := HA3.out.leaf
  go_wp2_with (with_reducible refine Bl.stop_load (ty := 25) ?_)
  refine Bl.go_on ?_
  refine Bl.wpL_load rfl (HA3.out.load Tryd.underlying25 (by kernel_rfl)) ?_
  go_wp2_with fail
  refine (HPC.out Hl2.out w3 _ HE3.out HD3.out).mono ?_
  rintro e w4 ⟨rfl, hE4⟩
  have HD4 := Bl.hid (Bl.Rds.ext HD3.out hE4)
  have HA4 := Bl.hid (HA3.out.ext hE4)
  have HE4 := Bl.hid (HE3.out.trans hE4)
  clear hE4 HA3 HE3 HD3 hq2 hq3 hq4
  go_wp2_with fail
  refine (HNm.out w4 HE4.out).mono ?_
  rintro e w5 ⟨rfl, hE5⟩
  have HD5 := Bl.hid (Bl.Rds.ext HD4.out hE5)
  have HA5 := Bl.hid (HA4.out.ext hE5)
  have HE5 := Bl.hid (HE4.out.trans hE5)
  clear hE5 HA4 HE4 HD4
  have hq2 := HA5.out.qn
  have hq3 := HA5.out.qi
  have hq4 := HA5.out.leaf
  go_wp2_with fail
  refine (HFo.out Hl2.out w5 _ HE5.out HD5.out).mono ?_
  rintro e w6 ⟨rfl, hE6⟩
  have HA6 := Bl.hid (HA5.out.ext hE6)
  have HE6 := Bl.hid (HE5.out.trans hE6)
  have HFz := Bl.hid (fam_new w6 32 .u8 42 #[.int .u8 0, .int .u8 0, .int .u8 0, .int .u8 0, .int .u8 0, .int .u8 0, .int .u8 0, .int .u8 0, .int .u8 0, .int .u8 0, .int .u8 0, .int .u8 0, .int .u8 0, .int .u8 0, .int .u8 0, .int .u8 0, .int .u8 0, .int .u8 0, .int .u8 0, .int .u8 0, .int .u8 0, .int .u8 0, .int .u8 0, .int .u8 0, .int .u8 0, .int .u8 0, .int .u8 0, .int .u8 0, .int .u8 0, .int .u8 0, .int .u8 0, .int .u8 0] rfl)
  have HBx := Bl.hid (Bl.BoxD.of_fam HFz.out (d := Bl.zs32) rfl)
  have Hst := Bl.hid (Bl.store_ints (P := Tryd.prog) (ty := 42) (k := .u8) (l := Bl.zs32) (n := 32) HFz.out.there (by kernel_rfl) rfl)
  have HE7a : Hid (Bl.Ext w6 ((w6.alloc (.cells #[.int .u8 0, .int .u8 0, .int .u8 0, .int .u8 0, .int .u8 0, .int .u8 0, .int .u8 0, .int .u8 0, .int .u8 0, .int .u8 0, .int .u8 0, .int .u8 0, .int .u8 0, .int .u8 0, .int .u8 0, .int .u8 0, .int .u8 0, .int .u8 0, .int .u8 0, .int .u8 0, .int .u8 0, .int .u8 0, .int .u8 0, .int .u8 0, .int .u8 0, .int .u8 0, .int .u8 0, .int .u8 0, .int .u8 0, .int .u8 0, .int .u8 0, .int .u8 0] 42)).setCells w6.heap.size 0 (Bl.ints .u8 Bl.zs32))) := Bl.hid (Bl.below_setCells _ _ _ _ (Bl.ext_alloc _ _) (Nat.le_refl _))
  clear hE6 HA5 HE5 HD5 hq2 hq3 hq4
  go_wp2_with (with_reducible refine Bl.stop_store (ty := 42) ?_)
  refine Bl.go_on ?_
  refine Bl.wpL_store0 rfl rfl Hst.out ?_
  clear Hst HFz
  generalize (w6.alloc (.cells #[.int .u8 0, .int .u8 0, .int .u8 0, .int .u8 0, .int .u8 0, .int .u8 0, .int .u8 0, .int .u8 0, .int .u8 0, .int .u8 0, .int .u8 0, .int .u8 0, .int .u8 0, .int .u8 0, .int .u8 0, .int .u8 0, .int .u8 0, .int .u8 0, .int .u8 0, .int .u8 0, .int .u8 0, .int .u8 0, .int .u8 0, .int .u8 0, .int .u8 0, .int .u8 0, .int .u8 0, .int .u8 0, .int .u8 0, .int .u8 0, .int .u8 0, .int .u8 0] 42)).setCells w6.heap.size 0 (Bl.ints .u8 Bl.zs32) = W7 at *
  generalize w6.heap.size = X at *
  have HA7 := Bl.hid (HA6.out.ext HE7a.out)
  have HE7 := Bl.hid (HE6.out.trans HE7a.out)
  clear HA6 HE6 HE7a
  have heqz : ∀ w, (Op.equalIn 10000 42 (.agg (Bl.ints .u8 Bl.zs32).toArray) (.agg #[.int .u8 0, .int .u8 0, .int .u8 0, .int .u8 0, .int .u8 0, .int .u8 0, .int .u8 0, .int .u8 0, .int .u8 0, .int .u8 0, .int .u8 0, .int .u8 0, .int .u8 0, .int .u8 0, .int .u8 0, .int .u8 0, .int .u8 0, .int .u8 0, .int .u8 0, .int .u8 0, .int .u8 0, .int .u8 0, .int .u8 0, .int .u8 0, .int .u8 0, .int .u8 0, .int .u8 0, .int .u8 0, .int .u8 0, .int .u8 0, .int .u8 0, .int .u8 0])).run Tryd.prog w = .ok true w := fun w =>
    Bl.eq10k_same Tryd.underlying42 Tryd.underlying5 (fun w => by simp [go_sem]) Bl.zs32 rfl w
  go_wp2_with (with_reducible refine Bl.stop_load (ty := 42) ?_)
  refine Bl.go_on ?_
  refine Bl.wpL_load rfl (HBx.out.load Tryd.underlying42 (by kernel_rfl)) ?_
  go_wp2_with fail
  refine (HNm.out W7 HE7.out).mono ?_
  rintro e w8 ⟨rfl, hE8⟩
  have HE8 := Bl.hid (HE7.out.trans hE8)
  clear hE8
  go_wp2_with fail
  go_ret
  exact ⟨rfl, HE8.out⟩

set_option maxRecDepth 100000 in
set_option maxHeartbeats 2000000 in
theorem checks_ok (cs : List Value) (root : List Int) (n i : Int) (vl vp : Value) (l : List Int) (p : List (List Int)) (w : World) (a : Nat → Addr) (F : List Int) (K : Nat) (hFl : F.length = 32) (hK1 : ¬ K = 1) (hK8 : ¬ K = 8) (hA : Bl.AskC cs root n i vl vp) (hl : Bl.Rd w .u8 vl l) (hp : Bl.RdD w vp p) (hdp : Bl.Dig p) (hg : Glob w)
    (hRC : l.length ≤ 200 → ∀ w2, Bl.Ext w w2 → Calls Tryd.prog 27 #[.agg (Bl.ints .u8 root).toArray, .int .i64 n, .int .i64 i, vl, vp] w2 fun e w' => e = .returned (.int .i64 (K : Int)) ∧ Bl.Ext w2 w')
    (hPC : l.length ≤ 200 → ∀ w2 vd, Bl.Ext w w2 → Bl.RdD w2 vd p → Calls Tryd.prog 15 #[.agg (Bl.ints .u8 root).toArray, .int .i64 n, .int .i64 i, vl, vd] w2 fun e w' => e = .returned (errN a K) ∧ Bl.Ext w2 w')
    (hNm : ∀ w2, Bl.Ext w w2 → Calls Tryd.prog 12 #[errN a K] w2 fun e w' => e = .returned (.int .i64 (K : Int)) ∧ Bl.Ext w2 w')
    (hFo : l.length ≤ 200 → ∀ w2 vd, Bl.Ext w w2 → Bl.RdD w2 vd p → Calls Tryd.prog 22 #[.int .i64 n, .int .i64 i, vl, vd] w2 fun e w' => e = .returned (.tuple #[.agg (Bl.ints .u8 F).toArray, .nilIface]) ∧ Bl.Ext w2 w')
    (hLf : l.length ≤ 200 → ∀ w2, Bl.Ext w w2 → Calls Tryd.prog 29 #[vl] w2 fun e w' => e = .returned (.agg (Bl.ints .u8 (Bl.lfD l)).toArray) ∧ Bl.Ext w2 w')
    (hRF : ∀ w2, Bl.Ext w w2 → Calls Tryd.prog 28 #[.int .i64 n, .int .i64 i, .agg (Bl.ints .u8 (Bl.lfD l)).toArray, vp] w2 fun e w' => e = .returned (.agg (Bl.ints .u8 F).toArray) ∧ Bl.Ext w2 w') :
    Calls Tryd.prog 7 #[.agg cs.toArray] w fun e w' => e = .returned (.bool true) ∧ Bl.Ext w w' := by
  obtain ⟨pl, cl, hvlf, hvln, hvlc⟩ := hl.form
  subst hvlf
  obtain ⟨pp, cp, hvpf, hvpn, hvpc⟩ := hp.form
  subst hvpf
  unfold maxLen at hvlc hvpc
  have HRC := Bl.hid hRC
  have HPC := Bl.hid hPC
  have HNm := Bl.hid hNm
  have HFo := Bl.hid hFo
  have HLf := Bl.hid hLf
  have HRF := Bl.hid hRF
  have HFl := Bl.hid hFl
  have hK1' : ((K : Int) == 1) = false := by rw [beq_eq_false_iff_ne]; omega
  have hK8' : ((K : Int) == 8) = false := by rw [beq_eq_false_iff_ne]; omega
  have HA0 := Bl.hid (hA.at' w 37)
  have HE0 := Bl.hid (Bl.ext_alloc w (.cells cs.toArray 37))
  have Hp := Bl.hid hp
  have Hdp := Bl.hid hdp
  have Hg := Bl.hid hg
  clear hRC hPC hNm hFo hA hl hp hdp hg hLf hRF hFl hK1 hK8
  go_enter Tryd.func7, Tryd.ntmps7
  go_wp2_with fail
  generalize w.alloc (.cells cs.toArray 37) = W0 at HA0 HE0 ⊢
  refine (alive13 W0 (Hg.out.ext HE0.out)).mono ?_
  rintro e w1 ⟨rfl, hE1⟩
  have HA1 := Bl.hid (HA0.out.ext hE1)
  have HE1 := Bl.hid (HE0.out.trans hE1)
  clear hE1 HA0 HE0
  have hq4 := HA1.out.leaf
  have hq5 := HA1.out.path
  by_cases hl200 : (200 : Int) < (l.length : Int)
  · go_wp2_with fail
    go_ret
    exact ⟨rfl, HE1.out⟩
  by_cases hp40 : (40 : Int) < (p.length : Int)
  · go_wp2_with fail
    go_ret
    exact ⟨rfl, HE1.out⟩
  have hl2 : l.length ≤ 200 := by omega
  have Hl2 := Bl.hid hl2
  go_wp2_with fail
  refine (digests13_any _ p w1 (Bl.Rds.ext Hp.out HE1.out) Hdp.out (by omega)).mono ?_
  rintro e w2 ⟨pd, cd, rfl, hown2, hE2⟩
  have HD2 : Hid (Bl.RdD w2 (.slice pd p.length cd) p) := Bl.hid (Bl.Rds.of_owns hown2)
  have HA2 := Bl.hid (HA1.out.ext hE2)
  have HE2 := Bl.hid (HE1.out.trans hE2)
  clear hown2 hE2 HA1 HE1 hq4 hq5
  have hq2 := HA2.out.qn
  have hq3 := HA2.out.qi
  have hq4 := HA2.out.leaf
  have hq5 := HA2.out.path
  go_wp2_with (with_reducible refine Bl.stop_load (ty := 25) ?_)
  refine Bl.go_on ?_
  refine Bl.wpL_load rfl (HA2.out.load Tryd.underlying25 (by kernel_rfl)) ?_
  go_wp2_with fail
  refine (HRC.out Hl2.out w2 HE2.out).mono ?_
  rintro e w3 ⟨rfl, hE3⟩
  have HD3 := Bl.hid (Bl.Rds.ext HD2.out hE3)
  have HA3 := Bl.hid (HA2.out.ext hE3)
  have HE3 := Bl.hid (HE2.out.trans hE3)
  clear hE3 HA2 HE2 HD2 hq2 hq3 hq4 hq5
  have hq2 := HA3.out.qn
  have hq3 := HA3.out.qi
  have hq4 := HA3.out.leaf
  go_wp2_with (with_reducible refine Bl.stop_load (ty := 25) ?_)
  refine Bl.go_on ?_
  refine Bl.wpL_load rfl (HA3.out.load Tryd.underlying25 (by kernel_rfl)) ?_
  go_wp2_with fail
  refine (HPC.out Hl2.out w3 _ HE3.out HD3.out).mono ?_
  rintro e w4 ⟨rfl, hE4⟩
  have HD4 := Bl.hid (Bl.Rds.ext HD3.out hE4)
  have HA4 := Bl.hid (HA3.out.ext hE4)
  have HE4 := Bl.hid (HE3.out.trans hE4)
  clear hE4 HA3 HE3 HD3 hq2 hq3 hq4
  go_wp2_with fail
  refine (HNm.out w4 HE4.out).mono ?_
  rintro e w5 ⟨rfl, hE5⟩
  have HD5 := Bl.hid (Bl.Rds.ext HD4.out hE5)
  have HA5 := Bl.hid (HA4.out.ext hE5)
  have HE5 := Bl.hid (HE4.out.trans hE5)
  clear hE5 HA4 HE4 HD4
  have hq2 := HA5.out.qn
  have hq3 := HA5.out.qi
  have hq4 := HA5.out.leaf
  go_wp2_with fail
  refine (HFo.out Hl2.out w5 _ HE5.out HD5.out).mono ?_
  rintro e w6 ⟨rfl, hE6⟩
  have HA6 := Bl.hid (HA5.out.ext hE6)
  have HE6 := Bl.hid (HE5.out.trans hE6)
  have HFz := Bl.hid (fam_new w6 32 .u8 42 #[.int .u8 0, .int .u8 0, .int .u8 0, .int .u8 0, .int .u8 0, .int .u8 0, .int .u8 0, .int .u8 0, .int .u8 0, .int .u8 0, .int .u8 0, .int .u8 0, .int .u8 0, .int .u8 0, .int .u8 0, .int .u8 0, .int .u8 0, .int .u8 0, .int .u8 0, .int .u8 0, .int .u8 0, .int .u8 0, .int .u8 0, .int .u8 0, .int .u8 0, .int .u8 0, .int .u8 0, .int .u8 0, .int .u8 0, .int .u8 0, .int .u8 0, .int .u8 0] rfl)
  have HBx := Bl.hid (Bl.BoxD.of_fam HFz.out (d := F) HFl.out)
  have Hst := Bl.hid (Bl.store_ints (P := Tryd.prog) (ty := 42) (k := .u8) (l := F) (n := 32) HFz.out.there (by kernel_rfl) HFl.out)
  have HE7a : Hid (Bl.Ext w6 ((w6.alloc (.cells #[.int .u8 0, .int .u8 0, .int .u8 0, .int .u8 0, .int .u8 0, .int .u8 0, .int .u8 0, .int .u8 0, .int .u8 0, .int .u8 0, .int .u8 0, .int .u8 0, .int .u8 0, .int .u8 0, .int .u8 0, .int .u8 0, .int .u8 0, .int .u8 0, .int .u8 0, .int .u8 0, .int .u8 0, .int .u8 0, .int .u8 0, .int .u8 0, .int .u8 0, .int .u8 0, .int .u8 0, .int .u8 0, .int .u8 0, .int .u8 0, .int .u8 0, .int .u8 0] 42)).setCells w6.heap.size 0 (Bl.ints .u8 F))) := Bl.hid (Bl.below_setCells _ _ _ _ (Bl.ext_alloc _ _) (Nat.le_refl _))
  clear hE6 HA5 HE5 HD5 hq2 hq3 hq4
  go_wp2_with (with_reducible refine Bl.stop_store (ty := 42) ?_)
  refine Bl.go_on ?_
  refine Bl.wpL_store0 rfl rfl Hst.out ?_
  clear Hst HFz
  generalize (w6.alloc (.cells #[.int .u8 0, .int .u8 0, .int .u8 0, .int .u8 0, .int .u8 0, .int .u8 0, .int .u8 0, .int .u8 0, .int .u8 0, .int .u8 0, .int .u8 0, .int .u8 0, .int .u8 0, .int .u8 0, .int .u8 0, .int .u8 0, .int .u8 0, .int .u8 0, .int .u8 0, .int .u8 0, .int .u8 0, .int .u8 0, .int .u8 0, .int .u8 0, .int .u8 0, .int .u8 0, .int .u8 0, .int .u8 0, .int .u8 0, .int .u8 0, .int .u8 0, .int .u8 0] 42)).setCells w6.heap.size 0 (Bl.ints .u8 F) = W7 at *
  generalize w6.heap.size = X at *
  have HA7 := Bl.hid (HA6.out.ext HE7a.out)
  have HE7 := Bl.hid (HE6.out.trans HE7a.out)
  clear HA6 HE6 HE7a
  have heq : ∀ w, (Op.equalIn 10000 25 (.agg (Bl.ints .u8 F).toArray) (.agg (Bl.ints .u8 F).toArray)).run Tryd.prog w = .ok true w := fun w =>
    Bl.eq10k_same Tryd.underlying25 Tryd.underlying5 (fun w => by simp [go_sem]) F HFl.out w
  have HLx : Hid (∀ w2, Bl.Ext W7 w2 → (Instr.loadAt 42 (.pointer (some ⟨X, 0, none⟩))).run Tryd.prog w2 = .ok (.agg (Bl.ints .u8 F).toArray) w2) := Bl.hid fun w2 h2 => (HBx.out.ext h2).load Tryd.underlying42 (by kernel_rfl)
  have hB := HA7.out.lt
  have hq2 := HA7.out.qn
  have hq3 := HA7.out.qi
  have hq4 := HA7.out.leaf
  have hq5 := HA7.out.path
  obtain ⟨lf, hlf⟩ : ∃ lf, lf = Bl.lfD l := ⟨_, rfl⟩
  rw [← hlf] at HLf HRF
  clear hlf
  go_wp2_with fail
  apply Bl.wp_region_ev 16 [72, 73, 74, 75, 76, 77, 78, 79, 80, 81, 82, 83, 84, 85, 86, 87] [Bl.eqv _, Bl.eqv _, Bl.eqv _, Bl.eqv _, Bl.eqv _, Bl.eqv _, Bl.eqv _, Bl.eqv _, Bl.eqv _, Bl.eqv _, Bl.eqv _, Bl.eqv _, Bl.eqv _, Bl.eqv _, Bl.eqv _, Bl.eqv _] (by kernel_rfl) (by kernel_rfl) (by kernel_rfl) (by kernel_rfl)
  case hsteps =>
    refine ⟨?_, ?_, ?_, ?_, ?_, ?_, ?_, ?_, ?_, ?_, ?_, ?_, ?_, ?_, ?_, ?_, trivial⟩
    all_goals
      intro ev w1 hext hb hd
      have e1 := hb 1 (by decide)
      have e5 := hb 5 (by decide)
      have e6 := hb 6 (by decide)
      clear hb
      simp only [Array.getD_eq_getD_getElem?, List.getElem?_toArray, List.getElem?_cons_succ, List.getElem?_cons_zero, Option.getD_some] at e1 e5 e6
      simp only [Bl.DepsE, List.getElem?_cons_succ, List.getElem?_cons_zero, Option.bind_some, List.getD_cons_succ, List.getD_cons_zero, Bl.eqv, and_true] at hd
      have hc := (Bl.bcell hext).1
      have hq2' := (hc _ 32 hB).trans hq2
      have hq3' := (hc _ 33 hB).trans hq3
      have hq4' := (hc _ 34 hB).trans hq4
      have hq5' := (hc _ 35 hB).trans hq5
      simp only [Bl.Good, Region.wanted, Bl.yieldE, List.getElem?_cons_succ, List.getElem?_cons_zero, Option.bind_some, hd, beq_self_eq_true, if_true]
      first
      | ((with_reducible refine Bl.goodR_load ?_ (HLx.out _ hext) ?_); exact e5; exact rfl)
      | (go_simp; first | (go_at_call 29; (with_reducible refine (HLf.out Hl2.out _ (HE7.out.trans hext)).mono ?_); rintro e w2 ⟨rfl, hE2⟩; exact ⟨_, rfl, hE2, rfl⟩) | (go_at_call 28; (with_reducible refine (HRF.out _ (HE7.out.trans hext)).mono ?_); rintro e w2 ⟨rfl, hE2⟩; exact ⟨_, rfl, hE2, rfl⟩) | exact rfl | exact ⟨Below.refl _ _, rfl⟩ | exact ⟨Below.refl _ _, rfl⟩)
  case hmono => exact ⟨Bl.mono_eqv _, Bl.mono_eqv _, Bl.mono_eqv _, Bl.mono_eqv _, Bl.mono_eqv _, Bl.mono_eqv _, Bl.mono_eqv _, Bl.mono_eqv _, Bl.mono_eqv _, Bl.mono_eqv _, Bl.mono_eqv _, Bl.mono_eqv _, Bl.mono_eqv _, Bl.mono_eqv _, Bl.mono_eqv _, Bl.mono_eqv _, trivial⟩
  case hend =>
    intro u w1 hext hend
    simp only [Bl.EndE, List.getElem?_cons_succ, List.getElem?_cons_zero, Option.bind_some, List.getD_cons_succ, List.getD_cons_zero, Bl.eqv, true_and] at hend
    simp only [Bl.fillAct, List.setIfInBounds_toArray, List.set_cons_succ, List.set_cons_zero, List.drop_succ_cons, List.drop_zero, hend]
    have HE8 := Bl.hid (HE7.out.trans hext)
    clear hext hend
    go_wp2_with fail
    go_ret
    exact ⟨rfl, HE8.out⟩

theorem checks_all (cs : List Value) (root : List Int) (n i : Int) (vl vp : Value) (l : List Int) (p : List (List Int)) (w : World) (S : List Nat) (a : Nat → Addr) (hA : Bl.AskC cs root n i vl vp) (hl : Bl.Rd w .u8 vl l) (hbl : Bl.Byt l) (hp : Bl.RdD w vp p) (hdp : Bl.Dig p) (hg : GlobR w) (hS : ∀ i, 1 ≤ i → i ≤ 20 → i ∈ S) (he : Errs S a w) :
    Calls Tryd.prog 7 #[.agg cs.toArray] w fun e w' => e = .returned (.bool true) ∧ Bl.Ext w w' := by
  have s1 := hS 1 (by decide) (by decide)
  have s8 := hS 8 (by decide) (by decide)
  have s15 := hS 15 (by decide) (by decide)
  have hRC : l.length ≤ 200 → ∀ w2, Bl.Ext w w2 → Calls Tryd.prog 27 #[.agg (Bl.ints .u8 root).toArray, .int .i64 n, .int .i64 i, vl, vp] w2 fun e w' => e = .returned (.int .i64 (Bl.chkP root n i l p)) ∧ Bl.Ext w2 w' := fun h200 w2 h2 =>
    refcheck_any root n i vl vp l p w2 hA.len (hl.ext h2) hbl (by omega) (Bl.Rds.ext hp h2) hdp (hg.ext h2)
  have hPC : l.length ≤ 200 → ∀ w2 vd, Bl.Ext w w2 → Bl.RdD w2 vd p → Calls Tryd.prog 15 #[.agg (Bl.ints .u8 root).toArray, .int .i64 n, .int .i64 i, vl, vd] w2 fun e w' => e = .returned (errN a (Bl.chkP root n i l p)) ∧ Bl.Ext w2 w' := fun h200 w2 vd h2 h3 =>
    pcheck_any root n i vl vd l p w2 S a (he.ext h2) s1 s8 s15 hA.len (hl.ext h2) hbl (by omega) h3 hdp (hg.ext h2)
  by_cases h : n ≤ 512 ∧ 0 ≤ i ∧ i < n
  · obtain ⟨h2, h3, h4⟩ := h
    have hb := Bl.thereB_mk h2 h3 h4
    obtain ⟨j, rfl⟩ := Int.eq_ofNat_of_zero_le h3
    obtain ⟨m, rfl⟩ := Int.eq_ofNat_of_zero_le (a := n) (by omega)
    by_cases hpl : p.length = (Bl.turnsL m j).length
    · refine checks_ok cs root m j vl vp l p w a (Bl.foldP Bl.ndD m j (Bl.lfD l) p) (Bl.chkP root m j l p) (Bl.foldP_dig hpl).1 ?_ ?_ hA hl hp hdp hg hRC hPC (fun w2 h2 => num_errN S a w2 _ hS (he.ext h2) ?_) (fun h200 w2 vd h2 h3 => pfold_ok m j vl vd l p w2 (by omega) (by omega) (hl.ext h2) hbl (by omega) h3 hdp hpl (hg.ext h2)) (fun h200 w2 h2 => refleaf_any vl l w2 (hl.ext h2) (hg.ext h2) hbl (by omega)) (fun w2 h2 => reffold_nat m j (Bl.lfD l) p vp w2 (by omega) (by omega) (Bl.lfD_length l) (Bl.lfD_byt l) (Bl.Rds.ext hp h2) hdp hpl (hg.ext h2))
      all_goals
        by_cases hf : Bl.foldP Bl.ndD m j (Bl.lfD l) p = root
        · rw [Bl.chkP_ok hb hpl hf]; decide
        · rw [Bl.chkP_bad hb hpl hf]; decide
    · rw [Bl.chkP_size hb hpl] at hRC hPC
      rw [errN_pos a 8 (by decide)] at hPC
      exact checks_bad8 cs root m j vl vp l p w a hA hl hp hdp hg hRC hPC (fun w2 h2 => num_any S a w2 8 hS (he.ext h2) (by decide) (by decide)) (fun _ w2 vd h2 h3 => by
        have h := pfold_size m j vl vd p w2 S a h3 (he.ext h2) s8 (by omega) (by omega) hpl
        rw [errN_pos a 8 (by decide)] at h; exact h)
  · rw [Bl.chkP_range (Bl.thereB_no h)] at hRC hPC
    rw [errN_pos a 1 (by decide)] at hPC
    exact checks_bad1 cs root n i vl vp l p w a hA hl hp hdp hg hRC hPC (fun w2 h2 => num_any S a w2 1 hS (he.ext h2) (by decide) (by decide)) (fun _ w2 vd h2 h3 => by
      have h := pfold_range n i vl vd w2 S a (he.ext h2) s1 h
      rw [errN_pos a 1 (by decide)] at h; exact h)
end Go.Proofs.YtjmkcenkjnoblaaDoor

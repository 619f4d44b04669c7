/- Walk of the law GrowthOne. -/
import Derived.Test.YtkoddcjkhcnifaaDoorWGroB
import Derived.Test.YtkoddcjkhcnifaaDoorWGroD
import Derived.Test.YtkoddcjkhcnifaaDoorWGroE
import Derived.Test.YtkoddcjkhcnifaaDoorWDig13
namespace Go.Proofs.Bl
open Go Go.RowKit
theorem AskGC.whole {P : Program} {cs : List Value} {w w' : World} {ty t : TypeId} {fs : Array Field} (hE : Ext (w.alloc (.cells cs.toArray t)) w') (hlen : cs.length = 67) (hu : P.underlying ty = some (.struct fs)) (hi : (P.info? ty).map (·.size) = some 67) :
    (Instr.loadAt ty (.pointer (some ⟨w.heap.size, 0, none⟩))).run P w' = .ok (.agg cs.toArray) w' := by
  have hr : (w.alloc (.cells cs.toArray t)).rangeAt w.heap.size 0 cs := fun j v hj => by
    rw [Nat.zero_add, World.cell?_alloc_new]; simpa using hj
  exact run_loadAt_mid (P := P) w' w.heap.size 0 ty cs _ (rangeAt_ext hr hE) hu rfl (by rw [hlen]; exact hi)
end Go.Proofs.Bl
namespace Go.Proofs.YtkoddcjkhcnifaaDoor
open Go.RowKit Go.Proofs

set_option maxRecDepth 100000 in
set_option maxHeartbeats 2000000 in
theorem gone_all (cs : List Value) (m n : Int) (old now other : List Int) (vp : Value) (p : List (List Int)) (w : World) (S : List Nat) (a : Nat → Addr) (hA : Bl.AskGC cs m n old now vp) (hlen : cs.length = 67) (bo : Bl.Byt old) (hot : other.length = 32) (bt : Bl.Byt other) (hp : Bl.RdD w vp p) (hdp : Bl.Dig p) (hg : GlobR w) (s1 : 1 ∈ S) (s8 : 8 ∈ S) (s15 : 15 ∈ S) (he : Errs S a w) :
    Calls Tryd.prog 5 #[.agg cs.toArray, .agg (Bl.ints .u8 other).toArray] w fun e w' => e = .returned (.bool true) ∧ Bl.Ext w w' := by
  obtain ⟨pp, cp, hvpf, hvpn, hvpc⟩ := hp.form
  subst hvpf
  unfold maxLen at hvpc
  have HC1 : Hid (∀ w2 vd, Bl.Ext w w2 → Bl.RdD w2 vd p → Calls Tryd.prog 23 #[.int .i64 m, .agg (Bl.ints .u8 old).toArray, .int .i64 n, .agg (Bl.ints .u8 now).toArray, vd] w2 fun e w' => e = .returned (errN a (Bl.chkG m n old now p)) ∧ Bl.Ext w2 w') := Bl.hid fun w2 vd h2 h3 =>
    gcheck_any m n old now vd p w2 S a (he.ext h2) s1 s8 s15 hA.lo bo hA.ln h3 hdp (hg.ext h2).s
  have HC2 : Hid (∀ w2 vd, Bl.Ext w w2 → Bl.RdD w2 vd p → Calls Tryd.prog 23 #[.int .i64 m, .agg (Bl.ints .u8 other).toArray, .int .i64 n, .agg (Bl.ints .u8 now).toArray, vd] w2 fun e w' => e = .returned (errN a (Bl.chkG m n other now p)) ∧ Bl.Ext w2 w') := Bl.hid fun w2 vd h2 h3 =>
    gcheck_any m n other now vd p w2 S a (he.ext h2) s1 s8 s15 hot bt hA.ln h3 hdp (hg.ext h2).s
  have HDg : Hid (p.length ≤ 40 → ∀ w2, Bl.Ext w w2 → Calls Tryd.prog 21 #[.slice pp p.length cp] w2 fun e w' => ∃ v, e = .returned v ∧ Bl.RdD w' v p ∧ Bl.Ext w2 w') := Bl.hid fun h40 w2 h2 =>
    (digests13_any _ p w2 (Bl.Rds.ext hp h2) hdp (by omega)).mono fun e w' ⟨p', c', h1, h3, h4⟩ => ⟨_, h1, Bl.Rds.of_owns h3, h4⟩
  have HCl : Hid (Bl.chkG m n old now p = 0 → Bl.chkG m n other now p = 0 → ¬ old = other → ∀ w2, Bl.Ext w w2 → Calls Tryd.prog 24 #[.agg cs.toArray, .agg (Bl.ints .u8 other).toArray] w2 fun e w' => e = .returned (.bool true) ∧ Bl.Ext w2 w') := Bl.hid fun h1 h2 hne w2 hw2 => by
    obtain ⟨x, y, rfl, rfl, hx1, hx2, hx3, hx4, hx5⟩ := Bl.chkG_zero h1
    obtain ⟨x', y', hxx, hyy, _, _, _, _, hx6⟩ := Bl.chkG_zero h2
    obtain rfl : x = x' := by omega
    obtain rfl : y = y' := by omega
    obtain ⟨g1, g2, g3, g4⟩ := Bl.one_old x y old other now p hx1 hx2 (by omega) hx4 hx5 hx6 hne
    exact clash14_any x y cs old now other _ p w2 hA bo hot bt (Bl.Rds.ext hp hw2) hdp (hg.ext hw2).s hx1 hx2 hx3 g3 g4 hne (by rw [g1, g2])
  obtain ⟨K1, hK1⟩ : ∃ K1, K1 = Bl.chkG m n old now p := ⟨_, rfl⟩
  obtain ⟨K2, hK2⟩ : ∃ K2, K2 = Bl.chkG m n other now p := ⟨_, rfl⟩
  rw [← hK1] at HC1 HCl
  rw [← hK2] at HC2 HCl
  have hEb := Bl.ext_alloc (w.alloc (.cells cs.toArray 49)) (.cells (Bl.ints .u8 other).toArray 40)
  have hbx := Bl.dig_box (w.alloc (.cells cs.toArray 49)) other 40 hot
  rw [World.size_alloc] at hbx
  have HA0 := Bl.hid ((hA.at' w 49).ext hEb)
  have HBt := Bl.hid hbx
  have HEb := Bl.hid hEb
  have HE0 := Bl.hid ((Bl.ext_alloc w (.cells cs.toArray 49)).trans hEb)
  have HWh : Hid (∀ w2, Bl.Ext ((w.alloc (.cells cs.toArray 49)).alloc (.cells (Bl.ints .u8 other).toArray 40)) w2 → (Instr.loadAt 49 (.pointer (some ⟨w.heap.size, 0, none⟩))).run Tryd.prog w2 = .ok (.agg cs.toArray) w2) := Bl.hid fun w2 h2 =>
    Bl.AskGC.whole (HEb.out.trans h2) hlen Tryd.underlying49 (by kernel_rfl)
  have Hg := Bl.hid hg
  have Hol := Bl.hid hA.lo
  have Hot := Bl.hid hot
  clear hA bo hp hdp hg he hK1 hK2 hEb hbx hot bt s1 s8 s15 hlen
  go_enter Tryd.func5, Tryd.ntmps5
  go_wp2_with fail
  generalize (w.alloc (.cells cs.toArray 49)).alloc (.cells (Bl.ints .u8 other).toArray 40) = W0 at HA0 HBt HE0 HEb HWh ⊢
  refine (alive14 W0 (Hg.out.ext HE0.out)).mono ?_
  rintro e w1 ⟨rfl, hE1⟩
  have HA1 := Bl.hid (HA0.out.ext hE1)
  have HE1 := Bl.hid (HE0.out.trans hE1)
  have HE01 := Bl.hid hE1
  clear hE1
  have q5 := HA1.out.pr
  by_cases hp40 : (40 : Int) < (p.length : Int)
  · go_wp2_with fail
    go_ret
    exact ⟨rfl, HE1.out⟩
  go_wp2_with fail
  refine (HDg.out (by omega) w1 HE1.out).mono ?_
  rintro e w2 ⟨vd, rfl, hR2, hE2⟩
  have HR2 := Bl.hid hR2
  have HA2 := Bl.hid (HA1.out.ext hE2)
  have HE2 := Bl.hid (HE1.out.trans hE2)
  have HE02 := Bl.hid (HE01.out.trans hE2)
  clear hR2 hE2 q5 HA1
  have q0 := HA2.out.qm
  have q1 := HA2.out.qn
  go_wp2_with (with_reducible refine Bl.stop_load (ty := 40) ?_)
  refine Bl.go_on ?_
  refine Bl.wpL_load rfl (HA2.out.loadO Tryd.underlying40 (by kernel_rfl)) ?_
  go_wp2_with (with_reducible refine Bl.stop_load (ty := 40) ?_)
  refine Bl.go_on ?_
  refine Bl.wpL_load rfl (HA2.out.loadN Tryd.underlying40 (by kernel_rfl)) ?_
  go_wp2_with fail
  refine (HC1.out w2 _ HE2.out HR2.out).mono ?_
  rintro e w3 ⟨rfl, hE3⟩
  have HR3 := Bl.hid (Bl.Rds.ext HR2.out hE3)
  have HA3 := Bl.hid (HA2.out.ext hE3)
  have HE3 := Bl.hid (HE2.out.trans hE3)
  have HE03 := Bl.hid (HE02.out.trans hE3)
  clear hE3 q0 q1 HA2 HR2
  have q0 := HA3.out.qm
  have q1 := HA3.out.qn
  go_wp2_with (with_reducible refine Bl.stop_load (ty := 40) ?_)
  refine Bl.go_on ?_
  refine Bl.wpL_load rfl ((HBt.out.ext HE03.out).load Tryd.underlying40 (by kernel_rfl)) ?_
  go_wp2_with (with_reducible refine Bl.stop_load (ty := 40) ?_)
  refine Bl.go_on ?_
  refine Bl.wpL_load rfl (HA3.out.loadN Tryd.underlying40 (by kernel_rfl)) ?_
  go_wp2_with fail
  refine (HC2.out w3 _ HE3.out HR3.out).mono ?_
  rintro e w4 ⟨rfl, hE4⟩
  have HA4 := Bl.hid (HA3.out.ext hE4)
  have HE4 := Bl.hid (HE3.out.trans hE4)
  have HE04 := Bl.hid (HE03.out.trans hE4)
  clear hE4 q0 q1 HA3 HR3
  by_cases hk1 : K1 = 0
  · by_cases hk2 : K2 = 0
    · rw [hk1, hk2, errN_zero]
      by_cases hoo : old = other
      · have heq : ∀ w, (Op.equalIn 10000 40 (.agg (Bl.ints .u8 old).toArray) (.agg (Bl.ints .u8 other).toArray)).run Tryd.prog w = .ok true w := fun w => by
          rw [Bl.eq10k Tryd.underlying40 Tryd.underlying5 (fun w => by simp [go_sem]) old other Hol.out Hot.out w, decide_eq_true hoo]
        clear hoo hk1 hk2 HCl
        go_wp2_with (with_reducible refine Bl.stop_loadg (ty := 40) ?_)
        refine Bl.go_on ?_
        refine Bl.wpL_loadg rfl rfl (HA4.out.loadO Tryd.underlying40 (by kernel_rfl)) ?_
        go_wp2_with (with_reducible refine Bl.stop_loadg (ty := 40) ?_)
        refine Bl.go_on ?_
        refine Bl.wpL_loadg rfl rfl ((HBt.out.ext HE04.out).load Tryd.underlying40 (by kernel_rfl)) ?_
        go_wp2_with fail
        go_ret
        exact ⟨rfl, HE4.out⟩
      · have heq : ∀ w, (Op.equalIn 10000 40 (.agg (Bl.ints .u8 old).toArray) (.agg (Bl.ints .u8 other).toArray)).run Tryd.prog w = .ok false w := fun w => by
          rw [Bl.eq10k Tryd.underlying40 Tryd.underlying5 (fun w => by simp [go_sem]) old other Hol.out Hot.out w, decide_eq_false hoo]
        have HC := Bl.hid (HCl.out hk1 hk2 hoo w4 HE4.out)
        clear hoo hk1 hk2 HCl
        go_wp2_with (with_reducible refine Bl.stop_loadg (ty := 40) ?_)
        refine Bl.go_on ?_
        refine Bl.wpL_loadg rfl rfl (HA4.out.loadO Tryd.underlying40 (by kernel_rfl)) ?_
        go_wp2_with (with_reducible refine Bl.stop_loadg (ty := 40) ?_)
        refine Bl.go_on ?_
        refine Bl.wpL_loadg rfl rfl ((HBt.out.ext HE04.out).load Tryd.underlying40 (by kernel_rfl)) ?_
        go_wp2_with (with_reducible refine Bl.stop_load (ty := 49) ?_)
        refine Bl.go_on ?_
        refine Bl.wpL_load rfl (HWh.out w4 HE04.out) ?_
        go_wp2_with (with_reducible refine Bl.stop_load (ty := 40) ?_)
        refine Bl.go_on ?_
        refine Bl.wpL_load rfl ((HBt.out.ext HE04.out).load Tryd.underlying40 (by kernel_rfl)) ?_
        go_wp2_with fail
        refine HC.out.mono ?_
        rintro e w5 ⟨rfl, hE5⟩
        have HE5 := Bl.hid (HE4.out.trans hE5)
        clear hE5
        go_wp2_with fail
        go_ret
        exact ⟨rfl, HE5.out⟩
    · rw [hk1, errN_zero, errN_pos a K2 hk2]
      clear hk1 hk2 HCl
      go_wp2_with fail
      go_ret
      exact ⟨rfl, HE4.out⟩
  · rw [errN_pos a K1 hk1]
    clear hk1 HCl
    go_wp2_with fail
    go_ret
    exact ⟨rfl, HE4.out⟩
end Go.Proofs.YtkoddcjkhcnifaaDoor

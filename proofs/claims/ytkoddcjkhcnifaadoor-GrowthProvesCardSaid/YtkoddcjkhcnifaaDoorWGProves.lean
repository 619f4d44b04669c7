/- Walk of the law GrowthProves. -/
import Derived.Test.YtkoddcjkhcnifaaDoorWGroB
import Derived.Test.YtkoddcjkhcnifaaDoorWGroA
import Derived.Test.YtkoddcjkhcnifaaDoorWGroD
import Derived.Test.YtkoddcjkhcnifaaDoorWGro6
import Derived.Test.YtkoddcjkhcnifaaDoorWRoots
import Derived.Test.YtkoddcjkhcnifaaDoorWNumN
namespace Go.Proofs.YtkoddcjkhcnifaaDoor
open Go.RowKit Go.Proofs

set_option maxRecDepth 100000 in
set_option maxHeartbeats 2000000 in
theorem gproves_all (v : Value) (ps : List (List Int)) (m : Int) (w : World) (S : List Nat) (a : Nat → Addr) (hR : Bl.Rdss w v ps) (hby : ∀ p ∈ ps, Bl.Byt p) (hg : GlobR w) (hS : ∀ i, 1 ≤ i → i ≤ 20 → i ∈ S) (he : Errs S a w) :
    Calls Tryd.prog 7 #[v, .int .i64 m] w fun e w' => e = .returned (.bool true) ∧ Bl.Ext w w' := by
  have HLg : Hid (∀ w2, Bl.Ext w w2 → Calls Tryd.prog 10 #[v, .int .i64 40] w2 fun e w' => w' = w2 ∧ (e = .returned (.bool true) ∨ (e = .returned (.bool false) ∧ (ps.length : Int) ≤ 40 ∧ ∀ p ∈ ps, p.length ≤ 200))) := Bl.hid fun w2 h2 => long_any v ps w2 40 (hR.ext h2)
  have HLv : Hid (ps.length ≤ 40 → (∀ p ∈ ps, p.length ≤ 200) → ∀ w2, Bl.Ext w w2 → Calls Tryd.prog 15 #[v] w2 fun e w' => ∃ p c, e = .returned (.slice p ps.length c) ∧ Bl.RdD w' (.slice p ps.length c) (ps.map Bl.lfD) ∧ Bl.Ext w2 w') := Bl.hid fun h40 h200 w2 h2 =>
    (refleaves_any v ps w2 (hR.ext h2) (hg.ext h2) hby (fun p hp => by have := h200 p hp; omega) (by omega)).mono fun e w' ⟨p, c, h1, h3, h4⟩ => ⟨p, c, h1, by show Bl.Rds w' _ (ps.map Bl.lfD).length _; rw [List.length_map]; exact Bl.Rds.of_owns h3, h4⟩
  have Hg := Bl.hid hg
  have He := Bl.hid he
  have HS := Bl.hid hS
  clear hR hby hg hS he
  go_enter Tryd.func7, Tryd.ntmps7
  go_wp2_with fail
  refine (alive14 w Hg.out).mono ?_
  rintro e w1 ⟨rfl, hE1⟩
  have HE1 := Bl.hid hE1
  clear hE1
  go_wp2_with fail
  refine (HLg.out w1 HE1.out).mono ?_
  rintro e w2 ⟨hw2, (rfl | ⟨rfl, h40, h200⟩)⟩
  · subst hw2
    go_wp2_with fail
    go_ret
    exact ⟨rfl, HE1.out⟩
  subst hw2
  have HLv1 := Bl.hid (HLv.out (by omega) h200 w2 HE1.out)
  have Hdig := Bl.hid (Bl.dig_leaves ps)
  have Hln : Hid ((ps.map Bl.lfD).length = ps.length) := Bl.hid (List.length_map _)
  obtain ⟨ds, hds⟩ : ∃ ds, ds = ps.map Bl.lfD := ⟨_, rfl⟩
  rw [← hds] at HLv1 Hdig Hln
  obtain ⟨L, hL⟩ : ∃ L, L = ps.length := ⟨_, rfl⟩
  rw [← hL] at HLv1 Hln h40
  have hL40 : L ≤ 40 := by omega
  clear h200 hds hL HLv HLg h40
  go_wp2_with fail
  refine HLv1.out.mono ?_
  rintro e w3 ⟨p3, c3, rfl, hR3, hE3⟩
  have HR3 := Bl.hid hR3
  have HE3 := Bl.hid (HE1.out.trans hE3)
  have hDg := digests13_any _ ds w3 hR3 Hdig.out (by rw [Hln.out]; omega)
  have hc3 : L ≤ c3 ∧ c3 ≤ maxLen := by
    obtain ⟨_, _, hf, h1, h2⟩ := hR3.form
    injection hf with _ hf1 hf2
    rw [Hln.out] at h1
    subst hf2
    exact ⟨h1, h2⟩
  unfold maxLen at hc3
  obtain ⟨hc31, hc32⟩ := hc3
  rw [Hln.out] at hDg
  have HDg := Bl.hid hDg
  clear hR3 hE3 hDg HLv1 HE1
  go_wp2_with fail
  refine HDg.out.mono ?_
  rintro e w4 ⟨p4, c4, rfl, hown4, hE4⟩
  have HR4 : Hid (Bl.RdD w4 (.slice p4 L c4) ds) := Bl.hid (by show Bl.Rds w4 _ ds.length _; rw [Hln.out]; exact Bl.Rds.of_owns hown4)
  have HL4 := Bl.hid (Bl.Rds.ext HR3.out hE4)
  have HE4 := Bl.hid (HE3.out.trans hE4)
  clear hown4 hE4 HR3 HE3 HDg
  by_cases hm : 1 ≤ m ∧ m ≤ (L : Int)
  · obtain ⟨hm1, hm2⟩ := hm
    obtain ⟨q, rfl⟩ := Int.eq_ofNat_of_zero_le (a := m) (by omega)
    have hq1 : 1 ≤ q := by omega
    have hq2 : q ≤ L := by omega
    have HPr := Bl.hid (gprove_any _ ds q w4 HR4.out Hdig.out hq1 (by rw [Hln.out]; exact hq2) (by rw [Hln.out]; omega) (Hg.out.ext HE4.out).s)
    have hpl := Bl.proveD_len ds q true hq1 (by rw [Hln.out]; exact hq2) (by rw [Hln.out]; omega)
    rw [Hln.out] at hpl
    have hpd := Bl.proveD_dig ds.length q 0 true hq1 (by rw [Hln.out]; exact hq2) (by rw [Hln.out]; omega) ds rfl Hdig.out
    have hck := Bl.chkG_prove ds q hq1 (by rw [Hln.out]; exact hq2) (by rw [Hln.out]; omega)
    rw [Hln.out] at hck
    have hci := Bl.cntI_yes (m := q) (n := L) hq1 hq2 (by omega)
    have hcl := Bl.cntG_le q L true hq1 hq2 (by omega)
    have HRp : Hid (∀ w2 v, Bl.RdD w2 v ds → GlobR w2 → Calls Tryd.prog 29 #[v, .int .i64 q, .bool true] w2 fun e w' => ∃ v', e = .returned v' ∧ Bl.OwnD w' v' w2.heap.size 40 (Bl.proveD ds q true) ∧ Bl.Ext w2 w') := Bl.hid fun w2 v h2 h3 => refgprove_nat L ds q true v w2 Hln.out (by omega) hq1 hq2 Hdig.out h2 h3
    obtain ⟨PD, hPD⟩ : ∃ PD, PD = Bl.proveD ds q true := ⟨_, rfl⟩
    rw [← hPD] at HPr hpl hpd hck HRp
    obtain ⟨C, hC⟩ : ∃ C, C = Bl.cntG q L true := ⟨_, rfl⟩
    rw [← hC] at hpl hci hcl
    have Hpl := Bl.hid hpl
    have Hpd := Bl.hid hpd
    have Hck := Bl.hid hck
    have HCn := Bl.hid (fun w2 => gcount_any q L w2)
    rw [hci] at HCn
    have k1 : ¬ ((q : Int) < 1) := by omega
    have k2 : ¬ ((L : Int) < (q : Int)) := by omega
    clear hpl hpd hck hci hPD hC
    go_wp2_with fail
    refine HPr.out.mono ?_
    rintro e w5 ⟨v5, rfl, hR5, hE5⟩
    obtain ⟨p5, c5, hf5, hn5, hcc5⟩ := hR5.form
    subst hf5
    rw [Hpl.out] at hR5 ⊢
    have HR5 : Hid (Bl.RdD w5 (.slice p5 C c5) PD) := Bl.hid hR5
    have HL5 := Bl.hid (Bl.Rds.ext HL4.out hE5)
    have HE5 := Bl.hid (HE4.out.trans hE5)
    have hb0 : 0 < ds.length := by rw [Hln.out]; omega
    obtain ⟨b, o, cc, hpe, hp1, hp2, hbl, hrg⟩ := Bl.RdD.pos (by have h := HL5.out; rw [← Hln.out] at h; exact h) Hdig.out hb0
    injection hpe with hpe1 hpe2 hpe3
    subst hpe1
    have HTk := Bl.hid (Bl.RdD.take (by have h := HL5.out; rw [← Hln.out] at h; exact h) Hdig.out q (by rw [Hln.out]; exact hq2))
    have HOa := Bl.hid (refover_any q (ds.take q) _ w5 (by rw [List.length_take, Hln.out]; omega) (by omega) (Hdig.out.take q) HTk.out (Hg.out.ext HE5.out))
    have HOb : Hid (∀ w6, Bl.Ext w5 w6 → Calls Tryd.prog 20 #[.slice (some ⟨b, o, none⟩) L c3] w6 fun e w' => e = .returned (.agg (Bl.ints .u8 (Bl.overD ds)).toArray) ∧ Bl.Ext w6 w') := Bl.hid fun w6 h6 => refover_any L ds _ w6 Hln.out (by omega) Hdig.out (Bl.Rds.ext HL5.out h6) (Hg.out.ext (HE5.out.trans h6))
    have hxd := Bl.overD_dig _ (ds.take q) rfl (Hdig.out.take q) (by rw [List.length_take, Hln.out]; omega)
    have hyd := Bl.overD_dig _ ds rfl Hdig.out (by rw [Hln.out]; omega)
    obtain ⟨x, hx⟩ : ∃ x, x = Bl.overD (ds.take q) := ⟨_, rfl⟩
    obtain ⟨y, hy⟩ : ∃ y, y = Bl.overD ds := ⟨_, rfl⟩
    rw [← hx] at HOa hxd Hck
    rw [← hy] at HOb hyd Hck
    have Hxd := Bl.hid hxd
    have Hyd := Bl.hid hyd
    have Hxl : Hid (x.length = 32) := Bl.hid hxd.1
    have Hyl : Hid (y.length = 32) := Bl.hid hyd.1
    have hz0 : (0 : Int) ≤ (q : Int) := by omega
    have hz1 : (q : Int) ≤ (L : Int) := by omega
    have hz2 : (q : Int) ≤ (c3 : Int) := by omega
    clear hR5 hE5 hpe2 hpe3 hp1 hp2 hbl hrg hx hy hxd hyd hb0 HPr
    go_wp2_with fail
    refine HOa.out.mono ?_
    rintro e w6 ⟨rfl, hE6⟩
    have HE6 := Bl.hid hE6
    clear hE6
    go_wp2_with fail
    refine (HOb.out w6 HE6.out).mono ?_
    rintro e w7 ⟨rfl, hE7⟩
    have HE7 := Bl.hid (HE6.out.trans hE7)
    clear hE7
    have HDn8 := Bl.hid (Bl.Duo.new w7 40 #[.int .u8 0, .int .u8 0, .int .u8 0, .int .u8 0, .int .u8 0, .int .u8 0, .int .u8 0, .int .u8 0, .int .u8 0, .int .u8 0, .int .u8 0, .int .u8 0, .int .u8 0, .int .u8 0, .int .u8 0, .int .u8 0, .int .u8 0, .int .u8 0, .int .u8 0, .int .u8 0, .int .u8 0, .int .u8 0, .int .u8 0, .int .u8 0, .int .u8 0, .int .u8 0, .int .u8 0, .int .u8 0, .int .u8 0, .int .u8 0, .int .u8 0, .int .u8 0] rfl)
    have HDm8 := Bl.hid (HDn8.out.setA (x' := x) Hxl.out)
    have HDu8 := Bl.hid (HDm8.out.setB (y' := y) Hyl.out)
    have Hsa8 := Bl.hid (HDn8.out.a.store (P := Tryd.prog) (ty := 40) (d' := x) Hxl.out (by kernel_rfl))
    have Hsb8 := Bl.hid (HDm8.out.b.store (P := Tryd.prog) (ty := 40) (d' := y) Hyl.out (by kernel_rfl))
    have HEu8 : Hid (Bl.Ext w7 ((((w7.alloc (.cells #[.int .u8 0, .int .u8 0, .int .u8 0, .int .u8 0, .int .u8 0, .int .u8 0, .int .u8 0, .int .u8 0, .int .u8 0, .int .u8 0, .int .u8 0, .int .u8 0, .int .u8 0, .int .u8 0, .int .u8 0, .int .u8 0, .int .u8 0, .int .u8 0, .int .u8 0, .int .u8 0, .int .u8 0, .int .u8 0, .int .u8 0, .int .u8 0, .int .u8 0, .int .u8 0, .int .u8 0, .int .u8 0, .int .u8 0, .int .u8 0, .int .u8 0, .int .u8 0] 40)).alloc (.cells #[.int .u8 0, .int .u8 0, .int .u8 0, .int .u8 0, .int .u8 0, .int .u8 0, .int .u8 0, .int .u8 0, .int .u8 0, .int .u8 0, .int .u8 0, .int .u8 0, .int .u8 0, .int .u8 0, .int .u8 0, .int .u8 0, .int .u8 0, .int .u8 0, .int .u8 0, .int .u8 0, .int .u8 0, .int .u8 0, .int .u8 0, .int .u8 0, .int .u8 0, .int .u8 0, .int .u8 0, .int .u8 0, .int .u8 0, .int .u8 0, .int .u8 0, .int .u8 0] 40)).setCells w7.heap.size 0 (Bl.ints .u8 x)).setCells (w7.heap.size + 1) 0 (Bl.ints .u8 y))) := Bl.hid (Bl.below_setCells _ _ _ _ (Bl.below_setCells _ _ _ _ ((Bl.ext_alloc _ _).trans (Bl.ext_alloc _ _)) (Nat.le_refl _)) (Nat.le_succ _))
    go_wp2_with (with_reducible refine Bl.stop_store (ty := 40) ?_)
    refine Bl.go_on ?_
    refine Bl.wpL_store0 rfl rfl Hsa8.out ?_
    go_wp2_with (with_reducible refine Bl.stop_store (ty := 40) ?_)
    refine Bl.go_on ?_
    refine Bl.wpL_store0 rfl rfl Hsb8.out ?_
    obtain ⟨W8, hW8⟩ : ∃ W', W' = (((w7.alloc (.cells #[.int .u8 0, .int .u8 0, .int .u8 0, .int .u8 0, .int .u8 0, .int .u8 0, .int .u8 0, .int .u8 0, .int .u8 0, .int .u8 0, .int .u8 0, .int .u8 0, .int .u8 0, .int .u8 0, .int .u8 0, .int .u8 0, .int .u8 0, .int .u8 0, .int .u8 0, .int .u8 0, .int .u8 0, .int .u8 0, .int .u8 0, .int .u8 0, .int .u8 0, .int .u8 0, .int .u8 0, .int .u8 0, .int .u8 0, .int .u8 0, .int .u8 0, .int .u8 0] 40)).alloc (.cells #[.int .u8 0, .int .u8 0, .int .u8 0, .int .u8 0, .int .u8 0, .int .u8 0, .int .u8 0, .int .u8 0, .int .u8 0, .int .u8 0, .int .u8 0, .int .u8 0, .int .u8 0, .int .u8 0, .int .u8 0, .int .u8 0, .int .u8 0, .int .u8 0, .int .u8 0, .int .u8 0, .int .u8 0, .int .u8 0, .int .u8 0, .int .u8 0, .int .u8 0, .int .u8 0, .int .u8 0, .int .u8 0, .int .u8 0, .int .u8 0, .int .u8 0, .int .u8 0] 40)).setCells w7.heap.size 0 (Bl.ints .u8 x)).setCells (w7.heap.size + 1) 0 (Bl.ints .u8 y) := ⟨_, rfl⟩
    obtain ⟨Y8, hY8⟩ : ∃ Y', Y' = w7.heap.size + 1 := ⟨_, rfl⟩
    obtain ⟨X8, hX8⟩ : ∃ X', X' = w7.heap.size := ⟨_, rfl⟩
    rw [← hW8] at HDu8 HEu8 ⊢
    rw [← hY8] at HDu8 ⊢
    rw [← hX8] at HDu8 ⊢
    have HX8 := Bl.hid hX8
    have HY8 := Bl.hid hY8
    clear hW8 hY8 hX8 HDn8 HDm8 Hsa8 Hsb8
    have HE58 := Bl.hid (HE7.out.trans HEu8.out)
    have HE8 := Bl.hid (HE5.out.trans HE58.out)
    have HL8 := Bl.hid (Bl.Rds.ext HL5.out HE58.out)
    have HR8 := Bl.hid (Bl.Rds.ext HR5.out HE58.out)
    go_wp2_with fail
    refine (HRp.out W8 _ HL8.out (Hg.out.ext HE8.out)).mono ?_
    rintro e w9 ⟨v9, rfl, hO9, hE9⟩
    have HR9 := Bl.hid hO9.rd
    have HP9 := Bl.hid (Bl.Rds.ext HR8.out hE9)
    have HE89 := Bl.hid hE9
    have HE9 := Bl.hid (HE8.out.trans hE9)
    clear hO9 hE9
    go_wp2_with fail
    refine (same14_any _ _ PD PD w9 (by have h := HP9.out; exact h) HR9.out Hpd.out Hpd.out).mono ?_
    rintro e w10 ⟨rfl, hE10⟩
    rw [decide_eq_true rfl]
    have HE810 := Bl.hid (HE89.out.trans hE10)
    have HE10 := Bl.hid (HE9.out.trans hE10)
    have HP10 := Bl.hid (Bl.Rds.ext HP9.out hE10)
    clear hE10
    go_wp2_with fail
    refine (HCn.out w10).mono ?_
    rintro e w11 ⟨rfl, hE11⟩
    have HE811 := Bl.hid (HE810.out.trans hE11)
    have HE11 := Bl.hid (HE10.out.trans hE11)
    have HP11 := Bl.hid (Bl.Rds.ext HP10.out hE11)
    have HD11 := Bl.hid (HDu8.out.ext HE811.out)
    have HCk := Bl.hid (gcheck_any q L x y (.slice p5 C c5) PD w11 S a (He.out.ext HE11.out) (HS.out 1 (by decide) (by decide)) (HS.out 8 (by decide) (by decide)) (HS.out 15 (by decide) (by decide)) Hxd.out.1 Hxd.out.2 Hyl.out HP11.out Hpd.out (Hg.out.ext HE11.out).s)
    rw [Hck.out, errN_zero] at HCk
    clear hE11
    go_wp2_with (with_reducible refine Bl.stop_loadg (ty := 40) ?_)
    refine Bl.go_on ?_
    refine Bl.wpL_loadg rfl rfl (HD11.out.a.load Tryd.underlying40 (by kernel_rfl)) ?_
    go_wp2_with (with_reducible refine Bl.stop_loadg (ty := 40) ?_)
    refine Bl.go_on ?_
    refine Bl.wpL_loadg rfl rfl (HD11.out.b.load Tryd.underlying40 (by kernel_rfl)) ?_
    go_wp2_with fail
    refine HCk.out.mono ?_
    rintro e w12 ⟨rfl, hE12⟩
    have HE12 := Bl.hid (HE11.out.trans hE12)
    clear hE12
    go_wp2_with fail
    go_ret
    exact ⟨rfl, HE12.out⟩
  · have HPr := Bl.hid (gprove_no (.slice p4 L c4) ds m w4 S a HR4.out (He.out.ext HE4.out) (HS.out 1 (by decide) (by decide)) (fun h => hm ⟨h.1, by rw [Hln.out] at h; exact h.2.1⟩))
    have HNm : Hid (∀ w2, Bl.Ext w w2 → Calls Tryd.prog 22 #[.iface 137 (.pointer (some (a 1)))] w2 fun e w' => e = .returned (.int .i64 1) ∧ Bl.Ext w2 w') := Bl.hid fun w2 h2 => num_any S a w2 1 HS.out (He.out.ext h2) (by decide) (by decide)
    go_wp2_with fail
    refine HPr.out.mono ?_
    rintro e w5 ⟨rfl, hE5⟩
    have HE5 := Bl.hid (HE4.out.trans hE5)
    clear hE5
    by_cases hm1 : m < 1
    · clear hm
      go_wp2_with fail
      refine (HNm.out w5 HE5.out).mono ?_
      rintro e w6 ⟨rfl, hE6⟩
      have HE6 := Bl.hid (HE5.out.trans hE6)
      clear hE6
      go_wp2_with fail
      go_ret
      exact ⟨rfl, HE6.out⟩
    · have hm2 : (L : Int) < m := by omega
      clear hm
      go_wp2_with fail
      refine (HNm.out w5 HE5.out).mono ?_
      rintro e w6 ⟨rfl, hE6⟩
      have HE6 := Bl.hid (HE5.out.trans hE6)
      clear hE6
      go_wp2_with fail
      go_ret
      exact ⟨rfl, HE6.out⟩
end Go.Proofs.YtkoddcjkhcnifaaDoor

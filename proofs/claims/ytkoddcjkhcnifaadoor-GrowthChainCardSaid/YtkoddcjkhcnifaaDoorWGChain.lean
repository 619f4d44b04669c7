/- Walk of the law GrowthChain. -/
import Derived.Test.YtkoddcjkhcnifaaDoorWGroD
import Derived.Test.YtkoddcjkhcnifaaDoorWGroB
import Derived.Test.YtkoddcjkhcnifaaDoorWGro8
import Derived.Test.YtkoddcjkhcnifaaDoorWGro9
import Derived.Test.YtkoddcjkhcnifaaDoorWRoots
import Derived.Test.YtkoddcjkhcnifaaDoorGroR
namespace Go.Proofs.YtkoddcjkhcnifaaDoor
open Go.RowKit Go.Proofs

set_option maxRecDepth 100000 in
set_option maxHeartbeats 4000000 in
theorem gchain_all (v : Value) (ps : List (List Int)) (m k : Int) (w : World) (S : List Nat) (a : Nat → Addr) (hR : Bl.Rdss w v ps) (hby : ∀ p ∈ ps, Bl.Byt p) (hg : GlobR w) (he : Errs S a w) (s1 : 1 ∈ S) (s8 : 8 ∈ S) (s15 : 15 ∈ S) :
    Calls Tryd.prog 8 #[v, .int .i64 m, .int .i64 k] w fun e w' => e = .returned (.bool true) ∧ Bl.Ext w w' := by
  have HLg : Hid (∀ w2, Bl.Ext w w2 → Calls Tryd.prog 10 #[v, .int .i64 40] w2 fun e w' => w' = w2 ∧ (e = .returned (.bool true) ∨ (e = .returned (.bool false) ∧ (ps.length : Int) ≤ 40 ∧ ∀ p ∈ ps, p.length ≤ 200))) := Bl.hid fun w2 h2 => long_any v ps w2 40 (hR.ext h2)
  have HR := Bl.hid hR
  obtain ⟨ws, hv, hwl, hws⟩ := hR
  obtain ⟨p, c, hvf, hvn, hvc⟩ := hv.form
  subst hvf
  unfold maxLen at hvc
  have Hv := Bl.hid hv
  have Hwl := Bl.hid hwl
  have Hws := Bl.hid hws
  have Hby := Bl.hid hby
  have Hg := Bl.hid hg
  have He := Bl.hid he
  obtain ⟨L, hL⟩ : ∃ L, L = ps.length := ⟨_, rfl⟩
  have HL := Bl.hid hL
  have hdg := Bl.dig_leaves ps
  have hln : (ps.map Bl.lfD).length = ps.length := List.length_map _
  have HGe : Hid (∀ k, k < ps.length → (ps.map Bl.lfD).getD k [] = Bl.lfD (ps.getD k [])) := Bl.hid fun k hk => by
    rw [List.getD_eq_getElem?_getD, List.getElem?_map, List.getD_eq_getElem?_getD, List.getElem?_eq_getElem hk]; rfl
  have HMt : Hid (∀ k, (ps.take k).map Bl.lfD = (ps.map Bl.lfD).take k) := Bl.hid fun k => List.map_take
  obtain ⟨ds, hds⟩ : ∃ ds, ds = ps.map Bl.lfD := ⟨_, rfl⟩
  have Hds := Bl.hid hds
  rw [← hds] at hdg hln HGe HMt
  rw [← hL] at hln HGe hvn HLg ⊢
  have Hdg := Bl.hid hdg
  have Hln := Bl.hid hln
  have HcvO : Hid (∀ w, (convert 3 59 (.int .i64 k)).run Tryd.prog w = .ok (.int .u64 (IntKind.u64.wrap k)) w) := Bl.hid fun w => by simp [go_sem]
  have HcvU : Hid (∀ w, (convert 3 59 (.int .i64 m)).run Tryd.prog w = .ok (.int .u64 (IntKind.u64.wrap m)) w) := Bl.hid fun w => by simp [go_sem]
  have HOp := Bl.hid (Bl.u64_mod k)
  have HUp := Bl.hid (Bl.u64_mod m)
  have HOr := Bl.hid (Bl.u64_in k)
  have HUr := Bl.hid (Bl.u64_in m)
  obtain ⟨O, hO⟩ : ∃ O, O = IntKind.u64.wrap k := ⟨_, rfl⟩
  obtain ⟨U, hU⟩ : ∃ U, U = IntKind.u64.wrap m := ⟨_, rfl⟩
  rw [← hO] at HcvO HOp HOr
  rw [← hU] at HcvU HUp HUr
  clear hv hwl hws hby hg hL hdg hln hds he hO hU
  go_enter Tryd.func8, Tryd.ntmps8
  go_wp2_with fail
  refine (alive14 w Hg.out).mono ?_
  rintro e w1 ⟨rfl, hE1⟩
  have HE1 := Bl.hid hE1
  clear hE1
  go_wp2_with fail
  refine (HLg.out w1 HE1.out).mono ?_
  rintro e w2 ⟨hw2, (rfl | ⟨rfl, h40, h200⟩)⟩
  · subst hw2
    go_wp2_with fail
    go_ret
    exact ⟨rfl, HE1.out⟩
  subst hw2
  have hL40 : L ≤ 40 := by omega
  have H200 := Bl.hid h200
  clear h200 h40 HLg
  by_cases hL0 : L = 0
  · subst hL0
    clear hL40
    go_wp2_with fail
    go_ret
    exact ⟨rfl, HE1.out⟩
  have hLp : 0 < L := by omega
  obtain ⟨b, o, hpe, hbl, _⟩ := Bl.Rdss.cell' (by have h := Hv.out; exact h) Hwl.out 0 (by rw [← HL.out]; exact hLp)
  subst hpe
  obtain ⟨j, hjL, hjO⟩ := HOp.out L hLp
  obtain ⟨K, hKe⟩ : ∃ K : Nat, K = 1 + j := ⟨_, rfl⟩
  obtain ⟨i, hiK, hiU⟩ := HUp.out K (by omega)
  obtain ⟨M, hMe⟩ : ∃ M : Nat, M = 1 + i := ⟨_, rfl⟩
  have hK1 : 1 ≤ K := by omega
  have hKL : K ≤ L := by omega
  have hM1 : 1 ≤ M := by omega
  have hMK : M ≤ K := by omega
  have HLe : Hid (∀ w2, Bl.Ext w w2 → Calls Tryd.prog 30 #[.slice (some ⟨b, o, none⟩) L c] w2 fun e w' => ∃ p c, e = .returned (.slice p L c) ∧ Bl.RdD w' (.slice p L c) ds ∧ Bl.Ext w2 w') := Bl.hid fun w2 h2 => by
    refine (leaves_any _ ps w2 (by rw [HL.out]; exact HR.out.ext h2) (Hg.out.ext h2).s Hby.out (fun q hq => by have := H200.out q hq; omega) (by rw [← HL.out]; omega)).mono fun e w' ⟨p', c', g1, g2, g3⟩ => ⟨p', c', by rw [HL.out]; exact g1, ?_, g3⟩
    have g4 := Bl.Rds.of_owns g2
    rw [← Hds.out, ← HL.out] at g4
    show Bl.Rds w' _ ds.length _
    rw [Hln.out]
    exact g4
  have HRt : Hid (∀ q, q ≤ L → ∀ w2, Bl.Ext w w2 → Calls Tryd.prog 31 #[.slice (some ⟨b, o, none⟩) q c] w2 fun e w' => e = .returned (.agg (Bl.ints .u8 (Bl.overD (ds.take q))).toArray) ∧ Bl.Ext w2 w') := Bl.hid fun q hq w2 h2 => by
    have h := root_any (.slice (some ⟨b, o, none⟩) q c) (ps.take q) w2 (Bl.Rdss.take (HR.out.ext h2) q (by rw [← HL.out]; exact hq)) (Hg.out.ext h2).s (fun x hx => Hby.out x (List.mem_of_mem_take hx)) (fun x hx => by have := H200.out x (List.mem_of_mem_take hx); omega) (by rw [List.length_take]; omega)
    have hr : Bl.rootD (ps.take q) = Bl.overD (ds.take q) := by rw [← HMt.out q]; rfl
    rw [hr] at h; exact h
  have hjr0 : (0 : Int) ≤ (j : Int) := by omega
  have hjr1 : (j : Int) < (L : Int) := by omega
  have hir0 : (0 : Int) ≤ (i : Int) := by omega
  have hir1 : (i : Int) < (K : Int) := by omega
  have Hsj := Bl.hid (IntWalk.wrap64_in (j : Int) ⟨by omega, by omega⟩)
  have Hsi := Bl.hid (IntWalk.wrap64_in (i : Int) ⟨by omega, by omega⟩)
  have Hsw1 : Hid (wrap64 (1 + (j : Int)) = (K : Int)) := Bl.hid ((IntWalk.wrap64_in (1 + (j : Int)) ⟨by omega, by omega⟩).trans (by omega))
  have HKi : Hid ((1 : Int) + (j : Int) = (K : Int)) := Bl.hid (by omega)
  have Hsw2 : Hid (wrap64 (1 + (i : Int)) = (M : Int)) := Bl.hid ((IntWalk.wrap64_in (1 + (i : Int)) ⟨by omega, by omega⟩).trans (by omega))
  have HuK : Hid (IntKind.u64.wrap (K : Int) = (K : Int)) := Bl.hid (by
    show (K : Int) % 18446744073709551616 = (K : Int)
    omega)
  have hnz : ¬ (IntKind.u64.wrap (wrap64 (1 + wrap64 (j : Int))) = 0) := by
    rw [Hsj.out, Hsw1.out, HuK.out]; omega
  have HiU := Bl.hid hiU
  clear hiU
  obtain ⟨hO0, hO1⟩ := HOr.out
  obtain ⟨hU0, hU1⟩ := HUr.out
  have hcvO := HcvO.out
  have hcvU := HcvU.out
  clear hKe hMe HOp HUp HOr HUr HcvO HcvU
  go_wp2_with fail
  simp only [HKi.out, HiU.out, Hsi.out, Hsw2.out]
  clear hnz hcvO hcvU hjO hO0 hO1 hU0 hU1 HKi Hsj Hsi Hsw1 Hsw2 HuK HiU hjr0 hjr1 hir0 hir1
  refine (HLe.out w2 HE1.out).mono ?_
  rintro e w3 ⟨p3, c3, rfl, hR3, hE3⟩
  have HR3 := Bl.hid hR3
  have HE3 := Bl.hid (HE1.out.trans hE3)
  obtain ⟨b3, o3, cc, hpe3, hlc3, hcm3, hbl3, _⟩ := Bl.RdD.pos (by have h := HR3.out; rw [← Hln.out] at h; exact h) Hdg.out (by rw [Hln.out]; exact hLp)
  injection hpe3 with hp1 hp2 hp3
  clear hp2
  subst hp1 hp3
  unfold maxLen at hcm3
  rw [Hln.out] at hlc3
  clear hR3 hE3
  have HX : Hid ((Bl.overD (ds.take M)).length = 32 ∧ Bl.Byt (Bl.overD (ds.take M))) := Bl.hid (Bl.overD_dig _ (ds.take M) rfl (Hdg.out.take M) (by rw [List.length_take, Hln.out]; omega))
  have HY : Hid ((Bl.overD (ds.take K)).length = 32 ∧ Bl.Byt (Bl.overD (ds.take K))) := Bl.hid (Bl.overD_dig _ (ds.take K) rfl (Hdg.out.take K) (by rw [List.length_take, Hln.out]; omega))
  have HZ : Hid ((Bl.overD (ds.take L)).length = 32 ∧ Bl.Byt (Bl.overD (ds.take L))) := Bl.hid (Bl.overD_dig _ (ds.take L) rfl (Hdg.out.take L) (by rw [List.length_take, Hln.out]; omega))
  have HRx := Bl.hid (HRt.out M (by omega))
  have HRy := Bl.hid (HRt.out K (by omega))
  have HRz := Bl.hid (HRt.out L (by omega))
  have hck1 := Bl.chkG_prove (ds.take K) M hM1 (by rw [List.length_take, Hln.out]; omega) (by rw [List.length_take, Hln.out]; omega)
  have hck2 := Bl.chkG_prove ds K hK1 (by rw [Hln.out]; exact hKL) (by rw [Hln.out]; omega)
  have hck3 := Bl.chkG_prove ds M hM1 (by rw [Hln.out]; omega) (by rw [Hln.out]; omega)
  have hdL : ds.take L = ds := List.take_of_length_le (by rw [Hln.out]; omega)
  rw [show (ds.take K).length = K by rw [List.length_take, Hln.out]; omega, List.take_take, Nat.min_eq_left hMK] at hck1
  rw [Hln.out] at hck2 hck3
  have Hpr1 : Hid (∀ w2, Bl.Ext w3 w2 → Calls Tryd.prog 28 #[.slice (some ⟨b3, o3, none⟩) K c3, .int .i64 M] w2 fun e w' => ∃ v', e = .returned (.tuple #[v', .nilIface]) ∧ Bl.RdD w' v' (Bl.proveD (ds.take K) M true) ∧ Bl.Ext w2 w') := Bl.hid fun w2 h2 =>
    gprove_any (.slice (some ⟨b3, o3, none⟩) K c3) (ds.take K) M w2 (Bl.RdD.take (by have h := Bl.Rds.ext HR3.out h2; rw [← Hln.out] at h; exact h) Hdg.out K (by rw [Hln.out]; exact hKL)) (Hdg.out.take K) hM1 (by rw [List.length_take, Hln.out]; omega) (by rw [List.length_take, Hln.out]; omega) ((Hg.out.ext HE3.out).ext h2).s
  have Hpr : Hid (∀ q : Nat, 1 ≤ q → q ≤ L → ∀ w2, Bl.Ext w3 w2 → Calls Tryd.prog 28 #[.slice (some ⟨b3, o3, none⟩) L c3, .int .i64 q] w2 fun e w' => ∃ v', e = .returned (.tuple #[v', .nilIface]) ∧ Bl.RdD w' v' (Bl.proveD ds q true) ∧ Bl.Ext w2 w') := Bl.hid fun q h1 h3 w2 h2 =>
    gprove_any (.slice (some ⟨b3, o3, none⟩) L c3) ds q w2 (Bl.Rds.ext HR3.out h2) Hdg.out h1 (by rw [Hln.out]; exact h3) (by rw [Hln.out]; omega) ((Hg.out.ext HE3.out).ext h2).s
  have Hpr2 := Bl.hid (Hpr.out K hK1 hKL)
  have Hpr3 := Bl.hid (Hpr.out M hM1 (by omega))
  have Hpd1 : Hid (Bl.Dig (Bl.proveD (ds.take K) M true)) := Bl.hid (Bl.proveD_dig (ds.take K).length M 0 true hM1 (by rw [List.length_take, Hln.out]; omega) (by rw [List.length_take, Hln.out]; omega) _ rfl (Hdg.out.take K))
  have Hpd2 : Hid (Bl.Dig (Bl.proveD ds K true)) := Bl.hid (Bl.proveD_dig ds.length K 0 true hK1 (by rw [Hln.out]; omega) (by rw [Hln.out]; omega) _ rfl Hdg.out)
  have Hpd3 : Hid (Bl.Dig (Bl.proveD ds M true)) := Bl.hid (Bl.proveD_dig ds.length M 0 true hM1 (by rw [Hln.out]; omega) (by rw [Hln.out]; omega) _ rfl Hdg.out)
  have hovK : Bl.foldp Bl.ndD Bl.zD (Bl.peaksD (ds.take K)) = Bl.overD (ds.take K) := Bl.peaksD_over (ds.take K) (by rw [List.length_take, Hln.out]; omega)
  have Hov := Bl.hid hovK
  rw [hdL] at HZ HRz
  obtain ⟨x, hx⟩ : ∃ x, x = Bl.overD (ds.take M) := ⟨_, rfl⟩
  obtain ⟨y, hy⟩ : ∃ y, y = Bl.overD (ds.take K) := ⟨_, rfl⟩
  obtain ⟨z, hz⟩ : ∃ z, z = Bl.overD ds := ⟨_, rfl⟩
  obtain ⟨P1, hP1⟩ : ∃ P1, P1 = Bl.proveD (ds.take K) M true := ⟨_, rfl⟩
  obtain ⟨P2, hP2⟩ : ∃ P2, P2 = Bl.proveD ds K true := ⟨_, rfl⟩
  obtain ⟨P3, hP3⟩ : ∃ P3, P3 = Bl.proveD ds M true := ⟨_, rfl⟩
  rw [← hx, ← hy, ← hP1] at hck1
  rw [← hy, ← hz, ← hP2] at hck2
  rw [← hx, ← hz, ← hP3] at hck3
  rw [← hx] at HX HRx
  rw [← hy] at HY HRy Hov
  rw [← hz] at HZ HRz
  rw [← hP1] at Hpr1 Hpd1
  rw [← hP2] at Hpr2 Hpd2
  rw [← hP3] at Hpr3 Hpd3
  have HC1 : Hid (∀ w2 v, Bl.Ext w w2 → Bl.RdD w2 v P1 → Calls Tryd.prog 23 #[.int .i64 M, .agg (Bl.ints .u8 x).toArray, .int .i64 K, .agg (Bl.ints .u8 y).toArray, v] w2 fun e w' => e = .returned .nilIface ∧ Bl.Ext w2 w') := Bl.hid fun w2 v h2 h3 => by
    have h := gcheck_any M K x y v P1 w2 S a (He.out.ext h2) s1 s8 s15 HX.out.1 HX.out.2 HY.out.1 h3 Hpd1.out (Hg.out.ext h2).s
    rw [hck1, errN_zero] at h; exact h
  have HC2 : Hid (∀ w2 v, Bl.Ext w w2 → Bl.RdD w2 v P2 → Calls Tryd.prog 23 #[.int .i64 K, .agg (Bl.ints .u8 y).toArray, .int .i64 L, .agg (Bl.ints .u8 z).toArray, v] w2 fun e w' => e = .returned .nilIface ∧ Bl.Ext w2 w') := Bl.hid fun w2 v h2 h3 => by
    have h := gcheck_any K L y z v P2 w2 S a (He.out.ext h2) s1 s8 s15 HY.out.1 HY.out.2 HZ.out.1 h3 Hpd2.out (Hg.out.ext h2).s
    rw [hck2, errN_zero] at h; exact h
  have HC3 : Hid (∀ w2 v, Bl.Ext w w2 → Bl.RdD w2 v P3 → Calls Tryd.prog 23 #[.int .i64 M, .agg (Bl.ints .u8 x).toArray, .int .i64 L, .agg (Bl.ints .u8 z).toArray, v] w2 fun e w' => e = .returned .nilIface ∧ Bl.Ext w2 w') := Bl.hid fun w2 v h2 h3 => by
    have h := gcheck_any M L x z v P3 w2 S a (He.out.ext h2) s1 s8 s15 HX.out.1 HX.out.2 HZ.out.1 h3 Hpd3.out (Hg.out.ext h2).s
    rw [hck3, errN_zero] at h; exact h
  have hML : M ≤ L := by omega
  clear hck1 hck2 hck3 hovK hdL hx hy hz hP1 hP2 hP3 Hpr HRt
  have hM0 : (0 : Int) ≤ (M : Int) := by omega
  have hK0 : (0 : Int) ≤ (K : Int) := by omega
  have hMc : (M : Int) ≤ (c : Int) := by omega
  have hKc : (K : Int) ≤ (c : Int) := by omega
  have hKc3 : (K : Int) ≤ (c3 : Int) := by omega
  go_wp2_with fail
  apply Bl.wp_region_evK (fun a a' => Below w3.heap.size a a') (Bl.JAl [(10, 9), (11, 10), (12, 11)] w3.heap.size) 13 [52, 53, 54, 55, 56, 57, 58, 59, 60, 61, 9, 10, 11] [Bl.eqv _, Bl.eqv _, Bl.eqv _, Bl.eqv _, Bl.eqv _, Bl.eqv _, Bl.eqv _, Bl.eqv _, Bl.eqv _, Bl.eqv _, Bl.anyv, Bl.anyv, Bl.anyv] (fun w => Below.refl _ w) (fun a b c h k => Below.trans h k) (by kernel_rfl) (by kernel_rfl) (by kernel_rfl) (by kernel_rfl)
  case hsteps =>
    refine ⟨?_, ?_, ?_, ?_, ?_, ?_, ?_, ?_, ?_, ?_, ?_, ?_, ?_, trivial⟩
    all_goals
      intro d ev w1 hext HJd Hanc Hdes hni hb hd
      replace Hanc := Bl.hid Hanc
      replace HJd := Bl.hid HJd
      replace Hdes := Bl.hid Hdes
      replace hni := Bl.hid hni
      have e0 := hb 0 (by decide)
      have e1 := hb 1 (by decide)
      have e2 := hb 2 (by decide)
      clear hb
      simp only [Array.getD_eq_getD_getElem?, List.getElem?_toArray, List.getElem?_cons_succ, List.getElem?_cons_zero, Option.getD_some] at e0 e1 e2
      simp only [Bl.DepsE2, List.getElem?_cons_succ, List.getElem?_cons_zero, Option.bind_some, List.getD_cons_succ, List.getD_cons_zero, Bl.eqv, and_true] at hd
      have hc := (Bl.bcell hext).1
      have hxw : Bl.Ext w w1 := Bl.Ext.trans HE3.out hext
      simp only [Region.wanted, if_true]
      go_simp
      first | exact ⟨Below.refl _ _, rfl, HJd.out.same (by decide)⟩ | exact ⟨Bl.below_alloc _ _ HJd.out.le, trivial, HJd.out.make rfl (by decide)⟩ | exact ⟨Bl.below_alloc _ _ HJd.out.le, HJd.out.make rfl (by decide)⟩ | (go_at_call 31; (first | (with_reducible refine (HRx.out _ hxw).mono ?_) | (with_reducible refine (HRy.out _ hxw).mono ?_) | (with_reducible refine (HRz.out _ hxw).mono ?_)); rintro e w2 ⟨rfl, hE2⟩; exact ⟨_, rfl, Below.mono hE2 HJd.out.le, rfl, HJd.out.step hE2 (by decide)⟩) | exact ⟨Below.refl _ _, rfl, Bl.HJ.same (by decide) HJd.out⟩
  case hmono => exact ⟨Bl.monoR_eqv _, Bl.monoR_eqv _, Bl.monoR_eqv _, Bl.monoR_eqv _, Bl.monoR_eqv _, Bl.monoR_eqv _, Bl.monoR_eqv _, Bl.monoR_eqv _, Bl.monoR_eqv _, Bl.monoR_eqv _, Bl.monoR_anyv, Bl.monoR_anyv, Bl.monoR_anyv, trivial⟩
  case hR0 => exact (Below.refl _ _).drew
  case hend =>
    intro u w1 hext hJ hend
    simp only [Bl.EndE, List.getElem?_cons_succ, List.getElem?_cons_zero, Option.bind_some, List.getD_cons_succ, List.getD_cons_zero, Bl.eqv, true_and] at hend
    simp only [Bl.fillAct, List.setIfInBounds_toArray, List.set_cons_succ, List.set_cons_zero, List.drop_succ_cons, List.drop_zero, hend]
    obtain ⟨A, B, C, hA, hB, hC, hAl, hBl, hCl, hT⟩ := hJ.three rfl rfl rfl (by decide)
    rw [hA, hB, hC]
    have hT1 := hT.setA (x' := x) HX.out.1
    have hT2 := hT1.setB (y' := y) HY.out.1
    have Hst1 := Bl.hid (hT.a.store (P := Tryd.prog) (ty := 41) (d' := x) HX.out.1 (by kernel_rfl))
    have Hst2 := Bl.hid (hT1.b.store (P := Tryd.prog) (ty := 41) (d' := y) HY.out.1 (by kernel_rfl))
    have Hst3 := Bl.hid (hT2.c.store (P := Tryd.prog) (ty := 41) (d' := z) HZ.out.1 (by kernel_rfl))
    have HT := Bl.hid (hT2.setC (z' := z) HZ.out.1)
    have HE4 : Hid (Bl.Ext w3 (((w1.setCells A 0 (Bl.ints .u8 x)).setCells B 0 (Bl.ints .u8 y)).setCells C 0 (Bl.ints .u8 z))) := Bl.hid (Bl.below_setCells _ C 0 _ (Bl.below_setCells _ B 0 _ (Bl.below_setCells _ A 0 w1 hext hAl) hBl) hCl)
    clear hA hB hC hAl hBl hCl hT hT1 hT2 hJ hend hext
    go_wp2_with (with_reducible refine Bl.stop_store (ty := 41) ?_)
    refine Bl.go_on ?_
    refine Bl.wpL_store0 rfl rfl Hst1.out ?_
    go_wp2_with (with_reducible refine Bl.stop_store (ty := 41) ?_)
    refine Bl.go_on ?_
    refine Bl.wpL_store0 rfl rfl Hst2.out ?_
    go_wp2_with (with_reducible refine Bl.stop_store (ty := 41) ?_)
    refine Bl.go_on ?_
    refine Bl.wpL_store0 rfl rfl Hst3.out ?_
    clear Hst1 Hst2 Hst3
    generalize ((w1.setCells A 0 (Bl.ints .u8 x)).setCells B 0 (Bl.ints .u8 y)).setCells C 0 (Bl.ints .u8 z) = W4 at HT HE4 ⊢
    go_wp2_with fail
    refine (Hpr1.out W4 HE4.out).mono ?_
    rintro e w5 ⟨v1, rfl, hr1, hE5⟩
    have Hr1 := Bl.hid hr1
    have HE5 := Bl.hid (HE4.out.trans hE5)
    have HT5 := Bl.hid (HT.out.ext hE5)
    clear hr1 hE5 Hpr1 HT HE4
    go_wp2_with fail
    refine (Hpr2.out w5 HE5.out).mono ?_
    rintro e w6 ⟨v2, rfl, hr2, hE6⟩
    have Hr2 := Bl.hid hr2
    have Hr1 := Bl.hid (Bl.Rds.ext Hr1.out hE6)
    have HT6 := Bl.hid (HT5.out.ext hE6)
    have HE6 := Bl.hid (HE5.out.trans hE6)
    clear hr2 hE6 Hpr2 HT5 HE5
    go_wp2_with fail
    refine (Hpr3.out w6 HE6.out).mono ?_
    rintro e w7 ⟨v3, rfl, hr3, hE7⟩
    have Hr3 := Bl.hid hr3
    have Hr1 := Bl.hid (Bl.Rds.ext Hr1.out hE7)
    have Hr2 := Bl.hid (Bl.Rds.ext Hr2.out hE7)
    have HT7 := Bl.hid (HT6.out.ext hE7)
    have HE7 := Bl.hid (HE6.out.trans hE7)
    clear hr3 hE7 Hpr3 HT6 HE6
    go_wp2_with fail
    refine (gnew_any w7).mono ?_
    rintro e w8 ⟨rfl, hF8, hE8⟩
    have HF8 := Bl.hid hF8
    have HE8 := Bl.hid hE8
    have HE7w := Bl.hid (HE3.out.trans HE7.out)
    obtain ⟨bf, hbf⟩ : ∃ bf, bf = w7.heap.size := ⟨_, rfl⟩
    rw [← hbf] at HF8 ⊢
    have Hbf : Hid (w7.heap.size ≤ bf) := Bl.hid (by omega)
    clear hF8 hE8 hbf HE7
    go_wp2_with fail
    go_loopw [97] (fun i' wr => ∃ (q : Nat) (vf : Value), q ≤ K ∧ i' = .int .i64 q ∧ Hid (Bl.Fr wr bf vf q (Bl.peaksD (ds.take q)) ∧ ∀ j, vf.ownBlock = some j → w7.heap.size ≤ j) ∧ Bl.Ext w7 wr) (fun i' _ => K - (intOf i').toNat)
    case atStart => exact ⟨0, _, Nat.zero_le _, rfl, Bl.hid ⟨by rw [List.take_zero]; exact HF8.out, fun j h => by cases h⟩, HE8.out⟩
    case round =>
      obtain ⟨q, vf, hq, rfl, HFr, hE⟩ := hrel
      have HE := Bl.hid hE
      clear hE
      by_cases hlt : q < K
      · have hqp : q < ps.length := by rw [← HL.out]; omega
        obtain ⟨b', o', hpe, hblq, hcell⟩ := Bl.Rdss.cell' (by have h := Hv.out; exact h) Hwl.out q hqp
        injection hpe with hpe
        injection hpe with hpe1 hpe2
        subst hpe1 hpe2
        have hRq := Hws.out q hqp
        have hmem : ps.getD q [] ∈ ps := by rw [List.getD_eq_getElem?_getD, List.getElem?_eq_getElem hqp]; exact List.getElem_mem hqp
        have hlb := H200.out _ hmem
        have hbb := Hby.out _ hmem
        have hnx := Bl.peaks_next ds q (by rw [Hln.out]; omega) (by rw [Hln.out]; omega)
        rw [HGe.out q (by omega)] at hnx
        obtain ⟨bs, hbs⟩ : ∃ bs, bs = ps.getD q [] := ⟨_, rfl⟩
        rw [← hbs] at hRq hlb hbb hnx
        obtain ⟨pk, ck, hfk, hnk, hck⟩ := hRq.form
        rw [hfk] at hcell hRq
        have HEw := Bl.hid (HE7w.out.trans HE.out)
        have hcr := ((Bl.bcell HEw.out).1 b (o + q) hblq).trans hcell
        have Hnx := Bl.hid hnx
        have htl : (ds.take q).length = q := by rw [List.length_take, Hln.out]; omega
        have htr := Bl.peaksD_trail (ds.take q) (by omega)
        rw [htl] at htr
        have hple := Bl.peaksD_len_le q (ds.take q) htl (by omega)
        obtain ⟨PD, hPD⟩ : ∃ PD, PD = Bl.peaksD (ds.take q) := ⟨_, rfl⟩
        obtain ⟨PN, hPN⟩ : ∃ PN, PN = Bl.peaksD (ds.take (q + 1)) := ⟨_, rfl⟩
        rw [← hPD] at HFr htr hple Hnx
        rw [← hPN] at Hnx
        obtain ⟨hF, hvo⟩ := HFr.out
        have HAd := Bl.hid (gadd_any bf vf (.slice pk bs.length ck) q PD bs w7 wr hF (by omega) htr (by omega) (hRq.ext HEw.out) hbb (by omega) (Hg.out.ext HE7w.out).s HE.out Hbf.out hvo)
        have HPN := Bl.hid hPN
        have Hvo := Bl.hid hvo
        have hq0 : (0 : Int) ≤ (q : Int) := by omega
        have hq1 : (q : Int) < (K : Int) := by omega
        clear hF hvo hnx htl hPD hPN hbs hfk hRq hbb hlb hmem HFr hcell hnk hck htr hple
        go_wp2_with fail
        refine HAd.out.mono ?_
        rintro e w9 ⟨rfl, v9, hF9, hv9, hA9⟩
        rw [← Hnx.out] at hF9
        have HF9 := Bl.hid hF9
        have HE9 : Hid (Bl.Ext w7 w9) := Bl.hid (Below.trans HE.out (hA9.below HE.out.size Hbf.out Hvo.out))
        have Hv9 : Hid (∀ j, v9.ownBlock = some j → w7.heap.size ≤ j) := Bl.hid fun j hj => by
          rcases hv9 j hj with g | g
          · exact Hvo.out j g
          · exact Nat.le_trans HE.out.size g
        clear hF9 hv9 hA9 HAd
        go_wp2_with fail
        go_roundw
        case rel => exact ⟨q + 1, v9, by omega, by go_num, Bl.hid ⟨by rw [← HPN.out]; exact HF9.out, Hv9.out⟩, HE9.out⟩
        case measure => simp [intOf]; omega
      · obtain rfl : q = K := by omega
        have htl : (ds.take q).length = q := by rw [List.length_take, Hln.out]; omega
        have hple := Bl.peaksD_len_le q (ds.take q) htl (by omega)
        have hne : ¬ (Bl.peaksD (ds.take q)).length = 0 := by
          obtain ⟨q', rfl⟩ : ∃ q', q = q' + 1 := ⟨q - 1, by omega⟩
          rw [Bl.peaks_next ds q' (by rw [Hln.out]; omega) (by rw [Hln.out]; omega), Bl.carry_length]
          omega
        have HRo : Hid (∀ w2, Bl.Ext wr w2 → Calls Tryd.prog 19 #[.pointer (some ⟨bf, 0, none⟩)] w2 fun e w' => e = .returned (.agg (Bl.ints .u8 y).toArray) ∧ Bl.Ext w2 w') := Bl.hid fun w2 h2 => by
          have h := groot_any bf vf q (Bl.peaksD (ds.take q)) w2 (HFr.out.1.ext h2) ⟨fun g => by omega, fun g => absurd g hne⟩ (by omega) (Hg.out.ext (HE7w.out.trans (HE.out.trans h2))).s
          rw [Hov.out] at h; exact h
        have HT8 := Bl.hid (HT7.out.ext HE.out)
        have HEw := Bl.hid (HE7w.out.trans HE.out)
        have Hc1 : Hid (∀ w2, Bl.Ext wr w2 → Calls Tryd.prog 23 #[.int .i64 M, .agg (Bl.ints .u8 x).toArray, .int .i64 q, .agg (Bl.ints .u8 y).toArray, v1] w2 fun e w' => e = .returned .nilIface ∧ Bl.Ext w2 w') := Bl.hid fun w2 h2 => HC1.out w2 v1 (HEw.out.trans h2) (Bl.Rds.ext Hr1.out (HE.out.trans h2))
        have Hc2 : Hid (∀ w2, Bl.Ext wr w2 → Calls Tryd.prog 23 #[.int .i64 q, .agg (Bl.ints .u8 y).toArray, .int .i64 L, .agg (Bl.ints .u8 z).toArray, v2] w2 fun e w' => e = .returned .nilIface ∧ Bl.Ext w2 w') := Bl.hid fun w2 h2 => HC2.out w2 v2 (HEw.out.trans h2) (Bl.Rds.ext Hr2.out (HE.out.trans h2))
        have Hc3 : Hid (∀ w2, Bl.Ext wr w2 → Calls Tryd.prog 23 #[.int .i64 M, .agg (Bl.ints .u8 x).toArray, .int .i64 L, .agg (Bl.ints .u8 z).toArray, v3] w2 fun e w' => e = .returned .nilIface ∧ Bl.Ext w2 w') := Bl.hid fun w2 h2 => HC3.out w2 v3 (HEw.out.trans h2) (Bl.Rds.ext Hr3.out (HE.out.trans h2))
        have HLx : Hid (∀ w2, Bl.Ext wr w2 → (Instr.loadAt 41 (.pointer (some ⟨A, 0, none⟩))).run Tryd.prog w2 = .ok (.agg (Bl.ints .u8 x).toArray) w2) := Bl.hid fun w2 h2 => (HT8.out.a.ext h2).load Tryd.underlying41 (by kernel_rfl)
        have HLy : Hid (∀ w2, Bl.Ext wr w2 → (Instr.loadAt 41 (.pointer (some ⟨B, 0, none⟩))).run Tryd.prog w2 = .ok (.agg (Bl.ints .u8 y).toArray) w2) := Bl.hid fun w2 h2 => (HT8.out.b.ext h2).load Tryd.underlying41 (by kernel_rfl)
        have HLz : Hid (∀ w2, Bl.Ext wr w2 → (Instr.loadAt 41 (.pointer (some ⟨C, 0, none⟩))).run Tryd.prog w2 = .ok (.agg (Bl.ints .u8 z).toArray) w2) := Bl.hid fun w2 h2 => (HT8.out.c.ext h2).load Tryd.underlying41 (by kernel_rfl)
        have heq : ∀ w, (Op.equalIn 10000 41 (.agg (Bl.ints .u8 y).toArray) (.agg (Bl.ints .u8 y).toArray)).run Tryd.prog w = .ok true w := fun w =>
          Bl.eq10k_same Tryd.underlying41 Tryd.underlying5 (fun w => by simp [go_sem]) y HY.out.1 w
        clear hple hne htl HFr HT7 Hr1 Hr2 Hr3 HC1 HC2 HC3 Hov HF8 HE8
        go_wp2_with fail
        apply Bl.wp_region_ev 31 [106, 107, 108, 109, 110, 111, 112, 113, 114, 115, 116, 117, 118, 119, 120, 121, 122, 123, 124, 125, 126, 127, 128, 129, 130, 131, 132, 133, 134, 135, 136] [Bl.eqv _, Bl.eqv _, Bl.eqv _, Bl.eqv _, Bl.eqv _, Bl.eqv _, Bl.eqv _, Bl.eqv _, Bl.eqv _, Bl.eqv _, Bl.eqv _, Bl.eqv _, Bl.eqv _, Bl.eqv _, Bl.eqv _, Bl.eqv _, Bl.eqv _, Bl.eqv _, Bl.eqv _, Bl.eqv _, Bl.eqv _, Bl.eqv _, Bl.eqv _, Bl.eqv _, Bl.eqv _, Bl.eqv _, Bl.eqv _, Bl.eqv _, Bl.eqv _, Bl.eqv _, Bl.eqv _] (by kernel_rfl) (by kernel_rfl) (by kernel_rfl) (by kernel_rfl)
        case hsteps =>
          refine ⟨?_, ?_, ?_, ?_, ?_, ?_, ?_, ?_, ?_, ?_, ?_, ?_, ?_, ?_, ?_, ?_, ?_, ?_, ?_, ?_, ?_, ?_, ?_, ?_, ?_, ?_, ?_, ?_, ?_, ?_, ?_, trivial⟩
          all_goals
            intro ev w1 hext hb hd
            have e1 := hb 1 (by decide)
            have e2 := hb 2 (by decide)
            have e7 := hb 7 (by decide)
            have e9 := hb 9 (by decide)
            have e10 := hb 10 (by decide)
            have e11 := hb 11 (by decide)
            have e12 := hb 12 (by decide)
            have e14 := hb 14 (by decide)
            have e16 := hb 16 (by decide)
            have e18 := hb 18 (by decide)
            clear hb
            simp only [Array.getD_eq_getD_getElem?, List.getElem?_toArray, List.getElem?_cons_succ, List.getElem?_cons_zero, Option.getD_some] at e1 e2 e7 e9 e10 e11 e12 e14 e16 e18
            simp only [Bl.DepsE, List.getElem?_cons_succ, List.getElem?_cons_zero, Option.bind_some, List.getD_cons_succ, List.getD_cons_zero, Bl.eqv, and_true] at hd
            have hc := (Bl.bcell hext).1
            simp only [Bl.Good, Region.wanted, Bl.yieldE, List.getElem?_cons_succ, List.getElem?_cons_zero, Option.bind_some, hd, beq_self_eq_true, if_true]
            first
            | ((with_reducible refine Bl.goodR_load ?_ (HLx.out _ hext) ?_); exact e9; exact rfl) | ((with_reducible refine Bl.goodR_load ?_ (HLy.out _ hext) ?_); exact e10; exact rfl) | ((with_reducible refine Bl.goodR_load ?_ (HLz.out _ hext) ?_); exact e11; exact rfl)
            | (go_simp; first | (go_at_call 23; (first | (with_reducible refine (Hc1.out _ hext).mono ?_) | (with_reducible refine (Hc2.out _ hext).mono ?_) | (with_reducible refine (Hc3.out _ hext).mono ?_)); rintro e w2 ⟨rfl, hE2⟩; exact ⟨_, rfl, hE2, rfl⟩) | (go_at_call 19; (with_reducible refine (HRo.out _ hext).mono ?_); rintro e w2 ⟨rfl, hE2⟩; exact ⟨_, rfl, hE2, rfl⟩) | exact rfl | exact ⟨Below.refl _ _, rfl⟩ | exact ⟨Below.refl _ _, rfl⟩)
        case hmono => exact ⟨Bl.mono_eqv _, Bl.mono_eqv _, Bl.mono_eqv _, Bl.mono_eqv _, Bl.mono_eqv _, Bl.mono_eqv _, Bl.mono_eqv _, Bl.mono_eqv _, Bl.mono_eqv _, Bl.mono_eqv _, Bl.mono_eqv _, Bl.mono_eqv _, Bl.mono_eqv _, Bl.mono_eqv _, Bl.mono_eqv _, Bl.mono_eqv _, Bl.mono_eqv _, Bl.mono_eqv _, Bl.mono_eqv _, Bl.mono_eqv _, Bl.mono_eqv _, Bl.mono_eqv _, Bl.mono_eqv _, Bl.mono_eqv _, Bl.mono_eqv _, Bl.mono_eqv _, Bl.mono_eqv _, Bl.mono_eqv _, Bl.mono_eqv _, Bl.mono_eqv _, Bl.mono_eqv _, trivial⟩
        case hend =>
          intro u w1 hext hend
          simp only [Bl.EndE, List.getElem?_cons_succ, List.getElem?_cons_zero, Option.bind_some, List.getD_cons_succ, List.getD_cons_zero, Bl.eqv, true_and] at hend
          simp only [Bl.fillAct, List.setIfInBounds_toArray, List.set_cons_succ, List.set_cons_zero, List.drop_succ_cons, List.drop_zero, hend]
          have HEf := Bl.hid (HEw.out.trans hext)
          clear hext hend
          go_wp2_with fail
          go_ret
          exact ⟨rfl, HEf.out⟩
  case hJ0 => exact Bl.JAl.start (Nat.le_refl _)
end Go.Proofs.YtkoddcjkhcnifaaDoor

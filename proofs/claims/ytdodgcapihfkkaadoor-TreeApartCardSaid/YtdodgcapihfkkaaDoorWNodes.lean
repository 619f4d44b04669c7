/- Walks of baileelaw12.alive and baileelaw12.TreeNodes. -/
import Derived.Test.YtdodgcapihfkkaaDoorWTree2
import Derived.Test.YtdodgcapihfkkaaDoorW12a
import Derived.Test.YtdodgcapihfkkaaDoorTwo
namespace Go.Proofs.Bl
open Go Go.RowKit
theorem bstr_cons0 (l : List Int) : ((bstr (0 :: l)).toList == ((⟨#[0]⟩ : ByteArray) ++ bstr l).toList) = true := by
  have h : bstr (0 :: l) = (⟨#[0]⟩ : ByteArray) ++ bstr l := by
    rw [show (⟨#[0]⟩ : ByteArray) = bstr [0] from rfl, bstr_append]; rfl
  rw [h]; simp
end Go.Proofs.Bl
namespace Go.Proofs.YtdodgcapihfkkaaDoor
open Go.RowKit Go.Proofs

theorem split_5 (w : World) : Calls Tryd.prog 55 #[.int .i64 5] w fun e w' => e = .returned (.int .i64 4) ∧ w = w' :=
  (split_any 5 w (by omega)).mono fun e w' ⟨he, hw⟩ => ⟨by rw [he]; exact ret_i (by decide +kernel), hw⟩

theorem alive12 (w : World) : Calls Tryd.prog 34 #[] w fun e w' => e = .returned (.bool true) ∧ Bl.Ext w w' := by
  have h5 := split_5
  go_enter Tryd.func34, Tryd.ntmps34
  go_wp2_with (go_at_call 55; refine (h5 _).mono ?_; rintro e w' ⟨rfl, rfl⟩)
  clear h5
  refine (outer_any _ [] _ (Bl.Rd.nil _ _) (by decide)).mono ?_
  rintro e w1 ⟨v1, rfl, hr1, hE1⟩
  obtain ⟨p1, c1, hf1, _, _⟩ := hr1.form
  subst hf1
  have HE1 := Bl.hid hE1
  clear hr1 hE1
  go_wp2_with fail
  go_ret
  exact ⟨rfl, HE1.out⟩

set_option maxRecDepth 100000 in
theorem nodes_long (l r : List Int) (v : Value) (b : List Int) (w : World) (hR : Bl.Rd w .u8 v b) (hl : 300 < b.length) :
    Calls Tryd.prog 4 #[.agg (Bl.ints .u8 l).toArray, .agg (Bl.ints .u8 r).toArray, v] w fun e w' => e = .returned (.bool true) ∧ Bl.Ext w w' := by
  obtain ⟨p, c, rfl, hvn, hvc⟩ := hR.form
  have hl' : (300 : Int) < (b.length : Int) := by omega
  clear hR
  go_enter Tryd.func4, Tryd.ntmps4
  go_wp2_with fail
  refine (alive12 _).mono ?_
  rintro e w1 ⟨rfl, hE⟩
  have HE := Bl.hid (((Bl.ext_alloc w _).trans (Bl.ext_alloc _ _)).trans hE)
  clear hE
  go_wp2_with fail
  go_ret
  exact ⟨rfl, HE.out⟩

set_option maxRecDepth 100000 in
set_option maxHeartbeats 1000000 in
theorem nodes_walk (l r : List Int) (v : Value) (b : List Int) (w : World) (hl : l.length = 32) (hr : r.length = 32) (hbl : Bl.Byt l) (hbr : Bl.Byt r) (hg : GlobR w) (hR : Bl.Rd w .u8 v b) (hbb : Bl.Byt b) (hb : b.length ≤ 300) :
    Calls Tryd.prog 4 #[.agg (Bl.ints .u8 l).toArray, .agg (Bl.ints .u8 r).toArray, v] w fun e w' => e = .returned (.bool true) ∧ Bl.Ext w w' := by
  obtain ⟨p, c, hvf, hvn, hvc⟩ := hR.form
  subst hvf
  have hlb : decide ((300 : Int) < (b.length : Int)) = false := decide_eq_false (by omega)
  have Hl := Bl.hid hl
  have Hr := Bl.hid hr
  have Hbl := Bl.hid hbl
  have Hbr := Bl.hid hbr
  have Hg := Bl.hid hg
  have Hv := Bl.hid hR
  have Hbb := Bl.hid hbb
  clear hl hr hbl hbr hg hR hbb
  go_enter Tryd.func4, Tryd.ntmps4
  go_wp2_with fail
  have h1 := Bl.rangeAt_ext (Bl.range_box w l 26) (Bl.ext_alloc _ (.cells (Bl.ints .u8 r).toArray 26))
  have h2 := Bl.range_box (w.alloc (.cells (Bl.ints .u8 l).toArray 26)) r 26
  rw [World.size_alloc] at h2
  have HE : Hid (Bl.Ext w ((w.alloc (.cells (Bl.ints .u8 l).toArray 26)).alloc (.cells (Bl.ints .u8 r).toArray 26))) := Bl.hid ((Bl.ext_alloc _ _).trans (Bl.ext_alloc _ _))
  obtain ⟨W, hW⟩ : ∃ W, W = (w.alloc (.cells (Bl.ints .u8 l).toArray 26)).alloc (.cells (Bl.ints .u8 r).toArray 26) := ⟨_, rfl⟩
  rw [← hW] at h1 h2 HE ⊢
  have H1 := Bl.hid h1
  have H2 := Bl.hid h2
  clear hW h1 h2
  refine (alive12 _).mono ?_
  rintro e W1 ⟨rfl, hE1⟩
  obtain ⟨B, hB⟩ : ∃ B, B = W1.heap.size := ⟨_, rfl⟩
  have HB := Bl.hid hB
  have HE1 := Bl.hid hE1
  have HLd1 : Hid (∀ w2, Bl.Ext W1 w2 → (Instr.loadAt 26 (.pointer (some ⟨w.heap.size, 0, none⟩))).run Tryd.prog w2 = .ok (.agg (Bl.ints .u8 l).toArray) w2) := Bl.hid fun w2 h2 => Bl.load_ints (Bl.rangeAt_ext H1.out (HE1.out.trans h2)) Tryd.underlying26 (by kernel_rfl) Hl.out
  have HLd2 : Hid (∀ w2, Bl.Ext W1 w2 → (Instr.loadAt 26 (.pointer (some ⟨w.heap.size + 1, 0, none⟩))).run Tryd.prog w2 = .ok (.agg (Bl.ints .u8 r).toArray) w2) := Bl.hid fun w2 h2 => Bl.load_ints (Bl.rangeAt_ext H2.out (HE1.out.trans h2)) Tryd.underlying26 (by kernel_rfl) Hr.out
  clear hE1 hB
  go_wp2_with fail
  apply Bl.wp_region_evK (fun a b => Below B a b) (Bl.JT B 32 2 3 4 7 8 (Bl.ints .u8 l)) 5 [15, 16, 7, 8] [Bl.eqv _, Bl.eqv _, Bl.anyv, Bl.anyv, Bl.eqv _] (fun w => Below.refl _ w) (fun a b c h k => Below.trans h k) (by kernel_rfl) (by kernel_rfl) (by kernel_rfl) (by kernel_rfl)
  case hsteps =>
    refine ⟨?_, ?_, ?_, ?_, ?_, trivial⟩
    all_goals
      intro d ev w1 hext HJd Hanc Hdes hni hb hd
      replace Hanc := Bl.hid Hanc
      replace HJd := Bl.hid HJd
      replace Hdes := Bl.hid Hdes
      replace hni := Bl.hid hni
      have e3 := hb 3 (by decide)
      have e4 := hb 4 (by decide)
      clear hb
      simp only [Array.getD_eq_getD_getElem?, List.getElem?_toArray, List.getElem?_cons_succ, List.getElem?_cons_zero, Option.getD_some] at e3 e4
      simp only [Bl.DepsE2, List.getElem?_cons_succ, List.getElem?_cons_zero, Option.bind_some, List.getD_cons_succ, List.getD_cons_zero, Bl.eqv, and_true] at hd
      have hc := (Bl.bcell hext).1
      have hE : Bl.Ext W1 w1 := by rw [Bl.Ext, ← HB.out]; exact hext
      simp only [Region.wanted, if_true]
      first
      | ((with_reducible refine Bl.goodX_load (fun w => Below.refl _ w) ?_ (HLd1.out _ hE) ?_); exact e3; exact ⟨rfl, HJd.out.same (by decide)⟩) | ((with_reducible refine Bl.goodX_load (fun w => Below.refl _ w) ?_ (HLd2.out _ hE) ?_); exact e4; exact ⟨rfl, HJd.out.same (by decide)⟩) | (obtain ⟨g, hg7, hBg, hth⟩ := HJd.out.a7 (Hanc.out 2 (by kernel_rfl)); have hst := Bl.store_ints (P := Tryd.prog) (ty := 28) (k := .u8) (l := l) (n := 32) hth (by kernel_rfl) Hl.out; have hJ2 := HJd.out.store7 (by decide) (Hanc.out 2 (by kernel_rfl)) (by rw [Bl.ints_length, Hl.out]) hg7; refine Bl.goodX_store hg7 hd.2.1 hst hJ2.2 ⟨rfl, hJ2.1⟩)
      | (go_simp; first | exact ⟨Bl.below_alloc _ _ HJd.out.le, trivial, HJd.out.new7 (by decide) (Hdes.out 4 (by kernel_rfl)) rfl (by decide)⟩ | exact ⟨Bl.below_alloc _ _ HJd.out.le, trivial, HJd.out.new8 (by decide) (Hdes.out 4 (by kernel_rfl)) rfl (by decide)⟩ | exact ⟨Below.refl _ _, rfl, Bl.HJ.same (by decide) HJd.out⟩)
  case hmono => exact ⟨Bl.monoR_eqv _, Bl.monoR_eqv _, Bl.monoR_anyv, Bl.monoR_anyv, Bl.monoR_eqv _, trivial⟩
  case hR0 => exact (Below.refl _ _).drew
  case hend =>
    intro u w1 hext hJ hend
    simp only [Bl.EndE, List.getElem?_cons_succ, List.getElem?_cons_zero, Option.bind_some, List.getD_cons_succ, List.getD_cons_zero, Bl.eqv, true_and] at hend
    simp only [Bl.fillAct, List.setIfInBounds_toArray, List.set_cons_succ, List.set_cons_zero, List.drop_succ_cons, List.drop_zero, hend]
    obtain ⟨g7, e7, hB7, ht7⟩ := hJ.a7 rfl
    obtain ⟨g8, e8, hB8, ht8⟩ := hJ.a8 rfl
    obtain ⟨g7', e7', hr7⟩ := hJ.s rfl
    have hne : g7 ≠ g8 := fun q => hJ.ne rfl rfl (by rw [e7, e8, q])
    obtain rfl : g7' = g7 := by rw [e7] at e7'; injection e7' with q; injection q with q; injection q with q; exact q.symm
    rw [e7, e8]
    have hext1 : Bl.Ext W1 w1 := by rw [Bl.Ext, ← HB.out]; exact hext
    have Hst := Bl.hid (Bl.store_ints (P := Tryd.prog) (ty := 28) (k := .u8) (l := r) (n := 32) ht8 (by kernel_rfl) Hr.out)
    have HR8 : Hid ((w1.setCells g8 0 (Bl.ints .u8 r)).rangeAt g8 0 (Bl.ints .u8 r)) := Bl.hid (World.rangeAt_setCells_same _ _ _ _ (by rw [Bl.ints_length, Hr.out]; exact ht8))
    have HR7 : Hid ((w1.setCells g8 0 (Bl.ints .u8 r)).rangeAt g7' 0 (Bl.ints .u8 l)) := Bl.hid (World.rangeAt_setCells_apart hr7 _ _ _ (.inl hne))
    have HE2 : Hid (Bl.Ext W1 (w1.setCells g8 0 (Bl.ints .u8 r))) := Bl.hid (Bl.below_setCells _ _ _ _ hext1 (by rw [← HB.out]; exact hB8))
    clear hJ hend hext hext1 e7 e8 e7' hB7 hB8 ht7 ht8 hr7 hne
    go_wp2_with (with_reducible refine Bl.stop_store (ty := 28) ?_)
    refine Bl.go_on ?_
    refine Bl.wpL_store0 rfl rfl Hst.out ?_
    generalize hW2 : w1.setCells g8 0 (Bl.ints .u8 r) = W2 at *
    clear hW2 Hst
    have HLa := Bl.hid (HLd1.out W2 HE2.out)
    have HLb := Bl.hid (HLd2.out W2 HE2.out)
    clear HLd1 HLd2
    go_wp2_with (with_reducible refine Bl.stop_load (ty := 26) ?_)
    refine Bl.go_on ?_
    refine Bl.wpL_load rfl HLa.out ?_
    go_wp2_with (with_reducible refine Bl.stop_load (ty := 26) ?_)
    refine Bl.go_on ?_
    refine Bl.wpL_load rfl HLb.out ?_
    clear HLa HLb
    go_wp2_with fail
    refine (refnode_any l r W2 Hl.out Hr.out Hbl.out Hbr.out (Hg.out.ext ((HE.out.trans HE1.out).trans HE2.out))).mono ?_
    rintro e W3 ⟨rfl, hE3⟩
    have hndl : (Bl.ndD l r).length = 32 := Bl.ndD_length l r
    have HF3 := Bl.hid (fam_new W3 32 .u8 26 (List.replicate 32 (Value.int .u8 0)).toArray rfl)
    have Hst := Bl.hid (Bl.store_ints (P := Tryd.prog) (ty := 26) (k := .u8) (l := Bl.ndD l r) (n := 32) HF3.out.there (by kernel_rfl) hndl)
    have HE4 : Hid (Bl.Ext W3 ((W3.alloc (.cells (List.replicate 32 (Value.int .u8 0)).toArray 26)).setCells W3.heap.size 0 (Bl.ints .u8 (Bl.ndD l r)))) := Bl.hid (Bl.below_setCells _ _ _ _ (Bl.ext_alloc _ _) (Nat.le_refl _))
    have HR9 : Hid (((W3.alloc (.cells (List.replicate 32 (Value.int .u8 0)).toArray 26)).setCells W3.heap.size 0 (Bl.ints .u8 (Bl.ndD l r))).rangeAt W3.heap.size 0 (Bl.ints .u8 (Bl.ndD l r))) := Bl.hid (World.rangeAt_setCells_same _ _ _ _ (by rw [Bl.ints_length, hndl]; exact HF3.out.there))
    have HE3 := Bl.hid hE3
    clear hE3 HF3
    go_wp2_with (with_reducible refine Bl.stop_store (ty := 26) ?_)
    refine Bl.go_on ?_
    refine Bl.wpL_store0 rfl rfl Hst.out ?_
    generalize hW4 : (W3.alloc (.cells (List.replicate 32 (Value.int .u8 0)).toArray 26)).setCells W3.heap.size 0 (Bl.ints .u8 (Bl.ndD l r)) = W4 at *
    clear hW4 Hst
    have HE24 := Bl.hid (HE3.out.trans HE4.out)
    have HE04 := Bl.hid (((HE.out.trans HE1.out).trans HE2.out).trans HE24.out)
    generalize W3.heap.size = g9 at *
    have HL7 : Hid (∀ w2, Bl.Ext W4 w2 → (Instr.loadAt 28 (.pointer (some ⟨g7', 0, none⟩))).run Tryd.prog w2 = .ok (.agg (Bl.ints .u8 l).toArray) w2) := Bl.hid fun w2 h2 => Bl.load_ints (Bl.rangeAt_ext HR7.out (HE24.out.trans h2)) Tryd.underlying28 (by kernel_rfl) Hl.out
    have HL8 : Hid (∀ w2, Bl.Ext W4 w2 → (Instr.loadAt 28 (.pointer (some ⟨g8, 0, none⟩))).run Tryd.prog w2 = .ok (.agg (Bl.ints .u8 r).toArray) w2) := Bl.hid fun w2 h2 => Bl.load_ints (Bl.rangeAt_ext HR8.out (HE24.out.trans h2)) Tryd.underlying28 (by kernel_rfl) Hr.out
    have HL9 : Hid (∀ w2, Bl.Ext W4 w2 → (Instr.loadAt 26 (.pointer (some ⟨g9, 0, none⟩))).run Tryd.prog w2 = .ok (.agg (Bl.ints .u8 (Bl.ndD l r)).toArray) w2) := Bl.hid fun w2 h2 => Bl.load_ints (Bl.rangeAt_ext HR9.out h2) Tryd.underlying26 (by kernel_rfl) hndl
    have HGw : Hid (∀ w2, Bl.Ext W4 w2 → GlobR w2) := Bl.hid fun w2 h2 => Hg.out.ext (HE04.out.trans h2)
    have HVw : Hid (∀ w2, Bl.Ext W4 w2 → Bl.Rd w2 .u8 (.slice p b.length c) b) := Bl.hid fun w2 h2 => Hv.out.ext (HE04.out.trans h2)
    have HOn : Hid (∀ v w2, Bl.Ext W4 w2 → Bl.Rd w2 .u8 v (1 :: (l ++ r)) → Calls Tryd.prog 27 #[v] w2 fun e w' => e = .returned (.agg (Bl.ints .u8 (Bl.ndD l r)).toArray) ∧ Bl.Ext w2 w') := Bl.hid fun v w2 h2 h3 => refof_any v _ w2 h3 (HGw.out _ h2) (Bl.byt_cons (by decide) (by decide) (Hbl.out.append Hbr.out)) (by simp [Hl.out, Hr.out])
    have HOl : Hid (∀ v w2, Bl.Ext W4 w2 → Bl.Rd w2 .u8 v (0 :: b) → Calls Tryd.prog 27 #[v] w2 fun e w' => e = .returned (.agg (Bl.ints .u8 (Bl.lfD b)).toArray) ∧ Bl.Ext w2 w') := Bl.hid fun v w2 h2 h3 => refof_any v _ w2 h3 (HGw.out _ h2) (Bl.byt_cons (by decide) (by decide) Hbb.out) (by simp; omega)
    have heqn : ∀ w, (Op.equalIn 10000 26 (.agg (Bl.ints .u8 (Bl.ndD l r)).toArray) (.agg (Bl.ints .u8 (Bl.ndD l r)).toArray)).run Tryd.prog w = .ok true w := fun w => Bl.eq10k_same Tryd.underlying26 Tryd.underlying5 (fun w => by simp [go_sem]) _ hndl w
    have heql : ∀ w, (Op.equalIn 10000 26 (.agg (Bl.ints .u8 (Bl.lfD b)).toArray) (.agg (Bl.ints .u8 (Bl.lfD b)).toArray)).run Tryd.prog w = .ok true w := fun w => Bl.eq10k_same Tryd.underlying26 Tryd.underlying5 (fun w => by simp [go_sem]) _ (Bl.lfD_length b) w
    have hstr := Bl.bstr_cons0 b
    have hss : ¬ (9223372036854775807 < 1 + (Bl.bstr b).size) := by rw [Bl.bstr_size]; omega
    clear HR7 HR8 HR9 HE2 HE3 HE4 HE24 hndl H1 H2
    go_wp2_with fail
    apply Bl.wp_region_ev 30 [20, 21, 22, 23, 24, 25, 26, 27, 28, 29, 30, 31, 32, 33, 34, 35, 36, 37, 38, 39, 40, 41, 42, 43, 44, 45, 46, 47, 48, 49] [Bl.eqv _, Bl.eqv _, Bl.eqv _, Bl.eqv _, Bl.eqv _, Bl.eqv _, Bl.eqv _, Bl.eqv _, (fun v w' => Bl.Rd w' .u8 v (1 :: (l ++ r))), Bl.eqv _, Bl.eqv _, Bl.eqv _, Bl.eqv _, Bl.eqv _, Bl.eqv _, (fun v w' => Bl.Rd w' .u8 v (0 :: b)), Bl.eqv _, Bl.eqv _, Bl.eqv _, Bl.eqv _, Bl.eqv _, Bl.eqv _, Bl.eqv _, (fun v w' => Bl.Rd w' .u8 v (0 :: b)), Bl.eqv _, Bl.eqv _, Bl.eqv _, Bl.eqv _, Bl.eqv _, Bl.eqv _] (by kernel_rfl) (by kernel_rfl) (by kernel_rfl) (by kernel_rfl)
    case hsteps =>
      refine ⟨?_, ?_, ?_, ?_, ?_, ?_, ?_, ?_, ?_, ?_, ?_, ?_, ?_, ?_, ?_, ?_, ?_, ?_, ?_, ?_, ?_, ?_, ?_, ?_, ?_, ?_, ?_, ?_, ?_, ?_, trivial⟩
      all_goals
        intro ev w1 hext hb hd
        have e2 := hb 2 (by decide)
        have e7 := hb 7 (by decide)
        have e8 := hb 8 (by decide)
        have e9 := hb 9 (by decide)
        clear hb
        simp only [Array.getD_eq_getD_getElem?, List.getElem?_toArray, List.getElem?_cons_succ, List.getElem?_cons_zero, Option.getD_some] at e2 e7 e8 e9
        simp only [Bl.DepsE, List.getElem?_cons_succ, List.getElem?_cons_zero, Option.bind_some, List.getD_cons_succ, List.getD_cons_zero, Bl.eqv, and_true] at hd
        have hc := (Bl.bcell hext).1
        have Hcv := fun (v : Value) (m : List Int) (h : Bl.Rd w1 .u8 v m) => Bl.conv_bytes (P := Tryd.prog) (src := 24) (dst := 9) h Tryd.underlying24 Tryd.underlying5 Tryd.underlying9
        have c1 := Hcv _ _ (HVw.out _ hext)
        try (have c2 := Hcv _ _ hd.1)
        try (have c2 := Hcv _ _ hd.2)
        clear Hcv
        simp only [Bl.Good, Region.wanted, Bl.yieldE, List.getElem?_cons_succ, List.getElem?_cons_zero, Option.bind_some, hd, beq_self_eq_true, if_true]
        first
        | ((with_reducible refine Bl.goodR_load ?_ (HL7.out _ hext) ?_); exact e7; exact rfl) | ((with_reducible refine Bl.goodR_load ?_ (HL8.out _ hext) ?_); exact e8; exact rfl) | ((with_reducible refine Bl.goodR_load ?_ (HL9.out _ hext) ?_); exact e9; exact rfl)
        | (go_simp; first | (go_at_call 36; refine (node_any l r w1 Hl.out Hr.out Hbl.out Hbr.out (HGw.out _ hext)).mono ?_; rintro e w2 ⟨rfl, hE2⟩; exact ⟨_, rfl, hE2, rfl⟩) | (go_at_call 37; refine (inner_any l r w1 Hl.out Hr.out).mono ?_; rintro e w2 ⟨v', rfl, h1, h2⟩; exact ⟨_, rfl, h2, h1⟩) | (go_at_call 27; (first | refine (HOn.out _ _ hext hd.1).mono ?_ | refine (HOn.out _ _ hext hd.2).mono ?_ | refine (HOl.out _ _ hext hd.1).mono ?_ | refine (HOl.out _ _ hext hd.2).mono ?_); rintro e w2 ⟨rfl, hE2⟩; exact ⟨_, rfl, hE2, rfl⟩) | (go_at_call 38; refine (outer_any _ b w1 (HVw.out _ hext) (by omega)).mono ?_; rintro e w2 ⟨v', rfl, h1, h2⟩; exact ⟨_, rfl, h2, h1⟩) | (go_at_call 39; refine (refleaf_any _ b w1 (HVw.out _ hext) (HGw.out _ hext) Hbb.out (by omega)).mono ?_; rintro e w2 ⟨rfl, hE2⟩; exact ⟨_, rfl, hE2, rfl⟩) | exact ⟨Below.refl _ _, rfl⟩)
    case hmono => exact ⟨Bl.mono_eqv _, Bl.mono_eqv _, Bl.mono_eqv _, Bl.mono_eqv _, Bl.mono_eqv _, Bl.mono_eqv _, Bl.mono_eqv _, Bl.mono_eqv _, (fun _ _ _ h k => Bl.Rd.ext h k), Bl.mono_eqv _, Bl.mono_eqv _, Bl.mono_eqv _, Bl.mono_eqv _, Bl.mono_eqv _, Bl.mono_eqv _, (fun _ _ _ h k => Bl.Rd.ext h k), Bl.mono_eqv _, Bl.mono_eqv _, Bl.mono_eqv _, Bl.mono_eqv _, Bl.mono_eqv _, Bl.mono_eqv _, Bl.mono_eqv _, (fun _ _ _ h k => Bl.Rd.ext h k), Bl.mono_eqv _, Bl.mono_eqv _, Bl.mono_eqv _, Bl.mono_eqv _, Bl.mono_eqv _, Bl.mono_eqv _, trivial⟩
    case hend =>
      intro u w1 hext hend
      simp only [Bl.EndE, List.getElem?_cons_succ, List.getElem?_cons_zero, Option.bind_some, List.getD_cons_succ, List.getD_cons_zero, Bl.eqv, true_and] at hend
      simp only [Bl.fillAct, List.setIfInBounds_toArray, List.set_cons_succ, List.set_cons_zero, List.drop_succ_cons, List.drop_zero, hend]
      have HEf := Bl.hid (HE04.out.trans hext)
      clear hext hend
      go_wp2_with fail
      go_ret
      exact ⟨rfl, HEf.out⟩
  case hJ0 => exact Bl.JT.start (by rw [HB.out]; exact Nat.le_refl _)

theorem nodes_all (l r : List Int) (v : Value) (b : List Int) (w : World) (hl : l.length = 32) (hr : r.length = 32) (hbl : Bl.Byt l) (hbr : Bl.Byt r) (hg : GlobR w) (hR : Bl.Rd w .u8 v b) (hbb : Bl.Byt b) :
    Calls Tryd.prog 4 #[.agg (Bl.ints .u8 l).toArray, .agg (Bl.ints .u8 r).toArray, v] w fun e w' => e = .returned (.bool true) ∧ Bl.Ext w w' := by
  by_cases h : b.length ≤ 300
  · exact nodes_walk l r v b w hl hr hbl hbr hg hR hbb h
  · exact nodes_long l r v b w hR (by omega)
end Go.Proofs.YtdodgcapihfkkaaDoor

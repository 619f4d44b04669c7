/- Walk of the law DiaryAgrees. -/
import Derived.Test.YtmfooocdnoflaaaDoorDia2
import Derived.Test.YtmfooocdnoflaaaDoorWDig13
import Derived.Test.YtmfooocdnoflaaaDoorDia3
namespace Go.Proofs.YtmfooocdnoflaaaDoor
open Go Go.RowKit Go.Proofs

set_option maxRecDepth 100000 in
set_option maxHeartbeats 40000000 in
theorem dagr_all (v1 v2 vl : Value) (L1 L2 : List Bl.Ac) (ps : List (List Int)) (w : World) (S : List Nat) (a : Nat → Addr) (h1 : Bl.RdA w v1 L1) (h2 : Bl.RdA w v2 L2) (hR : Bl.Rdss w vl ps) (hby : ∀ p ∈ ps, Bl.Byt p) (hg : GlobR w) (hS : ∀ i, 1 ≤ i → i ≤ 20 → i ∈ S) (he : Errs S a w) :
    Calls Tryd.prog 6 #[v1, v2, vl] w fun e w' => e = .returned (.bool true) ∧ Bl.Ext w w' := by
  have HLg : Hid (∀ w2, Bl.Ext w w2 → Calls Tryd.prog 19 #[vl, .int .i64 30] w2 fun e w' => w' = w2 ∧ (e = .returned (.bool true) ∨ (e = .returned (.bool false) ∧ (ps.length : Int) ≤ 30 ∧ ∀ p ∈ ps, p.length ≤ 200))) := Bl.hid fun w2 h2 => long_any vl ps w2 30 (hR.ext h2)
  obtain ⟨p1, c1, hf1, hn1, hc1⟩ := h1.rd.form
  subst hf1
  obtain ⟨p2, c2, hf2, hn2, hc2⟩ := h2.rd.form
  subst hf2
  unfold maxLen at hc1 hc2
  have HR := Bl.hid hR
  have H1 := Bl.hid h1
  have H2 := Bl.hid h2
  have Hby := Bl.hid hby
  have Hg := Bl.hid hg
  have HS := Bl.hid hS
  have He := Bl.hid he
  obtain ⟨n1, hnn1⟩ : ∃ n1, n1 = L1.length := ⟨_, rfl⟩
  obtain ⟨n2, hnn2⟩ : ∃ n2, n2 = L2.length := ⟨_, rfl⟩
  have Hn1 := Bl.hid hnn1
  have Hn2 := Bl.hid hnn2
  rw [← hnn1] at H1 hn1 ⊢
  rw [← hnn2] at H2 hn2 ⊢
  clear h1 h2 hR hby hg hS he hnn1 hnn2
  go_enter Tryd.func6, Tryd.ntmps6
  go_wp2_with fail
  refine (alive39 w S a He.out HS.out Hg.out.s).mono ?_
  rintro e w1 ⟨rfl, hE1⟩
  have HE1 := Bl.hid hE1
  clear hE1
  go_wp2_with fail
  refine (longA_any _ L1 w1 (H1.out.ext HE1.out)).mono ?_
  rintro e w2 ⟨(rfl | ⟨rfl, hl1, hq1⟩), hE2⟩
  · go_wp2_with fail
    go_ret
    exact ⟨rfl, HE1.out.trans hE2⟩
  have HE2 := Bl.hid (HE1.out.trans hE2)
  have Hq1 := Bl.hid hq1
  clear hE2 hq1 HE1
  go_wp2_with fail
  refine (longA_any _ L2 w2 (H2.out.ext HE2.out)).mono ?_
  rintro e w3 ⟨(rfl | ⟨rfl, hl2, hq2⟩), hE3⟩
  · go_wp2_with fail
    go_ret
    exact ⟨rfl, HE2.out.trans hE3⟩
  have HE3 := Bl.hid (HE2.out.trans hE3)
  have Hq2 := Bl.hid hq2
  clear hE3 hq2 HE2
  go_wp2_with fail
  refine (HLg.out w3 HE3.out).mono ?_
  rintro e w4 ⟨hw4, (rfl | ⟨rfl, h30, h200⟩)⟩
  · subst hw4
    go_wp2_with fail
    go_ret
    exact ⟨rfl, HE3.out⟩
  subst hw4
  have hl1' : n1 ≤ 30 := by rw [Hn1.out]; exact hl1
  have hl2' : n2 ≤ 30 := by rw [Hn2.out]; exact hl2
  have H200 := Bl.hid h200
  have H30 : Hid (ps.length ≤ 30) := Bl.hid (by omega)
  have Hw4 : Hid (w.heap.size ≤ w4.heap.size) := Bl.hid HE3.out.size
  clear h200 h30 HLg hl1 hl2
  go_wp2_with fail
  refine (dnew_any w4).mono ?_
  rintro e w5 ⟨rfl, hD5, hE5⟩
  obtain ⟨ba, hba⟩ : ∃ ba, ba = w4.heap.size := ⟨_, rfl⟩
  rw [← hba] at hD5 ⊢
  have HDm := Bl.hid (Bl.Dm.new w5 30)
  have HDa := Bl.hid (hD5.ext (Bl.ext_alloc w5 (.cells #[.slice none 0 0] 30)))
  have HE6 : Hid (Bl.Ext w4 (w5.alloc (.cells #[.slice none 0 0] 30))) := Bl.hid (hE5.trans (Bl.ext_alloc _ _))
  have HAp : Hid (Bl.Apt w4.heap.size ba w5.heap.size (w5.alloc (.cells #[.slice none 0 0] 30)) (.slice none 0 0) (.slice none 0 0)) := Bl.hid
    ⟨HDa.out.lt, HDm.out.lt, by omega, hE5.size, Nat.ne_of_lt hD5.lt, fun k hk => (by cases hk), fun k hk => (by cases hk)⟩
  clear hD5 hE5 hba
  go_wp2_with fail
  obtain ⟨W6, hW6⟩ : ∃ W6, W6 = w5.alloc (.cells #[.slice none 0 0] 30) := ⟨_, rfl⟩
  obtain ⟨bm, hbm⟩ : ∃ bm, bm = w5.heap.size := ⟨_, rfl⟩
  rw [← hW6] at HDm HDa HE6 HAp ⊢
  rw [← hbm] at HDm HAp ⊢
  clear hW6 hbm
  go_loopw [40] (fun x wr => ∃ (i : Nat) (va vm : Value) (A : List Bl.Nt), i ≤ n1 ∧ x = .int .i64 i ∧ Hid (Bl.Di wr ba va A ∧ Bl.Dm wr bm vm A ∧ Bl.Ris A ∧ A.length ≤ i ∧ Bl.Apt w4.heap.size ba bm wr va vm) ∧ Bl.Ext w4 wr) (fun x _ => n1 - (intOf x).toNat)
  case atStart => exact ⟨0, _, _, [], Nat.zero_le _, rfl, Bl.hid ⟨HDa.out, HDm.out, Bl.Ris.nil, Nat.le_refl _, HAp.out⟩, HE6.out⟩
  case round =>
    obtain ⟨i, va, vm, A, hi, rfl, HI, hE⟩ := hrel
    have HE := Bl.hid hE
    clear hE
    by_cases hlt : i < n1
    ·
      have hin : i < L1.length := by rw [← Hn1.out]; exact hlt
      have HEr := Bl.hid (HE3.out.trans HE.out)
      have HAP0 := Bl.hid (HI.out.2.2.2.2)
      have hRA := H1.out.ext HEr.out
      obtain ⟨g, o, cc, hpe, hcn, hcm, hgl, hel⟩ := hRA.pos (by omega)
      injection hpe with hp1 hp2 hp3
      subst hp1 hp3
      have hrg := hel i hin
      have hmem := Bl.getD_mem Bl.a0 hin
      obtain ⟨hxd, hxb, hxp, hxg⟩ := H1.out.ok _ hmem
      have hx40 := Hq1.out _ hmem
      obtain ⟨x, hx⟩ : ∃ x, x = L1.getD i Bl.a0 := ⟨_, rfl⟩
      rw [← hx] at hrg hxd hxb hxp hxg hx40
      have Hld := Bl.hid (run_loadAt_mid (P := Tryd.prog) wr g (o + i * 34) 34 _ _ hrg Tryd.underlying34 rfl (by rw [Bl.cA_len hxd]; kernel_rfl))
      obtain ⟨hB6, hE7⟩ := Bl.BoxC.fresh (cs := Bl.cA x) wr 34 #[.int .i64 0, .int .u8 0, .int .u8 0, .int .u8 0, .int .u8 0, .int .u8 0, .int .u8 0, .int .u8 0, .int .u8 0, .int .u8 0, .int .u8 0, .int .u8 0, .int .u8 0, .int .u8 0, .int .u8 0, .int .u8 0, .int .u8 0, .int .u8 0, .int .u8 0, .int .u8 0, .int .u8 0, .int .u8 0, .int .u8 0, .int .u8 0, .int .u8 0, .int .u8 0, .int .u8 0, .int .u8 0, .int .u8 0, .int .u8 0, .int .u8 0, .int .u8 0, .int .u8 0, .slice none 0 0] (by rw [Bl.cA_len hxd]; rfl) (Bl.cA_ne x)
      have Hst := Bl.hid (Bl.fresh_store (P := Tryd.prog) (cs := Bl.cA x) wr 34 #[.int .i64 0, .int .u8 0, .int .u8 0, .int .u8 0, .int .u8 0, .int .u8 0, .int .u8 0, .int .u8 0, .int .u8 0, .int .u8 0, .int .u8 0, .int .u8 0, .int .u8 0, .int .u8 0, .int .u8 0, .int .u8 0, .int .u8 0, .int .u8 0, .int .u8 0, .int .u8 0, .int .u8 0, .int .u8 0, .int .u8 0, .int .u8 0, .int .u8 0, .int .u8 0, .int .u8 0, .int .u8 0, .int .u8 0, .int .u8 0, .int .u8 0, .int .u8 0, .int .u8 0, .slice none 0 0] (by rw [Bl.cA_len hxd]; rfl) (Bl.cA_one hxp) (ty := 34) (by rw [Bl.cA_len hxd]; kernel_rfl))
      have HB7 := Bl.hid hB6
      have HE7 := Bl.hid hE7
      have Hxp := Bl.hid hxp
      have Hxd := Bl.hid (And.intro hxd hxb)
      have Hxg := Bl.hid hxg
      have Hx40 := Bl.hid hx40
      have hi0 : (0 : Int) ≤ (i : Int) := by omega
      have hi1 : (i : Int) < (n1 : Int) := by omega
      clear hel hrg hxd hxb hxp hxg hx40 hx hB6 hE7 hp2 hcn hcm hin hRA hmem
      go_wp2_with (with_reducible refine Bl.stop_load (ty := 34) ?_)
      refine Bl.go_on ?_
      refine Bl.wpL_load rfl Hld.out ?_
      go_wp2_with (with_reducible refine Bl.stop_store (ty := 34) ?_)
      refine Bl.go_on ?_
      refine Bl.wpL_store0 rfl rfl Hst.out ?_
      obtain ⟨W7, hW7⟩ : ∃ W7, W7 = (wr.alloc (.cells #[.int .i64 0, .int .u8 0, .int .u8 0, .int .u8 0, .int .u8 0, .int .u8 0, .int .u8 0, .int .u8 0, .int .u8 0, .int .u8 0, .int .u8 0, .int .u8 0, .int .u8 0, .int .u8 0, .int .u8 0, .int .u8 0, .int .u8 0, .int .u8 0, .int .u8 0, .int .u8 0, .int .u8 0, .int .u8 0, .int .u8 0, .int .u8 0, .int .u8 0, .int .u8 0, .int .u8 0, .int .u8 0, .int .u8 0, .int .u8 0, .int .u8 0, .int .u8 0, .int .u8 0, .slice none 0 0] 34)).setCells wr.heap.size 0 (Bl.cA x) := ⟨_, rfl⟩
      obtain ⟨X7, hX7⟩ : ∃ X7, X7 = wr.heap.size := ⟨_, rfl⟩
      rw [← hW7] at HB7 HE7 ⊢
      rw [← hX7] at HB7 ⊢
      have HX7 := Bl.hid hX7
      clear hW7 hX7 Hst Hld
      have HE48 := Bl.hid (HE.out.trans HE7.out)
      have HAp7 := Bl.hid (HAP0.out.ext HE7.out.size)
      have HDi7 := Bl.hid (HI.out.1.ext HE7.out)
      have HDm7 := Bl.hid (HI.out.2.1.ext HE7.out)
      have HX : Hid (X7 < W7.heap.size ∧ X7 ≠ ba ∧ X7 ≠ bm ∧ va.ownBlock ≠ some X7) := Bl.hid ⟨HB7.out.lt, by have := HAP0.out.la; rw [HX7.out]; omega, by have := HAP0.out.lm; rw [HX7.out]; omega, fun q => by have := (HAP0.out.oa X7 q).2.1; rw [HX7.out] at this; omega⟩
      have Hbs : Hid (w4.heap.size ≤ W7.heap.size) := Bl.hid HE48.out.size
      have HEw7 := Bl.hid (HE3.out.trans HE48.out)
      have HK20 := Bl.hid (Bl.takeE_le A x.1 x.2.1 x.2.2.2)
      obtain ⟨K, hK⟩ : ∃ K, K = Bl.takeE A x.1 x.2.1 x.2.2.2 := ⟨_, rfl⟩
      rw [← hK] at HK20
      have HK := Bl.hid hK
      clear hK
      have HTa : Hid (∀ w1 v, Bl.Ext w w1 → Bl.Ext w4 w1 → Bl.Di w1 ba va A → Bl.RdD w1 v x.2.2.2 → Calls Tryd.prog 13 #[.pointer (some ⟨ba, 0, none⟩), .int .i64 x.1, .agg (Bl.ints .u8 x.2.1).toArray, v] w1 fun e w' => e = .returned (errN a K) ∧ ∃ v', Bl.Di w' ba v' (Bl.takeN A x.1 x.2.1 x.2.2.2) ∧ (∀ k, v'.ownBlock = some k → va.ownBlock = some k ∨ w1.heap.size ≤ k) ∧ Bl.Adds w1 w' ba va.ownBlock) := Bl.hid fun w1 v h1 h2 h3 h4 => by
        rw [HK.out]
        exact dtake_any ba va A x.1 x.2.1 v x.2.2.2 w4 w1 S a h3 HI.out.2.2.1 (by have := HI.out.2.2.2.1; omega) Hxd.out h4 Hxg.out (He.out.ext h1) (HS.out 1 (by decide) (by decide)) (HS.out 8 (by decide) (by decide)) (HS.out 15 (by decide) (by decide)) (HS.out 19 (by decide) (by decide)) (Hg.out.ext h1).s h2 HAp7.out.fa (fun k hk => (HAp7.out.oa k hk).1)
      have HTm : Hid (∀ w1, Bl.Ext w w1 → Bl.Dm w1 bm vm A → Calls Tryd.prog 15 #[.pointer (some ⟨bm, 0, none⟩), .int .i64 x.1, .agg (Bl.ints .u8 x.2.1).toArray, x.2.2.1] w1 fun e w' => e = .returned (.int .i64 (K : Nat)) ∧ (∃ v', Bl.Dm w' bm v' (Bl.takeN A x.1 x.2.1 x.2.2.2) ∧ ∀ k, v'.ownBlock = some k → vm.ownBlock = some k ∨ (w1.heap.size ≤ k ∧ k < w'.heap.size)) ∧ Bl.Adds w1 w' bm none) := Bl.hid fun w1 h1 h3 => by
        rw [HK.out]
        exact mtake_any bm vm A x.1 x.2.1 x.2.2.1 x.2.2.2 w1 h3 (by have := HI.out.2.2.2.1; omega) Hxd.out (Bl.Rds.ext Hxp.out h1) Hxg.out (Hg.out.ext h1)
      have HDg := Bl.hid (fun w1 (h1 : Bl.Ext w w1) => digests13_any x.2.2.1 x.2.2.2 w1 (Bl.Rds.ext Hxp.out h1) Hxg.out (by have := Hx40.out; omega))
      have Hlm : Hid (bm < W7.heap.size) := Bl.hid HAp7.out.lm
      go_wp2_with fail
      apply Bl.wp_region_evK (Bl.Kp w4.heap.size ba bm W7 va) (Bl.PD 7 51 8 17 w4.heap.size ba bm W7 va vm A (Bl.takeN A x.1 x.2.1 x.2.2.2) x.2.2.2.length (Bl.cellsD x.2.2.2)) 19 [44, 45, 46, 47, 48, 49, 50, 51, 52, 53, 54, 55, 56, 57, 58, 59, 60, 61, 62] [Bl.eqv _, Bl.eqv _, Bl.eqv _, Bl.eqv _, Bl.eqv _, Bl.eqv _, Bl.eqv _, Bl.anyv, Bl.eqv _, Bl.eqv _, Bl.eqv _, Bl.eqv _, Bl.eqv _, Bl.eqv _, Bl.eqv _, Bl.eqv _, Bl.eqv _, Bl.eqv _, Bl.eqv _] (fun w => Bl.Kp.refl w) (fun a b c h k => Bl.Kp.trans h k) (by kernel_rfl) (by kernel_rfl) (by kernel_rfl) (by kernel_rfl)
      case hsteps =>
        refine ⟨?_, ?_, ?_, ?_, ?_, ?_, ?_, ?_, ?_, ?_, ?_, ?_, ?_, ?_, ?_, ?_, ?_, ?_, ?_, trivial⟩
        all_goals
          intro d ev w1 hext HJd Hanc Hdes hni hb hd
          replace Hanc := Bl.hid Hanc
          replace HJd := Bl.hid HJd
          replace Hdes := Bl.hid Hdes
          replace hni := Bl.hid hni
          have e7 := hb 7 (by decide)
          have e8 := hb 8 (by decide)
          have e10 := hb 10 (by decide)
          clear hb
          simp only [Array.getD_eq_getD_getElem?, List.getElem?_toArray, List.getElem?_cons_succ, List.getElem?_cons_zero, Option.getD_some] at e7 e8 e10
          simp only [Bl.DepsE2, List.getElem?_cons_succ, List.getElem?_cons_zero, Option.bind_some, List.getD_cons_succ, List.getD_cons_zero, Bl.eqv, and_true] at hd
          have hxw : Bl.Ext w w1 := Below.trans HEw7.out (Below.mono hext.bl Hw4.out)
          have h4w : Bl.Ext w4 w1 := Below.trans HE48.out hext.bl
          have hbx := HB7.out.same (hext.kp X7 HX.out.1 HX.out.2.1 HX.out.2.2.1 HX.out.2.2.2)
          have q0 := hbx.cell (Bl.cA_size x)
          have q33 := hbx.cell (Bl.cA_proof Hxd.out.1)
          rw [if_pos (rfl : Region.wanted _ _ = true)]
          first
          | ((with_reducible refine Bl.goodX_load (fun w => Bl.Kp.refl w) ?_ (Bl.load_ints (P := Tryd.prog) (ty := 31) (Bl.cA_rt hbx Hxd.out.1) Tryd.underlying31 (by kernel_rfl) Hxd.out.1) ?_); exact hd; exact ⟨rfl, HJd.out.same (by decide)⟩)
          | (go_simp; first | exact ⟨Bl.Kp.refl _, rfl, HJd.out.same (by decide)⟩ | exact ⟨Bl.Kp.refl _, HJd.out.same (by decide)⟩ | (go_at_call 14; (with_reducible refine (HDg.out w1 hxw).mono ?_); rintro e w2 ⟨p9, c9, rfl, hown, hE2⟩; exact ⟨_, rfl, HJd.out.p.kp hE2, trivial, HJd.out.dig hE2 (by decide) (Bl.RdsX.of_owns hown (fun q => by have := (hown.lt _ q).1; have := HJd.out.p.le; have := Hlm.out; omega))⟩) | (go_at_call 13; (with_reducible refine (HTa.out w1 _ hxw h4w (HJd.out.p.di hni.out) (HJd.out.r (Hanc.out 7 (by kernel_rfl)) hni.out).rds).mono ?_); rintro e w2 ⟨rfl, va', hD9, hv9, hA9⟩; have h5 := HJd.out.take1 (t := 52) (v := errN a K) (by decide) hni.out hD9 hv9 hA9; exact ⟨_, rfl, h5.1, rfl, h5.2⟩) | (go_at_call 12; (with_reducible refine (num_errN S a w1 K HS.out (He.out.ext hxw) HK20.out).mono ?_); rintro e w2 ⟨rfl, hE2⟩; exact ⟨_, rfl, HJd.out.p.kp hE2, rfl, HJd.out.step hE2 (by decide)⟩) | (go_at_call 15; (with_reducible refine (HTm.out w1 hxw (HJd.out.p.dm hni.out)).mono ?_); rintro e w2 ⟨rfl, ⟨vm', hD9, hv9⟩, hA9⟩; have h5 := HJd.out.take2 (t := 61) (v := .int .i64 (K : Nat)) (by decide) hni.out hD9 hv9 hA9; exact ⟨_, rfl, h5.1, rfl, h5.2⟩) | exact ⟨Below.refl _ _, rfl, Bl.HJ.same (by decide) HJd.out⟩)
      case hmono => exact ⟨Bl.monoR_eqv _, Bl.monoR_eqv _, Bl.monoR_eqv _, Bl.monoR_eqv _, Bl.monoR_eqv _, Bl.monoR_eqv _, Bl.monoR_eqv _, Bl.monoR_anyv, Bl.monoR_eqv _, Bl.monoR_eqv _, Bl.monoR_eqv _, Bl.monoR_eqv _, Bl.monoR_eqv _, Bl.monoR_eqv _, Bl.monoR_eqv _, Bl.monoR_eqv _, Bl.monoR_eqv _, Bl.monoR_eqv _, Bl.monoR_eqv _, trivial⟩
      case hR0 => exact Bl.Kp.drew _
      case hend =>
        intro u w1 hext hJ hend
        simp only [Bl.EndE, List.getElem?_cons_succ, List.getElem?_cons_zero, Option.bind_some, List.getD_cons_succ, List.getD_cons_zero, Bl.eqv, true_and] at hend
        simp only [Bl.fillAct, List.setIfInBounds_toArray, List.set_cons_succ, List.set_cons_zero, List.drop_succ_cons, List.drop_zero, hend]
        obtain ⟨va', vm', hDa', hDm', hAp', hoa', hom'⟩ := hJ.p.done rfl rfl
        have HE9 : Hid (Bl.Ext w4 w1) := Bl.hid (Below.trans HE48.out hext.bl)
        have HKp := Bl.hid hext
        have HI9 : Hid (Bl.Di w1 ba va' (Bl.takeN A x.1 x.2.1 x.2.2.2) ∧ Bl.Dm w1 bm vm' (Bl.takeN A x.1 x.2.1 x.2.2.2) ∧ Bl.Ris (Bl.takeN A x.1 x.2.1 x.2.2.2) ∧ (Bl.takeN A x.1 x.2.1 x.2.2.2).length ≤ i + 1 ∧ Bl.Apt w4.heap.size ba bm w1 va' vm') := Bl.hid
          ⟨hDa', hDm', HI.out.2.2.1.take _ _ _, by have := (Bl.takeN_len A x.1 x.2.1 x.2.2.2).1; have := HI.out.2.2.2.1; omega, hAp'⟩
        clear hDa' hDm' hAp' hoa' hom' hJ hext HKp
        go_wp2_with fail
        clear hend
        go_roundw
        case rel => exact ⟨i + 1, va', vm', _, by omega, by go_num, HI9, HE9.out⟩
        case measure => simp [intOf]; omega
      case hJ0 => exact ⟨Bl.PJ.start HAp7.out Hbs.out HDi7.out HDm7.out rfl, fun q => (by cases q)⟩
    · obtain rfl : i = n1 := by omega
      clear hlt hi
      have hAl : A.length ≤ 500 := by have := HI.out.2.2.2.1; omega
      have HrA := Bl.hid HI.out.2.2.1
      have HPa := Bl.hid (And.intro HI.out.1 (And.intro HI.out.2.1 HI.out.2.2.2.2))
      have HEa := HE
      clear HI HE HDa HDm HE6 HAp
      go_wp2_with fail
      refine (dnew_any wr).mono ?_
      rintro e w5' ⟨rfl, hD5, hE5⟩
      obtain ⟨bb, hbb⟩ : ∃ bb, bb = wr.heap.size := ⟨_, rfl⟩
      rw [← hbb] at hD5 ⊢
      have HDm := Bl.hid (Bl.Dm.new w5' 30)
      have HDb := Bl.hid (hD5.ext (Bl.ext_alloc w5' (.cells #[.slice none 0 0] 30)))
      have hEx : Bl.Ext wr (w5'.alloc (.cells #[.slice none 0 0] 30)) := hE5.trans (Bl.ext_alloc _ _)
      have HE6 : Hid (Bl.Ext w4 (w5'.alloc (.cells #[.slice none 0 0] 30))) := Bl.hid (HEa.out.trans hEx)
      have HAp : Hid (Bl.Apt w4.heap.size bb w5'.heap.size (w5'.alloc (.cells #[.slice none 0 0] 30)) (.slice none 0 0) (.slice none 0 0)) := Bl.hid
        ⟨HDb.out.lt, HDm.out.lt, by have := HEa.out.size; omega, Nat.le_trans HEa.out.size hE5.size, Nat.ne_of_lt hD5.lt, fun k hk => (by cases hk), fun k hk => (by cases hk)⟩
      have HPb : Hid (Bl.Di (w5'.alloc (.cells #[.slice none 0 0] 30)) ba va A ∧ Bl.Dm (w5'.alloc (.cells #[.slice none 0 0] 30)) bm vm A) := Bl.hid ⟨HPa.out.1.ext hEx, HPa.out.2.1.ext hEx⟩
      have HPk : Hid (∀ k, (k = ba ∨ k = bm ∨ va.ownBlock = some k ∨ vm.ownBlock = some k) → k < (w5'.alloc (.cells #[.slice none 0 0] 30)).heap.size ∧ k ≠ bb ∧ k ≠ w5'.heap.size) := Bl.hid fun k hk => by
        have h1 : k < wr.heap.size := by
          rcases hk with q | q | q | q
          · rw [q]; exact HPa.out.2.2.la
          · rw [q]; exact HPa.out.2.2.lm
          · exact (HPa.out.2.2.oa k q).2.1
          · exact (HPa.out.2.2.om k q).2.1
        have h2 := hE5.size
        have h3 := hEx.size
        exact ⟨by omega, by omega, by omega⟩
      clear hD5 hE5 hEx hbb
      go_wp2_with fail
      obtain ⟨W6', hW6⟩ : ∃ W6', W6' = w5'.alloc (.cells #[.slice none 0 0] 30) := ⟨_, rfl⟩
      obtain ⟨bn, hbn⟩ : ∃ bn, bn = w5'.heap.size := ⟨_, rfl⟩
      rw [← hW6] at HDm HDb HE6 HAp HPb HPk ⊢
      rw [← hbn] at HDm HAp HPk ⊢
      clear hW6 hbn HPa HEa
      go_loopw [69] (fun x wr => ∃ (i : Nat) (vb vn : Value) (B : List Bl.Nt), i ≤ n2 ∧ x = .int .i64 i ∧ Hid (Bl.Di wr bb vb B ∧ Bl.Dm wr bn vn B ∧ Bl.Ris B ∧ B.length ≤ i ∧ Bl.Apt w4.heap.size bb bn wr vb vn ∧ Bl.Di wr ba va A ∧ Bl.Dm wr bm vm A ∧ ∀ k, (k = ba ∨ k = bm ∨ va.ownBlock = some k ∨ vm.ownBlock = some k) → k < wr.heap.size ∧ k ≠ bb ∧ k ≠ bn ∧ vb.ownBlock ≠ some k) ∧ Bl.Ext w4 wr) (fun x _ => n2 - (intOf x).toNat)
      case atStart => exact ⟨0, _, _, [], Nat.zero_le _, rfl, Bl.hid ⟨HDb.out, HDm.out, Bl.Ris.nil, Nat.le_refl _, HAp.out, HPb.out.1, HPb.out.2, fun k hk => ⟨(HPk.out k hk).1, (HPk.out k hk).2.1, (HPk.out k hk).2.2, fun q => (by cases q)⟩⟩, HE6.out⟩
      case round =>
        clear HDb HDm HAp HPb HPk HE6
        obtain ⟨i, vb, vn, B, hi, rfl, HI, hE⟩ := hrel
        have HE := Bl.hid hE
        clear hE
        by_cases hlt : i < n2
        ·
          have hin : i < L2.length := by rw [← Hn2.out]; exact hlt
          have HEr := Bl.hid (HE3.out.trans HE.out)
          have HAP0 := Bl.hid (HI.out.2.2.2.2.1)
          have hRA := H2.out.ext HEr.out
          obtain ⟨g, o, cc, hpe, hcn, hcm, hgl, hel⟩ := hRA.pos (by omega)
          injection hpe with hp1 hp2 hp3
          subst hp1 hp3
          have hrg := hel i hin
          have hmem := Bl.getD_mem Bl.a0 hin
          obtain ⟨hxd, hxb, hxp, hxg⟩ := H2.out.ok _ hmem
          have hx40 := Hq2.out _ hmem
          obtain ⟨x, hx⟩ : ∃ x, x = L2.getD i Bl.a0 := ⟨_, rfl⟩
          rw [← hx] at hrg hxd hxb hxp hxg hx40
          have Hld := Bl.hid (run_loadAt_mid (P := Tryd.prog) wr g (o + i * 34) 34 _ _ hrg Tryd.underlying34 rfl (by rw [Bl.cA_len hxd]; kernel_rfl))
          obtain ⟨hB6, hE7⟩ := Bl.BoxC.fresh (cs := Bl.cA x) wr 34 #[.int .i64 0, .int .u8 0, .int .u8 0, .int .u8 0, .int .u8 0, .int .u8 0, .int .u8 0, .int .u8 0, .int .u8 0, .int .u8 0, .int .u8 0, .int .u8 0, .int .u8 0, .int .u8 0, .int .u8 0, .int .u8 0, .int .u8 0, .int .u8 0, .int .u8 0, .int .u8 0, .int .u8 0, .int .u8 0, .int .u8 0, .int .u8 0, .int .u8 0, .int .u8 0, .int .u8 0, .int .u8 0, .int .u8 0, .int .u8 0, .int .u8 0, .int .u8 0, .int .u8 0, .slice none 0 0] (by rw [Bl.cA_len hxd]; rfl) (Bl.cA_ne x)
          have Hst := Bl.hid (Bl.fresh_store (P := Tryd.prog) (cs := Bl.cA x) wr 34 #[.int .i64 0, .int .u8 0, .int .u8 0, .int .u8 0, .int .u8 0, .int .u8 0, .int .u8 0, .int .u8 0, .int .u8 0, .int .u8 0, .int .u8 0, .int .u8 0, .int .u8 0, .int .u8 0, .int .u8 0, .int .u8 0, .int .u8 0, .int .u8 0, .int .u8 0, .int .u8 0, .int .u8 0, .int .u8 0, .int .u8 0, .int .u8 0, .int .u8 0, .int .u8 0, .int .u8 0, .int .u8 0, .int .u8 0, .int .u8 0, .int .u8 0, .int .u8 0, .int .u8 0, .slice none 0 0] (by rw [Bl.cA_len hxd]; rfl) (Bl.cA_one hxp) (ty := 34) (by rw [Bl.cA_len hxd]; kernel_rfl))
          have HB7 := Bl.hid hB6
          have HE7 := Bl.hid hE7
          have Hxp := Bl.hid hxp
          have Hxd := Bl.hid (And.intro hxd hxb)
          have Hxg := Bl.hid hxg
          have Hx40 := Bl.hid hx40
          have hi0 : (0 : Int) ≤ (i : Int) := by omega
          have hi1 : (i : Int) < (n2 : Int) := by omega
          clear hel hrg hxd hxb hxp hxg hx40 hx hB6 hE7 hp2 hcn hcm hin hRA hmem
          go_wp2_with (with_reducible refine Bl.stop_load (ty := 34) ?_)
          refine Bl.go_on ?_
          refine Bl.wpL_load rfl Hld.out ?_
          go_wp2_with (with_reducible refine Bl.stop_store (ty := 34) ?_)
          refine Bl.go_on ?_
          refine Bl.wpL_store0 rfl rfl Hst.out ?_
          obtain ⟨W7, hW7⟩ : ∃ W7, W7 = (wr.alloc (.cells #[.int .i64 0, .int .u8 0, .int .u8 0, .int .u8 0, .int .u8 0, .int .u8 0, .int .u8 0, .int .u8 0, .int .u8 0, .int .u8 0, .int .u8 0, .int .u8 0, .int .u8 0, .int .u8 0, .int .u8 0, .int .u8 0, .int .u8 0, .int .u8 0, .int .u8 0, .int .u8 0, .int .u8 0, .int .u8 0, .int .u8 0, .int .u8 0, .int .u8 0, .int .u8 0, .int .u8 0, .int .u8 0, .int .u8 0, .int .u8 0, .int .u8 0, .int .u8 0, .int .u8 0, .slice none 0 0] 34)).setCells wr.heap.size 0 (Bl.cA x) := ⟨_, rfl⟩
          obtain ⟨X7, hX7⟩ : ∃ X7, X7 = wr.heap.size := ⟨_, rfl⟩
          rw [← hW7] at HB7 HE7 ⊢
          rw [← hX7] at HB7 ⊢
          have HX7 := Bl.hid hX7
          clear hW7 hX7 Hst Hld
          have HE48 := Bl.hid (HE.out.trans HE7.out)
          have HAp7 := Bl.hid (HAP0.out.ext HE7.out.size)
          have HDi7 := Bl.hid (HI.out.1.ext HE7.out)
          have HDm7 := Bl.hid (HI.out.2.1.ext HE7.out)
          have HX : Hid (X7 < W7.heap.size ∧ X7 ≠ bb ∧ X7 ≠ bn ∧ vb.ownBlock ≠ some X7) := Bl.hid ⟨HB7.out.lt, by have := HAP0.out.la; rw [HX7.out]; omega, by have := HAP0.out.lm; rw [HX7.out]; omega, fun q => by have := (HAP0.out.oa X7 q).2.1; rw [HX7.out] at this; omega⟩
          have Hbs : Hid (w4.heap.size ≤ W7.heap.size) := Bl.hid HE48.out.size
          have HEw7 := Bl.hid (HE3.out.trans HE48.out)
          have HK20 := Bl.hid (Bl.takeE_le B x.1 x.2.1 x.2.2.2)
          obtain ⟨K, hK⟩ : ∃ K, K = Bl.takeE B x.1 x.2.1 x.2.2.2 := ⟨_, rfl⟩
          rw [← hK] at HK20
          have HK := Bl.hid hK
          clear hK
          have HTa : Hid (∀ w1 v, Bl.Ext w w1 → Bl.Ext w4 w1 → Bl.Di w1 bb vb B → Bl.RdD w1 v x.2.2.2 → Calls Tryd.prog 13 #[.pointer (some ⟨bb, 0, none⟩), .int .i64 x.1, .agg (Bl.ints .u8 x.2.1).toArray, v] w1 fun e w' => e = .returned (errN a K) ∧ ∃ v', Bl.Di w' bb v' (Bl.takeN B x.1 x.2.1 x.2.2.2) ∧ (∀ k, v'.ownBlock = some k → vb.ownBlock = some k ∨ w1.heap.size ≤ k) ∧ Bl.Adds w1 w' bb vb.ownBlock) := Bl.hid fun w1 v h1 h2 h3 h4 => by
            rw [HK.out]
            exact dtake_any bb vb B x.1 x.2.1 v x.2.2.2 w4 w1 S a h3 HI.out.2.2.1 (by have := HI.out.2.2.2.1; omega) Hxd.out h4 Hxg.out (He.out.ext h1) (HS.out 1 (by decide) (by decide)) (HS.out 8 (by decide) (by decide)) (HS.out 15 (by decide) (by decide)) (HS.out 19 (by decide) (by decide)) (Hg.out.ext h1).s h2 HAp7.out.fa (fun k hk => (HAp7.out.oa k hk).1)
          have HTm : Hid (∀ w1, Bl.Ext w w1 → Bl.Dm w1 bn vn B → Calls Tryd.prog 15 #[.pointer (some ⟨bn, 0, none⟩), .int .i64 x.1, .agg (Bl.ints .u8 x.2.1).toArray, x.2.2.1] w1 fun e w' => e = .returned (.int .i64 (K : Nat)) ∧ (∃ v', Bl.Dm w' bn v' (Bl.takeN B x.1 x.2.1 x.2.2.2) ∧ ∀ k, v'.ownBlock = some k → vn.ownBlock = some k ∨ (w1.heap.size ≤ k ∧ k < w'.heap.size)) ∧ Bl.Adds w1 w' bn none) := Bl.hid fun w1 h1 h3 => by
            rw [HK.out]
            exact mtake_any bn vn B x.1 x.2.1 x.2.2.1 x.2.2.2 w1 h3 (by have := HI.out.2.2.2.1; omega) Hxd.out (Bl.Rds.ext Hxp.out h1) Hxg.out (Hg.out.ext h1)
          have HDg := Bl.hid (fun w1 (h1 : Bl.Ext w w1) => digests13_any x.2.2.1 x.2.2.2 w1 (Bl.Rds.ext Hxp.out h1) Hxg.out (by have := Hx40.out; omega))
          have Hlm : Hid (bn < W7.heap.size) := Bl.hid HAp7.out.lm
          go_wp2_with fail
          apply Bl.wp_region_evK (Bl.Kp w4.heap.size bb bn W7 vb) (Bl.PD 7 80 8 17 w4.heap.size bb bn W7 vb vn B (Bl.takeN B x.1 x.2.1 x.2.2.2) x.2.2.2.length (Bl.cellsD x.2.2.2)) 19 [73, 74, 75, 76, 77, 78, 79, 80, 81, 82, 83, 84, 85, 86, 87, 88, 89, 90, 91] [Bl.eqv _, Bl.eqv _, Bl.eqv _, Bl.eqv _, Bl.eqv _, Bl.eqv _, Bl.eqv _, Bl.anyv, Bl.eqv _, Bl.eqv _, Bl.eqv _, Bl.eqv _, Bl.eqv _, Bl.eqv _, Bl.eqv _, Bl.eqv _, Bl.eqv _, Bl.eqv _, Bl.eqv _] (fun w => Bl.Kp.refl w) (fun a b c h k => Bl.Kp.trans h k) (by kernel_rfl) (by kernel_rfl) (by kernel_rfl) (by kernel_rfl)
          case hsteps =>
            refine ⟨?_, ?_, ?_, ?_, ?_, ?_, ?_, ?_, ?_, ?_, ?_, ?_, ?_, ?_, ?_, ?_, ?_, ?_, ?_, trivial⟩
            all_goals
              intro d ev w1 hext HJd Hanc Hdes hni hb hd
              replace Hanc := Bl.hid Hanc
              replace HJd := Bl.hid HJd
              replace Hdes := Bl.hid Hdes
              replace hni := Bl.hid hni
              have e11 := hb 11 (by decide)
              have e12 := hb 12 (by decide)
              have e14 := hb 14 (by decide)
              clear hb
              simp only [Array.getD_eq_getD_getElem?, List.getElem?_toArray, List.getElem?_cons_succ, List.getElem?_cons_zero, Option.getD_some] at e11 e12 e14
              simp only [Bl.DepsE2, List.getElem?_cons_succ, List.getElem?_cons_zero, Option.bind_some, List.getD_cons_succ, List.getD_cons_zero, Bl.eqv, and_true] at hd
              have hxw : Bl.Ext w w1 := Below.trans HEw7.out (Below.mono hext.bl Hw4.out)
              have h4w : Bl.Ext w4 w1 := Below.trans HE48.out hext.bl
              have hbx := HB7.out.same (hext.kp X7 HX.out.1 HX.out.2.1 HX.out.2.2.1 HX.out.2.2.2)
              have q0 := hbx.cell (Bl.cA_size x)
              have q33 := hbx.cell (Bl.cA_proof Hxd.out.1)
              rw [if_pos (rfl : Region.wanted _ _ = true)]
              first
              | ((with_reducible refine Bl.goodX_load (fun w => Bl.Kp.refl w) ?_ (Bl.load_ints (P := Tryd.prog) (ty := 31) (Bl.cA_rt hbx Hxd.out.1) Tryd.underlying31 (by kernel_rfl) Hxd.out.1) ?_); exact hd; exact ⟨rfl, HJd.out.same (by decide)⟩)
              | (go_simp; first | exact ⟨Bl.Kp.refl _, rfl, HJd.out.same (by decide)⟩ | exact ⟨Bl.Kp.refl _, HJd.out.same (by decide)⟩ | (go_at_call 14; (with_reducible refine (HDg.out w1 hxw).mono ?_); rintro e w2 ⟨p9, c9, rfl, hown, hE2⟩; exact ⟨_, rfl, HJd.out.p.kp hE2, trivial, HJd.out.dig hE2 (by decide) (Bl.RdsX.of_owns hown (fun q => by have := (hown.lt _ q).1; have := HJd.out.p.le; have := Hlm.out; omega))⟩) | (go_at_call 13; (with_reducible refine (HTa.out w1 _ hxw h4w (HJd.out.p.di hni.out) (HJd.out.r (Hanc.out 7 (by kernel_rfl)) hni.out).rds).mono ?_); rintro e w2 ⟨rfl, va', hD9, hv9, hA9⟩; have h5 := HJd.out.take1 (t := 81) (v := errN a K) (by decide) hni.out hD9 hv9 hA9; exact ⟨_, rfl, h5.1, rfl, h5.2⟩) | (go_at_call 12; (with_reducible refine (num_errN S a w1 K HS.out (He.out.ext hxw) HK20.out).mono ?_); rintro e w2 ⟨rfl, hE2⟩; exact ⟨_, rfl, HJd.out.p.kp hE2, rfl, HJd.out.step hE2 (by decide)⟩) | (go_at_call 15; (with_reducible refine (HTm.out w1 hxw (HJd.out.p.dm hni.out)).mono ?_); rintro e w2 ⟨rfl, ⟨vm', hD9, hv9⟩, hA9⟩; have h5 := HJd.out.take2 (t := 90) (v := .int .i64 (K : Nat)) (by decide) hni.out hD9 hv9 hA9; exact ⟨_, rfl, h5.1, rfl, h5.2⟩) | exact ⟨Below.refl _ _, rfl, Bl.HJ.same (by decide) HJd.out⟩)
          case hmono => exact ⟨Bl.monoR_eqv _, Bl.monoR_eqv _, Bl.monoR_eqv _, Bl.monoR_eqv _, Bl.monoR_eqv _, Bl.monoR_eqv _, Bl.monoR_eqv _, Bl.monoR_anyv, Bl.monoR_eqv _, Bl.monoR_eqv _, Bl.monoR_eqv _, Bl.monoR_eqv _, Bl.monoR_eqv _, Bl.monoR_eqv _, Bl.monoR_eqv _, Bl.monoR_eqv _, Bl.monoR_eqv _, Bl.monoR_eqv _, Bl.monoR_eqv _, trivial⟩
          case hR0 => exact Bl.Kp.drew _
          case hend =>
            intro u w1 hext hJ hend
            simp only [Bl.EndE, List.getElem?_cons_succ, List.getElem?_cons_zero, Option.bind_some, List.getD_cons_succ, List.getD_cons_zero, Bl.eqv, true_and] at hend
            simp only [Bl.fillAct, List.setIfInBounds_toArray, List.set_cons_succ, List.set_cons_zero, List.drop_succ_cons, List.drop_zero, hend]
            obtain ⟨va', vm', hDa', hDm', hAp', hoa', hom'⟩ := hJ.p.done rfl rfl
            have HE9 : Hid (Bl.Ext w4 w1) := Bl.hid (Below.trans HE48.out hext.bl)
            have HKp := Bl.hid hext
            have HI9 : Hid (Bl.Di w1 bb va' (Bl.takeN B x.1 x.2.1 x.2.2.2) ∧ Bl.Dm w1 bn vm' (Bl.takeN B x.1 x.2.1 x.2.2.2) ∧ Bl.Ris (Bl.takeN B x.1 x.2.1 x.2.2.2) ∧ (Bl.takeN B x.1 x.2.1 x.2.2.2).length ≤ i + 1 ∧ Bl.Apt w4.heap.size bb bn w1 va' vm' ∧ Bl.Di w1 ba va A ∧ Bl.Dm w1 bm vm A ∧ ∀ k, (k = ba ∨ k = bm ∨ va.ownBlock = some k ∨ vm.ownBlock = some k) → k < w1.heap.size ∧ k ≠ bb ∧ k ≠ bn ∧ va'.ownBlock ≠ some k) := Bl.hid (by
              have hsz := HE7.out.size
              have hk : ∀ k, (k = ba ∨ k = bm ∨ va.ownBlock = some k ∨ vm.ownBlock = some k) → w1.heap[k]? = W7.heap[k]? := fun k hk => by
                obtain ⟨q1, q2, q3, q4⟩ := HI.out.2.2.2.2.2.2.2 k hk
                exact HKp.out.kp k (Nat.lt_of_lt_of_le q1 hsz) q2 q3 q4
              refine ⟨hDa', hDm', HI.out.2.2.1.take _ _ _, by have := (Bl.takeN_len B x.1 x.2.1 x.2.2.2).1; have := HI.out.2.2.2.1; omega, hAp', ?_, ?_, fun k q => ?_⟩
              · exact (HI.out.2.2.2.2.2.1.ext HE7.out).kept (hk ba (.inl rfl)) (fun k q => hk k (.inr (.inr (.inl q)))) hJ.p.le
              · exact (HI.out.2.2.2.2.2.2.1.ext HE7.out).kept (hk bm (.inr (.inl rfl))) (fun k q => hk k (.inr (.inr (.inr q))))
              · obtain ⟨q1, q2, q3, q4⟩ := HI.out.2.2.2.2.2.2.2 k q
                refine ⟨Nat.lt_of_lt_of_le q1 (Nat.le_trans hsz hJ.p.le), q2, q3, fun z => ?_⟩
                rcases hoa' k z with y | y
                · exact q4 y
                · omega)
            clear hDa' hDm' hAp' hoa' hom' hJ hext HKp
            go_wp2_with fail
            clear hend
            go_roundw
            case rel => exact ⟨i + 1, va', vm', _, by omega, by go_num, HI9, HE9.out⟩
            case measure => simp [intOf]; omega
          case hJ0 => exact ⟨Bl.PJ.start HAp7.out Hbs.out HDi7.out HDm7.out rfl, fun q => (by cases q)⟩
        · obtain rfl : i = n2 := by omega
          clear hlt hi
          have hBl : B.length ≤ 500 := by have := HI.out.2.2.2.1; omega
          have HrB := Bl.hid HI.out.2.2.1
          have HDa := Bl.hid HI.out.2.2.2.2.2.1
          have HMa := Bl.hid HI.out.2.2.2.2.2.2.1
          have HDb := Bl.hid HI.out.1
          have HMb := Bl.hid HI.out.2.1
          have HEr := Bl.hid (HE3.out.trans HE.out)
          clear HI
          have HF1 := Bl.hid (dfork_any ba bb va vb A B wr HDa.out HDb.out HrB.out hAl hBl)
          have HF2 := Bl.hid (fun w2 (h2 : Bl.Ext wr w2) => mfork_any bm bn vm vn A B w2 (HMa.out.ext h2) (HMb.out.ext h2) HrA.out HrB.out hAl hBl)
          have HF3 : Hid (∀ w2, Bl.Ext wr w2 → Calls Tryd.prog 27 #[.pointer (some ⟨bb, 0, none⟩), .pointer (some ⟨ba, 0, none⟩)] w2 fun e w' => e = .returned (.tuple #[.int .i64 (Bl.forkS A B : Nat), .bool (Bl.forkB A B)]) ∧ Bl.Ext w2 w') := Bl.hid fun w2 h2 => by
            have h := dfork_any bb ba vb va B A w2 (HDb.out.ext h2) (HDa.out.ext h2) HrA.out hBl hAl
            rw [(Bl.fork_symm HrA.out HrB.out).1, (Bl.fork_symm HrA.out HrB.out).2] at h
            exact h
          have HAa : Hid (∀ w2, Bl.Ext wr w2 → Calls Tryd.prog 24 #[.pointer (some ⟨ba, 0, none⟩), vl] w2 fun e w' => e = .returned (errN a (Bl.agAll A ps)) ∧ Bl.Ext w2 w') := Bl.hid fun w2 h2 =>
            dagrees_any ba va A vl ps w2 S a (HDa.out.ext h2) HrA.out hAl (HR.out.ext (HEr.out.trans h2)) Hby.out (fun q hq => by have := H200.out q hq; omega) (by have := H30.out; omega) (He.out.ext (HEr.out.trans h2)) (HS.out 2 (by decide) (by decide)) (HS.out 15 (by decide) (by decide)) (Hg.out.ext (HEr.out.trans h2)).s
          have HAm : Hid (∀ w2, Bl.Ext wr w2 → Calls Tryd.prog 29 #[.pointer (some ⟨bm, 0, none⟩), vl] w2 fun e w' => e = .returned (.int .i64 (Bl.agAll A ps : Nat)) ∧ Bl.Ext w2 w') := Bl.hid fun w2 h2 =>
            magrees_any bm vm A vl ps w2 (HMa.out.ext h2) HrA.out hAl (HR.out.ext (HEr.out.trans h2)) Hby.out (fun q hq => by have := H200.out q hq; omega) (by have := H30.out; omega) (Hg.out.ext (HEr.out.trans h2))
          have HK20 := Bl.hid (Bl.agAll_le A ps)
          obtain ⟨fs, hfs⟩ : ∃ fs, fs = Bl.forkS A B := ⟨_, rfl⟩
          obtain ⟨fb, hfb⟩ : ∃ fb, fb = Bl.forkB A B := ⟨_, rfl⟩
          obtain ⟨K, hK⟩ : ∃ K, K = Bl.agAll A ps := ⟨_, rfl⟩
          rw [← hfs, ← hfb] at HF1 HF2 HF3
          rw [← hK] at HAa HAm HK20
          clear hfs hfb hK HDa HMa HDb HMb
          go_wp2_with fail
          refine HF1.out.mono ?_
          rintro e w9 ⟨rfl, hE9⟩
          have HE9 := Bl.hid hE9
          clear hE9
          go_wp2_with fail
          refine (HF2.out w9 HE9.out).mono ?_
          rintro e w10 ⟨rfl, hE10⟩
          have HE10 := Bl.hid (HE9.out.trans hE10)
          clear hE10
          go_wp2_with fail
          refine (HF3.out w10 HE10.out).mono ?_
          rintro e w11 ⟨rfl, hE11⟩
          have HE11 := Bl.hid (HE10.out.trans hE11)
          clear hE11
          cases fb with
          | true =>
            go_wp2_with fail
            refine (HAa.out w11 HE11.out).mono ?_
            rintro e w12 ⟨rfl, hE12⟩
            have HE12 := Bl.hid (HE11.out.trans hE12)
            clear hE12
            go_wp2_with fail
            refine (num_errN S a w12 K HS.out (He.out.ext (HEr.out.trans HE12.out)) HK20.out).mono ?_
            rintro e w13 ⟨rfl, hE13⟩
            have HE13 := Bl.hid (HE12.out.trans hE13)
            clear hE13
            go_wp2_with fail
            refine (HAm.out w13 HE13.out).mono ?_
            rintro e w14 ⟨rfl, hE14⟩
            have HE14 := Bl.hid (HE13.out.trans hE14)
            clear hE14
            go_wp2_with fail
            refine (dfork_nil _ w14).mono ?_
            rintro e w15 ⟨rfl, hw15⟩
            subst hw15
            go_wp2_with fail
            go_ret
            exact ⟨rfl, HEr.out.trans HE14.out⟩
          | false =>
            go_wp2_with fail
            refine (HAa.out w11 HE11.out).mono ?_
            rintro e w12 ⟨rfl, hE12⟩
            have HE12 := Bl.hid (HE11.out.trans hE12)
            clear hE12
            go_wp2_with fail
            refine (num_errN S a w12 K HS.out (He.out.ext (HEr.out.trans HE12.out)) HK20.out).mono ?_
            rintro e w13 ⟨rfl, hE13⟩
            have HE13 := Bl.hid (HE12.out.trans hE13)
            clear hE13
            go_wp2_with fail
            refine (HAm.out w13 HE13.out).mono ?_
            rintro e w14 ⟨rfl, hE14⟩
            have HE14 := Bl.hid (HE13.out.trans hE14)
            clear hE14
            go_wp2_with fail
            refine (dfork_nil _ w14).mono ?_
            rintro e w15 ⟨rfl, hw15⟩
            subst hw15
            go_wp2_with fail
            go_ret
            exact ⟨rfl, HEr.out.trans HE14.out⟩
end Go.Proofs.YtmfooocdnoflaaaDoor

/- Walk of the law DiaryLeaves. -/
import Derived.Test.YtmfooocdnoflaaaGreatDoorDia2
import Derived.Test.YtmfooocdnoflaaaGreatDoorRv0
import Derived.Test.YtmfooocdnoflaaaGreatDoorDia3
import Derived.Test.YtmfooocdnoflaaaGreatDoorWLeaf
import Derived.Test.YtmfooocdnoflaaaGreatDoorWClash2
import Derived.Test.YtmfooocdnoflaaaGreatDoorWl0
import Derived.Test.YtmfooocdnoflaaaGreatDoorNm0
import Derived.Test.YtmfooocdnoflaaaGreatDoorGak
namespace Go.Proofs.Bl
open Go Go.RowKit
theorem take_nil {n : Int} (h1 : 1 ≤ n) (h2 : n ≤ 512) (r : List Int) : takeE [] n r [] = 0 := by
  unfold takeE; rw [if_neg (by omega)]; rfl
theorem takeN_nil {n : Nat} (h1 : 1 ≤ n) (h2 : n ≤ 512) (r : List Int) : takeN [] (n : Int) r [] = [(n, r)] := by
  unfold takeN
  rw [take_nil (by omega) (by omega) r, if_pos ⟨rfl, by simp [lastN, n0]; omega⟩]
  rfl
theorem leaf_one (n : Nat) (r : List Int) (i : Int) (l : List Int) (p : List (List Int)) : leafE [(n, r)] (n : Int) i l p = chkP r n i l p := by
  unfold leafE hasN atN
  simp
theorem chkP_there {root : List Int} {n i : Int} {l : List Int} {p : List (List Int)} (h : chkP root n i l p = 0) : 0 ≤ i ∧ i < n := by
  by_cases q : n ≤ 512 ∧ 0 ≤ i ∧ i < n
  · exact q.2
  · rw [chkP_range (thereB_no q)] at h; cases h
end Go.Proofs.Bl
namespace Go.Proofs.YtmfooocdnoflaaaGreatDoor
open Go Go.RowKit Go.Proofs

set_option maxRecDepth 100000 in
set_option maxHeartbeats 40000000 in
theorem dlvs_all (v v2 : Value) (ps : List (List Int)) (cs : List Value) (root : List Int) (nn ii : Int) (vl vp : Value) (l : List Int) (p : List (List Int)) (L1 : List Bl.Ac) (w : World) (S : List Nat) (a : Nat → Addr) (hR : Bl.Rdss w v ps) (hA : Bl.AskC cs root nn ii vl vp) (hl : Bl.Rd w .u8 vl l) (hbl : Bl.Byt l) (hby : ∀ q ∈ ps, Bl.Byt q) (hp : Bl.RdD w vp p) (hdp : Bl.Dig p) (h1 : Bl.RdA w v2 L1) (hg : GlobR w) (hS : ∀ i, 1 ≤ i → i ≤ 20 → i ∈ S) (he : Errs S a w) :
    Calls Tryz.prog 3 #[v, .agg cs.toArray, v2] w fun e w' => e = .returned (.bool true) ∧ Bl.Ext w w' := by
  have hR2 := hR
  obtain ⟨ws, hv, hwl, hws⟩ := hR2
  obtain ⟨pv, cvv, hvf, hvn, hvc⟩ := hv.form
  subst hvf
  obtain ⟨pl, cl, hvlf, hvln, hvlc⟩ := hl.form
  subst hvlf
  obtain ⟨pp, cp, hvpf, hvpn, hvpc⟩ := hp.form
  subst hvpf
  obtain ⟨p1, c1, hf1, hn1, hc1⟩ := h1.rd.form
  subst hf1
  unfold maxLen at hvlc hvpc hvc hc1
  have HR := Bl.hid hR
  have Hv := Bl.hid hv
  have Hwl := Bl.hid hwl
  have Hws := Bl.hid hws
  have Hby := Bl.hid hby
  have Hbl := Bl.hid hbl
  have Hl := Bl.hid hl
  have HA0 := Bl.hid (hA.at' w 27)
  have HE0 := Bl.hid (Bl.ext_alloc w (.cells cs.toArray 27))
  have Hp := Bl.hid hp
  have Hdp := Bl.hid hdp
  have Hg := Bl.hid hg
  have H1 := Bl.hid h1
  have HS := Bl.hid hS
  have He := Bl.hid he
  obtain ⟨n1, hnn1⟩ : ∃ n1, n1 = L1.length := ⟨_, rfl⟩
  have Hn1 := Bl.hid hnn1
  rw [← hnn1] at H1 hn1 ⊢
  clear hA hl hp hdp hg hR hv hwl hws hby hbl h1 hS he hnn1
  go_enter Tryz.func3, Tryz.ntmps3
  go_wp2_with fail
  generalize w.alloc (.cells cs.toArray 27) = W0 at HA0 HE0 ⊢
  generalize w.heap.size = BB at HA0 ⊢
  refine (alive39 W0 S a (He.out.ext HE0.out) HS.out (Hg.out.ext HE0.out).s).mono ?_
  rintro e w1 ⟨rfl, hE1⟩
  have HA1 := Bl.hid (HA0.out.ext hE1)
  have HE1 := Bl.hid (HE0.out.trans hE1)
  clear hE1 HA0 HE0
  go_wp2_with fail
  refine (long_any _ ps w1 30 (Bl.Rdss.ext HR.out HE1.out)).mono ?_
  rintro e w2 ⟨hw2, hlo⟩
  replace hw2 := hw2.symm
  subst hw2
  rcases hlo with rfl | ⟨rfl, h30, h200⟩
  · go_wp2_with fail
    go_ret
    exact ⟨rfl, HE1.out⟩
  have H200 : Hid (∀ q ∈ ps, q.length ≤ 200) := Bl.hid h200
  have H30 : Hid (ps.length ≤ 30) := Bl.hid (by omega)
  clear h200 h30
  go_wp2_with fail
  refine (longA_any _ L1 w1 (H1.out.ext HE1.out)).mono ?_
  rintro e w4 ⟨(rfl | ⟨rfl, hl1, hq1⟩), hE2⟩
  · go_wp2_with fail
    go_ret
    exact ⟨rfl, HE1.out.trans hE2⟩
  have HAk := Bl.hid (HA1.out.ext hE2)
  have HE3 := Bl.hid (HE1.out.trans hE2)
  have Hq1 := Bl.hid hq1
  have hl1' : n1 ≤ 30 := by rw [Hn1.out]; exact hl1
  have Hl1 := Bl.hid hl1'
  have hq4 := HAk.out.leaf
  have hq5 := HAk.out.path
  clear hE2 hq1 HE1 HA1 hl1
  by_cases hl200 : (200 : Int) < (l.length : Int)
  · go_wp2_with fail
    go_ret
    exact ⟨rfl, HE3.out⟩
  by_cases hp40 : (40 : Int) < (p.length : Int)
  · go_wp2_with fail
    go_ret
    exact ⟨rfl, HE3.out⟩
  have Hl2 : Hid (l.length ≤ 200) := Bl.hid (by omega)
  have Hp2 : Hid (p.length ≤ 40) := Bl.hid (by omega)
  have Hw4 : Hid (w.heap.size ≤ w4.heap.size) := Bl.hid HE3.out.size
  go_wp2_with fail
  refine (dnew_any w4).mono ?_
  rintro e w5 ⟨rfl, hD5, hE5⟩
  obtain ⟨ba, hba⟩ : ∃ ba, ba = w4.heap.size := ⟨_, rfl⟩
  rw [← hba] at hD5 ⊢
  have HDm := Bl.hid (Bl.Dm.new w5 37)
  have HDa := Bl.hid (hD5.ext (Bl.ext_alloc w5 (.cells #[.slice none 0 0] 37)))
  have HE6 : Hid (Bl.Ext w4 (w5.alloc (.cells #[.slice none 0 0] 37))) := Bl.hid (hE5.trans (Bl.ext_alloc _ _))
  have HAp : Hid (Bl.Apt w4.heap.size ba w5.heap.size (w5.alloc (.cells #[.slice none 0 0] 37)) (.slice none 0 0) (.slice none 0 0)) := Bl.hid
    ⟨HDa.out.lt, HDm.out.lt, by omega, hE5.size, Nat.ne_of_lt hD5.lt, fun k hk => (by cases hk), fun k hk => (by cases hk)⟩
  clear hD5 hE5 hba
  go_wp2_with fail
  obtain ⟨W6, hW6⟩ : ∃ W6, W6 = w5.alloc (.cells #[.slice none 0 0] 37) := ⟨_, rfl⟩
  obtain ⟨bm, hbm⟩ : ∃ bm, bm = w5.heap.size := ⟨_, rfl⟩
  rw [← hW6] at HDm HDa HE6 HAp ⊢
  rw [← hbm] at HDm HAp ⊢
  clear hW6 hbm
  go_loopw [41] (fun x wr => ∃ (i : Nat) (va vm : Value) (A : List Bl.Nt), i ≤ n1 ∧ x = .int .i64 i ∧ Hid (Bl.Di wr ba va A ∧ Bl.Dm wr bm vm A ∧ Bl.Ris A ∧ A.length ≤ i ∧ Bl.Apt w4.heap.size ba bm wr va vm) ∧ Bl.Ext w4 wr) (fun x _ => n1 - (intOf x).toNat)
  case atStart => exact ⟨0, _, _, [], Nat.zero_le _, rfl, Bl.hid ⟨HDa.out, HDm.out, Bl.Ris.nil, Nat.le_refl _, HAp.out⟩, HE6.out⟩
  case round =>
    obtain ⟨i, va, vm, A, hi, rfl, HI, hE⟩ := hrel
    have HE := Bl.hid hE
    clear hE
    by_cases hlt : i < n1
    ·
      have hin : i < L1.length := by rw [← Hn1.out]; exact hlt
      have HEr := Bl.hid (HE3.out.trans HE.out)
      have HAP0 := Bl.hid (HI.out.2.2.2.2)
      have hRA := H1.out.ext HEr.out
      obtain ⟨g, o, cc, hpe, hcn, hcm, hgl, hel⟩ := hRA.pos (by omega)
      injection hpe with hp1 hp2 hp3
      subst hp1 hp3
      have hrg := hel i hin
      have hmem := Bl.getD_mem Bl.a0 hin
      obtain ⟨hxd, hxb, hxp, hxg⟩ := H1.out.ok _ hmem
      have hx40 := Hq1.out _ hmem
      obtain ⟨x, hx⟩ : ∃ x, x = L1.getD i Bl.a0 := ⟨_, rfl⟩
      rw [← hx] at hrg hxd hxb hxp hxg hx40
      have Hld := Bl.hid (run_loadAt_mid (P := Tryz.prog) wr g (o + i * 34) 39 _ _ hrg Tryz.underlying39 rfl (by rw [Bl.cA_len hxd]; kernel_rfl))
      obtain ⟨hB6, hE7⟩ := Bl.BoxC.fresh (cs := Bl.cA x) wr 39 #[.int .i64 0, .int .u8 0, .int .u8 0, .int .u8 0, .int .u8 0, .int .u8 0, .int .u8 0, .int .u8 0, .int .u8 0, .int .u8 0, .int .u8 0, .int .u8 0, .int .u8 0, .int .u8 0, .int .u8 0, .int .u8 0, .int .u8 0, .int .u8 0, .int .u8 0, .int .u8 0, .int .u8 0, .int .u8 0, .int .u8 0, .int .u8 0, .int .u8 0, .int .u8 0, .int .u8 0, .int .u8 0, .int .u8 0, .int .u8 0, .int .u8 0, .int .u8 0, .int .u8 0, .slice none 0 0] (by rw [Bl.cA_len hxd]; rfl) (Bl.cA_ne x)
      have Hst := Bl.hid (Bl.fresh_store (P := Tryz.prog) (cs := Bl.cA x) wr 39 #[.int .i64 0, .int .u8 0, .int .u8 0, .int .u8 0, .int .u8 0, .int .u8 0, .int .u8 0, .int .u8 0, .int .u8 0, .int .u8 0, .int .u8 0, .int .u8 0, .int .u8 0, .int .u8 0, .int .u8 0, .int .u8 0, .int .u8 0, .int .u8 0, .int .u8 0, .int .u8 0, .int .u8 0, .int .u8 0, .int .u8 0, .int .u8 0, .int .u8 0, .int .u8 0, .int .u8 0, .int .u8 0, .int .u8 0, .int .u8 0, .int .u8 0, .int .u8 0, .int .u8 0, .slice none 0 0] (by rw [Bl.cA_len hxd]; rfl) (Bl.cA_one hxp) (ty := 39) (by rw [Bl.cA_len hxd]; kernel_rfl))
      have HB7 := Bl.hid hB6
      have HE7 := Bl.hid hE7
      have Hxp := Bl.hid hxp
      have Hxd := Bl.hid (And.intro hxd hxb)
      have Hxg := Bl.hid hxg
      have Hx40 := Bl.hid hx40
      have hi0 : (0 : Int) ≤ (i : Int) := by omega
      have hi1 : (i : Int) < (n1 : Int) := by omega
      clear hel hrg hxd hxb hxp hxg hx40 hx hB6 hE7 hp2 hcn hcm hin hRA hmem
      go_wp2_with (with_reducible refine Bl.stop_load (ty := 39) ?_)
      refine Bl.go_on ?_
      refine Bl.wpL_load rfl Hld.out ?_
      go_wp2_with (with_reducible refine Bl.stop_store (ty := 39) ?_)
      refine Bl.go_on ?_
      refine Bl.wpL_store0 rfl rfl Hst.out ?_
      obtain ⟨W7, hW7⟩ : ∃ W7, W7 = (wr.alloc (.cells #[.int .i64 0, .int .u8 0, .int .u8 0, .int .u8 0, .int .u8 0, .int .u8 0, .int .u8 0, .int .u8 0, .int .u8 0, .int .u8 0, .int .u8 0, .int .u8 0, .int .u8 0, .int .u8 0, .int .u8 0, .int .u8 0, .int .u8 0, .int .u8 0, .int .u8 0, .int .u8 0, .int .u8 0, .int .u8 0, .int .u8 0, .int .u8 0, .int .u8 0, .int .u8 0, .int .u8 0, .int .u8 0, .int .u8 0, .int .u8 0, .int .u8 0, .int .u8 0, .int .u8 0, .slice none 0 0] 39)).setCells wr.heap.size 0 (Bl.cA x) := ⟨_, rfl⟩
      obtain ⟨X7, hX7⟩ : ∃ X7, X7 = wr.heap.size := ⟨_, rfl⟩
      rw [← hW7] at HB7 HE7 ⊢
      rw [← hX7] at HB7 ⊢
      have HX7 := Bl.hid hX7
      clear hW7 hX7 Hst Hld
      have HE48 := Bl.hid (HE.out.trans HE7.out)
      have HAp7 := Bl.hid (HAP0.out.ext HE7.out.size)
      have HDi7 := Bl.hid (HI.out.1.ext HE7.out)
      have HDm7 := Bl.hid (HI.out.2.1.ext HE7.out)
      have HX : Hid (X7 < W7.heap.size ∧ X7 ≠ ba ∧ X7 ≠ bm ∧ va.ownBlock ≠ some X7) := Bl.hid ⟨HB7.out.lt, by have := HAP0.out.la; rw [HX7.out]; omega, by have := HAP0.out.lm; rw [HX7.out]; omega, fun q => by have := (HAP0.out.oa X7 q).2.1; rw [HX7.out] at this; omega⟩
      have Hbs : Hid (w4.heap.size ≤ W7.heap.size) := Bl.hid HE48.out.size
      have HEw7 := Bl.hid (HE3.out.trans HE48.out)
      have HK20 := Bl.hid (Bl.takeE_le A x.1 x.2.1 x.2.2.2)
      obtain ⟨K, hK⟩ : ∃ K, K = Bl.takeE A x.1 x.2.1 x.2.2.2 := ⟨_, rfl⟩
      rw [← hK] at HK20
      have HK := Bl.hid hK
      clear hK
      have HTa : Hid (∀ w1 v, Bl.Ext w w1 → Bl.Ext w4 w1 → Bl.Di w1 ba va A → Bl.RdD w1 v x.2.2.2 → Calls Tryz.prog 9 #[.pointer (some ⟨ba, 0, none⟩), .int .i64 x.1, .agg (Bl.ints .u8 x.2.1).toArray, v] w1 fun e w' => e = .returned (errN a K) ∧ ∃ v', Bl.Di w' ba v' (Bl.takeN A x.1 x.2.1 x.2.2.2) ∧ (∀ k, v'.ownBlock = some k → va.ownBlock = some k ∨ w1.heap.size ≤ k) ∧ Bl.Adds w1 w' ba va.ownBlock) := Bl.hid fun w1 v h1 h2 h3 h4 => by
        rw [HK.out]
        exact dtake_any ba va A x.1 x.2.1 v x.2.2.2 w4 w1 S a h3 HI.out.2.2.1 (by have := HI.out.2.2.2.1; omega) Hxd.out h4 Hxg.out (He.out.ext h1) (HS.out 1 (by decide) (by decide)) (HS.out 8 (by decide) (by decide)) (HS.out 15 (by decide) (by decide)) (HS.out 19 (by decide) (by decide)) (Hg.out.ext h1).s h2 HAp7.out.fa (fun k hk => (HAp7.out.oa k hk).1)
      have HTm : Hid (∀ w1, Bl.Ext w w1 → Bl.Dm w1 bm vm A → Calls Tryz.prog 11 #[.pointer (some ⟨bm, 0, none⟩), .int .i64 x.1, .agg (Bl.ints .u8 x.2.1).toArray, x.2.2.1] w1 fun e w' => e = .returned (.int .i64 (K : Nat)) ∧ (∃ v', Bl.Dm w' bm v' (Bl.takeN A x.1 x.2.1 x.2.2.2) ∧ ∀ k, v'.ownBlock = some k → vm.ownBlock = some k ∨ (w1.heap.size ≤ k ∧ k < w'.heap.size)) ∧ Bl.Adds w1 w' bm none) := Bl.hid fun w1 h1 h3 => by
        rw [HK.out]
        exact mtake_any bm vm A x.1 x.2.1 x.2.2.1 x.2.2.2 w1 h3 (by have := HI.out.2.2.2.1; omega) Hxd.out (Bl.Rds.ext Hxp.out h1) Hxg.out (Hg.out.ext h1)
      have HDg := Bl.hid (fun w1 (h1 : Bl.Ext w w1) => digests13_any x.2.2.1 x.2.2.2 w1 (Bl.Rds.ext Hxp.out h1) Hxg.out (by have := Hx40.out; omega))
      have Hlm : Hid (bm < W7.heap.size) := Bl.hid HAp7.out.lm
      go_wp2_with fail
      apply Bl.wp_region_evK (Bl.Kp w4.heap.size ba bm W7 va) (Bl.PD 7 52 8 17 w4.heap.size ba bm W7 va vm A (Bl.takeN A x.1 x.2.1 x.2.2.2) x.2.2.2.length (Bl.cellsD x.2.2.2)) 19 [45, 46, 47, 48, 49, 50, 51, 52, 53, 54, 55, 56, 57, 58, 59, 60, 61, 62, 63] [Bl.eqv _, Bl.eqv _, Bl.eqv _, Bl.eqv _, Bl.eqv _, Bl.eqv _, Bl.eqv _, Bl.anyv, Bl.eqv _, Bl.eqv _, Bl.eqv _, Bl.eqv _, Bl.eqv _, Bl.eqv _, Bl.eqv _, Bl.eqv _, Bl.eqv _, Bl.eqv _, Bl.eqv _] (fun w => Bl.Kp.refl w) (fun a b c h k => Bl.Kp.trans h k) (by kernel_rfl) (by kernel_rfl) (by kernel_rfl) (by kernel_rfl)
      case hsteps =>
        refine ⟨?_, ?_, ?_, ?_, ?_, ?_, ?_, ?_, ?_, ?_, ?_, ?_, ?_, ?_, ?_, ?_, ?_, ?_, ?_, trivial⟩
        all_goals
          intro d ev w1 hext HJd Hanc Hdes hni hb hd
          replace Hanc := Bl.hid Hanc
          replace HJd := Bl.hid HJd
          replace Hdes := Bl.hid Hdes
          replace hni := Bl.hid hni
          have e7 := hb 7 (by decide)
          have e8 := hb 8 (by decide)
          have e10 := hb 10 (by decide)
          clear hb
          simp only [Array.getD_eq_getD_getElem?, List.getElem?_toArray, List.getElem?_cons_succ, List.getElem?_cons_zero, Option.getD_some] at e7 e8 e10
          simp only [Bl.DepsE2, List.getElem?_cons_succ, List.getElem?_cons_zero, Option.bind_some, List.getD_cons_succ, List.getD_cons_zero, Bl.eqv, and_true] at hd
          have hxw : Bl.Ext w w1 := Below.trans HEw7.out (Below.mono hext.bl Hw4.out)
          have h4w : Bl.Ext w4 w1 := Below.trans HE48.out hext.bl
          have hbx := HB7.out.same (hext.kp X7 HX.out.1 HX.out.2.1 HX.out.2.2.1 HX.out.2.2.2)
          have q0 := hbx.cell (Bl.cA_size x)
          have q33 := hbx.cell (Bl.cA_proof Hxd.out.1)
          rw [if_pos (rfl : Region.wanted _ _ = true)]
          first
          | ((with_reducible refine Bl.goodX_load (fun w => Bl.Kp.refl w) ?_ (Bl.load_ints (P := Tryz.prog) (ty := 23) (Bl.cA_rt hbx Hxd.out.1) Tryz.underlying23 (by kernel_rfl) Hxd.out.1) ?_); exact hd; exact ⟨rfl, HJd.out.same (by decide)⟩)
          | (go_simp; first | exact ⟨Bl.Kp.refl _, rfl, HJd.out.same (by decide)⟩ | exact ⟨Bl.Kp.refl _, HJd.out.same (by decide)⟩ | (go_at_call 10; (with_reducible refine (HDg.out w1 hxw).mono ?_); rintro e w2 ⟨p9, c9, rfl, hown, hE2⟩; exact ⟨_, rfl, HJd.out.p.kp hE2, trivial, HJd.out.dig hE2 (by decide) (Bl.RdsX.of_owns hown (fun q => by have := (hown.lt _ q).1; have := HJd.out.p.le; have := Hlm.out; omega))⟩) | (go_at_call 9; (with_reducible refine (HTa.out w1 _ hxw h4w (HJd.out.p.di hni.out) (HJd.out.r (Hanc.out 7 (by kernel_rfl)) hni.out).rds).mono ?_); rintro e w2 ⟨rfl, va', hD9, hv9, hA9⟩; have h5 := HJd.out.take1 (t := 53) (v := errN a K) (by decide) hni.out hD9 hv9 hA9; exact ⟨_, rfl, h5.1, rfl, h5.2⟩) | (go_at_call 8; (with_reducible refine (num_errN S a w1 K HS.out (He.out.ext hxw) HK20.out).mono ?_); rintro e w2 ⟨rfl, hE2⟩; exact ⟨_, rfl, HJd.out.p.kp hE2, rfl, HJd.out.step hE2 (by decide)⟩) | (go_at_call 11; (with_reducible refine (HTm.out w1 hxw (HJd.out.p.dm hni.out)).mono ?_); rintro e w2 ⟨rfl, ⟨vm', hD9, hv9⟩, hA9⟩; have h5 := HJd.out.take2 (t := 62) (v := .int .i64 (K : Nat)) (by decide) hni.out hD9 hv9 hA9; exact ⟨_, rfl, h5.1, rfl, h5.2⟩) | exact ⟨Below.refl _ _, rfl, Bl.HJ.same (by decide) HJd.out⟩)
      case hmono => exact ⟨Bl.monoR_eqv _, Bl.monoR_eqv _, Bl.monoR_eqv _, Bl.monoR_eqv _, Bl.monoR_eqv _, Bl.monoR_eqv _, Bl.monoR_eqv _, Bl.monoR_anyv, Bl.monoR_eqv _, Bl.monoR_eqv _, Bl.monoR_eqv _, Bl.monoR_eqv _, Bl.monoR_eqv _, Bl.monoR_eqv _, Bl.monoR_eqv _, Bl.monoR_eqv _, Bl.monoR_eqv _, Bl.monoR_eqv _, Bl.monoR_eqv _, trivial⟩
      case hR0 => exact Bl.Kp.drew _
      case hend =>
        intro u w1 hext hJ hend
        simp only [Bl.EndE, List.getElem?_cons_succ, List.getElem?_cons_zero, Option.bind_some, List.getD_cons_succ, List.getD_cons_zero, Bl.eqv, true_and] at hend
        simp only [Bl.fillAct, List.setIfInBounds_toArray, List.set_cons_succ, List.set_cons_zero, List.drop_succ_cons, List.drop_zero, hend]
        obtain ⟨va', vm', hDa', hDm', hAp', hoa', hom'⟩ := hJ.p.done rfl rfl
        have HE9 : Hid (Bl.Ext w4 w1) := Bl.hid (Below.trans HE48.out hext.bl)
        have HKp := Bl.hid hext
        have HI9 : Hid (Bl.Di w1 ba va' (Bl.takeN A x.1 x.2.1 x.2.2.2) ∧ Bl.Dm w1 bm vm' (Bl.takeN A x.1 x.2.1 x.2.2.2) ∧ Bl.Ris (Bl.takeN A x.1 x.2.1 x.2.2.2) ∧ (Bl.takeN A x.1 x.2.1 x.2.2.2).length ≤ i + 1 ∧ Bl.Apt w4.heap.size ba bm w1 va' vm') := Bl.hid
          ⟨hDa', hDm', HI.out.2.2.1.take _ _ _, by have := (Bl.takeN_len A x.1 x.2.1 x.2.2.2).1; have := HI.out.2.2.2.1; omega, hAp'⟩
        clear hDa' hDm' hAp' hoa' hom' hJ hext HKp
        go_wp2_with fail
        clear hend
        go_roundw
        case rel => exact ⟨i + 1, va', vm', _, by omega, by go_num, HI9, HE9.out⟩
        case measure => simp [intOf]; omega
      case hJ0 => exact ⟨Bl.PJ.start HAp7.out Hbs.out HDi7.out HDm7.out rfl, fun q => (by cases q)⟩
    · obtain rfl : i = n1 := by omega
      clear hlt hi
      have hAl : A.length ≤ 500 := by
        have h1 := HI.out.2.2.2.1
        have h2 := Hl1.out
        omega
      have HrA := Bl.hid HI.out.2.2.1
      have HDa := Bl.hid HI.out.1
      have HMa := Bl.hid HI.out.2.1
      have HEr := Bl.hid (HE3.out.trans HE.out)
      have HB := Bl.hid (HAk.out.ext HE.out)
      have hq5 := HB.out.path
      clear HI HE
      go_wp2_with fail
      refine (digests13_any _ p wr (Bl.Rds.ext Hp.out HEr.out) Hdp.out (by have := Hp2.out; omega)).mono ?_
      rintro e w9 ⟨pd, cd, rfl, hown9, hE9⟩
      have HD9 : Hid (Bl.RdD w9 (.slice pd p.length cd) p) := Bl.hid (Bl.Rds.of_owns hown9)
      have HB9 := Bl.hid (HB.out.ext hE9)
      have HE9 := Bl.hid (HEr.out.trans hE9)
      have HLa : Hid (∀ w2, Bl.Ext w9 w2 → Calls Tryz.prog 12 #[.pointer (some ⟨ba, 0, none⟩), .int .i64 nn, .int .i64 ii, .slice pl l.length cl, .slice pd p.length cd] w2 fun e w' => e = .returned (errN a (Bl.leafE A nn ii l p)) ∧ Bl.Ext w2 w') := Bl.hid fun w2 h2 =>
        dleaf_any ba va A nn ii _ _ l p w2 S a (HDa.out.ext (hE9.trans h2)) HrA.out hAl (Hl.out.ext (HE9.out.trans h2)) Hbl.out (by have := Hl2.out; omega) (Bl.Rds.ext HD9.out h2) Hdp.out (He.out.ext (HE9.out.trans h2)) (HS.out 1 (by decide) (by decide)) (HS.out 8 (by decide) (by decide)) (HS.out 11 (by decide) (by decide)) (HS.out 15 (by decide) (by decide)) (Hg.out.ext (HE9.out.trans h2)).s
      have HLm : Hid (∀ w2, Bl.Ext w9 w2 → Calls Tryz.prog 13 #[.pointer (some ⟨bm, 0, none⟩), .int .i64 nn, .int .i64 ii, .slice pl l.length cl, .slice pp p.length cp] w2 fun e w' => e = .returned (.int .i64 (Bl.leafE A nn ii l p : Nat)) ∧ Bl.Ext w2 w') := Bl.hid fun w2 h2 =>
        mleaf_any bm vm A nn ii _ _ l p w2 (HMa.out.ext (hE9.trans h2)) HrA.out hAl (Hl.out.ext (HE9.out.trans h2)) Hbl.out (by have := Hl2.out; omega) (Bl.Rds.ext Hp.out (HE9.out.trans h2)) Hdp.out (Hg.out.ext (HE9.out.trans h2))
      have HK20 := Bl.hid (Bl.leafE_le A nn ii l p)
      obtain ⟨K, hK⟩ : ∃ K, K = Bl.leafE A nn ii l p := ⟨_, rfl⟩
      rw [← hK] at HLa HLm HK20
      have HNum : Hid (∀ w2, Bl.Ext w9 w2 → Calls Tryz.prog 8 #[errN a K] w2 fun e w' => e = .returned (.int .i64 (K : Nat)) ∧ Bl.Ext w2 w') := Bl.hid fun w2 h2 => num_errN S a w2 K HS.out (He.out.ext (HE9.out.trans h2)) HK20.out
      have hq2 := HB9.out.qn
      have hq3 := HB9.out.qi
      have hq4 := HB9.out.leaf
      have hq5 := HB9.out.path
      have hB := HB9.out.lt
      clear hown9 hE9 HDa HMa HrA HB hK hAl
      go_wp2_with fail
      apply Bl.wp_region_ev 20 [68, 69, 70, 71, 72, 73, 74, 75, 76, 77, 78, 79, 80, 81, 82, 83, 84, 85, 86, 87] [Bl.eqv _, Bl.eqv _, Bl.eqv _, Bl.eqv _, Bl.eqv _, Bl.eqv _, Bl.eqv _, Bl.eqv _, Bl.eqv _, Bl.eqv _, Bl.eqv _, Bl.eqv _, Bl.eqv _, Bl.eqv _, Bl.eqv _, Bl.eqv _, Bl.eqv _, Bl.eqv _, Bl.eqv _, Bl.eqv _] (by kernel_rfl) (by kernel_rfl) (by kernel_rfl) (by kernel_rfl)
      case hsteps =>
        refine ⟨?_, ?_, ?_, ?_, ?_, ?_, ?_, ?_, ?_, ?_, ?_, ?_, ?_, ?_, ?_, ?_, ?_, ?_, ?_, ?_, trivial⟩
        all_goals
          intro ev w1 hext hb hd
          have e4 := hb 4 (by decide)
          have e7 := hb 7 (by decide)
          have e8 := hb 8 (by decide)
          have e11 := hb 11 (by decide)
          clear hb
          simp only [Array.getD_eq_getD_getElem?, List.getElem?_toArray, List.getElem?_cons_succ, List.getElem?_cons_zero, Option.getD_some] at e4 e7 e8 e11
          simp only [Bl.DepsE, List.getElem?_cons_succ, List.getElem?_cons_zero, Option.bind_some, List.getD_cons_succ, List.getD_cons_zero, Bl.eqv, and_true] at hd
          have hc := (Bl.bcell hext).1
          have hq2' := (hc _ 32 hB).trans hq2
          have hq3' := (hc _ 33 hB).trans hq3
          have hq4' := (hc _ 34 hB).trans hq4
          have hq5' := (hc _ 35 hB).trans hq5
          simp only [Bl.Good, Region.wanted, if_true]
          go_simp
          first | (go_at_call 12; (with_reducible refine (HLa.out _ hext).mono ?_); rintro e w2 ⟨rfl, hE2⟩; exact ⟨_, rfl, hE2, rfl⟩) | (go_at_call 8; (with_reducible refine (HNum.out _ hext).mono ?_); rintro e w2 ⟨rfl, hE2⟩; exact ⟨_, rfl, hE2, rfl⟩) | (go_at_call 13; (with_reducible refine (HLm.out _ hext).mono ?_); rintro e w2 ⟨rfl, hE2⟩; exact ⟨_, rfl, hE2, rfl⟩) | exact rfl | exact ⟨Below.refl _ _, rfl⟩ | exact ⟨Below.refl _ _, rfl⟩
      case hmono => exact ⟨Bl.mono_eqv _, Bl.mono_eqv _, Bl.mono_eqv _, Bl.mono_eqv _, Bl.mono_eqv _, Bl.mono_eqv _, Bl.mono_eqv _, Bl.mono_eqv _, Bl.mono_eqv _, Bl.mono_eqv _, Bl.mono_eqv _, Bl.mono_eqv _, Bl.mono_eqv _, Bl.mono_eqv _, Bl.mono_eqv _, Bl.mono_eqv _, Bl.mono_eqv _, Bl.mono_eqv _, Bl.mono_eqv _, Bl.mono_eqv _, trivial⟩
      case hend =>
        intro u w1 hext hend
        simp only [Bl.EndE, List.getElem?_cons_succ, List.getElem?_cons_zero, Option.bind_some, List.getD_cons_succ, List.getD_cons_zero, Bl.eqv, true_and] at hend
        simp only [Bl.fillAct, List.setIfInBounds_toArray, List.set_cons_succ, List.set_cons_zero, List.drop_succ_cons, List.drop_zero, hend]
        have HBa := Bl.hid (HB9.out.ext hext)
        have HDa := Bl.hid (Bl.Rds.ext HD9.out hext)
        have HEa := Bl.hid (HE9.out.trans hext)
        clear hext hend hq2 hq3 hq4 hq5 hB HLa HLm HNum HB9 HD9 HE9 HEr
        go_wp2_with fail
        refine (dnew_any w1).mono ?_
        rintro e wb ⟨rfl, hDb, hEb⟩
        have HDb := Bl.hid hDb
        have HEb := Bl.hid hEb
        have HEw := Bl.hid (HEa.out.trans hEb)
        have Hbc : Hid (w1.heap.size ≤ w1.heap.size) := Bl.hid (Nat.le_refl _)
        obtain ⟨bc, hbc⟩ : ∃ bc, bc = w1.heap.size := ⟨_, rfl⟩
        rw [← hbc] at HDb ⊢
        have Hbc := Bl.hid hbc
        clear hDb hEb hbc
        by_cases hz : ps.length = 0
        · have hzi : (ps.length : Int) = 0 := by omega
          have hps : ps = [] := List.length_eq_zero_iff.1 hz
          go_wp2_with fail
          go_ret
          exact ⟨rfl, HEw.out⟩
        have hzi : ¬ ((ps.length : Int) = 0) := by omega
        have hps : ¬ ps = [] := fun q => hz (by rw [q]; rfl)
        have Hz1 : Hid (1 ≤ ps.length) := Bl.hid (by omega)
        have Hrl : Hid ((Bl.rootD ps).length = 32 ∧ Bl.Byt (Bl.rootD ps)) := Bl.hid ⟨Bl.rootD_length ps (by have := H30.out; omega), Bl.rootD_byt ps (by have := H30.out; omega)⟩
        go_wp2_with fail
        refine (refroot_any _ ps wb (Bl.Rdss.ext HR.out HEw.out) (Hg.out.ext HEw.out) Hby.out (fun q hq => by have := H200.out q hq; omega) (by have := H30.out; omega)).mono ?_
        rintro e wc ⟨rfl, hEc⟩
        have HEc := Bl.hid (HEb.out.trans hEc)
        have HDc := Bl.hid (HDb.out.ext hEc)
        clear hEc
        obtain ⟨RD, hRD⟩ : ∃ RD, RD = Bl.rootD ps := ⟨_, rfl⟩
        rw [← hRD] at Hrl ⊢
        have HRD := Bl.hid hRD
        clear hRD
        have hTE : Bl.takeE [] (ps.length : Int) RD [] = 0 := Bl.take_nil (by have := Hz1.out; omega) (by have := H30.out; omega) RD
        have hTN : Bl.takeN [] (ps.length : Int) RD [] = [(ps.length, RD)] := Bl.takeN_nil Hz1.out (by have := H30.out; omega) RD
        go_wp2_with fail
        refine (dtake_any bc (.slice none 0 0) [] ps.length RD (.slice none 0 0) [] w1 wc S a HDc.out Bl.Ris.nil (by decide) Hrl.out (Bl.Rds.nil _) (fun q hq => (by cases hq)) (He.out.ext (HEa.out.trans HEc.out)) (HS.out 1 (by decide) (by decide)) (HS.out 8 (by decide) (by decide)) (HS.out 15 (by decide) (by decide)) (HS.out 19 (by decide) (by decide)) (Hg.out.ext (HEa.out.trans HEc.out)).s HEc.out (Nat.le_of_eq Hbc.out.symm) (fun k q => (by cases q))).mono ?_
        rintro e wd ⟨rfl, v', hDd, hvd, hAd⟩
        rw [hTE, errN_zero]
        rw [hTN] at hDd
        have HDd := Bl.hid hDd
        have HEd : Hid (Bl.Ext w1 wd) := Bl.hid (Below.trans HEc.out (hAd.below HEc.out.size (Nat.le_of_eq Hbc.out.symm) (fun k q => (by cases q))))
        have HEwd := Bl.hid (HEa.out.trans HEd.out)
        have HBd := Bl.hid (HBa.out.ext HEd.out)
        have HDgd := Bl.hid (Bl.Rds.ext HDa.out HEd.out)
        clear hDd hvd hAd hTE hTN HEc HDc HEb HEw HDb HDa HBa
        have hq3 := HBd.out.qi
        have hq4 := HBd.out.leaf
        have hRis : Bl.Ris [(ps.length, RD)] := ⟨fun x hx => by rw [List.mem_singleton] at hx; subst hx; exact ⟨Hz1.out, by have := H30.out; show ps.length ≤ 512; omega⟩, List.pairwise_singleton _ _⟩
        have HLf := Bl.hid (dleaf_any bc v' [(ps.length, RD)] ps.length ii _ _ l p wd S a HDd.out hRis (by show 1 ≤ 500; omega) (Hl.out.ext HEwd.out) Hbl.out (by have := Hl2.out; omega) HDgd.out Hdp.out (He.out.ext HEwd.out) (HS.out 1 (by decide) (by decide)) (HS.out 8 (by decide) (by decide)) (HS.out 11 (by decide) (by decide)) (HS.out 15 (by decide) (by decide)) (Hg.out.ext HEwd.out).s)
        rw [Bl.leaf_one] at HLf
        obtain ⟨M, hM⟩ : ∃ M, M = Bl.chkP RD ps.length ii l p := ⟨_, rfl⟩
        rw [← hM] at HLf
        have HM := Bl.hid hM
        clear hM hRis
        go_wp2_with fail
        refine HLf.out.mono ?_
        rintro e wf ⟨rfl, hEf⟩
        have HEf := Bl.hid (HEwd.out.trans hEf)
        have HBf := Bl.hid (HBd.out.ext hEf)
        have HDf := Bl.hid (Bl.Rds.ext HDgd.out hEf)
        clear hEf HLf hq3 hq4 HBd HDgd HEwd HEd HDd
        by_cases hM0 : M = 0
        case neg =>
          rw [errN_pos a M hM0]
          go_wp2_with fail
          go_ret
          exact ⟨rfl, HEf.out⟩
        rw [hM0, errN_zero]
        have hth := Bl.chkP_there (HM.out.symm.trans hM0)
        obtain ⟨j, hjj⟩ := Int.eq_ofNat_of_zero_le hth.1
        subst hjj
        have hj : j < ps.length := by omega
        have HM' : Hid (Bl.chkP RD ps.length (j : Int) l p = 0) := Bl.hid (HM.out.symm.trans hM0)
        clear hM0 HM hth
        have hq3 := HBf.out.qi
        have hq4 := HBf.out.leaf
        have hB := HBf.out.lt
        have hi0 : ¬ ((j : Int) < 0) := by omega
        have hi1 : (j : Int) < (ps.length : Int) := by omega
        have hi00 : (0 : Int) ≤ (j : Int) := by omega
        obtain ⟨b, o, hpe, hbl0, hcell0⟩ := Bl.Rdss.cell' (Hv.out.ext HEf.out) Hwl.out j hj
        subst hpe
        have hRk0 := Hws.out j hj
        obtain ⟨pk, ck, hfk, _, _⟩ := hRk0.form
        rw [hfk] at hcell0
        have hRk : Bl.Rd wf .u8 (.slice pk (ps.getD j []).length ck) (ps.getD j []) := by rw [hfk] at hRk0; exact hRk0.ext HEf.out
        have hmem : ps.getD j [] ∈ ps := by rw [List.getD_eq_getElem?_getD, List.getElem?_eq_getElem hj]; exact List.getElem_mem hj
        have Hbi : Hid (Bl.Byt (ps.getD j [])) := Bl.hid (Hby.out _ hmem)
        have HCl : Hid (¬ ps.getD j [] = l → ∀ w2 vd, Bl.Ext w w2 → Bl.RdD w2 vd p → Calls Tryz.prog 15 #[.slice (some ⟨b, o, none⟩) ps.length cvv, .int .i64 (j : Int), .slice pl l.length cl, vd] w2 fun e w' => ∃ x y, e = .returned (.tuple #[x, y, .bool true]) ∧ Bl.ClashR w' x y ∧ Bl.Ext w2 w') := Bl.hid fun hne w2 vd h2 h3 => by
          have hc0 := HM'.out
          rw [HRD.out] at hc0
          have hth : Bl.thereB (ps.length : Int) (j : Int) = true := Bl.thereB_mk (by have := H30.out; omega) (by omega) (by omega)
          have hpl : p.length = (Bl.turnsL ps.length j).length := by
            by_cases h : p.length = (Bl.turnsL ps.length j).length
            · exact h
            · rw [Bl.chkP_size hth h] at hc0; cases hc0
          have hf : Bl.foldP Bl.ndD ps.length j (Bl.lfD l) p = Bl.rootD ps := by
            by_cases h : Bl.foldP Bl.ndD ps.length j (Bl.lfD l) p = Bl.rootD ps
            · exact h
            · rw [Bl.chkP_bad hth hpl h] at hc0; cases hc0
          exact pclash_found _ _ vd ps ps.length j l p w2 S a (HR.out.ext h2) (Hg.out.s.ext h2) Hby.out (fun q hq => by have := H200.out q hq; omega) rfl (by have := H30.out; omega) hj (He.out.ext h2) (HS.out 1 (by decide) (by decide)) (HS.out 8 (by decide) (by decide)) (HS.out 15 (by decide) (by decide)) (Hl.out.ext h2) Hbl.out (by have := Hl2.out; omega) h3 Hdp.out hpl hf hne
        obtain ⟨z, hz⟩ : ∃ z, z = ps.getD j [] := ⟨_, rfl⟩
        rw [← hz] at hcell0 hRk Hbi HCl
        clear hRk0 hfk hmem hz hj HM'
        have Hcva : Hid (∀ w2, Bl.Ext wf w2 → (convert 24 9 (.slice pk z.length ck)).run Tryz.prog w2 = .ok (.string (Bl.bstr z)) w2) := Bl.hid fun w2 h2 => Bl.conv_bytes (hRk.ext h2) Tryz.underlying24 Tryz.underlying5 Tryz.underlying9
        clear hRk
        by_cases hzl : z = l
        · subst hzl
          have Hcvb : Hid (∀ w2, Bl.Ext wf w2 → (convert 24 9 (.slice pl z.length cl)).run Tryz.prog w2 = .ok (.string (Bl.bstr z)) w2) := Bl.hid fun w2 h2 => Bl.conv_bytes (Hl.out.ext (HEf.out.trans h2)) Tryz.underlying24 Tryz.underlying5 Tryz.underlying9
          go_wp2_with fail
          apply Bl.wp_region_ev 9 [125, 126, 127, 128, 129, 130, 131, 132, 133] [Bl.eqv _, Bl.eqv _, Bl.eqv _, Bl.eqv _, Bl.eqv _, Bl.eqv _, Bl.eqv _, Bl.eqv _, Bl.eqv _] (by kernel_rfl) (by kernel_rfl) (by kernel_rfl) (by kernel_rfl)
          case hsteps =>
            refine ⟨?_, ?_, ?_, ?_, ?_, ?_, ?_, ?_, ?_, trivial⟩
            all_goals
              intro ev w1 hext hb hd
              have e0 := hb 0 (by decide)
              have e4 := hb 4 (by decide)
              clear hb
              simp only [Array.getD_eq_getD_getElem?, List.getElem?_toArray, List.getElem?_cons_succ, List.getElem?_cons_zero, Option.getD_some] at e0 e4
              simp only [Bl.DepsE, List.getElem?_cons_succ, List.getElem?_cons_zero, Option.bind_some, List.getD_cons_succ, List.getD_cons_zero, Bl.eqv, and_true] at hd
              have hc := (Bl.bcell hext).1
              have hq3' := (hc _ 33 hB).trans hq3
              have hq4' := (hc _ 34 hB).trans hq4
              have hcl := (hc _ (o + j) hbl0).trans hcell0
              have c1 := Hcva.out _ hext
              have c2 := Hcvb.out _ hext
              simp only [Bl.Good, Region.wanted, if_true]
              go_simp
              first | exact rfl | exact ⟨Below.refl _ _, rfl⟩ | exact ⟨Below.refl _ _, rfl⟩
          case hmono => exact ⟨Bl.mono_eqv _, Bl.mono_eqv _, Bl.mono_eqv _, Bl.mono_eqv _, Bl.mono_eqv _, Bl.mono_eqv _, Bl.mono_eqv _, Bl.mono_eqv _, Bl.mono_eqv _, trivial⟩
          case hend =>
            intro u w1 hext hend
            simp only [Bl.EndE, List.getElem?_cons_succ, List.getElem?_cons_zero, Option.bind_some, List.getD_cons_succ, List.getD_cons_zero, Bl.eqv, true_and] at hend
            simp only [Bl.fillAct, List.setIfInBounds_toArray, List.set_cons_succ, List.set_cons_zero, List.drop_succ_cons, List.drop_zero, hend]
            have HE5 := Bl.hid (HEf.out.trans hext)
            clear hext hend
            go_wp2_with fail
            go_ret
            exact ⟨rfl, HE5.out⟩
        · have Hcvb : Hid (∀ w2, Bl.Ext wf w2 → (convert 24 9 (.slice pl l.length cl)).run Tryz.prog w2 = .ok (.string (Bl.bstr l)) w2) := Bl.hid fun w2 h2 => Bl.conv_bytes (Hl.out.ext (HEf.out.trans h2)) Tryz.underlying24 Tryz.underlying5 Tryz.underlying9
          have HCf := Bl.hid (HCl.out hzl)
          have hsq := Bl.bstr_beq Hbi.out Hbl.out
          rw [decide_eq_false hzl] at hsq
          have hsq2 : ¬ (Bl.bstr z = Bl.bstr l) := fun q => hzl ((Bl.bstr_eq_iff Hbi.out Hbl.out).1 q)
          clear hzl HCl
          go_wp2_with fail
          apply Bl.wp_region_ev 9 [125, 126, 127, 128, 129, 130, 131, 132, 133] [Bl.eqv _, Bl.eqv _, Bl.eqv _, Bl.eqv _, Bl.eqv _, Bl.eqv _, Bl.eqv _, Bl.eqv _, Bl.eqv _] (by kernel_rfl) (by kernel_rfl) (by kernel_rfl) (by kernel_rfl)
          case hsteps =>
            refine ⟨?_, ?_, ?_, ?_, ?_, ?_, ?_, ?_, ?_, trivial⟩
            all_goals
              intro ev w1 hext hb hd
              have e0 := hb 0 (by decide)
              have e4 := hb 4 (by decide)
              clear hb
              simp only [Array.getD_eq_getD_getElem?, List.getElem?_toArray, List.getElem?_cons_succ, List.getElem?_cons_zero, Option.getD_some] at e0 e4
              simp only [Bl.DepsE, List.getElem?_cons_succ, List.getElem?_cons_zero, Option.bind_some, List.getD_cons_succ, List.getD_cons_zero, Bl.eqv, and_true] at hd
              have hc := (Bl.bcell hext).1
              have hq3' := (hc _ 33 hB).trans hq3
              have hq4' := (hc _ 34 hB).trans hq4
              have hcl := (hc _ (o + j) hbl0).trans hcell0
              have c1 := Hcva.out _ hext
              have c2 := Hcvb.out _ hext
              simp only [Bl.Good, Region.wanted, if_true]
              go_simp
              first | exact rfl | exact ⟨Below.refl _ _, rfl⟩ | exact ⟨Below.refl _ _, rfl⟩
          case hmono => exact ⟨Bl.mono_eqv _, Bl.mono_eqv _, Bl.mono_eqv _, Bl.mono_eqv _, Bl.mono_eqv _, Bl.mono_eqv _, Bl.mono_eqv _, Bl.mono_eqv _, Bl.mono_eqv _, trivial⟩
          case hend =>
            intro u w1 hext hend
            simp only [Bl.EndE, List.getElem?_cons_succ, List.getElem?_cons_zero, Option.bind_some, List.getD_cons_succ, List.getD_cons_zero, Bl.eqv, true_and] at hend
            simp only [Bl.fillAct, List.setIfInBounds_toArray, List.set_cons_succ, List.set_cons_zero, List.drop_succ_cons, List.drop_zero, hend]
            have HE5 := Bl.hid (HEf.out.trans hext)
            have HB5 := Bl.hid (HBf.out.ext hext)
            have HD5 := Bl.hid (Bl.Rds.ext HDf.out hext)
            clear hext hend hq3 hq4 hcell0 hbl0 hB HBf HDf Hcva Hcvb
            have hq3 := HB5.out.qi
            have hq4 := HB5.out.leaf
            go_wp2_with fail
            refine (HCf.out w1 _ HE5.out HD5.out).mono ?_
            rintro e w6 ⟨x, y, rfl, hC, hE6⟩
            obtain ⟨X, Y, hX, hY, hbX, hbY, hXY, hsh, hXl, hYl⟩ := hC
            obtain ⟨px, cx, hxf, _, _⟩ := hX.form
            subst hxf
            obtain ⟨py, cy, hyf, _, _⟩ := hY.form
            subst hyf
            have HX := Bl.hid hX
            have HY := Bl.hid hY
            have HE6 := Bl.hid (HE5.out.trans hE6)
            have hx1 : (convert 24 9 (.slice px X.length cx)).run Tryz.prog w6 = .ok (.string (Bl.bstr X)) w6 := Bl.conv_bytes hX Tryz.underlying24 Tryz.underlying5 Tryz.underlying9
            have hy1 : (convert 24 9 (.slice py Y.length cy)).run Tryz.prog w6 = .ok (.string (Bl.bstr Y)) w6 := Bl.conv_bytes hY Tryz.underlying24 Tryz.underlying5 Tryz.underlying9
            have hxy1 := Bl.bstr_beq hbX hbY
            rw [decide_eq_false hXY] at hxy1
            have hxy2 : ¬ (Bl.bstr X = Bl.bstr Y) := fun q => hXY ((Bl.bstr_eq_iff hbX hbY).1 q)
            have HO1 : Hid (∀ w2 v, Bl.Ext w6 w2 → Bl.Rdss w2 v [X] → Calls Tryz.prog 16 #[v] w2 fun e w' => e = .returned (.agg (Bl.ints .u8 (Bl.sha X)).toArray) ∧ Bl.Ext w2 w') := Bl.hid fun w2 v h2 h3 => by
              have h := of_any v [X] w2 h3 (Hg.out.s.ext (HE6.out.trans h2)) (by rw [List.flatten_singleton]; exact hbX) (by rw [List.flatten_singleton]; omega)
              rw [List.flatten_singleton] at h; exact h
            have HO2 : Hid (∀ w2 v, Bl.Ext w6 w2 → Bl.Rdss w2 v [Y] → Calls Tryz.prog 16 #[v] w2 fun e w' => e = .returned (.agg (Bl.ints .u8 (Bl.sha X)).toArray) ∧ Bl.Ext w2 w') := Bl.hid fun w2 v h2 h3 => by
              have h := of_any v [Y] w2 h3 (Hg.out.s.ext (HE6.out.trans h2)) (by rw [List.flatten_singleton]; exact hbY) (by rw [List.flatten_singleton]; omega)
              rw [List.flatten_singleton, ← hsh] at h; exact h
            have Hz1' : Hid ((Bl.sha X).length = 32) := Bl.hid (Bl.sha_length _)
            obtain ⟨z1, hz1⟩ : ∃ z1, z1 = Bl.sha X := ⟨_, rfl⟩
            rw [← hz1] at HO1 HO2 Hz1'
            have heq : ∀ w, (Op.equalIn 10000 44 (.agg (Bl.ints .u8 z1).toArray) (.agg (Bl.ints .u8 z1).toArray)).run Tryz.prog w = .ok true w := fun w =>
              Bl.eq10k_same Tryz.underlying44 Tryz.underlying5 (fun w => by simp [go_sem]) z1 Hz1'.out w
            clear hX hY hbX hbY hXY hsh hXl hYl hE6 hz1 hsq hsq2 hq3 hq4
            go_wp2_with fail
            refine (HO1.out _ _ (Bl.ext_alloc _ _) (Bl.rdss_1 HX.out _)).mono ?_
            rintro e w8 ⟨rfl, hE8⟩
            have HE8 : Hid (Bl.Ext w6 w8) := Bl.hid ((Bl.ext_alloc _ _).trans hE8)
            have HY8 := Bl.hid (HY.out.ext HE8.out)
            clear hE8 hx1 hy1 hxy1 hxy2
            go_wp2_with fail
            refine (HO2.out _ _ (HE8.out.trans (Bl.ext_alloc _ _)) (Bl.rdss_1 HY8.out _)).mono ?_
            rintro e w9' ⟨rfl, hE9⟩
            have HE9 : Hid (Bl.Ext w6 w9') := Bl.hid ((HE8.out.trans (Bl.ext_alloc _ _)).trans hE9)
            clear hE9 HE8
            go_wp2_with fail
            go_ret
            exact ⟨rfl, HE6.out.trans HE9.out⟩
end Go.Proofs.YtmfooocdnoflaaaGreatDoor

/- Walks of tree.Inner, Leaf, Node, baileeref12.Leaf, Node. -/
import Derived.Test.YtglenbikdahgjaaDoorWt0
import Derived.Test.YtglenbikdahgjaaDoorWRef1
import Derived.Test.YtglenbikdahgjaaDoorShaQ
namespace Go.Proofs.YtglenbikdahgjaaDoor
open Go.RowKit Go.Proofs

set_option maxRecDepth 100000 in
set_option maxHeartbeats 400000 in
theorem inner_own (l r : List Int) (w : World) (hl : l.length = 32) (hr : r.length = 32) :
    Calls Tryd.prog 71 #[.agg (Bl.ints .u8 l).toArray, .agg (Bl.ints .u8 r).toArray] w fun e w' => ∃ v', e = .returned v' ∧ w'.ownsRow w.heap.size 5 1 v' ((l ++ r).length + 1) (Bl.ints .u8 (1 :: (l ++ r))) ∧ Bl.Ext w w' := by
  have Hl := Bl.hid hl
  have Hr := Bl.hid hr
  clear hl hr
  go_enter Tryd.func71, Tryd.ntmps71
  go_wp2_with fail
  have h1 := Bl.rangeAt_ext (Bl.range_box w l 41) (Bl.ext_alloc _ (.cells (Bl.ints .u8 r).toArray 41))
  have h2 := Bl.range_box (w.alloc (.cells (Bl.ints .u8 l).toArray 41)) r 41
  rw [World.size_alloc] at h2
  have HE : Hid (Bl.Ext w ((w.alloc (.cells (Bl.ints .u8 l).toArray 41)).alloc (.cells (Bl.ints .u8 r).toArray 41))) := Bl.hid ((Bl.ext_alloc _ _).trans (Bl.ext_alloc _ _))
  obtain ⟨W, hW⟩ : ∃ W, W = (w.alloc (.cells (Bl.ints .u8 l).toArray 41)).alloc (.cells (Bl.ints .u8 r).toArray 41) := ⟨_, rfl⟩
  rw [← hW] at h1 h2 HE ⊢
  have HL := Bl.hid (Bl.rd_box h1 Hl.out (by decide))
  have HR := Bl.hid (Bl.rd_box h2 Hr.out (by decide))
  clear hW h1 h2
  apply Bl.wp_region_ev 5 [5, 6, 7, 8, 9] [(fun v w' => Bl.SlB w' v [1]), Bl.eqv _, Bl.eqv _, (fun v w' => Bl.Rdss w' v [[1], l, r]), (fun v w' => w'.ownsRow w.heap.size 5 1 v ((l ++ r).length + 1) (Bl.ints .u8 (1 :: (l ++ r))))] (by kernel_rfl) (by kernel_rfl) (by kernel_rfl) (by kernel_rfl)
  case hsteps =>
    refine ⟨?_, ?_, ?_, ?_, ?_, trivial⟩
    all_goals
      intro ev w1 hext hb hd
      have e2 := hb 2 (by decide)
      have e3 := hb 3 (by decide)
      clear hb
      simp only [Array.getD_eq_getD_getElem?, List.getElem?_toArray, List.getElem?_cons_succ, List.getElem?_cons_zero, Option.getD_some] at e2 e3
      simp only [Bl.DepsE, List.getElem?_cons_succ, List.getElem?_cons_zero, Option.bind_some, List.getD_cons_succ, List.getD_cons_zero, Bl.eqv, and_true] at hd
      have hc := (Bl.bcell hext).1
      try (obtain ⟨⟨p5, c5, h5, h5r⟩, h6, h7⟩ := hd; rw [h5] at h5r)
      simp only [Bl.Good, Region.wanted, if_true]
      go_simp
      first | exact ⟨Bl.ext_alloc _ _, Bl.slB_one _ _ _⟩ | exact ⟨Bl.ext_alloc _ _, Bl.rdss_three h5r (HL.out.ext hext) (HR.out.ext hext) _⟩ | (go_at_call 44; refine (concB_own _ [[1], l, r] _ hd (by simp) (by simp [Hl.out, Hr.out])).mono ?_; rintro e w2 ⟨v', rfl, h1, h2⟩; exact ⟨_, rfl, h2, (by have h3 := Bl.owns_mono h1 (Nat.le_trans HE.out.size hext.size); simpa using h3)⟩) | exact ⟨Below.refl _ _, rfl⟩
  case hmono => exact ⟨(fun _ _ _ h k => Bl.SlB.ext h k), Bl.mono_eqv _, Bl.mono_eqv _, (fun _ _ _ h k => Bl.Rdss.ext h k), (fun _ _ _ h k => Bl.owns_ext h k), trivial⟩
  case hend =>
    intro u w1 hext hend
    simp only [Bl.EndE, List.getElem?_cons_succ, List.getElem?_cons_zero, Option.bind_some, List.getD_cons_succ, List.getD_cons_zero, Bl.eqv, true_and] at hend
    simp only [Bl.fillAct, List.setIfInBounds_toArray, List.set_cons_succ, List.set_cons_zero, List.drop_succ_cons, List.drop_zero, hend]
    have hrd := hend.2
    have HE1 := Bl.hid (HE.out.trans hext)
    have Hrd := Bl.hid hrd
    clear hend hext hrd
    go_wp2_with fail
    go_ret
    exact ⟨_, rfl, Hrd.out, HE1.out⟩
theorem inner_any (l r : List Int) (w : World) (hl : l.length = 32) (hr : r.length = 32) :
    Calls Tryd.prog 71 #[.agg (Bl.ints .u8 l).toArray, .agg (Bl.ints .u8 r).toArray] w fun e w' => ∃ v', e = .returned v' ∧ Bl.Rd w' .u8 v' (1 :: (l ++ r)) ∧ Bl.Ext w w' :=
  (inner_own l r w hl hr).mono fun _ _ ⟨v', h1, h2, h3⟩ => ⟨v', h1, Bl.Rds.of_owns h2, h3⟩

set_option maxRecDepth 100000 in
set_option maxHeartbeats 400000 in
theorem leaf_any (v : Value) (l : List Int) (w : World) (hR : Bl.Rd w .u8 v l) (hg : Glob w) (hby : Bl.Byt l) (hlen : l.length ≤ 1099511627000) :
    Calls Tryd.prog 70 #[v] w fun e w' => e = .returned (.agg (Bl.ints .u8 (Bl.lfD l)).toArray) ∧ Bl.Ext w w' := by
  obtain ⟨p, c, hvf, hvn, hvc⟩ := hR.form
  subst hvf
  have Hv := Bl.hid hR
  have Hg := Bl.hid hg
  have Hby := Bl.hid hby
  clear hR hg hby
  go_enter Tryd.func70, Tryd.ntmps70
  go_wp2_with fail
  have HF0 := Bl.hid (fam_new w 32 .u8 41 #[.int .u8 0, .int .u8 0, .int .u8 0, .int .u8 0, .int .u8 0, .int .u8 0, .int .u8 0, .int .u8 0, .int .u8 0, .int .u8 0, .int .u8 0, .int .u8 0, .int .u8 0, .int .u8 0, .int .u8 0, .int .u8 0, .int .u8 0, .int .u8 0, .int .u8 0, .int .u8 0, .int .u8 0, .int .u8 0, .int .u8 0, .int .u8 0, .int .u8 0, .int .u8 0, .int .u8 0, .int .u8 0, .int .u8 0, .int .u8 0, .int .u8 0, .int .u8 0] rfl)
  have HE0 := Bl.hid (Bl.ext_alloc w (.cells #[.int .u8 0, .int .u8 0, .int .u8 0, .int .u8 0, .int .u8 0, .int .u8 0, .int .u8 0, .int .u8 0, .int .u8 0, .int .u8 0, .int .u8 0, .int .u8 0, .int .u8 0, .int .u8 0, .int .u8 0, .int .u8 0, .int .u8 0, .int .u8 0, .int .u8 0, .int .u8 0, .int .u8 0, .int .u8 0, .int .u8 0, .int .u8 0, .int .u8 0, .int .u8 0, .int .u8 0, .int .u8 0, .int .u8 0, .int .u8 0, .int .u8 0, .int .u8 0] 41))
  obtain ⟨W0, hW0⟩ : ∃ W0, W0 = w.alloc (.cells #[.int .u8 0, .int .u8 0, .int .u8 0, .int .u8 0, .int .u8 0, .int .u8 0, .int .u8 0, .int .u8 0, .int .u8 0, .int .u8 0, .int .u8 0, .int .u8 0, .int .u8 0, .int .u8 0, .int .u8 0, .int .u8 0, .int .u8 0, .int .u8 0, .int .u8 0, .int .u8 0, .int .u8 0, .int .u8 0, .int .u8 0, .int .u8 0, .int .u8 0, .int .u8 0, .int .u8 0, .int .u8 0, .int .u8 0, .int .u8 0, .int .u8 0, .int .u8 0] 41) := ⟨_, rfl⟩
  rw [← hW0] at HF0 HE0 ⊢
  clear hW0
  refine (outer_any _ l W0 (Hv.out.ext HE0.out) hlen).mono ?_
  rintro e w1 ⟨v1, rfl, hr1, hE1⟩
  obtain ⟨p1, c1, hf1, _, _⟩ := hr1.form
  subst hf1
  have H1 := Bl.hid (Bl.rdss_1 hr1 43)
  have HE1 : Hid (Bl.Ext W0 (w1.alloc (.cells #[.slice p1 (0 :: l).length c1] 43))) := Bl.hid (hE1.trans (Bl.ext_alloc _ _))
  clear hr1 hE1
  go_wp2_with fail
  refine (of_any _ [0 :: l] _ H1.out (Hg.out.ext (HE0.out.trans HE1.out)) (by simpa using Bl.byt_cons (by decide) (by decide) Hby.out) (by simp; omega)).mono ?_
  rintro e w2 ⟨rfl, hE2⟩
  have hsh : Bl.sha ([0 :: l] : List (List Int)).flatten = Bl.lfD l := by unfold Bl.lfD; rw [List.flatten_singleton]
  rw [hsh]
  obtain ⟨sh, hsh⟩ : ∃ sh, sh = Bl.lfD l := ⟨_, rfl⟩
  have Hshl : Hid (sh.length = 32) := Bl.hid (by rw [hsh]; rfl)
  have Hsh := Bl.hid hsh
  rw [← hsh]
  have HE2 := Bl.hid (HE1.out.trans hE2)
  clear hE2 H1 HE1 hsh
  have HFc := Bl.hid (HF0.out.below HE2.out (World.block_lt_of_cell? _ _ (HF0.out.1 0 (by decide))))
  have Hstc := Bl.hid (Bl.store_ints (P := Tryd.prog) (k := .u8) (ty := 41) (l := sh) HFc.out.there (by kernel_rfl) Hshl.out)
  go_wp2_with (((with_reducible refine Bl.wpL_store ?_ ?_ Hstc.out ?_); rfl; rfl))
  have hinc := World.rangeAt_setCells_same _ (w.heap.size) 0 (Bl.ints .u8 sh) (by rw [Bl.ints_length, Hshl.out]; exact HFc.out.there)
  have hldc := run_loadVar_mid (P := Tryd.prog) _ (w.heap.size) 0 41 (Bl.ints .u8 sh) _ hinc Tryd.underlying41 rfl (by rw [Bl.ints_length, Hshl.out]; kernel_rfl)
  refine bodyPost_ret (v := .agg (Bl.ints .u8 sh).toArray) (Bl.results_cell rfl rfl hldc) rfl ⟨by rw [Hsh.out], Bl.below_setCells _ _ _ _ (HE0.out.trans HE2.out) (Nat.le_refl _)⟩

set_option maxRecDepth 100000 in
set_option maxHeartbeats 400000 in
theorem node_any (l r : List Int) (w : World) (hl : l.length = 32) (hr : r.length = 32) (hbl : Bl.Byt l) (hbr : Bl.Byt r) (hg : Glob w) :
    Calls Tryd.prog 78 #[.agg (Bl.ints .u8 l).toArray, .agg (Bl.ints .u8 r).toArray] w fun e w' => e = .returned (.agg (Bl.ints .u8 (Bl.ndD l r)).toArray) ∧ Bl.Ext w w' := by
  have Hl := Bl.hid hl
  have Hr := Bl.hid hr
  have Hby : Hid (Bl.Byt (1 :: (l ++ r))) := Bl.hid (Bl.byt_cons (by decide) (by decide) (hbl.append hbr))
  have Hg := Bl.hid hg
  clear hl hr hbl hbr hg
  go_enter Tryd.func78, Tryd.ntmps78
  go_wp2_with (with_reducible refine Bl.stop_load (ty := 41) ?_)
  refine Bl.go_on ?_
  have h1 := Bl.rangeAt_ext (Bl.rangeAt_ext (Bl.range_box w l 41) (Bl.ext_alloc _ (.cells (Bl.ints .u8 r).toArray 41))) (Bl.ext_alloc _ (.cells #[.int .u8 0, .int .u8 0, .int .u8 0, .int .u8 0, .int .u8 0, .int .u8 0, .int .u8 0, .int .u8 0, .int .u8 0, .int .u8 0, .int .u8 0, .int .u8 0, .int .u8 0, .int .u8 0, .int .u8 0, .int .u8 0, .int .u8 0, .int .u8 0, .int .u8 0, .int .u8 0, .int .u8 0, .int .u8 0, .int .u8 0, .int .u8 0, .int .u8 0, .int .u8 0, .int .u8 0, .int .u8 0, .int .u8 0, .int .u8 0, .int .u8 0, .int .u8 0] 41))
  have h2 := Bl.rangeAt_ext (Bl.range_box (w.alloc (.cells (Bl.ints .u8 l).toArray 41)) r 41) (Bl.ext_alloc _ (.cells #[.int .u8 0, .int .u8 0, .int .u8 0, .int .u8 0, .int .u8 0, .int .u8 0, .int .u8 0, .int .u8 0, .int .u8 0, .int .u8 0, .int .u8 0, .int .u8 0, .int .u8 0, .int .u8 0, .int .u8 0, .int .u8 0, .int .u8 0, .int .u8 0, .int .u8 0, .int .u8 0, .int .u8 0, .int .u8 0, .int .u8 0, .int .u8 0, .int .u8 0, .int .u8 0, .int .u8 0, .int .u8 0, .int .u8 0, .int .u8 0, .int .u8 0, .int .u8 0] 41))
  rw [World.size_alloc] at h2
  have h3 := fam_new ((w.alloc (.cells (Bl.ints .u8 l).toArray 41)).alloc (.cells (Bl.ints .u8 r).toArray 41)) 32 .u8 41 #[.int .u8 0, .int .u8 0, .int .u8 0, .int .u8 0, .int .u8 0, .int .u8 0, .int .u8 0, .int .u8 0, .int .u8 0, .int .u8 0, .int .u8 0, .int .u8 0, .int .u8 0, .int .u8 0, .int .u8 0, .int .u8 0, .int .u8 0, .int .u8 0, .int .u8 0, .int .u8 0, .int .u8 0, .int .u8 0, .int .u8 0, .int .u8 0, .int .u8 0, .int .u8 0, .int .u8 0, .int .u8 0, .int .u8 0, .int .u8 0, .int .u8 0, .int .u8 0] rfl
  simp only [World.size_alloc] at h3
  have HE : Hid (Bl.Ext w (((w.alloc (.cells (Bl.ints .u8 l).toArray 41)).alloc (.cells (Bl.ints .u8 r).toArray 41)).alloc (.cells #[.int .u8 0, .int .u8 0, .int .u8 0, .int .u8 0, .int .u8 0, .int .u8 0, .int .u8 0, .int .u8 0, .int .u8 0, .int .u8 0, .int .u8 0, .int .u8 0, .int .u8 0, .int .u8 0, .int .u8 0, .int .u8 0, .int .u8 0, .int .u8 0, .int .u8 0, .int .u8 0, .int .u8 0, .int .u8 0, .int .u8 0, .int .u8 0, .int .u8 0, .int .u8 0, .int .u8 0, .int .u8 0, .int .u8 0, .int .u8 0, .int .u8 0, .int .u8 0] 41))) := Bl.hid (((Bl.ext_alloc _ _).trans (Bl.ext_alloc _ _)).trans (Bl.ext_alloc _ _))
  obtain ⟨W, hW⟩ : ∃ W, W = ((w.alloc (.cells (Bl.ints .u8 l).toArray 41)).alloc (.cells (Bl.ints .u8 r).toArray 41)).alloc (.cells #[.int .u8 0, .int .u8 0, .int .u8 0, .int .u8 0, .int .u8 0, .int .u8 0, .int .u8 0, .int .u8 0, .int .u8 0, .int .u8 0, .int .u8 0, .int .u8 0, .int .u8 0, .int .u8 0, .int .u8 0, .int .u8 0, .int .u8 0, .int .u8 0, .int .u8 0, .int .u8 0, .int .u8 0, .int .u8 0, .int .u8 0, .int .u8 0, .int .u8 0, .int .u8 0, .int .u8 0, .int .u8 0, .int .u8 0, .int .u8 0, .int .u8 0, .int .u8 0] 41) := ⟨_, rfl⟩
  rw [← hW] at h1 h2 h3 HE ⊢
  have Hld1 := Bl.hid (Bl.load_ints (P := Tryd.prog) (ty := 41) h1 Tryd.underlying41 (by kernel_rfl) Hl.out)
  have Hld2 := Bl.hid (Bl.load_ints (P := Tryd.prog) (ty := 41) h2 Tryd.underlying41 (by kernel_rfl) Hr.out)
  have HF0 := Bl.hid h3
  clear hW h1 h2 h3
  refine Bl.wpL_load rfl Hld1.out ?_
  go_wp2_with (with_reducible refine Bl.stop_load (ty := 41) ?_)
  refine Bl.go_on ?_
  refine Bl.wpL_load rfl Hld2.out ?_
  clear Hld1 Hld2
  go_wp2_with fail
  refine (inner_any l r W Hl.out Hr.out).mono ?_
  rintro e w1 ⟨v1, rfl, hr1, hE1⟩
  obtain ⟨p1, c1, hf1, _, _⟩ := hr1.form
  obtain ⟨n1, hn1⟩ : ∃ n1, n1 = (1 :: (l ++ r)).length := ⟨_, rfl⟩
  rw [← hn1] at hf1
  clear hn1
  subst hf1
  have H1 := Bl.hid (Bl.rdss_1 hr1 43)
  have HE1 : Hid (Bl.Ext W (w1.alloc (.cells #[.slice p1 n1 c1] 43))) := Bl.hid (hE1.trans (Bl.ext_alloc _ _))
  clear hr1 hE1
  go_wp2_with fail
  refine (of_any _ [1 :: (l ++ r)] _ H1.out (Hg.out.ext (HE.out.trans HE1.out)) (by simpa using Hby.out) (by simp [Hl.out, Hr.out])).mono ?_
  rintro e w2 ⟨rfl, hE2⟩
  have hsh : Bl.sha ([1 :: (l ++ r)] : List (List Int)).flatten = Bl.ndD l r := by unfold Bl.ndD; rw [List.flatten_singleton]
  rw [hsh]
  obtain ⟨sh, hsh⟩ : ∃ sh, sh = Bl.ndD l r := ⟨_, rfl⟩
  have Hshl : Hid (sh.length = 32) := Bl.hid (by rw [hsh]; rfl)
  have Hsh := Bl.hid hsh
  rw [← hsh]
  have HE2 := Bl.hid (HE1.out.trans hE2)
  clear hE2 H1 HE1 hsh
  have HFc := Bl.hid (HF0.out.below HE2.out (World.block_lt_of_cell? _ _ (HF0.out.1 0 (by decide))))
  have Hstc := Bl.hid (Bl.store_ints (P := Tryd.prog) (k := .u8) (ty := 41) (l := sh) HFc.out.there (by kernel_rfl) Hshl.out)
  go_wp2_with (((with_reducible refine Bl.wpL_store ?_ ?_ Hstc.out ?_); rfl; rfl))
  have hinc := World.rangeAt_setCells_same _ (w.heap.size + 1 + 1) 0 (Bl.ints .u8 sh) (by rw [Bl.ints_length, Hshl.out]; exact HFc.out.there)
  have hldc := run_loadVar_mid (P := Tryd.prog) _ (w.heap.size + 1 + 1) 0 41 (Bl.ints .u8 sh) _ hinc Tryd.underlying41 rfl (by rw [Bl.ints_length, Hshl.out]; kernel_rfl)
  refine bodyPost_ret (v := .agg (Bl.ints .u8 sh).toArray) (Bl.results_cell rfl rfl hldc) rfl ⟨by rw [Hsh.out], Bl.below_setCells _ _ _ _ (HE.out.trans HE2.out) (by omega)⟩

set_option maxRecDepth 100000 in
set_option maxHeartbeats 400000 in
theorem refleaf_any (v : Value) (l : List Int) (w : World) (hR : Bl.Rd w .u8 v l) (hg : GlobR w) (hby : Bl.Byt l) (hlen : l.length ≤ 1099511627000) :
    Calls Tryd.prog 51 #[v] w fun e w' => e = .returned (.agg (Bl.ints .u8 (Bl.lfD l)).toArray) ∧ Bl.Ext w w' := by
  obtain ⟨p, c, hvf, hvn, hvc⟩ := hR.form
  subst hvf
  have Hv := Bl.hid hR
  have Hg := Bl.hid hg
  have Hby := Bl.hid hby
  clear hR hg hby
  go_enter Tryd.func51, Tryd.ntmps51
  go_wp2_with (with_reducible refine Bl.stop_append ?_)
  refine Bl.go_on ?_
  have HF0 := Bl.hid (fam_new w 32 .u8 40 #[.int .u8 0, .int .u8 0, .int .u8 0, .int .u8 0, .int .u8 0, .int .u8 0, .int .u8 0, .int .u8 0, .int .u8 0, .int .u8 0, .int .u8 0, .int .u8 0, .int .u8 0, .int .u8 0, .int .u8 0, .int .u8 0, .int .u8 0, .int .u8 0, .int .u8 0, .int .u8 0, .int .u8 0, .int .u8 0, .int .u8 0, .int .u8 0, .int .u8 0, .int .u8 0, .int .u8 0, .int .u8 0, .int .u8 0, .int .u8 0, .int .u8 0, .int .u8 0] rfl)
  have HE0 := Bl.hid (Bl.ext_alloc w (.cells #[.int .u8 0, .int .u8 0, .int .u8 0, .int .u8 0, .int .u8 0, .int .u8 0, .int .u8 0, .int .u8 0, .int .u8 0, .int .u8 0, .int .u8 0, .int .u8 0, .int .u8 0, .int .u8 0, .int .u8 0, .int .u8 0, .int .u8 0, .int .u8 0, .int .u8 0, .int .u8 0, .int .u8 0, .int .u8 0, .int .u8 0, .int .u8 0, .int .u8 0, .int .u8 0, .int .u8 0, .int .u8 0, .int .u8 0, .int .u8 0, .int .u8 0, .int .u8 0] 40))
  have hown := Bl.owns_new (w.alloc (.cells #[.int .u8 0, .int .u8 0, .int .u8 0, .int .u8 0, .int .u8 0, .int .u8 0, .int .u8 0, .int .u8 0, .int .u8 0, .int .u8 0, .int .u8 0, .int .u8 0, .int .u8 0, .int .u8 0, .int .u8 0, .int .u8 0, .int .u8 0, .int .u8 0, .int .u8 0, .int .u8 0, .int .u8 0, .int .u8 0, .int .u8 0, .int .u8 0, .int .u8 0, .int .u8 0, .int .u8 0, .int .u8 0, .int .u8 0, .int .u8 0, .int .u8 0, .int .u8 0] 40)) 5 #[.int .u8 0] (w.heap.size + 1) 1 1 (by simp) (by decide) rfl
  simp only [World.size_alloc] at hown
  have hE1 := Bl.ext_alloc (w.alloc (.cells #[.int .u8 0, .int .u8 0, .int .u8 0, .int .u8 0, .int .u8 0, .int .u8 0, .int .u8 0, .int .u8 0, .int .u8 0, .int .u8 0, .int .u8 0, .int .u8 0, .int .u8 0, .int .u8 0, .int .u8 0, .int .u8 0, .int .u8 0, .int .u8 0, .int .u8 0, .int .u8 0, .int .u8 0, .int .u8 0, .int .u8 0, .int .u8 0, .int .u8 0, .int .u8 0, .int .u8 0, .int .u8 0, .int .u8 0, .int .u8 0, .int .u8 0, .int .u8 0] 40)) (.cells #[.int .u8 0] 5)
  have hs0 : (w.alloc (.cells #[.int .u8 0, .int .u8 0, .int .u8 0, .int .u8 0, .int .u8 0, .int .u8 0, .int .u8 0, .int .u8 0, .int .u8 0, .int .u8 0, .int .u8 0, .int .u8 0, .int .u8 0, .int .u8 0, .int .u8 0, .int .u8 0, .int .u8 0, .int .u8 0, .int .u8 0, .int .u8 0, .int .u8 0, .int .u8 0, .int .u8 0, .int .u8 0, .int .u8 0, .int .u8 0, .int .u8 0, .int .u8 0, .int .u8 0, .int .u8 0, .int .u8 0, .int .u8 0] 40)).heap.size = w.heap.size + 1 := by simp
  obtain ⟨W0, hW0⟩ : ∃ W0, W0 = w.alloc (.cells #[.int .u8 0, .int .u8 0, .int .u8 0, .int .u8 0, .int .u8 0, .int .u8 0, .int .u8 0, .int .u8 0, .int .u8 0, .int .u8 0, .int .u8 0, .int .u8 0, .int .u8 0, .int .u8 0, .int .u8 0, .int .u8 0, .int .u8 0, .int .u8 0, .int .u8 0, .int .u8 0, .int .u8 0, .int .u8 0, .int .u8 0, .int .u8 0, .int .u8 0, .int .u8 0, .int .u8 0, .int .u8 0, .int .u8 0, .int .u8 0, .int .u8 0, .int .u8 0] 40) := ⟨_, rfl⟩
  rw [← hW0] at HF0 HE0 hown hE1 hs0 ⊢
  have Hown := Bl.hid hown
  have HE1 := Bl.hid hE1
  have Hs0 := Bl.hid hs0
  clear hW0 hown hE1 hs0
  refine Bl.wpL_app tBytes Hown.out ((Hv.out.ext HE0.out).ext HE1.out) rfl rfl (by simp) (Bl.ints_one _ _) (by unfold maxLen; omega) (by omega) (by simp; rw [Hs0.out]; omega) ?_
  intro q d w2 hown2 hg2 hB2 hK2 hn2 hc2
  have hrd : Bl.Rd w2 .u8 (.slice q (1 + l.length) d) (0 :: l) := by
    have h := Bl.Rds.of_owns hown2
    show Bl.Rds _ _ (l.length + 1) _
    rw [Nat.add_comm l.length 1]; exact h
  have HE2 : Hid (Bl.Ext W0 w2) := Bl.hid (Below.trans HE1.out (by rw [Hs0.out]; exact hB2))
  have Hrd := Bl.hid hrd
  clear hown2 hg2 hB2 hK2 hrd HE1 Hown
  go_wp2_with fail
  refine (refof_any _ (0 :: l) w2 Hrd.out (Hg.out.ext (HE0.out.trans HE2.out)) (Bl.byt_cons (by decide) (by decide) Hby.out) (by simp; omega)).mono ?_
  rintro e w3 ⟨rfl, hE3⟩
  have hsh : Bl.sha (0 :: l) = Bl.lfD l := rfl
  rw [hsh]
  obtain ⟨sh, hsh⟩ : ∃ sh, sh = Bl.lfD l := ⟨_, rfl⟩
  have Hshl : Hid (sh.length = 32) := Bl.hid (by rw [hsh]; rfl)
  have Hsh := Bl.hid hsh
  rw [← hsh]
  have HE3 := Bl.hid (HE2.out.trans hE3)
  clear hE3 HE2 hsh Hrd
  have HFc := Bl.hid (HF0.out.below HE3.out (World.block_lt_of_cell? _ _ (HF0.out.1 0 (by decide))))
  have Hstc := Bl.hid (Bl.store_ints (P := Tryd.prog) (k := .u8) (ty := 40) (l := sh) HFc.out.there (by kernel_rfl) Hshl.out)
  go_wp2_with (((with_reducible refine Bl.wpL_store ?_ ?_ Hstc.out ?_); rfl; rfl))
  have hinc := World.rangeAt_setCells_same _ (w.heap.size) 0 (Bl.ints .u8 sh) (by rw [Bl.ints_length, Hshl.out]; exact HFc.out.there)
  have hldc := run_loadVar_mid (P := Tryd.prog) _ (w.heap.size) 0 40 (Bl.ints .u8 sh) _ hinc Tryd.underlying40 rfl (by rw [Bl.ints_length, Hshl.out]; kernel_rfl)
  refine bodyPost_ret (v := .agg (Bl.ints .u8 sh).toArray) (Bl.results_cell rfl rfl hldc) rfl ⟨by rw [Hsh.out], Bl.below_setCells _ _ _ _ (HE0.out.trans HE3.out) (Nat.le_refl _)⟩

set_option maxRecDepth 100000 in
set_option maxHeartbeats 400000 in
theorem refnode_any (l r : List Int) (w : World) (hl : l.length = 32) (hr : r.length = 32) (hbl : Bl.Byt l) (hbr : Bl.Byt r) (hg : GlobR w) :
    Calls Tryd.prog 50 #[.agg (Bl.ints .u8 l).toArray, .agg (Bl.ints .u8 r).toArray] w fun e w' => e = .returned (.agg (Bl.ints .u8 (Bl.ndD l r)).toArray) ∧ Bl.Ext w w' := by
  have Hl := Bl.hid hl
  have Hr := Bl.hid hr
  have Hby : Hid (Bl.Byt (1 :: (l ++ r))) := Bl.hid (Bl.byt_cons (by decide) (by decide) (hbl.append hbr))
  have Hg := Bl.hid hg
  clear hl hr hbl hbr hg
  go_enter Tryd.func50, Tryd.ntmps50
  go_wp2_with fail
  have h1 := Bl.rangeAt_ext (Bl.rangeAt_ext (Bl.range_box w l 40) (Bl.ext_alloc _ (.cells (Bl.ints .u8 r).toArray 40))) (Bl.ext_alloc _ (.cells #[.int .u8 0, .int .u8 0, .int .u8 0, .int .u8 0, .int .u8 0, .int .u8 0, .int .u8 0, .int .u8 0, .int .u8 0, .int .u8 0, .int .u8 0, .int .u8 0, .int .u8 0, .int .u8 0, .int .u8 0, .int .u8 0, .int .u8 0, .int .u8 0, .int .u8 0, .int .u8 0, .int .u8 0, .int .u8 0, .int .u8 0, .int .u8 0, .int .u8 0, .int .u8 0, .int .u8 0, .int .u8 0, .int .u8 0, .int .u8 0, .int .u8 0, .int .u8 0] 40))
  have h2 := Bl.rangeAt_ext (Bl.range_box (w.alloc (.cells (Bl.ints .u8 l).toArray 40)) r 40) (Bl.ext_alloc _ (.cells #[.int .u8 0, .int .u8 0, .int .u8 0, .int .u8 0, .int .u8 0, .int .u8 0, .int .u8 0, .int .u8 0, .int .u8 0, .int .u8 0, .int .u8 0, .int .u8 0, .int .u8 0, .int .u8 0, .int .u8 0, .int .u8 0, .int .u8 0, .int .u8 0, .int .u8 0, .int .u8 0, .int .u8 0, .int .u8 0, .int .u8 0, .int .u8 0, .int .u8 0, .int .u8 0, .int .u8 0, .int .u8 0, .int .u8 0, .int .u8 0, .int .u8 0, .int .u8 0] 40))
  rw [World.size_alloc] at h2
  have h3 := fam_new ((w.alloc (.cells (Bl.ints .u8 l).toArray 40)).alloc (.cells (Bl.ints .u8 r).toArray 40)) 32 .u8 40 #[.int .u8 0, .int .u8 0, .int .u8 0, .int .u8 0, .int .u8 0, .int .u8 0, .int .u8 0, .int .u8 0, .int .u8 0, .int .u8 0, .int .u8 0, .int .u8 0, .int .u8 0, .int .u8 0, .int .u8 0, .int .u8 0, .int .u8 0, .int .u8 0, .int .u8 0, .int .u8 0, .int .u8 0, .int .u8 0, .int .u8 0, .int .u8 0, .int .u8 0, .int .u8 0, .int .u8 0, .int .u8 0, .int .u8 0, .int .u8 0, .int .u8 0, .int .u8 0] rfl
  simp only [World.size_alloc] at h3
  have HE : Hid (Bl.Ext w (((w.alloc (.cells (Bl.ints .u8 l).toArray 40)).alloc (.cells (Bl.ints .u8 r).toArray 40)).alloc (.cells #[.int .u8 0, .int .u8 0, .int .u8 0, .int .u8 0, .int .u8 0, .int .u8 0, .int .u8 0, .int .u8 0, .int .u8 0, .int .u8 0, .int .u8 0, .int .u8 0, .int .u8 0, .int .u8 0, .int .u8 0, .int .u8 0, .int .u8 0, .int .u8 0, .int .u8 0, .int .u8 0, .int .u8 0, .int .u8 0, .int .u8 0, .int .u8 0, .int .u8 0, .int .u8 0, .int .u8 0, .int .u8 0, .int .u8 0, .int .u8 0, .int .u8 0, .int .u8 0] 40))) := Bl.hid (((Bl.ext_alloc _ _).trans (Bl.ext_alloc _ _)).trans (Bl.ext_alloc _ _))
  obtain ⟨W, hW⟩ : ∃ W, W = ((w.alloc (.cells (Bl.ints .u8 l).toArray 40)).alloc (.cells (Bl.ints .u8 r).toArray 40)).alloc (.cells #[.int .u8 0, .int .u8 0, .int .u8 0, .int .u8 0, .int .u8 0, .int .u8 0, .int .u8 0, .int .u8 0, .int .u8 0, .int .u8 0, .int .u8 0, .int .u8 0, .int .u8 0, .int .u8 0, .int .u8 0, .int .u8 0, .int .u8 0, .int .u8 0, .int .u8 0, .int .u8 0, .int .u8 0, .int .u8 0, .int .u8 0, .int .u8 0, .int .u8 0, .int .u8 0, .int .u8 0, .int .u8 0, .int .u8 0, .int .u8 0, .int .u8 0, .int .u8 0] 40) := ⟨_, rfl⟩
  rw [← hW] at h1 h2 h3 HE ⊢
  have HL := Bl.hid h1
  have HR := Bl.hid h2
  have HF0 := Bl.hid h3
  obtain ⟨B, hB⟩ : ∃ B, B = W.heap.size := ⟨_, rfl⟩
  have HB := Bl.hid hB
  clear hW h1 h2 h3 hB
  apply Bl.wp_region_ev 4 [5, 6, 7, 8] [(fun v w' => Bl.One1 w' v 1), Bl.eqv _, (fun v w' => Bl.OwnB w' v B 5 (1 + 32) (1 :: l)), Bl.eqv _] (by kernel_rfl) (by kernel_rfl) (by kernel_rfl) (by kernel_rfl)
  case hsteps =>
    refine ⟨?_, ?_, ?_, ?_, trivial⟩
    all_goals
      intro ev w1 hext hb hd
      have e2 := hb 2 (by decide)
      have e3 := hb 3 (by decide)
      clear hb
      simp only [Array.getD_eq_getD_getElem?, List.getElem?_toArray, List.getElem?_cons_succ, List.getElem?_cons_zero, Option.getD_some] at e2 e3
      simp only [Bl.DepsE, List.getElem?_cons_succ, List.getElem?_cons_zero, Option.bind_some, List.getD_cons_succ, List.getD_cons_zero, Bl.eqv, and_true] at hd
      have hc := (Bl.bcell hext).1
      simp only [Bl.Good, Region.wanted, if_true]
      first
      | (obtain ⟨c, w3, q1, q2, q3⟩ := Bl.app1 tBytes (Nat.le_refl 1) (B := B) hd.1 ⟨w.heap.size, hd.2, Bl.rangeAt_ext HL.out hext⟩ Hl.out (by decide) (by decide) (by rw [HB.out]; exact hext.size); refine Bl.goodR_appr q1 rfl rfl q2 ⟨_, c, rfl, q3⟩)
      | (go_simp; first | exact ⟨Bl.ext_alloc _ _, Bl.one1_new _ _ _⟩ | exact ⟨Below.refl _ _, rfl⟩)
  case hmono => exact ⟨(fun _ _ _ h k => Bl.One1.ext h k), Bl.mono_eqv _, (fun _ _ _ h k => Bl.OwnB.ext h k), Bl.mono_eqv _, trivial⟩
  case hend =>
    intro u w1 hext hend
    simp only [Bl.EndE, List.getElem?_cons_succ, List.getElem?_cons_zero, Option.bind_some, List.getD_cons_succ, List.getD_cons_zero, Bl.eqv, true_and] at hend
    simp only [Bl.fillAct, List.setIfInBounds_toArray, List.set_cons_succ, List.set_cons_zero, List.drop_succ_cons, List.drop_zero, hend]
    obtain ⟨⟨⟨_, _⟩, p, c, hq, hown⟩, _⟩ := hend
    rw [hq] at hown ⊢
    have Hown := Bl.hid hown
    have HR1 := Bl.hid ((Bl.rd_box HR.out Hr.out (by decide)).ext hext)
    have HE1 := Bl.hid hext
    clear hown hq hext
    go_wp2_with (with_reducible refine Bl.stop_append ?_)
    refine Bl.go_on ?_
    refine Bl.wpL_app tBytes Hown.out HR1.out rfl rfl (by simp) (Bl.ints_one _ _) (by rw [Hr.out]; decide) (by rw [Hr.out]; decide) (by rw [HB.out]; exact HE1.out.size) ?_
    intro q d w2 hown2 hg2 hB2 hK2 hn2 hc2
    rw [← Bl.ints_append] at hown2
    have HE2 : Hid (Bl.Ext W w2) := Bl.hid (Below.trans HE1.out (by rw [HB.out] at hB2; exact hB2))
    have Hrd : Hid (Bl.Rd w2 .u8 (.slice q (1 + 32 + r.length) d) (1 :: (l ++ r))) := Bl.hid (by
      have h := Bl.Rds.of_owns hown2
      show Bl.Rds _ _ ((l ++ r).length + 1) _
      rw [List.length_append, Hl.out, show 32 + r.length + 1 = 1 + 32 + r.length from by omega]; exact h)
    clear hown2 hg2 hB2 hK2 Hown HR1 HE1
    go_wp2_with fail
    refine (refof_any _ (1 :: (l ++ r)) w2 Hrd.out (Hg.out.ext (HE.out.trans HE2.out)) Hby.out (by simp [Hl.out, Hr.out])).mono ?_
    rintro e w3 ⟨rfl, hE3⟩
    have hsh : Bl.sha (1 :: (l ++ r)) = Bl.ndD l r := rfl
    rw [hsh]
    obtain ⟨sh, hsh⟩ : ∃ sh, sh = Bl.ndD l r := ⟨_, rfl⟩
    have Hshl : Hid (sh.length = 32) := Bl.hid (by rw [hsh]; rfl)
    have Hsh := Bl.hid hsh
    rw [← hsh]
    have HE3 := Bl.hid (HE2.out.trans hE3)
    clear hE3 HE2 hsh Hrd
    have HFc := Bl.hid (HF0.out.below HE3.out (World.block_lt_of_cell? _ _ (HF0.out.1 0 (by decide))))
    have Hstc := Bl.hid (Bl.store_ints (P := Tryd.prog) (k := .u8) (ty := 40) (l := sh) HFc.out.there (by kernel_rfl) Hshl.out)
    go_wp2_with (((with_reducible refine Bl.wpL_store ?_ ?_ Hstc.out ?_); rfl; rfl))
    have hinc := World.rangeAt_setCells_same _ (w.heap.size + 1 + 1) 0 (Bl.ints .u8 sh) (by rw [Bl.ints_length, Hshl.out]; exact HFc.out.there)
    have hldc := run_loadVar_mid (P := Tryd.prog) _ (w.heap.size + 1 + 1) 0 40 (Bl.ints .u8 sh) _ hinc Tryd.underlying40 rfl (by rw [Bl.ints_length, Hshl.out]; kernel_rfl)
    refine bodyPost_ret (v := .agg (Bl.ints .u8 sh).toArray) (Bl.results_cell rfl rfl hldc) rfl ⟨by rw [Hsh.out], Bl.below_setCells _ _ _ _ (HE.out.trans HE3.out) (by omega)⟩
end Go.Proofs.YtglenbikdahgjaaDoor

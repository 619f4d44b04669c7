/- Walks of baileeref13.Fold, Check. -/
import Derived.Test.YtjmkcenkjnoblaaDoorWFold
import Derived.Test.YtjmkcenkjnoblaaDoorWRefMake
namespace Go.Proofs.Bl
open Go Go.RowKit
theorem snoc_of (p : List (List Int)) (m : Nat) (h : p.length = m + 1) : p = p.take m ++ [p.getD m []] := by
  have := take_snocD p m (by omega)
  rw [List.take_of_length_le (by omega)] at this
  exact this
theorem climb_dig : ∀ (l : List ((Bool × Nat × Nat) × List Int)) (d : List Int), d.length = 32 → Byt d → (climb ndD d l).length = 32 ∧ Byt (climb ndD d l)
  | [], _, h, k => ⟨h, k⟩
  | (t, s) :: r, d, _, _ => climb_dig r (upP ndD d t s) (by unfold upP; split <;> exact ndD_length _ _) (by unfold upP; split <;> exact ndD_byt _ _)
theorem foldP_dig' (n i : Nat) {d : List Int} (p : List (List Int)) (h : d.length = 32) (k : Byt d) : (foldP ndD n i d p).length = 32 ∧ Byt (foldP ndD n i d p) := climb_dig _ _ h k
end Go.Proofs.Bl
namespace Go.Proofs.YtjmkcenkjnoblaaDoor
open Go.RowKit Go.Proofs

set_option maxRecDepth 100000 in
set_option maxHeartbeats 2000000 in
theorem reffold_nat : ∀ (n i : Nat) (d : List Int) (p : List (List Int)) (vp : Value) (w : World), n ≤ 512 → i < n → d.length = 32 → Bl.Byt d → Bl.RdD w vp p → Bl.Dig p → p.length = (Bl.turnsL n i).length → GlobR w →
    Calls Tryd.prog 28 #[.int .i64 n, .int .i64 i, .agg (Bl.ints .u8 d).toArray, vp] w fun e w' => e = .returned (.agg (Bl.ints .u8 (Bl.foldP Bl.ndD n i d p)).toArray) ∧ Bl.Ext w w' := by
  intro n
  induction n using Nat.strongRecOn with
  | _ n ih =>
    intro i d p vp w hn hi hdl hdb hp hdp hpl hg
    have IH := Bl.hid ih
    clear ih
    have HF1 := Bl.hid (fam_new (w.alloc (.cells (Bl.ints .u8 d).toArray 25)) 32 .u8 25 #[.int .u8 0, .int .u8 0, .int .u8 0, .int .u8 0, .int .u8 0, .int .u8 0, .int .u8 0, .int .u8 0, .int .u8 0, .int .u8 0, .int .u8 0, .int .u8 0, .int .u8 0, .int .u8 0, .int .u8 0, .int .u8 0, .int .u8 0, .int .u8 0, .int .u8 0, .int .u8 0, .int .u8 0, .int .u8 0, .int .u8 0, .int .u8 0, .int .u8 0, .int .u8 0, .int .u8 0, .int .u8 0, .int .u8 0, .int .u8 0, .int .u8 0, .int .u8 0] rfl)
    have HEa := Bl.hid (Bl.ext_alloc w (.cells (Bl.ints .u8 d).toArray 25))
    have HEb := Bl.hid (Bl.ext_alloc (w.alloc (.cells (Bl.ints .u8 d).toArray 25)) (.cells #[.int .u8 0, .int .u8 0, .int .u8 0, .int .u8 0, .int .u8 0, .int .u8 0, .int .u8 0, .int .u8 0, .int .u8 0, .int .u8 0, .int .u8 0, .int .u8 0, .int .u8 0, .int .u8 0, .int .u8 0, .int .u8 0, .int .u8 0, .int .u8 0, .int .u8 0, .int .u8 0, .int .u8 0, .int .u8 0, .int .u8 0, .int .u8 0, .int .u8 0, .int .u8 0, .int .u8 0, .int .u8 0, .int .u8 0, .int .u8 0, .int .u8 0, .int .u8 0] 25))
    have HRd := Bl.hid (Bl.rangeAt_ext (Bl.range_box w d 25) HEb.out)
    have hsz : (w.alloc (.cells (Bl.ints .u8 d).toArray 25)).heap.size = w.heap.size + 1 := World.size_alloc _ _
    rw [hsz] at HF1
    have HE0 := Bl.hid (HEa.out.trans HEb.out)
    have Hdl := Bl.hid hdl
    clear HEa HEb hsz hdl
    by_cases h1 : n = 1
    · subst h1
      have HP : Hid (Bl.foldP Bl.ndD 1 i d p = d) := Bl.hid (Bl.foldP_lo _ _ _ _ _ (by omega))
      rw [HP.out]
      have Hdb := Bl.hid hdb
      clear hp hdp hpl hg hdb HP IH
      go_enter Tryd.func28, Tryd.ntmps28
      go_wp2_with (with_reducible refine Bl.stop_load (ty := 25) ?_)
      refine Bl.go_on ?_
      generalize (w.alloc (.cells (Bl.ints .u8 d).toArray 25)).alloc (.cells #[.int .u8 0, .int .u8 0, .int .u8 0, .int .u8 0, .int .u8 0, .int .u8 0, .int .u8 0, .int .u8 0, .int .u8 0, .int .u8 0, .int .u8 0, .int .u8 0, .int .u8 0, .int .u8 0, .int .u8 0, .int .u8 0, .int .u8 0, .int .u8 0, .int .u8 0, .int .u8 0, .int .u8 0, .int .u8 0, .int .u8 0, .int .u8 0, .int .u8 0, .int .u8 0, .int .u8 0, .int .u8 0, .int .u8 0, .int .u8 0, .int .u8 0, .int .u8 0] 25) = W0 at *
      refine Bl.wpL_load rfl (Bl.load_ints HRd.out Tryd.underlying25 (by kernel_rfl) Hdl.out) ?_
      have HEs : Hid (Bl.Ext W0 W0) := Bl.hid (Below.refl _ _)
      have HFc := Bl.hid (HF1.out.below HEs.out (World.block_lt_of_cell? _ _ (HF1.out.1 0 (by decide))))
      have Hstc := Bl.hid (Bl.store_ints (P := Tryd.prog) (k := .u8) (ty := 25) (l := d) HFc.out.there (by kernel_rfl) Hdl.out)
      go_wp2_with (((with_reducible refine Bl.wpL_store ?_ ?_ Hstc.out ?_); rfl; rfl))
      have hinc := World.rangeAt_setCells_same _ (w.heap.size + 1) 0 (Bl.ints .u8 d) (by rw [Bl.ints_length, Hdl.out]; exact HFc.out.there)
      have hldc := run_loadVar_mid (P := Tryd.prog) _ (w.heap.size + 1) 0 25 (Bl.ints .u8 d) _ hinc Tryd.underlying25 rfl (by rw [Bl.ints_length, Hdl.out]; kernel_rfl)
      refine bodyPost_ret (v := .agg (Bl.ints .u8 d).toArray) (Bl.results_cell rfl rfl hldc) rfl ⟨rfl, Bl.below_setCells _ _ _ _ HE0.out (by omega)⟩
    · have hb1 : ((n : Int) == 1) = false := by rw [beq_eq_false_iff_ne]; omega
      obtain ⟨s1, s2, s3⟩ := Bl.sp_bounds n (by omega) (by omega)
      obtain ⟨m, hm⟩ : ∃ m, p.length = m + 1 := by
        by_cases hq : i < Bl.sp n
        · rw [Bl.turnsL_left n i (by omega) (by omega) hq, List.length_cons] at hpl; exact ⟨_, hpl⟩
        · rw [Bl.turnsL_right n i (by omega) (by omega) hq, List.length_cons] at hpl; exact ⟨_, hpl⟩
      have hsn := Bl.snoc_of p m hm
      have hml : (p.take m).length = m := by rw [List.length_take]; omega
      have HLf := Bl.hid (fun h : i < Bl.sp n => Bl.foldP_left Bl.ndD n i d (p.getD m []) (p.take m) (by omega) (by omega) h (by rw [hml]; have := hpl; rw [Bl.turnsL_left n i (by omega) (by omega) h, List.length_cons] at this; omega))
      have HRt := Bl.hid (fun h : ¬ i < Bl.sp n => Bl.foldP_right Bl.ndD n i d (p.getD m []) (p.take m) (by omega) (by omega) h (by rw [hml]; have := hpl; rw [Bl.turnsL_right n i (by omega) (by omega) h, List.length_cons] at this; omega))
      rw [← hsn] at HLf HRt
      obtain ⟨F, hF⟩ : ∃ F, F = Bl.foldP Bl.ndD n i d p := ⟨_, rfl⟩
      rw [← hF] at HLf HRt ⊢
      clear hF
      have HTl := Bl.hid (fun h : i < Bl.sp n => (by rw [hml]; have := hpl; rw [Bl.turnsL_left n i (by omega) (by omega) h, List.length_cons] at this; omega : (p.take m).length = (Bl.turnsL (Bl.sp n) i).length))
      have HTr := Bl.hid (fun h : ¬ i < Bl.sp n => (by rw [hml]; have := hpl; rw [Bl.turnsL_right n i (by omega) (by omega) h, List.length_cons] at this; omega : (p.take m).length = (Bl.turnsL (n - Bl.sp n) (i - Bl.sp n)).length))
      obtain ⟨b, o, cp, hvf, hvn, hvc, hbl, hrg⟩ := Bl.RdD.pos hp hdp (by omega)
      subst hvf
      have hrs := Bl.digit_at hrg hdp (i := m) (by omega)
      obtain ⟨hsl, hsb⟩ := hdp.get (i := m) (by omega)
      have Htk := Bl.hid (Bl.RdD.take hp hdp m (by omega))
      obtain ⟨s, hs⟩ : ∃ s, s = p.getD m [] := ⟨_, rfl⟩
      rw [← hs] at HLf HRt hrs hsl hsb
      have Hrs := Bl.hid hrs
      have Hsl := Bl.hid hsl
      have Hsb := Bl.hid hsb
      have Hdp := Bl.hid hdp
      have Hg := Bl.hid hg
      have Hdb := Bl.hid hdb
      rw [hm] at hvn ⊢
      clear hp hdp hpl hg hdb hsn hml hbl hrg hrs hsl hsb hs hm
      unfold maxLen at hvc
      go_enter Tryd.func28, Tryd.ntmps28
      go_wp2_with fail
      generalize (w.alloc (.cells (Bl.ints .u8 d).toArray 25)).alloc (.cells #[.int .u8 0, .int .u8 0, .int .u8 0, .int .u8 0, .int .u8 0, .int .u8 0, .int .u8 0, .int .u8 0, .int .u8 0, .int .u8 0, .int .u8 0, .int .u8 0, .int .u8 0, .int .u8 0, .int .u8 0, .int .u8 0, .int .u8 0, .int .u8 0, .int .u8 0, .int .u8 0, .int .u8 0, .int .u8 0, .int .u8 0, .int .u8 0, .int .u8 0, .int .u8 0, .int .u8 0, .int .u8 0, .int .u8 0, .int .u8 0, .int .u8 0, .int .u8 0] 25) = W0 at *
      refine (refsplit_any _ _ (by omega) (by omega)).mono ?_
      rintro e w3 ⟨rfl, hw3⟩
      subst hw3
      rw [Int.toNat_natCast]
      obtain ⟨q, hq⟩ : ∃ q, q = Bl.sp n := ⟨_, rfl⟩
      rw [← hq] at s1 s2 s3 HLf HRt HTl HTr ⊢
      clear hq
      have hm0 : (0 : Int) ≤ (m : Int) := by omega
      have hm1 : (m : Int) < (m : Int) + 1 := by omega
      have hm2 : (m : Int) ≤ (m : Int) + 1 := by omega
      have hm3 : (m : Int) ≤ (cp : Int) := by omega
      have hm4 : (m : Int) + 1 ≤ (cp : Int) := by omega
      have HLs : Hid (∀ w2, Bl.Ext w w2 → (Instr.loadAt 25 (.pointer (some ⟨b, o + m * 32, none⟩))).run Tryd.prog w2 = .ok (.agg (Bl.ints .u8 s).toArray) w2) := Bl.hid fun w2 h2 => Bl.load_ints (Bl.rangeAt_ext Hrs.out h2) Tryd.underlying25 (by kernel_rfl) Hsl.out
      go_wp2_with (with_reducible refine Bl.stop_load (ty := 25) ?_)
      refine Bl.go_on ?_
      refine Bl.wpL_load rfl (HLs.out _ HE0.out) ?_
      have HFz := Bl.hid (fam_new W0 32 .u8 25 #[.int .u8 0, .int .u8 0, .int .u8 0, .int .u8 0, .int .u8 0, .int .u8 0, .int .u8 0, .int .u8 0, .int .u8 0, .int .u8 0, .int .u8 0, .int .u8 0, .int .u8 0, .int .u8 0, .int .u8 0, .int .u8 0, .int .u8 0, .int .u8 0, .int .u8 0, .int .u8 0, .int .u8 0, .int .u8 0, .int .u8 0, .int .u8 0, .int .u8 0, .int .u8 0, .int .u8 0, .int .u8 0, .int .u8 0, .int .u8 0, .int .u8 0, .int .u8 0] rfl)
      have HBx := Bl.hid (Bl.BoxD.of_fam HFz.out (d := s) Hsl.out)
      have Hst := Bl.hid (Bl.store_ints (P := Tryd.prog) (ty := 25) (k := .u8) (l := s) (n := 32) HFz.out.there (by kernel_rfl) Hsl.out)
      have HE1 : Hid (Bl.Ext W0 ((W0.alloc (.cells #[.int .u8 0, .int .u8 0, .int .u8 0, .int .u8 0, .int .u8 0, .int .u8 0, .int .u8 0, .int .u8 0, .int .u8 0, .int .u8 0, .int .u8 0, .int .u8 0, .int .u8 0, .int .u8 0, .int .u8 0, .int .u8 0, .int .u8 0, .int .u8 0, .int .u8 0, .int .u8 0, .int .u8 0, .int .u8 0, .int .u8 0, .int .u8 0, .int .u8 0, .int .u8 0, .int .u8 0, .int .u8 0, .int .u8 0, .int .u8 0, .int .u8 0, .int .u8 0] 25)).setCells W0.heap.size 0 (Bl.ints .u8 s))) := Bl.hid (Bl.below_setCells _ _ _ _ (Bl.ext_alloc _ _) (Nat.le_refl _))
      go_wp2_with (with_reducible refine Bl.stop_store (ty := 25) ?_)
      refine Bl.go_on ?_
      refine Bl.wpL_store0 rfl rfl Hst.out ?_
      clear Hst HFz HLs
      generalize (W0.alloc (.cells #[.int .u8 0, .int .u8 0, .int .u8 0, .int .u8 0, .int .u8 0, .int .u8 0, .int .u8 0, .int .u8 0, .int .u8 0, .int .u8 0, .int .u8 0, .int .u8 0, .int .u8 0, .int .u8 0, .int .u8 0, .int .u8 0, .int .u8 0, .int .u8 0, .int .u8 0, .int .u8 0, .int .u8 0, .int .u8 0, .int .u8 0, .int .u8 0, .int .u8 0, .int .u8 0, .int .u8 0, .int .u8 0, .int .u8 0, .int .u8 0, .int .u8 0, .int .u8 0] 25)).setCells W0.heap.size 0 (Bl.ints .u8 s) = W6 at *
      generalize W0.heap.size = X at *
      have HE6 := Bl.hid (HE0.out.trans HE1.out)
      have HLd : Hid (∀ w2, Bl.Ext W6 w2 → (Instr.loadAt 25 (.pointer (some ⟨w.heap.size, 0, none⟩))).run Tryd.prog w2 = .ok (.agg (Bl.ints .u8 d).toArray) w2) := Bl.hid fun w2 h2 => Bl.load_ints (Bl.rangeAt_ext HRd.out (HE1.out.trans h2)) Tryd.underlying25 (by kernel_rfl) Hdl.out
      have HLx : Hid (∀ w2, Bl.Ext W6 w2 → (Instr.loadAt 25 (.pointer (some ⟨X, 0, none⟩))).run Tryd.prog w2 = .ok (.agg (Bl.ints .u8 s).toArray) w2) := Bl.hid fun w2 h2 => (HBx.out.ext h2).load Tryd.underlying25 (by kernel_rfl)
      have hw1 : IntKind.i64.wrap (m : Int) = (m : Int) := IntWalk.i64_in _ (by omega)
      have hw2 : IntKind.i64.wrap ((m : Int) + 1 - 1) = (m : Int) := by rw [Int.add_sub_cancel]; exact hw1
      by_cases hiq : i < q
      · have hlt' : (i : Int) < (q : Int) := by omega
        have hP := HLf.out hiq
        have HC : Hid (∀ w2, Bl.Ext W6 w2 → Calls Tryd.prog 28 #[.int .i64 q, .int .i64 i, .agg (Bl.ints .u8 d).toArray, .slice (some ⟨b, o, none⟩) m cp] w2 fun e w' => e = .returned (.agg (Bl.ints .u8 (Bl.foldP Bl.ndD q i d (p.take m))).toArray) ∧ Bl.Ext w2 w') := Bl.hid fun w2 h2 =>
          IH.out q (by omega) i d (p.take m) _ w2 (by omega) hiq Hdl.out Hdb.out (Bl.Rds.ext Htk.out (HE6.out.trans h2)) (Hdp.out.take m) (HTl.out hiq) (Hg.out.ext (HE6.out.trans h2))
        have hfd := Bl.foldP_dig' q i (p.take m) Hdl.out Hdb.out
        obtain ⟨f, hf⟩ : ∃ f, f = Bl.foldP Bl.ndD q i d (p.take m) := ⟨_, rfl⟩
        rw [← hf] at hP HC hfd
        have Hfd := Bl.hid hfd
        have HN : Hid (∀ w2, Bl.Ext W6 w2 → Calls Tryd.prog 45 #[.agg (Bl.ints .u8 f).toArray, .agg (Bl.ints .u8 s).toArray] w2 fun e w' => e = .returned (.agg (Bl.ints .u8 (Bl.ndD f s)).toArray) ∧ Bl.Ext w2 w') := Bl.hid fun w2 h2 => refnode_any f s w2 Hfd.out.1 Hsl.out Hfd.out.2 Hsb.out (Hg.out.ext (HE6.out.trans h2))
        have Hshl : Hid ((Bl.ndD f s).length = 32) := Bl.hid (Bl.ndD_length _ _)
        obtain ⟨nd, hnd⟩ : ∃ nd, nd = Bl.ndD f s := ⟨_, rfl⟩
        rw [← hnd] at HN Hshl hP
        have HPd := Bl.hid hP
        clear hf hP hnd HLf HRt HTl HTr IH hfd
        go_wp2_with fail
        apply Bl.wp_region_ev 11 [25, 26, 27, 28, 29, 30, 31, 32, 33, 34, 35] [Bl.eqv _, Bl.eqv _, Bl.eqv _, Bl.eqv _, Bl.eqv _, Bl.eqv _, Bl.eqv (.int .i64 (m : Int)), Bl.eqv (.slice (some ⟨b, o, none⟩) m cp), Bl.eqv _, Bl.eqv _, Bl.eqv _] (by kernel_rfl) (by kernel_rfl) (by kernel_rfl) (by kernel_rfl)
        case hsteps =>
          refine ⟨?_, ?_, ?_, ?_, ?_, ?_, ?_, ?_, ?_, ?_, ?_, trivial⟩
          all_goals
            intro ev w1 hext hb hd
            have e1 := hb 1 (by decide)
            have e3 := hb 3 (by decide)
            have e6 := hb 6 (by decide)
            have e9 := hb 9 (by decide)
            have e10 := hb 10 (by decide)
            clear hb
            simp only [Array.getD_eq_getD_getElem?, List.getElem?_toArray, List.getElem?_cons_succ, List.getElem?_cons_zero, Option.getD_some] at e1 e3 e6 e9 e10
            simp only [Bl.DepsE, List.getElem?_cons_succ, List.getElem?_cons_zero, Option.bind_some, List.getD_cons_succ, List.getD_cons_zero, Bl.eqv, and_true] at hd
            have hc := (Bl.bcell hext).1
            simp only [Bl.Good, Region.wanted, if_true]
            first
            | ((with_reducible refine Bl.goodR_load ?_ (HLd.out _ hext) ?_); exact e6; exact rfl) | ((with_reducible refine Bl.goodR_load ?_ (HLx.out _ hext) ?_); exact e10; exact rfl)
            | (go_simp; first | (go_at_call 28; (with_reducible refine (HC.out _ hext).mono ?_); rintro e w2 ⟨rfl, hE2⟩; exact ⟨_, rfl, hE2, rfl⟩) | (go_at_call 45; (with_reducible refine (HN.out _ hext).mono ?_); rintro e w2 ⟨rfl, hE2⟩; exact ⟨_, rfl, hE2, rfl⟩) | exact ⟨Below.refl _ _, rfl⟩ | exact ⟨Below.refl _ _, by rw [if_neg (by omega)]; rfl⟩ | exact ⟨Below.refl _ _, rfl⟩)
        case hmono => exact ⟨Bl.mono_eqv _, Bl.mono_eqv _, Bl.mono_eqv _, Bl.mono_eqv _, Bl.mono_eqv _, Bl.mono_eqv _, (Bl.mono_eqv _), (Bl.mono_eqv _), Bl.mono_eqv _, Bl.mono_eqv _, Bl.mono_eqv _, trivial⟩
        case hend =>
          intro u w1 hext hend
          simp only [Bl.EndE, List.getElem?_cons_succ, List.getElem?_cons_zero, Option.bind_some, List.getD_cons_succ, List.getD_cons_zero, Bl.eqv, true_and] at hend
          simp only [Bl.fillAct, List.setIfInBounds_toArray, List.set_cons_succ, List.set_cons_zero, List.drop_succ_cons, List.drop_zero, hend]
          have HE7 := Bl.hid (HE1.out.trans hext)
          clear hext hend
          have HFc := Bl.hid (HF1.out.below HE7.out (World.block_lt_of_cell? _ _ (HF1.out.1 0 (by decide))))
          have Hstc := Bl.hid (Bl.store_ints (P := Tryd.prog) (k := .u8) (ty := 25) (l := nd) HFc.out.there (by kernel_rfl) Hshl.out)
          go_wp2_with (((with_reducible refine Bl.wpL_store ?_ ?_ Hstc.out ?_); rfl; rfl))
          have hinc := World.rangeAt_setCells_same _ (w.heap.size + 1) 0 (Bl.ints .u8 nd) (by rw [Bl.ints_length, Hshl.out]; exact HFc.out.there)
          have hldc := run_loadVar_mid (P := Tryd.prog) _ (w.heap.size + 1) 0 25 (Bl.ints .u8 nd) _ hinc Tryd.underlying25 rfl (by rw [Bl.ints_length, Hshl.out]; kernel_rfl)
          refine bodyPost_ret (v := .agg (Bl.ints .u8 nd).toArray) (Bl.results_cell rfl rfl hldc) rfl ⟨by rw [HPd.out], Bl.below_setCells _ _ _ _ (HE0.out.trans HE7.out) (Nat.le_succ _)⟩
      · have hlt' : ¬ ((i : Int) < (q : Int)) := by omega
        have hP := HRt.out hiq
        have e1 : ((n - q : Nat) : Int) = (n : Int) - (q : Int) := by omega
        have e2 : ((i - q : Nat) : Int) = (i : Int) - (q : Int) := by omega
        have HC : Hid (∀ w2, Bl.Ext W6 w2 → Calls Tryd.prog 28 #[.int .i64 ((n : Int) - (q : Int)), .int .i64 ((i : Int) - (q : Int)), .agg (Bl.ints .u8 d).toArray, .slice (some ⟨b, o, none⟩) m cp] w2 fun e w' => e = .returned (.agg (Bl.ints .u8 (Bl.foldP Bl.ndD (n - q) (i - q) d (p.take m))).toArray) ∧ Bl.Ext w2 w') := Bl.hid fun w2 h2 => by
          rw [← e1, ← e2]
          exact IH.out (n - q) (by omega) (i - q) d (p.take m) _ w2 (by omega) (by omega) Hdl.out Hdb.out (Bl.Rds.ext Htk.out (HE6.out.trans h2)) (Hdp.out.take m) (HTr.out hiq) (Hg.out.ext (HE6.out.trans h2))
        have hfd := Bl.foldP_dig' (n - q) (i - q) (p.take m) Hdl.out Hdb.out
        obtain ⟨f, hf⟩ : ∃ f, f = Bl.foldP Bl.ndD (n - q) (i - q) d (p.take m) := ⟨_, rfl⟩
        rw [← hf] at hP HC hfd
        have Hfd := Bl.hid hfd
        have HN : Hid (∀ w2, Bl.Ext W6 w2 → Calls Tryd.prog 45 #[.agg (Bl.ints .u8 s).toArray, .agg (Bl.ints .u8 f).toArray] w2 fun e w' => e = .returned (.agg (Bl.ints .u8 (Bl.ndD s f)).toArray) ∧ Bl.Ext w2 w') := Bl.hid fun w2 h2 => refnode_any s f w2 Hsl.out Hfd.out.1 Hsb.out Hfd.out.2 (Hg.out.ext (HE6.out.trans h2))
        have Hshl : Hid ((Bl.ndD s f).length = 32) := Bl.hid (Bl.ndD_length _ _)
        obtain ⟨nd, hnd⟩ : ∃ nd, nd = Bl.ndD s f := ⟨_, rfl⟩
        rw [← hnd] at HN Hshl hP
        have HPd := Bl.hid hP
        have hw3 : IntKind.i64.wrap ((n : Int) - (q : Int)) = (n : Int) - (q : Int) := IntWalk.i64_in _ (by omega)
        have hw4 : IntKind.i64.wrap ((i : Int) - (q : Int)) = (i : Int) - (q : Int) := IntWalk.i64_in _ (by omega)
        clear hf hP hnd HLf HRt HTl HTr IH e1 e2 hfd
        go_wp2_with fail
        apply Bl.wp_region_ev 15 [36, 37, 38, 39, 40, 41, 42, 43, 44, 45, 46, 47, 48, 49, 50] [Bl.eqv _, Bl.eqv _, Bl.eqv _, Bl.eqv (.int .i64 ((n : Int) - (q : Int))), Bl.eqv _, Bl.eqv _, Bl.eqv (.int .i64 ((i : Int) - (q : Int))), Bl.eqv _, Bl.eqv _, Bl.eqv _, Bl.eqv _, Bl.eqv (.int .i64 (m : Int)), Bl.eqv (.slice (some ⟨b, o, none⟩) m cp), Bl.eqv _, Bl.eqv _] (by kernel_rfl) (by kernel_rfl) (by kernel_rfl) (by kernel_rfl)
        case hsteps =>
          refine ⟨?_, ?_, ?_, ?_, ?_, ?_, ?_, ?_, ?_, ?_, ?_, ?_, ?_, ?_, ?_, trivial⟩
          all_goals
            intro ev w1 hext hb hd
            have e0 := hb 0 (by decide)
            have e1 := hb 1 (by decide)
            have e3 := hb 3 (by decide)
            have e6 := hb 6 (by decide)
            have e9 := hb 9 (by decide)
            have e10 := hb 10 (by decide)
            clear hb
            simp only [Array.getD_eq_getD_getElem?, List.getElem?_toArray, List.getElem?_cons_succ, List.getElem?_cons_zero, Option.getD_some] at e0 e1 e3 e6 e9 e10
            simp only [Bl.DepsE, List.getElem?_cons_succ, List.getElem?_cons_zero, Option.bind_some, List.getD_cons_succ, List.getD_cons_zero, Bl.eqv, and_true] at hd
            have hc := (Bl.bcell hext).1
            simp only [Bl.Good, Region.wanted, if_true]
            first
            | ((with_reducible refine Bl.goodR_load ?_ (HLd.out _ hext) ?_); exact e6; exact rfl) | ((with_reducible refine Bl.goodR_load ?_ (HLx.out _ hext) ?_); exact e10; exact rfl)
            | (go_simp; first | (go_at_call 28; (with_reducible refine (HC.out _ hext).mono ?_); rintro e w2 ⟨rfl, hE2⟩; exact ⟨_, rfl, hE2, rfl⟩) | (go_at_call 45; (with_reducible refine (HN.out _ hext).mono ?_); rintro e w2 ⟨rfl, hE2⟩; exact ⟨_, rfl, hE2, rfl⟩) | exact ⟨Below.refl _ _, rfl⟩ | exact ⟨Below.refl _ _, by rw [if_neg (by omega)]; rfl⟩ | exact ⟨Below.refl _ _, rfl⟩)
        case hmono => exact ⟨Bl.mono_eqv _, Bl.mono_eqv _, Bl.mono_eqv _, (Bl.mono_eqv _), Bl.mono_eqv _, Bl.mono_eqv _, (Bl.mono_eqv _), Bl.mono_eqv _, Bl.mono_eqv _, Bl.mono_eqv _, Bl.mono_eqv _, (Bl.mono_eqv _), (Bl.mono_eqv _), Bl.mono_eqv _, Bl.mono_eqv _, trivial⟩
        case hend =>
          intro u w1 hext hend
          simp only [Bl.EndE, List.getElem?_cons_succ, List.getElem?_cons_zero, Option.bind_some, List.getD_cons_succ, List.getD_cons_zero, Bl.eqv, true_and] at hend
          simp only [Bl.fillAct, List.setIfInBounds_toArray, List.set_cons_succ, List.set_cons_zero, List.drop_succ_cons, List.drop_zero, hend]
          have HE7 := Bl.hid (HE1.out.trans hext)
          clear hext hend
          have HFc := Bl.hid (HF1.out.below HE7.out (World.block_lt_of_cell? _ _ (HF1.out.1 0 (by decide))))
          have Hstc := Bl.hid (Bl.store_ints (P := Tryd.prog) (k := .u8) (ty := 25) (l := nd) HFc.out.there (by kernel_rfl) Hshl.out)
          go_wp2_with (((with_reducible refine Bl.wpL_store ?_ ?_ Hstc.out ?_); rfl; rfl))
          have hinc := World.rangeAt_setCells_same _ (w.heap.size + 1) 0 (Bl.ints .u8 nd) (by rw [Bl.ints_length, Hshl.out]; exact HFc.out.there)
          have hldc := run_loadVar_mid (P := Tryd.prog) _ (w.heap.size + 1) 0 25 (Bl.ints .u8 nd) _ hinc Tryd.underlying25 rfl (by rw [Bl.ints_length, Hshl.out]; kernel_rfl)
          refine bodyPost_ret (v := .agg (Bl.ints .u8 nd).toArray) (Bl.results_cell rfl rfl hldc) rfl ⟨by rw [HPd.out], Bl.below_setCells _ _ _ _ (HE0.out.trans HE7.out) (Nat.le_succ _)⟩

set_option maxRecDepth 100000 in
set_option maxHeartbeats 1000000 in
theorem refcheck_any (root : List Int) (n i : Int) (vl vp : Value) (l : List Int) (p : List (List Int)) (w : World) (hr : root.length = 32)
    (hl : Bl.Rd w .u8 vl l) (hbl : Bl.Byt l) (hll : l.length ≤ 1099511626000) (hp : Bl.RdD w vp p) (hdp : Bl.Dig p) (hg : GlobR w) :
    Calls Tryd.prog 27 #[.agg (Bl.ints .u8 root).toArray, .int .i64 n, .int .i64 i, vl, vp] w fun e w' => e = .returned (.int .i64 (Bl.chkP root n i l p)) ∧ Bl.Ext w w' := by
  obtain ⟨pp, cp, hvf, hvn, hvc⟩ := hp.form
  subst hvf
  have HE0 := Bl.hid (Bl.ext_alloc w (.cells (Bl.ints .u8 root).toArray 25))
  have HRr := Bl.hid (Bl.range_box w root 25)
  by_cases h : n ≤ 512 ∧ 0 ≤ i ∧ i < n
  · obtain ⟨h2, h3, h4⟩ := h
    have hb := Bl.thereB_mk h2 h3 h4
    obtain ⟨j, rfl⟩ := Int.eq_ofNat_of_zero_le h3
    obtain ⟨m, rfl⟩ := Int.eq_ofNat_of_zero_le (a := n) (by omega)
    have HL := Bl.hid (Bl.lenP_yes (n := m) (i := j) (by omega) (by omega))
    have hTb := Bl.turnsL_len m m j (Nat.le_refl _) (by omega)
    by_cases hpl : p.length = (Bl.turnsL m j).length
    · have HF : Hid (∀ w2, Bl.Ext w w2 → Calls Tryd.prog 28 #[.int .i64 m, .int .i64 j, .agg (Bl.ints .u8 (Bl.lfD l)).toArray, .slice pp p.length cp] w2 fun e w' => e = .returned (.agg (Bl.ints .u8 (Bl.foldP Bl.ndD m j (Bl.lfD l) p)).toArray) ∧ Bl.Ext w2 w') := Bl.hid fun w2 hw =>
        (reffold_nat m j (Bl.lfD l) p _ w2 (by omega) (by omega) (Bl.lfD_length l) (Bl.lfD_byt l) (Bl.Rds.ext hp hw) hdp hpl (hg.ext hw)).mono fun _ _ ⟨a, b⟩ => ⟨a, b⟩
      have HLf : Hid (∀ w2, Bl.Ext w w2 → Calls Tryd.prog 29 #[vl] w2 fun e w' => e = .returned (.agg (Bl.ints .u8 (Bl.lfD l)).toArray) ∧ Bl.Ext w2 w') := Bl.hid fun w2 hw => refleaf_any vl l w2 (hl.ext hw) (hg.ext hw) hbl (by omega)
      have Hok := Bl.hid (fun hf => Bl.chkP_ok (root := root) (l := l) hb hpl hf)
      have Hbad := Bl.hid (fun hf => Bl.chkP_bad (root := root) (l := l) hb hpl hf)
      have hfl := (Bl.foldP_dig (l := l) hpl).1
      obtain ⟨f, hf⟩ : ∃ f, f = Bl.foldP Bl.ndD m j (Bl.lfD l) p := ⟨_, rfl⟩
      rw [← hf] at HF Hok Hbad hfl
      obtain ⟨t, ht⟩ : ∃ t, t = (Bl.turnsL m j).length := ⟨_, rfl⟩
      rw [← ht] at HL hpl hTb
      have HRl : Hid (∀ w2, Bl.Ext (w.alloc (.cells (Bl.ints .u8 root).toArray 25)) w2 → (Instr.loadAt 25 (.pointer (some ⟨w.heap.size, 0, none⟩))).run Tryd.prog w2 = .ok (.agg (Bl.ints .u8 root).toArray) w2) := Bl.hid fun w2 h2 => Bl.load_ints (Bl.rangeAt_ext HRr.out h2) Tryd.underlying25 (by kernel_rfl) hr
      rw [hpl] at HF ⊢
      have hneg : ¬ ((t : Int) < 0) := by omega
      obtain ⟨lf, hlf⟩ : ∃ lf, lf = Bl.lfD l := ⟨_, rfl⟩
      rw [← hlf] at HF HLf
      by_cases hfr : f = root
      · have heq : ∀ w, (Op.equalIn 10000 25 (.agg (Bl.ints .u8 f).toArray) (.agg (Bl.ints .u8 root).toArray)).run Tryd.prog w = .ok true w := fun w => by
          rw [Bl.eq10k Tryd.underlying25 Tryd.underlying5 (fun w => by simp [go_sem]) f root hfl hr w, decide_eq_true hfr]
        have Hc := Bl.hid (Hok.out hfr)
        clear hp hdp hg hl hbl hf ht hpl hlf hfl hfr Hok Hbad hvn hb h3
        go_enter Tryd.func27, Tryd.ntmps27
        go_wp2_with fail
        generalize w.alloc (.cells (Bl.ints .u8 root).toArray 25) = W0 at *
        refine (reflen_any _ _ _).mono ?_
        rintro e w3 ⟨rfl, hw3⟩
        subst hw3
        rw [HL.out]
        go_wp2_with fail
        apply Bl.wp_region_ev 7 [21, 22, 23, 24, 25, 26, 27] [Bl.eqv _, Bl.eqv _, Bl.eqv _, Bl.eqv _, Bl.eqv _, Bl.eqv _, Bl.eqv _] (by kernel_rfl) (by kernel_rfl) (by kernel_rfl) (by kernel_rfl)
        case hsteps =>
          refine ⟨?_, ?_, ?_, ?_, ?_, ?_, ?_, trivial⟩
          all_goals
            intro ev w1 hext hb hd
            have e1 := hb 1 (by decide)
            have e2 := hb 2 (by decide)
            have e3 := hb 3 (by decide)
            have e4 := hb 4 (by decide)
            have e5 := hb 5 (by decide)
            clear hb
            simp only [Array.getD_eq_getD_getElem?, List.getElem?_toArray, List.getElem?_cons_succ, List.getElem?_cons_zero, Option.getD_some] at e1 e2 e3 e4 e5
            simp only [Bl.DepsE, List.getElem?_cons_succ, List.getElem?_cons_zero, Option.bind_some, List.getD_cons_succ, List.getD_cons_zero, Bl.eqv, and_true] at hd
            have hc := (Bl.bcell hext).1
            simp only [Bl.Good, Region.wanted, if_true]
            first
            | ((with_reducible refine Bl.goodR_load ?_ (HRl.out _ hext) ?_); exact e5; exact rfl)
            | (go_simp; first | (go_at_call 29; (with_reducible refine (HLf.out _ (HE0.out.trans hext)).mono ?_); rintro e w2 ⟨rfl, hE2⟩; exact ⟨_, rfl, hE2, rfl⟩) | (go_at_call 28; (with_reducible refine (HF.out _ (HE0.out.trans hext)).mono ?_); rintro e w2 ⟨rfl, hE2⟩; exact ⟨_, rfl, hE2, rfl⟩) | exact ⟨Below.refl _ _, rfl⟩ | exact ⟨Below.refl _ _, rfl⟩)
        case hmono => exact ⟨Bl.mono_eqv _, Bl.mono_eqv _, Bl.mono_eqv _, Bl.mono_eqv _, Bl.mono_eqv _, Bl.mono_eqv _, Bl.mono_eqv _, trivial⟩
        case hend =>
          intro u w1 hext hend
          simp only [Bl.EndE, List.getElem?_cons_succ, List.getElem?_cons_zero, Option.bind_some, List.getD_cons_succ, List.getD_cons_zero, Bl.eqv, true_and] at hend
          simp only [Bl.fillAct, List.setIfInBounds_toArray, List.set_cons_succ, List.set_cons_zero, List.drop_succ_cons, List.drop_zero, hend]
          have HE2 := Bl.hid (HE0.out.trans hext)
          clear hext hend
          go_wp2_with fail
          go_ret
          exact ⟨by rw [Hc.out]; rfl, HE2.out⟩
      · have heq : ∀ w, (Op.equalIn 10000 25 (.agg (Bl.ints .u8 f).toArray) (.agg (Bl.ints .u8 root).toArray)).run Tryd.prog w = .ok false w := fun w => by
          rw [Bl.eq10k Tryd.underlying25 Tryd.underlying5 (fun w => by simp [go_sem]) f root hfl hr w, decide_eq_false hfr]
        have Hc := Bl.hid (Hbad.out hfr)
        clear hp hdp hg hl hbl hf ht hpl hlf hfl hfr Hok Hbad hvn hb h3
        go_enter Tryd.func27, Tryd.ntmps27
        go_wp2_with fail
        generalize w.alloc (.cells (Bl.ints .u8 root).toArray 25) = W0 at *
        refine (reflen_any _ _ _).mono ?_
        rintro e w3 ⟨rfl, hw3⟩
        subst hw3
        rw [HL.out]
        go_wp2_with fail
        apply Bl.wp_region_ev 7 [21, 22, 23, 24, 25, 26, 27] [Bl.eqv _, Bl.eqv _, Bl.eqv _, Bl.eqv _, Bl.eqv _, Bl.eqv _, Bl.eqv _] (by kernel_rfl) (by kernel_rfl) (by kernel_rfl) (by kernel_rfl)
        case hsteps =>
          refine ⟨?_, ?_, ?_, ?_, ?_, ?_, ?_, trivial⟩
          all_goals
            intro ev w1 hext hb hd
            have e1 := hb 1 (by decide)
            have e2 := hb 2 (by decide)
            have e3 := hb 3 (by decide)
            have e4 := hb 4 (by decide)
            have e5 := hb 5 (by decide)
            clear hb
            simp only [Array.getD_eq_getD_getElem?, List.getElem?_toArray, List.getElem?_cons_succ, List.getElem?_cons_zero, Option.getD_some] at e1 e2 e3 e4 e5
            simp only [Bl.DepsE, List.getElem?_cons_succ, List.getElem?_cons_zero, Option.bind_some, List.getD_cons_succ, List.getD_cons_zero, Bl.eqv, and_true] at hd
            have hc := (Bl.bcell hext).1
            simp only [Bl.Good, Region.wanted, if_true]
            first
            | ((with_reducible refine Bl.goodR_load ?_ (HRl.out _ hext) ?_); exact e5; exact rfl)
            | (go_simp; first | (go_at_call 29; (with_reducible refine (HLf.out _ (HE0.out.trans hext)).mono ?_); rintro e w2 ⟨rfl, hE2⟩; exact ⟨_, rfl, hE2, rfl⟩) | (go_at_call 28; (with_reducible refine (HF.out _ (HE0.out.trans hext)).mono ?_); rintro e w2 ⟨rfl, hE2⟩; exact ⟨_, rfl, hE2, rfl⟩) | exact ⟨Below.refl _ _, rfl⟩ | exact ⟨Below.refl _ _, rfl⟩)
        case hmono => exact ⟨Bl.mono_eqv _, Bl.mono_eqv _, Bl.mono_eqv _, Bl.mono_eqv _, Bl.mono_eqv _, Bl.mono_eqv _, Bl.mono_eqv _, trivial⟩
        case hend =>
          intro u w1 hext hend
          simp only [Bl.EndE, List.getElem?_cons_succ, List.getElem?_cons_zero, Option.bind_some, List.getD_cons_succ, List.getD_cons_zero, Bl.eqv, true_and] at hend
          simp only [Bl.fillAct, List.setIfInBounds_toArray, List.set_cons_succ, List.set_cons_zero, List.drop_succ_cons, List.drop_zero, hend]
          have HE2 := Bl.hid (HE0.out.trans hext)
          clear hext hend
          go_wp2_with fail
          go_ret
          exact ⟨by rw [Hc.out]; rfl, HE2.out⟩
    · have Hc := Bl.hid (Bl.chkP_size (root := root) (l := l) hb hpl)
      obtain ⟨t, ht⟩ : ∃ t, t = (Bl.turnsL m j).length := ⟨_, rfl⟩
      rw [← ht] at HL hpl hTb
      have hne : ((t : Int) == (p.length : Int)) = false := by rw [beq_eq_false_iff_ne]; omega
      have hneg : ¬ ((t : Int) < 0) := by omega
      clear hp hdp hg hl hbl ht hpl hb h3
      go_enter Tryd.func27, Tryd.ntmps27
      go_wp2_with fail
      refine (reflen_any _ _ _).mono ?_
      rintro e w3 ⟨rfl, hw3⟩
      subst hw3
      rw [HL.out]
      go_wp2_with fail
      go_ret
      exact ⟨by rw [Hc.out]; rfl, HE0.out⟩
  · have HL := Bl.hid (Bl.lenP_no (Bl.thereB_no h))
    have Hc := Bl.hid (Bl.chkP_range (root := root) (l := l) (p := p) (Bl.thereB_no h))
    clear hp hdp hg hl hbl h
    go_enter Tryd.func27, Tryd.ntmps27
    go_wp2_with fail
    refine (reflen_any _ _ _).mono ?_
    rintro e w3 ⟨rfl, hw3⟩
    subst hw3
    rw [HL.out]
    go_wp2_with fail
    go_ret
    exact ⟨by rw [Hc.out]; rfl, HE0.out⟩
end Go.Proofs.YtjmkcenkjnoblaaDoor

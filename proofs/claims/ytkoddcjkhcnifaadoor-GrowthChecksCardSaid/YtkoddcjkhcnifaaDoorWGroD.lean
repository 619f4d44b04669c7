/- Walk of baileelaw14.alive. -/
import Derived.Test.YtkoddcjkhcnifaaDoorWGro2
import Derived.Test.YtkoddcjkhcnifaaDoorGroQ
import Derived.Test.YtkoddcjkhcnifaaDoorWTree2
namespace Go.Proofs.Bl
open Go Go.RowKit
theorem byt1 (x : Int) (h0 : 0 ≤ x) (h1 : x ≤ 255) : Byt [x] := byt_cons h0 h1 Byt.nil
theorem trail_zero : trail 0 = 0 := trail_even 0 rfl
theorem carry_zero (x : List Int) : carry ndD (trail 0) [] x = [x] := by rw [trail_zero]; rfl
end Go.Proofs.Bl
namespace Go.Proofs.YtkoddcjkhcnifaaDoor
open Go.RowKit Go.Proofs

set_option maxRecDepth 100000 in
set_option maxHeartbeats 1000000 in
theorem alive14 (w : World) (hg : GlobR w) : Calls Tryd.prog 9 #[] w fun e w' => e = .returned (.bool true) ∧ Bl.Ext w w' := by
  have Hg := Bl.hid hg
  have hgG : Glob w := hg
  have HgG := Bl.hid hgG
  clear hg hgG
  go_enter Tryd.func9, Tryd.ntmps9
  go_wp2_with fail
  refine (gnew_any w).mono ?_
  rintro e w1 ⟨rfl, hF1, hE1⟩
  have HE1 := Bl.hid hE1
  have HF1 := Bl.hid (hF1.ext (Bl.ext_alloc w1 (.cells #[.int .u8 7] 5)))
  have HE2 := Bl.hid (hE1.trans (Bl.ext_alloc w1 (.cells #[.int .u8 7] 5)))
  have HR := Bl.hid (Bl.rds_one w1 5 .u8 7)
  clear hF1 hE1
  go_wp2_with fail
  refine (gadd_any w.heap.size (.slice none 0 0) _ 0 [] [7] w _ HF1.out (by decide) (by rw [Bl.trail_zero]; exact Nat.le_refl _) (by decide) HR.out (Bl.byt1 7 (by decide) (by decide)) (by decide) HgG.out HE2.out (Nat.le_refl _) (fun k h => by cases h)).mono ?_
  rintro e w2 ⟨rfl, v2, hF2, hv2, hA2⟩
  rw [Bl.carry_zero] at hF2
  have HE3 : Hid (Bl.Ext w w2) := Bl.hid (Below.trans HE2.out (hA2.below HE2.out.size (Nat.le_refl _) (fun k h => by cases h)))
  have HF2 := Bl.hid hF2
  clear hF2 hv2 hA2 HF1 HE2 HR HE1
  go_wp2_with fail
  refine (gpeaks_any w.heap.size v2 (0 + 1) [Bl.lfD [7]] w2 HF2.out (by decide)).mono ?_
  rintro e w3 ⟨v3, rfl, hown3, hE3⟩
  obtain ⟨p3, c3, hv3, _, _⟩ := (Bl.Rds.of_owns hown3).form
  subst hv3
  obtain ⟨b3, o3, cc3, hpe, hc1, hc2, hbl, hrg⟩ := Bl.RdD.pos (ds := [Bl.lfD [7]]) (Bl.Rds.of_owns hown3) (Bl.Dig.one (Bl.lfD_length _) (Bl.lfD_byt _)) (by decide)
  injection hpe with hpe1 hpe2 hpe3
  subst hpe1
  rw [Bl.cellsD_one] at hrg
  have HF3 := Bl.hid (HF2.out.ext hE3)
  have HE4 := Bl.hid (HE3.out.trans hE3)
  have HLf : Hid (∀ w4 v, Bl.Ext w3 w4 → Bl.Rd w4 .u8 v [7] → Calls Tryd.prog 32 #[v] w4 fun e w' => e = .returned (.agg (Bl.ints .u8 (Bl.lfD [7])).toArray) ∧ Bl.Ext w4 w') := Bl.hid fun w4 v h4 hv => refleaf_any v [7] w4 hv (Hg.out.ext (HE4.out.trans h4)) (Bl.byt1 7 (by decide) (by decide)) (by decide)
  have Hrg := Bl.hid hrg
  obtain ⟨lf, hlf⟩ : ∃ lf, lf = Bl.lfD [7] := ⟨_, rfl⟩
  have hlfl : lf.length = 32 := by rw [hlf]; exact Bl.lfD_length _
  rw [← hlf] at HLf Hrg HF3
  have HLo : Hid (∀ w4, Bl.Ext w3 w4 → (Instr.loadAt 41 (.pointer (some ⟨b3, o3, none⟩))).run Tryd.prog w4 = .ok (.agg (Bl.ints .u8 lf).toArray) w4) := Bl.hid fun w4 h4 => Bl.load_ints (Bl.rangeAt_ext Hrg.out h4) Tryd.underlying41 (by kernel_rfl) hlfl
  have heq : ∀ w, (Op.equalIn 10000 40 (.agg (Bl.ints .u8 lf).toArray) (.agg (Bl.ints .u8 lf).toArray)).run Tryd.prog w = .ok true w := fun w =>
    Bl.eq10k_same Tryd.underlying40 Tryd.underlying5 (fun w => by simp [go_sem]) lf hlfl w
  have HSz : Hid (∀ w4, Bl.Ext w3 w4 → Calls Tryd.prog 16 #[.pointer (some ⟨w.heap.size, 0, none⟩)] w4 fun e w' => e = .returned (.int .i64 1) ∧ w4 = w') := Bl.hid fun w4 h4 => gsize_any w.heap.size v2 (0 + 1) [lf] w4 (HF3.out.ext h4)
  clear hown3 hE3 hpe2 hpe3 hc1 hc2 hbl hrg HF2 HE3 hlf hlfl
  go_wp2_with fail
  apply Bl.wp_region_ev 16 [14, 15, 16, 17, 18, 19, 20, 21, 22, 23, 24, 25, 26, 27, 28, 29] [Bl.eqv _, Bl.eqv _, Bl.eqv _, Bl.eqv _, Bl.eqv _, Bl.eqv _, Bl.eqv _, Bl.eqv _, Bl.eqv _, Bl.eqv _, Bl.eqv _, Bl.eqv _, (fun v w' => Bl.SlB w' v [7]), Bl.eqv _, Bl.eqv _, Bl.eqv _] (by kernel_rfl) (by kernel_rfl) (by kernel_rfl) (by kernel_rfl)
  case hsteps =>
    refine ⟨?_, ?_, ?_, ?_, ?_, ?_, ?_, ?_, ?_, ?_, ?_, ?_, ?_, ?_, ?_, ?_, trivial⟩
    all_goals
      intro ev w1 hext hb hd
      have e1 := hb 1 (by decide)
      have e2 := hb 2 (by decide)
      clear hb
      simp only [Array.getD_eq_getD_getElem?, List.getElem?_toArray, List.getElem?_cons_succ, List.getElem?_cons_zero, Option.getD_some] at e1 e2
      simp only [Bl.DepsE, List.getElem?_cons_succ, List.getElem?_cons_zero, Option.bind_some, List.getD_cons_succ, List.getD_cons_zero, Bl.eqv, and_true] at hd
      have hc := (Bl.bcell hext).1
      simp only [Bl.Good, Region.wanted, Bl.yieldE, List.getElem?_cons_succ, List.getElem?_cons_zero, Option.bind_some, hd, beq_self_eq_true, if_true]
      first
      | ((with_reducible refine Bl.goodR_load ?_ (HLo.out _ hext) ?_); (first | exact hd | exact hd.1 | exact hd.2); exact rfl)
      | (go_simp; first | (go_at_call 16; (with_reducible refine (HSz.out _ hext).mono ?_); rintro e w4 ⟨rfl, rfl⟩; exact ⟨_, rfl, Below.refl _ _, rfl⟩) | (go_at_call 32; have hd9 : Bl.SlB w1 (ev 26) [7] := (by first | exact hd | exact hd.1 | exact hd.2); obtain ⟨p9, c9, h9, h9r⟩ := hd9; (with_reducible refine (HLf.out _ _ hext h9r).mono ?_); rintro e w2 ⟨rfl, hE2⟩; exact ⟨_, rfl, hE2, rfl⟩) | exact ⟨Bl.ext_alloc _ _, Bl.slB_one _ _ _⟩ | exact rfl | exact ⟨Below.refl _ _, rfl⟩ | exact ⟨Below.refl _ _, rfl⟩)
  case hmono => exact ⟨Bl.mono_eqv _, Bl.mono_eqv _, Bl.mono_eqv _, Bl.mono_eqv _, Bl.mono_eqv _, Bl.mono_eqv _, Bl.mono_eqv _, Bl.mono_eqv _, Bl.mono_eqv _, Bl.mono_eqv _, Bl.mono_eqv _, Bl.mono_eqv _, (fun _ _ _ h k => Bl.SlB.ext h k), Bl.mono_eqv _, Bl.mono_eqv _, Bl.mono_eqv _, trivial⟩
  case hend =>
    intro u w1 hext hend
    simp only [Bl.EndE, List.getElem?_cons_succ, List.getElem?_cons_zero, Option.bind_some, List.getD_cons_succ, List.getD_cons_zero, Bl.eqv, true_and] at hend
    simp only [Bl.fillAct, List.setIfInBounds_toArray, List.set_cons_succ, List.set_cons_zero, List.drop_succ_cons, List.drop_zero, hend]
    have HE9 := Bl.hid (HE4.out.trans hext)
    clear hext hend
    go_wp2_with fail
    go_ret
    exact ⟨rfl, HE9.out⟩
end Go.Proofs.YtkoddcjkhcnifaaDoor

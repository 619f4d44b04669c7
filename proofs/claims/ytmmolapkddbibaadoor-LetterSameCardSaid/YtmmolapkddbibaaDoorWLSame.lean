/- Walk of the law LetterSame. -/
import Derived.Test.YtmmolapkddbibaaDoorLet2b
import Derived.Test.YtmmolapkddbibaaDoorLet1
import Derived.Test.YtmmolapkddbibaaDoorLWa
import Derived.Test.YtmmolapkddbibaaDoorWord
namespace Go.Proofs.YtmmolapkddbibaaDoor
open Go Go.RowKit Go.Proofs

set_option maxRecDepth 100000 in
set_option maxHeartbeats 8000000 in
theorem lettersame_all (v1 v2 : Value) (k : Int) (x y : Bl.LT) (w : World) (S : List Nat) (a : Nat → Addr) (h1 : Bl.LtV w v1 x) (h2 : Bl.LtV w v2 y) (he : Errs S a w) (s1 : 1 ∈ S) (s3 : 3 ∈ S) (s4 : 4 ∈ S) (s7 : 7 ∈ S) (s8 : 8 ∈ S) (hg : GlobL w) :
    Calls Tryd.prog 4 #[v1, v2, .int .i64 k] w fun e w' => e = .returned (.bool true) ∧ Bl.Ext w w' := by
  have H1 := Bl.hid h1
  have H2 := Bl.hid h2
  have HAl : Hid (∀ w2, Bl.Ext w w2 → Calls Tryd.prog 15 #[] w2 fun e w' => e = .returned (.bool true) ∧ Bl.Ext w2 w') := Bl.hid fun w2 h2 => alive22 w2 S a (he.ext h2) s1 s3 s4 s7 s8
  have Hg := Bl.hid hg
  obtain ⟨cs1, pa, sa, ba, L, rfl, ha⟩ := h1
  obtain ⟨cs2, pb, sb, bb, M, rfl, hb⟩ := h2
  obtain rfl := ha.eq
  obtain rfl := hb.eq
  clear he ha hb hg
  obtain ⟨W0, hW0⟩ : ∃ W0, W0 = (w.alloc (.cells (Bl.cL x pa sa ba).toArray 26)).alloc (.cells (Bl.cL y pb sb bb).toArray 26) := ⟨_, rfl⟩
  have HE0 : Hid (Bl.Ext w W0) := Bl.hid (by rw [hW0]; exact (Bl.ext_alloc _ _).trans (Bl.ext_alloc _ _))
  have HBa : Hid (Bl.BoxC W0 w.heap.size (Bl.cL x pa sa ba)) := Bl.hid (by rw [hW0]; exact (Bl.BoxC.box w 26 (Bl.cL_ne _ _ _ _)).ext (Bl.ext_alloc _ _))
  have HBb : Hid (Bl.BoxC W0 (w.heap.size + 1) (Bl.cL y pb sb bb)) := Bl.hid (by rw [hW0]; exact Bl.box2 w _ _ _ _ (Bl.cL_ne _ _ _ _))
  unfold Bl.cL at hW0
  show Calls Tryd.prog 4 #[.agg #[.int .i64 x.kind, .int .i64 x.id, .int .i64 x.obj, pa, sa, .int .i64 x.frm, .int .i64 x.cnt, ba, .int .i64 x.code], .agg #[.int .i64 y.kind, .int .i64 y.id, .int .i64 y.obj, pb, sb, .int .i64 y.frm, .int .i64 y.cnt, bb, .int .i64 y.code], .int .i64 k] w _
  go_enter Tryd.func4, Tryd.ntmps4
  go_wp2_with fail
  rw [← hW0]
  clear hW0
  refine (HAl.out W0 HE0.out).mono ?_
  rintro e w1 ⟨rfl, hE1⟩
  have HE1 := Bl.hid (HE0.out.trans hE1)
  have HBa1 := Bl.hid (HBa.out.ext hE1)
  have HBb1 := Bl.hid (HBb.out.ext hE1)
  clear hE1 HBa HBb HE0 HAl
  have Hl1 := Bl.hid (HBa1.out.load (P := Tryd.prog) Tryd.underlying26 rfl (by kernel_rfl))
  go_wp2_with (with_reducible refine Bl.stop_load (ty := 26) ?_)
  refine Bl.go_on ?_
  refine Bl.wpL_load rfl Hl1.out ?_
  go_wp2_with fail
  refine (long22_any _ x w1 (H1.out.ext HE1.out)).mono ?_
  rintro e w2 ⟨hor, hE2⟩
  have HE2 := Bl.hid (HE1.out.trans hE2)
  have HBa2 := Bl.hid (HBa1.out.ext hE2)
  have HBb2 := Bl.hid (HBb1.out.ext hE2)
  clear hE2 HBa1 HBb1 HE1 Hl1
  rcases hor with rfl | ⟨rfl, hl1⟩
  · go_wp2_with fail
    go_ret
    exact ⟨rfl, HE2.out⟩
  have Hlg1 := Bl.hid hl1
  clear hl1
  have Hl2 := Bl.hid (HBb2.out.load (P := Tryd.prog) Tryd.underlying26 rfl (by kernel_rfl))
  go_wp2_with (with_reducible refine Bl.stop_loadg (ty := 26) ?_)
  refine Bl.go_on ?_
  refine Bl.wpL_loadg rfl rfl Hl2.out ?_
  go_wp2_with fail
  refine (long22_any _ y w2 (H2.out.ext HE2.out)).mono ?_
  rintro e w3 ⟨hor, hE3⟩
  have HE3 := Bl.hid (HE2.out.trans hE3)
  have HBa3 := Bl.hid (HBa2.out.ext hE3)
  have HBb3 := Bl.hid (HBb2.out.ext hE3)
  clear hE3 HBa2 HBb2 HE2 Hl2
  rcases hor with rfl | ⟨rfl, hl2⟩
  · go_wp2_with fail
    go_ret
    exact ⟨rfl, HE3.out⟩
  have Hlg2 := Bl.hid hl2
  clear hl2
  obtain ⟨Q, hQ⟩ : ∃ Q, Q = Bl.sameL x y := ⟨_, rfl⟩
  have HSxy : Hid (∀ w2, Bl.Ext w w2 → Calls Tryd.prog 16 #[.agg (Bl.cL x pa sa ba).toArray, .agg (Bl.cL y pb sb bb).toArray] w2 fun e w' => e = .returned (.bool Q) ∧ Bl.Ext w2 w') := Bl.hid fun w2 h => by rw [hQ]; exact lsame_any _ _ x y w2 (H1.out.ext h) (H2.out.ext h)
  have HSxx : Hid (∀ w2, Bl.Ext w w2 → Calls Tryd.prog 16 #[.agg (Bl.cL x pa sa ba).toArray, .agg (Bl.cL x pa sa ba).toArray] w2 fun e w' => e = .returned (.bool true) ∧ Bl.Ext w2 w') := Bl.hid fun w2 h => by
    have h3 := lsame_any _ _ x x w2 (H1.out.ext h) (H1.out.ext h)
    rw [show Bl.sameL x x = true by simp [Bl.sameL]] at h3
    exact h3
  have HOx : Hid (∀ w2, Bl.Ext w w2 → Calls Tryd.prog 9 #[.agg (Bl.cL x pa sa ba).toArray] w2 fun e w' => ∃ v', e = .returned v' ∧ Bl.LtV w' v' x ∧ Bl.Ext w2 w') := Bl.hid fun w2 h => of22_any _ x w2 (H1.out.ext h) (by have := Hlg1.out.sh; omega) (fun s hs => by have := (Hlg1.out.st s hs).2; omega)
  have HOy : Hid (∀ w2, Bl.Ext w w2 → Calls Tryd.prog 9 #[.agg (Bl.cL y pb sb bb).toArray] w2 fun e w' => ∃ v', e = .returned v' ∧ Bl.LtV w' v' y ∧ Bl.Ext w2 w') := Bl.hid fun w2 h => of22_any _ y w2 (H2.out.ext h) (by have := Hlg2.out.sh; omega) (fun s hs => by have := (Hlg2.out.st s hs).2; omega)
  have HRs : Hid (∀ w2 u v, Bl.LtV w2 u x → Bl.LtV w2 v y → Calls Tryd.prog 12 #[u, v] w2 fun e w' => e = .returned (.bool Q) ∧ Bl.Ext w2 w') := Bl.hid fun w2 u v h h' => by rw [hQ]; exact rsame22_any u v x y w2 h h'
  have HWd : Hid (∀ w2, Bl.Ext w w2 → Calls Tryd.prog 17 #[.int .i64 k] w2 fun e w' => e = .returned (.string (lword k)) ∧ w2 = w') := Bl.hid fun w2 h => lword_any k w2 (Hg.out.ext h)
  clear hQ
  have HW : Hid (¬ (1 ≤ k ∧ k ≤ 7) → lword k = ⟨#[]⟩) := Bl.hid fun h => by unfold lword; rw [if_neg h]
  have HW2 : Hid (∀ j : Nat, k = ((j + 1 : Nat) : Int) → j < 7 → lword k = ⟨(lwords.getD (j + 1) []).toArray⟩) := Bl.hid fun j h h7 => by subst h; unfold lword; rw [if_pos (by omega)]; rfl
  by_cases hk : 1 ≤ k ∧ k ≤ 7
  · obtain ⟨hk1, hk2⟩ := hk
    have hq : (w3.alloc (.cells #[.string ⟨#[112, 117, 116]⟩, .string ⟨#[97, 99, 107]⟩, .string ⟨#[97, 115, 107]⟩, .string ⟨#[97, 110, 115, 119, 101, 114]⟩, .string ⟨#[102, 101, 116, 99, 104]⟩, .string ⟨#[103, 105, 118, 101]⟩, .string ⟨#[114, 101, 102, 117, 115, 101]⟩] 9)).cell? ⟨w3.heap.size, k.toNat - 1, none⟩ = some (.string (lword k)) := by
      rw [World.cell?_alloc_new]
      have hc : k = 1 ∨ k = 2 ∨ k = 3 ∨ k = 4 ∨ k = 5 ∨ k = 6 ∨ k = 7 := by omega
      rcases hc with rfl | rfl | rfl | rfl | rfl | rfl | rfl <;> rfl
    have HE4 : Hid (Bl.Ext w (w3.alloc (.cells #[.string ⟨#[112, 117, 116]⟩, .string ⟨#[97, 99, 107]⟩, .string ⟨#[97, 115, 107]⟩, .string ⟨#[97, 110, 115, 119, 101, 114]⟩, .string ⟨#[102, 101, 116, 99, 104]⟩, .string ⟨#[103, 105, 118, 101]⟩, .string ⟨#[114, 101, 102, 117, 115, 101]⟩] 9))) := Bl.hid (HE3.out.trans (Bl.ext_alloc _ _))
    have HBa4 := Bl.hid (HBa3.out.ext (Bl.ext_alloc w3 (.cells #[.string ⟨#[112, 117, 116]⟩, .string ⟨#[97, 99, 107]⟩, .string ⟨#[97, 115, 107]⟩, .string ⟨#[97, 110, 115, 119, 101, 114]⟩, .string ⟨#[102, 101, 116, 99, 104]⟩, .string ⟨#[103, 105, 118, 101]⟩, .string ⟨#[114, 101, 102, 117, 115, 101]⟩] 9)))
    have HBb4 := Bl.hid (HBb3.out.ext (Bl.ext_alloc w3 (.cells #[.string ⟨#[112, 117, 116]⟩, .string ⟨#[97, 99, 107]⟩, .string ⟨#[97, 115, 107]⟩, .string ⟨#[97, 110, 115, 119, 101, 114]⟩, .string ⟨#[102, 101, 116, 99, 104]⟩, .string ⟨#[103, 105, 118, 101]⟩, .string ⟨#[114, 101, 102, 117, 115, 101]⟩] 9)))
    obtain ⟨W4, hW4⟩ : ∃ W4, W4 = w3.alloc (.cells #[.string ⟨#[112, 117, 116]⟩, .string ⟨#[97, 99, 107]⟩, .string ⟨#[97, 115, 107]⟩, .string ⟨#[97, 110, 115, 119, 101, 114]⟩, .string ⟨#[102, 101, 116, 99, 104]⟩, .string ⟨#[103, 105, 118, 101]⟩, .string ⟨#[114, 101, 102, 117, 115, 101]⟩] 9) := ⟨_, rfl⟩
    go_wp2_with fail
    rw [← hW4] at HE4 HBa4 HBb4 ⊢
    clear hq hW4
    have Hlx := Bl.hid (fun w2 (h : Bl.Ext W4 w2) => (HBa4.out.ext h).load (P := Tryd.prog) Tryd.underlying26 rfl (by kernel_rfl))
    have Hly := Bl.hid (fun w2 (h : Bl.Ext W4 w2) => (HBb4.out.ext h).load (P := Tryd.prog) Tryd.underlying26 rfl (by kernel_rfl))
    cases Q
    · skip
      apply Bl.wp_region_ev 20 [27, 28, 29, 30, 31, 32, 33, 34, 35, 36, 37, 38, 39, 40, 41, 42, 43, 44, 45, 46] [Bl.eqv _, Bl.eqv _, Bl.eqv _, Bl.eqv _, (fun v w' => Bl.LtV w' v x), Bl.eqv _, (fun v w' => Bl.LtV w' v y), Bl.eqv _, Bl.eqv _, Bl.eqv _, Bl.eqv _, Bl.eqv _, Bl.eqv _, Bl.eqv _, Bl.eqv _, Bl.eqv _, Bl.eqv _, Bl.eqv _, Bl.eqv _, Bl.eqv _] (by kernel_rfl) (by kernel_rfl) (by kernel_rfl) (by kernel_rfl)
      case hsteps =>
        refine ⟨?_, ?_, ?_, ?_, ?_, ?_, ?_, ?_, ?_, ?_, ?_, ?_, ?_, ?_, ?_, ?_, ?_, ?_, ?_, ?_, trivial⟩
        all_goals
          intro ev w1 hext hb hd
          have e2 := hb 2 (by decide)
          have e3 := hb 3 (by decide)
          have e4 := hb 4 (by decide)
          have e7 := hb 7 (by decide)
          clear hb
          simp only [Array.getD_eq_getD_getElem?, List.getElem?_toArray, List.getElem?_cons_succ, List.getElem?_cons_zero, Option.getD_some] at e2 e3 e4 e7
          simp only [Bl.DepsE, List.getElem?_cons_succ, List.getElem?_cons_zero, Option.bind_some, List.getD_cons_succ, List.getD_cons_zero, Bl.eqv, and_true] at hd
          have hc := (Bl.bcell hext).1
          have hwx := HE4.out.trans hext
          simp only [Bl.Good, Region.wanted, Bl.yieldE, List.getElem?_cons_succ, List.getElem?_cons_zero, Option.bind_some, hd, beq_self_eq_true, if_true]
          first
          | ((with_reducible refine Bl.goodR_load ?_ (Hlx.out _ hext) ?_); exact e3; exact rfl) | ((with_reducible refine Bl.goodR_load ?_ (Hly.out _ hext) ?_); exact e4; exact rfl)
          | (go_simp; first | exact ⟨Below.refl _ _, rfl⟩ | (go_at_call 16; (with_reducible refine (HSxy.out _ hwx).mono ?_); rintro e w9 ⟨rfl, h9⟩; exact ⟨_, rfl, h9, rfl⟩) | (go_at_call 16; (with_reducible refine (HSxx.out _ hwx).mono ?_); rintro e w9 ⟨rfl, h9⟩; exact ⟨_, rfl, h9, rfl⟩) | (go_at_call 9; (with_reducible refine (HOx.out _ hwx).mono ?_); rintro e w9 ⟨v9, rfl, h8, h9⟩; exact ⟨_, rfl, h9, h8⟩) | (go_at_call 9; (with_reducible refine (HOy.out _ hwx).mono ?_); rintro e w9 ⟨v9, rfl, h8, h9⟩; exact ⟨_, rfl, h9, h8⟩) | (go_at_call 12; (with_reducible refine (HRs.out _ _ _ (by first | exact hd.1 | exact hd.2.1) (by first | exact hd.2 | exact hd.2.1 | exact hd.1)).mono ?_); rintro e w9 ⟨rfl, h9⟩; exact ⟨_, rfl, h9, rfl⟩) | (go_at_call 17; (with_reducible refine (HWd.out _ hwx).mono ?_); rintro e w9 ⟨rfl, h9⟩; subst h9; exact ⟨_, rfl, Below.refl _ _, rfl⟩) | exact ⟨Below.refl _ _, rfl⟩)
      case hmono => exact ⟨Bl.mono_eqv _, Bl.mono_eqv _, Bl.mono_eqv _, Bl.mono_eqv _, (fun _ _ _ h k => Bl.LtV.ext h k), Bl.mono_eqv _, (fun _ _ _ h k => Bl.LtV.ext h k), Bl.mono_eqv _, Bl.mono_eqv _, Bl.mono_eqv _, Bl.mono_eqv _, Bl.mono_eqv _, Bl.mono_eqv _, Bl.mono_eqv _, Bl.mono_eqv _, Bl.mono_eqv _, Bl.mono_eqv _, Bl.mono_eqv _, Bl.mono_eqv _, Bl.mono_eqv _, trivial⟩
      case hend =>
        intro u w1 hext hend
        simp only [Bl.EndE, List.getElem?_cons_succ, List.getElem?_cons_zero, Option.bind_some, List.getD_cons_succ, List.getD_cons_zero, Bl.eqv, true_and] at hend
        simp only [Bl.fillAct, List.setIfInBounds_toArray, List.set_cons_succ, List.set_cons_zero, List.drop_succ_cons, List.drop_zero, hend]
        have HEf := Bl.hid (HE4.out.trans hext)
        clear hext
        go_wp2_with fail
        go_ret
        exact ⟨by simp, HEf.out⟩
    · skip
      apply Bl.wp_region_ev 20 [27, 28, 29, 30, 31, 32, 33, 34, 35, 36, 37, 38, 39, 40, 41, 42, 43, 44, 45, 46] [Bl.eqv _, Bl.eqv _, Bl.eqv _, Bl.eqv _, (fun v w' => Bl.LtV w' v x), Bl.eqv _, (fun v w' => Bl.LtV w' v y), Bl.eqv _, Bl.eqv _, Bl.eqv _, Bl.eqv _, Bl.eqv _, Bl.eqv _, Bl.eqv _, Bl.eqv _, Bl.eqv _, Bl.eqv _, Bl.eqv _, Bl.eqv _, Bl.eqv _] (by kernel_rfl) (by kernel_rfl) (by kernel_rfl) (by kernel_rfl)
      case hsteps =>
        refine ⟨?_, ?_, ?_, ?_, ?_, ?_, ?_, ?_, ?_, ?_, ?_, ?_, ?_, ?_, ?_, ?_, ?_, ?_, ?_, ?_, trivial⟩
        all_goals
          intro ev w1 hext hb hd
          have e2 := hb 2 (by decide)
          have e3 := hb 3 (by decide)
          have e4 := hb 4 (by decide)
          have e7 := hb 7 (by decide)
          clear hb
          simp only [Array.getD_eq_getD_getElem?, List.getElem?_toArray, List.getElem?_cons_succ, List.getElem?_cons_zero, Option.getD_some] at e2 e3 e4 e7
          simp only [Bl.DepsE, List.getElem?_cons_succ, List.getElem?_cons_zero, Option.bind_some, List.getD_cons_succ, List.getD_cons_zero, Bl.eqv, and_true] at hd
          have hc := (Bl.bcell hext).1
          have hwx := HE4.out.trans hext
          simp only [Bl.Good, Region.wanted, Bl.yieldE, List.getElem?_cons_succ, List.getElem?_cons_zero, Option.bind_some, hd, beq_self_eq_true, if_true]
          first
          | ((with_reducible refine Bl.goodR_load ?_ (Hlx.out _ hext) ?_); exact e3; exact rfl) | ((with_reducible refine Bl.goodR_load ?_ (Hly.out _ hext) ?_); exact e4; exact rfl)
          | (go_simp; first | exact ⟨Below.refl _ _, rfl⟩ | (go_at_call 16; (with_reducible refine (HSxy.out _ hwx).mono ?_); rintro e w9 ⟨rfl, h9⟩; exact ⟨_, rfl, h9, rfl⟩) | (go_at_call 16; (with_reducible refine (HSxx.out _ hwx).mono ?_); rintro e w9 ⟨rfl, h9⟩; exact ⟨_, rfl, h9, rfl⟩) | (go_at_call 9; (with_reducible refine (HOx.out _ hwx).mono ?_); rintro e w9 ⟨v9, rfl, h8, h9⟩; exact ⟨_, rfl, h9, h8⟩) | (go_at_call 9; (with_reducible refine (HOy.out _ hwx).mono ?_); rintro e w9 ⟨v9, rfl, h8, h9⟩; exact ⟨_, rfl, h9, h8⟩) | (go_at_call 12; (with_reducible refine (HRs.out _ _ _ (by first | exact hd.1 | exact hd.2.1) (by first | exact hd.2 | exact hd.2.1 | exact hd.1)).mono ?_); rintro e w9 ⟨rfl, h9⟩; exact ⟨_, rfl, h9, rfl⟩) | (go_at_call 17; (with_reducible refine (HWd.out _ hwx).mono ?_); rintro e w9 ⟨rfl, h9⟩; subst h9; exact ⟨_, rfl, Below.refl _ _, rfl⟩) | exact ⟨Below.refl _ _, rfl⟩)
      case hmono => exact ⟨Bl.mono_eqv _, Bl.mono_eqv _, Bl.mono_eqv _, Bl.mono_eqv _, (fun _ _ _ h k => Bl.LtV.ext h k), Bl.mono_eqv _, (fun _ _ _ h k => Bl.LtV.ext h k), Bl.mono_eqv _, Bl.mono_eqv _, Bl.mono_eqv _, Bl.mono_eqv _, Bl.mono_eqv _, Bl.mono_eqv _, Bl.mono_eqv _, Bl.mono_eqv _, Bl.mono_eqv _, Bl.mono_eqv _, Bl.mono_eqv _, Bl.mono_eqv _, Bl.mono_eqv _, trivial⟩
      case hend =>
        intro u w1 hext hend
        simp only [Bl.EndE, List.getElem?_cons_succ, List.getElem?_cons_zero, Option.bind_some, List.getD_cons_succ, List.getD_cons_zero, Bl.eqv, true_and] at hend
        simp only [Bl.fillAct, List.setIfInBounds_toArray, List.set_cons_succ, List.set_cons_zero, List.drop_succ_cons, List.drop_zero, hend]
        have HEf := Bl.hid (HE4.out.trans hext)
        clear hext
        go_wp2_with fail
        go_ret
        exact ⟨by simp, HEf.out⟩
  · have Hk := Bl.hid (HW.out hk)
    have Hs : Hid (∀ w2, Bl.Ext w w2 → Calls Tryd.prog 17 #[.int .i64 k] w2 fun e w' => e = .returned (.string ⟨#[]⟩) ∧ w2 = w') := Bl.hid fun w2 h => by have h3 := HWd.out w2 h; rw [Hk.out] at h3; exact h3
    clear HWd
    have HWd := Hs
    by_cases hk1 : 1 ≤ k
    · have hk2 : ¬ k ≤ 7 := fun h => hk ⟨hk1, h⟩
      clear hk
      have Hlx := Bl.hid (fun w2 (h : Bl.Ext w3 w2) => (HBa3.out.ext h).load (P := Tryd.prog) Tryd.underlying26 rfl (by kernel_rfl))
      have Hly := Bl.hid (fun w2 (h : Bl.Ext w3 w2) => (HBb3.out.ext h).load (P := Tryd.prog) Tryd.underlying26 rfl (by kernel_rfl))
      cases Q
      · go_wp2_with fail
        apply Bl.wp_region_ev 20 [27, 28, 29, 30, 31, 32, 33, 34, 35, 36, 37, 38, 39, 40, 41, 42, 43, 44, 45, 46] [Bl.eqv _, Bl.eqv _, Bl.eqv _, Bl.eqv _, (fun v w' => Bl.LtV w' v x), Bl.eqv _, (fun v w' => Bl.LtV w' v y), Bl.eqv _, Bl.eqv _, Bl.eqv _, Bl.eqv _, Bl.eqv _, Bl.eqv _, Bl.eqv _, Bl.eqv _, Bl.eqv _, Bl.eqv _, Bl.eqv _, Bl.eqv _, Bl.eqv _] (by kernel_rfl) (by kernel_rfl) (by kernel_rfl) (by kernel_rfl)
        case hsteps =>
          refine ⟨?_, ?_, ?_, ?_, ?_, ?_, ?_, ?_, ?_, ?_, ?_, ?_, ?_, ?_, ?_, ?_, ?_, ?_, ?_, ?_, trivial⟩
          all_goals
            intro ev w1 hext hb hd
            have e2 := hb 2 (by decide)
            have e3 := hb 3 (by decide)
            have e4 := hb 4 (by decide)
            have e7 := hb 7 (by decide)
            clear hb
            simp only [Array.getD_eq_getD_getElem?, List.getElem?_toArray, List.getElem?_cons_succ, List.getElem?_cons_zero, Option.getD_some] at e2 e3 e4 e7
            simp only [Bl.DepsE, List.getElem?_cons_succ, List.getElem?_cons_zero, Option.bind_some, List.getD_cons_succ, List.getD_cons_zero, Bl.eqv, and_true] at hd
            have hc := (Bl.bcell hext).1
            have hwx := HE3.out.trans hext
            simp only [Bl.Good, Region.wanted, Bl.yieldE, List.getElem?_cons_succ, List.getElem?_cons_zero, Option.bind_some, hd, beq_self_eq_true, if_true]
            first
            | ((with_reducible refine Bl.goodR_load ?_ (Hlx.out _ hext) ?_); exact e3; exact rfl) | ((with_reducible refine Bl.goodR_load ?_ (Hly.out _ hext) ?_); exact e4; exact rfl)
            | (go_simp; first | exact ⟨Below.refl _ _, rfl⟩ | (go_at_call 16; (with_reducible refine (HSxy.out _ hwx).mono ?_); rintro e w9 ⟨rfl, h9⟩; exact ⟨_, rfl, h9, rfl⟩) | (go_at_call 16; (with_reducible refine (HSxx.out _ hwx).mono ?_); rintro e w9 ⟨rfl, h9⟩; exact ⟨_, rfl, h9, rfl⟩) | (go_at_call 9; (with_reducible refine (HOx.out _ hwx).mono ?_); rintro e w9 ⟨v9, rfl, h8, h9⟩; exact ⟨_, rfl, h9, h8⟩) | (go_at_call 9; (with_reducible refine (HOy.out _ hwx).mono ?_); rintro e w9 ⟨v9, rfl, h8, h9⟩; exact ⟨_, rfl, h9, h8⟩) | (go_at_call 12; (with_reducible refine (HRs.out _ _ _ (by first | exact hd.1 | exact hd.2.1) (by first | exact hd.2 | exact hd.2.1 | exact hd.1)).mono ?_); rintro e w9 ⟨rfl, h9⟩; exact ⟨_, rfl, h9, rfl⟩) | (go_at_call 17; (with_reducible refine (HWd.out _ hwx).mono ?_); rintro e w9 ⟨rfl, h9⟩; subst h9; exact ⟨_, rfl, Below.refl _ _, rfl⟩) | exact ⟨Below.refl _ _, rfl⟩)
        case hmono => exact ⟨Bl.mono_eqv _, Bl.mono_eqv _, Bl.mono_eqv _, Bl.mono_eqv _, (fun _ _ _ h k => Bl.LtV.ext h k), Bl.mono_eqv _, (fun _ _ _ h k => Bl.LtV.ext h k), Bl.mono_eqv _, Bl.mono_eqv _, Bl.mono_eqv _, Bl.mono_eqv _, Bl.mono_eqv _, Bl.mono_eqv _, Bl.mono_eqv _, Bl.mono_eqv _, Bl.mono_eqv _, Bl.mono_eqv _, Bl.mono_eqv _, Bl.mono_eqv _, Bl.mono_eqv _, trivial⟩
        case hend =>
          intro u w1 hext hend
          simp only [Bl.EndE, List.getElem?_cons_succ, List.getElem?_cons_zero, Option.bind_some, List.getD_cons_succ, List.getD_cons_zero, Bl.eqv, true_and] at hend
          simp only [Bl.fillAct, List.setIfInBounds_toArray, List.set_cons_succ, List.set_cons_zero, List.drop_succ_cons, List.drop_zero, hend]
          have HEf := Bl.hid (HE3.out.trans hext)
          clear hext
          go_wp2_with fail
          go_ret
          exact ⟨by simp, HEf.out⟩
      · go_wp2_with fail
        apply Bl.wp_region_ev 20 [27, 28, 29, 30, 31, 32, 33, 34, 35, 36, 37, 38, 39, 40, 41, 42, 43, 44, 45, 46] [Bl.eqv _, Bl.eqv _, Bl.eqv _, Bl.eqv _, (fun v w' => Bl.LtV w' v x), Bl.eqv _, (fun v w' => Bl.LtV w' v y), Bl.eqv _, Bl.eqv _, Bl.eqv _, Bl.eqv _, Bl.eqv _, Bl.eqv _, Bl.eqv _, Bl.eqv _, Bl.eqv _, Bl.eqv _, Bl.eqv _, Bl.eqv _, Bl.eqv _] (by kernel_rfl) (by kernel_rfl) (by kernel_rfl) (by kernel_rfl)
        case hsteps =>
          refine ⟨?_, ?_, ?_, ?_, ?_, ?_, ?_, ?_, ?_, ?_, ?_, ?_, ?_, ?_, ?_, ?_, ?_, ?_, ?_, ?_, trivial⟩
          all_goals
            intro ev w1 hext hb hd
            have e2 := hb 2 (by decide)
            have e3 := hb 3 (by decide)
            have e4 := hb 4 (by decide)
            have e7 := hb 7 (by decide)
            clear hb
            simp only [Array.getD_eq_getD_getElem?, List.getElem?_toArray, List.getElem?_cons_succ, List.getElem?_cons_zero, Option.getD_some] at e2 e3 e4 e7
            simp only [Bl.DepsE, List.getElem?_cons_succ, List.getElem?_cons_zero, Option.bind_some, List.getD_cons_succ, List.getD_cons_zero, Bl.eqv, and_true] at hd
            have hc := (Bl.bcell hext).1
            have hwx := HE3.out.trans hext
            simp only [Bl.Good, Region.wanted, Bl.yieldE, List.getElem?_cons_succ, List.getElem?_cons_zero, Option.bind_some, hd, beq_self_eq_true, if_true]
            first
            | ((with_reducible refine Bl.goodR_load ?_ (Hlx.out _ hext) ?_); exact e3; exact rfl) | ((with_reducible refine Bl.goodR_load ?_ (Hly.out _ hext) ?_); exact e4; exact rfl)
            | (go_simp; first | exact ⟨Below.refl _ _, rfl⟩ | (go_at_call 16; (with_reducible refine (HSxy.out _ hwx).mono ?_); rintro e w9 ⟨rfl, h9⟩; exact ⟨_, rfl, h9, rfl⟩) | (go_at_call 16; (with_reducible refine (HSxx.out _ hwx).mono ?_); rintro e w9 ⟨rfl, h9⟩; exact ⟨_, rfl, h9, rfl⟩) | (go_at_call 9; (with_reducible refine (HOx.out _ hwx).mono ?_); rintro e w9 ⟨v9, rfl, h8, h9⟩; exact ⟨_, rfl, h9, h8⟩) | (go_at_call 9; (with_reducible refine (HOy.out _ hwx).mono ?_); rintro e w9 ⟨v9, rfl, h8, h9⟩; exact ⟨_, rfl, h9, h8⟩) | (go_at_call 12; (with_reducible refine (HRs.out _ _ _ (by first | exact hd.1 | exact hd.2.1) (by first | exact hd.2 | exact hd.2.1 | exact hd.1)).mono ?_); rintro e w9 ⟨rfl, h9⟩; exact ⟨_, rfl, h9, rfl⟩) | (go_at_call 17; (with_reducible refine (HWd.out _ hwx).mono ?_); rintro e w9 ⟨rfl, h9⟩; subst h9; exact ⟨_, rfl, Below.refl _ _, rfl⟩) | exact ⟨Below.refl _ _, rfl⟩)
        case hmono => exact ⟨Bl.mono_eqv _, Bl.mono_eqv _, Bl.mono_eqv _, Bl.mono_eqv _, (fun _ _ _ h k => Bl.LtV.ext h k), Bl.mono_eqv _, (fun _ _ _ h k => Bl.LtV.ext h k), Bl.mono_eqv _, Bl.mono_eqv _, Bl.mono_eqv _, Bl.mono_eqv _, Bl.mono_eqv _, Bl.mono_eqv _, Bl.mono_eqv _, Bl.mono_eqv _, Bl.mono_eqv _, Bl.mono_eqv _, Bl.mono_eqv _, Bl.mono_eqv _, Bl.mono_eqv _, trivial⟩
        case hend =>
          intro u w1 hext hend
          simp only [Bl.EndE, List.getElem?_cons_succ, List.getElem?_cons_zero, Option.bind_some, List.getD_cons_succ, List.getD_cons_zero, Bl.eqv, true_and] at hend
          simp only [Bl.fillAct, List.setIfInBounds_toArray, List.set_cons_succ, List.set_cons_zero, List.drop_succ_cons, List.drop_zero, hend]
          have HEf := Bl.hid (HE3.out.trans hext)
          clear hext
          go_wp2_with fail
          go_ret
          exact ⟨by simp, HEf.out⟩
    · clear hk
      have Hlx := Bl.hid (fun w2 (h : Bl.Ext w3 w2) => (HBa3.out.ext h).load (P := Tryd.prog) Tryd.underlying26 rfl (by kernel_rfl))
      have Hly := Bl.hid (fun w2 (h : Bl.Ext w3 w2) => (HBb3.out.ext h).load (P := Tryd.prog) Tryd.underlying26 rfl (by kernel_rfl))
      cases Q
      · go_wp2_with fail
        apply Bl.wp_region_ev 20 [27, 28, 29, 30, 31, 32, 33, 34, 35, 36, 37, 38, 39, 40, 41, 42, 43, 44, 45, 46] [Bl.eqv _, Bl.eqv _, Bl.eqv _, Bl.eqv _, (fun v w' => Bl.LtV w' v x), Bl.eqv _, (fun v w' => Bl.LtV w' v y), Bl.eqv _, Bl.eqv _, Bl.eqv _, Bl.eqv _, Bl.eqv _, Bl.eqv _, Bl.eqv _, Bl.eqv _, Bl.eqv _, Bl.eqv _, Bl.eqv _, Bl.eqv _, Bl.eqv _] (by kernel_rfl) (by kernel_rfl) (by kernel_rfl) (by kernel_rfl)
        case hsteps =>
          refine ⟨?_, ?_, ?_, ?_, ?_, ?_, ?_, ?_, ?_, ?_, ?_, ?_, ?_, ?_, ?_, ?_, ?_, ?_, ?_, ?_, trivial⟩
          all_goals
            intro ev w1 hext hb hd
            have e2 := hb 2 (by decide)
            have e3 := hb 3 (by decide)
            have e4 := hb 4 (by decide)
            have e7 := hb 7 (by decide)
            clear hb
            simp only [Array.getD_eq_getD_getElem?, List.getElem?_toArray, List.getElem?_cons_succ, List.getElem?_cons_zero, Option.getD_some] at e2 e3 e4 e7
            simp only [Bl.DepsE, List.getElem?_cons_succ, List.getElem?_cons_zero, Option.bind_some, List.getD_cons_succ, List.getD_cons_zero, Bl.eqv, and_true] at hd
            have hc := (Bl.bcell hext).1
            have hwx := HE3.out.trans hext
            simp only [Bl.Good, Region.wanted, Bl.yieldE, List.getElem?_cons_succ, List.getElem?_cons_zero, Option.bind_some, hd, beq_self_eq_true, if_true]
            first
            | ((with_reducible refine Bl.goodR_load ?_ (Hlx.out _ hext) ?_); exact e3; exact rfl) | ((with_reducible refine Bl.goodR_load ?_ (Hly.out _ hext) ?_); exact e4; exact rfl)
            | (go_simp; first | exact ⟨Below.refl _ _, rfl⟩ | (go_at_call 16; (with_reducible refine (HSxy.out _ hwx).mono ?_); rintro e w9 ⟨rfl, h9⟩; exact ⟨_, rfl, h9, rfl⟩) | (go_at_call 16; (with_reducible refine (HSxx.out _ hwx).mono ?_); rintro e w9 ⟨rfl, h9⟩; exact ⟨_, rfl, h9, rfl⟩) | (go_at_call 9; (with_reducible refine (HOx.out _ hwx).mono ?_); rintro e w9 ⟨v9, rfl, h8, h9⟩; exact ⟨_, rfl, h9, h8⟩) | (go_at_call 9; (with_reducible refine (HOy.out _ hwx).mono ?_); rintro e w9 ⟨v9, rfl, h8, h9⟩; exact ⟨_, rfl, h9, h8⟩) | (go_at_call 12; (with_reducible refine (HRs.out _ _ _ (by first | exact hd.1 | exact hd.2.1) (by first | exact hd.2 | exact hd.2.1 | exact hd.1)).mono ?_); rintro e w9 ⟨rfl, h9⟩; exact ⟨_, rfl, h9, rfl⟩) | (go_at_call 17; (with_reducible refine (HWd.out _ hwx).mono ?_); rintro e w9 ⟨rfl, h9⟩; subst h9; exact ⟨_, rfl, Below.refl _ _, rfl⟩) | exact ⟨Below.refl _ _, rfl⟩)
        case hmono => exact ⟨Bl.mono_eqv _, Bl.mono_eqv _, Bl.mono_eqv _, Bl.mono_eqv _, (fun _ _ _ h k => Bl.LtV.ext h k), Bl.mono_eqv _, (fun _ _ _ h k => Bl.LtV.ext h k), Bl.mono_eqv _, Bl.mono_eqv _, Bl.mono_eqv _, Bl.mono_eqv _, Bl.mono_eqv _, Bl.mono_eqv _, Bl.mono_eqv _, Bl.mono_eqv _, Bl.mono_eqv _, Bl.mono_eqv _, Bl.mono_eqv _, Bl.mono_eqv _, Bl.mono_eqv _, trivial⟩
        case hend =>
          intro u w1 hext hend
          simp only [Bl.EndE, List.getElem?_cons_succ, List.getElem?_cons_zero, Option.bind_some, List.getD_cons_succ, List.getD_cons_zero, Bl.eqv, true_and] at hend
          simp only [Bl.fillAct, List.setIfInBounds_toArray, List.set_cons_succ, List.set_cons_zero, List.drop_succ_cons, List.drop_zero, hend]
          have HEf := Bl.hid (HE3.out.trans hext)
          clear hext
          go_wp2_with fail
          go_ret
          exact ⟨by simp, HEf.out⟩
      · go_wp2_with fail
        apply Bl.wp_region_ev 20 [27, 28, 29, 30, 31, 32, 33, 34, 35, 36, 37, 38, 39, 40, 41, 42, 43, 44, 45, 46] [Bl.eqv _, Bl.eqv _, Bl.eqv _, Bl.eqv _, (fun v w' => Bl.LtV w' v x), Bl.eqv _, (fun v w' => Bl.LtV w' v y), Bl.eqv _, Bl.eqv _, Bl.eqv _, Bl.eqv _, Bl.eqv _, Bl.eqv _, Bl.eqv _, Bl.eqv _, Bl.eqv _, Bl.eqv _, Bl.eqv _, Bl.eqv _, Bl.eqv _] (by kernel_rfl) (by kernel_rfl) (by kernel_rfl) (by kernel_rfl)
        case hsteps =>
          refine ⟨?_, ?_, ?_, ?_, ?_, ?_, ?_, ?_, ?_, ?_, ?_, ?_, ?_, ?_, ?_, ?_, ?_, ?_, ?_, ?_, trivial⟩
          all_goals
            intro ev w1 hext hb hd
            have e2 := hb 2 (by decide)
            have e3 := hb 3 (by decide)
            have e4 := hb 4 (by decide)
            have e7 := hb 7 (by decide)
            clear hb
            simp only [Array.getD_eq_getD_getElem?, List.getElem?_toArray, List.getElem?_cons_succ, List.getElem?_cons_zero, Option.getD_some] at e2 e3 e4 e7
            simp only [Bl.DepsE, List.getElem?_cons_succ, List.getElem?_cons_zero, Option.bind_some, List.getD_cons_succ, List.getD_cons_zero, Bl.eqv, and_true] at hd
            have hc := (Bl.bcell hext).1
            have hwx := HE3.out.trans hext
            simp only [Bl.Good, Region.wanted, Bl.yieldE, List.getElem?_cons_succ, List.getElem?_cons_zero, Option.bind_some, hd, beq_self_eq_true, if_true]
            first
            | ((with_reducible refine Bl.goodR_load ?_ (Hlx.out _ hext) ?_); exact e3; exact rfl) | ((with_reducible refine Bl.goodR_load ?_ (Hly.out _ hext) ?_); exact e4; exact rfl)
            | (go_simp; first | exact ⟨Below.refl _ _, rfl⟩ | (go_at_call 16; (with_reducible refine (HSxy.out _ hwx).mono ?_); rintro e w9 ⟨rfl, h9⟩; exact ⟨_, rfl, h9, rfl⟩) | (go_at_call 16; (with_reducible refine (HSxx.out _ hwx).mono ?_); rintro e w9 ⟨rfl, h9⟩; exact ⟨_, rfl, h9, rfl⟩) | (go_at_call 9; (with_reducible refine (HOx.out _ hwx).mono ?_); rintro e w9 ⟨v9, rfl, h8, h9⟩; exact ⟨_, rfl, h9, h8⟩) | (go_at_call 9; (with_reducible refine (HOy.out _ hwx).mono ?_); rintro e w9 ⟨v9, rfl, h8, h9⟩; exact ⟨_, rfl, h9, h8⟩) | (go_at_call 12; (with_reducible refine (HRs.out _ _ _ (by first | exact hd.1 | exact hd.2.1) (by first | exact hd.2 | exact hd.2.1 | exact hd.1)).mono ?_); rintro e w9 ⟨rfl, h9⟩; exact ⟨_, rfl, h9, rfl⟩) | (go_at_call 17; (with_reducible refine (HWd.out _ hwx).mono ?_); rintro e w9 ⟨rfl, h9⟩; subst h9; exact ⟨_, rfl, Below.refl _ _, rfl⟩) | exact ⟨Below.refl _ _, rfl⟩)
        case hmono => exact ⟨Bl.mono_eqv _, Bl.mono_eqv _, Bl.mono_eqv _, Bl.mono_eqv _, (fun _ _ _ h k => Bl.LtV.ext h k), Bl.mono_eqv _, (fun _ _ _ h k => Bl.LtV.ext h k), Bl.mono_eqv _, Bl.mono_eqv _, Bl.mono_eqv _, Bl.mono_eqv _, Bl.mono_eqv _, Bl.mono_eqv _, Bl.mono_eqv _, Bl.mono_eqv _, Bl.mono_eqv _, Bl.mono_eqv _, Bl.mono_eqv _, Bl.mono_eqv _, Bl.mono_eqv _, trivial⟩
        case hend =>
          intro u w1 hext hend
          simp only [Bl.EndE, List.getElem?_cons_succ, List.getElem?_cons_zero, Option.bind_some, List.getD_cons_succ, List.getD_cons_zero, Bl.eqv, true_and] at hend
          simp only [Bl.fillAct, List.setIfInBounds_toArray, List.set_cons_succ, List.set_cons_zero, List.drop_succ_cons, List.drop_zero, hend]
          have HEf := Bl.hid (HE3.out.trans hext)
          clear hext
          go_wp2_with fail
          go_ret
          exact ⟨by simp, HEf.out⟩
end Go.Proofs.YtmmolapkddbibaaDoor

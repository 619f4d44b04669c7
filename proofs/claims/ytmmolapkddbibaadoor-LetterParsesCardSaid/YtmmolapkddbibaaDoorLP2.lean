/- Walks of the closures of reader.rest that append what is read, and of reader.each for each closure. -/
import Derived.Test.YtmmolapkddbibaaDoorLpa
import Derived.Test.YtmmolapkddbibaaDoorLtp
import Derived.Test.YtmmolapkddbibaaDoorLet2b
namespace Go.Proofs.YtmmolapkddbibaaDoor
open Go Go.RowKit Go.Proofs
theorem tBB : Bl.SlT Tryd.prog 24 46 (.slice none 0 0) 1 24 := ⟨Tryd.underlying24, by kernel_rfl, rfl, by decide⟩
theorem tII : Bl.SlT Tryd.prog 22 3 (.int .i64 0) 1 8 := ⟨Tryd.underlying22, by kernel_rfl, rfl, by decide⟩

set_option maxRecDepth 100000 in
set_option maxHeartbeats 2000000 in
theorem rest1_any (X Y q0 q1 B : Nat) (sa : Bl.Rst) (cs : List Value) (vr : Value) (M : List Bl.Bv) (w : World) (hC : Bl.C0 Bl.cB 1 Bl.OkB B X Y 7 cs vr M sa w) (h0 : w.cell? ⟨q0, 0, none⟩ = some (.pointer (some ⟨Y, 0, none⟩))) (h1 : w.cell? ⟨q1, 0, none⟩ = some (.pointer (some ⟨X, 0, none⟩))) (hXY : X < Y) (hY : Y < B) (n0 : q0 < B ∧ q0 ≠ X) (n1 : q1 < B ∧ q1 ≠ X) (hM : M.length ≤ 100000) :
    Calls Tryd.prog 79 #[.pointer (some ⟨q0, 0, none⟩), .pointer (some ⟨q1, 0, none⟩)] w fun e w' => e = .returned (.tuple #[]) ∧ ∃ v' y, y.2 = (Bl.tkT 16 sa).1 ∧ Bl.GP Bl.cB 1 Bl.OkB B w' Y 7 (cs.set 7 v') v' (M ++ [y]) ∧ Bl.Rdr w' X (Bl.tkT 16 sa).2 ∧ Bl.Kq (fun k => k = X ∨ k = Y ∨ B ≤ k) w w' := by
  obtain ⟨Pr, hPr⟩ : ∃ Pr : Bl.Bv → Prop, Pr = fun y => y.2 = (Bl.tkT 16 sa).1 := ⟨_, rfl⟩
  have HPr := Bl.hid hPr
  have hB : B ≤ w.heap.size := hC.2.2
  have Hn : Hid (X < B ∧ ¬ (X = Y) ∧ ¬ (B ≤ Y) ∧ ¬ (Y = X)) := Bl.hid (by omega)
  have HCall : Hid (∀ w2, Bl.C0 Bl.cB 1 Bl.OkB B X Y 7 cs vr M sa w2 → Calls Tryd.prog 77 #[.pointer (some ⟨X, 0, none⟩), .int .i64 16] w2 fun e w' => ∃ v', e = .returned v' ∧ Bl.C1 Bl.cB 1 Bl.OkB B X Y 7 cs vr M Pr (Bl.tkT 16 sa).2 v' w' ∧ Bl.Kq (fun k => k = X ∨ B ≤ k) w2 w') := Bl.hid fun w2 hc => by
    refine (rdtake_any X 16 sa w2 hc.1 (by decide) (by decide)).mono ?_
    rintro e w' ⟨v', rfl, g1, g2, g3, g4⟩
    refine ⟨v', rfl, hc.c1 Bl.stab_okB (y := (v', (Bl.tkT 16 sa).1)) g4 Hn.out.2.2.2 (fun b hb q => by have := Hn.out.1; omega) g3 (by rw [HPr.out]) (Bl.cB_cells g1) rfl (Bl.cB_one g1) ⟨?_, (Bl.tkT_byt hc.1.by').1⟩, g4.mono fun k _ hk => .inl hk⟩
    obtain ⟨p, c, hf, hr⟩ := g1
    exact Bl.RdsF.of_rds hr fun b hb _ => g2 b hb
  have HC := Bl.hid hC
  have hY7 := hC.2.1.cell
  obtain ⟨m, hm⟩ : ∃ m, m = M.length := ⟨_, rfl⟩
  have Hm : Hid (M.length + 1 ≤ maxLen ∧ (M.length + 1) * 24 ≤ 140737488355328) := Bl.hid (by unfold maxLen; omega)
  have Hq : Hid ((∀ w2, Bl.Kq (fun k => k = X ∨ B ≤ k) w w2 → w2.cell? ⟨q0, 0, none⟩ = some (.pointer (some ⟨Y, 0, none⟩)) ∧ w2.cell? ⟨q1, 0, none⟩ = some (.pointer (some ⟨X, 0, none⟩)) ∧ w2.cell? ⟨Y, 7, none⟩ = some vr)) := Bl.hid fun w2 h => ⟨h.cell (by omega) h0, h.cell (by omega) h1, h.cell (by omega) hY7⟩
  clear hPr hC hY7 hm hM n0 n1 hB
  go_enter Tryd.func79, Tryd.ntmps79
  apply Bl.wp_region_evK (Bl.Kq (fun k => k = X ∨ B ≤ k)) (Bl.Chn 6 7 8 8 9 10 (Bl.C0 Bl.cB 1 Bl.OkB B X Y 7 cs vr M sa) (Bl.C1 Bl.cB 1 Bl.OkB B X Y 7 cs vr M Pr (Bl.tkT 16 sa).2) (Bl.C2 Bl.cB 1 Bl.OkB B X Y 7 cs vr M Pr (Bl.tkT 16 sa).2) (Bl.C3 Bl.cB 1 Bl.OkB B X Y 7 cs vr M Pr (Bl.tkT 16 sa).2)) 11 [2, 3, 4, 5, 6, 7, 8, 9, 10, 11, 12] [Bl.eqv _, Bl.eqv _, Bl.eqv _, Bl.eqv _, Bl.eqv _, Bl.eqv _, Bl.anyv, Bl.anyv, Bl.anyv, Bl.eqv _, Bl.eqv _] (fun w => Bl.Kq.refl w) (fun a b c h k => Bl.Kq.trans h k) (by kernel_rfl) (by kernel_rfl) (by kernel_rfl) (by kernel_rfl)
  case hsteps =>
    refine ⟨?_, ?_, ?_, ?_, ?_, ?_, ?_, ?_, ?_, ?_, ?_, trivial⟩
    all_goals
      intro d ev w1 hext HJd Hanc Hdes hni hb hd
      replace Hanc := Bl.hid Hanc
      replace HJd := Bl.hid HJd
      replace Hdes := Bl.hid Hdes
      replace hni := Bl.hid hni
      have e0 := hb 0 (by decide)
      have e1 := hb 1 (by decide)
      clear hb
      simp only [Array.getD_eq_getD_getElem?, List.getElem?_toArray, List.getElem?_cons_succ, List.getElem?_cons_zero, Option.getD_some] at e0 e1
      simp only [Bl.DepsE2, List.getElem?_cons_succ, List.getElem?_cons_zero, Option.bind_some, List.getD_cons_succ, List.getD_cons_zero, Bl.eqv, and_true] at hd
      have q3 := Hq.out _ hext
      have c0 := q3.1
      have c1 := q3.2.1
      have c7 := q3.2.2
      clear q3
      rw [if_pos (rfl : Region.wanted _ _ = true)]
      first
      | ((with_reducible refine Bl.goodX_buildV (v := ev 8) tBB (by decide) ?_ (HJd.out.b (Hanc.out 6 (by kernel_rfl)) hni.out).size ?_); rfl; exact ⟨Bl.Kq.of_ext (Bl.ext_alloc _ _), trivial, Bl.Chn.bld (by decide) (Hanc.out 6 (by kernel_rfl)) (Hdes.out 8 (by kernel_rfl)) ((HJd.out.b (Hanc.out 6 (by kernel_rfl)) hni.out).c2 Bl.stab_okB _)⟩) | ((with_reducible refine Bl.goodX_c3 tBB Bl.stab_okB Hn.out.1 hXY (HJd.out.c (Hanc.out 7 (by kernel_rfl)) hni.out) ?_ ?_ Hm.out.1 Hm.out.2 ?_); rfl; exact (by first | exact hd | exact hd.2 | exact hd.1.2 | exact hd.1.1.2 | exact hd.1.1.1.2 | exact hd.1.1.1.1.2 | exact hd.1.1.1.1.1.2 | exact hd.1.1.1.1.1.1.2 | exact hd.1.1.1.1.1.1.1.2 | exact hd.1.1.1.1.1.1.1.1.2 | exact hd.1.1.1.1.1.1.1.1.1.2 | exact hd.1.1.1.1.1.1.1.1.1.1.2 | exact hd.1.1.1.1.1.1.1.1.1.1.1.2 | exact hd.1.1.1.1.1.1.1.1.1.1.1.1.2 | exact hd.1.1.1.1.1.1.1.1.1.1.1.1.1.2 | exact hd.1 | exact hd.1.1 | exact hd.1.1.1 | exact hd.1.1.1.1 | exact hd.1.1.1.1.1 | exact hd.1.1.1.1.1.1 | exact hd.1.1.1.1.1.1.1 | exact hd.1.1.1.1.1.1.1.1 | exact hd.1.1.1.1.1.1.1.1.1 | exact hd.1.1.1.1.1.1.1.1.1.1 | exact hd.1.1.1.1.1.1.1.1.1.1.1 | exact hd.1.1.1.1.1.1.1.1.1.1.1.1 | exact hd.1.1.1.1.1.1.1.1.1.1.1.1.1 | exact hd.2.1 | exact hd.2.2.1 | exact hd.2.2.2.1 | exact hd.2.2.2.2.1 | exact hd.2.2.2.2.2.1 | exact hd.2.2.2.2.2.2.1 | exact hd.2.2.2.2.2.2.2.1 | exact hd.2.2.2.2.2.2.2.2.1 | exact hd.2.2.2.2.2.2.2.2.2.1 | exact hd.2.2.2.2.2.2.2.2.2.2.1 | exact hd.2.2.2.2.2.2.2.2.2.2.2.1 | exact hd.2.2.2.2.2.2.2.2.2.2.2.2.1 | exact hd.2.2.2.2.2.2.2.2.2.2.2.2.2.1); exact fun v' w' k1 k2 => ⟨k1, trivial, Bl.Chn.app (by decide) (Hanc.out 6 (by kernel_rfl)) (Hanc.out 7 (by kernel_rfl)) k2⟩)
      | (go_simp; first | exact ⟨Bl.Kq.refl _, rfl, HJd.out.same (by decide)⟩ | (go_at_call 77; (with_reducible refine (HCall.out w1 (HJd.out.a hni.out)).mono ?_); rintro e w2 ⟨v9, rfl, k1, k2⟩; exact ⟨_, rfl, k2, trivial, Bl.Chn.call (by decide) (Hdes.out 7 (by kernel_rfl)) (Hdes.out 8 (by kernel_rfl)) k1⟩) | exact ⟨Below.refl _ _, rfl, Bl.HJ.same (by decide) HJd.out⟩)
  case hmono => exact ⟨Bl.monoR_eqv _, Bl.monoR_eqv _, Bl.monoR_eqv _, Bl.monoR_eqv _, Bl.monoR_eqv _, Bl.monoR_eqv _, Bl.monoR_anyv, Bl.monoR_anyv, Bl.monoR_anyv, Bl.monoR_eqv _, Bl.monoR_eqv _, trivial⟩
  case hR0 => exact Bl.Kq.drew _
  case hend =>
    intro u w1 hext hJ hend
    simp only [Bl.EndE, List.getElem?_cons_succ, List.getElem?_cons_zero, Option.bind_some, List.getD_cons_succ, List.getD_cons_zero, Bl.eqv, true_and] at hend
    simp only [Bl.fillAct, List.setIfInBounds_toArray, List.set_cons_succ, List.set_cons_zero, List.drop_succ_cons, List.drop_zero, hend]
    obtain ⟨y, p, c, hu, hp, hcell, hfz, hG, hR⟩ := hJ.d rfl
    have HG := Bl.hid hG
    have HR := Bl.hid hR
    have HK := Bl.hid hext
    have Hp := Bl.hid hp
    rw [hu] at HG HR
    simp only [hu]
    clear hG hR hext hend hJ hu hp
    go_wp2_with fail
    go_end0
    rw [HPr.out] at Hp
    exact ⟨rfl, _, y, Hp.out, HG.out, HR.out, (HK.out.mono fun k _ hk => hk.imp id .inr).setCell ⟨Y, 7, none⟩ (.inr (.inl rfl)) _⟩
  case hJ0 => exact Bl.Chn.start (by have h := HC.out; exact ⟨h.1.kept (Q := fun _ => False) (Bl.Kq.drew _) (fun _ _ q => q), h.2.1.kept (Q := fun _ => False) Bl.stab_okB (Bl.Kq.drew _) (fun q => q) (fun _ _ q => q), h.2.2⟩)

set_option maxRecDepth 100000 in
set_option maxHeartbeats 2000000 in
theorem rest2_any (X Y q0 q1 B : Nat) (sa : Bl.Rst) (cs : List Value) (vr : Value) (M : List Int) (w : World) (hC : Bl.C0 Bl.cI 1 Bl.OkT B X Y 3 cs vr M sa w) (h0 : w.cell? ⟨q0, 0, none⟩ = some (.pointer (some ⟨Y, 0, none⟩))) (h1 : w.cell? ⟨q1, 0, none⟩ = some (.pointer (some ⟨X, 0, none⟩))) (hXY : X < Y) (hY : Y < B) (n0 : q0 < B ∧ q0 ≠ X) (n1 : q1 < B ∧ q1 ≠ X) (hM : M.length ≤ 100000) :
    Calls Tryd.prog 80 #[.pointer (some ⟨q0, 0, none⟩), .pointer (some ⟨q1, 0, none⟩)] w fun e w' => e = .returned (.tuple #[]) ∧ ∃ v' y, y = (Bl.nuT 2 sa).1 ∧ Bl.GP Bl.cI 1 Bl.OkT B w' Y 3 (cs.set 3 v') v' (M ++ [y]) ∧ Bl.Rdr w' X (Bl.nuT 2 sa).2 ∧ Bl.Kq (fun k => k = X ∨ k = Y ∨ B ≤ k) w w' := by
  obtain ⟨Pr, hPr⟩ : ∃ Pr : Int → Prop, Pr = fun y => y = (Bl.nuT 2 sa).1 := ⟨_, rfl⟩
  have HPr := Bl.hid hPr
  have hB : B ≤ w.heap.size := hC.2.2
  have Hn : Hid (X < B ∧ ¬ (X = Y) ∧ ¬ (B ≤ Y) ∧ ¬ (Y = X)) := Bl.hid (by omega)
  have HCall : Hid (∀ w2, Bl.C0 Bl.cI 1 Bl.OkT B X Y 3 cs vr M sa w2 → Calls Tryd.prog 49 #[.pointer (some ⟨X, 0, none⟩), .int .i64 2] w2 fun e w' => ∃ v', e = .returned v' ∧ Bl.C1 Bl.cI 1 Bl.OkT B X Y 3 cs vr M Pr (Bl.nuT 2 sa).2 v' w' ∧ Bl.Kq (fun k => k = X ∨ B ≤ k) w2 w') := Bl.hid fun w2 hc => by
    refine (rdnum_any X 2 sa w2 hc.1 (by decide) (by decide)).mono ?_
    rintro e w' ⟨rfl, g3, g4⟩
    exact ⟨_, rfl, hc.c1 Bl.stab_okT (y := (Bl.nuT 2 sa).1) g4 Hn.out.2.2.2 (fun b hb q => by have := Hn.out.1; omega) g3 (by rw [HPr.out]) rfl rfl (Bl.cI_one _) trivial, g4.mono fun k _ hk => .inl hk⟩
  have HC := Bl.hid hC
  have hY7 := hC.2.1.cell
  obtain ⟨m, hm⟩ : ∃ m, m = M.length := ⟨_, rfl⟩
  have Hm : Hid (M.length + 1 ≤ maxLen ∧ (M.length + 1) * 8 ≤ 140737488355328) := Bl.hid (by unfold maxLen; omega)
  have Hq : Hid ((∀ w2, Bl.Kq (fun k => k = X ∨ B ≤ k) w w2 → w2.cell? ⟨q0, 0, none⟩ = some (.pointer (some ⟨Y, 0, none⟩)) ∧ w2.cell? ⟨q1, 0, none⟩ = some (.pointer (some ⟨X, 0, none⟩)) ∧ w2.cell? ⟨Y, 3, none⟩ = some vr)) := Bl.hid fun w2 h => ⟨h.cell (by omega) h0, h.cell (by omega) h1, h.cell (by omega) hY7⟩
  clear hPr hC hY7 hm hM n0 n1 hB
  go_enter Tryd.func80, Tryd.ntmps80
  apply Bl.wp_region_evK (Bl.Kq (fun k => k = X ∨ B ≤ k)) (Bl.Chn 6 7 8 8 9 10 (Bl.C0 Bl.cI 1 Bl.OkT B X Y 3 cs vr M sa) (Bl.C1 Bl.cI 1 Bl.OkT B X Y 3 cs vr M Pr (Bl.nuT 2 sa).2) (Bl.C2 Bl.cI 1 Bl.OkT B X Y 3 cs vr M Pr (Bl.nuT 2 sa).2) (Bl.C3 Bl.cI 1 Bl.OkT B X Y 3 cs vr M Pr (Bl.nuT 2 sa).2)) 11 [2, 3, 4, 5, 6, 7, 8, 9, 10, 11, 12] [Bl.eqv _, Bl.eqv _, Bl.eqv _, Bl.eqv _, Bl.eqv _, Bl.eqv _, Bl.anyv, Bl.anyv, Bl.anyv, Bl.eqv _, Bl.eqv _] (fun w => Bl.Kq.refl w) (fun a b c h k => Bl.Kq.trans h k) (by kernel_rfl) (by kernel_rfl) (by kernel_rfl) (by kernel_rfl)
  case hsteps =>
    refine ⟨?_, ?_, ?_, ?_, ?_, ?_, ?_, ?_, ?_, ?_, ?_, trivial⟩
    all_goals
      intro d ev w1 hext HJd Hanc Hdes hni hb hd
      replace Hanc := Bl.hid Hanc
      replace HJd := Bl.hid HJd
      replace Hdes := Bl.hid Hdes
      replace hni := Bl.hid hni
      have e0 := hb 0 (by decide)
      have e1 := hb 1 (by decide)
      clear hb
      simp only [Array.getD_eq_getD_getElem?, List.getElem?_toArray, List.getElem?_cons_succ, List.getElem?_cons_zero, Option.getD_some] at e0 e1
      simp only [Bl.DepsE2, List.getElem?_cons_succ, List.getElem?_cons_zero, Option.bind_some, List.getD_cons_succ, List.getD_cons_zero, Bl.eqv, and_true] at hd
      have q3 := Hq.out _ hext
      have c0 := q3.1
      have c1 := q3.2.1
      have c7 := q3.2.2
      clear q3
      rw [if_pos (rfl : Region.wanted _ _ = true)]
      first
      | ((with_reducible refine Bl.goodX_buildV (v := ev 8) tII (by decide) ?_ (HJd.out.b (Hanc.out 6 (by kernel_rfl)) hni.out).size ?_); rfl; exact ⟨Bl.Kq.of_ext (Bl.ext_alloc _ _), trivial, Bl.Chn.bld (by decide) (Hanc.out 6 (by kernel_rfl)) (Hdes.out 8 (by kernel_rfl)) ((HJd.out.b (Hanc.out 6 (by kernel_rfl)) hni.out).c2 Bl.stab_okT _)⟩) | ((with_reducible refine Bl.goodX_c3 tII Bl.stab_okT Hn.out.1 hXY (HJd.out.c (Hanc.out 7 (by kernel_rfl)) hni.out) ?_ ?_ Hm.out.1 Hm.out.2 ?_); rfl; exact (by first | exact hd | exact hd.2 | exact hd.1.2 | exact hd.1.1.2 | exact hd.1.1.1.2 | exact hd.1.1.1.1.2 | exact hd.1.1.1.1.1.2 | exact hd.1.1.1.1.1.1.2 | exact hd.1.1.1.1.1.1.1.2 | exact hd.1.1.1.1.1.1.1.1.2 | exact hd.1.1.1.1.1.1.1.1.1.2 | exact hd.1.1.1.1.1.1.1.1.1.1.2 | exact hd.1.1.1.1.1.1.1.1.1.1.1.2 | exact hd.1.1.1.1.1.1.1.1.1.1.1.1.2 | exact hd.1.1.1.1.1.1.1.1.1.1.1.1.1.2 | exact hd.1 | exact hd.1.1 | exact hd.1.1.1 | exact hd.1.1.1.1 | exact hd.1.1.1.1.1 | exact hd.1.1.1.1.1.1 | exact hd.1.1.1.1.1.1.1 | exact hd.1.1.1.1.1.1.1.1 | exact hd.1.1.1.1.1.1.1.1.1 | exact hd.1.1.1.1.1.1.1.1.1.1 | exact hd.1.1.1.1.1.1.1.1.1.1.1 | exact hd.1.1.1.1.1.1.1.1.1.1.1.1 | exact hd.1.1.1.1.1.1.1.1.1.1.1.1.1 | exact hd.2.1 | exact hd.2.2.1 | exact hd.2.2.2.1 | exact hd.2.2.2.2.1 | exact hd.2.2.2.2.2.1 | exact hd.2.2.2.2.2.2.1 | exact hd.2.2.2.2.2.2.2.1 | exact hd.2.2.2.2.2.2.2.2.1 | exact hd.2.2.2.2.2.2.2.2.2.1 | exact hd.2.2.2.2.2.2.2.2.2.2.1 | exact hd.2.2.2.2.2.2.2.2.2.2.2.1 | exact hd.2.2.2.2.2.2.2.2.2.2.2.2.1 | exact hd.2.2.2.2.2.2.2.2.2.2.2.2.2.1); exact fun v' w' k1 k2 => ⟨k1, trivial, Bl.Chn.app (by decide) (Hanc.out 6 (by kernel_rfl)) (Hanc.out 7 (by kernel_rfl)) k2⟩)
      | (go_simp; first | exact ⟨Bl.Kq.refl _, rfl, HJd.out.same (by decide)⟩ | (go_at_call 49; (with_reducible refine (HCall.out w1 (HJd.out.a hni.out)).mono ?_); rintro e w2 ⟨v9, rfl, k1, k2⟩; exact ⟨_, rfl, k2, trivial, Bl.Chn.call (by decide) (Hdes.out 7 (by kernel_rfl)) (Hdes.out 8 (by kernel_rfl)) k1⟩) | exact ⟨Below.refl _ _, rfl, Bl.HJ.same (by decide) HJd.out⟩)
  case hmono => exact ⟨Bl.monoR_eqv _, Bl.monoR_eqv _, Bl.monoR_eqv _, Bl.monoR_eqv _, Bl.monoR_eqv _, Bl.monoR_eqv _, Bl.monoR_anyv, Bl.monoR_anyv, Bl.monoR_anyv, Bl.monoR_eqv _, Bl.monoR_eqv _, trivial⟩
  case hR0 => exact Bl.Kq.drew _
  case hend =>
    intro u w1 hext hJ hend
    simp only [Bl.EndE, List.getElem?_cons_succ, List.getElem?_cons_zero, Option.bind_some, List.getD_cons_succ, List.getD_cons_zero, Bl.eqv, true_and] at hend
    simp only [Bl.fillAct, List.setIfInBounds_toArray, List.set_cons_succ, List.set_cons_zero, List.drop_succ_cons, List.drop_zero, hend]
    obtain ⟨y, p, c, hu, hp, hcell, hfz, hG, hR⟩ := hJ.d rfl
    have HG := Bl.hid hG
    have HR := Bl.hid hR
    have HK := Bl.hid hext
    have Hp := Bl.hid hp
    rw [hu] at HG HR
    simp only [hu]
    clear hG hR hext hend hJ hu hp
    go_wp2_with fail
    go_end0
    rw [HPr.out] at Hp
    exact ⟨rfl, _, y, Hp.out, HG.out, HR.out, (HK.out.mono fun k _ hk => hk.imp id .inr).setCell ⟨Y, 3, none⟩ (.inr (.inl rfl)) _⟩
  case hJ0 => exact Bl.Chn.start (by have h := HC.out; exact ⟨h.1.kept (Q := fun _ => False) (Bl.Kq.drew _) (fun _ _ q => q), h.2.1.kept (Q := fun _ => False) Bl.stab_okT (Bl.Kq.drew _) (fun q => q) (fun _ _ q => q), h.2.2⟩)

set_option maxRecDepth 100000 in
set_option maxHeartbeats 1000000 in
theorem each1_any (I : Nat → Bl.Rst → World → Prop) (X c0 c1 n : Nat) (hI : ∀ k s w, I k s w → Bl.Rdr w X s) (hn : n ≤ 100000)
    (hstep : ∀ k s w, k < n → s.1 = false → I k s w → Calls Tryd.prog 79 #[.pointer (some ⟨c0, 0, none⟩), .pointer (some ⟨c1, 0, none⟩)] w fun e w' => e = .returned (.tuple #[]) ∧ ∃ s', I (k + 1) s' w') (s0 : Bl.Rst) (w : World) (h : I 0 s0 w) :
    Calls Tryd.prog 78 #[.pointer (some ⟨X, 0, none⟩), .int .i64 n, .func (.func 79) #[] #[.pointer (some ⟨c0, 0, none⟩), .pointer (some ⟨c1, 0, none⟩)]] w fun e w' => e = .returned (.tuple #[]) ∧ Bl.EachEnd I n w' := by
  have HI := Bl.hid hI
  have HS := Bl.hid hstep
  have H := Bl.hid h
  clear hI hstep h
  go_enter Tryd.func78, Tryd.ntmps78
  go_wp2_with fail
  go_loopw [6] (fun i wr => ∃ (k : Nat) (s : Bl.Rst), k ≤ n ∧ i = .int .i64 k ∧ Hid (I k s wr)) (fun i _ => n - (intOf i).toNat)
  case atStart => exact ⟨0, s0, Nat.zero_le _, rfl, H⟩
  case round =>
    obtain ⟨k, s, hk, rfl, HIk⟩ := hrel
    obtain ⟨p, c, hB, _⟩ := (HI.out k s wr HIk.out).ex
    have q1 := hB.cell (i := 1) rfl
    clear hB
    obtain ⟨sh, hsh⟩ : ∃ sh, sh = s.1 := ⟨_, rfl⟩
    rw [← hsh] at q1
    have Hsh := Bl.hid hsh
    clear hsh
    by_cases hlt : k < n
    · have hkl : (k : Int) < (n : Int) := by omega
      cases sh
      · go_wp2_with fail
        refine (HS.out k s wr hlt Hsh.out.symm HIk.out).mono ?_
        rintro e w2 ⟨rfl, s', h2⟩
        have H2 := Bl.hid h2
        clear h2 q1
        go_wp2_with fail
        go_roundw
        case rel => exact ⟨k + 1, s', by omega, by go_num, H2⟩
        case measure => simp [intOf]; omega
      · go_wp2_with fail
        go_end0
        exact ⟨rfl, ⟨k, s, hk, HIk.out, .inr Hsh.out.symm⟩⟩
    · obtain rfl : k = n := by omega
      clear hlt
      have hkl : ¬ ((k : Int) < (k : Int)) := by omega
      go_wp2_with fail
      go_end0
      exact ⟨rfl, ⟨k, s, Nat.le_refl _, HIk.out, .inl rfl⟩⟩

set_option maxRecDepth 100000 in
set_option maxHeartbeats 1000000 in
theorem each2_any (I : Nat → Bl.Rst → World → Prop) (X c0 c1 n : Nat) (hI : ∀ k s w, I k s w → Bl.Rdr w X s) (hn : n ≤ 100000)
    (hstep : ∀ k s w, k < n → s.1 = false → I k s w → Calls Tryd.prog 80 #[.pointer (some ⟨c0, 0, none⟩), .pointer (some ⟨c1, 0, none⟩)] w fun e w' => e = .returned (.tuple #[]) ∧ ∃ s', I (k + 1) s' w') (s0 : Bl.Rst) (w : World) (h : I 0 s0 w) :
    Calls Tryd.prog 78 #[.pointer (some ⟨X, 0, none⟩), .int .i64 n, .func (.func 80) #[] #[.pointer (some ⟨c0, 0, none⟩), .pointer (some ⟨c1, 0, none⟩)]] w fun e w' => e = .returned (.tuple #[]) ∧ Bl.EachEnd I n w' := by
  have HI := Bl.hid hI
  have HS := Bl.hid hstep
  have H := Bl.hid h
  clear hI hstep h
  go_enter Tryd.func78, Tryd.ntmps78
  go_wp2_with fail
  go_loopw [6] (fun i wr => ∃ (k : Nat) (s : Bl.Rst), k ≤ n ∧ i = .int .i64 k ∧ Hid (I k s wr)) (fun i _ => n - (intOf i).toNat)
  case atStart => exact ⟨0, s0, Nat.zero_le _, rfl, H⟩
  case round =>
    obtain ⟨k, s, hk, rfl, HIk⟩ := hrel
    obtain ⟨p, c, hB, _⟩ := (HI.out k s wr HIk.out).ex
    have q1 := hB.cell (i := 1) rfl
    clear hB
    obtain ⟨sh, hsh⟩ : ∃ sh, sh = s.1 := ⟨_, rfl⟩
    rw [← hsh] at q1
    have Hsh := Bl.hid hsh
    clear hsh
    by_cases hlt : k < n
    · have hkl : (k : Int) < (n : Int) := by omega
      cases sh
      · go_wp2_with fail
        refine (HS.out k s wr hlt Hsh.out.symm HIk.out).mono ?_
        rintro e w2 ⟨rfl, s', h2⟩
        have H2 := Bl.hid h2
        clear h2 q1
        go_wp2_with fail
        go_roundw
        case rel => exact ⟨k + 1, s', by omega, by go_num, H2⟩
        case measure => simp [intOf]; omega
      · go_wp2_with fail
        go_end0
        exact ⟨rfl, ⟨k, s, hk, HIk.out, .inr Hsh.out.symm⟩⟩
    · obtain rfl : k = n := by omega
      clear hlt
      have hkl : ¬ ((k : Int) < (k : Int)) := by omega
      go_wp2_with fail
      go_end0
      exact ⟨rfl, ⟨k, s, Nat.le_refl _, HIk.out, .inl rfl⟩⟩

set_option maxRecDepth 100000 in
set_option maxHeartbeats 1000000 in
theorem each4_any (I : Nat → Bl.Rst → World → Prop) (X c0 c1 n : Nat) (hI : ∀ k s w, I k s w → Bl.Rdr w X s) (hn : n ≤ 100000)
    (hstep : ∀ k s w, k < n → s.1 = false → I k s w → Calls Tryd.prog 87 #[.pointer (some ⟨c0, 0, none⟩), .pointer (some ⟨c1, 0, none⟩)] w fun e w' => e = .returned (.tuple #[]) ∧ ∃ s', I (k + 1) s' w') (s0 : Bl.Rst) (w : World) (h : I 0 s0 w) :
    Calls Tryd.prog 78 #[.pointer (some ⟨X, 0, none⟩), .int .i64 n, .func (.func 87) #[] #[.pointer (some ⟨c0, 0, none⟩), .pointer (some ⟨c1, 0, none⟩)]] w fun e w' => e = .returned (.tuple #[]) ∧ Bl.EachEnd I n w' := by
  have HI := Bl.hid hI
  have HS := Bl.hid hstep
  have H := Bl.hid h
  clear hI hstep h
  go_enter Tryd.func78, Tryd.ntmps78
  go_wp2_with fail
  go_loopw [6] (fun i wr => ∃ (k : Nat) (s : Bl.Rst), k ≤ n ∧ i = .int .i64 k ∧ Hid (I k s wr)) (fun i _ => n - (intOf i).toNat)
  case atStart => exact ⟨0, s0, Nat.zero_le _, rfl, H⟩
  case round =>
    obtain ⟨k, s, hk, rfl, HIk⟩ := hrel
    obtain ⟨p, c, hB, _⟩ := (HI.out k s wr HIk.out).ex
    have q1 := hB.cell (i := 1) rfl
    clear hB
    obtain ⟨sh, hsh⟩ : ∃ sh, sh = s.1 := ⟨_, rfl⟩
    rw [← hsh] at q1
    have Hsh := Bl.hid hsh
    clear hsh
    by_cases hlt : k < n
    · have hkl : (k : Int) < (n : Int) := by omega
      cases sh
      · go_wp2_with fail
        refine (HS.out k s wr hlt Hsh.out.symm HIk.out).mono ?_
        rintro e w2 ⟨rfl, s', h2⟩
        have H2 := Bl.hid h2
        clear h2 q1
        go_wp2_with fail
        go_roundw
        case rel => exact ⟨k + 1, s', by omega, by go_num, H2⟩
        case measure => simp [intOf]; omega
      · go_wp2_with fail
        go_end0
        exact ⟨rfl, ⟨k, s, hk, HIk.out, .inr Hsh.out.symm⟩⟩
    · obtain rfl : k = n := by omega
      clear hlt
      have hkl : ¬ ((k : Int) < (k : Int)) := by omega
      go_wp2_with fail
      go_end0
      exact ⟨rfl, ⟨k, s, Nat.le_refl _, HIk.out, .inl rfl⟩⟩
end Go.Proofs.YtmmolapkddbibaaDoor

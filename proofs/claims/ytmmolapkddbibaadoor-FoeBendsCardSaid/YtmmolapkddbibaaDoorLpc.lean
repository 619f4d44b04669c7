/- Texts that stood apart, in one: LP2, LP3. -/
import Derived.Test.YtmmolapkddbibaaDoorLpa
import Derived.Test.YtmmolapkddbibaaDoorLtp
import Derived.Test.YtmmolapkddbibaaDoorLet2b
/- Walks of the closures of reader.rest that append what is read, and of reader.each for each closure. -/
namespace Go.Proofs.YtmmolapkddbibaaDoor
open Go Go.RowKit Go.Proofs
theorem tBB : Bl.SlT Tryd.prog 24 46 (.slice none 0 0) 1 24 := ⟨Tryd.underlying24, by kernel_rfl, rfl, by decide⟩
theorem tII : Bl.SlT Tryd.prog 22 3 (.int .i64 0) 1 8 := ⟨Tryd.underlying22, by kernel_rfl, rfl, by decide⟩

set_option maxRecDepth 100000 in
set_option maxHeartbeats 2000000 in
theorem rest1_any (X Y q0 q1 B : Nat) (sa : Bl.Rst) (cs : List Value) (vr : Value) (M : List Bl.Bv) (w : World) (hC : Bl.C0 Bl.cB 1 Bl.OkB B X Y 7 cs vr M sa w) (h0 : w.cell? ⟨q0, 0, none⟩ = some (.pointer (some ⟨Y, 0, none⟩))) (h1 : w.cell? ⟨q1, 0, none⟩ = some (.pointer (some ⟨X, 0, none⟩))) (hXY : X < Y) (hY : Y < B) (n0 : q0 < B ∧ q0 ≠ X) (n1 : q1 < B ∧ q1 ≠ X) (hM : M.length ≤ 100000) :
    Calls Tryd.prog 79 #[.pointer (some ⟨q0, 0, none⟩), .pointer (some ⟨q1, 0, none⟩)] w fun e w' => e = .returned (.tuple #[]) ∧ ∃ v' y, y.2 = (Bl.tkT 16 sa).1 ∧ Bl.GP Bl.cB 1 Bl.OkB B w' Y 7 (cs.set 7 v') v' (M ++ [y]) ∧ Bl.Rdr w' X (Bl.tkT 16 sa).2 ∧ Bl.Kq (fun k => k = X ∨ k = Y ∨ B ≤ k) w w' := by
  obtain ⟨Pr, hPr⟩ : ∃ Pr : Bl.Bv → Prop, Pr = fun y => y.2 = (Bl.tkT 16 sa).1 := ⟨_, rfl⟩
  have HPr := Bl.hid hPr
  have hB : B ≤ w.heap.size := hC.2.2
  have Hn : Hid (X < B ∧ ¬ (X = Y) ∧ ¬ (B ≤ Y) ∧ ¬ (Y = X)) := Bl.hid (by omega)
  have HCall : Hid (∀ w2, Bl.C0 Bl.cB 1 Bl.OkB B X Y 7 cs vr M sa w2 → Calls Tryd.prog 77 #[.pointer (some ⟨X, 0, none⟩), .int .i64 16] w2 fun e w' => ∃ v', e = .returned v' ∧ Bl.C1 Bl.cB 1 Bl.OkB B X Y 7 cs vr M Pr (Bl.tkT 16 sa).2 v' w' ∧ Bl.Kq (fun k => k = X ∨ B ≤ k) w2 w') := Bl.hid fun w2 hc => by
    refine (rdtake_any X 16 sa w2 hc.1 (by decide) (by decide)).mono ?_
    rintro e w' ⟨v', rfl, g1, g2, g3, g4⟩
    refine ⟨v', rfl, hc.c1 Bl.stab_okB (y := (v', (Bl.tkT 16 sa).1)) g4 Hn.out.2.2.2 (fun b hb q => by have := Hn.out.1; omega) g3 (by rw [HPr.out]) (Bl.cB_cells g1) rfl (Bl.cB_one g1) ⟨?_, (Bl.tkT_byt hc.1.by').1⟩, g4.mono fun k _ hk => .inl hk⟩
    obtain ⟨p, c, hf, hr⟩ := g1
    exact Bl.RdsF.of_rds hr fun b hb _ => g2 b hb
  have HC := Bl.hid hC
  have hY7 := hC.2.1.cell
  obtain ⟨m, hm⟩ : ∃ m, m = M.length := ⟨_, rfl⟩
  have Hm : Hid (M.length + 1 ≤ maxLen ∧ (M.length + 1) * 24 ≤ 140737488355328) := Bl.hid (by unfold maxLen; omega)
  have Hq : Hid ((∀ w2, Bl.Kq (fun k => k = X ∨ B ≤ k) w w2 → w2.cell? ⟨q0, 0, none⟩ = some (.pointer (some ⟨Y, 0, none⟩)) ∧ w2.cell? ⟨q1, 0, none⟩ = some (.pointer (some ⟨X, 0, none⟩)) ∧ w2.cell? ⟨Y, 7, none⟩ = some vr)) := Bl.hid fun w2 h => ⟨h.cell (by omega) h0, h.cell (by omega) h1, h.cell (by omega) hY7⟩
  clear hPr hC hY7 hm hM n0 n1 hB
  go_enter Tryd.func79, Tryd.ntmps79
  apply Bl.wp_region_evK (Bl.Kq (fun k => k = X ∨ B ≤ k)) (Bl.Chn 6 7 8 8 9 10 (Bl.C0 Bl.cB 1 Bl.OkB B X Y 7 cs vr M sa) (Bl.C1 Bl.cB 1 Bl.OkB B X Y 7 cs vr M Pr (Bl.tkT 16 sa).2) (Bl.C2 Bl.cB 1 Bl.OkB B X Y 7 cs vr M Pr (Bl.tkT 16 sa).2) (Bl.C3 Bl.cB 1 Bl.OkB B X Y 7 cs vr M Pr (Bl.tkT 16 sa).2)) 11 [2, 3, 4, 5, 6, 7, 8, 9, 10, 11, 12] [Bl.eqv _, Bl.eqv _, Bl.eqv _, Bl.eqv _, Bl.eqv _, Bl.eqv _, Bl.anyv, Bl.anyv, Bl.anyv, Bl.eqv _, Bl.eqv _] (fun w => Bl.Kq.refl w) (fun a b c h k => Bl.Kq.trans h k) (by kernel_rfl) (by kernel_rfl) (by kernel_rfl) (by kernel_rfl)
  case hsteps =>
    refine ⟨?_, ?_, ?_, ?_, ?_, ?_, ?_, ?_, ?_, ?_, ?_, trivial⟩
    all_goals
      intro d ev w1 hext HJd Hanc Hdes hni hb hd
      replace Hanc := Bl.hid Hanc
      replace HJd := Bl.hid HJd
      replace Hdes := Bl.hid Hdes
      replace hni := Bl.hid hni
      have e0 := hb 0 (by decide)
      have e1 := hb 1 (by decide)
      clear hb
      simp only [Array.getD_eq_getD_getElem?, List.getElem?_toArray, List.getElem?_cons_succ, List.getElem?_cons_zero, Option.getD_some] at e0 e1
      simp only [Bl.DepsE2, List.getElem?_cons_succ, List.getElem?_cons_zero, Option.bind_some, List.getD_cons_succ, List.getD_cons_zero, Bl.eqv, and_true] at hd
      have q3 := Hq.out _ hext
      have c0 := q3.1
      have c1 := q3.2.1
      have c7 := q3.2.2
      clear q3
      rw [if_pos (rfl : Region.wanted _ _ = true)]
      first
      | ((with_reducible refine Bl.goodX_buildV (v := ev 8) tBB (by decide) ?_ (HJd.out.b (Hanc.out 6 (by kernel_rfl)) hni.out).size ?_); rfl; exact ⟨Bl.Kq.of_ext (Bl.ext_alloc _ _), trivial, Bl.Chn.bld (by decide) (Hanc.out 6 (by kernel_rfl)) (Hdes.out 8 (by kernel_rfl)) ((HJd.out.b (Hanc.out 6 (by kernel_rfl)) hni.out).c2 Bl.stab_okB _)⟩) | ((with_reducible refine Bl.goodX_c3 tBB Bl.stab_okB Hn.out.1 hXY (HJd.out.c (Hanc.out 7 (by kernel_rfl)) hni.out) ?_ ?_ Hm.out.1 Hm.out.2 ?_); rfl; exact (by first | exact hd | exact hd.2 | exact hd.1.2 | exact hd.1.1.2 | exact hd.1.1.1.2 | exact hd.1.1.1.1.2 | exact hd.1.1.1.1.1.2 | exact hd.1.1.1.1.1.1.2 | exact hd.1.1.1.1.1.1.1.2 | exact hd.1.1.1.1.1.1.1.1.2 | exact hd.1.1.1.1.1.1.1.1.1.2 | exact hd.1.1.1.1.1.1.1.1.1.1.2 | exact hd.1.1.1.1.1.1.1.1.1.1.1.2 | exact hd.1.1.1.1.1.1.1.1.1.1.1.1.2 | exact hd.1.1.1.1.1.1.1.1.1.1.1.1.1.2 | exact hd.1 | exact hd.1.1 | exact hd.1.1.1 | exact hd.1.1.1.1 | exact hd.1.1.1.1.1 | exact hd.1.1.1.1.1.1 | exact hd.1.1.1.1.1.1.1 | exact hd.1.1.1.1.1.1.1.1 | exact hd.1.1.1.1.1.1.1.1.1 | exact hd.1.1.1.1.1.1.1.1.1.1 | exact hd.1.1.1.1.1.1.1.1.1.1.1 | exact hd.1.1.1.1.1.1.1.1.1.1.1.1 | exact hd.1.1.1.1.1.1.1.1.1.1.1.1.1 | exact hd.2.1 | exact hd.2.2.1 | exact hd.2.2.2.1 | exact hd.2.2.2.2.1 | exact hd.2.2.2.2.2.1 | exact hd.2.2.2.2.2.2.1 | exact hd.2.2.2.2.2.2.2.1 | exact hd.2.2.2.2.2.2.2.2.1 | exact hd.2.2.2.2.2.2.2.2.2.1 | exact hd.2.2.2.2.2.2.2.2.2.2.1 | exact hd.2.2.2.2.2.2.2.2.2.2.2.1 | exact hd.2.2.2.2.2.2.2.2.2.2.2.2.1 | exact hd.2.2.2.2.2.2.2.2.2.2.2.2.2.1); exact fun v' w' k1 k2 => ⟨k1, trivial, Bl.Chn.app (by decide) (Hanc.out 6 (by kernel_rfl)) (Hanc.out 7 (by kernel_rfl)) k2⟩)
      | (go_simp; first | exact ⟨Bl.Kq.refl _, rfl, HJd.out.same (by decide)⟩ | (go_at_call 77; (with_reducible refine (HCall.out w1 (HJd.out.a hni.out)).mono ?_); rintro e w2 ⟨v9, rfl, k1, k2⟩; exact ⟨_, rfl, k2, trivial, Bl.Chn.call (by decide) (Hdes.out 7 (by kernel_rfl)) (Hdes.out 8 (by kernel_rfl)) k1⟩) | exact ⟨Below.refl _ _, rfl, Bl.HJ.same (by decide) HJd.out⟩)
  case hmono => exact ⟨Bl.monoR_eqv _, Bl.monoR_eqv _, Bl.monoR_eqv _, Bl.monoR_eqv _, Bl.monoR_eqv _, Bl.monoR_eqv _, Bl.monoR_anyv, Bl.monoR_anyv, Bl.monoR_anyv, Bl.monoR_eqv _, Bl.monoR_eqv _, trivial⟩
  case hR0 => exact Bl.Kq.drew _
  case hend =>
    intro u w1 hext hJ hend
    simp only [Bl.EndE, List.getElem?_cons_succ, List.getElem?_cons_zero, Option.bind_some, List.getD_cons_succ, List.getD_cons_zero, Bl.eqv, true_and] at hend
    simp only [Bl.fillAct, List.setIfInBounds_toArray, List.set_cons_succ, List.set_cons_zero, List.drop_succ_cons, List.drop_zero, hend]
    obtain ⟨y, p, c, hu, hp, hcell, hfz, hG, hR⟩ := hJ.d rfl
    have HG := Bl.hid hG
    have HR := Bl.hid hR
    have HK := Bl.hid hext
    have Hp := Bl.hid hp
    rw [hu] at HG HR
    simp only [hu]
    clear hG hR hext hend hJ hu hp
    go_wp2_with fail
    go_end0
    rw [HPr.out] at Hp
    exact ⟨rfl, _, y, Hp.out, HG.out, HR.out, (HK.out.mono fun k _ hk => hk.imp id .inr).setCell ⟨Y, 7, none⟩ (.inr (.inl rfl)) _⟩
  case hJ0 => exact Bl.Chn.start (by have h := HC.out; exact ⟨h.1.kept (Q := fun _ => False) (Bl.Kq.drew _) (fun _ _ q => q), h.2.1.kept (Q := fun _ => False) Bl.stab_okB (Bl.Kq.drew _) (fun q => q) (fun _ _ q => q), h.2.2⟩)

set_option maxRecDepth 100000 in
set_option maxHeartbeats 2000000 in
theorem rest2_any (X Y q0 q1 B : Nat) (sa : Bl.Rst) (cs : List Value) (vr : Value) (M : List Int) (w : World) (hC : Bl.C0 Bl.cI 1 Bl.OkT B X Y 3 cs vr M sa w) (h0 : w.cell? ⟨q0, 0, none⟩ = some (.pointer (some ⟨Y, 0, none⟩))) (h1 : w.cell? ⟨q1, 0, none⟩ = some (.pointer (some ⟨X, 0, none⟩))) (hXY : X < Y) (hY : Y < B) (n0 : q0 < B ∧ q0 ≠ X) (n1 : q1 < B ∧ q1 ≠ X) (hM : M.length ≤ 100000) :
    Calls Tryd.prog 80 #[.pointer (some ⟨q0, 0, none⟩), .pointer (some ⟨q1, 0, none⟩)] w fun e w' => e = .returned (.tuple #[]) ∧ ∃ v' y, y = (Bl.nuT 2 sa).1 ∧ Bl.GP Bl.cI 1 Bl.OkT B w' Y 3 (cs.set 3 v') v' (M ++ [y]) ∧ Bl.Rdr w' X (Bl.nuT 2 sa).2 ∧ Bl.Kq (fun k => k = X ∨ k = Y ∨ B ≤ k) w w' := by
  obtain ⟨Pr, hPr⟩ : ∃ Pr : Int → Prop, Pr = fun y => y = (Bl.nuT 2 sa).1 := ⟨_, rfl⟩
  have HPr := Bl.hid hPr
  have hB : B ≤ w.heap.size := hC.2.2
  have Hn : Hid (X < B ∧ ¬ (X = Y) ∧ ¬ (B ≤ Y) ∧ ¬ (Y = X)) := Bl.hid (by omega)
  have HCall : Hid (∀ w2, Bl.C0 Bl.cI 1 Bl.OkT B X Y 3 cs vr M sa w2 → Calls Tryd.prog 49 #[.pointer (some ⟨X, 0, none⟩), .int .i64 2] w2 fun e w' => ∃ v', e = .returned v' ∧ Bl.C1 Bl.cI 1 Bl.OkT B X Y 3 cs vr M Pr (Bl.nuT 2 sa).2 v' w' ∧ Bl.Kq (fun k => k = X ∨ B ≤ k) w2 w') := Bl.hid fun w2 hc => by
    refine (rdnum_any X 2 sa w2 hc.1 (by decide) (by decide)).mono ?_
    rintro e w' ⟨rfl, g3, g4⟩
    exact ⟨_, rfl, hc.c1 Bl.stab_okT (y := (Bl.nuT 2 sa).1) g4 Hn.out.2.2.2 (fun b hb q => by have := Hn.out.1; omega) g3 (by rw [HPr.out]) rfl rfl (Bl.cI_one _) trivial, g4.mono fun k _ hk => .inl hk⟩
  have HC := Bl.hid hC
  have hY7 := hC.2.1.cell
  obtain ⟨m, hm⟩ : ∃ m, m = M.length := ⟨_, rfl⟩
  have Hm : Hid (M.length + 1 ≤ maxLen ∧ (M.length + 1) * 8 ≤ 140737488355328) := Bl.hid (by unfold maxLen; omega)
  have Hq : Hid ((∀ w2, Bl.Kq (fun k => k = X ∨ B ≤ k) w w2 → w2.cell? ⟨q0, 0, none⟩ = some (.pointer (some ⟨Y, 0, none⟩)) ∧ w2.cell? ⟨q1, 0, none⟩ = some (.pointer (some ⟨X, 0, none⟩)) ∧ w2.cell? ⟨Y, 3, none⟩ = some vr)) := Bl.hid fun w2 h => ⟨h.cell (by omega) h0, h.cell (by omega) h1, h.cell (by omega) hY7⟩
  clear hPr hC hY7 hm hM n0 n1 hB
  go_enter Tryd.func80, Tryd.ntmps80
  apply Bl.wp_region_evK (Bl.Kq (fun k => k = X ∨ B ≤ k)) (Bl.Chn 6 7 8 8 9 10 (Bl.C0 Bl.cI 1 Bl.OkT B X Y 3 cs vr M sa) (Bl.C1 Bl.cI 1 Bl.OkT B X Y 3 cs vr M Pr (Bl.nuT 2 sa).2) (Bl.C2 Bl.cI 1 Bl.OkT B X Y 3 cs vr M Pr (Bl.nuT 2 sa).2) (Bl.C3 Bl.cI 1 Bl.OkT B X Y 3 cs vr M Pr (Bl.nuT 2 sa).2)) 11 [2, 3, 4, 5, 6, 7, 8, 9, 10, 11, 12] [Bl.eqv _, Bl.eqv _, Bl.eqv _, Bl.eqv _, Bl.eqv _, Bl.eqv _, Bl.anyv, Bl.anyv, Bl.anyv, Bl.eqv _, Bl.eqv _] (fun w => Bl.Kq.refl w) (fun a b c h k => Bl.Kq.trans h k) (by kernel_rfl) (by kernel_rfl) (by kernel_rfl) (by kernel_rfl)
  case hsteps =>
    refine ⟨?_, ?_, ?_, ?_, ?_, ?_, ?_, ?_, ?_, ?_, ?_, trivial⟩
    all_goals
      intro d ev w1 hext HJd Hanc Hdes hni hb hd
      replace Hanc := Bl.hid Hanc
      replace HJd := Bl.hid HJd
      replace Hdes := Bl.hid Hdes
      replace hni := Bl.hid hni
      have e0 := hb 0 (by decide)
      have e1 := hb 1 (by decide)
      clear hb
      simp only [Array.getD_eq_getD_getElem?, List.getElem?_toArray, List.getElem?_cons_succ, List.getElem?_cons_zero, Option.getD_some] at e0 e1
      simp only [Bl.DepsE2, List.getElem?_cons_succ, List.getElem?_cons_zero, Option.bind_some, List.getD_cons_succ, List.getD_cons_zero, Bl.eqv, and_true] at hd
      have q3 := Hq.out _ hext
      have c0 := q3.1
      have c1 := q3.2.1
      have c7 := q3.2.2
      clear q3
      rw [if_pos (rfl : Region.wanted _ _ = true)]
      first
      | ((with_reducible refine Bl.goodX_buildV (v := ev 8) tII (by decide) ?_ (HJd.out.b (Hanc.out 6 (by kernel_rfl)) hni.out).size ?_); rfl; exact ⟨Bl.Kq.of_ext (Bl.ext_alloc _ _), trivial, Bl.Chn.bld (by decide) (Hanc.out 6 (by kernel_rfl)) (Hdes.out 8 (by kernel_rfl)) ((HJd.out.b (Hanc.out 6 (by kernel_rfl)) hni.out).c2 Bl.stab_okT _)⟩) | ((with_reducible refine Bl.goodX_c3 tII Bl.stab_okT Hn.out.1 hXY (HJd.out.c (Hanc.out 7 (by kernel_rfl)) hni.out) ?_ ?_ Hm.out.1 Hm.out.2 ?_); rfl; exact (by first | exact hd | exact hd.2 | exact hd.1.2 | exact hd.1.1.2 | exact hd.1.1.1.2 | exact hd.1.1.1.1.2 | exact hd.1.1.1.1.1.2 | exact hd.1.1.1.1.1.1.2 | exact hd.1.1.1.1.1.1.1.2 | exact hd.1.1.1.1.1.1.1.1.2 | exact hd.1.1.1.1.1.1.1.1.1.2 | exact hd.1.1.1.1.1.1.1.1.1.1.2 | exact hd.1.1.1.1.1.1.1.1.1.1.1.2 | exact hd.1.1.1.1.1.1.1.1.1.1.1.1.2 | exact hd.1.1.1.1.1.1.1.1.1.1.1.1.1.2 | exact hd.1 | exact hd.1.1 | exact hd.1.1.1 | exact hd.1.1.1.1 | exact hd.1.1.1.1.1 | exact hd.1.1.1.1.1.1 | exact hd.1.1.1.1.1.1.1 | exact hd.1.1.1.1.1.1.1.1 | exact hd.1.1.1.1.1.1.1.1.1 | exact hd.1.1.1.1.1.1.1.1.1.1 | exact hd.1.1.1.1.1.1.1.1.1.1.1 | exact hd.1.1.1.1.1.1.1.1.1.1.1.1 | exact hd.1.1.1.1.1.1.1.1.1.1.1.1.1 | exact hd.2.1 | exact hd.2.2.1 | exact hd.2.2.2.1 | exact hd.2.2.2.2.1 | exact hd.2.2.2.2.2.1 | exact hd.2.2.2.2.2.2.1 | exact hd.2.2.2.2.2.2.2.1 | exact hd.2.2.2.2.2.2.2.2.1 | exact hd.2.2.2.2.2.2.2.2.2.1 | exact hd.2.2.2.2.2.2.2.2.2.2.1 | exact hd.2.2.2.2.2.2.2.2.2.2.2.1 | exact hd.2.2.2.2.2.2.2.2.2.2.2.2.1 | exact hd.2.2.2.2.2.2.2.2.2.2.2.2.2.1); exact fun v' w' k1 k2 => ⟨k1, trivial, Bl.Chn.app (by decide) (Hanc.out 6 (by kernel_rfl)) (Hanc.out 7 (by kernel_rfl)) k2⟩)
      | (go_simp; first | exact ⟨Bl.Kq.refl _, rfl, HJd.out.same (by decide)⟩ | (go_at_call 49; (with_reducible refine (HCall.out w1 (HJd.out.a hni.out)).mono ?_); rintro e w2 ⟨v9, rfl, k1, k2⟩; exact ⟨_, rfl, k2, trivial, Bl.Chn.call (by decide) (Hdes.out 7 (by kernel_rfl)) (Hdes.out 8 (by kernel_rfl)) k1⟩) | exact ⟨Below.refl _ _, rfl, Bl.HJ.same (by decide) HJd.out⟩)
  case hmono => exact ⟨Bl.monoR_eqv _, Bl.monoR_eqv _, Bl.monoR_eqv _, Bl.monoR_eqv _, Bl.monoR_eqv _, Bl.monoR_eqv _, Bl.monoR_anyv, Bl.monoR_anyv, Bl.monoR_anyv, Bl.monoR_eqv _, Bl.monoR_eqv _, trivial⟩
  case hR0 => exact Bl.Kq.drew _
  case hend =>
    intro u w1 hext hJ hend
    simp only [Bl.EndE, List.getElem?_cons_succ, List.getElem?_cons_zero, Option.bind_some, List.getD_cons_succ, List.getD_cons_zero, Bl.eqv, true_and] at hend
    simp only [Bl.fillAct, List.setIfInBounds_toArray, List.set_cons_succ, List.set_cons_zero, List.drop_succ_cons, List.drop_zero, hend]
    obtain ⟨y, p, c, hu, hp, hcell, hfz, hG, hR⟩ := hJ.d rfl
    have HG := Bl.hid hG
    have HR := Bl.hid hR
    have HK := Bl.hid hext
    have Hp := Bl.hid hp
    rw [hu] at HG HR
    simp only [hu]
    clear hG hR hext hend hJ hu hp
    go_wp2_with fail
    go_end0
    rw [HPr.out] at Hp
    exact ⟨rfl, _, y, Hp.out, HG.out, HR.out, (HK.out.mono fun k _ hk => hk.imp id .inr).setCell ⟨Y, 3, none⟩ (.inr (.inl rfl)) _⟩
  case hJ0 => exact Bl.Chn.start (by have h := HC.out; exact ⟨h.1.kept (Q := fun _ => False) (Bl.Kq.drew _) (fun _ _ q => q), h.2.1.kept (Q := fun _ => False) Bl.stab_okT (Bl.Kq.drew _) (fun q => q) (fun _ _ q => q), h.2.2⟩)

set_option maxRecDepth 100000 in
set_option maxHeartbeats 1000000 in
theorem each1_any (I : Nat → Bl.Rst → World → Prop) (X c0 c1 n : Nat) (hI : ∀ k s w, I k s w → Bl.Rdr w X s) (hn : n ≤ 100000)
    (hstep : ∀ k s w, k < n → s.1 = false → I k s w → Calls Tryd.prog 79 #[.pointer (some ⟨c0, 0, none⟩), .pointer (some ⟨c1, 0, none⟩)] w fun e w' => e = .returned (.tuple #[]) ∧ ∃ s', I (k + 1) s' w') (s0 : Bl.Rst) (w : World) (h : I 0 s0 w) :
    Calls Tryd.prog 78 #[.pointer (some ⟨X, 0, none⟩), .int .i64 n, .func (.func 79) #[] #[.pointer (some ⟨c0, 0, none⟩), .pointer (some ⟨c1, 0, none⟩)]] w fun e w' => e = .returned (.tuple #[]) ∧ Bl.EachEnd I n w' := by
  have HI := Bl.hid hI
  have HS := Bl.hid hstep
  have H := Bl.hid h
  clear hI hstep h
  go_enter Tryd.func78, Tryd.ntmps78
  go_wp2_with fail
  go_loopw [6] (fun i wr => ∃ (k : Nat) (s : Bl.Rst), k ≤ n ∧ i = .int .i64 k ∧ Hid (I k s wr)) (fun i _ => n - (intOf i).toNat)
  case atStart => exact ⟨0, s0, Nat.zero_le _, rfl, H⟩
  case round =>
    obtain ⟨k, s, hk, rfl, HIk⟩ := hrel
    obtain ⟨p, c, hB, _⟩ := (HI.out k s wr HIk.out).ex
    have q1 := hB.cell (i := 1) rfl
    clear hB
    obtain ⟨sh, hsh⟩ : ∃ sh, sh = s.1 := ⟨_, rfl⟩
    rw [← hsh] at q1
    have Hsh := Bl.hid hsh
    clear hsh
    by_cases hlt : k < n
    · have hkl : (k : Int) < (n : Int) := by omega
      cases sh
      · go_wp2_with fail
        refine (HS.out k s wr hlt Hsh.out.symm HIk.out).mono ?_
        rintro e w2 ⟨rfl, s', h2⟩
        have H2 := Bl.hid h2
        clear h2 q1
        go_wp2_with fail
        go_roundw
        case rel => exact ⟨k + 1, s', by omega, by go_num, H2⟩
        case measure => simp [intOf]; omega
      · go_wp2_with fail
        go_end0
        exact ⟨rfl, ⟨k, s, hk, HIk.out, .inr Hsh.out.symm⟩⟩
    · obtain rfl : k = n := by omega
      clear hlt
      have hkl : ¬ ((k : Int) < (k : Int)) := by omega
      go_wp2_with fail
      go_end0
      exact ⟨rfl, ⟨k, s, Nat.le_refl _, HIk.out, .inl rfl⟩⟩

set_option maxRecDepth 100000 in
set_option maxHeartbeats 1000000 in
theorem each2_any (I : Nat → Bl.Rst → World → Prop) (X c0 c1 n : Nat) (hI : ∀ k s w, I k s w → Bl.Rdr w X s) (hn : n ≤ 100000)
    (hstep : ∀ k s w, k < n → s.1 = false → I k s w → Calls Tryd.prog 80 #[.pointer (some ⟨c0, 0, none⟩), .pointer (some ⟨c1, 0, none⟩)] w fun e w' => e = .returned (.tuple #[]) ∧ ∃ s', I (k + 1) s' w') (s0 : Bl.Rst) (w : World) (h : I 0 s0 w) :
    Calls Tryd.prog 78 #[.pointer (some ⟨X, 0, none⟩), .int .i64 n, .func (.func 80) #[] #[.pointer (some ⟨c0, 0, none⟩), .pointer (some ⟨c1, 0, none⟩)]] w fun e w' => e = .returned (.tuple #[]) ∧ Bl.EachEnd I n w' := by
  have HI := Bl.hid hI
  have HS := Bl.hid hstep
  have H := Bl.hid h
  clear hI hstep h
  go_enter Tryd.func78, Tryd.ntmps78
  go_wp2_with fail
  go_loopw [6] (fun i wr => ∃ (k : Nat) (s : Bl.Rst), k ≤ n ∧ i = .int .i64 k ∧ Hid (I k s wr)) (fun i _ => n - (intOf i).toNat)
  case atStart => exact ⟨0, s0, Nat.zero_le _, rfl, H⟩
  case round =>
    obtain ⟨k, s, hk, rfl, HIk⟩ := hrel
    obtain ⟨p, c, hB, _⟩ := (HI.out k s wr HIk.out).ex
    have q1 := hB.cell (i := 1) rfl
    clear hB
    obtain ⟨sh, hsh⟩ : ∃ sh, sh = s.1 := ⟨_, rfl⟩
    rw [← hsh] at q1
    have Hsh := Bl.hid hsh
    clear hsh
    by_cases hlt : k < n
    · have hkl : (k : Int) < (n : Int) := by omega
      cases sh
      · go_wp2_with fail
        refine (HS.out k s wr hlt Hsh.out.symm HIk.out).mono ?_
        rintro e w2 ⟨rfl, s', h2⟩
        have H2 := Bl.hid h2
        clear h2 q1
        go_wp2_with fail
        go_roundw
        case rel => exact ⟨k + 1, s', by omega, by go_num, H2⟩
        case measure => simp [intOf]; omega
      · go_wp2_with fail
        go_end0
        exact ⟨rfl, ⟨k, s, hk, HIk.out, .inr Hsh.out.symm⟩⟩
    · obtain rfl : k = n := by omega
      clear hlt
      have hkl : ¬ ((k : Int) < (k : Int)) := by omega
      go_wp2_with fail
      go_end0
      exact ⟨rfl, ⟨k, s, Nat.le_refl _, HIk.out, .inl rfl⟩⟩

set_option maxRecDepth 100000 in
set_option maxHeartbeats 1000000 in
theorem each4_any (I : Nat → Bl.Rst → World → Prop) (X c0 c1 n : Nat) (hI : ∀ k s w, I k s w → Bl.Rdr w X s) (hn : n ≤ 100000)
    (hstep : ∀ k s w, k < n → s.1 = false → I k s w → Calls Tryd.prog 87 #[.pointer (some ⟨c0, 0, none⟩), .pointer (some ⟨c1, 0, none⟩)] w fun e w' => e = .returned (.tuple #[]) ∧ ∃ s', I (k + 1) s' w') (s0 : Bl.Rst) (w : World) (h : I 0 s0 w) :
    Calls Tryd.prog 78 #[.pointer (some ⟨X, 0, none⟩), .int .i64 n, .func (.func 87) #[] #[.pointer (some ⟨c0, 0, none⟩), .pointer (some ⟨c1, 0, none⟩)]] w fun e w' => e = .returned (.tuple #[]) ∧ Bl.EachEnd I n w' := by
  have HI := Bl.hid hI
  have HS := Bl.hid hstep
  have H := Bl.hid h
  clear hI hstep h
  go_enter Tryd.func78, Tryd.ntmps78
  go_wp2_with fail
  go_loopw [6] (fun i wr => ∃ (k : Nat) (s : Bl.Rst), k ≤ n ∧ i = .int .i64 k ∧ Hid (I k s wr)) (fun i _ => n - (intOf i).toNat)
  case atStart => exact ⟨0, s0, Nat.zero_le _, rfl, H⟩
  case round =>
    obtain ⟨k, s, hk, rfl, HIk⟩ := hrel
    obtain ⟨p, c, hB, _⟩ := (HI.out k s wr HIk.out).ex
    have q1 := hB.cell (i := 1) rfl
    clear hB
    obtain ⟨sh, hsh⟩ : ∃ sh, sh = s.1 := ⟨_, rfl⟩
    rw [← hsh] at q1
    have Hsh := Bl.hid hsh
    clear hsh
    by_cases hlt : k < n
    · have hkl : (k : Int) < (n : Int) := by omega
      cases sh
      · go_wp2_with fail
        refine (HS.out k s wr hlt Hsh.out.symm HIk.out).mono ?_
        rintro e w2 ⟨rfl, s', h2⟩
        have H2 := Bl.hid h2
        clear h2 q1
        go_wp2_with fail
        go_roundw
        case rel => exact ⟨k + 1, s', by omega, by go_num, H2⟩
        case measure => simp [intOf]; omega
      · go_wp2_with fail
        go_end0
        exact ⟨rfl, ⟨k, s, hk, HIk.out, .inr Hsh.out.symm⟩⟩
    · obtain rfl : k = n := by omega
      clear hlt
      have hkl : ¬ ((k : Int) < (k : Int)) := by omega
      go_wp2_with fail
      go_end0
      exact ⟨rfl, ⟨k, s, Nat.le_refl _, HIk.out, .inl rfl⟩⟩
end Go.Proofs.YtmmolapkddbibaaDoor

/- Walks of the closure of reader.shown, and of reader.shown. -/
namespace Go.Proofs.Bl
open Go Go.RowKit
theorem goodX_bldS {R : World → World → Prop} (hr : ∀ w, R w w) {P : Program} {ev : Nat → Value} {w : World} {φ : Value → World → Prop} {d : Option Tmp} {tt ty : TypeId} {pp : String} {af : Array Edge} {g : Option (Nat × Bool)} {i j : Nat} {x y : Operand} {vx vy v : Value} (hx : evalE ev x = vx) (hy : evalE ev y = vy) (hb : (Instr.build ty #[(i, vx), (j, vy)]).run P w = .ok v w) (hφ : φ v w) :
    GoodX R P w φ ((execOp (evalE ev) ⟨d, .build ty #[(i, x), (j, y)], tt, pp, af, g⟩).run P w) := by
  unfold execOp
  simp only [hx, hy, List.map_toArray, List.map_cons, List.map_nil, Sem.run_bind, Sem.run_pure, hb, Result.andThen_ok]
  exact ⟨hr _, hφ⟩
/-- where a path's digest stands -/
def P0 (B X D : Nat) (cs : List Value) (vr : Value) (M : List (List Int)) (s : Rst) (g o : Nat) (y : List Int) (w : World) : Prop := C0 (ints .u8) 32 OkT B X D 2 cs vr M s w ∧ w.rangeAt g o (ints .u8 y)
theorem P0.r {B X D : Nat} {cs : List Value} {vr : Value} {M : List (List Int)} {s : Rst} {g o : Nat} {y : List Int} {w : World} (h : P0 B X D cs vr M s g o y w) : w.rangeAt g o (ints .u8 y) := h.2
theorem P0.c {B X D : Nat} {cs : List Value} {vr : Value} {M : List (List Int)} {s : Rst} {g o : Nat} {y : List Int} {w : World} (h : P0 B X D cs vr M s g o y w) : C0 (ints .u8) 32 OkT B X D 2 cs vr M s w := h.1
theorem paT_nil {s : Rst} (h : (tkT 32 s).1 = []) : paT s = ([], (tkT 32 s).2) := by unfold paT; rw [if_pos h]
theorem paT_one {s : Rst} (h : (tkT 32 s).1 ≠ []) : paT s = ([(tkT 32 s).1], (tkT 32 s).2) := by unfold paT; rw [if_neg h]
theorem tk_32 {n : Nat} {s : Rst} (h : (tkT n s).1 ≠ []) : (tkT n s).1.length = n := by
  unfold tkT at h ⊢
  split
  · next h2 => simp only [List.length_take]; omega
  · next h2 => rw [if_neg h2] at h; exact absurd rfl h
theorem cells_agg (l : List Value) : (Value.agg l.toArray).cells = l.toArray := rfl
/-- the first two fields of a shown block are read, and its variable is made -/
structure JS (z : List Value) (X W : Nat) (s s1 s2 : Rst) (p : Int) (st : List Int) (d : Nat → Bool) (u : Nat → Value) (w : World) : Prop where
  le : W ≤ w.heap.size
  hX : X < W
  a : d 1 = false → Rdr w X s
  b : d 1 = true → u 5 = .int .i64 p
  c : d 1 = true → d 3 = false → Rdr w X s1
  e : d 3 = true → Rdr w X s2 ∧ SlB w (u 7) st ∧ ∀ k, (u 7).ownBlock = some k → W ≤ k ∧ k < w.heap.size
  f : d 5 = true → ∃ D, u 3 = .pointer (some ⟨D, 0, none⟩) ∧ BoxC w D z ∧ W ≤ D ∧ (d 3 = true → (u 7).ownBlock ≠ some D)
  g : d 4 = true → d 3 = true ∧ u 8 = .agg #[.int .i64 p, u 7, .slice none 0 0]
section
variable {z : List Value} {X W : Nat} {s s1 s2 : Rst} {p : Int} {st : List Int} {d : Nat → Bool} {u : Nat → Value} {w w' : World}
theorem JS.start (h : Rdr w X s) (hw : W ≤ w.heap.size) (hX : X < W) : JS z X W s s1 s2 p st (fun _ => false) u w := ⟨hw, hX, fun _ => h, fun q => (by cases q), fun q => (by cases q), fun q => (by cases q), fun q => (by cases q), fun q => (by cases q)⟩
theorem JS.same {i t : Nat} {v : Value} (h : JS z X W s s1 s2 p st d u w) (hi : (decide (i = 1) || decide (i = 3) || decide (i = 4) || decide (i = 5) || decide (t = 5) || decide (t = 7) || decide (t = 3) || decide (t = 8)) = false) : JS z X W s s1 s2 p st (upd d i) (updv (some t) u v) w := by
  simp only [Bool.or_eq_false_iff, decide_eq_false_iff_not] at hi
  obtain ⟨⟨⟨⟨⟨⟨⟨h1, h2⟩, h3⟩, h4⟩, h5⟩, h6⟩, h7⟩, h8⟩ := hi
  have a1 : upd d i 1 = d 1 := if_neg (fun e => h1 e.symm)
  have a3 : upd d i 3 = d 3 := if_neg (fun e => h2 e.symm)
  have a4 : upd d i 4 = d 4 := if_neg (fun e => h3 e.symm)
  have a5 : upd d i 5 = d 5 := if_neg (fun e => h4 e.symm)
  have b5 : updv (some t) u v 5 = u 5 := if_neg (fun e => h5 e.symm)
  have b7 : updv (some t) u v 7 = u 7 := if_neg (fun e => h6 e.symm)
  have b3 : updv (some t) u v 3 = u 3 := if_neg (fun e => h7 e.symm)
  have b8 : updv (some t) u v 8 = u 8 := if_neg (fun e => h8 e.symm)
  exact ⟨h.le, h.hX, by rw [a1]; exact h.a, by rw [a1, b5]; exact h.b, by rw [a1, a3]; exact h.c, by rw [a3, b7]; exact h.e, by rw [a5, b3, a3, b7]; exact h.f, by rw [a4, a3, b8, b7]; exact h.g⟩
theorem JS.num (h : JS z X W s s1 s2 p st d u w) (h3 : d 3 = false) (h4 : d 4 = false) (hR : Rdr w' X s1) (hK : Kq (fun k => k = X) w w') : JS z X W s s1 s2 p st (upd d 1) (updv (some 5) u (.int .i64 p)) w' := by
  refine ⟨Nat.le_trans h.le hK.size, h.hX, fun q => (by cases q), fun _ => rfl, fun _ _ => hR, fun q => ?_, fun q => ?_, fun q => ?_⟩
  · have : d 3 = true := q
    rw [h3] at this; cases this
  · obtain ⟨D, h1, h2, h5, h6⟩ := h.f q
    exact ⟨D, h1, hK.box (fun e => by have := h.hX; omega) h2, h5, h6⟩
  · have : d 4 = true := q
    rw [h4] at this; cases this
theorem JS.take {v : Value} (h : JS z X W s s1 s2 p st d u w) (h4 : d 4 = false) (hR : Rdr w' X s2) (hS : SlB w' v st) (hv : ∀ k, v.ownBlock = some k → w.heap.size ≤ k ∧ k < w'.heap.size) (hK : Kq (fun k => k = X) w w') (h1 : d 1 = true) : JS z X W s s1 s2 p st (upd d 3) (updv (some 7) u v) w' := by
  refine ⟨Nat.le_trans h.le hK.size, h.hX, fun q => ?_, h.b, fun _ q => (by cases q), fun _ => ⟨hR, hS, fun k hk => ⟨Nat.le_trans h.le (hv k hk).1, (hv k hk).2⟩⟩, fun q => ?_, fun q => ?_⟩
  · have : d 1 = false := q
    rw [h1] at this; cases this
  · obtain ⟨D, e1, e2, e5, e6⟩ := h.f q
    exact ⟨D, e1, hK.box (fun e => by have := h.hX; omega) e2, e5, fun _ q => by have := (hv D q).1; have := e2.lt; omega⟩
  · have : d 4 = true := q
    rw [h4] at this; cases this
theorem JS.bld (h : JS z X W s s1 s2 p st d u w) (h3 : d 3 = true) {v : Value} (hv : v = .agg #[.int .i64 p, u 7, .slice none 0 0]) : JS z X W s s1 s2 p st (upd d 4) (updv (some 8) u v) w :=
  ⟨h.le, h.hX, h.a, h.b, h.c, h.e, h.f, fun _ => ⟨h3, hv⟩⟩
theorem JS.make (h : JS z X W s s1 s2 p st d u w) (e : TypeId) (hz : z ≠ []) : JS z X W s s1 s2 p st (upd d 5) (updv (some 3) u (.pointer (some ⟨w.heap.size, 0, none⟩))) (w.alloc (.cells z.toArray e)) := by
  have hE := ext_alloc w (.cells z.toArray e)
  have hs : w.heap.size < (w.alloc (.cells z.toArray e)).heap.size := by rw [World.size_alloc]; omega
  refine ⟨Nat.le_trans h.le hE.size, h.hX, fun q => (h.a q).ext hE, h.b, fun q q2 => (h.c q q2).ext hE, fun q => ?_, fun _ => ⟨w.heap.size, rfl, BoxC.box w e hz, h.le, fun q r => ?_⟩, h.g⟩
  · obtain ⟨e1, e2, e3⟩ := h.e q
    exact ⟨e1.ext hE, e2.ext hE, fun k hk => ⟨(e3 k hk).1, by have := (e3 k hk).2; omega⟩⟩
  · have := ((h.e q).2.2 _ r).2
    omega
end
end Go.Proofs.Bl
namespace Go.Proofs.YtmmolapkddbibaaDoor
open Go Go.RowKit Go.Proofs

set_option maxRecDepth 100000 in
set_option maxHeartbeats 2000000 in
theorem rest4_any (X D q1 B : Nat) (sa : Bl.Rst) (cs : List Value) (vr : Value) (M : List (List Int)) (w : World) (hC : Bl.C0 (Bl.ints .u8) 32 Bl.OkT B X D 2 (cs.set 2 vr) vr M sa w) (h1 : w.cell? ⟨q1, 0, none⟩ = some (.pointer (some ⟨X, 0, none⟩))) (hXY : X < D) (hY : D < B) (_n1 : q1 < B ∧ q1 ≠ X) (hM : M.length ≤ 100000) :
    Calls Tryd.prog 87 #[.pointer (some ⟨q1, 0, none⟩), .pointer (some ⟨D, 0, none⟩)] w fun e w' => e = .returned (.tuple #[]) ∧ (∃ v', Bl.GP (Bl.ints .u8) 32 Bl.OkT B w' D 2 (cs.set 2 v') v' (M ++ (Bl.paT sa).1)) ∧ Bl.Rdr w' X (Bl.paT sa).2 ∧ Bl.Kq (fun k => k = X ∨ k = D ∨ B ≤ k) w w' := by
  have HT := Bl.hid (rdtake_full X 32 sa w hC.1 (by decide) (by decide))
  have HC := Bl.hid hC
  have Hn : Hid (X < B ∧ ¬ (X = D) ∧ ¬ (B ≤ D) ∧ ¬ (D = X)) := Bl.hid (by omega)
  have Hm : Hid (M.length + 1 ≤ maxLen ∧ (M.length + 1) * 32 ≤ 140737488355328) := Bl.hid (by unfold maxLen; omega)
  have Hby := Bl.hid (Bl.tkT_byt (n := 32) hC.1.by').1
  have hBw : B ≤ w.heap.size := hC.2.2
  clear hC
  by_cases hy : (Bl.tkT 32 sa).1 = []
  · rw [Bl.paT_nil hy]
    have Hy := Bl.hid hy
    clear hy
    go_enter Tryd.func87, Tryd.ntmps87
    go_wp2_with fail
    refine HT.out.mono ?_
    rintro e w2 ⟨v', rfl, _, _, hR, hK, hv⟩
    obtain rfl := hv Hy.out
    have HR := Bl.hid hR
    have HK := Bl.hid hK
    clear hR hK hv
    go_wp2_with fail
    go_end0
    refine ⟨rfl, ⟨vr, ?_⟩, HR.out, HK.out.mono fun k _ hk => .inl hk⟩
    rw [List.append_nil]
    exact HC.out.2.1.kept Bl.stab_okT HK.out Hn.out.2.2.2 (fun b hb q => by have := Hn.out.1; omega)
  · rw [Bl.paT_one hy]
    have hl := Bl.tk_32 hy
    obtain ⟨y, hyy⟩ : ∃ y, y = (Bl.tkT 32 sa).1 := ⟨_, rfl⟩
    obtain ⟨s2, hs2⟩ : ∃ s2, s2 = (Bl.tkT 32 sa).2 := ⟨_, rfl⟩
    rw [← hyy] at HT hl Hby ⊢
    rw [← hs2] at HT ⊢
    have Hl := Bl.hid hl
    clear hy hyy hs2 hl
    go_enter Tryd.func87, Tryd.ntmps87
    go_wp2_with fail
    refine HT.out.mono ?_
    rintro e w2 ⟨v', rfl, ⟨p, c, hf, hrd⟩, hv, hR, hK, _⟩
    obtain ⟨g, o, c2, hf2, _, hc2, hc3, hrg, _⟩ := Bl.Rd.pos hrd (by rw [Hl.out]; decide)
    rw [Hl.out] at hf hf2
    rw [hf] at hf2
    injection hf2 with hf2 _ hf3
    subst hf2 hf3 hf
    have hg := hv g rfl
    have HR := Bl.hid hR
    have HK := Bl.hid hK
    have Hrg := Bl.hid hrg
    have HC2 : Hid (Bl.C0 (Bl.ints .u8) 32 Bl.OkT B X D 2 (cs.set 2 vr) vr M s2 w2) := Bl.hid ⟨hR, HC.out.2.1.kept Bl.stab_okT hK Hn.out.2.2.2 (fun b hb q => by have := Hn.out.1; omega), Nat.le_trans hBw hK.size⟩
    have hD2 := HC2.out.2.1.cell
    have Hq : Hid (∀ w3, Bl.Kq (fun k => k = X ∨ B ≤ k) w2 w3 → w3.cell? ⟨D, 2, none⟩ = some vr) := Bl.hid fun w3 h => h.cell (by have := Hn.out; omega) hD2
    unfold maxLen at hc2
    clear hrd hv hR hK hrg hD2 hg hc3
    go_wp2_with fail
    apply Bl.wp_region_evK (Bl.Kq (fun k => k = X ∨ B ≤ k)) (Bl.Chn 4 5 6 11 12 13 (Bl.P0 B X D (cs.set 2 vr) vr M s2 g o y) (Bl.C1 (Bl.ints .u8) 32 Bl.OkT B X D 2 (cs.set 2 vr) vr M (fun z => z = y) s2) (Bl.C2 (Bl.ints .u8) 32 Bl.OkT B X D 2 (cs.set 2 vr) vr M (fun z => z = y) s2) (Bl.C3 (Bl.ints .u8) 32 Bl.OkT B X D 2 (cs.set 2 vr) vr M (fun z => z = y) s2)) 8 [7, 8, 9, 10, 11, 12, 13, 14] [Bl.eqv _, Bl.eqv _, Bl.eqv _, Bl.eqv _, Bl.anyv, Bl.anyv, Bl.anyv, Bl.eqv _] (fun w => Bl.Kq.refl w) (fun a b c h k => Bl.Kq.trans h k) (by kernel_rfl) (by kernel_rfl) (by kernel_rfl) (by kernel_rfl)
    case hsteps =>
      refine ⟨?_, ?_, ?_, ?_, ?_, ?_, ?_, ?_, trivial⟩
      all_goals
        intro d ev w1 hext HJd Hanc Hdes hni hb hd
        replace Hanc := Bl.hid Hanc
        replace HJd := Bl.hid HJd
        replace Hdes := Bl.hid Hdes
        replace hni := Bl.hid hni
        have e1 := hb 1 (by decide)
        have e2 := hb 2 (by decide)
        clear hb
        simp only [Array.getD_eq_getD_getElem?, List.getElem?_toArray, List.getElem?_cons_succ, List.getElem?_cons_zero, Option.getD_some] at e1 e2
        simp only [Bl.DepsE2, List.getElem?_cons_succ, List.getElem?_cons_zero, Option.bind_some, List.getD_cons_succ, List.getD_cons_zero, Bl.eqv, and_true] at hd
        have c7 := Hq.out _ hext
        rw [if_pos (rfl : Region.wanted _ _ = true)]
        first
        | ((with_reducible refine Bl.goodX_load (v := .agg (Bl.ints .u8 y).toArray) (fun w => Bl.Kq.refl w) ?_ (Bl.load_ints (P := Tryd.prog) (ty := 70) (HJd.out.a hni.out).r Tryd.underlying70 (by kernel_rfl) Hl.out) ?_); exact (by first | exact hd | exact hd.2 | exact hd.1.2 | exact hd.1.1.2 | exact hd.1.1.1.2 | exact hd.1.1.1.1.2 | exact hd.1.1.1.1.1.2 | exact hd.1.1.1.1.1.1.2 | exact hd.1.1.1.1.1.1.1.2 | exact hd.1.1.1.1.1.1.1.1.2 | exact hd.1.1.1.1.1.1.1.1.1.2 | exact hd.1.1.1.1.1.1.1.1.1.1.2 | exact hd.1.1.1.1.1.1.1.1.1.1.1.2 | exact hd.1.1.1.1.1.1.1.1.1.1.1.1.2 | exact hd.1.1.1.1.1.1.1.1.1.1.1.1.1.2 | exact hd.1 | exact hd.1.1 | exact hd.1.1.1 | exact hd.1.1.1.1 | exact hd.1.1.1.1.1 | exact hd.1.1.1.1.1.1 | exact hd.1.1.1.1.1.1.1 | exact hd.1.1.1.1.1.1.1.1 | exact hd.1.1.1.1.1.1.1.1.1 | exact hd.1.1.1.1.1.1.1.1.1.1 | exact hd.1.1.1.1.1.1.1.1.1.1.1 | exact hd.1.1.1.1.1.1.1.1.1.1.1.1 | exact hd.1.1.1.1.1.1.1.1.1.1.1.1.1 | exact hd.2.1 | exact hd.2.2.1 | exact hd.2.2.2.1 | exact hd.2.2.2.2.1 | exact hd.2.2.2.2.2.1 | exact hd.2.2.2.2.2.2.1 | exact hd.2.2.2.2.2.2.2.1 | exact hd.2.2.2.2.2.2.2.2.1 | exact hd.2.2.2.2.2.2.2.2.2.1 | exact hd.2.2.2.2.2.2.2.2.2.2.1 | exact hd.2.2.2.2.2.2.2.2.2.2.2.1 | exact hd.2.2.2.2.2.2.2.2.2.2.2.2.1 | exact hd.2.2.2.2.2.2.2.2.2.2.2.2.2.1); exact ⟨trivial, Bl.Chn.call (by decide) (Hdes.out 5 (by kernel_rfl)) (Hdes.out 6 (by kernel_rfl)) (Bl.C0.c1 (y := y) (Q := fun _ => False) Bl.stab_okT (HJd.out.a hni.out).c (Bl.Kq.refl _) (fun q => q) (fun _ _ q => q) (HJd.out.a hni.out).c.1 rfl (Bl.cells_agg _) (by rw [Bl.ints_length, Hl.out]) (Bl.ints_one _ _) trivial)⟩) | ((with_reducible refine Bl.goodX_buildV (v := ev 11) tDig (by decide) ?_ (HJd.out.b (Hanc.out 4 (by kernel_rfl)) hni.out).size ?_); rfl; exact ⟨Bl.Kq.of_ext (Bl.ext_alloc _ _), trivial, Bl.Chn.bld (by decide) (Hanc.out 4 (by kernel_rfl)) (Hdes.out 6 (by kernel_rfl)) ((HJd.out.b (Hanc.out 4 (by kernel_rfl)) hni.out).c2 Bl.stab_okT _)⟩) | ((with_reducible refine Bl.goodX_c3 tDig Bl.stab_okT Hn.out.1 hXY (HJd.out.c (Hanc.out 5 (by kernel_rfl)) hni.out) ?_ ?_ Hm.out.1 Hm.out.2 ?_); rfl; exact (by first | exact hd | exact hd.2 | exact hd.1.2 | exact hd.1.1.2 | exact hd.1.1.1.2 | exact hd.1.1.1.1.2 | exact hd.1.1.1.1.1.2 | exact hd.1.1.1.1.1.1.2 | exact hd.1.1.1.1.1.1.1.2 | exact hd.1.1.1.1.1.1.1.1.2 | exact hd.1.1.1.1.1.1.1.1.1.2 | exact hd.1.1.1.1.1.1.1.1.1.1.2 | exact hd.1.1.1.1.1.1.1.1.1.1.1.2 | exact hd.1.1.1.1.1.1.1.1.1.1.1.1.2 | exact hd.1.1.1.1.1.1.1.1.1.1.1.1.1.2 | exact hd.1 | exact hd.1.1 | exact hd.1.1.1 | exact hd.1.1.1.1 | exact hd.1.1.1.1.1 | exact hd.1.1.1.1.1.1 | exact hd.1.1.1.1.1.1.1 | exact hd.1.1.1.1.1.1.1.1 | exact hd.1.1.1.1.1.1.1.1.1 | exact hd.1.1.1.1.1.1.1.1.1.1 | exact hd.1.1.1.1.1.1.1.1.1.1.1 | exact hd.1.1.1.1.1.1.1.1.1.1.1.1 | exact hd.1.1.1.1.1.1.1.1.1.1.1.1.1 | exact hd.2.1 | exact hd.2.2.1 | exact hd.2.2.2.1 | exact hd.2.2.2.2.1 | exact hd.2.2.2.2.2.1 | exact hd.2.2.2.2.2.2.1 | exact hd.2.2.2.2.2.2.2.1 | exact hd.2.2.2.2.2.2.2.2.1 | exact hd.2.2.2.2.2.2.2.2.2.1 | exact hd.2.2.2.2.2.2.2.2.2.2.1 | exact hd.2.2.2.2.2.2.2.2.2.2.2.1 | exact hd.2.2.2.2.2.2.2.2.2.2.2.2.1 | exact hd.2.2.2.2.2.2.2.2.2.2.2.2.2.1); exact fun v' w' k1 k2 => ⟨k1, trivial, Bl.Chn.app (by decide) (Hanc.out 4 (by kernel_rfl)) (Hanc.out 5 (by kernel_rfl)) k2⟩)
        | (go_simp; first | exact ⟨Bl.Kq.refl _, rfl, HJd.out.same (by decide)⟩ | exact ⟨Below.refl _ _, rfl, Bl.HJ.same (by decide) HJd.out⟩)
    case hmono => exact ⟨Bl.monoR_eqv _, Bl.monoR_eqv _, Bl.monoR_eqv _, Bl.monoR_eqv _, Bl.monoR_anyv, Bl.monoR_anyv, Bl.monoR_anyv, Bl.monoR_eqv _, trivial⟩
    case hR0 => exact Bl.Kq.drew _
    case hend =>
      intro u w1 hext hJ hend
      simp only [Bl.EndE, List.getElem?_cons_succ, List.getElem?_cons_zero, Option.bind_some, List.getD_cons_succ, List.getD_cons_zero, Bl.eqv, true_and] at hend
      simp only [Bl.fillAct, List.setIfInBounds_toArray, List.set_cons_succ, List.set_cons_zero, List.drop_succ_cons, List.drop_zero, hend]
      obtain ⟨y', p9, c9, hu, hp, hcell, hfz, hG, hR⟩ := hJ.d rfl
      subst hp
      have HG := Bl.hid hG
      have HR9 := Bl.hid hR
      have HK9 := Bl.hid hext
      rw [hu] at HG HR9
      simp only [hu]
      clear hG hR hext hend hJ hu
      go_wp2_with fail
      go_end0
      refine ⟨rfl, ⟨.slice p9 (M.length + 1) c9, ?_⟩, HR9.out, ((HK.out.mono fun k _ hk => .inl hk).trans (HK9.out.mono fun k _ hk => hk.imp id .inr)).setCell ⟨D, 2, none⟩ (.inr (.inl rfl)) _⟩
      have h := HG.out
      rw [List.set_set] at h
      exact h
    case hJ0 => exact Bl.Chn.start (by have h := HC2.out; exact ⟨⟨h.1.kept (Q := fun _ => False) (Bl.Kq.drew _) (fun _ _ q => q), h.2.1.kept (Q := fun _ => False) Bl.stab_okT (Bl.Kq.drew _) (fun q => q) (fun _ _ q => q), h.2.2⟩, Hrg.out⟩)

theorem buildShown (p : Int) (q : Option Addr) (n c : Nat) (w : World) : (Instr.build 65 #[(0, .int .i64 p), (1, .slice q n c)]).run Tryd.prog w = .ok (.agg #[.int .i64 p, .slice q n c, .slice none 0 0]) w := run_build w _ _ _ (by kernel_rfl)

set_option maxRecDepth 100000 in
set_option maxHeartbeats 4000000 in
theorem rdshown_any (X : Nat) (s : Bl.Rst) (w : World) (h : Bl.Rdr w X s) :
    Calls Tryd.prog 82 #[.pointer (some ⟨X, 0, none⟩)] w fun e w' => ∃ y : Bl.Sv, e = .returned (.agg (Bl.cS y).toArray) ∧ Bl.plS y = (Bl.shT s).1 ∧ Bl.OkF (fun b => w.heap.size ≤ b) w' y ∧ Bl.Rdr w' X (Bl.shT s).2 ∧ Bl.Kq (fun k => k = X) w w' := by
  have hX := h.lt
  have hE0 := Bl.ext_alloc w (.cells #[.pointer (some ⟨X, 0, none⟩)] 94)
  have hE1 := hE0.trans (Bl.ext_alloc _ (.cells Bl.zSh 65))
  have hs0 : (w.alloc (.cells #[.pointer (some ⟨X, 0, none⟩)] 94)).heap.size = w.heap.size + 1 := World.size_alloc _ _
  obtain ⟨W1, hW1⟩ : ∃ W1, W1 = (w.alloc (.cells #[.pointer (some ⟨X, 0, none⟩)] 94)).alloc (.cells Bl.zSh 65) := ⟨_, rfl⟩
  have hs1 : W1.heap.size = w.heap.size + 1 + 1 := by rw [hW1, World.size_alloc, hs0]
  have hq1 : W1.cell? ⟨w.heap.size, 0, none⟩ = some (.pointer (some ⟨X, 0, none⟩)) := by
    rw [hW1]
    have h0 : (w.alloc (.cells #[.pointer (some ⟨X, 0, none⟩)] 94)).cell? ⟨w.heap.size, 0, none⟩ = some (.pointer (some ⟨X, 0, none⟩)) := by rw [World.cell?_alloc_new]; rfl
    exact ((Bl.bcell (Bl.ext_alloc _ _)).1 _ _ (World.block_lt_of_cell? _ _ h0)).trans h0
  have hBR : Bl.BoxC W1 (w.heap.size + 1) Bl.zSh.toList := by
    rw [hW1]
    have h0 := Bl.BoxC.box (w.alloc (.cells #[.pointer (some ⟨X, 0, none⟩)] 94)) 65 (cs := Bl.zSh.toList) (fun q => by cases q)
    rw [hs0] at h0
    exact h0
  rw [← hW1] at hE1
  have HE1 := Bl.hid hE1
  have HBR := Bl.hid hBR
  have HR1 := Bl.hid (h.ext hE1)
  have Hs1 := Bl.hid hs1
  have HXW : Hid (X < w.heap.size ∧ X < W1.heap.size) := Bl.hid (by omega)
  have Hq : Hid (∀ w2, Bl.Kq (fun k => k = X) W1 w2 → w2.cell? ⟨w.heap.size, 0, none⟩ = some (.pointer (some ⟨X, 0, none⟩))) := Bl.hid fun w2 hk => hk.cell (fun q => by omega) hq1
  have HN1 : Hid (∀ w2, Bl.Rdr w2 X s → Calls Tryd.prog 49 #[.pointer (some ⟨X, 0, none⟩), .int .i64 2] w2 fun e w' => e = .returned (.int .i64 (Bl.nuT 2 s).1) ∧ Bl.Rdr w' X (Bl.nuT 2 s).2 ∧ Bl.Kq (fun k => k = X) w2 w') := Bl.hid fun w2 hr => rdnum_any X 2 s w2 hr (by decide) (by decide)
  have hT : Bl.shT s = Bl.shT s := rfl
  unfold Bl.shT at hT ⊢
  clear hT
  have Hb1 := Bl.hid (Bl.tkT_byt (n := 2) (s := s) h.by').2
  obtain ⟨p, hp⟩ : ∃ p, p = (Bl.nuT 2 s).1 := ⟨_, rfl⟩
  obtain ⟨s1, hs1'⟩ : ∃ s1, s1 = (Bl.nuT 2 s).2 := ⟨_, rfl⟩
  rw [← hp, ← hs1'] at HN1
  simp only [← hp, ← hs1']
  have Hby1 : Hid (Bl.Byt s1.2) := Bl.hid (by rw [hs1']; exact Hb1.out)
  have HTk : Hid (∀ w2, Bl.Rdr w2 X s1 → Calls Tryd.prog 77 #[.pointer (some ⟨X, 0, none⟩), .int .i64 16] w2 fun e w' => ∃ v', e = .returned v' ∧ Bl.SlB w' v' (Bl.tkT 16 s1).1 ∧ (∀ k, v'.ownBlock = some k → w2.heap.size ≤ k ∧ k < w'.heap.size) ∧ Bl.Rdr w' X (Bl.tkT 16 s1).2 ∧ Bl.Kq (fun k => k = X) w2 w') := Bl.hid fun w2 hr => (rdtake_full X 16 s1 w2 hr (by decide) (by decide)).mono fun _ _ ⟨v', g0, g1, g2, g3, g4, _⟩ => ⟨v', g0, g1, g2, g3, g4⟩
  have Hb2 := Bl.hid (Bl.tkT_byt (n := 16) (s := s1) Hby1.out)
  obtain ⟨st, hst⟩ : ∃ st, st = (Bl.tkT 16 s1).1 := ⟨_, rfl⟩
  obtain ⟨s2, hs2⟩ : ∃ s2, s2 = (Bl.tkT 16 s1).2 := ⟨_, rfl⟩
  rw [← hst, ← hs2] at HTk Hb2
  simp only [← hst, ← hs2]
  have HN3 : Hid (∀ w2, Bl.Rdr w2 X s2 → Calls Tryd.prog 49 #[.pointer (some ⟨X, 0, none⟩), .int .i64 1] w2 fun e w' => e = .returned (.int .i64 (Bl.nuT 1 s2).1) ∧ Bl.Rdr w' X (Bl.nuT 1 s2).2 ∧ Bl.Kq (fun k => k = X) w2 w') := Bl.hid fun w2 hr => rdnum_any X 1 s2 w2 hr (by decide) (by decide)
  have hn := Bl.nu1_le (s := s2) Hb2.out.2
  obtain ⟨cI, hcI⟩ : ∃ cI, cI = (Bl.nuT 1 s2).1 := ⟨_, rfl⟩
  obtain ⟨s3, hs3⟩ : ∃ s3, s3 = (Bl.nuT 1 s2).2 := ⟨_, rfl⟩
  rw [← hcI] at hn HN3
  rw [← hs3] at HN3
  simp only [← hcI, ← hs3]
  obtain ⟨n, rfl⟩ := Int.eq_ofNat_of_zero_le hn.1
  rw [Int.toNat_natCast]
  have Hn : Hid (n ≤ 255) := Bl.hid (by omega)
  obtain ⟨ds, hds⟩ : ∃ ds, ds = (Bl.eaT Bl.paT n s3).1 := ⟨_, rfl⟩
  obtain ⟨s4, hs4⟩ : ∃ s4, s4 = (Bl.eaT Bl.paT n s3).2 := ⟨_, rfl⟩
  simp only [← hds, ← hs4]
  have Hds := Bl.hid (And.intro hds hs4)
  clear h hX hE0 hE1 hs0 hq1 hBR hs1 hp hs1' hst hs2 hcI hs3 hds hs4 hn Hb1
  go_enter Tryd.func82, Tryd.ntmps82
  go_wp2_with fail
  rw [← hW1]
  clear hW1
  apply Bl.wp_region_evK (Bl.Kq (fun k => k = X)) (Bl.JS Bl.zSh.toList X W1.heap.size s s1 s2 p st) 6 [4, 5, 6, 7, 8, 3] [Bl.eqv _, Bl.anyv, Bl.eqv _, Bl.anyv, Bl.anyv, Bl.anyv] (fun w => Bl.Kq.refl w) (fun a b c h k => Bl.Kq.trans h k) (by kernel_rfl) (by kernel_rfl) (by kernel_rfl) (by kernel_rfl)
  case hsteps =>
    refine ⟨?_, ?_, ?_, ?_, ?_, ?_, trivial⟩
    all_goals
      intro d ev w1 hext HJd Hanc Hdes hni hb hd
      replace Hanc := Bl.hid Hanc
      replace HJd := Bl.hid HJd
      replace Hdes := Bl.hid Hdes
      replace hni := Bl.hid hni
      have e1 := hb 1 (by decide)
      clear hb
      simp only [Array.getD_eq_getD_getElem?, List.getElem?_toArray, List.getElem?_cons_succ, List.getElem?_cons_zero, Option.getD_some] at e1
      simp only [Bl.DepsE2, List.getElem?_cons_succ, List.getElem?_cons_zero, Option.bind_some, List.getD_cons_succ, List.getD_cons_zero, Bl.eqv, and_true] at hd
      have c0 := Hq.out _ hext
      rw [if_pos (rfl : Region.wanted _ _ = true)]
      first
      | (obtain ⟨_, ⟨p9, c9, hv9, _⟩, _⟩ := HJd.out.e (Hanc.out 3 (by kernel_rfl)); have hbld := buildShown p p9 st.length c9 w1; rw [← hv9] at hbld; (with_reducible refine Bl.goodX_bldS (fun w => Bl.Kq.refl w) ?_ ?_ hbld ?_); exact HJd.out.b (Hanc.out 1 (by kernel_rfl)); rfl; exact ⟨trivial, HJd.out.bld (Hanc.out 3 (by kernel_rfl)) rfl⟩)
      | (go_simp; first | exact ⟨Bl.Kq.refl _, rfl, HJd.out.same (by decide)⟩ | (go_at_call 49; (with_reducible refine (HN1.out w1 (HJd.out.a hni.out)).mono ?_); rintro e w2 ⟨rfl, k1, k2⟩; exact ⟨_, rfl, k2, trivial, HJd.out.num (Hdes.out 3 (by kernel_rfl)) (Hdes.out 4 (by kernel_rfl)) k1 k2⟩) | (go_at_call 77; (with_reducible refine (HTk.out w1 (HJd.out.c (Hanc.out 1 (by kernel_rfl)) hni.out)).mono ?_); rintro e w2 ⟨v9, rfl, k1, k2, k3, k4⟩; exact ⟨_, rfl, k4, trivial, HJd.out.take (Hdes.out 4 (by kernel_rfl)) k3 k1 k2 k4 (Hanc.out 1 (by kernel_rfl))⟩) | exact ⟨Bl.Kq.of_ext (Bl.ext_alloc _ _), trivial, HJd.out.make _ (fun q => by cases q)⟩ | exact ⟨Bl.Kq.of_ext (Bl.ext_alloc _ _), HJd.out.make _ (fun q => by cases q)⟩ | exact ⟨Below.refl _ _, rfl, Bl.HJ.same (by decide) HJd.out⟩)
  case hmono => exact ⟨Bl.monoR_eqv _, Bl.monoR_anyv, Bl.monoR_eqv _, Bl.monoR_anyv, Bl.monoR_anyv, Bl.monoR_anyv, trivial⟩
  case hR0 => exact Bl.Kq.drew _
  case hend =>
    intro u w1 hext hJ hend
    simp only [Bl.EndE, List.getElem?_cons_succ, List.getElem?_cons_zero, Option.bind_some, List.getD_cons_succ, List.getD_cons_zero, Bl.eqv, true_and] at hend
    simp only [Bl.fillAct, List.setIfInBounds_toArray, List.set_cons_succ, List.set_cons_zero, List.drop_succ_cons, List.drop_zero, hend]
    obtain ⟨D, hD3, hBD, hDW, hDs⟩ := hJ.f rfl
    obtain ⟨hR2, hSl, hSo⟩ := hJ.e rfl
    obtain ⟨_, hu8⟩ := hJ.g rfl
    have hDs := hDs rfl
    obtain ⟨vst, hvst⟩ : ∃ vst, vst = u 7 := ⟨_, rfl⟩
    rw [← hvst] at hSl hSo hDs hu8
    rw [hD3, hu8]
    simp only [← hvst]
    obtain ⟨p9, c9, hv9, hrd9⟩ := hSl
    have HSt : Hid (Bl.RdsF (fun b => W1.heap.size ≤ b ∧ b ≠ D ∧ b < w1.heap.size) w1 vst st.length (Bl.ints .u8 st)) := Bl.hid (Bl.RdsF.of_rds hrd9 fun b hb _ => ⟨(hSo b hb).1, fun e => hDs (by rw [hb, e]), (hSo b hb).2⟩)
    subst hv9
    have HR2 := Bl.hid hR2
    have HK1 := Bl.hid hext
    have HDW : Hid (W1.heap.size ≤ D ∧ D < w1.heap.size ∧ X < D) := Bl.hid ⟨hDW, hBD.lt, by have := HXW.out.2; omega⟩
    have hone : ∀ c ∈ ([.int .i64 p, .slice p9 st.length c9, .slice none 0 0] : List Value), c.oneCell' = true := Bl.cS3_one ⟨_, _, _, rfl⟩ Bl.isSl_nil
    have Hst := Bl.hid (hBD.store (P := Tryd.prog) (cs' := [.int .i64 p, .slice p9 st.length c9, .slice none 0 0]) rfl hone (ty := 65) (by kernel_rfl))
    have HBD := Bl.hid (hBD.set (cs' := [.int .i64 p, .slice p9 st.length c9, .slice none 0 0]) rfl)
    have HKd : Hid (Bl.Kq (fun k => k = D) w1 (w1.setCells D 0 [.int .i64 p, .slice p9 st.length c9, .slice none 0 0])) := Bl.hid ((Bl.Kq.refl w1).setCells (Q := fun k => k = D) rfl 0 _)
    clear hext hJ hend hD3 hBD hDW hDs hR2 hSo hu8 hvst hrd9 hone
    go_wp2_with (with_reducible refine Bl.stop_store (ty := 65) ?_)
    refine Bl.go_on ?_
    refine Bl.wpL_store0 rfl rfl Hst.out ?_
    obtain ⟨W2, hW2⟩ : ∃ W2, W2 = w1.setCells D 0 [.int .i64 p, .slice p9 st.length c9, .slice none 0 0] := ⟨_, rfl⟩
    rw [← hW2] at HBD HKd ⊢
    have HR2' : Hid (Bl.Rdr W2 X s2) := Bl.hid (HR2.out.kept HKd.out fun i hi q => by have := HDW.out.2.2; omega)
    have HSt2 : Hid (Bl.RdsF (fun b => W1.heap.size ≤ b ∧ b ≠ D ∧ b < W2.heap.size) W2 (.slice p9 st.length c9) st.length (Bl.ints .u8 st)) := Bl.hid (HSt.out.kept fun b hb hl => ⟨⟨hb.1, hb.2.1, Nat.lt_of_lt_of_le hb.2.2 HKd.out.size⟩, HKd.out.block b hl hb.2.1⟩)
    have HKw : Hid (Bl.Kq (fun k => k = X ∨ W1.heap.size ≤ k) W1 W2) := Bl.hid ((HK1.out.mono fun k _ hk => .inl hk).trans (HKd.out.mono fun k _ hk => .inr (by have := HDW.out.1; omega)))
    have HDW2 : Hid (D < W2.heap.size) := Bl.hid HBD.out.lt
    have HBR2 : Hid (Bl.BoxC W2 (w.heap.size + 1) Bl.zSh.toList) := Bl.hid (HKw.out.box (by have := Hs1.out; have := HXW.out.1; omega) HBR.out)
    have hq2 : W2.cell? ⟨w.heap.size, 0, none⟩ = some (.pointer (some ⟨X, 0, none⟩)) := HKd.out.cell (by have := Hs1.out; have := HDW.out.1; omega) (Hq.out _ HK1.out)
    have Hq2 : Hid (∀ w2, Bl.Kq (fun k => k = X) W2 w2 → w2.cell? ⟨w.heap.size, 0, none⟩ = some (.pointer (some ⟨X, 0, none⟩))) := Bl.hid fun w2 hk => hk.cell (fun q => by have := HXW.out.1; omega) hq2
    clear hW2 Hst HSt HR2 HK1 Hq
    go_wp2_with fail
    apply Bl.wp_region_evK (Bl.Kq (fun k => k = X)) (Bl.HJ 2 (fun w' => Bl.Rdr w' X s2) (fun w' => Bl.Rdr w' X s3)) 4 [9, 10, 11, 12] [Bl.eqv _, Bl.eqv _, Bl.eqv _, Bl.eqv _] (fun w => Bl.Kq.refl w) (fun a b c h k => Bl.Kq.trans h k) (by kernel_rfl) (by kernel_rfl) (by kernel_rfl) (by kernel_rfl)
    case hsteps =>
      refine ⟨?_, ?_, ?_, ?_, trivial⟩
      all_goals
        intro d ev w1 hext HJd Hanc Hdes hni hb hd
        replace Hanc := Bl.hid Hanc
        replace HJd := Bl.hid HJd
        replace Hdes := Bl.hid Hdes
        replace hni := Bl.hid hni
        have e1 := hb 1 (by decide)
        have e3 := hb 3 (by decide)
        clear hb
        simp only [Array.getD_eq_getD_getElem?, List.getElem?_toArray, List.getElem?_cons_succ, List.getElem?_cons_zero, Option.getD_some] at e1 e3
        simp only [Bl.DepsE2, List.getElem?_cons_succ, List.getElem?_cons_zero, Option.bind_some, List.getD_cons_succ, List.getD_cons_zero, Bl.eqv, and_true] at hd
        have c0 := Hq2.out _ hext
        rw [if_pos (rfl : Region.wanted _ _ = true)]
        go_simp
        first | exact ⟨Bl.Kq.refl _, rfl, Bl.HJ.same (by decide) HJd.out⟩ | (go_at_call 49; (with_reducible refine (HN3.out w1 (Bl.HJ.get HJd.out hni.out)).mono ?_); rintro e w2 ⟨rfl, k1, k2⟩; exact ⟨_, rfl, k2, rfl, Bl.HJ.set k1⟩) | exact ⟨Below.refl _ _, rfl, Bl.HJ.same (by decide) HJd.out⟩
    case hmono => exact ⟨Bl.monoR_eqv _, Bl.monoR_eqv _, Bl.monoR_eqv _, Bl.monoR_eqv _, trivial⟩
    case hR0 => exact Bl.Kq.drew _
    case hend =>
      intro u w1 hext hJ hend
      simp only [Bl.EndE, List.getElem?_cons_succ, List.getElem?_cons_zero, Option.bind_some, List.getD_cons_succ, List.getD_cons_zero, Bl.eqv, true_and] at hend
      simp only [Bl.fillAct, List.setIfInBounds_toArray, List.set_cons_succ, List.set_cons_zero, List.drop_succ_cons, List.drop_zero, hend]
      have HR3 := Bl.hid (Bl.HJ.got hJ rfl)
      have HK3 := Bl.hid hext
      obtain ⟨W3, hW3⟩ : ∃ W3, W3 = w1 := ⟨_, rfl⟩
      rw [← hW3] at HR3 HK3 ⊢
      clear hext hJ hend hW3
      obtain ⟨B, hB⟩ : ∃ B, B = W3.heap.size := ⟨_, rfl⟩
      have HB := Bl.hid hB
      have HBl : Hid (W2.heap.size ≤ B) := Bl.hid (by rw [hB]; exact HK3.out.size)
      have HBD3 : Hid (Bl.BoxC W3 D [.int .i64 p, .slice p9 st.length c9, .slice none 0 0]) := Bl.hid (HK3.out.box (by have := HDW.out.2.2; omega) HBD.out)
      have hq3 := Hq2.out _ HK3.out
      obtain ⟨cs0, hcs0⟩ : ∃ cs0 : List Value, cs0 = [.int .i64 p, .slice p9 st.length c9, .slice none 0 0] := ⟨_, rfl⟩
      obtain ⟨I, hI⟩ : ∃ I : Nat → Bl.Rst → World → Prop, I = fun k s' wr => ∃ v M, Bl.GP (Bl.ints .u8) 32 Bl.OkT B wr D 2 (cs0.set 2 v) v M ∧ Bl.Rdr wr X s' ∧ M ++ (Bl.eaT Bl.paT (n - k) s').1 = ds ∧ (Bl.eaT Bl.paT (n - k) s').2 = s4 ∧ M.length ≤ k ∧ Bl.Dig M ∧ Bl.Kq (fun i => i = X ∨ i = D ∨ B ≤ i) W3 wr := ⟨_, rfl⟩
      have HI := Bl.hid hI
      have HEa := Bl.hid (each4_any I X w.heap.size D n (fun k s' wr hi => by
          rw [HI.out] at hi
          obtain ⟨v, M, _, h2, _⟩ := hi
          exact h2) (by have := Hn.out; omega) (fun k s' wr hk hsf hi => by
          rw [HI.out] at hi
          obtain ⟨v, M, g1, g2, g3, g4, g5, g6, g7⟩ := hi
          have e1 := Bl.eaT_step Bl.paT n k s' hk hsf
          rw [e1] at g3 g4
          refine (rest4_any X D w.heap.size B s' cs0 v M wr ⟨g2, g1, by have := g7.size; rw [HB.out]; exact this⟩ (g7.cell (by have := HXW.out.1; have := Hs1.out; have := HDW.out.1; have := HBl.out; have := HDW2.out; omega) hq3) HDW.out.2.2 (by have := HBl.out; have := HDW2.out; omega) (by have := HXW.out.1; have := Hs1.out; have := HDW.out.1; have := HBl.out; have := HDW2.out; omega) (by have := Hn.out; omega)).mono ?_
          rintro e w' ⟨rfl, ⟨v', r1⟩, r2, r3⟩
          refine ⟨rfl, (Bl.paT s').2, ?_⟩
          rw [HI.out]
          refine ⟨v', _, r1, r2, ?_, g4, ?_, ?_, g7.trans r3⟩
          · rw [List.append_assoc]; exact g3
          · have : (Bl.paT s').1.length ≤ 1 := by
              unfold Bl.paT; split <;> simp
            rw [List.length_append]; omega
          · refine g6.append ?_
            unfold Bl.paT
            split
            · exact Bl.Dig.nil
            · next hne => exact Bl.Dig.one (Bl.tk_32 hne) (Bl.tkT_byt g2.by').1) s3 W3 (by
          rw [HI.out]
          exact ⟨_, [], Bl.GP.start (by rw [hcs0]; exact HBD3.out) (by rw [hcs0]; rfl), HR3.out, by rw [List.nil_append]; exact Hds.out.1.symm, Hds.out.2.symm, Nat.zero_le _, Bl.Dig.nil, Bl.Kq.refl _⟩))
      have Hcs0 := Bl.hid hcs0
      clear hI hB hq2 hq3 hcs0 Hq2 HN1 HN3 HTk
      go_wp2_with fail
      refine HEa.out.mono ?_
      rintro e w4 ⟨rfl, k, s', hk, hi, hke⟩
      rw [HI.out] at hi
      obtain ⟨vp, M, g1, g2, g3, g4, g5, g6, g7⟩ := hi
      have hfin : (Bl.eaT Bl.paT (n - k) s') = ([], s') := by
        rcases hke with rfl | hs
        · rw [Nat.sub_self]; rfl
        · exact Bl.eaT_stop _ _ _ hs
      rw [hfin, List.append_nil] at g3
      rw [hfin] at g4
      have g4 : s' = s4 := g4
      subst g3 g4
      rw [Hcs0.out] at g1
      obtain ⟨pp, cp, hvp⟩ := g1.form
      have hbx : Bl.BoxC w4 D [.int .i64 p, .slice p9 st.length c9, vp] := g1.box
      have hpk := g1.own
      subst hvp
      have Hl4 := Bl.hid (hbx.load (P := Tryd.prog) Tryd.underlying65 rfl (by kernel_rfl))
      have HKz : Hid (Bl.Kq (fun i => i = X ∨ W2.heap.size ≤ i ∨ i = D) W2 w4) := Bl.hid ((HK3.out.mono fun _ _ h => .inl h).trans (g7.mono fun i _ hi => by
        rcases hi with h | h | h
        · exact .inl h
        · exact .inr (.inr h)
        · exact .inr (.inl (by have := HBl.out; omega))))
      have hBR4 : Bl.BoxC w4 (w.heap.size + 1) Bl.zSh.toList := HKz.out.box (by have := Hs1.out; have := HXW.out.1; have := HDW.out.1; have := HDW2.out; omega) HBR2.out
      have hone : ∀ c ∈ ([.int .i64 p, .slice p9 st.length c9, .slice pp M.length cp] : List Value), c.oneCell' = true := Bl.cS3_one ⟨_, _, _, rfl⟩ ⟨_, _, _, rfl⟩
      have Hst4 := Bl.hid (hBR4.store (P := Tryd.prog) (cs' := [.int .i64 p, .slice p9 st.length c9, .slice pp M.length cp]) rfl hone (ty := 65) (by kernel_rfl))
      have HBR5 := Bl.hid (hBR4.set (cs' := [.int .i64 p, .slice p9 st.length c9, .slice pp M.length cp]) rfl)
      have HK5 : Hid (Bl.Kq (fun i => i = w.heap.size + 1) w4 (w4.setCells (w.heap.size + 1) 0 [.int .i64 p, .slice p9 st.length c9, .slice pp M.length cp])) := Bl.hid ((Bl.Kq.refl w4).setCells (Q := fun i => i = w.heap.size + 1) rfl 0 _)
      have HG := Bl.hid (And.intro g2 (And.intro g6 hpk))
      have HSt4 : Hid (Bl.RdsF (fun b => W1.heap.size ≤ b) w4 (.slice p9 st.length c9) st.length (Bl.ints .u8 st)) := Bl.hid (HSt2.out.kept fun b hb hl => ⟨hb.1, HKz.out.block b hl (by have := HXW.out.2; omega)⟩)
      clear g1 g2 g4 g5 g6 g7 hfin hke hbx hpk hBR4 hone hk HI HEa
      go_wp2_with (with_reducible refine Bl.stop_load (ty := 65) ?_)
      refine Bl.go_on ?_
      refine Bl.wpL_load rfl Hl4.out ?_
      go_wp2_with (with_reducible refine Bl.stop_store (ty := 65) ?_)
      refine Bl.go_on ?_
      refine Bl.wpL_store0 rfl rfl Hst4.out ?_
      go_wp2_with fail
      refine bodyPost_ret (v := .agg ([.int .i64 p, .slice p9 st.length c9, .slice pp M.length cp] : List Value).toArray) (Bl.results_cell rfl rfl (HBR5.out.loadVar (P := Tryd.prog) Tryd.underlying65 rfl (by kernel_rfl))) rfl ⟨(p, (.slice p9 st.length c9, st), .slice pp M.length cp, M), rfl, rfl, ⟨?_, Hb2.out.1, ?_, HG.out.2.1⟩, HG.out.1.kept HK5.out (fun i hi q => by have := HXW.out.1; omega), ?_⟩
      · exact HSt4.out.kept fun b hb hl => ⟨by have := Hs1.out; omega, HK5.out.block b hl (by have := Hs1.out; omega)⟩
      · exact Bl.RdsF.of_rds (HK5.out.rds HG.out.2.2.rds fun k hk q => by have := (HG.out.2.2.block k hk).1; have := HBl.out; have := HDW2.out; have := HDW.out.1; have := Hs1.out; omega) fun b hb _ => by have := (HG.out.2.2.block b hb).1; have := HBl.out; have := HDW2.out; have := HDW.out.1; have := Hs1.out; omega
      · have hA : Bl.Kq (fun k => k = X ∨ w.heap.size ≤ k) w (w4.setCells (w.heap.size + 1) 0 [.int .i64 p, .slice p9 st.length c9, .slice pp M.length cp]) := (Bl.Kq.of_ext HE1.out).trans ((HKw.out.mono fun k _ hk => hk.imp id fun h => by have := Hs1.out; omega).trans ((HKz.out.mono fun k _ hk => by
          have h1 := HDW2.out
          have h2 := HDW.out.1
          have h3 := Hs1.out
          rcases hk with h | h | h
          · exact .inl h
          · exact .inr (by omega)
          · exact .inr (by omega)).trans (HK5.out.mono fun k _ hk => .inr (by omega))))
        exact hA.mono fun k hk q => by
          rcases q with q | q
          · exact q
          · omega
    case hJ0 => exact Bl.HJ.start (HR2'.out.kept (Q := fun _ => False) (Bl.Kq.drew _) (fun _ _ q => q))
  case hJ0 => exact Bl.JS.start (HR1.out.kept (Q := fun _ => False) (Bl.Kq.drew _) (fun _ _ q => q)) (Nat.le_refl _) HXW.out.2
end Go.Proofs.YtmmolapkddbibaaDoor

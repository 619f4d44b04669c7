/- Walk of the law ShelfRefuses. -/
import Derived.Test.YtglenbikdahgjaaDoorLet2b
import Derived.Test.YtglenbikdahgjaaDoorWShelf1
namespace Go.Proofs.YtglenbikdahgjaaDoor
open Go Go.RowKit Go.Proofs

set_option maxRecDepth 100000 in
set_option maxHeartbeats 4000000 in
theorem srefuses_all (v : Value) (l : Bl.LT) (code : Int) (w : World) (S : List Nat) (a : Nat → Addr) (hL : Bl.LtV w v l) (he : Errs S a w) (s1 : 1 ∈ S) (s3 : 3 ∈ S) (s4 : 4 ∈ S) (s7 : 7 ∈ S) (s8 : 8 ∈ S) :
    Calls Tryd.prog 3 #[v, .int .i64 code] w fun e w' => e = .returned (.bool true) ∧ Bl.Ext w w' := by
  have HL := Bl.hid hL
  have HAl : Hid (∀ w2, Bl.Ext w w2 → Calls Tryd.prog 5 #[] w2 fun e w' => e = .returned (.bool true) ∧ Bl.Ext w2 w') := Bl.hid fun w2 h2 => alive25 w2 S a (he.ext h2) s1 s3 s4 s7 s8
  obtain ⟨cs1, pa, sa, ba, L, rfl, ha⟩ := hL
  obtain rfl := ha.eq
  clear he ha
  obtain ⟨W0, hW0⟩ : ∃ W0, W0 = w.alloc (.cells (Bl.cL l pa sa ba).toArray 26) := ⟨_, rfl⟩
  have HE0 : Hid (Bl.Ext w W0) := Bl.hid (by rw [hW0]; exact Bl.ext_alloc _ _)
  have HBa : Hid (Bl.BoxC W0 w.heap.size (Bl.cL l pa sa ba)) := Bl.hid (by rw [hW0]; exact Bl.BoxC.box w 26 (Bl.cL_ne _ _ _ _))
  unfold Bl.cL at hW0
  show Calls Tryd.prog 3 #[.agg #[.int .i64 l.kind, .int .i64 l.id, .int .i64 l.obj, pa, sa, .int .i64 l.frm, .int .i64 l.cnt, ba, .int .i64 l.code], .int .i64 code] w _
  go_enter Tryd.func3, Tryd.ntmps3
  go_wp2_with fail
  rw [← hW0]
  clear hW0
  refine (HAl.out W0 HE0.out).mono ?_
  rintro e w1 ⟨rfl, hE1⟩
  have HE1 := Bl.hid (HE0.out.trans hE1)
  have HBa1 := Bl.hid (HBa.out.ext hE1)
  clear hE1 HBa HE0 HAl
  have Hl1 := Bl.hid (HBa1.out.load (P := Tryd.prog) Tryd.underlying26 rfl (by kernel_rfl))
  go_wp2_with (with_reducible refine Bl.stop_load (ty := 26) ?_)
  refine Bl.go_on ?_
  refine Bl.wpL_load rfl Hl1.out ?_
  go_wp2_with fail
  refine (long22_any _ l w1 (HL.out.ext HE1.out)).mono ?_
  rintro e w2 ⟨hor, hE2⟩
  have HE2 := Bl.hid (HE1.out.trans hE2)
  have HB2 := Bl.hid (HBa1.out.ext hE2)
  clear hE2 HBa1 HE1 Hl1
  rcases hor with rfl | ⟨rfl, hl1⟩
  · go_wp2_with fail
    go_ret
    exact ⟨rfl, HE2.out⟩
  clear hl1
  have HLd : Hid (∀ w3, Bl.Ext w2 w3 → (Instr.loadAt 26 (.pointer (some ⟨w.heap.size, 0, none⟩))).run Tryd.prog w3 = .ok (.agg (Bl.cL l pa sa ba).toArray) w3) := Bl.hid fun w3 h3 => (HB2.out.ext h3).load (P := Tryd.prog) Tryd.underlying26 rfl (by kernel_rfl)
  have HRf : Hid (∀ w3, Bl.Ext w2 w3 → Calls Tryd.prog 8 #[.agg (Bl.cL l pa sa ba).toArray, .int .i64 code] w3 fun e w' => e = .returned (.agg (Bl.cL (Bl.refL l code) Bl.nilV Bl.nilV Bl.nilV).toArray) ∧ Bl.Ext w3 w') := Bl.hid fun w3 h3 => refusal_any _ l code w3 (HL.out.ext (HE2.out.trans h3))
  have HSm : Hid (∀ w3, Bl.Ext w2 w3 → Calls Tryd.prog 7 #[.agg (Bl.cL (Bl.refL l code) Bl.nilV Bl.nilV Bl.nilV).toArray, .agg #[.int .i64 7, .int .i64 l.id, .int .i64 l.obj, .slice none 0 0, .slice none 0 0, .int .i64 0, .int .i64 0, .slice none 0 0, .int .i64 code]] w3 fun e w' => e = .returned (.bool true) ∧ Bl.Ext w3 w') := Bl.hid fun w3 h3 => by
    have h : Bl.LtV w3 (.agg (Bl.cL (Bl.refL l code) Bl.nilV Bl.nilV Bl.nilV).toArray) (Bl.refL l code) := ⟨_, _, _, _, [], rfl, Bl.LtC.refL w3 l code⟩
    have hs := lsame_any _ _ (Bl.refL l code) (Bl.refL l code) w3 h h
    have e : Bl.sameL (Bl.refL l code) (Bl.refL l code) = true := by unfold Bl.sameL; simp
    rw [e] at hs
    exact hs
  have hx1 := HB2.out.cell (i := 1) (v := .int .i64 l.id) rfl
  have hx2 := HB2.out.cell (i := 2) (v := .int .i64 l.obj) rfl
  have hB := HB2.out.lt
  obtain ⟨B, hBB⟩ : ∃ B, B = w.heap.size := ⟨_, rfl⟩
  rw [← hBB] at HLd hx1 hx2 hB ⊢
  obtain ⟨id, hid'⟩ : ∃ id, id = l.id := ⟨_, rfl⟩
  obtain ⟨oj, hoj⟩ : ∃ oj, oj = l.obj := ⟨_, rfl⟩
  rw [← hid'] at HSm hx1
  rw [← hoj] at HSm hx2
  obtain ⟨A, hA⟩ : ∃ A, A = (Bl.cL l pa sa ba).toArray := ⟨_, rfl⟩
  rw [← hA] at HLd HRf
  obtain ⟨R, hR⟩ : ∃ R, R = (Bl.cL (Bl.refL l code) Bl.nilV Bl.nilV Bl.nilV).toArray := ⟨_, rfl⟩
  rw [← hR] at HRf HSm
  clear hBB hid' hoj hA hR HB2
  go_wp2_with fail
  apply Bl.wp_region_ev 10 [9, 10, 11, 12, 13, 14, 15, 16, 17, 18] [Bl.eqv _, Bl.eqv _, Bl.eqv _, Bl.eqv _, Bl.eqv _, Bl.eqv _, Bl.eqv _, Bl.eqv _, Bl.eqv _, Bl.eqv _] (by kernel_rfl) (by kernel_rfl) (by kernel_rfl) (by kernel_rfl)
  case hsteps =>
    refine ⟨?_, ?_, ?_, ?_, ?_, ?_, ?_, ?_, ?_, ?_, trivial⟩
    all_goals
      intro ev w1 hext hb hd
      have e1 := hb 1 (by decide)
      have e2 := hb 2 (by decide)
      clear hb
      simp only [Array.getD_eq_getD_getElem?, List.getElem?_toArray, List.getElem?_cons_succ, List.getElem?_cons_zero, Option.getD_some] at e1 e2
      simp only [Bl.DepsE, List.getElem?_cons_succ, List.getElem?_cons_zero, Option.bind_some, List.getD_cons_succ, List.getD_cons_zero, Bl.eqv, and_true] at hd
      have hc := (Bl.bcell hext).1
      have q1 := (hc _ 1 hB).trans hx1
      have q2 := (hc _ 2 hB).trans hx2
      simp only [Bl.Good, Region.wanted, if_true]
      first
      | ((with_reducible refine Bl.goodR_load ?_ (HLd.out _ hext) ?_); exact e2; exact rfl)
      | (go_simp; first | (go_at_call 8; (with_reducible refine (HRf.out _ hext).mono ?_); rintro e w2 ⟨rfl, hE2⟩; exact ⟨_, rfl, hE2, rfl⟩) | (go_at_call 7; (with_reducible refine (HSm.out _ hext).mono ?_); rintro e w2 ⟨rfl, hE2⟩; exact ⟨_, rfl, hE2, rfl⟩) | exact ⟨Below.refl _ _, rfl⟩ | exact ⟨Below.refl _ _, rfl⟩)
  case hmono => exact ⟨Bl.mono_eqv _, Bl.mono_eqv _, Bl.mono_eqv _, Bl.mono_eqv _, Bl.mono_eqv _, Bl.mono_eqv _, Bl.mono_eqv _, Bl.mono_eqv _, Bl.mono_eqv _, Bl.mono_eqv _, trivial⟩
  case hend =>
    intro u w1 hext hend
    simp only [Bl.EndE, List.getElem?_cons_succ, List.getElem?_cons_zero, Option.bind_some, List.getD_cons_succ, List.getD_cons_zero, Bl.eqv, true_and] at hend
    simp only [Bl.fillAct, List.setIfInBounds_toArray, List.set_cons_succ, List.set_cons_zero, List.drop_succ_cons, List.drop_zero, hend]
    have HE5 := Bl.hid (HE2.out.trans hext)
    clear hext hend
    go_wp2_with fail
    go_ret
    exact ⟨rfl, HE5.out⟩
end Go.Proofs.YtglenbikdahgjaaDoor

/- Walk of the law LetterBytes. -/
import Derived.Test.YtmmolapkddbibaaDoorLC5
import Derived.Test.YtmmolapkddbibaaDoorLP7
import Derived.Test.YtmmolapkddbibaaDoorLtp
import Derived.Test.YtmmolapkddbibaaDoorLet2b
import Derived.Test.YtmmolapkddbibaaDoorLet1
import Derived.Test.YtmmolapkddbibaaDoorNums
import Derived.Test.YtmmolapkddbibaaDoorLib0
namespace Go.Proofs.YtmmolapkddbibaaDoor
open Go Go.RowKit Go.Proofs

set_option maxRecDepth 100000 in
set_option maxHeartbeats 8000000 in
theorem letterbytes_all (v1 : Value) (x : Bl.LT) (w : World) (S : List Nat) (a : Nat → Addr) (h1 : Bl.LtV w v1 x) (he : Errs S a w) (hS : ∀ i, 1 ≤ i → i ≤ 20 → i ∈ S) :
    Calls Tryd.prog 5 #[v1] w fun e w' => e = .returned (.bool true) ∧ Bl.Ext w w' := by
  have H1 := Bl.hid h1
  have hs1 := hS 1 (by decide) (by decide)
  have hs2 := hS 2 (by decide) (by decide)
  have hs3 := hS 3 (by decide) (by decide)
  have hs4 := hS 4 (by decide) (by decide)
  have hs7 := hS 7 (by decide) (by decide)
  have hs8 := hS 8 (by decide) (by decide)
  have HAl : Hid (∀ w2, Bl.Ext w w2 → Calls Tryd.prog 15 #[] w2 fun e w' => e = .returned (.bool true) ∧ Bl.Ext w2 w') := Bl.hid fun w2 h2 => alive22 w2 S a (he.ext h2) hs1 hs3 hs4 hs7 hs8
  obtain ⟨cs1, pa, sa, ba, L, rfl, ha⟩ := h1
  obtain rfl := ha.eq
  obtain ⟨K, hK⟩ : ∃ K, K = Bl.chkL x := ⟨_, rfl⟩
  obtain ⟨B, hB⟩ : ∃ B, B = if K = 0 then Bl.bytL x else [] := ⟨_, rfl⟩
  have HLB : Hid (∀ w2, Bl.Ext w w2 → Calls Tryd.prog 18 #[.agg (Bl.cL x pa sa ba).toArray] w2 fun e w' => ∃ v', e = .returned (.tuple #[v', errN a K]) ∧ Bl.Rd w' .u8 v' B ∧ Bl.Ext w2 w') := Bl.hid fun w2 h2 => by
    rw [hB, hK]; exact lbytes_any _ x w2 S a (H1.out.ext h2) (he.ext h2) hs1 hs3 hs4 hs7 hs8
  have HLC : Hid (∀ w2, Bl.Ext w w2 → Calls Tryd.prog 21 #[.agg (Bl.cL x pa sa ba).toArray] w2 fun e w' => e = .returned (errN a K) ∧ Bl.Ext w2 w') := Bl.hid fun w2 h2 => by
    rw [hK]; exact lcheck_any _ x w2 S a (H1.out.ext h2) (he.ext h2) hs1 hs3 hs4 hs7 hs8
  have HLS : Hid (∀ w2, Bl.Ext w w2 → Calls Tryd.prog 22 #[.agg (Bl.cL x pa sa ba).toArray] w2 fun e w' => e = .returned (.int .i64 (B.length : Nat)) ∧ Bl.Ext w2 w') := Bl.hid fun w2 h2 => by
    rw [hB, hK]; exact lsize_any _ x w2 S a (H1.out.ext h2) (he.ext h2) hs1 hs3 hs4 hs7 hs8
  have HNu : Hid (∀ w2, Bl.Ext w w2 → Calls Tryd.prog 20 #[errN a K] w2 fun e w' => e = .returned (.int .i64 K) ∧ Bl.Ext w2 w') := Bl.hid fun w2 h2 => num_errN S a w2 K hS (he.ext h2) (by rw [hK]; exact chk_le x)
  have HRB : Hid (∀ w2 v, Bl.LtV w2 v x → Calls Tryd.prog 19 #[v] w2 fun e w' => ∃ v', e = .returned (.tuple #[v', .int .i64 K]) ∧ Bl.Rd w' .u8 v' B ∧ Bl.Ext w2 w') := Bl.hid fun w2 v h => by
    rw [hB, hK]; exact rbytes22_any v x w2 h
  have HBs : Hid ((∀ b ∈ x.blocks, Bl.Byt b) ∧ (∀ s ∈ x.shown, Bl.Byt s.2.1) ∧ ∀ s ∈ x.shown, Bl.Dig s.2.2) := Bl.hid ⟨ha.by', fun s hs => by
      rw [← ha.sl] at hs
      obtain ⟨z, hz, rfl⟩ := List.mem_map.1 hs
      exact (ha.sh.ok z hz).bs, fun s hs => by
      rw [← ha.sl] at hs
      obtain ⟨z, hz, rfl⟩ := List.mem_map.1 hs
      exact (ha.sh.ok z hz).dg⟩
  have HPa : Hid (∀ w2 v, Bl.Ext w w2 → K = 0 → Bl.Rd w2 .u8 v B → Calls Tryd.prog 23 #[v] w2 fun e w' => ∃ v', e = .returned (.tuple #[v', .nilIface]) ∧ Bl.LtV w' v' x ∧ Bl.Ext w2 w') := Bl.hid fun w2 v h2 hk hv => by
    have hc : Bl.chkL x = 0 := by rw [← hK]; exact hk
    have hb : B = Bl.bytL x := by rw [hB, if_pos hk]
    rw [hb] at hv
    have hp := parse_any v (Bl.bytL x) w2 S a hv (bytL_byt hc HBs.out.1 HBs.out.2.1 HBs.out.2.2) (by have := (chk_ok hc).2.2.2.2; omega) (he.ext h2) hs1 hs2 hs3 hs4 hs7 hs8
    rw [Bl.parse_fwd hc HBs.out.2.2] at hp
    exact hp.mono fun e w' ⟨v', vp, vs, vb, M, q1, q2, q3, q4⟩ => ⟨v', by rw [q1]; rfl, ⟨_, vp, vs, vb, M, q2, q3.ltc⟩, q4⟩
  have HBl : Hid (Bl.Byt B) := Bl.hid (by
    rw [hB]
    split
    · rename_i q; exact bytL_byt (by rw [← hK]; exact q) HBs.out.1 HBs.out.2.1 HBs.out.2.2
    · exact fun y hy => by cases hy)
  clear he ha hK hB HBs hs1 hs2 hs3 hs4 hs7 hs8
  obtain ⟨W0, hW0⟩ : ∃ W0, W0 = w.alloc (.cells (Bl.cL x pa sa ba).toArray 26) := ⟨_, rfl⟩
  have HE0 : Hid (Bl.Ext w W0) := Bl.hid (by rw [hW0]; exact Bl.ext_alloc _ _)
  have HBa : Hid (Bl.BoxC W0 w.heap.size (Bl.cL x pa sa ba)) := Bl.hid (by rw [hW0]; exact Bl.BoxC.box w 26 (Bl.cL_ne _ _ _ _))
  have Hld : Hid (∀ w2, Bl.Ext W0 w2 → _) := Bl.hid (fun w2 (h : Bl.Ext W0 w2) => (HBa.out.ext h).load (P := Tryd.prog) Tryd.underlying26 rfl (by kernel_rfl))
  unfold Bl.cL at hW0
  show Calls Tryd.prog 5 #[.agg #[.int .i64 x.kind, .int .i64 x.id, .int .i64 x.obj, pa, sa, .int .i64 x.frm, .int .i64 x.cnt, ba, .int .i64 x.code]] w _
  go_enter Tryd.func5, Tryd.ntmps5
  go_wp2_with fail
  rw [← hW0]
  clear hW0
  refine (HAl.out W0 HE0.out).mono ?_
  rintro e w1 ⟨rfl, hE1⟩
  have HE1 := Bl.hid hE1
  clear hE1 HAl
  have Hl1 := Bl.hid (Hld.out _ HE1.out)
  go_wp2_with (with_reducible refine Bl.stop_load (ty := 26) ?_)
  refine Bl.go_on ?_
  refine Bl.wpL_load rfl Hl1.out ?_
  go_wp2_with fail
  refine (long22_any _ x w1 (H1.out.ext (HE0.out.trans HE1.out))).mono ?_
  rintro e w2 ⟨hor, hE2⟩
  have HE2 := Bl.hid (HE1.out.trans hE2)
  clear hE2 HE1 Hl1
  rcases hor with rfl | ⟨rfl, hl1⟩
  · go_wp2_with fail
    go_ret
    exact ⟨rfl, HE0.out.trans HE2.out⟩
  have Hlg1 := Bl.hid hl1
  clear hl1
  have HOx : Hid (∀ w2, Bl.Ext w w2 → Calls Tryd.prog 9 #[.agg (Bl.cL x pa sa ba).toArray] w2 fun e w' => ∃ v', e = .returned v' ∧ Bl.LtV w' v' x ∧ Bl.Ext w2 w') := Bl.hid fun w2 h => of22_any _ x w2 (H1.out.ext h) (by have := Hlg1.out.sh; omega) (fun s hs => by have := (Hlg1.out.st s hs).2; omega)
  have HOv : Hid (∀ w2 v, Bl.LtV w2 v x → Calls Tryd.prog 9 #[v] w2 fun e w' => ∃ v', e = .returned v' ∧ Bl.LtV w' v' x ∧ Bl.Ext w2 w') := Bl.hid fun w2 v h => of22_any _ x w2 h (by have := Hlg1.out.sh; omega) (fun s hs => by have := (Hlg1.out.st s hs).2; omega)
  clear Hlg1
  have Hl2 := Bl.hid (Hld.out _ HE2.out)
  go_wp2_with (with_reducible refine Bl.stop_load (ty := 26) ?_)
  refine Bl.go_on ?_
  refine Bl.wpL_load rfl Hl2.out ?_
  go_wp2_with fail
  refine (HLB.out w2 (HE0.out.trans HE2.out)).mono ?_
  rintro e w3 ⟨v3, rfl, hr3, hE3⟩
  obtain ⟨p3, c3, hf3, _, _⟩ := hr3.form
  subst hf3
  have HR3 := Bl.hid hr3
  have HE3 := Bl.hid (HE2.out.trans hE3)
  clear hr3 hE3 HE2 Hl2
  have Hl3 := Bl.hid (Hld.out _ HE3.out)
  go_wp2_with (with_reducible refine Bl.stop_load (ty := 26) ?_)
  refine Bl.go_on ?_
  refine Bl.wpL_load rfl Hl3.out ?_
  go_wp2_with fail
  refine (HOx.out w3 (HE0.out.trans HE3.out)).mono ?_
  rintro e w4 ⟨v4, rfl, hl4, hE4⟩
  have HL4 := Bl.hid hl4
  have HE4 := Bl.hid (HE3.out.trans hE4)
  have HR4 := Bl.hid (HR3.out.ext hE4)
  clear hl4 hE4 HE3 Hl3 HR3
  go_wp2_with fail
  refine (HRB.out w4 v4 HL4.out).mono ?_
  rintro e w5 ⟨v5, rfl, hr5, hE5⟩
  obtain ⟨p5, c5, hf5, _, _⟩ := hr5.form
  subst hf5
  have HS5 := Bl.hid hr5
  have HE5 := Bl.hid (HE4.out.trans hE5)
  have HR5 := Bl.hid (HR4.out.ext hE5)
  clear hr5 hE5 HE4 HR4 HL4
  have Hl5 := Bl.hid (Hld.out _ HE5.out)
  go_wp2_with (with_reducible refine Bl.stop_load (ty := 26) ?_)
  refine Bl.go_on ?_
  refine Bl.wpL_load rfl Hl5.out ?_
  go_wp2_with fail
  refine (HLC.out w5 (HE0.out.trans HE5.out)).mono ?_
  rintro e w6 ⟨rfl, hE6⟩
  have HE6 := Bl.hid (HE5.out.trans hE6)
  have HS6 := Bl.hid (HS5.out.ext hE6)
  have HR6 := Bl.hid (HR5.out.ext hE6)
  clear hE6 HE5 HS5 HR5 Hl5
  go_wp2_with fail
  refine (HNu.out w6 (HE0.out.trans HE6.out)).mono ?_
  rintro e w7 ⟨rfl, hE7⟩
  have HE7 := Bl.hid (HE6.out.trans hE7)
  have HS7 := Bl.hid (HS6.out.ext hE7)
  have HR7 := Bl.hid (HR6.out.ext hE7)
  clear hE7 HE6 HS6 HR6
  go_wp2_with fail
  refine (HNu.out w7 (HE0.out.trans HE7.out)).mono ?_
  rintro e w8 ⟨rfl, hE8⟩
  have HE8 := Bl.hid (HE7.out.trans hE8)
  have HS8 := Bl.hid (HS7.out.ext hE8)
  have HR8 := Bl.hid (HR7.out.ext hE8)
  clear hE8 HE7 HS7 HR7
  have hcv1 := Bl.conv_bytes (P := Tryd.prog) HR8.out Tryd.underlying46 Tryd.underlying5 Tryd.underlying9
  have hcv2 := Bl.conv_bytes (P := Tryd.prog) HS8.out Tryd.underlying46 Tryd.underlying5 Tryd.underlying9
  have Hl8 := Bl.hid (Hld.out _ HE8.out)
  go_wp2_with (with_reducible refine Bl.stop_loadg (ty := 26) ?_)
  refine Bl.go_on ?_
  refine Bl.wpL_loadg rfl rfl Hl8.out ?_
  go_wp2_with fail
  refine (HLS.out w8 (HE0.out.trans HE8.out)).mono ?_
  rintro e w9 ⟨rfl, hE9⟩
  have HE9 := Bl.hid (HE8.out.trans hE9)
  have HR9 := Bl.hid (HR8.out.ext hE9)
  clear hE9 HE8 HS8 HR8 Hl8 hcv1 hcv2
  by_cases hk : K = 0
  rotate_left
  · have hk2 : ¬ (K : Int) = 0 := by omega
    have hk3 : ((K : Int) == 0) = false := by rw [beq_eq_false_iff_ne]; exact hk2
    clear hk
    go_wp2_with fail
    go_ret
    exact ⟨rfl, HE0.out.trans HE9.out⟩
  subst hk
  go_wp2_with fail
  refine (HPa.out w9 _ (HE0.out.trans HE9.out) (by first | exact rfl | trivial) HR9.out).mono ?_
  rintro e wa ⟨va, rfl, hla, hEa⟩
  obtain ⟨csx, px, sx, bx, Lx, rfl, hx⟩ := hla
  obtain rfl := hx.eq
  have HEa := Bl.hid (HE9.out.trans hEa)
  have HX : Hid (Bl.LtV wa (.agg (Bl.cL x px sx bx).toArray) x) := Bl.hid ⟨_, px, sx, bx, Lx, rfl, hx⟩
  obtain ⟨hBb, hEb⟩ := Bl.BoxC.fresh (cs := Bl.cL x px sx bx) wa 26 Bl.zL rfl (Bl.cL_ne _ _ _ _)
  have Hst := Bl.hid (Bl.fresh_store (P := Tryd.prog) (cs := Bl.cL x px sx bx) wa 26 Bl.zL rfl (Bl.cL_one (by obtain ⟨p, c, e, _⟩ := hx.pl.form; exact ⟨_, _, _, e⟩) (by obtain ⟨p, c, e, _⟩ := hx.sh.rd.form; exact ⟨_, _, _, e⟩) (by obtain ⟨p, c, e, _⟩ := hx.bl.form; exact ⟨_, _, _, e⟩)) (ty := 26) (by kernel_rfl))
  have HBb := Bl.hid hBb
  have HEb := Bl.hid hEb
  clear hx hEa hBb hEb HR9
  go_wp2_with (with_reducible refine Bl.stop_store (ty := 26) ?_)
  refine Bl.go_on ?_
  refine Bl.wpL_store0 rfl rfl Hst.out ?_
  obtain ⟨Wb, hWb⟩ : ∃ Wb, Wb = (wa.alloc (.cells Bl.zL 26)).setCells wa.heap.size 0 (Bl.cL x px sx bx) := ⟨_, rfl⟩
  obtain ⟨D, hD⟩ : ∃ D, D = wa.heap.size := ⟨_, rfl⟩
  rw [← hWb] at HBb HEb ⊢
  rw [← hD] at HBb ⊢
  have HEc := Bl.hid (HEa.out.trans HEb.out)
  have HXb := Bl.hid (HX.out.ext HEb.out)
  clear hWb hD Hst HX
  have Hly := Bl.hid (fun w2 (h : Bl.Ext Wb w2) => (HBb.out.ext h).load (P := Tryd.prog) Tryd.underlying26 rfl (by kernel_rfl))
  have HSm : Hid (∀ w2, Bl.Ext Wb w2 → Calls Tryd.prog 16 #[.agg (Bl.cL x px sx bx).toArray, .agg (Bl.cL x pa sa ba).toArray] w2 fun e w' => e = .returned (.bool true) ∧ Bl.Ext w2 w') := Bl.hid fun w2 h => by
    have h3 := lsame_any _ _ x x w2 (HXb.out.ext h) (H1.out.ext (HE0.out.trans (HEc.out.trans h)))
    rw [show Bl.sameL x x = true by simp [Bl.sameL]] at h3
    exact h3
  have HRs : Hid (∀ w2 u v, Bl.LtV w2 u x → Bl.LtV w2 v x → Calls Tryd.prog 12 #[u, v] w2 fun e w' => e = .returned (.bool true) ∧ Bl.Ext w2 w') := Bl.hid fun w2 u v h h' => by
    have h3 := rsame22_any u v x x w2 h h'
    rw [show Bl.sameL x x = true by simp [Bl.sameL]] at h3
    exact h3
  go_wp2_with fail
  apply Bl.wp_region_ev 14 [55, 56, 57, 58, 59, 60, 61, 62, 63, 64, 65, 66, 67, 68] [Bl.eqv _, Bl.eqv _, Bl.eqv _, Bl.eqv _, Bl.eqv _, Bl.eqv _, Bl.eqv _, Bl.eqv _, Bl.eqv _, (fun v w' => Bl.LtV w' v x), Bl.eqv _, (fun v w' => Bl.LtV w' v x), Bl.eqv _, Bl.eqv _] (by kernel_rfl) (by kernel_rfl) (by kernel_rfl) (by kernel_rfl)
  case hsteps =>
    refine ⟨?_, ?_, ?_, ?_, ?_, ?_, ?_, ?_, ?_, ?_, ?_, ?_, ?_, ?_, trivial⟩
    all_goals
      intro ev w1 hext hb hd
      have e1 := hb 1 (by decide)
      have e4 := hb 4 (by decide)
      have e7 := hb 7 (by decide)
      clear hb
      simp only [Array.getD_eq_getD_getElem?, List.getElem?_toArray, List.getElem?_cons_succ, List.getElem?_cons_zero, Option.getD_some] at e1 e4 e7
      simp only [Bl.DepsE, List.getElem?_cons_succ, List.getElem?_cons_zero, Option.bind_some, List.getD_cons_succ, List.getD_cons_zero, Bl.eqv, and_true] at hd
      have hc := (Bl.bcell hext).1
      have hwx := HE0.out.trans (HEc.out.trans hext)
      simp only [Bl.Good, Region.wanted, Bl.yieldE, List.getElem?_cons_succ, List.getElem?_cons_zero, Option.bind_some, hd, beq_self_eq_true, if_true]
      first
      | ((with_reducible refine Bl.goodR_load ?_ (Hld.out _ (HEc.out.trans hext)) ?_); exact e1; exact rfl) | ((with_reducible refine Bl.goodR_load ?_ (Hly.out _ hext) ?_); exact e7; exact rfl)
      | (go_simp; first | exact ⟨Below.refl _ _, rfl⟩ | (go_at_call 16; (with_reducible refine (HSm.out _ hext).mono ?_); rintro e w9 ⟨rfl, h9⟩; exact ⟨_, rfl, h9, rfl⟩) | (go_at_call 9; (with_reducible refine (HOv.out _ _ (HXb.out.ext hext)).mono ?_); rintro e w9 ⟨v9, rfl, h8, h9⟩; exact ⟨_, rfl, h9, h8⟩) | (go_at_call 9; (with_reducible refine (HOx.out _ hwx).mono ?_); rintro e w9 ⟨v9, rfl, h8, h9⟩; exact ⟨_, rfl, h9, h8⟩) | (go_at_call 12; (with_reducible refine (HRs.out _ _ _ (by first | exact hd.1 | exact hd.2.1) (by first | exact hd.2 | exact hd.2.1 | exact hd.1)).mono ?_); rintro e w9 ⟨rfl, h9⟩; exact ⟨_, rfl, h9, rfl⟩) | exact ⟨Below.refl _ _, rfl⟩)
  case hmono => exact ⟨Bl.mono_eqv _, Bl.mono_eqv _, Bl.mono_eqv _, Bl.mono_eqv _, Bl.mono_eqv _, Bl.mono_eqv _, Bl.mono_eqv _, Bl.mono_eqv _, Bl.mono_eqv _, (fun _ _ _ h k => Bl.LtV.ext h k), Bl.mono_eqv _, (fun _ _ _ h k => Bl.LtV.ext h k), Bl.mono_eqv _, Bl.mono_eqv _, trivial⟩
  case hend =>
    intro u w1 hext hend
    simp only [Bl.EndE, List.getElem?_cons_succ, List.getElem?_cons_zero, Option.bind_some, List.getD_cons_succ, List.getD_cons_zero, Bl.eqv, true_and] at hend
    simp only [Bl.fillAct, List.setIfInBounds_toArray, List.set_cons_succ, List.set_cons_zero, List.drop_succ_cons, List.drop_zero, hend]
    have HEf := Bl.hid (HE0.out.trans (HEc.out.trans hext))
    clear hext
    go_wp2_with fail
    go_ret
    exact ⟨by simp, HEf.out⟩
end Go.Proofs.YtmmolapkddbibaaDoor

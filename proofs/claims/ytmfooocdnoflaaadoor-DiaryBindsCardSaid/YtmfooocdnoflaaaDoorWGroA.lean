/- Walk of baileeref14.Prove. -/
import Derived.Test.YtmfooocdnoflaaaDoorGwa
import Derived.Test.YtmfooocdnoflaaaDoorWl0
import Derived.Test.YtmfooocdnoflaaaDoorRv0
import Derived.Test.YtmfooocdnoflaaaDoorBA2
namespace Go.Proofs.YtmfooocdnoflaaaDoor
open Go.RowKit Go.Proofs

set_option maxRecDepth 100000 in
set_option maxHeartbeats 2000000 in
theorem refgprove_nat : ∀ (n : Nat) (ds : List (List Int)) (m : Nat) (wh : Bool) (v : Value) (w : World), ds.length = n → n ≤ 512 → 1 ≤ m → m ≤ n → Bl.Dig ds → Bl.RdD w v ds → GlobR w →
    Calls Tryd.prog 44 #[v, .int .i64 m, .bool wh] w fun e w' => ∃ v', e = .returned v' ∧ Bl.OwnD w' v' w.heap.size 31 (Bl.proveD ds m wh) ∧ Bl.Ext w w' := by
  intro n
  induction n using Nat.strongRecOn with
  | _ n ih =>
    intro ds m wh v w hdn hn hm hmn hd hR hg
    have IH := Bl.hid ih
    clear ih
    obtain ⟨p, c, hvf, hvn, hvc⟩ := hR.form
    subst hvf
    rw [hdn] at hvn ⊢
    have HR : Hid (Bl.RdD w (.slice p n c) ds) := Bl.hid (by rw [hdn] at hR; exact hR)
    by_cases h1 : m = n
    · subst h1
      have HP := Bl.hid (Bl.prG_end Bl.ndD Bl.zD ds wh (by omega))
      rw [hdn] at HP
      cases wh with
      | true =>
        clear hR hg hd hdn
        go_enter Tryd.func44, Tryd.ntmps44
        go_wp2
        go_ret
        exact ⟨_, rfl, by unfold Bl.proveD; rw [HP.out]; exact Bl.OwnD.nil _ _ _, Below.refl _ _⟩
      | false =>
        have Hov := Bl.hid (refover_any m ds _ w hdn (by omega) hd HR.out hg)
        have Hol := Bl.hid (Bl.overD_dig _ ds rfl hd (by omega))
        have HPd : Hid (Bl.proveD ds m false = [Bl.overD ds]) := HP
        obtain ⟨d, hdd⟩ : ∃ d, d = Bl.overD ds := ⟨_, rfl⟩
        rw [← hdd] at Hov Hol HPd
        clear hR hg hd hdn hdd HP
        go_enter Tryd.func44, Tryd.ntmps44
        go_wp2_with fail
        refine Hov.out.mono ?_
        rintro e w7 ⟨rfl, hE7⟩
        have HE7 := Bl.hid hE7
        have Hown := Bl.hid (Bl.owns_new w7 31 (Bl.ints .u8 d).toArray w.heap.size 1 32 hE7.size (by decide) (by simp [Hol.out.1]))
        clear hE7
        go_wp2_with (with_reducible refine Bl.stop_build ?_)
        refine Bl.go_on ?_
        refine Bl.wpL_build1 tArr (by decide) rfl (by simp [Hol.out.1]) ?_
        go_wp2_with fail
        go_ret
        refine ⟨_, rfl, ?_, HE7.out.trans (Bl.ext_alloc _ _)⟩
        rw [HPd.out]
        exact ⟨_, _, rfl, by rw [Bl.cellsD_one]; exact Hown.out⟩
    · have hb1 : ((m : Int) == (n : Int)) = false := by rw [beq_eq_false_iff_ne]; omega
      obtain ⟨s1, s2, s3⟩ := Bl.sp_bounds n (by omega) (by omega)
      have HPf := Bl.hid (fun h : m ≤ Bl.sp n => Bl.prG_left Bl.ndD Bl.zD ds m wh hm (by omega) (by omega) (by rw [hdn]; exact h))
      have HPr := Bl.hid (fun h : ¬ m ≤ Bl.sp n => Bl.prG_right Bl.ndD Bl.zD ds m wh hm (by omega) (by omega) (by rw [hdn]; exact h))
      rw [hdn] at HPf HPr
      have Hdn := Bl.hid hdn
      have Hd := Bl.hid hd
      have Hg := Bl.hid hg
      clear hR hd hg
      go_enter Tryd.func44, Tryd.ntmps44
      go_wp2_with fail
      refine (refsplit_any _ _ (by omega) (by omega)).mono ?_
      rintro e w3 ⟨rfl, hw3⟩
      subst hw3
      rw [Int.toNat_natCast]
      obtain ⟨b, o, cc, hpe, hp1, hp2, hbl, hrg⟩ := Bl.RdD.pos (by have h := HR.out; rw [← Hdn.out] at h; exact h) Hd.out (by omega)
      injection hpe with hpe1 hpe2 hpe3
      clear hpe2 hpe3 hp1 hp2 hbl hrg hdn
      subst hpe1
      obtain ⟨q, hq⟩ : ∃ q, q = Bl.sp n := ⟨_, rfl⟩
      rw [← hq] at s1 s2 s3 HPf HPr ⊢
      clear hq
      have hx1 : (q : Int) < (n : Int) := by omega
      have hx2 : ¬ (q = c) := by omega
      have hx3 : (0 : Int) ≤ (q : Int) := by omega
      have hx4 : (q : Int) ≤ (n : Int) := by omega
      have hx5 : (q : Int) ≤ (c : Int) := by omega
      have hx6 : (n : Int) ≤ (c : Int) := by omega
      have Htk := Bl.hid (Bl.RdD.take (by have h := HR.out; rw [← Hdn.out] at h; exact h) Hd.out q (by rw [Hdn.out]; omega))
      have Hdr : Hid (Bl.RdD w (.slice (some ⟨b, o + q * 32, none⟩) (n - q) (c - q)) (ds.drop q)) := Bl.hid (by have h := Bl.RdD.drop (by have h := HR.out; rw [← Hdn.out] at h; exact h) Hd.out q (by rw [Hdn.out]; omega); rw [Hdn.out] at h; exact h)
      have Htl : Hid ((ds.take q).length = q) := Bl.hid (by rw [List.length_take, Hdn.out]; omega)
      have Hdl : Hid ((ds.drop q).length = n - q) := Bl.hid (by rw [List.length_drop, Hdn.out])
      by_cases hiq : m ≤ q
      · have HP := Bl.hid (HPf.out hiq)
        have hlt' : (m : Int) ≤ (q : Int) := by omega
        have HM : Hid (∀ w2, Bl.Ext w w2 → Calls Tryd.prog 44 #[.slice (some ⟨b, o, none⟩) q c, .int .i64 m, .bool wh] w2 fun e w' => ∃ v', e = .returned v' ∧ Bl.OwnD w' v' w2.heap.size 31 (Bl.proveD (ds.take q) m wh) ∧ Bl.Ext w2 w') := Bl.hid fun w2 h2 =>
          IH.out q (by omega) (ds.take q) m wh _ w2 Htl.out (by omega) hm hiq (Hd.out.take q) (Bl.Rds.ext Htk.out h2) (Hg.out.ext h2)
        have HO : Hid (∀ w2, Bl.Ext w w2 → Calls Tryd.prog 40 #[.slice (some ⟨b, o + q * 32, none⟩) (n - q) (c - q)] w2 fun e w' => e = .returned (.agg (Bl.ints .u8 (Bl.overD (ds.drop q))).toArray) ∧ Bl.Ext w2 w') := Bl.hid fun w2 h2 =>
          refover_any (n - q) (ds.drop q) _ w2 Hdl.out (by omega) (Hd.out.drop q) (Bl.Rds.ext Hdr.out h2) (Hg.out.ext h2)
        have Hol := Bl.hid (Bl.overD_dig _ (ds.drop q) rfl (Hd.out.drop q) (by rw [Hdl.out]; omega))
        have Hpl : Hid ((Bl.proveD (ds.take q) m wh).length ≤ 513) := Bl.hid (by
          rw [Bl.proveD_len (ds.take q) m wh hm (by rw [Htl.out]; exact hiq) (by rw [Htl.out]; omega), Htl.out]
          have := Bl.steps_len_le q m 0 wh hm hiq (by omega)
          unfold Bl.cntG; split <;> omega)
        have HPd : Hid (Bl.proveD ds m wh = Bl.proveD (ds.take q) m wh ++ [Bl.overD (ds.drop q)]) := HP
        obtain ⟨d, hd⟩ : ∃ d, d = Bl.overD (ds.drop q) := ⟨_, rfl⟩
        rw [← hd] at HO Hol HPd
        obtain ⟨P1, hP1⟩ : ∃ P1, P1 = Bl.proveD (ds.take q) m wh := ⟨_, rfl⟩
        rw [← hP1] at HM Hpl HPd
        clear hd hP1 HP HPf HPr IH
        go_wp2_with fail
        apply Bl.wp_region_ev 11 [23, 24, 25, 26, 27, 28, 29, 30, 31, 32, 33] [Bl.eqv _, Bl.eqv _, Bl.eqv (.slice (some ⟨b, o, none⟩) q c), Bl.eqv _, Bl.eqv _, (fun v w' => Bl.OwnD w' v w.heap.size 31 P1), Bl.eqv _, Bl.eqv _, Bl.eqv (.slice (some ⟨b, o + q * 32, none⟩) (n - q) (c - q)), Bl.eqv _, (fun v w' => Bl.Rds w' v 1 (Bl.cellsD [d]))] (by kernel_rfl) (by kernel_rfl) (by kernel_rfl) (by kernel_rfl)
        case hsteps =>
          refine ⟨?_, ?_, ?_, ?_, ?_, ?_, ?_, ?_, ?_, ?_, ?_, trivial⟩
          all_goals
            intro ev w1 hext hb hd
            have e0 := hb 0 (by decide)
            have e1 := hb 1 (by decide)
            have e2 := hb 2 (by decide)
            have e8 := hb 8 (by decide)
            clear hb
            simp only [Array.getD_eq_getD_getElem?, List.getElem?_toArray, List.getElem?_cons_succ, List.getElem?_cons_zero, Option.getD_some] at e0 e1 e2 e8
            simp only [Bl.DepsE, List.getElem?_cons_succ, List.getElem?_cons_zero, Option.bind_some, List.getD_cons_succ, List.getD_cons_zero, Bl.eqv, and_true] at hd
            have hc := (Bl.bcell hext).1
            simp only [Bl.Good, Region.wanted, if_true]
            first
            | exact Bl.goodR_build1 tArr (by decide) hd (by simp [Hol.out.1]) (Bl.rds_dig w1 31 d Hol.out.1)
            | (go_simp; first | (go_at_call 44; (with_reducible refine (HM.out _ hext).mono ?_); rintro e w2 ⟨v2, rfl, hO2, hE2⟩; exact ⟨_, rfl, hE2, hO2.mono hext.size⟩) | (go_at_call 40; (with_reducible refine (HO.out _ hext).mono ?_); rintro e w2 ⟨rfl, hE2⟩; exact ⟨_, rfl, hE2, rfl⟩) | exact ⟨Below.refl _ _, by rw [if_neg (by omega)]; rfl⟩ | exact ⟨Below.refl _ _, rfl⟩)
        case hmono => exact ⟨Bl.mono_eqv _, Bl.mono_eqv _, (Bl.mono_eqv _), Bl.mono_eqv _, Bl.mono_eqv _, (fun _ _ _ h k => Bl.OwnD.ext h k), Bl.mono_eqv _, Bl.mono_eqv _, (Bl.mono_eqv _), Bl.mono_eqv _, (fun _ _ _ h k => Bl.Rds.ext h k), trivial⟩
        case hend =>
          intro u w1 hext hend
          simp only [Bl.EndE, List.getElem?_cons_succ, List.getElem?_cons_zero, Option.bind_some, List.getD_cons_succ, List.getD_cons_zero, Bl.eqv, true_and] at hend
          simp only [Bl.fillAct, List.setIfInBounds_toArray, List.set_cons_succ, List.set_cons_zero, List.drop_succ_cons, List.drop_zero, hend]
          have hnew := Bl.hid hend.2
          obtain ⟨p2, c2, hq2, hown⟩ := hend.1.1.1.1.1.2
          rw [hq2]
          have Hown := Bl.hid hown
          have HE := Bl.hid hext
          clear hext hend hown hq2
          go_wp2_with (with_reducible refine Bl.stop_append ?_)
          refine Bl.go_on ?_
          refine Bl.wpL_app tArr Hown.out hnew.out rfl rfl (by rw [Bl.cellsD_one, Bl.ints_length, Hol.out.1]) (Bl.cellsD_one' _) (by have := Hpl.out; unfold maxLen; omega) (by have := Hpl.out; omega) HE.out.size ?_
          intro q3 d3 w9 hown9 hg9 hB9 hK9 hn9 hc9
          have Hown9 := Bl.hid hown9
          have HE9 : Hid (Bl.Ext w w9) := Bl.hid (Below.trans HE.out hB9)
          clear hown9 hg9 hB9 hK9
          go_wp2_with fail
          go_ret
          refine ⟨_, rfl, ?_, HE9.out⟩
          rw [HPd.out]
          refine ⟨q3, d3, by rw [List.length_append]; rfl, ?_⟩
          rw [List.length_append, Bl.cellsD_append]
          exact Hown9.out
      · have HP := Bl.hid (HPr.out hiq)
        have hlt' : ¬ ((m : Int) ≤ (q : Int)) := by omega
        have e2 : ((m - q : Nat) : Int) = (m : Int) - (q : Int) := by omega
        have HM : Hid (∀ w2, Bl.Ext w w2 → Calls Tryd.prog 44 #[.slice (some ⟨b, o + q * 32, none⟩) (n - q) (c - q), .int .i64 ((m : Int) - (q : Int)), .bool false] w2 fun e w' => ∃ v', e = .returned v' ∧ Bl.OwnD w' v' w2.heap.size 31 (Bl.proveD (ds.drop q) (m - q) false) ∧ Bl.Ext w2 w') := Bl.hid fun w2 h2 => by
          rw [← e2]
          exact IH.out (n - q) (by omega) (ds.drop q) (m - q) false _ w2 Hdl.out (by omega) (by omega) (by omega) (Hd.out.drop q) (Bl.Rds.ext Hdr.out h2) (Hg.out.ext h2)
        have HO : Hid (∀ w2, Bl.Ext w w2 → Calls Tryd.prog 40 #[.slice (some ⟨b, o, none⟩) q c] w2 fun e w' => e = .returned (.agg (Bl.ints .u8 (Bl.overD (ds.take q))).toArray) ∧ Bl.Ext w2 w') := Bl.hid fun w2 h2 =>
          refover_any q (ds.take q) _ w2 Htl.out (by omega) (Hd.out.take q) (Bl.Rds.ext Htk.out h2) (Hg.out.ext h2)
        have Hol := Bl.hid (Bl.overD_dig _ (ds.take q) rfl (Hd.out.take q) (by rw [Htl.out]; omega))
        have Hpl : Hid ((Bl.proveD (ds.drop q) (m - q) false).length ≤ 513) := Bl.hid (by
          rw [Bl.proveD_len (ds.drop q) (m - q) false (by omega) (by rw [Hdl.out]; omega) (by rw [Hdl.out]; omega), Hdl.out]
          have := Bl.steps_len_le (n - q) (m - q) 0 false (by omega) (by omega) (by omega)
          unfold Bl.cntG; split <;> omega)
        have HPd : Hid (Bl.proveD ds m wh = Bl.proveD (ds.drop q) (m - q) false ++ [Bl.overD (ds.take q)]) := HP
        obtain ⟨d, hd⟩ : ∃ d, d = Bl.overD (ds.take q) := ⟨_, rfl⟩
        rw [← hd] at HO Hol HPd
        obtain ⟨P1, hP1⟩ : ∃ P1, P1 = Bl.proveD (ds.drop q) (m - q) false := ⟨_, rfl⟩
        rw [← hP1] at HM Hpl HPd
        have hw1 : IntKind.i64.wrap ((m : Int) - (q : Int)) = (m : Int) - (q : Int) := IntWalk.i64_in _ (by omega)
        clear hd hP1 HP HPf HPr IH e2
        go_wp2_with fail
        apply Bl.wp_region_ev 12 [35, 36, 37, 38, 39, 40, 41, 42, 43, 44, 45, 46] [Bl.eqv _, Bl.eqv _, Bl.eqv (.slice (some ⟨b, o + q * 32, none⟩) (n - q) (c - q)), Bl.eqv _, Bl.eqv _, Bl.eqv (.int .i64 ((m : Int) - (q : Int))), (fun v w' => Bl.OwnD w' v w.heap.size 31 P1), Bl.eqv _, Bl.eqv _, Bl.eqv (.slice (some ⟨b, o, none⟩) q c), Bl.eqv _, (fun v w' => Bl.Rds w' v 1 (Bl.cellsD [d]))] (by kernel_rfl) (by kernel_rfl) (by kernel_rfl) (by kernel_rfl)
        case hsteps =>
          refine ⟨?_, ?_, ?_, ?_, ?_, ?_, ?_, ?_, ?_, ?_, ?_, ?_, trivial⟩
          all_goals
            intro ev w1 hext hb hd
            have e0 := hb 0 (by decide)
            have e1 := hb 1 (by decide)
            have e8 := hb 8 (by decide)
            clear hb
            simp only [Array.getD_eq_getD_getElem?, List.getElem?_toArray, List.getElem?_cons_succ, List.getElem?_cons_zero, Option.getD_some] at e0 e1 e8
            simp only [Bl.DepsE, List.getElem?_cons_succ, List.getElem?_cons_zero, Option.bind_some, List.getD_cons_succ, List.getD_cons_zero, Bl.eqv, and_true] at hd
            have hc := (Bl.bcell hext).1
            simp only [Bl.Good, Region.wanted, if_true]
            first
            | exact Bl.goodR_build1 tArr (by decide) hd (by simp [Hol.out.1]) (Bl.rds_dig w1 31 d Hol.out.1)
            | (go_simp; first | (go_at_call 44; (with_reducible refine (HM.out _ hext).mono ?_); rintro e w2 ⟨v2, rfl, hO2, hE2⟩; exact ⟨_, rfl, hE2, hO2.mono hext.size⟩) | (go_at_call 40; (with_reducible refine (HO.out _ hext).mono ?_); rintro e w2 ⟨rfl, hE2⟩; exact ⟨_, rfl, hE2, rfl⟩) | exact ⟨Below.refl _ _, by rw [if_neg (by omega)]; rfl⟩ | exact ⟨Below.refl _ _, rfl⟩)
        case hmono => exact ⟨Bl.mono_eqv _, Bl.mono_eqv _, (Bl.mono_eqv _), Bl.mono_eqv _, Bl.mono_eqv _, (Bl.mono_eqv _), (fun _ _ _ h k => Bl.OwnD.ext h k), Bl.mono_eqv _, Bl.mono_eqv _, (Bl.mono_eqv _), Bl.mono_eqv _, (fun _ _ _ h k => Bl.Rds.ext h k), trivial⟩
        case hend =>
          intro u w1 hext hend
          simp only [Bl.EndE, List.getElem?_cons_succ, List.getElem?_cons_zero, Option.bind_some, List.getD_cons_succ, List.getD_cons_zero, Bl.eqv, true_and] at hend
          simp only [Bl.fillAct, List.setIfInBounds_toArray, List.set_cons_succ, List.set_cons_zero, List.drop_succ_cons, List.drop_zero, hend]
          have hnew := Bl.hid hend.2
          obtain ⟨p2, c2, hq2, hown⟩ := hend.1.1.1.1.1.2
          rw [hq2]
          have Hown := Bl.hid hown
          have HE := Bl.hid hext
          clear hext hend hown hq2 hw1
          go_wp2_with (with_reducible refine Bl.stop_append ?_)
          refine Bl.go_on ?_
          refine Bl.wpL_app tArr Hown.out hnew.out rfl rfl (by rw [Bl.cellsD_one, Bl.ints_length, Hol.out.1]) (Bl.cellsD_one' _) (by have := Hpl.out; unfold maxLen; omega) (by have := Hpl.out; omega) HE.out.size ?_
          intro q3 d3 w9 hown9 hg9 hB9 hK9 hn9 hc9
          have Hown9 := Bl.hid hown9
          have HE9 : Hid (Bl.Ext w w9) := Bl.hid (Below.trans HE.out hB9)
          clear hown9 hg9 hB9 hK9
          go_wp2_with fail
          go_ret
          refine ⟨_, rfl, ?_, HE9.out⟩
          rw [HPd.out]
          refine ⟨q3, d3, by rw [List.length_append]; rfl, ?_⟩
          rw [List.length_append, Bl.cellsD_append]
          exact Hown9.out
end Go.Proofs.YtmfooocdnoflaaaDoor

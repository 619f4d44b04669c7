/- Walk of baileeref13.Make; path.Make where there is no such leaf. -/
import Derived.Test.YtjmkcenkjnoblaaDoorWMake2
import Derived.Test.YtjmkcenkjnoblaaDoorWRefOver
import Derived.Test.YtjmkcenkjnoblaaDoorErrs
namespace Go.Proofs.Bl
open Go Go.RowKit
/-- a row of digests of the call's own, its value in its own form -/
def OwnD (w : World) (v : Value) (B : Nat) (e : TypeId) (ds : List (List Int)) : Prop := ∃ p c, v = .slice p ds.length c ∧ w.ownsRow B e 32 (.slice p ds.length c) ds.length (cellsD ds)
theorem OwnD.ext {w w' : World} {v : Value} {B : Nat} {e : TypeId} {ds : List (List Int)} (h : OwnD w v B e ds) (k : Ext w w') : OwnD w' v B e ds := by
  obtain ⟨p, c, h1, h2⟩ := h; exact ⟨p, c, h1, owns_ext h2 k⟩
theorem OwnD.mono {w : World} {v : Value} {B B' : Nat} {e : TypeId} {ds : List (List Int)} (h : OwnD w v B e ds) (k : B' ≤ B) : OwnD w v B' e ds := by
  obtain ⟨p, c, h1, h2⟩ := h; exact ⟨p, c, h1, owns_mono h2 k⟩
theorem OwnD.nil (w : World) (B : Nat) (e : TypeId) : OwnD w (.slice none 0 0) B e [] := ⟨none, 0, rfl, World.ownsRow_nil _ _ _ _⟩
theorem OwnD.rd {w : World} {v : Value} {B : Nat} {e : TypeId} {ds : List (List Int)} (h : OwnD w v B e ds) : RdD w v ds := by
  obtain ⟨p, c, h1, h2⟩ := h; rw [h1]; exact Rds.of_owns h2
end Go.Proofs.Bl
namespace Go.Proofs.YtjmkcenkjnoblaaDoor
open Go.RowKit Go.Proofs

set_option maxRecDepth 100000 in
set_option maxHeartbeats 2000000 in
theorem refmake_nat : ∀ (n : Nat) (ds : List (List Int)) (i : Nat) (v : Value) (w : World), ds.length = n → n ≤ 512 → i < n → Bl.Dig ds → Bl.RdD w v ds → GlobR w →
    Calls Tryd.prog 24 #[v, .int .i64 i] w fun e w' => ∃ v', e = .returned v' ∧ Bl.OwnD w' v' w.heap.size 25 (Bl.pathL Bl.ndD Bl.zD ds i) ∧ Bl.Ext w w' := by
  intro n
  induction n using Nat.strongRecOn with
  | _ n ih =>
    intro ds i v w hdn hn hi hd hR hg
    have IH := Bl.hid ih
    clear ih
    obtain ⟨p, c, hvf, hvn, hvc⟩ := hR.form
    subst hvf
    rw [hdn] at hR hvn ⊢
    by_cases h1 : n = 1
    · subst h1
      have HP := Bl.hid (Bl.pathL_lo Bl.ndD Bl.zD ds i (by omega))
      clear hR hg hd hdn
      go_enter Tryd.func24, Tryd.ntmps24
      go_wp2
      go_ret
      exact ⟨_, rfl, by rw [HP.out]; exact Bl.OwnD.nil _ _ _, Below.refl _ _⟩
    · have hb1 : ((n : Int) == 1) = false := by rw [beq_eq_false_iff_ne]; omega
      obtain ⟨s1, s2, s3⟩ := Bl.sp_bounds n (by omega) (by omega)
      have HPf := Bl.hid (fun h : i < Bl.sp n => Bl.pathL_left Bl.ndD Bl.zD ds i (by omega) (by omega) (by rw [hdn]; exact h))
      have HPr := Bl.hid (fun h : ¬ i < Bl.sp n => Bl.pathL_right Bl.ndD Bl.zD ds i (by omega) (by omega) (by rw [hdn]; exact h))
      rw [hdn] at HPf HPr
      have Hdn := Bl.hid hdn
      have HR := Bl.hid hR
      have Hd := Bl.hid hd
      have Hg := Bl.hid hg
      clear hR hd hg
      go_enter Tryd.func24, Tryd.ntmps24
      go_wp2_with fail
      refine (refsplit_any _ _ (by omega) (by omega)).mono ?_
      rintro e w3 ⟨rfl, hw3⟩
      subst hw3
      rw [Int.toNat_natCast]
      obtain ⟨b, o, cc, hpe, hp1, hp2, hbl, hrg⟩ := Bl.RdD.pos (by have h := HR.out; rw [← Hdn.out] at h; exact h) Hd.out (by omega)
      injection hpe with hpe1 hpe2 hpe3
      clear hpe2 hpe3 hp1 hp2 hbl hrg hdn
      subst hpe1
      obtain ⟨q, hq⟩ : ∃ q, q = Bl.sp n := ⟨_, rfl⟩
      rw [← hq] at s1 s2 s3 HPf HPr ⊢
      clear hq
      have hx1 : (q : Int) < (n : Int) := by omega
      have hx2 : ¬ (q = c) := by omega
      have hx3 : (0 : Int) ≤ (q : Int) := by omega
      have hx4 : (q : Int) ≤ (n : Int) := by omega
      have hx5 : (q : Int) ≤ (c : Int) := by omega
      have hx6 : (n : Int) ≤ (c : Int) := by omega
      have Htk := Bl.hid (Bl.RdD.take (by have h := HR.out; rw [← Hdn.out] at h; exact h) Hd.out q (by rw [Hdn.out]; omega))
      have Hdr : Hid (Bl.RdD w (.slice (some ⟨b, o + q * 32, none⟩) (n - q) (c - q)) (ds.drop q)) := Bl.hid (by have h := Bl.RdD.drop (by have h := HR.out; rw [← Hdn.out] at h; exact h) Hd.out q (by rw [Hdn.out]; omega); rw [Hdn.out] at h; exact h)
      have Htl : Hid ((ds.take q).length = q) := Bl.hid (by rw [List.length_take, Hdn.out]; omega)
      have Hdl : Hid ((ds.drop q).length = n - q) := Bl.hid (by rw [List.length_drop, Hdn.out])
      by_cases hiq : i < q
      · have HP := Bl.hid (HPf.out hiq)
        have hlt' : (i : Int) < (q : Int) := by omega
        have HM : Hid (∀ w2, Bl.Ext w w2 → Calls Tryd.prog 24 #[.slice (some ⟨b, o, none⟩) q c, .int .i64 i] w2 fun e w' => ∃ v', e = .returned v' ∧ Bl.OwnD w' v' w2.heap.size 25 (Bl.pathL Bl.ndD Bl.zD (ds.take q) i) ∧ Bl.Ext w2 w') := Bl.hid fun w2 h2 =>
          IH.out q (by omega) (ds.take q) i _ w2 Htl.out (by omega) hiq (Hd.out.take q) (Bl.Rds.ext Htk.out h2) (Hg.out.ext h2)
        have HO : Hid (∀ w2, Bl.Ext w w2 → Calls Tryd.prog 35 #[.slice (some ⟨b, o + q * 32, none⟩) (n - q) (c - q)] w2 fun e w' => e = .returned (.agg (Bl.ints .u8 (Bl.overD (ds.drop q))).toArray) ∧ Bl.Ext w2 w') := Bl.hid fun w2 h2 =>
          refover_any (n - q) (ds.drop q) _ w2 Hdl.out (by omega) (Hd.out.drop q) (Bl.Rds.ext Hdr.out h2) (Hg.out.ext h2)
        have Hol := Bl.hid (Bl.overD_dig _ (ds.drop q) rfl (Hd.out.drop q) (by rw [Hdl.out]; omega))
        have Hpl : Hid ((Bl.pathL Bl.ndD Bl.zD (ds.take q) i).length ≤ 512) := Bl.hid (by
          rw [Bl.pathL_len _ _ _ _ _ (Nat.le_refl _) (by rw [Htl.out]; omega), Htl.out]
          have := Bl.turnsL_len q q i (Nat.le_refl _) (by omega); omega)
        have HPd : Hid (Bl.pathL Bl.ndD Bl.zD ds i = Bl.pathL Bl.ndD Bl.zD (ds.take q) i ++ [Bl.overD (ds.drop q)]) := HP
        obtain ⟨d, hd⟩ : ∃ d, d = Bl.overD (ds.drop q) := ⟨_, rfl⟩
        rw [← hd] at HO Hol HPd
        obtain ⟨P1, hP1⟩ : ∃ P1, P1 = Bl.pathL Bl.ndD Bl.zD (ds.take q) i := ⟨_, rfl⟩
        rw [← hP1] at HM Hpl HPd
        clear hd hP1 HP HPf HPr IH
        go_wp2_with fail
        apply Bl.wp_region_ev 10 [15, 16, 17, 18, 19, 20, 21, 22, 23, 24] [Bl.eqv _, Bl.eqv _, Bl.eqv (.slice (some ⟨b, o, none⟩) q c), Bl.eqv _, (fun v w' => Bl.OwnD w' v w.heap.size 25 P1), Bl.eqv _, Bl.eqv _, Bl.eqv (.slice (some ⟨b, o + q * 32, none⟩) (n - q) (c - q)), Bl.eqv _, (fun v w' => Bl.Rds w' v 1 (Bl.cellsD [d]))] (by kernel_rfl) (by kernel_rfl) (by kernel_rfl) (by kernel_rfl)
        case hsteps =>
          refine ⟨?_, ?_, ?_, ?_, ?_, ?_, ?_, ?_, ?_, ?_, trivial⟩
          all_goals
            intro ev w1 hext hb hd
            have e0 := hb 0 (by decide)
            have e1 := hb 1 (by decide)
            have e5 := hb 5 (by decide)
            clear hb
            simp only [Array.getD_eq_getD_getElem?, List.getElem?_toArray, List.getElem?_cons_succ, List.getElem?_cons_zero, Option.getD_some] at e0 e1 e5
            simp only [Bl.DepsE, List.getElem?_cons_succ, List.getElem?_cons_zero, Option.bind_some, List.getD_cons_succ, List.getD_cons_zero, Bl.eqv, and_true] at hd
            have hc := (Bl.bcell hext).1
            simp only [Bl.Good, Region.wanted, if_true]
            first
            | exact Bl.goodR_build1 tArr (by decide) hd (by simp [Hol.out.1]) (Bl.rds_dig w1 25 d Hol.out.1)
            | (go_simp; first | (go_at_call 24; (with_reducible refine (HM.out _ hext).mono ?_); rintro e w2 ⟨v2, rfl, hO2, hE2⟩; exact ⟨_, rfl, hE2, hO2.mono hext.size⟩) | (go_at_call 35; (with_reducible refine (HO.out _ hext).mono ?_); rintro e w2 ⟨rfl, hE2⟩; exact ⟨_, rfl, hE2, rfl⟩) | exact ⟨Below.refl _ _, by rw [if_neg (by omega)]; rfl⟩ | exact ⟨Below.refl _ _, rfl⟩)
        case hmono => exact ⟨Bl.mono_eqv _, Bl.mono_eqv _, (Bl.mono_eqv _), Bl.mono_eqv _, (fun _ _ _ h k => Bl.OwnD.ext h k), Bl.mono_eqv _, Bl.mono_eqv _, (Bl.mono_eqv _), Bl.mono_eqv _, (fun _ _ _ h k => Bl.Rds.ext h k), trivial⟩
        case hend =>
          intro u w1 hext hend
          simp only [Bl.EndE, List.getElem?_cons_succ, List.getElem?_cons_zero, Option.bind_some, List.getD_cons_succ, List.getD_cons_zero, Bl.eqv, true_and] at hend
          simp only [Bl.fillAct, List.setIfInBounds_toArray, List.set_cons_succ, List.set_cons_zero, List.drop_succ_cons, List.drop_zero, hend]
          have hnew := Bl.hid hend.2
          obtain ⟨p2, c2, hq2, hown⟩ := hend.1.1.1.1.1.2
          rw [hq2]
          have Hown := Bl.hid hown
          have HE := Bl.hid hext
          clear hext hend hown hq2
          go_wp2_with (with_reducible refine Bl.stop_append ?_)
          refine Bl.go_on ?_
          refine Bl.wpL_app tArr Hown.out hnew.out rfl rfl (by rw [Bl.cellsD_one, Bl.ints_length, Hol.out.1]) (Bl.cellsD_one' _) (by have := Hpl.out; unfold maxLen; omega) (by have := Hpl.out; omega) HE.out.size ?_
          intro q3 d3 w9 hown9 hg9 hB9 hK9 hn9 hc9
          have Hown9 := Bl.hid hown9
          have HE9 : Hid (Bl.Ext w w9) := Bl.hid (Below.trans HE.out hB9)
          clear hown9 hg9 hB9 hK9
          go_wp2_with fail
          go_ret
          refine ⟨_, rfl, ?_, HE9.out⟩
          rw [HPd.out]
          refine ⟨q3, d3, by rw [List.length_append]; rfl, ?_⟩
          rw [List.length_append, Bl.cellsD_append]
          exact Hown9.out
      · have HP := Bl.hid (HPr.out hiq)
        have hlt' : ¬ ((i : Int) < (q : Int)) := by omega
        have e2 : ((i - q : Nat) : Int) = (i : Int) - (q : Int) := by omega
        have HM : Hid (∀ w2, Bl.Ext w w2 → Calls Tryd.prog 24 #[.slice (some ⟨b, o + q * 32, none⟩) (n - q) (c - q), .int .i64 ((i : Int) - (q : Int))] w2 fun e w' => ∃ v', e = .returned v' ∧ Bl.OwnD w' v' w2.heap.size 25 (Bl.pathL Bl.ndD Bl.zD (ds.drop q) (i - q)) ∧ Bl.Ext w2 w') := Bl.hid fun w2 h2 => by
          rw [← e2]
          exact IH.out (n - q) (by omega) (ds.drop q) (i - q) _ w2 Hdl.out (by omega) (by omega) (Hd.out.drop q) (Bl.Rds.ext Hdr.out h2) (Hg.out.ext h2)
        have HO : Hid (∀ w2, Bl.Ext w w2 → Calls Tryd.prog 35 #[.slice (some ⟨b, o, none⟩) q c] w2 fun e w' => e = .returned (.agg (Bl.ints .u8 (Bl.overD (ds.take q))).toArray) ∧ Bl.Ext w2 w') := Bl.hid fun w2 h2 =>
          refover_any q (ds.take q) _ w2 Htl.out (by omega) (Hd.out.take q) (Bl.Rds.ext Htk.out h2) (Hg.out.ext h2)
        have Hol := Bl.hid (Bl.overD_dig _ (ds.take q) rfl (Hd.out.take q) (by rw [Htl.out]; omega))
        have Hpl : Hid ((Bl.pathL Bl.ndD Bl.zD (ds.drop q) (i - q)).length ≤ 512) := Bl.hid (by
          rw [Bl.pathL_len _ _ _ _ _ (Nat.le_refl _) (by rw [Hdl.out]; omega), Hdl.out]
          have := Bl.turnsL_len (n - q) (n - q) (i - q) (Nat.le_refl _) (by omega); omega)
        have HPd : Hid (Bl.pathL Bl.ndD Bl.zD ds i = Bl.pathL Bl.ndD Bl.zD (ds.drop q) (i - q) ++ [Bl.overD (ds.take q)]) := HP
        obtain ⟨d, hd⟩ : ∃ d, d = Bl.overD (ds.take q) := ⟨_, rfl⟩
        rw [← hd] at HO Hol HPd
        obtain ⟨P1, hP1⟩ : ∃ P1, P1 = Bl.pathL Bl.ndD Bl.zD (ds.drop q) (i - q) := ⟨_, rfl⟩
        rw [← hP1] at HM Hpl HPd
        have hw1 : IntKind.i64.wrap ((i : Int) - (q : Int)) = (i : Int) - (q : Int) := IntWalk.i64_in _ (by omega)
        clear hd hP1 HP HPf HPr IH e2
        go_wp2_with fail
        apply Bl.wp_region_ev 12 [26, 27, 28, 29, 30, 31, 32, 33, 34, 35, 36, 37] [Bl.eqv _, Bl.eqv _, Bl.eqv (.slice (some ⟨b, o + q * 32, none⟩) (n - q) (c - q)), Bl.eqv _, Bl.eqv _, Bl.eqv (.int .i64 ((i : Int) - (q : Int))), (fun v w' => Bl.OwnD w' v w.heap.size 25 P1), Bl.eqv _, Bl.eqv _, Bl.eqv (.slice (some ⟨b, o, none⟩) q c), Bl.eqv _, (fun v w' => Bl.Rds w' v 1 (Bl.cellsD [d]))] (by kernel_rfl) (by kernel_rfl) (by kernel_rfl) (by kernel_rfl)
        case hsteps =>
          refine ⟨?_, ?_, ?_, ?_, ?_, ?_, ?_, ?_, ?_, ?_, ?_, ?_, trivial⟩
          all_goals
            intro ev w1 hext hb hd
            have e0 := hb 0 (by decide)
            have e1 := hb 1 (by decide)
            have e5 := hb 5 (by decide)
            clear hb
            simp only [Array.getD_eq_getD_getElem?, List.getElem?_toArray, List.getElem?_cons_succ, List.getElem?_cons_zero, Option.getD_some] at e0 e1 e5
            simp only [Bl.DepsE, List.getElem?_cons_succ, List.getElem?_cons_zero, Option.bind_some, List.getD_cons_succ, List.getD_cons_zero, Bl.eqv, and_true] at hd
            have hc := (Bl.bcell hext).1
            simp only [Bl.Good, Region.wanted, if_true]
            first
            | exact Bl.goodR_build1 tArr (by decide) hd (by simp [Hol.out.1]) (Bl.rds_dig w1 25 d Hol.out.1)
            | (go_simp; first | (go_at_call 24; (with_reducible refine (HM.out _ hext).mono ?_); rintro e w2 ⟨v2, rfl, hO2, hE2⟩; exact ⟨_, rfl, hE2, hO2.mono hext.size⟩) | (go_at_call 35; (with_reducible refine (HO.out _ hext).mono ?_); rintro e w2 ⟨rfl, hE2⟩; exact ⟨_, rfl, hE2, rfl⟩) | exact ⟨Below.refl _ _, by rw [if_neg (by omega)]; rfl⟩ | exact ⟨Below.refl _ _, rfl⟩)
        case hmono => exact ⟨Bl.mono_eqv _, Bl.mono_eqv _, (Bl.mono_eqv _), Bl.mono_eqv _, Bl.mono_eqv _, (Bl.mono_eqv _), (fun _ _ _ h k => Bl.OwnD.ext h k), Bl.mono_eqv _, Bl.mono_eqv _, (Bl.mono_eqv _), Bl.mono_eqv _, (fun _ _ _ h k => Bl.Rds.ext h k), trivial⟩
        case hend =>
          intro u w1 hext hend
          simp only [Bl.EndE, List.getElem?_cons_succ, List.getElem?_cons_zero, Option.bind_some, List.getD_cons_succ, List.getD_cons_zero, Bl.eqv, true_and] at hend
          simp only [Bl.fillAct, List.setIfInBounds_toArray, List.set_cons_succ, List.set_cons_zero, List.drop_succ_cons, List.drop_zero, hend]
          have hnew := Bl.hid hend.2
          obtain ⟨p2, c2, hq2, hown⟩ := hend.1.1.1.1.1.2
          rw [hq2]
          have Hown := Bl.hid hown
          have HE := Bl.hid hext
          clear hext hend hown hq2 hw1
          go_wp2_with (with_reducible refine Bl.stop_append ?_)
          refine Bl.go_on ?_
          refine Bl.wpL_app tArr Hown.out hnew.out rfl rfl (by rw [Bl.cellsD_one, Bl.ints_length, Hol.out.1]) (Bl.cellsD_one' _) (by have := Hpl.out; unfold maxLen; omega) (by have := Hpl.out; omega) HE.out.size ?_
          intro q3 d3 w9 hown9 hg9 hB9 hK9 hn9 hc9
          have Hown9 := Bl.hid hown9
          have HE9 : Hid (Bl.Ext w w9) := Bl.hid (Below.trans HE.out hB9)
          clear hown9 hg9 hB9 hK9
          go_wp2_with fail
          go_ret
          refine ⟨_, rfl, ?_, HE9.out⟩
          rw [HPd.out]
          refine ⟨q3, d3, by rw [List.length_append]; rfl, ?_⟩
          rw [List.length_append, Bl.cellsD_append]
          exact Hown9.out

/-- path.Make where there is no such leaf -/
theorem pmake_no (v : Value) (ps : List (List Int)) (i : Int) (w : World) (a : Addr) (hR : Bl.Rdss w v ps) (hF : w.cell? ⟨2, 0, none⟩ = some (.iface 128 (.pointer (some a)))) (hi : ¬ ((ps.length : Int) ≤ 512 ∧ 0 ≤ i ∧ i < ps.length)) :
    Calls Tryd.prog 19 #[v, .int .i64 i] w fun e w' => e = .returned (.tuple #[.slice none 0 0, .iface 128 (.pointer (some a))]) ∧ Bl.Ext w w' := by
  obtain ⟨vs, hvs, hvl, hvr⟩ := hR
  obtain ⟨p, c, hvf, hvn, hvc⟩ := hvs.form
  subst hvf
  unfold maxLen at hvc
  have hth := Bl.hid (Bl.thereB_no hi)
  clear hvs hvl hvr hi
  go_enter Tryd.func19, Tryd.ntmps19
  go_wp2_with fail
  refine (there_any _ _ _).mono ?_
  rintro e w1 ⟨rfl, hw⟩
  subst hw
  rw [hth.out]
  go_wp2_with fail
  go_quiet (fail)
  go_wp2_with fail
  go_ret2
  exact ⟨rfl, (Below.refl _ _).drewN _⟩
end Go.Proofs.YtjmkcenkjnoblaaDoor

/- Walk of the law PathMakes. -/
import Derived.Test.YtjmkcenkjnoblaaDoorWRefFold
import Derived.Test.YtjmkcenkjnoblaaDoorWAl13
import Derived.Test.YtjmkcenkjnoblaaDoorWNumN
import Derived.Test.YtjmkcenkjnoblaaDoorWRoots
namespace Go.Proofs.YtjmkcenkjnoblaaDoor
open Go.RowKit Go.Proofs

set_option maxRecDepth 100000 in
set_option maxHeartbeats 2000000 in
theorem makes_all (v : Value) (ps : List (List Int)) (i n : Int) (w : World) (S : List Nat) (a : Nat → Addr) (hR : Bl.Rdss w v ps) (hby : ∀ p ∈ ps, Bl.Byt p) (hg : GlobR w) (hS : ∀ i, 1 ≤ i → i ≤ 20 → i ∈ S) (he : Errs S a w) :
    Calls Tryd.prog 6 #[v, .int .i64 i, .int .i64 n] w fun e w' => e = .returned (.bool true) ∧ Bl.Ext w w' := by
  have hR2 := hR
  obtain ⟨ws, hv, hwl, hws⟩ := hR2
  obtain ⟨p, c, hvf, hvn, hvc⟩ := hv.form
  subst hvf
  unfold maxLen at hvc
  have HR := Bl.hid hR
  have Hg := Bl.hid hg
  have Hby := Bl.hid hby
  have Hv := Bl.hid hv
  have Hwl := Bl.hid hwl
  have Hws := Bl.hid hws
  have HS := Bl.hid hS
  have He := Bl.hid he
  clear hR hg hby hv hwl hws hS he
  go_enter Tryd.func6, Tryd.ntmps6
  go_wp2_with fail
  refine (alive13 w Hg.out).mono ?_
  rintro e w1 ⟨rfl, hE1⟩
  have HE1 := Bl.hid hE1
  clear hE1
  go_wp2_with fail
  refine (long_any _ ps w1 40 (Bl.Rdss.ext HR.out HE1.out)).mono ?_
  rintro e w2 ⟨hw2, hlo⟩
  replace hw2 := hw2.symm
  subst hw2
  rcases hlo with rfl | ⟨rfl, hl, hlp⟩
  · go_wp2_with fail
    go_ret
    exact ⟨rfl, HE1.out⟩
  · have Hlp : Hid (∀ p ∈ ps, p.length ≤ 200) := Bl.hid hlp
    have hl40 : ps.length ≤ 40 := by omega
    clear hlp hl
    by_cases hin : 0 ≤ i ∧ i < (ps.length : Int)
    · obtain ⟨hi0, hi1⟩ := hin
      obtain ⟨j, rfl⟩ := Int.eq_ofNat_of_zero_le hi0
      have hj : j < ps.length := by omega
      have HPe : Hid (Bl.pathL Bl.ndD Bl.zD (ps.map Bl.lfD) j = Bl.pathD ps j) := Bl.hid rfl
      have HPl : Hid ((Bl.pathD ps j).length = (Bl.turnsL ps.length j).length) := Bl.hid (by rw [Bl.pathD, Bl.pathL_len _ _ _ _ _ (Nat.le_refl _) (by rw [List.length_map]; omega), List.length_map])
      have HPd : Hid (Bl.Dig (Bl.pathD ps j)) := Bl.hid (Bl.dig_path _ _ _ (Nat.le_refl _) (by rw [List.length_map]; omega) (Bl.dig_leaves ps))
      have Hrf : Hid (Bl.foldP Bl.ndD ps.length j (Bl.lfD (ps.getD j [])) (Bl.pathD ps j) = Bl.rootD ps) := Bl.hid (by
        have h := Bl.foldP_path Bl.ndD Bl.zD _ (ps.map Bl.lfD) j (Nat.le_refl _) (by rw [List.length_map]; omega) (by rw [List.length_map]; omega)
        rw [List.length_map, Bl.getD_map Bl.lfD ps j [] Bl.zD hj] at h
        exact h)
      obtain ⟨PD, hPD⟩ : ∃ PD, PD = Bl.pathD ps j := ⟨_, rfl⟩
      have HM : Hid (∀ w2, Bl.Ext w1 w2 → Calls Tryd.prog 19 #[.slice p ps.length c, .int .i64 j] w2 fun e w' => ∃ v', e = .returned (.tuple #[v', .nilIface]) ∧ Bl.RdD w' v' PD ∧ Bl.Ext w2 w') := Bl.hid fun w2 h2 => by
        rw [hPD]; exact pmake_any _ ps j w2 (Bl.Rdss.ext HR.out (HE1.out.trans h2)) (Hg.out.ext (HE1.out.trans h2)) Hby.out (fun q hq => by have := Hlp.out q hq; omega) (by omega) hj
      rw [← hPD] at HPe HPl HPd Hrf
      clear hPD
      go_wp2_with fail
      refine (HM.out w1 (Below.refl _ _)).mono ?_
      rintro e w2 ⟨vp, rfl, hRp, hE2⟩
      obtain ⟨pp, cp, hvpf, _, _⟩ := hRp.form
      subst hvpf
      have HRp := Bl.hid hRp
      have HE2 := Bl.hid (HE1.out.trans hE2)
      clear hRp hE2 HM
      go_wp2_with fail
      refine (length_any _ _ _).mono ?_
      rintro e w3 ⟨rfl, hE3⟩
      have HRp3 := Bl.hid (Bl.Rds.ext HRp.out hE3)
      have HE3 := Bl.hid (HE2.out.trans hE3)
      clear hE3 HRp HE2
      go_wp2_with fail
      refine (reflen_any _ _ _).mono ?_
      rintro e w4 ⟨rfl, hw4⟩
      subst hw4
      obtain ⟨LL, hLL⟩ : ∃ LL, LL = Bl.lenP n (j : Int) := ⟨_, rfl⟩
      rw [← hLL]
      clear hLL
      go_wp2_with fail
      refine (refleaves_any _ ps w3 (Bl.Rdss.ext HR.out HE3.out) (Hg.out.ext HE3.out) Hby.out (fun q hq => by have := Hlp.out q hq; omega) (by omega)).mono ?_
      rintro e w5 ⟨pl, cl, rfl, hown5, hE5⟩
      have HL5 : Hid (Bl.RdD w5 (.slice pl ps.length cl) (ps.map Bl.lfD)) := Bl.hid (by show Bl.Rds w5 _ (ps.map Bl.lfD).length _; rw [List.length_map]; exact Bl.Rds.of_owns hown5)
      have HRp5 := Bl.hid (Bl.Rds.ext HRp3.out hE5)
      have HE5 := Bl.hid (HE3.out.trans hE5)
      clear hown5 hE5 HRp3 HE3
      go_wp2_with fail
      refine (refmake_nat ps.length (ps.map Bl.lfD) j _ w5 (List.length_map _) (by omega) hj (Bl.dig_leaves ps) HL5.out (Hg.out.ext HE5.out)).mono ?_
      rintro e w6 ⟨vm, rfl, hO6, hE6⟩
      rw [HPe.out] at hO6
      have HRm := Bl.hid hO6.rd
      obtain ⟨pm, cm, hvmf, _⟩ := hO6
      subst hvmf
      have HRp6 := Bl.hid (Bl.Rds.ext HRp5.out hE6)
      have HE6 := Bl.hid (HE5.out.trans hE6)
      clear hE6 HRp5 HE5 HL5
      obtain ⟨b, o, hpe, hbl, hcell0⟩ := Bl.Rdss.cell' (Hv.out.ext HE6.out) Hwl.out j hj
      subst hpe
      have hRk0 := Hws.out j hj
      obtain ⟨pk, ck, hfk, _, _⟩ := hRk0.form
      rw [hfk] at hcell0
      have hRk : Bl.Rd w6 .u8 (.slice pk (ps.getD j []).length ck) (ps.getD j []) := by rw [hfk] at hRk0; exact hRk0.ext HE6.out
      have hmem : ps.getD j [] ∈ ps := by rw [List.getD_eq_getElem?_getD, List.getElem?_eq_getElem hj]; exact List.getElem_mem hj
      have HSm : Hid (∀ w2, Bl.Ext w6 w2 → Calls Tryd.prog 26 #[.slice pp PD.length cp, .slice pm PD.length cm] w2 fun e w' => e = .returned (.bool true) ∧ Bl.Ext w2 w') := Bl.hid fun w2 h2 => by
        have h := same13_any _ _ PD PD w2 (Bl.Rds.ext HRp6.out h2) (Bl.Rds.ext HRm.out h2) HPd.out HPd.out
        rw [decide_eq_true rfl] at h
        exact h
      have HRt : Hid (∀ w2, Bl.Ext w6 w2 → Calls Tryd.prog 16 #[.slice (some ⟨b, o, none⟩) ps.length c] w2 fun e w' => e = .returned (.agg (Bl.ints .u8 (Bl.rootD ps)).toArray) ∧ Bl.Ext w2 w') := Bl.hid fun w2 h2 =>
        refroot_any _ ps w2 (Bl.Rdss.ext HR.out (HE6.out.trans h2)) (Hg.out.ext (HE6.out.trans h2)) Hby.out (fun q hq => by have := Hlp.out q hq; omega) (by omega)
      have HCk : Hid (∀ w2, Bl.Ext w6 w2 → Calls Tryd.prog 15 #[.agg (Bl.ints .u8 (Bl.rootD ps)).toArray, .int .i64 ps.length, .int .i64 j, .slice pk (ps.getD j []).length ck, .slice pp PD.length cp] w2 fun e w' => e = .returned .nilIface ∧ Bl.Ext w2 w') := Bl.hid fun w2 h2 => by
        have h := pcheck_any (Bl.rootD ps) ps.length j _ _ (ps.getD j []) PD w2 S a (He.out.ext (HE6.out.trans h2)) (HS.out 1 (by decide) (by decide)) (HS.out 8 (by decide) (by decide)) (HS.out 15 (by decide) (by decide)) (Bl.rootD_length ps (by omega)) (hRk.ext h2) (Hby.out _ hmem) (by have := Hlp.out _ hmem; omega) (Bl.Rds.ext HRp6.out h2) HPd.out (Hg.out.ext (HE6.out.trans h2))
        rw [Bl.chkP_ok (Bl.thereB_mk (by omega) (by omega) (by omega)) HPl.out Hrf.out, errN_zero] at h
        exact h
      obtain ⟨RD, hRD⟩ : ∃ RD, RD = Bl.rootD ps := ⟨_, rfl⟩
      rw [← hRD] at HRt HCk
      obtain ⟨x0, hx0⟩ : ∃ x0, x0 = ps.getD j [] := ⟨_, rfl⟩
      rw [← hx0] at HCk hcell0
      clear hRk0 hfk hRk hmem hRD hx0
      go_wp2_with fail
      apply Bl.wp_region_ev 21 [47, 48, 49, 50, 51, 52, 53, 54, 55, 56, 57, 58, 59, 60, 61, 62, 63, 64, 65, 66, 67] [Bl.eqv _, Bl.eqv _, Bl.eqv _, Bl.eqv _, Bl.eqv _, Bl.eqv _, Bl.eqv _, Bl.eqv _, Bl.eqv _, Bl.eqv _, Bl.eqv _, Bl.eqv _, Bl.eqv _, Bl.eqv _, Bl.eqv _, Bl.eqv _, Bl.eqv _, Bl.eqv _, Bl.eqv _, Bl.eqv _, Bl.eqv _] (by kernel_rfl) (by kernel_rfl) (by kernel_rfl) (by kernel_rfl)
      case hsteps =>
        refine ⟨?_, ?_, ?_, ?_, ?_, ?_, ?_, ?_, ?_, ?_, ?_, ?_, ?_, ?_, ?_, ?_, ?_, ?_, ?_, ?_, ?_, trivial⟩
        all_goals
          intro ev w1 hext hb hd
          have e0 := hb 0 (by decide)
          have e1 := hb 1 (by decide)
          have e7 := hb 7 (by decide)
          have e8 := hb 8 (by decide)
          have e9 := hb 9 (by decide)
          clear hb
          simp only [Array.getD_eq_getD_getElem?, List.getElem?_toArray, List.getElem?_cons_succ, List.getElem?_cons_zero, Option.getD_some] at e0 e1 e7 e8 e9
          simp only [Bl.DepsE, List.getElem?_cons_succ, List.getElem?_cons_zero, Option.bind_some, List.getD_cons_succ, List.getD_cons_zero, Bl.eqv, and_true] at hd
          have hc := (Bl.bcell hext).1
          have hc1 := (hc _ (o + j) hbl).trans hcell0
          simp only [Bl.Good, Region.wanted, Bl.yieldE, List.getElem?_cons_succ, List.getElem?_cons_zero, Option.bind_some, hd, beq_self_eq_true, if_true]
          go_simp
          first | (go_at_call 26; (with_reducible refine (HSm.out _ hext).mono ?_); rintro e w2 ⟨rfl, hE2⟩; exact ⟨_, rfl, hE2, rfl⟩) | (go_at_call 16; (with_reducible refine (HRt.out _ hext).mono ?_); rintro e w2 ⟨rfl, hE2⟩; exact ⟨_, rfl, hE2, rfl⟩) | (go_at_call 15; (with_reducible refine (HCk.out _ hext).mono ?_); rintro e w2 ⟨rfl, hE2⟩; exact ⟨_, rfl, hE2, rfl⟩) | exact rfl | exact ⟨Below.refl _ _, rfl⟩ | exact ⟨Below.refl _ _, rfl⟩
      case hmono => exact ⟨Bl.mono_eqv _, Bl.mono_eqv _, Bl.mono_eqv _, Bl.mono_eqv _, Bl.mono_eqv _, Bl.mono_eqv _, Bl.mono_eqv _, Bl.mono_eqv _, Bl.mono_eqv _, Bl.mono_eqv _, Bl.mono_eqv _, Bl.mono_eqv _, Bl.mono_eqv _, Bl.mono_eqv _, Bl.mono_eqv _, Bl.mono_eqv _, Bl.mono_eqv _, Bl.mono_eqv _, Bl.mono_eqv _, Bl.mono_eqv _, Bl.mono_eqv _, trivial⟩
      case hend =>
        intro u w1 hext hend
        simp only [Bl.EndE, List.getElem?_cons_succ, List.getElem?_cons_zero, Option.bind_some, List.getD_cons_succ, List.getD_cons_zero, Bl.eqv, true_and] at hend
        simp only [Bl.fillAct, List.setIfInBounds_toArray, List.set_cons_succ, List.set_cons_zero, List.drop_succ_cons, List.drop_zero, hend]
        have HEf := Bl.hid (HE6.out.trans hext)
        clear hext hend
        go_wp2_with fail
        go_ret
        exact ⟨rfl, HEf.out⟩
    · have Hno : Hid (¬ ((ps.length : Int) ≤ 512 ∧ 0 ≤ i ∧ i < ps.length)) := Bl.hid (fun q => hin ⟨q.2.1, q.2.2⟩)
      have hc2 : i < 0 ∨ (¬ i < 0 ∧ (ps.length : Int) ≤ i) := by omega
      have HM : Hid (∀ w2, Bl.Ext w1 w2 → Calls Tryd.prog 19 #[.slice p ps.length c, .int .i64 i] w2 fun e w' => e = .returned (.tuple #[.slice none 0 0, .iface 128 (.pointer (some (a 1)))]) ∧ Bl.Ext w2 w') := Bl.hid fun w2 h2 =>
        pmake_no _ ps i w2 (a 1) (Bl.Rdss.ext HR.out (HE1.out.trans h2)) ((He.out.ext (HE1.out.trans h2)).cell 1 (HS.out 1 (by decide) (by decide))) Hno.out
      have HNm : Hid (∀ w2, Bl.Ext w w2 → Calls Tryd.prog 12 #[.iface 128 (.pointer (some (a 1)))] w2 fun e w' => e = .returned (.int .i64 1) ∧ Bl.Ext w2 w') := Bl.hid fun w2 h2 =>
        num_any S a w2 1 HS.out (He.out.ext h2) (by decide) (by decide)
      clear hin
      go_wp2_with fail
      refine (HM.out w1 (Below.refl _ _)).mono ?_
      rintro e w2 ⟨rfl, hE2⟩
      have HE2 := Bl.hid (HE1.out.trans hE2)
      clear hE2 HM
      go_wp2_with fail
      refine (length_any _ _ _).mono ?_
      rintro e w3 ⟨rfl, hE3⟩
      have HE3 := Bl.hid (HE2.out.trans hE3)
      clear hE3 HE2
      go_wp2_with fail
      refine (reflen_any _ _ _).mono ?_
      rintro e w4 ⟨rfl, hw4⟩
      subst hw4
      obtain ⟨LL, hLL⟩ : ∃ LL, LL = Bl.lenP n i := ⟨_, rfl⟩
      rw [← hLL]
      clear hLL
      rcases hc2 with h1 | ⟨h1, h2⟩
      all_goals
        go_wp2_with fail
        refine (HNm.out w3 HE3.out).mono ?_
        rintro e w5 ⟨rfl, hE5⟩
        have HE5 := Bl.hid (HE3.out.trans hE5)
        clear hE5
        go_wp2_with fail
        go_ret
        exact ⟨rfl, HE5.out⟩
end Go.Proofs.YtjmkcenkjnoblaaDoor

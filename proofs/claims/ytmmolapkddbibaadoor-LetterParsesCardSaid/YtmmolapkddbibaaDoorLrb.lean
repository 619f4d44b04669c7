/- Texts that stood apart, in one: LR5, LR4, LC0. -/
import Derived.Test.YtmmolapkddbibaaDoorLra
import Derived.Test.YtmmolapkddbibaaDoorLR2
import Derived.Test.YtmmolapkddbibaaDoorLR3
import Derived.Test.YtmmolapkddbibaaDoorLtp
/- Walk of baileeref22.laid. -/
namespace Go.Proofs.YtmmolapkddbibaaDoor
open Go Go.RowKit Go.Proofs

set_option maxRecDepth 100000 in
set_option maxHeartbeats 8000000 in
theorem rlaid6_any (v : Value) (l : Bl.LT) (w : World) (h : Bl.LtV w v l) (hk : l.kind = 6) (hn : Bl.numOk l = true) (hz : Bl.sizOk l = true) :
    Calls Tryd.prog 43 #[v] w fun e w' => ∃ v', e = .returned v' ∧ Bl.Rd w' .u8 v' (Bl.bytL l) ∧ Bl.Ext w w' := by
  obtain ⟨cs0, vp, vs, vb, L, rfl, hc⟩ := h
  obtain rfl := hc.eq
  obtain ⟨hid, hoj, hnt⟩ := Bl.numOk_id hn
  obtain ⟨kd, id, oj, pl, sh, fr, ct, bl, cd⟩ := l
  obtain ⟨p1, c1, e1, hc1, hm1⟩ := hc.pl.form
  obtain ⟨p2, c2, e2, hc2, hm2⟩ := hc.sh.rd.form
  obtain ⟨p3, c3, e3, hc3, hm3⟩ := hc.bl.form
  have Hpl : Hid (Bl.Rd w .i64 vp pl) := Bl.hid hc.pl
  have Hsh := Bl.hid hc.sh
  have Hsl : Hid (L.map Bl.plS = sh) := Bl.hid hc.sl
  have Hbl : Hid (Bl.Rdss w vb bl) := Bl.hid hc.bl
  simp only at e1 e2 e3 hk hid hoj hc1 hc3
  subst e1 e2 e3
  clear hc hn
  unfold maxLen at hm1 hm2 hm3
  obtain ⟨np, hnp⟩ : ∃ np, np = pl.length := ⟨_, rfl⟩
  obtain ⟨ns, hns⟩ : ∃ ns, ns = L.length := ⟨_, rfl⟩
  obtain ⟨nb, hnb⟩ : ∃ nb, nb = bl.length := ⟨_, rfl⟩
  have Hnp := Bl.hid hnp
  have Hns := Bl.hid hns
  have Hnb := Bl.hid hnb
  rw [← hnp] at Hpl hc1 ⊢
  rw [← hns] at Hsh hc2 ⊢
  rw [← hnb] at Hbl hc3 ⊢
  clear hnp hns hnb
  have Hnt := Bl.hid hnt
  have Hz := Bl.hid hz
  clear hnt hz
  subst hk
  obtain ⟨W0, hW0⟩ : ∃ W0, W0 = w.alloc (.cells #[.int .i64 6, .int .i64 id, .int .i64 oj, .slice p1 np c1, .slice p2 ns c2, .int .i64 fr, .int .i64 ct, .slice p3 nb c3, .int .i64 cd] 33) := ⟨_, rfl⟩
  have HE0 : Hid (Bl.Ext w W0) := Bl.hid (by rw [hW0]; exact Bl.ext_alloc _ _)
  obtain ⟨CS, hCS⟩ : ∃ CS, CS = Bl.cL ⟨6, id, oj, pl, sh, fr, ct, bl, cd⟩ (.slice p1 np c1) (.slice p2 ns c2) (.slice p3 nb c3) := ⟨_, rfl⟩
  have HB : Hid (Bl.BoxC W0 w.heap.size CS) := Bl.hid (by rw [hW0, hCS]; exact Bl.BoxC.box w 33 (cs := (Bl.cL ⟨6, id, oj, pl, sh, fr, ct, bl, cd⟩ (.slice p1 np c1) (.slice p2 ns c2) (.slice p3 nb c3))) (fun h => by cases h))
  have HC : Hid (CS[0]? = some (.int .i64 6) ∧ CS[1]? = some (.int .i64 id) ∧ CS[2]? = some (.int .i64 oj) ∧ CS[3]? = some (.slice p1 np c1) ∧ CS[4]? = some (.slice p2 ns c2) ∧ CS[5]? = some (.int .i64 fr) ∧ CS[6]? = some (.int .i64 ct) ∧ CS[7]? = some (.slice p3 nb c3) ∧ CS[8]? = some (.int .i64 cd)) := Bl.hid (by rw [hCS]; exact ⟨rfl, rfl, rfl, rfl, rfl, rfl, rfl, rfl, rfl⟩)
  show Calls Tryd.prog 43 #[.agg #[.int .i64 6, .int .i64 id, .int .i64 oj, .slice p1 np c1, .slice p2 ns c2, .int .i64 fr, .int .i64 ct, .slice p3 nb c3, .int .i64 cd]] w _
  obtain ⟨hi1, hi2⟩ := hid
  obtain ⟨hj1, hj2⟩ := hoj
  have hwk : IntKind.u8.wrap 6 = 6 := rfl
  clear hCS
  go_enter Tryd.func43, Tryd.ntmps43
  go_wp2_with fail
  rw [← hW0]
  clear hW0
  apply Bl.wp_region_ev 7 [12, 13, 14, 15, 16, 17, 18] [Bl.eqv _, Bl.eqv _, Bl.eqv _, (fun v w' => Bl.Pk w' (w.heap.size + 1) 1 v 1 [.int .u8 6]), Bl.eqv _, Bl.eqv _, (fun v w' => Bl.SlB w' v (Bl.numL id))] (by kernel_rfl) (by kernel_rfl) (by kernel_rfl) (by kernel_rfl)
  case hsteps =>
    refine ⟨?_, ?_, ?_, ?_, ?_, ?_, ?_, trivial⟩
    all_goals
      intro ev w1 hext hb hd
      have e1 := hb 1 (by decide)
      clear hb
      simp only [Array.getD_eq_getD_getElem?, List.getElem?_toArray, List.getElem?_cons_succ, List.getElem?_cons_zero, Option.getD_some] at e1
      simp only [Bl.DepsE, List.getElem?_cons_succ, List.getElem?_cons_zero, Option.bind_some, List.getD_cons_succ, List.getD_cons_zero, Bl.eqv, and_true] at hd
      have hc := (Bl.bcell hext).1
      have q0 := (HB.out.ext hext).cell HC.out.1
      have q1 := (HB.out.ext hext).cell HC.out.2.1
      simp only [Bl.Good, Region.wanted, if_true]
      go_simp
      first | exact ⟨Bl.ext_alloc _ _, Bl.pk_new1 _ _ _ (HB.out.ext hext).lt⟩ | (go_at_call 65; (with_reducible refine (rnumber_any id w1 hi1 hi2).mono ?_); rintro e w2 ⟨v', rfl, h1, h2⟩; exact ⟨_, rfl, h2, h1⟩) | exact ⟨Below.refl _ _, by rw [hwk]; rfl⟩ | exact ⟨Below.refl _ _, rfl⟩
  case hmono => exact ⟨Bl.mono_eqv _, Bl.mono_eqv _, Bl.mono_eqv _, (fun _ _ _ h k => Bl.Pk.ext h k), Bl.mono_eqv _, Bl.mono_eqv _, (fun _ _ _ h k => Bl.SlB.ext h k), trivial⟩
  case hend =>
    intro u w1 hext hend
    simp only [Bl.EndE, List.getElem?_cons_succ, List.getElem?_cons_zero, Option.bind_some, List.getD_cons_succ, List.getD_cons_zero, Bl.eqv, true_and] at hend
    simp only [Bl.fillAct, List.setIfInBounds_toArray, List.set_cons_succ, List.set_cons_zero, List.drop_succ_cons, List.drop_zero, hend]
    have hp15 : Bl.Pk w1 (w.heap.size + 1) 1 (u 15) 1 [.int .u8 6] := (by first | exact hend | exact hend.2 | exact hend.1.2 | exact hend.1.1.2 | exact hend.1.1.1.2 | exact hend.1.1.1.1.2 | exact hend.1.1.1.1.1.2 | exact hend.1.1.1.1.1.1.2 | exact hend.1.1.1.1.1.1.1.2 | exact hend.1.1.1.1.1.1.1.1.2 | exact hend.1.1.1.1.1.1.1.1.1.2 | exact hend.1.1.1.1.1.1.1.1.1.1.2 | exact hend.1.1.1.1.1.1.1.1.1.1.1.2 | exact hend.1.1.1.1.1.1.1.1.1.1.1.1.2 | exact hend.1.1.1.1.1.1.1.1.1.1.1.1.1.2 | exact hend.1 | exact hend.1.1 | exact hend.1.1.1 | exact hend.1.1.1.1 | exact hend.1.1.1.1.1 | exact hend.1.1.1.1.1.1 | exact hend.1.1.1.1.1.1.1 | exact hend.1.1.1.1.1.1.1.1 | exact hend.1.1.1.1.1.1.1.1.1 | exact hend.1.1.1.1.1.1.1.1.1.1 | exact hend.1.1.1.1.1.1.1.1.1.1.1 | exact hend.1.1.1.1.1.1.1.1.1.1.1.1 | exact hend.1.1.1.1.1.1.1.1.1.1.1.1.1 | exact hend.2.1 | exact hend.2.2.1 | exact hend.2.2.2.1 | exact hend.2.2.2.2.1 | exact hend.2.2.2.2.2.1 | exact hend.2.2.2.2.2.2.1 | exact hend.2.2.2.2.2.2.2.1 | exact hend.2.2.2.2.2.2.2.2.1 | exact hend.2.2.2.2.2.2.2.2.2.1 | exact hend.2.2.2.2.2.2.2.2.2.2.1 | exact hend.2.2.2.2.2.2.2.2.2.2.2.1 | exact hend.2.2.2.2.2.2.2.2.2.2.2.2.1 | exact hend.2.2.2.2.2.2.2.2.2.2.2.2.2.1)
    have hs18 : Bl.SlB w1 (u 18) (Bl.numL id) := (by first | exact hend | exact hend.2 | exact hend.1.2 | exact hend.1.1.2 | exact hend.1.1.1.2 | exact hend.1.1.1.1.2 | exact hend.1.1.1.1.1.2 | exact hend.1.1.1.1.1.1.2 | exact hend.1.1.1.1.1.1.1.2 | exact hend.1.1.1.1.1.1.1.1.2 | exact hend.1.1.1.1.1.1.1.1.1.2 | exact hend.1.1.1.1.1.1.1.1.1.1.2 | exact hend.1.1.1.1.1.1.1.1.1.1.1.2 | exact hend.1.1.1.1.1.1.1.1.1.1.1.1.2 | exact hend.1.1.1.1.1.1.1.1.1.1.1.1.1.2 | exact hend.1 | exact hend.1.1 | exact hend.1.1.1 | exact hend.1.1.1.1 | exact hend.1.1.1.1.1 | exact hend.1.1.1.1.1.1 | exact hend.1.1.1.1.1.1.1 | exact hend.1.1.1.1.1.1.1.1 | exact hend.1.1.1.1.1.1.1.1.1 | exact hend.1.1.1.1.1.1.1.1.1.1 | exact hend.1.1.1.1.1.1.1.1.1.1.1 | exact hend.1.1.1.1.1.1.1.1.1.1.1.1 | exact hend.1.1.1.1.1.1.1.1.1.1.1.1.1 | exact hend.2.1 | exact hend.2.2.1 | exact hend.2.2.2.1 | exact hend.2.2.2.2.1 | exact hend.2.2.2.2.2.1 | exact hend.2.2.2.2.2.2.1 | exact hend.2.2.2.2.2.2.2.1 | exact hend.2.2.2.2.2.2.2.2.1 | exact hend.2.2.2.2.2.2.2.2.2.1 | exact hend.2.2.2.2.2.2.2.2.2.2.1 | exact hend.2.2.2.2.2.2.2.2.2.2.2.1 | exact hend.2.2.2.2.2.2.2.2.2.2.2.2.1 | exact hend.2.2.2.2.2.2.2.2.2.2.2.2.2.1)
    obtain ⟨b18, o18, c18, hv18', hr18⟩ := Bl.slb_pos hs18 (show 0 < 8 by decide)
    have hv18 : u 18 = .slice (some ⟨b18, o18, none⟩) 8 c18 := hv18'
    have HA0 : Hid (Bl.Acc w CS w1 (u 15) 1 [6]) := Bl.hid ⟨HB.out.ext hext, hp15, HE0.out.trans hext⟩
    obtain ⟨v15, hv15⟩ : ∃ v15, v15 = u 15 := ⟨_, rfl⟩
    rw [← hv15] at HA0
    rw [← hv15, hv18]
    have R18 := Bl.hid hr18
    clear hp15 hs18 hv18 hv18' hr18 hv15 hend hext HB hwk HE0
    obtain ⟨p15, c15, rfl⟩ := HA0.out.form
    go_wp2_with (with_reducible refine Bl.stop_append ?_)
    refine Bl.go_on ?_
    refine Bl.wpL_appPk tBytes HA0.out.own R18.out rfl (Bl.ints_one _ _) (by decide) (by decide) (by decide) HA0.out.le rfl rfl ?_
    intro vHA1 wHA1 hp hg hk
    have h : Bl.Acc w CS wHA1 vHA1 (9) (6 :: Bl.numL id) := HA0.out.push hp hg
    obtain ⟨pHA1, cHA1, rfl⟩ := h.form
    have HA1 := Bl.hid h
    clear hp hg hk h HA0
    have q2 := HA1.out.box.cell HC.out.2.2.1
    go_wp2_with fail
    refine (rnumber_any oj _ hj1 hj2).mono ?_
    rintro e wx ⟨vx, rfl, hsx, hEx⟩
    obtain ⟨bx, ox, cx, hvx', hrx⟩ := Bl.slb_pos hsx (show 0 < 8 by decide)
    have hvx : vx = .slice (some ⟨bx, ox, none⟩) 8 cx := hvx'
    clear hvx'
    subst hvx
    have HAx := Bl.hid (HA1.out.ext' hEx)
    have Rx := Bl.hid hrx
    clear hsx hEx hrx q2 HA1
    go_wp2_with (with_reducible refine Bl.stop_append ?_)
    refine Bl.go_on ?_
    refine Bl.wpL_appPk tBytes HAx.out.own Rx.out rfl (Bl.ints_one _ _) (by decide) (by decide) (by decide) HAx.out.le rfl rfl ?_
    intro vHA2 wHA2 hp hg hk
    have h : Bl.Acc w CS wHA2 vHA2 (17) (6 :: (Bl.numL id ++ Bl.numL oj)) := HAx.out.push hp hg
    obtain ⟨pHA2, cHA2, rfl⟩ := h.form
    have HA2 := Bl.hid h
    clear hp hg hk h HAx
    have q0 := HA2.out.box.cell HC.out.1
    · have hnb1 : Hid ((1 ≤ nb ∧ nb ≤ 512) ∧ ∀ b ∈ bl, Bl.badB b = false) := Bl.hid (by
        have h : (Bl.wi bl.length 1 512 && !bl.any Bl.badB) = true := Hz.out
        rw [Bool.and_eq_true] at h
        have h1 := Bl.wi_iff.1 h.1
        exact ⟨by have := Hnb.out; omega, Bl.any_false h.2⟩)
      have hb1 : (nb : Int) ≤ 512 := by have := hnb1.out.1.2; omega
      have hb0 : (0 : Int) ≤ (nb : Int) := by omega
      have Hfl : Hid (bl.flatten.length = nb * 16) := Bl.hid (by rw [Hnb.out]; exact Bl.flat_const 16 bl (fun x hx => Bl.badB_not (hnb1.out.2 x hx)))
      have hf2 : Bl.wi fr 0 511 = true := Hnt.out
      have hf3 := Bl.wi_iff.1 hf2
      have hfr0 : 0 ≤ fr := hf3.1
      have hfr1 : fr ≤ 65535 := by omega
      clear hf2 hf3
      have HV : Hid (Bl.bytL ⟨6, id, oj, pl, sh, fr, ct, bl, cd⟩ = 6 :: (Bl.numL id ++ Bl.numL oj) ++ Bl.twoL fr ++ Bl.twoL nb ++ bl.flatten) := Bl.hid (by unfold Bl.bytL Bl.tailL; simp [Hnb.out])
      have q5 := HA2.out.box.cell HC.out.2.2.2.2.2.1
      go_wp2_with fail
      refine (rtwo2_any fr _ hfr0 hfr1).mono ?_
      rintro e wHC1 ⟨bHC1, oHC1, cHC1, rfl, hr, hE⟩
      have HC1 := Bl.hid (HA2.out.ext' hE)
      have RHC1 := Bl.hid hr
      clear hr hE HA2
      clear q5 q0
      go_wp2_with (with_reducible refine Bl.stop_append ?_)
      refine Bl.go_on ?_
      refine Bl.wpL_appPk tBytes HC1.out.own RHC1.out rfl (Bl.ints_one _ _) (by decide) (by decide) (by decide) HC1.out.le rfl rfl ?_
      intro vHC2 wHC2 hp hg hk
      have h : Bl.Acc w CS wHC2 vHC2 (19) (6 :: (Bl.numL id ++ Bl.numL oj) ++ Bl.twoL fr) := HC1.out.push hp hg
      obtain ⟨pHC2, cHC2, rfl⟩ := h.form
      have HC2 := Bl.hid h
      clear hp hg hk h HC1
      have q0 := HC2.out.box.cell HC.out.1
      have q7 := HC2.out.box.cell HC.out.2.2.2.2.2.2.2.1
      go_wp2_with fail
      refine (rtwo2_any (nb : Int) _ hb0 (by omega)).mono ?_
      rintro e wHB1 ⟨bHB1, oHB1, cHB1, rfl, hr, hE⟩
      have HB1 := Bl.hid (HC2.out.ext' hE)
      have RHB1 := Bl.hid hr
      clear hr hE HC2
      clear q7
      go_wp2_with (with_reducible refine Bl.stop_append ?_)
      refine Bl.go_on ?_
      refine Bl.wpL_appPk tBytes HB1.out.own RHB1.out rfl (Bl.ints_one _ _) (by decide) (by decide) (by decide) HB1.out.le rfl rfl ?_
      intro vHB2 wHB2 hp hg hk
      have h : Bl.Acc w CS wHB2 vHB2 (19 + 2) (6 :: (Bl.numL id ++ Bl.numL oj) ++ Bl.twoL fr ++ Bl.twoL nb) := HB1.out.push hp hg
      obtain ⟨pHB2, cHB2, rfl⟩ := h.form
      have HB2 := Bl.hid h
      clear hp hg hk h HB1
      have q7 := HB2.out.box.cell HC.out.2.2.2.2.2.2.2.1
      go_wp2_with fail
      clear q7 q0
      go_loopw [3, 55] (fun o i wr => ∃ (k : Nat) (p : Option Addr) (c : Nat), k ≤ nb ∧ i = .int .i64 k ∧ o = .slice p (19 + 2 + k * 16) c ∧ Hid (Bl.Acc w CS wr (.slice p (19 + 2 + k * 16) c) (19 + 2 + k * 16) (6 :: (Bl.numL id ++ Bl.numL oj) ++ Bl.twoL fr ++ Bl.twoL nb ++ (bl.take k).flatten))) (fun _ i _ => nb - (intOf i).toNat)
      case atStart => exact ⟨0, _, _, Nat.zero_le _, rfl, rfl, by rw [List.take_zero, List.flatten_nil, List.append_nil]; exact HB2⟩
      case round =>
        obtain ⟨k, p, c, hk, rfl, rfl, HA⟩ := hrel
        by_cases hlt : k < nb
        · have hla : k < bl.length := by rw [← Hnb.out]; exact hlt
          obtain ⟨vsb, hvb, hvl, hvs⟩ := Hbl.out.ext HA.out.ext
          obtain ⟨gb, ob, hpb, hgb, hcell⟩ := Bl.Rdss.cell' hvb hvl k hla
          subst hpb
          have hrk := hvs k hla
          have h16 := Bl.badB_not (hnb1.out.2 _ (Bl.getDm bl hla))
          have Htk : Hid ((bl.take (k + 1)).flatten = (bl.take k).flatten ++ bl.getD k []) := Bl.hid (by rw [Bl.take_succ_getDD [] bl k hla]; simp)
          obtain ⟨y, hy⟩ : ∃ y, y = bl.getD k [] := ⟨_, rfl⟩
          rw [← hy] at hrk h16 Htk
          obtain ⟨g1, o1, cc1, hf1, _, _, _, hr1, _⟩ := Bl.Rd.pos hrk (by omega)
          rw [hf1, h16] at hcell
          have R1 := Bl.hid hr1
          have H16 := Bl.hid h16
          clear hvb hvl hvs hgb hrk h16 hy hf1 hr1
          go_wp2_with (with_reducible refine Bl.stop_append ?_)
          refine Bl.go_on ?_
          refine Bl.wpL_appPk tBytes HA.out.own R1.out (by rw [Bl.ints_length, H16.out]) (Bl.ints_one _ _) (by decide) (by unfold maxLen; omega) (by omega) HA.out.le rfl rfl ?_
          intro v5 w5 hp hg hkk
          have h : Bl.Acc w CS w5 v5 (19 + 2 + k * 16 + 16) _ := HA.out.push hp hg
          have e2 : 19 + 2 + k * 16 + 16 = 19 + 2 + (k + 1) * 16 := by omega
          rw [e2] at h
          obtain ⟨p5, c5, rfl⟩ := h.form
          have H5 := Bl.hid h
          clear hp hg hkk h e2 hcell
          go_wp2_with fail
          go_roundw
          case rel => exact ⟨k + 1, p5, c5, by omega, by go_num, rfl, Bl.hid (by rw [Htk.out, ← List.append_assoc]; exact H5.out)⟩
          case measure => simp [intOf]; omega
        · obtain rfl : k = nb := by omega
          have q0 := HA.out.box.cell HC.out.1
          go_wp2_with fail
          go_ret
          refine ⟨_, rfl, ?_, HA.out.ext⟩
          have h := HA.out
          rw [List.take_of_length_le (by rw [← Hnb.out]; exact Nat.le_refl _)] at h
          rw [HV.out]
          exact h.rd (by rw [List.length_append, Hfl.out]; rfl)
end Go.Proofs.YtmmolapkddbibaaDoor

/- Walk of baileeref22.laid. -/
namespace Go.Proofs.YtmmolapkddbibaaDoor
open Go Go.RowKit Go.Proofs
theorem rlaid_any (v : Value) (l : Bl.LT) (w : World) (h : Bl.LtV w v l) (hk : 1 ≤ l.kind ∧ l.kind ≤ 7) (hn : Bl.numOk l = true) (hz : Bl.sizOk l = true) :
    Calls Tryd.prog 43 #[v] w fun e w' => ∃ v', e = .returned v' ∧ Bl.Rd w' .u8 v' (Bl.bytL l) ∧ Bl.Ext w w' := by
  rcases kinds7 hk with h1 | h1 | h1 | h1 | h1 | h1 | h1
  · exact rlaid1_any v l w h h1 hn hz
  · exact rlaid2_any v l w h h1 hn hz
  · exact rlaid3_any v l w h h1 hn hz
  · exact rlaid4_any v l w h h1 hn hz
  · exact rlaid5_any v l w h h1 hn hz
  · exact rlaid6_any v l w h h1 hn hz
  · exact rlaid7_any v l w h h1 hn hz
end Go.Proofs.YtmmolapkddbibaaDoor

/- Which error the document's Check answers, plainly. No program. -/
namespace Go.Proofs.Bl
open Go Go.RowKit
theorem frm_iff (l : LT) : frmOk l = true ↔ (l.kind = 3 ∨ l.places.length = 0) ∧ (l.kind = 4 ∨ l.shown.length = 0) ∧ ((l.kind = 5 ∨ l.kind = 6) ∨ l.frm = 0) ∧ (l.kind = 5 ∨ l.cnt = 0) ∧ ((l.kind = 1 ∨ l.kind = 6) ∨ l.blocks.length = 0) ∧ (l.kind = 7 ∨ l.code = 0) := by
  unfold frmOk sameL bareL lt0
  simp only [decide_eq_true_eq, LT.ext_iff']
  by_cases h3 : l.kind = 3 <;> by_cases h4 : l.kind = 4 <;> by_cases h5 : l.kind = 5 <;> by_cases h6 : l.kind = 6 <;> by_cases h1 : l.kind = 1 <;> by_cases h7 : l.kind = 7 <;> (simp [h1, h3, h4, h5, h6, h7, LT.nums] <;> constructor <;> simp_all)
section
variable {l : LT}
theorem chk7 (h : wi l.kind 1 7 = false) : chkL l = 7 := by unfold chkL; rw [if_pos h]
theorem chk1 (h : wi l.kind 1 7 = true) (h1 : numOk l = false) : chkL l = 1 := by unfold chkL; rw [h, if_neg (by decide), if_pos h1]
theorem chk8 (h : wi l.kind 1 7 = true) (h1 : numOk l = true) (h2 : sizOk l = false) : chkL l = 8 := by unfold chkL; rw [h, if_neg (by decide), h1, if_neg (by decide), if_pos h2]
theorem chk4 (h : wi l.kind 1 7 = true) (h1 : numOk l = true) (h2 : sizOk l = true) (h3 : ¬ frmOk l = true) : chkL l = 4 := by
  have h3 : frmOk l = false := by simpa using h3
  unfold chkL; rw [h, if_neg (by decide), h1, if_neg (by decide), h2, if_neg (by decide), if_pos h3]
theorem chk3 (h : wi l.kind 1 7 = true) (h1 : numOk l = true) (h2 : sizOk l = true) (h3 : frmOk l = true) (h4 : 8000 < (bytL l).length) : chkL l = 3 := by unfold chkL; rw [h, if_neg (by decide), h1, if_neg (by decide), h2, if_neg (by decide), h3, if_neg (by decide), if_pos h4]
theorem chk0 (h : wi l.kind 1 7 = true) (h1 : numOk l = true) (h2 : sizOk l = true) (h3 : frmOk l = true) (h4 : ¬ 8000 < (bytL l).length) : chkL l = 0 := by unfold chkL; rw [h, if_neg (by decide), h1, if_neg (by decide), h2, if_neg (by decide), h3, if_neg (by decide), if_neg h4]
end
theorem any_take1 {α : Type} (p : α → Bool) (l : List α) (d : α) {k : Nat} (h : k < l.length) : (l.take (k + 1)).any p = ((l.take k).any p || p (l.getD k d)) := by
  rw [List.take_add_one, List.getElem?_eq_getElem h, List.any_append, List.getD_eq_getElem?_getD, List.getElem?_eq_getElem h]
  simp
theorem app35 {α : Type} (x0 x1 x2 x3 x4 x5 x6 x7 x8 x9 x10 x11 x12 x13 x14 x15 x16 x17 x18 x19 x20 x21 x22 x23 x24 x25 x26 x27 x28 x29 x30 x31 x32 x33 x34 : α) (l : List α) : List.append [x0, x1, x2, x3, x4, x5, x6, x7, x8, x9, x10, x11, x12, x13, x14, x15, x16, x17, x18, x19, x20, x21, x22, x23, x24, x25, x26, x27, x28, x29, x30, x31, x32, x33, x34] l = x0 :: x1 :: x2 :: x3 :: x4 :: x5 :: x6 :: x7 :: x8 :: x9 :: x10 :: x11 :: x12 :: x13 :: x14 :: x15 :: x16 :: x17 :: x18 :: x19 :: x20 :: x21 :: x22 :: x23 :: x24 :: x25 :: x26 :: x27 :: x28 :: x29 :: x30 :: x31 :: x32 :: x33 :: x34 :: l := rfl
theorem stop_long {P : Program} {ops : Array Oper} {rest : List Oper} {o : Op} {tt : TypeId} {pp : String} {af : Array Edge} {g : Option (Nat × Bool)} {Q : Exit → Act → World → Prop} {a : Act} {w : World} (h : Stuck (wpList P ops Q (⟨some 148, o, tt, pp, af, g⟩ :: rest) a w)) : wpList P ops Q (⟨some 148, o, tt, pp, af, g⟩ :: rest) a w := h
theorem nob1 : ∀ {a b c : Bool}, true = (!b || c) → (a && b && !c) = false := by decide
theorem nob0 : ∀ {b c : Bool}, false = (!b || c) → b = true ∧ c = false := by decide
theorem nob3 : ∀ {b c : Bool}, true = (!b || c) → (b && !c) = false := by decide
end Go.Proofs.Bl

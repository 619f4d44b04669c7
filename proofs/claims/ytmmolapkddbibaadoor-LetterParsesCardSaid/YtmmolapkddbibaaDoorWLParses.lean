/- Walk of the law LetterParses. -/
import Derived.Test.YtmmolapkddbibaaDoorLE0
import Derived.Test.YtmmolapkddbibaaDoorLet2b
import Derived.Test.YtmmolapkddbibaaDoorLet1
import Derived.Test.YtmmolapkddbibaaDoorNums
import Derived.Test.YtmmolapkddbibaaDoorLib0
namespace Go.Proofs.Bl
open Go Go.RowKit
theorem parse_err {b : List Int} (h : (parseL b).1 ≠ 0) : (parseL b).2 = lt0 := by
  unfold parseL at h ⊢
  by_cases h8 : 8000 < b.length
  · rw [if_pos h8]
  rw [if_neg h8] at h ⊢
  cases b with
  | nil => rfl
  | cons k r =>
    simp only at h ⊢
    by_cases hk : wi k 1 7 = false
    · rw [if_pos hk]
    rw [if_neg hk] at h ⊢
    unfold endP at h ⊢
    cases hx : bodP k r with
    | none => rfl
    | some y =>
      obtain ⟨l, q⟩ := y
      rw [hx] at h
      cases q with
      | nil =>
        by_cases hc : chkL l = 0
        · have h : (if chkL l = 0 then ((0 : Nat), l) else (chkL l, lt0)).1 ≠ 0 := h
          rw [if_pos hc] at h
          exact absurd rfl h
        · show (if chkL l = 0 then ((0 : Nat), l) else (chkL l, lt0)).2 = lt0
          rw [if_neg hc]
      | cons _ _ => rfl
theorem chk_shown {l : LT} (hz : sizOk l = true) (hf : frmOk l = true) : l.shown.length ≤ 12 ∧ ∀ s ∈ l.shown, s.2.2.length ≤ 10 := by
  by_cases h4 : l.kind = 4
  · unfold sizOk at hz
    rw [if_neg (by omega), if_neg (by omega), if_pos h4, Bool.and_eq_true] at hz
    have h1 := wi_iff.1 hz.1
    refine ⟨by omega, fun s hs => ?_⟩
    have h2 := any_false hz.2 s hs
    unfold badS at h2
    simp only [Bool.or_eq_false_iff, Bool.not_eq_false', decide_eq_true_eq] at h2
    exact h2.2
  · have h : l.shown = [] := by
      unfold frmOk sameL at hf
      have h2 := of_decide_eq_true hf
      have h3 := congrArg LT.shown h2
      unfold bareL at h3
      simp only [if_neg h4] at h3
      exact h3
    rw [h]
    exact ⟨by simp, fun s hs => by cases hs⟩
end Go.Proofs.Bl
namespace Go.Proofs.YtmmolapkddbibaaDoor
open Go Go.RowKit Go.Proofs

theorem parse_shown {b : List Int} (hb : Bl.Byt b) : (Bl.parseL b).2.shown.length ≤ 12 ∧ ∀ s ∈ (Bl.parseL b).2.shown, s.2.2.length ≤ 10 := by
  by_cases h : (Bl.parseL b).1 = 0
  · have h1 := Bl.parse_back hb (l := (Bl.parseL b).2) (by rw [← h])
    obtain ⟨_, _, h3, h4, _⟩ := chk_ok h1.2
    exact Bl.chk_shown h3 h4
  · rw [Bl.parse_err h]
    exact ⟨by decide, fun s hs => by cases hs⟩
theorem parse_le (b : List Int) : (Bl.parseL b).1 ≤ 20 := by
  unfold Bl.parseL
  by_cases h8 : 8000 < b.length
  · rw [if_pos h8]; decide
  rw [if_neg h8]
  cases b with
  | nil => decide
  | cons k r =>
    simp only
    by_cases hk : Bl.wi k 1 7 = false
    · rw [if_pos hk]; decide
    rw [if_neg hk]
    unfold Bl.endP
    split
    · decide
    · split
      · exact Nat.zero_le _
      · exact chk_le _
    · decide

set_option maxRecDepth 100000 in
set_option maxHeartbeats 8000000 in
theorem letterparses_all (v : Value) (b : List Int) (w : World) (S : List Nat) (a : Nat → Addr) (hR : Bl.Rd w .u8 v b) (hb : Bl.Byt b) (he : Errs S a w) (hS : ∀ i, 1 ≤ i → i ≤ 20 → i ∈ S) :
    Calls Tryd.prog 6 #[v] w fun e w' => e = .returned (.bool true) ∧ Bl.Ext w w' := by
  have hs1 := hS 1 (by decide) (by decide)
  have hs2 := hS 2 (by decide) (by decide)
  have hs3 := hS 3 (by decide) (by decide)
  have hs4 := hS 4 (by decide) (by decide)
  have hs7 := hS 7 (by decide) (by decide)
  have hs8 := hS 8 (by decide) (by decide)
  have HAl : Hid (∀ w2, Bl.Ext w w2 → Calls Tryd.prog 15 #[] w2 fun e w' => e = .returned (.bool true) ∧ Bl.Ext w2 w') := Bl.hid fun w2 h2 => alive22 w2 S a (he.ext h2) hs1 hs3 hs4 hs7 hs8
  obtain ⟨p, c, rfl, hbc, hcm⟩ := hR.form
  have HR := Bl.hid hR
  have HPar : Hid (b.length ≤ 9000 → ∀ w2 v, Bl.Ext w w2 → Bl.Rd w2 .u8 v b → Calls Tryd.prog 23 #[v] w2 fun e w' => Bl.PaR (errN a) (Bl.parseL b) w2 e w') := Bl.hid fun hl w2 v h2 hv => parse_any v b w2 S a hv hb hl (he.ext h2) hs1 hs2 hs3 hs4 hs7 hs8
  have HRPa : Hid (b.length ≤ 9000 → ∀ w2 v, Bl.Rd w2 .u8 v b → Calls Tryd.prog 25 #[v] w2 fun e w' => Bl.ParD (Bl.parseL b) w2 e w') := Bl.hid fun hl w2 v hv => rparse_any v b w2 hv hb hl
  obtain ⟨hsh, hpa⟩ := parse_shown hb
  have hle := parse_le b
  have HBk : Hid ((Bl.parseL b).1 = 0 → Bl.bytL (Bl.parseL b).2 = b ∧ Bl.chkL (Bl.parseL b).2 = 0) := Bl.hid fun h => Bl.parse_back hb (by rw [← h])
  obtain ⟨K, hK⟩ : ∃ K, K = (Bl.parseL b).1 := ⟨_, rfl⟩
  obtain ⟨l, hl⟩ : ∃ l, l = (Bl.parseL b).2 := ⟨_, rfl⟩
  have hpr : Bl.parseL b = (K, l) := by rw [hK, hl]
  rw [← hl] at hsh hpa HBk
  rw [← hK] at hle HBk
  rw [hpr] at HPar HRPa
  have HOf : Hid (∀ w2 v, Bl.LtV w2 v l → Calls Tryd.prog 9 #[v] w2 fun e w' => ∃ v', e = .returned v' ∧ Bl.LtV w' v' l ∧ Bl.Ext w2 w') := Bl.hid fun w2 v h => of22_any _ l w2 h (by omega) (fun s hs => by have := hpa s hs; omega)
  have HRs : Hid (∀ w2 u v, Bl.LtV w2 u l → Bl.LtV w2 v l → Calls Tryd.prog 12 #[u, v] w2 fun e w' => e = .returned (.bool true) ∧ Bl.Ext w2 w') := Bl.hid fun w2 u v h h' => by
    have h3 := rsame22_any u v l l w2 h h'
    rw [show Bl.sameL l l = true by simp [Bl.sameL]] at h3
    exact h3
  have HNu : Hid (∀ w2, Bl.Ext w w2 → Calls Tryd.prog 20 #[errN a K] w2 fun e w' => e = .returned (.int .i64 K) ∧ Bl.Ext w2 w') := Bl.hid fun w2 h2 => num_errN S a w2 K hS (he.ext h2) hle
  have HLB : Hid (K = 0 → ∀ w2 v, Bl.Ext w w2 → Bl.LtV w2 v l → Calls Tryd.prog 18 #[v] w2 fun e w' => ∃ v', e = .returned (.tuple #[v', .nilIface]) ∧ Bl.Rd w' .u8 v' b ∧ Bl.Ext w2 w') := Bl.hid fun hk w2 v h2 hv => by
    obtain ⟨h5, h6⟩ := HBk.out hk
    have h7 := lbytes_any v l w2 S a hv (he.ext h2) hs1 hs3 hs4 hs7 hs8
    rw [h6, if_pos rfl, h5] at h7
    exact h7
  obtain ⟨n, hn⟩ : ∃ n, n = b.length := ⟨_, rfl⟩
  have Hn := Bl.hid hn
  rw [← hn] at HPar HRPa hbc ⊢
  unfold maxLen at hcm
  clear he hR hb hs1 hs2 hs3 hs4 hs7 hs8 hK hl hpr hsh hpa hle HBk hn
  go_enter Tryd.func6, Tryd.ntmps6
  go_wp2_with fail
  refine (HAl.out w (Below.refl _ _)).mono ?_
  rintro e w1 ⟨rfl, hE1⟩
  have HE1 := Bl.hid hE1
  clear hE1 HAl
  by_cases h9 : 9000 < n
  · have h9i : (9000 : Int) < (n : Int) := by omega
    clear h9
    go_wp2_with fail
    go_ret
    exact ⟨rfl, HE1.out⟩
  have h9i : ¬ ((9000 : Int) < (n : Int)) := by omega
  have Hn9 : Hid (n ≤ 9000) := Bl.hid (by omega)
  clear h9
  have HRn : Hid (∀ w2, Bl.Ext w w2 → Bl.Rd w2 .u8 (.slice p n c) b) := Bl.hid fun w2 h => by
    have h2 := HR.out.ext h
    rw [← Hn.out] at h2
    exact h2
  go_wp2_with fail
  refine (ebytes_any _ b w1 (HRn.out w1 HE1.out) (by have := Hn9.out; have := Hn.out; omega)).mono ?_
  rintro e w2 ⟨g2, c2, rfl, hown2, hE2⟩
  have HE2 := Bl.hid (HE1.out.trans hE2)
  have h21 := hown2.cells (g := g2) rfl
  have hrg2 : w2.rangeAt g2 0 (Bl.ints .u8 (b ++ Bl.marks)) := fun j u hu => by
    have h := h21 j u hu
    rw [Addr.add_mid] at h
    exact h
  obtain ⟨p9, c9, hf9, hc9, hm9⟩ := (Bl.Rds.of_owns hown2).form
  injection hf9 with hp9 hq9 hr9
  subst hr9
  have HRg2 := Bl.hid hrg2
  have Hc2 := Bl.hid (And.intro hc9 hm9)
  have HR2 : Hid (Bl.Rd w2 .u8 (.slice (some ⟨g2, 0, none⟩) n c2) b) := Bl.hid (by
    refine .inr ⟨g2, 0, c2, by rw [Hn.out], by omega, hm9, fun j u hu => ?_⟩
    refine hrg2 j u ?_
    rw [Bl.ints_append, List.getElem?_append_left (List.getElem?_eq_some_iff.1 hu).1]; exact hu)
  rw [← Hn.out]
  clear hE2 hown2 h21 hrg2 hp9 hq9 hc9 hm9 HE1
  go_wp2_with fail
  refine (HPar.out Hn9.out w2 _ HE2.out HR2.out).mono ?_
  rintro e w3 ⟨v3, vp, vs, vb, L, rfl, rfl, hF3, hE3⟩
  have HE3 := Bl.hid (HE2.out.trans hE3)
  have HE23 := Bl.hid hE3
  have HL3 : Hid (Bl.LtV w3 (.agg (Bl.cL l vp vs vb).toArray) l) := Bl.hid ⟨_, vp, vs, vb, L, rfl, hF3.ltc⟩
  obtain ⟨hB4, hE4⟩ := Bl.BoxC.fresh (cs := Bl.cL l vp vs vb) w3 26 Bl.zL rfl (Bl.cL_ne _ _ _ _)
  have Hst := Bl.hid (Bl.fresh_store (P := Tryd.prog) (cs := Bl.cL l vp vs vb) w3 26 Bl.zL rfl hF3.ltc.one (ty := 26) (by kernel_rfl))
  have HB4 := Bl.hid hB4
  have HE4 := Bl.hid hE4
  clear hE3 hF3 hB4 hE4
  go_wp2_with (with_reducible refine Bl.stop_store (ty := 26) ?_)
  refine Bl.go_on ?_
  refine Bl.wpL_store0 rfl rfl Hst.out ?_
  obtain ⟨W4, hW4⟩ : ∃ W, W = (w3.alloc (.cells Bl.zL 26)).setCells w3.heap.size 0 (Bl.cL l vp vs vb) := ⟨_, rfl⟩
  obtain ⟨D4, hD4⟩ : ∃ D, D = w3.heap.size := ⟨_, rfl⟩
  rw [← hW4] at HB4 HE4 ⊢
  rw [← hD4] at HB4 ⊢
  have HEw4 := Bl.hid (HE3.out.trans HE4.out)
  have HE24 := Bl.hid (HE23.out.trans HE4.out)
  have HL4 := Bl.hid (HL3.out.ext HE4.out)
  clear hW4 hD4 Hst HL3 HE3 HE23 HE4
  go_wp2_with fail
  refine (HRPa.out Hn9.out W4 _ (HRn.out W4 HEw4.out)).mono ?_
  rintro e w5 ⟨v5, rfl, hl5, hE5⟩
  obtain ⟨cs5, p5, s5, b5, L5, rfl, hc5⟩ := hl5
  obtain rfl := hc5.eq
  have HL5 : Hid (Bl.LtV w5 (.agg (Bl.cL l p5 s5 b5).toArray) l) := Bl.hid ⟨_, p5, s5, b5, L5, rfl, hc5⟩
  obtain ⟨hB6, hE6⟩ := Bl.BoxC.fresh (cs := Bl.cL l p5 s5 b5) w5 33 Bl.zL rfl (Bl.cL_ne _ _ _ _)
  have Hst := Bl.hid (Bl.fresh_store (P := Tryd.prog) (cs := Bl.cL l p5 s5 b5) w5 33 Bl.zL rfl hc5.one (ty := 33) (by kernel_rfl))
  have HB6 := Bl.hid hB6
  have HE6 := Bl.hid hE6
  have HE46 := Bl.hid (hE5.trans hE6)
  clear hE5 hc5 hB6 hE6
  go_wp2_with (with_reducible refine Bl.stop_store (ty := 33) ?_)
  refine Bl.go_on ?_
  refine Bl.wpL_store0 rfl rfl Hst.out ?_
  obtain ⟨W6, hW6⟩ : ∃ W, W = (w5.alloc (.cells Bl.zL 33)).setCells w5.heap.size 0 (Bl.cL l p5 s5 b5) := ⟨_, rfl⟩
  obtain ⟨D6, hD6⟩ : ∃ D, D = w5.heap.size := ⟨_, rfl⟩
  rw [← hW6] at HB6 HE6 HE46 ⊢
  rw [← hD6] at HB6 ⊢
  have HEw6 := Bl.hid (HEw4.out.trans HE46.out)
  have HL6a := Bl.hid (HL4.out.ext HE46.out)
  have HL6b := Bl.hid (HL5.out.ext HE6.out)
  have HRg6 := Bl.hid (Bl.rangeAt_ext HRg2.out (HE24.out.trans HE46.out))
  have HB46 := Bl.hid (HB4.out.ext HE46.out)
  clear hW6 hD6 Hst HL4 HL5 HEw4 HE46 HE6 HE24 HE2 HB4 HRg2 HR2 HPar HRPa
  have Hla := Bl.hid (fun w2 (h : Bl.Ext W6 w2) => (HB46.out.ext h).load (P := Tryd.prog) Tryd.underlying26 rfl (by kernel_rfl))
  have Hlb := Bl.hid (fun w2 (h : Bl.Ext W6 w2) => (HB6.out.ext h).load (P := Tryd.prog) Tryd.underlying33 rfl (by kernel_rfl))
  have HKe : Hid (∀ w2, Bl.Ext W6 w2 → Calls Tryd.prog 26 #[.slice (some ⟨g2, 0, none⟩) n c2, .slice p n c] w2 fun e w' => e = .returned (.bool true) ∧ Bl.Ext w2 w') := Bl.hid fun w2 h => by
    have h2 := ekept_any g2 c2 (.slice p n c) b w2 Hc2.out.1 Hc2.out.2 (Bl.rangeAt_ext HRg6.out h) (HRn.out w2 (HEw6.out.trans h)) (by have := Hn9.out; have := Hn.out; omega)
    rw [← Hn.out] at h2
    exact h2
  go_wp2_with fail
  apply Bl.wp_region_ev 16 [26, 27, 28, 29, 30, 31, 32, 33, 34, 35, 36, 37, 38, 39, 40, 41] [Bl.eqv _, Bl.eqv _, Bl.eqv _, Bl.eqv _, Bl.eqv _, Bl.eqv _, (fun v w' => Bl.LtV w' v l), Bl.eqv _, Bl.eqv _, Bl.eqv _, Bl.eqv _, Bl.eqv _, Bl.eqv _, Bl.eqv _, Bl.eqv _, Bl.eqv _] (by kernel_rfl) (by kernel_rfl) (by kernel_rfl) (by kernel_rfl)
  case hsteps =>
    refine ⟨?_, ?_, ?_, ?_, ?_, ?_, ?_, ?_, ?_, ?_, ?_, ?_, ?_, ?_, ?_, ?_, trivial⟩
    all_goals
      intro ev w1 hext hb hd
      have e0 := hb 0 (by decide)
      have e3 := hb 3 (by decide)
      have e4 := hb 4 (by decide)
      have e5 := hb 5 (by decide)
      have e6 := hb 6 (by decide)
      have e7 := hb 7 (by decide)
      clear hb
      simp only [Array.getD_eq_getD_getElem?, List.getElem?_toArray, List.getElem?_cons_succ, List.getElem?_cons_zero, Option.getD_some] at e0 e3 e4 e5 e6 e7
      simp only [Bl.DepsE, List.getElem?_cons_succ, List.getElem?_cons_zero, Option.bind_some, List.getD_cons_succ, List.getD_cons_zero, Bl.eqv, and_true] at hd
      have hc := (Bl.bcell hext).1
      have hwx := HEw6.out.trans hext
      simp only [Bl.Good, Region.wanted, Bl.yieldE, List.getElem?_cons_succ, List.getElem?_cons_zero, Option.bind_some, hd, beq_self_eq_true, if_true]
      first
      | ((with_reducible refine Bl.goodR_load ?_ (Hla.out _ hext) ?_); exact e4; exact rfl) | ((with_reducible refine Bl.goodR_load ?_ (Hlb.out _ hext) ?_); exact e6; exact rfl)
      | (go_simp; first | exact ⟨Below.refl _ _, rfl⟩ | (go_at_call 20; (with_reducible refine (HNu.out _ hwx).mono ?_); rintro e w9 ⟨rfl, h9⟩; exact ⟨_, rfl, h9, rfl⟩) | (go_at_call 9; (with_reducible refine (HOf.out _ _ (HL6a.out.ext hext)).mono ?_); rintro e w9 ⟨v9, rfl, h8, h9⟩; exact ⟨_, rfl, h9, h8⟩) | (go_at_call 12; (with_reducible refine (HRs.out _ _ _ (by first | exact hd.1 | exact hd.2.1 | exact hd.1.1) (HL6b.out.ext hext)).mono ?_); rintro e w9 ⟨rfl, h9⟩; exact ⟨_, rfl, h9, rfl⟩) | (go_at_call 26; (with_reducible refine (HKe.out _ hext).mono ?_); rintro e w9 ⟨rfl, h9⟩; exact ⟨_, rfl, h9, rfl⟩) | exact ⟨Below.refl _ _, rfl⟩)
  case hmono => exact ⟨Bl.mono_eqv _, Bl.mono_eqv _, Bl.mono_eqv _, Bl.mono_eqv _, Bl.mono_eqv _, Bl.mono_eqv _, (fun _ _ _ h k => Bl.LtV.ext h k), Bl.mono_eqv _, Bl.mono_eqv _, Bl.mono_eqv _, Bl.mono_eqv _, Bl.mono_eqv _, Bl.mono_eqv _, Bl.mono_eqv _, Bl.mono_eqv _, Bl.mono_eqv _, trivial⟩
  case hend =>
    intro u w1 hext hend
    simp only [Bl.EndE, List.getElem?_cons_succ, List.getElem?_cons_zero, Option.bind_some, List.getD_cons_succ, List.getD_cons_zero, Bl.eqv, true_and] at hend
    simp only [Bl.fillAct, List.setIfInBounds_toArray, List.set_cons_succ, List.set_cons_zero, List.drop_succ_cons, List.drop_zero, hend]
    have HEf := Bl.hid (HEw6.out.trans hext)
    have Hl8 := Bl.hid (Hla.out _ hext)
    have HL8 := Bl.hid (HL6a.out.ext hext)
    clear hext hend
    by_cases hk : K = 0
    rotate_left
    · have hk2 : ¬ (K : Int) = 0 := by omega
      have hk3 : ((K : Int) == 0) = false := by rw [beq_eq_false_iff_ne]; exact hk2
      go_wp2_with fail
      go_ret
      exact ⟨rfl, HEf.out⟩
    subst hk
    rw [errN_zero]
    go_wp2_with (with_reducible refine Bl.stop_load (ty := 26) ?_)
    refine Bl.go_on ?_
    refine Bl.wpL_load rfl Hl8.out ?_
    go_wp2_with fail
    refine (HLB.out (by first | exact rfl | trivial) _ _ HEf.out HL8.out).mono ?_
    rintro e wb ⟨vb', rfl, hrb, hEb⟩
    obtain ⟨pb, cb, hfb, _, _⟩ := hrb.form
    subst hfb
    have HRb := Bl.hid hrb
    have HEb := Bl.hid (HEf.out.trans hEb)
    have hrn := HRn.out _ HEb.out
    have hcv1 := Bl.conv_bytes (P := Tryd.prog) hrb Tryd.underlying46 Tryd.underlying5 Tryd.underlying9
    have hcv2 := Bl.conv_bytes (P := Tryd.prog) hrn Tryd.underlying46 Tryd.underlying5 Tryd.underlying9
    clear hrb hEb hrn
    go_wp2_with fail
    go_ret
    exact ⟨by simp, HEb.out⟩
end Go.Proofs.YtmmolapkddbibaaDoor

/- Walk of baileelaw39.leaves. -/
import Derived.Test.YtmfooocdnoflaaaDoorDB1
import Derived.Test.YtmfooocdnoflaaaDoorWApart
import Derived.Test.YtmfooocdnoflaaaDoorWl0
import Derived.Test.YtmfooocdnoflaaaDoorWHalves
namespace Go.Proofs.YtmfooocdnoflaaaDoor
open Go Go.RowKit Go.Proofs

set_option maxRecDepth 100000 in
set_option maxHeartbeats 2000000 in
theorem leaves39_any : ∀ (n : Nat) (xs ys : List (List Int)) (va vb : Value) (w : World), xs.length = n → ys.length = n → n ≤ 40 → Bl.Rdss w va xs → Bl.Rdss w vb ys → (∀ p ∈ xs, Bl.Byt p) → (∀ p ∈ ys, Bl.Byt p) → (∀ p ∈ xs, p.length ≤ 200) → (∀ p ∈ ys, p.length ≤ 200) → GlobR w → Bl.rootD xs = Bl.rootD ys →
    Calls Tryd.prog 47 #[va, vb] w fun e w' => e = .returned (.bool (decide (¬ xs = ys))) ∧ Bl.Ext w w' := by
  intro n
  induction n using Nat.strongRecOn with
  | _ n ih =>
    intro xs ys va vb w hnx hny h40 hA hB hba hbb hla hlb hg hroot
    have IH := Bl.hid ih
    have HA := Bl.hid hA
    have HB := Bl.hid hB
    have Hba := Bl.hid hba
    have Hbb := Bl.hid hbb
    have Hla := Bl.hid hla
    have Hlb := Bl.hid hlb
    have Hg := Bl.hid hg
    have Hroot := Bl.hid hroot
    have Hnx := Bl.hid hnx
    have Hny := Bl.hid hny
    clear ih hba hbb hla hlb hg hroot
    by_cases h0 : n = 0
    · subst h0
      obtain rfl := List.length_eq_zero_iff.1 hnx
      obtain rfl := List.length_eq_zero_iff.1 hny
      obtain ⟨wa, hva, hwla, hwsa⟩ := hA
      obtain ⟨pa, ca, rfl, _, _⟩ := hva.form
      obtain ⟨wb, hvb, hwlb, hwsb⟩ := hB
      obtain ⟨pb, cb, rfl, _, _⟩ := hvb.form
      clear hva hwla hwsa hvb hwlb hwsb hnx hny
      go_enter Tryd.func47, Tryd.ntmps47
      go_wp2_with fail
      go_ret
      exact ⟨by simp, Below.refl _ _⟩
    obtain ⟨wa, hva, hwla, hwsa⟩ := hA
    obtain ⟨wb, hvb, hwlb, hwsb⟩ := hB
    obtain ⟨pa, ca, hfa, hna, hca⟩ := hva.form
    obtain ⟨pb, cb, hfb, hnb, hcb⟩ := hvb.form
    subst hfa hfb
    obtain ⟨b1, o1, hpa, hbl1, hcell1⟩ := Bl.Rdss.cell' hva hwla 0 (by omega)
    obtain ⟨b2, o2, hpb, hbl2, hcell2⟩ := Bl.Rdss.cell' hvb hwlb 0 (by omega)
    subst hpa hpb
    rw [Nat.add_zero] at hcell1 hcell2
    have hR1 := hwsa 0 (by omega)
    have hR2 := hwsb 0 (by omega)
    rw [hnx] at HA hna ⊢
    rw [hny] at HB hnb ⊢
    unfold maxLen at hca hcb
    have HC1 : Hid (w.cell? ⟨b1, o1, none⟩ = some (wa.getD 0 undef)) := hcell1
    have HC2 : Hid (w.cell? ⟨b2, o2, none⟩ = some (wb.getD 0 undef)) := hcell2
    have HR1 := Bl.hid hR1
    have HR2 := Bl.hid hR2
    clear hva hvb hwla hwlb hwsa hwsb hnx hny hcell1 hcell2 hR1 hR2
    by_cases h1 : n = 1
    · subst h1
      obtain ⟨x, rfl⟩ : ∃ x, xs = [x] := by
        match xs, Hnx.out with
        | [x], _ => exact ⟨x, rfl⟩
      obtain ⟨y, rfl⟩ : ∃ y, ys = [y] := by
        match ys, Hny.out with
        | [y], _ => exact ⟨y, rfl⟩
      have hlx := Hla.out x (by simp)
      have hly := Hlb.out y (by simp)
      obtain ⟨p1, c1, hf1, _, _⟩ := HR1.out.form
      obtain ⟨p2, c2, hf2, _, _⟩ := HR2.out.form
      have hcell1 := HC1.out
      have hcell2 := HC2.out
      have hR1 := HR1.out
      have hR2 := HR2.out
      rw [hf1] at hcell1 hR1
      rw [hf2] at hcell2 hR2
      have hR1 : Bl.Rd w .u8 (.slice p1 x.length c1) x := hR1
      have hR2 : Bl.Rd w .u8 (.slice p2 y.length c2) y := hR2
      have hcell1 : w.cell? ⟨b1, o1, none⟩ = some (.slice p1 x.length c1) := hcell1
      have hcell2 : w.cell? ⟨b2, o2, none⟩ = some (.slice p2 y.length c2) := hcell2
      have HRx : Hid (∀ w2, Bl.Ext w w2 → Bl.Rd w2 .u8 (.slice p1 x.length c1) x) := Bl.hid fun w2 h2 => hR1.ext h2
      have HRy : Hid (∀ w2, Bl.Ext w w2 → Bl.Rd w2 .u8 (.slice p2 y.length c2) y) := Bl.hid fun w2 h2 => hR2.ext h2
      have hrx := Hroot.out
      rw [Bl.rootD_one, Bl.rootD_one] at hrx
      have HLx : Hid (∀ w2, Bl.Ext w w2 → Calls Tryd.prog 35 #[.slice p1 x.length c1] w2 fun e w' => e = .returned (.agg (Bl.ints .u8 (Bl.lfD x)).toArray) ∧ Bl.Ext w2 w') := Bl.hid fun w2 h2 =>
        leaf_any _ x w2 (HRx.out w2 h2) (Hg.out.ext h2) (Hba.out x (by simp)) (by omega)
      have HLy : Hid (∀ w2, Bl.Ext w w2 → Calls Tryd.prog 35 #[.slice p2 y.length c2] w2 fun e w' => e = .returned (.agg (Bl.ints .u8 (Bl.lfD y)).toArray) ∧ Bl.Ext w2 w') := Bl.hid fun w2 h2 =>
        leaf_any _ y w2 (HRy.out w2 h2) (Hg.out.ext h2) (Hbb.out y (by simp)) (by omega)
      rw [← hrx] at HLy
      obtain ⟨d, hd⟩ : ∃ d, d = Bl.lfD x := ⟨_, rfl⟩
      have hdl : d.length = 32 := by rw [hd]; exact Bl.lfD_length x
      rw [← hd] at HLx HLy
      have heq : ∀ w, (Op.equalIn 10000 39 (.agg (Bl.ints .u8 d).toArray) (.agg (Bl.ints .u8 d).toArray)).run Tryd.prog w = .ok true w := fun w => Bl.eq10k_same Tryd.underlying39 Tryd.underlying5 (fun w => by simp [go_sem]) _ hdl w
      have HC1' := Bl.hid hcell1
      have HC2' := Bl.hid hcell2
      have HCv1 : Hid (∀ w2, Bl.Ext w w2 → (convert 80 9 (.slice p1 x.length c1)).run Tryd.prog w2 = .ok (.string (Bl.bstr x)) w2) := Bl.hid fun w2 h2 => Bl.conv_bytes (HRx.out w2 h2) Tryd.underlying80 Tryd.underlying5 Tryd.underlying9
      have HCv2 : Hid (∀ w2, Bl.Ext w w2 → (convert 80 9 (.slice p2 y.length c2)).run Tryd.prog w2 = .ok (.string (Bl.bstr y)) w2) := Bl.hid fun w2 h2 => Bl.conv_bytes (HRy.out w2 h2) Tryd.underlying80 Tryd.underlying5 Tryd.underlying9
      have hq := Bl.bstr_beq (Hba.out x (by simp)) (Hbb.out y (by simp))
      clear hR1 hR2 hf1 hf2 hd hdl hrx hcell1 hcell2
      by_cases hxy : x = y
      · subst hxy
        clear hq
        go_enter Tryd.func47, Tryd.ntmps47
        go_wp2_with fail
        apply Bl.wp_region_ev 20 [14, 15, 16, 17, 18, 19, 20, 21, 22, 23, 24, 25, 26, 27, 28, 29, 30, 31, 32, 33] [Bl.eqv _, Bl.eqv _, Bl.eqv _, Bl.eqv _, Bl.eqv _, Bl.eqv _, Bl.eqv _, Bl.eqv _, Bl.eqv _, Bl.eqv _, Bl.eqv _, Bl.eqv _, Bl.eqv _, Bl.eqv _, Bl.eqv _, Bl.eqv _, Bl.eqv _, Bl.eqv _, Bl.eqv _, Bl.eqv _] (by kernel_rfl) (by kernel_rfl) (by kernel_rfl) (by kernel_rfl)
        case hsteps =>
          refine ⟨?_, ?_, ?_, ?_, ?_, ?_, ?_, ?_, ?_, ?_, ?_, ?_, ?_, ?_, ?_, ?_, ?_, ?_, ?_, ?_, trivial⟩
          all_goals
            intro ev w1 hext hb hd
            have e0 := hb 0 (by decide)
            have e1 := hb 1 (by decide)
            clear hb
            simp only [Array.getD_eq_getD_getElem?, List.getElem?_toArray, List.getElem?_cons_succ, List.getElem?_cons_zero, Option.getD_some] at e0 e1
            simp only [Bl.DepsE, List.getElem?_cons_succ, List.getElem?_cons_zero, Option.bind_some, List.getD_cons_succ, List.getD_cons_zero, Bl.eqv, and_true] at hd
            have hc := (Bl.bcell hext).1
            have hcl1 := (hc _ o1 hbl1).trans HC1'.out
            have hcl2 := (hc _ o2 hbl2).trans HC2'.out
            have hcv1 := HCv1.out _ hext
            have hcv2 := HCv2.out _ hext
            simp only [Bl.Good, Region.wanted, Bl.yieldE, List.getElem?_cons_succ, List.getElem?_cons_zero, Option.bind_some, hd, if_true]
            go_simp
            first | exact rfl | exact ⟨Below.refl _ _, rfl⟩
        case hmono => exact ⟨Bl.mono_eqv _, Bl.mono_eqv _, Bl.mono_eqv _, Bl.mono_eqv _, Bl.mono_eqv _, Bl.mono_eqv _, Bl.mono_eqv _, Bl.mono_eqv _, Bl.mono_eqv _, Bl.mono_eqv _, Bl.mono_eqv _, Bl.mono_eqv _, Bl.mono_eqv _, Bl.mono_eqv _, Bl.mono_eqv _, Bl.mono_eqv _, Bl.mono_eqv _, Bl.mono_eqv _, Bl.mono_eqv _, Bl.mono_eqv _, trivial⟩
        case hend =>
          intro u w1 hext hend
          simp only [Bl.EndE, List.getElem?_cons_succ, List.getElem?_cons_zero, Option.bind_some, List.getD_cons_succ, List.getD_cons_zero, Bl.eqv, true_and] at hend
          simp only [Bl.fillAct, List.setIfInBounds_toArray, List.set_cons_succ, List.set_cons_zero, List.drop_succ_cons, List.drop_zero, hend]
          have HEf := Bl.hid hext
          clear hext hend
          go_wp2_with fail
          go_ret
          exact ⟨by simp, HEf.out⟩
      · rw [decide_eq_false hxy] at hq
        have hq2 : ¬ (Bl.bstr x = Bl.bstr y) := fun q => by rw [q] at hq; simp at hq
        have Hne : Hid (¬ x = y) := Bl.hid hxy
        clear hxy
        go_enter Tryd.func47, Tryd.ntmps47
        go_wp2_with fail
        apply Bl.wp_region_ev 20 [14, 15, 16, 17, 18, 19, 20, 21, 22, 23, 24, 25, 26, 27, 28, 29, 30, 31, 32, 33] [Bl.eqv _, Bl.eqv _, Bl.eqv _, Bl.eqv _, Bl.eqv _, Bl.eqv _, Bl.eqv _, Bl.eqv _, Bl.eqv _, Bl.eqv _, Bl.eqv _, Bl.eqv _, Bl.eqv _, Bl.eqv _, Bl.eqv _, Bl.eqv _, Bl.eqv _, Bl.eqv _, Bl.eqv _, Bl.eqv _] (by kernel_rfl) (by kernel_rfl) (by kernel_rfl) (by kernel_rfl)
        case hsteps =>
          refine ⟨?_, ?_, ?_, ?_, ?_, ?_, ?_, ?_, ?_, ?_, ?_, ?_, ?_, ?_, ?_, ?_, ?_, ?_, ?_, ?_, trivial⟩
          all_goals
            intro ev w1 hext hb hd
            have e0 := hb 0 (by decide)
            have e1 := hb 1 (by decide)
            clear hb
            simp only [Array.getD_eq_getD_getElem?, List.getElem?_toArray, List.getElem?_cons_succ, List.getElem?_cons_zero, Option.getD_some] at e0 e1
            simp only [Bl.DepsE, List.getElem?_cons_succ, List.getElem?_cons_zero, Option.bind_some, List.getD_cons_succ, List.getD_cons_zero, Bl.eqv, and_true] at hd
            have hc := (Bl.bcell hext).1
            have hcl1 := (hc _ o1 hbl1).trans HC1'.out
            have hcl2 := (hc _ o2 hbl2).trans HC2'.out
            have hcv1 := HCv1.out _ hext
            have hcv2 := HCv2.out _ hext
            simp only [Bl.Good, Region.wanted, Bl.yieldE, List.getElem?_cons_succ, List.getElem?_cons_zero, Option.bind_some, hd, beq_self_eq_true, if_true]
            go_simp
            first | (go_at_call 35; (with_reducible refine (HLx.out _ hext).mono ?_); rintro e w2 ⟨rfl, hE2⟩; exact ⟨_, rfl, hE2, rfl⟩) | (go_at_call 35; (with_reducible refine (HLy.out _ hext).mono ?_); rintro e w2 ⟨rfl, hE2⟩; exact ⟨_, rfl, hE2, rfl⟩) | exact rfl | exact ⟨Below.refl _ _, rfl⟩
        case hmono => exact ⟨Bl.mono_eqv _, Bl.mono_eqv _, Bl.mono_eqv _, Bl.mono_eqv _, Bl.mono_eqv _, Bl.mono_eqv _, Bl.mono_eqv _, Bl.mono_eqv _, Bl.mono_eqv _, Bl.mono_eqv _, Bl.mono_eqv _, Bl.mono_eqv _, Bl.mono_eqv _, Bl.mono_eqv _, Bl.mono_eqv _, Bl.mono_eqv _, Bl.mono_eqv _, Bl.mono_eqv _, Bl.mono_eqv _, Bl.mono_eqv _, trivial⟩
        case hend =>
          intro u w1 hext hend
          simp only [Bl.EndE, List.getElem?_cons_succ, List.getElem?_cons_zero, Option.bind_some, List.getD_cons_succ, List.getD_cons_zero, Bl.eqv, true_and] at hend
          simp only [Bl.fillAct, List.setIfInBounds_toArray, List.set_cons_succ, List.set_cons_zero, List.drop_succ_cons, List.drop_zero, hend]
          have HEf := Bl.hid hext
          clear hext hend
          go_wp2_with fail
          go_ret
          exact ⟨by have := Hne.out; simp [this], HEf.out⟩
    · obtain ⟨s1, s2, s3⟩ := Bl.sp_bounds n (by omega) (by omega)
      obtain ⟨k, hk⟩ : ∃ k, k = Bl.sp n := ⟨_, rfl⟩
      rw [← hk] at s1 s2 s3
      have Hk := Bl.hid hk
      have HRal : Hid (∀ w2, Bl.Ext w w2 → Bl.Rdss w2 (.slice (some ⟨b1, o1, none⟩) k ca) (xs.take k)) := Bl.hid fun w2 h2 => Bl.Rdss.take (Bl.Rdss.ext HA.out h2) k (by rw [Hnx.out]; omega)
      have HRar : Hid (∀ w2, Bl.Ext w w2 → Bl.Rdss w2 (.slice (some ⟨b1, o1 + k, none⟩) (n - k) (ca - k)) (xs.drop k)) := Bl.hid fun w2 h2 => Bl.Rdss.drop (Bl.Rdss.ext HA.out h2) k (by rw [Hnx.out]; omega)
      have HRbl : Hid (∀ w2, Bl.Ext w w2 → Bl.Rdss w2 (.slice (some ⟨b2, o2, none⟩) k cb) (ys.take k)) := Bl.hid fun w2 h2 => Bl.Rdss.take (Bl.Rdss.ext HB.out h2) k (by rw [Hny.out]; omega)
      have HRbr : Hid (∀ w2, Bl.Ext w w2 → Bl.Rdss w2 (.slice (some ⟨b2, o2 + k, none⟩) (n - k) (cb - k)) (ys.drop k)) := Bl.hid fun w2 h2 => Bl.Rdss.drop (Bl.Rdss.ext HB.out h2) k (by rw [Hny.out]; omega)
      have hltx : (xs.take k).length = k := by rw [List.length_take, Hnx.out]; omega
      have hlty : (ys.take k).length = k := by rw [List.length_take, Hny.out]; omega
      have hldx : (xs.drop k).length = n - k := by rw [List.length_drop, Hnx.out]
      have hldy : (ys.drop k).length = n - k := by rw [List.length_drop, Hny.out]
      have hl1 := Bl.rootD_length (xs.take k) (by omega)
      have hl2 := Bl.rootD_length (xs.drop k) (by omega)
      have hl3 := Bl.rootD_length (ys.take k) (by omega)
      have hl4 := Bl.rootD_length (ys.drop k) (by omega)
      have hy1 := Bl.rootD_byt (xs.take k) (by omega)
      have hy2 := Bl.rootD_byt (xs.drop k) (by omega)
      have hy3 := Bl.rootD_byt (ys.take k) (by omega)
      have hy4 := Bl.rootD_byt (ys.drop k) (by omega)
      have hrt := Hroot.out
      rw [Bl.rootD_hi xs (by rw [Hnx.out]; omega) (by rw [Hnx.out]; omega), Bl.rootD_hi ys (by rw [Hny.out]; omega) (by rw [Hny.out]; omega), Hnx.out, Hny.out, ← hk] at hrt
      have HQal : Hid (∀ w2, Bl.Ext w w2 → Calls Tryd.prog 22 #[.slice (some ⟨b1, o1, none⟩) k ca] w2 fun e w' => e = .returned (.agg (Bl.ints .u8 (Bl.rootD (xs.take k))).toArray) ∧ Bl.Ext w2 w') := Bl.hid fun w2 h2 =>
        refroot_any _ (xs.take k) w2 (HRal.out w2 h2) (Hg.out.ext h2) (fun q hq => Hba.out q (List.mem_of_mem_take hq)) (fun q hq => by have := Hla.out q (List.mem_of_mem_take hq); omega) (by omega)
      have HQar : Hid (∀ w2, Bl.Ext w w2 → Calls Tryd.prog 22 #[.slice (some ⟨b1, o1 + k, none⟩) (n - k) (ca - k)] w2 fun e w' => e = .returned (.agg (Bl.ints .u8 (Bl.rootD (xs.drop k))).toArray) ∧ Bl.Ext w2 w') := Bl.hid fun w2 h2 =>
        refroot_any _ (xs.drop k) w2 (HRar.out w2 h2) (Hg.out.ext h2) (fun q hq => Hba.out q (List.mem_of_mem_drop hq)) (fun q hq => by have := Hla.out q (List.mem_of_mem_drop hq); omega) (by omega)
      have HQbl : Hid (∀ w2, Bl.Ext w w2 → Calls Tryd.prog 22 #[.slice (some ⟨b2, o2, none⟩) k cb] w2 fun e w' => e = .returned (.agg (Bl.ints .u8 (Bl.rootD (ys.take k))).toArray) ∧ Bl.Ext w2 w') := Bl.hid fun w2 h2 =>
        refroot_any _ (ys.take k) w2 (HRbl.out w2 h2) (Hg.out.ext h2) (fun q hq => Hbb.out q (List.mem_of_mem_take hq)) (fun q hq => by have := Hlb.out q (List.mem_of_mem_take hq); omega) (by omega)
      have HQbr : Hid (∀ w2, Bl.Ext w w2 → Calls Tryd.prog 22 #[.slice (some ⟨b2, o2 + k, none⟩) (n - k) (cb - k)] w2 fun e w' => e = .returned (.agg (Bl.ints .u8 (Bl.rootD (ys.drop k))).toArray) ∧ Bl.Ext w2 w') := Bl.hid fun w2 h2 =>
        refroot_any _ (ys.drop k) w2 (HRbr.out w2 h2) (Hg.out.ext h2) (fun q hq => Hbb.out q (List.mem_of_mem_drop hq)) (fun q hq => by have := Hlb.out q (List.mem_of_mem_drop hq); omega) (by omega)
      have HKl : Hid (Bl.rootD (xs.take k) = Bl.rootD (ys.take k) → ∀ w2, Bl.Ext w w2 → Calls Tryd.prog 47 #[.slice (some ⟨b1, o1, none⟩) k ca, .slice (some ⟨b2, o2, none⟩) k cb] w2 fun e w' => e = .returned (.bool (decide (¬ xs.take k = ys.take k))) ∧ Bl.Ext w2 w') := Bl.hid fun hq w2 h2 =>
        IH.out k (by omega) (xs.take k) (ys.take k) _ _ w2 hltx hlty (by omega) (HRal.out w2 h2) (HRbl.out w2 h2) (fun q hq => Hba.out q (List.mem_of_mem_take hq)) (fun q hq => Hbb.out q (List.mem_of_mem_take hq)) (fun q hq => Hla.out q (List.mem_of_mem_take hq)) (fun q hq => Hlb.out q (List.mem_of_mem_take hq)) (Hg.out.ext h2) hq
      have HKr : Hid (Bl.rootD (xs.drop k) = Bl.rootD (ys.drop k) → ∀ w2, Bl.Ext w w2 → Calls Tryd.prog 47 #[.slice (some ⟨b1, o1 + k, none⟩) (n - k) (ca - k), .slice (some ⟨b2, o2 + k, none⟩) (n - k) (cb - k)] w2 fun e w' => e = .returned (.bool (decide (¬ xs.drop k = ys.drop k))) ∧ Bl.Ext w2 w') := Bl.hid fun hq w2 h2 =>
        IH.out (n - k) (by omega) (xs.drop k) (ys.drop k) _ _ w2 hldx hldy (by omega) (HRar.out w2 h2) (HRbr.out w2 h2) (fun q hq => Hba.out q (List.mem_of_mem_drop hq)) (fun q hq => Hbb.out q (List.mem_of_mem_drop hq)) (fun q hq => Hla.out q (List.mem_of_mem_drop hq)) (fun q hq => Hlb.out q (List.mem_of_mem_drop hq)) (Hg.out.ext h2) hq
      have Hxne : Hid (¬ (1 : Int) :: (Bl.rootD (xs.take k) ++ Bl.rootD (xs.drop k)) = 1 :: (Bl.rootD (ys.take k) ++ Bl.rootD (ys.drop k)) → ¬ xs = ys) := Bl.hid fun h q => h (by rw [q])
      have Hsplit : Hid (xs.take k = ys.take k → xs.drop k = ys.drop k → xs = ys) := Bl.hid fun h h2 => Bl.take_drop_eq k h h2
      have Htne : Hid (¬ xs.take k = ys.take k → ¬ xs = ys) := Bl.hid fun h q => h (by rw [q])
      have Hdne : Hid (¬ xs.drop k = ys.drop k → ¬ xs = ys) := Bl.hid fun h q => h (by rw [q])
      clear hltx hlty hldx hldy
      generalize Bl.rootD (xs.take k) = d1 at HQal hl1 hy1 hrt HKl Hxne
      generalize Bl.rootD (xs.drop k) = d2 at HQar hl2 hy2 hrt HKr Hxne
      generalize Bl.rootD (ys.take k) = d3 at HQbl hl3 hy3 hrt HKl Hxne
      generalize Bl.rootD (ys.drop k) = d4 at HQbr hl4 hy4 hrt HKr Hxne
      have Hrt := Bl.hid hrt
      have Hl1 := Bl.hid hl1
      have Hl2 := Bl.hid hl2
      have Hl3 := Bl.hid hl3
      have Hl4 := Bl.hid hl4
      have Hx : Hid (Bl.Byt (1 :: (d1 ++ d2))) := Bl.hid (Bl.byt_cons (by decide) (by decide) (hy1.append hy2))
      have Hy : Hid (Bl.Byt (1 :: (d3 ++ d4))) := Bl.hid (Bl.byt_cons (by decide) (by decide) (hy3.append hy4))
      clear hl1 hl2 hl3 hl4 hy1 hy2 hy3 hy4 hrt
      have hkn : (k : Int) < (n : Int) := by omega
      have hn0' : ¬ ((n : Int) = 0) := by omega
      have hn1' : ¬ ((n : Int) = 1) := by omega
      have hb0 : ((n : Int) == 0) = false := by rw [beq_eq_false_iff_ne]; omega
      have hb1 : ((n : Int) == 1) = false := by rw [beq_eq_false_iff_ne]; omega
      have hkca : ¬ (k = ca) := by omega
      have hkcb : ¬ (k = cb) := by omega
      have hk0 : (0 : Int) ≤ (k : Int) := by omega
      have hkn' : (k : Int) ≤ (n : Int) := by omega
      have hka' : (k : Int) ≤ (ca : Int) := by omega
      have hkb' : (k : Int) ≤ (cb : Int) := by omega
      have hna' : (n : Int) ≤ (ca : Int) := by omega
      have hnb' : (n : Int) ≤ (cb : Int) := by omega
      clear hk s2 s3 h0 h1
      go_enter Tryd.func47, Tryd.ntmps47
      go_wp2_with fail
      refine (refsplit_any _ _ (by omega) (by omega)).mono ?_
      rintro e w3 ⟨rfl, hw3⟩
      subst hw3
      rw [Int.toNat_natCast, ← Hk.out]
      go_wp2_with fail
      apply Bl.wp_region_evK (Bl.Ext) (fun _ _ _ => True) 9 [37, 38, 39, 40, 41, 42, 43, 44, 45] [Bl.eqv _, Bl.eqv _, Bl.eqv (.slice (some ⟨b1, o1, none⟩) k ca), Bl.eqv _, Bl.eqv _, Bl.eqv _, Bl.eqv (.slice (some ⟨b1, o1 + k, none⟩) (n - k) (ca - k)), Bl.eqv _, (fun v w' => Bl.StrV w' v (1 :: (d1 ++ d2)))] (fun w => Below.refl _ w) (fun a b c h k => Bl.Ext.trans h k) (by kernel_rfl) (by kernel_rfl) (by kernel_rfl) (by kernel_rfl)
      case hsteps =>
        refine ⟨?_, ?_, ?_, ?_, ?_, ?_, ?_, ?_, ?_, trivial⟩
        all_goals
          intro d ev w1 hext HJd Hanc Hdes hni hb hd
          replace Hanc := Bl.hid Hanc
          replace HJd := Bl.hid HJd
          replace Hdes := Bl.hid Hdes
          replace hni := Bl.hid hni
          have e0 := hb 0 (by decide)
          have e5 := hb 5 (by decide)
          clear hb
          simp only [Array.getD_eq_getD_getElem?, List.getElem?_toArray, List.getElem?_cons_succ, List.getElem?_cons_zero, Option.getD_some] at e0 e5
          simp only [Bl.DepsE2, List.getElem?_cons_succ, List.getElem?_cons_zero, Option.bind_some, List.getD_cons_succ, List.getD_cons_zero, Bl.eqv, and_true] at hd
          have hc := (Bl.bcell hext).1
          simp only [Region.wanted, if_true]
          go_simp
          first | (go_at_call 22; (with_reducible refine (HQal.out _ hext).mono ?_); rintro e w2 ⟨rfl, hE2⟩; exact ⟨_, rfl, hE2, rfl⟩) | (go_at_call 22; (with_reducible refine (HQar.out _ hext).mono ?_); rintro e w2 ⟨rfl, hE2⟩; exact ⟨_, rfl, hE2, rfl⟩) | (go_at_call 66; (with_reducible refine (node39_any d1 d2 w1 Hl1.out Hl2.out).mono ?_); rintro e w2 ⟨v', rfl, h1, h2⟩; exact ⟨_, rfl, h2, h1⟩) | exact ⟨Below.refl _ _, by rw [if_neg (by omega)]; rfl⟩ | exact ⟨Below.refl _ _, rfl⟩ | exact Below.refl _ _
      case hmono => exact ⟨Bl.monoR_eqv _, Bl.monoR_eqv _, (Bl.monoR_eqv _), Bl.monoR_eqv _, Bl.monoR_eqv _, Bl.monoR_eqv _, (Bl.monoR_eqv _), Bl.monoR_eqv _, (fun _ _ _ h k => Bl.StrV.ext h k), trivial⟩
      case hR0 => exact (Below.refl _ _).drew
      case hend =>
        intro u w1 hext hJ hend
        simp only [Bl.EndE, List.getElem?_cons_succ, List.getElem?_cons_zero, Option.bind_some, List.getD_cons_succ, List.getD_cons_zero, Bl.eqv, true_and] at hend
        simp only [Bl.fillAct, List.setIfInBounds_toArray, List.set_cons_succ, List.set_cons_zero, List.drop_succ_cons, List.drop_zero, hend]
        have hx45 : Bl.StrV w1 (u 45) (1 :: (d1 ++ d2)) := (by first | exact hend | exact hend.2 | exact hend.1.2 | exact hend.1.1.2 | exact hend.1.1.1.2 | exact hend.1.1.1.1.2 | exact hend.1.1.1.1.1.2 | exact hend.1.1.1.1.1.1.2 | exact hend.1.1.1.1.1.1.1.2 | exact hend.1.1.1.1.1.1.1.1.2 | exact hend.1.1.1.1.1.1.1.1.1.2 | exact hend.1.1.1.1.1.1.1.1.1.1.2 | exact hend.1.1.1.1.1.1.1.1.1.1.1.2 | exact hend.1.1.1.1.1.1.1.1.1.1.1.1.2 | exact hend.1.1.1.1.1.1.1.1.1.1.1.1.1.2 | exact hend.1 | exact hend.1.1 | exact hend.1.1.1 | exact hend.1.1.1.1 | exact hend.1.1.1.1.1 | exact hend.1.1.1.1.1.1 | exact hend.1.1.1.1.1.1.1 | exact hend.1.1.1.1.1.1.1.1 | exact hend.1.1.1.1.1.1.1.1.1 | exact hend.1.1.1.1.1.1.1.1.1.1 | exact hend.1.1.1.1.1.1.1.1.1.1.1 | exact hend.1.1.1.1.1.1.1.1.1.1.1.1 | exact hend.1.1.1.1.1.1.1.1.1.1.1.1.1 | exact hend.2.1 | exact hend.2.2.1 | exact hend.2.2.2.1 | exact hend.2.2.2.2.1 | exact hend.2.2.2.2.2.1 | exact hend.2.2.2.2.2.2.1 | exact hend.2.2.2.2.2.2.2.1 | exact hend.2.2.2.2.2.2.2.2.1 | exact hend.2.2.2.2.2.2.2.2.2.1 | exact hend.2.2.2.2.2.2.2.2.2.2.1 | exact hend.2.2.2.2.2.2.2.2.2.2.2.1 | exact hend.2.2.2.2.2.2.2.2.2.2.2.2.1 | exact hend.2.2.2.2.2.2.2.2.2.2.2.2.2.1)
        obtain ⟨v6, hv6⟩ : ∃ v6, v6 = u 45 := ⟨_, rfl⟩
        rw [← hv6] at hx45
        rw [← hv6]
        have hx45' := hx45
        obtain ⟨b6, c6, hf6, _, _⟩ := hx45'
        rw [show ((1 : Int) :: (d1 ++ d2)).length = 65 from by simp [Hl1.out, Hl2.out]] at hf6
        subst hf6
        have H45s : Hid (Bl.StrV w1 (.slice (some ⟨b6, 0, none⟩) 65 c6) (1 :: (d1 ++ d2))) := Bl.hid hx45
        have HEa : Hid (Bl.Ext w w1) := Bl.hid hext
        obtain ⟨wa, hwa⟩ : ∃ wa, wa = w1 := ⟨_, rfl⟩
        rw [← hwa] at H45s HEa ⊢
        clear hv6 hend hext hx45 hwa hJ
        go_wp2_with fail
        apply Bl.wp_region_evK (Bl.Ext) (fun _ _ _ => True) 9 [46, 47, 48, 49, 50, 51, 52, 53, 54] [Bl.eqv _, Bl.eqv _, Bl.eqv (.slice (some ⟨b2, o2, none⟩) k cb), Bl.eqv _, Bl.eqv _, Bl.eqv _, Bl.eqv (.slice (some ⟨b2, o2 + k, none⟩) (n - k) (cb - k)), Bl.eqv _, (fun v w' => Bl.StrV w' v (1 :: (d3 ++ d4)))] (fun w => Below.refl _ w) (fun a b c h k => Bl.Ext.trans h k) (by kernel_rfl) (by kernel_rfl) (by kernel_rfl) (by kernel_rfl)
        case hsteps =>
          refine ⟨?_, ?_, ?_, ?_, ?_, ?_, ?_, ?_, ?_, trivial⟩
          all_goals
            intro d ev w1 hext HJd Hanc Hdes hni hb hd
            replace Hanc := Bl.hid Hanc
            replace HJd := Bl.hid HJd
            replace Hdes := Bl.hid Hdes
            replace hni := Bl.hid hni
            have e1 := hb 1 (by decide)
            have e5 := hb 5 (by decide)
            clear hb
            simp only [Array.getD_eq_getD_getElem?, List.getElem?_toArray, List.getElem?_cons_succ, List.getElem?_cons_zero, Option.getD_some] at e1 e5
            simp only [Bl.DepsE2, List.getElem?_cons_succ, List.getElem?_cons_zero, Option.bind_some, List.getD_cons_succ, List.getD_cons_zero, Bl.eqv, and_true] at hd
            have hc := (Bl.bcell hext).1
            simp only [Region.wanted, if_true]
            go_simp
            first | (go_at_call 22; (with_reducible refine (HQbl.out _ (HEa.out.trans hext)).mono ?_); rintro e w2 ⟨rfl, hE2⟩; exact ⟨_, rfl, hE2, rfl⟩) | (go_at_call 22; (with_reducible refine (HQbr.out _ (HEa.out.trans hext)).mono ?_); rintro e w2 ⟨rfl, hE2⟩; exact ⟨_, rfl, hE2, rfl⟩) | (go_at_call 66; (with_reducible refine (node39_any d3 d4 w1 Hl3.out Hl4.out).mono ?_); rintro e w2 ⟨v', rfl, h1, h2⟩; exact ⟨_, rfl, h2, h1⟩) | exact ⟨Below.refl _ _, by rw [if_neg (by omega)]; rfl⟩ | exact ⟨Below.refl _ _, rfl⟩ | exact Below.refl _ _
        case hmono => exact ⟨Bl.monoR_eqv _, Bl.monoR_eqv _, (Bl.monoR_eqv _), Bl.monoR_eqv _, Bl.monoR_eqv _, Bl.monoR_eqv _, (Bl.monoR_eqv _), Bl.monoR_eqv _, (fun _ _ _ h k => Bl.StrV.ext h k), trivial⟩
        case hR0 => exact (Below.refl _ _).drew
        case hend =>
          intro u w1 hext hJ hend
          simp only [Bl.EndE, List.getElem?_cons_succ, List.getElem?_cons_zero, Option.bind_some, List.getD_cons_succ, List.getD_cons_zero, Bl.eqv, true_and] at hend
          simp only [Bl.fillAct, List.setIfInBounds_toArray, List.set_cons_succ, List.set_cons_zero, List.drop_succ_cons, List.drop_zero, hend]
          have hx54 : Bl.StrV w1 (u 54) (1 :: (d3 ++ d4)) := (by first | exact hend | exact hend.2 | exact hend.1.2 | exact hend.1.1.2 | exact hend.1.1.1.2 | exact hend.1.1.1.1.2 | exact hend.1.1.1.1.1.2 | exact hend.1.1.1.1.1.1.2 | exact hend.1.1.1.1.1.1.1.2 | exact hend.1.1.1.1.1.1.1.1.2 | exact hend.1.1.1.1.1.1.1.1.1.2 | exact hend.1.1.1.1.1.1.1.1.1.1.2 | exact hend.1.1.1.1.1.1.1.1.1.1.1.2 | exact hend.1.1.1.1.1.1.1.1.1.1.1.1.2 | exact hend.1.1.1.1.1.1.1.1.1.1.1.1.1.2 | exact hend.1 | exact hend.1.1 | exact hend.1.1.1 | exact hend.1.1.1.1 | exact hend.1.1.1.1.1 | exact hend.1.1.1.1.1.1 | exact hend.1.1.1.1.1.1.1 | exact hend.1.1.1.1.1.1.1.1 | exact hend.1.1.1.1.1.1.1.1.1 | exact hend.1.1.1.1.1.1.1.1.1.1 | exact hend.1.1.1.1.1.1.1.1.1.1.1 | exact hend.1.1.1.1.1.1.1.1.1.1.1.1 | exact hend.1.1.1.1.1.1.1.1.1.1.1.1.1 | exact hend.2.1 | exact hend.2.2.1 | exact hend.2.2.2.1 | exact hend.2.2.2.2.1 | exact hend.2.2.2.2.2.1 | exact hend.2.2.2.2.2.2.1 | exact hend.2.2.2.2.2.2.2.1 | exact hend.2.2.2.2.2.2.2.2.1 | exact hend.2.2.2.2.2.2.2.2.2.1 | exact hend.2.2.2.2.2.2.2.2.2.2.1 | exact hend.2.2.2.2.2.2.2.2.2.2.2.1 | exact hend.2.2.2.2.2.2.2.2.2.2.2.2.1 | exact hend.2.2.2.2.2.2.2.2.2.2.2.2.2.1)
          obtain ⟨v7, hv7⟩ : ∃ v7, v7 = u 54 := ⟨_, rfl⟩
          rw [← hv7] at hx54
          rw [← hv7]
          have hx54' := hx54
          obtain ⟨b7, c7, hf7, _, _⟩ := hx54'
          rw [show ((1 : Int) :: (d3 ++ d4)).length = 65 from by simp [Hl3.out, Hl4.out]] at hf7
          subst hf7
          obtain ⟨p6, hp6⟩ : ∃ p6 : Option Addr, p6 = some ⟨b6, 0, none⟩ := ⟨_, rfl⟩
          obtain ⟨p7, hp7⟩ : ∃ p7 : Option Addr, p7 = some ⟨b7, 0, none⟩ := ⟨_, rfl⟩
          have hy45 : Bl.Rd w1 .u8 (.slice p6 65 c6) (1 :: (d1 ++ d2)) := by
            rw [hp6]
            obtain ⟨_, _, _, h, _⟩ := H45s.out.ext hext
            exact h
          have hy54 : Bl.Rd w1 .u8 (.slice p7 65 c7) (1 :: (d3 ++ d4)) := by
            rw [hp7]
            obtain ⟨_, _, _, h, _⟩ := hx54
            exact h
          rw [← hp6, ← hp7]
          have H45 := Bl.hid hy45
          have H54 := Bl.hid hy54
          have HE1 : Hid (Bl.Ext w w1) := Bl.hid (HEa.out.trans hext)
          have hcv1 := Bl.conv_bytes (P := Tryd.prog) (src := 80) (dst := 9) hy45 Tryd.underlying80 Tryd.underlying5 Tryd.underlying9
          have hcv2 := Bl.conv_bytes (P := Tryd.prog) (src := 80) (dst := 9) hy54 Tryd.underlying80 Tryd.underlying5 Tryd.underlying9
          have hq := Bl.bstr_beq Hx.out Hy.out
          clear hv7 hend hext hx54 hJ hy45 hy54 hp6 hp7 H45s
          by_cases hxy : (1 : Int) :: (d1 ++ d2) = 1 :: (d3 ++ d4)
          · obtain ⟨e13, e24⟩ := Bl.app32_inj (by rw [Hl1.out, Hl3.out]) hxy
            subst e13 e24
            clear hq hxy
            by_cases ht : xs.take k = ys.take k
            · have HK1 : Hid (∀ w2, Bl.Ext w w2 → Calls Tryd.prog 47 #[.slice (some ⟨b1, o1, none⟩) k ca, .slice (some ⟨b2, o2, none⟩) k cb] w2 fun e w' => e = .returned (.bool false) ∧ Bl.Ext w2 w') := Bl.hid fun w2 h2 => by
                have h := HKl.out rfl w2 h2
                rw [decide_eq_false (fun q => q ht)] at h
                exact h
              by_cases hd : xs.drop k = ys.drop k
              · have HK2 : Hid (∀ w2, Bl.Ext w w2 → Calls Tryd.prog 47 #[.slice (some ⟨b1, o1 + k, none⟩) (n - k) (ca - k), .slice (some ⟨b2, o2 + k, none⟩) (n - k) (cb - k)] w2 fun e w' => e = .returned (.bool false) ∧ Bl.Ext w2 w') := Bl.hid fun w2 h2 => by
                  have h := HKr.out rfl w2 h2
                  rw [decide_eq_false (fun q => q hd)] at h
                  exact h
                have Hres : Hid (decide (¬ xs = ys) = false) := Bl.hid (decide_eq_false fun q => q (Hsplit.out ht hd))
                clear ht hd
                go_wp2_with fail
                apply Bl.wp_region_ev 16 [69, 70, 71, 72, 73, 74, 75, 76, 77, 78, 79, 80, 81, 82, 83, 84] [Bl.eqv _, Bl.eqv _, Bl.eqv (.slice (some ⟨b1, o1, none⟩) k ca), Bl.eqv _, Bl.eqv _, Bl.eqv (.slice (some ⟨b2, o2, none⟩) k cb), Bl.eqv _, Bl.eqv _, Bl.eqv _, Bl.eqv _, Bl.eqv (.slice (some ⟨b1, o1 + k, none⟩) (n - k) (ca - k)), Bl.eqv _, Bl.eqv _, Bl.eqv (.slice (some ⟨b2, o2 + k, none⟩) (n - k) (cb - k)), Bl.eqv _, Bl.eqv _] (by kernel_rfl) (by kernel_rfl) (by kernel_rfl) (by kernel_rfl)
                case hsteps =>
                  refine ⟨?_, ?_, ?_, ?_, ?_, ?_, ?_, ?_, ?_, ?_, ?_, ?_, ?_, ?_, ?_, ?_, trivial⟩
                  all_goals
                    intro ev w1 hext hb hd
                    have e0 := hb 0 (by decide)
                    have e1 := hb 1 (by decide)
                    have e5 := hb 5 (by decide)
                    clear hb
                    simp only [Array.getD_eq_getD_getElem?, List.getElem?_toArray, List.getElem?_cons_succ, List.getElem?_cons_zero, Option.getD_some] at e0 e1 e5
                    simp only [Bl.DepsE, List.getElem?_cons_succ, List.getElem?_cons_zero, Option.bind_some, List.getD_cons_succ, List.getD_cons_zero, Bl.eqv, and_true] at hd
                    have hc := (Bl.bcell hext).1
                    have hE1 := HE1.out.trans hext
                    simp only [Bl.Good, Region.wanted, Bl.yieldE, List.getElem?_cons_succ, List.getElem?_cons_zero, Option.bind_some, hd, beq_self_eq_true, if_true]
                    go_simp
                    first | (go_at_call 47; (with_reducible refine (HK1.out _ hE1).mono ?_); rintro e w2 ⟨rfl, hE2⟩; exact ⟨_, rfl, hE2, rfl⟩) | (go_at_call 47; (with_reducible refine (HK2.out _ hE1).mono ?_); rintro e w2 ⟨rfl, hE2⟩; exact ⟨_, rfl, hE2, rfl⟩) | exact ⟨Below.refl _ _, by rw [if_neg (by omega)]; rfl⟩ | exact rfl | exact ⟨Below.refl _ _, rfl⟩
                case hmono => exact ⟨Bl.mono_eqv _, Bl.mono_eqv _, (Bl.mono_eqv _), Bl.mono_eqv _, Bl.mono_eqv _, (Bl.mono_eqv _), Bl.mono_eqv _, Bl.mono_eqv _, Bl.mono_eqv _, Bl.mono_eqv _, (Bl.mono_eqv _), Bl.mono_eqv _, Bl.mono_eqv _, (Bl.mono_eqv _), Bl.mono_eqv _, Bl.mono_eqv _, trivial⟩
                case hend =>
                  intro u w1 hext hend
                  simp only [Bl.EndE, List.getElem?_cons_succ, List.getElem?_cons_zero, Option.bind_some, List.getD_cons_succ, List.getD_cons_zero, Bl.eqv, true_and] at hend
                  simp only [Bl.fillAct, List.setIfInBounds_toArray, List.set_cons_succ, List.set_cons_zero, List.drop_succ_cons, List.drop_zero, hend]
                  have HEf := Bl.hid (HE1.out.trans hext)
                  clear hext hend
                  go_wp2_with fail
                  go_ret
                  exact ⟨by rw [Hres.out]; rfl, HEf.out⟩
              · have HK2 : Hid (∀ w2, Bl.Ext w w2 → Calls Tryd.prog 47 #[.slice (some ⟨b1, o1 + k, none⟩) (n - k) (ca - k), .slice (some ⟨b2, o2 + k, none⟩) (n - k) (cb - k)] w2 fun e w' => e = .returned (.bool true) ∧ Bl.Ext w2 w') := Bl.hid fun w2 h2 => by
                  have h := HKr.out rfl w2 h2
                  rw [decide_eq_true hd] at h
                  exact h
                have Hres : Hid (decide (¬ xs = ys) = true) := Bl.hid (decide_eq_true (Hdne.out hd))
                clear ht hd
                go_wp2_with fail
                apply Bl.wp_region_ev 16 [69, 70, 71, 72, 73, 74, 75, 76, 77, 78, 79, 80, 81, 82, 83, 84] [Bl.eqv _, Bl.eqv _, Bl.eqv (.slice (some ⟨b1, o1, none⟩) k ca), Bl.eqv _, Bl.eqv _, Bl.eqv (.slice (some ⟨b2, o2, none⟩) k cb), Bl.eqv _, Bl.eqv _, Bl.eqv _, Bl.eqv _, Bl.eqv (.slice (some ⟨b1, o1 + k, none⟩) (n - k) (ca - k)), Bl.eqv _, Bl.eqv _, Bl.eqv (.slice (some ⟨b2, o2 + k, none⟩) (n - k) (cb - k)), Bl.eqv _, Bl.eqv _] (by kernel_rfl) (by kernel_rfl) (by kernel_rfl) (by kernel_rfl)
                case hsteps =>
                  refine ⟨?_, ?_, ?_, ?_, ?_, ?_, ?_, ?_, ?_, ?_, ?_, ?_, ?_, ?_, ?_, ?_, trivial⟩
                  all_goals
                    intro ev w1 hext hb hd
                    have e0 := hb 0 (by decide)
                    have e1 := hb 1 (by decide)
                    have e5 := hb 5 (by decide)
                    clear hb
                    simp only [Array.getD_eq_getD_getElem?, List.getElem?_toArray, List.getElem?_cons_succ, List.getElem?_cons_zero, Option.getD_some] at e0 e1 e5
                    simp only [Bl.DepsE, List.getElem?_cons_succ, List.getElem?_cons_zero, Option.bind_some, List.getD_cons_succ, List.getD_cons_zero, Bl.eqv, and_true] at hd
                    have hc := (Bl.bcell hext).1
                    have hE1 := HE1.out.trans hext
                    simp only [Bl.Good, Region.wanted, Bl.yieldE, List.getElem?_cons_succ, List.getElem?_cons_zero, Option.bind_some, hd, beq_self_eq_true, if_true]
                    go_simp
                    first | (go_at_call 47; (with_reducible refine (HK1.out _ hE1).mono ?_); rintro e w2 ⟨rfl, hE2⟩; exact ⟨_, rfl, hE2, rfl⟩) | (go_at_call 47; (with_reducible refine (HK2.out _ hE1).mono ?_); rintro e w2 ⟨rfl, hE2⟩; exact ⟨_, rfl, hE2, rfl⟩) | exact ⟨Below.refl _ _, by rw [if_neg (by omega)]; rfl⟩ | exact rfl | exact ⟨Below.refl _ _, rfl⟩
                case hmono => exact ⟨Bl.mono_eqv _, Bl.mono_eqv _, (Bl.mono_eqv _), Bl.mono_eqv _, Bl.mono_eqv _, (Bl.mono_eqv _), Bl.mono_eqv _, Bl.mono_eqv _, Bl.mono_eqv _, Bl.mono_eqv _, (Bl.mono_eqv _), Bl.mono_eqv _, Bl.mono_eqv _, (Bl.mono_eqv _), Bl.mono_eqv _, Bl.mono_eqv _, trivial⟩
                case hend =>
                  intro u w1 hext hend
                  simp only [Bl.EndE, List.getElem?_cons_succ, List.getElem?_cons_zero, Option.bind_some, List.getD_cons_succ, List.getD_cons_zero, Bl.eqv, true_and] at hend
                  simp only [Bl.fillAct, List.setIfInBounds_toArray, List.set_cons_succ, List.set_cons_zero, List.drop_succ_cons, List.drop_zero, hend]
                  have HEf := Bl.hid (HE1.out.trans hext)
                  clear hext hend
                  go_wp2_with fail
                  go_ret
                  exact ⟨by rw [Hres.out]; rfl, HEf.out⟩
            · have HK1 : Hid (∀ w2, Bl.Ext w w2 → Calls Tryd.prog 47 #[.slice (some ⟨b1, o1, none⟩) k ca, .slice (some ⟨b2, o2, none⟩) k cb] w2 fun e w' => e = .returned (.bool true) ∧ Bl.Ext w2 w') := Bl.hid fun w2 h2 => by
                have h := HKl.out rfl w2 h2
                rw [decide_eq_true ht] at h
                exact h
              have Hres : Hid (decide (¬ xs = ys) = true) := Bl.hid (decide_eq_true (Htne.out ht))
              clear ht
              go_wp2_with fail
              apply Bl.wp_region_ev 16 [69, 70, 71, 72, 73, 74, 75, 76, 77, 78, 79, 80, 81, 82, 83, 84] [Bl.eqv _, Bl.eqv _, Bl.eqv (.slice (some ⟨b1, o1, none⟩) k ca), Bl.eqv _, Bl.eqv _, Bl.eqv (.slice (some ⟨b2, o2, none⟩) k cb), Bl.eqv _, Bl.eqv _, Bl.eqv _, Bl.eqv _, Bl.eqv _, Bl.eqv _, Bl.eqv _, Bl.eqv _, Bl.eqv _, Bl.eqv _] (by kernel_rfl) (by kernel_rfl) (by kernel_rfl) (by kernel_rfl)
              case hsteps =>
                refine ⟨?_, ?_, ?_, ?_, ?_, ?_, ?_, ?_, ?_, ?_, ?_, ?_, ?_, ?_, ?_, ?_, trivial⟩
                all_goals
                  intro ev w1 hext hb hd
                  have e0 := hb 0 (by decide)
                  have e1 := hb 1 (by decide)
                  have e5 := hb 5 (by decide)
                  clear hb
                  simp only [Array.getD_eq_getD_getElem?, List.getElem?_toArray, List.getElem?_cons_succ, List.getElem?_cons_zero, Option.getD_some] at e0 e1 e5
                  simp only [Bl.DepsE, List.getElem?_cons_succ, List.getElem?_cons_zero, Option.bind_some, List.getD_cons_succ, List.getD_cons_zero, Bl.eqv, and_true] at hd
                  have hc := (Bl.bcell hext).1
                  have hE1 := HE1.out.trans hext
                  simp only [Bl.Good, Region.wanted, Bl.yieldE, List.getElem?_cons_succ, List.getElem?_cons_zero, Option.bind_some, hd, if_true]
                  go_simp
                  first | (go_at_call 47; (with_reducible refine (HK1.out _ hE1).mono ?_); rintro e w2 ⟨rfl, hE2⟩; exact ⟨_, rfl, hE2, rfl⟩) | exact ⟨Below.refl _ _, by rw [if_neg (by omega)]; rfl⟩ | exact rfl | exact ⟨Below.refl _ _, rfl⟩
              case hmono => exact ⟨Bl.mono_eqv _, Bl.mono_eqv _, (Bl.mono_eqv _), Bl.mono_eqv _, Bl.mono_eqv _, (Bl.mono_eqv _), Bl.mono_eqv _, Bl.mono_eqv _, Bl.mono_eqv _, Bl.mono_eqv _, Bl.mono_eqv _, Bl.mono_eqv _, Bl.mono_eqv _, Bl.mono_eqv _, Bl.mono_eqv _, Bl.mono_eqv _, trivial⟩
              case hend =>
                intro u w1 hext hend
                simp only [Bl.EndE, List.getElem?_cons_succ, List.getElem?_cons_zero, Option.bind_some, List.getD_cons_succ, List.getD_cons_zero, Bl.eqv, true_and] at hend
                simp only [Bl.fillAct, List.setIfInBounds_toArray, List.set_cons_succ, List.set_cons_zero, List.drop_succ_cons, List.drop_zero, hend]
                have HEf := Bl.hid (HE1.out.trans hext)
                clear hext hend
                go_wp2_with fail
                go_ret
                exact ⟨by rw [Hres.out]; rfl, HEf.out⟩
          · have Hres : Hid (decide (¬ xs = ys) = true) := Bl.hid (decide_eq_true (Hxne.out hxy))
            rw [decide_eq_false hxy] at hq
            have hq2 : ¬ (Bl.bstr (1 :: (d1 ++ d2)) = Bl.bstr (1 :: (d3 ++ d4))) := fun q => by rw [q] at hq; simp at hq
            clear hxy
            go_wp2_with fail
            refine (of_any _ [1 :: (d1 ++ d2)] _ (Bl.rdss_1 H45.out 80) (Hg.out.ext (HE1.out.trans (Bl.ext_alloc _ _))).s (by simpa using Hx.out) (by simp [Hl1.out, Hl2.out])).mono ?_
            rintro e w4 ⟨rfl, hE4⟩
            have hsh : Bl.sha ([1 :: (d1 ++ d2)] : List (List Int)).flatten = Bl.ndD d1 d2 := by unfold Bl.ndD; rw [List.flatten_singleton]
            rw [hsh]
            clear hsh
            have HE4 : Hid (Bl.Ext w1 w4) := Bl.hid ((Bl.ext_alloc _ _).trans hE4)
            have H54b : Hid (Bl.Rd w4 .u8 (.slice p7 65 c7) (1 :: (d3 ++ d4))) := Bl.hid (H54.out.ext HE4.out)
            obtain ⟨d, hd⟩ : ∃ d, d = Bl.ndD d1 d2 := ⟨_, rfl⟩
            have Hdl : Hid (d.length = 32) := Bl.hid (by rw [hd]; rfl)
            rw [← hd]
            have Hd := Bl.hid hd
            clear hd hE4
            go_wp2_with fail
            refine (of_any _ [1 :: (d3 ++ d4)] _ (Bl.rdss_1 H54b.out 80) (Hg.out.ext ((HE1.out.trans HE4.out).trans (Bl.ext_alloc _ _))).s (by simpa using Hy.out) (by simp [Hl3.out, Hl4.out])).mono ?_
            rintro e w5 ⟨rfl, hE5⟩
            have hsh : Bl.sha ([1 :: (d3 ++ d4)] : List (List Int)).flatten = d := by rw [Hd.out, Hrt.out]; unfold Bl.ndD; rw [List.flatten_singleton]
            rw [hsh]
            have HE5 : Hid (Bl.Ext w w5) := Bl.hid ((HE1.out.trans HE4.out).trans ((Bl.ext_alloc _ _).trans hE5))
            have heq : ∀ w, (Op.equalIn 10000 39 (.agg (Bl.ints .u8 d).toArray) (.agg (Bl.ints .u8 d).toArray)).run Tryd.prog w = .ok true w := fun w => Bl.eq10k_same Tryd.underlying39 Tryd.underlying5 (fun w => by simp [go_sem]) _ Hdl.out w
            clear hsh hE5
            go_wp2_with fail
            go_ret
            exact ⟨by rw [Hres.out]; rfl, HE5.out⟩
        case hJ0 => trivial
      case hJ0 => trivial
end Go.Proofs.YtmfooocdnoflaaaDoor

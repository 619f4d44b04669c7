/- Walk of baileeref12.Over. -/
import Derived.Test.YtmfooocdnoflaaaDoorWLeaves
namespace Go.Proofs.YtmfooocdnoflaaaDoor
open Go.RowKit Go.Proofs

set_option maxRecDepth 100000 in
set_option maxHeartbeats 1000000 in
theorem refover_any : ∀ (n : Nat) (ds : List (List Int)) (v : Value) (w : World), ds.length = n → n ≤ 1048576 → Bl.Dig ds → Bl.RdD w v ds → GlobR w →
    Calls Tryd.prog 40 #[v] w fun e w' => e = .returned (.agg (Bl.ints .u8 (Bl.overD ds)).toArray) ∧ Bl.Ext w w' := by
  intro n
  induction n using Nat.strongRecOn with
  | _ n ih =>
    intro ds v w hn hmax hd hR hg
    have IH := Bl.hid ih
    have Hd := Bl.hid hd
    have Hg := Bl.hid hg
    have HF0 := Bl.hid (fam_new w 32 .u8 31 #[.int .u8 0, .int .u8 0, .int .u8 0, .int .u8 0, .int .u8 0, .int .u8 0, .int .u8 0, .int .u8 0, .int .u8 0, .int .u8 0, .int .u8 0, .int .u8 0, .int .u8 0, .int .u8 0, .int .u8 0, .int .u8 0, .int .u8 0, .int .u8 0, .int .u8 0, .int .u8 0, .int .u8 0, .int .u8 0, .int .u8 0, .int .u8 0, .int .u8 0, .int .u8 0, .int .u8 0, .int .u8 0, .int .u8 0, .int .u8 0, .int .u8 0, .int .u8 0] rfl)
    have HE0 := Bl.hid (Bl.ext_alloc w (.cells #[.int .u8 0, .int .u8 0, .int .u8 0, .int .u8 0, .int .u8 0, .int .u8 0, .int .u8 0, .int .u8 0, .int .u8 0, .int .u8 0, .int .u8 0, .int .u8 0, .int .u8 0, .int .u8 0, .int .u8 0, .int .u8 0, .int .u8 0, .int .u8 0, .int .u8 0, .int .u8 0, .int .u8 0, .int .u8 0, .int .u8 0, .int .u8 0, .int .u8 0, .int .u8 0, .int .u8 0, .int .u8 0, .int .u8 0, .int .u8 0, .int .u8 0, .int .u8 0] 31))
    clear ih hd hg
    by_cases h0 : n = 0
    · subst h0
      obtain rfl := List.length_eq_zero_iff.1 hn
      obtain ⟨p, c, rfl, _, _⟩ := hR.form
      clear hR hn hmax
      go_enter Tryd.func40, Tryd.ntmps40
      go_wp2_with fail
      obtain ⟨W0, hW0⟩ : ∃ W0, W0 = w.alloc (.cells #[.int .u8 0, .int .u8 0, .int .u8 0, .int .u8 0, .int .u8 0, .int .u8 0, .int .u8 0, .int .u8 0, .int .u8 0, .int .u8 0, .int .u8 0, .int .u8 0, .int .u8 0, .int .u8 0, .int .u8 0, .int .u8 0, .int .u8 0, .int .u8 0, .int .u8 0, .int .u8 0, .int .u8 0, .int .u8 0, .int .u8 0, .int .u8 0, .int .u8 0, .int .u8 0, .int .u8 0, .int .u8 0, .int .u8 0, .int .u8 0, .int .u8 0, .int .u8 0] 31) := ⟨_, rfl⟩
      rw [← hW0] at HF0 HE0 ⊢
      clear hW0
      refine (refof_any _ [] W0 (Bl.Rd.nil _ _) (Hg.out.ext HE0.out) Bl.Byt.nil (by decide)).mono ?_
      rintro e w1 ⟨rfl, hE1⟩
      have HE1 := Bl.hid hE1
      have hsh : Bl.sha [] = Bl.overD [] := rfl
      rw [hsh]
      obtain ⟨sh, hsh⟩ : ∃ sh, sh = Bl.overD [] := ⟨_, rfl⟩
      have Hshl : Hid (sh.length = 32) := Bl.hid (by rw [hsh]; rfl)
      have Hsh := Bl.hid hsh
      rw [← hsh]
      clear hE1 hsh
      have HFc := Bl.hid (HF0.out.below HE1.out (World.block_lt_of_cell? _ _ (HF0.out.1 0 (by decide))))
      have Hstc := Bl.hid (Bl.store_ints (P := Tryd.prog) (k := .u8) (ty := 31) (l := sh) HFc.out.there (by kernel_rfl) Hshl.out)
      go_wp2_with (((with_reducible refine Bl.wpL_store ?_ ?_ Hstc.out ?_); rfl; rfl))
      have hinc := World.rangeAt_setCells_same _ (w.heap.size) 0 (Bl.ints .u8 sh) (by rw [Bl.ints_length, Hshl.out]; exact HFc.out.there)
      have hldc := run_loadVar_mid (P := Tryd.prog) _ (w.heap.size) 0 31 (Bl.ints .u8 sh) _ hinc Tryd.underlying31 rfl (by rw [Bl.ints_length, Hshl.out]; kernel_rfl)
      refine bodyPost_ret (v := .agg (Bl.ints .u8 sh).toArray) (Bl.results_cell rfl rfl hldc) rfl ⟨by rw [Hsh.out], Bl.below_setCells _ _ _ _ (HE0.out.trans HE1.out) (Nat.le_refl _)⟩
    · obtain ⟨b, o, c, rfl, hc1, hc2, hbl, hr⟩ := Bl.RdD.pos hR Hd.out (by omega)
      have Hr := Bl.hid hr
      clear hR hr
      rw [hn] at hc1 ⊢
      have Hn := Bl.hid hn
      clear hn
      by_cases h1 : n = 1
      · subst h1
        obtain ⟨d, rfl⟩ : ∃ d, ds = [d] := by
          match ds, Hn.out with
          | [d], _ => exact ⟨d, rfl⟩
        obtain ⟨hdl, hdb⟩ := Hd.out d (by simp)
        have Hdl := Bl.hid hdl
        have Hrd : Hid (w.rangeAt b o (Bl.ints .u8 d)) := Bl.hid (by have := Hr.out; rw [Bl.cellsD_one] at this; exact this)
        clear hdl hdb
        go_enter Tryd.func40, Tryd.ntmps40
        go_wp2_with (with_reducible refine Bl.stop_load (ty := 31) ?_)
        refine Bl.go_on ?_
        obtain ⟨W0, hW0⟩ : ∃ W0, W0 = w.alloc (.cells #[.int .u8 0, .int .u8 0, .int .u8 0, .int .u8 0, .int .u8 0, .int .u8 0, .int .u8 0, .int .u8 0, .int .u8 0, .int .u8 0, .int .u8 0, .int .u8 0, .int .u8 0, .int .u8 0, .int .u8 0, .int .u8 0, .int .u8 0, .int .u8 0, .int .u8 0, .int .u8 0, .int .u8 0, .int .u8 0, .int .u8 0, .int .u8 0, .int .u8 0, .int .u8 0, .int .u8 0, .int .u8 0, .int .u8 0, .int .u8 0, .int .u8 0, .int .u8 0] 31) := ⟨_, rfl⟩
        rw [← hW0] at HF0 HE0 ⊢
        clear hW0
        refine Bl.wpL_load rfl (Bl.load_ints (Bl.rangeAt_ext Hrd.out HE0.out) Tryd.underlying31 (by kernel_rfl) Hdl.out) ?_
        have HE1 := Bl.hid (Below.refl W0.heap.size W0)
        have Hov : Hid (Bl.overD [d] = d) := Bl.hid (Bl.over_one _ _ d)
        have HFc := Bl.hid (HF0.out.below HE1.out (World.block_lt_of_cell? _ _ (HF0.out.1 0 (by decide))))
        have Hstc := Bl.hid (Bl.store_ints (P := Tryd.prog) (k := .u8) (ty := 31) (l := d) HFc.out.there (by kernel_rfl) Hdl.out)
        go_wp2_with (((with_reducible refine Bl.wpL_store ?_ ?_ Hstc.out ?_); rfl; rfl))
        have hinc := World.rangeAt_setCells_same _ (w.heap.size) 0 (Bl.ints .u8 d) (by rw [Bl.ints_length, Hdl.out]; exact HFc.out.there)
        have hldc := run_loadVar_mid (P := Tryd.prog) _ (w.heap.size) 0 31 (Bl.ints .u8 d) _ hinc Tryd.underlying31 rfl (by rw [Bl.ints_length, Hdl.out]; kernel_rfl)
        refine bodyPost_ret (v := .agg (Bl.ints .u8 d).toArray) (Bl.results_cell rfl rfl hldc) rfl ⟨by rw [Hov.out], Bl.below_setCells _ _ _ _ HE0.out (Nat.le_refl _)⟩
      · obtain ⟨s1, s2, s3⟩ := Bl.sp_bounds n (by omega) (by omega)
        have hov : Bl.overD ds = Bl.ndD (Bl.overD (ds.take (Bl.sp n))) (Bl.overD (ds.drop (Bl.sp n))) := by
          unfold Bl.overD
          rw [Bl.over_hi _ _ ds (by rw [Hn.out]; omega) (by rw [Hn.out]; omega), Hn.out]
        obtain ⟨k, hk⟩ : ∃ k, k = Bl.sp n := ⟨_, rfl⟩
        rw [← hk] at s1 s2 s3 hov
        have Hk := Bl.hid hk
        have Hov := Bl.hid hov
        have hkn : (k : Int) < (n : Int) := by omega
        have hnc : (n : Int) ≤ (c : Int) := by omega
        have hl0 : ((n : Int) == 0) = false := by simp; omega
        have hl1 : ((n : Int) == 1) = false := by simp; omega
        clear hk hov
        unfold maxLen at hc2
        go_enter Tryd.func40, Tryd.ntmps40
        go_wp2_with fail
        obtain ⟨W0, hW0⟩ : ∃ W0, W0 = w.alloc (.cells #[.int .u8 0, .int .u8 0, .int .u8 0, .int .u8 0, .int .u8 0, .int .u8 0, .int .u8 0, .int .u8 0, .int .u8 0, .int .u8 0, .int .u8 0, .int .u8 0, .int .u8 0, .int .u8 0, .int .u8 0, .int .u8 0, .int .u8 0, .int .u8 0, .int .u8 0, .int .u8 0, .int .u8 0, .int .u8 0, .int .u8 0, .int .u8 0, .int .u8 0, .int .u8 0, .int .u8 0, .int .u8 0, .int .u8 0, .int .u8 0, .int .u8 0, .int .u8 0] 31) := ⟨_, rfl⟩
        rw [← hW0] at HF0 HE0 ⊢
        clear hW0
        refine (refsplit_any _ W0 (by omega) (by omega)).mono ?_
        rintro e w1 ⟨rfl, rfl⟩
        rw [Int.toNat_natCast, ← Hk.out]
        have HL : Hid (∀ w1, Bl.Ext W0 w1 → Calls Tryd.prog 40 #[.slice (some ⟨b, o, none⟩) k c] w1 fun e w' => e = .returned (.agg (Bl.ints .u8 (Bl.overD (ds.take k))).toArray) ∧ Bl.Ext w1 w') := Bl.hid fun w1 h1 => by
          refine IH.out k (by omega) (ds.take k) _ w1 (by rw [List.length_take, Hn.out]; omega) (by omega) (Hd.out.take k) ?_ (Hg.out.ext (HE0.out.trans h1))
          refine .inr ⟨b, o, c, ?_, ?_, by unfold maxLen; omega, ?_⟩
          · rw [List.length_take, Hn.out, Nat.min_eq_left (by omega)]
          · rw [List.length_take, Hn.out]; omega
          · have := Bl.rangeD_sub (Bl.rangeAt_ext Hr.out (HE0.out.trans h1)) Hd.out 0 k
            simpa using this
        have HRt : Hid (∀ w1, Bl.Ext W0 w1 → Calls Tryd.prog 40 #[.slice (some ⟨b, o + k * 32, none⟩) (n - k) (c - k)] w1 fun e w' => e = .returned (.agg (Bl.ints .u8 (Bl.overD (ds.drop k))).toArray) ∧ Bl.Ext w1 w') := Bl.hid fun w1 h1 => by
          refine IH.out (n - k) (by omega) (ds.drop k) _ w1 (by rw [List.length_drop, Hn.out]) (by omega) (Hd.out.drop k) ?_ (Hg.out.ext (HE0.out.trans h1))
          refine .inr ⟨b, o + k * 32, c - k, by rw [List.length_drop, Hn.out], by rw [List.length_drop, Hn.out]; omega, by unfold maxLen; omega, ?_⟩
          have := Bl.rangeD_sub (Bl.rangeAt_ext Hr.out (HE0.out.trans h1)) Hd.out k (ds.drop k).length
          rwa [List.take_length] at this
        obtain ⟨hll, hlb⟩ := Bl.overD_dig k (ds.take k) (by rw [List.length_take, Hn.out]; omega) (Hd.out.take k) (by rw [List.length_take, Hn.out]; omega)
        obtain ⟨hrl, hrb⟩ := Bl.overD_dig (n - k) (ds.drop k) (by rw [List.length_drop, Hn.out]) (Hd.out.drop k) (by rw [List.length_drop, Hn.out]; omega)
        have HN : Hid (∀ w1, Bl.Ext W0 w1 → Calls Tryd.prog 63 #[.agg (Bl.ints .u8 (Bl.overD (ds.take k))).toArray, .agg (Bl.ints .u8 (Bl.overD (ds.drop k))).toArray] w1 fun e w' => e = .returned (.agg (Bl.ints .u8 (Bl.overD ds)).toArray) ∧ Bl.Ext w1 w') := Bl.hid fun w1 h1 => by
          rw [Hov.out]; exact refnode_any _ _ w1 hll hrl hlb hrb (Hg.out.ext (HE0.out.trans h1))
        obtain ⟨hol, hob⟩ := Bl.overD_dig n ds Hn.out Hd.out (by rw [Hn.out]; omega)
        have Hol := Bl.hid hol
        clear hll hlb hrl hrb hol hob
        have hkc : ¬ (k = c) := by omega
        have hk0 : (0 : Int) ≤ (k : Int) := by omega
        have hkn' : (k : Int) ≤ (n : Int) := by omega
        have hkc' : (k : Int) ≤ (c : Int) := by omega
        go_wp2_with fail
        apply Bl.wp_region_ev 9 [17, 18, 19, 20, 21, 22, 23, 24, 25] [Bl.eqv _, Bl.eqv _, Bl.eqv _, Bl.eqv _, Bl.eqv _, Bl.eqv _, Bl.eqv (.slice (some ⟨b, o + k * 32, none⟩) (n - k) (c - k)), Bl.eqv _, Bl.eqv _] (by kernel_rfl) (by kernel_rfl) (by kernel_rfl) (by kernel_rfl)
        case hsteps =>
          refine ⟨?_, ?_, ?_, ?_, ?_, ?_, ?_, ?_, ?_, trivial⟩
          all_goals
            intro ev w1 hext hb hd
            have e0 := hb 0 (by decide)
            have e3 := hb 3 (by decide)
            clear hb
            simp only [Array.getD_eq_getD_getElem?, List.getElem?_toArray, List.getElem?_cons_succ, List.getElem?_cons_zero, Option.getD_some] at e0 e3
            simp only [Bl.DepsE, List.getElem?_cons_succ, List.getElem?_cons_zero, Option.bind_some, List.getD_cons_succ, List.getD_cons_zero, Bl.eqv, and_true] at hd
            have hc := (Bl.bcell hext).1
            simp only [Bl.Good, Region.wanted, if_true]
            go_simp
            first | (go_at_call 40; (with_reducible refine (HL.out _ hext).mono ?_); rintro e w2 ⟨rfl, hE2⟩; exact ⟨_, rfl, hE2, rfl⟩) | (go_at_call 40; (with_reducible refine (HRt.out _ hext).mono ?_); rintro e w2 ⟨rfl, hE2⟩; exact ⟨_, rfl, hE2, rfl⟩) | (go_at_call 63; (with_reducible refine (HN.out _ hext).mono ?_); rintro e w2 ⟨rfl, hE2⟩; exact ⟨_, rfl, hE2, rfl⟩) | exact ⟨Below.refl _ _, by rw [if_neg (by omega)]; rfl⟩ | exact ⟨Below.refl _ _, rfl⟩
        case hmono => exact ⟨Bl.mono_eqv _, Bl.mono_eqv _, Bl.mono_eqv _, Bl.mono_eqv _, Bl.mono_eqv _, Bl.mono_eqv _, (Bl.mono_eqv _), Bl.mono_eqv _, Bl.mono_eqv _, trivial⟩
        case hend =>
          intro u w1 hext hend
          simp only [Bl.EndE, List.getElem?_cons_succ, List.getElem?_cons_zero, Option.bind_some, List.getD_cons_succ, List.getD_cons_zero, Bl.eqv, true_and] at hend
          simp only [Bl.fillAct, List.setIfInBounds_toArray, List.set_cons_succ, List.set_cons_zero, List.drop_succ_cons, List.drop_zero, hend]
          have HE1 := Bl.hid hext
          obtain ⟨sh, hsh⟩ : ∃ sh, sh = Bl.overD ds := ⟨_, rfl⟩
          rw [← hsh] at Hol ⊢
          have Hsh := Bl.hid hsh
          clear hext hend hsh
          have HFc := Bl.hid (HF0.out.below HE1.out (World.block_lt_of_cell? _ _ (HF0.out.1 0 (by decide))))
          have Hstc := Bl.hid (Bl.store_ints (P := Tryd.prog) (k := .u8) (ty := 31) (l := sh) HFc.out.there (by kernel_rfl) Hol.out)
          go_wp2_with (((with_reducible refine Bl.wpL_store ?_ ?_ Hstc.out ?_); rfl; rfl))
          have hinc := World.rangeAt_setCells_same _ (w.heap.size) 0 (Bl.ints .u8 sh) (by rw [Bl.ints_length, Hol.out]; exact HFc.out.there)
          have hldc := run_loadVar_mid (P := Tryd.prog) _ (w.heap.size) 0 31 (Bl.ints .u8 sh) _ hinc Tryd.underlying31 rfl (by rw [Bl.ints_length, Hol.out]; kernel_rfl)
          refine bodyPost_ret (v := .agg (Bl.ints .u8 sh).toArray) (Bl.results_cell rfl rfl hldc) rfl ⟨by rw [Hsh.out], Bl.below_setCells _ _ _ _ (HE0.out.trans HE1.out) (Nat.le_refl _)⟩
end Go.Proofs.YtmfooocdnoflaaaDoor

/- Walks of path.Fold, path.Check. -/
import Derived.Test.YtjmkcenkjnoblaaDoorWBytesOf
import Derived.Test.YtjmkcenkjnoblaaDoorZs
namespace Go.Proofs.Bl
open Go Go.RowKit
/-- the number of path.Check's error -/
def chkP (root : List Int) (n i : Int) (l : List Int) (p : List (List Int)) : Nat :=
  if thereB n i = true then (if p.length = (turnsL n.toNat i.toNat).length then (if foldP ndD n.toNat i.toNat (lfD l) p = root then 0 else 15) else 8) else 1
theorem chkP_range {root : List Int} {n i : Int} {l : List Int} {p : List (List Int)} (h : thereB n i = false) : chkP root n i l p = 1 := by unfold chkP; rw [h]; rfl
theorem chkP_size {root : List Int} {n i : Nat} {l : List Int} {p : List (List Int)} (h : thereB n i = true) (hp : ¬ p.length = (turnsL n i).length) : chkP root n i l p = 8 := by
  unfold chkP; rw [if_pos h, if_neg (by simpa using hp)]
theorem chkP_ok {root : List Int} {n i : Nat} {l : List Int} {p : List (List Int)} (h : thereB n i = true) (hp : p.length = (turnsL n i).length) (hf : foldP ndD n i (lfD l) p = root) : chkP root n i l p = 0 := by
  unfold chkP; rw [if_pos h, if_pos (by simpa using hp), if_pos (by simpa using hf)]
theorem chkP_bad {root : List Int} {n i : Nat} {l : List Int} {p : List (List Int)} (h : thereB n i = true) (hp : p.length = (turnsL n i).length) (hf : ¬ foldP ndD n i (lfD l) p = root) : chkP root n i l p = 15 := by
  unfold chkP; rw [if_pos h, if_pos (by simpa using hp), if_neg (by simpa using hf)]
theorem foldP_dig {n i : Nat} {l : List Int} {p : List (List Int)} (h : p.length = (turnsL n i).length) : (foldP ndD n i (lfD l) p).length = 32 ∧ Byt (foldP ndD n i (lfD l) p) := by
  rw [← seqP_last h]; exact ⟨rfl, sha_byt _⟩
/-- the last of a row of slices -/
theorem Rdss.last {w : World} {v : Value} {ps : List (List Int)} {m : Nat} (h : Rdss w v ps) (hl : ps.length = m + 1) : ∃ b o c p2 c2, v = .slice (some ⟨b, o, none⟩) (m + 1) c ∧ m + 1 ≤ c ∧ w.cell? ⟨b, o + m, none⟩ = some (.slice p2 (ps.getD m []).length c2) ∧ Rd w .u8 (.slice p2 (ps.getD m []).length c2) (ps.getD m []) := by
  obtain ⟨vs, hv, hvl, hr⟩ := h
  obtain ⟨p, c, hf, hc, _⟩ := hv.form
  subst hf
  obtain ⟨b, o, hp, _, hcell⟩ := Rdss.cell' hv hvl m (by omega)
  subst hp
  have h1 := hr m (by omega)
  obtain ⟨p2, c2, hf2, _, _⟩ := h1.form
  rw [hf2] at h1 hcell
  exact ⟨b, o, c, p2, c2, by rw [hl], by omega, hcell, h1⟩
end Go.Proofs.Bl
namespace Go.Proofs.YtjmkcenkjnoblaaDoor
open Go.RowKit Go.Proofs

set_option maxRecDepth 100000 in
set_option maxHeartbeats 1000000 in
theorem pfold_range (n i : Int) (vl vp : Value) (w : World) (S : List Nat) (a : Nat → Addr) (he : Errs S a w) (h1 : 1 ∈ S) (h : ¬ (n ≤ 512 ∧ 0 ≤ i ∧ i < n)) :
    Calls Tryd.prog 22 #[.int .i64 n, .int .i64 i, vl, vp] w fun e w' => e = .returned (.tuple #[.agg (Bl.ints .u8 Bl.zs32).toArray, errN a 1]) ∧ Bl.Ext w w' := by
  have hF : w.cell? ⟨2, 0, none⟩ = some (.iface 128 (.pointer (some (a 1)))) := he.cell 1 h1
  have hFl := World.block_lt_of_cell? w _ hF
  have HF := Bl.hid hF
  have HFl : Hid (2 < w.heap.size) := hFl
  have HL := Bl.hid (Bl.lenP_no (Bl.thereB_no h))
  have HF0 := Bl.hid (fam_new w 32 .u8 42 #[.int .u8 0, .int .u8 0, .int .u8 0, .int .u8 0, .int .u8 0, .int .u8 0, .int .u8 0, .int .u8 0, .int .u8 0, .int .u8 0, .int .u8 0, .int .u8 0, .int .u8 0, .int .u8 0, .int .u8 0, .int .u8 0, .int .u8 0, .int .u8 0, .int .u8 0, .int .u8 0, .int .u8 0, .int .u8 0, .int .u8 0, .int .u8 0, .int .u8 0, .int .u8 0, .int .u8 0, .int .u8 0, .int .u8 0, .int .u8 0, .int .u8 0, .int .u8 0] rfl)
  have HE0 := Bl.hid (Bl.ext_alloc w (.cells #[.int .u8 0, .int .u8 0, .int .u8 0, .int .u8 0, .int .u8 0, .int .u8 0, .int .u8 0, .int .u8 0, .int .u8 0, .int .u8 0, .int .u8 0, .int .u8 0, .int .u8 0, .int .u8 0, .int .u8 0, .int .u8 0, .int .u8 0, .int .u8 0, .int .u8 0, .int .u8 0, .int .u8 0, .int .u8 0, .int .u8 0, .int .u8 0, .int .u8 0, .int .u8 0, .int .u8 0, .int .u8 0, .int .u8 0, .int .u8 0, .int .u8 0, .int .u8 0] 42))
  have Hst : Hid (∀ w', Bl.Fam w' w.heap.size .u8 32 (fun _ => 0) → (Instr.storeAt 42 (.pointer (some ⟨w.heap.size, 0, none⟩)) (.agg (Bl.ints .u8 Bl.zs32).toArray)).run Tryd.prog w' = .ok () (w'.setCells w.heap.size 0 (Bl.ints .u8 Bl.zs32))) := Bl.hid fun w' h => Bl.store_ints (P := Tryd.prog) (ty := 42) (k := .u8) (l := Bl.zs32) (n := 32) h.there (by kernel_rfl) rfl
  clear hF hFl he h
  go_enter Tryd.func22, Tryd.ntmps22
  go_wp2_with fail
  generalize hWa : w.alloc (.cells #[.int .u8 0, .int .u8 0, .int .u8 0, .int .u8 0, .int .u8 0, .int .u8 0, .int .u8 0, .int .u8 0, .int .u8 0, .int .u8 0, .int .u8 0, .int .u8 0, .int .u8 0, .int .u8 0, .int .u8 0, .int .u8 0, .int .u8 0, .int .u8 0, .int .u8 0, .int .u8 0, .int .u8 0, .int .u8 0, .int .u8 0, .int .u8 0, .int .u8 0, .int .u8 0, .int .u8 0, .int .u8 0, .int .u8 0, .int .u8 0, .int .u8 0, .int .u8 0] 42) = Wa at HF0 HE0 ⊢
  clear hWa
  refine (length_any n i Wa).mono ?_
  rintro e w1 ⟨rfl, hE1⟩
  rw [HL.out]
  have HE1 := Bl.hid (HE0.out.trans hE1)
  have HF1 := Bl.hid (HF0.out.below hE1 (World.block_lt_of_cell? _ _ (HF0.out.1 0 (by decide))))
  have HcF := Bl.hid (((Bl.bcell HE1.out).1 _ 0 HFl.out).trans HF.out)
  have HFl1 : Hid (2 < w1.heap.size) := Bl.hid (Nat.lt_of_lt_of_le HFl.out HE1.out.size)
  clear hE1 HF0
  go_wp2_with fail
  apply Bl.wp_region_evK (fun a b => Below w.heap.size a b) (fun _ _ w' => Bl.Fam w' w.heap.size .u8 32 (fun _ => 0)) 3 [18, 19] [Bl.eqv (.agg (Bl.ints .u8 Bl.zs32).toArray), Bl.eqv _, Bl.eqv _] (fun w => Below.refl _ w) (fun a b c h k => Below.trans h k) (by kernel_rfl) (by kernel_rfl) (by kernel_rfl) (by kernel_rfl)
  case hsteps =>
    refine ⟨?_, ?_, ?_, trivial⟩
    all_goals
      intro d ev w1 hext HJd Hanc Hdes hni hb hd
      replace Hanc := Bl.hid Hanc
      replace HJd := Bl.hid HJd
      replace Hdes := Bl.hid Hdes
      replace hni := Bl.hid hni
      have e8 := hb 8 (by decide)
      clear hb
      simp only [Array.getD_eq_getD_getElem?, List.getElem?_toArray, List.getElem?_cons_succ, List.getElem?_cons_zero, Option.getD_some] at e8
      simp only [Bl.DepsE2, List.getElem?_cons_zero, Option.bind_some, List.getD_cons_zero, Bl.eqv, and_true] at hd
      have hc := (Bl.bcell hext).1
      have hcF := (hc _ 0 HFl.out).trans HcF.out
      simp only [Region.wanted, if_true]
      first
      | ((with_reducible refine Bl.goodX_store ?_ ?_ (Hst.out w1 HJd.out) ?_ ?_); exact e8; (first | exact hd | exact hd.1 | exact hd.2); exact Bl.below_setCells _ _ _ _ (Below.refl _ _) (Nat.le_refl _); exact ⟨rfl, Bl.fam_set32 HJd.out⟩)
      | (go_simp; first | exact ⟨Below.refl _ _, rfl, HJd.out⟩ | exact ⟨Below.refl _ _, rfl, Bl.HJ.same (by decide) HJd.out⟩)
  case hmono => exact ⟨(Bl.monoR_eqv _), Bl.monoR_eqv _, Bl.monoR_eqv _, trivial⟩
  case hR0 => exact (Below.refl _ _).drew
  case hend =>
    intro u w1 hext hJ hend
    simp only [Bl.EndE, List.getElem?_cons_succ, List.getElem?_cons_zero, Option.bind_some, List.getD_cons_succ, List.getD_cons_zero, Bl.eqv, true_and] at hend
    simp only [Bl.fillAct, List.setIfInBounds_toArray, List.set_cons_succ, List.set_cons_zero, List.drop_succ_cons, List.drop_zero, hend]
    have hldc := run_loadVar_mid (P := Tryd.prog) _ w.heap.size 0 42 (Bl.ints .u8 Bl.zs32) _ (hJ.list rfl Bl.zs32_get) Tryd.underlying42 rfl (by kernel_rfl)
    have Hldc := Bl.hid hldc
    have HE2 : Hid (Bl.Ext w w1) := Bl.hid (Below.trans HE1.out hext)
    clear hext hend hJ hldc
    go_wp2_with fail
    exact bodyPost_ret (v := .tuple #[.agg (Bl.ints .u8 Bl.zs32).toArray, .iface 128 (.pointer (some (a 1)))]) (Bl.results_cell2 rfl rfl Hldc.out rfl) rfl ⟨rfl, HE2.out⟩
  case hJ0 => exact HF1.out.drew 1

set_option maxRecDepth 100000 in
set_option maxHeartbeats 1000000 in
theorem pfold_size (n i : Nat) (vl vp : Value) (p : List (List Int)) (w : World) (S : List Nat) (a : Nat → Addr) (hp : Bl.RdD w vp p) (he : Errs S a w) (h8 : 8 ∈ S) (hn : n ≤ 512) (hi : i < n) (hpl : ¬ p.length = (Bl.turnsL n i).length) :
    Calls Tryd.prog 22 #[.int .i64 n, .int .i64 i, vl, vp] w fun e w' => e = .returned (.tuple #[.agg (Bl.ints .u8 Bl.zs32).toArray, errN a 8]) ∧ Bl.Ext w w' := by
  obtain ⟨pp, cp, hvf, hvn, hvc⟩ := hp.form
  subst hvf
  have hF : w.cell? ⟨0, 0, none⟩ = some (.iface 128 (.pointer (some (a 8)))) := he.cell 8 h8
  have hFl := World.block_lt_of_cell? w _ hF
  have HF := Bl.hid hF
  have HFl : Hid (0 < w.heap.size) := hFl
  have HL := Bl.hid (Bl.lenP_yes hn hi)
  have hTb := Bl.turnsL_len n n i (Nat.le_refl _) (by omega)
  obtain ⟨t, ht⟩ : ∃ t, t = (Bl.turnsL n i).length := ⟨_, rfl⟩
  rw [← ht] at HL hpl hTb
  have hne : ((t : Int) == (p.length : Int)) = false := by rw [beq_eq_false_iff_ne]; omega
  have hneg : ¬ ((t : Int) < 0) := by omega
  have HF0 := Bl.hid (fam_new w 32 .u8 42 #[.int .u8 0, .int .u8 0, .int .u8 0, .int .u8 0, .int .u8 0, .int .u8 0, .int .u8 0, .int .u8 0, .int .u8 0, .int .u8 0, .int .u8 0, .int .u8 0, .int .u8 0, .int .u8 0, .int .u8 0, .int .u8 0, .int .u8 0, .int .u8 0, .int .u8 0, .int .u8 0, .int .u8 0, .int .u8 0, .int .u8 0, .int .u8 0, .int .u8 0, .int .u8 0, .int .u8 0, .int .u8 0, .int .u8 0, .int .u8 0, .int .u8 0, .int .u8 0] rfl)
  have HE0 := Bl.hid (Bl.ext_alloc w (.cells #[.int .u8 0, .int .u8 0, .int .u8 0, .int .u8 0, .int .u8 0, .int .u8 0, .int .u8 0, .int .u8 0, .int .u8 0, .int .u8 0, .int .u8 0, .int .u8 0, .int .u8 0, .int .u8 0, .int .u8 0, .int .u8 0, .int .u8 0, .int .u8 0, .int .u8 0, .int .u8 0, .int .u8 0, .int .u8 0, .int .u8 0, .int .u8 0, .int .u8 0, .int .u8 0, .int .u8 0, .int .u8 0, .int .u8 0, .int .u8 0, .int .u8 0, .int .u8 0] 42))
  have Hst : Hid (∀ w', Bl.Fam w' w.heap.size .u8 32 (fun _ => 0) → (Instr.storeAt 42 (.pointer (some ⟨w.heap.size, 0, none⟩)) (.agg (Bl.ints .u8 Bl.zs32).toArray)).run Tryd.prog w' = .ok () (w'.setCells w.heap.size 0 (Bl.ints .u8 Bl.zs32))) := Bl.hid fun w' h => Bl.store_ints (P := Tryd.prog) (ty := 42) (k := .u8) (l := Bl.zs32) (n := 32) h.there (by kernel_rfl) rfl
  clear hF hFl he hp ht hpl
  go_enter Tryd.func22, Tryd.ntmps22
  go_wp2_with fail
  generalize hWa : w.alloc (.cells #[.int .u8 0, .int .u8 0, .int .u8 0, .int .u8 0, .int .u8 0, .int .u8 0, .int .u8 0, .int .u8 0, .int .u8 0, .int .u8 0, .int .u8 0, .int .u8 0, .int .u8 0, .int .u8 0, .int .u8 0, .int .u8 0, .int .u8 0, .int .u8 0, .int .u8 0, .int .u8 0, .int .u8 0, .int .u8 0, .int .u8 0, .int .u8 0, .int .u8 0, .int .u8 0, .int .u8 0, .int .u8 0, .int .u8 0, .int .u8 0, .int .u8 0, .int .u8 0] 42) = Wa at HF0 HE0 ⊢
  clear hWa
  refine (length_any n i Wa).mono ?_
  rintro e w1 ⟨rfl, hE1⟩
  rw [HL.out]
  have HE1 := Bl.hid (HE0.out.trans hE1)
  have HF1 := Bl.hid (HF0.out.below hE1 (World.block_lt_of_cell? _ _ (HF0.out.1 0 (by decide))))
  have HcF := Bl.hid (((Bl.bcell HE1.out).1 _ 0 HFl.out).trans HF.out)
  clear hE1 HF0
  go_wp2_with fail
  apply Bl.wp_region_evK (fun a b => Below w.heap.size a b) (fun _ _ w' => Bl.Fam w' w.heap.size .u8 32 (fun _ => 0)) 3 [25, 26] [Bl.eqv (.agg (Bl.ints .u8 Bl.zs32).toArray), Bl.eqv _, Bl.eqv _] (fun w => Below.refl _ w) (fun a b c h k => Below.trans h k) (by kernel_rfl) (by kernel_rfl) (by kernel_rfl) (by kernel_rfl)
  case hsteps =>
    refine ⟨?_, ?_, ?_, trivial⟩
    all_goals
      intro d ev w1 hext HJd Hanc Hdes hni hb hd
      replace Hanc := Bl.hid Hanc
      replace HJd := Bl.hid HJd
      replace Hdes := Bl.hid Hdes
      replace hni := Bl.hid hni
      have e8 := hb 8 (by decide)
      clear hb
      simp only [Array.getD_eq_getD_getElem?, List.getElem?_toArray, List.getElem?_cons_succ, List.getElem?_cons_zero, Option.getD_some] at e8
      simp only [Bl.DepsE2, List.getElem?_cons_zero, Option.bind_some, List.getD_cons_zero, Bl.eqv, and_true] at hd
      have hc := (Bl.bcell hext).1
      have hcF := (hc _ 0 HFl.out).trans HcF.out
      simp only [Region.wanted, if_true]
      first
      | ((with_reducible refine Bl.goodX_store ?_ ?_ (Hst.out w1 HJd.out) ?_ ?_); exact e8; (first | exact hd | exact hd.1 | exact hd.2); exact Bl.below_setCells _ _ _ _ (Below.refl _ _) (Nat.le_refl _); exact ⟨rfl, Bl.fam_set32 HJd.out⟩)
      | (go_simp; first | exact ⟨Below.refl _ _, rfl, HJd.out⟩ | exact ⟨Below.refl _ _, rfl, Bl.HJ.same (by decide) HJd.out⟩)
  case hmono => exact ⟨(Bl.monoR_eqv _), Bl.monoR_eqv _, Bl.monoR_eqv _, trivial⟩
  case hR0 => exact (Below.refl _ _).drew
  case hend =>
    intro u w1 hext hJ hend
    simp only [Bl.EndE, List.getElem?_cons_succ, List.getElem?_cons_zero, Option.bind_some, List.getD_cons_succ, List.getD_cons_zero, Bl.eqv, true_and] at hend
    simp only [Bl.fillAct, List.setIfInBounds_toArray, List.set_cons_succ, List.set_cons_zero, List.drop_succ_cons, List.drop_zero, hend]
    have hldc := run_loadVar_mid (P := Tryd.prog) _ w.heap.size 0 42 (Bl.ints .u8 Bl.zs32) _ (hJ.list rfl Bl.zs32_get) Tryd.underlying42 rfl (by kernel_rfl)
    have Hldc := Bl.hid hldc
    have HE2 : Hid (Bl.Ext w w1) := Bl.hid (Below.trans HE1.out hext)
    clear hext hend hJ hldc
    go_wp2_with fail
    exact bodyPost_ret (v := .tuple #[.agg (Bl.ints .u8 Bl.zs32).toArray, .iface 128 (.pointer (some (a 8)))]) (Bl.results_cell2 rfl rfl Hldc.out rfl) rfl ⟨rfl, HE2.out⟩
  case hJ0 => exact HF1.out.drew 1

set_option maxRecDepth 100000 in
set_option maxHeartbeats 1000000 in
theorem pfold_ok (n i : Nat) (vl vp : Value) (l : List Int) (p : List (List Int)) (w : World) (hn : n ≤ 512) (hi : i < n) (hl : Bl.Rd w .u8 vl l) (hbl : Bl.Byt l) (hll : l.length ≤ 1099511626000) (hp : Bl.RdD w vp p) (hdp : Bl.Dig p) (hpl : p.length = (Bl.turnsL n i).length) (hg : Glob w) :
    Calls Tryd.prog 22 #[.int .i64 n, .int .i64 i, vl, vp] w fun e w' => e = .returned (.tuple #[.agg (Bl.ints .u8 (Bl.foldP Bl.ndD n i (Bl.lfD l) p)).toArray, .nilIface]) ∧ Bl.Ext w w' := by
  have HB := Bl.hid (fun w1 (h : Bl.Ext w w1) => bytesOf_any n i vl vp l p w1 hn hi (hl.ext h) hbl hll (Bl.Rds.ext hp h) hdp hpl (hg.ext h))
  have HSl := Bl.hid (Bl.seqP_len (l := l) hpl)
  have HSz := Bl.hid (Bl.seqP_last (l := l) hpl)
  have HSb : Hid (Bl.Byt ((Bl.seqP n i l p).getD (Bl.turnsL n i).length [])) := Bl.hid (by
    cases ht : (Bl.turnsL n i).length with
    | zero => rw [Bl.seqP_zero]; exact Bl.byt_cons (by decide) (by decide) hbl
    | succ k =>
      rw [Bl.seqP_succ hpl k (by omega)]
      exact Bl.stB_byt (Bl.sha_byt _) (hdp.get (by omega)).2)
  have HSn : Hid (((Bl.seqP n i l p).getD (Bl.turnsL n i).length []).length ≤ 1099511627000) := Bl.hid (by
    cases ht : (Bl.turnsL n i).length with
    | zero => rw [Bl.seqP_zero, List.length_cons]; omega
    | succ k =>
      rw [Bl.seqP_succ hpl k (by omega), Bl.stB_len rfl (hdp.get (by omega)).1]; decide)
  obtain ⟨pp, cp, hvf, hvn, hvc⟩ := hp.form
  subst hvf
  have HL := Bl.hid (Bl.lenP_yes hn hi)
  have hTb := Bl.turnsL_len n n i (Nat.le_refl _) (by omega)
  obtain ⟨F, hF⟩ : ∃ F, F = Bl.foldP Bl.ndD n i (Bl.lfD l) p := ⟨_, rfl⟩
  have Hshl : Hid (F.length = 32) := Bl.hid (by rw [hF]; exact (Bl.foldP_dig hpl).1)
  obtain ⟨t, ht⟩ : ∃ t, t = (Bl.turnsL n i).length := ⟨_, rfl⟩
  rw [← ht] at HL hpl hTb HSl HSz HSb HSn
  rw [← hF] at HSz ⊢
  rw [hpl] at HB hvn ⊢
  obtain ⟨Sq, hSq⟩ : ∃ Sq, Sq = Bl.seqP n i l p := ⟨_, rfl⟩
  rw [← hSq] at HB HSl HSz HSb HSn
  have hneg : ¬ ((t : Int) < 0) := by omega
  have HF0 := Bl.hid (fam_new w 32 .u8 42 #[.int .u8 0, .int .u8 0, .int .u8 0, .int .u8 0, .int .u8 0, .int .u8 0, .int .u8 0, .int .u8 0, .int .u8 0, .int .u8 0, .int .u8 0, .int .u8 0, .int .u8 0, .int .u8 0, .int .u8 0, .int .u8 0, .int .u8 0, .int .u8 0, .int .u8 0, .int .u8 0, .int .u8 0, .int .u8 0, .int .u8 0, .int .u8 0, .int .u8 0, .int .u8 0, .int .u8 0, .int .u8 0, .int .u8 0, .int .u8 0, .int .u8 0, .int .u8 0] rfl)
  have HE0 := Bl.hid (Bl.ext_alloc w (.cells #[.int .u8 0, .int .u8 0, .int .u8 0, .int .u8 0, .int .u8 0, .int .u8 0, .int .u8 0, .int .u8 0, .int .u8 0, .int .u8 0, .int .u8 0, .int .u8 0, .int .u8 0, .int .u8 0, .int .u8 0, .int .u8 0, .int .u8 0, .int .u8 0, .int .u8 0, .int .u8 0, .int .u8 0, .int .u8 0, .int .u8 0, .int .u8 0, .int .u8 0, .int .u8 0, .int .u8 0, .int .u8 0, .int .u8 0, .int .u8 0, .int .u8 0, .int .u8 0] 42))
  have Hg := Bl.hid hg
  clear hp ht hpl hg hl hbl hdp hF hSq hvn hvc
  go_enter Tryd.func22, Tryd.ntmps22
  go_wp2_with fail
  generalize hWa : w.alloc (.cells #[.int .u8 0, .int .u8 0, .int .u8 0, .int .u8 0, .int .u8 0, .int .u8 0, .int .u8 0, .int .u8 0, .int .u8 0, .int .u8 0, .int .u8 0, .int .u8 0, .int .u8 0, .int .u8 0, .int .u8 0, .int .u8 0, .int .u8 0, .int .u8 0, .int .u8 0, .int .u8 0, .int .u8 0, .int .u8 0, .int .u8 0, .int .u8 0, .int .u8 0, .int .u8 0, .int .u8 0, .int .u8 0, .int .u8 0, .int .u8 0, .int .u8 0, .int .u8 0] 42) = Wa at HF0 HE0 ⊢
  clear hWa
  refine (length_any n i Wa).mono ?_
  rintro e w1 ⟨rfl, hE1⟩
  rw [HL.out]
  have HE1 := Bl.hid (HE0.out.trans hE1)
  have HEa := Bl.hid hE1
  clear hE1
  go_wp2_with fail
  refine (HB.out w1 HE1.out).mono ?_
  rintro e w2 ⟨v2, rfl, hR2, hE2⟩
  obtain ⟨b, o, c, p2, c2, hv2, hc2, hcell, hrd⟩ := hR2.last HSl.out
  subst hv2
  obtain ⟨x, hx⟩ : ∃ x, x = Sq.getD t [] := ⟨_, rfl⟩
  rw [← hx] at hcell hrd HSz HSb HSn
  have HE2 := Bl.hid (HEa.out.trans hE2)
  have Hrd := Bl.hid hrd
  have ht1 : (t : Int) < (t : Int) + 1 := by omega
  have ht2 : (0 : Int) ≤ (t : Int) := by omega
  clear hE2 hR2 hrd hx HB HSl
  go_wp2_with fail
  refine (of_any _ [x] (w2.alloc (.cells #[.slice p2 x.length c2] 23)) (Bl.rdss_1 Hrd.out _) (Hg.out.ext ((HE0.out.trans HE2.out).trans (Bl.ext_alloc _ _))) (by rw [List.flatten_singleton]; exact HSb.out) (by rw [List.flatten_singleton]; have := HSn.out; omega)).mono ?_
  rintro e w3 ⟨rfl, hE3⟩
  rw [List.flatten_singleton, HSz.out]
  have HE3 : Hid (Bl.Ext Wa w3) := Bl.hid ((HE2.out.trans (Bl.ext_alloc _ _)).trans hE3)
  clear hE3 hcell
  have HFc := Bl.hid (HF0.out.below HE3.out (World.block_lt_of_cell? _ _ (HF0.out.1 0 (by decide))))
  have Hstc := Bl.hid (Bl.store_ints (P := Tryd.prog) (k := .u8) (ty := 42) (l := F) HFc.out.there (by kernel_rfl) Hshl.out)
  go_wp2_with (((with_reducible refine Bl.wpL_store ?_ ?_ Hstc.out ?_); rfl; rfl))
  have hinc := World.rangeAt_setCells_same _ (w.heap.size) 0 (Bl.ints .u8 F) (by rw [Bl.ints_length, Hshl.out]; exact HFc.out.there)
  have hldc := run_loadVar_mid (P := Tryd.prog) _ (w.heap.size) 0 42 (Bl.ints .u8 F) _ hinc Tryd.underlying42 rfl (by rw [Bl.ints_length, Hshl.out]; kernel_rfl)
  refine bodyPost_ret (v := .tuple #[.agg (Bl.ints .u8 F).toArray, .nilIface]) (Bl.results_cell2 rfl rfl hldc rfl) rfl ⟨rfl, Bl.below_setCells _ _ _ _ (HE0.out.trans HE3.out) (Nat.le_refl _)⟩

set_option maxRecDepth 100000 in
set_option maxHeartbeats 1000000 in
/-- path.Check behind what path.Fold answers -/
theorem pcheck_of (root d : List Int) (n i : Int) (vl vp : Value) (w : World) (m r : Nat) (S : List Nat) (a : Nat → Addr) (he : Errs S a w) (h15 : 15 ∈ S) (hr : root.length = 32) (hd : d.length = 32) (hr0 : m = 0 → d = root → r = 0) (hr1 : m = 0 → ¬ d = root → r = 15) (hr2 : ¬ m = 0 → r = m)
    (hF : ∀ w1, Bl.Ext w w1 → Calls Tryd.prog 22 #[.int .i64 n, .int .i64 i, vl, vp] w1 fun e w' => e = .returned (.tuple #[.agg (Bl.ints .u8 d).toArray, errN a m]) ∧ Bl.Ext w1 w') :
    Calls Tryd.prog 15 #[.agg (Bl.ints .u8 root).toArray, .int .i64 n, .int .i64 i, vl, vp] w fun e w' => e = .returned (errN a r) ∧ Bl.Ext w w' := by
  have hF15 : w.cell? ⟨14, 0, none⟩ = some (.iface 128 (.pointer (some (a 15)))) := he.cell 15 h15
  have hFl := World.block_lt_of_cell? w _ hF15
  have HF15 := Bl.hid hF15
  have HFl : Hid (14 < w.heap.size) := hFl
  have HF := Bl.hid hF
  have Hr := Bl.hid hr
  have Hd := Bl.hid hd
  have HE0 := Bl.hid (Bl.ext_alloc w (.cells (Bl.ints .u8 root).toArray 42))
  have HRr := Bl.hid (Bl.range_box w root 42)
  have Hr0 := Bl.hid hr0
  have Hr1 := Bl.hid hr1
  have Hr2 := Bl.hid hr2
  clear hF15 hFl he hF hr hd hr0 hr1 hr2
  go_enter Tryd.func15, Tryd.ntmps15
  go_wp2_with fail
  generalize hWa : w.alloc (.cells (Bl.ints .u8 root).toArray 42) = Wa at HRr HE0 ⊢
  clear hWa
  refine (HF.out Wa HE0.out).mono ?_
  rintro e w1 ⟨rfl, hE1⟩
  have HFz := Bl.hid (fam_new w1 32 .u8 42 #[.int .u8 0, .int .u8 0, .int .u8 0, .int .u8 0, .int .u8 0, .int .u8 0, .int .u8 0, .int .u8 0, .int .u8 0, .int .u8 0, .int .u8 0, .int .u8 0, .int .u8 0, .int .u8 0, .int .u8 0, .int .u8 0, .int .u8 0, .int .u8 0, .int .u8 0, .int .u8 0, .int .u8 0, .int .u8 0, .int .u8 0, .int .u8 0, .int .u8 0, .int .u8 0, .int .u8 0, .int .u8 0, .int .u8 0, .int .u8 0, .int .u8 0, .int .u8 0] rfl)
  have HBx := Bl.hid (Bl.BoxD.of_fam HFz.out (d := d) Hd.out)
  have Hst := Bl.hid (Bl.store_ints (P := Tryd.prog) (ty := 42) (k := .u8) (l := d) (n := 32) HFz.out.there (by kernel_rfl) Hd.out)
  have HE2 : Hid (Bl.Ext Wa ((w1.alloc (.cells #[.int .u8 0, .int .u8 0, .int .u8 0, .int .u8 0, .int .u8 0, .int .u8 0, .int .u8 0, .int .u8 0, .int .u8 0, .int .u8 0, .int .u8 0, .int .u8 0, .int .u8 0, .int .u8 0, .int .u8 0, .int .u8 0, .int .u8 0, .int .u8 0, .int .u8 0, .int .u8 0, .int .u8 0, .int .u8 0, .int .u8 0, .int .u8 0, .int .u8 0, .int .u8 0, .int .u8 0, .int .u8 0, .int .u8 0, .int .u8 0, .int .u8 0, .int .u8 0] 42)).setCells w1.heap.size 0 (Bl.ints .u8 d))) := Bl.hid (Below.trans hE1 ((Bl.below_setCells _ _ _ _ (Bl.ext_alloc _ _) (Nat.le_refl _)).mono hE1.size))
  have Hs1 := Bl.hid hE1.size
  clear hE1 HF
  go_wp2_with (with_reducible refine Bl.stop_store (ty := 42) ?_)
  refine Bl.go_on ?_
  refine Bl.wpL_store0 rfl rfl Hst.out ?_
  clear Hst HFz
  generalize hX : w1.heap.size = X at HBx HE2 Hs1 ⊢
  generalize (w1.alloc (.cells #[.int .u8 0, .int .u8 0, .int .u8 0, .int .u8 0, .int .u8 0, .int .u8 0, .int .u8 0, .int .u8 0, .int .u8 0, .int .u8 0, .int .u8 0, .int .u8 0, .int .u8 0, .int .u8 0, .int .u8 0, .int .u8 0, .int .u8 0, .int .u8 0, .int .u8 0, .int .u8 0, .int .u8 0, .int .u8 0, .int .u8 0, .int .u8 0, .int .u8 0, .int .u8 0, .int .u8 0, .int .u8 0, .int .u8 0, .int .u8 0, .int .u8 0, .int .u8 0] 42)).setCells X 0 (Bl.ints .u8 d) = W2 at HBx HE2 ⊢
  clear hX
  have HE2w := Bl.hid (HE0.out.trans HE2.out)
  have Hl1 := Bl.hid (HBx.out.load (P := Tryd.prog) (ty := 42) Tryd.underlying42 (by kernel_rfl))
  have Hl2 := Bl.hid (Bl.load_ints (P := Tryd.prog) (ty := 42) (Bl.rangeAt_ext HRr.out HE2.out) Tryd.underlying42 (by kernel_rfl) Hr.out)
  have hcF := ((Bl.bcell HE2w.out).1 _ 0 HFl.out).trans HF15.out
  clear HE2 HBx HRr HE0
  by_cases hm : m = 0
  · subst hm
    rw [errN_zero]
    by_cases hdr : d = root
    · have heq : ∀ w, (Op.equalIn 10000 42 (.agg (Bl.ints .u8 d).toArray) (.agg (Bl.ints .u8 root).toArray)).run Tryd.prog w = .ok true w := fun w => by
        rw [Bl.eq10k Tryd.underlying42 Tryd.underlying5 (fun w => by simp [go_sem]) d root Hd.out Hr.out w, decide_eq_true hdr]
      have Hv : Hid (errN a r = .nilIface) := Bl.hid (by rw [Hr0.out rfl hdr]; rfl)
      clear hdr
      go_wp2_with (with_reducible refine Bl.stop_loadg (ty := 42) ?_)
      refine Bl.go_on ?_
      refine Bl.wpL_loadg rfl rfl Hl1.out ?_
      go_wp2_with (with_reducible refine Bl.stop_loadg (ty := 42) ?_)
      refine Bl.go_on ?_
      refine Bl.wpL_loadg rfl rfl Hl2.out ?_
      go_wp2_with fail
      go_ret
      exact ⟨by rw [Hv.out]; rfl, HE2w.out⟩
    · have heq : ∀ w, (Op.equalIn 10000 42 (.agg (Bl.ints .u8 d).toArray) (.agg (Bl.ints .u8 root).toArray)).run Tryd.prog w = .ok false w := fun w => by
        rw [Bl.eq10k Tryd.underlying42 Tryd.underlying5 (fun w => by simp [go_sem]) d root Hd.out Hr.out w, decide_eq_false hdr]
      have Hv : Hid (errN a r = .iface 128 (.pointer (some (a 15)))) := Bl.hid (by rw [Hr1.out rfl hdr]; rfl)
      clear hdr
      go_wp2_with (with_reducible refine Bl.stop_loadg (ty := 42) ?_)
      refine Bl.go_on ?_
      refine Bl.wpL_loadg rfl rfl Hl1.out ?_
      go_wp2_with (with_reducible refine Bl.stop_loadg (ty := 42) ?_)
      refine Bl.go_on ?_
      refine Bl.wpL_loadg rfl rfl Hl2.out ?_
      go_wp2_with fail
      go_ret
      exact ⟨by rw [Hv.out]; rfl, HE2w.out⟩
  · rw [errN_pos a m hm]
    have Hv : Hid (errN a r = .iface 128 (.pointer (some (a m)))) := Bl.hid (by rw [Hr2.out hm, errN_pos a m hm])
    clear hm
    go_wp2_with fail
    go_ret
    exact ⟨by rw [Hv.out]; rfl, HE2w.out⟩

theorem pcheck_any (root : List Int) (n i : Int) (vl vp : Value) (l : List Int) (p : List (List Int)) (w : World) (S : List Nat) (a : Nat → Addr) (he : Errs S a w) (h1 : 1 ∈ S) (h8 : 8 ∈ S) (h15 : 15 ∈ S) (hr : root.length = 32)
    (hl : Bl.Rd w .u8 vl l) (hbl : Bl.Byt l) (hll : l.length ≤ 1099511626000) (hp : Bl.RdD w vp p) (hdp : Bl.Dig p) (hg : Glob w) :
    Calls Tryd.prog 15 #[.agg (Bl.ints .u8 root).toArray, .int .i64 n, .int .i64 i, vl, vp] w fun e w' => e = .returned (errN a (Bl.chkP root n i l p)) ∧ Bl.Ext w w' := by
  by_cases h : n ≤ 512 ∧ 0 ≤ i ∧ i < n
  · obtain ⟨h2, h3, h4⟩ := h
    have hb := Bl.thereB_mk h2 h3 h4
    obtain ⟨j, rfl⟩ := Int.eq_ofNat_of_zero_le h3
    obtain ⟨m, rfl⟩ := Int.eq_ofNat_of_zero_le (a := n) (by omega)
    by_cases hpl : p.length = (Bl.turnsL m j).length
    · by_cases hf : Bl.foldP Bl.ndD m j (Bl.lfD l) p = root
      · rw [Bl.chkP_ok hb hpl hf]
        exact pcheck_of root (Bl.foldP Bl.ndD m j (Bl.lfD l) p) m j vl vp w 0 0 S a he h15 hr (Bl.foldP_dig hpl).1 (fun _ h => rfl) (fun _ h => absurd hf h) (fun h => absurd rfl h) (fun w1 hw => pfold_ok m j vl vp l p w1 (by omega) (by omega) (hl.ext hw) hbl hll (Bl.Rds.ext hp hw) hdp hpl (hg.ext hw))
      · rw [Bl.chkP_bad hb hpl hf]
        exact pcheck_of root (Bl.foldP Bl.ndD m j (Bl.lfD l) p) m j vl vp w 0 15 S a he h15 hr (Bl.foldP_dig hpl).1 (fun _ h => absurd h hf) (fun _ h => rfl) (fun h => absurd rfl h) (fun w1 hw => pfold_ok m j vl vp l p w1 (by omega) (by omega) (hl.ext hw) hbl hll (Bl.Rds.ext hp hw) hdp hpl (hg.ext hw))
    · rw [Bl.chkP_size hb hpl]
      exact pcheck_of root Bl.zs32 m j vl vp w 8 8 S a he h15 hr rfl (fun h => absurd h (by decide)) (fun h => absurd h (by decide)) (fun _ => rfl) (fun w1 hw => pfold_size m j vl vp p w1 S a (Bl.Rds.ext hp hw) (he.ext hw) h8 (by omega) (by omega) hpl)
  · rw [Bl.chkP_range (Bl.thereB_no h)]
    exact pcheck_of root Bl.zs32 n i vl vp w 1 1 S a he h15 hr rfl (fun h => absurd h (by decide)) (fun h => absurd h (by decide)) (fun _ => rfl) (fun w1 hw => pfold_range n i vl vp w1 S a (he.ext hw) h1 h)
end Go.Proofs.YtjmkcenkjnoblaaDoor

/- Walk of letter.Parse. -/
import Derived.Test.YtmmolapkddbibaaDoorLP6
import Derived.Test.YtmmolapkddbibaaDoorLWa
namespace Go.Proofs.Bl
open Go Go.RowKit
/-- the letter of bytes, as the reader goes -/
def parT (s : Rst) : Nat × LT := if (nuT 1 s).2.1 = true then (2, lt0) else if wi (nuT 1 s).1 1 7 = false then (7, lt0) else finT (rsT (nuT 1 s).1 (nuT 8 (nuT 1 s).2).1 (nuT 8 (nuT 8 (nuT 1 s).2).2).1 (nuT 8 (nuT 8 (nuT 1 s).2).2).2)
theorem parseL_T {b : List Int} (h : ¬ 8000 < b.length) : parseL b = parT (false, b) := by
  unfold parseL parT
  rw [if_neg h]
  cases b with
  | nil => rw [if_pos nuT_none]
  | cons k r =>
    rw [nuT_first]
    simp only [Bool.false_eq_true, if_false]
    rw [finT_eq]
/-- what Parse hands back -/
def PaR (a : Nat → Value) (pr : Nat × LT) (w : World) (e : Ending) (w' : World) : Prop := ∃ v' vp vs vb L, e = .returned (.tuple #[v', a pr.1]) ∧ v' = .agg (cL pr.2 vp vs vb).toArray ∧ LtF (fun k => w.heap.size ≤ k) w' pr.2 vp vs vb L ∧ Ext w w'
end Go.Proofs.Bl
namespace Go.Proofs.YtmmolapkddbibaaDoor
open Go Go.RowKit Go.Proofs

theorem buildZ (w : World) : (Instr.build 26 #[]).run Tryd.prog w = .ok (.agg Bl.zL) w := run_build w _ _ _ (by kernel_rfl)
theorem buildK (k : Int) (w : World) : (Instr.build 26 #[(0, .int .i64 k)]).run Tryd.prog w = .ok (.agg (Bl.cK k 0 0 0 0 0).toArray) w := run_build w _ _ _ (by kernel_rfl)

set_option maxRecDepth 100000 in
set_option maxHeartbeats 8000000 in
theorem parse_any (v : Value) (b : List Int) (w : World) (S : List Nat) (a : Nat → Addr) (hR : Bl.Rd w .u8 v b) (hb : Bl.Byt b) (hl : b.length ≤ 9000) (he : Errs S a w) (s1 : 1 ∈ S) (s2 : 2 ∈ S) (s3 : 3 ∈ S) (s4 : 4 ∈ S) (s7 : 7 ∈ S) (s8 : 8 ∈ S) :
    Calls Tryd.prog 23 #[v] w fun e w' => Bl.PaR (errN a) (Bl.parseL b) w e w' := by
  obtain ⟨p, c, hvf, hbc, hcm⟩ := hR.form
  subst hvf
  have He := Bl.hid he
  have HG : Hid (∀ i, i ∈ S → ¬ (gE i = w.heap.size)) := Bl.hid fun i hi q => by
    have h := World.block_lt_of_cell? _ _ (he.cell i hi)
    have : gE i < w.heap.size := h
    omega
  obtain ⟨pr, hpr⟩ : ∃ pr, pr = Bl.parseL b := ⟨_, rfl⟩
  have HP8 : Hid (8000 < b.length → pr = (3, Bl.lt0)) := Bl.hid fun h => by rw [hpr]; unfold Bl.parseL; rw [if_pos h]
  have HPT : Hid (¬ 8000 < b.length → pr = Bl.parT (false, b)) := Bl.hid fun h => by rw [hpr]; exact Bl.parseL_T h
  rw [← hpr]
  clear hpr
  have HBR0 := Bl.hid (Bl.BoxC.box (cs := Bl.zL.toList) w 26 (fun q => by cases q))
  have HE0 := Bl.hid (Bl.ext_alloc w (.cells Bl.zL 26))
  have HStz : Hid (∀ w2, Bl.BoxC w2 w.heap.size Bl.zL.toList → (Instr.storeAt 26 (.pointer (some ⟨w.heap.size, 0, none⟩)) (.agg Bl.zL)).run Tryd.prog w2 = .ok () (w2.setCells w.heap.size 0 Bl.zL.toList)) := Bl.hid fun w2 h => h.store (P := Tryd.prog) (cs' := Bl.zL.toList) rfl (fun c hc => by
    simp only [List.mem_cons, List.not_mem_nil, or_false] at hc
    rcases hc with rfl | rfl | rfl | rfl | rfl | rfl | rfl | rfl | rfl <;> rfl) (ty := 26) (by kernel_rfl)
  obtain ⟨n, hn⟩ : ∃ n, n = b.length := ⟨_, rfl⟩
  have Hn := Bl.hid hn
  have HR := Bl.hid hR
  have Hb := Bl.hid hb
  rw [← hn] at HP8 HPT hbc hl ⊢
  unfold maxLen at hcm
  clear he hR hb hn
  by_cases h8 : 8000 < n
  · have h8i : (8000 : Int) < (n : Int) := by omega
    have HZ : Hid (Bl.Kq (fun k => w.heap.size ≤ k) w (w.alloc (.cells Bl.zL 26))) := Bl.hid (Bl.Kq.of_ext HE0.out)
    have Hsp := Bl.hid (HP8.out h8)
    go_enter Tryd.func23, Tryd.ntmps23
    go_wp2_with fail
    obtain ⟨W0, hW0⟩ : ∃ W0, W0 = w.alloc (.cells Bl.zL 26) := ⟨_, rfl⟩
    rw [← hW0] at HBR0 HZ ⊢
    clear hW0
    have hF : W0.cell? ⟨4, 0, none⟩ = some (.iface 137 (.pointer (some (a 3)))) := (He.out.ext (HZ.out.ext (fun k q => q))).cell 3 s3
    have HF := Bl.hid hF
    clear hF
    apply Bl.wp_region_evK (Bl.Kq (fun k => k = w.heap.size)) (fun _ _ w' => Bl.BoxC w' w.heap.size Bl.zL.toList) 3 [10, 11] [Bl.eqv _, Bl.eqv _, Bl.eqv _] (fun w => Bl.Kq.refl w) (fun a b c h k => Bl.Kq.trans h k) (by kernel_rfl) (by kernel_rfl) (by kernel_rfl) (by kernel_rfl)
    case hsteps =>
      refine ⟨?_, ?_, ?_, trivial⟩
      all_goals
        intro d ev w1 hext HJd Hanc Hdes hni hb hd
        replace Hanc := Bl.hid Hanc
        replace HJd := Bl.hid HJd
        replace Hdes := Bl.hid Hdes
        replace hni := Bl.hid hni
        have e2 := hb 2 (by decide)
        clear hb
        simp only [Array.getD_eq_getD_getElem?, List.getElem?_toArray, List.getElem?_cons_succ, List.getElem?_cons_zero, Option.getD_some] at e2
        simp only [Bl.DepsE2, List.getElem?_cons_zero, Option.bind_some, List.getD_cons_zero, Bl.eqv, and_true] at hd
        have cF : w1.cell? ⟨4, 0, none⟩ = some (.iface 137 (.pointer (some (a 3)))) := hext.cell (HG.out 3 s3) HF.out
        rw [if_pos (rfl : Region.wanted _ _ = true)]
        first
        | ((with_reducible refine Bl.goodX_store ?_ ?_ (HStz.out w1 HJd.out) ?_ ?_); exact e2; exact (by first | exact hd | exact hd.2 | exact hd.1.2 | exact hd.1.1.2 | exact hd.1.1.1.2 | exact hd.1.1.1.1.2 | exact hd.1.1.1.1.1.2 | exact hd.1.1.1.1.1.1.2 | exact hd.1.1.1.1.1.1.1.2 | exact hd.1.1.1.1.1.1.1.1.2 | exact hd.1.1.1.1.1.1.1.1.1.2 | exact hd.1.1.1.1.1.1.1.1.1.1.2 | exact hd.1.1.1.1.1.1.1.1.1.1.1.2 | exact hd.1.1.1.1.1.1.1.1.1.1.1.1.2 | exact hd.1.1.1.1.1.1.1.1.1.1.1.1.1.2 | exact hd.1 | exact hd.1.1 | exact hd.1.1.1 | exact hd.1.1.1.1 | exact hd.1.1.1.1.1 | exact hd.1.1.1.1.1.1 | exact hd.1.1.1.1.1.1.1 | exact hd.1.1.1.1.1.1.1.1 | exact hd.1.1.1.1.1.1.1.1.1 | exact hd.1.1.1.1.1.1.1.1.1.1 | exact hd.1.1.1.1.1.1.1.1.1.1.1 | exact hd.1.1.1.1.1.1.1.1.1.1.1.1 | exact hd.1.1.1.1.1.1.1.1.1.1.1.1.1 | exact hd.2.1 | exact hd.2.2.1 | exact hd.2.2.2.1 | exact hd.2.2.2.2.1 | exact hd.2.2.2.2.2.1 | exact hd.2.2.2.2.2.2.1 | exact hd.2.2.2.2.2.2.2.1 | exact hd.2.2.2.2.2.2.2.2.1 | exact hd.2.2.2.2.2.2.2.2.2.1 | exact hd.2.2.2.2.2.2.2.2.2.2.1 | exact hd.2.2.2.2.2.2.2.2.2.2.2.1 | exact hd.2.2.2.2.2.2.2.2.2.2.2.2.1 | exact hd.2.2.2.2.2.2.2.2.2.2.2.2.2.1); exact (Bl.Kq.refl w1).setCells (Q := fun k => k = w.heap.size) rfl 0 _; exact ⟨rfl, HJd.out.set rfl⟩)
        | (go_simp; first | exact ⟨Bl.Kq.refl _, rfl, HJd.out⟩ | exact ⟨Below.refl _ _, rfl, Bl.HJ.same (by decide) HJd.out⟩)
    case hmono => exact ⟨Bl.monoR_eqv _, Bl.monoR_eqv _, Bl.monoR_eqv _, trivial⟩
    case hR0 => exact Bl.Kq.drew _
    case hend =>
      intro u w1 hext hJ hend
      simp only [Bl.EndE, List.getElem?_cons_succ, List.getElem?_cons_zero, Option.bind_some, List.getD_cons_succ, List.getD_cons_zero, Bl.eqv, true_and] at hend
      simp only [Bl.fillAct, List.setIfInBounds_toArray, List.set_cons_succ, List.set_cons_zero, List.drop_succ_cons, List.drop_zero, hend]
      have HBz := Bl.hid hJ
      have HEz : Hid (Bl.Ext w w1) := Bl.hid ((HZ.out.trans (hext.mono fun k _ q => Nat.le_of_eq q.symm)).ext fun k q => q)
      have hsp : pr = (3, Bl.lt0) := Hsp.out
      subst hsp
      clear hext hJ hend
      go_wp2_with fail
      exact bodyPost_ret (v := .tuple #[.agg Bl.zL, .iface 137 (.pointer (some (a 3)))]) (Bl.results_cell2 rfl rfl (HBz.out.loadVar (P := Tryd.prog) Tryd.underlying26 rfl (by kernel_rfl)) rfl) rfl ⟨_, _, _, _, _, rfl, rfl, Bl.LtF.nil _ _ _ _ _ _ _ _, HEz.out⟩
    case hJ0 => exact Bl.BoxC.same HBR0.out rfl
  have h8i : ¬ ((8000 : Int) < (n : Int)) := by omega
  have HPt := Bl.hid (HPT.out h8)
  clear HP8 HPT h8
  have hs0 : (w.alloc (.cells Bl.zL 26)).heap.size = w.heap.size + 1 := World.size_alloc _ _
  obtain ⟨W1, hW1⟩ : ∃ W1, W1 = (w.alloc (.cells Bl.zL 26)).alloc (.cells #[.slice p n c, .bool false] 96) := ⟨_, rfl⟩
  have HBR1 : Hid (Bl.BoxC W1 w.heap.size Bl.zL.toList) := Bl.hid (by rw [hW1]; exact HBR0.out.ext (Bl.ext_alloc _ _))
  have HE1 : Hid (Bl.Ext w W1) := Bl.hid (by rw [hW1]; exact HE0.out.trans (Bl.ext_alloc _ _))
  obtain ⟨X, hX⟩ : ∃ X, X = w.heap.size + 1 := ⟨_, rfl⟩
  have HX1 : Hid (Bl.BoxC W1 X [.slice p n c, .bool false]) := Bl.hid (by
    have h := Bl.BoxC.box (cs := [.slice p n c, .bool false]) (w.alloc (.cells Bl.zL 26)) 96 (fun q => by cases q)
    rw [hs0, ← hX] at h
    rw [hW1]; exact h)
  have HR1 : Hid (Bl.Rdr W1 X (false, b)) := Bl.hid ⟨⟨p, c, by rw [← Hn.out]; exact HX1.out, by
    refine (Bl.RdsF.of_rds (F := fun k => k < w.heap.size) HR.out (fun _ _ h => h)).kept fun k hk hlk => ⟨by omega, HE1.out.block k hk⟩, by rw [← Hn.out]; exact hbc, by unfold maxLen; exact hcm⟩, Hb.out, by rw [← Hn.out]; exact hl⟩
  have HN1 := Bl.hid (rdnum_any X 1 (false, b) W1 HR1.out (by decide) (by decide))
  have HZ1 : Hid (Bl.Kq (fun k => w.heap.size ≤ k) w W1) := Bl.hid (Bl.Kq.of_ext HE1.out)
  unfold Bl.parT at HPt
  obtain ⟨k, hk⟩ : ∃ k, k = (Bl.nuT 1 (false, b)).1 := ⟨_, rfl⟩
  obtain ⟨t1, ht1⟩ : ∃ t1, t1 = (Bl.nuT 1 (false, b)).2 := ⟨_, rfl⟩
  rw [← hk, ← ht1] at HN1
  simp only [← hk, ← ht1] at HPt
  have hXw : w.heap.size < X := by omega
  clear hs0 HX1 HR1 hk ht1 HBR0 HE0
  go_enter Tryd.func23, Tryd.ntmps23
  go_wp2_with fail
  rw [← hW1, ← hX]
  clear hW1 hX
  refine HN1.out.mono ?_
  rintro e w2 ⟨rfl, hR2, hK2⟩
  have HR2 := Bl.hid hR2
  have HZ2 : Hid (Bl.Kq (fun k => w.heap.size ≤ k) w w2) := Bl.hid (HZ1.out.trans (hK2.mono fun k _ q => by omega))
  have HBR2 := Bl.hid (hK2.box (by omega) HBR1.out)
  clear hR2 hK2 HN1 HBR1 HZ1 HE1
  have hone : ∀ c ∈ Bl.cK k 0 0 0 0 0, c.oneCell' = true := fun c hc => by
    simp only [Bl.cK, List.mem_cons, List.not_mem_nil, or_false] at hc
    rcases hc with rfl | rfl | rfl | rfl | rfl | rfl | rfl | rfl | rfl <;> rfl
  obtain ⟨hB3, hE3⟩ := Bl.BoxC.fresh (cs := Bl.cK k 0 0 0 0 0) w2 26 Bl.zL rfl (fun q => by cases q)
  have Hst3 := Bl.hid (Bl.fresh_store (P := Tryd.prog) (cs := Bl.cK k 0 0 0 0 0) w2 26 Bl.zL rfl hone (ty := 26) (by kernel_rfl))
  have HB3 := Bl.hid hB3
  have HE3 := Bl.hid hE3
  clear hB3 hE3 hone
  go_wp2_with (with_reducible refine Bl.stop_store (ty := 26) ?_)
  refine Bl.go_on ?_
  refine Bl.wpL_store0 rfl rfl Hst3.out ?_
  obtain ⟨W3, hW3⟩ : ∃ W3, W3 = (w2.alloc (.cells Bl.zL 26)).setCells w2.heap.size 0 (Bl.cK k 0 0 0 0 0) := ⟨_, rfl⟩
  obtain ⟨Y, hY⟩ : ∃ Y, Y = w2.heap.size := ⟨_, rfl⟩
  rw [← hW3] at HB3 HE3 ⊢
  rw [← hY] at HB3 ⊢
  have HXY : Hid (X < Y ∧ w.heap.size < X) := Bl.hid ⟨by rw [hY]; exact HR2.out.lt, hXw⟩
  have HR3 := Bl.hid (HR2.out.ext HE3.out)
  have HBR3 := Bl.hid (HBR2.out.ext HE3.out)
  have HZ3 : Hid (Bl.Kq (fun k => w.heap.size ≤ k) w W3) := Bl.hid (HZ2.out.trans (Bl.Kq.of_ext HE3.out))
  clear hW3 hY Hst3 HR2 HBR2 HZ2 HE3 hXw
  obtain ⟨p3, c3, hx3, _⟩ := HR3.out.ex
  have q31 := hx3.cell (i := 1) rfl
  have q30 := HB3.out.cell (i := 0) (v := .int .i64 k) rfl
  clear hx3
  obtain ⟨sh, hsh⟩ : ∃ sh, sh = t1.1 := ⟨_, rfl⟩
  rw [← hsh] at q31
  rw [← hsh] at HPt
  clear hsh
  cases sh with
  | true =>
    have Hsp : Hid (pr = (2, Bl.lt0)) := HPt
    clear HPt q30
    go_wp2_with fail
    clear q31
    have hF : W3.cell? ⟨3, 0, none⟩ = some (.iface 137 (.pointer (some (a 2)))) := (He.out.ext (HZ3.out.ext (fun k q => q))).cell 2 s2
    have HF := Bl.hid hF
    clear hF
    apply Bl.wp_region_evK (Bl.Kq (fun k => k = w.heap.size)) (fun _ _ w' => Bl.BoxC w' w.heap.size Bl.zL.toList) 3 [23, 24] [Bl.eqv _, Bl.eqv _, Bl.eqv _] (fun w => Bl.Kq.refl w) (fun a b c h k => Bl.Kq.trans h k) (by kernel_rfl) (by kernel_rfl) (by kernel_rfl) (by kernel_rfl)
    case hsteps =>
      refine ⟨?_, ?_, ?_, trivial⟩
      all_goals
        intro d ev w1 hext HJd Hanc Hdes hni hb hd
        replace Hanc := Bl.hid Hanc
        replace HJd := Bl.hid HJd
        replace Hdes := Bl.hid Hdes
        replace hni := Bl.hid hni
        have e2 := hb 2 (by decide)
        clear hb
        simp only [Array.getD_eq_getD_getElem?, List.getElem?_toArray, List.getElem?_cons_succ, List.getElem?_cons_zero, Option.getD_some] at e2
        simp only [Bl.DepsE2, List.getElem?_cons_zero, Option.bind_some, List.getD_cons_zero, Bl.eqv, and_true] at hd
        have cF : w1.cell? ⟨3, 0, none⟩ = some (.iface 137 (.pointer (some (a 2)))) := hext.cell (HG.out 2 s2) HF.out
        rw [if_pos (rfl : Region.wanted _ _ = true)]
        first
        | ((with_reducible refine Bl.goodX_store ?_ ?_ (HStz.out w1 HJd.out) ?_ ?_); exact e2; exact (by first | exact hd | exact hd.2 | exact hd.1.2 | exact hd.1.1.2 | exact hd.1.1.1.2 | exact hd.1.1.1.1.2 | exact hd.1.1.1.1.1.2 | exact hd.1.1.1.1.1.1.2 | exact hd.1.1.1.1.1.1.1.2 | exact hd.1.1.1.1.1.1.1.1.2 | exact hd.1.1.1.1.1.1.1.1.1.2 | exact hd.1.1.1.1.1.1.1.1.1.1.2 | exact hd.1.1.1.1.1.1.1.1.1.1.1.2 | exact hd.1.1.1.1.1.1.1.1.1.1.1.1.2 | exact hd.1.1.1.1.1.1.1.1.1.1.1.1.1.2 | exact hd.1 | exact hd.1.1 | exact hd.1.1.1 | exact hd.1.1.1.1 | exact hd.1.1.1.1.1 | exact hd.1.1.1.1.1.1 | exact hd.1.1.1.1.1.1.1 | exact hd.1.1.1.1.1.1.1.1 | exact hd.1.1.1.1.1.1.1.1.1 | exact hd.1.1.1.1.1.1.1.1.1.1 | exact hd.1.1.1.1.1.1.1.1.1.1.1 | exact hd.1.1.1.1.1.1.1.1.1.1.1.1 | exact hd.1.1.1.1.1.1.1.1.1.1.1.1.1 | exact hd.2.1 | exact hd.2.2.1 | exact hd.2.2.2.1 | exact hd.2.2.2.2.1 | exact hd.2.2.2.2.2.1 | exact hd.2.2.2.2.2.2.1 | exact hd.2.2.2.2.2.2.2.1 | exact hd.2.2.2.2.2.2.2.2.1 | exact hd.2.2.2.2.2.2.2.2.2.1 | exact hd.2.2.2.2.2.2.2.2.2.2.1 | exact hd.2.2.2.2.2.2.2.2.2.2.2.1 | exact hd.2.2.2.2.2.2.2.2.2.2.2.2.1 | exact hd.2.2.2.2.2.2.2.2.2.2.2.2.2.1); exact (Bl.Kq.refl w1).setCells (Q := fun k => k = w.heap.size) rfl 0 _; exact ⟨rfl, HJd.out.set rfl⟩)
        | (go_simp; first | exact ⟨Bl.Kq.refl _, rfl, HJd.out⟩ | exact ⟨Below.refl _ _, rfl, Bl.HJ.same (by decide) HJd.out⟩)
    case hmono => exact ⟨Bl.monoR_eqv _, Bl.monoR_eqv _, Bl.monoR_eqv _, trivial⟩
    case hR0 => exact Bl.Kq.drew _
    case hend =>
      intro u w1 hext hJ hend
      simp only [Bl.EndE, List.getElem?_cons_succ, List.getElem?_cons_zero, Option.bind_some, List.getD_cons_succ, List.getD_cons_zero, Bl.eqv, true_and] at hend
      simp only [Bl.fillAct, List.setIfInBounds_toArray, List.set_cons_succ, List.set_cons_zero, List.drop_succ_cons, List.drop_zero, hend]
      have HBz := Bl.hid hJ
      have HEz : Hid (Bl.Ext w w1) := Bl.hid ((HZ3.out.trans (hext.mono fun k _ q => Nat.le_of_eq q.symm)).ext fun k q => q)
      have hsp : pr = (2, Bl.lt0) := Hsp.out
      subst hsp
      clear hext hJ hend
      go_wp2_with fail
      exact bodyPost_ret (v := .tuple #[.agg Bl.zL, .iface 137 (.pointer (some (a 2)))]) (Bl.results_cell2 rfl rfl (HBz.out.loadVar (P := Tryd.prog) Tryd.underlying26 rfl (by kernel_rfl)) rfl) rfl ⟨_, _, _, _, _, rfl, rfl, Bl.LtF.nil _ _ _ _ _ _ _ _, HEz.out⟩
    case hJ0 => exact Bl.BoxC.same HBR3.out rfl
  | false =>
  simp only [Bool.false_eq_true, if_false] at HPt
  go_wp2_with fail
  refine (within_any _ _ _ _).mono ?_
  rintro e w3' ⟨rfl, hw3⟩
  subst hw3
  obtain ⟨qk, hqk⟩ : ∃ qk, qk = Bl.wi k 1 7 := ⟨_, rfl⟩
  rw [← hqk]
  rw [← hqk] at HPt
  have Hqk := Bl.hid hqk
  clear hqk q31 q30
  cases qk with
  | false =>
    have Hsp : Hid (pr = (7, Bl.lt0)) := HPt
    clear HPt
    go_wp2_with fail
    have hF : W3.cell? ⟨8, 0, none⟩ = some (.iface 137 (.pointer (some (a 7)))) := (He.out.ext (HZ3.out.ext (fun k q => q))).cell 7 s7
    have HF := Bl.hid hF
    clear hF
    apply Bl.wp_region_evK (Bl.Kq (fun k => k = w.heap.size)) (fun _ _ w' => Bl.BoxC w' w.heap.size Bl.zL.toList) 3 [30, 31] [Bl.eqv _, Bl.eqv _, Bl.eqv _] (fun w => Bl.Kq.refl w) (fun a b c h k => Bl.Kq.trans h k) (by kernel_rfl) (by kernel_rfl) (by kernel_rfl) (by kernel_rfl)
    case hsteps =>
      refine ⟨?_, ?_, ?_, trivial⟩
      all_goals
        intro d ev w1 hext HJd Hanc Hdes hni hb hd
        replace Hanc := Bl.hid Hanc
        replace HJd := Bl.hid HJd
        replace Hdes := Bl.hid Hdes
        replace hni := Bl.hid hni
        have e2 := hb 2 (by decide)
        clear hb
        simp only [Array.getD_eq_getD_getElem?, List.getElem?_toArray, List.getElem?_cons_succ, List.getElem?_cons_zero, Option.getD_some] at e2
        simp only [Bl.DepsE2, List.getElem?_cons_zero, Option.bind_some, List.getD_cons_zero, Bl.eqv, and_true] at hd
        have cF : w1.cell? ⟨8, 0, none⟩ = some (.iface 137 (.pointer (some (a 7)))) := hext.cell (HG.out 7 s7) HF.out
        rw [if_pos (rfl : Region.wanted _ _ = true)]
        first
        | ((with_reducible refine Bl.goodX_store ?_ ?_ (HStz.out w1 HJd.out) ?_ ?_); exact e2; exact (by first | exact hd | exact hd.2 | exact hd.1.2 | exact hd.1.1.2 | exact hd.1.1.1.2 | exact hd.1.1.1.1.2 | exact hd.1.1.1.1.1.2 | exact hd.1.1.1.1.1.1.2 | exact hd.1.1.1.1.1.1.1.2 | exact hd.1.1.1.1.1.1.1.1.2 | exact hd.1.1.1.1.1.1.1.1.1.2 | exact hd.1.1.1.1.1.1.1.1.1.1.2 | exact hd.1.1.1.1.1.1.1.1.1.1.1.2 | exact hd.1.1.1.1.1.1.1.1.1.1.1.1.2 | exact hd.1.1.1.1.1.1.1.1.1.1.1.1.1.2 | exact hd.1 | exact hd.1.1 | exact hd.1.1.1 | exact hd.1.1.1.1 | exact hd.1.1.1.1.1 | exact hd.1.1.1.1.1.1 | exact hd.1.1.1.1.1.1.1 | exact hd.1.1.1.1.1.1.1.1 | exact hd.1.1.1.1.1.1.1.1.1 | exact hd.1.1.1.1.1.1.1.1.1.1 | exact hd.1.1.1.1.1.1.1.1.1.1.1 | exact hd.1.1.1.1.1.1.1.1.1.1.1.1 | exact hd.1.1.1.1.1.1.1.1.1.1.1.1.1 | exact hd.2.1 | exact hd.2.2.1 | exact hd.2.2.2.1 | exact hd.2.2.2.2.1 | exact hd.2.2.2.2.2.1 | exact hd.2.2.2.2.2.2.1 | exact hd.2.2.2.2.2.2.2.1 | exact hd.2.2.2.2.2.2.2.2.1 | exact hd.2.2.2.2.2.2.2.2.2.1 | exact hd.2.2.2.2.2.2.2.2.2.2.1 | exact hd.2.2.2.2.2.2.2.2.2.2.2.1 | exact hd.2.2.2.2.2.2.2.2.2.2.2.2.1 | exact hd.2.2.2.2.2.2.2.2.2.2.2.2.2.1); exact (Bl.Kq.refl w1).setCells (Q := fun k => k = w.heap.size) rfl 0 _; exact ⟨rfl, HJd.out.set rfl⟩)
        | (go_simp; first | exact ⟨Bl.Kq.refl _, rfl, HJd.out⟩ | exact ⟨Below.refl _ _, rfl, Bl.HJ.same (by decide) HJd.out⟩)
    case hmono => exact ⟨Bl.monoR_eqv _, Bl.monoR_eqv _, Bl.monoR_eqv _, trivial⟩
    case hR0 => exact Bl.Kq.drew _
    case hend =>
      intro u w1 hext hJ hend
      simp only [Bl.EndE, List.getElem?_cons_succ, List.getElem?_cons_zero, Option.bind_some, List.getD_cons_succ, List.getD_cons_zero, Bl.eqv, true_and] at hend
      simp only [Bl.fillAct, List.setIfInBounds_toArray, List.set_cons_succ, List.set_cons_zero, List.drop_succ_cons, List.drop_zero, hend]
      have HBz := Bl.hid hJ
      have HEz : Hid (Bl.Ext w w1) := Bl.hid ((HZ3.out.trans (hext.mono fun k _ q => Nat.le_of_eq q.symm)).ext fun k q => q)
      have hsp : pr = (7, Bl.lt0) := Hsp.out
      subst hsp
      clear hext hJ hend
      go_wp2_with fail
      exact bodyPost_ret (v := .tuple #[.agg Bl.zL, .iface 137 (.pointer (some (a 7)))]) (Bl.results_cell2 rfl rfl (HBz.out.loadVar (P := Tryd.prog) Tryd.underlying26 rfl (by kernel_rfl)) rfl) rfl ⟨_, _, _, _, _, rfl, rfl, Bl.LtF.nil _ _ _ _ _ _ _ _, HEz.out⟩
    case hJ0 => exact Bl.BoxC.same HBR3.out rfl
  | true =>
  have HPt : Hid (pr = Bl.finT (Bl.rsT k (Bl.nuT 8 t1).1 (Bl.nuT 8 (Bl.nuT 8 t1).2).1 (Bl.nuT 8 (Bl.nuT 8 t1).2).2)) := HPt
  have Hk17 := Bl.hid (Bl.wi_iff.1 Hqk.out.symm)
  clear Hqk
  go_wp2_with fail
  refine (rdnum_any X 8 t1 W3 HR3.out (by decide) (by decide)).mono ?_
  rintro e w4 ⟨rfl, hR4, hK4⟩
  have HR4 := Bl.hid hR4
  have HK4 := Bl.hid hK4
  clear hR4 hK4
  obtain ⟨i, hi⟩ : ∃ i, i = (Bl.nuT 8 t1).1 := ⟨_, rfl⟩
  obtain ⟨t2, ht2⟩ : ∃ t2, t2 = (Bl.nuT 8 t1).2 := ⟨_, rfl⟩
  rw [← ht2] at HR4
  simp only [← hi, ← ht2] at HPt
  rw [← hi]
  clear hi ht2
  go_wp2_with fail
  refine (rdnum_any X 8 t2 w4 HR4.out (by decide) (by decide)).mono ?_
  rintro e w5 ⟨rfl, hR5, hK5⟩
  have HR5 := Bl.hid hR5
  have HK5 : Hid (Bl.Kq (fun k => k = X) W3 w5) := Bl.hid (HK4.out.trans hK5)
  clear hR5 hK5 HR4 HK4
  obtain ⟨o, ho⟩ : ∃ o, o = (Bl.nuT 8 t2).1 := ⟨_, rfl⟩
  obtain ⟨t3, ht3⟩ : ∃ t3, t3 = (Bl.nuT 8 t2).2 := ⟨_, rfl⟩
  rw [← ht3] at HR5
  simp only [← ho, ← ht3] at HPt
  rw [← ho]
  clear ho ht3
  have HB5 := Bl.hid (HK5.out.box (by have := HXY.out; omega) HB3.out)
  have HZ5 : Hid (Bl.Kq (fun k => w.heap.size ≤ k) w w5) := Bl.hid (HZ3.out.trans (HK5.out.mono fun k _ q => by have := HXY.out; omega))
  have HBR5 := Bl.hid (HK5.out.box (by have := HXY.out; omega) HBR3.out)
  have HP1 : Hid (Bl.BoxC (w5.setCell ⟨Y, 1, none⟩ (.int .i64 i)) Y (Bl.cK k i 0 0 0 0)) := Bl.hid (HB5.out.put (i := 1) (show 1 < 9 by decide) (.int .i64 i))
  have q51 := HB5.out.cell (i := 1) (v := .int .i64 0) rfl
  have f51 := HB5.out.fz (i := 1) (show 1 < 9 by decide)
  have q52 := HP1.out.cell (i := 2) (v := .int .i64 0) rfl
  have f52 := HP1.out.fz (i := 2) (show 2 < 9 by decide)
  have HB6 : Hid (Bl.BoxC ((w5.setCell ⟨Y, 1, none⟩ (.int .i64 i)).setCell ⟨Y, 2, none⟩ (.int .i64 o)) Y (Bl.cK k i o 0 0 0)) := Bl.hid (HP1.out.put (i := 2) (show 2 < 9 by decide) (.int .i64 o))
  have HK6 : Hid (Bl.Kq (fun k => k = Y) w5 ((w5.setCell ⟨Y, 1, none⟩ (.int .i64 i)).setCell ⟨Y, 2, none⟩ (.int .i64 o))) := Bl.hid (((Bl.Kq.refl w5).setCell (Q := fun k => k = Y) ⟨Y, 1, none⟩ rfl _).setCell ⟨Y, 2, none⟩ rfl _)
  clear HR3 HBR3 HZ3 HB3 HK5
  go_wp2_with fail
  obtain ⟨W6, hW6⟩ : ∃ W6, W6 = (w5.setCell ⟨Y, 1, none⟩ (.int .i64 i)).setCell ⟨Y, 2, none⟩ (.int .i64 o) := ⟨_, rfl⟩
  rw [← hW6] at HB6 HK6 ⊢
  clear hW6 q51 f51 q52 f52 HP1
  have HR6 := Bl.hid (HR5.out.kept HK6.out (fun j hj q => by have := HXY.out; omega))
  have HZ6 : Hid (Bl.Kq (fun k => w.heap.size ≤ k) w W6) := Bl.hid (HZ5.out.trans (HK6.out.mono fun k _ q => by have := HXY.out; omega))
  have HBR6 := Bl.hid (HK6.out.box (by have := HXY.out; omega) HBR5.out)
  clear HR5 HZ5 HBR5 HB5 HK6
  refine (rrest_any k Hk17.out X Y i o t3 W6 HR6.out HB6.out HXY.out.1).mono ?_
  rintro e w7 ⟨rfl, hL7, hR7, hK7⟩
  obtain ⟨l, hl7⟩ : ∃ l, l = (Bl.rsT k i o t3).1 := ⟨_, rfl⟩
  obtain ⟨t4, ht4⟩ : ∃ t4, t4 = (Bl.rsT k i o t3).2 := ⟨_, rfl⟩
  have HPf : Hid (pr = Bl.finT (l, t4)) := Bl.hid (by rw [HPt.out, hl7, ht4])
  rw [← hl7] at hL7
  rw [← ht4] at hR7
  have HR7 := Bl.hid hR7
  have HL7 := Bl.hid hL7
  have HZ7 : Hid (Bl.Kq (fun k => w.heap.size ≤ k) w w7) := Bl.hid (HZ6.out.trans (hK7.mono fun k _ q => by have := HXY.out; rcases q with q | q <;> omega))
  have HBR7 := Bl.hid (hK7.box (by have := HXY.out; omega) HBR6.out)
  have HW6 : Hid (w.heap.size < W6.heap.size) := Bl.hid HBR6.out.lt
  clear hL7 hR7 hK7 hl7 ht4 HPt HR6 HB6 HZ6 HBR6
  obtain ⟨p7, c7, hx7, _, hc7, hm7⟩ := HR7.out.ex
  have q71 := hx7.cell (i := 1) rfl
  have q70 := hx7.cell (i := 0) rfl
  obtain ⟨sh, rest⟩ := t4
  simp only at q71 q70 hc7
  unfold maxLen at hm7
  obtain ⟨nr, hnr⟩ : ∃ nr, nr = rest.length := ⟨_, rfl⟩
  rw [← hnr] at q70 hc7
  have Hnr := Bl.hid hnr
  clear hx7 hnr
  cases sh with
  | true =>
    have Hsp : Hid (pr = (2, Bl.lt0)) := Bl.hid (by rw [HPf.out]; rfl)
    clear HPf q70
    go_wp2_with fail
    clear q71
    have hF : w7.cell? ⟨3, 0, none⟩ = some (.iface 137 (.pointer (some (a 2)))) := (He.out.ext (HZ7.out.ext (fun k q => q))).cell 2 s2
    have HF := Bl.hid hF
    clear hF
    apply Bl.wp_region_evK (Bl.Kq (fun k => k = w.heap.size)) (fun _ _ w' => Bl.BoxC w' w.heap.size Bl.zL.toList) 3 [45, 46] [Bl.eqv _, Bl.eqv _, Bl.eqv _] (fun w => Bl.Kq.refl w) (fun a b c h k => Bl.Kq.trans h k) (by kernel_rfl) (by kernel_rfl) (by kernel_rfl) (by kernel_rfl)
    case hsteps =>
      refine ⟨?_, ?_, ?_, trivial⟩
      all_goals
        intro d ev w1 hext HJd Hanc Hdes hni hb hd
        replace Hanc := Bl.hid Hanc
        replace HJd := Bl.hid HJd
        replace Hdes := Bl.hid Hdes
        replace hni := Bl.hid hni
        have e2 := hb 2 (by decide)
        clear hb
        simp only [Array.getD_eq_getD_getElem?, List.getElem?_toArray, List.getElem?_cons_succ, List.getElem?_cons_zero, Option.getD_some] at e2
        simp only [Bl.DepsE2, List.getElem?_cons_zero, Option.bind_some, List.getD_cons_zero, Bl.eqv, and_true] at hd
        have cF : w1.cell? ⟨3, 0, none⟩ = some (.iface 137 (.pointer (some (a 2)))) := hext.cell (HG.out 2 s2) HF.out
        rw [if_pos (rfl : Region.wanted _ _ = true)]
        first
        | ((with_reducible refine Bl.goodX_store ?_ ?_ (HStz.out w1 HJd.out) ?_ ?_); exact e2; exact (by first | exact hd | exact hd.2 | exact hd.1.2 | exact hd.1.1.2 | exact hd.1.1.1.2 | exact hd.1.1.1.1.2 | exact hd.1.1.1.1.1.2 | exact hd.1.1.1.1.1.1.2 | exact hd.1.1.1.1.1.1.1.2 | exact hd.1.1.1.1.1.1.1.1.2 | exact hd.1.1.1.1.1.1.1.1.1.2 | exact hd.1.1.1.1.1.1.1.1.1.1.2 | exact hd.1.1.1.1.1.1.1.1.1.1.1.2 | exact hd.1.1.1.1.1.1.1.1.1.1.1.1.2 | exact hd.1.1.1.1.1.1.1.1.1.1.1.1.1.2 | exact hd.1 | exact hd.1.1 | exact hd.1.1.1 | exact hd.1.1.1.1 | exact hd.1.1.1.1.1 | exact hd.1.1.1.1.1.1 | exact hd.1.1.1.1.1.1.1 | exact hd.1.1.1.1.1.1.1.1 | exact hd.1.1.1.1.1.1.1.1.1 | exact hd.1.1.1.1.1.1.1.1.1.1 | exact hd.1.1.1.1.1.1.1.1.1.1.1 | exact hd.1.1.1.1.1.1.1.1.1.1.1.1 | exact hd.1.1.1.1.1.1.1.1.1.1.1.1.1 | exact hd.2.1 | exact hd.2.2.1 | exact hd.2.2.2.1 | exact hd.2.2.2.2.1 | exact hd.2.2.2.2.2.1 | exact hd.2.2.2.2.2.2.1 | exact hd.2.2.2.2.2.2.2.1 | exact hd.2.2.2.2.2.2.2.2.1 | exact hd.2.2.2.2.2.2.2.2.2.1 | exact hd.2.2.2.2.2.2.2.2.2.2.1 | exact hd.2.2.2.2.2.2.2.2.2.2.2.1 | exact hd.2.2.2.2.2.2.2.2.2.2.2.2.1 | exact hd.2.2.2.2.2.2.2.2.2.2.2.2.2.1); exact (Bl.Kq.refl w1).setCells (Q := fun k => k = w.heap.size) rfl 0 _; exact ⟨rfl, HJd.out.set rfl⟩)
        | (go_simp; first | exact ⟨Bl.Kq.refl _, rfl, HJd.out⟩ | exact ⟨Below.refl _ _, rfl, Bl.HJ.same (by decide) HJd.out⟩)
    case hmono => exact ⟨Bl.monoR_eqv _, Bl.monoR_eqv _, Bl.monoR_eqv _, trivial⟩
    case hR0 => exact Bl.Kq.drew _
    case hend =>
      intro u w1 hext hJ hend
      simp only [Bl.EndE, List.getElem?_cons_succ, List.getElem?_cons_zero, Option.bind_some, List.getD_cons_succ, List.getD_cons_zero, Bl.eqv, true_and] at hend
      simp only [Bl.fillAct, List.setIfInBounds_toArray, List.set_cons_succ, List.set_cons_zero, List.drop_succ_cons, List.drop_zero, hend]
      have HBz := Bl.hid hJ
      have HEz : Hid (Bl.Ext w w1) := Bl.hid ((HZ7.out.trans (hext.mono fun k _ q => Nat.le_of_eq q.symm)).ext fun k q => q)
      have hsp : pr = (2, Bl.lt0) := Hsp.out
      subst hsp
      clear hext hJ hend
      go_wp2_with fail
      exact bodyPost_ret (v := .tuple #[.agg Bl.zL, .iface 137 (.pointer (some (a 2)))]) (Bl.results_cell2 rfl rfl (HBz.out.loadVar (P := Tryd.prog) Tryd.underlying26 rfl (by kernel_rfl)) rfl) rfl ⟨_, _, _, _, _, rfl, rfl, Bl.LtF.nil _ _ _ _ _ _ _ _, HEz.out⟩
    case hJ0 => exact Bl.BoxC.same HBR7.out rfl
  | false =>
  by_cases h0 : 0 < nr
  · have Hsp : Hid (pr = (4, Bl.lt0)) := Bl.hid (by
      rw [HPf.out]; unfold Bl.finT; simp only [Bool.false_eq_true, if_false]; rw [if_pos (by rw [← Hnr.out]; exact h0)])
    have h0i : (0 : Int) < (nr : Int) := by omega
    clear HPf h0
    go_wp2_with fail
    clear q71 q70
    have hF : w7.cell? ⟨5, 0, none⟩ = some (.iface 137 (.pointer (some (a 4)))) := (He.out.ext (HZ7.out.ext (fun k q => q))).cell 4 s4
    have HF := Bl.hid hF
    clear hF
    apply Bl.wp_region_evK (Bl.Kq (fun k => k = w.heap.size)) (fun _ _ w' => Bl.BoxC w' w.heap.size Bl.zL.toList) 3 [54, 55] [Bl.eqv _, Bl.eqv _, Bl.eqv _] (fun w => Bl.Kq.refl w) (fun a b c h k => Bl.Kq.trans h k) (by kernel_rfl) (by kernel_rfl) (by kernel_rfl) (by kernel_rfl)
    case hsteps =>
      refine ⟨?_, ?_, ?_, trivial⟩
      all_goals
        intro d ev w1 hext HJd Hanc Hdes hni hb hd
        replace Hanc := Bl.hid Hanc
        replace HJd := Bl.hid HJd
        replace Hdes := Bl.hid Hdes
        replace hni := Bl.hid hni
        have e2 := hb 2 (by decide)
        clear hb
        simp only [Array.getD_eq_getD_getElem?, List.getElem?_toArray, List.getElem?_cons_succ, List.getElem?_cons_zero, Option.getD_some] at e2
        simp only [Bl.DepsE2, List.getElem?_cons_zero, Option.bind_some, List.getD_cons_zero, Bl.eqv, and_true] at hd
        have cF : w1.cell? ⟨5, 0, none⟩ = some (.iface 137 (.pointer (some (a 4)))) := hext.cell (HG.out 4 s4) HF.out
        rw [if_pos (rfl : Region.wanted _ _ = true)]
        first
        | ((with_reducible refine Bl.goodX_store ?_ ?_ (HStz.out w1 HJd.out) ?_ ?_); exact e2; exact (by first | exact hd | exact hd.2 | exact hd.1.2 | exact hd.1.1.2 | exact hd.1.1.1.2 | exact hd.1.1.1.1.2 | exact hd.1.1.1.1.1.2 | exact hd.1.1.1.1.1.1.2 | exact hd.1.1.1.1.1.1.1.2 | exact hd.1.1.1.1.1.1.1.1.2 | exact hd.1.1.1.1.1.1.1.1.1.2 | exact hd.1.1.1.1.1.1.1.1.1.1.2 | exact hd.1.1.1.1.1.1.1.1.1.1.1.2 | exact hd.1.1.1.1.1.1.1.1.1.1.1.1.2 | exact hd.1.1.1.1.1.1.1.1.1.1.1.1.1.2 | exact hd.1 | exact hd.1.1 | exact hd.1.1.1 | exact hd.1.1.1.1 | exact hd.1.1.1.1.1 | exact hd.1.1.1.1.1.1 | exact hd.1.1.1.1.1.1.1 | exact hd.1.1.1.1.1.1.1.1 | exact hd.1.1.1.1.1.1.1.1.1 | exact hd.1.1.1.1.1.1.1.1.1.1 | exact hd.1.1.1.1.1.1.1.1.1.1.1 | exact hd.1.1.1.1.1.1.1.1.1.1.1.1 | exact hd.1.1.1.1.1.1.1.1.1.1.1.1.1 | exact hd.2.1 | exact hd.2.2.1 | exact hd.2.2.2.1 | exact hd.2.2.2.2.1 | exact hd.2.2.2.2.2.1 | exact hd.2.2.2.2.2.2.1 | exact hd.2.2.2.2.2.2.2.1 | exact hd.2.2.2.2.2.2.2.2.1 | exact hd.2.2.2.2.2.2.2.2.2.1 | exact hd.2.2.2.2.2.2.2.2.2.2.1 | exact hd.2.2.2.2.2.2.2.2.2.2.2.1 | exact hd.2.2.2.2.2.2.2.2.2.2.2.2.1 | exact hd.2.2.2.2.2.2.2.2.2.2.2.2.2.1); exact (Bl.Kq.refl w1).setCells (Q := fun k => k = w.heap.size) rfl 0 _; exact ⟨rfl, HJd.out.set rfl⟩)
        | (go_simp; first | exact ⟨Bl.Kq.refl _, rfl, HJd.out⟩ | exact ⟨Below.refl _ _, rfl, Bl.HJ.same (by decide) HJd.out⟩)
    case hmono => exact ⟨Bl.monoR_eqv _, Bl.monoR_eqv _, Bl.monoR_eqv _, trivial⟩
    case hR0 => exact Bl.Kq.drew _
    case hend =>
      intro u w1 hext hJ hend
      simp only [Bl.EndE, List.getElem?_cons_succ, List.getElem?_cons_zero, Option.bind_some, List.getD_cons_succ, List.getD_cons_zero, Bl.eqv, true_and] at hend
      simp only [Bl.fillAct, List.setIfInBounds_toArray, List.set_cons_succ, List.set_cons_zero, List.drop_succ_cons, List.drop_zero, hend]
      have HBz := Bl.hid hJ
      have HEz : Hid (Bl.Ext w w1) := Bl.hid ((HZ7.out.trans (hext.mono fun k _ q => Nat.le_of_eq q.symm)).ext fun k q => q)
      have hsp : pr = (4, Bl.lt0) := Hsp.out
      subst hsp
      clear hext hJ hend
      go_wp2_with fail
      exact bodyPost_ret (v := .tuple #[.agg Bl.zL, .iface 137 (.pointer (some (a 4)))]) (Bl.results_cell2 rfl rfl (HBz.out.loadVar (P := Tryd.prog) Tryd.underlying26 rfl (by kernel_rfl)) rfl) rfl ⟨_, _, _, _, _, rfl, rfl, Bl.LtF.nil _ _ _ _ _ _ _ _, HEz.out⟩
    case hJ0 => exact Bl.BoxC.same HBR7.out rfl
  have HPg : Hid (pr = if Bl.chkL l = 0 then (0, l) else (Bl.chkL l, Bl.lt0)) := Bl.hid (by
    rw [HPf.out]; unfold Bl.finT; simp only [Bool.false_eq_true, if_false]; rw [if_neg (by rw [← Hnr.out]; exact h0)])
  have h0i : ¬ ((0 : Int) < (nr : Int)) := by omega
  obtain ⟨vp, vs, vb, L, hB7, hF7⟩ := HL7.out
  obtain ⟨ap, ac, aq, _, _⟩ := hF7.pl.rds.form
  obtain ⟨bp, bc, bq, _, _⟩ := hF7.sh.rds.form
  obtain ⟨M, hM1, hM2, hM3⟩ := hF7.bl
  obtain ⟨cp, cc, cq, _, _⟩ := hM1.rds.form
  have hLt : Bl.LtV w7 (.agg (Bl.cL l vp vs vb).toArray) l := ⟨_, vp, vs, vb, L, rfl, hF7.ltc⟩
  have HLt := Bl.hid hLt
  have HB7 := Bl.hid hB7
  have HF7 := Bl.hid hF7
  have Hone : Hid (∀ c ∈ Bl.cL l vp vs vb, c.oneCell' = true) := Bl.hid hF7.ltc.one
  have Hl7 := Bl.hid (hB7.load (P := Tryd.prog) Tryd.underlying26 rfl (by kernel_rfl))
  clear HPf h0 hB7 hF7 aq bq hM1 hM2 hM3 cq hLt HL7
  go_wp2_with (with_reducible refine Bl.stop_load (ty := 26) ?_)
  refine Bl.go_on ?_
  refine Bl.wpL_load rfl Hl7.out ?_
  go_wp2_with fail
  refine (lcheck_any _ l w7 S a HLt.out (He.out.ext (HZ7.out.ext fun k q => q)) s1 s3 s4 s7 s8).mono ?_
  rintro e w8 ⟨rfl, hE8⟩
  have HE8 := Bl.hid hE8
  have HB8 := Bl.hid (HB7.out.ext hE8)
  have HBR8 := Bl.hid (HBR7.out.ext hE8)
  have HZ8 : Hid (Bl.Kq (fun k => w.heap.size ≤ k) w w8) := Bl.hid (HZ7.out.trans (Bl.Kq.of_ext hE8))
  have HF8 : Hid (Bl.LtF (fun k => W6.heap.size ≤ k) w8 l vp vs vb L) := Bl.hid (HF7.out.kept fun k hk hlk => ⟨hk, hE8.block k hlk⟩)
  clear hE8 HB7 HBR7 HZ7 HF7 Hl7 HLt q70 q71
  obtain ⟨K, hK⟩ : ∃ K, K = Bl.chkL l := ⟨_, rfl⟩
  rw [← hK] at HPg
  rw [← hK]
  clear hK
  by_cases hK0 : K = 0
  · subst hK0
    rw [errN_zero]
    have Hsp : Hid (pr = (0, l)) := HPg
    have Hl8 := Bl.hid (HB8.out.load (P := Tryd.prog) Tryd.underlying26 rfl (by kernel_rfl))
    have Hst8 := Bl.hid (HBR8.out.store (P := Tryd.prog) (cs' := Bl.cL l vp vs vb) rfl Hone.out (ty := 26) (by kernel_rfl))
    have HBR9 := Bl.hid (HBR8.out.set (cs' := Bl.cL l vp vs vb) rfl)
    have HK9 : Hid (Bl.Kq (fun k => k = w.heap.size) w8 (w8.setCells w.heap.size 0 (Bl.cL l vp vs vb))) := Bl.hid ((Bl.Kq.refl w8).setCells (Q := fun k => k = w.heap.size) rfl 0 _)
    clear HPg
    go_wp2_with (with_reducible refine Bl.stop_load (ty := 26) ?_)
    refine Bl.go_on ?_
    refine Bl.wpL_load rfl Hl8.out ?_
    go_wp2_with (with_reducible refine Bl.stop_store (ty := 26) ?_)
    refine Bl.go_on ?_
    refine Bl.wpL_store0 rfl rfl Hst8.out ?_
    go_wp2_with fail
    refine bodyPost_ret (v := .tuple #[.agg (Bl.cL l vp vs vb).toArray, .nilIface]) (Bl.results_cell2 rfl rfl (HBR9.out.loadVar (P := Tryd.prog) Tryd.underlying26 rfl (by kernel_rfl)) rfl) rfl ?_
    rw [Hsp.out]
    exact ⟨_, vp, vs, vb, L, rfl, rfl, HF8.out.kept fun k hk hlk => ⟨by have := HW6.out; omega, HK9.out.block k hlk (by have := HW6.out; omega)⟩, (HZ8.out.trans (HK9.out.mono fun k _ q => Nat.le_of_eq q.symm)).ext fun k q => q⟩
  · rw [errN_pos a K hK0]
    have Hsp : Hid (pr = (K, Bl.lt0)) := Bl.hid (by rw [HPg.out, if_neg hK0])
    have HK0 := Bl.hid hK0
    have Hstz := Bl.hid (HStz.out w8 HBR8.out)
    have HBR9 := Bl.hid (HBR8.out.set (cs' := Bl.zL.toList) rfl)
    have HK9 : Hid (Bl.Kq (fun k => k = w.heap.size) w8 (w8.setCells w.heap.size 0 Bl.zL.toList)) := Bl.hid ((Bl.Kq.refl w8).setCells (Q := fun k => k = w.heap.size) rfl 0 _)
    clear HPg hK0
    go_wp2_with (with_reducible refine Bl.stop_store (ty := 26) ?_)
    refine Bl.go_on ?_
    refine Bl.wpL_store0 rfl rfl Hstz.out ?_
    go_wp2_with fail
    refine bodyPost_ret (v := .tuple #[.agg Bl.zL, .iface 137 (.pointer (some (a K)))]) (Bl.results_cell2 rfl rfl (HBR9.out.loadVar (P := Tryd.prog) Tryd.underlying26 rfl (by kernel_rfl)) rfl) rfl ?_
    rw [Hsp.out]
    exact ⟨_, _, _, _, _, by rw [errN_pos a K HK0.out]; rfl, rfl, Bl.LtF.nil _ _ _ _ _ _ _ _, (HZ8.out.trans (HK9.out.mono fun k _ q => Nat.le_of_eq q.symm)).ext fun k q => q⟩
end Go.Proofs.YtmmolapkddbibaaDoor

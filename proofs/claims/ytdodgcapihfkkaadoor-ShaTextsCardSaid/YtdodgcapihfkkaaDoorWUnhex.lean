/- Walk of sha.Unhex. -/
import Derived.Test.YtdodgcapihfkkaaDoorWTexts
import Derived.Test.YtdodgcapihfkkaaDoorErrs
namespace Go.Proofs.Bl
open Go Go.RowKit
theorem Fam.list {w : World} {g : Nat} {k : IntKind} {n : Nat} {f : Nat → Int} (h : Fam w g k n f) {l : List Int} (hl : l.length = n) (hf : ∀ i, i < n → f i = l.getD i 0) : w.rangeAt g 0 (ints k l) := fun j v hv => by
  have hj : j < n := by have := (List.getElem?_eq_some_iff.1 hv).1; rw [ints_length, hl] at this; exact this
  rw [ints_get _ _ _ (by rw [hl]; exact hj)] at hv
  cases hv
  rw [Nat.zero_add, h.1 j hj, hf j hj]
theorem zs32_get (i : Nat) (h : i < 32) : (fun _ : Nat => (0 : Int)) i = zs32.getD i 0 := by
  unfold zs32
  rw [List.getD_eq_getElem?_getD, List.getElem?_replicate, if_pos h]; rfl
theorem fam_set32 {w : World} {g : Nat} {f : Nat → Int} (h : Fam w g .u8 32 f) : Fam (w.setCells g 0 (ints .u8 zs32)) g .u8 32 (fun _ => 0) := by
  have hin := World.rangeAt_setCells_same w g 0 (ints .u8 zs32) (by rw [ints_length]; exact h.there)
  refine ⟨fun i hi => ?_, fun i => ?_⟩
  · have := hin i _ (ints_get .u8 zs32 i hi)
    rw [Nat.zero_add] at this
    rw [this, ← zs32_get i hi]
  · rw [World.frozen?_setCells]; exact h.2 i
end Go.Proofs.Bl
namespace Go.Proofs.YtdodgcapihfkkaaDoor
open Go.RowKit Go.Proofs

/-- what Unhex answers -/
def unhexV (s : ByteArray) (a : Addr) : Value := if Bl.okB s = true then .tuple #[.agg (Bl.ints .u8 (Bl.unhexL (Bl.sb s))).toArray, .nilIface] else .tuple #[.agg (Bl.ints .u8 Bl.zs32).toArray, .iface 220 (.pointer (some a))]

set_option maxRecDepth 100000 in
set_option maxHeartbeats 1000000 in
theorem unhex_any (s : ByteArray) (w : World) (a : Addr) (hF : w.cell? ⟨3, 0, none⟩ = some (.iface 220 (.pointer (some a)))) (hsz : s.size ≤ 1099511627776) :
    Calls Tryd.prog 41 #[.string s] w fun e w' => e = .returned (unhexV s a) ∧ Bl.Ext w w' := by
  have hFl := World.block_lt_of_cell? w _ hF
  have HF := Bl.hid hF
  have HFl : Hid (3 < w.heap.size) := hFl
  have HF0 := Bl.hid (fam_new w 32 .u8 28 #[.int .u8 0, .int .u8 0, .int .u8 0, .int .u8 0, .int .u8 0, .int .u8 0, .int .u8 0, .int .u8 0, .int .u8 0, .int .u8 0, .int .u8 0, .int .u8 0, .int .u8 0, .int .u8 0, .int .u8 0, .int .u8 0, .int .u8 0, .int .u8 0, .int .u8 0, .int .u8 0, .int .u8 0, .int .u8 0, .int .u8 0, .int .u8 0, .int .u8 0, .int .u8 0, .int .u8 0, .int .u8 0, .int .u8 0, .int .u8 0, .int .u8 0, .int .u8 0] rfl)
  have HE0 := Bl.hid (Bl.ext_alloc w (.cells #[.int .u8 0, .int .u8 0, .int .u8 0, .int .u8 0, .int .u8 0, .int .u8 0, .int .u8 0, .int .u8 0, .int .u8 0, .int .u8 0, .int .u8 0, .int .u8 0, .int .u8 0, .int .u8 0, .int .u8 0, .int .u8 0, .int .u8 0, .int .u8 0, .int .u8 0, .int .u8 0, .int .u8 0, .int .u8 0, .int .u8 0, .int .u8 0, .int .u8 0, .int .u8 0, .int .u8 0, .int .u8 0, .int .u8 0, .int .u8 0, .int .u8 0, .int .u8 0] 28))
  have Hst : Hid (∀ w', Bl.Fam w' w.heap.size .u8 32 (fun _ => 0) → (Instr.storeAt 28 (.pointer (some ⟨w.heap.size, 0, none⟩)) (.agg (Bl.ints .u8 Bl.zs32).toArray)).run Tryd.prog w' = .ok () (w'.setCells w.heap.size 0 (Bl.ints .u8 Bl.zs32))) := Bl.hid fun w' h => Bl.store_ints (P := Tryd.prog) (ty := 28) (k := .u8) (l := Bl.zs32) (n := 32) h.there (by kernel_rfl) rfl
  clear hF hFl
  by_cases h64 : s.size = 64
  · have H64 := Bl.hid h64
    have hb64 : ((s.size : Int) == 64) = true := by rw [h64]; rfl
    have HF1 := Bl.hid (fam_new (w.alloc (.cells #[.int .u8 0, .int .u8 0, .int .u8 0, .int .u8 0, .int .u8 0, .int .u8 0, .int .u8 0, .int .u8 0, .int .u8 0, .int .u8 0, .int .u8 0, .int .u8 0, .int .u8 0, .int .u8 0, .int .u8 0, .int .u8 0, .int .u8 0, .int .u8 0, .int .u8 0, .int .u8 0, .int .u8 0, .int .u8 0, .int .u8 0, .int .u8 0, .int .u8 0, .int .u8 0, .int .u8 0, .int .u8 0, .int .u8 0, .int .u8 0, .int .u8 0, .int .u8 0] 28)) 32 .u8 28 #[.int .u8 0, .int .u8 0, .int .u8 0, .int .u8 0, .int .u8 0, .int .u8 0, .int .u8 0, .int .u8 0, .int .u8 0, .int .u8 0, .int .u8 0, .int .u8 0, .int .u8 0, .int .u8 0, .int .u8 0, .int .u8 0, .int .u8 0, .int .u8 0, .int .u8 0, .int .u8 0, .int .u8 0, .int .u8 0, .int .u8 0, .int .u8 0, .int .u8 0, .int .u8 0, .int .u8 0, .int .u8 0, .int .u8 0, .int .u8 0, .int .u8 0, .int .u8 0] rfl)
    have HE1 := Bl.hid (Bl.ext_alloc (w.alloc (.cells #[.int .u8 0, .int .u8 0, .int .u8 0, .int .u8 0, .int .u8 0, .int .u8 0, .int .u8 0, .int .u8 0, .int .u8 0, .int .u8 0, .int .u8 0, .int .u8 0, .int .u8 0, .int .u8 0, .int .u8 0, .int .u8 0, .int .u8 0, .int .u8 0, .int .u8 0, .int .u8 0, .int .u8 0, .int .u8 0, .int .u8 0, .int .u8 0, .int .u8 0, .int .u8 0, .int .u8 0, .int .u8 0, .int .u8 0, .int .u8 0, .int .u8 0, .int .u8 0] 28)) (.cells #[.int .u8 0, .int .u8 0, .int .u8 0, .int .u8 0, .int .u8 0, .int .u8 0, .int .u8 0, .int .u8 0, .int .u8 0, .int .u8 0, .int .u8 0, .int .u8 0, .int .u8 0, .int .u8 0, .int .u8 0, .int .u8 0, .int .u8 0, .int .u8 0, .int .u8 0, .int .u8 0, .int .u8 0, .int .u8 0, .int .u8 0, .int .u8 0, .int .u8 0, .int .u8 0, .int .u8 0, .int .u8 0, .int .u8 0, .int .u8 0, .int .u8 0, .int .u8 0] 28))
    rw [World.size_alloc] at HF1
    clear h64
    go_enter Tryd.func41, Tryd.ntmps41
    go_wp2_with fail
    generalize hWa : w.alloc (.cells #[.int .u8 0, .int .u8 0, .int .u8 0, .int .u8 0, .int .u8 0, .int .u8 0, .int .u8 0, .int .u8 0, .int .u8 0, .int .u8 0, .int .u8 0, .int .u8 0, .int .u8 0, .int .u8 0, .int .u8 0, .int .u8 0, .int .u8 0, .int .u8 0, .int .u8 0, .int .u8 0, .int .u8 0, .int .u8 0, .int .u8 0, .int .u8 0, .int .u8 0, .int .u8 0, .int .u8 0, .int .u8 0, .int .u8 0, .int .u8 0, .int .u8 0, .int .u8 0] 28) = Wa at HF0 HE0 HF1 HE1 ⊢
    generalize hWb : Wa.alloc (.cells #[.int .u8 0, .int .u8 0, .int .u8 0, .int .u8 0, .int .u8 0, .int .u8 0, .int .u8 0, .int .u8 0, .int .u8 0, .int .u8 0, .int .u8 0, .int .u8 0, .int .u8 0, .int .u8 0, .int .u8 0, .int .u8 0, .int .u8 0, .int .u8 0, .int .u8 0, .int .u8 0, .int .u8 0, .int .u8 0, .int .u8 0, .int .u8 0, .int .u8 0, .int .u8 0, .int .u8 0, .int .u8 0, .int .u8 0, .int .u8 0, .int .u8 0, .int .u8 0] 28) = Wb at HF1 HE1 ⊢
    clear hWa hWb
    have HF0b := Bl.hid (HF0.out.below HE1.out (World.block_lt_of_cell? _ _ (HF0.out.1 0 (by decide))))
    have HEb := Bl.hid (HE0.out.trans HE1.out)
    go_loopw [13] (fun i wr => ∃ k : Nat, k ≤ 32 ∧ i = .int .i64 k ∧ Bl.Fam wr (w.heap.size + 1) .u8 32 (fun j => if j < k then (Bl.unhexL (Bl.sb s)).getD j 0 else 0) ∧ Bl.Fam wr w.heap.size .u8 32 (fun _ => 0) ∧ Hid (∀ j, j < 2 * k → 0 ≤ Bl.figI ((Bl.sb s).getD j 0)) ∧ Bl.Ext w wr) (fun i _ => 32 - (intOf i).toNat)
    case atStart => exact ⟨0, by omega, rfl, HF1.out.congr (fun i hi => by simp), HF0b.out, Bl.hid (fun j hj => by omega), HEb.out⟩
    case round =>
      obtain ⟨k, hk, rfl, hf1, hf0, Hok, hE⟩ := hrel
      have HFr := Bl.hid hf1
      have HF0r := Bl.hid hf0
      have HE := Bl.hid hE
      clear hf1 hf0 hE HF0 HE0 HF1 HE1 HF0b HEb
      by_cases hlt : k < 32
      · have Hgx := Bl.hid (Bl.unhexL_get (Bl.sb s) k (by rw [Bl.sb_length, H64.out]; omega))
        have hix1 : ∀ w, (Instr.index 9 (.string s) (.int .i64 (2 * (k : Int)))).run Tryd.prog w = .ok (.int .u8 ((Bl.sb s).getD (2 * k) 0)) w := Bl.index_str Tryd.underlying9 s (2 * k) _ (by omega) (by rw [H64.out]; omega)
        have hix2 : ∀ w, (Instr.index 9 (.string s) (.int .i64 (2 * (k : Int) + 1))).run Tryd.prog w = .ok (.int .u8 ((Bl.sb s).getD (2 * k + 1) 0)) w := Bl.index_str Tryd.underlying9 s (2 * k + 1) _ (by omega) (by rw [H64.out]; omega)
        obtain ⟨hx0, hx1⟩ := (Bl.sb_byt s).get (2 * k)
        obtain ⟨hy0, hy1⟩ := (Bl.sb_byt s).get (2 * k + 1)
        have Hbx := Bl.hid (fun h => Bl.okB_bad (s := s) (i := 2 * k) (by rw [H64.out]; omega) h)
        have Hby := Bl.hid (fun h => Bl.okB_bad (s := s) (i := 2 * k + 1) (by rw [H64.out]; omega) h)
        have Hstep : Hid (0 ≤ Bl.figI ((Bl.sb s).getD (2 * k) 0) → 0 ≤ Bl.figI ((Bl.sb s).getD (2 * k + 1) 0) → ∀ j, j < 2 * (k + 1) → 0 ≤ Bl.figI ((Bl.sb s).getD j 0)) := Bl.hid fun h1 h2 j hj => by
          by_cases e1 : j = 2 * k
          · rw [e1]; exact h1
          · by_cases e2 : j = 2 * k + 1
            · rw [e2]; exact h2
            · exact Hok.out j (by omega)
        generalize (Bl.sb s).getD (2 * k) 0 = x at hix1 hx0 hx1 Hbx Hstep Hgx
        generalize (Bl.sb s).getD (2 * k + 1) 0 = y at hix2 hy0 hy1 Hby Hstep Hgx
        have HX : Hid (∀ w2, Calls Tryd.prog 108 #[.int .u8 x] w2 fun e w' => e = .returned (.int .i64 (Bl.figI x)) ∧ w2 = w') := Bl.hid fun w2 => figure_any x w2 hx0 hx1
        have HY : Hid (∀ w2, Calls Tryd.prog 108 #[.int .u8 y] w2 fun e w' => e = .returned (.int .i64 (Bl.figI y)) ∧ w2 = w') := Bl.hid fun w2 => figure_any y w2 hy0 hy1
        obtain ⟨hfx1, hfx2⟩ := Bl.figI_ge x
        obtain ⟨hfy1, hfy2⟩ := Bl.figI_ge y
        generalize Bl.figI x = fx at HX hfx1 hfx2 Hbx Hstep Hgx
        generalize Bl.figI y = fy at HY hfy1 hfy2 Hby Hstep Hgx
        have Hix1 := Bl.hid hix1
        have Hix2 := Bl.hid hix2
        have hm1 : IntKind.i64.wrap (2 * (k : Int)) = 2 * (k : Int) := IntWalk.i64_in _ (by omega)
        have hm2 : IntKind.i64.wrap (2 * (k : Int) + 1) = 2 * (k : Int) + 1 := IntWalk.i64_in _ (by omega)
        clear hix1 hix2 hx0 hx1 hy0 hy1
        go_wp2_with fail
        apply Bl.wp_region_evK (Bl.Ext) (fun _ _ _ => True) 12 [16, 17, 18, 19, 20, 21, 22, 23, 24, 25, 26, 6] [Bl.eqv _, Bl.eqv _, Bl.eqv (.int .i64 (2 * (k : Int))), Bl.eqv _, Bl.eqv _, Bl.eqv _, Bl.eqv _, Bl.eqv (.int .i64 (2 * (k : Int))), Bl.eqv (.int .i64 (2 * (k : Int) + 1)), Bl.eqv _, Bl.eqv _, Bl.eqv _] (fun w => Below.refl _ w) (fun a b c h k => Bl.Ext.trans h k) (by kernel_rfl) (by kernel_rfl) (by kernel_rfl) (by kernel_rfl)
        case hsteps =>
          refine ⟨?_, ?_, ?_, ?_, ?_, ?_, ?_, ?_, ?_, ?_, ?_, ?_, trivial⟩
          all_goals
            intro d ev w1 hext HJd Hanc Hdes hni hb hd
            replace Hanc := Bl.hid Hanc
            replace HJd := Bl.hid HJd
            replace Hdes := Bl.hid Hdes
            replace hni := Bl.hid hni
            have e0 := hb 0 (by decide)
            have e5 := hb 5 (by decide)
            clear hb
            simp only [Array.getD_eq_getD_getElem?, List.getElem?_toArray, List.getElem?_cons_succ, List.getElem?_cons_zero, Option.getD_some] at e0 e5
            simp only [Bl.DepsE2, List.getElem?_cons_succ, List.getElem?_cons_zero, Option.bind_some, List.getD_cons_succ, List.getD_cons_zero, Bl.eqv, and_true] at hd
            have hc := (Bl.bcell hext).1
            simp only [Region.wanted, if_true]
            first
            | ((with_reducible refine Bl.goodX_index (fun w => Below.refl _ w) ?_ ?_ (Hix1.out w1) ?_); exact hd.1; exact hd.2; exact ⟨rfl, trivial⟩) | ((with_reducible refine Bl.goodX_index (fun w => Below.refl _ w) ?_ ?_ (Hix2.out w1) ?_); exact hd.1; exact hd.2; exact ⟨rfl, trivial⟩)
            | (go_simp; first | (go_at_call 108; (with_reducible refine (HX.out _).mono ?_); rintro e w2 ⟨rfl, hw2⟩; exact ⟨_, rfl, by rw [← hw2]; exact Below.refl _ _, rfl⟩) | (go_at_call 108; (with_reducible refine (HY.out _).mono ?_); rintro e w2 ⟨rfl, hw2⟩; exact ⟨_, rfl, by rw [← hw2]; exact Below.refl _ _, rfl⟩) | exact ⟨Below.refl _ _, rfl⟩ | exact Below.refl _ _)
        case hmono => exact ⟨Bl.monoR_eqv _, Bl.monoR_eqv _, (Bl.monoR_eqv _), Bl.monoR_eqv _, Bl.monoR_eqv _, Bl.monoR_eqv _, Bl.monoR_eqv _, (Bl.monoR_eqv _), (Bl.monoR_eqv _), Bl.monoR_eqv _, Bl.monoR_eqv _, Bl.monoR_eqv _, trivial⟩
        case hR0 => exact (Below.refl _ _).drew
        case hend =>
          intro u w1 hext hJ hend
          simp only [Bl.EndE, List.getElem?_cons_succ, List.getElem?_cons_zero, Option.bind_some, List.getD_cons_succ, List.getD_cons_zero, Bl.eqv, true_and] at hend
          simp only [Bl.fillAct, List.setIfInBounds_toArray, List.set_cons_succ, List.set_cons_zero, List.drop_succ_cons, List.drop_zero, hend]
          have HEx := Bl.hid hext
          have HEw := Bl.hid (HE.out.trans hext)
          have HFx := Bl.hid (HFr.out.below hext (World.block_lt_of_cell? _ _ (HFr.out.1 0 (by decide))))
          have HF0x := Bl.hid (HF0r.out.below hext (World.block_lt_of_cell? _ _ (HF0r.out.1 0 (by decide))))
          clear hext hend hJ hm1 hm2
          by_cases h6 : fx < 0
          · have hok : Bl.okB s = false := Hbx.out h6
            have Hv : Hid (unhexV s a = .tuple #[.agg (Bl.ints .u8 Bl.zs32).toArray, .iface 220 (.pointer (some a))]) := Bl.hid (by unfold unhexV; rw [hok]; rfl)
            have hcF := ((Bl.bcell HEw.out).1 _ 0 HFl.out).trans HF.out
            have HcF := Bl.hid hcF
            clear hok hcF
            go_wp2_with fail
            apply Bl.wp_region_evK (fun a b => Below w.heap.size a b) (fun _ _ w' => Bl.Fam w' w.heap.size .u8 32 (fun _ => 0)) 3 [33, 34] [Bl.eqv (.agg (Bl.ints .u8 Bl.zs32).toArray), Bl.eqv _, Bl.eqv _] (fun w => Below.refl _ w) (fun a b c h k => Below.trans h k) (by kernel_rfl) (by kernel_rfl) (by kernel_rfl) (by kernel_rfl)
            case hsteps =>
              refine ⟨?_, ?_, ?_, trivial⟩
              all_goals
                intro d ev w1 hext HJd Hanc Hdes hni hb hd
                replace Hanc := Bl.hid Hanc
                replace HJd := Bl.hid HJd
                replace Hdes := Bl.hid Hdes
                replace hni := Bl.hid hni
                have e2 := hb 2 (by decide)
                clear hb
                simp only [Array.getD_eq_getD_getElem?, List.getElem?_toArray, List.getElem?_cons_succ, List.getElem?_cons_zero, Option.getD_some] at e2
                simp only [Bl.DepsE2, List.getElem?_cons_succ, List.getElem?_cons_zero, Option.bind_some, List.getD_cons_succ, List.getD_cons_zero, Bl.eqv, and_true] at hd
                have hc := (Bl.bcell hext).1
                have hcF := (hc _ 0 HFl.out).trans HcF.out
                simp only [Region.wanted, if_true]
                first
                | ((with_reducible refine Bl.goodX_store ?_ ?_ (Hst.out w1 HJd.out) ?_ ?_); exact e2; (first | exact hd | exact hd.1 | exact hd.2); exact Bl.below_setCells _ _ _ _ (Below.refl _ _) (Nat.le_refl _); exact ⟨rfl, Bl.fam_set32 HJd.out⟩)
                | (go_simp; first | exact ⟨Below.refl _ _, rfl, HJd.out⟩ | exact ⟨Below.refl _ _, rfl, Bl.HJ.same (by decide) HJd.out⟩)
            case hmono => exact ⟨(Bl.monoR_eqv _), Bl.monoR_eqv _, Bl.monoR_eqv _, trivial⟩
            case hR0 => exact (Below.refl _ _).drew
            case hend =>
              intro u w1 hext hJ hend
              simp only [Bl.EndE, List.getElem?_cons_succ, List.getElem?_cons_zero, Option.bind_some, List.getD_cons_succ, List.getD_cons_zero, Bl.eqv, true_and] at hend
              simp only [Bl.fillAct, List.setIfInBounds_toArray, List.set_cons_succ, List.set_cons_zero, List.drop_succ_cons, List.drop_zero, hend]
              have hldc := run_loadVar_mid (P := Tryd.prog) _ w.heap.size 0 28 (Bl.ints .u8 Bl.zs32) _ (hJ.list rfl Bl.zs32_get) Tryd.underlying28 rfl (by kernel_rfl)
              have Hldc := Bl.hid hldc
              have HE2 : Hid (Bl.Ext w w1) := Bl.hid (Below.trans HEw.out hext)
              clear hext hend hJ hldc
              go_wp2_with fail
              refine bodyPost_ret (v := .tuple #[.agg (Bl.ints .u8 Bl.zs32).toArray, .iface 220 (.pointer (some a))]) (Bl.results_cell2 rfl rfl Hldc.out rfl) rfl ⟨by rw [Hv.out], HE2.out⟩
            case hJ0 => exact HF0x.out.drew 1
          · by_cases h7 : fy < 0
            · have hok : Bl.okB s = false := Hby.out h7
              have Hv : Hid (unhexV s a = .tuple #[.agg (Bl.ints .u8 Bl.zs32).toArray, .iface 220 (.pointer (some a))]) := Bl.hid (by unfold unhexV; rw [hok]; rfl)
              have hcF := ((Bl.bcell HEw.out).1 _ 0 HFl.out).trans HF.out
              have HcF := Bl.hid hcF
              clear hok hcF
              go_wp2_with fail
              apply Bl.wp_region_evK (fun a b => Below w.heap.size a b) (fun _ _ w' => Bl.Fam w' w.heap.size .u8 32 (fun _ => 0)) 3 [33, 34] [Bl.eqv (.agg (Bl.ints .u8 Bl.zs32).toArray), Bl.eqv _, Bl.eqv _] (fun w => Below.refl _ w) (fun a b c h k => Below.trans h k) (by kernel_rfl) (by kernel_rfl) (by kernel_rfl) (by kernel_rfl)
              case hsteps =>
                refine ⟨?_, ?_, ?_, trivial⟩
                all_goals
                  intro d ev w1 hext HJd Hanc Hdes hni hb hd
                  replace Hanc := Bl.hid Hanc
                  replace HJd := Bl.hid HJd
                  replace Hdes := Bl.hid Hdes
                  replace hni := Bl.hid hni
                  have e2 := hb 2 (by decide)
                  clear hb
                  simp only [Array.getD_eq_getD_getElem?, List.getElem?_toArray, List.getElem?_cons_succ, List.getElem?_cons_zero, Option.getD_some] at e2
                  simp only [Bl.DepsE2, List.getElem?_cons_succ, List.getElem?_cons_zero, Option.bind_some, List.getD_cons_succ, List.getD_cons_zero, Bl.eqv, and_true] at hd
                  have hc := (Bl.bcell hext).1
                  have hcF := (hc _ 0 HFl.out).trans HcF.out
                  simp only [Region.wanted, if_true]
                  first
                  | ((with_reducible refine Bl.goodX_store ?_ ?_ (Hst.out w1 HJd.out) ?_ ?_); exact e2; (first | exact hd | exact hd.1 | exact hd.2); exact Bl.below_setCells _ _ _ _ (Below.refl _ _) (Nat.le_refl _); exact ⟨rfl, Bl.fam_set32 HJd.out⟩)
                  | (go_simp; first | exact ⟨Below.refl _ _, rfl, HJd.out⟩ | exact ⟨Below.refl _ _, rfl, Bl.HJ.same (by decide) HJd.out⟩)
              case hmono => exact ⟨(Bl.monoR_eqv _), Bl.monoR_eqv _, Bl.monoR_eqv _, trivial⟩
              case hR0 => exact (Below.refl _ _).drew
              case hend =>
                intro u w1 hext hJ hend
                simp only [Bl.EndE, List.getElem?_cons_succ, List.getElem?_cons_zero, Option.bind_some, List.getD_cons_succ, List.getD_cons_zero, Bl.eqv, true_and] at hend
                simp only [Bl.fillAct, List.setIfInBounds_toArray, List.set_cons_succ, List.set_cons_zero, List.drop_succ_cons, List.drop_zero, hend]
                have hldc := run_loadVar_mid (P := Tryd.prog) _ w.heap.size 0 28 (Bl.ints .u8 Bl.zs32) _ (hJ.list rfl Bl.zs32_get) Tryd.underlying28 rfl (by kernel_rfl)
                have Hldc := Bl.hid hldc
                have HE2 : Hid (Bl.Ext w w1) := Bl.hid (Below.trans HEw.out hext)
                clear hext hend hJ hldc
                go_wp2_with fail
                refine bodyPost_ret (v := .tuple #[.agg (Bl.ints .u8 Bl.zs32).toArray, .iface 220 (.pointer (some a))]) (Bl.results_cell2 rfl rfl Hldc.out rfl) rfl ⟨by rw [Hv.out], HE2.out⟩
              case hJ0 => exact HF0x.out.drew 1
            · have hor : bits .or .i64 (fx * 16) fy = fx * 16 + fy := Bl.or16 fx fy (by omega) hfx2 (by omega) hfy2
              have h60 : 0 ≤ fx := by omega
              have h70 : 0 ≤ fy := by omega
              have hwr : IntKind.u8.wrap (fx * 16 + fy) = fx * 16 + fy := Int.emod_eq_of_lt (by omega) (by simp [IntKind.bits]; omega)
              have hcell : w1.cell? ⟨w.heap.size + 1, k, none⟩ = some (.int .u8 0) := by have h := HFx.out.1 k hlt; simpa using h
              have hfz := HFx.out.2 k
              go_wp2_with fail
              go_roundw
              case rel =>
                refine ⟨k + 1, by omega, by go_num, (HFx.out.set k hlt _).congr (fun j hj => ?_), HF0x.out.other _ _ (by simp), Bl.hid (Hstep.out h60 h70), HEw.out.setCell (by simp) _⟩
                by_cases e : j = k
                · rw [if_pos e, e, if_pos (Nat.lt_succ_self k), Hgx.out]
                · rw [if_neg e]
                  by_cases e2 : j < k
                  · rw [if_pos e2, if_pos (by omega)]
                  · rw [if_neg e2, if_neg (by omega)]
              case measure => simp [intOf]; omega
        case hJ0 => trivial
      · obtain rfl : k = 32 := by omega
        have hok : Bl.okB s = true := Bl.okB_mk H64.out (fun j hj => Hok.out j (by omega))
        have Hv : Hid (unhexV s a = .tuple #[.agg (Bl.ints .u8 (Bl.unhexL (Bl.sb s))).toArray, .nilIface]) := Bl.hid (by unfold unhexV; rw [hok]; rfl)
        have hUl : (Bl.unhexL (Bl.sb s)).length = 32 := Bl.unhexL_length 32 _ (by rw [Bl.sb_length, H64.out])
        have Hrg := Bl.hid (HFr.out.list hUl (fun i hi => by rw [if_pos hi]))
        generalize Bl.unhexL (Bl.sb s) = U at Hv hUl Hrg HFr
        have HU := Bl.hid hUl
        have HEs : Hid (Bl.Ext wr wr) := Bl.hid (Below.refl _ _)
        clear hok hUl
        go_wp2_with (with_reducible refine Bl.stop_load (ty := 28) ?_)
        refine Bl.go_on ?_
        refine Bl.wpL_load rfl (Bl.load_ints Hrg.out Tryd.underlying28 (by kernel_rfl) HU.out) ?_
        have HFc := Bl.hid (HF0r.out.below HEs.out (World.block_lt_of_cell? _ _ (HF0r.out.1 0 (by decide))))
        have Hstc := Bl.hid (Bl.store_ints (P := Tryd.prog) (k := .u8) (ty := 28) (l := U) HFc.out.there (by kernel_rfl) HU.out)
        go_wp2_with (((with_reducible refine Bl.wpL_store ?_ ?_ Hstc.out ?_); rfl; rfl))
        have hinc := World.rangeAt_setCells_same _ (w.heap.size) 0 (Bl.ints .u8 U) (by rw [Bl.ints_length, HU.out]; exact HFc.out.there)
        have hldc := run_loadVar_mid (P := Tryd.prog) _ (w.heap.size) 0 28 (Bl.ints .u8 U) _ hinc Tryd.underlying28 rfl (by rw [Bl.ints_length, HU.out]; kernel_rfl)
        refine bodyPost_ret (v := .tuple #[.agg (Bl.ints .u8 U).toArray, .nilIface]) (Bl.results_cell2 rfl rfl hldc rfl) rfl ⟨by rw [Hv.out], Bl.below_setCells _ _ _ _ HE.out (Nat.le_refl _)⟩
  · have hb64 : ((s.size : Int) == 64) = false := by rw [beq_eq_false_iff_ne]; omega
    have Hv : Hid (unhexV s a = .tuple #[.agg (Bl.ints .u8 Bl.zs32).toArray, .iface 220 (.pointer (some a))]) := Bl.hid (by unfold unhexV; rw [Bl.okB_size h64]; rfl)
    clear h64
    go_enter Tryd.func41, Tryd.ntmps41
    go_wp2_with fail
    generalize hWa : w.alloc (.cells #[.int .u8 0, .int .u8 0, .int .u8 0, .int .u8 0, .int .u8 0, .int .u8 0, .int .u8 0, .int .u8 0, .int .u8 0, .int .u8 0, .int .u8 0, .int .u8 0, .int .u8 0, .int .u8 0, .int .u8 0, .int .u8 0, .int .u8 0, .int .u8 0, .int .u8 0, .int .u8 0, .int .u8 0, .int .u8 0, .int .u8 0, .int .u8 0, .int .u8 0, .int .u8 0, .int .u8 0, .int .u8 0, .int .u8 0, .int .u8 0, .int .u8 0, .int .u8 0] 28) = Wa at HF0 HE0 ⊢
    clear hWa
    have HcF := Bl.hid (((Bl.bcell HE0.out).1 _ 0 HFl.out).trans HF.out)
    apply Bl.wp_region_evK (fun a b => Below w.heap.size a b) (fun _ _ w' => Bl.Fam w' w.heap.size .u8 32 (fun _ => 0)) 3 [11, 12] [Bl.eqv (.agg (Bl.ints .u8 Bl.zs32).toArray), Bl.eqv _, Bl.eqv _] (fun w => Below.refl _ w) (fun a b c h k => Below.trans h k) (by kernel_rfl) (by kernel_rfl) (by kernel_rfl) (by kernel_rfl)
    case hsteps =>
      refine ⟨?_, ?_, ?_, trivial⟩
      all_goals
        intro d ev w1 hext HJd Hanc Hdes hni hb hd
        replace Hanc := Bl.hid Hanc
        replace HJd := Bl.hid HJd
        replace Hdes := Bl.hid Hdes
        replace hni := Bl.hid hni
        have e2 := hb 2 (by decide)
        clear hb
        simp only [Array.getD_eq_getD_getElem?, List.getElem?_toArray, List.getElem?_cons_succ, List.getElem?_cons_zero, Option.getD_some] at e2
        simp only [Bl.DepsE2, List.getElem?_cons_succ, List.getElem?_cons_zero, Option.bind_some, List.getD_cons_succ, List.getD_cons_zero, Bl.eqv, and_true] at hd
        have hc := (Bl.bcell hext).1
        have hcF := (hc _ 0 HFl.out).trans HcF.out
        simp only [Region.wanted, if_true]
        first
        | ((with_reducible refine Bl.goodX_store ?_ ?_ (Hst.out w1 HJd.out) ?_ ?_); exact e2; (first | exact hd | exact hd.1 | exact hd.2); exact Bl.below_setCells _ _ _ _ (Below.refl _ _) (Nat.le_refl _); exact ⟨rfl, Bl.fam_set32 HJd.out⟩)
        | (go_simp; first | exact ⟨Below.refl _ _, rfl, HJd.out⟩ | exact ⟨Below.refl _ _, rfl, Bl.HJ.same (by decide) HJd.out⟩)
    case hmono => exact ⟨(Bl.monoR_eqv _), Bl.monoR_eqv _, Bl.monoR_eqv _, trivial⟩
    case hR0 => exact (Below.refl _ _).drew
    case hend =>
      intro u w1 hext hJ hend
      simp only [Bl.EndE, List.getElem?_cons_succ, List.getElem?_cons_zero, Option.bind_some, List.getD_cons_succ, List.getD_cons_zero, Bl.eqv, true_and] at hend
      simp only [Bl.fillAct, List.setIfInBounds_toArray, List.set_cons_succ, List.set_cons_zero, List.drop_succ_cons, List.drop_zero, hend]
      have hldc := run_loadVar_mid (P := Tryd.prog) _ w.heap.size 0 28 (Bl.ints .u8 Bl.zs32) _ (hJ.list rfl Bl.zs32_get) Tryd.underlying28 rfl (by kernel_rfl)
      have Hldc := Bl.hid hldc
      have HE2 : Hid (Bl.Ext w w1) := Bl.hid (Below.trans HE0.out hext)
      clear hext hend hJ hldc
      go_wp2_with fail
      refine bodyPost_ret (v := .tuple #[.agg (Bl.ints .u8 Bl.zs32).toArray, .iface 220 (.pointer (some a))]) (Bl.results_cell2 rfl rfl Hldc.out rfl) rfl ⟨by rw [Hv.out], HE2.out⟩
    case hJ0 => exact HF0.out.drew 1
end Go.Proofs.YtdodgcapihfkkaaDoor

/- Texts that stood apart, in one: WGroC, WGroF. -/
import Derived.Test.YtmfooocdnoflaaaDoorGwa
import Derived.Test.YtmfooocdnoflaaaDoorWl0
import Derived.Test.YtmfooocdnoflaaaDoorRv0
import Derived.Test.YtmfooocdnoflaaaDoorBA2
/- Walks of baileeref14.Made, Check. -/
namespace Go.Proofs.Bl
open Go Go.RowKit
theorem snocG (p : List (List Int)) (m : Nat) (h : p.length = m + 1) : p = p.take m ++ [p.getD m []] := by
  have := take_snocD p m (by omega)
  rw [List.take_of_length_le (by omega)] at this
  exact this
theorem madeD_end_t (m : Nat) (old : List Int) (p : List (List Int)) : madeD m m old true p = (old, old) := by
  unfold madeD; rw [madeG_end]; rfl
theorem madeD_end_f (m : Nat) (old d : List Int) : madeD m m old false [d] = (d, d) := by
  unfold madeD; rw [madeG_end]; rfl
theorem madeD_left (m n : Nat) (old : List Int) (w : Bool) (q : List (List Int)) (s : List Int) (hm : 1 ≤ m) (hn : n < 2 ^ 63) (h : m < n) (hs : m ≤ sp n) (hq : q.length = cntG m (sp n) w) :
    madeD m n old w (q ++ [s]) = ((madeD m (sp n) old w q).1, ndD (madeD m (sp n) old w q).2 s) := madeG_left ndD zD m n old w q s hm hn h hs hq
theorem madeD_right (m n : Nat) (old : List Int) (w : Bool) (q : List (List Int)) (s : List Int) (hm : 1 ≤ m) (hn : n < 2 ^ 63) (h : m < n) (hs : ¬ m ≤ sp n) (hq : q.length = cntG (m - sp n) (n - sp n) false) :
    madeD m n old w (q ++ [s]) = (ndD s (madeD (m - sp n) (n - sp n) old false q).1, ndD s (madeD (m - sp n) (n - sp n) old false q).2) := madeG_right ndD zD m n old w q s hm hn h hs hq
end Go.Proofs.Bl
namespace Go.Proofs.YtmfooocdnoflaaaDoor
open Go.RowKit Go.Proofs

set_option maxRecDepth 100000 in
set_option maxHeartbeats 4000000 in
theorem refmade_nat : ∀ (n m : Nat) (old : List Int) (wh : Bool) (p : List (List Int)) (vp : Value) (w : World), n ≤ 512 → 1 ≤ m → m ≤ n → old.length = 32 → Bl.Byt old → Bl.RdD w vp p → Bl.Dig p → p.length = Bl.cntG m n wh → GlobR w →
    Calls Tryd.prog 55 #[.int .i64 m, .int .i64 n, .agg (Bl.ints .u8 old).toArray, .bool wh, vp] w fun e w' => e = .returned (.tuple #[.agg (Bl.ints .u8 (Bl.madeD m n old wh p).1).toArray, .agg (Bl.ints .u8 (Bl.madeD m n old wh p).2).toArray]) ∧ Bl.Ext w w' := by
  intro n
  induction n using Nat.strongRecOn with
  | _ n ih =>
    intro m old wh p vp w hn hm hmn hol hob hp hdp hpl hg
    have IH := Bl.hid ih
    clear ih
    obtain ⟨pp, cp, hvf, hvn, hvc⟩ := hp.form
    subst hvf
    unfold maxLen at hvc
    have HEa := Bl.hid (Bl.ext_alloc w (.cells (Bl.ints .u8 old).toArray 31))
    have HDu0 := Bl.hid (Bl.Duo.new (w.alloc (.cells (Bl.ints .u8 old).toArray 31)) 31 #[.int .u8 0, .int .u8 0, .int .u8 0, .int .u8 0, .int .u8 0, .int .u8 0, .int .u8 0, .int .u8 0, .int .u8 0, .int .u8 0, .int .u8 0, .int .u8 0, .int .u8 0, .int .u8 0, .int .u8 0, .int .u8 0, .int .u8 0, .int .u8 0, .int .u8 0, .int .u8 0, .int .u8 0, .int .u8 0, .int .u8 0, .int .u8 0, .int .u8 0, .int .u8 0, .int .u8 0, .int .u8 0, .int .u8 0, .int .u8 0, .int .u8 0, .int .u8 0] rfl)
    have hsz : (w.alloc (.cells (Bl.ints .u8 old).toArray 31)).heap.size = w.heap.size + 1 := World.size_alloc _ _
    rw [hsz] at HDu0
    clear hsz
    have HEb : Hid (Bl.Ext (w.alloc (.cells (Bl.ints .u8 old).toArray 31)) (((w.alloc (.cells (Bl.ints .u8 old).toArray 31)).alloc (.cells #[.int .u8 0, .int .u8 0, .int .u8 0, .int .u8 0, .int .u8 0, .int .u8 0, .int .u8 0, .int .u8 0, .int .u8 0, .int .u8 0, .int .u8 0, .int .u8 0, .int .u8 0, .int .u8 0, .int .u8 0, .int .u8 0, .int .u8 0, .int .u8 0, .int .u8 0, .int .u8 0, .int .u8 0, .int .u8 0, .int .u8 0, .int .u8 0, .int .u8 0, .int .u8 0, .int .u8 0, .int .u8 0, .int .u8 0, .int .u8 0, .int .u8 0, .int .u8 0] 31)).alloc (.cells #[.int .u8 0, .int .u8 0, .int .u8 0, .int .u8 0, .int .u8 0, .int .u8 0, .int .u8 0, .int .u8 0, .int .u8 0, .int .u8 0, .int .u8 0, .int .u8 0, .int .u8 0, .int .u8 0, .int .u8 0, .int .u8 0, .int .u8 0, .int .u8 0, .int .u8 0, .int .u8 0, .int .u8 0, .int .u8 0, .int .u8 0, .int .u8 0, .int .u8 0, .int .u8 0, .int .u8 0, .int .u8 0, .int .u8 0, .int .u8 0, .int .u8 0, .int .u8 0] 31))) := Bl.hid ((Bl.ext_alloc _ _).trans (Bl.ext_alloc _ _))
    have HBo := Bl.hid ((Bl.dig_box w old 31 hol).ext HEb.out)
    have HE0 := Bl.hid (HEa.out.trans HEb.out)
    have Hol := Bl.hid hol
    have Hob := Bl.hid hob
    have Hdp := Bl.hid hdp
    have Hg := Bl.hid hg
    have HLd : Hid (∀ w2, Below (w.heap.size + 1) (((w.alloc (.cells (Bl.ints .u8 old).toArray 31)).alloc (.cells #[.int .u8 0, .int .u8 0, .int .u8 0, .int .u8 0, .int .u8 0, .int .u8 0, .int .u8 0, .int .u8 0, .int .u8 0, .int .u8 0, .int .u8 0, .int .u8 0, .int .u8 0, .int .u8 0, .int .u8 0, .int .u8 0, .int .u8 0, .int .u8 0, .int .u8 0, .int .u8 0, .int .u8 0, .int .u8 0, .int .u8 0, .int .u8 0, .int .u8 0, .int .u8 0, .int .u8 0, .int .u8 0, .int .u8 0, .int .u8 0, .int .u8 0, .int .u8 0] 31)).alloc (.cells #[.int .u8 0, .int .u8 0, .int .u8 0, .int .u8 0, .int .u8 0, .int .u8 0, .int .u8 0, .int .u8 0, .int .u8 0, .int .u8 0, .int .u8 0, .int .u8 0, .int .u8 0, .int .u8 0, .int .u8 0, .int .u8 0, .int .u8 0, .int .u8 0, .int .u8 0, .int .u8 0, .int .u8 0, .int .u8 0, .int .u8 0, .int .u8 0, .int .u8 0, .int .u8 0, .int .u8 0, .int .u8 0, .int .u8 0, .int .u8 0, .int .u8 0, .int .u8 0] 31)) w2 → (Instr.loadAt 31 (.pointer (some ⟨w.heap.size, 0, none⟩))).run Tryd.prog w2 = .ok (.agg (Bl.ints .u8 old).toArray) w2) := Bl.hid fun w2 h2 => (HBo.out.below h2 (Nat.lt_succ_self _)).load Tryd.underlying31 (by kernel_rfl)
    clear HEa HEb hol hob hdp hg
    by_cases h1 : m = n
    · subst h1
      have hc := Bl.cntG_end m wh
      rw [hc] at hpl
      cases wh with
      | true =>
        have hM := Bl.madeD_end_t m old p
        rw [hM]
        have HSt : Hid (∀ w2, Bl.Duo w2 (w.heap.size + 1) (w.heap.size + 1 + 1) Bl.zs32 Bl.zs32 → (Instr.storeAt 31 (.pointer (some ⟨w.heap.size + 1, 0, none⟩)) (.agg (Bl.ints .u8 old).toArray)).run Tryd.prog w2 = .ok () (w2.setCells (w.heap.size + 1) 0 (Bl.ints .u8 old))) := Bl.hid fun w2 h2 => h2.a.store Hol.out (by kernel_rfl)
        clear hp hpl hc hM IH hvn hvc HBo
        go_enter Tryd.func55, Tryd.ntmps55
        go_wp2_with fail
        generalize ((w.alloc (.cells (Bl.ints .u8 old).toArray 31)).alloc (.cells #[.int .u8 0, .int .u8 0, .int .u8 0, .int .u8 0, .int .u8 0, .int .u8 0, .int .u8 0, .int .u8 0, .int .u8 0, .int .u8 0, .int .u8 0, .int .u8 0, .int .u8 0, .int .u8 0, .int .u8 0, .int .u8 0, .int .u8 0, .int .u8 0, .int .u8 0, .int .u8 0, .int .u8 0, .int .u8 0, .int .u8 0, .int .u8 0, .int .u8 0, .int .u8 0, .int .u8 0, .int .u8 0, .int .u8 0, .int .u8 0, .int .u8 0, .int .u8 0] 31)).alloc (.cells #[.int .u8 0, .int .u8 0, .int .u8 0, .int .u8 0, .int .u8 0, .int .u8 0, .int .u8 0, .int .u8 0, .int .u8 0, .int .u8 0, .int .u8 0, .int .u8 0, .int .u8 0, .int .u8 0, .int .u8 0, .int .u8 0, .int .u8 0, .int .u8 0, .int .u8 0, .int .u8 0, .int .u8 0, .int .u8 0, .int .u8 0, .int .u8 0, .int .u8 0, .int .u8 0, .int .u8 0, .int .u8 0, .int .u8 0, .int .u8 0, .int .u8 0, .int .u8 0] 31) = W0 at HDu0 HLd HE0 ⊢
        apply Bl.wp_region_evK (fun a a' => Below (w.heap.size + 1) a a') (Bl.HJ 2 (fun w' => Bl.Duo w' (w.heap.size + 1) (w.heap.size + 1 + 1) Bl.zs32 Bl.zs32) (fun w' => Bl.Duo w' (w.heap.size + 1) (w.heap.size + 1 + 1) old Bl.zs32)) 3 [23, 24] [Bl.eqv _, Bl.eqv _, Bl.eqv _] (fun w => Below.refl _ w) (fun a b c h k => Below.trans h k) (by kernel_rfl) (by kernel_rfl) (by kernel_rfl) (by kernel_rfl)
        case hsteps =>
          refine ⟨?_, ?_, ?_, trivial⟩
          all_goals
            intro d ev w1 hext HJd Hanc Hdes hni hb hd
            replace Hanc := Bl.hid Hanc
            replace HJd := Bl.hid HJd
            replace Hdes := Bl.hid Hdes
            replace hni := Bl.hid hni
            have e7 := hb 7 (by decide)
            have e10 := hb 10 (by decide)
            clear hb
            simp only [Array.getD_eq_getD_getElem?, List.getElem?_toArray, List.getElem?_cons_succ, List.getElem?_cons_zero, Option.getD_some] at e7 e10
            simp only [Bl.DepsE2, List.getElem?_cons_zero, Option.bind_some, List.getD_cons_zero, Bl.eqv, and_true] at hd
            have hc := (Bl.bcell hext).1
            simp only [Region.wanted, if_true]
            first
            | ((with_reducible refine Bl.goodX_load (fun w => Below.refl _ w) ?_ (HLd.out w1 hext) ?_); exact e7; exact ⟨rfl, Bl.HJ.same (by decide) HJd.out⟩) | ((with_reducible refine Bl.goodX_store ?_ ?_ (HSt.out w1 (Bl.HJ.get HJd.out hni.out)) ?_ ?_); exact e10; (first | exact hd | exact hd.1 | exact hd.2); exact Bl.below_setCells _ _ _ _ (Below.refl _ _) (Nat.le_refl _); exact ⟨rfl, Bl.HJ.set (Bl.Duo.setA (Bl.HJ.get HJd.out hni.out) Hol.out)⟩)
            | (go_simp; first | exact ⟨Below.refl _ _, rfl, Bl.HJ.same (by decide) HJd.out⟩ | exact ⟨Below.refl _ _, rfl, Bl.HJ.same (by decide) HJd.out⟩)
        case hmono => exact ⟨Bl.monoR_eqv _, Bl.monoR_eqv _, Bl.monoR_eqv _, trivial⟩
        case hR0 => exact (Below.refl _ _).drew
        case hend =>
          intro u w1 hext hJ hend
          simp only [Bl.EndE, List.getElem?_cons_succ, List.getElem?_cons_zero, Option.bind_some, List.getD_cons_succ, List.getD_cons_zero, Bl.eqv, true_and] at hend
          simp only [Bl.fillAct, List.setIfInBounds_toArray, List.set_cons_succ, List.set_cons_zero, List.drop_succ_cons, List.drop_zero, hend]
          have HDw := Bl.hid (Bl.HJ.got hJ rfl)
          have HE9 := Bl.hid hext
          clear hext hJ hend
          have HDf2 := Bl.hid (HDw.out.setB (y' := old) Hol.out)
          have Hse2 := Bl.hid (HDw.out.b.store (P := Tryd.prog) (ty := 31) (d' := old) Hol.out (by kernel_rfl))
          go_wp2_with (with_reducible refine Bl.stop_store (ty := 31) ?_)
          refine Bl.go_on ?_
          refine Bl.wpL_store0 rfl rfl Hse2.out ?_
          have Hlv1 := Bl.hid (HDf2.out.a.loadVar (P := Tryd.prog) (ty := 31) Tryd.underlying31 (by kernel_rfl))
          have Hlv2 := Bl.hid (HDf2.out.b.loadVar (P := Tryd.prog) (ty := 31) Tryd.underlying31 (by kernel_rfl))
          go_wp2_with fail
          exact bodyPost_ret (v := .tuple #[.agg (Bl.ints .u8 old).toArray, .agg (Bl.ints .u8 old).toArray]) (Bl.results_cc rfl rfl rfl Hlv1.out Hlv2.out) rfl ⟨rfl, Bl.below_setCells _ _ _ _ (Below.trans HE0.out (HE9.out.mono (Nat.le_succ _))) (by omega)⟩
        case hJ0 => exact Bl.HJ.start (HDu0.out.ext (Below.refl _ _).drew)
      | false =>
        obtain ⟨d, rfl⟩ : ∃ d, p = [d] := by
          match p, hpl with
          | [d], _ => exact ⟨d, rfl⟩
        obtain ⟨b, o, c2, hpe, hq1, hq2, hbl, hrg⟩ := Bl.RdD.pos hp Hdp.out (by simp)
        injection hpe with hpe1 hpe2 hpe3
        clear hpe2 hpe3
        subst hpe1
        have hM := Bl.madeD_end_f m old d
        rw [hM]
        obtain ⟨hdl, hdb⟩ := Hdp.out d (by simp)
        have Hdl := Bl.hid hdl
        rw [Bl.cellsD_one] at hrg
        have Hrg := Bl.hid hrg
        have HLp : Hid (∀ w2, Below (w.heap.size + 1) (((w.alloc (.cells (Bl.ints .u8 old).toArray 31)).alloc (.cells #[.int .u8 0, .int .u8 0, .int .u8 0, .int .u8 0, .int .u8 0, .int .u8 0, .int .u8 0, .int .u8 0, .int .u8 0, .int .u8 0, .int .u8 0, .int .u8 0, .int .u8 0, .int .u8 0, .int .u8 0, .int .u8 0, .int .u8 0, .int .u8 0, .int .u8 0, .int .u8 0, .int .u8 0, .int .u8 0, .int .u8 0, .int .u8 0, .int .u8 0, .int .u8 0, .int .u8 0, .int .u8 0, .int .u8 0, .int .u8 0, .int .u8 0, .int .u8 0] 31)).alloc (.cells #[.int .u8 0, .int .u8 0, .int .u8 0, .int .u8 0, .int .u8 0, .int .u8 0, .int .u8 0, .int .u8 0, .int .u8 0, .int .u8 0, .int .u8 0, .int .u8 0, .int .u8 0, .int .u8 0, .int .u8 0, .int .u8 0, .int .u8 0, .int .u8 0, .int .u8 0, .int .u8 0, .int .u8 0, .int .u8 0, .int .u8 0, .int .u8 0, .int .u8 0, .int .u8 0, .int .u8 0, .int .u8 0, .int .u8 0, .int .u8 0, .int .u8 0, .int .u8 0] 31)) w2 → (Instr.loadAt 31 (.pointer (some ⟨b, o, none⟩))).run Tryd.prog w2 = .ok (.agg (Bl.ints .u8 d).toArray) w2) := Bl.hid fun w2 h2 => Bl.load_ints (Bl.rangeAt_ext Hrg.out (Below.trans HE0.out (h2.mono (Nat.le_succ _)))) Tryd.underlying31 (by kernel_rfl) Hdl.out
        have HSt : Hid (∀ w2, Bl.Duo w2 (w.heap.size + 1) (w.heap.size + 1 + 1) Bl.zs32 Bl.zs32 → (Instr.storeAt 31 (.pointer (some ⟨w.heap.size + 1, 0, none⟩)) (.agg (Bl.ints .u8 d).toArray)).run Tryd.prog w2 = .ok () (w2.setCells (w.heap.size + 1) 0 (Bl.ints .u8 d))) := Bl.hid fun w2 h2 => h2.a.store Hdl.out (by kernel_rfl)
        clear hp hpl hc hM IH HBo hdl hdb hrg hbl hq1 hq2 HLd
        rw [List.length_singleton] at hvn ⊢
        go_enter Tryd.func55, Tryd.ntmps55
        go_wp2_with fail
        generalize ((w.alloc (.cells (Bl.ints .u8 old).toArray 31)).alloc (.cells #[.int .u8 0, .int .u8 0, .int .u8 0, .int .u8 0, .int .u8 0, .int .u8 0, .int .u8 0, .int .u8 0, .int .u8 0, .int .u8 0, .int .u8 0, .int .u8 0, .int .u8 0, .int .u8 0, .int .u8 0, .int .u8 0, .int .u8 0, .int .u8 0, .int .u8 0, .int .u8 0, .int .u8 0, .int .u8 0, .int .u8 0, .int .u8 0, .int .u8 0, .int .u8 0, .int .u8 0, .int .u8 0, .int .u8 0, .int .u8 0, .int .u8 0, .int .u8 0] 31)).alloc (.cells #[.int .u8 0, .int .u8 0, .int .u8 0, .int .u8 0, .int .u8 0, .int .u8 0, .int .u8 0, .int .u8 0, .int .u8 0, .int .u8 0, .int .u8 0, .int .u8 0, .int .u8 0, .int .u8 0, .int .u8 0, .int .u8 0, .int .u8 0, .int .u8 0, .int .u8 0, .int .u8 0, .int .u8 0, .int .u8 0, .int .u8 0, .int .u8 0, .int .u8 0, .int .u8 0, .int .u8 0, .int .u8 0, .int .u8 0, .int .u8 0, .int .u8 0, .int .u8 0] 31) = W0 at HDu0 HLp HE0 ⊢
        apply Bl.wp_region_evK (fun a a' => Below (w.heap.size + 1) a a') (Bl.HJ 6 (fun w' => Bl.Duo w' (w.heap.size + 1) (w.heap.size + 1 + 1) Bl.zs32 Bl.zs32) (fun w' => Bl.Duo w' (w.heap.size + 1) (w.heap.size + 1 + 1) d Bl.zs32)) 7 [25, 26, 27, 28, 29, 30] [Bl.eqv _, Bl.eqv _, Bl.eqv _, Bl.eqv _, Bl.eqv _, Bl.eqv _, Bl.eqv _] (fun w => Below.refl _ w) (fun a b c h k => Below.trans h k) (by kernel_rfl) (by kernel_rfl) (by kernel_rfl) (by kernel_rfl)
        case hsteps =>
          refine ⟨?_, ?_, ?_, ?_, ?_, ?_, ?_, trivial⟩
          all_goals
            intro d ev w1 hext HJd Hanc Hdes hni hb hd
            replace Hanc := Bl.hid Hanc
            replace HJd := Bl.hid HJd
            replace Hdes := Bl.hid Hdes
            replace hni := Bl.hid hni
            have e4 := hb 4 (by decide)
            have e10 := hb 10 (by decide)
            clear hb
            simp only [Array.getD_eq_getD_getElem?, List.getElem?_toArray, List.getElem?_cons_succ, List.getElem?_cons_zero, Option.getD_some] at e4 e10
            simp only [Bl.DepsE2, List.getElem?_cons_succ, List.getElem?_cons_zero, Option.bind_some, List.getD_cons_succ, List.getD_cons_zero, Bl.eqv, and_true] at hd
            have hc := (Bl.bcell hext).1
            simp only [Region.wanted, if_true]
            first
            | ((with_reducible refine Bl.goodX_load (fun w => Below.refl _ w) ?_ (HLp.out w1 hext) ?_); exact hd; exact ⟨rfl, Bl.HJ.same (by decide) HJd.out⟩) | ((with_reducible refine Bl.goodX_store ?_ ?_ (HSt.out w1 (Bl.HJ.get HJd.out hni.out)) ?_ ?_); exact e10; (first | exact hd | exact hd.1 | exact hd.2); exact Bl.below_setCells _ _ _ _ (Below.refl _ _) (Nat.le_refl _); exact ⟨rfl, Bl.HJ.set (Bl.Duo.setA (Bl.HJ.get HJd.out hni.out) Hdl.out)⟩)
            | (go_simp; first | exact ⟨Below.refl _ _, rfl, Bl.HJ.same (by decide) HJd.out⟩ | exact ⟨Below.refl _ _, rfl, Bl.HJ.same (by decide) HJd.out⟩)
        case hmono => exact ⟨Bl.monoR_eqv _, Bl.monoR_eqv _, Bl.monoR_eqv _, Bl.monoR_eqv _, Bl.monoR_eqv _, Bl.monoR_eqv _, Bl.monoR_eqv _, trivial⟩
        case hR0 => exact (Below.refl _ _).drew
        case hend =>
          intro u w1 hext hJ hend
          simp only [Bl.EndE, List.getElem?_cons_succ, List.getElem?_cons_zero, Option.bind_some, List.getD_cons_succ, List.getD_cons_zero, Bl.eqv, true_and] at hend
          simp only [Bl.fillAct, List.setIfInBounds_toArray, List.set_cons_succ, List.set_cons_zero, List.drop_succ_cons, List.drop_zero, hend]
          have HDw := Bl.hid (Bl.HJ.got hJ rfl)
          have HE9 := Bl.hid hext
          clear hext hJ hend
          have HDf2 := Bl.hid (HDw.out.setB (y' := d) Hdl.out)
          have Hse2 := Bl.hid (HDw.out.b.store (P := Tryd.prog) (ty := 31) (d' := d) Hdl.out (by kernel_rfl))
          go_wp2_with (with_reducible refine Bl.stop_store (ty := 31) ?_)
          refine Bl.go_on ?_
          refine Bl.wpL_store0 rfl rfl Hse2.out ?_
          have Hlv1 := Bl.hid (HDf2.out.a.loadVar (P := Tryd.prog) (ty := 31) Tryd.underlying31 (by kernel_rfl))
          have Hlv2 := Bl.hid (HDf2.out.b.loadVar (P := Tryd.prog) (ty := 31) Tryd.underlying31 (by kernel_rfl))
          go_wp2_with fail
          exact bodyPost_ret (v := .tuple #[.agg (Bl.ints .u8 d).toArray, .agg (Bl.ints .u8 d).toArray]) (Bl.results_cc rfl rfl rfl Hlv1.out Hlv2.out) rfl ⟨rfl, Bl.below_setCells _ _ _ _ (Below.trans HE0.out (HE9.out.mono (Nat.le_succ _))) (by omega)⟩
        case hJ0 => exact Bl.HJ.start (HDu0.out.ext (Below.refl _ _).drew)
    · have hb1 : ((m : Int) == (n : Int)) = false := by rw [beq_eq_false_iff_ne]; omega
      obtain ⟨s1, s2, s3⟩ := Bl.sp_bounds n (by omega) (by omega)
      obtain ⟨k, hk⟩ : ∃ k, p.length = k + 1 := by
        by_cases hq : m ≤ Bl.sp n
        · rw [Bl.cntG_left m n wh hm (by omega) (by omega) hq] at hpl; exact ⟨_, by rw [hpl, Nat.add_comm]⟩
        · rw [Bl.cntG_right m n wh hm (by omega) (by omega) hq] at hpl; exact ⟨_, by rw [hpl, Nat.add_comm]⟩
      have hsn := Bl.snocG p k hk
      have hml : (p.take k).length = k := by rw [List.length_take]; omega
      have HTl := Bl.hid (fun h : m ≤ Bl.sp n => (by rw [hml]; have := hpl; rw [Bl.cntG_left m n wh hm (by omega) (by omega) h] at this; omega : (p.take k).length = Bl.cntG m (Bl.sp n) wh))
      have HTr := Bl.hid (fun h : ¬ m ≤ Bl.sp n => (by rw [hml]; have := hpl; rw [Bl.cntG_right m n wh hm (by omega) (by omega) h] at this; omega : (p.take k).length = Bl.cntG (m - Bl.sp n) (n - Bl.sp n) false))
      have HLf := Bl.hid (fun h : m ≤ Bl.sp n => Bl.madeD_left m n old wh (p.take k) (p.getD k []) hm (by omega) (by omega) h (HTl.out h))
      have HRt := Bl.hid (fun h : ¬ m ≤ Bl.sp n => Bl.madeD_right m n old wh (p.take k) (p.getD k []) hm (by omega) (by omega) h (HTr.out h))
      rw [← hsn] at HLf HRt
      obtain ⟨F, hF⟩ : ∃ F, F = Bl.madeD m n old wh p := ⟨_, rfl⟩
      rw [← hF] at HLf HRt ⊢
      obtain ⟨b, o, c2, hpe, hq1, hq2, hbl, hrg⟩ := Bl.RdD.pos hp Hdp.out (by omega)
      injection hpe with hpe1 hpe2 hpe3
      clear hpe2
      subst hpe1
      subst hpe3
      have hrs := Bl.digit_at hrg Hdp.out (i := k) (by omega)
      obtain ⟨hsl, hsb⟩ := Hdp.out.get (i := k) (by omega)
      have Htk := Bl.hid (Bl.RdD.take hp Hdp.out k (by omega))
      obtain ⟨s, hs⟩ : ∃ s, s = p.getD k [] := ⟨_, rfl⟩
      rw [← hs] at HLf HRt hrs hsl hsb
      have Hrs := Bl.hid hrs
      have Hsl := Bl.hid hsl
      have Hsb := Bl.hid hsb
      have hk512 : k ≤ 513 := by
        have h1 : p.length ≤ 514 := by
          rw [hpl]
          have := Bl.steps_len_le n m 0 wh hm hmn (by omega)
          unfold Bl.cntG; split <;> omega
        omega
      rw [hk] at hvn ⊢
      clear hp hpl hsn hml hbl hrg hrs hsl hsb hs hk hF hq1 hq2
      go_enter Tryd.func55, Tryd.ntmps55
      go_wp2_with fail
      generalize ((w.alloc (.cells (Bl.ints .u8 old).toArray 31)).alloc (.cells #[.int .u8 0, .int .u8 0, .int .u8 0, .int .u8 0, .int .u8 0, .int .u8 0, .int .u8 0, .int .u8 0, .int .u8 0, .int .u8 0, .int .u8 0, .int .u8 0, .int .u8 0, .int .u8 0, .int .u8 0, .int .u8 0, .int .u8 0, .int .u8 0, .int .u8 0, .int .u8 0, .int .u8 0, .int .u8 0, .int .u8 0, .int .u8 0, .int .u8 0, .int .u8 0, .int .u8 0, .int .u8 0, .int .u8 0, .int .u8 0, .int .u8 0, .int .u8 0] 31)).alloc (.cells #[.int .u8 0, .int .u8 0, .int .u8 0, .int .u8 0, .int .u8 0, .int .u8 0, .int .u8 0, .int .u8 0, .int .u8 0, .int .u8 0, .int .u8 0, .int .u8 0, .int .u8 0, .int .u8 0, .int .u8 0, .int .u8 0, .int .u8 0, .int .u8 0, .int .u8 0, .int .u8 0, .int .u8 0, .int .u8 0, .int .u8 0, .int .u8 0, .int .u8 0, .int .u8 0, .int .u8 0, .int .u8 0, .int .u8 0, .int .u8 0, .int .u8 0, .int .u8 0] 31) = W0 at HDu0 HBo HLd HE0 ⊢
      refine (refsplit_any _ _ (by omega) (by omega)).mono ?_
      rintro e w3 ⟨rfl, hw3⟩
      subst hw3
      rw [Int.toNat_natCast]
      obtain ⟨q, hq⟩ : ∃ q, q = Bl.sp n := ⟨_, rfl⟩
      rw [← hq] at s1 s2 s3 HLf HRt HTl HTr ⊢
      clear hq
      have hm0 : (0 : Int) ≤ (k : Int) := by omega
      have hm1 : (k : Int) < (k : Int) + 1 := by omega
      have hm2 : (k : Int) ≤ (k : Int) + 1 := by omega
      have hm3 : (k : Int) ≤ (cp : Int) := by omega
      have hm4 : (k : Int) + 1 ≤ (cp : Int) := by omega
      have hw1 : IntKind.i64.wrap (k : Int) = (k : Int) := IntWalk.i64_in _ (by omega)
      have hw2 : IntKind.i64.wrap ((k : Int) + 1 - 1) = (k : Int) := by rw [Int.add_sub_cancel]; exact hw1
      have HLs : Hid (∀ w2, Bl.Ext w w2 → (Instr.loadAt 31 (.pointer (some ⟨b, o + k * 32, none⟩))).run Tryd.prog w2 = .ok (.agg (Bl.ints .u8 s).toArray) w2) := Bl.hid fun w2 h2 => Bl.load_ints (Bl.rangeAt_ext Hrs.out h2) Tryd.underlying31 (by kernel_rfl) Hsl.out
      go_wp2_with (with_reducible refine Bl.stop_load (ty := 31) ?_)
      refine Bl.go_on ?_
      refine Bl.wpL_load rfl (HLs.out _ HE0.out) ?_
      have HBn := Bl.hid (Bl.BoxD.new W0 31 #[.int .u8 0, .int .u8 0, .int .u8 0, .int .u8 0, .int .u8 0, .int .u8 0, .int .u8 0, .int .u8 0, .int .u8 0, .int .u8 0, .int .u8 0, .int .u8 0, .int .u8 0, .int .u8 0, .int .u8 0, .int .u8 0, .int .u8 0, .int .u8 0, .int .u8 0, .int .u8 0, .int .u8 0, .int .u8 0, .int .u8 0, .int .u8 0, .int .u8 0, .int .u8 0, .int .u8 0, .int .u8 0, .int .u8 0, .int .u8 0, .int .u8 0, .int .u8 0] rfl)
      have Hst := Bl.hid (HBn.out.store (P := Tryd.prog) (ty := 31) (d' := s) Hsl.out (by kernel_rfl))
      have HE1 : Hid (Bl.Ext W0 ((W0.alloc (.cells #[.int .u8 0, .int .u8 0, .int .u8 0, .int .u8 0, .int .u8 0, .int .u8 0, .int .u8 0, .int .u8 0, .int .u8 0, .int .u8 0, .int .u8 0, .int .u8 0, .int .u8 0, .int .u8 0, .int .u8 0, .int .u8 0, .int .u8 0, .int .u8 0, .int .u8 0, .int .u8 0, .int .u8 0, .int .u8 0, .int .u8 0, .int .u8 0, .int .u8 0, .int .u8 0, .int .u8 0, .int .u8 0, .int .u8 0, .int .u8 0, .int .u8 0, .int .u8 0] 31)).setCells W0.heap.size 0 (Bl.ints .u8 s))) := Bl.hid (Bl.below_setCells _ _ _ _ (Bl.ext_alloc _ _) (Nat.le_refl _))
      have HBx := Bl.hid (HBn.out.set Hsl.out)
      go_wp2_with (with_reducible refine Bl.stop_store (ty := 31) ?_)
      refine Bl.go_on ?_
      refine Bl.wpL_store0 rfl rfl Hst.out ?_
      clear Hst HBn HLs
      obtain ⟨W1, hW1⟩ : ∃ W1, W1 = (W0.alloc (.cells #[.int .u8 0, .int .u8 0, .int .u8 0, .int .u8 0, .int .u8 0, .int .u8 0, .int .u8 0, .int .u8 0, .int .u8 0, .int .u8 0, .int .u8 0, .int .u8 0, .int .u8 0, .int .u8 0, .int .u8 0, .int .u8 0, .int .u8 0, .int .u8 0, .int .u8 0, .int .u8 0, .int .u8 0, .int .u8 0, .int .u8 0, .int .u8 0, .int .u8 0, .int .u8 0, .int .u8 0, .int .u8 0, .int .u8 0, .int .u8 0, .int .u8 0, .int .u8 0] 31)).setCells W0.heap.size 0 (Bl.ints .u8 s) := ⟨_, rfl⟩
      obtain ⟨X, hX⟩ : ∃ X, X = W0.heap.size := ⟨_, rfl⟩
      rw [← hW1] at HE1 HBx ⊢
      rw [← hX] at HBx ⊢
      clear hW1 hX
      have HE6 := Bl.hid (HE0.out.trans HE1.out)
      have HLd1 := Bl.hid (HLd.out W1 (HE1.out.mono HBo.out.lt))
      have HDu1 := Bl.hid (HDu0.out.ext HE1.out)
      by_cases hiq : m ≤ q
      · have hlt' : (m : Int) ≤ (q : Int) := by omega
        have hP := HLf.out hiq
        have HC : Hid (Calls Tryd.prog 55 #[.int .i64 m, .int .i64 q, .agg (Bl.ints .u8 old).toArray, .bool wh, .slice (some ⟨b, o, none⟩) k cp] W1 fun e w' => e = .returned (.tuple #[.agg (Bl.ints .u8 (Bl.madeD m q old wh (p.take k)).1).toArray, .agg (Bl.ints .u8 (Bl.madeD m q old wh (p.take k)).2).toArray]) ∧ Bl.Ext W1 w') := Bl.hid (
          IH.out q (by omega) m old wh (p.take k) _ W1 (by omega) hm hiq Hol.out Hob.out (Bl.Rds.ext Htk.out HE6.out) (Hdp.out.take k) (HTl.out hiq) (Hg.out.ext HE6.out))
        have hfd := Bl.madeD_dig m q old wh (p.take k) ⟨Hol.out, Hob.out⟩ (Hdp.out.take k)
        obtain ⟨⟨x, y⟩, hf⟩ : ∃ f, f = Bl.madeD m q old wh (p.take k) := ⟨_, rfl⟩
        rw [← hf] at hP HC hfd
        have Hx : Hid (x.length = 32) := Bl.hid hfd.1.1
        have Hy : Hid (y.length = 32) := Bl.hid hfd.2.1
        have Hyb : Hid (Bl.Byt y) := Bl.hid hfd.2.2
        have HN : Hid (∀ w2, Bl.Ext W1 w2 → Calls Tryd.prog 63 #[.agg (Bl.ints .u8 y).toArray, .agg (Bl.ints .u8 s).toArray] w2 fun e w' => e = .returned (.agg (Bl.ints .u8 (Bl.ndD y s)).toArray) ∧ Bl.Ext w2 w') := Bl.hid fun w2 h2 => refnode_any y s w2 Hy.out Hsl.out Hyb.out Hsb.out (Hg.out.ext (HE6.out.trans h2))
        have Hnl : Hid ((Bl.ndD y s).length = 32) := Bl.hid (Bl.ndD_length _ _)
        obtain ⟨nd, hnd⟩ : ∃ nd, nd = Bl.ndD y s := ⟨_, rfl⟩
        rw [← hnd] at HN Hnl hP
        have HPd : Hid (F = (x, nd)) := Bl.hid hP
        clear hf hP hnd HLf HRt HTl HTr IH hfd HLd
        go_wp2_with (with_reducible refine Bl.stop_load (ty := 31) ?_)
        refine Bl.go_on ?_
        refine Bl.wpL_load rfl HLd1.out ?_
        go_wp2_with fail
        refine HC.out.mono ?_
        rintro e w4 ⟨rfl, hE4⟩
        have HE4 := Bl.hid hE4
        clear hE4 HC
        have HDn5 := Bl.hid (Bl.Duo.new w4 31 #[.int .u8 0, .int .u8 0, .int .u8 0, .int .u8 0, .int .u8 0, .int .u8 0, .int .u8 0, .int .u8 0, .int .u8 0, .int .u8 0, .int .u8 0, .int .u8 0, .int .u8 0, .int .u8 0, .int .u8 0, .int .u8 0, .int .u8 0, .int .u8 0, .int .u8 0, .int .u8 0, .int .u8 0, .int .u8 0, .int .u8 0, .int .u8 0, .int .u8 0, .int .u8 0, .int .u8 0, .int .u8 0, .int .u8 0, .int .u8 0, .int .u8 0, .int .u8 0] rfl)
        have HDm5 := Bl.hid (HDn5.out.setA (x' := x) Hx.out)
        have HDu5 := Bl.hid (HDm5.out.setB (y' := y) Hy.out)
        have Hsa5 := Bl.hid (HDn5.out.a.store (P := Tryd.prog) (ty := 31) (d' := x) Hx.out (by kernel_rfl))
        have Hsb5 := Bl.hid (HDm5.out.b.store (P := Tryd.prog) (ty := 31) (d' := y) Hy.out (by kernel_rfl))
        have HEu5 : Hid (Bl.Ext w4 ((((w4.alloc (.cells #[.int .u8 0, .int .u8 0, .int .u8 0, .int .u8 0, .int .u8 0, .int .u8 0, .int .u8 0, .int .u8 0, .int .u8 0, .int .u8 0, .int .u8 0, .int .u8 0, .int .u8 0, .int .u8 0, .int .u8 0, .int .u8 0, .int .u8 0, .int .u8 0, .int .u8 0, .int .u8 0, .int .u8 0, .int .u8 0, .int .u8 0, .int .u8 0, .int .u8 0, .int .u8 0, .int .u8 0, .int .u8 0, .int .u8 0, .int .u8 0, .int .u8 0, .int .u8 0] 31)).alloc (.cells #[.int .u8 0, .int .u8 0, .int .u8 0, .int .u8 0, .int .u8 0, .int .u8 0, .int .u8 0, .int .u8 0, .int .u8 0, .int .u8 0, .int .u8 0, .int .u8 0, .int .u8 0, .int .u8 0, .int .u8 0, .int .u8 0, .int .u8 0, .int .u8 0, .int .u8 0, .int .u8 0, .int .u8 0, .int .u8 0, .int .u8 0, .int .u8 0, .int .u8 0, .int .u8 0, .int .u8 0, .int .u8 0, .int .u8 0, .int .u8 0, .int .u8 0, .int .u8 0] 31)).setCells w4.heap.size 0 (Bl.ints .u8 x)).setCells (w4.heap.size + 1) 0 (Bl.ints .u8 y))) := Bl.hid (Bl.below_setCells _ _ _ _ (Bl.below_setCells _ _ _ _ ((Bl.ext_alloc _ _).trans (Bl.ext_alloc _ _)) (Nat.le_refl _)) (Nat.le_succ _))
        go_wp2_with (with_reducible refine Bl.stop_store (ty := 31) ?_)
        refine Bl.go_on ?_
        refine Bl.wpL_store0 rfl rfl Hsa5.out ?_
        go_wp2_with (with_reducible refine Bl.stop_store (ty := 31) ?_)
        refine Bl.go_on ?_
        refine Bl.wpL_store0 rfl rfl Hsb5.out ?_
        obtain ⟨W5, hW5⟩ : ∃ W', W' = (((w4.alloc (.cells #[.int .u8 0, .int .u8 0, .int .u8 0, .int .u8 0, .int .u8 0, .int .u8 0, .int .u8 0, .int .u8 0, .int .u8 0, .int .u8 0, .int .u8 0, .int .u8 0, .int .u8 0, .int .u8 0, .int .u8 0, .int .u8 0, .int .u8 0, .int .u8 0, .int .u8 0, .int .u8 0, .int .u8 0, .int .u8 0, .int .u8 0, .int .u8 0, .int .u8 0, .int .u8 0, .int .u8 0, .int .u8 0, .int .u8 0, .int .u8 0, .int .u8 0, .int .u8 0] 31)).alloc (.cells #[.int .u8 0, .int .u8 0, .int .u8 0, .int .u8 0, .int .u8 0, .int .u8 0, .int .u8 0, .int .u8 0, .int .u8 0, .int .u8 0, .int .u8 0, .int .u8 0, .int .u8 0, .int .u8 0, .int .u8 0, .int .u8 0, .int .u8 0, .int .u8 0, .int .u8 0, .int .u8 0, .int .u8 0, .int .u8 0, .int .u8 0, .int .u8 0, .int .u8 0, .int .u8 0, .int .u8 0, .int .u8 0, .int .u8 0, .int .u8 0, .int .u8 0, .int .u8 0] 31)).setCells w4.heap.size 0 (Bl.ints .u8 x)).setCells (w4.heap.size + 1) 0 (Bl.ints .u8 y) := ⟨_, rfl⟩
        obtain ⟨Y5, hY5⟩ : ∃ Y', Y' = w4.heap.size + 1 := ⟨_, rfl⟩
        obtain ⟨X5, hX5⟩ : ∃ X', X' = w4.heap.size := ⟨_, rfl⟩
        rw [← hW5] at HDu5 HEu5 ⊢
        rw [← hY5] at HDu5 ⊢
        rw [← hX5] at HDu5 ⊢
        have HX5 := Bl.hid hX5
        have HY5 := Bl.hid hY5
        clear hW5 hY5 hX5 HDn5 HDm5 Hsa5 Hsb5
        have HEs := Bl.hid (HE4.out.trans HEu5.out)
        have HB5 := Bl.hid (HBx.out.ext HEs.out)
        have HDu2 := Bl.hid (HDu1.out.ext HEs.out)
        have HLx : Hid (∀ w2, Bl.Ext W5 w2 → (Instr.loadAt 31 (.pointer (some ⟨X5, 0, none⟩))).run Tryd.prog w2 = .ok (.agg (Bl.ints .u8 x).toArray) w2) := Bl.hid fun w2 h2 => (HDu5.out.a.ext h2).load Tryd.underlying31 (by kernel_rfl)
        have HLy : Hid (∀ w2, Bl.Ext W5 w2 → (Instr.loadAt 31 (.pointer (some ⟨Y5, 0, none⟩))).run Tryd.prog w2 = .ok (.agg (Bl.ints .u8 y).toArray) w2) := Bl.hid fun w2 h2 => (HDu5.out.b.ext h2).load Tryd.underlying31 (by kernel_rfl)
        have HLs : Hid (∀ w2, Bl.Ext W5 w2 → (Instr.loadAt 31 (.pointer (some ⟨X, 0, none⟩))).run Tryd.prog w2 = .ok (.agg (Bl.ints .u8 s).toArray) w2) := Bl.hid fun w2 h2 => (HB5.out.ext h2).load Tryd.underlying31 (by kernel_rfl)
        go_wp2_with fail
        apply Bl.wp_region_evK (Bl.Ext) (fun _ _ _ => True) 4 [56, 57, 58, 59] [Bl.eqv _, Bl.eqv _, Bl.eqv _, Bl.eqv _] (fun w => Below.refl _ w) (fun a b c h k => Bl.Ext.trans h k) (by kernel_rfl) (by kernel_rfl) (by kernel_rfl) (by kernel_rfl)
        case hsteps =>
          refine ⟨?_, ?_, ?_, ?_, trivial⟩
          all_goals
            intro d ev w1 hext HJd Hanc Hdes hni hb hd
            replace Hanc := Bl.hid Hanc
            replace HJd := Bl.hid HJd
            replace Hdes := Bl.hid Hdes
            replace hni := Bl.hid hni
            have e13 := hb 13 (by decide)
            have e15 := hb 15 (by decide)
            have e16 := hb 16 (by decide)
            clear hb
            simp only [Array.getD_eq_getD_getElem?, List.getElem?_toArray, List.getElem?_cons_succ, List.getElem?_cons_zero, Option.getD_some] at e13 e15 e16
            simp only [Bl.DepsE2, List.getElem?_cons_succ, List.getElem?_cons_zero, Option.bind_some, List.getD_cons_succ, List.getD_cons_zero, Bl.eqv, and_true] at hd
            have hc := (Bl.bcell hext).1
            simp only [Region.wanted, if_true]
            first
            | ((with_reducible refine Bl.goodX_load (fun w => Below.refl _ w) ?_ (HLx.out _ hext) ?_); exact e15; exact ⟨rfl, trivial⟩) | ((with_reducible refine Bl.goodX_load (fun w => Below.refl _ w) ?_ (HLy.out _ hext) ?_); exact e16; exact ⟨rfl, trivial⟩) | ((with_reducible refine Bl.goodX_load (fun w => Below.refl _ w) ?_ (HLs.out _ hext) ?_); exact e13; exact ⟨rfl, trivial⟩)
            | (go_simp; first | (go_at_call 63; (with_reducible refine (HN.out _ (HEs.out.trans hext)).mono ?_); rintro e w2 ⟨rfl, hE2⟩; exact ⟨_, rfl, hE2, rfl⟩) | exact ⟨Below.refl _ _, rfl⟩ | exact Below.refl _ _)
        case hmono => exact ⟨Bl.monoR_eqv _, Bl.monoR_eqv _, Bl.monoR_eqv _, Bl.monoR_eqv _, trivial⟩
        case hR0 => exact (Below.refl _ _).drew
        case hend =>
          intro u w1 hext hJ hend
          simp only [Bl.EndE, List.getElem?_cons_succ, List.getElem?_cons_zero, Option.bind_some, List.getD_cons_succ, List.getD_cons_zero, Bl.eqv, true_and] at hend
          simp only [Bl.fillAct, List.setIfInBounds_toArray, List.set_cons_succ, List.set_cons_zero, List.drop_succ_cons, List.drop_zero, hend]
          have HDw := Bl.hid (HDu2.out.ext hext)
          have HE9 := Bl.hid ((HE6.out.trans HEs.out).trans hext)
          clear hext hJ hend
          have HDe1 := Bl.hid (HDw.out.setA (x' := x) Hx.out)
          have HDe2 := Bl.hid (HDe1.out.setB (y' := nd) Hnl.out)
          have Hse1 := Bl.hid (HDw.out.a.store (P := Tryd.prog) (ty := 31) (d' := x) Hx.out (by kernel_rfl))
          go_wp2_with (with_reducible refine Bl.stop_store (ty := 31) ?_)
          refine Bl.go_on ?_
          refine Bl.wpL_store0 rfl rfl Hse1.out ?_
          have HDf2 := Bl.hid (HDe1.out.setB (y' := nd) Hnl.out)
          have Hse2 := Bl.hid (HDe1.out.b.store (P := Tryd.prog) (ty := 31) (d' := nd) Hnl.out (by kernel_rfl))
          go_wp2_with (with_reducible refine Bl.stop_store (ty := 31) ?_)
          refine Bl.go_on ?_
          refine Bl.wpL_store0 rfl rfl Hse2.out ?_
          have Hlv1 := Bl.hid (HDf2.out.a.loadVar (P := Tryd.prog) (ty := 31) Tryd.underlying31 (by kernel_rfl))
          have Hlv2 := Bl.hid (HDf2.out.b.loadVar (P := Tryd.prog) (ty := 31) Tryd.underlying31 (by kernel_rfl))
          go_wp2_with fail
          exact bodyPost_ret (v := .tuple #[.agg (Bl.ints .u8 x).toArray, .agg (Bl.ints .u8 nd).toArray]) (Bl.results_cc rfl rfl rfl Hlv1.out Hlv2.out) rfl ⟨by rw [HPd.out], Bl.below_setCells _ _ _ _ (Bl.below_setCells _ _ _ _ HE9.out (by omega)) (by omega)⟩
        case hJ0 => trivial
      · have hlt' : ¬ ((m : Int) ≤ (q : Int)) := by omega
        have hP := HRt.out hiq
        have e1 : ((n - q : Nat) : Int) = (n : Int) - (q : Int) := by omega
        have e2 : ((m - q : Nat) : Int) = (m : Int) - (q : Int) := by omega
        have HC : Hid (Calls Tryd.prog 55 #[.int .i64 ((m : Int) - (q : Int)), .int .i64 ((n : Int) - (q : Int)), .agg (Bl.ints .u8 old).toArray, .bool false, .slice (some ⟨b, o, none⟩) k cp] W1 fun e w' => e = .returned (.tuple #[.agg (Bl.ints .u8 (Bl.madeD (m - q) (n - q) old false (p.take k)).1).toArray, .agg (Bl.ints .u8 (Bl.madeD (m - q) (n - q) old false (p.take k)).2).toArray]) ∧ Bl.Ext W1 w') := Bl.hid (by
          rw [← e1, ← e2]
          exact IH.out (n - q) (by omega) (m - q) old false (p.take k) _ W1 (by omega) (by omega) (by omega) Hol.out Hob.out (Bl.Rds.ext Htk.out HE6.out) (Hdp.out.take k) (HTr.out hiq) (Hg.out.ext HE6.out))
        have hfd := Bl.madeD_dig (m - q) (n - q) old false (p.take k) ⟨Hol.out, Hob.out⟩ (Hdp.out.take k)
        obtain ⟨⟨x, y⟩, hf⟩ : ∃ f, f = Bl.madeD (m - q) (n - q) old false (p.take k) := ⟨_, rfl⟩
        rw [← hf] at hP HC hfd
        have Hx : Hid (x.length = 32) := Bl.hid hfd.1.1
        have Hxb : Hid (Bl.Byt x) := Bl.hid hfd.1.2
        have Hy : Hid (y.length = 32) := Bl.hid hfd.2.1
        have Hyb : Hid (Bl.Byt y) := Bl.hid hfd.2.2
        have HN : Hid (∀ w2, Bl.Ext W1 w2 → Calls Tryd.prog 63 #[.agg (Bl.ints .u8 s).toArray, .agg (Bl.ints .u8 x).toArray] w2 fun e w' => e = .returned (.agg (Bl.ints .u8 (Bl.ndD s x)).toArray) ∧ Bl.Ext w2 w') := Bl.hid fun w2 h2 => refnode_any s x w2 Hsl.out Hx.out Hsb.out Hxb.out (Hg.out.ext (HE6.out.trans h2))
        have HN2 : Hid (∀ w2, Bl.Ext W1 w2 → Calls Tryd.prog 63 #[.agg (Bl.ints .u8 s).toArray, .agg (Bl.ints .u8 y).toArray] w2 fun e w' => e = .returned (.agg (Bl.ints .u8 (Bl.ndD s y)).toArray) ∧ Bl.Ext w2 w') := Bl.hid fun w2 h2 => refnode_any s y w2 Hsl.out Hy.out Hsb.out Hyb.out (Hg.out.ext (HE6.out.trans h2))
        have Hnl : Hid ((Bl.ndD s x).length = 32) := Bl.hid (Bl.ndD_length _ _)
        have Hnl2 : Hid ((Bl.ndD s y).length = 32) := Bl.hid (Bl.ndD_length _ _)
        obtain ⟨nx, hnx⟩ : ∃ nd, nd = Bl.ndD s x := ⟨_, rfl⟩
        obtain ⟨ny, hny⟩ : ∃ nd, nd = Bl.ndD s y := ⟨_, rfl⟩
        rw [← hnx] at HN Hnl hP
        rw [← hny] at HN2 Hnl2 hP
        have HPd : Hid (F = (nx, ny)) := Bl.hid hP
        have hw3 : IntKind.i64.wrap ((n : Int) - (q : Int)) = (n : Int) - (q : Int) := IntWalk.i64_in _ (by omega)
        have hw4 : IntKind.i64.wrap ((m : Int) - (q : Int)) = (m : Int) - (q : Int) := IntWalk.i64_in _ (by omega)
        clear hf hP hnx hny HLf HRt HTl HTr IH e1 e2 hfd HLd
        go_wp2_with (with_reducible refine Bl.stop_load (ty := 31) ?_)
        refine Bl.go_on ?_
        refine Bl.wpL_load rfl HLd1.out ?_
        go_wp2_with fail
        refine HC.out.mono ?_
        rintro e w4 ⟨rfl, hE4⟩
        have HE4 := Bl.hid hE4
        clear hE4 HC
        have HDn5 := Bl.hid (Bl.Duo.new w4 31 #[.int .u8 0, .int .u8 0, .int .u8 0, .int .u8 0, .int .u8 0, .int .u8 0, .int .u8 0, .int .u8 0, .int .u8 0, .int .u8 0, .int .u8 0, .int .u8 0, .int .u8 0, .int .u8 0, .int .u8 0, .int .u8 0, .int .u8 0, .int .u8 0, .int .u8 0, .int .u8 0, .int .u8 0, .int .u8 0, .int .u8 0, .int .u8 0, .int .u8 0, .int .u8 0, .int .u8 0, .int .u8 0, .int .u8 0, .int .u8 0, .int .u8 0, .int .u8 0] rfl)
        have HDm5 := Bl.hid (HDn5.out.setA (x' := x) Hx.out)
        have HDu5 := Bl.hid (HDm5.out.setB (y' := y) Hy.out)
        have Hsa5 := Bl.hid (HDn5.out.a.store (P := Tryd.prog) (ty := 31) (d' := x) Hx.out (by kernel_rfl))
        have Hsb5 := Bl.hid (HDm5.out.b.store (P := Tryd.prog) (ty := 31) (d' := y) Hy.out (by kernel_rfl))
        have HEu5 : Hid (Bl.Ext w4 ((((w4.alloc (.cells #[.int .u8 0, .int .u8 0, .int .u8 0, .int .u8 0, .int .u8 0, .int .u8 0, .int .u8 0, .int .u8 0, .int .u8 0, .int .u8 0, .int .u8 0, .int .u8 0, .int .u8 0, .int .u8 0, .int .u8 0, .int .u8 0, .int .u8 0, .int .u8 0, .int .u8 0, .int .u8 0, .int .u8 0, .int .u8 0, .int .u8 0, .int .u8 0, .int .u8 0, .int .u8 0, .int .u8 0, .int .u8 0, .int .u8 0, .int .u8 0, .int .u8 0, .int .u8 0] 31)).alloc (.cells #[.int .u8 0, .int .u8 0, .int .u8 0, .int .u8 0, .int .u8 0, .int .u8 0, .int .u8 0, .int .u8 0, .int .u8 0, .int .u8 0, .int .u8 0, .int .u8 0, .int .u8 0, .int .u8 0, .int .u8 0, .int .u8 0, .int .u8 0, .int .u8 0, .int .u8 0, .int .u8 0, .int .u8 0, .int .u8 0, .int .u8 0, .int .u8 0, .int .u8 0, .int .u8 0, .int .u8 0, .int .u8 0, .int .u8 0, .int .u8 0, .int .u8 0, .int .u8 0] 31)).setCells w4.heap.size 0 (Bl.ints .u8 x)).setCells (w4.heap.size + 1) 0 (Bl.ints .u8 y))) := Bl.hid (Bl.below_setCells _ _ _ _ (Bl.below_setCells _ _ _ _ ((Bl.ext_alloc _ _).trans (Bl.ext_alloc _ _)) (Nat.le_refl _)) (Nat.le_succ _))
        go_wp2_with (with_reducible refine Bl.stop_store (ty := 31) ?_)
        refine Bl.go_on ?_
        refine Bl.wpL_store0 rfl rfl Hsa5.out ?_
        go_wp2_with (with_reducible refine Bl.stop_store (ty := 31) ?_)
        refine Bl.go_on ?_
        refine Bl.wpL_store0 rfl rfl Hsb5.out ?_
        obtain ⟨W5, hW5⟩ : ∃ W', W' = (((w4.alloc (.cells #[.int .u8 0, .int .u8 0, .int .u8 0, .int .u8 0, .int .u8 0, .int .u8 0, .int .u8 0, .int .u8 0, .int .u8 0, .int .u8 0, .int .u8 0, .int .u8 0, .int .u8 0, .int .u8 0, .int .u8 0, .int .u8 0, .int .u8 0, .int .u8 0, .int .u8 0, .int .u8 0, .int .u8 0, .int .u8 0, .int .u8 0, .int .u8 0, .int .u8 0, .int .u8 0, .int .u8 0, .int .u8 0, .int .u8 0, .int .u8 0, .int .u8 0, .int .u8 0] 31)).alloc (.cells #[.int .u8 0, .int .u8 0, .int .u8 0, .int .u8 0, .int .u8 0, .int .u8 0, .int .u8 0, .int .u8 0, .int .u8 0, .int .u8 0, .int .u8 0, .int .u8 0, .int .u8 0, .int .u8 0, .int .u8 0, .int .u8 0, .int .u8 0, .int .u8 0, .int .u8 0, .int .u8 0, .int .u8 0, .int .u8 0, .int .u8 0, .int .u8 0, .int .u8 0, .int .u8 0, .int .u8 0, .int .u8 0, .int .u8 0, .int .u8 0, .int .u8 0, .int .u8 0] 31)).setCells w4.heap.size 0 (Bl.ints .u8 x)).setCells (w4.heap.size + 1) 0 (Bl.ints .u8 y) := ⟨_, rfl⟩
        obtain ⟨Y5, hY5⟩ : ∃ Y', Y' = w4.heap.size + 1 := ⟨_, rfl⟩
        obtain ⟨X5, hX5⟩ : ∃ X', X' = w4.heap.size := ⟨_, rfl⟩
        rw [← hW5] at HDu5 HEu5 ⊢
        rw [← hY5] at HDu5 ⊢
        rw [← hX5] at HDu5 ⊢
        have HX5 := Bl.hid hX5
        have HY5 := Bl.hid hY5
        clear hW5 hY5 hX5 HDn5 HDm5 Hsa5 Hsb5
        have HEs := Bl.hid (HE4.out.trans HEu5.out)
        have HB5 := Bl.hid (HBx.out.ext HEs.out)
        have HDu2 := Bl.hid (HDu1.out.ext HEs.out)
        have HLx : Hid (∀ w2, Bl.Ext W5 w2 → (Instr.loadAt 31 (.pointer (some ⟨X5, 0, none⟩))).run Tryd.prog w2 = .ok (.agg (Bl.ints .u8 x).toArray) w2) := Bl.hid fun w2 h2 => (HDu5.out.a.ext h2).load Tryd.underlying31 (by kernel_rfl)
        have HLy : Hid (∀ w2, Bl.Ext W5 w2 → (Instr.loadAt 31 (.pointer (some ⟨Y5, 0, none⟩))).run Tryd.prog w2 = .ok (.agg (Bl.ints .u8 y).toArray) w2) := Bl.hid fun w2 h2 => (HDu5.out.b.ext h2).load Tryd.underlying31 (by kernel_rfl)
        have HLs : Hid (∀ w2, Bl.Ext W5 w2 → (Instr.loadAt 31 (.pointer (some ⟨X, 0, none⟩))).run Tryd.prog w2 = .ok (.agg (Bl.ints .u8 s).toArray) w2) := Bl.hid fun w2 h2 => (HB5.out.ext h2).load Tryd.underlying31 (by kernel_rfl)
        go_wp2_with fail
        apply Bl.wp_region_evK (Bl.Ext) (fun _ _ _ => True) 6 [72, 73, 74, 75, 76, 77] [Bl.eqv _, Bl.eqv _, Bl.eqv _, Bl.eqv _, Bl.eqv _, Bl.eqv _] (fun w => Below.refl _ w) (fun a b c h k => Bl.Ext.trans h k) (by kernel_rfl) (by kernel_rfl) (by kernel_rfl) (by kernel_rfl)
        case hsteps =>
          refine ⟨?_, ?_, ?_, ?_, ?_, ?_, trivial⟩
          all_goals
            intro d ev w1 hext HJd Hanc Hdes hni hb hd
            replace Hanc := Bl.hid Hanc
            replace HJd := Bl.hid HJd
            replace Hdes := Bl.hid Hdes
            replace hni := Bl.hid hni
            have e13 := hb 13 (by decide)
            have e17 := hb 17 (by decide)
            have e18 := hb 18 (by decide)
            clear hb
            simp only [Array.getD_eq_getD_getElem?, List.getElem?_toArray, List.getElem?_cons_succ, List.getElem?_cons_zero, Option.getD_some] at e13 e17 e18
            simp only [Bl.DepsE2, List.getElem?_cons_succ, List.getElem?_cons_zero, Option.bind_some, List.getD_cons_succ, List.getD_cons_zero, Bl.eqv, and_true] at hd
            have hc := (Bl.bcell hext).1
            simp only [Region.wanted, if_true]
            first
            | ((with_reducible refine Bl.goodX_load (fun w => Below.refl _ w) ?_ (HLx.out _ hext) ?_); exact e17; exact ⟨rfl, trivial⟩) | ((with_reducible refine Bl.goodX_load (fun w => Below.refl _ w) ?_ (HLy.out _ hext) ?_); exact e18; exact ⟨rfl, trivial⟩) | ((with_reducible refine Bl.goodX_load (fun w => Below.refl _ w) ?_ (HLs.out _ hext) ?_); exact e13; exact ⟨rfl, trivial⟩)
            | (go_simp; first | (go_at_call 63; (with_reducible refine (HN.out _ (HEs.out.trans hext)).mono ?_); rintro e w2 ⟨rfl, hE2⟩; exact ⟨_, rfl, hE2, rfl⟩) | (go_at_call 63; (with_reducible refine (HN2.out _ (HEs.out.trans hext)).mono ?_); rintro e w2 ⟨rfl, hE2⟩; exact ⟨_, rfl, hE2, rfl⟩) | exact ⟨Below.refl _ _, rfl⟩ | exact Below.refl _ _)
        case hmono => exact ⟨Bl.monoR_eqv _, Bl.monoR_eqv _, Bl.monoR_eqv _, Bl.monoR_eqv _, Bl.monoR_eqv _, Bl.monoR_eqv _, trivial⟩
        case hR0 => exact (Below.refl _ _).drew
        case hend =>
          intro u w1 hext hJ hend
          simp only [Bl.EndE, List.getElem?_cons_succ, List.getElem?_cons_zero, Option.bind_some, List.getD_cons_succ, List.getD_cons_zero, Bl.eqv, true_and] at hend
          simp only [Bl.fillAct, List.setIfInBounds_toArray, List.set_cons_succ, List.set_cons_zero, List.drop_succ_cons, List.drop_zero, hend]
          have HDw := Bl.hid (HDu2.out.ext hext)
          have HE9 := Bl.hid ((HE6.out.trans HEs.out).trans hext)
          clear hext hJ hend
          have HDe1 := Bl.hid (HDw.out.setA (x' := nx) Hnl.out)
          have HDe2 := Bl.hid (HDe1.out.setB (y' := ny) Hnl2.out)
          have Hse1 := Bl.hid (HDw.out.a.store (P := Tryd.prog) (ty := 31) (d' := nx) Hnl.out (by kernel_rfl))
          go_wp2_with (with_reducible refine Bl.stop_store (ty := 31) ?_)
          refine Bl.go_on ?_
          refine Bl.wpL_store0 rfl rfl Hse1.out ?_
          have HDf2 := Bl.hid (HDe1.out.setB (y' := ny) Hnl2.out)
          have Hse2 := Bl.hid (HDe1.out.b.store (P := Tryd.prog) (ty := 31) (d' := ny) Hnl2.out (by kernel_rfl))
          go_wp2_with (with_reducible refine Bl.stop_store (ty := 31) ?_)
          refine Bl.go_on ?_
          refine Bl.wpL_store0 rfl rfl Hse2.out ?_
          have Hlv1 := Bl.hid (HDf2.out.a.loadVar (P := Tryd.prog) (ty := 31) Tryd.underlying31 (by kernel_rfl))
          have Hlv2 := Bl.hid (HDf2.out.b.loadVar (P := Tryd.prog) (ty := 31) Tryd.underlying31 (by kernel_rfl))
          go_wp2_with fail
          exact bodyPost_ret (v := .tuple #[.agg (Bl.ints .u8 nx).toArray, .agg (Bl.ints .u8 ny).toArray]) (Bl.results_cc rfl rfl rfl Hlv1.out Hlv2.out) rfl ⟨by rw [HPd.out], Bl.below_setCells _ _ _ _ (Bl.below_setCells _ _ _ _ HE9.out (by omega)) (by omega)⟩
        case hJ0 => trivial
end Go.Proofs.YtmfooocdnoflaaaDoor

/- Walk of baileeref14.Check. -/
namespace Go.Proofs.YtmfooocdnoflaaaDoor
open Go.RowKit Go.Proofs

set_option maxRecDepth 100000 in
set_option maxHeartbeats 2000000 in
theorem refgcheck_any (m n : Int) (old now : List Int) (vp : Value) (p : List (List Int)) (w : World) (ho : old.length = 32) (bo : Bl.Byt old) (hnw : now.length = 32) (hp : Bl.RdD w vp p) (hdp : Bl.Dig p) (hg : GlobR w) :
    Calls Tryd.prog 34 #[.int .i64 m, .agg (Bl.ints .u8 old).toArray, .int .i64 n, .agg (Bl.ints .u8 now).toArray, vp] w fun e w' => e = .returned (.int .i64 (Bl.chkG m n old now p)) ∧ Bl.Ext w w' := by
  obtain ⟨pp, cp, hvf, hvn, hvc⟩ := hp.form
  subst hvf
  unfold maxLen at hvc
  have HEa := Bl.hid (Bl.ext_alloc w (.cells (Bl.ints .u8 old).toArray 31))
  have HEb := Bl.hid (Bl.ext_alloc (w.alloc (.cells (Bl.ints .u8 old).toArray 31)) (.cells (Bl.ints .u8 now).toArray 31))
  have HE0 := Bl.hid (HEa.out.trans HEb.out)
  have HBo := Bl.hid ((Bl.dig_box w old 31 ho).ext HEb.out)
  have hsz : (w.alloc (.cells (Bl.ints .u8 old).toArray 31)).heap.size = w.heap.size + 1 := World.size_alloc _ _
  have hbn := Bl.dig_box (w.alloc (.cells (Bl.ints .u8 old).toArray 31)) now 31 hnw
  rw [hsz] at hbn
  have HBn := Bl.hid hbn
  clear hsz hbn HEa HEb
  by_cases h : 1 ≤ m ∧ m ≤ n ∧ n ≤ 512
  · obtain ⟨h1, h2, h3⟩ := h
    have hb := Bl.thereG_mk h1 h2 h3
    obtain ⟨a, rfl⟩ := Int.eq_ofNat_of_zero_le (a := m) (by omega)
    obtain ⟨b, rfl⟩ := Int.eq_ofNat_of_zero_le (a := n) (by omega)
    have k1 : ¬ ((a : Int) < 1) := by omega
    have k2 : ¬ ((b : Int) < (a : Int)) := by omega
    have k3 : ¬ ((512 : Int) < (b : Int)) := by omega
    have HCn := Bl.hid (fun w2 => refgcount_nat b a true w2 (by omega) (by omega) (by omega))
    have hcl := Bl.cntG_le a b true (by omega) (by omega) (by omega)
    by_cases hpl : p.length = Bl.cntG a b true
    · have HM : Hid (∀ w2, Bl.Ext w w2 → Calls Tryd.prog 55 #[.int .i64 a, .int .i64 b, .agg (Bl.ints .u8 old).toArray, .bool true, .slice pp p.length cp] w2 fun e w' => e = .returned (.tuple #[.agg (Bl.ints .u8 (Bl.madeD a b old true p).1).toArray, .agg (Bl.ints .u8 (Bl.madeD a b old true p).2).toArray]) ∧ Bl.Ext w2 w') := Bl.hid fun w2 h2 =>
        refmade_nat b a old true p _ w2 (by omega) (by omega) (by omega) ho bo (Bl.Rds.ext hp h2) hdp hpl (hg.ext h2)
      have hfd := Bl.madeD_dig a b old true p ⟨ho, bo⟩ hdp
      have HCk1 := Bl.hid (fun h => Bl.chkG_ok (m := a) (n := b) (old := old) (now := now) (p := p) hb hpl h)
      have HCk2 := Bl.hid (fun h => Bl.chkG_bad (m := a) (n := b) (old := old) (now := now) (p := p) hb hpl h)
      obtain ⟨⟨x, y⟩, hf⟩ : ∃ f, f = Bl.madeD a b old true p := ⟨_, rfl⟩
      rw [← hf] at HM hfd HCk1 HCk2
      have Hx : Hid (x.length = 32) := Bl.hid hfd.1.1
      have Hy : Hid (y.length = 32) := Bl.hid hfd.2.1
      obtain ⟨C, hC⟩ : ∃ C, C = Bl.cntG a b true := ⟨_, rfl⟩
      rw [← hC] at HCn hcl
      rw [hpl, ← hC] at hvn HM ⊢
      obtain ⟨R, hR⟩ : ∃ R, R = Bl.chkG a b old now p := ⟨_, rfl⟩
      rw [← hR] at HCk1 HCk2 ⊢
      have Ho := Bl.hid ho
      have Hn := Bl.hid hnw
      clear hp hdp hpl hf hfd hC hb hR hg ho hnw bo h1 h2 h3
      go_enter Tryd.func34, Tryd.ntmps34
      go_wp2_with fail
      generalize (w.alloc (.cells (Bl.ints .u8 old).toArray 31)).alloc (.cells (Bl.ints .u8 now).toArray 31) = W0 at HE0 HBo HBn ⊢
      refine (HCn.out W0).mono ?_
      rintro e w1 ⟨rfl, hw1⟩
      subst hw1
      go_wp2_with (with_reducible refine Bl.stop_load (ty := 31) ?_)
      refine Bl.go_on ?_
      refine Bl.wpL_load rfl (HBo.out.load Tryd.underlying31 (by kernel_rfl)) ?_
      go_wp2_with fail
      refine (HM.out W0 HE0.out).mono ?_
      rintro e w4 ⟨rfl, hE4⟩
      have HE4 := Bl.hid hE4
      clear hE4 HM
      have HDn5 := Bl.hid (Bl.Duo.new w4 31 #[.int .u8 0, .int .u8 0, .int .u8 0, .int .u8 0, .int .u8 0, .int .u8 0, .int .u8 0, .int .u8 0, .int .u8 0, .int .u8 0, .int .u8 0, .int .u8 0, .int .u8 0, .int .u8 0, .int .u8 0, .int .u8 0, .int .u8 0, .int .u8 0, .int .u8 0, .int .u8 0, .int .u8 0, .int .u8 0, .int .u8 0, .int .u8 0, .int .u8 0, .int .u8 0, .int .u8 0, .int .u8 0, .int .u8 0, .int .u8 0, .int .u8 0, .int .u8 0] rfl)
      have HDm5 := Bl.hid (HDn5.out.setA (x' := x) Hx.out)
      have HDu5 := Bl.hid (HDm5.out.setB (y' := y) Hy.out)
      have Hsa5 := Bl.hid (HDn5.out.a.store (P := Tryd.prog) (ty := 31) (d' := x) Hx.out (by kernel_rfl))
      have Hsb5 := Bl.hid (HDm5.out.b.store (P := Tryd.prog) (ty := 31) (d' := y) Hy.out (by kernel_rfl))
      have HEu5 : Hid (Bl.Ext w4 ((((w4.alloc (.cells #[.int .u8 0, .int .u8 0, .int .u8 0, .int .u8 0, .int .u8 0, .int .u8 0, .int .u8 0, .int .u8 0, .int .u8 0, .int .u8 0, .int .u8 0, .int .u8 0, .int .u8 0, .int .u8 0, .int .u8 0, .int .u8 0, .int .u8 0, .int .u8 0, .int .u8 0, .int .u8 0, .int .u8 0, .int .u8 0, .int .u8 0, .int .u8 0, .int .u8 0, .int .u8 0, .int .u8 0, .int .u8 0, .int .u8 0, .int .u8 0, .int .u8 0, .int .u8 0] 31)).alloc (.cells #[.int .u8 0, .int .u8 0, .int .u8 0, .int .u8 0, .int .u8 0, .int .u8 0, .int .u8 0, .int .u8 0, .int .u8 0, .int .u8 0, .int .u8 0, .int .u8 0, .int .u8 0, .int .u8 0, .int .u8 0, .int .u8 0, .int .u8 0, .int .u8 0, .int .u8 0, .int .u8 0, .int .u8 0, .int .u8 0, .int .u8 0, .int .u8 0, .int .u8 0, .int .u8 0, .int .u8 0, .int .u8 0, .int .u8 0, .int .u8 0, .int .u8 0, .int .u8 0] 31)).setCells w4.heap.size 0 (Bl.ints .u8 x)).setCells (w4.heap.size + 1) 0 (Bl.ints .u8 y))) := Bl.hid (Bl.below_setCells _ _ _ _ (Bl.below_setCells _ _ _ _ ((Bl.ext_alloc _ _).trans (Bl.ext_alloc _ _)) (Nat.le_refl _)) (Nat.le_succ _))
      go_wp2_with (with_reducible refine Bl.stop_store (ty := 31) ?_)
      refine Bl.go_on ?_
      refine Bl.wpL_store0 rfl rfl Hsa5.out ?_
      go_wp2_with (with_reducible refine Bl.stop_store (ty := 31) ?_)
      refine Bl.go_on ?_
      refine Bl.wpL_store0 rfl rfl Hsb5.out ?_
      obtain ⟨W5, hW5⟩ : ∃ W', W' = (((w4.alloc (.cells #[.int .u8 0, .int .u8 0, .int .u8 0, .int .u8 0, .int .u8 0, .int .u8 0, .int .u8 0, .int .u8 0, .int .u8 0, .int .u8 0, .int .u8 0, .int .u8 0, .int .u8 0, .int .u8 0, .int .u8 0, .int .u8 0, .int .u8 0, .int .u8 0, .int .u8 0, .int .u8 0, .int .u8 0, .int .u8 0, .int .u8 0, .int .u8 0, .int .u8 0, .int .u8 0, .int .u8 0, .int .u8 0, .int .u8 0, .int .u8 0, .int .u8 0, .int .u8 0] 31)).alloc (.cells #[.int .u8 0, .int .u8 0, .int .u8 0, .int .u8 0, .int .u8 0, .int .u8 0, .int .u8 0, .int .u8 0, .int .u8 0, .int .u8 0, .int .u8 0, .int .u8 0, .int .u8 0, .int .u8 0, .int .u8 0, .int .u8 0, .int .u8 0, .int .u8 0, .int .u8 0, .int .u8 0, .int .u8 0, .int .u8 0, .int .u8 0, .int .u8 0, .int .u8 0, .int .u8 0, .int .u8 0, .int .u8 0, .int .u8 0, .int .u8 0, .int .u8 0, .int .u8 0] 31)).setCells w4.heap.size 0 (Bl.ints .u8 x)).setCells (w4.heap.size + 1) 0 (Bl.ints .u8 y) := ⟨_, rfl⟩
      obtain ⟨Y5, hY5⟩ : ∃ Y', Y' = w4.heap.size + 1 := ⟨_, rfl⟩
      obtain ⟨X5, hX5⟩ : ∃ X', X' = w4.heap.size := ⟨_, rfl⟩
      rw [← hW5] at HDu5 HEu5 ⊢
      rw [← hY5] at HDu5 ⊢
      rw [← hX5] at HDu5 ⊢
      have HX5 := Bl.hid hX5
      have HY5 := Bl.hid hY5
      clear hW5 hY5 hX5 HDn5 HDm5 Hsa5 Hsb5
      have HE5 := Bl.hid (HE4.out.trans HEu5.out)
      have HE05 := Bl.hid (HE0.out.trans HE5.out)
      have Hl1 := Bl.hid (HDu5.out.a.load (P := Tryd.prog) (ty := 31) Tryd.underlying31 (by kernel_rfl))
      have Hl2 := Bl.hid ((HBo.out.ext HE5.out).load (P := Tryd.prog) (ty := 31) Tryd.underlying31 (by kernel_rfl))
      have Hl3 := Bl.hid (HDu5.out.b.load (P := Tryd.prog) (ty := 31) Tryd.underlying31 (by kernel_rfl))
      have Hl4 := Bl.hid ((HBn.out.ext HE5.out).load (P := Tryd.prog) (ty := 31) Tryd.underlying31 (by kernel_rfl))
      go_wp2_with (with_reducible refine Bl.stop_load (ty := 31) ?_)
      refine Bl.go_on ?_
      refine Bl.wpL_load rfl Hl1.out ?_
      go_wp2_with (with_reducible refine Bl.stop_load (ty := 31) ?_)
      refine Bl.go_on ?_
      refine Bl.wpL_load rfl Hl2.out ?_
      by_cases hxo : x = old
      · have heq : ∀ w, (Op.equalIn 10000 31 (.agg (Bl.ints .u8 x).toArray) (.agg (Bl.ints .u8 old).toArray)).run Tryd.prog w = .ok true w := fun w => by
          rw [Bl.eq10k Tryd.underlying31 Tryd.underlying5 (fun w => by simp [go_sem]) x old Hx.out Ho.out w, decide_eq_true hxo]
        by_cases hyn : y = now
        · have heq2 : ∀ w, (Op.equalIn 10000 31 (.agg (Bl.ints .u8 y).toArray) (.agg (Bl.ints .u8 now).toArray)).run Tryd.prog w = .ok true w := fun w => by
            rw [Bl.eq10k Tryd.underlying31 Tryd.underlying5 (fun w => by simp [go_sem]) y now Hy.out Hn.out w, decide_eq_true hyn]
          have HR : Hid (R = 0) := Bl.hid (HCk1.out (by rw [hxo, hyn]))
          clear hxo hyn HCk1 HCk2
          go_wp2_with (with_reducible refine Bl.stop_loadg (ty := 31) ?_)
          refine Bl.go_on ?_
          refine Bl.wpL_loadg rfl rfl Hl3.out ?_
          go_wp2_with (with_reducible refine Bl.stop_loadg (ty := 31) ?_)
          refine Bl.go_on ?_
          refine Bl.wpL_loadg rfl rfl Hl4.out ?_
          go_wp2_with fail
          go_ret
          exact ⟨by rw [HR.out]; rfl, HE05.out⟩
        · have heq2 : ∀ w, (Op.equalIn 10000 31 (.agg (Bl.ints .u8 y).toArray) (.agg (Bl.ints .u8 now).toArray)).run Tryd.prog w = .ok false w := fun w => by
            rw [Bl.eq10k Tryd.underlying31 Tryd.underlying5 (fun w => by simp [go_sem]) y now Hy.out Hn.out w, decide_eq_false hyn]
          have HR : Hid (R = 15) := Bl.hid (HCk2.out (fun q => hyn (by injection q)))
          clear hxo hyn HCk1 HCk2
          go_wp2_with (with_reducible refine Bl.stop_loadg (ty := 31) ?_)
          refine Bl.go_on ?_
          refine Bl.wpL_loadg rfl rfl Hl3.out ?_
          go_wp2_with (with_reducible refine Bl.stop_loadg (ty := 31) ?_)
          refine Bl.go_on ?_
          refine Bl.wpL_loadg rfl rfl Hl4.out ?_
          go_wp2_with fail
          go_ret
          exact ⟨by rw [HR.out]; rfl, HE05.out⟩
      · have heq : ∀ w, (Op.equalIn 10000 31 (.agg (Bl.ints .u8 x).toArray) (.agg (Bl.ints .u8 old).toArray)).run Tryd.prog w = .ok false w := fun w => by
          rw [Bl.eq10k Tryd.underlying31 Tryd.underlying5 (fun w => by simp [go_sem]) x old Hx.out Ho.out w, decide_eq_false hxo]
        have HR : Hid (R = 15) := Bl.hid (HCk2.out (fun q => hxo (by injection q)))
        clear hxo HCk1 HCk2
        go_wp2_with fail
        go_ret
        exact ⟨by rw [HR.out]; rfl, HE05.out⟩
    · have HL := Bl.hid (Bl.chkG_size (m := a) (n := b) (old := old) (now := now) hb hpl)
      obtain ⟨C, hC⟩ : ∃ C, C = Bl.cntG a b true := ⟨_, rfl⟩
      rw [← hC] at HCn hcl hpl
      have hne : ((p.length : Int) == (C : Int)) = false := by rw [beq_eq_false_iff_ne]; omega
      clear hp hdp hpl hC hb hg
      go_enter Tryd.func34, Tryd.ntmps34
      go_wp2_with fail
      refine (HCn.out _).mono ?_
      rintro e w1 ⟨rfl, hw1⟩
      subst hw1
      go_wp2_with fail
      go_ret
      exact ⟨by rw [HL.out]; rfl, HE0.out⟩
  · have HL := Bl.hid (Bl.chkG_no (old := old) (now := now) (p := p) (Bl.thereG_no h))
    clear hp hdp hg
    by_cases h1 : m < 1
    · clear h
      go_enter Tryd.func34, Tryd.ntmps34
      go_wp2_with fail
      go_ret
      exact ⟨by rw [HL.out]; rfl, HE0.out⟩
    · by_cases h2 : n < m
      · clear h
        go_enter Tryd.func34, Tryd.ntmps34
        go_wp2_with fail
        go_ret
        exact ⟨by rw [HL.out]; rfl, HE0.out⟩
      · have h3 : 512 < n := by omega
        clear h
        go_enter Tryd.func34, Tryd.ntmps34
        go_wp2_with fail
        go_ret
        exact ⟨by rw [HL.out]; rfl, HE0.out⟩
end Go.Proofs.YtmfooocdnoflaaaDoor

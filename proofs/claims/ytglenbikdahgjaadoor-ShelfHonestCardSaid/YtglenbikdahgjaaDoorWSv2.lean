/- Walks of shelf.put. -/
import Derived.Test.YtglenbikdahgjaaDoorWns
import Derived.Test.YtglenbikdahgjaaDoorShr
import Derived.Test.YtglenbikdahgjaaDoorLet1
import Derived.Test.YtglenbikdahgjaaDoorLpb
import Derived.Test.YtglenbikdahgjaaDoorChg
namespace Go.Proofs.Bl
open Go Go.RowKit
theorem SvR.wide {N Q : Nat → Prop} {w : World} {b m sb : Nat} {mp : List (Int × Value)} {s : ShT} (h : SvR N Q w b m sb mp s) : SvR (fun i => N i ∨ w.heap.size ≤ i) Q w b m sb mp s :=
  h.kept (Q2 := fun _ => False) (Kq.refl w) (fun _ q => q.elim) fun _ q => q
theorem SvR.fin {N Q : Nat → Prop} {w w1 w' : World} {b m sb : Nat} {mp : List (Int × Value)} {s : ShT} {X : Nat} (h : SvR (fun i => N i ∨ w.heap.size ≤ i) Q w1 b m sb mp s) (hNQ : ∀ i, Q i → N i) (hNl : ∀ i, N i → i < w.heap.size) (hk : Kq Q w w1) (k : Kq (fun i => i = X) w1 w') (hX : w.heap.size ≤ X) (hlow : ∀ i, (Q i ∨ i = b) → i < w.heap.size) : SvGo N Q w w' b s := by
  have hk2 : Kq Q w w' := by
    have h1 : Kq (fun i => Q i ∨ i = X) w w' := (hk.mono fun i _ q => .inl q).trans (k.mono fun i _ q => .inr q)
    exact h1.mono fun i hi q => by
      rcases q with q | q
      · exact q
      · omega
  exact ⟨hk2, N, Q, ⟨m, sb, mp, h.kept k (fun i q => ⟨.inr (by omega), fun r => by have := hlow i (.inl r); omega, fun r => by have := hlow i (.inr r); omega⟩) fun i q => .inl (.inl q)⟩, fun i q => .inl q, fun i q => q, fun i q => q, hNQ, fun i q => .inl q, fun i q => Nat.lt_of_lt_of_le (hNl i q) hk2.size⟩
/-- rows apart, by their value -/
def ApV2 (ps : List (List Int)) (B : Nat) (v : Value) (w' : World) : Prop := ∃ (g : Nat) (M : List Bv), v = .slice (some ⟨g, 0, none⟩) ps.length ps.length ∧ B ≤ g ∧ Pk w' g 1 v M.length (cellsR cB M) ∧ (∀ y ∈ M, OkB (fun k => g < k) w' y) ∧ M.map (·.2) = ps ∧ g < w'.heap.size
/-- a letter whose rows lie where N does not hold -/
def LtW (N : Nat → Prop) (w : World) (v : Value) (l : LT) : Prop := ∃ vp vs vb L, v = .agg (cL l vp vs vb).toArray ∧ LtF (fun k => ¬ N k) w l vp vs vb L
theorem LtW.ltv {N : Nat → Prop} {w : World} {v : Value} {l : LT} (h : LtW N w v l) : LtV w v l := by
  obtain ⟨vp, vs, vb, L, rfl, hF⟩ := h
  exact ⟨_, vp, vs, vb, L, rfl, hF.ltc⟩
theorem LtW.kept {N N' : Nat → Prop} {w w' : World} {v : Value} {l : LT} (h : LtW N w v l) (hk : ∀ k, ¬ N k → k < w.heap.size → ¬ N' k ∧ w'.heap[k]? = w.heap[k]?) : LtW N' w' v l := by
  obtain ⟨vp, vs, vb, L, rfl, hF⟩ := h
  exact ⟨vp, vs, vb, L, rfl, hF.kept hk⟩
end Go.Proofs.Bl
namespace Go.Proofs.YtglenbikdahgjaaDoor
open Go Go.RowKit Go.Proofs

set_option maxRecDepth 100000 in
set_option maxHeartbeats 4000000 in
theorem sput_some (b : Nat) (N Q : Nat → Prop) (s : Bl.ShT) (v : Value) (l : Bl.LT) (w : World) (hS : Bl.SvX N Q w b s) (hNQ : ∀ i, Q i → N i) (hNl : ∀ i, N i → i < w.heap.size) (hL : Bl.LtW N w v l) (hc : Bl.chkL l = 0) (hk : l.kind = 1) (st : List (List Int)) (hg : Bl.getO s l.obj = some st) :
    Calls Tryd.prog 20 #[.pointer (some ⟨b, 0, none⟩), v] w fun e w' => e = .returned (.agg (Bl.cL (Bl.putL s l) Bl.nilV Bl.nilV Bl.nilV).toArray) ∧ Bl.SvGo N Q w w' b (Bl.putS s l) := by
  obtain ⟨vp, vs, vb, L, rfl, hLf⟩ := hL
  have hcc := hLf.ltc
  obtain ⟨m, sb, mp, hRw⟩ := hS
  have hR := hRw.wide
  have hbl := hcc.bl
  have hbb := hcc.by'
  obtain ⟨pb, cb, hvb, _, _⟩ := Bl.Rdss.form hbl
  subst hvb
  obtain ⟨W1, hW1⟩ : ∃ W1, W1 = (w.alloc (.cells (Bl.cL l vp vs (.slice pb l.blocks.length cb)).toArray 26)).alloc (.cells Bl.zL 26) := ⟨_, rfl⟩
  have hE0 := Bl.ext_alloc w (.cells (Bl.cL l vp vs (.slice pb l.blocks.length cb)).toArray 26)
  have hE1 := hE0.trans (Bl.ext_alloc (w.alloc (.cells (Bl.cL l vp vs (.slice pb l.blocks.length cb)).toArray 26)) (.cells Bl.zL 26))
  have hBl : Bl.BoxC W1 w.heap.size (Bl.cL l vp vs (.slice pb l.blocks.length cb)) := by rw [hW1]; exact (Bl.BoxC.box w 26 (Bl.cL_ne _ _ _ _)).ext (Bl.ext_alloc _ _)
  have hBr : Bl.BoxC W1 (w.heap.size + 1) Bl.zL.toList := by rw [hW1]; exact Bl.box2 w _ Bl.zL.toList _ _ (fun h => by cases h)
  rw [← hW1] at hE1
  obtain ⟨hBk, hEk⟩ := Bl.BoxC.fresh (cs := Bl.cL (Bl.ackL l) Bl.nilV Bl.nilV Bl.nilV) W1 26 Bl.zL rfl (Bl.cL_ne _ _ _ _)
  have Hstk := Bl.hid (Bl.fresh_store (P := Tryd.prog) (cs := Bl.cL (Bl.ackL l) Bl.nilV Bl.nilV Bl.nilV) W1 26 Bl.zL rfl (Bl.cL_one ⟨_, _, _, rfl⟩ ⟨_, _, _, rfl⟩ ⟨_, _, _, rfl⟩) (ty := 26) (by kernel_rfl))
  obtain ⟨W2, hW2⟩ : ∃ W2, W2 = (W1.alloc (.cells Bl.zL 26)).setCells W1.heap.size 0 (Bl.cL (Bl.ackL l) Bl.nilV Bl.nilV Bl.nilV) := ⟨_, rfl⟩
  rw [← hW2] at hBk hEk
  have hsz1 : W1.heap.size = w.heap.size + 1 + 1 := by rw [hW1, World.size_alloc, World.size_alloc]
  obtain ⟨A0, hA0⟩ : ∃ A0, A0 = w.heap.size + 1 + 1 := ⟨_, rfl⟩
  rw [hsz1, ← hA0] at hW2 hBk Hstk
  have hs1 := hBr.lt
  obtain ⟨R0, hR0⟩ : ∃ R0, R0 = w.heap.size + 1 := ⟨_, rfl⟩
  obtain ⟨P0, hP0⟩ : ∃ P0, P0 = w.heap.size := ⟨_, rfl⟩
  rw [← hR0] at hBr hs1
  rw [← hP0] at hBl
  have HE2 : Hid (Bl.Ext w W2) := Bl.hid (hE1.trans hEk)
  have HBk := Bl.hid hBk
  have HBl := Bl.hid (hBl.ext hEk)
  have HBr := Bl.hid (hBr.ext hEk)
  have HR := Bl.hid (hR.ext HE2.out)
  have HA0 := Bl.hid hA0
  have Hn : Hid (P0 = w.heap.size ∧ R0 = w.heap.size + 1 ∧ R0 < A0 ∧ w.heap.size ≤ A0) := Bl.hid ⟨hP0, hR0, by omega, by omega⟩
  have Hlow : Hid (∀ i, (Q i ∨ i = b) → i < w.heap.size) := Bl.hid fun i hi => by
    rcases hi with q | q
    · exact hR.sz i q
    · rw [q]; exact hR.bx.lt
  have HNQ := Bl.hid hNQ
  have HNl := Bl.hid hNl
  have HNQ1 : Hid (∀ i, Q i → (N i ∨ w.heap.size ≤ i)) := Bl.hid fun i q => .inl (hNQ i q)
  have HLf : Hid (Bl.LtF (fun k => ¬ (N k ∨ w.heap.size ≤ k)) W2 l vp vs (.slice pb l.blocks.length cb) L) := Bl.hid (hLf.kept fun b hb hl => ⟨fun q => by
    rcases q with q | q
    · exact hb q
    · omega, HE2.out.block b hl⟩)
  have Hbl := Bl.hid (And.intro hbl hbb)
  have Hbo := Bl.hid (Bl.put_st hc hk hbb)
  obtain ⟨v0, hgm, hrow⟩ := hR.some hg
  obtain ⟨p0, c0, hv0, _, _⟩ := Bl.Rdss.form hrow.rdss
  subst hv0
  have HrS : Hid (∀ w2, Bl.SvR (fun i => N i ∨ w.heap.size ≤ i) Q w2 b m sb mp ⟨s.objs, Bl.idsL s l⟩ → Bl.Rdss w2 (.slice p0 st.length c0) st ∧ ∀ x ∈ st, Bl.Byt x) := Bl.hid fun w2 h2 => by
    obtain ⟨st', h3, h4⟩ := h2.row hgm
    have : st' = st := by
      have h5 : Bl.getO s l.obj = some st' := h3
      rw [hg] at h5; exact (Option.some.inj h5).symm
    subst this
    exact ⟨h4.rdss, h4.byt⟩
  have HpS : Hid (Bl.putS s l = ⟨s.objs, Bl.idsL s l⟩) := Bl.hid (by unfold Bl.putS; rw [hg])
  have HpA : Hid ((Bl.freI s.ids l.id = false ∨ st = l.blocks) → Bl.putL s l = Bl.ackL l) := Bl.hid fun q => by
    unfold Bl.putL; rw [hg]; simp only; rw [if_pos q]
  have HpR : Hid (Bl.freI s.ids l.id = true → ¬ st = l.blocks → Bl.putL s l = Bl.refL l 10) := Bl.hid fun q1 q2 => by
    unfold Bl.putL; rw [hg]; simp only; rw [if_neg (by rw [q1]; simp [q2])]; rfl
  have hb0 := HR.out.bx.cell (i := 0) (v := .map (some m)) rfl
  have hbl0 := HR.out.bx.lt
  have hx2 := HBl.out.cell (i := 2) (v := .int .i64 l.obj) rfl
  have hxl := HBl.out.lt
  have Hlk : Hid (∀ w2, Bl.Ext W2 w2 → (Instr.lookup 56 (.map (some m)) (.int .i64 l.obj) true).run Tryd.prog w2 = .ok (.tuple #[.slice p0 st.length c0, .bool true]) w2) := Bl.hid fun w2 h2 => by
    have hz : (zeroValue 24).run Tryd.prog w2 = .ok (.slice none 0 0) w2 := by first | rfl | kernel_rfl | (simp [go_sem]; done)
    have h := (HR.out.mt.ext h2).lookup (P := Tryd.prog) Tryd.underlying56 Tryd.underlying3 hz l.obj
    rw [hgm] at h
    exact h
  have Hsn := Bl.hid HR.out.sn
  obtain ⟨any, g, c, hsB, hsS⟩ := Hsn.out
  have HsB := Bl.hid (And.intro hsB hsS)
  have Hq2 : Hid (∀ w2, Bl.Kq (fun k => k = sb) W2 w2 → w2.cell? ⟨b, 1, none⟩ = some (.pointer (some ⟨sb, 0, none⟩)) ∧ w2.cell? ⟨P0, 1, none⟩ = some (.int .i64 l.id)) := Bl.hid fun w2 hK => by
    have h1 := hK.box (X := b) (fun q => HR.out.qb (q ▸ HR.out.qs)) HR.out.bx
    have h2 := hK.box (X := P0) (fun q => by have := Hlow.out sb (.inl HR.out.qs); have := Hn.out; omega) HBl.out
    exact ⟨h1.cell (i := 1) rfl, h2.cell (i := 1) rfl⟩
  obtain ⟨F, hF⟩ : ∃ F, F = Bl.freI s.ids l.id := ⟨_, rfl⟩
  have HF := Bl.hid hF
  have HFr : Hid (∀ w2, Bl.BoxC w2 sb [.bool any, .int .i64 g, .int .u64 (c : Nat)] → Calls Tryd.prog 32 #[.pointer (some ⟨sb, 0, none⟩), .int .i64 l.id] w2 fun e w' => e = .returned (.bool F) ∧ SnR sb s.ids l.id w2 w') := Bl.hid fun w2 h2 => by
    have h := nfresh_any sb any g c s.ids l.id w2 h2 hsS
    rw [← hF] at h
    exact h
  obtain ⟨oj, hoj⟩ : ∃ oj, oj = l.obj := ⟨_, rfl⟩
  obtain ⟨li, hli⟩ : ∃ li, li = l.id := ⟨_, rfl⟩
  have Hoj := Bl.hid (And.intro hoj hli)
  rw [← hli] at HFr Hq2
  rw [← hoj] at Hlk hx2
  unfold Bl.cL at hW1
  clear hcc hLf hRw hbl hbb hE0 hE1 hBl hBr hBk hEk hs1 hA0 hsz1 hR0 hP0 hR hNQ hNl hc hk hsB hsS hF Hsn hoj hli hgm hg hrow
  show Calls Tryd.prog 20 #[.pointer (some ⟨b, 0, none⟩), .agg #[.int .i64 l.kind, .int .i64 l.id, .int .i64 l.obj, vp, vs, .int .i64 l.frm, .int .i64 l.cnt, .slice pb l.blocks.length cb, .int .i64 l.code]] w _
  go_enter Tryd.func20, Tryd.ntmps20
  go_wp2_with (with_reducible refine Bl.stop_store (ty := 26) ?_)
  rw [← hW1]
  rw [show w.heap.size + 1 + 1 = A0 from HA0.out.symm, show w.heap.size + 1 = R0 from Hn.out.2.1.symm, show w.heap.size = P0 from Hn.out.1.symm]
  refine Bl.go_on ?_
  refine Bl.wpL_store0 rfl rfl Hstk.out ?_
  rw [← hW2]
  clear hW1 hW2 Hstk
  go_wp2_with fail
  apply Bl.wp_region_evK (Bl.Ext) (fun _ _ _ => True) 12 [15, 16, 17, 18, 19, 20, 21, 14, 22, 23, 6, 7] [Bl.eqv _, Bl.eqv _, Bl.eqv _, Bl.eqv _, Bl.eqv _, Bl.eqv _, Bl.eqv _, Bl.eqv _, Bl.eqv _, Bl.eqv _, Bl.eqv _, Bl.eqv _] (fun w => Below.refl _ w) (fun a b c h k => Bl.Ext.trans h k) (by kernel_rfl) (by kernel_rfl) (by kernel_rfl) (by kernel_rfl)
  case hsteps =>
    refine ⟨?_, ?_, ?_, ?_, ?_, ?_, ?_, ?_, ?_, ?_, ?_, ?_, trivial⟩
    all_goals
      intro d ev w1 hext HJd Hanc Hdes hni hb hd
      replace Hanc := Bl.hid Hanc
      replace HJd := Bl.hid HJd
      replace Hdes := Bl.hid Hdes
      replace hni := Bl.hid hni
      have e0 := hb 0 (by decide)
      have e3 := hb 3 (by decide)
      clear hb
      simp only [Array.getD_eq_getD_getElem?, List.getElem?_toArray, List.getElem?_cons_succ, List.getElem?_cons_zero, Option.getD_some] at e0 e3
      simp only [Bl.DepsE2, List.getElem?_cons_succ, List.getElem?_cons_zero, Option.bind_some, List.getD_cons_succ, List.getD_cons_zero, Bl.eqv, and_true] at hd
      have hc := (Bl.bcell hext).1
      have c0 := (hc _ 0 hbl0).trans hb0
      have c2 := (hc _ 2 hxl).trans hx2
      have lk := Hlk.out _ hext
      simp only [Region.wanted, if_true]
      go_simp
      first | exact ⟨Below.refl _ _, rfl, trivial⟩ | exact ⟨Below.refl _ _, rfl⟩ | exact Below.refl _ _
  case hmono => exact ⟨Bl.monoR_eqv _, Bl.monoR_eqv _, Bl.monoR_eqv _, Bl.monoR_eqv _, Bl.monoR_eqv _, Bl.monoR_eqv _, Bl.monoR_eqv _, Bl.monoR_eqv _, Bl.monoR_eqv _, Bl.monoR_eqv _, Bl.monoR_eqv _, Bl.monoR_eqv _, trivial⟩
  case hR0 => exact (Below.refl _ _).drew
  case hend =>
    intro u w1 hext hJ hend
    simp only [Bl.EndE, List.getElem?_cons_succ, List.getElem?_cons_zero, Option.bind_some, List.getD_cons_succ, List.getD_cons_zero, Bl.eqv, true_and] at hend
    simp only [Bl.fillAct, List.setIfInBounds_toArray, List.set_cons_succ, List.set_cons_zero, List.drop_succ_cons, List.drop_zero, hend]
    have HX3 := Bl.hid hext
    have hsb3 := HsB.out.1.ext hext
    have HSb3 := Bl.hid hsb3
    obtain ⟨W3, hW3⟩ : ∃ W3, W3 = w1 := ⟨_, rfl⟩
    rw [← hW3] at HX3 HSb3 ⊢
    clear hext hend hJ hb0 hbl0 hx2 hxl Hlk hsb3 hW3
    go_wp2_with fail
    apply Bl.wp_region_evK (Bl.Kq (fun k => k = sb)) (Bl.HJ 6 (fun w' => Bl.BoxC w' sb [.bool any, .int .i64 g, .int .u64 (c : Nat)]) (fun w' => SnB sb s.ids li w')) 7 [24, 25, 26, 27, 28, 29, 30] [Bl.eqv _, Bl.eqv _, Bl.eqv _, Bl.eqv _, Bl.eqv _, Bl.eqv _, Bl.eqv _] (fun w => Bl.Kq.refl w) (fun a b c h k => Bl.Kq.trans h k) (by kernel_rfl) (by kernel_rfl) (by kernel_rfl) (by kernel_rfl)
    case hsteps =>
      refine ⟨?_, ?_, ?_, ?_, ?_, ?_, ?_, trivial⟩
      all_goals
        intro d ev w1 hext HJd Hanc Hdes hni hb hd
        replace Hanc := Bl.hid Hanc
        replace HJd := Bl.hid HJd
        replace Hdes := Bl.hid Hdes
        replace hni := Bl.hid hni
        have e0 := hb 0 (by decide)
        have e3 := hb 3 (by decide)
        clear hb
        simp only [Array.getD_eq_getD_getElem?, List.getElem?_toArray, List.getElem?_cons_succ, List.getElem?_cons_zero, Option.getD_some] at e0 e3
        simp only [Bl.DepsE2, List.getElem?_cons_succ, List.getElem?_cons_zero, Option.bind_some, List.getD_cons_succ, List.getD_cons_zero, Bl.eqv, and_true] at hd
        have q3 := Hq2.out _ ((Bl.Kq.of_ext HX3.out).trans hext)
        have c0 := q3.1
        have c1 := q3.2
        clear q3
        rw [if_pos (rfl : Region.wanted _ _ = true)]
        go_simp
        first | exact ⟨Bl.Kq.refl _, rfl, Bl.HJ.same (by decide) HJd.out⟩ | (go_at_call 32; (with_reducible refine (HFr.out w1 (Bl.HJ.get HJd.out hni.out)).mono ?_); rintro e w2 ⟨rfl, k1⟩; exact ⟨_, rfl, k1.2, rfl, Bl.HJ.set k1.1⟩) | exact ⟨Below.refl _ _, rfl, Bl.HJ.same (by decide) HJd.out⟩
    case hmono => exact ⟨Bl.monoR_eqv _, Bl.monoR_eqv _, Bl.monoR_eqv _, Bl.monoR_eqv _, Bl.monoR_eqv _, Bl.monoR_eqv _, Bl.monoR_eqv _, trivial⟩
    case hR0 => exact Bl.Kq.drew _
    case hend =>
      intro u w1 hext hJ hend
      simp only [Bl.EndE, List.getElem?_cons_succ, List.getElem?_cons_zero, Option.bind_some, List.getD_cons_succ, List.getD_cons_zero, Bl.eqv, true_and] at hend
      simp only [Bl.fillAct, List.setIfInBounds_toArray, List.set_cons_succ, List.set_cons_zero, List.drop_succ_cons, List.drop_zero, hend]
      have hJ2 := Bl.HJ.got hJ rfl
      have HKs : Hid (Bl.Kq (fun k => k = sb) W2 w1) := Bl.hid ((Bl.Kq.of_ext HX3.out).trans hext)
      obtain ⟨any', g', c', k1, k2⟩ := hJ2
      rw [Hoj.out.2] at k2
      have HR4 : Hid (Bl.SvR (fun i => N i ∨ w.heap.size ≤ i) Q w1 b m sb mp ⟨s.objs, Bl.idsL s l⟩) := Bl.hid (HR.out.ids HNQ1.out HKs.out k1 k2)
      have HE4 : Hid (Bl.Kq Q w w1) := Bl.hid ((Bl.Kq.of_ext HE2.out).trans (HKs.out.mono fun i _ q => q ▸ HR.out.qs))
      have hne : ∀ X, w.heap.size ≤ X → X ≠ sb := fun X hX q => by have := Hlow.out sb (.inl HR.out.qs); omega
      have HBk4 := Bl.hid (HKs.out.box (hne A0 Hn.out.2.2.2) HBk.out)
      have HBl4 := Bl.hid (HKs.out.box (hne P0 (by rw [Hn.out.1]; exact Nat.le_refl _)) HBl.out)
      have HBr4 := Bl.hid (HKs.out.box (hne R0 (by rw [Hn.out.2.1]; omega)) HBr.out)
      have HL4 : Hid (Bl.LtC w1 (Bl.cL l vp vs (.slice pb l.blocks.length cb)) l vp vs (.slice pb l.blocks.length cb) L) := Bl.hid (Bl.LtF.ltc (HLf.out.kept (F' := fun _ => True) fun i hi hl => ⟨trivial, HKs.out.block i hl fun q => hi (HNQ1.out i (q ▸ HR.out.qs))⟩))
      obtain ⟨W4, hW4⟩ : ∃ W4, W4 = w1 := ⟨_, rfl⟩
      rw [← hW4] at HR4 HE4 HBk4 HBl4 HBr4 HL4 ⊢
      clear hext hend hJ hne k1 k2 HSb3 HX3 HKs HBk HBl HBr Hq2 HFr hW4
      cases F
      · have HBk5 := HBk4
        have HBr5 := HBr4
        have Hlk5 := Bl.hid (HBk5.out.load (P := Tryd.prog) Tryd.underlying26 rfl (by kernel_rfl))
        have Hst5 := Bl.hid (HBr5.out.store (P := Tryd.prog) (cs' := Bl.cL (Bl.ackL l) Bl.nilV Bl.nilV Bl.nilV) rfl (Bl.cL_one ⟨_, _, _, rfl⟩ ⟨_, _, _, rfl⟩ ⟨_, _, _, rfl⟩) (ty := 26) (by kernel_rfl))
        have HBr6 := Bl.hid (HBr5.out.set (cs' := Bl.cL (Bl.ackL l) Bl.nilV Bl.nilV Bl.nilV) rfl)
        have HK6 : Hid (Bl.Kq (fun k => k = R0) W4 (W4.setCells R0 0 (Bl.cL (Bl.ackL l) Bl.nilV Bl.nilV Bl.nilV))) := Bl.hid ((Bl.Kq.refl W4).setCells (Q := fun k => k = R0) rfl 0 _)
        go_wp2_with (with_reducible refine Bl.stop_load (ty := 26) ?_)
        refine Bl.go_on ?_
        refine Bl.wpL_load rfl Hlk5.out ?_
        go_wp2_with (with_reducible refine Bl.stop_store (ty := 26) ?_)
        refine Bl.go_on ?_
        refine Bl.wpL_store0 rfl rfl Hst5.out ?_
        go_wp2_with fail
        refine bodyPost_ret (v := .agg (Bl.cL (Bl.ackL l) Bl.nilV Bl.nilV Bl.nilV).toArray) (Bl.results_cell rfl rfl (HBr6.out.loadVar (P := Tryd.prog) Tryd.underlying26 rfl (by kernel_rfl))) rfl ⟨?_, ?_⟩
        · rw [HpA.out (.inl HF.out.symm)]
        · rw [HpS.out]
          exact HR4.out.fin HNQ.out HNl.out HE4.out HK6.out (by rw [Hn.out.2.1]; omega) Hlow.out
      · have q7 := HBl4.out.cell (i := 7) (v := .slice pb l.blocks.length cb) rfl
        go_wp2_with fail
        refine (eqfB_any (.slice p0 st.length c0) (.slice pb l.blocks.length cb) st l.blocks W4 (HrS.out _ HR4.out).1 HL4.out.bl (HrS.out _ HR4.out).2 HL4.out.by').mono ?_
        rintro e W5 ⟨rfl, hE5⟩
        obtain ⟨D, hD⟩ : ∃ D, D = decide (st = l.blocks) := ⟨_, rfl⟩
        have HD := Bl.hid hD
        rw [← hD]
        have HBk5 := Bl.hid (HBk4.out.ext hE5)
        have HBl5 := Bl.hid (HBl4.out.ext hE5)
        have HBr5 := Bl.hid (HBr4.out.ext hE5)
        have HR5 := Bl.hid (HR4.out.ext hE5)
        have HE5 : Hid (Bl.Kq Q w W5) := Bl.hid (HE4.out.trans (Bl.Kq.of_ext hE5))
        have HL5 : Hid (Bl.LtV W5 (.agg (Bl.cL l vp vs (.slice pb l.blocks.length cb)).toArray) l) := Bl.hid ⟨_, vp, vs, _, L, rfl, HL4.out.ext hE5⟩
        clear hE5 hD q7
        cases D
        · have Hll5 := Bl.hid (HBl5.out.load (P := Tryd.prog) Tryd.underlying26 rfl (by kernel_rfl))
          go_wp2_with (with_reducible refine Bl.stop_load (ty := 26) ?_)
          refine Bl.go_on ?_
          refine Bl.wpL_load rfl Hll5.out ?_
          go_wp2_with fail
          refine (refusal_any _ l 10 W5 HL5.out).mono ?_
          rintro e w6 ⟨rfl, hE6⟩
          have HE6 := Bl.hid hE6
          have HBr6 := Bl.hid (HBr5.out.ext hE6)
          clear hE6
          have Hst6 := Bl.hid (HBr6.out.store (P := Tryd.prog) (cs' := Bl.cL (Bl.refL l 10) Bl.nilV Bl.nilV Bl.nilV) rfl (Bl.cL_one ⟨_, _, _, rfl⟩ ⟨_, _, _, rfl⟩ ⟨_, _, _, rfl⟩) (ty := 26) (by kernel_rfl))
          have HBr7 := Bl.hid (HBr6.out.set (cs' := Bl.cL (Bl.refL l 10) Bl.nilV Bl.nilV Bl.nilV) rfl)
          have HK7 : Hid (Bl.Kq (fun k => k = R0) w6 (w6.setCells R0 0 (Bl.cL (Bl.refL l 10) Bl.nilV Bl.nilV Bl.nilV))) := Bl.hid ((Bl.Kq.refl w6).setCells (Q := fun k => k = R0) rfl 0 _)
          go_wp2_with (with_reducible refine Bl.stop_store (ty := 26) ?_)
          refine Bl.go_on ?_
          refine Bl.wpL_store0 rfl rfl Hst6.out ?_
          go_wp2_with fail
          refine bodyPost_ret (v := .agg (Bl.cL (Bl.refL l 10) Bl.nilV Bl.nilV Bl.nilV).toArray) (Bl.results_cell rfl rfl (HBr7.out.loadVar (P := Tryd.prog) Tryd.underlying26 rfl (by kernel_rfl))) rfl ⟨?_, ?_⟩
          · rw [HpR.out HF.out.symm (of_decide_eq_false HD.out.symm)]
          · rw [HpS.out]
            exact (HR5.out.ext HE6.out).fin HNQ.out HNl.out (HE5.out.trans (Bl.Kq.of_ext HE6.out)) HK7.out (by rw [Hn.out.2.1]; omega) Hlow.out
        · have Hlk5 := Bl.hid (HBk5.out.load (P := Tryd.prog) Tryd.underlying26 rfl (by kernel_rfl))
          have Hst5 := Bl.hid (HBr5.out.store (P := Tryd.prog) (cs' := Bl.cL (Bl.ackL l) Bl.nilV Bl.nilV Bl.nilV) rfl (Bl.cL_one ⟨_, _, _, rfl⟩ ⟨_, _, _, rfl⟩ ⟨_, _, _, rfl⟩) (ty := 26) (by kernel_rfl))
          have HBr6 := Bl.hid (HBr5.out.set (cs' := Bl.cL (Bl.ackL l) Bl.nilV Bl.nilV Bl.nilV) rfl)
          have HK6 : Hid (Bl.Kq (fun k => k = R0) W5 (W5.setCells R0 0 (Bl.cL (Bl.ackL l) Bl.nilV Bl.nilV Bl.nilV))) := Bl.hid ((Bl.Kq.refl W5).setCells (Q := fun k => k = R0) rfl 0 _)
          go_wp2_with (with_reducible refine Bl.stop_load (ty := 26) ?_)
          refine Bl.go_on ?_
          refine Bl.wpL_load rfl Hlk5.out ?_
          go_wp2_with (with_reducible refine Bl.stop_store (ty := 26) ?_)
          refine Bl.go_on ?_
          refine Bl.wpL_store0 rfl rfl Hst5.out ?_
          go_wp2_with fail
          refine bodyPost_ret (v := .agg (Bl.cL (Bl.ackL l) Bl.nilV Bl.nilV Bl.nilV).toArray) (Bl.results_cell rfl rfl (HBr6.out.loadVar (P := Tryd.prog) Tryd.underlying26 rfl (by kernel_rfl))) rfl ⟨?_, ?_⟩
          · rw [HpA.out (.inr (of_decide_eq_true HD.out.symm))]
          · rw [HpS.out]
            exact HR5.out.fin HNQ.out HNl.out HE5.out HK6.out (by rw [Hn.out.2.1]; omega) Hlow.out
    case hJ0 => exact Bl.HJ.start (HSb3.out.ext (Below.refl _ _).drew)
  case hJ0 => trivial

set_option maxRecDepth 100000 in
set_option maxHeartbeats 4000000 in
theorem sput_none (b : Nat) (N Q : Nat → Prop) (s : Bl.ShT) (v : Value) (l : Bl.LT) (w : World) (hS : Bl.SvX N Q w b s) (hNQ : ∀ i, Q i → N i) (hNl : ∀ i, N i → i < w.heap.size) (hL : Bl.LtW N w v l) (hc : Bl.chkL l = 0) (hk : l.kind = 1) (hg : Bl.getO s l.obj = none) :
    Calls Tryd.prog 20 #[.pointer (some ⟨b, 0, none⟩), v] w fun e w' => e = .returned (.agg (Bl.cL (Bl.putL s l) Bl.nilV Bl.nilV Bl.nilV).toArray) ∧ Bl.SvGo N Q w w' b (Bl.putS s l) := by
  obtain ⟨vp, vs, vb, L, rfl, hLf⟩ := hL
  have hcc := hLf.ltc
  obtain ⟨m, sb, mp, hRw⟩ := hS
  have hR := hRw.wide
  have hbl := hcc.bl
  have hbb := hcc.by'
  obtain ⟨pb, cb, hvb, _, _⟩ := Bl.Rdss.form hbl
  subst hvb
  obtain ⟨W1, hW1⟩ : ∃ W1, W1 = (w.alloc (.cells (Bl.cL l vp vs (.slice pb l.blocks.length cb)).toArray 26)).alloc (.cells Bl.zL 26) := ⟨_, rfl⟩
  have hE0 := Bl.ext_alloc w (.cells (Bl.cL l vp vs (.slice pb l.blocks.length cb)).toArray 26)
  have hE1 := hE0.trans (Bl.ext_alloc (w.alloc (.cells (Bl.cL l vp vs (.slice pb l.blocks.length cb)).toArray 26)) (.cells Bl.zL 26))
  have hBl : Bl.BoxC W1 w.heap.size (Bl.cL l vp vs (.slice pb l.blocks.length cb)) := by rw [hW1]; exact (Bl.BoxC.box w 26 (Bl.cL_ne _ _ _ _)).ext (Bl.ext_alloc _ _)
  have hBr : Bl.BoxC W1 (w.heap.size + 1) Bl.zL.toList := by rw [hW1]; exact Bl.box2 w _ Bl.zL.toList _ _ (fun h => by cases h)
  rw [← hW1] at hE1
  obtain ⟨hBk, hEk⟩ := Bl.BoxC.fresh (cs := Bl.cL (Bl.ackL l) Bl.nilV Bl.nilV Bl.nilV) W1 26 Bl.zL rfl (Bl.cL_ne _ _ _ _)
  have Hstk := Bl.hid (Bl.fresh_store (P := Tryd.prog) (cs := Bl.cL (Bl.ackL l) Bl.nilV Bl.nilV Bl.nilV) W1 26 Bl.zL rfl (Bl.cL_one ⟨_, _, _, rfl⟩ ⟨_, _, _, rfl⟩ ⟨_, _, _, rfl⟩) (ty := 26) (by kernel_rfl))
  obtain ⟨W2, hW2⟩ : ∃ W2, W2 = (W1.alloc (.cells Bl.zL 26)).setCells W1.heap.size 0 (Bl.cL (Bl.ackL l) Bl.nilV Bl.nilV Bl.nilV) := ⟨_, rfl⟩
  rw [← hW2] at hBk hEk
  have hsz1 : W1.heap.size = w.heap.size + 1 + 1 := by rw [hW1, World.size_alloc, World.size_alloc]
  obtain ⟨A0, hA0⟩ : ∃ A0, A0 = w.heap.size + 1 + 1 := ⟨_, rfl⟩
  rw [hsz1, ← hA0] at hW2 hBk Hstk
  have hs1 := hBr.lt
  obtain ⟨R0, hR0⟩ : ∃ R0, R0 = w.heap.size + 1 := ⟨_, rfl⟩
  obtain ⟨P0, hP0⟩ : ∃ P0, P0 = w.heap.size := ⟨_, rfl⟩
  rw [← hR0] at hBr hs1
  rw [← hP0] at hBl
  have HE2 : Hid (Bl.Ext w W2) := Bl.hid (hE1.trans hEk)
  have HBk := Bl.hid hBk
  have HBl := Bl.hid (hBl.ext hEk)
  have HBr := Bl.hid (hBr.ext hEk)
  have HR := Bl.hid (hR.ext HE2.out)
  have HA0 := Bl.hid hA0
  have Hn : Hid (P0 = w.heap.size ∧ R0 = w.heap.size + 1 ∧ R0 < A0 ∧ w.heap.size ≤ A0) := Bl.hid ⟨hP0, hR0, by omega, by omega⟩
  have Hlow : Hid (∀ i, (Q i ∨ i = b) → i < w.heap.size) := Bl.hid fun i hi => by
    rcases hi with q | q
    · exact hR.sz i q
    · rw [q]; exact hR.bx.lt
  have HNQ := Bl.hid hNQ
  have HNl := Bl.hid hNl
  have HNQ1 : Hid (∀ i, Q i → (N i ∨ w.heap.size ≤ i)) := Bl.hid fun i q => .inl (hNQ i q)
  have HLf : Hid (Bl.LtF (fun k => ¬ (N k ∨ w.heap.size ≤ k)) W2 l vp vs (.slice pb l.blocks.length cb) L) := Bl.hid (hLf.kept fun b hb hl => ⟨fun q => by
    rcases q with q | q
    · exact hb q
    · omega, HE2.out.block b hl⟩)
  have Hbl := Bl.hid (And.intro hbl hbb)
  have Hbo := Bl.hid (Bl.put_st hc hk hbb)
  have hgm := hR.none hg
  have HpF : Hid (4 ≤ mp.length → Bl.putS s l = ⟨s.objs, Bl.idsL s l⟩ ∧ Bl.putL s l = Bl.refL l 12) := Bl.hid fun q => by
    have q2 : 4 ≤ s.objs.length := by rw [← hR.ln]; exact q
    unfold Bl.putS Bl.putL; rw [hg]; simp only; rw [if_pos q2, if_pos q2]; exact ⟨rfl, rfl⟩
  have HpN : Hid (¬ 4 ≤ mp.length → Bl.putS s l = ⟨s.objs ++ [(l.obj, l.blocks)], Bl.idsL s l⟩ ∧ Bl.putL s l = Bl.ackL l) := Bl.hid fun q => by
    have q2 : ¬ 4 ≤ s.objs.length := by rw [← hR.ln]; exact q
    unfold Bl.putS Bl.putL; rw [hg]; simp only; rw [if_neg q2, if_neg q2]; exact ⟨rfl, rfl⟩
  have Hgo : Hid (Bl.getO s l.obj = none ∧ Bl.getM mp l.obj = none) := Bl.hid ⟨hg, hgm⟩
  have hgbl := hcc.bl
  have HAp : Hid (∀ w2, Bl.LtC w2 (Bl.cL l vp vs (.slice pb l.blocks.length cb)) l vp vs (.slice pb l.blocks.length cb) L → Calls Tryd.prog 33 #[.slice pb l.blocks.length cb] w2 fun e w' => ApR l.blocks w2 e w') := Bl.hid fun w2 h2 => sapart_any _ l.blocks w2 h2.bl h2.by' (by have := Hbo.out.2.1; omega) (fun x hx => by have := (Hbo.out.2.2 x hx).1; omega)
  clear hgbl
  have hb0 := HR.out.bx.cell (i := 0) (v := .map (some m)) rfl
  have hbl0 := HR.out.bx.lt
  have hx2 := HBl.out.cell (i := 2) (v := .int .i64 l.obj) rfl
  have hxl := HBl.out.lt
  have Hlk : Hid (∀ w2, Bl.Ext W2 w2 → (Instr.lookup 56 (.map (some m)) (.int .i64 l.obj) true).run Tryd.prog w2 = .ok (.tuple #[.slice none 0 0, .bool false]) w2) := Bl.hid fun w2 h2 => by
    have hz : (zeroValue 24).run Tryd.prog w2 = .ok (.slice none 0 0) w2 := by first | rfl | kernel_rfl | (simp [go_sem]; done)
    have h := (HR.out.mt.ext h2).lookup (P := Tryd.prog) Tryd.underlying56 Tryd.underlying3 hz l.obj
    rw [hgm] at h
    exact h
  have Hsn := Bl.hid HR.out.sn
  obtain ⟨any, g, c, hsB, hsS⟩ := Hsn.out
  have HsB := Bl.hid (And.intro hsB hsS)
  have Hq2 : Hid (∀ w2, Bl.Kq (fun k => k = sb) W2 w2 → w2.cell? ⟨b, 1, none⟩ = some (.pointer (some ⟨sb, 0, none⟩)) ∧ w2.cell? ⟨P0, 1, none⟩ = some (.int .i64 l.id)) := Bl.hid fun w2 hK => by
    have h1 := hK.box (X := b) (fun q => HR.out.qb (q ▸ HR.out.qs)) HR.out.bx
    have h2 := hK.box (X := P0) (fun q => by have := Hlow.out sb (.inl HR.out.qs); have := Hn.out; omega) HBl.out
    exact ⟨h1.cell (i := 1) rfl, h2.cell (i := 1) rfl⟩
  obtain ⟨F, hF⟩ : ∃ F, F = Bl.freI s.ids l.id := ⟨_, rfl⟩
  have HF := Bl.hid hF
  have HFr : Hid (∀ w2, Bl.BoxC w2 sb [.bool any, .int .i64 g, .int .u64 (c : Nat)] → Calls Tryd.prog 32 #[.pointer (some ⟨sb, 0, none⟩), .int .i64 l.id] w2 fun e w' => e = .returned (.bool F) ∧ SnR sb s.ids l.id w2 w') := Bl.hid fun w2 h2 => by
    have h := nfresh_any sb any g c s.ids l.id w2 h2 hsS
    rw [← hF] at h
    exact h
  obtain ⟨oj, hoj⟩ : ∃ oj, oj = l.obj := ⟨_, rfl⟩
  obtain ⟨li, hli⟩ : ∃ li, li = l.id := ⟨_, rfl⟩
  have Hoj := Bl.hid (And.intro hoj hli)
  rw [← hli] at HFr Hq2
  rw [← hoj] at Hlk hx2
  unfold Bl.cL at hW1
  clear hcc hLf hRw hbl hbb hE0 hE1 hBl hBr hBk hEk hs1 hA0 hsz1 hR0 hP0 hR hNQ hNl hc hk hsB hsS hF Hsn hoj hli hgm hg
  show Calls Tryd.prog 20 #[.pointer (some ⟨b, 0, none⟩), .agg #[.int .i64 l.kind, .int .i64 l.id, .int .i64 l.obj, vp, vs, .int .i64 l.frm, .int .i64 l.cnt, .slice pb l.blocks.length cb, .int .i64 l.code]] w _
  go_enter Tryd.func20, Tryd.ntmps20
  go_wp2_with (with_reducible refine Bl.stop_store (ty := 26) ?_)
  rw [← hW1]
  rw [show w.heap.size + 1 + 1 = A0 from HA0.out.symm, show w.heap.size + 1 = R0 from Hn.out.2.1.symm, show w.heap.size = P0 from Hn.out.1.symm]
  refine Bl.go_on ?_
  refine Bl.wpL_store0 rfl rfl Hstk.out ?_
  rw [← hW2]
  clear hW1 hW2 Hstk
  go_wp2_with fail
  apply Bl.wp_region_evK (Bl.Ext) (fun _ _ _ => True) 12 [15, 16, 17, 18, 19, 20, 21, 14, 22, 23, 6, 7] [Bl.eqv _, Bl.eqv _, Bl.eqv _, Bl.eqv _, Bl.eqv _, Bl.eqv _, Bl.eqv _, Bl.eqv _, Bl.eqv _, Bl.eqv _, Bl.eqv _, Bl.eqv _] (fun w => Below.refl _ w) (fun a b c h k => Bl.Ext.trans h k) (by kernel_rfl) (by kernel_rfl) (by kernel_rfl) (by kernel_rfl)
  case hsteps =>
    refine ⟨?_, ?_, ?_, ?_, ?_, ?_, ?_, ?_, ?_, ?_, ?_, ?_, trivial⟩
    all_goals
      intro d ev w1 hext HJd Hanc Hdes hni hb hd
      replace Hanc := Bl.hid Hanc
      replace HJd := Bl.hid HJd
      replace Hdes := Bl.hid Hdes
      replace hni := Bl.hid hni
      have e0 := hb 0 (by decide)
      have e3 := hb 3 (by decide)
      clear hb
      simp only [Array.getD_eq_getD_getElem?, List.getElem?_toArray, List.getElem?_cons_succ, List.getElem?_cons_zero, Option.getD_some] at e0 e3
      simp only [Bl.DepsE2, List.getElem?_cons_succ, List.getElem?_cons_zero, Option.bind_some, List.getD_cons_succ, List.getD_cons_zero, Bl.eqv, and_true] at hd
      have hc := (Bl.bcell hext).1
      have c0 := (hc _ 0 hbl0).trans hb0
      have c2 := (hc _ 2 hxl).trans hx2
      have lk := Hlk.out _ hext
      simp only [Region.wanted, if_true]
      go_simp
      first | exact ⟨Below.refl _ _, rfl, trivial⟩ | exact ⟨Below.refl _ _, rfl⟩ | exact Below.refl _ _
  case hmono => exact ⟨Bl.monoR_eqv _, Bl.monoR_eqv _, Bl.monoR_eqv _, Bl.monoR_eqv _, Bl.monoR_eqv _, Bl.monoR_eqv _, Bl.monoR_eqv _, Bl.monoR_eqv _, Bl.monoR_eqv _, Bl.monoR_eqv _, Bl.monoR_eqv _, Bl.monoR_eqv _, trivial⟩
  case hR0 => exact (Below.refl _ _).drew
  case hend =>
    intro u w1 hext hJ hend
    simp only [Bl.EndE, List.getElem?_cons_succ, List.getElem?_cons_zero, Option.bind_some, List.getD_cons_succ, List.getD_cons_zero, Bl.eqv, true_and] at hend
    simp only [Bl.fillAct, List.setIfInBounds_toArray, List.set_cons_succ, List.set_cons_zero, List.drop_succ_cons, List.drop_zero, hend]
    have HX3 := Bl.hid hext
    have hsb3 := HsB.out.1.ext hext
    have HSb3 := Bl.hid hsb3
    obtain ⟨W3, hW3⟩ : ∃ W3, W3 = w1 := ⟨_, rfl⟩
    rw [← hW3] at HX3 HSb3 ⊢
    clear hext hend hJ hb0 hbl0 hx2 hxl Hlk hsb3 hW3
    go_wp2_with fail
    apply Bl.wp_region_evK (Bl.Kq (fun k => k = sb)) (Bl.HJ 6 (fun w' => Bl.BoxC w' sb [.bool any, .int .i64 g, .int .u64 (c : Nat)]) (fun w' => SnB sb s.ids li w')) 7 [24, 25, 26, 27, 28, 29, 30] [Bl.eqv _, Bl.eqv _, Bl.eqv _, Bl.eqv _, Bl.eqv _, Bl.eqv _, Bl.eqv _] (fun w => Bl.Kq.refl w) (fun a b c h k => Bl.Kq.trans h k) (by kernel_rfl) (by kernel_rfl) (by kernel_rfl) (by kernel_rfl)
    case hsteps =>
      refine ⟨?_, ?_, ?_, ?_, ?_, ?_, ?_, trivial⟩
      all_goals
        intro d ev w1 hext HJd Hanc Hdes hni hb hd
        replace Hanc := Bl.hid Hanc
        replace HJd := Bl.hid HJd
        replace Hdes := Bl.hid Hdes
        replace hni := Bl.hid hni
        have e0 := hb 0 (by decide)
        have e3 := hb 3 (by decide)
        clear hb
        simp only [Array.getD_eq_getD_getElem?, List.getElem?_toArray, List.getElem?_cons_succ, List.getElem?_cons_zero, Option.getD_some] at e0 e3
        simp only [Bl.DepsE2, List.getElem?_cons_succ, List.getElem?_cons_zero, Option.bind_some, List.getD_cons_succ, List.getD_cons_zero, Bl.eqv, and_true] at hd
        have q3 := Hq2.out _ ((Bl.Kq.of_ext HX3.out).trans hext)
        have c0 := q3.1
        have c1 := q3.2
        clear q3
        rw [if_pos (rfl : Region.wanted _ _ = true)]
        go_simp
        first | exact ⟨Bl.Kq.refl _, rfl, Bl.HJ.same (by decide) HJd.out⟩ | (go_at_call 32; (with_reducible refine (HFr.out w1 (Bl.HJ.get HJd.out hni.out)).mono ?_); rintro e w2 ⟨rfl, k1⟩; exact ⟨_, rfl, k1.2, rfl, Bl.HJ.set k1.1⟩) | exact ⟨Below.refl _ _, rfl, Bl.HJ.same (by decide) HJd.out⟩
    case hmono => exact ⟨Bl.monoR_eqv _, Bl.monoR_eqv _, Bl.monoR_eqv _, Bl.monoR_eqv _, Bl.monoR_eqv _, Bl.monoR_eqv _, Bl.monoR_eqv _, trivial⟩
    case hR0 => exact Bl.Kq.drew _
    case hend =>
      intro u w1 hext hJ hend
      simp only [Bl.EndE, List.getElem?_cons_succ, List.getElem?_cons_zero, Option.bind_some, List.getD_cons_succ, List.getD_cons_zero, Bl.eqv, true_and] at hend
      simp only [Bl.fillAct, List.setIfInBounds_toArray, List.set_cons_succ, List.set_cons_zero, List.drop_succ_cons, List.drop_zero, hend]
      have hJ2 := Bl.HJ.got hJ rfl
      have HKs : Hid (Bl.Kq (fun k => k = sb) W2 w1) := Bl.hid ((Bl.Kq.of_ext HX3.out).trans hext)
      obtain ⟨any', g', c', k1, k2⟩ := hJ2
      rw [Hoj.out.2] at k2
      have HR4 : Hid (Bl.SvR (fun i => N i ∨ w.heap.size ≤ i) Q w1 b m sb mp ⟨s.objs, Bl.idsL s l⟩) := Bl.hid (HR.out.ids HNQ1.out HKs.out k1 k2)
      have HE4 : Hid (Bl.Kq Q w w1) := Bl.hid ((Bl.Kq.of_ext HE2.out).trans (HKs.out.mono fun i _ q => q ▸ HR.out.qs))
      have hne : ∀ X, w.heap.size ≤ X → X ≠ sb := fun X hX q => by have := Hlow.out sb (.inl HR.out.qs); omega
      have HBk4 := Bl.hid (HKs.out.box (hne A0 Hn.out.2.2.2) HBk.out)
      have HBl4 := Bl.hid (HKs.out.box (hne P0 (by rw [Hn.out.1]; exact Nat.le_refl _)) HBl.out)
      have HBr4 := Bl.hid (HKs.out.box (hne R0 (by rw [Hn.out.2.1]; omega)) HBr.out)
      have HL4 : Hid (Bl.LtC w1 (Bl.cL l vp vs (.slice pb l.blocks.length cb)) l vp vs (.slice pb l.blocks.length cb) L) := Bl.hid (Bl.LtF.ltc (HLf.out.kept (F' := fun _ => True) fun i hi hl => ⟨trivial, HKs.out.block i hl fun q => hi (HNQ1.out i (q ▸ HR.out.qs))⟩))
      obtain ⟨W4, hW4⟩ : ∃ W4, W4 = w1 := ⟨_, rfl⟩
      rw [← hW4] at HR4 HE4 HBk4 HBl4 HBr4 HL4 ⊢
      clear hext hend hJ hne k1 k2 HSb3 HX3 HKs HBk HBl HBr Hq2 HFr hW4
      have hb0 := HR4.out.bx.cell (i := 0) (v := .map (some m)) rfl
      obtain ⟨K, hK⟩ : ∃ K, K = mp.length := ⟨_, rfl⟩
      have hln : ∀ ty, (Builtin.len_ #[56] ty #[.map (some m)]).run Tryd.prog W4 = .ok (.int .i64 (K : Nat)) W4 := fun ty => by rw [hK]; exact HR4.out.mt.len Tryd.underlying56
      have HK := Bl.hid hK
      clear hK
      by_cases h4 : 4 ≤ K
      · have h4b : (4 : Int) ≤ (K : Int) := by omega
        have HL5 : Hid (Bl.LtV W4 (.agg (Bl.cL l vp vs (.slice pb l.blocks.length cb)).toArray) l) := Bl.hid ⟨_, vp, vs, _, L, rfl, HL4.out⟩
        have HBl5 := HBl4
        have HBr5 := HBr4
        have Hll5 := Bl.hid (HBl5.out.load (P := Tryd.prog) Tryd.underlying26 rfl (by kernel_rfl))
        go_wp2_with (with_reducible refine Bl.stop_load (ty := 26) ?_)
        refine Bl.go_on ?_
        refine Bl.wpL_load rfl Hll5.out ?_
        go_wp2_with fail
        refine (refusal_any _ l 12 W4 HL5.out).mono ?_
        rintro e w6 ⟨rfl, hE6⟩
        have HE6 := Bl.hid hE6
        have HBr6 := Bl.hid (HBr5.out.ext hE6)
        clear hE6
        have Hst6 := Bl.hid (HBr6.out.store (P := Tryd.prog) (cs' := Bl.cL (Bl.refL l 12) Bl.nilV Bl.nilV Bl.nilV) rfl (Bl.cL_one ⟨_, _, _, rfl⟩ ⟨_, _, _, rfl⟩ ⟨_, _, _, rfl⟩) (ty := 26) (by kernel_rfl))
        have HBr7 := Bl.hid (HBr6.out.set (cs' := Bl.cL (Bl.refL l 12) Bl.nilV Bl.nilV Bl.nilV) rfl)
        have HK7 : Hid (Bl.Kq (fun k => k = R0) w6 (w6.setCells R0 0 (Bl.cL (Bl.refL l 12) Bl.nilV Bl.nilV Bl.nilV))) := Bl.hid ((Bl.Kq.refl w6).setCells (Q := fun k => k = R0) rfl 0 _)
        go_wp2_with (with_reducible refine Bl.stop_store (ty := 26) ?_)
        refine Bl.go_on ?_
        refine Bl.wpL_store0 rfl rfl Hst6.out ?_
        go_wp2_with fail
        refine bodyPost_ret (v := .agg (Bl.cL (Bl.refL l 12) Bl.nilV Bl.nilV Bl.nilV).toArray) (Bl.results_cell rfl rfl (HBr7.out.loadVar (P := Tryd.prog) Tryd.underlying26 rfl (by kernel_rfl))) rfl ⟨?_, ?_⟩
        · rw [(HpF.out (by rw [← HK.out]; exact h4)).2]
        · rw [(HpF.out (by rw [← HK.out]; exact h4)).1]
          exact (HR4.out.ext HE6.out).fin HNQ.out HNl.out (HE4.out.trans (Bl.Kq.of_ext HE6.out)) HK7.out (by rw [Hn.out.2.1]; omega) Hlow.out
      · have h4b : ¬ (4 : Int) ≤ (K : Int) := by omega
        have hbl0 := HR4.out.bx.lt
        have hx2 := HBl4.out.cell (i := 2) (v := .int .i64 l.obj) rfl
        have hx7 := HBl4.out.cell (i := 7) (v := .slice pb l.blocks.length cb) rfl
        have hxl := HBl4.out.lt
        have Hq4 : Hid (∀ w2, Bl.Kq (fun _ => False) W4 w2 → w2.cell? ⟨b, 0, none⟩ = some (.map (some m)) ∧ w2.cell? ⟨P0, 2, none⟩ = some (.int .i64 l.obj) ∧ w2.cell? ⟨P0, 7, none⟩ = some (.slice pb l.blocks.length cb)) := Bl.hid fun w2 hk => ⟨hk.cell (fun q => q) hb0, hk.cell (fun q => q) hx2, hk.cell (fun q => q) hx7⟩
        have HAp4 : Hid (∀ w2, Bl.Kq (fun _ => False) W4 w2 → Calls Tryd.prog 33 #[.slice pb l.blocks.length cb] w2 fun e w' => ∃ v', e = .returned v' ∧ Bl.ApV2 l.blocks W4.heap.size v' w' ∧ Bl.Ext w2 w') := Bl.hid fun w2 hk => by
          have hE := hk.ext (fun _ q => q.elim)
          refine (HAp.out w2 (HL4.out.ext hE)).mono ?_
          rintro e w' ⟨M, rfl, k1, k2, k3, k4⟩
          exact ⟨_, rfl, ⟨w2.heap.size, M, rfl, hE.size, k1, k2, k3, (k1.block _ rfl).2⟩, k4⟩
        clear hx2 hx7 hxl hbl0
        go_wp2_with fail
        clear hln hb0
        apply Bl.wp_region_evK (Bl.Kq (fun _ => False)) (Bl.ChN (fun _ => True) [(8, 65, Bl.ApV2 l.blocks W4.heap.size)]) 9 [57, 58, 59, 60, 61, 62, 63, 64, 65] [Bl.eqv _, Bl.eqv _, Bl.eqv _, Bl.eqv _, Bl.eqv _, Bl.eqv _, Bl.eqv _, Bl.eqv _, Bl.anyv] (fun w => Bl.Kq.refl w) (fun a b c h k => Bl.Kq.trans h k) (by kernel_rfl) (by kernel_rfl) (by kernel_rfl) (by kernel_rfl)
        case hsteps =>
          refine ⟨?_, ?_, ?_, ?_, ?_, ?_, ?_, ?_, ?_, trivial⟩
          all_goals
            intro d ev w1 hext HJd Hanc Hdes hni hb hd
            replace Hanc := Bl.hid Hanc
            replace HJd := Bl.hid HJd
            replace Hdes := Bl.hid Hdes
            replace hni := Bl.hid hni
            have e0 := hb 0 (by decide)
            have e3 := hb 3 (by decide)
            clear hb
            simp only [Array.getD_eq_getD_getElem?, List.getElem?_toArray, List.getElem?_cons_succ, List.getElem?_cons_zero, Option.getD_some] at e0 e3
            simp only [Bl.DepsE2, List.getElem?_cons_succ, List.getElem?_cons_zero, Option.bind_some, List.getD_cons_succ, List.getD_cons_zero, Bl.eqv, and_true] at hd
            have q3 := Hq4.out _ hext
            have c0 := q3.1
            have c2 := q3.2.1
            have c7 := q3.2.2
            clear q3
            rw [if_pos (rfl : Region.wanted _ _ = true)]
            go_simp
            first | exact ⟨Bl.Kq.refl _, rfl, HJd.out.same rfl⟩ | (go_at_call 33; (with_reducible refine (HAp4.out w1 hext).mono ?_); rintro e w2 ⟨v9, rfl, k1, k2⟩; exact ⟨_, rfl, Bl.Kq.of_ext k2, trivial, Bl.ChN.set (a := []) (b := []) trivial rfl k1 trivial rfl⟩) | exact ⟨Below.refl _ _, rfl, Bl.HJ.same (by decide) HJd.out⟩
        case hmono => exact ⟨Bl.monoR_eqv _, Bl.monoR_eqv _, Bl.monoR_eqv _, Bl.monoR_eqv _, Bl.monoR_eqv _, Bl.monoR_eqv _, Bl.monoR_eqv _, Bl.monoR_eqv _, Bl.monoR_anyv, trivial⟩
        case hR0 => exact Bl.Kq.drew _
        case hend =>
          intro u w1 hext hJ hend
          simp only [Bl.EndE, List.getElem?_cons_succ, List.getElem?_cons_zero, Option.bind_some, List.getD_cons_succ, List.getD_cons_zero, Bl.eqv, true_and] at hend
          simp only [Bl.fillAct, List.setIfInBounds_toArray, List.set_cons_succ, List.set_cons_zero, List.drop_succ_cons, List.drop_zero, hend]
          obtain ⟨g9, M, hv9, hg9, k1, k2, k3, k4⟩ := hJ.2 rfl
          have HE9 : Hid (Bl.Ext W4 w1) := Bl.hid (hext.ext (fun _ q => q.elim))
          have HR9 := Bl.hid (HR4.out.ext HE9.out)
          obtain ⟨W5, hmu, hM5, hK5⟩ := Bl.MapAt.put (P := Tryd.prog) Tryd.underlying56 Tryd.underlying3 HR9.out.mt l.obj (.slice (some ⟨g9, 0, none⟩) l.blocks.length l.blocks.length) Hgo.out.2
          have hg9w : w.heap.size ≤ g9 := Nat.le_trans HE4.out.size hg9
          have hR0l : R0 < W4.heap.size := HBr4.out.lt
          have hrow : Bl.RowS (fun i => N i ∨ i = g9 ∨ i = R0) w1 (.slice (some ⟨g9, 0, none⟩) l.blocks.length l.blocks.length) l.blocks := ⟨M, by rw [← hv9]; exact k1.mono (Nat.zero_le _), fun y hy => Bl.stab_okB _ _ _ _ _ (k2 y hy) fun k hk _ => ⟨fun q => by
            rcases q with q | q | q
            · have := HNl.out k q; omega
            · omega
            · omega, rfl⟩, k3⟩
          have HR9b : Bl.SvR (fun i => N i ∨ i = g9 ∨ i = R0) Q w1 b m sb mp ⟨s.objs, Bl.idsL s l⟩ := HR9.out.kept (Q2 := fun _ => False) (Bl.Kq.refl w1) (fun _ q => q.elim) fun i q => by
            rcases q with q | q | q
            · exact .inl (.inl q)
            · exact .inl (.inr (by omega))
            · exact .inl (.inr (by have := Hn.out; omega))
          have hlw := Hlow.out
          have HRp : Hid (Bl.SvR (fun i => N i ∨ i = g9 ∨ i = R0) (fun i => Q i ∨ (Value.slice (some ⟨g9, 0, none⟩) l.blocks.length l.blocks.length).ownBlock = some i) W5 b m sb (mp ++ [(l.obj, .slice (some ⟨g9, 0, none⟩) l.blocks.length l.blocks.length)]) ⟨s.objs ++ [(l.obj, l.blocks)], Bl.idsL s l⟩) := Bl.hid (HR9b.put (fun i q => .inl (HNQ.out i q)) Hgo.out.1 hM5 hK5 hrow fun i q => by
            have e : g9 = i := Option.some.inj q
            subst e
            have h1 := hlw m (.inl HR9b.qm)
            have h2 := hlw sb (.inl HR9b.qs)
            have h3 := hlw b (.inr rfl)
            exact ⟨k4, by omega, by omega, by omega⟩)
          have hKm : Bl.Kq Q w1 W5 := hK5.mono fun i _ q => q ▸ HR9b.qm
          have HE5 : Hid (Bl.Kq Q w W5) := Bl.hid (HE4.out.trans ((Bl.Kq.of_ext HE9.out).trans hKm))
          have hml : ∀ X, w.heap.size ≤ X → X ≠ m := fun X hX q => by have := hlw m (.inl HR9b.qm); omega
          have HBk5 := Bl.hid (hK5.box (hml A0 Hn.out.2.2.2) (HBk4.out.ext HE9.out))
          have HBr5 := Bl.hid (hK5.box (hml R0 (by rw [Hn.out.2.1]; omega)) (HBr4.out.ext HE9.out))
          have HgR : Hid (g9 < W5.heap.size ∧ w.heap.size ≤ g9 ∧ R0 < W5.heap.size ∧ W4.heap.size ≤ g9) := Bl.hid ⟨Nat.lt_of_lt_of_le k4 hK5.size, hg9w, by have := hK5.size; have := HE9.out.size; omega, hg9⟩
          simp only [hv9]
          clear hext hend hJ hv9 k1 k2 k3 k4 hM5 hK5 hrow HR9b hKm hml hlw hg9 hg9w hR0l
          have Hlk5 := Bl.hid (HBk5.out.load (P := Tryd.prog) Tryd.underlying26 rfl (by kernel_rfl))
          have Hst5 := Bl.hid (HBr5.out.store (P := Tryd.prog) (cs' := Bl.cL (Bl.ackL l) Bl.nilV Bl.nilV Bl.nilV) rfl (Bl.cL_one ⟨_, _, _, rfl⟩ ⟨_, _, _, rfl⟩ ⟨_, _, _, rfl⟩) (ty := 26) (by kernel_rfl))
          have HBr6 := Bl.hid (HBr5.out.set (cs' := Bl.cL (Bl.ackL l) Bl.nilV Bl.nilV Bl.nilV) rfl)
          have HK6 : Hid (Bl.Kq (fun k => k = R0) W5 (W5.setCells R0 0 (Bl.cL (Bl.ackL l) Bl.nilV Bl.nilV Bl.nilV))) := Bl.hid ((Bl.Kq.refl W5).setCells (Q := fun k => k = R0) rfl 0 _)
          go_wp2_with (with_reducible refine Bl.stop_load (ty := 26) ?_)
          refine Bl.go_on ?_
          refine Bl.wpL_load rfl Hlk5.out ?_
          go_wp2_with (with_reducible refine Bl.stop_store (ty := 26) ?_)
          refine Bl.go_on ?_
          refine Bl.wpL_store0 rfl rfl Hst5.out ?_
          go_wp2_with fail
          refine bodyPost_ret (v := .agg (Bl.cL (Bl.ackL l) Bl.nilV Bl.nilV Bl.nilV).toArray) (Bl.results_cell rfl rfl (HBr6.out.loadVar (P := Tryd.prog) Tryd.underlying26 rfl (by kernel_rfl))) rfl ⟨?_, ?_⟩
          · rw [(HpN.out (by rw [← HK.out]; exact h4)).2]
          · rw [(HpN.out (by rw [← HK.out]; exact h4)).1]
            have hk2 : Bl.Kq Q w (W5.setCells R0 0 (Bl.cL (Bl.ackL l) Bl.nilV Bl.nilV Bl.nilV)) := by
              have h1 : Bl.Kq (fun i => Q i ∨ i = R0) w (W5.setCells R0 0 (Bl.cL (Bl.ackL l) Bl.nilV Bl.nilV Bl.nilV)) := (HE5.out.mono fun i _ q => .inl q).trans (HK6.out.mono fun i _ q => .inr q)
              exact h1.mono fun i hi q => by
                rcases q with q | q
                · exact q
                · have := Hn.out; omega
            have hgq : ∀ i, (Value.slice (some ⟨g9, 0, none⟩) l.blocks.length l.blocks.length).ownBlock = some i → i = g9 := fun i q => (Option.some.inj q).symm
            refine ⟨hk2, _, _, ⟨m, sb, _, HRp.out.kept HK6.out (fun i q => ⟨.inr (.inr q), fun r => ?_, fun r => ?_⟩) (fun i q => .inl q)⟩, fun i q => ?_, fun i q => .inl q, fun i q => .inl q, fun i q => ?_, fun i q => ?_, fun i q => ?_⟩
            · rcases r with r | r
              · have := Hlow.out i (.inl r); have := Hn.out; omega
              · have := hgq i r; have := HgR.out; have := HBr4.out.lt; omega
            · have := Hlow.out i (.inr r); have := Hn.out; omega
            · rcases q with q | q | q
              · exact .inl q
              · exact .inr (by have := HgR.out; omega)
              · exact .inr (by have := Hn.out; omega)
            · rcases q with q | q
              · exact .inl (HNQ.out i q)
              · exact .inr (.inl (hgq i q))
            · rcases q with q | q
              · exact .inl q
              · exact .inr (by have := hgq i q; have := HgR.out; omega)
            · refine Nat.lt_of_lt_of_le ?_ HK6.out.size
              rcases q with q | q | q
              · exact Nat.lt_of_lt_of_le (HNl.out i q) HE5.out.size
              · have := HgR.out; omega
              · have := HgR.out; omega
        case hJ0 => exact Bl.ChN.start trivial
    case hJ0 => exact Bl.HJ.start (HSb3.out.ext (Below.refl _ _).drew)
  case hJ0 => trivial

theorem sput_any (b : Nat) (N Q : Nat → Prop) (s : Bl.ShT) (v : Value) (l : Bl.LT) (w : World) (hS : Bl.SvX N Q w b s) (hNQ : ∀ i, Q i → N i) (hNl : ∀ i, N i → i < w.heap.size) (hL : Bl.LtW N w v l) (hc : Bl.chkL l = 0) (hk : l.kind = 1) :
    Calls Tryd.prog 20 #[.pointer (some ⟨b, 0, none⟩), v] w fun e w' => e = .returned (.agg (Bl.cL (Bl.putL s l) Bl.nilV Bl.nilV Bl.nilV).toArray) ∧ Bl.SvGo N Q w w' b (Bl.putS s l) := by
  cases hg : Bl.getO s l.obj with
  | some st => exact sput_some b N Q s v l w hS hNQ hNl hL hc hk st hg
  | none => exact sput_none b N Q s v l w hS hNQ hNl hL hc hk hg
end Go.Proofs.YtglenbikdahgjaaDoor

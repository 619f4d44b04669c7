/- Texts that stood apart, in one: WShelf0, WShelf1. -/
import Derived.Test.YtglenbikdahgjaaDoorBA1
import Derived.Test.YtglenbikdahgjaaDoorLWa
/- Walks of shelf.New, shelf.Refusal; shelf.ask and shelf.Handle where there is no such object; the alive of layer 25's laws. -/
namespace Go.Proofs.Bl
open Go Go.RowKit
/-- a Refuse -/
def refL (l : LT) (code : Int) : LT := ⟨7, l.id, l.obj, [], [], 0, 0, [], code⟩
abbrev nilV : Value := .slice none 0 0
theorem LtC.refL (w : World) (l : LT) (code : Int) : LtC w (cL (refL l code) nilV nilV nilV) (Bl.refL l code) nilV nilV nilV [] := ⟨rfl, Rd.nil _ _, RdS.nil _, rfl, Rdss.nil _, fun b hb => by cases hb⟩
end Go.Proofs.Bl
namespace Go.Proofs.YtglenbikdahgjaaDoor
open Go Go.RowKit Go.Proofs

set_option maxRecDepth 100000 in
set_option maxHeartbeats 1000000 in
theorem refusal_any (v : Value) (l : Bl.LT) (code : Int) (w : World) (h : Bl.LtV w v l) :
    Calls Tryd.prog 8 #[v, .int .i64 code] w fun e w' => e = .returned (.agg (Bl.cL (Bl.refL l code) Bl.nilV Bl.nilV Bl.nilV).toArray) ∧ Bl.Ext w w' := by
  obtain ⟨cs0, vp, vs, vb, L, rfl, hc⟩ := h
  obtain rfl := hc.eq
  obtain ⟨kd, id, oj, pl, sh, fr, ct, bl, cd⟩ := l
  clear hc
  show Calls Tryd.prog 8 #[.agg #[.int .i64 kd, .int .i64 id, .int .i64 oj, vp, vs, .int .i64 fr, .int .i64 ct, vb, .int .i64 cd], .int .i64 code] w _
  have HEf : Hid (∀ A R, Bl.Ext w ((w.alloc (.cells A 26)).alloc (.cells R 26))) := Bl.hid fun A R => (Bl.ext_alloc _ _).trans (Bl.ext_alloc _ _)
  go_enter Tryd.func8, Tryd.ntmps8
  go_wp2_with fail
  exact bodyPost_ret (v := .agg ([.int .i64 7, .int .i64 id, .int .i64 oj, Bl.nilV, Bl.nilV, .int .i64 0, .int .i64 0, Bl.nilV, .int .i64 code] : List Value).toArray) (Bl.results_cell rfl rfl ((Bl.box2 w _ [.int .i64 7, .int .i64 id, .int .i64 oj, Bl.nilV, Bl.nilV, .int .i64 0, .int .i64 0, Bl.nilV, .int .i64 code] _ _ (fun h => by cases h)).loadVar (P := Tryd.prog) Tryd.underlying26 rfl (by kernel_rfl))) rfl ⟨rfl, HEf.out _ _⟩

/-- a shelf in the block b: its map in m, its ids in sb -/
structure Shf0 (w : World) (b m sb : Nat) : Prop where
  c0 : w.cell? ⟨b, 0, none⟩ = some (.map (some m))
  c1 : w.cell? ⟨b, 1, none⟩ = some (.pointer (some ⟨sb, 0, none⟩))
theorem Shf0.lt {w : World} {b m sb : Nat} (h : Shf0 w b m sb) : b < w.heap.size := World.block_lt_of_cell? _ _ h.c0
theorem Shf0.ext {w w' : World} {b m sb : Nat} (h : Shf0 w b m sb) (hE : Bl.Ext w w') : Shf0 w' b m sb := ⟨((Bl.bcell hE).1 _ _ h.lt).trans h.c0, ((Bl.bcell hE).1 _ _ h.lt).trans h.c1⟩

set_option maxRecDepth 100000 in
set_option maxHeartbeats 1000000 in
theorem nnew_any (w : World) : Calls Tryd.prog 19 #[] w fun e w' => e = .returned (.pointer (some ⟨w.heap.size, 0, none⟩)) ∧ Bl.BoxC w' w.heap.size [.bool false, .int .i64 0, .int .u64 0] ∧ Bl.Ext w w' := by
  have HB := Bl.hid (Bl.BoxC.box (cs := [.bool false, .int .i64 0, .int .u64 0]) w 73 (fun h => by cases h))
  have HE := Bl.hid (Bl.ext_alloc w (.cells ([.bool false, .int .i64 0, .int .u64 0] : List Value).toArray 73))
  go_enter Tryd.func19, Tryd.ntmps19
  go_wp2_with fail
  go_ret
  exact ⟨rfl, HB.out, HE.out⟩

set_option maxRecDepth 100000 in
set_option maxHeartbeats 1000000 in
theorem snew_any (w : World) : Calls Tryd.prog 9 #[] w fun e w' => ∃ b m sb, e = .returned (.pointer (some ⟨b, 0, none⟩)) ∧ w.heap.size ≤ b ∧ w.heap.size ≤ m ∧ w.heap.size ≤ sb ∧ b ≠ m ∧ b ≠ sb ∧ m ≠ sb ∧ Shf0 w' b m sb ∧ Bl.BoxC w' b [.map (some m), .pointer (some ⟨sb, 0, none⟩)] ∧ Bl.MapAt w' m [] ∧ Bl.BoxC w' sb [.bool false, .int .i64 0, .int .u64 0] ∧ Bl.Ext w w' := by
  have hmm := @run_makeMap Tryd.prog
  go_enter Tryd.func9, Tryd.ntmps9
  go_wp2_with fail
  have hM := Bl.MapAt.new w
  have hE0 := Bl.ext_alloc w (.map #[] 0)
  have hs0 : (w.alloc (.map #[] 0)).heap.size = w.heap.size + 1 := World.size_alloc _ _
  generalize w.alloc (.map #[] 0) = W1 at hM hE0 hs0 ⊢
  refine (nnew_any W1).mono ?_
  rintro e w2 ⟨rfl, hB, hE2⟩
  have HB := Bl.hid hB
  have HM := Bl.hid (hM.ext hE2)
  have HE := Bl.hid (hE0.trans hE2)
  have hs2 := hE2.size
  have HBx := Bl.hid (Bl.BoxC.box (cs := [.map (some w.heap.size), .pointer (some ⟨W1.heap.size, 0, none⟩)]) w2 60 (fun h => by cases h))
  have HEx := Bl.hid (Bl.ext_alloc w2 (.cells ([.map (some w.heap.size), .pointer (some ⟨W1.heap.size, 0, none⟩)] : List Value).toArray 60))
  have hlt := hB.lt
  have Hn : Hid (w.heap.size ≤ w2.heap.size ∧ w.heap.size ≤ W1.heap.size ∧ w2.heap.size ≠ w.heap.size ∧ w2.heap.size ≠ W1.heap.size ∧ w.heap.size ≠ W1.heap.size) := Bl.hid (by omega)
  clear hM hE0 hs0 hB hE2 hs2 hlt
  go_wp2_with fail
  go_ret
  exact ⟨_, _, _, rfl, Hn.out.1, Nat.le_refl _, Hn.out.2.1, Hn.out.2.2.1, Hn.out.2.2.2.1, Hn.out.2.2.2.2, ⟨HBx.out.cell rfl, HBx.out.cell rfl⟩, HBx.out, HM.out.ext HEx.out, HB.out.ext HEx.out, HE.out.trans HEx.out⟩
set_option maxRecDepth 100000 in
set_option maxHeartbeats 2000000 in
theorem ask_none (b m sb : Nat) (mp : List (Int × Value)) (v : Value) (l : Bl.LT) (w : World) (hS : Shf0 w b m sb) (hM : Bl.MapAt w m mp) (hL : Bl.LtV w v l) (hn : Bl.getM mp l.obj = none) :
    Calls Tryd.prog 21 #[.pointer (some ⟨b, 0, none⟩), v] w fun e w' => e = .returned (.agg (Bl.cL (Bl.refL l 11) Bl.nilV Bl.nilV Bl.nilV).toArray) ∧ Bl.Ext w w' := by
  have HL := Bl.hid hL
  obtain ⟨cs0, vp, vs, vb, L, rfl, hc⟩ := hL
  obtain rfl := hc.eq
  clear hc
  obtain ⟨W1, hW1⟩ : ∃ W1, W1 = (w.alloc (.cells (Bl.cL l vp vs vb).toArray 26)).alloc (.cells Bl.zL 26) := ⟨_, rfl⟩
  have hE0 := Bl.ext_alloc w (.cells (Bl.cL l vp vs vb).toArray 26)
  have hE1 := hE0.trans (Bl.ext_alloc (w.alloc (.cells (Bl.cL l vp vs vb).toArray 26)) (.cells Bl.zL 26))
  have HBl : Hid (Bl.BoxC W1 w.heap.size (Bl.cL l vp vs vb)) := Bl.hid (by rw [hW1]; exact (Bl.BoxC.box w 26 (Bl.cL_ne _ _ _ _)).ext (Bl.ext_alloc _ _))
  have HBr : Hid (Bl.BoxC W1 (w.heap.size + 1) Bl.zL.toList) := Bl.hid (by rw [hW1]; exact Bl.box2 w _ Bl.zL.toList _ _ (fun h => by cases h))
  rw [← hW1] at hE1
  have HE1 := Bl.hid hE1
  have HM1 := Bl.hid (hM.ext hE1)
  have hS1 := hS.ext hE1
  have Hlk : Hid (∀ w2, Bl.Ext W1 w2 → (Instr.lookup 56 (.map (some m)) (.int .i64 l.obj) true).run Tryd.prog w2 = .ok (.tuple #[.slice none 0 0, .bool false]) w2) := Bl.hid fun w2 h2 => by
    have hz : (zeroValue 24).run Tryd.prog w2 = .ok (.slice none 0 0) w2 := by first | rfl | kernel_rfl | (simp [go_sem]; done)
    have h := (HM1.out.ext h2).lookup (P := Tryd.prog) Tryd.underlying56 Tryd.underlying3 hz l.obj
    rw [hn] at h
    exact h
  have hc0 := hS1.c0
  have hb := hS1.lt
  have hx2 := HBl.out.cell (i := 2) (v := .int .i64 l.obj) rfl
  have hxl := HBl.out.lt
  obtain ⟨oj, hoj⟩ : ∃ oj, oj = l.obj := ⟨_, rfl⟩
  rw [← hoj] at Hlk hx2
  clear hS hM hn hE0 hE1 hS1 hoj
  unfold Bl.cL at hW1
  show Calls Tryd.prog 21 #[.pointer (some ⟨b, 0, none⟩), .agg #[.int .i64 l.kind, .int .i64 l.id, .int .i64 l.obj, vp, vs, .int .i64 l.frm, .int .i64 l.cnt, vb, .int .i64 l.code]] w _
  go_enter Tryd.func21, Tryd.ntmps21
  go_wp2_with fail
  rw [← hW1]
  clear hW1
  apply Bl.wp_region_evK (Bl.Ext) (fun _ _ _ => True) 12 [13, 14, 15, 16, 17, 18, 19, 12, 20, 21, 5, 6] [Bl.eqv _, Bl.eqv _, Bl.eqv _, Bl.eqv _, Bl.eqv _, Bl.eqv _, Bl.eqv _, Bl.eqv _, Bl.eqv _, Bl.eqv _, Bl.eqv _, Bl.eqv _] (fun w => Below.refl _ w) (fun a b c h k => Bl.Ext.trans h k) (by kernel_rfl) (by kernel_rfl) (by kernel_rfl) (by kernel_rfl)
  case hsteps =>
    refine ⟨?_, ?_, ?_, ?_, ?_, ?_, ?_, ?_, ?_, ?_, ?_, ?_, trivial⟩
    all_goals
      intro d ev w1 hext HJd Hanc Hdes hni hb hd
      replace Hanc := Bl.hid Hanc
      replace HJd := Bl.hid HJd
      replace Hdes := Bl.hid Hdes
      replace hni := Bl.hid hni
      have e0 := hb 0 (by decide)
      have e3 := hb 3 (by decide)
      clear hb
      simp only [Array.getD_eq_getD_getElem?, List.getElem?_toArray, List.getElem?_cons_succ, List.getElem?_cons_zero, Option.getD_some] at e0 e3
      simp only [Bl.DepsE2, List.getElem?_cons_succ, List.getElem?_cons_zero, Option.bind_some, List.getD_cons_succ, List.getD_cons_zero, Bl.eqv, and_true] at hd
      have hc := (Bl.bcell hext).1
      have c0 := (hc _ 0 hb).trans hc0
      have c2 := (hc _ 2 hxl).trans hx2
      have lk := Hlk.out _ hext
      simp only [Region.wanted, if_true]
      go_simp
      first | exact ⟨Below.refl _ _, rfl, trivial⟩ | exact ⟨Below.refl _ _, rfl⟩ | exact Below.refl _ _
  case hmono => exact ⟨Bl.monoR_eqv _, Bl.monoR_eqv _, Bl.monoR_eqv _, Bl.monoR_eqv _, Bl.monoR_eqv _, Bl.monoR_eqv _, Bl.monoR_eqv _, Bl.monoR_eqv _, Bl.monoR_eqv _, Bl.monoR_eqv _, Bl.monoR_eqv _, Bl.monoR_eqv _, trivial⟩
  case hR0 => exact (Below.refl _ _).drew
  case hend =>
    intro u w1 hext hJ hend
    simp only [Bl.EndE, List.getElem?_cons_succ, List.getElem?_cons_zero, Option.bind_some, List.getD_cons_succ, List.getD_cons_zero, Bl.eqv, true_and] at hend
    simp only [Bl.fillAct, List.setIfInBounds_toArray, List.set_cons_succ, List.set_cons_zero, List.drop_succ_cons, List.drop_zero, hend]
    have HE2 := Bl.hid hext
    have HBl2 := Bl.hid (HBl.out.ext hext)
    have HBr2 := Bl.hid (HBr.out.ext hext)
    clear hext hend hJ hc0 hb hx2 hxl HBl HBr Hlk
    have Hld := Bl.hid (HBl2.out.load (P := Tryd.prog) Tryd.underlying26 rfl (by kernel_rfl))
    go_wp2_with (with_reducible refine Bl.stop_load (ty := 26) ?_)
    refine Bl.go_on ?_
    refine Bl.wpL_load rfl Hld.out ?_
    go_wp2_with fail
    refine (refusal_any _ l 11 w1 (HL.out.ext (HE1.out.trans HE2.out))).mono ?_
    rintro e w3 ⟨rfl, hE3⟩
    have HE3 := Bl.hid ((HE1.out.trans HE2.out).trans hE3)
    have HBr3 := Bl.hid (HBr2.out.ext hE3)
    clear hE3 Hld
    have hone := (Bl.LtC.refL w3 l 11).one
    have Hst := Bl.hid (HBr3.out.store (P := Tryd.prog) (cs' := Bl.cL (Bl.refL l 11) Bl.nilV Bl.nilV Bl.nilV) rfl hone (ty := 26) (by kernel_rfl))
    have HB4 := Bl.hid (HBr3.out.set (cs' := Bl.cL (Bl.refL l 11) Bl.nilV Bl.nilV Bl.nilV) rfl)
    have HE4 := Bl.hid (Bl.below_setCells (Bl.cL (Bl.refL l 11) Bl.nilV Bl.nilV Bl.nilV) (w.heap.size + 1) 0 _ HE3.out (Nat.le_succ _))
    clear hone
    go_wp2_with (with_reducible refine Bl.stop_store (ty := 26) ?_)
    refine Bl.go_on ?_
    refine Bl.wpL_store0 rfl rfl Hst.out ?_
    go_wp2_with fail
    exact bodyPost_ret (v := .agg (Bl.cL (Bl.refL l 11) Bl.nilV Bl.nilV Bl.nilV).toArray) (Bl.results_cell rfl rfl (HB4.out.loadVar (P := Tryd.prog) Tryd.underlying26 rfl (by kernel_rfl))) rfl ⟨rfl, HE4.out⟩
  case hJ0 => trivial
end Go.Proofs.YtglenbikdahgjaaDoor

/- Walks of shelf.Handle for an Ask where there is no such object; the alive of layer 25's laws. -/
namespace Go.Proofs.Bl
open Go Go.RowKit
/-- the letter of alive -/
def l25 : LT := ⟨3, 0, 0, [0], [], 0, 0, [], 0⟩
theorem l25_ok : chkL l25 = 0 := by decide
end Go.Proofs.Bl
namespace Go.Proofs.YtglenbikdahgjaaDoor
open Go Go.RowKit Go.Proofs

set_option maxRecDepth 100000 in
set_option maxHeartbeats 2000000 in
theorem handle_none (b m sb : Nat) (mp : List (Int × Value)) (v : Value) (l : Bl.LT) (w : World) (S : List Nat) (a : Nat → Addr) (hS : Shf0 w b m sb) (hM : Bl.MapAt w m mp) (hL : Bl.LtV w v l) (hn : Bl.getM mp l.obj = none) (hk : l.kind = 3) (hok : Bl.chkL l = 0) (he : Errs S a w) (s1 : 1 ∈ S) (s3 : 3 ∈ S) (s4 : 4 ∈ S) (s7 : 7 ∈ S) (s8 : 8 ∈ S) :
    Calls Tryd.prog 10 #[.pointer (some ⟨b, 0, none⟩), v] w fun e w' => e = .returned (.tuple #[.agg (Bl.cL (Bl.refL l 11) Bl.nilV Bl.nilV Bl.nilV).toArray, .bool true]) ∧ Bl.Ext w w' := by
  have HC := Bl.hid (fun w2 (h2 : Bl.Ext w w2) => lcheck_any v l w2 S a (hL.ext h2) (he.ext h2) s1 s3 s4 s7 s8)
  have HA := Bl.hid (fun w2 (h2 : Bl.Ext w w2) => ask_none b m sb mp v l w2 (hS.ext h2) (hM.ext h2) (hL.ext h2) hn)
  rw [hok, errN_zero] at HC
  obtain ⟨cs0, vp, vs, vb, L, rfl, hc⟩ := hL
  obtain rfl := hc.eq
  clear hc hS hM hn hok he
  obtain ⟨kd, id, oj, pl, sh, fr, ct, bl, cd⟩ := l
  simp only at hk
  subst hk
  obtain ⟨l, hl⟩ : ∃ l, l = (⟨3, id, oj, pl, sh, fr, ct, bl, cd⟩ : Bl.LT) := ⟨_, rfl⟩
  rw [← hl] at HC HA ⊢
  obtain ⟨W1, hW1⟩ : ∃ W1, W1 = (w.alloc (.cells (Bl.cL l vp vs vb).toArray 26)).alloc (.cells Bl.zL 26) := ⟨_, rfl⟩
  have hE0 := Bl.ext_alloc w (.cells (Bl.cL l vp vs vb).toArray 26)
  have hE1 := hE0.trans (Bl.ext_alloc (w.alloc (.cells (Bl.cL l vp vs vb).toArray 26)) (.cells Bl.zL 26))
  have HBl : Hid (Bl.BoxC W1 w.heap.size (Bl.cL l vp vs vb)) := Bl.hid (by rw [hW1]; exact (Bl.BoxC.box w 26 (Bl.cL_ne _ _ _ _)).ext (Bl.ext_alloc _ _))
  have HBr : Hid (Bl.BoxC W1 (w.heap.size + 1) Bl.zL.toList) := Bl.hid (by rw [hW1]; exact Bl.box2 w _ Bl.zL.toList _ _ (fun h => by cases h))
  rw [← hW1] at hE1
  have HE1 := Bl.hid hE1
  have Hl3 : Hid (l.kind = 3) := Bl.hid (by rw [hl])
  have hcl : Bl.cL l vp vs vb = [.int .i64 3, .int .i64 id, .int .i64 oj, vp, vs, .int .i64 fr, .int .i64 ct, vb, .int .i64 cd] := by rw [hl]; rfl
  have hx0 := HBl.out.cell (i := 0) (v := .int .i64 3) (by rw [hcl]; rfl)
  have Hld := Bl.hid (HBl.out.load (P := Tryd.prog) Tryd.underlying26 rfl (by kernel_rfl))
  rw [hcl] at hW1
  have HX0 := Bl.hid hx0
  clear hE0 hE1 hx0
  show Calls Tryd.prog 10 #[.pointer (some ⟨b, 0, none⟩), .agg (Bl.cL l vp vs vb).toArray] w _
  have HCL := Bl.hid hcl
  rw [hcl]
  clear hcl hl
  go_enter Tryd.func10, Tryd.ntmps10
  go_wp2_with (with_reducible refine Bl.stop_load (ty := 26) ?_)
  rw [← hW1]
  clear hW1
  refine Bl.go_on ?_
  refine Bl.wpL_load rfl Hld.out ?_
  go_wp2_with fail
  refine (HC.out W1 HE1.out).mono ?_
  rintro e w2 ⟨rfl, hE2⟩
  have HBl2 := Bl.hid (HBl.out.ext hE2)
  have HBr2 := Bl.hid (HBr.out.ext hE2)
  have HE2 := Bl.hid (HE1.out.trans hE2)
  have hx0 : w2.cell? ⟨w.heap.size, 0, none⟩ = some (.int .i64 3) := ((Bl.bcell hE2).1 _ _ HBl.out.lt).trans HX0.out
  have Hld2 := Bl.hid (HBl2.out.load (P := Tryd.prog) Tryd.underlying26 rfl (by kernel_rfl))
  clear hE2 HBl HBr HE1 Hld HC
  go_wp2_with (with_reducible refine Bl.stop_load (ty := 26) ?_)
  refine Bl.go_on ?_
  refine Bl.wpL_load rfl Hld2.out ?_
  go_wp2_with fail
  refine (HA.out w2 HE2.out).mono ?_
  rintro e w3 ⟨rfl, hE3⟩
  have HE3 := Bl.hid (HE2.out.trans hE3)
  have HBr3 := Bl.hid (HBr2.out.ext hE3)
  clear hE3 Hld2 hx0 HBl2 HBr2
  have hone := (Bl.LtC.refL w3 l 11).one
  have Hst := Bl.hid (HBr3.out.store (P := Tryd.prog) (cs' := Bl.cL (Bl.refL l 11) Bl.nilV Bl.nilV Bl.nilV) rfl hone (ty := 26) (by kernel_rfl))
  have HB4 := Bl.hid (HBr3.out.set (cs' := Bl.cL (Bl.refL l 11) Bl.nilV Bl.nilV Bl.nilV) rfl)
  have HE4 := Bl.hid (Bl.below_setCells (Bl.cL (Bl.refL l 11) Bl.nilV Bl.nilV Bl.nilV) (w.heap.size + 1) 0 _ HE3.out (Nat.le_succ _))
  clear hone
  go_wp2_with (with_reducible refine Bl.stop_store (ty := 26) ?_)
  refine Bl.go_on ?_
  refine Bl.wpL_store0 rfl rfl Hst.out ?_
  go_wp2_with fail
  exact bodyPost_ret (v := .tuple #[.agg (Bl.cL (Bl.refL l 11) Bl.nilV Bl.nilV Bl.nilV).toArray, .bool true]) (Bl.results_cell2 rfl rfl (HB4.out.loadVar (P := Tryd.prog) Tryd.underlying26 rfl (by kernel_rfl)) rfl) rfl ⟨rfl, HE4.out⟩

set_option maxRecDepth 100000 in
set_option maxHeartbeats 2000000 in
theorem alive25 (w : World) (S : List Nat) (a : Nat → Addr) (he : Errs S a w) (s1 : 1 ∈ S) (s3 : 3 ∈ S) (s4 : 4 ∈ S) (s7 : 7 ∈ S) (s8 : 8 ∈ S) :
    Calls Tryd.prog 5 #[] w fun e w' => e = .returned (.bool true) ∧ Bl.Ext w w' := by
  have He := Bl.hid he
  clear he
  go_enter Tryd.func5, Tryd.ntmps5
  go_wp2_with fail
  refine (snew_any w).mono ?_
  rintro e w1 ⟨b, m, sb, rfl, -, -, -, -, -, -, hS, -, hM, -, hE⟩
  have HS := Bl.hid hS
  have HM := Bl.hid hM
  have HE := Bl.hid hE
  clear hS hM hE
  go_wp2_with fail
  have hE2 := Bl.ext_alloc w1 (.cells #[.int .i64 0] 3)
  have hR : Bl.Rd (w1.alloc (.cells #[.int .i64 0] 3)) .i64 (.slice (some ⟨w1.heap.size, 0, none⟩) 1 1) [0] := Bl.rds_one w1 3 .i64 0
  have hL : Bl.LtV (w1.alloc (.cells #[.int .i64 0] 3)) (.agg #[.int .i64 3, .int .i64 0, .int .i64 0, .slice (some ⟨w1.heap.size, 0, none⟩) 1 1, .slice none 0 0, .int .i64 0, .int .i64 0, .slice none 0 0, .int .i64 0]) Bl.l25 :=
    ⟨_, _, _, _, [], rfl, rfl, hR, Bl.RdS.nil _, rfl, Bl.Rdss.nil _, fun b hb => by cases hb⟩
  refine (handle_none b m sb [] _ Bl.l25 _ S a (HS.out.ext hE2) (HM.out.ext hE2) hL rfl rfl Bl.l25_ok (He.out.ext (HE.out.trans hE2)) s1 s3 s4 s7 s8).mono ?_
  rintro e w3 ⟨rfl, hE3⟩
  have HE3 := Bl.hid ((HE.out.trans hE2).trans hE3)
  clear hE2 hR hL hE3
  obtain ⟨hB4, hE4⟩ := Bl.BoxC.fresh (cs := Bl.cL (Bl.refL Bl.l25 11) Bl.nilV Bl.nilV Bl.nilV) w3 26 Bl.zL rfl (Bl.cL_ne _ _ _ _)
  have Hst := Bl.hid (Bl.fresh_store (P := Tryd.prog) (cs := Bl.cL (Bl.refL Bl.l25 11) Bl.nilV Bl.nilV Bl.nilV) w3 26 Bl.zL rfl (Bl.LtC.refL w3 Bl.l25 11).one (ty := 26) (by kernel_rfl))
  have HE4 := Bl.hid (HE3.out.trans hE4)
  have hq0 := hB4.cell (i := 0) (v := .int .i64 7) rfl
  have hq8 := hB4.cell (i := 8) (v := .int .i64 11) rfl
  clear hB4 hE4
  go_wp2_with (with_reducible refine Bl.stop_store (ty := 26) ?_)
  refine Bl.go_on ?_
  refine Bl.wpL_store0 rfl rfl Hst.out ?_
  generalize (w3.alloc (.cells Bl.zL 26)).setCells w3.heap.size 0 (Bl.cL (Bl.refL Bl.l25 11) Bl.nilV Bl.nilV Bl.nilV) = W4 at *
  generalize w3.heap.size = X4 at *
  clear Hst
  go_wp2_with fail
  go_ret
  exact ⟨rfl, HE4.out⟩
end Go.Proofs.YtglenbikdahgjaaDoor

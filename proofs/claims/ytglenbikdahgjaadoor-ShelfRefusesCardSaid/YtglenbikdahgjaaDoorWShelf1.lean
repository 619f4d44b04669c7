/- Walks of shelf.Handle for an Ask where there is no such object; the alive of layer 25's laws. -/
import Derived.Test.YtglenbikdahgjaaDoorWShelf0
namespace Go.Proofs.Bl
open Go Go.RowKit
/-- the letter of alive -/
def l25 : LT := ⟨3, 0, 0, [0], [], 0, 0, [], 0⟩
theorem l25_ok : chkL l25 = 0 := by decide
end Go.Proofs.Bl
namespace Go.Proofs.YtglenbikdahgjaaDoor
open Go Go.RowKit Go.Proofs

set_option maxRecDepth 100000 in
set_option maxHeartbeats 2000000 in
theorem handle_none (b m sb : Nat) (mp : List (Int × Value)) (v : Value) (l : Bl.LT) (w : World) (S : List Nat) (a : Nat → Addr) (hS : Shf0 w b m sb) (hM : Bl.MapAt w m mp) (hL : Bl.LtV w v l) (hn : Bl.getM mp l.obj = none) (hk : l.kind = 3) (hok : Bl.chkL l = 0) (he : Errs S a w) (s1 : 1 ∈ S) (s3 : 3 ∈ S) (s4 : 4 ∈ S) (s7 : 7 ∈ S) (s8 : 8 ∈ S) :
    Calls Tryd.prog 10 #[.pointer (some ⟨b, 0, none⟩), v] w fun e w' => e = .returned (.tuple #[.agg (Bl.cL (Bl.refL l 11) Bl.nilV Bl.nilV Bl.nilV).toArray, .bool true]) ∧ Bl.Ext w w' := by
  have HC := Bl.hid (fun w2 (h2 : Bl.Ext w w2) => lcheck_any v l w2 S a (hL.ext h2) (he.ext h2) s1 s3 s4 s7 s8)
  have HA := Bl.hid (fun w2 (h2 : Bl.Ext w w2) => ask_none b m sb mp v l w2 (hS.ext h2) (hM.ext h2) (hL.ext h2) hn)
  rw [hok, errN_zero] at HC
  obtain ⟨cs0, vp, vs, vb, L, rfl, hc⟩ := hL
  obtain rfl := hc.eq
  clear hc hS hM hn hok he
  obtain ⟨kd, id, oj, pl, sh, fr, ct, bl, cd⟩ := l
  simp only at hk
  subst hk
  obtain ⟨l, hl⟩ : ∃ l, l = (⟨3, id, oj, pl, sh, fr, ct, bl, cd⟩ : Bl.LT) := ⟨_, rfl⟩
  rw [← hl] at HC HA ⊢
  obtain ⟨W1, hW1⟩ : ∃ W1, W1 = (w.alloc (.cells (Bl.cL l vp vs vb).toArray 26)).alloc (.cells Bl.zL 26) := ⟨_, rfl⟩
  have hE0 := Bl.ext_alloc w (.cells (Bl.cL l vp vs vb).toArray 26)
  have hE1 := hE0.trans (Bl.ext_alloc (w.alloc (.cells (Bl.cL l vp vs vb).toArray 26)) (.cells Bl.zL 26))
  have HBl : Hid (Bl.BoxC W1 w.heap.size (Bl.cL l vp vs vb)) := Bl.hid (by rw [hW1]; exact (Bl.BoxC.box w 26 (Bl.cL_ne _ _ _ _)).ext (Bl.ext_alloc _ _))
  have HBr : Hid (Bl.BoxC W1 (w.heap.size + 1) Bl.zL.toList) := Bl.hid (by rw [hW1]; exact Bl.box2 w _ Bl.zL.toList _ _ (fun h => by cases h))
  rw [← hW1] at hE1
  have HE1 := Bl.hid hE1
  have Hl3 : Hid (l.kind = 3) := Bl.hid (by rw [hl])
  have hcl : Bl.cL l vp vs vb = [.int .i64 3, .int .i64 id, .int .i64 oj, vp, vs, .int .i64 fr, .int .i64 ct, vb, .int .i64 cd] := by rw [hl]; rfl
  have hx0 := HBl.out.cell (i := 0) (v := .int .i64 3) (by rw [hcl]; rfl)
  have Hld := Bl.hid (HBl.out.load (P := Tryd.prog) Tryd.underlying26 rfl (by kernel_rfl))
  rw [hcl] at hW1
  have HX0 := Bl.hid hx0
  clear hE0 hE1 hx0
  show Calls Tryd.prog 10 #[.pointer (some ⟨b, 0, none⟩), .agg (Bl.cL l vp vs vb).toArray] w _
  have HCL := Bl.hid hcl
  rw [hcl]
  clear hcl hl
  go_enter Tryd.func10, Tryd.ntmps10
  go_wp2_with (with_reducible refine Bl.stop_load (ty := 26) ?_)
  rw [← hW1]
  clear hW1
  refine Bl.go_on ?_
  refine Bl.wpL_load rfl Hld.out ?_
  go_wp2_with fail
  refine (HC.out W1 HE1.out).mono ?_
  rintro e w2 ⟨rfl, hE2⟩
  have HBl2 := Bl.hid (HBl.out.ext hE2)
  have HBr2 := Bl.hid (HBr.out.ext hE2)
  have HE2 := Bl.hid (HE1.out.trans hE2)
  have hx0 : w2.cell? ⟨w.heap.size, 0, none⟩ = some (.int .i64 3) := ((Bl.bcell hE2).1 _ _ HBl.out.lt).trans HX0.out
  have Hld2 := Bl.hid (HBl2.out.load (P := Tryd.prog) Tryd.underlying26 rfl (by kernel_rfl))
  clear hE2 HBl HBr HE1 Hld HC
  go_wp2_with (with_reducible refine Bl.stop_load (ty := 26) ?_)
  refine Bl.go_on ?_
  refine Bl.wpL_load rfl Hld2.out ?_
  go_wp2_with fail
  refine (HA.out w2 HE2.out).mono ?_
  rintro e w3 ⟨rfl, hE3⟩
  have HE3 := Bl.hid (HE2.out.trans hE3)
  have HBr3 := Bl.hid (HBr2.out.ext hE3)
  clear hE3 Hld2 hx0 HBl2 HBr2
  have hone := (Bl.LtC.refL w3 l 11).one
  have Hst := Bl.hid (HBr3.out.store (P := Tryd.prog) (cs' := Bl.cL (Bl.refL l 11) Bl.nilV Bl.nilV Bl.nilV) rfl hone (ty := 26) (by kernel_rfl))
  have HB4 := Bl.hid (HBr3.out.set (cs' := Bl.cL (Bl.refL l 11) Bl.nilV Bl.nilV Bl.nilV) rfl)
  have HE4 := Bl.hid (Bl.below_setCells (Bl.cL (Bl.refL l 11) Bl.nilV Bl.nilV Bl.nilV) (w.heap.size + 1) 0 _ HE3.out (Nat.le_succ _))
  clear hone
  go_wp2_with (with_reducible refine Bl.stop_store (ty := 26) ?_)
  refine Bl.go_on ?_
  refine Bl.wpL_store0 rfl rfl Hst.out ?_
  go_wp2_with fail
  exact bodyPost_ret (v := .tuple #[.agg (Bl.cL (Bl.refL l 11) Bl.nilV Bl.nilV Bl.nilV).toArray, .bool true]) (Bl.results_cell2 rfl rfl (HB4.out.loadVar (P := Tryd.prog) Tryd.underlying26 rfl (by kernel_rfl)) rfl) rfl ⟨rfl, HE4.out⟩

set_option maxRecDepth 100000 in
set_option maxHeartbeats 2000000 in
theorem alive25 (w : World) (S : List Nat) (a : Nat → Addr) (he : Errs S a w) (s1 : 1 ∈ S) (s3 : 3 ∈ S) (s4 : 4 ∈ S) (s7 : 7 ∈ S) (s8 : 8 ∈ S) :
    Calls Tryd.prog 5 #[] w fun e w' => e = .returned (.bool true) ∧ Bl.Ext w w' := by
  have He := Bl.hid he
  clear he
  go_enter Tryd.func5, Tryd.ntmps5
  go_wp2_with fail
  refine (snew_any w).mono ?_
  rintro e w1 ⟨b, m, sb, rfl, -, -, -, -, -, -, hS, -, hM, -, hE⟩
  have HS := Bl.hid hS
  have HM := Bl.hid hM
  have HE := Bl.hid hE
  clear hS hM hE
  go_wp2_with fail
  have hE2 := Bl.ext_alloc w1 (.cells #[.int .i64 0] 3)
  have hR : Bl.Rd (w1.alloc (.cells #[.int .i64 0] 3)) .i64 (.slice (some ⟨w1.heap.size, 0, none⟩) 1 1) [0] := Bl.rds_one w1 3 .i64 0
  have hL : Bl.LtV (w1.alloc (.cells #[.int .i64 0] 3)) (.agg #[.int .i64 3, .int .i64 0, .int .i64 0, .slice (some ⟨w1.heap.size, 0, none⟩) 1 1, .slice none 0 0, .int .i64 0, .int .i64 0, .slice none 0 0, .int .i64 0]) Bl.l25 :=
    ⟨_, _, _, _, [], rfl, rfl, hR, Bl.RdS.nil _, rfl, Bl.Rdss.nil _, fun b hb => by cases hb⟩
  refine (handle_none b m sb [] _ Bl.l25 _ S a (HS.out.ext hE2) (HM.out.ext hE2) hL rfl rfl Bl.l25_ok (He.out.ext (HE.out.trans hE2)) s1 s3 s4 s7 s8).mono ?_
  rintro e w3 ⟨rfl, hE3⟩
  have HE3 := Bl.hid ((HE.out.trans hE2).trans hE3)
  clear hE2 hR hL hE3
  obtain ⟨hB4, hE4⟩ := Bl.BoxC.fresh (cs := Bl.cL (Bl.refL Bl.l25 11) Bl.nilV Bl.nilV Bl.nilV) w3 26 Bl.zL rfl (Bl.cL_ne _ _ _ _)
  have Hst := Bl.hid (Bl.fresh_store (P := Tryd.prog) (cs := Bl.cL (Bl.refL Bl.l25 11) Bl.nilV Bl.nilV Bl.nilV) w3 26 Bl.zL rfl (Bl.LtC.refL w3 Bl.l25 11).one (ty := 26) (by kernel_rfl))
  have HE4 := Bl.hid (HE3.out.trans hE4)
  have hq0 := hB4.cell (i := 0) (v := .int .i64 7) rfl
  have hq8 := hB4.cell (i := 8) (v := .int .i64 11) rfl
  clear hB4 hE4
  go_wp2_with (with_reducible refine Bl.stop_store (ty := 26) ?_)
  refine Bl.go_on ?_
  refine Bl.wpL_store0 rfl rfl Hst.out ?_
  generalize (w3.alloc (.cells Bl.zL 26)).setCells w3.heap.size 0 (Bl.cL (Bl.refL Bl.l25 11) Bl.nilV Bl.nilV Bl.nilV) = W4 at *
  generalize w3.heap.size = X4 at *
  clear Hst
  go_wp2_with fail
  go_ret
  exact ⟨rfl, HE4.out⟩
end Go.Proofs.YtglenbikdahgjaaDoor

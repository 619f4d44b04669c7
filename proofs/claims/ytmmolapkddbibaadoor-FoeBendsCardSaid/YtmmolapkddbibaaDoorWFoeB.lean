/- Walk of the law FoeBends. -/
import Derived.Test.YtmmolapkddbibaaDoorFoeJ
import Derived.Test.YtmmolapkddbibaaDoorLet2b
import Derived.Test.YtmmolapkddbibaaDoorLet1
import Derived.Test.YtmmolapkddbibaaDoorZs
namespace Go.Proofs.YtmmolapkddbibaaDoor
open Go Go.RowKit Go.Proofs
def tenW : Array Value := #[.string ⟨#[110, 111, 110, 101]⟩, .string ⟨#[98, 108, 111, 99, 107]⟩, .string ⟨#[112, 97, 116, 104]⟩, .string ⟨#[115, 119, 97, 112]⟩, .string ⟨#[99, 117, 116]⟩, .string ⟨#[112, 108, 97, 99, 101]⟩, .string ⟨#[114, 101, 102, 117, 115, 101]⟩, .string ⟨#[105, 100]⟩, .string ⟨#[111, 98, 106, 101, 99, 116]⟩, .string ⟨#[115, 105, 108, 101, 110, 99, 101]⟩]
theorem ten_at (j : Nat) (h : j < 10) : tenW[j]? = some (.string (fword j)) := by
  have hc : j = 0 ∨ j = 1 ∨ j = 2 ∨ j = 3 ∨ j = 4 ∨ j = 5 ∨ j = 6 ∨ j = 7 ∨ j = 8 ∨ j = 9 := by omega
  rcases hc with rfl | rfl | rfl | rfl | rfl | rfl | rfl | rfl | rfl | rfl <;> rfl

set_option maxRecDepth 100000 in
set_option maxHeartbeats 8000000 in
theorem foebends_all (v1 : Value) (k at' y : Int) (x : Bl.LT) (w : World) (h1 : Bl.LtV w v1 x) (hg : GlobW w) :
    Calls Tryd.prog 3 #[v1, .agg #[.int .i64 k, .int .i64 at', .int .i64 y]] w fun e w' => e = .returned (.bool true) ∧ Bl.Ext w w' := by
  have H1 := Bl.hid h1
  have HAl : Hid (∀ w2, Bl.Ext w w2 → Calls Tryd.prog 7 #[] w2 fun e w' => e = .returned (.bool true) ∧ Bl.Ext w2 w') := Bl.hid fun w2 h2 => alive29 w2 (hg.ext h2)
  obtain ⟨Z, hZ⟩ : ∃ Z, Z = fword k := ⟨_, rfl⟩
  have HZ := Bl.hid hZ
  have HWd : Hid (∀ w2, Bl.Ext w w2 → Calls Tryd.prog 13 #[.int .i64 k] w2 fun e w' => e = .returned (.string Z) ∧ w2 = w') := Bl.hid fun w2 h2 => by rw [hZ]; exact fword_any k w2 (hg.ext h2)
  have HHo : Hid (∀ w2, Calls Tryd.prog 14 #[.agg #[.int .i64 k, .int .i64 at', .int .i64 y]] w2 fun e w' => e = .returned (.bool (k == 0)) ∧ Bl.Ext w2 w') := Bl.hid fun w2 => honest_any k at' y w2
  obtain ⟨cs1, pa, sa, ba, L, rfl, ha⟩ := h1
  obtain rfl := ha.eq
  clear ha hg hZ
  obtain ⟨W0, hW0⟩ : ∃ W0, W0 = (w.alloc (.cells (Bl.cL x pa sa ba).toArray 26)).alloc (.cells #[.int .i64 k, .int .i64 at', .int .i64 y] 28) := ⟨_, rfl⟩
  have HE0 : Hid (Bl.Ext w W0) := Bl.hid (by rw [hW0]; exact (Bl.ext_alloc _ _).trans (Bl.ext_alloc _ _))
  have HBa : Hid (Bl.BoxC W0 w.heap.size (Bl.cL x pa sa ba)) := Bl.hid (by rw [hW0]; exact (Bl.BoxC.box w 26 (Bl.cL_ne _ _ _ _)).ext (Bl.ext_alloc _ _))
  have HBt : Hid (Bl.BoxC W0 (w.heap.size + 1) [.int .i64 k, .int .i64 at', .int .i64 y]) := Bl.hid (by rw [hW0]; exact Bl.box2 w _ _ _ _ (fun q => by cases q))
  unfold Bl.cL at hW0
  show Calls Tryd.prog 3 #[.agg #[.int .i64 x.kind, .int .i64 x.id, .int .i64 x.obj, pa, sa, .int .i64 x.frm, .int .i64 x.cnt, ba, .int .i64 x.code], .agg #[.int .i64 k, .int .i64 at', .int .i64 y]] w _
  go_enter Tryd.func3, Tryd.ntmps3
  go_wp2_with fail
  rw [← hW0]
  clear hW0
  refine (HAl.out W0 HE0.out).mono ?_
  rintro e w1 ⟨rfl, hE1⟩
  have HE1 := Bl.hid (HE0.out.trans hE1)
  have HBa1 := Bl.hid (HBa.out.ext hE1)
  have HBt1 := Bl.hid (HBt.out.ext hE1)
  clear hE1 HBa HBt HE0 HAl
  have Hl1 := Bl.hid (HBa1.out.load (P := Tryd.prog) Tryd.underlying26 rfl (by kernel_rfl))
  go_wp2_with (with_reducible refine Bl.stop_load (ty := 26) ?_)
  refine Bl.go_on ?_
  refine Bl.wpL_load rfl Hl1.out ?_

  go_wp2_with fail
  refine (long22_any _ x w1 (H1.out.ext HE1.out)).mono ?_
  rintro e w2 ⟨hor, hE2⟩
  have HE2 := Bl.hid (HE1.out.trans hE2)
  have HBa2 := Bl.hid (HBa1.out.ext hE2)
  have HBt2 := Bl.hid (HBt1.out.ext hE2)
  clear hE2 HBa1 HBt1 HE1 Hl1
  rcases hor with rfl | ⟨rfl, hl1⟩
  · go_wp2_with fail
    go_ret
    exact ⟨rfl, HE2.out⟩
  have Hlg := Bl.hid hl1
  clear hl1
  have qid := HBa2.out.cell (i := 1) (v := .int .i64 x.id) rfl
  by_cases hi1 : x.id < -1125899906842624
  · go_wp2_with fail
    go_ret
    exact ⟨rfl, HE2.out⟩
  by_cases hi2 : 1125899906842624 < x.id
  · go_wp2_with fail
    go_ret
    exact ⟨rfl, HE2.out⟩
  obtain ⟨z, hz⟩ : ∃ z, z = (Bl.bendL k at' y x).1 := ⟨_, rfl⟩
  obtain ⟨q, hq⟩ : ∃ q, q = (Bl.bendL k at' y x).2 := ⟨_, rfl⟩
  have Hsz : Hid (z.shown.length ≤ 30 ∧ Bl.Pl40 z.shown) := Bl.hid (by rw [hz]; exact Bl.bendL_sz Hlg.out)
  have HBe : Hid (∀ w2, Bl.Ext w w2 → Calls Tryd.prog 10 #[.agg (Bl.cL x pa sa ba).toArray, .agg #[.int .i64 k, .int .i64 at', .int .i64 y]] w2 fun e w' => ∃ v', e = .returned (.tuple #[v', .bool q]) ∧ Bl.LtV w' v' z ∧ Bl.Ext w2 w') := Bl.hid fun w2 h => by
    rw [hz, hq]
    exact bend_any k at' y _ x w2 (H1.out.ext h) Hlg.out ⟨by omega, by omega⟩
  have HRb : Hid (∀ w2 v2, Bl.LtV w2 v2 x → Calls Tryd.prog 11 #[v2, .int .i64 k, .int .i64 at', .int .i64 y] w2 fun e w' => ∃ v', e = .returned (.tuple #[v', .bool q]) ∧ Bl.LtV w' v' z ∧ Bl.Ext w2 w') := Bl.hid fun w2 v2 h => by
    rw [hz, hq]
    exact refbend_any k at' y _ x w2 h Hlg.out ⟨by omega, by omega⟩
  have HOx : Hid (∀ w2, Bl.Ext w w2 → Calls Tryd.prog 9 #[.agg (Bl.cL x pa sa ba).toArray] w2 fun e w' => ∃ v', e = .returned v' ∧ Bl.LtV w' v' x ∧ Bl.Ext w2 w') := Bl.hid fun w2 h => of22_any _ x w2 (H1.out.ext h) (by have := Hlg.out.sh; omega) (fun s hs => by have := (Hlg.out.st s hs).2; omega)
  have Hl2 := Bl.hid (HBa2.out.load (P := Tryd.prog) Tryd.underlying26 rfl (by kernel_rfl))
  clear hz hq
  go_wp2_with (with_reducible refine Bl.stop_load (ty := 26) ?_)
  refine Bl.go_on ?_
  refine Bl.wpL_load rfl Hl2.out ?_

  clear qid hi1 hi2
  go_wp2_with fail
  refine (HOx.out w2 HE2.out).mono ?_
  rintro e w3 ⟨v3, rfl, ⟨cs3, p3, s3, b3, L3, rfl, hc3⟩, hE3⟩
  obtain rfl := hc3.eq
  have HL5 : Hid (Bl.LtV w3 (.agg (Bl.cL x p3 s3 b3).toArray) x) := Bl.hid ⟨_, _, _, _, _, rfl, hc3⟩

  obtain ⟨hB5, hE5⟩ := Bl.BoxC.fresh (cs := (Bl.cL x p3 s3 b3)) w3 33 Bl.zL rfl (Bl.cL_ne _ _ _ _)
  have Hst5 := Bl.hid (Bl.fresh_store (P := Tryd.prog) (cs := (Bl.cL x p3 s3 b3)) w3 33 Bl.zL rfl hc3.one (ty := 33) (by kernel_rfl))
  have HB5 := Bl.hid hB5
  have HF5 := Bl.hid (hE3.trans hE5)
  have HG5 := Bl.hid hE5
  clear hB5 hE5 hc3
  go_wp2_with (with_reducible refine Bl.stop_store (ty := 33) ?_)
  refine Bl.go_on ?_
  refine Bl.wpL_store0 rfl rfl Hst5.out ?_
  obtain ⟨W5, hW5⟩ : ∃ W, W = (w3.alloc (.cells Bl.zL 33)).setCells w3.heap.size 0 (Bl.cL x p3 s3 b3) := ⟨_, rfl⟩
  obtain ⟨D5, hD5⟩ : ∃ D, D = w3.heap.size := ⟨_, rfl⟩
  rw [← hW5] at HB5 HF5 HG5 ⊢
  rw [← hD5] at HB5 ⊢
  clear hW5 hD5 Hst5

  have HE5 := Bl.hid (HE2.out.trans HF5.out)
  have HBa5 := Bl.hid (HBa2.out.ext HF5.out)
  have HBt5 := Bl.hid (HBt2.out.ext HF5.out)
  have HLv5 : Hid (Bl.LtV W5 (.agg (Bl.cL x p3 s3 b3).toArray) x) := Bl.hid (HL5.out.ext HG5.out)
  clear Hl2 HBa2 HBt2
  have Hl5 := Bl.hid (HBa5.out.load (P := Tryd.prog) Tryd.underlying26 rfl (by kernel_rfl))
  have Hl5t := Bl.hid (HBt5.out.load (P := Tryd.prog) Tryd.underlying28 rfl (by kernel_rfl))
  go_wp2_with (with_reducible refine Bl.stop_load (ty := 26) ?_)
  refine Bl.go_on ?_
  refine Bl.wpL_load rfl Hl5.out ?_
  go_wp2_with (with_reducible refine Bl.stop_load (ty := 28) ?_)
  refine Bl.go_on ?_
  refine Bl.wpL_load rfl Hl5t.out ?_

  go_wp2_with fail
  refine (HBe.out W5 HE5.out).mono ?_
  rintro e w6 ⟨v6, rfl, ⟨cs6, p6, s6, b6, L6, rfl, hc6⟩, hE6⟩
  obtain rfl := hc6.eq
  have HL7 : Hid (Bl.LtV w6 (.agg (Bl.cL z p6 s6 b6).toArray) z) := Bl.hid ⟨_, _, _, _, _, rfl, hc6⟩

  obtain ⟨hB7, hE7⟩ := Bl.BoxC.fresh (cs := (Bl.cL z p6 s6 b6)) w6 26 Bl.zL rfl (Bl.cL_ne _ _ _ _)
  have Hst7 := Bl.hid (Bl.fresh_store (P := Tryd.prog) (cs := (Bl.cL z p6 s6 b6)) w6 26 Bl.zL rfl hc6.one (ty := 26) (by kernel_rfl))
  have HB7 := Bl.hid hB7
  have HF7 := Bl.hid (hE6.trans hE7)
  have HG7 := Bl.hid hE7
  clear hB7 hE7 hc6
  go_wp2_with (with_reducible refine Bl.stop_store (ty := 26) ?_)
  refine Bl.go_on ?_
  refine Bl.wpL_store0 rfl rfl Hst7.out ?_
  obtain ⟨W7, hW7⟩ : ∃ W, W = (w6.alloc (.cells Bl.zL 26)).setCells w6.heap.size 0 (Bl.cL z p6 s6 b6) := ⟨_, rfl⟩
  obtain ⟨D7, hD7⟩ : ∃ D, D = w6.heap.size := ⟨_, rfl⟩
  rw [← hW7] at HB7 HF7 HG7 ⊢
  rw [← hD7] at HB7 ⊢
  clear hW7 hD7 Hst7

  have HE7 := Bl.hid (HE5.out.trans HF7.out)
  have HBa7 := Bl.hid (HBa5.out.ext HF7.out)
  have HBt7 := Bl.hid (HBt5.out.ext HF7.out)
  have HB57 := Bl.hid (HB5.out.ext HF7.out)
  have HLv7 : Hid (Bl.LtV W7 (.agg (Bl.cL z p6 s6 b6).toArray) z) := Bl.hid (HL7.out.ext HG7.out)
  have HLw5 := Bl.hid (HLv5.out.ext HF7.out)
  clear Hl5 Hl5t HBa5 HBt5 HB5
  have Hl7 := Bl.hid (HB57.out.load (P := Tryd.prog) Tryd.underlying33 rfl (by kernel_rfl))
  have q0 := HBt7.out.cell (i := 0) (v := .int .i64 k) rfl
  have q1 := HBt7.out.cell (i := 1) (v := .int .i64 at') rfl
  have q2 := HBt7.out.cell (i := 2) (v := .int .i64 y) rfl
  go_wp2_with (with_reducible refine Bl.stop_load (ty := 33) ?_)
  refine Bl.go_on ?_
  refine Bl.wpL_load rfl Hl7.out ?_

  go_wp2_with fail
  refine (HRb.out W7 _ HLw5.out).mono ?_
  rintro e w8 ⟨v8, rfl, ⟨cs8, p8, s8, b8, L8, rfl, hc8⟩, hV8⟩
  obtain rfl := hc8.eq
  clear q0 q1 q2
  have HL9 : Hid (Bl.LtV w8 (.agg (Bl.cL z p8 s8 b8).toArray) z) := Bl.hid ⟨_, _, _, _, _, rfl, hc8⟩

  obtain ⟨hB8, hE8⟩ := Bl.BoxC.fresh (cs := (Bl.cL z p8 s8 b8)) w8 33 Bl.zL rfl (Bl.cL_ne _ _ _ _)
  have Hst8 := Bl.hid (Bl.fresh_store (P := Tryd.prog) (cs := (Bl.cL z p8 s8 b8)) w8 33 Bl.zL rfl hc8.one (ty := 33) (by kernel_rfl))
  have HB8 := Bl.hid hB8
  have HF8 := Bl.hid (hV8.trans hE8)
  have HG8 := Bl.hid hE8
  clear hB8 hE8 hc8
  go_wp2_with (with_reducible refine Bl.stop_store (ty := 33) ?_)
  refine Bl.go_on ?_
  refine Bl.wpL_store0 rfl rfl Hst8.out ?_
  obtain ⟨W8, hW8⟩ : ∃ W, W = (w8.alloc (.cells Bl.zL 33)).setCells w8.heap.size 0 (Bl.cL z p8 s8 b8) := ⟨_, rfl⟩
  obtain ⟨D8, hD8⟩ : ∃ D, D = w8.heap.size := ⟨_, rfl⟩
  rw [← hW8] at HB8 HF8 HG8 ⊢
  rw [← hD8] at HB8 ⊢
  clear hW8 hD8 Hst8

  have HE8 := Bl.hid (HE7.out.trans HF8.out)
  have HBa8 := Bl.hid (HBa7.out.ext HF8.out)
  have HBt8 := Bl.hid (HBt7.out.ext HF8.out)
  have HB58 := Bl.hid (HB57.out.ext HF8.out)
  have HB68 := Bl.hid (HB7.out.ext HF8.out)
  have HLv8 : Hid (Bl.LtV W8 (.agg (Bl.cL z p8 s8 b8).toArray) z) := Bl.hid (HL9.out.ext HG8.out)
  have HLw7 := Bl.hid (HLv7.out.ext HF8.out)
  have HLx := Bl.hid (HLw5.out.ext HF8.out)
  clear Hl7 HBa7 HBt7 HB57 HB7 HL5 HL7 HL9 HLv5 HLv7 HLw5 HE5 HE7 HE2
  have HOz : Hid (∀ w2, Bl.Ext W8 w2 → Calls Tryd.prog 9 #[.agg (Bl.cL z p6 s6 b6).toArray] w2 fun e w' => ∃ v', e = .returned v' ∧ Bl.LtV w' v' z ∧ Bl.Ext w2 w') := Bl.hid fun w2 h => of22_any _ z w2 (HLw7.out.ext h) (by have := Hsz.out.1; omega) (fun s hs => by have := Hsz.out.2 s hs; omega)
  have HRsz : Hid (∀ w2 va, Bl.Ext W8 w2 → Bl.LtV w2 va z → Calls Tryd.prog 12 #[va, .agg (Bl.cL z p8 s8 b8).toArray] w2 fun e w' => e = .returned (.bool true) ∧ Bl.Ext w2 w') := Bl.hid fun w2 va h h2 => by
    have h3 := rsame22_any va _ z z w2 h2 (HLv8.out.ext h)
    rw [show Bl.sameL z z = true by simp [Bl.sameL]] at h3
    exact h3
  have HRsx : Hid (∀ w2 va, Bl.Ext W8 w2 → Bl.LtV w2 va x → Calls Tryd.prog 12 #[va, .agg (Bl.cL x p3 s3 b3).toArray] w2 fun e w' => e = .returned (.bool true) ∧ Bl.Ext w2 w') := Bl.hid fun w2 va h h2 => by
    have h3 := rsame22_any va _ x x w2 h2 (HLx.out.ext h)
    rw [show Bl.sameL x x = true by simp [Bl.sameL]] at h3
    exact h3
  have q0 := HBt8.out.cell (i := 0) (v := .int .i64 k) rfl
  by_cases hr : 0 ≤ k ∧ k ≤ 9
  · obtain ⟨hr0, hr9⟩ := hr
    obtain ⟨j, rfl⟩ : ∃ j : Nat, k = (j : Int) := ⟨k.toNat, by omega⟩
    have hj : j < 10 := by omega
    have hj1 : (j : Int) < 10 := by omega
    have HE9 : Hid (Bl.Ext W8 (W8.alloc (.cells tenW 9))) := Bl.hid (Bl.ext_alloc _ _)
    have qc : (W8.alloc (.cells tenW 9)).cell? ⟨W8.heap.size, j, none⟩ = some (.string Z) := by
      rw [HZ.out, World.cell?_alloc_new]
      exact ten_at j hj
    have qt := (HBt8.out.ext HE9.out).cell (i := 0) (v := .int .i64 j) rfl
    obtain ⟨W9, hW9⟩ : ∃ W, W = W8.alloc (.cells tenW 9) := ⟨_, rfl⟩
    rw [← hW9] at HE9
    have HE99 := Bl.hid (HE8.out.trans HE9.out)
    have HBa9 := Bl.hid (HBa8.out.ext HE9.out)
    have HBt9 := Bl.hid (HBt8.out.ext HE9.out)
    have HB59 := Bl.hid (HB58.out.ext HE9.out)
    have HB69 := Bl.hid (HB68.out.ext HE9.out)
    have HB89 := Bl.hid (HB8.out.ext HE9.out)
    have HEz := HE9
    have HE8z := HE9
    have HE5z := HE9
    unfold tenW at hW9 qc qt
    clear HBa8 HBt8 HB58 HB68 HB8
    go_wp2_with fail
    rw [← hW9]
    clear hW9 qc qt q0 hr0 hr9 hj hj1
    have Hl2 := Bl.hid (fun w2 (h : Bl.Ext W9 w2) => (HBa9.out.ext h).load (P := Tryd.prog) Tryd.underlying26 rfl (by kernel_rfl))
    have Hl5 := Bl.hid (fun w2 (h : Bl.Ext W9 w2) => (HB59.out.ext h).load (P := Tryd.prog) Tryd.underlying33 rfl (by kernel_rfl))
    have Hl6 := Bl.hid (fun w2 (h : Bl.Ext W9 w2) => (HB69.out.ext h).load (P := Tryd.prog) Tryd.underlying26 rfl (by kernel_rfl))
    have Hl8 := Bl.hid (fun w2 (h : Bl.Ext W9 w2) => (HB89.out.ext h).load (P := Tryd.prog) Tryd.underlying33 rfl (by kernel_rfl))
    have Hlt := Bl.hid (fun w2 (h : Bl.Ext W9 w2) => (HBt9.out.ext h).load (P := Tryd.prog) Tryd.underlying28 rfl (by kernel_rfl))
    apply Bl.wp_region_ev 30 [57, 58, 59, 60, 61, 62, 63, 64, 65, 66, 67, 68, 69, 70, 71, 72, 73, 74, 75, 76, 77, 78, 79, 80, 81, 82, 83, 84, 85, 86] [Bl.eqv _, Bl.eqv _, Bl.eqv _, Bl.eqv _, Bl.eqv _, (fun v w' => Bl.LtV w' v z), Bl.eqv _, Bl.eqv _, Bl.eqv _, Bl.eqv _, Bl.eqv _, (fun v w' => Bl.LtV w' v x), Bl.eqv _, Bl.eqv _, Bl.eqv _, Bl.eqv _, Bl.eqv _, Bl.eqv _, Bl.eqv _, Bl.eqv _, Bl.eqv _, Bl.eqv _, Bl.eqv _, Bl.eqv _, Bl.eqv _, Bl.eqv _, Bl.eqv _, Bl.eqv _, Bl.eqv _, Bl.eqv _] (by kernel_rfl) (by kernel_rfl) (by kernel_rfl) (by kernel_rfl)
    case hsteps =>
      refine ⟨?_, ?_, ?_, ?_, ?_, ?_, ?_, ?_, ?_, ?_, ?_, ?_, ?_, ?_, ?_, ?_, ?_, ?_, ?_, ?_, ?_, ?_, ?_, ?_, ?_, ?_, ?_, ?_, ?_, ?_, trivial⟩
      all_goals
        intro ev w1 hext hb hd
        have e2 := hb 2 (by decide)
        have e3 := hb 3 (by decide)
        have e5 := hb 5 (by decide)
        have e6 := hb 6 (by decide)
        have e7 := hb 7 (by decide)
        have e8 := hb 8 (by decide)
        have e9 := hb 9 (by decide)
        have e10 := hb 10 (by decide)
        clear hb
        simp only [Array.getD_eq_getD_getElem?, List.getElem?_toArray, List.getElem?_cons_succ, List.getElem?_cons_zero, Option.getD_some] at e2 e3 e5 e6 e7 e8 e9 e10
        simp only [Bl.DepsE, List.getElem?_cons_succ, List.getElem?_cons_zero, Option.bind_some, List.getD_cons_succ, List.getD_cons_zero, Bl.eqv, and_true] at hd
        have hc := (Bl.bcell hext).1
        have hwx := HE99.out.trans hext
        have c0 := (HBt9.out.ext hext).cell (i := 0) rfl
        simp only [Bl.Good, Region.wanted, Bl.yieldE, List.getElem?_cons_succ, List.getElem?_cons_zero, Option.bind_some, hd, beq_self_eq_true, if_true]
        first
        | ((with_reducible refine Bl.goodR_load ?_ (Hl6.out _ hext) ?_); exact e6; exact rfl) | ((with_reducible refine Bl.goodR_load ?_ (Hl8.out _ hext) ?_); exact e8; exact rfl) | ((with_reducible refine Bl.goodR_load ?_ (Hl2.out _ hext) ?_); exact e2; exact rfl) | ((with_reducible refine Bl.goodR_load ?_ (Hl5.out _ hext) ?_); exact e5; exact rfl) | ((with_reducible refine Bl.goodR_load ?_ (Hlt.out _ hext) ?_); exact e3; exact rfl)
        | (go_simp; first | exact ⟨Below.refl _ _, rfl⟩ | (go_at_call 9; (with_reducible refine (HOz.out _ (HEz.out.trans hext)).mono ?_); rintro e w9 ⟨v9, rfl, h8, h9⟩; exact ⟨_, rfl, h9, h8⟩) | (go_at_call 9; (with_reducible refine (HOx.out _ hwx).mono ?_); rintro e w9 ⟨v9, rfl, h8, h9⟩; exact ⟨_, rfl, h9, h8⟩) | (go_at_call 12; (first | (with_reducible refine (HRsz.out _ _ (HE8z.out.trans hext) (by first | exact hd | exact hd.2 | exact hd.1.2 | exact hd.1.1.2 | exact hd.1.1.1.2 | exact hd.1.1.1.1.2 | exact hd.1.1.1.1.1.2 | exact hd.1.1.1.1.1.1.2 | exact hd.1.1.1.1.1.1.1.2 | exact hd.1.1.1.1.1.1.1.1.2 | exact hd.1.1.1.1.1.1.1.1.1.2 | exact hd.1.1.1.1.1.1.1.1.1.1.2 | exact hd.1.1.1.1.1.1.1.1.1.1.1.2 | exact hd.1.1.1.1.1.1.1.1.1.1.1.1.2 | exact hd.1.1.1.1.1.1.1.1.1.1.1.1.1.2 | exact hd.1 | exact hd.1.1 | exact hd.1.1.1 | exact hd.1.1.1.1 | exact hd.1.1.1.1.1 | exact hd.1.1.1.1.1.1 | exact hd.1.1.1.1.1.1.1 | exact hd.1.1.1.1.1.1.1.1 | exact hd.1.1.1.1.1.1.1.1.1 | exact hd.1.1.1.1.1.1.1.1.1.1 | exact hd.1.1.1.1.1.1.1.1.1.1.1 | exact hd.1.1.1.1.1.1.1.1.1.1.1.1 | exact hd.1.1.1.1.1.1.1.1.1.1.1.1.1 | exact hd.2.1 | exact hd.2.2.1 | exact hd.2.2.2.1 | exact hd.2.2.2.2.1 | exact hd.2.2.2.2.2.1 | exact hd.2.2.2.2.2.2.1 | exact hd.2.2.2.2.2.2.2.1 | exact hd.2.2.2.2.2.2.2.2.1 | exact hd.2.2.2.2.2.2.2.2.2.1 | exact hd.2.2.2.2.2.2.2.2.2.2.1 | exact hd.2.2.2.2.2.2.2.2.2.2.2.1 | exact hd.2.2.2.2.2.2.2.2.2.2.2.2.1 | exact hd.2.2.2.2.2.2.2.2.2.2.2.2.2.1)).mono ?_) | (with_reducible refine (HRsx.out _ _ (HE5z.out.trans hext) (by first | exact hd | exact hd.2 | exact hd.1.2 | exact hd.1.1.2 | exact hd.1.1.1.2 | exact hd.1.1.1.1.2 | exact hd.1.1.1.1.1.2 | exact hd.1.1.1.1.1.1.2 | exact hd.1.1.1.1.1.1.1.2 | exact hd.1.1.1.1.1.1.1.1.2 | exact hd.1.1.1.1.1.1.1.1.1.2 | exact hd.1.1.1.1.1.1.1.1.1.1.2 | exact hd.1.1.1.1.1.1.1.1.1.1.1.2 | exact hd.1.1.1.1.1.1.1.1.1.1.1.1.2 | exact hd.1.1.1.1.1.1.1.1.1.1.1.1.1.2 | exact hd.1 | exact hd.1.1 | exact hd.1.1.1 | exact hd.1.1.1.1 | exact hd.1.1.1.1.1 | exact hd.1.1.1.1.1.1 | exact hd.1.1.1.1.1.1.1 | exact hd.1.1.1.1.1.1.1.1 | exact hd.1.1.1.1.1.1.1.1.1 | exact hd.1.1.1.1.1.1.1.1.1.1 | exact hd.1.1.1.1.1.1.1.1.1.1.1 | exact hd.1.1.1.1.1.1.1.1.1.1.1.1 | exact hd.1.1.1.1.1.1.1.1.1.1.1.1.1 | exact hd.2.1 | exact hd.2.2.1 | exact hd.2.2.2.1 | exact hd.2.2.2.2.1 | exact hd.2.2.2.2.2.1 | exact hd.2.2.2.2.2.2.1 | exact hd.2.2.2.2.2.2.2.1 | exact hd.2.2.2.2.2.2.2.2.1 | exact hd.2.2.2.2.2.2.2.2.2.1 | exact hd.2.2.2.2.2.2.2.2.2.2.1 | exact hd.2.2.2.2.2.2.2.2.2.2.2.1 | exact hd.2.2.2.2.2.2.2.2.2.2.2.2.1 | exact hd.2.2.2.2.2.2.2.2.2.2.2.2.2.1)).mono ?_)); rintro e w9 ⟨rfl, h9⟩; exact ⟨_, rfl, h9, rfl⟩) | (go_at_call 13; (with_reducible refine (HWd.out _ hwx).mono ?_); rintro e w9 ⟨rfl, h9⟩; subst h9; exact ⟨_, rfl, Below.refl _ _, rfl⟩) | (go_at_call 14; (with_reducible refine (HHo.out w1).mono ?_); rintro e w9 ⟨rfl, h9⟩; exact ⟨_, rfl, h9, rfl⟩) | exact ⟨Below.refl _ _, rfl⟩)
    case hmono => exact ⟨Bl.mono_eqv _, Bl.mono_eqv _, Bl.mono_eqv _, Bl.mono_eqv _, Bl.mono_eqv _, (fun _ _ _ h k => Bl.LtV.ext h k), Bl.mono_eqv _, Bl.mono_eqv _, Bl.mono_eqv _, Bl.mono_eqv _, Bl.mono_eqv _, (fun _ _ _ h k => Bl.LtV.ext h k), Bl.mono_eqv _, Bl.mono_eqv _, Bl.mono_eqv _, Bl.mono_eqv _, Bl.mono_eqv _, Bl.mono_eqv _, Bl.mono_eqv _, Bl.mono_eqv _, Bl.mono_eqv _, Bl.mono_eqv _, Bl.mono_eqv _, Bl.mono_eqv _, Bl.mono_eqv _, Bl.mono_eqv _, Bl.mono_eqv _, Bl.mono_eqv _, Bl.mono_eqv _, Bl.mono_eqv _, trivial⟩
    case hend =>
      intro u w1 hext hend
      simp only [Bl.EndE, List.getElem?_cons_succ, List.getElem?_cons_zero, Option.bind_some, List.getD_cons_succ, List.getD_cons_zero, Bl.eqv, true_and] at hend
      simp only [Bl.fillAct, List.setIfInBounds_toArray, List.set_cons_succ, List.set_cons_zero, List.drop_succ_cons, List.drop_zero, hend]
      have HEf := Bl.hid (HE99.out.trans hext)
      clear hext
      go_wp2_with fail
      go_ret
      exact ⟨by simp, HEf.out⟩
  · have Hz0 : Hid (Z = ⟨#[]⟩) := Bl.hid (by rw [HZ.out]; unfold fword; rw [if_neg hr])
    have HW2 : Hid (∀ w2, Bl.Ext w w2 → Calls Tryd.prog 13 #[.int .i64 k] w2 fun e w' => e = .returned (.string ⟨#[]⟩) ∧ w2 = w') := Bl.hid (by rw [← Hz0.out]; exact HWd.out)
    clear HWd
    have HWd := HW2
    have HBa9 := HBa8
    have HBt9 := HBt8
    have HB59 := HB58
    have HB69 := HB68
    have HB89 := HB8
    have HEz : Hid (Bl.Ext W8 W8) := Bl.hid (Below.refl _ _)
    have HE8z := HEz
    have HE5z := HEz
    by_cases hr0 : 0 ≤ k
    · have hr9 : ¬ k ≤ 9 := fun q => hr ⟨hr0, q⟩
      clear hr HBa8 HBt8 HB58 HB68 HB8
      go_wp2_with fail
      clear q0 hr0 hr9
      have Hl2 := Bl.hid (fun w2 (h : Bl.Ext W8 w2) => (HBa9.out.ext h).load (P := Tryd.prog) Tryd.underlying26 rfl (by kernel_rfl))
      have Hl5 := Bl.hid (fun w2 (h : Bl.Ext W8 w2) => (HB59.out.ext h).load (P := Tryd.prog) Tryd.underlying33 rfl (by kernel_rfl))
      have Hl6 := Bl.hid (fun w2 (h : Bl.Ext W8 w2) => (HB69.out.ext h).load (P := Tryd.prog) Tryd.underlying26 rfl (by kernel_rfl))
      have Hl8 := Bl.hid (fun w2 (h : Bl.Ext W8 w2) => (HB89.out.ext h).load (P := Tryd.prog) Tryd.underlying33 rfl (by kernel_rfl))
      have Hlt := Bl.hid (fun w2 (h : Bl.Ext W8 w2) => (HBt9.out.ext h).load (P := Tryd.prog) Tryd.underlying28 rfl (by kernel_rfl))
      apply Bl.wp_region_ev 30 [57, 58, 59, 60, 61, 62, 63, 64, 65, 66, 67, 68, 69, 70, 71, 72, 73, 74, 75, 76, 77, 78, 79, 80, 81, 82, 83, 84, 85, 86] [Bl.eqv _, Bl.eqv _, Bl.eqv _, Bl.eqv _, Bl.eqv _, (fun v w' => Bl.LtV w' v z), Bl.eqv _, Bl.eqv _, Bl.eqv _, Bl.eqv _, Bl.eqv _, (fun v w' => Bl.LtV w' v x), Bl.eqv _, Bl.eqv _, Bl.eqv _, Bl.eqv _, Bl.eqv _, Bl.eqv _, Bl.eqv _, Bl.eqv _, Bl.eqv _, Bl.eqv _, Bl.eqv _, Bl.eqv _, Bl.eqv _, Bl.eqv _, Bl.eqv _, Bl.eqv _, Bl.eqv _, Bl.eqv _] (by kernel_rfl) (by kernel_rfl) (by kernel_rfl) (by kernel_rfl)
      case hsteps =>
        refine ⟨?_, ?_, ?_, ?_, ?_, ?_, ?_, ?_, ?_, ?_, ?_, ?_, ?_, ?_, ?_, ?_, ?_, ?_, ?_, ?_, ?_, ?_, ?_, ?_, ?_, ?_, ?_, ?_, ?_, ?_, trivial⟩
        all_goals
          intro ev w1 hext hb hd
          have e2 := hb 2 (by decide)
          have e3 := hb 3 (by decide)
          have e5 := hb 5 (by decide)
          have e6 := hb 6 (by decide)
          have e7 := hb 7 (by decide)
          have e8 := hb 8 (by decide)
          have e9 := hb 9 (by decide)
          have e10 := hb 10 (by decide)
          clear hb
          simp only [Array.getD_eq_getD_getElem?, List.getElem?_toArray, List.getElem?_cons_succ, List.getElem?_cons_zero, Option.getD_some] at e2 e3 e5 e6 e7 e8 e9 e10
          simp only [Bl.DepsE, List.getElem?_cons_succ, List.getElem?_cons_zero, Option.bind_some, List.getD_cons_succ, List.getD_cons_zero, Bl.eqv, and_true] at hd
          have hc := (Bl.bcell hext).1
          have hwx := HE8.out.trans hext
          have c0 := (HBt9.out.ext hext).cell (i := 0) rfl
          simp only [Bl.Good, Region.wanted, Bl.yieldE, List.getElem?_cons_succ, List.getElem?_cons_zero, Option.bind_some, hd, beq_self_eq_true, if_true]
          first
          | ((with_reducible refine Bl.goodR_load ?_ (Hl6.out _ hext) ?_); exact e6; exact rfl) | ((with_reducible refine Bl.goodR_load ?_ (Hl8.out _ hext) ?_); exact e8; exact rfl) | ((with_reducible refine Bl.goodR_load ?_ (Hl2.out _ hext) ?_); exact e2; exact rfl) | ((with_reducible refine Bl.goodR_load ?_ (Hl5.out _ hext) ?_); exact e5; exact rfl) | ((with_reducible refine Bl.goodR_load ?_ (Hlt.out _ hext) ?_); exact e3; exact rfl)
          | (go_simp; first | exact ⟨Below.refl _ _, rfl⟩ | (go_at_call 9; (with_reducible refine (HOz.out _ (HEz.out.trans hext)).mono ?_); rintro e w9 ⟨v9, rfl, h8, h9⟩; exact ⟨_, rfl, h9, h8⟩) | (go_at_call 9; (with_reducible refine (HOx.out _ hwx).mono ?_); rintro e w9 ⟨v9, rfl, h8, h9⟩; exact ⟨_, rfl, h9, h8⟩) | (go_at_call 12; (first | (with_reducible refine (HRsz.out _ _ (HE8z.out.trans hext) (by first | exact hd | exact hd.2 | exact hd.1.2 | exact hd.1.1.2 | exact hd.1.1.1.2 | exact hd.1.1.1.1.2 | exact hd.1.1.1.1.1.2 | exact hd.1.1.1.1.1.1.2 | exact hd.1.1.1.1.1.1.1.2 | exact hd.1.1.1.1.1.1.1.1.2 | exact hd.1.1.1.1.1.1.1.1.1.2 | exact hd.1.1.1.1.1.1.1.1.1.1.2 | exact hd.1.1.1.1.1.1.1.1.1.1.1.2 | exact hd.1.1.1.1.1.1.1.1.1.1.1.1.2 | exact hd.1.1.1.1.1.1.1.1.1.1.1.1.1.2 | exact hd.1 | exact hd.1.1 | exact hd.1.1.1 | exact hd.1.1.1.1 | exact hd.1.1.1.1.1 | exact hd.1.1.1.1.1.1 | exact hd.1.1.1.1.1.1.1 | exact hd.1.1.1.1.1.1.1.1 | exact hd.1.1.1.1.1.1.1.1.1 | exact hd.1.1.1.1.1.1.1.1.1.1 | exact hd.1.1.1.1.1.1.1.1.1.1.1 | exact hd.1.1.1.1.1.1.1.1.1.1.1.1 | exact hd.1.1.1.1.1.1.1.1.1.1.1.1.1 | exact hd.2.1 | exact hd.2.2.1 | exact hd.2.2.2.1 | exact hd.2.2.2.2.1 | exact hd.2.2.2.2.2.1 | exact hd.2.2.2.2.2.2.1 | exact hd.2.2.2.2.2.2.2.1 | exact hd.2.2.2.2.2.2.2.2.1 | exact hd.2.2.2.2.2.2.2.2.2.1 | exact hd.2.2.2.2.2.2.2.2.2.2.1 | exact hd.2.2.2.2.2.2.2.2.2.2.2.1 | exact hd.2.2.2.2.2.2.2.2.2.2.2.2.1 | exact hd.2.2.2.2.2.2.2.2.2.2.2.2.2.1)).mono ?_) | (with_reducible refine (HRsx.out _ _ (HE5z.out.trans hext) (by first | exact hd | exact hd.2 | exact hd.1.2 | exact hd.1.1.2 | exact hd.1.1.1.2 | exact hd.1.1.1.1.2 | exact hd.1.1.1.1.1.2 | exact hd.1.1.1.1.1.1.2 | exact hd.1.1.1.1.1.1.1.2 | exact hd.1.1.1.1.1.1.1.1.2 | exact hd.1.1.1.1.1.1.1.1.1.2 | exact hd.1.1.1.1.1.1.1.1.1.1.2 | exact hd.1.1.1.1.1.1.1.1.1.1.1.2 | exact hd.1.1.1.1.1.1.1.1.1.1.1.1.2 | exact hd.1.1.1.1.1.1.1.1.1.1.1.1.1.2 | exact hd.1 | exact hd.1.1 | exact hd.1.1.1 | exact hd.1.1.1.1 | exact hd.1.1.1.1.1 | exact hd.1.1.1.1.1.1 | exact hd.1.1.1.1.1.1.1 | exact hd.1.1.1.1.1.1.1.1 | exact hd.1.1.1.1.1.1.1.1.1 | exact hd.1.1.1.1.1.1.1.1.1.1 | exact hd.1.1.1.1.1.1.1.1.1.1.1 | exact hd.1.1.1.1.1.1.1.1.1.1.1.1 | exact hd.1.1.1.1.1.1.1.1.1.1.1.1.1 | exact hd.2.1 | exact hd.2.2.1 | exact hd.2.2.2.1 | exact hd.2.2.2.2.1 | exact hd.2.2.2.2.2.1 | exact hd.2.2.2.2.2.2.1 | exact hd.2.2.2.2.2.2.2.1 | exact hd.2.2.2.2.2.2.2.2.1 | exact hd.2.2.2.2.2.2.2.2.2.1 | exact hd.2.2.2.2.2.2.2.2.2.2.1 | exact hd.2.2.2.2.2.2.2.2.2.2.2.1 | exact hd.2.2.2.2.2.2.2.2.2.2.2.2.1 | exact hd.2.2.2.2.2.2.2.2.2.2.2.2.2.1)).mono ?_)); rintro e w9 ⟨rfl, h9⟩; exact ⟨_, rfl, h9, rfl⟩) | (go_at_call 13; (with_reducible refine (HWd.out _ hwx).mono ?_); rintro e w9 ⟨rfl, h9⟩; subst h9; exact ⟨_, rfl, Below.refl _ _, rfl⟩) | (go_at_call 14; (with_reducible refine (HHo.out w1).mono ?_); rintro e w9 ⟨rfl, h9⟩; exact ⟨_, rfl, h9, rfl⟩) | exact ⟨Below.refl _ _, rfl⟩)
      case hmono => exact ⟨Bl.mono_eqv _, Bl.mono_eqv _, Bl.mono_eqv _, Bl.mono_eqv _, Bl.mono_eqv _, (fun _ _ _ h k => Bl.LtV.ext h k), Bl.mono_eqv _, Bl.mono_eqv _, Bl.mono_eqv _, Bl.mono_eqv _, Bl.mono_eqv _, (fun _ _ _ h k => Bl.LtV.ext h k), Bl.mono_eqv _, Bl.mono_eqv _, Bl.mono_eqv _, Bl.mono_eqv _, Bl.mono_eqv _, Bl.mono_eqv _, Bl.mono_eqv _, Bl.mono_eqv _, Bl.mono_eqv _, Bl.mono_eqv _, Bl.mono_eqv _, Bl.mono_eqv _, Bl.mono_eqv _, Bl.mono_eqv _, Bl.mono_eqv _, Bl.mono_eqv _, Bl.mono_eqv _, Bl.mono_eqv _, trivial⟩
      case hend =>
        intro u w1 hext hend
        simp only [Bl.EndE, List.getElem?_cons_succ, List.getElem?_cons_zero, Option.bind_some, List.getD_cons_succ, List.getD_cons_zero, Bl.eqv, true_and] at hend
        simp only [Bl.fillAct, List.setIfInBounds_toArray, List.set_cons_succ, List.set_cons_zero, List.drop_succ_cons, List.drop_zero, hend]
        have HEf := Bl.hid (HE8.out.trans hext)
        clear hext
        go_wp2_with fail
        go_ret
        exact ⟨by simp, HEf.out⟩
    · clear hr HBa8 HBt8 HB58 HB68 HB8
      go_wp2_with fail
      clear q0 hr0
      have Hl2 := Bl.hid (fun w2 (h : Bl.Ext W8 w2) => (HBa9.out.ext h).load (P := Tryd.prog) Tryd.underlying26 rfl (by kernel_rfl))
      have Hl5 := Bl.hid (fun w2 (h : Bl.Ext W8 w2) => (HB59.out.ext h).load (P := Tryd.prog) Tryd.underlying33 rfl (by kernel_rfl))
      have Hl6 := Bl.hid (fun w2 (h : Bl.Ext W8 w2) => (HB69.out.ext h).load (P := Tryd.prog) Tryd.underlying26 rfl (by kernel_rfl))
      have Hl8 := Bl.hid (fun w2 (h : Bl.Ext W8 w2) => (HB89.out.ext h).load (P := Tryd.prog) Tryd.underlying33 rfl (by kernel_rfl))
      have Hlt := Bl.hid (fun w2 (h : Bl.Ext W8 w2) => (HBt9.out.ext h).load (P := Tryd.prog) Tryd.underlying28 rfl (by kernel_rfl))
      apply Bl.wp_region_ev 30 [57, 58, 59, 60, 61, 62, 63, 64, 65, 66, 67, 68, 69, 70, 71, 72, 73, 74, 75, 76, 77, 78, 79, 80, 81, 82, 83, 84, 85, 86] [Bl.eqv _, Bl.eqv _, Bl.eqv _, Bl.eqv _, Bl.eqv _, (fun v w' => Bl.LtV w' v z), Bl.eqv _, Bl.eqv _, Bl.eqv _, Bl.eqv _, Bl.eqv _, (fun v w' => Bl.LtV w' v x), Bl.eqv _, Bl.eqv _, Bl.eqv _, Bl.eqv _, Bl.eqv _, Bl.eqv _, Bl.eqv _, Bl.eqv _, Bl.eqv _, Bl.eqv _, Bl.eqv _, Bl.eqv _, Bl.eqv _, Bl.eqv _, Bl.eqv _, Bl.eqv _, Bl.eqv _, Bl.eqv _] (by kernel_rfl) (by kernel_rfl) (by kernel_rfl) (by kernel_rfl)
      case hsteps =>
        refine ⟨?_, ?_, ?_, ?_, ?_, ?_, ?_, ?_, ?_, ?_, ?_, ?_, ?_, ?_, ?_, ?_, ?_, ?_, ?_, ?_, ?_, ?_, ?_, ?_, ?_, ?_, ?_, ?_, ?_, ?_, trivial⟩
        all_goals
          intro ev w1 hext hb hd
          have e2 := hb 2 (by decide)
          have e3 := hb 3 (by decide)
          have e5 := hb 5 (by decide)
          have e6 := hb 6 (by decide)
          have e7 := hb 7 (by decide)
          have e8 := hb 8 (by decide)
          have e9 := hb 9 (by decide)
          have e10 := hb 10 (by decide)
          clear hb
          simp only [Array.getD_eq_getD_getElem?, List.getElem?_toArray, List.getElem?_cons_succ, List.getElem?_cons_zero, Option.getD_some] at e2 e3 e5 e6 e7 e8 e9 e10
          simp only [Bl.DepsE, List.getElem?_cons_succ, List.getElem?_cons_zero, Option.bind_some, List.getD_cons_succ, List.getD_cons_zero, Bl.eqv, and_true] at hd
          have hc := (Bl.bcell hext).1
          have hwx := HE8.out.trans hext
          have c0 := (HBt9.out.ext hext).cell (i := 0) rfl
          simp only [Bl.Good, Region.wanted, Bl.yieldE, List.getElem?_cons_succ, List.getElem?_cons_zero, Option.bind_some, hd, beq_self_eq_true, if_true]
          first
          | ((with_reducible refine Bl.goodR_load ?_ (Hl6.out _ hext) ?_); exact e6; exact rfl) | ((with_reducible refine Bl.goodR_load ?_ (Hl8.out _ hext) ?_); exact e8; exact rfl) | ((with_reducible refine Bl.goodR_load ?_ (Hl2.out _ hext) ?_); exact e2; exact rfl) | ((with_reducible refine Bl.goodR_load ?_ (Hl5.out _ hext) ?_); exact e5; exact rfl) | ((with_reducible refine Bl.goodR_load ?_ (Hlt.out _ hext) ?_); exact e3; exact rfl)
          | (go_simp; first | exact ⟨Below.refl _ _, rfl⟩ | (go_at_call 9; (with_reducible refine (HOz.out _ (HEz.out.trans hext)).mono ?_); rintro e w9 ⟨v9, rfl, h8, h9⟩; exact ⟨_, rfl, h9, h8⟩) | (go_at_call 9; (with_reducible refine (HOx.out _ hwx).mono ?_); rintro e w9 ⟨v9, rfl, h8, h9⟩; exact ⟨_, rfl, h9, h8⟩) | (go_at_call 12; (first | (with_reducible refine (HRsz.out _ _ (HE8z.out.trans hext) (by first | exact hd | exact hd.2 | exact hd.1.2 | exact hd.1.1.2 | exact hd.1.1.1.2 | exact hd.1.1.1.1.2 | exact hd.1.1.1.1.1.2 | exact hd.1.1.1.1.1.1.2 | exact hd.1.1.1.1.1.1.1.2 | exact hd.1.1.1.1.1.1.1.1.2 | exact hd.1.1.1.1.1.1.1.1.1.2 | exact hd.1.1.1.1.1.1.1.1.1.1.2 | exact hd.1.1.1.1.1.1.1.1.1.1.1.2 | exact hd.1.1.1.1.1.1.1.1.1.1.1.1.2 | exact hd.1.1.1.1.1.1.1.1.1.1.1.1.1.2 | exact hd.1 | exact hd.1.1 | exact hd.1.1.1 | exact hd.1.1.1.1 | exact hd.1.1.1.1.1 | exact hd.1.1.1.1.1.1 | exact hd.1.1.1.1.1.1.1 | exact hd.1.1.1.1.1.1.1.1 | exact hd.1.1.1.1.1.1.1.1.1 | exact hd.1.1.1.1.1.1.1.1.1.1 | exact hd.1.1.1.1.1.1.1.1.1.1.1 | exact hd.1.1.1.1.1.1.1.1.1.1.1.1 | exact hd.1.1.1.1.1.1.1.1.1.1.1.1.1 | exact hd.2.1 | exact hd.2.2.1 | exact hd.2.2.2.1 | exact hd.2.2.2.2.1 | exact hd.2.2.2.2.2.1 | exact hd.2.2.2.2.2.2.1 | exact hd.2.2.2.2.2.2.2.1 | exact hd.2.2.2.2.2.2.2.2.1 | exact hd.2.2.2.2.2.2.2.2.2.1 | exact hd.2.2.2.2.2.2.2.2.2.2.1 | exact hd.2.2.2.2.2.2.2.2.2.2.2.1 | exact hd.2.2.2.2.2.2.2.2.2.2.2.2.1 | exact hd.2.2.2.2.2.2.2.2.2.2.2.2.2.1)).mono ?_) | (with_reducible refine (HRsx.out _ _ (HE5z.out.trans hext) (by first | exact hd | exact hd.2 | exact hd.1.2 | exact hd.1.1.2 | exact hd.1.1.1.2 | exact hd.1.1.1.1.2 | exact hd.1.1.1.1.1.2 | exact hd.1.1.1.1.1.1.2 | exact hd.1.1.1.1.1.1.1.2 | exact hd.1.1.1.1.1.1.1.1.2 | exact hd.1.1.1.1.1.1.1.1.1.2 | exact hd.1.1.1.1.1.1.1.1.1.1.2 | exact hd.1.1.1.1.1.1.1.1.1.1.1.2 | exact hd.1.1.1.1.1.1.1.1.1.1.1.1.2 | exact hd.1.1.1.1.1.1.1.1.1.1.1.1.1.2 | exact hd.1 | exact hd.1.1 | exact hd.1.1.1 | exact hd.1.1.1.1 | exact hd.1.1.1.1.1 | exact hd.1.1.1.1.1.1 | exact hd.1.1.1.1.1.1.1 | exact hd.1.1.1.1.1.1.1.1 | exact hd.1.1.1.1.1.1.1.1.1 | exact hd.1.1.1.1.1.1.1.1.1.1 | exact hd.1.1.1.1.1.1.1.1.1.1.1 | exact hd.1.1.1.1.1.1.1.1.1.1.1.1 | exact hd.1.1.1.1.1.1.1.1.1.1.1.1.1 | exact hd.2.1 | exact hd.2.2.1 | exact hd.2.2.2.1 | exact hd.2.2.2.2.1 | exact hd.2.2.2.2.2.1 | exact hd.2.2.2.2.2.2.1 | exact hd.2.2.2.2.2.2.2.1 | exact hd.2.2.2.2.2.2.2.2.1 | exact hd.2.2.2.2.2.2.2.2.2.1 | exact hd.2.2.2.2.2.2.2.2.2.2.1 | exact hd.2.2.2.2.2.2.2.2.2.2.2.1 | exact hd.2.2.2.2.2.2.2.2.2.2.2.2.1 | exact hd.2.2.2.2.2.2.2.2.2.2.2.2.2.1)).mono ?_)); rintro e w9 ⟨rfl, h9⟩; exact ⟨_, rfl, h9, rfl⟩) | (go_at_call 13; (with_reducible refine (HWd.out _ hwx).mono ?_); rintro e w9 ⟨rfl, h9⟩; subst h9; exact ⟨_, rfl, Below.refl _ _, rfl⟩) | (go_at_call 14; (with_reducible refine (HHo.out w1).mono ?_); rintro e w9 ⟨rfl, h9⟩; exact ⟨_, rfl, h9, rfl⟩) | exact ⟨Below.refl _ _, rfl⟩)
      case hmono => exact ⟨Bl.mono_eqv _, Bl.mono_eqv _, Bl.mono_eqv _, Bl.mono_eqv _, Bl.mono_eqv _, (fun _ _ _ h k => Bl.LtV.ext h k), Bl.mono_eqv _, Bl.mono_eqv _, Bl.mono_eqv _, Bl.mono_eqv _, Bl.mono_eqv _, (fun _ _ _ h k => Bl.LtV.ext h k), Bl.mono_eqv _, Bl.mono_eqv _, Bl.mono_eqv _, Bl.mono_eqv _, Bl.mono_eqv _, Bl.mono_eqv _, Bl.mono_eqv _, Bl.mono_eqv _, Bl.mono_eqv _, Bl.mono_eqv _, Bl.mono_eqv _, Bl.mono_eqv _, Bl.mono_eqv _, Bl.mono_eqv _, Bl.mono_eqv _, Bl.mono_eqv _, Bl.mono_eqv _, Bl.mono_eqv _, trivial⟩
      case hend =>
        intro u w1 hext hend
        simp only [Bl.EndE, List.getElem?_cons_succ, List.getElem?_cons_zero, Option.bind_some, List.getD_cons_succ, List.getD_cons_zero, Bl.eqv, true_and] at hend
        simp only [Bl.fillAct, List.setIfInBounds_toArray, List.set_cons_succ, List.set_cons_zero, List.drop_succ_cons, List.drop_zero, hend]
        have HEf := Bl.hid (HE8.out.trans hext)
        clear hext
        go_wp2_with fail
        go_ret
        exact ⟨by simp, HEf.out⟩
end Go.Proofs.YtmmolapkddbibaaDoor

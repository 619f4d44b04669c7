/- Walk of baileelaw13.alive. -/
import Derived.Test.YtjmkcenkjnoblaaDoorWRefMake
namespace Go.Proofs.Bl
open Go Go.RowKit
theorem byt_one (x : Int) (h0 : 0 ≤ x) (h1 : x ≤ 255) : Byt [x] := byt_cons h0 h1 Byt.nil
end Go.Proofs.Bl
namespace Go.Proofs.YtjmkcenkjnoblaaDoor
open Go.RowKit Go.Proofs

theorem lenP_2 (w : World) : Calls Tryd.prog 21 #[.int .i64 2, .int .i64 0] w fun e w' => e = .returned (.int .i64 1) ∧ Bl.Ext w w' := by
  have h := length_any 2 0 w
  rw [show Bl.lenP 2 0 = 1 from by decide +kernel] at h
  exact h

set_option maxRecDepth 100000 in
set_option maxHeartbeats 1000000 in
theorem alive13 (w : World) (hg : Glob w) : Calls Tryd.prog 8 #[] w fun e w' => e = .returned (.bool true) ∧ Bl.Ext w w' := by
  have Hg := Bl.hid hg
  have HR1 : Hid (Bl.Rdss ((w.alloc (.cells #[.int .u8 1] 5)).alloc (.cells #[.slice (some ⟨w.heap.size, 0, none⟩) 1 1] 23)) (.slice (some ⟨w.heap.size + 1, 0, none⟩) 1 1) [[1]]) := Bl.hid (by
    have h := Bl.rdss_1 (l := [1]) (Bl.rds_one w 5 .u8 1) 23
    rw [World.size_alloc] at h; exact h)
  have HE1 := Bl.hid ((Bl.ext_alloc w (.cells #[.int .u8 1] 5)).trans (Bl.ext_alloc _ (.cells #[.slice (some ⟨w.heap.size, 0, none⟩) 1 1] 23)))
  clear hg
  go_enter Tryd.func8, Tryd.ntmps8
  go_wp2_with fail
  refine (pmake_any _ [[1]] 0 _ HR1.out (Hg.out.ext HE1.out) (by intro p hp; simp at hp; subst hp; exact Bl.byt_one 1 (by decide) (by decide)) (by intro p hp; simp at hp; subst hp; decide) (by decide) (by decide)).mono ?_
  rintro e w2 ⟨v2, rfl, hR2, hE2⟩
  obtain ⟨p2, c2, hf2, _, _⟩ := hR2.form
  rw [show (Bl.pathD [[1]] 0).length = 0 from by rw [show Bl.pathD [[1]] 0 = [] from Bl.pathL_lo _ _ _ _ (by decide)]; rfl] at hf2
  subst hf2
  have HE2 := Bl.hid (HE1.out.trans hE2)
  clear hE2 hR2 HR1 HE1
  have HR3 : Hid (Bl.Rdss (((w2.alloc (.cells #[.int .u8 1] 5)).alloc (.cells #[.int .u8 2] 5)).alloc (.cells #[.slice (some ⟨w2.heap.size, 0, none⟩) 1 1, .slice (some ⟨w2.heap.size + 1, 0, none⟩) 1 1] 23)) (.slice (some ⟨w2.heap.size + 1 + 1, 0, none⟩) 2 2) [[1], [2]]) := Bl.hid (by
    refine ⟨[.slice (some ⟨w2.heap.size, 0, none⟩) 1 1, .slice (some ⟨w2.heap.size + 1, 0, none⟩) 1 1], .inr ⟨w2.heap.size + 1 + 1, 0, 2, rfl, Nat.le_refl _, show 2 ≤ maxLen from by decide, fun j u hu => ?_⟩, rfl, fun i hi => ?_⟩
    · have e : w2.heap.size + 1 + 1 = ((w2.alloc (.cells #[.int .u8 1] 5)).alloc (.cells #[.int .u8 2] 5)).heap.size := by simp
      rw [Nat.zero_add, e, World.cell?_alloc_new]; simpa using hu
    · have hi : i < 2 := hi
      match i, hi with
      | 0, _ => exact Bl.Rd.ext (l := [1]) (Bl.Rd.ext (l := [1]) (Bl.rds_one w2 5 .u8 1) (Bl.ext_alloc _ _)) (Bl.ext_alloc _ _)
      | 1, _ =>
        have h := Bl.rds_one (w2.alloc (.cells #[.int .u8 1] 5)) 5 .u8 2
        rw [World.size_alloc] at h
        exact Bl.Rd.ext (l := [2]) h (Bl.ext_alloc _ _))
  have HE3 := Bl.hid (((Bl.ext_alloc w2 (.cells #[.int .u8 1] 5)).trans (Bl.ext_alloc _ (.cells #[.int .u8 2] 5))).trans (Bl.ext_alloc _ (.cells #[.slice (some ⟨w2.heap.size, 0, none⟩) 1 1, .slice (some ⟨w2.heap.size + 1, 0, none⟩) 1 1] 23)))
  go_wp2_with fail
  refine (pmake_any _ [[1], [2]] 0 _ HR3.out (Hg.out.ext (HE2.out.trans HE3.out)) (by intro p hp; simp at hp; rcases hp with rfl | rfl <;> exact Bl.byt_one _ (by decide) (by decide)) (by intro p hp; simp at hp; rcases hp with rfl | rfl <;> decide) (by decide) (by decide)).mono ?_
  rintro e w4 ⟨v4, rfl, hR4, hE4⟩
  obtain ⟨p4, c4, hf4, _, _⟩ := hR4.form
  have hl : (Bl.pathD [[1], [2]] 0).length = 1 := by
    rw [Bl.pathD, Bl.pathL_len _ _ _ _ _ (Nat.le_refl _) (by decide)]
    show (Bl.turnsL 2 0).length = 1
    decide +kernel
  rw [hl] at hf4
  subst hf4
  have HE4 := Bl.hid ((HE2.out.trans HE3.out).trans hE4)
  clear hE4 hR4 HR3 HE3 HE2 hl
  go_wp2_with fail
  refine (lenP_2 _).mono ?_
  rintro e w5 ⟨rfl, hE5⟩
  have HE5 := Bl.hid (HE4.out.trans hE5)
  clear hE5
  go_wp2_with fail
  go_ret
  exact ⟨rfl, HE5.out⟩
end Go.Proofs.YtjmkcenkjnoblaaDoor

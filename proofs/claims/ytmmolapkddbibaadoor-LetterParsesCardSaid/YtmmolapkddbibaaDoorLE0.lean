/- Walk of baileeref22.Parse: too many bytes, none, a kind that is out; then of all bytes. -/
import Derived.Test.YtmmolapkddbibaaDoorLP7
import Derived.Test.YtmmolapkddbibaaDoorLEa
import Derived.Test.YtmmolapkddbibaaDoorLEb
namespace Go.Proofs.YtmmolapkddbibaaDoor
open Go Go.RowKit Go.Proofs

set_option maxRecDepth 100000 in
set_option maxHeartbeats 4000000 in
theorem rparse_far (v : Value) (b : List Int) (w : World) (hR : Bl.Rd w .u8 v b) (hl : b.length ≤ 9000) (h8 : 8000 < b.length) :
    Calls Tryd.prog 25 #[v] w fun e w' => Bl.ParD (3, Bl.lt0) w e w' := by
  obtain ⟨p, c, rfl, _, _⟩ := hR.form
  have HBR0 := Bl.hid (Bl.BoxC.box (cs := Bl.zL.toList) w 33 (fun q => by cases q))
  have HE0 := Bl.hid (Bl.ext_alloc w (.cells Bl.zL 33))
  have hone : ∀ c ∈ Bl.zL.toList, c.oneCell' = true := fun c hc => by
    simp only [List.mem_cons, List.not_mem_nil, or_false] at hc
    rcases hc with rfl | rfl | rfl | rfl | rfl | rfl | rfl | rfl | rfl <;> rfl
  have Hstz := Bl.hid (HBR0.out.store (P := Tryd.prog) (cs' := Bl.zL.toList) rfl hone (ty := 33) (by kernel_rfl))
  have HBR9 := Bl.hid (HBR0.out.set (cs' := Bl.zL.toList) rfl)
  have HE9 : Hid (Bl.Ext w ((w.alloc (.cells Bl.zL 33)).setCells w.heap.size 0 Bl.zL.toList)) := Bl.hid (Bl.below_setCells _ _ _ _ HE0.out (Nat.le_refl _))
  obtain ⟨n, hn⟩ : ∃ n, n = b.length := ⟨_, rfl⟩
  rw [← hn] at hl h8 ⊢
  have h8i : (8000 : Int) < (n : Int) := by omega
  clear hR hone hn hl
  go_enter Tryd.func25, Tryd.ntmps25
  go_wp2_with (with_reducible refine Bl.stop_store (ty := 33) ?_)
  refine Bl.go_on ?_
  refine Bl.wpL_store0 rfl rfl Hstz.out ?_
  go_wp2_with fail
  refine bodyPost_ret (v := .tuple #[.agg Bl.zL, .int .i64 3]) (Bl.results_cell2 rfl rfl (HBR9.out.loadVar (P := Tryd.prog) Tryd.underlying33 rfl (by kernel_rfl)) rfl) rfl ?_
  exact ⟨_, rfl, Bl.LtV.zero _, HE9.out⟩

set_option maxRecDepth 100000 in
set_option maxHeartbeats 4000000 in
theorem rparse_none (v : Value) (w : World) (hR : Bl.Rd w .u8 v []) :
    Calls Tryd.prog 25 #[v] w fun e w' => Bl.ParD (2, Bl.lt0) w e w' := by
  obtain ⟨p, c, rfl, _, _⟩ := hR.form
  have HBR0 := Bl.hid (Bl.BoxC.box (cs := Bl.zL.toList) w 33 (fun q => by cases q))
  have HE0 := Bl.hid (Bl.ext_alloc w (.cells Bl.zL 33))
  have hone : ∀ c ∈ Bl.zL.toList, c.oneCell' = true := fun c hc => by
    simp only [List.mem_cons, List.not_mem_nil, or_false] at hc
    rcases hc with rfl | rfl | rfl | rfl | rfl | rfl | rfl | rfl | rfl <;> rfl
  have Hstz := Bl.hid (HBR0.out.store (P := Tryd.prog) (cs' := Bl.zL.toList) rfl hone (ty := 33) (by kernel_rfl))
  have HBR9 := Bl.hid (HBR0.out.set (cs' := Bl.zL.toList) rfl)
  have HE9 : Hid (Bl.Ext w ((w.alloc (.cells Bl.zL 33)).setCells w.heap.size 0 Bl.zL.toList)) := Bl.hid (Bl.below_setCells _ _ _ _ HE0.out (Nat.le_refl _))
  clear hR hone
  show Calls Tryd.prog 25 #[.slice p 0 c] w _
  go_enter Tryd.func25, Tryd.ntmps25
  go_wp2_with (with_reducible refine Bl.stop_store (ty := 33) ?_)
  refine Bl.go_on ?_
  refine Bl.wpL_store0 rfl rfl Hstz.out ?_
  go_wp2_with fail
  refine bodyPost_ret (v := .tuple #[.agg Bl.zL, .int .i64 2]) (Bl.results_cell2 rfl rfl (HBR9.out.loadVar (P := Tryd.prog) Tryd.underlying33 rfl (by kernel_rfl)) rfl) rfl ?_
  exact ⟨_, rfl, Bl.LtV.zero _, HE9.out⟩

set_option maxRecDepth 100000 in
set_option maxHeartbeats 4000000 in
theorem rparse_out (v : Value) (k : Int) (r : List Int) (w : World) (hR : Bl.Rd w .u8 v (k :: r)) (hb : Bl.Byt (k :: r)) (hl : r.length + 1 ≤ 8000) (hk : Bl.wi k 1 7 = false) :
    Calls Tryd.prog 25 #[v] w fun e w' => Bl.ParD (7, Bl.lt0) w e w' := by
  obtain ⟨g, o, c, hvf, hnc, hcm, hgl, _, hel⟩ := Bl.Rd.pos hR (by simp)
  have hc0 : w.cell? ⟨g, o, none⟩ = some (.int .u8 k) := hel 0 (by simp)
  have hk0 := hb k (by simp)
  obtain ⟨n, hn⟩ : ∃ n, n = (k :: r).length := ⟨_, rfl⟩
  have hn1 : n = r.length + 1 := by rw [hn]; rfl
  rw [← hn] at hvf hnc
  subst hvf
  obtain ⟨X, hX⟩ : ∃ X, X = w.heap.size + 1 := ⟨_, rfl⟩
  have HBR0 := Bl.hid (Bl.BoxC.box (cs := Bl.zL.toList) w 33 (fun q => by cases q))
  have HE0 := Bl.hid (Bl.ext_alloc w (.cells Bl.zL 33))
  have hone0 : ∀ c ∈ Bl.zL.toList, c.oneCell' = true := fun c hc => by
    simp only [List.mem_cons, List.not_mem_nil, or_false] at hc
    rcases hc with rfl | rfl | rfl | rfl | rfl | rfl | rfl | rfl | rfl <;> rfl
  have HStz : Hid (∀ w2, Bl.BoxC w2 w.heap.size Bl.zL.toList → (Instr.storeAt 33 (.pointer (some ⟨w.heap.size, 0, none⟩)) (.agg Bl.zL)).run Tryd.prog w2 = .ok () (w2.setCells w.heap.size 0 Bl.zL.toList)) := Bl.hid fun w2 h => h.store (P := Tryd.prog) (cs' := Bl.zL.toList) rfl hone0 (ty := 33) (by kernel_rfl)
  have hs0 : (w.alloc (.cells Bl.zL 33)).heap.size = w.heap.size + 1 := World.size_alloc _ _
  obtain ⟨W1, hW1⟩ : ∃ W1, W1 = (w.alloc (.cells Bl.zL 33)).alloc (.cells #[.slice (some ⟨g, o, none⟩) n c, .int .i64 1, .bool false] 100) := ⟨_, rfl⟩
  have HBR1 : Hid (Bl.BoxC W1 w.heap.size Bl.zL.toList) := Bl.hid (by rw [hW1]; exact HBR0.out.ext (Bl.ext_alloc _ _))
  have HE1 : Hid (Bl.Ext w W1) := Bl.hid (by rw [hW1]; exact HE0.out.trans (Bl.ext_alloc _ _))
  have hcW : W1.cell? ⟨g, o, none⟩ = some (.int .u8 k) := ((Bl.bcell HE1.out).1 _ _ (World.block_lt_of_cell? _ _ hc0)).trans hc0
  have hone : ∀ c ∈ Bl.cK k 0 0 0 0 0, c.oneCell' = true := fun c hc => by
    simp only [Bl.cK, List.mem_cons, List.not_mem_nil, or_false] at hc
    rcases hc with rfl | rfl | rfl | rfl | rfl | rfl | rfl | rfl | rfl <;> rfl
  obtain ⟨hB3, hE3⟩ := Bl.BoxC.fresh (cs := Bl.cK k 0 0 0 0 0) W1 33 Bl.zL rfl (fun q => by cases q)
  have Hst3 := Bl.hid (Bl.fresh_store (P := Tryd.prog) (cs := Bl.cK k 0 0 0 0 0) W1 33 Bl.zL rfl hone (ty := 33) (by kernel_rfl))
  obtain ⟨W3, hW3⟩ : ∃ W3, W3 = (W1.alloc (.cells Bl.zL 33)).setCells W1.heap.size 0 (Bl.cK k 0 0 0 0 0) := ⟨_, rfl⟩
  obtain ⟨Y, hY⟩ : ∃ Y, Y = W1.heap.size := ⟨_, rfl⟩
  rw [← hW3] at hB3 hE3
  rw [← hY] at hB3
  have HBR3 := Bl.hid (HBR1.out.ext hE3)
  have HZ3 : Hid (Bl.Kq (fun k => w.heap.size ≤ k) w W3) := Bl.hid (Bl.Kq.of_ext (HE1.out.trans hE3))
  have q30 := hB3.cell (i := 0) (v := .int .i64 k) rfl
  have h8i : ¬ ((8000 : Int) < (n : Int)) := by omega
  have hzi : ¬ ((n : Int) = 0) := by omega
  have hzn : ¬ (n = 0) := by omega
  have hpi : (0 : Int) < (n : Int) := by omega
  have Hk := Bl.hid hk
  obtain ⟨k0, k1⟩ := hk0
  clear hR hel hc0 hn hn1 hb hl hB3 hE3 hone hone0 hs0 HBR0 HE0 hgl hk
  go_enter Tryd.func25, Tryd.ntmps25
  go_wp2_with (with_reducible refine Bl.stop_load (ty := 5) ?_)
  refine Bl.go_on ?_
  rw [← hW1, ← hX]
  clear hW1 hX
  go_wp2_with (with_reducible refine Bl.stop_store (ty := 33) ?_)
  refine Bl.go_on ?_
  refine Bl.wpL_store0 rfl rfl Hst3.out ?_
  rw [← hW3, ← hY]
  clear hW3 hY Hst3 hcW HBR1 HE1
  go_wp2_with fail
  refine (out_any k 1 7 W3).mono ?_
  rintro e w3' ⟨rfl, hw3⟩
  subst hw3
  rw [Hk.out, Bool.not_false]
  clear q30
  have Hstz := Bl.hid (HStz.out _ HBR3.out)
  have HBR9 := Bl.hid (HBR3.out.set (cs' := Bl.zL.toList) rfl)
  have HZ9 := Bl.hid (HZ3.out.setCells (g := w.heap.size) (Nat.le_refl _) 0 Bl.zL.toList)
  go_wp2_with (with_reducible refine Bl.stop_store (ty := 33) ?_)
  refine Bl.go_on ?_
  refine Bl.wpL_store0 rfl rfl Hstz.out ?_
  go_wp2_with fail
  refine bodyPost_ret (v := .tuple #[.agg Bl.zL, .int .i64 7]) (Bl.results_cell2 rfl rfl (HBR9.out.loadVar (P := Tryd.prog) Tryd.underlying33 rfl (by kernel_rfl)) rfl) rfl ?_
  exact ⟨_, rfl, Bl.LtV.zero _, HZ9.out.ext fun k q => q⟩

theorem rparse_any (v : Value) (b : List Int) (w : World) (hR : Bl.Rd w .u8 v b) (hb : Bl.Byt b) (hl : b.length ≤ 9000) :
    Calls Tryd.prog 25 #[v] w fun e w' => Bl.ParD (Bl.parseL b) w e w' := by
  by_cases h8 : 8000 < b.length
  · have h : Bl.parseL b = (3, Bl.lt0) := by unfold Bl.parseL; rw [if_pos h8]
    rw [h]
    exact rparse_far v b w hR hl h8
  rw [Bl.parseL_T h8]
  cases b with
  | nil =>
    have h : Bl.parT (false, []) = (2, Bl.lt0) := by unfold Bl.parT; rw [if_pos Bl.nuT_none]
    rw [h]
    exact rparse_none v w hR
  | cons k r =>
    have hb1 : Bl.Byt r := fun x hx => hb x (List.mem_cons_of_mem _ hx)
    have hl1 : r.length + 1 ≤ 8000 := by
      have : (k :: r).length = r.length + 1 := rfl
      omega
    unfold Bl.parT
    rw [Bl.nuT_first]
    simp only [Bool.false_eq_true, if_false]
    by_cases hk : Bl.wi k 1 7 = false
    · rw [if_pos hk]
      exact rparse_out v k r w hR hb hl1 hk
    · rw [if_neg hk]
      have hk' : Bl.wi k 1 7 = true := by
        cases h : Bl.wi k 1 7
        · exact absurd h hk
        · rfl
      rw [Bl.finT_eq, ← Bl.finF_eq k r hk' hb1]
      rcases kinds7 (Bl.wi_iff.1 hk') with h1 | h1 | h1 | h1 | h1 | h1 | h1
      · subst h1; exact rparse1 v r w hR hb1 hl1
      · subst h1; exact rparse2 v r w hR hb1 hl1
      · subst h1; exact rparse3 v r w hR hb1 hl1
      · subst h1; exact rparse4 v r w hR hb1 hl1
      · subst h1; exact rparse5 v r w hR hb1 hl1
      · subst h1; exact rparse6 v r w hR hb1 hl1
      · subst h1; exact rparse7 v r w hR hb1 hl1
end Go.Proofs.YtmmolapkddbibaaDoor

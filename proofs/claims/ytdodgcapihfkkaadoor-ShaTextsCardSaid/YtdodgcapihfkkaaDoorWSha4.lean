/- Walks of slices.Clone at bytes, sha.New. -/
import Derived.Test.YtdodgcapihfkkaaDoorWSha3
import Derived.Lib.SliceRun
namespace Go.Proofs.YtdodgcapihfkkaaDoor
open Go.RowKit Go.Proofs

theorem tBytes : Bl.SlT Tryd.prog 24 5 (.int .u8 0) 1 1 := ⟨Tryd.underlying24, by kernel_rfl, rfl, by decide⟩

set_option maxRecDepth 100000 in
set_option maxHeartbeats 400000 in
theorem cloneB_some (ad : Addr) (c : Nat) (l : List Int) (w : World) (h2 : Bl.Rd w .u8 (.slice (some ad) l.length c) l) (hl : l.length ≤ 140737488355328) :
    Calls Tryd.prog 104 #[.slice (some ad) l.length c] w fun e w' => ∃ v', e = .returned v' ∧ w'.ownsRow w.heap.size 5 1 v' l.length (Bl.ints .u8 l) ∧ Bl.Ext w w' := by
  have e0 := Lib.run_eql_slice_nil (P := Tryd.prog) w 24 5 (some ad) l.length c 0 0 Tryd.underlying24
  have hE : Bl.Ext w (w.alloc (.cells #[] 5)) := (Below.refl _ _).alloc (Nat.le_refl _) _
  have ho : (w.alloc (.cells #[] 5)).ownsRow w.heap.size 5 1 (.slice (some ⟨w.heap.size, 0, none⟩) 0 0) 0 [] := Bl.owns_new w 5 #[] w.heap.size 0 1 (Nat.le_refl _) (by decide) rfl
  have Ho := Bl.hid ho
  have H2 := Bl.hid (h2.ext hE)
  have Hl := Bl.hid hl
  clear ho h2 hE hl
  go_enter Tryd.func104, Tryd.ntmps104
  go_wp2_with ((with_reducible refine Bl.wpL_append tBytes Ho.out H2.out (by simp) (Bl.ints_one _ _) (by have := Hl.out; unfold maxLen; omega) (by have := Hl.out; omega) (by simp) ?_ ?_ ?_); rfl; rfl; intro v' w' hown hg hB hK)
  go_ret
  rw [Nat.zero_add, List.nil_append] at hown
  exact ⟨_, rfl, hown, ((Below.refl _ _).alloc (Nat.le_refl _) _).trans hB⟩

set_option maxRecDepth 100000 in
set_option maxHeartbeats 400000 in
/-- slices.Clone of bytes -/
theorem cloneB_any (v : Value) (l : List Int) (w : World) (h : Bl.Rd w .u8 v l) (hl : l.length ≤ 140737488355328) :
    Calls Tryd.prog 104 #[v] w fun e w' => ∃ v', e = .returned v' ∧ w'.ownsRow w.heap.size 5 1 v' l.length (Bl.ints .u8 l) ∧ Bl.Ext w w' := by
  have h2 := h
  rcases h with ⟨⟨p, rfl⟩, hn, hc⟩ | ⟨b, o, c, rfl, hnc, hcm, hr⟩
  · obtain rfl : l = [] := List.length_eq_zero_iff.1 hn
    cases p with
    | some ad => exact cloneB_some ad 0 [] w h2 hl
    | none =>
      have e0 := Lib.run_eql_slice_nil (P := Tryd.prog) w 24 5 none 0 0 0 0 Tryd.underlying24
      clear hn hc h2
      go_enter Tryd.func104, Tryd.ntmps104
      go_wp2
      go_ret
      exact ⟨_, rfl, World.ownsRow_nil _ _ _ _, Below.refl _ _⟩
  · exact cloneB_some _ c l w h2 hl
end Go.Proofs.YtdodgcapihfkkaaDoor

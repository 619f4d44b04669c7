/- Walks of library functions over bytes: slices.Clone, slices.Reverse, bytes.TrimLeft at a nought. -/
import Derived.WalkKit
import Derived.WalkLawsBesides
import Derived.WalkSpells
import Derived.Deep.QuietTactic
import Derived.BigQuiet
import Derived.Deep.RegionWith
import Derived.Lib.SliceRun
import Derived.IntWalk
import Derived.Test.YtmfooocdnoflaaaDoorProg
import Derived.Test.YtmfooocdnoflaaaDoorLib0
import Derived.Test.YtmfooocdnoflaaaDoorChanceP
namespace Go.Proofs.Bl
open Go Go.RowKit
theorem fam_of_owns {w : World} {base e g c n : Nat} {k : IntKind} {l : List Int} (h : w.ownsRow base e 1 (.slice (some ⟨g, 0, none⟩) n c) n (ints k l)) : Fam w g k n (fun i => l.getD i 0) := by
  obtain ⟨h1, h2⟩ := h
  have hl : l.length = n := by simpa using h1
  rcases h2 with ⟨h2, _⟩ | ⟨g', cap, cur, hv, hg, hh, hn, hc, hs, hx⟩
  · cases h2
  · cases hv
    refine ⟨fun i hi => ?_, fun i => ?_⟩
    · have hi' : (ints k l)[i]? = some (.int k (l.getD i 0)) := ints_get k l i (by omega)
      rw [← hx, List.getElem?_take, if_pos (by omega)] at hi'
      simp only [World.cell?, hh]
      simpa using hi'
    · simp [World.frozen?, hh]
theorem owns_form {w : World} {base e size n : Nat} {v : Value} {xs : List Value} (h : w.ownsRow base e size v n xs) (hn : 0 < n) : ∃ g c, v = .slice (some ⟨g, 0, none⟩) n c ∧ base ≤ g ∧ g < w.heap.size ∧ n ≤ c ∧ c ≤ maxLen := by
  have hlt := h.lt
  obtain ⟨h1, h2⟩ := h
  rcases h2 with ⟨h2, h3⟩ | ⟨g', cap, cur, hv, hg, hh, hn, hc, hs, hx⟩
  · omega
  · subst hv
    exact ⟨g', cap, rfl, hg, (hlt g' rfl).2, hn, hc⟩
theorem fam_rd {w : World} {g c n : Nat} {k : IntKind} {l : List Int} (h : Fam w g k n (fun i => l.getD i 0)) (hl : l.length = n) (hn : n ≤ c) (hc : c ≤ maxLen) : Rd w k (.slice (some ⟨g, 0, none⟩) n c) l := by
  subst hl
  refine .inr ⟨g, 0, c, rfl, hn, hc, fun j v hv => ?_⟩
  have hj : j < l.length := by have := (List.getElem?_eq_some_iff.1 hv).1; simpa using this
  rw [ints_get _ _ _ hj] at hv
  cases hv
  rw [Nat.zero_add]
  exact h.1 j hj
end Go.Proofs.Bl
namespace Go.Proofs.YtmfooocdnoflaaaDoor
open Go.RowKit Go.Proofs

theorem tB : Bl.SlT Tryd.prog 80 5 (.int .u8 0) 1 1 := ⟨Tryd.underlying80, by kernel_rfl, rfl, by decide⟩

set_option maxRecDepth 100000 in
set_option maxHeartbeats 400000 in
/-- slices.Clone of bytes -/
theorem clB_any (v : Value) (l : List Int) (w : World) (h : Bl.Rd w .u8 v l) (hl : l.length ≤ 140737488355328) :
    Calls Tryd.prog 78 #[v] w fun e w' => ∃ v', e = .returned v' ∧ w'.ownsRow w.heap.size 5 1 v' l.length (Bl.ints .u8 l) ∧ Bl.Ext w w' := by
  have h2 := h
  rcases h with ⟨⟨p, rfl⟩, hn, hc⟩ | ⟨b, o, c, rfl, hnc, hcm, hr⟩
  · obtain rfl : l = [] := List.length_eq_zero_iff.1 hn
    cases p with
    | none =>
      have e0 := Lib.run_eql_slice_nil (P := Tryd.prog) w 80 5 none 0 0 0 0 Tryd.underlying80
      clear hn hc h2
      go_enter Tryd.func78, Tryd.ntmps78
      go_wp2
      go_ret
      exact ⟨_, rfl, World.ownsRow_nil _ _ _ _, Below.refl _ _⟩
    | some ad =>
      have e0 := Lib.run_eql_slice_nil (P := Tryd.prog) w 80 5 (some ad) 0 0 0 0 Tryd.underlying80
      have hE : Bl.Ext w (w.alloc (.cells #[] 5)) := (Below.refl _ _).alloc (Nat.le_refl _) _
      have ho : (w.alloc (.cells #[] 5)).ownsRow w.heap.size 5 1 (.slice (some ⟨w.heap.size, 0, none⟩) 0 0) 0 [] := Bl.owns_new w 5 #[] w.heap.size 0 1 (Nat.le_refl _) (by decide) rfl
      have Ho := Bl.hid ho
      have H2 := Bl.hid (h2.ext hE)
      have Hl := Bl.hid hl
      clear ho h2 hE hl hn hc
      go_enter Tryd.func78, Tryd.ntmps78
      go_wp2_with ((with_reducible refine Bl.wpL_append tB Ho.out H2.out (by simp) (Bl.ints_one _ _) (by have := Hl.out; unfold maxLen; omega) (by have := Hl.out; omega) (by simp) ?_ ?_ ?_); rfl; rfl; intro v' w' hown hg hB hK)
      go_ret
      rw [Nat.zero_add, List.nil_append] at hown
      exact ⟨_, rfl, hown, ((Below.refl _ _).alloc (Nat.le_refl _) _).trans hB⟩
  · have e0 := Lib.run_eql_slice_nil (P := Tryd.prog) w 80 5 (some ⟨b, o, none⟩) l.length c 0 0 Tryd.underlying80
    have hE : Bl.Ext w (w.alloc (.cells #[] 5)) := (Below.refl _ _).alloc (Nat.le_refl _) _
    have ho : (w.alloc (.cells #[] 5)).ownsRow w.heap.size 5 1 (.slice (some ⟨w.heap.size, 0, none⟩) 0 0) 0 [] := Bl.owns_new w 5 #[] w.heap.size 0 1 (Nat.le_refl _) (by decide) rfl
    have Ho := Bl.hid ho
    have H2 := Bl.hid (h2.ext hE)
    have Hl := Bl.hid hl
    clear ho h2 hE hr hl
    go_enter Tryd.func78, Tryd.ntmps78
    go_wp2_with ((with_reducible refine Bl.wpL_append tB Ho.out H2.out (by simp) (Bl.ints_one _ _) (by have := Hl.out; unfold maxLen; omega) (by have := Hl.out; omega) (by simp) ?_ ?_ ?_); rfl; rfl; intro v' w' hown hg hB hK)
    go_ret
    rw [Nat.zero_add, List.nil_append] at hown
    exact ⟨_, rfl, hown, ((Below.refl _ _).alloc (Nat.le_refl _) _).trans hB⟩

end Go.Proofs.YtmfooocdnoflaaaDoor

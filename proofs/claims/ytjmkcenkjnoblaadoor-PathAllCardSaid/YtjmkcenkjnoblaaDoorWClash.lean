/- Walk of path.Clash. -/
import Derived.Test.YtjmkcenkjnoblaaDoorWBack
import Derived.Test.YtjmkcenkjnoblaaDoorPathR
import Derived.Test.YtjmkcenkjnoblaaDoorWFold
import Derived.Test.YtjmkcenkjnoblaaDoorWRefMake
import Derived.Test.YtjmkcenkjnoblaaDoorWRoots
import Derived.Test.YtjmkcenkjnoblaaDoorWParse
namespace Go.Proofs.Bl
open Go Go.RowKit
theorem loadVar_one {P : Program} {w : World} {b : Nat} {ty : TypeId} {v : Value} (hc : w.cell? ⟨b, 0, none⟩ = some v) (ha : ∀ w, (isAgg ty).run P w = .ok false w) : (loadVar ty ⟨b, 0, none⟩).run P w = .ok v w := by
  simp [loadVar, Sem.run_bind, ha, run_load, hc]
/-- what path.Clash answers: none, or two byte strings of one digest -/
def ClashR (w' : World) (x y : Value) : Prop := ∃ X Y, Rd w' .u8 x X ∧ Rd w' .u8 y Y ∧ Byt X ∧ Byt Y ∧ X ≠ Y ∧ sha X = sha Y ∧ X.length ≤ 1099511627000 ∧ Y.length ≤ 1099511627000
theorem frozen_new1 (w : World) (v : Value) (t : TypeId) : (w.alloc (.cells #[v] t)).frozen? ⟨w.heap.size, 0, none⟩ = false := by simp
/-- three new variables -/
theorem three_new (w : World) (x y z : Value) (t1 t2 t3 : TypeId) :
    (((w.alloc (.cells #[x] t1)).alloc (.cells #[y] t2)).alloc (.cells #[z] t3)).cell? ⟨w.heap.size, 0, none⟩ = some x ∧ (((w.alloc (.cells #[x] t1)).alloc (.cells #[y] t2)).alloc (.cells #[z] t3)).cell? ⟨w.heap.size + 1, 0, none⟩ = some y ∧ (((w.alloc (.cells #[x] t1)).alloc (.cells #[y] t2)).alloc (.cells #[z] t3)).cell? ⟨w.heap.size + 1 + 1, 0, none⟩ = some z ∧
    (((w.alloc (.cells #[x] t1)).alloc (.cells #[y] t2)).alloc (.cells #[z] t3)).frozen? ⟨w.heap.size, 0, none⟩ = false ∧ (((w.alloc (.cells #[x] t1)).alloc (.cells #[y] t2)).alloc (.cells #[z] t3)).frozen? ⟨w.heap.size + 1, 0, none⟩ = false ∧ (((w.alloc (.cells #[x] t1)).alloc (.cells #[y] t2)).alloc (.cells #[z] t3)).frozen? ⟨w.heap.size + 1 + 1, 0, none⟩ = false ∧
    (((w.alloc (.cells #[x] t1)).alloc (.cells #[y] t2)).alloc (.cells #[z] t3)).heap.size = w.heap.size + 1 + 1 + 1 := by
  have s1 : (w.alloc (.cells #[x] t1)).heap.size = w.heap.size + 1 := World.size_alloc _ _
  have s2 : ((w.alloc (.cells #[x] t1)).alloc (.cells #[y] t2)).heap.size = w.heap.size + 1 + 1 := by rw [World.size_alloc, s1]
  have cx := cell_new1 w x t1
  have fx := frozen_new1 w x t1
  have cy := cell_new1 (w.alloc (.cells #[x] t1)) y t2
  have fy := frozen_new1 (w.alloc (.cells #[x] t1)) y t2
  have cz := cell_new1 ((w.alloc (.cells #[x] t1)).alloc (.cells #[y] t2)) z t3
  have fz := frozen_new1 ((w.alloc (.cells #[x] t1)).alloc (.cells #[y] t2)) z t3
  have e2 := bcell (ext_alloc (w.alloc (.cells #[x] t1)) (.cells #[y] t2))
  have e3 := bcell (ext_alloc ((w.alloc (.cells #[x] t1)).alloc (.cells #[y] t2)) (.cells #[z] t3))
  rw [s1] at cy fy
  rw [s2] at cz fz
  exact ⟨(e3.1 _ 0 (by omega)).trans ((e2.1 _ 0 (by omega)).trans cx), (e3.1 _ 0 (by omega)).trans cy, cz, (e3.2 _ 0 (by omega)).trans ((e2.2 _ 0 (by omega)).trans fx), (e3.2 _ 0 (by omega)).trans fy, fz, by rw [World.size_alloc, s2]⟩
/-- the last element of a list of chunks -/
theorem chunks_snoc {m k : Nat} {p : List (Fin m)} {x : Fin m} (hk : k ≤ m) (h : p ++ [x] = chunks m k) : p = chunks m x.val := by
  cases k with
  | zero => simp [chunks] at h
  | succ k =>
    rw [chunks_succ m k (by omega)] at h
    have h2 := List.append_inj_right' h rfl
    injection h2 with h2
    rw [h2]
    exact List.append_inj_left' h rfl
theorem chunks_mem {m k : Nat} (j : Nat) (hj : j < k) (hk : k ≤ m) : (⟨j, by omega⟩ : Fin m) ∈ chunks m k := by
  have : (chunks m k)[j]? = some ⟨j, by omega⟩ := by
    unfold chunks
    rw [List.getElem?_take, if_pos hj, List.getElem?_eq_getElem (by simp; omega)]; simp
  exact List.mem_of_getElem? this
theorem Rdss.rows {w : World} {v : Value} {ps : List (List Int)} (h : Rdss w v ps) (h0 : 0 < ps.length) : ∃ b o c vs, v = .slice (some ⟨b, o, none⟩) ps.length c ∧ ps.length ≤ c ∧ b < w.heap.size ∧ vs.length = ps.length ∧ w.rangeAt b o vs ∧ ∀ j, j < ps.length → ∃ q d, vs.getD j undef = .slice q (ps.getD j []).length d ∧ Rd w .u8 (.slice q (ps.getD j []).length d) (ps.getD j []) := by
  obtain ⟨vs, hv, hvl, hr⟩ := h
  rcases hv with ⟨_, h1, _⟩ | ⟨b, o, c, h1, h2, h3, h4⟩
  · omega
  · refine ⟨b, o, c, vs, h1, h2, rangeAt_lt h4 (fun q => by rw [q] at hvl; simp at hvl; omega), hvl, h4, fun j hj => ?_⟩
    have h5 := hr j hj
    obtain ⟨q, d, h6, _, _⟩ := h5.form
    rw [h6] at h5
    exact ⟨q, d, h6, h5⟩
end Go.Proofs.Bl
namespace Go.Proofs.YtjmkcenkjnoblaaDoor
open Go Go.RowKit Go.Proofs

attribute [local go_sem] Oper.semAt_some

/-- what path.Clash leaves of its three results -/
def ThreeV (w : World) (B : Nat) (x y : Value) (b : Bool) : Prop := w.cell? ⟨B, 0, none⟩ = some x ∧ w.cell? ⟨B + 1, 0, none⟩ = some y ∧ w.cell? ⟨B + 1 + 1, 0, none⟩ = some (.bool b)
theorem ThreeV.res {w : World} {B : Nat} {x y : Value} {b : Bool} (h : ThreeV w B x y b) {fn : Func} {tmps : Array Value} (hf : fn.results = #[.cell 8 23, .cell 9 23, .cell 10 4]) (h8 : tmps.getD 8 undef = .pointer (some ⟨B, 0, none⟩)) (h9 : tmps.getD 9 undef = .pointer (some ⟨B + 1, 0, none⟩)) (h10 : tmps.getD 10 undef = .pointer (some ⟨B + 1 + 1, 0, none⟩)) :
    (results fn tmps).run Tryd.prog w = .ok (.tuple #[x, y, .bool b]) w :=
  Bl.results_cell3 hf h8 h9 h10 (Bl.loadVar_one h.1 Tryd.isAgg23) (Bl.loadVar_one h.2.1 Tryd.isAgg23) (Bl.loadVar_one h.2.2 Tryd.isAgg4)
theorem ThreeV.kc {w w' : World} {B : Nat} {x y : Value} {b : Bool} (h : ThreeV w B x y b) (k : Bl.KC w w') : ThreeV w' B x y b := ⟨k _ _ h.1, k _ _ h.2.1, k _ _ h.2.2⟩

theorem ThreeV.set {w : World} {B : Nat} {x y : Value} {b : Bool} {u0 u1 u2 : Value} (h0 : w.cell? ⟨B, 0, none⟩ = some u0) (h1 : w.cell? ⟨B + 1, 0, none⟩ = some u1) (h2 : w.cell? ⟨B + 1 + 1, 0, none⟩ = some u2) :
    ThreeV (((w.setCell ⟨B, 0, none⟩ x).setCell ⟨B + 1, 0, none⟩ y).setCell ⟨B + 1 + 1, 0, none⟩ (.bool b)) B x y b := by
  have e1 : (w.setCell ⟨B, 0, none⟩ x).cell? ⟨B + 1, 0, none⟩ = some u1 := by rw [World.cell?_setCell_other _ _ _ _ (by intro q; injection q with q; omega)]; exact h1
  have e2 : ((w.setCell ⟨B, 0, none⟩ x).setCell ⟨B + 1, 0, none⟩ y).cell? ⟨B + 1 + 1, 0, none⟩ = some u2 := by
    rw [World.cell?_setCell_other _ _ _ _ (by intro q; injection q with q; omega), World.cell?_setCell_other _ _ _ _ (by intro q; injection q with q; omega)]; exact h2
  refine ⟨?_, ?_, World.cell?_setCell_same _ _ _ e2⟩
  · rw [World.cell?_setCell_other _ _ _ _ (by intro q; injection q with q; omega), World.cell?_setCell_other _ _ _ _ (by intro q; injection q with q; omega)]
    exact World.cell?_setCell_same _ _ _ h0
  · rw [World.cell?_setCell_other _ _ _ _ (by intro q; injection q with q; omega)]
    exact World.cell?_setCell_same _ _ _ e1

set_option maxRecDepth 100000 in
set_option maxHeartbeats 1000000 in
/-- path.Clash where there is no such leaf -/
theorem pclash_none (v vl vp : Value) (ps : List (List Int)) (i : Int) (w : World) (S : List Nat) (a : Nat → Addr) (hR : Bl.Rdss w v ps) (he : Errs S a w) (h1 : 1 ∈ S) (hi : ¬ ((ps.length : Int) ≤ 512 ∧ 0 ≤ i ∧ i < ps.length)) :
    Calls Tryd.prog 14 #[v, .int .i64 i, vl, vp] w fun e w' => e = .returned (.tuple #[.slice none 0 0, .slice none 0 0, .bool false]) ∧ Bl.Ext w w' := by
  have HM : Hid (∀ w2, Bl.Ext w w2 → Calls Tryd.prog 19 #[v, .int .i64 i] w2 fun e w' => e = .returned (.tuple #[.slice none 0 0, .iface 128 (.pointer (some (a 1)))]) ∧ Bl.Ext w2 w') := Bl.hid fun w2 h2 =>
    pmake_no v ps i w2 (a 1) (hR.ext h2) ((he.ext h2).cell 1 h1) hi
  obtain ⟨W0, hW0⟩ : ∃ W0, W0 = ((w.alloc (.cells #[.slice none 0 0] 23)).alloc (.cells #[.slice none 0 0] 23)).alloc (.cells #[.bool false] 4) := ⟨_, rfl⟩
  have HE0 : Hid (Bl.Ext w W0) := Bl.hid (by rw [hW0]; exact ((Bl.ext_alloc _ _).trans (Bl.ext_alloc _ _)).trans (Bl.ext_alloc _ _))
  have HT0 : Hid (ThreeV W0 w.heap.size (.slice none 0 0) (.slice none 0 0) false ∧ W0.frozen? ⟨w.heap.size, 0, none⟩ = false ∧ W0.frozen? ⟨w.heap.size + 1, 0, none⟩ = false ∧ W0.frozen? ⟨w.heap.size + 1 + 1, 0, none⟩ = false ∧ W0.heap.size = w.heap.size + 1 + 1 + 1) := Bl.hid (by
    have h := Bl.three_new w (.slice none 0 0) (.slice none 0 0) (.bool false) 23 23 4
    rw [← hW0] at h
    exact ⟨⟨h.1, h.2.1, h.2.2.1⟩, h.2.2.2⟩)
  clear hR he hi
  refine (callsIn_wide (n := 9)).1 ?_
  refine callsIn_of_wp_marks Tryd.func14 rfl trivial ?_ rfl
  simp only [Tryd.ntmps14, List.size_toArray, List.length_cons, List.length_nil, Nat.reduceAdd, Nat.reduceSub, Array.replicate_succ, Array.replicate_zero, List.push_toArray, List.append_toArray, List.nil_append, List.cons_append]
  refine wpIn_wide.2 ?_
  go_wp2_with fail
  rw [← hW0]
  clear hW0
  refine (HM.out W0 HE0.out).mono ?_
  rintro e w1 ⟨rfl, hE1⟩
  obtain ⟨⟨hc0, hc1, hc2⟩, hf0, hf1, hf2, hsz⟩ := HT0.out
  have hd0 := ((Bl.bcell hE1).1 _ 0 (by omega)).trans hc0
  have hd1 := ((Bl.bcell hE1).1 _ 0 (by omega)).trans hc1
  have hd2 := ((Bl.bcell hE1).1 _ 0 (by omega)).trans hc2
  have hg0 := ((Bl.bcell hE1).2 _ 0 (by omega)).trans hf0
  have hg1 := ((Bl.bcell hE1).2 _ 0 (by omega)).trans hf1
  have hg2 := ((Bl.bcell hE1).2 _ 0 (by omega)).trans hf2
  have HE1 := Bl.hid (HE0.out.trans hE1)
  clear hE1 hc0 hc1 hc2 hf0 hf1 hf2 hsz HM
  go_wp2_with fail
  refine Bl.leaves_kc (B := w.heap.size) _ 0 _ trivial ?_
  intro w' hw' hkc
  exact ⟨_, (ThreeV.kc (ThreeV.set hd0 hd1 hd2) hkc).res rfl rfl rfl rfl, rfl, Below.trans (((HE1.out.setCell (Nat.le_refl _) _).setCell (Nat.le_succ _) _).setCell (by show w.heap.size ≤ w.heap.size + 1 + 1; omega) _) hw'⟩
end Go.Proofs.YtjmkcenkjnoblaaDoor

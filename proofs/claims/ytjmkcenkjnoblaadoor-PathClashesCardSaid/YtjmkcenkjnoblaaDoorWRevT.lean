/- Walk of slices.Reverse over steps. -/
import Derived.Test.YtjmkcenkjnoblaaDoorWMake2
namespace Go.Proofs.Bl
open Go Go.RowKit
theorem load_row {P : Program} {w : World} {b o : Nat} {ty : TypeId} {cs : List Value} {d : TypeDesc} {n : Nat} (hc : w.rangeAt b o cs) (hu : P.underlying ty = some d) (hd : d.isRow = true) (hi : (P.info? ty).map (·.size) = some n) (hl : cs.length = n) :
    (Instr.loadAt ty (.pointer (some ⟨b, o, none⟩))).run P w = .ok (.agg cs.toArray) w := run_loadAt_mid w b o ty cs d hc hu hd (by rw [hi, hl])
theorem store_row {P : Program} {w : World} {b o : Nat} {ty : TypeId} {cs : List Value} {n : Nat} (ht : w.there b o n) (hi : (P.info? ty).map (·.size) = some n) (hl : cs.length = n) (h1 : ∀ c ∈ cs, c.oneCell' = true) :
    (Instr.storeAt ty (.pointer (some ⟨b, o, none⟩)) (.agg cs.toArray)).run P w = .ok () (w.setCells b o cs) := by
  have h := run_storeAt_mid (P := P) w b o ty cs.toArray (by simpa [hl] using ht) (by rw [hi]; simp [hl]) (all_oneCell_toArray h1)
  simpa using h
/-- a step's cells -/
def cellT (t : Bool × Nat × Nat) : List Value := [.bool t.1, .int .i64 t.2.1, .int .i64 t.2.2]
theorem cellT_one (t : Bool × Nat × Nat) : ∀ c ∈ cellT t, c.oneCell' = true := by
  intro c hc
  simp only [cellT, List.mem_cons, List.not_mem_nil, or_false] at hc
  rcases hc with rfl | rfl | rfl <;> rfl
/-- a block that begins with a row of steps, and may be written -/
structure HV (w : World) (g : Nat) (L : List (List Value)) : Prop where
  len : ∀ i, i < L.length → (L.getD i []).length = 3
  at' : ∀ i, i < L.length → w.rangeAt g (i * 3) ((L.getD i []))
  th : w.there g 0 (L.length * 3)
theorem getD_setV (L : List (List Value)) (i j : Nat) (d : List Value) (h : i < L.length) : (L.set i d).getD j [] = if j = i then d else L.getD j [] := by
  rw [List.getD_eq_getElem?_getD, List.getD_eq_getElem?_getD, List.getElem?_set]
  by_cases e : i = j
  · subst e; simp [h]
  · have e' : ¬ j = i := fun q => e q.symm
    rw [if_neg e, if_neg e']
theorem HV.set {w : World} {g : Nat} {L : List (List Value)} (h : HV w g L) {i : Nat} (hi : i < L.length) {d : List Value} (hd : d.length = 3) : HV (w.setCells g (i * 3) d) g (L.set i d) := by
  have hti : w.there g (i * 3) 3 := fun j hj => by
    have := h.th (i * 3 + j) (by omega)
    rw [Nat.zero_add] at this; exact this
  refine ⟨fun j hj => ?_, fun j hj => ?_, ?_⟩
  · rw [getD_setV _ _ _ _ hi]
    rw [List.length_set] at hj
    split
    · exact hd
    · exact h.len j hj
  · rw [getD_setV _ _ _ _ hi]
    rw [List.length_set] at hj
    by_cases e : j = i
    · rw [if_pos e, e]
      exact World.rangeAt_setCells_same w g (i * 3) d (by rw [hd]; exact hti)
    · rw [if_neg e]
      exact World.rangeAt_setCells_apart (h.at' j hj) g (i * 3) d (.inr (by rw [hd, h.len j hj]; omega))
  · rw [List.length_set]; exact World.there_setCells h.th _ _ _
theorem HV.below {w w' : World} {g : Nat} {L : List (List Value)} (h : HV w g L) {B : Nat} (hb : Below B w w') (hg : g < B) : HV w' g L :=
  ⟨h.len, fun i hi => rangeAt_below (h.at' i hi) hb hg, fun j hj => by rw [(bcell hb).1 _ _ hg, (bcell hb).2 _ _ hg]; exact h.th j hj⟩
theorem HV.drew {w : World} {g : Nat} {L : List (List Value)} (h : HV w g L) : HV w.drew g L := ⟨h.len, h.at', h.th⟩
theorem HV.congr {w : World} {g : Nat} {L M : List (List Value)} (h : HV w g L) (e : M = L) : HV w g M := by rw [e]; exact h
/-- two swapped -/
def RevJV (g : Nat) (L0 L1 L2 : List (List Value)) (d : Nat → Bool) (_u : Nat → Value) (w : World) : Prop := HV w g (if d 15 = true then L2 else if d 13 = true then L1 else L0)
theorem RevJV.same {g i : Nat} {L0 L1 L2 : List (List Value)} {d : Nat → Bool} {u u' : Nat → Value} {w : World} (hi : (decide (15 = i) || decide (13 = i)) = false) (h : RevJV g L0 L1 L2 d u w) : RevJV g L0 L1 L2 (upd d i) u' w := by
  simp only [Bool.or_eq_false_iff, decide_eq_false_iff_not] at hi
  unfold RevJV upd at *
  rw [if_neg hi.1, if_neg hi.2]; exact h
theorem RevJV.st1 {g : Nat} {L0 L1 L2 : List (List Value)} {d : Nat → Bool} {u : Nat → Value} {w : World} (h15 : d 15 = false) (h : HV w g L1) : RevJV g L0 L1 L2 (upd d 13) u w := by
  show HV w g (if upd d 13 15 = true then L2 else if upd d 13 13 = true then L1 else L0)
  rw [show upd d 13 15 = false from h15, show upd d 13 13 = true from rfl]
  exact h
/-- the first k and the last k are turned round -/
def revV (L : List (List Value)) (k : Nat) : List (List Value) := (List.range L.length).map fun i => if i < k ∨ L.length ≤ i + k then L.getD (L.length - 1 - i) [] else L.getD i []
theorem revV_length (L : List (List Value)) (k : Nat) : (revV L k).length = L.length := by simp [revV]
theorem revV_get (L : List (List Value)) (k i : Nat) (h : i < L.length) : (revV L k).getD i [] = if i < k ∨ L.length ≤ i + k then L.getD (L.length - 1 - i) [] else L.getD i [] := by
  unfold revV
  rw [List.getD_eq_getElem?_getD, List.getElem?_map, List.getElem?_range h]; rfl
theorem list_extV {A B : List (List Value)} (h : A.length = B.length) (k : ∀ i, i < A.length → A.getD i [] = B.getD i []) : A = B := by
  apply List.ext_getElem h
  intro i h1 h2
  have := k i h1
  rw [List.getD_eq_getElem?_getD, List.getD_eq_getElem?_getD, List.getElem?_eq_getElem h1, List.getElem?_eq_getElem h2] at this
  exact this
theorem revV_zero (L : List (List Value)) : revV L 0 = L := list_extV (revV_length L 0) fun i hi => by
  rw [revV_length] at hi
  rw [revV_get L 0 i hi, if_neg (by omega)]
theorem revV_succ (L : List (List Value)) (k : Nat) (h : 2 * k + 1 < L.length) : revV L (k + 1) = ((revV L k).set k (L.getD (L.length - 1 - k) [])).set (L.length - 1 - k) (L.getD k []) := by
  refine list_extV (by rw [revV_length, List.length_set, List.length_set, revV_length]) fun i hi => ?_
  rw [revV_length] at hi
  rw [getD_setV _ _ _ _ (by rw [List.length_set, revV_length]; omega), getD_setV _ _ _ _ (by rw [revV_length]; omega), revV_get _ _ _ hi, revV_get _ _ _ hi]
  by_cases c1 : i = L.length - 1 - k
  · rw [if_pos c1, if_pos (by omega), c1, show L.length - 1 - (L.length - 1 - k) = k from by omega]
  · rw [if_neg c1]
    by_cases c2 : i = k
    · rw [if_pos c2, if_pos (by omega), c2]
    · rw [if_neg c2]
      by_cases c3 : i < k ∨ L.length ≤ i + k
      · rw [if_pos c3, if_pos (by omega)]
      · rw [if_neg c3, if_neg (by omega)]
theorem revV_end (L : List (List Value)) (k : Nat) (h : L.length ≤ 2 * k + 1) (h2 : 2 * k ≤ L.length + 1) : revV L k = L.reverse := list_extV (by rw [revV_length, List.length_reverse]) fun i hi => by
  rw [revV_length] at hi
  rw [revV_get L k i hi]
  have e : L.reverse.getD i [] = L.getD (L.length - 1 - i) [] := by
    rw [List.getD_eq_getElem?_getD, List.getD_eq_getElem?_getD, List.getElem?_reverse hi]
  rw [e]
  by_cases c : i < k ∨ L.length ≤ i + k
  · rw [if_pos c]
  · rw [if_neg c, show L.length - 1 - i = i from by omega]
theorem map_getT (ts : List (Bool × Nat × Nat)) (k : Nat) (h : k < ts.length) : (ts.map cellT).getD k [] = cellT (ts.getD k default) := getD_map cellT ts k default [] h
theorem HV.of_owns {w : World} {base g c : Nat} {e : TypeId} {ts : List (Bool × Nat × Nat)} (h : w.ownsRow base e 3 (.slice (some ⟨g, 0, none⟩) ts.length c) ts.length (cellsT ts)) : HV w g (ts.map cellT) := by
  have h2 := h
  refine ⟨fun i hi => ?_, fun i hi => ?_, fun j hj => ?_⟩
  · rw [List.length_map] at hi; rw [map_getT _ _ hi]; rfl
  · rw [List.length_map] at hi
    have := turn_at (o := 0) (fun j v hv => by
      have := h.cells (g := g) rfl j v hv
      rw [Addr.add_mid] at this; exact this) hi (x := (ts.getD i default).1) (n := (ts.getD i default).2.1) (i := (ts.getD i default).2.2) rfl
    rw [Nat.zero_add] at this
    rw [map_getT _ _ hi]
    exact this
  · rw [List.length_map] at hj
    have hlen := cellsT_length ts
    have hjl : j < (cellsT ts).length := by omega
    have hc := h.cells (g := g) rfl j _ (List.getElem?_eq_getElem hjl)
    rw [Addr.add_mid] at hc
    refine ⟨by rw [hc]; rfl, ?_⟩
    rcases h2.2 with ⟨hv, _⟩ | ⟨k, cap, cur, hv, hk, hh, r⟩
    · cases hv
    · injection hv with e1 _ _
      injection e1 with e1
      injection e1 with e1
      subst e1
      simp [World.frozen?, hh]
theorem cellsT_at (ts : List (Bool × Nat × Nat)) (j : Nat) (h : j < ts.length * 3) : (cellsT ts)[j]? = (cellT (ts.getD (j / 3) default))[j % 3]? := by
  obtain ⟨h0, h1, h2⟩ := cellsT_get ts (j / 3) (by omega)
  have hm : j % 3 = 0 ∨ j % 3 = 1 ∨ j % 3 = 2 := by omega
  rcases hm with hm | hm | hm
  · rw [hm, show j = j / 3 * 3 from by omega]; rw [show j / 3 * 3 / 3 = j / 3 from by omega]; exact h0
  · rw [hm, show j = j / 3 * 3 + 1 from by omega]; rw [show (j / 3 * 3 + 1) / 3 = j / 3 from by omega]; exact h1
  · rw [hm, show j = j / 3 * 3 + 2 from by omega]; rw [show (j / 3 * 3 + 2) / 3 = j / 3 from by omega]; exact h2
theorem HV.rds {w : World} {g c : Nat} {ts : List (Bool × Nat × Nat)} (h : HV w g (ts.map cellT)) (hc : ts.length ≤ c) (hm : c ≤ maxLen) : Rds w (.slice (some ⟨g, 0, none⟩) ts.length c) ts.length (cellsT ts) := by
  refine .inr ⟨g, 0, c, rfl, hc, hm, fun j v hv => ?_⟩
  have hj : j < ts.length * 3 := by
    have := (List.getElem?_eq_some_iff.1 hv).1
    rwa [cellsT_length] at this
  have h1 := h.at' (j / 3) (by rw [List.length_map]; omega)
  rw [map_getT _ _ (by omega)] at h1
  rw [cellsT_at ts j hj] at hv
  have := h1 (j % 3) v hv
  rw [show j / 3 * 3 + j % 3 = 0 + j from by omega] at this
  exact this
end Go.Proofs.Bl
namespace Go.Proofs.YtjmkcenkjnoblaaDoor
open Go.RowKit Go.Proofs

set_option maxRecDepth 100000 in
set_option maxHeartbeats 1000000 in
/-- slices.Reverse of steps, by rows -/
theorem revT_rows (g c n : Nat) (L : List (List Value)) (w : World) (hone : ∀ i, i < L.length → ∀ c ∈ L.getD i [], c.oneCell' = true) (hn : n = L.length) (h : Bl.HV w g L) (hl : n ≤ 1099511627776) (_hc : n ≤ c) (_hcm : c ≤ maxLen) :
    Calls Tryd.prog 49 #[.slice (some ⟨g, 0, none⟩) n c] w fun e w' => e = .returned (.tuple #[]) ∧ Bl.HV w' g L.reverse ∧ Below g w w' := by
  have H := Bl.hid h
  have Hn := Bl.hid hn
  have Hone := Bl.hid hone
  clear h hn hone
  go_enter Tryd.func49, Tryd.ntmps49
  go_wp2_with fail
  go_loopw [2, 3] (fun i j wr => ∃ k : Nat, i = .int .i64 k ∧ j = .int .i64 ((n : Int) - 1 - k) ∧ 2 * k ≤ n + 1 ∧ Bl.HV wr g (Bl.revV L k) ∧ Below g w wr) (fun i _ _ => n + 1 - (intOf i).toNat)
  case atStart => exact ⟨0, rfl, by simp, by omega, H.out.congr (Bl.revV_zero L), Below.refl _ _⟩
  case round =>
    obtain ⟨k, rfl, rfl, hk, hF, hB⟩ := hrel
    have HF := Bl.hid hF
    have HB := Bl.hid hB
    clear hF hB
    by_cases hlt : (k : Int) < (n : Int) - 1 - (k : Int)
    · obtain ⟨m, hm⟩ : ∃ m, m = n - 1 - k := ⟨_, rfl⟩
      have hmi : (n : Int) - 1 - (k : Int) = (m : Int) := by omega
      rw [hmi] at hlt ⊢
      have Hm : Hid (m = L.length - 1 - k) := Bl.hid (by rw [hm, Hn.out])
      have hkm : k < m := by omega
      have hmn : m < n := by omega
      have h2k : 2 * k + 1 < n := by omega
      have hmi2 : (m : Int) - 1 = (n : Int) - 1 - ((k + 1 : Nat) : Int) := by omega
      have Hmi2 := Bl.hid hmi2
      have hkl : k < (Bl.revV L k).length := by rw [Bl.revV_length, ← Hn.out]; omega
      have hml : m < (Bl.revV L k).length := by rw [Bl.revV_length, ← Hn.out]; omega
      have Hsucc := Bl.hid (Bl.revV_succ L k (by rw [← Hn.out]; omega))
      have hgk : (Bl.revV L k).getD k [] = L.getD k [] := by rw [Bl.revV_get L k k (by rw [← Hn.out]; omega), if_neg (by rw [← Hn.out]; omega)]
      have hgm : (Bl.revV L k).getD m [] = L.getD m [] := by rw [Bl.revV_get L k m (by rw [← Hn.out]; omega), if_neg (by rw [← Hn.out]; omega)]
      rw [← Hm.out] at Hsucc
      have hxl := HF.out.len k hkl
      have hyl := HF.out.len m hml
      rw [hgk] at hxl
      rw [hgm] at hyl
      have hx1 := Hone.out k (by rw [← Hn.out]; omega)
      have hy1 := Hone.out m (by rw [← Hn.out]; omega)
      have Hkl := Bl.hid hkl
      have Hml := Bl.hid hml
      obtain ⟨L0, hL0⟩ : ∃ L0, L0 = Bl.revV L k := ⟨_, rfl⟩
      obtain ⟨x, hx⟩ : ∃ x, x = L.getD k [] := ⟨_, rfl⟩
      obtain ⟨y, hy⟩ : ∃ y, y = L.getD m [] := ⟨_, rfl⟩
      rw [← hL0] at HF Hkl Hml Hsucc hgk hgm
      rw [← hx, ← hy] at Hsucc
      rw [← hx] at hxl hgk hx1
      rw [← hy] at hyl hgm hy1
      have Hx1 := Bl.hid hx1
      have Hy1 := Bl.hid hy1
      have Hgk := Bl.hid hgk
      have Hgm := Bl.hid hgm
      have Hxl := Bl.hid hxl
      have Hyl := Bl.hid hyl
      clear hkl hml hxl hyl hL0 hx hy hgk hgm hmi hm hx1 hy1
      have HLm : Hid (∀ w', Bl.HV w' g L0 → (Instr.loadAt 82 (.pointer (some ⟨g, m * 3, none⟩))).run Tryd.prog w' = .ok (.agg y.toArray) w') := Bl.hid fun w' h => by
        have h1 := h.at' m Hml.out
        rw [Hgm.out] at h1
        exact Bl.load_row h1 Tryd.underlying82 rfl (by kernel_rfl) Hyl.out
      have HLk : Hid (∀ w', Bl.HV w' g L0 → (Instr.loadAt 82 (.pointer (some ⟨g, k * 3, none⟩))).run Tryd.prog w' = .ok (.agg x.toArray) w') := Bl.hid fun w' h => by
        have h1 := h.at' k Hkl.out
        rw [Hgk.out] at h1
        exact Bl.load_row h1 Tryd.underlying82 rfl (by kernel_rfl) Hxl.out
      have HSk : Hid (∀ w', Bl.HV w' g L0 → (Instr.storeAt 82 (.pointer (some ⟨g, k * 3, none⟩)) (.agg y.toArray)).run Tryd.prog w' = .ok () (w'.setCells g (k * 3) y) ∧ Bl.HV (w'.setCells g (k * 3) y) g (L0.set k y)) := Bl.hid fun w' h => ⟨Bl.store_row (n := 3) (fun j hj => by
        have := h.th (k * 3 + j) (by have := Hkl.out; omega)
        rw [Nat.zero_add] at this; exact this) (by kernel_rfl) Hyl.out Hy1.out, h.set Hkl.out Hyl.out⟩
      have HSm : Hid (∀ w', Bl.HV w' g (L0.set k y) → (Instr.storeAt 82 (.pointer (some ⟨g, m * 3, none⟩)) (.agg x.toArray)).run Tryd.prog w' = .ok () (w'.setCells g (m * 3) x) ∧ Bl.HV (w'.setCells g (m * 3) x) g ((L0.set k y).set m x)) := Bl.hid fun w' h => ⟨Bl.store_row (n := 3) (fun j hj => by
        have := h.th (m * 3 + j) (by rw [List.length_set]; have := Hml.out; omega)
        rw [Nat.zero_add] at this; exact this) (by kernel_rfl) Hxl.out Hx1.out, h.set (by rw [List.length_set]; exact Hml.out) Hxl.out⟩
      have e4 : (k : Int) < (n : Int) := by omega
      have e5 : (m : Int) < (n : Int) := by omega
      have e6 : (0 : Int) ≤ (k : Int) := by omega
      have e7 : (0 : Int) ≤ (m : Int) := by omega
      go_wp2_with fail
      apply Bl.wp_region_evK (fun a b => Below g a b) (Bl.RevJV g L0 (L0.set k y) ((L0.set k y).set m x)) 16 [14, 15, 16, 17, 18, 19, 20, 21, 22, 23, 24, 25, 26, 27] [Bl.eqv _, Bl.eqv _, Bl.eqv _, Bl.eqv _, Bl.eqv _, Bl.eqv _, Bl.eqv _, Bl.eqv _, Bl.eqv _, Bl.eqv _, Bl.eqv _, Bl.eqv _, Bl.eqv (.pointer (some ⟨g, k * 3, none⟩)), Bl.eqv _, Bl.eqv (.pointer (some ⟨g, m * 3, none⟩)), Bl.eqv _] (fun w => Below.refl _ w) (fun a b c h k => Below.trans h k) (by kernel_rfl) (by kernel_rfl) (by kernel_rfl) (by kernel_rfl)
      case hsteps =>
        refine ⟨?_, ?_, ?_, ?_, ?_, ?_, ?_, ?_, ?_, ?_, ?_, ?_, ?_, ?_, ?_, ?_, trivial⟩
        all_goals
          intro d ev w1 hext HJd Hanc Hdes hni hb hd
          replace Hanc := Bl.hid Hanc
          replace HJd := Bl.hid HJd
          replace Hdes := Bl.hid Hdes
          replace hni := Bl.hid hni
          have e0 := hb 0 (by decide)
          have e2 := hb 2 (by decide)
          have e3 := hb 3 (by decide)
          clear hb
          simp only [Array.getD_eq_getD_getElem?, List.getElem?_toArray, List.getElem?_cons_succ, List.getElem?_cons_zero, Option.getD_some] at e0 e2 e3
          simp only [Bl.DepsE2, List.getElem?_cons_succ, List.getElem?_cons_zero, Option.bind_some, List.getD_cons_succ, List.getD_cons_zero, Bl.eqv, and_true] at hd
          have hc := (Bl.bcell hext).1
          simp only [Region.wanted, if_true]
          first
          | (have hD : Bl.HV w1 g L0 := (by have h := HJd.out; unfold Bl.RevJV at h; rw [Hdes.out 15 (by kernel_rfl), Hdes.out 13 (by kernel_rfl)] at h; exact h); (with_reducible refine Bl.goodX_load (fun w => Below.refl _ w) ?_ (HLm.out _ hD) ?_); exact hd; exact ⟨rfl, Bl.RevJV.same (by decide) HJd.out⟩) | (have hD : Bl.HV w1 g L0 := (by have h := HJd.out; unfold Bl.RevJV at h; rw [Hdes.out 15 (by kernel_rfl), Hdes.out 13 (by kernel_rfl)] at h; exact h); (with_reducible refine Bl.goodX_load (fun w => Below.refl _ w) ?_ (HLk.out _ hD) ?_); exact hd; exact ⟨rfl, Bl.RevJV.same (by decide) HJd.out⟩) | (have hD : Bl.HV w1 g L0 := (by have h := HJd.out; unfold Bl.RevJV at h; rw [Hdes.out 15 (by kernel_rfl), hni.out] at h; exact h); (with_reducible refine Bl.goodX_store ?_ ?_ (HSk.out _ hD).1 ?_ ?_); exact hd.1; exact hd.2.1; exact Bl.below_setCells _ _ _ _ (Below.refl _ _) (Nat.le_refl _); exact ⟨rfl, Bl.RevJV.st1 (Hdes.out 15 (by kernel_rfl)) (HSk.out _ hD).2⟩) | (have hD : Bl.HV w1 g (L0.set k y) := (by have h := HJd.out; unfold Bl.RevJV at h; rw [hni.out, Hanc.out 13 (by kernel_rfl)] at h; exact h); (with_reducible refine Bl.goodX_store ?_ ?_ (HSm.out _ hD).1 ?_ ?_); exact hd.1; exact hd.2.1; exact Bl.below_setCells _ _ _ _ (Below.refl _ _) (Nat.le_refl _); exact ⟨rfl, (by unfold Bl.RevJV Bl.upd; exact (HSm.out _ hD).2)⟩)
          | (go_simp; first | exact ⟨Below.refl _ _, rfl, Bl.RevJV.same (by decide) HJd.out⟩ | exact ⟨Below.refl _ _, rfl, Bl.HJ.same (by decide) HJd.out⟩)
      case hmono => exact ⟨Bl.monoR_eqv _, Bl.monoR_eqv _, Bl.monoR_eqv _, Bl.monoR_eqv _, Bl.monoR_eqv _, Bl.monoR_eqv _, Bl.monoR_eqv _, Bl.monoR_eqv _, Bl.monoR_eqv _, Bl.monoR_eqv _, Bl.monoR_eqv _, Bl.monoR_eqv _, (Bl.monoR_eqv _), Bl.monoR_eqv _, (Bl.monoR_eqv _), Bl.monoR_eqv _, trivial⟩
      case hR0 => exact (Below.refl _ _).drew
      case hend =>
        intro u w1 hext hJ hend
        simp only [Bl.EndE, List.getElem?_cons_succ, List.getElem?_cons_zero, Option.bind_some, List.getD_cons_succ, List.getD_cons_zero, Bl.eqv, true_and] at hend
        simp only [Bl.fillAct, List.setIfInBounds_toArray, List.set_cons_succ, List.set_cons_zero, List.drop_succ_cons, List.drop_zero, hend]
        have HJ2 : Hid (Bl.HV w1 g ((L0.set k y).set m x)) := Bl.hid hJ
        have HB2 := Bl.hid (HB.out.trans hext)
        clear hJ hext hend
        go_wp2_with fail
        go_roundw
        case rel => exact ⟨k + 1, by simp, by show Value.int _ _ = Value.int _ _; first | (congr 1; done) | (congr 1; have := Hmi2.out; omega), by omega, by rw [Hsucc.out]; exact HJ2.out, HB2.out⟩
        case measure => simp [intOf]; omega
      case hJ0 => exact HF.out.drew
    · have Hend := Bl.hid (Bl.revV_end L k (by rw [← Hn.out]; omega) (by rw [← Hn.out]; omega))
      go_wp2_with fail
      go_end0
      exact ⟨rfl, by rw [← Hend.out]; exact HF.out, HB.out⟩

set_option maxRecDepth 100000 in
theorem revT_nil (p : Option Addr) (c : Nat) (w : World) :
    Calls Tryd.prog 49 #[.slice p 0 c] w fun e w' => e = .returned (.tuple #[]) ∧ w = w' := by
  go_enter Tryd.func49, Tryd.ntmps49
  go_wp2_with fail
  go_loop [2, 3] (fun i j => i = .int .i64 0 ∧ j = .int .i64 (-1)) (fun _ _ => 0)
  case atStart => exact ⟨rfl, rfl⟩
  case round =>
    obtain ⟨rfl, rfl⟩ := hrel
    go_wp2_with fail
    go_end0
    exact ⟨rfl, rfl⟩

/-- slices.Reverse of a row of steps of the caller's own -/
theorem revT_any (p : Option Addr) (n c base : Nat) (e : TypeId) (ts : List (Bool × Nat × Nat)) (w : World) (hn : ts.length = n) (h : w.ownsRow base e 3 (.slice p n c) n (Bl.cellsT ts)) (hl : n ≤ 512) :
    Calls Tryd.prog 49 #[.slice p n c] w fun e' w' => e' = .returned (.tuple #[]) ∧ Bl.Rds w' (.slice p n c) n (Bl.cellsT ts.reverse) ∧ Below base w w' := by
  subst hn
  by_cases h0 : ts.length = 0
  · have hr := Bl.Rds.of_owns h
    obtain rfl := List.length_eq_zero_iff.1 h0
    exact (revT_nil p c w).mono fun _ _ ⟨h1, h2⟩ => ⟨h1, by rw [← h2]; exact hr, by rw [h2]; exact Below.refl _ _⟩
  · obtain ⟨g, hpo⟩ : ∃ g, p = some ⟨g, 0, none⟩ := by
      rcases h.2 with ⟨hv, _⟩ | ⟨g, cap, cur, hv, _⟩
      · injection hv with _ hv; omega
      · injection hv with hv; exact ⟨g, hv⟩
    subst hpo
    obtain ⟨_, _, hvf, hvn, hvc⟩ := (Bl.Rds.of_owns h).form
    injection hvf with hf1 hf2 hvf
    subst hvf
    have hg := (h.lt g rfl).1
    refine (revT_rows g c ts.length (ts.map Bl.cellT) w (fun i hi => by rw [List.length_map] at hi; rw [Bl.map_getT _ _ hi]; exact Bl.cellT_one _) (by rw [List.length_map]) (Bl.HV.of_owns h) (by omega) hvn hvc).mono ?_
    rintro e' w' ⟨h1, h2, h3⟩
    refine ⟨h1, ?_, h3.mono hg⟩
    rw [← List.map_reverse] at h2
    have := h2.rds (c := c) (by rw [List.length_reverse]; exact hvn) hvc
    rw [List.length_reverse] at this
    exact this
end Go.Proofs.YtjmkcenkjnoblaaDoor

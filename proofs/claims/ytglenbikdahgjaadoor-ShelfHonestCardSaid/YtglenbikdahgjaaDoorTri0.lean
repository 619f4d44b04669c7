/- Texts that stood apart, in one: Trip, Out. -/
import Derived.Test.YtglenbikdahgjaaDoorLib0
import Derived.Test.YtglenbikdahgjaaDoorShaP
/- Rows of steps: a bool and two numbers each. Small things of lists. -/
namespace Go.Proofs.Bl
open Go Go.RowKit
/-- the cells of steps -/
def cellsT (ts : List (Bool × Nat × Nat)) : List Value := ts.flatMap fun t => [.bool t.1, .int .i64 t.2.1, .int .i64 t.2.2]
theorem cellsT_append (a b : List (Bool × Nat × Nat)) : cellsT (a ++ b) = cellsT a ++ cellsT b := by simp [cellsT]
theorem cellsT_length : ∀ (ts : List (Bool × Nat × Nat)), (cellsT ts).length = ts.length * 3
  | [] => rfl
  | t :: r => by
    show ([Value.bool t.1, .int .i64 t.2.1, .int .i64 t.2.2] ++ cellsT r).length = _
    rw [List.length_append, cellsT_length r, List.length_cons]
    simp; omega
theorem cellsT_one (b : Bool) (n i : Nat) : cellsT [(b, n, i)] = [.bool b, .int .i64 n, .int .i64 i] := rfl
theorem cellsT_one' (ts : List (Bool × Nat × Nat)) : ∀ c ∈ cellsT ts, c.oneCell' = true := fun c hc => by
  obtain ⟨t, _, ht⟩ := List.mem_flatMap.1 hc
  simp only [List.mem_cons, List.not_mem_nil, or_false] at ht
  rcases ht with rfl | rfl | rfl <;> rfl
/-- one part in a slice literal -/
theorem rds_new1 (w : World) (e : TypeId) (cs : Array Value) : Rds (w.alloc (.cells cs e)) (.slice (some ⟨w.heap.size, 0, none⟩) 1 1) 1 cs.toList := by
  refine .inr ⟨w.heap.size, 0, 1, rfl, Nat.le_refl _, show 1 ≤ maxLen from by decide, fun j v hv => ?_⟩
  rw [Nat.zero_add, World.cell?_alloc_new]
  simpa using hv
theorem getD_map {α β : Type} (f : α → β) (l : List α) (k : Nat) (a : α) (b : β) (h : k < l.length) : (l.map f).getD k b = f (l.getD k a) := by
  rw [List.getD_eq_getElem?_getD, List.getD_eq_getElem?_getD, List.getElem?_map, List.getElem?_eq_getElem h]; rfl
theorem take_snocD (l : List (List Int)) (k : Nat) (h : k < l.length) : l.take (k + 1) = l.take k ++ [l.getD k []] := by
  rw [List.getD_eq_getElem?_getD, List.getElem?_eq_getElem h, List.take_succ_eq_append_getElem h]; rfl
theorem cellsT_get : ∀ (ts : List (Bool × Nat × Nat)) (k : Nat), k < ts.length → (cellsT ts)[k * 3]? = some (.bool (ts.getD k default).1) ∧ (cellsT ts)[k * 3 + 1]? = some (.int .i64 (ts.getD k default).2.1) ∧ (cellsT ts)[k * 3 + 2]? = some (.int .i64 (ts.getD k default).2.2)
  | [], k, h => by simp at h
  | t :: r, 0, _ => ⟨rfl, rfl, rfl⟩
  | t :: r, k + 1, h => by
    have ih := cellsT_get r k (by simpa using h)
    show (_ :: _ :: _ :: cellsT r)[(k + 1) * 3]? = _ ∧ (_ :: _ :: _ :: cellsT r)[(k + 1) * 3 + 1]? = _ ∧ (_ :: _ :: _ :: cellsT r)[(k + 1) * 3 + 2]? = _
    rw [show (k + 1) * 3 = k * 3 + 1 + 1 + 1 from by omega, show k * 3 + 1 + 1 + 1 + 1 = (k * 3 + 1) + 1 + 1 + 1 from by omega, show k * 3 + 1 + 1 + 1 + 2 = (k * 3 + 2) + 1 + 1 + 1 from by omega]
    simp only [List.getElem?_cons_succ, List.getD_cons_succ]
    exact ih
/-- a row of steps' place -/
theorem RdT.pos {w : World} {v : Value} {ts : List (Bool × Nat × Nat)} (h : Rds w v ts.length (cellsT ts)) (hne : 0 < ts.length) : ∃ b o c, v = .slice (some ⟨b, o, none⟩) ts.length c ∧ ts.length ≤ c ∧ c ≤ maxLen ∧ b < w.heap.size ∧ w.rangeAt b o (cellsT ts) := by
  rcases h with ⟨_, h, _⟩ | ⟨b, o, c, h1, h2, h3, h4⟩
  · omega
  · exact ⟨b, o, c, h1, h2, h3, rangeAt_lt h4 (fun q => by have := cellsT_length ts; rw [q] at this; simp at this; omega), h4⟩
theorem turn_at {w : World} {b o : Nat} {ts : List (Bool × Nat × Nat)} (h : w.rangeAt b o (cellsT ts)) {k : Nat} (hk : k < ts.length) {x : Bool} {n i : Nat} (he : ts.getD k default = (x, n, i)) : w.rangeAt b (o + k * 3) [.bool x, .int .i64 n, .int .i64 i] := fun j v hv => by
  obtain ⟨h0, h1, h2⟩ := cellsT_get ts k hk
  rw [he] at h0 h1 h2
  match j, hv with
  | 0, hv => cases hv; exact h (k * 3) _ h0
  | 1, hv => cases hv; have := h _ _ h1; rw [← Nat.add_assoc] at this; exact this
  | 2, hv => cases hv; have := h _ _ h2; rw [← Nat.add_assoc] at this; exact this
  | j + 3, hv => simp at hv
theorem there_new (w : World) (cs : Array Value) (e : TypeId) (n : Nat) (hn : cs.size = n) : (w.alloc (.cells cs e)).there w.heap.size 0 n := fun j hj => by
  rw [Nat.zero_add, World.cell?_alloc_new]
  exact ⟨by simp [hn, hj], by simp⟩
/-- the head of what is left of the steps -/
theorem drop_head {α : Type} {T : List α} {k : Nat} {x : α} {r : List α} (d : α) (h : T.drop k = x :: r) : k < T.length ∧ T.getD k d = x ∧ T.drop (k + 1) = r := by
  have hk : k < T.length := by
    have := congrArg List.length h
    rw [List.length_drop, List.length_cons] at this; omega
  rw [List.drop_eq_getElem_cons hk] at h
  injection h with h1 h2
  exact ⟨hk, by rw [List.getD_eq_getElem?_getD, List.getElem?_eq_getElem hk]; exact h1, h2⟩
end Go.Proofs.Bl

/- A row of bytes' slices that the call fills, beside one variable that it writes. No program. -/
namespace Go.Proofs.Bl
open Go Go.RowKit
/-- a slice of the call's own of one byte or more -/
theorem own_pos {w : World} {base n : Nat} {e : TypeId} {v : Value} {l : List Int} (h : w.ownsRow base e 1 v n (ints .u8 l)) (hn : 0 < n) : ∃ g c, v = .slice (some ⟨g, 0, none⟩) n c ∧ n ≤ c ∧ c ≤ maxLen ∧ w.rangeAt g 0 (ints .u8 l) ∧ base ≤ g ∧ g < w.heap.size ∧ l.length = n := by
  have h0 := h.1
  rw [ints_length, Nat.mul_one] at h0
  rcases h.2 with ⟨_, h1⟩ | ⟨g, cap, cur, hv, hg, hh, hc, hm, hs, hx⟩
  · omega
  · subst hv
    exact ⟨g, cap, rfl, hc, hm, fun j u hu => by
      have := h.cells (g := g) rfl j u hu
      rw [Addr.add_mid] at this; exact this, hg, (h.lt g rfl).2, h0⟩
/-- the slices ps in a row of the call's own, none of them in the row's own block, and all of it apart from block X -/
structure OutB (tS : TypeId) (X : Nat) (w : World) (base : Nat) (out : Value) (ps : List (List Int)) (vs : List Value) : Prop where
  rows : w.ownsRow base tS 1 out ps.length vs
  ox : out.ownBlock ≠ some X
  elts : ∀ j, j < ps.length → ∃ g o c, vs.getD j undef = .slice (some ⟨g, o, none⟩) (ps.getD j []).length c ∧ (ps.getD j []).length ≤ c ∧ c ≤ maxLen ∧ w.rangeAt g o (ints .u8 (ps.getD j [])) ∧ g < w.heap.size ∧ out.ownBlock ≠ some g ∧ g ≠ X
theorem OutB.len {tS : TypeId} {X : Nat} {w : World} {base : Nat} {out : Value} {ps : List (List Int)} {vs : List Value} (h : OutB tS X w base out ps vs) : vs.length = ps.length := by rw [h.rows.1, Nat.mul_one]
theorem OutB.ext {tS : TypeId} {X : Nat} {w w' : World} {base : Nat} {out : Value} {ps : List (List Int)} {vs : List Value} (h : OutB tS X w base out ps vs) (hE : Ext w w') : OutB tS X w' base out ps vs :=
  ⟨owns_ext h.rows hE, h.ox, fun j hj => by
    obtain ⟨g, o, c, e1, e2, e3, e4, e5, e6, e7⟩ := h.elts j hj
    exact ⟨g, o, c, e1, e2, e3, rangeAt_ext e4 hE, Nat.lt_of_lt_of_le e5 hE.size, e6, e7⟩⟩
theorem OutB.set {tS : TypeId} {X : Nat} {w : World} {base : Nat} {out : Value} {ps : List (List Int)} {vs : List Value} (h : OutB tS X w base out ps vs) (l : List Value) : OutB tS X (w.setCells X 0 l) base out ps vs := by
  have hx : Exc X w (w.setCells X 0 l) := exc_setCells l 0 w (Exc.refl X w)
  have hsz := (below_setCells l X 0 w (Below.refl 0 w) (Nat.zero_le _)).size
  exact ⟨hx.owns h.rows h.ox, h.ox, fun j hj => by
    obtain ⟨g, o, c, e1, e2, e3, e4, e5, e6, e7⟩ := h.elts j hj
    exact ⟨g, o, c, e1, e2, e3, hx.range e4 e7, Nat.lt_of_lt_of_le e5 hsz, e6, e7⟩⟩
theorem OutB.rdss {tS : TypeId} {X : Nat} {w : World} {base : Nat} {out : Value} {ps : List (List Int)} {vs : List Value} (h : OutB tS X w base out ps vs) : Rdss w out ps := by
  refine ⟨vs, Rds.of_owns h.rows, h.len, fun i hi => ?_⟩
  obtain ⟨g, o, c, e1, e2, e3, e4, _⟩ := h.elts i hi
  rw [e1]
  exact .inr ⟨g, o, c, rfl, e2, e3, e4⟩
theorem OutB.first {tS : TypeId} {X : Nat} {w : World} {base : Nat} {l : List Int} {g o c : Nat} (hb : base ≤ w.heap.size) (hr : w.rangeAt g o (ints .u8 l)) (hg : g < w.heap.size) (hc : l.length ≤ c) (hm : c ≤ maxLen) (hX : w.heap.size < X) :
    OutB tS X (w.alloc (.cells #[.slice (some ⟨g, o, none⟩) l.length c] tS)) base (.slice (some ⟨w.heap.size, 0, none⟩) 1 1) [l] [.slice (some ⟨g, o, none⟩) l.length c] := by
  refine ⟨owns_new w tS #[.slice (some ⟨g, o, none⟩) l.length c] base 1 1 hb (by decide) rfl, fun q => ?_, fun j hj => ?_⟩
  · simp only [Value.ownBlock, Option.some.injEq] at q; omega
  · obtain rfl : j = 0 := by simpa using hj
    exact ⟨g, o, c, rfl, hc, hm, rangeAt_ext hr (ext_alloc _ _), by rw [World.size_alloc]; omega, fun q => by simp only [Value.ownBlock, Option.some.injEq] at q; omega, by omega⟩
theorem OutB.nil {tS : TypeId} {X : Nat} {w : World} {base : Nat} : OutB tS X w base (.slice none 0 0) [] [] :=
  ⟨World.ownsRow_nil _ _ _ _, fun q => by simp [Value.ownBlock] at q, fun j hj => absurd hj (Nat.not_lt_zero _)⟩
/-- one more: its bytes are new -/
theorem OutB.step {tS : TypeId} {X : Nat} {w w2 w4 : World} {base : Nat} {out out1 : Value} {ps : List (List Int)} {vs : List Value} {l : List Int} {g o c : Nat}
    (h : OutB tS X w base out ps vs) (hE : Ext w w2) (hX : X < w.heap.size)
    (hr : w2.rangeAt g o (ints .u8 l)) (hg0 : w.heap.size ≤ g) (hg1 : g < w2.heap.size) (hc : l.length ≤ c) (hm : c ≤ maxLen)
    (own4 : w4.ownsRow base tS 1 out1 (ps.length + 1) (vs ++ [.slice (some ⟨g, o, none⟩) l.length c])) (hg4 : (w2.alloc (.cells #[.slice (some ⟨g, o, none⟩) l.length c] tS)).grownBy w4 out.ownBlock)
    (hk4 : ∀ k, out1.ownBlock = some k → out.ownBlock = some k ∨ (w2.alloc (.cells #[.slice (some ⟨g, o, none⟩) l.length c] tS)).heap.size ≤ k) :
    OutB tS X w4 base out1 (ps ++ [l]) (vs ++ [.slice (some ⟨g, o, none⟩) l.length c]) := by
  have hs2 : w.heap.size ≤ w2.heap.size := hE.size
  have hE3 : Ext w2 (w2.alloc (.cells #[.slice (some ⟨g, o, none⟩) l.length c] tS)) := ext_alloc _ _
  have hs3 : w2.heap.size < (w2.alloc (.cells #[.slice (some ⟨g, o, none⟩) l.length c] tS)).heap.size := by simp
  have hout : ∀ k, out.ownBlock = some k → k < w.heap.size := fun k hk => (h.rows.lt k hk).2
  have hlen : vs.length = ps.length := h.len
  generalize hw3 : w2.alloc (.cells #[.slice (some ⟨g, o, none⟩) l.length c] tS) = w3 at *
  have hs4 : w3.heap.size ≤ w4.heap.size := hg4.size
  refine ⟨by rw [List.length_append]; exact own4, fun q => ?_, fun j hj => ?_⟩
  · rcases hk4 X q with h1 | h1
    · exact h.ox h1
    · omega
  · rw [List.length_append] at hj
    by_cases hjl : j < ps.length
    · obtain ⟨gj, oj, cj, e1, e2, e3, e4, e5, e6, e7⟩ := h.elts j hjl
      rw [List.getD_eq_getElem?_getD, List.getElem?_append_left (by omega), ← List.getD_eq_getElem?_getD, List.getD_eq_getElem?_getD (l := ps ++ [l]), List.getElem?_append_left hjl, ← List.getD_eq_getElem?_getD]
      refine ⟨gj, oj, cj, e1, e2, e3, rangeAt_grown (rangeAt_ext (rangeAt_ext e4 hE) hE3) hg4 e6, by omega, fun hq => ?_, e7⟩
      rcases hk4 gj hq with h1 | h1
      · exact e6 h1
      · omega
    · obtain rfl : j = ps.length := by simp at hj; omega
      rw [List.getD_eq_getElem?_getD, List.getElem?_append_right (by omega), List.getD_eq_getElem?_getD, List.getElem?_append_right (by omega)]
      simp only [hlen, Nat.sub_self, List.getElem?_cons_zero, Option.getD_some]
      refine ⟨g, o, c, rfl, hc, hm, rangeAt_grown (rangeAt_ext hr hE3) hg4 (fun hq => ?_), by omega, fun hq => ?_, by omega⟩
      · have := hout g hq; omega
      · rcases hk4 g hq with h1 | h1
        · have := hout g h1; omega
        · omega
/-- a digest in a variable of its own -/
structure BoxD (w : World) (X : Nat) (d : List Int) : Prop where
  rg : w.rangeAt X 0 (ints .u8 d)
  th : w.there X 0 32
  len : d.length = 32
theorem BoxD.lt {w : World} {X : Nat} {d : List Int} (h : BoxD w X d) : X < w.heap.size := by
  have := h.rg 0 (.int .u8 (d.getD 0 0)) (by rw [ints_get .u8 d 0 (by rw [h.len]; decide)])
  exact World.block_lt_of_cell? w _ this
theorem BoxD.below {w w' : World} {X : Nat} {d : List Int} (h : BoxD w X d) {B : Nat} (hb : Below B w w') (hX : X < B) : BoxD w' X d :=
  ⟨rangeAt_below h.rg hb hX, fun j hj => by rw [(bcell hb).1 _ _ hX, (bcell hb).2 _ _ hX]; exact h.th j hj, h.len⟩
theorem BoxD.ext {w w' : World} {X : Nat} {d : List Int} (h : BoxD w X d) (hb : Ext w w') : BoxD w' X d := h.below hb h.lt
theorem BoxD.set {w : World} {X : Nat} {d d' : List Int} (h : BoxD w X d) (hl : d'.length = 32) : BoxD (w.setCells X 0 (ints .u8 d')) X d' :=
  ⟨World.rangeAt_setCells_same w X 0 _ (by rw [ints_length, hl]; exact h.th), World.there_setCells h.th _ _ _, hl⟩
theorem BoxD.of_fam {w : World} {X : Nat} {f : Nat → Int} (h : Fam w X .u8 32 f) {d : List Int} (hl : d.length = 32) : BoxD (w.setCells X 0 (ints .u8 d)) X d :=
  ⟨World.rangeAt_setCells_same w X 0 _ (by rw [ints_length, hl]; exact h.there), World.there_setCells h.there _ _ _, hl⟩
theorem BoxD.load {P : Program} {w : World} {X : Nat} {d : List Int} (h : BoxD w X d) {ty e : TypeId} (hu : P.underlying ty = some (.array 32 e)) (hi : (P.info? ty).map (·.size) = some 32) : (Instr.loadAt ty (.pointer (some ⟨X, 0, none⟩))).run P w = .ok (.agg (ints .u8 d).toArray) w := load_ints h.rg hu hi h.len
theorem BoxD.grown {w w' : World} {X : Nat} {d : List Int} {row : Option Nat} (h : BoxD w X d) (hg : w.grownBy w' row) (hne : row ≠ some X) : BoxD w' X d :=
  ⟨rangeAt_grown h.rg hg hne, fun j hj => by
    rw [hg.cell_far ⟨X, 0 + j, none⟩ h.lt (fun q => hne q.symm), hg.frozen_far ⟨X, 0 + j, none⟩ h.lt (fun q => hne q.symm)]
    exact h.th j hj, h.len⟩
end Go.Proofs.Bl

/- Copies of bytes' lists, each marked behind its end, in one slice. No program. -/
import Derived.Test.YtdodgcapihfkkaaDoorDin
import Derived.Test.YtdodgcapihfkkaaDoorWSha8
namespace Go.Proofs.Bl
open Go Go.RowKit
/-- copies of bytes' lists, each marked behind its end, in one slice -/
structure Ins (tS : TypeId) (w : World) (base : Nat) (inn : Value) (ps : List (List Int)) (vs : List Value) : Prop where
  rows : w.ownsRow base tS 1 inn ps.length vs
  elts : ∀ j, j < ps.length → ∃ g c, vs.getD j undef = .slice (some ⟨g, 0, none⟩) (ps.getD j []).length c ∧ (ps.getD j []).length + 6 ≤ c ∧ c ≤ maxLen ∧ w.rangeAt g 0 (ints .u8 (ps.getD j [] ++ marks)) ∧ inn.ownBlock ≠ some g
theorem Ins.len {tS : TypeId} {w : World} {base : Nat} {inn : Value} {ps : List (List Int)} {vs : List Value} (h : Ins tS w base inn ps vs) : vs.length = ps.length := by rw [h.rows.1, Nat.mul_one]
theorem Ins.ext {tS : TypeId} {w w' : World} {base : Nat} {inn : Value} {ps : List (List Int)} {vs : List Value} (h : Ins tS w base inn ps vs) (hE : Ext w w') : Ins tS w' base inn ps vs :=
  ⟨owns_ext h.rows hE, fun j hj => by
    obtain ⟨g, c, e1, e2, e3, e4, e5⟩ := h.elts j hj
    exact ⟨g, c, e1, e2, e3, rangeAt_ext e4 hE, e5⟩⟩
theorem Ins.start (tS : TypeId) (w : World) (base : Nat) (hb : base ≤ w.heap.size) : Ins tS (w.alloc (.cells #[] tS)) base (.slice (some ⟨w.heap.size, 0, none⟩) 0 0) [] [] :=
  ⟨owns_nil_lit w tS base hb 1, fun j hj => absurd hj (Nat.not_lt_zero _)⟩
theorem Ins.rdss {tS : TypeId} {w : World} {base : Nat} {inn : Value} {ps : List (List Int)} {vs : List Value} (h : Ins tS w base inn ps vs) : Rdss w inn ps := by
  refine ⟨vs, Rds.of_owns h.rows, h.len, fun i hi => ?_⟩
  obtain ⟨g, c, e1, e2, e3, e4, _⟩ := h.elts i hi
  rw [e1]
  refine .inr ⟨g, 0, c, rfl, by omega, e3, fun j u hj => e4 j u ?_⟩
  rw [ints_append, List.getElem?_append_left (List.getElem?_eq_some_iff.1 hj).1]; exact hj
theorem Ins.step {tB tS : TypeId} {w w2 w4 : World} {base : Nat} {inn inn1 : Value} {ps : List (List Int)} {vs : List Value} {l : List Int} {g c : Nat}
    (h : Ins tS w base inn ps vs)
    (own2 : w2.ownsRow w.heap.size tB 1 (.slice (some ⟨g, 0, none⟩) (l.length + 6) c) (l.length + 6) (ints .u8 (l ++ marks))) (hE2 : Ext w w2)
    (own4 : w4.ownsRow base tS 1 inn1 (ps.length + 1) (vs ++ [.slice (some ⟨g, 0, none⟩) l.length c])) (hg4 : (w2.alloc (.cells #[.slice (some ⟨g, 0, none⟩) l.length c] tS)).grownBy w4 inn.ownBlock)
    (hk4 : ∀ k, inn1.ownBlock = some k → inn.ownBlock = some k ∨ (w2.alloc (.cells #[.slice (some ⟨g, 0, none⟩) l.length c] tS)).heap.size ≤ k) :
    Ins tS w4 base inn1 (ps ++ [l]) (vs ++ [.slice (some ⟨g, 0, none⟩) l.length c]) := by
  have hs2 : w.heap.size ≤ w2.heap.size := hE2.size
  have hE3 : Ext w2 (w2.alloc (.cells #[.slice (some ⟨g, 0, none⟩) l.length c] tS)) := ext_alloc _ _
  have hs3 : w2.heap.size < (w2.alloc (.cells #[.slice (some ⟨g, 0, none⟩) l.length c] tS)).heap.size := by simp
  have hinn : ∀ k, inn.ownBlock = some k → k < w.heap.size := fun k hk => (h.rows.lt k hk).2
  obtain ⟨hgl, hgh⟩ := own2.lt g rfl
  have hlen : vs.length = ps.length := h.len
  generalize hw3 : w2.alloc (.cells #[.slice (some ⟨g, 0, none⟩) l.length c] tS) = w3 at *
  refine ⟨by rw [List.length_append]; exact own4, ?_⟩
  intro j hj
  rw [List.length_append] at hj
  by_cases hjl : j < ps.length
  · obtain ⟨gj, cj, e1, e2, e3, e4, e6⟩ := h.elts j hjl
    have hlt := rangeAt_lt e4 (marks_pos _)
    rw [List.getD_eq_getElem?_getD, List.getElem?_append_left (by omega), ← List.getD_eq_getElem?_getD, List.getD_eq_getElem?_getD (l := ps ++ [l]), List.getElem?_append_left hjl, ← List.getD_eq_getElem?_getD]
    refine ⟨gj, cj, e1, e2, e3, rangeAt_grown (rangeAt_ext (rangeAt_ext e4 hE2) hE3) hg4 e6, fun hq => ?_⟩
    rcases hk4 gj hq with h1 | h1
    · exact e6 h1
    · omega
  · obtain rfl : j = ps.length := by simp at hj; omega
    rw [List.getD_eq_getElem?_getD, List.getElem?_append_right (by omega), List.getD_eq_getElem?_getD, List.getElem?_append_right (by omega)]
    simp only [hlen, Nat.sub_self, List.getElem?_cons_zero, Option.getD_some]
    obtain ⟨_, _, hq, hc1, hc2⟩ := (Rds.of_owns own2).form
    injection hq with _ _ hq
    subst hq
    have hr : w2.rangeAt g 0 (ints .u8 (l ++ marks)) := fun j u hu => by
      have := own2.cells (g := g) rfl j u hu
      rw [Addr.add_mid] at this; exact this
    refine ⟨g, c, rfl, hc1, hc2, rangeAt_grown (rangeAt_ext hr hE3) hg4 (fun hq => ?_), fun hq => ?_⟩
    · have := hinn g hq; omega
    · rcases hk4 g hq with h1 | h1
      · have := hinn g h1; omega
      · omega
end Go.Proofs.Bl

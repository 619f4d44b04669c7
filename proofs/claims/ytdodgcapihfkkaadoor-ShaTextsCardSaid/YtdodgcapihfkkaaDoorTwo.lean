/- 'x, y := A, B' with arrays: two variables of the call's own are made, in whatever order, and written. No program. -/
import Derived.Test.YtdodgcapihfkkaaDoorRegK
import Derived.Test.YtdodgcapihfkkaaDoorDin
namespace Go.Proofs.Bl
open Go Go.RowKit
theorem there_alloc' {w : World} {g n : Nat} (h : w.there g 0 n) (o : Obj) : (w.alloc o).there g 0 n := World.there_alloc h o
theorem there_lt {w : World} {g n : Nat} (h : w.there g 0 n) (hn : 0 < n) : g < w.heap.size := by
  have h1 := (h 0 hn).1
  cases hc : w.cell? ⟨g, 0 + 0, none⟩ with
  | none => rw [hc] at h1; cases h1
  | some v => exact World.block_lt_of_cell? _ _ hc
/-- operation i7 makes variable t7, i8 makes t8, s7 writes l into t7's array of n cells; both lie from B on -/
structure JT (B n i7 i8 s7 t7 t8 : Nat) (l : List Value) (d : Nat → Bool) (u : Nat → Value) (w : World) : Prop where
  a7 : d i7 = true → ∃ g, u t7 = .pointer (some ⟨g, 0, none⟩) ∧ B ≤ g ∧ w.there g 0 n
  a8 : d i8 = true → ∃ g, u t8 = .pointer (some ⟨g, 0, none⟩) ∧ B ≤ g ∧ w.there g 0 n
  ne : d i7 = true → d i8 = true → u t7 ≠ u t8
  s : d s7 = true → ∃ g, u t7 = .pointer (some ⟨g, 0, none⟩) ∧ w.rangeAt g 0 l
  le : B ≤ w.heap.size
section
variable {B n i7 i8 s7 t7 t8 : Nat} {l : List Value} {d : Nat → Bool} {u : Nat → Value} {w : World}
theorem JT.start (h : B ≤ w.heap.size) : JT B n i7 i8 s7 t7 t8 l (fun _ => false) u w := ⟨fun q => (by cases q), fun q => (by cases q), fun q => (by cases q), fun q => (by cases q), h⟩
theorem JT.same {i t : Nat} {v : Value} (h : JT B n i7 i8 s7 t7 t8 l d u w) (hi : (decide (i7 = i) || decide (i8 = i) || decide (s7 = i) || decide (t7 = t) || decide (t8 = t)) = false) : JT B n i7 i8 s7 t7 t8 l (upd d i) (updv (some t) u v) w := by
  simp only [Bool.or_eq_false_iff, decide_eq_false_iff_not] at hi
  obtain ⟨⟨⟨⟨h1, h2⟩, h3⟩, h4⟩, h5⟩ := hi
  refine ⟨?_, ?_, ?_, ?_, h.le⟩
  · unfold upd updv; simp only [if_neg h1, if_neg h4]; exact h.a7
  · unfold upd updv; simp only [if_neg h2, if_neg h5]; exact h.a8
  · unfold upd updv; simp only [if_neg h1, if_neg h2, if_neg h4, if_neg h5]; exact h.ne
  · unfold upd updv; simp only [if_neg h3, if_neg h4]; exact h.s
theorem JT.new7 {e : TypeId} {cs : Array Value} (h : JT B n i7 i8 s7 t7 t8 l d u w) (hc : (decide (i7 = i8) || decide (i7 = s7) || decide (t7 = t8)) = false) (h4 : d s7 = false) (hcs : cs.size = n) (hn : 0 < n) :
    JT B n i7 i8 s7 t7 t8 l (upd d i7) (updv (some t7) u (.pointer (some ⟨w.heap.size, 0, none⟩))) (w.alloc (.cells cs e)) := by
  simp only [Bool.or_eq_false_iff, decide_eq_false_iff_not] at hc
  obtain ⟨⟨h1, h2⟩, h3⟩ := hc
  have h1' : ¬ i8 = i7 := fun q => h1 q.symm
  have h2' : ¬ s7 = i7 := fun q => h2 q.symm
  have h3' : ¬ t8 = t7 := fun q => h3 q.symm
  have hnew : (w.alloc (.cells cs e)).there w.heap.size 0 n := fun j hj => by
    rw [Nat.zero_add]
    have hz : (w.alloc (.cells cs e)).heap[w.heap.size]? = some (.cells cs e) := heap_alloc_new w _
    constructor
    · rw [World.cell?_alloc_new]; simp [hcs, hj]
    · simp only [World.frozen?, hz]; simp
  refine ⟨?_, ?_, ?_, ?_, by simp; exact Nat.le_succ_of_le h.le⟩
  · unfold updv; simp only [if_true]; exact fun _ => ⟨_, rfl, h.le, hnew⟩
  · unfold upd updv; simp only [if_neg h1', if_neg h3']
    exact fun q => by obtain ⟨g, a, b, c⟩ := h.a8 q; exact ⟨g, a, b, there_alloc' c _⟩
  · unfold upd updv; simp only [if_neg h1', if_neg h3', if_true]
    intro _ q hq
    obtain ⟨g, a, b, c⟩ := h.a8 q
    rw [a] at hq
    injection hq with hq; injection hq with hq; injection hq with hq
    have := there_lt c hn
    omega
  · unfold upd; simp only [if_neg h2']; intro q; rw [h4] at q; cases q
theorem JT.new8 {e : TypeId} {cs : Array Value} (h : JT B n i7 i8 s7 t7 t8 l d u w) (hc : (decide (i8 = i7) || decide (i8 = s7) || decide (t7 = t8)) = false) (h4 : d s7 = false) (hcs : cs.size = n) (hn : 0 < n) :
    JT B n i7 i8 s7 t7 t8 l (upd d i8) (updv (some t8) u (.pointer (some ⟨w.heap.size, 0, none⟩))) (w.alloc (.cells cs e)) := by
  simp only [Bool.or_eq_false_iff, decide_eq_false_iff_not] at hc
  obtain ⟨⟨h1, h2⟩, h3⟩ := hc
  have h1' : ¬ i7 = i8 := fun q => h1 q.symm
  have h2' : ¬ s7 = i8 := fun q => h2 q.symm
  have hnew : (w.alloc (.cells cs e)).there w.heap.size 0 n := fun j hj => by
    rw [Nat.zero_add]
    have hz : (w.alloc (.cells cs e)).heap[w.heap.size]? = some (.cells cs e) := heap_alloc_new w _
    constructor
    · rw [World.cell?_alloc_new]; simp [hcs, hj]
    · simp only [World.frozen?, hz]; simp
  refine ⟨?_, ?_, ?_, ?_, by simp; exact Nat.le_succ_of_le h.le⟩
  · unfold upd updv; simp only [if_neg h1', if_neg h3]
    exact fun q => by obtain ⟨g, a, b, c⟩ := h.a7 q; exact ⟨g, a, b, there_alloc' c _⟩
  · unfold updv; simp only [if_true]; exact fun _ => ⟨_, rfl, h.le, hnew⟩
  · unfold upd updv; simp only [if_neg h1', if_neg h3, if_true]
    intro q _ hq
    obtain ⟨g, a, b, c⟩ := h.a7 q
    rw [a] at hq
    injection hq with hq; injection hq with hq; injection hq with hq
    have := there_lt c hn
    omega
  · unfold upd; simp only [if_neg h2']; intro q; rw [h4] at q; cases q
theorem JT.store7 (h : JT B n i7 i8 s7 t7 t8 l d u w) (hc : (decide (i7 = s7) || decide (i8 = s7)) = false) (h7 : d i7 = true) (hl : l.length = n) {g : Nat} (hg : u t7 = .pointer (some ⟨g, 0, none⟩)) :
    JT B n i7 i8 s7 t7 t8 l (upd d s7) u (w.setCells g 0 l) ∧ Below B w (w.setCells g 0 l) := by
  simp only [Bool.or_eq_false_iff, decide_eq_false_iff_not] at hc
  obtain ⟨h1, h2⟩ := hc
  obtain ⟨g', a, b, c⟩ := h.a7 h7
  rw [hg] at a
  injection a with a; injection a with a; injection a with a
  subst a
  have hB := below_setCells l g 0 w (Below.refl B w) b
  refine ⟨⟨?_, ?_, ?_, fun _ => ⟨g, hg, World.rangeAt_setCells_same w g 0 l (by rw [hl]; exact c)⟩, Nat.le_trans h.le hB.size⟩, hB⟩
  · unfold upd; simp only [if_neg h1]
    exact fun q => by obtain ⟨g', a, b, c⟩ := h.a7 q; exact ⟨g', a, b, World.there_setCells c _ _ _⟩
  · unfold upd; simp only [if_neg h2]
    exact fun q => by obtain ⟨g', a, b, c⟩ := h.a8 q; exact ⟨g', a, b, World.there_setCells c _ _ _⟩
  · unfold upd; simp only [if_neg h1, if_neg h2]; exact h.ne
end
theorem goodX_load {R : World → World → Prop} (hr : ∀ w, R w w) {P : Program} {ev : Nat → Value} {w : World} {φ : Value → World → Prop} {d : Option Tmp} {tt ty : TypeId} {pp : String} {af : Array Edge} {g : Option (Nat × Bool)} {x : Operand} {p v : Value} (hx : evalE ev x = p) (hld : (Instr.loadAt ty p).run P w = .ok v w) (hφ : φ v w) :
    GoodX R P w φ ((execOp (evalE ev) ⟨d, .load ty x, tt, pp, af, g⟩).run P w) := by
  unfold execOp
  simp only [hx, Sem.run_bind, Sem.run_pure, Result.andThen_ok, hld]
  exact ⟨hr _, hφ⟩
theorem goodX_store {R : World → World → Prop} {P : Program} {ev : Nat → Value} {w w' : World} {φ : Value → World → Prop} {d : Option Tmp} {tt ty : TypeId} {pp : String} {af : Array Edge} {g : Option (Nat × Bool)} {x y : Operand} {p v : Value} (hx : evalE ev x = p) (hy : evalE ev y = v) (hst : (Instr.storeAt ty p v).run P w = .ok () w') (hR : R w w') (hφ : φ undef w') :
    GoodX R P w φ ((execOp (evalE ev) ⟨d, .store ty x y, tt, pp, af, g⟩).run P w) := by
  unfold execOp
  simp only [hx, hy, Sem.run_bind, Sem.run_pure, Result.andThen_ok, hst]
  exact ⟨hR, hφ⟩
end Go.Proofs.Bl

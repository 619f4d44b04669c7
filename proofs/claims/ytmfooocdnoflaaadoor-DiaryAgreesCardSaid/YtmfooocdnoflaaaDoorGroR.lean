/- As many peaks as the number has ones; variables that a region makes in whatever order; elements of rows. No program. -/
import Derived.Test.YtmfooocdnoflaaaDoorGroQ
import Derived.Test.YtmfooocdnoflaaaDoorDuo
namespace Go.Proofs.Bl
open Go Go.RowKit
theorem ones_pow : ∀ (j r : Nat), r < 2 ^ j → ones (2 ^ j + r) = 1 + ones r
  | 0, r, h => by obtain rfl : r = 0 := by simpa using h
                  rfl
  | j + 1, r, h => by
    have e : 2 ^ (j + 1) = 2 * 2 ^ j := by rw [Nat.pow_succ]; omega
    have ih := ones_pow j (r / 2) (by omega)
    rw [ones_half (2 ^ (j + 1) + r), ones_half r, show (2 ^ (j + 1) + r) / 2 = 2 ^ j + r / 2 by omega, ih]
    omega
theorem peaksD_ones : ∀ (n : Nat) (ds : List (List Int)), ds.length = n → ds.length + 1 < 2 ^ 63 → (peaksD ds).length = ones n := by
  intro n
  induction n using Nat.strongRecOn with
  | _ n ih =>
    intro ds hn hl
    by_cases h : 1 ≤ ds.length
    · obtain ⟨j, g1, g2, g3⟩ := gp_pow ds.length h hl
      have hpos : 0 < 2 ^ j := Nat.two_pow_pos j
      unfold peaksD
      rw [peaks_hi ndD zD ds h hl]
      have h2 := ih (ds.drop (gp ds.length)).length (by rw [List.length_drop]; omega) _ rfl (by rw [List.length_drop]; omega)
      rw [List.length_cons]
      unfold peaksD at h2
      rw [h2, List.length_drop, ← hn, g1]
      have := ones_pow j (ds.length - 2 ^ j) (by omega)
      rw [show 2 ^ j + (ds.length - 2 ^ j) = ds.length by omega] at this
      omega
    · have h0 : ds = [] := List.length_eq_zero_iff.1 (by omega)
      subst h0
      subst hn
      rfl
/-- variables of digests that are made in whatever order: operation numbers and slots -/
structure JAl (vs : List (Nat × Nat)) (base : Nat) (d : Nat → Bool) (u : Nat → Value) (w : World) : Prop where
  al : ∀ p ∈ vs, d p.1 = true → ∃ X, u p.2 = .pointer (some ⟨X, 0, none⟩) ∧ base ≤ X ∧ BoxD w X zs32
  ne : ∀ p ∈ vs, ∀ q ∈ vs, p.1 ≠ q.1 → d p.1 = true → d q.1 = true → u p.2 ≠ u q.2
  le : base ≤ w.heap.size
theorem JAl.start {vs : List (Nat × Nat)} {base : Nat} {u : Nat → Value} {w : World} (h : base ≤ w.heap.size) : JAl vs base (fun _ => false) u w := ⟨fun _ _ q => (by cases q), fun _ _ _ _ _ q => (by cases q), h⟩
section
variable {vs : List (Nat × Nat)} {base : Nat} {d : Nat → Bool} {u : Nat → Value} {w w' : World}
theorem JAl.step {i t : Nat} {v : Value} (h : JAl vs base d u w) (hE : Ext w w') (hi : (vs.all fun p => decide (p.1 ≠ i) && decide (p.2 ≠ t)) = true) : JAl vs base (upd d i) (updv (some t) u v) w' := by
  have key : ∀ p ∈ vs, upd d i p.1 = d p.1 ∧ updv (some t) u v p.2 = u p.2 := fun p hp => by
    have h1 := List.all_eq_true.1 hi p hp
    simp only [Bool.and_eq_true, decide_eq_true_eq] at h1
    exact ⟨if_neg h1.1, if_neg h1.2⟩
  refine ⟨fun p hp q => ?_, fun p hp q hq hpq k1 k2 => ?_, Nat.le_trans h.le hE.size⟩
  · rw [(key p hp).1] at q
    obtain ⟨X, e1, e2, e3⟩ := h.al p hp q
    exact ⟨X, by rw [(key p hp).2]; exact e1, e2, e3.ext hE⟩
  · rw [(key p hp).1] at k1
    rw [(key q hq).1] at k2
    rw [(key p hp).2, (key q hq).2]
    exact h.ne p hp q hq hpq k1 k2
theorem JAl.same {i t : Nat} {v : Value} (h : JAl vs base d u w) (hi : (vs.all fun p => decide (p.1 ≠ i) && decide (p.2 ≠ t)) = true) : JAl vs base (upd d i) (updv (some t) u v) w := h.step (Below.refl _ _) hi
theorem JAl.make {i t : Nat} {e : TypeId} {cs : Array Value} (h : JAl vs base d u w) (hcs : cs.toList = List.replicate 32 (Value.int .u8 0)) (hi : (vs.all fun p => decide (p.1 = i) == decide (p.2 = t)) = true) : JAl vs base (upd d i) (updv (some t) u (.pointer (some ⟨w.heap.size, 0, none⟩))) (w.alloc (.cells cs e)) := by
  have hE := ext_alloc w (.cells cs e)
  have key : ∀ p ∈ vs, (p.1 = i ↔ p.2 = t) := fun p hp => by
    have h1 := List.all_eq_true.1 hi p hp
    simp only [beq_iff_eq, decide_eq_decide] at h1
    exact h1
  have old : ∀ p ∈ vs, ¬ p.1 = i → upd d i p.1 = true → ∃ X, u p.2 = .pointer (some ⟨X, 0, none⟩) ∧ base ≤ X ∧ BoxD w X zs32 := fun p hp hn q => by
    unfold upd at q; rw [if_neg hn] at q
    exact h.al p hp q
  refine ⟨fun p hp q => ?_, fun p hp q hq hpq k1 k2 => ?_, Nat.le_trans h.le hE.size⟩
  · by_cases hp1 : p.1 = i
    · exact ⟨w.heap.size, by unfold updv; simp only [if_pos ((key p hp).1 hp1)], h.le, BoxD.new w e cs hcs⟩
    · obtain ⟨X, e1, e2, e3⟩ := old p hp hp1 q
      exact ⟨X, by unfold updv; simp only [if_neg (fun z => hp1 ((key p hp).2 z))]; exact e1, e2, e3.ext hE⟩
  · by_cases hp1 : p.1 = i
    · have hq1 : ¬ q.1 = i := fun z => hpq (by rw [hp1, z])
      obtain ⟨X, e1, e2, e3⟩ := old q hq hq1 k2
      have hq2 : ¬ q.2 = t := fun z => hq1 ((key q hq).2 z)
      unfold updv
      simp only [if_pos ((key p hp).1 hp1), if_neg hq2, e1]
      intro z
      injection z with z
      injection z with z
      injection z with z
      have := e3.lt
      omega
    · have hp2 : ¬ p.2 = t := fun z => hp1 ((key p hp).2 z)
      by_cases hq1 : q.1 = i
      · obtain ⟨X, e1, e2, e3⟩ := old p hp hp1 k1
        unfold updv
        simp only [if_pos ((key q hq).1 hq1), if_neg hp2, e1]
        intro z
        injection z with z
        injection z with z
        injection z with z
        have := e3.lt
        omega
      · have hq2 : ¬ q.2 = t := fun z => hq1 ((key q hq).2 z)
        unfold upd at k1 k2
        rw [if_neg hp1] at k1
        rw [if_neg hq1] at k2
        unfold updv
        simp only [if_neg hp2, if_neg hq2]
        exact h.ne p hp q hq hpq k1 k2
end
/-- three variables -/
structure Tri (w : World) (A B C : Nat) (x y z : List Int) : Prop where
  a : BoxD w A x
  b : BoxD w B y
  c : BoxD w C z
  ab : A ≠ B
  ac : A ≠ C
  bc : B ≠ C
theorem Tri.ext {w w' : World} {A B C : Nat} {x y z : List Int} (h : Tri w A B C x y z) (hE : Ext w w') : Tri w' A B C x y z := ⟨h.a.ext hE, h.b.ext hE, h.c.ext hE, h.ab, h.ac, h.bc⟩
theorem Tri.setA {w : World} {A B C : Nat} {x y z x' : List Int} (h : Tri w A B C x y z) (hl : x'.length = 32) : Tri (w.setCells A 0 (ints .u8 x')) A B C x' y z := ⟨h.a.set hl, h.b.other (fun q => h.ab q.symm) _, h.c.other (fun q => h.ac q.symm) _, h.ab, h.ac, h.bc⟩
theorem Tri.setB {w : World} {A B C : Nat} {x y z y' : List Int} (h : Tri w A B C x y z) (hl : y'.length = 32) : Tri (w.setCells B 0 (ints .u8 y')) A B C x y' z := ⟨h.a.other h.ab _, h.b.set hl, h.c.other (fun q => h.bc q.symm) _, h.ab, h.ac, h.bc⟩
theorem Tri.setC {w : World} {A B C : Nat} {x y z z' : List Int} (h : Tri w A B C x y z) (hl : z'.length = 32) : Tri (w.setCells C 0 (ints .u8 z')) A B C x y z' := ⟨h.a.other h.ac _, h.b.other h.bc _, h.c.set hl, h.ab, h.ac, h.bc⟩
theorem JAl.three {i1 t1 i2 t2 i3 t3 base : Nat} {d : Nat → Bool} {u : Nat → Value} {w : World} (h : JAl [(i1, t1), (i2, t2), (i3, t3)] base d u w) (h1 : d i1 = true) (h2 : d i2 = true) (h3 : d i3 = true) (hne : (decide (i1 ≠ i2) && decide (i1 ≠ i3) && decide (i2 ≠ i3)) = true) :
    ∃ X Y Z, u t1 = .pointer (some ⟨X, 0, none⟩) ∧ u t2 = .pointer (some ⟨Y, 0, none⟩) ∧ u t3 = .pointer (some ⟨Z, 0, none⟩) ∧ base ≤ X ∧ base ≤ Y ∧ base ≤ Z ∧ Tri w X Y Z zs32 zs32 zs32 := by
  simp only [Bool.and_eq_true, decide_eq_true_eq] at hne
  obtain ⟨X, a1, a2, a3⟩ := h.al (i1, t1) (by simp) h1
  obtain ⟨Y, b1, b2, b3⟩ := h.al (i2, t2) (by simp) h2
  obtain ⟨Z, c1, c2, c3⟩ := h.al (i3, t3) (by simp) h3
  have n1 := h.ne (i1, t1) (by simp) (i2, t2) (by simp) hne.1.1 h1 h2
  have n2 := h.ne (i1, t1) (by simp) (i3, t3) (by simp) hne.1.2 h1 h3
  have n3 := h.ne (i2, t2) (by simp) (i3, t3) (by simp) hne.2 h2 h3
  refine ⟨X, Y, Z, a1, b1, c1, a2, b2, c2, a3, b3, c3, fun q => n1 ?_, fun q => n2 ?_, fun q => n3 ?_⟩
  · show u t1 = u t2
    rw [a1, b1, q]
  · show u t1 = u t3
    rw [a1, c1, q]
  · show u t2 = u t3
    rw [b1, c1, q]
/-- a place out of any number -/
theorem u64_in (o : Int) : 0 ≤ IntKind.u64.wrap o ∧ IntKind.u64.wrap o ≤ 18446744073709551615 := by
  have h : IntKind.u64.wrap o = o % 18446744073709551616 := rfl
  rw [h]; omega
theorem u64_mod (o : Int) (n : Nat) (h : 0 < n) : ∃ j : Nat, j < n ∧ IntKind.u64.wrap o % (n : Int) = (j : Int) := by
  have h1 := Int.emod_nonneg (IntKind.u64.wrap o) (b := (n : Int)) (by omega)
  have h2 := Int.emod_lt_of_pos (IntKind.u64.wrap o) (b := (n : Int)) (by omega)
  exact ⟨(IntKind.u64.wrap o % (n : Int)).toNat, by omega, by omega⟩
theorem peaks_next (ds : List (List Int)) (k : Nat) (h : k < ds.length) (hl : ds.length < 2 ^ 61) : peaksD (ds.take (k + 1)) = carry ndD (trail k) (peaksD (ds.take k)) (ds.getD k []) := by
  have hk : (ds.take k).length = k := by rw [List.length_take]; omega
  have h2 := peaksD_snoc (ds.take k) (ds.getD k []) (by omega)
  rw [hk] at h2
  rw [← h2, List.getD_eq_getElem?_getD, List.getElem?_eq_getElem h, List.take_succ_eq_append_getElem h]
  rfl
end Go.Proofs.Bl

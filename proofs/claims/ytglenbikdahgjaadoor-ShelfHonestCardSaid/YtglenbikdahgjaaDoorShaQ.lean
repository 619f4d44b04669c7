/- Texts that stood apart, in one: WTree1P, WRef1P, WTree2P. -/
import Derived.Test.YtglenbikdahgjaaDoorShaP
import Derived.Test.YtglenbikdahgjaaDoorLib0
import Derived.Lib.AppendZerosOnto
import Derived.WalkKit
import Derived.WalkLawsBesides
import Derived.WalkSpells
import Derived.Deep.QuietTactic
import Derived.BigQuiet
import Derived.Deep.RegionWith
import Derived.Test.YtglenbikdahgjaaDoorProg
import Derived.Test.YtglenbikdahgjaaDoorPla0
import Derived.IntWalk
import Derived.Laws.IdiomCopy
/- Walks of slices.Grow, slices.Concat, tree.Outer, Inner, Leaf, Node, baileeref12.Leaf. The plain part. -/
namespace Go.Proofs.Bl
open Go Go.RowKit
/-- a node's and a leaf's digest, and the empty tree's -/
def ndD (l r : List Int) : List Int := sha (1 :: (l ++ r))
def lfD (b : List Int) : List Int := sha (0 :: b)
def zD : List Int := sha []
theorem ndD_length (l r : List Int) : (ndD l r).length = 32 := rfl
theorem lfD_length (b : List Int) : (lfD b).length = 32 := rfl
theorem rdss_three {w : World} {v1 v2 v3 : Value} {l1 l2 l3 : List Int} (h1 : Rd w .u8 v1 l1) (h2 : Rd w .u8 v2 l2) (h3 : Rd w .u8 v3 l3) (e : TypeId) : Rdss (w.alloc (.cells #[v1, v2, v3] e)) (.slice (some ⟨w.heap.size, 0, none⟩) 3 3) [l1, l2, l3] := by
  refine ⟨[v1, v2, v3], .inr ⟨w.heap.size, 0, 3, rfl, Nat.le_refl _, show 3 ≤ maxLen from by decide, fun j u hu => ?_⟩, rfl, fun i hi => ?_⟩
  · rw [Nat.zero_add, World.cell?_alloc_new]; simpa using hu
  · have hi : i < 3 := hi
    match i, hi with
    | 0, _ => exact h1.ext (ext_alloc _ _)
    | 1, _ => exact h2.ext (ext_alloc _ _)
    | 2, _ => exact h3.ext (ext_alloc _ _)
/-- one slice in a slice -/
theorem rdss_1 {w : World} {v : Value} {l : List Int} (h : Rd w .u8 v l) (e : TypeId) : Rdss (w.alloc (.cells #[v] e)) (.slice (some ⟨w.heap.size, 0, none⟩) 1 1) [l] := by
  refine ⟨[v], .inr ⟨w.heap.size, 0, 1, rfl, Nat.le_refl _, show 1 ≤ maxLen from by decide, fun j u hu => ?_⟩, rfl, fun i hi => ?_⟩
  · rw [Nat.zero_add, World.cell?_alloc_new]; simpa using hu
  · have : i = 0 := by simpa using hi
    subst this
    exact h.ext (ext_alloc _ _)
/-- a whole array in a variable of its own, as a slice -/
theorem rd_box {w : World} {b n : Nat} {l : List Int} (h : w.rangeAt b 0 (ints .u8 l)) (hl : l.length = n) (hm : n ≤ maxLen) : Rd w .u8 (.slice (some ⟨b, 0, none⟩) n n) l := by
  subst hl; exact .inr ⟨b, 0, l.length, rfl, Nat.le_refl _, hm, h⟩
theorem range_box (w : World) (l : List Int) (e : TypeId) : (w.alloc (.cells (ints .u8 l).toArray e)).rangeAt w.heap.size 0 (ints .u8 l) := fun j v hv => by
  rw [Nat.zero_add, World.cell?_alloc_new]; simpa using hv
end Go.Proofs.Bl

/- Walk of baileeref07.turn and baileeref07.Of. The plain part. -/
namespace Go.Proofs.Bl
open Go
theorem byte4 (s : St) (i j : Nat) : (if j = 4 * i + 3 then s.l.getD i 0 % 256 else if j = 4 * i + 2 then s.l.getD i 0 / 256 % 256 else if j = 4 * i + 1 then s.l.getD i 0 / 65536 % 256 else if j = 4 * i then s.l.getD i 0 / 16777216 % 256 else if j < 4 * i then s.byte j else 0) = if j < 4 * (i + 1) then s.byte j else 0 := by
  by_cases e3 : j = 4 * i + 3
  · subst e3; rw [if_pos rfl, if_pos (by omega)]; unfold St.byte; rw [show (4 * i + 3) / 4 = i from by omega, show (4 * i + 3) % 4 = 3 from by omega]; simp
  rw [if_neg e3]
  by_cases e2 : j = 4 * i + 2
  · subst e2; rw [if_pos rfl, if_pos (by omega)]; unfold St.byte; rw [show (4 * i + 2) / 4 = i from by omega, show (4 * i + 2) % 4 = 2 from by omega]; rfl
  rw [if_neg e2]
  by_cases e1 : j = 4 * i + 1
  · subst e1; rw [if_pos rfl, if_pos (by omega)]; unfold St.byte; rw [show (4 * i + 1) / 4 = i from by omega, show (4 * i + 1) % 4 = 1 from by omega]; rfl
  rw [if_neg e1]
  by_cases e0 : j = 4 * i
  · subst e0; rw [if_pos rfl, if_pos (by omega)]; unfold St.byte; rw [show (4 * i) / 4 = i from by omega, show (4 * i) % 4 = 0 from by omega]; rfl
  rw [if_neg e0]
  by_cases e : j < 4 * i
  · rw [if_pos e, if_pos (by omega)]
  · rw [if_neg e, if_neg (by omega)]
theorem u32_in32 : ∀ n : Int, 0 ≤ n → n < 2 ^ 32 → IntKind.u32.wrap n = n := fun n h0 h1 => by
  show n % 2 ^ 32 = n
  exact Int.emod_eq_of_lt h0 h1
theorem orj (i : Nat) (x y : Int) (hx₀ : 0 ≤ x) (hx : x % 2 ^ i = 0) (hx₁ : x < 2 ^ 32) (h₀ : 0 ≤ y) (h₁ : y < 2 ^ i) (h2 : y < 2 ^ 32) : bits .or .u32 x y = x + y :=
  bits_join .u32 32 (by decide) u32_in32 i x y hx₀ hx hx₁ h₀ h₁ h2
theorem st4_add (a c : Int) (h0 : 0 ≤ a) (h1 : a < 16777216) (c0 : 0 ≤ c) (c1 : c ≤ 255) : st4 a c = a * 256 + c := by
  unfold st4
  rw [show a * 256 % 4294967296 = a * 256 from by omega]
  exact orj 8 _ _ (by omega) (by omega) (by omega) (by omega) (by omega) (by omega)
theorem or4 (a b c d : Int) (a0 : 0 ≤ a ∧ a ≤ 255) (b0 : 0 ≤ b ∧ b ≤ 255) (c0 : 0 ≤ c ∧ c ≤ 255) (d0 : 0 ≤ d ∧ d ≤ 255) :
    bits .or .u32 (bits .or .u32 (bits .or .u32 (a * 16777216) (b * 65536)) (c * 256)) d = st4 (st4 (st4 (st4 0 a) b) c) d := by
  rw [st4_add 0 a (by omega) (by omega) a0.1 a0.2, st4_add _ b (by omega) (by omega) b0.1 b0.2, st4_add _ c (by omega) (by omega) c0.1 c0.2, st4_add _ d (by omega) (by omega) d0.1 d0.2]
  rw [orj 24 (a * 16777216) _ (by omega) (by omega) (by omega) (by omega) (by omega) (by omega), orj 16 (a * 16777216 + b * 65536) _ (by omega) (by omega) (by omega) (by omega) (by omega) (by omega), orj 8 (a * 16777216 + b * 65536 + c * 256) _ (by omega) (by omega) (by omega) (by omega) (by omega) (by omega)]
  omega
theorem chunk_get (L : List Int) (k i : Nat) (h : i < 64) : ((L.drop (64 * k)).take 64).getD i 0 = L.getD (64 * k + i) 0 := by
  simp only [List.getD_eq_getElem?_getD, List.getElem?_take, List.getElem?_drop, if_pos h]
theorem word_at (L : List Int) (hL : Byt L) (k t : Nat) (ht : t < 16) (h : 64 * k + 64 ≤ L.length) :
    bits .or .u32 (bits .or .u32 (bits .or .u32 (L.getD (64 * k + 4 * t) 0 * 16777216) (L.getD (64 * k + 4 * t + 1) 0 * 65536)) (L.getD (64 * k + 4 * t + 2) 0 * 256)) (L.getD (64 * k + 4 * t + 3) 0) = word ((L.drop (64 * k)).take 64) t := by
  have e0 := chunk_get L k (4 * t) (by omega)
  have hl : ((L.drop (64 * k)).take 64).length = 64 := by rw [List.length_take, List.length_drop]; omega
  rw [or4 _ _ _ _ (hL.get _) (hL.get _) (hL.get _) (hL.get _), ← part_four]
  rw [part_succ _ t 3 (by omega), part_succ _ t 2 (by omega), part_succ _ t 1 (by omega), part_succ _ t 0 (by omega), part_zero]
  simp only [Nat.add_zero, e0, chunk_get L k (4 * t + 1) (by omega), chunk_get L k (4 * t + 2) (by omega), chunk_get L k (4 * t + 3) (by omega), ← Nat.add_assoc]
theorem fam_setCells {w : World} {g : Nat} {k : IntKind} {n : Nat} {f : Nat → Int} (h : Fam w g k n f) (l : List Int) (hl : l.length = n) : Fam (w.setCells g 0 (ints k l)) g k n (fun i => l.getD i 0) := by
  have hin := World.rangeAt_setCells_same w g 0 (ints k l) (by rw [ints_length, hl]; exact h.there)
  refine ⟨fun i hi => ?_, fun i => ?_⟩
  · have := hin i _ (ints_get k l i (by omega))
    rw [Nat.zero_add] at this; exact this
  · rw [World.frozen?_setCells]; exact h.2 i
end Go.Proofs.Bl

/- Walks of tree.Inner, Leaf, Node, baileeref12.Leaf, Node. The plain part. -/
namespace Go.Proofs.Bl
open Go Go.RowKit
/-- a slice of bytes, its value in its own form -/
def SlB (w : World) (v : Value) (l : List Int) : Prop := ∃ p c, v = .slice p l.length c ∧ Rd w .u8 v l
theorem SlB.ext {w w' : World} {v : Value} {l : List Int} (h : SlB w v l) (k : Ext w w') : SlB w' v l := by
  obtain ⟨p, c, h1, h2⟩ := h; exact ⟨p, c, h1, h2.ext k⟩
theorem slB_one (w : World) (e : TypeId) (x : Int) : SlB (w.alloc (.cells #[.int .u8 x] e)) (.slice (some ⟨w.heap.size, 0, none⟩) 1 1) [x] := ⟨_, _, rfl, rds_one _ _ _ _⟩
/-- one byte in a row of its own -/
def One1 (w : World) (v : Value) (x : Int) : Prop := ∃ g, v = .slice (some ⟨g, 0, none⟩) 1 1 ∧ w.rangeAt g 0 (ints .u8 [x])
theorem One1.ext {w w' : World} {v : Value} {x : Int} (h : One1 w v x) (k : Ext w w') : One1 w' v x := by
  obtain ⟨g, h1, h2⟩ := h; exact ⟨g, h1, rangeAt_ext h2 k⟩
theorem one1_new (w : World) (e : TypeId) (x : Int) : One1 (w.alloc (.cells #[.int .u8 x] e)) (.slice (some ⟨w.heap.size, 0, none⟩) 1 1) x :=
  ⟨_, rfl, fun j u hu => by rw [Nat.zero_add, World.cell?_alloc_new]; simpa [ints] using hu⟩
/-- a row of the call's own, its value in its own form -/
def OwnB (w : World) (v : Value) (B : Nat) (e : TypeId) (n : Nat) (l : List Int) : Prop := ∃ p c, v = .slice p n c ∧ w.ownsRow B e 1 v n (ints .u8 l)
theorem OwnB.ext {w w' : World} {v : Value} {B : Nat} {e : TypeId} {n : Nat} {l : List Int} (h : OwnB w v B e n l) (k : Ext w w') : OwnB w' v B e n l := by
  obtain ⟨p, c, h1, h2⟩ := h; exact ⟨p, c, h1, owns_ext h2 k⟩
theorem byt_cons {x : Int} {l : List Int} (h0 : 0 ≤ x) (h1 : x ≤ 255) (h : Byt l) : Byt (x :: l) := fun y hy => by
  rcases List.mem_cons.1 hy with rfl | hy
  · exact ⟨h0, h1⟩
  · exact h y hy
end Go.Proofs.Bl

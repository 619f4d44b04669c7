/- Texts that stood apart, in one: WSha6P, WSha8P. -/
import Derived.WalkKit
import Derived.WalkLawsBesides
import Derived.WalkSpells
import Derived.Deep.QuietTactic
import Derived.BigQuiet
import Derived.Deep.RegionWith
import Derived.Test.YtglenbikdahgjaaDoorProg
import Derived.Test.YtglenbikdahgjaaDoorPla0
import Derived.Test.YtglenbikdahgjaaDoorLib0
import Derived.IntWalk
import Derived.Lib.SliceRun
import Derived.LoopNIn
import Derived.LoopIn
import Derived.Shelf.Abstract
/- slices.Chunk over bytes: the function value, and its contract. The plain part. -/
namespace Go.Proofs.Bl
open Go Go.RowKit

/-- all blocks below n but g are as they were -/
def Keep (g n : Nat) (w w' : World) : Prop := w.heap.size ≤ w'.heap.size ∧ ∀ k, k < n → k ≠ g → w'.heap[k]? = w.heap[k]?
theorem Keep.refl (g n : Nat) (w : World) : Keep g n w w := ⟨Nat.le_refl _, fun _ _ _ => rfl⟩
theorem Keep.trans {g n : Nat} {a b c : World} (h : Keep g n a b) (k : Keep g n b c) : Keep g n a c := ⟨Nat.le_trans h.1 k.1, fun i hi hg => (k.2 i hi hg).trans (h.2 i hi hg)⟩
theorem Keep.cell {g n : Nat} {w w' : World} (h : Keep g n w w') {b i : Nat} (hb : b < n) (hg : b ≠ g) : w'.cell? ⟨b, i, none⟩ = w.cell? ⟨b, i, none⟩ := World.cell?_of_block (w := w) (h.2 b hb hg)
theorem Keep.putObj {g n : Nat} {w : World} (hn : n ≤ w.heap.size) (W : World) (l : Nat) (o o' : Obj) (hl : w.heap.size ≤ l) (_ : W.heap[l]? = some o) (_ : o.isCells = false) (_ : o.isWalk = false) : Keep g n W (W.putObj l o') :=
  ⟨by simp, fun k hk _ => World.putObj_heap_other (by omega)⟩
theorem Keep.of_below {g n B : Nat} {w w' : World} (h : Below B w w') (hn : n ≤ B) : Keep g n w w' := ⟨h.size, fun k hk _ => h.block k (by omega)⟩
theorem ownFrom_keep {β : Type} {g n B : Nat} {w₀ : World} (hB : n ≤ B) (hn : n ≤ w₀.heap.size): OwnFrom B (fun (_ : β) W => Keep g n w₀ W) :=
  fun _ W W' row hs hg hr => by
    exact hs.trans ⟨hg.size, fun k hk _ => hg.block k (by have := hs.1; omega) (fun e => by have := (hr k e.symm).1; omega)⟩

theorem Fam.keep {g n : Nat} {w w' : World} {b : Nat} {k : IntKind} {m : Nat} {f : Nat → Int} (h : Fam w b k m f) (hk : Keep g n w w') (hb : b < n) (hg : b ≠ g) : Fam w' b k m f :=
  ⟨fun i hi => (hk.cell hb hg).trans (h.1 i hi), fun i => (World.frozen?_of_block (w := w) (hk.2 b hb hg)).trans (h.2 i)⟩
theorem cell_new1 (w : World) (v : Value) (t : TypeId) : (w.alloc (.cells #[v] t)).cell? ⟨w.heap.size, 0, none⟩ = some v := by have h := World.alloc_heap_new w (.cells #[v] t); simp only [World.cell?, h]; rfl
theorem exc_setCells {g : Nat} {a : World} : ∀ (vs : List Value) (o : Nat) (w : World), Exc g a w → Exc g a (w.setCells g o vs)
  | [], _, _, h => h
  | v :: r, o, w, h => by rw [World.setCells]; exact exc_setCells r (o + 1) _ (h.set o v)
theorem Keep.set {g n : Nat} {a w : World} (h : Keep g n a w) (i : Nat) (u : Value) : Keep g n a (w.setCell ⟨g, i, none⟩ u) :=
  ⟨Nat.le_trans h.1 ((Below.refl 0 w).setCell (p := ⟨g, i, none⟩) (Nat.zero_le _) u).size, fun k hk hne => (Below.heap_setCell _ _ _ _ hne).trans (h.2 k hk hne)⟩
theorem Keep.store8 {g n : Nat} {a w : World} (h : Keep g n a w) (x0 x1 x2 x3 x4 x5 x6 x7 : Value) :
    Keep g n a ((((((((w.setCell ⟨g, 0, none⟩ x0).setCell ⟨g, 1, none⟩ x1).setCell ⟨g, 2, none⟩ x2).setCell ⟨g, 3, none⟩ x3).setCell ⟨g, 4, none⟩ x4).setCell ⟨g, 5, none⟩ x5).setCell ⟨g, 6, none⟩ x6).setCell ⟨g, 7, none⟩ x7) :=
  (((((((h.set 0 _).set 1 _).set 2 _).set 3 _).set 4 _).set 5 _).set 6 _).set 7 _
theorem others_ext {w w' : World} (h : Ext w w') : KeepsOthers w w' := ⟨h.size, fun l _ ho _ => (h.block l (Array.getElem?_eq_some_iff.1 ho).1).trans ho⟩
theorem others_store8 {a w : World} (h : KeepsOthers a w) (g : Nat) (x0 x1 x2 x3 x4 x5 x6 x7 : Value) :
    KeepsOthers a ((((((((w.setCell ⟨g, 0, none⟩ x0).setCell ⟨g, 1, none⟩ x1).setCell ⟨g, 2, none⟩ x2).setCell ⟨g, 3, none⟩ x3).setCell ⟨g, 4, none⟩ x4).setCell ⟨g, 5, none⟩ x5).setCell ⟨g, 6, none⟩ x6).setCell ⟨g, 7, none⟩ x7) :=
  (((((((h.trans (KeepsOthers.setCell _ _ _)).trans (KeepsOthers.setCell _ _ _)).trans (KeepsOthers.setCell _ _ _)).trans (KeepsOthers.setCell _ _ _)).trans (KeepsOthers.setCell _ _ _)).trans (KeepsOthers.setCell _ _ _)).trans (KeepsOthers.setCell _ _ _)).trans (KeepsOthers.setCell _ _ _)
theorem grown_ext {w w' : World} (h : Ext w w') : w.grownBy w' none := ⟨h.os, h.tape, h.output, h.size, fun k hk _ => h.block k hk⟩

def chunks (m : Nat) (k : Nat) : List (Fin m) := (List.finRange m).take k
theorem chunks_succ (m k : Nat) (hk : k < m) : chunks m (k + 1) = chunks m k ++ [⟨k, hk⟩] := by
  unfold chunks
  rw [List.take_add_one, List.getElem?_eq_getElem (by simpa using hk)]
  simp
theorem chunks_length (m k : Nat) (hk : k ≤ m) : (chunks m k).length = k := by simp [chunks, hk]
theorem chunks_all (m : Nat) : chunks m m = List.finRange m := by unfold chunks; rw [List.take_of_length_le (by simp)]
end Go.Proofs.Bl

/- Walk of sha.Of. The plain part. -/
namespace Go.Proofs.Bl
open Go Go.RowKit

theorem eat_mod : ∀ (n : Nat) (z : St) (l : List Int), l.length ≤ n → (eat z l).2.length = l.length % 64 := by
  intro n
  induction n with
  | zero => intro z l h; rw [eat_lo z l (by omega)]; show l.length = _; omega
  | succ n ih =>
    intro z l h
    by_cases h64 : 64 ≤ l.length
    · rw [eat_hi z l h64, ih _ _ (by rw [List.length_drop]; omega), List.length_drop]; omega
    · rw [eat_lo z l (by omega)]; show l.length = _; omega
theorem padn_mod64 (n : Nat) : padn (n % 64) = padn n := by unfold padn; omega
/-- SHA-256's 32 bytes -/
def sha (l : List Int) : List Int := (eat iv0 (pad l l.length)).1.bytes
@[simp] theorem sha_length (l : List Int) : (sha l).length = 32 := rfl
theorem ended_eat (l : List Int) : ended (eat iv0 l).1 (eat iv0 l).2 l.length = (eat iv0 (pad l l.length)).1 := by
  have h := eat_append (128 :: List.replicate (padn l.length) 0 ++ lenb l.length) l.length iv0 l (Nat.le_refl _)
  unfold ended pad
  rw [eat_mod _ _ _ (Nat.le_refl _), padn_mod64, List.append_assoc, List.append_assoc, h]
/-- a slice of slices of bytes -/
def Rdss (w : World) (v : Value) (ps : List (List Int)) : Prop :=
  ∃ vs : List Value, Rds w v ps.length vs ∧ vs.length = ps.length ∧ ∀ i, i < ps.length → Rd w .u8 (vs.getD i undef) (ps.getD i [])
theorem Rdss.ext {w w' : World} {v : Value} {ps : List (List Int)} (h : Rdss w v ps) (hb : Ext w w') : Rdss w' v ps := by
  obtain ⟨vs, h1, h2, h3⟩ := h
  exact ⟨vs, h1.ext hb, h2, fun i hi => (h3 i hi).ext hb⟩
theorem flat_take (ps : List (List Int)) (i : Nat) (h : i < ps.length) : (ps.take (i + 1)).flatten = (ps.take i).flatten ++ ps.getD i [] := by
  rw [List.take_add_one, List.flatten_append, List.getElem?_eq_getElem h, List.getD_eq_getElem?_getD, List.getElem?_eq_getElem h]; simp
theorem flat_len (ps : List (List Int)) (i : Nat) : (ps.take i).flatten.length ≤ ps.flatten.length := by
  conv => rhs; rw [← List.take_append_drop i ps, List.flatten_append, List.length_append]
  omega
theorem flat_byt {ps : List (List Int)} (h : Byt ps.flatten) (i : Nat) : Byt (ps.take i).flatten := fun x hx => h x (by
  rw [← List.take_append_drop i ps, List.flatten_append]; exact List.mem_append_left _ hx)
end Go.Proofs.Bl

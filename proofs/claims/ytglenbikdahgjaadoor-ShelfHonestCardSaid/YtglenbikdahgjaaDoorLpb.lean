/- Texts that stood apart, in one: LP4, LP5. -/
import Derived.Test.YtglenbikdahgjaaDoorLpc
/- Walk of the closure of reader.rest that appends shown blocks, and of reader.each for it. -/
namespace Go.Proofs.YtglenbikdahgjaaDoor
open Go Go.RowKit Go.Proofs

end Go.Proofs.YtglenbikdahgjaaDoor

/- Walks of reader.each with what it appends, for each kind; a letter whose rows lie in such blocks. -/
namespace Go.Proofs.Bl
open Go Go.RowKit
theorem cellsB (M : List Bv) : cellsR cB M = M.map (·.1) := by
  unfold cellsR cB
  induction M with
  | nil => rfl
  | cons x r ih => rw [List.flatMap_cons, ih]; rfl
/-- a letter's rows lie in such blocks -/
structure LtF (F : Nat → Prop) (w : World) (l : LT) (vp vs vb : Value) (L : List Sv) : Prop where
  pl : RdsF F w vp l.places.length (ints .i64 l.places)
  sh : RdsF F w vs L.length (cellsR cS L)
  so : ∀ x ∈ L, OkF F w x
  sl : L.map plS = l.shown
  bl : ∃ M : List Bv, RdsF F w vb M.length (cellsR cB M) ∧ (∀ y ∈ M, OkB F w y) ∧ M.map (·.2) = l.blocks
theorem LtF.kept {F F' : Nat → Prop} {w w' : World} {l : LT} {vp vs vb : Value} {L : List Sv} (h : LtF F w l vp vs vb L) (hk : ∀ b, F b → b < w.heap.size → F' b ∧ w'.heap[b]? = w.heap[b]?) : LtF F' w' l vp vs vb L := by
  obtain ⟨M, h1, h2, h3⟩ := h.bl
  exact ⟨h.pl.kept hk, h.sh.kept hk, fun x hx => stab_okF _ _ _ _ _ (h.so x hx) hk, h.sl, M, h1.kept hk, fun y hy => stab_okB _ _ _ _ _ (h2 y hy) hk, h3⟩
theorem LtF.nil (F : Nat → Prop) (w : World) (k i o f c d : Int) : LtF F w ⟨k, i, o, [], [], f, c, [], d⟩ (.slice none 0 0) (.slice none 0 0) (.slice none 0 0) [] :=
  ⟨RdsF.nil w, RdsF.nil w, fun x hx => (by cases hx), rfl, [], RdsF.nil w, fun x hx => (by cases hx), rfl⟩
theorem LtF.ltc {F : Nat → Prop} {w : World} {l : LT} {vp vs vb : Value} {L : List Sv} (h : LtF F w l vp vs vb L) : LtC w (cL l vp vs vb) l vp vs vb L := by
  obtain ⟨M, h1, h2, h3⟩ := h.bl
  refine ⟨rfl, h.pl.rds, ⟨h.sh.rds, fun x hx => (h.so x hx).ok⟩, h.sl, ?_, ?_⟩
  · refine ⟨M.map (·.1), ?_, by rw [← h3, List.length_map, List.length_map], fun i hi => ?_⟩
    · have h4 := h1.rds
      rw [cellsB] at h4
      rw [← h3, List.length_map]; exact h4
    · rw [← h3, List.length_map] at hi
      have h5 := (h2 _ (List.getElem_mem hi)).1.rds
      rw [← h3, List.getD_eq_getElem?_getD, List.getD_eq_getElem?_getD, List.getElem?_map, List.getElem?_map, List.getElem?_eq_getElem hi]
      exact h5
  · intro b hb
    rw [← h3] at hb
    obtain ⟨y, hy, rfl⟩ := List.mem_map.1 hb
    exact (h2 y hy).2
/-- a letter's variable, its rows in blocks from B on -/
def LtY (w : World) (Y B : Nat) (l : LT) : Prop := ∃ vp vs vb L, BoxC w Y (cL l vp vs vb) ∧ LtF (fun b => B ≤ b) w l vp vs vb L
theorem GP.rowF {α : Type} {f : α → List Value} {s : Nat} {Ok : (Nat → Prop) → World → α → Prop} {B : Nat} {w : World} {X fi : Nat} {cs : List Value} {v : Value} {M : List α} (h : GP f s Ok B w X fi cs v M) {B' : Nat} (hB : B' ≤ B) : RdsF (fun b => B' ≤ b) w v M.length (cellsR f M) :=
  RdsF.of_rds h.own.rds fun b hb _ => Nat.le_trans hB (h.own.block b hb).1
theorem GP.elF {α : Type} {f : α → List Value} {s : Nat} {Ok : (Nat → Prop) → World → α → Prop} (hS : Stab Ok) {B : Nat} {w : World} {X fi : Nat} {cs : List Value} {v : Value} {M : List α} (h : GP f s Ok B w X fi cs v M) {B' : Nat} (hB : B' ≤ B) : ∀ x ∈ M, Ok (fun b => B' ≤ b) w x :=
  fun x hx => hS _ _ _ _ _ (h.ok x hx) fun _b hb _ => ⟨Nat.le_trans hB hb.2.2, rfl⟩
end Go.Proofs.Bl
namespace Go.Proofs.YtglenbikdahgjaaDoor
open Go Go.RowKit Go.Proofs

end Go.Proofs.YtglenbikdahgjaaDoor

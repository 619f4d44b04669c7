/- Rows of steps: a bool and two numbers each. Small things of lists. -/
import Derived.Test.YtmfooocdnoflaaaDoorLib0
namespace Go.Proofs.Bl
open Go Go.RowKit
/-- the cells of steps -/
def cellsT (ts : List (Bool × Nat × Nat)) : List Value := ts.flatMap fun t => [.bool t.1, .int .i64 t.2.1, .int .i64 t.2.2]
theorem cellsT_append (a b : List (Bool × Nat × Nat)) : cellsT (a ++ b) = cellsT a ++ cellsT b := by simp [cellsT]
theorem cellsT_length : ∀ (ts : List (Bool × Nat × Nat)), (cellsT ts).length = ts.length * 3
  | [] => rfl
  | t :: r => by
    show ([Value.bool t.1, .int .i64 t.2.1, .int .i64 t.2.2] ++ cellsT r).length = _
    rw [List.length_append, cellsT_length r, List.length_cons]
    simp; omega
theorem cellsT_one (b : Bool) (n i : Nat) : cellsT [(b, n, i)] = [.bool b, .int .i64 n, .int .i64 i] := rfl
theorem cellsT_one' (ts : List (Bool × Nat × Nat)) : ∀ c ∈ cellsT ts, c.oneCell' = true := fun c hc => by
  obtain ⟨t, _, ht⟩ := List.mem_flatMap.1 hc
  simp only [List.mem_cons, List.not_mem_nil, or_false] at ht
  rcases ht with rfl | rfl | rfl <;> rfl
/-- one part in a slice literal -/
theorem rds_new1 (w : World) (e : TypeId) (cs : Array Value) : Rds (w.alloc (.cells cs e)) (.slice (some ⟨w.heap.size, 0, none⟩) 1 1) 1 cs.toList := by
  refine .inr ⟨w.heap.size, 0, 1, rfl, Nat.le_refl _, show 1 ≤ maxLen from by decide, fun j v hv => ?_⟩
  rw [Nat.zero_add, World.cell?_alloc_new]
  simpa using hv
theorem getD_map {α β : Type} (f : α → β) (l : List α) (k : Nat) (a : α) (b : β) (h : k < l.length) : (l.map f).getD k b = f (l.getD k a) := by
  rw [List.getD_eq_getElem?_getD, List.getD_eq_getElem?_getD, List.getElem?_map, List.getElem?_eq_getElem h]; rfl
theorem take_snocD (l : List (List Int)) (k : Nat) (h : k < l.length) : l.take (k + 1) = l.take k ++ [l.getD k []] := by
  rw [List.getD_eq_getElem?_getD, List.getElem?_eq_getElem h, List.take_succ_eq_append_getElem h]; rfl
theorem cellsT_get : ∀ (ts : List (Bool × Nat × Nat)) (k : Nat), k < ts.length → (cellsT ts)[k * 3]? = some (.bool (ts.getD k default).1) ∧ (cellsT ts)[k * 3 + 1]? = some (.int .i64 (ts.getD k default).2.1) ∧ (cellsT ts)[k * 3 + 2]? = some (.int .i64 (ts.getD k default).2.2)
  | [], k, h => by simp at h
  | t :: r, 0, _ => ⟨rfl, rfl, rfl⟩
  | t :: r, k + 1, h => by
    have ih := cellsT_get r k (by simpa using h)
    show (_ :: _ :: _ :: cellsT r)[(k + 1) * 3]? = _ ∧ (_ :: _ :: _ :: cellsT r)[(k + 1) * 3 + 1]? = _ ∧ (_ :: _ :: _ :: cellsT r)[(k + 1) * 3 + 2]? = _
    rw [show (k + 1) * 3 = k * 3 + 1 + 1 + 1 from by omega, show k * 3 + 1 + 1 + 1 + 1 = (k * 3 + 1) + 1 + 1 + 1 from by omega, show k * 3 + 1 + 1 + 1 + 2 = (k * 3 + 2) + 1 + 1 + 1 from by omega]
    simp only [List.getElem?_cons_succ, List.getD_cons_succ]
    exact ih
/-- a row of steps' place -/
theorem RdT.pos {w : World} {v : Value} {ts : List (Bool × Nat × Nat)} (h : Rds w v ts.length (cellsT ts)) (hne : 0 < ts.length) : ∃ b o c, v = .slice (some ⟨b, o, none⟩) ts.length c ∧ ts.length ≤ c ∧ c ≤ maxLen ∧ b < w.heap.size ∧ w.rangeAt b o (cellsT ts) := by
  rcases h with ⟨_, h, _⟩ | ⟨b, o, c, h1, h2, h3, h4⟩
  · omega
  · exact ⟨b, o, c, h1, h2, h3, rangeAt_lt h4 (fun q => by have := cellsT_length ts; rw [q] at this; simp at this; omega), h4⟩
theorem turn_at {w : World} {b o : Nat} {ts : List (Bool × Nat × Nat)} (h : w.rangeAt b o (cellsT ts)) {k : Nat} (hk : k < ts.length) {x : Bool} {n i : Nat} (he : ts.getD k default = (x, n, i)) : w.rangeAt b (o + k * 3) [.bool x, .int .i64 n, .int .i64 i] := fun j v hv => by
  obtain ⟨h0, h1, h2⟩ := cellsT_get ts k hk
  rw [he] at h0 h1 h2
  match j, hv with
  | 0, hv => cases hv; exact h (k * 3) _ h0
  | 1, hv => cases hv; have := h _ _ h1; rw [← Nat.add_assoc] at this; exact this
  | 2, hv => cases hv; have := h _ _ h2; rw [← Nat.add_assoc] at this; exact this
  | j + 3, hv => simp at hv
theorem there_new (w : World) (cs : Array Value) (e : TypeId) (n : Nat) (hn : cs.size = n) : (w.alloc (.cells cs e)).there w.heap.size 0 n := fun j hj => by
  rw [Nat.zero_add, World.cell?_alloc_new]
  exact ⟨by simp [hn, hj], by simp⟩
/-- the head of what is left of the steps -/
theorem drop_head {α : Type} {T : List α} {k : Nat} {x : α} {r : List α} (d : α) (h : T.drop k = x :: r) : k < T.length ∧ T.getD k d = x ∧ T.drop (k + 1) = r := by
  have hk : k < T.length := by
    have := congrArg List.length h
    rw [List.length_drop, List.length_cons] at this; omega
  rw [List.drop_eq_getElem_cons hk] at h
  injection h with h1 h2
  exact ⟨hk, by rw [List.getD_eq_getElem?_getD, List.getElem?_eq_getElem hk]; exact h1, h2⟩
end Go.Proofs.Bl

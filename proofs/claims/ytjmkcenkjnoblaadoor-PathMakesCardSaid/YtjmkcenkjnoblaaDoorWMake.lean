/- Walk of path.Make. -/
import Derived.Test.YtjmkcenkjnoblaaDoorWPath2
import Derived.Test.YtjmkcenkjnoblaaDoorDigs2
import Derived.Test.YtjmkcenkjnoblaaDoorWOver
namespace Go.Proofs.Bl
open Go Go.RowKit
/-- the path of a leaf among leaves -/
def pathD (ps : List (List Int)) (i : Nat) : List (List Int) := pathL ndD zD (ps.map lfD) i
theorem cellsT_get : ∀ (ts : List (Bool × Nat × Nat)) (k : Nat), k < ts.length → (cellsT ts)[k * 3]? = some (.bool (ts.getD k default).1) ∧ (cellsT ts)[k * 3 + 1]? = some (.int .i64 (ts.getD k default).2.1) ∧ (cellsT ts)[k * 3 + 2]? = some (.int .i64 (ts.getD k default).2.2)
  | [], k, h => by simp at h
  | t :: r, 0, _ => ⟨rfl, rfl, rfl⟩
  | t :: r, k + 1, h => by
    have ih := cellsT_get r k (by simpa using h)
    show (_ :: _ :: _ :: cellsT r)[(k + 1) * 3]? = _ ∧ (_ :: _ :: _ :: cellsT r)[(k + 1) * 3 + 1]? = _ ∧ (_ :: _ :: _ :: cellsT r)[(k + 1) * 3 + 2]? = _
    rw [show (k + 1) * 3 = k * 3 + 1 + 1 + 1 from by omega, show k * 3 + 1 + 1 + 1 + 1 = (k * 3 + 1) + 1 + 1 + 1 from by omega, show k * 3 + 1 + 1 + 1 + 2 = (k * 3 + 2) + 1 + 1 + 1 from by omega]
    simp only [List.getElem?_cons_succ, List.getD_cons_succ]
    exact ih
theorem dig_path : ∀ (m : Nat) (l : List (List Int)) (i : Nat), l.length ≤ m → l.length < 2 ^ 63 → Dig l → Dig (pathL ndD zD l i)
  | 0, l, i, h, _, _ => by rw [pathL_lo _ _ l i (by omega)]; exact Dig.nil
  | m + 1, l, i, h, hn, hd => by
    by_cases h2 : 2 ≤ l.length
    · obtain ⟨a, b, c⟩ := sp_bounds l.length h2 hn
      have one : ∀ x : List (List Int), Dig x → x.length < 2 ^ 63 → Dig [over ndD zD x] := fun x hx hl => Dig.one (overD_dig _ x rfl hx hl).1 (overD_dig _ x rfl hx hl).2
      by_cases hi : i < sp l.length
      · rw [pathL_left _ _ l i h2 hn hi]
        exact (dig_path m _ i (by rw [List.length_take]; omega) (by rw [List.length_take]; omega) (hd.take _)).append (one _ (hd.drop _) (by rw [List.length_drop]; omega))
      · rw [pathL_right _ _ l i h2 hn hi]
        exact (dig_path m _ _ (by rw [List.length_drop]; omega) (by rw [List.length_drop]; omega) (hd.drop _)).append (one _ (hd.take _) (by rw [List.length_take]; omega))
    · rw [pathL_lo _ _ l i (by omega)]; exact Dig.nil
end Go.Proofs.Bl

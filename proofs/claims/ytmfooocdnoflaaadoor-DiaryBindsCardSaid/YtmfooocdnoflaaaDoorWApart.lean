/- Walks of baileelaw12.clash and of the law TreeApart: it returns true. -/
import Derived.Test.YtmfooocdnoflaaaDoorWSame
import Derived.Test.YtmfooocdnoflaaaDoorWHalves
namespace Go.Proofs.Bl
open Go Go.RowKit
theorem app32_inj {a b c d : List Int} (h : a.length = c.length) (q : (1 : Int) :: (a ++ b) = 1 :: (c ++ d)) : a = c ∧ b = d := by
  simp only [List.cons.injEq, true_and] at q
  exact List.append_inj q h
theorem take_drop_eq {xs ys : List (List Int)} (k : Nat) (h : xs.take k = ys.take k) (h2 : xs.drop k = ys.drop k) : xs = ys := by
  rw [← List.take_append_drop k xs, ← List.take_append_drop k ys, h, h2]
end Go.Proofs.Bl
namespace Go.Proofs.YtmfooocdnoflaaaDoor
open Go.RowKit Go.Proofs

end Go.Proofs.YtmfooocdnoflaaaDoor

/- baileenum.Num of nil or a sentinel. -/
import Derived.Test.YtmfooocdnoflaaaDoorWNum
import Derived.Test.YtmfooocdnoflaaaDoorZs
namespace Go.Proofs.YtmfooocdnoflaaaDoor
open Go.RowKit Go.Proofs
theorem num_errN (S : List Nat) (a : Nat → Addr) (w : World) (m : Nat) (hS : ∀ i, 1 ≤ i → i ≤ 20 → i ∈ S) (he : Errs S a w) (h2 : m ≤ 20) :
    Calls Tryd.prog 12 #[errN a m] w fun e w' => e = .returned (.int .i64 m) ∧ Bl.Ext w w' := by
  by_cases h : m = 0
  · subst h
    exact (num_nil w).mono fun _ _ ⟨h1, h2⟩ => ⟨h1, by rw [h2]; exact Below.refl _ _⟩
  · rw [errN_pos a m h]
    exact num_any S a w m hS he (by omega) h2
end Go.Proofs.YtmfooocdnoflaaaDoor

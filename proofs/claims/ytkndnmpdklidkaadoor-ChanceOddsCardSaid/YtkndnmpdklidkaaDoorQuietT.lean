/- A region that draws its order, whose first n operations only read or call quietly, the others in a forced order behind them: one walk in the text's order, by the cheap step. No program. -/
import Derived.StillTail
import Derived.BigQuiet
import Derived.Deep.QuietTactic
import Derived.Test.YtkndnmpdklidkaaDoorBase
namespace Go.Proofs.Bl
open Go
section
variable {P : Program} {ops : Array Oper}
theorem still_of_quiet {w : World} {Q : Act → Prop} : ∀ (l : List Oper) (a : Act), wpQuiet P ops (fun w' => w' = w) Q l a → wpStill P ops w Q l a
  | [], _, h => h
  | o :: rest, a, h => by
    unfold wpQuiet at h
    unfold wpStill
    by_cases hw : Region.wanted o (yielded ops a.tmps)
    · rw [if_pos hw] at h ⊢
      obtain ⟨v, hv, hK⟩ := h
      have h1 := hv w rfl
      unfold Oper.quietAt at h1
      unfold Oper.still
      have h2 := still_of_quiet rest _ hK
      generalize (execOp a.eval o).run P w = r at h1 ⊢
      unfold Oper.quietUpon at h1
      unfold Oper.stillUpon
      split at h1
      · obtain ⟨h3, h4⟩ := h1; subst h4; exact ⟨h3, h2⟩
      · obtain ⟨h3, h4⟩ := h1; subst h4; exact ⟨h3, h2⟩
      · obtain ⟨h3, h4⟩ := h1; exact ⟨h3, v, h4, h2⟩
      · exact h1.elim
    · rw [if_neg hw] at h ⊢
      exact still_of_quiet rest _ h
theorem wp_region_qt {id : Nat} {Q : Exit → Act → World → Prop} {a : Act} {w : World} {l : List Oper} (n : Nat) (hm : P.follows .mixedOrders = true) (hB : Region.lexTailB .any l.toArray n = true)
    (h : wpQuiet P l.toArray (fun w' => w' = w.drewN 1) (fun a' => wpList P l.toArray Q (l.drop n) a' (w.drewN 1)) (l.take n) a) : (Code.region id l.toArray true).wp P Q a w :=
  wp_region_still_tail n hm hB (still_of_quiet _ _ h)
end
end Go.Proofs.Bl

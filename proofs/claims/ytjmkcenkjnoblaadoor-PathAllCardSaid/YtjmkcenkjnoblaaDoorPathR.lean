/- Where two ways up to one root last part, two byte strings have one digest. No program. -/
import Derived.Test.YtjmkcenkjnoblaaDoorPathQ
namespace Go.Proofs.Bl
open Go
theorem sha_len (l : List Int) : (sha l).length = 32 := rfl
theorem seqP_clash {n i : Nat} {l l' : List Int} {p p' : List (List Int)} (hp : p.length = (turnsL n i).length) (hp' : p'.length = (turnsL n i).length) (hd : ∀ k, k < p.length → (p.getD k []).length = 32) (hd' : ∀ k, k < p'.length → (p'.getD k []).length = 32)
    (hroot : foldP ndD n i (lfD l) p = foldP ndD n i (lfD l') p') (k : Nat) (hk : k ≤ (turnsL n i).length) (hsame : ∀ j, k < j → j ≤ (turnsL n i).length → (seqP n i l p).getD j [] = (seqP n i l' p').getD j []) :
    sha ((seqP n i l p).getD k []) = sha ((seqP n i l' p').getD k []) := by
  by_cases he : k = (turnsL n i).length
  · subst he; rw [seqP_last hp, seqP_last hp', hroot]
  · have h := hsame (k + 1) (by omega) (by omega)
    rw [seqP_succ hp k (by omega), seqP_succ hp' k (by omega)] at h
    unfold stB at h
    split at h
    · exact (inB_inj h (by rw [sha_len, sha_len])).1
    · exact (inB_inj h (by rw [hd k (by omega), hd' k (by omega)])).2
end Go.Proofs.Bl

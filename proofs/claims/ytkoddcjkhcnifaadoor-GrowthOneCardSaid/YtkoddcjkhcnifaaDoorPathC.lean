/- Clashes, plainly: what two leaves and their paths hash on the way up to one root; what two old roots and a proof do. No program. -/
import Derived.Test.YtkoddcjkhcnifaaDoorPla0
namespace Go.Proofs.Bl
open Go
section
variable (H : List Int → List Int)
/-- a node's bytes -/
def inB (l r : List Int) : List Int := 1 :: (l ++ r)
theorem inB_inj {l r l' r' : List Int} (h : inB l r = inB l' r') (hl : l.length = l'.length) : l = l' ∧ r = r' := by
  injection h with _ h
  exact List.append_inj h hl
/-- a step's bytes -/
def stB (d : List Int) (t : Bool) (s : List Int) : List Int := if t = true then inB d s else inB s d
/-- what a path hashes on its way up, from the leaf's bytes on -/
def seqB : List Int → List (Bool × List Int) → List (List Int)
  | x, [] => [x]
  | x, (t, s) :: r => x :: seqB (stB (H x) t s) r
theorem seqB_len : ∀ (l : List (Bool × List Int)) (x : List Int), (seqB H x l).length = l.length + 1
  | [], _ => rfl
  | (t, s) :: r, x => by simp [seqB, seqB_len r]
theorem seqB_zero (l : List (Bool × List Int)) (x : List Int) : (seqB H x l).getD 0 [] = x := by
  cases l with
  | nil => rfl
  | cons a r => rfl
/-- the digest of the last is what is made step by step -/
def climbB (d : List Int) : List (Bool × List Int) → List Int
  | [] => d
  | (t, s) :: r => climbB (H (stB d t s)) r
theorem seqB_last : ∀ (l : List (Bool × List Int)) (x : List Int), H ((seqB H x l).getD l.length []) = climbB H (H x) l
  | [], _ => rfl
  | (t, s) :: r, x => by
    simp only [seqB, climbB, List.length_cons, List.getD_cons_succ]
    exact seqB_last r _
theorem seqB_succ : ∀ (l : List (Bool × List Int)) (x : List Int) (k : Nat) (h : k < l.length), (seqB H x l).getD (k + 1) [] = stB (H ((seqB H x l).getD k [])) (l[k]'h).1 (l[k]'h).2
  | (t, s) :: r, x, 0, _ => by
    simp only [seqB, List.getD_cons_succ, List.getD_cons_zero, List.getElem_cons_zero]
    exact seqB_zero H r _
  | (t, s) :: r, x, k + 1, h => by
    simp only [seqB, List.getD_cons_succ, List.getElem_cons_succ]
    exact seqB_succ r _ k (by simpa using h)
variable (hH : ∀ x, (H x).length = 32)
include hH
/-- where two ways up meet, what they come from has one digest -/
theorem seqB_meet (l m : List (Bool × List Int)) (x y : List Int) (k : Nat) (hl : k < l.length) (hm : k < m.length) (ht : (l[k]'hl).1 = (m[k]'hm).1) (h1 : (l[k]'hl).2.length = 32) (h2 : (m[k]'hm).2.length = 32)
    (h : (seqB H x l).getD (k + 1) [] = (seqB H y m).getD (k + 1) []) : H ((seqB H x l).getD k []) = H ((seqB H y m).getD k []) := by
  rw [seqB_succ H l x k hl, seqB_succ H m y k hm, ht] at h
  unfold stB at h
  split at h
  · exact (inB_inj h (by rw [hH, hH])).1
  · exact (inB_inj h (by rw [h1, h2])).2
/-- two old roots, one proof, one new root: on the way up there is a clash -/
theorem clash_up : ∀ (ds : List (List Int)) (x y : List Int), x.length = y.length → x ≠ y → ds.foldl (fun a d => H (inB a d)) x = ds.foldl (fun a d => H (inB a d)) y →
    ∃ i, i < ds.length ∧ inB ((ds.take i).foldl (fun a d => H (inB a d)) x) (ds.getD i []) ≠ inB ((ds.take i).foldl (fun a d => H (inB a d)) y) (ds.getD i []) ∧ H (inB ((ds.take i).foldl (fun a d => H (inB a d)) x) (ds.getD i [])) = H (inB ((ds.take i).foldl (fun a d => H (inB a d)) y) (ds.getD i [])) ∧ ∀ j, j < i → H (inB ((ds.take j).foldl (fun a d => H (inB a d)) x) (ds.getD j [])) ≠ H (inB ((ds.take j).foldl (fun a d => H (inB a d)) y) (ds.getD j []))
  | [], x, y, _, hne, h => absurd h hne
  | d :: r, x, y, hl, hne, h => by
    have hp : inB x d ≠ inB y d := fun q => hne (inB_inj q hl).1
    by_cases e : H (inB x d) = H (inB y d)
    · exact ⟨0, by simp, hp, e, fun j hj => absurd hj (Nat.not_lt_zero _)⟩
    · obtain ⟨i, h1, h2, h3, h4⟩ := clash_up r (H (inB x d)) (H (inB y d)) (by rw [hH, hH]) e h
      refine ⟨i + 1, by simpa using h1, h2, h3, fun j hj => ?_⟩
      cases j with
      | zero => exact e
      | succ j => exact h4 j (by omega)
end
end Go.Proofs.Bl

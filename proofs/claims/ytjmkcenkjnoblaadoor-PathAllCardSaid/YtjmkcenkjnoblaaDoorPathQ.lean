/- What a path hashes on its way up, by places. No program. -/
import Derived.Test.YtjmkcenkjnoblaaDoorPathC
import Derived.Test.YtjmkcenkjnoblaaDoorWTree1
namespace Go.Proofs.Bl
open Go
/-- a path's steps on the way up: whether the leaf stands left, and the digest beside -/
def zsP (T : List (Bool × Nat × Nat)) (p : List (List Int)) : List (Bool × List Int) := (T.reverse.zip p).map fun x => (x.1.1, x.2)
theorem zsP_len {T : List (Bool × Nat × Nat)} {p : List (List Int)} (h : p.length = T.length) : (zsP T p).length = T.length := by
  simp [zsP, h]
theorem zsP_get {T : List (Bool × Nat × Nat)} {p : List (List Int)} (h : p.length = T.length) (k : Nat) (hk : k < T.length) : (zsP T p)[k]'(by rw [zsP_len h]; exact hk) = ((T.reverse.getD k default).1, p.getD k []) := by
  simp only [zsP, List.getElem_map, List.getElem_zip]
  rw [List.getD_eq_getElem?_getD, List.getElem?_eq_getElem (by rw [List.length_reverse]; exact hk), List.getD_eq_getElem?_getD, List.getElem?_eq_getElem (by rw [h]; exact hk)]; rfl
/-- what a path hashes on its way up -/
def seqP (n i : Nat) (l : List Int) (p : List (List Int)) : List (List Int) := seqB sha (0 :: l) (zsP (turnsL n i) p)
theorem seqP_len {n i : Nat} {l : List Int} {p : List (List Int)} (h : p.length = (turnsL n i).length) : (seqP n i l p).length = (turnsL n i).length + 1 := by
  unfold seqP; rw [seqB_len, zsP_len h]
theorem seqP_zero (n i : Nat) (l : List Int) (p : List (List Int)) : (seqP n i l p).getD 0 [] = 0 :: l := seqB_zero sha _ _
theorem seqP_succ {n i : Nat} {l : List Int} {p : List (List Int)} (h : p.length = (turnsL n i).length) (k : Nat) (hk : k < (turnsL n i).length) :
    (seqP n i l p).getD (k + 1) [] = stB (sha ((seqP n i l p).getD k [])) ((turnsL n i).reverse.getD k default).1 (p.getD k []) := by
  unfold seqP
  rw [seqB_succ sha (zsP (turnsL n i) p) (0 :: l) k (by rw [zsP_len h]; exact hk), zsP_get h k hk]
theorem seqP_last {n i : Nat} {l : List Int} {p : List (List Int)} (h : p.length = (turnsL n i).length) : sha ((seqP n i l p).getD (turnsL n i).length []) = foldP ndD n i (lfD l) p := by
  have h1 := seqB_last sha (zsP (turnsL n i) p) (0 :: l)
  rw [zsP_len h] at h1
  unfold seqP
  rw [h1]
  unfold foldP zsP
  have key : ∀ (L : List ((Bool × Nat × Nat) × List Int)) (d : List Int), climbB sha d (L.map fun x => (x.1.1, x.2)) = climb ndD d L := by
    intro L
    induction L with
    | nil => intro d; rfl
    | cons a r ih =>
      intro d
      obtain ⟨t, s⟩ := a
      simp only [List.map_cons, climbB, climb]
      rw [ih]
      congr 1
      unfold stB upP
      by_cases ht : t.1 = true
      · rw [if_pos ht, if_pos ht]; rfl
      · rw [if_neg ht, if_neg ht]; rfl
  exact key _ _
theorem stB_len {d s : List Int} {t : Bool} (h1 : d.length = 32) (h2 : s.length = 32) : (stB d t s).length = 65 := by
  unfold stB inB; split <;> simp [h1, h2]
end Go.Proofs.Bl

/- What an honest shelf answers, plainly. No program. -/
import Derived.Test.YtglenbikdahgjaaDoorShP
import Derived.Test.YtglenbikdahgjaaDoorFld0
import Derived.Test.YtglenbikdahgjaaDoorShaR
namespace Go.Proofs.Bl
open Go Go.RowKit
/-- what is stored stays -/
theorem getO_putS {s : ShT} {l : LT} {n : Int} {st : List (List Int)} (h : getO s n = some st) : getO (putS s l) n = some st := by
  unfold putS
  cases hg : getO s l.obj with
  | some st' => exact h
  | none =>
    simp only
    by_cases h4 : 4 ≤ s.objs.length
    · rw [if_pos h4]; exact h
    · rw [if_neg h4, getO_app hg]
      have : n ≠ l.obj := fun q => by rw [q, hg] at h; cases h
      rw [if_neg this]; exact h
theorem getO_hanS {s : ShT} {l : LT} {n : Int} {st : List (List Int)} (h : getO s n = some st) : getO (hanS s l) n = some st := by
  unfold hanS
  split
  · exact getO_putS h
  · exact h
/-- the id and the object of an answer -/
theorem hanL_ids {s : ShT} {l : LT} (h : (hanL s l).2 = true) : (hanL s l).1.id = l.id ∧ (hanL s l).1.obj = l.obj := by
  unfold hanL at h ⊢
  split at h
  · next hc =>
    rw [if_pos hc]
    split at h
    · next h1 =>
      rw [if_pos h1]
      simp only [putL]
      repeat' split
      all_goals exact ⟨rfl, rfl⟩
    · next h1 =>
      rw [if_neg h1]
      split at h
      · next h3 =>
        rw [if_pos h3]
        simp only [askL]
        repeat' split
        all_goals exact ⟨rfl, rfl⟩
      · next h3 =>
        rw [if_neg h3]
        split at h
        · next h5 =>
          rw [if_pos h5]
          simp only [fetL]
          repeat' split
          all_goals exact ⟨rfl, rfl⟩
        · cases h
  · cases h
/-- what an honest answer is -/
structure Hon (bs : List (List Int)) (l a : LT) : Prop where
  kd : ¬ (a.kind = 4 ∧ (a.shown.length : Int) ≠ l.places.length)
  le : a.shown.length ≤ l.places.length
  sh : ∀ i, i < a.shown.length → (a.shown.getD i h0).1 = l.places.getD i 0 ∧ 0 ≤ (a.shown.getD i h0).1 ∧ (a.shown.getD i h0).1 < bs.length ∧ (a.shown.getD i h0).2.1 = bs.getD (a.shown.getD i h0).1.toNat [] ∧ (a.shown.getD i h0).2.2 = pathD bs (a.shown.getD i h0).1.toNat
  k4 : a.kind = 4 → a.blocks.length = 0
  k5 : ¬ a.kind = 4 → a.shown.length = 0
  bl : ∀ i, i < a.blocks.length → 0 ≤ a.frm ∧ a.frm + i < bs.length ∧ a.blocks.getD i [] = bs.getD (a.frm + i).toNat []
theorem Hon.bare {bs : List (List Int)} {l : LT} {k i o f c d : Int} (h : k ≠ 4) : Hon bs l ⟨k, i, o, [], [], f, c, [], d⟩ := ⟨fun q => h q.1, Nat.zero_le _, fun i hi => absurd hi (Nat.not_lt_zero i), fun _ => rfl, fun _ => rfl, fun i hi => absurd hi (Nat.not_lt_zero i)⟩
theorem ansS_at (bs : List (List Int)) (ps : List Int) (i : Nat) (h : i < ps.length) : (ansS bs ps).getD i h0 = (ps.getD i 0, bs.getD (ps.getD i 0).toNat [], pathD bs (ps.getD i 0).toNat) := by
  unfold ansS
  rw [List.getD_eq_getElem?_getD, List.getElem?_map, List.getD_eq_getElem?_getD, List.getElem?_eq_getElem h]; rfl
theorem hon_han {s : ShT} {l : LT} {bs : List (List Int)} (hg : getO s 0 = some bs) (hl : l.obj = 0) (h : (hanL s l).2 = true) : Hon bs l (hanL s l).1 := by
  unfold hanL at h ⊢
  split at h
  · next hc =>
    rw [if_pos hc]
    split at h
    · next h1 =>
      rw [if_pos h1]
      simp only [putL, hl, hg]
      split
      · exact Hon.bare (by decide)
      · exact Hon.bare (by decide)
    · next h1 =>
      rw [if_neg h1]
      split at h
      · next h3 =>
        rw [if_pos h3]
        obtain ⟨_, _, hp⟩ := ask_pl hc h3
        simp only [askL, hl, hg]
        split
        · next ha =>
          have hlen : (ansS bs l.places).length = l.places.length := by unfold ansS; rw [List.length_map]
          refine ⟨fun q => q.2 ?_, ?_, fun i hi => ?_, fun _ => rfl, fun q => absurd rfl q, fun i hi => absurd hi (Nat.not_lt_zero i)⟩
          · show ((ansS bs l.places).length : Int) = _; rw [hlen]
          · show (ansS bs l.places).length ≤ _; rw [hlen]; exact Nat.le_refl _
          · have hi' : i < l.places.length := by have : i < (ansS bs l.places).length := hi; omega
            have hm : l.places.getD i 0 ∈ l.places := by rw [List.getD_eq_getElem?_getD, List.getElem?_eq_getElem hi']; exact List.getElem_mem hi'
            have h1 := hp _ hm
            have h2 := ha _ hm
            have e : (ansL l bs).shown.getD i h0 = (l.places.getD i 0, bs.getD (l.places.getD i 0).toNat [], pathD bs (l.places.getD i 0).toNat) := ansS_at bs _ i hi'
            rw [e]
            exact ⟨rfl, h1.1, h2, rfl, rfl⟩
        · exact Hon.bare (by decide)
      · next h3 =>
        rw [if_neg h3]
        split at h
        · next h5 =>
          rw [if_pos h5]
          obtain ⟨hc1, hf1⟩ := fet_nm hc h5
          simp only [fetL, hl, hg]
          split
          · exact Hon.bare (by decide)
          · next hle =>
            split
            · refine ⟨fun q => by have := q.1; simp [givL] at this, Nat.zero_le _, fun i hi => absurd hi (Nat.not_lt_zero i), fun q => by simp [givL] at q, fun _ => rfl, fun i hi => ?_⟩
              have hi' : i < ((bs.drop l.frm.toNat).take l.cnt.toNat).length := hi
              rw [List.length_take, List.length_drop] at hi'
              refine ⟨hf1.1, ?_, ?_⟩
              · show l.frm + (i : Int) < _; omega
              · show ((bs.drop l.frm.toNat).take l.cnt.toNat).getD i [] = bs.getD (l.frm + (i : Int)).toNat []
                rw [List.getD_eq_getElem?_getD, List.getD_eq_getElem?_getD, List.getElem?_take, if_pos (by omega), List.getElem?_drop]
                rw [show (l.frm + (i : Int)).toNat = l.frm.toNat + i by omega]
            · exact Hon.bare (by decide)
        · cases h
  · cases h
/-- a path made holds -/
theorem chk_pathD (bs : List (List Int)) (p : Int) (h0' : 0 ≤ p) (hp : p < bs.length) (hn : bs.length ≤ 512) : chkP (rootD bs) bs.length p (bs.getD p.toNat []) (pathD bs p.toNat) = 0 := by
  obtain ⟨k, rfl⟩ := Int.eq_ofNat_of_zero_le h0'
  rw [Int.toNat_natCast]
  have hlt : k < bs.length := by omega
  refine chkP_ok (thereB_mk (by omega) (by omega) (by omega)) ?_ ?_
  · rw [pathD, pathL_len _ _ _ _ _ (Nat.le_refl _) (by rw [List.length_map]; omega), List.length_map]
  · have h := foldP_path ndD zD _ (bs.map lfD) k (Nat.le_refl _) (by rw [List.length_map]; omega) (by rw [List.length_map]; omega)
    rw [List.length_map, getD_map lfD bs k [] zD hlt] at h
    exact h
/-- the letter that puts -/
def putT (bs : List (List Int)) : LT := ⟨1, 0, 0, [], [], 0, 0, bs, 0⟩
theorem hanL_put (bs : List (List Int)) : hanL sh0 (putT bs) = if chkL (putT bs) = 0 then (ackL (putT bs), true) else (lt0, false) := by
  unfold hanL
  split
  · rw [if_pos (show (putT bs).kind = 1 from rfl)]; rfl
  · rfl
theorem getO_put0 (bs : List (List Int)) (h : chkL (putT bs) = 0) : getO (hanS sh0 (putT bs)) 0 = some bs := by
  unfold hanS
  rw [if_pos ⟨h, rfl⟩]; rfl
end Go.Proofs.Bl

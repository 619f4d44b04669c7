/- Walks of path.there, turns, Length, baileeref13.Length, baileelaw13.Digests, same. -/
import Derived.Test.YtjmkcenkjnoblaaDoorPla0
import Derived.Test.YtjmkcenkjnoblaaDoorWLeaves
import Derived.Test.YtjmkcenkjnoblaaDoorLib0
namespace Go.Proofs.Bl
open Go Go.RowKit
/-- the cells of steps -/
def cellsT (ts : List (Bool × Nat × Nat)) : List Value := ts.flatMap fun t => [.bool t.1, .int .i64 t.2.1, .int .i64 t.2.2]
theorem cellsT_append (a b : List (Bool × Nat × Nat)) : cellsT (a ++ b) = cellsT a ++ cellsT b := by simp [cellsT]
theorem cellsT_length : ∀ (ts : List (Bool × Nat × Nat)), (cellsT ts).length = ts.length * 3
  | [] => rfl
  | t :: r => by
    show ([Value.bool t.1, .int .i64 t.2.1, .int .i64 t.2.2] ++ cellsT r).length = _
    rw [List.length_append, cellsT_length r, List.length_cons]
    simp; omega
theorem cellsT_one (b : Bool) (n i : Nat) : cellsT [(b, n, i)] = [.bool b, .int .i64 n, .int .i64 i] := rfl
theorem cellsT_one' (ts : List (Bool × Nat × Nat)) : ∀ c ∈ cellsT ts, c.oneCell' = true := fun c hc => by
  obtain ⟨t, _, ht⟩ := List.mem_flatMap.1 hc
  simp only [List.mem_cons, List.not_mem_nil, or_false] at ht
  rcases ht with rfl | rfl | rfl <;> rfl
/-- one part in a slice literal -/
theorem rds_new1 (w : World) (e : TypeId) (cs : Array Value) : Rds (w.alloc (.cells cs e)) (.slice (some ⟨w.heap.size, 0, none⟩) 1 1) 1 cs.toList := by
  refine .inr ⟨w.heap.size, 0, 1, rfl, Nat.le_refl _, show 1 ≤ maxLen from by decide, fun j v hv => ?_⟩
  rw [Nat.zero_add, World.cell?_alloc_new]
  simpa using hv
end Go.Proofs.Bl
namespace Go.Proofs.YtjmkcenkjnoblaaDoor
open Go.RowKit Go.Proofs

theorem tTurn : Bl.SlT Tryd.prog 79 82 (.agg #[.bool false, .int .i64 0, .int .i64 0]) 3 24 := ⟨Tryd.underlying79, by kernel_rfl, rfl, by decide⟩

theorem there_any (n i : Int) (w : World) : Calls Tryd.prog 39 #[.int .i64 n, .int .i64 i] w fun e w' => e = .returned (.bool (Bl.thereB n i)) ∧ w = w' := by
  by_cases h1 : n ≤ 512
  · by_cases h2 : 0 ≤ i
    · by_cases h3 : i < n
      · have H := Bl.hid (Bl.thereB_mk h1 h2 h3)
        go_enter Tryd.func39, Tryd.ntmps39
        go_wp2
        go_ret
        exact ⟨by rw [H.out]; rfl, rfl⟩
      · have H := Bl.hid (Bl.thereB_no (n := n) (i := i) (by omega))
        go_enter Tryd.func39, Tryd.ntmps39
        go_wp2
        go_ret
        exact ⟨by rw [H.out]; rfl, rfl⟩
    · have H := Bl.hid (Bl.thereB_no (n := n) (i := i) (by omega))
      go_enter Tryd.func39, Tryd.ntmps39
      go_wp2
      go_ret
      exact ⟨by rw [H.out]; rfl, rfl⟩
  · have H := Bl.hid (Bl.thereB_no (n := n) (i := i) (by omega))
    go_enter Tryd.func39, Tryd.ntmps39
    go_wp2
    go_ret
    exact ⟨by rw [H.out]; rfl, rfl⟩

set_option maxRecDepth 100000 in
set_option maxHeartbeats 400000 in
theorem turns_any (n i : Nat) (w : World) (hn : n ≤ 512) (hi : i < n) :
    Calls Tryd.prog 40 #[.int .i64 n, .int .i64 i] w fun e w' => ∃ p c, e = .returned (.slice p (Bl.turnsL n i).length c) ∧ w'.ownsRow w.heap.size 82 3 (.slice p (Bl.turnsL n i).length c) (Bl.turnsL n i).length (Bl.cellsT (Bl.turnsL n i)) ∧ Bl.Ext w w' := by
  have hT := Bl.turnsL_len n n i (Nat.le_refl _) (by omega)
  obtain ⟨T, hTe⟩ : ∃ T, T = Bl.turnsL n i := ⟨_, rfl⟩
  rw [← hTe] at hT ⊢
  have HT := Bl.hid hTe
  have HTl : Hid (T.length ≤ 512) := Bl.hid (by omega)
  clear hTe hT
  go_enter Tryd.func40, Tryd.ntmps40
  go_wp2_with fail
  go_loopw [0, 1, 5] (fun n' i' o wr => ∃ (m j : Nat) (p : Option Addr) (k c : Nat) (acc : List (Bool × Nat × Nat)), m ≤ 512 ∧ j < m ∧ n' = .int .i64 m ∧ i' = .int .i64 j ∧ o = .slice p k c ∧ Hid (k = acc.length ∧ acc ++ Bl.turnsL m j = T ∧ wr.ownsRow w.heap.size 82 3 (.slice p k c) k (Bl.cellsT acc)) ∧ Bl.Ext w wr) (fun n' _ _ _ => (intOf n').toNat)
  case atStart => exact ⟨n, i, none, 0, 0, [], hn, hi, rfl, rfl, rfl, Bl.hid ⟨rfl, by rw [HT.out]; rfl, World.ownsRow_nil _ _ _ _⟩, Below.refl _ _⟩
  case round =>
    obtain ⟨m, j, p, k, c, acc, hm, hj, rfl, rfl, rfl, HA, hE⟩ := hrel
    have HE := Bl.hid hE
    clear hE
    by_cases h2 : 2 ≤ m
    · obtain ⟨s1, s2, s3⟩ := Bl.sp_bounds m h2 (by omega)
      have hk5 : k ≤ 512 := by
        have := HA.out.2.1
        have := congrArg List.length this
        rw [List.length_append] at this
        have := HTl.out
        have := HA.out.1
        omega
      have hm1 : (1 : Int) < (m : Int) := by omega
      go_wp2_with fail
      refine (split_any _ _ (by omega)).mono ?_
      rintro e w3 ⟨rfl, hw3⟩
      subst hw3
      rw [Int.toNat_natCast]
      have HL := Bl.hid (fun h => Bl.turnsL_left m j h2 (by omega) h)
      have HR := Bl.hid (fun h => Bl.turnsL_right m j h2 (by omega) h)
      obtain ⟨q, hq⟩ : ∃ q, q = Bl.sp m := ⟨_, rfl⟩
      rw [← hq] at s1 s2 s3 HL HR ⊢
      clear hq
      by_cases hjq : j < q
      · have HL1 := Bl.hid (HL.out hjq)
        have hjq' : (j : Int) < (q : Int) := by omega
        clear HL HR
        go_wp2_with (with_reducible refine Bl.stop_build ?_)
        refine Bl.go_on ?_
        refine Bl.wpL_build1 tTurn (by decide) rfl rfl ?_
        have Hown := Bl.hid (Bl.owns_ext HA.out.2.2 (Bl.ext_alloc wr (.cells #[.bool true, .int .i64 q, .int .i64 j] 82)))
        have Hnew := Bl.hid (Bl.rds_new1 wr 82 #[.bool true, .int .i64 q, .int .i64 j])
        have HE1 : Hid (Bl.Ext w (wr.alloc (.cells #[.bool true, .int .i64 q, .int .i64 j] 82))) := Bl.hid (HE.out.trans (Bl.ext_alloc _ _))
        go_wp2_with (with_reducible refine Bl.stop_append ?_)
        refine Bl.go_on ?_
        refine Bl.wpL_app tTurn Hown.out Hnew.out rfl rfl rfl (Bl.cellsT_one' [(true, q, j)]) (by unfold maxLen; omega) (by omega) HE1.out.size ?_
        intro q3 d3 w3 hown3 hg3 hB3 hK3 hn3 hc3
        have Hown3 : Hid (w3.ownsRow w.heap.size 82 3 (.slice q3 (k + 1) d3) (k + 1) (Bl.cellsT (acc ++ [(true, q, j)]))) := Bl.hid (by rw [Bl.cellsT_append]; exact hown3)
        have HE3 : Hid (Bl.Ext w w3) := Bl.hid (Below.trans HE1.out hB3)
        have HA3 : Hid (k + 1 = (acc ++ [(true, q, j)]).length ∧ (acc ++ [(true, q, j)]) ++ Bl.turnsL q j = T ∧ w3.ownsRow w.heap.size 82 3 (.slice q3 (k + 1) d3) (k + 1) (Bl.cellsT (acc ++ [(true, q, j)]))) :=
          Bl.hid ⟨by rw [List.length_append, HA.out.1]; rfl, by rw [List.append_assoc]; show acc ++ (true, q, j) :: Bl.turnsL q j = T; rw [← HL1.out]; exact HA.out.2.1, Hown3.out⟩
        clear hown3 hg3 hB3 hK3 Hown Hnew HE1 Hown3 HL1
        go_wp2_with fail
        go_roundw
        case rel => exact ⟨q, j, q3, k + 1, d3, _, by omega, hjq, rfl, rfl, rfl, HA3.out, HE3.out⟩
        case measure => simp [intOf]; omega
      · have HR1 := Bl.hid (HR.out hjq)
        have hjq' : ¬ ((j : Int) < (q : Int)) := by omega
        have e1 : (m : Int) - (q : Int) = ((m - q : Nat) : Int) := by omega
        have e2 : (j : Int) - (q : Int) = ((j - q : Nat) : Int) := by omega
        obtain ⟨m2, hm2⟩ : ∃ m2, m2 = m - q := ⟨_, rfl⟩
        obtain ⟨j2, hj2⟩ : ∃ j2, j2 = j - q := ⟨_, rfl⟩
        rw [← hm2] at e1 HR1
        rw [← hj2] at e2 HR1
        have b1 : m2 ≤ 512 := by omega
        have b2 : j2 < m2 := by omega
        have b3 : m2 < m := by omega
        clear HL HR hm2 hj2
        go_wp2_with (with_reducible refine Bl.stop_build ?_)
        refine Bl.go_on ?_
        refine Bl.wpL_build1 tTurn (by decide) rfl rfl ?_
        have Hown := Bl.hid (Bl.owns_ext HA.out.2.2 (Bl.ext_alloc wr (.cells #[.bool false, .int .i64 m2, .int .i64 j2] 82)))
        have Hnew := Bl.hid (Bl.rds_new1 wr 82 #[.bool false, .int .i64 m2, .int .i64 j2])
        have HE1 : Hid (Bl.Ext w (wr.alloc (.cells #[.bool false, .int .i64 m2, .int .i64 j2] 82))) := Bl.hid (HE.out.trans (Bl.ext_alloc _ _))
        go_wp2_with (with_reducible refine Bl.stop_append ?_)
        refine Bl.go_on ?_
        refine Bl.wpL_app tTurn Hown.out Hnew.out rfl rfl rfl (Bl.cellsT_one' [(false, m2, j2)]) (by unfold maxLen; omega) (by omega) HE1.out.size ?_
        intro q3 d3 w3 hown3 hg3 hB3 hK3 hn3 hc3
        have HE3 : Hid (Bl.Ext w w3) := Bl.hid (Below.trans HE1.out hB3)
        have HA3 : Hid (k + 1 = (acc ++ [(false, m2, j2)]).length ∧ (acc ++ [(false, m2, j2)]) ++ Bl.turnsL m2 j2 = T ∧ w3.ownsRow w.heap.size 82 3 (.slice q3 (k + 1) d3) (k + 1) (Bl.cellsT (acc ++ [(false, m2, j2)]))) :=
          Bl.hid ⟨by rw [List.length_append, HA.out.1]; rfl, by rw [List.append_assoc]; show acc ++ (false, m2, j2) :: Bl.turnsL m2 j2 = T; rw [← HR1.out]; exact HA.out.2.1, by rw [Bl.cellsT_append]; exact hown3⟩
        clear hown3 hg3 hB3 hK3 Hown Hnew HE1 HR1 e1 e2
        go_wp2_with fail
        go_roundw
        case rel => exact ⟨m2, j2, q3, k + 1, d3, _, by omega, by omega, rfl, rfl, rfl, HA3.out, HE3.out⟩
        case measure => simp [intOf]; omega
    · have hT : acc = T := by
        have := HA.out.2.1
        rw [Bl.turnsL_lo m j (by omega), List.append_nil] at this
        exact this
      have hk := HA.out.1
      have ho := HA.out.2.2
      rw [hT] at hk ho
      have Ho := Bl.hid ho
      have Hk : Hid (T.length = k) := Bl.hid hk.symm
      have hm1 : ¬ ((1 : Int) < (m : Int)) := by omega
      clear hT ho hk
      go_wp2_with fail
      go_ret
      exact ⟨p, c, by rw [Hk.out]; rfl, by rw [Hk.out]; exact Ho.out, HE.out⟩
end Go.Proofs.YtjmkcenkjnoblaaDoor

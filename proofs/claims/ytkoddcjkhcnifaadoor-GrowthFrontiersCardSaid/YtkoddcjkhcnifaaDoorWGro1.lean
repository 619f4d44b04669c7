/- Walks of growth.New, Of, Size, Peaks, counted. -/
import Derived.Test.YtkoddcjkhcnifaaDoorWPop
import Derived.Test.YtkoddcjkhcnifaaDoorFro
import Derived.Test.YtkoddcjkhcnifaaDoorWOver
import Derived.Test.YtkoddcjkhcnifaaDoorZs
import Derived.Test.YtkoddcjkhcnifaaDoorErrs
import Derived.Test.YtkoddcjkhcnifaaDoorGroQ
import Derived.BigQuiet
namespace Go.Proofs.Bl
open Go Go.RowKit
theorem Fr.new (w : World) (e : TypeId) : Fr (w.alloc (.cells #[.int .i64 0, .slice none 0 0] e)) w.heap.size (.slice none 0 0) 0 [] :=
  ⟨by rw [World.cell?_alloc_new]; rfl, by rw [World.cell?_alloc_new]; rfl, by simp, by simp, Pk.nil _ _ _, Dig.nil, fun h => by cases h⟩
/-- a frontier of a row that its maker owns -/
theorem Fr.of {w : World} {v : Value} {n : Nat} {ds : List (List Int)} (e : TypeId) (h : Pk w 0 32 v ds.length (cellsD ds)) (hd : Dig ds) : Fr (w.alloc (.cells #[.int .i64 n, v] e)) w.heap.size v n ds :=
  ⟨by rw [World.cell?_alloc_new]; rfl, by rw [World.cell?_alloc_new]; rfl, by simp, by simp, h.ext (ext_alloc _ _), hd, fun q => by have := (h.block _ q).2; omega⟩
end Go.Proofs.Bl
namespace Go.Proofs.YtkoddcjkhcnifaaDoor
open Go.RowKit Go.Proofs

theorem gnew_any (w : World) : Calls Tryd.prog 11 #[] w fun e w' => e = .returned (.pointer (some ⟨w.heap.size, 0, none⟩)) ∧ Bl.Fr w' w.heap.size (.slice none 0 0) 0 [] ∧ Bl.Ext w w' := by
  go_enter Tryd.func11, Tryd.ntmps11
  go_wp2_with fail
  go_ret
  exact ⟨rfl, Bl.Fr.new _ _, Bl.ext_alloc _ _⟩

theorem gsize_any (b : Nat) (v : Value) (n : Nat) (ds : List (List Int)) (w : World) (h : Bl.Fr w b v n ds) : Calls Tryd.prog 16 #[.pointer (some ⟨b, 0, none⟩)] w fun e w' => e = .returned (.int .i64 n) ∧ w = w' := by
  have hc0 := h.c0
  clear h
  go_enter Tryd.func16, Tryd.ntmps16
  go_wp2_with fail
  go_ret
  exact ⟨rfl, rfl⟩

theorem gpeaks_any (b : Nat) (v : Value) (n : Nat) (ds : List (List Int)) (w : World) (h : Bl.Fr w b v n ds) (hl : ds.length ≤ 1048576) : Calls Tryd.prog 13 #[.pointer (some ⟨b, 0, none⟩)] w fun e w' => ∃ v', e = .returned v' ∧ w'.ownsRow w.heap.size 41 32 v' ds.length (Bl.cellsD ds) ∧ Bl.Ext w w' := by
  have hc1 := h.c1
  have HC := Bl.hid (cloneD_any v ds w h.pk.rds h.dig hl)
  clear h
  go_enter Tryd.func13, Tryd.ntmps13
  go_wp2_with fail
  refine HC.out.mono ?_
  rintro e w1 ⟨v', rfl, hown, hE⟩
  have Hown := Bl.hid hown
  have HE := Bl.hid hE
  clear hown hE
  go_wp2_with fail
  go_ret
  exact ⟨_, rfl, Hown.out, HE.out⟩

theorem counted_any (m n : Int) (w : World) : Calls Tryd.prog 46 #[.int .i64 m, .int .i64 n] w fun e w' => e = .returned (.bool (Bl.thereG m n)) ∧ w = w' := by
  by_cases h1 : 1 ≤ m
  · by_cases h2 : m ≤ n
    · by_cases h3 : n ≤ 512
      · have H := Bl.hid (Bl.thereG_mk h1 h2 h3)
        go_enter Tryd.func46, Tryd.ntmps46
        go_wp2
        go_ret
        exact ⟨by rw [H.out]; rfl, rfl⟩
      · have H := Bl.hid (Bl.thereG_no (m := m) (n := n) (by omega))
        go_enter Tryd.func46, Tryd.ntmps46
        go_wp2
        go_ret
        exact ⟨by rw [H.out]; rfl, rfl⟩
    · have H := Bl.hid (Bl.thereG_no (m := m) (n := n) (by omega))
      go_enter Tryd.func46, Tryd.ntmps46
      go_wp2
      go_ret
      exact ⟨by rw [H.out]; rfl, rfl⟩
  · have H := Bl.hid (Bl.thereG_no (m := m) (n := n) (by omega))
    go_enter Tryd.func46, Tryd.ntmps46
    go_wp2
    go_ret
    exact ⟨by rw [H.out]; rfl, rfl⟩

/-- growth.Of of a number that may be, and as many peaks as it has ones -/
theorem gof_ok (n : Nat) (v : Value) (ds : List (List Int)) (w : World) (hR : Bl.RdD w v ds) (hd : Bl.Dig ds) (hn : n ≤ 1099511627776) (hl : ds.length = Bl.ones n) :
    Calls Tryd.prog 12 #[.int .i64 n, v] w fun e w' => ∃ b v', e = .returned (.tuple #[.pointer (some ⟨b, 0, none⟩), .nilIface]) ∧ w.heap.size ≤ b ∧ (∀ k, v'.ownBlock = some k → w.heap.size ≤ k) ∧ Bl.Fr w' b v' n ds ∧ Bl.Ext w w' := by
  have ho := Bl.ones_lt 41 n (by omega)
  have HO := Bl.hid (fun w => ones_any n w (by omega))
  have HC := Bl.hid (cloneD_any v ds w hR hd (by omega))
  obtain ⟨p, c, hvf, _, _⟩ := hR.form
  subst hvf
  have Hd := Bl.hid hd
  obtain ⟨m, hm⟩ : ∃ m, m = ds.length := ⟨_, rfl⟩
  rw [← hm] at hl HC ⊢
  rw [← hl] at HO
  have Hm := Bl.hid hm
  have hn0 : ¬ ((n : Int) < 0) := by omega
  have hn1 : ¬ ((1099511627776 : Int) < (n : Int)) := by omega
  have hw := IntWalk.wrap64_in (n : Int) ⟨by omega, by omega⟩
  have hu : IntKind.u64.wrap (n : Int) = (n : Int) := Bl.wraps63 _ (by omega) (by omega)
  clear hR hd hm hl ho
  go_enter Tryd.func12, Tryd.ntmps12
  go_wp2_with fail
  refine (HO.out _).mono ?_
  rintro e w1 ⟨rfl, hw1⟩
  subst hw1
  go_wp2_with fail
  refine HC.out.mono ?_
  rintro e w1 ⟨v', rfl, hown, hE⟩
  obtain ⟨p', c', hv', _, _⟩ := (Bl.Rds.of_owns hown).form
  subst hv'
  have Hown := Bl.hid hown
  have HE := Bl.hid hE
  clear hown hE
  go_wp2_with fail
  go_ret2
  refine ⟨_, _, rfl, HE.out.size, fun k hk => (Hown.out.lt k hk).1, ?_, HE.out.trans (Bl.ext_alloc _ _)⟩
  have h := Hown.out
  have hm := Hm.out
  subst hm
  exact Bl.Fr.of _ ((Bl.Pk.of_owns h).mono (Nat.zero_le _)) Hd.out

/-- .. of a number that may not be -/
theorem gof_range (n : Int) (v : Value) (w : World) (S : List Nat) (a : Nat → Addr) (he : Errs S a w) (h1 : 1 ∈ S) (h : n < 0 ∨ 1099511627776 < n) :
    Calls Tryd.prog 12 #[.int .i64 n, v] w fun e w' => e = .returned (.tuple #[.pointer none, .iface 137 (.pointer (some (a 1)))]) ∧ Bl.Ext w w' := by
  have hF : w.cell? ⟨0, 0, none⟩ = some (.iface 137 (.pointer (some (a 1)))) := he.cell 1 h1
  clear he
  rcases h with h | h
  · go_enter Tryd.func12, Tryd.ntmps12
    go_wp2_with fail
    go_quiet (fail)
    go_wp2_with fail
    go_ret2
    exact ⟨rfl, (Below.refl _ _).drewN _⟩
  · have h0 : ¬ n < 0 := by omega
    go_enter Tryd.func12, Tryd.ntmps12
    go_wp2_with fail
    go_quiet (fail)
    go_wp2_with fail
    go_ret2
    exact ⟨rfl, (Below.refl _ _).drewN _⟩

/-- .. of as many peaks as there can't be -/
theorem gof_size (n : Nat) (v : Value) (ds : List (List Int)) (w : World) (S : List Nat) (a : Nat → Addr) (hR : Bl.RdD w v ds) (he : Errs S a w) (h8 : 8 ∈ S) (hn : n ≤ 1099511627776) (hl : ¬ ds.length = Bl.ones n) :
    Calls Tryd.prog 12 #[.int .i64 n, v] w fun e w' => e = .returned (.tuple #[.pointer none, .iface 137 (.pointer (some (a 8)))]) ∧ Bl.Ext w w' := by
  have hF : w.cell? ⟨1, 0, none⟩ = some (.iface 137 (.pointer (some (a 8)))) := he.cell 8 h8
  have HO := Bl.hid (fun w => ones_any n w (by omega))
  obtain ⟨p, c, hvf, _, _⟩ := hR.form
  subst hvf
  obtain ⟨m, hm⟩ : ∃ m, m = ds.length := ⟨_, rfl⟩
  obtain ⟨k, hk⟩ : ∃ k, k = Bl.ones n := ⟨_, rfl⟩
  rw [← hm, ← hk] at hl
  rw [← hm]
  rw [← hk] at HO
  have hn0 : ¬ ((n : Int) < 0) := by omega
  have hn1 : ¬ ((1099511627776 : Int) < (n : Int)) := by omega
  have hu : IntKind.u64.wrap (n : Int) = (n : Int) := Bl.wraps63 _ (by omega) (by omega)
  have hne : ((k : Int) == (m : Int)) = false := by rw [beq_eq_false_iff_ne]; omega
  clear hR hm hk hl he
  go_enter Tryd.func12, Tryd.ntmps12
  go_wp2_with fail
  refine (HO.out _).mono ?_
  rintro e w1 ⟨rfl, hw1⟩
  subst hw1
  go_wp2_with fail
  go_quiet (fail)
  go_wp2_with fail
  go_ret2
  exact ⟨rfl, (Below.refl _ _).drewN _⟩
end Go.Proofs.YtkoddcjkhcnifaaDoor

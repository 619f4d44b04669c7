/- Texts that stood apart, in one: WNum, WNumN. -/
import Derived.Test.YtmfooocdnoflaaaDoorBA1
import Derived.Test.YtmfooocdnoflaaaDoorBA2
/- Walk of baileenum.Num. -/
namespace Go.Proofs.YtmfooocdnoflaaaDoor
open Go.RowKit Go.Proofs

theorem num_nil (w : World) : Calls Tryd.prog 12 #[.nilIface] w fun e w' => e = .returned (.int .i64 0) ∧ w' = w := by
  go_enter Tryd.func12, Tryd.ntmps12
  go_wp2
  go_ret
  exact ⟨rfl, rfl⟩

set_option maxRecDepth 100000 in
set_option maxHeartbeats 1000000 in
theorem num_any (S : List Nat) (a : Nat → Addr) (w : World) (m : Nat) (hS : ∀ i, 1 ≤ i → i ≤ 20 → i ∈ S) (he : Errs S a w) (h1 : 1 ≤ m) (h2 : m ≤ 20) :
    Calls Tryd.prog 12 #[.iface 161 (.pointer (some (a m)))] w fun e w' => e = .returned (.int .i64 m) ∧ Bl.Ext w w' := by
  have c1 : w.cell? ⟨0, 0, none⟩ = some (.iface 161 (.pointer (some (a 1)))) := he.cell 1 (hS 1 (by decide) (by decide))
  have c2 : w.cell? ⟨1, 0, none⟩ = some (.iface 161 (.pointer (some (a 2)))) := he.cell 2 (hS 2 (by decide) (by decide))
  have c3 : w.cell? ⟨2, 0, none⟩ = some (.iface 161 (.pointer (some (a 3)))) := he.cell 3 (hS 3 (by decide) (by decide))
  have c4 : w.cell? ⟨3, 0, none⟩ = some (.iface 161 (.pointer (some (a 4)))) := he.cell 4 (hS 4 (by decide) (by decide))
  have c5 : w.cell? ⟨4, 0, none⟩ = some (.iface 161 (.pointer (some (a 5)))) := he.cell 5 (hS 5 (by decide) (by decide))
  have c6 : w.cell? ⟨5, 0, none⟩ = some (.iface 161 (.pointer (some (a 6)))) := he.cell 6 (hS 6 (by decide) (by decide))
  have c7 : w.cell? ⟨6, 0, none⟩ = some (.iface 161 (.pointer (some (a 7)))) := he.cell 7 (hS 7 (by decide) (by decide))
  have c8 : w.cell? ⟨7, 0, none⟩ = some (.iface 161 (.pointer (some (a 8)))) := he.cell 8 (hS 8 (by decide) (by decide))
  have c9 : w.cell? ⟨8, 0, none⟩ = some (.iface 161 (.pointer (some (a 9)))) := he.cell 9 (hS 9 (by decide) (by decide))
  have c10 : w.cell? ⟨9, 0, none⟩ = some (.iface 161 (.pointer (some (a 10)))) := he.cell 10 (hS 10 (by decide) (by decide))
  have c11 : w.cell? ⟨10, 0, none⟩ = some (.iface 161 (.pointer (some (a 11)))) := he.cell 11 (hS 11 (by decide) (by decide))
  have c12 : w.cell? ⟨11, 0, none⟩ = some (.iface 161 (.pointer (some (a 12)))) := he.cell 12 (hS 12 (by decide) (by decide))
  have c13 : w.cell? ⟨12, 0, none⟩ = some (.iface 161 (.pointer (some (a 13)))) := he.cell 13 (hS 13 (by decide) (by decide))
  have c14 : w.cell? ⟨13, 0, none⟩ = some (.iface 161 (.pointer (some (a 14)))) := he.cell 14 (hS 14 (by decide) (by decide))
  have c15 : w.cell? ⟨14, 0, none⟩ = some (.iface 161 (.pointer (some (a 15)))) := he.cell 15 (hS 15 (by decide) (by decide))
  have c16 : w.cell? ⟨15, 0, none⟩ = some (.iface 161 (.pointer (some (a 16)))) := he.cell 16 (hS 16 (by decide) (by decide))
  have c17 : w.cell? ⟨16, 0, none⟩ = some (.iface 161 (.pointer (some (a 17)))) := he.cell 17 (hS 17 (by decide) (by decide))
  have c18 : w.cell? ⟨17, 0, none⟩ = some (.iface 161 (.pointer (some (a 18)))) := he.cell 18 (hS 18 (by decide) (by decide))
  have c19 : w.cell? ⟨18, 0, none⟩ = some (.iface 161 (.pointer (some (a 19)))) := he.cell 19 (hS 19 (by decide) (by decide))
  have c20 : w.cell? ⟨19, 0, none⟩ = some (.iface 161 (.pointer (some (a 20)))) := he.cell 20 (hS 20 (by decide) (by decide))
  have HS := Bl.hid hS
  have He := Bl.hid he
  clear hS he
  have HL : Hid (∀ k, k < 20 → (w.alloc (.cells #[.iface 161 (.pointer (some (a 1))), .iface 161 (.pointer (some (a 2))), .iface 161 (.pointer (some (a 3))), .iface 161 (.pointer (some (a 4))), .iface 161 (.pointer (some (a 5))), .iface 161 (.pointer (some (a 6))), .iface 161 (.pointer (some (a 7))), .iface 161 (.pointer (some (a 8))), .iface 161 (.pointer (some (a 9))), .iface 161 (.pointer (some (a 10))), .iface 161 (.pointer (some (a 11))), .iface 161 (.pointer (some (a 12))), .iface 161 (.pointer (some (a 13))), .iface 161 (.pointer (some (a 14))), .iface 161 (.pointer (some (a 15))), .iface 161 (.pointer (some (a 16))), .iface 161 (.pointer (some (a 17))), .iface 161 (.pointer (some (a 18))), .iface 161 (.pointer (some (a 19))), .iface 161 (.pointer (some (a 20)))] 37)).cell? ⟨w.heap.size, k, none⟩ = some (.iface 161 (.pointer (some (a (k + 1)))))) := Bl.hid fun k hk => by
    rw [World.cell?_alloc_new]
    have h : k = 0 ∨ k = 1 ∨ k = 2 ∨ k = 3 ∨ k = 4 ∨ k = 5 ∨ k = 6 ∨ k = 7 ∨ k = 8 ∨ k = 9 ∨ k = 10 ∨ k = 11 ∨ k = 12 ∨ k = 13 ∨ k = 14 ∨ k = 15 ∨ k = 16 ∨ k = 17 ∨ k = 18 ∨ k = 19 := by omega
    rcases h with rfl | rfl | rfl | rfl | rfl | rfl | rfl | rfl | rfl | rfl | rfl | rfl | rfl | rfl | rfl | rfl | rfl | rfl | rfl | rfl <;> rfl
  have HE : Hid (Bl.Ext w (w.alloc (.cells #[.iface 161 (.pointer (some (a 1))), .iface 161 (.pointer (some (a 2))), .iface 161 (.pointer (some (a 3))), .iface 161 (.pointer (some (a 4))), .iface 161 (.pointer (some (a 5))), .iface 161 (.pointer (some (a 6))), .iface 161 (.pointer (some (a 7))), .iface 161 (.pointer (some (a 8))), .iface 161 (.pointer (some (a 9))), .iface 161 (.pointer (some (a 10))), .iface 161 (.pointer (some (a 11))), .iface 161 (.pointer (some (a 12))), .iface 161 (.pointer (some (a 13))), .iface 161 (.pointer (some (a 14))), .iface 161 (.pointer (some (a 15))), .iface 161 (.pointer (some (a 16))), .iface 161 (.pointer (some (a 17))), .iface 161 (.pointer (some (a 18))), .iface 161 (.pointer (some (a 19))), .iface 161 (.pointer (some (a 20)))] 37))) := Bl.hid (Bl.ext_alloc _ _)
  go_enter Tryd.func12, Tryd.ntmps12
  go_wp2_with fail
  obtain ⟨W, hW⟩ : ∃ W, W = w.alloc (.cells #[.iface 161 (.pointer (some (a 1))), .iface 161 (.pointer (some (a 2))), .iface 161 (.pointer (some (a 3))), .iface 161 (.pointer (some (a 4))), .iface 161 (.pointer (some (a 5))), .iface 161 (.pointer (some (a 6))), .iface 161 (.pointer (some (a 7))), .iface 161 (.pointer (some (a 8))), .iface 161 (.pointer (some (a 9))), .iface 161 (.pointer (some (a 10))), .iface 161 (.pointer (some (a 11))), .iface 161 (.pointer (some (a 12))), .iface 161 (.pointer (some (a 13))), .iface 161 (.pointer (some (a 14))), .iface 161 (.pointer (some (a 15))), .iface 161 (.pointer (some (a 16))), .iface 161 (.pointer (some (a 17))), .iface 161 (.pointer (some (a 18))), .iface 161 (.pointer (some (a 19))), .iface 161 (.pointer (some (a 20)))] 37) := ⟨_, rfl⟩
  rw [← hW] at HL HE ⊢
  clear hW c1 c2 c3 c4 c5 c6 c7 c8 c9 c10 c11 c12 c13 c14 c15 c16 c17 c18 c19 c20
  go_loop [31] (fun i => ∃ k : Nat, k < m ∧ i = .int .i64 k) (fun i => 20 - (intOf i).toNat)
  case atStart => exact ⟨0, by omega, rfl⟩
  case round =>
    obtain ⟨k, hk, rfl⟩ := hrel
    have hc := HL.out k (by omega)
    have hk20 : (k : Int) < 20 := by omega
    by_cases hkm : k + 1 = m
    · rw [hkm] at hc
      go_wp2_with fail
      refine (is_same (a m) _).mono ?_
      rintro e w' ⟨rfl, hw'⟩
      subst hw'
      go_wp2_with fail
      go_ret
      exact ⟨by rw [← hkm]; rfl, HE.out⟩
    · obtain ⟨ca, ta, hra⟩ := (He.out.ext HE.out).row m (HS.out m h1 h2)
      obtain ⟨cb, tb, hrb⟩ := (He.out.ext HE.out).row (k + 1) (HS.out _ (by omega) (by omega))
      have Hio := Bl.hid (is_other (a m) (a (k + 1)) ca cb ta tb _ (He.out.ne m (HS.out m h1 h2) (k + 1) (HS.out _ (by omega) (by omega)) (fun q => hkm q.symm)) hra hrb)
      clear hra hrb
      go_wp2_with fail
      refine Hio.out.mono ?_
      rintro e w' ⟨rfl, hw'⟩
      subst hw'
      go_wp2_with fail
      go_round
      case rel => exact ⟨k + 1, by omega, by go_num⟩
      case measure => simp [intOf]; omega
end Go.Proofs.YtmfooocdnoflaaaDoor

/- baileenum.Num of nil or a sentinel. -/
namespace Go.Proofs.YtmfooocdnoflaaaDoor
open Go.RowKit Go.Proofs
theorem num_errN (S : List Nat) (a : Nat → Addr) (w : World) (m : Nat) (hS : ∀ i, 1 ≤ i → i ≤ 20 → i ∈ S) (he : Errs S a w) (h2 : m ≤ 20) :
    Calls Tryd.prog 12 #[errN a m] w fun e w' => e = .returned (.int .i64 m) ∧ Bl.Ext w w' := by
  by_cases h : m = 0
  · subst h
    exact (num_nil w).mono fun _ _ ⟨h1, h2⟩ => ⟨h1, by rw [h2]; exact Below.refl _ _⟩
  · rw [errN_pos a m h]
    exact num_any S a w m hS he (by omega) h2
end Go.Proofs.YtmfooocdnoflaaaDoor

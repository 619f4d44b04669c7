/- Walks of tree.Split, baileeref12.Split. -/
import Derived.WalkKit
import Derived.WalkLawsBesides
import Derived.WalkSpells
import Derived.Test.YtmfooocdnoflaaaDoorProg
import Derived.Test.YtmfooocdnoflaaaDoorShelf
import Derived.Test.YtmfooocdnoflaaaDoorPla0
namespace Go.Proofs.YtmfooocdnoflaaaDoor
open Go.RowKit Go.Proofs

theorem hid {p : Prop} (h : p) : Hid p := h
theorem ret_i {a b : Int} (h : a = b) : Ending.returned (.int .i64 a) = .returned (.int .i64 b) := by rw [h]

theorem split_lo (n : Int) (w : World) (h : n < 2) :
    Calls Tryd.prog 57 #[.int .i64 n] w fun e w' => e = .returned (.int .i64 0) ∧ w = w' := by
  go_enter Tryd.func57, Tryd.ntmps57
  go_wp2
  go_ret
  exact ⟨rfl, rfl⟩

theorem split_hi (n : Int) (b : Nat) (w : World) (h : 2 ≤ n) (h2 : n ≤ 9223372036854775807) (hb : Hid (Lib.bitLen (n-1).toNat = b)) (hb1 : 1 ≤ b) (hb2 : b ≤ 63) :
    Calls Tryd.prog 57 #[.int .i64 n] w fun e w' => e = .returned (.int .i64 (wrap64 (2 ^ (b - 1)))) ∧ w = w' := by
  have Hc : ∀ w, Calls Tryd.prog 73 #[.int .u64 (n-1)] w fun e w' => e = .returned (.int .i64 (b:Int)) ∧ w = w' := fun w => (Tryd.bits_Len _ w (by omega) (by omega)).mono fun e w' ⟨h1, h2⟩ => ⟨by rw [h1, hb.out], h2.symm⟩
  clear hb
  go_enter Tryd.func57, Tryd.ntmps57
  go_wp2_with (go_at_call 73; refine (Hc _).mono ?_; rintro e w' ⟨rfl, rfl⟩)
  go_ret
  exact ⟨rfl, rfl⟩

theorem wrap_pow (b : Nat) (h : b ≤ 62) : wrap64 (2 ^ b) = 2 ^ b := by
  have := Bl.pow_le_of b 62 h
  refine IntWalk.wrap64_in _ ⟨?_, ?_⟩
  · have : (0 : Int) ≤ 2 ^ b := Int.pow_nonneg (by decide)
    omega
  · have h2 : ((2 ^ b : Nat) : Int) = (2 : Int) ^ b := by simp
    omega

/-- tree.Split returns sp n; the world is as it was. -/
theorem split_any (n : Int) (w : World) (h2 : n ≤ 9223372036854775807) :
    Calls Tryd.prog 57 #[.int .i64 n] w fun e w' => e = .returned (.int .i64 (Bl.sp n.toNat)) ∧ w = w' := by
  by_cases h : n < 2
  · refine (split_lo n w h).mono fun e w' ⟨he, hw⟩ => ⟨?_, hw⟩
    rw [he, Bl.sp_lo _ (by omega)]; rfl
  · have e1 : (n - 1).toNat = n.toNat - 1 := by omega
    obtain ⟨a, b, c⟩ := Bl.bitLen_bounds (n.toNat - 1) (by omega) (by omega)
    have d := Bl.bitLen_lim n.toNat (by omega) (by omega)
    refine (split_hi n _ w (by omega) h2 rfl (by rw [e1]; exact a) (by rw [e1]; exact d)).mono fun e w' ⟨he, hw⟩ => ⟨?_, hw⟩
    rw [he, e1, wrap_pow _ (by omega)]
    unfold Bl.sp
    rw [if_neg (by omega)]
    simp

/-- baileeref12.Split returns sp n, of two leaves or more; the world is as it was. -/
theorem refsplit_any (n : Int) (w : World) (h : 2 ≤ n) (h2 : n ≤ 9223372036854775807) :
    Calls Tryd.prog 62 #[.int .i64 n] w fun e w' => e = .returned (.int .i64 (Bl.sp n.toNat)) ∧ w = w' := by
  go_enter Tryd.func62, Tryd.ntmps62
  go_wp2
  go_loop [3] (fun k => ∃ q j : Nat, k = .int .i64 q ∧ q < n ∧ 1 ≤ q ∧ Hid (q = 2 ^ j)) (fun k => (n - intOf k).toNat)
  case atStart => exact ⟨1, 0, rfl, by omega, by omega, rfl⟩
  case round =>
    obtain ⟨q, j, rfl, hq, hq1, hj⟩ := hrel
    by_cases hlt : (q : Int) < n - q
    · go_wp2
      go_round
      case rel => exact ⟨q * 2, j + 1, by go_num, by omega, by omega, by rw [hj.out]; exact (Nat.pow_succ 2 j).symm⟩
      case measure => simp [intOf]; omega
    · go_wp2
      go_ret
      refine ⟨ret_i ?_, rfl⟩
      have hj' := hj.out
      show (q : Int) = _
      rw [Bl.sp_of_pow n.toNat j (by omega) (by omega) (by omega), hj']
end Go.Proofs.YtmfooocdnoflaaaDoor

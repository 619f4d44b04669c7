/- Walks of bits.RotateLeft32, sha.turned, sha.mixed, baileeref07.turn. -/
import Derived.WalkKit
import Derived.WalkLawsBesides
import Derived.WalkSpells
import Derived.Deep.QuietTactic
import Derived.BigQuiet
import Derived.Deep.RegionWith
import Derived.Test.YtdodgcapihfkkaaDoorProg
import Derived.Test.YtdodgcapihfkkaaDoorShaPlain
namespace Go.Proofs.YtdodgcapihfkkaaDoor
open Go.RowKit Go.Proofs

theorem rot_2 (x : Int) (w : World) : Calls Tryd.prog 156 #[.int .u32 x, .int .i64 (-2)] w fun e w' => e = .returned (.int .u32 (Bl.ror 2 x)) ∧ w' = w := by
  have e26 : bits BinOp.and IntKind.u64 (IntKind.u64.wrap (-2)) 31 = 30 := by decide +kernel
  go_enter Tryd.func156, Tryd.ntmps156
  go_wp2
  go_ret
  exact ⟨rfl, rfl⟩

theorem rot_6 (x : Int) (w : World) : Calls Tryd.prog 156 #[.int .u32 x, .int .i64 (-6)] w fun e w' => e = .returned (.int .u32 (Bl.ror 6 x)) ∧ w' = w := by
  have e26 : bits BinOp.and IntKind.u64 (IntKind.u64.wrap (-6)) 31 = 26 := by decide +kernel
  go_enter Tryd.func156, Tryd.ntmps156
  go_wp2
  go_ret
  exact ⟨rfl, rfl⟩

theorem rot_7 (x : Int) (w : World) : Calls Tryd.prog 156 #[.int .u32 x, .int .i64 (-7)] w fun e w' => e = .returned (.int .u32 (Bl.ror 7 x)) ∧ w' = w := by
  have e26 : bits BinOp.and IntKind.u64 (IntKind.u64.wrap (-7)) 31 = 25 := by decide +kernel
  go_enter Tryd.func156, Tryd.ntmps156
  go_wp2
  go_ret
  exact ⟨rfl, rfl⟩

theorem rot_11 (x : Int) (w : World) : Calls Tryd.prog 156 #[.int .u32 x, .int .i64 (-11)] w fun e w' => e = .returned (.int .u32 (Bl.ror 11 x)) ∧ w' = w := by
  have e26 : bits BinOp.and IntKind.u64 (IntKind.u64.wrap (-11)) 31 = 21 := by decide +kernel
  go_enter Tryd.func156, Tryd.ntmps156
  go_wp2
  go_ret
  exact ⟨rfl, rfl⟩

theorem rot_13 (x : Int) (w : World) : Calls Tryd.prog 156 #[.int .u32 x, .int .i64 (-13)] w fun e w' => e = .returned (.int .u32 (Bl.ror 13 x)) ∧ w' = w := by
  have e26 : bits BinOp.and IntKind.u64 (IntKind.u64.wrap (-13)) 31 = 19 := by decide +kernel
  go_enter Tryd.func156, Tryd.ntmps156
  go_wp2
  go_ret
  exact ⟨rfl, rfl⟩

theorem rot_17 (x : Int) (w : World) : Calls Tryd.prog 156 #[.int .u32 x, .int .i64 (-17)] w fun e w' => e = .returned (.int .u32 (Bl.ror 17 x)) ∧ w' = w := by
  have e26 : bits BinOp.and IntKind.u64 (IntKind.u64.wrap (-17)) 31 = 15 := by decide +kernel
  go_enter Tryd.func156, Tryd.ntmps156
  go_wp2
  go_ret
  exact ⟨rfl, rfl⟩

theorem rot_18 (x : Int) (w : World) : Calls Tryd.prog 156 #[.int .u32 x, .int .i64 (-18)] w fun e w' => e = .returned (.int .u32 (Bl.ror 18 x)) ∧ w' = w := by
  have e26 : bits BinOp.and IntKind.u64 (IntKind.u64.wrap (-18)) 31 = 14 := by decide +kernel
  go_enter Tryd.func156, Tryd.ntmps156
  go_wp2
  go_ret
  exact ⟨rfl, rfl⟩

theorem rot_19 (x : Int) (w : World) : Calls Tryd.prog 156 #[.int .u32 x, .int .i64 (-19)] w fun e w' => e = .returned (.int .u32 (Bl.ror 19 x)) ∧ w' = w := by
  have e26 : bits BinOp.and IntKind.u64 (IntKind.u64.wrap (-19)) 31 = 13 := by decide +kernel
  go_enter Tryd.func156, Tryd.ntmps156
  go_wp2
  go_ret
  exact ⟨rfl, rfl⟩

theorem rot_22 (x : Int) (w : World) : Calls Tryd.prog 156 #[.int .u32 x, .int .i64 (-22)] w fun e w' => e = .returned (.int .u32 (Bl.ror 22 x)) ∧ w' = w := by
  have e26 : bits BinOp.and IntKind.u64 (IntKind.u64.wrap (-22)) 31 = 10 := by decide +kernel
  go_enter Tryd.func156, Tryd.ntmps156
  go_wp2
  go_ret
  exact ⟨rfl, rfl⟩

theorem rot_25 (x : Int) (w : World) : Calls Tryd.prog 156 #[.int .u32 x, .int .i64 (-25)] w fun e w' => e = .returned (.int .u32 (Bl.ror 25 x)) ∧ w' = w := by
  have e26 : bits BinOp.and IntKind.u64 (IntKind.u64.wrap (-25)) 31 = 7 := by decide +kernel
  go_enter Tryd.func156, Tryd.ntmps156
  go_wp2
  go_ret
  exact ⟨rfl, rfl⟩

theorem rot_all (x y : Int) (w : World) (h : y = -2 ∨ y = -6 ∨ y = -7 ∨ y = -11 ∨ y = -13 ∨ y = -17 ∨ y = -18 ∨ y = -19 ∨ y = -22 ∨ y = -25) : Calls Tryd.prog 156 #[.int .u32 x, .int .i64 y] w fun e w' => e = .returned (.int .u32 (Bl.ror (-y).toNat x)) ∧ w' = w := by
  rcases h with rfl | rfl | rfl | rfl | rfl | rfl | rfl | rfl | rfl | rfl
  · exact rot_2 x w
  · exact rot_6 x w
  · exact rot_7 x w
  · exact rot_11 x w
  · exact rot_13 x w
  · exact rot_17 x w
  · exact rot_18 x w
  · exact rot_19 x w
  · exact rot_22 x w
  · exact rot_25 x w

theorem turned_6 (x : Int) (w : World) : Calls Tryd.prog 135 #[.int .u32 x, .int .i64 6, .int .i64 11, .int .i64 25] w fun e w' => e = .returned (.int .u32 (Bl.sig 6 11 25 x)) ∧ w' = w := by
  go_enter Tryd.func135, Tryd.ntmps135
  go_wp2_with fail
  refine (rot_6 _ _).mono ?_; rintro e w' ⟨rfl, rfl⟩
  go_wp2_with fail
  refine (rot_11 _ _).mono ?_; rintro e w' ⟨rfl, rfl⟩
  go_wp2_with fail
  refine (rot_25 _ _).mono ?_; rintro e w' ⟨rfl, rfl⟩
  go_wp2_with fail
  go_ret
  exact ⟨rfl, rfl⟩

theorem turned_2 (x : Int) (w : World) : Calls Tryd.prog 135 #[.int .u32 x, .int .i64 2, .int .i64 13, .int .i64 22] w fun e w' => e = .returned (.int .u32 (Bl.sig 2 13 22 x)) ∧ w' = w := by
  go_enter Tryd.func135, Tryd.ntmps135
  go_wp2_with fail
  refine (rot_2 _ _).mono ?_; rintro e w' ⟨rfl, rfl⟩
  go_wp2_with fail
  refine (rot_13 _ _).mono ?_; rintro e w' ⟨rfl, rfl⟩
  go_wp2_with fail
  refine (rot_22 _ _).mono ?_; rintro e w' ⟨rfl, rfl⟩
  go_wp2_with fail
  go_ret
  exact ⟨rfl, rfl⟩

theorem mixed_17 (x : Int) (w : World) : Calls Tryd.prog 155 #[.int .u32 x, .int .i64 17, .int .i64 19, .int .i64 10] w fun e w' => e = .returned (.int .u32 (Bl.mix 17 19 10 x)) ∧ ∃ n, w' = w.drewN n := by
  go_enter Tryd.func155, Tryd.ntmps155
  go_wp2_with fail
  go_quiet ((go_at_call 156; exact Calls.quiet_of_same (rot_all _ _ _ (by decide))))
  go_wp2
  go_ret
  exact ⟨rfl, _, rfl⟩

theorem mixed_7 (x : Int) (w : World) : Calls Tryd.prog 155 #[.int .u32 x, .int .i64 7, .int .i64 18, .int .i64 3] w fun e w' => e = .returned (.int .u32 (Bl.mix 7 18 3 x)) ∧ ∃ n, w' = w.drewN n := by
  go_enter Tryd.func155, Tryd.ntmps155
  go_wp2_with fail
  go_quiet ((go_at_call 156; exact Calls.quiet_of_same (rot_all _ _ _ (by decide))))
  go_wp2
  go_ret
  exact ⟨rfl, _, rfl⟩

end Go.Proofs.YtdodgcapihfkkaaDoor

/- The odds of a spot check count all choices: for all whole numbers and all places the law ChanceCounts returns true. No condition. -/
import Derived.Test.YtkndnmpdklidkaaDoorCl8
import Derived.Test.YtkndnmpdklidkaaDoorOpenC
import Derived.Test.YtkndnmpdklidkaaDoorFaCounts
import Derived.Test.YtkndnmpdklidkaaDoorTie
namespace Go.Proofs.YtkndnmpdklidkaaDoor
open Go Go.ChangeShapes Go.WideShapes Go.ChangeAt Go.RowKit
namespace chanceCounts

abbrev laidL : List (String × DataW Unit) := Rows.chanceCountsRow.laid

set_option maxRecDepth 100000 in
/-- The start that fits: the heap that the door's own run leaves, the library's table laid. -/
theorem door_met (os : Os) (args : Array Value) : laidMetH Tryd.prog laidL (({ World.doorLaid Tryd.prog 399 os with heap := (World.doorLaid Tryd.prog 399 os).heap.setIfInBounds 21 (.cells first256 93) } : World).forCall (fun _ _ => 0) ⟨#[], args, []⟩).memory :=
  laidMetH_of_parts3 (fuel := 8) (laidMet_of_run' 8 (by kernel_rfl) (by kernel_rfl)) (by kernel_rfl) (by kernel_rfl)

set_option maxRecDepth 100000 in
theorem lifted (os : Os) (started : os.Started) (H : Type) (enc : TypeId × Value → H) :
    ReturnsInHanded {} Tryd.checked os 4 .any (fun w args => (Rows.chanceCountsSpec.pre enc Tryd.prog Tryd.f4 [] false w args ∧ laidMetH Tryd.prog laidL w) ∧ sizedMet enc Tryd.prog Tryd.f4 (OpenSpec.ofChange Rows.chanceCountsSpec) false w args)
      (Rows.chanceCountsSpec.post enc Tryd.prog Tryd.f4 false true false false) := by
  refine returnsInHanded_of_change_and (C := Tryd.checked) (X := fun w _ => laidMetH Tryd.prog laidL w) (fun _ _ _ hh h => h.of_heap hh) own0 started (by kernel_rfl) Tryd.func4
    (ChangeSpec.witness_shaped (enc := enc) (C := Tryd.checked) (os := os) (X := fun w _ => laidMetH Tryd.prog laidL w) false ({ World.doorLaid Tryd.prog 399 os with heap := (World.doorLaid Tryd.prog 399 os).heap.setIfInBounds 21 (.cells first256 93) } : World) #[.int .i64 0, .int .i64 0, .agg #[.bool false, .bool false, .bool false, .bool false, .bool false, .bool false, .bool false, .bool false, .bool false, .bool false]] 8 rfl (World.shaped_of_RefB (by kernel_rfl) (by kernel_rfl)) (by kernel_rfl) (by kernel_rfl) (by kernel_rfl) (door_met os _)) ?_
  intro W base args ds gs before hval0 hW _ _ hL _
  have hval : ∀ (j : Nat) t v, Tryd.f4.params[j]? = some t → args[j]? = some v → Value.okWide Tryd.prog W .any base t v := hval0
  have hW' := hW
  obtain ⟨p, q, hA0, hV, rfl, hfz, hnd⟩ := hW
  have hA : DataW.TrodAll enc Tryd.prog W 0 (fun _ => true) true Tryd.f4.params.toList args.toList ds p := hA0
  rw [Tryd.params4] at hA hval
  obtain ⟨v0, vs0, d0, ds0, p0, q0, hargs, rfl, rfl, h0, r0⟩ := trodAll_cons hA
  obtain ⟨v1, vs1, d1, ds1, p1, q1, rfl, rfl, rfl, h1, r1⟩ := trodAll_cons r0
  obtain ⟨v2, vs2, d2, ds2, p2, q2, rfl, rfl, rfl, h2, r2⟩ := trodAll_cons r1
  obtain ⟨rfl, rfl, rfl⟩ := trodAll_nil r2
  obtain rfl : args = #[v0, v1, v2] := by cases args; simp_all
  obtain ⟨rfl, rfl⟩ := trodVars_none hV
  obtain ⟨x0, rfl, rfl, rfl, w0⟩ := open_int Tryd.underlying3 (hval 0 3 v0 rfl rfl) h0
  simp [Lit.wf, IntKind.min, IntKind.max, IntKind.signed, IntKind.bits] at w0
  obtain ⟨x1, rfl, rfl, rfl, w1⟩ := open_int Tryd.underlying3 (hval 1 3 v1 rfl rfl) h1
  simp [Lit.wf, IntKind.min, IntKind.max, IntKind.signed, IntKind.bits] at w1
  obtain ⟨x2, rfl, l2⟩ := Bl.open_bools Tryd.underlying32 Tryd.underlying4 (by kernel_rfl) (by kernel_rfl) (hval 2 32 v2 rfl rfl) h2
  refine (counts_all x0 x1 x2 W l2).mono fun e W' ⟨he, hg⟩ => ?_
  subst he
  exact ⟨_, rfl, Bl.post_law laidOut c_params (by kernel_rfl) Tryd.underlying4 rfl hg hW' rfl⟩

theorem over : Rows.chanceCountsRow.holds Tryd.pinned (OpenSpec.ofChange Rows.chanceCountsSpec) :=
  OpenClaim.holds_of_wide 4 Tryd.f4 rfl rfl rfl rfl rfl rfl rfl ⟨rfl, rfl, rfl, rfl, rfl⟩ rfl rfl rfl rfl rfl c_name Tryd.func4 facts
    (of_decide_eq_true (by kernel_rfl)) (by unfold Func.isWrapper; first | (rw [if_pos (by decide +kernel)]; kernel_rfl) | (rw [if_neg (by decide +kernel)]; exact ⟨rfl, rfl⟩))
    (fun os started H enc _ => lifted os started H enc)

/-- the card -/
theorem proved : Rows.ChanceCountsCardSaid :=
  Claim7.holds_tied_plain_at .later [] Rows.chanceCountsCard.laidKinds true Rows.chanceCountsCard.stood.harness true over (fun _ h => by cases h) c_wf (fun _ h => by cases h) chanceCounts_row_tie rfl ⟨rfl, rfl⟩ SeatG.c_main c_har c_last c_goes
#print axioms proved
end chanceCounts
end Go.Proofs.YtkndnmpdklidkaaDoor

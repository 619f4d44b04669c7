/- Law GrowthAdds: the frame of the tied card. -/
import Derived.Test.YtkoddcjkhcnifaaDoorWGAdds
import Derived.Test.YtkoddcjkhcnifaaDoorOpenR
import Derived.Test.YtkoddcjkhcnifaaDoorOpn0
import Derived.Test.YtkoddcjkhcnifaaDoorFaGrowthAdds
import Derived.Test.YtkoddcjkhcnifaaDoorTie
namespace Go.Proofs.YtkoddcjkhcnifaaDoor
open Go Go.ChangeShapes Go.WideShapes Go.ChangeAt Go.RowKit
namespace growthAdds

abbrev laidL : List (String × DataW Unit) := Rows.growthAddsRow.laid

set_option maxRecDepth 100000 in
/-- The start that fits: the heap that the door's own run leaves. -/
theorem door_met (os : Os) (args : Array Value) : laidMetH Tryd.prog laidL ((World.doorLaid Tryd.prog 409 os).forCall (fun _ _ => 0) ⟨#[], args, []⟩).memory :=
  laidMetH_of_parts3 (fuel := 8) (laidMet_of_run' 8 (by kernel_rfl) (by kernel_rfl)) (by kernel_rfl) (by kernel_rfl)

set_option maxRecDepth 100000 in
theorem lifted (os : Os) (started : os.Started) (H : Type) (enc : TypeId × Value → H) :
    ReturnsInHanded {} Tryd.checked os 3 .any (fun w args => (Rows.growthAddsSpec.pre enc Tryd.prog Tryd.f3 [] false w args ∧ laidMetH Tryd.prog laidL w) ∧ sizedMet enc Tryd.prog Tryd.f3 (OpenSpec.ofChange Rows.growthAddsSpec) false w args)
      (Rows.growthAddsSpec.post enc Tryd.prog Tryd.f3 false true false false) := by
  refine returnsInHanded_of_change_and (C := Tryd.checked) (X := fun w _ => laidMetH Tryd.prog laidL w) (fun _ _ _ hh h => h.of_heap hh) own0 started (by kernel_rfl) Tryd.func3
    (ChangeSpec.witness_shaped (enc := enc) (C := Tryd.checked) (os := os) (X := fun w _ => laidMetH Tryd.prog laidL w) false (World.doorLaid Tryd.prog 409 os) #[.slice none 0 0] 8 rfl (World.shaped_of_RefB (by kernel_rfl) (by kernel_rfl)) (by kernel_rfl) (by kernel_rfl) (by kernel_rfl) (door_met os _)) ?_
  intro W base args ds gs before hval0 hW _ _ hL _
  have hval : ∀ (j : Nat) t v, Tryd.f3.params[j]? = some t → args[j]? = some v → Value.okWide Tryd.prog W .any base t v := hval0
  have hW' := hW
  obtain ⟨p, q, hA0, hV, rfl, hfz, hnd⟩ := hW
  have hA : DataW.TrodAll enc Tryd.prog W 0 (fun _ => true) true Tryd.f3.params.toList args.toList ds p := hA0
  rw [Tryd.params3] at hA hval
  obtain ⟨v0, vs0, d0, ds0, p0, q0, hargs, rfl, rfl, h0, r0⟩ := trodAll_cons hA
  obtain ⟨rfl, rfl, rfl⟩ := trodAll_nil r0
  obtain rfl : args = #[v0] := by cases args; simp_all
  obtain ⟨rfl, rfl⟩ := trodVars_none hV
  obtain ⟨x0, R0, b0⟩ := Bl.open_bytess Tryd.underlying22 Tryd.underlying27 Tryd.underlying5 (by kernel_rfl) (by kernel_rfl) (hval 0 22 v0 rfl rfl) h0
  have HG := glob_of hL (by kernel_rfl) (by kernel_rfl) (by kernel_rfl) (by kernel_rfl)
  refine (gadds_all v0 x0 W R0 b0 HG).mono fun e W' ⟨he, hg⟩ => ?_
  subst he
  exact ⟨_, rfl, Bl.post_law laidOut c_params (by kernel_rfl) Tryd.underlying4 rfl hg hW' rfl⟩

theorem over : Rows.growthAddsRow.holds Tryd.pinned (OpenSpec.ofChange Rows.growthAddsSpec) :=
  OpenClaim.holds_of_wide 3 Tryd.f3 rfl rfl rfl rfl rfl rfl rfl ⟨rfl, rfl, rfl, rfl, rfl⟩ rfl rfl rfl rfl rfl c_name Tryd.func3 facts
    (of_decide_eq_true (by kernel_rfl)) (by unfold Func.isWrapper; first | (rw [if_pos (by decide +kernel)]; kernel_rfl) | (rw [if_neg (by decide +kernel)]; exact ⟨rfl, rfl⟩))
    (fun os started H enc _ => lifted os started H enc)

/-- the card -/
theorem proved : Rows.GrowthAddsCardSaid :=
  Claim7.holds_tied_plain_at .later [] Rows.growthAddsCard.laidKinds true Rows.growthAddsCard.stood.harness true over (fun _ h => by cases h) c_wf (fun _ h => by cases h) growthAdds_row_tie rfl ⟨rfl, rfl⟩ SeatF.c_main c_har c_last c_goes
#print axioms proved
end growthAdds
end Go.Proofs.YtkoddcjkhcnifaaDoor

/- Law FoeBends: the frame of the tied card. -/
import Derived.Test.YtmmolapkddbibaaDoorWFoeB
import Derived.Test.YtmmolapkddbibaaDoorOpn1
import Derived.Test.YtmmolapkddbibaaDoorOpn0
import Derived.Test.YtmmolapkddbibaaDoorFaFb
import Derived.Test.YtmmolapkddbibaaDoorOpn2
import Derived.Test.YtmmolapkddbibaaDoorOpenT
import Derived.Test.YtmmolapkddbibaaDoorTie
namespace Go.Proofs.YtmmolapkddbibaaDoor
open Go Go.ChangeShapes Go.WideShapes Go.ChangeAt Go.RowKit
namespace foeBends

abbrev laidL : List (String × DataW Unit) := Rows.foeBendsRow.laid

set_option maxRecDepth 100000 in
/-- The start that fits: the heap that the door's own run leaves. -/
theorem door_met (os : Os) (args : Array Value) : laidMetH Tryd.prog laidL ((World.doorLaid Tryd.prog 409 os).forCall (fun _ _ => 0) ⟨#[], args, []⟩).memory :=
  laidMetH_of_parts3 (fuel := 8) (laidMet_of_run' 8 (by kernel_rfl) (by kernel_rfl)) (by kernel_rfl) (by kernel_rfl)

set_option maxRecDepth 100000 in
theorem lifted (os : Os) (started : os.Started) (H : Type) (enc : TypeId × Value → H) :
    ReturnsInHanded {} Tryd.checked os 3 .any (fun w args => (Rows.foeBendsSpec.pre enc Tryd.prog Tryd.f3 [] false w args ∧ laidMetH Tryd.prog laidL w) ∧ sizedMet enc Tryd.prog Tryd.f3 (OpenSpec.ofChange Rows.foeBendsSpec) false w args)
      (Rows.foeBendsSpec.post enc Tryd.prog Tryd.f3 false true false false) := by
  refine returnsInHanded_of_change_and (C := Tryd.checked) (X := fun w _ => laidMetH Tryd.prog laidL w) (fun _ _ _ hh h => h.of_heap hh) own0 started (by kernel_rfl) Tryd.func3
    (ChangeSpec.witness_shaped (enc := enc) (C := Tryd.checked) (os := os) (X := fun w _ => laidMetH Tryd.prog laidL w) false (World.doorLaid Tryd.prog 409 os) #[.agg #[.int .i64 0, .int .i64 0, .int .i64 0, .slice none 0 0, .slice none 0 0, .int .i64 0, .int .i64 0, .slice none 0 0, .int .i64 0], .agg #[.int .i64 0, .int .i64 0, .int .i64 0]] 8 rfl (World.shaped_of_RefB (by kernel_rfl) (by kernel_rfl)) (by kernel_rfl) (by kernel_rfl) (by kernel_rfl) (door_met os _)) ?_
  intro W base args ds gs before hval0 hW _ _ hL _
  have hval : ∀ (j : Nat) t v, Tryd.f3.params[j]? = some t → args[j]? = some v → Value.okWide Tryd.prog W .any base t v := hval0
  have hW' := hW
  obtain ⟨p, q, hA0, hV, rfl, hfz, hnd⟩ := hW
  have hA : DataW.TrodAll enc Tryd.prog W 0 (fun _ => true) true Tryd.f3.params.toList args.toList ds p := hA0
  rw [Tryd.params3] at hA hval
  obtain ⟨v0, vs0, d0, ds0, p0, q0, hargs, rfl, rfl, h0, r0⟩ := trodAll_cons hA
  obtain ⟨v1, vs1, d1, ds1, p1, q1, rfl, rfl, rfl, h1, r1⟩ := trodAll_cons r0
  obtain ⟨rfl, rfl, rfl⟩ := trodAll_nil r1
  obtain rfl : args = #[v0, v1] := by cases args; simp_all
  obtain ⟨rfl, rfl⟩ := trodVars_none hV
  obtain ⟨x0, R0⟩ := open_letter22 (hval 0 26 v0 rfl rfl) h0
  obtain ⟨a1, b1, c1, rfl⟩ := open_trick (hval 1 28 v1 rfl rfl) h1
  have HW := globW_of hL (by kernel_rfl)
  refine (foebends_all v0 a1 b1 c1 x0 W R0 HW).mono fun e W' ⟨he, hg⟩ => ?_
  subst he
  exact ⟨_, rfl, Bl.post_law laidOut c_params (by kernel_rfl) Tryd.underlying4 rfl hg hW' rfl⟩

theorem over : Rows.foeBendsRow.holds Tryd.pinned (OpenSpec.ofChange Rows.foeBendsSpec) :=
  OpenClaim.holds_of_wide 3 Tryd.f3 rfl rfl rfl rfl rfl rfl rfl ⟨rfl, rfl, rfl, rfl, rfl⟩ rfl rfl rfl rfl rfl c_name Tryd.func3 facts
    (of_decide_eq_true (by kernel_rfl)) (by unfold Func.isWrapper; first | (rw [if_pos (by decide +kernel)]; kernel_rfl) | (rw [if_neg (by decide +kernel)]; exact ⟨rfl, rfl⟩))
    (fun os started H enc _ => lifted os started H enc)

/-- the card -/
theorem proved : Rows.FoeBendsCardSaid :=
  Claim7.holds_tied_plain_at .later [] Rows.foeBendsCard.laidKinds true Rows.foeBendsCard.stood.harness true over (fun _ h => by cases h) c_wf (fun _ h => by cases h) foeBends_row_tie rfl ⟨rfl, rfl⟩ SeatF.c_main c_har c_last c_goes
#print axioms proved
end foeBends
end Go.Proofs.YtmmolapkddbibaaDoor

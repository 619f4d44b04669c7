/- Law GrowthOne: the frame of the tied card. -/
import Derived.Test.YtkoddcjkhcnifaaDoorWGOne
import Derived.Test.YtkoddcjkhcnifaaDoorOpenR
import Derived.Test.YtkoddcjkhcnifaaDoorOpn0
import Derived.Test.YtkoddcjkhcnifaaDoorFaGrowthOne
import Derived.Test.YtkoddcjkhcnifaaDoorGak
import Derived.Test.YtkoddcjkhcnifaaDoorOpenE
import Derived.Test.YtkoddcjkhcnifaaDoorTie
namespace Go.Proofs.YtkoddcjkhcnifaaDoor
open Go Go.ChangeShapes Go.WideShapes Go.ChangeAt Go.RowKit
namespace growthOne

abbrev laidL : List (String × DataW Unit) := Rows.growthOneRow.laid

def exs : List (Nat × List UInt8) := [(1, Bl.tx Rows.laid_bailee_api_ErrRange), (8, Bl.tx Rows.laid_bailee_api_ErrSize), (12, Bl.tx Rows.laid_bailee_api_ErrFull), (15, Bl.tx Rows.laid_bailee_api_ErrProof)]
set_option maxRecDepth 100000 in
/-- The start that fits: the heap that the door's own run leaves. -/
theorem door_met (os : Os) (args : Array Value) : laidMetH Tryd.prog laidL ((World.doorLaid Tryd.prog 409 os).forCall (fun _ _ => 0) ⟨#[], args, []⟩).memory :=
  laidMetH_of_parts3 (fuel := 8) (laidMet_of_run' 8 (by kernel_rfl) (by kernel_rfl)) (by kernel_rfl) (by kernel_rfl)

set_option maxRecDepth 100000 in
theorem lifted (os : Os) (started : os.Started) (H : Type) (enc : TypeId × Value → H) :
    ReturnsInHanded {} Tryd.checked os 5 .any (fun w args => (Rows.growthOneSpec.pre enc Tryd.prog Tryd.f5 [] false w args ∧ laidMetH Tryd.prog laidL w) ∧ sizedMet enc Tryd.prog Tryd.f5 (OpenSpec.ofChange Rows.growthOneSpec) false w args)
      (Rows.growthOneSpec.post enc Tryd.prog Tryd.f5 false true false false) := by
  refine returnsInHanded_of_change_and (C := Tryd.checked) (X := fun w _ => laidMetH Tryd.prog laidL w) (fun _ _ _ hh h => h.of_heap hh) own0 started (by kernel_rfl) Tryd.func5
    (ChangeSpec.witness_shaped (enc := enc) (C := Tryd.checked) (os := os) (X := fun w _ => laidMetH Tryd.prog laidL w) false (World.doorLaid Tryd.prog 409 os) #[.agg #[.int .i64 0, .int .i64 0, .int .u8 0, .int .u8 0, .int .u8 0, .int .u8 0, .int .u8 0, .int .u8 0, .int .u8 0, .int .u8 0, .int .u8 0, .int .u8 0, .int .u8 0, .int .u8 0, .int .u8 0, .int .u8 0, .int .u8 0, .int .u8 0, .int .u8 0, .int .u8 0, .int .u8 0, .int .u8 0, .int .u8 0, .int .u8 0, .int .u8 0, .int .u8 0, .int .u8 0, .int .u8 0, .int .u8 0, .int .u8 0, .int .u8 0, .int .u8 0, .int .u8 0, .int .u8 0, .int .u8 0, .int .u8 0, .int .u8 0, .int .u8 0, .int .u8 0, .int .u8 0, .int .u8 0, .int .u8 0, .int .u8 0, .int .u8 0, .int .u8 0, .int .u8 0, .int .u8 0, .int .u8 0, .int .u8 0, .int .u8 0, .int .u8 0, .int .u8 0, .int .u8 0, .int .u8 0, .int .u8 0, .int .u8 0, .int .u8 0, .int .u8 0, .int .u8 0, .int .u8 0, .int .u8 0, .int .u8 0, .int .u8 0, .int .u8 0, .int .u8 0, .int .u8 0, .slice none 0 0], .agg #[.int .u8 0, .int .u8 0, .int .u8 0, .int .u8 0, .int .u8 0, .int .u8 0, .int .u8 0, .int .u8 0, .int .u8 0, .int .u8 0, .int .u8 0, .int .u8 0, .int .u8 0, .int .u8 0, .int .u8 0, .int .u8 0, .int .u8 0, .int .u8 0, .int .u8 0, .int .u8 0, .int .u8 0, .int .u8 0, .int .u8 0, .int .u8 0, .int .u8 0, .int .u8 0, .int .u8 0, .int .u8 0, .int .u8 0, .int .u8 0, .int .u8 0, .int .u8 0]] 8 rfl (World.shaped_of_RefB (by kernel_rfl) (by kernel_rfl)) (by kernel_rfl) (by kernel_rfl) (by kernel_rfl) (door_met os _)) ?_
  intro W base args ds gs before hval0 hW _ _ hL _
  have hval : ∀ (j : Nat) t v, Tryd.f5.params[j]? = some t → args[j]? = some v → Value.okWide Tryd.prog W .any base t v := hval0
  have hW' := hW
  obtain ⟨p, q, hA0, hV, rfl, hfz, hnd⟩ := hW
  have hA : DataW.TrodAll enc Tryd.prog W 0 (fun _ => true) true Tryd.f5.params.toList args.toList ds p := hA0
  rw [Tryd.params5] at hA hval
  obtain ⟨v0, vs0, d0, ds0, p0, q0, hargs, rfl, rfl, h0, r0⟩ := trodAll_cons hA
  obtain ⟨v1, vs1, d1, ds1, p1, q1, rfl, rfl, rfl, h1, r1⟩ := trodAll_cons r0
  obtain ⟨rfl, rfl, rfl⟩ := trodAll_nil r1
  obtain rfl : args = #[v0, v1] := by cases args; simp_all
  obtain ⟨rfl, rfl⟩ := trodVars_none hV
  obtain ⟨c0, m0, n0, t0, u0, v0', x0, rfl, A0, ob0, nb0, R0, b0, cl0⟩ := Bl.open_askg Tryd.underlying49 rfl rfl rfl rfl rfl rfl rfl rfl rfl rfl Tryd.underlying40 Tryd.underlying3 Tryd.underlying35 Tryd.underlying5 (by kernel_rfl) (by kernel_rfl) (by kernel_rfl) (by kernel_rfl) (hval 0 49 v0 rfl rfl) h0
  have C0 : c0.length = 67 := cl0.trans (by kernel_rfl)
  obtain ⟨x1, rfl, l1, b1⟩ := Bl.open_arr8 Tryd.underlying40 Tryd.underlying5 (by kernel_rfl) (by kernel_rfl) (hval 1 40 v1 rfl rfl) h1
  obtain ⟨ea, HErr⟩ := errs_laid hL (fun x => (exs.map fun y => nE y.1).contains x.1) exs (by decide) (by decide) (by kernel_rfl)
  have HG := glob_of hL (by kernel_rfl) (by kernel_rfl) (by kernel_rfl) (by kernel_rfl)
  refine (gone_all c0 m0 n0 t0 u0 x1 v0' x0 W (exs.map (·.1)) ea A0 C0 ob0 l1 b1 R0 b0 HG (by decide) (by decide) (by decide) HErr).mono fun e W' ⟨he, hg⟩ => ?_
  subst he
  exact ⟨_, rfl, Bl.post_law laidOut c_params (by kernel_rfl) Tryd.underlying4 rfl hg hW' rfl⟩

theorem over : Rows.growthOneRow.holds Tryd.pinned (OpenSpec.ofChange Rows.growthOneSpec) :=
  OpenClaim.holds_of_wide 5 Tryd.f5 rfl rfl rfl rfl rfl rfl rfl ⟨rfl, rfl, rfl, rfl, rfl⟩ rfl rfl rfl rfl rfl c_name Tryd.func5 facts
    (of_decide_eq_true (by kernel_rfl)) (by unfold Func.isWrapper; first | (rw [if_pos (by decide +kernel)]; kernel_rfl) | (rw [if_neg (by decide +kernel)]; exact ⟨rfl, rfl⟩))
    (fun os started H enc _ => lifted os started H enc)

/-- the card -/
theorem proved : Rows.GrowthOneCardSaid :=
  Claim7.holds_tied_plain_at .later [] Rows.growthOneCard.laidKinds true Rows.growthOneCard.stood.harness true over (fun _ h => by cases h) c_wf (fun _ h => by cases h) growthOne_row_tie rfl ⟨rfl, rfl⟩ SeatF.c_main c_har c_last c_goes
#print axioms proved
end growthOne
end Go.Proofs.YtkoddcjkhcnifaaDoor

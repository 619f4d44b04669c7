/- Law LetterParses: the frame of the tied card. -/
import Derived.Test.YtmmolapkddbibaaDoorWLParses
import Derived.Test.YtmmolapkddbibaaDoorOpn1
import Derived.Test.YtmmolapkddbibaaDoorOpn0
import Derived.Test.YtmmolapkddbibaaDoorFaLp
import Derived.Test.YtmmolapkddbibaaDoorOpenE
import Derived.Test.YtmmolapkddbibaaDoorTie
namespace Go.Proofs.YtmmolapkddbibaaDoor
open Go Go.ChangeShapes Go.WideShapes Go.ChangeAt Go.RowKit
namespace letterParses

abbrev laidL : List (String × DataW Unit) := Rows.letterParsesRow.laid

def exs : List (Nat × List UInt8) := [(1, Bl.tx Rows.laid_bailee_api_ErrRange), (2, Bl.tx Rows.laid_bailee_api_ErrShort), (3, Bl.tx Rows.laid_bailee_api_ErrLong), (4, Bl.tx Rows.laid_bailee_api_ErrForm), (5, Bl.tx Rows.laid_bailee_api_ErrSum), (6, Bl.tx Rows.laid_bailee_api_ErrName), (7, Bl.tx Rows.laid_bailee_api_ErrKind), (8, Bl.tx Rows.laid_bailee_api_ErrSize), (9, Bl.tx Rows.laid_bailee_api_ErrKey), (10, Bl.tx Rows.laid_bailee_api_ErrDup), (11, Bl.tx Rows.laid_bailee_api_ErrNone), (12, Bl.tx Rows.laid_bailee_api_ErrFull), (13, Bl.tx Rows.laid_bailee_api_ErrState), (14, Bl.tx Rows.laid_bailee_api_ErrPower), (15, Bl.tx Rows.laid_bailee_api_ErrProof), (16, Bl.tx Rows.laid_bailee_api_ErrSpare), (17, Bl.tx Rows.laid_bailee_api_ErrLost), (18, Bl.tx Rows.laid_bailee_api_ErrBudget), (19, Bl.tx Rows.laid_bailee_api_ErrLate), (20, Bl.tx Rows.laid_bailee_api_ErrZero)]
theorem exs_all : ∀ i, 1 ≤ i → i ≤ 20 → i ∈ exs.map (·.1) := fun i h1 h2 => by
  have h : i = 1 ∨ i = 2 ∨ i = 3 ∨ i = 4 ∨ i = 5 ∨ i = 6 ∨ i = 7 ∨ i = 8 ∨ i = 9 ∨ i = 10 ∨ i = 11 ∨ i = 12 ∨ i = 13 ∨ i = 14 ∨ i = 15 ∨ i = 16 ∨ i = 17 ∨ i = 18 ∨ i = 19 ∨ i = 20 := by omega
  rcases h with rfl | rfl | rfl | rfl | rfl | rfl | rfl | rfl | rfl | rfl | rfl | rfl | rfl | rfl | rfl | rfl | rfl | rfl | rfl | rfl <;> decide
set_option maxRecDepth 100000 in
/-- The start that fits: the heap that the door's own run leaves. -/
theorem door_met (os : Os) (args : Array Value) : laidMetH Tryd.prog laidL ((World.doorLaid Tryd.prog 409 os).forCall (fun _ _ => 0) ⟨#[], args, []⟩).memory :=
  laidMetH_of_parts3 (fuel := 8) (laidMet_of_run' 8 (by kernel_rfl) (by kernel_rfl)) (by kernel_rfl) (by kernel_rfl)

set_option maxRecDepth 100000 in
theorem lifted (os : Os) (started : os.Started) (H : Type) (enc : TypeId × Value → H) :
    ReturnsInHanded {} Tryd.checked os 6 .any (fun w args => (Rows.letterParsesSpec.pre enc Tryd.prog Tryd.f6 [] false w args ∧ laidMetH Tryd.prog laidL w) ∧ sizedMet enc Tryd.prog Tryd.f6 (OpenSpec.ofChange Rows.letterParsesSpec) false w args)
      (Rows.letterParsesSpec.post enc Tryd.prog Tryd.f6 false true false false) := by
  refine returnsInHanded_of_change_and (C := Tryd.checked) (X := fun w _ => laidMetH Tryd.prog laidL w) (fun _ _ _ hh h => h.of_heap hh) own0 started (by kernel_rfl) Tryd.func6
    (ChangeSpec.witness_shaped (enc := enc) (C := Tryd.checked) (os := os) (X := fun w _ => laidMetH Tryd.prog laidL w) false (World.doorLaid Tryd.prog 409 os) #[.slice none 0 0] 8 rfl (World.shaped_of_RefB (by kernel_rfl) (by kernel_rfl)) (by kernel_rfl) (by kernel_rfl) (by kernel_rfl) (door_met os _)) ?_
  intro W base args ds gs before hval0 hW _ _ hL _
  have hval : ∀ (j : Nat) t v, Tryd.f6.params[j]? = some t → args[j]? = some v → Value.okWide Tryd.prog W .any base t v := hval0
  have hW' := hW
  obtain ⟨p, q, hA0, hV, rfl, hfz, hnd⟩ := hW
  have hA : DataW.TrodAll enc Tryd.prog W 0 (fun _ => true) true Tryd.f6.params.toList args.toList ds p := hA0
  rw [Tryd.params6] at hA hval
  obtain ⟨v0, vs0, d0, ds0, p0, q0, hargs, rfl, rfl, h0, r0⟩ := trodAll_cons hA
  obtain ⟨rfl, rfl, rfl⟩ := trodAll_nil r0
  obtain rfl : args = #[v0] := by cases args; simp_all
  obtain ⟨rfl, rfl⟩ := trodVars_none hV
  obtain ⟨x0, R0, b0⟩ := Bl.open_bytes Tryd.underlying46 Tryd.underlying5 (by kernel_rfl) (hval 0 46 v0 rfl rfl) h0
  obtain ⟨ea, HErr⟩ := errs_laid hL (fun x => (exs.map fun y => nE y.1).contains x.1) exs (by decide) (by decide) (by kernel_rfl)
  refine (letterparses_all v0 x0 W (exs.map (·.1)) ea R0 b0 HErr exs_all).mono fun e W' ⟨he, hg⟩ => ?_
  subst he
  exact ⟨_, rfl, Bl.post_law laidOut c_params (by kernel_rfl) Tryd.underlying4 rfl hg hW' rfl⟩

theorem over : Rows.letterParsesRow.holds Tryd.pinned (OpenSpec.ofChange Rows.letterParsesSpec) :=
  OpenClaim.holds_of_wide 6 Tryd.f6 rfl rfl rfl rfl rfl rfl rfl ⟨rfl, rfl, rfl, rfl, rfl⟩ rfl rfl rfl rfl rfl c_name Tryd.func6 facts
    (of_decide_eq_true (by kernel_rfl)) (by unfold Func.isWrapper; first | (rw [if_pos (by decide +kernel)]; kernel_rfl) | (rw [if_neg (by decide +kernel)]; exact ⟨rfl, rfl⟩))
    (fun os started H enc _ => lifted os started H enc)

/-- the card -/
theorem proved : Rows.LetterParsesCardSaid :=
  Claim7.holds_tied_plain_at .later [] Rows.letterParsesCard.laidKinds true Rows.letterParsesCard.stood.harness true over (fun _ h => by cases h) c_wf (fun _ h => by cases h) letterParses_row_tie rfl ⟨rfl, rfl⟩ SeatF.c_main c_har c_last c_goes
#print axioms proved
end letterParses
end Go.Proofs.YtmmolapkddbibaaDoor

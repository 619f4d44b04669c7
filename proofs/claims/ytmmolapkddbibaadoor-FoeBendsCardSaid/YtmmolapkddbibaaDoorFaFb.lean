/- Texts that stood apart, in one: SeatLt, FaFoeBends. -/
import Derived.Test.YtmmolapkddbibaaDoorRows
import Derived.Test.YtmmolapkddbibaaDoorCards
import Derived.Test.YtmmolapkddbibaaDoorChecked
import Derived.Test.YtmmolapkddbibaaDoorOpn0
import Derived.JoinedOf
import Derived.SevenTiedAt
/- Closed facts of the program that every row of the seat asks. -/
namespace Go.Proofs.YtmmolapkddbibaaDoor
open Go Go.ChangeShapes Go.WideShapes Go.ChangeAt Go.RowKit
namespace SeatF
theorem ai {a b : Bool} (h : a = true) (k : b = true) : (a && b) = true := by rw [h, k]; rfl
theorem fact1 : (laidOutB Tryd.pinned.checked.prog) = true := by kernel_rfl
theorem fact2 : (mapsRowed Tryd.pinned.checked.prog) = true := by kernel_rfl
theorem fact6 : ((Tryd.pinned.checked.prog.stops == [])) = true := by kernel_rfl
theorem fact8 : ((Tryd.pinned.checked.prog.stopKnobs == [])) = true := by kernel_rfl
theorem fact24 : (Tryd.pinned.checked.prog.stopsHeard) = true := by kernel_rfl
theorem fact25 : (Tryd.pinned.checked.prog.mayEnter) = true := by kernel_rfl
theorem c_main : Tryd.pinned.checked.prog.mainIs = some (Rows.letterSameCard.stood.harness.1, Rows.letterSameCard.stood.harness.2.toList) := by kernel_rfl
theorem c_looks : true = Tryd.pinned.checked.prog.looks [] := by kernel_rfl
end SeatF
end Go.Proofs.YtmmolapkddbibaaDoor

/- The closed facts of the row of foeBends, one by one. -/
namespace Go.Proofs.YtmmolapkddbibaaDoor
open Go Go.ChangeShapes Go.WideShapes Go.ChangeAt Go.RowKit
namespace foeBends
theorem fact0 : (Rows.foeBendsRow.wf (OpenSpec.ofChange Rows.foeBendsSpec)) = true := by kernel_rfl
theorem fact3 : (Tryd.f3.params.all (Tryd.pinned.checked.prog.readableRec ·)) = true := by kernel_rfl
theorem fact4 : (namedTie Tryd.pinned.checked.prog Rows.foeBendsRow.named Rows.foeBendsSpec.vars) = true := by kernel_rfl
theorem fact5 : ((Rows.foeBendsRow.stops == [])) = true := by kernel_rfl
theorem fact7 : ((Rows.foeBendsRow.knobs == [])) = true := by kernel_rfl
theorem fact9 : ((Rows.foeBendsRow.inPlace == Tryd.pinned.checked.prog.inPlace 3)) = true := by kernel_rfl
theorem fact10 : ((Rows.foeBendsRow.unfollowed == Tryd.pinned.checked.prog.unfollowed 3)) = true := by kernel_rfl
theorem fact11 : ((Rows.foeBendsRow.recurses == Tryd.pinned.checked.prog.recurses 3)) = true := by kernel_rfl
theorem fact12 : ((Rows.foeBendsRow.named == Tryd.pinned.checked.prog.varsNamed 3)) = true := by kernel_rfl
theorem fact13 : ((Rows.foeBendsRow.maps == (Tryd.f3.params.toList ++ Rows.foeBendsSpec.plain.varTypes Tryd.pinned.checked.prog).any (Tryd.pinned.checked.prog.mapsRec ·))) = true := by kernel_rfl
theorem fact14 : ((Rows.foeBendsRow.ifaces == (Tryd.f3.params.toList ++ Rows.foeBendsSpec.plain.varTypes Tryd.pinned.checked.prog).any (Tryd.pinned.checked.prog.ifacesRec ·))) = true := by kernel_rfl
theorem fact15 : ((Rows.foeBendsRow.mapsOut == Tryd.pinned.checked.prog.mapsAmong Tryd.f3.resultTypes.toList)) = true := by kernel_rfl
theorem fact16 : ((Rows.foeBendsRow.loops == (Tryd.f3.params.toList ++ Rows.foeBendsSpec.plain.varTypes Tryd.pinned.checked.prog).any (Tryd.pinned.checked.prog.loopsFrom ·))) = true := by kernel_rfl
theorem fact17 : ((Rows.foeBendsRow.wideKeys == (Tryd.f3.params.toList ++ Rows.foeBendsSpec.plain.varTypes Tryd.pinned.checked.prog ++ Tryd.f3.resultTypes.toList).any (Tryd.pinned.checked.prog.wideKeysFrom ·))) = true := by kernel_rfl
theorem fact18 : (Rows.foeBendsSpec.vars.all (Tryd.pinned.checked.prog.varReadable ·)) = true := by kernel_rfl
theorem fact19 : (Tryd.f3.resultTypes.all (fun t => Tryd.pinned.checked.prog.readableRec t && decide (t < Tryd.pinned.checked.prog.types.size))) = true := by kernel_rfl
theorem fact20 : ((Rows.foeBendsRow.ifacesOut == Tryd.f3.resultTypes.toList.any (Tryd.pinned.checked.prog.ifacesRec ·))) = true := by kernel_rfl
theorem fact21 : ((Rows.foeBendsRow.loopsOut == Tryd.f3.resultTypes.toList.any (Tryd.pinned.checked.prog.loopsFrom ·))) = true := by kernel_rfl
theorem fact22 : ((Rows.foeBendsRow.plainKeys == Tryd.pinned.checked.prog.plainKeys)) = true := by kernel_rfl
theorem fact23 : (Rows.foeBendsRow.shortTexts.isNone) = true := by kernel_rfl
theorem fact26 : ((Rows.foeBendsRow.lifted == Tryd.pinned.checked.prog.liftsFinal)) = true := by kernel_rfl
theorem fact27 : ((Tryd.pinned.checked.prog.make == some Rows.foeBendsRow.make)) = true := by kernel_rfl
theorem fact28 : ((Rows.foeBendsRow.kinds == (if Rows.foeBendsRow.domain.isEmpty then [] else Tryd.f3.params.toList.map fun t => match Tryd.pinned.checked.prog.underlying t with | some (.int k) => some k | _ => none))) = true := by kernel_rfl
theorem fact29 : ((Rows.foeBendsRow.pinned == Rows.foeBendsRow.pinnedBy)) = true := by kernel_rfl
theorem fact30 : ((Rows.foeBendsRow.veiled == (Tryd.f3.params.toList ++ Rows.foeBendsSpec.plain.varTypes Tryd.pinned.checked.prog ++ Tryd.f3.resultTypes.toList).any (Tryd.pinned.checked.prog.veiledRec ·))) = true := by kernel_rfl
theorem fact31 : (Rows.foeBendsRow.veiledFits Tryd.pinned.checked.prog Tryd.f3.params.toList (Tryd.f3.params.toList ++ Rows.foeBendsSpec.plain.varTypes Tryd.pinned.checked.prog ++ Tryd.f3.resultTypes.toList)) = true := by kernel_rfl
set_option maxRecDepth 100000 in
theorem facts : joinedFacts Tryd.pinned.checked.prog 3 (Tryd.f3) Rows.foeBendsSpec Rows.foeBendsRow = true := by
  unfold joinedFacts
  exact (SeatF.ai (SeatF.ai (SeatF.ai (SeatF.ai (SeatF.ai (SeatF.ai (SeatF.ai (SeatF.ai (SeatF.ai (SeatF.ai (SeatF.ai (SeatF.ai (SeatF.ai (SeatF.ai (SeatF.ai (SeatF.ai (SeatF.ai (SeatF.ai (SeatF.ai (SeatF.ai (SeatF.ai (SeatF.ai (SeatF.ai (SeatF.ai (SeatF.ai (SeatF.ai (SeatF.ai (SeatF.ai (SeatF.ai (SeatF.ai (SeatF.ai fact0 SeatF.fact1) SeatF.fact2) fact3) fact4) fact5) SeatF.fact6) fact7) SeatF.fact8) fact9) fact10) fact11) fact12) fact13) fact14) fact15) fact16) fact17) fact18) fact19) fact20) fact21) fact22) fact23) SeatF.fact24) SeatF.fact25) fact26) fact27) fact28) fact29) fact30) fact31)
theorem c_wf : Rows.foeBendsRow.wfByText (OpenSpec.ofChange Rows.foeBendsSpec) = true := by kernel_rfl
theorem c_stand : (Tryd.f3.params.toList.all fun u => !Tryd.pinned.checked.prog.wantsStandIn u) = true := by kernel_rfl
theorem c_goes : false = Rows.foeBendsRow.goesBy Tryd.pinned.checked.prog := by kernel_rfl
theorem c_name : Tryd.pinned.checked.prog.funcNamed Rows.foeBendsRow.func = some 3 := by kernel_rfl
theorem c_har : (!Rows.foeBendsCard.stood.harness.1 && Rows.foeBendsCard.stood.harness.2.isEmpty && !true) = false := by kernel_rfl
theorem c_read : (Tryd.f3.params.toList.all fun t => Tryd.checked.prog.readableRec t && decide (t < Tryd.checked.prog.types.size)) = true := by kernel_rfl
theorem c_last (f : FuncId) (fn : Func) (hf : Tryd.pinned.checked.prog.funcNamed Rows.foeBendsRow.func = some f) (hfn : Tryd.pinned.checked.prog.funcs[f]? = some fn) :
    true = Tryd.pinned.checked.prog.looks [] ∧ ∀ (j : Nat) t, fn.params[j]? = some t → Tryd.pinned.checked.prog.wantsStandIn t = false := by
  obtain rfl : 3 = f := Option.some.inj (c_name.symm.trans hf)
  obtain rfl : Tryd.f3 = fn := Option.some.inj (Tryd.func3.symm.trans hfn)
  refine ⟨SeatF.c_looks, fun j t ht => ?_⟩
  have h := List.all_eq_true.1 c_stand t (by simpa using Array.mem_of_getElem? ht)
  cases hw : Tryd.pinned.checked.prog.wantsStandIn t with
  | false => rfl
  | true => rw [hw] at h; cases h
theorem c_params : ∀ t ∈ Tryd.f3.params.toList, Tryd.checked.prog.readableRec t = true ∧ t < Tryd.checked.prog.types.size := fun t ht => by
  have h := List.all_eq_true.1 c_read t ht
  rw [Bool.and_eq_true] at h
  exact ⟨h.1, of_decide_eq_true h.2⟩
end foeBends
end Go.Proofs.YtmmolapkddbibaaDoor

/- The closed facts of the row of letterBytes, one by one. -/
import Derived.Test.YtmmolapkddbibaaDoorSeatLt
import Derived.Test.YtmmolapkddbibaaDoorCards
namespace Go.Proofs.YtmmolapkddbibaaDoor
open Go Go.ChangeShapes Go.WideShapes Go.ChangeAt Go.RowKit
namespace letterBytes
theorem fact0 : (Rows.letterBytesRow.wf (OpenSpec.ofChange Rows.letterBytesSpec)) = true := by kernel_rfl
theorem fact3 : (Tryd.f5.params.all (Tryd.pinned.checked.prog.readableRec ·)) = true := by kernel_rfl
theorem fact4 : (namedTie Tryd.pinned.checked.prog Rows.letterBytesRow.named Rows.letterBytesSpec.vars) = true := by kernel_rfl
theorem fact5 : ((Rows.letterBytesRow.stops == [])) = true := by kernel_rfl
theorem fact7 : ((Rows.letterBytesRow.knobs == [])) = true := by kernel_rfl
theorem fact9 : ((Rows.letterBytesRow.inPlace == Tryd.pinned.checked.prog.inPlace 5)) = true := by kernel_rfl
theorem fact10 : ((Rows.letterBytesRow.unfollowed == Tryd.pinned.checked.prog.unfollowed 5)) = true := by kernel_rfl
theorem fact11 : ((Rows.letterBytesRow.recurses == Tryd.pinned.checked.prog.recurses 5)) = true := by kernel_rfl
theorem fact12 : ((Rows.letterBytesRow.named == Tryd.pinned.checked.prog.varsNamed 5)) = true := by kernel_rfl
theorem fact13 : ((Rows.letterBytesRow.maps == (Tryd.f5.params.toList ++ Rows.letterBytesSpec.plain.varTypes Tryd.pinned.checked.prog).any (Tryd.pinned.checked.prog.mapsRec ·))) = true := by kernel_rfl
theorem fact14 : ((Rows.letterBytesRow.ifaces == (Tryd.f5.params.toList ++ Rows.letterBytesSpec.plain.varTypes Tryd.pinned.checked.prog).any (Tryd.pinned.checked.prog.ifacesRec ·))) = true := by kernel_rfl
theorem fact15 : ((Rows.letterBytesRow.mapsOut == Tryd.pinned.checked.prog.mapsAmong Tryd.f5.resultTypes.toList)) = true := by kernel_rfl
theorem fact16 : ((Rows.letterBytesRow.loops == (Tryd.f5.params.toList ++ Rows.letterBytesSpec.plain.varTypes Tryd.pinned.checked.prog).any (Tryd.pinned.checked.prog.loopsFrom ·))) = true := by kernel_rfl
theorem fact17 : ((Rows.letterBytesRow.wideKeys == (Tryd.f5.params.toList ++ Rows.letterBytesSpec.plain.varTypes Tryd.pinned.checked.prog ++ Tryd.f5.resultTypes.toList).any (Tryd.pinned.checked.prog.wideKeysFrom ·))) = true := by kernel_rfl
theorem fact18 : (Rows.letterBytesSpec.vars.all (Tryd.pinned.checked.prog.varReadable ·)) = true := by kernel_rfl
theorem fact19 : (Tryd.f5.resultTypes.all (fun t => Tryd.pinned.checked.prog.readableRec t && decide (t < Tryd.pinned.checked.prog.types.size))) = true := by kernel_rfl
theorem fact20 : ((Rows.letterBytesRow.ifacesOut == Tryd.f5.resultTypes.toList.any (Tryd.pinned.checked.prog.ifacesRec ·))) = true := by kernel_rfl
theorem fact21 : ((Rows.letterBytesRow.loopsOut == Tryd.f5.resultTypes.toList.any (Tryd.pinned.checked.prog.loopsFrom ·))) = true := by kernel_rfl
theorem fact22 : ((Rows.letterBytesRow.plainKeys == Tryd.pinned.checked.prog.plainKeys)) = true := by kernel_rfl
theorem fact23 : (Rows.letterBytesRow.shortTexts.isNone) = true := by kernel_rfl
theorem fact26 : ((Rows.letterBytesRow.lifted == Tryd.pinned.checked.prog.liftsFinal)) = true := by kernel_rfl
theorem fact27 : ((Tryd.pinned.checked.prog.make == some Rows.letterBytesRow.make)) = true := by kernel_rfl
theorem fact28 : ((Rows.letterBytesRow.kinds == (if Rows.letterBytesRow.domain.isEmpty then [] else Tryd.f5.params.toList.map fun t => match Tryd.pinned.checked.prog.underlying t with | some (.int k) => some k | _ => none))) = true := by kernel_rfl
theorem fact29 : ((Rows.letterBytesRow.pinned == Rows.letterBytesRow.pinnedBy)) = true := by kernel_rfl
theorem fact30 : ((Rows.letterBytesRow.veiled == (Tryd.f5.params.toList ++ Rows.letterBytesSpec.plain.varTypes Tryd.pinned.checked.prog ++ Tryd.f5.resultTypes.toList).any (Tryd.pinned.checked.prog.veiledRec ·))) = true := by kernel_rfl
theorem fact31 : (Rows.letterBytesRow.veiledFits Tryd.pinned.checked.prog Tryd.f5.params.toList (Tryd.f5.params.toList ++ Rows.letterBytesSpec.plain.varTypes Tryd.pinned.checked.prog ++ Tryd.f5.resultTypes.toList)) = true := by kernel_rfl
set_option maxRecDepth 100000 in
theorem facts : joinedFacts Tryd.pinned.checked.prog 5 (Tryd.f5) Rows.letterBytesSpec Rows.letterBytesRow = true := by
  unfold joinedFacts
  exact (SeatF.ai (SeatF.ai (SeatF.ai (SeatF.ai (SeatF.ai (SeatF.ai (SeatF.ai (SeatF.ai (SeatF.ai (SeatF.ai (SeatF.ai (SeatF.ai (SeatF.ai (SeatF.ai (SeatF.ai (SeatF.ai (SeatF.ai (SeatF.ai (SeatF.ai (SeatF.ai (SeatF.ai (SeatF.ai (SeatF.ai (SeatF.ai (SeatF.ai (SeatF.ai (SeatF.ai (SeatF.ai (SeatF.ai (SeatF.ai (SeatF.ai fact0 SeatF.fact1) SeatF.fact2) fact3) fact4) fact5) SeatF.fact6) fact7) SeatF.fact8) fact9) fact10) fact11) fact12) fact13) fact14) fact15) fact16) fact17) fact18) fact19) fact20) fact21) fact22) fact23) SeatF.fact24) SeatF.fact25) fact26) fact27) fact28) fact29) fact30) fact31)
theorem c_wf : Rows.letterBytesRow.wfByText (OpenSpec.ofChange Rows.letterBytesSpec) = true := by kernel_rfl
theorem c_stand : (Tryd.f5.params.toList.all fun u => !Tryd.pinned.checked.prog.wantsStandIn u) = true := by kernel_rfl
theorem c_goes : false = Rows.letterBytesRow.goesBy Tryd.pinned.checked.prog := by kernel_rfl
theorem c_name : Tryd.pinned.checked.prog.funcNamed Rows.letterBytesRow.func = some 5 := by kernel_rfl
theorem c_har : (!Rows.letterBytesCard.stood.harness.1 && Rows.letterBytesCard.stood.harness.2.isEmpty && !true) = false := by kernel_rfl
theorem c_read : (Tryd.f5.params.toList.all fun t => Tryd.checked.prog.readableRec t && decide (t < Tryd.checked.prog.types.size)) = true := by kernel_rfl
theorem c_last (f : FuncId) (fn : Func) (hf : Tryd.pinned.checked.prog.funcNamed Rows.letterBytesRow.func = some f) (hfn : Tryd.pinned.checked.prog.funcs[f]? = some fn) :
    true = Tryd.pinned.checked.prog.looks [] ∧ ∀ (j : Nat) t, fn.params[j]? = some t → Tryd.pinned.checked.prog.wantsStandIn t = false := by
  obtain rfl : 5 = f := Option.some.inj (c_name.symm.trans hf)
  obtain rfl : Tryd.f5 = fn := Option.some.inj (Tryd.func5.symm.trans hfn)
  refine ⟨SeatF.c_looks, fun j t ht => ?_⟩
  have h := List.all_eq_true.1 c_stand t (by simpa using Array.mem_of_getElem? ht)
  cases hw : Tryd.pinned.checked.prog.wantsStandIn t with
  | false => rfl
  | true => rw [hw] at h; cases h
theorem c_params : ∀ t ∈ Tryd.f5.params.toList, Tryd.checked.prog.readableRec t = true ∧ t < Tryd.checked.prog.types.size := fun t ht => by
  have h := List.all_eq_true.1 c_read t ht
  rw [Bool.and_eq_true] at h
  exact ⟨h.1, of_decide_eq_true h.2⟩
end letterBytes
end Go.Proofs.YtmmolapkddbibaaDoor

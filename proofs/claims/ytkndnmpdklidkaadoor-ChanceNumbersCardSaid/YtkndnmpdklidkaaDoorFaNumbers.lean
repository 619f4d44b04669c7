/- The closed facts of the row of chanceNumbers, one by one. -/
import Derived.Test.YtkndnmpdklidkaaDoorSeatG
import Derived.Test.YtkndnmpdklidkaaDoorCards
namespace Go.Proofs.YtkndnmpdklidkaaDoor
open Go Go.ChangeShapes Go.WideShapes Go.ChangeAt Go.RowKit
namespace chanceNumbers
theorem fact0 : (Rows.chanceNumbersRow.wf (OpenSpec.ofChange Rows.chanceNumbersSpec)) = true := by kernel_rfl
theorem fact3 : (Tryd.f8.params.all (Tryd.pinned.checked.prog.readableRec ·)) = true := by kernel_rfl
theorem fact4 : (namedTie Tryd.pinned.checked.prog Rows.chanceNumbersRow.named Rows.chanceNumbersSpec.vars) = true := by kernel_rfl
theorem fact5 : ((Rows.chanceNumbersRow.stops == [])) = true := by kernel_rfl
theorem fact7 : ((Rows.chanceNumbersRow.knobs == [])) = true := by kernel_rfl
theorem fact9 : ((Rows.chanceNumbersRow.inPlace == Tryd.pinned.checked.prog.inPlace 8)) = true := by kernel_rfl
theorem fact10 : ((Rows.chanceNumbersRow.unfollowed == Tryd.pinned.checked.prog.unfollowed 8)) = true := by kernel_rfl
theorem fact11 : ((Rows.chanceNumbersRow.recurses == Tryd.pinned.checked.prog.recurses 8)) = true := by kernel_rfl
theorem fact12 : ((Rows.chanceNumbersRow.named == Tryd.pinned.checked.prog.varsNamed 8)) = true := by kernel_rfl
theorem fact13 : ((Rows.chanceNumbersRow.maps == (Tryd.f8.params.toList ++ Rows.chanceNumbersSpec.plain.varTypes Tryd.pinned.checked.prog).any (Tryd.pinned.checked.prog.mapsRec ·))) = true := by kernel_rfl
theorem fact14 : ((Rows.chanceNumbersRow.ifaces == (Tryd.f8.params.toList ++ Rows.chanceNumbersSpec.plain.varTypes Tryd.pinned.checked.prog).any (Tryd.pinned.checked.prog.ifacesRec ·))) = true := by kernel_rfl
theorem fact15 : ((Rows.chanceNumbersRow.mapsOut == Tryd.pinned.checked.prog.mapsAmong Tryd.f8.resultTypes.toList)) = true := by kernel_rfl
theorem fact16 : ((Rows.chanceNumbersRow.loops == (Tryd.f8.params.toList ++ Rows.chanceNumbersSpec.plain.varTypes Tryd.pinned.checked.prog).any (Tryd.pinned.checked.prog.loopsFrom ·))) = true := by kernel_rfl
theorem fact17 : ((Rows.chanceNumbersRow.wideKeys == (Tryd.f8.params.toList ++ Rows.chanceNumbersSpec.plain.varTypes Tryd.pinned.checked.prog ++ Tryd.f8.resultTypes.toList).any (Tryd.pinned.checked.prog.wideKeysFrom ·))) = true := by kernel_rfl
theorem fact18 : (Rows.chanceNumbersSpec.vars.all (Tryd.pinned.checked.prog.varReadable ·)) = true := by kernel_rfl
theorem fact19 : (Tryd.f8.resultTypes.all (fun t => Tryd.pinned.checked.prog.readableRec t && decide (t < Tryd.pinned.checked.prog.types.size))) = true := by kernel_rfl
theorem fact20 : ((Rows.chanceNumbersRow.ifacesOut == Tryd.f8.resultTypes.toList.any (Tryd.pinned.checked.prog.ifacesRec ·))) = true := by kernel_rfl
theorem fact21 : ((Rows.chanceNumbersRow.loopsOut == Tryd.f8.resultTypes.toList.any (Tryd.pinned.checked.prog.loopsFrom ·))) = true := by kernel_rfl
theorem fact22 : ((Rows.chanceNumbersRow.plainKeys == Tryd.pinned.checked.prog.plainKeys)) = true := by kernel_rfl
theorem fact23 : (Rows.chanceNumbersRow.shortTexts.isNone) = true := by kernel_rfl
theorem fact26 : ((Rows.chanceNumbersRow.lifted == Tryd.pinned.checked.prog.liftsFinal)) = true := by kernel_rfl
theorem fact27 : ((Tryd.pinned.checked.prog.make == some Rows.chanceNumbersRow.make)) = true := by kernel_rfl
theorem fact28 : ((Rows.chanceNumbersRow.kinds == (if Rows.chanceNumbersRow.domain.isEmpty then [] else Tryd.f8.params.toList.map fun t => match Tryd.pinned.checked.prog.underlying t with | some (.int k) => some k | _ => none))) = true := by kernel_rfl
theorem fact29 : ((Rows.chanceNumbersRow.pinned == Rows.chanceNumbersRow.pinnedBy)) = true := by kernel_rfl
theorem fact30 : ((Rows.chanceNumbersRow.veiled == (Tryd.f8.params.toList ++ Rows.chanceNumbersSpec.plain.varTypes Tryd.pinned.checked.prog ++ Tryd.f8.resultTypes.toList).any (Tryd.pinned.checked.prog.veiledRec ·))) = true := by kernel_rfl
theorem fact31 : (Rows.chanceNumbersRow.veiledFits Tryd.pinned.checked.prog Tryd.f8.params.toList (Tryd.f8.params.toList ++ Rows.chanceNumbersSpec.plain.varTypes Tryd.pinned.checked.prog ++ Tryd.f8.resultTypes.toList)) = true := by kernel_rfl
set_option maxRecDepth 100000 in
theorem facts : joinedFacts Tryd.pinned.checked.prog 8 (Tryd.f8) Rows.chanceNumbersSpec Rows.chanceNumbersRow = true := by
  unfold joinedFacts
  exact (SeatG.ai (SeatG.ai (SeatG.ai (SeatG.ai (SeatG.ai (SeatG.ai (SeatG.ai (SeatG.ai (SeatG.ai (SeatG.ai (SeatG.ai (SeatG.ai (SeatG.ai (SeatG.ai (SeatG.ai (SeatG.ai (SeatG.ai (SeatG.ai (SeatG.ai (SeatG.ai (SeatG.ai (SeatG.ai (SeatG.ai (SeatG.ai (SeatG.ai (SeatG.ai (SeatG.ai (SeatG.ai (SeatG.ai (SeatG.ai (SeatG.ai fact0 SeatG.fact1) SeatG.fact2) fact3) fact4) fact5) SeatG.fact6) fact7) SeatG.fact8) fact9) fact10) fact11) fact12) fact13) fact14) fact15) fact16) fact17) fact18) fact19) fact20) fact21) fact22) fact23) SeatG.fact24) SeatG.fact25) fact26) fact27) fact28) fact29) fact30) fact31)
theorem c_wf : Rows.chanceNumbersRow.wfByText (OpenSpec.ofChange Rows.chanceNumbersSpec) = true := by kernel_rfl
theorem c_stand : (Tryd.f8.params.toList.all fun u => !Tryd.pinned.checked.prog.wantsStandIn u) = true := by kernel_rfl
theorem c_goes : false = Rows.chanceNumbersRow.goesBy Tryd.pinned.checked.prog := by kernel_rfl
theorem c_name : Tryd.pinned.checked.prog.funcNamed Rows.chanceNumbersRow.func = some 8 := by kernel_rfl
theorem c_har : (!Rows.chanceNumbersCard.stood.harness.1 && Rows.chanceNumbersCard.stood.harness.2.isEmpty && !true) = false := by kernel_rfl
theorem c_read : (Tryd.f8.params.toList.all fun t => Tryd.checked.prog.readableRec t && decide (t < Tryd.checked.prog.types.size)) = true := by kernel_rfl
theorem c_last (f : FuncId) (fn : Func) (hf : Tryd.pinned.checked.prog.funcNamed Rows.chanceNumbersRow.func = some f) (hfn : Tryd.pinned.checked.prog.funcs[f]? = some fn) :
    true = Tryd.pinned.checked.prog.looks [] ∧ ∀ (j : Nat) t, fn.params[j]? = some t → Tryd.pinned.checked.prog.wantsStandIn t = false := by
  obtain rfl : 8 = f := Option.some.inj (c_name.symm.trans hf)
  obtain rfl : Tryd.f8 = fn := Option.some.inj (Tryd.func8.symm.trans hfn)
  refine ⟨SeatG.c_looks, fun j t ht => ?_⟩
  have h := List.all_eq_true.1 c_stand t (by simpa using Array.mem_of_getElem? ht)
  cases hw : Tryd.pinned.checked.prog.wantsStandIn t with
  | false => rfl
  | true => rw [hw] at h; cases h
theorem c_params : ∀ t ∈ Tryd.f8.params.toList, Tryd.checked.prog.readableRec t = true ∧ t < Tryd.checked.prog.types.size := fun t ht => by
  have h := List.all_eq_true.1 c_read t ht
  rw [Bool.and_eq_true] at h
  exact ⟨h.1, of_decide_eq_true h.2⟩
end chanceNumbers
end Go.Proofs.YtkndnmpdklidkaaDoor

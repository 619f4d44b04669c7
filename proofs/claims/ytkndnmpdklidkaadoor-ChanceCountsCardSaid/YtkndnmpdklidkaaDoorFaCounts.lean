/- The closed facts of the row of chanceCounts, one by one. -/
import Derived.Test.YtkndnmpdklidkaaDoorSeatG
import Derived.Test.YtkndnmpdklidkaaDoorCards
namespace Go.Proofs.YtkndnmpdklidkaaDoor
open Go Go.ChangeShapes Go.WideShapes Go.ChangeAt Go.RowKit
namespace chanceCounts
theorem fact0 : (Rows.chanceCountsRow.wf (OpenSpec.ofChange Rows.chanceCountsSpec)) = true := by kernel_rfl
theorem fact3 : (Tryd.f4.params.all (Tryd.pinned.checked.prog.readableRec ·)) = true := by kernel_rfl
theorem fact4 : (namedTie Tryd.pinned.checked.prog Rows.chanceCountsRow.named Rows.chanceCountsSpec.vars) = true := by kernel_rfl
theorem fact5 : ((Rows.chanceCountsRow.stops == [])) = true := by kernel_rfl
theorem fact7 : ((Rows.chanceCountsRow.knobs == [])) = true := by kernel_rfl
theorem fact9 : ((Rows.chanceCountsRow.inPlace == Tryd.pinned.checked.prog.inPlace 4)) = true := by kernel_rfl
theorem fact10 : ((Rows.chanceCountsRow.unfollowed == Tryd.pinned.checked.prog.unfollowed 4)) = true := by kernel_rfl
theorem fact11 : ((Rows.chanceCountsRow.recurses == Tryd.pinned.checked.prog.recurses 4)) = true := by kernel_rfl
theorem fact12 : ((Rows.chanceCountsRow.named == Tryd.pinned.checked.prog.varsNamed 4)) = true := by kernel_rfl
theorem fact13 : ((Rows.chanceCountsRow.maps == (Tryd.f4.params.toList ++ Rows.chanceCountsSpec.plain.varTypes Tryd.pinned.checked.prog).any (Tryd.pinned.checked.prog.mapsRec ·))) = true := by kernel_rfl
theorem fact14 : ((Rows.chanceCountsRow.ifaces == (Tryd.f4.params.toList ++ Rows.chanceCountsSpec.plain.varTypes Tryd.pinned.checked.prog).any (Tryd.pinned.checked.prog.ifacesRec ·))) = true := by kernel_rfl
theorem fact15 : ((Rows.chanceCountsRow.mapsOut == Tryd.pinned.checked.prog.mapsAmong Tryd.f4.resultTypes.toList)) = true := by kernel_rfl
theorem fact16 : ((Rows.chanceCountsRow.loops == (Tryd.f4.params.toList ++ Rows.chanceCountsSpec.plain.varTypes Tryd.pinned.checked.prog).any (Tryd.pinned.checked.prog.loopsFrom ·))) = true := by kernel_rfl
theorem fact17 : ((Rows.chanceCountsRow.wideKeys == (Tryd.f4.params.toList ++ Rows.chanceCountsSpec.plain.varTypes Tryd.pinned.checked.prog ++ Tryd.f4.resultTypes.toList).any (Tryd.pinned.checked.prog.wideKeysFrom ·))) = true := by kernel_rfl
theorem fact18 : (Rows.chanceCountsSpec.vars.all (Tryd.pinned.checked.prog.varReadable ·)) = true := by kernel_rfl
theorem fact19 : (Tryd.f4.resultTypes.all (fun t => Tryd.pinned.checked.prog.readableRec t && decide (t < Tryd.pinned.checked.prog.types.size))) = true := by kernel_rfl
theorem fact20 : ((Rows.chanceCountsRow.ifacesOut == Tryd.f4.resultTypes.toList.any (Tryd.pinned.checked.prog.ifacesRec ·))) = true := by kernel_rfl
theorem fact21 : ((Rows.chanceCountsRow.loopsOut == Tryd.f4.resultTypes.toList.any (Tryd.pinned.checked.prog.loopsFrom ·))) = true := by kernel_rfl
theorem fact22 : ((Rows.chanceCountsRow.plainKeys == Tryd.pinned.checked.prog.plainKeys)) = true := by kernel_rfl
theorem fact23 : (Rows.chanceCountsRow.shortTexts.isNone) = true := by kernel_rfl
theorem fact26 : ((Rows.chanceCountsRow.lifted == Tryd.pinned.checked.prog.liftsFinal)) = true := by kernel_rfl
theorem fact27 : ((Tryd.pinned.checked.prog.make == some Rows.chanceCountsRow.make)) = true := by kernel_rfl
theorem fact28 : ((Rows.chanceCountsRow.kinds == (if Rows.chanceCountsRow.domain.isEmpty then [] else Tryd.f4.params.toList.map fun t => match Tryd.pinned.checked.prog.underlying t with | some (.int k) => some k | _ => none))) = true := by kernel_rfl
theorem fact29 : ((Rows.chanceCountsRow.pinned == Rows.chanceCountsRow.pinnedBy)) = true := by kernel_rfl
theorem fact30 : ((Rows.chanceCountsRow.veiled == (Tryd.f4.params.toList ++ Rows.chanceCountsSpec.plain.varTypes Tryd.pinned.checked.prog ++ Tryd.f4.resultTypes.toList).any (Tryd.pinned.checked.prog.veiledRec ·))) = true := by kernel_rfl
theorem fact31 : (Rows.chanceCountsRow.veiledFits Tryd.pinned.checked.prog Tryd.f4.params.toList (Tryd.f4.params.toList ++ Rows.chanceCountsSpec.plain.varTypes Tryd.pinned.checked.prog ++ Tryd.f4.resultTypes.toList)) = true := by kernel_rfl
set_option maxRecDepth 100000 in
theorem facts : joinedFacts Tryd.pinned.checked.prog 4 (Tryd.f4) Rows.chanceCountsSpec Rows.chanceCountsRow = true := by
  unfold joinedFacts
  exact (SeatG.ai (SeatG.ai (SeatG.ai (SeatG.ai (SeatG.ai (SeatG.ai (SeatG.ai (SeatG.ai (SeatG.ai (SeatG.ai (SeatG.ai (SeatG.ai (SeatG.ai (SeatG.ai (SeatG.ai (SeatG.ai (SeatG.ai (SeatG.ai (SeatG.ai (SeatG.ai (SeatG.ai (SeatG.ai (SeatG.ai (SeatG.ai (SeatG.ai (SeatG.ai (SeatG.ai (SeatG.ai (SeatG.ai (SeatG.ai (SeatG.ai fact0 SeatG.fact1) SeatG.fact2) fact3) fact4) fact5) SeatG.fact6) fact7) SeatG.fact8) fact9) fact10) fact11) fact12) fact13) fact14) fact15) fact16) fact17) fact18) fact19) fact20) fact21) fact22) fact23) SeatG.fact24) SeatG.fact25) fact26) fact27) fact28) fact29) fact30) fact31)
theorem c_wf : Rows.chanceCountsRow.wfByText (OpenSpec.ofChange Rows.chanceCountsSpec) = true := by kernel_rfl
theorem c_stand : (Tryd.f4.params.toList.all fun u => !Tryd.pinned.checked.prog.wantsStandIn u) = true := by kernel_rfl
theorem c_goes : false = Rows.chanceCountsRow.goesBy Tryd.pinned.checked.prog := by kernel_rfl
theorem c_name : Tryd.pinned.checked.prog.funcNamed Rows.chanceCountsRow.func = some 4 := by kernel_rfl
theorem c_har : (!Rows.chanceCountsCard.stood.harness.1 && Rows.chanceCountsCard.stood.harness.2.isEmpty && !true) = false := by kernel_rfl
theorem c_read : (Tryd.f4.params.toList.all fun t => Tryd.checked.prog.readableRec t && decide (t < Tryd.checked.prog.types.size)) = true := by kernel_rfl
theorem c_last (f : FuncId) (fn : Func) (hf : Tryd.pinned.checked.prog.funcNamed Rows.chanceCountsRow.func = some f) (hfn : Tryd.pinned.checked.prog.funcs[f]? = some fn) :
    true = Tryd.pinned.checked.prog.looks [] ∧ ∀ (j : Nat) t, fn.params[j]? = some t → Tryd.pinned.checked.prog.wantsStandIn t = false := by
  obtain rfl : 4 = f := Option.some.inj (c_name.symm.trans hf)
  obtain rfl : Tryd.f4 = fn := Option.some.inj (Tryd.func4.symm.trans hfn)
  refine ⟨SeatG.c_looks, fun j t ht => ?_⟩
  have h := List.all_eq_true.1 c_stand t (by simpa using Array.mem_of_getElem? ht)
  cases hw : Tryd.pinned.checked.prog.wantsStandIn t with
  | false => rfl
  | true => rw [hw] at h; cases h
theorem c_params : ∀ t ∈ Tryd.f4.params.toList, Tryd.checked.prog.readableRec t = true ∧ t < Tryd.checked.prog.types.size := fun t ht => by
  have h := List.all_eq_true.1 c_read t ht
  rw [Bool.and_eq_true] at h
  exact ⟨h.1, of_decide_eq_true h.2⟩
end chanceCounts
end Go.Proofs.YtkndnmpdklidkaaDoor

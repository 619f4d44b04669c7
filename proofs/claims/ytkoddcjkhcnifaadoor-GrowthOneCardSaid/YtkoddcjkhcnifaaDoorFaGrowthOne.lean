/- The closed facts of the row of growthOne, one by one. -/
import Derived.Test.YtkoddcjkhcnifaaDoorSeatGr
import Derived.Test.YtkoddcjkhcnifaaDoorCards
namespace Go.Proofs.YtkoddcjkhcnifaaDoor
open Go Go.ChangeShapes Go.WideShapes Go.ChangeAt Go.RowKit
namespace growthOne
theorem fact0 : (Rows.growthOneRow.wf (OpenSpec.ofChange Rows.growthOneSpec)) = true := by kernel_rfl
theorem fact3 : (Tryd.f5.params.all (Tryd.pinned.checked.prog.readableRec ·)) = true := by kernel_rfl
theorem fact4 : (namedTie Tryd.pinned.checked.prog Rows.growthOneRow.named Rows.growthOneSpec.vars) = true := by kernel_rfl
theorem fact5 : ((Rows.growthOneRow.stops == [])) = true := by kernel_rfl
theorem fact7 : ((Rows.growthOneRow.knobs == [])) = true := by kernel_rfl
theorem fact9 : ((Rows.growthOneRow.inPlace == Tryd.pinned.checked.prog.inPlace 5)) = true := by kernel_rfl
theorem fact10 : ((Rows.growthOneRow.unfollowed == Tryd.pinned.checked.prog.unfollowed 5)) = true := by kernel_rfl
theorem fact11 : ((Rows.growthOneRow.recurses == Tryd.pinned.checked.prog.recurses 5)) = true := by kernel_rfl
theorem fact12 : ((Rows.growthOneRow.named == Tryd.pinned.checked.prog.varsNamed 5)) = true := by kernel_rfl
theorem fact13 : ((Rows.growthOneRow.maps == (Tryd.f5.params.toList ++ Rows.growthOneSpec.plain.varTypes Tryd.pinned.checked.prog).any (Tryd.pinned.checked.prog.mapsRec ·))) = true := by kernel_rfl
theorem fact14 : ((Rows.growthOneRow.ifaces == (Tryd.f5.params.toList ++ Rows.growthOneSpec.plain.varTypes Tryd.pinned.checked.prog).any (Tryd.pinned.checked.prog.ifacesRec ·))) = true := by kernel_rfl
theorem fact15 : ((Rows.growthOneRow.mapsOut == Tryd.pinned.checked.prog.mapsAmong Tryd.f5.resultTypes.toList)) = true := by kernel_rfl
theorem fact16 : ((Rows.growthOneRow.loops == (Tryd.f5.params.toList ++ Rows.growthOneSpec.plain.varTypes Tryd.pinned.checked.prog).any (Tryd.pinned.checked.prog.loopsFrom ·))) = true := by kernel_rfl
theorem fact17 : ((Rows.growthOneRow.wideKeys == (Tryd.f5.params.toList ++ Rows.growthOneSpec.plain.varTypes Tryd.pinned.checked.prog ++ Tryd.f5.resultTypes.toList).any (Tryd.pinned.checked.prog.wideKeysFrom ·))) = true := by kernel_rfl
theorem fact18 : (Rows.growthOneSpec.vars.all (Tryd.pinned.checked.prog.varReadable ·)) = true := by kernel_rfl
theorem fact19 : (Tryd.f5.resultTypes.all (fun t => Tryd.pinned.checked.prog.readableRec t && decide (t < Tryd.pinned.checked.prog.types.size))) = true := by kernel_rfl
theorem fact20 : ((Rows.growthOneRow.ifacesOut == Tryd.f5.resultTypes.toList.any (Tryd.pinned.checked.prog.ifacesRec ·))) = true := by kernel_rfl
theorem fact21 : ((Rows.growthOneRow.loopsOut == Tryd.f5.resultTypes.toList.any (Tryd.pinned.checked.prog.loopsFrom ·))) = true := by kernel_rfl
theorem fact22 : ((Rows.growthOneRow.plainKeys == Tryd.pinned.checked.prog.plainKeys)) = true := by kernel_rfl
theorem fact23 : (Rows.growthOneRow.shortTexts.isNone) = true := by kernel_rfl
theorem fact26 : ((Rows.growthOneRow.lifted == Tryd.pinned.checked.prog.liftsFinal)) = true := by kernel_rfl
theorem fact27 : ((Tryd.pinned.checked.prog.make == some Rows.growthOneRow.make)) = true := by kernel_rfl
theorem fact28 : ((Rows.growthOneRow.kinds == (if Rows.growthOneRow.domain.isEmpty then [] else Tryd.f5.params.toList.map fun t => match Tryd.pinned.checked.prog.underlying t with | some (.int k) => some k | _ => none))) = true := by kernel_rfl
theorem fact29 : ((Rows.growthOneRow.pinned == Rows.growthOneRow.pinnedBy)) = true := by kernel_rfl
theorem fact30 : ((Rows.growthOneRow.veiled == (Tryd.f5.params.toList ++ Rows.growthOneSpec.plain.varTypes Tryd.pinned.checked.prog ++ Tryd.f5.resultTypes.toList).any (Tryd.pinned.checked.prog.veiledRec ·))) = true := by kernel_rfl
theorem fact31 : (Rows.growthOneRow.veiledFits Tryd.pinned.checked.prog Tryd.f5.params.toList (Tryd.f5.params.toList ++ Rows.growthOneSpec.plain.varTypes Tryd.pinned.checked.prog ++ Tryd.f5.resultTypes.toList)) = true := by kernel_rfl
set_option maxRecDepth 100000 in
theorem facts : joinedFacts Tryd.pinned.checked.prog 5 (Tryd.f5) Rows.growthOneSpec Rows.growthOneRow = true := by
  unfold joinedFacts
  exact (SeatF.ai (SeatF.ai (SeatF.ai (SeatF.ai (SeatF.ai (SeatF.ai (SeatF.ai (SeatF.ai (SeatF.ai (SeatF.ai (SeatF.ai (SeatF.ai (SeatF.ai (SeatF.ai (SeatF.ai (SeatF.ai (SeatF.ai (SeatF.ai (SeatF.ai (SeatF.ai (SeatF.ai (SeatF.ai (SeatF.ai (SeatF.ai (SeatF.ai (SeatF.ai (SeatF.ai (SeatF.ai (SeatF.ai (SeatF.ai (SeatF.ai fact0 SeatF.fact1) SeatF.fact2) fact3) fact4) fact5) SeatF.fact6) fact7) SeatF.fact8) fact9) fact10) fact11) fact12) fact13) fact14) fact15) fact16) fact17) fact18) fact19) fact20) fact21) fact22) fact23) SeatF.fact24) SeatF.fact25) fact26) fact27) fact28) fact29) fact30) fact31)
theorem c_wf : Rows.growthOneRow.wfByText (OpenSpec.ofChange Rows.growthOneSpec) = true := by kernel_rfl
theorem c_stand : (Tryd.f5.params.toList.all fun u => !Tryd.pinned.checked.prog.wantsStandIn u) = true := by kernel_rfl
theorem c_goes : false = Rows.growthOneRow.goesBy Tryd.pinned.checked.prog := by kernel_rfl
theorem c_name : Tryd.pinned.checked.prog.funcNamed Rows.growthOneRow.func = some 5 := by kernel_rfl
theorem c_har : (!Rows.growthOneCard.stood.harness.1 && Rows.growthOneCard.stood.harness.2.isEmpty && !true) = false := by kernel_rfl
theorem c_read : (Tryd.f5.params.toList.all fun t => Tryd.checked.prog.readableRec t && decide (t < Tryd.checked.prog.types.size)) = true := by kernel_rfl
theorem c_last (f : FuncId) (fn : Func) (hf : Tryd.pinned.checked.prog.funcNamed Rows.growthOneRow.func = some f) (hfn : Tryd.pinned.checked.prog.funcs[f]? = some fn) :
    true = Tryd.pinned.checked.prog.looks [] ∧ ∀ (j : Nat) t, fn.params[j]? = some t → Tryd.pinned.checked.prog.wantsStandIn t = false := by
  obtain rfl : 5 = f := Option.some.inj (c_name.symm.trans hf)
  obtain rfl : Tryd.f5 = fn := Option.some.inj (Tryd.func5.symm.trans hfn)
  refine ⟨SeatF.c_looks, fun j t ht => ?_⟩
  have h := List.all_eq_true.1 c_stand t (by simpa using Array.mem_of_getElem? ht)
  cases hw : Tryd.pinned.checked.prog.wantsStandIn t with
  | false => rfl
  | true => rw [hw] at h; cases h
theorem c_params : ∀ t ∈ Tryd.f5.params.toList, Tryd.checked.prog.readableRec t = true ∧ t < Tryd.checked.prog.types.size := fun t ht => by
  have h := List.all_eq_true.1 c_read t ht
  rw [Bool.and_eq_true] at h
  exact ⟨h.1, of_decide_eq_true h.2⟩
end growthOne
end Go.Proofs.YtkoddcjkhcnifaaDoor

/- The closed facts of the row of shelfHonest, one by one. -/
import Derived.Test.YtglenbikdahgjaaDoorSeatSh
import Derived.Test.YtglenbikdahgjaaDoorCards
namespace Go.Proofs.YtglenbikdahgjaaDoor
open Go Go.ChangeShapes Go.WideShapes Go.ChangeAt Go.RowKit
namespace shelfHonest
theorem fact0 : (Rows.shelfHonestRow.wf (OpenSpec.ofChange Rows.shelfHonestSpec)) = true := by kernel_rfl
theorem fact3 : (Tryd.f4.params.all (Tryd.pinned.checked.prog.readableRec ·)) = true := by kernel_rfl
theorem fact4 : (namedTie Tryd.pinned.checked.prog Rows.shelfHonestRow.named Rows.shelfHonestSpec.vars) = true := by kernel_rfl
theorem fact5 : ((Rows.shelfHonestRow.stops == [])) = true := by kernel_rfl
theorem fact7 : ((Rows.shelfHonestRow.knobs == [])) = true := by kernel_rfl
theorem fact9 : ((Rows.shelfHonestRow.inPlace == Tryd.pinned.checked.prog.inPlace 4)) = true := by kernel_rfl
theorem fact10 : ((Rows.shelfHonestRow.unfollowed == Tryd.pinned.checked.prog.unfollowed 4)) = true := by kernel_rfl
theorem fact11 : ((Rows.shelfHonestRow.recurses == Tryd.pinned.checked.prog.recurses 4)) = true := by kernel_rfl
theorem fact12 : ((Rows.shelfHonestRow.named == Tryd.pinned.checked.prog.varsNamed 4)) = true := by kernel_rfl
theorem fact13 : ((Rows.shelfHonestRow.maps == (Tryd.f4.params.toList ++ Rows.shelfHonestSpec.plain.varTypes Tryd.pinned.checked.prog).any (Tryd.pinned.checked.prog.mapsRec ·))) = true := by kernel_rfl
theorem fact14 : ((Rows.shelfHonestRow.ifaces == (Tryd.f4.params.toList ++ Rows.shelfHonestSpec.plain.varTypes Tryd.pinned.checked.prog).any (Tryd.pinned.checked.prog.ifacesRec ·))) = true := by kernel_rfl
theorem fact15 : ((Rows.shelfHonestRow.mapsOut == Tryd.pinned.checked.prog.mapsAmong Tryd.f4.resultTypes.toList)) = true := by kernel_rfl
theorem fact16 : ((Rows.shelfHonestRow.loops == (Tryd.f4.params.toList ++ Rows.shelfHonestSpec.plain.varTypes Tryd.pinned.checked.prog).any (Tryd.pinned.checked.prog.loopsFrom ·))) = true := by kernel_rfl
theorem fact17 : ((Rows.shelfHonestRow.wideKeys == (Tryd.f4.params.toList ++ Rows.shelfHonestSpec.plain.varTypes Tryd.pinned.checked.prog ++ Tryd.f4.resultTypes.toList).any (Tryd.pinned.checked.prog.wideKeysFrom ·))) = true := by kernel_rfl
theorem fact18 : (Rows.shelfHonestSpec.vars.all (Tryd.pinned.checked.prog.varReadable ·)) = true := by kernel_rfl
theorem fact19 : (Tryd.f4.resultTypes.all (fun t => Tryd.pinned.checked.prog.readableRec t && decide (t < Tryd.pinned.checked.prog.types.size))) = true := by kernel_rfl
theorem fact20 : ((Rows.shelfHonestRow.ifacesOut == Tryd.f4.resultTypes.toList.any (Tryd.pinned.checked.prog.ifacesRec ·))) = true := by kernel_rfl
theorem fact21 : ((Rows.shelfHonestRow.loopsOut == Tryd.f4.resultTypes.toList.any (Tryd.pinned.checked.prog.loopsFrom ·))) = true := by kernel_rfl
theorem fact22 : ((Rows.shelfHonestRow.plainKeys == Tryd.pinned.checked.prog.plainKeys)) = true := by kernel_rfl
theorem fact23 : (Rows.shelfHonestRow.shortTexts.isNone) = true := by kernel_rfl
theorem fact26 : ((Rows.shelfHonestRow.lifted == Tryd.pinned.checked.prog.liftsFinal)) = true := by kernel_rfl
theorem fact27 : ((Tryd.pinned.checked.prog.make == some Rows.shelfHonestRow.make)) = true := by kernel_rfl
theorem fact28 : ((Rows.shelfHonestRow.kinds == (if Rows.shelfHonestRow.domain.isEmpty then [] else Tryd.f4.params.toList.map fun t => match Tryd.pinned.checked.prog.underlying t with | some (.int k) => some k | _ => none))) = true := by kernel_rfl
theorem fact29 : ((Rows.shelfHonestRow.pinned == Rows.shelfHonestRow.pinnedBy)) = true := by kernel_rfl
theorem fact30 : ((Rows.shelfHonestRow.veiled == (Tryd.f4.params.toList ++ Rows.shelfHonestSpec.plain.varTypes Tryd.pinned.checked.prog ++ Tryd.f4.resultTypes.toList).any (Tryd.pinned.checked.prog.veiledRec ·))) = true := by kernel_rfl
theorem fact31 : (Rows.shelfHonestRow.veiledFits Tryd.pinned.checked.prog Tryd.f4.params.toList (Tryd.f4.params.toList ++ Rows.shelfHonestSpec.plain.varTypes Tryd.pinned.checked.prog ++ Tryd.f4.resultTypes.toList)) = true := by kernel_rfl
set_option maxRecDepth 100000 in
theorem facts : joinedFacts Tryd.pinned.checked.prog 4 (Tryd.f4) Rows.shelfHonestSpec Rows.shelfHonestRow = true := by
  unfold joinedFacts
  exact (SeatF.ai (SeatF.ai (SeatF.ai (SeatF.ai (SeatF.ai (SeatF.ai (SeatF.ai (SeatF.ai (SeatF.ai (SeatF.ai (SeatF.ai (SeatF.ai (SeatF.ai (SeatF.ai (SeatF.ai (SeatF.ai (SeatF.ai (SeatF.ai (SeatF.ai (SeatF.ai (SeatF.ai (SeatF.ai (SeatF.ai (SeatF.ai (SeatF.ai (SeatF.ai (SeatF.ai (SeatF.ai (SeatF.ai (SeatF.ai (SeatF.ai fact0 SeatF.fact1) SeatF.fact2) fact3) fact4) fact5) SeatF.fact6) fact7) SeatF.fact8) fact9) fact10) fact11) fact12) fact13) fact14) fact15) fact16) fact17) fact18) fact19) fact20) fact21) fact22) fact23) SeatF.fact24) SeatF.fact25) fact26) fact27) fact28) fact29) fact30) fact31)
theorem c_wf : Rows.shelfHonestRow.wfByText (OpenSpec.ofChange Rows.shelfHonestSpec) = true := by kernel_rfl
theorem c_stand : (Tryd.f4.params.toList.all fun u => !Tryd.pinned.checked.prog.wantsStandIn u) = true := by kernel_rfl
theorem c_goes : false = Rows.shelfHonestRow.goesBy Tryd.pinned.checked.prog := by kernel_rfl
theorem c_name : Tryd.pinned.checked.prog.funcNamed Rows.shelfHonestRow.func = some 4 := by kernel_rfl
theorem c_har : (!Rows.shelfHonestCard.stood.harness.1 && Rows.shelfHonestCard.stood.harness.2.isEmpty && !false) = false := by kernel_rfl
theorem c_read : (Tryd.f4.params.toList.all fun t => Tryd.checked.prog.readableRec t && decide (t < Tryd.checked.prog.types.size)) = true := by kernel_rfl
theorem c_last (f : FuncId) (fn : Func) (hf : Tryd.pinned.checked.prog.funcNamed Rows.shelfHonestRow.func = some f) (hfn : Tryd.pinned.checked.prog.funcs[f]? = some fn) :
    false = Tryd.pinned.checked.prog.looks [] ∧ ∀ (j : Nat) t, fn.params[j]? = some t → Tryd.pinned.checked.prog.wantsStandIn t = false := by
  obtain rfl : 4 = f := Option.some.inj (c_name.symm.trans hf)
  obtain rfl : Tryd.f4 = fn := Option.some.inj (Tryd.func4.symm.trans hfn)
  refine ⟨SeatF.c_looks, fun j t ht => ?_⟩
  have h := List.all_eq_true.1 c_stand t (by simpa using Array.mem_of_getElem? ht)
  cases hw : Tryd.pinned.checked.prog.wantsStandIn t with
  | false => rfl
  | true => rw [hw] at h; cases h
theorem c_params : ∀ t ∈ Tryd.f4.params.toList, Tryd.checked.prog.readableRec t = true ∧ t < Tryd.checked.prog.types.size := fun t ht => by
  have h := List.all_eq_true.1 c_read t ht
  rw [Bool.and_eq_true] at h
  exact ⟨h.1, of_decide_eq_true h.2⟩
end shelfHonest
end Go.Proofs.YtglenbikdahgjaaDoor

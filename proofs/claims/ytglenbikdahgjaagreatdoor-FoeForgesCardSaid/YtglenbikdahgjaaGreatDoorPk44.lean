/- The closed facts of the row of foeForges, one by one. -/
import Derived.Test.YtglenbikdahgjaaGreatDoorPk43
import Derived.Test.YtglenbikdahgjaaGreatDoorCards
set_option maxRecDepth 100000
set_option maxHeartbeats 16000000
namespace Go.Proofs.YtglenbikdahgjaaGreatDoor
open Go Go.ChangeShapes Go.WideShapes Go.ChangeAt Go.RowKit Go.Proofs.Bl
namespace foeForges
theorem fact0:(Rows.foeForgesRow.wf (OpenSpec.ofChange Rows.foeForgesSpec))=true:=by kernel_rfl
theorem fact3:(Tryz.f3.params.all (Tryz.pinned.checked.prog.readableRec ·))=true:=by kernel_rfl
theorem fact4:(namedTie Tryz.pinned.checked.prog Rows.foeForgesRow.named Rows.foeForgesSpec.vars)=true:=by kernel_rfl
theorem fact5:((Rows.foeForgesRow.stops==[]))=true:=by kernel_rfl
theorem fact7:((Rows.foeForgesRow.knobs==[]))=true:=by kernel_rfl
theorem fact9:((Rows.foeForgesRow.inPlace==Tryz.pinned.checked.prog.inPlace 3))=true:=by kernel_rfl
theorem fact10:((Rows.foeForgesRow.unfollowed==Tryz.pinned.checked.prog.unfollowed 3))=true:=by kernel_rfl
theorem fact11:((Rows.foeForgesRow.recurses==Tryz.pinned.checked.prog.recurses 3))=true:=by kernel_rfl
theorem fact12:((Rows.foeForgesRow.named==Tryz.pinned.checked.prog.varsNamed 3))=true:=by kernel_rfl
theorem fact13:((Rows.foeForgesRow.maps==(Tryz.f3.params.toList++Rows.foeForgesSpec.plain.varTypes Tryz.pinned.checked.prog).any (Tryz.pinned.checked.prog.mapsRec ·)))=true:=by kernel_rfl
theorem fact14:((Rows.foeForgesRow.ifaces==(Tryz.f3.params.toList++Rows.foeForgesSpec.plain.varTypes Tryz.pinned.checked.prog).any (Tryz.pinned.checked.prog.ifacesRec ·)))=true:=by kernel_rfl
theorem fact15:((Rows.foeForgesRow.mapsOut==Tryz.pinned.checked.prog.mapsAmong Tryz.f3.resultTypes.toList))=true:=by kernel_rfl
theorem fact16:((Rows.foeForgesRow.loops==(Tryz.f3.params.toList++Rows.foeForgesSpec.plain.varTypes Tryz.pinned.checked.prog).any (Tryz.pinned.checked.prog.loopsFrom ·)))=true:=by kernel_rfl
theorem fact17:((Rows.foeForgesRow.wideKeys==(Tryz.f3.params.toList++Rows.foeForgesSpec.plain.varTypes Tryz.pinned.checked.prog++Tryz.f3.resultTypes.toList).any (Tryz.pinned.checked.prog.wideKeysFrom ·)))=true:=by kernel_rfl
theorem fact18:(Rows.foeForgesSpec.vars.all (Tryz.pinned.checked.prog.varReadable ·))=true:=by kernel_rfl
theorem fact19:(Tryz.f3.resultTypes.all (fun t=>Tryz.pinned.checked.prog.readableRec t&&decide (t < Tryz.pinned.checked.prog.types.size)))=true:=by kernel_rfl
theorem fact20:((Rows.foeForgesRow.ifacesOut==Tryz.f3.resultTypes.toList.any (Tryz.pinned.checked.prog.ifacesRec ·)))=true:=by kernel_rfl
theorem fact21:((Rows.foeForgesRow.loopsOut==Tryz.f3.resultTypes.toList.any (Tryz.pinned.checked.prog.loopsFrom ·)))=true:=by kernel_rfl
theorem fact22:((Rows.foeForgesRow.plainKeys==Tryz.pinned.checked.prog.plainKeys))=true:=by kernel_rfl
theorem fact23:(Rows.foeForgesRow.shortTexts.isNone)=true:=by kernel_rfl
theorem fact26:((Rows.foeForgesRow.lifted==Tryz.pinned.checked.prog.liftsFinal))=true:=by kernel_rfl
theorem fact27:((Tryz.pinned.checked.prog.make==some Rows.foeForgesRow.make))=true:=by kernel_rfl
theorem fact28:((Rows.foeForgesRow.kinds==(if Rows.foeForgesRow.domain.isEmpty then []else Tryz.f3.params.toList.map fun t=>match Tryz.pinned.checked.prog.underlying t with | some (.int k)=>some k | _=>none)))=true:=by kernel_rfl
theorem fact29:((Rows.foeForgesRow.pinned==Rows.foeForgesRow.pinnedBy))=true:=by kernel_rfl
theorem fact30:((Rows.foeForgesRow.veiled==(Tryz.f3.params.toList++Rows.foeForgesSpec.plain.varTypes Tryz.pinned.checked.prog++Tryz.f3.resultTypes.toList).any (Tryz.pinned.checked.prog.veiledRec ·)))=true:=by kernel_rfl
theorem fact31:(Rows.foeForgesRow.veiledFits Tryz.pinned.checked.prog Tryz.f3.params.toList (Tryz.f3.params.toList++Rows.foeForgesSpec.plain.varTypes Tryz.pinned.checked.prog++Tryz.f3.resultTypes.toList))=true:=by kernel_rfl
theorem facts:joinedFacts Tryz.pinned.checked.prog 3 (Tryz.f3) Rows.foeForgesSpec Rows.foeForgesRow=true:=by
 unfold joinedFacts
 exact(SeatF.ai (SeatF.ai (SeatF.ai (SeatF.ai (SeatF.ai (SeatF.ai (SeatF.ai (SeatF.ai (SeatF.ai (SeatF.ai (SeatF.ai (SeatF.ai (SeatF.ai (SeatF.ai (SeatF.ai (SeatF.ai (SeatF.ai (SeatF.ai (SeatF.ai (SeatF.ai (SeatF.ai (SeatF.ai (SeatF.ai (SeatF.ai (SeatF.ai (SeatF.ai (SeatF.ai (SeatF.ai (SeatF.ai (SeatF.ai (SeatF.ai fact0 SeatF.fact1) SeatF.fact2) fact3) fact4) fact5) SeatF.fact6) fact7) SeatF.fact8) fact9) fact10) fact11) fact12) fact13) fact14) fact15) fact16) fact17) fact18) fact19) fact20) fact21) fact22) fact23) SeatF.fact24) SeatF.fact25) fact26) fact27) fact28) fact29) fact30) fact31)
theorem c_wf:Rows.foeForgesRow.wfByText (OpenSpec.ofChange Rows.foeForgesSpec)=true:=by kernel_rfl
theorem c_stand:(Tryz.f3.params.toList.all fun u=> !Tryz.pinned.checked.prog.wantsStandIn u)=true:=by kernel_rfl
theorem c_goes:false=Rows.foeForgesRow.goesBy Tryz.pinned.checked.prog:=by kernel_rfl
theorem c_name:Tryz.pinned.checked.prog.funcNamed Rows.foeForgesRow.func=some 3:=by kernel_rfl
theorem c_har:(!Rows.foeForgesCard.stood.harness.1&&Rows.foeForgesCard.stood.harness.2.isEmpty&& !false)=false:=by kernel_rfl
theorem c_read:(Tryz.f3.params.toList.all fun t=>Tryz.checked.prog.readableRec t&&decide (t < Tryz.checked.prog.types.size))=true:=by kernel_rfl
theorem c_last (f:FuncId) (fn:Func) (hf:Tryz.pinned.checked.prog.funcNamed Rows.foeForgesRow.func=some f) (hfn:Tryz.pinned.checked.prog.funcs[f]? =some fn):
  false=Tryz.pinned.checked.prog.looks []/\∀(j:Nat) t,fn.params[j]? =some t->Tryz.pinned.checked.prog.wantsStandIn t=false:=by
 obtain rfl:3=f:=Option.some.inj (c_name.symm.trans hf)
 obtain rfl:Tryz.f3=fn:=Option.some.inj (Tryz.func3.symm.trans hfn)
 refine⟨SeatF.c_looks,fun j t ht=> ?_⟩
 have h:=List.all_eq_true.1 c_stand t (by simpa using Array.mem_of_getElem? ht)
 cases hw:Tryz.pinned.checked.prog.wantsStandIn t with
 | false=>rfl
 | true=>rw [hw]at h;cases h
theorem c_params:∀t∈Tryz.f3.params.toList,Tryz.checked.prog.readableRec t=true/\t < Tryz.checked.prog.types.size:=fun t ht=>by
 have h:=List.all_eq_true.1 c_read t ht
 rw [Bool.and_eq_true]at h
 exact⟨h.1,of_decide_eq_true h.2⟩
end foeForges
end Go.Proofs.YtglenbikdahgjaaGreatDoor

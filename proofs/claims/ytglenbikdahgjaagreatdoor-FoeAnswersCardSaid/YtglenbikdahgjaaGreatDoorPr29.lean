/- The closed facts of the row of foeAnswers, one by one. -/
import Derived.Test.YtglenbikdahgjaaGreatDoorPr28
set_option maxRecDepth 100000
set_option maxHeartbeats 16000000
namespace Go.Proofs.YtglenbikdahgjaaGreatDoor
open Go.Proofs.Bl
open Go Go.ChangeShapes Go.WideShapes Go.ChangeAt Go.RowKit
namespace foeAnswers
theorem fact0:(Rows.foeAnswersRow.wf (OpenSpec.ofChange Rows.foeAnswersSpec))=true:=by kernel_rfl
theorem fact3:(Tryz.f4.params.all (Tryz.pinned.checked.prog.readableRec ·))=true:=by kernel_rfl
theorem fact4:(namedTie Tryz.pinned.checked.prog Rows.foeAnswersRow.named Rows.foeAnswersSpec.vars)=true:=by kernel_rfl
theorem fact5:((Rows.foeAnswersRow.stops==[]))=true:=by kernel_rfl
theorem fact7:((Rows.foeAnswersRow.knobs==[]))=true:=by kernel_rfl
theorem fact9:((Rows.foeAnswersRow.inPlace==Tryz.pinned.checked.prog.inPlace 4))=true:=by kernel_rfl
theorem fact10:((Rows.foeAnswersRow.unfollowed==Tryz.pinned.checked.prog.unfollowed 4))=true:=by kernel_rfl
theorem fact11:((Rows.foeAnswersRow.recurses==Tryz.pinned.checked.prog.recurses 4))=true:=by kernel_rfl
theorem fact12:((Rows.foeAnswersRow.named==Tryz.pinned.checked.prog.varsNamed 4))=true:=by kernel_rfl
theorem fact13:((Rows.foeAnswersRow.maps==(Tryz.f4.params.toList++Rows.foeAnswersSpec.plain.varTypes Tryz.pinned.checked.prog).any (Tryz.pinned.checked.prog.mapsRec ·)))=true:=by kernel_rfl
theorem fact14:((Rows.foeAnswersRow.ifaces==(Tryz.f4.params.toList++Rows.foeAnswersSpec.plain.varTypes Tryz.pinned.checked.prog).any (Tryz.pinned.checked.prog.ifacesRec ·)))=true:=by kernel_rfl
theorem fact15:((Rows.foeAnswersRow.mapsOut==Tryz.pinned.checked.prog.mapsAmong Tryz.f4.resultTypes.toList))=true:=by kernel_rfl
theorem fact16:((Rows.foeAnswersRow.loops==(Tryz.f4.params.toList++Rows.foeAnswersSpec.plain.varTypes Tryz.pinned.checked.prog).any (Tryz.pinned.checked.prog.loopsFrom ·)))=true:=by kernel_rfl
theorem fact17:((Rows.foeAnswersRow.wideKeys==(Tryz.f4.params.toList++Rows.foeAnswersSpec.plain.varTypes Tryz.pinned.checked.prog++Tryz.f4.resultTypes.toList).any (Tryz.pinned.checked.prog.wideKeysFrom ·)))=true:=by kernel_rfl
theorem fact18:(Rows.foeAnswersSpec.vars.all (Tryz.pinned.checked.prog.varReadable ·))=true:=by kernel_rfl
theorem fact19:(Tryz.f4.resultTypes.all (fun t=>Tryz.pinned.checked.prog.readableRec t&&decide (t < Tryz.pinned.checked.prog.types.size)))=true:=by kernel_rfl
theorem fact20:((Rows.foeAnswersRow.ifacesOut==Tryz.f4.resultTypes.toList.any (Tryz.pinned.checked.prog.ifacesRec ·)))=true:=by kernel_rfl
theorem fact21:((Rows.foeAnswersRow.loopsOut==Tryz.f4.resultTypes.toList.any (Tryz.pinned.checked.prog.loopsFrom ·)))=true:=by kernel_rfl
theorem fact22:((Rows.foeAnswersRow.plainKeys==Tryz.pinned.checked.prog.plainKeys))=true:=by kernel_rfl
theorem fact23:(Rows.foeAnswersRow.shortTexts.isNone)=true:=by kernel_rfl
theorem fact26:((Rows.foeAnswersRow.lifted==Tryz.pinned.checked.prog.liftsFinal))=true:=by kernel_rfl
theorem fact27:((Tryz.pinned.checked.prog.make==some Rows.foeAnswersRow.make))=true:=by kernel_rfl
theorem fact28:((Rows.foeAnswersRow.kinds==(if Rows.foeAnswersRow.domain.isEmpty then []else Tryz.f4.params.toList.map fun t=>match Tryz.pinned.checked.prog.underlying t with | some (.int k)=>some k | _=>none)))=true:=by kernel_rfl
theorem fact29:((Rows.foeAnswersRow.pinned==Rows.foeAnswersRow.pinnedBy))=true:=by kernel_rfl
theorem fact30:((Rows.foeAnswersRow.veiled==(Tryz.f4.params.toList++Rows.foeAnswersSpec.plain.varTypes Tryz.pinned.checked.prog++Tryz.f4.resultTypes.toList).any (Tryz.pinned.checked.prog.veiledRec ·)))=true:=by kernel_rfl
theorem fact31:(Rows.foeAnswersRow.veiledFits Tryz.pinned.checked.prog Tryz.f4.params.toList (Tryz.f4.params.toList++Rows.foeAnswersSpec.plain.varTypes Tryz.pinned.checked.prog++Tryz.f4.resultTypes.toList))=true:=by kernel_rfl
theorem facts:joinedFacts Tryz.pinned.checked.prog 4 (Tryz.f4) Rows.foeAnswersSpec Rows.foeAnswersRow=true:=by
 unfold joinedFacts;exact(SeatF.ai (SeatF.ai (SeatF.ai (SeatF.ai (SeatF.ai (SeatF.ai (SeatF.ai (SeatF.ai (SeatF.ai (SeatF.ai (SeatF.ai (SeatF.ai (SeatF.ai (SeatF.ai (SeatF.ai (SeatF.ai (SeatF.ai (SeatF.ai (SeatF.ai (SeatF.ai (SeatF.ai (SeatF.ai (SeatF.ai (SeatF.ai (SeatF.ai (SeatF.ai (SeatF.ai (SeatF.ai (SeatF.ai (SeatF.ai (SeatF.ai fact0 SeatF.fact1) SeatF.fact2) fact3) fact4) fact5) SeatF.fact6) fact7) SeatF.fact8) fact9) fact10) fact11) fact12) fact13) fact14) fact15) fact16) fact17) fact18) fact19) fact20) fact21) fact22) fact23) SeatF.fact24) SeatF.fact25) fact26) fact27) fact28) fact29) fact30) fact31)
theorem c_wf:Rows.foeAnswersRow.wfByText (OpenSpec.ofChange Rows.foeAnswersSpec)=true:=by kernel_rfl
theorem c_stand:(Tryz.f4.params.toList.all fun u=> !Tryz.pinned.checked.prog.wantsStandIn u)=true:=by kernel_rfl
theorem c_goes:false=Rows.foeAnswersRow.goesBy Tryz.pinned.checked.prog:=by kernel_rfl
theorem c_name:Tryz.pinned.checked.prog.funcNamed Rows.foeAnswersRow.func=some 4:=by kernel_rfl
theorem c_har:(!Rows.foeAnswersCard.stood.harness.1&&Rows.foeAnswersCard.stood.harness.2.isEmpty&& !false)=false:=by kernel_rfl
theorem c_read:(Tryz.f4.params.toList.all fun t=>Tryz.checked.prog.readableRec t&&decide (t < Tryz.checked.prog.types.size))=true:=by kernel_rfl
theorem c_last (f:FuncId) (fn:Func) (a:Tryz.pinned.checked.prog.funcNamed Rows.foeAnswersRow.func=some f) (b:Tryz.pinned.checked.prog.funcs[f]? =some fn):
  false=Tryz.pinned.checked.prog.looks []/\∀(j:Nat) t,fn.params[j]? =some t->Tryz.pinned.checked.prog.wantsStandIn t=false:=by
 obtain rfl:4=f:=Option.some.inj (c_name.symm.trans a);obtain rfl:Tryz.f4=fn:=Option.some.inj (Tryz.func4.symm.trans b);refine⟨SeatF.c_looks,fun j t c=> ?_⟩;have h:=List.all_eq_true.1 c_stand t (by simpa using Array.mem_of_getElem? c);cases hw:Tryz.pinned.checked.prog.wantsStandIn t with
 | false=>rfl
 | true=>rw[hw]at h;cases h
theorem c_params:∀t∈Tryz.f4.params.toList,Tryz.checked.prog.readableRec t=true/\t < Tryz.checked.prog.types.size:=fun t a=>by
 have h:=List.all_eq_true.1 c_read t a;rw[Bool.and_eq_true]at h;exact⟨h.1,of_decide_eq_true h.2⟩
end foeAnswers
end Go.Proofs.YtglenbikdahgjaaGreatDoor

/- The closed facts of the row of shelfPlays, one by one. -/
import Derived.Test.YtglenbikdahgjaaGreatDoorPs26
set_option maxRecDepth 100000
set_option maxHeartbeats 16000000
namespace Go.Proofs.YtglenbikdahgjaaGreatDoor
open Go.Proofs.Bl
open Go Go.ChangeShapes Go.WideShapes Go.ChangeAt Go.RowKit
namespace shelfPlays
theorem fact0:(Rows.shelfPlaysRow.wf (OpenSpec.ofChange Rows.shelfPlaysSpec))=true:=by kernel_rfl
theorem fact3:(Tryz.f5.params.all (Tryz.pinned.checked.prog.readableRec ·))=true:=by kernel_rfl
theorem fact4:(namedTie Tryz.pinned.checked.prog Rows.shelfPlaysRow.named Rows.shelfPlaysSpec.vars)=true:=by kernel_rfl
theorem fact5:((Rows.shelfPlaysRow.stops==[]))=true:=by kernel_rfl
theorem fact7:((Rows.shelfPlaysRow.knobs==[]))=true:=by kernel_rfl
theorem fact9:((Rows.shelfPlaysRow.inPlace==Tryz.pinned.checked.prog.inPlace 5))=true:=by kernel_rfl
theorem fact10:((Rows.shelfPlaysRow.unfollowed==Tryz.pinned.checked.prog.unfollowed 5))=true:=by kernel_rfl
theorem fact11:((Rows.shelfPlaysRow.recurses==Tryz.pinned.checked.prog.recurses 5))=true:=by kernel_rfl
theorem fact12:((Rows.shelfPlaysRow.named==Tryz.pinned.checked.prog.varsNamed 5))=true:=by kernel_rfl
theorem fact13:((Rows.shelfPlaysRow.maps==(Tryz.f5.params.toList++Rows.shelfPlaysSpec.plain.varTypes Tryz.pinned.checked.prog).any (Tryz.pinned.checked.prog.mapsRec ·)))=true:=by kernel_rfl
theorem fact14:((Rows.shelfPlaysRow.ifaces==(Tryz.f5.params.toList++Rows.shelfPlaysSpec.plain.varTypes Tryz.pinned.checked.prog).any (Tryz.pinned.checked.prog.ifacesRec ·)))=true:=by kernel_rfl
theorem fact15:((Rows.shelfPlaysRow.mapsOut==Tryz.pinned.checked.prog.mapsAmong Tryz.f5.resultTypes.toList))=true:=by kernel_rfl
theorem fact16:((Rows.shelfPlaysRow.loops==(Tryz.f5.params.toList++Rows.shelfPlaysSpec.plain.varTypes Tryz.pinned.checked.prog).any (Tryz.pinned.checked.prog.loopsFrom ·)))=true:=by kernel_rfl
theorem fact17:((Rows.shelfPlaysRow.wideKeys==(Tryz.f5.params.toList++Rows.shelfPlaysSpec.plain.varTypes Tryz.pinned.checked.prog++Tryz.f5.resultTypes.toList).any (Tryz.pinned.checked.prog.wideKeysFrom ·)))=true:=by kernel_rfl
theorem fact18:(Rows.shelfPlaysSpec.vars.all (Tryz.pinned.checked.prog.varReadable ·))=true:=by kernel_rfl
theorem fact19:(Tryz.f5.resultTypes.all (fun t=>Tryz.pinned.checked.prog.readableRec t&&decide (t < Tryz.pinned.checked.prog.types.size)))=true:=by kernel_rfl
theorem fact20:((Rows.shelfPlaysRow.ifacesOut==Tryz.f5.resultTypes.toList.any (Tryz.pinned.checked.prog.ifacesRec ·)))=true:=by kernel_rfl
theorem fact21:((Rows.shelfPlaysRow.loopsOut==Tryz.f5.resultTypes.toList.any (Tryz.pinned.checked.prog.loopsFrom ·)))=true:=by kernel_rfl
theorem fact22:((Rows.shelfPlaysRow.plainKeys==Tryz.pinned.checked.prog.plainKeys))=true:=by kernel_rfl
theorem fact23:(Rows.shelfPlaysRow.shortTexts.isNone)=true:=by kernel_rfl
theorem fact26:((Rows.shelfPlaysRow.lifted==Tryz.pinned.checked.prog.liftsFinal))=true:=by kernel_rfl
theorem fact27:((Tryz.pinned.checked.prog.make==some Rows.shelfPlaysRow.make))=true:=by kernel_rfl
theorem fact28:((Rows.shelfPlaysRow.kinds==(if Rows.shelfPlaysRow.domain.isEmpty then []else Tryz.f5.params.toList.map fun t=>match Tryz.pinned.checked.prog.underlying t with | some (.int k)=>some k | _=>none)))=true:=by kernel_rfl
theorem fact29:((Rows.shelfPlaysRow.pinned==Rows.shelfPlaysRow.pinnedBy))=true:=by kernel_rfl
theorem fact30:((Rows.shelfPlaysRow.veiled==(Tryz.f5.params.toList++Rows.shelfPlaysSpec.plain.varTypes Tryz.pinned.checked.prog++Tryz.f5.resultTypes.toList).any (Tryz.pinned.checked.prog.veiledRec ·)))=true:=by kernel_rfl
theorem fact31:(Rows.shelfPlaysRow.veiledFits Tryz.pinned.checked.prog Tryz.f5.params.toList (Tryz.f5.params.toList++Rows.shelfPlaysSpec.plain.varTypes Tryz.pinned.checked.prog++Tryz.f5.resultTypes.toList))=true:=by kernel_rfl
theorem facts:joinedFacts Tryz.pinned.checked.prog 5 (Tryz.f5) Rows.shelfPlaysSpec Rows.shelfPlaysRow=true:=by
 unfold joinedFacts;exact(SeatF.ai (SeatF.ai (SeatF.ai (SeatF.ai (SeatF.ai (SeatF.ai (SeatF.ai (SeatF.ai (SeatF.ai (SeatF.ai (SeatF.ai (SeatF.ai (SeatF.ai (SeatF.ai (SeatF.ai (SeatF.ai (SeatF.ai (SeatF.ai (SeatF.ai (SeatF.ai (SeatF.ai (SeatF.ai (SeatF.ai (SeatF.ai (SeatF.ai (SeatF.ai (SeatF.ai (SeatF.ai (SeatF.ai (SeatF.ai (SeatF.ai fact0 SeatF.fact1) SeatF.fact2) fact3) fact4) fact5) SeatF.fact6) fact7) SeatF.fact8) fact9) fact10) fact11) fact12) fact13) fact14) fact15) fact16) fact17) fact18) fact19) fact20) fact21) fact22) fact23) SeatF.fact24) SeatF.fact25) fact26) fact27) fact28) fact29) fact30) fact31)
theorem c_wf:Rows.shelfPlaysRow.wfByText (OpenSpec.ofChange Rows.shelfPlaysSpec)=true:=by kernel_rfl
theorem c_stand:(Tryz.f5.params.toList.all fun u=> !Tryz.pinned.checked.prog.wantsStandIn u)=true:=by kernel_rfl
theorem c_goes:false=Rows.shelfPlaysRow.goesBy Tryz.pinned.checked.prog:=by kernel_rfl
theorem c_name:Tryz.pinned.checked.prog.funcNamed Rows.shelfPlaysRow.func=some 5:=by kernel_rfl
theorem c_har:(!Rows.shelfPlaysCard.stood.harness.1&&Rows.shelfPlaysCard.stood.harness.2.isEmpty&& !false)=false:=by kernel_rfl
theorem c_read:(Tryz.f5.params.toList.all fun t=>Tryz.checked.prog.readableRec t&&decide (t < Tryz.checked.prog.types.size))=true:=by kernel_rfl
theorem c_last (f:FuncId) (fn:Func) (a:Tryz.pinned.checked.prog.funcNamed Rows.shelfPlaysRow.func=some f) (b:Tryz.pinned.checked.prog.funcs[f]? =some fn):
  false=Tryz.pinned.checked.prog.looks []/\∀(j:Nat) t,fn.params[j]? =some t->Tryz.pinned.checked.prog.wantsStandIn t=false:=by
 obtain rfl:5=f:=Option.some.inj (c_name.symm.trans a);obtain rfl:Tryz.f5=fn:=Option.some.inj (Tryz.func5.symm.trans b);refine⟨SeatF.c_looks,fun j t c=> ?_⟩;have h:=List.all_eq_true.1 c_stand t (by simpa using Array.mem_of_getElem? c);cases hw:Tryz.pinned.checked.prog.wantsStandIn t with
 | false=>rfl
 | true=>rw[hw]at h;cases h
theorem c_params:∀t∈Tryz.f5.params.toList,Tryz.checked.prog.readableRec t=true/\t < Tryz.checked.prog.types.size:=fun t a=>by
 have h:=List.all_eq_true.1 c_read t a;rw[Bool.and_eq_true]at h;exact⟨h.1,of_decide_eq_true h.2⟩
end shelfPlays
end Go.Proofs.YtglenbikdahgjaaGreatDoor

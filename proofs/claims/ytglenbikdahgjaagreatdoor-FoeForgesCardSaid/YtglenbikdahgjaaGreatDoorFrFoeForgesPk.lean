/- Law FoeForges: the frame of the tied card. -/
import Derived.Test.YtglenbikdahgjaaGreatDoorPk42
import Derived.Test.YtglenbikdahgjaaGreatDoorPk43
import Derived.Test.YtglenbikdahgjaaGreatDoorPk04
import Derived.Test.YtglenbikdahgjaaGreatDoorPk44
import Derived.Test.YtglenbikdahgjaaGreatDoorPk45
import Derived.Test.YtglenbikdahgjaaGreatDoorTie
set_option maxRecDepth 100000
set_option maxHeartbeats 16000000
namespace Go.Proofs.YtglenbikdahgjaaGreatDoor
open Go Go.ChangeShapes Go.WideShapes Go.ChangeAt Go.RowKit Go.Proofs.Bl
namespace foeForges
abbrev laidL:List (String × DataW Unit):=Rows.foeForgesRow.laid
def exs:List (Nat × List UInt8):=[(1,Bl.tx Rows.laid_bailee_api_ErrRange),(3,Bl.tx Rows.laid_bailee_api_ErrLong),(4,Bl.tx Rows.laid_bailee_api_ErrForm),(7,Bl.tx Rows.laid_bailee_api_ErrKind),(8,Bl.tx Rows.laid_bailee_api_ErrSize),(15,Bl.tx Rows.laid_bailee_api_ErrProof)]
theorem door_met (os:Os) (args:Array Value):laidMetH Tryz.prog laidL ((World.doorLaid Tryz.prog 409 os).forCall (fun _ _=>0) ⟨#[],args,[]⟩).memory:=
 laidMetH_of_parts3 (fuel:=8) (laidMet_of_run' 8 (by kernel_rfl) (by kernel_rfl)) (by kernel_rfl) (by kernel_rfl)
theorem lifted (os:Os) (started:os.Started) (H:Type) (enc:TypeId × Value->H):
  ReturnsInHanded {} Tryz.checked os 3 .any (fun w args=>(Rows.foeForgesSpec.pre enc Tryz.prog Tryz.f3 [] false w args/\laidMetH Tryz.prog laidL w)/\sizedMet enc Tryz.prog Tryz.f3 (OpenSpec.ofChange Rows.foeForgesSpec) false w args)
   (Rows.foeForgesSpec.post enc Tryz.prog Tryz.f3 false true false false):=by
 refine returnsInHanded_of_change_and (C:=Tryz.checked) (X:=fun w _=>laidMetH Tryz.prog laidL w) (fun _ _ _ hh h=>h.of_heap hh) own0 started (by kernel_rfl) Tryz.func3
  (ChangeSpec.witness_shaped (enc:=enc) (C:=Tryz.checked) (os:=os) (X:=fun w _=>laidMetH Tryz.prog laidL w) false (World.doorLaid Tryz.prog 409 os) #[.slice none 0 0,.agg #[.int .i64 0,.int .i64 0,.int .i64 0,.slice none 0 0,.slice none 0 0,.int .i64 0,.int .i64 0,.slice none 0 0,.int .i64 0],.slice none 0 0] 8 rfl (World.shaped_of_RefB (by kernel_rfl) (by kernel_rfl)) (by kernel_rfl) (by kernel_rfl) (by kernel_rfl) (door_met os _)) ?_
 intro W base args ds gs before hval0 hW _ _ hL _
 have hval:∀(j:Nat) t v,Tryz.f3.params[j]? =some t->args[j]? =some v->Value.okWide Tryz.prog W .any base t v:=hval0
 have hW':=hW
 obtain⟨p,q,hA0,hV,rfl,hfz,hnd⟩:=hW
 have hA:DataW.TrodAll enc Tryz.prog W 0 (fun _=>true) true Tryz.f3.params.toList args.toList ds p:=hA0
 rw [Tryz.params3]at hA hval
 obtain⟨v0,vs0,d0,ds0,p0,q0,hargs,rfl,rfl,h0,r0⟩:=trodAll_cons hA
 obtain⟨v1,vs1,d1,ds1,p1,q1,rfl,rfl,rfl,h1,r1⟩:=trodAll_cons r0
 obtain⟨v2,vs2,d2,ds2,p2,q2,rfl,rfl,rfl,h2,r2⟩:=trodAll_cons r1
 obtain⟨rfl,rfl,rfl⟩:=trodAll_nil r2
 obtain rfl:args=#[v0,v1,v2]:=by cases args;simp_all
 obtain⟨rfl,rfl⟩:=trodVars_none hV
 obtain⟨x0,R0,b0⟩:=Bl.open_bytess Tryz.underlying22 Tryz.underlying27 Tryz.underlying5 (by kernel_rfl) (by kernel_rfl) (hval 0 22 v0 rfl rfl) h0
 obtain⟨x1,R1⟩:=open_letter22 (hval 1 26 v1 rfl rfl) h1
 obtain⟨x2,R2,b2⟩:=Bl.open_bytes Tryz.underlying27 Tryz.underlying5 (by kernel_rfl) (hval 2 27 v2 rfl rfl) h2
 obtain⟨ea,HErr⟩:=errs_laid hL (fun x=>(exs.map fun y=>nE y.1).contains x.1) exs (by decide) (by decide) (by kernel_rfl)
 have HG:=glob_of hL (by kernel_rfl) (by kernel_rfl) (by kernel_rfl) (by kernel_rfl)
 have HW:=globW_of hL (by kernel_rfl)
 refine(foeforges_all v0 v1 v2 x1 x0 x2 W (exs.map (·.1)) ea R0 b0 R1 R2 b2 HG HW HErr (by decide) (by decide) (by decide) (by decide) (by decide) (by decide)).mono fun e W' ⟨he,hg⟩=> ?_
 subst he
 exact⟨_,rfl,Bl.post_law laidOut c_params (by kernel_rfl) Tryz.underlying4 rfl hg hW' rfl⟩
theorem over:Rows.foeForgesRow.holds Tryz.pinned (OpenSpec.ofChange Rows.foeForgesSpec):=
 OpenClaim.holds_of_wide 3 Tryz.f3 rfl rfl rfl rfl rfl rfl rfl ⟨rfl,rfl,rfl,rfl,rfl⟩ rfl rfl rfl rfl rfl c_name Tryz.func3 facts
  (of_decide_eq_true (by kernel_rfl)) (by unfold Func.isWrapper;first | (rw [if_pos (by decide+kernel)];kernel_rfl) | (rw [if_neg (by decide+kernel)];exact⟨rfl,rfl⟩))
  (fun os started H enc _=>lifted os started H enc)
theorem proved:Rows.FoeForgesCardSaid:=
 Claim7.holds_tied_plain_at .later [] Rows.foeForgesCard.laidKinds true Rows.foeForgesCard.stood.harness false over (fun _ h=>by cases h) c_wf (fun _ h=>by cases h) foeForges_row_tie rfl ⟨rfl,rfl⟩ SeatF.c_main c_har c_last c_goes
#print axioms proved
end foeForges
end Go.Proofs.YtglenbikdahgjaaGreatDoor

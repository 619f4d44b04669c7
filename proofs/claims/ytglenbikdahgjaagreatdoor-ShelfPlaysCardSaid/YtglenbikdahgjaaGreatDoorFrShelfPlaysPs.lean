/- Law ShelfPlays: the frame of the tied card. -/
import Derived.Test.YtglenbikdahgjaaGreatDoorPs25
import Derived.Test.YtglenbikdahgjaaGreatDoorPs27
import Derived.Test.YtglenbikdahgjaaGreatDoorTie
set_option maxRecDepth 100000
set_option maxHeartbeats 16000000
namespace Go.Proofs.YtglenbikdahgjaaGreatDoor
open Go.Proofs.Bl
open Go Go.ChangeShapes Go.WideShapes Go.ChangeAt Go.RowKit
namespace shelfPlays

abbrev laidL:List (String × DataW Unit):=Rows.shelfPlaysRow.laid
def exs:List (Nat × List UInt8):=[(1,Bl.tx Rows.laid_bailee_api_ErrRange),(2,Bl.tx Rows.laid_bailee_api_ErrShort),(3,Bl.tx Rows.laid_bailee_api_ErrLong),(4,Bl.tx Rows.laid_bailee_api_ErrForm),(7,Bl.tx Rows.laid_bailee_api_ErrKind),(8,Bl.tx Rows.laid_bailee_api_ErrSize)]
theorem door_met (os:Os) (args:Array Value):laidMetH Tryz.prog laidL ((World.doorLaid Tryz.prog 409 os).forCall (fun _ _=>0) ⟨#[],args,[]⟩).memory:=
 laidMetH_of_parts3 (fuel:=8) (laidMet_of_run' 8 (by kernel_rfl) (by kernel_rfl)) (by kernel_rfl) (by kernel_rfl)
theorem lifted (os:Os) (started:os.Started) (H:Type) (enc:TypeId × Value->H):
  ReturnsInHanded {} Tryz.checked os 5 .any (fun w args=>(Rows.shelfPlaysSpec.pre enc Tryz.prog Tryz.f5 [] false w args/\laidMetH Tryz.prog laidL w)/\sizedMet enc Tryz.prog Tryz.f5 (OpenSpec.ofChange Rows.shelfPlaysSpec) false w args)
   (Rows.shelfPlaysSpec.post enc Tryz.prog Tryz.f5 false true false false):=by
 refine returnsInHanded_of_change_and (C:=Tryz.checked) (X:=fun w _=>laidMetH Tryz.prog laidL w) (fun _ _ _ r h=>h.of_heap r) zt started (by kernel_rfl) Tryz.func5
  (ChangeSpec.witness_shaped (enc:=enc) (C:=Tryz.checked) (os:=os) (X:=fun w _=>laidMetH Tryz.prog laidL w) false (World.doorLaid Tryz.prog 409 os) #[.slice none 0 0] 8 rfl (World.shaped_of_RefB (by kernel_rfl) (by kernel_rfl)) (by kernel_rfl) (by kernel_rfl) (by kernel_rfl) (door_met os _)) ?_
 intro W base args ds gs before s c _ _ b _;have d:∀(j:Nat) t v,Tryz.f5.params[j]? =some t->args[j]? =some v->Value.okWide Tryz.prog W .any base t v:=s;have n:=c;obtain⟨p,q,l,m,rfl,E,F⟩:=c;have a:DataW.TrodAll enc Tryz.prog W 0 (fun _=>true) true Tryz.f5.params.toList args.toList ds p:=l;rw[Tryz.params5]at a d;obtain⟨v0,J,d0,B,G,I,D,rfl,rfl,h0,u⟩:=trodAll_cons a;obtain⟨rfl,rfl,rfl⟩:=trodAll_nil u;obtain rfl:args=#[v0]:=by cases args;simp_all
 obtain⟨rfl,rfl⟩:=trodVars_none m;obtain⟨z,i⟩:=re (d 0 70 v0 rfl rfl) h0;obtain⟨k,f⟩:=rP b (fun x=>(exs.map fun y=>nE y.1).contains x.1) exs (by decide) (by decide) (by kernel_rfl);have g:=xo b (by kernel_rfl) (by kernel_rfl) (by kernel_rfl) (by kernel_rfl);refine(pC v0 z W (exs.map (·.1)) k i g f (by decide) (by decide) (by decide) (by decide) (by decide) (by decide)).mono fun e A ⟨he,o⟩=> ?_
 subst he;exact⟨_,rfl,Bl.ui wC c_params (by kernel_rfl) Tryz.underlying4 rfl o n rfl⟩
theorem over:Rows.shelfPlaysRow.holds Tryz.pinned (OpenSpec.ofChange Rows.shelfPlaysSpec):=
 OpenClaim.holds_of_wide 5 Tryz.f5 rfl rfl rfl rfl rfl rfl rfl ⟨rfl,rfl,rfl,rfl,rfl⟩ rfl rfl rfl rfl rfl c_name Tryz.func5 facts
  (of_decide_eq_true (by kernel_rfl)) (by unfold Func.isWrapper;first | (rw[if_pos (by decide+kernel)];kernel_rfl) | (rw[if_neg (by decide+kernel)];exact⟨rfl,rfl⟩))
  (fun os started H enc _=>lifted os started H enc)
theorem proved:Rows.ShelfPlaysCardSaid:=
 Claim7.holds_tied_plain_at .later [] Rows.shelfPlaysCard.laidKinds true Rows.shelfPlaysCard.stood.harness false over (fun _ h=>by cases h) c_wf (fun _ h=>by cases h) shelfPlays_row_tie rfl ⟨rfl,rfl⟩ SeatF.c_main c_har c_last c_goes
#print axioms proved
end shelfPlays
end Go.Proofs.YtglenbikdahgjaaGreatDoor

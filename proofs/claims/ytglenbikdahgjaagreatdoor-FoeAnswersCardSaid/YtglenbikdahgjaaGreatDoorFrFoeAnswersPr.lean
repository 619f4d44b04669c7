/- Law FoeAnswers: the frame of the tied card. -/
import Derived.Test.YtglenbikdahgjaaGreatDoorPr27
import Derived.Test.YtglenbikdahgjaaGreatDoorPr29
import Derived.Test.YtglenbikdahgjaaGreatDoorPr30
import Derived.Test.YtglenbikdahgjaaGreatDoorTie
set_option maxRecDepth 100000
set_option maxHeartbeats 16000000
namespace Go.Proofs.YtglenbikdahgjaaGreatDoor
open Go.Proofs.Bl
open Go Go.ChangeShapes Go.WideShapes Go.ChangeAt Go.RowKit
namespace foeAnswers

abbrev laidL:List (String × DataW Unit):=Rows.foeAnswersRow.laid
def exs:List (Nat × List UInt8):=[(1,Bl.tx Rows.laid_bailee_api_ErrRange),(2,Bl.tx Rows.laid_bailee_api_ErrShort),(3,Bl.tx Rows.laid_bailee_api_ErrLong),(4,Bl.tx Rows.laid_bailee_api_ErrForm),(7,Bl.tx Rows.laid_bailee_api_ErrKind),(8,Bl.tx Rows.laid_bailee_api_ErrSize)]
theorem door_met (os:Os) (args:Array Value):laidMetH Tryz.prog laidL ((World.doorLaid Tryz.prog 409 os).forCall (fun _ _=>0) ⟨#[],args,[]⟩).memory:=
 laidMetH_of_parts3 (fuel:=8) (laidMet_of_run' 8 (by kernel_rfl) (by kernel_rfl)) (by kernel_rfl) (by kernel_rfl)
theorem lifted (os:Os) (started:os.Started) (H:Type) (enc:TypeId × Value->H):
  ReturnsInHanded {} Tryz.checked os 4 .any (fun w args=>(Rows.foeAnswersSpec.pre enc Tryz.prog Tryz.f4 [] false w args/\laidMetH Tryz.prog laidL w)/\sizedMet enc Tryz.prog Tryz.f4 (OpenSpec.ofChange Rows.foeAnswersSpec) false w args)
   (Rows.foeAnswersSpec.post enc Tryz.prog Tryz.f4 false true false false):=by
 refine returnsInHanded_of_change_and (C:=Tryz.checked) (X:=fun w _=>laidMetH Tryz.prog laidL w) (fun _ _ _ B h=>h.of_heap B) A8 started (by kernel_rfl) Tryz.func4
  (ChangeSpec.witness_shaped (enc:=enc) (C:=Tryz.checked) (os:=os) (X:=fun w _=>laidMetH Tryz.prog laidL w) false (World.doorLaid Tryz.prog 409 os) #[.slice none 0 0,.slice none 0 0,.agg #[.int .i64 0,.int .i64 0,.int .i64 0]] 8 rfl (World.shaped_of_RefB (by kernel_rfl) (by kernel_rfl)) (by kernel_rfl) (by kernel_rfl) (by kernel_rfl) (door_met os _)) ?_
 intro W base args ds gs before D d _ _ b _;have a:∀(j:Nat) t v,Tryz.f4.params[j]? =some t->args[j]? =some v->Value.okWide Tryz.prog W .any base t v:=D;have z:=d;obtain⟨p,q,s,u,rfl,P,Q⟩:=d;have c:DataW.TrodAll enc Tryz.prog W 0 (fun _=>true) true Tryz.f4.params.toList args.toList ds p:=s;rw[Tryz.params4]at c a;obtain⟨v0,V,d0,L,R,S,O,rfl,rfl,h0,E⟩:=trodAll_cons c;obtain⟨v1,Y,d1,M,p1,T,rfl,rfl,rfl,h1,F⟩:=trodAll_cons E;obtain⟨v2,vs2,d2,N,p2,U,rfl,rfl,rfl,h2,G⟩:=trodAll_cons F;obtain⟨rfl,rfl,rfl⟩:=trodAll_nil G;obtain rfl:args=#[v0,v1,v2]:=by cases args;simp_all
 obtain⟨rfl,rfl⟩:=trodVars_none u;obtain⟨I,k,b0⟩:=Bl.o7 Tryz.underlying22 Tryz.underlying27 Tryz.underlying5 (by kernel_rfl) (by kernel_rfl) (a 0 22 v0 rfl rfl) h0;obtain⟨J,l,m⟩:=Bl.qT Tryz.underlying27 Tryz.underlying5 (by kernel_rfl) (a 1 27 v1 rfl rfl) h1;obtain⟨a2,n,o,rfl⟩:=sm (a 2 65 v2 rfl rfl) h2;obtain⟨r,f⟩:=tm b (fun x=>(exs.map fun y=>nE y.1).contains x.1) exs (by decide) (by decide) (by kernel_rfl);have g:=yE b (by kernel_rfl) (by kernel_rfl) (by kernel_rfl) (by kernel_rfl);have i:=xy b (by kernel_rfl);refine(mD v0 v1 a2 n o I J W (exs.map (·.1)) r k b0 l m g i f (by decide) (by decide) (by decide) (by decide) (by decide) (by decide)).mono fun e K ⟨he,A⟩=> ?_
 subst he;exact⟨_,rfl,Bl.vt xM c_params (by kernel_rfl) Tryz.underlying4 rfl A z rfl⟩
theorem over:Rows.foeAnswersRow.holds Tryz.pinned (OpenSpec.ofChange Rows.foeAnswersSpec):=
 OpenClaim.holds_of_wide 4 Tryz.f4 rfl rfl rfl rfl rfl rfl rfl ⟨rfl,rfl,rfl,rfl,rfl⟩ rfl rfl rfl rfl rfl c_name Tryz.func4 facts
  (of_decide_eq_true (by kernel_rfl)) (by unfold Func.isWrapper;first | (rw[if_pos (by decide+kernel)];kernel_rfl) | (rw[if_neg (by decide+kernel)];exact⟨rfl,rfl⟩))
  (fun os started H enc _=>lifted os started H enc)
theorem proved:Rows.FoeAnswersCardSaid:=
 Claim7.holds_tied_plain_at .later [] Rows.foeAnswersCard.laidKinds true Rows.foeAnswersCard.stood.harness false over (fun _ h=>by cases h) c_wf (fun _ h=>by cases h) foeAnswers_row_tie rfl ⟨rfl,rfl⟩ SeatF.c_main c_har c_last c_goes
#print axioms proved
end foeAnswers
end Go.Proofs.YtglenbikdahgjaaGreatDoor

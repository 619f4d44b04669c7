/- The row's last step where new blocks are all that is new: 'Ext'. And the start that fits: the heap that the door leaves, with the library's table beside. -/
import Derived.Below
import Derived.ChangeSame
import Derived.ProofKit
import Derived.OpenShut
import Derived.LaidMore
import Derived.Stop.Joined
import GoSem.PinnedTables
import Derived.Test.YtkndnmpdklidkaaDoorRows
import Derived.Test.YtkndnmpdklidkaaDoorBase
namespace Go.Proofs.Bl
open Go Go.ChangeShapes Go.WideShapes Go.ChangeAt Go.RowKit
/-- the post out of 'Ext': the arguments' places lie below the heap's old size, so their marks are as they were -/
theorem post_ext {H : Type} {enc : TypeId × Value → H} {P : Program} {f : Func} {s : ChangeSpec} {apart fresh handsOn again : Bool} {W W' : World} {args : Array Value} {v : Value} {ds gs : List (DataW H)} {before pa pv : List MemPlace}
    (hb : Ext W W') (hW : DataW.Whole enc P f.params.toList s.vars apart W args.toList ds gs before)
    (hres : ∀ (b : Nat) (sp : Nat → Bool) (hd : Bool), DataW.TrodAll enc P W' b sp hd f.resultTypes.toList (v.resultList f.resultTypes.size) (s.fn H (ds ++ gs)).results [])
    (hargs : ∀ sp : Nat → Bool, (∀ p ∈ before, sp p.block = true) → DataW.TrodAll enc P W' 0 sp true f.params.toList args.toList (s.fn H (ds ++ gs)).args pa)
    (hvars : ∀ sp : Nat → Bool, (∀ p ∈ before, sp p.block = true) → DataW.TrodVars enc P W' sp s.vars (s.fn H (ds ++ gs)).vars pv)
    (hps : before = pa ++ pv)
    (hok : ∀ (j : Nat) (t : TypeId) (r : Value), f.resultTypes[j]? = some t → (v.resultList f.resultTypes.size)[j]? = some r → Value.okWide P W' .any 0 t r) :
    s.post enc P f apart fresh handsOn again W args v W' := by
  have hlt : ∀ p ∈ before, p.block < W.heap.size := fun p hp => hW.lt p hp
  have hall : ∀ p ∈ before, decide (p.block < W.heap.size) = true := fun p hp => decide_eq_true (hlt p hp)
  have hk : W.keptBut W' (· ∈ before) := hb.frame _
  have h1 := hargs (fun b => decide (b < W.heap.size)) hall
  have h2 := hvars (fun b => decide (b < W.heap.size)) hall
  refine ⟨ds, gs, before, [], pa, pv, hW, hres _ _ _, h1, h2, World.keptBut_mono (fun p hp => ⟨hp, ?_⟩) hk, fun _ => ?_⟩
  · rw [hps] at hp
    exact Or.inr (List.mem_append.1 hp)
  · obtain ⟨_, _, _, _, _, hz, hn⟩ := hW
    have hmem : ∀ p, p ∈ ([] ++ pa) ++ pv → p ∈ before := fun p hp => by rw [hps]; simpa using hp
    refine ⟨hok, _, _, ([] ++ pa) ++ pv, ⟨[] ++ pa, pv, trodAll_append (hargs _ (fun _ _ => rfl)) (hres _ _ _), hvars _ (fun _ _ => rfl), rfl, fun b off hp => ?_, fun ha => ?_⟩, fun p hp _ => ?_⟩
    · rw [hb.frozen (hlt _ (hmem _ hp))]
      exact hz b off (hmem _ hp)
    · have := hn ha
      rw [hps] at this
      simpa using this
    · rw [hps]; simpa using hp
end Go.Proofs.Bl
namespace Go.Proofs.YtkndnmpdklidkaaDoor
open Go Go.ChangeShapes Go.WideShapes Go.ChangeAt Go.RowKit
theorem own0 : ownKnob Tryd.prog.godebug = none := by kernel_rfl
end Go.Proofs.YtkndnmpdklidkaaDoor

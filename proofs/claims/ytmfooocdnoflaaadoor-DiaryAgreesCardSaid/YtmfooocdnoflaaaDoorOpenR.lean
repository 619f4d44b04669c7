/- Lists of bytes' lists that came in, as our reading; the digest's tables out of what is laid. -/
import Derived.Test.YtmfooocdnoflaaaDoorOpn0
import Derived.Test.YtmfooocdnoflaaaDoorShaB
import Derived.Test.YtmfooocdnoflaaaDoorGlobR
import Derived.Test.YtmfooocdnoflaaaDoorRows
namespace Go.Proofs.Bl
open Go Go.ChangeShapes Go.WideShapes Go.ChangeAt Go.RowKit Go.Deep
theorem open_bytess {H : Type} {enc : TypeId × Value → H} {P : Program} {w : World} {base : Nat} {t e q : TypeId} (ht : P.underlying t = some (.slice e)) (he : P.underlying e = some (.slice q)) (hq : P.underlying q = some (.int .u8)) (ce : P.cellsOf e = 1) (cq : P.cellsOf q = 1) {v : Value} {d : DataW H} {p : List MemPlace}
    (hval : Value.okWide P w .any base t v) (h : DataW.Trod enc P w 0 (fun _ => true) true t v d p) : ∃ ps, Rdss w v ps ∧ ∀ l ∈ ps, Byt l := by
  obtain ⟨a0, len0, cap0, rfl⟩ := okWide_slice ht hval
  obtain ⟨fuel, hf⟩ := h
  rcases open_int_rows ht he hq ce cq hf with ⟨hcs, _⟩ | ⟨a, len, cap, A, L, C, Z, hcs, _, hl, hm, _, hrows⟩
  · simp [Value.cells] at hcs
    obtain ⟨rfl, rfl, rfl⟩ := hcs
    exact ⟨[], ⟨[], Rds.nil _, rfl, fun i hi => absurd hi (Nat.not_lt_zero _)⟩, fun l hl => by cases hl⟩
  · simp [Value.cells] at hcs
    obtain ⟨rfl, rfl, rfl⟩ := hcs
    refine ⟨(List.range len0).map fun r => (Z r).take (L r), ⟨(List.range len0).map fun r => .slice (A r) (L r) (C r), ?_, by simp, fun i hi => ?_⟩, fun l hl' => ?_⟩
    · rw [List.length_map, List.length_range]
      refine rds_parts hl hm (by simp) (fun q => by cases q) (fun a' ha => ?_)
      cases ha
      refine ⟨fun hC => ?_, fun c v hv => ?_⟩
      · have := World.cell?_spot (hrows 0 hC).1
        simpa [Addr.add] using this
      · have hc : c < len0 := by have := (List.getElem?_eq_some_iff.1 hv).1; simpa using this
        have e1 : v = .slice (A c) (L c) (C c) := by simpa [hc] using hv.symm
        rw [e1]; exact (hrows c (by omega)).1
    · have hi' : i < len0 := by simpa using hi
      obtain ⟨_, h1, h2, h3, _, h4, h5⟩ := hrows i (by omega)
      have e1 : ((List.range len0).map fun r => Value.slice (A r) (L r) (C r)).getD i undef = .slice (A i) (L i) (C i) := by simp [List.getD_eq_getElem?_getD, hi']
      have e2 : ((List.range len0).map fun r => (Z r).take (L r)).getD i [] = (Z i).take (L i) := by simp [List.getD_eq_getElem?_getD, hi']
      rw [e1, e2]
      exact rd_parts h1 h2 h3 h4 fun a' ha c hc => (h5 a' ha).2 c hc
    · obtain ⟨r, hr, rfl⟩ := List.mem_map.1 hl'
      have hr' := List.mem_range.1 hr
      obtain ⟨_, _, _, _, hw, _, _⟩ := hrows r (by omega)
      exact fun x hx => wf_byte (hw x (List.mem_of_mem_take hx))
end Go.Proofs.Bl
namespace Go.Proofs.YtmfooocdnoflaaaDoor
open Go Go.ChangeShapes Go.WideShapes Go.ChangeAt Go.RowKit
theorem laidOut : laidOutB Tryd.prog = true := by kernel_rfl
/-- the tables of package sha, out of what is laid: 'h1', 'h2': each stands once in the row's list -/
theorem globS_of {L : List (String × DataW Unit)} {w : World} (h : laidMetH Tryd.prog L w)
    (h1 : (L.filter fun x => x.1 == "bailee/sha.added") = [("bailee/sha.added", Lib.tabData .u32 Bl.kt)]) (h2 : (L.filter fun x => x.1 == "bailee/sha.first") = [("bailee/sha.first", Lib.tabData .u32 Bl.iv)]) : Glob w :=
  ⟨Bl.laid_cell h h1 (by kernel_rfl) (t := 143) (by kernel_rfl) Tryd.underlying143 Tryd.underlying141 (by kernel_rfl) (by kernel_rfl),
   Bl.laid_cell h h2 (by kernel_rfl) (t := 145) (by kernel_rfl) Tryd.underlying145 Tryd.underlying141 (by kernel_rfl) (by kernel_rfl)⟩
/-- the four tables -/
theorem glob_of {L : List (String × DataW Unit)} {w : World} (h : laidMetH Tryd.prog L w)
    (h1 : (L.filter fun x => x.1 == "bailee/sha.added") = [("bailee/sha.added", Lib.tabData .u32 Bl.kt)]) (h2 : (L.filter fun x => x.1 == "bailee/sha.first") = [("bailee/sha.first", Lib.tabData .u32 Bl.iv)])
    (h3 : (L.filter fun x => x.1 == "bailee/baileeref07.added") = [("bailee/baileeref07.added", Lib.tabData .u32 Bl.kt)]) (h4 : (L.filter fun x => x.1 == "bailee/baileeref07.begins") = [("bailee/baileeref07.begins", Lib.tabData .u32 Bl.iv)]) : GlobR w :=
  ⟨globS_of h h1 h2,
   Bl.laid_cell h h3 (by kernel_rfl) (t := 143) (by kernel_rfl) Tryd.underlying143 Tryd.underlying141 (by kernel_rfl) (by kernel_rfl),
   Bl.laid_cell h h4 (by kernel_rfl) (t := 142) (by kernel_rfl) Tryd.underlying142 Tryd.underlying141 (by kernel_rfl) (by kernel_rfl)⟩
end Go.Proofs.YtmfooocdnoflaaaDoor

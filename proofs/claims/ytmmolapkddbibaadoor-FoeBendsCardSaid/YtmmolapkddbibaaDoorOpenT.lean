/- A trick that came in; the tricks' words out of what is laid. -/
import Derived.Test.YtmmolapkddbibaaDoorOpn2
import Derived.Test.YtmmolapkddbibaaDoorWds
namespace Go.Proofs.Bl
open Go Go.ChangeShapes Go.WideShapes Go.ChangeAt Go.RowKit Go.Deep
theorem open_three {H : Type} {enc : TypeId × Value → H} {P : Program} {w : World} {base : Nat} {t ti : TypeId} {f0 f1 f2 : Field} (ht : P.underlying t = some (.struct #[f0, f1, f2])) (e0 : f0.type = ti) (e1 : f1.type = ti) (e2 : f2.type = ti) (o0 : f0.offset = 0) (o1 : f1.offset = 1) (o2 : f2.offset = 2)
    (hi : P.underlying ti = some (.int .i64)) (ci : P.cellsOf ti = 1) (ct : P.cellsOf t = 3) {v : Value} {d : DataW H} {p : List MemPlace}
    (hval : Value.okWide P w .any base t v) (h : DataW.Trod enc P w 0 (fun _ => true) true t v d p) : ∃ a b c, v = .agg #[.int .i64 a, .int .i64 b, .int .i64 c] := by
  obtain ⟨⟨L⟩, rfl, hsz⟩ := okWide_struct ht hval
  obtain ⟨fuel, hf⟩ := h
  obtain ⟨hlen, k, hk⟩ := od_fields ht hf
  obtain ⟨_, h0⟩ := hk 0 f0 rfl
  obtain ⟨_, h1⟩ := hk 1 f1 rfl
  obtain ⟨_, h2⟩ := hk 2 f2 rfl
  simp only [Value.cells] at h0 h1 h2 hlen
  rw [e0, o0, ci] at h0
  rw [e1, o1, ci] at h1
  rw [e2, o2, ci] at h2
  obtain ⟨a, q0, _⟩ := DataW.trod_int hi h0
  obtain ⟨b, q1, _⟩ := DataW.trod_int hi h1
  obtain ⟨c, q2, _⟩ := DataW.trod_int hi h2
  have e := list3 (hlen.trans ct) (od_one q0) (od_one q1) (od_one q2)
  exact ⟨a, b, c, by rw [e]⟩
end Go.Proofs.Bl
namespace Go.Proofs.YtmmolapkddbibaaDoor
open Go Go.ChangeShapes Go.WideShapes Go.ChangeAt Go.RowKit
set_option maxRecDepth 100000 in
theorem open_trick {H : Type} {enc : TypeId × Value → H} {w : World} {base : Nat} {v : Value} {d : DataW H} {p : List MemPlace} (hval : Value.okWide Tryd.prog w .any base 28 v) (h : DataW.Trod enc Tryd.prog w 0 (fun _ => true) true 28 v d p) : ∃ a b c, v = .agg #[.int .i64 a, .int .i64 b, .int .i64 c] :=
  Bl.open_three (ti := 3) Tryd.underlying28 rfl rfl rfl rfl rfl rfl Tryd.underlying3 (by kernel_rfl) (by kernel_rfl) hval h
theorem globW_of {L : List (String × DataW Unit)} {w : World} (h : laidMetH Tryd.prog L w) (hf : (L.filter fun x => x.1 == "bailee/foe.words") = [("bailee/foe.words", DataW.agg (fwords.map fun z => DataW.lit (Lit.string z)))]) : GlobW w :=
  ⟨Bl.laid_strs h hf (by kernel_rfl) (t := 80) (by kernel_rfl) Tryd.underlying80 Tryd.underlying9 (by kernel_rfl) (by kernel_rfl) (by kernel_rfl)⟩
end Go.Proofs.YtmmolapkddbibaaDoor

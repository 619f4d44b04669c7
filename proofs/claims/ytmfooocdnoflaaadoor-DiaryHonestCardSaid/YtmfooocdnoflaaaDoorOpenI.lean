/- A row of numbers that came in, as our reading. No program. -/
import Derived.Test.YtmfooocdnoflaaaDoorOpn0
namespace Go.Proofs.Bl
open Go Go.ChangeShapes Go.WideShapes Go.ChangeAt Go.RowKit Go.Deep
theorem rd_parts64 {w : World} {A : Option Addr} {L C : Nat} {Z : List Int} (h1 : L ≤ C) (h2 : C ≤ maxLen) (h3 : Z.length = C) (h4 : A = none → C = 0)
    (h5 : ∀ a, A = some a → ∀ c, c < C → w.cell? (a.add c) = some (.int .i64 (Z.getD c 0))) : Rd w .i64 (.slice A L C) (Z.take L) := by
  have hl : (Z.take L).length = L := by rw [List.length_take]; omega
  show Rds w (.slice A L C) (Z.take L).length _
  rw [hl]
  refine rds_parts h1 h2 (by rw [ints_length, hl]) h4 fun a ha => ⟨fun hC => ?_, fun c v hv => ?_⟩
  · have := World.cell?_spot (h5 a ha 0 hC)
    simpa [Addr.add] using this
  · have hc : c < L := by have := (List.getElem?_eq_some_iff.1 hv).1; rw [ints_length, hl] at this; exact this
    rw [ints_get _ _ _ (by rw [hl]; exact hc)] at hv
    cases hv
    rw [h5 a ha c (by omega)]
    simp [List.getD_eq_getElem?_getD, hc]
theorem wf_i64 {n : Int} (h : (Lit.int .i64 n).wf = true) : -9223372036854775808 ≤ n ∧ n ≤ 9223372036854775807 := by
  simpa [Lit.wf, IntKind.min, IntKind.max, IntKind.signed, IntKind.bits] using h
section
variable {H : Type} {enc : TypeId × Value → H} {P : Program} {w : World} {base : Nat}
theorem open_i64s {t e : TypeId} (ht : P.underlying t = some (.slice e)) (he : P.underlying e = some (.int .i64)) (hc : P.cellsOf e = 1) {v : Value} {d : DataW H} {p : List MemPlace}
    (hval : Value.okWide P w .any base t v) (h : DataW.Trod enc P w 0 (fun _ => true) true t v d p) : ∃ l, Rd w .i64 v l ∧ ∀ x ∈ l, -9223372036854775808 ≤ x ∧ x ≤ 9223372036854775807 := by
  obtain ⟨a0, len0, cap0, rfl⟩ := okWide_slice ht hval
  obtain ⟨fuel, hf⟩ := h
  rcases open_ints ht he hc hf with ⟨hcs, _⟩ | ⟨a, len, cap, zs, hcs, _, hl, hm, hz, _, hcell, hw⟩
  · simp [Value.cells] at hcs
    obtain ⟨rfl, rfl, rfl⟩ := hcs
    exact ⟨[], Rd.nil _ _, fun x hx => by cases hx⟩
  · simp [Value.cells] at hcs
    obtain ⟨rfl, rfl, rfl⟩ := hcs
    simp only [if_true] at hz
    exact ⟨zs.take len0, rd_parts64 hl hm hz (fun q => by cases q) (fun a' ha c hc => by cases ha; exact hcell c (by omega)), fun x hx => wf_i64 (hw x (List.mem_of_mem_take hx))⟩
end
end Go.Proofs.Bl

/- Arrays of bytes that came in, as our reading. No program. -/
import Derived.Test.YtdodgcapihfkkaaDoorOpen
namespace Go.Proofs.Bl
open Go Go.ChangeShapes Go.WideShapes Go.ChangeAt Go.RowKit Go.Deep
section
variable {H : Type} {enc : TypeId × Value → H} {P : Program} {w : World} {base : Nat}
theorem open_cell {sp : Nat → Bool} {held : Bool} {e : TypeId} (he : P.underlying e = some (.int .u8)) {m : Nat} {c : Value} {y : DataW H × List MemPlace} (h : DataW.trod enc P w base sp held m e [c] = some y) : ∃ z, c = .int .u8 z ∧ 0 ≤ z ∧ z ≤ 255 := by
  cases m with
  | zero => simp [DataW.trod] at h
  | succ m =>
    unfold DataW.trod at h
    rw [he] at h
    cases c <;> simp at h
    rename_i k z
    obtain ⟨⟨rfl, hw⟩, _⟩ := h
    exact ⟨z, rfl, wf_byte hw⟩
theorem open_arr8 {t e : TypeId} {n : Nat} (ht : P.underlying t = some (.array n e)) (he : P.underlying e = some (.int .u8)) (hc : P.cellsOf e = 1) (hct : P.cellsOf t = n) {v : Value} {d : DataW H} {p : List MemPlace}
    (hval : Value.okWide P w .any base t v) (h : DataW.Trod enc P w 0 (fun _ => true) true t v d p) : ∃ l, v = .agg (ints .u8 l).toArray ∧ l.length = n ∧ Byt l := by
  simp only [Value.okWide, ht] at hval
  obtain ⟨cs, rfl, hcs, _⟩ := hval
  obtain ⟨fuel, hf⟩ := h
  obtain ⟨xs, m, _, _, hl, hxl, hel⟩ := DataW.trod_array ht hf
  simp only [Value.cells] at hl hel
  rw [hct] at hl
  have each : ∀ i, i < n → ∃ z, cs.toList[i]? = some (.int .u8 z) ∧ 0 ≤ z ∧ z ≤ 255 := fun i hi => by
    have h1 := hel i hi
    rw [hc, Nat.mul_one, List.getElem?_eq_getElem (by omega)] at h1
    have h2 : (cs.toList.drop i).take 1 = [cs.toList[i]'(by omega)] := by
      rw [List.drop_eq_getElem_cons (by omega)]; rfl
    rw [h2] at h1
    obtain ⟨z, hz, h3, h4⟩ := open_cell he h1
    exact ⟨z, by rw [List.getElem?_eq_getElem (by omega), hz], h3, h4⟩
  have key : ∀ (l : List Value), (∀ i, i < l.length → ∃ z, l[i]? = some (.int .u8 z) ∧ 0 ≤ z ∧ z ≤ 255) → ∃ zs, l = ints .u8 zs ∧ Byt zs := by
    intro l
    induction l with
    | nil => intro _; exact ⟨[], rfl, Byt.nil⟩
    | cons x r ih =>
      intro hx
      obtain ⟨z, hz, h1, h2⟩ := hx 0 (by simp)
      obtain ⟨zs, rfl, hb⟩ := ih (fun i hi => by simpa using hx (i + 1) (by simp; omega))
      have hz' : x = .int .u8 z := by simpa using hz
      refine ⟨z :: zs, by rw [hz']; rfl, fun y hy => ?_⟩
      rcases List.mem_cons.1 hy with rfl | hy
      · exact ⟨h1, h2⟩
      · exact hb y hy
  obtain ⟨zs, hzs, hb⟩ := key cs.toList (fun i hi => each i (by omega))
  refine ⟨zs, ?_, ?_, hb⟩
  · rw [← hzs]
  · have := congrArg List.length hzs
    rw [ints_length] at this
    omega
end
end Go.Proofs.Bl

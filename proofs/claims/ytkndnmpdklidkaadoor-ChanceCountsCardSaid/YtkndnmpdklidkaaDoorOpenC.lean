/- For the cards of seat C: the library's table; the program is laid out; odds, pairs of whole numbers and rows of bools that came in. -/
import GoSem.PinnedTables
import Derived.LaidMore
import Derived.ChangeSame
import Derived.Test.YtkndnmpdklidkaaDoorOpenE
namespace Go.Proofs.Bl
open Go Go.ChangeShapes Go.WideShapes Go.ChangeAt Go.RowKit Go.Deep
section
variable {H : Type} {enc : TypeId × Value → H} {P : Program} {w : World} {base : Nat}
theorem open_bytes1 {t e : TypeId} (ht : P.underlying t = some (.slice e)) (he : P.underlying e = some (.int .u8)) (hc : P.cellsOf e = 1) {v : Value} {n : Nat} {y : DataW H × List MemPlace}
    (h : DataW.trod enc P w 0 (fun _ => true) true n t [v] = some y) : ∃ l, Rd w .u8 v l ∧ Byt l := by
  rcases open_ints ht he hc h with ⟨hcs, _⟩ | ⟨a, len, cap, zs, hcs, _, hl, hm, hz, _, hcell, hw⟩
  · injection hcs with h1
    subst h1
    exact ⟨[], Rd.nil _ _, Byt.nil⟩
  · injection hcs with h1
    subst h1
    simp only [if_true] at hz
    exact ⟨zs.take len, rd_parts hl hm hz (fun q => by cases q) (fun a' ha c hc => by cases ha; exact hcell c (by omega)), fun x hx => wf_byte (hw x (List.mem_of_mem_take hx))⟩
theorem open_odds {t ts e : TypeId} {f0 f1 : Field} (ht : P.underlying t = some (.struct #[f0, f1])) (h0 : f0.type = ts) (h1 : f1.type = ts) (o0 : f0.offset = 0) (o1 : f1.offset = 1)
    (hs : P.underlying ts = some (.slice e)) (he : P.underlying e = some (.int .u8)) (ce : P.cellsOf e = 1) (cs : P.cellsOf ts = 1) (ct : P.cellsOf t = 2) {v : Value} {d : DataW H} {p : List MemPlace}
    (hval : Value.okWide P w .any base t v) (h : DataW.Trod enc P w 0 (fun _ => true) true t v d p) : ∃ x y l m, v = .agg #[x, y] ∧ Rd w .u8 x l ∧ Rd w .u8 y m ∧ Byt l ∧ Byt m := by
  obtain ⟨⟨L⟩, rfl, hsz⟩ := okWide_struct ht hval
  obtain ⟨fuel, hf⟩ := h
  obtain ⟨y0, y1, n, _, _, hf0, hf1⟩ := trod_struct2 ht hf
  rw [ct] at hsz
  match L, hsz with
  | [x, y], _ =>
    rw [h0, o0, cs] at hf0
    rw [h1, o1, cs] at hf1
    obtain ⟨l, r1, b1⟩ := open_bytes1 hs he ce (v := x) hf0
    obtain ⟨m, r2, b2⟩ := open_bytes1 hs he ce (v := y) hf1
    exact ⟨x, y, l, m, rfl, r1, r2, b1, b2⟩
theorem open_arr1 {t e : TypeId} {n : Nat} (ht : P.underlying t = some (.array n e)) (hc : P.cellsOf e = 1) (hct : P.cellsOf t = n) {v : Value} {d : DataW H} {p : List MemPlace}
    (hval : Value.okWide P w .any base t v) (h : DataW.Trod enc P w 0 (fun _ => true) true t v d p) : ∃ L : List Value, v = .agg L.toArray ∧ L.length = n ∧ ∀ (i : Nat) (c : Value), L[i]? = some c → ∃ m y, DataW.trod enc P w 0 (fun _ => true) true m e [c] = some y := by
  simp only [Value.okWide, ht] at hval
  obtain ⟨cs, rfl, hcs, _⟩ := hval
  obtain ⟨fuel, hf⟩ := h
  obtain ⟨xs, m, _, _, hl, hxl, hel⟩ := DataW.trod_array ht hf
  simp only [Value.cells] at hl hel
  rw [hct] at hl
  refine ⟨cs.toList, by simp, hl, fun i c hic => ?_⟩
  have hi : i < n := by have := (List.getElem?_eq_some_iff.1 hic).1; omega
  have h1 := hel i hi
  rw [hc, Nat.mul_one, List.getElem?_eq_getElem (by omega)] at h1
  have h2 : (cs.toList.drop i).take 1 = [c] := by
    rw [List.drop_eq_getElem_cons (by omega)]
    rw [List.getElem?_eq_getElem (by omega)] at hic
    simp only [List.take_succ_cons, List.take_zero]
    rw [Option.some.inj hic]
  rw [h2] at h1
  exact ⟨m, _, h1⟩
theorem cell_int {sp : Nat → Bool} {held : Bool} {e : TypeId} {k : IntKind} (he : P.underlying e = some (.int k)) {m : Nat} {c : Value} {y : DataW H × List MemPlace} (h : DataW.trod enc P w base sp held m e [c] = some y) : ∃ z, c = .int k z ∧ (Lit.int k z).wf = true := by
  cases m with
  | zero => simp [DataW.trod] at h
  | succ m =>
    unfold DataW.trod at h
    rw [he] at h
    cases c <;> simp at h
    rename_i k' z
    obtain ⟨⟨rfl, hw⟩, _⟩ := h
    exact ⟨z, rfl, hw⟩
theorem cell_bool {sp : Nat → Bool} {held : Bool} {e : TypeId} (he : P.underlying e = some .bool) {m : Nat} {c : Value} {y : DataW H × List MemPlace} (h : DataW.trod enc P w base sp held m e [c] = some y) : ∃ b, c = .bool b := by
  cases m with
  | zero => simp [DataW.trod] at h
  | succ m =>
    unfold DataW.trod at h
    rw [he] at h
    cases c <;> simp at h
    exact ⟨_, rfl⟩
theorem open_int2 {t e : TypeId} (ht : P.underlying t = some (.array 2 e)) (he : P.underlying e = some (.int .i64)) (hc : P.cellsOf e = 1) (hct : P.cellsOf t = 2) {v : Value} {d : DataW H} {p : List MemPlace}
    (hval : Value.okWide P w .any base t v) (h : DataW.Trod enc P w 0 (fun _ => true) true t v d p) : ∃ x y, v = .agg #[.int .i64 x, .int .i64 y] ∧ (Lit.int .i64 x).wf = true ∧ (Lit.int .i64 y).wf = true := by
  obtain ⟨L, rfl, hl, hel⟩ := open_arr1 ht hc hct hval h
  match L, hl with
  | [a, b], _ =>
    obtain ⟨_, _, h1⟩ := hel 0 a rfl
    obtain ⟨_, _, h2⟩ := hel 1 b rfl
    obtain ⟨x, rfl, w1⟩ := cell_int he h1
    obtain ⟨y, rfl, w2⟩ := cell_int he h2
    exact ⟨x, y, rfl, w1, w2⟩
theorem open_bools {t e : TypeId} {n : Nat} (ht : P.underlying t = some (.array n e)) (he : P.underlying e = some .bool) (hc : P.cellsOf e = 1) (hct : P.cellsOf t = n) {v : Value} {d : DataW H} {p : List MemPlace}
    (hval : Value.okWide P w .any base t v) (h : DataW.Trod enc P w 0 (fun _ => true) true t v d p) : ∃ l : List Bool, v = .agg (l.map Value.bool).toArray ∧ l.length = n := by
  obtain ⟨L, rfl, hl, hel⟩ := open_arr1 ht hc hct hval h
  have key : ∀ L : List Value, (∀ (i : Nat) (c : Value), L[i]? = some c → ∃ b, c = .bool b) → ∃ l : List Bool, L = l.map Value.bool := by
    intro L
    induction L with
    | nil => intro _; exact ⟨[], rfl⟩
    | cons x r ih =>
      intro hx
      obtain ⟨b, rfl⟩ := hx 0 x rfl
      obtain ⟨l, rfl⟩ := ih (fun i c hc => hx (i + 1) c (by simpa using hc))
      exact ⟨b :: l, rfl⟩
  obtain ⟨l, rfl⟩ := key L (fun i c hic => by
    obtain ⟨_, _, h1⟩ := hel i c hic
    exact cell_bool he h1)
  exact ⟨l, rfl, by simpa using hl⟩
end
end Go.Proofs.Bl
namespace Go.Proofs.YtkndnmpdklidkaaDoor
open Go Go.ChangeShapes Go.WideShapes Go.ChangeAt Go.RowKit
def first256 : Array Value := (Go.Pinned.utf8FirstZ.map fun n : Nat => Value.int .u8 (n : Int)).toArray
theorem laidOut : laidOutB Tryd.prog = true := by kernel_rfl
end Go.Proofs.YtkndnmpdklidkaaDoor

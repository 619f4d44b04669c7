/- Texts that stood apart, in one: OpenI, OpenS, OpB, Laid. -/
import Derived.Test.YtglenbikdahgjaaDoorOpn0
import Derived.Deep.Slices
import Derived.ChangeSame
import Derived.Test.YtglenbikdahgjaaDoorLib0
import Derived.Test.YtglenbikdahgjaaDoorShaP
import Derived.Test.YtglenbikdahgjaaDoorChecked
/- A row of numbers that came in, as our reading. No program. -/
namespace Go.Proofs.Bl
open Go Go.ChangeShapes Go.WideShapes Go.ChangeAt Go.RowKit Go.Deep
theorem rd_parts64 {w : World} {A : Option Addr} {L C : Nat} {Z : List Int} (h1 : L ≤ C) (h2 : C ≤ maxLen) (h3 : Z.length = C) (h4 : A = none → C = 0)
    (h5 : ∀ a, A = some a → ∀ c, c < C → w.cell? (a.add c) = some (.int .i64 (Z.getD c 0))) : Rd w .i64 (.slice A L C) (Z.take L) := by
  have hl : (Z.take L).length = L := by rw [List.length_take]; omega
  show Rds w (.slice A L C) (Z.take L).length _
  rw [hl]
  refine rds_parts h1 h2 (by rw [ints_length, hl]) h4 fun a ha => ⟨fun hC => ?_, fun c v hv => ?_⟩
  · have := World.cell?_spot (h5 a ha 0 hC)
    simpa [Addr.add] using this
  · have hc : c < L := by have := (List.getElem?_eq_some_iff.1 hv).1; rw [ints_length, hl] at this; exact this
    rw [ints_get _ _ _ (by rw [hl]; exact hc)] at hv
    cases hv
    rw [h5 a ha c (by omega)]
    simp [List.getD_eq_getElem?_getD, hc]
theorem wf_i64 {n : Int} (h : (Lit.int .i64 n).wf = true) : -9223372036854775808 ≤ n ∧ n ≤ 9223372036854775807 := by
  simpa [Lit.wf, IntKind.min, IntKind.max, IntKind.signed, IntKind.bits] using h
section
variable {H : Type} {enc : TypeId × Value → H} {P : Program} {w : World} {base : Nat}
theorem open_i64s {t e : TypeId} (ht : P.underlying t = some (.slice e)) (he : P.underlying e = some (.int .i64)) (hc : P.cellsOf e = 1) {v : Value} {d : DataW H} {p : List MemPlace}
    (hval : Value.okWide P w .any base t v) (h : DataW.Trod enc P w 0 (fun _ => true) true t v d p) : ∃ l, Rd w .i64 v l ∧ ∀ x ∈ l, -9223372036854775808 ≤ x ∧ x ≤ 9223372036854775807 := by
  obtain ⟨a0, len0, cap0, rfl⟩ := okWide_slice ht hval
  obtain ⟨fuel, hf⟩ := h
  rcases open_ints ht he hc hf with ⟨hcs, _⟩ | ⟨a, len, cap, zs, hcs, _, hl, hm, hz, _, hcell, hw⟩
  · simp [Value.cells] at hcs
    obtain ⟨rfl, rfl, rfl⟩ := hcs
    exact ⟨[], Rd.nil _ _, fun x hx => by cases hx⟩
  · simp [Value.cells] at hcs
    obtain ⟨rfl, rfl, rfl⟩ := hcs
    simp only [if_true] at hz
    exact ⟨zs.take len0, rd_parts64 hl hm hz (fun q => by cases q) (fun a' ha c hc => by cases ha; exact hcell c (by omega)), fun x hx => wf_i64 (hw x (List.mem_of_mem_take hx))⟩
end
end Go.Proofs.Bl

/- Arguments that came in, part by part: cells of numbers, arrays, slices, structs, as our readings. No program. -/
namespace Go.Proofs.Bl
open Go Go.ChangeShapes Go.WideShapes Go.ChangeAt Go.RowKit Go.Deep
/-- a row of digests, digest by digest -/
theorem range_cellsD {w : World} {g o : Nat} {L : List (List Int)} (h : ∀ i, i < L.length → w.rangeAt g (o + i * 32) (ints .u8 (L.getD i []))) (hd : Dig L) : w.rangeAt g o (cellsD L) := fun j v hv => by
  have hj : j < L.length * 32 := by
    have := (List.getElem?_eq_some_iff.1 hv).1
    rwa [cellsD_length hd] at this
  have hi : j / 32 < L.length := by omega
  have e : (cellsD L)[j]? = (ints .u8 (L.getD (j / 32) []))[j % 32]? := by
    have h2 : (cellsD L).drop (j / 32 * 32) = cellsD (L.drop (j / 32)) := cellsD_drop hd _
    have h3 : (cellsD L)[j]? = ((cellsD L).drop (j / 32 * 32))[j % 32]? := by
      rw [List.getElem?_drop]; congr 1; omega
    rw [h3, h2, List.drop_eq_getElem_cons hi]
    show (ints .u8 L[j / 32] ++ cellsD _)[j % 32]? = _
    rw [List.getElem?_append_left (by rw [ints_length, (hd _ (List.getElem_mem hi)).1]; omega), List.getD_eq_getElem?_getD, List.getElem?_eq_getElem hi]; rfl
  rw [e] at hv
  have := h (j / 32) hi (j % 32) v hv
  rw [show o + j / 32 * 32 + j % 32 = o + j from by omega] at this
  exact this
theorem list_of {α : Type} (d : α) (R : Nat → α → Prop) : ∀ n, (∀ i, i < n → ∃ x, R i x) → ∃ l : List α, l.length = n ∧ ∀ i, i < n → R i (l.getD i d)
  | 0, _ => ⟨[], rfl, fun i hi => absurd hi (Nat.not_lt_zero _)⟩
  | n + 1, h => by
    obtain ⟨l, hl, hr⟩ := list_of d R n (fun i hi => h i (by omega))
    obtain ⟨x, hx⟩ := h n (by omega)
    refine ⟨l ++ [x], by simp [hl], fun i hi => ?_⟩
    by_cases e : i < n
    · rw [List.getD_eq_getElem?_getD, List.getElem?_append_left (by omega), ← List.getD_eq_getElem?_getD]; exact hr i e
    · obtain rfl : i = n := by omega
      rw [List.getD_eq_getElem?_getD, List.getElem?_append_right (by omega)]
      simp only [hl, Nat.sub_self, List.getElem?_cons_zero, Option.getD_some]
      exact hx
section
variable {H : Type} {enc : TypeId × Value → H} {P : Program} {w : World} {n : Nat} {t : TypeId} {cs : List Value} {y : DataW H × List MemPlace}
theorem od_bytes {e : TypeId} (ht : P.underlying t = some (.slice e)) (he : P.underlying e = some (.int .u8)) (hc : P.cellsOf e = 1) (h : DataW.trod enc P w 0 (fun _ => true) true n t cs = some y) : ∃ v l, cs = [v] ∧ Rd w .u8 v l ∧ Byt l := by
  rcases open_ints ht he hc h with ⟨hcs, _⟩ | ⟨a, len, cap, zs, hcs, _, hl, hm, hz, _, hcell, hw⟩
  · exact ⟨_, [], hcs, Rd.nil _ _, Byt.nil⟩
  · simp only [if_true] at hz
    exact ⟨_, zs.take len, hcs, rd_parts hl hm hz (fun q => by cases q) (fun a' ha c hc => by cases ha; exact hcell c (by omega)), fun x hx => wf_byte (hw x (List.mem_of_mem_take hx))⟩
theorem od_arr {e : TypeId} {m : Nat} (ht : P.underlying t = some (.array m e)) (he : P.underlying e = some (.int .u8)) (hc : P.cellsOf e = 1) (hct : P.cellsOf t = m) (h : DataW.trod enc P w 0 (fun _ => true) true n t cs = some y) : ∃ l, cs = ints .u8 l ∧ l.length = m ∧ Byt l := by
  obtain ⟨xs, k, _, _, hl, hxl, hel⟩ := DataW.trod_array ht h
  rw [hct] at hl
  obtain ⟨l, hll, hr⟩ := list_of (0 : Int) (fun i z => cs[i]? = some (.int .u8 z) ∧ 0 ≤ z ∧ z ≤ 255) m (fun i hi => by
    have h1 := hel i hi
    rw [hc, Nat.mul_one, List.getElem?_eq_getElem (by omega)] at h1
    have h2 : (cs.drop i).take 1 = [cs[i]'(by omega)] := by
      rw [List.drop_eq_getElem_cons (by omega)]; rfl
    rw [h2] at h1
    obtain ⟨z, hz, h3, h4⟩ := open_cell he h1
    exact ⟨z, by rw [List.getElem?_eq_getElem (by omega), hz], h3, h4⟩)
  refine ⟨l, ?_, hll, fun x hx => ?_⟩
  · apply List.ext_getElem?
    intro i
    by_cases hi : i < m
    · rw [(hr i hi).1, ints_get .u8 l i (by omega)]
    · rw [List.getElem?_eq_none (by omega), List.getElem?_eq_none (by rw [ints_length]; omega)]
  · obtain ⟨i, hi, rfl⟩ := List.getElem_of_mem hx
    have := (hr i (by omega)).2
    rwa [List.getD_eq_getElem?_getD, List.getElem?_eq_getElem hi] at this
/-- a slice whose elements are of s cells, element by element -/
theorem od_slice {e : TypeId} {s : Nat} (ht : P.underlying t = some (.slice e)) (hc : P.cellsOf e = s) (hs : 0 < s) (h : DataW.trod enc P w 0 (fun _ => true) true n t cs = some y) :
    ∃ v m, cs = [v] ∧ ((∃ p, v = .slice p 0 0 ∧ m = 0) ∨ ∃ b o c, v = .slice (some ⟨b, o, none⟩) m c ∧ m ≤ c ∧ c ≤ maxLen) ∧
      ∀ b o, (∃ c, v = .slice (some ⟨b, o, none⟩) m c ∧ 0 < c) → ∀ i, i < m → ∃ cs' k y', cs'.length = s ∧ w.rangeAt b (o + i * s) cs' ∧ DataW.trod enc P w 0 (fun _ => true) true k e cs' = some y' := by
  rcases open_slice ht h with ⟨hcs, _⟩ | ⟨a, len, cap, m, k, D, Pl, hcs, _, hl, hm, hmm, _, hi⟩
  · exact ⟨_, 0, hcs, .inl ⟨none, rfl, rfl⟩, fun b o ⟨c, hv, _⟩ => by cases hv⟩
  · simp only [if_true] at hmm
    subst hmm
    by_cases hC : m = 0
    · subst hC
      obtain rfl : len = 0 := by omega
      exact ⟨_, 0, hcs, .inl ⟨some a, rfl, rfl⟩, fun b o ⟨c, hv, h0⟩ => by injection hv with _ _ hv; omega⟩
    · obtain ⟨b, o, sp⟩ := a
      have hsp : sp = none := by
        obtain ⟨cs', hc', _⟩ := hi 0 (by omega)
        obtain ⟨_, hcl, hat⟩ := World.cells?_some hc'
        rw [hc] at hcl hat
        have := hat 0 hs
        rw [List.getElem?_eq_getElem (by omega)] at this
        have := World.cell?_spot this
        simpa [Addr.add] using this
      subst hsp
      refine ⟨_, len, hcs, .inr ⟨b, o, m, rfl, hl, hm⟩, fun b' o' ⟨c, hv, _⟩ i hil => ?_⟩
      injection hv with hv _ _
      injection hv with hv
      injection hv with hb ho
      subst hb ho
      obtain ⟨cs', hc', ht'⟩ := hi i (by omega)
      obtain ⟨_, hcl, hat⟩ := World.cells?_some hc'
      rw [hc] at hcl hat
      refine ⟨cs', k, _, hcl, fun j v hj => ?_, ht'⟩
      have hjs : j < s := by have := (List.getElem?_eq_some_iff.1 hj).1; omega
      have := hat j hjs
      rw [hj, Addr.add_mid, Addr.add_mid] at this
      exact this
theorem od_digs {e q : TypeId} (ht : P.underlying t = some (.slice e)) (he : P.underlying e = some (.array 32 q)) (hq : P.underlying q = some (.int .u8)) (cq : P.cellsOf q = 1) (ce : P.cellsOf e = 32) (h : DataW.trod enc P w 0 (fun _ => true) true n t cs = some y) : ∃ v ds, cs = [v] ∧ RdD w v ds ∧ Dig ds := by
  obtain ⟨v, m, hcs, hv, hel⟩ := od_slice ht ce (by decide) h
  rcases hv with ⟨p, rfl, rfl⟩ | ⟨b, o, c, rfl, hc1, hc2⟩
  · exact ⟨_, [], hcs, .inl ⟨⟨p, rfl⟩, rfl, rfl⟩, Dig.nil⟩
  · by_cases h0 : m = 0
    · subst h0
      refine ⟨_, [], hcs, .inr ⟨b, o, c, rfl, hc1, hc2, fun j v hj => by simp [cellsD] at hj⟩, Dig.nil⟩
    · obtain ⟨ds, hdl, hr⟩ := list_of ([] : List Int) (fun i d => w.rangeAt b (o + i * 32) (ints .u8 d) ∧ d.length = 32 ∧ Byt d) m (fun i hi => by
        obtain ⟨cs', k, y', _, h2, h3⟩ := hel b o ⟨c, rfl, by omega⟩ i hi
        obtain ⟨l, rfl, h4, h5⟩ := od_arr he hq cq ce h3
        exact ⟨l, h2, h4, h5⟩)
      have hd : Dig ds := fun d hd => by
        obtain ⟨i, hi, rfl⟩ := List.getElem_of_mem hd
        have := (hr i (by omega)).2
        rwa [List.getD_eq_getElem?_getD, List.getElem?_eq_getElem hi] at this
      refine ⟨_, ds, hcs, .inr ⟨b, o, c, by rw [hdl], by rw [hdl]; exact hc1, hc2, range_cellsD (fun i hi => (hr i (by omega)).1) hd⟩, hd⟩
theorem od_fields {fs : Array Field} (ht : P.underlying t = some (.struct fs)) (h : DataW.trod enc P w 0 (fun _ => true) true n t cs = some y) :
    cs.length = P.cellsOf t ∧ ∃ k, ∀ (i : Nat) (f : Field), fs[i]? = some f → ∃ z, DataW.trod enc P w 0 (fun _ => true) true k f.type ((cs.drop f.offset).take (P.cellsOf f.type)) = some z := by
  obtain ⟨xs, k, _, _, hl, hxl, hf⟩ := DataW.trod_struct ht h
  refine ⟨hl, k, fun i f hif => ?_⟩
  have := hf i f hif
  rw [List.getElem?_eq_getElem (by rw [hxl]; exact (Array.getElem?_eq_some_iff.1 hif).1)] at this
  exact ⟨_, this⟩
end
end Go.Proofs.Bl

/- Lists of bytes' lists that came in, as our reading. No program. -/
namespace Go.Proofs.Bl
open Go Go.ChangeShapes Go.WideShapes Go.ChangeAt Go.RowKit Go.Deep
theorem open_bytess {H : Type} {enc : TypeId × Value → H} {P : Program} {w : World} {base : Nat} {t e q : TypeId} (ht : P.underlying t = some (.slice e)) (he : P.underlying e = some (.slice q)) (hq : P.underlying q = some (.int .u8)) (ce : P.cellsOf e = 1) (cq : P.cellsOf q = 1) {v : Value} {d : DataW H} {p : List MemPlace}
    (hval : Value.okWide P w .any base t v) (h : DataW.Trod enc P w 0 (fun _ => true) true t v d p) : ∃ ps, Rdss w v ps ∧ ∀ l ∈ ps, Byt l := by
  obtain ⟨a0, len0, cap0, rfl⟩ := okWide_slice ht hval
  obtain ⟨fuel, hf⟩ := h
  rcases open_int_rows ht he hq ce cq hf with ⟨hcs, _⟩ | ⟨a, len, cap, A, L, C, Z, hcs, _, hl, hm, _, hrows⟩
  · simp [Value.cells] at hcs
    obtain ⟨rfl, rfl, rfl⟩ := hcs
    exact ⟨[], ⟨[], Rds.nil _, rfl, fun i hi => absurd hi (Nat.not_lt_zero _)⟩, fun l hl => by cases hl⟩
  · simp [Value.cells] at hcs
    obtain ⟨rfl, rfl, rfl⟩ := hcs
    refine ⟨(List.range len0).map fun r => (Z r).take (L r), ⟨(List.range len0).map fun r => .slice (A r) (L r) (C r), ?_, by simp, fun i hi => ?_⟩, fun l hl' => ?_⟩
    · rw [List.length_map, List.length_range]
      refine rds_parts hl hm (by simp) (fun q => by cases q) (fun a' ha => ?_)
      cases ha
      refine ⟨fun hC => ?_, fun c v hv => ?_⟩
      · have := World.cell?_spot (hrows 0 hC).1
        simpa [Addr.add] using this
      · have hc : c < len0 := by have := (List.getElem?_eq_some_iff.1 hv).1; simpa using this
        have e1 : v = .slice (A c) (L c) (C c) := by simpa [hc] using hv.symm
        rw [e1]; exact (hrows c (by omega)).1
    · have hi' : i < len0 := by simpa using hi
      obtain ⟨_, h1, h2, h3, _, h4, h5⟩ := hrows i (by omega)
      have e1 : ((List.range len0).map fun r => Value.slice (A r) (L r) (C r)).getD i undef = .slice (A i) (L i) (C i) := by simp [List.getD_eq_getElem?_getD, hi']
      have e2 : ((List.range len0).map fun r => (Z r).take (L r)).getD i [] = (Z i).take (L i) := by simp [List.getD_eq_getElem?_getD, hi']
      rw [e1, e2]
      exact rd_parts h1 h2 h3 h4 fun a' ha c hc => (h5 a' ha).2 c hc
    · obtain ⟨r, hr, rfl⟩ := List.mem_map.1 hl'
      have hr' := List.mem_range.1 hr
      obtain ⟨_, _, _, _, hw, _, _⟩ := hrows r (by omega)
      exact fun x hx => wf_byte (hw x (List.mem_of_mem_take hx))
end Go.Proofs.Bl

/- One closed fact of the program: what is laid. -/
namespace Go.Proofs.YtglenbikdahgjaaDoor
open Go Go.ChangeShapes Go.WideShapes Go.ChangeAt Go.RowKit
theorem laidOut : laidOutB Tryd.prog = true := by kernel_rfl
end Go.Proofs.YtglenbikdahgjaaDoor

/- Two variables that hold digests: made, written, handed back. No program. -/
import Derived.Test.YtmmolapkddbibaaDoorLib0
import Derived.Test.YtmmolapkddbibaaDoorTri0
import Derived.Test.YtmmolapkddbibaaDoorZs
import Derived.Test.YtmmolapkddbibaaDoorShaR
namespace Go.Proofs.Bl
open Go Go.RowKit
theorem BoxD.zero {w : World} {X : Nat} {f : Nat → Int} (h : Fam w X .u8 32 f) (hf : ∀ i, i < 32 → f i = zs32.getD i 0) : BoxD w X zs32 := ⟨h.list rfl hf, h.there, rfl⟩
theorem BoxD.new (w : World) (t : TypeId) (cs : Array Value) (hcs : cs.toList = List.replicate 32 (Value.int .u8 0)) : BoxD (w.alloc (.cells cs t)) w.heap.size zs32 :=
  ⟨fun j v hv => by
    have hj : j < 32 := by have := (List.getElem?_eq_some_iff.1 hv).1; rwa [ints_length] at this
    rw [ints_get .u8 zs32 j hj] at hv
    cases hv
    rw [Nat.zero_add, World.cell?_alloc_new, ← Array.getElem?_toList, hcs, List.getElem?_replicate, if_pos hj, ← zs32_get j hj],
   fun j hj => by
    rw [Nat.zero_add, World.cell?_alloc_new, ← Array.getElem?_toList, hcs, List.getElem?_replicate, if_pos hj]
    exact ⟨rfl, by simp⟩, rfl⟩
theorem BoxD.same {w w' : World} {X : Nat} {d : List Int} (h : BoxD w X d) (hb : w'.heap[X]? = w.heap[X]?) : BoxD w' X d :=
  ⟨fun j v hv => by rw [World.cell?_of_block (w := w) hb]; exact h.rg j v hv, fun j hj => by rw [World.cell?_of_block (w := w) hb, World.frozen?_of_block (w := w) hb]; exact h.th j hj, h.len⟩
theorem BoxD.other {w : World} {X Y : Nat} {d : List Int} (h : BoxD w X d) (hne : X ≠ Y) (vs : List Value) : BoxD (w.setCells Y 0 vs) X d := h.same (exc_setCells vs 0 w (Exc.refl Y w) X hne)
theorem BoxD.loadVar {P : Program} {w : World} {X : Nat} {d : List Int} (h : BoxD w X d) {ty e : TypeId} (hu : P.underlying ty = some (.array 32 e)) (hi : (P.info? ty).map (·.size) = some 32) : (loadVar ty ⟨X, 0, none⟩).run P w = .ok (.agg (ints .u8 d).toArray) w :=
  run_loadVar_mid (P := P) w X 0 ty (ints .u8 d) _ h.rg hu rfl (by rw [ints_length, h.len]; exact hi)
theorem BoxD.store {P : Program} {w : World} {X : Nat} {d d' : List Int} (h : BoxD w X d) (hl : d'.length = 32) {ty : TypeId} (hi : (P.info? ty).map (·.size) = some 32) : (Instr.storeAt ty (.pointer (some ⟨X, 0, none⟩)) (.agg (ints .u8 d').toArray)).run P w = .ok () (w.setCells X 0 (ints .u8 d')) :=
  store_ints (P := P) (ty := ty) (k := .u8) (l := d') (n := 32) h.th hi hl
theorem box_len {w : World} {X : Nat} {d : List Int} (h : BoxD w X d) : X < w.heap.size := h.lt
theorem dig_box (w : World) (d : List Int) (t : TypeId) (h : d.length = 32) : BoxD (w.alloc (.cells (ints .u8 d).toArray t)) w.heap.size d :=
  ⟨range_box w d t, fun j hj => by
    rw [Nat.zero_add, World.cell?_alloc_new]
    exact ⟨by simp [ints_length, h, hj], by simp⟩, h⟩
/-- a result of two parts, both in variables -/
theorem results_cc {P : Program} {fn : Func} {p q : Tmp} {ta tb : TypeId} {tmps : Array Value} {w : World} {a b : Addr} {v u : Value} (h : fn.results = #[.cell p ta, .cell q tb]) (hp : tmps.getD p undef = .pointer (some a)) (hq : tmps.getD q undef = .pointer (some b)) (ha : (loadVar ta a).run P w = .ok v w) (hb : (loadVar tb b).run P w = .ok u w) :
    (results fn tmps).run P w = .ok (.tuple #[v, u]) w := by
  have hp' : tmps[p]?.getD undef = .pointer (some a) := by simpa using hp
  have hq' : tmps[q]?.getD undef = .pointer (some b) := by simpa using hq
  simp [results, h, hp', hq', asAddr, ha, hb]
theorem HJ.get {p : Nat} {A B : World → Prop} {d : Nat → Bool} {u : Nat → Value} {w : World} (h : HJ p A B d u w) (q : d p = false) : A w := h.2 q
theorem HJ.got {p : Nat} {A B : World → Prop} {d : Nat → Bool} {u : Nat → Value} {w : World} (h : HJ p A B d u w) (q : d p = true) : B w := h.1 q
/-- two variables -/
structure Duo (w : World) (A B : Nat) (x y : List Int) : Prop where
  a : BoxD w A x
  b : BoxD w B y
  ne : A ≠ B
theorem Duo.ext {w w' : World} {A B : Nat} {x y : List Int} (h : Duo w A B x y) (hE : Ext w w') : Duo w' A B x y := ⟨h.a.ext hE, h.b.ext hE, h.ne⟩
theorem Duo.setA {w : World} {A B : Nat} {x y x' : List Int} (h : Duo w A B x y) (hl : x'.length = 32) : Duo (w.setCells A 0 (ints .u8 x')) A B x' y := ⟨h.a.set hl, h.b.other (fun q => h.ne q.symm) _, h.ne⟩
theorem Duo.setB {w : World} {A B : Nat} {x y y' : List Int} (h : Duo w A B x y) (hl : y'.length = 32) : Duo (w.setCells B 0 (ints .u8 y')) A B x y' := ⟨h.a.other h.ne _, h.b.set hl, h.ne⟩
theorem Duo.new (w : World) (t : TypeId) (cs : Array Value) (hcs : cs.toList = List.replicate 32 (Value.int .u8 0)) : Duo ((w.alloc (.cells cs t)).alloc (.cells cs t)) w.heap.size (w.heap.size + 1) zs32 zs32 := by
  have h1 := BoxD.new w t cs hcs
  have h2 := BoxD.new (w.alloc (.cells cs t)) t cs hcs
  rw [World.size_alloc] at h2
  exact ⟨h1.ext (ext_alloc _ _), h2, by omega⟩
theorem Duo.other {w : World} {A B g : Nat} {x y : List Int} (h : Duo w A B x y) (ha : A ≠ g) (hb : B ≠ g) {w' : World} (hx : Exc g w w') : Duo w' A B x y := ⟨h.a.same (hx A ha), h.b.same (hx B hb), h.ne⟩
/-- what holds while two variables are made ('a, b := x, x'): operations iA, iB make them (slots tA, tB), iS writes the first -/
structure JTwo (iA iB iS tA tB base : Nat) (x : List Int) (d : Nat → Bool) (u : Nat → Value) (w : World) : Prop where
  a : d iA = true → ∃ X, u tA = .pointer (some ⟨X, 0, none⟩) ∧ base ≤ X ∧ (d iS = false → BoxD w X zs32) ∧ (d iS = true → BoxD w X x)
  b : d iB = true → ∃ Y, u tB = .pointer (some ⟨Y, 0, none⟩) ∧ base ≤ Y ∧ BoxD w Y zs32
  ne : d iA = true → d iB = true → u tA ≠ u tB
  le : base ≤ w.heap.size
theorem JTwo.start {iA iB iS tA tB base : Nat} {x : List Int} {u : Nat → Value} {w : World} (h : base ≤ w.heap.size) : JTwo iA iB iS tA tB base x (fun _ => false) u w := ⟨fun q => (by cases q), fun q => (by cases q), fun q => (by cases q), h⟩
section
variable {iA iB iS tA tB base : Nat} {x : List Int} {d : Nat → Bool} {u : Nat → Value} {w : World}
theorem JTwo.same {i t : Nat} {v : Value} (h : JTwo iA iB iS tA tB base x d u w) (hi : (decide (iA = i) || decide (iB = i) || decide (iS = i) || decide (tA = t) || decide (tB = t)) = false) : JTwo iA iB iS tA tB base x (upd d i) (updv (some t) u v) w := by
  simp only [Bool.or_eq_false_iff, decide_eq_false_iff_not] at hi
  obtain ⟨⟨⟨⟨h1, h2⟩, h3⟩, h4⟩, h5⟩ := hi
  refine ⟨?_, ?_, ?_, h.le⟩
  · unfold upd updv; simp only [if_neg h1, if_neg h3, if_neg h4]; exact h.a
  · unfold upd updv; simp only [if_neg h2, if_neg h5]; exact h.b
  · unfold upd updv; simp only [if_neg h1, if_neg h2, if_neg h4, if_neg h5]; exact h.ne
theorem JTwo.makeA {t : TypeId} {cs : Array Value} (h : JTwo iA iB iS tA tB base x d u w) (hcs : cs.toList = List.replicate 32 (Value.int .u8 0)) (hne : (decide (iA = iB) || decide (iA = iS) || decide (tA = tB)) = false) (hS : d iS = false) : JTwo iA iB iS tA tB base x (upd d iA) (updv (some tA) u (.pointer (some ⟨w.heap.size, 0, none⟩))) (w.alloc (.cells cs t)) := by
  simp only [Bool.or_eq_false_iff, decide_eq_false_iff_not] at hne
  obtain ⟨⟨h1, h2⟩, h3⟩ := hne
  have k1 : ¬ iB = iA := fun e => h1 e.symm
  have k2 : ¬ iS = iA := fun e => h2 e.symm
  have k3 : ¬ tB = tA := fun e => h3 e.symm
  have hE := ext_alloc w (.cells cs t)
  refine ⟨fun _ => ⟨w.heap.size, by simp [updv], h.le, fun _ => BoxD.new w t cs hcs, fun q => ?_⟩, fun q => ?_, fun _ q => ?_, Nat.le_trans h.le hE.size⟩
  · unfold upd at q; rw [if_neg k2, hS] at q; cases q
  · unfold upd at q; rw [if_neg k1] at q
    obtain ⟨Y, e1, e2, e3⟩ := h.b q
    exact ⟨Y, by unfold updv; simp only [if_neg k3]; exact e1, e2, e3.ext hE⟩
  · unfold upd at q; rw [if_neg k1] at q
    obtain ⟨Y, e1, e2, e3⟩ := h.b q
    unfold updv
    simp only [if_true, if_neg k3, e1]
    intro q2
    injection q2 with q2
    injection q2 with q2
    injection q2 with q2
    have := e3.lt
    omega
theorem JTwo.makeB {t : TypeId} {cs : Array Value} (h : JTwo iA iB iS tA tB base x d u w) (hcs : cs.toList = List.replicate 32 (Value.int .u8 0)) (hne : (decide (iB = iA) || decide (iB = iS) || decide (tB = tA)) = false) : JTwo iA iB iS tA tB base x (upd d iB) (updv (some tB) u (.pointer (some ⟨w.heap.size, 0, none⟩))) (w.alloc (.cells cs t)) := by
  simp only [Bool.or_eq_false_iff, decide_eq_false_iff_not] at hne
  obtain ⟨⟨h1, h2⟩, h3⟩ := hne
  have k1 : ¬ iA = iB := fun e => h1 e.symm
  have k2 : ¬ iS = iB := fun e => h2 e.symm
  have k3 : ¬ tA = tB := fun e => h3 e.symm
  have hE := ext_alloc w (.cells cs t)
  refine ⟨fun q => ?_, fun _ => ⟨w.heap.size, by simp [updv], h.le, BoxD.new w t cs hcs⟩, fun q _ => ?_, Nat.le_trans h.le hE.size⟩
  · unfold upd at q; rw [if_neg k1] at q
    obtain ⟨X, e1, e2, e3, e4⟩ := h.a q
    refine ⟨X, by unfold updv; simp only [if_neg k3]; exact e1, e2, fun q2 => (e3 ?_).ext hE, fun q2 => (e4 ?_).ext hE⟩
    · unfold upd at q2; rw [if_neg k2] at q2; exact q2
    · unfold upd at q2; rw [if_neg k2] at q2; exact q2
  · unfold upd at q; rw [if_neg k1] at q
    obtain ⟨X, e1, e2, e3, e4⟩ := h.a q
    unfold updv
    simp only [if_true, if_neg k3, e1]
    intro q2
    injection q2 with q2
    injection q2 with q2
    injection q2 with q2
    have : X < w.heap.size := by
      rcases Bool.eq_false_or_eq_true (d iS) with hs | hs
      · exact (e4 hs).lt
      · exact (e3 hs).lt
    omega
theorem JTwo.write {X : Nat} (h : JTwo iA iB iS tA tB base x d u w) (hx : x.length = 32) (hA : d iA = true) (hS : d iS = false) (hX : u tA = .pointer (some ⟨X, 0, none⟩)) (hne : (decide (iS = iA) || decide (iS = iB)) = false) : (∃ y, BoxD w X y) ∧ base ≤ X ∧ JTwo iA iB iS tA tB base x (upd d iS) u (w.setCells X 0 (ints .u8 x)) := by
  simp only [Bool.or_eq_false_iff, decide_eq_false_iff_not] at hne
  obtain ⟨X', e1, e2, e3, _⟩ := h.a hA
  rw [hX] at e1
  injection e1 with e1
  injection e1 with e1
  injection e1 with e1
  subst e1
  have hb := e3 hS
  refine ⟨⟨_, hb⟩, e2, ⟨fun _ => ⟨X, hX, e2, fun q => ?_, fun _ => hb.set hx⟩, fun q => ?_, fun q q2 => ?_, Nat.le_trans h.le (below_setCells _ X 0 w (Below.refl 0 w) (Nat.zero_le _)).size⟩⟩
  · unfold upd at q; rw [if_pos rfl] at q; cases q
  · unfold upd at q; rw [if_neg (fun e => hne.2 e.symm)] at q
    obtain ⟨Y, f1, f2, f3⟩ := h.b q
    refine ⟨Y, f1, f2, f3.other (fun e => ?_) _⟩
    subst e
    exact h.ne hA q (by rw [hX, f1])
  · unfold upd at q q2
    rw [if_neg (fun e => hne.1 e.symm)] at q
    rw [if_neg (fun e => hne.2 e.symm)] at q2
    exact h.ne q q2
theorem JTwo.done (h : JTwo iA iB iS tA tB base x d u w) (hA : d iA = true) (hB : d iB = true) (hS : d iS = true) : ∃ X Y, u tA = .pointer (some ⟨X, 0, none⟩) ∧ u tB = .pointer (some ⟨Y, 0, none⟩) ∧ base ≤ X ∧ base ≤ Y ∧ Duo w X Y x zs32 := by
  obtain ⟨X, a1, a2, _, a4⟩ := h.a hA
  obtain ⟨Y, b1, b2, b3⟩ := h.b hB
  exact ⟨X, Y, a1, b1, a2, b2, a4 hS, b3, fun e => h.ne hA hB (by rw [a1, b1, e])⟩
end
end Go.Proofs.Bl

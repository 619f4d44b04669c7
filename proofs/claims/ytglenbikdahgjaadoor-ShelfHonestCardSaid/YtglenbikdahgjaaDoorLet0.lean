/- Texts that stood apart, in one: Let, Let2, GrowR. -/
import Derived.Test.YtglenbikdahgjaaDoorDia0
import Derived.Test.YtglenbikdahgjaaDoorShaR
import Derived.Test.YtglenbikdahgjaaDoorLib0
/- Letters: shown blocks with their paths, their cells, whole letters; when two are the same. No program. -/
namespace Go.Proofs.Bl
open Go Go.RowKit
/-- a shown block: its place, what is stored, its path -/
abbrev Sh := Int × List Int × List (List Int)
/-- as it lies in memory: with the two slices -/
abbrev Sv := Int × (Value × List Int) × Value × List (List Int)
def plS (x : Sv) : Sh := (x.1, x.2.1.2, x.2.2.2)
def cS (x : Sv) : List Value := [.int .i64 x.1, x.2.1.1, x.2.2.1]
abbrev s0 : Sv := (0, (.slice none 0 0, []), .slice none 0 0, [])
abbrev h0 : Sh := (0, [], [])
theorem plS_s0 : plS s0 = h0 := rfl
structure OkS (w : World) (x : Sv) : Prop where
  st : Rd w .u8 x.2.1.1 x.2.1.2
  bs : Byt x.2.1.2
  pa : RdD w x.2.2.1 x.2.2.2
  dg : Dig x.2.2.2
theorem OkS.ext {w w' : World} {x : Sv} (h : OkS w x) (k : Ext w w') : OkS w' x := ⟨h.st.ext k, h.bs, Rds.ext h.pa k, h.dg⟩
theorem OkS.zero (w : World) : OkS w s0 := ⟨Rd.nil _ _, Byt.nil, Rds.nil _, Dig.nil⟩
theorem cS_len (x : Sv) : (cS x).length = 3 := rfl
theorem cS_ne (x : Sv) : cS x ≠ [] := fun h => by cases h
theorem cS_one {w : World} {x : Sv} (h : OkS w x) : ∀ c ∈ cS x, c.oneCell' = true := fun c hc => by
  obtain ⟨p1, c1, e1, _, _⟩ := h.st.form
  obtain ⟨p2, c2, e2, _, _⟩ := h.pa.form
  unfold cS at hc
  rw [e1, e2] at hc
  simp only [List.mem_cons, List.not_mem_nil, or_false] at hc
  rcases hc with rfl | rfl | rfl <;> rfl
/-- a row of shown blocks -/
structure RdS (w : World) (v : Value) (L : List Sv) : Prop where
  rd : Rds w v L.length (cellsR cS L)
  ok : ∀ x ∈ L, OkS w x
theorem RdS.ext {w w' : World} {v : Value} {L : List Sv} (h : RdS w v L) (k : Ext w w') : RdS w' v L := ⟨Rds.ext h.rd k, fun x hx => (h.ok x hx).ext k⟩
theorem RdS.nil (w : World) : RdS w (.slice none 0 0) [] := ⟨Rds.nil _, fun x hx => by cases hx⟩
theorem cellsS_len (L : List Sv) : (cellsR cS L).length = L.length * 3 := cellsR_length fun x _ => cS_len x
theorem RdS.pos {w : World} {v : Value} {L : List Sv} (h : RdS w v L) (hn : 0 < L.length) : ∃ b o c, v = .slice (some ⟨b, o, none⟩) L.length c ∧ L.length ≤ c ∧ c ≤ maxLen ∧ b < w.heap.size ∧ ∀ i, i < L.length → w.rangeAt b (o + i * 3) (cS (L.getD i s0)) := by
  obtain ⟨b, o, c, h1, h2, h3, h4, h5⟩ := Rds.pos h.rd hn (fun q => by have := cellsS_len L; rw [q] at this; simp at this; omega)
  exact ⟨b, o, c, h1, h2, h3, h4, fun i hi => elem_at s0 h5 (fun x _ => cS_len x) hi⟩
theorem plS_getD (L : List Sv) (i : Nat) : (L.map plS).getD i h0 = plS (L.getD i s0) := by
  rw [List.getD_eq_getElem?_getD, List.getD_eq_getElem?_getD, List.getElem?_map]
  cases L[i]? <;> rfl
/-- a letter -/
structure LT where
  kind : Int
  id : Int
  obj : Int
  places : List Int
  shown : List Sh
  frm : Int
  cnt : Int
  blocks : List (List Int)
  code : Int
/-- its numbers -/
def LT.nums (l : LT) : List Int := [l.kind, l.id, l.obj, l.frm, l.cnt, l.code]
theorem LT.ext_iff' {a b : LT} : a = b ↔ a.nums = b.nums ∧ a.places = b.places ∧ a.shown = b.shown ∧ a.blocks = b.blocks := by
  constructor
  · rintro rfl; exact ⟨rfl, rfl, rfl, rfl⟩
  · rintro ⟨h1, h2, h3, h4⟩
    cases a; cases b
    simp only [LT.nums, List.cons.injEq, and_true] at h1
    obtain ⟨rfl, rfl, rfl, rfl, rfl, rfl⟩ := h1
    simp only at h2 h3 h4
    subst h2 h3 h4
    rfl
instance (a b : LT) : Decidable (a = b) := decidable_of_iff _ LT.ext_iff'.symm
def cL (l : LT) (vp vs vb : Value) : List Value := [.int .i64 l.kind, .int .i64 l.id, .int .i64 l.obj, vp, vs, .int .i64 l.frm, .int .i64 l.cnt, vb, .int .i64 l.code]
/-- a letter in memory: its cells cs -/
structure LtC (w : World) (cs : List Value) (l : LT) (vp vs vb : Value) (L : List Sv) : Prop where
  eq : cs = cL l vp vs vb
  pl : Rd w .i64 vp l.places
  sh : RdS w vs L
  sl : L.map plS = l.shown
  bl : Rdss w vb l.blocks
  by' : ∀ b ∈ l.blocks, Byt b
theorem LtC.ext {w w' : World} {cs : List Value} {l : LT} {vp vs vb : Value} {L : List Sv} (h : LtC w cs l vp vs vb L) (k : Ext w w') : LtC w' cs l vp vs vb L := ⟨h.eq, h.pl.ext k, h.sh.ext k, h.sl, h.bl.ext k, h.by'⟩
theorem Rdss.form {w : World} {v : Value} {ps : List (List Int)} (h : Rdss w v ps) : ∃ p c, v = .slice p ps.length c ∧ ps.length ≤ c ∧ c ≤ maxLen := by
  obtain ⟨vs, h1, _⟩ := h; exact h1.form
theorem Rdss.nil (w : World) : Rdss w (.slice none 0 0) [] := ⟨[], Rds.nil _, rfl, fun i hi => by cases hi⟩
/-- a letter's value -/
def LtV (w : World) (v : Value) (l : LT) : Prop := ∃ cs vp vs vb L, v = .agg (List.toArray cs) ∧ LtC w cs l vp vs vb L
theorem LtV.ext {w w' : World} {v : Value} {l : LT} (h : LtV w v l) (k : Ext w w') : LtV w' v l := by
  obtain ⟨cs, vp, vs, vb, L, h1, h2⟩ := h; exact ⟨cs, vp, vs, vb, L, h1, h2.ext k⟩
theorem cL_len (l : LT) (vp vs vb : Value) : (cL l vp vs vb).length = 9 := rfl
theorem cL_ne (l : LT) (vp vs vb : Value) : cL l vp vs vb ≠ [] := fun h => by cases h
theorem LtC.one {w : World} {cs : List Value} {l : LT} {vp vs vb : Value} {L : List Sv} (h : LtC w cs l vp vs vb L) : ∀ c ∈ cs, c.oneCell' = true := fun c hc => by
  obtain ⟨p1, c1, e1, _, _⟩ := h.pl.form
  obtain ⟨p2, c2, e2, _, _⟩ := h.sh.rd.form
  obtain ⟨p3, c3, e3, _, _⟩ := h.bl.form
  rw [h.eq] at hc
  unfold cL at hc
  rw [e1, e2, e3] at hc
  simp only [List.mem_cons, List.not_mem_nil, or_false] at hc
  rcases hc with rfl | rfl | rfl | rfl | rfl | rfl | rfl | rfl | rfl <;> rfl
/-- are the numbers, and the lists, the same? -/
def sameL (a b : LT) : Bool := decide (a = b)
/-- within what is asked? -/
structure LgL (l : LT) : Prop where
  pl : l.places.length ≤ 100
  sh : l.shown.length ≤ 30
  bl : l.blocks.length ≤ 600
  st : ∀ s ∈ l.shown, s.2.1.length ≤ 100 ∧ s.2.2.length ≤ 40
  bs : ∀ b ∈ l.blocks, b.length ≤ 100
/-- the empty letter -/
def lt0 : LT := ⟨0, 0, 0, [], [], 0, 0, [], 0⟩
abbrev zL : Array Value := #[.int .i64 0, .int .i64 0, .int .i64 0, .slice none 0 0, .slice none 0 0, .int .i64 0, .int .i64 0, .slice none 0 0, .int .i64 0]
abbrev zSh : Array Value := #[.int .i64 0, .slice none 0 0, .slice none 0 0]
theorem LtC.zero (w : World) : LtC w (cL lt0 (.slice none 0 0) (.slice none 0 0) (.slice none 0 0)) lt0 (.slice none 0 0) (.slice none 0 0) (.slice none 0 0) [] := ⟨rfl, Rds.nil _, RdS.nil _, rfl, Rdss.nil _, fun b hb => by cases hb⟩
section
variable {α : Type}
theorem take_succ_getDD (d : α) (l : List α) (k : Nat) (h : k < l.length) : l.take (k + 1) = l.take k ++ [l.getD k d] := by
  rw [List.getD_eq_getElem?_getD, List.getElem?_eq_getElem h, List.take_succ_eq_append_getElem h]; rfl
end
end Go.Proofs.Bl

/- Readings that are kept where their blocks are; a field of a struct's variable is written. No program. -/
namespace Go.Proofs.Bl
open Go Go.RowKit
section
variable {w w' : World}
theorem Rds.kept {v : Value} {n : Nat} {cs : List Value} (h : Rds w v n cs) (hk : ∀ k, v.ownBlock = some k → k < w.heap.size → w'.heap[k]? = w.heap[k]?) : Rds w' v n cs := by
  rcases h with h1 | ⟨b, o, c, h1, h2, h3, h4⟩
  · exact .inl h1
  · refine .inr ⟨b, o, c, h1, h2, h3, ?_⟩
    by_cases hc : cs = []
    · subst hc; intro j x hx; simp at hx
    · intro j x hx
      rw [World.cell?_of_block (w := w) (hk b (by rw [h1]; rfl) (rangeAt_lt h4 hc))]
      exact h4 j x hx
theorem OkS.kept {x : Sv} (h : OkS w x) (k1 : ∀ k, x.2.1.1.ownBlock = some k → k < w.heap.size → w'.heap[k]? = w.heap[k]?) (k2 : ∀ k, x.2.2.1.ownBlock = some k → k < w.heap.size → w'.heap[k]? = w.heap[k]?) : OkS w' x :=
  ⟨Rds.kept h.st k1, h.bs, Rds.kept h.pa k2, h.dg⟩
/-- a field of a struct's variable is written -/
theorem BoxC.put {X : Nat} {cs : List Value} (h : BoxC w X cs) {i : Nat} (hi : i < cs.length) (u : Value) : BoxC (w.setCell ⟨X, i, none⟩ u) X (cs.set i u) := by
  have hc : ∀ j, j < cs.length → ∃ v, w.cell? ⟨X, j, none⟩ = some v := fun j hj => ⟨_, h.cell (List.getElem?_eq_getElem hj)⟩
  refine ⟨fun j v hj => ?_, fun j hj => ?_, fun q => h.ne (by simpa using q)⟩
  · rw [Nat.zero_add]
    by_cases e : j = i
    · subst e
      rw [List.getElem?_set_self (by simpa using hi)] at hj
      obtain ⟨v0, h0⟩ := hc j hi
      rw [World.cell?_setCell_same' _ _ _ (by rw [h0]; rfl)]
      exact hj
    · rw [List.getElem?_set_ne (fun q => e q.symm)] at hj
      rw [World.cell?_setCell_other _ _ _ _ (by intro q; injection q with _ q; omega)]
      exact h.cell hj
  · rw [List.length_set] at hj
    obtain ⟨h1, h2⟩ := h.th j hj
    rw [Nat.zero_add] at h1 h2 ⊢
    refine ⟨?_, by rw [World.frozen?_setCell]; exact h2⟩
    by_cases e : j = i
    · subst e
      obtain ⟨v0, h0⟩ := hc j hi
      rw [World.cell?_setCell_same' _ _ _ (by rw [h0]; rfl)]; rfl
    · rw [World.cell?_setCell_other _ _ _ _ (by intro q; injection q with _ q; omega)]; exact h1
theorem BoxC.fz {X : Nat} {cs : List Value} (h : BoxC w X cs) {i : Nat} (hi : i < cs.length) : w.frozen? ⟨X, i, none⟩ = false := by
  have := (h.th i hi).2
  rwa [Nat.zero_add] at this
theorem BoxC.setOther {X Y : Nat} {cs : List Value} (h : BoxC w X cs) (hne : X ≠ Y) (i : Nat) (u : Value) : BoxC (w.setCell ⟨Y, i, none⟩ u) X cs := h.same (Below.heap_setCell w ⟨Y, i, none⟩ u X hne)
theorem rds_box (w : World) (e : TypeId) (cs : List Value) : Rds (w.alloc (.cells cs.toArray e)) (.slice (some ⟨w.heap.size, 0, none⟩) 1 1) 1 cs := by
  refine .inr ⟨w.heap.size, 0, 1, rfl, Nat.le_refl _, show 1 ≤ maxLen from by decide, fun j v hv => ?_⟩
  rw [Nat.zero_add, World.cell?_alloc_new]; simpa using hv
end
end Go.Proofs.Bl

/- Readings with the blocks that they lie in; a row in a field of a struct's variable that grows, element by element, whatever its elements reach. No program. -/
namespace Go.Proofs.Bl
open Go Go.RowKit
/-- a reading in blocks of which F holds -/
def RdsF (F : Nat → Prop) (w : World) (v : Value) (n : Nat) (cs : List Value) : Prop :=
  ((∃ p, v = .slice p 0 0) ∧ n = 0 ∧ cs = []) ∨ ∃ b o c, v = .slice (some ⟨b, o, none⟩) n c ∧ n ≤ c ∧ c ≤ maxLen ∧ w.rangeAt b o cs ∧ (cs ≠ [] → F b)
section
variable {F F' : Nat → Prop} {w w' : World} {v : Value} {n : Nat} {cs : List Value}
theorem RdsF.rds (h : RdsF F w v n cs) : Rds w v n cs := by
  rcases h with h | ⟨b, o, c, h1, h2, h3, h4, _⟩
  · exact .inl h
  · exact .inr ⟨b, o, c, h1, h2, h3, h4⟩
theorem RdsF.of_rds (h : Rds w v n cs) (hF : ∀ b, v.ownBlock = some b → b < w.heap.size → F b) : RdsF F w v n cs := by
  rcases h with h | ⟨b, o, c, h1, h2, h3, h4⟩
  · exact .inl h
  · exact .inr ⟨b, o, c, h1, h2, h3, h4, fun hc => hF b (by rw [h1]; rfl) (rangeAt_lt h4 hc)⟩
theorem RdsF.kept (h : RdsF F w v n cs) (hk : ∀ b, F b → b < w.heap.size → F' b ∧ w'.heap[b]? = w.heap[b]?) : RdsF F' w' v n cs := by
  rcases h with h | ⟨b, o, c, h1, h2, h3, h4, h5⟩
  · exact .inl h
  · by_cases hc : cs = []
    · subst hc; exact .inr ⟨b, o, c, h1, h2, h3, fun j x hx => by simp at hx, fun q => absurd rfl q⟩
    · obtain ⟨k1, k2⟩ := hk b (h5 hc) (rangeAt_lt h4 hc)
      refine .inr ⟨b, o, c, h1, h2, h3, fun j x hx => ?_, fun _ => k1⟩
      rw [World.cell?_of_block (w := w) k2]; exact h4 j x hx
theorem RdsF.nil (w : World) : RdsF F w (.slice none 0 0) 0 [] := .inl ⟨⟨_, rfl⟩, rfl, rfl⟩
end
/-- a shown block in such blocks -/
structure OkF (F : Nat → Prop) (w : World) (x : Sv) : Prop where
  st : RdsF F w x.2.1.1 x.2.1.2.length (ints .u8 x.2.1.2)
  bs : Byt x.2.1.2
  pa : RdsF F w x.2.2.1 x.2.2.2.length (cellsD x.2.2.2)
  dg : Dig x.2.2.2
theorem OkF.ok {F : Nat → Prop} {w : World} {x : Sv} (h : OkF F w x) : OkS w x := ⟨h.st.rds, h.bs, h.pa.rds, h.dg⟩
/-- what holds of an element by its blocks alone -/
def Stab {α : Type} (Ok : (Nat → Prop) → World → α → Prop) : Prop := ∀ (F F' : Nat → Prop) (w w' : World) (x : α), Ok F w x → (∀ b, F b → b < w.heap.size → F' b ∧ w'.heap[b]? = w.heap[b]?) → Ok F' w' x
theorem stab_okF : Stab OkF := fun _ _ _ _ _ h hk => ⟨h.st.kept hk, h.bs, h.pa.kept hk, h.dg⟩
/-- a slice of bytes, as an element -/
abbrev Bv := Value × List Int
def cB (x : Bv) : List Value := [x.1]
def OkB (F : Nat → Prop) (w : World) (x : Bv) : Prop := RdsF F w x.1 x.2.length (ints .u8 x.2) ∧ Byt x.2
theorem stab_okB : Stab OkB := fun _ _ _ _ _ h hk => ⟨RdsF.kept h.1 hk, h.2⟩
def cI (x : Int) : List Value := [.int .i64 x]
theorem cellsI (l : List Int) : cellsR cI l = ints .i64 l := by
  unfold cellsR ints cI
  induction l with
  | nil => rfl
  | cons x r ih => simp [List.flatMap_cons, ih]
def OkT {α : Type} (_ : Nat → Prop) (_ : World) (_ : α) : Prop := True
theorem stab_okT {α : Type} : Stab (OkT (α := α)) := fun _ _ _ _ _ _ _ => trivial
/-- a row of elements in the field fi of the struct's variable X -/
structure GR {α : Type} (f : α → List Value) (s : Nat) (Ok : (Nat → Prop) → World → α → Prop) (A : Nat → Prop) (B e : Nat) (w : World) (X fi : Nat) (cs : List Value) (v : Value) (M : List α) : Prop where
  box : BoxC w X cs
  fld : cs[fi]? = some v
  own : w.ownsRow B e s v M.length (cellsR f M)
  ok : ∀ x ∈ M, Ok (fun b => b ≠ X ∧ v.ownBlock ≠ some b ∧ A b) w x
  ne : v.ownBlock ≠ some X
section
variable {α : Type} {f : α → List Value} {s : Nat} {Ok : (Nat → Prop) → World → α → Prop} {A : Nat → Prop} {B e : Nat} {w w1 w2 : World} {X fi : Nat} {cs : List Value} {v v' : Value} {M : List α} {y : α}
theorem GR.ext (hS : Stab Ok) (h : GR f s Ok A B e w X fi cs v M) (hE : Ext w w1) : GR f s Ok A B e w1 X fi cs v M :=
  ⟨h.box.ext hE, h.fld, owns_ext h.own hE, fun x hx => hS _ _ _ _ _ (h.ok x hx) fun b hb hlt => ⟨hb, hE.block b hlt⟩, h.ne⟩
theorem GR.start (hB : BoxC w X cs) (hf : cs[fi]? = some (.slice none 0 0)) : GR f s Ok A B e w X fi cs (.slice none 0 0) [] :=
  ⟨hB, hf, World.ownsRow_nil _ _ _ _, fun x hx => (by cases hx), fun q => (by cases q)⟩
theorem GR.lt (h : GR f s Ok A B e w X fi cs v M) : fi < cs.length := (List.getElem?_eq_some_iff.1 h.fld).1
theorem GR.cell (h : GR f s Ok A B e w X fi cs v M) : w.cell? ⟨X, fi, none⟩ = some v := h.box.cell h.fld
/-- behind the append, ahead of the store -/
theorem GR.mid (h : GR f s Ok A B e w1 X fi cs v M) (hg : w1.grownBy w2 v.ownBlock) : BoxC w2 X cs := h.box.grown hg (fun q => h.ne q)
theorem GR.own' (h : GR f s Ok A B e w X fi cs v M) {n : Nat} (hn : M.length = n) : w.ownsRow B e s v n (cellsR f M) := by subst hn; exact h.own
theorem GR.push (hS : Stab Ok) (h : GR f s Ok A B e w1 X fi cs v M) {n : Nat} (hn : M.length = n) (hown : w2.ownsRow B e s v' (n + 1) (cellsR f M ++ f y)) (hg : w1.grownBy w2 v.ownBlock) (hk : ∀ k, v'.ownBlock = some k → v.ownBlock = some k ∨ w1.heap.size ≤ k) (hy : Ok (fun b => b ≠ X ∧ v.ownBlock ≠ some b ∧ A b) w1 y) :
    GR f s Ok A B e (w2.setCell ⟨X, fi, none⟩ v') X fi (cs.set fi v') v' (M ++ [y]) := by
  subst hn
  have hne : v'.ownBlock ≠ some X := fun q => by
    rcases hk X q with z | z
    · exact h.ne z
    · have := h.box.lt; omega
  refine ⟨(h.mid hg).put h.lt v', by rw [List.getElem?_set_self h.lt], ?_, fun x hx => ?_, hne⟩
  · rw [List.length_append, List.length_singleton, cellsR_append, cellsR_one]
    exact owns_setCell hown hne fi v'
  · have key : ∀ b, (b ≠ X ∧ v.ownBlock ≠ some b ∧ A b) → b < w1.heap.size → (b ≠ X ∧ v'.ownBlock ≠ some b ∧ A b) ∧ (w2.setCell ⟨X, fi, none⟩ v').heap[b]? = w1.heap[b]? := fun b hb hlt => by
      refine ⟨⟨hb.1, fun q => ?_, hb.2.2⟩, ?_⟩
      · rcases hk b q with z | z
        · exact hb.2.1 z
        · omega
      · rw [Below.heap_setCell w2 ⟨X, fi, none⟩ v' b hb.1]
        exact hg.block b hlt (fun q => hb.2.1 q.symm)
    rcases List.mem_append.1 hx with hx | hx
    · exact hS _ _ _ _ _ (h.ok x hx) key
    · obtain rfl : x = y := by simpa using hx
      exact hS _ _ _ _ _ hy key
end
def isSl (v : Value) : Prop := ∃ p n c, v = .slice p n c
theorem Rds.isSl {w : World} {v : Value} {n : Nat} {cs : List Value} (h : Rds w v n cs) : isSl v := by
  obtain ⟨p, c, h1, _⟩ := h.form; exact ⟨p, n, c, h1⟩
theorem Rdss.isSl {w : World} {v : Value} {ps : List (List Int)} (h : Rdss w v ps) : Bl.isSl v := by
  obtain ⟨p, c, h1, _⟩ := h.form; exact ⟨p, _, c, h1⟩
theorem cL_one {l : LT} {vp vs vb : Value} (h1 : isSl vp) (h2 : isSl vs) (h3 : isSl vb) : ∀ c ∈ cL l vp vs vb, c.oneCell' = true := fun c hc => by
  obtain ⟨p1, n1, c1, rfl⟩ := h1
  obtain ⟨p2, n2, c2, rfl⟩ := h2
  obtain ⟨p3, n3, c3, rfl⟩ := h3
  unfold cL at hc
  simp only [List.mem_cons, List.not_mem_nil, or_false] at hc
  rcases hc with rfl | rfl | rfl | rfl | rfl | rfl | rfl | rfl | rfl <;> rfl
theorem cS3_one {p : Int} {u v : Value} (h1 : isSl u) (h2 : isSl v) : ∀ c ∈ ([.int .i64 p, u, v] : List Value), c.oneCell' = true := fun c hc => by
  obtain ⟨p1, n1, c1, rfl⟩ := h1
  obtain ⟨p2, n2, c2, rfl⟩ := h2
  simp only [List.mem_cons, List.not_mem_nil, or_false] at hc
  rcases hc with rfl | rfl | rfl <;> rfl
theorem isSl_nil : isSl (.slice none 0 0) := ⟨_, _, _, rfl⟩
end Go.Proofs.Bl

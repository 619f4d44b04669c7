/- Readings of memory that every walk of ours uses: a slice that reads as a list of cells; a block that is known whole. No program. -/
import Derived.WalkKit
import Derived.Deep.MidRow
import Derived.Deep.QuietTactic
import Derived.Deep.AppendLies
import Derived.Laws.AppendOwnNone
namespace Go.Proofs.Bl
open Go Go.RowKit

theorem hid {p : Prop} (h : p) : Hid p := h

/-- cells of whole numbers of one kind -/
def ints (k : IntKind) (l : List Int) : List Value := l.map (Value.int k)
@[simp] theorem ints_length (k : IntKind) (l : List Int) : (ints k l).length = l.length := by simp [ints]
theorem ints_get (k : IntKind) (l : List Int) (i : Nat) (h : i < l.length) : (ints k l)[i]? = some (.int k (l.getD i 0)) := by
  simp [ints, List.getD_eq_getElem?_getD, List.getElem?_eq_getElem h]
theorem ints_append (k : IntKind) (a b : List Int) : ints k (a ++ b) = ints k a ++ ints k b := by simp [ints]
theorem ints_one (k : IntKind) (l : List Int) : ∀ u ∈ ints k l, u.oneCell' = true := by
  intro u hu
  simp only [ints, List.mem_map] at hu
  obtain ⟨x, _, rfl⟩ := hu
  rfl
theorem ints_set (k : IntKind) (l : List Int) (i : Nat) (x : Int) : (ints k l).set i (.int k x) = ints k (l.set i x) := by simp [ints]

/-- what lies below block number B is as it was, B being the heap's size -/
abbrev Ext (w w' : World) : Prop := Below w.heap.size w w'
theorem Ext.trans {a b c : World} (h : Ext a b) (k : Ext b c) : Ext a c := Below.trans h (Below.mono k h.size)

theorem _root_.Go.RowKit.Below.drewN {B : Nat} {a w : World} (h : Below B a w) (n : Nat) : Below B a (w.drewN n) := ⟨h.os, h.tape, h.output, h.size, h.block⟩

theorem bcell {W w1 : World} {B : Nat} (hb : Below B W w1) : (∀ b o, b < B → w1.cell? ⟨b, o, none⟩ = W.cell? ⟨b, o, none⟩) ∧ (∀ b o, b < B → w1.frozen? ⟨b, o, none⟩ = W.frozen? ⟨b, o, none⟩) :=
  ⟨fun b o h => hb.cell (p := ⟨b, o, none⟩) h, fun b o h => hb.frozen (p := ⟨b, o, none⟩) h⟩

theorem rangeAt_lt {w : World} {b o : Nat} {cs : List Value} (h : w.rangeAt b o cs) (hne : cs ≠ []) : b < w.heap.size := by
  cases cs with
  | nil => exact absurd rfl hne
  | cons v r =>
    have := h 0 v (by simp)
    exact World.block_lt_of_cell? w _ this

theorem rangeAt_below {w w' : World} {B b o : Nat} {cs : List Value} (h : w.rangeAt b o cs) (hb : Below B w w') (hlt : b < B) : w'.rangeAt b o cs := fun j v hv => by
  rw [hb.cell (p := ⟨b, o + j, none⟩) hlt]; exact h j v hv
theorem rangeAt_ext {w w' : World} {b o : Nat} {cs : List Value} (h : w.rangeAt b o cs) (hb : Ext w w') : w'.rangeAt b o cs := by
  by_cases hne : cs = []
  · subst hne; intro j v hv; simp at hv
  · exact rangeAt_below h hb (rangeAt_lt h hne)
theorem rangeAt_drop {w : World} {b o : Nat} {cs : List Value} (h : w.rangeAt b o cs) (n : Nat) : w.rangeAt b (o + n) (cs.drop n) := fun j v hv => by
  rw [List.getElem?_drop] at hv
  have := h (n + j) v hv
  rw [← Nat.add_assoc] at this; exact this
theorem rangeAt_take {w : World} {b o : Nat} {cs : List Value} (h : w.rangeAt b o cs) (n : Nat) : w.rangeAt b o (cs.take n) := fun j v hv => by
  refine h j v ?_
  rw [List.getElem?_take] at hv
  split at hv
  · exact hv
  · cases hv

/-- the slice v of n elements reads as the cells cs -/
def Rds (w : World) (v : Value) (n : Nat) (cs : List Value) : Prop :=
  ((∃ p, v = .slice p 0 0) ∧ n = 0 ∧ cs = []) ∨ ∃ b o c, v = .slice (some ⟨b, o, none⟩) n c ∧ n ≤ c ∧ c ≤ maxLen ∧ w.rangeAt b o cs

theorem Rds.ext {w w' : World} {v : Value} {n : Nat} {cs : List Value} (h : Rds w v n cs) (hb : Ext w w') : Rds w' v n cs := by
  rcases h with h | ⟨b, o, c, h1, h2, h3, h4⟩
  · exact .inl h
  · exact .inr ⟨b, o, c, h1, h2, h3, rangeAt_ext h4 hb⟩
theorem Rds.nil (w : World) : Rds w (.slice none 0 0) 0 [] := .inl ⟨⟨_, rfl⟩, rfl, rfl⟩

/-- a slice of whole numbers of one kind that reads as a list -/
abbrev Rd (w : World) (k : IntKind) (v : Value) (l : List Int) : Prop := Rds w v l.length (ints k l)

theorem Rd.ext {w w' : World} {k : IntKind} {v : Value} {l : List Int} (h : Rd w k v l) (hb : Ext w w') : Rd w' k v l := Rds.ext h hb
theorem Rd.nil (w : World) (k : IntKind) : Rd w k (.slice none 0 0) [] := Rds.nil w

/-- a reading of one element or more: its address, and its cells -/
theorem Rd.pos {w : World} {k : IntKind} {v : Value} {l : List Int} (h : Rd w k v l) (hne : 0 < l.length) :
    ∃ b o c, v = .slice (some ⟨b, o, none⟩) l.length c ∧ l.length ≤ c ∧ c ≤ maxLen ∧ b < w.heap.size ∧ w.rangeAt b o (ints k l) ∧ ∀ i, i < l.length → w.cell? ⟨b, o + i, none⟩ = some (.int k (l.getD i 0)) := by
  rcases h with ⟨_, h, _⟩ | ⟨b, o, c, h1, h2, h3, h4⟩
  · omega
  · refine ⟨b, o, c, h1, h2, h3, rangeAt_lt h4 ?_, h4, fun i hi => h4 i _ (ints_get k l i hi)⟩
    intro h; have := congrArg List.length h; rw [ints_length] at this; simp only [List.length_nil] at this; omega
/-- the value of a reading -/
theorem Rds.form {w : World} {v : Value} {n : Nat} {cs : List Value} (h : Rds w v n cs) : ∃ p c, v = .slice p n c ∧ n ≤ c ∧ c ≤ maxLen := by
  rcases h with ⟨⟨p, h⟩, h', _⟩ | ⟨b, o, c, h1, h2, h3, h4⟩
  · exact ⟨p, 0, by rw [h, h'], by omega, by unfold maxLen; omega⟩
  · exact ⟨_, c, h1, h2, h3⟩

theorem Rds.of_owns {w : World} {base e size n : Nat} {v : Value} {xs : List Value} (h : w.ownsRow base e size v n xs) : Rds w v n xs := by
  have h2 := h
  obtain ⟨h0, h1⟩ := h
  rcases h1 with ⟨rfl, h1⟩ | ⟨g, cap, cur, rfl, hg, hh, hc, hm, hs, hx⟩
  · subst h1
    rw [Nat.zero_mul] at h0
    exact .inl ⟨⟨_, rfl⟩, rfl, List.length_eq_zero_iff.1 h0⟩
  · refine .inr ⟨g, 0, cap, rfl, hc, hm, fun j v hv => ?_⟩
    have := h2.cells (g := g) rfl j v hv
    rw [Addr.add_mid] at this
    exact this

/-- a reading that does not lie in block g -/
def RdsX (w : World) (g : Nat) (v : Value) (n : Nat) (cs : List Value) : Prop :=
  (v = .slice none 0 0 ∧ n = 0 ∧ cs = []) ∨ ∃ b o c, v = .slice (some ⟨b, o, none⟩) n c ∧ n ≤ c ∧ c ≤ maxLen ∧ b ≠ g ∧ w.rangeAt b o cs
theorem RdsX.rds {w : World} {g : Nat} {v : Value} {n : Nat} {cs : List Value} (h : RdsX w g v n cs) : Rds w v n cs := by
  rcases h with ⟨h1, h2, h3⟩ | ⟨b, o, c, h1, h2, h3, _, h4⟩
  · exact .inl ⟨⟨_, h1⟩, h2, h3⟩
  · exact .inr ⟨b, o, c, h1, h2, h3, h4⟩
theorem RdsX.ext {w w' : World} {g : Nat} {v : Value} {n : Nat} {cs : List Value} (h : RdsX w g v n cs) (hb : Ext w w') : RdsX w' g v n cs := by
  rcases h with h | ⟨b, o, c, h1, h2, h3, hne, h4⟩
  · exact .inl h
  · exact .inr ⟨b, o, c, h1, h2, h3, hne, rangeAt_ext h4 hb⟩
theorem RdsX.set {w : World} {g : Nat} {v : Value} {n : Nat} {cs : List Value} (h : RdsX w g v n cs) (i : Nat) (u : Value) : RdsX (w.setCell ⟨g, i, none⟩ u) g v n cs := by
  rcases h with h | ⟨b, o, c, h1, h2, h3, hne, h4⟩
  · exact .inl h
  · refine .inr ⟨b, o, c, h1, h2, h3, hne, fun j x hx => ?_⟩
    rw [World.cell?_setCell_other _ _ _ _ (by intro q; injection q with q; exact hne q.symm)]
    exact h4 j x hx
theorem RdsX.of_owns {w : World} {base e size n g : Nat} {v : Value} {xs : List Value} (h : w.ownsRow base e size v n xs) (hg : v.ownBlock ≠ some g) : RdsX w g v n xs := by
  have h2 := h
  obtain ⟨h0, h1⟩ := h
  rcases h1 with ⟨rfl, h1⟩ | ⟨k, cap, cur, rfl, hk, hh, hc, hm, hs, hx⟩
  · subst h1
    rw [Nat.zero_mul] at h0
    exact .inl ⟨rfl, rfl, List.length_eq_zero_iff.1 h0⟩
  · refine .inr ⟨k, 0, cap, rfl, hc, hm, fun q => hg (by rw [← q]; rfl), fun j v hv => ?_⟩
    have := h2.cells (g := k) rfl j v hv
    rw [Addr.add_mid] at this
    exact this

/-- a slice type: its element, the element's zero, its cells and its bytes -/
structure SlT (P : Program) (t e : TypeId) (z : Value) (size bytes : Nat) : Prop where
  ht : P.underlying t = some (.slice e)
  info : (P.info? e).map (fun i => (i.zero, i.size, i.bytes)) = some (some z, size, bytes)
  hz : z.cells.size = size
  pos : 0 < size

/-- append to a slice of one's own, from whatever reads -/
theorem wpL_append {P : Program} {ops : Array Oper} {rest : List Oper} {a : Act} {w : World} {Q : Exit → Act → World → Prop} {d : Option Tmp} {tt t e : TypeId} {pp : String} {af : Array Edge} {s x : Operand} {v u z : Value} {base size bytes n m : Nat} {xs news : List Value}
    (hT : SlT P t e z size bytes) (hown : w.ownsRow base e size v n xs) (hrd : Rds w u m news) (hl : news.length = m * size) (h1 : ∀ c ∈ news, c.oneCell' = true)
    (hlen : n + m ≤ maxLen) (hbytes : (n + m) * bytes ≤ 140737488355328) (hbase : base ≤ w.heap.size)
    (hs : a.eval s = v) (hx : a.eval x = u)
    (h : ∀ v' w', w'.ownsRow base e size v' (n + m) (xs ++ news) → w.grownBy w' v.ownBlock → Below base w w' → (∀ k, v'.ownBlock = some k → v.ownBlock = some k ∨ w.heap.size ≤ k) → wpList P ops Q rest (a.put d v') w') :
    wpList P ops Q (⟨d, .call { callee := .builtin .append, args := #[s, x], argTypes := #[t, t] }, tt, pp, af, none⟩ :: rest) a w := by
  obtain ⟨i, hi, hz, hs1, hb1⟩ := info_parts hT.info
  have hB : ∀ w', w.grownBy w' v.ownBlock → Below base w w' := fun w' hg => (Below.refl base w).grown hg hbase (fun k hk => (hown.lt k hk).1)
  rcases hrd with ⟨⟨p, hu⟩, hm, hn⟩ | ⟨b, o, c, hu, hnc, hcm, hr⟩
  · subst hm hn
    cases p with
    | none =>
      refine wpList_append_own_none rfl s x t rfl base e i size hT.ht hi v n xs hs hown (hx.trans hu) ?_
      have := h v w (by simpa using hown) (World.grownBy.refl w _) (Below.refl _ _) (fun k hk => .inl hk)
      exact this
    | some ad =>
      have hown0 := hown
      rcases hown.2 with ⟨hv, hn⟩ | ⟨g, cap, cur, hv, hg, hh, hc, hmx, hcs, hx2⟩
      · refine wpList_append_own w rfl s x t rfl base e i z size bytes hT.ht hi hz hs1 hb1 hT.hz hT.pos v n xs hs hown ad 0 0 [] (hx.trans hu) hl (fun j u hj => by simp at hj) h1 hlen hbytes hbase ?_
        intro v' w' h2 h3 h4
        refine h v' w' h2 h3 (hB w' h3) fun k hk => ?_
        rw [h4.2 ⟨hv, rfl⟩] at hk
        cases hk
      · subst hv
        refine wpList_append_fits_any w rfl s x t rfl base e i size hT.ht hi hs1 g n cap xs hs hown0 (some ad) 0 0 [] (hx.trans hu) hl (fun q => by cases q) (fun _ _ j u hj => by simp at hj) h1 (by omega) ?_
        intro w' h2 h3
        exact h _ w' h2 h3 (hB w' h3) fun k hk => .inl hk
  · have hnews : ∀ j u, news[j]? = some u → w.cell? ((⟨b, o, none⟩ : Addr).add j) = some u := fun j u hj => by rw [Addr.add_mid]; exact hr j u hj
    by_cases hm : 0 < m
    · refine wpList_append_lies w rfl s x t rfl base e i z size bytes hT.ht hi hz hs1 hb1 hT.hz hT.pos v n xs hs hown ⟨b, o, none⟩ m c news (hx.trans hu) hl hnews h1 hm hlen hbytes hbase w.heap.size rfl ?_
      intro g cap w' h2 h3 h4 _
      refine h _ w' h2 h3 (hB w' h3) fun k hk => ?_
      simp only [Value.ownBlock, Option.some.injEq] at hk
      subst hk
      rcases h4 with h4 | h4
      · exact .inl h4
      · exact .inr (by omega)
    · obtain rfl : m = 0 := by omega
      have hown0 := hown
      rcases hown.2 with ⟨hv, hn⟩ | ⟨g, cap, cur, hv, hg, hh, hc, hmx, hcs, hx2⟩
      · refine wpList_append_own w rfl s x t rfl base e i z size bytes hT.ht hi hz hs1 hb1 hT.hz hT.pos v n xs hs hown ⟨b, o, none⟩ 0 c news (hx.trans hu) hl hnews h1 hlen hbytes hbase ?_
        intro v' w' h2 h3 h4
        refine h v' w' h2 h3 (hB w' h3) fun k hk => ?_
        rw [h4.2 ⟨hv, rfl⟩] at hk
        cases hk
      · subst hv
        refine wpList_append_fits_any w rfl s x t rfl base e i size hT.ht hi hs1 g n cap xs hs hown0 (some ⟨b, o, none⟩) 0 c news (hx.trans hu) hl (fun q => by cases q) (fun ad had j u hj => by cases had; exact hnews j u hj) h1 (by omega) ?_
        intro w' h2 h3
        exact h _ w' h2 h3 (hB w' h3) fun k hk => .inl hk

theorem owns_new (w : World) (e : TypeId) (cs : Array Value) (base n size : Nat) (hb : base ≤ w.heap.size) (hm : n ≤ maxLen) (hs : cs.size = n * size) :
    (w.alloc (.cells cs e)).ownsRow base e size (.slice (some ⟨w.heap.size, 0, none⟩) n n) n cs.toList := World.ownsRow_lit w cs n hb hm hs
theorem owns_below {w w' : World} {base e size n B : Nat} {v : Value} {xs : List Value} (h : w.ownsRow base e size v n xs) (hb : Below B w w') (hB : ∀ k, v.ownBlock = some k → k < B) : w'.ownsRow base e size v n xs := by
  obtain ⟨h1, h2⟩ := h
  refine ⟨h1, ?_⟩
  rcases h2 with h2 | ⟨g, cap, cur, hv, hg, hh, r⟩
  · exact .inl h2
  · exact .inr ⟨g, cap, cur, hv, hg, by rw [hb.block g (hB g (by rw [hv]; rfl))]; exact hh, r⟩
theorem owns_setCell {w : World} {base e size n g : Nat} {v : Value} {xs : List Value} (h : w.ownsRow base e size v n xs) (hg : v.ownBlock ≠ some g) (i : Nat) (u : Value) : (w.setCell ⟨g, i, none⟩ u).ownsRow base e size v n xs := by
  obtain ⟨h1, h2⟩ := h
  refine ⟨h1, ?_⟩
  rcases h2 with h2 | ⟨k, cap, cur, hv, hk, hh, r⟩
  · exact .inl h2
  · exact .inr ⟨k, cap, cur, hv, hk, by rw [Below.heap_setCell _ _ _ _ (fun q => hg (by rw [hv]; exact congrArg some q))]; exact hh, r⟩
theorem owns_ext {w w' : World} {base e size n : Nat} {v : Value} {xs : List Value} (h : w.ownsRow base e size v n xs) (hb : Ext w w') : w'.ownsRow base e size v n xs := owns_below h hb (fun k hk => (h.lt k hk).2)
theorem owns_mono {w : World} {base base' e size n : Nat} {v : Value} {xs : List Value} (h : w.ownsRow base e size v n xs) (hb : base' ≤ base) : w.ownsRow base' e size v n xs := by
  obtain ⟨h1, h2⟩ := h
  refine ⟨h1, ?_⟩
  rcases h2 with h2 | ⟨g, cap, cur, hv, hg, r⟩
  · exact .inl h2
  · exact .inr ⟨g, cap, cur, hv, by omega, r⟩

/-- a block's first n cells, as a function; none of its cells is frozen -/
def Fam (w : World) (g : Nat) (k : IntKind) (n : Nat) (f : Nat → Int) : Prop :=
  (∀ i, i < n → w.cell? ⟨g, i, none⟩ = some (.int k (f i))) ∧ ∀ i, w.frozen? ⟨g, i, none⟩ = false
theorem Fam.set {w : World} {g : Nat} {k : IntKind} {n : Nat} {f : Nat → Int} (h : Fam w g k n f) (i : Nat) (hi : i < n) (v : Int) :
    Fam (w.setCell ⟨g, i, none⟩ (.int k v)) g k n (fun j => if j = i then v else f j) := by
  refine ⟨fun j hj => ?_, fun j => by rw [World.frozen?_setCell]; exact h.2 j⟩
  by_cases e : j = i
  · subst e; simp only [if_true]; exact World.cell?_setCell_same _ _ _ (h.1 j hj)
  · simp only [if_neg e]
    rw [World.cell?_setCell_other _ _ _ _ (by intro q; injection q with _ q; omega)]
    exact h.1 j hj
theorem Fam.congr {w : World} {g : Nat} {k : IntKind} {n : Nat} {f f' : Nat → Int} (h : Fam w g k n f) (e : ∀ i, i < n → f i = f' i) : Fam w g k n f' :=
  ⟨fun i hi => by rw [← e i hi]; exact h.1 i hi, h.2⟩
theorem Fam.below {w w' : World} {B g : Nat} {k : IntKind} {n : Nat} {f : Nat → Int} (h : Fam w g k n f) (hb : Below B w w') (hg : g < B) : Fam w' g k n f :=
  ⟨fun i hi => by rw [(bcell hb).1 g i hg]; exact h.1 i hi, fun i => by rw [(bcell hb).2 g i hg]; exact h.2 i⟩
theorem Fam.drew {w : World} {g : Nat} {k : IntKind} {n : Nat} {f : Nat → Int} (h : Fam w g k n f) (j : Nat) : Fam (w.drewN j) g k n f := by
  induction j generalizing w with
  | zero => exact h
  | succ j ih => exact ih (w := w.drew) h
theorem Fam.other {w : World} {g : Nat} {k : IntKind} {n : Nat} {f : Nat → Int} (h : Fam w g k n f) (p : Addr) (v : Value) (hp : p.block ≠ g) : Fam (w.setCell p v) g k n f :=
  ⟨fun i hi => by rw [World.cell?_setCell_other _ _ _ _ (by intro q; rw [q] at hp; exact hp rfl)]; exact h.1 i hi, fun i => by rw [World.frozen?_setCell]; exact h.2 i⟩
theorem Fam.store8 {w : World} {g : Nat} {k : IntKind} {f : Nat → Int} (h : Fam w g k 8 f) (x0 x1 x2 x3 x4 x5 x6 x7 : Int) :
    Fam ((((((((w.setCell ⟨g, 0, none⟩ (.int k x0)).setCell ⟨g, 1, none⟩ (.int k x1)).setCell ⟨g, 2, none⟩ (.int k x2)).setCell ⟨g, 3, none⟩ (.int k x3)).setCell ⟨g, 4, none⟩ (.int k x4)).setCell ⟨g, 5, none⟩ (.int k x5)).setCell ⟨g, 6, none⟩ (.int k x6)).setCell ⟨g, 7, none⟩ (.int k x7)) g k 8 (fun i => ([x0, x1, x2, x3, x4, x5, x6, x7] : List Int).getD i 0) := by
  refine ((((((((h.set 0 (by decide) x0).set 1 (by decide) x1).set 2 (by decide) x2).set 3 (by decide) x3).set 4 (by decide) x4).set 5 (by decide) x5).set 6 (by decide) x6).set 7 (by decide) x7).congr fun i hi => ?_
  match i, hi with
  | 0, _ => rfl
  | 1, _ => rfl
  | 2, _ => rfl
  | 3, _ => rfl
  | 4, _ => rfl
  | 5, _ => rfl
  | 6, _ => rfl
  | 7, _ => rfl
theorem Fam.other8 {w : World} {g : Nat} {k : IntKind} {n : Nat} {f : Nat → Int} (h : Fam w g k n f) (b : Nat) (hb : b ≠ g) (x0 x1 x2 x3 x4 x5 x6 x7 : Value) :
    Fam ((((((((w.setCell ⟨b, 0, none⟩ x0).setCell ⟨b, 1, none⟩ x1).setCell ⟨b, 2, none⟩ x2).setCell ⟨b, 3, none⟩ x3).setCell ⟨b, 4, none⟩ x4).setCell ⟨b, 5, none⟩ x5).setCell ⟨b, 6, none⟩ x6).setCell ⟨b, 7, none⟩ x7) g k n f :=
  (((((((h.other _ _ hb).other _ _ hb).other _ _ hb).other _ _ hb).other _ _ hb).other _ _ hb).other _ _ hb).other _ _ hb
theorem below8 {B : Nat} {a w : World} (h : Below B a w) (b : Nat) (hb : B ≤ b) (x0 x1 x2 x3 x4 x5 x6 x7 : Value) :
    Below B a ((((((((w.setCell ⟨b, 0, none⟩ x0).setCell ⟨b, 1, none⟩ x1).setCell ⟨b, 2, none⟩ x2).setCell ⟨b, 3, none⟩ x3).setCell ⟨b, 4, none⟩ x4).setCell ⟨b, 5, none⟩ x5).setCell ⟨b, 6, none⟩ x6).setCell ⟨b, 7, none⟩ x7) :=
  (((((((h.setCell hb _).setCell hb _).setCell hb _).setCell hb _).setCell hb _).setCell hb _).setCell hb _).setCell hb _
theorem Fam.grown {w w' : World} {g : Nat} {k : IntKind} {n : Nat} {f : Nat → Int} {row : Option Nat} (h : Fam w g k n f) (hg : w.grownBy w' row) (hlt : g < w.heap.size) (hne : some g ≠ row) : Fam w' g k n f :=
  ⟨fun i hi => (hg.cell_far ⟨g, i, none⟩ hlt hne).trans (h.1 i hi), fun i => (hg.frozen_far ⟨g, i, none⟩ hlt hne).trans (h.2 i)⟩
theorem Fam.range {w : World} {g : Nat} {k : IntKind} {n : Nat} {f : Nat → Int} (h : Fam w g k n f) : w.rangeAt g 0 (ints k ((List.range n).map f)) := fun j v hv => by
  have hj : j < n := by
    have := (List.getElem?_eq_some_iff.1 hv).1; simpa using this
  rw [ints_get _ _ _ (by simpa using hj)] at hv
  cases hv
  rw [Nat.zero_add, h.1 j hj]
  simp [List.getD_eq_getElem?_getD, hj]
theorem Fam.alloc {w : World} {g : Nat} {k : IntKind} {n : Nat} {f : Nat → Int} (h : Fam w g k n f) (hg : g < w.heap.size) (o : Obj) : Fam (w.alloc o) g k n f :=
  h.below ((Below.refl w.heap.size w).alloc (Nat.le_refl _) o) hg


/-- all are bytes -/
def Byt (l : List Int) : Prop := ∀ x ∈ l, 0 ≤ x ∧ x ≤ 255
theorem Byt.get {l : List Int} (h : Byt l) (i : Nat) : 0 ≤ l.getD i 0 ∧ l.getD i 0 ≤ 255 := by
  rw [List.getD_eq_getElem?_getD]
  by_cases hi : i < l.length
  · rw [List.getElem?_eq_getElem hi]; exact h _ (List.getElem_mem hi)
  · rw [List.getElem?_eq_none (by omega)]; simp
theorem Byt.append {a b : List Int} (h : Byt a) (k : Byt b) : Byt (a ++ b) := fun x hx => by
  rcases List.mem_append.1 hx with hx | hx
  · exact h x hx
  · exact k x hx
theorem Byt.take {a : List Int} (h : Byt a) (n : Nat) : Byt (a.take n) := fun x hx => h x (List.mem_of_mem_take hx)
theorem Byt.drop {a : List Int} (h : Byt a) (n : Nat) : Byt (a.drop n) := fun x hx => h x (List.mem_of_mem_drop hx)
theorem Byt.nil : Byt [] := fun x hx => by cases hx


/-! ### arms for the walk: a load, a store, an index whose run is known -/
section
variable {P : Program} {ops : Array Oper} {rest : List Oper} {a : Act} {w w' : World} {Q : Exit → Act → World → Prop} {d : Option Tmp} {tt ty : TypeId} {pp : String} {af : Array Edge} {x y : Operand} {p v : Value}
theorem wpL_load (hx : a.eval x = p) (hld : (Instr.loadAt ty p).run P w = .ok v w) (h : wpList P ops Q rest (a.put d v) w) :
    wpList P ops Q (⟨d, .load ty x, tt, pp, af, none⟩ :: rest) a w :=
  wpList_plain rfl fun K hK => by
    unfold Oper.wp execOp
    simp only [hx, Sem.run_bind, Sem.run_pure, Result.andThen_ok, hld]
    exact hK _ _ h
theorem wpL_store (hx : a.eval x = p) (hy : a.eval y = v) (hst : (Instr.storeAt ty p v).run P w = .ok () w') (h : wpList P ops Q rest (a.put d undef) w') :
    wpList P ops Q (⟨d, .store ty x y, tt, pp, af, none⟩ :: rest) a w :=
  wpList_plain rfl fun K hK => by
    unfold Oper.wp execOp
    simp only [hx, hy, Sem.run_bind, Sem.run_pure, Result.andThen_ok, hst]
    exact hK _ _ h
theorem wpL_index (hx : a.eval x = p) (hy : a.eval y = v) {r : Value} (hix : (Instr.index ty p v).run P w = .ok r w) (h : wpList P ops Q rest (a.put d r) w) :
    wpList P ops Q (⟨d, .index ty x y, tt, pp, af, none⟩ :: rest) a w :=
  wpList_plain rfl fun K hK => by
    unfold Oper.wp execOp
    simp only [hx, hy, Sem.run_bind, Sem.run_pure, Result.andThen_ok, hix]
    exact hK _ _ h
end

/-- a whole array of numbers is read -/
theorem load_ints {P : Program} {w : World} {b o : Nat} {ty e : TypeId} {k : IntKind} {l : List Int} {n : Nat} (hc : w.rangeAt b o (ints k l)) (hu : P.underlying ty = some (.array n e)) (hi : (P.info? ty).map (·.size) = some n) (hl : l.length = n) :
    (Instr.loadAt ty (.pointer (some ⟨b, o, none⟩))).run P w = .ok (.agg (ints k l).toArray) w :=
  run_loadAt_mid w b o ty (ints k l) _ hc hu rfl (by rw [hi, ints_length, hl])
/-- a whole array of numbers is stored -/
theorem store_ints {P : Program} {w : World} {b o : Nat} {ty : TypeId} {k : IntKind} {l : List Int} {n : Nat} (ht : w.there b o n) (hi : (P.info? ty).map (·.size) = some n) (hl : l.length = n) :
    (Instr.storeAt ty (.pointer (some ⟨b, o, none⟩)) (.agg (ints k l).toArray)).run P w = .ok () (w.setCells b o (ints k l)) := by
  have h := run_storeAt_mid (P := P) w b o ty (ints k l).toArray (by simpa [hl] using ht) (by rw [hi]; simp [hl]) (all_oneCell_toArray (ints_one _ _))
  simpa using h
theorem store_row8 {P : Program} {w : World} {b o : Nat} {ty : TypeId} {k : IntKind} (ht : w.there b o 8) (hi : (P.info? ty).map (·.size) = some 8) (x0 x1 x2 x3 x4 x5 x6 x7 : Int) :
    (Instr.storeAt ty (.pointer (some ⟨b, o, none⟩)) (.agg #[.int k x0, .int k x1, .int k x2, .int k x3, .int k x4, .int k x5, .int k x6, .int k x7])).run P w = .ok () (w.setCells b o (ints k [x0, x1, x2, x3, x4, x5, x6, x7])) :=
  store_ints (l := [x0, x1, x2, x3, x4, x5, x6, x7]) ht hi rfl
theorem Fam.there {w : World} {g : Nat} {k : IntKind} {n : Nat} {f : Nat → Int} (h : Fam w g k n f) : w.there g 0 n := fun j hj => by
  rw [Nat.zero_add, h.1 j hj]; exact ⟨rfl, h.2 j⟩

theorem below_setCells {B : Nat} {a : World} : ∀ (vs : List Value) (b o : Nat) (w : World), Below B a w → B ≤ b → Below B a (w.setCells b o vs)
  | [], _, _, _, h, _ => h
  | v :: r, b, o, w, h, hb => by rw [World.setCells]; exact below_setCells r b (o + 1) _ (h.setCell (p := ⟨b, o, none⟩) hb _) hb

/-- the element of an array of numbers -/
theorem index_ints {P : Program} {w : World} {ty e : TypeId} {k : IntKind} {l : List Int} {n i : Nat} (hu : P.underlying ty = some (.array n e)) (hz : ∀ w, (sizeOf e).run P w = .ok 1 w) (ha : ∀ w, (isAgg e).run P w = .ok false w) (hl : l.length = n) (hi : i < n) :
    (Instr.index ty (.agg (ints k l).toArray) (.int .i64 i)).run P w = .ok (.int k (l.getD i 0)) w := by
  have hg := ints_get k l i (by omega)
  have h1 : (0 : Int) ≤ (i : Int) ∧ (i : Int) < (n : Int) := by omega
  simp only [Instr.index, asIntOf, Sem.run_bind, Sem.run_pure, Result.andThen_ok, run_underlying hu, if_pos h1, hz, part, ha, Bool.false_eq_true, if_false, Nat.mul_one, Int.toNat_natCast, List.getElem?_toArray, hg]

/-- a result that lies in a variable -/
theorem results_cell {P : Program} {fn : Func} {p : Tmp} {ty : TypeId} {tmps : Array Value} {w : World} {b : Addr} {v : Value} (h : fn.results = #[.cell p ty]) (hp : tmps.getD p undef = .pointer (some b)) (hl : (loadVar ty b).run P w = .ok v w) :
    (results fn tmps).run P w = .ok v w := by
  have hp' : tmps[p]?.getD undef = .pointer (some b) := by simpa using hp
  simp [results, h, hp', asAddr, hl]


/-- all blocks but g are as they were -/
def Exc (g : Nat) (w w' : World) : Prop := ∀ k, k ≠ g → w'.heap[k]? = w.heap[k]?
theorem Exc.refl (g : Nat) (w : World) : Exc g w w := fun _ _ => rfl
theorem Exc.set {g : Nat} {a w : World} (h : Exc g a w) (i : Nat) (u : Value) : Exc g a (w.setCell ⟨g, i, none⟩ u) := fun k hk => (Below.heap_setCell _ _ _ _ hk).trans (h k hk)
theorem Exc.store8 {g : Nat} {a w : World} (h : Exc g a w) (x0 x1 x2 x3 x4 x5 x6 x7 : Value) :
    Exc g a ((((((((w.setCell ⟨g, 0, none⟩ x0).setCell ⟨g, 1, none⟩ x1).setCell ⟨g, 2, none⟩ x2).setCell ⟨g, 3, none⟩ x3).setCell ⟨g, 4, none⟩ x4).setCell ⟨g, 5, none⟩ x5).setCell ⟨g, 6, none⟩ x6).setCell ⟨g, 7, none⟩ x7) :=
  (((((((h.set 0 _).set 1 _).set 2 _).set 3 _).set 4 _).set 5 _).set 6 _).set 7 _
theorem Exc.range {g : Nat} {w w' : World} (h : Exc g w w') {b o : Nat} {cs : List Value} (hr : w.rangeAt b o cs) (hb : b ≠ g) : w'.rangeAt b o cs := fun j v hv => by
  rw [World.cell?_of_block (w := w) (h b hb)]; exact hr j v hv
theorem Exc.owns {g : Nat} {w w' : World} (h : Exc g w w') {base e size n : Nat} {v : Value} {xs : List Value} (ho : w.ownsRow base e size v n xs) (hg : v.ownBlock ≠ some g) : w'.ownsRow base e size v n xs := by
  obtain ⟨h1, h2⟩ := ho
  refine ⟨h1, ?_⟩
  rcases h2 with h2 | ⟨k, cap, cur, hv, hk, hh, r⟩
  · exact .inl h2
  · exact .inr ⟨k, cap, cur, hv, hk, by rw [h k (fun q => hg (by rw [hv]; exact congrArg some q))]; exact hh, r⟩
theorem Fam.setHi {w : World} {g : Nat} {k : IntKind} {n : Nat} {f : Nat → Int} (h : Fam w g k n f) (i : Nat) (hi : n ≤ i) (u : Value) : Fam (w.setCell ⟨g, i, none⟩ u) g k n f :=
  ⟨fun j hj => by rw [World.cell?_setCell_other _ _ _ _ (by intro q; injection q with _ q; omega)]; exact h.1 j hj, fun j => by rw [World.frozen?_setCell]; exact h.2 j⟩
theorem cell_hi8 {w : World} {g j : Nat} {v : Value} (h : w.cell? ⟨g, j, none⟩ = some v) (hj : 8 ≤ j) (x0 x1 x2 x3 x4 x5 x6 x7 : Value) :
    ((((((((w.setCell ⟨g, 0, none⟩ x0).setCell ⟨g, 1, none⟩ x1).setCell ⟨g, 2, none⟩ x2).setCell ⟨g, 3, none⟩ x3).setCell ⟨g, 4, none⟩ x4).setCell ⟨g, 5, none⟩ x5).setCell ⟨g, 6, none⟩ x6).setCell ⟨g, 7, none⟩ x7).cell? ⟨g, j, none⟩ = some v := by
  rw [World.cell?_setCell_other _ _ _ _ (by intro q; injection q with _ q; omega), World.cell?_setCell_other _ _ _ _ (by intro q; injection q with _ q; omega), World.cell?_setCell_other _ _ _ _ (by intro q; injection q with _ q; omega), World.cell?_setCell_other _ _ _ _ (by intro q; injection q with _ q; omega), World.cell?_setCell_other _ _ _ _ (by intro q; injection q with _ q; omega), World.cell?_setCell_other _ _ _ _ (by intro q; injection q with _ q; omega), World.cell?_setCell_other _ _ _ _ (by intro q; injection q with _ q; omega), World.cell?_setCell_other _ _ _ _ (by intro q; injection q with _ q; omega)]
  exact h
theorem cell_set_ne {w : World} {g i j : Nat} {u v : Value} (h : w.cell? ⟨g, j, none⟩ = some v) (hne : i ≠ j) : (w.setCell ⟨g, i, none⟩ u).cell? ⟨g, j, none⟩ = some v := by
  rw [World.cell?_setCell_other _ _ _ _ (by intro q; injection q with _ q; omega)]; exact h

/-- a new block -/
theorem ext_alloc (w : World) (o : Obj) : Ext w (w.alloc o) := (Below.refl _ _).alloc (Nat.le_refl _) o
theorem below_alloc {B : Nat} (w : World) (o : Obj) (h : B ≤ w.heap.size) : Below B w (w.alloc o) := (Below.refl _ _).alloc h o
/-- a literal's cells -/
theorem rds_lit (w : World) (e : TypeId) (k : IntKind) (l : List Int) (hm : l.length ≤ maxLen) :
    Rds (w.alloc (.cells (ints k l).toArray e)) (.slice (some ⟨w.heap.size, 0, none⟩) l.length l.length) l.length (ints k l) := by
  refine .inr ⟨w.heap.size, 0, l.length, rfl, Nat.le_refl _, hm, fun j v hv => ?_⟩
  rw [Nat.zero_add, World.cell?_alloc_new]
  simpa using hv
end Go.Proofs.Bl

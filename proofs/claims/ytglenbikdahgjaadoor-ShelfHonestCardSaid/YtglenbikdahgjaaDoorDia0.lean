/- Texts that stood apart, in one: Row, Dia, Acts. -/
import Derived.Test.YtglenbikdahgjaaDoorBA2
import Derived.Test.YtglenbikdahgjaaDoorTri0
import Derived.Test.YtglenbikdahgjaaDoorOpn1
/- Rows of structs: their cells, element by element; variables of structs; a row in a field that grows in a region whose order is open. No program. -/
namespace Go.Proofs.Bl
open Go Go.RowKit
section
variable {α : Type} {f : α → List Value} {s : Nat}
def cellsR (f : α → List Value) (L : List α) : List Value := L.flatMap f
theorem cellsR_nil : cellsR f [] = [] := rfl
theorem cellsR_append (a b : List α) : cellsR f (a ++ b) = cellsR f a ++ cellsR f b := by simp [cellsR]
theorem cellsR_one (x : α) : cellsR f [x] = f x := by simp [cellsR]
theorem cellsR_cons (x : α) (r : List α) : cellsR f (x :: r) = f x ++ cellsR f r := by simp [cellsR]
theorem cellsR_length : ∀ {L : List α}, (∀ x ∈ L, (f x).length = s) → (cellsR f L).length = L.length * s
  | [], _ => by simp [cellsR]
  | x :: r, h => by
    have h1 := h x (by simp)
    have h2 := cellsR_length (L := r) (fun y hy => h y (List.mem_cons_of_mem _ hy))
    rw [cellsR_cons, List.length_append, h1, h2, List.length_cons, Nat.add_mul]; omega
theorem cellsR_cell {L : List α} (h : ∀ x ∈ L, ∀ c ∈ f x, c.oneCell' = true) : ∀ c ∈ cellsR f L, c.oneCell' = true := fun c hc => by
  obtain ⟨x, hx, hd⟩ := List.mem_flatMap.1 hc
  exact h x hx c hd
theorem cellsR_drop {L : List α} (h : ∀ x ∈ L, (f x).length = s) (k : Nat) : (cellsR f L).drop (k * s) = cellsR f (L.drop k) := by
  by_cases hk : k ≤ L.length
  · have e : L = L.take k ++ L.drop k := (List.take_append_drop k L).symm
    conv => lhs; rw [e, cellsR_append]
    exact List.drop_left' (by rw [cellsR_length (s := s) (fun x hx => h x (List.mem_of_mem_take hx)), List.length_take, Nat.min_eq_left hk])
  · rw [List.drop_of_length_le (by rw [cellsR_length h]; exact Nat.mul_le_mul_right _ (by omega)), List.drop_of_length_le (by omega)]; rfl
theorem cellsR_take {L : List α} (h : ∀ x ∈ L, (f x).length = s) (k : Nat) : (cellsR f L).take (k * s) = cellsR f (L.take k) := by
  by_cases hk : k ≤ L.length
  · have e : L = L.take k ++ L.drop k := (List.take_append_drop k L).symm
    conv => lhs; rw [e, cellsR_append]
    exact List.take_left' (by rw [cellsR_length (s := s) (fun x hx => h x (List.mem_of_mem_take hx)), List.length_take, Nat.min_eq_left hk])
  · rw [List.take_of_length_le (by rw [cellsR_length h]; exact Nat.mul_le_mul_right _ (by omega)), List.take_of_length_le (by omega)]
theorem getD_mem {L : List α} (d : α) {i : Nat} (hi : i < L.length) : L.getD i d ∈ L := by
  rw [List.getD_eq_getElem?_getD, List.getElem?_eq_getElem hi]; exact List.getElem_mem hi
/-- an element's cells -/
theorem elem_at {w : World} {b o : Nat} {L : List α} (d : α) (h : w.rangeAt b o (cellsR f L)) (hs : ∀ x ∈ L, (f x).length = s) {i : Nat} (hi : i < L.length) : w.rangeAt b (o + i * s) (f (L.getD i d)) := by
  have h1 := rangeAt_drop h (i * s)
  rw [cellsR_drop hs, List.drop_eq_getElem_cons hi, cellsR_cons] at h1
  have h2 := rangeAt_take h1 s
  rw [List.take_left' (hs _ (List.getElem_mem hi))] at h2
  rw [List.getD_eq_getElem?_getD, List.getElem?_eq_getElem hi]; exact h2
/-- a row, element by element -/
theorem range_cellsR {w : World} {g o : Nat} {L : List α} (d : α) (hpos : 0 < s) (hs : ∀ x ∈ L, (f x).length = s) (h : ∀ i, i < L.length → w.rangeAt g (o + i * s) (f (L.getD i d))) : w.rangeAt g o (cellsR f L) := fun j v hv => by
  have hj : j < L.length * s := by
    have := (List.getElem?_eq_some_iff.1 hv).1
    rwa [cellsR_length hs] at this
  have hi : j / s < L.length := (Nat.div_lt_iff_lt_mul hpos).2 hj
  have hjd : j / s * s + j % s = j := by rw [Nat.mul_comm]; exact Nat.div_add_mod j s
  have e : (cellsR f L)[j]? = (f (L.getD (j / s) d))[j % s]? := by
    have h2 : (cellsR f L).drop (j / s * s) = cellsR f (L.drop (j / s)) := cellsR_drop hs _
    have h3 : (cellsR f L)[j]? = ((cellsR f L).drop (j / s * s))[j % s]? := by
      rw [List.getElem?_drop, hjd]
    rw [h3, h2, List.drop_eq_getElem_cons hi, cellsR_cons, List.getElem?_append_left (by rw [hs _ (List.getElem_mem hi)]; exact Nat.mod_lt _ hpos), List.getD_eq_getElem?_getD, List.getElem?_eq_getElem hi]; rfl
  rw [e] at hv
  have := h (j / s) hi (j % s) v hv
  rw [Nat.add_assoc, hjd] at this
  exact this
end
/-- a reading of one element or more -/
theorem Rds.pos {w : World} {v : Value} {n : Nat} {cs : List Value} (h : Rds w v n cs) (hn : 0 < n) (hc : cs ≠ []) : ∃ b o c, v = .slice (some ⟨b, o, none⟩) n c ∧ n ≤ c ∧ c ≤ maxLen ∧ b < w.heap.size ∧ w.rangeAt b o cs := by
  rcases h with ⟨_, h, _⟩ | ⟨b, o, c, h1, h2, h3, h4⟩
  · omega
  · exact ⟨b, o, c, h1, h2, h3, rangeAt_lt h4 hc, h4⟩
/-- a variable of a struct: its cells -/
structure BoxC (w : World) (X : Nat) (cs : List Value) : Prop where
  rg : w.rangeAt X 0 cs
  th : w.there X 0 cs.length
  ne : cs ≠ []
section
variable {w w' : World} {X : Nat} {cs : List Value}
theorem BoxC.lt (h : BoxC w X cs) : X < w.heap.size := rangeAt_lt h.rg h.ne
theorem BoxC.same (h : BoxC w X cs) (hb : w'.heap[X]? = w.heap[X]?) : BoxC w' X cs :=
  ⟨fun j v hj => by rw [World.cell?_of_block (w := w) hb]; exact h.rg j v hj, fun j hj => by rw [World.cell?_of_block (w := w) hb, World.frozen?_of_block (w := w) hb]; exact h.th j hj, h.ne⟩
theorem BoxC.ext (h : BoxC w X cs) (hE : Ext w w') : BoxC w' X cs := h.same (hE.block X h.lt)
theorem BoxC.below {B : Nat} (h : BoxC w X cs) (hE : Below B w w') (hX : X < B) : BoxC w' X cs := h.same (hE.block X hX)
theorem BoxC.grown {row : Option Nat} (h : BoxC w X cs) (hg : w.grownBy w' row) (hne : row ≠ some X) : BoxC w' X cs := h.same (hg.block X h.lt (fun q => hne q.symm))
theorem BoxC.cell (h : BoxC w X cs) {i : Nat} {v : Value} (hi : cs[i]? = some v) : w.cell? ⟨X, i, none⟩ = some v := by
  have := h.rg i v hi
  rwa [Nat.zero_add] at this
theorem BoxC.sub (h : BoxC w X cs) {i : Nat} {r : List Value} (hi : cs.drop i = r) : w.rangeAt X i r := fun j v hj => by
  rw [← hi, List.getElem?_drop] at hj
  have := h.rg (i + j) v hj
  rwa [Nat.zero_add] at this
theorem BoxC.loadVar {P : Program} (h : BoxC w X cs) {ty : TypeId} {d : TypeDesc} (hu : P.underlying ty = some d) (hd : d.isRow = true) (hi : (P.info? ty).map (·.size) = some cs.length) : (loadVar ty ⟨X, 0, none⟩).run P w = .ok (.agg cs.toArray) w :=
  run_loadVar_mid (P := P) w X 0 ty cs d h.rg hu hd hi
theorem BoxC.load {P : Program} (h : BoxC w X cs) {ty : TypeId} {d : TypeDesc} (hu : P.underlying ty = some d) (hd : d.isRow = true) (hi : (P.info? ty).map (·.size) = some cs.length) : (Instr.loadAt ty (.pointer (some ⟨X, 0, none⟩))).run P w = .ok (.agg cs.toArray) w :=
  run_loadAt_mid (P := P) w X 0 ty cs d h.rg hu hd hi
theorem BoxC.box (w : World) (e : TypeId) (hne : cs ≠ []) : BoxC (w.alloc (.cells cs.toArray e)) w.heap.size cs :=
  ⟨fun j v hj => by rw [Nat.zero_add, World.cell?_alloc_new]; simpa using hj, there_new w cs.toArray e _ (by simp), hne⟩
theorem BoxC.store {P : Program} {cs' : List Value} (h : BoxC w X cs) (hl : cs'.length = cs.length) (h1 : ∀ c ∈ cs', c.oneCell' = true) {ty : TypeId} (hi : (P.info? ty).map (·.size) = some cs'.length) :
    (Instr.storeAt ty (.pointer (some ⟨X, 0, none⟩)) (.agg cs'.toArray)).run P w = .ok () (w.setCells X 0 cs') := by
  have h2 := run_storeAt_mid (P := P) w X 0 ty cs'.toArray (by simpa [hl] using h.th) (by simpa using hi) (all_oneCell_toArray h1)
  simpa using h2
theorem BoxC.set {cs' : List Value} (h : BoxC w X cs) (hl : cs'.length = cs.length) : BoxC (w.setCells X 0 cs') X cs' :=
  ⟨World.rangeAt_setCells_same w X 0 cs' (by rw [hl]; exact h.th), by rw [hl]; exact World.there_setCells h.th _ _ _, fun q => h.ne (List.length_eq_zero_iff.1 (by rw [← hl, q]; rfl))⟩
theorem BoxC.other (h : BoxC w X cs) {Y : Nat} (hne : X ≠ Y) (vs : List Value) : BoxC (w.setCells Y 0 vs) X cs := h.same (exc_setCells vs 0 w (Exc.refl Y w) X hne)
/-- a new variable, and what is stored into it -/
theorem BoxC.fresh (w : World) (e : TypeId) (z : Array Value) (hz : z.size = cs.length) (hne : cs ≠ []) : BoxC ((w.alloc (.cells z e)).setCells w.heap.size 0 cs) w.heap.size cs ∧ Ext w ((w.alloc (.cells z e)).setCells w.heap.size 0 cs) := by
  have ht := there_new w z e cs.length hz
  exact ⟨⟨World.rangeAt_setCells_same _ _ _ cs ht, World.there_setCells ht _ _ _, hne⟩, below_setCells _ _ _ _ (ext_alloc _ _) (Nat.le_refl _)⟩
theorem fresh_store {P : Program} (w : World) (e : TypeId) (z : Array Value) (hz : z.size = cs.length) (h1 : ∀ c ∈ cs, c.oneCell' = true) {ty : TypeId} (hi : (P.info? ty).map (·.size) = some cs.length) :
    (Instr.storeAt ty (.pointer (some ⟨w.heap.size, 0, none⟩)) (.agg cs.toArray)).run P (w.alloc (.cells z e)) = .ok () ((w.alloc (.cells z e)).setCells w.heap.size 0 cs) := by
  have h2 := run_storeAt_mid (P := P) (w.alloc (.cells z e)) w.heap.size 0 ty cs.toArray (by simpa using there_new w z e cs.length hz) (by simpa using hi) (all_oneCell_toArray h1)
  simpa using h2
end
/-- what holds while a row in the field f of the block b grows by one element: the operation ib lays the element (its cells stand in the variable D) into the slot tb, ia appends it into ta -/
structure JN (ia ib ta tb s B b f D : Nat) (X : Value) (k : Nat) (xs nc : List Value) (w0 : World) (d : Nat → Bool) (u : Nat → Value) (w : World) : Prop where
  c : w.cell? ⟨b, f, none⟩ = some X
  fr : w.frozen? ⟨b, f, none⟩ = false
  box : BoxC w D nc
  ne : X.ownBlock ≠ some b
  nd : X.ownBlock ≠ some D
  hb : B ≤ b
  hX : ∀ j, X.ownBlock = some j → B ≤ j
  ad : Adds w0 w b X.ownBlock
  le : B ≤ w0.heap.size
  pk : d ia = false → Pk w 0 s X k xs
  bl : d ib = true → d ia = false → ∃ g, u tb = .slice (some ⟨g, 0, none⟩) 1 1 ∧ w.rangeAt g 0 nc
  nw : d ia = true → Pk w 0 s (u ta) (k + 1) (xs ++ nc) ∧ (∀ j, (u ta).ownBlock = some j → X.ownBlock = some j ∨ w0.heap.size ≤ j)
section
variable {ia ib ta tb s B b f D : Nat} {X : Value} {k : Nat} {xs nc : List Value} {w0 : World} {d : Nat → Bool} {u : Nat → Value} {w : World}
theorem JN.start {w0 w : World} {u : Nat → Value} (c : w.cell? ⟨b, f, none⟩ = some X) (fr : w.frozen? ⟨b, f, none⟩ = false) (box : BoxC w D nc) (ne : X.ownBlock ≠ some b) (nd : X.ownBlock ≠ some D) (hb : B ≤ b) (hX : ∀ j, X.ownBlock = some j → B ≤ j) (ad : Adds w0 w b X.ownBlock) (le : B ≤ w0.heap.size) (pk : Pk w 0 s X k xs) :
    JN ia ib ta tb s B b f D X k xs nc w0 (fun _ => false) u w := ⟨c, fr, box, ne, nd, hb, hX, ad, le, fun _ => pk, fun q => (by cases q), fun q => (by cases q)⟩
theorem JN.same {i : Nat} {t : Nat} {v : Value} (h : JN ia ib ta tb s B b f D X k xs nc w0 d u w) (hi : (decide (ia = i) || decide (ib = i) || decide (ta = t) || decide (tb = t)) = false) : JN ia ib ta tb s B b f D X k xs nc w0 (upd d i) (updv (some t) u v) w := by
  simp only [Bool.or_eq_false_iff, decide_eq_false_iff_not] at hi
  obtain ⟨⟨⟨h1, h2⟩, h3⟩, h4⟩ := hi
  refine ⟨h.c, h.fr, h.box, h.ne, h.nd, h.hb, h.hX, h.ad, h.le, ?_, ?_, ?_⟩
  · unfold upd; simp only [if_neg h1]; exact h.pk
  · unfold upd updv; simp only [if_neg h1, if_neg h2, if_neg h4]; exact h.bl
  · unfold upd updv; simp only [if_neg h1, if_neg h3]; exact h.nw
theorem range_boxC (w : World) (cs : List Value) (e : TypeId) : (w.alloc (.cells cs.toArray e)).rangeAt w.heap.size 0 cs := fun j v hv => by
  rw [Nat.zero_add, World.cell?_alloc_new]; simpa using hv
theorem JN.lay {e : TypeId} (h : JN ia ib ta tb s B b f D X k xs nc w0 d u w) (hab : (decide (ia = ib) || decide (ta = tb)) = false) (ha : d ia = false) : JN ia ib ta tb s B b f D X k xs nc w0 (upd d ib) (updv (some tb) u (.slice (some ⟨w.heap.size, 0, none⟩) 1 1)) (w.alloc (.cells nc.toArray e)) := by
  simp only [Bool.or_eq_false_iff, decide_eq_false_iff_not] at hab
  obtain ⟨h1, h2⟩ := hab
  have hE := ext_alloc w (.cells nc.toArray e)
  have hbl := World.block_lt_of_cell? _ _ h.c
  have hc := (bcell hE)
  refine ⟨(hc.1 _ _ hbl).trans h.c, (hc.2 _ _ hbl).trans h.fr, h.box.ext hE, h.ne, h.nd, h.hb, h.hX, ⟨hE.os.trans h.ad.os, hE.tape.trans h.ad.tape, hE.output.trans h.ad.output, Nat.le_trans h.ad.size hE.size, fun j hj hjb hjr => (hE.block j (Nat.lt_of_lt_of_le hj h.ad.size)).trans (h.ad.block j hj hjb hjr)⟩, h.le, ?_, ?_, ?_⟩
  · unfold upd; simp only [if_neg h1]; exact fun q => (h.pk q).ext hE
  · unfold upd updv; simp only [if_neg h1, if_true]
    exact fun _ _ => ⟨_, rfl, range_boxC w nc e⟩
  · unfold upd; simp only [if_neg h1]
    intro q; rw [ha] at q; cases q
theorem JN.app {v' : Value} {w' : World} (h : JN ia ib ta tb s B b f D X k xs nc w0 d u w) (hab : (decide (ia = ib) || decide (ta = tb)) = false) (h2 : Pk w' 0 s v' (k + 1) (xs ++ nc)) (h3 : w.grownBy w' X.ownBlock) (h4 : ∀ j, v'.ownBlock = some j → X.ownBlock = some j ∨ w.heap.size ≤ j) : Below B w w' ∧ JN ia ib ta tb s B b f D X k xs nc w0 (upd d ia) (updv (some ta) u v') w' := by
  simp only [Bool.or_eq_false_iff, decide_eq_false_iff_not] at hab
  obtain ⟨h1, h5⟩ := hab
  have hbl := World.block_lt_of_cell? _ _ h.c
  have hb : w'.heap[b]? = w.heap[b]? := h3.block b hbl (fun q => h.ne q.symm)
  have hB : Below B w w' := (Below.refl B w).grown h3 (Nat.le_trans h.le h.ad.size) (fun j hj => h.hX j hj)
  refine ⟨hB, ⟨?_, ?_, h.box.grown h3 h.nd, h.ne, h.nd, h.hb, h.hX, ?_, h.le, ?_, ?_, ?_⟩⟩
  · rw [World.cell?_of_block (w := w) hb]; exact h.c
  · rw [World.frozen?_of_block (w := w) hb]; exact h.fr
  · exact ⟨h3.os.trans h.ad.os, h3.tape.trans h.ad.tape, h3.output.trans h.ad.output, Nat.le_trans h.ad.size h3.size, fun j hj hjb hjr => (h3.block j (Nat.lt_of_lt_of_le hj h.ad.size) hjr).trans (h.ad.block j hj hjb hjr)⟩
  · unfold upd; simp
  · unfold upd; simp
  · unfold upd updv; simp only [if_true]
    exact fun _ => ⟨h2, fun j hj => (h4 j hj).imp id (fun q => Nat.le_trans h.ad.size q)⟩
/-- it is stored -/
theorem JN.done (h : JN ia ib ta tb s B b f D X k xs nc w0 d u w) (hb0 : b < w0.heap.size) {v : Value} (hv : u ta = v) (hd : d ia = true) :
    (w.setCell ⟨b, f, none⟩ v).cell? ⟨b, f, none⟩ = some v ∧ (w.setCell ⟨b, f, none⟩ v).frozen? ⟨b, f, none⟩ = false ∧ Pk (w.setCell ⟨b, f, none⟩ v) 0 s v (k + 1) (xs ++ nc) ∧ v.ownBlock ≠ some b ∧ (∀ j, v.ownBlock = some j → X.ownBlock = some j ∨ w0.heap.size ≤ j) ∧ Adds w0 (w.setCell ⟨b, f, none⟩ v) b X.ownBlock := by
  obtain ⟨hp, ho⟩ := h.nw hd
  rw [hv] at hp ho
  have hh : ∀ j, j ≠ b → (w.setCell ⟨b, f, none⟩ v).heap[j]? = w.heap[j]? := fun j hj => Below.heap_setCell w ⟨b, f, none⟩ _ j hj
  have hsz : w.heap.size ≤ (w.setCell ⟨b, f, none⟩ v).heap.size := ((Below.refl 0 w).setCell (Nat.zero_le _) _).size
  have hne : v.ownBlock ≠ some b := fun q => by
    rcases ho b q with q | q
    · exact h.ne q
    · omega
  refine ⟨World.cell?_setCell_same' _ _ _ (by rw [h.c]; rfl), by rw [World.frozen?_setCell]; exact h.fr, hp.kept (fun j hj => hh j (fun q => hne (by rw [hj, q]))) hsz, hne, ho, ⟨h.ad.os, h.ad.tape, h.ad.output, Nat.le_trans h.ad.size hsz, fun j hj hjb hjr => (hh j hjb).trans (h.ad.block j hj hjb hjr)⟩⟩
end

section
variable {P : Program} {Q : Exit → Act → World → Prop} {ops : Array Oper} {rest : List Oper} {a : Act} {w : World} {d : Option Tmp} {tt ty : TypeId} {pp : String} {af : Array Edge}
theorem stop_buildS {xs : Array (Nat × Operand)} (h : Stuck (wpList P ops Q (⟨d, .build ty xs, tt, pp, af, none⟩ :: rest) a w)) : wpList P ops Q (⟨d, .build ty xs, tt, pp, af, none⟩ :: rest) a w := h
theorem wpL_build0 {v : Value} (hb : (Instr.build ty #[]).run P w = .ok v w) (h : wpList P ops Q rest (a.put d v) w) : wpList P ops Q (⟨d, .build ty #[], tt, pp, af, none⟩ :: rest) a w :=
  wpList_plain rfl fun K hK => by
    unfold Oper.wp execOp
    simp only [List.map_toArray, List.map_nil, Sem.run_bind, Sem.run_pure, hb, Result.andThen_ok]
    exact hK _ _ h
theorem wpL_build2 {i j : Nat} {x y : Operand} {vx vy v : Value} (hx : a.eval x = vx) (hy : a.eval y = vy) (hb : (Instr.build ty #[(i, vx), (j, vy)]).run P w = .ok v w) (h : wpList P ops Q rest (a.put d v) w) : wpList P ops Q (⟨d, .build ty #[(i, x), (j, y)], tt, pp, af, none⟩ :: rest) a w :=
  wpList_plain rfl fun K hK => by
    unfold Oper.wp execOp
    simp only [hx, hy, List.map_toArray, List.map_cons, List.map_nil, Sem.run_bind, Sem.run_pure, hb, Result.andThen_ok]
    exact hK _ _ h
end
theorem list32 : ∀ (r : List Int), r.length = 32 → ∃ a0 a1 a2 a3 a4 a5 a6 a7 a8 a9 a10 a11 a12 a13 a14 a15 a16 a17 a18 a19 a20 a21 a22 a23 a24 a25 a26 a27 a28 a29 a30 a31, r = [a0, a1, a2, a3, a4, a5, a6, a7, a8, a9, a10, a11, a12, a13, a14, a15, a16, a17, a18, a19, a20, a21, a22, a23, a24, a25, a26, a27, a28, a29, a30, a31] := by
  intro r h
  match r, h with
  | [a0, a1, a2, a3, a4, a5, a6, a7, a8, a9, a10, a11, a12, a13, a14, a15, a16, a17, a18, a19, a20, a21, a22, a23, a24, a25, a26, a27, a28, a29, a30, a31], _ => exact ⟨a0, a1, a2, a3, a4, a5, a6, a7, a8, a9, a10, a11, a12, a13, a14, a15, a16, a17, a18, a19, a20, a21, a22, a23, a24, a25, a26, a27, a28, a29, a30, a31, rfl⟩
end Go.Proofs.Bl

/- A diary's notes (sizes and roots): their cells; what a Take answers, plainly. No program. -/
namespace Go.Proofs.Bl
open Go Go.RowKit
abbrev Nt := Nat × List Int
def cN (x : Nt) : List Value := .int .i64 (x.1 : Int) :: ints .u8 x.2
def DgN (N : List Nt) : Prop := ∀ x ∈ N, x.2.length = 32 ∧ Byt x.2
theorem DgN.nil : DgN [] := fun _ h => by cases h
theorem DgN.snoc {N : List Nt} {x : Nt} (h : DgN N) (k : x.2.length = 32 ∧ Byt x.2) : DgN (N ++ [x]) := fun y hy => by
  rcases List.mem_append.1 hy with hy | hy
  · exact h y hy
  · obtain rfl : y = x := by simpa using hy
    exact k
theorem cN_len {x : Nt} (h : x.2.length = 32) : (cN x).length = 33 := by unfold cN; rw [List.length_cons, ints_length, h]
theorem cN_one (x : Nt) : ∀ c ∈ cN x, c.oneCell' = true := fun c hc => by
  rcases List.mem_cons.1 hc with rfl | hc
  · rfl
  · exact ints_one _ _ c hc
theorem cN_ne (x : Nt) : cN x ≠ [] := fun h => by cases h
theorem cN_size (x : Nt) : (cN x)[0]? = some (.int .i64 (x.1 : Int)) := rfl
theorem cN_root (x : Nt) : (cN x).drop 1 = ints .u8 x.2 := rfl
theorem DgN.lens {N : List Nt} (h : DgN N) : ∀ x ∈ N, (cN x).length = 33 := fun x hx => cN_len (h x hx).1
theorem cellsN_len {N : List Nt} (h : DgN N) : (cellsR cN N).length = N.length * 33 := cellsR_length h.lens
theorem cellsN_one (N : List Nt) : ∀ c ∈ cellsR cN N, c.oneCell' = true := cellsR_cell fun x _ => cN_one x
abbrev RdN (w : World) (v : Value) (N : List Nt) : Prop := Rds w v N.length (cellsR cN N)
abbrev n0 : Nt := (0, zs32)
theorem RdN.pos {w : World} {v : Value} {N : List Nt} (h : RdN w v N) (hd : DgN N) (hn : 0 < N.length) : ∃ b o c, v = .slice (some ⟨b, o, none⟩) N.length c ∧ N.length ≤ c ∧ c ≤ maxLen ∧ b < w.heap.size ∧ ∀ i, i < N.length → w.rangeAt b (o + i * 33) (cN (N.getD i n0)) := by
  obtain ⟨b, o, c, h1, h2, h3, h4, h5⟩ := Rds.pos h hn (fun q => by have := cellsN_len hd; rw [q] at this; simp at this; omega)
  exact ⟨b, o, c, h1, h2, h3, h4, fun i hi => elem_at n0 h5 hd.lens hi⟩
/-- a diary in the block b -/
structure Di (w : World) (b : Nat) (v : Value) (N : List Nt) : Prop where
  c0 : w.cell? ⟨b, 0, none⟩ = some v
  f0 : w.frozen? ⟨b, 0, none⟩ = false
  pk : Pk w 0 33 v N.length (cellsR cN N)
  dig : DgN N
  ne : v.ownBlock ≠ some b
section
variable {w w' : World} {b : Nat} {v : Value} {N : List Nt}
theorem Di.lt (h : Di w b v N) : b < w.heap.size := World.block_lt_of_cell? _ _ h.c0
theorem Di.kept (h : Di w b v N) (hb : w'.heap[b]? = w.heap[b]?) (hk : ∀ k, v.ownBlock = some k → w'.heap[k]? = w.heap[k]?) (hs : w.heap.size ≤ w'.heap.size) : Di w' b v N :=
  ⟨by rw [World.cell?_of_block (w := w) hb]; exact h.c0, by rw [World.frozen?_of_block (w := w) hb]; exact h.f0, h.pk.kept hk hs, h.dig, h.ne⟩
theorem Di.ext (h : Di w b v N) (hE : Ext w w') : Di w' b v N := h.kept (hE.block b h.lt) (fun k hk => hE.block k (h.pk.block k hk).2) hE.size
theorem Di.adds {g : Nat} {r : Option Nat} (h : Di w b v N) (k : Adds w w' g r) (hg : b ≠ g) (hr : some b ≠ r) (hv : v.ownBlock ≠ some g) (hvr : ∀ j, v.ownBlock = some j → some j ≠ r) : Di w' b v N :=
  h.kept (k.block b h.lt hg hr) (fun j hj => k.block j (h.pk.block j hj).2 (fun q => hv (by rw [hj, q])) (hvr j hj)) k.size
theorem Di.new (w : World) (e : TypeId) : Di (w.alloc (.cells #[.slice none 0 0] e)) w.heap.size (.slice none 0 0) [] :=
  ⟨by rw [World.cell?_alloc_new]; rfl, by simp, Pk.nil _ _ _, DgN.nil, fun h => by cases h⟩
theorem Di.of (e : TypeId) (h : Pk w 0 33 v N.length (cellsR cN N)) (hd : DgN N) : Di (w.alloc (.cells #[v] e)) w.heap.size v N :=
  ⟨by rw [World.cell?_alloc_new]; rfl, by simp, h.ext (ext_alloc _ _), hd, fun q => by have := (h.block _ q).2; omega⟩
end
/-- the model's diary in the block b: its row lies in another block, and is only read -/
structure Dm (w : World) (b : Nat) (v : Value) (N : List Nt) : Prop where
  c0 : w.cell? ⟨b, 0, none⟩ = some v
  f0 : w.frozen? ⟨b, 0, none⟩ = false
  rd : RdsX w b v N.length (cellsR cN N)
  dig : DgN N
section
variable {w w' : World} {b : Nat} {v : Value} {N : List Nt}
theorem Dm.lt (h : Dm w b v N) : b < w.heap.size := World.block_lt_of_cell? _ _ h.c0
theorem Dm.ext (h : Dm w b v N) (hE : Ext w w') : Dm w' b v N := ⟨((bcell hE).1 b 0 h.lt).trans h.c0, ((bcell hE).2 b 0 h.lt).trans h.f0, h.rd.ext hE, h.dig⟩
theorem Dm.new (w : World) (e : TypeId) : Dm (w.alloc (.cells #[.slice none 0 0] e)) w.heap.size (.slice none 0 0) [] :=
  ⟨by rw [World.cell?_alloc_new]; rfl, by simp, .inl ⟨rfl, rfl, rfl⟩, DgN.nil⟩
theorem RdsX.lt {g : Nat} {n : Nat} {cs : List Value} (h : RdsX w g v n cs) (hc : cs ≠ []) : ∃ b o c, v = .slice (some ⟨b, o, none⟩) n c ∧ b < w.heap.size := by
  rcases h with ⟨_, _, h⟩ | ⟨b, o, c, h1, _, _, _, h4⟩
  · exact absurd h hc
  · exact ⟨b, o, c, h1, rangeAt_lt h4 hc⟩
theorem RdsX.kept {g : Nat} {n : Nat} {cs : List Value} (h : RdsX w g v n cs) (hk : ∀ j, j ≠ g → j < w.heap.size → w'.heap[j]? = w.heap[j]?) : RdsX w' g v n cs := by
  rcases h with h | ⟨b, o, c, h1, h2, h3, hne, h4⟩
  · exact .inl h
  · refine .inr ⟨b, o, c, h1, h2, h3, hne, fun j x hx => ?_⟩
    rw [World.cell?_of_block (w := w) (hk b hne (rangeAt_lt h4 (fun q => by rw [q] at hx; simp at hx)))]
    exact h4 j x hx
end
/-- the last note -/
def lastN (N : List Nt) : Nt := N.getD (N.length - 1) n0
def takeE (N : List Nt) (size : Int) (root : List Int) (p : List (List Int)) : Nat :=
  if size < 1 ∨ 512 < size then 1 else if N.length = 0 then (if p.length = 0 then 0 else 8) else if size < ((lastN N).1 : Int) then 19 else chkG (lastN N).1 size (lastN N).2 root p
def takeN (N : List Nt) (size : Int) (root : List Int) (p : List (List Int)) : List Nt :=
  if takeE N size root p = 0 ∧ ((lastN N).1 : Int) < size then N ++ [(size.toNat, root)] else N
/-- sizes that rise, of 1 to 512 -/
structure Ris (N : List Nt) : Prop where
  rg : ∀ x ∈ N, 1 ≤ x.1 ∧ x.1 ≤ 512
  up : N.Pairwise (fun a b => a.1 < b.1)
theorem Ris.nil : Ris [] := ⟨fun _ h => (by cases h), List.Pairwise.nil⟩
theorem lastN_mem {N : List Nt} (h : 0 < N.length) : lastN N ∈ N := getD_mem _ (by omega)
theorem lastN_nil : lastN [] = n0 := rfl
theorem Ris.lt {N : List Nt} (h : Ris N) {i j : Nat} (hij : i < j) (hj : j < N.length) : (N.getD i n0).1 < (N.getD j n0).1 := by
  have := List.pairwise_iff_getElem.1 h.up i j (by omega) hj hij
  rw [List.getD_eq_getElem?_getD, List.getD_eq_getElem?_getD, List.getElem?_eq_getElem hj, List.getElem?_eq_getElem (by omega)]
  exact this
theorem Ris.le_last {N : List Nt} (h : Ris N) {x : Nt} (hx : x ∈ N) : x.1 ≤ (lastN N).1 := by
  obtain ⟨i, hi, rfl⟩ := List.getElem_of_mem hx
  unfold lastN
  by_cases e : i = N.length - 1
  · subst e
    rw [List.getD_eq_getElem?_getD, List.getElem?_eq_getElem hi]; exact Nat.le_refl _
  · have := h.lt (i := i) (j := N.length - 1) (by omega) (by omega)
    rw [List.getD_eq_getElem?_getD, List.getElem?_eq_getElem hi] at this
    exact Nat.le_of_lt this
theorem lastN_snoc (N : List Nt) (x : Nt) : lastN (N ++ [x]) = x := by
  unfold lastN
  rw [List.length_append, List.length_singleton, Nat.add_sub_cancel, List.getD_eq_getElem?_getD, List.getElem?_append_right (Nat.le_refl _), Nat.sub_self]; rfl
theorem takeE_rg {N : List Nt} {size : Int} {root : List Int} {p : List (List Int)} (h : takeE N size root p = 0) : 1 ≤ size ∧ size ≤ 512 := by
  unfold takeE at h
  split at h
  · cases h
  · omega
theorem Ris.take {N : List Nt} (h : Ris N) (size : Int) (root : List Int) (p : List (List Int)) : Ris (takeN N size root p) := by
  unfold takeN
  split
  · rename_i hk
    obtain ⟨h1, h2⟩ := takeE_rg hk.1
    refine ⟨fun x hx => ?_, List.pairwise_append.2 ⟨h.up, List.pairwise_singleton _ _, fun a ha b hb => ?_⟩⟩
    · rcases List.mem_append.1 hx with hx | hx
      · exact h.rg x hx
      · obtain rfl : x = (size.toNat, root) := by simpa using hx
        show 1 ≤ size.toNat ∧ size.toNat ≤ 512
        omega
    · obtain rfl : b = (size.toNat, root) := by simpa using hb
      have := h.le_last ha
      show a.1 < size.toNat
      omega
  · exact h
theorem DgN.take {N : List Nt} (h : DgN N) (size : Int) {root : List Int} (p : List (List Int)) (hr : root.length = 32 ∧ Byt root) : DgN (takeN N size root p) := by
  unfold takeN
  split
  · exact h.snoc hr
  · exact h
theorem takeN_len (N : List Nt) (size : Int) (root : List Int) (p : List (List Int)) : (takeN N size root p).length ≤ N.length + 1 ∧ N.length ≤ (takeN N size root p).length := by
  unfold takeN
  split
  · rw [List.length_append]; simp
  · omega
/-- is there a note of a size? -/
def hasN (N : List Nt) (k : Int) : Bool := N.any fun x => decide ((x.1 : Int) = k)
theorem hasN_iff {N : List Nt} {k : Int} : hasN N k = true ↔ ∃ x ∈ N, (x.1 : Int) = k := by
  unfold hasN; rw [List.any_eq_true]; simp
/-- where a note is taken: there is none of its size if and only if it is above the last -/
theorem has_last {N : List Nt} (h : Ris N) {size : Int} {root : List Int} {p : List (List Int)} (h0 : takeE N size root p = 0) : hasN N size = decide (¬ ((lastN N).1 : Int) < size) := by
  by_cases hn : N.length = 0
  · obtain rfl := List.length_eq_zero_iff.1 hn
    obtain ⟨h1, _⟩ := takeE_rg h0
    rw [lastN_nil]
    have : ((n0.1 : Nat) : Int) < size := by show (0 : Int) < size; omega
    rw [decide_eq_false (fun q => q this)]; rfl
  · have hge : ¬ size < ((lastN N).1 : Int) := by
      intro q
      unfold takeE at h0
      rw [if_neg hn, if_pos q] at h0
      split at h0 <;> cases h0
    by_cases hl : ((lastN N).1 : Int) < size
    · rw [decide_eq_false (fun q => q hl)]
      rw [Bool.eq_false_iff]
      intro q
      obtain ⟨x, hx, he⟩ := hasN_iff.1 q
      have := h.le_last hx
      omega
    · rw [decide_eq_true hl]
      exact hasN_iff.2 ⟨_, lastN_mem (by omega), by omega⟩
/-- the root that was noted of a size -/
def atN (N : List Nt) (k : Int) : List Int := ((N.find? fun x => decide ((x.1 : Int) = k)).map (·.2)).getD zs32
theorem atN_get {N : List Nt} (h : Ris N) {i : Nat} (hi : i < N.length) : atN N ((N.getD i n0).1 : Int) = (N.getD i n0).2 := by
  have hm := getD_mem n0 hi
  unfold atN
  have : N.find? (fun x => decide ((x.1 : Int) = ((N.getD i n0).1 : Int))) = some (N.getD i n0) := by
    rw [List.find?_eq_some_iff_append]
    refine ⟨by simp, N.take i, N.drop (i + 1), ?_, fun a ha => ?_⟩
    · rw [List.getD_eq_getElem?_getD, List.getElem?_eq_getElem hi, Option.getD_some, List.getElem_cons_drop hi, List.take_append_drop]
    · obtain ⟨j, hj, rfl⟩ := List.getElem_of_mem ha
      rw [List.length_take] at hj
      have := h.lt (i := j) (j := i) (by omega) hi
      rw [List.getElem_take]
      rw [List.getD_eq_getElem?_getD, List.getElem?_eq_getElem (show j < N.length by omega)] at this
      simp only [Option.getD_some] at this
      simp only [Bool.not_eq_true', decide_eq_false_iff_not]
      omega
  rw [this]; rfl
theorem atN_no {N : List Nt} {k : Int} (h : hasN N k = false) : atN N k = zs32 := by
  unfold atN
  have : N.find? (fun x => decide ((x.1 : Int) = k)) = none := by
    rw [List.find?_eq_none]
    intro x hx q
    have : hasN N k = true := hasN_iff.2 ⟨x, hx, by simpa using q⟩
    rw [h] at this; cases this
  rw [this]; rfl
theorem atN_len {N : List Nt} (h : DgN N) (k : Int) : (atN N k).length = 32 := by
  unfold atN
  cases hf : N.find? (fun x => decide ((x.1 : Int) = k)) with
  | none => rfl
  | some x => exact (h x (List.mem_of_find?_eq_some hf)).1
end Go.Proofs.Bl

/- A row of acts (a size, a root, a proof), as it came in. No program. -/
namespace Go.Proofs.Bl
open Go Go.ChangeShapes Go.WideShapes Go.ChangeAt Go.RowKit Go.Deep
abbrev Ac := Int × List Int × Value × List (List Int)
def cA (x : Ac) : List Value := .int .i64 x.1 :: (ints .u8 x.2.1 ++ [x.2.2.1])
abbrev a0 : Ac := (0, [], .slice none 0 0, [])
def OkA (w : World) (x : Ac) : Prop := x.2.1.length = 32 ∧ Byt x.2.1 ∧ RdD w x.2.2.1 x.2.2.2 ∧ Dig x.2.2.2
theorem OkA.ext {w w' : World} {x : Ac} (h : OkA w x) (k : Ext w w') : OkA w' x := ⟨h.1, h.2.1, Rds.ext h.2.2.1 k, h.2.2.2⟩
theorem cA_len {x : Ac} (h : x.2.1.length = 32) : (cA x).length = 34 := by unfold cA; rw [List.length_cons, List.length_append, ints_length, h]; rfl
theorem cA_ne (x : Ac) : cA x ≠ [] := fun h => by cases h
theorem cA_size (x : Ac) : (cA x)[0]? = some (.int .i64 x.1) := rfl
theorem cA_one {w : World} {x : Ac} (h : RdD w x.2.2.1 x.2.2.2) : ∀ c ∈ cA x, c.oneCell' = true := fun c hc => by
  rcases List.mem_cons.1 hc with rfl | hc
  · rfl
  · rcases List.mem_append.1 hc with hc | hc
    · exact ints_one _ _ c hc
    · obtain rfl : c = x.2.2.1 := by simpa using hc
      obtain ⟨p, cc, hf, _, _⟩ := h.form
      rw [hf]; rfl
theorem cA_root (x : Ac) : (cA x).drop 1 = ints .u8 x.2.1 ++ [x.2.2.1] := rfl
theorem cA_proof {x : Ac} (h : x.2.1.length = 32) : (cA x)[33]? = some x.2.2.1 := by
  unfold cA
  rw [List.getElem?_cons_succ, List.getElem?_append_right (by rw [ints_length, h]; decide), ints_length, h]; rfl
structure RdA (w : World) (v : Value) (L : List Ac) : Prop where
  rd : Rds w v L.length (cellsR cA L)
  ok : ∀ x ∈ L, OkA w x
theorem RdA.ext {w w' : World} {v : Value} {L : List Ac} (h : RdA w v L) (k : Ext w w') : RdA w' v L := ⟨Rds.ext h.rd k, fun x hx => (h.ok x hx).ext k⟩
theorem RdA.pos {w : World} {v : Value} {L : List Ac} (h : RdA w v L) (hn : 0 < L.length) : ∃ b o c, v = .slice (some ⟨b, o, none⟩) L.length c ∧ L.length ≤ c ∧ c ≤ maxLen ∧ b < w.heap.size ∧ ∀ i, i < L.length → w.rangeAt b (o + i * 34) (cA (L.getD i a0)) := by
  have hs : ∀ x ∈ L, (cA x).length = 34 := fun x hx => cA_len (h.ok x hx).1
  obtain ⟨b, o, c, h1, h2, h3, h4, h5⟩ := Rds.pos h.rd hn (fun q => by have := cellsR_length hs; rw [q] at this; simp at this; omega)
  exact ⟨b, o, c, h1, h2, h3, h4, fun i hi => elem_at a0 h5 hs hi⟩
section
variable {H : Type} {enc : TypeId × Value → H} {P : Program} {w : World} {base : Nat}
theorem open_acts {t ta tr ti tp u : TypeId} {f0 f1 f2 : Field} (hT : P.underlying t = some (.slice ta)) (ht : P.underlying ta = some (.struct #[f0, f1, f2])) (e0 : f0.type = ti) (e1 : f1.type = tr) (e2 : f2.type = tp)
    (o0 : f0.offset = 0) (o1 : f1.offset = 1) (o2 : f2.offset = 33)
    (hr : P.underlying tr = some (.array 32 u)) (hi : P.underlying ti = some (.int .i64)) (hp : P.underlying tp = some (.slice tr)) (hu : P.underlying u = some (.int .u8))
    (cu : P.cellsOf u = 1) (cr : P.cellsOf tr = 32) (ci : P.cellsOf ti = 1) (cp : P.cellsOf tp = 1) (ca : P.cellsOf ta = 34) {v : Value} {d : DataW H} {p : List MemPlace}
    (hval : Value.okWide P w .any base t v) (h : DataW.Trod enc P w 0 (fun _ => true) true t v d p) : ∃ L, RdA w v L := by
  obtain ⟨q0, len0, cap0, rfl⟩ := okWide_slice hT hval
  obtain ⟨fuel, hf⟩ := h
  obtain ⟨v, m, hcs, hv, hel⟩ := od_slice hT ca (by decide) hf
  simp only [Value.cells, List.cons.injEq, and_true] at hcs
  rw [hcs]
  rcases hv with ⟨p, rfl, rfl⟩ | ⟨b, o, c, rfl, hc1, hc2⟩
  · exact ⟨[], .inl ⟨⟨p, rfl⟩, rfl, rfl⟩, fun x hx => by cases hx⟩
  · by_cases h0 : m = 0
    · subst h0
      exact ⟨[], .inr ⟨b, o, c, rfl, hc1, hc2, fun j v hj => by simp [cellsR] at hj⟩, fun x hx => by cases hx⟩
    · obtain ⟨L, hL, hr'⟩ := list_of a0 (fun i x => w.rangeAt b (o + i * 34) (cA x) ∧ OkA w x) m (fun i hi' => by
        obtain ⟨cs', k, y', hl, h2, h3⟩ := hel b o ⟨c, rfl, by omega⟩ i hi'
        obtain ⟨_, k2, hk⟩ := od_fields ht h3
        obtain ⟨_, g0⟩ := hk 0 f0 rfl
        obtain ⟨_, g1⟩ := hk 1 f1 rfl
        obtain ⟨_, g2⟩ := hk 2 f2 rfl
        rw [e0, o0, ci] at g0
        rw [e1, o1, cr] at g1
        rw [e2, o2, cp] at g2
        obtain ⟨n, hn, _⟩ := DataW.trod_int hi g0
        obtain ⟨root, hro, hrl, hrb⟩ := od_arr hr hu cu cr g1
        obtain ⟨vp, ds, hvp, hd, hdd⟩ := od_digs hp hr hu cu cr g2
        refine ⟨(n, root, vp, ds), ?_, hrl, hrb, hd, hdd⟩
        have e : cs' = cA (n, root, vp, ds) := by
          unfold cA
          have s1 : cs' = (cs'.drop 0).take 1 ++ ((cs'.drop 1).take 32 ++ (cs'.drop 33).take 1) := by
            have t1 : (cs'.drop 33).take 1 = cs'.drop 33 := List.take_of_length_le (by rw [List.length_drop]; omega)
            have t2 : cs'.drop 33 = (cs'.drop 1).drop 32 := by rw [List.drop_drop]
            rw [t1, t2, List.take_append_drop, List.drop_zero, List.take_append_drop]
          rw [hn, hro, hvp] at s1
          rw [s1]; rfl
        rw [← e]; exact h2)
      have hs : ∀ x ∈ L, (cA x).length = 34 ∧ OkA w x := fun x hx => by
        obtain ⟨i, hi', rfl⟩ := List.getElem_of_mem hx
        have := (hr' i (by omega)).2
        rw [List.getD_eq_getElem?_getD, List.getElem?_eq_getElem hi'] at this
        exact ⟨cA_len this.1, this⟩
      exact ⟨L, .inr ⟨b, o, c, by rw [hL], by rw [hL]; exact hc1, hc2, range_cellsR a0 (by decide) (fun x hx => (hs x hx).1) (fun i hi' => (hr' i (by omega)).1)⟩, fun x hx => (hs x hx).2⟩
end
end Go.Proofs.Bl

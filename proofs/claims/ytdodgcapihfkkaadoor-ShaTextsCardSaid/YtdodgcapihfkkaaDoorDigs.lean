/- Rows of digests in memory. No program. -/
import Derived.Great.BuildSlice
import Derived.Test.YtdodgcapihfkkaaDoorTwo
namespace Go.Proofs.Bl
open Go Go.RowKit
/-- the cells of a row of digests -/
def cellsD (ds : List (List Int)) : List Value := ds.flatMap (ints .u8)
/-- all are digests -/
def Dig (ds : List (List Int)) : Prop := ∀ d ∈ ds, d.length = 32 ∧ Byt d
theorem Dig.nil : Dig [] := fun d hd => by cases hd
theorem Dig.append {a b : List (List Int)} (h : Dig a) (k : Dig b) : Dig (a ++ b) := fun d hd => by
  rcases List.mem_append.1 hd with hd | hd
  · exact h d hd
  · exact k d hd
theorem Dig.one {d : List Int} (h : d.length = 32) (k : Byt d) : Dig [d] := fun x hx => by
  obtain rfl : x = d := by simpa using hx
  exact ⟨h, k⟩
theorem Dig.take {a : List (List Int)} (h : Dig a) (n : Nat) : Dig (a.take n) := fun d hd => h d (List.mem_of_mem_take hd)
theorem Dig.drop {a : List (List Int)} (h : Dig a) (n : Nat) : Dig (a.drop n) := fun d hd => h d (List.mem_of_mem_drop hd)
theorem Dig.get {a : List (List Int)} (h : Dig a) {i : Nat} (hi : i < a.length) : (a.getD i []).length = 32 ∧ Byt (a.getD i []) := by
  rw [List.getD_eq_getElem?_getD, List.getElem?_eq_getElem hi]; exact h _ (List.getElem_mem hi)
theorem cellsD_nil : cellsD [] = [] := rfl
theorem cellsD_one (d : List Int) : cellsD [d] = ints .u8 d := by simp [cellsD]
theorem cellsD_append (a b : List (List Int)) : cellsD (a ++ b) = cellsD a ++ cellsD b := by simp [cellsD]
theorem cellsD_length : ∀ {ds : List (List Int)}, Dig ds → (cellsD ds).length = ds.length * 32
  | [], _ => rfl
  | d :: r, h => by
    have h1 := (h d (by simp)).1
    have h2 := cellsD_length (ds := r) (fun x hx => h x (List.mem_cons_of_mem _ hx))
    show (ints .u8 d ++ cellsD r).length = _
    rw [List.length_append, ints_length, h1, h2, List.length_cons]; omega
theorem cellsD_one' (ds : List (List Int)) : ∀ c ∈ cellsD ds, c.oneCell' = true := fun c hc => by
  obtain ⟨d, _, hd⟩ := List.mem_flatMap.1 hc
  exact ints_one _ _ c hd
theorem cellsD_drop {ds : List (List Int)} (h : Dig ds) (k : Nat) : (cellsD ds).drop (k * 32) = cellsD (ds.drop k) := by
  by_cases hk : k ≤ ds.length
  · have e : ds = ds.take k ++ ds.drop k := (List.take_append_drop k ds).symm
    conv => lhs; rw [e, cellsD_append]
    exact List.drop_left' (by rw [cellsD_length (h.take k), List.length_take, Nat.min_eq_left hk])
  · rw [List.drop_of_length_le (by rw [cellsD_length h]; omega), List.drop_of_length_le (by omega)]; rfl
theorem cellsD_take {ds : List (List Int)} (h : Dig ds) (k : Nat) : (cellsD ds).take (k * 32) = cellsD (ds.take k) := by
  by_cases hk : k ≤ ds.length
  · have e : ds = ds.take k ++ ds.drop k := (List.take_append_drop k ds).symm
    conv => lhs; rw [e, cellsD_append]
    exact List.take_left' (by rw [cellsD_length (h.take k), List.length_take, Nat.min_eq_left hk])
  · rw [List.take_of_length_le (by rw [cellsD_length h]; omega), List.take_of_length_le (by omega)]
/-- a slice of digests that reads as a list -/
abbrev RdD (w : World) (v : Value) (ds : List (List Int)) : Prop := Rds w v ds.length (cellsD ds)
theorem digit_at {w : World} {b o : Nat} {ds : List (List Int)} (h : w.rangeAt b o (cellsD ds)) (hd : Dig ds) {i : Nat} (hi : i < ds.length) : w.rangeAt b (o + i * 32) (ints .u8 (ds.getD i [])) := by
  have h1 := rangeAt_drop h (i * 32)
  rw [cellsD_drop hd, List.drop_eq_getElem_cons hi] at h1
  have h2 := rangeAt_take h1 32
  have e : (cellsD (ds[i] :: ds.drop (i + 1))).take 32 = ints .u8 ds[i] := by
    show (ints .u8 ds[i] ++ _).take 32 = _
    exact List.take_left' (by rw [ints_length]; exact (hd _ (List.getElem_mem hi)).1)
  rw [e] at h2
  rw [List.getD_eq_getElem?_getD, List.getElem?_eq_getElem hi]; exact h2
/-- a piece of a row of digests -/
theorem rangeD_sub {w : World} {b o : Nat} {ds : List (List Int)} (h : w.rangeAt b o (cellsD ds)) (hd : Dig ds) (k m : Nat) : w.rangeAt b (o + k * 32) (cellsD ((ds.drop k).take m)) := by
  have h1 := rangeAt_drop h (k * 32)
  rw [cellsD_drop hd] at h1
  have h2 := rangeAt_take h1 (m * 32)
  rw [cellsD_take (hd.drop k)] at h2
  exact h2
theorem RdD.pos {w : World} {v : Value} {ds : List (List Int)} (h : RdD w v ds) (hd : Dig ds) (hne : 0 < ds.length) : ∃ b o c, v = .slice (some ⟨b, o, none⟩) ds.length c ∧ ds.length ≤ c ∧ c ≤ maxLen ∧ b < w.heap.size ∧ w.rangeAt b o (cellsD ds) := by
  rcases h with ⟨_, h, _⟩ | ⟨b, o, c, h1, h2, h3, h4⟩
  · omega
  · exact ⟨b, o, c, h1, h2, h3, rangeAt_lt h4 (fun q => by have := cellsD_length hd; rw [q] at this; simp at this; omega), h4⟩
/-- one whole array as the part of a slice literal -/
theorem foldl_set : ∀ (l : List Value) (k : Nat) (init : List Value), k + l.length = init.length → ((l.zipIdx k).foldl (fun (cs : List Value) (p : Value × Nat) => cs.set p.2 p.1) init) = init.take k ++ l
  | [], k, init, h => by simp at h; simp [h]
  | x :: r, k, init, h => by
    simp only [List.zipIdx_cons, List.foldl_cons]
    rw [foldl_set r (k + 1) (init.set k x) (by simp at h ⊢; omega)]
    rw [List.take_add_one, List.take_set_of_le (Nat.le_refl _), List.getElem?_set_self (by simp at h; omega)]
    simp
theorem fill_one (cells cs : Array Value) (n : Nat) (hc : cells.size = n) (hs : cs.size = n) : Instr.fill (fun i => some (i * n, n)) cells [(0, .agg cs)] = some cs := by
  simp only [Instr.fill, Value.cells, Nat.zero_mul, Nat.zero_add]
  rw [if_neg (by simp [hc, hs])]
  have key : ∀ (l : List (Value × Nat)) (init : Array Value), (l.foldl (fun (a : Array Value) (p : Value × Nat) => a.setIfInBounds p.2 p.1) init).toList = l.foldl (fun (a : List Value) (p : Value × Nat) => a.set p.2 p.1) init.toList := by
    intro l
    induction l with
    | nil => intro init; rfl
    | cons p r ih => intro init; rw [List.foldl_cons, List.foldl_cons, ih]; simp
  congr 1
  apply Array.toList_inj.1
  rw [← Array.foldl_toList, key, Array.toList_zipIdx, foldl_set cs.toList 0 cells.toList (by simp [hc, hs])]
  simp
section
variable {P : Program} {t e : TypeId} {z : Value} {bytes n : Nat}
theorem build1 (hT : SlT P t e z n bytes) (hn : n ≤ 1000) (w : World) (cs : Array Value) (hs : cs.size = n) :
    (Instr.buildSlice t 1 #[(0, .agg cs)]).run P w = .ok (.slice (some ⟨w.heap.size, 0, none⟩) 1 1) (w.alloc (.cells cs e)) := by
  obtain ⟨i, hi, hz, hs1, hb1⟩ := info_parts hT.info
  have hp := hT.pos
  refine run_buildSlice w t e 1 #[(0, .agg cs)] cs i z hT.ht hi hz (by rw [hs1]; omega) (by rw [hs1]; omega) ?_
  rw [hs1]
  exact fill_one _ cs n (by simp) hs
theorem goodR_build1 (hT : SlT P t e z n bytes) (hn : n ≤ 1000) {ev : Nat → Value} {w : World} {φ : Value → World → Prop} {d : Option Tmp} {tt : TypeId} {pp : String} {af : Array Edge} {g : Option (Nat × Bool)} {x : Operand} {cs : Array Value} (hx : evalE ev x = .agg cs) (hs : cs.size = n) (hφ : φ (.slice (some ⟨w.heap.size, 0, none⟩) 1 1) (w.alloc (.cells cs e))) :
    GoodR P w φ ((execOp (evalE ev) ⟨d, .buildSlice t 1 #[(0, x)], tt, pp, af, g⟩).run P w) := by
  have h := build1 hT hn w cs hs
  unfold execOp
  simp only [hx, List.map_toArray, List.map_cons, List.map_nil, Sem.run_bind, Sem.run_pure, h, Result.andThen_ok]
  exact ⟨ext_alloc _ _, hφ⟩
theorem wpL_build1 (hT : SlT P t e z n bytes) (hn : n ≤ 1000) {ops : Array Oper} {rest : List Oper} {a : Act} {w : World} {Q : Exit → Act → World → Prop} {d : Option Tmp} {tt : TypeId} {pp : String} {af : Array Edge} {x : Operand} {cs : Array Value} (hx : a.eval x = .agg cs) (hs : cs.size = n)
    (h : wpList P ops Q rest (a.put d (.slice (some ⟨w.heap.size, 0, none⟩) 1 1)) (w.alloc (.cells cs e))) : wpList P ops Q (⟨d, .buildSlice t 1 #[(0, x)], tt, pp, af, none⟩ :: rest) a w :=
  wpList_plain rfl fun K hK => by
    have h1 := build1 hT hn w cs hs
    unfold Oper.wp execOp
    simp only [hx, List.map_toArray, List.map_cons, List.map_nil, Sem.run_bind, Sem.run_pure, h1, Result.andThen_ok]
    exact hK _ _ h
end
theorem stop_build {P : Program} {ops : Array Oper} {rest : List Oper} {a : Act} {w : World} {Q : Exit → Act → World → Prop} {d : Option Tmp} {tt ty : TypeId} {pp : String} {af : Array Edge} {n : Nat} {xs : Array (Nat × Operand)} (h : Stuck (wpList P ops Q (⟨d, .buildSlice ty n xs, tt, pp, af, none⟩ :: rest) a w)) : wpList P ops Q (⟨d, .buildSlice ty n xs, tt, pp, af, none⟩ :: rest) a w := h
theorem rds_dig (w : World) (e : TypeId) (d : List Int) (h : d.length = 32) : Rds (w.alloc (.cells (ints .u8 d).toArray e)) (.slice (some ⟨w.heap.size, 0, none⟩) 1 1) 1 (cellsD [d]) := by
  refine .inr ⟨w.heap.size, 0, 1, rfl, Nat.le_refl _, show 1 ≤ maxLen from by decide, fun j v hv => ?_⟩
  rw [Nat.zero_add, World.cell?_alloc_new]
  rw [cellsD_one] at hv
  simpa using hv
end Go.Proofs.Bl

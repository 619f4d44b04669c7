/- Texts that stood apart, in one: ChN, Gap. -/
import Derived.Test.YtglenbikdahgjaaDoorLtp
/- Stages of a region, one behind the other, as many as there are; all else reads. No program. -/
namespace Go.Proofs.Bl
open Go Go.RowKit
/-- a stage: its operation, its slot, what holds behind it -/
abbrev Stg := Nat × Nat × (Value → World → Prop)
def ChN : (World → Prop) → List Stg → (Nat → Bool) → (Nat → Value) → World → Prop
  | S, [], _, _, w => S w
  | S, x :: r, d, u, w => (d x.1 = false → S w) ∧ (d x.1 = true → ChN (x.2.2 (u x.2.1)) r d u w)
def ChD (d : Nat → Bool) : List Stg → Prop
  | [] => True
  | x :: r => d x.1 = true ∧ ChD d r
def ChU (d : Nat → Bool) : List Stg → Prop
  | [] => True
  | x :: _ => d x.1 = false
theorem ChN.start : ∀ {S : World → Prop} {l : List Stg} {u : Nat → Value} {w : World}, S w → ChN S l (fun _ => false) u w
  | _, [], _, _, h => h
  | _, _ :: _, _, _, h => ⟨fun _ => h, fun q => (by cases q)⟩
theorem ChN.same {i t : Nat} {v : Value} : ∀ {S : World → Prop} {l : List Stg} {d : Nat → Bool} {u : Nat → Value} {w : World}, ChN S l d u w → (l.all fun x => decide (x.1 ≠ i) && decide (x.2.1 ≠ t)) = true → ChN S l (upd d i) (updv (some t) u v) w
  | _, [], _, _, _, h, _ => h
  | S, x :: r, d, u, w, h, hi => by
    simp only [List.all_cons, Bool.and_eq_true, decide_eq_true_eq] at hi
    obtain ⟨⟨h1, h2⟩, h3⟩ := hi
    have a1 : upd d i x.1 = d x.1 := if_neg h1
    have b1 : updv (some t) u v x.2.1 = u x.2.1 := if_neg h2
    show (upd d i x.1 = false → S w) ∧ (upd d i x.1 = true → ChN (x.2.2 (updv (some t) u v x.2.1)) r (upd d i) (updv (some t) u v) w)
    rw [a1, b1]
    exact ⟨h.1, fun q => ChN.same (h.2 q) h3⟩
theorem ChN.set {i t : Nat} {P : Value → World → Prop} {b : List Stg} {v : Value} {d : Nat → Bool} {u : Nat → Value} {w : World} (hb : ChU d b) (hbi : (b.all fun x => decide (x.1 ≠ i)) = true) (hP : P v w) : ∀ {S : World → Prop} {a : List Stg}, ChD d a → (a.all fun x => decide (x.1 ≠ i) && decide (x.2.1 ≠ t)) = true → ChN S (a ++ (i, t, P) :: b) (upd d i) (updv (some t) u v) w
  | S, [], _, _ => by
    have a1 : upd d i i = true := if_pos rfl
    have b1 : updv (some t) u v t = v := if_pos rfl
    show (upd d i i = false → S w) ∧ (upd d i i = true → ChN (P (updv (some t) u v t)) b (upd d i) (updv (some t) u v) w)
    rw [a1, b1]
    refine ⟨fun q => (by cases q), fun _ => ?_⟩
    match b, hb, hbi with
    | [], _, _ => exact hP
    | x :: r, hb, hbi =>
      simp only [List.all_cons, Bool.and_eq_true, decide_eq_true_eq] at hbi
      have a2 : upd d i x.1 = d x.1 := if_neg hbi.1
      show (upd d i x.1 = false → P v w) ∧ (upd d i x.1 = true → _)
      rw [a2, show d x.1 = false from hb]
      exact ⟨fun _ => hP, fun q => (by cases q)⟩
  | S, x :: r, ha, hi => by
    simp only [List.all_cons, Bool.and_eq_true, decide_eq_true_eq] at hi
    obtain ⟨⟨h1, h2⟩, h3⟩ := hi
    have a1 : upd d i x.1 = d x.1 := if_neg h1
    show (upd d i x.1 = false → S w) ∧ (upd d i x.1 = true → ChN (x.2.2 (updv (some t) u v x.2.1)) (r ++ (i, t, P) :: b) (upd d i) (updv (some t) u v) w)
    rw [a1, ha.1]
    exact ⟨fun q => (by cases q), fun _ => ChN.set hb hbi hP ha.2 h3⟩
section
variable {S : World → Prop} {i t : Nat} {P : Value → World → Prop} {x1 x2 x3 x4 : Stg} {r : List Stg} {d : Nat → Bool} {u : Nat → Value} {v : Value} {w : World}
theorem ChN.s1 (hP : P v w) (hU : ChU d r) (hr : (r.all fun x => decide (x.1 ≠ i)) = true) : ChN S ((i, t, P) :: r) (upd d i) (updv (some t) u v) w := ChN.set (a := []) hU hr hP trivial rfl
theorem ChN.s2 (hP : P v w) (h1 : d x1.1 = true) (hU : ChU d r) (hr : (r.all fun x => decide (x.1 ≠ i)) = true) (n1 : ([x1].all fun x => decide (x.1 ≠ i) && decide (x.2.1 ≠ t)) = true) : ChN S (x1 :: (i, t, P) :: r) (upd d i) (updv (some t) u v) w := ChN.set (a := [x1]) hU hr hP ⟨h1, trivial⟩ n1
theorem ChN.s3 (hP : P v w) (h1 : d x1.1 = true) (h2 : d x2.1 = true) (hU : ChU d r) (hr : (r.all fun x => decide (x.1 ≠ i)) = true) (n1 : ([x1, x2].all fun x => decide (x.1 ≠ i) && decide (x.2.1 ≠ t)) = true) : ChN S (x1 :: x2 :: (i, t, P) :: r) (upd d i) (updv (some t) u v) w := ChN.set (a := [x1, x2]) hU hr hP ⟨h1, h2, trivial⟩ n1
theorem ChN.s4 (hP : P v w) (h1 : d x1.1 = true) (h2 : d x2.1 = true) (h3 : d x3.1 = true) (hU : ChU d r) (hr : (r.all fun x => decide (x.1 ≠ i)) = true) (n1 : ([x1, x2, x3].all fun x => decide (x.1 ≠ i) && decide (x.2.1 ≠ t)) = true) : ChN S (x1 :: x2 :: x3 :: (i, t, P) :: r) (upd d i) (updv (some t) u v) w := ChN.set (a := [x1, x2, x3]) hU hr hP ⟨h1, h2, h3, trivial⟩ n1
theorem ChN.s5 (hP : P v w) (h1 : d x1.1 = true) (h2 : d x2.1 = true) (h3 : d x3.1 = true) (h4 : d x4.1 = true) (hU : ChU d r) (hr : (r.all fun x => decide (x.1 ≠ i)) = true) (n1 : ([x1, x2, x3, x4].all fun x => decide (x.1 ≠ i) && decide (x.2.1 ≠ t)) = true) : ChN S (x1 :: x2 :: x3 :: x4 :: (i, t, P) :: r) (upd d i) (updv (some t) u v) w := ChN.set (a := [x1, x2, x3, x4]) hU hr hP ⟨h1, h2, h3, h4, trivial⟩ n1
end
end Go.Proofs.Bl

/- A row that grows in a field of a struct's variable, its elements where A holds: the element, the slice of it, the append. No program. -/
namespace Go.Proofs.Bl
open Go Go.RowKit
structure GQ {α : Type} (f : α → List Value) (s : Nat) (Ok : (Nat → Prop) → World → α → Prop) (A : Nat → Prop) (B : Nat) (w : World) (X fi : Nat) (cs : List Value) (v : Value) (M : List α) : Prop where
  box : BoxC w X cs
  fld : cs[fi]? = some v
  own : Pk w B s v M.length (cellsR f M)
  ok : ∀ x ∈ M, Ok (fun b => b ≠ X ∧ v.ownBlock ≠ some b ∧ A b) w x
  ne : v.ownBlock ≠ some X
section
variable {α : Type} {f : α → List Value} {s : Nat} {Ok : (Nat → Prop) → World → α → Prop} {A : Nat → Prop} {B : Nat} {w w1 w2 : World} {X fi : Nat} {cs : List Value} {v v' : Value} {M : List α} {y : α}
theorem GQ.ext (hS : Stab Ok) (h : GQ f s Ok A B w X fi cs v M) (hE : Ext w w1) : GQ f s Ok A B w1 X fi cs v M :=
  ⟨h.box.ext hE, h.fld, h.own.ext hE, fun x hx => hS _ _ _ _ _ (h.ok x hx) fun b hb hlt => ⟨hb, hE.block b hlt⟩, h.ne⟩
theorem GQ.start (hB : BoxC w X cs) (hf : cs[fi]? = some (.slice none 0 0)) : GQ f s Ok A B w X fi cs (.slice none 0 0) [] :=
  ⟨hB, hf, Pk.nil _ _ _, fun x hx => (by cases hx), fun q => (by cases q)⟩
theorem GQ.lt (h : GQ f s Ok A B w X fi cs v M) : fi < cs.length := (List.getElem?_eq_some_iff.1 h.fld).1
theorem GQ.cell (h : GQ f s Ok A B w X fi cs v M) : w.cell? ⟨X, fi, none⟩ = some v := h.box.cell h.fld
theorem GQ.mid (h : GQ f s Ok A B w1 X fi cs v M) (hg : w1.grownBy w2 v.ownBlock) : BoxC w2 X cs := h.box.grown hg (fun q => h.ne q)
theorem GQ.form (h : GQ f s Ok A B w X fi cs v M) : ∃ p c, v = .slice p M.length c := by
  obtain ⟨p, c, h1, _⟩ := h.own.rds.form; exact ⟨p, c, h1⟩
theorem GQ.push (hS : Stab Ok) (h : GQ f s Ok A B w1 X fi cs v M) (hown : Pk w2 B s v' (M.length + 1) (cellsR f M ++ f y)) (hg : w1.grownBy w2 v.ownBlock) (hk : ∀ k, v'.ownBlock = some k → v.ownBlock = some k ∨ w1.heap.size ≤ k) (hy : Ok (fun b => b ≠ X ∧ v.ownBlock ≠ some b ∧ A b) w1 y) :
    GQ f s Ok A B (w2.setCell ⟨X, fi, none⟩ v') X fi (cs.set fi v') v' (M ++ [y]) := by
  have hne : v'.ownBlock ≠ some X := fun q => by
    rcases hk X q with z | z
    · exact h.ne z
    · have := h.box.lt; omega
  have hh : ∀ j, j ≠ X → (w2.setCell ⟨X, fi, none⟩ v').heap[j]? = w2.heap[j]? := fun j hj => Below.heap_setCell w2 ⟨X, fi, none⟩ _ j hj
  have hsz : w2.heap.size ≤ (w2.setCell ⟨X, fi, none⟩ v').heap.size := ((Below.refl 0 w2).setCell (Nat.zero_le _) _).size
  refine ⟨(h.mid hg).put h.lt v', by rw [List.getElem?_set_self h.lt], ?_, fun x hx => ?_, hne⟩
  · rw [List.length_append, List.length_singleton, cellsR_append, cellsR_one]
    exact hown.kept (fun j hj => hh j (fun q => hne (by rw [hj, q]))) hsz
  · have key : ∀ b, (b ≠ X ∧ v.ownBlock ≠ some b ∧ A b) → b < w1.heap.size → (b ≠ X ∧ v'.ownBlock ≠ some b ∧ A b) ∧ (w2.setCell ⟨X, fi, none⟩ v').heap[b]? = w1.heap[b]? := fun b hb hlt => by
      refine ⟨⟨hb.1, fun q => ?_, hb.2.2⟩, ?_⟩
      · rcases hk b q with z | z
        · exact hb.2.1 z
        · omega
      · rw [hh b hb.1]
        exact hg.block b hlt (fun q => hb.2.1 q.symm)
    rcases List.mem_append.1 hx with hx | hx
    · exact hS _ _ _ _ _ (h.ok x hx) key
    · obtain rfl : x = y := by simpa using hx
      exact hS _ _ _ _ _ hy key
end
section
variable {α : Type} (f : α → List Value) (s : Nat) (Ok : (Nat → Prop) → World → α → Prop) (A : Nat → Prop) (B Y fi : Nat) (cs : List Value) (vr : Value) (M : List α) (Pr : α → Prop)
def A0 (w : World) : Prop := GQ f s Ok A B w Y fi cs vr M ∧ B ≤ w.heap.size
def A1 (v : Value) (w : World) : Prop := ∃ y, Pr y ∧ v.cells = (f y).toArray ∧ (f y).length = s ∧ (∀ c ∈ f y, c.oneCell' = true) ∧ Ok (fun b => b ≠ Y ∧ vr.ownBlock ≠ some b ∧ A b) w y ∧ A0 f s Ok A B Y fi cs vr M w
def A2 (v : Value) (w : World) : Prop := ∃ y g, v = .slice (some ⟨g, 0, none⟩) 1 1 ∧ w.rangeAt g 0 (f y) ∧ Pr y ∧ (f y).length = s ∧ (∀ c ∈ f y, c.oneCell' = true) ∧ Ok (fun b => b ≠ Y ∧ vr.ownBlock ≠ some b ∧ A b) w y ∧ A0 f s Ok A B Y fi cs vr M w
def A3 (v : Value) (w : World) : Prop := ∃ y p c, v = .slice p (M.length + 1) c ∧ Pr y ∧ w.cell? ⟨Y, fi, none⟩ = some vr ∧ w.frozen? ⟨Y, fi, none⟩ = false ∧ GQ f s Ok A B (w.setCell ⟨Y, fi, none⟩ v) Y fi (cs.set fi v) v (M ++ [y])
end
section
variable {α : Type} {f : α → List Value} {s : Nat} {Ok : (Nat → Prop) → World → α → Prop} {A : Nat → Prop} {B Y fi : Nat} {cs : List Value} {vr : Value} {M : List α} {Pr : α → Prop} {w w' : World}
theorem A0.ext (hS : Stab Ok) (h : A0 f s Ok A B Y fi cs vr M w) (hE : Ext w w') : A0 f s Ok A B Y fi cs vr M w' := ⟨h.1.ext hS hE, Nat.le_trans h.2 hE.size⟩
theorem A1.size {v : Value} (h : A1 f s Ok A B Y fi cs vr M Pr v w) : v.cells.size = s := by
  obtain ⟨y, _, h2, h3, _⟩ := h; rw [h2]; simpa using h3
theorem A1.a2 (hS : Stab Ok) {v : Value} (h : A1 f s Ok A B Y fi cs vr M Pr v w) (e : TypeId) : A2 f s Ok A B Y fi cs vr M Pr (.slice (some ⟨w.heap.size, 0, none⟩) 1 1) (w.alloc (.cells v.cells e)) := by
  obtain ⟨y, h1, h2, h3, h4, h5, h6⟩ := h
  have hE := ext_alloc w (.cells v.cells e)
  refine ⟨y, w.heap.size, rfl, fun j u hu => ?_, h1, h3, h4, hS _ _ _ _ _ h5 fun b hb hl => ⟨hb, hE.block b hl⟩, h6.ext hS hE⟩
  rw [Nat.zero_add, World.cell?_alloc_new, h2]; simpa using hu
end
section
variable {P : Program} {R : World → World → Prop} {α : Type} {f : α → List Value} {s : Nat} {Ok : (Nat → Prop) → World → α → Prop} {A : Nat → Prop} {B Y fi : Nat} {cs : List Value} {vr : Value} {M : List α} {Pr : α → Prop} {w : World} {ev : Nat → Value} {φ : Value → World → Prop} {d : Option Tmp} {tt t e : TypeId} {z : Value} {bytes n : Nat} {pp : String} {af : Array Edge} {g : Option (Nat × Bool)} {x y : Operand}
/-- the element is appended -/
theorem goodX_a3 (hT : SlT P t e z s bytes) (hS : Stab Ok) {v2 : Value} (hc : A2 f s Ok A B Y fi cs vr M Pr v2 w) (hy : evalE ev y = v2) (hx : evalE ev x = vr) (hlen : M.length + 1 ≤ maxLen) (hbytes : (M.length + 1) * bytes ≤ 140737488355328)
    (hφ : ∀ v' w', Kq (fun k => B ≤ k) w w' → A3 f s Ok A B Y fi cs vr M Pr v' w' → R w w' ∧ φ v' w') :
    GoodX R P w φ ((execOp (evalE ev) ⟨d, .call { callee := .builtin .append, args := #[x, y], argTypes := #[t, t] }, tt, pp, af, g⟩).run P w) := by
  obtain ⟨a, b, h1, h2, h3, h4, h5, h6, h8, h9⟩ := hc
  refine goodX_append hT h8.own h2 (by rw [h4, Nat.one_mul]) h5 (by decide) hlen hbytes h9 hx (hy.trans h1) fun v' w' q1 q2 q3 => ?_
  have hK : Kq (fun k => B ≤ k) w w' := Kq.grown q2 fun k hk => (h8.own.block k hk).1
  obtain ⟨p, c, hf, _⟩ := q1.rds.form
  have hb := h8.mid q2
  exact hφ v' w' hK ⟨a, p, c, hf, h3, hb.cell h8.fld, hb.fz h8.lt, h8.push hS q1 q2 q3 h6⟩
theorem goodX_bld3 {i j k : Nat} {u : Operand} {vx vy vu v : Value} {ty : TypeId} (hr : ∀ w, R w w) (hx : evalE ev x = vx) (hy : evalE ev y = vy) (hu : evalE ev u = vu) (hb : (Instr.build ty #[(i, vx), (j, vy), (k, vu)]).run P w = .ok v w) (hφ : φ v w) :
    GoodX R P w φ ((execOp (evalE ev) ⟨d, .build ty #[(i, x), (j, y), (k, u)], tt, pp, af, g⟩).run P w) := by
  unfold execOp
  simp only [hx, hy, hu, List.map_toArray, List.map_cons, List.map_nil, Sem.run_bind, Sem.run_pure, hb, Result.andThen_ok]
  exact ⟨hr _, hφ⟩
theorem goodX_bld5 {i0 i1 i2 i3 i4 : Nat} {c : Value} {u o : Operand} {vx vy vu vo v : Value} {ty : TypeId} (hr : ∀ w, R w w) (hx : evalE ev x = vx) (hy : evalE ev y = vy) (hu : evalE ev u = vu) (ho : evalE ev o = vo) (hb : (Instr.build ty #[(i0, c), (i1, vx), (i2, vy), (i3, vu), (i4, vo)]).run P w = .ok v w) (hφ : φ v w) :
    GoodX R P w φ ((execOp (evalE ev) ⟨d, .build ty #[(i0, .const c), (i1, x), (i2, y), (i3, u), (i4, o)], tt, pp, af, g⟩).run P w) := by
  unfold execOp
  have hc : evalE ev (.const c) = c := rfl
  simp only [hc, hx, hy, hu, ho, List.map_toArray, List.map_cons, List.map_nil, Sem.run_bind, Sem.run_pure, hb, Result.andThen_ok]
  exact ⟨hr _, hφ⟩
/-- a path, a clone: what stands beside the row -/
def P0a {α : Type} (f : α → List Value) (s : Nat) (Ok : (Nat → Prop) → World → α → Prop) (A : Nat → Prop) (B Y fi : Nat) (cs : List Value) (vr : Value) (M : List α) (vw : Value) (pth : List (List Int)) (w : World) : Prop := A0 f s Ok A B Y fi cs vr M w ∧ RdsF (fun b => b ≠ Y ∧ vr.ownBlock ≠ some b ∧ A b) w vw pth.length (cellsD pth)
def P1a {α : Type} (f : α → List Value) (s : Nat) (Ok : (Nat → Prop) → World → α → Prop) (A : Nat → Prop) (B Y fi : Nat) (cs : List Value) (vr : Value) (M : List α) (vw : Value) (pth : List (List Int)) (st : List Int) (v : Value) (w : World) : Prop := RdsF (fun b => b ≠ Y ∧ vr.ownBlock ≠ some b ∧ A b) w v st.length (ints .u8 st) ∧ P0a f s Ok A B Y fi cs vr M vw pth w
theorem P0a.ext {α : Type} {f : α → List Value} {s : Nat} {Ok : (Nat → Prop) → World → α → Prop} {A : Nat → Prop} {B Y fi : Nat} {cs : List Value} {vr : Value} {M : List α} {vw : Value} {pth : List (List Int)} {w w' : World} (hS : Stab Ok) (h : P0a f s Ok A B Y fi cs vr M vw pth w) (hE : Ext w w') : P0a f s Ok A B Y fi cs vr M vw pth w' := ⟨h.1.ext hS hE, h.2.kept fun b hb hl => ⟨hb, hE.block b hl⟩⟩
theorem P1a.a1 {A : Nat → Prop} {B Y fi : Nat} {cs : List Value} {vr : Value} {M : List Sv} {p : Int} {pw pb : Option Addr} {cw cb : Nat} {pth : List (List Int)} {st : List Int} {w : World} (h : P1a cS 3 OkF A B Y fi cs vr M (.slice pw pth.length cw) pth st (.slice pb st.length cb) w) (hb : Byt st) (hd : Dig pth) : A1 cS 3 OkF A B Y fi cs vr M (fun y => plS y = (p, st, pth)) (.agg #[.int .i64 p, .slice pb st.length cb, .slice pw pth.length cw]) w :=
  ⟨(p, (.slice pb st.length cb, st), .slice pw pth.length cw, pth), rfl, rfl, rfl, fun c hc => by
    unfold cS at hc
    simp only [List.mem_cons, List.not_mem_nil, or_false] at hc
    rcases hc with rfl | rfl | rfl <;> rfl, ⟨h.1, hb, h.2.2, hd⟩, h.2.1⟩
theorem P1a.a1' {A : Nat → Prop} {B Y fi : Nat} {cs : List Value} {vr : Value} {M : List Sv} {p : Int} {pw pb : Option Addr} {cw cb : Nat} {pth : List (List Int)} {st : List Int} {v : Value} {w : World} (h : P1a cS 3 OkF A B Y fi cs vr M (.slice pw pth.length cw) pth st v w) (hv : v = .slice pb st.length cb) (hb : Byt st) (hd : Dig pth) : A1 cS 3 OkF A B Y fi cs vr M (fun y => plS y = (p, st, pth)) (.agg #[.int .i64 p, .slice pb st.length cb, .slice pw pth.length cw]) w := by
  subst hv; exact h.a1 hb hd
end
end Go.Proofs.Bl

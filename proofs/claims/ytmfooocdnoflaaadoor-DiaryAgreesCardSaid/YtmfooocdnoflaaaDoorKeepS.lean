/- In a round of a range over a function: loads and stores whose run is known; what a round leaves as it was, but for some blocks. No program. -/
import Derived.Test.YtmfooocdnoflaaaDoorMarks
import Derived.Test.YtmfooocdnoflaaaDoorOut
import Derived.OwnWalkIn
import Derived.RangeFuncNested
namespace Go.Proofs.Bl
open Go Go.RowKit
section
variable {F : Fence} {nf : Nat} {P : Program} {ops : Array Oper} {rest : List Oper} {a : Act} {w w' : World} {Q : Exit → Act → World → Prop} {d : Option Tmp} {tt ty : TypeId} {pp : String} {af : Array Edge} {x y : Operand} {p v : Value}
theorem stopI_load (h : Stuck (wpListIn F nf P ops Q (⟨d, .load ty x, tt, pp, af, none⟩ :: rest) a w)) : wpListIn F nf P ops Q (⟨d, .load ty x, tt, pp, af, none⟩ :: rest) a w := h
theorem stopI_store (h : Stuck (wpListIn F nf P ops Q (⟨d, .store ty x y, tt, pp, af, none⟩ :: rest) a w)) : wpListIn F nf P ops Q (⟨d, .store ty x y, tt, pp, af, none⟩ :: rest) a w := h
theorem stopI_build {n : Nat} {xs : Array (Nat × Operand)} (h : Stuck (wpListIn F nf P ops Q (⟨d, .buildSlice ty n xs, tt, pp, af, none⟩ :: rest) a w)) : wpListIn F nf P ops Q (⟨d, .buildSlice ty n xs, tt, pp, af, none⟩ :: rest) a w := h
theorem wpLI_load (hx : a.eval x = p) (hld : (Instr.loadAt ty p).run P w = .ok v w) (h : wpListIn F nf P ops Q rest (a.put d v) w) :
    wpListIn F nf P ops Q (⟨d, .load ty x, tt, pp, af, none⟩ :: rest) a w :=
  wpListIn_plain rfl fun K hK => by
    unfold Oper.wpIn
    refine ⟨by simp [Oper.about], ?_⟩
    rw [Oper.semAt_plain F _ _ (by intro c hc; cases hc)]
    unfold execOp
    simp only [hx, Sem.run_bind, Sem.run_pure, Result.andThen_ok, hld]
    exact hK _ _ h
theorem wpLI_store (hx : a.eval x = p) (hy : a.eval y = v) (hst : (Instr.storeAt ty p v).run P w = .ok () w') (h : wpListIn F nf P ops Q rest (a.put d undef) w') :
    wpListIn F nf P ops Q (⟨d, .store ty x y, tt, pp, af, none⟩ :: rest) a w :=
  wpListIn_plain rfl fun K hK => by
    unfold Oper.wpIn
    refine ⟨by simp [Oper.about], ?_⟩
    rw [Oper.semAt_plain F _ _ (by intro c hc; cases hc)]
    unfold execOp
    simp only [hx, hy, Sem.run_bind, Sem.run_pure, Result.andThen_ok, hst]
    exact hK _ _ h
theorem wpLI_store0 (hx : a.eval x = p) (hy : a.eval y = v) (hst : (Instr.storeAt ty p v).run P w = .ok () w') (h : wpListIn F nf P ops Q rest a w') :
    wpListIn F nf P ops Q (⟨none, .store ty x y, tt, pp, af, none⟩ :: rest) a w := wpLI_store hx hy hst h
end
/-- all blocks below n but those of Q are as they were -/
def KeepS (Q : Nat → Prop) (n : Nat) (w w' : World) : Prop := w.heap.size ≤ w'.heap.size ∧ ∀ k, k < n → ¬ Q k → w'.heap[k]? = w.heap[k]?
theorem KeepS.refl (Q : Nat → Prop) (n : Nat) (w : World) : KeepS Q n w w := ⟨Nat.le_refl _, fun _ _ _ => rfl⟩
theorem KeepS.trans {Q : Nat → Prop} {n : Nat} {a b c : World} (h : KeepS Q n a b) (k : KeepS Q n b c) : KeepS Q n a c := ⟨Nat.le_trans h.1 k.1, fun i hi hg => (k.2 i hi hg).trans (h.2 i hi hg)⟩
theorem KeepS.cell {Q : Nat → Prop} {n : Nat} {w w' : World} (h : KeepS Q n w w') {b i : Nat} (hb : b < n) (hg : ¬ Q b) : w'.cell? ⟨b, i, none⟩ = w.cell? ⟨b, i, none⟩ := World.cell?_of_block (w := w) (h.2 b hb hg)
theorem KeepS.putObj {Q : Nat → Prop} {n : Nat} {w : World} (hn : n ≤ w.heap.size) (W : World) (l : Nat) (o o' : Obj) (hl : w.heap.size ≤ l) (_ : W.heap[l]? = some o) (_ : o.isCells = false) (_ : o.isWalk = false) : KeepS Q n W (W.putObj l o') :=
  ⟨by simp, fun k hk _ => World.putObj_heap_other (by omega)⟩
theorem KeepS.of_below {Q : Nat → Prop} {n B : Nat} {w w' : World} (h : Below B w w') (hn : n ≤ B) : KeepS Q n w w' := ⟨h.size, fun k hk _ => h.block k (by omega)⟩
theorem KeepS.setCells {Q : Nat → Prop} {n g : Nat} {a w : World} (h : KeepS Q n a w) (hg : Q g) (o : Nat) (vs : List Value) : KeepS Q n a (w.setCells g o vs) :=
  ⟨Nat.le_trans h.1 (below_setCells vs g o w (Below.refl 0 w) (Nat.zero_le _)).size, fun k hk hne => by
    exact (exc_setCells (g := g) vs o w (Exc.refl g w) k (fun e => hne (e ▸ hg))).trans (h.2 k hk hne)⟩
theorem KeepS.range {Q : Nat → Prop} {n : Nat} {w w' : World} (h : KeepS Q n w w') {b o : Nat} {vs : List Value} (hr : w.rangeAt b o vs) (hb : b < n) (hg : ¬ Q b) : w'.rangeAt b o vs := fun j v hv => (h.cell hb hg).trans (hr j v hv)
theorem ownFrom_keepS {β : Type} {Q : Nat → Prop} {n B : Nat} {w₀ : World} (hB : n ≤ B) (hn : n ≤ w₀.heap.size): OwnFrom B (fun (_ : β) W => KeepS Q n w₀ W) :=
  fun _ W W' row hs hg hr => by
    exact hs.trans ⟨hg.size, fun k hk _ => hg.block k (by have := hs.1; omega) (fun e => by have := (hr k e.symm).1; omega)⟩
theorem others_setCells {a : World} : ∀ (vs : List Value) (g o : Nat) (w : World), KeepsOthers a w → KeepsOthers a (w.setCells g o vs)
  | [], _, _, _, h => h
  | v :: r, g, o, w, h => by rw [World.setCells]; exact others_setCells r g (o + 1) _ (h.trans (KeepsOthers.setCell _ _ _))
theorem ownFrom_box {β : Type} {D B : Nat} {f : β → List Int} (hD : D < B) : OwnFrom B (fun (x : β) W => BoxD W D (f x)) :=
  fun _ _ _ _ hs hg hr => hs.grown hg (fun e => by have := (hr D e).1; omega)
theorem no_cell {w : World} {b i : Nat} {v : Value} {o : Obj} (h : w.cell? ⟨b, i, none⟩ = some v) (ho : w.heap[b]? = some o) (hc : o.isCells = false) : False := by
  simp only [World.cell?, ho] at h
  cases o <;> simp_all [Obj.isCells]
/-- a digest's own variable abides the turn of a block that is no cells -/
theorem BoxD.own {W W' : World} {X : Nat} {d : List Int} {row : Option Nat} {B : Nat} (h : BoxD W X d) (hg : W.grownBy W' row) (hr : ∀ r, row = some r → B ≤ r ∧ ∃ o : Obj, W.heap[r]? = some o ∧ o.isCells = false) : BoxD W' X d :=
  h.grown hg (fun e => by
    obtain ⟨_, o, ho, hc⟩ := hr X e
    exact no_cell (h.rg 0 (.int .u8 (d.getD 0 0)) (by rw [ints_get .u8 d 0 (by rw [h.len]; decide)])) ho hc)
/-- a range over a function whose variable is a new block in each round -/
theorem wpIn_rangeFunc_box {F : Fence} {n : Nat} {P : Program} {α : Type} {g : Operand} {ps : Array Tmp} {assign body : Code} {Q : Exit → Act → World → Prop} {a : Act} {w : World}
    (hro : F.round = none) (h1 : 1 ≤ n) {gf : Nat} {lb : Array Value} (hg : a.eval g = .func (.func gf) #[] lb) (hFg : F.fn gf) (eg : ∀ args w, (callFunc gf args).run P w = .ok (.enter gf args) w)
    {encs : α → Array Value} {Kp : World → World → Prop} {S Sp : List α → Prop} {N : Nat} {w0 : World} (hseq : SeqStopsK F (n - 1) P gf lb encs Kp S Sp N w0)
    (hKt : ∀ {A B C : World}, Kp A B → Kp B C → Kp A C) (hKb : ∀ (W : World) (l : Nat) (o o' : Obj), w.heap.size ≤ l → W.heap[l]? = some o → o.isCells = false → o.isWalk = false → Kp W (W.putObj l o')) (hb0 : Below w0.heap.size w0 w) (hps : ∀ x, (encs x).size = ps.size)
    (I : List α → World → Prop) (Ix : Code → List α → World → Prop) (hI : OwnFrom w.heap.size I) (hIx : ∀ c, OwnFrom w.heap.size (Ix c)) (h0 : I [] w) (A : Nat → α → Act) (Bx : α → Nat → World → Prop) (hBx : ∀ x X, OwnFrom w.heap.size (fun (_ : Unit) W => Bx x X W))
    (hassign : ∀ (l : Nat) (pre : List α) (x : α) (W : World) (K : Act → World → Prop), I pre W → (∀ X W', KeepsFrom w.heap.size W W' → Kp W W' → I pre W' → Bx x X W' → K (A X x) W') →
      assign.wpIn (F.inRound l) (n - 1 - 1) P (Exit.then K (fun _ _ _ => False)) { tmps := (ps.zip (encs x)).foldl (fun t (p, v) => t.setIfInBounds p v) a.tmps, defers := [] } W)
    (hbody : ∀ (l : Nat) (pre : List α) (x : α) (X : Nat) (W : World), I pre W → Bx x X W → pre.length < N → body.wpIn (F.inRound l) (n - 1 - 1) P (ownPostG w.heap.size Kp I Ix (pre ++ [x]) W) (A X x) W)
    (hdone : ∀ (D : Nat) (xs : List α) (W : World), w.heap.size ≤ D → S xs → I xs W → W.heap[D]? = some (.deferred (some [])) → Q .normal { a with defers := { target := .collected D, args := #[] } :: a.defers } W)
    (hstop : ∀ (D : Nat) (c : Code) (pre : List α) (W : World), w.heap.size ≤ D → Sp pre → Ix c pre W → W.heap[D]? = some (.deferred (some [])) → c.wpIn F n P Q { a with defers := { target := .collected D, args := #[] } :: a.defers } W) :
    (Code.rangeFunc g ps assign body).wpIn F n P Q a w :=
  wpIn_rangeFunc_ownH hro h1 hg hFg eg hseq (fun h k => hKt h k) hKb hb0 hps I Ix hI hIx h0 (fun x a' W => ∃ X, a' = A X x ∧ Bx x X W)
    (fun x a' s W W' row => by rintro ⟨X, e, hX⟩ hg hr; exact ⟨X, e, hBx x X () W W' row hX hg hr⟩)
    (fun l pre x W K hi hK => hassign l pre x W K hi (fun X W' h1 h2 h3 h4 => hK _ _ h1 h2 h3 ⟨X, rfl, h4⟩))
    (fun l pre x a' W _ _ hi hA hl => by obtain ⟨X, rfl, hX⟩ := hA; exact hbody l pre x X W hi hX hl) hdone hstop
end Go.Proofs.Bl

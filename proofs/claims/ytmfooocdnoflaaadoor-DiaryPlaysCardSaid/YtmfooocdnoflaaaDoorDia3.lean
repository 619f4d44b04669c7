/- Texts that stood apart, in one: JT, PJ, WDm1, WDm2, WDm3, WDm4. -/
import Derived.Test.YtmfooocdnoflaaaDoorDia0
import Derived.Test.YtmfooocdnoflaaaDoorDia2
import Derived.Test.YtmfooocdnoflaaaDoorWl0
import Derived.Test.YtmfooocdnoflaaaDoorDia1
import Derived.Test.YtmfooocdnoflaaaDoorGwc
/- 'append(append([]T{}, xs...), x)' in a region whose order is open: what holds after which operations. No program. -/
namespace Go.Proofs.Bl
open Go Go.RowKit
theorem zbox (w : World) (e : TypeId) : BoxC (w.alloc (.cells #[.int .i64 0, .int .u8 0, .int .u8 0, .int .u8 0, .int .u8 0, .int .u8 0, .int .u8 0, .int .u8 0, .int .u8 0, .int .u8 0, .int .u8 0, .int .u8 0, .int .u8 0, .int .u8 0, .int .u8 0, .int .u8 0, .int .u8 0, .int .u8 0, .int .u8 0, .int .u8 0, .int .u8 0, .int .u8 0, .int .u8 0, .int .u8 0, .int .u8 0, .int .u8 0, .int .u8 0, .int .u8 0, .int .u8 0, .int .u8 0, .int .u8 0, .int .u8 0, .int .u8 0] e)) w.heap.size (cN n0) := BoxC.box w e (cN_ne n0)
theorem pk_empty (w : World) (e : TypeId) {B s : Nat} (hB : B ≤ w.heap.size) : Pk (w.alloc (.cells #[] e)) B s (.slice (some ⟨w.heap.size, 0, none⟩) 0 0) 0 [] :=
  .inr ⟨w.heap.size, 0, rfl, hB, ⟨Nat.le_refl _, by unfold maxLen; omega, by simp, fun j v hv => by simp at hv, fun j hj => by simp at hj, by rw [World.size_alloc]; omega⟩⟩
structure JQ (B n s : Nat) (xs nc : List Value) (d : Nat → Bool) (u : Nat → Value) (w : World) : Prop where
  le : B ≤ w.heap.size
  e : d 1 = true → d 6 = false → (∃ g, u 65 = .slice (some ⟨g, 0, none⟩) 0 0) ∧ Pk w B s (u 65) 0 []
  f : d 6 = true → d 11 = false → Pk w B s (u 70) n xs
  g : d 10 = true → d 11 = false → ∃ g, u 74 = .slice (some ⟨g, 0, none⟩) 1 1 ∧ g < w.heap.size ∧ w.rangeAt g 0 nc ∧ (d 1 = true → d 6 = false → (u 65).ownBlock ≠ some g) ∧ (d 6 = true → (u 70).ownBlock ≠ some g)
  h : d 11 = true → Pk w B s (u 75) (n + 1) (xs ++ nc)
section
variable {B n s : Nat} {xs nc : List Value} {d : Nat → Bool} {u : Nat → Value} {w : World}
theorem JQ.start (h : B ≤ w.heap.size) : JQ B n s xs nc (fun _ => false) u w := ⟨h, fun q => (by cases q), fun q => (by cases q), fun q => (by cases q), fun q => (by cases q)⟩
theorem JQ.same {i t : Nat} {v : Value} (h : JQ B n s xs nc d u w) (hi : (decide (i = 1) || decide (i = 6) || decide (i = 10) || decide (i = 11) || decide (t = 65) || decide (t = 70) || decide (t = 74) || decide (t = 75)) = false) : JQ B n s xs nc (upd d i) (updv (some t) u v) w := by
  simp only [Bool.or_eq_false_iff, decide_eq_false_iff_not] at hi
  obtain ⟨⟨⟨⟨⟨⟨⟨h1, h2⟩, h3⟩, h4⟩, h5⟩, h6⟩, h7⟩, h8⟩ := hi
  have a1 : upd d i 1 = d 1 := if_neg (fun e => h1 e.symm)
  have a6 : upd d i 6 = d 6 := if_neg (fun e => h2 e.symm)
  have a10 : upd d i 10 = d 10 := if_neg (fun e => h3 e.symm)
  have a11 : upd d i 11 = d 11 := if_neg (fun e => h4 e.symm)
  have b65 : updv (some t) u v 65 = u 65 := if_neg (fun e => h5 e.symm)
  have b70 : updv (some t) u v 70 = u 70 := if_neg (fun e => h6 e.symm)
  have b74 : updv (some t) u v 74 = u 74 := if_neg (fun e => h7 e.symm)
  have b75 : updv (some t) u v 75 = u 75 := if_neg (fun e => h8 e.symm)
  refine ⟨h.le, ?_, ?_, ?_, ?_⟩
  · rw [a1, a6, b65]; exact h.e
  · rw [a6, a11, b70]; exact h.f
  · rw [a1, a6, a10, a11, b65, b70, b74]; exact h.g
  · rw [a11, b75]; exact h.h
theorem JQ.mk1 {e : TypeId} (h : JQ B n s xs nc d u w) (h6 : d 6 = false) (h11 : d 11 = false) : JQ B n s xs nc (upd d 1) (updv (some 65) u (.slice (some ⟨w.heap.size, 0, none⟩) 0 0)) (w.alloc (.cells #[] e)) := by
  have hE := ext_alloc w (.cells #[] e)
  refine ⟨Nat.le_trans h.le hE.size, fun _ _ => ⟨⟨_, rfl⟩, pk_empty w e h.le⟩, fun q => (by rw [show upd d 1 6 = d 6 from rfl, h6] at q; cases q), fun q1 q2 => ?_, fun q => (by rw [show upd d 1 11 = d 11 from rfl, h11] at q; cases q)⟩
  obtain ⟨g, g1, g2, g3, g4, g5⟩ := h.g q1 q2
  refine ⟨g, g1, Nat.lt_of_lt_of_le g2 hE.size, rangeAt_ext g3 hE, fun _ _ z => ?_, fun q => (by rw [show upd d 1 6 = d 6 from rfl, h6] at q; cases q)⟩
  have : (some w.heap.size : Option Nat) = some g := z
  injection this with this
  omega
theorem JQ.mk10 {e : TypeId} (h : JQ B n s xs nc d u w) (h11 : d 11 = false) : JQ B n s xs nc (upd d 10) (updv (some 74) u (.slice (some ⟨w.heap.size, 0, none⟩) 1 1)) (w.alloc (.cells nc.toArray e)) := by
  have hE := ext_alloc w (.cells nc.toArray e)
  refine ⟨Nat.le_trans h.le hE.size, fun q1 q2 => ⟨(h.e q1 q2).1, (h.e q1 q2).2.ext hE⟩, fun q1 q2 => (h.f q1 q2).ext hE, fun _ _ => ⟨w.heap.size, rfl, by rw [World.size_alloc]; omega, range_boxC w nc e, fun q1 q2 z => ?_, fun q1 z => ?_⟩, fun q => (by rw [show upd d 10 11 = d 11 from rfl, h11] at q; cases q)⟩
  · have := ((h.e q1 q2).2.block _ z).2; omega
  · have := ((h.f q1 h11).block _ z).2; omega
theorem JQ.app1 {v' : Value} {w' : World} (h : JQ B n s xs nc d u w) (h1 : d 1 = true) (h6 : d 6 = false) (h11 : d 11 = false) (h2 : Pk w' B s v' (0 + n) ([] ++ xs)) (h3 : w.grownBy w' (u 65).ownBlock) (h4 : ∀ j, v'.ownBlock = some j → (u 65).ownBlock = some j ∨ w.heap.size ≤ j) : Below B w w' ∧ JQ B n s xs nc (upd d 6) (updv (some 70) u v') w' := by
  have hB : Below B w w' := (Below.refl B w).grown h3 h.le (fun j hj => ((h.e h1 h6).2.block j hj).1)
  refine ⟨hB, Nat.le_trans h.le hB.size, fun _ q => (by cases q), fun _ _ => by rw [Nat.zero_add, List.nil_append] at h2; exact h2, fun q1 q2 => ?_, fun q => (by rw [show upd d 6 11 = d 11 from rfl, h11] at q; cases q)⟩
  obtain ⟨g, g1, g2, g3, g4, g5⟩ := h.g q1 q2
  have hne := g4 h1 h6
  refine ⟨g, g1, Nat.lt_of_lt_of_le g2 hB.size, fun j v hv => ?_, fun _ q => (by cases q), fun _ z => ?_⟩
  · rw [World.cell?_of_block (w := w) (h3.block g g2 (fun q => hne q.symm))]; exact g3 j v hv
  · rcases h4 g z with q | q
    · exact hne q
    · omega
theorem JQ.app2 {v' : Value} {w' : World} (h : JQ B n s xs nc d u w) (h6 : d 6 = true) (h11 : d 11 = false) (h2 : Pk w' B s v' (n + 1) (xs ++ nc)) (h3 : w.grownBy w' (u 70).ownBlock) : Below B w w' ∧ JQ B n s xs nc (upd d 11) (updv (some 75) u v') w' := by
  have hB : Below B w w' := (Below.refl B w).grown h3 h.le (fun j hj => ((h.f h6 h11).block j hj).1)
  exact ⟨hB, Nat.le_trans h.le hB.size, fun _ q => (by rw [show upd d 11 6 = d 6 from rfl, h6] at q; cases q), fun _ q => (by cases q), fun _ q => (by cases q), fun _ => h2⟩
end
theorem goodX_buildS2 {R : World → World → Prop} (hr : ∀ w, R w w) {P : Program} {ev : Nat → Value} {w : World} {φ : Value → World → Prop} {d : Option Tmp} {tt ty : TypeId} {pp : String} {af : Array Edge} {g : Option (Nat × Bool)} {i j : Nat} {x y : Operand} {vx vy v : Value} (hx : evalE ev x = vx) (hy : evalE ev y = vy) (hb : (Instr.build ty #[(i, vx), (j, vy)]).run P w = .ok v w) (hφ : φ v w) :
    GoodX R P w φ ((execOp (evalE ev) ⟨d, .build ty #[(i, x), (j, y)], tt, pp, af, g⟩).run P w) := by
  unfold execOp
  simp only [hx, hy, List.map_toArray, List.map_cons, List.map_nil, Sem.run_bind, Sem.run_pure, hb, Result.andThen_ok]
  exact ⟨hr _, hφ⟩
end Go.Proofs.Bl

/- A diary and its model, that take the same note in a region whose order is open. No program. -/
namespace Go.Proofs.Bl
open Go Go.RowKit
theorem Dm.kept {w w' : World} {b : Nat} {v : Value} {N : List Nt} (h : Dm w b v N) (hb : w'.heap[b]? = w.heap[b]?) (hk : ∀ k, v.ownBlock = some k → w'.heap[k]? = w.heap[k]?) : Dm w' b v N := by
  refine ⟨by rw [World.cell?_of_block (w := w) hb]; exact h.c0, by rw [World.frozen?_of_block (w := w) hb]; exact h.f0, ?_, h.dig⟩
  rcases h.rd with h1 | ⟨g, o, c, h1, h2, h3, hne, h4⟩
  · exact .inl h1
  · refine .inr ⟨g, o, c, h1, h2, h3, hne, fun j x hx => ?_⟩
    rw [World.cell?_of_block (w := w) (hk g (by rw [h1]; rfl))]
    exact h4 j x hx
/-- how a diary and its model lie apart -/
structure Apt (base ba bm : Nat) (w : World) (va vm : Value) : Prop where
  la : ba < w.heap.size
  lm : bm < w.heap.size
  fa : base ≤ ba
  fm : base ≤ bm
  ne : ba ≠ bm
  oa : ∀ k, va.ownBlock = some k → base ≤ k ∧ k < w.heap.size ∧ k ≠ bm
  om : ∀ k, vm.ownBlock = some k → base ≤ k ∧ k < w.heap.size ∧ k ≠ ba ∧ va.ownBlock ≠ some k
theorem Apt.ext {base ba bm : Nat} {w w' : World} {va vm : Value} (h : Apt base ba bm w va vm) (hs : w.heap.size ≤ w'.heap.size) : Apt base ba bm w' va vm :=
  ⟨Nat.lt_of_lt_of_le h.la hs, Nat.lt_of_lt_of_le h.lm hs, h.fa, h.fm, h.ne, fun k hk => ⟨(h.oa k hk).1, Nat.lt_of_lt_of_le (h.oa k hk).2.1 hs, (h.oa k hk).2.2⟩, fun k hk => ⟨(h.om k hk).1, Nat.lt_of_lt_of_le (h.om k hk).2.1 hs, (h.om k hk).2.2⟩⟩
/-- what two such calls may change -/
structure Kp (base ba bm : Nat) (W : World) (va0 : Value) (a b : World) : Prop where
  bl : Below base a b
  kp : ∀ k, k < W.heap.size → k ≠ ba → k ≠ bm → va0.ownBlock ≠ some k → b.heap[k]? = a.heap[k]?
section
variable {base ba bm : Nat} {W w w' : World} {va0 vm0 : Value} {N N' : List Nt} {d : Nat → Bool} {u : Nat → Value}
theorem Kp.refl (w : World) : Kp base ba bm W va0 w w := ⟨Below.refl _ _, fun _ _ _ _ _ => rfl⟩
theorem Kp.trans {a b c : World} (h : Kp base ba bm W va0 a b) (k : Kp base ba bm W va0 b c) : Kp base ba bm W va0 a c := ⟨Below.trans h.bl k.bl, fun j h1 h2 h3 h4 => (k.kp j h1 h2 h3 h4).trans (h.kp j h1 h2 h3 h4)⟩
theorem Kp.of_ext {a b : World} (h : Ext a b) (hb : base ≤ a.heap.size) (hW : W.heap.size ≤ a.heap.size) : Kp base ba bm W va0 a b := ⟨Below.mono h hb, fun k hk _ _ _ => h.block k (Nat.lt_of_lt_of_le hk hW)⟩
/-- i1: the diary's call; i2: the model's -/
structure PJ (i1 i2 base ba bm : Nat) (W : World) (va0 vm0 : Value) (N N' : List Nt) (d : Nat → Bool) (u : Nat → Value) (w : World) : Prop where
  le : W.heap.size ≤ w.heap.size
  bs : base ≤ W.heap.size
  ap : Apt base ba bm W va0 vm0
  ex : ∃ va vm, Di w ba va (if d i1 = true then N' else N) ∧ Dm w bm vm (if d i2 = true then N' else N) ∧ (d i1 = false → va = va0) ∧ (d i2 = false → vm = vm0) ∧ (∀ k, va.ownBlock = some k → (va0.ownBlock = some k ∨ W.heap.size ≤ k) ∧ k < w.heap.size) ∧ (∀ k, vm.ownBlock = some k → (vm0.ownBlock = some k ∨ W.heap.size ≤ k) ∧ k < w.heap.size) ∧ (∀ k, va.ownBlock = some k → vm.ownBlock ≠ some k)
variable {i1 i2 : Nat}
theorem PJ.start (ap : Apt base ba bm W va0 vm0) (bs : base ≤ W.heap.size) (h1 : Di W ba va0 N) (h2 : Dm W bm vm0 N) (hs : w.heap = W.heap) : PJ i1 i2 base ba bm W va0 vm0 N N' (fun _ => false) u w :=
  ⟨by rw [hs]; exact Nat.le_refl _, bs, ap, va0, vm0, by simpa using h1.kept (by rw [hs]) (fun _ _ => by rw [hs]) (by rw [hs]; exact Nat.le_refl _), by simpa using h2.kept (by rw [hs]) (fun _ _ => by rw [hs]), fun _ => rfl, fun _ => rfl, fun k hk => ⟨.inl hk, by rw [hs]; exact (ap.oa k hk).2.1⟩, fun k hk => ⟨.inl hk, by rw [hs]; exact (ap.om k hk).2.1⟩, fun k hk q => (ap.om k q).2.2.2 hk⟩
theorem PJ.step {i t : Nat} {v : Value} (h : PJ i1 i2 base ba bm W va0 vm0 N N' d u w) (hE : Ext w w') (hi : (decide (i = i1) || decide (i = i2)) = false) : PJ i1 i2 base ba bm W va0 vm0 N N' (upd d i) (updv (some t) u v) w' := by
  simp only [Bool.or_eq_false_iff, decide_eq_false_iff_not] at hi
  obtain ⟨va, vm, h1, h2, h3, h4, h5, h6, h7⟩ := h.ex
  have a8 : upd d i i1 = d i1 := if_neg (fun e => hi.1 e.symm)
  have a17 : upd d i i2 = d i2 := if_neg (fun e => hi.2 e.symm)
  exact ⟨Nat.le_trans h.le hE.size, h.bs, h.ap, va, vm, by rw [a8]; exact h1.ext hE, by rw [a17]; exact h2.ext hE, by rw [a8]; exact h3, by rw [a17]; exact h4, fun k hk => ⟨(h5 k hk).1, Nat.lt_of_lt_of_le (h5 k hk).2 hE.size⟩, fun k hk => ⟨(h6 k hk).1, Nat.lt_of_lt_of_le (h6 k hk).2 hE.size⟩, h7⟩
theorem PJ.same {i t : Nat} {v : Value} (h : PJ i1 i2 base ba bm W va0 vm0 N N' d u w) (hi : (decide (i = i1) || decide (i = i2)) = false) : PJ i1 i2 base ba bm W va0 vm0 N N' (upd d i) (updv (some t) u v) w := h.step (Below.refl _ _) hi
theorem PJ.kp {a : World} (h : PJ i1 i2 base ba bm W va0 vm0 N N' d u w) (hE : Ext w a) : Kp base ba bm W va0 w a := Kp.of_ext hE (Nat.le_trans h.bs h.le) h.le
theorem PJ.di (h : PJ i1 i2 base ba bm W va0 vm0 N N' d u w) (h8 : d i1 = false) : Di w ba va0 N := by
  obtain ⟨va, vm, h1, h2, h3, _⟩ := h.ex
  rw [h3 h8, h8] at h1
  simpa using h1
theorem PJ.dm (h : PJ i1 i2 base ba bm W va0 vm0 N N' d u w) (h17 : d i2 = false) : Dm w bm vm0 N := by
  obtain ⟨va, vm, h1, h2, h3, h4, _⟩ := h.ex
  rw [h4 h17, h17] at h2
  simpa using h2
theorem PJ.take1 {t : Nat} {v va' : Value} (h : PJ i1 i2 base ba bm W va0 vm0 N N' d u w) (hne : decide (i1 = i2) = false) (h8 : d i1 = false) (hD : Di w' ba va' N') (hv : ∀ k, va'.ownBlock = some k → va0.ownBlock = some k ∨ w.heap.size ≤ k) (hA : Adds w w' ba va0.ownBlock) : Kp base ba bm W va0 w w' ∧ PJ i1 i2 base ba bm W va0 vm0 N N' (upd d i1) (updv (some t) u v) w' := by
  have hne := of_decide_eq_false hne
  obtain ⟨va, vm, h1, h2, h3, h4, h5, h6, h7⟩ := h.ex
  have e := h3 h8
  subst e
  have a17 : upd d i1 i2 = d i2 := if_neg (fun e => hne e.symm)
  have a8 : upd d i1 i1 = true := if_pos rfl
  refine ⟨⟨hA.below (Nat.le_trans h.bs h.le) h.ap.fa (fun k hk => (h.ap.oa k hk).1), fun k hk k1 _ k3 => hA.block k (Nat.lt_of_lt_of_le hk h.le) k1 (fun q => k3 q.symm)⟩, Nat.le_trans h.le hA.size, h.bs, h.ap, va', vm, by rw [a8]; simpa using hD, ?_, fun q => (by rw [a8] at q; cases q), by rw [a17]; exact h4, fun k hk => ⟨?_, (hD.pk.block k hk).2⟩, fun k hk => ⟨(h6 k hk).1, Nat.lt_of_lt_of_le (h6 k hk).2 hA.size⟩, fun k hk q => ?_⟩
  · rw [a17]
    refine h2.kept (hA.block bm (Nat.lt_of_lt_of_le h.ap.lm h.le) (fun q => h.ap.ne q.symm) (fun q => (h.ap.oa bm q.symm).2.2 rfl)) (fun k hk => hA.block k (h6 k hk).2 (fun q => ?_) (fun q => h7 k q.symm hk))
    rcases (h6 k hk).1 with z | z
    · exact (h.ap.om k z).2.2.1 q
    · have := h.ap.la; omega
  · rcases hv k hk with z | z
    · exact .inl z
    · exact .inr (Nat.le_trans h.le z)
  · rcases hv k hk with z | z
    · exact h7 k z q
    · have := (h6 k q).2; omega
theorem PJ.take2 {t : Nat} {v vm' : Value} (h : PJ i1 i2 base ba bm W va0 vm0 N N' d u w) (hne : decide (i1 = i2) = false) (h17 : d i2 = false) (hD : Dm w' bm vm' N') (hv : ∀ k, vm'.ownBlock = some k → vm0.ownBlock = some k ∨ (w.heap.size ≤ k ∧ k < w'.heap.size)) (hA : Adds w w' bm none) : Kp base ba bm W va0 w w' ∧ PJ i1 i2 base ba bm W va0 vm0 N N' (upd d i2) (updv (some t) u v) w' := by
  have hne := of_decide_eq_false hne
  obtain ⟨va, vm, h1, h2, h3, h4, h5, h6, h7⟩ := h.ex
  have e := h4 h17
  subst e
  have a8 : upd d i2 i1 = d i1 := if_neg hne
  have a17 : upd d i2 i2 = true := if_pos rfl
  refine ⟨⟨hA.below (Nat.le_trans h.bs h.le) h.ap.fm (fun k hk => (by cases hk)), fun k hk _ k2 _ => hA.block k (Nat.lt_of_lt_of_le hk h.le) k2 (fun q => by cases q)⟩, Nat.le_trans h.le hA.size, h.bs, h.ap, va, vm', ?_, by rw [a17]; simpa using hD, by rw [a8]; exact h3, fun q => (by rw [a17] at q; cases q), fun k hk => ⟨(h5 k hk).1, Nat.lt_of_lt_of_le (h5 k hk).2 hA.size⟩, fun k hk => ?_, fun k hk q => ?_⟩
  · rw [a8]
    refine h1.kept (hA.block ba (Nat.lt_of_lt_of_le h.ap.la h.le) h.ap.ne (fun q => by cases q)) (fun k hk => hA.block k (h5 k hk).2 (fun q => ?_) (fun q => by cases q)) hA.size
    rcases (h5 k hk).1 with z | z
    · exact (h.ap.oa k z).2.2 q
    · have := h.ap.lm; omega
  · rcases hv k hk with z | z
    · exact ⟨.inl z, Nat.lt_of_lt_of_le (h.ap.om k z).2.1 (Nat.le_trans h.le hA.size)⟩
    · exact ⟨.inr (Nat.le_trans h.le z.1), z.2⟩
  · rcases hv k q with z | z
    · exact h7 k hk z
    · have := (h5 k hk).2; omega
theorem Kp.drew (w : World) : Kp base ba bm W va0 w w.drew := ⟨(Below.refl _ _).drew, fun _ _ _ _ _ => rfl⟩
/-- i0: the digests are made, in the slot t0 -/
structure PD (i0 t0 i1 i2 base ba bm : Nat) (W : World) (va0 vm0 : Value) (N N' : List Nt) (k : Nat) (cs : List Value) (d : Nat → Bool) (u : Nat → Value) (w : World) : Prop where
  p : PJ i1 i2 base ba bm W va0 vm0 N N' d u w
  r : d i0 = true → d i1 = false → RdsX w bm (u t0) k cs
section
variable {i0 t0 k : Nat} {cs : List Value}
theorem PD.step {i t : Nat} {v : Value} (h : PD i0 t0 i1 i2 base ba bm W va0 vm0 N N' k cs d u w) (hE : Ext w w') (hi : (decide (i = i1) || decide (i = i2) || decide (i = i0) || decide (t = t0)) = false) : PD i0 t0 i1 i2 base ba bm W va0 vm0 N N' k cs (upd d i) (updv (some t) u v) w' := by
  simp only [Bool.or_eq_false_iff, decide_eq_false_iff_not] at hi
  obtain ⟨⟨⟨h1, h2⟩, h3⟩, h4⟩ := hi
  refine ⟨h.p.step hE (by simp [h1, h2]), fun q1 q2 => ?_⟩
  have a0 : upd d i i0 = d i0 := if_neg (fun e => h3 e.symm)
  have a1 : upd d i i1 = d i1 := if_neg (fun e => h1 e.symm)
  have b0 : updv (some t) u v t0 = u t0 := if_neg (fun e => h4 e.symm)
  rw [a0] at q1
  rw [a1] at q2
  rw [b0]
  exact (h.r q1 q2).ext hE
theorem PD.same {i t : Nat} {v : Value} (h : PD i0 t0 i1 i2 base ba bm W va0 vm0 N N' k cs d u w) (hi : (decide (i = i1) || decide (i = i2) || decide (i = i0) || decide (t = t0)) = false) : PD i0 t0 i1 i2 base ba bm W va0 vm0 N N' k cs (upd d i) (updv (some t) u v) w := h.step (Below.refl _ _) hi
theorem PD.dig {v : Value} (h : PD i0 t0 i1 i2 base ba bm W va0 vm0 N N' k cs d u w) (hE : Ext w w') (hi : (decide (i0 = i1) || decide (i0 = i2)) = false) (hr : RdsX w' bm v k cs) : PD i0 t0 i1 i2 base ba bm W va0 vm0 N N' k cs (upd d i0) (updv (some t0) u v) w' :=
  ⟨h.p.step hE hi, fun _ _ => by rw [show updv (some t0) u v t0 = v from if_pos rfl]; exact hr⟩
theorem PD.take1 {t : Nat} {v va' : Value} (h : PD i0 t0 i1 i2 base ba bm W va0 vm0 N N' k cs d u w) (hne : decide (i1 = i2) = false) (h8 : d i1 = false) (hD : Di w' ba va' N') (hv : ∀ k, va'.ownBlock = some k → va0.ownBlock = some k ∨ w.heap.size ≤ k) (hA : Adds w w' ba va0.ownBlock) : Kp base ba bm W va0 w w' ∧ PD i0 t0 i1 i2 base ba bm W va0 vm0 N N' k cs (upd d i1) (updv (some t) u v) w' := by
  obtain ⟨h1, h2⟩ := h.p.take1 (t := t) (v := v) hne h8 hD hv hA
  exact ⟨h1, h2, fun _ q => (by rw [show upd d i1 i1 = true from if_pos rfl] at q; cases q)⟩
theorem PD.take2 {t : Nat} {v vm' : Value} (h : PD i0 t0 i1 i2 base ba bm W va0 vm0 N N' k cs d u w) (hne : (decide (i1 = i2) || decide (i2 = i0) || decide (t = t0)) = false) (h17 : d i2 = false) (hD : Dm w' bm vm' N') (hv : ∀ k, vm'.ownBlock = some k → vm0.ownBlock = some k ∨ (w.heap.size ≤ k ∧ k < w'.heap.size)) (hA : Adds w w' bm none) : Kp base ba bm W va0 w w' ∧ PD i0 t0 i1 i2 base ba bm W va0 vm0 N N' k cs (upd d i2) (updv (some t) u v) w' := by
  simp only [Bool.or_eq_false_iff, decide_eq_false_iff_not] at hne
  obtain ⟨⟨n1, n2⟩, n3⟩ := hne
  obtain ⟨h1, h2⟩ := h.p.take2 (t := t) (v := v) (decide_eq_false n1) h17 hD hv hA
  refine ⟨h1, h2, fun q1 q2 => ?_⟩
  have a0 : upd d i2 i0 = d i0 := if_neg (fun e => n2 e.symm)
  have a1 : upd d i2 i1 = d i1 := if_neg n1
  have b0 : updv (some t) u v t0 = u t0 := if_neg (fun e => n3 e.symm)
  rw [a0] at q1
  rw [a1] at q2
  rw [b0]
  exact (h.r q1 q2).kept (fun j hj hjl => hA.block j hjl hj (fun q => by cases q))
end
/-- both calls are done -/
theorem PJ.done (h : PJ i1 i2 base ba bm W va0 vm0 N N' d u w) (h8 : d i1 = true) (h17 : d i2 = true) : ∃ va vm, Di w ba va N' ∧ Dm w bm vm N' ∧ Apt base ba bm w va vm ∧ (∀ k, va.ownBlock = some k → va0.ownBlock = some k ∨ W.heap.size ≤ k) ∧ (∀ k, vm.ownBlock = some k → vm0.ownBlock = some k ∨ W.heap.size ≤ k) := by
  obtain ⟨va, vm, h1, h2, h3, h4, h5, h6, h7⟩ := h.ex
  rw [h8] at h1
  rw [h17] at h2
  simp only [if_true] at h1 h2
  refine ⟨va, vm, h1, h2, ⟨Nat.lt_of_lt_of_le h.ap.la h.le, Nat.lt_of_lt_of_le h.ap.lm h.le, h.ap.fa, h.ap.fm, h.ap.ne, fun k hk => ⟨?_, (h5 k hk).2, ?_⟩, fun k hk => ⟨?_, (h6 k hk).2, ?_, fun q => h7 k q hk⟩⟩, fun k hk => (h5 k hk).1, fun k hk => (h6 k hk).1⟩
  · rcases (h5 k hk).1 with z | z
    · exact (h.ap.oa k z).1
    · exact Nat.le_trans h.bs z
  · rcases (h5 k hk).1 with z | z
    · exact (h.ap.oa k z).2.2
    · have := h.ap.lm; omega
  · rcases (h6 k hk).1 with z | z
    · exact (h.ap.om k z).1
    · exact Nat.le_trans h.bs z
  · rcases (h6 k hk).1 with z | z
    · exact (h.ap.om k z).2.2.1
    · have := h.ap.la; omega
end
theorem cA_rt {w : World} {X : Nat} {x : Ac} (h : BoxC w X (cA x)) (hl : x.2.1.length = 32) : w.rangeAt X 1 (ints .u8 x.2.1) := by
  have h2 := rangeAt_take (h.sub (cA_root x)) 32
  rwa [List.take_left' (by rw [ints_length, hl])] at h2
theorem chkG_le (m n : Int) (old now : List Int) (p : List (List Int)) : chkG m n old now p ≤ 20 := by
  unfold chkG
  repeat' split
  all_goals omega
theorem takeE_le (N : List Nt) (size : Int) (root : List Int) (p : List (List Int)) : takeE N size root p ≤ 20 := by
  unfold takeE
  repeat' split
  all_goals first | omega | exact chkG_le _ _ _ _ _
theorem agAll_le : ∀ (N : List Nt) (ps : List (List Int)), agAll N ps ≤ 20
  | [], _ => Nat.zero_le _
  | x :: r, ps => by
    unfold agAll
    split
    · exact agAll_le r ps
    · unfold agE
      repeat' split
      all_goals omega
end Go.Proofs.Bl

/- Walks of the model's diary: At, Agrees, Fork. -/
namespace Go.Proofs.YtmfooocdnoflaaaDoor
open Go Go.RowKit Go.Proofs

set_option maxRecDepth 100000 in
set_option maxHeartbeats 1000000 in
theorem mat_any (b : Nat) (v : Value) (N : List Bl.Nt) (k : Int) (w : World) (h : Bl.Dm w b v N) (hr : Bl.Ris N) (hl : N.length ≤ 500) :
    Calls Tryd.prog 18 #[.pointer (some ⟨b, 0, none⟩), .int .i64 k] w fun e w' => e = .returned (.tuple #[.agg (Bl.ints .u8 (Bl.atN N k)).toArray, .bool (Bl.hasN N k)]) ∧ Bl.Ext w w' := by
  obtain ⟨p, c, hvf, hvn, hvc⟩ := h.rd.rds.form
  subst hvf
  unfold maxLen at hvc
  have HRd := Bl.hid h.rd.rds
  have Hd := Bl.hid h.dig
  have Hr := Bl.hid hr
  have HF0 := Bl.hid (fam_new w 32 .u8 31 #[.int .u8 0, .int .u8 0, .int .u8 0, .int .u8 0, .int .u8 0, .int .u8 0, .int .u8 0, .int .u8 0, .int .u8 0, .int .u8 0, .int .u8 0, .int .u8 0, .int .u8 0, .int .u8 0, .int .u8 0, .int .u8 0, .int .u8 0, .int .u8 0, .int .u8 0, .int .u8 0, .int .u8 0, .int .u8 0, .int .u8 0, .int .u8 0, .int .u8 0, .int .u8 0, .int .u8 0, .int .u8 0, .int .u8 0, .int .u8 0, .int .u8 0, .int .u8 0] rfl)
  have HE0 := Bl.hid (Bl.ext_alloc w (.cells #[.int .u8 0, .int .u8 0, .int .u8 0, .int .u8 0, .int .u8 0, .int .u8 0, .int .u8 0, .int .u8 0, .int .u8 0, .int .u8 0, .int .u8 0, .int .u8 0, .int .u8 0, .int .u8 0, .int .u8 0, .int .u8 0, .int .u8 0, .int .u8 0, .int .u8 0, .int .u8 0, .int .u8 0, .int .u8 0, .int .u8 0, .int .u8 0, .int .u8 0, .int .u8 0, .int .u8 0, .int .u8 0, .int .u8 0, .int .u8 0, .int .u8 0, .int .u8 0] 31))
  have hc0 := (h.ext HE0.out).c0
  obtain ⟨n, hnn⟩ : ∃ n, n = N.length := ⟨_, rfl⟩
  have Hn := Bl.hid hnn
  rw [← hnn] at hc0 hvn hl HRd
  clear h hr hnn
  go_enter Tryd.func18, Tryd.ntmps18
  go_wp2_with fail
  obtain ⟨W0, hW0⟩ : ∃ W0, W0 = w.alloc (.cells #[.int .u8 0, .int .u8 0, .int .u8 0, .int .u8 0, .int .u8 0, .int .u8 0, .int .u8 0, .int .u8 0, .int .u8 0, .int .u8 0, .int .u8 0, .int .u8 0, .int .u8 0, .int .u8 0, .int .u8 0, .int .u8 0, .int .u8 0, .int .u8 0, .int .u8 0, .int .u8 0, .int .u8 0, .int .u8 0, .int .u8 0, .int .u8 0, .int .u8 0, .int .u8 0, .int .u8 0, .int .u8 0, .int .u8 0, .int .u8 0, .int .u8 0, .int .u8 0] 31) := ⟨_, rfl⟩
  rw [← hW0] at HF0 HE0 hc0 ⊢
  clear hW0
  go_loopw [13] (fun x wr => ∃ i : Nat, i ≤ n ∧ x = .int .i64 i ∧ Hid (∀ q, q < i → ¬ ((N.getD q Bl.n0).1 : Int) = k) ∧ Bl.Ext W0 wr) (fun x _ => n - (intOf x).toNat)
  case atStart => exact ⟨0, Nat.zero_le _, rfl, Bl.hid fun q hq => absurd hq (Nat.not_lt_zero _), Below.refl _ _⟩
  case round =>
    obtain ⟨i, hi, rfl, Hq, hE⟩ := hrel
    have HE := Bl.hid hE
    clear hE
    by_cases hlt : i < n
    · have hin : i < N.length := by rw [← Hn.out]; exact hlt
      obtain ⟨g, o, cc, hpe, hcn, hcm, hgl, hel⟩ := Bl.RdN.pos (by have h := HRd.out; rw [Hn.out] at h; exact Bl.Rds.ext h (HE0.out.trans HE.out)) Hd.out (by omega)
      injection hpe with hp1 hp2 hp3
      subst hp1 hp3
      have hrg := hel i hin
      have hxd := (Hd.out _ (Bl.getD_mem Bl.n0 hin)).1
      have Hat := Bl.hid (Bl.atN_get Hr.out hin)
      have Hhas : Hid (((N.getD i Bl.n0).1 : Int) = k → Bl.hasN N k = true) := Bl.hid fun z => Bl.hasN_iff.2 ⟨_, Bl.getD_mem Bl.n0 hin, z⟩
      obtain ⟨x, hx⟩ : ∃ x, x = N.getD i Bl.n0 := ⟨_, rfl⟩
      rw [← hx] at hrg hxd Hat Hhas
      have Hx := Bl.hid hx
      have Hxd := Bl.hid hxd
      have Hld := Bl.hid (run_loadAt_mid (P := Tryd.prog) wr g (o + i * 33) 78 _ _ hrg Tryd.underlying78 rfl (by rw [Bl.cN_len hxd]; kernel_rfl))
      obtain ⟨HB6, HE6⟩ := Bl.BoxC.fresh (cs := Bl.cN x) wr 78 #[.int .i64 0, .int .u8 0, .int .u8 0, .int .u8 0, .int .u8 0, .int .u8 0, .int .u8 0, .int .u8 0, .int .u8 0, .int .u8 0, .int .u8 0, .int .u8 0, .int .u8 0, .int .u8 0, .int .u8 0, .int .u8 0, .int .u8 0, .int .u8 0, .int .u8 0, .int .u8 0, .int .u8 0, .int .u8 0, .int .u8 0, .int .u8 0, .int .u8 0, .int .u8 0, .int .u8 0, .int .u8 0, .int .u8 0, .int .u8 0, .int .u8 0, .int .u8 0, .int .u8 0] (by rw [Bl.cN_len hxd]; rfl) (Bl.cN_ne x)
      have Hst := Bl.hid (Bl.fresh_store (P := Tryd.prog) (cs := Bl.cN x) wr 78 #[.int .i64 0, .int .u8 0, .int .u8 0, .int .u8 0, .int .u8 0, .int .u8 0, .int .u8 0, .int .u8 0, .int .u8 0, .int .u8 0, .int .u8 0, .int .u8 0, .int .u8 0, .int .u8 0, .int .u8 0, .int .u8 0, .int .u8 0, .int .u8 0, .int .u8 0, .int .u8 0, .int .u8 0, .int .u8 0, .int .u8 0, .int .u8 0, .int .u8 0, .int .u8 0, .int .u8 0, .int .u8 0, .int .u8 0, .int .u8 0, .int .u8 0, .int .u8 0, .int .u8 0] (by rw [Bl.cN_len hxd]; rfl) (Bl.cN_one x) (ty := 78) (by rw [Bl.cN_len hxd]; kernel_rfl))
      have hq6 := HB6.cell (Bl.cN_size x)
      have Hr6 := Bl.hid (HB6.sub (Bl.cN_root x))
      replace HE6 := Bl.hid (HE.out.trans HE6)
      have hi0 : (0 : Int) ≤ (i : Int) := by omega
      have hi1 : (i : Int) < (n : Int) := by omega
      clear hel hrg hxd hx HB6 hp2 hcn hcm hin
      go_wp2_with (with_reducible refine Bl.stop_load (ty := 78) ?_)
      refine Bl.go_on ?_
      refine Bl.wpL_load rfl Hld.out ?_
      go_wp2_with (with_reducible refine Bl.stop_store (ty := 78) ?_)
      refine Bl.go_on ?_
      refine Bl.wpL_store0 rfl rfl Hst.out ?_
      generalize (wr.alloc (.cells #[.int .i64 0, .int .u8 0, .int .u8 0, .int .u8 0, .int .u8 0, .int .u8 0, .int .u8 0, .int .u8 0, .int .u8 0, .int .u8 0, .int .u8 0, .int .u8 0, .int .u8 0, .int .u8 0, .int .u8 0, .int .u8 0, .int .u8 0, .int .u8 0, .int .u8 0, .int .u8 0, .int .u8 0, .int .u8 0, .int .u8 0, .int .u8 0, .int .u8 0, .int .u8 0, .int .u8 0, .int .u8 0, .int .u8 0, .int .u8 0, .int .u8 0, .int .u8 0, .int .u8 0] 78)).setCells wr.heap.size 0 (Bl.cN x) = W6 at *
      generalize wr.heap.size = X6 at *
      clear Hst Hld
      by_cases hk : (x.1 : Int) = k
      · obtain ⟨U, hU⟩ : ∃ U, U = x.2 := ⟨_, rfl⟩
        have HU : Hid (U.length = 32) := Bl.hid (by rw [hU]; exact Hxd.out)
        have Hv : Hid (U = Bl.atN N k) := Bl.hid (by rw [hU, ← hk]; exact Hat.out.symm)
        have Hh := Bl.hid (Hhas.out hk)
        rw [← hU] at Hr6
        clear hU
        go_wp2_with (with_reducible refine Bl.stop_load (ty := 31) ?_)
        refine Bl.go_on ?_
        refine Bl.wpL_load rfl (Bl.load_ints Hr6.out Tryd.underlying31 (by kernel_rfl) HU.out) ?_
        have HFc := Bl.hid (HF0.out.below HE6.out (World.block_lt_of_cell? _ _ (HF0.out.1 0 (by decide))))
        have Hstc := Bl.hid (Bl.store_ints (P := Tryd.prog) (k := .u8) (ty := 31) (l := U) HFc.out.there (by kernel_rfl) HU.out)
        go_wp2_with (((with_reducible refine Bl.wpL_store ?_ ?_ Hstc.out ?_); rfl; rfl))
        have hinc := World.rangeAt_setCells_same _ (w.heap.size) 0 (Bl.ints .u8 U) (by rw [Bl.ints_length, HU.out]; exact HFc.out.there)
        have hldc := run_loadVar_mid (P := Tryd.prog) _ (w.heap.size) 0 31 (Bl.ints .u8 U) _ hinc Tryd.underlying31 rfl (by rw [Bl.ints_length, HU.out]; kernel_rfl)
        refine bodyPost_ret (v := .tuple #[.agg (Bl.ints .u8 U).toArray, .bool true]) (Bl.results_cell2 rfl rfl hldc rfl) rfl ⟨by rw [Hv.out, Hh.out], Bl.below_setCells _ _ _ _ (HE0.out.trans HE6.out) (Nat.le_refl _)⟩
      · go_wp2_with fail
        go_roundw
        case rel => exact ⟨i + 1, by omega, by go_num, Bl.hid fun q hq => by
          rcases Nat.lt_succ_iff_lt_or_eq.1 hq with g | g
          · exact Hq.out q g
          · subst g; rw [← Hx.out]; exact hk, HE6.out⟩
        case measure => simp [intOf]; omega
    · obtain rfl : i = n := by omega
      have Hh : Hid (Bl.hasN N k = false) := Bl.hid (by
        rw [Bool.eq_false_iff]
        intro q
        obtain ⟨y, hy, he⟩ := Bl.hasN_iff.1 q
        obtain ⟨r, hrl, rfl⟩ := List.getElem_of_mem hy
        have := Hq.out r (by rw [Hn.out]; exact hrl)
        rw [List.getD_eq_getElem?_getD, List.getElem?_eq_getElem hrl] at this
        exact this he)
      have Hv : Hid (Bl.zs32 = Bl.atN N k) := Bl.hid (Bl.atN_no Hh.out).symm
      have Hzl : Hid (Bl.zs32.length = 32) := Bl.hid rfl
      have HFc := Bl.hid (HF0.out.below HE.out (World.block_lt_of_cell? _ _ (HF0.out.1 0 (by decide))))
      have Hst := Bl.hid (Bl.store_ints (P := Tryd.prog) (k := .u8) (ty := 31) (l := Bl.zs32) HFc.out.there (by kernel_rfl) Hzl.out)
      have hinc := World.rangeAt_setCells_same wr w.heap.size 0 (Bl.ints .u8 Bl.zs32) (by rw [Bl.ints_length, Hzl.out]; exact HFc.out.there)
      have hldc := Bl.hid (run_loadVar_mid (P := Tryd.prog) _ w.heap.size 0 31 (Bl.ints .u8 Bl.zs32) _ hinc Tryd.underlying31 rfl (by rw [Bl.ints_length, Hzl.out]; kernel_rfl))
      clear hinc
      go_wp2_with (with_reducible refine Bl.stop_store (ty := 31) ?_)
      refine Bl.go_on ?_
      refine Bl.wpL_store0 rfl rfl Hst.out ?_
      go_wp2_with fail
      refine bodyPost_ret (v := .tuple #[.agg (Bl.ints .u8 Bl.zs32).toArray, .bool false]) (Bl.results_cell2 rfl rfl hldc.out rfl) rfl ⟨by rw [Hv.out, Hh.out], Bl.below_setCells _ _ _ _ (HE0.out.trans HE.out) (Nat.le_refl _)⟩
end Go.Proofs.YtmfooocdnoflaaaDoor

/- Walks of the model's diary: Agrees, Fork. -/
namespace Go.Proofs.Bl
open Go Go.RowKit
/-- the least size of which both have a note, and not the same -/
def bad2 (A B : List Nt) (s : Int) : Prop := hasN A s = true ∧ hasN B s = true ∧ ¬ atN A s = atN B s
theorem fork_least {A B : List Nt} (hA : Ris A) {s : Nat} (hs : bad2 A B s) (h : ∀ t : Nat, 1 ≤ t → t < s → ¬ bad2 A B t) : forkS A B = s ∧ forkB A B = true := by
  obtain ⟨h1, h2, h3⟩ := hs
  obtain ⟨y, hy, he⟩ := hasN_iff.1 h1
  obtain ⟨i, hi, rfl⟩ := List.getElem_of_mem hy
  have e : A.getD i n0 = A[i] := by rw [List.getD_eq_getElem?_getD, List.getElem?_eq_getElem hi]; rfl
  have hat := atN_get hA hi
  rw [e, he] at hat
  have hf : forkF A B = some (A.getD i n0) := by
    refine fork_at hi (fun q hq => ?_) ?_
    · have hqA : q < A.length := by omega
      have hlt := hA.lt hq hi
      rw [e] at hlt
      have h4 := h (A.getD q n0).1 (hA.rg _ (getD_mem n0 hqA)).1 (by omega)
      have hatq := atN_get hA hqA
      unfold partB
      cases hb : hasN B ((A.getD q n0).1 : Int) with
      | false => rfl
      | true =>
        have : atN B ((A.getD q n0).1 : Int) = (A.getD q n0).2 := by
          by_cases z : atN B ((A.getD q n0).1 : Int) = (A.getD q n0).2
          · exact z
          · exact absurd ⟨hasN_iff.2 ⟨_, getD_mem n0 hqA, rfl⟩, hb, fun y => z (by rw [← y, hatq])⟩ h4
        rw [decide_eq_false (fun z => z this)]; rfl
    · unfold partB
      rw [e, he, h2, ← hat]
      simp only [Bool.true_and, decide_eq_true_eq]
      exact fun z => h3 z.symm
  unfold forkS forkB
  rw [hf, e]
  refine ⟨?_, rfl⟩
  show A[i].1 = s
  omega
theorem fork_none {A B : List Nt} (hA : Ris A) (h : ∀ t : Nat, 1 ≤ t → t ≤ 512 → ¬ bad2 A B t) : forkS A B = 0 ∧ forkB A B = false := by
  have hf : forkF A B = none := fork_no fun q hq => by
    have hr := hA.rg _ (getD_mem n0 hq)
    have h4 := h (A.getD q n0).1 hr.1 hr.2
    have hatq := atN_get hA hq
    unfold partB
    cases hb : hasN B ((A.getD q n0).1 : Int) with
    | false => rfl
    | true =>
      have : atN B ((A.getD q n0).1 : Int) = (A.getD q n0).2 := by
        by_cases z : atN B ((A.getD q n0).1 : Int) = (A.getD q n0).2
        · exact z
        · exact absurd ⟨hasN_iff.2 ⟨_, getD_mem n0 hq, rfl⟩, hb, fun y => z (by rw [← y, hatq])⟩ h4
      rw [decide_eq_false (fun z => z this)]; rfl
  unfold forkS forkB
  rw [hf]
  exact ⟨rfl, rfl⟩
end Go.Proofs.Bl
namespace Go.Proofs.YtmfooocdnoflaaaDoor
open Go Go.RowKit Go.Proofs

set_option maxRecDepth 100000 in
set_option maxHeartbeats 1000000 in
theorem mfork_any (ba bb : Nat) (va vb : Value) (A B : List Bl.Nt) (w : World) (hA : Bl.Dm w ba va A) (hB : Bl.Dm w bb vb B) (rA : Bl.Ris A) (rB : Bl.Ris B) (la : A.length ≤ 500) (lb : B.length ≤ 500) :
    Calls Tryd.prog 28 #[.pointer (some ⟨ba, 0, none⟩), .pointer (some ⟨bb, 0, none⟩)] w fun e w' => e = .returned (.tuple #[.int .i64 (Bl.forkS A B : Nat), .bool (Bl.forkB A B)]) ∧ Bl.Ext w w' := by
  have HAa := Bl.hid (fun (k : Int) w2 (h2 : Bl.Ext w w2) => mat_any ba va A k w2 (hA.ext h2) rA la)
  have HAb := Bl.hid (fun (k : Int) w2 (h2 : Bl.Ext w w2) => mat_any bb vb B k w2 (hB.ext h2) rB lb)
  have HUa := Bl.hid (fun k => Bl.atN_len hA.dig k)
  have HUb := Bl.hid (fun k => Bl.atN_len hB.dig k)
  have HFl := Bl.hid (fun s hs => @Bl.fork_least A B rA s hs)
  have HFn := Bl.hid (@Bl.fork_none A B rA)
  clear hA hB rA rB la lb
  go_enter Tryd.func28, Tryd.ntmps28
  go_wp2_with fail
  go_loopw [6] (fun x wr => ∃ s : Nat, 1 ≤ s ∧ s ≤ 513 ∧ x = .int .i64 s ∧ Hid (∀ t : Nat, 1 ≤ t → t < s → ¬ Bl.bad2 A B t) ∧ Bl.Ext w wr) (fun x _ => 513 - (intOf x).toNat)
  case atStart => exact ⟨1, Nat.le_refl _, by omega, by go_num, Bl.hid fun t h1 h2 => by omega, Below.refl _ _⟩
  case round =>
    obtain ⟨s, hs1, hs2, rfl, Hq, hE⟩ := hrel
    have HE := Bl.hid hE
    clear hE
    by_cases hlt : s ≤ 512
    · have hlt2 : (s : Int) ≤ 512 := by omega
      have hsw := IntWalk.wrap64_in ((s : Int) + 1) ⟨by omega, by omega⟩
      go_wp2_with fail
      refine (HAa.out (s : Int) wr HE.out).mono ?_
      rintro e w5 ⟨rfl, hE5⟩
      have HE5 := Bl.hid (HE.out.trans hE5)
      have HU := Bl.hid (HUa.out (s : Int))
      have HU2 := Bl.hid (HUb.out (s : Int))
      have Hb2 : Hid (Bl.bad2 A B s ↔ (Bl.hasN A s = true ∧ Bl.hasN B s = true ∧ ¬ Bl.atN A s = Bl.atN B s)) := Bl.hid Iff.rfl
      obtain ⟨U, hU⟩ : ∃ U, U = Bl.atN A s := ⟨_, rfl⟩
      obtain ⟨V, hV⟩ : ∃ V, V = Bl.atN B s := ⟨_, rfl⟩
      obtain ⟨ha, hha⟩ : ∃ ha, ha = Bl.hasN A s := ⟨_, rfl⟩
      obtain ⟨hb, hhb⟩ : ∃ hb, hb = Bl.hasN B s := ⟨_, rfl⟩
      have HAbs := Bl.hid (HAb.out (s : Int))
      rw [← hU] at HU Hb2 ⊢
      rw [← hV] at HU2 Hb2 HAbs
      rw [← hha] at Hb2 ⊢
      rw [← hhb] at Hb2 HAbs
      obtain ⟨HB7, HE7⟩ := Bl.BoxC.fresh (cs := Bl.ints .u8 U) w5 31 #[.int .u8 0, .int .u8 0, .int .u8 0, .int .u8 0, .int .u8 0, .int .u8 0, .int .u8 0, .int .u8 0, .int .u8 0, .int .u8 0, .int .u8 0, .int .u8 0, .int .u8 0, .int .u8 0, .int .u8 0, .int .u8 0, .int .u8 0, .int .u8 0, .int .u8 0, .int .u8 0, .int .u8 0, .int .u8 0, .int .u8 0, .int .u8 0, .int .u8 0, .int .u8 0, .int .u8 0, .int .u8 0, .int .u8 0, .int .u8 0, .int .u8 0, .int .u8 0] (by rw [Bl.ints_length, HU.out]; rfl) (by intro q; have := congrArg List.length q; rw [Bl.ints_length, HU.out] at this; cases this)
      have Hst := Bl.hid (Bl.fresh_store (P := Tryd.prog) (cs := Bl.ints .u8 U) w5 31 #[.int .u8 0, .int .u8 0, .int .u8 0, .int .u8 0, .int .u8 0, .int .u8 0, .int .u8 0, .int .u8 0, .int .u8 0, .int .u8 0, .int .u8 0, .int .u8 0, .int .u8 0, .int .u8 0, .int .u8 0, .int .u8 0, .int .u8 0, .int .u8 0, .int .u8 0, .int .u8 0, .int .u8 0, .int .u8 0, .int .u8 0, .int .u8 0, .int .u8 0, .int .u8 0, .int .u8 0, .int .u8 0, .int .u8 0, .int .u8 0, .int .u8 0, .int .u8 0] (by rw [Bl.ints_length, HU.out]; rfl) (Bl.ints_one _ _) (ty := 31) (by rw [Bl.ints_length, HU.out]; kernel_rfl))
      replace HB7 := Bl.hid HB7
      replace HE7 := Bl.hid (HE5.out.trans HE7)
      clear hE5 HE5 hU hV hha hhb
      go_wp2_with (with_reducible refine Bl.stop_store (ty := 31) ?_)
      refine Bl.go_on ?_
      refine Bl.wpL_store0 rfl rfl Hst.out ?_
      generalize (w5.alloc (.cells #[.int .u8 0, .int .u8 0, .int .u8 0, .int .u8 0, .int .u8 0, .int .u8 0, .int .u8 0, .int .u8 0, .int .u8 0, .int .u8 0, .int .u8 0, .int .u8 0, .int .u8 0, .int .u8 0, .int .u8 0, .int .u8 0, .int .u8 0, .int .u8 0, .int .u8 0, .int .u8 0, .int .u8 0, .int .u8 0, .int .u8 0, .int .u8 0, .int .u8 0, .int .u8 0, .int .u8 0, .int .u8 0, .int .u8 0, .int .u8 0, .int .u8 0, .int .u8 0] 31)).setCells w5.heap.size 0 (Bl.ints .u8 U) = W7 at *
      generalize w5.heap.size = X7 at *
      clear Hst
      go_wp2_with fail
      refine (HAbs.out W7 HE7.out).mono ?_
      rintro e w8 ⟨rfl, hE8⟩
      have HE8 := Bl.hid (HE7.out.trans hE8)
      have HB78 := Bl.hid (HB7.out.ext hE8)
      obtain ⟨HB9, HE9⟩ := Bl.BoxC.fresh (cs := Bl.ints .u8 V) w8 31 #[.int .u8 0, .int .u8 0, .int .u8 0, .int .u8 0, .int .u8 0, .int .u8 0, .int .u8 0, .int .u8 0, .int .u8 0, .int .u8 0, .int .u8 0, .int .u8 0, .int .u8 0, .int .u8 0, .int .u8 0, .int .u8 0, .int .u8 0, .int .u8 0, .int .u8 0, .int .u8 0, .int .u8 0, .int .u8 0, .int .u8 0, .int .u8 0, .int .u8 0, .int .u8 0, .int .u8 0, .int .u8 0, .int .u8 0, .int .u8 0, .int .u8 0, .int .u8 0] (by rw [Bl.ints_length, HU2.out]; rfl) (by intro q; have := congrArg List.length q; rw [Bl.ints_length, HU2.out] at this; cases this)
      have Hst := Bl.hid (Bl.fresh_store (P := Tryd.prog) (cs := Bl.ints .u8 V) w8 31 #[.int .u8 0, .int .u8 0, .int .u8 0, .int .u8 0, .int .u8 0, .int .u8 0, .int .u8 0, .int .u8 0, .int .u8 0, .int .u8 0, .int .u8 0, .int .u8 0, .int .u8 0, .int .u8 0, .int .u8 0, .int .u8 0, .int .u8 0, .int .u8 0, .int .u8 0, .int .u8 0, .int .u8 0, .int .u8 0, .int .u8 0, .int .u8 0, .int .u8 0, .int .u8 0, .int .u8 0, .int .u8 0, .int .u8 0, .int .u8 0, .int .u8 0, .int .u8 0] (by rw [Bl.ints_length, HU2.out]; rfl) (Bl.ints_one _ _) (ty := 31) (by rw [Bl.ints_length, HU2.out]; kernel_rfl))
      have HB79 := Bl.hid (HB78.out.ext HE9)
      replace HB9 := Bl.hid HB9
      replace HE9 := Bl.hid (HE8.out.trans HE9)
      clear hE8 HE8 HE7 HB7 HB78 HAbs
      go_wp2_with (with_reducible refine Bl.stop_store (ty := 31) ?_)
      refine Bl.go_on ?_
      refine Bl.wpL_store0 rfl rfl Hst.out ?_
      generalize (w8.alloc (.cells #[.int .u8 0, .int .u8 0, .int .u8 0, .int .u8 0, .int .u8 0, .int .u8 0, .int .u8 0, .int .u8 0, .int .u8 0, .int .u8 0, .int .u8 0, .int .u8 0, .int .u8 0, .int .u8 0, .int .u8 0, .int .u8 0, .int .u8 0, .int .u8 0, .int .u8 0, .int .u8 0, .int .u8 0, .int .u8 0, .int .u8 0, .int .u8 0, .int .u8 0, .int .u8 0, .int .u8 0, .int .u8 0, .int .u8 0, .int .u8 0, .int .u8 0, .int .u8 0] 31)).setCells w8.heap.size 0 (Bl.ints .u8 V) = W9 at *
      generalize w8.heap.size = X9 at *
      clear Hst
      cases ha with
      | false =>
        have Hn : Hid (¬ Bl.bad2 A B s) := Bl.hid fun z => by have := (Hb2.out.1 z).1; cases this
        go_wp2_with fail
        go_roundw
        case rel => exact ⟨s + 1, by omega, by omega, by go_num, Bl.hid fun t h1 h2 => by
          rcases Nat.lt_succ_iff_lt_or_eq.1 h2 with g | g
          · exact Hq.out t h1 g
          · subst g; exact Hn.out, HE9.out⟩
        case measure => simp [intOf]; omega
      | true =>
        cases hb with
        | false =>
          have Hn : Hid (¬ Bl.bad2 A B s) := Bl.hid fun z => by have := (Hb2.out.1 z).2.1; cases this
          go_wp2_with fail
          go_roundw
          case rel => exact ⟨s + 1, by omega, by omega, by go_num, Bl.hid fun t h1 h2 => by
            rcases Nat.lt_succ_iff_lt_or_eq.1 h2 with g | g
            · exact Hq.out t h1 g
            · subst g; exact Hn.out, HE9.out⟩
          case measure => simp [intOf]; omega
        | true =>
          have Hl7 := Bl.hid (Bl.load_ints (P := Tryd.prog) (ty := 31) HB79.out.rg Tryd.underlying31 (by kernel_rfl) HU.out)
          have Hl9 := Bl.hid (Bl.load_ints (P := Tryd.prog) (ty := 31) HB9.out.rg Tryd.underlying31 (by kernel_rfl) HU2.out)
          have heqd : ∀ w, (Op.equalIn 10000 31 (.agg (Bl.ints .u8 U).toArray) (.agg (Bl.ints .u8 V).toArray)).run Tryd.prog w = .ok (decide (U = V)) w := fun w =>
            Bl.eq10k Tryd.underlying31 Tryd.underlying5 (fun w => by simp [go_sem]) U V HU.out HU2.out w
          by_cases huv : U = V
          · have heq : ∀ w, (Op.equalIn 10000 31 (.agg (Bl.ints .u8 U).toArray) (.agg (Bl.ints .u8 V).toArray)).run Tryd.prog w = .ok true w := fun w => by rw [heqd w, decide_eq_true huv]
            have Hn : Hid (¬ Bl.bad2 A B s) := Bl.hid fun z => (Hb2.out.1 z).2.2 huv
            clear huv heqd
            go_wp2_with (with_reducible refine Bl.stop_loadg (ty := 31) ?_)
            refine Bl.go_on ?_
            refine Bl.wpL_loadg rfl rfl Hl7.out ?_
            go_wp2_with (with_reducible refine Bl.stop_loadg (ty := 31) ?_)
            refine Bl.go_on ?_
            refine Bl.wpL_loadg rfl rfl Hl9.out ?_
            go_wp2_with fail
            go_roundw
            case rel => exact ⟨s + 1, by omega, by omega, by go_num, Bl.hid fun t h1 h2 => by
              rcases Nat.lt_succ_iff_lt_or_eq.1 h2 with g | g
              · exact Hq.out t h1 g
              · subst g; exact Hn.out, HE9.out⟩
            case measure => simp [intOf]; omega
          · have heq : ∀ w, (Op.equalIn 10000 31 (.agg (Bl.ints .u8 U).toArray) (.agg (Bl.ints .u8 V).toArray)).run Tryd.prog w = .ok false w := fun w => by rw [heqd w, decide_eq_false huv]
            have Hf := Bl.hid (HFl.out s (Hb2.out.2 ⟨rfl, rfl, huv⟩) Hq.out)
            clear huv heqd
            go_wp2_with (with_reducible refine Bl.stop_loadg (ty := 31) ?_)
            refine Bl.go_on ?_
            refine Bl.wpL_loadg rfl rfl Hl7.out ?_
            go_wp2_with (with_reducible refine Bl.stop_loadg (ty := 31) ?_)
            refine Bl.go_on ?_
            refine Bl.wpL_loadg rfl rfl Hl9.out ?_
            go_wp2_with fail
            exact bodyPost_ret (v := .tuple #[.int .i64 (s : Int), .bool true]) (Bl.results_tmp2 rfl rfl rfl) rfl ⟨by rw [Hf.out.1, Hf.out.2], HE9.out⟩
    · have Hf := Bl.hid (HFn.out (fun t h1 h2 => Hq.out t h1 (by omega)))
      have hlt2 : ¬ ((s : Int) ≤ 512) := by omega
      go_wp2_with fail
      exact bodyPost_ret (v := .tuple #[.int .i64 0, .bool false]) (Bl.results_tmp2 rfl rfl rfl) rfl ⟨by rw [Hf.out.1, Hf.out.2]; rfl, HE.out⟩
end Go.Proofs.YtmfooocdnoflaaaDoor

/- Walk of the model's Take. -/
namespace Go.Proofs.Bl
open Go Go.RowKit
theorem small500 (m : Nat) (h : m ≤ 500) : wrap64 (m : Int) = (m : Int) ∧ IntKind.i64.wrap (m : Int) = (m : Int) ∧ ((m : Int) + 1 == 0) = false ∧ (0 : Int) ≤ (m : Int) ∧ (m : Int) < (m : Int) + 1 :=
  ⟨IntWalk.wrap64_in (m : Int) ⟨by omega, by omega⟩, IntWalk.i64_in _ (by omega), by rw [beq_eq_false_iff_ne]; omega, by omega, by omega⟩
theorem set_size (w : World) (a : Addr) (v : Value) : w.heap.size ≤ (w.setCell a v).heap.size := ((Below.refl 0 w).setCell (Nat.zero_le _) _).size
theorem Dm.of {w : World} {b : Nat} {v v0 : Value} {N : List Nt} {B : Nat} (h0 : w.cell? ⟨b, 0, none⟩ = some v0) (hf : w.frozen? ⟨b, 0, none⟩ = false) (hp : Pk w B 33 v N.length (cellsR cN N)) (hb : b < B) (hd : DgN N) : Dm (w.setCell ⟨b, 0, none⟩ v) b v N := by
  refine ⟨World.cell?_setCell_same' _ _ _ (by rw [h0]; rfl), by rw [World.frozen?_setCell]; exact hf, ?_, hd⟩
  refine RdsX.set ?_ 0 v
  rcases hp with ⟨h1, h2, h3⟩ | ⟨g, cap, h1, hg, hq⟩
  · exact .inl ⟨h1, h2, h3⟩
  · exact .inr ⟨g, 0, cap, h1, hq.le, hq.mx, by omega, hq.rg⟩
theorem Adds.set {w w' : World} {b : Nat} {v : Value} (h : Below w.heap.size w w') (_hb : b < w.heap.size) : Adds w (w'.setCell ⟨b, 0, none⟩ v) b none :=
  ⟨h.os, h.tape, h.output, Nat.le_trans h.size ((Below.refl 0 w').setCell (Nat.zero_le _) _).size, fun k hk hkb _ => (Below.heap_setCell w' ⟨b, 0, none⟩ _ k hkb).trans (h.block k hk)⟩
end Go.Proofs.Bl
namespace Go.Proofs.YtmfooocdnoflaaaDoor
open Go Go.RowKit Go.Proofs

theorem buildMote (size : Int) (root : List Int) (h : root.length = 32) (w : World) : (Instr.build 78 #[(0, .int .i64 size), (1, .agg (Bl.ints .u8 root).toArray)]).run Tryd.prog w = .ok (.agg (Bl.cZ size root).toArray) w := by
  obtain ⟨a0, a1, a2, a3, a4, a5, a6, a7, a8, a9, a10, a11, a12, a13, a14, a15, a16, a17, a18, a19, a20, a21, a22, a23, a24, a25, a26, a27, a28, a29, a30, a31, rfl⟩ := Bl.list32 root h
  exact run_build w _ _ _ (by kernel_rfl)

set_option maxRecDepth 100000 in
set_option maxHeartbeats 20000000 in
theorem mtake_any (b : Nat) (v : Value) (N : List Bl.Nt) (size : Int) (root : List Int) (vp : Value) (p : List (List Int)) (w : World) (h : Bl.Dm w b v N) (hl : N.length ≤ 500) (hro : root.length = 32 ∧ Bl.Byt root) (hp : Bl.RdD w vp p) (hdp : Bl.Dig p) (hg : GlobR w) :
    Calls Tryd.prog 15 #[.pointer (some ⟨b, 0, none⟩), .int .i64 size, .agg (Bl.ints .u8 root).toArray, vp] w fun e w' => e = .returned (.int .i64 (Bl.takeE N size root p : Nat)) ∧ (∃ v', Bl.Dm w' b v' (Bl.takeN N size root p) ∧ ∀ k, v'.ownBlock = some k → v.ownBlock = some k ∨ (w.heap.size ≤ k ∧ k < w'.heap.size)) ∧ Bl.Adds w w' b none := by
  obtain ⟨pp, cp, hvf, hvn, hvc⟩ := hp.form
  subst hvf
  obtain ⟨pN, cN', hNf, hNn, hNc⟩ := h.rd.rds.form
  subst hNf
  unfold maxLen at hvc hNc
  have HD := Bl.hid h
  have Hro := Bl.hid hro
  have HP := Bl.hid hp
  have Hdp := Bl.hid hdp
  have Hg := Bl.hid hg
  have HB6 := Bl.hid (Bl.BoxC.box w 31 (cs := Bl.ints .u8 root) (by intro q; have := congrArg List.length q; rw [Bl.ints_length, hro.1] at this; cases this))
  have HE1 := Bl.hid (Bl.ext_alloc w (.cells (Bl.ints .u8 root).toArray 31))
  have hsz : (Bl.ints .u8 root).toArray.size = 32 := by simp [hro.1]
  have Hbd := Bl.hid (buildMote size root hro.1)
  have hc0 := (h.ext HE1.out).c0
  obtain ⟨pl, hpl⟩ : ∃ pl, pl = p.length := ⟨_, rfl⟩
  have Hpl := Bl.hid hpl
  obtain ⟨n, hn⟩ : ∃ n, n = N.length := ⟨_, rfl⟩
  have Hn := Bl.hid hn
  rw [← hpl] at HP hvn ⊢
  rw [← hn] at HD hNn hc0 hl ⊢
  clear h hro hp hdp hg hpl hn
  go_enter Tryd.func15, Tryd.ntmps15
  by_cases hr1 : size < 1
  · have Hv := Bl.hid (Bl.takeE_r1 (N := N) (root := root) (p := p) (.inl hr1))
    have HT2 : Hid (Bl.takeN N size root p = N) := Bl.hid (by unfold Bl.takeN; rw [Hv.out]; rfl)
    go_wp2_with fail
    go_ret
    exact ⟨by rw [Hv.out]; rfl, ⟨.slice pN n cN', by rw [HT2.out]; exact HD.out.ext HE1.out, fun k hk => .inl hk⟩, Bl.Adds.of_ext HE1.out⟩
  by_cases hr2 : 512 < size
  · have Hv := Bl.hid (Bl.takeE_r1 (N := N) (root := root) (p := p) (.inr hr2))
    have HT2 : Hid (Bl.takeN N size root p = N) := Bl.hid (by unfold Bl.takeN; rw [Hv.out]; rfl)
    go_wp2_with fail
    go_ret
    exact ⟨by rw [Hv.out]; rfl, ⟨.slice pN n cN', by rw [HT2.out]; exact HD.out.ext HE1.out, fun k hk => .inl hk⟩, Bl.Adds.of_ext HE1.out⟩
  have hrr : ¬ (size < 1 ∨ 512 < size) := fun q => q.elim hr1 hr2
  obtain ⟨W1, hW1⟩ : ∃ W1, W1 = w.alloc (.cells (Bl.ints .u8 root).toArray 31) := ⟨_, rfl⟩
  have Hl6 := Bl.hid (Bl.load_ints (P := Tryd.prog) (ty := 31) HB6.out.rg Tryd.underlying31 (by kernel_rfl) Hro.out.1)
  obtain ⟨nc, hnc⟩ : ∃ nc, nc = Bl.cZ size root := ⟨_, rfl⟩
  have Hnl : Hid (nc.length = 33) := Bl.hid (by rw [hnc, Bl.cZ_len Hro.out.1])
  have Hn1 : Hid (∀ c ∈ nc, c.oneCell' = true) := Bl.hid (by rw [hnc]; exact Bl.cZ_one size root)
  have Hne : Hid (nc ≠ []) := Bl.hid (by rw [hnc]; exact Bl.cZ_ne size root)
  have Hnc := Bl.hid hnc
  have HcN : Hid (Bl.cN (size.toNat, root) = nc) := Bl.hid (by rw [hnc, Bl.cZ_cN root (by omega)])
  rw [← hnc] at Hbd
  have HBl := Bl.hid HD.out.lt
  clear hnc
  by_cases hn0 : n = 0
  · have hN : N = [] := List.length_eq_zero_iff.1 (by rw [← Hn.out]; exact hn0)
    have hT := Bl.takeE_nil (root := root) (p := p) hrr (by rw [← Hn.out]; exact hn0 : N.length = 0)
    subst hn0
    have HN := Bl.hid hN
    clear hN
    by_cases hpz : pl = 0
    · have Hv : Hid (Bl.takeE N size root p = 0) := Bl.hid (by rw [hT, ← Hpl.out, if_pos hpz])
      have HT2 : Hid (Bl.takeN N size root p = [(size.toNat, root)]) := Bl.hid (by
        unfold Bl.takeN
        rw [Hv.out, HN.out, if_pos ⟨rfl, by rw [Bl.lastN_nil]; show (0 : Int) < size; omega⟩]; rfl)
      subst hpz
      clear hT hrr
      go_wp2_with (with_reducible refine Bl.stop_load (ty := 31) ?_)
      refine Bl.go_on ?_
      refine Bl.wpL_load rfl Hl6.out ?_
      rw [← hW1] at HE1 Hl6 hc0 ⊢
      go_wp2_with (with_reducible refine Bl.stop_buildS (ty := 78) ?_)
      refine Bl.go_on ?_
      refine Bl.wpL_build2 rfl rfl (Hbd.out _) ?_
      go_wp2_with (with_reducible refine Bl.stop_build (ty := 28) ?_)
      refine Bl.go_on ?_
      refine Bl.wpL_build1 tMote (by decide) rfl (by simp [Hnl.out]) ?_
      have HE2 : Hid (Bl.Ext w (W1.alloc (.cells nc.toArray 78))) := Bl.hid (HE1.out.trans (Bl.ext_alloc _ _))
      have hD2 := HD.out.ext HE2.out
      have hq0 := hD2.c0
      have hqf := hD2.f0
      have Hpk : Hid (Bl.Pk (W1.alloc (.cells nc.toArray 78)) w.heap.size 33 (.slice (some ⟨W1.heap.size, 0, none⟩) 1 1) 1 (Bl.cellsR Bl.cN [(size.toNat, root)])) := Bl.hid (by
        have h := Bl.Pk.of_owns (Bl.owns_new W1 78 nc.toArray w.heap.size 1 33 HE1.out.size (by decide) (by simp [Hnl.out]))
        rw [Bl.cellsR_one, HcN.out]
        simpa using h)
      obtain ⟨W2, hW2⟩ : ∃ W2, W2 = W1.alloc (.cells nc.toArray 78) := ⟨_, rfl⟩
      obtain ⟨X2, hX2⟩ : ∃ X2, X2 = W1.heap.size := ⟨_, rfl⟩
      rw [← hW2] at HE2 hq0 hqf Hpk ⊢
      rw [← hX2] at Hpk ⊢
      clear hW2 hX2 hD2 hc0
      go_wp2_with fail
      go_ret
      have Hdg : Hid (Bl.DgN [(size.toNat, root)]) := Bl.hid (by
        have h := Bl.DgN.nil.snoc (x := (size.toNat, root)) Hro.out
        exact h)
      exact ⟨by rw [Hv.out]; rfl, ⟨_, by rw [HT2.out]; exact Bl.Dm.of hq0 hqf Hpk.out HBl.out Hdg.out, fun k hk => .inr ⟨(Hpk.out.block k hk).1, Nat.lt_of_lt_of_le (Hpk.out.block k hk).2 (Bl.set_size _ _ _)⟩⟩, Bl.Adds.set HE2.out HBl.out⟩
    · have Hv : Hid (Bl.takeE N size root p = 8) := Bl.hid (by rw [hT, ← Hpl.out, if_neg hpz])
      have HT2 : Hid (Bl.takeN N size root p = N) := Bl.hid (by unfold Bl.takeN; rw [Hv.out]; rfl)
      have hp0 : ((pl : Int) == 0) = false := by rw [beq_eq_false_iff_ne]; omega
      clear hT hrr hpz
      go_wp2_with fail
      go_ret
      exact ⟨by rw [Hv.out]; rfl, ⟨.slice pN 0 cN', by rw [HT2.out]; exact HD.out.ext HE1.out, fun k hk => .inl hk⟩, Bl.Adds.of_ext HE1.out⟩
  · have hnN : ¬ N.length = 0 := by rw [← Hn.out]; exact hn0
    obtain ⟨m, rfl⟩ : ∃ m, n = m + 1 := ⟨n - 1, by omega⟩
    obtain ⟨g, o, cc, hpe, hcn, hcm, hgl, hel⟩ := Bl.RdN.pos (by have h := HD.out.rd.rds; rw [Hn.out] at h; exact h) HD.out.dig (by omega)
    injection hpe with hp1 hp2 hp3
    subst hp1 hp3
    have hrg := hel m (by rw [← Hn.out]; omega)
    have hlx := Bl.lastN_dig HD.out.dig
    have hx : Bl.lastN N = N.getD m Bl.n0 := by unfold Bl.lastN; rw [← Hn.out, Nat.add_sub_cancel]
    have HT := Bl.hid (And.intro (fun z => @Bl.takeE_late N size root p hrr hnN z) (fun z => @Bl.takeE_chk N size root p hrr hnN z))
    have HTn := Bl.hid (fun z => (show Bl.takeN N size root p = if ((Bl.lastN N).1 : Int) < size then N ++ [(size.toNat, root)] else N by
      unfold Bl.takeN
      rw [show Bl.takeE N size root p = 0 from z]
      by_cases q : ((Bl.lastN N).1 : Int) < size
      · rw [if_pos ⟨rfl, q⟩, if_pos q]
      · rw [if_neg (fun y => q y.2), if_neg q]))
    have HTz : Hid (Bl.takeE N size root p ≠ 0 → Bl.takeN N size root p = N) := Bl.hid fun z => by unfold Bl.takeN; rw [if_neg (fun q => z q.1)]
    obtain ⟨x, hxe⟩ : ∃ x, x = Bl.lastN N := ⟨_, rfl⟩
    rw [← hx, ← hxe] at hrg
    rw [← hxe] at hlx HT HTn
    have Hlx := Bl.hid hlx
    have HLe : Hid (∀ w2, Bl.Ext w w2 → (Instr.loadAt 78 (.pointer (some ⟨g, o + m * 33, none⟩))).run Tryd.prog w2 = .ok (.agg (Bl.cN x).toArray) w2) := Bl.hid fun w2 h2 => run_loadAt_mid (P := Tryd.prog) w2 g (o + m * 33) 78 _ _ (Bl.rangeAt_ext hrg h2) Tryd.underlying78 rfl (by rw [Bl.cN_len hlx.1]; kernel_rfl)
    obtain ⟨hwk, hwk2, hnn, hi0, hi1⟩ := Bl.small500 m (Nat.le_of_succ_le hl)
    have Hc0 := Bl.hid HD.out.c0
    clear hel hrg hx hlx hp2 hcn hcm hxe hn0 hnN hrr
    go_wp2_with fail
    rw [← hW1] at HE1 Hl6 HB6 hc0 ⊢
    clear hW1 hc0
    apply Bl.wp_region_evK (Bl.Ext) (fun _ _ _ => True) 13 [33, 34, 35, 36, 37, 38, 39, 40, 41, 42, 43, 44, 9] [Bl.eqv _, Bl.eqv _, Bl.eqv _, Bl.eqv _, Bl.eqv _, Bl.eqv _, Bl.eqv _, Bl.eqv _, Bl.eqv _, Bl.eqv _, Bl.eqv _, Bl.eqv _, (fun v w' => ∃ X, v = .pointer (some ⟨X, 0, none⟩) ∧ W1.heap.size ≤ X ∧ Bl.BoxC w' X (Bl.cN Bl.n0))] (fun w => Below.refl _ w) (fun a b c h k => Bl.Ext.trans h k) (by kernel_rfl) (by kernel_rfl) (by kernel_rfl) (by kernel_rfl)
    case hsteps =>
      refine ⟨?_, ?_, ?_, ?_, ?_, ?_, ?_, ?_, ?_, ?_, ?_, ?_, ?_, trivial⟩
      all_goals
        intro d ev w1 hext HJd Hanc Hdes hni hb hd
        replace Hanc := Bl.hid Hanc
        replace HJd := Bl.hid HJd
        replace Hdes := Bl.hid Hdes
        replace hni := Bl.hid hni
        have e0 := hb 0 (by decide)
        clear hb
        simp only [Array.getD_eq_getD_getElem?, List.getElem?_toArray, List.getElem?_cons_zero, Option.getD_some] at e0
        simp only [Bl.DepsE2, List.getElem?_cons_succ, List.getElem?_cons_zero, Option.bind_some, List.getD_cons_succ, List.getD_cons_zero, Bl.eqv, and_true] at hd
        have hc := (Bl.bcell hext).1
        have q0 := ((Bl.bcell (HE1.out.trans hext)).1 _ 0 HBl.out).trans Hc0.out
        simp only [Region.wanted, if_true]
        first
        | ((with_reducible refine Bl.goodX_load (fun w => Below.refl _ w) ?_ (HLe.out _ (HE1.out.trans hext)) ?_); exact hd; exact ⟨rfl, trivial⟩)
        | (go_simp; first | exact ⟨Below.refl _ _, rfl, trivial⟩ | exact ⟨Bl.ext_alloc _ _, ⟨_, rfl, hext.size, Bl.zbox _ _⟩, trivial⟩ | exact ⟨Bl.ext_alloc _ _, _, rfl, hext.size, Bl.zbox _ _⟩ | exact ⟨Bl.ext_alloc _ _, hext.size, Bl.zbox _ _⟩ | exact ⟨Bl.ext_alloc _ _, ⟨hext.size, Bl.zbox _ _⟩, trivial⟩ | exact ⟨Below.refl _ _, rfl⟩ | exact Below.refl _ _)
    case hmono => exact ⟨Bl.monoR_eqv _, Bl.monoR_eqv _, Bl.monoR_eqv _, Bl.monoR_eqv _, Bl.monoR_eqv _, Bl.monoR_eqv _, Bl.monoR_eqv _, Bl.monoR_eqv _, Bl.monoR_eqv _, Bl.monoR_eqv _, Bl.monoR_eqv _, Bl.monoR_eqv _, (fun _ _ _ h k => by obtain ⟨X, h1, h2, h3⟩ := h; exact ⟨X, h1, h2, h3.ext k⟩), trivial⟩
    case hR0 => exact (Below.refl _ _).drew
    case hend =>
      intro u w1 hext hJ hend
      simp only [Bl.EndE, List.getElem?_cons_succ, List.getElem?_cons_zero, Option.bind_some, List.getD_cons_succ, List.getD_cons_zero, Bl.eqv, true_and] at hend
      simp only [Bl.fillAct, List.setIfInBounds_toArray, List.set_cons_succ, List.set_cons_zero, List.drop_succ_cons, List.drop_zero, hend]
      obtain ⟨X9, hX9, hX9l, hB9⟩ := hend.2
      rw [hX9]
      have Hst := Bl.hid (hB9.store (P := Tryd.prog) (cs' := Bl.cN x) (by rw [Bl.cN_len Hlx.out.1]; rfl) (Bl.cN_one _) (ty := 78) (by rw [Bl.cN_len Hlx.out.1]; kernel_rfl))
      have HB9 := Bl.hid (hB9.set (cs' := Bl.cN x) (by rw [Bl.cN_len Hlx.out.1]; rfl))
      have HE9 : Hid (Bl.Ext W1 (w1.setCells X9 0 (Bl.cN x))) := Bl.hid (Bl.below_setCells _ X9 0 _ hext hX9l)
      clear hB9 hend hX9 hext HLe
      go_wp2_with (with_reducible refine Bl.stop_store (ty := 78) ?_)
      refine Bl.go_on ?_
      refine Bl.wpL_store0 rfl rfl Hst.out ?_
      generalize w1.setCells X9 0 (Bl.cN x) = W9 at *
      clear Hst
      have HEw := Bl.hid (HE1.out.trans HE9.out)
      have HB69 := Bl.hid (HB6.out.ext HE9.out)
      have hq9 := HB9.out.cell (Bl.cN_size x)
      by_cases hlt : size < (x.1 : Int)
      · have Hv := Bl.hid (HT.out.1 hlt)
        have HT2 := Bl.hid (HTz.out (by rw [Hv.out]; decide))
        go_wp2_with fail
        go_ret
        exact ⟨by rw [Hv.out]; rfl, ⟨.slice (some ⟨g, o, none⟩) (m + 1) cN', by rw [HT2.out]; exact HD.out.ext HEw.out, fun k hk => .inl hk⟩, Bl.Adds.of_ext HEw.out⟩
      have Hv := Bl.hid (HT.out.2 (by omega))
      have HCk := Bl.hid (refgcheck_any (x.1 : Int) size x.2 root (.slice pp pl cp) p W9 Hlx.out.1 Hlx.out.2 Hro.out.1 (Bl.Rds.ext HP.out HEw.out) Hdp.out (Hg.out.ext HEw.out))
      rw [← Hv.out] at HCk
      obtain ⟨K, hK⟩ : ∃ K, K = Bl.takeE N size root p := ⟨_, rfl⟩
      rw [← hK] at HCk HTn HTz
      have Hl9 := Bl.hid (Bl.load_ints (P := Tryd.prog) (ty := 31) (HB9.out.sub (Bl.cN_root x)) Tryd.underlying31 (by kernel_rfl) Hlx.out.1)
      have Hl69 := Bl.hid (Bl.load_ints (P := Tryd.prog) (ty := 31) HB69.out.rg Tryd.underlying31 (by kernel_rfl) Hro.out.1)
      have HK := Bl.hid hK
      clear hK Hv HT Hl6
      go_wp2_with (with_reducible refine Bl.stop_load (ty := 31) ?_)
      refine Bl.go_on ?_
      refine Bl.wpL_load rfl Hl9.out ?_
      go_wp2_with (with_reducible refine Bl.stop_load (ty := 31) ?_)
      refine Bl.go_on ?_
      refine Bl.wpL_load rfl Hl69.out ?_
      go_wp2_with fail
      refine HCk.out.mono ?_
      rintro e w4 ⟨rfl, hE4⟩
      have HE4 := Bl.hid (HEw.out.trans hE4)
      have HB64 := Bl.hid (HB69.out.ext hE4)
      have HB94 := Bl.hid (HB9.out.ext hE4)
      clear hE4 HCk HB69 HB9 HE9
      by_cases hk : K = 0
      · subst hk
        have hq9 := HB94.out.cell (Bl.cN_size x)
        by_cases hgt : (x.1 : Int) < size
        · have HT2 : Hid (Bl.takeN N size root p = N ++ [(size.toNat, root)]) := Bl.hid (by rw [HTn.out (by trivial), if_pos hgt])
          have Hc4 := Bl.hid (HD.out.ext HE4.out).c0
          have hf4 := (HD.out.ext HE4.out).f0
          have Hrn : Hid (w4.rangeAt g o (Bl.cellsR Bl.cN N)) := Bl.hid (by
            obtain ⟨g', o', c', h1, _, _, _, h5⟩ := Bl.Rds.pos (HD.out.ext HE4.out).rd.rds (by rw [← Hn.out]; omega) (fun q => by have := Bl.cellsN_len HD.out.dig; rw [q, ← Hn.out] at this; simp at this)
            injection h1 with h1 _ _
            injection h1 with h1
            injection h1 with h1 h2
            subst h1 h2
            exact h5)
          have Hl4 := Bl.hid (HB64.out.load (P := Tryd.prog) (ty := 31) Tryd.underlying31 rfl (by rw [Bl.ints_length, Hro.out.1]; kernel_rfl))
          have HBl4 := Bl.hid (HD.out.ext HE4.out).lt
          have HrL := Bl.hid (Bl.rangeAt_lt Hrn.out (fun q => by have := Bl.cellsN_len HD.out.dig; rw [q, ← Hn.out] at this; simp at this))
          have Hm := Bl.hid hl
          have Hnl2 : Hid ((Bl.cellsR Bl.cN N).length = (m + 1) * 33) := Bl.hid (by rw [Bl.cellsN_len HD.out.dig, ← Hn.out])
          go_wp2_with fail
          apply Bl.wp_region_evK (fun a a' => Below w4.heap.size a a') (Bl.JQ w4.heap.size (m + 1) 33 (Bl.cellsR Bl.cN N) nc) 14 [64, 65, 66, 67, 68, 69, 70, 71, 72, 73, 74, 75, 76, 77] [Bl.eqv _, Bl.anyv, Bl.eqv _, Bl.eqv _, Bl.eqv _, Bl.eqv _, Bl.anyv, Bl.eqv _, Bl.eqv _, Bl.eqv _, Bl.anyv, Bl.anyv, Bl.eqv _, Bl.eqv _] (fun w => Below.refl _ w) (fun a b c h k => Below.trans h k) (by kernel_rfl) (by kernel_rfl) (by kernel_rfl) (by kernel_rfl)
          case hsteps =>
            refine ⟨?_, ?_, ?_, ?_, ?_, ?_, ?_, ?_, ?_, ?_, ?_, ?_, ?_, ?_, trivial⟩
            all_goals
              intro d ev w1 hext HJd Hanc Hdes hni hb hd
              replace Hanc := Bl.hid Hanc
              replace HJd := Bl.hid HJd
              replace Hdes := Bl.hid Hdes
              replace hni := Bl.hid hni
              have e0 := hb 0 (by decide)
              have e1 := hb 1 (by decide)
              have e6 := hb 6 (by decide)
              clear hb
              simp only [Array.getD_eq_getD_getElem?, List.getElem?_toArray, List.getElem?_cons_succ, List.getElem?_cons_zero, Option.getD_some] at e0 e1 e6
              simp only [Bl.DepsE2, List.getElem?_cons_succ, List.getElem?_cons_zero, Option.bind_some, List.getD_cons_succ, List.getD_cons_zero, Bl.eqv, and_true] at hd
              have hc := (Bl.bcell hext).1
              have q1 := (hc _ 0 HBl4.out).trans Hc4.out
              simp only [Region.wanted, if_true]
              first
              | ((with_reducible refine Bl.goodX_load (fun w => Below.refl _ w) ?_ ((HB64.out.below hext HB64.out.lt).load (P := Tryd.prog) (ty := 31) Tryd.underlying31 rfl (by rw [Bl.ints_length, Hro.out.1]; kernel_rfl)) ?_); exact e6; exact ⟨rfl, HJd.out.same (by decide)⟩) | ((with_reducible refine Bl.goodX_buildS2 (fun w => Below.refl _ w) ?_ ?_ (Hbd.out _) ?_); (first | exact hd.1 | exact hd.2); (first | exact hd.2 | exact hd.1); exact ⟨rfl, HJd.out.same (by decide)⟩) | ((with_reducible refine Bl.goodX_build1 (cs := nc.toArray) tMote (by decide) ?_ ?_ ?_ ?_); exact hd; (simp [Hnl.out]); exact Bl.below_alloc _ _ HJd.out.le; exact ⟨trivial, HJd.out.mk10 (Hdes.out 11 (by kernel_rfl))⟩) | (obtain ⟨⟨g9, hg9⟩, hp9⟩ := HJd.out.e (Hanc.out 1 (by kernel_rfl)) hni.out; (with_reducible refine Bl.goodX_append (m := m + 1) (c := cN') tMote hp9 (Bl.rangeAt_below Hrn.out hext HrL.out) ?_ ?_ ?_ ?_ ?_ ?_ ?_ ?_ ?_); exact Hnl2.out; exact Bl.cellsN_one _; exact Nat.succ_pos _; (have := Hm.out; unfold maxLen; omega); (have := Hm.out; omega); exact HJd.out.le; exact rfl; (first | exact hd.2 | exact hd.1); (intro v' w' h2 h3 h4; have h5 := HJd.out.app1 (Hanc.out 1 (by kernel_rfl)) hni.out (Hdes.out 11 (by kernel_rfl)) h2 h3 h4; exact ⟨h5.1, trivial, h5.2⟩)) | (obtain ⟨g9, hg9, hgl9, hrg9, _, _⟩ := HJd.out.g (Hanc.out 10 (by kernel_rfl)) hni.out; (with_reducible refine Bl.goodX_append (m := 1) (c := 1) tMote (HJd.out.f (Hanc.out 6 (by kernel_rfl)) hni.out) hrg9 ?_ ?_ ?_ ?_ ?_ ?_ ?_ ?_ ?_); (rw [Hnl.out]); exact Hn1.out; decide; (have := Hm.out; unfold maxLen; omega); (have := Hm.out; omega); exact HJd.out.le; exact rfl; exact hg9; (intro v' w' h2 h3 h4; have h5 := HJd.out.app2 (Hanc.out 6 (by kernel_rfl)) hni.out h2 h3; exact ⟨h5.1, trivial, h5.2⟩))
              | (go_simp; first | exact ⟨Below.refl _ _, rfl, HJd.out.same (by decide)⟩ | exact ⟨Bl.below_alloc _ _ HJd.out.le, trivial, HJd.out.mk1 (Hdes.out 6 (by kernel_rfl)) (Hdes.out 11 (by kernel_rfl))⟩ | exact ⟨Bl.below_alloc _ _ HJd.out.le, HJd.out.mk1 (Hdes.out 6 (by kernel_rfl)) (Hdes.out 11 (by kernel_rfl))⟩ | exact ⟨Below.refl _ _, rfl, Bl.HJ.same (by decide) HJd.out⟩)
          case hmono => exact ⟨Bl.monoR_eqv _, Bl.monoR_anyv, Bl.monoR_eqv _, Bl.monoR_eqv _, Bl.monoR_eqv _, Bl.monoR_eqv _, Bl.monoR_anyv, Bl.monoR_eqv _, Bl.monoR_eqv _, Bl.monoR_eqv _, Bl.monoR_anyv, Bl.monoR_anyv, Bl.monoR_eqv _, Bl.monoR_eqv _, trivial⟩
          case hR0 => exact (Below.refl _ _).drew
          case hend =>
            intro u w1 hext hJ hend
            simp only [Bl.EndE, List.getElem?_cons_succ, List.getElem?_cons_zero, Option.bind_some, List.getD_cons_succ, List.getD_cons_zero, Bl.eqv, true_and] at hend
            simp only [Bl.fillAct, List.setIfInBounds_toArray, List.set_cons_succ, List.set_cons_zero, List.drop_succ_cons, List.drop_zero, hend]
            have hP := hJ.h rfl
            obtain ⟨p9, c9, hv9, _, _⟩ := hP.rds.form
            have HP9 := Bl.hid hP
            have Hv9 := Bl.hid hv9
            rw [hv9]
            have q1 := ((Bl.bcell hext).1 _ 0 HBl4.out).trans Hc4.out
            have qf := ((Bl.bcell hext).2 _ 0 HBl4.out).trans hf4
            have HE5 : Hid (Bl.Ext w w1) := Bl.hid (HE4.out.trans hext)
            clear hP hJ hv9 hend hext
            go_wp2_with fail
            go_ret
            refine ⟨by rw [← HK.out]; rfl, ⟨.slice p9 (m + 1 + 1) c9, ?_, fun k hk => .inr ?_⟩, Bl.Adds.set HE5.out HBl.out⟩
            rotate_left
            · have hb := HP9.out.block k (by rw [Hv9.out]; exact hk)
              exact ⟨Nat.le_trans HE4.out.size hb.1, Nat.lt_of_lt_of_le hb.2 (Bl.set_size _ _ _)⟩
            rw [HT2.out]
            refine Bl.Dm.of q1 qf ?_ HBl4.out (HD.out.dig.snoc Hro.out)
            rw [Bl.cellsR_append, Bl.cellsR_one, List.length_append, List.length_singleton, HcN.out, ← Hn.out, ← Hv9.out]
            exact HP9.out
          case hJ0 => exact Bl.JQ.start (Nat.le_refl _)
        · have HT2 : Hid (Bl.takeN N size root p = N) := Bl.hid (by rw [HTn.out (by trivial), if_neg hgt])
          go_wp2_with fail
          go_ret
          exact ⟨by rw [← HK.out]; rfl, ⟨.slice (some ⟨g, o, none⟩) (m + 1) cN', by rw [HT2.out]; exact HD.out.ext HE4.out, fun k hk => .inl hk⟩, Bl.Adds.of_ext HE4.out⟩
      · have HT2 := Bl.hid (HTz.out hk)
        have hki : ((K : Int) == 0) = false := by rw [beq_eq_false_iff_ne]; omega
        clear hk
        go_wp2_with fail
        go_ret
        exact ⟨by rw [← HK.out]; rfl, ⟨.slice (some ⟨g, o, none⟩) (m + 1) cN', by rw [HT2.out]; exact HD.out.ext HE4.out, fun k hk => .inl hk⟩, Bl.Adds.of_ext HE4.out⟩
    case hJ0 => trivial
end Go.Proofs.YtmfooocdnoflaaaDoor

/- Walks of the model's Agrees; Fork with none. -/
namespace Go.Proofs.Bl
open Go Go.RowKit
theorem bad2_symm {A B : List Nt} {s : Int} (h : bad2 A B s) : bad2 B A s := ⟨h.2.1, h.1, fun q => h.2.2 q.symm⟩
theorem fork_symm {A B : List Nt} (hA : Ris A) (hB : Ris B) : forkS B A = forkS A B ∧ forkB B A = forkB A B := by
  by_cases h : ∃ t : Nat, 1 ≤ t ∧ t ≤ 512 ∧ bad2 A B t
  · have key : ∀ n : Nat, (∃ t : Nat, 1 ≤ t ∧ t ≤ n ∧ bad2 A B t) → ∃ s : Nat, bad2 A B s ∧ ∀ t : Nat, 1 ≤ t → t < s → ¬ bad2 A B t := by
      intro n
      induction n with
      | zero => rintro ⟨t, h1, h2, _⟩; omega
      | succ n ih =>
        intro h
        by_cases hn : ∃ t : Nat, 1 ≤ t ∧ t ≤ n ∧ bad2 A B t
        · exact ih hn
        · obtain ⟨t, h1, h2, h3⟩ := h
          refine ⟨t, h3, fun r r1 r2 r3 => hn ⟨r, r1, by omega, r3⟩⟩
    obtain ⟨s, hs, hl⟩ := key 512 h
    obtain ⟨a1, a2⟩ := fork_least hA hs hl
    obtain ⟨b1, b2⟩ := fork_least hB (bad2_symm hs) (fun t t1 t2 t3 => hl t t1 t2 (bad2_symm t3))
    rw [a1, a2, b1, b2]; exact ⟨rfl, rfl⟩
  · obtain ⟨a1, a2⟩ := fork_none (B := B) hA (fun t h1 h2 h3 => h ⟨t, h1, h2, h3⟩)
    obtain ⟨b1, b2⟩ := fork_none (B := A) hB (fun t h1 h2 h3 => h ⟨t, h1, h2, bad2_symm h3⟩)
    rw [a1, a2, b1, b2]; exact ⟨rfl, rfl⟩
end Go.Proofs.Bl
namespace Go.Proofs.YtmfooocdnoflaaaDoor
open Go Go.RowKit Go.Proofs

theorem dfork_nil (v : Value) (w : World) : Calls Tryd.prog 27 #[.pointer none, v] w fun e w' => e = .returned (.tuple #[.int .i64 0, .bool false]) ∧ w' = w := by
  go_enter Tryd.func27, Tryd.ntmps27
  go_wp2_with fail
  exact bodyPost_ret (v := .tuple #[.int .i64 0, .bool false]) (Bl.results_tmp2 rfl rfl rfl) rfl ⟨rfl, rfl⟩

set_option maxRecDepth 100000 in
set_option maxHeartbeats 4000000 in
theorem magrees_any (b : Nat) (v : Value) (N : List Bl.Nt) (vl : Value) (ps : List (List Int)) (w : World) (h : Bl.Dm w b v N) (hr : Bl.Ris N) (hl : N.length ≤ 500) (hR : Bl.Rdss w vl ps) (hby : ∀ p ∈ ps, Bl.Byt p) (hlp : ∀ p ∈ ps, p.length ≤ 1099511627000) (hn : ps.length ≤ 1048576) (hg : GlobR w) :
    Calls Tryd.prog 29 #[.pointer (some ⟨b, 0, none⟩), vl] w fun e w' => e = .returned (.int .i64 (Bl.agAll N ps : Nat)) ∧ Bl.Ext w w' := by
  have hc0 := h.c0
  obtain ⟨p, c, hvf, hvn, hvc⟩ := h.rd.rds.form
  subst hvf
  have HR := Bl.hid hR
  obtain ⟨ws, hv, hwl, hws⟩ := hR
  obtain ⟨pL, cL, hLf, hLn, hLc⟩ := hv.form
  subst hLf
  unfold maxLen at hvc hLc
  have HRd := Bl.hid h.rd.rds
  have Hd := Bl.hid h.dig
  have Hr := Bl.hid hr
  have Hv := Bl.hid hv
  have Hwl := Bl.hid hwl
  have Hg := Bl.hid hg
  have Hby := Bl.hid hby
  have Hlp := Bl.hid hlp
  obtain ⟨n, hnn⟩ : ∃ n, n = N.length := ⟨_, rfl⟩
  obtain ⟨L, hL⟩ : ∃ L, L = ps.length := ⟨_, rfl⟩
  have Hn := Bl.hid hnn
  have HL := Bl.hid hL
  rw [← hnn] at hc0 hvn hl HRd
  rw [← hL] at hLn hn ⊢
  clear h hr hv hwl hws hby hlp hg hnn hL
  go_enter Tryd.func29, Tryd.ntmps29
  go_wp2_with fail
  go_loopw [12] (fun x wr => ∃ i : Nat, i ≤ n ∧ x = .int .i64 i ∧ Hid (∀ q, q < i → Bl.agE (N.getD q Bl.n0) ps = 0) ∧ Bl.Ext w wr) (fun x _ => n - (intOf x).toNat)
  case atStart => exact ⟨0, Nat.zero_le _, rfl, Bl.hid fun q hq => absurd hq (Nat.not_lt_zero _), Below.refl _ _⟩
  case round =>
    obtain ⟨i, hi, rfl, Hq, hE⟩ := hrel
    have HE := Bl.hid hE
    clear hE
    by_cases hlt : i < n
    · have hin : i < N.length := by rw [← Hn.out]; exact hlt
      obtain ⟨g, o, cc, hpe, hcn, hcm, hgl, hel⟩ := Bl.RdN.pos (by have h := HRd.out; rw [Hn.out] at h; exact Bl.Rds.ext h HE.out) Hd.out (by omega)
      injection hpe with hp1 hp2 hp3
      subst hp1 hp3
      have hrg := hel i hin
      have hm := Bl.getD_mem Bl.n0 hin
      have hxd := (Hd.out _ hm).1
      have hx1 := (Hr.out.rg _ hm).1
      have Hat := Bl.hid (@Bl.agAll_at N ps i hin Hq.out)
      obtain ⟨x, hx⟩ : ∃ x, x = N.getD i Bl.n0 := ⟨_, rfl⟩
      rw [← hx] at hrg hxd hx1 Hat
      have Hx := Bl.hid hx
      have Hxd := Bl.hid hxd
      have Hld := Bl.hid (run_loadAt_mid (P := Tryd.prog) wr g (o + i * 33) 78 _ _ hrg Tryd.underlying78 rfl (by rw [Bl.cN_len hxd]; kernel_rfl))
      obtain ⟨HB6, HE6⟩ := Bl.BoxC.fresh (cs := Bl.cN x) wr 78 #[.int .i64 0, .int .u8 0, .int .u8 0, .int .u8 0, .int .u8 0, .int .u8 0, .int .u8 0, .int .u8 0, .int .u8 0, .int .u8 0, .int .u8 0, .int .u8 0, .int .u8 0, .int .u8 0, .int .u8 0, .int .u8 0, .int .u8 0, .int .u8 0, .int .u8 0, .int .u8 0, .int .u8 0, .int .u8 0, .int .u8 0, .int .u8 0, .int .u8 0, .int .u8 0, .int .u8 0, .int .u8 0, .int .u8 0, .int .u8 0, .int .u8 0, .int .u8 0, .int .u8 0] (by rw [Bl.cN_len hxd]; rfl) (Bl.cN_ne x)
      have Hst := Bl.hid (Bl.fresh_store (P := Tryd.prog) (cs := Bl.cN x) wr 78 #[.int .i64 0, .int .u8 0, .int .u8 0, .int .u8 0, .int .u8 0, .int .u8 0, .int .u8 0, .int .u8 0, .int .u8 0, .int .u8 0, .int .u8 0, .int .u8 0, .int .u8 0, .int .u8 0, .int .u8 0, .int .u8 0, .int .u8 0, .int .u8 0, .int .u8 0, .int .u8 0, .int .u8 0, .int .u8 0, .int .u8 0, .int .u8 0, .int .u8 0, .int .u8 0, .int .u8 0, .int .u8 0, .int .u8 0, .int .u8 0, .int .u8 0, .int .u8 0, .int .u8 0] (by rw [Bl.cN_len hxd]; rfl) (Bl.cN_one x) (ty := 78) (by rw [Bl.cN_len hxd]; kernel_rfl))
      have hq6 := HB6.cell (Bl.cN_size x)
      have Hq6 := Bl.hid hq6
      have HXl := Bl.hid HB6.lt
      replace HB6 := Bl.hid HB6
      replace HE6 := Bl.hid (HE.out.trans HE6)
      have hi0 : (0 : Int) ≤ (i : Int) := by omega
      have hi1 : (i : Int) < (n : Int) := by omega
      clear hel hrg hm hxd hx hp2 hcn hcm hin
      go_wp2_with (with_reducible refine Bl.stop_load (ty := 78) ?_)
      refine Bl.go_on ?_
      refine Bl.wpL_load rfl Hld.out ?_
      go_wp2_with (with_reducible refine Bl.stop_store (ty := 78) ?_)
      refine Bl.go_on ?_
      refine Bl.wpL_store0 rfl rfl Hst.out ?_
      generalize (wr.alloc (.cells #[.int .i64 0, .int .u8 0, .int .u8 0, .int .u8 0, .int .u8 0, .int .u8 0, .int .u8 0, .int .u8 0, .int .u8 0, .int .u8 0, .int .u8 0, .int .u8 0, .int .u8 0, .int .u8 0, .int .u8 0, .int .u8 0, .int .u8 0, .int .u8 0, .int .u8 0, .int .u8 0, .int .u8 0, .int .u8 0, .int .u8 0, .int .u8 0, .int .u8 0, .int .u8 0, .int .u8 0, .int .u8 0, .int .u8 0, .int .u8 0, .int .u8 0, .int .u8 0, .int .u8 0] 78)).setCells wr.heap.size 0 (Bl.cN x) = W6 at *
      generalize wr.heap.size = X6 at *
      clear Hst Hld
      by_cases h1 : L < x.1
      · have Hv1 : Hid (Bl.agE x ps = 2) := Bl.hid (by unfold Bl.agE; rw [← HL.out, if_pos h1])
        have Hva := Bl.hid (Hat.out (by rw [Hv1.out]; decide))
        have h1i : (L : Int) < (x.1 : Int) := by omega
        go_wp2_with fail
        go_ret
        exact ⟨by rw [Hva.out, Hv1.out]; rfl, HE6.out⟩
      have Hv1 : Hid (Bl.agE x ps = if Bl.rootD (ps.take x.1) = x.2 then 0 else 15) := Bl.hid (by unfold Bl.agE; rw [← HL.out, if_neg h1])
      have h1i : ¬ ((L : Int) < (x.1 : Int)) := by omega
      obtain ⟨bp, op, hpe, hbl, _⟩ := Bl.Rdss.cell' (by have h := Hv.out; exact h) Hwl.out 0 (by rw [← HL.out]; omega)
      subst hpe
      have HRt : Hid (∀ w2, Bl.Ext w w2 → Calls Tryd.prog 22 #[.slice (some ⟨bp, op, none⟩) x.1 cL] w2 fun e w' => e = .returned (.agg (Bl.ints .u8 (Bl.rootD (ps.take x.1))).toArray) ∧ Bl.Ext w2 w') := Bl.hid fun w2 h2 =>
        refroot_any (.slice (some ⟨bp, op, none⟩) x.1 cL) (ps.take x.1) w2 (Bl.Rdss.take (HR.out.ext h2) x.1 (by rw [← HL.out]; omega)) (Hg.out.ext h2) (fun y hy => Hby.out y (List.mem_of_mem_take hy)) (fun y hy => Hlp.out y (List.mem_of_mem_take hy)) (by rw [List.length_take]; omega)
      have Hrl : Hid ((Bl.rootD (ps.take x.1)).length = 32) := Bl.hid (Bl.rootD_length _ (by rw [List.length_take]; omega))
      obtain ⟨r, hr⟩ : ∃ r, r = Bl.rootD (ps.take x.1) := ⟨_, rfl⟩
      rw [← hr] at HRt Hrl Hv1
      have HLd : Hid (∀ w2, Bl.Ext W6 w2 → (Instr.loadAt 31 (.pointer (some ⟨X6, 1, none⟩))).run Tryd.prog w2 = .ok (.agg (Bl.ints .u8 x.2).toArray) w2) := Bl.hid fun w2 h2 => Bl.load_ints ((HB6.out.ext h2).sub (Bl.cN_root x)) Tryd.underlying31 (by kernel_rfl) Hxd.out
      have heqd : ∀ w, (Op.equalIn 10000 31 (.agg (Bl.ints .u8 r).toArray) (.agg (Bl.ints .u8 x.2).toArray)).run Tryd.prog w = .ok (decide (r = x.2)) w := fun w =>
        Bl.eq10k Tryd.underlying31 Tryd.underlying5 (fun w => by simp [go_sem]) r x.2 Hrl.out Hxd.out w
      have hz0 : (0 : Int) ≤ (x.1 : Int) := by omega
      have hz1 : (x.1 : Int) ≤ (cL : Int) := by omega
      clear hr h1 hbl
      by_cases hrx : r = x.2
      · have Hv2 : Hid (Bl.agE x ps = 0) := Bl.hid (by rw [Hv1.out, if_pos hrx])
        have heq : ∀ w, (Op.equalIn 10000 31 (.agg (Bl.ints .u8 r).toArray) (.agg (Bl.ints .u8 x.2).toArray)).run Tryd.prog w = .ok true w := fun w => by rw [heqd w, decide_eq_true hrx]
        clear hrx heqd
        go_wp2_with fail
        clear hq6
        apply Bl.wp_region_ev 7 [21, 22, 23, 24, 25, 26, 27] [Bl.eqv _, Bl.eqv _, Bl.eqv _, Bl.eqv _, Bl.eqv _, Bl.eqv _, Bl.eqv _] (by kernel_rfl) (by kernel_rfl) (by kernel_rfl) (by kernel_rfl)
        case hsteps =>
          refine ⟨?_, ?_, ?_, ?_, ?_, ?_, ?_, trivial⟩
          all_goals
            intro ev w1 hext hb hd
            have e1 := hb 1 (by decide)
            have e6 := hb 6 (by decide)
            clear hb
            simp only [Array.getD_eq_getD_getElem?, List.getElem?_toArray, List.getElem?_cons_succ, List.getElem?_cons_zero, Option.getD_some] at e1 e6
            simp only [Bl.DepsE, List.getElem?_cons_succ, List.getElem?_cons_zero, Option.bind_some, List.getD_cons_succ, List.getD_cons_zero, Bl.eqv, and_true] at hd
            have hc := (Bl.bcell hext).1
            have q1 := (hc _ 0 HXl.out).trans Hq6.out
            simp only [Bl.Good, Region.wanted, if_true]
            first
            | ((with_reducible refine Bl.goodR_load ?_ (HLd.out _ hext) ?_); exact hd; exact rfl)
            | (go_simp; first | (go_at_call 22; (with_reducible refine (HRt.out _ (HE6.out.trans hext)).mono ?_); rintro e w2 ⟨rfl, hE2⟩; exact ⟨_, rfl, hE2, rfl⟩) | exact ⟨Below.refl _ _, rfl⟩)
        case hmono => exact ⟨Bl.mono_eqv _, Bl.mono_eqv _, Bl.mono_eqv _, Bl.mono_eqv _, Bl.mono_eqv _, Bl.mono_eqv _, Bl.mono_eqv _, trivial⟩
        case hend =>
          intro u w1 hext hend
          simp only [Bl.EndE, List.getElem?_cons_succ, List.getElem?_cons_zero, Option.bind_some, List.getD_cons_succ, List.getD_cons_zero, Bl.eqv, true_and] at hend
          simp only [Bl.fillAct, List.setIfInBounds_toArray, List.set_cons_succ, List.set_cons_zero, List.drop_succ_cons, List.drop_zero, hend]
          have HEf := Bl.hid (HE6.out.trans hext)
          clear hext hend
          go_wp2_with fail
          go_roundw
          case rel => exact ⟨i + 1, by omega, by go_num, Bl.hid fun q hq => by
            rcases Nat.lt_succ_iff_lt_or_eq.1 hq with g | g
            · exact Hq.out q g
            · subst g; rw [← Hx.out]; exact Hv2.out, HEf.out⟩
          case measure => simp [intOf]; omega
      · have Hv2 : Hid (Bl.agE x ps = 15) := Bl.hid (by rw [Hv1.out, if_neg hrx])
        have Hva := Bl.hid (Hat.out (by rw [Hv2.out]; decide))
        have heq : ∀ w, (Op.equalIn 10000 31 (.agg (Bl.ints .u8 r).toArray) (.agg (Bl.ints .u8 x.2).toArray)).run Tryd.prog w = .ok false w := fun w => by rw [heqd w, decide_eq_false hrx]
        clear hrx heqd
        go_wp2_with fail
        clear hq6
        apply Bl.wp_region_ev 7 [21, 22, 23, 24, 25, 26, 27] [Bl.eqv _, Bl.eqv _, Bl.eqv _, Bl.eqv _, Bl.eqv _, Bl.eqv _, Bl.eqv _] (by kernel_rfl) (by kernel_rfl) (by kernel_rfl) (by kernel_rfl)
        case hsteps =>
          refine ⟨?_, ?_, ?_, ?_, ?_, ?_, ?_, trivial⟩
          all_goals
            intro ev w1 hext hb hd
            have e1 := hb 1 (by decide)
            have e6 := hb 6 (by decide)
            clear hb
            simp only [Array.getD_eq_getD_getElem?, List.getElem?_toArray, List.getElem?_cons_succ, List.getElem?_cons_zero, Option.getD_some] at e1 e6
            simp only [Bl.DepsE, List.getElem?_cons_succ, List.getElem?_cons_zero, Option.bind_some, List.getD_cons_succ, List.getD_cons_zero, Bl.eqv, and_true] at hd
            have hc := (Bl.bcell hext).1
            have q1 := (hc _ 0 HXl.out).trans Hq6.out
            simp only [Bl.Good, Region.wanted, if_true]
            first
            | ((with_reducible refine Bl.goodR_load ?_ (HLd.out _ hext) ?_); exact hd; exact rfl)
            | (go_simp; first | (go_at_call 22; (with_reducible refine (HRt.out _ (HE6.out.trans hext)).mono ?_); rintro e w2 ⟨rfl, hE2⟩; exact ⟨_, rfl, hE2, rfl⟩) | exact ⟨Below.refl _ _, rfl⟩)
        case hmono => exact ⟨Bl.mono_eqv _, Bl.mono_eqv _, Bl.mono_eqv _, Bl.mono_eqv _, Bl.mono_eqv _, Bl.mono_eqv _, Bl.mono_eqv _, trivial⟩
        case hend =>
          intro u w1 hext hend
          simp only [Bl.EndE, List.getElem?_cons_succ, List.getElem?_cons_zero, Option.bind_some, List.getD_cons_succ, List.getD_cons_zero, Bl.eqv, true_and] at hend
          simp only [Bl.fillAct, List.setIfInBounds_toArray, List.set_cons_succ, List.set_cons_zero, List.drop_succ_cons, List.drop_zero, hend]
          have HEf := Bl.hid (HE6.out.trans hext)
          clear hext hend
          go_wp2_with fail
          go_ret
          exact ⟨by rw [Hva.out, Hv2.out]; rfl, HEf.out⟩
    · obtain rfl : i = n := by omega
      have Hv : Hid (Bl.agAll N ps = 0) := Bl.hid (Bl.agAll_all (fun q hq => Hq.out q (by rw [Hn.out]; exact hq)))
      go_wp2_with fail
      go_ret
      exact ⟨by rw [Hv.out]; rfl, HE.out⟩
end Go.Proofs.YtmfooocdnoflaaaDoor

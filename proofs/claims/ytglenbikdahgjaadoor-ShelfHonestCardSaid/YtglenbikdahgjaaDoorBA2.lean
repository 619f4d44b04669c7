/- Texts that stood apart, in one: FroA, Duo, GroQ, GroR, KeepS, Is. -/
import Derived.Test.YtglenbikdahgjaaDoorBA1
import Derived.Test.YtglenbikdahgjaaDoorLib0
import Derived.Test.YtglenbikdahgjaaDoorTri0
import Derived.Test.YtglenbikdahgjaaDoorShaQ
import Derived.Test.YtglenbikdahgjaaDoorShaR
import Derived.Test.YtglenbikdahgjaaDoorPla0
import Derived.OwnWalkIn
import Derived.RangeFuncNested
import Derived.Test.YtglenbikdahgjaaDoorChecked
import Derived.WalkKit
import Derived.LaidEql
import Derived.Stop.Asserts
import Derived.RowKitTokens
/- 'x.f = append(x.f, d)' in a region that draws its order: a frontier's peaks grow. -/
namespace Go.Proofs.Bl
open Go Go.RowKit
section
variable {P : Program}
theorem run_append_pk {w : World} {t ty e : TypeId} {v z : Value} {base size bytes n m c b o : Nat} {xs news : List Value}
    (hT : SlT P t e z size bytes) (hown : Pk w base size v n xs) (hnews : w.rangeAt b o news) (hl : news.length = m * size) (h1 : ∀ u ∈ news, u.oneCell' = true) (_hm : 0 < m)
    (hlen : n + m ≤ maxLen) (hbytes : (n + m) * bytes ≤ 140737488355328) (hbase : base ≤ w.heap.size) :
    ∃ v' w', (Builtin.append_ #[t, t] ty #[v, .slice (some ⟨b, o, none⟩) m c]).run P w = .ok v' w' ∧ Pk w' base size v' (n + m) (xs ++ news) ∧ w.grownBy w' v.ownBlock ∧ (∀ k, v'.ownBlock = some k → v.ownBlock = some k ∨ w.heap.size ≤ k) := by
  obtain ⟨i, hi, hz, hs1, hb1⟩ := info_parts hT.info
  have hc : ∀ j u, news[j]? = some u → w.cell? ((⟨b, o, none⟩ : Addr).add j) = some u := fun j u hj => by rw [Addr.add_mid]; exact hnews j u hj
  rcases hown with ⟨rfl, rfl, rfl⟩ | ⟨g, cap, rfl, hg, hp⟩
  · obtain ⟨v', w', hr, h2, h3, _⟩ := run_append_own (P := P) w w.heap.size t ty e i z size bytes hT.ht hi hz hs1 hb1 hT.hz hT.pos (.slice none 0 0) 0 [] (World.ownsRow_nil w _ e size) ⟨b, o, none⟩ m c news hl hc h1 hlen hbytes (Nat.le_refl _)
    exact ⟨v', w', hr, Pk.of_owns (owns_mono h2 hbase), h3, fun k hk => .inr (h2.lt k hk).1⟩
  · have hps := hp.len
    by_cases hr : n + m ≤ cap
    · have hroom : (n + m) * size ≤ cap * size := Nat.mul_le_mul_right _ hr
      rw [Nat.add_mul] at hroom
      have hth : w.there g (0 + n * size) news.length := fun j hj => by
        have := hp.th (n * size + j) (by omega)
        rw [← Nat.add_assoc] at this
        exact this
      have hB := below_setCells news g (0 + n * size) w (Below.refl 0 w) (Nat.zero_le _)
      subst hs1
      refine ⟨_, _, run_append_room_cells (P := P) w t ty e i hT.ht hi g 0 n cap ⟨b, o, none⟩ m c news hl hc h1 hr (fun j hj => (hth j hj).1) (fun j hj => (hth j hj).2), .inr ⟨g, cap, rfl, hg, hr, hp.mx, by rw [List.length_append, hp.len, hl, Nat.add_mul], ?_, World.there_setCells hp.th _ _ _, Nat.lt_of_lt_of_le hp.lt hB.size⟩, ⟨hB.os, hB.tape, hB.output, hB.size, fun k hk hne => World.heap_setCells_other w g _ news hk (fun q => hne (by rw [q]; rfl))⟩, fun k hk => .inl hk⟩
      intro j u hu
      by_cases hj : j < xs.length
      · rw [List.getElem?_append_left hj] at hu
        exact World.rangeAt_setCells_apart hp.rg g (0 + n * i.size) news (.inr (.inl (by rw [hp.len]; omega))) j u hu
      · rw [List.getElem?_append_right (by omega)] at hu
        have := World.rangeAt_setCells_same w g (0 + n * i.size) news hth (j - xs.length) u hu
        rw [show 0 + n * i.size + (j - xs.length) = 0 + j by omega] at this
        exact this
    · obtain ⟨v', w', hrun, h2, h3⟩ := run_append_arg_grows (P := P) w t ty e i z size bytes hT.ht hi hz hs1 hb1 hT.hz hT.pos ⟨g, 0, none⟩ n cap xs hp.len (fun j u hj => by rw [Addr.add_mid]; exact hp.rg j u hj) ⟨b, o, none⟩ m c news hl hc (by omega) hlen hbytes
      exact ⟨v', w', hrun, Pk.of_owns (owns_mono h2 hbase), ⟨h3.os, h3.tape, h3.output, h3.size, fun k hk _ => h3.block k hk (by simp)⟩, fun k hk => .inr (h2.lt k hk).1⟩
theorem goodX_append {R : World → World → Prop} {ev : Nat → Value} {w : World} {φ : Value → World → Prop} {d : Option Tmp} {tt t e : TypeId} {pp : String} {af : Array Edge} {g : Option (Nat × Bool)} {s x : Operand} {v z : Value} {base size bytes n m c b o : Nat} {xs news : List Value}
    (hT : SlT P t e z size bytes) (hown : Pk w base size v n xs) (hnews : w.rangeAt b o news) (hl : news.length = m * size) (h1 : ∀ u ∈ news, u.oneCell' = true) (hm : 0 < m)
    (hlen : n + m ≤ maxLen) (hbytes : (n + m) * bytes ≤ 140737488355328) (hbase : base ≤ w.heap.size)
    (hs : evalE ev s = v) (hx : evalE ev x = .slice (some ⟨b, o, none⟩) m c)
    (hφ : ∀ v' w', Pk w' base size v' (n + m) (xs ++ news) → w.grownBy w' v.ownBlock → (∀ k, v'.ownBlock = some k → v.ownBlock = some k ∨ w.heap.size ≤ k) → R w w' ∧ φ v' w') :
    GoodX R P w φ ((execOp (evalE ev) ⟨d, .call { callee := .builtin .append, args := #[s, x], argTypes := #[t, t] }, tt, pp, af, g⟩).run P w) := by
  obtain ⟨v', w', hrun, h2, h3, h4⟩ := run_append_pk (P := P) (ty := tt) (t := t) hT hown hnews hl h1 hm hlen hbytes hbase (c := c)
  simp [execOp, resolve, invoke, builtin, hs, hx, hrun, Result.andThen]
  exact hφ v' w' h2 h3 h4
theorem goodX_build1 {R : World → World → Prop} {t e : TypeId} {z : Value} {bytes n : Nat} (hT : SlT P t e z n bytes) (hn : n ≤ 1000) {ev : Nat → Value} {w : World} {φ : Value → World → Prop} {d : Option Tmp} {tt : TypeId} {pp : String} {af : Array Edge} {g : Option (Nat × Bool)} {x : Operand} {cs : Array Value} (hx : evalE ev x = .agg cs) (hs : cs.size = n) (hR : R w (w.alloc (.cells cs e))) (hφ : φ (.slice (some ⟨w.heap.size, 0, none⟩) 1 1) (w.alloc (.cells cs e))) :
    GoodX R P w φ ((execOp (evalE ev) ⟨d, .buildSlice t 1 #[(0, x)], tt, pp, af, g⟩).run P w) := by
  have h := build1 hT hn w cs hs
  unfold execOp
  simp only [hx, List.map_toArray, List.map_cons, List.map_nil, Sem.run_bind, Sem.run_pure, h, Result.andThen_ok]
  exact ⟨hR, hφ⟩
end
/-- what holds while a frontier's peaks grow: the operation ib lays the new digest into the slot tb, ia appends it into ta -/
structure JA (ia ib ta tb B b D : Nat) (X : Value) (n k : Nat) (xs : List Value) (dg : List Int) (w0 : World) (d : Nat → Bool) (u : Nat → Value) (w : World) : Prop where
  c0 : w.cell? ⟨b, 0, none⟩ = some (.int .i64 n)
  c1 : w.cell? ⟨b, 1, none⟩ = some X
  f0 : w.frozen? ⟨b, 0, none⟩ = false
  f1 : w.frozen? ⟨b, 1, none⟩ = false
  box : BoxD w D dg
  ne : X.ownBlock ≠ some b
  nd : X.ownBlock ≠ some D
  hb : B ≤ b
  hX : ∀ j, X.ownBlock = some j → B ≤ j
  ad : Adds w0 w b X.ownBlock
  le : B ≤ w0.heap.size
  pk : d ia = false → Pk w 0 32 X k xs
  bl : d ib = true → d ia = false → ∃ g, u tb = .slice (some ⟨g, 0, none⟩) 1 1 ∧ w.rangeAt g 0 (ints .u8 dg)
  nw : d ia = true → Pk w 0 32 (u ta) (k + 1) (xs ++ ints .u8 dg) ∧ (∀ j, (u ta).ownBlock = some j → X.ownBlock = some j ∨ w0.heap.size ≤ j)
section
variable {ia ib ta tb B b D : Nat} {X : Value} {n k : Nat} {xs : List Value} {dg : List Int} {w0 : World} {d : Nat → Bool} {u : Nat → Value} {w : World}
theorem JA.same {i : Nat} {t : Nat} {v : Value} (h : JA ia ib ta tb B b D X n k xs dg w0 d u w) (hi : (decide (ia = i) || decide (ib = i) || decide (ta = t) || decide (tb = t)) = false) : JA ia ib ta tb B b D X n k xs dg w0 (upd d i) (updv (some t) u v) w := by
  simp only [Bool.or_eq_false_iff, decide_eq_false_iff_not] at hi
  obtain ⟨⟨⟨h1, h2⟩, h3⟩, h4⟩ := hi
  refine ⟨h.c0, h.c1, h.f0, h.f1, h.box, h.ne, h.nd, h.hb, h.hX, h.ad, h.le, ?_, ?_, ?_⟩
  · unfold upd; simp only [if_neg h1]; exact h.pk
  · unfold upd updv; simp only [if_neg h1, if_neg h2, if_neg h4]; exact h.bl
  · unfold upd updv; simp only [if_neg h1, if_neg h3]; exact h.nw
/-- the digest is laid -/
theorem JA.lay {e : TypeId} (h : JA ia ib ta tb B b D X n k xs dg w0 d u w) (hab : (decide (ia = ib) || decide (ta = tb)) = false) (ha : d ia = false) : JA ia ib ta tb B b D X n k xs dg w0 (upd d ib) (updv (some tb) u (.slice (some ⟨w.heap.size, 0, none⟩) 1 1)) (w.alloc (.cells (ints .u8 dg).toArray e)) := by
  simp only [Bool.or_eq_false_iff, decide_eq_false_iff_not] at hab
  obtain ⟨h1, h2⟩ := hab
  have hE := ext_alloc w (.cells (ints .u8 dg).toArray e)
  have hbl := World.block_lt_of_cell? _ _ h.c0
  have hc := (bcell hE)
  refine ⟨(hc.1 _ _ hbl).trans h.c0, (hc.1 _ _ hbl).trans h.c1, (hc.2 _ _ hbl).trans h.f0, (hc.2 _ _ hbl).trans h.f1, h.box.ext hE, h.ne, h.nd, h.hb, h.hX, ⟨hE.os.trans h.ad.os, hE.tape.trans h.ad.tape, hE.output.trans h.ad.output, Nat.le_trans h.ad.size hE.size, fun j hj hjb hjr => (hE.block j (Nat.lt_of_lt_of_le hj h.ad.size)).trans (h.ad.block j hj hjb hjr)⟩, h.le, ?_, ?_, ?_⟩
  · unfold upd; simp only [if_neg h1]; exact fun q => (h.pk q).ext hE
  · unfold upd updv; simp only [if_neg h1, if_true]
    exact fun _ _ => ⟨_, rfl, range_box w dg e⟩
  · unfold upd; simp only [if_neg h1]
    intro q; rw [ha] at q; cases q
/-- it is appended -/
theorem JA.app {v' : Value} {w' : World} (h : JA ia ib ta tb B b D X n k xs dg w0 d u w) (hab : (decide (ia = ib) || decide (ta = tb)) = false) (h2 : Pk w' 0 32 v' (k + 1) (xs ++ ints .u8 dg)) (h3 : w.grownBy w' X.ownBlock) (h4 : ∀ j, v'.ownBlock = some j → X.ownBlock = some j ∨ w.heap.size ≤ j) : Below B w w' ∧ JA ia ib ta tb B b D X n k xs dg w0 (upd d ia) (updv (some ta) u v') w' := by
  simp only [Bool.or_eq_false_iff, decide_eq_false_iff_not] at hab
  obtain ⟨h1, h5⟩ := hab
  have hbl := World.block_lt_of_cell? _ _ h.c0
  have hb : w'.heap[b]? = w.heap[b]? := h3.block b hbl (fun q => h.ne q.symm)
  have hB : Below B w w' := (Below.refl B w).grown h3 (Nat.le_trans h.le h.ad.size) (fun j hj => h.hX j hj)
  refine ⟨hB, ⟨?_, ?_, ?_, ?_, h.box.grown h3 h.nd, h.ne, h.nd, h.hb, h.hX, ?_, h.le, ?_, ?_, ?_⟩⟩
  · rw [World.cell?_of_block (w := w) hb]; exact h.c0
  · rw [World.cell?_of_block (w := w) hb]; exact h.c1
  · rw [World.frozen?_of_block (w := w) hb]; exact h.f0
  · rw [World.frozen?_of_block (w := w) hb]; exact h.f1
  · exact ⟨h3.os.trans h.ad.os, h3.tape.trans h.ad.tape, h3.output.trans h.ad.output, Nat.le_trans h.ad.size h3.size, fun j hj hjb hjr => (h3.block j (Nat.lt_of_lt_of_le hj h.ad.size) hjr).trans (h.ad.block j hj hjb hjr)⟩
  · unfold upd; simp
  · unfold upd; simp
  · unfold upd updv; simp only [if_true]
    exact fun _ => ⟨h2, fun j hj => (h4 j hj).imp id (fun q => Nat.le_trans h.ad.size q)⟩
/-- it is stored, and the size counted up -/
theorem JA.done {m : Nat} {ds : List (List Int)} (h : JA ia ib ta tb B b D X n k xs dg w0 d u w) (hb0 : b < w0.heap.size) {v : Value} (hv : u ta = v) (hd : d ia = true) (hm : (m : Int) = (n : Int) + 1) (hl : ds.length = k + 1) (hc : cellsD ds = xs ++ ints .u8 dg) (hdd : Dig ds) :
    Fr ((w.setCell ⟨b, 1, none⟩ v).setCell ⟨b, 0, none⟩ (.int .i64 ((n : Int) + 1))) b v m ds ∧ (∀ j, v.ownBlock = some j → X.ownBlock = some j ∨ w0.heap.size ≤ j) ∧ Adds w0 ((w.setCell ⟨b, 1, none⟩ v).setCell ⟨b, 0, none⟩ (.int .i64 ((n : Int) + 1))) b X.ownBlock := by
  obtain ⟨hp, ho⟩ := h.nw hd
  rw [hv] at hp ho
  have hh : ∀ j, j ≠ b → ((w.setCell ⟨b, 1, none⟩ v).setCell ⟨b, 0, none⟩ (.int .i64 ((n : Int) + 1))).heap[j]? = w.heap[j]? := fun j hj => (Below.heap_setCell _ ⟨b, 0, none⟩ _ j hj).trans (Below.heap_setCell w ⟨b, 1, none⟩ _ j hj)
  have hsz : w.heap.size ≤ ((w.setCell ⟨b, 1, none⟩ v).setCell ⟨b, 0, none⟩ (.int .i64 ((n : Int) + 1))).heap.size := (((Below.refl 0 w).setCell (Nat.zero_le _) _).setCell (Nat.zero_le _) _).size
  have hne : v.ownBlock ≠ some b := fun q => by
    rcases ho b q with q | q
    · exact h.ne q
    · omega
  refine ⟨⟨?_, ?_, ?_, ?_, ?_, hdd, hne⟩, ho, ⟨h.ad.os, h.ad.tape, h.ad.output, Nat.le_trans h.ad.size hsz, fun j hj hjb hjr => (hh j hjb).trans (h.ad.block j hj hjb hjr)⟩⟩
  · rw [hm]
    exact World.cell?_setCell_same' _ _ _ (by rw [cell_set_ne h.c0 (by decide)]; rfl)
  · exact cell_set_ne (World.cell?_setCell_same' _ _ _ (by rw [h.c1]; rfl)) (by decide)
  · rw [World.frozen?_setCell, World.frozen?_setCell]; exact h.f0
  · rw [World.frozen?_setCell, World.frozen?_setCell]; exact h.f1
  · rw [hl, hc]
    exact hp.kept (fun j hj => hh j (fun q => hne (by rw [hj, q]))) hsz
end
end Go.Proofs.Bl

/- Two variables that hold digests: made, written, handed back. No program. -/
namespace Go.Proofs.Bl
open Go Go.RowKit
theorem BoxD.zero {w : World} {X : Nat} {f : Nat → Int} (h : Fam w X .u8 32 f) (hf : ∀ i, i < 32 → f i = zs32.getD i 0) : BoxD w X zs32 := ⟨h.list rfl hf, h.there, rfl⟩
theorem BoxD.new (w : World) (t : TypeId) (cs : Array Value) (hcs : cs.toList = List.replicate 32 (Value.int .u8 0)) : BoxD (w.alloc (.cells cs t)) w.heap.size zs32 :=
  ⟨fun j v hv => by
    have hj : j < 32 := by have := (List.getElem?_eq_some_iff.1 hv).1; rwa [ints_length] at this
    rw [ints_get .u8 zs32 j hj] at hv
    cases hv
    rw [Nat.zero_add, World.cell?_alloc_new, ← Array.getElem?_toList, hcs, List.getElem?_replicate, if_pos hj, ← zs32_get j hj],
   fun j hj => by
    rw [Nat.zero_add, World.cell?_alloc_new, ← Array.getElem?_toList, hcs, List.getElem?_replicate, if_pos hj]
    exact ⟨rfl, by simp⟩, rfl⟩
theorem BoxD.same {w w' : World} {X : Nat} {d : List Int} (h : BoxD w X d) (hb : w'.heap[X]? = w.heap[X]?) : BoxD w' X d :=
  ⟨fun j v hv => by rw [World.cell?_of_block (w := w) hb]; exact h.rg j v hv, fun j hj => by rw [World.cell?_of_block (w := w) hb, World.frozen?_of_block (w := w) hb]; exact h.th j hj, h.len⟩
theorem BoxD.other {w : World} {X Y : Nat} {d : List Int} (h : BoxD w X d) (hne : X ≠ Y) (vs : List Value) : BoxD (w.setCells Y 0 vs) X d := h.same (exc_setCells vs 0 w (Exc.refl Y w) X hne)
theorem BoxD.loadVar {P : Program} {w : World} {X : Nat} {d : List Int} (h : BoxD w X d) {ty e : TypeId} (hu : P.underlying ty = some (.array 32 e)) (hi : (P.info? ty).map (·.size) = some 32) : (loadVar ty ⟨X, 0, none⟩).run P w = .ok (.agg (ints .u8 d).toArray) w :=
  run_loadVar_mid (P := P) w X 0 ty (ints .u8 d) _ h.rg hu rfl (by rw [ints_length, h.len]; exact hi)
theorem BoxD.store {P : Program} {w : World} {X : Nat} {d d' : List Int} (h : BoxD w X d) (hl : d'.length = 32) {ty : TypeId} (hi : (P.info? ty).map (·.size) = some 32) : (Instr.storeAt ty (.pointer (some ⟨X, 0, none⟩)) (.agg (ints .u8 d').toArray)).run P w = .ok () (w.setCells X 0 (ints .u8 d')) :=
  store_ints (P := P) (ty := ty) (k := .u8) (l := d') (n := 32) h.th hi hl
theorem box_len {w : World} {X : Nat} {d : List Int} (h : BoxD w X d) : X < w.heap.size := h.lt
theorem dig_box (w : World) (d : List Int) (t : TypeId) (h : d.length = 32) : BoxD (w.alloc (.cells (ints .u8 d).toArray t)) w.heap.size d :=
  ⟨range_box w d t, fun j hj => by
    rw [Nat.zero_add, World.cell?_alloc_new]
    exact ⟨by simp [ints_length, h, hj], by simp⟩, h⟩
/-- a result of two parts, both in variables -/
theorem results_cc {P : Program} {fn : Func} {p q : Tmp} {ta tb : TypeId} {tmps : Array Value} {w : World} {a b : Addr} {v u : Value} (h : fn.results = #[.cell p ta, .cell q tb]) (hp : tmps.getD p undef = .pointer (some a)) (hq : tmps.getD q undef = .pointer (some b)) (ha : (loadVar ta a).run P w = .ok v w) (hb : (loadVar tb b).run P w = .ok u w) :
    (results fn tmps).run P w = .ok (.tuple #[v, u]) w := by
  have hp' : tmps[p]?.getD undef = .pointer (some a) := by simpa using hp
  have hq' : tmps[q]?.getD undef = .pointer (some b) := by simpa using hq
  simp [results, h, hp', hq', asAddr, ha, hb]
theorem HJ.get {p : Nat} {A B : World → Prop} {d : Nat → Bool} {u : Nat → Value} {w : World} (h : HJ p A B d u w) (q : d p = false) : A w := h.2 q
theorem HJ.got {p : Nat} {A B : World → Prop} {d : Nat → Bool} {u : Nat → Value} {w : World} (h : HJ p A B d u w) (q : d p = true) : B w := h.1 q
/-- two variables -/
structure Duo (w : World) (A B : Nat) (x y : List Int) : Prop where
  a : BoxD w A x
  b : BoxD w B y
  ne : A ≠ B
theorem Duo.ext {w w' : World} {A B : Nat} {x y : List Int} (h : Duo w A B x y) (hE : Ext w w') : Duo w' A B x y := ⟨h.a.ext hE, h.b.ext hE, h.ne⟩
theorem Duo.setA {w : World} {A B : Nat} {x y x' : List Int} (h : Duo w A B x y) (hl : x'.length = 32) : Duo (w.setCells A 0 (ints .u8 x')) A B x' y := ⟨h.a.set hl, h.b.other (fun q => h.ne q.symm) _, h.ne⟩
theorem Duo.setB {w : World} {A B : Nat} {x y y' : List Int} (h : Duo w A B x y) (hl : y'.length = 32) : Duo (w.setCells B 0 (ints .u8 y')) A B x y' := ⟨h.a.other h.ne _, h.b.set hl, h.ne⟩
theorem Duo.new (w : World) (t : TypeId) (cs : Array Value) (hcs : cs.toList = List.replicate 32 (Value.int .u8 0)) : Duo ((w.alloc (.cells cs t)).alloc (.cells cs t)) w.heap.size (w.heap.size + 1) zs32 zs32 := by
  have h1 := BoxD.new w t cs hcs
  have h2 := BoxD.new (w.alloc (.cells cs t)) t cs hcs
  rw [World.size_alloc] at h2
  exact ⟨h1.ext (ext_alloc _ _), h2, by omega⟩
theorem Duo.other {w : World} {A B g : Nat} {x y : List Int} (h : Duo w A B x y) (ha : A ≠ g) (hb : B ≠ g) {w' : World} (hx : Exc g w w') : Duo w' A B x y := ⟨h.a.same (hx A ha), h.b.same (hx B hb), h.ne⟩
/-- what holds while two variables are made ('a, b := x, x'): operations iA, iB make them (slots tA, tB), iS writes the first -/
structure JTwo (iA iB iS tA tB base : Nat) (x : List Int) (d : Nat → Bool) (u : Nat → Value) (w : World) : Prop where
  a : d iA = true → ∃ X, u tA = .pointer (some ⟨X, 0, none⟩) ∧ base ≤ X ∧ (d iS = false → BoxD w X zs32) ∧ (d iS = true → BoxD w X x)
  b : d iB = true → ∃ Y, u tB = .pointer (some ⟨Y, 0, none⟩) ∧ base ≤ Y ∧ BoxD w Y zs32
  ne : d iA = true → d iB = true → u tA ≠ u tB
  le : base ≤ w.heap.size
theorem JTwo.start {iA iB iS tA tB base : Nat} {x : List Int} {u : Nat → Value} {w : World} (h : base ≤ w.heap.size) : JTwo iA iB iS tA tB base x (fun _ => false) u w := ⟨fun q => (by cases q), fun q => (by cases q), fun q => (by cases q), h⟩
section
variable {iA iB iS tA tB base : Nat} {x : List Int} {d : Nat → Bool} {u : Nat → Value} {w : World}
theorem JTwo.same {i t : Nat} {v : Value} (h : JTwo iA iB iS tA tB base x d u w) (hi : (decide (iA = i) || decide (iB = i) || decide (iS = i) || decide (tA = t) || decide (tB = t)) = false) : JTwo iA iB iS tA tB base x (upd d i) (updv (some t) u v) w := by
  simp only [Bool.or_eq_false_iff, decide_eq_false_iff_not] at hi
  obtain ⟨⟨⟨⟨h1, h2⟩, h3⟩, h4⟩, h5⟩ := hi
  refine ⟨?_, ?_, ?_, h.le⟩
  · unfold upd updv; simp only [if_neg h1, if_neg h3, if_neg h4]; exact h.a
  · unfold upd updv; simp only [if_neg h2, if_neg h5]; exact h.b
  · unfold upd updv; simp only [if_neg h1, if_neg h2, if_neg h4, if_neg h5]; exact h.ne
theorem JTwo.makeA {t : TypeId} {cs : Array Value} (h : JTwo iA iB iS tA tB base x d u w) (hcs : cs.toList = List.replicate 32 (Value.int .u8 0)) (hne : (decide (iA = iB) || decide (iA = iS) || decide (tA = tB)) = false) (hS : d iS = false) : JTwo iA iB iS tA tB base x (upd d iA) (updv (some tA) u (.pointer (some ⟨w.heap.size, 0, none⟩))) (w.alloc (.cells cs t)) := by
  simp only [Bool.or_eq_false_iff, decide_eq_false_iff_not] at hne
  obtain ⟨⟨h1, h2⟩, h3⟩ := hne
  have k1 : ¬ iB = iA := fun e => h1 e.symm
  have k2 : ¬ iS = iA := fun e => h2 e.symm
  have k3 : ¬ tB = tA := fun e => h3 e.symm
  have hE := ext_alloc w (.cells cs t)
  refine ⟨fun _ => ⟨w.heap.size, by simp [updv], h.le, fun _ => BoxD.new w t cs hcs, fun q => ?_⟩, fun q => ?_, fun _ q => ?_, Nat.le_trans h.le hE.size⟩
  · unfold upd at q; rw [if_neg k2, hS] at q; cases q
  · unfold upd at q; rw [if_neg k1] at q
    obtain ⟨Y, e1, e2, e3⟩ := h.b q
    exact ⟨Y, by unfold updv; simp only [if_neg k3]; exact e1, e2, e3.ext hE⟩
  · unfold upd at q; rw [if_neg k1] at q
    obtain ⟨Y, e1, e2, e3⟩ := h.b q
    unfold updv
    simp only [if_true, if_neg k3, e1]
    intro q2
    injection q2 with q2
    injection q2 with q2
    injection q2 with q2
    have := e3.lt
    omega
theorem JTwo.makeB {t : TypeId} {cs : Array Value} (h : JTwo iA iB iS tA tB base x d u w) (hcs : cs.toList = List.replicate 32 (Value.int .u8 0)) (hne : (decide (iB = iA) || decide (iB = iS) || decide (tB = tA)) = false) : JTwo iA iB iS tA tB base x (upd d iB) (updv (some tB) u (.pointer (some ⟨w.heap.size, 0, none⟩))) (w.alloc (.cells cs t)) := by
  simp only [Bool.or_eq_false_iff, decide_eq_false_iff_not] at hne
  obtain ⟨⟨h1, h2⟩, h3⟩ := hne
  have k1 : ¬ iA = iB := fun e => h1 e.symm
  have k2 : ¬ iS = iB := fun e => h2 e.symm
  have k3 : ¬ tA = tB := fun e => h3 e.symm
  have hE := ext_alloc w (.cells cs t)
  refine ⟨fun q => ?_, fun _ => ⟨w.heap.size, by simp [updv], h.le, BoxD.new w t cs hcs⟩, fun q _ => ?_, Nat.le_trans h.le hE.size⟩
  · unfold upd at q; rw [if_neg k1] at q
    obtain ⟨X, e1, e2, e3, e4⟩ := h.a q
    refine ⟨X, by unfold updv; simp only [if_neg k3]; exact e1, e2, fun q2 => (e3 ?_).ext hE, fun q2 => (e4 ?_).ext hE⟩
    · unfold upd at q2; rw [if_neg k2] at q2; exact q2
    · unfold upd at q2; rw [if_neg k2] at q2; exact q2
  · unfold upd at q; rw [if_neg k1] at q
    obtain ⟨X, e1, e2, e3, e4⟩ := h.a q
    unfold updv
    simp only [if_true, if_neg k3, e1]
    intro q2
    injection q2 with q2
    injection q2 with q2
    injection q2 with q2
    have : X < w.heap.size := by
      rcases Bool.eq_false_or_eq_true (d iS) with hs | hs
      · exact (e4 hs).lt
      · exact (e3 hs).lt
    omega
theorem JTwo.write {X : Nat} (h : JTwo iA iB iS tA tB base x d u w) (hx : x.length = 32) (hA : d iA = true) (hS : d iS = false) (hX : u tA = .pointer (some ⟨X, 0, none⟩)) (hne : (decide (iS = iA) || decide (iS = iB)) = false) : (∃ y, BoxD w X y) ∧ base ≤ X ∧ JTwo iA iB iS tA tB base x (upd d iS) u (w.setCells X 0 (ints .u8 x)) := by
  simp only [Bool.or_eq_false_iff, decide_eq_false_iff_not] at hne
  obtain ⟨X', e1, e2, e3, _⟩ := h.a hA
  rw [hX] at e1
  injection e1 with e1
  injection e1 with e1
  injection e1 with e1
  subst e1
  have hb := e3 hS
  refine ⟨⟨_, hb⟩, e2, ⟨fun _ => ⟨X, hX, e2, fun q => ?_, fun _ => hb.set hx⟩, fun q => ?_, fun q q2 => ?_, Nat.le_trans h.le (below_setCells _ X 0 w (Below.refl 0 w) (Nat.zero_le _)).size⟩⟩
  · unfold upd at q; rw [if_pos rfl] at q; cases q
  · unfold upd at q; rw [if_neg (fun e => hne.2 e.symm)] at q
    obtain ⟨Y, f1, f2, f3⟩ := h.b q
    refine ⟨Y, f1, f2, f3.other (fun e => ?_) _⟩
    subst e
    exact h.ne hA q (by rw [hX, f1])
  · unfold upd at q q2
    rw [if_neg (fun e => hne.1 e.symm)] at q
    rw [if_neg (fun e => hne.2 e.symm)] at q2
    exact h.ne q q2
theorem JTwo.done (h : JTwo iA iB iS tA tB base x d u w) (hA : d iA = true) (hB : d iB = true) (hS : d iS = true) : ∃ X Y, u tA = .pointer (some ⟨X, 0, none⟩) ∧ u tB = .pointer (some ⟨Y, 0, none⟩) ∧ base ≤ X ∧ base ≤ Y ∧ Duo w X Y x zs32 := by
  obtain ⟨X, a1, a2, _, a4⟩ := h.a hA
  obtain ⟨Y, b1, b2, b3⟩ := h.b hB
  exact ⟨X, Y, a1, b1, a2, b2, a4 hS, b3, fun e => h.ne hA hB (by rw [a1, b1, e])⟩
end
end Go.Proofs.Bl

/- Growth, plainly, in digests: peaks, carries, proofs, whether they hold; and that one proof holds for one old root alone. No program. -/
namespace Go.Proofs.Bl
open Go Go.RowKit
theorem trail_shift : ∀ (j n : Nat), j ≤ trail n → trail n = trail (n / 2 ^ j) + j
  | 0, n, _ => by simp
  | j + 1, n, h => by
    rcases Nat.mod_two_eq_zero_or_one n with h2 | h2
    · have := trail_even n h2; omega
    · have e := trail_odd n h2
      have ih := trail_shift j (n / 2) (by omega)
      rw [Nat.pow_succ', ← Nat.div_div_eq_div_mul]
      omega
theorem trail_bit (j n : Nat) (h : j ≤ trail n) : (n / 2 ^ j) % 2 = 1 ↔ j < trail n := by
  have e := trail_shift j n h
  rcases Nat.mod_two_eq_zero_or_one (n / 2 ^ j) with h2 | h2
  · have := trail_even _ h2
    constructor
    · intro q; omega
    · intro q; omega
  · have := trail_odd _ h2
    constructor
    · intro q; omega
    · intro q; exact h2
theorem foldr_drop {D : Type} (f : D → D → D) (ds : List D) (x z : D) (j : Nat) (h : j + 1 ≤ ds.length) : (ds.drop (ds.length - (j + 1))).foldr f x = f (ds.getD (ds.length - (j + 1)) z) ((ds.drop (ds.length - j)).foldr f x) := by
  have hk : ds.length - (j + 1) < ds.length := by omega
  rw [List.drop_eq_getElem_cons hk, List.foldr_cons, List.getD_eq_getElem?_getD, List.getElem?_eq_getElem hk]
  rw [show ds.length - (j + 1) + 1 = ds.length - j by omega]
  rfl
theorem ndD_dig (l r : List Int) : (ndD l r).length = 32 ∧ Byt (ndD l r) := ⟨rfl, sha_byt _⟩
theorem lfD_dig (l : List Int) : (lfD l).length = 32 ∧ Byt (lfD l) := ⟨rfl, sha_byt _⟩
theorem zD_dig : zD.length = 32 ∧ Byt zD := ⟨rfl, sha_byt _⟩
theorem foldr_dig (ds : List (List Int)) (x : List Int) (h : x.length = 32 ∧ Byt x) : (ds.foldr ndD x).length = 32 ∧ Byt (ds.foldr ndD x) := by
  cases ds with
  | nil => exact h
  | cons d r => exact ndD_dig _ _
theorem carry_dig (t : Nat) {ds : List (List Int)} (h : Dig ds) {x : List Int} (k : x.length = 32 ∧ Byt x) : Dig (carry ndD t ds x) :=
  (h.take _).append (Dig.one (foldr_dig _ _ k).1 (foldr_dig _ _ k).2)
theorem carry_length (t : Nat) (ds : List (List Int)) (x : List Int) : (carry ndD t ds x).length = ds.length - t + 1 := by
  unfold carry
  rw [List.length_append, List.length_take]
  simp
/-- a frontier's peaks -/
def peaksD (ds : List (List Int)) : List (List Int) := peaks ndD zD ds
theorem peaksD_dig : ∀ (n : Nat) (ds : List (List Int)), ds.length = n → Dig ds → ds.length + 1 < 2 ^ 63 → Dig (peaksD ds) := by
  intro n
  induction n using Nat.strongRecOn with
  | _ n ih =>
    intro ds hn hd hl
    by_cases h : 1 ≤ ds.length
    · obtain ⟨j, g1, g2, g3⟩ := gp_pow ds.length h hl
      have hpos : 0 < 2 ^ j := Nat.two_pow_pos j
      unfold peaksD
      rw [peaks_hi ndD zD ds h hl]
      obtain ⟨o1, o2⟩ := overD_dig _ (ds.take (gp ds.length)) rfl (hd.take _) (by rw [List.length_take]; omega)
      have h2 := ih (ds.drop (gp ds.length)).length (by rw [List.length_drop]; omega) _ rfl (hd.drop _) (by rw [List.length_drop]; omega)
      exact (Dig.one o1 o2).append h2
    · have : ds = [] := List.length_eq_zero_iff.1 (by omega)
      subst this
      exact Dig.nil
theorem peaksD_snoc (ds : List (List Int)) (x : List Int) (h : ds.length + 1 < 2 ^ 62) : peaksD (ds ++ [x]) = carry ndD (trail ds.length) (peaksD ds) x := peaks_snoc ndD zD _ ds x rfl h
theorem peaksD_trail (ds : List (List Int)) (h : ds.length + 1 < 2 ^ 62) : trail ds.length ≤ (peaksD ds).length := peaks_trail ndD zD _ ds rfl h
theorem peaksD_over (ds : List (List Int)) (h : ds.length + 1 < 2 ^ 63) : foldp ndD zD (peaksD ds) = overD ds := over_peaks ndD zD _ ds rfl h
theorem peaksD_len_le : ∀ (n : Nat) (ds : List (List Int)), ds.length = n → ds.length + 1 < 2 ^ 63 → (peaksD ds).length ≤ ds.length := by
  intro n
  induction n using Nat.strongRecOn with
  | _ n ih =>
    intro ds hn hl
    by_cases h : 1 ≤ ds.length
    · obtain ⟨j, g1, g2, g3⟩ := gp_pow ds.length h hl
      have hpos : 0 < 2 ^ j := Nat.two_pow_pos j
      unfold peaksD
      rw [peaks_hi ndD zD ds h hl]
      have h2 := ih (ds.drop (gp ds.length)).length (by rw [List.length_drop]; omega) _ rfl (by rw [List.length_drop]; omega)
      rw [List.length_drop] at h2
      simp only [List.length_cons]
      unfold peaksD at h2
      omega
    · have : ds = [] := List.length_eq_zero_iff.1 (by omega)
      subst this
      exact Nat.le_refl _
theorem trail_ones_le : ∀ (m n : Nat), n ≤ m → trail n ≤ ones n
  | 0, n, h => by obtain rfl : n = 0 := by omega
                  exact Nat.le_refl _
  | m + 1, n, h => by
    rcases Nat.mod_two_eq_zero_or_one n with h2 | h2
    · rw [trail_even n h2]; exact Nat.zero_le _
    · have := trail_ones_le m (n / 2) (by omega)
      rw [trail_odd n h2, ones_half n]; omega
/-- the proof of the first leaves, in digests -/
def proveD (ds : List (List Int)) (m : Nat) (w : Bool) : List (List Int) := prG ndD zD ds m w
theorem proveD_dig : ∀ (n m _fr : Nat) (w : Bool), 1 ≤ m → m ≤ n → n < 2 ^ 63 → ∀ ds : List (List Int), ds.length = n → Dig ds → Dig (proveD ds m w) :=
  steps_ind (fun m n _ w => ∀ ds : List (List Int), ds.length = n → Dig ds → Dig (proveD ds m w))
    (fun m fr w hm ds hl hd => by
      subst hl
      unfold proveD
      by_cases h63 : ds.length < 2 ^ 63
      · rw [prG_end ndD zD ds w hm]
        split
        · exact Dig.nil
        · obtain ⟨o1, o2⟩ := overD_dig _ ds rfl hd h63
          exact Dig.one o1 o2
      · rw [prG_end ndD zD ds w hm]
        split
        · exact Dig.nil
        · have : ∀ x ∈ [over ndD zD ds], x.length = 32 ∧ Byt x := fun x hx => by
            rw [List.mem_singleton] at hx
            subst hx
            unfold over
            cases hdl : ds.length with
            | zero => exact zD_dig
            | succ k =>
              simp only [overN]
              split
              · cases ds with
                | nil => simp at hdl
                | cons d r => exact hd d (by simp)
              · exact ndD_dig _ _
          exact this)
    (fun m n fr w hm hn h hs ih ds hl hd => by
      subst hl
      unfold proveD
      rw [prG_left ndD zD ds m w hm hn h hs]
      obtain ⟨a, b, c⟩ := sp_bounds ds.length (by omega) hn
      obtain ⟨o1, o2⟩ := overD_dig _ (ds.drop (sp ds.length)) rfl (hd.drop _) (by rw [List.length_drop]; omega)
      exact (ih _ (by rw [List.length_take]; omega) (hd.take _)).append (Dig.one o1 o2))
    (fun m n fr w hm hn h hs ih ds hl hd => by
      subst hl
      unfold proveD
      rw [prG_right ndD zD ds m w hm hn h hs]
      obtain ⟨a, b, c⟩ := sp_bounds ds.length (by omega) hn
      obtain ⟨o1, o2⟩ := overD_dig _ (ds.take (sp ds.length)) rfl (hd.take _) (by rw [List.length_take]; omega)
      exact (ih _ (by rw [List.length_drop]) (hd.drop _)).append (Dig.one o1 o2))
theorem proveD_len (ds : List (List Int)) (m : Nat) (w : Bool) (hm : 1 ≤ m) (hn : m ≤ ds.length) (h : ds.length < 2 ^ 63) : (proveD ds m w).length = cntG m ds.length w := prG_len ndD zD ds.length m 0 w hm hn h ds rfl
/-- both roots -/
def madeD (m n : Nat) (old : List Int) (w : Bool) (p : List (List Int)) : List Int × List Int := madeG ndD zD m n old w p
theorem madeD_prove (ds : List (List Int)) (m : Nat) (hm : 1 ≤ m) (hn : m ≤ ds.length) (h : ds.length < 2 ^ 63) : madeD m ds.length (overD (ds.take m)) true (proveD ds m true) = (overD (ds.take m), overD ds) :=
  made_prG ndD zD (overD (ds.take m)) ds.length m 0 true hm hn h ds rfl (fun _ => rfl)
theorem climb2_dig : ∀ (l : List (Bool × List Int)) (r : List Int × List Int), (r.1.length = 32 ∧ Byt r.1) → (r.2.length = 32 ∧ Byt r.2) → ((climb2 ndD r l).1.length = 32 ∧ Byt (climb2 ndD r l).1) ∧ ((climb2 ndD r l).2.length = 32 ∧ Byt (climb2 ndD r l).2)
  | [], _, h, k => ⟨h, k⟩
  | (b, d) :: t, r, h, k => climb2_dig t (up2 ndD r b d) (by unfold up2; split <;> first | exact ndD_dig _ _ | exact h) (by unfold up2; split <;> exact ndD_dig _ _)
theorem madeD_dig (m n : Nat) (old : List Int) (w : Bool) (p : List (List Int)) (h : old.length = 32 ∧ Byt old) (k : Dig p) : ((madeD m n old w p).1.length = 32 ∧ Byt (madeD m n old w p).1) ∧ ((madeD m n old w p).2.length = 32 ∧ Byt (madeD m n old w p).2) := by
  have hp : (p.headD zD).length = 32 ∧ Byt (p.headD zD) := by
    cases p with
    | nil => exact zD_dig
    | cons d r => exact k d (by simp)
  unfold madeD madeG
  split
  · exact climb2_dig _ _ h h
  · exact climb2_dig _ _ hp hp
/-- may there be such a proof -/
def thereG (m n : Int) : Bool := decide (1 ≤ m) && decide (m ≤ n) && decide (n ≤ 512)
theorem thereG_mk {m n : Int} (h1 : 1 ≤ m) (h2 : m ≤ n) (h3 : n ≤ 512) : thereG m n = true := by unfold thereG; simp [h1, h2, h3]
theorem thereG_no {m n : Int} (h : ¬ (1 ≤ m ∧ m ≤ n ∧ n ≤ 512)) : thereG m n = false := by
  unfold thereG
  rw [Bool.eq_false_iff]
  intro q
  simp only [Bool.and_eq_true, decide_eq_true_eq] at q
  exact h ⟨q.1.1, q.1.2, q.2⟩
def cntI (m n : Int) : Int := if thereG m n = true then (cntG m.toNat n.toNat true : Int) else -1
/-- an error's number, or 0 -/
def chkG (m n : Int) (old now : List Int) (p : List (List Int)) : Nat :=
  if thereG m n = true then (if p.length = cntG m.toNat n.toNat true then (if madeD m.toNat n.toNat old true p = (old, now) then 0 else 15) else 8) else 1
theorem chkG_no {m n : Int} {old now : List Int} {p : List (List Int)} (h : thereG m n = false) : chkG m n old now p = 1 := by unfold chkG; rw [h]; rfl
theorem chkG_size {m n : Nat} {old now : List Int} {p : List (List Int)} (h : thereG m n = true) (hp : ¬ p.length = cntG m n true) : chkG m n old now p = 8 := by
  unfold chkG; rw [if_pos h, if_neg (by simpa using hp)]
theorem chkG_ok {m n : Nat} {old now : List Int} {p : List (List Int)} (h : thereG m n = true) (hp : p.length = cntG m n true) (hf : madeD m n old true p = (old, now)) : chkG m n old now p = 0 := by
  unfold chkG; rw [if_pos h, if_pos (by simpa using hp), if_pos (by simpa using hf)]
theorem chkG_bad {m n : Nat} {old now : List Int} {p : List (List Int)} (h : thereG m n = true) (hp : p.length = cntG m n true) (hf : ¬ madeD m n old true p = (old, now)) : chkG m n old now p = 15 := by
  unfold chkG; rw [if_pos h, if_pos (by simpa using hp), if_neg (by simpa using hf)]
theorem chkG_zero {m n : Int} {old now : List Int} {p : List (List Int)} (h : chkG m n old now p = 0) : ∃ a b : Nat, m = a ∧ n = b ∧ 1 ≤ a ∧ a ≤ b ∧ b ≤ 512 ∧ p.length = cntG a b true ∧ madeD a b old true p = (old, now) := by
  unfold chkG at h
  by_cases h1 : thereG m n = true
  · rw [if_pos h1] at h
    have h2 := h1
    unfold thereG at h2
    simp only [Bool.and_eq_true, decide_eq_true_eq] at h2
    obtain ⟨⟨h3, h4⟩, h5⟩ := h2
    obtain ⟨a, rfl⟩ := Int.eq_ofNat_of_zero_le (a := m) (by omega)
    obtain ⟨b, rfl⟩ := Int.eq_ofNat_of_zero_le (a := n) (by omega)
    by_cases h6 : p.length = cntG (a : Int).toNat (b : Int).toNat true
    · rw [if_pos h6] at h
      by_cases h7 : madeD (a : Int).toNat (b : Int).toNat old true p = (old, now)
      · exact ⟨a, b, rfl, rfl, by omega, by omega, by omega, by simpa using h6, by simpa using h7⟩
      · rw [if_neg h7] at h; cases h
    · rw [if_neg h6] at h; cases h
  · rw [if_neg h1] at h; cases h
theorem chkG_prove (ds : List (List Int)) (m : Nat) (hm : 1 ≤ m) (hn : m ≤ ds.length) (h : ds.length ≤ 512) : chkG m ds.length (overD (ds.take m)) (overD ds) (proveD ds m true) = 0 :=
  chkG_ok (thereG_mk (by omega) (by omega) (by omega)) (proveD_len ds m true hm hn (by omega)) (madeD_prove ds m hm hn (by omega))
/-- the way from n down to m by left halves alone: from how many leaves each step goes down -/
def wayN : Nat → Nat → Nat → List Nat
  | 0, _, _ => []
  | f + 1, m, n => if m < n then n :: wayN f m (sp n) else []
def wayL (m n : Nat) : List Nat := wayN n m n
theorem wayN_fuel : ∀ (f g m n : Nat), 1 ≤ m → n ≤ f → n ≤ g → n < 2 ^ 63 → wayN f m n = wayN g m n
  | 0, 0, _, _, _, _, _, _ => rfl
  | 0, g + 1, m, n, hm, h, _, _ => by simp only [wayN]; rw [if_neg (by omega)]
  | f + 1, 0, m, n, hm, _, h, _ => by simp only [wayN]; rw [if_neg (by omega)]
  | f + 1, g + 1, m, n, hm, h, k, hn => by
    simp only [wayN]
    by_cases h1 : m < n
    · obtain ⟨a, b, c⟩ := sp_bounds n (by omega) hn
      rw [if_pos h1, if_pos h1, wayN_fuel f g m (sp n) hm (by omega) (by omega) (by omega)]
    · rw [if_neg h1, if_neg h1]
theorem wayL_end (m n : Nat) (h : ¬ m < n) : wayL m n = [] := by
  unfold wayL
  cases n with
  | zero => rfl
  | succ n => simp only [wayN]; rw [if_neg h]
theorem wayL_step (m n : Nat) (hm : 1 ≤ m) (hn : n < 2 ^ 63) (h : m < n) : wayL m n = n :: wayL m (sp n) := by
  obtain ⟨a, b, c⟩ := sp_bounds n (by omega) hn
  unfold wayL
  rw [wayN_fuel n (n - 1 + 1) m n hm (by omega) (by omega) hn]
  simp only [wayN]
  rw [if_pos h, wayN_fuel (n - 1) (sp n) m (sp n) hm (by omega) (Nat.le_refl _) (by omega)]
/-- the steps are all from left halves -/
def allL (m n : Nat) : Prop := ∀ k ∈ wayL m n, m ≤ sp k
theorem steps_whole : ∀ n m fr w, 1 ≤ m → m ≤ n → n < 2 ^ 63 → (stepsL m n fr w).2.1 = true → w = true ∧ allL m n ∧ (stepsL m n fr w).1.length = (wayL m n).length ∧ ∀ s ∈ (stepsL m n fr w).1, s.1 = false :=
  steps_ind (fun m n fr w => (stepsL m n fr w).2.1 = true → w = true ∧ allL m n ∧ (stepsL m n fr w).1.length = (wayL m n).length ∧ ∀ s ∈ (stepsL m n fr w).1, s.1 = false)
    (fun m fr w hm h => by
      rw [stepsL_end _ _ _ _ (Nat.lt_irrefl _)] at h ⊢
      unfold allL
      rw [wayL_end _ _ (Nat.lt_irrefl _)]
      exact ⟨h, fun k hk => (by cases hk), rfl, fun s hs => (by cases hs)⟩)
    (fun m n fr w hm hn h hs ih hh => by
      rw [stepsL_left m n fr w hm hn h hs] at hh ⊢
      obtain ⟨i1, i2, i3, i4⟩ := ih hh
      unfold allL
      rw [wayL_step m n hm hn h]
      refine ⟨i1, fun k hk => ?_, by simp only [List.length_cons]; rw [i3], fun s hx => ?_⟩
      · rcases List.mem_cons.1 hk with rfl | hk
        · exact hs
        · exact i2 k hk
      · rcases List.mem_cons.1 hx with rfl | hx
        · rfl
        · exact i4 s hx)
    (fun m n fr w hm hn h hs ih hh => by
      rw [stepsL_right m n fr w hm hn h hs] at hh
      obtain ⟨i1, _⟩ := ih hh
      cases i1)
theorem climb2_left : ∀ (l : List (Bool × List Int)) (r : List Int × List Int), (∀ x ∈ l, x.1 = false) → climb2 ndD r l = (r.1, (l.map (·.2)).foldl ndD r.2)
  | [], _, _ => rfl
  | (b, d) :: t, r, h => by
    have hb : b = false := h (b, d) (by simp)
    subst hb
    rw [climb2, climb2_left t _ (fun x hx => h x (by simp [hx]))]
    rfl
theorem zip_snd {α : Type} : ∀ (ks : List Bool) (p : List α), ks.length = p.length → (ks.zip p).map (·.2) = p
  | [], [], _ => rfl
  | [], _ :: _, h => by simp at h
  | _ :: _, [], h => by simp at h
  | k :: ks, d :: p, h => by
    simp only [List.zip_cons_cons, List.map_cons]
    rw [zip_snd ks p (by simpa using h)]
theorem zip_fst_mem {α : Type} (ks : List Bool) (p : List α) (x : Bool × α) (h : x ∈ ks.zip p) : x.1 ∈ ks := by
  induction ks generalizing p with
  | nil => simp at h
  | cons k ks ih =>
    cases p with
    | nil => simp at h
    | cons d p =>
      simp only [List.zip_cons_cons, List.mem_cons] at h
      rcases h with rfl | h
      · simp
      · exact List.mem_cons_of_mem _ (ih p h)
/-- a proof that is about all from the beginning: the new root out of the old one -/
theorem madeD_whole (m n : Nat) (old : List Int) (p : List (List Int)) (hm : 1 ≤ m) (hmn : m ≤ n) (hn : n < 2 ^ 63) (h : (stepsL m n 0 true).2.1 = true) (hp : p.length = cntG m n true) : madeD m n old true p = (old, p.foldl ndD old) ∧ allL m n ∧ (wayL m n).length = p.length := by
  obtain ⟨_, i2, i3, i4⟩ := steps_whole n m 0 true hm hmn hn h
  have hc : cntG m n true = (stepsL m n 0 true).1.length := by unfold cntG; rw [if_pos h, Nat.add_zero]
  rw [hc] at hp
  refine ⟨?_, i2, by rw [hp, i3]⟩
  unfold madeD madeG
  rw [if_pos h, climb2_left _ _ (fun x hx => ?_), zip_snd _ _ (by rw [List.length_reverse, List.length_map, hp])]
  have := zip_fst_mem _ _ x hx
  rw [List.mem_reverse, List.mem_map] at this
  obtain ⟨s, hs, hx2⟩ := this
  rw [← hx2]
  exact i4 s hs
/-- one proof, two old roots: it is about all from the beginning -/
theorem one_old (m n : Nat) (old other now : List Int) (p : List (List Int)) (hm : 1 ≤ m) (hmn : m ≤ n) (hn : n < 2 ^ 63) (hp : p.length = cntG m n true) (h1 : madeD m n old true p = (old, now)) (h2 : madeD m n other true p = (other, now)) (hne : old ≠ other) :
    p.foldl ndD old = now ∧ p.foldl ndD other = now ∧ allL m n ∧ (wayL m n).length = p.length := by
  by_cases hw : (stepsL m n 0 true).2.1 = true
  · obtain ⟨a1, a2, a3⟩ := madeD_whole m n old p hm hmn hn hw hp
    obtain ⟨b1, _, _⟩ := madeD_whole m n other p hm hmn hn hw hp
    rw [h1] at a1
    rw [h2] at b1
    injection a1 with _ a1
    injection b1 with _ b1
    exact ⟨a1.symm, b1.symm, a2, a3⟩
  · exfalso
    apply hne
    unfold madeD madeG at h1 h2
    rw [if_neg hw] at h1 h2
    rw [h1] at h2
    injection h2
theorem foldl_dig (p : List (List Int)) (x : List Int) (h : x.length = 32 ∧ Byt x) : (p.foldl ndD x).length = 32 ∧ Byt (p.foldl ndD x) := by
  induction p generalizing x with
  | nil => exact h
  | cons d r ih => exact ih _ (ndD_dig _ _)
theorem foldl_take (p : List (List Int)) (x : List Int) (i : Nat) (h : i < p.length) : (p.take (i + 1)).foldl ndD x = ndD ((p.take i).foldl ndD x) (p.getD i []) := by
  rw [List.take_succ_eq_append_getElem h, List.foldl_append, List.getD_eq_getElem?_getD, List.getElem?_eq_getElem h]
  rfl
end Go.Proofs.Bl

/- As many peaks as the number has ones; variables that a region makes in whatever order; elements of rows. No program. -/
namespace Go.Proofs.Bl
open Go Go.RowKit
theorem ones_pow : ∀ (j r : Nat), r < 2 ^ j → ones (2 ^ j + r) = 1 + ones r
  | 0, r, h => by obtain rfl : r = 0 := by simpa using h
                  rfl
  | j + 1, r, h => by
    have e : 2 ^ (j + 1) = 2 * 2 ^ j := by rw [Nat.pow_succ]; omega
    have ih := ones_pow j (r / 2) (by omega)
    rw [ones_half (2 ^ (j + 1) + r), ones_half r, show (2 ^ (j + 1) + r) / 2 = 2 ^ j + r / 2 by omega, ih]
    omega
theorem peaksD_ones : ∀ (n : Nat) (ds : List (List Int)), ds.length = n → ds.length + 1 < 2 ^ 63 → (peaksD ds).length = ones n := by
  intro n
  induction n using Nat.strongRecOn with
  | _ n ih =>
    intro ds hn hl
    by_cases h : 1 ≤ ds.length
    · obtain ⟨j, g1, g2, g3⟩ := gp_pow ds.length h hl
      have hpos : 0 < 2 ^ j := Nat.two_pow_pos j
      unfold peaksD
      rw [peaks_hi ndD zD ds h hl]
      have h2 := ih (ds.drop (gp ds.length)).length (by rw [List.length_drop]; omega) _ rfl (by rw [List.length_drop]; omega)
      rw [List.length_cons]
      unfold peaksD at h2
      rw [h2, List.length_drop, ← hn, g1]
      have := ones_pow j (ds.length - 2 ^ j) (by omega)
      rw [show 2 ^ j + (ds.length - 2 ^ j) = ds.length by omega] at this
      omega
    · have h0 : ds = [] := List.length_eq_zero_iff.1 (by omega)
      subst h0
      subst hn
      rfl
/-- variables of digests that are made in whatever order: operation numbers and slots -/
structure JAl (vs : List (Nat × Nat)) (base : Nat) (d : Nat → Bool) (u : Nat → Value) (w : World) : Prop where
  al : ∀ p ∈ vs, d p.1 = true → ∃ X, u p.2 = .pointer (some ⟨X, 0, none⟩) ∧ base ≤ X ∧ BoxD w X zs32
  ne : ∀ p ∈ vs, ∀ q ∈ vs, p.1 ≠ q.1 → d p.1 = true → d q.1 = true → u p.2 ≠ u q.2
  le : base ≤ w.heap.size
theorem JAl.start {vs : List (Nat × Nat)} {base : Nat} {u : Nat → Value} {w : World} (h : base ≤ w.heap.size) : JAl vs base (fun _ => false) u w := ⟨fun _ _ q => (by cases q), fun _ _ _ _ _ q => (by cases q), h⟩
section
variable {vs : List (Nat × Nat)} {base : Nat} {d : Nat → Bool} {u : Nat → Value} {w w' : World}
theorem JAl.step {i t : Nat} {v : Value} (h : JAl vs base d u w) (hE : Ext w w') (hi : (vs.all fun p => decide (p.1 ≠ i) && decide (p.2 ≠ t)) = true) : JAl vs base (upd d i) (updv (some t) u v) w' := by
  have key : ∀ p ∈ vs, upd d i p.1 = d p.1 ∧ updv (some t) u v p.2 = u p.2 := fun p hp => by
    have h1 := List.all_eq_true.1 hi p hp
    simp only [Bool.and_eq_true, decide_eq_true_eq] at h1
    exact ⟨if_neg h1.1, if_neg h1.2⟩
  refine ⟨fun p hp q => ?_, fun p hp q hq hpq k1 k2 => ?_, Nat.le_trans h.le hE.size⟩
  · rw [(key p hp).1] at q
    obtain ⟨X, e1, e2, e3⟩ := h.al p hp q
    exact ⟨X, by rw [(key p hp).2]; exact e1, e2, e3.ext hE⟩
  · rw [(key p hp).1] at k1
    rw [(key q hq).1] at k2
    rw [(key p hp).2, (key q hq).2]
    exact h.ne p hp q hq hpq k1 k2
theorem JAl.same {i t : Nat} {v : Value} (h : JAl vs base d u w) (hi : (vs.all fun p => decide (p.1 ≠ i) && decide (p.2 ≠ t)) = true) : JAl vs base (upd d i) (updv (some t) u v) w := h.step (Below.refl _ _) hi
theorem JAl.make {i t : Nat} {e : TypeId} {cs : Array Value} (h : JAl vs base d u w) (hcs : cs.toList = List.replicate 32 (Value.int .u8 0)) (hi : (vs.all fun p => decide (p.1 = i) == decide (p.2 = t)) = true) : JAl vs base (upd d i) (updv (some t) u (.pointer (some ⟨w.heap.size, 0, none⟩))) (w.alloc (.cells cs e)) := by
  have hE := ext_alloc w (.cells cs e)
  have key : ∀ p ∈ vs, (p.1 = i ↔ p.2 = t) := fun p hp => by
    have h1 := List.all_eq_true.1 hi p hp
    simp only [beq_iff_eq, decide_eq_decide] at h1
    exact h1
  have old : ∀ p ∈ vs, ¬ p.1 = i → upd d i p.1 = true → ∃ X, u p.2 = .pointer (some ⟨X, 0, none⟩) ∧ base ≤ X ∧ BoxD w X zs32 := fun p hp hn q => by
    unfold upd at q; rw [if_neg hn] at q
    exact h.al p hp q
  refine ⟨fun p hp q => ?_, fun p hp q hq hpq k1 k2 => ?_, Nat.le_trans h.le hE.size⟩
  · by_cases hp1 : p.1 = i
    · exact ⟨w.heap.size, by unfold updv; simp only [if_pos ((key p hp).1 hp1)], h.le, BoxD.new w e cs hcs⟩
    · obtain ⟨X, e1, e2, e3⟩ := old p hp hp1 q
      exact ⟨X, by unfold updv; simp only [if_neg (fun z => hp1 ((key p hp).2 z))]; exact e1, e2, e3.ext hE⟩
  · by_cases hp1 : p.1 = i
    · have hq1 : ¬ q.1 = i := fun z => hpq (by rw [hp1, z])
      obtain ⟨X, e1, e2, e3⟩ := old q hq hq1 k2
      have hq2 : ¬ q.2 = t := fun z => hq1 ((key q hq).2 z)
      unfold updv
      simp only [if_pos ((key p hp).1 hp1), if_neg hq2, e1]
      intro z
      injection z with z
      injection z with z
      injection z with z
      have := e3.lt
      omega
    · have hp2 : ¬ p.2 = t := fun z => hp1 ((key p hp).2 z)
      by_cases hq1 : q.1 = i
      · obtain ⟨X, e1, e2, e3⟩ := old p hp hp1 k1
        unfold updv
        simp only [if_pos ((key q hq).1 hq1), if_neg hp2, e1]
        intro z
        injection z with z
        injection z with z
        injection z with z
        have := e3.lt
        omega
      · have hq2 : ¬ q.2 = t := fun z => hq1 ((key q hq).2 z)
        unfold upd at k1 k2
        rw [if_neg hp1] at k1
        rw [if_neg hq1] at k2
        unfold updv
        simp only [if_neg hp2, if_neg hq2]
        exact h.ne p hp q hq hpq k1 k2
end
/-- three variables -/
structure Tri (w : World) (A B C : Nat) (x y z : List Int) : Prop where
  a : BoxD w A x
  b : BoxD w B y
  c : BoxD w C z
  ab : A ≠ B
  ac : A ≠ C
  bc : B ≠ C
theorem Tri.ext {w w' : World} {A B C : Nat} {x y z : List Int} (h : Tri w A B C x y z) (hE : Ext w w') : Tri w' A B C x y z := ⟨h.a.ext hE, h.b.ext hE, h.c.ext hE, h.ab, h.ac, h.bc⟩
theorem Tri.setA {w : World} {A B C : Nat} {x y z x' : List Int} (h : Tri w A B C x y z) (hl : x'.length = 32) : Tri (w.setCells A 0 (ints .u8 x')) A B C x' y z := ⟨h.a.set hl, h.b.other (fun q => h.ab q.symm) _, h.c.other (fun q => h.ac q.symm) _, h.ab, h.ac, h.bc⟩
theorem Tri.setB {w : World} {A B C : Nat} {x y z y' : List Int} (h : Tri w A B C x y z) (hl : y'.length = 32) : Tri (w.setCells B 0 (ints .u8 y')) A B C x y' z := ⟨h.a.other h.ab _, h.b.set hl, h.c.other (fun q => h.bc q.symm) _, h.ab, h.ac, h.bc⟩
theorem Tri.setC {w : World} {A B C : Nat} {x y z z' : List Int} (h : Tri w A B C x y z) (hl : z'.length = 32) : Tri (w.setCells C 0 (ints .u8 z')) A B C x y z' := ⟨h.a.other h.ac _, h.b.other h.bc _, h.c.set hl, h.ab, h.ac, h.bc⟩
theorem JAl.three {i1 t1 i2 t2 i3 t3 base : Nat} {d : Nat → Bool} {u : Nat → Value} {w : World} (h : JAl [(i1, t1), (i2, t2), (i3, t3)] base d u w) (h1 : d i1 = true) (h2 : d i2 = true) (h3 : d i3 = true) (hne : (decide (i1 ≠ i2) && decide (i1 ≠ i3) && decide (i2 ≠ i3)) = true) :
    ∃ X Y Z, u t1 = .pointer (some ⟨X, 0, none⟩) ∧ u t2 = .pointer (some ⟨Y, 0, none⟩) ∧ u t3 = .pointer (some ⟨Z, 0, none⟩) ∧ base ≤ X ∧ base ≤ Y ∧ base ≤ Z ∧ Tri w X Y Z zs32 zs32 zs32 := by
  simp only [Bool.and_eq_true, decide_eq_true_eq] at hne
  obtain ⟨X, a1, a2, a3⟩ := h.al (i1, t1) (by simp) h1
  obtain ⟨Y, b1, b2, b3⟩ := h.al (i2, t2) (by simp) h2
  obtain ⟨Z, c1, c2, c3⟩ := h.al (i3, t3) (by simp) h3
  have n1 := h.ne (i1, t1) (by simp) (i2, t2) (by simp) hne.1.1 h1 h2
  have n2 := h.ne (i1, t1) (by simp) (i3, t3) (by simp) hne.1.2 h1 h3
  have n3 := h.ne (i2, t2) (by simp) (i3, t3) (by simp) hne.2 h2 h3
  refine ⟨X, Y, Z, a1, b1, c1, a2, b2, c2, a3, b3, c3, fun q => n1 ?_, fun q => n2 ?_, fun q => n3 ?_⟩
  · show u t1 = u t2
    rw [a1, b1, q]
  · show u t1 = u t3
    rw [a1, c1, q]
  · show u t2 = u t3
    rw [b1, c1, q]
/-- a place out of any number -/
theorem u64_in (o : Int) : 0 ≤ IntKind.u64.wrap o ∧ IntKind.u64.wrap o ≤ 18446744073709551615 := by
  have h : IntKind.u64.wrap o = o % 18446744073709551616 := rfl
  rw [h]; omega
theorem u64_mod (o : Int) (n : Nat) (h : 0 < n) : ∃ j : Nat, j < n ∧ IntKind.u64.wrap o % (n : Int) = (j : Int) := by
  have h1 := Int.emod_nonneg (IntKind.u64.wrap o) (b := (n : Int)) (by omega)
  have h2 := Int.emod_lt_of_pos (IntKind.u64.wrap o) (b := (n : Int)) (by omega)
  exact ⟨(IntKind.u64.wrap o % (n : Int)).toNat, by omega, by omega⟩
theorem peaks_next (ds : List (List Int)) (k : Nat) (h : k < ds.length) (hl : ds.length < 2 ^ 61) : peaksD (ds.take (k + 1)) = carry ndD (trail k) (peaksD (ds.take k)) (ds.getD k []) := by
  have hk : (ds.take k).length = k := by rw [List.length_take]; omega
  have h2 := peaksD_snoc (ds.take k) (ds.getD k []) (by omega)
  rw [hk] at h2
  rw [← h2, List.getD_eq_getElem?_getD, List.getElem?_eq_getElem h, List.take_succ_eq_append_getElem h]
  rfl
end Go.Proofs.Bl

/- In a round of a range over a function: loads and stores whose run is known; what a round leaves as it was, but for some blocks. No program. -/
namespace Go.Proofs.Bl
open Go Go.RowKit
section
variable {F : Fence} {nf : Nat} {P : Program} {ops : Array Oper} {rest : List Oper} {a : Act} {w w' : World} {Q : Exit → Act → World → Prop} {d : Option Tmp} {tt ty : TypeId} {pp : String} {af : Array Edge} {x y : Operand} {p v : Value}
theorem stopI_load (h : Stuck (wpListIn F nf P ops Q (⟨d, .load ty x, tt, pp, af, none⟩ :: rest) a w)) : wpListIn F nf P ops Q (⟨d, .load ty x, tt, pp, af, none⟩ :: rest) a w := h
theorem stopI_store (h : Stuck (wpListIn F nf P ops Q (⟨d, .store ty x y, tt, pp, af, none⟩ :: rest) a w)) : wpListIn F nf P ops Q (⟨d, .store ty x y, tt, pp, af, none⟩ :: rest) a w := h
theorem stopI_build {n : Nat} {xs : Array (Nat × Operand)} (h : Stuck (wpListIn F nf P ops Q (⟨d, .buildSlice ty n xs, tt, pp, af, none⟩ :: rest) a w)) : wpListIn F nf P ops Q (⟨d, .buildSlice ty n xs, tt, pp, af, none⟩ :: rest) a w := h
theorem wpLI_load (hx : a.eval x = p) (hld : (Instr.loadAt ty p).run P w = .ok v w) (h : wpListIn F nf P ops Q rest (a.put d v) w) :
    wpListIn F nf P ops Q (⟨d, .load ty x, tt, pp, af, none⟩ :: rest) a w :=
  wpListIn_plain rfl fun K hK => by
    unfold Oper.wpIn
    refine ⟨by simp [Oper.about], ?_⟩
    rw [Oper.semAt_plain F _ _ (by intro c hc; cases hc)]
    unfold execOp
    simp only [hx, Sem.run_bind, Sem.run_pure, Result.andThen_ok, hld]
    exact hK _ _ h
theorem wpLI_store (hx : a.eval x = p) (hy : a.eval y = v) (hst : (Instr.storeAt ty p v).run P w = .ok () w') (h : wpListIn F nf P ops Q rest (a.put d undef) w') :
    wpListIn F nf P ops Q (⟨d, .store ty x y, tt, pp, af, none⟩ :: rest) a w :=
  wpListIn_plain rfl fun K hK => by
    unfold Oper.wpIn
    refine ⟨by simp [Oper.about], ?_⟩
    rw [Oper.semAt_plain F _ _ (by intro c hc; cases hc)]
    unfold execOp
    simp only [hx, hy, Sem.run_bind, Sem.run_pure, Result.andThen_ok, hst]
    exact hK _ _ h
theorem wpLI_store0 (hx : a.eval x = p) (hy : a.eval y = v) (hst : (Instr.storeAt ty p v).run P w = .ok () w') (h : wpListIn F nf P ops Q rest a w') :
    wpListIn F nf P ops Q (⟨none, .store ty x y, tt, pp, af, none⟩ :: rest) a w := wpLI_store hx hy hst h
end
/-- all blocks below n but those of Q are as they were -/
def KeepS (Q : Nat → Prop) (n : Nat) (w w' : World) : Prop := w.heap.size ≤ w'.heap.size ∧ ∀ k, k < n → ¬ Q k → w'.heap[k]? = w.heap[k]?
theorem KeepS.refl (Q : Nat → Prop) (n : Nat) (w : World) : KeepS Q n w w := ⟨Nat.le_refl _, fun _ _ _ => rfl⟩
theorem KeepS.trans {Q : Nat → Prop} {n : Nat} {a b c : World} (h : KeepS Q n a b) (k : KeepS Q n b c) : KeepS Q n a c := ⟨Nat.le_trans h.1 k.1, fun i hi hg => (k.2 i hi hg).trans (h.2 i hi hg)⟩
theorem KeepS.cell {Q : Nat → Prop} {n : Nat} {w w' : World} (h : KeepS Q n w w') {b i : Nat} (hb : b < n) (hg : ¬ Q b) : w'.cell? ⟨b, i, none⟩ = w.cell? ⟨b, i, none⟩ := World.cell?_of_block (w := w) (h.2 b hb hg)
theorem KeepS.putObj {Q : Nat → Prop} {n : Nat} {w : World} (hn : n ≤ w.heap.size) (W : World) (l : Nat) (o o' : Obj) (hl : w.heap.size ≤ l) (_ : W.heap[l]? = some o) (_ : o.isCells = false) (_ : o.isWalk = false) : KeepS Q n W (W.putObj l o') :=
  ⟨by simp, fun k hk _ => World.putObj_heap_other (by omega)⟩
theorem KeepS.of_below {Q : Nat → Prop} {n B : Nat} {w w' : World} (h : Below B w w') (hn : n ≤ B) : KeepS Q n w w' := ⟨h.size, fun k hk _ => h.block k (by omega)⟩
theorem KeepS.setCells {Q : Nat → Prop} {n g : Nat} {a w : World} (h : KeepS Q n a w) (hg : Q g) (o : Nat) (vs : List Value) : KeepS Q n a (w.setCells g o vs) :=
  ⟨Nat.le_trans h.1 (below_setCells vs g o w (Below.refl 0 w) (Nat.zero_le _)).size, fun k hk hne => by
    exact (exc_setCells (g := g) vs o w (Exc.refl g w) k (fun e => hne (e ▸ hg))).trans (h.2 k hk hne)⟩
theorem KeepS.range {Q : Nat → Prop} {n : Nat} {w w' : World} (h : KeepS Q n w w') {b o : Nat} {vs : List Value} (hr : w.rangeAt b o vs) (hb : b < n) (hg : ¬ Q b) : w'.rangeAt b o vs := fun j v hv => (h.cell hb hg).trans (hr j v hv)
theorem ownFrom_keepS {β : Type} {Q : Nat → Prop} {n B : Nat} {w₀ : World} (hB : n ≤ B) (hn : n ≤ w₀.heap.size): OwnFrom B (fun (_ : β) W => KeepS Q n w₀ W) :=
  fun _ W W' row hs hg hr => by
    exact hs.trans ⟨hg.size, fun k hk _ => hg.block k (by have := hs.1; omega) (fun e => by have := (hr k e.symm).1; omega)⟩
theorem others_setCells {a : World} : ∀ (vs : List Value) (g o : Nat) (w : World), KeepsOthers a w → KeepsOthers a (w.setCells g o vs)
  | [], _, _, _, h => h
  | v :: r, g, o, w, h => by rw [World.setCells]; exact others_setCells r g (o + 1) _ (h.trans (KeepsOthers.setCell _ _ _))
theorem ownFrom_box {β : Type} {D B : Nat} {f : β → List Int} (hD : D < B) : OwnFrom B (fun (x : β) W => BoxD W D (f x)) :=
  fun _ _ _ _ hs hg hr => hs.grown hg (fun e => by have := (hr D e).1; omega)
theorem no_cell {w : World} {b i : Nat} {v : Value} {o : Obj} (h : w.cell? ⟨b, i, none⟩ = some v) (ho : w.heap[b]? = some o) (hc : o.isCells = false) : False := by
  simp only [World.cell?, ho] at h
  cases o <;> simp_all [Obj.isCells]
/-- a digest's own variable abides the turn of a block that is no cells -/
theorem BoxD.own {W W' : World} {X : Nat} {d : List Int} {row : Option Nat} {B : Nat} (h : BoxD W X d) (hg : W.grownBy W' row) (hr : ∀ r, row = some r → B ≤ r ∧ ∃ o : Obj, W.heap[r]? = some o ∧ o.isCells = false) : BoxD W' X d :=
  h.grown hg (fun e => by
    obtain ⟨_, o, ho, hc⟩ := hr X e
    exact no_cell (h.rg 0 (.int .u8 (d.getD 0 0)) (by rw [ints_get .u8 d 0 (by rw [h.len]; decide)])) ho hc)
/-- a range over a function whose variable is a new block in each round -/
theorem wpIn_rangeFunc_box {F : Fence} {n : Nat} {P : Program} {α : Type} {g : Operand} {ps : Array Tmp} {assign body : Code} {Q : Exit → Act → World → Prop} {a : Act} {w : World}
    (hro : F.round = none) (h1 : 1 ≤ n) {gf : Nat} {lb : Array Value} (hg : a.eval g = .func (.func gf) #[] lb) (hFg : F.fn gf) (eg : ∀ args w, (callFunc gf args).run P w = .ok (.enter gf args) w)
    {encs : α → Array Value} {Kp : World → World → Prop} {S Sp : List α → Prop} {N : Nat} {w0 : World} (hseq : SeqStopsK F (n - 1) P gf lb encs Kp S Sp N w0)
    (hKt : ∀ {A B C : World}, Kp A B → Kp B C → Kp A C) (hKb : ∀ (W : World) (l : Nat) (o o' : Obj), w.heap.size ≤ l → W.heap[l]? = some o → o.isCells = false → o.isWalk = false → Kp W (W.putObj l o')) (hb0 : Below w0.heap.size w0 w) (hps : ∀ x, (encs x).size = ps.size)
    (I : List α → World → Prop) (Ix : Code → List α → World → Prop) (hI : OwnFrom w.heap.size I) (hIx : ∀ c, OwnFrom w.heap.size (Ix c)) (h0 : I [] w) (A : Nat → α → Act) (Bx : α → Nat → World → Prop) (hBx : ∀ x X, OwnFrom w.heap.size (fun (_ : Unit) W => Bx x X W))
    (hassign : ∀ (l : Nat) (pre : List α) (x : α) (W : World) (K : Act → World → Prop), I pre W → (∀ X W', KeepsFrom w.heap.size W W' → Kp W W' → I pre W' → Bx x X W' → K (A X x) W') →
      assign.wpIn (F.inRound l) (n - 1 - 1) P (Exit.then K (fun _ _ _ => False)) { tmps := (ps.zip (encs x)).foldl (fun t (p, v) => t.setIfInBounds p v) a.tmps, defers := [] } W)
    (hbody : ∀ (l : Nat) (pre : List α) (x : α) (X : Nat) (W : World), I pre W → Bx x X W → pre.length < N → body.wpIn (F.inRound l) (n - 1 - 1) P (ownPostG w.heap.size Kp I Ix (pre ++ [x]) W) (A X x) W)
    (hdone : ∀ (D : Nat) (xs : List α) (W : World), w.heap.size ≤ D → S xs → I xs W → W.heap[D]? = some (.deferred (some [])) → Q .normal { a with defers := { target := .collected D, args := #[] } :: a.defers } W)
    (hstop : ∀ (D : Nat) (c : Code) (pre : List α) (W : World), w.heap.size ≤ D → Sp pre → Ix c pre W → W.heap[D]? = some (.deferred (some [])) → c.wpIn F n P Q { a with defers := { target := .collected D, args := #[] } :: a.defers } W) :
    (Code.rangeFunc g ps assign body).wpIn F n P Q a w :=
  wpIn_rangeFunc_ownH hro h1 hg hFg eg hseq (fun h k => hKt h k) hKb hb0 hps I Ix hI hIx h0 (fun x a' W => ∃ X, a' = A X x ∧ Bx x X W)
    (fun x a' s W W' row => by rintro ⟨X, e, hX⟩ hg hr; exact ⟨X, e, hBx x X () W W' row hX hg hr⟩)
    (fun l pre x W K hi hK => hassign l pre x W K hi (fun X W' h1 h2 h3 h4 => hK _ _ h1 h2 h3 ⟨X, rfl, h4⟩))
    (fun l pre x a' W _ _ hi hA hl => by obtain ⟨X, rfl, hX⟩ := hA; exact hbody l pre x X W hi hX hl) hdone hstop
end Go.Proofs.Bl

/- errors.Is by its contracts, where the target is a sentinel of errors.New's make: turned from the guide's worked text SentryIs. -/
namespace Go.Proofs.YtglenbikdahgjaaDoor
open Go.RowKit Go.Extern.Stop Go.Stop Go.Extern

/-! ### closed facts: what 'reflectlite.TypeOf(target).Comparable()' gives at such a target -/
def cmpE : Array Value → Sem Value := Extern.ReflectliteType.method fun t => do Extern.Rtype.noPackHeld "Comparable" t; pure (.bool (← typeInfo t).comparable)
theorem isComparable (w : World) : (cmpE #[.agg #[.pointer (some ⟨10, 136, none⟩)]]).run Tryd.prog w = .ok (.bool true) w := by kernel_rfl
theorem isComp : (Tryd.prog.info? 136).map (·.comparable) = some true := by kernel_rfl
theorem isSize : (Tryd.prog.info? 153).map (·.size) = some 1 := by kernel_rfl

/-! ### closed facts on the method sets: what errors.is's assertions find -/
end Go.Proofs.YtglenbikdahgjaaDoor

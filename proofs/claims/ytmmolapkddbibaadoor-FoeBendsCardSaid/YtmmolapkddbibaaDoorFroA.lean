/- 'x.f = append(x.f, d)' in a region that draws its order: a frontier's peaks grow. -/
import Derived.Test.YtmmolapkddbibaaDoorFro
import Derived.Test.YtmmolapkddbibaaDoorLib0
import Derived.Test.YtmmolapkddbibaaDoorTri0
import Derived.Test.YtmmolapkddbibaaDoorShaQ
namespace Go.Proofs.Bl
open Go Go.RowKit
section
variable {P : Program}
theorem run_append_pk {w : World} {t ty e : TypeId} {v z : Value} {base size bytes n m c b o : Nat} {xs news : List Value}
    (hT : SlT P t e z size bytes) (hown : Pk w base size v n xs) (hnews : w.rangeAt b o news) (hl : news.length = m * size) (h1 : ∀ u ∈ news, u.oneCell' = true) (_hm : 0 < m)
    (hlen : n + m ≤ maxLen) (hbytes : (n + m) * bytes ≤ 140737488355328) (hbase : base ≤ w.heap.size) :
    ∃ v' w', (Builtin.append_ #[t, t] ty #[v, .slice (some ⟨b, o, none⟩) m c]).run P w = .ok v' w' ∧ Pk w' base size v' (n + m) (xs ++ news) ∧ w.grownBy w' v.ownBlock ∧ (∀ k, v'.ownBlock = some k → v.ownBlock = some k ∨ w.heap.size ≤ k) := by
  obtain ⟨i, hi, hz, hs1, hb1⟩ := info_parts hT.info
  have hc : ∀ j u, news[j]? = some u → w.cell? ((⟨b, o, none⟩ : Addr).add j) = some u := fun j u hj => by rw [Addr.add_mid]; exact hnews j u hj
  rcases hown with ⟨rfl, rfl, rfl⟩ | ⟨g, cap, rfl, hg, hp⟩
  · obtain ⟨v', w', hr, h2, h3, _⟩ := run_append_own (P := P) w w.heap.size t ty e i z size bytes hT.ht hi hz hs1 hb1 hT.hz hT.pos (.slice none 0 0) 0 [] (World.ownsRow_nil w _ e size) ⟨b, o, none⟩ m c news hl hc h1 hlen hbytes (Nat.le_refl _)
    exact ⟨v', w', hr, Pk.of_owns (owns_mono h2 hbase), h3, fun k hk => .inr (h2.lt k hk).1⟩
  · have hps := hp.len
    by_cases hr : n + m ≤ cap
    · have hroom : (n + m) * size ≤ cap * size := Nat.mul_le_mul_right _ hr
      rw [Nat.add_mul] at hroom
      have hth : w.there g (0 + n * size) news.length := fun j hj => by
        have := hp.th (n * size + j) (by omega)
        rw [← Nat.add_assoc] at this
        exact this
      have hB := below_setCells news g (0 + n * size) w (Below.refl 0 w) (Nat.zero_le _)
      subst hs1
      refine ⟨_, _, run_append_room_cells (P := P) w t ty e i hT.ht hi g 0 n cap ⟨b, o, none⟩ m c news hl hc h1 hr (fun j hj => (hth j hj).1) (fun j hj => (hth j hj).2), .inr ⟨g, cap, rfl, hg, hr, hp.mx, by rw [List.length_append, hp.len, hl, Nat.add_mul], ?_, World.there_setCells hp.th _ _ _, Nat.lt_of_lt_of_le hp.lt hB.size⟩, ⟨hB.os, hB.tape, hB.output, hB.size, fun k hk hne => World.heap_setCells_other w g _ news hk (fun q => hne (by rw [q]; rfl))⟩, fun k hk => .inl hk⟩
      intro j u hu
      by_cases hj : j < xs.length
      · rw [List.getElem?_append_left hj] at hu
        exact World.rangeAt_setCells_apart hp.rg g (0 + n * i.size) news (.inr (.inl (by rw [hp.len]; omega))) j u hu
      · rw [List.getElem?_append_right (by omega)] at hu
        have := World.rangeAt_setCells_same w g (0 + n * i.size) news hth (j - xs.length) u hu
        rw [show 0 + n * i.size + (j - xs.length) = 0 + j by omega] at this
        exact this
    · obtain ⟨v', w', hrun, h2, h3⟩ := run_append_arg_grows (P := P) w t ty e i z size bytes hT.ht hi hz hs1 hb1 hT.hz hT.pos ⟨g, 0, none⟩ n cap xs hp.len (fun j u hj => by rw [Addr.add_mid]; exact hp.rg j u hj) ⟨b, o, none⟩ m c news hl hc (by omega) hlen hbytes
      exact ⟨v', w', hrun, Pk.of_owns (owns_mono h2 hbase), ⟨h3.os, h3.tape, h3.output, h3.size, fun k hk _ => h3.block k hk (by simp)⟩, fun k hk => .inr (h2.lt k hk).1⟩
theorem goodX_append {R : World → World → Prop} {ev : Nat → Value} {w : World} {φ : Value → World → Prop} {d : Option Tmp} {tt t e : TypeId} {pp : String} {af : Array Edge} {g : Option (Nat × Bool)} {s x : Operand} {v z : Value} {base size bytes n m c b o : Nat} {xs news : List Value}
    (hT : SlT P t e z size bytes) (hown : Pk w base size v n xs) (hnews : w.rangeAt b o news) (hl : news.length = m * size) (h1 : ∀ u ∈ news, u.oneCell' = true) (hm : 0 < m)
    (hlen : n + m ≤ maxLen) (hbytes : (n + m) * bytes ≤ 140737488355328) (hbase : base ≤ w.heap.size)
    (hs : evalE ev s = v) (hx : evalE ev x = .slice (some ⟨b, o, none⟩) m c)
    (hφ : ∀ v' w', Pk w' base size v' (n + m) (xs ++ news) → w.grownBy w' v.ownBlock → (∀ k, v'.ownBlock = some k → v.ownBlock = some k ∨ w.heap.size ≤ k) → R w w' ∧ φ v' w') :
    GoodX R P w φ ((execOp (evalE ev) ⟨d, .call { callee := .builtin .append, args := #[s, x], argTypes := #[t, t] }, tt, pp, af, g⟩).run P w) := by
  obtain ⟨v', w', hrun, h2, h3, h4⟩ := run_append_pk (P := P) (ty := tt) (t := t) hT hown hnews hl h1 hm hlen hbytes hbase (c := c)
  simp [execOp, resolve, invoke, builtin, hs, hx, hrun, Result.andThen]
  exact hφ v' w' h2 h3 h4
theorem goodX_build1 {R : World → World → Prop} {t e : TypeId} {z : Value} {bytes n : Nat} (hT : SlT P t e z n bytes) (hn : n ≤ 1000) {ev : Nat → Value} {w : World} {φ : Value → World → Prop} {d : Option Tmp} {tt : TypeId} {pp : String} {af : Array Edge} {g : Option (Nat × Bool)} {x : Operand} {cs : Array Value} (hx : evalE ev x = .agg cs) (hs : cs.size = n) (hR : R w (w.alloc (.cells cs e))) (hφ : φ (.slice (some ⟨w.heap.size, 0, none⟩) 1 1) (w.alloc (.cells cs e))) :
    GoodX R P w φ ((execOp (evalE ev) ⟨d, .buildSlice t 1 #[(0, x)], tt, pp, af, g⟩).run P w) := by
  have h := build1 hT hn w cs hs
  unfold execOp
  simp only [hx, List.map_toArray, List.map_cons, List.map_nil, Sem.run_bind, Sem.run_pure, h, Result.andThen_ok]
  exact ⟨hR, hφ⟩
end
/-- what holds while a frontier's peaks grow: the operation ib lays the new digest into the slot tb, ia appends it into ta -/
structure JA (ia ib ta tb B b D : Nat) (X : Value) (n k : Nat) (xs : List Value) (dg : List Int) (w0 : World) (d : Nat → Bool) (u : Nat → Value) (w : World) : Prop where
  c0 : w.cell? ⟨b, 0, none⟩ = some (.int .i64 n)
  c1 : w.cell? ⟨b, 1, none⟩ = some X
  f0 : w.frozen? ⟨b, 0, none⟩ = false
  f1 : w.frozen? ⟨b, 1, none⟩ = false
  box : BoxD w D dg
  ne : X.ownBlock ≠ some b
  nd : X.ownBlock ≠ some D
  hb : B ≤ b
  hX : ∀ j, X.ownBlock = some j → B ≤ j
  ad : Adds w0 w b X.ownBlock
  le : B ≤ w0.heap.size
  pk : d ia = false → Pk w 0 32 X k xs
  bl : d ib = true → d ia = false → ∃ g, u tb = .slice (some ⟨g, 0, none⟩) 1 1 ∧ w.rangeAt g 0 (ints .u8 dg)
  nw : d ia = true → Pk w 0 32 (u ta) (k + 1) (xs ++ ints .u8 dg) ∧ (∀ j, (u ta).ownBlock = some j → X.ownBlock = some j ∨ w0.heap.size ≤ j)
section
variable {ia ib ta tb B b D : Nat} {X : Value} {n k : Nat} {xs : List Value} {dg : List Int} {w0 : World} {d : Nat → Bool} {u : Nat → Value} {w : World}
theorem JA.same {i : Nat} {t : Nat} {v : Value} (h : JA ia ib ta tb B b D X n k xs dg w0 d u w) (hi : (decide (ia = i) || decide (ib = i) || decide (ta = t) || decide (tb = t)) = false) : JA ia ib ta tb B b D X n k xs dg w0 (upd d i) (updv (some t) u v) w := by
  simp only [Bool.or_eq_false_iff, decide_eq_false_iff_not] at hi
  obtain ⟨⟨⟨h1, h2⟩, h3⟩, h4⟩ := hi
  refine ⟨h.c0, h.c1, h.f0, h.f1, h.box, h.ne, h.nd, h.hb, h.hX, h.ad, h.le, ?_, ?_, ?_⟩
  · unfold upd; simp only [if_neg h1]; exact h.pk
  · unfold upd updv; simp only [if_neg h1, if_neg h2, if_neg h4]; exact h.bl
  · unfold upd updv; simp only [if_neg h1, if_neg h3]; exact h.nw
/-- the digest is laid -/
theorem JA.lay {e : TypeId} (h : JA ia ib ta tb B b D X n k xs dg w0 d u w) (hab : (decide (ia = ib) || decide (ta = tb)) = false) (ha : d ia = false) : JA ia ib ta tb B b D X n k xs dg w0 (upd d ib) (updv (some tb) u (.slice (some ⟨w.heap.size, 0, none⟩) 1 1)) (w.alloc (.cells (ints .u8 dg).toArray e)) := by
  simp only [Bool.or_eq_false_iff, decide_eq_false_iff_not] at hab
  obtain ⟨h1, h2⟩ := hab
  have hE := ext_alloc w (.cells (ints .u8 dg).toArray e)
  have hbl := World.block_lt_of_cell? _ _ h.c0
  have hc := (bcell hE)
  refine ⟨(hc.1 _ _ hbl).trans h.c0, (hc.1 _ _ hbl).trans h.c1, (hc.2 _ _ hbl).trans h.f0, (hc.2 _ _ hbl).trans h.f1, h.box.ext hE, h.ne, h.nd, h.hb, h.hX, ⟨hE.os.trans h.ad.os, hE.tape.trans h.ad.tape, hE.output.trans h.ad.output, Nat.le_trans h.ad.size hE.size, fun j hj hjb hjr => (hE.block j (Nat.lt_of_lt_of_le hj h.ad.size)).trans (h.ad.block j hj hjb hjr)⟩, h.le, ?_, ?_, ?_⟩
  · unfold upd; simp only [if_neg h1]; exact fun q => (h.pk q).ext hE
  · unfold upd updv; simp only [if_neg h1, if_true]
    exact fun _ _ => ⟨_, rfl, range_box w dg e⟩
  · unfold upd; simp only [if_neg h1]
    intro q; rw [ha] at q; cases q
/-- it is appended -/
theorem JA.app {v' : Value} {w' : World} (h : JA ia ib ta tb B b D X n k xs dg w0 d u w) (hab : (decide (ia = ib) || decide (ta = tb)) = false) (h2 : Pk w' 0 32 v' (k + 1) (xs ++ ints .u8 dg)) (h3 : w.grownBy w' X.ownBlock) (h4 : ∀ j, v'.ownBlock = some j → X.ownBlock = some j ∨ w.heap.size ≤ j) : Below B w w' ∧ JA ia ib ta tb B b D X n k xs dg w0 (upd d ia) (updv (some ta) u v') w' := by
  simp only [Bool.or_eq_false_iff, decide_eq_false_iff_not] at hab
  obtain ⟨h1, h5⟩ := hab
  have hbl := World.block_lt_of_cell? _ _ h.c0
  have hb : w'.heap[b]? = w.heap[b]? := h3.block b hbl (fun q => h.ne q.symm)
  have hB : Below B w w' := (Below.refl B w).grown h3 (Nat.le_trans h.le h.ad.size) (fun j hj => h.hX j hj)
  refine ⟨hB, ⟨?_, ?_, ?_, ?_, h.box.grown h3 h.nd, h.ne, h.nd, h.hb, h.hX, ?_, h.le, ?_, ?_, ?_⟩⟩
  · rw [World.cell?_of_block (w := w) hb]; exact h.c0
  · rw [World.cell?_of_block (w := w) hb]; exact h.c1
  · rw [World.frozen?_of_block (w := w) hb]; exact h.f0
  · rw [World.frozen?_of_block (w := w) hb]; exact h.f1
  · exact ⟨h3.os.trans h.ad.os, h3.tape.trans h.ad.tape, h3.output.trans h.ad.output, Nat.le_trans h.ad.size h3.size, fun j hj hjb hjr => (h3.block j (Nat.lt_of_lt_of_le hj h.ad.size) hjr).trans (h.ad.block j hj hjb hjr)⟩
  · unfold upd; simp
  · unfold upd; simp
  · unfold upd updv; simp only [if_true]
    exact fun _ => ⟨h2, fun j hj => (h4 j hj).imp id (fun q => Nat.le_trans h.ad.size q)⟩
/-- it is stored, and the size counted up -/
theorem JA.done {m : Nat} {ds : List (List Int)} (h : JA ia ib ta tb B b D X n k xs dg w0 d u w) (hb0 : b < w0.heap.size) {v : Value} (hv : u ta = v) (hd : d ia = true) (hm : (m : Int) = (n : Int) + 1) (hl : ds.length = k + 1) (hc : cellsD ds = xs ++ ints .u8 dg) (hdd : Dig ds) :
    Fr ((w.setCell ⟨b, 1, none⟩ v).setCell ⟨b, 0, none⟩ (.int .i64 ((n : Int) + 1))) b v m ds ∧ (∀ j, v.ownBlock = some j → X.ownBlock = some j ∨ w0.heap.size ≤ j) ∧ Adds w0 ((w.setCell ⟨b, 1, none⟩ v).setCell ⟨b, 0, none⟩ (.int .i64 ((n : Int) + 1))) b X.ownBlock := by
  obtain ⟨hp, ho⟩ := h.nw hd
  rw [hv] at hp ho
  have hh : ∀ j, j ≠ b → ((w.setCell ⟨b, 1, none⟩ v).setCell ⟨b, 0, none⟩ (.int .i64 ((n : Int) + 1))).heap[j]? = w.heap[j]? := fun j hj => (Below.heap_setCell _ ⟨b, 0, none⟩ _ j hj).trans (Below.heap_setCell w ⟨b, 1, none⟩ _ j hj)
  have hsz : w.heap.size ≤ ((w.setCell ⟨b, 1, none⟩ v).setCell ⟨b, 0, none⟩ (.int .i64 ((n : Int) + 1))).heap.size := (((Below.refl 0 w).setCell (Nat.zero_le _) _).setCell (Nat.zero_le _) _).size
  have hne : v.ownBlock ≠ some b := fun q => by
    rcases ho b q with q | q
    · exact h.ne q
    · omega
  refine ⟨⟨?_, ?_, ?_, ?_, ?_, hdd, hne⟩, ho, ⟨h.ad.os, h.ad.tape, h.ad.output, Nat.le_trans h.ad.size hsz, fun j hj hjb hjr => (hh j hjb).trans (h.ad.block j hj hjb hjr)⟩⟩
  · rw [hm]
    exact World.cell?_setCell_same' _ _ _ (by rw [cell_set_ne h.c0 (by decide)]; rfl)
  · exact cell_set_ne (World.cell?_setCell_same' _ _ _ (by rw [h.c1]; rfl)) (by decide)
  · rw [World.frozen?_setCell, World.frozen?_setCell]; exact h.f0
  · rw [World.frozen?_setCell, World.frozen?_setCell]; exact h.f1
  · rw [hl, hc]
    exact hp.kept (fun j hj => hh j (fun q => hne (by rw [hj, q]))) hsz
end
end Go.Proofs.Bl

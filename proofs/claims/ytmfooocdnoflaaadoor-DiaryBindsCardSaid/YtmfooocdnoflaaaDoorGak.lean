/- Texts that stood apart, in one: Ask, AskG. -/
import Derived.Test.YtmfooocdnoflaaaDoorOpn1
import Derived.Test.YtmfooocdnoflaaaDoorShaP
/- A struct of a root, two numbers, bytes and a path: in a variable, and as it came in. No program. -/
namespace Go.Proofs.Bl
open Go Go.ChangeShapes Go.WideShapes Go.ChangeAt Go.RowKit Go.Deep
/-- the cells of a root, two numbers, and two slices -/
structure AskC (cs : List Value) (root : List Int) (n i : Int) (vl vp : Value) : Prop where
  rt : cs.take 32 = ints .u8 root
  len : root.length = 32
  qn : cs[32]? = some (.int .i64 n)
  qi : cs[33]? = some (.int .i64 i)
  leaf : cs[34]? = some vl
  path : cs[35]? = some vp
/-- .. in a variable -/
structure AskAt (w : World) (B : Nat) (root : List Int) (n i : Int) (vl vp : Value) : Prop where
  rt : w.rangeAt B 0 (ints .u8 root)
  len : root.length = 32
  qn : w.cell? ⟨B, 32, none⟩ = some (.int .i64 n)
  qi : w.cell? ⟨B, 33, none⟩ = some (.int .i64 i)
  leaf : w.cell? ⟨B, 34, none⟩ = some vl
  path : w.cell? ⟨B, 35, none⟩ = some vp
theorem AskC.at' {cs : List Value} {root : List Int} {n i : Int} {vl vp : Value} (h : AskC cs root n i vl vp) (w : World) (e : TypeId) : AskAt (w.alloc (.cells cs.toArray e)) w.heap.size root n i vl vp := by
  have key : ∀ j v, cs[j]? = some v → (w.alloc (.cells cs.toArray e)).cell? ⟨w.heap.size, j, none⟩ = some v := fun j v hj => by
    rw [World.cell?_alloc_new]; simpa using hj
  refine ⟨fun j v hj => ?_, h.len, key _ _ h.qn, key _ _ h.qi, key _ _ h.leaf, key _ _ h.path⟩
  rw [Nat.zero_add]
  refine key j v ?_
  rw [← h.rt, List.getElem?_take] at hj
  split at hj
  · exact hj
  · cases hj
theorem AskAt.lt {w : World} {B : Nat} {root : List Int} {n i : Int} {vl vp : Value} (h : AskAt w B root n i vl vp) : B < w.heap.size := World.block_lt_of_cell? _ _ h.qn
theorem AskAt.ext {w w' : World} {B : Nat} {root : List Int} {n i : Int} {vl vp : Value} (h : AskAt w B root n i vl vp) (hE : Ext w w') : AskAt w' B root n i vl vp :=
  ⟨rangeAt_ext h.rt hE, h.len, ((bcell hE).1 _ _ h.lt).trans h.qn, ((bcell hE).1 _ _ h.lt).trans h.qi, ((bcell hE).1 _ _ h.lt).trans h.leaf, ((bcell hE).1 _ _ h.lt).trans h.path⟩
theorem AskAt.load {P : Program} {w : World} {B : Nat} {root : List Int} {n i : Int} {vl vp : Value} (h : AskAt w B root n i vl vp) {ty e : TypeId} (hu : P.underlying ty = some (.array 32 e)) (hi : (P.info? ty).map (·.size) = some 32) : (Instr.loadAt ty (.pointer (some ⟨B, 0, none⟩))).run P w = .ok (.agg (ints .u8 root).toArray) w := load_ints h.rt hu hi h.len
section
variable {H : Type} {enc : TypeId × Value → H} {P : Program} {w : World} {base : Nat}
theorem open_ask {t tr ti tb tp u : TypeId} {f0 f1 f2 f3 f4 : Field} (ht : P.underlying t = some (.struct #[f0, f1, f2, f3, f4])) (e0 : f0.type = tr) (e1 : f1.type = ti) (e2 : f2.type = ti) (e3 : f3.type = tb) (e4 : f4.type = tp)
    (o0 : f0.offset = 0) (o1 : f1.offset = 32) (o2 : f2.offset = 33) (o3 : f3.offset = 34) (o4 : f4.offset = 35)
    (hr : P.underlying tr = some (.array 32 u)) (hi : P.underlying ti = some (.int .i64)) (hb : P.underlying tb = some (.slice u)) (hp : P.underlying tp = some (.slice tr)) (hu : P.underlying u = some (.int .u8))
    (cu : P.cellsOf u = 1) (cr : P.cellsOf tr = 32) (ci : P.cellsOf ti = 1) (cb : P.cellsOf tb = 1) (cp : P.cellsOf tp = 1) {v : Value} {d : DataW H} {p : List MemPlace}
    (hval : Value.okWide P w .any base t v) (h : DataW.Trod enc P w 0 (fun _ => true) true t v d p) :
    ∃ cs root n i vl vp l ds, v = .agg cs.toArray ∧ AskC cs root n i vl vp ∧ Byt root ∧ Rd w .u8 vl l ∧ Byt l ∧ RdD w vp ds ∧ Dig ds := by
  obtain ⟨⟨L⟩, rfl, hsz⟩ := okWide_struct ht hval
  obtain ⟨fuel, hf⟩ := h
  obtain ⟨_, k, hk⟩ := od_fields ht hf
  obtain ⟨_, h0⟩ := hk 0 f0 rfl
  obtain ⟨_, h1⟩ := hk 1 f1 rfl
  obtain ⟨_, h2⟩ := hk 2 f2 rfl
  obtain ⟨_, h3⟩ := hk 3 f3 rfl
  obtain ⟨_, h4⟩ := hk 4 f4 rfl
  simp only [Value.cells] at h0 h1 h2 h3 h4
  rw [e0, o0, cr] at h0
  rw [e1, o1, ci] at h1
  rw [e2, o2, ci] at h2
  rw [e3, o3, cb] at h3
  rw [e4, o4, cp] at h4
  obtain ⟨root, hro, hrl, hrb⟩ := od_arr hr hu cu cr h0
  obtain ⟨n, hn, _⟩ := DataW.trod_int hi h1
  obtain ⟨i, hi', _⟩ := DataW.trod_int hi h2
  obtain ⟨vl, l, hvl, hl, hbl⟩ := od_bytes hb hu cu h3
  obtain ⟨vp, ds, hvp, hd, hdd⟩ := od_digs hp hr hu cu cr h4
  have one : ∀ (j : Nat) (x : Value), (L.drop j).take 1 = [x] → L[j]? = some x := fun j x hx => by
    have := congrArg (fun l => l[0]?) hx
    simpa [List.getElem?_take, List.getElem?_drop] using this
  exact ⟨L, root, n, i, vl, vp, l, ds, rfl, ⟨by simpa using hro, hrl, one _ _ hn, one _ _ hi', one _ _ hvl, one _ _ hvp⟩, hrb, hl, hbl, hd, hdd⟩
theorem open_digs {t e q : TypeId} (ht : P.underlying t = some (.slice e)) (he : P.underlying e = some (.array 32 q)) (hq : P.underlying q = some (.int .u8)) (cq : P.cellsOf q = 1) (ce : P.cellsOf e = 32) {v : Value} {d : DataW H} {p : List MemPlace}
    (hval : Value.okWide P w .any base t v) (h : DataW.Trod enc P w 0 (fun _ => true) true t v d p) : ∃ ds, RdD w v ds ∧ Dig ds := by
  obtain ⟨a0, len0, cap0, rfl⟩ := okWide_slice ht hval
  obtain ⟨fuel, hf⟩ := h
  obtain ⟨v, ds, hcs, h1, h2⟩ := od_digs ht he hq cq ce hf
  simp only [Value.cells, List.cons.injEq, and_true] at hcs
  subst hcs
  exact ⟨ds, h1, h2⟩
end
end Go.Proofs.Bl

/- A struct of two numbers, two roots and a proof: in a variable, and as it came in. No program. -/
namespace Go.Proofs.Bl
open Go Go.ChangeShapes Go.WideShapes Go.ChangeAt Go.RowKit Go.Deep
/-- the cells of two numbers, two roots, and a slice -/
structure AskGC (cs : List Value) (m n : Int) (old now : List Int) (vp : Value) : Prop where
  qm : cs[0]? = some (.int .i64 m)
  qn : cs[1]? = some (.int .i64 n)
  ro : (cs.drop 2).take 32 = ints .u8 old
  lo : old.length = 32
  rn : (cs.drop 34).take 32 = ints .u8 now
  ln : now.length = 32
  pr : cs[66]? = some vp
/-- .. in a variable -/
structure AskGAt (w : World) (B : Nat) (m n : Int) (old now : List Int) (vp : Value) : Prop where
  qm : w.cell? ⟨B, 0, none⟩ = some (.int .i64 m)
  qn : w.cell? ⟨B, 1, none⟩ = some (.int .i64 n)
  ro : w.rangeAt B 2 (ints .u8 old)
  lo : old.length = 32
  rn : w.rangeAt B 34 (ints .u8 now)
  ln : now.length = 32
  pr : w.cell? ⟨B, 66, none⟩ = some vp
theorem AskGC.at' {cs : List Value} {m n : Int} {old now : List Int} {vp : Value} (h : AskGC cs m n old now vp) (w : World) (e : TypeId) : AskGAt (w.alloc (.cells cs.toArray e)) w.heap.size m n old now vp := by
  have key : ∀ j v, cs[j]? = some v → (w.alloc (.cells cs.toArray e)).cell? ⟨w.heap.size, j, none⟩ = some v := fun j v hj => by
    rw [World.cell?_alloc_new]; simpa using hj
  have rg : ∀ (k : Nat) (l : List Int), (cs.drop k).take 32 = ints .u8 l → (w.alloc (.cells cs.toArray e)).rangeAt w.heap.size k (ints .u8 l) := fun k l hl j v hj => by
    refine key (k + j) v ?_
    rw [← hl, List.getElem?_take] at hj
    split at hj
    · rwa [List.getElem?_drop] at hj
    · cases hj
  exact ⟨key _ _ h.qm, key _ _ h.qn, rg _ _ h.ro, h.lo, rg _ _ h.rn, h.ln, key _ _ h.pr⟩
theorem AskGAt.lt {w : World} {B : Nat} {m n : Int} {old now : List Int} {vp : Value} (h : AskGAt w B m n old now vp) : B < w.heap.size := World.block_lt_of_cell? _ _ h.qm
theorem AskGAt.ext {w w' : World} {B : Nat} {m n : Int} {old now : List Int} {vp : Value} (h : AskGAt w B m n old now vp) (hE : Ext w w') : AskGAt w' B m n old now vp :=
  ⟨((bcell hE).1 _ _ h.lt).trans h.qm, ((bcell hE).1 _ _ h.lt).trans h.qn, rangeAt_ext h.ro hE, h.lo, rangeAt_ext h.rn hE, h.ln, ((bcell hE).1 _ _ h.lt).trans h.pr⟩
theorem AskGAt.loadO {P : Program} {w : World} {B : Nat} {m n : Int} {old now : List Int} {vp : Value} (h : AskGAt w B m n old now vp) {ty e : TypeId} (hu : P.underlying ty = some (.array 32 e)) (hi : (P.info? ty).map (·.size) = some 32) : (Instr.loadAt ty (.pointer (some ⟨B, 2, none⟩))).run P w = .ok (.agg (ints .u8 old).toArray) w := load_ints h.ro hu hi h.lo
theorem AskGAt.loadN {P : Program} {w : World} {B : Nat} {m n : Int} {old now : List Int} {vp : Value} (h : AskGAt w B m n old now vp) {ty e : TypeId} (hu : P.underlying ty = some (.array 32 e)) (hi : (P.info? ty).map (·.size) = some 32) : (Instr.loadAt ty (.pointer (some ⟨B, 34, none⟩))).run P w = .ok (.agg (ints .u8 now).toArray) w := load_ints h.rn hu hi h.ln
section
variable {H : Type} {enc : TypeId × Value → H} {P : Program} {w : World} {base : Nat}
theorem open_askg {t tr ti tp u : TypeId} {f0 f1 f2 f3 f4 : Field} (ht : P.underlying t = some (.struct #[f0, f1, f2, f3, f4])) (e0 : f0.type = ti) (e1 : f1.type = ti) (e2 : f2.type = tr) (e3 : f3.type = tr) (e4 : f4.type = tp)
    (o0 : f0.offset = 0) (o1 : f1.offset = 1) (o2 : f2.offset = 2) (o3 : f3.offset = 34) (o4 : f4.offset = 66)
    (hr : P.underlying tr = some (.array 32 u)) (hi : P.underlying ti = some (.int .i64)) (hp : P.underlying tp = some (.slice tr)) (hu : P.underlying u = some (.int .u8))
    (cu : P.cellsOf u = 1) (cr : P.cellsOf tr = 32) (ci : P.cellsOf ti = 1) (cp : P.cellsOf tp = 1) {v : Value} {d : DataW H} {p : List MemPlace}
    (hval : Value.okWide P w .any base t v) (h : DataW.Trod enc P w 0 (fun _ => true) true t v d p) :
    ∃ cs m n old now vp ds, v = .agg cs.toArray ∧ AskGC cs m n old now vp ∧ Byt old ∧ Byt now ∧ RdD w vp ds ∧ Dig ds ∧ cs.length = P.cellsOf t := by
  obtain ⟨⟨L⟩, rfl, hsz⟩ := okWide_struct ht hval
  obtain ⟨fuel, hf⟩ := h
  obtain ⟨_, k, hk⟩ := od_fields ht hf
  obtain ⟨_, h0⟩ := hk 0 f0 rfl
  obtain ⟨_, h1⟩ := hk 1 f1 rfl
  obtain ⟨_, h2⟩ := hk 2 f2 rfl
  obtain ⟨_, h3⟩ := hk 3 f3 rfl
  obtain ⟨_, h4⟩ := hk 4 f4 rfl
  simp only [Value.cells] at h0 h1 h2 h3 h4
  rw [e0, o0, ci] at h0
  rw [e1, o1, ci] at h1
  rw [e2, o2, cr] at h2
  rw [e3, o3, cr] at h3
  rw [e4, o4, cp] at h4
  obtain ⟨m, hm, _⟩ := DataW.trod_int hi h0
  obtain ⟨n, hn, _⟩ := DataW.trod_int hi h1
  obtain ⟨old, hro, hrl, hrb⟩ := od_arr hr hu cu cr h2
  obtain ⟨now, hno, hnl, hnb⟩ := od_arr hr hu cu cr h3
  obtain ⟨vp, ds, hvp, hd, hdd⟩ := od_digs hp hr hu cu cr h4
  have one : ∀ (j : Nat) (x : Value), (L.drop j).take 1 = [x] → L[j]? = some x := fun j x hx => by
    have := congrArg (fun l => l[0]?) hx
    simpa [List.getElem?_take, List.getElem?_drop] using this
  exact ⟨L, m, n, old, now, vp, ds, rfl, ⟨one _ _ hm, one _ _ hn, hro, hrl, hno, hnl, one _ _ hvp⟩, hrb, hnb, hd, hdd, by simpa using hsz⟩
end
end Go.Proofs.Bl

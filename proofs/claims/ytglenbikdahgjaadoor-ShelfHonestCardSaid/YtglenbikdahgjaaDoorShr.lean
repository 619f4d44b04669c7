/- Texts that stood apart, in one: ShR, WSv1. -/
import Derived.Test.YtglenbikdahgjaaDoorShP
import Derived.Test.YtglenbikdahgjaaDoorBA1
import Derived.Test.YtglenbikdahgjaaDoorFo0
import Derived.Test.YtglenbikdahgjaaDoorLpc
/- A shelf in memory: a map of rows, the ids that came; what a write elsewhere leaves. No program. -/
namespace Go.Proofs.Bl
open Go Go.RowKit
/-! ### maps -/
theorem heap_setIn (w : World) {m : Nat} {o : Obj} (hm : m < w.heap.size) : ({ w with heap := w.heap.setIfInBounds m o } : World).heap[m]? = some o := by
  simp [hm]
theorem kq_setIn (w : World) (m : Nat) (o : Obj) : Kq (fun k => k = m) w { w with heap := w.heap.setIfInBounds m o } :=
  ⟨rfl, rfl, rfl, by simp, fun k _ hq => by simp [Ne.symm hq]⟩
/-- a new key -/
theorem MapAt.put {P : Program} {t k e : TypeId} {w : World} {m : Nat} {mp : List (Int × Value)} (ht : P.underlying t = some (.map k e)) (hk : P.underlying k = some (.int .i64)) (h : MapAt w m mp) (x : Int) (v : Value) (hn : getM mp x = none) :
    ∃ w', (Instr.mapUpdate t (.map (some m)) (.int .i64 x) v).run P w = .ok () w' ∧ MapAt w' m (mp ++ [(x, v)]) ∧ Kq (fun k => k = m) w w' := by
  have hlt := h.lt
  obtain ⟨es, c, h1, h2⟩ := h
  obtain ⟨r, hr, hr2⟩ := findNow_int x es.toList mp 0 h2
  rw [hn] at hr2
  have hc : (Instr.checkKey false 10000 k (.int .i64 x)).run P w = .ok () w := MapKept.run_checkKey (k := .int .i64 x) hk (by simp [MapKept.IsKey]) _ 9999
  cases r with
  | some r => cases hr2
  | none =>
    refine ⟨_, ?_, ⟨es.push { key := .int .i64 x, val := v, born := c }, c + 1, heap_setIn w hlt, ?_⟩, kq_setIn w m _⟩
    · simp [Instr.mapUpdate, run_underlying ht, MapKept.run_getObj_map h1, hc, MapKept.run_findKey hk hr, MapKept.run_setObj_map _ h1, Result.andThen]
    · simp [h2]
theorem MapAt.len {P : Program} {t k e ty : TypeId} {w : World} {m : Nat} {mp : List (Int × Value)} (ht : P.underlying t = some (.map k e)) (h : MapAt w m mp) : (Builtin.len_ #[t] ty #[.map (some m)]).run P w = .ok (.int .i64 mp.length) w := by
  obtain ⟨es, c, h1, h2⟩ := h
  have hl : es.size = mp.length := by have := congrArg List.length h2; simpa using this
  simp [Builtin.len_, run_underlying ht, MapKept.run_getObj_map h1, Result.andThen, goInt, hl]
theorem getM_app {mp : List (Int × Value)} {n : Int} {v : Value} (hn : getM mp n = none) (x : Int) : getM (mp ++ [(n, v)]) x = if x = n then some v else getM mp x := by
  unfold getM
  simp only [List.find?_append, Option.map_or]
  by_cases hx : x = n
  · subst hx
    unfold getM at hn
    cases hf : mp.find? (fun p => decide (p.1 = x)) with
    | some p => rw [hf] at hn; cases hn
    | none => simp
  · rw [if_neg hx]
    have : ¬ n = x := fun q => hx q.symm
    cases hf : mp.find? (fun p => decide (p.1 = x)) with
    | some p => simp
    | none => simp [this]
theorem getM_mem {mp : List (Int × Value)} {n : Int} {v : Value} (h : getM mp n = some v) : (n, v) ∈ mp := by
  unfold getM at h
  cases hf : mp.find? (fun p => decide (p.1 = n)) with
  | none => rw [hf] at h; cases h
  | some p =>
    rw [hf] at h
    have h1 := List.find?_some hf
    have h2 := List.mem_of_find?_eq_some hf
    have e1 : p.1 = n := by simpa using h1
    have e2 : p.2 = v := by simpa using h
    rw [← e1, ← e2]; exact h2
/-! ### rows that are stored -/
/-- a row of rows of bytes of the shelf's own; its elements lie where N does not hold -/
def RowS (N : Nat → Prop) (w : World) (v : Value) (st : List (List Int)) : Prop := ∃ M : List Bv, Pk w 0 1 v M.length (cellsR cB M) ∧ (∀ y ∈ M, OkB (fun k => ¬ N k) w y) ∧ M.map (·.2) = st
theorem RowS.rdss {N : Nat → Prop} {w : World} {v : Value} {st : List (List Int)} (h : RowS N w v st) : Rdss w v st := by
  obtain ⟨M, h1, h2, h3⟩ := h
  refine ⟨M.map (·.1), ?_, by rw [← h3, List.length_map, List.length_map], fun i hi => ?_⟩
  · have h4 := h1.rds
    rw [cellsB] at h4
    rw [← h3, List.length_map]; exact h4
  · rw [← h3, List.length_map] at hi
    have h5 := (h2 _ (List.getElem_mem hi)).1.rds
    rw [← h3, List.getD_eq_getElem?_getD, List.getD_eq_getElem?_getD, List.getElem?_map, List.getElem?_map, List.getElem?_eq_getElem hi]
    exact h5
theorem RowS.byt {N : Nat → Prop} {w : World} {v : Value} {st : List (List Int)} (h : RowS N w v st) : ∀ b ∈ st, Byt b := by
  obtain ⟨M, h1, h2, h3⟩ := h
  intro b hb
  rw [← h3] at hb
  obtain ⟨y, hy, rfl⟩ := List.mem_map.1 hb
  exact (h2 y hy).2
theorem RowS.kept {N N' : Nat → Prop} {w w' : World} {v : Value} {st : List (List Int)} (h : RowS N w v st) (hv : ∀ k, v.ownBlock = some k → w'.heap[k]? = w.heap[k]?) (hs : w.heap.size ≤ w'.heap.size) (hk : ∀ k, ¬ N k → k < w.heap.size → ¬ N' k ∧ w'.heap[k]? = w.heap[k]?) : RowS N' w' v st := by
  obtain ⟨M, h1, h2, h3⟩ := h
  exact ⟨M, h1.kept hv hs, fun y hy => stab_okB _ _ _ _ _ (h2 y hy) hk, h3⟩
/-- the same under the shelf's number, or neither -/
def RelO (N : Nat → Prop) (w : World) : Option Value → Option (List (List Int)) → Prop
  | some v, some st => RowS N w v st
  | none, none => True
  | _, _ => False
theorem RelO.non {N N' : Nat → Prop} {w w' : World} {o : Option (List (List Int))} (h : RelO N w none o) : RelO N' w' none o := by
  cases o
  · exact h
  · exact h.elim
/-! ### the shelf -/
/-- a shelf in the block b: its map in m, its ids in sb; what it may write is in Q; its bytes lie where N does not hold -/
structure SvR (N Q : Nat → Prop) (w : World) (b m sb : Nat) (mp : List (Int × Value)) (s : ShT) : Prop where
  bx : BoxC w b [.map (some m), .pointer (some ⟨sb, 0, none⟩)]
  mt : MapAt w m mp
  sn : ∃ any g c, BoxC w sb [.bool any, .int .i64 g, .int .u64 (c : Nat)] ∧ SeenOk any g c s.ids
  ln : mp.length = s.objs.length
  ob : ∀ n, RelO N w (getM mp n) (getO s n)
  qb : ¬ Q b
  qm : Q m
  qs : Q sb
  ms : m ≠ sb
  rw : ∀ p ∈ mp, ∀ k, p.2.ownBlock = some k → Q k ∧ k ≠ m ∧ k ≠ sb
  sz : ∀ k, Q k → k < w.heap.size
/-- a shelf, by what it holds -/
def SvX (N Q : Nat → Prop) (w : World) (b : Nat) (s : ShT) : Prop := ∃ m sb mp, SvR N Q w b m sb mp s
section
variable {N N' Q Q2 : Nat → Prop} {w w' : World} {b m sb : Nat} {mp : List (Int × Value)} {s : ShT}
theorem SvR.row (h : SvR N Q w b m sb mp s) {n : Int} {v : Value} (hv : getM mp n = some v) : ∃ st, getO s n = some st ∧ RowS N w v st := by
  have h1 := h.ob n
  rw [hv] at h1
  cases hg : getO s n with
  | none => rw [hg] at h1; exact h1.elim
  | some st => rw [hg] at h1; exact ⟨st, rfl, h1⟩
theorem SvR.some (h : SvR N Q w b m sb mp s) {n : Int} {st : List (List Int)} (hg : getO s n = some st) : ∃ v, getM mp n = some v ∧ RowS N w v st := by
  have h1 := h.ob n
  rw [hg] at h1
  cases hv : getM mp n with
  | none => rw [hv] at h1; exact h1.elim
  | some v => rw [hv] at h1; exact ⟨v, rfl, h1⟩
theorem SvR.none (h : SvR N Q w b m sb mp s) {n : Int} (hg : getO s n = none) : getM mp n = none := by
  have h1 := h.ob n
  rw [hg] at h1
  cases hv : getM mp n with
  | none => rfl
  | some v => rw [hv] at h1; exact h1.elim
/-- what others write leaves it -/
theorem SvR.kept (h : SvR N Q w b m sb mp s) (k : Kq Q2 w w') (hq : ∀ i, Q2 i → N i ∧ ¬ Q i ∧ i ≠ b) (hN : ∀ i, N' i → N i ∨ w.heap.size ≤ i) : SvR N' Q w' b m sb mp s := by
  have hb : ∀ i, i < w.heap.size → Q i → w'.heap[i]? = w.heap[i]? := fun i hi hQ => k.block i hi fun q => (hq i q).2.1 hQ
  obtain ⟨any, g, c, s1, s2⟩ := h.sn
  refine ⟨k.box (fun q => (hq b q).2.2 rfl) h.bx, h.mt.same (hb m h.mt.lt h.qm), ⟨any, g, c, s1.same (hb sb s1.lt h.qs), s2⟩, h.ln, fun n => ?_, h.qb, h.qm, h.qs, h.ms, h.rw, fun i hi => Nat.lt_of_lt_of_le (h.sz i hi) k.size⟩
  have h1 := h.ob n
  cases hv : getM mp n with
  | none => rw [hv] at h1; exact RelO.non h1
  | some v =>
    cases hg : getO s n with
    | none => rw [hv, hg] at h1; exact h1.elim
    | some st =>
      rw [hv, hg] at h1
      exact RowS.kept h1 (fun i hi => hb i (h.sz i (h.rw _ (getM_mem hv) i hi).1) (h.rw _ (getM_mem hv) i hi).1) k.size fun i hi hl => ⟨fun q => by
        rcases hN i q with q | q
        · exact hi q
        · omega, k.block i hl fun q => hi (hq i q).1⟩
theorem SvR.ext (h : SvR N Q w b m sb mp s) (hE : Ext w w') : SvR N Q w' b m sb mp s := h.kept (Q2 := fun _ => False) (Kq.of_ext hE) (fun _ q => q.elim) fun _ q => .inl q
/-- the ids change -/
theorem SvR.ids (h : SvR N Q w b m sb mp s) (hNQ : ∀ i, Q i → N i) (k : Kq (fun i => i = sb) w w') {any : Bool} {g : Int} {c : Nat} {ids : List Int} (hB : BoxC w' sb [.bool any, .int .i64 g, .int .u64 (c : Nat)]) (hs : SeenOk any g c ids) : SvR N Q w' b m sb mp ⟨s.objs, ids⟩ := by
  have hb : ∀ i, i < w.heap.size → i ≠ sb → w'.heap[i]? = w.heap[i]? := fun i hi hQ => k.block i hi hQ
  have hsb : sb ≠ b := fun q => h.qb (q ▸ h.qs)
  refine ⟨k.box (fun q => hsb q.symm) h.bx, h.mt.same (hb m h.mt.lt h.ms), ⟨any, g, c, hB, hs⟩, h.ln, fun n => ?_, h.qb, h.qm, h.qs, h.ms, h.rw, fun i hi => Nat.lt_of_lt_of_le (h.sz i hi) k.size⟩
  have h1 := h.ob n
  show RelO N w' (getM mp n) (getO s n)
  cases hv : getM mp n with
  | none => rw [hv] at h1; exact RelO.non h1
  | some v =>
    cases hg : getO s n with
    | none => rw [hv, hg] at h1; exact h1.elim
    | some st =>
      rw [hv, hg] at h1
      exact RowS.kept h1 (fun i hi => hb i (h.sz i (h.rw _ (getM_mem hv) i hi).1) (h.rw _ (getM_mem hv) i hi).2.2) k.size fun i hi hl => ⟨hi, hb i hl fun q => hi (hNQ i (q ▸ h.qs))⟩
/-- a row is put under a new number -/
theorem SvR.put (h : SvR N Q w b m sb mp s) (hNQ : ∀ i, Q i → N i) {n : Int} {v : Value} {st : List (List Int)} (hn : getO s n = Option.none) (hM : MapAt w' m (mp ++ [(n, v)])) (k : Kq (fun i => i = m) w w') (hr : RowS N w v st) (hv : ∀ i, v.ownBlock = Option.some i → i < w.heap.size ∧ i ≠ m ∧ i ≠ sb ∧ i ≠ b) :
    SvR N (fun i => Q i ∨ v.ownBlock = Option.some i) w' b m sb (mp ++ [(n, v)]) ⟨s.objs ++ [(n, st)], s.ids⟩ := by
  have hb : ∀ i, i < w.heap.size → i ≠ m → w'.heap[i]? = w.heap[i]? := fun i hi hQ => k.block i hi hQ
  have hmb : m ≠ b := fun q => h.qb (q ▸ h.qm)
  obtain ⟨any, g, c, s1, s2⟩ := h.sn
  have hkeep : ∀ x st', RowS N w x st' → (∀ i, x.ownBlock = Option.some i → i < w.heap.size ∧ i ≠ m) → RowS N w' x st' := fun x st' hx hi => hx.kept (fun i q => hb i (hi i q).1 (hi i q).2) k.size fun i hi hl => ⟨hi, hb i hl fun q => hi (hNQ i (q ▸ h.qm))⟩
  refine ⟨k.box (fun q => hmb q.symm) h.bx, hM, ⟨any, g, c, k.box (fun q => h.ms q.symm) s1, s2⟩, by simp [h.ln], fun x => ?_, fun q => ?_, .inl h.qm, .inl h.qs, h.ms, fun p hp i hi => ?_, fun i hi => ?_⟩
  · rw [getM_app (h.none hn), getO_app hn]
    by_cases hx : x = n
    · rw [if_pos hx, if_pos hx]
      exact hkeep v st hr fun i hi => ⟨(hv i hi).1, (hv i hi).2.1⟩
    · rw [if_neg hx, if_neg hx]
      have h1 := h.ob x
      cases hgv : getM mp x with
      | none => rw [hgv] at h1; exact RelO.non h1
      | some y =>
        cases hg : getO s x with
        | none => rw [hgv, hg] at h1; exact h1.elim
        | some st' =>
          rw [hgv, hg] at h1
          exact hkeep y st' h1 fun i hi => ⟨h.sz i (h.rw _ (getM_mem hgv) i hi).1, (h.rw _ (getM_mem hgv) i hi).2.1⟩
  · rcases q with q | q
    · exact h.qb q
    · exact (hv b q).2.2.2 rfl
  · rcases List.mem_append.1 hp with hp | hp
    · exact ⟨.inl (h.rw p hp i hi).1, (h.rw p hp i hi).2⟩
    · obtain rfl : p = (n, v) := by simpa using hp
      exact ⟨.inr hi, (hv i hi).2.1, (hv i hi).2.2.1⟩
  · rcases hi with hi | hi
    · exact Nat.lt_of_lt_of_le (h.sz i hi) k.size
    · exact Nat.lt_of_lt_of_le (hv i hi).1 k.size
/-- what a handling leaves of a shelf: it holds s', and nothing of others is written -/
def SvGo (N Q : Nat → Prop) (w w' : World) (b : Nat) (s' : ShT) : Prop := Kq Q w w' ∧ ∃ N' Q' : Nat → Prop, SvX N' Q' w' b s' ∧ (∀ i, N' i → N i ∨ w.heap.size ≤ i) ∧ (∀ i, N i → N' i) ∧ (∀ i, Q i → Q' i) ∧ (∀ i, Q' i → N' i) ∧ (∀ i, Q' i → Q i ∨ w.heap.size ≤ i) ∧ ∀ i, N' i → i < w'.heap.size
theorem SvX.ext (h : SvX N Q w b s) (hE : Ext w w') : SvX N Q w' b s := by
  obtain ⟨m, sb, mp, h⟩ := h; exact ⟨m, sb, mp, h.ext hE⟩
theorem SvX.go (h : SvX N Q w b s) (hNQ : ∀ i, Q i → N i) (hNl : ∀ i, N i → i < w.heap.size) (hE : Ext w w') : SvGo N Q w w' b s :=
  ⟨Kq.of_ext hE, N, Q, h.ext hE, fun _ q => .inl q, fun _ q => q, fun _ q => q, hNQ, fun _ q => .inl q, fun i q => Nat.lt_of_lt_of_le (hNl i q) hE.size⟩
end
end Go.Proofs.Bl

/- Walk of shelf.apart. -/
namespace Go.Proofs.Bl
open Go Go.RowKit
abbrev nilB : Bv := (.slice none 0 0, [])
theorem madeCells_nil (n : Nat) : (madeCells (Value.slice none 0 0).cells (n * 1)).toList = cellsR cB (List.replicate n nilB) := by
  rw [cellsB]
  apply List.ext_getElem
  · simp [madeCells]
  · intro i h1 h2
    simp [madeCells, Value.cells, show i % 1 = 0 from Nat.mod_one i]
theorem make_nil {P : Program} {t e : TypeId} {bytes : Nat} (hT : SlT P t e (.slice none 0 0) 1 bytes) (n : Nat) (hb : bytes * n ≤ 281474976710656) (hm : n ≤ maxLen) (w : World) :
    ∃ w', (Instr.makeSlice t (.int .i64 (n : Int)) (.int .i64 (n : Int))).run P w = .ok (.slice (some ⟨w.heap.size, 0, none⟩) n n) w' ∧
      w'.ownsRow w.heap.size e 1 (.slice (some ⟨w.heap.size, 0, none⟩) n n) n (cellsR cB (List.replicate n nilB)) ∧ Ext w w' ∧ w.heap.size < w'.heap.size := by
  obtain ⟨i, hi, hz, hs1, hb1⟩ := info_parts hT.info
  have h63 : (n : Int) ≤ 9223372036854775807 := by unfold maxLen at hm; omega
  have hb' : (i.bytes : Int) * (n : Int) ≤ 281474976710656 := by
    rw [hb1]
    have h : ((bytes * n : Nat) : Int) ≤ 281474976710656 := by omega
    rwa [Int.natCast_mul] at h
  have hr := run_make (P := P) w t e i (.slice none 0 0) hT.ht hi hz .i64 .i64 n n (by omega) (Int.le_refl _) hb' h63
  simp only [Int.toNat_natCast, hs1] at hr
  refine ⟨_, hr, ?_, ext_alloc _ _, by simp⟩
  have := owns_new w e (madeCells (Value.slice none 0 0).cells (n * 1)) w.heap.size n 1 (Nat.le_refl _) hm (size_madeCells _ _)
  rwa [madeCells_nil] at this
/-- the i-th cell of a row of rows -/
theorem cellB_at (M : List Bv) (i : Nat) (hi : i < M.length) : (cellsR cB M)[i]? = some (M.getD i nilB).1 := by
  have h := cellsR_get (f := cB) (s := 1) (fun _ => rfl) nilB 0 (by decide) M i hi
  rw [Nat.mul_one, Nat.add_zero] at h
  exact h
theorem cellB_set (M : List Bv) (i : Nat) (hi : i < M.length) (a : Value) (st : List Int) : (cellsR cB M).set i a = cellsR cB (M.set i (a, st)) := by
  have h := cellsR_set (f := cB) (s := 1) (fun _ => rfl) nilB (a, st) a 0 (by decide) M i hi rfl
  rw [Nat.mul_one, Nat.add_zero] at h
  exact h
theorem cellsB_len (M : List Bv) : (cellsR cB M).length = M.length := by rw [cellsR_length (s := 1) (fun _ _ => rfl), Nat.mul_one]
theorem take_map_snoc (ps : List (List Int)) (M : List Bv) (i : Nat) (y : Bv) (hi : i < M.length) (hip : i < ps.length) (h : (M.take i).map (·.2) = ps.take i) (hy : y.2 = ps.getD i []) : ((M.set i y).take (i + 1)).map (·.2) = ps.take (i + 1) := by
  rw [set_take M i y hi, List.map_append, h, take_succ_getDD [] ps i hip, ← hy]; rfl
end Go.Proofs.Bl
namespace Go.Proofs.YtglenbikdahgjaaDoor
open Go Go.RowKit Go.Proofs

/-- what shelf.apart hands back -/
def ApR (ps : List (List Int)) (w : World) (e : Ending) (w' : World) : Prop := ∃ M : List Bl.Bv, e = .returned (.slice (some ⟨w.heap.size, 0, none⟩) ps.length ps.length) ∧ Bl.Pk w' w.heap.size 1 (.slice (some ⟨w.heap.size, 0, none⟩) ps.length ps.length) M.length (Bl.cellsR Bl.cB M) ∧ (∀ y ∈ M, Bl.OkB (fun k => w.heap.size < k) w' y) ∧ M.map (·.2) = ps ∧ Bl.Ext w w'

set_option maxRecDepth 100000 in
set_option maxHeartbeats 4000000 in
theorem sapart_any (v : Value) (ps : List (List Int)) (w : World) (h : Bl.Rdss w v ps) (hby : ∀ b ∈ ps, Bl.Byt b) (hn : ps.length ≤ 1048576) (hlb : ∀ b ∈ ps, b.length ≤ 140737488355328) :
    Calls Tryd.prog 33 #[v] w fun e w' => ApR ps w e w' := by
  obtain ⟨M0, hM0, hMb, hMr⟩ := Bl.rdss_bv h
  obtain ⟨n, hnn⟩ : ∃ n, n = ps.length := ⟨_, rfl⟩
  have hml : M0.length = n := by have := congrArg List.length hMb; rw [hnn]; simpa using this
  rw [hml] at hM0
  obtain ⟨p, c, hf, hnc, hcm⟩ := hM0.form
  subst hf
  obtain ⟨g, hg⟩ : ∃ g, g = w.heap.size := ⟨_, rfl⟩
  obtain ⟨w1, hrun, hown, hE1, hs1⟩ := Bl.make_nil (P := Tryd.prog) tBB n (by omega) (by unfold maxLen; omega) w
  rw [← hg] at hrun hown hs1
  have hbits : ∀ i, i < n → (ps.getD i []) ∈ ps := fun i hi => Bl.getD_mem [] (by omega)
  have hm0 : ∀ i, i < n → (M0.getD i Bl.nilB).2 = ps.getD i [] := fun i hi => by
    rw [← hMb, List.getD_eq_getElem?_getD, List.getD_eq_getElem?_getD, List.getElem?_map, List.getElem?_eq_getElem (by omega)]; rfl
  have HM := Bl.hid (And.intro hM0 hMr)
  have Hml := Bl.hid (And.intro hml hnn)
  have Hb := Bl.hid (And.intro hbits (And.intro hm0 (And.intro hby hlb)))
  have HE1 := Bl.hid hE1
  have Hg : Hid (g = w.heap.size ∧ g < w1.heap.size) := Bl.hid ⟨hg, hs1⟩
  have HP1 : Hid (Bl.Pk w1 g 1 (.slice (some ⟨g, 0, none⟩) n n) n (Bl.cellsR Bl.cB (List.replicate n Bl.nilB))) := Bl.hid (Bl.Pk.of_owns hown)
  have Hfin : Hid (∀ M w', M.length = n → Bl.Pk w' g 1 (.slice (some ⟨g, 0, none⟩) n n) n (Bl.cellsR Bl.cB M) → (∀ y ∈ M, Bl.OkB (fun k => g < k) w' y) → M.map (·.2) = ps → Bl.Ext w w' → ApR ps w (.returned (.slice (some ⟨g, 0, none⟩) n n)) w') := Bl.hid fun M w' h1 h2 h3 h4 h5 => by
    unfold ApR
    rw [← hnn, ← hg]
    exact ⟨M, rfl, by rw [h1]; exact h2, h3, h4, h5⟩
  have hn2 : n ≤ 1048576 := by omega
  clear h hM0 hMb hMr hml hown hE1 hs1 hbits hm0 hby hlb hg hnn hn
  go_enter Tryd.func33, Tryd.ntmps33
  go_wp2_with fail
  clear hrun
  go_loopw [11] (fun x wr => ∃ (i : Nat) (M : List Bl.Bv), i ≤ n ∧ x = .int .i64 i ∧ Hid (Bl.Pk wr g 1 (.slice (some ⟨g, 0, none⟩) n n) n (Bl.cellsR Bl.cB M) ∧ M.length = n ∧ (∀ y ∈ M.take i, Bl.OkB (fun k => g < k) wr y) ∧ (M.take i).map (·.2) = ps.take i) ∧ Hid (Bl.Kq (fun k => g ≤ k) w1 wr)) (fun x _ => n - (intOf x).toNat)
  case atStart => exact ⟨0, _, Nat.zero_le _, rfl, Bl.hid ⟨HP1.out, by simp, fun y hy => (by simp at hy), by simp⟩, Bl.hid (Bl.Kq.refl _)⟩
  case round =>
    obtain ⟨i, M, hi, rfl, HI, HKr⟩ := hrel
    have HEr : Hid (Bl.Ext w wr) := Bl.hid (HE1.out.trans' HKr.out (by have := Hg.out; omega))
    have HgR : Hid (g < wr.heap.size) := Bl.hid (by have := HKr.out.size; have := Hg.out; omega)
    by_cases hlt : i < n
    · have hil : i < M.length := by rw [HI.out.2.1]; exact hlt
      have hil0 : i < M0.length := by rw [Hml.out.1]; exact hlt
      obtain ⟨b, o, c2, hq, _, _, hbl, hrg⟩ := Bl.Rds.pos HM.out.1 (by omega) (by intro q; have := Bl.cellsB_len M0; rw [q] at this; simp at this; omega)
      injection hq with hq1 hq2 hq3
      subst hq1 hq3
      have hrd := (HM.out.2 _ (Bl.getD_mem Bl.nilB hil0)).ext HEr.out
      have hcl := (Bl.rangeAt_ext hrg HEr.out) i _ (Bl.cellB_at M0 i hil0)
      have hmem := Hb.out.1 i hlt
      have hval := Hb.out.2.1 i hlt
      obtain ⟨x0, hx⟩ : ∃ x, x = M0.getD i Bl.nilB := ⟨_, rfl⟩
      rw [← hx] at hrd hcl hval
      obtain ⟨u1, st⟩ := x0
      simp only at hrd hcl hval
      obtain ⟨p1, c1, hu1, _, _⟩ := hrd.form
      subst hu1
      rw [← hval] at hmem
      have Hst : Hid (Bl.Byt st ∧ st.length ≤ 140737488355328 ∧ st = ps.getD i []) := Bl.hid ⟨Hb.out.2.2.1 _ hmem, Hb.out.2.2.2 _ hmem, hval⟩
      have Hrd := Bl.hid hrd
      have HcM := Bl.hid (Bl.cellB_at M i hil)
      have Hset := Bl.hid (fun a => Bl.cellB_set M i hil a st)
      have Hlen : Hid (i < (Bl.cellsR Bl.cB M).length ∧ i < M.length ∧ i < ps.length) := Bl.hid ⟨by rw [Bl.cellsB_len]; exact hil, hil, by rw [← Hml.out.2]; exact hlt⟩
      have hi0 : (0 : Int) ≤ (i : Int) := by omega
      have hi1 : (i : Int) < (n : Int) := by omega
      have hi2 : (i : Int) ≤ 1048576 := by omega
      clear hrd hval hmem hx hil hil0 hrg hbl hq2
      go_wp2_with fail
      refine (cloneB_any (.slice p1 st.length c1) st wr Hrd.out Hst.out.2.1).mono ?_
      rintro e w2 ⟨v9, rfl, hown9, hE9⟩
      obtain ⟨p9, c9, hv9, _, _⟩ := (Bl.Rds.of_owns hown9).form
      subst hv9
      have HR2 := Bl.hid (HI.out.1.ext hE9)
      have q9 := HR2.out.cell HcM.out
      have f9 := HR2.out.fz Hlen.out.1
      have HP9 : Hid (Bl.Pk (w2.setCell ⟨g, i, none⟩ (.slice p9 st.length c9)) g 1 (.slice (some ⟨g, 0, none⟩) n n) n (Bl.cellsR Bl.cB (M.set i (.slice p9 st.length c9, st)))) := Bl.hid (by
        rw [← Hset.out]
        exact HR2.out.put Hlen.out.1 _)
      have hks : Bl.Kq (fun k => k = g) w2 (w2.setCell ⟨g, i, none⟩ (.slice p9 st.length c9)) := (Bl.Kq.refl w2).setCell (Q := fun k => k = g) ⟨g, i, none⟩ rfl _
      have HK9 : Hid (Bl.Kq (fun k => k = g) wr (w2.setCell ⟨g, i, none⟩ (.slice p9 st.length c9))) := Bl.hid ((Bl.Kq.of_ext hE9).trans hks)
      have HOk : Hid (Bl.OkB (fun k => g < k) (w2.setCell ⟨g, i, none⟩ (.slice p9 st.length c9)) (.slice p9 st.length c9, st)) := Bl.hid ⟨(Bl.RdsF.of_rds (F := fun k => g < k) (Bl.Rds.of_owns hown9) (fun b hb _ => by have := (hown9.lt b hb).1; have := HgR.out; omega)).kept (fun b hb hl => ⟨hb, hks.block b hl (fun q => by omega)⟩), Hst.out.1⟩
      clear hown9 hE9 hks hcl
      go_wp2_with fail
      obtain ⟨w9, hw9⟩ : ∃ W, W = w2.setCell ⟨g, i, none⟩ (.slice p9 st.length c9) := ⟨_, rfl⟩
      rw [← hw9] at HP9 HK9 HOk ⊢
      clear hw9 q9 f9
      go_roundw
      case rel => exact ⟨i + 1, M.set i (.slice p9 st.length c9, st), by omega, by go_num, Bl.hid ⟨HP9.out, by rw [List.length_set]; exact HI.out.2.1, fun y hy => by
          rw [Bl.set_take M i _ Hlen.out.2.1] at hy
          rcases List.mem_append.1 hy with hy | hy
          · exact Bl.stab_okB _ _ _ _ _ (HI.out.2.2.1 y hy) fun b hb hl => ⟨hb, HK9.out.block b hl (fun q => by omega)⟩
          · obtain rfl : y = (.slice p9 st.length c9, st) := by simpa using hy
            exact HOk.out, Bl.take_map_snoc ps M i _ Hlen.out.2.1 Hlen.out.2.2 HI.out.2.2.2 Hst.out.2.2⟩, Bl.hid (HKr.out.trans (HK9.out.mono fun k _ q => by omega))⟩
      case measure => simp [intOf]; omega
    · obtain rfl : i = n := by omega
      have HMt : Hid (M.take i = M ∧ ps.take i = ps) := Bl.hid ⟨List.take_of_length_le (by rw [HI.out.2.1]; exact Nat.le_refl _), List.take_of_length_le (by rw [← Hml.out.2]; exact Nat.le_refl _)⟩
      go_wp2_with fail
      go_ret
      refine Hfin.out M _ HI.out.2.1 HI.out.1 ?_ ?_ HEr.out
      · have h := HI.out.2.2.1; rw [HMt.out.1] at h; exact h
      · have h := HI.out.2.2.2; rw [HMt.out.1, HMt.out.2] at h; exact h
end Go.Proofs.YtglenbikdahgjaaDoor

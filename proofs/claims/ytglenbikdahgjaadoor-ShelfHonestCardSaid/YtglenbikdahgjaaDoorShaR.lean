/- Texts that stood apart, in one: ShaOct, WLeavesP, WChunkDP, Marks, WRootsP, WSameP. -/
import Derived.Test.YtglenbikdahgjaaDoorShaP
import Derived.Lib.SlBytesConst
import Derived.Lib.SmallJoins
import Derived.Test.YtglenbikdahgjaaDoorShaQ
import Derived.Test.YtglenbikdahgjaaDoorLib0
import Derived.WalkKit
import Derived.WalkLawsBesides
import Derived.WalkSpells
import Derived.Test.YtglenbikdahgjaaDoorProg
import Derived.Test.YtglenbikdahgjaaDoorShelf
import Derived.Test.YtglenbikdahgjaaDoorPla0
import Derived.RangeFuncLeaves
/- Digests are bytes; a literal's reading. No program. -/
namespace Go.Proofs.Bl
open Go
theorem eat_byt : ∀ (s : St), Byt s.bytes := fun s x hx => by
  obtain ⟨i, hi, rfl⟩ := List.mem_iff_getElem.1 hx
  have h := s.bytes_get i hi
  rw [List.getD_eq_getElem?_getD, List.getElem?_eq_getElem hi] at h
  simp only [Option.getD_some] at h
  rw [h]; unfold St.byte; omega
theorem sha_byt (l : List Int) : Byt (sha l) := eat_byt _
/-- a constant's bytes: the row is marked behind its end -/
theorem rds_mark (w : World) (e : TypeId) (l : List Int) (fr : Nat × Nat) (hm : l.length ≤ maxLen) :
    Rds (w.alloc (.cells (ints .u8 l).toArray e fr)) (.slice (some ⟨w.heap.size, 0, none⟩) l.length l.length) l.length (ints .u8 l) := by
  refine .inr ⟨w.heap.size, 0, l.length, rfl, Nat.le_refl _, hm, fun j v hv => ?_⟩
  rw [Nat.zero_add, World.cell?_alloc_mark]
  simpa using hv
/-- one slice in a slice -/
theorem rdss_one {w : World} {v : Value} {l : List Int} (h : Rd w .u8 v l) (e : TypeId) : Rdss (w.alloc (.cells #[v] e)) (.slice (some ⟨w.heap.size, 0, none⟩) 1 1) [l] := by
  refine ⟨[v], .inr ⟨w.heap.size, 0, 1, rfl, Nat.le_refl _, show 1 ≤ maxLen from by decide, fun j u hu => ?_⟩, rfl, fun i hi => ?_⟩
  · rw [Nat.zero_add, World.cell?_alloc_new]; simpa using hu
  · have : i = 0 := by simpa using hi
    subst this
    exact h.ext (ext_alloc _ _)
end Go.Proofs.Bl

/- Walks of slices.Clone over digests, tree.Leaves, baileeref12.Leaves, baileeref12.Over. The plain part. -/
namespace Go.Proofs.Bl
open Go Go.RowKit
def overD (ds : List (List Int)) : List Int := over ndD zD ds
theorem zD_length : zD.length = 32 := rfl
theorem Rdss.cell' {w : World} {p : Option Addr} {n c : Nat} {ps : List (List Int)} {vs : List Value} (hv : Rds w (.slice p n c) ps.length vs) (hl : vs.length = ps.length) (k : Nat) (hk : k < ps.length) : ∃ b o, p = some ⟨b, o, none⟩ ∧ b < w.heap.size ∧ w.cell? ⟨b, o + k, none⟩ = some (vs.getD k undef) := by
  rcases hv with ⟨h1, h2, h3⟩ | ⟨b, o, c', h1, h2, h3, h4⟩
  · omega
  · cases h1
    refine ⟨b, o, rfl, rangeAt_lt h4 (fun q => by rw [q] at hl; simp at hl; omega), h4 k _ ?_⟩
    rw [List.getD_eq_getElem?_getD, List.getElem?_eq_getElem (by omega)]; rfl
theorem lfD_byt (b : List Int) : Byt (lfD b) := sha_byt _
theorem ndD_byt (l r : List Int) : Byt (ndD l r) := sha_byt _
theorem zD_byt : Byt zD := sha_byt _
theorem dig_leaves (ps : List (List Int)) : Dig (ps.map lfD) := fun d hd => by
  obtain ⟨b, _, rfl⟩ := List.mem_map.1 hd
  exact ⟨lfD_length b, lfD_byt b⟩
theorem overD_dig : ∀ (n : Nat) (ds : List (List Int)), ds.length = n → Dig ds → ds.length < 2 ^ 63 → (overD ds).length = 32 ∧ Byt (overD ds) := by
  intro n
  induction n using Nat.strongRecOn with
  | _ n ih =>
    intro ds hn hd h63
    unfold overD
    by_cases h0 : ds.length = 0
    · obtain rfl := List.length_eq_zero_iff.1 h0
      rw [over_nil]; exact ⟨zD_length, zD_byt⟩
    · by_cases h2 : 2 ≤ ds.length
      · rw [over_hi _ _ _ h2 h63]
        exact ⟨ndD_length _ _, ndD_byt _ _⟩
      · match ds, h0, h2 with
        | [d], _, _ => rw [over_one]; exact hd d (by simp)
        | _ :: _ :: _, _, h => simp at h
end Go.Proofs.Bl

/- slices.Chunk over digests, two by two: the function value, and its contract. The plain part. -/
namespace Go.Proofs.Bl
/-- how many digests chunk number k of n has -/
def ln (n k : Nat) : Nat := if 2 * k + 2 ≤ n then 2 else 1
theorem ln_le (n k : Nat) (h : 2 * k < n) : 2 * k + ln n k ≤ n := by unfold ln; split <;> omega
end Go.Proofs.Bl

/- A frame's marks: each range over a function leaves one among the deferred calls. A row that grows in the rounds. No program. -/
namespace Go.Proofs.Bl
open Go Go.RowKit

/-- the frame's deferred calls are marks of ranges over functions, the newest first; their blocks lie at B and beyond, below N, and none is shut -/
def Marks (B : Nat) (w : World) : Nat → List Deferred → Prop
  | _, [] => True
  | N, d :: ds => ∃ D, d = { target := .collected D, args := #[] } ∧ B ≤ D ∧ D < N ∧ w.heap[D]? = some (.deferred (some [])) ∧ Marks B w D ds
theorem Marks.keep {B : Nat} {w w' : World} : ∀ (ds : List Deferred) (N : Nat), (∀ D, B ≤ D → D < N → w.heap[D]? = some (.deferred (some [])) → w'.heap[D]? = w.heap[D]?) → Marks B w N ds → Marks B w' N ds
  | [], _, _, _ => trivial
  | _ :: ds, _, hk, ⟨D, h1, h2, h3, h4, h5⟩ => ⟨D, h1, h2, h3, (hk D h2 h3 h4).trans h4, Marks.keep ds D (fun k hkB hkD => hk k hkB (Nat.lt_trans hkD h3)) h5⟩
theorem Marks.mono {B : Nat} {w : World} {N N' : Nat} : ∀ (ds : List Deferred), N ≤ N' → Marks B w N ds → Marks B w N' ds
  | [], _, _ => trivial
  | _ :: _, hN, ⟨D, h1, h2, h3, h4, h5⟩ => ⟨D, h1, h2, Nat.lt_of_lt_of_le h3 hN, h4, h5⟩
theorem leaves_marks {P : Program} {n : Nat} {fn : Func} {tmps : Array Value} {R : Ending → World → Prop} {B : Nat} : ∀ (ds : List Deferred) (N : Nat) (w : World), Marks B w N ds →
    (∀ w', Below B w w' → ∃ v, (results fn tmps).run P w' = .ok v w' ∧ R (.returned v) w') → LeavesInM Fence.wide n P fn tmps R ds .returning w
  | [], _, w, _, h => by
    simp only [LeavesInM, LeavesIn]
    exact h w (Below.refl _ _)
  | _ :: ds, _, w, ⟨D, hd, hB, _, hD, hm⟩, h => by
    subst hd
    have hlt : D < w.heap.size := (Array.getElem?_eq_some_iff.1 hD).1
    have hb : Below B w (w.putObj D (.deferred none)) := (Below.refl B w).grown (grownBy_putObj' w D (.deferred none)) (by omega) (fun k e => by cases e; omega)
    refine ⟨by simp, .inl ⟨_, _, rfl, run_takeDeferred hD, ?_⟩⟩
    refine leaves_marks ds D _ (Marks.keep ds D (fun k _ hk _ => World.putObj_heap_other (by omega)) hm) ?_
    intro w' hw'
    exact h w' (hb.trans hw')

/-- append of one more to a row of one's own, within a round -/
theorem wpLI_app1 {F : Fence} {nf : Nat} {P : Program} {ops : Array Oper} {rest : List Oper} {a : Act} {w : World} {Q : Exit → Act → World → Prop} {d : Option Tmp} {tt t e : TypeId} {pp : String} {af : Array Edge} {s x : Operand} {v u z : Value} {base size bytes k : Nat} {xs news : List Value}
    (hT : SlT P t e z size bytes) (hown : w.ownsRow base e size v k xs) (hrd : Rds w u 1 news) (hs : a.eval s = v) (hx : a.eval x = u) (hl : news.length = size) (h1 : ∀ c ∈ news, c.oneCell' = true)
    (hlen : k + 1 ≤ maxLen) (hbytes : (k + 1) * bytes ≤ 140737488355328) (hbase : base ≤ w.heap.size)
    (h : ∀ p c w', w'.ownsRow base e size (.slice p (k + 1) c) (k + 1) (xs ++ news) → w.grownBy w' v.ownBlock → wpListIn F nf P ops Q rest (a.put d (.slice p (k + 1) c)) w') :
    wpListIn F nf P ops Q (⟨d, .call { callee := .builtin .append, args := #[s, x], argTypes := #[t, t] }, tt, pp, af, none⟩ :: rest) a w := by
  obtain ⟨i, hi, hz, hs1, hb1⟩ := info_parts hT.info
  rcases hrd with ⟨_, hm, _⟩ | ⟨b, o, c, hu, _, _, hr⟩
  · omega
  · have hnews : ∀ j u, news[j]? = some u → w.cell? ((⟨b, o, none⟩ : Addr).add j) = some u := fun j u hj => by rw [Addr.add_mid]; exact hr j u hj
    refine wpListIn_append_own w rfl s x t rfl base e i z size bytes hT.ht hi hz hs1 hb1 hT.hz hT.pos v k xs hs hown ⟨b, o, none⟩ 1 c news (hx.trans hu) (by omega) hnews h1 hlen hbytes hbase ?_
    intro v' w' h2 h3 _
    obtain ⟨p, c', rfl, _, _⟩ := (Rds.of_owns h2).form
    exact h p c' w' h2 h3

theorem owns_grown {w w' : World} {base e size n : Nat} {v : Value} {xs : List Value} {row : Option Nat} (h : w.ownsRow base e size v n xs) (hg : w.grownBy w' row) (hr : ∀ r, row = some r → ∃ o : Obj, w.heap[r]? = some o ∧ o.isCells = false) : w'.ownsRow base e size v n xs := by
  obtain ⟨h1, h2⟩ := h
  refine ⟨h1, ?_⟩
  rcases h2 with h2 | ⟨g, cap, cur, hv, hb, hh, r⟩
  · exact .inl h2
  · refine .inr ⟨g, cap, cur, hv, hb, ?_, r⟩
    rw [hg.block g (Array.getElem?_eq_some_iff.1 hh).1 (fun q => ?_)]
    · exact hh
    · obtain ⟨o, ho, hc⟩ := hr g q.symm
      rw [hh] at ho
      cases ho
      exact absurd hc (by simp [Obj.isCells])
theorem others_own {w w' : World} {base e size n : Nat} {v : Value} {xs : List Value} (h : w.ownsRow base e size v n xs) (hg : w.grownBy w' v.ownBlock) : KeepsOthers w w' :=
  ⟨hg.size, fun l o ho hc => (hg.block l (Array.getElem?_eq_some_iff.1 ho).1 (fun q => by
    rcases h.2 with ⟨hv, _⟩ | ⟨g, cap, cur, hv, hb, hh, r⟩
    · rw [hv] at q; cases q
    · rw [hv] at q
      simp only [Value.ownBlock, Option.some.injEq] at q
      subst q
      rw [hh] at ho
      cases ho
      exact absurd hc (by simp [Obj.isCells]))).trans ho⟩

/-- the row that the rounds make, its slice in the variable at U -/
def UpAt {α : Type} (T : TypeId) (U n₀ : Nat) (f : α → List Int) (pre : List α) (W : World) : Prop :=
  ∃ p c, W.cell? ⟨U, 0, none⟩ = some (.slice p pre.length c) ∧ W.frozen? ⟨U, 0, none⟩ = false ∧ W.ownsRow n₀ T 32 (.slice p pre.length c) pre.length (cellsD (pre.map f))
theorem UpAt.from {α : Type} {T : TypeId} {U n₀ : Nat} {f : α → List Int} (hU : U < n₀) : OwnFrom n₀ (fun (pre : List α) W => UpAt T U n₀ f pre W) := by
  rintro pre W W' row ⟨p, c, h1, h2, h3⟩ hg hr
  have hlt : U < W.heap.size := World.block_lt_of_cell? _ _ h1
  have hne : some U ≠ row := fun e => by have := (hr U e.symm).1; omega
  exact ⟨p, c, (hg.cell_far ⟨U, 0, none⟩ hlt hne).trans h1, (hg.frozen_far ⟨U, 0, none⟩ hlt hne).trans h2, owns_grown h3 hg (fun r e => (hr r e).2)⟩
theorem up_post {α : Type} {T : TypeId} {U : Nat} {f : α → List Int} {w5 W w1 w6 : World} {pre : List α} {x : α} {v y : Value} {p : Option Addr} {c : Nat} {xs : List Value}
    (hU : U < w5.heap.size) (hKp : Keep U w5.heap.size w5 W) (hB : Below U w5 W) (hE : Ext W w1) (hg : w1.grownBy w6 v.ownBlock) (hown1 : w1.ownsRow w5.heap.size T 32 v pre.length xs)
    (hown : w6.ownsRow w5.heap.size T 32 (.slice p (pre.length + 1) c) (pre.length + 1) (cellsD (pre.map f) ++ cellsD [f x]))
    (hcu : W.cell? ⟨U, 0, none⟩ = some y) (hfu : W.frozen? ⟨U, 0, none⟩ = false) :
    KeepsOthers W (w6.setCell ⟨U, 0, none⟩ (.slice p (pre.length + 1) c)) ∧ Keep U w5.heap.size W (w6.setCell ⟨U, 0, none⟩ (.slice p (pre.length + 1) c)) ∧
      (UpAt T U w5.heap.size f (pre ++ [x]) (w6.setCell ⟨U, 0, none⟩ (.slice p (pre.length + 1) c)) ∧ (Keep U w5.heap.size w5 (w6.setCell ⟨U, 0, none⟩ (.slice p (pre.length + 1) c)) ∧ Below U w5 (w6.setCell ⟨U, 0, none⟩ (.slice p (pre.length + 1) c)))) := by
  have hgl : U < W.heap.size := World.block_lt_of_cell? _ _ hcu
  have hs1 : W.heap.size ≤ w1.heap.size := hE.size
  have hs5 : w5.heap.size ≤ W.heap.size := hKp.1
  have hlt : ∀ k, v.ownBlock = some k → w5.heap.size ≤ k := fun k hk => (hown1.lt k hk).1
  have hne : some U ≠ v.ownBlock := fun q => by have := hlt U q.symm; omega
  have hK1 : Keep U w5.heap.size W w6 := (Keep.of_below hE hs5).trans ⟨hg.size, fun k hk _ => hg.block k (by omega) (fun q => by have := hlt k q.symm; omega)⟩
  have hc6 : w6.cell? ⟨U, 0, none⟩ = some y := (hg.cell_far ⟨U, 0, none⟩ (show U < _ by omega) hne).trans (((bcell hE).1 U 0 hgl).trans hcu)
  have hf6 : w6.frozen? ⟨U, 0, none⟩ = false := (hg.frozen_far ⟨U, 0, none⟩ (show U < _ by omega) hne).trans (((bcell hE).2 U 0 hgl).trans hfu)
  have hB6 : Below U w5 w6 := (hB.trans (hE.mono (by omega))).trans ((Below.refl U w1).grown hg (by omega) (fun k hk => by have := hlt k hk; omega))
  have hnb : (Value.slice p (pre.length + 1) c).ownBlock ≠ some U := fun q => by have := (hown.lt U q).1; omega
  refine ⟨((others_ext hE).trans (others_own hown1 hg)).trans (KeepsOthers.setCell _ _ _), hK1.set 0 _, ⟨p, c, ?_, ?_, ?_⟩, (hKp.trans hK1).set 0 _, hB6.setCell (Nat.le_refl _) _⟩
  · rw [List.length_append, List.length_singleton]; exact World.cell?_setCell_same _ _ _ hc6
  · rw [World.frozen?_setCell]; exact hf6
  · rw [List.length_append, List.length_singleton, List.map_append, cellsD_append]
    exact owns_setCell hown hnb 0 _

/-- the next level's digest number k -/
def upD (r : List (List Int)) (k : Nat) : List Int := if 2 * k + 2 ≤ r.length then ndD (r.getD (2 * k) []) (r.getD (2 * k + 1) []) else r.getD (2 * k) []
theorem up_get : ∀ (r : List (List Int)) (k : Nat), k < (r.length + 1) / 2 → (up ndD r)[k]? = some (upD r k)
  | [], k, h => by simp at h
  | [a], k, h => by
    have hk : k = 0 := by simp at h; omega
    subst hk; simp [up, upD]
  | a :: b :: r, 0, _ => by simp [up, upD]
  | a :: b :: r, k + 1, h => by
    have ih := up_get r k (by simp at h; omega)
    simp only [up, List.getElem?_cons_succ, ih]
    congr 1
    unfold upD
    have e1 : 2 * (k + 1) = 2 * k + 1 + 1 := by omega
    have e2 : 2 * (k + 1) + 1 = 2 * k + 1 + 1 + 1 := by omega
    simp only [List.length_cons]
    by_cases hh : 2 * k + 2 ≤ r.length
    · rw [if_pos hh, if_pos (by omega), e2, e1, List.getD_cons_succ, List.getD_cons_succ, List.getD_cons_succ, List.getD_cons_succ]
    · rw [if_neg hh, if_neg (by omega), e1, List.getD_cons_succ, List.getD_cons_succ]
theorem up_eq (r : List (List Int)) (m : Nat) (hm : m = (r.length + 1) / 2) : (List.finRange m).map (fun x => upD r x.val) = up ndD r := by
  apply List.ext_getElem?
  intro k
  by_cases hk : k < m
  · rw [up_get r k (by omega), List.getElem?_map, List.getElem?_eq_getElem (by simpa using hk)]
    simp
  · rw [List.getElem?_eq_none (by simp; omega), List.getElem?_eq_none (by rw [up_length]; omega)]
theorem dig_up : ∀ (r : List (List Int)), Dig r → Dig (up ndD r)
  | [], h => h
  | [_], h => h
  | a :: b :: r, h => by
    have ih := dig_up r (fun d hd => h d (by simp [hd]))
    intro d hd
    simp only [up, List.mem_cons] at hd
    rcases hd with rfl | hd
    · exact ⟨ndD_length _ _, ndD_byt _ _⟩
    · exact ih d hd
theorem overD_up (r : List (List Int)) (h : r.length ≤ 1048576) : overD (up ndD r) = overD r := over_up ndD zD r.length r rfl (by omega)
end Go.Proofs.Bl

/- Walks of tree.Root, baileeref12.Root, baileelaw12.Long. The plain part. -/
namespace Go.Proofs.Bl
open Go Go.RowKit
/-- the root of leaves -/
def rootD (ps : List (List Int)) : List Int := overD (ps.map lfD)
theorem rootD_length (ps : List (List Int)) (h : ps.length ≤ 1048576) : (rootD ps).length = 32 := (overD_dig _ _ rfl (dig_leaves ps) (by rw [List.length_map]; omega)).1
theorem rootD_byt (ps : List (List Int)) (h : ps.length ≤ 1048576) : Byt (rootD ps) := (overD_dig _ _ rfl (dig_leaves ps) (by rw [List.length_map]; omega)).2
theorem rootD_one (p : List Int) : rootD [p] = lfD p := over_one ndD zD (lfD p)
theorem rootD_hi (ps : List (List Int)) (h : 2 ≤ ps.length) (h2 : ps.length ≤ 1048576) : rootD ps = ndD (rootD (ps.take (sp ps.length))) (rootD (ps.drop (sp ps.length))) := by
  unfold rootD overD
  rw [over_hi ndD zD (ps.map lfD) (by rw [List.length_map]; omega) (by rw [List.length_map]; omega), List.length_map, List.map_take, List.map_drop]
theorem Rdss.take {w : World} {b o n c : Nat} {ps : List (List Int)} (h : Rdss w (.slice (some ⟨b, o, none⟩) n c) ps) (k : Nat) (hk : k ≤ ps.length) : Rdss w (.slice (some ⟨b, o, none⟩) k c) (ps.take k) := by
  obtain ⟨vs, hv, hl, hr⟩ := h
  have hlt : (ps.take k).length = k := by rw [List.length_take]; omega
  refine ⟨vs.take k, ?_, by rw [List.length_take, List.length_take, hl], fun j hj => ?_⟩
  · rw [hlt]
    rcases hv with ⟨⟨p, h1⟩, h2, h3⟩ | ⟨b', o', c', h1, h2, h3, h4⟩
    · injection h1 with e1 e2 e3
      obtain rfl : k = 0 := by omega
      refine .inl ⟨⟨_, by rw [e3]⟩, rfl, by simp⟩
    · injection h1 with e1 e2 e3
      injection e1 with e1
      injection e1 with e4 e5
      subst e4 e5 e3
      exact .inr ⟨_, _, _, rfl, by omega, h3, rangeAt_take h4 k⟩
  · have hjk : j < k := by omega
    have := hr j (by omega)
    rw [List.getD_eq_getElem?_getD, List.getElem?_take, if_pos hjk, ← List.getD_eq_getElem?_getD, List.getD_eq_getElem?_getD (l := ps.take k), List.getElem?_take, if_pos hjk, ← List.getD_eq_getElem?_getD]
    exact this
theorem Rdss.drop {w : World} {b o n c : Nat} {ps : List (List Int)} (h : Rdss w (.slice (some ⟨b, o, none⟩) n c) ps) (k : Nat) (hk : k < ps.length) : Rdss w (.slice (some ⟨b, o + k, none⟩) (n - k) (c - k)) (ps.drop k) := by
  obtain ⟨vs, hv, hl, hr⟩ := h
  refine ⟨vs.drop k, ?_, by rw [List.length_drop, List.length_drop, hl], fun j hj => ?_⟩
  · rcases hv with ⟨⟨p, h1⟩, h2, h3⟩ | ⟨b', o', c', h1, h2, h3, h4⟩
    · omega
    · injection h1 with e1 e2 e3
      injection e1 with e1
      injection e1 with e4 e5
      subst e4 e5 e3 e2
      refine .inr ⟨_, _, _, by rw [List.length_drop], by rw [List.length_drop]; omega, by omega, rangeAt_drop h4 k⟩
  · rw [List.length_drop] at hj
    have := hr (k + j) (by omega)
    rw [List.getD_eq_getElem?_getD, List.getElem?_drop, ← List.getD_eq_getElem?_getD, List.getD_eq_getElem?_getD (l := ps.drop k), List.getElem?_drop, ← List.getD_eq_getElem?_getD]
    exact this
end Go.Proofs.Bl

/- Walks of baileeenum.SameLists, baileelaw12.Long (decided). The plain part. -/
namespace Go.Proofs.Bl
open Go Go.RowKit
/-- are there more leaves than are asked, or longer ones? -/
def longB (ps : List (List Int)) (most : Nat) : Bool := !(decide (ps.length ≤ most) && ps.all fun p => decide (p.length ≤ 200))
theorem longB_long (ps : List (List Int)) (most : Nat) (h : most < ps.length) : longB ps most = true := by
  unfold longB; rw [decide_eq_false (by omega)]; rfl
theorem longB_one (ps : List (List Int)) (most : Nat) (k : Nat) (hk : k < ps.length) (h : 200 < (ps.getD k []).length) : longB ps most = true := by
  have : (ps.all fun p => decide (p.length ≤ 200)) = false := by
    rw [List.all_eq_false]
    refine ⟨ps[k], List.getElem_mem hk, ?_⟩
    rw [List.getD_eq_getElem?_getD, List.getElem?_eq_getElem hk] at h
    simp only [Option.getD_some] at h
    simp; omega
  unfold longB; rw [this]; simp
theorem longB_no {ps : List (List Int)} {most : Nat} (h : ps.length ≤ most) (h2 : ∀ p ∈ ps, p.length ≤ 200) : longB ps most = false := by
  have : (ps.all fun p => decide (p.length ≤ 200)) = true := by
    rw [List.all_eq_true]; intro p hp; exact decide_eq_true (h2 p hp)
  unfold longB; rw [this, decide_eq_true h]; rfl
theorem longB_false {ps : List (List Int)} {most : Nat} (h : longB ps most = false) : ps.length ≤ most ∧ ∀ p ∈ ps, p.length ≤ 200 := by
  unfold longB at h
  simp only [Bool.not_eq_false', Bool.and_eq_true, decide_eq_true_eq, List.all_eq_true] at h
  exact h
theorem take_succ_getD (ps : List (List Int)) (k : Nat) (h : k < ps.length) : ps.take (k + 1) = ps.take k ++ [ps.getD k []] := by
  rw [List.getD_eq_getElem?_getD, List.getElem?_eq_getElem h, List.take_succ_eq_append_getElem h]; rfl
end Go.Proofs.Bl

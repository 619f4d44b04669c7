/- A frame's marks: each range over a function leaves one among the deferred calls. A row that grows in the rounds. No program. -/
import Derived.RangeFuncLeaves
import Derived.Test.YtmfooocdnoflaaaDoorWLeaves
import Derived.Test.YtmfooocdnoflaaaDoorShaB
namespace Go.Proofs.Bl
open Go Go.RowKit

/-- the frame's deferred calls are marks of ranges over functions, the newest first; their blocks lie at B and beyond, below N, and none is shut -/
def Marks (B : Nat) (w : World) : Nat → List Deferred → Prop
  | _, [] => True
  | N, d :: ds => ∃ D, d = { target := .collected D, args := #[] } ∧ B ≤ D ∧ D < N ∧ w.heap[D]? = some (.deferred (some [])) ∧ Marks B w D ds
theorem Marks.keep {B : Nat} {w w' : World} : ∀ (ds : List Deferred) (N : Nat), (∀ D, B ≤ D → D < N → w.heap[D]? = some (.deferred (some [])) → w'.heap[D]? = w.heap[D]?) → Marks B w N ds → Marks B w' N ds
  | [], _, _, _ => trivial
  | _ :: ds, _, hk, ⟨D, h1, h2, h3, h4, h5⟩ => ⟨D, h1, h2, h3, (hk D h2 h3 h4).trans h4, Marks.keep ds D (fun k hkB hkD => hk k hkB (Nat.lt_trans hkD h3)) h5⟩
theorem Marks.mono {B : Nat} {w : World} {N N' : Nat} : ∀ (ds : List Deferred), N ≤ N' → Marks B w N ds → Marks B w N' ds
  | [], _, _ => trivial
  | _ :: _, hN, ⟨D, h1, h2, h3, h4, h5⟩ => ⟨D, h1, h2, Nat.lt_of_lt_of_le h3 hN, h4, h5⟩
theorem leaves_marks {P : Program} {n : Nat} {fn : Func} {tmps : Array Value} {R : Ending → World → Prop} {B : Nat} : ∀ (ds : List Deferred) (N : Nat) (w : World), Marks B w N ds →
    (∀ w', Below B w w' → ∃ v, (results fn tmps).run P w' = .ok v w' ∧ R (.returned v) w') → LeavesInM Fence.wide n P fn tmps R ds .returning w
  | [], _, w, _, h => by
    simp only [LeavesInM, LeavesIn]
    exact h w (Below.refl _ _)
  | _ :: ds, _, w, ⟨D, hd, hB, _, hD, hm⟩, h => by
    subst hd
    have hlt : D < w.heap.size := (Array.getElem?_eq_some_iff.1 hD).1
    have hb : Below B w (w.putObj D (.deferred none)) := (Below.refl B w).grown (grownBy_putObj' w D (.deferred none)) (by omega) (fun k e => by cases e; omega)
    refine ⟨by simp, .inl ⟨_, _, rfl, run_takeDeferred hD, ?_⟩⟩
    refine leaves_marks ds D _ (Marks.keep ds D (fun k _ hk _ => World.putObj_heap_other (by omega)) hm) ?_
    intro w' hw'
    exact h w' (hb.trans hw')

/-- append of one more to a row of one's own, within a round -/
theorem wpLI_app1 {F : Fence} {nf : Nat} {P : Program} {ops : Array Oper} {rest : List Oper} {a : Act} {w : World} {Q : Exit → Act → World → Prop} {d : Option Tmp} {tt t e : TypeId} {pp : String} {af : Array Edge} {s x : Operand} {v u z : Value} {base size bytes k : Nat} {xs news : List Value}
    (hT : SlT P t e z size bytes) (hown : w.ownsRow base e size v k xs) (hrd : Rds w u 1 news) (hs : a.eval s = v) (hx : a.eval x = u) (hl : news.length = size) (h1 : ∀ c ∈ news, c.oneCell' = true)
    (hlen : k + 1 ≤ maxLen) (hbytes : (k + 1) * bytes ≤ 140737488355328) (hbase : base ≤ w.heap.size)
    (h : ∀ p c w', w'.ownsRow base e size (.slice p (k + 1) c) (k + 1) (xs ++ news) → w.grownBy w' v.ownBlock → wpListIn F nf P ops Q rest (a.put d (.slice p (k + 1) c)) w') :
    wpListIn F nf P ops Q (⟨d, .call { callee := .builtin .append, args := #[s, x], argTypes := #[t, t] }, tt, pp, af, none⟩ :: rest) a w := by
  obtain ⟨i, hi, hz, hs1, hb1⟩ := info_parts hT.info
  rcases hrd with ⟨_, hm, _⟩ | ⟨b, o, c, hu, _, _, hr⟩
  · omega
  · have hnews : ∀ j u, news[j]? = some u → w.cell? ((⟨b, o, none⟩ : Addr).add j) = some u := fun j u hj => by rw [Addr.add_mid]; exact hr j u hj
    refine wpListIn_append_own w rfl s x t rfl base e i z size bytes hT.ht hi hz hs1 hb1 hT.hz hT.pos v k xs hs hown ⟨b, o, none⟩ 1 c news (hx.trans hu) (by omega) hnews h1 hlen hbytes hbase ?_
    intro v' w' h2 h3 _
    obtain ⟨p, c', rfl, _, _⟩ := (Rds.of_owns h2).form
    exact h p c' w' h2 h3

theorem owns_grown {w w' : World} {base e size n : Nat} {v : Value} {xs : List Value} {row : Option Nat} (h : w.ownsRow base e size v n xs) (hg : w.grownBy w' row) (hr : ∀ r, row = some r → ∃ o : Obj, w.heap[r]? = some o ∧ o.isCells = false) : w'.ownsRow base e size v n xs := by
  obtain ⟨h1, h2⟩ := h
  refine ⟨h1, ?_⟩
  rcases h2 with h2 | ⟨g, cap, cur, hv, hb, hh, r⟩
  · exact .inl h2
  · refine .inr ⟨g, cap, cur, hv, hb, ?_, r⟩
    rw [hg.block g (Array.getElem?_eq_some_iff.1 hh).1 (fun q => ?_)]
    · exact hh
    · obtain ⟨o, ho, hc⟩ := hr g q.symm
      rw [hh] at ho
      cases ho
      exact absurd hc (by simp [Obj.isCells])
theorem others_own {w w' : World} {base e size n : Nat} {v : Value} {xs : List Value} (h : w.ownsRow base e size v n xs) (hg : w.grownBy w' v.ownBlock) : KeepsOthers w w' :=
  ⟨hg.size, fun l o ho hc => (hg.block l (Array.getElem?_eq_some_iff.1 ho).1 (fun q => by
    rcases h.2 with ⟨hv, _⟩ | ⟨g, cap, cur, hv, hb, hh, r⟩
    · rw [hv] at q; cases q
    · rw [hv] at q
      simp only [Value.ownBlock, Option.some.injEq] at q
      subst q
      rw [hh] at ho
      cases ho
      exact absurd hc (by simp [Obj.isCells]))).trans ho⟩

/-- the row that the rounds make, its slice in the variable at U -/
def UpAt {α : Type} (T : TypeId) (U n₀ : Nat) (f : α → List Int) (pre : List α) (W : World) : Prop :=
  ∃ p c, W.cell? ⟨U, 0, none⟩ = some (.slice p pre.length c) ∧ W.frozen? ⟨U, 0, none⟩ = false ∧ W.ownsRow n₀ T 32 (.slice p pre.length c) pre.length (cellsD (pre.map f))
theorem UpAt.from {α : Type} {T : TypeId} {U n₀ : Nat} {f : α → List Int} (hU : U < n₀) : OwnFrom n₀ (fun (pre : List α) W => UpAt T U n₀ f pre W) := by
  rintro pre W W' row ⟨p, c, h1, h2, h3⟩ hg hr
  have hlt : U < W.heap.size := World.block_lt_of_cell? _ _ h1
  have hne : some U ≠ row := fun e => by have := (hr U e.symm).1; omega
  exact ⟨p, c, (hg.cell_far ⟨U, 0, none⟩ hlt hne).trans h1, (hg.frozen_far ⟨U, 0, none⟩ hlt hne).trans h2, owns_grown h3 hg (fun r e => (hr r e).2)⟩
theorem up_post {α : Type} {T : TypeId} {U : Nat} {f : α → List Int} {w5 W w1 w6 : World} {pre : List α} {x : α} {v y : Value} {p : Option Addr} {c : Nat} {xs : List Value}
    (hU : U < w5.heap.size) (hKp : Keep U w5.heap.size w5 W) (hB : Below U w5 W) (hE : Ext W w1) (hg : w1.grownBy w6 v.ownBlock) (hown1 : w1.ownsRow w5.heap.size T 32 v pre.length xs)
    (hown : w6.ownsRow w5.heap.size T 32 (.slice p (pre.length + 1) c) (pre.length + 1) (cellsD (pre.map f) ++ cellsD [f x]))
    (hcu : W.cell? ⟨U, 0, none⟩ = some y) (hfu : W.frozen? ⟨U, 0, none⟩ = false) :
    KeepsOthers W (w6.setCell ⟨U, 0, none⟩ (.slice p (pre.length + 1) c)) ∧ Keep U w5.heap.size W (w6.setCell ⟨U, 0, none⟩ (.slice p (pre.length + 1) c)) ∧
      (UpAt T U w5.heap.size f (pre ++ [x]) (w6.setCell ⟨U, 0, none⟩ (.slice p (pre.length + 1) c)) ∧ (Keep U w5.heap.size w5 (w6.setCell ⟨U, 0, none⟩ (.slice p (pre.length + 1) c)) ∧ Below U w5 (w6.setCell ⟨U, 0, none⟩ (.slice p (pre.length + 1) c)))) := by
  have hgl : U < W.heap.size := World.block_lt_of_cell? _ _ hcu
  have hs1 : W.heap.size ≤ w1.heap.size := hE.size
  have hs5 : w5.heap.size ≤ W.heap.size := hKp.1
  have hlt : ∀ k, v.ownBlock = some k → w5.heap.size ≤ k := fun k hk => (hown1.lt k hk).1
  have hne : some U ≠ v.ownBlock := fun q => by have := hlt U q.symm; omega
  have hK1 : Keep U w5.heap.size W w6 := (Keep.of_below hE hs5).trans ⟨hg.size, fun k hk _ => hg.block k (by omega) (fun q => by have := hlt k q.symm; omega)⟩
  have hc6 : w6.cell? ⟨U, 0, none⟩ = some y := (hg.cell_far ⟨U, 0, none⟩ (show U < _ by omega) hne).trans (((bcell hE).1 U 0 hgl).trans hcu)
  have hf6 : w6.frozen? ⟨U, 0, none⟩ = false := (hg.frozen_far ⟨U, 0, none⟩ (show U < _ by omega) hne).trans (((bcell hE).2 U 0 hgl).trans hfu)
  have hB6 : Below U w5 w6 := (hB.trans (hE.mono (by omega))).trans ((Below.refl U w1).grown hg (by omega) (fun k hk => by have := hlt k hk; omega))
  have hnb : (Value.slice p (pre.length + 1) c).ownBlock ≠ some U := fun q => by have := (hown.lt U q).1; omega
  refine ⟨((others_ext hE).trans (others_own hown1 hg)).trans (KeepsOthers.setCell _ _ _), hK1.set 0 _, ⟨p, c, ?_, ?_, ?_⟩, (hKp.trans hK1).set 0 _, hB6.setCell (Nat.le_refl _) _⟩
  · rw [List.length_append, List.length_singleton]; exact World.cell?_setCell_same _ _ _ hc6
  · rw [World.frozen?_setCell]; exact hf6
  · rw [List.length_append, List.length_singleton, List.map_append, cellsD_append]
    exact owns_setCell hown hnb 0 _

/-- the next level's digest number k -/
def upD (r : List (List Int)) (k : Nat) : List Int := if 2 * k + 2 ≤ r.length then ndD (r.getD (2 * k) []) (r.getD (2 * k + 1) []) else r.getD (2 * k) []
theorem up_get : ∀ (r : List (List Int)) (k : Nat), k < (r.length + 1) / 2 → (up ndD r)[k]? = some (upD r k)
  | [], k, h => by simp at h
  | [a], k, h => by
    have hk : k = 0 := by simp at h; omega
    subst hk; simp [up, upD]
  | a :: b :: r, 0, _ => by simp [up, upD]
  | a :: b :: r, k + 1, h => by
    have ih := up_get r k (by simp at h; omega)
    simp only [up, List.getElem?_cons_succ, ih]
    congr 1
    unfold upD
    have e1 : 2 * (k + 1) = 2 * k + 1 + 1 := by omega
    have e2 : 2 * (k + 1) + 1 = 2 * k + 1 + 1 + 1 := by omega
    simp only [List.length_cons]
    by_cases hh : 2 * k + 2 ≤ r.length
    · rw [if_pos hh, if_pos (by omega), e2, e1, List.getD_cons_succ, List.getD_cons_succ, List.getD_cons_succ, List.getD_cons_succ]
    · rw [if_neg hh, if_neg (by omega), e1, List.getD_cons_succ, List.getD_cons_succ]
theorem up_eq (r : List (List Int)) (m : Nat) (hm : m = (r.length + 1) / 2) : (List.finRange m).map (fun x => upD r x.val) = up ndD r := by
  apply List.ext_getElem?
  intro k
  by_cases hk : k < m
  · rw [up_get r k (by omega), List.getElem?_map, List.getElem?_eq_getElem (by simpa using hk)]
    simp
  · rw [List.getElem?_eq_none (by simp; omega), List.getElem?_eq_none (by rw [up_length]; omega)]
theorem dig_up : ∀ (r : List (List Int)), Dig r → Dig (up ndD r)
  | [], h => h
  | [_], h => h
  | a :: b :: r, h => by
    have ih := dig_up r (fun d hd => h d (by simp [hd]))
    intro d hd
    simp only [up, List.mem_cons] at hd
    rcases hd with rfl | hd
    · exact ⟨ndD_length _ _, ndD_byt _ _⟩
    · exact ih d hd
theorem overD_up (r : List (List Int)) (h : r.length ≤ 1048576) : overD (up ndD r) = overD r := over_up ndD zD r.length r rfl (by omega)
end Go.Proofs.Bl

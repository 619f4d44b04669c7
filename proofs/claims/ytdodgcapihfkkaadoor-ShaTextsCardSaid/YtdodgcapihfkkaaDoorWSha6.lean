/- slices.Chunk over bytes: the function value, and its contract. -/
import Derived.Test.YtdodgcapihfkkaaDoorWSha5
import Derived.Test.YtdodgcapihfkkaaDoorRange
import Derived.LoopNIn
import Derived.LoopIn
import Derived.WalkKit
import Derived.Shelf.Abstract
namespace Go.Proofs.Bl
open Go Go.RowKit

/-- all blocks below n but g are as they were -/
def Keep (g n : Nat) (w w' : World) : Prop := w.heap.size ≤ w'.heap.size ∧ ∀ k, k < n → k ≠ g → w'.heap[k]? = w.heap[k]?
theorem Keep.refl (g n : Nat) (w : World) : Keep g n w w := ⟨Nat.le_refl _, fun _ _ _ => rfl⟩
theorem Keep.trans {g n : Nat} {a b c : World} (h : Keep g n a b) (k : Keep g n b c) : Keep g n a c := ⟨Nat.le_trans h.1 k.1, fun i hi hg => (k.2 i hi hg).trans (h.2 i hi hg)⟩
theorem Keep.cell {g n : Nat} {w w' : World} (h : Keep g n w w') {b i : Nat} (hb : b < n) (hg : b ≠ g) : w'.cell? ⟨b, i, none⟩ = w.cell? ⟨b, i, none⟩ := World.cell?_of_block (w := w) (h.2 b hb hg)
theorem Keep.putObj {g n : Nat} {w : World} (hn : n ≤ w.heap.size) (W : World) (l : Nat) (o o' : Obj) (hl : w.heap.size ≤ l) (_ : W.heap[l]? = some o) (_ : o.isCells = false) (_ : o.isWalk = false) : Keep g n W (W.putObj l o') :=
  ⟨by simp, fun k hk _ => World.putObj_heap_other (by omega)⟩
theorem Keep.of_below {g n B : Nat} {w w' : World} (h : Below B w w') (hn : n ≤ B) : Keep g n w w' := ⟨h.size, fun k hk _ => h.block k (by omega)⟩
theorem ownFrom_keep {β : Type} {g n B : Nat} {w₀ : World} (hB : n ≤ B) (hn : n ≤ w₀.heap.size): OwnFrom B (fun (_ : β) W => Keep g n w₀ W) :=
  fun _ W W' row hs hg hr => by
    exact hs.trans ⟨hg.size, fun k hk _ => hg.block k (by have := hs.1; omega) (fun e => by have := (hr k e.symm).1; omega)⟩

theorem Fam.keep {g n : Nat} {w w' : World} {b : Nat} {k : IntKind} {m : Nat} {f : Nat → Int} (h : Fam w b k m f) (hk : Keep g n w w') (hb : b < n) (hg : b ≠ g) : Fam w' b k m f :=
  ⟨fun i hi => (hk.cell hb hg).trans (h.1 i hi), fun i => (World.frozen?_of_block (w := w) (hk.2 b hb hg)).trans (h.2 i)⟩
theorem cell_new1 (w : World) (v : Value) (t : TypeId) : (w.alloc (.cells #[v] t)).cell? ⟨w.heap.size, 0, none⟩ = some v := by have h := World.alloc_heap_new w (.cells #[v] t); simp only [World.cell?, h]; rfl
theorem exc_setCells {g : Nat} {a : World} : ∀ (vs : List Value) (o : Nat) (w : World), Exc g a w → Exc g a (w.setCells g o vs)
  | [], _, _, h => h
  | v :: r, o, w, h => by rw [World.setCells]; exact exc_setCells r (o + 1) _ (h.set o v)
theorem Keep.set {g n : Nat} {a w : World} (h : Keep g n a w) (i : Nat) (u : Value) : Keep g n a (w.setCell ⟨g, i, none⟩ u) :=
  ⟨Nat.le_trans h.1 ((Below.refl 0 w).setCell (p := ⟨g, i, none⟩) (Nat.zero_le _) u).size, fun k hk hne => (Below.heap_setCell _ _ _ _ hne).trans (h.2 k hk hne)⟩
theorem Keep.store8 {g n : Nat} {a w : World} (h : Keep g n a w) (x0 x1 x2 x3 x4 x5 x6 x7 : Value) :
    Keep g n a ((((((((w.setCell ⟨g, 0, none⟩ x0).setCell ⟨g, 1, none⟩ x1).setCell ⟨g, 2, none⟩ x2).setCell ⟨g, 3, none⟩ x3).setCell ⟨g, 4, none⟩ x4).setCell ⟨g, 5, none⟩ x5).setCell ⟨g, 6, none⟩ x6).setCell ⟨g, 7, none⟩ x7) :=
  (((((((h.set 0 _).set 1 _).set 2 _).set 3 _).set 4 _).set 5 _).set 6 _).set 7 _
theorem others_ext {w w' : World} (h : Ext w w') : KeepsOthers w w' := ⟨h.size, fun l _ ho _ => (h.block l (Array.getElem?_eq_some_iff.1 ho).1).trans ho⟩
theorem others_store8 {a w : World} (h : KeepsOthers a w) (g : Nat) (x0 x1 x2 x3 x4 x5 x6 x7 : Value) :
    KeepsOthers a ((((((((w.setCell ⟨g, 0, none⟩ x0).setCell ⟨g, 1, none⟩ x1).setCell ⟨g, 2, none⟩ x2).setCell ⟨g, 3, none⟩ x3).setCell ⟨g, 4, none⟩ x4).setCell ⟨g, 5, none⟩ x5).setCell ⟨g, 6, none⟩ x6).setCell ⟨g, 7, none⟩ x7) :=
  (((((((h.trans (KeepsOthers.setCell _ _ _)).trans (KeepsOthers.setCell _ _ _)).trans (KeepsOthers.setCell _ _ _)).trans (KeepsOthers.setCell _ _ _)).trans (KeepsOthers.setCell _ _ _)).trans (KeepsOthers.setCell _ _ _)).trans (KeepsOthers.setCell _ _ _)).trans (KeepsOthers.setCell _ _ _)
theorem grown_ext {w w' : World} (h : Ext w w') : w.grownBy w' none := ⟨h.os, h.tape, h.output, h.size, fun k hk _ => h.block k hk⟩

def chunks (m : Nat) (k : Nat) : List (Fin m) := (List.finRange m).take k
theorem chunks_succ (m k : Nat) (hk : k < m) : chunks m (k + 1) = chunks m k ++ [⟨k, hk⟩] := by
  unfold chunks
  rw [List.take_add_one, List.getElem?_eq_getElem (by simpa using hk)]
  simp
theorem chunks_length (m k : Nat) (hk : k ≤ m) : (chunks m k).length = k := by simp [chunks, hk]
theorem chunks_all (m : Nat) : chunks m m = List.finRange m := by unfold chunks; rw [List.take_of_length_le (by simp)]
end Go.Proofs.Bl
namespace Go.Proofs.YtdodgcapihfkkaaDoor
open Go Go.RowKit Go.Proofs

attribute [local go_sem] Oper.semAt_some

set_option maxRecDepth 100000 in
set_option maxHeartbeats 400000 in
theorem chunkB_any (w : World) (p : Option Addr) (n c : Nat) :
    Calls Tryd.prog 105 #[.slice p n c, .int .i64 64] w fun e w' => e = .returned (.func (.func 133) #[] #[.pointer (some ⟨w.heap.size, 0, none⟩), .pointer (some ⟨w.heap.size + 1, 0, none⟩)]) ∧ w' = (w.alloc (.cells #[.slice p n c] 24)).alloc (.cells #[.int .i64 64] 3) := by
  go_enter Tryd.func105, Tryd.ntmps105
  go_wp2
  go_ret
  exact ⟨rfl, rfl⟩

set_option maxRecDepth 100000 in
set_option maxHeartbeats 1000000 in
theorem chunkB1_in (n lr Bs Bn gw n₀ b off m cap : Nat) (hn : 1 ≤ n) (hcap : 64 * m ≤ cap) (hmax : 64 * m ≤ 1099511627776) (hBs : Bs < n₀) (hBn : Bn < n₀) (hBsg : Bs ≠ gw) (hBng : Bn ≠ gw) (J Jx : List (Fin m) → World → Prop) (B0 : Nat) (hB0 : AbidesFrom B0 J)
    (hY : ∀ pre x W, J pre W → pre.length < m → YieldAt Fence.wide (n - 1) Tryd.prog lr #[.slice (some ⟨b, off + 64 * x.val, none⟩) 64 64] W fun e W' =>
      (e = .returned (.bool true) ∧ J (pre ++ [x]) W' ∧ Bl.Keep gw n₀ W W') ∨ (e = .returned (.bool false) ∧ Jx (pre ++ [x]) W'))
    (W : World) (hcs : W.cell? ⟨Bs, 0, none⟩ = some (.slice (some ⟨b, off, none⟩) (64 * m) cap)) (hcn : W.cell? ⟨Bn, 0, none⟩ = some (.int .i64 64)) (h0 : J [] W) (hn₀ : n₀ ≤ W.heap.size) :
    CallsIn Fence.wide n Tryd.prog 133 #[.func (.yield lr) #[] #[], .pointer (some ⟨Bs, 0, none⟩), .pointer (some ⟨Bn, 0, none⟩)] W fun e W' => (∃ v, e = .returned v) ∧
      ((∃ xs, xs = List.finRange m ∧ J xs W') ∨ (∃ pre, (∃ k, k ≤ m ∧ pre = Bl.chunks m k) ∧ Jx pre W')) := by
  refine callsIn_of_wp Tryd.func133 rfl trivial ?_ rfl
  simp only [Tryd.ntmps133, List.size_toArray, List.length_cons, List.length_nil, Nat.reduceAdd, Nat.reduceSub, Array.replicate_succ, Array.replicate_zero, List.push_toArray, List.append_toArray, List.nil_append, List.cons_append]
  gi_wp2
  gi_loopw [4] (fun i wr => ∃ k : Nat, k ≤ m ∧ i = .int .i64 (64 * k : Nat) ∧ J (Bl.chunks m k) wr ∧ Bl.Keep gw n₀ W wr)
    (fun i _ => 64 * m - (intOf i).toNat)
  case atStart => exact ⟨0, Nat.zero_le _, rfl, h0, Bl.Keep.refl _ _ _⟩
  case round =>
    obtain ⟨k, hk, rfl, hJs, hnx⟩ := hrel
    have hnx' : n₀ ≤ wr.heap.size := Nat.le_trans hn₀ hnx.1
    have hBsl : Bs < wr.heap.size := World.block_lt_of_cell? _ _ ((hnx.cell (i := 0) hBs hBsg).trans hcs)
    have hBnl : Bn < wr.heap.size := World.block_lt_of_cell? _ _ ((hnx.cell (i := 0) hBn hBng).trans hcn)
    have hcs' := (hnx.cell (i := 0) hBs hBsg).trans hcs
    have hcn' := (hnx.cell (i := 0) hBn hBng).trans hcn
    by_cases hlt : k < m
    · gi_wp2
      have h64 : (64 : Int) ≤ ((64 * m - 64 * k : Nat) : Int) := by omega
      have hle : ((64 * k : Nat) : Int) ≤ ((64 * m : Nat) : Int) := by omega
      have hle2 : ((64 * k : Nat) : Int) ≤ (cap : Int) := by omega
      have htn : (64 * (k : Int)).toNat = 64 * k := by omega
      refine wpIn_wide.2 ?_
      apply Bl.wp_region_ev 6 [13, 14, 15, 16, 17, 18] [Bl.eqv (.int .i64 64), Bl.eqv (.slice (some ⟨b, off, none⟩) (64 * m) cap), Bl.eqv (.int .i64 (64 * k : Nat)), Bl.eqv (.slice (some ⟨b, off + 64 * k, none⟩) (64 * m - 64 * k) (cap - 64 * k)), Bl.eqv (.int .i64 (64 * m - 64 * k : Nat)), Bl.eqv (.int .i64 64)] (by kernel_rfl) (by kernel_rfl) (by kernel_rfl) (by rfl)
      case hsteps =>
        refine ⟨?_, ?_, ?_, ?_, ?_, ?_, trivial⟩
        all_goals
          intro ev w1 hext hb hd
          have e1 := hb 1 (by decide)
          have e2 := hb 2 (by decide)
          have e4 := hb 4 (by decide)
          clear hb
          simp only [Array.getD_eq_getD_getElem?, List.getElem?_toArray, List.getElem?_cons_succ, List.getElem?_cons_zero, Option.getD_some] at e1 e2 e4
          simp only [Bl.DepsE, List.getElem?_cons_succ, List.getElem?_cons_zero, Option.bind_some, List.getD_cons_succ, List.getD_cons_zero, Bl.eqv, and_true] at hd
          have hc := (Bl.bcell hext).1
          have hcs1 := (hc _ 0 hBsl).trans hcs'
          have hcn1 := (hc _ 0 hBnl).trans hcn'
          simp only [Bl.Good, Region.wanted, if_true]
          go_simp
          first
            | exact ⟨Below.refl _ _, rfl⟩
            | exact ⟨Below.refl _ _, by rw [if_neg (by omega)]; rfl⟩
            | exact ⟨Below.refl _ _, by rw [if_neg (by omega), htn]; rfl⟩
      case hend =>
        intro u w1 hext hend
        simp only [Bl.EndE, List.getElem?_cons_succ, List.getElem?_cons_zero, Option.bind_some, List.getD_cons_succ, List.getD_cons_zero, Bl.eqv, true_and] at hend
        simp only [Bl.fillAct, List.setIfInBounds_toArray, List.set_cons_succ, List.set_cons_zero, List.drop_succ_cons, List.drop_zero, hend]
        have hcs1 := ((Bl.bcell hext).1 _ 0 hBsl).trans hcs'
        have hcn1 := ((Bl.bcell hext).1 _ 0 hBnl).trans hcn'
        have hJ1 : J (Bl.chunks m k) w1 := hB0 _ wr w1 none hJs (Bl.grown_ext hext) (fun r e => by cases e)
        have hN : Bl.Keep gw n₀ wr w1 := ⟨hext.size, fun i hi _ => hext.block i (Nat.lt_of_lt_of_le hi hnx')⟩
        go_wp2_with fail
        obtain ⟨fn, tmps, assign, body, hy, hR⟩ := hY _ ⟨k, hlt⟩ w1 hJ1 (by rw [Bl.chunks_length _ _ hk]; exact hlt)
        dsimp only at hy
        have hi1 : ((64 * k : Nat) : Int) + 64 ≤ (cap : Int) := by omega
        have hi2 : (64 * (k : Int) + 64).toNat = 64 * k + 64 := by omega
        gi_wp2
        refine hR.mono ?_
        rintro e W3 (⟨rfl, hJ3, hk3⟩ | ⟨rfl, hJx3⟩)
        · have hcs3 := (hk3.cell (i := 0) hBs hBsg).trans hcs1
          have hcn3 := (hk3.cell (i := 0) hBn hBng).trans hcn1
          have hi3 : 64 * (k : Int) + 64 = ((64 * (k + 1) : Nat) : Int) := by omega
          gi_wp2
          go_roundw
          case rel => exact ⟨k + 1, by omega, by simp, by rw [Bl.chunks_succ _ _ hlt]; exact hJ3, (hnx.trans hN).trans hk3⟩
          case measure => simp [intOf]; omega
        · gi_wp2
          refine bodyPost_ret (results_none rfl _ _ _) rfl ?_
          exact ⟨⟨_, rfl⟩, .inr ⟨_, ⟨k + 1, by omega, (Bl.chunks_succ _ _ hlt).symm⟩, hJx3⟩⟩
      case hmono => exact ⟨Bl.mono_eqv _, Bl.mono_eqv _, Bl.mono_eqv _, Bl.mono_eqv _, Bl.mono_eqv _, Bl.mono_eqv _, trivial⟩
    · obtain rfl : k = m := by omega
      gi_wp2
      go_end0
      exact ⟨⟨_, rfl⟩, .inl ⟨_, rfl, by rw [← Bl.chunks_all]; exact hJs⟩⟩

theorem chunkB_stops (n Bs Bn gw b off m cap : Nat) (hn : 1 ≤ n) (hcap : 64 * m ≤ cap) (hmax : 64 * m ≤ 1099511627776) (w : World) (hBs : Bs < w.heap.size) (hBn : Bn < w.heap.size) (hBsg : Bs ≠ gw) (hBng : Bn ≠ gw)
    (hcs : w.cell? ⟨Bs, 0, none⟩ = some (.slice (some ⟨b, off, none⟩) (64 * m) cap)) (hcn : w.cell? ⟨Bn, 0, none⟩ = some (.int .i64 64)) :
    SeqStopsK Fence.wide n Tryd.prog 133 #[.pointer (some ⟨Bs, 0, none⟩), .pointer (some ⟨Bn, 0, none⟩)] (fun x : Fin m => #[Value.slice (some ⟨b, off + 64 * x.val, none⟩) 64 64]) (Bl.Keep gw w.heap.size) (fun xs => xs = List.finRange m) (fun pre => ∃ k, k ≤ m ∧ pre = Bl.chunks m k) m w :=
  fun l J Jx W hW hJ _ hY h0 =>
    chunkB1_in n l Bs Bn gw w.heap.size b off m cap hn hcap hmax hBs hBn hBsg hBng J Jx W.heap.size hJ hY W ((hW.cell (p := ⟨Bs, 0, none⟩) hBs).trans hcs) ((hW.cell (p := ⟨Bn, 0, none⟩) hBn).trans hcn) h0 hW.size
end Go.Proofs.YtdodgcapihfkkaaDoor

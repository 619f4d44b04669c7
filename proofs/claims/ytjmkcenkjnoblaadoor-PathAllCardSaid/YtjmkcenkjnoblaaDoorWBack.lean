/- bytes.Equal; slices.Backward over slices of bytes: the function value, and its contract. -/
import Derived.Test.YtjmkcenkjnoblaaDoorShaB
import Derived.Test.YtjmkcenkjnoblaaDoorLib0
namespace Go.Proofs.YtjmkcenkjnoblaaDoor
open Go Go.RowKit Go.Proofs

attribute [local go_sem] Oper.semAt_some

theorem equalB_any (va vb : Value) (xs ys : List Int) (w : World) (hx : Bl.Rd w .u8 va xs) (hy : Bl.Rd w .u8 vb ys) (bx : Bl.Byt xs) (bY : Bl.Byt ys) :
    Calls Tryd.prog 32 #[va, vb] w fun e w' => e = .returned (.bool (decide (xs = ys))) ∧ w = w' := by
  have hc1 := Bl.conv_bytes (P := Tryd.prog) hx Tryd.underlying23 Tryd.underlying5 Tryd.underlying9
  have hc2 := Bl.conv_bytes (P := Tryd.prog) hy Tryd.underlying23 Tryd.underlying5 Tryd.underlying9
  have hq := Bl.bstr_beq bx bY
  have Hq : Hid (decide (Bl.bstr xs = Bl.bstr ys) = decide (xs = ys)) := Bl.hid (by rw [Bool.eq_iff_iff]; simp [Bl.bstr_eq_iff bx bY])
  clear hx hy bx bY
  go_enter Tryd.func32, Tryd.ntmps32
  go_wp2
  go_ret
  first
  | exact ⟨rfl, rfl⟩
  | exact ⟨by rw [← hq]; rfl, rfl⟩
  | exact ⟨by rw [← Hq.out]; rfl, rfl⟩

set_option maxRecDepth 100000 in
set_option maxHeartbeats 400000 in
theorem backB_any (w : World) (p : Option Addr) (n c : Nat) :
    Calls Tryd.prog 34 #[.slice p n c] w fun e w' => e = .returned (.func (.func 53) #[] #[.pointer (some ⟨w.heap.size, 0, none⟩)]) ∧ w' = w.alloc (.cells #[.slice p n c] 35) := by
  go_enter Tryd.func34, Tryd.ntmps34
  go_wp2
  go_ret
  exact ⟨rfl, rfl⟩

set_option maxRecDepth 100000 in
set_option maxHeartbeats 1000000 in
theorem backB_in (n lr Bs gw n₀ b off m cap : Nat) (vs : List Value) (hn : 1 ≤ n) (hvs : vs.length = m) (hm1 : 0 < m) (hcap : m ≤ cap) (hmax : m ≤ 1099511627776) (hBs : Bs < n₀) (hBsg : Bs ≠ gw) (hb : b < n₀) (hbg : b ≠ gw) (J Jx : List (Fin m) → World → Prop)
    (hY : ∀ pre x W, J pre W → pre.length < m → YieldAt Fence.wide (n - 1) Tryd.prog lr #[.int .i64 ((m - 1 - x.val : Nat) : Int), vs.getD (m - 1 - x.val) undef] W fun e W' =>
      (e = .returned (.bool true) ∧ J (pre ++ [x]) W' ∧ Bl.Keep gw n₀ W W') ∨ (e = .returned (.bool false) ∧ Jx (pre ++ [x]) W'))
    (W : World) (hcs : W.cell? ⟨Bs, 0, none⟩ = some (.slice (some ⟨b, off, none⟩) m cap)) (hrg : W.rangeAt b off vs) (h0 : J [] W) (_hn₀ : n₀ ≤ W.heap.size) :
    CallsIn Fence.wide n Tryd.prog 53 #[.func (.yield lr) #[] #[], .pointer (some ⟨Bs, 0, none⟩)] W fun e W' => (∃ v, e = .returned v) ∧
      ((∃ xs, xs = List.finRange m ∧ J xs W') ∨ (∃ pre, (∃ k, k ≤ m ∧ pre = Bl.chunks m k) ∧ Jx pre W')) := by
  refine callsIn_of_wp Tryd.func53 rfl trivial ?_ rfl
  simp only [Tryd.ntmps53, List.size_toArray, List.length_cons, List.length_nil, Nat.reduceAdd, Nat.reduceSub, Array.replicate_succ, Array.replicate_zero, List.push_toArray, List.append_toArray, List.nil_append, List.cons_append]
  gi_wp2
  gi_loopw [3] (fun i wr => ∃ k : Nat, k ≤ m ∧ i = .int .i64 ((m : Int) - 1 - k) ∧ J (Bl.chunks m k) wr ∧ Bl.Keep gw n₀ W wr)
    (fun i _ => (intOf i + 1).toNat)
  case atStart => exact ⟨0, Nat.zero_le _, by simp, h0, Bl.Keep.refl _ _ _⟩
  case round =>
    obtain ⟨k, hk, rfl, hJs, hnx⟩ := hrel
    have hcs' := (hnx.cell (i := 0) hBs hBsg).trans hcs
    by_cases hlt : k < m
    · obtain ⟨j, hj⟩ : ∃ j, j = m - 1 - k := ⟨_, rfl⟩
      have hji : (m : Int) - 1 - (k : Int) = (j : Int) := by omega
      have hcj : wr.cell? ⟨b, off + j, none⟩ = some (vs.getD j undef) := by
        rw [hnx.cell hb hbg]
        refine hrg j _ ?_
        rw [List.getD_eq_getElem?_getD, List.getElem?_eq_getElem (by omega)]; rfl
      have hYk := hY _ ⟨k, hlt⟩ wr hJs (by rw [Bl.chunks_length _ _ hk]; exact hlt)
      rw [show m - 1 - (⟨k, hlt⟩ : Fin m).val = j from hj.symm] at hYk
      rw [hji]
      have hj0 : (0 : Int) ≤ (j : Int) := by omega
      have hjm : (j : Int) < (m : Int) := by omega
      have hk3 : (j : Int) - 1 = (m : Int) - 1 - ((k + 1 : Nat) : Int) := by omega
      have Hk3 := Bl.hid hk3
      generalize vs.getD j undef = vj at hcj hYk
      clear hk3 hji hj
      obtain ⟨fn, tmps, assign, body, hy, hR⟩ := hYk
      try dsimp only at hy
      gi_wp2
      refine hR.mono ?_
      rintro e W3 (⟨rfl, hJ3, hk3⟩ | ⟨rfl, hJx3⟩)
      · have hcs3 := (hk3.cell (i := 0) hBs hBsg).trans hcs'
        gi_wp2
        go_roundw
        case rel => exact ⟨k + 1, by omega, by rw [← Hk3.out], by rw [Bl.chunks_succ _ _ hlt]; exact hJ3, hnx.trans hk3⟩
        case measure => simp [intOf]
      · gi_wp2
        refine bodyPost_ret (results_none rfl _ _ _) rfl ?_
        exact ⟨⟨_, rfl⟩, .inr ⟨_, ⟨k + 1, by omega, (Bl.chunks_succ _ _ hlt).symm⟩, hJx3⟩⟩
    · obtain rfl : k = m := by omega
      have hneg : (k : Int) - 1 - (k : Int) = -1 := by omega
      rw [hneg]
      gi_wp2
      go_end0
      exact ⟨⟨_, rfl⟩, .inl ⟨_, rfl, by rw [← Bl.chunks_all]; exact hJs⟩⟩

theorem backB_stops (n Bs gw b off m cap : Nat) (vs : List Value) (hn : 1 ≤ n) (hvs : vs.length = m) (hm1 : 0 < m) (hcap : m ≤ cap) (hmax : m ≤ 1099511627776) (w : World) (hBs : Bs < w.heap.size) (hBsg : Bs ≠ gw) (hb : b < w.heap.size) (hbg : b ≠ gw)
    (hcs : w.cell? ⟨Bs, 0, none⟩ = some (.slice (some ⟨b, off, none⟩) m cap)) (hrg : w.rangeAt b off vs) :
    SeqStopsK Fence.wide n Tryd.prog 53 #[.pointer (some ⟨Bs, 0, none⟩)] (fun x : Fin m => #[.int .i64 ((m - 1 - x.val : Nat) : Int), vs.getD (m - 1 - x.val) undef]) (Bl.Keep gw w.heap.size) (fun xs => xs = List.finRange m) (fun pre => ∃ k, k ≤ m ∧ pre = Bl.chunks m k) m w :=
  fun l J Jx W hW _ _ hY h0 =>
    backB_in n l Bs gw w.heap.size b off m cap vs hn hvs hm1 hcap hmax hBs hBsg hb hbg J Jx hY W ((hW.cell (p := ⟨Bs, 0, none⟩) hBs).trans hcs) (fun j v hv => (hW.cell (p := ⟨b, off + j, none⟩) hb).trans (hrg j v hv)) h0 hW.size
end Go.Proofs.YtjmkcenkjnoblaaDoor

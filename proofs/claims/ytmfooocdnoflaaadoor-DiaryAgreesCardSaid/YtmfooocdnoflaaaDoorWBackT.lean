/- slices.Backward over steps: the function value, and its contract. -/
import Derived.Test.YtmfooocdnoflaaaDoorKeepS
namespace Go.Proofs.YtmfooocdnoflaaaDoor
open Go Go.RowKit Go.Proofs

attribute [local go_sem] Oper.semAt_some

set_option maxRecDepth 100000 in
set_option maxHeartbeats 400000 in
theorem backT_any (w : World) (p : Option Addr) (n c : Nat) :
    Calls Tryd.prog 71 #[.slice p n c] w fun e w' => e = .returned (.func (.func 80) #[] #[.pointer (some ⟨w.heap.size, 0, none⟩)]) ∧ w' = w.alloc (.cells #[.slice p n c] 83) := by
  go_enter Tryd.func71, Tryd.ntmps71
  go_wp2
  go_ret
  exact ⟨rfl, rfl⟩

set_option maxRecDepth 100000 in
set_option maxHeartbeats 1000000 in
theorem backT_in (n lr Bs n₀ b off m cap size : Nat) (p : Option Addr) (hp : 0 < m → p = some ⟨b, off, none⟩) (Q : Nat → Prop) (V : Nat → Value) (hn : 1 ≤ n) (hcap : m ≤ cap) (hmax : m ≤ 1099511627776) (hsz : (Tryd.prog.info? 87).map (·.size) = some size) (hBs : Bs < n₀) (hBsg : ¬ Q Bs) (J Jx : List (Fin m) → World → Prop)
    (hY : ∀ pre x W, J pre W → pre.length < m → YieldAt Fence.wide (n - 1) Tryd.prog lr #[.int .i64 ((m - 1 - x.val : Nat) : Int), V (m - 1 - x.val)] W fun e W' =>
      (e = .returned (.bool true) ∧ J (pre ++ [x]) W' ∧ Bl.KeepS Q n₀ W W') ∨ (e = .returned (.bool false) ∧ Jx (pre ++ [x]) W'))
    (W : World) (hcs : W.cell? ⟨Bs, 0, none⟩ = some (.slice p m cap)) (hld : ∀ W', Bl.KeepS Q n₀ W W' → ∀ j, j < m → (Instr.loadAt 87 (.pointer (some ⟨b, off + j * size, none⟩))).run Tryd.prog W' = .ok (V j) W') (h0 : J [] W) :
    CallsIn Fence.wide n Tryd.prog 80 #[.func (.yield lr) #[] #[], .pointer (some ⟨Bs, 0, none⟩)] W fun e W' => (∃ v, e = .returned v) ∧
      ((∃ xs, xs = List.finRange m ∧ J xs W') ∨ (∃ pre, (∃ k, k ≤ m ∧ pre = Bl.chunks m k) ∧ Jx pre W')) := by
  obtain rfl : size = 3 := by
    have h : (Tryd.prog.info? 87).map (·.size) = some 3 := by kernel_rfl
    rw [hsz] at h
    injection h
  refine callsIn_of_wp Tryd.func80 rfl trivial ?_ rfl
  simp only [Tryd.ntmps80, List.size_toArray, List.length_cons, List.length_nil, Nat.reduceAdd, Nat.reduceSub, Array.replicate_succ, Array.replicate_zero, List.push_toArray, List.append_toArray, List.nil_append, List.cons_append]
  have Hld := Bl.hid hld
  have HY := Bl.hid hY
  clear hld hY hsz
  gi_wp2
  gi_loopw [3] (fun i wr => ∃ k : Nat, k ≤ m ∧ i = .int .i64 ((m : Int) - 1 - k) ∧ J (Bl.chunks m k) wr ∧ Bl.KeepS Q n₀ W wr)
    (fun i _ => (intOf i + 1).toNat)
  case atStart => exact ⟨0, Nat.zero_le _, by simp, h0, Bl.KeepS.refl _ _ _⟩
  case round =>
    obtain ⟨k, hk, rfl, hJs, hnx⟩ := hrel
    have hcs' := (hnx.cell (i := 0) hBs hBsg).trans hcs
    by_cases hlt : k < m
    · have hps := hp (by omega)
      subst hps
      obtain ⟨j, hj⟩ : ∃ j, j = m - 1 - k := ⟨_, rfl⟩
      have hji : (m : Int) - 1 - (k : Int) = (j : Int) := by omega
      have hlj := Hld.out wr hnx j (by omega)
      have hYk := HY.out _ ⟨k, hlt⟩ wr hJs (by rw [Bl.chunks_length _ _ hk]; exact hlt)
      rw [show m - 1 - (⟨k, hlt⟩ : Fin m).val = j from hj.symm] at hYk
      rw [hji]
      have hj0 : (0 : Int) ≤ (j : Int) := by omega
      have hjm : (j : Int) < (m : Int) := by omega
      have hk3 : (j : Int) - 1 = (m : Int) - 1 - ((k + 1 : Nat) : Int) := by omega
      have Hk3 := Bl.hid hk3
      generalize V j = vj at hlj hYk
      have Hlj := Bl.hid hlj
      have HYk := Bl.hid hYk
      clear hk3 hji hj hlj hYk hp
      gi_wp2_with (with_reducible refine Bl.stopI_load (ty := 87) ?_)
      refine Bl.go_on ?_
      refine Bl.wpLI_load rfl Hlj.out ?_
      obtain ⟨fn, tmps, assign, body, hy, hR⟩ := HYk.out
      try dsimp only at hy
      gi_wp2
      refine hR.mono ?_
      rintro e W3 (⟨rfl, hJ3, hk3⟩ | ⟨rfl, hJx3⟩)
      · have hcs3 := (hk3.cell (i := 0) hBs hBsg).trans hcs'
        gi_wp2
        go_roundw
        case rel => exact ⟨k + 1, by omega, by rw [← Hk3.out], by rw [Bl.chunks_succ _ _ hlt]; exact hJ3, hnx.trans hk3⟩
        case measure => simp [intOf]
      · gi_wp2
        refine bodyPost_ret (results_none rfl _ _ _) rfl ?_
        exact ⟨⟨_, rfl⟩, .inr ⟨_, ⟨k + 1, by omega, (Bl.chunks_succ _ _ hlt).symm⟩, hJx3⟩⟩
    · obtain rfl : k = m := by omega
      have hneg : (k : Int) - 1 - (k : Int) = -1 := by omega
      rw [hneg]
      gi_wp2
      go_end0
      exact ⟨⟨_, rfl⟩, .inl ⟨_, rfl, by rw [← Bl.chunks_all]; exact hJs⟩⟩

theorem backT_stops (n Bs b off m cap : Nat) (p : Option Addr) (hp : 0 < m → p = some ⟨b, off, none⟩) (Q : Nat → Prop) (V : Nat → Value) (hn : 1 ≤ n) (hcap : m ≤ cap) (hmax : m ≤ 1099511627776) (w : World) (hBs : Bs < w.heap.size) (hBsg : ¬ Q Bs)
    (hcs : w.cell? ⟨Bs, 0, none⟩ = some (.slice p m cap)) (hld : ∀ W', Bl.KeepS Q w.heap.size w W' → ∀ j, j < m → (Instr.loadAt 87 (.pointer (some ⟨b, off + j * 3, none⟩))).run Tryd.prog W' = .ok (V j) W') :
    SeqStopsK Fence.wide n Tryd.prog 80 #[.pointer (some ⟨Bs, 0, none⟩)] (fun x : Fin m => #[.int .i64 ((m - 1 - x.val : Nat) : Int), V (m - 1 - x.val)]) (Bl.KeepS Q w.heap.size) (fun xs => xs = List.finRange m) (fun pre => ∃ k, k ≤ m ∧ pre = Bl.chunks m k) m w :=
  fun l J Jx W hW _ _ hY h0 =>
    backT_in n l Bs w.heap.size b off m cap 3 p hp Q V hn hcap hmax (by kernel_rfl) hBs hBsg J Jx hY W ((hW.cell (p := ⟨Bs, 0, none⟩) hBs).trans hcs) (fun W' hk => hld W' (Bl.KeepS.trans (Bl.KeepS.of_below hW (Nat.le_refl _)) hk)) h0
end Go.Proofs.YtmfooocdnoflaaaDoor

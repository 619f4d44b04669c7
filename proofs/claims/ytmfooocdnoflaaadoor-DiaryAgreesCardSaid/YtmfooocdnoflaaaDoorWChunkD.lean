/- slices.Chunk over digests, two by two: the function value, and its contract. -/
import Derived.Test.YtmfooocdnoflaaaDoorWLeaves
import Derived.Test.YtmfooocdnoflaaaDoorShaB
namespace Go.Proofs.Bl
/-- how many digests chunk number k of n has -/
def ln (n k : Nat) : Nat := if 2 * k + 2 ≤ n then 2 else 1
theorem ln_le (n k : Nat) (h : 2 * k < n) : 2 * k + ln n k ≤ n := by unfold ln; split <;> omega
end Go.Proofs.Bl
namespace Go.Proofs.YtmfooocdnoflaaaDoor
open Go Go.RowKit Go.Proofs

attribute [local go_sem] Oper.semAt_some

set_option maxRecDepth 100000 in
set_option maxHeartbeats 400000 in
theorem chunkD_any (w : World) (p : Option Addr) (n c : Nat) :
    Calls Tryd.prog 59 #[.slice p n c, .int .i64 2] w fun e w' => e = .returned (.func (.func 74) #[] #[.pointer (some ⟨w.heap.size, 0, none⟩), .pointer (some ⟨w.heap.size + 1, 0, none⟩)]) ∧ w' = (w.alloc (.cells #[.slice p n c] 40)).alloc (.cells #[.int .i64 2] 3) := by
  go_enter Tryd.func59, Tryd.ntmps59
  go_wp2
  go_ret
  exact ⟨rfl, rfl⟩

set_option maxRecDepth 100000 in
set_option maxHeartbeats 2000000 in
theorem chunkD1_in (n lr Bs Bn gw n₀ b off N m cap : Nat) (hn : 1 ≤ n) (hm : 2 * m ≤ N + 1) (hm2 : N ≤ 2 * m) (hcap : N ≤ cap) (hmax : N ≤ 1048576) (hcm : cap ≤ maxLen) (hBs : Bs < n₀) (hBn : Bn < n₀) (hBsg : Bs ≠ gw) (hBng : Bn ≠ gw) (J Jx : List (Fin m) → World → Prop) (B0 : Nat) (hB0 : AbidesFrom B0 J)
    (hY : ∀ pre x W, J pre W → pre.length < m → YieldAt Fence.wide (n - 1) Tryd.prog lr #[.slice (some ⟨b, off + 2 * x.val * 32, none⟩) (Bl.ln N x.val) (Bl.ln N x.val)] W fun e W' =>
      (e = .returned (.bool true) ∧ J (pre ++ [x]) W' ∧ Bl.Keep gw n₀ W W') ∨ (e = .returned (.bool false) ∧ Jx (pre ++ [x]) W'))
    (W : World) (hcs : W.cell? ⟨Bs, 0, none⟩ = some (.slice (some ⟨b, off, none⟩) N cap)) (hcn : W.cell? ⟨Bn, 0, none⟩ = some (.int .i64 2)) (h0 : J [] W) (hn₀ : n₀ ≤ W.heap.size) :
    CallsIn Fence.wide n Tryd.prog 74 #[.func (.yield lr) #[] #[], .pointer (some ⟨Bs, 0, none⟩), .pointer (some ⟨Bn, 0, none⟩)] W fun e W' => (∃ v, e = .returned v) ∧
      ((∃ xs, xs = List.finRange m ∧ J xs W') ∨ (∃ pre, (∃ k, k ≤ m ∧ pre = Bl.chunks m k) ∧ Jx pre W')) := by
  unfold maxLen at hcm
  refine callsIn_of_wp Tryd.func74 rfl trivial ?_ rfl
  simp only [Tryd.ntmps74, List.size_toArray, List.length_cons, List.length_nil, Nat.reduceAdd, Nat.reduceSub, Array.replicate_succ, Array.replicate_zero, List.push_toArray, List.append_toArray, List.nil_append, List.cons_append]
  gi_wp2
  gi_loopw [4] (fun i wr => ∃ k : Nat, k ≤ m ∧ i = .int .i64 (2 * k : Nat) ∧ J (Bl.chunks m k) wr ∧ Bl.Keep gw n₀ W wr)
    (fun i _ => 2 * m - (intOf i).toNat)
  case atStart => exact ⟨0, Nat.zero_le _, rfl, h0, Bl.Keep.refl _ _ _⟩
  case round =>
    obtain ⟨k, hk, rfl, hJs, hnx⟩ := hrel
    have hnx' : n₀ ≤ wr.heap.size := Nat.le_trans hn₀ hnx.1
    have hBsl : Bs < wr.heap.size := World.block_lt_of_cell? _ _ ((hnx.cell (i := 0) hBs hBsg).trans hcs)
    have hBnl : Bn < wr.heap.size := World.block_lt_of_cell? _ _ ((hnx.cell (i := 0) hBn hBng).trans hcn)
    have hcs' := (hnx.cell (i := 0) hBs hBsg).trans hcs
    have hcn' := (hnx.cell (i := 0) hBn hBng).trans hcn
    by_cases hlt : k < m
    · have hi0 : ((2 * k : Nat) : Int) < (N : Int) := by omega
      have hle : ((2 * k : Nat) : Int) ≤ (N : Int) := by omega
      have hle2 : ((2 * k : Nat) : Int) ≤ (cap : Int) := by omega
      have htn : (2 * (k : Int)).toNat = 2 * k := by omega
      have hk0 : (0 : Int) ≤ 2 * (k : Int) := by omega
      have hkN : 2 * (k : Int) ≤ (N : Int) := by omega
      have hkC : 2 * (k : Int) ≤ (cap : Int) := by omega
      have hkl : 2 * (k : Int) < (N : Int) := by omega
      by_cases hf : 2 * k + 2 ≤ N
      · have hln : Bl.ln N k = 2 := if_pos hf
        have h64 : (2 : Int) ≤ ((N - 2 * k : Nat) : Int) := by omega
        clear hf
        gi_wp2
        refine wpIn_wide.2 ?_
        apply Bl.wp_region_ev 6 [13, 14, 15, 16, 17, 18] [Bl.eqv (.int .i64 2), Bl.eqv (.slice (some ⟨b, off, none⟩) N cap), Bl.eqv (.int .i64 (2 * k : Nat)), Bl.eqv (.slice (some ⟨b, off + 2 * k * 32, none⟩) (N - 2 * k) (cap - 2 * k)), Bl.eqv (.int .i64 (N - 2 * k : Nat)), Bl.eqv (.int .i64 2)] (by kernel_rfl) (by kernel_rfl) (by kernel_rfl) (by rfl)
        case hsteps =>
          refine ⟨?_, ?_, ?_, ?_, ?_, ?_, trivial⟩
          all_goals
            intro ev w1 hext hb hd
            have e1 := hb 1 (by decide)
            have e2 := hb 2 (by decide)
            have e4 := hb 4 (by decide)
            clear hb
            simp only [Array.getD_eq_getD_getElem?, List.getElem?_toArray, List.getElem?_cons_succ, List.getElem?_cons_zero, Option.getD_some] at e1 e2 e4
            simp only [Bl.DepsE, List.getElem?_cons_succ, List.getElem?_cons_zero, Option.bind_some, List.getD_cons_succ, List.getD_cons_zero, Bl.eqv, and_true] at hd
            have hc := (Bl.bcell hext).1
            have hcs1 := (hc _ 0 hBsl).trans hcs'
            have hcn1 := (hc _ 0 hBnl).trans hcn'
            simp only [Bl.Good, Region.wanted, if_true]
            go_simp
            first
              | exact ⟨Below.refl _ _, rfl⟩
              | exact ⟨Below.refl _ _, by show Value.int _ _ = Value.int _ _; congr 1; omega⟩
              | exact ⟨Below.refl _ _, by rw [if_neg (by omega)]; rfl⟩
              | exact ⟨Below.refl _ _, by rw [if_neg (by omega), htn]; rfl⟩
              | exact ⟨Below.refl _ _, by rw [if_neg (by omega), htn, show 2 * k + 1 - 2 * k = 1 from by omega]; rfl⟩
        case hend =>
          intro u w1 hext hend
          simp only [Bl.EndE, List.getElem?_cons_succ, List.getElem?_cons_zero, Option.bind_some, List.getD_cons_succ, List.getD_cons_zero, Bl.eqv, true_and] at hend
          simp only [Bl.fillAct, List.setIfInBounds_toArray, List.set_cons_succ, List.set_cons_zero, List.drop_succ_cons, List.drop_zero, hend]
          have hcs1 := ((Bl.bcell hext).1 _ 0 hBsl).trans hcs'
          have hcn1 := ((Bl.bcell hext).1 _ 0 hBnl).trans hcn'
          have hJ1 : J (Bl.chunks m k) w1 := hB0 _ wr w1 none hJs (Bl.grown_ext hext) (fun r e => by cases e)
          have hN : Bl.Keep gw n₀ wr w1 := ⟨hext.size, fun i hi _ => hext.block i (Nat.lt_of_lt_of_le hi hnx')⟩
          go_wp2_with fail
          have hYk := hY _ ⟨k, hlt⟩ w1 hJ1 (by rw [Bl.chunks_length _ _ hk]; exact hlt)
          rw [show Bl.ln N (⟨k, hlt⟩ : Fin m).val = 2 from hln] at hYk
          obtain ⟨fn, tmps, assign, body, hy, hR⟩ := hYk
          dsimp only at hy
          have hi1 : ((2 * k : Nat) : Int) + 2 ≤ (cap : Int) := by omega
          have hi2 : (2 * (k : Int) + 2).toNat = 2 * k + 2 := by omega
          gi_wp2
          refine hR.mono ?_
          rintro e W3 (⟨rfl, hJ3, hk3⟩ | ⟨rfl, hJx3⟩)
          · have hcs3 := (hk3.cell (i := 0) hBs hBsg).trans hcs1
            have hcn3 := (hk3.cell (i := 0) hBn hBng).trans hcn1
            have hi3 : 2 * (k : Int) + 2 = ((2 * (k + 1) : Nat) : Int) := by omega
            gi_wp2
            go_roundw
            case rel => exact ⟨k + 1, by omega, by simp, by rw [Bl.chunks_succ _ _ hlt]; exact hJ3, (hnx.trans hN).trans hk3⟩
            case measure => simp [intOf]; omega
          · gi_wp2
            refine bodyPost_ret (results_none rfl _ _ _) rfl ?_
            exact ⟨⟨_, rfl⟩, .inr ⟨_, ⟨k + 1, by omega, (Bl.chunks_succ _ _ hlt).symm⟩, hJx3⟩⟩
        case hmono => exact ⟨Bl.mono_eqv _, Bl.mono_eqv _, Bl.mono_eqv _, Bl.mono_eqv _, Bl.mono_eqv _, Bl.mono_eqv _, trivial⟩
      · obtain rfl : N = 2 * k + 1 := by omega
        have hln : Bl.ln (2 * k + 1) k = 1 := if_neg hf
        have hkk : 2 * (k : Int) ≤ 2 * (k : Int) + 1 := by omega
        clear hf
        gi_wp2
        refine wpIn_wide.2 ?_
        apply Bl.wp_region_ev 6 [13, 14, 15, 16, 17, 18] [Bl.eqv (.int .i64 2), Bl.eqv (.slice (some ⟨b, off, none⟩) (2 * k + 1) cap), Bl.eqv (.int .i64 (2 * k : Nat)), Bl.eqv (.slice (some ⟨b, off + 2 * k * 32, none⟩) (1) (cap - 2 * k)), Bl.eqv (.int .i64 (1 : Nat)), Bl.eqv (.int .i64 1)] (by kernel_rfl) (by kernel_rfl) (by kernel_rfl) (by rfl)
        case hsteps =>
          refine ⟨?_, ?_, ?_, ?_, ?_, ?_, trivial⟩
          all_goals
            intro ev w1 hext hb hd
            have e1 := hb 1 (by decide)
            have e2 := hb 2 (by decide)
            have e4 := hb 4 (by decide)
            clear hb
            simp only [Array.getD_eq_getD_getElem?, List.getElem?_toArray, List.getElem?_cons_succ, List.getElem?_cons_zero, Option.getD_some] at e1 e2 e4
            simp only [Bl.DepsE, List.getElem?_cons_succ, List.getElem?_cons_zero, Option.bind_some, List.getD_cons_succ, List.getD_cons_zero, Bl.eqv, and_true] at hd
            have hc := (Bl.bcell hext).1
            have hcs1 := (hc _ 0 hBsl).trans hcs'
            have hcn1 := (hc _ 0 hBnl).trans hcn'
            simp only [Bl.Good, Region.wanted, if_true]
            go_simp
            first
              | exact ⟨Below.refl _ _, rfl⟩
              | exact ⟨Below.refl _ _, by show Value.int _ _ = Value.int _ _; congr 1; omega⟩
              | exact ⟨Below.refl _ _, by rw [if_neg (by omega)]; rfl⟩
              | exact ⟨Below.refl _ _, by rw [if_neg (by omega), htn]; rfl⟩
              | exact ⟨Below.refl _ _, by rw [if_neg (by omega), htn, show 2 * k + 1 - 2 * k = 1 from by omega]; rfl⟩
        case hend =>
          intro u w1 hext hend
          simp only [Bl.EndE, List.getElem?_cons_succ, List.getElem?_cons_zero, Option.bind_some, List.getD_cons_succ, List.getD_cons_zero, Bl.eqv, true_and] at hend
          simp only [Bl.fillAct, List.setIfInBounds_toArray, List.set_cons_succ, List.set_cons_zero, List.drop_succ_cons, List.drop_zero, hend]
          have hcs1 := ((Bl.bcell hext).1 _ 0 hBsl).trans hcs'
          have hcn1 := ((Bl.bcell hext).1 _ 0 hBnl).trans hcn'
          have hJ1 : J (Bl.chunks m k) w1 := hB0 _ wr w1 none hJs (Bl.grown_ext hext) (fun r e => by cases e)
          have hN : Bl.Keep gw n₀ wr w1 := ⟨hext.size, fun i hi _ => hext.block i (Nat.lt_of_lt_of_le hi hnx')⟩
          go_wp2_with fail
          have hYk := hY _ ⟨k, hlt⟩ w1 hJ1 (by rw [Bl.chunks_length _ _ hk]; exact hlt)
          rw [show Bl.ln (2 * k + 1) (⟨k, hlt⟩ : Fin m).val = 1 from hln] at hYk
          obtain ⟨fn, tmps, assign, body, hy, hR⟩ := hYk
          dsimp only at hy
          have hi1 : ((2 * k : Nat) : Int) + 1 ≤ (cap : Int) := by omega
          have hi2 : (2 * (k : Int) + 1).toNat = 2 * k + 1 := by omega
          gi_wp2
          refine hR.mono ?_
          rintro e W3 (⟨rfl, hJ3, hk3⟩ | ⟨rfl, hJx3⟩)
          · have hcs3 := (hk3.cell (i := 0) hBs hBsg).trans hcs1
            have hcn3 := (hk3.cell (i := 0) hBn hBng).trans hcn1
            have hi3 : 2 * (k : Int) + 2 = ((2 * (k + 1) : Nat) : Int) := by omega
            gi_wp2
            go_roundw
            case rel => exact ⟨k + 1, by omega, by simp, by rw [Bl.chunks_succ _ _ hlt]; exact hJ3, (hnx.trans hN).trans hk3⟩
            case measure => simp [intOf]; omega
          · gi_wp2
            refine bodyPost_ret (results_none rfl _ _ _) rfl ?_
            exact ⟨⟨_, rfl⟩, .inr ⟨_, ⟨k + 1, by omega, (Bl.chunks_succ _ _ hlt).symm⟩, hJx3⟩⟩
        case hmono => exact ⟨Bl.mono_eqv _, Bl.mono_eqv _, Bl.mono_eqv _, Bl.mono_eqv _, Bl.mono_eqv _, Bl.mono_eqv _, trivial⟩
    · obtain rfl : k = m := by omega
      have hi0 : ¬ (((2 * k : Nat) : Int) < (N : Int)) := by omega
      gi_wp2
      go_end0
      exact ⟨⟨_, rfl⟩, .inl (by rw [← Bl.chunks_all]; exact hJs)⟩

theorem chunkD_stops (n Bs Bn gw b off N m cap : Nat) (hn : 1 ≤ n) (hm : 2 * m ≤ N + 1) (hm2 : N ≤ 2 * m) (hcap : N ≤ cap) (hmax : N ≤ 1048576) (hcm : cap ≤ maxLen) (w : World) (hBs : Bs < w.heap.size) (hBn : Bn < w.heap.size) (hBsg : Bs ≠ gw) (hBng : Bn ≠ gw)
    (hcs : w.cell? ⟨Bs, 0, none⟩ = some (.slice (some ⟨b, off, none⟩) N cap)) (hcn : w.cell? ⟨Bn, 0, none⟩ = some (.int .i64 2)) :
    SeqStopsK Fence.wide n Tryd.prog 74 #[.pointer (some ⟨Bs, 0, none⟩), .pointer (some ⟨Bn, 0, none⟩)] (fun x : Fin m => #[Value.slice (some ⟨b, off + 2 * x.val * 32, none⟩) (Bl.ln N x.val) (Bl.ln N x.val)]) (Bl.Keep gw w.heap.size) (fun xs => xs = List.finRange m) (fun pre => ∃ k, k ≤ m ∧ pre = Bl.chunks m k) m w :=
  fun l J Jx W hW hJ _ hY h0 =>
    chunkD1_in n l Bs Bn gw w.heap.size b off N m cap hn hm hm2 hcap hmax hcm hBs hBn hBsg hBng J Jx W.heap.size hJ hY W ((hW.cell (p := ⟨Bs, 0, none⟩) hBs).trans hcs) ((hW.cell (p := ⟨Bn, 0, none⟩) hBn).trans hcn) h0 hW.size
end Go.Proofs.YtmfooocdnoflaaaDoor

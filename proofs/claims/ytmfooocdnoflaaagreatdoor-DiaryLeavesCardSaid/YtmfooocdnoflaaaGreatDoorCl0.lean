/- Texts that stood apart, in one: PathR, WBack, WChunk32, WParseP, WParse, WClash. -/
import Derived.Test.YtmfooocdnoflaaaGreatDoorFld0
import Derived.Test.YtmfooocdnoflaaaGreatDoorBA1
import Derived.Test.YtmfooocdnoflaaaGreatDoorShaB
import Derived.Test.YtmfooocdnoflaaaGreatDoorLib0
import Derived.Test.YtmfooocdnoflaaaGreatDoorShaP
import Derived.Test.YtmfooocdnoflaaaGreatDoorShaR
import Derived.Test.YtmfooocdnoflaaaGreatDoorPth0
import Derived.Test.YtmfooocdnoflaaaGreatDoorWl0
/- Where two ways up to one root last part, two byte strings have one digest. No program. -/
namespace Go.Proofs.Bl
open Go
theorem sha_len (l : List Int) : (sha l).length = 32 := rfl
theorem seqP_clash {n i : Nat} {l l' : List Int} {p p' : List (List Int)} (hp : p.length = (turnsL n i).length) (hp' : p'.length = (turnsL n i).length) (hd : ∀ k, k < p.length → (p.getD k []).length = 32) (hd' : ∀ k, k < p'.length → (p'.getD k []).length = 32)
    (hroot : foldP ndD n i (lfD l) p = foldP ndD n i (lfD l') p') (k : Nat) (hk : k ≤ (turnsL n i).length) (hsame : ∀ j, k < j → j ≤ (turnsL n i).length → (seqP n i l p).getD j [] = (seqP n i l' p').getD j []) :
    sha ((seqP n i l p).getD k []) = sha ((seqP n i l' p').getD k []) := by
  by_cases he : k = (turnsL n i).length
  · subst he; rw [seqP_last hp, seqP_last hp', hroot]
  · have h := hsame (k + 1) (by omega) (by omega)
    rw [seqP_succ hp k (by omega), seqP_succ hp' k (by omega)] at h
    unfold stB at h
    split at h
    · exact (inB_inj h (by rw [sha_len, sha_len])).1
    · exact (inB_inj h (by rw [hd k (by omega), hd' k (by omega)])).2
end Go.Proofs.Bl

/- bytes.Equal; slices.Backward over slices of bytes: the function value, and its contract. -/
namespace Go.Proofs.YtmfooocdnoflaaaGreatDoor
open Go Go.RowKit Go.Proofs

attribute [local go_sem] Oper.semAt_some

set_option maxRecDepth 100000 in
set_option maxHeartbeats 400000 in
theorem backB_any (w : World) (p : Option Addr) (n c : Nat) :
    Calls Tryz.prog 32 #[.slice p n c] w fun e w' => e = .returned (.func (.func 62) #[] #[.pointer (some ⟨w.heap.size, 0, none⟩)]) ∧ w' = w.alloc (.cells #[.slice p n c] 22) := by
  go_enter Tryz.func32, Tryz.ntmps32
  go_wp2
  go_ret
  exact ⟨rfl, rfl⟩

set_option maxRecDepth 100000 in
set_option maxHeartbeats 1000000 in
theorem backB_in (n lr Bs gw n₀ b off m cap : Nat) (vs : List Value) (hn : 1 ≤ n) (hvs : vs.length = m) (hm1 : 0 < m) (hcap : m ≤ cap) (hmax : m ≤ 1099511627776) (hBs : Bs < n₀) (hBsg : Bs ≠ gw) (hb : b < n₀) (hbg : b ≠ gw) (J Jx : List (Fin m) → World → Prop)
    (hY : ∀ pre x W, J pre W → pre.length < m → YieldAt Fence.wide (n - 1) Tryz.prog lr #[.int .i64 ((m - 1 - x.val : Nat) : Int), vs.getD (m - 1 - x.val) undef] W fun e W' =>
      (e = .returned (.bool true) ∧ J (pre ++ [x]) W' ∧ Bl.Keep gw n₀ W W') ∨ (e = .returned (.bool false) ∧ Jx (pre ++ [x]) W'))
    (W : World) (hcs : W.cell? ⟨Bs, 0, none⟩ = some (.slice (some ⟨b, off, none⟩) m cap)) (hrg : W.rangeAt b off vs) (h0 : J [] W) (_hn₀ : n₀ ≤ W.heap.size) :
    CallsIn Fence.wide n Tryz.prog 62 #[.func (.yield lr) #[] #[], .pointer (some ⟨Bs, 0, none⟩)] W fun e W' => (∃ v, e = .returned v) ∧
      ((∃ xs, xs = List.finRange m ∧ J xs W') ∨ (∃ pre, (∃ k, k ≤ m ∧ pre = Bl.chunks m k) ∧ Jx pre W')) := by
  refine callsIn_of_wp Tryz.func62 rfl trivial ?_ rfl
  simp only [Tryz.ntmps62, List.size_toArray, List.length_cons, List.length_nil, Nat.reduceAdd, Nat.reduceSub, Array.replicate_succ, Array.replicate_zero, List.push_toArray, List.append_toArray, List.nil_append, List.cons_append]
  gi_wp2
  gi_loopw [3] (fun i wr => ∃ k : Nat, k ≤ m ∧ i = .int .i64 ((m : Int) - 1 - k) ∧ J (Bl.chunks m k) wr ∧ Bl.Keep gw n₀ W wr)
    (fun i _ => (intOf i + 1).toNat)
  case atStart => exact ⟨0, Nat.zero_le _, by simp, h0, Bl.Keep.refl _ _ _⟩
  case round =>
    obtain ⟨k, hk, rfl, hJs, hnx⟩ := hrel
    have hcs' := (hnx.cell (i := 0) hBs hBsg).trans hcs
    by_cases hlt : k < m
    · obtain ⟨j, hj⟩ : ∃ j, j = m - 1 - k := ⟨_, rfl⟩
      have hji : (m : Int) - 1 - (k : Int) = (j : Int) := by omega
      have hcj : wr.cell? ⟨b, off + j, none⟩ = some (vs.getD j undef) := by
        rw [hnx.cell hb hbg]
        refine hrg j _ ?_
        rw [List.getD_eq_getElem?_getD, List.getElem?_eq_getElem (by omega)]; rfl
      have hYk := hY _ ⟨k, hlt⟩ wr hJs (by rw [Bl.chunks_length _ _ hk]; exact hlt)
      rw [show m - 1 - (⟨k, hlt⟩ : Fin m).val = j from hj.symm] at hYk
      rw [hji]
      have hj0 : (0 : Int) ≤ (j : Int) := by omega
      have hjm : (j : Int) < (m : Int) := by omega
      have hk3 : (j : Int) - 1 = (m : Int) - 1 - ((k + 1 : Nat) : Int) := by omega
      have Hk3 := Bl.hid hk3
      generalize vs.getD j undef = vj at hcj hYk
      clear hk3 hji hj
      obtain ⟨fn, tmps, assign, body, hy, hR⟩ := hYk
      try dsimp only at hy
      gi_wp2
      refine hR.mono ?_
      rintro e W3 (⟨rfl, hJ3, hk3⟩ | ⟨rfl, hJx3⟩)
      · have hcs3 := (hk3.cell (i := 0) hBs hBsg).trans hcs'
        gi_wp2
        go_roundw
        case rel => exact ⟨k + 1, by omega, by rw [← Hk3.out], by rw [Bl.chunks_succ _ _ hlt]; exact hJ3, hnx.trans hk3⟩
        case measure => simp [intOf]
      · gi_wp2
        refine bodyPost_ret (results_none rfl _ _ _) rfl ?_
        exact ⟨⟨_, rfl⟩, .inr ⟨_, ⟨k + 1, by omega, (Bl.chunks_succ _ _ hlt).symm⟩, hJx3⟩⟩
    · obtain rfl : k = m := by omega
      have hneg : (k : Int) - 1 - (k : Int) = -1 := by omega
      rw [hneg]
      gi_wp2
      go_end0
      exact ⟨⟨_, rfl⟩, .inl ⟨_, rfl, by rw [← Bl.chunks_all]; exact hJs⟩⟩

theorem backB_stops (n Bs gw b off m cap : Nat) (vs : List Value) (hn : 1 ≤ n) (hvs : vs.length = m) (hm1 : 0 < m) (hcap : m ≤ cap) (hmax : m ≤ 1099511627776) (w : World) (hBs : Bs < w.heap.size) (hBsg : Bs ≠ gw) (hb : b < w.heap.size) (hbg : b ≠ gw)
    (hcs : w.cell? ⟨Bs, 0, none⟩ = some (.slice (some ⟨b, off, none⟩) m cap)) (hrg : w.rangeAt b off vs) :
    SeqStopsK Fence.wide n Tryz.prog 62 #[.pointer (some ⟨Bs, 0, none⟩)] (fun x : Fin m => #[.int .i64 ((m - 1 - x.val : Nat) : Int), vs.getD (m - 1 - x.val) undef]) (Bl.Keep gw w.heap.size) (fun xs => xs = List.finRange m) (fun pre => ∃ k, k ≤ m ∧ pre = Bl.chunks m k) m w :=
  fun l J Jx W hW _ _ hY h0 =>
    backB_in n l Bs gw w.heap.size b off m cap vs hn hvs hm1 hcap hmax hBs hBsg hb hbg J Jx hY W ((hW.cell (p := ⟨Bs, 0, none⟩) hBs).trans hcs) (fun j v hv => (hW.cell (p := ⟨b, off + j, none⟩) hb).trans (hrg j v hv)) h0 hW.size
end Go.Proofs.YtmfooocdnoflaaaGreatDoor

/- slices.Chunk over bytes, 32 by 32: the function value, and its contract. -/
namespace Go.Proofs.YtmfooocdnoflaaaGreatDoor
open Go Go.RowKit Go.Proofs

attribute [local go_sem] Oper.semAt_some

set_option maxRecDepth 100000 in
set_option maxHeartbeats 400000 in
theorem chunk32_any (w : World) (p : Option Addr) (n c : Nat) :
    Calls Tryz.prog 65 #[.slice p n c, .int .i64 32] w fun e w' => e = .returned (.func (.func 79) #[] #[.pointer (some ⟨w.heap.size, 0, none⟩), .pointer (some ⟨w.heap.size + 1, 0, none⟩)]) ∧ w' = (w.alloc (.cells #[.slice p n c] 24)).alloc (.cells #[.int .i64 32] 3) := by
  go_enter Tryz.func65, Tryz.ntmps65
  go_wp2
  go_ret
  exact ⟨rfl, rfl⟩

set_option maxRecDepth 100000 in
set_option maxHeartbeats 1000000 in
theorem chunk32_in (n lr Bs Bn gw n₀ b off m cap : Nat) (p : Option Addr) (hp : 0 < m → p = some ⟨b, off, none⟩) (hn : 1 ≤ n) (hcap : 32 * m ≤ cap) (hmax : 32 * m ≤ 1099511627776) (hBs : Bs < n₀) (hBn : Bn < n₀) (hBsg : Bs ≠ gw) (hBng : Bn ≠ gw) (J Jx : List (Fin m) → World → Prop) (B0 : Nat) (hB0 : AbidesFrom B0 J)
    (hY : ∀ pre x W, J pre W → pre.length < m → YieldAt Fence.wide (n - 1) Tryz.prog lr #[.slice (some ⟨b, off + 32 * x.val, none⟩) 32 32] W fun e W' =>
      (e = .returned (.bool true) ∧ J (pre ++ [x]) W' ∧ Bl.Keep gw n₀ W W') ∨ (e = .returned (.bool false) ∧ Jx (pre ++ [x]) W'))
    (W : World) (hcs : W.cell? ⟨Bs, 0, none⟩ = some (.slice p (32 * m) cap)) (hcn : W.cell? ⟨Bn, 0, none⟩ = some (.int .i64 32)) (h0 : J [] W) (hn₀ : n₀ ≤ W.heap.size) :
    CallsIn Fence.wide n Tryz.prog 79 #[.func (.yield lr) #[] #[], .pointer (some ⟨Bs, 0, none⟩), .pointer (some ⟨Bn, 0, none⟩)] W fun e W' => (∃ v, e = .returned v) ∧
      ((∃ xs, xs = List.finRange m ∧ J xs W') ∨ (∃ pre, (∃ k, k ≤ m ∧ pre = Bl.chunks m k) ∧ Jx pre W')) := by
  refine callsIn_of_wp Tryz.func79 rfl trivial ?_ rfl
  simp only [Tryz.ntmps79, List.size_toArray, List.length_cons, List.length_nil, Nat.reduceAdd, Nat.reduceSub, Array.replicate_succ, Array.replicate_zero, List.push_toArray, List.append_toArray, List.nil_append, List.cons_append]
  gi_wp2
  gi_loopw [4] (fun i wr => ∃ k : Nat, k ≤ m ∧ i = .int .i64 (32 * k : Nat) ∧ J (Bl.chunks m k) wr ∧ Bl.Keep gw n₀ W wr)
    (fun i _ => 32 * m - (intOf i).toNat)
  case atStart => exact ⟨0, Nat.zero_le _, rfl, h0, Bl.Keep.refl _ _ _⟩
  case round =>
    obtain ⟨k, hk, rfl, hJs, hnx⟩ := hrel
    have hnx' : n₀ ≤ wr.heap.size := Nat.le_trans hn₀ hnx.1
    have hBsl : Bs < wr.heap.size := World.block_lt_of_cell? _ _ ((hnx.cell (i := 0) hBs hBsg).trans hcs)
    have hBnl : Bn < wr.heap.size := World.block_lt_of_cell? _ _ ((hnx.cell (i := 0) hBn hBng).trans hcn)
    have hcs' := (hnx.cell (i := 0) hBs hBsg).trans hcs
    have hcn' := (hnx.cell (i := 0) hBn hBng).trans hcn
    by_cases hlt : k < m
    · obtain rfl := hp (by omega)
      gi_wp2
      have h64 : (32 : Int) ≤ ((32 * m - 32 * k : Nat) : Int) := by omega
      have hle : ((32 * k : Nat) : Int) ≤ ((32 * m : Nat) : Int) := by omega
      have hle2 : ((32 * k : Nat) : Int) ≤ (cap : Int) := by omega
      have htn : (32 * (k : Int)).toNat = 32 * k := by omega
      refine wpIn_wide.2 ?_
      apply Bl.wp_region_ev 6 [13, 14, 15, 16, 17, 18] [Bl.eqv (.int .i64 32), Bl.eqv (.slice (some ⟨b, off, none⟩) (32 * m) cap), Bl.eqv (.int .i64 (32 * k : Nat)), Bl.eqv (.slice (some ⟨b, off + 32 * k, none⟩) (32 * m - 32 * k) (cap - 32 * k)), Bl.eqv (.int .i64 (32 * m - 32 * k : Nat)), Bl.eqv (.int .i64 32)] (by kernel_rfl) (by kernel_rfl) (by kernel_rfl) (by rfl)
      case hsteps =>
        refine ⟨?_, ?_, ?_, ?_, ?_, ?_, trivial⟩
        all_goals
          intro ev w1 hext hb hd
          have e1 := hb 1 (by decide)
          have e2 := hb 2 (by decide)
          have e4 := hb 4 (by decide)
          clear hb
          simp only [Array.getD_eq_getD_getElem?, List.getElem?_toArray, List.getElem?_cons_succ, List.getElem?_cons_zero, Option.getD_some] at e1 e2 e4
          simp only [Bl.DepsE, List.getElem?_cons_succ, List.getElem?_cons_zero, Option.bind_some, List.getD_cons_succ, List.getD_cons_zero, Bl.eqv, and_true] at hd
          have hc := (Bl.bcell hext).1
          have hcs1 := (hc _ 0 hBsl).trans hcs'
          have hcn1 := (hc _ 0 hBnl).trans hcn'
          simp only [Bl.Good, Region.wanted, if_true]
          go_simp
          first
            | exact ⟨Below.refl _ _, rfl⟩
            | exact ⟨Below.refl _ _, by rw [if_neg (by omega)]; rfl⟩
            | exact ⟨Below.refl _ _, by rw [if_neg (by omega), htn]; rfl⟩
            | exact ⟨Below.refl _ _, congrArg (Value.int .i64) (by omega)⟩
      case hend =>
        intro u w1 hext hend
        simp only [Bl.EndE, List.getElem?_cons_succ, List.getElem?_cons_zero, Option.bind_some, List.getD_cons_succ, List.getD_cons_zero, Bl.eqv, true_and] at hend
        simp only [Bl.fillAct, List.setIfInBounds_toArray, List.set_cons_succ, List.set_cons_zero, List.drop_succ_cons, List.drop_zero, hend]
        have hcs1 := ((Bl.bcell hext).1 _ 0 hBsl).trans hcs'
        have hcn1 := ((Bl.bcell hext).1 _ 0 hBnl).trans hcn'
        have hJ1 : J (Bl.chunks m k) w1 := hB0 _ wr w1 none hJs (Bl.grown_ext hext) (fun r e => by cases e)
        have hN : Bl.Keep gw n₀ wr w1 := ⟨hext.size, fun i hi _ => hext.block i (Nat.lt_of_lt_of_le hi hnx')⟩
        go_wp2_with fail
        obtain ⟨fn, tmps, assign, body, hy, hR⟩ := hY _ ⟨k, hlt⟩ w1 hJ1 (by rw [Bl.chunks_length _ _ hk]; exact hlt)
        dsimp only at hy
        have hi1 : ((32 * k : Nat) : Int) + 32 ≤ (cap : Int) := by omega
        have hi2 : (32 * (k : Int) + 32).toNat = 32 * k + 32 := by omega
        gi_wp2
        refine hR.mono ?_
        rintro e W3 (⟨rfl, hJ3, hk3⟩ | ⟨rfl, hJx3⟩)
        · have hcs3 := (hk3.cell (i := 0) hBs hBsg).trans hcs1
          have hcn3 := (hk3.cell (i := 0) hBn hBng).trans hcn1
          have hi3 : 32 * (k : Int) + 32 = ((32 * (k + 1) : Nat) : Int) := by omega
          gi_wp2
          go_roundw
          case rel => exact ⟨k + 1, by omega, by simp, by rw [Bl.chunks_succ _ _ hlt]; exact hJ3, (hnx.trans hN).trans hk3⟩
          case measure => simp [intOf]; omega
        · gi_wp2
          refine bodyPost_ret (results_none rfl _ _ _) rfl ?_
          exact ⟨⟨_, rfl⟩, .inr ⟨_, ⟨k + 1, by omega, (Bl.chunks_succ _ _ hlt).symm⟩, hJx3⟩⟩
      case hmono => exact ⟨Bl.mono_eqv _, Bl.mono_eqv _, Bl.mono_eqv _, Bl.mono_eqv _, Bl.mono_eqv _, Bl.mono_eqv _, trivial⟩
    · obtain rfl : k = m := by omega
      gi_wp2
      go_end0
      exact ⟨⟨_, rfl⟩, .inl ⟨_, rfl, by rw [← Bl.chunks_all]; exact hJs⟩⟩

theorem chunk32_stops (n Bs Bn gw b off m cap : Nat) (p : Option Addr) (hp : 0 < m → p = some ⟨b, off, none⟩) (hn : 1 ≤ n) (hcap : 32 * m ≤ cap) (hmax : 32 * m ≤ 1099511627776) (w : World) (hBs : Bs < w.heap.size) (hBn : Bn < w.heap.size) (hBsg : Bs ≠ gw) (hBng : Bn ≠ gw)
    (hcs : w.cell? ⟨Bs, 0, none⟩ = some (.slice p (32 * m) cap)) (hcn : w.cell? ⟨Bn, 0, none⟩ = some (.int .i64 32)) :
    SeqStopsK Fence.wide n Tryz.prog 79 #[.pointer (some ⟨Bs, 0, none⟩), .pointer (some ⟨Bn, 0, none⟩)] (fun x : Fin m => #[Value.slice (some ⟨b, off + 32 * x.val, none⟩) 32 32]) (Bl.Keep gw w.heap.size) (fun xs => xs = List.finRange m) (fun pre => ∃ k, k ≤ m ∧ pre = Bl.chunks m k) m w :=
  fun l J Jx W hW hJ _ hY h0 =>
    chunk32_in n l Bs Bn gw w.heap.size b off m cap p hp hn hcap hmax hBs hBn hBsg hBng J Jx W.heap.size hJ hY W ((hW.cell (p := ⟨Bs, 0, none⟩) hBs).trans hcs) ((hW.cell (p := ⟨Bn, 0, none⟩) hBn).trans hcn) h0 hW.size
end Go.Proofs.YtmfooocdnoflaaaGreatDoor

/- Walk of path.Parse. The plain part. -/
namespace Go.Proofs.Bl
open Go Go.RowKit
/-- bytes, 32 by 32 -/
def parts (l : List Int) (m : Nat) : List (List Int) := (List.finRange m).map fun x => (l.drop (32 * x.val)).take 32
theorem parts_length (l : List Int) (m : Nat) : (parts l m).length = m := by simp [parts]
theorem parts_succ (l : List Int) (m : Nat) : parts l (m + 1) = parts l m ++ [(l.drop (32 * m)).take 32] := by
  unfold parts
  apply List.ext_getElem
  · simp
  · intro i h1 h2
    simp only [List.length_map, List.length_finRange] at h1
    by_cases hi : i < m
    · rw [List.getElem_append_left (by simpa using hi)]; simp
    · obtain rfl : i = m := by omega
      rw [List.getElem_append_right (by simp)]; simp
theorem parts_flat : ∀ (m : Nat) (l : List Int), (parts l m).flatten = l.take (32 * m)
  | 0, l => by simp [parts]
  | m + 1, l => by
    rw [parts_succ, List.flatten_append, parts_flat m l, List.flatten_singleton]
    rw [show 32 * (m + 1) = 32 * m + 32 from by omega, List.take_add]
theorem parts_dig (l : List Int) (m : Nat) (h : 32 * m ≤ l.length) (hb : Byt l) : Dig (parts l m) := fun d hd => by
  obtain ⟨x, _, rfl⟩ := List.mem_map.1 hd
  have := x.isLt
  exact ⟨by rw [List.length_take, List.length_drop]; omega, (hb.drop _).take _⟩
/-- every cell is as it was -/
def KC (w w' : World) : Prop := ∀ a v, w.cell? a = some v → w'.cell? a = some v
theorem KC.refl (w : World) : KC w w := fun _ _ h => h
theorem KC.trans {a b c : World} (h : KC a b) (k : KC b c) : KC a c := fun x v hv => k x v (h x v hv)
theorem KC.range {w w' : World} (h : KC w w') {b o : Nat} {cs : List Value} (hr : w.rangeAt b o cs) : w'.rangeAt b o cs := fun j v hv => h _ _ (hr j v hv)
theorem Rds.kc {w w' : World} {v : Value} {n : Nat} {cs : List Value} (h : Rds w v n cs) (k : KC w w') : Rds w' v n cs := by
  rcases h with h | ⟨b, o, c, h1, h2, h3, h4⟩
  · exact .inl h
  · exact .inr ⟨b, o, c, h1, h2, h3, k.range h4⟩
theorem KC.putObj {w : World} {D : Nat} {o : Obj} (o' : Obj) (h : w.heap[D]? = some o) (ho : o.isCells = false) : KC w (w.putObj D o') := fun a v hv =>
  cell_kept hv (grownBy_putObj' w D o') (fun r e => by cases e; exact ⟨o, h, ho⟩)
theorem leaves_kc {P : Program} {n : Nat} {fn : Func} {tmps : Array Value} {R : Ending → World → Prop} {B : Nat} : ∀ (ds : List Deferred) (N : Nat) (w : World), Marks B w N ds →
    (∀ w', Below B w w' → KC w w' → ∃ v, (results fn tmps).run P w' = .ok v w' ∧ R (.returned v) w') → LeavesInM Fence.wide n P fn tmps R ds .returning w
  | [], _, w, _, h => by
    simp only [LeavesInM, LeavesIn]
    exact h w (Below.refl _ _) (KC.refl _)
  | _ :: ds, _, w, ⟨D, hd, hB, _, hD, hm⟩, h => by
    subst hd
    have hlt : D < w.heap.size := (Array.getElem?_eq_some_iff.1 hD).1
    have hb : Below B w (w.putObj D (.deferred none)) := (Below.refl B w).grown (grownBy_putObj' w D (.deferred none)) (by omega) (fun k e => by cases e; omega)
    refine ⟨by simp, .inl ⟨_, _, rfl, run_takeDeferred hD, ?_⟩⟩
    refine leaves_kc ds D _ (Marks.keep ds D (fun k _ hk _ => World.putObj_heap_other (by omega)) hm) ?_
    intro w' hw' hk'
    exact h w' (hb.trans hw') ((KC.putObj _ hD rfl).trans hk')
end Go.Proofs.Bl

/- Walk of path.Parse. -/
namespace Go.Proofs.YtmfooocdnoflaaaGreatDoor
open Go Go.RowKit Go.Proofs

attribute [local go_sem] Oper.semAt_some

end Go.Proofs.YtmfooocdnoflaaaGreatDoor

/- Walk of path.Clash. -/
namespace Go.Proofs.Bl
open Go Go.RowKit
theorem loadVar_one {P : Program} {w : World} {b : Nat} {ty : TypeId} {v : Value} (hc : w.cell? ⟨b, 0, none⟩ = some v) (ha : ∀ w, (isAgg ty).run P w = .ok false w) : (loadVar ty ⟨b, 0, none⟩).run P w = .ok v w := by
  simp [loadVar, Sem.run_bind, ha, run_load, hc]
/-- what path.Clash answers: none, or two byte strings of one digest -/
def ClashR (w' : World) (x y : Value) : Prop := ∃ X Y, Rd w' .u8 x X ∧ Rd w' .u8 y Y ∧ Byt X ∧ Byt Y ∧ X ≠ Y ∧ sha X = sha Y ∧ X.length ≤ 1099511627000 ∧ Y.length ≤ 1099511627000
theorem frozen_new1 (w : World) (v : Value) (t : TypeId) : (w.alloc (.cells #[v] t)).frozen? ⟨w.heap.size, 0, none⟩ = false := by simp
/-- three new variables -/
theorem three_new (w : World) (x y z : Value) (t1 t2 t3 : TypeId) :
    (((w.alloc (.cells #[x] t1)).alloc (.cells #[y] t2)).alloc (.cells #[z] t3)).cell? ⟨w.heap.size, 0, none⟩ = some x ∧ (((w.alloc (.cells #[x] t1)).alloc (.cells #[y] t2)).alloc (.cells #[z] t3)).cell? ⟨w.heap.size + 1, 0, none⟩ = some y ∧ (((w.alloc (.cells #[x] t1)).alloc (.cells #[y] t2)).alloc (.cells #[z] t3)).cell? ⟨w.heap.size + 1 + 1, 0, none⟩ = some z ∧
    (((w.alloc (.cells #[x] t1)).alloc (.cells #[y] t2)).alloc (.cells #[z] t3)).frozen? ⟨w.heap.size, 0, none⟩ = false ∧ (((w.alloc (.cells #[x] t1)).alloc (.cells #[y] t2)).alloc (.cells #[z] t3)).frozen? ⟨w.heap.size + 1, 0, none⟩ = false ∧ (((w.alloc (.cells #[x] t1)).alloc (.cells #[y] t2)).alloc (.cells #[z] t3)).frozen? ⟨w.heap.size + 1 + 1, 0, none⟩ = false ∧
    (((w.alloc (.cells #[x] t1)).alloc (.cells #[y] t2)).alloc (.cells #[z] t3)).heap.size = w.heap.size + 1 + 1 + 1 := by
  have s1 : (w.alloc (.cells #[x] t1)).heap.size = w.heap.size + 1 := World.size_alloc _ _
  have s2 : ((w.alloc (.cells #[x] t1)).alloc (.cells #[y] t2)).heap.size = w.heap.size + 1 + 1 := by rw [World.size_alloc, s1]
  have cx := cell_new1 w x t1
  have fx := frozen_new1 w x t1
  have cy := cell_new1 (w.alloc (.cells #[x] t1)) y t2
  have fy := frozen_new1 (w.alloc (.cells #[x] t1)) y t2
  have cz := cell_new1 ((w.alloc (.cells #[x] t1)).alloc (.cells #[y] t2)) z t3
  have fz := frozen_new1 ((w.alloc (.cells #[x] t1)).alloc (.cells #[y] t2)) z t3
  have e2 := bcell (ext_alloc (w.alloc (.cells #[x] t1)) (.cells #[y] t2))
  have e3 := bcell (ext_alloc ((w.alloc (.cells #[x] t1)).alloc (.cells #[y] t2)) (.cells #[z] t3))
  rw [s1] at cy fy
  rw [s2] at cz fz
  exact ⟨(e3.1 _ 0 (by omega)).trans ((e2.1 _ 0 (by omega)).trans cx), (e3.1 _ 0 (by omega)).trans cy, cz, (e3.2 _ 0 (by omega)).trans ((e2.2 _ 0 (by omega)).trans fx), (e3.2 _ 0 (by omega)).trans fy, fz, by rw [World.size_alloc, s2]⟩
/-- the last element of a list of chunks -/
theorem chunks_snoc {m k : Nat} {p : List (Fin m)} {x : Fin m} (hk : k ≤ m) (h : p ++ [x] = chunks m k) : p = chunks m x.val := by
  cases k with
  | zero => simp [chunks] at h
  | succ k =>
    rw [chunks_succ m k (by omega)] at h
    have h2 := List.append_inj_right' h rfl
    injection h2 with h2
    rw [h2]
    exact List.append_inj_left' h rfl
theorem chunks_mem {m k : Nat} (j : Nat) (hj : j < k) (hk : k ≤ m) : (⟨j, by omega⟩ : Fin m) ∈ chunks m k := by
  have : (chunks m k)[j]? = some ⟨j, by omega⟩ := by
    unfold chunks
    rw [List.getElem?_take, if_pos hj, List.getElem?_eq_getElem (by simp; omega)]; simp
  exact List.mem_of_getElem? this
theorem Rdss.rows {w : World} {v : Value} {ps : List (List Int)} (h : Rdss w v ps) (h0 : 0 < ps.length) : ∃ b o c vs, v = .slice (some ⟨b, o, none⟩) ps.length c ∧ ps.length ≤ c ∧ b < w.heap.size ∧ vs.length = ps.length ∧ w.rangeAt b o vs ∧ ∀ j, j < ps.length → ∃ q d, vs.getD j undef = .slice q (ps.getD j []).length d ∧ Rd w .u8 (.slice q (ps.getD j []).length d) (ps.getD j []) := by
  obtain ⟨vs, hv, hvl, hr⟩ := h
  rcases hv with ⟨_, h1, _⟩ | ⟨b, o, c, h1, h2, h3, h4⟩
  · omega
  · refine ⟨b, o, c, vs, h1, h2, rangeAt_lt h4 (fun q => by rw [q] at hvl; simp at hvl; omega), hvl, h4, fun j hj => ?_⟩
    have h5 := hr j hj
    obtain ⟨q, d, h6, _, _⟩ := h5.form
    rw [h6] at h5
    exact ⟨q, d, h6, h5⟩
end Go.Proofs.Bl
namespace Go.Proofs.YtmfooocdnoflaaaGreatDoor
open Go Go.RowKit Go.Proofs

attribute [local go_sem] Oper.semAt_some

/-- what path.Clash leaves of its three results -/
def ThreeV (w : World) (B : Nat) (x y : Value) (b : Bool) : Prop := w.cell? ⟨B, 0, none⟩ = some x ∧ w.cell? ⟨B + 1, 0, none⟩ = some y ∧ w.cell? ⟨B + 1 + 1, 0, none⟩ = some (.bool b)
theorem ThreeV.res {w : World} {B : Nat} {x y : Value} {b : Bool} (h : ThreeV w B x y b) {fn : Func} {tmps : Array Value} (hf : fn.results = #[.cell 8 24, .cell 9 24, .cell 10 4]) (h8 : tmps.getD 8 undef = .pointer (some ⟨B, 0, none⟩)) (h9 : tmps.getD 9 undef = .pointer (some ⟨B + 1, 0, none⟩)) (h10 : tmps.getD 10 undef = .pointer (some ⟨B + 1 + 1, 0, none⟩)) :
    (results fn tmps).run Tryz.prog w = .ok (.tuple #[x, y, .bool b]) w :=
  Bl.results_cell3 hf h8 h9 h10 (Bl.loadVar_one h.1 Tryz.isAgg24) (Bl.loadVar_one h.2.1 Tryz.isAgg24) (Bl.loadVar_one h.2.2 Tryz.isAgg4)
theorem ThreeV.kc {w w' : World} {B : Nat} {x y : Value} {b : Bool} (h : ThreeV w B x y b) (k : Bl.KC w w') : ThreeV w' B x y b := ⟨k _ _ h.1, k _ _ h.2.1, k _ _ h.2.2⟩

theorem ThreeV.set {w : World} {B : Nat} {x y : Value} {b : Bool} {u0 u1 u2 : Value} (h0 : w.cell? ⟨B, 0, none⟩ = some u0) (h1 : w.cell? ⟨B + 1, 0, none⟩ = some u1) (h2 : w.cell? ⟨B + 1 + 1, 0, none⟩ = some u2) :
    ThreeV (((w.setCell ⟨B, 0, none⟩ x).setCell ⟨B + 1, 0, none⟩ y).setCell ⟨B + 1 + 1, 0, none⟩ (.bool b)) B x y b := by
  have e1 : (w.setCell ⟨B, 0, none⟩ x).cell? ⟨B + 1, 0, none⟩ = some u1 := by rw [World.cell?_setCell_other _ _ _ _ (by intro q; injection q with q; omega)]; exact h1
  have e2 : ((w.setCell ⟨B, 0, none⟩ x).setCell ⟨B + 1, 0, none⟩ y).cell? ⟨B + 1 + 1, 0, none⟩ = some u2 := by
    rw [World.cell?_setCell_other _ _ _ _ (by intro q; injection q with q; omega), World.cell?_setCell_other _ _ _ _ (by intro q; injection q with q; omega)]; exact h2
  refine ⟨?_, ?_, World.cell?_setCell_same _ _ _ e2⟩
  · rw [World.cell?_setCell_other _ _ _ _ (by intro q; injection q with q; omega), World.cell?_setCell_other _ _ _ _ (by intro q; injection q with q; omega)]
    exact World.cell?_setCell_same _ _ _ h0
  · rw [World.cell?_setCell_other _ _ _ _ (by intro q; injection q with q; omega)]
    exact World.cell?_setCell_same _ _ _ e1

set_option maxRecDepth 100000 in
set_option maxHeartbeats 1000000 in
/-- path.Clash where there is no such leaf -/
theorem pclash_none (v vl vp : Value) (ps : List (List Int)) (i : Int) (w : World) (S : List Nat) (a : Nat → Addr) (hR : Bl.Rdss w v ps) (he : Errs S a w) (h1 : 1 ∈ S) (hi : ¬ ((ps.length : Int) ≤ 512 ∧ 0 ≤ i ∧ i < ps.length)) :
    Calls Tryz.prog 15 #[v, .int .i64 i, vl, vp] w fun e w' => e = .returned (.tuple #[.slice none 0 0, .slice none 0 0, .bool false]) ∧ Bl.Ext w w' := by
  have HM : Hid (∀ w2, Bl.Ext w w2 → Calls Tryz.prog 28 #[v, .int .i64 i] w2 fun e w' => e = .returned (.tuple #[.slice none 0 0, .iface 170 (.pointer (some (a 1)))]) ∧ Bl.Ext w2 w') := Bl.hid fun w2 h2 =>
    pmake_no v ps i w2 (a 1) (hR.ext h2) ((he.ext h2).cell 1 h1) hi
  obtain ⟨W0, hW0⟩ : ∃ W0, W0 = ((w.alloc (.cells #[.slice none 0 0] 24)).alloc (.cells #[.slice none 0 0] 24)).alloc (.cells #[.bool false] 4) := ⟨_, rfl⟩
  have HE0 : Hid (Bl.Ext w W0) := Bl.hid (by rw [hW0]; exact ((Bl.ext_alloc _ _).trans (Bl.ext_alloc _ _)).trans (Bl.ext_alloc _ _))
  have HT0 : Hid (ThreeV W0 w.heap.size (.slice none 0 0) (.slice none 0 0) false ∧ W0.frozen? ⟨w.heap.size, 0, none⟩ = false ∧ W0.frozen? ⟨w.heap.size + 1, 0, none⟩ = false ∧ W0.frozen? ⟨w.heap.size + 1 + 1, 0, none⟩ = false ∧ W0.heap.size = w.heap.size + 1 + 1 + 1) := Bl.hid (by
    have h := Bl.three_new w (.slice none 0 0) (.slice none 0 0) (.bool false) 24 24 4
    rw [← hW0] at h
    exact ⟨⟨h.1, h.2.1, h.2.2.1⟩, h.2.2.2⟩)
  clear hR he hi
  refine (callsIn_wide (n := 9)).1 ?_
  refine callsIn_of_wp_marks Tryz.func15 rfl trivial ?_ rfl
  simp only [Tryz.ntmps15, List.size_toArray, List.length_cons, List.length_nil, Nat.reduceAdd, Nat.reduceSub, Array.replicate_succ, Array.replicate_zero, List.push_toArray, List.append_toArray, List.nil_append, List.cons_append]
  refine wpIn_wide.2 ?_
  go_wp2_with fail
  rw [← hW0]
  clear hW0
  refine (HM.out W0 HE0.out).mono ?_
  rintro e w1 ⟨rfl, hE1⟩
  obtain ⟨⟨hc0, hc1, hc2⟩, hf0, hf1, hf2, hsz⟩ := HT0.out
  have hd0 := ((Bl.bcell hE1).1 _ 0 (by omega)).trans hc0
  have hd1 := ((Bl.bcell hE1).1 _ 0 (by omega)).trans hc1
  have hd2 := ((Bl.bcell hE1).1 _ 0 (by omega)).trans hc2
  have hg0 := ((Bl.bcell hE1).2 _ 0 (by omega)).trans hf0
  have hg1 := ((Bl.bcell hE1).2 _ 0 (by omega)).trans hf1
  have hg2 := ((Bl.bcell hE1).2 _ 0 (by omega)).trans hf2
  have HE1 := Bl.hid (HE0.out.trans hE1)
  clear hE1 hc0 hc1 hc2 hf0 hf1 hf2 hsz HM
  go_wp2_with fail
  refine Bl.leaves_kc (B := w.heap.size) _ 0 _ trivial ?_
  intro w' hw' hkc
  exact ⟨_, (ThreeV.kc (ThreeV.set hd0 hd1 hd2) hkc).res rfl rfl rfl rfl, rfl, Below.trans (((HE1.out.setCell (Nat.le_refl _) _).setCell (Nat.le_succ _) _).setCell (by show w.heap.size ≤ w.heap.size + 1 + 1; omega) _) hw'⟩
end Go.Proofs.YtmfooocdnoflaaaGreatDoor

/- Texts that stood apart, in one: WLeaves, WChunkD, WOver, WRefOver, WRoots, WRefRoot. -/
import Derived.Test.YtglenbikdahgjaaDoorBA1
import Derived.Test.YtglenbikdahgjaaDoorWTree2
import Derived.Test.YtglenbikdahgjaaDoorShaR
import Derived.Test.YtglenbikdahgjaaDoorLib0
import Derived.Test.YtglenbikdahgjaaDoorPla0
import Derived.Test.YtglenbikdahgjaaDoorShaB
/- Walks of slices.Clone over digests, tree.Leaves, baileeref12.Leaves, baileeref12.Over. -/
namespace Go.Proofs.YtglenbikdahgjaaDoor
open Go.RowKit Go.Proofs

set_option maxRecDepth 100000 in
set_option maxHeartbeats 1000000 in
theorem leaves_any (v : Value) (ps : List (List Int)) (w : World) (hR : Bl.Rdss w v ps) (hg : Glob w) (hby : ∀ p ∈ ps, Bl.Byt p) (hlp : ∀ p ∈ ps, p.length ≤ 1099511627000) (hn : ps.length ≤ 1048576) :
    Calls Tryd.prog 59 #[v] w fun e w' => ∃ p c, e = .returned (.slice p ps.length c) ∧ w'.ownsRow w.heap.size 41 32 (.slice p ps.length c) ps.length (Bl.cellsD (ps.map Bl.lfD)) ∧ Bl.Ext w w' := by
  obtain ⟨ws, hv, hwl, hws⟩ := hR
  obtain ⟨p, c, hvf, hvn, hvc⟩ := hv.form
  subst hvf
  have Hv := Bl.hid hv
  have Hws := Bl.hid hws
  have Hwl := Bl.hid hwl
  have Hg := Bl.hid hg
  have Hby := Bl.hid hby
  have Hlp := Bl.hid hlp
  obtain ⟨B, hB⟩ : ∃ B, B = w.heap.size := ⟨_, rfl⟩
  rw [← hB]
  have HB := Bl.hid hB
  clear hv hws hg hby hwl hlp hB
  go_enter Tryd.func59, Tryd.ntmps59
  go_wp2_with fail
  go_loopw [3, 8] (fun o i wr => ∃ (k c1 : Nat) (p1 : Option Addr), k ≤ ps.length ∧ i = .int .i64 k ∧ o = .slice p1 k c1 ∧ wr.ownsRow B 41 32 (.slice p1 k c1) k (Bl.cellsD ((ps.take k).map Bl.lfD)) ∧ Bl.Ext w wr) (fun _ i _ => ps.length - (intOf i).toNat)
  case atStart => exact ⟨0, 0, none, Nat.zero_le _, rfl, rfl, World.ownsRow_nil _ _ _ _, Below.refl _ _⟩
  case round =>
    obtain ⟨k, c1, p1, hk, rfl, rfl, hown, hE⟩ := hrel
    have Hown := Bl.hid hown
    have HE := Bl.hid hE
    clear hown hE
    by_cases hlt : k < ps.length
    · obtain ⟨b, o, hpe, hbl, hcell0⟩ := Bl.Rdss.cell' (Hv.out.ext HE.out) Hwl.out k hlt
      subst hpe
      have hRk0 := Hws.out k hlt
      obtain ⟨bs, hbs⟩ : ∃ bs, bs = ps.getD k [] := ⟨_, rfl⟩
      have hmem : bs ∈ ps := by rw [hbs, List.getD_eq_getElem?_getD, List.getElem?_eq_getElem hlt]; exact List.getElem_mem hlt
      rw [← hbs] at hRk0
      obtain ⟨pk, ck, hfk, hnk, hck⟩ := hRk0.form
      have hcell : wr.cell? ⟨b, o + k, none⟩ = some (.slice pk bs.length ck) := by rw [hcell0, hfk]
      have hRk : Bl.Rd wr .u8 (.slice pk bs.length ck) bs := by rw [← hfk]; exact hRk0.ext HE.out
      have HRk := Bl.hid hRk
      have Hmem := Bl.hid hmem
      have htk : Hid ((ps.take (k + 1)).map Bl.lfD = (ps.take k).map Bl.lfD ++ [Bl.lfD bs]) := by
        show _ = _
        rw [hbs, List.getD_eq_getElem?_getD, List.getElem?_eq_getElem hlt, List.take_succ_eq_append_getElem hlt, List.map_append]; rfl
      clear hRk0 hfk hcell0 hRk hbs hmem
      go_wp2_with fail
      refine (leaf_any _ bs wr HRk.out (Hg.out.ext HE.out) (Hby.out _ Hmem.out) (Hlp.out _ Hmem.out)).mono ?_
      rintro e w2 ⟨rfl, hE2⟩
      have hll : (Bl.lfD bs).length = 32 := Bl.lfD_length bs
      obtain ⟨d, hd⟩ : ∃ d, d = Bl.lfD bs := ⟨_, rfl⟩
      rw [← hd] at hll ⊢
      have Hll := Bl.hid hll
      have Hd := Bl.hid hd
      have Hown2 := Bl.hid (Bl.owns_ext (Bl.owns_ext Hown.out hE2) (Bl.ext_alloc w2 (.cells (Bl.ints .u8 d).toArray 41)))
      have Hnew := Bl.hid (Bl.rds_dig w2 41 d hll)
      have HE2 : Hid (Bl.Ext w (w2.alloc (.cells (Bl.ints .u8 d).toArray 41))) := Bl.hid ((HE.out.trans hE2).trans (Bl.ext_alloc _ _))
      clear hE2 hll hd
      go_wp2_with (with_reducible refine Bl.stop_build ?_)
      refine Bl.go_on ?_
      refine Bl.wpL_build1 tDig (by decide) rfl (by simp [Hll.out]) ?_
      go_wp2_with (with_reducible refine Bl.stop_append ?_)
      refine Bl.go_on ?_
      refine Bl.wpL_app tDig Hown2.out Hnew.out rfl rfl (by rw [Bl.cellsD_one, Bl.ints_length, Hll.out]) (Bl.cellsD_one' _) (by unfold maxLen; omega) (by omega) (by rw [HB.out]; exact HE2.out.size) ?_
      intro q3 d3 w3 hown3 hg3 hB3 hK3 hn3 hc3
      have Hown3 := Bl.hid hown3
      have HE3 : Hid (Bl.Ext w w3) := Bl.hid (Below.trans HE2.out (by rw [HB.out] at hB3; exact hB3))
      clear hown3 hg3 hB3 hK3
      go_wp2_with fail
      go_roundw
      case rel =>
        refine ⟨k + 1, d3, q3, by omega, by go_num, rfl, ?_, HE3.out⟩
        rw [htk.out, Bl.cellsD_append, ← Hd.out]
        exact Hown3.out
      case measure => simp [intOf]; omega
    · obtain rfl : k = ps.length := by omega
      have hown := Hown.out
      rw [List.take_length] at hown
      have Hown1 := Bl.hid hown
      clear hown
      go_wp2_with fail
      go_ret
      exact ⟨_, _, rfl, Hown1.out, HE.out⟩

set_option maxRecDepth 100000 in
set_option maxHeartbeats 1000000 in
theorem refleaves_any (v : Value) (ps : List (List Int)) (w : World) (hR : Bl.Rdss w v ps) (hg : GlobR w) (hby : ∀ p ∈ ps, Bl.Byt p) (hlp : ∀ p ∈ ps, p.length ≤ 1099511627000) (hn : ps.length ≤ 1048576) :
    Calls Tryd.prog 29 #[v] w fun e w' => ∃ p c, e = .returned (.slice p ps.length c) ∧ w'.ownsRow w.heap.size 40 32 (.slice p ps.length c) ps.length (Bl.cellsD (ps.map Bl.lfD)) ∧ Bl.Ext w w' := by
  obtain ⟨ws, hv, hwl, hws⟩ := hR
  obtain ⟨p, c, hvf, hvn, hvc⟩ := hv.form
  subst hvf
  have Hv := Bl.hid hv
  have Hws := Bl.hid hws
  have Hwl := Bl.hid hwl
  have Hg := Bl.hid hg
  have Hby := Bl.hid hby
  have Hlp := Bl.hid hlp
  have hown0 := Bl.owns_nil_lit w 40 w.heap.size (Nat.le_refl _) 32
  have hE0 := Bl.ext_alloc w (.cells #[] 40)
  have Hown0 := Bl.hid hown0
  have HE0 := Bl.hid hE0
  clear hv hws hg hby hwl hlp hown0 hE0
  go_enter Tryd.func29, Tryd.ntmps29
  go_wp2_with fail
  go_loopw [3, 9] (fun o i wr => ∃ (k c1 : Nat) (p1 : Option Addr), k ≤ ps.length ∧ i = .int .i64 k ∧ o = .slice p1 k c1 ∧ wr.ownsRow w.heap.size 40 32 (.slice p1 k c1) k (Bl.cellsD ((ps.take k).map Bl.lfD)) ∧ Bl.Ext w wr) (fun _ i _ => ps.length - (intOf i).toNat)
  case atStart => exact ⟨0, 0, _, Nat.zero_le _, rfl, rfl, Hown0.out, HE0.out⟩
  case round =>
    obtain ⟨k, c1, p1, hk, rfl, rfl, hown, hE⟩ := hrel
    have Hown := Bl.hid hown
    have HE := Bl.hid hE
    clear hown hE
    by_cases hlt : k < ps.length
    · obtain ⟨b, o, hpe, hbl, hcell0⟩ := Bl.Rdss.cell' (Hv.out.ext HE.out) Hwl.out k hlt
      subst hpe
      have hRk0 := Hws.out k hlt
      obtain ⟨bs, hbs⟩ : ∃ bs, bs = ps.getD k [] := ⟨_, rfl⟩
      have hmem : bs ∈ ps := by rw [hbs, List.getD_eq_getElem?_getD, List.getElem?_eq_getElem hlt]; exact List.getElem_mem hlt
      rw [← hbs] at hRk0
      obtain ⟨pk, ck, hfk, hnk, hck⟩ := hRk0.form
      have hcell : wr.cell? ⟨b, o + k, none⟩ = some (.slice pk bs.length ck) := by rw [hcell0, hfk]
      have hRk : Bl.Rd wr .u8 (.slice pk bs.length ck) bs := by rw [← hfk]; exact hRk0.ext HE.out
      have HRk := Bl.hid hRk
      have Hmem := Bl.hid hmem
      have htk : Hid ((ps.take (k + 1)).map Bl.lfD = (ps.take k).map Bl.lfD ++ [Bl.lfD bs]) := by
        show _ = _
        rw [hbs, List.getD_eq_getElem?_getD, List.getElem?_eq_getElem hlt, List.take_succ_eq_append_getElem hlt, List.map_append]; rfl
      clear hRk0 hfk hcell0 hRk hbs hmem
      go_wp2_with fail
      refine (refleaf_any _ bs wr HRk.out (Hg.out.ext HE.out) (Hby.out _ Hmem.out) (Hlp.out _ Hmem.out)).mono ?_
      rintro e w2 ⟨rfl, hE2⟩
      have hll : (Bl.lfD bs).length = 32 := Bl.lfD_length bs
      obtain ⟨d, hd⟩ : ∃ d, d = Bl.lfD bs := ⟨_, rfl⟩
      rw [← hd] at hll ⊢
      have Hll := Bl.hid hll
      have Hd := Bl.hid hd
      have Hown2 := Bl.hid (Bl.owns_ext (Bl.owns_ext Hown.out hE2) (Bl.ext_alloc w2 (.cells (Bl.ints .u8 d).toArray 40)))
      have Hnew := Bl.hid (Bl.rds_dig w2 40 d hll)
      have HE2 : Hid (Bl.Ext w (w2.alloc (.cells (Bl.ints .u8 d).toArray 40))) := Bl.hid ((HE.out.trans hE2).trans (Bl.ext_alloc _ _))
      clear hE2 hll hd
      go_wp2_with (with_reducible refine Bl.stop_build ?_)
      refine Bl.go_on ?_
      refine Bl.wpL_build1 tArr (by decide) rfl (by simp [Hll.out]) ?_
      go_wp2_with (with_reducible refine Bl.stop_append ?_)
      refine Bl.go_on ?_
      refine Bl.wpL_app tArr Hown2.out Hnew.out rfl rfl (by rw [Bl.cellsD_one, Bl.ints_length, Hll.out]) (Bl.cellsD_one' _) (by unfold maxLen; omega) (by omega) HE2.out.size ?_
      intro q3 d3 w3 hown3 hg3 hB3 hK3 hn3 hc3
      have Hown3 := Bl.hid hown3
      have HE3 : Hid (Bl.Ext w w3) := Bl.hid (Below.trans HE2.out hB3)
      clear hown3 hg3 hB3 hK3
      go_wp2_with fail
      go_roundw
      case rel =>
        refine ⟨k + 1, d3, q3, by omega, by go_num, rfl, ?_, HE3.out⟩
        rw [htk.out, Bl.cellsD_append, ← Hd.out]
        exact Hown3.out
      case measure => simp [intOf]; omega
    · obtain rfl : k = ps.length := by omega
      have hown := Hown.out
      rw [List.take_length] at hown
      have Hown1 := Bl.hid hown
      clear hown
      go_wp2_with fail
      go_ret
      exact ⟨_, _, rfl, Hown1.out, HE.out⟩
end Go.Proofs.YtglenbikdahgjaaDoor

/- slices.Chunk over digests, two by two: the function value, and its contract. -/
namespace Go.Proofs.YtglenbikdahgjaaDoor
open Go Go.RowKit Go.Proofs

attribute [local go_sem] Oper.semAt_some

set_option maxRecDepth 100000 in
set_option maxHeartbeats 400000 in
theorem chunkD_any (w : World) (p : Option Addr) (n c : Nat) :
    Calls Tryd.prog 77 #[.slice p n c, .int .i64 2] w fun e w' => e = .returned (.func (.func 82) #[] #[.pointer (some ⟨w.heap.size, 0, none⟩), .pointer (some ⟨w.heap.size + 1, 0, none⟩)]) ∧ w' = (w.alloc (.cells #[.slice p n c] 44)).alloc (.cells #[.int .i64 2] 3) := by
  go_enter Tryd.func77, Tryd.ntmps77
  go_wp2
  go_ret
  exact ⟨rfl, rfl⟩

set_option maxRecDepth 100000 in
set_option maxHeartbeats 2000000 in
theorem chunkD1_in (n lr Bs Bn gw n₀ b off N m cap : Nat) (hn : 1 ≤ n) (hm : 2 * m ≤ N + 1) (hm2 : N ≤ 2 * m) (hcap : N ≤ cap) (hmax : N ≤ 1048576) (hcm : cap ≤ maxLen) (hBs : Bs < n₀) (hBn : Bn < n₀) (hBsg : Bs ≠ gw) (hBng : Bn ≠ gw) (J Jx : List (Fin m) → World → Prop) (B0 : Nat) (hB0 : AbidesFrom B0 J)
    (hY : ∀ pre x W, J pre W → pre.length < m → YieldAt Fence.wide (n - 1) Tryd.prog lr #[.slice (some ⟨b, off + 2 * x.val * 32, none⟩) (Bl.ln N x.val) (Bl.ln N x.val)] W fun e W' =>
      (e = .returned (.bool true) ∧ J (pre ++ [x]) W' ∧ Bl.Keep gw n₀ W W') ∨ (e = .returned (.bool false) ∧ Jx (pre ++ [x]) W'))
    (W : World) (hcs : W.cell? ⟨Bs, 0, none⟩ = some (.slice (some ⟨b, off, none⟩) N cap)) (hcn : W.cell? ⟨Bn, 0, none⟩ = some (.int .i64 2)) (h0 : J [] W) (hn₀ : n₀ ≤ W.heap.size) :
    CallsIn Fence.wide n Tryd.prog 82 #[.func (.yield lr) #[] #[], .pointer (some ⟨Bs, 0, none⟩), .pointer (some ⟨Bn, 0, none⟩)] W fun e W' => (∃ v, e = .returned v) ∧
      ((∃ xs, xs = List.finRange m ∧ J xs W') ∨ (∃ pre, (∃ k, k ≤ m ∧ pre = Bl.chunks m k) ∧ Jx pre W')) := by
  unfold maxLen at hcm
  refine callsIn_of_wp Tryd.func82 rfl trivial ?_ rfl
  simp only [Tryd.ntmps82, List.size_toArray, List.length_cons, List.length_nil, Nat.reduceAdd, Nat.reduceSub, Array.replicate_succ, Array.replicate_zero, List.push_toArray, List.append_toArray, List.nil_append, List.cons_append]
  gi_wp2
  gi_loopw [4] (fun i wr => ∃ k : Nat, k ≤ m ∧ i = .int .i64 (2 * k : Nat) ∧ J (Bl.chunks m k) wr ∧ Bl.Keep gw n₀ W wr)
    (fun i _ => 2 * m - (intOf i).toNat)
  case atStart => exact ⟨0, Nat.zero_le _, rfl, h0, Bl.Keep.refl _ _ _⟩
  case round =>
    obtain ⟨k, hk, rfl, hJs, hnx⟩ := hrel
    have hnx' : n₀ ≤ wr.heap.size := Nat.le_trans hn₀ hnx.1
    have hBsl : Bs < wr.heap.size := World.block_lt_of_cell? _ _ ((hnx.cell (i := 0) hBs hBsg).trans hcs)
    have hBnl : Bn < wr.heap.size := World.block_lt_of_cell? _ _ ((hnx.cell (i := 0) hBn hBng).trans hcn)
    have hcs' := (hnx.cell (i := 0) hBs hBsg).trans hcs
    have hcn' := (hnx.cell (i := 0) hBn hBng).trans hcn
    by_cases hlt : k < m
    · have hi0 : ((2 * k : Nat) : Int) < (N : Int) := by omega
      have hle : ((2 * k : Nat) : Int) ≤ (N : Int) := by omega
      have hle2 : ((2 * k : Nat) : Int) ≤ (cap : Int) := by omega
      have htn : (2 * (k : Int)).toNat = 2 * k := by omega
      have hk0 : (0 : Int) ≤ 2 * (k : Int) := by omega
      have hkN : 2 * (k : Int) ≤ (N : Int) := by omega
      have hkC : 2 * (k : Int) ≤ (cap : Int) := by omega
      have hkl : 2 * (k : Int) < (N : Int) := by omega
      by_cases hf : 2 * k + 2 ≤ N
      · have hln : Bl.ln N k = 2 := if_pos hf
        have h64 : (2 : Int) ≤ ((N - 2 * k : Nat) : Int) := by omega
        clear hf
        gi_wp2
        refine wpIn_wide.2 ?_
        apply Bl.wp_region_ev 6 [13, 14, 15, 16, 17, 18] [Bl.eqv (.int .i64 2), Bl.eqv (.slice (some ⟨b, off, none⟩) N cap), Bl.eqv (.int .i64 (2 * k : Nat)), Bl.eqv (.slice (some ⟨b, off + 2 * k * 32, none⟩) (N - 2 * k) (cap - 2 * k)), Bl.eqv (.int .i64 (N - 2 * k : Nat)), Bl.eqv (.int .i64 2)] (by kernel_rfl) (by kernel_rfl) (by kernel_rfl) (by rfl)
        case hsteps =>
          refine ⟨?_, ?_, ?_, ?_, ?_, ?_, trivial⟩
          all_goals
            intro ev w1 hext hb hd
            have e1 := hb 1 (by decide)
            have e2 := hb 2 (by decide)
            have e4 := hb 4 (by decide)
            clear hb
            simp only [Array.getD_eq_getD_getElem?, List.getElem?_toArray, List.getElem?_cons_succ, List.getElem?_cons_zero, Option.getD_some] at e1 e2 e4
            simp only [Bl.DepsE, List.getElem?_cons_succ, List.getElem?_cons_zero, Option.bind_some, List.getD_cons_succ, List.getD_cons_zero, Bl.eqv, and_true] at hd
            have hc := (Bl.bcell hext).1
            have hcs1 := (hc _ 0 hBsl).trans hcs'
            have hcn1 := (hc _ 0 hBnl).trans hcn'
            simp only [Bl.Good, Region.wanted, if_true]
            go_simp
            first
              | exact ⟨Below.refl _ _, rfl⟩
              | exact ⟨Below.refl _ _, by show Value.int _ _ = Value.int _ _; congr 1; omega⟩
              | exact ⟨Below.refl _ _, by rw [if_neg (by omega)]; rfl⟩
              | exact ⟨Below.refl _ _, by rw [if_neg (by omega), htn]; rfl⟩
              | exact ⟨Below.refl _ _, by rw [if_neg (by omega), htn, show 2 * k + 1 - 2 * k = 1 from by omega]; rfl⟩
        case hend =>
          intro u w1 hext hend
          simp only [Bl.EndE, List.getElem?_cons_succ, List.getElem?_cons_zero, Option.bind_some, List.getD_cons_succ, List.getD_cons_zero, Bl.eqv, true_and] at hend
          simp only [Bl.fillAct, List.setIfInBounds_toArray, List.set_cons_succ, List.set_cons_zero, List.drop_succ_cons, List.drop_zero, hend]
          have hcs1 := ((Bl.bcell hext).1 _ 0 hBsl).trans hcs'
          have hcn1 := ((Bl.bcell hext).1 _ 0 hBnl).trans hcn'
          have hJ1 : J (Bl.chunks m k) w1 := hB0 _ wr w1 none hJs (Bl.grown_ext hext) (fun r e => by cases e)
          have hN : Bl.Keep gw n₀ wr w1 := ⟨hext.size, fun i hi _ => hext.block i (Nat.lt_of_lt_of_le hi hnx')⟩
          go_wp2_with fail
          have hYk := hY _ ⟨k, hlt⟩ w1 hJ1 (by rw [Bl.chunks_length _ _ hk]; exact hlt)
          rw [show Bl.ln N (⟨k, hlt⟩ : Fin m).val = 2 from hln] at hYk
          obtain ⟨fn, tmps, assign, body, hy, hR⟩ := hYk
          dsimp only at hy
          have hi1 : ((2 * k : Nat) : Int) + 2 ≤ (cap : Int) := by omega
          have hi2 : (2 * (k : Int) + 2).toNat = 2 * k + 2 := by omega
          gi_wp2
          refine hR.mono ?_
          rintro e W3 (⟨rfl, hJ3, hk3⟩ | ⟨rfl, hJx3⟩)
          · have hcs3 := (hk3.cell (i := 0) hBs hBsg).trans hcs1
            have hcn3 := (hk3.cell (i := 0) hBn hBng).trans hcn1
            have hi3 : 2 * (k : Int) + 2 = ((2 * (k + 1) : Nat) : Int) := by omega
            gi_wp2
            go_roundw
            case rel => exact ⟨k + 1, by omega, by simp, by rw [Bl.chunks_succ _ _ hlt]; exact hJ3, (hnx.trans hN).trans hk3⟩
            case measure => simp [intOf]; omega
          · gi_wp2
            refine bodyPost_ret (results_none rfl _ _ _) rfl ?_
            exact ⟨⟨_, rfl⟩, .inr ⟨_, ⟨k + 1, by omega, (Bl.chunks_succ _ _ hlt).symm⟩, hJx3⟩⟩
        case hmono => exact ⟨Bl.mono_eqv _, Bl.mono_eqv _, Bl.mono_eqv _, Bl.mono_eqv _, Bl.mono_eqv _, Bl.mono_eqv _, trivial⟩
      · obtain rfl : N = 2 * k + 1 := by omega
        have hln : Bl.ln (2 * k + 1) k = 1 := if_neg hf
        have hkk : 2 * (k : Int) ≤ 2 * (k : Int) + 1 := by omega
        clear hf
        gi_wp2
        refine wpIn_wide.2 ?_
        apply Bl.wp_region_ev 6 [13, 14, 15, 16, 17, 18] [Bl.eqv (.int .i64 2), Bl.eqv (.slice (some ⟨b, off, none⟩) (2 * k + 1) cap), Bl.eqv (.int .i64 (2 * k : Nat)), Bl.eqv (.slice (some ⟨b, off + 2 * k * 32, none⟩) (1) (cap - 2 * k)), Bl.eqv (.int .i64 (1 : Nat)), Bl.eqv (.int .i64 1)] (by kernel_rfl) (by kernel_rfl) (by kernel_rfl) (by rfl)
        case hsteps =>
          refine ⟨?_, ?_, ?_, ?_, ?_, ?_, trivial⟩
          all_goals
            intro ev w1 hext hb hd
            have e1 := hb 1 (by decide)
            have e2 := hb 2 (by decide)
            have e4 := hb 4 (by decide)
            clear hb
            simp only [Array.getD_eq_getD_getElem?, List.getElem?_toArray, List.getElem?_cons_succ, List.getElem?_cons_zero, Option.getD_some] at e1 e2 e4
            simp only [Bl.DepsE, List.getElem?_cons_succ, List.getElem?_cons_zero, Option.bind_some, List.getD_cons_succ, List.getD_cons_zero, Bl.eqv, and_true] at hd
            have hc := (Bl.bcell hext).1
            have hcs1 := (hc _ 0 hBsl).trans hcs'
            have hcn1 := (hc _ 0 hBnl).trans hcn'
            simp only [Bl.Good, Region.wanted, if_true]
            go_simp
            first
              | exact ⟨Below.refl _ _, rfl⟩
              | exact ⟨Below.refl _ _, by show Value.int _ _ = Value.int _ _; congr 1; omega⟩
              | exact ⟨Below.refl _ _, by rw [if_neg (by omega)]; rfl⟩
              | exact ⟨Below.refl _ _, by rw [if_neg (by omega), htn]; rfl⟩
              | exact ⟨Below.refl _ _, by rw [if_neg (by omega), htn, show 2 * k + 1 - 2 * k = 1 from by omega]; rfl⟩
        case hend =>
          intro u w1 hext hend
          simp only [Bl.EndE, List.getElem?_cons_succ, List.getElem?_cons_zero, Option.bind_some, List.getD_cons_succ, List.getD_cons_zero, Bl.eqv, true_and] at hend
          simp only [Bl.fillAct, List.setIfInBounds_toArray, List.set_cons_succ, List.set_cons_zero, List.drop_succ_cons, List.drop_zero, hend]
          have hcs1 := ((Bl.bcell hext).1 _ 0 hBsl).trans hcs'
          have hcn1 := ((Bl.bcell hext).1 _ 0 hBnl).trans hcn'
          have hJ1 : J (Bl.chunks m k) w1 := hB0 _ wr w1 none hJs (Bl.grown_ext hext) (fun r e => by cases e)
          have hN : Bl.Keep gw n₀ wr w1 := ⟨hext.size, fun i hi _ => hext.block i (Nat.lt_of_lt_of_le hi hnx')⟩
          go_wp2_with fail
          have hYk := hY _ ⟨k, hlt⟩ w1 hJ1 (by rw [Bl.chunks_length _ _ hk]; exact hlt)
          rw [show Bl.ln (2 * k + 1) (⟨k, hlt⟩ : Fin m).val = 1 from hln] at hYk
          obtain ⟨fn, tmps, assign, body, hy, hR⟩ := hYk
          dsimp only at hy
          have hi1 : ((2 * k : Nat) : Int) + 1 ≤ (cap : Int) := by omega
          have hi2 : (2 * (k : Int) + 1).toNat = 2 * k + 1 := by omega
          gi_wp2
          refine hR.mono ?_
          rintro e W3 (⟨rfl, hJ3, hk3⟩ | ⟨rfl, hJx3⟩)
          · have hcs3 := (hk3.cell (i := 0) hBs hBsg).trans hcs1
            have hcn3 := (hk3.cell (i := 0) hBn hBng).trans hcn1
            have hi3 : 2 * (k : Int) + 2 = ((2 * (k + 1) : Nat) : Int) := by omega
            gi_wp2
            go_roundw
            case rel => exact ⟨k + 1, by omega, by simp, by rw [Bl.chunks_succ _ _ hlt]; exact hJ3, (hnx.trans hN).trans hk3⟩
            case measure => simp [intOf]; omega
          · gi_wp2
            refine bodyPost_ret (results_none rfl _ _ _) rfl ?_
            exact ⟨⟨_, rfl⟩, .inr ⟨_, ⟨k + 1, by omega, (Bl.chunks_succ _ _ hlt).symm⟩, hJx3⟩⟩
        case hmono => exact ⟨Bl.mono_eqv _, Bl.mono_eqv _, Bl.mono_eqv _, Bl.mono_eqv _, Bl.mono_eqv _, Bl.mono_eqv _, trivial⟩
    · obtain rfl : k = m := by omega
      have hi0 : ¬ (((2 * k : Nat) : Int) < (N : Int)) := by omega
      gi_wp2
      go_end0
      exact ⟨⟨_, rfl⟩, .inl (by rw [← Bl.chunks_all]; exact hJs)⟩

theorem chunkD_stops (n Bs Bn gw b off N m cap : Nat) (hn : 1 ≤ n) (hm : 2 * m ≤ N + 1) (hm2 : N ≤ 2 * m) (hcap : N ≤ cap) (hmax : N ≤ 1048576) (hcm : cap ≤ maxLen) (w : World) (hBs : Bs < w.heap.size) (hBn : Bn < w.heap.size) (hBsg : Bs ≠ gw) (hBng : Bn ≠ gw)
    (hcs : w.cell? ⟨Bs, 0, none⟩ = some (.slice (some ⟨b, off, none⟩) N cap)) (hcn : w.cell? ⟨Bn, 0, none⟩ = some (.int .i64 2)) :
    SeqStopsK Fence.wide n Tryd.prog 82 #[.pointer (some ⟨Bs, 0, none⟩), .pointer (some ⟨Bn, 0, none⟩)] (fun x : Fin m => #[Value.slice (some ⟨b, off + 2 * x.val * 32, none⟩) (Bl.ln N x.val) (Bl.ln N x.val)]) (Bl.Keep gw w.heap.size) (fun xs => xs = List.finRange m) (fun pre => ∃ k, k ≤ m ∧ pre = Bl.chunks m k) m w :=
  fun l J Jx W hW hJ _ hY h0 =>
    chunkD1_in n l Bs Bn gw w.heap.size b off N m cap hn hm hm2 hcap hmax hcm hBs hBn hBsg hBng J Jx W.heap.size hJ hY W ((hW.cell (p := ⟨Bs, 0, none⟩) hBs).trans hcs) ((hW.cell (p := ⟨Bn, 0, none⟩) hBn).trans hcn) h0 hW.size
end Go.Proofs.YtglenbikdahgjaaDoor

/- Walks of slices.Clone over digests, tree.Over. -/
namespace Go.Proofs.YtglenbikdahgjaaDoor
open Go Go.RowKit Go.Proofs

attribute [local go_sem] Oper.semAt_some

set_option maxRecDepth 100000 in
set_option maxHeartbeats 400000 in
theorem cloneD_some (ad : Addr) (c : Nat) (ds : List (List Int)) (w : World) (h2 : Bl.RdD w (.slice (some ad) ds.length c) ds) (hd : Bl.Dig ds) (hl : ds.length ≤ 1048576) :
    Calls Tryd.prog 76 #[.slice (some ad) ds.length c] w fun e w' => ∃ v', e = .returned v' ∧ w'.ownsRow w.heap.size 41 32 v' ds.length (Bl.cellsD ds) ∧ Bl.Ext w w' := by
  have e0 := Lib.run_eql_slice_nil (P := Tryd.prog) w 44 41 (some ad) ds.length c 0 0 Tryd.underlying44
  have hE : Bl.Ext w (w.alloc (.cells #[] 41)) := Bl.ext_alloc _ _
  have Ho : Hid ((w.alloc (.cells #[] 41)).ownsRow w.heap.size 41 32 (.slice (some ⟨w.heap.size, 0, none⟩) 0 0) 0 []) := Bl.hid (Bl.owns_new w 41 #[] w.heap.size 0 32 (Nat.le_refl _) (by decide) rfl)
  have H2 : Hid (Bl.RdD (w.alloc (.cells #[] 41)) (.slice (some ad) ds.length c) ds) := Bl.hid (Bl.Rds.ext h2 hE)
  have Hl := Bl.hid hl
  have Hd := Bl.hid hd
  clear h2 hE hl hd
  go_enter Tryd.func76, Tryd.ntmps76
  go_wp2_with ((with_reducible refine Bl.wpL_append tDig Ho.out H2.out (Bl.cellsD_length Hd.out) (Bl.cellsD_one' _) (by have := Hl.out; unfold maxLen; omega) (by have := Hl.out; omega) (by simp) ?_ ?_ ?_); rfl; rfl; intro v' w' hown hg hB hK)
  go_ret
  rw [Nat.zero_add, List.nil_append] at hown
  exact ⟨_, rfl, hown, ((Below.refl _ _).alloc (Nat.le_refl _) _).trans hB⟩

set_option maxRecDepth 100000 in
set_option maxHeartbeats 400000 in
/-- slices.Clone of digests -/
theorem cloneD_any (v : Value) (ds : List (List Int)) (w : World) (h : Bl.RdD w v ds) (hd : Bl.Dig ds) (hl : ds.length ≤ 1048576) :
    Calls Tryd.prog 76 #[v] w fun e w' => ∃ v', e = .returned v' ∧ w'.ownsRow w.heap.size 41 32 v' ds.length (Bl.cellsD ds) ∧ Bl.Ext w w' := by
  have h2 := h
  rcases h with ⟨⟨p, rfl⟩, hn, hc⟩ | ⟨b, o, c, rfl, hnc, hcm, hr⟩
  · obtain rfl : ds = [] := List.length_eq_zero_iff.1 hn
    cases p with
    | some ad => exact cloneD_some ad 0 [] w h2 hd hl
    | none =>
      have e0 := Lib.run_eql_slice_nil (P := Tryd.prog) w 44 41 none 0 0 0 0 Tryd.underlying44
      clear hn hc h2
      go_enter Tryd.func76, Tryd.ntmps76
      go_wp2
      go_ret
      exact ⟨_, rfl, World.ownsRow_nil _ _ _ _, Below.refl _ _⟩
  · exact cloneD_some _ c ds w h2 hd hl

set_option maxRecDepth 100000 in
set_option maxHeartbeats 2000000 in
theorem over_any (v : Value) (ds : List (List Int)) (w : World) (hmax : ds.length ≤ 1048576) (hd : Bl.Dig ds) (hR : Bl.RdD w v ds) (hg : Glob w) :
    Calls Tryd.prog 61 #[v] w fun e w' => e = .returned (.agg (Bl.ints .u8 (Bl.overD ds)).toArray) ∧ Bl.Ext w w' := by
  obtain ⟨p, c, rfl, hpn, hpc⟩ := hR.form
  have Hd := Bl.hid hd
  have HR := Bl.hid hR
  have Hg := Bl.hid hg
  have HF0 := Bl.hid (fam_new w 32 .u8 41 #[.int .u8 0, .int .u8 0, .int .u8 0, .int .u8 0, .int .u8 0, .int .u8 0, .int .u8 0, .int .u8 0, .int .u8 0, .int .u8 0, .int .u8 0, .int .u8 0, .int .u8 0, .int .u8 0, .int .u8 0, .int .u8 0, .int .u8 0, .int .u8 0, .int .u8 0, .int .u8 0, .int .u8 0, .int .u8 0, .int .u8 0, .int .u8 0, .int .u8 0, .int .u8 0, .int .u8 0, .int .u8 0, .int .u8 0, .int .u8 0, .int .u8 0, .int .u8 0] rfl)
  have HE0 := Bl.hid (Bl.ext_alloc w (.cells #[.int .u8 0, .int .u8 0, .int .u8 0, .int .u8 0, .int .u8 0, .int .u8 0, .int .u8 0, .int .u8 0, .int .u8 0, .int .u8 0, .int .u8 0, .int .u8 0, .int .u8 0, .int .u8 0, .int .u8 0, .int .u8 0, .int .u8 0, .int .u8 0, .int .u8 0, .int .u8 0, .int .u8 0, .int .u8 0, .int .u8 0, .int .u8 0, .int .u8 0, .int .u8 0, .int .u8 0, .int .u8 0, .int .u8 0, .int .u8 0, .int .u8 0, .int .u8 0] 41))
  have hz0 : (w.alloc (.cells #[.int .u8 0, .int .u8 0, .int .u8 0, .int .u8 0, .int .u8 0, .int .u8 0, .int .u8 0, .int .u8 0, .int .u8 0, .int .u8 0, .int .u8 0, .int .u8 0, .int .u8 0, .int .u8 0, .int .u8 0, .int .u8 0, .int .u8 0, .int .u8 0, .int .u8 0, .int .u8 0, .int .u8 0, .int .u8 0, .int .u8 0, .int .u8 0, .int .u8 0, .int .u8 0, .int .u8 0, .int .u8 0, .int .u8 0, .int .u8 0, .int .u8 0, .int .u8 0] 41)).heap.size = w.heap.size + 1 := World.size_alloc _ _
  clear hd hR hg
  refine (callsIn_wide (n := 9)).1 ?_
  refine callsIn_of_wp_marks Tryd.func61 rfl trivial ?_ rfl
  simp only [Tryd.ntmps61, List.size_toArray, List.length_cons, List.length_nil, Nat.reduceAdd, Nat.reduceSub, Array.replicate_succ, Array.replicate_zero, List.push_toArray, List.append_toArray, List.nil_append, List.cons_append]
  refine wpIn_wide.2 ?_
  by_cases h0 : ds.length = 0
  · obtain rfl := List.length_eq_zero_iff.1 h0
    clear hpn hpc HR h0
    go_wp2_with fail
    obtain ⟨W0, hW0⟩ : ∃ W0, W0 = w.alloc (.cells #[.int .u8 0, .int .u8 0, .int .u8 0, .int .u8 0, .int .u8 0, .int .u8 0, .int .u8 0, .int .u8 0, .int .u8 0, .int .u8 0, .int .u8 0, .int .u8 0, .int .u8 0, .int .u8 0, .int .u8 0, .int .u8 0, .int .u8 0, .int .u8 0, .int .u8 0, .int .u8 0, .int .u8 0, .int .u8 0, .int .u8 0, .int .u8 0, .int .u8 0, .int .u8 0, .int .u8 0, .int .u8 0, .int .u8 0, .int .u8 0, .int .u8 0, .int .u8 0] 41) := ⟨_, rfl⟩
    rw [← hW0] at HF0 HE0 ⊢
    clear hW0 hz0
    refine (of_any _ [] W0 ⟨[], Bl.Rds.nil _, rfl, fun k hk => absurd hk (Nat.not_lt_zero _)⟩ (Hg.out.ext HE0.out) Bl.Byt.nil (by decide)).mono ?_
    rintro e w1 ⟨rfl, hE1⟩
    have HE1 := Bl.hid hE1
    have hsh : Bl.sha [].flatten = Bl.overD [] := rfl
    rw [hsh]
    obtain ⟨sh, hsh⟩ : ∃ sh, sh = Bl.overD [] := ⟨_, rfl⟩
    have Hshl : Hid (sh.length = 32) := Bl.hid (by rw [hsh]; rfl)
    have Hsh := Bl.hid hsh
    rw [← hsh]
    clear hE1 hsh
    have HFc := Bl.hid (HF0.out.below HE1.out (World.block_lt_of_cell? _ _ (HF0.out.1 0 (by decide))))
    have Hstc := Bl.hid (Bl.store_ints (P := Tryd.prog) (k := .u8) (ty := 41) (l := sh) HFc.out.there (by kernel_rfl) Hshl.out)
    go_wp2_with (((with_reducible refine Bl.wpL_store ?_ ?_ Hstc.out ?_); rfl; rfl))
    have hinc := World.rangeAt_setCells_same _ (w.heap.size) 0 (Bl.ints .u8 sh) (by rw [Bl.ints_length, Hshl.out]; exact HFc.out.there)
    refine Bl.leaves_marks (B := w.heap.size + 1) _ 0 _ (trivial) ?_
    intro w' hw'
    have hinw : w'.rangeAt (w.heap.size) 0 (Bl.ints .u8 sh) := fun j v hv => ((Bl.bcell hw').1 _ _ (Nat.lt_succ_self _)).trans (hinc j v hv)
    have hldc := run_loadVar_mid (P := Tryd.prog) _ (w.heap.size) 0 41 (Bl.ints .u8 sh) _ hinw Tryd.underlying41 rfl (by rw [Bl.ints_length, Hshl.out]; kernel_rfl)
    exact ⟨_, Bl.results_cell rfl rfl hldc, by rw [Hsh.out], (Bl.below_setCells _ _ _ _ (HE0.out.trans HE1.out) (Nat.le_refl _)).trans (hw'.mono (Nat.le_succ _))⟩
  · have hl0 : ((ds.length : Int) == 0) = false := by rw [beq_eq_false_iff_ne]; omega
    go_wp2_with fail
    obtain ⟨W0, hW0⟩ : ∃ W0, W0 = w.alloc (.cells #[.int .u8 0, .int .u8 0, .int .u8 0, .int .u8 0, .int .u8 0, .int .u8 0, .int .u8 0, .int .u8 0, .int .u8 0, .int .u8 0, .int .u8 0, .int .u8 0, .int .u8 0, .int .u8 0, .int .u8 0, .int .u8 0, .int .u8 0, .int .u8 0, .int .u8 0, .int .u8 0, .int .u8 0, .int .u8 0, .int .u8 0, .int .u8 0, .int .u8 0, .int .u8 0, .int .u8 0, .int .u8 0, .int .u8 0, .int .u8 0, .int .u8 0, .int .u8 0] 41) := ⟨_, rfl⟩
    rw [← hW0] at HF0 HE0 hz0 ⊢
    clear hW0
    refine (cloneD_any _ ds W0 (Bl.Rds.ext HR.out HE0.out) Hd.out hmax).mono ?_
    rintro e w2 ⟨v2, rfl, hown2, hE2⟩
    obtain ⟨p2, c2, rfl, hn2, hc2⟩ := (Bl.Rds.of_owns hown2).form
    have HR2 : Hid (Bl.RdD w2 (.slice p2 ds.length c2) ds) := Bl.hid (Bl.Rds.of_owns hown2)
    have HE2 := Bl.hid hE2
    clear hown2 hE2 hn2 hc2
    go_wp2_with fail
    refine wp_loop (fun a wr => ∃ (r : List (List Int)) (n : Nat) (q : Option Addr) (cq : Nat) (defs : List Deferred) (u4 u12 u13 u14 u15 u16 u37 : Value),
      (Hid (0 < r.length ∧ r.length ≤ 1048576 ∧ Bl.Dig r ∧ Bl.overD r = Bl.overD ds ∧ Bl.RdD wr (.slice q r.length cq) r ∧ Bl.Marks (w.heap.size + 1) wr wr.heap.size defs ∧ Bl.Ext W0 wr ∧ r.length = n)) ∧
      a = { tmps := #[.slice p ds.length c, undef, .pointer (some ⟨w.heap.size, 0, none⟩), .slice q n cq, u4, undef, .slice p ds.length c, .int .i64 ds.length, .bool false, undef, .slice p ds.length c, .slice p2 ds.length c2, u12, u13, u14, u15, u16, undef, undef, undef, undef, undef, undef, undef, undef, undef, undef, undef, undef, undef, undef, undef, undef, undef, undef, undef, undef, u37, undef, undef, undef], defers := defs })
      (fun a _ => Bl.lenS (a.tmps.getD 3 undef)) ?_ ?_
    · refine ⟨ds, ds.length, p2, c2, [], _, _, _, _, _, _, _, Bl.hid ⟨by omega, hmax, Hd.out, rfl, HR2.out, trivial, HE2.out, rfl⟩, rfl⟩
    · intro a wr hinv
      obtain ⟨r, n, q, cq, defs, u4, u12, u13, u14, u15, u16, u37, Hinv, rfl⟩ := hinv
      obtain ⟨hr0, hr1, hrd, hov, hrr, hM, hE, hrn⟩ := Hinv.out
      subst hrn
      obtain ⟨b, o, cq', hqe, hqn, hqc, hbl, hrg⟩ := Bl.RdD.pos hrr hrd hr0
      cases hqe
      have Hrd := Bl.hid hrd
      have Hov := Bl.hid hov
      have Hrg := Bl.hid hrg
      have HM := Bl.hid hM
      have HE := Bl.hid hE
      clear hrd hov hrr hrg hM hE Hinv
      have hszr : w.heap.size + 1 ≤ wr.heap.size := by have := HE.out.size; omega
      by_cases h1 : r.length = 1
      · obtain ⟨d, rfl⟩ : ∃ d, r = [d] := by
          match r, h1 with
          | [d], _ => exact ⟨d, rfl⟩
        obtain ⟨hdl, _⟩ := Hrd.out d (by simp)
        have Hdl := Bl.hid hdl
        have Hrg1 : Hid (wr.rangeAt b o (Bl.ints .u8 d)) := Bl.hid (by have := Hrg.out; rw [Bl.cellsD_one] at this; exact this)
        have Hd1 : Hid (d = Bl.overD ds) := Bl.hid (by rw [← Hov.out]; exact (Bl.over_one _ _ d).symm)
        clear hdl hr0 hr1 h1 Hrd Hrg
        go_wp2_with (with_reducible refine Bl.stop_load (ty := 41) ?_)
        refine Bl.go_on ?_
        refine Bl.wpL_load rfl (Bl.load_ints Hrg1.out Tryd.underlying41 (by kernel_rfl) Hdl.out) ?_
        have HFc := Bl.hid (HF0.out.below HE.out (World.block_lt_of_cell? _ _ (HF0.out.1 0 (by decide))))
        have Hstc := Bl.hid (Bl.store_ints (P := Tryd.prog) (k := .u8) (ty := 41) (l := d) HFc.out.there (by kernel_rfl) Hdl.out)
        go_wp2_with (((with_reducible refine Bl.wpL_store ?_ ?_ Hstc.out ?_); rfl; rfl))
        have hinc := World.rangeAt_setCells_same _ (w.heap.size) 0 (Bl.ints .u8 d) (by rw [Bl.ints_length, Hdl.out]; exact HFc.out.there)
        refine Bl.leaves_marks (B := w.heap.size + 1) _ wr.heap.size _ (Bl.Marks.keep _ _ (fun k hk _ _ => Bl.exc_setCells _ _ _ (Bl.Exc.refl w.heap.size wr) k (by omega)) HM.out) ?_
        intro w' hw'
        have hinw : w'.rangeAt (w.heap.size) 0 (Bl.ints .u8 d) := fun j v hv => ((Bl.bcell hw').1 _ _ (Nat.lt_succ_self _)).trans (hinc j v hv)
        have hldc := run_loadVar_mid (P := Tryd.prog) _ (w.heap.size) 0 41 (Bl.ints .u8 d) _ hinw Tryd.underlying41 rfl (by rw [Bl.ints_length, Hdl.out]; kernel_rfl)
        exact ⟨_, Bl.results_cell rfl rfl hldc, by rw [Hd1.out], (Bl.below_setCells _ _ _ _ (HE0.out.trans HE.out) (Nat.le_refl _)).trans (hw'.mono (Nat.le_succ _))⟩
      · have hgt : (1 : Int) < (r.length : Int) := by omega
        go_wp2_with fail
        have hcU0 := Bl.cell_new1 wr (.slice none 0 0) 44
        have hfU0 : (wr.alloc (.cells #[.slice none 0 0] 44)).frozen? ⟨wr.heap.size, 0, none⟩ = false := by simp
        refine (chunkD_any _ _ _ _).mono ?_
        rintro e w5 ⟨rfl, hw5⟩
        rw [World.size_alloc]
        have hE4 : Bl.Ext (wr.alloc (.cells #[.slice none 0 0] 44)) w5 := by
          rw [hw5]; exact ((Below.refl _ _).alloc (Nat.le_refl _) _).alloc (by simp) _
        have hE5 : Bl.Ext wr w5 := (Bl.ext_alloc _ _).trans (hE4.mono (by simp))
        have hE5b : Below wr.heap.size wr w5 := hE5
        have hcs : w5.cell? ⟨wr.heap.size + 1, 0, none⟩ = some (.slice (some ⟨b, o, none⟩) r.length cq) := by
          rw [hw5]
          exact ((Bl.bcell ((Below.refl _ _).alloc (Nat.le_refl _) _)).1 _ _ (by simp)).trans (by simp)
        have hcn : w5.cell? ⟨wr.heap.size + 1 + 1, 0, none⟩ = some (.int .i64 2) := by
          rw [hw5]
          have := Bl.cell_new1 ((wr.alloc (.cells #[.slice none 0 0] 44)).alloc (.cells #[.slice (some ⟨b, o, none⟩) r.length cq] 44)) (.int .i64 2) 3
          simpa using this
        have hsz5 : w5.heap.size = wr.heap.size + 3 := by rw [hw5]; simp
        have hcU : w5.cell? ⟨wr.heap.size, 0, none⟩ = some (.slice none 0 0) := ((Bl.bcell hE4).1 _ _ (by simp)).trans hcU0
        have hfU : w5.frozen? ⟨wr.heap.size, 0, none⟩ = false := ((Bl.bcell hE4).2 _ _ (by simp)).trans hfU0
        obtain ⟨m, hm⟩ : ∃ m, m = (r.length + 1) / 2 := ⟨_, rfl⟩
        clear hw5 hE4 hcU0 hfU0
        go_wp2_with fail
        refine (wpIn_wide (n := 9)).1 ?_
        apply wpIn_rangeFunc_ownF (F := Fence.wide) (encs := fun x : Fin m => #[Value.slice (some ⟨b, o + 2 * x.val * 32, none⟩) (Bl.ln r.length x.val) (Bl.ln r.length x.val)]) (Kp := Bl.Keep wr.heap.size w5.heap.size) rfl (by decide) (gf := 82) (lb := #[.pointer (some ⟨wr.heap.size + 1, 0, none⟩), .pointer (some ⟨wr.heap.size + 1 + 1, 0, none⟩)]) rfl trivial (enters_of Tryd.func82 (by kernel_rfl) rfl)
          (chunkD_stops 8 (wr.heap.size + 1) (wr.heap.size + 1 + 1) wr.heap.size b o r.length m cq (by decide) (by omega) (by omega) hqn hr1 hqc w5 (by omega) (by omega) (by omega) (by omega) hcs hcn)
          (fun h k => Bl.Keep.trans h k) (Bl.Keep.putObj (Nat.le_refl _)) (Below.refl _ _) (fun _ => rfl)
          (fun pre W => Bl.UpAt 41 wr.heap.size w5.heap.size (fun x : Fin m => Bl.upD r x.val) pre W ∧ (Bl.Keep wr.heap.size w5.heap.size w5 W ∧ Below wr.heap.size w5 W))
          (fun _ _ _ => False)
        case hI => exact OwnFrom.and (Bl.UpAt.from (by omega)) (OwnFrom.and (Bl.ownFrom_keep (Nat.le_refl _) (Nat.le_refl _)) (ownFrom_below (by omega) (by omega)))
        case hIx => exact fun _ _ _ _ _ hs _ _ => hs
        case h0 => exact ⟨⟨none, 0, hcU, hfU, World.ownsRow_nil _ _ _ _⟩, Bl.Keep.refl _ _ _, Below.refl _ _⟩
        case hassign =>
          intro lr x W K hK
          gi_wp2
          exact hK
        case hbody =>
          rintro lr pre x W ⟨⟨pu, cu, hcuW, hfuW, hown⟩, hKp, hBW⟩ hlen
          have hgl : wr.heap.size < W.heap.size := World.block_lt_of_cell? _ _ hcuW
          have hx : x.val < m := x.isLt
          have hrW : W.rangeAt b o (Bl.cellsD r) := Bl.rangeAt_ext Hrg.out (hE5b.trans hBW)
          have hgw : Glob W := Hg.out.ext ((HE0.out.trans HE.out).trans (show Bl.Ext wr W from hE5b.trans hBW))
          have Hown := Bl.hid hown
          have HKp := Bl.hid hKp
          have HBW := Bl.hid hBW
          have Hgw := Bl.hid hgw
          have HL0 : Hid (∀ w1, Bl.Ext W w1 → (Instr.loadAt 41 (.pointer (some ⟨b, o + 2 * x.val * 32, none⟩))).run Tryd.prog w1 = .ok (.agg (Bl.ints .u8 (r.getD (2 * x.val) [])).toArray) w1) := Bl.hid fun w1 h1 =>
            Bl.load_ints (Bl.rangeAt_ext (Bl.digit_at hrW Hrd.out (by omega)) h1) Tryd.underlying41 (by kernel_rfl) (Hrd.out.get (by omega)).1
          obtain ⟨hd0, hb0⟩ := Hrd.out.get (i := 2 * x.val) (by omega)
          clear hown hKp hBW hgw
          by_cases hf : 2 * x.val + 2 ≤ r.length
          · have hln : Bl.ln r.length x.val = 2 := if_pos hf
            have HL1 : Hid (∀ w1, Bl.Ext W w1 → (Instr.loadAt 41 (.pointer (some ⟨b, o + 2 * x.val * 32 + 32, none⟩))).run Tryd.prog w1 = .ok (.agg (Bl.ints .u8 (r.getD (2 * x.val + 1) [])).toArray) w1) := Bl.hid fun w1 h1 => by
              have h := Bl.digit_at hrW Hrd.out (i := 2 * x.val + 1) (by omega)
              rw [show o + (2 * x.val + 1) * 32 = o + 2 * x.val * 32 + 32 from by omega] at h
              exact Bl.load_ints (Bl.rangeAt_ext h h1) Tryd.underlying41 (by kernel_rfl) (Hrd.out.get (by omega)).1
            obtain ⟨hd1, hb1⟩ := Hrd.out.get (i := 2 * x.val + 1) (by omega)
            have HN : Hid (∀ w1, Bl.Ext W w1 → Calls Tryd.prog 78 #[.agg (Bl.ints .u8 (r.getD (2 * x.val) [])).toArray, .agg (Bl.ints .u8 (r.getD (2 * x.val + 1) [])).toArray] w1 fun e w' => e = .returned (.agg (Bl.ints .u8 (Bl.upD r x.val)).toArray) ∧ Bl.Ext w1 w') := Bl.hid fun w1 h1 => by
              rw [show Bl.upD r x.val = Bl.ndD (r.getD (2 * x.val) []) (r.getD (2 * x.val + 1) []) from if_pos hf]
              exact node_any _ _ w1 hd0 hd1 hb0 hb1 (Hgw.out.ext h1)
            have Hnl : Hid ((Bl.upD r x.val).length = 32) := Bl.hid (by rw [show Bl.upD r x.val = Bl.ndD (r.getD (2 * x.val) []) (r.getD (2 * x.val + 1) []) from if_pos hf]; exact Bl.ndD_length _ _)
            obtain ⟨d0, hd0e⟩ : ∃ d0, d0 = r.getD (2 * x.val) [] := ⟨_, rfl⟩
            obtain ⟨d1, hd1e⟩ : ∃ d1, d1 = r.getD (2 * x.val + 1) [] := ⟨_, rfl⟩
            obtain ⟨dn, hdn⟩ : ∃ dn, dn = Bl.upD r x.val := ⟨_, rfl⟩
            rw [← hd0e] at HL0 HN
            rw [← hd1e] at HL1 HN
            rw [← hdn] at HN Hnl
            have Hdn := Bl.hid hdn
            clear hd0 hb0 hd1 hb1 hd0e hd1e hdn hrW hf
            simp only [hln]
            gi_wp2
            apply Bl.wpIn_region_ev 9 [21, 22, 23, 24, 25, 26, 27, 28, 29] [Bl.eqv _, Bl.eqv _, Bl.eqv _, Bl.eqv _, Bl.eqv _, Bl.eqv _, Bl.eqv _, Bl.eqv _, (fun v w' => Bl.Rds w' v 1 (Bl.cellsD [dn]))] (by kernel_rfl) (by kernel_rfl) (by kernel_rfl) (by kernel_rfl) (by kernel_rfl)
            case hsteps =>
              refine ⟨?_, ?_, ?_, ?_, ?_, ?_, ?_, ?_, ?_, trivial⟩
              all_goals
                intro ev w1 hext hb hd
                have e4 := hb 4 (by decide)
                have e5 := hb 5 (by decide)
                clear hb
                simp only [Array.getD_eq_getD_getElem?, List.getElem?_toArray, List.getElem?_cons_succ, List.getElem?_cons_zero, Option.getD_some] at e4 e5
                simp only [Bl.DepsE, List.getElem?_cons_succ, List.getElem?_cons_zero, Option.bind_some, List.getD_cons_succ, List.getD_cons_zero, Bl.eqv, and_true] at hd
                have hc := (Bl.bcell hext).1
                have hcu1 := (hc _ 0 hgl).trans hcuW
                have hld0 := HL0.out w1 hext
                have hld1 := HL1.out w1 hext
                simp only [Bl.Good, Region.wanted, if_true]
                first
                | ((with_reducible refine Bl.goodR_load ?_ hld0 ?_); exact hd; exact rfl) | ((with_reducible refine Bl.goodR_load ?_ hld1 ?_); exact hd; exact rfl) | exact Bl.goodR_build1 tDig (by decide) hd (by simp [Hnl.out]) (Bl.rds_dig w1 41 dn Hnl.out)
                | (go_simp; first | (go_at_call 78; (with_reducible refine (HN.out _ hext).mono ?_); rintro e w2 ⟨rfl, hE2⟩; exact ⟨_, rfl, hE2, rfl⟩) | exact ⟨Below.refl _ _, rfl⟩)
            case hmono => exact ⟨Bl.mono_eqv _, Bl.mono_eqv _, Bl.mono_eqv _, Bl.mono_eqv _, Bl.mono_eqv _, Bl.mono_eqv _, Bl.mono_eqv _, Bl.mono_eqv _, (fun _ _ _ h k => Bl.Rds.ext h k), trivial⟩
            case hend =>
              intro u w1 hext hend
              simp only [Bl.EndE, List.getElem?_cons_succ, List.getElem?_cons_zero, Option.bind_some, List.getD_cons_succ, List.getD_cons_zero, Bl.eqv, true_and] at hend
              simp only [Bl.fillAct, List.setIfInBounds_toArray, List.set_cons_succ, List.set_cons_zero, List.drop_succ_cons, List.drop_zero, hend]
              have hrd := hend.2
              have HownA := Bl.hid (Bl.owns_ext Hown.out hext)
              have hszA := HKp.out.1
              have hszB : W.heap.size ≤ w1.heap.size := hext.size
              have hpl : pre.length ≤ 1048576 := by omega
              refine Bl.wpLI_app1 tDig HownA.out hrd rfl rfl (by rw [Bl.cellsD_one, Bl.ints_length, Hnl.out]) (Bl.cellsD_one' _) (by unfold maxLen; omega) (by omega) (by omega) ?_
              intro p6 c6 w6 hown6 hg6
              have hne6 : some wr.heap.size ≠ (Value.slice pu pre.length cu).ownBlock := fun e => by have := (HownA.out.lt _ e.symm).1; omega
              have hc6 : w6.cell? ⟨wr.heap.size, 0, none⟩ = some (.slice pu pre.length cu) := (hg6.cell_far ⟨wr.heap.size, 0, none⟩ (show wr.heap.size < _ by omega) hne6).trans (((Bl.bcell hext).1 _ 0 hgl).trans hcuW)
              have hf6 : w6.frozen? ⟨wr.heap.size, 0, none⟩ = false := (hg6.frozen_far ⟨wr.heap.size, 0, none⟩ (show wr.heap.size < _ by omega) hne6).trans (((Bl.bcell hext).2 _ 0 hgl).trans hfuW)
              rw [Hdn.out] at hown6
              have hpost := Bl.hid (Bl.up_post (f := fun x : Fin m => Bl.upD r x.val) (x := x) (by omega) HKp.out HBW.out hext hg6 HownA.out hown6 hcuW hfuW)
              clear hown6 hg6 hend hrd
              gi_wp2
              exact hpost.out
          · have hln : Bl.ln r.length x.val = 1 := if_neg hf
            have Hup : Hid (Bl.upD r x.val = r.getD (2 * x.val) []) := Bl.hid (if_neg hf)
            obtain ⟨d0, hd0e⟩ : ∃ d0, d0 = r.getD (2 * x.val) [] := ⟨_, rfl⟩
            rw [← hd0e] at HL0 Hup hd0
            have Hnl := Bl.hid hd0
            clear hd0 hb0 hd0e hrW hf
            simp only [hln]
            gi_wp2
            apply Bl.wpIn_region_ev 5 [31, 32, 33, 34, 35] [Bl.eqv _, Bl.eqv _, Bl.eqv _, Bl.eqv _, (fun v w' => Bl.Rds w' v 1 (Bl.cellsD [d0]))] (by kernel_rfl) (by kernel_rfl) (by kernel_rfl) (by kernel_rfl) (by kernel_rfl)
            case hsteps =>
              refine ⟨?_, ?_, ?_, ?_, ?_, trivial⟩
              all_goals
                intro ev w1 hext hb hd
                have e4 := hb 4 (by decide)
                have e5 := hb 5 (by decide)
                clear hb
                simp only [Array.getD_eq_getD_getElem?, List.getElem?_toArray, List.getElem?_cons_succ, List.getElem?_cons_zero, Option.getD_some] at e4 e5
                simp only [Bl.DepsE, List.getElem?_cons_succ, List.getElem?_cons_zero, Option.bind_some, List.getD_cons_succ, List.getD_cons_zero, Bl.eqv, and_true] at hd
                have hc := (Bl.bcell hext).1
                have hcu1 := (hc _ 0 hgl).trans hcuW
                have hld0 := HL0.out w1 hext
                simp only [Bl.Good, Region.wanted, if_true]
                first
                | ((with_reducible refine Bl.goodR_load ?_ hld0 ?_); exact hd; exact rfl) | exact Bl.goodR_build1 tDig (by decide) hd (by simp [Hnl.out]) (Bl.rds_dig w1 41 d0 Hnl.out)
                | (go_simp; first | exact ⟨Below.refl _ _, rfl⟩)
            case hmono => exact ⟨Bl.mono_eqv _, Bl.mono_eqv _, Bl.mono_eqv _, Bl.mono_eqv _, (fun _ _ _ h k => Bl.Rds.ext h k), trivial⟩
            case hend =>
              intro u w1 hext hend
              simp only [Bl.EndE, List.getElem?_cons_succ, List.getElem?_cons_zero, Option.bind_some, List.getD_cons_succ, List.getD_cons_zero, Bl.eqv, true_and] at hend
              simp only [Bl.fillAct, List.setIfInBounds_toArray, List.set_cons_succ, List.set_cons_zero, List.drop_succ_cons, List.drop_zero, hend]
              have hrd := hend.2
              have HownA := Bl.hid (Bl.owns_ext Hown.out hext)
              have hszA := HKp.out.1
              have hszB : W.heap.size ≤ w1.heap.size := hext.size
              have hpl : pre.length ≤ 1048576 := by omega
              refine Bl.wpLI_app1 tDig HownA.out hrd rfl rfl (by rw [Bl.cellsD_one, Bl.ints_length, Hnl.out]) (Bl.cellsD_one' _) (by unfold maxLen; omega) (by omega) (by omega) ?_
              intro p6 c6 w6 hown6 hg6
              have hne6 : some wr.heap.size ≠ (Value.slice pu pre.length cu).ownBlock := fun e => by have := (HownA.out.lt _ e.symm).1; omega
              have hc6 : w6.cell? ⟨wr.heap.size, 0, none⟩ = some (.slice pu pre.length cu) := (hg6.cell_far ⟨wr.heap.size, 0, none⟩ (show wr.heap.size < _ by omega) hne6).trans (((Bl.bcell hext).1 _ 0 hgl).trans hcuW)
              have hf6 : w6.frozen? ⟨wr.heap.size, 0, none⟩ = false := (hg6.frozen_far ⟨wr.heap.size, 0, none⟩ (show wr.heap.size < _ by omega) hne6).trans (((Bl.bcell hext).2 _ 0 hgl).trans hfuW)
              rw [← Hup.out] at hown6
              have hpost := Bl.hid (Bl.up_post (f := fun x : Fin m => Bl.upD r x.val) (x := x) (by omega) HKp.out HBW.out hext hg6 HownA.out hown6 hcuW hfuW)
              clear hown6 hg6 hend hrd
              gi_wp2
              exact hpost.out
        case hdone =>
          rintro D ys W hD rfl ⟨⟨pu, cu, hcuW, hfuW, hown⟩, hKp, hBW⟩ hK
          have hDl : D < W.heap.size := (Array.getElem?_eq_some_iff.1 hK).1
          have hrW : Bl.Ext wr W := hE5b.trans hBW
          rw [Bl.up_eq r m hm] at hown
          have hul := Bl.up_length Bl.ndD r
          have hfl : (List.finRange m).length = m := by simp
          have hN : (Bl.up Bl.ndD r).length = (List.finRange m).length := by rw [hul, hfl]; exact hm.symm
          have Hrel : Hid (0 < (Bl.up Bl.ndD r).length ∧ (Bl.up Bl.ndD r).length ≤ 1048576 ∧ Bl.Dig (Bl.up Bl.ndD r) ∧ Bl.overD (Bl.up Bl.ndD r) = Bl.overD ds ∧ Bl.RdD W (.slice pu (Bl.up Bl.ndD r).length cu) (Bl.up Bl.ndD r) ∧ Bl.Marks (w.heap.size + 1) W W.heap.size ({ target := .collected D, args := #[] } :: defs) ∧ Bl.Ext W0 W ∧ (Bl.up Bl.ndD r).length = (r.length + 1) / 2) := Bl.hid
            ⟨by omega, by omega, Bl.dig_up r Hrd.out, by rw [Bl.overD_up r hr1, Hov.out], by show Bl.Rds W (.slice pu (Bl.up Bl.ndD r).length cu) (Bl.up Bl.ndD r).length _; rw [hN]; exact Bl.Rds.of_owns hown,
              ⟨D, rfl, by omega, hDl, hK, Bl.Marks.mono _ (by omega) (Bl.Marks.keep _ _ (fun k _ hk _ => hrW.block k hk) HM.out)⟩, HE.out.trans hrW, hul⟩
          have hlt : (r.length + 1) / 2 < r.length := by omega
          clear hown hN hul hfl hKp hBW hK
          go_wp2_with fail
          refine ⟨⟨Bl.up Bl.ndD r, (r.length + 1) / 2, pu, cu, _, _, _, _, _, _, _, _, Hrel, rfl⟩, ?_⟩
          exact hlt
        case hstop =>
          rintro D c pre W _ _ h _
          exact h.elim
end Go.Proofs.YtglenbikdahgjaaDoor

/- Walk of baileeref12.Over. -/
namespace Go.Proofs.YtglenbikdahgjaaDoor
open Go.RowKit Go.Proofs

set_option maxRecDepth 100000 in
set_option maxHeartbeats 1000000 in
theorem refover_any : ∀ (n : Nat) (ds : List (List Int)) (v : Value) (w : World), ds.length = n → n ≤ 1048576 → Bl.Dig ds → Bl.RdD w v ds → GlobR w →
    Calls Tryd.prog 28 #[v] w fun e w' => e = .returned (.agg (Bl.ints .u8 (Bl.overD ds)).toArray) ∧ Bl.Ext w w' := by
  intro n
  induction n using Nat.strongRecOn with
  | _ n ih =>
    intro ds v w hn hmax hd hR hg
    have IH := Bl.hid ih
    have Hd := Bl.hid hd
    have Hg := Bl.hid hg
    have HF0 := Bl.hid (fam_new w 32 .u8 40 #[.int .u8 0, .int .u8 0, .int .u8 0, .int .u8 0, .int .u8 0, .int .u8 0, .int .u8 0, .int .u8 0, .int .u8 0, .int .u8 0, .int .u8 0, .int .u8 0, .int .u8 0, .int .u8 0, .int .u8 0, .int .u8 0, .int .u8 0, .int .u8 0, .int .u8 0, .int .u8 0, .int .u8 0, .int .u8 0, .int .u8 0, .int .u8 0, .int .u8 0, .int .u8 0, .int .u8 0, .int .u8 0, .int .u8 0, .int .u8 0, .int .u8 0, .int .u8 0] rfl)
    have HE0 := Bl.hid (Bl.ext_alloc w (.cells #[.int .u8 0, .int .u8 0, .int .u8 0, .int .u8 0, .int .u8 0, .int .u8 0, .int .u8 0, .int .u8 0, .int .u8 0, .int .u8 0, .int .u8 0, .int .u8 0, .int .u8 0, .int .u8 0, .int .u8 0, .int .u8 0, .int .u8 0, .int .u8 0, .int .u8 0, .int .u8 0, .int .u8 0, .int .u8 0, .int .u8 0, .int .u8 0, .int .u8 0, .int .u8 0, .int .u8 0, .int .u8 0, .int .u8 0, .int .u8 0, .int .u8 0, .int .u8 0] 40))
    clear ih hd hg
    by_cases h0 : n = 0
    · subst h0
      obtain rfl := List.length_eq_zero_iff.1 hn
      obtain ⟨p, c, rfl, _, _⟩ := hR.form
      clear hR hn hmax
      go_enter Tryd.func28, Tryd.ntmps28
      go_wp2_with fail
      obtain ⟨W0, hW0⟩ : ∃ W0, W0 = w.alloc (.cells #[.int .u8 0, .int .u8 0, .int .u8 0, .int .u8 0, .int .u8 0, .int .u8 0, .int .u8 0, .int .u8 0, .int .u8 0, .int .u8 0, .int .u8 0, .int .u8 0, .int .u8 0, .int .u8 0, .int .u8 0, .int .u8 0, .int .u8 0, .int .u8 0, .int .u8 0, .int .u8 0, .int .u8 0, .int .u8 0, .int .u8 0, .int .u8 0, .int .u8 0, .int .u8 0, .int .u8 0, .int .u8 0, .int .u8 0, .int .u8 0, .int .u8 0, .int .u8 0] 40) := ⟨_, rfl⟩
      rw [← hW0] at HF0 HE0 ⊢
      clear hW0
      refine (refof_any _ [] W0 (Bl.Rd.nil _ _) (Hg.out.ext HE0.out) Bl.Byt.nil (by decide)).mono ?_
      rintro e w1 ⟨rfl, hE1⟩
      have HE1 := Bl.hid hE1
      have hsh : Bl.sha [] = Bl.overD [] := rfl
      rw [hsh]
      obtain ⟨sh, hsh⟩ : ∃ sh, sh = Bl.overD [] := ⟨_, rfl⟩
      have Hshl : Hid (sh.length = 32) := Bl.hid (by rw [hsh]; rfl)
      have Hsh := Bl.hid hsh
      rw [← hsh]
      clear hE1 hsh
      have HFc := Bl.hid (HF0.out.below HE1.out (World.block_lt_of_cell? _ _ (HF0.out.1 0 (by decide))))
      have Hstc := Bl.hid (Bl.store_ints (P := Tryd.prog) (k := .u8) (ty := 40) (l := sh) HFc.out.there (by kernel_rfl) Hshl.out)
      go_wp2_with (((with_reducible refine Bl.wpL_store ?_ ?_ Hstc.out ?_); rfl; rfl))
      have hinc := World.rangeAt_setCells_same _ (w.heap.size) 0 (Bl.ints .u8 sh) (by rw [Bl.ints_length, Hshl.out]; exact HFc.out.there)
      have hldc := run_loadVar_mid (P := Tryd.prog) _ (w.heap.size) 0 40 (Bl.ints .u8 sh) _ hinc Tryd.underlying40 rfl (by rw [Bl.ints_length, Hshl.out]; kernel_rfl)
      refine bodyPost_ret (v := .agg (Bl.ints .u8 sh).toArray) (Bl.results_cell rfl rfl hldc) rfl ⟨by rw [Hsh.out], Bl.below_setCells _ _ _ _ (HE0.out.trans HE1.out) (Nat.le_refl _)⟩
    · obtain ⟨b, o, c, rfl, hc1, hc2, hbl, hr⟩ := Bl.RdD.pos hR Hd.out (by omega)
      have Hr := Bl.hid hr
      clear hR hr
      rw [hn] at hc1 ⊢
      have Hn := Bl.hid hn
      clear hn
      by_cases h1 : n = 1
      · subst h1
        obtain ⟨d, rfl⟩ : ∃ d, ds = [d] := by
          match ds, Hn.out with
          | [d], _ => exact ⟨d, rfl⟩
        obtain ⟨hdl, hdb⟩ := Hd.out d (by simp)
        have Hdl := Bl.hid hdl
        have Hrd : Hid (w.rangeAt b o (Bl.ints .u8 d)) := Bl.hid (by have := Hr.out; rw [Bl.cellsD_one] at this; exact this)
        clear hdl hdb
        go_enter Tryd.func28, Tryd.ntmps28
        go_wp2_with (with_reducible refine Bl.stop_load (ty := 40) ?_)
        refine Bl.go_on ?_
        obtain ⟨W0, hW0⟩ : ∃ W0, W0 = w.alloc (.cells #[.int .u8 0, .int .u8 0, .int .u8 0, .int .u8 0, .int .u8 0, .int .u8 0, .int .u8 0, .int .u8 0, .int .u8 0, .int .u8 0, .int .u8 0, .int .u8 0, .int .u8 0, .int .u8 0, .int .u8 0, .int .u8 0, .int .u8 0, .int .u8 0, .int .u8 0, .int .u8 0, .int .u8 0, .int .u8 0, .int .u8 0, .int .u8 0, .int .u8 0, .int .u8 0, .int .u8 0, .int .u8 0, .int .u8 0, .int .u8 0, .int .u8 0, .int .u8 0] 40) := ⟨_, rfl⟩
        rw [← hW0] at HF0 HE0 ⊢
        clear hW0
        refine Bl.wpL_load rfl (Bl.load_ints (Bl.rangeAt_ext Hrd.out HE0.out) Tryd.underlying40 (by kernel_rfl) Hdl.out) ?_
        have HE1 := Bl.hid (Below.refl W0.heap.size W0)
        have Hov : Hid (Bl.overD [d] = d) := Bl.hid (Bl.over_one _ _ d)
        have HFc := Bl.hid (HF0.out.below HE1.out (World.block_lt_of_cell? _ _ (HF0.out.1 0 (by decide))))
        have Hstc := Bl.hid (Bl.store_ints (P := Tryd.prog) (k := .u8) (ty := 40) (l := d) HFc.out.there (by kernel_rfl) Hdl.out)
        go_wp2_with (((with_reducible refine Bl.wpL_store ?_ ?_ Hstc.out ?_); rfl; rfl))
        have hinc := World.rangeAt_setCells_same _ (w.heap.size) 0 (Bl.ints .u8 d) (by rw [Bl.ints_length, Hdl.out]; exact HFc.out.there)
        have hldc := run_loadVar_mid (P := Tryd.prog) _ (w.heap.size) 0 40 (Bl.ints .u8 d) _ hinc Tryd.underlying40 rfl (by rw [Bl.ints_length, Hdl.out]; kernel_rfl)
        refine bodyPost_ret (v := .agg (Bl.ints .u8 d).toArray) (Bl.results_cell rfl rfl hldc) rfl ⟨by rw [Hov.out], Bl.below_setCells _ _ _ _ HE0.out (Nat.le_refl _)⟩
      · obtain ⟨s1, s2, s3⟩ := Bl.sp_bounds n (by omega) (by omega)
        have hov : Bl.overD ds = Bl.ndD (Bl.overD (ds.take (Bl.sp n))) (Bl.overD (ds.drop (Bl.sp n))) := by
          unfold Bl.overD
          rw [Bl.over_hi _ _ ds (by rw [Hn.out]; omega) (by rw [Hn.out]; omega), Hn.out]
        obtain ⟨k, hk⟩ : ∃ k, k = Bl.sp n := ⟨_, rfl⟩
        rw [← hk] at s1 s2 s3 hov
        have Hk := Bl.hid hk
        have Hov := Bl.hid hov
        have hkn : (k : Int) < (n : Int) := by omega
        have hnc : (n : Int) ≤ (c : Int) := by omega
        have hl0 : ((n : Int) == 0) = false := by simp; omega
        have hl1 : ((n : Int) == 1) = false := by simp; omega
        clear hk hov
        unfold maxLen at hc2
        go_enter Tryd.func28, Tryd.ntmps28
        go_wp2_with fail
        obtain ⟨W0, hW0⟩ : ∃ W0, W0 = w.alloc (.cells #[.int .u8 0, .int .u8 0, .int .u8 0, .int .u8 0, .int .u8 0, .int .u8 0, .int .u8 0, .int .u8 0, .int .u8 0, .int .u8 0, .int .u8 0, .int .u8 0, .int .u8 0, .int .u8 0, .int .u8 0, .int .u8 0, .int .u8 0, .int .u8 0, .int .u8 0, .int .u8 0, .int .u8 0, .int .u8 0, .int .u8 0, .int .u8 0, .int .u8 0, .int .u8 0, .int .u8 0, .int .u8 0, .int .u8 0, .int .u8 0, .int .u8 0, .int .u8 0] 40) := ⟨_, rfl⟩
        rw [← hW0] at HF0 HE0 ⊢
        clear hW0
        refine (refsplit_any _ W0 (by omega) (by omega)).mono ?_
        rintro e w1 ⟨rfl, rfl⟩
        rw [Int.toNat_natCast, ← Hk.out]
        have HL : Hid (∀ w1, Bl.Ext W0 w1 → Calls Tryd.prog 28 #[.slice (some ⟨b, o, none⟩) k c] w1 fun e w' => e = .returned (.agg (Bl.ints .u8 (Bl.overD (ds.take k))).toArray) ∧ Bl.Ext w1 w') := Bl.hid fun w1 h1 => by
          refine IH.out k (by omega) (ds.take k) _ w1 (by rw [List.length_take, Hn.out]; omega) (by omega) (Hd.out.take k) ?_ (Hg.out.ext (HE0.out.trans h1))
          refine .inr ⟨b, o, c, ?_, ?_, by unfold maxLen; omega, ?_⟩
          · rw [List.length_take, Hn.out, Nat.min_eq_left (by omega)]
          · rw [List.length_take, Hn.out]; omega
          · have := Bl.rangeD_sub (Bl.rangeAt_ext Hr.out (HE0.out.trans h1)) Hd.out 0 k
            simpa using this
        have HRt : Hid (∀ w1, Bl.Ext W0 w1 → Calls Tryd.prog 28 #[.slice (some ⟨b, o + k * 32, none⟩) (n - k) (c - k)] w1 fun e w' => e = .returned (.agg (Bl.ints .u8 (Bl.overD (ds.drop k))).toArray) ∧ Bl.Ext w1 w') := Bl.hid fun w1 h1 => by
          refine IH.out (n - k) (by omega) (ds.drop k) _ w1 (by rw [List.length_drop, Hn.out]) (by omega) (Hd.out.drop k) ?_ (Hg.out.ext (HE0.out.trans h1))
          refine .inr ⟨b, o + k * 32, c - k, by rw [List.length_drop, Hn.out], by rw [List.length_drop, Hn.out]; omega, by unfold maxLen; omega, ?_⟩
          have := Bl.rangeD_sub (Bl.rangeAt_ext Hr.out (HE0.out.trans h1)) Hd.out k (ds.drop k).length
          rwa [List.take_length] at this
        obtain ⟨hll, hlb⟩ := Bl.overD_dig k (ds.take k) (by rw [List.length_take, Hn.out]; omega) (Hd.out.take k) (by rw [List.length_take, Hn.out]; omega)
        obtain ⟨hrl, hrb⟩ := Bl.overD_dig (n - k) (ds.drop k) (by rw [List.length_drop, Hn.out]) (Hd.out.drop k) (by rw [List.length_drop, Hn.out]; omega)
        have HN : Hid (∀ w1, Bl.Ext W0 w1 → Calls Tryd.prog 50 #[.agg (Bl.ints .u8 (Bl.overD (ds.take k))).toArray, .agg (Bl.ints .u8 (Bl.overD (ds.drop k))).toArray] w1 fun e w' => e = .returned (.agg (Bl.ints .u8 (Bl.overD ds)).toArray) ∧ Bl.Ext w1 w') := Bl.hid fun w1 h1 => by
          rw [Hov.out]; exact refnode_any _ _ w1 hll hrl hlb hrb (Hg.out.ext (HE0.out.trans h1))
        obtain ⟨hol, hob⟩ := Bl.overD_dig n ds Hn.out Hd.out (by rw [Hn.out]; omega)
        have Hol := Bl.hid hol
        clear hll hlb hrl hrb hol hob
        have hkc : ¬ (k = c) := by omega
        have hk0 : (0 : Int) ≤ (k : Int) := by omega
        have hkn' : (k : Int) ≤ (n : Int) := by omega
        have hkc' : (k : Int) ≤ (c : Int) := by omega
        go_wp2_with fail
        apply Bl.wp_region_ev 9 [17, 18, 19, 20, 21, 22, 23, 24, 25] [Bl.eqv _, Bl.eqv _, Bl.eqv _, Bl.eqv _, Bl.eqv _, Bl.eqv _, Bl.eqv (.slice (some ⟨b, o + k * 32, none⟩) (n - k) (c - k)), Bl.eqv _, Bl.eqv _] (by kernel_rfl) (by kernel_rfl) (by kernel_rfl) (by kernel_rfl)
        case hsteps =>
          refine ⟨?_, ?_, ?_, ?_, ?_, ?_, ?_, ?_, ?_, trivial⟩
          all_goals
            intro ev w1 hext hb hd
            have e0 := hb 0 (by decide)
            have e3 := hb 3 (by decide)
            clear hb
            simp only [Array.getD_eq_getD_getElem?, List.getElem?_toArray, List.getElem?_cons_succ, List.getElem?_cons_zero, Option.getD_some] at e0 e3
            simp only [Bl.DepsE, List.getElem?_cons_succ, List.getElem?_cons_zero, Option.bind_some, List.getD_cons_succ, List.getD_cons_zero, Bl.eqv, and_true] at hd
            have hc := (Bl.bcell hext).1
            simp only [Bl.Good, Region.wanted, if_true]
            go_simp
            first | (go_at_call 28; (with_reducible refine (HL.out _ hext).mono ?_); rintro e w2 ⟨rfl, hE2⟩; exact ⟨_, rfl, hE2, rfl⟩) | (go_at_call 28; (with_reducible refine (HRt.out _ hext).mono ?_); rintro e w2 ⟨rfl, hE2⟩; exact ⟨_, rfl, hE2, rfl⟩) | (go_at_call 50; (with_reducible refine (HN.out _ hext).mono ?_); rintro e w2 ⟨rfl, hE2⟩; exact ⟨_, rfl, hE2, rfl⟩) | exact ⟨Below.refl _ _, by rw [if_neg (by omega)]; rfl⟩ | exact ⟨Below.refl _ _, rfl⟩
        case hmono => exact ⟨Bl.mono_eqv _, Bl.mono_eqv _, Bl.mono_eqv _, Bl.mono_eqv _, Bl.mono_eqv _, Bl.mono_eqv _, (Bl.mono_eqv _), Bl.mono_eqv _, Bl.mono_eqv _, trivial⟩
        case hend =>
          intro u w1 hext hend
          simp only [Bl.EndE, List.getElem?_cons_succ, List.getElem?_cons_zero, Option.bind_some, List.getD_cons_succ, List.getD_cons_zero, Bl.eqv, true_and] at hend
          simp only [Bl.fillAct, List.setIfInBounds_toArray, List.set_cons_succ, List.set_cons_zero, List.drop_succ_cons, List.drop_zero, hend]
          have HE1 := Bl.hid hext
          obtain ⟨sh, hsh⟩ : ∃ sh, sh = Bl.overD ds := ⟨_, rfl⟩
          rw [← hsh] at Hol ⊢
          have Hsh := Bl.hid hsh
          clear hext hend hsh
          have HFc := Bl.hid (HF0.out.below HE1.out (World.block_lt_of_cell? _ _ (HF0.out.1 0 (by decide))))
          have Hstc := Bl.hid (Bl.store_ints (P := Tryd.prog) (k := .u8) (ty := 40) (l := sh) HFc.out.there (by kernel_rfl) Hol.out)
          go_wp2_with (((with_reducible refine Bl.wpL_store ?_ ?_ Hstc.out ?_); rfl; rfl))
          have hinc := World.rangeAt_setCells_same _ (w.heap.size) 0 (Bl.ints .u8 sh) (by rw [Bl.ints_length, Hol.out]; exact HFc.out.there)
          have hldc := run_loadVar_mid (P := Tryd.prog) _ (w.heap.size) 0 40 (Bl.ints .u8 sh) _ hinc Tryd.underlying40 rfl (by rw [Bl.ints_length, Hol.out]; kernel_rfl)
          refine bodyPost_ret (v := .agg (Bl.ints .u8 sh).toArray) (Bl.results_cell rfl rfl hldc) rfl ⟨by rw [Hsh.out], Bl.below_setCells _ _ _ _ (HE0.out.trans HE1.out) (Nat.le_refl _)⟩
end Go.Proofs.YtglenbikdahgjaaDoor

/- Walks of tree.Root, baileeref12.Root, baileelaw12.Long. -/
namespace Go.Proofs.YtglenbikdahgjaaDoor
open Go.RowKit Go.Proofs

end Go.Proofs.YtglenbikdahgjaaDoor

/- Walk of baileeref12.Root. -/
namespace Go.Proofs.YtglenbikdahgjaaDoor
open Go.RowKit Go.Proofs

set_option maxRecDepth 100000 in
set_option maxHeartbeats 400000 in
theorem refroot_any (v : Value) (ps : List (List Int)) (w : World) (hR : Bl.Rdss w v ps) (hg : GlobR w) (hby : ∀ p ∈ ps, Bl.Byt p) (hlp : ∀ p ∈ ps, p.length ≤ 1099511627000) (hn : ps.length ≤ 1048576) :
    Calls Tryd.prog 12 #[v] w fun e w' => e = .returned (.agg (Bl.ints .u8 (Bl.rootD ps)).toArray) ∧ Bl.Ext w w' := by
  have HR := Bl.hid hR
  have Hg := Bl.hid hg
  have Hby := Bl.hid hby
  have Hlp := Bl.hid hlp
  have Hn := Bl.hid hn
  have HF0 := Bl.hid (fam_new w 32 .u8 40 #[.int .u8 0, .int .u8 0, .int .u8 0, .int .u8 0, .int .u8 0, .int .u8 0, .int .u8 0, .int .u8 0, .int .u8 0, .int .u8 0, .int .u8 0, .int .u8 0, .int .u8 0, .int .u8 0, .int .u8 0, .int .u8 0, .int .u8 0, .int .u8 0, .int .u8 0, .int .u8 0, .int .u8 0, .int .u8 0, .int .u8 0, .int .u8 0, .int .u8 0, .int .u8 0, .int .u8 0, .int .u8 0, .int .u8 0, .int .u8 0, .int .u8 0, .int .u8 0] rfl)
  have HE0 := Bl.hid (Bl.ext_alloc w (.cells #[.int .u8 0, .int .u8 0, .int .u8 0, .int .u8 0, .int .u8 0, .int .u8 0, .int .u8 0, .int .u8 0, .int .u8 0, .int .u8 0, .int .u8 0, .int .u8 0, .int .u8 0, .int .u8 0, .int .u8 0, .int .u8 0, .int .u8 0, .int .u8 0, .int .u8 0, .int .u8 0, .int .u8 0, .int .u8 0, .int .u8 0, .int .u8 0, .int .u8 0, .int .u8 0, .int .u8 0, .int .u8 0, .int .u8 0, .int .u8 0, .int .u8 0, .int .u8 0] 40))
  clear hR hg hby hlp hn
  go_enter Tryd.func12, Tryd.ntmps12
  go_wp2_with fail
  obtain ⟨W0, hW0⟩ : ∃ W0, W0 = w.alloc (.cells #[.int .u8 0, .int .u8 0, .int .u8 0, .int .u8 0, .int .u8 0, .int .u8 0, .int .u8 0, .int .u8 0, .int .u8 0, .int .u8 0, .int .u8 0, .int .u8 0, .int .u8 0, .int .u8 0, .int .u8 0, .int .u8 0, .int .u8 0, .int .u8 0, .int .u8 0, .int .u8 0, .int .u8 0, .int .u8 0, .int .u8 0, .int .u8 0, .int .u8 0, .int .u8 0, .int .u8 0, .int .u8 0, .int .u8 0, .int .u8 0, .int .u8 0, .int .u8 0] 40) := ⟨_, rfl⟩
  rw [← hW0] at HF0 HE0 ⊢
  clear hW0
  refine (refleaves_any v ps W0 (Bl.Rdss.ext HR.out HE0.out) (Hg.out.ext HE0.out) Hby.out Hlp.out Hn.out).mono ?_
  rintro e w1 ⟨p, c, rfl, hown, hE1⟩
  have HL : Hid (Bl.RdD w1 (.slice p ps.length c) (ps.map Bl.lfD)) := Bl.hid (by show Bl.Rds w1 _ (ps.map Bl.lfD).length _; rw [List.length_map]; exact Bl.Rds.of_owns hown)
  have HE1 := Bl.hid hE1
  clear hown hE1
  go_wp2_with fail
  refine (refover_any ps.length (ps.map Bl.lfD) _ w1 (by rw [List.length_map]) Hn.out (Bl.dig_leaves ps) HL.out (Hg.out.ext (HE0.out.trans HE1.out))).mono ?_
  rintro e w2 ⟨rfl, hE2⟩
  obtain ⟨sh, hsh⟩ : ∃ sh, sh = Bl.overD (ps.map Bl.lfD) := ⟨_, rfl⟩
  have Hshl : Hid (sh.length = 32) := Bl.hid (by rw [hsh]; exact Bl.rootD_length ps Hn.out)
  have Hsh : Hid (sh = Bl.rootD ps) := Bl.hid hsh
  have HE2 := Bl.hid (HE1.out.trans hE2)
  rw [← hsh]
  clear hsh hE2
  have HFc := Bl.hid (HF0.out.below HE2.out (World.block_lt_of_cell? _ _ (HF0.out.1 0 (by decide))))
  have Hstc := Bl.hid (Bl.store_ints (P := Tryd.prog) (k := .u8) (ty := 40) (l := sh) HFc.out.there (by kernel_rfl) Hshl.out)
  go_wp2_with (((with_reducible refine Bl.wpL_store ?_ ?_ Hstc.out ?_); rfl; rfl))
  have hinc := World.rangeAt_setCells_same _ (w.heap.size) 0 (Bl.ints .u8 sh) (by rw [Bl.ints_length, Hshl.out]; exact HFc.out.there)
  have hldc := run_loadVar_mid (P := Tryd.prog) _ (w.heap.size) 0 40 (Bl.ints .u8 sh) _ hinc Tryd.underlying40 rfl (by rw [Bl.ints_length, Hshl.out]; kernel_rfl)
  refine bodyPost_ret (v := .agg (Bl.ints .u8 sh).toArray) (Bl.results_cell rfl rfl hldc) rfl ⟨by rw [Hsh.out], Bl.below_setCells _ _ _ _ (HE0.out.trans HE2.out) (Nat.le_refl _)⟩
end Go.Proofs.YtglenbikdahgjaaDoor

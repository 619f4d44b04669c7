/- Texts that stood apart, in one: ConB, WTree1, GlobR, WRef1, WTree2. -/
import Derived.Test.YtmfooocdnoflaaaDoorBA1
import Derived.Test.YtmfooocdnoflaaaDoorLib0
import Derived.Lib.AppendZerosOnto
import Derived.Test.YtmfooocdnoflaaaDoorShaQ
import Derived.Test.YtmfooocdnoflaaaDoorShaB
import Derived.Test.YtmfooocdnoflaaaDoorShaA
import Derived.Laws.IdiomCopy
import Derived.Test.YtmfooocdnoflaaaDoorPla0
/- Walks of slices.Grow and slices.Concat over bytes. -/
namespace Go.Proofs.YtmfooocdnoflaaaDoor
open Go.RowKit Go.Proofs

set_option maxRecDepth 100000 in
set_option maxHeartbeats 400000 in
theorem growB_nil (n : Nat) (w : World) (h0 : 0 < n) (hn : n ≤ 1099511627776) :
    Calls Tryd.prog 87 #[.slice none 0 0, .int .i64 n] w fun e w' => ∃ c, e = .returned (.slice (some ⟨w.heap.size, 0, none⟩) 0 c) ∧ w'.ownsRow w.heap.size 5 1 (.slice (some ⟨w.heap.size, 0, none⟩) 0 c) 0 [] ∧ Bl.Ext w w' := by
  obtain ⟨i, hi, hz, hs1, hb1⟩ := info_parts tBytes.info
  have hrz : ∀ ty, (Builtin.append_ #[80, 3] ty #[.slice none 0 0, .int .i64 (n : Int)]).run Tryd.prog w =
      .ok (.slice (some ⟨w.heap.size, 0, none⟩) n (grownCap w (0 + n) 0 5)) (w.drew.alloc (.cells (([] : List Value).toArray ++ Builtin.zeroCells (Value.int .u8 0).cells n ++ Builtin.zeroCells (Value.int .u8 0).cells (grownCap w (0 + n) 0 5 - (0 + n))) 5)) := fun ty => by
    have h := Lib.run_append_grow_zeros w 80 3 ty 5 i (.int .u8 0) .i64 .i64 Tryd.underlying80 Tryd.underlying3 hi hz none 0 0 [] (run_firstCells_none w.drew i.size 0 0 0) n h0 (by omega) (by omega) (by omega) (by rw [hb1]; omega)
      (growslice_fits (by omega) (by rw [hb1]; omega))
    rw [Nat.zero_add] at h ⊢
    exact h
  have hge : 0 + n ≤ grownCap w (0 + n) 0 5 := grownCap_ge w _ _ _
  have hcm : grownCap w (0 + n) 0 5 ≤ maxLen := grownCap_le_maxLen w (0 + n) 0 _ (by unfold maxLen; omega)
  obtain ⟨G, hG⟩ : ∃ G, G = grownCap w (0 + n) 0 5 := ⟨_, rfl⟩
  rw [← hG] at hrz hge hcm
  have hsz : (([] : List Value).toArray ++ Builtin.zeroCells (Value.int .u8 0).cells n ++ Builtin.zeroCells (Value.int .u8 0).cells (G - (0 + n))).size = G * 1 := by
    simp only [Array.size_append, size_zeroCells, Value.cells, List.size_toArray, List.length_nil, List.length_cons]; omega
  obtain ⟨cs, hcs⟩ : ∃ cs, cs = ([] : List Value).toArray ++ Builtin.zeroCells (Value.int .u8 0).cells n ++ Builtin.zeroCells (Value.int .u8 0).cells (G - (0 + n)) := ⟨_, rfl⟩
  rw [← hcs] at hrz hsz
  have hown := World.ownsRow_made (w := w.drew) (base := w.heap.size) (e := 5) (size := 1) cs G (Nat.le_refl _) hcm hsz
  have Hown := Bl.hid hown
  unfold maxLen at hcm
  clear hcs hG hsz hown hi hz hs1 hb1
  go_enter Tryd.func87, Tryd.ntmps87
  go_wp2_with (with_reducible refine Bl.stop_append ?_)
  refine Bl.go_on ?_
  refine Bl.wpL_appr hrz rfl rfl ?_
  clear hrz
  go_wp2
  go_ret
  exact ⟨G, rfl, Hown.out, ((Below.refl _ _).drew).alloc (Nat.le_refl _) _⟩
set_option maxRecDepth 100000 in
set_option maxHeartbeats 400000 in
/-- slices.Concat of bytes: a row of the call's own -/
theorem concB_own (v : Value) (ps : List (List Int)) (w : World) (hR : Bl.Rdss w v ps) (h0 : 0 < ps.flatten.length) (hlen : ps.flatten.length ≤ 1099511627776) :
    Calls Tryd.prog 83 #[v] w fun e w' => ∃ v', e = .returned v' ∧ w'.ownsRow w.heap.size 5 1 v' ps.flatten.length (Bl.ints .u8 ps.flatten) ∧ Bl.Ext w w' := by
  obtain ⟨vs, hv, hvl, hvs⟩ := hR
  obtain ⟨p, c, hvf, hvn, hvc⟩ := hv.form
  subst hvf
  have Hv := Bl.hid hv
  have Hvs := Bl.hid hvs
  have Hvl := Bl.hid hvl
  obtain ⟨T, hT⟩ : ∃ T, T = ps.flatten.length := ⟨_, rfl⟩
  rw [← hT] at h0 hlen
  have HT := Bl.hid hT
  clear hv hvs hT hvl
  have hpl : ps.length ≤ 9223372036854775807 := by unfold maxLen at hvc; omega
  go_enter Tryd.func83, Tryd.ntmps83
  go_wp2_with fail
  go_loop [3, 11] (fun s i => ∃ k N : Nat, k ≤ ps.length ∧ i = .int .i64 k ∧ s = .int .i64 N ∧ Hid (N = (ps.take k).flatten.length) ∧ N ≤ T) (fun _ i => ps.length - (intOf i).toNat)
  case atStart => exact ⟨0, 0, Nat.zero_le _, rfl, rfl, rfl, Nat.zero_le _⟩
  case round =>
    obtain ⟨k, N, hk, rfl, rfl, HN, hNT⟩ := hrel
    by_cases hlt : k < ps.length
    · obtain ⟨b, o, hpe, hbl, hcell0⟩ : ∃ b o, p = some ⟨b, o, none⟩ ∧ b < w.heap.size ∧ w.cell? ⟨b, o + k, none⟩ = some (vs.getD k undef) := by
        rcases Hv.out with ⟨h1, h2, h3⟩ | ⟨b, o, c', h1, h2, h3, h4⟩
        · omega
        · cases h1
          refine ⟨b, o, rfl, Bl.rangeAt_lt h4 (fun q => by have := Hvl.out; rw [q] at this; simp at this; omega), h4 k _ ?_⟩
          rw [List.getD_eq_getElem?_getD, List.getElem?_eq_getElem (by rw [Hvl.out]; exact hlt)]; rfl
      subst hpe
      have hft := Bl.flat_take ps k hlt
      have hRk := Hvs.out k hlt
      obtain ⟨bs, hbs⟩ : ∃ bs, bs = ps.getD k [] := ⟨_, rfl⟩
      rw [← hbs] at hft hRk
      obtain ⟨pk, ck, hfk, hnk, hck⟩ := hRk.form
      rw [hfk] at hcell0
      have hN1 : Hid (N + bs.length = (ps.take (k + 1)).flatten.length) := by
        show _ = _
        rw [hft, List.length_append, HN.out]
      have hle : N + bs.length ≤ T := by rw [hN1.out, HT.out]; exact Bl.flat_len ps (k + 1)
      clear hft hRk hfk hbs
      have hneg : decide ((N : Int) + (bs.length : Int) < 0) = false := decide_eq_false (by omega)
      go_wp2_with fail
      go_round
      case rel => exact ⟨k + 1, N + bs.length, by omega, by go_num, by go_num, hN1.out, hle⟩
      case measure => simp [intOf]; omega
    · obtain rfl : k = ps.length := by omega
      obtain rfl : N = T := by rw [HN.out, HT.out, List.take_length]
      clear HN hNT
      go_wp2_with fail
      refine (growB_nil N w h0 hlen).mono ?_
      rintro e w1 ⟨c1, rfl, hown1, hE1⟩
      obtain ⟨B, hB⟩ : ∃ B, B = w.heap.size := ⟨_, rfl⟩
      rw [← hB] at hown1 ⊢
      have HB := Bl.hid hB
      have Hown1 := Bl.hid hown1
      have HE1 := Bl.hid hE1
      clear hown1 hE1 hB
      go_wp2_with fail
      go_loopw [6, 27] (fun s i wr => ∃ (k M : Nat) (p1 : Option Addr) (c1 : Nat), k ≤ ps.length ∧ i = .int .i64 k ∧ s = .slice p1 M c1 ∧ Hid (M = (ps.take k).flatten.length) ∧ M ≤ N ∧ wr.ownsRow B 5 1 (.slice p1 M c1) M (Bl.ints .u8 (ps.take k).flatten) ∧ Bl.Ext w wr) (fun _ i _ => ps.length - (intOf i).toNat)
      case atStart => exact ⟨0, 0, _, c1, Nat.zero_le _, rfl, rfl, rfl, Nat.zero_le _, Hown1.out, HE1.out⟩
      case round =>
        obtain ⟨k, M, p1, c1, hk, rfl, rfl, HM, hMN, hown, hE⟩ := hrel
        have Hown := Bl.hid hown
        have HE := Bl.hid hE
        clear hown hE Hown1 HE1
        by_cases hlt2 : k < ps.length
        · obtain ⟨b, o, hpe, hbl, hcell0⟩ : ∃ b o, p = some ⟨b, o, none⟩ ∧ b < wr.heap.size ∧ wr.cell? ⟨b, o + k, none⟩ = some (vs.getD k undef) := by
            rcases Hv.out.ext HE.out with ⟨h1, h2, h3⟩ | ⟨b, o, c', h1, h2, h3, h4⟩
            · omega
            · cases h1
              refine ⟨b, o, rfl, Bl.rangeAt_lt h4 (fun q => by have := Hvl.out; rw [q] at this; simp at this; omega), h4 k _ ?_⟩
              rw [List.getD_eq_getElem?_getD, List.getElem?_eq_getElem (by rw [Hvl.out]; exact hlt2)]; rfl
          subst hpe
          have hft := Bl.flat_take ps k hlt2
          have hRk := Hvs.out k hlt2
          obtain ⟨bs, hbs⟩ : ∃ bs, bs = ps.getD k [] := ⟨_, rfl⟩
          rw [← hbs] at hft hRk
          obtain ⟨pk, ck, hfk, hnk, hck⟩ := hRk.form
          rw [hfk] at hcell0 hRk
          have hRk2 := hRk.ext HE.out
          have HRk := Bl.hid hRk2
          have hN1 : Hid (M + bs.length = (ps.take (k + 1)).flatten.length) := by
            show _ = _
            rw [hft, List.length_append, HM.out]
          have hle : M + bs.length ≤ N := by rw [hN1.out, HT.out]; exact Bl.flat_len ps (k + 1)
          have Hft := Bl.hid hft
          clear hft hRk hRk2 hfk hbs
          go_wp2_with (with_reducible refine Bl.stop_append ?_)
          refine Bl.go_on ?_
          refine Bl.wpL_app tBytes Hown.out HRk.out rfl rfl (by simp) (Bl.ints_one _ _) (by unfold maxLen; omega) (by omega) (by rw [HB.out]; exact HE.out.size) ?_
          intro q3 d3 w2 hown2 hg2 hB2 hK2 hn2 hc2
          have Hown2 := Bl.hid hown2
          have HE2 : Hid (Bl.Ext w w2) := Bl.hid (Below.trans HE.out (by rw [HB.out] at hB2; exact hB2))
          clear hown2 hg2 hB2 hK2
          go_wp2_with fail
          go_roundw
          case rel =>
            refine ⟨k + 1, M + bs.length, q3, d3, by omega, by go_num, rfl, hN1.out, hle, ?_, HE2.out⟩
            rw [Hft.out, Bl.ints_append]
            exact Hown2.out
          case measure => simp [intOf]; omega
        · obtain rfl : k = ps.length := by omega
          go_wp2_with fail
          go_ret
          have h := Hown.out
          have hM := HM.out
          rw [List.take_length] at h hM
          rw [hM] at h ⊢
          exact ⟨_, rfl, by rw [← HB.out]; exact h, HE.out⟩
/-- slices.Concat of bytes -/
theorem concB_any (v : Value) (ps : List (List Int)) (w : World) (hR : Bl.Rdss w v ps) (h0 : 0 < ps.flatten.length) (hlen : ps.flatten.length ≤ 1099511627776) :
    Calls Tryd.prog 83 #[v] w fun e w' => ∃ v', e = .returned v' ∧ Bl.Rd w' .u8 v' ps.flatten ∧ Bl.Ext w w' :=
  (concB_own v ps w hR h0 hlen).mono fun _ _ ⟨v', h1, h2, h3⟩ => ⟨v', h1, Bl.Rds.of_owns h2, h3⟩
end Go.Proofs.YtmfooocdnoflaaaDoor

/- Walks of slices.Grow, slices.Concat, tree.Outer, Inner, Leaf, Node, baileeref12.Leaf. -/
namespace Go.Proofs.YtmfooocdnoflaaaDoor
open Go.RowKit Go.Proofs

set_option maxRecDepth 100000 in
theorem outer_own (v : Value) (l : List Int) (w : World) (hR : Bl.Rd w .u8 v l) (hlen : l.length ≤ 1099511627000) :
    Calls Tryd.prog 56 #[v] w fun e w' => ∃ v', e = .returned v' ∧ w'.ownsRow w.heap.size 5 1 v' (l.length + 1) (Bl.ints .u8 (0 :: l)) ∧ Bl.Ext w w' := by
  obtain ⟨p, c, hvf, hvn, hvc⟩ := hR.form
  subst hvf
  have Hv := Bl.hid (hR.ext (Bl.ext_alloc w (.cells #[.int .u8 0] 5)))
  have Hown := Bl.hid (Bl.owns_new w 5 #[.int .u8 0] w.heap.size 1 1 (Nat.le_refl _) (by decide) rfl)
  clear hR
  go_enter Tryd.func56, Tryd.ntmps56
  go_wp2_with (with_reducible refine Bl.stop_append ?_)
  refine Bl.go_on ?_
  refine Bl.wpL_app tBytes Hown.out Hv.out rfl rfl (by simp) (Bl.ints_one _ _) (by unfold maxLen; omega) (by omega) (by simp) ?_
  intro q d w2 hown2 hg2 hB2 hK2 hn2 hc2
  have Hown2 := Bl.hid hown2
  have HE2 : Hid (Bl.Ext w w2) := Bl.hid (Below.trans (Bl.ext_alloc w _) hB2)
  clear hown2 hg2 hB2 hK2
  go_wp2_with fail
  go_ret
  refine ⟨_, rfl, ?_, HE2.out⟩
  have h := Hown2.out
  rw [Nat.add_comm l.length 1]; exact h
theorem outer_any (v : Value) (l : List Int) (w : World) (hR : Bl.Rd w .u8 v l) (hlen : l.length ≤ 1099511627000) :
    Calls Tryd.prog 56 #[v] w fun e w' => ∃ v', e = .returned v' ∧ Bl.Rd w' .u8 v' (0 :: l) ∧ Bl.Ext w w' :=
  (outer_own v l w hR hlen).mono fun _ _ ⟨v', h1, h2, h3⟩ => ⟨v', h1, Bl.Rds.of_owns h2, h3⟩
end Go.Proofs.YtmfooocdnoflaaaDoor

/- What the tables of package sha and of the reference hold. -/
namespace Go.Proofs.YtmfooocdnoflaaaDoor
open Go.RowKit Go.Proofs
/-- the tables of package sha and of the reference -/
structure GlobR (w : World) : Prop where
  s : Glob w
  radded : ∀ i, i < 64 → w.cell? ⟨21, i, none⟩ = some (.int .u32 (Bl.kt.getD i 0))
  rbegins : ∀ i, i < 8 → w.cell? ⟨20, i, none⟩ = some (.int .u32 (Bl.iv.getD i 0))
theorem GlobR.ext {w w' : World} (h : GlobR w) (hb : Bl.Ext w w') : GlobR w' := by
  have l3 := World.block_lt_of_cell? w _ (h.radded 0 (by decide))
  have l4 := World.block_lt_of_cell? w _ (h.rbegins 0 (by decide))
  exact ⟨h.s.ext hb, fun i hi => ((Bl.bcell hb).1 _ _ l3).trans (h.radded i hi), fun i hi => ((Bl.bcell hb).1 _ _ l4).trans (h.rbegins i hi)⟩
instance globR_coe (w : World) : Coe (GlobR w) (Glob w) := ⟨GlobR.s⟩
end Go.Proofs.YtmfooocdnoflaaaDoor

/- Walk of baileeref07.turn and baileeref07.Of. -/
namespace Go.Proofs.YtmfooocdnoflaaaDoor
open Go.RowKit Go.Proofs

theorem turn_any (n : Nat) (x : Int) (w : World) (h : n ≤ 32) :
    Calls Tryd.prog 76 #[.int .u32 x, .int .u64 n] w fun e w' => e = .returned (.int .u32 (Bl.ror n x)) ∧ w = w' := by
  have e1 : ((32 : Int) - (n : Int)).toNat = 32 - n := by omega
  go_enter Tryd.func76, Tryd.ntmps76
  go_wp2
  go_ret
  refine ⟨?_, rfl⟩
  unfold Bl.ror
  rw [Bl.bits_or_comm]
  rfl

set_option maxRecDepth 100000 in
set_option maxHeartbeats 1000000 in
theorem refof_any (v : Value) (l : List Int) (w : World) (hR : Bl.Rd w .u8 v l) (hg : GlobR w) (hby : Bl.Byt l) (hlen : l.length ≤ 1099511627776) :
    Calls Tryd.prog 61 #[v] w fun e w' => e = .returned (.agg (Bl.ints .u8 (Bl.sha l)).toArray) ∧ Bl.Ext w w' := by
  obtain ⟨p, c, hvf, hvn, hvc⟩ := hR.form
  subst hvf
  have Hv := Bl.hid hR
  have Hg := Bl.hid hg
  have Hby := Bl.hid hby
  clear hR hg hby
  go_enter Tryd.func61, Tryd.ntmps61
  obtain ⟨W0, hW0⟩ : ∃ W0, W0 = w.alloc (.cells #[.int .u8 0, .int .u8 0, .int .u8 0, .int .u8 0, .int .u8 0, .int .u8 0, .int .u8 0, .int .u8 0, .int .u8 0, .int .u8 0, .int .u8 0, .int .u8 0, .int .u8 0, .int .u8 0, .int .u8 0, .int .u8 0, .int .u8 0, .int .u8 0, .int .u8 0, .int .u8 0, .int .u8 0, .int .u8 0, .int .u8 0, .int .u8 0, .int .u8 0, .int .u8 0, .int .u8 0, .int .u8 0, .int .u8 0, .int .u8 0, .int .u8 0, .int .u8 0] 31) := ⟨_, rfl⟩
  have hE0 : Bl.Ext w W0 := by rw [hW0]; exact (Below.refl _ _).alloc (Nat.le_refl _) _
  have HF0 := Bl.hid (show Bl.Fam W0 w.heap.size .u8 32 (fun _ => 0) from by rw [hW0]; exact fam_new w 32 .u8 _ _ rfl)
  have hs0 : W0.heap.size = w.heap.size + 1 := by rw [hW0]; simp
  have HW0 := Bl.hid hW0
  clear hW0
  have hE1 : Bl.Ext W0 (W0.alloc (.cells #[] 5)) := (Below.refl _ _).alloc (Nat.le_refl _) _
  have ho := Bl.owns_new W0 5 #[] W0.heap.size 0 1 (Nat.le_refl _) (by decide) rfl
  have hv1 := Hv.out.ext (hE0.trans hE1)
  rw [hs0] at ho
  rw [HW0.out] at ho hE1 hv1
  have Ho := Bl.hid ho
  have Hv1 := Bl.hid hv1
  have HE1 := Bl.hid hE1
  have Hs0 := Bl.hid hs0
  have HE0 := Bl.hid hE0
  clear ho hv1 hE1 hE0 hs0
  go_wp2_with (with_reducible refine Bl.stop_append ?_)
  refine Bl.go_on ?_
  refine Bl.wpL_app tBytes Ho.out Hv1.out rfl rfl (by simp) (Bl.ints_one _ _) (by unfold maxLen; omega) (by omega) (by simp) ?_
  intro p1 c1 w1 hown1 hg1 hB1 hK1 hn1 hc1
  have hs1 := hB1.size
  simp only [World.size_alloc] at hs1
  simp only [Nat.zero_add, List.nil_append] at hown1 hn1
  have Hown1 := Bl.hid (Bl.owns_ext hown1 (Bl.ext_alloc w1 (.cells #[.int .u8 128] 5)))
  have Hnew1 := Bl.hid (Bl.rds_one w1 5 .u8 128)
  clear hK1 hg1
  go_wp2_with (with_reducible refine Bl.stop_append ?_)
  refine Bl.go_on ?_
  refine Bl.wpL_app tBytes Hown1.out Hnew1.out rfl rfl (by simp) (Bl.ints_one _ _) (by unfold maxLen; omega) (by omega) (by simp only [World.size_alloc]; omega) ?_
  intro p2 c2 w2 hown2 hg2 hB2 hK2 hn2 hc2
  have hE2 : Below (w.heap.size + 1) W0 w2 := by
    have h1 := Below.trans (Bl.below_alloc W0 (.cells #[] 5) (B := w.heap.size + 1) (by rw [Hs0.out]; exact Nat.le_refl _)) (by rw [HW0.out]; exact hB1)
    exact (h1.trans (Bl.below_alloc w1 (.cells #[.int .u8 128] 5) (by omega))).trans hB2
  have HF2 := Bl.hid (HF0.out.below hE2 (by omega))
  have HEw2 : Hid (Bl.Ext w w2) := Bl.hid (Below.trans HE0.out (hE2.mono (by omega)))
  have hs2 : w.heap.size + 1 ≤ w2.heap.size := by have := hE2.size; rw [Hs0.out] at this; exact this
  have hown2' : w2.ownsRow (w.heap.size + 1) 5 1 (.slice p2 (l.length + 1 + 0) c2) (l.length + 1 + 0) (Bl.ints .u8 (l ++ 128 :: List.replicate 0 0)) := by
    rw [Bl.ints_append]; exact hown2
  clear hown2 hg2 hB2 hK2 hE2 hown1 hB1 Hown1 Hnew1 Ho Hv1 HE1 HF0 HE0
  go_wp2_with fail
  go_loopw [3] (fun e wr => ∃ (j : Nat) (p : Option Addr) (c : Nat), e = .slice p (l.length + 1 + j) c ∧ j ≤ Bl.padn l.length ∧ wr.ownsRow (w.heap.size + 1) 5 1 (.slice p (l.length + 1 + j) c) (l.length + 1 + j) (Bl.ints .u8 (l ++ 128 :: List.replicate j 0)) ∧ Below (w.heap.size + 1) w2 wr) (fun e _ => 200 - (Bl.sliceLen e - l.length))
  case atStart => exact ⟨0, p2, c2, rfl, Nat.zero_le _, hown2', Below.refl _ _⟩
  case round =>
    obtain ⟨j, p, c, rfl, hj, hr, hB⟩ := hrel
    clear hown2'
    obtain ⟨pr, cr, hfr, hnr, hcr⟩ := (Bl.Rds.of_owns hr).form
    obtain ⟨rfl, rfl⟩ : p = pr ∧ c = cr := by cases hfr; exact ⟨rfl, rfl⟩
    clear hfr
    by_cases hjp : j = Bl.padn l.length
    · subst hjp
      have hrem : ((l.length : Int) + 1 + (Bl.padn l.length : Int)) % 64 = 56 := by unfold Bl.padn; omega
      have hremb : (((l.length : Int) + 1 + (Bl.padn l.length : Int)) % 64 != 56) = false := by rw [hrem]; rfl
      clear hrem
      go_wp2_with fail
      have HFr := Bl.hid (HF2.out.below hB (by omega))
      have HEr : Hid (Bl.Ext w wr) := Bl.hid (Below.trans HEw2.out (hB.mono (by omega)))
      have HGr := Bl.hid (Hg.out.ext HEr.out)
      have hszr : w.heap.size + 1 ≤ wr.heap.size := Nat.le_trans hs2 hB.size
      have hP : (l ++ 128 :: List.replicate (Bl.padn l.length) (0 : Int)).length = l.length + 1 + Bl.padn l.length := by simp; omega
      have hpn : Bl.padn l.length ≤ 64 := by unfold Bl.padn; omega
      have hM : (l.length + 1 + Bl.padn l.length + 8) % 64 = 0 := Bl.padn_mod _
      have hMb : l.length + 1 + Bl.padn l.length ≤ 1099511627776 + 65 := by omega
      have hML := Bl.hid (show Bl.pad l l.length = l ++ 128 :: List.replicate (Bl.padn l.length) (0 : Int) ++ Bl.lenb l.length from rfl)
      have hnr' : l.length + 1 + Bl.padn l.length ≤ c := hnr
      generalize l.length + 1 + Bl.padn l.length = M at *
      generalize hPe : l ++ 128 :: List.replicate (Bl.padn l.length) (0 : Int) = P0 at *
      have hr0 : wr.ownsRow (w.heap.size + 1) 5 1 (.slice p (M + 0) c) (M + 0) (Bl.ints .u8 (P0 ++ (Bl.lenb l.length).take 0)) := by simpa using hr
      clear hB hremb hr hnr hj HF2 HEw2
      go_loopw [3, 5] (fun e by' ws => ∃ (j : Nat) (p : Option Addr) (c : Nat), by' = .int .i64 (7 - (j : Int)) ∧ j ≤ 8 ∧ e = .slice p (M + j) c ∧ ws.ownsRow (w.heap.size + 1) 5 1 (.slice p (M + j) c) (M + j) (Bl.ints .u8 (P0 ++ (Bl.lenb l.length).take j)) ∧ Below (w.heap.size + 1) wr ws) (fun _ i _ => (intOf i + 1).toNat)
      case atStart => exact ⟨0, p, c, by simp, by omega, rfl, hr0, Below.refl _ _⟩
      case round =>
        obtain ⟨j, q, d, rfl, hj, rfl, hq, hBs⟩ := hrel
        obtain ⟨pr, cr, hfr, hnr, hcr⟩ := (Bl.Rds.of_owns hq).form
        obtain ⟨rfl, rfl⟩ : q = pr ∧ d = cr := by cases hfr; exact ⟨rfl, rfl⟩
        clear hfr hr0
        by_cases hj8 : j = 8
        · subst hj8
          have hLe : Hid (P0 ++ (Bl.lenb l.length).take 8 = Bl.pad l l.length) := Bl.hid (by rw [hML.out, List.take_of_length_le (by simp)])
          rw [hLe.out] at hq
          have HL := Bl.hid (Bl.Rds.of_owns hq)
          have HEs : Hid (Bl.Ext w wr) := Bl.hid (Below.trans HEr.out (hBs.mono (by omega)))
          have HGs := Bl.hid (Hg.out.ext HEs.out)
          have HFs := Bl.hid (HFr.out.below hBs (by omega))
          have hsz3 : w.heap.size + 1 ≤ wr.heap.size := Nat.le_trans hszr hBs.size
          have hlen64 : (Bl.pad l l.length).length = M + 8 := by rw [← hLe.out, List.length_append, hP, List.length_take, Bl.lenb_length]; rfl
          have hbyL := Bl.hid (Bl.pad_byt l.length Hby.out)
          have hres := Bl.hid (show Bl.sha l = (Bl.eat Bl.iv0 (Bl.pad l l.length)).1.bytes from rfl)
          generalize hLL : Bl.pad l l.length = L at *
          have HlenL := Bl.hid hlen64
          obtain ⟨m8, hm8⟩ : ∃ m8, M + 8 = 64 * m8 := ⟨(M + 8) / 64, by omega⟩
          have Hm8 := Bl.hid hm8
          have hgb := Bl.load_ints (P := Tryd.prog) (ty := 142) (e := 141) (k := .u32) (l := Bl.iv) (b := 20) (o := 0) (w := wr) (n := 8) (fun j v hv => by
              have hj : j < 8 := by have := (List.getElem?_eq_some_iff.1 hv).1; simpa [Bl.iv] using this
              rw [Bl.ints_get _ _ _ (by simpa [Bl.iv] using hj)] at hv
              cases hv
              rw [Nat.zero_add]
              exact HGs.out.rbegins j hj) Tryd.underlying142 (by kernel_rfl) rfl
          have Hgb := Bl.hid hgb
          have hMi : (M : Int) ≤ 1099511627841 := by omega
          clear hgb hq hBs hlen64 hm8 HFr HEr HGr hML hP hPe hLe hM hMb hpn
          go_wp2_with (with_reducible refine Bl.stop_load (ty := 142) ?_)
          refine Bl.go_on ?_
          refine Bl.wpL_load rfl Hgb.out ?_
          have hF8 := fam_new wr 8 .u32 142 (List.replicate 8 (Value.int .u32 0)).toArray rfl
          have hst := Bl.store_ints (P := Tryd.prog) (ty := 142) (k := .u32) (l := Bl.iv) (n := 8) hF8.there (by kernel_rfl) rfl
          have hFS := Bl.fam_setCells hF8 Bl.iv rfl
          have hES : Bl.Ext wr ((wr.alloc (.cells (List.replicate 8 (Value.int .u32 0)).toArray 142)).setCells wr.heap.size 0 (Bl.ints .u32 Bl.iv)) := Bl.below_setCells _ _ _ _ (Bl.ext_alloc _ _) (Nat.le_refl _)
          have hszS : (wr.heap.size + 1) ≤ ((wr.alloc (.cells (List.replicate 8 (Value.int .u32 0)).toArray 142)).setCells wr.heap.size 0 (Bl.ints .u32 Bl.iv)).heap.size := by
            have := World.block_lt_of_cell? _ _ (hFS.1 0 (by decide))
            exact this
          have HFS := Bl.hid hFS
          have HES := Bl.hid hES
          have Hst := Bl.hid hst
          clear hF8 hst hFS hES
          go_wp2_with (with_reducible refine Bl.stop_store (ty := 142) ?_)
          refine Bl.go_on ?_
          refine Bl.wpL_store rfl rfl Hst.out ?_
          generalize hWS : (wr.alloc (.cells (List.replicate 8 (Value.int .u32 0)).toArray 142)).setCells wr.heap.size 0 (Bl.ints .u32 Bl.iv) = WS at *
          clear hWS Hst
          obtain ⟨wq, rfl⟩ : ∃ wq : World, wq = wr := ⟨_, rfl⟩
          obtain ⟨bb, oo, cc, hqe, _, _, hbb, _, hget⟩ := Bl.Rd.pos (w := wq) (k := .u8) (v := .slice q (M + 8) d) (l := L) (by show Bl.Rds _ _ _ _; rw [HlenL.out]; exact HL.out) (by rw [HlenL.out]; omega)
          rw [HlenL.out] at hqe hget
          have hqe : q = some ⟨bb, oo, none⟩ := by injection hqe
          subst hqe
          have Hget := Bl.hid hget
          clear hget HL hLL hj Hgb
          go_wp2_with fail
          go_loopw [7] (fun a wr => ∃ k : Nat, k ≤ m8 ∧ a = .int .i64 ((64 * k : Nat) : Int) ∧ Bl.Fam wr wq.heap.size .u32 8 (fun i => (Bl.foldc L Bl.iv0 (List.range k)).l.getD i 0) ∧ Below wq.heap.size wq wr ∧ wq.heap.size + 1 ≤ wr.heap.size) (fun a _ => M + 8 - (intOf a).toNat)
          case atStart => exact ⟨0, Nat.zero_le _, rfl, HFS.out, HES.out, hszS⟩
          case round =>
            obtain ⟨k, hk, rfl, hF, hB, hszr⟩ := hrel
            clear HFS HES hszS
            by_cases hlt : k < m8
            · obtain ⟨z, hz⟩ : ∃ z, z = Bl.foldc L Bl.iv0 (List.range k) := ⟨_, rfl⟩
              rw [← hz] at hF
              have Hz := Bl.hid hz
              have HF := Bl.hid hF
              obtain ⟨a, ha⟩ : ∃ a, a = 64 * k := ⟨_, rfl⟩
              have hak : a + 64 ≤ M + 8 := by rw [Hm8.out, ha]; omega
              have Hcell : Hid (∀ i, i < 64 → wr.cell? ⟨bb, oo + (a + i), none⟩ = some (.int .u8 (L.getD (a + i) 0))) := Bl.hid (fun i hi => ((Bl.bcell hB).1 bb _ hbb).trans (Hget.out (a + i) (by omega)))
              rw [← ha]
              have Ha := Bl.hid ha
              have ha1 : (a : Int) < (M : Int) + 8 := by omega
              clear hz hF ha
              obtain ⟨wk, rfl⟩ : ∃ wk : World, wk = wr := ⟨_, rfl⟩
              have hG64 := fam_new wk 64 .u32 143 (List.replicate 64 (Value.int .u32 0)).toArray rfl
              have hst := Bl.store_ints (P := Tryd.prog) (ty := 143) (k := .u32) (l := List.replicate 64 0) (n := 64) hG64.there info64 (by simp)
              have hFG := Bl.fam_setCells hG64 (List.replicate 64 0) (by simp)
              have hEG : Bl.Ext wk ((wk.alloc (.cells (List.replicate 64 (Value.int .u32 0)).toArray 143)).setCells wk.heap.size 0 (Bl.ints .u32 (List.replicate 64 0))) := Bl.below_setCells _ _ _ _ (Bl.ext_alloc _ _) (Nat.le_refl _)
              have HG := Bl.hid hFG
              have HEG := Bl.hid hEG
              have Hst := Bl.hid hst
              clear hG64 hst hFG hEG
              go_wp2_with (with_reducible refine Bl.stop_store (ty := 143) ?_)
              refine Bl.go_on ?_
              refine Bl.wpL_store rfl rfl Hst.out ?_
              generalize hWG : (wk.alloc (.cells (List.replicate 64 (Value.int .u32 0)).toArray 143)).setCells wk.heap.size 0 (Bl.ints .u32 (List.replicate 64 0)) = WG at *
              clear hWG Hst
              go_wp2_with fail
              go_loopw [9] (fun i ws => ∃ t : Nat, t ≤ 16 ∧ i = .int .i64 t ∧ Bl.Fam ws wk.heap.size .u32 64 (fun j => if j < t then Bl.word ((L.drop (64 * k)).take 64) j else 0) ∧ Below wk.heap.size wk ws) (fun i _ => 16 - (intOf i).toNat)
              case atStart => exact ⟨0, by omega, rfl, HG.out.congr (fun i hi => by rw [if_neg (by omega), List.getD_eq_getElem?_getD, List.getElem?_replicate, if_pos hi]; rfl), HEG.out⟩
              case round =>
                obtain ⟨t, ht, rfl, hG, hBk⟩ := hrel
                clear HG HEG
                by_cases hlt16 : t < 16
                · obtain ⟨x0, hx0⟩ : ∃ x, x = L.getD (a + 4 * t) 0 := ⟨_, rfl⟩
                  obtain ⟨x1, hx1⟩ : ∃ x, x = L.getD (a + 4 * t + 1) 0 := ⟨_, rfl⟩
                  obtain ⟨x2, hx2⟩ : ∃ x, x = L.getD (a + 4 * t + 2) 0 := ⟨_, rfl⟩
                  obtain ⟨x3, hx3⟩ : ∃ x, x = L.getD (a + 4 * t + 3) 0 := ⟨_, rfl⟩
                  have hword := Bl.word_at L hbyL.out k t hlt16 (by rw [HlenL.out]; have := Ha.out; omega)
                  rw [← Ha.out, ← hx0, ← hx1, ← hx2, ← hx3] at hword
                  have Hword := Bl.hid hword
                  have y0 : 0 ≤ x0 ∧ x0 ≤ 255 := by rw [hx0]; exact hbyL.out.get _
                  have y1 : 0 ≤ x1 ∧ x1 ≤ 255 := by rw [hx1]; exact hbyL.out.get _
                  have y2 : 0 ≤ x2 ∧ x2 ≤ 255 := by rw [hx2]; exact hbyL.out.get _
                  have y3 : 0 ≤ x3 ∧ x3 ≤ 255 := by rw [hx3]; exact hbyL.out.get _
                  obtain ⟨y00, y01⟩ := y0
                  obtain ⟨y10, y11⟩ := y1
                  obtain ⟨y20, y21⟩ := y2
                  obtain ⟨y30, y31⟩ := y3
                  have hbk : bb < wk.heap.size := by omega
                  have k0 : wr.cell? ⟨bb, oo + (a + 4 * t), none⟩ = some (.int .u8 x0) := by rw [(Bl.bcell hBk).1 bb _ hbk, hx0]; exact Hcell.out (4 * t) (by omega)
                  have k1 : wr.cell? ⟨bb, oo + (a + 4 * t + 1), none⟩ = some (.int .u8 x1) := by rw [(Bl.bcell hBk).1 bb _ hbk, hx1]; exact Hcell.out (4 * t + 1) (by omega)
                  have k2 : wr.cell? ⟨bb, oo + (a + 4 * t + 2), none⟩ = some (.int .u8 x2) := by rw [(Bl.bcell hBk).1 bb _ hbk, hx2]; exact Hcell.out (4 * t + 2) (by omega)
                  have k3 : wr.cell? ⟨bb, oo + (a + 4 * t + 3), none⟩ = some (.int .u8 x3) := by rw [(Bl.bcell hBk).1 bb _ hbk, hx3]; exact Hcell.out (4 * t + 3) (by omega)
                  have hbw : bb < wr.heap.size := World.block_lt_of_cell? _ _ k0
                  have hz0 : wr.cell? ⟨wk.heap.size, t, none⟩ = some (.int .u32 0) := by rw [hG.1 t (by omega)]; exact congrArg (fun v => some (Value.int .u32 v)) (if_neg (by omega))
                  have hz1 : wr.frozen? ⟨wk.heap.size, t, none⟩ = false := hG.2 t
                  have HG := Bl.hid hG
                  clear hword hx0 hx1 hx2 hx3 hG
                  have b0 : (0 : Int) ≤ (a : Int) + 4 * (t : Int) := by omega
                  have c0 : (a : Int) + 4 * (t : Int) < (M : Int) + 8 := by omega
                  have d0 : ((a : Int) + 4 * (t : Int)).toNat = a + 4 * t := by omega
                  have b1 : (0 : Int) ≤ (a : Int) + 4 * (t : Int) + 1 := by omega
                  have c1 : (a : Int) + 4 * (t : Int) + 1 < (M : Int) + 8 := by omega
                  have d1 : ((a : Int) + 4 * (t : Int) + 1).toNat = a + 4 * t + 1 := by omega
                  have b2 : (0 : Int) ≤ (a : Int) + 4 * (t : Int) + 2 := by omega
                  have c2 : (a : Int) + 4 * (t : Int) + 2 < (M : Int) + 8 := by omega
                  have d2 : ((a : Int) + 4 * (t : Int) + 2).toNat = a + 4 * t + 2 := by omega
                  have b3 : (0 : Int) ≤ (a : Int) + 4 * (t : Int) + 3 := by omega
                  have c3 : (a : Int) + 4 * (t : Int) + 3 < (M : Int) + 8 := by omega
                  have d3 : ((a : Int) + 4 * (t : Int) + 3).toNat = a + 4 * t + 3 := by omega
                  have t0 : (0 : Int) ≤ (t : Int) := by omega
                  have t1 : (t : Int) < 64 := by omega
                  have t2 : (t : Int) < 16 := by omega
                  go_wp2_with fail
                  refine Bl.wp_region_qt 43 (by kernel_rfl) (by kernel_rfl) ?_
                  simp only [List.take_succ_cons, List.take_zero, List.drop_succ_cons, List.drop_zero]
                  repeat (first | go_big_quiet_skip | (go_big_quiet_want; go_big_quiet_op; first | go_big_quiet_on | (apply Exists.intro; refine ⟨?_, ?_⟩; (fail); go_big_quiet_on)))
                  refine wpQuiet_nil ?_
                  clear k0 k1 k2 k3 b0 b1 b2 b3 c0 c1 c2 c3 d0 d1 d2 d3
                  go_wp2_with fail
                  go_roundw
                  case rel =>
                    refine ⟨t + 1, by omega, by go_num, ?_, (hBk.drewN 1).setCell (by simp) _⟩
                    refine ((HG.out.drew 1).set t (by omega) _).congr (fun i hi => ?_)
                    by_cases e : i = t
                    · subst e; rw [if_pos rfl, if_pos (by omega)]; have h := Hword.out; rw [Ha.out] at h; exact h
                    · rw [if_neg e]
                      by_cases e2 : i < t
                      · rw [if_pos e2, if_pos (by omega)]
                      · rw [if_neg e2, if_neg (by omega)]
                  case measure => simp [intOf]; omega
                · obtain rfl : t = 16 := by omega
                  have hG' : Bl.Fam wr wk.heap.size .u32 64 (fun j => if j < 16 then Bl.ww ((L.drop (64 * k)).take 64) j else 0) := hG.congr (fun i hi => by
                    by_cases e : i < 16
                    · rw [if_pos e, if_pos e, Bl.ww_lo _ _ e]
                    · rw [if_neg e, if_neg e])
                  have HG := Bl.hid hG'
                  clear hG hG'
                  obtain ⟨blk, hblk⟩ : ∃ blk, blk = (L.drop (64 * k)).take 64 := ⟨_, rfl⟩
                  rw [← hblk] at HG
                  have Hblk := Bl.hid hblk
                  clear hblk
                  go_wp2_with fail
                  obtain ⟨wl16, rfl⟩ : ∃ wl16 : World, wl16 = wr := ⟨_, rfl⟩
                  go_loopw [10] (fun i ws => ∃ t : Nat, 16 ≤ t ∧ t ≤ 64 ∧ i = .int .i64 t ∧ Bl.Fam ws wk.heap.size .u32 64 (fun j => if j < t then Bl.ww blk j else 0) ∧ Below wk.heap.size wk ws) (fun i _ => 64 - (intOf i).toNat)
                  case atStart => exact ⟨16, by omega, by omega, rfl, HG.out, hBk⟩
                  case round =>
                    obtain ⟨t, ht16, ht64, rfl, hG, hBk2⟩ := hrel
                    clear HG hBk
                    by_cases hlt64 : t < 64
                    · have h2 : wr.cell? ⟨wk.heap.size, t - 2, none⟩ = some (.int .u32 (Bl.ww blk (t - 2))) := by rw [hG.1 _ (by omega)]; exact congrArg (fun v => some (Value.int .u32 v)) (if_pos (by omega))
                      have h7 : wr.cell? ⟨wk.heap.size, t - 7, none⟩ = some (.int .u32 (Bl.ww blk (t - 7))) := by rw [hG.1 _ (by omega)]; exact congrArg (fun v => some (Value.int .u32 v)) (if_pos (by omega))
                      have h15 : wr.cell? ⟨wk.heap.size, t - 15, none⟩ = some (.int .u32 (Bl.ww blk (t - 15))) := by rw [hG.1 _ (by omega)]; exact congrArg (fun v => some (Value.int .u32 v)) (if_pos (by omega))
                      have h16 : wr.cell? ⟨wk.heap.size, t - 16, none⟩ = some (.int .u32 (Bl.ww blk (t - 16))) := by rw [hG.1 _ (by omega)]; exact congrArg (fun v => some (Value.int .u32 v)) (if_pos (by omega))
                      have hz1 : wr.frozen? ⟨wk.heap.size, t, none⟩ = false := hG.2 t
                      have hz0 : wr.cell? ⟨wk.heap.size, t, none⟩ = some (.int .u32 0) := by rw [hG.1 _ (by omega)]; exact congrArg (fun v => some (Value.int .u32 v)) (if_neg (by omega))
                      have Hhi := Bl.hid (Bl.ww_hi blk t ht16)
                      obtain ⟨v2, hv2⟩ : ∃ v, v = Bl.ww blk (t - 2) := ⟨_, rfl⟩
                      obtain ⟨v7, hv7⟩ : ∃ v, v = Bl.ww blk (t - 7) := ⟨_, rfl⟩
                      obtain ⟨v15, hv15⟩ : ∃ v, v = Bl.ww blk (t - 15) := ⟨_, rfl⟩
                      obtain ⟨v16, hv16⟩ : ∃ v, v = Bl.ww blk (t - 16) := ⟨_, rfl⟩
                      rw [← hv2] at h2
                      rw [← hv7] at h7
                      rw [← hv15] at h15
                      rw [← hv16] at h16
                      rw [← hv2, ← hv7, ← hv15, ← hv16] at Hhi
                      have HG := Bl.hid hG
                      clear hG hv2 hv7 hv15 hv16
                      have a2 : IntKind.i64.wrap ((t : Int) - 2) = (t : Int) - 2 := IntWalk.i64_in _ (by omega)
                      have b2 : (0 : Int) ≤ (t : Int) - 2 := by omega
                      have q2 : (2 : Int) ≤ (t : Int) := by omega
                      have c2 : (t : Int) - 2 < 64 := by omega
                      have d2 : ((t : Int) - 2).toNat = t - 2 := by omega
                      have a7 : IntKind.i64.wrap ((t : Int) - 7) = (t : Int) - 7 := IntWalk.i64_in _ (by omega)
                      have b7 : (0 : Int) ≤ (t : Int) - 7 := by omega
                      have q7 : (7 : Int) ≤ (t : Int) := by omega
                      have c7 : (t : Int) - 7 < 64 := by omega
                      have d7 : ((t : Int) - 7).toNat = t - 7 := by omega
                      have a15 : IntKind.i64.wrap ((t : Int) - 15) = (t : Int) - 15 := IntWalk.i64_in _ (by omega)
                      have b15 : (0 : Int) ≤ (t : Int) - 15 := by omega
                      have q15 : (15 : Int) ≤ (t : Int) := by omega
                      have c15 : (t : Int) - 15 < 64 := by omega
                      have d15 : ((t : Int) - 15).toNat = t - 15 := by omega
                      have a16 : IntKind.i64.wrap ((t : Int) - 16) = (t : Int) - 16 := IntWalk.i64_in _ (by omega)
                      have b16 : (0 : Int) ≤ (t : Int) - 16 := by omega
                      have q16 : (16 : Int) ≤ (t : Int) := by omega
                      have c16 : (t : Int) - 16 < 64 := by omega
                      have d16 : ((t : Int) - 16).toNat = t - 16 := by omega
                      have b0 : (0 : Int) ≤ (t : Int) := by omega
                      have c0 : (t : Int) < 64 := by omega
                      go_wp2_with fail
                      go_quiet (fail)
                      go_wp2_with fail
                      refine Bl.wp_region_qt 29 (by kernel_rfl) (by kernel_rfl) ?_
                      simp only [List.take_succ_cons, List.take_zero, List.drop_succ_cons, List.drop_zero]
                      repeat (first | go_big_quiet_skip | (go_big_quiet_want; go_big_quiet_op; first | go_big_quiet_on | (apply Exists.intro; refine ⟨?_, ?_⟩; ((go_at_call 76; refine (turn_any _ _ _ (by decide)).mono ?_; rintro e w2 ⟨rfl, rfl⟩; exact ⟨rfl, rfl⟩)); go_big_quiet_on)))
                      refine wpQuiet_nil ?_
                      clear a2 b2 q2 c2 d2 a7 b7 q7 c7 d7 a15 b15 q15 c15 d15 a16 b16 q16 c16 d16 h2 h7 h15 h16
                      go_wp2_with fail
                      go_roundw
                      case rel =>
                        refine ⟨t + 1, by omega, by omega, by go_num, ?_, ((hBk2.drewN _).drewN 1).setCell (by simp) _⟩
                        refine (((HG.out.drew _).drew 1).set t (by omega) _).congr (fun i hi => ?_)
                        by_cases e : i = t
                        · subst e; rw [if_pos rfl, if_pos (by omega), Hhi.out]; unfold Bl.ad Bl.mix Bl.xr; simp only [show (2 : Int) ^ 10 = 1024 from rfl, show (2 : Int) ^ 3 = 8 from rfl]; omega
                        · rw [if_neg e]
                          by_cases e2 : i < t
                          · rw [if_pos e2, if_pos (by omega)]
                          · rw [if_neg e2, if_neg (by omega)]
                      case measure => simp [intOf]; omega
                    · obtain rfl : t = 64 := by omega
                      have c0 : wr.cell? ⟨wq.heap.size, 0, none⟩ = some (.int .u32 z.a) := ((Bl.bcell hBk2).1 _ _ hszr).trans (HF.out.1 0 (by decide))
                      have c1 : wr.cell? ⟨wq.heap.size, 1, none⟩ = some (.int .u32 z.b) := ((Bl.bcell hBk2).1 _ _ hszr).trans (HF.out.1 1 (by decide))
                      have c2 : wr.cell? ⟨wq.heap.size, 2, none⟩ = some (.int .u32 z.c) := ((Bl.bcell hBk2).1 _ _ hszr).trans (HF.out.1 2 (by decide))
                      have c3 : wr.cell? ⟨wq.heap.size, 3, none⟩ = some (.int .u32 z.d) := ((Bl.bcell hBk2).1 _ _ hszr).trans (HF.out.1 3 (by decide))
                      have c4 : wr.cell? ⟨wq.heap.size, 4, none⟩ = some (.int .u32 z.e) := ((Bl.bcell hBk2).1 _ _ hszr).trans (HF.out.1 4 (by decide))
                      have c5 : wr.cell? ⟨wq.heap.size, 5, none⟩ = some (.int .u32 z.f) := ((Bl.bcell hBk2).1 _ _ hszr).trans (HF.out.1 5 (by decide))
                      have c6 : wr.cell? ⟨wq.heap.size, 6, none⟩ = some (.int .u32 z.g) := ((Bl.bcell hBk2).1 _ _ hszr).trans (HF.out.1 6 (by decide))
                      have c7 : wr.cell? ⟨wq.heap.size, 7, none⟩ = some (.int .u32 z.h) := ((Bl.bcell hBk2).1 _ _ hszr).trans (HF.out.1 7 (by decide))
                      have hww : ∀ i, i < 64 → wr.cell? ⟨wk.heap.size, i, none⟩ = some (.int .u32 (Bl.ww blk i)) := fun i hi => by rw [hG.1 _ hi]; exact congrArg (fun v => some (Value.int .u32 v)) (if_pos hi)
                      have Hww := Bl.hid hww
                      clear hG hww
                      go_wp2_with fail
                      go_quiet (fail)
                      clear c0 c1 c2 c3 c4 c5 c6 c7
                      go_wp2_with fail
                      have hBz : Below wk.heap.size wk (wr.drewN nq) := hBk2.drewN _
                      have HwwN : Hid (∀ i, i < 64 → (wr.drewN nq).cell? ⟨wk.heap.size, i, none⟩ = some (.int .u32 (Bl.ww blk i))) := Bl.hid (fun i hi => by rw [(Bl.bcell ((Below.refl wr.heap.size wr).drewN nq)).1 _ _ (World.block_lt_of_cell? _ _ (Hww.out 0 (by decide)))]; exact Hww.out i hi)
                      have HszN : Hid (wk.heap.size + 1 ≤ (wr.drewN nq).heap.size) := Bl.hid (World.block_lt_of_cell? _ _ (HwwN.out 0 (by decide)))
                      clear hBk2 Hww
                      generalize hwz : wr.drewN nq = wz at *
                      clear hwz
                      go_loopw [21, 13, 14, 15, 16, 17, 18, 19, 20] (fun i va vb vc vd ve vf vg vh ws => ∃ (t : Nat) (s : Bl.St), t ≤ 64 ∧ i = .int .i64 t ∧ va = .int .u32 s.a ∧ vb = .int .u32 s.b ∧ vc = .int .u32 s.c ∧ vd = .int .u32 s.d ∧ ve = .int .u32 s.e ∧ vf = .int .u32 s.f ∧ vg = .int .u32 s.g ∧ vh = .int .u32 s.h ∧ Hid (s = Bl.rndn z (Bl.wl blk 64) t) ∧ Bl.Ext wz ws) (fun i _ _ _ _ _ _ _ _ _ => 64 - (intOf i).toNat)
                      case atStart => exact ⟨0, z, by omega, rfl, rfl, rfl, rfl, rfl, rfl, rfl, rfl, rfl, rfl, Below.refl _ _⟩
                      case round =>
                        obtain ⟨t, s, ht64, rfl, rfl, rfl, rfl, rfl, rfl, rfl, rfl, rfl, hs, hE⟩ := hrel
                        by_cases hlt64 : t < 64
                        · have hw : wr.cell? ⟨wk.heap.size, t, none⟩ = some (.int .u32 (Bl.ww blk t)) := by rw [(Bl.bcell hE).1 _ _ HszN.out]; exact HwwN.out t hlt64
                          have hgw : GlobR wr := HGs.out.ext (Bl.Ext.trans (Below.trans (hB.mono (Nat.le_refl _)) (hBz.mono (by omega))) hE)
                          have hk : wr.cell? ⟨21, t, none⟩ = some (.int .u32 (Bl.kt.getD t 0)) := hgw.radded t hlt64
                          have Hs' := Bl.hid (show Bl.rnd s (Bl.kt.getD t 0) (Bl.ww blk t) = Bl.rndn z (Bl.wl blk 64) (t + 1) from by
                            show _ = Bl.rnd (Bl.rndn z (Bl.wl blk 64) t) (Bl.kt.getD t 0) ((Bl.wl blk 64).getD t 0)
                            rw [Bl.wl_getD _ _ _ hlt64, ← hs.out])
                          obtain ⟨kk, hkk⟩ : ∃ kk, kk = Bl.kt.getD t 0 := ⟨_, rfl⟩
                          obtain ⟨wv, hwv⟩ : ∃ wv, wv = Bl.ww blk t := ⟨_, rfl⟩
                          rw [← hkk] at hk Hs'
                          rw [← hwv] at hw Hs'
                          clear hkk hwv hgw
                          have ht0 : (0 : Int) ≤ (t : Int) := by omega
                          have ht1 : (t : Int) < 64 := by omega
                          go_wp2_with fail
                          refine Bl.wp_region_qt 27 (by kernel_rfl) (by kernel_rfl) ?_
                          simp only [List.take_succ_cons, List.take_zero, List.drop_succ_cons, List.drop_zero]
                          repeat (first | go_big_quiet_skip | (go_big_quiet_want; go_big_quiet_op; first | go_big_quiet_on | (apply Exists.intro; refine ⟨?_, ?_⟩; ((go_at_call 76; refine (turn_any _ _ _ (by decide)).mono ?_; rintro e w2 ⟨rfl, rfl⟩; exact ⟨rfl, rfl⟩)); go_big_quiet_on)))
                          refine wpQuiet_nil ?_
                          clear hk hw
                          go_wp2_with (go_at_call 76; refine (turn_any _ _ _ (by decide)).mono ?_; rintro e w2 ⟨rfl, rfl⟩)
                          go_roundw
                          case rel =>
                            refine ⟨_, _, _, _, _, _, _, _, _, ⟨t + 1, by omega, rfl, Bl.rnd s kk wv, rfl, rfl, rfl, rfl, rfl, rfl, rfl, rfl, Hs', hE.drewN 1⟩, rfl, rfl, rfl, rfl, rfl, rfl, rfl, rfl, by go_num⟩
                          case measure => simp [intOf]; omega
                        · obtain rfl : t = 64 := by omega
                          have hFz : Bl.Fam wr wq.heap.size .u32 8 (fun i => z.l.getD i 0) := (HF.out.below hBz hszr).below hE (by have := HszN.out; omega)
                          have c0 : wr.cell? ⟨wq.heap.size, 0, none⟩ = some (.int .u32 z.a) := hFz.1 0 (by decide)
                          have f0 : wr.frozen? ⟨wq.heap.size, 0, none⟩ = false := hFz.2 0
                          have c1 : wr.cell? ⟨wq.heap.size, 1, none⟩ = some (.int .u32 z.b) := hFz.1 1 (by decide)
                          have f1 : wr.frozen? ⟨wq.heap.size, 1, none⟩ = false := hFz.2 1
                          have c2 : wr.cell? ⟨wq.heap.size, 2, none⟩ = some (.int .u32 z.c) := hFz.1 2 (by decide)
                          have f2 : wr.frozen? ⟨wq.heap.size, 2, none⟩ = false := hFz.2 2
                          have c3 : wr.cell? ⟨wq.heap.size, 3, none⟩ = some (.int .u32 z.d) := hFz.1 3 (by decide)
                          have f3 : wr.frozen? ⟨wq.heap.size, 3, none⟩ = false := hFz.2 3
                          have c4 : wr.cell? ⟨wq.heap.size, 4, none⟩ = some (.int .u32 z.e) := hFz.1 4 (by decide)
                          have f4 : wr.frozen? ⟨wq.heap.size, 4, none⟩ = false := hFz.2 4
                          have c5 : wr.cell? ⟨wq.heap.size, 5, none⟩ = some (.int .u32 z.f) := hFz.1 5 (by decide)
                          have f5 : wr.frozen? ⟨wq.heap.size, 5, none⟩ = false := hFz.2 5
                          have c6 : wr.cell? ⟨wq.heap.size, 6, none⟩ = some (.int .u32 z.g) := hFz.1 6 (by decide)
                          have f6 : wr.frozen? ⟨wq.heap.size, 6, none⟩ = false := hFz.2 6
                          have c7 : wr.cell? ⟨wq.heap.size, 7, none⟩ = some (.int .u32 z.h) := hFz.1 7 (by decide)
                          have f7 : wr.frozen? ⟨wq.heap.size, 7, none⟩ = false := hFz.2 7
                          have HFz := Bl.hid hFz
                          have HszR : Hid (wq.heap.size + 1 ≤ wr.heap.size) := Bl.hid (by have := HszN.out; have := hE.size; omega)
                          have HBr : Hid (Below wq.heap.size wq wr) := Bl.hid ((hB.trans (hBz.mono (by omega))).trans (hE.mono (by have := HszN.out; omega)))
                          clear hFz hE hBz
                          have ha64 : (a : Int) + 64 ≤ (M : Int) + 8 := by omega
                          go_wp2_with fail
                          go_roundw
                          case rel =>
                            refine ⟨k + 1, by omega, congrArg (Value.int .i64) (by have := Ha.out; omega), ?_, Bl.below8 HBr.out _ (Nat.le_refl _) _ _ _ _ _ _ _ _, by simpa using HszR.out⟩
                            refine (HFz.out.store8 _ _ _ _ _ _ _ _).congr (fun i hi => ?_)
                            have hnx : Bl.foldc L Bl.iv0 (List.range (k + 1)) = Bl.fin s z := by
                              have h1 : Bl.foldc L Bl.iv0 (List.range (k + 1)) = Bl.comp z blk := by
                                rw [Hz.out, Hblk.out, List.range_succ]; simp [Bl.foldc]
                              rw [h1]; unfold Bl.comp; rw [← hs.out]
                            rw [hnx]
                            match i, hi with
                            | 0, _ => exact congrArg (· % 4294967296) (Int.add_comm _ _)
                            | 1, _ => exact congrArg (· % 4294967296) (Int.add_comm _ _)
                            | 2, _ => exact congrArg (· % 4294967296) (Int.add_comm _ _)
                            | 3, _ => exact congrArg (· % 4294967296) (Int.add_comm _ _)
                            | 4, _ => exact congrArg (· % 4294967296) (Int.add_comm _ _)
                            | 5, _ => exact congrArg (· % 4294967296) (Int.add_comm _ _)
                            | 6, _ => exact congrArg (· % 4294967296) (Int.add_comm _ _)
                            | 7, _ => exact congrArg (· % 4294967296) (Int.add_comm _ _)
                          case measure => simp [intOf]; omega
            · obtain rfl : k = m8 := by omega
              have hend := Bl.foldc_range k L Bl.iv0 (by rw [HlenL.out, Hm8.out])
              obtain ⟨zf, hzf⟩ : ∃ zf, zf = (Bl.eat Bl.iv0 L).1 := ⟨_, rfl⟩
              rw [hend, ← hzf] at hF
              have Hres : Hid (Bl.sha l = zf.bytes) := Bl.hid (by rw [hzf]; exact hres.out)
              rw [← Hm8.out]
              clear hend hzf hlt hres hk
              have hr8 : wr.rangeAt wq.heap.size 0 (Bl.ints .u32 zf.l) := by
                have h := hF.range
                have e : (List.range 8).map (fun i => zf.l.getD i 0) = zf.l := rfl
                rw [e] at h; exact h
              obtain ⟨wk, rfl⟩ : ∃ wk : World, wk = wr := ⟨_, rfl⟩
              have hO := fam_new wk 32 .u8 31 (List.replicate 32 (Value.int .u8 0)).toArray rfl
              have hst := Bl.store_ints (P := Tryd.prog) (ty := 31) (k := .u8) (l := List.replicate 32 0) (n := 32) hO.there (by kernel_rfl) (by simp)
              have hFO := Bl.fam_setCells hO (List.replicate 32 0) (by simp)
              have hEO : Bl.Ext wk ((wk.alloc (.cells (List.replicate 32 (Value.int .u8 0)).toArray 31)).setCells wk.heap.size 0 (Bl.ints .u8 (List.replicate 32 0))) := Bl.below_setCells _ _ _ _ (Bl.ext_alloc _ _) (Nat.le_refl _)
              have hld := Bl.load_ints (P := Tryd.prog) (ty := 142) (Bl.rangeAt_ext hr8 hEO) Tryd.underlying142 (by kernel_rfl) rfl
              have HFO := Bl.hid hFO
              have HEO := Bl.hid hEO
              have Hst := Bl.hid hst
              have Hld := Bl.hid hld
              clear hO hst hFO hEO hld hr8 hF
              have hnlt : decide ((M : Int) + 8 < (M : Int) + 8) = false := decide_eq_false (by omega)
              go_wp2_with (with_reducible refine Bl.stop_store (ty := 31) ?_)
              refine Bl.go_on ?_
              refine Bl.wpL_store rfl rfl Hst.out ?_
              generalize hWO : (wk.alloc (.cells (List.replicate 32 (Value.int .u8 0)).toArray 31)).setCells wk.heap.size 0 (Bl.ints .u8 (List.replicate 32 0)) = WO at *
              clear hWO Hst hnlt
              go_wp2_with ((with_reducible refine Bl.wpL_load ?_ Hld.out ?_); rfl)
              clear Hld
              go_loopw [273] (fun i' ws => ∃ i : Nat, i' = .int .i64 i ∧ i ≤ 8 ∧ Bl.Fam ws wk.heap.size .u8 32 (fun j => if j < 4 * i then zf.byte j else 0) ∧ Below wk.heap.size WO ws) (fun i' _ => 8 - (intOf i').toNat)
              case atStart => exact ⟨0, rfl, by omega, HFO.out.congr (fun j hj => by rw [if_neg (by omega), List.getD_eq_getElem?_getD, List.getElem?_replicate, if_pos hj]; rfl), Below.refl _ _⟩
              case round =>
                obtain ⟨i, rfl, hi, hFo, hBo⟩ := hrel
                by_cases hi8 : i = 8
                · subst hi8
                  have hAll : Below wq.heap.size wq wr := (hB.trans (HEO.out.mono (by omega))).trans (hBo.mono (by omega))
                  have hlo := Bl.load_ints (P := Tryd.prog) (ty := 31) (hFo.range) Tryd.underlying31 (by kernel_rfl) (by simp)
                  have HHr := Bl.hid (HFs.out.below hAll (by omega))
                  have hst := Bl.store_ints (P := Tryd.prog) (k := .u8) (ty := 31) (l := (List.range 32).map (fun j => if j < 4 * 8 then zf.byte j else 0)) HHr.out.there (by kernel_rfl) (by simp)
                  have Hlo := Bl.hid hlo
                  have Hst := Bl.hid hst
                  have HAll := Bl.hid hAll
                  clear hFo hlo hst hAll HFO
                  go_wp2_with (first | ((with_reducible refine Bl.wpL_load ?_ Hlo.out ?_); rfl) | ((with_reducible refine Bl.wpL_store ?_ ?_ Hst.out ?_); rfl; rfl))
                  have hin : (wr.setCells w.heap.size 0 (Bl.ints .u8 ((List.range 32).map (fun j => if j < 4 * 8 then zf.byte j else 0)))).rangeAt w.heap.size 0 (Bl.ints .u8 ((List.range 32).map (fun j => if j < 4 * 8 then zf.byte j else 0))) := World.rangeAt_setCells_same _ _ _ _ (by simpa using HHr.out.there)
                  have hld2 := run_loadVar_mid (P := Tryd.prog) _ w.heap.size 0 31 _ _ hin Tryd.underlying31 rfl (by rw [Bl.ints_length, List.length_map, List.length_range]; kernel_rfl)
                  refine bodyPost_ret (v := .agg (Bl.ints .u8 ((List.range 32).map (fun j => if j < 4 * 8 then zf.byte j else 0))).toArray) (Bl.results_cell rfl rfl hld2) rfl ⟨?_, ?_⟩
                  · rw [Hres.out, Bl.St.bytes_map]
                  · exact Bl.below_setCells _ _ _ _ (Below.trans HEs.out (HAll.out.mono (by omega))) (Nat.le_refl _)
                · have hx8 : (Instr.index 142 (.agg (Bl.ints .u32 zf.l).toArray) (.int .i64 i)).run Tryd.prog wr = .ok (.int .u32 (zf.l.getD i 0)) wr := Bl.index_ints Tryd.underlying142 (fun w => by simp [go_sem]) (fun w => by simp [go_sem]) rfl (by omega)
                  obtain ⟨x, hx⟩ : ∃ x, x = zf.l.getD i 0 := ⟨_, rfl⟩
                  rw [← hx] at hx8
                  have Hx := Bl.hid hx
                  have Hx8 := Bl.hid hx8
                  have c0 : wr.cell? ⟨wk.heap.size, 4 * i, none⟩ = some (.int .u8 0) := by rw [hFo.1 _ (by omega)]; exact congrArg (fun v => some (Value.int .u8 v)) (if_neg (by omega))
                  have c1 : wr.cell? ⟨wk.heap.size, 4 * i + 1, none⟩ = some (.int .u8 0) := by rw [hFo.1 _ (by omega)]; exact congrArg (fun v => some (Value.int .u8 v)) (if_neg (by omega))
                  have c2 : wr.cell? ⟨wk.heap.size, 4 * i + 2, none⟩ = some (.int .u8 0) := by rw [hFo.1 _ (by omega)]; exact congrArg (fun v => some (Value.int .u8 v)) (if_neg (by omega))
                  have c3 : wr.cell? ⟨wk.heap.size, 4 * i + 3, none⟩ = some (.int .u8 0) := by rw [hFo.1 _ (by omega)]; exact congrArg (fun v => some (Value.int .u8 v)) (if_neg (by omega))
                  have f0 : wr.frozen? ⟨wk.heap.size, 4 * i, none⟩ = false := hFo.2 _
                  have f1 : wr.frozen? ⟨wk.heap.size, 4 * i + 1, none⟩ = false := hFo.2 _
                  have f2 : wr.frozen? ⟨wk.heap.size, 4 * i + 2, none⟩ = false := hFo.2 _
                  have f3 : wr.frozen? ⟨wk.heap.size, 4 * i + 3, none⟩ = false := hFo.2 _
                  have HFo := Bl.hid hFo
                  clear hFo hx hx8 HFO
                  have i0 : (0 : Int) ≤ (i : Int) := by omega
                  have i8 : (i : Int) < 8 := by omega
                  have n0 : (4 * (i : Int)).toNat = 4 * i := by omega
                  have n1 : (4 * (i : Int) + 1).toNat = 4 * i + 1 := by omega
                  have n2 : (4 * (i : Int) + 2).toNat = 4 * i + 2 := by omega
                  have n3 : (4 * (i : Int) + 3).toNat = 4 * i + 3 := by omega
                  go_wp2_with ((with_reducible refine Bl.wpL_index (p := .agg (Bl.ints .u32 zf.l).toArray) (v := .int .i64 i) ?_ ?_ Hx8.out ?_); rfl; rfl)
                  go_roundw
                  case rel =>
                    refine ⟨i + 1, by go_num, by omega, ?_, (((hBo.setCell (by simp) _).setCell (by simp) _).setCell (by simp) _).setCell (by simp) _⟩
                    refine ((((HFo.out.set (4 * i) (by omega) _).set (4 * i + 1) (by omega) _).set (4 * i + 2) (by omega) _).set (4 * i + 3) (by omega) _).congr (fun j hj => ?_)
                    rw [Hx.out]; exact Bl.byte4 zf i j
                  case measure => simp [intOf]; omega
        · have hj7 : (0 : Int) ≤ 7 - (j : Int) := by omega
          have hszs : w.heap.size + 1 ≤ wr.heap.size := Nat.le_trans hszr hBs.size
          have h8 : (8 * (7 - (j : Int))).toNat = 56 - 8 * j := by omega
          have h80 : (0 : Int) ≤ 8 * (7 - (j : Int)) := by omega
          go_wp2_with (with_reducible refine Bl.stop_append ?_)
          refine Bl.go_on ?_
          have Hr := Bl.hid (Bl.owns_ext hq (Bl.ext_alloc wr (.cells #[.int .u8 ((l.length : Int) * 8 / 2 ^ (56 - 8 * j) % 256)] 5)))
          have Hnew := Bl.hid (Bl.rds_one wr 5 .u8 ((l.length : Int) * 8 / 2 ^ (56 - 8 * j) % 256))
          refine Bl.wpL_app tBytes Hr.out Hnew.out rfl rfl (by simp) (Bl.ints_one _ _) (by unfold maxLen; omega) (by omega) (by simp only [World.size_alloc]; omega) ?_
          intro p4 c4 w4 hown4 hg4 hB4 hK4 hn4 hc4
          go_wp2_with fail
          go_roundw
          case rel =>
            refine ⟨j + 1, p4, c4, by rw [show (7 : Int) - ((j + 1 : Nat) : Int) = 7 - (j : Int) - 1 from by omega], by omega, rfl, ?_, (hBs.trans (Bl.below_alloc _ _ hszs)).trans hB4⟩
            rw [Bl.lenb_take l.length j (by omega), ← List.append_assoc, Bl.ints_append]
            exact hown4
          case measure => simp [intOf]; omega
    · have hrem : ((l.length : Int) + 1 + (j : Int)) % 64 ≠ 56 := by unfold Bl.padn at hj hjp; omega
      have hj64 : j ≤ 64 := by unfold Bl.padn at hj; omega
      have hszr : w.heap.size + 1 ≤ wr.heap.size := Nat.le_trans hs2 hB.size
      have Hr := Bl.hid (Bl.owns_ext hr (Bl.ext_alloc wr (.cells #[.int .u8 0] 5)))
      have Hnew := Bl.hid (Bl.rds_one wr 5 .u8 0)
      go_wp2_with (with_reducible refine Bl.stop_append ?_)
      refine Bl.go_on ?_
      refine Bl.wpL_app tBytes Hr.out Hnew.out rfl rfl (by simp) (Bl.ints_one _ _) (by unfold maxLen; omega) (by omega) (by simp only [World.size_alloc]; omega) ?_
      intro p4 c4 w4 hown4 hg4 hB4 hK4 hn4 hc4
      go_wp2_with fail
      go_roundw
      case rel =>
        refine ⟨j + 1, p4, c4, rfl, by omega, ?_, (hB.trans (Bl.below_alloc _ _ hszr)).trans hB4⟩
        rw [show l ++ 128 :: List.replicate (j + 1) (0 : Int) = (l ++ 128 :: List.replicate j 0) ++ [0] from by simp [List.replicate_succ'], Bl.ints_append]
        exact hown4
      case measure => simp only [Bl.sliceLen]; omega
end Go.Proofs.YtmfooocdnoflaaaDoor

/- Walks of tree.Inner, Leaf, Node, baileeref12.Leaf, Node. -/
namespace Go.Proofs.YtmfooocdnoflaaaDoor
open Go.RowKit Go.Proofs

set_option maxRecDepth 100000 in
set_option maxHeartbeats 400000 in
theorem inner_own (l r : List Int) (w : World) (hl : l.length = 32) (hr : r.length = 32) :
    Calls Tryd.prog 75 #[.agg (Bl.ints .u8 l).toArray, .agg (Bl.ints .u8 r).toArray] w fun e w' => ∃ v', e = .returned v' ∧ w'.ownsRow w.heap.size 5 1 v' ((l ++ r).length + 1) (Bl.ints .u8 (1 :: (l ++ r))) ∧ Bl.Ext w w' := by
  have Hl := Bl.hid hl
  have Hr := Bl.hid hr
  clear hl hr
  go_enter Tryd.func75, Tryd.ntmps75
  go_wp2_with fail
  have h1 := Bl.rangeAt_ext (Bl.range_box w l 39) (Bl.ext_alloc _ (.cells (Bl.ints .u8 r).toArray 39))
  have h2 := Bl.range_box (w.alloc (.cells (Bl.ints .u8 l).toArray 39)) r 39
  rw [World.size_alloc] at h2
  have HE : Hid (Bl.Ext w ((w.alloc (.cells (Bl.ints .u8 l).toArray 39)).alloc (.cells (Bl.ints .u8 r).toArray 39))) := Bl.hid ((Bl.ext_alloc _ _).trans (Bl.ext_alloc _ _))
  obtain ⟨W, hW⟩ : ∃ W, W = (w.alloc (.cells (Bl.ints .u8 l).toArray 39)).alloc (.cells (Bl.ints .u8 r).toArray 39) := ⟨_, rfl⟩
  rw [← hW] at h1 h2 HE ⊢
  have HL := Bl.hid (Bl.rd_box h1 Hl.out (by decide))
  have HR := Bl.hid (Bl.rd_box h2 Hr.out (by decide))
  clear hW h1 h2
  apply Bl.wp_region_ev 5 [5, 6, 7, 8, 9] [(fun v w' => Bl.SlB w' v [1]), Bl.eqv _, Bl.eqv _, (fun v w' => Bl.Rdss w' v [[1], l, r]), (fun v w' => w'.ownsRow w.heap.size 5 1 v ((l ++ r).length + 1) (Bl.ints .u8 (1 :: (l ++ r))))] (by kernel_rfl) (by kernel_rfl) (by kernel_rfl) (by kernel_rfl)
  case hsteps =>
    refine ⟨?_, ?_, ?_, ?_, ?_, trivial⟩
    all_goals
      intro ev w1 hext hb hd
      have e2 := hb 2 (by decide)
      have e3 := hb 3 (by decide)
      clear hb
      simp only [Array.getD_eq_getD_getElem?, List.getElem?_toArray, List.getElem?_cons_succ, List.getElem?_cons_zero, Option.getD_some] at e2 e3
      simp only [Bl.DepsE, List.getElem?_cons_succ, List.getElem?_cons_zero, Option.bind_some, List.getD_cons_succ, List.getD_cons_zero, Bl.eqv, and_true] at hd
      have hc := (Bl.bcell hext).1
      try (obtain ⟨⟨p5, c5, h5, h5r⟩, h6, h7⟩ := hd; rw [h5] at h5r)
      simp only [Bl.Good, Region.wanted, if_true]
      go_simp
      first | exact ⟨Bl.ext_alloc _ _, Bl.slB_one _ _ _⟩ | exact ⟨Bl.ext_alloc _ _, Bl.rdss_three h5r (HL.out.ext hext) (HR.out.ext hext) _⟩ | (go_at_call 83; refine (concB_own _ [[1], l, r] _ hd (by simp) (by simp [Hl.out, Hr.out])).mono ?_; rintro e w2 ⟨v', rfl, h1, h2⟩; exact ⟨_, rfl, h2, (by have h3 := Bl.owns_mono h1 (Nat.le_trans HE.out.size hext.size); simpa using h3)⟩) | exact ⟨Below.refl _ _, rfl⟩
  case hmono => exact ⟨(fun _ _ _ h k => Bl.SlB.ext h k), Bl.mono_eqv _, Bl.mono_eqv _, (fun _ _ _ h k => Bl.Rdss.ext h k), (fun _ _ _ h k => Bl.owns_ext h k), trivial⟩
  case hend =>
    intro u w1 hext hend
    simp only [Bl.EndE, List.getElem?_cons_succ, List.getElem?_cons_zero, Option.bind_some, List.getD_cons_succ, List.getD_cons_zero, Bl.eqv, true_and] at hend
    simp only [Bl.fillAct, List.setIfInBounds_toArray, List.set_cons_succ, List.set_cons_zero, List.drop_succ_cons, List.drop_zero, hend]
    have hrd := hend.2
    have HE1 := Bl.hid (HE.out.trans hext)
    have Hrd := Bl.hid hrd
    clear hend hext hrd
    go_wp2_with fail
    go_ret
    exact ⟨_, rfl, Hrd.out, HE1.out⟩
theorem inner_any (l r : List Int) (w : World) (hl : l.length = 32) (hr : r.length = 32) :
    Calls Tryd.prog 75 #[.agg (Bl.ints .u8 l).toArray, .agg (Bl.ints .u8 r).toArray] w fun e w' => ∃ v', e = .returned v' ∧ Bl.Rd w' .u8 v' (1 :: (l ++ r)) ∧ Bl.Ext w w' :=
  (inner_own l r w hl hr).mono fun _ _ ⟨v', h1, h2, h3⟩ => ⟨v', h1, Bl.Rds.of_owns h2, h3⟩

set_option maxRecDepth 100000 in
set_option maxHeartbeats 400000 in
theorem leaf_any (v : Value) (l : List Int) (w : World) (hR : Bl.Rd w .u8 v l) (hg : Glob w) (hby : Bl.Byt l) (hlen : l.length ≤ 1099511627000) :
    Calls Tryd.prog 35 #[v] w fun e w' => e = .returned (.agg (Bl.ints .u8 (Bl.lfD l)).toArray) ∧ Bl.Ext w w' := by
  obtain ⟨p, c, hvf, hvn, hvc⟩ := hR.form
  subst hvf
  have Hv := Bl.hid hR
  have Hg := Bl.hid hg
  have Hby := Bl.hid hby
  clear hR hg hby
  go_enter Tryd.func35, Tryd.ntmps35
  go_wp2_with fail
  have HF0 := Bl.hid (fam_new w 32 .u8 39 #[.int .u8 0, .int .u8 0, .int .u8 0, .int .u8 0, .int .u8 0, .int .u8 0, .int .u8 0, .int .u8 0, .int .u8 0, .int .u8 0, .int .u8 0, .int .u8 0, .int .u8 0, .int .u8 0, .int .u8 0, .int .u8 0, .int .u8 0, .int .u8 0, .int .u8 0, .int .u8 0, .int .u8 0, .int .u8 0, .int .u8 0, .int .u8 0, .int .u8 0, .int .u8 0, .int .u8 0, .int .u8 0, .int .u8 0, .int .u8 0, .int .u8 0, .int .u8 0] rfl)
  have HE0 := Bl.hid (Bl.ext_alloc w (.cells #[.int .u8 0, .int .u8 0, .int .u8 0, .int .u8 0, .int .u8 0, .int .u8 0, .int .u8 0, .int .u8 0, .int .u8 0, .int .u8 0, .int .u8 0, .int .u8 0, .int .u8 0, .int .u8 0, .int .u8 0, .int .u8 0, .int .u8 0, .int .u8 0, .int .u8 0, .int .u8 0, .int .u8 0, .int .u8 0, .int .u8 0, .int .u8 0, .int .u8 0, .int .u8 0, .int .u8 0, .int .u8 0, .int .u8 0, .int .u8 0, .int .u8 0, .int .u8 0] 39))
  obtain ⟨W0, hW0⟩ : ∃ W0, W0 = w.alloc (.cells #[.int .u8 0, .int .u8 0, .int .u8 0, .int .u8 0, .int .u8 0, .int .u8 0, .int .u8 0, .int .u8 0, .int .u8 0, .int .u8 0, .int .u8 0, .int .u8 0, .int .u8 0, .int .u8 0, .int .u8 0, .int .u8 0, .int .u8 0, .int .u8 0, .int .u8 0, .int .u8 0, .int .u8 0, .int .u8 0, .int .u8 0, .int .u8 0, .int .u8 0, .int .u8 0, .int .u8 0, .int .u8 0, .int .u8 0, .int .u8 0, .int .u8 0, .int .u8 0] 39) := ⟨_, rfl⟩
  rw [← hW0] at HF0 HE0 ⊢
  clear hW0
  refine (outer_any _ l W0 (Hv.out.ext HE0.out) hlen).mono ?_
  rintro e w1 ⟨v1, rfl, hr1, hE1⟩
  obtain ⟨p1, c1, hf1, _, _⟩ := hr1.form
  subst hf1
  have H1 := Bl.hid (Bl.rdss_1 hr1 80)
  have HE1 : Hid (Bl.Ext W0 (w1.alloc (.cells #[.slice p1 (0 :: l).length c1] 80))) := Bl.hid (hE1.trans (Bl.ext_alloc _ _))
  clear hr1 hE1
  go_wp2_with fail
  refine (of_any _ [0 :: l] _ H1.out (Hg.out.ext (HE0.out.trans HE1.out)) (by simpa using Bl.byt_cons (by decide) (by decide) Hby.out) (by simp; omega)).mono ?_
  rintro e w2 ⟨rfl, hE2⟩
  have hsh : Bl.sha ([0 :: l] : List (List Int)).flatten = Bl.lfD l := by unfold Bl.lfD; rw [List.flatten_singleton]
  rw [hsh]
  obtain ⟨sh, hsh⟩ : ∃ sh, sh = Bl.lfD l := ⟨_, rfl⟩
  have Hshl : Hid (sh.length = 32) := Bl.hid (by rw [hsh]; rfl)
  have Hsh := Bl.hid hsh
  rw [← hsh]
  have HE2 := Bl.hid (HE1.out.trans hE2)
  clear hE2 H1 HE1 hsh
  have HFc := Bl.hid (HF0.out.below HE2.out (World.block_lt_of_cell? _ _ (HF0.out.1 0 (by decide))))
  have Hstc := Bl.hid (Bl.store_ints (P := Tryd.prog) (k := .u8) (ty := 39) (l := sh) HFc.out.there (by kernel_rfl) Hshl.out)
  go_wp2_with (((with_reducible refine Bl.wpL_store ?_ ?_ Hstc.out ?_); rfl; rfl))
  have hinc := World.rangeAt_setCells_same _ (w.heap.size) 0 (Bl.ints .u8 sh) (by rw [Bl.ints_length, Hshl.out]; exact HFc.out.there)
  have hldc := run_loadVar_mid (P := Tryd.prog) _ (w.heap.size) 0 39 (Bl.ints .u8 sh) _ hinc Tryd.underlying39 rfl (by rw [Bl.ints_length, Hshl.out]; kernel_rfl)
  refine bodyPost_ret (v := .agg (Bl.ints .u8 sh).toArray) (Bl.results_cell rfl rfl hldc) rfl ⟨by rw [Hsh.out], Bl.below_setCells _ _ _ _ (HE0.out.trans HE2.out) (Nat.le_refl _)⟩

set_option maxRecDepth 100000 in
set_option maxHeartbeats 400000 in
theorem node_any (l r : List Int) (w : World) (hl : l.length = 32) (hr : r.length = 32) (hbl : Bl.Byt l) (hbr : Bl.Byt r) (hg : Glob w) :
    Calls Tryd.prog 60 #[.agg (Bl.ints .u8 l).toArray, .agg (Bl.ints .u8 r).toArray] w fun e w' => e = .returned (.agg (Bl.ints .u8 (Bl.ndD l r)).toArray) ∧ Bl.Ext w w' := by
  have Hl := Bl.hid hl
  have Hr := Bl.hid hr
  have Hby : Hid (Bl.Byt (1 :: (l ++ r))) := Bl.hid (Bl.byt_cons (by decide) (by decide) (hbl.append hbr))
  have Hg := Bl.hid hg
  clear hl hr hbl hbr hg
  go_enter Tryd.func60, Tryd.ntmps60
  go_wp2_with (with_reducible refine Bl.stop_load (ty := 39) ?_)
  refine Bl.go_on ?_
  have h1 := Bl.rangeAt_ext (Bl.rangeAt_ext (Bl.range_box w l 39) (Bl.ext_alloc _ (.cells (Bl.ints .u8 r).toArray 39))) (Bl.ext_alloc _ (.cells #[.int .u8 0, .int .u8 0, .int .u8 0, .int .u8 0, .int .u8 0, .int .u8 0, .int .u8 0, .int .u8 0, .int .u8 0, .int .u8 0, .int .u8 0, .int .u8 0, .int .u8 0, .int .u8 0, .int .u8 0, .int .u8 0, .int .u8 0, .int .u8 0, .int .u8 0, .int .u8 0, .int .u8 0, .int .u8 0, .int .u8 0, .int .u8 0, .int .u8 0, .int .u8 0, .int .u8 0, .int .u8 0, .int .u8 0, .int .u8 0, .int .u8 0, .int .u8 0] 39))
  have h2 := Bl.rangeAt_ext (Bl.range_box (w.alloc (.cells (Bl.ints .u8 l).toArray 39)) r 39) (Bl.ext_alloc _ (.cells #[.int .u8 0, .int .u8 0, .int .u8 0, .int .u8 0, .int .u8 0, .int .u8 0, .int .u8 0, .int .u8 0, .int .u8 0, .int .u8 0, .int .u8 0, .int .u8 0, .int .u8 0, .int .u8 0, .int .u8 0, .int .u8 0, .int .u8 0, .int .u8 0, .int .u8 0, .int .u8 0, .int .u8 0, .int .u8 0, .int .u8 0, .int .u8 0, .int .u8 0, .int .u8 0, .int .u8 0, .int .u8 0, .int .u8 0, .int .u8 0, .int .u8 0, .int .u8 0] 39))
  rw [World.size_alloc] at h2
  have h3 := fam_new ((w.alloc (.cells (Bl.ints .u8 l).toArray 39)).alloc (.cells (Bl.ints .u8 r).toArray 39)) 32 .u8 39 #[.int .u8 0, .int .u8 0, .int .u8 0, .int .u8 0, .int .u8 0, .int .u8 0, .int .u8 0, .int .u8 0, .int .u8 0, .int .u8 0, .int .u8 0, .int .u8 0, .int .u8 0, .int .u8 0, .int .u8 0, .int .u8 0, .int .u8 0, .int .u8 0, .int .u8 0, .int .u8 0, .int .u8 0, .int .u8 0, .int .u8 0, .int .u8 0, .int .u8 0, .int .u8 0, .int .u8 0, .int .u8 0, .int .u8 0, .int .u8 0, .int .u8 0, .int .u8 0] rfl
  simp only [World.size_alloc] at h3
  have HE : Hid (Bl.Ext w (((w.alloc (.cells (Bl.ints .u8 l).toArray 39)).alloc (.cells (Bl.ints .u8 r).toArray 39)).alloc (.cells #[.int .u8 0, .int .u8 0, .int .u8 0, .int .u8 0, .int .u8 0, .int .u8 0, .int .u8 0, .int .u8 0, .int .u8 0, .int .u8 0, .int .u8 0, .int .u8 0, .int .u8 0, .int .u8 0, .int .u8 0, .int .u8 0, .int .u8 0, .int .u8 0, .int .u8 0, .int .u8 0, .int .u8 0, .int .u8 0, .int .u8 0, .int .u8 0, .int .u8 0, .int .u8 0, .int .u8 0, .int .u8 0, .int .u8 0, .int .u8 0, .int .u8 0, .int .u8 0] 39))) := Bl.hid (((Bl.ext_alloc _ _).trans (Bl.ext_alloc _ _)).trans (Bl.ext_alloc _ _))
  obtain ⟨W, hW⟩ : ∃ W, W = ((w.alloc (.cells (Bl.ints .u8 l).toArray 39)).alloc (.cells (Bl.ints .u8 r).toArray 39)).alloc (.cells #[.int .u8 0, .int .u8 0, .int .u8 0, .int .u8 0, .int .u8 0, .int .u8 0, .int .u8 0, .int .u8 0, .int .u8 0, .int .u8 0, .int .u8 0, .int .u8 0, .int .u8 0, .int .u8 0, .int .u8 0, .int .u8 0, .int .u8 0, .int .u8 0, .int .u8 0, .int .u8 0, .int .u8 0, .int .u8 0, .int .u8 0, .int .u8 0, .int .u8 0, .int .u8 0, .int .u8 0, .int .u8 0, .int .u8 0, .int .u8 0, .int .u8 0, .int .u8 0] 39) := ⟨_, rfl⟩
  rw [← hW] at h1 h2 h3 HE ⊢
  have Hld1 := Bl.hid (Bl.load_ints (P := Tryd.prog) (ty := 39) h1 Tryd.underlying39 (by kernel_rfl) Hl.out)
  have Hld2 := Bl.hid (Bl.load_ints (P := Tryd.prog) (ty := 39) h2 Tryd.underlying39 (by kernel_rfl) Hr.out)
  have HF0 := Bl.hid h3
  clear hW h1 h2 h3
  refine Bl.wpL_load rfl Hld1.out ?_
  go_wp2_with (with_reducible refine Bl.stop_load (ty := 39) ?_)
  refine Bl.go_on ?_
  refine Bl.wpL_load rfl Hld2.out ?_
  clear Hld1 Hld2
  go_wp2_with fail
  refine (inner_any l r W Hl.out Hr.out).mono ?_
  rintro e w1 ⟨v1, rfl, hr1, hE1⟩
  obtain ⟨p1, c1, hf1, _, _⟩ := hr1.form
  obtain ⟨n1, hn1⟩ : ∃ n1, n1 = (1 :: (l ++ r)).length := ⟨_, rfl⟩
  rw [← hn1] at hf1
  clear hn1
  subst hf1
  have H1 := Bl.hid (Bl.rdss_1 hr1 80)
  have HE1 : Hid (Bl.Ext W (w1.alloc (.cells #[.slice p1 n1 c1] 80))) := Bl.hid (hE1.trans (Bl.ext_alloc _ _))
  clear hr1 hE1
  go_wp2_with fail
  refine (of_any _ [1 :: (l ++ r)] _ H1.out (Hg.out.ext (HE.out.trans HE1.out)) (by simpa using Hby.out) (by simp [Hl.out, Hr.out])).mono ?_
  rintro e w2 ⟨rfl, hE2⟩
  have hsh : Bl.sha ([1 :: (l ++ r)] : List (List Int)).flatten = Bl.ndD l r := by unfold Bl.ndD; rw [List.flatten_singleton]
  rw [hsh]
  obtain ⟨sh, hsh⟩ : ∃ sh, sh = Bl.ndD l r := ⟨_, rfl⟩
  have Hshl : Hid (sh.length = 32) := Bl.hid (by rw [hsh]; rfl)
  have Hsh := Bl.hid hsh
  rw [← hsh]
  have HE2 := Bl.hid (HE1.out.trans hE2)
  clear hE2 H1 HE1 hsh
  have HFc := Bl.hid (HF0.out.below HE2.out (World.block_lt_of_cell? _ _ (HF0.out.1 0 (by decide))))
  have Hstc := Bl.hid (Bl.store_ints (P := Tryd.prog) (k := .u8) (ty := 39) (l := sh) HFc.out.there (by kernel_rfl) Hshl.out)
  go_wp2_with (((with_reducible refine Bl.wpL_store ?_ ?_ Hstc.out ?_); rfl; rfl))
  have hinc := World.rangeAt_setCells_same _ (w.heap.size + 1 + 1) 0 (Bl.ints .u8 sh) (by rw [Bl.ints_length, Hshl.out]; exact HFc.out.there)
  have hldc := run_loadVar_mid (P := Tryd.prog) _ (w.heap.size + 1 + 1) 0 39 (Bl.ints .u8 sh) _ hinc Tryd.underlying39 rfl (by rw [Bl.ints_length, Hshl.out]; kernel_rfl)
  refine bodyPost_ret (v := .agg (Bl.ints .u8 sh).toArray) (Bl.results_cell rfl rfl hldc) rfl ⟨by rw [Hsh.out], Bl.below_setCells _ _ _ _ (HE.out.trans HE2.out) (by omega)⟩

set_option maxRecDepth 100000 in
set_option maxHeartbeats 400000 in
theorem refleaf_any (v : Value) (l : List Int) (w : World) (hR : Bl.Rd w .u8 v l) (hg : GlobR w) (hby : Bl.Byt l) (hlen : l.length ≤ 1099511627000) :
    Calls Tryd.prog 64 #[v] w fun e w' => e = .returned (.agg (Bl.ints .u8 (Bl.lfD l)).toArray) ∧ Bl.Ext w w' := by
  obtain ⟨p, c, hvf, hvn, hvc⟩ := hR.form
  subst hvf
  have Hv := Bl.hid hR
  have Hg := Bl.hid hg
  have Hby := Bl.hid hby
  clear hR hg hby
  go_enter Tryd.func64, Tryd.ntmps64
  go_wp2_with (with_reducible refine Bl.stop_append ?_)
  refine Bl.go_on ?_
  have HF0 := Bl.hid (fam_new w 32 .u8 31 #[.int .u8 0, .int .u8 0, .int .u8 0, .int .u8 0, .int .u8 0, .int .u8 0, .int .u8 0, .int .u8 0, .int .u8 0, .int .u8 0, .int .u8 0, .int .u8 0, .int .u8 0, .int .u8 0, .int .u8 0, .int .u8 0, .int .u8 0, .int .u8 0, .int .u8 0, .int .u8 0, .int .u8 0, .int .u8 0, .int .u8 0, .int .u8 0, .int .u8 0, .int .u8 0, .int .u8 0, .int .u8 0, .int .u8 0, .int .u8 0, .int .u8 0, .int .u8 0] rfl)
  have HE0 := Bl.hid (Bl.ext_alloc w (.cells #[.int .u8 0, .int .u8 0, .int .u8 0, .int .u8 0, .int .u8 0, .int .u8 0, .int .u8 0, .int .u8 0, .int .u8 0, .int .u8 0, .int .u8 0, .int .u8 0, .int .u8 0, .int .u8 0, .int .u8 0, .int .u8 0, .int .u8 0, .int .u8 0, .int .u8 0, .int .u8 0, .int .u8 0, .int .u8 0, .int .u8 0, .int .u8 0, .int .u8 0, .int .u8 0, .int .u8 0, .int .u8 0, .int .u8 0, .int .u8 0, .int .u8 0, .int .u8 0] 31))
  have hown := Bl.owns_new (w.alloc (.cells #[.int .u8 0, .int .u8 0, .int .u8 0, .int .u8 0, .int .u8 0, .int .u8 0, .int .u8 0, .int .u8 0, .int .u8 0, .int .u8 0, .int .u8 0, .int .u8 0, .int .u8 0, .int .u8 0, .int .u8 0, .int .u8 0, .int .u8 0, .int .u8 0, .int .u8 0, .int .u8 0, .int .u8 0, .int .u8 0, .int .u8 0, .int .u8 0, .int .u8 0, .int .u8 0, .int .u8 0, .int .u8 0, .int .u8 0, .int .u8 0, .int .u8 0, .int .u8 0] 31)) 5 #[.int .u8 0] (w.heap.size + 1) 1 1 (by simp) (by decide) rfl
  simp only [World.size_alloc] at hown
  have hE1 := Bl.ext_alloc (w.alloc (.cells #[.int .u8 0, .int .u8 0, .int .u8 0, .int .u8 0, .int .u8 0, .int .u8 0, .int .u8 0, .int .u8 0, .int .u8 0, .int .u8 0, .int .u8 0, .int .u8 0, .int .u8 0, .int .u8 0, .int .u8 0, .int .u8 0, .int .u8 0, .int .u8 0, .int .u8 0, .int .u8 0, .int .u8 0, .int .u8 0, .int .u8 0, .int .u8 0, .int .u8 0, .int .u8 0, .int .u8 0, .int .u8 0, .int .u8 0, .int .u8 0, .int .u8 0, .int .u8 0] 31)) (.cells #[.int .u8 0] 5)
  have hs0 : (w.alloc (.cells #[.int .u8 0, .int .u8 0, .int .u8 0, .int .u8 0, .int .u8 0, .int .u8 0, .int .u8 0, .int .u8 0, .int .u8 0, .int .u8 0, .int .u8 0, .int .u8 0, .int .u8 0, .int .u8 0, .int .u8 0, .int .u8 0, .int .u8 0, .int .u8 0, .int .u8 0, .int .u8 0, .int .u8 0, .int .u8 0, .int .u8 0, .int .u8 0, .int .u8 0, .int .u8 0, .int .u8 0, .int .u8 0, .int .u8 0, .int .u8 0, .int .u8 0, .int .u8 0] 31)).heap.size = w.heap.size + 1 := by simp
  obtain ⟨W0, hW0⟩ : ∃ W0, W0 = w.alloc (.cells #[.int .u8 0, .int .u8 0, .int .u8 0, .int .u8 0, .int .u8 0, .int .u8 0, .int .u8 0, .int .u8 0, .int .u8 0, .int .u8 0, .int .u8 0, .int .u8 0, .int .u8 0, .int .u8 0, .int .u8 0, .int .u8 0, .int .u8 0, .int .u8 0, .int .u8 0, .int .u8 0, .int .u8 0, .int .u8 0, .int .u8 0, .int .u8 0, .int .u8 0, .int .u8 0, .int .u8 0, .int .u8 0, .int .u8 0, .int .u8 0, .int .u8 0, .int .u8 0] 31) := ⟨_, rfl⟩
  rw [← hW0] at HF0 HE0 hown hE1 hs0 ⊢
  have Hown := Bl.hid hown
  have HE1 := Bl.hid hE1
  have Hs0 := Bl.hid hs0
  clear hW0 hown hE1 hs0
  refine Bl.wpL_app tBytes Hown.out ((Hv.out.ext HE0.out).ext HE1.out) rfl rfl (by simp) (Bl.ints_one _ _) (by unfold maxLen; omega) (by omega) (by simp; rw [Hs0.out]; omega) ?_
  intro q d w2 hown2 hg2 hB2 hK2 hn2 hc2
  have hrd : Bl.Rd w2 .u8 (.slice q (1 + l.length) d) (0 :: l) := by
    have h := Bl.Rds.of_owns hown2
    show Bl.Rds _ _ (l.length + 1) _
    rw [Nat.add_comm l.length 1]; exact h
  have HE2 : Hid (Bl.Ext W0 w2) := Bl.hid (Below.trans HE1.out (by rw [Hs0.out]; exact hB2))
  have Hrd := Bl.hid hrd
  clear hown2 hg2 hB2 hK2 hrd HE1 Hown
  go_wp2_with fail
  refine (refof_any _ (0 :: l) w2 Hrd.out (Hg.out.ext (HE0.out.trans HE2.out)) (Bl.byt_cons (by decide) (by decide) Hby.out) (by simp; omega)).mono ?_
  rintro e w3 ⟨rfl, hE3⟩
  have hsh : Bl.sha (0 :: l) = Bl.lfD l := rfl
  rw [hsh]
  obtain ⟨sh, hsh⟩ : ∃ sh, sh = Bl.lfD l := ⟨_, rfl⟩
  have Hshl : Hid (sh.length = 32) := Bl.hid (by rw [hsh]; rfl)
  have Hsh := Bl.hid hsh
  rw [← hsh]
  have HE3 := Bl.hid (HE2.out.trans hE3)
  clear hE3 HE2 hsh Hrd
  have HFc := Bl.hid (HF0.out.below HE3.out (World.block_lt_of_cell? _ _ (HF0.out.1 0 (by decide))))
  have Hstc := Bl.hid (Bl.store_ints (P := Tryd.prog) (k := .u8) (ty := 31) (l := sh) HFc.out.there (by kernel_rfl) Hshl.out)
  go_wp2_with (((with_reducible refine Bl.wpL_store ?_ ?_ Hstc.out ?_); rfl; rfl))
  have hinc := World.rangeAt_setCells_same _ (w.heap.size) 0 (Bl.ints .u8 sh) (by rw [Bl.ints_length, Hshl.out]; exact HFc.out.there)
  have hldc := run_loadVar_mid (P := Tryd.prog) _ (w.heap.size) 0 31 (Bl.ints .u8 sh) _ hinc Tryd.underlying31 rfl (by rw [Bl.ints_length, Hshl.out]; kernel_rfl)
  refine bodyPost_ret (v := .agg (Bl.ints .u8 sh).toArray) (Bl.results_cell rfl rfl hldc) rfl ⟨by rw [Hsh.out], Bl.below_setCells _ _ _ _ (HE0.out.trans HE3.out) (Nat.le_refl _)⟩

set_option maxRecDepth 100000 in
set_option maxHeartbeats 400000 in
theorem refnode_any (l r : List Int) (w : World) (hl : l.length = 32) (hr : r.length = 32) (hbl : Bl.Byt l) (hbr : Bl.Byt r) (hg : GlobR w) :
    Calls Tryd.prog 63 #[.agg (Bl.ints .u8 l).toArray, .agg (Bl.ints .u8 r).toArray] w fun e w' => e = .returned (.agg (Bl.ints .u8 (Bl.ndD l r)).toArray) ∧ Bl.Ext w w' := by
  have Hl := Bl.hid hl
  have Hr := Bl.hid hr
  have Hby : Hid (Bl.Byt (1 :: (l ++ r))) := Bl.hid (Bl.byt_cons (by decide) (by decide) (hbl.append hbr))
  have Hg := Bl.hid hg
  clear hl hr hbl hbr hg
  go_enter Tryd.func63, Tryd.ntmps63
  go_wp2_with fail
  have h1 := Bl.rangeAt_ext (Bl.rangeAt_ext (Bl.range_box w l 31) (Bl.ext_alloc _ (.cells (Bl.ints .u8 r).toArray 31))) (Bl.ext_alloc _ (.cells #[.int .u8 0, .int .u8 0, .int .u8 0, .int .u8 0, .int .u8 0, .int .u8 0, .int .u8 0, .int .u8 0, .int .u8 0, .int .u8 0, .int .u8 0, .int .u8 0, .int .u8 0, .int .u8 0, .int .u8 0, .int .u8 0, .int .u8 0, .int .u8 0, .int .u8 0, .int .u8 0, .int .u8 0, .int .u8 0, .int .u8 0, .int .u8 0, .int .u8 0, .int .u8 0, .int .u8 0, .int .u8 0, .int .u8 0, .int .u8 0, .int .u8 0, .int .u8 0] 31))
  have h2 := Bl.rangeAt_ext (Bl.range_box (w.alloc (.cells (Bl.ints .u8 l).toArray 31)) r 31) (Bl.ext_alloc _ (.cells #[.int .u8 0, .int .u8 0, .int .u8 0, .int .u8 0, .int .u8 0, .int .u8 0, .int .u8 0, .int .u8 0, .int .u8 0, .int .u8 0, .int .u8 0, .int .u8 0, .int .u8 0, .int .u8 0, .int .u8 0, .int .u8 0, .int .u8 0, .int .u8 0, .int .u8 0, .int .u8 0, .int .u8 0, .int .u8 0, .int .u8 0, .int .u8 0, .int .u8 0, .int .u8 0, .int .u8 0, .int .u8 0, .int .u8 0, .int .u8 0, .int .u8 0, .int .u8 0] 31))
  rw [World.size_alloc] at h2
  have h3 := fam_new ((w.alloc (.cells (Bl.ints .u8 l).toArray 31)).alloc (.cells (Bl.ints .u8 r).toArray 31)) 32 .u8 31 #[.int .u8 0, .int .u8 0, .int .u8 0, .int .u8 0, .int .u8 0, .int .u8 0, .int .u8 0, .int .u8 0, .int .u8 0, .int .u8 0, .int .u8 0, .int .u8 0, .int .u8 0, .int .u8 0, .int .u8 0, .int .u8 0, .int .u8 0, .int .u8 0, .int .u8 0, .int .u8 0, .int .u8 0, .int .u8 0, .int .u8 0, .int .u8 0, .int .u8 0, .int .u8 0, .int .u8 0, .int .u8 0, .int .u8 0, .int .u8 0, .int .u8 0, .int .u8 0] rfl
  simp only [World.size_alloc] at h3
  have HE : Hid (Bl.Ext w (((w.alloc (.cells (Bl.ints .u8 l).toArray 31)).alloc (.cells (Bl.ints .u8 r).toArray 31)).alloc (.cells #[.int .u8 0, .int .u8 0, .int .u8 0, .int .u8 0, .int .u8 0, .int .u8 0, .int .u8 0, .int .u8 0, .int .u8 0, .int .u8 0, .int .u8 0, .int .u8 0, .int .u8 0, .int .u8 0, .int .u8 0, .int .u8 0, .int .u8 0, .int .u8 0, .int .u8 0, .int .u8 0, .int .u8 0, .int .u8 0, .int .u8 0, .int .u8 0, .int .u8 0, .int .u8 0, .int .u8 0, .int .u8 0, .int .u8 0, .int .u8 0, .int .u8 0, .int .u8 0] 31))) := Bl.hid (((Bl.ext_alloc _ _).trans (Bl.ext_alloc _ _)).trans (Bl.ext_alloc _ _))
  obtain ⟨W, hW⟩ : ∃ W, W = ((w.alloc (.cells (Bl.ints .u8 l).toArray 31)).alloc (.cells (Bl.ints .u8 r).toArray 31)).alloc (.cells #[.int .u8 0, .int .u8 0, .int .u8 0, .int .u8 0, .int .u8 0, .int .u8 0, .int .u8 0, .int .u8 0, .int .u8 0, .int .u8 0, .int .u8 0, .int .u8 0, .int .u8 0, .int .u8 0, .int .u8 0, .int .u8 0, .int .u8 0, .int .u8 0, .int .u8 0, .int .u8 0, .int .u8 0, .int .u8 0, .int .u8 0, .int .u8 0, .int .u8 0, .int .u8 0, .int .u8 0, .int .u8 0, .int .u8 0, .int .u8 0, .int .u8 0, .int .u8 0] 31) := ⟨_, rfl⟩
  rw [← hW] at h1 h2 h3 HE ⊢
  have HL := Bl.hid h1
  have HR := Bl.hid h2
  have HF0 := Bl.hid h3
  obtain ⟨B, hB⟩ : ∃ B, B = W.heap.size := ⟨_, rfl⟩
  have HB := Bl.hid hB
  clear hW h1 h2 h3 hB
  apply Bl.wp_region_ev 4 [5, 6, 7, 8] [(fun v w' => Bl.One1 w' v 1), Bl.eqv _, (fun v w' => Bl.OwnB w' v B 5 (1 + 32) (1 :: l)), Bl.eqv _] (by kernel_rfl) (by kernel_rfl) (by kernel_rfl) (by kernel_rfl)
  case hsteps =>
    refine ⟨?_, ?_, ?_, ?_, trivial⟩
    all_goals
      intro ev w1 hext hb hd
      have e2 := hb 2 (by decide)
      have e3 := hb 3 (by decide)
      clear hb
      simp only [Array.getD_eq_getD_getElem?, List.getElem?_toArray, List.getElem?_cons_succ, List.getElem?_cons_zero, Option.getD_some] at e2 e3
      simp only [Bl.DepsE, List.getElem?_cons_succ, List.getElem?_cons_zero, Option.bind_some, List.getD_cons_succ, List.getD_cons_zero, Bl.eqv, and_true] at hd
      have hc := (Bl.bcell hext).1
      simp only [Bl.Good, Region.wanted, if_true]
      first
      | (obtain ⟨c, w3, q1, q2, q3⟩ := Bl.app1 tBytes (Nat.le_refl 1) (B := B) hd.1 ⟨w.heap.size, hd.2, Bl.rangeAt_ext HL.out hext⟩ Hl.out (by decide) (by decide) (by rw [HB.out]; exact hext.size); refine Bl.goodR_appr q1 rfl rfl q2 ⟨_, c, rfl, q3⟩)
      | (go_simp; first | exact ⟨Bl.ext_alloc _ _, Bl.one1_new _ _ _⟩ | exact ⟨Below.refl _ _, rfl⟩)
  case hmono => exact ⟨(fun _ _ _ h k => Bl.One1.ext h k), Bl.mono_eqv _, (fun _ _ _ h k => Bl.OwnB.ext h k), Bl.mono_eqv _, trivial⟩
  case hend =>
    intro u w1 hext hend
    simp only [Bl.EndE, List.getElem?_cons_succ, List.getElem?_cons_zero, Option.bind_some, List.getD_cons_succ, List.getD_cons_zero, Bl.eqv, true_and] at hend
    simp only [Bl.fillAct, List.setIfInBounds_toArray, List.set_cons_succ, List.set_cons_zero, List.drop_succ_cons, List.drop_zero, hend]
    obtain ⟨⟨⟨_, _⟩, p, c, hq, hown⟩, _⟩ := hend
    rw [hq] at hown ⊢
    have Hown := Bl.hid hown
    have HR1 := Bl.hid ((Bl.rd_box HR.out Hr.out (by decide)).ext hext)
    have HE1 := Bl.hid hext
    clear hown hq hext
    go_wp2_with (with_reducible refine Bl.stop_append ?_)
    refine Bl.go_on ?_
    refine Bl.wpL_app tBytes Hown.out HR1.out rfl rfl (by simp) (Bl.ints_one _ _) (by rw [Hr.out]; decide) (by rw [Hr.out]; decide) (by rw [HB.out]; exact HE1.out.size) ?_
    intro q d w2 hown2 hg2 hB2 hK2 hn2 hc2
    rw [← Bl.ints_append] at hown2
    have HE2 : Hid (Bl.Ext W w2) := Bl.hid (Below.trans HE1.out (by rw [HB.out] at hB2; exact hB2))
    have Hrd : Hid (Bl.Rd w2 .u8 (.slice q (1 + 32 + r.length) d) (1 :: (l ++ r))) := Bl.hid (by
      have h := Bl.Rds.of_owns hown2
      show Bl.Rds _ _ ((l ++ r).length + 1) _
      rw [List.length_append, Hl.out, show 32 + r.length + 1 = 1 + 32 + r.length from by omega]; exact h)
    clear hown2 hg2 hB2 hK2 Hown HR1 HE1
    go_wp2_with fail
    refine (refof_any _ (1 :: (l ++ r)) w2 Hrd.out (Hg.out.ext (HE.out.trans HE2.out)) Hby.out (by simp [Hl.out, Hr.out])).mono ?_
    rintro e w3 ⟨rfl, hE3⟩
    have hsh : Bl.sha (1 :: (l ++ r)) = Bl.ndD l r := rfl
    rw [hsh]
    obtain ⟨sh, hsh⟩ : ∃ sh, sh = Bl.ndD l r := ⟨_, rfl⟩
    have Hshl : Hid (sh.length = 32) := Bl.hid (by rw [hsh]; rfl)
    have Hsh := Bl.hid hsh
    rw [← hsh]
    have HE3 := Bl.hid (HE2.out.trans hE3)
    clear hE3 HE2 hsh Hrd
    have HFc := Bl.hid (HF0.out.below HE3.out (World.block_lt_of_cell? _ _ (HF0.out.1 0 (by decide))))
    have Hstc := Bl.hid (Bl.store_ints (P := Tryd.prog) (k := .u8) (ty := 31) (l := sh) HFc.out.there (by kernel_rfl) Hshl.out)
    go_wp2_with (((with_reducible refine Bl.wpL_store ?_ ?_ Hstc.out ?_); rfl; rfl))
    have hinc := World.rangeAt_setCells_same _ (w.heap.size + 1 + 1) 0 (Bl.ints .u8 sh) (by rw [Bl.ints_length, Hshl.out]; exact HFc.out.there)
    have hldc := run_loadVar_mid (P := Tryd.prog) _ (w.heap.size + 1 + 1) 0 31 (Bl.ints .u8 sh) _ hinc Tryd.underlying31 rfl (by rw [Bl.ints_length, Hshl.out]; kernel_rfl)
    refine bodyPost_ret (v := .agg (Bl.ints .u8 sh).toArray) (Bl.results_cell rfl rfl hldc) rfl ⟨by rw [Hsh.out], Bl.below_setCells _ _ _ _ (HE.out.trans HE3.out) (by omega)⟩
end Go.Proofs.YtmfooocdnoflaaaDoor

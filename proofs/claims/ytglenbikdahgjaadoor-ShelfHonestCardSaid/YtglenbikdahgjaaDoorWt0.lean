/- Texts that stood apart, in one: ConB, WTree1, GlobR. -/
import Derived.Test.YtglenbikdahgjaaDoorBA1
import Derived.Test.YtglenbikdahgjaaDoorLib0
import Derived.Lib.AppendZerosOnto
import Derived.Test.YtglenbikdahgjaaDoorShaQ
import Derived.Test.YtglenbikdahgjaaDoorShaB
import Derived.Test.YtglenbikdahgjaaDoorShaA
/- Walks of slices.Grow and slices.Concat over bytes. -/
namespace Go.Proofs.YtglenbikdahgjaaDoor
open Go.RowKit Go.Proofs

set_option maxRecDepth 100000 in
set_option maxHeartbeats 400000 in
theorem growB_nil (n : Nat) (w : World) (h0 : 0 < n) (hn : n ≤ 1099511627776) :
    Calls Tryd.prog 66 #[.slice none 0 0, .int .i64 n] w fun e w' => ∃ c, e = .returned (.slice (some ⟨w.heap.size, 0, none⟩) 0 c) ∧ w'.ownsRow w.heap.size 5 1 (.slice (some ⟨w.heap.size, 0, none⟩) 0 c) 0 [] ∧ Bl.Ext w w' := by
  obtain ⟨i, hi, hz, hs1, hb1⟩ := info_parts tBytes.info
  have hrz : ∀ ty, (Builtin.append_ #[43, 3] ty #[.slice none 0 0, .int .i64 (n : Int)]).run Tryd.prog w =
      .ok (.slice (some ⟨w.heap.size, 0, none⟩) n (grownCap w (0 + n) 0 5)) (w.drew.alloc (.cells (([] : List Value).toArray ++ Builtin.zeroCells (Value.int .u8 0).cells n ++ Builtin.zeroCells (Value.int .u8 0).cells (grownCap w (0 + n) 0 5 - (0 + n))) 5)) := fun ty => by
    have h := Lib.run_append_grow_zeros w 43 3 ty 5 i (.int .u8 0) .i64 .i64 Tryd.underlying43 Tryd.underlying3 hi hz none 0 0 [] (run_firstCells_none w.drew i.size 0 0 0) n h0 (by omega) (by omega) (by omega) (by rw [hb1]; omega)
      (growslice_fits (by omega) (by rw [hb1]; omega))
    rw [Nat.zero_add] at h ⊢
    exact h
  have hge : 0 + n ≤ grownCap w (0 + n) 0 5 := grownCap_ge w _ _ _
  have hcm : grownCap w (0 + n) 0 5 ≤ maxLen := grownCap_le_maxLen w (0 + n) 0 _ (by unfold maxLen; omega)
  obtain ⟨G, hG⟩ : ∃ G, G = grownCap w (0 + n) 0 5 := ⟨_, rfl⟩
  rw [← hG] at hrz hge hcm
  have hsz : (([] : List Value).toArray ++ Builtin.zeroCells (Value.int .u8 0).cells n ++ Builtin.zeroCells (Value.int .u8 0).cells (G - (0 + n))).size = G * 1 := by
    simp only [Array.size_append, size_zeroCells, Value.cells, List.size_toArray, List.length_nil, List.length_cons]; omega
  obtain ⟨cs, hcs⟩ : ∃ cs, cs = ([] : List Value).toArray ++ Builtin.zeroCells (Value.int .u8 0).cells n ++ Builtin.zeroCells (Value.int .u8 0).cells (G - (0 + n)) := ⟨_, rfl⟩
  rw [← hcs] at hrz hsz
  have hown := World.ownsRow_made (w := w.drew) (base := w.heap.size) (e := 5) (size := 1) cs G (Nat.le_refl _) hcm hsz
  have Hown := Bl.hid hown
  unfold maxLen at hcm
  clear hcs hG hsz hown hi hz hs1 hb1
  go_enter Tryd.func66, Tryd.ntmps66
  go_wp2_with (with_reducible refine Bl.stop_append ?_)
  refine Bl.go_on ?_
  refine Bl.wpL_appr hrz rfl rfl ?_
  clear hrz
  go_wp2
  go_ret
  exact ⟨G, rfl, Hown.out, ((Below.refl _ _).drew).alloc (Nat.le_refl _) _⟩
set_option maxRecDepth 100000 in
set_option maxHeartbeats 400000 in
/-- slices.Concat of bytes: a row of the call's own -/
theorem concB_own (v : Value) (ps : List (List Int)) (w : World) (hR : Bl.Rdss w v ps) (h0 : 0 < ps.flatten.length) (hlen : ps.flatten.length ≤ 1099511627776) :
    Calls Tryd.prog 44 #[v] w fun e w' => ∃ v', e = .returned v' ∧ w'.ownsRow w.heap.size 5 1 v' ps.flatten.length (Bl.ints .u8 ps.flatten) ∧ Bl.Ext w w' := by
  obtain ⟨vs, hv, hvl, hvs⟩ := hR
  obtain ⟨p, c, hvf, hvn, hvc⟩ := hv.form
  subst hvf
  have Hv := Bl.hid hv
  have Hvs := Bl.hid hvs
  have Hvl := Bl.hid hvl
  obtain ⟨T, hT⟩ : ∃ T, T = ps.flatten.length := ⟨_, rfl⟩
  rw [← hT] at h0 hlen
  have HT := Bl.hid hT
  clear hv hvs hT hvl
  have hpl : ps.length ≤ 9223372036854775807 := by unfold maxLen at hvc; omega
  go_enter Tryd.func44, Tryd.ntmps44
  go_wp2_with fail
  go_loop [3, 11] (fun s i => ∃ k N : Nat, k ≤ ps.length ∧ i = .int .i64 k ∧ s = .int .i64 N ∧ Hid (N = (ps.take k).flatten.length) ∧ N ≤ T) (fun _ i => ps.length - (intOf i).toNat)
  case atStart => exact ⟨0, 0, Nat.zero_le _, rfl, rfl, rfl, Nat.zero_le _⟩
  case round =>
    obtain ⟨k, N, hk, rfl, rfl, HN, hNT⟩ := hrel
    by_cases hlt : k < ps.length
    · obtain ⟨b, o, hpe, hbl, hcell0⟩ : ∃ b o, p = some ⟨b, o, none⟩ ∧ b < w.heap.size ∧ w.cell? ⟨b, o + k, none⟩ = some (vs.getD k undef) := by
        rcases Hv.out with ⟨h1, h2, h3⟩ | ⟨b, o, c', h1, h2, h3, h4⟩
        · omega
        · cases h1
          refine ⟨b, o, rfl, Bl.rangeAt_lt h4 (fun q => by have := Hvl.out; rw [q] at this; simp at this; omega), h4 k _ ?_⟩
          rw [List.getD_eq_getElem?_getD, List.getElem?_eq_getElem (by rw [Hvl.out]; exact hlt)]; rfl
      subst hpe
      have hft := Bl.flat_take ps k hlt
      have hRk := Hvs.out k hlt
      obtain ⟨bs, hbs⟩ : ∃ bs, bs = ps.getD k [] := ⟨_, rfl⟩
      rw [← hbs] at hft hRk
      obtain ⟨pk, ck, hfk, hnk, hck⟩ := hRk.form
      rw [hfk] at hcell0
      have hN1 : Hid (N + bs.length = (ps.take (k + 1)).flatten.length) := by
        show _ = _
        rw [hft, List.length_append, HN.out]
      have hle : N + bs.length ≤ T := by rw [hN1.out, HT.out]; exact Bl.flat_len ps (k + 1)
      clear hft hRk hfk hbs
      have hneg : decide ((N : Int) + (bs.length : Int) < 0) = false := decide_eq_false (by omega)
      go_wp2_with fail
      go_round
      case rel => exact ⟨k + 1, N + bs.length, by omega, by go_num, by go_num, hN1.out, hle⟩
      case measure => simp [intOf]; omega
    · obtain rfl : k = ps.length := by omega
      obtain rfl : N = T := by rw [HN.out, HT.out, List.take_length]
      clear HN hNT
      go_wp2_with fail
      refine (growB_nil N w h0 hlen).mono ?_
      rintro e w1 ⟨c1, rfl, hown1, hE1⟩
      obtain ⟨B, hB⟩ : ∃ B, B = w.heap.size := ⟨_, rfl⟩
      rw [← hB] at hown1 ⊢
      have HB := Bl.hid hB
      have Hown1 := Bl.hid hown1
      have HE1 := Bl.hid hE1
      clear hown1 hE1 hB
      go_wp2_with fail
      go_loopw [6, 27] (fun s i wr => ∃ (k M : Nat) (p1 : Option Addr) (c1 : Nat), k ≤ ps.length ∧ i = .int .i64 k ∧ s = .slice p1 M c1 ∧ Hid (M = (ps.take k).flatten.length) ∧ M ≤ N ∧ wr.ownsRow B 5 1 (.slice p1 M c1) M (Bl.ints .u8 (ps.take k).flatten) ∧ Bl.Ext w wr) (fun _ i _ => ps.length - (intOf i).toNat)
      case atStart => exact ⟨0, 0, _, c1, Nat.zero_le _, rfl, rfl, rfl, Nat.zero_le _, Hown1.out, HE1.out⟩
      case round =>
        obtain ⟨k, M, p1, c1, hk, rfl, rfl, HM, hMN, hown, hE⟩ := hrel
        have Hown := Bl.hid hown
        have HE := Bl.hid hE
        clear hown hE Hown1 HE1
        by_cases hlt2 : k < ps.length
        · obtain ⟨b, o, hpe, hbl, hcell0⟩ : ∃ b o, p = some ⟨b, o, none⟩ ∧ b < wr.heap.size ∧ wr.cell? ⟨b, o + k, none⟩ = some (vs.getD k undef) := by
            rcases Hv.out.ext HE.out with ⟨h1, h2, h3⟩ | ⟨b, o, c', h1, h2, h3, h4⟩
            · omega
            · cases h1
              refine ⟨b, o, rfl, Bl.rangeAt_lt h4 (fun q => by have := Hvl.out; rw [q] at this; simp at this; omega), h4 k _ ?_⟩
              rw [List.getD_eq_getElem?_getD, List.getElem?_eq_getElem (by rw [Hvl.out]; exact hlt2)]; rfl
          subst hpe
          have hft := Bl.flat_take ps k hlt2
          have hRk := Hvs.out k hlt2
          obtain ⟨bs, hbs⟩ : ∃ bs, bs = ps.getD k [] := ⟨_, rfl⟩
          rw [← hbs] at hft hRk
          obtain ⟨pk, ck, hfk, hnk, hck⟩ := hRk.form
          rw [hfk] at hcell0 hRk
          have hRk2 := hRk.ext HE.out
          have HRk := Bl.hid hRk2
          have hN1 : Hid (M + bs.length = (ps.take (k + 1)).flatten.length) := by
            show _ = _
            rw [hft, List.length_append, HM.out]
          have hle : M + bs.length ≤ N := by rw [hN1.out, HT.out]; exact Bl.flat_len ps (k + 1)
          have Hft := Bl.hid hft
          clear hft hRk hRk2 hfk hbs
          go_wp2_with (with_reducible refine Bl.stop_append ?_)
          refine Bl.go_on ?_
          refine Bl.wpL_app tBytes Hown.out HRk.out rfl rfl (by simp) (Bl.ints_one _ _) (by unfold maxLen; omega) (by omega) (by rw [HB.out]; exact HE.out.size) ?_
          intro q3 d3 w2 hown2 hg2 hB2 hK2 hn2 hc2
          have Hown2 := Bl.hid hown2
          have HE2 : Hid (Bl.Ext w w2) := Bl.hid (Below.trans HE.out (by rw [HB.out] at hB2; exact hB2))
          clear hown2 hg2 hB2 hK2
          go_wp2_with fail
          go_roundw
          case rel =>
            refine ⟨k + 1, M + bs.length, q3, d3, by omega, by go_num, rfl, hN1.out, hle, ?_, HE2.out⟩
            rw [Hft.out, Bl.ints_append]
            exact Hown2.out
          case measure => simp [intOf]; omega
        · obtain rfl : k = ps.length := by omega
          go_wp2_with fail
          go_ret
          have h := Hown.out
          have hM := HM.out
          rw [List.take_length] at h hM
          rw [hM] at h ⊢
          exact ⟨_, rfl, by rw [← HB.out]; exact h, HE.out⟩
/-- slices.Concat of bytes -/
theorem concB_any (v : Value) (ps : List (List Int)) (w : World) (hR : Bl.Rdss w v ps) (h0 : 0 < ps.flatten.length) (hlen : ps.flatten.length ≤ 1099511627776) :
    Calls Tryd.prog 44 #[v] w fun e w' => ∃ v', e = .returned v' ∧ Bl.Rd w' .u8 v' ps.flatten ∧ Bl.Ext w w' :=
  (concB_own v ps w hR h0 hlen).mono fun _ _ ⟨v', h1, h2, h3⟩ => ⟨v', h1, Bl.Rds.of_owns h2, h3⟩
end Go.Proofs.YtglenbikdahgjaaDoor

/- Walks of slices.Grow, slices.Concat, tree.Outer, Inner, Leaf, Node, baileeref12.Leaf. -/
namespace Go.Proofs.YtglenbikdahgjaaDoor
open Go.RowKit Go.Proofs

set_option maxRecDepth 100000 in
theorem outer_own (v : Value) (l : List Int) (w : World) (hR : Bl.Rd w .u8 v l) (hlen : l.length ≤ 1099511627000) :
    Calls Tryd.prog 69 #[v] w fun e w' => ∃ v', e = .returned v' ∧ w'.ownsRow w.heap.size 5 1 v' (l.length + 1) (Bl.ints .u8 (0 :: l)) ∧ Bl.Ext w w' := by
  obtain ⟨p, c, hvf, hvn, hvc⟩ := hR.form
  subst hvf
  have Hv := Bl.hid (hR.ext (Bl.ext_alloc w (.cells #[.int .u8 0] 5)))
  have Hown := Bl.hid (Bl.owns_new w 5 #[.int .u8 0] w.heap.size 1 1 (Nat.le_refl _) (by decide) rfl)
  clear hR
  go_enter Tryd.func69, Tryd.ntmps69
  go_wp2_with (with_reducible refine Bl.stop_append ?_)
  refine Bl.go_on ?_
  refine Bl.wpL_app tBytes Hown.out Hv.out rfl rfl (by simp) (Bl.ints_one _ _) (by unfold maxLen; omega) (by omega) (by simp) ?_
  intro q d w2 hown2 hg2 hB2 hK2 hn2 hc2
  have Hown2 := Bl.hid hown2
  have HE2 : Hid (Bl.Ext w w2) := Bl.hid (Below.trans (Bl.ext_alloc w _) hB2)
  clear hown2 hg2 hB2 hK2
  go_wp2_with fail
  go_ret
  refine ⟨_, rfl, ?_, HE2.out⟩
  have h := Hown2.out
  rw [Nat.add_comm l.length 1]; exact h
theorem outer_any (v : Value) (l : List Int) (w : World) (hR : Bl.Rd w .u8 v l) (hlen : l.length ≤ 1099511627000) :
    Calls Tryd.prog 69 #[v] w fun e w' => ∃ v', e = .returned v' ∧ Bl.Rd w' .u8 v' (0 :: l) ∧ Bl.Ext w w' :=
  (outer_own v l w hR hlen).mono fun _ _ ⟨v', h1, h2, h3⟩ => ⟨v', h1, Bl.Rds.of_owns h2, h3⟩
end Go.Proofs.YtglenbikdahgjaaDoor

/- What the tables of package sha and of the reference hold. -/
namespace Go.Proofs.YtglenbikdahgjaaDoor
open Go.RowKit Go.Proofs
/-- the tables of package sha and of the reference -/
structure GlobR (w : World) : Prop where
  s : Glob w
  radded : ∀ i, i < 64 → w.cell? ⟨7, i, none⟩ = some (.int .u32 (Bl.kt.getD i 0))
  rbegins : ∀ i, i < 8 → w.cell? ⟨6, i, none⟩ = some (.int .u32 (Bl.iv.getD i 0))
theorem GlobR.ext {w w' : World} (h : GlobR w) (hb : Bl.Ext w w') : GlobR w' := by
  have l3 := World.block_lt_of_cell? w _ (h.radded 0 (by decide))
  have l4 := World.block_lt_of_cell? w _ (h.rbegins 0 (by decide))
  exact ⟨h.s.ext hb, fun i hi => ((Bl.bcell hb).1 _ _ l3).trans (h.radded i hi), fun i hi => ((Bl.bcell hb).1 _ _ l4).trans (h.rbegins i hi)⟩
instance globR_coe (w : World) : Coe (GlobR w) (Glob w) := ⟨GlobR.s⟩
end Go.Proofs.YtglenbikdahgjaaDoor

/- Walk of path.bytesOf. -/
import Derived.Test.YtjmkcenkjnoblaaDoorWRevT
import Derived.Test.YtjmkcenkjnoblaaDoorOut
import Derived.Test.YtjmkcenkjnoblaaDoorPathQ
namespace Go.Proofs.Bl
open Go Go.RowKit
theorem stB_byt {d s : List Int} {t : Bool} (h1 : Byt d) (h2 : Byt s) : Byt (stB d t s) := by
  unfold stB inB; split
  · exact byt_cons (by decide) (by decide) (h1.append h2)
  · exact byt_cons (by decide) (by decide) (h2.append h1)
end Go.Proofs.Bl
namespace Go.Proofs.YtjmkcenkjnoblaaDoor
open Go.RowKit Go.Proofs

theorem tRw : Bl.SlT Tryd.prog 35 23 (.slice none 0 0) 1 24 := ⟨Tryd.underlying35, by kernel_rfl, rfl, by decide⟩

set_option maxRecDepth 100000 in
set_option maxHeartbeats 4000000 in
theorem bytesOf_any (n i : Nat) (vl vp : Value) (l : List Int) (p : List (List Int)) (w : World) (hn : n ≤ 512) (hi : i < n) (hl : Bl.Rd w .u8 vl l) (hbl : Bl.Byt l) (hll : l.length ≤ 1099511626000) (hp : Bl.RdD w vp p) (hdp : Bl.Dig p) (hpl : p.length = (Bl.turnsL n i).length) (hg : Glob w) :
    Calls Tryd.prog 33 #[.int .i64 n, .int .i64 i, vl, vp] w fun e w' => ∃ v', e = .returned v' ∧ Bl.Rdss w' v' (Bl.seqP n i l p) ∧ Bl.Ext w w' := by
  have HT := Bl.hid (turns_any n i w hn hi)
  have hTl := Bl.turnsL_len n n i (Nat.le_refl _) (by omega)
  have Hs0 := Bl.hid (Bl.seqP_zero n i l p)
  have Hsl := Bl.hid (Bl.seqP_len (l := l) hpl)
  have Hss := Bl.hid (fun k (hk : k < (Bl.turnsL n i).length) => Bl.seqP_succ (l := l) hpl k hk)
  obtain ⟨S, hS⟩ : ∃ S, S = Bl.seqP n i l p := ⟨_, rfl⟩
  rw [← hS] at Hs0 Hsl Hss ⊢
  obtain ⟨T, hT⟩ : ∃ T, T = Bl.turnsL n i := ⟨_, rfl⟩
  rw [← hT] at HT hTl Hsl Hss hpl
  obtain ⟨m, hm⟩ : ∃ m, m = T.length := ⟨_, rfl⟩
  rw [← hm] at HT hTl Hsl Hss hpl
  obtain ⟨pp, cp, hvpf, hvpn, hvpc⟩ := hp.form
  obtain ⟨pl, cl, hvlf, hvln, hvlc⟩ := hl.form
  subst hvpf hvlf
  rw [hpl] at hvpn ⊢
  have Hp : Hid (Bl.RdD w (.slice pp m cp) p) := Bl.hid (by rw [hpl] at hp; exact hp)
  have Hl := Bl.hid hl
  have Hbl := Bl.hid hbl
  have Hdp := Bl.hid hdp
  have Hpl := Bl.hid hpl
  have Hg := Bl.hid hg
  have Hm := Bl.hid hm
  clear hS hT hm hp hl hbl hdp hpl hg hvpc hvlc
  go_enter Tryd.func33, Tryd.ntmps33
  go_wp2_with fail
  refine HT.out.mono ?_
  rintro e w1 ⟨pt, ct, rfl, hown1, hE1⟩
  have Hown1 := Bl.hid hown1
  have HE1 := Bl.hid hE1
  clear hown1 hE1 HT
  go_wp2_with fail
  refine (revT_any pt m ct w.heap.size _ T w1 Hm.out.symm Hown1.out (by omega)).mono ?_
  rintro e w2 ⟨rfl, hR2, hB2⟩
  have HT2 : Hid (Bl.Rds w2 (.slice pt m ct) T.reverse.length (Bl.cellsT T.reverse)) := Bl.hid (by rw [List.length_reverse, ← Hm.out]; exact hR2)
  have HE2 : Hid (Bl.Ext w w2) := Bl.hid (Below.trans HE1.out hB2)
  clear hR2 hB2 HE1 Hown1
  go_wp2_with fail
  refine (outer_own _ l w2 (Hl.out.ext HE2.out) (by omega)).mono ?_
  rintro e w3 ⟨v0, rfl, hown3, hE3⟩
  obtain ⟨g0, c0, rfl, hc0, hcm0, hr0, hg0, hg0l, hl0⟩ := Bl.own_pos hown3 (by omega)
  have hF : Bl.OutB 23 (w3.heap.size + 1) (w3.alloc (.cells #[.slice (some ⟨g0, 0, none⟩) (l.length + 1) c0] 23)) w3.heap.size (.slice (some ⟨w3.heap.size, 0, none⟩) 1 1) [0 :: l] [.slice (some ⟨g0, 0, none⟩) (l.length + 1) c0] := Bl.OutB.first (l := 0 :: l) (Nat.le_refl w3.heap.size) hr0 hg0l hc0 hcm0 (by simp)
  have HE3 := Bl.hid (HE2.out.trans hE3)
  have HEa : Hid (Bl.Ext w3 (w3.alloc (.cells #[.slice (some ⟨g0, 0, none⟩) (l.length + 1) c0] 23))) := Bl.hid (Bl.ext_alloc _ _)
  have HT3 := Bl.hid (HT2.out.ext hE3)
  have hsa : (w3.alloc (.cells #[.slice (some ⟨g0, 0, none⟩) (l.length + 1) c0] 23)).heap.size = w3.heap.size + 1 := World.size_alloc _ _
  clear hown3 hE3 hr0 hg0 hl0 hc0 hcm0 HT2 HE2 hg0l
  go_wp2_with fail
  obtain ⟨W4, hW4⟩ : ∃ W4, W4 = w3.alloc (.cells #[.slice (some ⟨g0, 0, none⟩) (l.length + 1) c0] 23) := ⟨_, rfl⟩
  rw [← hW4] at hF HEa hsa ⊢
  obtain ⟨B, hB⟩ : ∃ B, B = w3.heap.size := ⟨_, rfl⟩
  rw [← hB] at hF hsa ⊢
  have HB := Bl.hid hB
  have HF := Bl.hid hF
  have HG3 := Bl.hid (Hg.out.ext HE3.out)
  have Hsa := Bl.hid hsa
  clear hF hW4 hB hsa
  refine (leaf_any _ l W4 (Hl.out.ext (HE3.out.trans HEa.out)) (HG3.out.ext HEa.out) Hbl.out (by omega)).mono ?_
  rintro e w4 ⟨rfl, hE4⟩
  have hs4 : B + 1 ≤ w4.heap.size := by rw [← Hsa.out]; exact hE4.size
  have HF4 : Hid (Bl.OutB 23 w4.heap.size w4 B (.slice (some ⟨B, 0, none⟩) 1 1) [0 :: l] [.slice (some ⟨g0, 0, none⟩) (l.length + 1) c0]) := Bl.hid (by
    have h := HF.out.ext hE4
    refine ⟨h.rows, fun q => ?_, fun j hj => ?_⟩
    · have := (h.rows.lt _ q).2; omega
    · obtain ⟨g, o, c, e1, e2, e3, e4, e5, e6, _⟩ := h.elts j hj
      exact ⟨g, o, c, e1, e2, e3, e4, e5, e6, by omega⟩)
  have HFz := Bl.hid (fam_new w4 32 .u8 42 #[.int .u8 0, .int .u8 0, .int .u8 0, .int .u8 0, .int .u8 0, .int .u8 0, .int .u8 0, .int .u8 0, .int .u8 0, .int .u8 0, .int .u8 0, .int .u8 0, .int .u8 0, .int .u8 0, .int .u8 0, .int .u8 0, .int .u8 0, .int .u8 0, .int .u8 0, .int .u8 0, .int .u8 0, .int .u8 0, .int .u8 0, .int .u8 0, .int .u8 0, .int .u8 0, .int .u8 0, .int .u8 0, .int .u8 0, .int .u8 0, .int .u8 0, .int .u8 0] rfl)
  have HBx := Bl.hid (Bl.BoxD.of_fam HFz.out (d := Bl.lfD l) (Bl.lfD_length l))
  have Hst := Bl.hid (Bl.store_ints (P := Tryd.prog) (ty := 42) (k := .u8) (l := Bl.lfD l) (n := 32) HFz.out.there (by kernel_rfl) (Bl.lfD_length l))
  have HO5 := Bl.hid ((HF4.out.ext (Bl.ext_alloc w4 (.cells #[.int .u8 0, .int .u8 0, .int .u8 0, .int .u8 0, .int .u8 0, .int .u8 0, .int .u8 0, .int .u8 0, .int .u8 0, .int .u8 0, .int .u8 0, .int .u8 0, .int .u8 0, .int .u8 0, .int .u8 0, .int .u8 0, .int .u8 0, .int .u8 0, .int .u8 0, .int .u8 0, .int .u8 0, .int .u8 0, .int .u8 0, .int .u8 0, .int .u8 0, .int .u8 0, .int .u8 0, .int .u8 0, .int .u8 0, .int .u8 0, .int .u8 0, .int .u8 0] 42))).set (Bl.ints .u8 (Bl.lfD l)))
  have HE5 : Hid (Bl.Ext w3 ((w4.alloc (.cells #[.int .u8 0, .int .u8 0, .int .u8 0, .int .u8 0, .int .u8 0, .int .u8 0, .int .u8 0, .int .u8 0, .int .u8 0, .int .u8 0, .int .u8 0, .int .u8 0, .int .u8 0, .int .u8 0, .int .u8 0, .int .u8 0, .int .u8 0, .int .u8 0, .int .u8 0, .int .u8 0, .int .u8 0, .int .u8 0, .int .u8 0, .int .u8 0, .int .u8 0, .int .u8 0, .int .u8 0, .int .u8 0, .int .u8 0, .int .u8 0, .int .u8 0, .int .u8 0] 42)).setCells w4.heap.size 0 (Bl.ints .u8 (Bl.lfD l)))) := Bl.hid (Below.trans (HEa.out.trans hE4) ((Bl.below_setCells _ _ _ _ (Bl.ext_alloc _ _) (Nat.le_refl _)).mono (by rw [← HB.out]; omega)))
  clear hE4 HF HFz HEa
  go_wp2_with (with_reducible refine Bl.stop_store (ty := 42) ?_)
  refine Bl.go_on ?_
  refine Bl.wpL_store0 rfl rfl Hst.out ?_
  clear Hst
  obtain ⟨X, hX⟩ : ∃ X, X = w4.heap.size := ⟨_, rfl⟩
  rw [← hX] at HBx HO5 HE5 hs4 ⊢
  obtain ⟨W5, hW5⟩ : ∃ W5, W5 = (w4.alloc (.cells #[.int .u8 0, .int .u8 0, .int .u8 0, .int .u8 0, .int .u8 0, .int .u8 0, .int .u8 0, .int .u8 0, .int .u8 0, .int .u8 0, .int .u8 0, .int .u8 0, .int .u8 0, .int .u8 0, .int .u8 0, .int .u8 0, .int .u8 0, .int .u8 0, .int .u8 0, .int .u8 0, .int .u8 0, .int .u8 0, .int .u8 0, .int .u8 0, .int .u8 0, .int .u8 0, .int .u8 0, .int .u8 0, .int .u8 0, .int .u8 0, .int .u8 0, .int .u8 0] 42)).setCells X 0 (Bl.ints .u8 (Bl.lfD l)) := ⟨_, rfl⟩
  rw [← hW5] at HBx HO5 HE5 ⊢
  clear hX hW5 HF4 Hsa
  have Hst1 : Hid ((∃ vs, Bl.OutB 23 X W5 B (.slice (some ⟨B, 0, none⟩) (0 + 1) 1) (S.take (0 + 1)) vs) ∧ Bl.BoxD W5 X (Bl.sha (S.getD 0 []))) := Bl.hid ⟨⟨_, by
    have h1 : S.take (0 + 1) = [0 :: l] := by rw [Bl.take_snocD S 0 (by rw [Hsl.out]; omega), Hs0.out]; rfl
    rw [h1]; exact HO5.out⟩, by rw [Hs0.out]; exact HBx.out⟩
  clear HO5 HBx
  go_wp2_with fail
  go_loopw [10, 27] (fun out x wr => ∃ (k c1 : Nat) (p1 : Option Addr), k ≤ m ∧ x = .int .i64 k ∧ out = .slice p1 (k + 1) c1 ∧ Hid ((∃ vs, Bl.OutB 23 X wr B (.slice p1 (k + 1) c1) (S.take (k + 1)) vs) ∧ Bl.BoxD wr X (Bl.sha (S.getD k []))) ∧ Bl.Ext w3 wr) (fun _ x _ => m - (intOf x).toNat)
  case atStart => exact ⟨0, 1, _, Nat.zero_le _, rfl, rfl, Hst1.out, HE5.out⟩
  case round =>
    obtain ⟨k, c1, p1, hk, rfl, rfl, HA, hE⟩ := hrel
    have HE := Bl.hid hE
    clear hE Hst1 HE5
    by_cases hlt : k < m
    · obtain ⟨⟨vs, hO⟩, hBx⟩ := HA.out
      have HO := Bl.hid hO
      have HBx := Bl.hid hBx
      obtain ⟨b, o, cc, hpe, hcn, hcm, hbl, hrg⟩ := Bl.RdT.pos (HT3.out.ext HE.out) (by rw [List.length_reverse, ← Hm.out]; omega)
      injection hpe with hpe1 hpe2 hpe3
      clear hpe2 hpe3
      subst hpe1
      obtain ⟨b2, o2, c2, hq, hq1, hq2, hbl2, hrg2⟩ := Bl.RdD.pos (by have h := Bl.Rds.ext Hp.out (HE3.out.trans HE.out); rw [← Hpl.out] at h; exact h) Hdp.out (by rw [Hpl.out]; omega)
      injection hq with hq3 hq4 hq5
      clear hq4 hq5
      subst hq3
      have hr2 := Bl.digit_at hrg2 Hdp.out (i := k) (by rw [Hpl.out]; exact hlt)
      obtain ⟨hsl, hsb⟩ := Hdp.out.get (i := k) (by rw [Hpl.out]; exact hlt)
      have hnx := Hss.out k hlt
      obtain ⟨⟨x, n', i'⟩, he⟩ : ∃ t, T.reverse.getD k default = t := ⟨_, rfl⟩
      rw [he] at hnx
      have Hld := Bl.hid (run_loadAt_mid (P := Tryd.prog) wr b (o + k * 3) 82 _ _ (Bl.turn_at hrg (by rw [List.length_reverse, ← Hm.out]; exact hlt) he) Tryd.underlying82 rfl (by kernel_rfl))
      have Htk := Bl.hid (Bl.take_snocD S (k + 1) (by rw [Hsl.out]; omega))
      have HtL : Hid ((S.take (k + 1)).length = k + 1) := Bl.hid (by rw [List.length_take, Hsl.out]; omega)
      obtain ⟨s, hs⟩ : ∃ s, s = p.getD k [] := ⟨_, rfl⟩
      rw [← hs] at hr2 hsl hsb hnx
      obtain ⟨d, hd⟩ : ∃ d, d = Bl.sha (S.getD k []) := ⟨_, rfl⟩
      have hdl : d.length = 32 := by rw [hd]; rfl
      have hdb : Bl.Byt d := by rw [hd]; exact Bl.sha_byt _
      rw [← hd] at hnx HBx
      obtain ⟨nx, hnxe⟩ : ∃ nx, nx = S.getD (k + 1) [] := ⟨_, rfl⟩
      rw [← hnxe] at hnx Htk
      have Hnxe := Bl.hid hnxe
      have HnL : Hid (nx.length = 65) := Bl.hid (by rw [hnx]; exact Bl.stB_len hdl hsl)
      have HnB : Hid (Bl.Byt nx) := Bl.hid (by rw [hnx]; exact Bl.stB_byt hdb hsb)
      have Hnx := Bl.hid hnx
      have Hr2 := Bl.hid hr2
      have Hsl := Bl.hid hsl
      have Hdl := Bl.hid hdl
      have hkb0 : (0 : Int) ≤ (k : Int) := by omega
      have hkb1 : (k : Int) < (m : Int) := by omega
      have HX : Hid (X < wr.heap.size) := Bl.hid HBx.out.lt
      clear hO hBx HA hcn hcm hbl hrg hq1 hq2 hbl2 hrg2 hr2 hsl hsb he hs hd hdl hdb hnx hnxe
      go_wp2_with (with_reducible refine Bl.stop_load (ty := 82) ?_)
      refine Bl.go_on ?_
      refine Bl.wpL_load rfl Hld.out ?_
      obtain ⟨hst, hc0, hc1, hEb⟩ := turn_box wr x n' i'
      have Hst := Bl.hid hst
      have HEb := Bl.hid hEb
      clear hst hEb Hld hc1
      go_wp2_with (with_reducible refine Bl.stop_store (ty := 82) ?_)
      refine Bl.go_on ?_
      refine Bl.wpL_store0 rfl rfl Hst.out ?_
      clear Hst
      generalize (wr.alloc (.cells #[.bool false, .int .i64 0, .int .i64 0] 82)).setCells wr.heap.size 0 [.bool x, .int .i64 n', .int .i64 i'] = W6 at *
      have hs67 := HEb.out.size
      have HBX : Hid (B < X) := Bl.hid (by omega)
      have HX6 : Hid (X < W6.heap.size) := Bl.hid (Nat.lt_of_lt_of_le HX.out hs67)
      have HO6 := Bl.hid (HO.out.ext HEb.out)
      have HB6 := Bl.hid (HBx.out.ext HEb.out)
      have HE6 := Bl.hid (HE.out.trans HEb.out)
      have HLs : Hid (∀ w2, Bl.Ext W6 w2 → (Instr.loadAt 42 (.pointer (some ⟨b2, o2 + k * 32, none⟩))).run Tryd.prog w2 = .ok (.agg (Bl.ints .u8 s).toArray) w2) := Bl.hid fun w2 h2 => Bl.load_ints (Bl.rangeAt_ext Hr2.out (HEb.out.trans h2)) Tryd.underlying42 (by kernel_rfl) Hsl.out
      have HLd : Hid (∀ w2, Bl.Ext W6 w2 → (Instr.loadAt 42 (.pointer (some ⟨X, 0, none⟩))).run Tryd.prog w2 = .ok (.agg (Bl.ints .u8 d).toArray) w2) := Bl.hid fun w2 h2 => (HB6.out.ext h2).load Tryd.underlying42 (by kernel_rfl)
      have HI1 : Hid (∀ w2, Bl.Ext W6 w2 → Calls Tryd.prog 52 #[.agg (Bl.ints .u8 s).toArray, .agg (Bl.ints .u8 d).toArray] w2 fun e w' => ∃ v', e = .returned v' ∧ w'.ownsRow W6.heap.size 5 1 v' 65 (Bl.ints .u8 (1 :: (s ++ d))) ∧ Bl.Ext w2 w') := Bl.hid fun w2 h2 => (inner_own s d w2 Hsl.out Hdl.out).mono fun e w' ⟨v', h3, h4, h5⟩ => ⟨v', h3, by
        rw [show (s ++ d).length + 1 = 65 from by rw [List.length_append, Hsl.out, Hdl.out]] at h4
        exact Bl.owns_mono h4 h2.size, h5⟩
      have HI2 : Hid (∀ w2, Bl.Ext W6 w2 → Calls Tryd.prog 52 #[.agg (Bl.ints .u8 d).toArray, .agg (Bl.ints .u8 s).toArray] w2 fun e w' => ∃ v', e = .returned v' ∧ w'.ownsRow W6.heap.size 5 1 v' 65 (Bl.ints .u8 (1 :: (d ++ s))) ∧ Bl.Ext w2 w') := Bl.hid fun w2 h2 => (inner_own d s w2 Hdl.out Hsl.out).mono fun e w' ⟨v', h3, h4, h5⟩ => ⟨v', h3, by
        rw [show (d ++ s).length + 1 = 65 from by rw [List.length_append, Hsl.out, Hdl.out]] at h4
        exact Bl.owns_mono h4 h2.size, h5⟩
      clear HE HEb HO HBx Hr2 hs67 hs4
      have FIN : Hid (∀ (wB : World) (gb cb : Nat), Bl.Ext W6 wB → wB.rangeAt gb 0 (Bl.ints .u8 nx) → W6.heap.size ≤ gb → gb < wB.heap.size → 65 ≤ cb → cb ≤ maxLen →
          ∀ (q3 : Option Addr) (d3 : Nat) (w9 : World), w9.ownsRow B 23 1 (.slice q3 (k + 1 + 1) d3) (k + 1 + 1) (vs ++ [.slice (some ⟨gb, 0, none⟩) 65 cb]) → (wB.alloc (.cells #[.slice (some ⟨gb, 0, none⟩) 65 cb] 23)).grownBy w9 (Value.slice p1 (k + 1) c1).ownBlock → Below B (wB.alloc (.cells #[.slice (some ⟨gb, 0, none⟩) 65 cb] 23)) w9 →
          (∀ q, (Value.slice q3 (k + 1 + 1) d3).ownBlock = some q → (Value.slice p1 (k + 1) c1).ownBlock = some q ∨ (wB.alloc (.cells #[.slice (some ⟨gb, 0, none⟩) 65 cb] 23)).heap.size ≤ q) →
          Bl.OutB 23 X w9 B (.slice q3 (k + 1 + 1) d3) (S.take (k + 1 + 1)) (vs ++ [.slice (some ⟨gb, 0, none⟩) 65 cb]) ∧ Bl.BoxD w9 X d ∧ Bl.Rd w9 .u8 (.slice (some ⟨gb, 0, none⟩) 65 cb) nx ∧ Bl.Ext w3 w9) := Bl.hid fun wB gb cb h1 h2 h3 h4 h5 h6 q3 d3 w9 h7 h8 h9 h10 => by
        have hst := Bl.OutB.step (ps := S.take (k + 1)) (l := nx) HO6.out h1 HX6.out h2 h3 h4 (by rw [HnL.out]; exact h5) h6 (out1 := .slice q3 (k + 1 + 1) d3) (w4 := w9) (by rw [HnL.out, HtL.out]; exact h7) (by rw [HnL.out]; exact h8) (by rw [HnL.out]; exact h10)
        rw [HnL.out, ← Htk.out] at hst
        have hne : (Value.slice p1 (k + 1) c1).ownBlock ≠ some gb := fun q => by have := (HO6.out.rows.lt gb q).2; omega
        refine ⟨hst, ((HB6.out.ext h1).ext (Bl.ext_alloc _ _)).grown h8 HO6.out.ox, ?_, Below.trans (HE6.out.trans (h1.trans (Bl.ext_alloc _ _))) (by rw [← HB.out]; exact h9)⟩
        show Bl.Rds w9 _ nx.length _
        rw [HnL.out]
        exact .inr ⟨gb, 0, cb, rfl, h5, h6, Bl.rangeAt_grown (Bl.rangeAt_ext h2 (Bl.ext_alloc _ _)) h8 hne⟩
      have HOr : Hid (∀ wB, Bl.Ext W6 wB → ∀ u, (wB.alloc (.cells #[u] 23)).ownsRow B 23 1 (.slice p1 (k + 1) c1) (k + 1) vs) := Bl.hid fun wB h u => by
        have h1 := Bl.owns_ext (Bl.owns_ext HO6.out.rows h) (Bl.ext_alloc wB (.cells #[u] 23))
        rw [HtL.out] at h1; exact h1
      have HBs : Hid (∀ wB, Bl.Ext W6 wB → ∀ u, B ≤ (wB.alloc (.cells #[u] 23)).heap.size) := Bl.hid fun wB h u => by
        rw [World.size_alloc]; have := h.size; have := HX6.out; have := HBX.out; omega
      have HEND : Hid (∀ w9 w10, Bl.BoxD w9 X d → Bl.Ext w9 w10 → (Instr.storeAt 42 (.pointer (some ⟨X, 0, none⟩)) (.agg (Bl.ints .u8 (Bl.sha nx)).toArray)).run Tryd.prog w10 = .ok () (w10.setCells X 0 (Bl.ints .u8 (Bl.sha nx)))) := Bl.hid fun w9 w10 h1 h2 => Bl.store_ints (n := 32) (h1.ext h2).th (by kernel_rfl) rfl
      cases x
      · have Hnx1 : Hid (nx = 1 :: (s ++ d)) := Bl.hid Hnx.out
        go_wp2_with fail
        apply Bl.wp_region_ev 6 [32, 33, 34, 35, 36, 37] [Bl.eqv _, Bl.eqv _, Bl.eqv _, Bl.eqv _, Bl.eqv _, (fun v w' => w'.ownsRow W6.heap.size 5 1 v 65 (Bl.ints .u8 (1 :: (s ++ d))))] (by kernel_rfl) (by kernel_rfl) (by kernel_rfl) (by kernel_rfl)
        case hsteps =>
          refine ⟨?_, ?_, ?_, ?_, ?_, ?_, trivial⟩
          all_goals
            intro ev w1 hext hb hd
            have e3 := hb 3 (by decide)
            have e11 := hb 11 (by decide)
            have e12 := hb 12 (by decide)
            clear hb
            simp only [Array.getD_eq_getD_getElem?, List.getElem?_toArray, List.getElem?_cons_succ, List.getElem?_cons_zero, Option.getD_some] at e3 e11 e12
            simp only [Bl.DepsE, List.getElem?_cons_succ, List.getElem?_cons_zero, Option.bind_some, List.getD_cons_succ, List.getD_cons_zero, Bl.eqv, and_true] at hd
            have hc := (Bl.bcell hext).1
            simp only [Bl.Good, Region.wanted, if_true]
            first
            | ((with_reducible refine Bl.goodR_load ?_ (HLs.out _ hext) ?_); exact hd; exact rfl) | ((with_reducible refine Bl.goodR_load ?_ (HLd.out _ hext) ?_); first | exact hd | exact e11; exact rfl)
            | (go_simp; first | (go_at_call 52; (with_reducible refine (HI1.out _ hext).mono ?_); rintro e w2 ⟨v2, rfl, hO2, hE2⟩; exact ⟨_, rfl, hE2, hO2⟩) | exact ⟨Below.refl _ _, rfl⟩ | exact ⟨Below.refl _ _, rfl⟩)
        case hmono => exact ⟨Bl.mono_eqv _, Bl.mono_eqv _, Bl.mono_eqv _, Bl.mono_eqv _, Bl.mono_eqv _, (fun _ _ _ h k => Bl.owns_ext h k), trivial⟩
        case hend =>
          intro u w1 hext hend
          simp only [Bl.EndE, List.getElem?_cons_succ, List.getElem?_cons_zero, Option.bind_some, List.getD_cons_succ, List.getD_cons_zero, Bl.eqv, true_and] at hend
          simp only [Bl.fillAct, List.setIfInBounds_toArray, List.set_cons_succ, List.set_cons_zero, List.drop_succ_cons, List.drop_zero, hend]
          obtain ⟨gb, cb, hvb, hcb, hcbm, hrb, hgb, hgbl, _⟩ := Bl.own_pos hend.2 (by omega)
          have hcc0 := ((Bl.bcell hext).1 _ 0 (World.block_lt_of_cell? _ _ hc0)).trans hc0
          rw [hvb]
          rw [← Hnx1.out] at hrb
          have Hrb := Bl.hid hrb
          have HEw := Bl.hid hext
          clear hext hend hvb hrb hc0
          go_wp2_with (with_reducible refine Bl.stop_append ?_)
          refine Bl.go_on ?_
          refine Bl.wpL_app tRw (HOr.out _ HEw.out _) (Bl.rds_val _ _ _) rfl rfl rfl (Bl.one_slice _ _ _) (by unfold maxLen; omega) (by omega) (HBs.out _ HEw.out _) ?_
          intro q3 d3 w9 hown9 hg9 hB9 hK9 hn9 hc9
          obtain ⟨hO9, hB9x, hR9, hE9⟩ := FIN.out _ gb cb HEw.out Hrb.out hgb hgbl hcb hcbm q3 d3 w9 hown9 hg9 hB9 hK9
          have HO9 := Bl.hid hO9
          have HB9 := Bl.hid hB9x
          have HR9 := Bl.hid hR9
          have HE9 := Bl.hid hE9
          clear hown9 hg9 hB9 hK9 hO9 hB9x hR9 hE9 hcc0 Hrb HEw hgb hgbl hcb hcbm hn9 hc9
          go_wp2_with fail
          refine (of_any _ [nx] (w9.alloc (.cells #[.slice (some ⟨gb, 0, none⟩) 65 cb] 23)) (Bl.rdss_1 HR9.out _) (HG3.out.ext (HE9.out.trans (Bl.ext_alloc _ _))) (by rw [List.flatten_singleton]; exact HnB.out) (by rw [List.flatten_singleton, HnL.out]; decide)).mono ?_
          rintro e w10 ⟨rfl, hE10⟩
          rw [List.flatten_singleton]
          have HE10 : Hid (Bl.Ext w9 w10) := Bl.hid ((Bl.ext_alloc _ _).trans hE10)
          clear hE10
          go_wp2_with (with_reducible refine Bl.stop_store (ty := 42) ?_)
          refine Bl.go_on ?_
          refine Bl.wpL_store0 rfl rfl (HEND.out w9 w10 HB9.out HE10.out) ?_
          have HA9 : Hid ((∃ vs, Bl.OutB 23 X (w10.setCells X 0 (Bl.ints .u8 (Bl.sha nx))) B (.slice q3 (k + 1 + 1) d3) (S.take (k + 1 + 1)) vs) ∧ Bl.BoxD (w10.setCells X 0 (Bl.ints .u8 (Bl.sha nx))) X (Bl.sha (S.getD (k + 1) []))) := Bl.hid ⟨⟨_, (HO9.out.ext HE10.out).set _⟩, by rw [← Hnxe.out]; exact (HB9.out.ext HE10.out).set rfl⟩
          have HE11 : Hid (Bl.Ext w3 (w10.setCells X 0 (Bl.ints .u8 (Bl.sha nx)))) := Bl.hid (Bl.below_setCells _ _ _ _ (HE9.out.trans HE10.out) (by rw [← HB.out]; exact Nat.le_of_lt HBX.out))
          generalize w10.setCells X 0 (Bl.ints .u8 (Bl.sha nx)) = W11 at *
          clear HO9 HB9 HR9 HE9 HE10
          go_wp2_with fail
          go_roundw
          case rel => exact ⟨k + 1, d3, q3, by omega, by go_num, rfl, HA9.out, HE11.out⟩
          case measure => simp [intOf]; omega
      · have Hnx1 : Hid (nx = 1 :: (d ++ s)) := Bl.hid Hnx.out
        go_wp2_with fail
        apply Bl.wp_region_ev 6 [32, 33, 34, 35, 36, 37] [Bl.eqv _, Bl.eqv _, Bl.eqv _, Bl.eqv _, Bl.eqv _, Bl.anyv] (by kernel_rfl) (by kernel_rfl) (by kernel_rfl) (by kernel_rfl)
        case hsteps =>
          refine ⟨?_, ?_, ?_, ?_, ?_, ?_, trivial⟩
          all_goals
            intro ev w1 hext hb hd
            have e3 := hb 3 (by decide)
            have e11 := hb 11 (by decide)
            have e12 := hb 12 (by decide)
            clear hb
            simp only [Array.getD_eq_getD_getElem?, List.getElem?_toArray, List.getElem?_cons_succ, List.getElem?_cons_zero, Option.getD_some] at e3 e11 e12
            simp only [Bl.DepsE, List.getElem?_cons_succ, List.getElem?_cons_zero, Option.bind_some, List.getD_cons_succ, List.getD_cons_zero, Bl.eqv, and_true] at hd
            have hc := (Bl.bcell hext).1
            simp only [Bl.Good, Region.wanted, if_true]
            first
            | ((with_reducible refine Bl.goodR_load ?_ (HLs.out _ hext) ?_); exact hd; exact rfl) | ((with_reducible refine Bl.goodR_load ?_ (HLd.out _ hext) ?_); first | exact hd | exact e11; exact rfl)
            | (go_simp; first | (go_at_call 52; (with_reducible refine (HI1.out _ hext).mono ?_); rintro e w2 ⟨v2, rfl, hO2, hE2⟩; exact ⟨_, rfl, hE2, trivial⟩) | exact ⟨Below.refl _ _, rfl⟩ | exact ⟨Below.refl _ _, rfl⟩)
        case hmono => exact ⟨Bl.mono_eqv _, Bl.mono_eqv _, Bl.mono_eqv _, Bl.mono_eqv _, Bl.mono_eqv _, (Bl.mono_anyv), trivial⟩
        case hend =>
          intro u w1 hext hend
          simp only [Bl.EndE, List.getElem?_cons_succ, List.getElem?_cons_zero, Option.bind_some, List.getD_cons_succ, List.getD_cons_zero, Bl.eqv, true_and] at hend
          simp only [Bl.fillAct, List.setIfInBounds_toArray, List.set_cons_succ, List.set_cons_zero, List.drop_succ_cons, List.drop_zero, hend]
          have hcc0 := ((Bl.bcell hext).1 _ 0 (World.block_lt_of_cell? _ _ hc0)).trans hc0
          have HEv := Bl.hid hext
          clear hext hend hc0
          go_wp2_with fail
          apply Bl.wp_region_ev 6 [40, 41, 42, 43, 44, 45] [Bl.eqv _, Bl.eqv _, Bl.eqv _, Bl.eqv _, Bl.eqv _, (fun v w' => w'.ownsRow W6.heap.size 5 1 v 65 (Bl.ints .u8 (1 :: (d ++ s))))] (by kernel_rfl) (by kernel_rfl) (by kernel_rfl) (by kernel_rfl)
          case hsteps =>
            refine ⟨?_, ?_, ?_, ?_, ?_, ?_, trivial⟩
            all_goals
              intro ev w1 hext hb hd
              have e3 := hb 3 (by decide)
              have e11 := hb 11 (by decide)
              have e12 := hb 12 (by decide)
              clear hb
              simp only [Array.getD_eq_getD_getElem?, List.getElem?_toArray, List.getElem?_cons_succ, List.getElem?_cons_zero, Option.getD_some] at e3 e11 e12
              simp only [Bl.DepsE, List.getElem?_cons_succ, List.getElem?_cons_zero, Option.bind_some, List.getD_cons_succ, List.getD_cons_zero, Bl.eqv, and_true] at hd
              have hc := (Bl.bcell hext).1
              simp only [Bl.Good, Region.wanted, if_true]
              first
              | ((with_reducible refine Bl.goodR_load ?_ (HLs.out _ (HEv.out.trans hext)) ?_); exact hd; exact rfl) | ((with_reducible refine Bl.goodR_load ?_ (HLd.out _ (HEv.out.trans hext)) ?_); first | exact hd | exact e11; exact rfl)
              | (go_simp; first | (go_at_call 52; (with_reducible refine (HI2.out _ (HEv.out.trans hext)).mono ?_); rintro e w2 ⟨v2, rfl, hO2, hE2⟩; exact ⟨_, rfl, hE2, hO2⟩) | exact ⟨Below.refl _ _, rfl⟩ | exact ⟨Below.refl _ _, rfl⟩)
          case hmono => exact ⟨Bl.mono_eqv _, Bl.mono_eqv _, Bl.mono_eqv _, Bl.mono_eqv _, Bl.mono_eqv _, (fun _ _ _ h k => Bl.owns_ext h k), trivial⟩
          case hend =>
            intro u w1 hext hend
            simp only [Bl.EndE, List.getElem?_cons_succ, List.getElem?_cons_zero, Option.bind_some, List.getD_cons_succ, List.getD_cons_zero, Bl.eqv, true_and] at hend
            simp only [Bl.fillAct, List.setIfInBounds_toArray, List.set_cons_succ, List.set_cons_zero, List.drop_succ_cons, List.drop_zero, hend]
            obtain ⟨gb, cb, hvb, hcb, hcbm, hrb, hgb, hgbl, _⟩ := Bl.own_pos hend.2 (by omega)
            rw [hvb]
            rw [← Hnx1.out] at hrb
            have Hrb := Bl.hid hrb
            have HEw := Bl.hid (HEv.out.trans hext)
            clear hext hend hvb hrb HEv hcc0
            go_wp2_with (with_reducible refine Bl.stop_append ?_)
            refine Bl.go_on ?_
            refine Bl.wpL_app tRw (HOr.out _ HEw.out _) (Bl.rds_val _ _ _) rfl rfl rfl (Bl.one_slice _ _ _) (by unfold maxLen; omega) (by omega) (HBs.out _ HEw.out _) ?_
            intro q3 d3 w9 hown9 hg9 hB9 hK9 hn9 hc9
            obtain ⟨hO9, hB9x, hR9, hE9⟩ := FIN.out _ gb cb HEw.out Hrb.out hgb hgbl hcb hcbm q3 d3 w9 hown9 hg9 hB9 hK9
            have HO9 := Bl.hid hO9
            have HB9 := Bl.hid hB9x
            have HR9 := Bl.hid hR9
            have HE9 := Bl.hid hE9
            clear hown9 hg9 hB9 hK9 hO9 hB9x hR9 hE9 Hrb HEw hgb hgbl hcb hcbm hn9 hc9
            go_wp2_with fail
            refine (of_any _ [nx] (w9.alloc (.cells #[.slice (some ⟨gb, 0, none⟩) 65 cb] 23)) (Bl.rdss_1 HR9.out _) (HG3.out.ext (HE9.out.trans (Bl.ext_alloc _ _))) (by rw [List.flatten_singleton]; exact HnB.out) (by rw [List.flatten_singleton, HnL.out]; decide)).mono ?_
            rintro e w10 ⟨rfl, hE10⟩
            rw [List.flatten_singleton]
            have HE10 : Hid (Bl.Ext w9 w10) := Bl.hid ((Bl.ext_alloc _ _).trans hE10)
            clear hE10
            go_wp2_with (with_reducible refine Bl.stop_store (ty := 42) ?_)
            refine Bl.go_on ?_
            refine Bl.wpL_store0 rfl rfl (HEND.out w9 w10 HB9.out HE10.out) ?_
            have HA9 : Hid ((∃ vs, Bl.OutB 23 X (w10.setCells X 0 (Bl.ints .u8 (Bl.sha nx))) B (.slice q3 (k + 1 + 1) d3) (S.take (k + 1 + 1)) vs) ∧ Bl.BoxD (w10.setCells X 0 (Bl.ints .u8 (Bl.sha nx))) X (Bl.sha (S.getD (k + 1) []))) := Bl.hid ⟨⟨_, (HO9.out.ext HE10.out).set _⟩, by rw [← Hnxe.out]; exact (HB9.out.ext HE10.out).set rfl⟩
            have HE11 : Hid (Bl.Ext w3 (w10.setCells X 0 (Bl.ints .u8 (Bl.sha nx)))) := Bl.hid (Bl.below_setCells _ _ _ _ (HE9.out.trans HE10.out) (by rw [← HB.out]; exact Nat.le_of_lt HBX.out))
            generalize w10.setCells X 0 (Bl.ints .u8 (Bl.sha nx)) = W11 at *
            clear HO9 HB9 HR9 HE9 HE10
            go_wp2_with fail
            go_roundw
            case rel => exact ⟨k + 1, d3, q3, by omega, by go_num, rfl, HA9.out, HE11.out⟩
            case measure => simp [intOf]; omega
    · obtain rfl : k = m := by omega
      obtain ⟨⟨vs, hO⟩, _⟩ := HA.out
      rw [List.take_of_length_le (by rw [Hsl.out]; exact Nat.le_refl _)] at hO
      have HO := Bl.hid hO
      clear hO HA
      go_wp2_with fail
      go_ret
      exact ⟨_, rfl, HO.out.rdss, HE3.out.trans HE.out⟩
end Go.Proofs.YtjmkcenkjnoblaaDoor

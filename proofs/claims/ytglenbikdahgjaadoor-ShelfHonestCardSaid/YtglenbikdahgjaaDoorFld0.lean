/- Texts that stood apart, in one: PathQ, WBytesOf, WFold, WRefMake, WRefFold. -/
import Derived.Test.YtglenbikdahgjaaDoorBA1
import Derived.Test.YtglenbikdahgjaaDoorShaQ
import Derived.Test.YtglenbikdahgjaaDoorPth0
import Derived.Test.YtglenbikdahgjaaDoorTri0
import Derived.Test.YtglenbikdahgjaaDoorWl0
/- What a path hashes on its way up, by places. No program. -/
namespace Go.Proofs.Bl
open Go
/-- a path's steps on the way up: whether the leaf stands left, and the digest beside -/
def zsP (T : List (Bool × Nat × Nat)) (p : List (List Int)) : List (Bool × List Int) := (T.reverse.zip p).map fun x => (x.1.1, x.2)
theorem zsP_len {T : List (Bool × Nat × Nat)} {p : List (List Int)} (h : p.length = T.length) : (zsP T p).length = T.length := by
  simp [zsP, h]
theorem zsP_get {T : List (Bool × Nat × Nat)} {p : List (List Int)} (h : p.length = T.length) (k : Nat) (hk : k < T.length) : (zsP T p)[k]'(by rw [zsP_len h]; exact hk) = ((T.reverse.getD k default).1, p.getD k []) := by
  simp only [zsP, List.getElem_map, List.getElem_zip]
  rw [List.getD_eq_getElem?_getD, List.getElem?_eq_getElem (by rw [List.length_reverse]; exact hk), List.getD_eq_getElem?_getD, List.getElem?_eq_getElem (by rw [h]; exact hk)]; rfl
/-- what a path hashes on its way up -/
def seqP (n i : Nat) (l : List Int) (p : List (List Int)) : List (List Int) := seqB sha (0 :: l) (zsP (turnsL n i) p)
theorem seqP_len {n i : Nat} {l : List Int} {p : List (List Int)} (h : p.length = (turnsL n i).length) : (seqP n i l p).length = (turnsL n i).length + 1 := by
  unfold seqP; rw [seqB_len, zsP_len h]
theorem seqP_zero (n i : Nat) (l : List Int) (p : List (List Int)) : (seqP n i l p).getD 0 [] = 0 :: l := seqB_zero sha _ _
theorem seqP_succ {n i : Nat} {l : List Int} {p : List (List Int)} (h : p.length = (turnsL n i).length) (k : Nat) (hk : k < (turnsL n i).length) :
    (seqP n i l p).getD (k + 1) [] = stB (sha ((seqP n i l p).getD k [])) ((turnsL n i).reverse.getD k default).1 (p.getD k []) := by
  unfold seqP
  rw [seqB_succ sha (zsP (turnsL n i) p) (0 :: l) k (by rw [zsP_len h]; exact hk), zsP_get h k hk]
theorem seqP_last {n i : Nat} {l : List Int} {p : List (List Int)} (h : p.length = (turnsL n i).length) : sha ((seqP n i l p).getD (turnsL n i).length []) = foldP ndD n i (lfD l) p := by
  have h1 := seqB_last sha (zsP (turnsL n i) p) (0 :: l)
  rw [zsP_len h] at h1
  unfold seqP
  rw [h1]
  unfold foldP zsP
  have key : ∀ (L : List ((Bool × Nat × Nat) × List Int)) (d : List Int), climbB sha d (L.map fun x => (x.1.1, x.2)) = climb ndD d L := by
    intro L
    induction L with
    | nil => intro d; rfl
    | cons a r ih =>
      intro d
      obtain ⟨t, s⟩ := a
      simp only [List.map_cons, climbB, climb]
      rw [ih]
      congr 1
      unfold stB upP
      by_cases ht : t.1 = true
      · rw [if_pos ht, if_pos ht]; rfl
      · rw [if_neg ht, if_neg ht]; rfl
  exact key _ _
theorem stB_len {d s : List Int} {t : Bool} (h1 : d.length = 32) (h2 : s.length = 32) : (stB d t s).length = 65 := by
  unfold stB inB; split <;> simp [h1, h2]
end Go.Proofs.Bl

/- Walk of path.bytesOf. -/
namespace Go.Proofs.Bl
open Go Go.RowKit
theorem stB_byt {d s : List Int} {t : Bool} (h1 : Byt d) (h2 : Byt s) : Byt (stB d t s) := by
  unfold stB inB; split
  · exact byt_cons (by decide) (by decide) (h1.append h2)
  · exact byt_cons (by decide) (by decide) (h2.append h1)
end Go.Proofs.Bl
namespace Go.Proofs.YtglenbikdahgjaaDoor
open Go.RowKit Go.Proofs

set_option maxRecDepth 100000 in
set_option maxHeartbeats 4000000 in
theorem bytesOf_any (n i : Nat) (vl vp : Value) (l : List Int) (p : List (List Int)) (w : World) (hn : n ≤ 512) (hi : i < n) (hl : Bl.Rd w .u8 vl l) (hbl : Bl.Byt l) (hll : l.length ≤ 1099511626000) (hp : Bl.RdD w vp p) (hdp : Bl.Dig p) (hpl : p.length = (Bl.turnsL n i).length) (hg : Glob w) :
    Calls Tryd.prog 53 #[.int .i64 n, .int .i64 i, vl, vp] w fun e w' => ∃ v', e = .returned v' ∧ Bl.Rdss w' v' (Bl.seqP n i l p) ∧ Bl.Ext w w' := by
  have HT := Bl.hid (turns_any n i w hn hi)
  have hTl := Bl.turnsL_len n n i (Nat.le_refl _) (by omega)
  have Hs0 := Bl.hid (Bl.seqP_zero n i l p)
  have Hsl := Bl.hid (Bl.seqP_len (l := l) hpl)
  have Hss := Bl.hid (fun k (hk : k < (Bl.turnsL n i).length) => Bl.seqP_succ (l := l) hpl k hk)
  obtain ⟨S, hS⟩ : ∃ S, S = Bl.seqP n i l p := ⟨_, rfl⟩
  rw [← hS] at Hs0 Hsl Hss ⊢
  obtain ⟨T, hT⟩ : ∃ T, T = Bl.turnsL n i := ⟨_, rfl⟩
  rw [← hT] at HT hTl Hsl Hss hpl
  obtain ⟨m, hm⟩ : ∃ m, m = T.length := ⟨_, rfl⟩
  rw [← hm] at HT hTl Hsl Hss hpl
  obtain ⟨pp, cp, hvpf, hvpn, hvpc⟩ := hp.form
  obtain ⟨pl, cl, hvlf, hvln, hvlc⟩ := hl.form
  subst hvpf hvlf
  rw [hpl] at hvpn ⊢
  have Hp : Hid (Bl.RdD w (.slice pp m cp) p) := Bl.hid (by rw [hpl] at hp; exact hp)
  have Hl := Bl.hid hl
  have Hbl := Bl.hid hbl
  have Hdp := Bl.hid hdp
  have Hpl := Bl.hid hpl
  have Hg := Bl.hid hg
  have Hm := Bl.hid hm
  clear hS hT hm hp hl hbl hdp hpl hg hvpc hvlc
  go_enter Tryd.func53, Tryd.ntmps53
  go_wp2_with fail
  refine HT.out.mono ?_
  rintro e w1 ⟨pt, ct, rfl, hown1, hE1⟩
  have Hown1 := Bl.hid hown1
  have HE1 := Bl.hid hE1
  clear hown1 hE1 HT
  go_wp2_with fail
  refine (revT_any pt m ct w.heap.size _ T w1 Hm.out.symm Hown1.out (by omega)).mono ?_
  rintro e w2 ⟨rfl, hR2, hB2⟩
  have HT2 : Hid (Bl.Rds w2 (.slice pt m ct) T.reverse.length (Bl.cellsT T.reverse)) := Bl.hid (by rw [List.length_reverse, ← Hm.out]; exact hR2)
  have HE2 : Hid (Bl.Ext w w2) := Bl.hid (Below.trans HE1.out hB2)
  clear hR2 hB2 HE1 Hown1
  go_wp2_with fail
  refine (outer_own _ l w2 (Hl.out.ext HE2.out) (by omega)).mono ?_
  rintro e w3 ⟨v0, rfl, hown3, hE3⟩
  obtain ⟨g0, c0, rfl, hc0, hcm0, hr0, hg0, hg0l, hl0⟩ := Bl.own_pos hown3 (by omega)
  have hF : Bl.OutB 43 (w3.heap.size + 1) (w3.alloc (.cells #[.slice (some ⟨g0, 0, none⟩) (l.length + 1) c0] 43)) w3.heap.size (.slice (some ⟨w3.heap.size, 0, none⟩) 1 1) [0 :: l] [.slice (some ⟨g0, 0, none⟩) (l.length + 1) c0] := Bl.OutB.first (l := 0 :: l) (Nat.le_refl w3.heap.size) hr0 hg0l hc0 hcm0 (by simp)
  have HE3 := Bl.hid (HE2.out.trans hE3)
  have HEa : Hid (Bl.Ext w3 (w3.alloc (.cells #[.slice (some ⟨g0, 0, none⟩) (l.length + 1) c0] 43))) := Bl.hid (Bl.ext_alloc _ _)
  have HT3 := Bl.hid (HT2.out.ext hE3)
  have hsa : (w3.alloc (.cells #[.slice (some ⟨g0, 0, none⟩) (l.length + 1) c0] 43)).heap.size = w3.heap.size + 1 := World.size_alloc _ _
  clear hown3 hE3 hr0 hg0 hl0 hc0 hcm0 HT2 HE2 hg0l
  go_wp2_with fail
  obtain ⟨W4, hW4⟩ : ∃ W4, W4 = w3.alloc (.cells #[.slice (some ⟨g0, 0, none⟩) (l.length + 1) c0] 43) := ⟨_, rfl⟩
  rw [← hW4] at hF HEa hsa ⊢
  obtain ⟨B, hB⟩ : ∃ B, B = w3.heap.size := ⟨_, rfl⟩
  rw [← hB] at hF hsa ⊢
  have HB := Bl.hid hB
  have HF := Bl.hid hF
  have HG3 := Bl.hid (Hg.out.ext HE3.out)
  have Hsa := Bl.hid hsa
  clear hF hW4 hB hsa
  refine (leaf_any _ l W4 (Hl.out.ext (HE3.out.trans HEa.out)) (HG3.out.ext HEa.out) Hbl.out (by omega)).mono ?_
  rintro e w4 ⟨rfl, hE4⟩
  have hs4 : B + 1 ≤ w4.heap.size := by rw [← Hsa.out]; exact hE4.size
  have HF4 : Hid (Bl.OutB 43 w4.heap.size w4 B (.slice (some ⟨B, 0, none⟩) 1 1) [0 :: l] [.slice (some ⟨g0, 0, none⟩) (l.length + 1) c0]) := Bl.hid (by
    have h := HF.out.ext hE4
    refine ⟨h.rows, fun q => ?_, fun j hj => ?_⟩
    · have := (h.rows.lt _ q).2; omega
    · obtain ⟨g, o, c, e1, e2, e3, e4, e5, e6, _⟩ := h.elts j hj
      exact ⟨g, o, c, e1, e2, e3, e4, e5, e6, by omega⟩)
  have HFz := Bl.hid (fam_new w4 32 .u8 41 #[.int .u8 0, .int .u8 0, .int .u8 0, .int .u8 0, .int .u8 0, .int .u8 0, .int .u8 0, .int .u8 0, .int .u8 0, .int .u8 0, .int .u8 0, .int .u8 0, .int .u8 0, .int .u8 0, .int .u8 0, .int .u8 0, .int .u8 0, .int .u8 0, .int .u8 0, .int .u8 0, .int .u8 0, .int .u8 0, .int .u8 0, .int .u8 0, .int .u8 0, .int .u8 0, .int .u8 0, .int .u8 0, .int .u8 0, .int .u8 0, .int .u8 0, .int .u8 0] rfl)
  have HBx := Bl.hid (Bl.BoxD.of_fam HFz.out (d := Bl.lfD l) (Bl.lfD_length l))
  have Hst := Bl.hid (Bl.store_ints (P := Tryd.prog) (ty := 41) (k := .u8) (l := Bl.lfD l) (n := 32) HFz.out.there (by kernel_rfl) (Bl.lfD_length l))
  have HO5 := Bl.hid ((HF4.out.ext (Bl.ext_alloc w4 (.cells #[.int .u8 0, .int .u8 0, .int .u8 0, .int .u8 0, .int .u8 0, .int .u8 0, .int .u8 0, .int .u8 0, .int .u8 0, .int .u8 0, .int .u8 0, .int .u8 0, .int .u8 0, .int .u8 0, .int .u8 0, .int .u8 0, .int .u8 0, .int .u8 0, .int .u8 0, .int .u8 0, .int .u8 0, .int .u8 0, .int .u8 0, .int .u8 0, .int .u8 0, .int .u8 0, .int .u8 0, .int .u8 0, .int .u8 0, .int .u8 0, .int .u8 0, .int .u8 0] 41))).set (Bl.ints .u8 (Bl.lfD l)))
  have HE5 : Hid (Bl.Ext w3 ((w4.alloc (.cells #[.int .u8 0, .int .u8 0, .int .u8 0, .int .u8 0, .int .u8 0, .int .u8 0, .int .u8 0, .int .u8 0, .int .u8 0, .int .u8 0, .int .u8 0, .int .u8 0, .int .u8 0, .int .u8 0, .int .u8 0, .int .u8 0, .int .u8 0, .int .u8 0, .int .u8 0, .int .u8 0, .int .u8 0, .int .u8 0, .int .u8 0, .int .u8 0, .int .u8 0, .int .u8 0, .int .u8 0, .int .u8 0, .int .u8 0, .int .u8 0, .int .u8 0, .int .u8 0] 41)).setCells w4.heap.size 0 (Bl.ints .u8 (Bl.lfD l)))) := Bl.hid (Below.trans (HEa.out.trans hE4) ((Bl.below_setCells _ _ _ _ (Bl.ext_alloc _ _) (Nat.le_refl _)).mono (by rw [← HB.out]; omega)))
  clear hE4 HF HFz HEa
  go_wp2_with (with_reducible refine Bl.stop_store (ty := 41) ?_)
  refine Bl.go_on ?_
  refine Bl.wpL_store0 rfl rfl Hst.out ?_
  clear Hst
  obtain ⟨X, hX⟩ : ∃ X, X = w4.heap.size := ⟨_, rfl⟩
  rw [← hX] at HBx HO5 HE5 hs4 ⊢
  obtain ⟨W5, hW5⟩ : ∃ W5, W5 = (w4.alloc (.cells #[.int .u8 0, .int .u8 0, .int .u8 0, .int .u8 0, .int .u8 0, .int .u8 0, .int .u8 0, .int .u8 0, .int .u8 0, .int .u8 0, .int .u8 0, .int .u8 0, .int .u8 0, .int .u8 0, .int .u8 0, .int .u8 0, .int .u8 0, .int .u8 0, .int .u8 0, .int .u8 0, .int .u8 0, .int .u8 0, .int .u8 0, .int .u8 0, .int .u8 0, .int .u8 0, .int .u8 0, .int .u8 0, .int .u8 0, .int .u8 0, .int .u8 0, .int .u8 0] 41)).setCells X 0 (Bl.ints .u8 (Bl.lfD l)) := ⟨_, rfl⟩
  rw [← hW5] at HBx HO5 HE5 ⊢
  clear hX hW5 HF4 Hsa
  have Hst1 : Hid ((∃ vs, Bl.OutB 43 X W5 B (.slice (some ⟨B, 0, none⟩) (0 + 1) 1) (S.take (0 + 1)) vs) ∧ Bl.BoxD W5 X (Bl.sha (S.getD 0 []))) := Bl.hid ⟨⟨_, by
    have h1 : S.take (0 + 1) = [0 :: l] := by rw [Bl.take_snocD S 0 (by rw [Hsl.out]; omega), Hs0.out]; rfl
    rw [h1]; exact HO5.out⟩, by rw [Hs0.out]; exact HBx.out⟩
  clear HO5 HBx
  go_wp2_with fail
  go_loopw [10, 27] (fun out x wr => ∃ (k c1 : Nat) (p1 : Option Addr), k ≤ m ∧ x = .int .i64 k ∧ out = .slice p1 (k + 1) c1 ∧ Hid ((∃ vs, Bl.OutB 43 X wr B (.slice p1 (k + 1) c1) (S.take (k + 1)) vs) ∧ Bl.BoxD wr X (Bl.sha (S.getD k []))) ∧ Bl.Ext w3 wr) (fun _ x _ => m - (intOf x).toNat)
  case atStart => exact ⟨0, 1, _, Nat.zero_le _, rfl, rfl, Hst1.out, HE5.out⟩
  case round =>
    obtain ⟨k, c1, p1, hk, rfl, rfl, HA, hE⟩ := hrel
    have HE := Bl.hid hE
    clear hE Hst1 HE5
    by_cases hlt : k < m
    · obtain ⟨⟨vs, hO⟩, hBx⟩ := HA.out
      have HO := Bl.hid hO
      have HBx := Bl.hid hBx
      obtain ⟨b, o, cc, hpe, hcn, hcm, hbl, hrg⟩ := Bl.RdT.pos (HT3.out.ext HE.out) (by rw [List.length_reverse, ← Hm.out]; omega)
      injection hpe with hpe1 hpe2 hpe3
      clear hpe2 hpe3
      subst hpe1
      obtain ⟨b2, o2, c2, hq, hq1, hq2, hbl2, hrg2⟩ := Bl.RdD.pos (by have h := Bl.Rds.ext Hp.out (HE3.out.trans HE.out); rw [← Hpl.out] at h; exact h) Hdp.out (by rw [Hpl.out]; omega)
      injection hq with hq3 hq4 hq5
      clear hq4 hq5
      subst hq3
      have hr2 := Bl.digit_at hrg2 Hdp.out (i := k) (by rw [Hpl.out]; exact hlt)
      obtain ⟨hsl, hsb⟩ := Hdp.out.get (i := k) (by rw [Hpl.out]; exact hlt)
      have hnx := Hss.out k hlt
      obtain ⟨⟨x, n', i'⟩, he⟩ : ∃ t, T.reverse.getD k default = t := ⟨_, rfl⟩
      rw [he] at hnx
      have Hld := Bl.hid (run_loadAt_mid (P := Tryd.prog) wr b (o + k * 3) 98 _ _ (Bl.turn_at hrg (by rw [List.length_reverse, ← Hm.out]; exact hlt) he) Tryd.underlying98 rfl (by kernel_rfl))
      have Htk := Bl.hid (Bl.take_snocD S (k + 1) (by rw [Hsl.out]; omega))
      have HtL : Hid ((S.take (k + 1)).length = k + 1) := Bl.hid (by rw [List.length_take, Hsl.out]; omega)
      obtain ⟨s, hs⟩ : ∃ s, s = p.getD k [] := ⟨_, rfl⟩
      rw [← hs] at hr2 hsl hsb hnx
      obtain ⟨d, hd⟩ : ∃ d, d = Bl.sha (S.getD k []) := ⟨_, rfl⟩
      have hdl : d.length = 32 := by rw [hd]; rfl
      have hdb : Bl.Byt d := by rw [hd]; exact Bl.sha_byt _
      rw [← hd] at hnx HBx
      obtain ⟨nx, hnxe⟩ : ∃ nx, nx = S.getD (k + 1) [] := ⟨_, rfl⟩
      rw [← hnxe] at hnx Htk
      have Hnxe := Bl.hid hnxe
      have HnL : Hid (nx.length = 65) := Bl.hid (by rw [hnx]; exact Bl.stB_len hdl hsl)
      have HnB : Hid (Bl.Byt nx) := Bl.hid (by rw [hnx]; exact Bl.stB_byt hdb hsb)
      have Hnx := Bl.hid hnx
      have Hr2 := Bl.hid hr2
      have Hsl := Bl.hid hsl
      have Hdl := Bl.hid hdl
      have hkb0 : (0 : Int) ≤ (k : Int) := by omega
      have hkb1 : (k : Int) < (m : Int) := by omega
      have HX : Hid (X < wr.heap.size) := Bl.hid HBx.out.lt
      clear hO hBx HA hcn hcm hbl hrg hq1 hq2 hbl2 hrg2 hr2 hsl hsb he hs hd hdl hdb hnx hnxe
      go_wp2_with (with_reducible refine Bl.stop_load (ty := 98) ?_)
      refine Bl.go_on ?_
      refine Bl.wpL_load rfl Hld.out ?_
      obtain ⟨hst, hc0, hc1, hEb⟩ := turn_box wr x n' i'
      have Hst := Bl.hid hst
      have HEb := Bl.hid hEb
      clear hst hEb Hld hc1
      go_wp2_with (with_reducible refine Bl.stop_store (ty := 98) ?_)
      refine Bl.go_on ?_
      refine Bl.wpL_store0 rfl rfl Hst.out ?_
      clear Hst
      generalize (wr.alloc (.cells #[.bool false, .int .i64 0, .int .i64 0] 98)).setCells wr.heap.size 0 [.bool x, .int .i64 n', .int .i64 i'] = W6 at *
      have hs67 := HEb.out.size
      have HBX : Hid (B < X) := Bl.hid (by omega)
      have HX6 : Hid (X < W6.heap.size) := Bl.hid (Nat.lt_of_lt_of_le HX.out hs67)
      have HO6 := Bl.hid (HO.out.ext HEb.out)
      have HB6 := Bl.hid (HBx.out.ext HEb.out)
      have HE6 := Bl.hid (HE.out.trans HEb.out)
      have HLs : Hid (∀ w2, Bl.Ext W6 w2 → (Instr.loadAt 41 (.pointer (some ⟨b2, o2 + k * 32, none⟩))).run Tryd.prog w2 = .ok (.agg (Bl.ints .u8 s).toArray) w2) := Bl.hid fun w2 h2 => Bl.load_ints (Bl.rangeAt_ext Hr2.out (HEb.out.trans h2)) Tryd.underlying41 (by kernel_rfl) Hsl.out
      have HLd : Hid (∀ w2, Bl.Ext W6 w2 → (Instr.loadAt 41 (.pointer (some ⟨X, 0, none⟩))).run Tryd.prog w2 = .ok (.agg (Bl.ints .u8 d).toArray) w2) := Bl.hid fun w2 h2 => (HB6.out.ext h2).load Tryd.underlying41 (by kernel_rfl)
      have HI1 : Hid (∀ w2, Bl.Ext W6 w2 → Calls Tryd.prog 71 #[.agg (Bl.ints .u8 s).toArray, .agg (Bl.ints .u8 d).toArray] w2 fun e w' => ∃ v', e = .returned v' ∧ w'.ownsRow W6.heap.size 5 1 v' 65 (Bl.ints .u8 (1 :: (s ++ d))) ∧ Bl.Ext w2 w') := Bl.hid fun w2 h2 => (inner_own s d w2 Hsl.out Hdl.out).mono fun e w' ⟨v', h3, h4, h5⟩ => ⟨v', h3, by
        rw [show (s ++ d).length + 1 = 65 from by rw [List.length_append, Hsl.out, Hdl.out]] at h4
        exact Bl.owns_mono h4 h2.size, h5⟩
      have HI2 : Hid (∀ w2, Bl.Ext W6 w2 → Calls Tryd.prog 71 #[.agg (Bl.ints .u8 d).toArray, .agg (Bl.ints .u8 s).toArray] w2 fun e w' => ∃ v', e = .returned v' ∧ w'.ownsRow W6.heap.size 5 1 v' 65 (Bl.ints .u8 (1 :: (d ++ s))) ∧ Bl.Ext w2 w') := Bl.hid fun w2 h2 => (inner_own d s w2 Hdl.out Hsl.out).mono fun e w' ⟨v', h3, h4, h5⟩ => ⟨v', h3, by
        rw [show (d ++ s).length + 1 = 65 from by rw [List.length_append, Hsl.out, Hdl.out]] at h4
        exact Bl.owns_mono h4 h2.size, h5⟩
      clear HE HEb HO HBx Hr2 hs67 hs4
      have FIN : Hid (∀ (wB : World) (gb cb : Nat), Bl.Ext W6 wB → wB.rangeAt gb 0 (Bl.ints .u8 nx) → W6.heap.size ≤ gb → gb < wB.heap.size → 65 ≤ cb → cb ≤ maxLen →
          ∀ (q3 : Option Addr) (d3 : Nat) (w9 : World), w9.ownsRow B 43 1 (.slice q3 (k + 1 + 1) d3) (k + 1 + 1) (vs ++ [.slice (some ⟨gb, 0, none⟩) 65 cb]) → (wB.alloc (.cells #[.slice (some ⟨gb, 0, none⟩) 65 cb] 43)).grownBy w9 (Value.slice p1 (k + 1) c1).ownBlock → Below B (wB.alloc (.cells #[.slice (some ⟨gb, 0, none⟩) 65 cb] 43)) w9 →
          (∀ q, (Value.slice q3 (k + 1 + 1) d3).ownBlock = some q → (Value.slice p1 (k + 1) c1).ownBlock = some q ∨ (wB.alloc (.cells #[.slice (some ⟨gb, 0, none⟩) 65 cb] 43)).heap.size ≤ q) →
          Bl.OutB 43 X w9 B (.slice q3 (k + 1 + 1) d3) (S.take (k + 1 + 1)) (vs ++ [.slice (some ⟨gb, 0, none⟩) 65 cb]) ∧ Bl.BoxD w9 X d ∧ Bl.Rd w9 .u8 (.slice (some ⟨gb, 0, none⟩) 65 cb) nx ∧ Bl.Ext w3 w9) := Bl.hid fun wB gb cb h1 h2 h3 h4 h5 h6 q3 d3 w9 h7 h8 h9 h10 => by
        have hst := Bl.OutB.step (ps := S.take (k + 1)) (l := nx) HO6.out h1 HX6.out h2 h3 h4 (by rw [HnL.out]; exact h5) h6 (out1 := .slice q3 (k + 1 + 1) d3) (w4 := w9) (by rw [HnL.out, HtL.out]; exact h7) (by rw [HnL.out]; exact h8) (by rw [HnL.out]; exact h10)
        rw [HnL.out, ← Htk.out] at hst
        have hne : (Value.slice p1 (k + 1) c1).ownBlock ≠ some gb := fun q => by have := (HO6.out.rows.lt gb q).2; omega
        refine ⟨hst, ((HB6.out.ext h1).ext (Bl.ext_alloc _ _)).grown h8 HO6.out.ox, ?_, Below.trans (HE6.out.trans (h1.trans (Bl.ext_alloc _ _))) (by rw [← HB.out]; exact h9)⟩
        show Bl.Rds w9 _ nx.length _
        rw [HnL.out]
        exact .inr ⟨gb, 0, cb, rfl, h5, h6, Bl.rangeAt_grown (Bl.rangeAt_ext h2 (Bl.ext_alloc _ _)) h8 hne⟩
      have HOr : Hid (∀ wB, Bl.Ext W6 wB → ∀ u, (wB.alloc (.cells #[u] 43)).ownsRow B 43 1 (.slice p1 (k + 1) c1) (k + 1) vs) := Bl.hid fun wB h u => by
        have h1 := Bl.owns_ext (Bl.owns_ext HO6.out.rows h) (Bl.ext_alloc wB (.cells #[u] 43))
        rw [HtL.out] at h1; exact h1
      have HBs : Hid (∀ wB, Bl.Ext W6 wB → ∀ u, B ≤ (wB.alloc (.cells #[u] 43)).heap.size) := Bl.hid fun wB h u => by
        rw [World.size_alloc]; have := h.size; have := HX6.out; have := HBX.out; omega
      have HEND : Hid (∀ w9 w10, Bl.BoxD w9 X d → Bl.Ext w9 w10 → (Instr.storeAt 41 (.pointer (some ⟨X, 0, none⟩)) (.agg (Bl.ints .u8 (Bl.sha nx)).toArray)).run Tryd.prog w10 = .ok () (w10.setCells X 0 (Bl.ints .u8 (Bl.sha nx)))) := Bl.hid fun w9 w10 h1 h2 => Bl.store_ints (n := 32) (h1.ext h2).th (by kernel_rfl) rfl
      cases x
      · have Hnx1 : Hid (nx = 1 :: (s ++ d)) := Bl.hid Hnx.out
        go_wp2_with fail
        apply Bl.wp_region_ev 6 [32, 33, 34, 35, 36, 37] [Bl.eqv _, Bl.eqv _, Bl.eqv _, Bl.eqv _, Bl.eqv _, (fun v w' => w'.ownsRow W6.heap.size 5 1 v 65 (Bl.ints .u8 (1 :: (s ++ d))))] (by kernel_rfl) (by kernel_rfl) (by kernel_rfl) (by kernel_rfl)
        case hsteps =>
          refine ⟨?_, ?_, ?_, ?_, ?_, ?_, trivial⟩
          all_goals
            intro ev w1 hext hb hd
            have e3 := hb 3 (by decide)
            have e11 := hb 11 (by decide)
            have e12 := hb 12 (by decide)
            clear hb
            simp only [Array.getD_eq_getD_getElem?, List.getElem?_toArray, List.getElem?_cons_succ, List.getElem?_cons_zero, Option.getD_some] at e3 e11 e12
            simp only [Bl.DepsE, List.getElem?_cons_succ, List.getElem?_cons_zero, Option.bind_some, List.getD_cons_succ, List.getD_cons_zero, Bl.eqv, and_true] at hd
            have hc := (Bl.bcell hext).1
            simp only [Bl.Good, Region.wanted, if_true]
            first
            | ((with_reducible refine Bl.goodR_load ?_ (HLs.out _ hext) ?_); exact hd; exact rfl) | ((with_reducible refine Bl.goodR_load ?_ (HLd.out _ hext) ?_); first | exact hd | exact e11; exact rfl)
            | (go_simp; first | (go_at_call 71; (with_reducible refine (HI1.out _ hext).mono ?_); rintro e w2 ⟨v2, rfl, hO2, hE2⟩; exact ⟨_, rfl, hE2, hO2⟩) | exact ⟨Below.refl _ _, rfl⟩ | exact ⟨Below.refl _ _, rfl⟩)
        case hmono => exact ⟨Bl.mono_eqv _, Bl.mono_eqv _, Bl.mono_eqv _, Bl.mono_eqv _, Bl.mono_eqv _, (fun _ _ _ h k => Bl.owns_ext h k), trivial⟩
        case hend =>
          intro u w1 hext hend
          simp only [Bl.EndE, List.getElem?_cons_succ, List.getElem?_cons_zero, Option.bind_some, List.getD_cons_succ, List.getD_cons_zero, Bl.eqv, true_and] at hend
          simp only [Bl.fillAct, List.setIfInBounds_toArray, List.set_cons_succ, List.set_cons_zero, List.drop_succ_cons, List.drop_zero, hend]
          obtain ⟨gb, cb, hvb, hcb, hcbm, hrb, hgb, hgbl, _⟩ := Bl.own_pos hend.2 (by omega)
          have hcc0 := ((Bl.bcell hext).1 _ 0 (World.block_lt_of_cell? _ _ hc0)).trans hc0
          rw [hvb]
          rw [← Hnx1.out] at hrb
          have Hrb := Bl.hid hrb
          have HEw := Bl.hid hext
          clear hext hend hvb hrb hc0
          go_wp2_with (with_reducible refine Bl.stop_append ?_)
          refine Bl.go_on ?_
          refine Bl.wpL_app tRw (HOr.out _ HEw.out _) (Bl.rds_val _ _ _) rfl rfl rfl (Bl.one_slice _ _ _) (by unfold maxLen; omega) (by omega) (HBs.out _ HEw.out _) ?_
          intro q3 d3 w9 hown9 hg9 hB9 hK9 hn9 hc9
          obtain ⟨hO9, hB9x, hR9, hE9⟩ := FIN.out _ gb cb HEw.out Hrb.out hgb hgbl hcb hcbm q3 d3 w9 hown9 hg9 hB9 hK9
          have HO9 := Bl.hid hO9
          have HB9 := Bl.hid hB9x
          have HR9 := Bl.hid hR9
          have HE9 := Bl.hid hE9
          clear hown9 hg9 hB9 hK9 hO9 hB9x hR9 hE9 hcc0 Hrb HEw hgb hgbl hcb hcbm hn9 hc9
          go_wp2_with fail
          refine (of_any _ [nx] (w9.alloc (.cells #[.slice (some ⟨gb, 0, none⟩) 65 cb] 43)) (Bl.rdss_1 HR9.out _) (HG3.out.ext (HE9.out.trans (Bl.ext_alloc _ _))) (by rw [List.flatten_singleton]; exact HnB.out) (by rw [List.flatten_singleton, HnL.out]; decide)).mono ?_
          rintro e w10 ⟨rfl, hE10⟩
          rw [List.flatten_singleton]
          have HE10 : Hid (Bl.Ext w9 w10) := Bl.hid ((Bl.ext_alloc _ _).trans hE10)
          clear hE10
          go_wp2_with (with_reducible refine Bl.stop_store (ty := 41) ?_)
          refine Bl.go_on ?_
          refine Bl.wpL_store0 rfl rfl (HEND.out w9 w10 HB9.out HE10.out) ?_
          have HA9 : Hid ((∃ vs, Bl.OutB 43 X (w10.setCells X 0 (Bl.ints .u8 (Bl.sha nx))) B (.slice q3 (k + 1 + 1) d3) (S.take (k + 1 + 1)) vs) ∧ Bl.BoxD (w10.setCells X 0 (Bl.ints .u8 (Bl.sha nx))) X (Bl.sha (S.getD (k + 1) []))) := Bl.hid ⟨⟨_, (HO9.out.ext HE10.out).set _⟩, by rw [← Hnxe.out]; exact (HB9.out.ext HE10.out).set rfl⟩
          have HE11 : Hid (Bl.Ext w3 (w10.setCells X 0 (Bl.ints .u8 (Bl.sha nx)))) := Bl.hid (Bl.below_setCells _ _ _ _ (HE9.out.trans HE10.out) (by rw [← HB.out]; exact Nat.le_of_lt HBX.out))
          generalize w10.setCells X 0 (Bl.ints .u8 (Bl.sha nx)) = W11 at *
          clear HO9 HB9 HR9 HE9 HE10
          go_wp2_with fail
          go_roundw
          case rel => exact ⟨k + 1, d3, q3, by omega, by go_num, rfl, HA9.out, HE11.out⟩
          case measure => simp [intOf]; omega
      · have Hnx1 : Hid (nx = 1 :: (d ++ s)) := Bl.hid Hnx.out
        go_wp2_with fail
        apply Bl.wp_region_ev 6 [32, 33, 34, 35, 36, 37] [Bl.eqv _, Bl.eqv _, Bl.eqv _, Bl.eqv _, Bl.eqv _, Bl.anyv] (by kernel_rfl) (by kernel_rfl) (by kernel_rfl) (by kernel_rfl)
        case hsteps =>
          refine ⟨?_, ?_, ?_, ?_, ?_, ?_, trivial⟩
          all_goals
            intro ev w1 hext hb hd
            have e3 := hb 3 (by decide)
            have e11 := hb 11 (by decide)
            have e12 := hb 12 (by decide)
            clear hb
            simp only [Array.getD_eq_getD_getElem?, List.getElem?_toArray, List.getElem?_cons_succ, List.getElem?_cons_zero, Option.getD_some] at e3 e11 e12
            simp only [Bl.DepsE, List.getElem?_cons_succ, List.getElem?_cons_zero, Option.bind_some, List.getD_cons_succ, List.getD_cons_zero, Bl.eqv, and_true] at hd
            have hc := (Bl.bcell hext).1
            simp only [Bl.Good, Region.wanted, if_true]
            first
            | ((with_reducible refine Bl.goodR_load ?_ (HLs.out _ hext) ?_); exact hd; exact rfl) | ((with_reducible refine Bl.goodR_load ?_ (HLd.out _ hext) ?_); first | exact hd | exact e11; exact rfl)
            | (go_simp; first | (go_at_call 71; (with_reducible refine (HI1.out _ hext).mono ?_); rintro e w2 ⟨v2, rfl, hO2, hE2⟩; exact ⟨_, rfl, hE2, trivial⟩) | exact ⟨Below.refl _ _, rfl⟩ | exact ⟨Below.refl _ _, rfl⟩)
        case hmono => exact ⟨Bl.mono_eqv _, Bl.mono_eqv _, Bl.mono_eqv _, Bl.mono_eqv _, Bl.mono_eqv _, (Bl.mono_anyv), trivial⟩
        case hend =>
          intro u w1 hext hend
          simp only [Bl.EndE, List.getElem?_cons_succ, List.getElem?_cons_zero, Option.bind_some, List.getD_cons_succ, List.getD_cons_zero, Bl.eqv, true_and] at hend
          simp only [Bl.fillAct, List.setIfInBounds_toArray, List.set_cons_succ, List.set_cons_zero, List.drop_succ_cons, List.drop_zero, hend]
          have hcc0 := ((Bl.bcell hext).1 _ 0 (World.block_lt_of_cell? _ _ hc0)).trans hc0
          have HEv := Bl.hid hext
          clear hext hend hc0
          go_wp2_with fail
          apply Bl.wp_region_ev 6 [40, 41, 42, 43, 44, 45] [Bl.eqv _, Bl.eqv _, Bl.eqv _, Bl.eqv _, Bl.eqv _, (fun v w' => w'.ownsRow W6.heap.size 5 1 v 65 (Bl.ints .u8 (1 :: (d ++ s))))] (by kernel_rfl) (by kernel_rfl) (by kernel_rfl) (by kernel_rfl)
          case hsteps =>
            refine ⟨?_, ?_, ?_, ?_, ?_, ?_, trivial⟩
            all_goals
              intro ev w1 hext hb hd
              have e3 := hb 3 (by decide)
              have e11 := hb 11 (by decide)
              have e12 := hb 12 (by decide)
              clear hb
              simp only [Array.getD_eq_getD_getElem?, List.getElem?_toArray, List.getElem?_cons_succ, List.getElem?_cons_zero, Option.getD_some] at e3 e11 e12
              simp only [Bl.DepsE, List.getElem?_cons_succ, List.getElem?_cons_zero, Option.bind_some, List.getD_cons_succ, List.getD_cons_zero, Bl.eqv, and_true] at hd
              have hc := (Bl.bcell hext).1
              simp only [Bl.Good, Region.wanted, if_true]
              first
              | ((with_reducible refine Bl.goodR_load ?_ (HLs.out _ (HEv.out.trans hext)) ?_); exact hd; exact rfl) | ((with_reducible refine Bl.goodR_load ?_ (HLd.out _ (HEv.out.trans hext)) ?_); first | exact hd | exact e11; exact rfl)
              | (go_simp; first | (go_at_call 71; (with_reducible refine (HI2.out _ (HEv.out.trans hext)).mono ?_); rintro e w2 ⟨v2, rfl, hO2, hE2⟩; exact ⟨_, rfl, hE2, hO2⟩) | exact ⟨Below.refl _ _, rfl⟩ | exact ⟨Below.refl _ _, rfl⟩)
          case hmono => exact ⟨Bl.mono_eqv _, Bl.mono_eqv _, Bl.mono_eqv _, Bl.mono_eqv _, Bl.mono_eqv _, (fun _ _ _ h k => Bl.owns_ext h k), trivial⟩
          case hend =>
            intro u w1 hext hend
            simp only [Bl.EndE, List.getElem?_cons_succ, List.getElem?_cons_zero, Option.bind_some, List.getD_cons_succ, List.getD_cons_zero, Bl.eqv, true_and] at hend
            simp only [Bl.fillAct, List.setIfInBounds_toArray, List.set_cons_succ, List.set_cons_zero, List.drop_succ_cons, List.drop_zero, hend]
            obtain ⟨gb, cb, hvb, hcb, hcbm, hrb, hgb, hgbl, _⟩ := Bl.own_pos hend.2 (by omega)
            rw [hvb]
            rw [← Hnx1.out] at hrb
            have Hrb := Bl.hid hrb
            have HEw := Bl.hid (HEv.out.trans hext)
            clear hext hend hvb hrb HEv hcc0
            go_wp2_with (with_reducible refine Bl.stop_append ?_)
            refine Bl.go_on ?_
            refine Bl.wpL_app tRw (HOr.out _ HEw.out _) (Bl.rds_val _ _ _) rfl rfl rfl (Bl.one_slice _ _ _) (by unfold maxLen; omega) (by omega) (HBs.out _ HEw.out _) ?_
            intro q3 d3 w9 hown9 hg9 hB9 hK9 hn9 hc9
            obtain ⟨hO9, hB9x, hR9, hE9⟩ := FIN.out _ gb cb HEw.out Hrb.out hgb hgbl hcb hcbm q3 d3 w9 hown9 hg9 hB9 hK9
            have HO9 := Bl.hid hO9
            have HB9 := Bl.hid hB9x
            have HR9 := Bl.hid hR9
            have HE9 := Bl.hid hE9
            clear hown9 hg9 hB9 hK9 hO9 hB9x hR9 hE9 Hrb HEw hgb hgbl hcb hcbm hn9 hc9
            go_wp2_with fail
            refine (of_any _ [nx] (w9.alloc (.cells #[.slice (some ⟨gb, 0, none⟩) 65 cb] 43)) (Bl.rdss_1 HR9.out _) (HG3.out.ext (HE9.out.trans (Bl.ext_alloc _ _))) (by rw [List.flatten_singleton]; exact HnB.out) (by rw [List.flatten_singleton, HnL.out]; decide)).mono ?_
            rintro e w10 ⟨rfl, hE10⟩
            rw [List.flatten_singleton]
            have HE10 : Hid (Bl.Ext w9 w10) := Bl.hid ((Bl.ext_alloc _ _).trans hE10)
            clear hE10
            go_wp2_with (with_reducible refine Bl.stop_store (ty := 41) ?_)
            refine Bl.go_on ?_
            refine Bl.wpL_store0 rfl rfl (HEND.out w9 w10 HB9.out HE10.out) ?_
            have HA9 : Hid ((∃ vs, Bl.OutB 43 X (w10.setCells X 0 (Bl.ints .u8 (Bl.sha nx))) B (.slice q3 (k + 1 + 1) d3) (S.take (k + 1 + 1)) vs) ∧ Bl.BoxD (w10.setCells X 0 (Bl.ints .u8 (Bl.sha nx))) X (Bl.sha (S.getD (k + 1) []))) := Bl.hid ⟨⟨_, (HO9.out.ext HE10.out).set _⟩, by rw [← Hnxe.out]; exact (HB9.out.ext HE10.out).set rfl⟩
            have HE11 : Hid (Bl.Ext w3 (w10.setCells X 0 (Bl.ints .u8 (Bl.sha nx)))) := Bl.hid (Bl.below_setCells _ _ _ _ (HE9.out.trans HE10.out) (by rw [← HB.out]; exact Nat.le_of_lt HBX.out))
            generalize w10.setCells X 0 (Bl.ints .u8 (Bl.sha nx)) = W11 at *
            clear HO9 HB9 HR9 HE9 HE10
            go_wp2_with fail
            go_roundw
            case rel => exact ⟨k + 1, d3, q3, by omega, by go_num, rfl, HA9.out, HE11.out⟩
            case measure => simp [intOf]; omega
    · obtain rfl : k = m := by omega
      obtain ⟨⟨vs, hO⟩, _⟩ := HA.out
      rw [List.take_of_length_le (by rw [Hsl.out]; exact Nat.le_refl _)] at hO
      have HO := Bl.hid hO
      clear hO HA
      go_wp2_with fail
      go_ret
      exact ⟨_, rfl, HO.out.rdss, HE3.out.trans HE.out⟩
end Go.Proofs.YtglenbikdahgjaaDoor

/- Walks of path.Fold, path.Check. -/
namespace Go.Proofs.Bl
open Go Go.RowKit
/-- the number of path.Check's error -/
def chkP (root : List Int) (n i : Int) (l : List Int) (p : List (List Int)) : Nat :=
  if thereB n i = true then (if p.length = (turnsL n.toNat i.toNat).length then (if foldP ndD n.toNat i.toNat (lfD l) p = root then 0 else 15) else 8) else 1
theorem chkP_range {root : List Int} {n i : Int} {l : List Int} {p : List (List Int)} (h : thereB n i = false) : chkP root n i l p = 1 := by unfold chkP; rw [h]; rfl
theorem chkP_size {root : List Int} {n i : Nat} {l : List Int} {p : List (List Int)} (h : thereB n i = true) (hp : ¬ p.length = (turnsL n i).length) : chkP root n i l p = 8 := by
  unfold chkP; rw [if_pos h, if_neg (by simpa using hp)]
theorem chkP_ok {root : List Int} {n i : Nat} {l : List Int} {p : List (List Int)} (h : thereB n i = true) (hp : p.length = (turnsL n i).length) (hf : foldP ndD n i (lfD l) p = root) : chkP root n i l p = 0 := by
  unfold chkP; rw [if_pos h, if_pos (by simpa using hp), if_pos (by simpa using hf)]
theorem chkP_bad {root : List Int} {n i : Nat} {l : List Int} {p : List (List Int)} (h : thereB n i = true) (hp : p.length = (turnsL n i).length) (hf : ¬ foldP ndD n i (lfD l) p = root) : chkP root n i l p = 15 := by
  unfold chkP; rw [if_pos h, if_pos (by simpa using hp), if_neg (by simpa using hf)]
theorem foldP_dig {n i : Nat} {l : List Int} {p : List (List Int)} (h : p.length = (turnsL n i).length) : (foldP ndD n i (lfD l) p).length = 32 ∧ Byt (foldP ndD n i (lfD l) p) := by
  rw [← seqP_last h]; exact ⟨rfl, sha_byt _⟩
/-- the last of a row of slices -/
theorem Rdss.last {w : World} {v : Value} {ps : List (List Int)} {m : Nat} (h : Rdss w v ps) (hl : ps.length = m + 1) : ∃ b o c p2 c2, v = .slice (some ⟨b, o, none⟩) (m + 1) c ∧ m + 1 ≤ c ∧ w.cell? ⟨b, o + m, none⟩ = some (.slice p2 (ps.getD m []).length c2) ∧ Rd w .u8 (.slice p2 (ps.getD m []).length c2) (ps.getD m []) := by
  obtain ⟨vs, hv, hvl, hr⟩ := h
  obtain ⟨p, c, hf, hc, _⟩ := hv.form
  subst hf
  obtain ⟨b, o, hp, _, hcell⟩ := Rdss.cell' hv hvl m (by omega)
  subst hp
  have h1 := hr m (by omega)
  obtain ⟨p2, c2, hf2, _, _⟩ := h1.form
  rw [hf2] at h1 hcell
  exact ⟨b, o, c, p2, c2, by rw [hl], by omega, hcell, h1⟩
end Go.Proofs.Bl
namespace Go.Proofs.YtglenbikdahgjaaDoor
open Go.RowKit Go.Proofs

set_option maxRecDepth 100000 in
set_option maxHeartbeats 1000000 in
theorem pfold_range (n i : Int) (vl vp : Value) (w : World) (S : List Nat) (a : Nat → Addr) (he : Errs S a w) (h1 : 1 ∈ S) (h : ¬ (n ≤ 512 ∧ 0 ≤ i ∧ i < n)) :
    Calls Tryd.prog 30 #[.int .i64 n, .int .i64 i, vl, vp] w fun e w' => e = .returned (.tuple #[.agg (Bl.ints .u8 Bl.zs32).toArray, errN a 1]) ∧ Bl.Ext w w' := by
  have hF : w.cell? ⟨1, 0, none⟩ = some (.iface 136 (.pointer (some (a 1)))) := he.cell 1 h1
  have hFl := World.block_lt_of_cell? w _ hF
  have HF := Bl.hid hF
  have HFl : Hid (1 < w.heap.size) := hFl
  have HL := Bl.hid (Bl.lenP_no (Bl.thereB_no h))
  have HF0 := Bl.hid (fam_new w 32 .u8 41 #[.int .u8 0, .int .u8 0, .int .u8 0, .int .u8 0, .int .u8 0, .int .u8 0, .int .u8 0, .int .u8 0, .int .u8 0, .int .u8 0, .int .u8 0, .int .u8 0, .int .u8 0, .int .u8 0, .int .u8 0, .int .u8 0, .int .u8 0, .int .u8 0, .int .u8 0, .int .u8 0, .int .u8 0, .int .u8 0, .int .u8 0, .int .u8 0, .int .u8 0, .int .u8 0, .int .u8 0, .int .u8 0, .int .u8 0, .int .u8 0, .int .u8 0, .int .u8 0] rfl)
  have HE0 := Bl.hid (Bl.ext_alloc w (.cells #[.int .u8 0, .int .u8 0, .int .u8 0, .int .u8 0, .int .u8 0, .int .u8 0, .int .u8 0, .int .u8 0, .int .u8 0, .int .u8 0, .int .u8 0, .int .u8 0, .int .u8 0, .int .u8 0, .int .u8 0, .int .u8 0, .int .u8 0, .int .u8 0, .int .u8 0, .int .u8 0, .int .u8 0, .int .u8 0, .int .u8 0, .int .u8 0, .int .u8 0, .int .u8 0, .int .u8 0, .int .u8 0, .int .u8 0, .int .u8 0, .int .u8 0, .int .u8 0] 41))
  have Hst : Hid (∀ w', Bl.Fam w' w.heap.size .u8 32 (fun _ => 0) → (Instr.storeAt 41 (.pointer (some ⟨w.heap.size, 0, none⟩)) (.agg (Bl.ints .u8 Bl.zs32).toArray)).run Tryd.prog w' = .ok () (w'.setCells w.heap.size 0 (Bl.ints .u8 Bl.zs32))) := Bl.hid fun w' h => Bl.store_ints (P := Tryd.prog) (ty := 41) (k := .u8) (l := Bl.zs32) (n := 32) h.there (by kernel_rfl) rfl
  clear hF hFl he h
  go_enter Tryd.func30, Tryd.ntmps30
  go_wp2_with fail
  generalize hWa : w.alloc (.cells #[.int .u8 0, .int .u8 0, .int .u8 0, .int .u8 0, .int .u8 0, .int .u8 0, .int .u8 0, .int .u8 0, .int .u8 0, .int .u8 0, .int .u8 0, .int .u8 0, .int .u8 0, .int .u8 0, .int .u8 0, .int .u8 0, .int .u8 0, .int .u8 0, .int .u8 0, .int .u8 0, .int .u8 0, .int .u8 0, .int .u8 0, .int .u8 0, .int .u8 0, .int .u8 0, .int .u8 0, .int .u8 0, .int .u8 0, .int .u8 0, .int .u8 0, .int .u8 0] 41) = Wa at HF0 HE0 ⊢
  clear hWa
  refine (length_any n i Wa).mono ?_
  rintro e w1 ⟨rfl, hE1⟩
  rw [HL.out]
  have HE1 := Bl.hid (HE0.out.trans hE1)
  have HF1 := Bl.hid (HF0.out.below hE1 (World.block_lt_of_cell? _ _ (HF0.out.1 0 (by decide))))
  have HcF := Bl.hid (((Bl.bcell HE1.out).1 _ 0 HFl.out).trans HF.out)
  have HFl1 : Hid (1 < w1.heap.size) := Bl.hid (Nat.lt_of_lt_of_le HFl.out HE1.out.size)
  clear hE1 HF0
  go_wp2_with fail
  apply Bl.wp_region_evK (fun a b => Below w.heap.size a b) (fun _ _ w' => Bl.Fam w' w.heap.size .u8 32 (fun _ => 0)) 3 [18, 19] [Bl.eqv (.agg (Bl.ints .u8 Bl.zs32).toArray), Bl.eqv _, Bl.eqv _] (fun w => Below.refl _ w) (fun a b c h k => Below.trans h k) (by kernel_rfl) (by kernel_rfl) (by kernel_rfl) (by kernel_rfl)
  case hsteps =>
    refine ⟨?_, ?_, ?_, trivial⟩
    all_goals
      intro d ev w1 hext HJd Hanc Hdes hni hb hd
      replace Hanc := Bl.hid Hanc
      replace HJd := Bl.hid HJd
      replace Hdes := Bl.hid Hdes
      replace hni := Bl.hid hni
      have e8 := hb 8 (by decide)
      clear hb
      simp only [Array.getD_eq_getD_getElem?, List.getElem?_toArray, List.getElem?_cons_succ, List.getElem?_cons_zero, Option.getD_some] at e8
      simp only [Bl.DepsE2, List.getElem?_cons_zero, Option.bind_some, List.getD_cons_zero, Bl.eqv, and_true] at hd
      have hc := (Bl.bcell hext).1
      have hcF := (hc _ 0 HFl.out).trans HcF.out
      simp only [Region.wanted, if_true]
      first
      | ((with_reducible refine Bl.goodX_store ?_ ?_ (Hst.out w1 HJd.out) ?_ ?_); exact e8; (first | exact hd | exact hd.1 | exact hd.2); exact Bl.below_setCells _ _ _ _ (Below.refl _ _) (Nat.le_refl _); exact ⟨rfl, Bl.fam_set32 HJd.out⟩)
      | (go_simp; first | exact ⟨Below.refl _ _, rfl, HJd.out⟩ | exact ⟨Below.refl _ _, rfl, Bl.HJ.same (by decide) HJd.out⟩)
  case hmono => exact ⟨(Bl.monoR_eqv _), Bl.monoR_eqv _, Bl.monoR_eqv _, trivial⟩
  case hR0 => exact (Below.refl _ _).drew
  case hend =>
    intro u w1 hext hJ hend
    simp only [Bl.EndE, List.getElem?_cons_succ, List.getElem?_cons_zero, Option.bind_some, List.getD_cons_succ, List.getD_cons_zero, Bl.eqv, true_and] at hend
    simp only [Bl.fillAct, List.setIfInBounds_toArray, List.set_cons_succ, List.set_cons_zero, List.drop_succ_cons, List.drop_zero, hend]
    have hldc := run_loadVar_mid (P := Tryd.prog) _ w.heap.size 0 41 (Bl.ints .u8 Bl.zs32) _ (hJ.list rfl Bl.zs32_get) Tryd.underlying41 rfl (by kernel_rfl)
    have Hldc := Bl.hid hldc
    have HE2 : Hid (Bl.Ext w w1) := Bl.hid (Below.trans HE1.out hext)
    clear hext hend hJ hldc
    go_wp2_with fail
    exact bodyPost_ret (v := .tuple #[.agg (Bl.ints .u8 Bl.zs32).toArray, .iface 136 (.pointer (some (a 1)))]) (Bl.results_cell2 rfl rfl Hldc.out rfl) rfl ⟨rfl, HE2.out⟩
  case hJ0 => exact HF1.out.drew 1

set_option maxRecDepth 100000 in
set_option maxHeartbeats 1000000 in
theorem pfold_size (n i : Nat) (vl vp : Value) (p : List (List Int)) (w : World) (S : List Nat) (a : Nat → Addr) (hp : Bl.RdD w vp p) (he : Errs S a w) (h8 : 8 ∈ S) (hn : n ≤ 512) (hi : i < n) (hpl : ¬ p.length = (Bl.turnsL n i).length) :
    Calls Tryd.prog 30 #[.int .i64 n, .int .i64 i, vl, vp] w fun e w' => e = .returned (.tuple #[.agg (Bl.ints .u8 Bl.zs32).toArray, errN a 8]) ∧ Bl.Ext w w' := by
  obtain ⟨pp, cp, hvf, hvn, hvc⟩ := hp.form
  subst hvf
  have hF : w.cell? ⟨2, 0, none⟩ = some (.iface 136 (.pointer (some (a 8)))) := he.cell 8 h8
  have hFl := World.block_lt_of_cell? w _ hF
  have HF := Bl.hid hF
  have HFl : Hid (2 < w.heap.size) := hFl
  have HL := Bl.hid (Bl.lenP_yes hn hi)
  have hTb := Bl.turnsL_len n n i (Nat.le_refl _) (by omega)
  obtain ⟨t, ht⟩ : ∃ t, t = (Bl.turnsL n i).length := ⟨_, rfl⟩
  rw [← ht] at HL hpl hTb
  have hne : ((t : Int) == (p.length : Int)) = false := by rw [beq_eq_false_iff_ne]; omega
  have hneg : ¬ ((t : Int) < 0) := by omega
  have HF0 := Bl.hid (fam_new w 32 .u8 41 #[.int .u8 0, .int .u8 0, .int .u8 0, .int .u8 0, .int .u8 0, .int .u8 0, .int .u8 0, .int .u8 0, .int .u8 0, .int .u8 0, .int .u8 0, .int .u8 0, .int .u8 0, .int .u8 0, .int .u8 0, .int .u8 0, .int .u8 0, .int .u8 0, .int .u8 0, .int .u8 0, .int .u8 0, .int .u8 0, .int .u8 0, .int .u8 0, .int .u8 0, .int .u8 0, .int .u8 0, .int .u8 0, .int .u8 0, .int .u8 0, .int .u8 0, .int .u8 0] rfl)
  have HE0 := Bl.hid (Bl.ext_alloc w (.cells #[.int .u8 0, .int .u8 0, .int .u8 0, .int .u8 0, .int .u8 0, .int .u8 0, .int .u8 0, .int .u8 0, .int .u8 0, .int .u8 0, .int .u8 0, .int .u8 0, .int .u8 0, .int .u8 0, .int .u8 0, .int .u8 0, .int .u8 0, .int .u8 0, .int .u8 0, .int .u8 0, .int .u8 0, .int .u8 0, .int .u8 0, .int .u8 0, .int .u8 0, .int .u8 0, .int .u8 0, .int .u8 0, .int .u8 0, .int .u8 0, .int .u8 0, .int .u8 0] 41))
  have Hst : Hid (∀ w', Bl.Fam w' w.heap.size .u8 32 (fun _ => 0) → (Instr.storeAt 41 (.pointer (some ⟨w.heap.size, 0, none⟩)) (.agg (Bl.ints .u8 Bl.zs32).toArray)).run Tryd.prog w' = .ok () (w'.setCells w.heap.size 0 (Bl.ints .u8 Bl.zs32))) := Bl.hid fun w' h => Bl.store_ints (P := Tryd.prog) (ty := 41) (k := .u8) (l := Bl.zs32) (n := 32) h.there (by kernel_rfl) rfl
  clear hF hFl he hp ht hpl
  go_enter Tryd.func30, Tryd.ntmps30
  go_wp2_with fail
  generalize hWa : w.alloc (.cells #[.int .u8 0, .int .u8 0, .int .u8 0, .int .u8 0, .int .u8 0, .int .u8 0, .int .u8 0, .int .u8 0, .int .u8 0, .int .u8 0, .int .u8 0, .int .u8 0, .int .u8 0, .int .u8 0, .int .u8 0, .int .u8 0, .int .u8 0, .int .u8 0, .int .u8 0, .int .u8 0, .int .u8 0, .int .u8 0, .int .u8 0, .int .u8 0, .int .u8 0, .int .u8 0, .int .u8 0, .int .u8 0, .int .u8 0, .int .u8 0, .int .u8 0, .int .u8 0] 41) = Wa at HF0 HE0 ⊢
  clear hWa
  refine (length_any n i Wa).mono ?_
  rintro e w1 ⟨rfl, hE1⟩
  rw [HL.out]
  have HE1 := Bl.hid (HE0.out.trans hE1)
  have HF1 := Bl.hid (HF0.out.below hE1 (World.block_lt_of_cell? _ _ (HF0.out.1 0 (by decide))))
  have HcF := Bl.hid (((Bl.bcell HE1.out).1 _ 0 HFl.out).trans HF.out)
  clear hE1 HF0
  go_wp2_with fail
  apply Bl.wp_region_evK (fun a b => Below w.heap.size a b) (fun _ _ w' => Bl.Fam w' w.heap.size .u8 32 (fun _ => 0)) 3 [25, 26] [Bl.eqv (.agg (Bl.ints .u8 Bl.zs32).toArray), Bl.eqv _, Bl.eqv _] (fun w => Below.refl _ w) (fun a b c h k => Below.trans h k) (by kernel_rfl) (by kernel_rfl) (by kernel_rfl) (by kernel_rfl)
  case hsteps =>
    refine ⟨?_, ?_, ?_, trivial⟩
    all_goals
      intro d ev w1 hext HJd Hanc Hdes hni hb hd
      replace Hanc := Bl.hid Hanc
      replace HJd := Bl.hid HJd
      replace Hdes := Bl.hid Hdes
      replace hni := Bl.hid hni
      have e8 := hb 8 (by decide)
      clear hb
      simp only [Array.getD_eq_getD_getElem?, List.getElem?_toArray, List.getElem?_cons_succ, List.getElem?_cons_zero, Option.getD_some] at e8
      simp only [Bl.DepsE2, List.getElem?_cons_zero, Option.bind_some, List.getD_cons_zero, Bl.eqv, and_true] at hd
      have hc := (Bl.bcell hext).1
      have hcF := (hc _ 0 HFl.out).trans HcF.out
      simp only [Region.wanted, if_true]
      first
      | ((with_reducible refine Bl.goodX_store ?_ ?_ (Hst.out w1 HJd.out) ?_ ?_); exact e8; (first | exact hd | exact hd.1 | exact hd.2); exact Bl.below_setCells _ _ _ _ (Below.refl _ _) (Nat.le_refl _); exact ⟨rfl, Bl.fam_set32 HJd.out⟩)
      | (go_simp; first | exact ⟨Below.refl _ _, rfl, HJd.out⟩ | exact ⟨Below.refl _ _, rfl, Bl.HJ.same (by decide) HJd.out⟩)
  case hmono => exact ⟨(Bl.monoR_eqv _), Bl.monoR_eqv _, Bl.monoR_eqv _, trivial⟩
  case hR0 => exact (Below.refl _ _).drew
  case hend =>
    intro u w1 hext hJ hend
    simp only [Bl.EndE, List.getElem?_cons_succ, List.getElem?_cons_zero, Option.bind_some, List.getD_cons_succ, List.getD_cons_zero, Bl.eqv, true_and] at hend
    simp only [Bl.fillAct, List.setIfInBounds_toArray, List.set_cons_succ, List.set_cons_zero, List.drop_succ_cons, List.drop_zero, hend]
    have hldc := run_loadVar_mid (P := Tryd.prog) _ w.heap.size 0 41 (Bl.ints .u8 Bl.zs32) _ (hJ.list rfl Bl.zs32_get) Tryd.underlying41 rfl (by kernel_rfl)
    have Hldc := Bl.hid hldc
    have HE2 : Hid (Bl.Ext w w1) := Bl.hid (Below.trans HE1.out hext)
    clear hext hend hJ hldc
    go_wp2_with fail
    exact bodyPost_ret (v := .tuple #[.agg (Bl.ints .u8 Bl.zs32).toArray, .iface 136 (.pointer (some (a 8)))]) (Bl.results_cell2 rfl rfl Hldc.out rfl) rfl ⟨rfl, HE2.out⟩
  case hJ0 => exact HF1.out.drew 1

set_option maxRecDepth 100000 in
set_option maxHeartbeats 1000000 in
theorem pfold_ok (n i : Nat) (vl vp : Value) (l : List Int) (p : List (List Int)) (w : World) (hn : n ≤ 512) (hi : i < n) (hl : Bl.Rd w .u8 vl l) (hbl : Bl.Byt l) (hll : l.length ≤ 1099511626000) (hp : Bl.RdD w vp p) (hdp : Bl.Dig p) (hpl : p.length = (Bl.turnsL n i).length) (hg : Glob w) :
    Calls Tryd.prog 30 #[.int .i64 n, .int .i64 i, vl, vp] w fun e w' => e = .returned (.tuple #[.agg (Bl.ints .u8 (Bl.foldP Bl.ndD n i (Bl.lfD l) p)).toArray, .nilIface]) ∧ Bl.Ext w w' := by
  have HB := Bl.hid (fun w1 (h : Bl.Ext w w1) => bytesOf_any n i vl vp l p w1 hn hi (hl.ext h) hbl hll (Bl.Rds.ext hp h) hdp hpl (hg.ext h))
  have HSl := Bl.hid (Bl.seqP_len (l := l) hpl)
  have HSz := Bl.hid (Bl.seqP_last (l := l) hpl)
  have HSb : Hid (Bl.Byt ((Bl.seqP n i l p).getD (Bl.turnsL n i).length [])) := Bl.hid (by
    cases ht : (Bl.turnsL n i).length with
    | zero => rw [Bl.seqP_zero]; exact Bl.byt_cons (by decide) (by decide) hbl
    | succ k =>
      rw [Bl.seqP_succ hpl k (by omega)]
      exact Bl.stB_byt (Bl.sha_byt _) (hdp.get (by omega)).2)
  have HSn : Hid (((Bl.seqP n i l p).getD (Bl.turnsL n i).length []).length ≤ 1099511627000) := Bl.hid (by
    cases ht : (Bl.turnsL n i).length with
    | zero => rw [Bl.seqP_zero, List.length_cons]; omega
    | succ k =>
      rw [Bl.seqP_succ hpl k (by omega), Bl.stB_len rfl (hdp.get (by omega)).1]; decide)
  obtain ⟨pp, cp, hvf, hvn, hvc⟩ := hp.form
  subst hvf
  have HL := Bl.hid (Bl.lenP_yes hn hi)
  have hTb := Bl.turnsL_len n n i (Nat.le_refl _) (by omega)
  obtain ⟨F, hF⟩ : ∃ F, F = Bl.foldP Bl.ndD n i (Bl.lfD l) p := ⟨_, rfl⟩
  have Hshl : Hid (F.length = 32) := Bl.hid (by rw [hF]; exact (Bl.foldP_dig hpl).1)
  obtain ⟨t, ht⟩ : ∃ t, t = (Bl.turnsL n i).length := ⟨_, rfl⟩
  rw [← ht] at HL hpl hTb HSl HSz HSb HSn
  rw [← hF] at HSz ⊢
  rw [hpl] at HB hvn ⊢
  obtain ⟨Sq, hSq⟩ : ∃ Sq, Sq = Bl.seqP n i l p := ⟨_, rfl⟩
  rw [← hSq] at HB HSl HSz HSb HSn
  have hneg : ¬ ((t : Int) < 0) := by omega
  have HF0 := Bl.hid (fam_new w 32 .u8 41 #[.int .u8 0, .int .u8 0, .int .u8 0, .int .u8 0, .int .u8 0, .int .u8 0, .int .u8 0, .int .u8 0, .int .u8 0, .int .u8 0, .int .u8 0, .int .u8 0, .int .u8 0, .int .u8 0, .int .u8 0, .int .u8 0, .int .u8 0, .int .u8 0, .int .u8 0, .int .u8 0, .int .u8 0, .int .u8 0, .int .u8 0, .int .u8 0, .int .u8 0, .int .u8 0, .int .u8 0, .int .u8 0, .int .u8 0, .int .u8 0, .int .u8 0, .int .u8 0] rfl)
  have HE0 := Bl.hid (Bl.ext_alloc w (.cells #[.int .u8 0, .int .u8 0, .int .u8 0, .int .u8 0, .int .u8 0, .int .u8 0, .int .u8 0, .int .u8 0, .int .u8 0, .int .u8 0, .int .u8 0, .int .u8 0, .int .u8 0, .int .u8 0, .int .u8 0, .int .u8 0, .int .u8 0, .int .u8 0, .int .u8 0, .int .u8 0, .int .u8 0, .int .u8 0, .int .u8 0, .int .u8 0, .int .u8 0, .int .u8 0, .int .u8 0, .int .u8 0, .int .u8 0, .int .u8 0, .int .u8 0, .int .u8 0] 41))
  have Hg := Bl.hid hg
  clear hp ht hpl hg hl hbl hdp hF hSq hvn hvc
  go_enter Tryd.func30, Tryd.ntmps30
  go_wp2_with fail
  generalize hWa : w.alloc (.cells #[.int .u8 0, .int .u8 0, .int .u8 0, .int .u8 0, .int .u8 0, .int .u8 0, .int .u8 0, .int .u8 0, .int .u8 0, .int .u8 0, .int .u8 0, .int .u8 0, .int .u8 0, .int .u8 0, .int .u8 0, .int .u8 0, .int .u8 0, .int .u8 0, .int .u8 0, .int .u8 0, .int .u8 0, .int .u8 0, .int .u8 0, .int .u8 0, .int .u8 0, .int .u8 0, .int .u8 0, .int .u8 0, .int .u8 0, .int .u8 0, .int .u8 0, .int .u8 0] 41) = Wa at HF0 HE0 ⊢
  clear hWa
  refine (length_any n i Wa).mono ?_
  rintro e w1 ⟨rfl, hE1⟩
  rw [HL.out]
  have HE1 := Bl.hid (HE0.out.trans hE1)
  have HEa := Bl.hid hE1
  clear hE1
  go_wp2_with fail
  refine (HB.out w1 HE1.out).mono ?_
  rintro e w2 ⟨v2, rfl, hR2, hE2⟩
  obtain ⟨b, o, c, p2, c2, hv2, hc2, hcell, hrd⟩ := hR2.last HSl.out
  subst hv2
  obtain ⟨x, hx⟩ : ∃ x, x = Sq.getD t [] := ⟨_, rfl⟩
  rw [← hx] at hcell hrd HSz HSb HSn
  have HE2 := Bl.hid (HEa.out.trans hE2)
  have Hrd := Bl.hid hrd
  have ht1 : (t : Int) < (t : Int) + 1 := by omega
  have ht2 : (0 : Int) ≤ (t : Int) := by omega
  clear hE2 hR2 hrd hx HB HSl
  go_wp2_with fail
  refine (of_any _ [x] (w2.alloc (.cells #[.slice p2 x.length c2] 43)) (Bl.rdss_1 Hrd.out _) (Hg.out.ext ((HE0.out.trans HE2.out).trans (Bl.ext_alloc _ _))) (by rw [List.flatten_singleton]; exact HSb.out) (by rw [List.flatten_singleton]; have := HSn.out; omega)).mono ?_
  rintro e w3 ⟨rfl, hE3⟩
  rw [List.flatten_singleton, HSz.out]
  have HE3 : Hid (Bl.Ext Wa w3) := Bl.hid ((HE2.out.trans (Bl.ext_alloc _ _)).trans hE3)
  clear hE3 hcell
  have HFc := Bl.hid (HF0.out.below HE3.out (World.block_lt_of_cell? _ _ (HF0.out.1 0 (by decide))))
  have Hstc := Bl.hid (Bl.store_ints (P := Tryd.prog) (k := .u8) (ty := 41) (l := F) HFc.out.there (by kernel_rfl) Hshl.out)
  go_wp2_with (((with_reducible refine Bl.wpL_store ?_ ?_ Hstc.out ?_); rfl; rfl))
  have hinc := World.rangeAt_setCells_same _ (w.heap.size) 0 (Bl.ints .u8 F) (by rw [Bl.ints_length, Hshl.out]; exact HFc.out.there)
  have hldc := run_loadVar_mid (P := Tryd.prog) _ (w.heap.size) 0 41 (Bl.ints .u8 F) _ hinc Tryd.underlying41 rfl (by rw [Bl.ints_length, Hshl.out]; kernel_rfl)
  refine bodyPost_ret (v := .tuple #[.agg (Bl.ints .u8 F).toArray, .nilIface]) (Bl.results_cell2 rfl rfl hldc rfl) rfl ⟨rfl, Bl.below_setCells _ _ _ _ (HE0.out.trans HE3.out) (Nat.le_refl _)⟩

set_option maxRecDepth 100000 in
set_option maxHeartbeats 1000000 in
/-- path.Check behind what path.Fold answers -/
theorem pcheck_of (root d : List Int) (n i : Int) (vl vp : Value) (w : World) (m r : Nat) (S : List Nat) (a : Nat → Addr) (he : Errs S a w) (h15 : 15 ∈ S) (hr : root.length = 32) (hd : d.length = 32) (hr0 : m = 0 → d = root → r = 0) (hr1 : m = 0 → ¬ d = root → r = 15) (hr2 : ¬ m = 0 → r = m)
    (hF : ∀ w1, Bl.Ext w w1 → Calls Tryd.prog 30 #[.int .i64 n, .int .i64 i, vl, vp] w1 fun e w' => e = .returned (.tuple #[.agg (Bl.ints .u8 d).toArray, errN a m]) ∧ Bl.Ext w1 w') :
    Calls Tryd.prog 13 #[.agg (Bl.ints .u8 root).toArray, .int .i64 n, .int .i64 i, vl, vp] w fun e w' => e = .returned (errN a r) ∧ Bl.Ext w w' := by
  have hF15 : w.cell? ⟨5, 0, none⟩ = some (.iface 136 (.pointer (some (a 15)))) := he.cell 15 h15
  have hFl := World.block_lt_of_cell? w _ hF15
  have HF15 := Bl.hid hF15
  have HFl : Hid (5 < w.heap.size) := hFl
  have HF := Bl.hid hF
  have Hr := Bl.hid hr
  have Hd := Bl.hid hd
  have HE0 := Bl.hid (Bl.ext_alloc w (.cells (Bl.ints .u8 root).toArray 41))
  have HRr := Bl.hid (Bl.range_box w root 41)
  have Hr0 := Bl.hid hr0
  have Hr1 := Bl.hid hr1
  have Hr2 := Bl.hid hr2
  clear hF15 hFl he hF hr hd hr0 hr1 hr2
  go_enter Tryd.func13, Tryd.ntmps13
  go_wp2_with fail
  generalize hWa : w.alloc (.cells (Bl.ints .u8 root).toArray 41) = Wa at HRr HE0 ⊢
  clear hWa
  refine (HF.out Wa HE0.out).mono ?_
  rintro e w1 ⟨rfl, hE1⟩
  have HFz := Bl.hid (fam_new w1 32 .u8 41 #[.int .u8 0, .int .u8 0, .int .u8 0, .int .u8 0, .int .u8 0, .int .u8 0, .int .u8 0, .int .u8 0, .int .u8 0, .int .u8 0, .int .u8 0, .int .u8 0, .int .u8 0, .int .u8 0, .int .u8 0, .int .u8 0, .int .u8 0, .int .u8 0, .int .u8 0, .int .u8 0, .int .u8 0, .int .u8 0, .int .u8 0, .int .u8 0, .int .u8 0, .int .u8 0, .int .u8 0, .int .u8 0, .int .u8 0, .int .u8 0, .int .u8 0, .int .u8 0] rfl)
  have HBx := Bl.hid (Bl.BoxD.of_fam HFz.out (d := d) Hd.out)
  have Hst := Bl.hid (Bl.store_ints (P := Tryd.prog) (ty := 41) (k := .u8) (l := d) (n := 32) HFz.out.there (by kernel_rfl) Hd.out)
  have HE2 : Hid (Bl.Ext Wa ((w1.alloc (.cells #[.int .u8 0, .int .u8 0, .int .u8 0, .int .u8 0, .int .u8 0, .int .u8 0, .int .u8 0, .int .u8 0, .int .u8 0, .int .u8 0, .int .u8 0, .int .u8 0, .int .u8 0, .int .u8 0, .int .u8 0, .int .u8 0, .int .u8 0, .int .u8 0, .int .u8 0, .int .u8 0, .int .u8 0, .int .u8 0, .int .u8 0, .int .u8 0, .int .u8 0, .int .u8 0, .int .u8 0, .int .u8 0, .int .u8 0, .int .u8 0, .int .u8 0, .int .u8 0] 41)).setCells w1.heap.size 0 (Bl.ints .u8 d))) := Bl.hid (Below.trans hE1 ((Bl.below_setCells _ _ _ _ (Bl.ext_alloc _ _) (Nat.le_refl _)).mono hE1.size))
  have Hs1 := Bl.hid hE1.size
  clear hE1 HF
  go_wp2_with (with_reducible refine Bl.stop_store (ty := 41) ?_)
  refine Bl.go_on ?_
  refine Bl.wpL_store0 rfl rfl Hst.out ?_
  clear Hst HFz
  generalize hX : w1.heap.size = X at HBx HE2 Hs1 ⊢
  generalize (w1.alloc (.cells #[.int .u8 0, .int .u8 0, .int .u8 0, .int .u8 0, .int .u8 0, .int .u8 0, .int .u8 0, .int .u8 0, .int .u8 0, .int .u8 0, .int .u8 0, .int .u8 0, .int .u8 0, .int .u8 0, .int .u8 0, .int .u8 0, .int .u8 0, .int .u8 0, .int .u8 0, .int .u8 0, .int .u8 0, .int .u8 0, .int .u8 0, .int .u8 0, .int .u8 0, .int .u8 0, .int .u8 0, .int .u8 0, .int .u8 0, .int .u8 0, .int .u8 0, .int .u8 0] 41)).setCells X 0 (Bl.ints .u8 d) = W2 at HBx HE2 ⊢
  clear hX
  have HE2w := Bl.hid (HE0.out.trans HE2.out)
  have Hl1 := Bl.hid (HBx.out.load (P := Tryd.prog) (ty := 41) Tryd.underlying41 (by kernel_rfl))
  have Hl2 := Bl.hid (Bl.load_ints (P := Tryd.prog) (ty := 41) (Bl.rangeAt_ext HRr.out HE2.out) Tryd.underlying41 (by kernel_rfl) Hr.out)
  have hcF := ((Bl.bcell HE2w.out).1 _ 0 HFl.out).trans HF15.out
  clear HE2 HBx HRr HE0
  by_cases hm : m = 0
  · subst hm
    rw [errN_zero]
    by_cases hdr : d = root
    · have heq : ∀ w, (Op.equalIn 10000 41 (.agg (Bl.ints .u8 d).toArray) (.agg (Bl.ints .u8 root).toArray)).run Tryd.prog w = .ok true w := fun w => by
        rw [Bl.eq10k Tryd.underlying41 Tryd.underlying5 (fun w => by simp [go_sem]) d root Hd.out Hr.out w, decide_eq_true hdr]
      have Hv : Hid (errN a r = .nilIface) := Bl.hid (by rw [Hr0.out rfl hdr]; rfl)
      clear hdr
      go_wp2_with (with_reducible refine Bl.stop_loadg (ty := 41) ?_)
      refine Bl.go_on ?_
      refine Bl.wpL_loadg rfl rfl Hl1.out ?_
      go_wp2_with (with_reducible refine Bl.stop_loadg (ty := 41) ?_)
      refine Bl.go_on ?_
      refine Bl.wpL_loadg rfl rfl Hl2.out ?_
      go_wp2_with fail
      go_ret
      exact ⟨by rw [Hv.out]; rfl, HE2w.out⟩
    · have heq : ∀ w, (Op.equalIn 10000 41 (.agg (Bl.ints .u8 d).toArray) (.agg (Bl.ints .u8 root).toArray)).run Tryd.prog w = .ok false w := fun w => by
        rw [Bl.eq10k Tryd.underlying41 Tryd.underlying5 (fun w => by simp [go_sem]) d root Hd.out Hr.out w, decide_eq_false hdr]
      have Hv : Hid (errN a r = .iface 136 (.pointer (some (a 15)))) := Bl.hid (by rw [Hr1.out rfl hdr]; rfl)
      clear hdr
      go_wp2_with (with_reducible refine Bl.stop_loadg (ty := 41) ?_)
      refine Bl.go_on ?_
      refine Bl.wpL_loadg rfl rfl Hl1.out ?_
      go_wp2_with (with_reducible refine Bl.stop_loadg (ty := 41) ?_)
      refine Bl.go_on ?_
      refine Bl.wpL_loadg rfl rfl Hl2.out ?_
      go_wp2_with fail
      go_ret
      exact ⟨by rw [Hv.out]; rfl, HE2w.out⟩
  · rw [errN_pos a m hm]
    have Hv : Hid (errN a r = .iface 136 (.pointer (some (a m)))) := Bl.hid (by rw [Hr2.out hm, errN_pos a m hm])
    clear hm
    go_wp2_with fail
    go_ret
    exact ⟨by rw [Hv.out]; rfl, HE2w.out⟩

theorem pcheck_any (root : List Int) (n i : Int) (vl vp : Value) (l : List Int) (p : List (List Int)) (w : World) (S : List Nat) (a : Nat → Addr) (he : Errs S a w) (h1 : 1 ∈ S) (h8 : 8 ∈ S) (h15 : 15 ∈ S) (hr : root.length = 32)
    (hl : Bl.Rd w .u8 vl l) (hbl : Bl.Byt l) (hll : l.length ≤ 1099511626000) (hp : Bl.RdD w vp p) (hdp : Bl.Dig p) (hg : Glob w) :
    Calls Tryd.prog 13 #[.agg (Bl.ints .u8 root).toArray, .int .i64 n, .int .i64 i, vl, vp] w fun e w' => e = .returned (errN a (Bl.chkP root n i l p)) ∧ Bl.Ext w w' := by
  by_cases h : n ≤ 512 ∧ 0 ≤ i ∧ i < n
  · obtain ⟨h2, h3, h4⟩ := h
    have hb := Bl.thereB_mk h2 h3 h4
    obtain ⟨j, rfl⟩ := Int.eq_ofNat_of_zero_le h3
    obtain ⟨m, rfl⟩ := Int.eq_ofNat_of_zero_le (a := n) (by omega)
    by_cases hpl : p.length = (Bl.turnsL m j).length
    · by_cases hf : Bl.foldP Bl.ndD m j (Bl.lfD l) p = root
      · rw [Bl.chkP_ok hb hpl hf]
        exact pcheck_of root (Bl.foldP Bl.ndD m j (Bl.lfD l) p) m j vl vp w 0 0 S a he h15 hr (Bl.foldP_dig hpl).1 (fun _ h => rfl) (fun _ h => absurd hf h) (fun h => absurd rfl h) (fun w1 hw => pfold_ok m j vl vp l p w1 (by omega) (by omega) (hl.ext hw) hbl hll (Bl.Rds.ext hp hw) hdp hpl (hg.ext hw))
      · rw [Bl.chkP_bad hb hpl hf]
        exact pcheck_of root (Bl.foldP Bl.ndD m j (Bl.lfD l) p) m j vl vp w 0 15 S a he h15 hr (Bl.foldP_dig hpl).1 (fun _ h => absurd h hf) (fun _ h => rfl) (fun h => absurd rfl h) (fun w1 hw => pfold_ok m j vl vp l p w1 (by omega) (by omega) (hl.ext hw) hbl hll (Bl.Rds.ext hp hw) hdp hpl (hg.ext hw))
    · rw [Bl.chkP_size hb hpl]
      exact pcheck_of root Bl.zs32 m j vl vp w 8 8 S a he h15 hr rfl (fun h => absurd h (by decide)) (fun h => absurd h (by decide)) (fun _ => rfl) (fun w1 hw => pfold_size m j vl vp p w1 S a (Bl.Rds.ext hp hw) (he.ext hw) h8 (by omega) (by omega) hpl)
  · rw [Bl.chkP_range (Bl.thereB_no h)]
    exact pcheck_of root Bl.zs32 n i vl vp w 1 1 S a he h15 hr rfl (fun h => absurd h (by decide)) (fun h => absurd h (by decide)) (fun _ => rfl) (fun w1 hw => pfold_range n i vl vp w1 S a (he.ext hw) h1 h)
end Go.Proofs.YtglenbikdahgjaaDoor

/- Walk of baileeref13.Make; path.Make where there is no such leaf. -/
namespace Go.Proofs.YtglenbikdahgjaaDoor
open Go.RowKit Go.Proofs

/-- path.Make where there is no such leaf -/
theorem pmake_no (v : Value) (ps : List (List Int)) (i : Int) (w : World) (a : Addr) (hR : Bl.Rdss w v ps) (hF : w.cell? ⟨1, 0, none⟩ = some (.iface 136 (.pointer (some a)))) (hi : ¬ ((ps.length : Int) ≤ 512 ∧ 0 ≤ i ∧ i < ps.length)) :
    Calls Tryd.prog 34 #[v, .int .i64 i] w fun e w' => e = .returned (.tuple #[.slice none 0 0, .iface 136 (.pointer (some a))]) ∧ Bl.Ext w w' := by
  obtain ⟨vs, hvs, hvl, hvr⟩ := hR
  obtain ⟨p, c, hvf, hvn, hvc⟩ := hvs.form
  subst hvf
  unfold maxLen at hvc
  have hth := Bl.hid (Bl.thereB_no hi)
  clear hvs hvl hvr hi
  go_enter Tryd.func34, Tryd.ntmps34
  go_wp2_with fail
  refine (there_any _ _ _).mono ?_
  rintro e w1 ⟨rfl, hw⟩
  subst hw
  rw [hth.out]
  go_wp2_with fail
  go_quiet (fail)
  go_wp2_with fail
  go_ret2
  exact ⟨rfl, (Below.refl _ _).drewN _⟩
end Go.Proofs.YtglenbikdahgjaaDoor

/- Walks of baileeref13.Fold, Check. -/
namespace Go.Proofs.Bl
open Go Go.RowKit
theorem snoc_of (p : List (List Int)) (m : Nat) (h : p.length = m + 1) : p = p.take m ++ [p.getD m []] := by
  have := take_snocD p m (by omega)
  rw [List.take_of_length_le (by omega)] at this
  exact this
theorem climb_dig : ∀ (l : List ((Bool × Nat × Nat) × List Int)) (d : List Int), d.length = 32 → Byt d → (climb ndD d l).length = 32 ∧ Byt (climb ndD d l)
  | [], _, h, k => ⟨h, k⟩
  | (t, s) :: r, d, _, _ => climb_dig r (upP ndD d t s) (by unfold upP; split <;> exact ndD_length _ _) (by unfold upP; split <;> exact ndD_byt _ _)
theorem foldP_dig' (n i : Nat) {d : List Int} (p : List (List Int)) (h : d.length = 32) (k : Byt d) : (foldP ndD n i d p).length = 32 ∧ Byt (foldP ndD n i d p) := climb_dig _ _ h k
end Go.Proofs.Bl
namespace Go.Proofs.YtglenbikdahgjaaDoor
open Go.RowKit Go.Proofs

end Go.Proofs.YtglenbikdahgjaaDoor

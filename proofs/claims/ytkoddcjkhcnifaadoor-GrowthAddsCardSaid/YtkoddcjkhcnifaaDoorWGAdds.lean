/- Walk of the law GrowthAdds. -/
import Derived.Test.YtkoddcjkhcnifaaDoorWGroD
import Derived.Test.YtkoddcjkhcnifaaDoorWGro7
import Derived.Test.YtkoddcjkhcnifaaDoorWGro8
import Derived.Test.YtkoddcjkhcnifaaDoorWRoots
import Derived.Test.YtkoddcjkhcnifaaDoorGroR
namespace Go.Proofs.YtkoddcjkhcnifaaDoor
open Go.RowKit Go.Proofs

set_option maxRecDepth 100000 in
set_option maxHeartbeats 4000000 in
theorem gadds_all (v : Value) (ps : List (List Int)) (w : World) (hR : Bl.Rdss w v ps) (hby : ∀ p ∈ ps, Bl.Byt p) (hg : GlobR w) :
    Calls Tryd.prog 3 #[v] w fun e w' => e = .returned (.bool true) ∧ Bl.Ext w w' := by
  have HLg : Hid (∀ w2, Bl.Ext w w2 → Calls Tryd.prog 10 #[v, .int .i64 40] w2 fun e w' => w' = w2 ∧ (e = .returned (.bool true) ∨ (e = .returned (.bool false) ∧ (ps.length : Int) ≤ 40 ∧ ∀ p ∈ ps, p.length ≤ 200))) := Bl.hid fun w2 h2 => long_any v ps w2 40 (hR.ext h2)
  have HR := Bl.hid hR
  obtain ⟨ws, hv, hwl, hws⟩ := hR
  obtain ⟨p, c, hvf, hvn, hvc⟩ := hv.form
  subst hvf
  unfold maxLen at hvc
  have Hv := Bl.hid hv
  have Hwl := Bl.hid hwl
  have Hws := Bl.hid hws
  have Hby := Bl.hid hby
  have Hg := Bl.hid hg
  obtain ⟨L, hL⟩ : ∃ L, L = ps.length := ⟨_, rfl⟩
  have HL := Bl.hid hL
  have hdg := Bl.dig_leaves ps
  have hln : (ps.map Bl.lfD).length = ps.length := List.length_map _
  have HGe : Hid (∀ k, k < ps.length → (ps.map Bl.lfD).getD k [] = Bl.lfD (ps.getD k [])) := Bl.hid fun k hk => by
    rw [List.getD_eq_getElem?_getD, List.getElem?_map, List.getD_eq_getElem?_getD, List.getElem?_eq_getElem hk]; rfl
  have HMt : Hid (∀ k, (ps.take k).map Bl.lfD = (ps.map Bl.lfD).take k) := Bl.hid fun k => List.map_take
  obtain ⟨ds, hds⟩ : ∃ ds, ds = ps.map Bl.lfD := ⟨_, rfl⟩
  rw [← hds] at hdg hln HGe HMt
  rw [← hL] at hln HGe hvn HLg ⊢
  have Hdg := Bl.hid hdg
  have Hln := Bl.hid hln
  clear hv hwl hws hby hg hL hdg hln hds
  go_enter Tryd.func3, Tryd.ntmps3
  go_wp2_with fail
  refine (alive14 w Hg.out).mono ?_
  rintro e w1 ⟨rfl, hE1⟩
  have HE1 := Bl.hid hE1
  clear hE1
  go_wp2_with fail
  refine (HLg.out w1 HE1.out).mono ?_
  rintro e w2 ⟨hw2, (rfl | ⟨rfl, h40, h200⟩)⟩
  · subst hw2
    go_wp2_with fail
    go_ret
    exact ⟨rfl, HE1.out⟩
  subst hw2
  have hL40 : L ≤ 40 := by omega
  have H200 := Bl.hid h200
  clear h200 h40 HLg
  go_wp2_with fail
  refine (gnew_any w2).mono ?_
  rintro e w3 ⟨rfl, hF3, hE3⟩
  have HF3 := Bl.hid hF3
  have HE3 := Bl.hid (HE1.out.trans hE3)
  obtain ⟨bf, hbf⟩ : ∃ bf, bf = w2.heap.size := ⟨_, rfl⟩
  rw [← hbf] at HF3 ⊢
  have Hbf : Hid (w.heap.size ≤ bf) := Bl.hid (by rw [hbf]; exact HE1.out.size)
  clear hF3 hE3 hbf
  go_wp2_with fail
  go_loopw [16] (fun i' wr => ∃ (k : Nat) (vf : Value), k ≤ L ∧ i' = .int .i64 k ∧ Hid (Bl.Fr wr bf vf k (Bl.peaksD (ds.take k)) ∧ ∀ j, vf.ownBlock = some j → w.heap.size ≤ j) ∧ Bl.Ext w wr) (fun i' _ => L - (intOf i').toNat)
  case atStart => exact ⟨0, _, Nat.zero_le _, rfl, Bl.hid ⟨by rw [List.take_zero]; exact HF3.out, fun j h => by cases h⟩, HE3.out⟩
  case round =>
    obtain ⟨k, vf, hk, rfl, HFr, hE⟩ := hrel
    have HE := Bl.hid hE
    clear hE
    by_cases hlt : k < L
    · have hkp : k < ps.length := by rw [← HL.out]; exact hlt
      obtain ⟨b, o, hpe, hbl, hcell⟩ := Bl.Rdss.cell' (by have h := Hv.out; exact h) Hwl.out k hkp
      subst hpe
      have hRk := Hws.out k hkp
      have hmem : ps.getD k [] ∈ ps := by rw [List.getD_eq_getElem?_getD, List.getElem?_eq_getElem hkp]; exact List.getElem_mem hkp
      have hlb := H200.out _ hmem
      have hbb := Hby.out _ hmem
      have hnx := Bl.peaks_next ds k (by rw [Hln.out]; exact hlt) (by rw [Hln.out]; omega)
      rw [HGe.out k hlt] at hnx
      obtain ⟨bs, hbs⟩ : ∃ bs, bs = ps.getD k [] := ⟨_, rfl⟩
      rw [← hbs] at hRk hlb hbb hnx
      obtain ⟨pk, ck, hfk, hnk, hck⟩ := hRk.form
      rw [hfk] at hcell hRk
      have hcr := ((Bl.bcell HE.out).1 b (o + k) hbl).trans hcell
      have HRk := Bl.hid hRk
      have Hbb := Bl.hid hbb
      have Hnx := Bl.hid hnx
      have htl : (ds.take k).length = k := by rw [List.length_take, Hln.out]; omega
      have hpo := Bl.peaksD_ones k (ds.take k) htl (by omega)
      have hpd := Bl.peaksD_dig k (ds.take k) htl (Hdg.out.take k) (by omega)
      have htr := Bl.peaksD_trail (ds.take k) (by omega)
      rw [htl] at htr
      have hple := Bl.peaksD_len_le k (ds.take k) htl (by omega)
      have hov := Bl.peaksD_over (ds.take (k + 1)) (by rw [List.length_take]; omega)
      have htl1 : (ds.take (k + 1)).length = k + 1 := by rw [List.length_take, Hln.out]; omega
      have hple1 := Bl.peaksD_len_le (k + 1) (ds.take (k + 1)) htl1 (by omega)
      have hpd1 := Bl.peaksD_dig (k + 1) (ds.take (k + 1)) htl1 (Hdg.out.take _) (by omega)
      have hne1 : ¬ (Bl.peaksD (ds.take (k + 1))).length = 0 := by rw [hnx, Bl.carry_length]; omega
      have hovd := Bl.overD_dig _ (ds.take (k + 1)) rfl (Hdg.out.take _) (by rw [htl1]; omega)
      have HRp : Hid (∀ w2 v, Bl.RdD w2 v (ds.take (k + 1)) → GlobR w2 → Calls Tryd.prog 18 #[v] w2 fun e w' => ∃ v', e = .returned v' ∧ Bl.RdD w' v' (Bl.peaksD (ds.take (k + 1))) ∧ Bl.Ext w2 w') := Bl.hid fun w2 v h1 h2 =>
        (refgpeaks_any v (ds.take (k + 1)) w2 h1 (Hdg.out.take _) (by rw [htl1]; omega) h2).mono fun e w' ⟨p', c', g1, g2, g3⟩ => ⟨_, g1, Bl.Rds.of_owns g2, g3⟩
      have HRo : Hid (∀ w2 v, Bl.RdD w2 v (ds.take (k + 1)) → GlobR w2 → Calls Tryd.prog 20 #[v] w2 fun e w' => e = .returned (.agg (Bl.ints .u8 (Bl.overD (ds.take (k + 1)))).toArray) ∧ Bl.Ext w2 w') := Bl.hid fun w2 v h1 h2 =>
        refover_any (k + 1) (ds.take (k + 1)) v w2 htl1 (by omega) (Hdg.out.take _) h1 h2
      have HRl : Hid (∀ w2, Bl.Ext w w2 → Calls Tryd.prog 15 #[.slice (some ⟨b, o, none⟩) (k + 1) c] w2 fun e w' => ∃ v', e = .returned v' ∧ Bl.RdD w' v' (ds.take (k + 1)) ∧ Bl.Ext w2 w') := Bl.hid fun w2 h2 => by
        have hr := Bl.Rdss.take (HR.out.ext h2) (k + 1) (by omega)
        have hpl : (ps.take (k + 1)).length = k + 1 := by rw [List.length_take]; omega
        refine (refleaves_any _ (ps.take (k + 1)) w2 hr (Hg.out.ext h2) (fun q hq => Hby.out q (List.mem_of_mem_take hq)) (fun q hq => by have := H200.out q (List.mem_of_mem_take hq); omega) (by omega)).mono fun e w' ⟨p', c', g1, g2, g3⟩ => ⟨_, g1, ?_, g3⟩
        have g4 := Bl.Rds.of_owns g2
        rw [HMt.out] at g4
        show Bl.Rds w' _ (ds.take (k + 1)).length _
        rw [htl1]
        rw [hpl] at g4 ⊢
        exact g4
      obtain ⟨PD, hPD⟩ : ∃ PD, PD = Bl.peaksD (ds.take k) := ⟨_, rfl⟩
      obtain ⟨PN, hPN⟩ : ∃ PN, PN = Bl.peaksD (ds.take (k + 1)) := ⟨_, rfl⟩
      obtain ⟨OD, hOD⟩ : ∃ OD, OD = Bl.overD (ds.take (k + 1)) := ⟨_, rfl⟩
      rw [← hPD] at HFr hpo hpd htr hple Hnx
      rw [← hPN] at hov hple1 hpd1 hne1 HRp Hnx
      rw [← hOD] at hov hovd HRo
      obtain ⟨hF, hvo⟩ := HFr.out
      have HF := Bl.hid hF
      have Hvo := Bl.hid hvo
      have Hpd := Bl.hid hpd
      have Hpd1 := Bl.hid hpd1
      have Hov := Bl.hid hov
      have Hpo := Bl.hid hpo
      have Htr := Bl.hid htr
      have Hpl : Hid (PD.length ≤ 40) := Bl.hid (by omega)
      have Hpl1 : Hid (PN.length ≤ 41) := Bl.hid (by omega)
      have Hn1 := Bl.hid hne1
      have hodl := hovd.1
      have HPk := Bl.hid (gpeaks_any bf vf k PD wr hF (by omega))
      have HPN := Bl.hid hPN
      have hk0 : (0 : Int) ≤ (k : Int) := by omega
      have hk1 : (k : Int) < (L : Int) := by omega
      have Hlb := Bl.hid hlb
      clear hF hvo hpd hpd1 hov hpo htr hple hple1 hne1 hovd hnx htl htl1 hPD hPN hOD hbs hfk hRk hbb hlb hmem HFr hcell hbl
      go_wp2_with fail
      refine HPk.out.mono ?_
      rintro e w5 ⟨v5, rfl, hown5, hE5⟩
      have HR5 : Hid (Bl.RdD w5 v5 PD) := Bl.hid (Bl.Rds.of_owns hown5)
      have HF5 := Bl.hid (HF.out.ext hE5)
      have HE5 := Bl.hid (HE.out.trans hE5)
      have HOf := Bl.hid (gof_ok k v5 PD w5 HR5.out Hpd.out (by omega) Hpo.out)
      clear hown5 hE5 HPk hcr
      go_wp2_with fail
      refine HOf.out.mono ?_
      rintro e w6 ⟨b2, v2, rfl, hb2, hv2, hG6, hE6⟩
      have HG6 := Bl.hid hG6
      have HF6 := Bl.hid (HF5.out.ext hE6)
      have HE6 := Bl.hid (HE5.out.trans hE6)
      have Hb2 : Hid (bf < b2 ∧ w.heap.size ≤ b2 ∧ b2 < w6.heap.size) := Bl.hid ⟨Nat.lt_of_lt_of_le HF5.out.lt hb2, Nat.le_trans HE5.out.size hb2, HG6.out.lt⟩
      have Hv2 : Hid (∀ j, v2.ownBlock = some j → w5.heap.size ≤ j ∧ j < w6.heap.size) := Bl.hid fun j hj => ⟨hv2 j hj, (HG6.out.pk.block j hj).2⟩
      have Hvf5 : Hid (∀ j, vf.ownBlock = some j → j < w5.heap.size) := Bl.hid fun j hj => (HF5.out.pk.block j hj).2
      have Hbf5 : Hid (bf < w5.heap.size ∧ w5.heap.size ≤ b2) := Bl.hid ⟨HF5.out.lt, hb2⟩
      have HAd := Bl.hid (gadd_any bf vf (.slice pk bs.length ck) k PD bs w w6 HF6.out (by omega) Htr.out (by have := Hpl.out; omega) (HRk.out.ext HE6.out) Hbb.out (by have := Hlb.out; omega) Hg.out.s HE6.out Hbf.out Hvo.out)
      clear hb2 hv2 hG6 hE6 HOf HF5 HR5
      go_wp2_with fail
      refine HAd.out.mono ?_
      rintro e w7 ⟨rfl, v7, hF7, hv7, hA7⟩
      rw [← Hnx.out] at hF7
      have HF7 := Bl.hid hF7
      have HE7 : Hid (Bl.Ext w w7) := Bl.hid (Below.trans HE6.out (hA7.below HE6.out.size Hbf.out Hvo.out))
      have hn1 : b2 ≠ bf := by have := Hb2.out.1; omega
      have HG7 := Bl.hid (HG6.out.adds hA7 hn1 (fun q => by have := Hvf5.out b2 q.symm; have := Hbf5.out.2; omega) (fun q => by have := (Hv2.out bf q).1; have := Hbf5.out.1; omega) (fun j hj q => by have := (Hv2.out j hj).1; have := Hvf5.out j q.symm; omega))
      have Hv7 : Hid (∀ j, v7.ownBlock = some j → (j < w5.heap.size ∧ w.heap.size ≤ j) ∨ w6.heap.size ≤ j) := Bl.hid fun j hj => by
        rcases hv7 j hj with q | q
        · exact .inl ⟨Hvf5.out j q, Hvo.out j q⟩
        · exact .inr q
      have HV2 : Hid (∀ j, v2.ownBlock = some j → w.heap.size ≤ j) := Bl.hid fun j hj => Nat.le_trans HE5.out.size (Hv2.out j hj).1
      have HAe := Bl.hid (gadd_any b2 v2 (.slice pk bs.length ck) k PD bs w w7 HG7.out (by omega) Htr.out (by have := Hpl.out; omega) (HRk.out.ext HE7.out) Hbb.out (by have := Hlb.out; omega) Hg.out.s HE7.out Hb2.out.2.1 HV2.out)
      clear hF7 hv7 hA7 hn1 HAd HF6 HG6
      go_wp2_with fail
      refine HAe.out.mono ?_
      rintro e w8 ⟨rfl, v8, hG8, hv8, hA8⟩
      rw [← Hnx.out] at hG8
      have HG8 := Bl.hid hG8
      have HE8 : Hid (Bl.Ext w w8) := Bl.hid (Below.trans HE7.out (hA8.below HE7.out.size Hb2.out.2.1 HV2.out))
      have HF8 := Bl.hid (HF7.out.adds hA8 (by have := Hb2.out.1; omega) (fun q => by have := (Hv2.out bf q.symm).1; have := Hbf5.out.1; omega) (fun q => by
        have h5 := Hbf5.out.2
        have h6 := Hb2.out.2.2
        rcases Hv7.out b2 q with ⟨g, _⟩ | g <;> omega) (fun j hj q => by
        obtain ⟨g1, g2⟩ := Hv2.out j q.symm
        rcases Hv7.out j hj with ⟨g, _⟩ | g <;> omega))
      have Hv7w : Hid (∀ j, v7.ownBlock = some j → w.heap.size ≤ j) := Bl.hid fun j hj => by
        rcases Hv7.out j hj with ⟨_, g⟩ | g
        · exact g
        · exact Nat.le_trans HE6.out.size g
      have hs0 : (0 : Int) ≤ (k : Int) + 1 := by omega
      have hs1 : (k : Int) + 1 ≤ (L : Int) := by omega
      have hs2 : (k : Int) + 1 ≤ (c : Int) := by omega
      have hsw := IntWalk.wrap64_in ((k : Int) + 1) ⟨by omega, by omega⟩
      clear hG8 hv8 hA8 HAe HF7 HG7 Hb2 Hv2 Hvf5 Hbf5 Hv7 HV2
      go_wp2_with fail
      refine (HRl.out w8 HE8.out).mono ?_
      rintro e w9 ⟨vl, rfl, hRl, hE9⟩
      have HRl9 := Bl.hid hRl
      have HF9 := Bl.hid (HF8.out.ext hE9)
      have HG9 := Bl.hid (HG8.out.ext hE9)
      have HE9 := Bl.hid (HE8.out.trans hE9)
      clear hRl hE9 HRl HF8 HG8
      go_wp2_with fail
      refine (gsize_any bf v7 _ _ w9 HF9.out).mono ?_
      rintro e w10 ⟨rfl, hw10⟩
      subst hw10
      go_wp2_with fail
      refine (gpeaks_any bf v7 _ PN w9 HF9.out (by have := Hpl1.out; omega)).mono ?_
      rintro e w10 ⟨va, rfl, hown, hE10⟩
      have HRa : Hid (Bl.RdD w10 va PN) := Bl.hid (Bl.Rds.of_owns hown)
      have HRl10 := Bl.hid (Bl.Rds.ext HRl9.out hE10)
      have HF10 := Bl.hid (HF9.out.ext hE10)
      have HG10 := Bl.hid (HG9.out.ext hE10)
      have HE10 := Bl.hid (HE9.out.trans hE10)
      clear hown hE10 HRl9 HF9 HG9
      go_wp2_with fail
      refine (HRp.out w10 _ HRl10.out (Hg.out.ext HE10.out)).mono ?_
      rintro e w11 ⟨vb, rfl, hRb, hE11⟩
      have HRb := Bl.hid hRb
      have HRa11 := Bl.hid (Bl.Rds.ext HRa.out hE11)
      have HRl11 := Bl.hid (Bl.Rds.ext HRl10.out hE11)
      have HF11 := Bl.hid (HF10.out.ext hE11)
      have HG11 := Bl.hid (HG10.out.ext hE11)
      have HE11 := Bl.hid (HE10.out.trans hE11)
      clear hRb hE11 HRl10 HF10 HG10 HRa
      go_wp2_with fail
      refine (same14_any va vb PN PN w11 HRa11.out HRb.out Hpd1.out Hpd1.out).mono ?_
      rintro e w12 ⟨rfl, hE12⟩
      rw [decide_eq_true rfl]
      have HRl12 := Bl.hid (Bl.Rds.ext HRl11.out hE12)
      have HF12 := Bl.hid (HF11.out.ext hE12)
      have HG12 := Bl.hid (HG11.out.ext hE12)
      have HE12 := Bl.hid (HE11.out.trans hE12)
      clear hE12 HRl11 HF11 HG11 HRa11 HRb
      have HRt : Hid (∀ w2 b v, Bl.Fr w2 b v (k + 1) PN → GlobR w2 → Calls Tryd.prog 19 #[.pointer (some ⟨b, 0, none⟩)] w2 fun e w' => e = .returned (.agg (Bl.ints .u8 OD).toArray) ∧ Bl.Ext w2 w') := Bl.hid fun w2 b v h1 h2 => by
        have h := groot_any b v (k + 1) PN w2 h1 ⟨fun q => by omega, fun q => absurd q Hn1.out⟩ (by have := Hpl1.out; omega) h2.s
        rw [Hov.out] at h; exact h
      have heq : ∀ w, (Op.equalIn 10000 40 (.agg (Bl.ints .u8 OD).toArray) (.agg (Bl.ints .u8 OD).toArray)).run Tryd.prog w = .ok true w := fun w =>
        Bl.eq10k_same Tryd.underlying40 Tryd.underlying5 (fun w => by simp [go_sem]) OD hodl w
      have heq2 : ∀ w, (Op.equalIn 10000 41 (.agg (Bl.ints .u8 OD).toArray) (.agg (Bl.ints .u8 OD).toArray)).run Tryd.prog w = .ok true w := fun w =>
        Bl.eq10k_same Tryd.underlying41 Tryd.underlying5 (fun w => by simp [go_sem]) OD hodl w
      go_wp2_with fail
      refine (HRt.out w12 bf v7 HF12.out (Hg.out.ext HE12.out)).mono ?_
      rintro e w13 ⟨rfl, hE13⟩
      have HRl13 := Bl.hid (Bl.Rds.ext HRl12.out hE13)
      have HF13 := Bl.hid (HF12.out.ext hE13)
      have HG13 := Bl.hid (HG12.out.ext hE13)
      have HE13 := Bl.hid (HE12.out.trans hE13)
      clear hE13 HRl12 HF12 HG12
      go_wp2_with fail
      refine (HRo.out w13 _ HRl13.out (Hg.out.ext HE13.out)).mono ?_
      rintro e w14 ⟨rfl, hE14⟩
      have HF14 := Bl.hid (HF13.out.ext hE14)
      have HG14 := Bl.hid (HG13.out.ext hE14)
      have HE14 := Bl.hid (HE13.out.trans hE14)
      clear hE14 HRl13 HF13 HG13
      go_wp2_with fail
      refine (HRt.out w14 b2 v8 HG14.out (Hg.out.ext HE14.out)).mono ?_
      rintro e w15 ⟨rfl, hE15⟩
      have HF15 := Bl.hid (HF14.out.ext hE15)
      have HG15 := Bl.hid (HG14.out.ext hE15)
      have HE15 := Bl.hid (HE14.out.trans hE15)
      clear hE15 HF14 HG14
      go_wp2_with fail
      refine (HRt.out w15 bf v7 HF15.out (Hg.out.ext HE15.out)).mono ?_
      rintro e w16 ⟨rfl, hE16⟩
      have HF16 := Bl.hid (HF15.out.ext hE16)
      have HG16 := Bl.hid (HG15.out.ext hE16)
      have HE16 := Bl.hid (HE15.out.trans hE16)
      clear hE16 HF15 HG15
      go_wp2_with fail
      refine (gsize_any b2 v8 _ _ w16 HG16.out).mono ?_
      rintro e w17 ⟨rfl, hw17⟩
      subst hw17
      clear heq heq2
      go_wp2_with fail
      go_roundw
      case rel => exact ⟨k + 1, v7, by omega, by go_num, Bl.hid ⟨by rw [← HPN.out]; exact HF16.out, Hv7w.out⟩, HE16.out⟩
      case measure => simp [intOf]; omega
    · obtain rfl : k = L := by omega
      clear HFr
      go_wp2_with fail
      refine (gnew_any wr).mono ?_
      rintro e w4 ⟨rfl, hF4, hE4⟩
      have HE4 := Bl.hid (HE.out.trans hE4)
      have HRt := Bl.hid (groot_any wr.heap.size (.slice none 0 0) 0 [] w4 hF4 ⟨fun _ => rfl, fun _ => rfl⟩ (by decide) (Hg.out.ext HE4.out).s)
      clear hF4 hE4
      go_wp2_with fail
      refine HRt.out.mono ?_
      rintro e w5 ⟨rfl, hE5⟩
      have HE5 := Bl.hid (HE4.out.trans hE5)
      clear hE5 HRt
      go_wp2_with fail
      refine (refover_any 0 [] (.slice none 0 0) w5 rfl (by decide) Bl.Dig.nil (Bl.Rds.nil _) (Hg.out.ext HE5.out)).mono ?_
      rintro e w6 ⟨rfl, hE6⟩
      have HE6 := Bl.hid (HE5.out.trans hE6)
      have hzz : Bl.foldp Bl.ndD Bl.zD [] = Bl.overD [] := rfl
      rw [hzz]
      have hzl := (Bl.overD_dig 0 [] rfl Bl.Dig.nil (by decide)).1
      obtain ⟨z, hz⟩ : ∃ z, z = Bl.overD [] := ⟨_, rfl⟩
      rw [← hz] at hzl ⊢
      have heq : ∀ w, (Op.equalIn 10000 40 (.agg (Bl.ints .u8 z).toArray) (.agg (Bl.ints .u8 z).toArray)).run Tryd.prog w = .ok true w := fun w =>
        Bl.eq10k_same Tryd.underlying40 Tryd.underlying5 (fun w => by simp [go_sem]) z hzl w
      clear hzz hz hE6
      go_wp2_with fail
      go_ret
      exact ⟨rfl, HE6.out⟩
end Go.Proofs.YtkoddcjkhcnifaaDoor

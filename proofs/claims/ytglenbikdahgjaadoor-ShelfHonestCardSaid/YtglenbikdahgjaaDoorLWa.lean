/- Walks of letter.Check, letter.Bytes, letter.Size, the law's alive. -/
import Derived.Test.YtglenbikdahgjaaDoorLet1
import Derived.Test.YtglenbikdahgjaaDoorLet3
import Derived.Test.YtglenbikdahgjaaDoorBA1
namespace Go.Proofs.YtglenbikdahgjaaDoor
open Go Go.RowKit Go.Proofs

set_option maxRecDepth 100000 in
set_option maxHeartbeats 4000000 in
theorem lcheck_any (v : Value) (l : Bl.LT) (w : World) (S : List Nat) (a : Nat → Addr) (h : Bl.LtV w v l) (he : Errs S a w) (s1 : 1 ∈ S) (s3 : 3 ∈ S) (s4 : 4 ∈ S) (s7 : 7 ∈ S) (s8 : 8 ∈ S) :
    Calls Tryd.prog 11 #[v] w fun e w' => e = .returned (errN a (Bl.chkL l)) ∧ Bl.Ext w w' := by
  have HL := Bl.hid h
  obtain ⟨cs, vp, vs, vb, L, rfl, hc⟩ := h
  obtain rfl := hc.eq
  have He := Bl.hid he
  clear hc he
  obtain ⟨q1, hq1⟩ : ∃ q, q = Bl.wi l.kind 1 7 := ⟨_, rfl⟩
  obtain ⟨q2, hq2⟩ : ∃ q, q = Bl.numOk l := ⟨_, rfl⟩
  obtain ⟨q3, hq3⟩ : ∃ q, q = Bl.sizOk l := ⟨_, rfl⟩
  obtain ⟨q4, hq4⟩ : ∃ q, q = Bl.frmOk l := ⟨_, rfl⟩
  obtain ⟨N, hN⟩ : ∃ N, N = (Bl.bytL l).length := ⟨_, rfl⟩
  have HV : Hid (Bl.chkL l = if q1 = false then 7 else if q2 = false then 1 else if q3 = false then 8 else if q4 = false then 4 else if 8000 < N then 3 else 0) := Bl.hid (by unfold Bl.chkL; rw [hq1, hq2, hq3, hq4, hN])
  have Hq1 := Bl.hid hq1
  have Hq2 := Bl.hid hq2
  have Hq3 := Bl.hid hq3
  have Hq4 := Bl.hid hq4
  have HN := Bl.hid hN
  have HK : Hid (q1 = true → 1 ≤ l.kind ∧ l.kind ≤ 7) := Bl.hid fun q => Bl.wi_iff.1 (by rw [← hq1]; exact q)
  clear hq1 hq2 hq3 hq4 hN
  obtain ⟨W1, hW1⟩ : ∃ W1, W1 = w.alloc (.cells (Bl.cL l vp vs vb).toArray 26) := ⟨_, rfl⟩
  have HB1 : Hid (Bl.BoxC W1 w.heap.size (Bl.cL l vp vs vb)) := Bl.hid (by rw [hW1]; exact Bl.BoxC.box w 26 (Bl.cL_ne _ _ _ _))
  have HE1 : Hid (Bl.Ext w W1) := Bl.hid (by rw [hW1]; exact Bl.ext_alloc _ _)
  unfold Bl.cL at hW1
  show Calls Tryd.prog 11 #[.agg #[.int .i64 l.kind, .int .i64 l.id, .int .i64 l.obj, vp, vs, .int .i64 l.frm, .int .i64 l.cnt, vb, .int .i64 l.code]] w _
  go_enter Tryd.func11, Tryd.ntmps11
  go_wp2_with fail
  rw [← hW1]
  clear hW1
  refine (within_any _ _ _ _).mono ?_
  rintro e w2 ⟨rfl, hw⟩
  subst hw
  rw [← Hq1.out]
  cases q1
  · have hF : W1.cell? ⟨0, 0, none⟩ = some (.iface 136 (.pointer (some (a 7)))) := (He.out.ext HE1.out).cell 7 s7
    go_wp2_with fail
    go_ret
    have HV2 : Bl.chkL l = 7 := by rw [HV.out]; rfl
    exact ⟨by rw [HV2, errN_pos a 7 (by decide)]; rfl, HE1.out⟩
  have Hk := Bl.hid (HK.out rfl)
  clear HK
  have Hl1 := Bl.hid (HB1.out.load (P := Tryd.prog) Tryd.underlying26 rfl (by kernel_rfl))
  go_wp2_with (with_reducible refine Bl.stop_load (ty := 26) ?_)
  refine Bl.go_on ?_
  refine Bl.wpL_load rfl Hl1.out ?_
  go_wp2_with fail
  refine (numbers_any _ l W1 (HL.out.ext HE1.out) Hk.out).mono ?_
  rintro e w2 ⟨rfl, hE2⟩
  have HE2 := Bl.hid (HE1.out.trans hE2)
  have HB2 := Bl.hid (HB1.out.ext hE2)
  clear hE2 Hl1 HB1
  rw [← Hq2.out]
  cases q2
  · have hF : w2.cell? ⟨1, 0, none⟩ = some (.iface 136 (.pointer (some (a 1)))) := (He.out.ext HE2.out).cell 1 s1
    go_wp2_with fail
    go_ret
    have HV2 : Bl.chkL l = 1 := by rw [HV.out]; rfl
    exact ⟨by rw [HV2, errN_pos a 1 (by decide)]; rfl, HE2.out⟩
  have Hl2 := Bl.hid (HB2.out.load (P := Tryd.prog) Tryd.underlying26 rfl (by kernel_rfl))
  go_wp2_with (with_reducible refine Bl.stop_load (ty := 26) ?_)
  refine Bl.go_on ?_
  refine Bl.wpL_load rfl Hl2.out ?_
  go_wp2_with fail
  refine (sized_any _ l w2 (HL.out.ext HE2.out) Hk.out).mono ?_
  rintro e w3 ⟨rfl, hE3⟩
  have HE3 := Bl.hid (HE2.out.trans hE3)
  have HB3 := Bl.hid (HB2.out.ext hE3)
  clear hE3 Hl2 HB2
  rw [← Hq3.out]
  cases q3
  · have hF : w3.cell? ⟨2, 0, none⟩ = some (.iface 136 (.pointer (some (a 8)))) := (He.out.ext HE3.out).cell 8 s8
    go_wp2_with fail
    go_ret
    have HV2 : Bl.chkL l = 8 := by rw [HV.out]; rfl
    exact ⟨by rw [HV2, errN_pos a 8 (by decide)]; rfl, HE3.out⟩
  have Hl3 := Bl.hid (HB3.out.load (P := Tryd.prog) Tryd.underlying26 rfl (by kernel_rfl))
  go_wp2_with (with_reducible refine Bl.stop_load (ty := 26) ?_)
  refine Bl.go_on ?_
  refine Bl.wpL_load rfl Hl3.out ?_
  go_wp2_with fail
  refine (bare_any _ l w3 (HL.out.ext HE3.out) Hk.out).mono ?_
  rintro e w4 ⟨v4, rfl, hL4, hE4⟩
  have HE4 := Bl.hid (HE3.out.trans hE4)
  have HB4 := Bl.hid (HB3.out.ext hE4)
  have HL4 := Bl.hid hL4
  clear hE4 Hl3 HB3 hL4
  go_wp2_with fail
  refine (lsame_any v4 _ (Bl.bareL l) Bl.lt0 w4 HL4.out ⟨_, _, _, _, _, rfl, Bl.LtC.zero w4⟩).mono ?_
  rintro e w5 ⟨rfl, hE5⟩
  have HE5 := Bl.hid (HE4.out.trans hE5)
  have HB5 := Bl.hid (HB4.out.ext hE5)
  clear hE5 HB4 HL4
  rw [show Bl.sameL (Bl.bareL l) Bl.lt0 = q4 from Hq4.out.symm]
  cases q4
  · have hF : w5.cell? ⟨3, 0, none⟩ = some (.iface 136 (.pointer (some (a 4)))) := (He.out.ext HE5.out).cell 4 s4
    go_wp2_with fail
    go_ret
    have HV2 : Bl.chkL l = 4 := by rw [HV.out]; rfl
    exact ⟨by rw [HV2, errN_pos a 4 (by decide)]; rfl, HE5.out⟩
  have Hl5 := Bl.hid (HB5.out.load (P := Tryd.prog) Tryd.underlying26 rfl (by kernel_rfl))
  go_wp2_with (with_reducible refine Bl.stop_load (ty := 26) ?_)
  refine Bl.go_on ?_
  refine Bl.wpL_load rfl Hl5.out ?_
  go_wp2_with fail
  refine (bytes_any _ l w5 (HL.out.ext HE5.out) Hk.out Hq2.out.symm Hq3.out.symm).mono ?_
  rintro e w6 ⟨v6, rfl, hr6, hE6⟩
  obtain ⟨p6, c6, hf6, _, _⟩ := hr6.form
  subst hf6
  rw [← HN.out]
  have HE6 := Bl.hid (HE5.out.trans hE6)
  clear hE6 Hl5 HB5 hr6
  by_cases h8 : 8000 < N
  · have h8i : (8000 : Int) < (N : Int) := by omega
    have hF : w6.cell? ⟨4, 0, none⟩ = some (.iface 136 (.pointer (some (a 3)))) := (He.out.ext HE6.out).cell 3 s3
    have HV2 : Hid (Bl.chkL l = 3) := Bl.hid (by rw [HV.out, if_neg (by decide), if_neg (by decide), if_neg (by decide), if_neg (by decide), if_pos h8])
    clear h8
    go_wp2_with fail
    go_ret
    exact ⟨by rw [HV2.out, errN_pos a 3 (by decide)]; rfl, HE6.out⟩
  · have h8i : ¬ ((8000 : Int) < (N : Int)) := by omega
    have HV2 : Hid (Bl.chkL l = 0) := Bl.hid (by rw [HV.out, if_neg (by decide), if_neg (by decide), if_neg (by decide), if_neg (by decide), if_neg h8])
    clear h8
    go_wp2_with fail
    go_ret
    exact ⟨by rw [HV2.out]; rfl, HE6.out⟩

theorem chk_ok {l : Bl.LT} (h : Bl.chkL l = 0) : (1 ≤ l.kind ∧ l.kind ≤ 7) ∧ Bl.numOk l = true ∧ Bl.sizOk l = true ∧ Bl.frmOk l = true ∧ (Bl.bytL l).length ≤ 8000 := by
  unfold Bl.chkL at h
  split at h
  · cases h
  split at h
  · cases h
  split at h
  · cases h
  split at h
  · cases h
  split at h
  · cases h
  rename_i h1 h2 h3 h4 h5
  exact ⟨Bl.wi_iff.1 (by simpa using h1), by simpa using h2, by simpa using h3, by simpa using h4, by omega⟩

theorem ack_lt (w : World) : Bl.LtV w (.agg #[.int .i64 2, .int .i64 0, .int .i64 0, .slice none 0 0, .slice none 0 0, .int .i64 0, .int .i64 0, .slice none 0 0, .int .i64 0]) ⟨2, 0, 0, [], [], 0, 0, [], 0⟩ :=
  ⟨_, _, _, _, [], rfl, rfl, Bl.Rds.nil _, Bl.RdS.nil _, rfl, Bl.Rdss.nil _, fun b hb => by cases hb⟩
theorem ack_17 : (if Bl.chkL ⟨2, 0, 0, [], [], 0, 0, [], 0⟩ = 0 then Bl.bytL ⟨2, 0, 0, [], [], 0, 0, [], 0⟩ else []).length = 17 := by decide +kernel

end Go.Proofs.YtglenbikdahgjaaDoor

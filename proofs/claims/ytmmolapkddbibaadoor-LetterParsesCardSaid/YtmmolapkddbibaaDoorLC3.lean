/- Walk of baileeref22.Check. -/
import Derived.Test.YtmmolapkddbibaaDoorLrb
namespace Go.Proofs.YtmmolapkddbibaaDoor
open Go Go.RowKit Go.Proofs

set_option maxRecDepth 100000 in
set_option maxHeartbeats 8000000 in
theorem rcheck3_any (v : Value) (l : Bl.LT) (w : World) (h : Bl.LtV w v l) (hk : l.kind = 3) :
    Calls Tryd.prog 42 #[v] w fun e w' => e = .returned (.int .i64 (Bl.chkL l : Nat)) ∧ Bl.Ext w w' := by
  have HL := Bl.hid h
  obtain ⟨cs0, vp, vs, vb, L, rfl, hc⟩ := h
  obtain rfl := hc.eq
  have HLa : Hid (∀ w2, Bl.Ext w w2 → Bl.numOk l = true → Bl.sizOk l = true → Calls Tryd.prog 43 #[.agg (Bl.cL l vp vs vb).toArray] w2 fun e w' => ∃ v', e = .returned v' ∧ Bl.Rd w' .u8 v' (Bl.bytL l) ∧ Bl.Ext w2 w') := Bl.hid fun w2 h2 hn hz => rlaid_any _ l w2 (HL.out.ext h2) (by rw [hk]; decide) hn hz
  obtain ⟨kd, id, oj, pl, sh, fr, ct, bl, cd⟩ := l
  obtain ⟨p1, c1, e1, hc1, hm1⟩ := hc.pl.form
  obtain ⟨p2, c2, e2, hc2, hm2⟩ := hc.sh.rd.form
  obtain ⟨p3, c3, e3, hc3, hm3⟩ := hc.bl.form
  have Hpl : Hid (Bl.Rd w .i64 vp pl) := Bl.hid hc.pl
  have Hsh := Bl.hid hc.sh
  have Hsl : Hid (L.map Bl.plS = sh) := Bl.hid hc.sl
  have Hbl : Hid (Bl.Rdss w vb bl) := Bl.hid hc.bl
  simp only at e1 e2 e3 hk hc1 hc3
  subst hk
  subst e1 e2 e3
  clear hc HL
  unfold maxLen at hm1 hm2 hm3
  obtain ⟨np, hnp⟩ : ∃ np, np = pl.length := ⟨_, rfl⟩
  obtain ⟨ns, hns⟩ : ∃ ns, ns = L.length := ⟨_, rfl⟩
  obtain ⟨nb, hnb⟩ : ∃ nb, nb = bl.length := ⟨_, rfl⟩
  have Hnp := Bl.hid hnp
  have Hns := Bl.hid hns
  have Hnb := Bl.hid hnb
  have Hnsh : Hid (sh.length = ns) := Bl.hid (by rw [← Hsl.out, List.length_map, hns])
  rw [← hnp] at Hpl hc1 HLa ⊢
  rw [← hns] at Hsh hc2 HLa ⊢
  rw [← hnb] at Hbl hc3 HLa ⊢
  clear hnp hns hnb
  obtain ⟨qI, hqI⟩ : ∃ q, q = Bl.wi id 0 1099511627776 := ⟨_, rfl⟩
  obtain ⟨qO, hqO⟩ : ∃ q, q = Bl.wi oj 0 1099511627776 := ⟨_, rfl⟩
  have HN : Hid (Bl.numOk ⟨3, id, oj, pl, sh, fr, ct, bl, cd⟩ = (qI && qO && !pl.any Bl.badP)) := Bl.hid (by rw [hqI, hqO]; unfold Bl.numOk Bl.numT; rfl)
  have HS : Hid (Bl.sizOk ⟨3, id, oj, pl, sh, fr, ct, bl, cd⟩ = Bl.wi pl.length 1 12) := Bl.hid (by unfold Bl.sizOk; rfl)
  have HF := Bl.hid (Bl.frm_iff ⟨3, id, oj, pl, sh, fr, ct, bl, cd⟩)
  have HqI := Bl.hid hqI
  have HqO := Bl.hid hqO
  clear hqI hqO
  obtain ⟨W0, hW0⟩ : ∃ W0, W0 = w.alloc (.cells #[.int .i64 3, .int .i64 id, .int .i64 oj, .slice p1 np c1, .slice p2 ns c2, .int .i64 fr, .int .i64 ct, .slice p3 nb c3, .int .i64 cd] 33) := ⟨_, rfl⟩
  have HE0 : Hid (Bl.Ext w W0) := Bl.hid (by rw [hW0]; exact Bl.ext_alloc _ _)
  obtain ⟨CS, hCS⟩ : ∃ CS, CS = Bl.cL ⟨3, id, oj, pl, sh, fr, ct, bl, cd⟩ (.slice p1 np c1) (.slice p2 ns c2) (.slice p3 nb c3) := ⟨_, rfl⟩
  rw [← hCS] at HLa
  have HB : Hid (Bl.BoxC W0 w.heap.size CS) := Bl.hid (by rw [hW0, hCS]; exact Bl.BoxC.box w 33 (cs := (Bl.cL ⟨3, id, oj, pl, sh, fr, ct, bl, cd⟩ (.slice p1 np c1) (.slice p2 ns c2) (.slice p3 nb c3))) (fun h => by cases h))
  have HC : Hid (CS[0]? = some (.int .i64 3) ∧ CS[1]? = some (.int .i64 id) ∧ CS[2]? = some (.int .i64 oj) ∧ CS[3]? = some (.slice p1 np c1) ∧ CS[4]? = some (.slice p2 ns c2) ∧ CS[5]? = some (.int .i64 fr) ∧ CS[6]? = some (.int .i64 ct) ∧ CS[7]? = some (.slice p3 nb c3) ∧ CS[8]? = some (.int .i64 cd) ∧ CS.length = 9) := Bl.hid (by rw [hCS]; exact ⟨rfl, rfl, rfl, rfl, rfl, rfl, rfl, rfl, rfl, rfl⟩)
  show Calls Tryd.prog 42 #[.agg #[.int .i64 3, .int .i64 id, .int .i64 oj, .slice p1 np c1, .slice p2 ns c2, .int .i64 fr, .int .i64 ct, .slice p3 nb c3, .int .i64 cd]] w _
  clear hCS
  go_enter Tryd.func42, Tryd.ntmps42
  go_wp2_with fail
  rw [← hW0]
  clear hW0
  refine (out_any _ _ _ _).mono ?_
  rintro e w2 ⟨rfl, hw⟩
  subst hw
  have q0 := HB.out.cell HC.out.1
  have q1 := HB.out.cell HC.out.2.1
  have q2 := HB.out.cell HC.out.2.2.1
  rw [show (!Bl.wi 3 1 7) = false from rfl]
  go_wp2_with fail
  refine (out_any _ _ _ _).mono ?_
  rintro e w2 ⟨rfl, hw⟩
  subst hw
  rw [← HqI.out]
  clear q1
  cases qI
  · rw [Bool.not_false]
    have q0 := HB.out.cell HC.out.1
    have q1 := HB.out.cell HC.out.2.1
    have q2 := HB.out.cell HC.out.2.2.1
    have q3 := HB.out.cell HC.out.2.2.2.1
    have q4 := HB.out.cell HC.out.2.2.2.2.1
    have q5 := HB.out.cell HC.out.2.2.2.2.2.1
    have q6 := HB.out.cell HC.out.2.2.2.2.2.2.1
    have q7 := HB.out.cell HC.out.2.2.2.2.2.2.2.1
    have q8 := HB.out.cell HC.out.2.2.2.2.2.2.2.2.1
    go_wp2_with fail
    clear q0 q1 q2 q3 q4 q5 q6 q7 q8
    go_loopw [3, 29] (fun o i wr => ∃ (k : Nat) (b : Bool), k ≤ np ∧ i = .int .i64 k ∧ o = .bool b ∧ Hid (b = true) ∧ Hid (Bl.BoxC wr w.heap.size CS) ∧ Hid (Bl.Ext w wr)) (fun _ i _ => np - (intOf i).toNat)
    case atStart => exact ⟨0, _, Nat.zero_le _, rfl, rfl, Bl.hid (rfl), HB, HE0⟩
    case round =>
      obtain ⟨k, b, hk, rfl, rfl, Hb, HBr, HEr⟩ := hrel
      by_cases hlt : k < np
      · have hla : k < pl.length := by rw [← Hnp.out]; exact hlt
        obtain ⟨b1, o1, cc1, hpa, _, _, _, _, hel1⟩ := Bl.Rd.pos (k := .i64) (l := pl) (by rw [Hnp.out] at Hpl; exact Hpl.out.ext HEr.out) (by omega)
        injection hpa with ha1 ha2 ha3
        subst ha1
        have hcell1 := hel1 k hla
        have Htk := Bl.hid (Bl.any_take1 Bl.badP pl 0 hla)
        obtain ⟨x, hx⟩ : ∃ x, x = pl.getD k 0 := ⟨_, rfl⟩
        rw [← hx] at hcell1 Htk
        clear hel1 ha2 ha3 hx
        obtain rfl : b = true := Hb.out
        go_wp2_with fail
        go_roundw
        case rel => exact ⟨k + 1, true, by omega, by go_num, rfl, Bl.hid rfl, HBr, HEr⟩
        case measure => simp [intOf]; omega
      · obtain rfl : k = np := by omega
        have q0 := HBr.out.cell HC.out.1
        have q1 := HBr.out.cell HC.out.2.1
        have q2 := HBr.out.cell HC.out.2.2.1
        have q3 := HBr.out.cell HC.out.2.2.2.1
        have q4 := HBr.out.cell HC.out.2.2.2.2.1
        have q5 := HBr.out.cell HC.out.2.2.2.2.2.1
        have q6 := HBr.out.cell HC.out.2.2.2.2.2.2.1
        have q7 := HBr.out.cell HC.out.2.2.2.2.2.2.2.1
        have q8 := HBr.out.cell HC.out.2.2.2.2.2.2.2.2.1
        obtain rfl : b = true := Hb.out
        have HV := Bl.hid (Bl.chk1 (l := ⟨3, id, oj, pl, sh, fr, ct, bl, cd⟩) rfl (by rw [HN.out]; rfl))
        go_wp2_with fail
        go_ret
        exact ⟨by rw [HV.out]; rfl, HEr.out⟩
  · rw [Bool.not_true]
    go_wp2_with fail
    refine (out_any _ _ _ _).mono ?_
    rintro e w2 ⟨rfl, hw⟩
    subst hw
    rw [← HqO.out]
    have q0 := HB.out.cell HC.out.1
    have q1 := HB.out.cell HC.out.2.1
    have q2 := HB.out.cell HC.out.2.2.1
    have q3 := HB.out.cell HC.out.2.2.2.1
    have q4 := HB.out.cell HC.out.2.2.2.2.1
    have q5 := HB.out.cell HC.out.2.2.2.2.2.1
    have q6 := HB.out.cell HC.out.2.2.2.2.2.2.1
    have q7 := HB.out.cell HC.out.2.2.2.2.2.2.2.1
    have q8 := HB.out.cell HC.out.2.2.2.2.2.2.2.2.1
    go_wp2_with fail
    clear q0 q1 q2 q3 q4 q5 q6 q7 q8
    go_loopw [3, 29] (fun o i wr => ∃ (k : Nat) (b : Bool), k ≤ np ∧ i = .int .i64 k ∧ o = .bool b ∧ Hid (b = (!qO || (pl.take k).any Bl.badP)) ∧ Hid (Bl.BoxC wr w.heap.size CS) ∧ Hid (Bl.Ext w wr)) (fun _ i _ => np - (intOf i).toNat)
    case atStart => exact ⟨0, _, Nat.zero_le _, rfl, rfl, Bl.hid (by rw [List.take_zero]; simp), HB, HE0⟩
    case round =>
      obtain ⟨k, b, hk, rfl, rfl, Hb, HBr, HEr⟩ := hrel
      by_cases hlt : k < np
      · have hla : k < pl.length := by rw [← Hnp.out]; exact hlt
        obtain ⟨b1, o1, cc1, hpa, _, _, _, _, hel1⟩ := Bl.Rd.pos (k := .i64) (l := pl) (by rw [Hnp.out] at Hpl; exact Hpl.out.ext HEr.out) (by omega)
        injection hpa with ha1 ha2 ha3
        subst ha1
        have hcell1 := hel1 k hla
        have Htk := Bl.hid (Bl.any_take1 Bl.badP pl 0 hla)
        obtain ⟨x, hx⟩ : ∃ x, x = pl.getD k 0 := ⟨_, rfl⟩
        rw [← hx] at hcell1 Htk
        clear hel1 ha2 ha3 hx
        cases b
        · go_wp2_with fail
          refine (out_any _ _ _ _).mono ?_
          rintro e w2 ⟨rfl, hw⟩
          subst hw
          go_wp2_with fail
          go_roundw
          case rel => exact ⟨k + 1, _, by omega, by go_num, rfl, Bl.hid (by rw [Htk.out, ← Bool.or_assoc, ← Hb.out]; rfl), HBr, HEr⟩
          case measure => simp [intOf]; omega
        · go_wp2_with fail
          go_roundw
          case rel => exact ⟨k + 1, true, by omega, by go_num, rfl, Bl.hid (by rw [Htk.out, ← Bool.or_assoc, ← Hb.out]; rfl), HBr, HEr⟩
          case measure => simp [intOf]; omega
      · obtain rfl : k = np := by omega
        have q0 := HBr.out.cell HC.out.1
        have q1 := HBr.out.cell HC.out.2.1
        have q2 := HBr.out.cell HC.out.2.2.1
        have q3 := HBr.out.cell HC.out.2.2.2.1
        have q4 := HBr.out.cell HC.out.2.2.2.2.1
        have q5 := HBr.out.cell HC.out.2.2.2.2.2.1
        have q6 := HBr.out.cell HC.out.2.2.2.2.2.2.1
        have q7 := HBr.out.cell HC.out.2.2.2.2.2.2.2.1
        have q8 := HBr.out.cell HC.out.2.2.2.2.2.2.2.2.1
        rw [List.take_of_length_le (by rw [← Hnp.out]; exact Nat.le_refl _)] at Hb
        cases b
        rotate_left
        · have HV := Bl.hid (Bl.chk1 (l := ⟨3, id, oj, pl, sh, fr, ct, bl, cd⟩) rfl (by rw [HN.out]; exact Bl.nob1 Hb.out))
          go_wp2_with fail
          go_ret
          exact ⟨by rw [HV.out]; rfl, HEr.out⟩
        have Hn : Hid (Bl.numOk ⟨3, id, oj, pl, sh, fr, ct, bl, cd⟩ = true) := Bl.hid (by rw [HN.out]; obtain ⟨z1, z2⟩ := Bl.nob0 Hb.out; rw [z1, z2]; rfl)
        obtain ⟨qB, hqB⟩ : ∃ q, q = Bl.wi (k : Int) 1 12 := ⟨_, rfl⟩
        rw [← Hnp.out, ← hqB] at HS
        have HqB := Bl.hid hqB
        clear hqB
        go_wp2_with fail
        refine (out_any _ _ _ _).mono ?_
        rintro e w2 ⟨rfl, hw⟩
        subst hw
        rw [← HqB.out]
        cases qB
        · rw [Bool.not_false]
          have HV := Bl.hid (Bl.chk8 (l := ⟨3, id, oj, pl, sh, fr, ct, bl, cd⟩) rfl Hn.out (HS.out))
          go_wp2_with fail
          go_ret
          exact ⟨by rw [HV.out]; rfl, HEr.out⟩
        rw [Bool.not_true]
        iterate 17 (try (first | go_values | go_skip | go_guarded | go_step | go_upon | go_back | (simp only [] at *; go_simp) | (go_values <;> (try go_simp))))
        rw [Bl.app35]
        by_cases hgnb : (0 : Int) < (nb : Int)
        · have HV := Bl.hid (Bl.chk4 (l := ⟨3, id, oj, pl, sh, fr, ct, bl, cd⟩) rfl Hn.out HS.out (fun q => by obtain ⟨a1, a2, a3, a4, a5, a6⟩ := HF.out.1 q; (try dsimp only at a1); (try dsimp only at a2); (try dsimp only at a3); (try dsimp only at a4); (try dsimp only at a5); (try dsimp only at a6); have := Hnp.out; have := Hnsh.out; have := Hnb.out; omega))
          go_wp2_with fail
          go_ret
          exact ⟨by rw [HV.out]; rfl, HEr.out⟩
        by_cases hgns : (0 : Int) < (ns : Int)
        · have HV := Bl.hid (Bl.chk4 (l := ⟨3, id, oj, pl, sh, fr, ct, bl, cd⟩) rfl Hn.out HS.out (fun q => by obtain ⟨a1, a2, a3, a4, a5, a6⟩ := HF.out.1 q; (try dsimp only at a1); (try dsimp only at a2); (try dsimp only at a3); (try dsimp only at a4); (try dsimp only at a5); (try dsimp only at a6); have := Hnp.out; have := Hnsh.out; have := Hnb.out; omega))
          go_wp2_with fail
          go_ret
          exact ⟨by rw [HV.out]; rfl, HEr.out⟩
        by_cases hgfr : fr = 0
        rotate_left
        · have hhfr : (fr == 0) = false := by rw [beq_eq_false_iff_ne]; exact hgfr
          have HV := Bl.hid (Bl.chk4 (l := ⟨3, id, oj, pl, sh, fr, ct, bl, cd⟩) rfl Hn.out HS.out (fun q => by obtain ⟨a1, a2, a3, a4, a5, a6⟩ := HF.out.1 q; (try dsimp only at a1); (try dsimp only at a2); (try dsimp only at a3); (try dsimp only at a4); (try dsimp only at a5); (try dsimp only at a6); have := Hnp.out; have := Hnsh.out; have := Hnb.out; omega))
          go_wp2_with fail
          go_ret
          exact ⟨by rw [HV.out]; rfl, HEr.out⟩
        subst hgfr
        by_cases hgct : ct = 0
        rotate_left
        · have hhct : (ct == 0) = false := by rw [beq_eq_false_iff_ne]; exact hgct
          have HV := Bl.hid (Bl.chk4 (l := ⟨3, id, oj, pl, sh, 0, ct, bl, cd⟩) rfl Hn.out HS.out (fun q => by obtain ⟨a1, a2, a3, a4, a5, a6⟩ := HF.out.1 q; (try dsimp only at a1); (try dsimp only at a2); (try dsimp only at a3); (try dsimp only at a4); (try dsimp only at a5); (try dsimp only at a6); have := Hnp.out; have := Hnsh.out; have := Hnb.out; omega))
          go_wp2_with fail
          go_ret
          exact ⟨by rw [HV.out]; rfl, HEr.out⟩
        subst hgct
        by_cases hgcd : cd = 0
        rotate_left
        · have hhcd : (cd == 0) = false := by rw [beq_eq_false_iff_ne]; exact hgcd
          have HV := Bl.hid (Bl.chk4 (l := ⟨3, id, oj, pl, sh, 0, 0, bl, cd⟩) rfl Hn.out HS.out (fun q => by obtain ⟨a1, a2, a3, a4, a5, a6⟩ := HF.out.1 q; (try dsimp only at a1); (try dsimp only at a2); (try dsimp only at a3); (try dsimp only at a4); (try dsimp only at a5); (try dsimp only at a6); have := Hnp.out; have := Hnsh.out; have := Hnb.out; omega))
          go_wp2_with fail
          go_ret
          exact ⟨by rw [HV.out]; rfl, HEr.out⟩
        subst hgcd
        have hf : Bl.frmOk ⟨3, id, oj, pl, sh, 0, 0, bl, 0⟩ = true := by
          refine HF.out.2 ⟨?_, ?_, ?_, ?_, ?_, ?_⟩ <;> (first | exact Or.inl rfl | exact Or.inl (Or.inl rfl) | exact Or.inl (Or.inr rfl) | exact Or.inl trivial | exact Or.inl (Or.inl trivial) | exact Or.inl (Or.inr trivial) | ((try dsimp only); have := Hnp.out; have := Hnsh.out; have := Hnb.out; omega))
        have Hf := Bl.hid hf
        clear hf
        have Hl := Bl.hid (HBr.out.load (P := Tryd.prog) Tryd.underlying33 rfl (by rw [HC.out.2.2.2.2.2.2.2.2.2]; kernel_rfl))
        go_wp2_with (with_reducible refine Bl.stop_load (ty := 33) ?_)
        refine Bl.go_on ?_
        refine Bl.wpL_load rfl Hl.out ?_
        go_wp2_with fail
        refine (HLa.out _ HEr.out Hn.out HS.out).mono ?_
        rintro e wz ⟨vz, rfl, hrz, hEz⟩
        obtain ⟨pz, cz, hfz, _, _⟩ := hrz.form
        subst hfz
        have HEz := Bl.hid (HEr.out.trans hEz)
        obtain ⟨M, hM⟩ : ∃ M, M = (Bl.bytL ⟨3, id, oj, pl, sh, 0, 0, bl, 0⟩).length := ⟨_, rfl⟩
        rw [← hM]
        have HM := Bl.hid hM
        clear hM hrz hEz Hl
        by_cases h8 : 8000 < M
        · have h8i : (8000 : Int) < (M : Int) := by omega
          have HV := Bl.hid (Bl.chk3 (l := ⟨3, id, oj, pl, sh, 0, 0, bl, 0⟩) rfl Hn.out HS.out Hf.out (by rw [← HM.out]; exact h8))
          clear h8
          go_wp2_with fail
          go_ret
          exact ⟨by rw [HV.out]; rfl, HEz.out⟩
        · have h8i : ¬ ((8000 : Int) < (M : Int)) := by omega
          have HV := Bl.hid (Bl.chk0 (l := ⟨3, id, oj, pl, sh, 0, 0, bl, 0⟩) rfl Hn.out HS.out Hf.out (by rw [← HM.out]; exact h8))
          clear h8
          go_wp2_with fail
          go_ret
          exact ⟨by rw [HV.out]; rfl, HEz.out⟩
end Go.Proofs.YtmmolapkddbibaaDoor

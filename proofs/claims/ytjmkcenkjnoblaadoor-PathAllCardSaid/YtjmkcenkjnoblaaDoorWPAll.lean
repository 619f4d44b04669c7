/- Walk of the law PathAll. -/
import Derived.Test.YtjmkcenkjnoblaaDoorWAl13
import Derived.Test.YtjmkcenkjnoblaaDoorWClash2
import Derived.Test.YtjmkcenkjnoblaaDoorPathD
namespace Go.Proofs.Bl
/-- a place out of any number -/
def placeU (o : Int) (n : Nat) : Nat := ((IntKind.u64.wrap o) % (n : Int)).toNat
theorem u64_range (o : Int) : 0 ≤ IntKind.u64.wrap o ∧ IntKind.u64.wrap o ≤ 18446744073709551615 := by
  have h : IntKind.u64.wrap o = o % 18446744073709551616 := rfl
  rw [h]; omega
theorem placeU_lt (o : Int) (n : Nat) (h : 0 < n) : placeU o n < n := by
  have h1 := Int.emod_nonneg (IntKind.u64.wrap o) (b := (n : Int)) (by omega)
  have h2 := Int.emod_lt_of_pos (IntKind.u64.wrap o) (b := (n : Int)) (by omega)
  unfold placeU; omega
theorem placeU_eq (o : Int) (n : Nat) (h : 0 < n) : IntKind.u64.wrap o % (n : Int) = (placeU o n : Int) := by
  have h1 := Int.emod_nonneg (IntKind.u64.wrap o) (b := (n : Int)) (by omega)
  unfold placeU; omega
end Go.Proofs.Bl
namespace Go.Proofs.YtjmkcenkjnoblaaDoor
open Go.RowKit Go.Proofs

set_option maxRecDepth 100000 in
set_option maxHeartbeats 4000000 in
theorem pathall_all (v : Value) (ps : List (List Int)) (other : Int) (w : World) (S : List Nat) (a : Nat → Addr) (hR : Bl.Rdss w v ps) (hby : ∀ p ∈ ps, Bl.Byt p) (hg : Glob w) (he : Errs S a w) (s1 : 1 ∈ S) (s8 : 8 ∈ S) (s15 : 15 ∈ S) :
    Calls Tryd.prog 5 #[v, .int .i64 other] w fun e w' => e = .returned (.bool true) ∧ Bl.Ext w w' := by
  have hR2 := hR
  obtain ⟨ws, hv, hwl, hws⟩ := hR2
  obtain ⟨p, c, hvf, hvn, hvc⟩ := hv.form
  subst hvf
  unfold maxLen at hvc
  have HR := Bl.hid hR
  have Hg := Bl.hid hg
  have Hby := Bl.hid hby
  have Hv := Bl.hid hv
  have Hwl := Bl.hid hwl
  have Hws := Bl.hid hws
  have He := Bl.hid he
  obtain ⟨O, hO⟩ : ∃ O, O = IntKind.u64.wrap other := ⟨_, rfl⟩
  have hO0 := (Bl.u64_range other).1
  have hO1 := (Bl.u64_range other).2
  rw [← hO] at hO0 hO1
  have HOp : Hid (∀ n : Nat, 0 < n → ∃ j : Nat, j < n ∧ O % (n : Int) = (j : Int)) := Bl.hid fun n hn => ⟨Bl.placeU other n, Bl.placeU_lt _ _ hn, by rw [hO]; exact Bl.placeU_eq _ _ hn⟩
  have hcvO : ∀ w, (convert 3 52 (.int .i64 other)).run Tryd.prog w = .ok (.int .u64 O) w := fun w => by rw [hO]; simp [go_sem]
  have HcvO := Bl.hid hcvO
  obtain ⟨n, hn⟩ : ∃ n, n = ps.length := ⟨_, rfl⟩
  rw [← hn] at HR Hv hvn ⊢
  have Hn := Bl.hid hn
  clear hR hg hby hv hwl hws he hO hn hcvO
  go_enter Tryd.func5, Tryd.ntmps5
  go_wp2_with fail
  refine (alive13 w Hg.out).mono ?_
  rintro e w1 ⟨rfl, hE1⟩
  have HE1 := Bl.hid hE1
  clear hE1
  go_wp2_with fail
  refine (long_any _ ps w1 30 (Bl.Rdss.ext HR.out HE1.out)).mono ?_
  rintro e w2 ⟨hw2, hlo⟩
  replace hw2 := hw2.symm
  subst hw2
  rcases hlo with rfl | ⟨rfl, hl30, hlp⟩
  · go_wp2_with fail
    go_ret
    exact ⟨rfl, HE1.out⟩
  have Hlp : Hid (∀ q ∈ ps, q.length ≤ 200) := Bl.hid hlp
  have hn30 : n ≤ 30 := by rw [Hn.out]; omega
  clear hlp hl30
  go_wp2_with fail
  refine (root_any _ ps w1 (Bl.Rdss.ext HR.out HE1.out) (Hg.out.ext HE1.out) Hby.out (fun q hq => by have := Hlp.out q hq; omega) (by rw [← Hn.out]; omega)).mono ?_
  rintro e w2 ⟨rfl, hE2⟩
  have hRDl : (Bl.rootD ps).length = 32 := Bl.rootD_length ps (by rw [← Hn.out]; omega)
  obtain ⟨RD, hRD⟩ : ∃ RD, RD = Bl.rootD ps := ⟨_, rfl⟩
  rw [← hRD] at hRDl ⊢
  have HRD := Bl.hid hRD
  have HRDl := Bl.hid hRDl
  have HFz := Bl.hid (fam_new w2 32 .u8 42 #[.int .u8 0, .int .u8 0, .int .u8 0, .int .u8 0, .int .u8 0, .int .u8 0, .int .u8 0, .int .u8 0, .int .u8 0, .int .u8 0, .int .u8 0, .int .u8 0, .int .u8 0, .int .u8 0, .int .u8 0, .int .u8 0, .int .u8 0, .int .u8 0, .int .u8 0, .int .u8 0, .int .u8 0, .int .u8 0, .int .u8 0, .int .u8 0, .int .u8 0, .int .u8 0, .int .u8 0, .int .u8 0, .int .u8 0, .int .u8 0, .int .u8 0, .int .u8 0] rfl)
  have HBx := Bl.hid (Bl.BoxD.of_fam HFz.out (d := RD) hRDl)
  have Hst := Bl.hid (Bl.store_ints (P := Tryd.prog) (ty := 42) (k := .u8) (l := RD) (n := 32) HFz.out.there (by kernel_rfl) hRDl)
  have HE3 : Hid (Bl.Ext w1 ((w2.alloc (.cells #[.int .u8 0, .int .u8 0, .int .u8 0, .int .u8 0, .int .u8 0, .int .u8 0, .int .u8 0, .int .u8 0, .int .u8 0, .int .u8 0, .int .u8 0, .int .u8 0, .int .u8 0, .int .u8 0, .int .u8 0, .int .u8 0, .int .u8 0, .int .u8 0, .int .u8 0, .int .u8 0, .int .u8 0, .int .u8 0, .int .u8 0, .int .u8 0, .int .u8 0, .int .u8 0, .int .u8 0, .int .u8 0, .int .u8 0, .int .u8 0, .int .u8 0, .int .u8 0] 42)).setCells w2.heap.size 0 (Bl.ints .u8 RD))) := Bl.hid (Below.trans hE2 ((Bl.below_setCells _ _ _ _ (Bl.ext_alloc _ _) (Nat.le_refl _)).mono hE2.size))
  clear hE2 hRD hRDl
  go_wp2_with (with_reducible refine Bl.stop_store (ty := 42) ?_)
  refine Bl.go_on ?_
  refine Bl.wpL_store0 rfl rfl Hst.out ?_
  clear Hst HFz
  generalize (w2.alloc (.cells #[.int .u8 0, .int .u8 0, .int .u8 0, .int .u8 0, .int .u8 0, .int .u8 0, .int .u8 0, .int .u8 0, .int .u8 0, .int .u8 0, .int .u8 0, .int .u8 0, .int .u8 0, .int .u8 0, .int .u8 0, .int .u8 0, .int .u8 0, .int .u8 0, .int .u8 0, .int .u8 0, .int .u8 0, .int .u8 0, .int .u8 0, .int .u8 0, .int .u8 0, .int .u8 0, .int .u8 0, .int .u8 0, .int .u8 0, .int .u8 0, .int .u8 0, .int .u8 0] 42)).setCells w2.heap.size 0 (Bl.ints .u8 RD) = W3 at *
  generalize w2.heap.size = X at *
  have HEw := Bl.hid (HE1.out.trans HE3.out)
  go_wp2_with fail
  go_loopw [26] (fun x wr => ∃ k : Nat, k ≤ n ∧ x = .int .i64 k ∧ Bl.Ext W3 wr) (fun x _ => n - (intOf x).toNat)
  case atStart => exact ⟨0, Nat.zero_le _, rfl, Below.refl _ _⟩
  case round =>
    obtain ⟨k, hk, rfl, hE⟩ := hrel
    have HE := Bl.hid hE
    clear hE
    by_cases hlt : k < n
    · have hkl : k < ps.length := by rw [← Hn.out]; exact hlt
      have HEk := Bl.hid (HEw.out.trans HE.out)
      obtain ⟨b, o, hpe, hbl, hcell0⟩ := Bl.Rdss.cell' (ps := ps) (n := n) (by have := Hv.out.ext HEk.out; rw [Hn.out] at this ⊢; exact this) Hwl.out k hkl
      subst hpe
      have hRk0 := Hws.out k hkl
      obtain ⟨pk, ck, hfk, _, _⟩ := hRk0.form
      rw [hfk] at hcell0
      have hRk : Bl.Rd w .u8 (.slice pk (ps.getD k []).length ck) (ps.getD k []) := by rw [hfk] at hRk0; exact hRk0
      have hmem : ps.getD k [] ∈ ps := by rw [List.getD_eq_getElem?_getD, List.getElem?_eq_getElem hkl]; exact List.getElem_mem hkl
      obtain ⟨j, hjn, hjO⟩ := HOp.out n (by omega)
      have hjl : j < ps.length := by rw [← Hn.out]; exact hjn
      have hRj0 := Hws.out j hjl
      obtain ⟨pj, cj, hfj, _, _⟩ := hRj0.form
      have hRj : Bl.Rd w .u8 (.slice pj (ps.getD j []).length cj) (ps.getD j []) := by rw [hfj] at hRj0; exact hRj0
      have hmj : ps.getD j [] ∈ ps := by rw [List.getD_eq_getElem?_getD, List.getElem?_eq_getElem hjl]; exact List.getElem_mem hjl
      obtain ⟨_, _, hpe2, hblj, hcellj⟩ := Bl.Rdss.cell' (ps := ps) (n := n) (by have := Hv.out.ext HEk.out; rw [Hn.out] at this ⊢; exact this) Hwl.out j hjl
      injection hpe2 with hpe2
      injection hpe2 with hpb hpo
      subst hpb hpo
      rw [hfj] at hcellj
      have HPl : Hid ((Bl.pathD ps k).length = (Bl.turnsL n k).length) := Bl.hid (by rw [Bl.pathD, Bl.pathL_len _ _ _ _ _ (Nat.le_refl _) (by rw [List.length_map, ← Hn.out]; omega), List.length_map, Hn.out])
      have HPd : Hid (Bl.Dig (Bl.pathD ps k)) := Bl.hid (Bl.dig_path _ _ _ (Nat.le_refl _) (by rw [List.length_map, ← Hn.out]; omega) (Bl.dig_leaves ps))
      have Hrf : Hid (Bl.foldP Bl.ndD n k (Bl.lfD (ps.getD k [])) (Bl.pathD ps k) = RD) := Bl.hid (by
        have h := Bl.foldP_path Bl.ndD Bl.zD _ (ps.map Bl.lfD) k (Nat.le_refl _) (by rw [List.length_map]; omega) (by rw [List.length_map, ← Hn.out]; omega)
        rw [List.length_map, Bl.getD_map Bl.lfD ps k [] Bl.zD hkl, ← Hn.out] at h
        rw [HRD.out]; exact h)
      have hdp := Bl.turns_dp n n k (Nat.le_refl _) (by omega)
      obtain ⟨PD, hPD⟩ : ∃ PD, PD = Bl.pathD ps k := ⟨_, rfl⟩
      have HM : Hid (∀ w2, Bl.Ext w w2 → Calls Tryd.prog 19 #[.slice (some ⟨b, o, none⟩) n c, .int .i64 k] w2 fun e w' => ∃ v', e = .returned (.tuple #[v', .nilIface]) ∧ Bl.RdD w' v' PD ∧ Bl.Ext w2 w') := Bl.hid fun w2 h2 => by
        rw [hPD]; exact pmake_any _ ps k w2 (Bl.Rdss.ext HR.out h2) (Hg.out.ext h2) Hby.out (fun q hq => by have := Hlp.out q hq; omega) (by rw [← Hn.out]; omega) hkl
      rw [← hPD] at HPl HPd Hrf
      have HCk : Hid (∀ w2 vp, Bl.Ext w w2 → Bl.RdD w2 vp PD → Calls Tryd.prog 15 #[.agg (Bl.ints .u8 RD).toArray, .int .i64 n, .int .i64 k, .slice pk (ps.getD k []).length ck, vp] w2 fun e w' => e = .returned .nilIface ∧ Bl.Ext w2 w') := Bl.hid fun w2 vp h2 h3 => by
        have h := pcheck_any RD n k _ vp (ps.getD k []) PD w2 S a (He.out.ext h2) s1 s8 s15 HRDl.out (hRk.ext h2) (Hby.out _ hmem) (by have := Hlp.out _ hmem; omega) h3 HPd.out (Hg.out.ext h2)
        rw [Bl.chkP_ok (Bl.thereB_mk (by omega) (by omega) (by omega)) HPl.out Hrf.out, errN_zero] at h
        exact h
      have HFo : Hid (∀ w2 vp, Bl.Ext w w2 → Bl.RdD w2 vp PD → Calls Tryd.prog 22 #[.int .i64 n, .int .i64 k, .slice pk (ps.getD k []).length ck, vp] w2 fun e w' => e = .returned (.tuple #[.agg (Bl.ints .u8 RD).toArray, .nilIface]) ∧ Bl.Ext w2 w') := Bl.hid fun w2 vp h2 h3 => by
        have h := pfold_ok n k _ vp (ps.getD k []) PD w2 (by omega) hlt (hRk.ext h2) (Hby.out _ hmem) (by have := Hlp.out _ hmem; omega) h3 HPd.out HPl.out (Hg.out.ext h2)
        rw [Hrf.out] at h; exact h
      have HCj : Hid (∀ w2 vp, Bl.Ext w w2 → Bl.RdD w2 vp PD → Calls Tryd.prog 15 #[.agg (Bl.ints .u8 RD).toArray, .int .i64 n, .int .i64 j, .slice pk (ps.getD k []).length ck, vp] w2 fun e w' => e = .returned (errN a (Bl.chkP RD n j (ps.getD k []) PD)) ∧ Bl.Ext w2 w') := Bl.hid fun w2 vp h2 h3 =>
        pcheck_any RD n j _ vp (ps.getD k []) PD w2 S a (He.out.ext h2) s1 s8 s15 HRDl.out (hRk.ext h2) (Hby.out _ hmem) (by have := Hlp.out _ hmem; omega) h3 HPd.out (Hg.out.ext h2)
      have HCl : Hid (Bl.chkP RD n j (ps.getD k []) PD = 0 → ¬ ps.getD j [] = ps.getD k [] → ∀ w2 vp, Bl.Ext w w2 → Bl.RdD w2 vp PD → Calls Tryd.prog 14 #[.slice (some ⟨b, o, none⟩) n c, .int .i64 j, .slice pk (ps.getD k []).length ck, vp] w2 fun e w' => ∃ x y, e = .returned (.tuple #[x, y, .bool true]) ∧ Bl.Ext w2 w') := Bl.hid fun hc hne w2 vp h2 h3 => by
        have hth : Bl.thereB (n : Int) (j : Int) = true := Bl.thereB_mk (by omega) (by omega) (by omega)
        have hpl : PD.length = (Bl.turnsL n j).length := by
          by_cases h : PD.length = (Bl.turnsL n j).length
          · exact h
          · rw [Bl.chkP_size hth h] at hc; cases hc
        have hf : Bl.foldP Bl.ndD n j (Bl.lfD (ps.getD k [])) PD = RD := by
          by_cases h : Bl.foldP Bl.ndD n j (Bl.lfD (ps.getD k [])) PD = RD
          · exact h
          · rw [Bl.chkP_bad hth hpl h] at hc; cases hc
        have h := pclash_found _ _ vp ps n j (ps.getD k []) PD w2 S a (Bl.Rdss.ext HR.out h2) (Hg.out.ext h2) Hby.out (fun q hq => by have := Hlp.out q hq; omega) Hn.out.symm (by omega) hjn (He.out.ext h2) s1 s8 s15 (hRk.ext h2) (Hby.out _ hmem) (by have := Hlp.out _ hmem; omega) h3 HPd.out hpl (by rw [hf, HRD.out]) hne
        exact h.mono fun e w' ⟨x, y, h4, _, h5⟩ => ⟨x, y, h4, h5⟩
      obtain ⟨z, hz⟩ : ∃ z, z = ps.getD k [] := ⟨_, rfl⟩
      obtain ⟨y, hy⟩ : ∃ y, y = ps.getD j [] := ⟨_, rfl⟩
      have Hbz : Hid (Bl.Byt z) := Bl.hid (by rw [hz]; exact Hby.out _ hmem)
      have Hbzy : Hid (Bl.Byt y) := Bl.hid (by rw [hy]; exact Hby.out _ hmj)
      rw [← hz] at hcell0 hRk HCk HFo HCj HCl
      rw [← hy] at hcellj hRj HCl
      have HRk := Bl.hid hRk
      have HRj := Bl.hid hRj
      obtain ⟨K, hK⟩ : ∃ K, K = Bl.chkP RD n j z PD := ⟨_, rfl⟩
      rw [← hK] at HCj HCl
      obtain ⟨L, hL⟩ : ∃ L, L = PD.length := ⟨_, rfl⟩
      have HL := Bl.hid hL
      have HLt : Hid (L = (Bl.turnsL n k).length) := Bl.hid (by rw [hL]; exact HPl.out)
      have hLd : L ≤ Bl.dp n := by rw [HLt.out]; exact hdp
      have Hlen : Hid (Bl.lenP (n : Int) (k : Int) = (L : Int)) := Bl.hid (by rw [Bl.lenP_yes (by omega) hlt, ← HLt.out])
      have hd31 : Bl.dp n ≤ 63 := by
        by_cases h2 : 2 ≤ n
        · exact (Bl.dp_bounds n h2 (by omega)).2.1
        · rw [Bl.dp_lo n (by omega)]; exact Nat.zero_le _
      obtain ⟨dn, hdn⟩ : ∃ dn, dn = Bl.dp n := ⟨_, rfl⟩
      rw [← hdn] at hLd hd31
      have Hdn := Bl.hid hdn
      clear hRk0 hfk hRk hmem hRj0 hfj hRj hmj hPD hz hy hK hL hdp hkl hjl hdn HPl HPd Hrf
      have hkn0 : (0 : Int) ≤ (k : Int) := by omega
      have hkn1 : (k : Int) < (n : Int) := by omega
      have hjn0 : (0 : Int) ≤ (j : Int) := by omega
      have hjn1 : (j : Int) < (n : Int) := by omega
      have HjO := Bl.hid hjO
      clear hjO
      go_wp2_with fail
      refine (HM.out wr HEk.out).mono ?_
      rintro e w4 ⟨vp, rfl, hRp, hE4⟩
      obtain ⟨pp, cp, hvpf, _, _⟩ := hRp.form
      subst hvpf
      have HRp4 := Bl.hid hRp
      rw [← HL.out]
      have HE4 := Bl.hid hE4
      have HBx4 := Bl.hid (HBx.out.ext (HE.out.trans hE4))
      clear hRp hE4 HM hcell0
      go_wp2_with (with_reducible refine Bl.stop_loadg (ty := 42) ?_)
      refine Bl.go_on ?_
      refine Bl.wpL_loadg rfl rfl (HBx4.out.load Tryd.underlying42 (by kernel_rfl)) ?_
      go_wp2_with fail
      refine (HCk.out w4 _ (HEk.out.trans HE4.out) (by rw [HL.out]; exact HRp4.out)).mono ?_
      rintro e w5 ⟨rfl, hE5⟩
      have HE5 := Bl.hid (HE4.out.trans hE5)
      have HRp5 := Bl.hid (Bl.Rds.ext HRp4.out hE5)
      clear hE5 HRp4 HE4 HCk
      go_wp2_with fail
      refine (depth_any _ _ (by omega)).mono ?_
      rintro e w6 ⟨rfl, hw6⟩
      subst hw6
      rw [Int.toNat_natCast, ← Hdn.out]
      have hLd' : ¬ ((dn : Int) < (L : Int)) := by omega
      go_wp2_with fail
      refine (length_any _ _ _).mono ?_
      rintro e w6 ⟨rfl, hE6⟩
      rw [Hlen.out]
      have HE6 := Bl.hid (HE5.out.trans hE6)
      have HRp6 := Bl.hid (Bl.Rds.ext HRp5.out hE6)
      clear hE6 HRp5 HE5
      go_wp2_with fail
      refine (HFo.out w6 _ (HEk.out.trans HE6.out) (by rw [HL.out]; exact HRp6.out)).mono ?_
      rintro e w7 ⟨rfl, hE7⟩
      have HRp7 := Bl.hid (Bl.Rds.ext HRp6.out hE7)
      have HFz := Bl.hid (fam_new w7 32 .u8 42 #[.int .u8 0, .int .u8 0, .int .u8 0, .int .u8 0, .int .u8 0, .int .u8 0, .int .u8 0, .int .u8 0, .int .u8 0, .int .u8 0, .int .u8 0, .int .u8 0, .int .u8 0, .int .u8 0, .int .u8 0, .int .u8 0, .int .u8 0, .int .u8 0, .int .u8 0, .int .u8 0, .int .u8 0, .int .u8 0, .int .u8 0, .int .u8 0, .int .u8 0, .int .u8 0, .int .u8 0, .int .u8 0, .int .u8 0, .int .u8 0, .int .u8 0, .int .u8 0] rfl)
      have HBy := Bl.hid (Bl.BoxD.of_fam HFz.out (d := RD) HRDl.out)
      have Hst := Bl.hid (Bl.store_ints (P := Tryd.prog) (ty := 42) (k := .u8) (l := RD) (n := 32) HFz.out.there (by kernel_rfl) HRDl.out)
      have HE8a : Hid (Bl.Ext w7 ((w7.alloc (.cells #[.int .u8 0, .int .u8 0, .int .u8 0, .int .u8 0, .int .u8 0, .int .u8 0, .int .u8 0, .int .u8 0, .int .u8 0, .int .u8 0, .int .u8 0, .int .u8 0, .int .u8 0, .int .u8 0, .int .u8 0, .int .u8 0, .int .u8 0, .int .u8 0, .int .u8 0, .int .u8 0, .int .u8 0, .int .u8 0, .int .u8 0, .int .u8 0, .int .u8 0, .int .u8 0, .int .u8 0, .int .u8 0, .int .u8 0, .int .u8 0, .int .u8 0, .int .u8 0] 42)).setCells w7.heap.size 0 (Bl.ints .u8 RD))) := Bl.hid (Bl.below_setCells _ _ _ _ (Bl.ext_alloc _ _) (Nat.le_refl _))
      have HE7 := Bl.hid (HE6.out.trans hE7)
      clear hE7 HRp6 HE6 HFo
      go_wp2_with (with_reducible refine Bl.stop_store (ty := 42) ?_)
      refine Bl.go_on ?_
      refine Bl.wpL_store0 rfl rfl Hst.out ?_
      clear Hst HFz
      generalize (w7.alloc (.cells #[.int .u8 0, .int .u8 0, .int .u8 0, .int .u8 0, .int .u8 0, .int .u8 0, .int .u8 0, .int .u8 0, .int .u8 0, .int .u8 0, .int .u8 0, .int .u8 0, .int .u8 0, .int .u8 0, .int .u8 0, .int .u8 0, .int .u8 0, .int .u8 0, .int .u8 0, .int .u8 0, .int .u8 0, .int .u8 0, .int .u8 0, .int .u8 0, .int .u8 0, .int .u8 0, .int .u8 0, .int .u8 0, .int .u8 0, .int .u8 0, .int .u8 0, .int .u8 0] 42)).setCells w7.heap.size 0 (Bl.ints .u8 RD) = W8 at *
      generalize w7.heap.size = Y7 at *
      have HE8 := Bl.hid (HE7.out.trans HE8a.out)
      have HRp8 := Bl.hid (Bl.Rds.ext HRp7.out HE8a.out)
      have HBx8 := Bl.hid (HBx.out.ext (HE.out.trans HE8.out))
      have heq : ∀ w, (Op.equalIn 10000 42 (.agg (Bl.ints .u8 RD).toArray) (.agg (Bl.ints .u8 RD).toArray)).run Tryd.prog w = .ok true w := fun w =>
        Bl.eq10k_same Tryd.underlying42 Tryd.underlying5 (fun w => by simp [go_sem]) RD HRDl.out w
      have HE8w := Bl.hid (HEk.out.trans HE8.out)
      have hcj8 := ((Bl.bcell HE8.out).1 _ (o + j) hblj).trans hcellj
      have hbl8 : b < W8.heap.size := Nat.lt_of_lt_of_le hblj HE8.out.size
      have hcvO := HcvO.out
      have hjO := HjO.out
      clear HRp7 HE7 HE8a hcellj hblj
      go_wp2_with (with_reducible refine Bl.stop_loadg (ty := 42) ?_)
      refine Bl.go_on ?_
      refine Bl.wpL_loadg rfl rfl (HBy.out.load Tryd.underlying42 (by kernel_rfl)) ?_
      go_wp2_with (with_reducible refine Bl.stop_loadg (ty := 42) ?_)
      refine Bl.go_on ?_
      refine Bl.wpL_loadg rfl rfl (HBx8.out.load Tryd.underlying42 (by kernel_rfl)) ?_
      have HLx : Hid (∀ w2, Bl.Ext W8 w2 → (Instr.loadAt 42 (.pointer (some ⟨X, 0, none⟩))).run Tryd.prog w2 = .ok (.agg (Bl.ints .u8 RD).toArray) w2) := Bl.hid fun w2 h2 => (HBx8.out.ext h2).load Tryd.underlying42 (by kernel_rfl)
      have Hcva : Hid (∀ w2, Bl.Ext W8 w2 → (convert 23 9 (.slice pj y.length cj)).run Tryd.prog w2 = .ok (.string (Bl.bstr y)) w2) := Bl.hid fun w2 h2 => Bl.conv_bytes (HRj.out.ext (HE8w.out.trans h2)) Tryd.underlying23 Tryd.underlying5 Tryd.underlying9
      have Hcvb : Hid (∀ w2, Bl.Ext W8 w2 → (convert 23 9 (.slice pk z.length ck)).run Tryd.prog w2 = .ok (.string (Bl.bstr z)) w2) := Bl.hid fun w2 h2 => Bl.conv_bytes (HRk.out.ext (HE8w.out.trans h2)) Tryd.underlying23 Tryd.underlying5 Tryd.underlying9
      have HCj8 : Hid (∀ w2, Bl.Ext W8 w2 → Calls Tryd.prog 15 #[.agg (Bl.ints .u8 RD).toArray, .int .i64 n, .int .i64 j, .slice pk z.length ck, .slice pp L cp] w2 fun e w' => e = .returned (errN a K) ∧ Bl.Ext w2 w') := Bl.hid fun w2 h2 => HCj.out w2 _ (HE8w.out.trans h2) (by rw [HL.out]; exact Bl.Rds.ext HRp8.out h2)
      have hsq := Bl.bstr_beq Hbzy.out Hbz.out
      by_cases hyz : y = z
      · have hyb : Bl.bstr y = Bl.bstr z := by rw [hyz]
        rw [decide_eq_true hyz] at hsq
        subst hyz
        clear hyb hsq
        go_wp2_with fail
        apply Bl.wp_region_ev 16 [84, 85, 86, 87, 88, 89, 90, 91, 92, 93, 94, 95, 96, 97, 98, 99] [Bl.eqv _, Bl.eqv _, Bl.eqv _, Bl.eqv _, Bl.eqv _, Bl.eqv _, Bl.eqv _, Bl.eqv _, Bl.eqv _, Bl.eqv _, Bl.eqv _, Bl.eqv _, Bl.eqv _, Bl.eqv _, Bl.eqv _, Bl.eqv _] (by kernel_rfl) (by kernel_rfl) (by kernel_rfl) (by kernel_rfl)
        case hsteps =>
          refine ⟨?_, ?_, ?_, ?_, ?_, ?_, ?_, ?_, ?_, ?_, ?_, ?_, ?_, ?_, ?_, ?_, trivial⟩
          all_goals
            intro ev w1 hext hb hd
            have e0 := hb 0 (by decide)
            have e5 := hb 5 (by decide)
            have e6 := hb 6 (by decide)
            have e8 := hb 8 (by decide)
            have e9 := hb 9 (by decide)
            have e12 := hb 12 (by decide)
            clear hb
            simp only [Array.getD_eq_getD_getElem?, List.getElem?_toArray, List.getElem?_cons_succ, List.getElem?_cons_zero, Option.getD_some] at e0 e5 e6 e8 e9 e12
            simp only [Bl.DepsE, List.getElem?_cons_succ, List.getElem?_cons_zero, Option.bind_some, List.getD_cons_succ, List.getD_cons_zero, Bl.eqv, and_true] at hd
            have hc := (Bl.bcell hext).1
            have hcl := (hc _ (o + j) hbl8).trans hcj8
            have c1 := Hcva.out _ hext
            have c2 := Hcvb.out _ hext
            simp only [Bl.Good, Region.wanted, Bl.yieldE, List.getElem?_cons_succ, List.getElem?_cons_zero, Option.bind_some, hd, if_true]
            go_simp
            first | exact rfl | exact ⟨Below.refl _ _, rfl⟩ | exact ⟨Below.refl _ _, rfl⟩
        case hmono => exact ⟨Bl.mono_eqv _, Bl.mono_eqv _, Bl.mono_eqv _, Bl.mono_eqv _, Bl.mono_eqv _, Bl.mono_eqv _, Bl.mono_eqv _, Bl.mono_eqv _, Bl.mono_eqv _, Bl.mono_eqv _, Bl.mono_eqv _, Bl.mono_eqv _, Bl.mono_eqv _, Bl.mono_eqv _, Bl.mono_eqv _, Bl.mono_eqv _, trivial⟩
        case hend =>
          intro u w1 hext hend
          simp only [Bl.EndE, List.getElem?_cons_succ, List.getElem?_cons_zero, Option.bind_some, List.getD_cons_succ, List.getD_cons_zero, Bl.eqv, true_and] at hend
          simp only [Bl.fillAct, List.setIfInBounds_toArray, List.set_cons_succ, List.set_cons_zero, List.drop_succ_cons, List.drop_zero, hend]
          have HEf := Bl.hid ((HE.out.trans HE8.out).trans hext)
          clear hext hend
          go_wp2_with fail
          go_roundw
          case rel => exact ⟨k + 1, by omega, by go_num, HEf.out⟩
          case measure => simp [intOf]; omega
      · rw [decide_eq_false hyz] at hsq
        have hsq2 : ¬ (Bl.bstr y = Bl.bstr z) := fun q => hyz ((Bl.bstr_eq_iff Hbzy.out Hbz.out).1 q)
        by_cases hK0 : K = 0
        · have HCl8 := Bl.hid (HCl.out hK0 hyz)
          subst hK0
          rw [errN_zero] at HCj8
          clear hyz
          go_wp2_with fail
          apply Bl.wp_region_ev 16 [84, 85, 86, 87, 88, 89, 90, 91, 92, 93, 94, 95, 96, 97, 98, 99] [Bl.eqv _, Bl.eqv _, Bl.eqv _, Bl.eqv _, Bl.eqv _, Bl.eqv _, Bl.eqv _, Bl.eqv _, Bl.eqv _, Bl.eqv _, Bl.eqv _, Bl.eqv _, Bl.eqv _, Bl.eqv _, Bl.eqv _, Bl.eqv _] (by kernel_rfl) (by kernel_rfl) (by kernel_rfl) (by kernel_rfl)
          case hsteps =>
            refine ⟨?_, ?_, ?_, ?_, ?_, ?_, ?_, ?_, ?_, ?_, ?_, ?_, ?_, ?_, ?_, ?_, trivial⟩
            all_goals
              intro ev w1 hext hb hd
              have e0 := hb 0 (by decide)
              have e5 := hb 5 (by decide)
              have e6 := hb 6 (by decide)
              have e8 := hb 8 (by decide)
              have e9 := hb 9 (by decide)
              have e12 := hb 12 (by decide)
              clear hb
              simp only [Array.getD_eq_getD_getElem?, List.getElem?_toArray, List.getElem?_cons_succ, List.getElem?_cons_zero, Option.getD_some] at e0 e5 e6 e8 e9 e12
              simp only [Bl.DepsE, List.getElem?_cons_succ, List.getElem?_cons_zero, Option.bind_some, List.getD_cons_succ, List.getD_cons_zero, Bl.eqv, and_true] at hd
              have hc := (Bl.bcell hext).1
              have hcl := (hc _ (o + j) hbl8).trans hcj8
              have c1 := Hcva.out _ hext
              have c2 := Hcvb.out _ hext
              simp only [Bl.Good, Region.wanted, Bl.yieldE, List.getElem?_cons_succ, List.getElem?_cons_zero, Option.bind_some, hd, beq_self_eq_true, if_true]
              first
              | ((with_reducible refine Bl.goodR_load ?_ (HLx.out _ hext) ?_); exact e6; exact rfl)
              | (go_simp; first | (go_at_call 15; (with_reducible refine (HCj8.out _ hext).mono ?_); rintro e w2 ⟨rfl, hE2⟩; exact ⟨_, rfl, hE2, rfl⟩) | exact rfl | exact ⟨Below.refl _ _, rfl⟩ | exact ⟨Below.refl _ _, rfl⟩)
          case hmono => exact ⟨Bl.mono_eqv _, Bl.mono_eqv _, Bl.mono_eqv _, Bl.mono_eqv _, Bl.mono_eqv _, Bl.mono_eqv _, Bl.mono_eqv _, Bl.mono_eqv _, Bl.mono_eqv _, Bl.mono_eqv _, Bl.mono_eqv _, Bl.mono_eqv _, Bl.mono_eqv _, Bl.mono_eqv _, Bl.mono_eqv _, Bl.mono_eqv _, trivial⟩
          case hend =>
            intro u w1 hext hend
            simp only [Bl.EndE, List.getElem?_cons_succ, List.getElem?_cons_zero, Option.bind_some, List.getD_cons_succ, List.getD_cons_zero, Bl.eqv, true_and] at hend
            simp only [Bl.fillAct, List.setIfInBounds_toArray, List.set_cons_succ, List.set_cons_zero, List.drop_succ_cons, List.drop_zero, hend]
            have HE9 := Bl.hid (HE8w.out.trans hext)
            have HRp9 := Bl.hid (Bl.Rds.ext HRp8.out hext)
            have HEf := Bl.hid ((HE.out.trans HE8.out).trans hext)
            clear hext hend
            go_wp2_with fail
            refine (HCl8.out _ _ HE9.out (by rw [HL.out]; exact HRp9.out)).mono ?_
            rintro e w10 ⟨x1, x2, rfl, hE10⟩
            have HE10 := Bl.hid (HEf.out.trans hE10)
            clear hE10
            go_wp2_with fail
            go_roundw
            case rel => exact ⟨k + 1, by omega, by go_num, HE10.out⟩
            case measure => simp [intOf]; omega
        · rw [errN_pos a K hK0] at HCj8
          clear hyz hK0
          go_wp2_with fail
          apply Bl.wp_region_ev 16 [84, 85, 86, 87, 88, 89, 90, 91, 92, 93, 94, 95, 96, 97, 98, 99] [Bl.eqv _, Bl.eqv _, Bl.eqv _, Bl.eqv _, Bl.eqv _, Bl.eqv _, Bl.eqv _, Bl.eqv _, Bl.eqv _, Bl.eqv _, Bl.eqv _, Bl.eqv _, Bl.eqv _, Bl.eqv _, Bl.eqv _, Bl.eqv _] (by kernel_rfl) (by kernel_rfl) (by kernel_rfl) (by kernel_rfl)
          case hsteps =>
            refine ⟨?_, ?_, ?_, ?_, ?_, ?_, ?_, ?_, ?_, ?_, ?_, ?_, ?_, ?_, ?_, ?_, trivial⟩
            all_goals
              intro ev w1 hext hb hd
              have e0 := hb 0 (by decide)
              have e5 := hb 5 (by decide)
              have e6 := hb 6 (by decide)
              have e8 := hb 8 (by decide)
              have e9 := hb 9 (by decide)
              have e12 := hb 12 (by decide)
              clear hb
              simp only [Array.getD_eq_getD_getElem?, List.getElem?_toArray, List.getElem?_cons_succ, List.getElem?_cons_zero, Option.getD_some] at e0 e5 e6 e8 e9 e12
              simp only [Bl.DepsE, List.getElem?_cons_succ, List.getElem?_cons_zero, Option.bind_some, List.getD_cons_succ, List.getD_cons_zero, Bl.eqv, and_true] at hd
              have hc := (Bl.bcell hext).1
              have hcl := (hc _ (o + j) hbl8).trans hcj8
              have c1 := Hcva.out _ hext
              have c2 := Hcvb.out _ hext
              simp only [Bl.Good, Region.wanted, Bl.yieldE, List.getElem?_cons_succ, List.getElem?_cons_zero, Option.bind_some, hd, beq_self_eq_true, if_true]
              first
              | ((with_reducible refine Bl.goodR_load ?_ (HLx.out _ hext) ?_); exact e6; exact rfl)
              | (go_simp; first | (go_at_call 15; (with_reducible refine (HCj8.out _ hext).mono ?_); rintro e w2 ⟨rfl, hE2⟩; exact ⟨_, rfl, hE2, rfl⟩) | exact rfl | exact ⟨Below.refl _ _, rfl⟩ | exact ⟨Below.refl _ _, rfl⟩)
          case hmono => exact ⟨Bl.mono_eqv _, Bl.mono_eqv _, Bl.mono_eqv _, Bl.mono_eqv _, Bl.mono_eqv _, Bl.mono_eqv _, Bl.mono_eqv _, Bl.mono_eqv _, Bl.mono_eqv _, Bl.mono_eqv _, Bl.mono_eqv _, Bl.mono_eqv _, Bl.mono_eqv _, Bl.mono_eqv _, Bl.mono_eqv _, Bl.mono_eqv _, trivial⟩
          case hend =>
            intro u w1 hext hend
            simp only [Bl.EndE, List.getElem?_cons_succ, List.getElem?_cons_zero, Option.bind_some, List.getD_cons_succ, List.getD_cons_zero, Bl.eqv, true_and] at hend
            simp only [Bl.fillAct, List.setIfInBounds_toArray, List.set_cons_succ, List.set_cons_zero, List.drop_succ_cons, List.drop_zero, hend]
            have HEf := Bl.hid ((HE.out.trans HE8.out).trans hext)
            clear hext hend
            go_wp2_with fail
            go_roundw
            case rel => exact ⟨k + 1, by omega, by go_num, HEf.out⟩
            case measure => simp [intOf]; omega
    · obtain rfl : k = n := by omega
      go_wp2_with fail
      go_ret
      exact ⟨rfl, HEw.out.trans HE.out⟩
end Go.Proofs.YtjmkcenkjnoblaaDoor

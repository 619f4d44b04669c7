/- Walk of the law TreeRoots: it returns true. -/
import Derived.Test.YtdodgcapihfkkaaDoorWRoots
import Derived.Test.YtdodgcapihfkkaaDoorWEnum
import Derived.Test.YtdodgcapihfkkaaDoorIns
namespace Go.Proofs.YtdodgcapihfkkaaDoor
open Go.RowKit Go.Proofs

theorem tRows : Bl.SlT Tryd.prog 22 24 (.slice none 0 0) 1 24 := ⟨Tryd.underlying22, by kernel_rfl, rfl, by decide⟩

set_option maxRecDepth 100000 in
set_option maxHeartbeats 2000000 in
theorem roots_all (v : Value) (ps : List (List Int)) (w : World) (hR : Bl.Rdss w v ps) (hg : GlobR w) (hby : ∀ p ∈ ps, Bl.Byt p) :
    Calls Tryd.prog 6 #[v] w fun e w' => e = .returned (.bool true) ∧ Bl.Ext w w' := by
  have hR2 := hR
  obtain ⟨ws, hv, hwl, hws⟩ := hR2
  obtain ⟨p, c, hvf, hvn, hvc⟩ := hv.form
  subst hvf
  unfold maxLen at hvc
  have HR := Bl.hid hR
  have Hg := Bl.hid hg
  have Hby := Bl.hid hby
  have Hv := Bl.hid hv
  have Hwl := Bl.hid hwl
  have Hws := Bl.hid hws
  clear hR hg hby hv hwl hws
  go_enter Tryd.func6, Tryd.ntmps6
  go_wp2_with fail
  refine (alive12 w).mono ?_
  rintro e w1 ⟨rfl, hE1⟩
  have HE1 := Bl.hid hE1
  clear hE1
  go_wp2_with fail
  refine (long_any _ ps w1 60 (Bl.Rdss.ext HR.out HE1.out)).mono ?_
  rintro e w2 ⟨hw2, he⟩
  replace hw2 := hw2.symm
  subst hw2
  rcases he with rfl | ⟨rfl, hl, hlp0⟩
  · go_wp2_with fail
    go_ret
    exact ⟨rfl, HE1.out⟩
  have hn60 : ps.length ≤ 60 := by omega
  have Hlp2 := Bl.hid hlp0
  have Hlp : Hid (∀ p ∈ ps, p.length ≤ 1099511627000) := Bl.hid fun q hq => by have := Hlp2.out q hq; omega
  clear hl hlp0
  have HI0 := Bl.hid (Bl.Ins.start 24 w1 w.heap.size HE1.out.size)
  have HE0 : Hid (Bl.Ext w (w1.alloc (.cells #[] 24))) := Bl.hid (HE1.out.trans (Bl.ext_alloc _ _))
  go_wp2_with fail
  go_loopw [3, 18] (fun inn i wr => ∃ (k : Nat) (p4 : Option Addr) (c4 : Nat) (vs : List Value), k ≤ ps.length ∧ i = .int .i64 k ∧ inn = .slice p4 k c4 ∧ Bl.Ins 24 wr w.heap.size (.slice p4 k c4) (ps.take k) vs ∧ Bl.Ext w wr) (fun _ i _ => ps.length - (intOf i).toNat)
  case atStart => exact ⟨0, _, 0, [], Nat.zero_le _, rfl, rfl, HI0.out, HE0.out⟩
  case round =>
    obtain ⟨k, p4, c4, vs, hk, rfl, rfl, hI, hE⟩ := hrel
    have HI := Bl.hid hI
    have HE := Bl.hid hE
    clear hI hE HI0 HE0
    by_cases hlt : k < ps.length
    · obtain ⟨b, o, hpe, hbl, hcell0⟩ := Bl.Rdss.cell' (Hv.out.ext HE.out) Hwl.out k hlt
      subst hpe
      have hRk0 := Hws.out k hlt
      obtain ⟨bs, hbs⟩ : ∃ bs, bs = ps.getD k [] := ⟨_, rfl⟩
      rw [← hbs] at hRk0
      obtain ⟨pk, ck, hfk, hnk, hck⟩ := hRk0.form
      have hcell : wr.cell? ⟨b, o + k, none⟩ = some (.slice pk bs.length ck) := by rw [hcell0, hfk]
      have hRk : Bl.Rd wr .u8 (.slice pk bs.length ck) bs := by rw [← hfk]; exact hRk0.ext HE.out
      have HRk := Bl.hid hRk
      have hmem : bs ∈ ps := by rw [hbs, List.getD_eq_getElem?_getD, List.getElem?_eq_getElem hlt]; exact List.getElem_mem hlt
      have hbl2 := Hlp2.out bs hmem
      have htk : Hid (ps.take (k + 1) = ps.take k ++ [bs]) := by
        show _ = _
        rw [hbs, List.getD_eq_getElem?_getD, List.getElem?_eq_getElem hlt, List.take_succ_eq_append_getElem hlt]; rfl
      clear hRk0 hfk hcell0 hRk hbs hmem
      go_wp2_with fail
      refine (ebytes_any _ bs wr HRk.out (by omega)).mono ?_
      rintro e w3 ⟨g, d, rfl, hown3, hE3⟩
      have hlk : (ps.take k).length = k := by rw [List.length_take]; omega
      have hrows : (w3.alloc (.cells #[.slice (some ⟨g, 0, none⟩) bs.length d] 24)).ownsRow w.heap.size 24 1 (.slice p4 k c4) k vs := by
        have h := Bl.owns_ext (Bl.owns_ext HI.out.rows hE3) (Bl.ext_alloc w3 (.cells #[.slice (some ⟨g, 0, none⟩) bs.length d] 24))
        rw [hlk] at h; exact h
      have Hlk := Bl.hid hlk
      have Hrows := Bl.hid hrows
      have Hnew := Bl.hid (Bl.rds_val w3 24 (.slice (some ⟨g, 0, none⟩) bs.length d))
      have HE4 : Hid (Bl.Ext w (w3.alloc (.cells #[.slice (some ⟨g, 0, none⟩) bs.length d] 24))) := Bl.hid ((HE.out.trans hE3).trans (Bl.ext_alloc _ _))
      have Hown3 := Bl.hid hown3
      have HE3 := Bl.hid hE3
      clear hlk hrows hown3 hE3
      go_wp2_with (with_reducible refine Bl.stop_append ?_)
      refine Bl.go_on ?_
      refine Bl.wpL_app tRows Hrows.out Hnew.out rfl rfl rfl (Bl.one_slice _ _ _) (by unfold maxLen; omega) (by omega) HE4.out.size ?_
      intro q4 d4 w5 hown5 hg5 hB5 hK5 hn5 hc5
      have HI5 := Bl.hid (Bl.Ins.step HI.out Hown3.out HE3.out (by rw [Hlk.out]; exact hown5) hg5 hK5)
      have HE5 : Hid (Bl.Ext w w5) := Bl.hid (Below.trans HE4.out hB5)
      clear hown5 hg5 hB5 hK5 Hrows Hnew HE4 Hown3 HE3
      go_wp2_with fail
      go_roundw
      case rel =>
        refine ⟨k + 1, q4, d4, vs ++ [.slice (some ⟨g, 0, none⟩) bs.length d], by omega, by go_num, rfl, ?_, HE5.out⟩
        have h := HI5.out
        rw [← htk.out] at h
        exact h
      case measure => simp [intOf]; omega
    · obtain rfl : k = ps.length := by omega
      have hI := HI.out
      rw [List.take_length] at hI
      have HI1 := Bl.hid hI
      clear hI HI
      go_wp2_with fail
      refine (leaves_any _ ps wr HI1.out.rdss (Hg.out.ext HE.out) Hby.out Hlp.out (by omega)).mono ?_
      rintro e w3 ⟨pl, cl, rfl, hownl, hE3⟩
      have HE3 := Bl.hid (HE.out.trans hE3)
      have HI3 := Bl.hid (HI1.out.ext hE3)
      have Hownl := Bl.hid hownl
      clear hownl hE3 HE HI1
      go_wp2_with fail
      refine (refleaves_any _ ps w3 (Bl.Rdss.ext HR.out HE3.out) (Hg.out.ext HE3.out) Hby.out Hlp.out (by omega)).mono ?_
      rintro e w4 ⟨pr, cr, rfl, hownr, hE4⟩
      have HE4 := Bl.hid (HE3.out.trans hE4)
      have HI4 := Bl.hid (HI3.out.ext hE4)
      have HL : Hid (Bl.RdD w4 (.slice pl ps.length cl) (ps.map Bl.lfD)) := Bl.hid (by
        show Bl.Rds w4 _ (ps.map Bl.lfD).length _; rw [List.length_map]; exact (Bl.Rds.of_owns Hownl.out).ext hE4)
      have HRr : Hid (Bl.RdD w4 (.slice pr ps.length cr) (ps.map Bl.lfD)) := Bl.hid (by
        show Bl.Rds w4 _ (ps.map Bl.lfD).length _; rw [List.length_map]; exact Bl.Rds.of_owns hownr)
      clear hownr hE4 HE3 HI3 Hownl
      go_wp2_with fail
      go_loopw [39] (fun i wr => ∃ (k : Nat), k ≤ ps.length ∧ i = .int .i64 k ∧ Bl.Ext w4 wr) (fun i _ => ps.length - (intOf i).toNat)
      case atStart => exact ⟨0, Nat.zero_le _, rfl, Below.refl _ _⟩
      case round =>
        obtain ⟨k, hk, rfl, hE⟩ := hrel
        have HE := Bl.hid hE
        clear hE hlt
        by_cases hlt : k < ps.length
        · obtain ⟨bl, ol, cl', hpl, hpl1, hpl2, hbll, hrgl⟩ := Bl.RdD.pos HL.out (Bl.dig_leaves ps) (by rw [List.length_map]; omega)
          obtain ⟨br, or, cr', hpr, hpr1, hpr2, hblr, hrgr⟩ := Bl.RdD.pos HRr.out (Bl.dig_leaves ps) (by rw [List.length_map]; omega)
          injection hpl with hpl hpl3 hpl4
          injection hpr with hpr hpr3 hpr4
          clear hpl3 hpl4 hpr3 hpr4
          subst hpl hpr
          obtain ⟨bi, oi, hpi, hbi, hci⟩ := Bl.Rdss.cell' (Bl.Rds.of_owns HI4.out.rows) HI4.out.len k hlt
          subst hpi
          obtain ⟨g, cg, e1, e2, e3, e4, _⟩ := HI4.out.elts k hlt
          obtain ⟨b, o, hpe, hbl, hcell0⟩ := Bl.Rdss.cell' (Hv.out.ext HE4.out) Hwl.out k hlt
          subst hpe
          have hRk0 := Hws.out k hlt
          have hdk : (ps.map Bl.lfD).getD k [] = Bl.lfD (ps.getD k []) := by
            rw [List.getD_eq_getElem?_getD, List.getD_eq_getElem?_getD, List.getElem?_map, List.getElem?_eq_getElem hlt]; rfl
          have hr1 := Bl.digit_at hrgl (Bl.dig_leaves ps) (i := k) (by rw [List.length_map]; omega)
          have hr2 := Bl.digit_at hrgr (Bl.dig_leaves ps) (i := k) (by rw [List.length_map]; omega)
          rw [hdk] at hr1 hr2
          have hbyk : Bl.Byt (ps.getD k []) := by
            rw [List.getD_eq_getElem?_getD, List.getElem?_eq_getElem hlt]; exact Hby.out _ (List.getElem_mem hlt)
          have hlk : (ps.getD k []).length ≤ 200 := by
            rw [List.getD_eq_getElem?_getD, List.getElem?_eq_getElem hlt]; exact Hlp2.out _ (List.getElem_mem hlt)
          obtain ⟨bs, hbs⟩ : ∃ bs, bs = ps.getD k [] := ⟨_, rfl⟩
          rw [← hbs] at hRk0 e1 e2 e4 hr1 hr2 hbyk hlk
          obtain ⟨pk, ck, hfk, hnk, hck⟩ := hRk0.form
          rw [hfk] at hRk0 hcell0
          rw [e1] at hci
          have hll : (Bl.lfD bs).length = 32 := Bl.lfD_length bs
          obtain ⟨dg, hdg⟩ : ∃ dg, dg = Bl.lfD bs := ⟨_, rfl⟩
          rw [← hdg] at hll hr1 hr2
          have HLld : Hid (∀ w2, Bl.Ext w4 w2 → (Instr.loadAt 28 (.pointer (some ⟨bl, ol + k * 32, none⟩))).run Tryd.prog w2 = .ok (.agg (Bl.ints .u8 dg).toArray) w2) := Bl.hid fun w2 h2 => Bl.load_ints (Bl.rangeAt_ext hr1 h2) Tryd.underlying28 (by kernel_rfl) hll
          have HLrd : Hid (∀ w2, Bl.Ext w4 w2 → (Instr.loadAt 26 (.pointer (some ⟨br, or + k * 32, none⟩))).run Tryd.prog w2 = .ok (.agg (Bl.ints .u8 dg).toArray) w2) := Bl.hid fun w2 h2 => Bl.load_ints (Bl.rangeAt_ext hr2 h2) Tryd.underlying26 (by kernel_rfl) hll
          have HRk : Hid (∀ w2, Bl.Ext w4 w2 → Bl.Rd w2 .u8 (.slice pk bs.length ck) bs) := Bl.hid fun w2 h2 => hRk0.ext (HE4.out.trans h2)
          have HRg : Hid (∀ w2, Bl.Ext w4 w2 → w2.rangeAt g 0 (Bl.ints .u8 (bs ++ Bl.marks))) := Bl.hid fun w2 h2 => Bl.rangeAt_ext e4 h2
          have HCi : Hid (∀ w2, Bl.Ext w4 w2 → w2.cell? ⟨bi, oi + k, none⟩ = some (.slice (some ⟨g, 0, none⟩) bs.length cg)) := Bl.hid fun w2 h2 => ((Bl.bcell h2).1 _ _ hbi).trans hci
          have HCl : Hid (∀ w2, Bl.Ext w4 w2 → w2.cell? ⟨b, o + k, none⟩ = some (.slice pk bs.length ck)) := Bl.hid fun w2 h2 => ((Bl.bcell h2).1 _ _ hbl).trans hcell0
          have HLf : Hid (∀ w2, Bl.Ext w4 w2 → Calls Tryd.prog 49 #[.slice pk bs.length ck] w2 fun e w' => e = .returned (.agg (Bl.ints .u8 dg).toArray) ∧ Bl.Ext w2 w') := Bl.hid fun w2 h2 => by
            rw [hdg]; exact leaf_any _ bs w2 (HRk.out w2 h2) (Hg.out.ext (HE4.out.trans h2)) hbyk (by omega)
          have HKp : Hid (∀ w2, Bl.Ext w4 w2 → Calls Tryd.prog 32 #[.slice (some ⟨g, 0, none⟩) bs.length cg, .slice pk bs.length ck] w2 fun e w' => e = .returned (.bool true) ∧ Bl.Ext w2 w') := Bl.hid fun w2 h2 =>
            ekept_any g cg _ bs w2 e2 e3 (HRg.out w2 h2) (HRk.out w2 h2) (by omega)
          have heq : ∀ w, (Op.equalIn 10000 26 (.agg (Bl.ints .u8 dg).toArray) (.agg (Bl.ints .u8 dg).toArray)).run Tryd.prog w = .ok true w := fun w => Bl.eq10k_same Tryd.underlying26 Tryd.underlying5 (fun w => by simp [go_sem]) dg hll w
          have Hll := Bl.hid hll
          clear hr1 hr2 hrgl hrgr hpl1 hpl2 hpr1 hpr2 hbll hblr hci hcell0 hRk0 hfk hbs hbyk hdk e1 e2 e3 e4 hdg hll hbi hbl
          have hk0 : (0 : Int) ≤ (k : Int) := by omega
          have hkl : (k : Int) < (ps.length : Int) := by omega
          go_wp2_with (with_reducible refine Bl.stop_load (ty := 28) ?_)
          refine Bl.go_on ?_
          refine Bl.wpL_load rfl (HLld.out _ HE.out) ?_
          have HF5 := Bl.hid (fam_new wr 32 .u8 28 #[.int .u8 0, .int .u8 0, .int .u8 0, .int .u8 0, .int .u8 0, .int .u8 0, .int .u8 0, .int .u8 0, .int .u8 0, .int .u8 0, .int .u8 0, .int .u8 0, .int .u8 0, .int .u8 0, .int .u8 0, .int .u8 0, .int .u8 0, .int .u8 0, .int .u8 0, .int .u8 0, .int .u8 0, .int .u8 0, .int .u8 0, .int .u8 0, .int .u8 0, .int .u8 0, .int .u8 0, .int .u8 0, .int .u8 0, .int .u8 0, .int .u8 0, .int .u8 0] rfl)
          have Hst := Bl.hid (Bl.store_ints (P := Tryd.prog) (ty := 28) (k := .u8) (l := dg) (n := 32) HF5.out.there (by kernel_rfl) Hll.out)
          have HE6 : Hid (Bl.Ext wr ((wr.alloc (.cells #[.int .u8 0, .int .u8 0, .int .u8 0, .int .u8 0, .int .u8 0, .int .u8 0, .int .u8 0, .int .u8 0, .int .u8 0, .int .u8 0, .int .u8 0, .int .u8 0, .int .u8 0, .int .u8 0, .int .u8 0, .int .u8 0, .int .u8 0, .int .u8 0, .int .u8 0, .int .u8 0, .int .u8 0, .int .u8 0, .int .u8 0, .int .u8 0, .int .u8 0, .int .u8 0, .int .u8 0, .int .u8 0, .int .u8 0, .int .u8 0, .int .u8 0, .int .u8 0] 28)).setCells wr.heap.size 0 (Bl.ints .u8 dg))) := Bl.hid (Bl.below_setCells _ _ _ _ (Bl.ext_alloc _ _) (Nat.le_refl _))
          have Hr7 : Hid (((wr.alloc (.cells #[.int .u8 0, .int .u8 0, .int .u8 0, .int .u8 0, .int .u8 0, .int .u8 0, .int .u8 0, .int .u8 0, .int .u8 0, .int .u8 0, .int .u8 0, .int .u8 0, .int .u8 0, .int .u8 0, .int .u8 0, .int .u8 0, .int .u8 0, .int .u8 0, .int .u8 0, .int .u8 0, .int .u8 0, .int .u8 0, .int .u8 0, .int .u8 0, .int .u8 0, .int .u8 0, .int .u8 0, .int .u8 0, .int .u8 0, .int .u8 0, .int .u8 0, .int .u8 0] 28)).setCells wr.heap.size 0 (Bl.ints .u8 dg)).rangeAt wr.heap.size 0 (Bl.ints .u8 dg)) := Bl.hid (World.rangeAt_setCells_same _ _ _ _ (by rw [Bl.ints_length, Hll.out]; exact HF5.out.there))
          go_wp2_with (with_reducible refine Bl.stop_store (ty := 28) ?_)
          refine Bl.go_on ?_
          refine Bl.wpL_store0 rfl rfl Hst.out ?_
          generalize hWS : (wr.alloc (.cells #[.int .u8 0, .int .u8 0, .int .u8 0, .int .u8 0, .int .u8 0, .int .u8 0, .int .u8 0, .int .u8 0, .int .u8 0, .int .u8 0, .int .u8 0, .int .u8 0, .int .u8 0, .int .u8 0, .int .u8 0, .int .u8 0, .int .u8 0, .int .u8 0, .int .u8 0, .int .u8 0, .int .u8 0, .int .u8 0, .int .u8 0, .int .u8 0, .int .u8 0, .int .u8 0, .int .u8 0, .int .u8 0, .int .u8 0, .int .u8 0, .int .u8 0, .int .u8 0] 28)).setCells wr.heap.size 0 (Bl.ints .u8 dg) = W6 at *
          clear hWS Hst HF5
          have HE46 := Bl.hid (HE.out.trans HE6.out)
          generalize wr.heap.size = s7 at *
          have HLd : Hid (∀ w2, Bl.Ext W6 w2 → (Instr.loadAt 28 (.pointer (some ⟨s7, 0, none⟩))).run Tryd.prog w2 = .ok (.agg (Bl.ints .u8 dg).toArray) w2) := Bl.hid fun w2 h2 => Bl.load_ints (Bl.rangeAt_ext Hr7.out h2) Tryd.underlying28 (by kernel_rfl) Hll.out
          clear Hr7
          go_wp2_with fail
          apply Bl.wp_region_ev 29 [44, 45, 46, 47, 48, 49, 50, 51, 52, 53, 54, 55, 56, 57, 58, 59, 60, 61, 62, 63, 64, 65, 66, 67, 68, 69, 70, 71, 72] [Bl.eqv _, Bl.eqv _, Bl.eqv _, Bl.eqv _, Bl.eqv _, Bl.eqv _, Bl.eqv _, Bl.eqv _, Bl.eqv _, Bl.eqv _, Bl.eqv _, Bl.eqv _, Bl.eqv _, Bl.eqv _, Bl.eqv _, Bl.eqv _, Bl.eqv _, Bl.eqv _, Bl.eqv _, Bl.eqv _, Bl.eqv _, Bl.eqv _, Bl.eqv _, Bl.eqv _, Bl.eqv _, Bl.eqv _, Bl.eqv _, Bl.eqv _, Bl.eqv _] (by kernel_rfl) (by kernel_rfl) (by kernel_rfl) (by kernel_rfl)
          case hsteps =>
            refine ⟨?_, ?_, ?_, ?_, ?_, ?_, ?_, ?_, ?_, ?_, ?_, ?_, ?_, ?_, ?_, ?_, ?_, ?_, ?_, ?_, ?_, ?_, ?_, ?_, ?_, ?_, ?_, ?_, ?_, trivial⟩
            all_goals
              intro ev w1 hext hb hd
              have e0 := hb 0 (by decide)
              have e3 := hb 3 (by decide)
              have e7 := hb 7 (by decide)
              have e8 := hb 8 (by decide)
              have e9 := hb 9 (by decide)
              clear hb
              simp only [Array.getD_eq_getD_getElem?, List.getElem?_toArray, List.getElem?_cons_succ, List.getElem?_cons_zero, Option.getD_some] at e0 e3 e7 e8 e9
              simp only [Bl.DepsE, List.getElem?_cons_succ, List.getElem?_cons_zero, Option.bind_some, List.getD_cons_succ, List.getD_cons_zero, Bl.eqv, and_true] at hd
              have hc := (Bl.bcell hext).1
              have hE1 := HE46.out.trans hext
              have hci := HCi.out _ hE1
              have hcl := HCl.out _ hE1
              simp only [Bl.Good, Region.wanted, Bl.yieldE, List.getElem?_cons_succ, List.getElem?_cons_zero, Option.bind_some, hd, beq_self_eq_true, if_true]
              first
              | ((with_reducible refine Bl.goodR_load ?_ (HLd.out _ hext) ?_); exact e9; exact rfl) | ((with_reducible refine Bl.goodR_load ?_ (HLrd.out _ hE1) ?_); (first | exact hd | exact hd.1 | exact hd.2); exact rfl)
              | (go_simp; first | (go_at_call 32; (with_reducible refine (HKp.out _ hE1).mono ?_); rintro e w2 ⟨rfl, hE2⟩; exact ⟨_, rfl, hE2, rfl⟩) | (go_at_call 49; (with_reducible refine (HLf.out _ hE1).mono ?_); rintro e w2 ⟨rfl, hE2⟩; exact ⟨_, rfl, hE2, rfl⟩) | exact rfl | exact ⟨Below.refl _ _, rfl⟩)
          case hmono => exact ⟨Bl.mono_eqv _, Bl.mono_eqv _, Bl.mono_eqv _, Bl.mono_eqv _, Bl.mono_eqv _, Bl.mono_eqv _, Bl.mono_eqv _, Bl.mono_eqv _, Bl.mono_eqv _, Bl.mono_eqv _, Bl.mono_eqv _, Bl.mono_eqv _, Bl.mono_eqv _, Bl.mono_eqv _, Bl.mono_eqv _, Bl.mono_eqv _, Bl.mono_eqv _, Bl.mono_eqv _, Bl.mono_eqv _, Bl.mono_eqv _, Bl.mono_eqv _, Bl.mono_eqv _, Bl.mono_eqv _, Bl.mono_eqv _, Bl.mono_eqv _, Bl.mono_eqv _, Bl.mono_eqv _, Bl.mono_eqv _, Bl.mono_eqv _, trivial⟩
          case hend =>
            intro u w1 hext hend
            simp only [Bl.EndE, List.getElem?_cons_succ, List.getElem?_cons_zero, Option.bind_some, List.getD_cons_succ, List.getD_cons_zero, Bl.eqv, true_and] at hend
            simp only [Bl.fillAct, List.setIfInBounds_toArray, List.set_cons_succ, List.set_cons_zero, List.drop_succ_cons, List.drop_zero, hend]
            have HE7 := Bl.hid (HE46.out.trans hext)
            clear hext hend
            go_wp2_with fail
            go_roundw
            case rel => exact ⟨k + 1, by omega, by go_num, HE7.out⟩
            case measure => simp [intOf]; omega
        · obtain rfl : k = ps.length := by omega
          have HEr := Bl.hid (HE4.out.trans HE.out)
          go_wp2_with fail
          refine (refroot_any _ ps wr (Bl.Rdss.ext HR.out HEr.out) (Hg.out.ext HEr.out) Hby.out Hlp.out (by omega)).mono ?_
          rintro e w5 ⟨rfl, hE5⟩
          obtain ⟨sh, hsh⟩ : ∃ sh, sh = Bl.rootD ps := ⟨_, rfl⟩
          have hshl : sh.length = 32 := by rw [hsh]; exact Bl.rootD_length ps (by omega)
          rw [← hsh]
          have HF5 := Bl.hid (fam_new w5 32 .u8 26 #[.int .u8 0, .int .u8 0, .int .u8 0, .int .u8 0, .int .u8 0, .int .u8 0, .int .u8 0, .int .u8 0, .int .u8 0, .int .u8 0, .int .u8 0, .int .u8 0, .int .u8 0, .int .u8 0, .int .u8 0, .int .u8 0, .int .u8 0, .int .u8 0, .int .u8 0, .int .u8 0, .int .u8 0, .int .u8 0, .int .u8 0, .int .u8 0, .int .u8 0, .int .u8 0, .int .u8 0, .int .u8 0, .int .u8 0, .int .u8 0, .int .u8 0, .int .u8 0] rfl)
          have Hst := Bl.hid (Bl.store_ints (P := Tryd.prog) (ty := 26) (k := .u8) (l := sh) (n := 32) HF5.out.there (by kernel_rfl) hshl)
          have HE6 : Hid (Bl.Ext w5 ((w5.alloc (.cells #[.int .u8 0, .int .u8 0, .int .u8 0, .int .u8 0, .int .u8 0, .int .u8 0, .int .u8 0, .int .u8 0, .int .u8 0, .int .u8 0, .int .u8 0, .int .u8 0, .int .u8 0, .int .u8 0, .int .u8 0, .int .u8 0, .int .u8 0, .int .u8 0, .int .u8 0, .int .u8 0, .int .u8 0, .int .u8 0, .int .u8 0, .int .u8 0, .int .u8 0, .int .u8 0, .int .u8 0, .int .u8 0, .int .u8 0, .int .u8 0, .int .u8 0, .int .u8 0] 26)).setCells w5.heap.size 0 (Bl.ints .u8 sh))) := Bl.hid (Bl.below_setCells _ _ _ _ (Bl.ext_alloc _ _) (Nat.le_refl _))
          have Hr7 : Hid (((w5.alloc (.cells #[.int .u8 0, .int .u8 0, .int .u8 0, .int .u8 0, .int .u8 0, .int .u8 0, .int .u8 0, .int .u8 0, .int .u8 0, .int .u8 0, .int .u8 0, .int .u8 0, .int .u8 0, .int .u8 0, .int .u8 0, .int .u8 0, .int .u8 0, .int .u8 0, .int .u8 0, .int .u8 0, .int .u8 0, .int .u8 0, .int .u8 0, .int .u8 0, .int .u8 0, .int .u8 0, .int .u8 0, .int .u8 0, .int .u8 0, .int .u8 0, .int .u8 0, .int .u8 0] 26)).setCells w5.heap.size 0 (Bl.ints .u8 sh)).rangeAt w5.heap.size 0 (Bl.ints .u8 sh)) := Bl.hid (World.rangeAt_setCells_same _ _ _ _ (by rw [Bl.ints_length, hshl]; exact HF5.out.there))
          have HE5 := Bl.hid hE5
          have Hsh := Bl.hid hsh
          have Hshl := Bl.hid hshl
          clear hE5 hsh hshl
          go_wp2_with (with_reducible refine Bl.stop_store (ty := 26) ?_)
          refine Bl.go_on ?_
          refine Bl.wpL_store0 rfl rfl Hst.out ?_
          generalize hWS : (w5.alloc (.cells #[.int .u8 0, .int .u8 0, .int .u8 0, .int .u8 0, .int .u8 0, .int .u8 0, .int .u8 0, .int .u8 0, .int .u8 0, .int .u8 0, .int .u8 0, .int .u8 0, .int .u8 0, .int .u8 0, .int .u8 0, .int .u8 0, .int .u8 0, .int .u8 0, .int .u8 0, .int .u8 0, .int .u8 0, .int .u8 0, .int .u8 0, .int .u8 0, .int .u8 0, .int .u8 0, .int .u8 0, .int .u8 0, .int .u8 0, .int .u8 0, .int .u8 0, .int .u8 0] 26)).setCells w5.heap.size 0 (Bl.ints .u8 sh) = W6 at *
          clear hWS Hst HF5
          have HE46 := Bl.hid ((HE.out.trans HE5.out).trans HE6.out)
          generalize w5.heap.size = s7 at *
          have HLd : Hid (∀ w2, Bl.Ext W6 w2 → (Instr.loadAt 26 (.pointer (some ⟨s7, 0, none⟩))).run Tryd.prog w2 = .ok (.agg (Bl.ints .u8 sh).toArray) w2) := Bl.hid fun w2 h2 => Bl.load_ints (Bl.rangeAt_ext Hr7.out h2) Tryd.underlying26 (by kernel_rfl) Hshl.out
          have HRt : Hid (∀ w2, Bl.Ext W6 w2 → Calls Tryd.prog 51 #[.slice p4 ps.length c4] w2 fun e w' => e = .returned (.agg (Bl.ints .u8 sh).toArray) ∧ Bl.Ext w2 w') := Bl.hid fun w2 h2 => by
            rw [Hsh.out]; exact root_any _ ps w2 (HI4.out.ext (HE46.out.trans h2)).rdss (Hg.out.ext (HE4.out.trans (HE46.out.trans h2))) Hby.out Hlp.out (by omega)
          have HOv : Hid (∀ w2, Bl.Ext W6 w2 → Calls Tryd.prog 52 #[.slice pl ps.length cl] w2 fun e w' => e = .returned (.agg (Bl.ints .u8 sh).toArray) ∧ Bl.Ext w2 w') := Bl.hid fun w2 h2 => by
            rw [Hsh.out]; exact over_any _ (ps.map Bl.lfD) w2 (by rw [List.length_map]; omega) (Bl.dig_leaves ps) (Bl.Rds.ext HL.out (HE46.out.trans h2)) (Hg.out.ext (HE4.out.trans (HE46.out.trans h2)))
          have heq : ∀ w, (Op.equalIn 10000 26 (.agg (Bl.ints .u8 sh).toArray) (.agg (Bl.ints .u8 sh).toArray)).run Tryd.prog w = .ok true w := fun w => Bl.eq10k_same Tryd.underlying26 Tryd.underlying5 (fun w => by simp [go_sem]) sh Hshl.out w
          clear Hr7
          go_wp2_with fail
          apply Bl.wp_region_ev 10 [77, 78, 79, 80, 81, 82, 83, 84, 85, 86] [Bl.eqv _, Bl.eqv _, Bl.eqv _, Bl.eqv _, Bl.eqv _, Bl.eqv _, Bl.eqv _, Bl.eqv _, Bl.eqv _, Bl.eqv _] (by kernel_rfl) (by kernel_rfl) (by kernel_rfl) (by kernel_rfl)
          case hsteps =>
            refine ⟨?_, ?_, ?_, ?_, ?_, ?_, ?_, ?_, ?_, ?_, trivial⟩
            all_goals
              intro ev w1 hext hb hd
              have e3 := hb 3 (by decide)
              have e6 := hb 6 (by decide)
              have e10 := hb 10 (by decide)
              clear hb
              simp only [Array.getD_eq_getD_getElem?, List.getElem?_toArray, List.getElem?_cons_succ, List.getElem?_cons_zero, Option.getD_some] at e3 e6 e10
              simp only [Bl.DepsE, List.getElem?_cons_succ, List.getElem?_cons_zero, Option.bind_some, List.getD_cons_succ, List.getD_cons_zero, Bl.eqv, and_true] at hd
              have hc := (Bl.bcell hext).1
              simp only [Bl.Good, Region.wanted, Bl.yieldE, List.getElem?_cons_succ, List.getElem?_cons_zero, Option.bind_some, hd, beq_self_eq_true, if_true]
              first
              | ((with_reducible refine Bl.goodR_load ?_ (HLd.out _ hext) ?_); exact e10; exact rfl)
              | (go_simp; first | (go_at_call 51; (with_reducible refine (HRt.out _ hext).mono ?_); rintro e w2 ⟨rfl, hE2⟩; exact ⟨_, rfl, hE2, rfl⟩) | (go_at_call 52; (with_reducible refine (HOv.out _ hext).mono ?_); rintro e w2 ⟨rfl, hE2⟩; exact ⟨_, rfl, hE2, rfl⟩) | exact rfl | exact ⟨Below.refl _ _, rfl⟩)
          case hmono => exact ⟨Bl.mono_eqv _, Bl.mono_eqv _, Bl.mono_eqv _, Bl.mono_eqv _, Bl.mono_eqv _, Bl.mono_eqv _, Bl.mono_eqv _, Bl.mono_eqv _, Bl.mono_eqv _, Bl.mono_eqv _, trivial⟩
          case hend =>
            intro u w1 hext hend
            simp only [Bl.EndE, List.getElem?_cons_succ, List.getElem?_cons_zero, Option.bind_some, List.getD_cons_succ, List.getD_cons_zero, Bl.eqv, true_and] at hend
            simp only [Bl.fillAct, List.setIfInBounds_toArray, List.set_cons_succ, List.set_cons_zero, List.drop_succ_cons, List.drop_zero, hend]
            have HEf := Bl.hid ((HE4.out.trans HE46.out).trans hext)
            clear hext hend
            go_wp2_with fail
            go_ret
            exact ⟨rfl, HEf.out⟩
end Go.Proofs.YtdodgcapihfkkaaDoor

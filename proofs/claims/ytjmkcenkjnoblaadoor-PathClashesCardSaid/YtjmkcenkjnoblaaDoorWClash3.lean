/- Walk of path.Clash where there is such a leaf, and no clash. -/
import Derived.Test.YtjmkcenkjnoblaaDoorWClash
namespace Go.Proofs.YtjmkcenkjnoblaaDoor
open Go Go.RowKit Go.Proofs

attribute [local go_sem] Oper.semAt_some

set_option maxRecDepth 100000 in
set_option maxHeartbeats 1000000 in
/-- path.Clash of the leaf itself -/
theorem pclash_same (v vl vp : Value) (ps : List (List Int)) (n i : Nat) (l : List Int) (p : List (List Int)) (w : World) (S : List Nat) (a : Nat → Addr) (hR : Bl.Rdss w v ps) (hg : Glob w) (hby : ∀ q ∈ ps, Bl.Byt q) (hlp : ∀ q ∈ ps, q.length ≤ 1099511626000) (hpn : ps.length = n) (hn : n ≤ 512) (hi : i < n)
    (he : Errs S a w) (h1 : 1 ∈ S) (h8 : 8 ∈ S) (h15 : 15 ∈ S) (hl : Bl.Rd w .u8 vl l) (hbl : Bl.Byt l) (hll : l.length ≤ 1099511626000) (hp : Bl.RdD w vp p) (hdp : Bl.Dig p)
    (hq : ps.getD i [] = l) :
    Calls Tryd.prog 14 #[v, .int .i64 i, vl, vp] w fun e w' => e = .returned (.tuple #[.slice none 0 0, .slice none 0 0, .bool false]) ∧ Bl.Ext w w' := by
  have hlp' : ∀ q ∈ ps, q.length ≤ 1099511627000 := fun q hq => by have := hlp q hq; omega
  have hmem : ps.getD i [] ∈ ps := by rw [List.getD_eq_getElem?_getD, List.getElem?_eq_getElem (by omega)]; exact List.getElem_mem (by omega)
  have HM : Hid (∀ w2, Bl.Ext w w2 → Calls Tryd.prog 19 #[v, .int .i64 i] w2 fun e w' => ∃ v', e = .returned (.tuple #[v', .nilIface]) ∧ Bl.RdD w' v' (Bl.pathD ps i) ∧ Bl.Ext w2 w') := Bl.hid fun w2 h2 =>
    pmake_any v ps i w2 (hR.ext h2) (hg.ext h2) hby hlp' (by omega) (by omega)
  have HRt : Hid (∀ w2, Bl.Ext w w2 → Calls Tryd.prog 18 #[v] w2 fun e w' => e = .returned (.agg (Bl.ints .u8 (Bl.rootD ps)).toArray) ∧ Bl.Ext w2 w') := Bl.hid fun w2 h2 =>
    root_any v ps w2 (hR.ext h2) (hg.ext h2) hby hlp' (by omega)
  have HCk : Hid (∀ w2, Bl.Ext w w2 → Calls Tryd.prog 15 #[.agg (Bl.ints .u8 (Bl.rootD ps)).toArray, .int .i64 n, .int .i64 i, vl, vp] w2 fun e w' => e = .returned (errN a (Bl.chkP (Bl.rootD ps) n i l p)) ∧ Bl.Ext w2 w') := Bl.hid fun w2 h2 =>
    pcheck_any (Bl.rootD ps) n i vl vp l p w2 S a (he.ext h2) h1 h8 h15 (Bl.rootD_length ps (by omega)) (hl.ext h2) hbl hll (Bl.Rds.ext hp h2) hdp (hg.ext h2)
  obtain ⟨b, o, c, vs, hvf, hnc, hbl0, hvl, hrg, hel⟩ := hR.rows (by omega)
  subst hvf
  obtain ⟨qi, di, hqi, hri⟩ := hel i (by omega)
  have hci0 : w.cell? ⟨b, o + i, none⟩ = some (.slice qi (ps.getD i []).length di) := by
    rw [← hqi]
    refine hrg i _ ?_
    rw [List.getD_eq_getElem?_getD, List.getElem?_eq_getElem (by omega)]; rfl
  have HEq : Hid (∀ w2, Bl.Ext w w2 → Calls Tryd.prog 32 #[.slice qi (ps.getD i []).length di, vl] w2 fun e w' => e = .returned (.bool true) ∧ w2 = w') := Bl.hid fun w2 h2 => by
    have h := equalB_any (.slice qi (ps.getD i []).length di) vl (ps.getD i []) l w2 (hri.ext h2) (hl.ext h2) (hby _ hmem) hbl
    rw [decide_eq_true hq] at h
    exact h
  have Hci : Hid (∀ w2, Bl.Ext w w2 → w2.cell? ⟨b, o + i, none⟩ = some (.slice qi (ps.getD i []).length di)) := Bl.hid fun w2 h2 => ((Bl.bcell h2).1 b (o + i) hbl0).trans hci0
  have HCn := Bl.hid (fun h => errN_pos a (Bl.chkP (Bl.rootD ps) n i l p) h)
  rw [hpn] at hnc ⊢ HM HRt
  have hi0 : (0 : Int) ≤ (i : Int) := by omega
  have hin : (i : Int) < (n : Int) := by omega
  obtain ⟨K, hK⟩ : ∃ K, K = Bl.chkP (Bl.rootD ps) n i l p := ⟨_, rfl⟩
  rw [← hK] at HCk HCn
  obtain ⟨PD, hPD⟩ : ∃ PD, PD = Bl.pathD ps i := ⟨_, rfl⟩
  rw [← hPD] at HM
  obtain ⟨RD, hRD⟩ : ∃ RD, RD = Bl.rootD ps := ⟨_, rfl⟩
  rw [← hRD] at HRt HCk
  obtain ⟨x0, hx0⟩ : ∃ x0, x0 = ps.getD i [] := ⟨_, rfl⟩
  rw [← hx0] at HEq Hci
  have HV := Bl.hid True.intro
  obtain ⟨W0, hW0⟩ : ∃ W0, W0 = ((w.alloc (.cells #[.slice none 0 0] 23)).alloc (.cells #[.slice none 0 0] 23)).alloc (.cells #[.bool false] 4) := ⟨_, rfl⟩
  have HE0 : Hid (Bl.Ext w W0) := Bl.hid (by rw [hW0]; exact ((Bl.ext_alloc _ _).trans (Bl.ext_alloc _ _)).trans (Bl.ext_alloc _ _))
  have HT0 : Hid (ThreeV W0 w.heap.size (.slice none 0 0) (.slice none 0 0) false ∧ W0.frozen? ⟨w.heap.size, 0, none⟩ = false ∧ W0.frozen? ⟨w.heap.size + 1, 0, none⟩ = false ∧ W0.frozen? ⟨w.heap.size + 1 + 1, 0, none⟩ = false ∧ W0.heap.size = w.heap.size + 1 + 1 + 1) := Bl.hid (by
    have h := Bl.three_new w (.slice none 0 0) (.slice none 0 0) (.bool false) 23 23 4
    rw [← hW0] at h
    exact ⟨⟨h.1, h.2.1, h.2.2.1⟩, h.2.2.2⟩)
  clear hR he hlp hlp' hmem hl hbl hp hdp hbl0 hvl hrg hel hqi hri hci0 hx0 hpn hg hby hPD hRD hn hq hK HCn
  refine (callsIn_wide (n := 9)).1 ?_
  refine callsIn_of_wp_marks Tryd.func14 rfl trivial ?_ rfl
  simp only [Tryd.ntmps14, List.size_toArray, List.length_cons, List.length_nil, Nat.reduceAdd, Nat.reduceSub, Array.replicate_succ, Array.replicate_zero, List.push_toArray, List.append_toArray, List.nil_append, List.cons_append]
  refine wpIn_wide.2 ?_
  go_wp2_with fail
  rw [← hW0]
  clear hW0
  refine (HM.out W0 HE0.out).mono ?_
  rintro e w1 ⟨v1, rfl, _, hE1⟩
  have HE1 := Bl.hid hE1
  have hcl := Hci.out w1 (HE0.out.trans HE1.out)
  clear hE1 HM
  go_wp2_with fail
  refine (HEq.out w1 (HE0.out.trans HE1.out)).mono ?_
  rintro e w2 ⟨rfl, hw2⟩
  subst hw2
  clear hcl
  obtain ⟨⟨hc0, hc1, hc2⟩, hf0, hf1, hf2, hsz⟩ := HT0.out
  have hd0 := ((Bl.bcell HE1.out).1 _ 0 (by omega)).trans hc0
  have hd1 := ((Bl.bcell HE1.out).1 _ 0 (by omega)).trans hc1
  have hd2 := ((Bl.bcell HE1.out).1 _ 0 (by omega)).trans hc2
  have hg0 := ((Bl.bcell HE1.out).2 _ 0 (by omega)).trans hf0
  have hg1 := ((Bl.bcell HE1.out).2 _ 0 (by omega)).trans hf1
  have hg2 := ((Bl.bcell HE1.out).2 _ 0 (by omega)).trans hf2
  clear hc0 hc1 hc2 hf0 hf1 hf2 hsz HEq HRt HCk Hci
  go_wp2_with fail
  refine Bl.leaves_kc (B := w.heap.size) _ 0 _ trivial ?_
  intro w' hw' hkc
  exact ⟨_, (ThreeV.kc (ThreeV.set hd0 hd1 hd2) hkc).res rfl rfl rfl rfl, rfl, Below.trans ((((HE0.out.trans HE1.out).setCell (Nat.le_refl _) _).setCell (Nat.le_succ _) _).setCell (by show w.heap.size ≤ w.heap.size + 1 + 1; omega) _) hw'⟩

set_option maxRecDepth 100000 in
set_option maxHeartbeats 1000000 in
/-- path.Clash of a path that holds for no such leaf -/
theorem pclash_bad (v vl vp : Value) (ps : List (List Int)) (n i : Nat) (l : List Int) (p : List (List Int)) (w : World) (S : List Nat) (a : Nat → Addr) (hR : Bl.Rdss w v ps) (hg : Glob w) (hby : ∀ q ∈ ps, Bl.Byt q) (hlp : ∀ q ∈ ps, q.length ≤ 1099511626000) (hpn : ps.length = n) (hn : n ≤ 512) (hi : i < n)
    (he : Errs S a w) (h1 : 1 ∈ S) (h8 : 8 ∈ S) (h15 : 15 ∈ S) (hl : Bl.Rd w .u8 vl l) (hbl : Bl.Byt l) (hll : l.length ≤ 1099511626000) (hp : Bl.RdD w vp p) (hdp : Bl.Dig p)
    (hq : ¬ ps.getD i [] = l) (hc : ¬ Bl.chkP (Bl.rootD ps) n i l p = 0) :
    Calls Tryd.prog 14 #[v, .int .i64 i, vl, vp] w fun e w' => e = .returned (.tuple #[.slice none 0 0, .slice none 0 0, .bool false]) ∧ Bl.Ext w w' := by
  have hlp' : ∀ q ∈ ps, q.length ≤ 1099511627000 := fun q hq => by have := hlp q hq; omega
  have hmem : ps.getD i [] ∈ ps := by rw [List.getD_eq_getElem?_getD, List.getElem?_eq_getElem (by omega)]; exact List.getElem_mem (by omega)
  have HM : Hid (∀ w2, Bl.Ext w w2 → Calls Tryd.prog 19 #[v, .int .i64 i] w2 fun e w' => ∃ v', e = .returned (.tuple #[v', .nilIface]) ∧ Bl.RdD w' v' (Bl.pathD ps i) ∧ Bl.Ext w2 w') := Bl.hid fun w2 h2 =>
    pmake_any v ps i w2 (hR.ext h2) (hg.ext h2) hby hlp' (by omega) (by omega)
  have HRt : Hid (∀ w2, Bl.Ext w w2 → Calls Tryd.prog 18 #[v] w2 fun e w' => e = .returned (.agg (Bl.ints .u8 (Bl.rootD ps)).toArray) ∧ Bl.Ext w2 w') := Bl.hid fun w2 h2 =>
    root_any v ps w2 (hR.ext h2) (hg.ext h2) hby hlp' (by omega)
  have HCk : Hid (∀ w2, Bl.Ext w w2 → Calls Tryd.prog 15 #[.agg (Bl.ints .u8 (Bl.rootD ps)).toArray, .int .i64 n, .int .i64 i, vl, vp] w2 fun e w' => e = .returned (errN a (Bl.chkP (Bl.rootD ps) n i l p)) ∧ Bl.Ext w2 w') := Bl.hid fun w2 h2 =>
    pcheck_any (Bl.rootD ps) n i vl vp l p w2 S a (he.ext h2) h1 h8 h15 (Bl.rootD_length ps (by omega)) (hl.ext h2) hbl hll (Bl.Rds.ext hp h2) hdp (hg.ext h2)
  obtain ⟨b, o, c, vs, hvf, hnc, hbl0, hvl, hrg, hel⟩ := hR.rows (by omega)
  subst hvf
  obtain ⟨qi, di, hqi, hri⟩ := hel i (by omega)
  have hci0 : w.cell? ⟨b, o + i, none⟩ = some (.slice qi (ps.getD i []).length di) := by
    rw [← hqi]
    refine hrg i _ ?_
    rw [List.getD_eq_getElem?_getD, List.getElem?_eq_getElem (by omega)]; rfl
  have HEq : Hid (∀ w2, Bl.Ext w w2 → Calls Tryd.prog 32 #[.slice qi (ps.getD i []).length di, vl] w2 fun e w' => e = .returned (.bool false) ∧ w2 = w') := Bl.hid fun w2 h2 => by
    have h := equalB_any (.slice qi (ps.getD i []).length di) vl (ps.getD i []) l w2 (hri.ext h2) (hl.ext h2) (hby _ hmem) hbl
    rw [decide_eq_false hq] at h
    exact h
  have Hci : Hid (∀ w2, Bl.Ext w w2 → w2.cell? ⟨b, o + i, none⟩ = some (.slice qi (ps.getD i []).length di)) := Bl.hid fun w2 h2 => ((Bl.bcell h2).1 b (o + i) hbl0).trans hci0
  have HCn := Bl.hid (fun h => errN_pos a (Bl.chkP (Bl.rootD ps) n i l p) h)
  rw [hpn] at hnc ⊢ HM HRt
  have hi0 : (0 : Int) ≤ (i : Int) := by omega
  have hin : (i : Int) < (n : Int) := by omega
  obtain ⟨K, hK⟩ : ∃ K, K = Bl.chkP (Bl.rootD ps) n i l p := ⟨_, rfl⟩
  rw [← hK] at HCk HCn hc
  obtain ⟨PD, hPD⟩ : ∃ PD, PD = Bl.pathD ps i := ⟨_, rfl⟩
  rw [← hPD] at HM
  obtain ⟨RD, hRD⟩ : ∃ RD, RD = Bl.rootD ps := ⟨_, rfl⟩
  rw [← hRD] at HRt HCk
  obtain ⟨x0, hx0⟩ : ∃ x0, x0 = ps.getD i [] := ⟨_, rfl⟩
  rw [← hx0] at HEq Hci
  have HV := Bl.hid (HCn.out hc)
  obtain ⟨W0, hW0⟩ : ∃ W0, W0 = ((w.alloc (.cells #[.slice none 0 0] 23)).alloc (.cells #[.slice none 0 0] 23)).alloc (.cells #[.bool false] 4) := ⟨_, rfl⟩
  have HE0 : Hid (Bl.Ext w W0) := Bl.hid (by rw [hW0]; exact ((Bl.ext_alloc _ _).trans (Bl.ext_alloc _ _)).trans (Bl.ext_alloc _ _))
  have HT0 : Hid (ThreeV W0 w.heap.size (.slice none 0 0) (.slice none 0 0) false ∧ W0.frozen? ⟨w.heap.size, 0, none⟩ = false ∧ W0.frozen? ⟨w.heap.size + 1, 0, none⟩ = false ∧ W0.frozen? ⟨w.heap.size + 1 + 1, 0, none⟩ = false ∧ W0.heap.size = w.heap.size + 1 + 1 + 1) := Bl.hid (by
    have h := Bl.three_new w (.slice none 0 0) (.slice none 0 0) (.bool false) 23 23 4
    rw [← hW0] at h
    exact ⟨⟨h.1, h.2.1, h.2.2.1⟩, h.2.2.2⟩)
  clear hR he hlp hlp' hmem hl hbl hp hdp hbl0 hvl hrg hel hqi hri hci0 hx0 hpn hg hby hPD hRD hn hq hK HCn hc
  refine (callsIn_wide (n := 9)).1 ?_
  refine callsIn_of_wp_marks Tryd.func14 rfl trivial ?_ rfl
  simp only [Tryd.ntmps14, List.size_toArray, List.length_cons, List.length_nil, Nat.reduceAdd, Nat.reduceSub, Array.replicate_succ, Array.replicate_zero, List.push_toArray, List.append_toArray, List.nil_append, List.cons_append]
  refine wpIn_wide.2 ?_
  go_wp2_with fail
  rw [← hW0]
  clear hW0
  refine (HM.out W0 HE0.out).mono ?_
  rintro e w1 ⟨v1, rfl, _, hE1⟩
  have HE1 := Bl.hid hE1
  have hcl := Hci.out w1 (HE0.out.trans HE1.out)
  clear hE1 HM
  go_wp2_with fail
  refine (HEq.out w1 (HE0.out.trans HE1.out)).mono ?_
  rintro e w2 ⟨rfl, hw2⟩
  subst hw2
  go_wp2_with fail
  refine (HRt.out w1 (HE0.out.trans HE1.out)).mono ?_
  rintro e w2 ⟨rfl, hE2⟩
  have HE2 := Bl.hid (HE1.out.trans hE2)
  clear hE2 hcl
  go_wp2_with fail
  refine (HCk.out w2 (HE0.out.trans HE2.out)).mono ?_
  rintro e w3 ⟨rfl, hE3⟩
  rw [HV.out]
  replace HE1 := Bl.hid (HE2.out.trans hE3)
  clear hE3 HE2
  obtain ⟨⟨hc0, hc1, hc2⟩, hf0, hf1, hf2, hsz⟩ := HT0.out
  have hd0 := ((Bl.bcell HE1.out).1 _ 0 (by omega)).trans hc0
  have hd1 := ((Bl.bcell HE1.out).1 _ 0 (by omega)).trans hc1
  have hd2 := ((Bl.bcell HE1.out).1 _ 0 (by omega)).trans hc2
  have hg0 := ((Bl.bcell HE1.out).2 _ 0 (by omega)).trans hf0
  have hg1 := ((Bl.bcell HE1.out).2 _ 0 (by omega)).trans hf1
  have hg2 := ((Bl.bcell HE1.out).2 _ 0 (by omega)).trans hf2
  clear hc0 hc1 hc2 hf0 hf1 hf2 hsz HEq HRt HCk Hci
  go_wp2_with fail
  refine Bl.leaves_kc (B := w.heap.size) _ 0 _ trivial ?_
  intro w' hw' hkc
  exact ⟨_, (ThreeV.kc (ThreeV.set hd0 hd1 hd2) hkc).res rfl rfl rfl rfl, rfl, Below.trans ((((HE0.out.trans HE1.out).setCell (Nat.le_refl _) _).setCell (Nat.le_succ _) _).setCell (by show w.heap.size ≤ w.heap.size + 1 + 1; omega) _) hw'⟩
end Go.Proofs.YtjmkcenkjnoblaaDoor

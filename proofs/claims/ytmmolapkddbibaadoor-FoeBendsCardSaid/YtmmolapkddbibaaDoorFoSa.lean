/- Texts that stood apart, in one: FoeS1, FoeS2, FoeS3. -/
import Derived.Test.YtmmolapkddbibaaDoorFo1
import Derived.Test.YtmmolapkddbibaaDoorFo0
/- Walk of Trick.shown. -/
namespace Go.Proofs.YtmmolapkddbibaaDoor
open Go Go.RowKit Go.Proofs

set_option maxRecDepth 100000 in
set_option maxHeartbeats 8000000 in
theorem tshown1 (at' y : Int) (P B N1 N2 N3 N4 N5 : Nat) (l : Bl.LT) (vp vs vb : Value) (L : List Bl.Sv) (M : List Bl.Bv) (w : World) (hB : Bl.BoxC w P (Bl.cL l vp vs vb)) (hA : Bl.ApV w B N1 N2 N3 N4 N5 l vp vs vb L M) (hP : P < B) (hn : L.length ≤ 30) (hs : ∀ x ∈ L, x.2.1.2.length ≤ 100) (h4 : l.kind = 4) (h0 : 0 < L.length) :
    Calls Tryd.prog 30 #[.agg #[.int .i64 1, .int .i64 at', .int .i64 y], .pointer (some ⟨P, 0, none⟩)] w fun e w' => Bl.ShR 1 at' y l vp vb P B w e w' := by
  obtain ⟨o1, o2, o3, o4, o5, o6⟩ := hA.ords
  have hls : l.shown.length = L.length := by rw [← hA.sl, List.length_map]
  obtain ⟨i, hi, e1, e2⟩ := Bl.emod_nat at' h0
  have HBd : Hid (Bl.bendA 1 at' y l = { l with shown := Bl.bendS 1 i y l.shown }) := Bl.hid (by
    unfold Bl.bendA; rw [if_pos ⟨h4, by rw [hls]; exact h0⟩, hls, e2])
  obtain ⟨g, cap, hvs, hg1, hg2, hg3, hg4, hrg⟩ := hA.sh.1.form h0
  subst hvs
  have hgN := hA.sh.2 g rfl
  obtain ⟨n, hn'⟩ : ∃ n, n = L.length := ⟨_, rfl⟩
  have Hn := Bl.hid hn'
  rw [← hn'] at hB hA hn h0 hi e1
  obtain ⟨D, hD⟩ : ∃ D, D = w.heap.size := ⟨_, rfl⟩
  obtain ⟨W1, hW1⟩ : ∃ W, W = w.alloc (.cells #[.int .i64 1, .int .i64 at', .int .i64 y] 28) := ⟨_, rfl⟩
  have hE1 : Bl.Ext w W1 := by rw [hW1]; exact Bl.ext_alloc _ _
  have hBD : Bl.BoxC W1 D [.int .i64 1, .int .i64 at', .int .i64 y] := by rw [hW1, hD]; exact Bl.BoxC.box (cs := [.int .i64 1, .int .i64 at', .int .i64 y]) w 28 (fun q => by cases q)
  have HE1 := Bl.hid hE1
  have HB1 := Bl.hid (hB.ext hE1)
  have HA1 := Bl.hid (hA.kept (w' := W1) (fun b h1 h2 => hE1.block b h2) hE1.size (Nat.le_refl B))
  have HX : Hid (P < B ∧ B ≤ N1 ∧ N1 ≤ g ∧ g < N2 ∧ N2 ≤ N3 ∧ N3 ≤ N4 ∧ N4 ≤ N5 ∧ N5 ≤ w.heap.size ∧ g < W1.heap.size ∧ D < W1.heap.size ∧ w.heap.size = D ∧ w.heap.size ≤ W1.heap.size ∧ i < n ∧ n ≤ 30 ∧ n ≤ cap ∧ cap ≤ maxLen) := Bl.hid ⟨hP, o1, hg1, hgN, o3, o4, o5, o6, by have := hE1.size; omega, hBD.lt, hD.symm, hE1.size, hi, hn, by rw [hn']; exact hg3, hg4⟩
  have HQ : Hid (∀ w2, Bl.Kq (fun k => k = g) W1 w2 → w2.cell? ⟨P, 4, none⟩ = some (.slice (some ⟨g, 0, none⟩) n cap) ∧ w2.cell? ⟨P, 0, none⟩ = some (.int .i64 4) ∧ w2.cell? ⟨D, 0, none⟩ = some (.int .i64 1) ∧ w2.cell? ⟨D, 2, none⟩ = some (.int .i64 y)) := Bl.hid fun w2 hk => by
    have h1 := hk.box (by have := HX.out; omega) HB1.out
    have h2 := hk.box (by have := HX.out; omega) hBD
    exact ⟨h1.cell (i := 4) rfl, by rw [← h4]; exact h1.cell (i := 0) rfl, h2.cell (i := 0) rfl, h2.cell (i := 2) rfl⟩
  have HR := Bl.hid (rest_any at' n W1 (by omega) (by omega))
  rw [e1] at HR
  obtain ⟨q4, q0, qd0, qd2⟩ := HQ.out W1 (Bl.Kq.refl W1)
  have qd1 := hBD.cell (i := 1) rfl
  have HBD := Bl.hid hBD
  have Hs := Bl.hid hs
  have hi0 : (0 : Int) ≤ (i : Int) := by omega
  have hi1 : (i : Int) < (n : Int) := by omega
  have hn1 : (0 : Int) < (n : Int) := by omega
  have hn2 : ¬ ((n : Int) = 0) := by omega
  have hn3 : ¬ (n = 0) := by omega
  have hn4 : (n : Int) ≤ 30 := by omega
  have HgetL : Hid (∀ j, j < 3 → (Bl.cellsR Bl.cS L)[i * 3 + j]? = (Bl.cS (L.getD i Bl.s0))[j]?) := Bl.hid fun j hj => Bl.cellsR_get Bl.cS_len Bl.s0 j hj L i (by rw [← hn']; exact hi)
  have HRw : Hid (Bl.Pk W1 N1 3 (.slice (some ⟨g, 0, none⟩) n cap) n (Bl.cellsR Bl.cS L)) := Bl.hid (by have h := HA1.out.sh.1; rw [← hn'] at h; exact h)
  have Hxl : Hid ((Bl.cellsR Bl.cS L).length = n * 3) := Bl.hid (by rw [Bl.cellsS_len, ← hn'])
  have HpS : Hid (Bl.plS (L.getD i Bl.s0) = l.shown.getD i Bl.h0) := Bl.hid (by rw [← Bl.plS_getD, HA1.out.sl])
  clear hB hA hE1 hBD hls hn' hrg hg1 hg2 hg3 hg4 hgN e1 e2 o1 o2 o3 o4 o5 o6 hs hP hn hi h0
  go_enter Tryd.func30, Tryd.ntmps30
  go_wp2_with (with_reducible refine Bl.stop_load (ty := 23) ?_)
  refine Bl.go_on ?_
  rw [← hW1, ← hD]
  clear hW1 hD
  go_wp2_with fail
  refine HR.out.mono ?_
  rintro e w2 ⟨rfl, hw2⟩
  subst hw2
  obtain ⟨m1, m2, k1, k2, k3, k4, k5⟩ := HA1.out.bent (i := i) (by rw [← Hn.out]; exact HX.out.2.2.2.2.2.2.2.2.2.2.2.2.1)
  have hx2 := Hs.out _ (Bl.getD_mem Bl.s0 (i := i) (L := L) (by rw [← Hn.out]; exact HX.out.2.2.2.2.2.2.2.2.2.2.2.2.1))
  obtain ⟨x0, hx⟩ : ∃ x, x = L.getD i Bl.s0 := ⟨_, rfl⟩
  rw [← hx] at k4 k5 hx2 HgetL HpS
  obtain ⟨pl0, ⟨u1, st⟩, u2, pth⟩ := x0
  have K4 := Bl.hid k4
  have K5 := Bl.hid k5
  have K3 := Bl.hid (And.intro k1 (And.intro k2 k3))
  have Hx2 : Hid (st.length ≤ 100) := Bl.hid hx2
  clear k1 k2 k3 k4 k5 hx2 hx

  by_cases hst : 0 < st.length
  · obtain ⟨b, c1, hu1, hb1, hb2, hb3, hb4, hbr⟩ := K4.out.st.1.form hst
    simp only at hu1
    subst hu1
    obtain ⟨ns, hns⟩ : ∃ z, z = st.length := ⟨_, rfl⟩
    simp only [← hns] at K4 K5 HgetL hb3 hst
    have Hns := Bl.hid hns
    have HFl := Bl.hid (fun (w2 : World) (h : Bl.Kq (fun _ => False) W1 w2) => flip_some b 0 c1 ns st y w2 hns hst (fun j u hu => h.cell (fun q => q) (hbr j u hu)) (Bl.Pk.there (base := m1) (size := 1) (cap := c1) (xs := Bl.ints .u8 st) (by have h2 := K4.out.st.1; simp only [← hns] at h2; exact h2.kept (fun k hk => h.block k (h2.block k hk).2 (fun q => q)) h.size) (by omega)) K4.out.bs (by have := Hx2.out; omega))
    have Hb := Bl.hid (And.intro hb1 (K4.out.st.2 b rfl))
    have HcS : Hid (∀ w2, Bl.Kq (fun _ => False) W1 w2 → w2.cell? ⟨g, i * 3 + 1, none⟩ = some (.slice (some ⟨b, 0, none⟩) ns c1)) := Bl.hid fun w2 hk => hk.cell (fun q => q) (HRw.out.cell (HgetL.out 1 (by decide)))
    clear hb1 hb2 hb3 hb4 hbr hns
    go_wp2_with fail
    clear q4 q0 qd0 qd1 qd2
    apply Bl.wp_region_evK (Bl.Kq (fun _ => False)) (fun _ _ _ => True) 6 [36, 37, 38, 39, 40, 41] [Bl.eqv _, Bl.eqv _, Bl.eqv _, Bl.eqv _, Bl.eqv _, Bl.eqv _] (fun w => Bl.Kq.refl w) (fun a b c h k => Bl.Kq.trans h k) (by kernel_rfl) (by kernel_rfl) (by kernel_rfl) (by kernel_rfl)
    case hsteps =>
      refine ⟨?_, ?_, ?_, ?_, ?_, ?_, trivial⟩
      all_goals
        intro d ev w1 hext HJd Hanc Hdes hni hb hd
        replace Hanc := Bl.hid Hanc
        replace HJd := Bl.hid HJd
        replace Hdes := Bl.hid Hdes
        replace hni := Bl.hid hni
        have e2 := hb 2 (by decide)
        have e6 := hb 6 (by decide)
        clear hb
        simp only [Array.getD_eq_getD_getElem?, List.getElem?_toArray, List.getElem?_cons_succ, List.getElem?_cons_zero, Option.getD_some] at e2 e6
        simp only [Bl.DepsE2, List.getElem?_cons_succ, List.getElem?_cons_zero, Option.bind_some, List.getD_cons_succ, List.getD_cons_zero, Bl.eqv, and_true] at hd
        have q3 := HQ.out _ (hext.mono fun _ _ q => False.elim q)
        have c0 := q3.1
        have c2 := q3.2.2.2
        have c3 := HcS.out _ hext
        clear q3
        rw [if_pos (rfl : Region.wanted _ _ = true)]
        go_simp
        first | exact ⟨Bl.Kq.refl _, rfl, trivial⟩ | exact ⟨Bl.Kq.refl _, rfl⟩ | exact ⟨Below.refl _ _, rfl, Bl.HJ.same (by decide) HJd.out⟩
    case hmono => exact ⟨Bl.monoR_eqv _, Bl.monoR_eqv _, Bl.monoR_eqv _, Bl.monoR_eqv _, Bl.monoR_eqv _, Bl.monoR_eqv _, trivial⟩
    case hR0 => exact Bl.Kq.drew _
    case hend =>
      intro u w1 hext hJ hend
      simp only [Bl.EndE, List.getElem?_cons_succ, List.getElem?_cons_zero, Option.bind_some, List.getD_cons_succ, List.getD_cons_zero, Bl.eqv, true_and] at hend
      simp only [Bl.fillAct, List.setIfInBounds_toArray, List.set_cons_succ, List.set_cons_zero, List.drop_succ_cons, List.drop_zero, hend]
      have HK := Bl.hid hext
      have HF := Bl.hid (HFl.out w1 hext)
      clear hext hJ hend
      go_wp2_with fail
      refine HF.out.mono ?_
      rintro e w2 ⟨rfl, j, hj, hw2, hfl⟩
      have HW2 := Bl.hid (And.intro hj (And.intro hw2 hfl))
      clear hj hw2 hfl
      go_wp2_with fail
      go_end0
      obtain ⟨hj, hw2, hfl⟩ := HW2.out
      rw [Nat.zero_add] at hw2
      have hKb : Bl.Kq (fun k => k = b) W1 w2 := by rw [hw2]; exact (HK.out.mono fun _ _ q => False.elim q).setCell (Q := fun k => k = b) ⟨b, j, none⟩ rfl _
      have hpl : (L.set i (pl0, (.slice (some ⟨b, 0, none⟩) ns c1, Bl.flL st y), u2, pth)).map Bl.plS = Bl.bendS 1 i y l.shown := by
        rw [List.map_set, HA1.out.sl]
        unfold Bl.bendS
        rw [if_pos rfl, ← HpS.out]
        rfl
      have hlt := K5.out w2 (pl0, (.slice (some ⟨b, 0, none⟩) ns c1, Bl.flL st y), u2, pth) (fun b' h1 h2 h3 => hKb.block b' h2 (fun q => h3 (by rw [q]; exact Hb.out))) hKb.size (by
        rw [hfl, hw2]
        exact Bl.EP.putS (Bl.stE_p _ _ _ _ _ _ _ K4.out (Nat.le_refl _) (Nat.le_refl _) (fun b' h1 h2 => HK.out.block b' (by have := HX.out; have := K3.out; omega) (fun q => q)) HK.out.size) Hns.out hj (Bl.flB_byt _)) rfl
      rw [hpl] at hlt
      exact ⟨rfl, .slice (some ⟨g, 0, none⟩) n cap, _, by rw [HBd.out]; exact hKb.box (by have := HX.out; have := Hb.out; have := K3.out; omega) HB1.out, by rw [HBd.out]; exact hlt, ((Bl.Kq.of_ext HE1.out).trans (hKb.mono fun k hk q => .inr (by have := HX.out; have := Hb.out; have := K3.out; omega)))⟩
    case hJ0 => trivial
  · obtain ⟨p1, c1, hu1, _, _⟩ := K4.out.st.1.rds.form
    have hsn : st = [] := List.length_eq_zero_iff.1 (by omega)
    subst hsn
    have hu1 : u1 = .slice p1 0 c1 := hu1
    subst hu1
    have HS : Hid (Bl.bendS 1 i y l.shown = l.shown) := Bl.hid (by
      unfold Bl.bendS
      rw [if_pos rfl]
      have h : Bl.flS (l.shown.getD i Bl.h0) y = l.shown.getD i Bl.h0 := by rw [← HpS.out]; rfl
      rw [h]
      exact Bl.set_getD Bl.h0 l.shown i (by rw [← HA1.out.sl, List.length_map, ← Hn.out]; have := HX.out; omega))
    have HcS : Hid (∀ w2, Bl.Kq (fun _ => False) W1 w2 → w2.cell? ⟨g, i * 3 + 1, none⟩ = some (.slice p1 0 c1)) := Bl.hid fun w2 hk => hk.cell (fun q => q) (HRw.out.cell (HgetL.out 1 (by decide)))
    clear hst
    go_wp2_with fail
    clear q4 q0 qd0 qd1 qd2
    apply Bl.wp_region_evK (Bl.Kq (fun _ => False)) (fun _ _ _ => True) 6 [36, 37, 38, 39, 40, 41] [Bl.eqv _, Bl.eqv _, Bl.eqv _, Bl.eqv _, Bl.eqv _, Bl.eqv _] (fun w => Bl.Kq.refl w) (fun a b c h k => Bl.Kq.trans h k) (by kernel_rfl) (by kernel_rfl) (by kernel_rfl) (by kernel_rfl)
    case hsteps =>
      refine ⟨?_, ?_, ?_, ?_, ?_, ?_, trivial⟩
      all_goals
        intro d ev w1 hext HJd Hanc Hdes hni hb hd
        replace Hanc := Bl.hid Hanc
        replace HJd := Bl.hid HJd
        replace Hdes := Bl.hid Hdes
        replace hni := Bl.hid hni
        have e2 := hb 2 (by decide)
        have e6 := hb 6 (by decide)
        clear hb
        simp only [Array.getD_eq_getD_getElem?, List.getElem?_toArray, List.getElem?_cons_succ, List.getElem?_cons_zero, Option.getD_some] at e2 e6
        simp only [Bl.DepsE2, List.getElem?_cons_succ, List.getElem?_cons_zero, Option.bind_some, List.getD_cons_succ, List.getD_cons_zero, Bl.eqv, and_true] at hd
        have q3 := HQ.out _ (hext.mono fun _ _ q => False.elim q)
        have c0 := q3.1
        have c2 := q3.2.2.2
        have c3 := HcS.out _ hext
        clear q3
        rw [if_pos (rfl : Region.wanted _ _ = true)]
        go_simp
        first | exact ⟨Bl.Kq.refl _, rfl, trivial⟩ | exact ⟨Bl.Kq.refl _, rfl⟩ | exact ⟨Below.refl _ _, rfl, Bl.HJ.same (by decide) HJd.out⟩
    case hmono => exact ⟨Bl.monoR_eqv _, Bl.monoR_eqv _, Bl.monoR_eqv _, Bl.monoR_eqv _, Bl.monoR_eqv _, Bl.monoR_eqv _, trivial⟩
    case hR0 => exact Bl.Kq.drew _
    case hend =>
      intro u w1 hext hJ hend
      simp only [Bl.EndE, List.getElem?_cons_succ, List.getElem?_cons_zero, Option.bind_some, List.getD_cons_succ, List.getD_cons_zero, Bl.eqv, true_and] at hend
      simp only [Bl.fillAct, List.setIfInBounds_toArray, List.set_cons_succ, List.set_cons_zero, List.drop_succ_cons, List.drop_zero, hend]
      have HK := Bl.hid hext
      clear hext hJ hend
      go_wp2_with fail
      refine (flip_none p1 c1 y w1).mono ?_
      rintro e w2 ⟨rfl, hw2⟩
      subst hw2
      go_wp2_with fail
      go_end0
      have hA9 : Bl.bendA 1 at' y l = l := by rw [HBd.out, HS.out]
      exact ⟨rfl, .slice (some ⟨g, 0, none⟩) n cap, L, by rw [hA9]; exact HK.out.box (fun q => q) HB1.out, by rw [hA9]; exact HA1.out.ltf.kept fun b hb hl => ⟨hb, HK.out.block b hl (fun q => q)⟩, (Bl.Kq.of_ext HE1.out).trans (HK.out.mono fun _ _ q => False.elim q)⟩
    case hJ0 => trivial
end Go.Proofs.YtmmolapkddbibaaDoor

/- Walk of Trick.shown. -/
namespace Go.Proofs.YtmmolapkddbibaaDoor
open Go Go.RowKit Go.Proofs

set_option maxRecDepth 100000 in
set_option maxHeartbeats 8000000 in
theorem tshown2 (at' y : Int) (P B N1 N2 N3 N4 N5 : Nat) (l : Bl.LT) (vp vs vb : Value) (L : List Bl.Sv) (M : List Bl.Bv) (w : World) (hB : Bl.BoxC w P (Bl.cL l vp vs vb)) (hA : Bl.ApV w B N1 N2 N3 N4 N5 l vp vs vb L M) (hP : P < B) (hn : L.length ≤ 30) (hs : ∀ x ∈ L, x.2.1.2.length ≤ 100) (h4 : l.kind = 4) (h0 : 0 < L.length) :
    Calls Tryd.prog 30 #[.agg #[.int .i64 2, .int .i64 at', .int .i64 y], .pointer (some ⟨P, 0, none⟩)] w fun e w' => Bl.ShR 2 at' y l vp vb P B w e w' := by
  obtain ⟨o1, o2, o3, o4, o5, o6⟩ := hA.ords
  have hls : l.shown.length = L.length := by rw [← hA.sl, List.length_map]
  obtain ⟨i, hi, e1, e2⟩ := Bl.emod_nat at' h0
  have HBd : Hid (Bl.bendA 2 at' y l = { l with shown := Bl.bendS 2 i y l.shown }) := Bl.hid (by
    unfold Bl.bendA; rw [if_pos ⟨h4, by rw [hls]; exact h0⟩, hls, e2])
  obtain ⟨g, cap, hvs, hg1, hg2, hg3, hg4, hrg⟩ := hA.sh.1.form h0
  subst hvs
  have hgN := hA.sh.2 g rfl
  obtain ⟨n, hn'⟩ : ∃ n, n = L.length := ⟨_, rfl⟩
  have Hn := Bl.hid hn'
  rw [← hn'] at hB hA hn h0 hi e1
  obtain ⟨D, hD⟩ : ∃ D, D = w.heap.size := ⟨_, rfl⟩
  obtain ⟨W1, hW1⟩ : ∃ W, W = w.alloc (.cells #[.int .i64 2, .int .i64 at', .int .i64 y] 28) := ⟨_, rfl⟩
  have hE1 : Bl.Ext w W1 := by rw [hW1]; exact Bl.ext_alloc _ _
  have hBD : Bl.BoxC W1 D [.int .i64 2, .int .i64 at', .int .i64 y] := by rw [hW1, hD]; exact Bl.BoxC.box (cs := [.int .i64 2, .int .i64 at', .int .i64 y]) w 28 (fun q => by cases q)
  have HE1 := Bl.hid hE1
  have HB1 := Bl.hid (hB.ext hE1)
  have HA1 := Bl.hid (hA.kept (w' := W1) (fun b h1 h2 => hE1.block b h2) hE1.size (Nat.le_refl B))
  have HX : Hid (P < B ∧ B ≤ N1 ∧ N1 ≤ g ∧ g < N2 ∧ N2 ≤ N3 ∧ N3 ≤ N4 ∧ N4 ≤ N5 ∧ N5 ≤ w.heap.size ∧ g < W1.heap.size ∧ D < W1.heap.size ∧ w.heap.size = D ∧ w.heap.size ≤ W1.heap.size ∧ i < n ∧ n ≤ 30 ∧ n ≤ cap ∧ cap ≤ maxLen) := Bl.hid ⟨hP, o1, hg1, hgN, o3, o4, o5, o6, by have := hE1.size; omega, hBD.lt, hD.symm, hE1.size, hi, hn, by rw [hn']; exact hg3, hg4⟩
  have HQ : Hid (∀ w2, Bl.Kq (fun k => k = g) W1 w2 → w2.cell? ⟨P, 4, none⟩ = some (.slice (some ⟨g, 0, none⟩) n cap) ∧ w2.cell? ⟨P, 0, none⟩ = some (.int .i64 4) ∧ w2.cell? ⟨D, 0, none⟩ = some (.int .i64 2) ∧ w2.cell? ⟨D, 2, none⟩ = some (.int .i64 y)) := Bl.hid fun w2 hk => by
    have h1 := hk.box (by have := HX.out; omega) HB1.out
    have h2 := hk.box (by have := HX.out; omega) hBD
    exact ⟨h1.cell (i := 4) rfl, by rw [← h4]; exact h1.cell (i := 0) rfl, h2.cell (i := 0) rfl, h2.cell (i := 2) rfl⟩
  have HR := Bl.hid (rest_any at' n W1 (by omega) (by omega))
  rw [e1] at HR
  obtain ⟨q4, q0, qd0, qd2⟩ := HQ.out W1 (Bl.Kq.refl W1)
  have qd1 := hBD.cell (i := 1) rfl
  have HBD := Bl.hid hBD
  have Hs := Bl.hid hs
  have hi0 : (0 : Int) ≤ (i : Int) := by omega
  have hi1 : (i : Int) < (n : Int) := by omega
  have hn1 : (0 : Int) < (n : Int) := by omega
  have hn2 : ¬ ((n : Int) = 0) := by omega
  have hn3 : ¬ (n = 0) := by omega
  have hn4 : (n : Int) ≤ 30 := by omega
  have HgetL : Hid (∀ j, j < 3 → (Bl.cellsR Bl.cS L)[i * 3 + j]? = (Bl.cS (L.getD i Bl.s0))[j]?) := Bl.hid fun j hj => Bl.cellsR_get Bl.cS_len Bl.s0 j hj L i (by rw [← hn']; exact hi)
  have HRw : Hid (Bl.Pk W1 N1 3 (.slice (some ⟨g, 0, none⟩) n cap) n (Bl.cellsR Bl.cS L)) := Bl.hid (by have h := HA1.out.sh.1; rw [← hn'] at h; exact h)
  have Hxl : Hid ((Bl.cellsR Bl.cS L).length = n * 3) := Bl.hid (by rw [Bl.cellsS_len, ← hn'])
  have HpS : Hid (Bl.plS (L.getD i Bl.s0) = l.shown.getD i Bl.h0) := Bl.hid (by rw [← Bl.plS_getD, HA1.out.sl])
  clear hB hA hE1 hBD hls hn' hrg hg1 hg2 hg3 hg4 hgN e1 e2 o1 o2 o3 o4 o5 o6 hs hP hn hi h0
  go_enter Tryd.func30, Tryd.ntmps30
  go_wp2_with (with_reducible refine Bl.stop_load (ty := 23) ?_)
  refine Bl.go_on ?_
  rw [← hW1, ← hD]
  clear hW1 hD
  go_wp2_with fail
  refine HR.out.mono ?_
  rintro e w2 ⟨rfl, hw2⟩
  subst hw2
  obtain ⟨m1, m2, k1, k2, k3, k4, k5⟩ := HA1.out.bent (i := i) (by rw [← Hn.out]; exact HX.out.2.2.2.2.2.2.2.2.2.2.2.2.1)
  have hx2 := Hs.out _ (Bl.getD_mem Bl.s0 (i := i) (L := L) (by rw [← Hn.out]; exact HX.out.2.2.2.2.2.2.2.2.2.2.2.2.1))
  obtain ⟨x0, hx⟩ : ∃ x, x = L.getD i Bl.s0 := ⟨_, rfl⟩
  rw [← hx] at k4 k5 hx2 HgetL HpS
  obtain ⟨pl0, ⟨u1, st⟩, u2, pth⟩ := x0
  have K4 := Bl.hid k4
  have K5 := Bl.hid k5
  have K3 := Bl.hid (And.intro k1 (And.intro k2 k3))
  have Hx2 : Hid (st.length ≤ 100) := Bl.hid hx2
  clear k1 k2 k3 k4 k5 hx2 hx

  by_cases hst : 0 < pth.length
  · obtain ⟨b, c1, hu2, hb1, hb2, hb3, hb4, hbr⟩ := K4.out.pa.1.form hst
    simp only at hu2
    subst hu2
    obtain ⟨np, hnp⟩ : ∃ z, z = pth.length := ⟨_, rfl⟩
    simp only [← hnp] at K4 K5 HgetL hb3 hst
    have Hnp := Bl.hid hnp
    have hd0 : (pth.getD 0 []).length = 32 ∧ Bl.Byt (pth.getD 0 []) := K4.out.dg.get (i := 0) (by show 0 < pth.length; omega)
    have hbr0 : W1.rangeAt b 0 (Bl.ints .u8 (pth.getD 0 [])) := by
      have h := Bl.digit_at hbr K4.out.dg (i := 0) (by show 0 < pth.length; omega)
      simpa using h
    have HFl := Bl.hid (fun (w2 : World) (h : Bl.Kq (fun _ => False) W1 w2) => flip_some b 0 32 32 (pth.getD 0 []) y w2 hd0.1.symm (by decide) (fun j u hu => h.cell (fun q => q) (hbr0 j u hu)) (Bl.Pk.there (base := m1) (size := 32) (n := np) (cap := c1) (xs := Bl.cellsD pth) (by have h2 := K4.out.pa.1; simp only [← hnp] at h2; exact h2.kept (fun k hk => h.block k (h2.block k hk).2 (fun q => q)) h.size) (by omega)) hd0.2 (by decide))
    have Hb := Bl.hid (And.intro hb1 (K4.out.pa.2 b rfl))
    have HcS : Hid (∀ w2, Bl.Kq (fun _ => False) W1 w2 → w2.cell? ⟨g, i * 3 + 2, none⟩ = some (.slice (some ⟨b, 0, none⟩) np c1)) := Bl.hid fun w2 hk => hk.cell (fun q => q) (HRw.out.cell (HgetL.out 2 (by decide)))
    have hcs := HcS.out W1 (Bl.Kq.refl _)
    have hp0 : (0 : Int) < (np : Int) := by omega
    have Hp0 := Bl.hid hst
    clear hb1 hb2 hb3 hb4 hbr hnp hbr0 hd0
    go_wp2_with fail
    clear q4 q0 qd0 qd1 qd2 hcs
    apply Bl.wp_region_evK (Bl.Kq (fun _ => False)) (fun _ _ _ => True) 8 [51, 52, 53, 54, 55, 56, 57, 58] [Bl.eqv _, Bl.eqv _, Bl.eqv _, Bl.eqv _, Bl.eqv _, Bl.eqv _, Bl.eqv _, Bl.eqv _] (fun w => Bl.Kq.refl w) (fun a b c h k => Bl.Kq.trans h k) (by kernel_rfl) (by kernel_rfl) (by kernel_rfl) (by kernel_rfl)
    case hsteps =>
      refine ⟨?_, ?_, ?_, ?_, ?_, ?_, ?_, ?_, trivial⟩
      all_goals
        intro d ev w1 hext HJd Hanc Hdes hni hb hd
        replace Hanc := Bl.hid Hanc
        replace HJd := Bl.hid HJd
        replace Hdes := Bl.hid Hdes
        replace hni := Bl.hid hni
        have e2 := hb 2 (by decide)
        have e6 := hb 6 (by decide)
        clear hb
        simp only [Array.getD_eq_getD_getElem?, List.getElem?_toArray, List.getElem?_cons_succ, List.getElem?_cons_zero, Option.getD_some] at e2 e6
        simp only [Bl.DepsE2, List.getElem?_cons_succ, List.getElem?_cons_zero, Option.bind_some, List.getD_cons_succ, List.getD_cons_zero, Bl.eqv, and_true] at hd
        have q3 := HQ.out _ (hext.mono fun _ _ q => False.elim q)
        have c0 := q3.1
        have c2 := q3.2.2.2
        have c3 := HcS.out _ hext
        clear q3
        rw [if_pos (rfl : Region.wanted _ _ = true)]
        go_simp
        first | exact ⟨Bl.Kq.refl _, rfl, trivial⟩ | exact ⟨Bl.Kq.refl _, rfl⟩ | exact ⟨Below.refl _ _, rfl, Bl.HJ.same (by decide) HJd.out⟩
    case hmono => exact ⟨Bl.monoR_eqv _, Bl.monoR_eqv _, Bl.monoR_eqv _, Bl.monoR_eqv _, Bl.monoR_eqv _, Bl.monoR_eqv _, Bl.monoR_eqv _, Bl.monoR_eqv _, trivial⟩
    case hR0 => exact Bl.Kq.drew _
    case hend =>
      intro u w1 hext hJ hend
      simp only [Bl.EndE, List.getElem?_cons_succ, List.getElem?_cons_zero, Option.bind_some, List.getD_cons_succ, List.getD_cons_zero, Bl.eqv, true_and] at hend
      simp only [Bl.fillAct, List.setIfInBounds_toArray, List.set_cons_succ, List.set_cons_zero, List.drop_succ_cons, List.drop_zero, hend]
      have HK := Bl.hid hext
      have HF := Bl.hid (HFl.out w1 hext)
      clear hext hJ hend
      go_wp2_with fail
      refine HF.out.mono ?_
      rintro e w2 ⟨rfl, j, hj, hw2, hfl⟩
      have HW2 := Bl.hid (And.intro hj (And.intro hw2 hfl))
      clear hj hw2 hfl
      go_wp2_with fail
      go_end0
      obtain ⟨hj, hw2, hfl⟩ := HW2.out
      rw [Nat.zero_add] at hw2
      have hKb : Bl.Kq (fun k => k = b) W1 w2 := by rw [hw2]; exact (HK.out.mono fun _ _ q => False.elim q).setCell (Q := fun k => k = b) ⟨b, j, none⟩ rfl _
      have hpl : (L.set i (pl0, (u1, st), .slice (some ⟨b, 0, none⟩) np c1, pth.set 0 (Bl.flL (pth.getD 0 []) y))).map Bl.plS = Bl.bendS 2 i y l.shown := by
        rw [List.map_set, HA1.out.sl]
        unfold Bl.bendS
        rw [if_neg (by decide), if_pos rfl, ← HpS.out]
        unfold Bl.flP
        rw [if_pos (by show 0 < pth.length; rw [← Hnp.out]; exact Hp0.out)]
        rfl
      have hlt := K5.out w2 (pl0, (u1, st), .slice (some ⟨b, 0, none⟩) np c1, pth.set 0 (Bl.flL (pth.getD 0 []) y)) (fun b' h1 h2 h3 => hKb.block b' h2 (fun q => h3 (by rw [q]; exact Hb.out))) hKb.size (by
        rw [hfl, hw2]
        exact Bl.EP.putP (Bl.stE_p _ _ _ _ _ _ _ K4.out (Nat.le_refl _) (Nat.le_refl _) (fun b' h1 h2 => HK.out.block b' (by have := HX.out; have := K3.out; omega) (fun q => q)) HK.out.size) Hnp.out Hp0.out hj (Bl.flB_byt _)) rfl
      rw [hpl] at hlt
      exact ⟨rfl, .slice (some ⟨g, 0, none⟩) n cap, _, by rw [HBd.out]; exact hKb.box (by have := HX.out; have := Hb.out; have := K3.out; omega) HB1.out, by rw [HBd.out]; exact hlt, ((Bl.Kq.of_ext HE1.out).trans (hKb.mono fun k hk q => .inr (by have := HX.out; have := Hb.out; have := K3.out; omega)))⟩
    case hJ0 => trivial
  · obtain ⟨p1, c1, hu2, _, _⟩ := K4.out.pa.1.rds.form
    have hsn : pth = [] := List.length_eq_zero_iff.1 (by omega)
    subst hsn
    have hu2 : u2 = .slice p1 0 c1 := hu2
    subst hu2
    have HS : Hid (Bl.bendS 2 i y l.shown = l.shown) := Bl.hid (by
      unfold Bl.bendS
      rw [if_neg (by decide), if_pos rfl]
      have h : Bl.flP (l.shown.getD i Bl.h0) y = l.shown.getD i Bl.h0 := by rw [← HpS.out]; rfl
      rw [h]
      exact Bl.set_getD Bl.h0 l.shown i (by rw [← HA1.out.sl, List.length_map, ← Hn.out]; have := HX.out; omega))
    have hcs : W1.cell? ⟨g, i * 3 + 2, none⟩ = some (.slice p1 0 c1) := HRw.out.cell (HgetL.out 2 (by decide))
    clear hst
    go_wp2_with fail
    go_end0
    have hA9 : Bl.bendA 2 at' y l = l := by rw [HBd.out, HS.out]
    refine ⟨rfl, .slice (some ⟨g, 0, none⟩) n cap, L, by rw [hA9]; exact HB1.out, by rw [hA9]; exact HA1.out.ltf, Bl.Kq.of_ext HE1.out⟩
end Go.Proofs.YtmmolapkddbibaaDoor

/- Walk of Trick.shown. -/
namespace Go.Proofs.YtmmolapkddbibaaDoor
open Go Go.RowKit Go.Proofs

set_option maxRecDepth 100000 in
set_option maxHeartbeats 8000000 in
theorem tshown3 (at' y : Int) (P B N1 N2 N3 N4 N5 : Nat) (l : Bl.LT) (vp vs vb : Value) (L : List Bl.Sv) (M : List Bl.Bv) (w : World) (hB : Bl.BoxC w P (Bl.cL l vp vs vb)) (hA : Bl.ApV w B N1 N2 N3 N4 N5 l vp vs vb L M) (hP : P < B) (hn : L.length ≤ 30) (hs : ∀ x ∈ L, x.2.1.2.length ≤ 100) (h4 : l.kind = 4) (h0 : 0 < L.length) :
    Calls Tryd.prog 30 #[.agg #[.int .i64 3, .int .i64 at', .int .i64 y], .pointer (some ⟨P, 0, none⟩)] w fun e w' => Bl.ShR 3 at' y l vp vb P B w e w' := by
  obtain ⟨o1, o2, o3, o4, o5, o6⟩ := hA.ords
  have hls : l.shown.length = L.length := by rw [← hA.sl, List.length_map]
  obtain ⟨i, hi, e1, e2⟩ := Bl.emod_nat at' h0
  have HBd : Hid (Bl.bendA 3 at' y l = { l with shown := Bl.bendS 3 i y l.shown }) := Bl.hid (by
    unfold Bl.bendA; rw [if_pos ⟨h4, by rw [hls]; exact h0⟩, hls, e2])
  obtain ⟨g, cap, hvs, hg1, hg2, hg3, hg4, hrg⟩ := hA.sh.1.form h0
  subst hvs
  have hgN := hA.sh.2 g rfl
  obtain ⟨n, hn'⟩ : ∃ n, n = L.length := ⟨_, rfl⟩
  have Hn := Bl.hid hn'
  rw [← hn'] at hB hA hn h0 hi e1
  obtain ⟨D, hD⟩ : ∃ D, D = w.heap.size := ⟨_, rfl⟩
  obtain ⟨W1, hW1⟩ : ∃ W, W = w.alloc (.cells #[.int .i64 3, .int .i64 at', .int .i64 y] 28) := ⟨_, rfl⟩
  have hE1 : Bl.Ext w W1 := by rw [hW1]; exact Bl.ext_alloc _ _
  have hBD : Bl.BoxC W1 D [.int .i64 3, .int .i64 at', .int .i64 y] := by rw [hW1, hD]; exact Bl.BoxC.box (cs := [.int .i64 3, .int .i64 at', .int .i64 y]) w 28 (fun q => by cases q)
  have HE1 := Bl.hid hE1
  have HB1 := Bl.hid (hB.ext hE1)
  have HA1 := Bl.hid (hA.kept (w' := W1) (fun b h1 h2 => hE1.block b h2) hE1.size (Nat.le_refl B))
  have HX : Hid (P < B ∧ B ≤ N1 ∧ N1 ≤ g ∧ g < N2 ∧ N2 ≤ N3 ∧ N3 ≤ N4 ∧ N4 ≤ N5 ∧ N5 ≤ w.heap.size ∧ g < W1.heap.size ∧ D < W1.heap.size ∧ w.heap.size = D ∧ w.heap.size ≤ W1.heap.size ∧ i < n ∧ n ≤ 30 ∧ n ≤ cap ∧ cap ≤ maxLen) := Bl.hid ⟨hP, o1, hg1, hgN, o3, o4, o5, o6, by have := hE1.size; omega, hBD.lt, hD.symm, hE1.size, hi, hn, by rw [hn']; exact hg3, hg4⟩
  have HQ : Hid (∀ w2, Bl.Kq (fun k => k = g) W1 w2 → w2.cell? ⟨P, 4, none⟩ = some (.slice (some ⟨g, 0, none⟩) n cap) ∧ w2.cell? ⟨P, 0, none⟩ = some (.int .i64 4) ∧ w2.cell? ⟨D, 0, none⟩ = some (.int .i64 3) ∧ w2.cell? ⟨D, 2, none⟩ = some (.int .i64 y)) := Bl.hid fun w2 hk => by
    have h1 := hk.box (by have := HX.out; omega) HB1.out
    have h2 := hk.box (by have := HX.out; omega) hBD
    exact ⟨h1.cell (i := 4) rfl, by rw [← h4]; exact h1.cell (i := 0) rfl, h2.cell (i := 0) rfl, h2.cell (i := 2) rfl⟩
  have HR := Bl.hid (rest_any at' n W1 (by omega) (by omega))
  rw [e1] at HR
  obtain ⟨q4, q0, qd0, qd2⟩ := HQ.out W1 (Bl.Kq.refl W1)
  have qd1 := hBD.cell (i := 1) rfl
  have HBD := Bl.hid hBD
  have Hs := Bl.hid hs
  have hi0 : (0 : Int) ≤ (i : Int) := by omega
  have hi1 : (i : Int) < (n : Int) := by omega
  have hn1 : (0 : Int) < (n : Int) := by omega
  have hn2 : ¬ ((n : Int) = 0) := by omega
  have hn3 : ¬ (n = 0) := by omega
  have hn4 : (n : Int) ≤ 30 := by omega
  have HgetL : Hid (∀ j, j < 3 → (Bl.cellsR Bl.cS L)[i * 3 + j]? = (Bl.cS (L.getD i Bl.s0))[j]?) := Bl.hid fun j hj => Bl.cellsR_get Bl.cS_len Bl.s0 j hj L i (by rw [← hn']; exact hi)
  have HRw : Hid (Bl.Pk W1 N1 3 (.slice (some ⟨g, 0, none⟩) n cap) n (Bl.cellsR Bl.cS L)) := Bl.hid (by have h := HA1.out.sh.1; rw [← hn'] at h; exact h)
  have Hxl : Hid ((Bl.cellsR Bl.cS L).length = n * 3) := Bl.hid (by rw [Bl.cellsS_len, ← hn'])
  have HpS : Hid (Bl.plS (L.getD i Bl.s0) = l.shown.getD i Bl.h0) := Bl.hid (by rw [← Bl.plS_getD, HA1.out.sl])
  clear hB hA hE1 hBD hls hn' hrg hg1 hg2 hg3 hg4 hgN e1 e2 o1 o2 o3 o4 o5 o6 hs hP hn hi h0
  go_enter Tryd.func30, Tryd.ntmps30
  go_wp2_with (with_reducible refine Bl.stop_load (ty := 23) ?_)
  refine Bl.go_on ?_
  rw [← hW1, ← hD]
  clear hW1 hD
  go_wp2_with fail
  refine HR.out.mono ?_
  rintro e w2 ⟨rfl, hw2⟩
  subst hw2
  have hgl : i < L.length ∧ 0 < L.length := by rw [← Hn.out]; have := HX.out; omega
  have Hget0 : Hid (∀ j, j < 3 → (Bl.cellsR Bl.cS L)[j]? = (Bl.cS (L.getD 0 Bl.s0))[j]?) := Bl.hid fun j hj => by
    have h := Bl.cellsR_get Bl.cS_len Bl.s0 j hj L 0 hgl.2
    rwa [Nat.zero_mul, Nat.zero_add] at h
  have HSw := Bl.hid (Bl.swap_cells L i hgl.2 hgl.1)
  have HSp := Bl.hid (Bl.swap_pl L i hgl.2 hgl.1)
  have HSo := Bl.hid (Bl.swap_ok (w := W1) hgl.2 hgl.1 HA1.out.okF)
  have hf0 := (HA1.out.okF _ (Bl.getD_mem Bl.s0 hgl.2)).ok
  have hfi := (HA1.out.okF _ (Bl.getD_mem Bl.s0 hgl.1)).ok
  obtain ⟨x0, hx0⟩ : ∃ x, x = L.getD 0 Bl.s0 := ⟨_, rfl⟩
  obtain ⟨xi, hxi⟩ : ∃ x, x = L.getD i Bl.s0 := ⟨_, rfl⟩
  rw [← hx0] at Hget0 hf0
  rw [← hxi] at HgetL hfi
  rw [← hx0, ← hxi] at HSw
  obtain ⟨P0, ⟨a1, sta⟩, a2, pta⟩ := x0
  obtain ⟨Pi, ⟨b1, stb⟩, b2, ptb⟩ := xi
  obtain ⟨pa1, ca1, ha1, _, _⟩ := hf0.st.form
  obtain ⟨pb1, cb1, hb1, _, _⟩ := hfi.st.form
  obtain ⟨pa2, ca2, ha2, _, _⟩ := hf0.pa.form
  obtain ⟨pb2, cb2, hb2, _, _⟩ := hfi.pa.form
  simp only at ha1 hb1 ha2 hb2
  obtain ⟨na1, hna1⟩ : ∃ z, z = sta.length := ⟨_, rfl⟩
  obtain ⟨nb1, hnb1⟩ : ∃ z, z = stb.length := ⟨_, rfl⟩
  obtain ⟨na2, hna2⟩ : ∃ z, z = pta.length := ⟨_, rfl⟩
  obtain ⟨nb2, hnb2⟩ : ∃ z, z = ptb.length := ⟨_, rfl⟩
  rw [← hna1] at ha1
  rw [← hnb1] at hb1
  rw [← hna2] at ha2
  rw [← hnb2] at hb2
  simp only at HSw
  obtain ⟨xs, hxs⟩ : ∃ z, z = Bl.cellsR Bl.cS L := ⟨_, rfl⟩
  rw [← hxs] at HSw HRw Hget0 HgetL Hxl
  have HlI1 : Hid (i * 3 + 1 < xs.length) := Bl.hid (by rw [Hxl.out]; have := HX.out; omega)
  have HvA1 : Hid (xs[1]? = some (.slice pa1 na1 ca1)) := Bl.hid (by rw [← ha1]; exact Hget0.out 1 (by decide))
  have HvB1 : Hid (xs[i * 3 + 1]? = some (.slice pb1 nb1 cb1)) := Bl.hid (by rw [← hb1]; exact HgetL.out 1 (by decide))
  obtain ⟨xs2, hxs2⟩ : ∃ z, z = (xs.set (i * 3 + 1) (.slice pa1 na1 ca1)).set 1 (.slice pb1 nb1 cb1) := ⟨_, rfl⟩
  have Hxs2 := Bl.hid hxs2
  have Hx2l : Hid (xs2.length = n * 3) := Bl.hid (by rw [hxs2, List.length_set, List.length_set]; exact Hxl.out)
  have HlI2 : Hid (i * 3 + 2 < xs2.length) := Bl.hid (by rw [Hx2l.out]; have := HX.out; omega)
  have HvA2 : Hid (xs2[2]? = some (.slice pa2 na2 ca2)) := Bl.hid (by rw [hxs2, List.getElem?_set_ne (by omega), List.getElem?_set_ne (by omega), ← ha2]; exact Hget0.out 2 (by decide))
  have HvB2 : Hid (xs2[i * 3 + 2]? = some (.slice pb2 nb2 cb2)) := Bl.hid (by rw [hxs2, List.getElem?_set_ne (by omega), List.getElem?_set_ne (by omega), ← hb2]; exact HgetL.out 2 (by decide))
  have HSx : Hid ((xs2.set (i * 3 + 2) (.slice pa2 na2 ca2)).set 2 (.slice pb2 nb2 cb2) = Bl.cellsR Bl.cS (Bl.swL L i)) := Bl.hid (by rw [hxs2, ← ha1, ← hb1, ← ha2, ← hb2]; exact HSw.out)
  have Hl1 : Hid (1 < xs.length ∧ 2 < xs2.length) := Bl.hid (by rw [Hxl.out, Hx2l.out]; have := HX.out; omega)
  clear hgl hf0 hfi hx0 hxi ha1 hb1 ha2 hb2 hna1 hnb1 hna2 hnb2 HSw hxs hxs2 Hget0 HgetL
  go_wp2_with fail
  clear q4 q0 qd0 qd1 qd2
  apply Bl.wp_region_evK (Bl.Kq (fun k => k = g)) (Bl.HJ 12 (fun w' => Bl.Pk w' N1 3 (.slice (some ⟨g, 0, none⟩) n cap) n xs) (fun w' => Bl.Pk w' N1 3 (.slice (some ⟨g, 0, none⟩) n cap) n (xs.set (i * 3 + 1) (.slice pa1 na1 ca1)))) 15 [67, 68, 69, 70, 71, 72, 73, 74, 75, 76, 77, 78, 79, 80] [Bl.eqv _, Bl.eqv _, Bl.eqv _, Bl.eqv _, Bl.eqv _, Bl.eqv _, Bl.eqv _, Bl.eqv _, Bl.eqv _, Bl.eqv _, Bl.eqv _, Bl.eqv _, Bl.eqv _, Bl.eqv _, Bl.eqv _] (fun w => Bl.Kq.refl w) (fun a b c h k => Bl.Kq.trans h k) (by kernel_rfl) (by kernel_rfl) (by kernel_rfl) (by kernel_rfl)
  case hsteps =>
    refine ⟨?_, ?_, ?_, ?_, ?_, ?_, ?_, ?_, ?_, ?_, ?_, ?_, ?_, ?_, ?_, trivial⟩
    all_goals
      intro d ev w1 hext HJd Hanc Hdes hni hb hd
      replace Hanc := Bl.hid Hanc
      replace HJd := Bl.hid HJd
      replace Hdes := Bl.hid Hdes
      replace hni := Bl.hid hni
      have e6 := hb 6 (by decide)
      have e7 := hb 7 (by decide)
      clear hb
      simp only [Array.getD_eq_getD_getElem?, List.getElem?_toArray, List.getElem?_cons_succ, List.getElem?_cons_zero, Option.getD_some] at e6 e7
      simp only [Bl.DepsE2, List.getElem?_cons_succ, List.getElem?_cons_zero, Option.bind_some, List.getD_cons_succ, List.getD_cons_zero, Bl.eqv, and_true] at hd
      rw [if_pos (rfl : Region.wanted _ _ = true)]
      first
      | (have hr := Bl.HJ.get HJd.out hni.out; have q9 := hr.cell (List.getElem?_eq_getElem HlI1.out); have f9 := hr.fz HlI1.out; go_simp; first | exact ⟨(Bl.Kq.refl w1).setCell (Q := fun k => k = g) ⟨g, i * 3 + 1, none⟩ rfl _, Bl.HJ.set (hr.put HlI1.out _)⟩ | exact ⟨(Bl.Kq.refl w1).setCell (Q := fun k => k = g) ⟨g, i * 3 + 1, none⟩ rfl _, rfl, Bl.HJ.set (hr.put HlI1.out _)⟩) | (go_simp; exact ⟨Bl.Kq.refl _, rfl, Bl.HJ.same (by decide) HJd.out⟩) | (have hr := Bl.HJ.get HJd.out (Hdes.out 12 (by kernel_rfl)); have q9 := hr.cell HvA1.out; have q8 := hr.cell HvB1.out; go_simp; exact ⟨Bl.Kq.refl _, rfl, Bl.HJ.same (by decide) HJd.out⟩)
      | (go_simp; first | exact ⟨Bl.Kq.refl _, rfl, Bl.HJ.same (by decide) HJd.out⟩ | exact ⟨Below.refl _ _, rfl, Bl.HJ.same (by decide) HJd.out⟩)
  case hmono => exact ⟨Bl.monoR_eqv _, Bl.monoR_eqv _, Bl.monoR_eqv _, Bl.monoR_eqv _, Bl.monoR_eqv _, Bl.monoR_eqv _, Bl.monoR_eqv _, Bl.monoR_eqv _, Bl.monoR_eqv _, Bl.monoR_eqv _, Bl.monoR_eqv _, Bl.monoR_eqv _, Bl.monoR_eqv _, Bl.monoR_eqv _, Bl.monoR_eqv _, trivial⟩
  case hR0 => exact Bl.Kq.drew _
  case hend =>
    intro u w1 hext hJ hend
    simp only [Bl.EndE, List.getElem?_cons_succ, List.getElem?_cons_zero, Option.bind_some, List.getD_cons_succ, List.getD_cons_zero, Bl.eqv, true_and] at hend
    simp only [Bl.fillAct, List.setIfInBounds_toArray, List.set_cons_succ, List.set_cons_zero, List.drop_succ_cons, List.drop_zero, hend]
    have hr := Bl.HJ.got hJ rfl
    have HK := Bl.hid hext
    have q1 := hr.cell (List.getElem?_eq_getElem (by rw [List.length_set]; exact Hl1.out.1))
    have f1 := hr.fz (j := 1) (by rw [List.length_set]; exact Hl1.out.1)
    have HR2 : Hid (Bl.Pk (w1.setCell ⟨g, 1, none⟩ (.slice pb1 nb1 cb1)) N1 3 (.slice (some ⟨g, 0, none⟩) n cap) n xs2) := Bl.hid (by rw [Hxs2.out]; exact hr.put (by rw [List.length_set]; exact Hl1.out.1) _)
    have HK2 : Hid (Bl.Kq (fun k => k = g) W1 (w1.setCell ⟨g, 1, none⟩ (.slice pb1 nb1 cb1))) := Bl.hid (hext.setCell (Q := fun k => k = g) ⟨g, 1, none⟩ rfl _)
    clear hext hJ hend hr
    go_wp2_with fail
    obtain ⟨wm, hwm⟩ : ∃ W, W = w1.setCell ⟨g, 1, none⟩ (.slice pb1 nb1 cb1) := ⟨_, rfl⟩
    rw [← hwm] at HR2 HK2 ⊢
    clear hwm q1 f1 HK
    apply Bl.wp_region_evK (Bl.Kq (fun k => k = g)) (Bl.HJ 12 (fun w' => Bl.Pk w' N1 3 (.slice (some ⟨g, 0, none⟩) n cap) n xs2) (fun w' => Bl.Pk w' N1 3 (.slice (some ⟨g, 0, none⟩) n cap) n (xs2.set (i * 3 + 2) (.slice pa2 na2 ca2)))) 15 [81, 82, 83, 84, 85, 86, 87, 88, 89, 90, 91, 92, 93, 94] [Bl.eqv _, Bl.eqv _, Bl.eqv _, Bl.eqv _, Bl.eqv _, Bl.eqv _, Bl.eqv _, Bl.eqv _, Bl.eqv _, Bl.eqv _, Bl.eqv _, Bl.eqv _, Bl.eqv _, Bl.eqv _, Bl.eqv _] (fun w => Bl.Kq.refl w) (fun a b c h k => Bl.Kq.trans h k) (by kernel_rfl) (by kernel_rfl) (by kernel_rfl) (by kernel_rfl)
    case hsteps =>
      refine ⟨?_, ?_, ?_, ?_, ?_, ?_, ?_, ?_, ?_, ?_, ?_, ?_, ?_, ?_, ?_, trivial⟩
      all_goals
        intro d ev w1 hext HJd Hanc Hdes hni hb hd
        replace Hanc := Bl.hid Hanc
        replace HJd := Bl.hid HJd
        replace Hdes := Bl.hid Hdes
        replace hni := Bl.hid hni
        have e6 := hb 6 (by decide)
        have e7 := hb 7 (by decide)
        clear hb
        simp only [Array.getD_eq_getD_getElem?, List.getElem?_toArray, List.getElem?_cons_succ, List.getElem?_cons_zero, Option.getD_some] at e6 e7
        simp only [Bl.DepsE2, List.getElem?_cons_succ, List.getElem?_cons_zero, Option.bind_some, List.getD_cons_succ, List.getD_cons_zero, Bl.eqv, and_true] at hd
        rw [if_pos (rfl : Region.wanted _ _ = true)]
        first
        | (have hr := Bl.HJ.get HJd.out hni.out; have q9 := hr.cell (List.getElem?_eq_getElem HlI2.out); have f9 := hr.fz HlI2.out; go_simp; first | exact ⟨(Bl.Kq.refl w1).setCell (Q := fun k => k = g) ⟨g, i * 3 + 2, none⟩ rfl _, Bl.HJ.set (hr.put HlI2.out _)⟩ | exact ⟨(Bl.Kq.refl w1).setCell (Q := fun k => k = g) ⟨g, i * 3 + 2, none⟩ rfl _, rfl, Bl.HJ.set (hr.put HlI2.out _)⟩) | (go_simp; exact ⟨Bl.Kq.refl _, rfl, Bl.HJ.same (by decide) HJd.out⟩) | (have hr := Bl.HJ.get HJd.out (Hdes.out 12 (by kernel_rfl)); have q9 := hr.cell HvA2.out; have q8 := hr.cell HvB2.out; go_simp; exact ⟨Bl.Kq.refl _, rfl, Bl.HJ.same (by decide) HJd.out⟩)
        | (go_simp; first | exact ⟨Bl.Kq.refl _, rfl, Bl.HJ.same (by decide) HJd.out⟩ | exact ⟨Below.refl _ _, rfl, Bl.HJ.same (by decide) HJd.out⟩)
    case hmono => exact ⟨Bl.monoR_eqv _, Bl.monoR_eqv _, Bl.monoR_eqv _, Bl.monoR_eqv _, Bl.monoR_eqv _, Bl.monoR_eqv _, Bl.monoR_eqv _, Bl.monoR_eqv _, Bl.monoR_eqv _, Bl.monoR_eqv _, Bl.monoR_eqv _, Bl.monoR_eqv _, Bl.monoR_eqv _, Bl.monoR_eqv _, Bl.monoR_eqv _, trivial⟩
    case hR0 => exact Bl.Kq.drew _
    case hend =>
      intro u w1 hext hJ hend
      simp only [Bl.EndE, List.getElem?_cons_succ, List.getElem?_cons_zero, Option.bind_some, List.getD_cons_succ, List.getD_cons_zero, Bl.eqv, true_and] at hend
      simp only [Bl.fillAct, List.setIfInBounds_toArray, List.set_cons_succ, List.set_cons_zero, List.drop_succ_cons, List.drop_zero, hend]
      have hr := Bl.HJ.got hJ rfl
      have q1 := hr.cell (List.getElem?_eq_getElem (by rw [List.length_set]; exact Hl1.out.2))
      have f1 := hr.fz (j := 2) (by rw [List.length_set]; exact Hl1.out.2)
      have HR4 : Hid (Bl.Pk (w1.setCell ⟨g, 2, none⟩ (.slice pb2 nb2 cb2)) N1 3 (.slice (some ⟨g, 0, none⟩) n cap) n (Bl.cellsR Bl.cS (Bl.swL L i))) := Bl.hid (by rw [← HSx.out]; exact hr.put (by rw [List.length_set]; exact Hl1.out.2) _)
      have HK4 : Hid (Bl.Kq (fun k => k = g) W1 (w1.setCell ⟨g, 2, none⟩ (.slice pb2 nb2 cb2))) := Bl.hid (HK2.out.trans (hext.setCell (Q := fun k => k = g) ⟨g, 2, none⟩ rfl _))
      clear hext hJ hend hr
      go_wp2_with fail
      go_end0
      have hpl : (Bl.swL L i).map Bl.plS = Bl.bendS 3 i y l.shown := by
        rw [HSp.out, HA1.out.sl]
        unfold Bl.bendS
        rw [if_neg (by decide), if_neg (by decide), if_pos rfl]
      have hlt := HA1.out.fin (w' := w1.setCell ⟨g, 2, none⟩ (.slice pb2 nb2 cb2)) (vs2 := .slice (some ⟨g, 0, none⟩) n cap) (L2 := Bl.swL L i) (fun b h1 h2 h3 => HK4.out.block b h3 (by have := HX.out; omega)) (by
        rw [Bl.swL_len, ← Hn.out]
        exact Bl.RdsF.of_rds HR4.out.rds fun b hb _ => by have := (HR4.out.block b hb).1; have := HX.out; omega) (fun x hx => Bl.stab_okF _ _ _ _ _ (HSo.out x hx) fun b hb hl => ⟨by have := HX.out; omega, HK4.out.block b hl (by have := HX.out; omega)⟩) hpl
      exact ⟨rfl, .slice (some ⟨g, 0, none⟩) n cap, _, by rw [HBd.out]; exact HK4.out.box (by have := HX.out; omega) HB1.out, by rw [HBd.out]; exact hlt, (Bl.Kq.of_ext HE1.out).trans (HK4.out.mono fun k hk q => .inr (by have := HX.out; omega))⟩
    case hJ0 => exact Bl.HJ.start (HR2.out.kept (fun _ _ => rfl) (Nat.le_refl _))
  case hJ0 => exact Bl.HJ.start (HRw.out.kept (fun _ _ => rfl) (Nat.le_refl _))
end Go.Proofs.YtmmolapkddbibaaDoor

/- Texts that stood apart, in one: FoeS4, FoeS5, FoeSo, Foe8. -/
import Derived.Test.YtmmolapkddbibaaDoorFo1
import Derived.Test.YtmmolapkddbibaaDoorFo0
import Derived.Test.YtmmolapkddbibaaDoorFoSa
/- Walk of Trick.shown. -/
namespace Go.Proofs.YtmmolapkddbibaaDoor
open Go Go.RowKit Go.Proofs

set_option maxRecDepth 100000 in
set_option maxHeartbeats 8000000 in
theorem tshown4 (at' y : Int) (P B N1 N2 N3 N4 N5 : Nat) (l : Bl.LT) (vp vs vb : Value) (L : List Bl.Sv) (M : List Bl.Bv) (w : World) (hB : Bl.BoxC w P (Bl.cL l vp vs vb)) (hA : Bl.ApV w B N1 N2 N3 N4 N5 l vp vs vb L M) (hP : P < B) (hn : L.length ≤ 30) (hs : ∀ x ∈ L, x.2.1.2.length ≤ 100) (h4 : l.kind = 4) (h0 : 0 < L.length) :
    Calls Tryd.prog 30 #[.agg #[.int .i64 4, .int .i64 at', .int .i64 y], .pointer (some ⟨P, 0, none⟩)] w fun e w' => Bl.ShR 4 at' y l vp vb P B w e w' := by
  obtain ⟨o1, o2, o3, o4, o5, o6⟩ := hA.ords
  have hls : l.shown.length = L.length := by rw [← hA.sl, List.length_map]
  obtain ⟨i, hi, e1, e2⟩ := Bl.emod_nat at' h0
  have HBd : Hid (Bl.bendA 4 at' y l = { l with shown := Bl.bendS 4 i y l.shown }) := Bl.hid (by
    unfold Bl.bendA; rw [if_pos ⟨h4, by rw [hls]; exact h0⟩, hls, e2])
  obtain ⟨g, cap, hvs, hg1, hg2, hg3, hg4, hrg⟩ := hA.sh.1.form h0
  subst hvs
  have hgN := hA.sh.2 g rfl
  obtain ⟨n, hn'⟩ : ∃ n, n = L.length := ⟨_, rfl⟩
  have Hn := Bl.hid hn'
  rw [← hn'] at hB hA hn h0 hi e1
  obtain ⟨D, hD⟩ : ∃ D, D = w.heap.size := ⟨_, rfl⟩
  obtain ⟨W1, hW1⟩ : ∃ W, W = w.alloc (.cells #[.int .i64 4, .int .i64 at', .int .i64 y] 28) := ⟨_, rfl⟩
  have hE1 : Bl.Ext w W1 := by rw [hW1]; exact Bl.ext_alloc _ _
  have hBD : Bl.BoxC W1 D [.int .i64 4, .int .i64 at', .int .i64 y] := by rw [hW1, hD]; exact Bl.BoxC.box (cs := [.int .i64 4, .int .i64 at', .int .i64 y]) w 28 (fun q => by cases q)
  have HE1 := Bl.hid hE1
  have HB1 := Bl.hid (hB.ext hE1)
  have HA1 := Bl.hid (hA.kept (w' := W1) (fun b h1 h2 => hE1.block b h2) hE1.size (Nat.le_refl B))
  have HX : Hid (P < B ∧ B ≤ N1 ∧ N1 ≤ g ∧ g < N2 ∧ N2 ≤ N3 ∧ N3 ≤ N4 ∧ N4 ≤ N5 ∧ N5 ≤ w.heap.size ∧ g < W1.heap.size ∧ D < W1.heap.size ∧ w.heap.size = D ∧ w.heap.size ≤ W1.heap.size ∧ i < n ∧ n ≤ 30 ∧ n ≤ cap ∧ cap ≤ maxLen) := Bl.hid ⟨hP, o1, hg1, hgN, o3, o4, o5, o6, by have := hE1.size; omega, hBD.lt, hD.symm, hE1.size, hi, hn, by rw [hn']; exact hg3, hg4⟩
  have HQ : Hid (∀ w2, Bl.Kq (fun k => k = g) W1 w2 → w2.cell? ⟨P, 4, none⟩ = some (.slice (some ⟨g, 0, none⟩) n cap) ∧ w2.cell? ⟨P, 0, none⟩ = some (.int .i64 4) ∧ w2.cell? ⟨D, 0, none⟩ = some (.int .i64 4) ∧ w2.cell? ⟨D, 2, none⟩ = some (.int .i64 y)) := Bl.hid fun w2 hk => by
    have h1 := hk.box (by have := HX.out; omega) HB1.out
    have h2 := hk.box (by have := HX.out; omega) hBD
    exact ⟨h1.cell (i := 4) rfl, by rw [← h4]; exact h1.cell (i := 0) rfl, h2.cell (i := 0) rfl, h2.cell (i := 2) rfl⟩
  have HR := Bl.hid (rest_any at' n W1 (by omega) (by omega))
  rw [e1] at HR
  obtain ⟨q4, q0, qd0, qd2⟩ := HQ.out W1 (Bl.Kq.refl W1)
  have qd1 := hBD.cell (i := 1) rfl
  have HBD := Bl.hid hBD
  have Hs := Bl.hid hs
  have hi0 : (0 : Int) ≤ (i : Int) := by omega
  have hi1 : (i : Int) < (n : Int) := by omega
  have hn1 : (0 : Int) < (n : Int) := by omega
  have hn2 : ¬ ((n : Int) = 0) := by omega
  have hn3 : ¬ (n = 0) := by omega
  have hn4 : (n : Int) ≤ 30 := by omega
  have HgetL : Hid (∀ j, j < 3 → (Bl.cellsR Bl.cS L)[i * 3 + j]? = (Bl.cS (L.getD i Bl.s0))[j]?) := Bl.hid fun j hj => Bl.cellsR_get Bl.cS_len Bl.s0 j hj L i (by rw [← hn']; exact hi)
  have HRw : Hid (Bl.Pk W1 N1 3 (.slice (some ⟨g, 0, none⟩) n cap) n (Bl.cellsR Bl.cS L)) := Bl.hid (by have h := HA1.out.sh.1; rw [← hn'] at h; exact h)
  have Hxl : Hid ((Bl.cellsR Bl.cS L).length = n * 3) := Bl.hid (by rw [Bl.cellsS_len, ← hn'])
  have HpS : Hid (Bl.plS (L.getD i Bl.s0) = l.shown.getD i Bl.h0) := Bl.hid (by rw [← Bl.plS_getD, HA1.out.sl])
  clear hB hA hE1 hBD hls hn' hrg hg1 hg2 hg3 hg4 hgN e1 e2 o1 o2 o3 o4 o5 o6 hs hP hn hi h0
  go_enter Tryd.func30, Tryd.ntmps30
  go_wp2_with (with_reducible refine Bl.stop_load (ty := 23) ?_)
  refine Bl.go_on ?_
  rw [← hW1, ← hD]
  clear hW1 hD
  go_wp2_with fail
  refine HR.out.mono ?_
  rintro e w2 ⟨rfl, hw2⟩
  subst hw2
  by_cases hn5 : 1 < n
  · have hn6 : (1 : Int) < (n : Int) := by omega
    obtain ⟨m, hm⟩ : ∃ m, n = i + 1 + m := ⟨n - (i + 1), by have := HX.out; omega⟩
    have hone : ∀ c ∈ Bl.cellsR Bl.cS L, c.oneCell' = true := Bl.cellsR_cell fun x hx => Bl.cS_one (HA1.out.okF x hx).ok
    have HDl := Bl.hid (del_any g cap n m N1 i L W1 HRw.out Hn.out.symm hm (by have := HX.out; omega) hone)
    have Hm := Bl.hid hm
    have Hn5 := Bl.hid hn5
    clear hm hone hn5
    go_wp2_with fail
    refine HDl.out.mono ?_
    rintro e w2 ⟨rfl, hrg, hKg⟩
    have HRg := Bl.hid hrg
    have HKg := Bl.hid hKg
    have HB2 := Bl.hid (hKg.box (by have := HX.out; omega) HB1.out)
    have q24 := HB2.out.cell (i := 4) (v := .slice (some ⟨g, 0, none⟩) n cap) rfl
    have f24 := HB2.out.fz (i := 4) (show 4 < 9 by decide)
    clear hrg hKg q4 q0 qd0 qd1 qd2
    go_wp2_with fail
    go_end0
    have hB3 : Bl.BoxC (w2.setCell ⟨P, 4, none⟩ (.slice (some ⟨g, 0, none⟩) (i + m) cap)) P (Bl.cL l vp (.slice (some ⟨g, 0, none⟩) (i + m) cap) vb) := HB2.out.put (i := 4) (show 4 < 9 by decide) _
    have hKp : Bl.Kq (fun k => k = P) w2 (w2.setCell ⟨P, 4, none⟩ (.slice (some ⟨g, 0, none⟩) (i + m) cap)) := (Bl.Kq.refl w2).setCell (Q := fun k => k = P) ⟨P, 4, none⟩ rfl _
    have hel : (L.eraseIdx i).length = i + m := by rw [List.length_eraseIdx_of_lt (by rw [← Hn.out]; have := HX.out; omega), ← Hn.out]; have := Hm.out; omega
    have hpl : (L.eraseIdx i).map Bl.plS = Bl.bendS 4 i y l.shown := by
      unfold Bl.bendS
      rw [if_neg (by decide), if_neg (by decide), if_neg (by decide), if_pos rfl, if_pos (by rw [← HA1.out.sl, List.length_map, ← Hn.out]; exact Hn5.out), ← HA1.out.sl]
      rw [List.eraseIdx_eq_take_drop_succ, List.eraseIdx_eq_take_drop_succ, List.map_append, List.map_take, List.map_drop]
    have hk2 : ∀ b, b ≠ g → b ≠ P → b < W1.heap.size → (w2.setCell ⟨P, 4, none⟩ (.slice (some ⟨g, 0, none⟩) (i + m) cap)).heap[b]? = W1.heap[b]? := fun b h1 h2 h3 => (hKp.block b (Nat.lt_of_lt_of_le h3 HKg.out.size) h2).trans (HKg.out.block b h3 h1)
    have hlt := HA1.out.fin (w' := w2.setCell ⟨P, 4, none⟩ (.slice (some ⟨g, 0, none⟩) (i + m) cap)) (vs2 := .slice (some ⟨g, 0, none⟩) (i + m) cap) (L2 := L.eraseIdx i) (fun b h1 h2 h3 => hk2 b (by have := HX.out; omega) (by have := HX.out; omega) h3) (by
      rw [hel]
      exact .inr ⟨g, 0, cap, rfl, by have := HX.out; have := Hm.out; omega, by have := HX.out; omega, fun j u hu => hKp.cell (by have := HX.out; omega) (HRg.out j u hu), fun _ => by have := HX.out; omega⟩) (fun x hx => Bl.stab_okF _ _ _ _ _ (HA1.out.okF x (List.mem_of_mem_eraseIdx hx)) fun b hb hl => ⟨by have := HX.out; omega, hk2 b (by have := HX.out; omega) (by have := HX.out; omega) hl⟩) hpl
    exact ⟨rfl, .slice (some ⟨g, 0, none⟩) (i + m) cap, _, by rw [HBd.out]; exact hB3, by rw [HBd.out]; exact hlt, (Bl.Kq.of_ext HE1.out).trans ((HKg.out.mono fun k hk q => .inr (by have := HX.out; omega)).trans (hKp.mono fun k hk q => .inl q))⟩
  · have hn6 : ¬ ((1 : Int) < (n : Int)) := by omega
    have HS : Hid (Bl.bendS 4 i y l.shown = l.shown) := Bl.hid (by
      unfold Bl.bendS
      rw [if_neg (by decide), if_neg (by decide), if_neg (by decide), if_pos rfl, if_neg (by rw [← HA1.out.sl, List.length_map, ← Hn.out]; exact hn5)])
    go_wp2_with fail
    go_end0
    have hA9 : Bl.bendA 4 at' y l = l := by rw [HBd.out, HS.out]
    refine ⟨rfl, .slice (some ⟨g, 0, none⟩) n cap, L, by rw [hA9]; exact HB1.out, by rw [hA9]; exact HA1.out.ltf, Bl.Kq.of_ext HE1.out⟩
end Go.Proofs.YtmmolapkddbibaaDoor

/- Walk of Trick.shown. -/
namespace Go.Proofs.YtmmolapkddbibaaDoor
open Go Go.RowKit Go.Proofs

set_option maxRecDepth 100000 in
set_option maxHeartbeats 8000000 in
theorem tshown5 (at' y : Int) (P B N1 N2 N3 N4 N5 : Nat) (l : Bl.LT) (vp vs vb : Value) (L : List Bl.Sv) (M : List Bl.Bv) (w : World) (hB : Bl.BoxC w P (Bl.cL l vp vs vb)) (hA : Bl.ApV w B N1 N2 N3 N4 N5 l vp vs vb L M) (hP : P < B) (hn : L.length ≤ 30) (hs : ∀ x ∈ L, x.2.1.2.length ≤ 100) (h4 : l.kind = 4) (h0 : 0 < L.length) :
    Calls Tryd.prog 30 #[.agg #[.int .i64 5, .int .i64 at', .int .i64 y], .pointer (some ⟨P, 0, none⟩)] w fun e w' => Bl.ShR 5 at' y l vp vb P B w e w' := by
  obtain ⟨o1, o2, o3, o4, o5, o6⟩ := hA.ords
  have hls : l.shown.length = L.length := by rw [← hA.sl, List.length_map]
  obtain ⟨i, hi, e1, e2⟩ := Bl.emod_nat at' h0
  have HBd : Hid (Bl.bendA 5 at' y l = { l with shown := Bl.bendS 5 i y l.shown }) := Bl.hid (by
    unfold Bl.bendA; rw [if_pos ⟨h4, by rw [hls]; exact h0⟩, hls, e2])
  obtain ⟨g, cap, hvs, hg1, hg2, hg3, hg4, hrg⟩ := hA.sh.1.form h0
  subst hvs
  have hgN := hA.sh.2 g rfl
  obtain ⟨n, hn'⟩ : ∃ n, n = L.length := ⟨_, rfl⟩
  have Hn := Bl.hid hn'
  rw [← hn'] at hB hA hn h0 hi e1
  obtain ⟨D, hD⟩ : ∃ D, D = w.heap.size := ⟨_, rfl⟩
  obtain ⟨W1, hW1⟩ : ∃ W, W = w.alloc (.cells #[.int .i64 5, .int .i64 at', .int .i64 y] 28) := ⟨_, rfl⟩
  have hE1 : Bl.Ext w W1 := by rw [hW1]; exact Bl.ext_alloc _ _
  have hBD : Bl.BoxC W1 D [.int .i64 5, .int .i64 at', .int .i64 y] := by rw [hW1, hD]; exact Bl.BoxC.box (cs := [.int .i64 5, .int .i64 at', .int .i64 y]) w 28 (fun q => by cases q)
  have HE1 := Bl.hid hE1
  have HB1 := Bl.hid (hB.ext hE1)
  have HA1 := Bl.hid (hA.kept (w' := W1) (fun b h1 h2 => hE1.block b h2) hE1.size (Nat.le_refl B))
  have HX : Hid (P < B ∧ B ≤ N1 ∧ N1 ≤ g ∧ g < N2 ∧ N2 ≤ N3 ∧ N3 ≤ N4 ∧ N4 ≤ N5 ∧ N5 ≤ w.heap.size ∧ g < W1.heap.size ∧ D < W1.heap.size ∧ w.heap.size = D ∧ w.heap.size ≤ W1.heap.size ∧ i < n ∧ n ≤ 30 ∧ n ≤ cap ∧ cap ≤ maxLen) := Bl.hid ⟨hP, o1, hg1, hgN, o3, o4, o5, o6, by have := hE1.size; omega, hBD.lt, hD.symm, hE1.size, hi, hn, by rw [hn']; exact hg3, hg4⟩
  have HQ : Hid (∀ w2, Bl.Kq (fun k => k = g) W1 w2 → w2.cell? ⟨P, 4, none⟩ = some (.slice (some ⟨g, 0, none⟩) n cap) ∧ w2.cell? ⟨P, 0, none⟩ = some (.int .i64 4) ∧ w2.cell? ⟨D, 0, none⟩ = some (.int .i64 5) ∧ w2.cell? ⟨D, 2, none⟩ = some (.int .i64 y)) := Bl.hid fun w2 hk => by
    have h1 := hk.box (by have := HX.out; omega) HB1.out
    have h2 := hk.box (by have := HX.out; omega) hBD
    exact ⟨h1.cell (i := 4) rfl, by rw [← h4]; exact h1.cell (i := 0) rfl, h2.cell (i := 0) rfl, h2.cell (i := 2) rfl⟩
  have HR := Bl.hid (rest_any at' n W1 (by omega) (by omega))
  rw [e1] at HR
  obtain ⟨q4, q0, qd0, qd2⟩ := HQ.out W1 (Bl.Kq.refl W1)
  have qd1 := hBD.cell (i := 1) rfl
  have HBD := Bl.hid hBD
  have Hs := Bl.hid hs
  have hi0 : (0 : Int) ≤ (i : Int) := by omega
  have hi1 : (i : Int) < (n : Int) := by omega
  have hn1 : (0 : Int) < (n : Int) := by omega
  have hn2 : ¬ ((n : Int) = 0) := by omega
  have hn3 : ¬ (n = 0) := by omega
  have hn4 : (n : Int) ≤ 30 := by omega
  have HgetL : Hid (∀ j, j < 3 → (Bl.cellsR Bl.cS L)[i * 3 + j]? = (Bl.cS (L.getD i Bl.s0))[j]?) := Bl.hid fun j hj => Bl.cellsR_get Bl.cS_len Bl.s0 j hj L i (by rw [← hn']; exact hi)
  have HRw : Hid (Bl.Pk W1 N1 3 (.slice (some ⟨g, 0, none⟩) n cap) n (Bl.cellsR Bl.cS L)) := Bl.hid (by have h := HA1.out.sh.1; rw [← hn'] at h; exact h)
  have Hxl : Hid ((Bl.cellsR Bl.cS L).length = n * 3) := Bl.hid (by rw [Bl.cellsS_len, ← hn'])
  have HpS : Hid (Bl.plS (L.getD i Bl.s0) = l.shown.getD i Bl.h0) := Bl.hid (by rw [← Bl.plS_getD, HA1.out.sl])
  clear hB hA hE1 hBD hls hn' hrg hg1 hg2 hg3 hg4 hgN e1 e2 o1 o2 o3 o4 o5 o6 hs hP hn hi h0
  go_enter Tryd.func30, Tryd.ntmps30
  go_wp2_with (with_reducible refine Bl.stop_load (ty := 23) ?_)
  refine Bl.go_on ?_
  rw [← hW1, ← hD]
  clear hW1 hD
  go_wp2_with fail
  refine HR.out.mono ?_
  rintro e w2 ⟨rfl, hw2⟩
  subst hw2
  have HR5 := Bl.hid (rest_any y 512 W1 (by decide) (by decide))
  have HL2 : Hid ((Bl.cellsR Bl.cS L).set (i * 3 + 0) (.int .i64 (y % 512)) = Bl.cellsR Bl.cS (L.set i (y % 512, (L.getD i Bl.s0).2))) := Bl.hid (Bl.cellsR_set Bl.cS_len Bl.s0 (y % 512, (L.getD i Bl.s0).2) _ 0 (by decide) L i (by rw [← Hn.out]; have := HX.out; omega) rfl)
  have hq : ∃ z, W1.cell? ⟨g, i * 3, none⟩ = some z := ⟨_, HRw.out.cell (HgetL.out 0 (by decide))⟩
  obtain ⟨z0, q30⟩ := hq
  have f30 := HRw.out.fz (j := i * 3) (by rw [Hxl.out]; have := HX.out; omega)
  go_wp2_with fail
  refine HR5.out.mono ?_
  rintro e w2 ⟨rfl, hw2⟩
  subst hw2
  go_wp2_with fail
  go_end0
  have hKg : Bl.Kq (fun k => k = g) W1 (W1.setCell ⟨g, i * 3, none⟩ (.int .i64 (y % 512))) := (Bl.Kq.refl W1).setCell (Q := fun k => k = g) ⟨g, i * 3, none⟩ rfl _
  have hrow := HRw.out.put (j := i * 3) (by rw [Hxl.out]; have := HX.out; omega) (.int .i64 (y % 512))
  rw [show i * 3 = i * 3 + 0 from rfl, HL2.out] at hrow
  have hpl : (L.set i (y % 512, (L.getD i Bl.s0).2)).map Bl.plS = Bl.bendS 5 i y l.shown := by
    rw [List.map_set, HA1.out.sl]
    unfold Bl.bendS
    rw [if_neg (by decide), if_neg (by decide), if_neg (by decide), if_neg (by decide), if_pos rfl, ← HpS.out]
    rfl
  have hlt := HA1.out.fin (w' := W1.setCell ⟨g, i * 3, none⟩ (.int .i64 (y % 512))) (vs2 := .slice (some ⟨g, 0, none⟩) n cap) (L2 := L.set i (y % 512, (L.getD i Bl.s0).2)) (fun b h1 h2 h3 => hKg.block b h3 (by have := HX.out; omega)) (by
    rw [List.length_set, ← Hn.out]
    exact Bl.RdsF.of_rds hrow.rds fun b hb _ => by have := (hrow.block b hb).1; have := HX.out; omega) (fun x hx => by
    rcases List.mem_or_eq_of_mem_set hx with hx | rfl
    · exact Bl.stab_okF _ _ _ _ _ (HA1.out.okF x hx) fun b hb hl => ⟨by have := HX.out; omega, hKg.block b hl (by have := HX.out; omega)⟩
    · have h := Bl.stab_okF _ (fun b => B ≤ b) _ (W1.setCell ⟨g, i * 3, none⟩ (.int .i64 (y % 512))) _ (HA1.out.okF _ (Bl.getD_mem Bl.s0 (i := i) (L := L) (by rw [← Hn.out]; have := HX.out; omega))) fun b hb hl => ⟨by have := HX.out; omega, hKg.block b hl (by have := HX.out; omega)⟩
      exact ⟨h.st, h.bs, h.pa, h.dg⟩) hpl
  exact ⟨rfl, .slice (some ⟨g, 0, none⟩) n cap, _, by rw [HBd.out]; exact hKg.box (by have := HX.out; omega) HB1.out, by rw [HBd.out]; exact hlt, (Bl.Kq.of_ext HE1.out).trans (hKg.mono fun k hk q => .inr (by have := HX.out; omega))⟩
end Go.Proofs.YtmmolapkddbibaaDoor

/- Walk of Trick.shown. -/
namespace Go.Proofs.YtmmolapkddbibaaDoor
open Go Go.RowKit Go.Proofs

set_option maxRecDepth 100000 in
set_option maxHeartbeats 8000000 in
theorem tshowno (k : Int) (at' y : Int) (P B N1 N2 N3 N4 N5 : Nat) (l : Bl.LT) (vp vs vb : Value) (L : List Bl.Sv) (M : List Bl.Bv) (w : World) (hB : Bl.BoxC w P (Bl.cL l vp vs vb)) (hA : Bl.ApV w B N1 N2 N3 N4 N5 l vp vs vb L M) (hP : P < B) (hn : L.length ≤ 30) (hs : ∀ x ∈ L, x.2.1.2.length ≤ 100) (h4 : l.kind = 4) (h0 : 0 < L.length) (hk1 : ¬ k = 1) (hk2 : ¬ k = 2) (hk3 : ¬ k = 3) (hk4 : ¬ k = 4) (hk5 : ¬ k = 5) :
    Calls Tryd.prog 30 #[.agg #[.int .i64 k, .int .i64 at', .int .i64 y], .pointer (some ⟨P, 0, none⟩)] w fun e w' => Bl.ShR k at' y l vp vb P B w e w' := by
  obtain ⟨o1, o2, o3, o4, o5, o6⟩ := hA.ords
  have hls : l.shown.length = L.length := by rw [← hA.sl, List.length_map]
  obtain ⟨i, hi, e1, e2⟩ := Bl.emod_nat at' h0
  have HBd : Hid (Bl.bendA k at' y l = { l with shown := Bl.bendS k i y l.shown }) := Bl.hid (by
    unfold Bl.bendA; rw [if_pos ⟨h4, by rw [hls]; exact h0⟩, hls, e2])
  obtain ⟨g, cap, hvs, hg1, hg2, hg3, hg4, hrg⟩ := hA.sh.1.form h0
  subst hvs
  have hgN := hA.sh.2 g rfl
  obtain ⟨n, hn'⟩ : ∃ n, n = L.length := ⟨_, rfl⟩
  have Hn := Bl.hid hn'
  rw [← hn'] at hB hA hn h0 hi e1
  obtain ⟨D, hD⟩ : ∃ D, D = w.heap.size := ⟨_, rfl⟩
  obtain ⟨W1, hW1⟩ : ∃ W, W = w.alloc (.cells #[.int .i64 k, .int .i64 at', .int .i64 y] 28) := ⟨_, rfl⟩
  have hE1 : Bl.Ext w W1 := by rw [hW1]; exact Bl.ext_alloc _ _
  have hBD : Bl.BoxC W1 D [.int .i64 k, .int .i64 at', .int .i64 y] := by rw [hW1, hD]; exact Bl.BoxC.box (cs := [.int .i64 k, .int .i64 at', .int .i64 y]) w 28 (fun q => by cases q)
  have HE1 := Bl.hid hE1
  have HB1 := Bl.hid (hB.ext hE1)
  have HA1 := Bl.hid (hA.kept (w' := W1) (fun b h1 h2 => hE1.block b h2) hE1.size (Nat.le_refl B))
  have HX : Hid (P < B ∧ B ≤ N1 ∧ N1 ≤ g ∧ g < N2 ∧ N2 ≤ N3 ∧ N3 ≤ N4 ∧ N4 ≤ N5 ∧ N5 ≤ w.heap.size ∧ g < W1.heap.size ∧ D < W1.heap.size ∧ w.heap.size = D ∧ w.heap.size ≤ W1.heap.size ∧ i < n ∧ n ≤ 30 ∧ n ≤ cap ∧ cap ≤ maxLen) := Bl.hid ⟨hP, o1, hg1, hgN, o3, o4, o5, o6, by have := hE1.size; omega, hBD.lt, hD.symm, hE1.size, hi, hn, by rw [hn']; exact hg3, hg4⟩
  have HQ : Hid (∀ w2, Bl.Kq (fun k => k = g) W1 w2 → w2.cell? ⟨P, 4, none⟩ = some (.slice (some ⟨g, 0, none⟩) n cap) ∧ w2.cell? ⟨P, 0, none⟩ = some (.int .i64 4) ∧ w2.cell? ⟨D, 0, none⟩ = some (.int .i64 k) ∧ w2.cell? ⟨D, 2, none⟩ = some (.int .i64 y)) := Bl.hid fun w2 hk => by
    have h1 := hk.box (by have := HX.out; omega) HB1.out
    have h2 := hk.box (by have := HX.out; omega) hBD
    exact ⟨h1.cell (i := 4) rfl, by rw [← h4]; exact h1.cell (i := 0) rfl, h2.cell (i := 0) rfl, h2.cell (i := 2) rfl⟩
  have HR := Bl.hid (rest_any at' n W1 (by omega) (by omega))
  rw [e1] at HR
  obtain ⟨q4, q0, qd0, qd2⟩ := HQ.out W1 (Bl.Kq.refl W1)
  have qd1 := hBD.cell (i := 1) rfl
  have HBD := Bl.hid hBD
  have Hs := Bl.hid hs
  have hi0 : (0 : Int) ≤ (i : Int) := by omega
  have hi1 : (i : Int) < (n : Int) := by omega
  have hn1 : (0 : Int) < (n : Int) := by omega
  have hn2 : ¬ ((n : Int) = 0) := by omega
  have hn3 : ¬ (n = 0) := by omega
  have hn4 : (n : Int) ≤ 30 := by omega
  have HgetL : Hid (∀ j, j < 3 → (Bl.cellsR Bl.cS L)[i * 3 + j]? = (Bl.cS (L.getD i Bl.s0))[j]?) := Bl.hid fun j hj => Bl.cellsR_get Bl.cS_len Bl.s0 j hj L i (by rw [← hn']; exact hi)
  have HRw : Hid (Bl.Pk W1 N1 3 (.slice (some ⟨g, 0, none⟩) n cap) n (Bl.cellsR Bl.cS L)) := Bl.hid (by have h := HA1.out.sh.1; rw [← hn'] at h; exact h)
  have Hxl : Hid ((Bl.cellsR Bl.cS L).length = n * 3) := Bl.hid (by rw [Bl.cellsS_len, ← hn'])
  have HpS : Hid (Bl.plS (L.getD i Bl.s0) = l.shown.getD i Bl.h0) := Bl.hid (by rw [← Bl.plS_getD, HA1.out.sl])
  clear hB hA hE1 hBD hls hn' hrg hg1 hg2 hg3 hg4 hgN e1 e2 o1 o2 o3 o4 o5 o6 hs hP hn hi h0
  go_enter Tryd.func30, Tryd.ntmps30
  go_wp2_with (with_reducible refine Bl.stop_load (ty := 23) ?_)
  refine Bl.go_on ?_
  rw [← hW1, ← hD]
  clear hW1 hD
  go_wp2_with fail
  refine HR.out.mono ?_
  rintro e w2 ⟨rfl, hw2⟩
  subst hw2
  have HS : Hid (Bl.bendS k i y l.shown = l.shown) := Bl.hid (by
    unfold Bl.bendS
    rw [if_neg hk1, if_neg hk2, if_neg hk3, if_neg hk4, if_neg hk5])

  go_wp2_with fail
  go_end0
  have hA9 : Bl.bendA k at' y l = l := by rw [HBd.out, HS.out]
  refine ⟨rfl, .slice (some ⟨g, 0, none⟩) n cap, L, by rw [hA9]; exact HB1.out, by rw [hA9]; exact HA1.out.ltf, Bl.Kq.of_ext HE1.out⟩
end Go.Proofs.YtmmolapkddbibaaDoor

/- Walks: Trick.shown of all letters; shelf.Refusal. -/
namespace Go.Proofs.Bl
open Go Go.RowKit
theorem bendA_far {k at' y : Int} {l : LT} (h : ¬ (l.kind = 4 ∧ 0 < l.shown.length)) : bendA k at' y l = l := by unfold bendA; rw [if_neg h]
theorem bendA_other {k at' y : Int} {l : LT} (h1 : ¬ k = 1) (h2 : ¬ k = 2) (h3 : ¬ k = 3) (h4 : ¬ k = 4) (h5 : ¬ k = 5) : bendA k at' y l = l := by
  unfold bendA bendS
  rw [if_neg h1, if_neg h2, if_neg h3, if_neg h4, if_neg h5]
  split <;> rfl
end Go.Proofs.Bl
namespace Go.Proofs.YtmmolapkddbibaaDoor
open Go Go.RowKit Go.Proofs

set_option maxRecDepth 100000 in
set_option maxHeartbeats 1000000 in
theorem tshown_far (k at' y : Int) (P n : Nat) (p : Option Addr) (c : Nat) (l : Bl.LT) (vp vb : Value) (w : World) (hB : Bl.BoxC w P (Bl.cL l vp (.slice p n c) vb)) (h4 : ¬ l.kind = 4 ∨ (l.kind = 4 ∧ n = 0)) :
    Calls Tryd.prog 30 #[.agg #[.int .i64 k, .int .i64 at', .int .i64 y], .pointer (some ⟨P, 0, none⟩)] w fun e w' => e = .returned (.tuple #[]) ∧ Bl.Ext w w' := by
  obtain ⟨W1, hW1⟩ : ∃ W, W = w.alloc (.cells #[.int .i64 k, .int .i64 at', .int .i64 y] 28) := ⟨_, rfl⟩
  have hE1 : Bl.Ext w W1 := by rw [hW1]; exact Bl.ext_alloc _ _
  have HE1 := Bl.hid hE1
  have hB1 := hB.ext hE1
  have q4 := hB1.cell (i := 4) (v := .slice p n c) rfl
  have q0 := hB1.cell (i := 0) (v := .int .i64 l.kind) rfl
  obtain ⟨kd, hkd⟩ : ∃ z, z = l.kind := ⟨_, rfl⟩
  rw [← hkd] at q0 h4
  clear hB hB1 hE1 hkd
  rcases h4 with h4 | ⟨h4, h5⟩
  · go_enter Tryd.func30, Tryd.ntmps30
    go_wp2_with (with_reducible refine Bl.stop_load (ty := 23) ?_)
    refine Bl.go_on ?_
    rw [← hW1]
    clear hW1
    go_wp2_with fail
    (try simp only [Exit.inBlock, Exit.then])
    refine bodyPost_ret (results_none rfl _ _ _) rfl ?_
    exact ⟨rfl, HE1.out⟩
  · subst h4 h5
    go_enter Tryd.func30, Tryd.ntmps30
    go_wp2_with (with_reducible refine Bl.stop_load (ty := 23) ?_)
    refine Bl.go_on ?_
    rw [← hW1]
    clear hW1
    go_wp2_with fail
    (try simp only [Exit.inBlock, Exit.then])
    refine bodyPost_ret (results_none rfl _ _ _) rfl ?_
    exact ⟨rfl, HE1.out⟩

theorem tshown_any (k at' y : Int) (P B N1 N2 N3 N4 N5 : Nat) (l : Bl.LT) (vp vs vb : Value) (L : List Bl.Sv) (M : List Bl.Bv) (w : World) (hB : Bl.BoxC w P (Bl.cL l vp vs vb)) (hA : Bl.ApV w B N1 N2 N3 N4 N5 l vp vs vb L M) (hP : P < B) (hn : L.length ≤ 30) (hs : ∀ x ∈ L, x.2.1.2.length ≤ 100) :
    Calls Tryd.prog 30 #[.agg #[.int .i64 k, .int .i64 at', .int .i64 y], .pointer (some ⟨P, 0, none⟩)] w fun e w' => Bl.ShR k at' y l vp vb P B w e w' := by
  have hls : l.shown.length = L.length := by rw [← hA.sl, List.length_map]
  by_cases hc : l.kind = 4 ∧ 0 < L.length
  · obtain ⟨h4, h0⟩ := hc
    by_cases h1 : k = 1
    · subst h1; exact tshown1 at' y P B N1 N2 N3 N4 N5 l vp vs vb L M w hB hA hP hn hs h4 h0
    by_cases h2 : k = 2
    · subst h2; exact tshown2 at' y P B N1 N2 N3 N4 N5 l vp vs vb L M w hB hA hP hn hs h4 h0
    by_cases h3 : k = 3
    · subst h3; exact tshown3 at' y P B N1 N2 N3 N4 N5 l vp vs vb L M w hB hA hP hn hs h4 h0
    by_cases h5 : k = 4
    · subst h5; exact tshown4 at' y P B N1 N2 N3 N4 N5 l vp vs vb L M w hB hA hP hn hs h4 h0
    by_cases h6 : k = 5
    · subst h6; exact tshown5 at' y P B N1 N2 N3 N4 N5 l vp vs vb L M w hB hA hP hn hs h4 h0
    exact tshowno k at' y P B N1 N2 N3 N4 N5 l vp vs vb L M w hB hA hP hn hs h4 h0 h1 h2 h3 h5 h6
  · obtain ⟨p, c, hf, _, _⟩ := hA.sh.1.rds.form
    subst hf
    refine (tshown_far k at' y P L.length p c l vp vb w hB (by
      by_cases h4 : l.kind = 4
      · exact .inr ⟨h4, by have : ¬ 0 < L.length := fun q => hc ⟨h4, q⟩; omega⟩
      · exact .inl h4)).mono ?_
    rintro e w' ⟨rfl, hE⟩
    have hb : Bl.bendA k at' y l = l := Bl.bendA_far (by rw [hls]; exact hc)
    exact ⟨rfl, _, L, by rw [hb]; exact hB.ext hE, by rw [hb]; exact hA.ltf.kept fun b hb hl => ⟨hb, hE.block b hl⟩, Bl.Kq.of_ext hE⟩

set_option maxRecDepth 100000 in
set_option maxHeartbeats 1000000 in
theorem refusal_any (code : Int) (l : Bl.LT) (vp vs vb : Value) (w : World) :
    Calls Tryd.prog 31 #[.agg (Bl.cL l vp vs vb).toArray, .int .i64 code] w fun e w' => e = .returned (.agg (Bl.cL ⟨7, l.id, l.obj, [], [], 0, 0, [], code⟩ (.slice none 0 0) (.slice none 0 0) (.slice none 0 0)).toArray) ∧ Bl.Ext w w' := by
  obtain ⟨W2, hW2⟩ : ∃ W, W = (w.alloc (.cells (Bl.cL l vp vs vb).toArray 26)).alloc (.cells Bl.zL 26) := ⟨_, rfl⟩
  have hs1 : (w.alloc (.cells (Bl.cL l vp vs vb).toArray 26)).heap.size = w.heap.size + 1 := World.size_alloc _ _
  have hE2 : Bl.Ext w W2 := by rw [hW2]; exact (Bl.ext_alloc _ _).trans (Bl.ext_alloc _ _)
  have hB2 : Bl.BoxC W2 w.heap.size (Bl.cL l vp vs vb) := by
    rw [hW2]; exact (Bl.BoxC.box w 26 (Bl.cL_ne _ _ _ _)).ext (Bl.ext_alloc _ _)
  have hBR2 : Bl.BoxC W2 (w.heap.size + 1) Bl.zL.toList := by
    have h := Bl.BoxC.box (cs := Bl.zL.toList) (w.alloc (.cells (Bl.cL l vp vs vb).toArray 26)) 26 (fun q => by cases q)
    rw [hs1] at h
    rw [hW2]; exact h
  have q1 := hB2.cell (i := 1) (v := .int .i64 l.id) rfl
  have q2 := hB2.cell (i := 2) (v := .int .i64 l.obj) rfl
  have Hst := Bl.hid (hBR2.store (P := Tryd.prog) (cs' := Bl.cL ⟨7, l.id, l.obj, [], [], 0, 0, [], code⟩ (.slice none 0 0) (.slice none 0 0) (.slice none 0 0)) rfl (Bl.cL_one ⟨_, _, _, rfl⟩ ⟨_, _, _, rfl⟩ ⟨_, _, _, rfl⟩) (ty := 26) (by kernel_rfl))
  have HB9 := Bl.hid (hBR2.set (cs' := Bl.cL ⟨7, l.id, l.obj, [], [], 0, 0, [], code⟩ (.slice none 0 0) (.slice none 0 0) (.slice none 0 0)) rfl)
  have HE9 : Hid (Bl.Ext w (W2.setCells (w.heap.size + 1) 0 (Bl.cL ⟨7, l.id, l.obj, [], [], 0, 0, [], code⟩ (.slice none 0 0) (.slice none 0 0) (.slice none 0 0)))) := Bl.hid (Bl.below_setCells _ _ _ _ hE2 (Nat.le_succ _))
  unfold Bl.cL at hW2
  clear hs1 hE2 hB2 hBR2
  show Calls Tryd.prog 31 #[.agg #[.int .i64 l.kind, .int .i64 l.id, .int .i64 l.obj, vp, vs, .int .i64 l.frm, .int .i64 l.cnt, vb, .int .i64 l.code], .int .i64 code] w _
  go_enter Tryd.func31, Tryd.ntmps31
  go_wp2_with (with_reducible refine Bl.stop_load (ty := 3) ?_)
  refine Bl.go_on ?_
  rw [← hW2]
  clear hW2
  go_wp2_with (with_reducible refine Bl.stop_store (ty := 26) ?_)
  refine Bl.go_on ?_
  refine Bl.wpL_store0 rfl rfl Hst.out ?_
  go_wp2_with fail
  refine bodyPost_ret (v := .agg (Bl.cL ⟨7, l.id, l.obj, [], [], 0, 0, [], code⟩ (.slice none 0 0) (.slice none 0 0) (.slice none 0 0)).toArray) (Bl.results_cell rfl rfl (HB9.out.loadVar (P := Tryd.prog) Tryd.underlying26 rfl (by kernel_rfl))) rfl ⟨rfl, HE9.out⟩
end Go.Proofs.YtmmolapkddbibaaDoor

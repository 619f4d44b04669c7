/- Texts that stood apart, in one: FoeBa, FoeBb, FoeBc. -/
import Derived.Test.YtmmolapkddbibaaDoorFoSb
import Derived.Test.YtmmolapkddbibaaDoorFoe4
import Derived.Test.YtmmolapkddbibaaDoorLDs
import Derived.Test.YtmmolapkddbibaaDoorLet2b
/- Walk of foe.Bend. -/
namespace Go.Proofs.YtmmolapkddbibaaDoor
open Go Go.RowKit Go.Proofs

set_option maxRecDepth 100000 in
set_option maxHeartbeats 8000000 in
theorem bend2 (at' y : Int) (v : Value) (l : Bl.LT) (w : World) (h : Bl.LtV w v l) (hLg : Bl.LgL l) (hid : -1125899906842624 ≤ l.id ∧ l.id ≤ 1125899906842624) :
    Calls Tryd.prog 10 #[v, .agg #[.int .i64 2, .int .i64 at', .int .i64 y]] w fun e w' => Bl.BeR 2 at' y l w e w' := by
  obtain ⟨cs0, vp0, vs0, vb0, L0, rfl, hc⟩ := h
  obtain rfl := hc.eq
  have HC : Hid (Bl.LtV w (.agg (Bl.cL l vp0 vs0 vb0).toArray) l) := Bl.hid ⟨_, vp0, vs0, vb0, L0, rfl, hc⟩
  have hone0 : ∀ c ∈ Bl.cL l vp0 vs0 vb0, c.oneCell' = true := hc.one
  have HLg := Bl.hid hLg
  have Hid' := Bl.hid hid
  obtain ⟨P, hP⟩ : ∃ z, z = w.heap.size := ⟨_, rfl⟩
  obtain ⟨Q, hQ⟩ : ∃ z, z = w.heap.size + 1 := ⟨_, rfl⟩
  obtain ⟨R, hR⟩ : ∃ z, z = w.heap.size + 1 + 1 := ⟨_, rfl⟩
  obtain ⟨W3, hW3⟩ : ∃ W, W = ((w.alloc (.cells (Bl.cL l vp0 vs0 vb0).toArray 26)).alloc (.cells #[.int .i64 2, .int .i64 at', .int .i64 y] 28)).alloc (.cells Bl.zL 26) := ⟨_, rfl⟩
  have hs1 : (w.alloc (.cells (Bl.cL l vp0 vs0 vb0).toArray 26)).heap.size = w.heap.size + 1 := World.size_alloc _ _
  have hs2 : ((w.alloc (.cells (Bl.cL l vp0 vs0 vb0).toArray 26)).alloc (.cells #[.int .i64 2, .int .i64 at', .int .i64 y] 28)).heap.size = w.heap.size + 1 + 1 := by rw [World.size_alloc, hs1]
  have hE3 : Bl.Ext w W3 := by rw [hW3]; exact ((Bl.ext_alloc _ _).trans (Bl.ext_alloc _ _)).trans (Bl.ext_alloc _ _)
  have hBP : Bl.BoxC W3 P (Bl.cL l vp0 vs0 vb0) := by
    rw [hW3, hP]; exact ((Bl.BoxC.box w 26 (Bl.cL_ne _ _ _ _)).ext (Bl.ext_alloc _ _)).ext (Bl.ext_alloc _ _)
  have hBQ : Bl.BoxC W3 Q [.int .i64 2, .int .i64 at', .int .i64 y] := by
    have h := Bl.BoxC.box (cs := [.int .i64 2, .int .i64 at', .int .i64 y]) (w.alloc (.cells (Bl.cL l vp0 vs0 vb0).toArray 26)) 28 (fun q => by cases q)
    rw [hs1, ← hQ] at h
    rw [hW3]; exact h.ext (Bl.ext_alloc _ _)
  have hBR : Bl.BoxC W3 R Bl.zL.toList := by
    have h := Bl.BoxC.box (cs := Bl.zL.toList) ((w.alloc (.cells (Bl.cL l vp0 vs0 vb0).toArray 26)).alloc (.cells #[.int .i64 2, .int .i64 at', .int .i64 y] 28)) 26 (fun q => by cases q)
    rw [hs2, ← hR] at h
    rw [hW3]; exact h
  have HPQ : Hid (P = w.heap.size ∧ Q = w.heap.size + 1 ∧ R = w.heap.size + 1 + 1 ∧ R < W3.heap.size) := Bl.hid ⟨hP, hQ, hR, hBR.lt⟩
  have HE3 := Bl.hid hE3
  have HBP := Bl.hid hBP
  have HBQ := Bl.hid hBQ
  have HBR := Bl.hid hBR
  have Hl0 := Bl.hid (hBP.load (P := Tryd.prog) Tryd.underlying26 rfl (by kernel_rfl))
  have HAp := Bl.hid (apart_any (.agg (Bl.cL l vp0 vs0 vb0).toArray) l W3 (HC.out.ext hE3) hLg)
  unfold Bl.cL at hW3
  clear hs1 hs2 hE3 hBP hBQ hBR hc hLg hid hone0
  show Calls Tryd.prog 10 #[.agg #[.int .i64 l.kind, .int .i64 l.id, .int .i64 l.obj, vp0, vs0, .int .i64 l.frm, .int .i64 l.cnt, vb0, .int .i64 l.code], .agg #[.int .i64 2, .int .i64 at', .int .i64 y]] w _
  go_enter Tryd.func10, Tryd.ntmps10
  go_wp2_with (with_reducible refine Bl.stop_load (ty := 26) ?_)
  refine Bl.go_on ?_
  rw [← hW3, ← hR, ← hQ, ← hP]
  clear hW3 hR hQ hP
  refine Bl.wpL_load rfl Hl0.out ?_
  go_wp2_with fail
  refine HAp.out.mono ?_
  rintro e w4 ⟨vp, vs, vb, L, M, N1, N2, N3, N4, N5, rfl, hA, hE4⟩
  obtain ⟨o1, o2, o3, o4, o5, o6⟩ := hA.ords
  have hF := hA.ltf
  have hone := hF.ltc.one
  have hBP4 := HBP.out.ext hE4
  have Hst := Bl.hid (hBP4.store (P := Tryd.prog) (cs' := Bl.cL l vp vs vb) rfl hone (ty := 26) (by kernel_rfl))
  obtain ⟨B, hB⟩ : ∃ z, z = W3.heap.size := ⟨_, rfl⟩
  rw [← hB] at hA hF o1
  obtain ⟨w5, hw5⟩ : ∃ W, W = w4.setCells P 0 (Bl.cL l vp vs vb) := ⟨_, rfl⟩
  have hK5 : Bl.Kq (fun k => k = P) w4 w5 := by rw [hw5]; exact (Bl.Kq.refl w4).setCells (Q := fun k => k = P) rfl 0 _
  have HX : Hid (P = w.heap.size ∧ Q = w.heap.size + 1 ∧ R = w.heap.size + 1 + 1 ∧ R < B ∧ B = W3.heap.size) := Bl.hid ⟨HPQ.out.1, HPQ.out.2.1, HPQ.out.2.2.1, by rw [hB]; exact HPQ.out.2.2.2, hB⟩
  have HBP5 : Hid (Bl.BoxC w5 P (Bl.cL l vp vs vb)) := Bl.hid (by rw [hw5]; exact hBP4.set rfl)
  have HBQ5 := Bl.hid (hK5.box (by have := HX.out; omega) (HBQ.out.ext hE4))
  have HBR5 := Bl.hid (hK5.box (by have := HX.out; omega) (HBR.out.ext hE4))
  have HA5 := Bl.hid (hA.kept (w' := w5) (fun b h1 h2 => hK5.block b h2 (by have := HX.out; omega)) hK5.size (Nat.le_refl B))
  have HE5 : Hid (Bl.Ext w w5) := Bl.hid ((HE3.out.trans hE4).trans' (N := w.heap.size) (hK5.mono fun k hk q => by have := HX.out; omega) (Nat.le_refl _))
  have HK5 : Hid (Bl.Kq (fun k => w.heap.size ≤ k) w w5) := Bl.hid (Bl.Kq.of_ext HE5.out)
  have Hbds : Hid (L.length ≤ 30 ∧ ∀ x ∈ L, x.2.1.2.length ≤ 100) := Bl.hid ⟨by have h := HLg.out.sh; rw [← hA.sl, List.length_map] at h; exact h, fun x hx => (HLg.out.st (Bl.plS x) (by rw [← hA.sl]; exact List.mem_map_of_mem hx)).1⟩
  clear hA hF hone hE4 hBP4 hB hK5 o1 o2 o3 o4 o5 o6 HPQ HE3 HBP HBQ HBR Hl0 HAp
  go_wp2_with (with_reducible refine Bl.stop_store (ty := 26) ?_)
  refine Bl.go_on ?_
  refine Bl.wpL_store0 rfl rfl Hst.out ?_
  rw [← hw5]
  clear hw5 Hst
  have qk := HBQ5.out.cell (i := 0) rfl
  go_wp2_with (with_reducible refine Bl.stop_load (ty := 28) ?_)
  refine Bl.go_on ?_
  refine Bl.wpL_load rfl (HBQ5.out.load (P := Tryd.prog) Tryd.underlying28 rfl (by kernel_rfl)) ?_
  go_wp2_with fail
  refine (tshown_any 2 at' y P B N1 N2 N3 N4 N5 l vp vs vb L M w5 HBP5.out HA5.out (by have := HX.out; omega) Hbds.out.1 Hbds.out.2).mono ?_
  rintro e w6 ⟨rfl, vs2, L2, hBz, hFz, hKz⟩
  have HBz := Bl.hid hBz
  have HFz := Bl.hid hFz
  have HBRz := Bl.hid (hKz.box (by have := HX.out; omega) HBR5.out)
  have HKz : Hid (Bl.Kq (fun k => w.heap.size ≤ k) w w6) := Bl.hid (HK5.out.trans (hKz.mono fun k hk q => by have := HX.out; omega))
  clear hBz hFz hKz

  have Hl9 := Bl.hid (HBz.out.load (P := Tryd.prog) Tryd.underlying26 rfl (by kernel_rfl))
  have hone9 := HFz.out.ltc.one
  have Hst9 := Bl.hid (HBRz.out.store (P := Tryd.prog) (cs' := Bl.cL (Bl.bendA 2 at' y l) vp vs2 vb) rfl hone9 (ty := 26) (by kernel_rfl))
  have HBR9 := Bl.hid (HBRz.out.set (cs' := Bl.cL (Bl.bendA 2 at' y l) vp vs2 vb) rfl)
  have HK9 := Bl.hid ((Bl.Kq.refl (w6)).setCells (Q := fun k => k = R) rfl 0 (Bl.cL (Bl.bendA 2 at' y l) vp vs2 vb))
  have HE9 := Bl.hid (HKz.out.trans (HK9.out.mono (Q' := fun k => w.heap.size ≤ k) fun k hk q => by have := HX.out; omega))
  clear hone9
  go_wp2_with (with_reducible refine Bl.stop_load (ty := 26) ?_)
  refine Bl.go_on ?_
  refine Bl.wpL_load rfl Hl9.out ?_
  go_wp2_with (with_reducible refine Bl.stop_store (ty := 26) ?_)
  refine Bl.go_on ?_
  refine Bl.wpL_store0 rfl rfl Hst9.out ?_
  go_wp2_with fail
  refine bodyPost_ret (v := .tuple #[.agg (Bl.cL (Bl.bendA 2 at' y l) vp vs2 vb).toArray, .bool true]) (Bl.results_cell2 rfl rfl (HBR9.out.loadVar (P := Tryd.prog) Tryd.underlying26 rfl (by kernel_rfl)) rfl) rfl ?_
  have hsp := (show Bl.bendL 2 at' y l = (Bl.bendA 2 at' y l, true) from rfl)
  unfold Bl.BeR
  rw [hsp]
  exact ⟨_, rfl, ⟨_, _, _, _, _, rfl, (HFz.out.kept (F' := fun k => B ≤ k) fun k hk hlk => ⟨hk, HK9.out.block k hlk (by have := HX.out; omega)⟩).ltc⟩, HE9.out.ext fun k q => q⟩

set_option maxRecDepth 100000 in
set_option maxHeartbeats 8000000 in
theorem bend3 (at' y : Int) (v : Value) (l : Bl.LT) (w : World) (h : Bl.LtV w v l) (hLg : Bl.LgL l) (hid : -1125899906842624 ≤ l.id ∧ l.id ≤ 1125899906842624) :
    Calls Tryd.prog 10 #[v, .agg #[.int .i64 3, .int .i64 at', .int .i64 y]] w fun e w' => Bl.BeR 3 at' y l w e w' := by
  obtain ⟨cs0, vp0, vs0, vb0, L0, rfl, hc⟩ := h
  obtain rfl := hc.eq
  have HC : Hid (Bl.LtV w (.agg (Bl.cL l vp0 vs0 vb0).toArray) l) := Bl.hid ⟨_, vp0, vs0, vb0, L0, rfl, hc⟩
  have hone0 : ∀ c ∈ Bl.cL l vp0 vs0 vb0, c.oneCell' = true := hc.one
  have HLg := Bl.hid hLg
  have Hid' := Bl.hid hid
  obtain ⟨P, hP⟩ : ∃ z, z = w.heap.size := ⟨_, rfl⟩
  obtain ⟨Q, hQ⟩ : ∃ z, z = w.heap.size + 1 := ⟨_, rfl⟩
  obtain ⟨R, hR⟩ : ∃ z, z = w.heap.size + 1 + 1 := ⟨_, rfl⟩
  obtain ⟨W3, hW3⟩ : ∃ W, W = ((w.alloc (.cells (Bl.cL l vp0 vs0 vb0).toArray 26)).alloc (.cells #[.int .i64 3, .int .i64 at', .int .i64 y] 28)).alloc (.cells Bl.zL 26) := ⟨_, rfl⟩
  have hs1 : (w.alloc (.cells (Bl.cL l vp0 vs0 vb0).toArray 26)).heap.size = w.heap.size + 1 := World.size_alloc _ _
  have hs2 : ((w.alloc (.cells (Bl.cL l vp0 vs0 vb0).toArray 26)).alloc (.cells #[.int .i64 3, .int .i64 at', .int .i64 y] 28)).heap.size = w.heap.size + 1 + 1 := by rw [World.size_alloc, hs1]
  have hE3 : Bl.Ext w W3 := by rw [hW3]; exact ((Bl.ext_alloc _ _).trans (Bl.ext_alloc _ _)).trans (Bl.ext_alloc _ _)
  have hBP : Bl.BoxC W3 P (Bl.cL l vp0 vs0 vb0) := by
    rw [hW3, hP]; exact ((Bl.BoxC.box w 26 (Bl.cL_ne _ _ _ _)).ext (Bl.ext_alloc _ _)).ext (Bl.ext_alloc _ _)
  have hBQ : Bl.BoxC W3 Q [.int .i64 3, .int .i64 at', .int .i64 y] := by
    have h := Bl.BoxC.box (cs := [.int .i64 3, .int .i64 at', .int .i64 y]) (w.alloc (.cells (Bl.cL l vp0 vs0 vb0).toArray 26)) 28 (fun q => by cases q)
    rw [hs1, ← hQ] at h
    rw [hW3]; exact h.ext (Bl.ext_alloc _ _)
  have hBR : Bl.BoxC W3 R Bl.zL.toList := by
    have h := Bl.BoxC.box (cs := Bl.zL.toList) ((w.alloc (.cells (Bl.cL l vp0 vs0 vb0).toArray 26)).alloc (.cells #[.int .i64 3, .int .i64 at', .int .i64 y] 28)) 26 (fun q => by cases q)
    rw [hs2, ← hR] at h
    rw [hW3]; exact h
  have HPQ : Hid (P = w.heap.size ∧ Q = w.heap.size + 1 ∧ R = w.heap.size + 1 + 1 ∧ R < W3.heap.size) := Bl.hid ⟨hP, hQ, hR, hBR.lt⟩
  have HE3 := Bl.hid hE3
  have HBP := Bl.hid hBP
  have HBQ := Bl.hid hBQ
  have HBR := Bl.hid hBR
  have Hl0 := Bl.hid (hBP.load (P := Tryd.prog) Tryd.underlying26 rfl (by kernel_rfl))
  have HAp := Bl.hid (apart_any (.agg (Bl.cL l vp0 vs0 vb0).toArray) l W3 (HC.out.ext hE3) hLg)
  unfold Bl.cL at hW3
  clear hs1 hs2 hE3 hBP hBQ hBR hc hLg hid hone0
  show Calls Tryd.prog 10 #[.agg #[.int .i64 l.kind, .int .i64 l.id, .int .i64 l.obj, vp0, vs0, .int .i64 l.frm, .int .i64 l.cnt, vb0, .int .i64 l.code], .agg #[.int .i64 3, .int .i64 at', .int .i64 y]] w _
  go_enter Tryd.func10, Tryd.ntmps10
  go_wp2_with (with_reducible refine Bl.stop_load (ty := 26) ?_)
  refine Bl.go_on ?_
  rw [← hW3, ← hR, ← hQ, ← hP]
  clear hW3 hR hQ hP
  refine Bl.wpL_load rfl Hl0.out ?_
  go_wp2_with fail
  refine HAp.out.mono ?_
  rintro e w4 ⟨vp, vs, vb, L, M, N1, N2, N3, N4, N5, rfl, hA, hE4⟩
  obtain ⟨o1, o2, o3, o4, o5, o6⟩ := hA.ords
  have hF := hA.ltf
  have hone := hF.ltc.one
  have hBP4 := HBP.out.ext hE4
  have Hst := Bl.hid (hBP4.store (P := Tryd.prog) (cs' := Bl.cL l vp vs vb) rfl hone (ty := 26) (by kernel_rfl))
  obtain ⟨B, hB⟩ : ∃ z, z = W3.heap.size := ⟨_, rfl⟩
  rw [← hB] at hA hF o1
  obtain ⟨w5, hw5⟩ : ∃ W, W = w4.setCells P 0 (Bl.cL l vp vs vb) := ⟨_, rfl⟩
  have hK5 : Bl.Kq (fun k => k = P) w4 w5 := by rw [hw5]; exact (Bl.Kq.refl w4).setCells (Q := fun k => k = P) rfl 0 _
  have HX : Hid (P = w.heap.size ∧ Q = w.heap.size + 1 ∧ R = w.heap.size + 1 + 1 ∧ R < B ∧ B = W3.heap.size) := Bl.hid ⟨HPQ.out.1, HPQ.out.2.1, HPQ.out.2.2.1, by rw [hB]; exact HPQ.out.2.2.2, hB⟩
  have HBP5 : Hid (Bl.BoxC w5 P (Bl.cL l vp vs vb)) := Bl.hid (by rw [hw5]; exact hBP4.set rfl)
  have HBQ5 := Bl.hid (hK5.box (by have := HX.out; omega) (HBQ.out.ext hE4))
  have HBR5 := Bl.hid (hK5.box (by have := HX.out; omega) (HBR.out.ext hE4))
  have HA5 := Bl.hid (hA.kept (w' := w5) (fun b h1 h2 => hK5.block b h2 (by have := HX.out; omega)) hK5.size (Nat.le_refl B))
  have HE5 : Hid (Bl.Ext w w5) := Bl.hid ((HE3.out.trans hE4).trans' (N := w.heap.size) (hK5.mono fun k hk q => by have := HX.out; omega) (Nat.le_refl _))
  have HK5 : Hid (Bl.Kq (fun k => w.heap.size ≤ k) w w5) := Bl.hid (Bl.Kq.of_ext HE5.out)
  have Hbds : Hid (L.length ≤ 30 ∧ ∀ x ∈ L, x.2.1.2.length ≤ 100) := Bl.hid ⟨by have h := HLg.out.sh; rw [← hA.sl, List.length_map] at h; exact h, fun x hx => (HLg.out.st (Bl.plS x) (by rw [← hA.sl]; exact List.mem_map_of_mem hx)).1⟩
  clear hA hF hone hE4 hBP4 hB hK5 o1 o2 o3 o4 o5 o6 HPQ HE3 HBP HBQ HBR Hl0 HAp
  go_wp2_with (with_reducible refine Bl.stop_store (ty := 26) ?_)
  refine Bl.go_on ?_
  refine Bl.wpL_store0 rfl rfl Hst.out ?_
  rw [← hw5]
  clear hw5 Hst
  have qk := HBQ5.out.cell (i := 0) rfl
  go_wp2_with (with_reducible refine Bl.stop_load (ty := 28) ?_)
  refine Bl.go_on ?_
  refine Bl.wpL_load rfl (HBQ5.out.load (P := Tryd.prog) Tryd.underlying28 rfl (by kernel_rfl)) ?_
  go_wp2_with fail
  refine (tshown_any 3 at' y P B N1 N2 N3 N4 N5 l vp vs vb L M w5 HBP5.out HA5.out (by have := HX.out; omega) Hbds.out.1 Hbds.out.2).mono ?_
  rintro e w6 ⟨rfl, vs2, L2, hBz, hFz, hKz⟩
  have HBz := Bl.hid hBz
  have HFz := Bl.hid hFz
  have HBRz := Bl.hid (hKz.box (by have := HX.out; omega) HBR5.out)
  have HKz : Hid (Bl.Kq (fun k => w.heap.size ≤ k) w w6) := Bl.hid (HK5.out.trans (hKz.mono fun k hk q => by have := HX.out; omega))
  clear hBz hFz hKz

  have Hl9 := Bl.hid (HBz.out.load (P := Tryd.prog) Tryd.underlying26 rfl (by kernel_rfl))
  have hone9 := HFz.out.ltc.one
  have Hst9 := Bl.hid (HBRz.out.store (P := Tryd.prog) (cs' := Bl.cL (Bl.bendA 3 at' y l) vp vs2 vb) rfl hone9 (ty := 26) (by kernel_rfl))
  have HBR9 := Bl.hid (HBRz.out.set (cs' := Bl.cL (Bl.bendA 3 at' y l) vp vs2 vb) rfl)
  have HK9 := Bl.hid ((Bl.Kq.refl (w6)).setCells (Q := fun k => k = R) rfl 0 (Bl.cL (Bl.bendA 3 at' y l) vp vs2 vb))
  have HE9 := Bl.hid (HKz.out.trans (HK9.out.mono (Q' := fun k => w.heap.size ≤ k) fun k hk q => by have := HX.out; omega))
  clear hone9
  go_wp2_with (with_reducible refine Bl.stop_load (ty := 26) ?_)
  refine Bl.go_on ?_
  refine Bl.wpL_load rfl Hl9.out ?_
  go_wp2_with (with_reducible refine Bl.stop_store (ty := 26) ?_)
  refine Bl.go_on ?_
  refine Bl.wpL_store0 rfl rfl Hst9.out ?_
  go_wp2_with fail
  refine bodyPost_ret (v := .tuple #[.agg (Bl.cL (Bl.bendA 3 at' y l) vp vs2 vb).toArray, .bool true]) (Bl.results_cell2 rfl rfl (HBR9.out.loadVar (P := Tryd.prog) Tryd.underlying26 rfl (by kernel_rfl)) rfl) rfl ?_
  have hsp := (show Bl.bendL 3 at' y l = (Bl.bendA 3 at' y l, true) from rfl)
  unfold Bl.BeR
  rw [hsp]
  exact ⟨_, rfl, ⟨_, _, _, _, _, rfl, (HFz.out.kept (F' := fun k => B ≤ k) fun k hk hlk => ⟨hk, HK9.out.block k hlk (by have := HX.out; omega)⟩).ltc⟩, HE9.out.ext fun k q => q⟩
end Go.Proofs.YtmmolapkddbibaaDoor

/- Walk of foe.Bend. -/
namespace Go.Proofs.YtmmolapkddbibaaDoor
open Go Go.RowKit Go.Proofs

set_option maxRecDepth 100000 in
set_option maxHeartbeats 8000000 in
theorem bend4 (at' y : Int) (v : Value) (l : Bl.LT) (w : World) (h : Bl.LtV w v l) (hLg : Bl.LgL l) (hid : -1125899906842624 ≤ l.id ∧ l.id ≤ 1125899906842624) :
    Calls Tryd.prog 10 #[v, .agg #[.int .i64 4, .int .i64 at', .int .i64 y]] w fun e w' => Bl.BeR 4 at' y l w e w' := by
  obtain ⟨cs0, vp0, vs0, vb0, L0, rfl, hc⟩ := h
  obtain rfl := hc.eq
  have HC : Hid (Bl.LtV w (.agg (Bl.cL l vp0 vs0 vb0).toArray) l) := Bl.hid ⟨_, vp0, vs0, vb0, L0, rfl, hc⟩
  have hone0 : ∀ c ∈ Bl.cL l vp0 vs0 vb0, c.oneCell' = true := hc.one
  have HLg := Bl.hid hLg
  have Hid' := Bl.hid hid
  obtain ⟨P, hP⟩ : ∃ z, z = w.heap.size := ⟨_, rfl⟩
  obtain ⟨Q, hQ⟩ : ∃ z, z = w.heap.size + 1 := ⟨_, rfl⟩
  obtain ⟨R, hR⟩ : ∃ z, z = w.heap.size + 1 + 1 := ⟨_, rfl⟩
  obtain ⟨W3, hW3⟩ : ∃ W, W = ((w.alloc (.cells (Bl.cL l vp0 vs0 vb0).toArray 26)).alloc (.cells #[.int .i64 4, .int .i64 at', .int .i64 y] 28)).alloc (.cells Bl.zL 26) := ⟨_, rfl⟩
  have hs1 : (w.alloc (.cells (Bl.cL l vp0 vs0 vb0).toArray 26)).heap.size = w.heap.size + 1 := World.size_alloc _ _
  have hs2 : ((w.alloc (.cells (Bl.cL l vp0 vs0 vb0).toArray 26)).alloc (.cells #[.int .i64 4, .int .i64 at', .int .i64 y] 28)).heap.size = w.heap.size + 1 + 1 := by rw [World.size_alloc, hs1]
  have hE3 : Bl.Ext w W3 := by rw [hW3]; exact ((Bl.ext_alloc _ _).trans (Bl.ext_alloc _ _)).trans (Bl.ext_alloc _ _)
  have hBP : Bl.BoxC W3 P (Bl.cL l vp0 vs0 vb0) := by
    rw [hW3, hP]; exact ((Bl.BoxC.box w 26 (Bl.cL_ne _ _ _ _)).ext (Bl.ext_alloc _ _)).ext (Bl.ext_alloc _ _)
  have hBQ : Bl.BoxC W3 Q [.int .i64 4, .int .i64 at', .int .i64 y] := by
    have h := Bl.BoxC.box (cs := [.int .i64 4, .int .i64 at', .int .i64 y]) (w.alloc (.cells (Bl.cL l vp0 vs0 vb0).toArray 26)) 28 (fun q => by cases q)
    rw [hs1, ← hQ] at h
    rw [hW3]; exact h.ext (Bl.ext_alloc _ _)
  have hBR : Bl.BoxC W3 R Bl.zL.toList := by
    have h := Bl.BoxC.box (cs := Bl.zL.toList) ((w.alloc (.cells (Bl.cL l vp0 vs0 vb0).toArray 26)).alloc (.cells #[.int .i64 4, .int .i64 at', .int .i64 y] 28)) 26 (fun q => by cases q)
    rw [hs2, ← hR] at h
    rw [hW3]; exact h
  have HPQ : Hid (P = w.heap.size ∧ Q = w.heap.size + 1 ∧ R = w.heap.size + 1 + 1 ∧ R < W3.heap.size) := Bl.hid ⟨hP, hQ, hR, hBR.lt⟩
  have HE3 := Bl.hid hE3
  have HBP := Bl.hid hBP
  have HBQ := Bl.hid hBQ
  have HBR := Bl.hid hBR
  have Hl0 := Bl.hid (hBP.load (P := Tryd.prog) Tryd.underlying26 rfl (by kernel_rfl))
  have HAp := Bl.hid (apart_any (.agg (Bl.cL l vp0 vs0 vb0).toArray) l W3 (HC.out.ext hE3) hLg)
  unfold Bl.cL at hW3
  clear hs1 hs2 hE3 hBP hBQ hBR hc hLg hid hone0
  show Calls Tryd.prog 10 #[.agg #[.int .i64 l.kind, .int .i64 l.id, .int .i64 l.obj, vp0, vs0, .int .i64 l.frm, .int .i64 l.cnt, vb0, .int .i64 l.code], .agg #[.int .i64 4, .int .i64 at', .int .i64 y]] w _
  go_enter Tryd.func10, Tryd.ntmps10
  go_wp2_with (with_reducible refine Bl.stop_load (ty := 26) ?_)
  refine Bl.go_on ?_
  rw [← hW3, ← hR, ← hQ, ← hP]
  clear hW3 hR hQ hP
  refine Bl.wpL_load rfl Hl0.out ?_
  go_wp2_with fail
  refine HAp.out.mono ?_
  rintro e w4 ⟨vp, vs, vb, L, M, N1, N2, N3, N4, N5, rfl, hA, hE4⟩
  obtain ⟨o1, o2, o3, o4, o5, o6⟩ := hA.ords
  have hF := hA.ltf
  have hone := hF.ltc.one
  have hBP4 := HBP.out.ext hE4
  have Hst := Bl.hid (hBP4.store (P := Tryd.prog) (cs' := Bl.cL l vp vs vb) rfl hone (ty := 26) (by kernel_rfl))
  obtain ⟨B, hB⟩ : ∃ z, z = W3.heap.size := ⟨_, rfl⟩
  rw [← hB] at hA hF o1
  obtain ⟨w5, hw5⟩ : ∃ W, W = w4.setCells P 0 (Bl.cL l vp vs vb) := ⟨_, rfl⟩
  have hK5 : Bl.Kq (fun k => k = P) w4 w5 := by rw [hw5]; exact (Bl.Kq.refl w4).setCells (Q := fun k => k = P) rfl 0 _
  have HX : Hid (P = w.heap.size ∧ Q = w.heap.size + 1 ∧ R = w.heap.size + 1 + 1 ∧ R < B ∧ B = W3.heap.size) := Bl.hid ⟨HPQ.out.1, HPQ.out.2.1, HPQ.out.2.2.1, by rw [hB]; exact HPQ.out.2.2.2, hB⟩
  have HBP5 : Hid (Bl.BoxC w5 P (Bl.cL l vp vs vb)) := Bl.hid (by rw [hw5]; exact hBP4.set rfl)
  have HBQ5 := Bl.hid (hK5.box (by have := HX.out; omega) (HBQ.out.ext hE4))
  have HBR5 := Bl.hid (hK5.box (by have := HX.out; omega) (HBR.out.ext hE4))
  have HA5 := Bl.hid (hA.kept (w' := w5) (fun b h1 h2 => hK5.block b h2 (by have := HX.out; omega)) hK5.size (Nat.le_refl B))
  have HE5 : Hid (Bl.Ext w w5) := Bl.hid ((HE3.out.trans hE4).trans' (N := w.heap.size) (hK5.mono fun k hk q => by have := HX.out; omega) (Nat.le_refl _))
  have HK5 : Hid (Bl.Kq (fun k => w.heap.size ≤ k) w w5) := Bl.hid (Bl.Kq.of_ext HE5.out)
  have Hbds : Hid (L.length ≤ 30 ∧ ∀ x ∈ L, x.2.1.2.length ≤ 100) := Bl.hid ⟨by have h := HLg.out.sh; rw [← hA.sl, List.length_map] at h; exact h, fun x hx => (HLg.out.st (Bl.plS x) (by rw [← hA.sl]; exact List.mem_map_of_mem hx)).1⟩
  clear hA hF hone hE4 hBP4 hB hK5 o1 o2 o3 o4 o5 o6 HPQ HE3 HBP HBQ HBR Hl0 HAp
  go_wp2_with (with_reducible refine Bl.stop_store (ty := 26) ?_)
  refine Bl.go_on ?_
  refine Bl.wpL_store0 rfl rfl Hst.out ?_
  rw [← hw5]
  clear hw5 Hst
  have qk := HBQ5.out.cell (i := 0) rfl
  go_wp2_with (with_reducible refine Bl.stop_load (ty := 28) ?_)
  refine Bl.go_on ?_
  refine Bl.wpL_load rfl (HBQ5.out.load (P := Tryd.prog) Tryd.underlying28 rfl (by kernel_rfl)) ?_
  go_wp2_with fail
  refine (tshown_any 4 at' y P B N1 N2 N3 N4 N5 l vp vs vb L M w5 HBP5.out HA5.out (by have := HX.out; omega) Hbds.out.1 Hbds.out.2).mono ?_
  rintro e w6 ⟨rfl, vs2, L2, hBz, hFz, hKz⟩
  have HBz := Bl.hid hBz
  have HFz := Bl.hid hFz
  have HBRz := Bl.hid (hKz.box (by have := HX.out; omega) HBR5.out)
  have HKz : Hid (Bl.Kq (fun k => w.heap.size ≤ k) w w6) := Bl.hid (HK5.out.trans (hKz.mono fun k hk q => by have := HX.out; omega))
  clear hBz hFz hKz

  have Hl9 := Bl.hid (HBz.out.load (P := Tryd.prog) Tryd.underlying26 rfl (by kernel_rfl))
  have hone9 := HFz.out.ltc.one
  have Hst9 := Bl.hid (HBRz.out.store (P := Tryd.prog) (cs' := Bl.cL (Bl.bendA 4 at' y l) vp vs2 vb) rfl hone9 (ty := 26) (by kernel_rfl))
  have HBR9 := Bl.hid (HBRz.out.set (cs' := Bl.cL (Bl.bendA 4 at' y l) vp vs2 vb) rfl)
  have HK9 := Bl.hid ((Bl.Kq.refl (w6)).setCells (Q := fun k => k = R) rfl 0 (Bl.cL (Bl.bendA 4 at' y l) vp vs2 vb))
  have HE9 := Bl.hid (HKz.out.trans (HK9.out.mono (Q' := fun k => w.heap.size ≤ k) fun k hk q => by have := HX.out; omega))
  clear hone9
  go_wp2_with (with_reducible refine Bl.stop_load (ty := 26) ?_)
  refine Bl.go_on ?_
  refine Bl.wpL_load rfl Hl9.out ?_
  go_wp2_with (with_reducible refine Bl.stop_store (ty := 26) ?_)
  refine Bl.go_on ?_
  refine Bl.wpL_store0 rfl rfl Hst9.out ?_
  go_wp2_with fail
  refine bodyPost_ret (v := .tuple #[.agg (Bl.cL (Bl.bendA 4 at' y l) vp vs2 vb).toArray, .bool true]) (Bl.results_cell2 rfl rfl (HBR9.out.loadVar (P := Tryd.prog) Tryd.underlying26 rfl (by kernel_rfl)) rfl) rfl ?_
  have hsp := (show Bl.bendL 4 at' y l = (Bl.bendA 4 at' y l, true) from rfl)
  unfold Bl.BeR
  rw [hsp]
  exact ⟨_, rfl, ⟨_, _, _, _, _, rfl, (HFz.out.kept (F' := fun k => B ≤ k) fun k hk hlk => ⟨hk, HK9.out.block k hlk (by have := HX.out; omega)⟩).ltc⟩, HE9.out.ext fun k q => q⟩

set_option maxRecDepth 100000 in
set_option maxHeartbeats 8000000 in
theorem bend5 (at' y : Int) (v : Value) (l : Bl.LT) (w : World) (h : Bl.LtV w v l) (hLg : Bl.LgL l) (hid : -1125899906842624 ≤ l.id ∧ l.id ≤ 1125899906842624) :
    Calls Tryd.prog 10 #[v, .agg #[.int .i64 5, .int .i64 at', .int .i64 y]] w fun e w' => Bl.BeR 5 at' y l w e w' := by
  obtain ⟨cs0, vp0, vs0, vb0, L0, rfl, hc⟩ := h
  obtain rfl := hc.eq
  have HC : Hid (Bl.LtV w (.agg (Bl.cL l vp0 vs0 vb0).toArray) l) := Bl.hid ⟨_, vp0, vs0, vb0, L0, rfl, hc⟩
  have hone0 : ∀ c ∈ Bl.cL l vp0 vs0 vb0, c.oneCell' = true := hc.one
  have HLg := Bl.hid hLg
  have Hid' := Bl.hid hid
  obtain ⟨P, hP⟩ : ∃ z, z = w.heap.size := ⟨_, rfl⟩
  obtain ⟨Q, hQ⟩ : ∃ z, z = w.heap.size + 1 := ⟨_, rfl⟩
  obtain ⟨R, hR⟩ : ∃ z, z = w.heap.size + 1 + 1 := ⟨_, rfl⟩
  obtain ⟨W3, hW3⟩ : ∃ W, W = ((w.alloc (.cells (Bl.cL l vp0 vs0 vb0).toArray 26)).alloc (.cells #[.int .i64 5, .int .i64 at', .int .i64 y] 28)).alloc (.cells Bl.zL 26) := ⟨_, rfl⟩
  have hs1 : (w.alloc (.cells (Bl.cL l vp0 vs0 vb0).toArray 26)).heap.size = w.heap.size + 1 := World.size_alloc _ _
  have hs2 : ((w.alloc (.cells (Bl.cL l vp0 vs0 vb0).toArray 26)).alloc (.cells #[.int .i64 5, .int .i64 at', .int .i64 y] 28)).heap.size = w.heap.size + 1 + 1 := by rw [World.size_alloc, hs1]
  have hE3 : Bl.Ext w W3 := by rw [hW3]; exact ((Bl.ext_alloc _ _).trans (Bl.ext_alloc _ _)).trans (Bl.ext_alloc _ _)
  have hBP : Bl.BoxC W3 P (Bl.cL l vp0 vs0 vb0) := by
    rw [hW3, hP]; exact ((Bl.BoxC.box w 26 (Bl.cL_ne _ _ _ _)).ext (Bl.ext_alloc _ _)).ext (Bl.ext_alloc _ _)
  have hBQ : Bl.BoxC W3 Q [.int .i64 5, .int .i64 at', .int .i64 y] := by
    have h := Bl.BoxC.box (cs := [.int .i64 5, .int .i64 at', .int .i64 y]) (w.alloc (.cells (Bl.cL l vp0 vs0 vb0).toArray 26)) 28 (fun q => by cases q)
    rw [hs1, ← hQ] at h
    rw [hW3]; exact h.ext (Bl.ext_alloc _ _)
  have hBR : Bl.BoxC W3 R Bl.zL.toList := by
    have h := Bl.BoxC.box (cs := Bl.zL.toList) ((w.alloc (.cells (Bl.cL l vp0 vs0 vb0).toArray 26)).alloc (.cells #[.int .i64 5, .int .i64 at', .int .i64 y] 28)) 26 (fun q => by cases q)
    rw [hs2, ← hR] at h
    rw [hW3]; exact h
  have HPQ : Hid (P = w.heap.size ∧ Q = w.heap.size + 1 ∧ R = w.heap.size + 1 + 1 ∧ R < W3.heap.size) := Bl.hid ⟨hP, hQ, hR, hBR.lt⟩
  have HE3 := Bl.hid hE3
  have HBP := Bl.hid hBP
  have HBQ := Bl.hid hBQ
  have HBR := Bl.hid hBR
  have Hl0 := Bl.hid (hBP.load (P := Tryd.prog) Tryd.underlying26 rfl (by kernel_rfl))
  have HAp := Bl.hid (apart_any (.agg (Bl.cL l vp0 vs0 vb0).toArray) l W3 (HC.out.ext hE3) hLg)
  unfold Bl.cL at hW3
  clear hs1 hs2 hE3 hBP hBQ hBR hc hLg hid hone0
  show Calls Tryd.prog 10 #[.agg #[.int .i64 l.kind, .int .i64 l.id, .int .i64 l.obj, vp0, vs0, .int .i64 l.frm, .int .i64 l.cnt, vb0, .int .i64 l.code], .agg #[.int .i64 5, .int .i64 at', .int .i64 y]] w _
  go_enter Tryd.func10, Tryd.ntmps10
  go_wp2_with (with_reducible refine Bl.stop_load (ty := 26) ?_)
  refine Bl.go_on ?_
  rw [← hW3, ← hR, ← hQ, ← hP]
  clear hW3 hR hQ hP
  refine Bl.wpL_load rfl Hl0.out ?_
  go_wp2_with fail
  refine HAp.out.mono ?_
  rintro e w4 ⟨vp, vs, vb, L, M, N1, N2, N3, N4, N5, rfl, hA, hE4⟩
  obtain ⟨o1, o2, o3, o4, o5, o6⟩ := hA.ords
  have hF := hA.ltf
  have hone := hF.ltc.one
  have hBP4 := HBP.out.ext hE4
  have Hst := Bl.hid (hBP4.store (P := Tryd.prog) (cs' := Bl.cL l vp vs vb) rfl hone (ty := 26) (by kernel_rfl))
  obtain ⟨B, hB⟩ : ∃ z, z = W3.heap.size := ⟨_, rfl⟩
  rw [← hB] at hA hF o1
  obtain ⟨w5, hw5⟩ : ∃ W, W = w4.setCells P 0 (Bl.cL l vp vs vb) := ⟨_, rfl⟩
  have hK5 : Bl.Kq (fun k => k = P) w4 w5 := by rw [hw5]; exact (Bl.Kq.refl w4).setCells (Q := fun k => k = P) rfl 0 _
  have HX : Hid (P = w.heap.size ∧ Q = w.heap.size + 1 ∧ R = w.heap.size + 1 + 1 ∧ R < B ∧ B = W3.heap.size) := Bl.hid ⟨HPQ.out.1, HPQ.out.2.1, HPQ.out.2.2.1, by rw [hB]; exact HPQ.out.2.2.2, hB⟩
  have HBP5 : Hid (Bl.BoxC w5 P (Bl.cL l vp vs vb)) := Bl.hid (by rw [hw5]; exact hBP4.set rfl)
  have HBQ5 := Bl.hid (hK5.box (by have := HX.out; omega) (HBQ.out.ext hE4))
  have HBR5 := Bl.hid (hK5.box (by have := HX.out; omega) (HBR.out.ext hE4))
  have HA5 := Bl.hid (hA.kept (w' := w5) (fun b h1 h2 => hK5.block b h2 (by have := HX.out; omega)) hK5.size (Nat.le_refl B))
  have HE5 : Hid (Bl.Ext w w5) := Bl.hid ((HE3.out.trans hE4).trans' (N := w.heap.size) (hK5.mono fun k hk q => by have := HX.out; omega) (Nat.le_refl _))
  have HK5 : Hid (Bl.Kq (fun k => w.heap.size ≤ k) w w5) := Bl.hid (Bl.Kq.of_ext HE5.out)
  have Hbds : Hid (L.length ≤ 30 ∧ ∀ x ∈ L, x.2.1.2.length ≤ 100) := Bl.hid ⟨by have h := HLg.out.sh; rw [← hA.sl, List.length_map] at h; exact h, fun x hx => (HLg.out.st (Bl.plS x) (by rw [← hA.sl]; exact List.mem_map_of_mem hx)).1⟩
  clear hA hF hone hE4 hBP4 hB hK5 o1 o2 o3 o4 o5 o6 HPQ HE3 HBP HBQ HBR Hl0 HAp
  go_wp2_with (with_reducible refine Bl.stop_store (ty := 26) ?_)
  refine Bl.go_on ?_
  refine Bl.wpL_store0 rfl rfl Hst.out ?_
  rw [← hw5]
  clear hw5 Hst
  have qk := HBQ5.out.cell (i := 0) rfl
  go_wp2_with (with_reducible refine Bl.stop_load (ty := 28) ?_)
  refine Bl.go_on ?_
  refine Bl.wpL_load rfl (HBQ5.out.load (P := Tryd.prog) Tryd.underlying28 rfl (by kernel_rfl)) ?_
  go_wp2_with fail
  refine (tshown_any 5 at' y P B N1 N2 N3 N4 N5 l vp vs vb L M w5 HBP5.out HA5.out (by have := HX.out; omega) Hbds.out.1 Hbds.out.2).mono ?_
  rintro e w6 ⟨rfl, vs2, L2, hBz, hFz, hKz⟩
  have HBz := Bl.hid hBz
  have HFz := Bl.hid hFz
  have HBRz := Bl.hid (hKz.box (by have := HX.out; omega) HBR5.out)
  have HKz : Hid (Bl.Kq (fun k => w.heap.size ≤ k) w w6) := Bl.hid (HK5.out.trans (hKz.mono fun k hk q => by have := HX.out; omega))
  clear hBz hFz hKz

  have Hl9 := Bl.hid (HBz.out.load (P := Tryd.prog) Tryd.underlying26 rfl (by kernel_rfl))
  have hone9 := HFz.out.ltc.one
  have Hst9 := Bl.hid (HBRz.out.store (P := Tryd.prog) (cs' := Bl.cL (Bl.bendA 5 at' y l) vp vs2 vb) rfl hone9 (ty := 26) (by kernel_rfl))
  have HBR9 := Bl.hid (HBRz.out.set (cs' := Bl.cL (Bl.bendA 5 at' y l) vp vs2 vb) rfl)
  have HK9 := Bl.hid ((Bl.Kq.refl (w6)).setCells (Q := fun k => k = R) rfl 0 (Bl.cL (Bl.bendA 5 at' y l) vp vs2 vb))
  have HE9 := Bl.hid (HKz.out.trans (HK9.out.mono (Q' := fun k => w.heap.size ≤ k) fun k hk q => by have := HX.out; omega))
  clear hone9
  go_wp2_with (with_reducible refine Bl.stop_load (ty := 26) ?_)
  refine Bl.go_on ?_
  refine Bl.wpL_load rfl Hl9.out ?_
  go_wp2_with (with_reducible refine Bl.stop_store (ty := 26) ?_)
  refine Bl.go_on ?_
  refine Bl.wpL_store0 rfl rfl Hst9.out ?_
  go_wp2_with fail
  refine bodyPost_ret (v := .tuple #[.agg (Bl.cL (Bl.bendA 5 at' y l) vp vs2 vb).toArray, .bool true]) (Bl.results_cell2 rfl rfl (HBR9.out.loadVar (P := Tryd.prog) Tryd.underlying26 rfl (by kernel_rfl)) rfl) rfl ?_
  have hsp := (show Bl.bendL 5 at' y l = (Bl.bendA 5 at' y l, true) from rfl)
  unfold Bl.BeR
  rw [hsp]
  exact ⟨_, rfl, ⟨_, _, _, _, _, rfl, (HFz.out.kept (F' := fun k => B ≤ k) fun k hk hlk => ⟨hk, HK9.out.block k hlk (by have := HX.out; omega)⟩).ltc⟩, HE9.out.ext fun k q => q⟩
end Go.Proofs.YtmmolapkddbibaaDoor

/- Walk of foe.Bend. -/
namespace Go.Proofs.YtmmolapkddbibaaDoor
open Go Go.RowKit Go.Proofs

set_option maxRecDepth 100000 in
set_option maxHeartbeats 8000000 in
theorem bendo (k : Int) (at' y : Int) (v : Value) (l : Bl.LT) (w : World) (h : Bl.LtV w v l) (hLg : Bl.LgL l) (hid : -1125899906842624 ≤ l.id ∧ l.id ≤ 1125899906842624) (hk1 : ¬ k = 1) (hk2 : ¬ k = 2) (hk3 : ¬ k = 3) (hk4 : ¬ k = 4) (hk5 : ¬ k = 5) (hk6 : ¬ k = 6) (hk7 : ¬ k = 7) (hk8 : ¬ k = 8) (hk9 : ¬ k = 9) :
    Calls Tryd.prog 10 #[v, .agg #[.int .i64 k, .int .i64 at', .int .i64 y]] w fun e w' => Bl.BeR k at' y l w e w' := by
  obtain ⟨cs0, vp0, vs0, vb0, L0, rfl, hc⟩ := h
  obtain rfl := hc.eq
  have HC : Hid (Bl.LtV w (.agg (Bl.cL l vp0 vs0 vb0).toArray) l) := Bl.hid ⟨_, vp0, vs0, vb0, L0, rfl, hc⟩
  have hone0 : ∀ c ∈ Bl.cL l vp0 vs0 vb0, c.oneCell' = true := hc.one
  have HLg := Bl.hid hLg
  have Hid' := Bl.hid hid
  obtain ⟨P, hP⟩ : ∃ z, z = w.heap.size := ⟨_, rfl⟩
  obtain ⟨Q, hQ⟩ : ∃ z, z = w.heap.size + 1 := ⟨_, rfl⟩
  obtain ⟨R, hR⟩ : ∃ z, z = w.heap.size + 1 + 1 := ⟨_, rfl⟩
  obtain ⟨W3, hW3⟩ : ∃ W, W = ((w.alloc (.cells (Bl.cL l vp0 vs0 vb0).toArray 26)).alloc (.cells #[.int .i64 k, .int .i64 at', .int .i64 y] 28)).alloc (.cells Bl.zL 26) := ⟨_, rfl⟩
  have hs1 : (w.alloc (.cells (Bl.cL l vp0 vs0 vb0).toArray 26)).heap.size = w.heap.size + 1 := World.size_alloc _ _
  have hs2 : ((w.alloc (.cells (Bl.cL l vp0 vs0 vb0).toArray 26)).alloc (.cells #[.int .i64 k, .int .i64 at', .int .i64 y] 28)).heap.size = w.heap.size + 1 + 1 := by rw [World.size_alloc, hs1]
  have hE3 : Bl.Ext w W3 := by rw [hW3]; exact ((Bl.ext_alloc _ _).trans (Bl.ext_alloc _ _)).trans (Bl.ext_alloc _ _)
  have hBP : Bl.BoxC W3 P (Bl.cL l vp0 vs0 vb0) := by
    rw [hW3, hP]; exact ((Bl.BoxC.box w 26 (Bl.cL_ne _ _ _ _)).ext (Bl.ext_alloc _ _)).ext (Bl.ext_alloc _ _)
  have hBQ : Bl.BoxC W3 Q [.int .i64 k, .int .i64 at', .int .i64 y] := by
    have h := Bl.BoxC.box (cs := [.int .i64 k, .int .i64 at', .int .i64 y]) (w.alloc (.cells (Bl.cL l vp0 vs0 vb0).toArray 26)) 28 (fun q => by cases q)
    rw [hs1, ← hQ] at h
    rw [hW3]; exact h.ext (Bl.ext_alloc _ _)
  have hBR : Bl.BoxC W3 R Bl.zL.toList := by
    have h := Bl.BoxC.box (cs := Bl.zL.toList) ((w.alloc (.cells (Bl.cL l vp0 vs0 vb0).toArray 26)).alloc (.cells #[.int .i64 k, .int .i64 at', .int .i64 y] 28)) 26 (fun q => by cases q)
    rw [hs2, ← hR] at h
    rw [hW3]; exact h
  have HPQ : Hid (P = w.heap.size ∧ Q = w.heap.size + 1 ∧ R = w.heap.size + 1 + 1 ∧ R < W3.heap.size) := Bl.hid ⟨hP, hQ, hR, hBR.lt⟩
  have HE3 := Bl.hid hE3
  have HBP := Bl.hid hBP
  have HBQ := Bl.hid hBQ
  have HBR := Bl.hid hBR
  have Hl0 := Bl.hid (hBP.load (P := Tryd.prog) Tryd.underlying26 rfl (by kernel_rfl))
  have HAp := Bl.hid (apart_any (.agg (Bl.cL l vp0 vs0 vb0).toArray) l W3 (HC.out.ext hE3) hLg)
  unfold Bl.cL at hW3
  clear hs1 hs2 hE3 hBP hBQ hBR hc hLg hid hone0
  show Calls Tryd.prog 10 #[.agg #[.int .i64 l.kind, .int .i64 l.id, .int .i64 l.obj, vp0, vs0, .int .i64 l.frm, .int .i64 l.cnt, vb0, .int .i64 l.code], .agg #[.int .i64 k, .int .i64 at', .int .i64 y]] w _
  go_enter Tryd.func10, Tryd.ntmps10
  go_wp2_with (with_reducible refine Bl.stop_load (ty := 26) ?_)
  refine Bl.go_on ?_
  rw [← hW3, ← hR, ← hQ, ← hP]
  clear hW3 hR hQ hP
  refine Bl.wpL_load rfl Hl0.out ?_
  go_wp2_with fail
  refine HAp.out.mono ?_
  rintro e w4 ⟨vp, vs, vb, L, M, N1, N2, N3, N4, N5, rfl, hA, hE4⟩
  obtain ⟨o1, o2, o3, o4, o5, o6⟩ := hA.ords
  have hF := hA.ltf
  have hone := hF.ltc.one
  have hBP4 := HBP.out.ext hE4
  have Hst := Bl.hid (hBP4.store (P := Tryd.prog) (cs' := Bl.cL l vp vs vb) rfl hone (ty := 26) (by kernel_rfl))
  obtain ⟨B, hB⟩ : ∃ z, z = W3.heap.size := ⟨_, rfl⟩
  rw [← hB] at hA hF o1
  obtain ⟨w5, hw5⟩ : ∃ W, W = w4.setCells P 0 (Bl.cL l vp vs vb) := ⟨_, rfl⟩
  have hK5 : Bl.Kq (fun k => k = P) w4 w5 := by rw [hw5]; exact (Bl.Kq.refl w4).setCells (Q := fun k => k = P) rfl 0 _
  have HX : Hid (P = w.heap.size ∧ Q = w.heap.size + 1 ∧ R = w.heap.size + 1 + 1 ∧ R < B ∧ B = W3.heap.size) := Bl.hid ⟨HPQ.out.1, HPQ.out.2.1, HPQ.out.2.2.1, by rw [hB]; exact HPQ.out.2.2.2, hB⟩
  have HBP5 : Hid (Bl.BoxC w5 P (Bl.cL l vp vs vb)) := Bl.hid (by rw [hw5]; exact hBP4.set rfl)
  have HBQ5 := Bl.hid (hK5.box (by have := HX.out; omega) (HBQ.out.ext hE4))
  have HBR5 := Bl.hid (hK5.box (by have := HX.out; omega) (HBR.out.ext hE4))
  have HA5 := Bl.hid (hA.kept (w' := w5) (fun b h1 h2 => hK5.block b h2 (by have := HX.out; omega)) hK5.size (Nat.le_refl B))
  have HE5 : Hid (Bl.Ext w w5) := Bl.hid ((HE3.out.trans hE4).trans' (N := w.heap.size) (hK5.mono fun k hk q => by have := HX.out; omega) (Nat.le_refl _))
  have HK5 : Hid (Bl.Kq (fun k => w.heap.size ≤ k) w w5) := Bl.hid (Bl.Kq.of_ext HE5.out)
  have Hbds : Hid (L.length ≤ 30 ∧ ∀ x ∈ L, x.2.1.2.length ≤ 100) := Bl.hid ⟨by have h := HLg.out.sh; rw [← hA.sl, List.length_map] at h; exact h, fun x hx => (HLg.out.st (Bl.plS x) (by rw [← hA.sl]; exact List.mem_map_of_mem hx)).1⟩
  clear hA hF hone hE4 hBP4 hB hK5 o1 o2 o3 o4 o5 o6 HPQ HE3 HBP HBQ HBR Hl0 HAp
  go_wp2_with (with_reducible refine Bl.stop_store (ty := 26) ?_)
  refine Bl.go_on ?_
  refine Bl.wpL_store0 rfl rfl Hst.out ?_
  rw [← hw5]
  clear hw5 Hst
  have qk := HBQ5.out.cell (i := 0) rfl
  have HBz := HBP5
  have HFz := Bl.hid HA5.out.ltf
  have HBRz := HBR5
  have HKz := HK5

  have Hl9 := Bl.hid (HBz.out.load (P := Tryd.prog) Tryd.underlying26 rfl (by kernel_rfl))
  have hone9 := HFz.out.ltc.one
  have Hst9 := Bl.hid (HBRz.out.store (P := Tryd.prog) (cs' := Bl.cL l vp vs vb) rfl hone9 (ty := 26) (by kernel_rfl))
  have HBR9 := Bl.hid (HBRz.out.set (cs' := Bl.cL l vp vs vb) rfl)
  have HK9 := Bl.hid ((Bl.Kq.refl (w5)).setCells (Q := fun k => k = R) rfl 0 (Bl.cL l vp vs vb))
  have HE9 := Bl.hid (HKz.out.trans (HK9.out.mono (Q' := fun k => w.heap.size ≤ k) fun k hk q => by have := HX.out; omega))
  clear hone9
  go_wp2_with (with_reducible refine Bl.stop_load (ty := 26) ?_)
  refine Bl.go_on ?_
  refine Bl.wpL_load rfl Hl9.out ?_
  go_wp2_with (with_reducible refine Bl.stop_store (ty := 26) ?_)
  refine Bl.go_on ?_
  refine Bl.wpL_store0 rfl rfl Hst9.out ?_
  go_wp2_with fail
  refine bodyPost_ret (v := .tuple #[.agg (Bl.cL l vp vs vb).toArray, .bool true]) (Bl.results_cell2 rfl rfl (HBR9.out.loadVar (P := Tryd.prog) Tryd.underlying26 rfl (by kernel_rfl)) rfl) rfl ?_
  have hsp := (show Bl.bendL k at' y l = (l, true) from by
    unfold Bl.bendL
    rw [if_neg hk9, if_neg hk6, if_neg hk7, if_neg hk8, if_neg (fun q => hk1 q.1), Bl.bendA_other hk1 hk2 hk3 hk4 hk5])
  unfold Bl.BeR
  rw [hsp]
  exact ⟨_, rfl, ⟨_, _, _, _, _, rfl, (HFz.out.kept (F' := fun k => B ≤ k) fun k hk hlk => ⟨hk, HK9.out.block k hlk (by have := HX.out; omega)⟩).ltc⟩, HE9.out.ext fun k q => q⟩

set_option maxRecDepth 100000 in
set_option maxHeartbeats 8000000 in
theorem bend6 (at' y : Int) (v : Value) (l : Bl.LT) (w : World) (h : Bl.LtV w v l) (hLg : Bl.LgL l) (hid : -1125899906842624 ≤ l.id ∧ l.id ≤ 1125899906842624) :
    Calls Tryd.prog 10 #[v, .agg #[.int .i64 6, .int .i64 at', .int .i64 y]] w fun e w' => Bl.BeR 6 at' y l w e w' := by
  obtain ⟨cs0, vp0, vs0, vb0, L0, rfl, hc⟩ := h
  obtain rfl := hc.eq
  have HC : Hid (Bl.LtV w (.agg (Bl.cL l vp0 vs0 vb0).toArray) l) := Bl.hid ⟨_, vp0, vs0, vb0, L0, rfl, hc⟩
  have hone0 : ∀ c ∈ Bl.cL l vp0 vs0 vb0, c.oneCell' = true := hc.one
  have HLg := Bl.hid hLg
  have Hid' := Bl.hid hid
  obtain ⟨P, hP⟩ : ∃ z, z = w.heap.size := ⟨_, rfl⟩
  obtain ⟨Q, hQ⟩ : ∃ z, z = w.heap.size + 1 := ⟨_, rfl⟩
  obtain ⟨R, hR⟩ : ∃ z, z = w.heap.size + 1 + 1 := ⟨_, rfl⟩
  obtain ⟨W3, hW3⟩ : ∃ W, W = ((w.alloc (.cells (Bl.cL l vp0 vs0 vb0).toArray 26)).alloc (.cells #[.int .i64 6, .int .i64 at', .int .i64 y] 28)).alloc (.cells Bl.zL 26) := ⟨_, rfl⟩
  have hs1 : (w.alloc (.cells (Bl.cL l vp0 vs0 vb0).toArray 26)).heap.size = w.heap.size + 1 := World.size_alloc _ _
  have hs2 : ((w.alloc (.cells (Bl.cL l vp0 vs0 vb0).toArray 26)).alloc (.cells #[.int .i64 6, .int .i64 at', .int .i64 y] 28)).heap.size = w.heap.size + 1 + 1 := by rw [World.size_alloc, hs1]
  have hE3 : Bl.Ext w W3 := by rw [hW3]; exact ((Bl.ext_alloc _ _).trans (Bl.ext_alloc _ _)).trans (Bl.ext_alloc _ _)
  have hBP : Bl.BoxC W3 P (Bl.cL l vp0 vs0 vb0) := by
    rw [hW3, hP]; exact ((Bl.BoxC.box w 26 (Bl.cL_ne _ _ _ _)).ext (Bl.ext_alloc _ _)).ext (Bl.ext_alloc _ _)
  have hBQ : Bl.BoxC W3 Q [.int .i64 6, .int .i64 at', .int .i64 y] := by
    have h := Bl.BoxC.box (cs := [.int .i64 6, .int .i64 at', .int .i64 y]) (w.alloc (.cells (Bl.cL l vp0 vs0 vb0).toArray 26)) 28 (fun q => by cases q)
    rw [hs1, ← hQ] at h
    rw [hW3]; exact h.ext (Bl.ext_alloc _ _)
  have hBR : Bl.BoxC W3 R Bl.zL.toList := by
    have h := Bl.BoxC.box (cs := Bl.zL.toList) ((w.alloc (.cells (Bl.cL l vp0 vs0 vb0).toArray 26)).alloc (.cells #[.int .i64 6, .int .i64 at', .int .i64 y] 28)) 26 (fun q => by cases q)
    rw [hs2, ← hR] at h
    rw [hW3]; exact h
  have HPQ : Hid (P = w.heap.size ∧ Q = w.heap.size + 1 ∧ R = w.heap.size + 1 + 1 ∧ R < W3.heap.size) := Bl.hid ⟨hP, hQ, hR, hBR.lt⟩
  have HE3 := Bl.hid hE3
  have HBP := Bl.hid hBP
  have HBQ := Bl.hid hBQ
  have HBR := Bl.hid hBR
  have Hl0 := Bl.hid (hBP.load (P := Tryd.prog) Tryd.underlying26 rfl (by kernel_rfl))
  have HAp := Bl.hid (apart_any (.agg (Bl.cL l vp0 vs0 vb0).toArray) l W3 (HC.out.ext hE3) hLg)
  unfold Bl.cL at hW3
  clear hs1 hs2 hE3 hBP hBQ hBR hc hLg hid hone0
  show Calls Tryd.prog 10 #[.agg #[.int .i64 l.kind, .int .i64 l.id, .int .i64 l.obj, vp0, vs0, .int .i64 l.frm, .int .i64 l.cnt, vb0, .int .i64 l.code], .agg #[.int .i64 6, .int .i64 at', .int .i64 y]] w _
  go_enter Tryd.func10, Tryd.ntmps10
  go_wp2_with (with_reducible refine Bl.stop_load (ty := 26) ?_)
  refine Bl.go_on ?_
  rw [← hW3, ← hR, ← hQ, ← hP]
  clear hW3 hR hQ hP
  refine Bl.wpL_load rfl Hl0.out ?_
  go_wp2_with fail
  refine HAp.out.mono ?_
  rintro e w4 ⟨vp, vs, vb, L, M, N1, N2, N3, N4, N5, rfl, hA, hE4⟩
  obtain ⟨o1, o2, o3, o4, o5, o6⟩ := hA.ords
  have hF := hA.ltf
  have hone := hF.ltc.one
  have hBP4 := HBP.out.ext hE4
  have Hst := Bl.hid (hBP4.store (P := Tryd.prog) (cs' := Bl.cL l vp vs vb) rfl hone (ty := 26) (by kernel_rfl))
  obtain ⟨B, hB⟩ : ∃ z, z = W3.heap.size := ⟨_, rfl⟩
  rw [← hB] at hA hF o1
  obtain ⟨w5, hw5⟩ : ∃ W, W = w4.setCells P 0 (Bl.cL l vp vs vb) := ⟨_, rfl⟩
  have hK5 : Bl.Kq (fun k => k = P) w4 w5 := by rw [hw5]; exact (Bl.Kq.refl w4).setCells (Q := fun k => k = P) rfl 0 _
  have HX : Hid (P = w.heap.size ∧ Q = w.heap.size + 1 ∧ R = w.heap.size + 1 + 1 ∧ R < B ∧ B = W3.heap.size) := Bl.hid ⟨HPQ.out.1, HPQ.out.2.1, HPQ.out.2.2.1, by rw [hB]; exact HPQ.out.2.2.2, hB⟩
  have HBP5 : Hid (Bl.BoxC w5 P (Bl.cL l vp vs vb)) := Bl.hid (by rw [hw5]; exact hBP4.set rfl)
  have HBQ5 := Bl.hid (hK5.box (by have := HX.out; omega) (HBQ.out.ext hE4))
  have HBR5 := Bl.hid (hK5.box (by have := HX.out; omega) (HBR.out.ext hE4))
  have HA5 := Bl.hid (hA.kept (w' := w5) (fun b h1 h2 => hK5.block b h2 (by have := HX.out; omega)) hK5.size (Nat.le_refl B))
  have HE5 : Hid (Bl.Ext w w5) := Bl.hid ((HE3.out.trans hE4).trans' (N := w.heap.size) (hK5.mono fun k hk q => by have := HX.out; omega) (Nat.le_refl _))
  have HK5 : Hid (Bl.Kq (fun k => w.heap.size ≤ k) w w5) := Bl.hid (Bl.Kq.of_ext HE5.out)
  have Hbds : Hid (L.length ≤ 30 ∧ ∀ x ∈ L, x.2.1.2.length ≤ 100) := Bl.hid ⟨by have h := HLg.out.sh; rw [← hA.sl, List.length_map] at h; exact h, fun x hx => (HLg.out.st (Bl.plS x) (by rw [← hA.sl]; exact List.mem_map_of_mem hx)).1⟩
  clear hA hF hone hE4 hBP4 hB hK5 o1 o2 o3 o4 o5 o6 HPQ HE3 HBP HBQ HBR Hl0 HAp
  go_wp2_with (with_reducible refine Bl.stop_store (ty := 26) ?_)
  refine Bl.go_on ?_
  refine Bl.wpL_store0 rfl rfl Hst.out ?_
  rw [← hw5]
  clear hw5 Hst
  have qk := HBQ5.out.cell (i := 0) rfl
  have Hl9 := Bl.hid (HBP5.out.load (P := Tryd.prog) Tryd.underlying26 rfl (by kernel_rfl))
  have HRf := Bl.hid (refusal_any 1 l vp vs vb w5)
  go_wp2_with (with_reducible refine Bl.stop_load (ty := 26) ?_)
  refine Bl.go_on ?_
  refine Bl.wpL_load rfl Hl9.out ?_
  go_wp2_with fail
  refine HRf.out.mono ?_
  rintro e w6 ⟨rfl, hE6⟩
  have HBRz := Bl.hid (HBR5.out.ext hE6)
  have HKz : Hid (Bl.Kq (fun k => w.heap.size ≤ k) w w6) := Bl.hid (HK5.out.trans (Bl.Kq.of_ext hE6))
  have Hst9 := Bl.hid (HBRz.out.store (P := Tryd.prog) (cs' := Bl.cL ⟨7, l.id, l.obj, [], [], 0, 0, [], 1⟩ (.slice none 0 0) (.slice none 0 0) (.slice none 0 0)) rfl (Bl.cL_one ⟨_, _, _, rfl⟩ ⟨_, _, _, rfl⟩ ⟨_, _, _, rfl⟩) (ty := 26) (by kernel_rfl))
  have HBR9 := Bl.hid (HBRz.out.set (cs' := Bl.cL ⟨7, l.id, l.obj, [], [], 0, 0, [], 1⟩ (.slice none 0 0) (.slice none 0 0) (.slice none 0 0)) rfl)
  have HE9 := Bl.hid (HKz.out.setCells (g := R) (by have := HX.out; omega) 0 (Bl.cL ⟨7, l.id, l.obj, [], [], 0, 0, [], 1⟩ (.slice none 0 0) (.slice none 0 0) (.slice none 0 0)))
  clear hE6
  go_wp2_with (with_reducible refine Bl.stop_store (ty := 26) ?_)
  refine Bl.go_on ?_
  refine Bl.wpL_store0 rfl rfl Hst9.out ?_
  go_wp2_with fail
  refine bodyPost_ret (v := .tuple #[.agg (Bl.cL ⟨7, l.id, l.obj, [], [], 0, 0, [], 1⟩ (.slice none 0 0) (.slice none 0 0) (.slice none 0 0)).toArray, .bool true]) (Bl.results_cell2 rfl rfl (HBR9.out.loadVar (P := Tryd.prog) Tryd.underlying26 rfl (by kernel_rfl)) rfl) rfl ?_
  exact ⟨_, rfl, ⟨_, _, _, _, [], rfl, (Bl.LtF.nil (fun _ => True) _ _ _ _ _ _ _).ltc⟩, HE9.out.ext fun k q => q⟩

set_option maxRecDepth 100000 in
set_option maxHeartbeats 8000000 in
theorem bend9 (at' y : Int) (v : Value) (l : Bl.LT) (w : World) (h : Bl.LtV w v l) (hLg : Bl.LgL l) (hid : -1125899906842624 ≤ l.id ∧ l.id ≤ 1125899906842624) :
    Calls Tryd.prog 10 #[v, .agg #[.int .i64 9, .int .i64 at', .int .i64 y]] w fun e w' => Bl.BeR 9 at' y l w e w' := by
  obtain ⟨cs0, vp0, vs0, vb0, L0, rfl, hc⟩ := h
  obtain rfl := hc.eq
  have HC : Hid (Bl.LtV w (.agg (Bl.cL l vp0 vs0 vb0).toArray) l) := Bl.hid ⟨_, vp0, vs0, vb0, L0, rfl, hc⟩
  have hone0 : ∀ c ∈ Bl.cL l vp0 vs0 vb0, c.oneCell' = true := hc.one
  have HLg := Bl.hid hLg
  have Hid' := Bl.hid hid
  obtain ⟨P, hP⟩ : ∃ z, z = w.heap.size := ⟨_, rfl⟩
  obtain ⟨Q, hQ⟩ : ∃ z, z = w.heap.size + 1 := ⟨_, rfl⟩
  obtain ⟨R, hR⟩ : ∃ z, z = w.heap.size + 1 + 1 := ⟨_, rfl⟩
  obtain ⟨W3, hW3⟩ : ∃ W, W = ((w.alloc (.cells (Bl.cL l vp0 vs0 vb0).toArray 26)).alloc (.cells #[.int .i64 9, .int .i64 at', .int .i64 y] 28)).alloc (.cells Bl.zL 26) := ⟨_, rfl⟩
  have hs1 : (w.alloc (.cells (Bl.cL l vp0 vs0 vb0).toArray 26)).heap.size = w.heap.size + 1 := World.size_alloc _ _
  have hs2 : ((w.alloc (.cells (Bl.cL l vp0 vs0 vb0).toArray 26)).alloc (.cells #[.int .i64 9, .int .i64 at', .int .i64 y] 28)).heap.size = w.heap.size + 1 + 1 := by rw [World.size_alloc, hs1]
  have hE3 : Bl.Ext w W3 := by rw [hW3]; exact ((Bl.ext_alloc _ _).trans (Bl.ext_alloc _ _)).trans (Bl.ext_alloc _ _)
  have hBP : Bl.BoxC W3 P (Bl.cL l vp0 vs0 vb0) := by
    rw [hW3, hP]; exact ((Bl.BoxC.box w 26 (Bl.cL_ne _ _ _ _)).ext (Bl.ext_alloc _ _)).ext (Bl.ext_alloc _ _)
  have hBQ : Bl.BoxC W3 Q [.int .i64 9, .int .i64 at', .int .i64 y] := by
    have h := Bl.BoxC.box (cs := [.int .i64 9, .int .i64 at', .int .i64 y]) (w.alloc (.cells (Bl.cL l vp0 vs0 vb0).toArray 26)) 28 (fun q => by cases q)
    rw [hs1, ← hQ] at h
    rw [hW3]; exact h.ext (Bl.ext_alloc _ _)
  have hBR : Bl.BoxC W3 R Bl.zL.toList := by
    have h := Bl.BoxC.box (cs := Bl.zL.toList) ((w.alloc (.cells (Bl.cL l vp0 vs0 vb0).toArray 26)).alloc (.cells #[.int .i64 9, .int .i64 at', .int .i64 y] 28)) 26 (fun q => by cases q)
    rw [hs2, ← hR] at h
    rw [hW3]; exact h
  have HPQ : Hid (P = w.heap.size ∧ Q = w.heap.size + 1 ∧ R = w.heap.size + 1 + 1 ∧ R < W3.heap.size) := Bl.hid ⟨hP, hQ, hR, hBR.lt⟩
  have HE3 := Bl.hid hE3
  have HBP := Bl.hid hBP
  have HBQ := Bl.hid hBQ
  have HBR := Bl.hid hBR
  have Hl0 := Bl.hid (hBP.load (P := Tryd.prog) Tryd.underlying26 rfl (by kernel_rfl))
  have HAp := Bl.hid (apart_any (.agg (Bl.cL l vp0 vs0 vb0).toArray) l W3 (HC.out.ext hE3) hLg)
  unfold Bl.cL at hW3
  clear hs1 hs2 hE3 hBP hBQ hBR hc hLg hid hone0
  show Calls Tryd.prog 10 #[.agg #[.int .i64 l.kind, .int .i64 l.id, .int .i64 l.obj, vp0, vs0, .int .i64 l.frm, .int .i64 l.cnt, vb0, .int .i64 l.code], .agg #[.int .i64 9, .int .i64 at', .int .i64 y]] w _
  go_enter Tryd.func10, Tryd.ntmps10
  go_wp2_with (with_reducible refine Bl.stop_load (ty := 26) ?_)
  refine Bl.go_on ?_
  rw [← hW3, ← hR, ← hQ, ← hP]
  clear hW3 hR hQ hP
  refine Bl.wpL_load rfl Hl0.out ?_
  go_wp2_with fail
  refine HAp.out.mono ?_
  rintro e w4 ⟨vp, vs, vb, L, M, N1, N2, N3, N4, N5, rfl, hA, hE4⟩
  obtain ⟨o1, o2, o3, o4, o5, o6⟩ := hA.ords
  have hF := hA.ltf
  have hone := hF.ltc.one
  have hBP4 := HBP.out.ext hE4
  have Hst := Bl.hid (hBP4.store (P := Tryd.prog) (cs' := Bl.cL l vp vs vb) rfl hone (ty := 26) (by kernel_rfl))
  obtain ⟨B, hB⟩ : ∃ z, z = W3.heap.size := ⟨_, rfl⟩
  rw [← hB] at hA hF o1
  obtain ⟨w5, hw5⟩ : ∃ W, W = w4.setCells P 0 (Bl.cL l vp vs vb) := ⟨_, rfl⟩
  have hK5 : Bl.Kq (fun k => k = P) w4 w5 := by rw [hw5]; exact (Bl.Kq.refl w4).setCells (Q := fun k => k = P) rfl 0 _
  have HX : Hid (P = w.heap.size ∧ Q = w.heap.size + 1 ∧ R = w.heap.size + 1 + 1 ∧ R < B ∧ B = W3.heap.size) := Bl.hid ⟨HPQ.out.1, HPQ.out.2.1, HPQ.out.2.2.1, by rw [hB]; exact HPQ.out.2.2.2, hB⟩
  have HBP5 : Hid (Bl.BoxC w5 P (Bl.cL l vp vs vb)) := Bl.hid (by rw [hw5]; exact hBP4.set rfl)
  have HBQ5 := Bl.hid (hK5.box (by have := HX.out; omega) (HBQ.out.ext hE4))
  have HBR5 := Bl.hid (hK5.box (by have := HX.out; omega) (HBR.out.ext hE4))
  have HA5 := Bl.hid (hA.kept (w' := w5) (fun b h1 h2 => hK5.block b h2 (by have := HX.out; omega)) hK5.size (Nat.le_refl B))
  have HE5 : Hid (Bl.Ext w w5) := Bl.hid ((HE3.out.trans hE4).trans' (N := w.heap.size) (hK5.mono fun k hk q => by have := HX.out; omega) (Nat.le_refl _))
  have HK5 : Hid (Bl.Kq (fun k => w.heap.size ≤ k) w w5) := Bl.hid (Bl.Kq.of_ext HE5.out)
  have Hbds : Hid (L.length ≤ 30 ∧ ∀ x ∈ L, x.2.1.2.length ≤ 100) := Bl.hid ⟨by have h := HLg.out.sh; rw [← hA.sl, List.length_map] at h; exact h, fun x hx => (HLg.out.st (Bl.plS x) (by rw [← hA.sl]; exact List.mem_map_of_mem hx)).1⟩
  clear hA hF hone hE4 hBP4 hB hK5 o1 o2 o3 o4 o5 o6 HPQ HE3 HBP HBQ HBR Hl0 HAp
  go_wp2_with (with_reducible refine Bl.stop_store (ty := 26) ?_)
  refine Bl.go_on ?_
  refine Bl.wpL_store0 rfl rfl Hst.out ?_
  rw [← hw5]
  clear hw5 Hst
  have qk := HBQ5.out.cell (i := 0) rfl
  have hz : ∀ c ∈ Bl.zL.toList, c.oneCell' = true := fun c hc => by
    simp only [List.mem_cons, List.not_mem_nil, or_false] at hc
    rcases hc with rfl | rfl | rfl | rfl | rfl | rfl | rfl | rfl | rfl <;> rfl
  have Hst9 := Bl.hid (HBR5.out.store (P := Tryd.prog) (cs' := Bl.zL.toList) rfl hz (ty := 26) (by kernel_rfl))
  have HBR9 := Bl.hid (HBR5.out.set (cs' := Bl.zL.toList) rfl)
  have HE9 := Bl.hid (HK5.out.setCells (g := R) (by have := HX.out; omega) 0 Bl.zL.toList)
  clear hz
  go_wp2_with (with_reducible refine Bl.stop_store (ty := 26) ?_)
  refine Bl.go_on ?_
  refine Bl.wpL_store0 rfl rfl Hst9.out ?_
  go_wp2_with fail
  refine bodyPost_ret (v := .tuple #[.agg Bl.zL, .bool false]) (Bl.results_cell2 rfl rfl (HBR9.out.loadVar (P := Tryd.prog) Tryd.underlying26 rfl (by kernel_rfl)) rfl) rfl ?_
  exact ⟨_, rfl, Bl.LtV.zero _, HE9.out.ext fun k q => q⟩
end Go.Proofs.YtmmolapkddbibaaDoor

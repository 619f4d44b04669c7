/- Texts that stood apart, in one: FoeBd, FoeBe. -/
import Derived.Test.YtmmolapkddbibaaDoorFoSb
import Derived.Test.YtmmolapkddbibaaDoorFoe4
import Derived.Test.YtmmolapkddbibaaDoorLDs
import Derived.Test.YtmmolapkddbibaaDoorLet2b
/- Walk of foe.Bend. -/
namespace Go.Proofs.YtmmolapkddbibaaDoor
open Go Go.RowKit Go.Proofs

set_option maxRecDepth 100000 in
set_option maxHeartbeats 8000000 in
theorem bend7 (at' y : Int) (v : Value) (l : Bl.LT) (w : World) (h : Bl.LtV w v l) (hLg : Bl.LgL l) (hid : -1125899906842624 ≤ l.id ∧ l.id ≤ 1125899906842624) :
    Calls Tryd.prog 10 #[v, .agg #[.int .i64 7, .int .i64 at', .int .i64 y]] w fun e w' => Bl.BeR 7 at' y l w e w' := by
  obtain ⟨cs0, vp0, vs0, vb0, L0, rfl, hc⟩ := h
  obtain rfl := hc.eq
  have HC : Hid (Bl.LtV w (.agg (Bl.cL l vp0 vs0 vb0).toArray) l) := Bl.hid ⟨_, vp0, vs0, vb0, L0, rfl, hc⟩
  have hone0 : ∀ c ∈ Bl.cL l vp0 vs0 vb0, c.oneCell' = true := hc.one
  have HLg := Bl.hid hLg
  have Hid' := Bl.hid hid
  obtain ⟨P, hP⟩ : ∃ z, z = w.heap.size := ⟨_, rfl⟩
  obtain ⟨Q, hQ⟩ : ∃ z, z = w.heap.size + 1 := ⟨_, rfl⟩
  obtain ⟨R, hR⟩ : ∃ z, z = w.heap.size + 1 + 1 := ⟨_, rfl⟩
  obtain ⟨W3, hW3⟩ : ∃ W, W = ((w.alloc (.cells (Bl.cL l vp0 vs0 vb0).toArray 26)).alloc (.cells #[.int .i64 7, .int .i64 at', .int .i64 y] 28)).alloc (.cells Bl.zL 26) := ⟨_, rfl⟩
  have hs1 : (w.alloc (.cells (Bl.cL l vp0 vs0 vb0).toArray 26)).heap.size = w.heap.size + 1 := World.size_alloc _ _
  have hs2 : ((w.alloc (.cells (Bl.cL l vp0 vs0 vb0).toArray 26)).alloc (.cells #[.int .i64 7, .int .i64 at', .int .i64 y] 28)).heap.size = w.heap.size + 1 + 1 := by rw [World.size_alloc, hs1]
  have hE3 : Bl.Ext w W3 := by rw [hW3]; exact ((Bl.ext_alloc _ _).trans (Bl.ext_alloc _ _)).trans (Bl.ext_alloc _ _)
  have hBP : Bl.BoxC W3 P (Bl.cL l vp0 vs0 vb0) := by
    rw [hW3, hP]; exact ((Bl.BoxC.box w 26 (Bl.cL_ne _ _ _ _)).ext (Bl.ext_alloc _ _)).ext (Bl.ext_alloc _ _)
  have hBQ : Bl.BoxC W3 Q [.int .i64 7, .int .i64 at', .int .i64 y] := by
    have h := Bl.BoxC.box (cs := [.int .i64 7, .int .i64 at', .int .i64 y]) (w.alloc (.cells (Bl.cL l vp0 vs0 vb0).toArray 26)) 28 (fun q => by cases q)
    rw [hs1, ← hQ] at h
    rw [hW3]; exact h.ext (Bl.ext_alloc _ _)
  have hBR : Bl.BoxC W3 R Bl.zL.toList := by
    have h := Bl.BoxC.box (cs := Bl.zL.toList) ((w.alloc (.cells (Bl.cL l vp0 vs0 vb0).toArray 26)).alloc (.cells #[.int .i64 7, .int .i64 at', .int .i64 y] 28)) 26 (fun q => by cases q)
    rw [hs2, ← hR] at h
    rw [hW3]; exact h
  have HPQ : Hid (P = w.heap.size ∧ Q = w.heap.size + 1 ∧ R = w.heap.size + 1 + 1 ∧ R < W3.heap.size) := Bl.hid ⟨hP, hQ, hR, hBR.lt⟩
  have HE3 := Bl.hid hE3
  have HBP := Bl.hid hBP
  have HBQ := Bl.hid hBQ
  have HBR := Bl.hid hBR
  have Hl0 := Bl.hid (hBP.load (P := Tryd.prog) Tryd.underlying26 rfl (by kernel_rfl))
  have HAp := Bl.hid (apart_any (.agg (Bl.cL l vp0 vs0 vb0).toArray) l W3 (HC.out.ext hE3) hLg)
  unfold Bl.cL at hW3
  clear hs1 hs2 hE3 hBP hBQ hBR hc hLg hid hone0
  show Calls Tryd.prog 10 #[.agg #[.int .i64 l.kind, .int .i64 l.id, .int .i64 l.obj, vp0, vs0, .int .i64 l.frm, .int .i64 l.cnt, vb0, .int .i64 l.code], .agg #[.int .i64 7, .int .i64 at', .int .i64 y]] w _
  go_enter Tryd.func10, Tryd.ntmps10
  go_wp2_with (with_reducible refine Bl.stop_load (ty := 26) ?_)
  refine Bl.go_on ?_
  rw [← hW3, ← hR, ← hQ, ← hP]
  clear hW3 hR hQ hP
  refine Bl.wpL_load rfl Hl0.out ?_
  go_wp2_with fail
  refine HAp.out.mono ?_
  rintro e w4 ⟨vp, vs, vb, L, M, N1, N2, N3, N4, N5, rfl, hA, hE4⟩
  obtain ⟨o1, o2, o3, o4, o5, o6⟩ := hA.ords
  have hF := hA.ltf
  have hone := hF.ltc.one
  have hBP4 := HBP.out.ext hE4
  have Hst := Bl.hid (hBP4.store (P := Tryd.prog) (cs' := Bl.cL l vp vs vb) rfl hone (ty := 26) (by kernel_rfl))
  obtain ⟨B, hB⟩ : ∃ z, z = W3.heap.size := ⟨_, rfl⟩
  rw [← hB] at hA hF o1
  obtain ⟨w5, hw5⟩ : ∃ W, W = w4.setCells P 0 (Bl.cL l vp vs vb) := ⟨_, rfl⟩
  have hK5 : Bl.Kq (fun k => k = P) w4 w5 := by rw [hw5]; exact (Bl.Kq.refl w4).setCells (Q := fun k => k = P) rfl 0 _
  have HX : Hid (P = w.heap.size ∧ Q = w.heap.size + 1 ∧ R = w.heap.size + 1 + 1 ∧ R < B ∧ B = W3.heap.size) := Bl.hid ⟨HPQ.out.1, HPQ.out.2.1, HPQ.out.2.2.1, by rw [hB]; exact HPQ.out.2.2.2, hB⟩
  have HBP5 : Hid (Bl.BoxC w5 P (Bl.cL l vp vs vb)) := Bl.hid (by rw [hw5]; exact hBP4.set rfl)
  have HBQ5 := Bl.hid (hK5.box (by have := HX.out; omega) (HBQ.out.ext hE4))
  have HBR5 := Bl.hid (hK5.box (by have := HX.out; omega) (HBR.out.ext hE4))
  have HA5 := Bl.hid (hA.kept (w' := w5) (fun b h1 h2 => hK5.block b h2 (by have := HX.out; omega)) hK5.size (Nat.le_refl B))
  have HE5 : Hid (Bl.Ext w w5) := Bl.hid ((HE3.out.trans hE4).trans' (N := w.heap.size) (hK5.mono fun k hk q => by have := HX.out; omega) (Nat.le_refl _))
  have HK5 : Hid (Bl.Kq (fun k => w.heap.size ≤ k) w w5) := Bl.hid (Bl.Kq.of_ext HE5.out)
  have Hbds : Hid (L.length ≤ 30 ∧ ∀ x ∈ L, x.2.1.2.length ≤ 100) := Bl.hid ⟨by have h := HLg.out.sh; rw [← hA.sl, List.length_map] at h; exact h, fun x hx => (HLg.out.st (Bl.plS x) (by rw [← hA.sl]; exact List.mem_map_of_mem hx)).1⟩
  clear hA hF hone hE4 hBP4 hB hK5 o1 o2 o3 o4 o5 o6 HPQ HE3 HBP HBQ HBR Hl0 HAp
  go_wp2_with (with_reducible refine Bl.stop_store (ty := 26) ?_)
  refine Bl.go_on ?_
  refine Bl.wpL_store0 rfl rfl Hst.out ?_
  rw [← hw5]
  clear hw5 Hst
  have qk := HBQ5.out.cell (i := 0) rfl
  have qi := HBP5.out.cell (i := 1) rfl
  have fi := HBP5.out.fz (i := 1) (show 1 < 9 by decide)

  have HR := Bl.hid (rest_any (l.id + 1) 1099511627777 w5 (by decide) (by decide))
  have hid1 := Hid'.out.1
  have hid2 := Hid'.out.2
  go_wp2_with fail
  refine HR.out.mono ?_
  rintro e w6 ⟨rfl, hw6⟩
  subst hw6
  clear hid1 hid2

  have HBz : Hid (Bl.BoxC (w5.setCell ⟨P, 1, none⟩ (.int .i64 ((l.id + 1) % 1099511627777))) P (Bl.cL { l with id := (l.id + 1) % 1099511627777 } vp vs vb)) := Bl.hid (HBP5.out.put (i := 1) (show 1 < 9 by decide) (.int .i64 ((l.id + 1) % 1099511627777)))
  have hKs : Bl.Kq (fun k => k = P) w5 (w5.setCell ⟨P, 1, none⟩ (.int .i64 ((l.id + 1) % 1099511627777))) := (Bl.Kq.refl w5).setCell (Q := fun k => k = P) ⟨P, 1, none⟩ rfl _
  have HFz : Hid (Bl.LtF (fun b => B ≤ b) (w5.setCell ⟨P, 1, none⟩ (.int .i64 ((l.id + 1) % 1099511627777))) { l with id := (l.id + 1) % 1099511627777 } vp vs vb L) := Bl.hid (by
    have h := HA5.out.ltf.kept (w' := w5.setCell ⟨P, 1, none⟩ (.int .i64 ((l.id + 1) % 1099511627777))) (F' := fun b => B ≤ b) fun b hb hl => ⟨hb, hKs.block b hl (by have := HX.out; omega)⟩
    exact ⟨h.pl, h.sh, h.so, h.sl, h.bl⟩)
  have HBRz := Bl.hid (hKs.box (by have := HX.out; omega) HBR5.out)
  have HKz : Hid (Bl.Kq (fun k => w.heap.size ≤ k) w (w5.setCell ⟨P, 1, none⟩ (.int .i64 ((l.id + 1) % 1099511627777)))) := Bl.hid (HK5.out.trans (hKs.mono fun k hk q => by have := HX.out; omega))
  clear hKs

  have Hl9 := Bl.hid (HBz.out.load (P := Tryd.prog) Tryd.underlying26 rfl (by kernel_rfl))
  have hone9 := HFz.out.ltc.one
  have Hst9 := Bl.hid (HBRz.out.store (P := Tryd.prog) (cs' := Bl.cL { l with id := (l.id + 1) % 1099511627777 } vp vs vb) rfl hone9 (ty := 26) (by kernel_rfl))
  have HBR9 := Bl.hid (HBRz.out.set (cs' := Bl.cL { l with id := (l.id + 1) % 1099511627777 } vp vs vb) rfl)
  have HK9 := Bl.hid ((Bl.Kq.refl (w5.setCell ⟨P, 1, none⟩ (.int .i64 ((l.id + 1) % 1099511627777)))).setCells (Q := fun k => k = R) rfl 0 (Bl.cL { l with id := (l.id + 1) % 1099511627777 } vp vs vb))
  have HE9 := Bl.hid (HKz.out.trans (HK9.out.mono (Q' := fun k => w.heap.size ≤ k) fun k hk q => by have := HX.out; omega))
  clear hone9
  go_wp2_with (with_reducible refine Bl.stop_load (ty := 26) ?_)
  refine Bl.go_on ?_
  refine Bl.wpL_load rfl Hl9.out ?_
  go_wp2_with (with_reducible refine Bl.stop_store (ty := 26) ?_)
  refine Bl.go_on ?_
  refine Bl.wpL_store0 rfl rfl Hst9.out ?_
  go_wp2_with fail
  refine bodyPost_ret (v := .tuple #[.agg (Bl.cL { l with id := (l.id + 1) % 1099511627777 } vp vs vb).toArray, .bool true]) (Bl.results_cell2 rfl rfl (HBR9.out.loadVar (P := Tryd.prog) Tryd.underlying26 rfl (by kernel_rfl)) rfl) rfl ?_
  have hsp := (show Bl.bendL 7 at' y l = ({ l with id := (l.id + 1) % 1099511627777 }, true) from rfl)
  unfold Bl.BeR
  rw [hsp]
  exact ⟨_, rfl, ⟨_, _, _, _, _, rfl, (HFz.out.kept (F' := fun k => B ≤ k) fun k hk hlk => ⟨hk, HK9.out.block k hlk (by have := HX.out; omega)⟩).ltc⟩, HE9.out.ext fun k q => q⟩

set_option maxRecDepth 100000 in
set_option maxHeartbeats 8000000 in
theorem bend8 (at' y : Int) (v : Value) (l : Bl.LT) (w : World) (h : Bl.LtV w v l) (hLg : Bl.LgL l) (hid : -1125899906842624 ≤ l.id ∧ l.id ≤ 1125899906842624) :
    Calls Tryd.prog 10 #[v, .agg #[.int .i64 8, .int .i64 at', .int .i64 y]] w fun e w' => Bl.BeR 8 at' y l w e w' := by
  obtain ⟨cs0, vp0, vs0, vb0, L0, rfl, hc⟩ := h
  obtain rfl := hc.eq
  have HC : Hid (Bl.LtV w (.agg (Bl.cL l vp0 vs0 vb0).toArray) l) := Bl.hid ⟨_, vp0, vs0, vb0, L0, rfl, hc⟩
  have hone0 : ∀ c ∈ Bl.cL l vp0 vs0 vb0, c.oneCell' = true := hc.one
  have HLg := Bl.hid hLg
  have Hid' := Bl.hid hid
  obtain ⟨P, hP⟩ : ∃ z, z = w.heap.size := ⟨_, rfl⟩
  obtain ⟨Q, hQ⟩ : ∃ z, z = w.heap.size + 1 := ⟨_, rfl⟩
  obtain ⟨R, hR⟩ : ∃ z, z = w.heap.size + 1 + 1 := ⟨_, rfl⟩
  obtain ⟨W3, hW3⟩ : ∃ W, W = ((w.alloc (.cells (Bl.cL l vp0 vs0 vb0).toArray 26)).alloc (.cells #[.int .i64 8, .int .i64 at', .int .i64 y] 28)).alloc (.cells Bl.zL 26) := ⟨_, rfl⟩
  have hs1 : (w.alloc (.cells (Bl.cL l vp0 vs0 vb0).toArray 26)).heap.size = w.heap.size + 1 := World.size_alloc _ _
  have hs2 : ((w.alloc (.cells (Bl.cL l vp0 vs0 vb0).toArray 26)).alloc (.cells #[.int .i64 8, .int .i64 at', .int .i64 y] 28)).heap.size = w.heap.size + 1 + 1 := by rw [World.size_alloc, hs1]
  have hE3 : Bl.Ext w W3 := by rw [hW3]; exact ((Bl.ext_alloc _ _).trans (Bl.ext_alloc _ _)).trans (Bl.ext_alloc _ _)
  have hBP : Bl.BoxC W3 P (Bl.cL l vp0 vs0 vb0) := by
    rw [hW3, hP]; exact ((Bl.BoxC.box w 26 (Bl.cL_ne _ _ _ _)).ext (Bl.ext_alloc _ _)).ext (Bl.ext_alloc _ _)
  have hBQ : Bl.BoxC W3 Q [.int .i64 8, .int .i64 at', .int .i64 y] := by
    have h := Bl.BoxC.box (cs := [.int .i64 8, .int .i64 at', .int .i64 y]) (w.alloc (.cells (Bl.cL l vp0 vs0 vb0).toArray 26)) 28 (fun q => by cases q)
    rw [hs1, ← hQ] at h
    rw [hW3]; exact h.ext (Bl.ext_alloc _ _)
  have hBR : Bl.BoxC W3 R Bl.zL.toList := by
    have h := Bl.BoxC.box (cs := Bl.zL.toList) ((w.alloc (.cells (Bl.cL l vp0 vs0 vb0).toArray 26)).alloc (.cells #[.int .i64 8, .int .i64 at', .int .i64 y] 28)) 26 (fun q => by cases q)
    rw [hs2, ← hR] at h
    rw [hW3]; exact h
  have HPQ : Hid (P = w.heap.size ∧ Q = w.heap.size + 1 ∧ R = w.heap.size + 1 + 1 ∧ R < W3.heap.size) := Bl.hid ⟨hP, hQ, hR, hBR.lt⟩
  have HE3 := Bl.hid hE3
  have HBP := Bl.hid hBP
  have HBQ := Bl.hid hBQ
  have HBR := Bl.hid hBR
  have Hl0 := Bl.hid (hBP.load (P := Tryd.prog) Tryd.underlying26 rfl (by kernel_rfl))
  have HAp := Bl.hid (apart_any (.agg (Bl.cL l vp0 vs0 vb0).toArray) l W3 (HC.out.ext hE3) hLg)
  unfold Bl.cL at hW3
  clear hs1 hs2 hE3 hBP hBQ hBR hc hLg hid hone0
  show Calls Tryd.prog 10 #[.agg #[.int .i64 l.kind, .int .i64 l.id, .int .i64 l.obj, vp0, vs0, .int .i64 l.frm, .int .i64 l.cnt, vb0, .int .i64 l.code], .agg #[.int .i64 8, .int .i64 at', .int .i64 y]] w _
  go_enter Tryd.func10, Tryd.ntmps10
  go_wp2_with (with_reducible refine Bl.stop_load (ty := 26) ?_)
  refine Bl.go_on ?_
  rw [← hW3, ← hR, ← hQ, ← hP]
  clear hW3 hR hQ hP
  refine Bl.wpL_load rfl Hl0.out ?_
  go_wp2_with fail
  refine HAp.out.mono ?_
  rintro e w4 ⟨vp, vs, vb, L, M, N1, N2, N3, N4, N5, rfl, hA, hE4⟩
  obtain ⟨o1, o2, o3, o4, o5, o6⟩ := hA.ords
  have hF := hA.ltf
  have hone := hF.ltc.one
  have hBP4 := HBP.out.ext hE4
  have Hst := Bl.hid (hBP4.store (P := Tryd.prog) (cs' := Bl.cL l vp vs vb) rfl hone (ty := 26) (by kernel_rfl))
  obtain ⟨B, hB⟩ : ∃ z, z = W3.heap.size := ⟨_, rfl⟩
  rw [← hB] at hA hF o1
  obtain ⟨w5, hw5⟩ : ∃ W, W = w4.setCells P 0 (Bl.cL l vp vs vb) := ⟨_, rfl⟩
  have hK5 : Bl.Kq (fun k => k = P) w4 w5 := by rw [hw5]; exact (Bl.Kq.refl w4).setCells (Q := fun k => k = P) rfl 0 _
  have HX : Hid (P = w.heap.size ∧ Q = w.heap.size + 1 ∧ R = w.heap.size + 1 + 1 ∧ R < B ∧ B = W3.heap.size) := Bl.hid ⟨HPQ.out.1, HPQ.out.2.1, HPQ.out.2.2.1, by rw [hB]; exact HPQ.out.2.2.2, hB⟩
  have HBP5 : Hid (Bl.BoxC w5 P (Bl.cL l vp vs vb)) := Bl.hid (by rw [hw5]; exact hBP4.set rfl)
  have HBQ5 := Bl.hid (hK5.box (by have := HX.out; omega) (HBQ.out.ext hE4))
  have HBR5 := Bl.hid (hK5.box (by have := HX.out; omega) (HBR.out.ext hE4))
  have HA5 := Bl.hid (hA.kept (w' := w5) (fun b h1 h2 => hK5.block b h2 (by have := HX.out; omega)) hK5.size (Nat.le_refl B))
  have HE5 : Hid (Bl.Ext w w5) := Bl.hid ((HE3.out.trans hE4).trans' (N := w.heap.size) (hK5.mono fun k hk q => by have := HX.out; omega) (Nat.le_refl _))
  have HK5 : Hid (Bl.Kq (fun k => w.heap.size ≤ k) w w5) := Bl.hid (Bl.Kq.of_ext HE5.out)
  have Hbds : Hid (L.length ≤ 30 ∧ ∀ x ∈ L, x.2.1.2.length ≤ 100) := Bl.hid ⟨by have h := HLg.out.sh; rw [← hA.sl, List.length_map] at h; exact h, fun x hx => (HLg.out.st (Bl.plS x) (by rw [← hA.sl]; exact List.mem_map_of_mem hx)).1⟩
  clear hA hF hone hE4 hBP4 hB hK5 o1 o2 o3 o4 o5 o6 HPQ HE3 HBP HBQ HBR Hl0 HAp
  go_wp2_with (with_reducible refine Bl.stop_store (ty := 26) ?_)
  refine Bl.go_on ?_
  refine Bl.wpL_store0 rfl rfl Hst.out ?_
  rw [← hw5]
  clear hw5 Hst
  have qk := HBQ5.out.cell (i := 0) rfl
  have qi := HBP5.out.cell (i := 2) rfl
  have fi := HBP5.out.fz (i := 2) (show 2 < 9 by decide)

  have qa := HBQ5.out.cell (i := 1) rfl

  have HBz : Hid (Bl.BoxC (w5.setCell ⟨P, 2, none⟩ (.int .i64 at')) P (Bl.cL { l with obj := at' } vp vs vb)) := Bl.hid (HBP5.out.put (i := 2) (show 2 < 9 by decide) (.int .i64 at'))
  have hKs : Bl.Kq (fun k => k = P) w5 (w5.setCell ⟨P, 2, none⟩ (.int .i64 at')) := (Bl.Kq.refl w5).setCell (Q := fun k => k = P) ⟨P, 2, none⟩ rfl _
  have HFz : Hid (Bl.LtF (fun b => B ≤ b) (w5.setCell ⟨P, 2, none⟩ (.int .i64 at')) { l with obj := at' } vp vs vb L) := Bl.hid (by
    have h := HA5.out.ltf.kept (w' := w5.setCell ⟨P, 2, none⟩ (.int .i64 at')) (F' := fun b => B ≤ b) fun b hb hl => ⟨hb, hKs.block b hl (by have := HX.out; omega)⟩
    exact ⟨h.pl, h.sh, h.so, h.sl, h.bl⟩)
  have HBRz := Bl.hid (hKs.box (by have := HX.out; omega) HBR5.out)
  have HKz : Hid (Bl.Kq (fun k => w.heap.size ≤ k) w (w5.setCell ⟨P, 2, none⟩ (.int .i64 at'))) := Bl.hid (HK5.out.trans (hKs.mono fun k hk q => by have := HX.out; omega))
  clear hKs

  have Hl9 := Bl.hid (HBz.out.load (P := Tryd.prog) Tryd.underlying26 rfl (by kernel_rfl))
  have hone9 := HFz.out.ltc.one
  have Hst9 := Bl.hid (HBRz.out.store (P := Tryd.prog) (cs' := Bl.cL { l with obj := at' } vp vs vb) rfl hone9 (ty := 26) (by kernel_rfl))
  have HBR9 := Bl.hid (HBRz.out.set (cs' := Bl.cL { l with obj := at' } vp vs vb) rfl)
  have HK9 := Bl.hid ((Bl.Kq.refl (w5.setCell ⟨P, 2, none⟩ (.int .i64 at'))).setCells (Q := fun k => k = R) rfl 0 (Bl.cL { l with obj := at' } vp vs vb))
  have HE9 := Bl.hid (HKz.out.trans (HK9.out.mono (Q' := fun k => w.heap.size ≤ k) fun k hk q => by have := HX.out; omega))
  clear hone9
  go_wp2_with (with_reducible refine Bl.stop_load (ty := 26) ?_)
  refine Bl.go_on ?_
  refine Bl.wpL_load rfl Hl9.out ?_
  go_wp2_with (with_reducible refine Bl.stop_store (ty := 26) ?_)
  refine Bl.go_on ?_
  refine Bl.wpL_store0 rfl rfl Hst9.out ?_
  go_wp2_with fail
  refine bodyPost_ret (v := .tuple #[.agg (Bl.cL { l with obj := at' } vp vs vb).toArray, .bool true]) (Bl.results_cell2 rfl rfl (HBR9.out.loadVar (P := Tryd.prog) Tryd.underlying26 rfl (by kernel_rfl)) rfl) rfl ?_
  have hsp := (show Bl.bendL 8 at' y l = ({ l with obj := at' }, true) from rfl)
  unfold Bl.BeR
  rw [hsp]
  exact ⟨_, rfl, ⟨_, _, _, _, _, rfl, (HFz.out.kept (F' := fun k => B ≤ k) fun k hk hlk => ⟨hk, HK9.out.block k hlk (by have := HX.out; omega)⟩).ltc⟩, HE9.out.ext fun k q => q⟩
end Go.Proofs.YtmmolapkddbibaaDoor

/- Walk of foe.Bend. -/
namespace Go.Proofs.YtmmolapkddbibaaDoor
open Go Go.RowKit Go.Proofs

set_option maxRecDepth 100000 in
set_option maxHeartbeats 8000000 in
theorem bend1 (at' y : Int) (v : Value) (l : Bl.LT) (w : World) (h : Bl.LtV w v l) (hLg : Bl.LgL l) (hid : -1125899906842624 ≤ l.id ∧ l.id ≤ 1125899906842624) :
    Calls Tryd.prog 10 #[v, .agg #[.int .i64 1, .int .i64 at', .int .i64 y]] w fun e w' => Bl.BeR 1 at' y l w e w' := by
  obtain ⟨cs0, vp0, vs0, vb0, L0, rfl, hc⟩ := h
  obtain rfl := hc.eq
  have HC : Hid (Bl.LtV w (.agg (Bl.cL l vp0 vs0 vb0).toArray) l) := Bl.hid ⟨_, vp0, vs0, vb0, L0, rfl, hc⟩
  have hone0 : ∀ c ∈ Bl.cL l vp0 vs0 vb0, c.oneCell' = true := hc.one
  have HLg := Bl.hid hLg
  have Hid' := Bl.hid hid
  obtain ⟨P, hP⟩ : ∃ z, z = w.heap.size := ⟨_, rfl⟩
  obtain ⟨Q, hQ⟩ : ∃ z, z = w.heap.size + 1 := ⟨_, rfl⟩
  obtain ⟨R, hR⟩ : ∃ z, z = w.heap.size + 1 + 1 := ⟨_, rfl⟩
  obtain ⟨W3, hW3⟩ : ∃ W, W = ((w.alloc (.cells (Bl.cL l vp0 vs0 vb0).toArray 26)).alloc (.cells #[.int .i64 1, .int .i64 at', .int .i64 y] 28)).alloc (.cells Bl.zL 26) := ⟨_, rfl⟩
  have hs1 : (w.alloc (.cells (Bl.cL l vp0 vs0 vb0).toArray 26)).heap.size = w.heap.size + 1 := World.size_alloc _ _
  have hs2 : ((w.alloc (.cells (Bl.cL l vp0 vs0 vb0).toArray 26)).alloc (.cells #[.int .i64 1, .int .i64 at', .int .i64 y] 28)).heap.size = w.heap.size + 1 + 1 := by rw [World.size_alloc, hs1]
  have hE3 : Bl.Ext w W3 := by rw [hW3]; exact ((Bl.ext_alloc _ _).trans (Bl.ext_alloc _ _)).trans (Bl.ext_alloc _ _)
  have hBP : Bl.BoxC W3 P (Bl.cL l vp0 vs0 vb0) := by
    rw [hW3, hP]; exact ((Bl.BoxC.box w 26 (Bl.cL_ne _ _ _ _)).ext (Bl.ext_alloc _ _)).ext (Bl.ext_alloc _ _)
  have hBQ : Bl.BoxC W3 Q [.int .i64 1, .int .i64 at', .int .i64 y] := by
    have h := Bl.BoxC.box (cs := [.int .i64 1, .int .i64 at', .int .i64 y]) (w.alloc (.cells (Bl.cL l vp0 vs0 vb0).toArray 26)) 28 (fun q => by cases q)
    rw [hs1, ← hQ] at h
    rw [hW3]; exact h.ext (Bl.ext_alloc _ _)
  have hBR : Bl.BoxC W3 R Bl.zL.toList := by
    have h := Bl.BoxC.box (cs := Bl.zL.toList) ((w.alloc (.cells (Bl.cL l vp0 vs0 vb0).toArray 26)).alloc (.cells #[.int .i64 1, .int .i64 at', .int .i64 y] 28)) 26 (fun q => by cases q)
    rw [hs2, ← hR] at h
    rw [hW3]; exact h
  have HPQ : Hid (P = w.heap.size ∧ Q = w.heap.size + 1 ∧ R = w.heap.size + 1 + 1 ∧ R < W3.heap.size) := Bl.hid ⟨hP, hQ, hR, hBR.lt⟩
  have HE3 := Bl.hid hE3
  have HBP := Bl.hid hBP
  have HBQ := Bl.hid hBQ
  have HBR := Bl.hid hBR
  have Hl0 := Bl.hid (hBP.load (P := Tryd.prog) Tryd.underlying26 rfl (by kernel_rfl))
  have HAp := Bl.hid (apart_any (.agg (Bl.cL l vp0 vs0 vb0).toArray) l W3 (HC.out.ext hE3) hLg)
  unfold Bl.cL at hW3
  clear hs1 hs2 hE3 hBP hBQ hBR hc hLg hid hone0
  show Calls Tryd.prog 10 #[.agg #[.int .i64 l.kind, .int .i64 l.id, .int .i64 l.obj, vp0, vs0, .int .i64 l.frm, .int .i64 l.cnt, vb0, .int .i64 l.code], .agg #[.int .i64 1, .int .i64 at', .int .i64 y]] w _
  go_enter Tryd.func10, Tryd.ntmps10
  go_wp2_with (with_reducible refine Bl.stop_load (ty := 26) ?_)
  refine Bl.go_on ?_
  rw [← hW3, ← hR, ← hQ, ← hP]
  clear hW3 hR hQ hP
  refine Bl.wpL_load rfl Hl0.out ?_
  go_wp2_with fail
  refine HAp.out.mono ?_
  rintro e w4 ⟨vp, vs, vb, L, M, N1, N2, N3, N4, N5, rfl, hA, hE4⟩
  obtain ⟨o1, o2, o3, o4, o5, o6⟩ := hA.ords
  have hF := hA.ltf
  have hone := hF.ltc.one
  have hBP4 := HBP.out.ext hE4
  have Hst := Bl.hid (hBP4.store (P := Tryd.prog) (cs' := Bl.cL l vp vs vb) rfl hone (ty := 26) (by kernel_rfl))
  obtain ⟨B, hB⟩ : ∃ z, z = W3.heap.size := ⟨_, rfl⟩
  rw [← hB] at hA hF o1
  obtain ⟨w5, hw5⟩ : ∃ W, W = w4.setCells P 0 (Bl.cL l vp vs vb) := ⟨_, rfl⟩
  have hK5 : Bl.Kq (fun k => k = P) w4 w5 := by rw [hw5]; exact (Bl.Kq.refl w4).setCells (Q := fun k => k = P) rfl 0 _
  have HX : Hid (P = w.heap.size ∧ Q = w.heap.size + 1 ∧ R = w.heap.size + 1 + 1 ∧ R < B ∧ B = W3.heap.size) := Bl.hid ⟨HPQ.out.1, HPQ.out.2.1, HPQ.out.2.2.1, by rw [hB]; exact HPQ.out.2.2.2, hB⟩
  have HBP5 : Hid (Bl.BoxC w5 P (Bl.cL l vp vs vb)) := Bl.hid (by rw [hw5]; exact hBP4.set rfl)
  have HBQ5 := Bl.hid (hK5.box (by have := HX.out; omega) (HBQ.out.ext hE4))
  have HBR5 := Bl.hid (hK5.box (by have := HX.out; omega) (HBR.out.ext hE4))
  have HA5 := Bl.hid (hA.kept (w' := w5) (fun b h1 h2 => hK5.block b h2 (by have := HX.out; omega)) hK5.size (Nat.le_refl B))
  have HE5 : Hid (Bl.Ext w w5) := Bl.hid ((HE3.out.trans hE4).trans' (N := w.heap.size) (hK5.mono fun k hk q => by have := HX.out; omega) (Nat.le_refl _))
  have HK5 : Hid (Bl.Kq (fun k => w.heap.size ≤ k) w w5) := Bl.hid (Bl.Kq.of_ext HE5.out)
  have Hbds : Hid (L.length ≤ 30 ∧ ∀ x ∈ L, x.2.1.2.length ≤ 100) := Bl.hid ⟨by have h := HLg.out.sh; rw [← hA.sl, List.length_map] at h; exact h, fun x hx => (HLg.out.st (Bl.plS x) (by rw [← hA.sl]; exact List.mem_map_of_mem hx)).1⟩
  clear hA hF hone hE4 hBP4 hB hK5 o1 o2 o3 o4 o5 o6 HPQ HE3 HBP HBQ HBR Hl0 HAp
  go_wp2_with (with_reducible refine Bl.stop_store (ty := 26) ?_)
  refine Bl.go_on ?_
  refine Bl.wpL_store0 rfl rfl Hst.out ?_
  rw [← hw5]
  clear hw5 Hst
  have qk := HBQ5.out.cell (i := 0) rfl
  obtain ⟨pb, cb, hvb, _, _⟩ := HA5.out.bl.1.rds.form
  subst hvb
  obtain ⟨n3, hn3⟩ : ∃ z, z = M.length := ⟨_, rfl⟩
  rw [← hn3] at HBP5 HA5
  have Hn3 := Bl.hid hn3
  have q7 := HBP5.out.cell (i := 7) (v := .slice pb n3 cb) rfl
  have q0 := HBP5.out.cell (i := 0) (v := .int .i64 l.kind) rfl
  have hbl : l.blocks.length = n3 := by rw [hn3, ← HA5.out.bm, List.length_map]
  by_cases hc : l.kind = 6 ∧ 0 < n3
  · obtain ⟨h6, h0⟩ := hc
    rw [h6] at q0
    obtain ⟨j, hj, e1, e2⟩ := Bl.emod_nat at' h0
    have hm600 : n3 ≤ 600 := by rw [← hbl]; exact HLg.out.bl
    have HBl : Hid (Bl.bendL 1 at' y l = ({ l with blocks := l.blocks.set j (Bl.flL (l.blocks.getD j []) y) }, true)) := Bl.hid (by
      unfold Bl.bendL
      rw [if_neg (by decide), if_neg (by decide), if_neg (by decide), if_neg (by decide), if_pos ⟨rfl, h6, by rw [hbl]; exact h0⟩, hbl, e2])
    obtain ⟨g, cap, hf, hg1, hg2, hg3, hg4, hrg⟩ := HA5.out.bl.1.form (by rw [← hn3]; exact h0)
    injection hf with hf1 hf3 hf2
    subst hf1 hf2
    clear hf3
    have HR : Hid (∀ w2, Calls Tryd.prog 29 #[.int .i64 at', .int .i64 n3] w2 fun e w' => e = .returned (.int .i64 (j : Nat)) ∧ w2 = w') := Bl.hid fun w2 => by
      have h := rest_any at' n3 w2 (by omega) (by omega)
      rw [e1] at h
      exact h
    obtain ⟨m1, m2, k1, k2, k3, k4, k5⟩ := HA5.out.bentB (i := j) (by rw [← hn3]; exact hj)
    have hcg : (Bl.cellsR Bl.cB M)[j]? = some (M.getD j (.slice none 0 0, [])).1 := by
      have h := Bl.cellsR_get (f := Bl.cB) (s := 1) (fun _ => rfl) (.slice none 0 0, []) 0 (by decide) M j (by rw [← hn3]; exact hj)
      rw [Nat.mul_one, Nat.add_zero] at h
      exact h
    have hrow := HA5.out.bl.1
    rw [← hn3] at hrow
    have hcell := hrow.cell hcg
    have hbj : l.blocks.getD j [] = (M.getD j (.slice none 0 0, [])).2 := by
      rw [← HA5.out.bm, List.getD_eq_getElem?_getD, List.getD_eq_getElem?_getD, List.getElem?_map]
      cases M[j]? <;> rfl
    have hlb := HLg.out.bs (l.blocks.getD j []) (Bl.getD_mem [] (by rw [hbl]; exact hj))
    rw [hbj] at hlb HBl
    obtain ⟨o1, o2, o3, o4, o5, o6⟩ := HA5.out.ords
    have Ho := Bl.hid (And.intro o1 (And.intro o2 (And.intro o3 (And.intro o4 (And.intro k1 (And.intro k2 (And.intro k3 o6)))))))
    obtain ⟨x0, hx⟩ : ∃ x, x = M.getD j (.slice none 0 0, []) := ⟨_, rfl⟩
    rw [← hx] at k4 k5 hcell hlb HBl
    obtain ⟨u1, st⟩ := x0
    simp only at hcell hlb HBl
    have K4 := Bl.hid k4
    have K5 := Bl.hid k5
    have Hlb := Bl.hid hlb
    have hi0 : (0 : Int) ≤ (j : Int) := by omega
    have hi1 : (j : Int) < (n3 : Int) := by omega
    have hn1 : (0 : Int) < (n3 : Int) := by omega
    have HQq : Hid (∀ w2, Bl.Kq (fun _ => False) w5 w2 → w2.cell? ⟨P, 7, none⟩ = some (.slice (some ⟨g, 0, none⟩) n3 cb) ∧ w2.cell? ⟨Q, 1, none⟩ = some (.int .i64 at') ∧ w2.cell? ⟨Q, 2, none⟩ = some (.int .i64 y) ∧ w2.cell? ⟨g, j, none⟩ = some u1) := Bl.hid fun w2 hk => ⟨(hk.box (fun q => q) HBP5.out).cell (i := 7) rfl, (hk.box (fun q => q) HBQ5.out).cell (i := 1) rfl, (hk.box (fun q => q) HBQ5.out).cell (i := 2) rfl, hk.cell (fun q => q) hcell⟩
    have h4n : ¬ ({ l with blocks := l.blocks.set j (Bl.flL st y) } : Bl.LT).kind = 4 := by show ¬ l.kind = 4; omega
    have H4n := Bl.hid h4n
    have Hbj := Bl.hid hbj
    clear k1 k2 k3 k4 k5 hcg hrow hcell hlb hx hg1 hg2 hg3 hg4 hrg o1 o2 o3 o4 o5 o6 e1 e2 hbl hm600 hj h0 h4n hbj h6 hn3
    obtain ⟨pu, cu, hu1, _, _⟩ := K4.out.1.1.rds.form
    have hu1 : u1 = .slice pu st.length cu := hu1
    have HFlip : Hid (∀ w2, Bl.Kq (fun _ => False) w5 w2 → Calls Tryd.prog 28 #[.slice pu st.length cu, .int .i64 y] w2 fun e w' => e = .returned (.tuple #[]) ∧ Bl.EB m1 m2 w' (u1, Bl.flL st y) ∧ Bl.Kq (fun k => m1 ≤ k ∧ k < m2) w2 w') := Bl.hid fun w2 hk => by
      have hEB : Bl.EB m1 m2 w2 (u1, st) := Bl.stE_b _ _ _ _ _ _ _ K4.out (Nat.le_refl _) (Nat.le_refl _) (fun b' h1 h2 => hk.block b' (by have := Ho.out; omega) (fun q => q)) hk.size
      by_cases h0 : 0 < st.length
      · obtain ⟨b, c1, hf, hb1, hb2, hb3, hb4, hbr⟩ := hEB.1.1.form h0
        have hf' : u1 = .slice (some ⟨b, 0, none⟩) st.length c1 := hf
        rw [hu1] at hf'
        injection hf' with f1 f3 f2
        subst f1 f2
        clear f3
        have hPk : Bl.Pk w2 m1 1 (.slice (some ⟨b, 0, none⟩) st.length cu) st.length (Bl.ints .u8 st) := by rw [← hu1]; exact hEB.1.1
        refine (flip_some b 0 cu st.length st y w2 rfl h0 hbr (hPk.there (by omega)) hEB.2 (by have := Hlb.out; omega)).mono ?_
        rintro e w' ⟨rfl, i, hi, hw', hfl⟩
        rw [Nat.zero_add] at hw'
        have hbm : b < m2 := hEB.1.2 b (by show u1.ownBlock = some b; rw [hu1]; rfl)
        have hKb : Bl.Kq (fun k => k = b) w2 w' := by rw [hw']; exact (Bl.Kq.refl w2).setCell (Q := fun k => k = b) ⟨b, i, none⟩ rfl _
        refine ⟨rfl, ⟨⟨?_, fun b' hb' => hEB.1.2 b' hb'⟩, Bl.flL_byt hEB.2 y⟩, hKb.mono fun k _ q => by rw [q]; exact ⟨hb1, hbm⟩⟩
        have h9 := hPk.put (j := i) (by rw [Bl.ints_length]; exact hi) (.int .u8 (Bl.flB (st.getD i 0)))
        rw [Bl.ints_set, ← hfl, ← hw'] at h9
        show Bl.Pk w' m1 1 u1 (Bl.flL st y).length _
        rw [Bl.flL_len, hu1]
        exact h9
      · have hsn : st = [] := List.length_eq_zero_iff.1 (by omega)
        subst hsn
        refine (flip_none pu cu y w2).mono ?_
        rintro e w' ⟨rfl, rfl⟩
        exact ⟨rfl, hEB, Bl.Kq.refl _⟩
    subst hu1
    have HSl : Hid (Bl.EB m1 m2 w5 (.slice pu st.length cu, st)) := K4
    obtain ⟨nst, hnst⟩ : ∃ z, z = st.length := ⟨_, rfl⟩
    rw [← hnst] at HFlip HQq K5
    clear hnst K4
    go_wp2_with fail
    clear q7 q0 qk
    apply Bl.wp_region_evK (Bl.Kq (fun _ => False)) (fun _ _ _ => True) 10 [36, 37, 38, 39, 40, 41, 42, 43, 44, 45] [Bl.eqv _, Bl.eqv _, Bl.eqv _, Bl.eqv _, Bl.eqv _, Bl.eqv _, Bl.eqv _, Bl.eqv _, Bl.eqv _, Bl.eqv _] (fun w => Bl.Kq.refl w) (fun a b c h k => Bl.Kq.trans h k) (by kernel_rfl) (by kernel_rfl) (by kernel_rfl) (by kernel_rfl)
    case hsteps =>
      refine ⟨?_, ?_, ?_, ?_, ?_, ?_, ?_, ?_, ?_, ?_, trivial⟩
      all_goals
        intro d ev w1 hext HJd Hanc Hdes hni hb hd
        replace Hanc := Bl.hid Hanc
        replace HJd := Bl.hid HJd
        replace Hdes := Bl.hid Hdes
        replace hni := Bl.hid hni
        have e2 := hb 2 (by decide)
        have e3 := hb 3 (by decide)
        have e6 := hb 6 (by decide)
        clear hb
        simp only [Array.getD_eq_getD_getElem?, List.getElem?_toArray, List.getElem?_cons_succ, List.getElem?_cons_zero, Option.getD_some] at e2 e3 e6
        simp only [Bl.DepsE2, List.getElem?_cons_succ, List.getElem?_cons_zero, Option.bind_some, List.getD_cons_succ, List.getD_cons_zero, Bl.eqv, and_true] at hd
        have q3 := HQq.out _ hext
        have c0 := q3.1
        have c1 := q3.2.1
        have c2 := q3.2.2.1
        have c3 := q3.2.2.2
        clear q3
        rw [if_pos (rfl : Region.wanted _ _ = true)]
        go_simp
        first | exact ⟨Bl.Kq.refl _, rfl, trivial⟩ | exact ⟨Bl.Kq.refl _, rfl⟩ | (go_at_call 29; have hcl := HR.out w1; (with_reducible refine hcl.mono ?_); rintro e w2 ⟨rfl, hw2⟩; subst hw2; first | exact ⟨_, rfl, Bl.Kq.refl _, rfl⟩ | exact ⟨_, rfl, Bl.Kq.refl _, rfl, trivial⟩) | exact ⟨Below.refl _ _, rfl, Bl.HJ.same (by decide) HJd.out⟩
    case hmono => exact ⟨Bl.monoR_eqv _, Bl.monoR_eqv _, Bl.monoR_eqv _, Bl.monoR_eqv _, Bl.monoR_eqv _, Bl.monoR_eqv _, Bl.monoR_eqv _, Bl.monoR_eqv _, Bl.monoR_eqv _, Bl.monoR_eqv _, trivial⟩
    case hR0 => exact Bl.Kq.drew _
    case hend =>
      intro u w1 hext hJ hend
      simp only [Bl.EndE, List.getElem?_cons_succ, List.getElem?_cons_zero, Option.bind_some, List.getD_cons_succ, List.getD_cons_zero, Bl.eqv, true_and] at hend
      simp only [Bl.fillAct, List.setIfInBounds_toArray, List.set_cons_succ, List.set_cons_zero, List.drop_succ_cons, List.drop_zero, hend]
      have HK := Bl.hid hext
      have HF := Bl.hid (HFlip.out w1 hext)
      clear hext hJ hend
      go_wp2_with fail
      refine HF.out.mono ?_
      rintro e w6 ⟨rfl, hEB, hKf⟩
      have hKw : Bl.Kq (fun k => m1 ≤ k ∧ k < m2) w5 w6 := (HK.out.mono fun _ _ q => False.elim q).trans hKf
      have hlt := K5.out w6 (Bl.flL st y) (fun b h1 h2 h3 => hKw.block b h2 h3) hKw.size hEB
      have HBz : Hid (Bl.BoxC w6 P (Bl.cL { l with blocks := l.blocks.set j (Bl.flL st y) } vp vs (.slice (some ⟨g, 0, none⟩) n3 cb))) := Bl.hid (hKw.box (by have := HX.out; have := Ho.out; omega) HBP5.out)
      have HFz := Bl.hid hlt
      have HBRz := Bl.hid (hKw.box (by have := HX.out; have := Ho.out; omega) HBR5.out)
      have HBQz := Bl.hid (hKw.box (by have := HX.out; have := Ho.out; omega) HBQ5.out)
      have HKz : Hid (Bl.Kq (fun k => w.heap.size ≤ k) w w6) := Bl.hid (HK5.out.trans (hKw.mono fun k hk q => by have := HX.out; have := Ho.out; omega))
      clear hEB hKf hKw hlt
      go_wp2_with (with_reducible refine Bl.stop_load (ty := 28) ?_)
      refine Bl.go_on ?_
      refine Bl.wpL_load rfl (HBQz.out.load (P := Tryd.prog) Tryd.underlying28 rfl (by kernel_rfl)) ?_
      go_wp2_with fail
      obtain ⟨ps, cs2, hvs, _, _⟩ := HA5.out.sh.1.rds.form
      subst hvs
      refine (tshown_far 1 at' y P L.length ps cs2 _ vp (.slice (some ⟨g, 0, none⟩) n3 cb) w6 HBz.out (.inl H4n.out)).mono ?_
      rintro e w7 ⟨rfl, hE7⟩
      replace HBz := Bl.hid (HBz.out.ext hE7)
      replace HFz := Bl.hid (HFz.out.kept (F' := fun k => B ≤ k) fun b hb hl => ⟨hb, hE7.block b hl⟩)
      replace HBRz := Bl.hid (HBRz.out.ext hE7)
      replace HKz : Hid (Bl.Kq (fun k => w.heap.size ≤ k) w w7) := Bl.hid (HKz.out.trans (Bl.Kq.of_ext hE7))
      clear hE7
      have Hl9 := Bl.hid (HBz.out.load (P := Tryd.prog) Tryd.underlying26 rfl (by kernel_rfl))
      have hone9 := HFz.out.ltc.one
      have Hst9 := Bl.hid (HBRz.out.store (P := Tryd.prog) (cs' := Bl.cL { l with blocks := l.blocks.set j (Bl.flL st y) } vp (.slice ps L.length cs2) (.slice (some ⟨g, 0, none⟩) n3 cb)) rfl hone9 (ty := 26) (by kernel_rfl))
      have HBR9 := Bl.hid (HBRz.out.set (cs' := Bl.cL { l with blocks := l.blocks.set j (Bl.flL st y) } vp (.slice ps L.length cs2) (.slice (some ⟨g, 0, none⟩) n3 cb)) rfl)
      have HK9 := Bl.hid ((Bl.Kq.refl (w7)).setCells (Q := fun k => k = R) rfl 0 (Bl.cL { l with blocks := l.blocks.set j (Bl.flL st y) } vp (.slice ps L.length cs2) (.slice (some ⟨g, 0, none⟩) n3 cb)))
      have HE9 := Bl.hid (HKz.out.trans (HK9.out.mono (Q' := fun k => w.heap.size ≤ k) fun k hk q => by have := HX.out; omega))
      clear hone9
      go_wp2_with (with_reducible refine Bl.stop_load (ty := 26) ?_)
      refine Bl.go_on ?_
      refine Bl.wpL_load rfl Hl9.out ?_
      go_wp2_with (with_reducible refine Bl.stop_store (ty := 26) ?_)
      refine Bl.go_on ?_
      refine Bl.wpL_store0 rfl rfl Hst9.out ?_
      go_wp2_with fail
      refine bodyPost_ret (v := .tuple #[.agg (Bl.cL { l with blocks := l.blocks.set j (Bl.flL st y) } vp (.slice ps L.length cs2) (.slice (some ⟨g, 0, none⟩) n3 cb)).toArray, .bool true]) (Bl.results_cell2 rfl rfl (HBR9.out.loadVar (P := Tryd.prog) Tryd.underlying26 rfl (by kernel_rfl)) rfl) rfl ?_
      have hsp := HBl.out
      unfold Bl.BeR
      rw [hsp]
      exact ⟨_, rfl, ⟨_, _, _, _, _, rfl, (HFz.out.kept (F' := fun k => B ≤ k) fun k hk hlk => ⟨hk, HK9.out.block k hlk (by have := HX.out; omega)⟩).ltc⟩, HE9.out.ext fun k q => q⟩

    case hJ0 => trivial
  · have HBl : Hid (Bl.bendL 1 at' y l = (Bl.bendA 1 at' y l, true)) := Bl.hid (by
      unfold Bl.bendL
      rw [if_neg (by decide), if_neg (by decide), if_neg (by decide), if_neg (by decide), if_neg (by rw [hbl]; exact fun q => hc q.2)])
    have hsw : ¬ l.kind = 6 ∨ (l.kind = 6 ∧ n3 = 0) := by
      by_cases h6 : l.kind = 6
      · exact .inr ⟨h6, by have : ¬ 0 < n3 := fun q => hc ⟨h6, q⟩; omega⟩
      · exact .inl h6
    clear hc hbl hn3
    obtain ⟨kd, hkd⟩ : ∃ z, z = l.kind := ⟨_, rfl⟩
    rw [← hkd] at q0 hsw
    have Hkd := Bl.hid hkd
    clear hkd
    rcases hsw with hk6 | ⟨rfl, rfl⟩
    · skip
      go_wp2_with (with_reducible refine Bl.stop_load (ty := 28) ?_)
      refine Bl.go_on ?_
      refine Bl.wpL_load rfl (HBQ5.out.load (P := Tryd.prog) Tryd.underlying28 rfl (by kernel_rfl)) ?_
      go_wp2_with fail
      refine (tshown_any 1 at' y P B N1 N2 N3 N4 N5 l vp vs (.slice pb n3 cb) L M w5 HBP5.out HA5.out (by have := HX.out; omega) Hbds.out.1 Hbds.out.2).mono ?_
      rintro e w6 ⟨rfl, vs2, L2, hBz, hFz, hKz⟩
      have HBz := Bl.hid hBz
      have HFz := Bl.hid hFz
      have HBRz := Bl.hid (hKz.box (by have := HX.out; omega) HBR5.out)
      have HKz : Hid (Bl.Kq (fun k => w.heap.size ≤ k) w w6) := Bl.hid (HK5.out.trans (hKz.mono fun k hk q => by have := HX.out; omega))
      clear hBz hFz hKz

      have Hl9 := Bl.hid (HBz.out.load (P := Tryd.prog) Tryd.underlying26 rfl (by kernel_rfl))
      have hone9 := HFz.out.ltc.one
      have Hst9 := Bl.hid (HBRz.out.store (P := Tryd.prog) (cs' := Bl.cL (Bl.bendA 1 at' y l) vp vs2 (.slice pb n3 cb)) rfl hone9 (ty := 26) (by kernel_rfl))
      have HBR9 := Bl.hid (HBRz.out.set (cs' := Bl.cL (Bl.bendA 1 at' y l) vp vs2 (.slice pb n3 cb)) rfl)
      have HK9 := Bl.hid ((Bl.Kq.refl (w6)).setCells (Q := fun k => k = R) rfl 0 (Bl.cL (Bl.bendA 1 at' y l) vp vs2 (.slice pb n3 cb)))
      have HE9 := Bl.hid (HKz.out.trans (HK9.out.mono (Q' := fun k => w.heap.size ≤ k) fun k hk q => by have := HX.out; omega))
      clear hone9
      go_wp2_with (with_reducible refine Bl.stop_load (ty := 26) ?_)
      refine Bl.go_on ?_
      refine Bl.wpL_load rfl Hl9.out ?_
      go_wp2_with (with_reducible refine Bl.stop_store (ty := 26) ?_)
      refine Bl.go_on ?_
      refine Bl.wpL_store0 rfl rfl Hst9.out ?_
      go_wp2_with fail
      refine bodyPost_ret (v := .tuple #[.agg (Bl.cL (Bl.bendA 1 at' y l) vp vs2 (.slice pb n3 cb)).toArray, .bool true]) (Bl.results_cell2 rfl rfl (HBR9.out.loadVar (P := Tryd.prog) Tryd.underlying26 rfl (by kernel_rfl)) rfl) rfl ?_
      have hsp := HBl.out
      unfold Bl.BeR
      rw [hsp]
      exact ⟨_, rfl, ⟨_, _, _, _, _, rfl, (HFz.out.kept (F' := fun k => B ≤ k) fun k hk hlk => ⟨hk, HK9.out.block k hlk (by have := HX.out; omega)⟩).ltc⟩, HE9.out.ext fun k q => q⟩
    · skip
      go_wp2_with (with_reducible refine Bl.stop_load (ty := 28) ?_)
      refine Bl.go_on ?_
      refine Bl.wpL_load rfl (HBQ5.out.load (P := Tryd.prog) Tryd.underlying28 rfl (by kernel_rfl)) ?_
      go_wp2_with fail
      refine (tshown_any 1 at' y P B N1 N2 N3 N4 N5 l vp vs (.slice pb 0 cb) L M w5 HBP5.out HA5.out (by have := HX.out; omega) Hbds.out.1 Hbds.out.2).mono ?_
      rintro e w6 ⟨rfl, vs2, L2, hBz, hFz, hKz⟩
      have HBz := Bl.hid hBz
      have HFz := Bl.hid hFz
      have HBRz := Bl.hid (hKz.box (by have := HX.out; omega) HBR5.out)
      have HKz : Hid (Bl.Kq (fun k => w.heap.size ≤ k) w w6) := Bl.hid (HK5.out.trans (hKz.mono fun k hk q => by have := HX.out; omega))
      clear hBz hFz hKz

      have Hl9 := Bl.hid (HBz.out.load (P := Tryd.prog) Tryd.underlying26 rfl (by kernel_rfl))
      have hone9 := HFz.out.ltc.one
      have Hst9 := Bl.hid (HBRz.out.store (P := Tryd.prog) (cs' := Bl.cL (Bl.bendA 1 at' y l) vp vs2 (.slice pb 0 cb)) rfl hone9 (ty := 26) (by kernel_rfl))
      have HBR9 := Bl.hid (HBRz.out.set (cs' := Bl.cL (Bl.bendA 1 at' y l) vp vs2 (.slice pb 0 cb)) rfl)
      have HK9 := Bl.hid ((Bl.Kq.refl (w6)).setCells (Q := fun k => k = R) rfl 0 (Bl.cL (Bl.bendA 1 at' y l) vp vs2 (.slice pb 0 cb)))
      have HE9 := Bl.hid (HKz.out.trans (HK9.out.mono (Q' := fun k => w.heap.size ≤ k) fun k hk q => by have := HX.out; omega))
      clear hone9
      go_wp2_with (with_reducible refine Bl.stop_load (ty := 26) ?_)
      refine Bl.go_on ?_
      refine Bl.wpL_load rfl Hl9.out ?_
      go_wp2_with (with_reducible refine Bl.stop_store (ty := 26) ?_)
      refine Bl.go_on ?_
      refine Bl.wpL_store0 rfl rfl Hst9.out ?_
      go_wp2_with fail
      refine bodyPost_ret (v := .tuple #[.agg (Bl.cL (Bl.bendA 1 at' y l) vp vs2 (.slice pb 0 cb)).toArray, .bool true]) (Bl.results_cell2 rfl rfl (HBR9.out.loadVar (P := Tryd.prog) Tryd.underlying26 rfl (by kernel_rfl)) rfl) rfl ?_
      have hsp := HBl.out
      unfold Bl.BeR
      rw [hsp]
      exact ⟨_, rfl, ⟨_, _, _, _, _, rfl, (HFz.out.kept (F' := fun k => B ≤ k) fun k hk hlk => ⟨hk, HK9.out.block k hlk (by have := HX.out; omega)⟩).ltc⟩, HE9.out.ext fun k q => q⟩
end Go.Proofs.YtmmolapkddbibaaDoor

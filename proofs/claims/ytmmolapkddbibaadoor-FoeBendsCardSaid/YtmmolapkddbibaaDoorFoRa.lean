/- Texts that stood apart, in one: FoeRa1, FoeRa2, FoeRa3, FoeRa4, FoeRa5. -/
import Derived.Test.YtmmolapkddbibaaDoorFoR
import Derived.Test.YtmmolapkddbibaaDoorFo0
import Derived.Test.YtmmolapkddbibaaDoorLDs
import Derived.Test.YtmmolapkddbibaaDoorLet2b
/- Walk of baileeref29.Bend. -/
namespace Go.Proofs.YtmmolapkddbibaaDoor
open Go Go.RowKit Go.Proofs

set_option maxRecDepth 100000 in
set_option maxHeartbeats 8000000 in
theorem refbna (k : Int) (at' y : Int) (v : Value) (l : Bl.LT) (w : World) (h : Bl.LtV w v l) (hLg : Bl.LgL l) (hid : -1125899906842624 ≤ l.id ∧ l.id ≤ 1125899906842624) (hk1 : ¬ k = 1) (hk6 : ¬ k = 6) (hk7 : ¬ k = 7) (hk8 : ¬ k = 8) (hk9 : ¬ k = 9) (h4 : ¬ l.kind = 4) :
    Calls Tryd.prog 11 #[v, .int .i64 k, .int .i64 at', .int .i64 y] w fun e w' => Bl.BeR k at' y l w e w' := by
  obtain ⟨cs0, vp, vs, vb, L, rfl, hc⟩ := h
  obtain rfl := hc.eq
  obtain ⟨pp, cp, hvp, _, _⟩ := hc.pl.form
  obtain ⟨ps, csn, hvs, _, _⟩ := hc.sh.rd.form
  obtain ⟨pb, cb, hvb, _, _⟩ := hc.bl.form
  have HLg := Bl.hid hLg
  have hls : L.length = l.shown.length := by have := congrArg List.length hc.sl; simpa using this
  obtain ⟨n, hn⟩ : ∃ z, z = L.length := ⟨_, rfl⟩
  obtain ⟨n3, hn3⟩ : ∃ z, z = l.blocks.length := ⟨_, rfl⟩
  rw [← hn] at hvs hls
  rw [← hn3] at hvb
  have Hnn : Hid (n = L.length ∧ n = l.shown.length ∧ n3 = l.blocks.length ∧ n ≤ 30 ∧ n3 ≤ 600) := Bl.hid ⟨hn, hls, hn3, by rw [hls]; exact hLg.sh, by rw [hn3]; exact hLg.bl⟩
  obtain ⟨P, hP⟩ : ∃ z, z = w.heap.size := ⟨_, rfl⟩
  obtain ⟨R, hR⟩ : ∃ z, z = w.heap.size + 1 := ⟨_, rfl⟩
  obtain ⟨W2, hW2⟩ : ∃ W, W = (w.alloc (.cells (Bl.cL l vp vs vb).toArray 33)).alloc (.cells Bl.zL 33) := ⟨_, rfl⟩
  have hs1 : (w.alloc (.cells (Bl.cL l vp vs vb).toArray 33)).heap.size = w.heap.size + 1 := World.size_alloc _ _
  have hs2 : W2.heap.size = w.heap.size + 1 + 1 := by rw [hW2, World.size_alloc, hs1]
  have hE2 : Bl.Ext w W2 := by rw [hW2]; exact (Bl.ext_alloc _ _).trans (Bl.ext_alloc _ _)
  have hBP : Bl.BoxC W2 P (Bl.cL l vp vs vb) := by
    rw [hW2, hP]; exact (Bl.BoxC.box w 33 (Bl.cL_ne _ _ _ _)).ext (Bl.ext_alloc _ _)
  have hBR : Bl.BoxC W2 R Bl.zL.toList := by
    have h := Bl.BoxC.box (cs := Bl.zL.toList) (w.alloc (.cells (Bl.cL l vp vs vb).toArray 33)) 33 (fun q => by cases q)
    rw [hs1, ← hR] at h
    rw [hW2]; exact h
  have HX : Hid (P = w.heap.size ∧ R = w.heap.size + 1 ∧ W2.heap.size = w.heap.size + 2) := Bl.hid ⟨hP, hR, hs2⟩
  have HE2 := Bl.hid hE2
  have HBP := Bl.hid hBP
  have HBR := Bl.hid hBR
  have HF2 : Hid (Bl.LtF (fun b => b < w.heap.size ∨ w.heap.size + 2 ≤ b) W2 l vp vs vb L) := Bl.hid ((Bl.LtF.of_ltc hc).kept fun b hb hl => ⟨.inl hb, hE2.block b hl⟩)
  have q0 := hBP.cell (i := 0) (v := .int .i64 l.kind) rfl
  have q4 := hBP.cell (i := 4) (v := vs) rfl
  have q7 := hBP.cell (i := 7) (v := vb) rfl
  have q1 := hBP.cell (i := 1) (v := .int .i64 l.id) rfl
  have q2 := hBP.cell (i := 2) (v := .int .i64 l.obj) rfl
  have Hid' := Bl.hid hid
  unfold Bl.cL at hW2
  clear hs1 hs2 hE2 hBP hBR hc hLg hid hls hn hn3
  subst hvs hvb hvp
  show Calls Tryd.prog 11 #[.agg #[.int .i64 l.kind, .int .i64 l.id, .int .i64 l.obj, .slice pp l.places.length cp, .slice ps n csn, .int .i64 l.frm, .int .i64 l.cnt, .slice pb n3 cb, .int .i64 l.code], .int .i64 k, .int .i64 at', .int .i64 y] w _
  go_enter Tryd.func11, Tryd.ntmps11
  go_wp2_with (with_reducible refine Bl.stop_load (ty := 31) ?_)
  refine Bl.go_on ?_
  rw [← hW2, ← hR, ← hP]
  clear hW2 hR hP

  have HBz := HBP
  have HFz := HF2
  have HBRz := HBR
  have HKz : Hid (Bl.Kq (fun k => w.heap.size ≤ k) w W2) := Bl.hid (Bl.Kq.of_ext HE2.out)

  have Hl9 := Bl.hid (HBz.out.load (P := Tryd.prog) Tryd.underlying33 rfl (by kernel_rfl))
  have hone9 := HFz.out.ltc.one
  have Hst9 := Bl.hid (HBRz.out.store (P := Tryd.prog) (cs' := Bl.cL (l) (.slice pp l.places.length cp) (.slice ps n csn) (.slice pb n3 cb)) rfl hone9 (ty := 33) (by kernel_rfl))
  have HBR9 := Bl.hid (HBRz.out.set (cs' := Bl.cL (l) (.slice pp l.places.length cp) (.slice ps n csn) (.slice pb n3 cb)) rfl)
  have HK9 := Bl.hid ((Bl.Kq.refl (W2)).setCells (Q := fun k => k = R) rfl 0 (Bl.cL (l) (.slice pp l.places.length cp) (.slice ps n csn) (.slice pb n3 cb)))
  have HE9 := Bl.hid (HKz.out.trans (HK9.out.mono (Q' := fun k => w.heap.size ≤ k) fun k hk q => by have := HX.out; omega))
  clear hone9
  go_wp2_with (with_reducible refine Bl.stop_load (ty := 33) ?_)
  refine Bl.go_on ?_
  refine Bl.wpL_load rfl Hl9.out ?_
  go_wp2_with (with_reducible refine Bl.stop_store (ty := 33) ?_)
  refine Bl.go_on ?_
  refine Bl.wpL_store0 rfl rfl Hst9.out ?_
  go_wp2_with fail
  refine bodyPost_ret (v := .tuple #[.agg (Bl.cL (l) (.slice pp l.places.length cp) (.slice ps n csn) (.slice pb n3 cb)).toArray, .bool true]) (Bl.results_cell2 rfl rfl (HBR9.out.loadVar (P := Tryd.prog) Tryd.underlying33 rfl (by kernel_rfl)) rfl) rfl ?_
  have hsp := (show Bl.bendL k at' y l = (l, true) from by rw [Bl.bendL_sh hk6 hk7 hk8 hk9 (fun q => hk1 q.1), Bl.bendA_no (.inl h4)])
  unfold Bl.BeR
  rw [hsp]
  exact ⟨_, rfl, ⟨_, _, _, _, _, rfl, (HFz.out.kept (F' := fun _ => True) fun k hk hlk => ⟨trivial, HK9.out.block k hlk (by have := HX.out; omega)⟩).ltc⟩, HE9.out.ext fun k q => q⟩

set_option maxRecDepth 100000 in
set_option maxHeartbeats 8000000 in
theorem refbnd (k : Int) (at' y : Int) (v : Value) (l : Bl.LT) (w : World) (h : Bl.LtV w v l) (hLg : Bl.LgL l) (hid : -1125899906842624 ≤ l.id ∧ l.id ≤ 1125899906842624) (hk1 : ¬ k = 1) (hk6 : ¬ k = 6) (hk7 : ¬ k = 7) (hk8 : ¬ k = 8) (hk9 : ¬ k = 9) (h4 : l.kind = 4) (h0 : l.shown.length = 0) :
    Calls Tryd.prog 11 #[v, .int .i64 k, .int .i64 at', .int .i64 y] w fun e w' => Bl.BeR k at' y l w e w' := by
  obtain ⟨cs0, vp, vs, vb, L, rfl, hc⟩ := h
  obtain rfl := hc.eq
  obtain ⟨pp, cp, hvp, _, _⟩ := hc.pl.form
  obtain ⟨ps, csn, hvs, _, _⟩ := hc.sh.rd.form
  obtain ⟨pb, cb, hvb, _, _⟩ := hc.bl.form
  have HLg := Bl.hid hLg
  have hls : L.length = l.shown.length := by have := congrArg List.length hc.sl; simpa using this
  obtain ⟨n, hn⟩ : ∃ z, z = L.length := ⟨_, rfl⟩
  obtain ⟨n3, hn3⟩ : ∃ z, z = l.blocks.length := ⟨_, rfl⟩
  rw [← hn] at hvs hls
  rw [← hn3] at hvb
  have Hnn : Hid (n = L.length ∧ n = l.shown.length ∧ n3 = l.blocks.length ∧ n ≤ 30 ∧ n3 ≤ 600) := Bl.hid ⟨hn, hls, hn3, by rw [hls]; exact hLg.sh, by rw [hn3]; exact hLg.bl⟩
  obtain ⟨P, hP⟩ : ∃ z, z = w.heap.size := ⟨_, rfl⟩
  obtain ⟨R, hR⟩ : ∃ z, z = w.heap.size + 1 := ⟨_, rfl⟩
  obtain ⟨W2, hW2⟩ : ∃ W, W = (w.alloc (.cells (Bl.cL l vp vs vb).toArray 33)).alloc (.cells Bl.zL 33) := ⟨_, rfl⟩
  have hs1 : (w.alloc (.cells (Bl.cL l vp vs vb).toArray 33)).heap.size = w.heap.size + 1 := World.size_alloc _ _
  have hs2 : W2.heap.size = w.heap.size + 1 + 1 := by rw [hW2, World.size_alloc, hs1]
  have hE2 : Bl.Ext w W2 := by rw [hW2]; exact (Bl.ext_alloc _ _).trans (Bl.ext_alloc _ _)
  have hBP : Bl.BoxC W2 P (Bl.cL l vp vs vb) := by
    rw [hW2, hP]; exact (Bl.BoxC.box w 33 (Bl.cL_ne _ _ _ _)).ext (Bl.ext_alloc _ _)
  have hBR : Bl.BoxC W2 R Bl.zL.toList := by
    have h := Bl.BoxC.box (cs := Bl.zL.toList) (w.alloc (.cells (Bl.cL l vp vs vb).toArray 33)) 33 (fun q => by cases q)
    rw [hs1, ← hR] at h
    rw [hW2]; exact h
  have HX : Hid (P = w.heap.size ∧ R = w.heap.size + 1 ∧ W2.heap.size = w.heap.size + 2) := Bl.hid ⟨hP, hR, hs2⟩
  have HE2 := Bl.hid hE2
  have HBP := Bl.hid hBP
  have HBR := Bl.hid hBR
  have HF2 : Hid (Bl.LtF (fun b => b < w.heap.size ∨ w.heap.size + 2 ≤ b) W2 l vp vs vb L) := Bl.hid ((Bl.LtF.of_ltc hc).kept fun b hb hl => ⟨.inl hb, hE2.block b hl⟩)
  have q0 := hBP.cell (i := 0) (v := .int .i64 l.kind) rfl
  have q4 := hBP.cell (i := 4) (v := vs) rfl
  have q7 := hBP.cell (i := 7) (v := vb) rfl
  have q1 := hBP.cell (i := 1) (v := .int .i64 l.id) rfl
  have q2 := hBP.cell (i := 2) (v := .int .i64 l.obj) rfl
  have Hid' := Bl.hid hid
  unfold Bl.cL at hW2
  clear hs1 hs2 hE2 hBP hBR hc hLg hid hls hn hn3
  subst hvs hvb hvp
  show Calls Tryd.prog 11 #[.agg #[.int .i64 l.kind, .int .i64 l.id, .int .i64 l.obj, .slice pp l.places.length cp, .slice ps n csn, .int .i64 l.frm, .int .i64 l.cnt, .slice pb n3 cb, .int .i64 l.code], .int .i64 k, .int .i64 at', .int .i64 y] w _
  have H0 := Bl.hid h0
  obtain rfl : n = 0 := by rw [Hnn.out.2.1]; exact h0
  clear h0
  have H4 := Bl.hid h4
  rw [h4] at q0
  clear h4

  go_enter Tryd.func11, Tryd.ntmps11
  go_wp2_with (with_reducible refine Bl.stop_load (ty := 31) ?_)
  refine Bl.go_on ?_
  rw [← hW2, ← hR, ← hP]
  clear hW2 hR hP

  have HBz := HBP
  have HFz := HF2
  have HBRz := HBR
  have HKz : Hid (Bl.Kq (fun k => w.heap.size ≤ k) w W2) := Bl.hid (Bl.Kq.of_ext HE2.out)

  have Hl9 := Bl.hid (HBz.out.load (P := Tryd.prog) Tryd.underlying33 rfl (by kernel_rfl))
  have hone9 := HFz.out.ltc.one
  have Hst9 := Bl.hid (HBRz.out.store (P := Tryd.prog) (cs' := Bl.cL (l) (.slice pp l.places.length cp) (.slice ps 0 csn) (.slice pb n3 cb)) rfl hone9 (ty := 33) (by kernel_rfl))
  have HBR9 := Bl.hid (HBRz.out.set (cs' := Bl.cL (l) (.slice pp l.places.length cp) (.slice ps 0 csn) (.slice pb n3 cb)) rfl)
  have HK9 := Bl.hid ((Bl.Kq.refl (W2)).setCells (Q := fun k => k = R) rfl 0 (Bl.cL (l) (.slice pp l.places.length cp) (.slice ps 0 csn) (.slice pb n3 cb)))
  have HE9 := Bl.hid (HKz.out.trans (HK9.out.mono (Q' := fun k => w.heap.size ≤ k) fun k hk q => by have := HX.out; omega))
  clear hone9
  go_wp2_with (with_reducible refine Bl.stop_load (ty := 33) ?_)
  refine Bl.go_on ?_
  refine Bl.wpL_load rfl Hl9.out ?_
  go_wp2_with (with_reducible refine Bl.stop_store (ty := 33) ?_)
  refine Bl.go_on ?_
  refine Bl.wpL_store0 rfl rfl Hst9.out ?_
  go_wp2_with fail
  refine bodyPost_ret (v := .tuple #[.agg (Bl.cL (l) (.slice pp l.places.length cp) (.slice ps 0 csn) (.slice pb n3 cb)).toArray, .bool true]) (Bl.results_cell2 rfl rfl (HBR9.out.loadVar (P := Tryd.prog) Tryd.underlying33 rfl (by kernel_rfl)) rfl) rfl ?_
  have hsp := (show Bl.bendL k at' y l = (l, true) from by rw [Bl.bendL_sh hk6 hk7 hk8 hk9 (fun q => hk1 q.1), Bl.bendA_no (.inr (.inl H0.out))])
  unfold Bl.BeR
  rw [hsp]
  exact ⟨_, rfl, ⟨_, _, _, _, _, rfl, (HFz.out.kept (F' := fun _ => True) fun k hk hlk => ⟨trivial, HK9.out.block k hlk (by have := HX.out; omega)⟩).ltc⟩, HE9.out.ext fun k q => q⟩
end Go.Proofs.YtmmolapkddbibaaDoor

/- Walk of baileeref29.Bend. -/
namespace Go.Proofs.YtmmolapkddbibaaDoor
open Go Go.RowKit Go.Proofs

set_option maxRecDepth 100000 in
set_option maxHeartbeats 8000000 in
theorem refbnf (k : Int) (at' y : Int) (v : Value) (l : Bl.LT) (w : World) (h : Bl.LtV w v l) (hLg : Bl.LgL l) (hid : -1125899906842624 ≤ l.id ∧ l.id ≤ 1125899906842624) (hk1 : ¬ k = 1) (hk6 : ¬ k = 6) (hk7 : ¬ k = 7) (hk8 : ¬ k = 8) (hk9 : ¬ k = 9) (h4 : l.kind = 4) (h0 : ¬ l.shown.length = 0) (hk : k < 1) :
    Calls Tryd.prog 11 #[v, .int .i64 k, .int .i64 at', .int .i64 y] w fun e w' => Bl.BeR k at' y l w e w' := by
  obtain ⟨cs0, vp, vs, vb, L, rfl, hc⟩ := h
  obtain rfl := hc.eq
  obtain ⟨pp, cp, hvp, _, _⟩ := hc.pl.form
  obtain ⟨ps, csn, hvs, _, _⟩ := hc.sh.rd.form
  obtain ⟨pb, cb, hvb, _, _⟩ := hc.bl.form
  have HLg := Bl.hid hLg
  have hls : L.length = l.shown.length := by have := congrArg List.length hc.sl; simpa using this
  obtain ⟨n, hn⟩ : ∃ z, z = L.length := ⟨_, rfl⟩
  obtain ⟨n3, hn3⟩ : ∃ z, z = l.blocks.length := ⟨_, rfl⟩
  rw [← hn] at hvs hls
  rw [← hn3] at hvb
  have Hnn : Hid (n = L.length ∧ n = l.shown.length ∧ n3 = l.blocks.length ∧ n ≤ 30 ∧ n3 ≤ 600) := Bl.hid ⟨hn, hls, hn3, by rw [hls]; exact hLg.sh, by rw [hn3]; exact hLg.bl⟩
  obtain ⟨P, hP⟩ : ∃ z, z = w.heap.size := ⟨_, rfl⟩
  obtain ⟨R, hR⟩ : ∃ z, z = w.heap.size + 1 := ⟨_, rfl⟩
  obtain ⟨W2, hW2⟩ : ∃ W, W = (w.alloc (.cells (Bl.cL l vp vs vb).toArray 33)).alloc (.cells Bl.zL 33) := ⟨_, rfl⟩
  have hs1 : (w.alloc (.cells (Bl.cL l vp vs vb).toArray 33)).heap.size = w.heap.size + 1 := World.size_alloc _ _
  have hs2 : W2.heap.size = w.heap.size + 1 + 1 := by rw [hW2, World.size_alloc, hs1]
  have hE2 : Bl.Ext w W2 := by rw [hW2]; exact (Bl.ext_alloc _ _).trans (Bl.ext_alloc _ _)
  have hBP : Bl.BoxC W2 P (Bl.cL l vp vs vb) := by
    rw [hW2, hP]; exact (Bl.BoxC.box w 33 (Bl.cL_ne _ _ _ _)).ext (Bl.ext_alloc _ _)
  have hBR : Bl.BoxC W2 R Bl.zL.toList := by
    have h := Bl.BoxC.box (cs := Bl.zL.toList) (w.alloc (.cells (Bl.cL l vp vs vb).toArray 33)) 33 (fun q => by cases q)
    rw [hs1, ← hR] at h
    rw [hW2]; exact h
  have HX : Hid (P = w.heap.size ∧ R = w.heap.size + 1 ∧ W2.heap.size = w.heap.size + 2) := Bl.hid ⟨hP, hR, hs2⟩
  have HE2 := Bl.hid hE2
  have HBP := Bl.hid hBP
  have HBR := Bl.hid hBR
  have HF2 : Hid (Bl.LtF (fun b => b < w.heap.size ∨ w.heap.size + 2 ≤ b) W2 l vp vs vb L) := Bl.hid ((Bl.LtF.of_ltc hc).kept fun b hb hl => ⟨.inl hb, hE2.block b hl⟩)
  have q0 := hBP.cell (i := 0) (v := .int .i64 l.kind) rfl
  have q4 := hBP.cell (i := 4) (v := vs) rfl
  have q7 := hBP.cell (i := 7) (v := vb) rfl
  have q1 := hBP.cell (i := 1) (v := .int .i64 l.id) rfl
  have q2 := hBP.cell (i := 2) (v := .int .i64 l.obj) rfl
  have Hid' := Bl.hid hid
  unfold Bl.cL at hW2
  clear hs1 hs2 hE2 hBP hBR hc hLg hid hls hn hn3
  subst hvs hvb hvp
  show Calls Tryd.prog 11 #[.agg #[.int .i64 l.kind, .int .i64 l.id, .int .i64 l.obj, .slice pp l.places.length cp, .slice ps n csn, .int .i64 l.frm, .int .i64 l.cnt, .slice pb n3 cb, .int .i64 l.code], .int .i64 k, .int .i64 at', .int .i64 y] w _
  have hn0 : ¬ (n = 0) := by rw [Hnn.out.2.1]; exact h0
  have hn1 : ¬ ((n : Int) = 0) := by omega
  clear h0
  have H4 := Bl.hid h4
  rw [h4] at q0
  clear h4

  go_enter Tryd.func11, Tryd.ntmps11
  go_wp2_with (with_reducible refine Bl.stop_load (ty := 31) ?_)
  refine Bl.go_on ?_
  rw [← hW2, ← hR, ← hP]
  clear hW2 hR hP

  have HBz := HBP
  have HFz := HF2
  have HBRz := HBR
  have HKz : Hid (Bl.Kq (fun k => w.heap.size ≤ k) w W2) := Bl.hid (Bl.Kq.of_ext HE2.out)

  have Hl9 := Bl.hid (HBz.out.load (P := Tryd.prog) Tryd.underlying33 rfl (by kernel_rfl))
  have hone9 := HFz.out.ltc.one
  have Hst9 := Bl.hid (HBRz.out.store (P := Tryd.prog) (cs' := Bl.cL (l) (.slice pp l.places.length cp) (.slice ps n csn) (.slice pb n3 cb)) rfl hone9 (ty := 33) (by kernel_rfl))
  have HBR9 := Bl.hid (HBRz.out.set (cs' := Bl.cL (l) (.slice pp l.places.length cp) (.slice ps n csn) (.slice pb n3 cb)) rfl)
  have HK9 := Bl.hid ((Bl.Kq.refl (W2)).setCells (Q := fun k => k = R) rfl 0 (Bl.cL (l) (.slice pp l.places.length cp) (.slice ps n csn) (.slice pb n3 cb)))
  have HE9 := Bl.hid (HKz.out.trans (HK9.out.mono (Q' := fun k => w.heap.size ≤ k) fun k hk q => by have := HX.out; omega))
  clear hone9
  go_wp2_with (with_reducible refine Bl.stop_load (ty := 33) ?_)
  refine Bl.go_on ?_
  refine Bl.wpL_load rfl Hl9.out ?_
  go_wp2_with (with_reducible refine Bl.stop_store (ty := 33) ?_)
  refine Bl.go_on ?_
  refine Bl.wpL_store0 rfl rfl Hst9.out ?_
  go_wp2_with fail
  refine bodyPost_ret (v := .tuple #[.agg (Bl.cL (l) (.slice pp l.places.length cp) (.slice ps n csn) (.slice pb n3 cb)).toArray, .bool true]) (Bl.results_cell2 rfl rfl (HBR9.out.loadVar (P := Tryd.prog) Tryd.underlying33 rfl (by kernel_rfl)) rfl) rfl ?_
  have hsp := (show Bl.bendL k at' y l = (l, true) from by rw [Bl.bendL_sh hk6 hk7 hk8 hk9 (fun q => hk1 q.1), Bl.bendA_no (.inr (.inr (.inl hk)))])
  unfold Bl.BeR
  rw [hsp]
  exact ⟨_, rfl, ⟨_, _, _, _, _, rfl, (HFz.out.kept (F' := fun _ => True) fun k hk hlk => ⟨trivial, HK9.out.block k hlk (by have := HX.out; omega)⟩).ltc⟩, HE9.out.ext fun k q => q⟩

set_option maxRecDepth 100000 in
set_option maxHeartbeats 8000000 in
theorem refbng (k : Int) (at' y : Int) (v : Value) (l : Bl.LT) (w : World) (h : Bl.LtV w v l) (hLg : Bl.LgL l) (hid : -1125899906842624 ≤ l.id ∧ l.id ≤ 1125899906842624) (hk1 : ¬ k = 1) (hk6 : ¬ k = 6) (hk7 : ¬ k = 7) (hk8 : ¬ k = 8) (hk9 : ¬ k = 9) (h4 : l.kind = 4) (h0 : ¬ l.shown.length = 0) (hk : 5 < k) :
    Calls Tryd.prog 11 #[v, .int .i64 k, .int .i64 at', .int .i64 y] w fun e w' => Bl.BeR k at' y l w e w' := by
  obtain ⟨cs0, vp, vs, vb, L, rfl, hc⟩ := h
  obtain rfl := hc.eq
  obtain ⟨pp, cp, hvp, _, _⟩ := hc.pl.form
  obtain ⟨ps, csn, hvs, _, _⟩ := hc.sh.rd.form
  obtain ⟨pb, cb, hvb, _, _⟩ := hc.bl.form
  have HLg := Bl.hid hLg
  have hls : L.length = l.shown.length := by have := congrArg List.length hc.sl; simpa using this
  obtain ⟨n, hn⟩ : ∃ z, z = L.length := ⟨_, rfl⟩
  obtain ⟨n3, hn3⟩ : ∃ z, z = l.blocks.length := ⟨_, rfl⟩
  rw [← hn] at hvs hls
  rw [← hn3] at hvb
  have Hnn : Hid (n = L.length ∧ n = l.shown.length ∧ n3 = l.blocks.length ∧ n ≤ 30 ∧ n3 ≤ 600) := Bl.hid ⟨hn, hls, hn3, by rw [hls]; exact hLg.sh, by rw [hn3]; exact hLg.bl⟩
  obtain ⟨P, hP⟩ : ∃ z, z = w.heap.size := ⟨_, rfl⟩
  obtain ⟨R, hR⟩ : ∃ z, z = w.heap.size + 1 := ⟨_, rfl⟩
  obtain ⟨W2, hW2⟩ : ∃ W, W = (w.alloc (.cells (Bl.cL l vp vs vb).toArray 33)).alloc (.cells Bl.zL 33) := ⟨_, rfl⟩
  have hs1 : (w.alloc (.cells (Bl.cL l vp vs vb).toArray 33)).heap.size = w.heap.size + 1 := World.size_alloc _ _
  have hs2 : W2.heap.size = w.heap.size + 1 + 1 := by rw [hW2, World.size_alloc, hs1]
  have hE2 : Bl.Ext w W2 := by rw [hW2]; exact (Bl.ext_alloc _ _).trans (Bl.ext_alloc _ _)
  have hBP : Bl.BoxC W2 P (Bl.cL l vp vs vb) := by
    rw [hW2, hP]; exact (Bl.BoxC.box w 33 (Bl.cL_ne _ _ _ _)).ext (Bl.ext_alloc _ _)
  have hBR : Bl.BoxC W2 R Bl.zL.toList := by
    have h := Bl.BoxC.box (cs := Bl.zL.toList) (w.alloc (.cells (Bl.cL l vp vs vb).toArray 33)) 33 (fun q => by cases q)
    rw [hs1, ← hR] at h
    rw [hW2]; exact h
  have HX : Hid (P = w.heap.size ∧ R = w.heap.size + 1 ∧ W2.heap.size = w.heap.size + 2) := Bl.hid ⟨hP, hR, hs2⟩
  have HE2 := Bl.hid hE2
  have HBP := Bl.hid hBP
  have HBR := Bl.hid hBR
  have HF2 : Hid (Bl.LtF (fun b => b < w.heap.size ∨ w.heap.size + 2 ≤ b) W2 l vp vs vb L) := Bl.hid ((Bl.LtF.of_ltc hc).kept fun b hb hl => ⟨.inl hb, hE2.block b hl⟩)
  have q0 := hBP.cell (i := 0) (v := .int .i64 l.kind) rfl
  have q4 := hBP.cell (i := 4) (v := vs) rfl
  have q7 := hBP.cell (i := 7) (v := vb) rfl
  have q1 := hBP.cell (i := 1) (v := .int .i64 l.id) rfl
  have q2 := hBP.cell (i := 2) (v := .int .i64 l.obj) rfl
  have Hid' := Bl.hid hid
  unfold Bl.cL at hW2
  clear hs1 hs2 hE2 hBP hBR hc hLg hid hls hn hn3
  subst hvs hvb hvp
  show Calls Tryd.prog 11 #[.agg #[.int .i64 l.kind, .int .i64 l.id, .int .i64 l.obj, .slice pp l.places.length cp, .slice ps n csn, .int .i64 l.frm, .int .i64 l.cnt, .slice pb n3 cb, .int .i64 l.code], .int .i64 k, .int .i64 at', .int .i64 y] w _
  have hn0 : ¬ (n = 0) := by rw [Hnn.out.2.1]; exact h0
  have hn1 : ¬ ((n : Int) = 0) := by omega
  have hk2 : ¬ (k < 1) := by omega
  clear h0
  have H4 := Bl.hid h4
  rw [h4] at q0
  clear h4

  go_enter Tryd.func11, Tryd.ntmps11
  go_wp2_with (with_reducible refine Bl.stop_load (ty := 31) ?_)
  refine Bl.go_on ?_
  rw [← hW2, ← hR, ← hP]
  clear hW2 hR hP

  have HBz := HBP
  have HFz := HF2
  have HBRz := HBR
  have HKz : Hid (Bl.Kq (fun k => w.heap.size ≤ k) w W2) := Bl.hid (Bl.Kq.of_ext HE2.out)

  have Hl9 := Bl.hid (HBz.out.load (P := Tryd.prog) Tryd.underlying33 rfl (by kernel_rfl))
  have hone9 := HFz.out.ltc.one
  have Hst9 := Bl.hid (HBRz.out.store (P := Tryd.prog) (cs' := Bl.cL (l) (.slice pp l.places.length cp) (.slice ps n csn) (.slice pb n3 cb)) rfl hone9 (ty := 33) (by kernel_rfl))
  have HBR9 := Bl.hid (HBRz.out.set (cs' := Bl.cL (l) (.slice pp l.places.length cp) (.slice ps n csn) (.slice pb n3 cb)) rfl)
  have HK9 := Bl.hid ((Bl.Kq.refl (W2)).setCells (Q := fun k => k = R) rfl 0 (Bl.cL (l) (.slice pp l.places.length cp) (.slice ps n csn) (.slice pb n3 cb)))
  have HE9 := Bl.hid (HKz.out.trans (HK9.out.mono (Q' := fun k => w.heap.size ≤ k) fun k hk q => by have := HX.out; omega))
  clear hone9
  go_wp2_with (with_reducible refine Bl.stop_load (ty := 33) ?_)
  refine Bl.go_on ?_
  refine Bl.wpL_load rfl Hl9.out ?_
  go_wp2_with (with_reducible refine Bl.stop_store (ty := 33) ?_)
  refine Bl.go_on ?_
  refine Bl.wpL_store0 rfl rfl Hst9.out ?_
  go_wp2_with fail
  refine bodyPost_ret (v := .tuple #[.agg (Bl.cL (l) (.slice pp l.places.length cp) (.slice ps n csn) (.slice pb n3 cb)).toArray, .bool true]) (Bl.results_cell2 rfl rfl (HBR9.out.loadVar (P := Tryd.prog) Tryd.underlying33 rfl (by kernel_rfl)) rfl) rfl ?_
  have hsp := (show Bl.bendL k at' y l = (l, true) from by rw [Bl.bendL_sh hk6 hk7 hk8 hk9 (fun q => hk1 q.1), Bl.bendA_no (.inr (.inr (.inr hk)))])
  unfold Bl.BeR
  rw [hsp]
  exact ⟨_, rfl, ⟨_, _, _, _, _, rfl, (HFz.out.kept (F' := fun _ => True) fun k hk hlk => ⟨trivial, HK9.out.block k hlk (by have := HX.out; omega)⟩).ltc⟩, HE9.out.ext fun k q => q⟩
end Go.Proofs.YtmmolapkddbibaaDoor

/- Walk of baileeref29.Bend. -/
namespace Go.Proofs.YtmmolapkddbibaaDoor
open Go Go.RowKit Go.Proofs

set_option maxRecDepth 100000 in
set_option maxHeartbeats 8000000 in
theorem refbnb (at' y : Int) (v : Value) (l : Bl.LT) (w : World) (h : Bl.LtV w v l) (hLg : Bl.LgL l) (hid : -1125899906842624 ≤ l.id ∧ l.id ≤ 1125899906842624) (h6 : ¬ l.kind = 6) (h4 : ¬ l.kind = 4) :
    Calls Tryd.prog 11 #[v, .int .i64 1, .int .i64 at', .int .i64 y] w fun e w' => Bl.BeR 1 at' y l w e w' := by
  obtain ⟨cs0, vp, vs, vb, L, rfl, hc⟩ := h
  obtain rfl := hc.eq
  obtain ⟨pp, cp, hvp, _, _⟩ := hc.pl.form
  obtain ⟨ps, csn, hvs, _, _⟩ := hc.sh.rd.form
  obtain ⟨pb, cb, hvb, _, _⟩ := hc.bl.form
  have HLg := Bl.hid hLg
  have hls : L.length = l.shown.length := by have := congrArg List.length hc.sl; simpa using this
  obtain ⟨n, hn⟩ : ∃ z, z = L.length := ⟨_, rfl⟩
  obtain ⟨n3, hn3⟩ : ∃ z, z = l.blocks.length := ⟨_, rfl⟩
  rw [← hn] at hvs hls
  rw [← hn3] at hvb
  have Hnn : Hid (n = L.length ∧ n = l.shown.length ∧ n3 = l.blocks.length ∧ n ≤ 30 ∧ n3 ≤ 600) := Bl.hid ⟨hn, hls, hn3, by rw [hls]; exact hLg.sh, by rw [hn3]; exact hLg.bl⟩
  obtain ⟨P, hP⟩ : ∃ z, z = w.heap.size := ⟨_, rfl⟩
  obtain ⟨R, hR⟩ : ∃ z, z = w.heap.size + 1 := ⟨_, rfl⟩
  obtain ⟨W2, hW2⟩ : ∃ W, W = (w.alloc (.cells (Bl.cL l vp vs vb).toArray 33)).alloc (.cells Bl.zL 33) := ⟨_, rfl⟩
  have hs1 : (w.alloc (.cells (Bl.cL l vp vs vb).toArray 33)).heap.size = w.heap.size + 1 := World.size_alloc _ _
  have hs2 : W2.heap.size = w.heap.size + 1 + 1 := by rw [hW2, World.size_alloc, hs1]
  have hE2 : Bl.Ext w W2 := by rw [hW2]; exact (Bl.ext_alloc _ _).trans (Bl.ext_alloc _ _)
  have hBP : Bl.BoxC W2 P (Bl.cL l vp vs vb) := by
    rw [hW2, hP]; exact (Bl.BoxC.box w 33 (Bl.cL_ne _ _ _ _)).ext (Bl.ext_alloc _ _)
  have hBR : Bl.BoxC W2 R Bl.zL.toList := by
    have h := Bl.BoxC.box (cs := Bl.zL.toList) (w.alloc (.cells (Bl.cL l vp vs vb).toArray 33)) 33 (fun q => by cases q)
    rw [hs1, ← hR] at h
    rw [hW2]; exact h
  have HX : Hid (P = w.heap.size ∧ R = w.heap.size + 1 ∧ W2.heap.size = w.heap.size + 2) := Bl.hid ⟨hP, hR, hs2⟩
  have HE2 := Bl.hid hE2
  have HBP := Bl.hid hBP
  have HBR := Bl.hid hBR
  have HF2 : Hid (Bl.LtF (fun b => b < w.heap.size ∨ w.heap.size + 2 ≤ b) W2 l vp vs vb L) := Bl.hid ((Bl.LtF.of_ltc hc).kept fun b hb hl => ⟨.inl hb, hE2.block b hl⟩)
  have q0 := hBP.cell (i := 0) (v := .int .i64 l.kind) rfl
  have q4 := hBP.cell (i := 4) (v := vs) rfl
  have q7 := hBP.cell (i := 7) (v := vb) rfl
  have q1 := hBP.cell (i := 1) (v := .int .i64 l.id) rfl
  have q2 := hBP.cell (i := 2) (v := .int .i64 l.obj) rfl
  have Hid' := Bl.hid hid
  unfold Bl.cL at hW2
  clear hs1 hs2 hE2 hBP hBR hc hLg hid hls hn hn3
  subst hvs hvb hvp
  show Calls Tryd.prog 11 #[.agg #[.int .i64 l.kind, .int .i64 l.id, .int .i64 l.obj, .slice pp l.places.length cp, .slice ps n csn, .int .i64 l.frm, .int .i64 l.cnt, .slice pb n3 cb, .int .i64 l.code], .int .i64 1, .int .i64 at', .int .i64 y] w _
  obtain ⟨kd, hkd⟩ : ∃ z, z = l.kind := ⟨_, rfl⟩
  rw [← hkd] at q0 h6 h4
  have Hkd := Bl.hid hkd
  clear hkd

  go_enter Tryd.func11, Tryd.ntmps11
  go_wp2_with (with_reducible refine Bl.stop_loadg (ty := 3) ?_)
  refine Bl.go_on ?_
  rw [← hW2, ← hR, ← hP]
  clear hW2 hR hP

  have HBz := HBP
  have HFz := HF2
  have HBRz := HBR
  have HKz : Hid (Bl.Kq (fun k => w.heap.size ≤ k) w W2) := Bl.hid (Bl.Kq.of_ext HE2.out)

  have Hl9 := Bl.hid (HBz.out.load (P := Tryd.prog) Tryd.underlying33 rfl (by kernel_rfl))
  have hone9 := HFz.out.ltc.one
  have Hst9 := Bl.hid (HBRz.out.store (P := Tryd.prog) (cs' := Bl.cL (l) (.slice pp l.places.length cp) (.slice ps n csn) (.slice pb n3 cb)) rfl hone9 (ty := 33) (by kernel_rfl))
  have HBR9 := Bl.hid (HBRz.out.set (cs' := Bl.cL (l) (.slice pp l.places.length cp) (.slice ps n csn) (.slice pb n3 cb)) rfl)
  have HK9 := Bl.hid ((Bl.Kq.refl (W2)).setCells (Q := fun k => k = R) rfl 0 (Bl.cL (l) (.slice pp l.places.length cp) (.slice ps n csn) (.slice pb n3 cb)))
  have HE9 := Bl.hid (HKz.out.trans (HK9.out.mono (Q' := fun k => w.heap.size ≤ k) fun k hk q => by have := HX.out; omega))
  clear hone9
  go_wp2_with (with_reducible refine Bl.stop_load (ty := 33) ?_)
  refine Bl.go_on ?_
  refine Bl.wpL_load rfl Hl9.out ?_
  go_wp2_with (with_reducible refine Bl.stop_store (ty := 33) ?_)
  refine Bl.go_on ?_
  refine Bl.wpL_store0 rfl rfl Hst9.out ?_
  go_wp2_with fail
  refine bodyPost_ret (v := .tuple #[.agg (Bl.cL (l) (.slice pp l.places.length cp) (.slice ps n csn) (.slice pb n3 cb)).toArray, .bool true]) (Bl.results_cell2 rfl rfl (HBR9.out.loadVar (P := Tryd.prog) Tryd.underlying33 rfl (by kernel_rfl)) rfl) rfl ?_
  have hsp := (show Bl.bendL 1 at' y l = (l, true) from by rw [Bl.bendL_sh (by decide) (by decide) (by decide) (by decide) (fun q => h6 (by rw [Hkd.out]; exact q.2.1)), Bl.bendA_no (.inl (by rw [← Hkd.out]; exact h4))])
  unfold Bl.BeR
  rw [hsp]
  exact ⟨_, rfl, ⟨_, _, _, _, _, rfl, (HFz.out.kept (F' := fun _ => True) fun k hk hlk => ⟨trivial, HK9.out.block k hlk (by have := HX.out; omega)⟩).ltc⟩, HE9.out.ext fun k q => q⟩
end Go.Proofs.YtmmolapkddbibaaDoor

/- Walk of baileeref29.Bend. -/
namespace Go.Proofs.YtmmolapkddbibaaDoor
open Go Go.RowKit Go.Proofs

set_option maxRecDepth 100000 in
set_option maxHeartbeats 8000000 in
theorem refbnc (at' y : Int) (v : Value) (l : Bl.LT) (w : World) (h : Bl.LtV w v l) (hLg : Bl.LgL l) (hid : -1125899906842624 ≤ l.id ∧ l.id ≤ 1125899906842624) (h6 : l.kind = 6) (h0 : l.blocks.length = 0) :
    Calls Tryd.prog 11 #[v, .int .i64 1, .int .i64 at', .int .i64 y] w fun e w' => Bl.BeR 1 at' y l w e w' := by
  obtain ⟨cs0, vp, vs, vb, L, rfl, hc⟩ := h
  obtain rfl := hc.eq
  obtain ⟨pp, cp, hvp, _, _⟩ := hc.pl.form
  obtain ⟨ps, csn, hvs, _, _⟩ := hc.sh.rd.form
  obtain ⟨pb, cb, hvb, _, _⟩ := hc.bl.form
  have HLg := Bl.hid hLg
  have hls : L.length = l.shown.length := by have := congrArg List.length hc.sl; simpa using this
  obtain ⟨n, hn⟩ : ∃ z, z = L.length := ⟨_, rfl⟩
  obtain ⟨n3, hn3⟩ : ∃ z, z = l.blocks.length := ⟨_, rfl⟩
  rw [← hn] at hvs hls
  rw [← hn3] at hvb
  have Hnn : Hid (n = L.length ∧ n = l.shown.length ∧ n3 = l.blocks.length ∧ n ≤ 30 ∧ n3 ≤ 600) := Bl.hid ⟨hn, hls, hn3, by rw [hls]; exact hLg.sh, by rw [hn3]; exact hLg.bl⟩
  obtain ⟨P, hP⟩ : ∃ z, z = w.heap.size := ⟨_, rfl⟩
  obtain ⟨R, hR⟩ : ∃ z, z = w.heap.size + 1 := ⟨_, rfl⟩
  obtain ⟨W2, hW2⟩ : ∃ W, W = (w.alloc (.cells (Bl.cL l vp vs vb).toArray 33)).alloc (.cells Bl.zL 33) := ⟨_, rfl⟩
  have hs1 : (w.alloc (.cells (Bl.cL l vp vs vb).toArray 33)).heap.size = w.heap.size + 1 := World.size_alloc _ _
  have hs2 : W2.heap.size = w.heap.size + 1 + 1 := by rw [hW2, World.size_alloc, hs1]
  have hE2 : Bl.Ext w W2 := by rw [hW2]; exact (Bl.ext_alloc _ _).trans (Bl.ext_alloc _ _)
  have hBP : Bl.BoxC W2 P (Bl.cL l vp vs vb) := by
    rw [hW2, hP]; exact (Bl.BoxC.box w 33 (Bl.cL_ne _ _ _ _)).ext (Bl.ext_alloc _ _)
  have hBR : Bl.BoxC W2 R Bl.zL.toList := by
    have h := Bl.BoxC.box (cs := Bl.zL.toList) (w.alloc (.cells (Bl.cL l vp vs vb).toArray 33)) 33 (fun q => by cases q)
    rw [hs1, ← hR] at h
    rw [hW2]; exact h
  have HX : Hid (P = w.heap.size ∧ R = w.heap.size + 1 ∧ W2.heap.size = w.heap.size + 2) := Bl.hid ⟨hP, hR, hs2⟩
  have HE2 := Bl.hid hE2
  have HBP := Bl.hid hBP
  have HBR := Bl.hid hBR
  have HF2 : Hid (Bl.LtF (fun b => b < w.heap.size ∨ w.heap.size + 2 ≤ b) W2 l vp vs vb L) := Bl.hid ((Bl.LtF.of_ltc hc).kept fun b hb hl => ⟨.inl hb, hE2.block b hl⟩)
  have q0 := hBP.cell (i := 0) (v := .int .i64 l.kind) rfl
  have q4 := hBP.cell (i := 4) (v := vs) rfl
  have q7 := hBP.cell (i := 7) (v := vb) rfl
  have q1 := hBP.cell (i := 1) (v := .int .i64 l.id) rfl
  have q2 := hBP.cell (i := 2) (v := .int .i64 l.obj) rfl
  have Hid' := Bl.hid hid
  unfold Bl.cL at hW2
  clear hs1 hs2 hE2 hBP hBR hc hLg hid hls hn hn3
  subst hvs hvb hvp
  show Calls Tryd.prog 11 #[.agg #[.int .i64 l.kind, .int .i64 l.id, .int .i64 l.obj, .slice pp l.places.length cp, .slice ps n csn, .int .i64 l.frm, .int .i64 l.cnt, .slice pb n3 cb, .int .i64 l.code], .int .i64 1, .int .i64 at', .int .i64 y] w _
  have H6 := Bl.hid h6
  have H0 := Bl.hid h0
  obtain rfl : n3 = 0 := by rw [Hnn.out.2.2.1]; exact h0
  clear h0
  rw [h6] at q0
  try clear h4
  try clear h6

  go_enter Tryd.func11, Tryd.ntmps11
  go_wp2_with (with_reducible refine Bl.stop_loadg (ty := 3) ?_)
  refine Bl.go_on ?_
  rw [← hW2, ← hR, ← hP]
  clear hW2 hR hP

  have HBz := HBP
  have HFz := HF2
  have HBRz := HBR
  have HKz : Hid (Bl.Kq (fun k => w.heap.size ≤ k) w W2) := Bl.hid (Bl.Kq.of_ext HE2.out)

  have Hl9 := Bl.hid (HBz.out.load (P := Tryd.prog) Tryd.underlying33 rfl (by kernel_rfl))
  have hone9 := HFz.out.ltc.one
  have Hst9 := Bl.hid (HBRz.out.store (P := Tryd.prog) (cs' := Bl.cL (l) (.slice pp l.places.length cp) (.slice ps n csn) (.slice pb 0 cb)) rfl hone9 (ty := 33) (by kernel_rfl))
  have HBR9 := Bl.hid (HBRz.out.set (cs' := Bl.cL (l) (.slice pp l.places.length cp) (.slice ps n csn) (.slice pb 0 cb)) rfl)
  have HK9 := Bl.hid ((Bl.Kq.refl (W2)).setCells (Q := fun k => k = R) rfl 0 (Bl.cL (l) (.slice pp l.places.length cp) (.slice ps n csn) (.slice pb 0 cb)))
  have HE9 := Bl.hid (HKz.out.trans (HK9.out.mono (Q' := fun k => w.heap.size ≤ k) fun k hk q => by have := HX.out; omega))
  clear hone9
  go_wp2_with (with_reducible refine Bl.stop_load (ty := 33) ?_)
  refine Bl.go_on ?_
  refine Bl.wpL_load rfl Hl9.out ?_
  go_wp2_with (with_reducible refine Bl.stop_store (ty := 33) ?_)
  refine Bl.go_on ?_
  refine Bl.wpL_store0 rfl rfl Hst9.out ?_
  go_wp2_with fail
  refine bodyPost_ret (v := .tuple #[.agg (Bl.cL (l) (.slice pp l.places.length cp) (.slice ps n csn) (.slice pb 0 cb)).toArray, .bool true]) (Bl.results_cell2 rfl rfl (HBR9.out.loadVar (P := Tryd.prog) Tryd.underlying33 rfl (by kernel_rfl)) rfl) rfl ?_
  have hsp := (show Bl.bendL 1 at' y l = (l, true) from by rw [Bl.bendL_sh (by decide) (by decide) (by decide) (by decide) (fun q => by have := H0.out; omega), Bl.bendA_no (.inl (by have := H6.out; omega))])
  unfold Bl.BeR
  rw [hsp]
  exact ⟨_, rfl, ⟨_, _, _, _, _, rfl, (HFz.out.kept (F' := fun _ => True) fun k hk hlk => ⟨trivial, HK9.out.block k hlk (by have := HX.out; omega)⟩).ltc⟩, HE9.out.ext fun k q => q⟩
end Go.Proofs.YtmmolapkddbibaaDoor

/- Walk of baileeref29.Bend. -/
namespace Go.Proofs.YtmmolapkddbibaaDoor
open Go Go.RowKit Go.Proofs

set_option maxRecDepth 100000 in
set_option maxHeartbeats 8000000 in
theorem refbne (at' y : Int) (v : Value) (l : Bl.LT) (w : World) (h : Bl.LtV w v l) (hLg : Bl.LgL l) (hid : -1125899906842624 ≤ l.id ∧ l.id ≤ 1125899906842624) (h4 : l.kind = 4) (h0 : l.shown.length = 0) :
    Calls Tryd.prog 11 #[v, .int .i64 1, .int .i64 at', .int .i64 y] w fun e w' => Bl.BeR 1 at' y l w e w' := by
  obtain ⟨cs0, vp, vs, vb, L, rfl, hc⟩ := h
  obtain rfl := hc.eq
  obtain ⟨pp, cp, hvp, _, _⟩ := hc.pl.form
  obtain ⟨ps, csn, hvs, _, _⟩ := hc.sh.rd.form
  obtain ⟨pb, cb, hvb, _, _⟩ := hc.bl.form
  have HLg := Bl.hid hLg
  have hls : L.length = l.shown.length := by have := congrArg List.length hc.sl; simpa using this
  obtain ⟨n, hn⟩ : ∃ z, z = L.length := ⟨_, rfl⟩
  obtain ⟨n3, hn3⟩ : ∃ z, z = l.blocks.length := ⟨_, rfl⟩
  rw [← hn] at hvs hls
  rw [← hn3] at hvb
  have Hnn : Hid (n = L.length ∧ n = l.shown.length ∧ n3 = l.blocks.length ∧ n ≤ 30 ∧ n3 ≤ 600) := Bl.hid ⟨hn, hls, hn3, by rw [hls]; exact hLg.sh, by rw [hn3]; exact hLg.bl⟩
  obtain ⟨P, hP⟩ : ∃ z, z = w.heap.size := ⟨_, rfl⟩
  obtain ⟨R, hR⟩ : ∃ z, z = w.heap.size + 1 := ⟨_, rfl⟩
  obtain ⟨W2, hW2⟩ : ∃ W, W = (w.alloc (.cells (Bl.cL l vp vs vb).toArray 33)).alloc (.cells Bl.zL 33) := ⟨_, rfl⟩
  have hs1 : (w.alloc (.cells (Bl.cL l vp vs vb).toArray 33)).heap.size = w.heap.size + 1 := World.size_alloc _ _
  have hs2 : W2.heap.size = w.heap.size + 1 + 1 := by rw [hW2, World.size_alloc, hs1]
  have hE2 : Bl.Ext w W2 := by rw [hW2]; exact (Bl.ext_alloc _ _).trans (Bl.ext_alloc _ _)
  have hBP : Bl.BoxC W2 P (Bl.cL l vp vs vb) := by
    rw [hW2, hP]; exact (Bl.BoxC.box w 33 (Bl.cL_ne _ _ _ _)).ext (Bl.ext_alloc _ _)
  have hBR : Bl.BoxC W2 R Bl.zL.toList := by
    have h := Bl.BoxC.box (cs := Bl.zL.toList) (w.alloc (.cells (Bl.cL l vp vs vb).toArray 33)) 33 (fun q => by cases q)
    rw [hs1, ← hR] at h
    rw [hW2]; exact h
  have HX : Hid (P = w.heap.size ∧ R = w.heap.size + 1 ∧ W2.heap.size = w.heap.size + 2) := Bl.hid ⟨hP, hR, hs2⟩
  have HE2 := Bl.hid hE2
  have HBP := Bl.hid hBP
  have HBR := Bl.hid hBR
  have HF2 : Hid (Bl.LtF (fun b => b < w.heap.size ∨ w.heap.size + 2 ≤ b) W2 l vp vs vb L) := Bl.hid ((Bl.LtF.of_ltc hc).kept fun b hb hl => ⟨.inl hb, hE2.block b hl⟩)
  have q0 := hBP.cell (i := 0) (v := .int .i64 l.kind) rfl
  have q4 := hBP.cell (i := 4) (v := vs) rfl
  have q7 := hBP.cell (i := 7) (v := vb) rfl
  have q1 := hBP.cell (i := 1) (v := .int .i64 l.id) rfl
  have q2 := hBP.cell (i := 2) (v := .int .i64 l.obj) rfl
  have Hid' := Bl.hid hid
  unfold Bl.cL at hW2
  clear hs1 hs2 hE2 hBP hBR hc hLg hid hls hn hn3
  subst hvs hvb hvp
  show Calls Tryd.prog 11 #[.agg #[.int .i64 l.kind, .int .i64 l.id, .int .i64 l.obj, .slice pp l.places.length cp, .slice ps n csn, .int .i64 l.frm, .int .i64 l.cnt, .slice pb n3 cb, .int .i64 l.code], .int .i64 1, .int .i64 at', .int .i64 y] w _
  have H4 := Bl.hid h4
  have H0 := Bl.hid h0
  obtain rfl : n = 0 := by rw [Hnn.out.2.1]; exact h0
  clear h0
  rw [h4] at q0
  try clear h4
  try clear h6

  go_enter Tryd.func11, Tryd.ntmps11
  go_wp2_with (with_reducible refine Bl.stop_loadg (ty := 3) ?_)
  refine Bl.go_on ?_
  rw [← hW2, ← hR, ← hP]
  clear hW2 hR hP

  have HBz := HBP
  have HFz := HF2
  have HBRz := HBR
  have HKz : Hid (Bl.Kq (fun k => w.heap.size ≤ k) w W2) := Bl.hid (Bl.Kq.of_ext HE2.out)

  have Hl9 := Bl.hid (HBz.out.load (P := Tryd.prog) Tryd.underlying33 rfl (by kernel_rfl))
  have hone9 := HFz.out.ltc.one
  have Hst9 := Bl.hid (HBRz.out.store (P := Tryd.prog) (cs' := Bl.cL (l) (.slice pp l.places.length cp) (.slice ps 0 csn) (.slice pb n3 cb)) rfl hone9 (ty := 33) (by kernel_rfl))
  have HBR9 := Bl.hid (HBRz.out.set (cs' := Bl.cL (l) (.slice pp l.places.length cp) (.slice ps 0 csn) (.slice pb n3 cb)) rfl)
  have HK9 := Bl.hid ((Bl.Kq.refl (W2)).setCells (Q := fun k => k = R) rfl 0 (Bl.cL (l) (.slice pp l.places.length cp) (.slice ps 0 csn) (.slice pb n3 cb)))
  have HE9 := Bl.hid (HKz.out.trans (HK9.out.mono (Q' := fun k => w.heap.size ≤ k) fun k hk q => by have := HX.out; omega))
  clear hone9
  go_wp2_with (with_reducible refine Bl.stop_load (ty := 33) ?_)
  refine Bl.go_on ?_
  refine Bl.wpL_load rfl Hl9.out ?_
  go_wp2_with (with_reducible refine Bl.stop_store (ty := 33) ?_)
  refine Bl.go_on ?_
  refine Bl.wpL_store0 rfl rfl Hst9.out ?_
  go_wp2_with fail
  refine bodyPost_ret (v := .tuple #[.agg (Bl.cL (l) (.slice pp l.places.length cp) (.slice ps 0 csn) (.slice pb n3 cb)).toArray, .bool true]) (Bl.results_cell2 rfl rfl (HBR9.out.loadVar (P := Tryd.prog) Tryd.underlying33 rfl (by kernel_rfl)) rfl) rfl ?_
  have hsp := (show Bl.bendL 1 at' y l = (l, true) from by rw [Bl.bendL_sh (by decide) (by decide) (by decide) (by decide) (fun q => by have := H4.out; omega), Bl.bendA_no (.inr (.inl H0.out))])
  unfold Bl.BeR
  rw [hsp]
  exact ⟨_, rfl, ⟨_, _, _, _, _, rfl, (HFz.out.kept (F' := fun _ => True) fun k hk hlk => ⟨trivial, HK9.out.block k hlk (by have := HX.out; omega)⟩).ltc⟩, HE9.out.ext fun k q => q⟩
end Go.Proofs.YtmmolapkddbibaaDoor

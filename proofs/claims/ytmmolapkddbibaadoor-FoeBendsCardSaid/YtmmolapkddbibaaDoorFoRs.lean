/- Texts that stood apart, in one: FoeRs1, FoeRs5, FoeRk. -/
import Derived.Test.YtmmolapkddbibaaDoorFoR
import Derived.Test.YtmmolapkddbibaaDoorFo0
import Derived.Test.YtmmolapkddbibaaDoorLDs
import Derived.Test.YtmmolapkddbibaaDoorLet2b
/- Walk of baileeref29.Bend. -/
namespace Go.Proofs.YtmmolapkddbibaaDoor
open Go Go.RowKit Go.Proofs

set_option maxRecDepth 100000 in
set_option maxHeartbeats 8000000 in
theorem refbs1 (at' y : Int) (v : Value) (l : Bl.LT) (w : World) (h : Bl.LtV w v l) (hLg : Bl.LgL l) (hid : -1125899906842624 ≤ l.id ∧ l.id ≤ 1125899906842624) (h4 : l.kind = 4) (h0 : 0 < l.shown.length) :
    Calls Tryd.prog 11 #[v, .int .i64 1, .int .i64 at', .int .i64 y] w fun e w' => Bl.BeR 1 at' y l w e w' := by
  obtain ⟨cs0, vp, vs, vb, L, rfl, hc⟩ := h
  obtain rfl := hc.eq
  obtain ⟨pp, cp, hvp, _, _⟩ := hc.pl.form
  obtain ⟨ps, csn, hvs, _, _⟩ := hc.sh.rd.form
  obtain ⟨pb, cb, hvb, _, _⟩ := hc.bl.form
  have HLg := Bl.hid hLg
  have hls : L.length = l.shown.length := by have := congrArg List.length hc.sl; simpa using this
  obtain ⟨n, hn⟩ : ∃ z, z = L.length := ⟨_, rfl⟩
  obtain ⟨n3, hn3⟩ : ∃ z, z = l.blocks.length := ⟨_, rfl⟩
  rw [← hn] at hvs hls
  rw [← hn3] at hvb
  have Hnn : Hid (n = L.length ∧ n = l.shown.length ∧ n3 = l.blocks.length ∧ n ≤ 30 ∧ n3 ≤ 600) := Bl.hid ⟨hn, hls, hn3, by rw [hls]; exact hLg.sh, by rw [hn3]; exact hLg.bl⟩
  obtain ⟨P, hP⟩ : ∃ z, z = w.heap.size := ⟨_, rfl⟩
  obtain ⟨R, hR⟩ : ∃ z, z = w.heap.size + 1 := ⟨_, rfl⟩
  obtain ⟨W2, hW2⟩ : ∃ W, W = (w.alloc (.cells (Bl.cL l vp vs vb).toArray 33)).alloc (.cells Bl.zL 33) := ⟨_, rfl⟩
  have hs1 : (w.alloc (.cells (Bl.cL l vp vs vb).toArray 33)).heap.size = w.heap.size + 1 := World.size_alloc _ _
  have hs2 : W2.heap.size = w.heap.size + 1 + 1 := by rw [hW2, World.size_alloc, hs1]
  have hE2 : Bl.Ext w W2 := by rw [hW2]; exact (Bl.ext_alloc _ _).trans (Bl.ext_alloc _ _)
  have hBP : Bl.BoxC W2 P (Bl.cL l vp vs vb) := by
    rw [hW2, hP]; exact (Bl.BoxC.box w 33 (Bl.cL_ne _ _ _ _)).ext (Bl.ext_alloc _ _)
  have hBR : Bl.BoxC W2 R Bl.zL.toList := by
    have h := Bl.BoxC.box (cs := Bl.zL.toList) (w.alloc (.cells (Bl.cL l vp vs vb).toArray 33)) 33 (fun q => by cases q)
    rw [hs1, ← hR] at h
    rw [hW2]; exact h
  have HX : Hid (P = w.heap.size ∧ R = w.heap.size + 1 ∧ W2.heap.size = w.heap.size + 2) := Bl.hid ⟨hP, hR, hs2⟩
  have HE2 := Bl.hid hE2
  have HBP := Bl.hid hBP
  have HBR := Bl.hid hBR
  have HF2 : Hid (Bl.LtF (fun b => b < w.heap.size ∨ w.heap.size + 2 ≤ b) W2 l vp vs vb L) := Bl.hid ((Bl.LtF.of_ltc hc).kept fun b hb hl => ⟨.inl hb, hE2.block b hl⟩)
  have q0 := hBP.cell (i := 0) (v := .int .i64 l.kind) rfl
  have q4 := hBP.cell (i := 4) (v := vs) rfl
  have q7 := hBP.cell (i := 7) (v := vb) rfl
  have q1 := hBP.cell (i := 1) (v := .int .i64 l.id) rfl
  have q2 := hBP.cell (i := 2) (v := .int .i64 l.obj) rfl
  have Hid' := Bl.hid hid
  unfold Bl.cL at hW2
  clear hs1 hs2 hE2 hBP hBR hc hLg hid hls hn hn3
  subst hvs hvb hvp
  show Calls Tryd.prog 11 #[.agg #[.int .i64 l.kind, .int .i64 l.id, .int .i64 l.obj, .slice pp l.places.length cp, .slice ps n csn, .int .i64 l.frm, .int .i64 l.cnt, .slice pb n3 cb, .int .i64 l.code], .int .i64 1, .int .i64 at', .int .i64 y] w _
  have H4 := Bl.hid h4
  rw [h4] at q0
  have h0n : 0 < n := by rw [Hnn.out.2.1]; exact h0
  obtain ⟨i, hi, e1, e2⟩ := Bl.emod_nat at' h0n
  have HBd : Hid (Bl.bendL 1 at' y l = ({ l with shown := Bl.bendS 1 i y l.shown }, true)) := Bl.hid (by
    rw [Bl.bendL_sh (by decide) (by decide) (by decide) (by decide) (fun q => by have := q.2.1; omega)]
    unfold Bl.bendA
    rw [if_pos ⟨h4, h0⟩, ← Hnn.out.2.1, e2])
  have HR : Hid (∀ w2, Calls Tryd.prog 32 #[.int .i64 at', .int .i64 n] w2 fun e w' => e = .returned (.int .i64 (i : Nat)) ∧ w2 = w') := Bl.hid fun w2 => by
    have h := refrest_any at' n w2 (by omega) (by have := Hnn.out; omega)
    rw [e1] at h
    exact h
  have hi0 : (0 : Int) ≤ (i : Int) := by omega
  have hi1 : (i : Int) < (n : Int) := by omega
  have hn2 : ¬ ((n : Int) = 0) := by omega
  have hn3 : ¬ (n = 0) := by omega
  have hn4 : (n : Int) ≤ 30 := by have := Hnn.out; omega
  have Hin : Hid (i < n ∧ 0 < n ∧ i < L.length ∧ 0 < L.length) := Bl.hid ⟨hi, h0n, by rw [← Hnn.out.1]; exact hi, by rw [← Hnn.out.1]; exact h0n⟩
  clear e1 e2 hi h0 h4 h0n

  go_enter Tryd.func11, Tryd.ntmps11
  go_wp2_with (with_reducible refine Bl.stop_loadg (ty := 3) ?_)
  refine Bl.go_on ?_
  rw [← hW2, ← hR, ← hP]
  clear hW2 hR hP

  go_wp2_with fail
  refine (HR.out W2).mono ?_
  rintro e w3 ⟨rfl, hw3⟩
  subst hw3
  have hEe : Bl.Ext W2 (W2.alloc (.cells #[] 68)) := Bl.ext_alloc _ _
  have Ho : Hid ((W2.alloc (.cells #[] 68)).ownsRow W2.heap.size 68 3 (.slice (some ⟨W2.heap.size, 0, none⟩) 0 0) 0 []) := Bl.hid (Bl.owns_new W2 68 #[] W2.heap.size 0 3 (Nat.le_refl _) (by decide) rfl)
  have Hrd : Hid (Bl.Rds (W2.alloc (.cells #[] 68)) (.slice ps n csn) n (Bl.cellsR Bl.cS L)) := Bl.hid (by have h := HF2.out.sh.rds; rw [← Hnn.out.1] at h; exact h.ext hEe)
  have qe4 := (HBP.out.ext hEe).cell (i := 4) (v := .slice ps n csn) rfl
  have Hone : Hid (∀ c ∈ Bl.cellsR Bl.cS L, c.oneCell' = true) := Bl.hid (Bl.cellsR_cell fun x hx => Bl.cS_one (HF2.out.so x hx).ok)
  have Hcl : Hid ((Bl.cellsR Bl.cS L).length = n * 3) := Bl.hid (by rw [Bl.cellsS_len, ← Hnn.out.1])
  clear hEe
  go_wp2_with (with_reducible refine Bl.stop_append ?_)
  refine Bl.go_on ?_
  refine Bl.wpL_app tShR Ho.out Hrd.out rfl rfl Hcl.out Hone.out (by unfold maxLen; omega) (by omega) (by simp) ?_
  intro p4 cap w4 hown hg hB hK hn1 hc1
  rw [Nat.zero_add] at hown hn1 ⊢
  rw [List.nil_append] at hown
  have hE4 : Bl.Ext W2 w4 := Below.trans (Bl.ext_alloc _ _) hB
  obtain ⟨g, cap0, hf, hg1, hg2, hg3, hg4, hrg0⟩ := (Bl.Pq.of_owns hown).1.form Hin.out.2.1
  injection hf with hf1 hf3 hf2
  subst hf1 hf2
  clear hf3
  have HRg0 := Bl.hid hrg0
  clear hrg0
  have HRw := Bl.hid (Bl.Pq.of_owns hown).1
  have HE4 := Bl.hid hE4
  have HB4 := Bl.hid (HBP.out.ext hE4)
  have HBR4 := Bl.hid (HBR.out.ext hE4)
  have HF4 : Hid (Bl.LtF (fun b => b < w.heap.size ∨ w.heap.size + 2 ≤ b ∧ b ≠ g) w4 l (.slice pp l.places.length cp) (.slice ps n csn) (.slice pb n3 cb) L) := Bl.hid (((Bl.LtF.kept (F' := fun b => b < W2.heap.size ∧ (b < w.heap.size ∨ w.heap.size + 2 ≤ b)) HF2.out fun b hb hl => ⟨⟨hl, hb⟩, rfl⟩)).kept fun b hb hl => ⟨by rcases hb.2 with q | q; exact .inl q; exact .inr ⟨q, by omega⟩, hE4.block b hb.1⟩)
  have HG : Hid (W2.heap.size ≤ g ∧ g < w4.heap.size ∧ n ≤ cap ∧ cap ≤ maxLen ∧ w.heap.size + 2 ≤ g ∧ P ≠ g ∧ R ≠ g) := Bl.hid ⟨hg1, hg2, hg3, hg4, by have := HX.out; omega, by have := HX.out; omega, by have := HX.out; omega⟩
  have HgetL : Hid (∀ j, j < 3 → (Bl.cellsR Bl.cS L)[i * 3 + j]? = (Bl.cS (L.getD i Bl.s0))[j]?) := Bl.hid fun j hj => Bl.cellsR_get Bl.cS_len Bl.s0 j hj L i Hin.out.2.2.1
  have HpS : Hid (Bl.plS (L.getD i Bl.s0) = l.shown.getD i Bl.h0) := Bl.hid (by rw [← Bl.plS_getD, HF2.out.sl])
  have hn5 : (n : Int) ≤ (cap : Int) := by omega
  clear hown hg hB hK hn1 hc1 hE4 hg1 hg2 hg3 hg4 Ho Hrd q0 q1 q2 q4 q7 qe4
  obtain ⟨x0, hx⟩ : ∃ x, x = L.getD i Bl.s0 := ⟨_, rfl⟩
  have hok := HF4.out.so _ (Bl.getD_mem Bl.s0 (i := i) (L := L) Hin.out.2.2.1)
  have hlg := HLg.out.st (Bl.plS (L.getD i Bl.s0)) (by rw [← HF4.out.sl]; exact List.mem_map_of_mem (Bl.getD_mem Bl.s0 Hin.out.2.2.1))
  have Hset : Hid (∀ a st', (Bl.cellsR Bl.cS L).set (i * 3 + 1) a = Bl.cellsR Bl.cS (L.set i ((L.getD i Bl.s0).1, (a, st'), (L.getD i Bl.s0).2.2))) := Bl.hid fun a st' => Bl.cellsR_set Bl.cS_len Bl.s0 ((L.getD i Bl.s0).1, (a, st'), (L.getD i Bl.s0).2.2) a 1 (by decide) L i Hin.out.2.2.1 rfl
  rw [← hx] at HgetL HpS hok hlg Hset
  obtain ⟨pl0, ⟨u1, st⟩, u2, pth⟩ := x0
  obtain ⟨pu, cu, hu1, _, _⟩ := hok.st.rds.form
  have hu1 : u1 = .slice pu st.length cu := hu1
  subst hu1
  have Hok := Bl.hid hok
  have Hlg : Hid (st.length ≤ 100) := Bl.hid hlg.1
  obtain ⟨ns, hns⟩ : ∃ z, z = st.length := ⟨_, rfl⟩
  rw [← hns] at HgetL Hset
  have Hns := Bl.hid hns
  have HFl : Hid (∀ w2, Bl.Ext w4 w2 → Calls Tryd.prog 33 #[.slice pu ns cu, .int .i64 y] w2 fun e w' => ∃ v', e = .returned v' ∧ Bl.Pq w2.heap.size w'.heap.size w' 1 v' ns (Bl.ints .u8 (Bl.flL st y)) ∧ Bl.Ext w2 w') := Bl.hid fun w2 h => by
    rw [hns]
    exact flipped_any _ st y w2 (Hok.out.st.rds.ext h) Hok.out.bs (by have := Hlg.out; omega)
  have hcS := HRw.out.cell (HgetL.out 1 (by decide))
  clear hok hlg hx hns
  go_wp2_with fail
  refine (HFl.out w4 (Below.refl _ _)).mono ?_
  rintro e w5 ⟨v5, rfl, hP5, hE5⟩
  obtain ⟨p5, c5, hv5, _, _⟩ := hP5.1.rds.form
  subst hv5
  have HP5 := Bl.hid hP5
  have HE5 := Bl.hid hE5
  have hR5 := HRw.out.ext hE5
  have HR5 := Bl.hid hR5
  have q31 := hR5.cell (HgetL.out 1 (by decide))
  have f31 := hR5.fz (j := i * 3 + 1) (by rw [Hcl.out]; have := Hin.out; omega)
  have HKz : Hid (Bl.Kq (fun k => k = g ∨ w4.heap.size ≤ k) w4 (w5.setCell ⟨g, i * 3 + 1, none⟩ (.slice p5 ns c5))) := Bl.hid ((Bl.Kq.of_ext hE5).setCell (Q := fun k => k = g ∨ w4.heap.size ≤ k) ⟨g, i * 3 + 1, none⟩ (.inl rfl) _)
  have HRz : Hid (Bl.Pk (w5.setCell ⟨g, i * 3 + 1, none⟩ (.slice p5 ns c5)) W2.heap.size 3 (.slice (some ⟨g, 0, none⟩) n cap) n (Bl.cellsR Bl.cS (L.set i (pl0, (.slice p5 ns c5, Bl.flL st y), u2, pth)))) := Bl.hid (by
    have h := hR5.put (j := i * 3 + 1) (by rw [Hcl.out]; have := Hin.out; omega) (.slice p5 ns c5)
    rw [Hset.out _ (Bl.flL st y)] at h
    exact h)
  have HKg : Hid (Bl.Kq (fun k => k = g) w5 (w5.setCell ⟨g, i * 3 + 1, none⟩ (.slice p5 ns c5))) := Bl.hid ((Bl.Kq.refl w5).setCell (Q := fun k => k = g) ⟨g, i * 3 + 1, none⟩ rfl _)
  clear hP5 hE5 hR5 hcS

  have HBy := Bl.hid (HKz.out.box (by have := HX.out; have := HG.out; omega) HB4.out)
  have HBRy := Bl.hid (HKz.out.box (by have := HX.out; have := HG.out; omega) HBR4.out)
  have q94 := HBy.out.cell (i := 4) (v := .slice ps n csn) rfl
  have f94 := HBy.out.fz (i := 4) (show 4 < 9 by decide)
  have HBz : Hid (Bl.BoxC ((w5.setCell ⟨g, i * 3 + 1, none⟩ (.slice p5 ns c5)).setCell ⟨P, 4, none⟩ (.slice (some ⟨g, 0, none⟩) n cap)) P (Bl.cL { l with shown := Bl.bendS 1 i y l.shown } (.slice pp l.places.length cp) (.slice (some ⟨g, 0, none⟩) n cap) (.slice pb n3 cb))) := Bl.hid (HBy.out.put (i := 4) (show 4 < 9 by decide) (.slice (some ⟨g, 0, none⟩) n cap))
  have hKs : Bl.Kq (fun k => k = P) (w5.setCell ⟨g, i * 3 + 1, none⟩ (.slice p5 ns c5)) ((w5.setCell ⟨g, i * 3 + 1, none⟩ (.slice p5 ns c5)).setCell ⟨P, 4, none⟩ (.slice (some ⟨g, 0, none⟩) n cap)) := (Bl.Kq.refl (w5.setCell ⟨g, i * 3 + 1, none⟩ (.slice p5 ns c5))).setCell (Q := fun k => k = P) ⟨P, 4, none⟩ rfl _
  have HFz : Hid (Bl.LtF (fun b => b < w.heap.size ∨ w.heap.size + 2 ≤ b) ((w5.setCell ⟨g, i * 3 + 1, none⟩ (.slice p5 ns c5)).setCell ⟨P, 4, none⟩ (.slice (some ⟨g, 0, none⟩) n cap)) { l with shown := Bl.bendS 1 i y l.shown } (.slice pp l.places.length cp) (.slice (some ⟨g, 0, none⟩) n cap) (.slice pb n3 cb) (L.set i (pl0, (.slice p5 ns c5, Bl.flL st y), u2, pth))) := Bl.hid (by
    have h := HF4.out.kept (w' := w5.setCell ⟨g, i * 3 + 1, none⟩ (.slice p5 ns c5)) (F' := fun b => b < w.heap.size ∨ w.heap.size + 2 ≤ b) fun b hb hl => ⟨by omega, HKz.out.block b hl (by have := HX.out; have := HG.out; omega)⟩
    refine Bl.LtF.kept (F := fun b => b < w.heap.size ∨ w.heap.size + 2 ≤ b) (h.shn (vs2 := (.slice (some ⟨g, 0, none⟩) n cap)) (L2 := L.set i (pl0, (.slice p5 ns c5, Bl.flL st y), u2, pth)) ?_ ?_ ?_) fun b hb hl => ⟨hb, hKs.block b hl (by have := HX.out; omega)⟩
    · rw [List.length_set, ← Hnn.out.1]
      exact Bl.RdsF.of_rds HRz.out.rds fun b hb _ => .inr (by have := (HRz.out.block b hb).1; have := HX.out; omega)
    · intro x hx
      rcases List.mem_or_eq_of_mem_set hx with hx | rfl
      · exact h.so x hx
      · have h9 := Bl.stab_okF _ (fun b => b < w.heap.size ∨ w.heap.size + 2 ≤ b) _ (w5.setCell ⟨g, i * 3 + 1, none⟩ (.slice p5 ns c5)) _ Hok.out fun b hb hl => ⟨by omega, (HKg.out.block b (Nat.lt_of_lt_of_le hl HE5.out.size) (by have := HX.out; have := HG.out; omega)).trans (HE5.out.block b hl)⟩
        refine ⟨?_, Bl.flL_byt Hok.out.bs y, h9.pa, h9.dg⟩
        show Bl.RdsF _ _ (.slice p5 ns c5) (Bl.flL st y).length _
        rw [Bl.flL_len, ← Hns.out]
        exact (HP5.out.rdsF (F := fun b => w4.heap.size ≤ b) fun b h1 _ => h1).kept fun b hb hl => ⟨.inr (by have := HX.out; have := HG.out; omega), HKg.out.block b hl (by have := HG.out; omega)⟩
    · rw [List.map_set, HF4.out.sl]
      unfold Bl.bendS
      rw [if_pos rfl, ← HpS.out]
      rfl)
  have HBRz := Bl.hid (hKs.box (by have := HX.out; omega) HBRy.out)
  have HKw : Hid (Bl.Kq (fun k => w.heap.size ≤ k) w ((w5.setCell ⟨g, i * 3 + 1, none⟩ (.slice p5 ns c5)).setCell ⟨P, 4, none⟩ (.slice (some ⟨g, 0, none⟩) n cap))) := Bl.hid ((((Bl.Kq.of_ext HE2.out).trans (Bl.Kq.of_ext HE4.out)).trans (HKz.out.mono fun k hk q => by have := HX.out; have := HG.out; omega)).trans (hKs.mono fun k hk q => by have := HX.out; omega))
  clear hKs HKz
  have HKz := HKw

  have Hl9 := Bl.hid (HBz.out.load (P := Tryd.prog) Tryd.underlying33 rfl (by kernel_rfl))
  have hone9 := HFz.out.ltc.one
  have Hst9 := Bl.hid (HBRz.out.store (P := Tryd.prog) (cs' := Bl.cL ({ l with shown := Bl.bendS 1 i y l.shown }) (.slice pp l.places.length cp) (.slice (some ⟨g, 0, none⟩) n cap) (.slice pb n3 cb)) rfl hone9 (ty := 33) (by kernel_rfl))
  have HBR9 := Bl.hid (HBRz.out.set (cs' := Bl.cL ({ l with shown := Bl.bendS 1 i y l.shown }) (.slice pp l.places.length cp) (.slice (some ⟨g, 0, none⟩) n cap) (.slice pb n3 cb)) rfl)
  have HK9 := Bl.hid ((Bl.Kq.refl ((w5.setCell ⟨g, i * 3 + 1, none⟩ (.slice p5 ns c5)).setCell ⟨P, 4, none⟩ (.slice (some ⟨g, 0, none⟩) n cap))).setCells (Q := fun k => k = R) rfl 0 (Bl.cL ({ l with shown := Bl.bendS 1 i y l.shown }) (.slice pp l.places.length cp) (.slice (some ⟨g, 0, none⟩) n cap) (.slice pb n3 cb)))
  have HE9 := Bl.hid (HKz.out.trans (HK9.out.mono (Q' := fun k => w.heap.size ≤ k) fun k hk q => by have := HX.out; omega))
  clear hone9
  go_wp2_with (with_reducible refine Bl.stop_load (ty := 33) ?_)
  refine Bl.go_on ?_
  refine Bl.wpL_load rfl Hl9.out ?_
  go_wp2_with (with_reducible refine Bl.stop_store (ty := 33) ?_)
  refine Bl.go_on ?_
  refine Bl.wpL_store0 rfl rfl Hst9.out ?_
  go_wp2_with fail
  refine bodyPost_ret (v := .tuple #[.agg (Bl.cL ({ l with shown := Bl.bendS 1 i y l.shown }) (.slice pp l.places.length cp) (.slice (some ⟨g, 0, none⟩) n cap) (.slice pb n3 cb)).toArray, .bool true]) (Bl.results_cell2 rfl rfl (HBR9.out.loadVar (P := Tryd.prog) Tryd.underlying33 rfl (by kernel_rfl)) rfl) rfl ?_
  have hsp := HBd.out
  unfold Bl.BeR
  rw [hsp]
  exact ⟨_, rfl, ⟨_, _, _, _, _, rfl, (HFz.out.kept (F' := fun _ => True) fun k hk hlk => ⟨trivial, HK9.out.block k hlk (by have := HX.out; omega)⟩).ltc⟩, HE9.out.ext fun k q => q⟩
end Go.Proofs.YtmmolapkddbibaaDoor

/- Walk of baileeref29.Bend. -/
namespace Go.Proofs.YtmmolapkddbibaaDoor
open Go Go.RowKit Go.Proofs

set_option maxRecDepth 100000 in
set_option maxHeartbeats 8000000 in
theorem refbs5 (at' y : Int) (v : Value) (l : Bl.LT) (w : World) (h : Bl.LtV w v l) (hLg : Bl.LgL l) (hid : -1125899906842624 ≤ l.id ∧ l.id ≤ 1125899906842624) (h4 : l.kind = 4) (h0 : 0 < l.shown.length) :
    Calls Tryd.prog 11 #[v, .int .i64 5, .int .i64 at', .int .i64 y] w fun e w' => Bl.BeR 5 at' y l w e w' := by
  obtain ⟨cs0, vp, vs, vb, L, rfl, hc⟩ := h
  obtain rfl := hc.eq
  obtain ⟨pp, cp, hvp, _, _⟩ := hc.pl.form
  obtain ⟨ps, csn, hvs, _, _⟩ := hc.sh.rd.form
  obtain ⟨pb, cb, hvb, _, _⟩ := hc.bl.form
  have HLg := Bl.hid hLg
  have hls : L.length = l.shown.length := by have := congrArg List.length hc.sl; simpa using this
  obtain ⟨n, hn⟩ : ∃ z, z = L.length := ⟨_, rfl⟩
  obtain ⟨n3, hn3⟩ : ∃ z, z = l.blocks.length := ⟨_, rfl⟩
  rw [← hn] at hvs hls
  rw [← hn3] at hvb
  have Hnn : Hid (n = L.length ∧ n = l.shown.length ∧ n3 = l.blocks.length ∧ n ≤ 30 ∧ n3 ≤ 600) := Bl.hid ⟨hn, hls, hn3, by rw [hls]; exact hLg.sh, by rw [hn3]; exact hLg.bl⟩
  obtain ⟨P, hP⟩ : ∃ z, z = w.heap.size := ⟨_, rfl⟩
  obtain ⟨R, hR⟩ : ∃ z, z = w.heap.size + 1 := ⟨_, rfl⟩
  obtain ⟨W2, hW2⟩ : ∃ W, W = (w.alloc (.cells (Bl.cL l vp vs vb).toArray 33)).alloc (.cells Bl.zL 33) := ⟨_, rfl⟩
  have hs1 : (w.alloc (.cells (Bl.cL l vp vs vb).toArray 33)).heap.size = w.heap.size + 1 := World.size_alloc _ _
  have hs2 : W2.heap.size = w.heap.size + 1 + 1 := by rw [hW2, World.size_alloc, hs1]
  have hE2 : Bl.Ext w W2 := by rw [hW2]; exact (Bl.ext_alloc _ _).trans (Bl.ext_alloc _ _)
  have hBP : Bl.BoxC W2 P (Bl.cL l vp vs vb) := by
    rw [hW2, hP]; exact (Bl.BoxC.box w 33 (Bl.cL_ne _ _ _ _)).ext (Bl.ext_alloc _ _)
  have hBR : Bl.BoxC W2 R Bl.zL.toList := by
    have h := Bl.BoxC.box (cs := Bl.zL.toList) (w.alloc (.cells (Bl.cL l vp vs vb).toArray 33)) 33 (fun q => by cases q)
    rw [hs1, ← hR] at h
    rw [hW2]; exact h
  have HX : Hid (P = w.heap.size ∧ R = w.heap.size + 1 ∧ W2.heap.size = w.heap.size + 2) := Bl.hid ⟨hP, hR, hs2⟩
  have HE2 := Bl.hid hE2
  have HBP := Bl.hid hBP
  have HBR := Bl.hid hBR
  have HF2 : Hid (Bl.LtF (fun b => b < w.heap.size ∨ w.heap.size + 2 ≤ b) W2 l vp vs vb L) := Bl.hid ((Bl.LtF.of_ltc hc).kept fun b hb hl => ⟨.inl hb, hE2.block b hl⟩)
  have q0 := hBP.cell (i := 0) (v := .int .i64 l.kind) rfl
  have q4 := hBP.cell (i := 4) (v := vs) rfl
  have q7 := hBP.cell (i := 7) (v := vb) rfl
  have q1 := hBP.cell (i := 1) (v := .int .i64 l.id) rfl
  have q2 := hBP.cell (i := 2) (v := .int .i64 l.obj) rfl
  have Hid' := Bl.hid hid
  unfold Bl.cL at hW2
  clear hs1 hs2 hE2 hBP hBR hc hLg hid hls hn hn3
  subst hvs hvb hvp
  show Calls Tryd.prog 11 #[.agg #[.int .i64 l.kind, .int .i64 l.id, .int .i64 l.obj, .slice pp l.places.length cp, .slice ps n csn, .int .i64 l.frm, .int .i64 l.cnt, .slice pb n3 cb, .int .i64 l.code], .int .i64 5, .int .i64 at', .int .i64 y] w _
  have H4 := Bl.hid h4
  rw [h4] at q0
  have h0n : 0 < n := by rw [Hnn.out.2.1]; exact h0
  obtain ⟨i, hi, e1, e2⟩ := Bl.emod_nat at' h0n
  have HBd : Hid (Bl.bendL 5 at' y l = ({ l with shown := Bl.bendS 5 i y l.shown }, true)) := Bl.hid (by
    rw [Bl.bendL_sh (by decide) (by decide) (by decide) (by decide) (fun q => by have := q.2.1; omega)]
    unfold Bl.bendA
    rw [if_pos ⟨h4, h0⟩, ← Hnn.out.2.1, e2])
  have HR : Hid (∀ w2, Calls Tryd.prog 32 #[.int .i64 at', .int .i64 n] w2 fun e w' => e = .returned (.int .i64 (i : Nat)) ∧ w2 = w') := Bl.hid fun w2 => by
    have h := refrest_any at' n w2 (by omega) (by have := Hnn.out; omega)
    rw [e1] at h
    exact h
  have hi0 : (0 : Int) ≤ (i : Int) := by omega
  have hi1 : (i : Int) < (n : Int) := by omega
  have hn2 : ¬ ((n : Int) = 0) := by omega
  have hn3 : ¬ (n = 0) := by omega
  have hn4 : (n : Int) ≤ 30 := by have := Hnn.out; omega
  have Hin : Hid (i < n ∧ 0 < n ∧ i < L.length ∧ 0 < L.length) := Bl.hid ⟨hi, h0n, by rw [← Hnn.out.1]; exact hi, by rw [← Hnn.out.1]; exact h0n⟩
  clear e1 e2 hi h0 h4 h0n

  go_enter Tryd.func11, Tryd.ntmps11
  go_wp2_with (with_reducible refine Bl.stop_load (ty := 31) ?_)
  refine Bl.go_on ?_
  rw [← hW2, ← hR, ← hP]
  clear hW2 hR hP

  go_wp2_with fail
  refine (HR.out W2).mono ?_
  rintro e w3 ⟨rfl, hw3⟩
  subst hw3
  have hEe : Bl.Ext W2 (W2.alloc (.cells #[] 68)) := Bl.ext_alloc _ _
  have Ho : Hid ((W2.alloc (.cells #[] 68)).ownsRow W2.heap.size 68 3 (.slice (some ⟨W2.heap.size, 0, none⟩) 0 0) 0 []) := Bl.hid (Bl.owns_new W2 68 #[] W2.heap.size 0 3 (Nat.le_refl _) (by decide) rfl)
  have Hrd : Hid (Bl.Rds (W2.alloc (.cells #[] 68)) (.slice ps n csn) n (Bl.cellsR Bl.cS L)) := Bl.hid (by have h := HF2.out.sh.rds; rw [← Hnn.out.1] at h; exact h.ext hEe)
  have qe4 := (HBP.out.ext hEe).cell (i := 4) (v := .slice ps n csn) rfl
  have Hone : Hid (∀ c ∈ Bl.cellsR Bl.cS L, c.oneCell' = true) := Bl.hid (Bl.cellsR_cell fun x hx => Bl.cS_one (HF2.out.so x hx).ok)
  have Hcl : Hid ((Bl.cellsR Bl.cS L).length = n * 3) := Bl.hid (by rw [Bl.cellsS_len, ← Hnn.out.1])
  clear hEe
  go_wp2_with (with_reducible refine Bl.stop_append ?_)
  refine Bl.go_on ?_
  refine Bl.wpL_app tShR Ho.out Hrd.out rfl rfl Hcl.out Hone.out (by unfold maxLen; omega) (by omega) (by simp) ?_
  intro p4 cap w4 hown hg hB hK hn1 hc1
  rw [Nat.zero_add] at hown hn1 ⊢
  rw [List.nil_append] at hown
  have hE4 : Bl.Ext W2 w4 := Below.trans (Bl.ext_alloc _ _) hB
  obtain ⟨g, cap0, hf, hg1, hg2, hg3, hg4, hrg0⟩ := (Bl.Pq.of_owns hown).1.form Hin.out.2.1
  injection hf with hf1 hf3 hf2
  subst hf1 hf2
  clear hf3
  have HRg0 := Bl.hid hrg0
  clear hrg0
  have HRw := Bl.hid (Bl.Pq.of_owns hown).1
  have HE4 := Bl.hid hE4
  have HB4 := Bl.hid (HBP.out.ext hE4)
  have HBR4 := Bl.hid (HBR.out.ext hE4)
  have HF4 : Hid (Bl.LtF (fun b => b < w.heap.size ∨ w.heap.size + 2 ≤ b ∧ b ≠ g) w4 l (.slice pp l.places.length cp) (.slice ps n csn) (.slice pb n3 cb) L) := Bl.hid (((Bl.LtF.kept (F' := fun b => b < W2.heap.size ∧ (b < w.heap.size ∨ w.heap.size + 2 ≤ b)) HF2.out fun b hb hl => ⟨⟨hl, hb⟩, rfl⟩)).kept fun b hb hl => ⟨by rcases hb.2 with q | q; exact .inl q; exact .inr ⟨q, by omega⟩, hE4.block b hb.1⟩)
  have HG : Hid (W2.heap.size ≤ g ∧ g < w4.heap.size ∧ n ≤ cap ∧ cap ≤ maxLen ∧ w.heap.size + 2 ≤ g ∧ P ≠ g ∧ R ≠ g) := Bl.hid ⟨hg1, hg2, hg3, hg4, by have := HX.out; omega, by have := HX.out; omega, by have := HX.out; omega⟩
  have HgetL : Hid (∀ j, j < 3 → (Bl.cellsR Bl.cS L)[i * 3 + j]? = (Bl.cS (L.getD i Bl.s0))[j]?) := Bl.hid fun j hj => Bl.cellsR_get Bl.cS_len Bl.s0 j hj L i Hin.out.2.2.1
  have HpS : Hid (Bl.plS (L.getD i Bl.s0) = l.shown.getD i Bl.h0) := Bl.hid (by rw [← Bl.plS_getD, HF2.out.sl])
  have hn5 : (n : Int) ≤ (cap : Int) := by omega
  clear hown hg hB hK hn1 hc1 hE4 hg1 hg2 hg3 hg4 Ho Hrd q0 q1 q2 q4 q7 qe4
  have HR5 := Bl.hid (refrest_any y 512 w4 (by decide) (by decide))
  have hq : ∃ z, w4.cell? ⟨g, i * 3, none⟩ = some z := ⟨_, HRw.out.cell (HgetL.out 0 (by decide))⟩
  obtain ⟨z0, q30⟩ := hq
  have f30 := HRw.out.fz (j := i * 3) (by rw [Hcl.out]; have := Hin.out; omega)
  go_wp2_with fail
  refine HR5.out.mono ?_
  rintro e w5 ⟨rfl, hw5⟩
  subst hw5
  have HKz : Hid (Bl.Kq (fun k => k = g ∨ w4.heap.size ≤ k) w4 (w4.setCell ⟨g, i * 3, none⟩ (.int .i64 (y % 512)))) := Bl.hid ((Bl.Kq.refl w4).setCell (Q := fun k => k = g ∨ w4.heap.size ≤ k) ⟨g, i * 3, none⟩ (.inl rfl) _)
  have HRz : Hid (Bl.Pk (w4.setCell ⟨g, i * 3, none⟩ (.int .i64 (y % 512))) W2.heap.size 3 (.slice (some ⟨g, 0, none⟩) n cap) n (Bl.cellsR Bl.cS (L.set i (y % 512, (L.getD i Bl.s0).2)))) := Bl.hid (by
    have h := HRw.out.put (j := i * 3) (by rw [Hcl.out]; have := Hin.out; omega) (.int .i64 (y % 512))
    rw [show i * 3 = i * 3 + 0 from rfl, Bl.cellsR_set Bl.cS_len Bl.s0 (y % 512, (L.getD i Bl.s0).2) _ 0 (by decide) L i Hin.out.2.2.1 rfl] at h
    exact h)

  have HBy := Bl.hid (HKz.out.box (by have := HX.out; have := HG.out; omega) HB4.out)
  have HBRy := Bl.hid (HKz.out.box (by have := HX.out; have := HG.out; omega) HBR4.out)
  have q94 := HBy.out.cell (i := 4) (v := .slice ps n csn) rfl
  have f94 := HBy.out.fz (i := 4) (show 4 < 9 by decide)
  have HBz : Hid (Bl.BoxC ((w4.setCell ⟨g, i * 3, none⟩ (.int .i64 (y % 512))).setCell ⟨P, 4, none⟩ (.slice (some ⟨g, 0, none⟩) n cap)) P (Bl.cL { l with shown := Bl.bendS 5 i y l.shown } (.slice pp l.places.length cp) (.slice (some ⟨g, 0, none⟩) n cap) (.slice pb n3 cb))) := Bl.hid (HBy.out.put (i := 4) (show 4 < 9 by decide) (.slice (some ⟨g, 0, none⟩) n cap))
  have hKs : Bl.Kq (fun k => k = P) (w4.setCell ⟨g, i * 3, none⟩ (.int .i64 (y % 512))) ((w4.setCell ⟨g, i * 3, none⟩ (.int .i64 (y % 512))).setCell ⟨P, 4, none⟩ (.slice (some ⟨g, 0, none⟩) n cap)) := (Bl.Kq.refl (w4.setCell ⟨g, i * 3, none⟩ (.int .i64 (y % 512)))).setCell (Q := fun k => k = P) ⟨P, 4, none⟩ rfl _
  have HFz : Hid (Bl.LtF (fun b => b < w.heap.size ∨ w.heap.size + 2 ≤ b) ((w4.setCell ⟨g, i * 3, none⟩ (.int .i64 (y % 512))).setCell ⟨P, 4, none⟩ (.slice (some ⟨g, 0, none⟩) n cap)) { l with shown := Bl.bendS 5 i y l.shown } (.slice pp l.places.length cp) (.slice (some ⟨g, 0, none⟩) n cap) (.slice pb n3 cb) (L.set i (y % 512, (L.getD i Bl.s0).2))) := Bl.hid (by
    have h := HF4.out.kept (w' := w4.setCell ⟨g, i * 3, none⟩ (.int .i64 (y % 512))) (F' := fun b => b < w.heap.size ∨ w.heap.size + 2 ≤ b) fun b hb hl => ⟨by omega, HKz.out.block b hl (by have := HX.out; have := HG.out; omega)⟩
    refine Bl.LtF.kept (F := fun b => b < w.heap.size ∨ w.heap.size + 2 ≤ b) (h.shn (vs2 := (.slice (some ⟨g, 0, none⟩) n cap)) (L2 := L.set i (y % 512, (L.getD i Bl.s0).2)) ?_ ?_ ?_) fun b hb hl => ⟨hb, hKs.block b hl (by have := HX.out; omega)⟩
    · rw [List.length_set, ← Hnn.out.1]
      exact Bl.RdsF.of_rds HRz.out.rds fun b hb _ => .inr (by have := (HRz.out.block b hb).1; have := HX.out; omega)
    · intro x hx
      rcases List.mem_or_eq_of_mem_set hx with hx | rfl
      · exact h.so x hx
      · have h9 := h.so _ (Bl.getD_mem Bl.s0 (i := i) (L := L) Hin.out.2.2.1)
        exact ⟨h9.st, h9.bs, h9.pa, h9.dg⟩
    · rw [List.map_set, HF4.out.sl]
      unfold Bl.bendS
      rw [if_neg (by decide), if_neg (by decide), if_neg (by decide), if_neg (by decide), if_pos rfl, ← HpS.out]
      rfl)
  have HBRz := Bl.hid (hKs.box (by have := HX.out; omega) HBRy.out)
  have HKw : Hid (Bl.Kq (fun k => w.heap.size ≤ k) w ((w4.setCell ⟨g, i * 3, none⟩ (.int .i64 (y % 512))).setCell ⟨P, 4, none⟩ (.slice (some ⟨g, 0, none⟩) n cap))) := Bl.hid ((((Bl.Kq.of_ext HE2.out).trans (Bl.Kq.of_ext HE4.out)).trans (HKz.out.mono fun k hk q => by have := HX.out; have := HG.out; omega)).trans (hKs.mono fun k hk q => by have := HX.out; omega))
  clear hKs HKz
  have HKz := HKw

  have Hl9 := Bl.hid (HBz.out.load (P := Tryd.prog) Tryd.underlying33 rfl (by kernel_rfl))
  have hone9 := HFz.out.ltc.one
  have Hst9 := Bl.hid (HBRz.out.store (P := Tryd.prog) (cs' := Bl.cL ({ l with shown := Bl.bendS 5 i y l.shown }) (.slice pp l.places.length cp) (.slice (some ⟨g, 0, none⟩) n cap) (.slice pb n3 cb)) rfl hone9 (ty := 33) (by kernel_rfl))
  have HBR9 := Bl.hid (HBRz.out.set (cs' := Bl.cL ({ l with shown := Bl.bendS 5 i y l.shown }) (.slice pp l.places.length cp) (.slice (some ⟨g, 0, none⟩) n cap) (.slice pb n3 cb)) rfl)
  have HK9 := Bl.hid ((Bl.Kq.refl ((w4.setCell ⟨g, i * 3, none⟩ (.int .i64 (y % 512))).setCell ⟨P, 4, none⟩ (.slice (some ⟨g, 0, none⟩) n cap))).setCells (Q := fun k => k = R) rfl 0 (Bl.cL ({ l with shown := Bl.bendS 5 i y l.shown }) (.slice pp l.places.length cp) (.slice (some ⟨g, 0, none⟩) n cap) (.slice pb n3 cb)))
  have HE9 := Bl.hid (HKz.out.trans (HK9.out.mono (Q' := fun k => w.heap.size ≤ k) fun k hk q => by have := HX.out; omega))
  clear hone9
  go_wp2_with (with_reducible refine Bl.stop_load (ty := 33) ?_)
  refine Bl.go_on ?_
  refine Bl.wpL_load rfl Hl9.out ?_
  go_wp2_with (with_reducible refine Bl.stop_store (ty := 33) ?_)
  refine Bl.go_on ?_
  refine Bl.wpL_store0 rfl rfl Hst9.out ?_
  go_wp2_with fail
  refine bodyPost_ret (v := .tuple #[.agg (Bl.cL ({ l with shown := Bl.bendS 5 i y l.shown }) (.slice pp l.places.length cp) (.slice (some ⟨g, 0, none⟩) n cap) (.slice pb n3 cb)).toArray, .bool true]) (Bl.results_cell2 rfl rfl (HBR9.out.loadVar (P := Tryd.prog) Tryd.underlying33 rfl (by kernel_rfl)) rfl) rfl ?_
  have hsp := HBd.out
  unfold Bl.BeR
  rw [hsp]
  exact ⟨_, rfl, ⟨_, _, _, _, _, rfl, (HFz.out.kept (F' := fun _ => True) fun k hk hlk => ⟨trivial, HK9.out.block k hlk (by have := HX.out; omega)⟩).ltc⟩, HE9.out.ext fun k q => q⟩
end Go.Proofs.YtmmolapkddbibaaDoor

/- Walk of baileeref29.Bend. -/
namespace Go.Proofs.YtmmolapkddbibaaDoor
open Go Go.RowKit Go.Proofs

set_option maxRecDepth 100000 in
set_option maxHeartbeats 8000000 in
theorem refbk6 (at' y : Int) (v : Value) (l : Bl.LT) (w : World) (h : Bl.LtV w v l) (hLg : Bl.LgL l) (hid : -1125899906842624 ≤ l.id ∧ l.id ≤ 1125899906842624) (h6 : l.kind = 6) (h0 : 0 < l.blocks.length) :
    Calls Tryd.prog 11 #[v, .int .i64 1, .int .i64 at', .int .i64 y] w fun e w' => Bl.BeR 1 at' y l w e w' := by
  obtain ⟨cs0, vp, vs, vb, L, rfl, hc⟩ := h
  obtain rfl := hc.eq
  obtain ⟨pp, cp, hvp, _, _⟩ := hc.pl.form
  obtain ⟨ps, csn, hvs, _, _⟩ := hc.sh.rd.form
  obtain ⟨pb, cb, hvb, _, _⟩ := hc.bl.form
  have HLg := Bl.hid hLg
  have hls : L.length = l.shown.length := by have := congrArg List.length hc.sl; simpa using this
  obtain ⟨n, hn⟩ : ∃ z, z = L.length := ⟨_, rfl⟩
  obtain ⟨n3, hn3⟩ : ∃ z, z = l.blocks.length := ⟨_, rfl⟩
  rw [← hn] at hvs hls
  rw [← hn3] at hvb
  have Hnn : Hid (n = L.length ∧ n = l.shown.length ∧ n3 = l.blocks.length ∧ n ≤ 30 ∧ n3 ≤ 600) := Bl.hid ⟨hn, hls, hn3, by rw [hls]; exact hLg.sh, by rw [hn3]; exact hLg.bl⟩
  obtain ⟨P, hP⟩ : ∃ z, z = w.heap.size := ⟨_, rfl⟩
  obtain ⟨R, hR⟩ : ∃ z, z = w.heap.size + 1 := ⟨_, rfl⟩
  obtain ⟨W2, hW2⟩ : ∃ W, W = (w.alloc (.cells (Bl.cL l vp vs vb).toArray 33)).alloc (.cells Bl.zL 33) := ⟨_, rfl⟩
  have hs1 : (w.alloc (.cells (Bl.cL l vp vs vb).toArray 33)).heap.size = w.heap.size + 1 := World.size_alloc _ _
  have hs2 : W2.heap.size = w.heap.size + 1 + 1 := by rw [hW2, World.size_alloc, hs1]
  have hE2 : Bl.Ext w W2 := by rw [hW2]; exact (Bl.ext_alloc _ _).trans (Bl.ext_alloc _ _)
  have hBP : Bl.BoxC W2 P (Bl.cL l vp vs vb) := by
    rw [hW2, hP]; exact (Bl.BoxC.box w 33 (Bl.cL_ne _ _ _ _)).ext (Bl.ext_alloc _ _)
  have hBR : Bl.BoxC W2 R Bl.zL.toList := by
    have h := Bl.BoxC.box (cs := Bl.zL.toList) (w.alloc (.cells (Bl.cL l vp vs vb).toArray 33)) 33 (fun q => by cases q)
    rw [hs1, ← hR] at h
    rw [hW2]; exact h
  have HX : Hid (P = w.heap.size ∧ R = w.heap.size + 1 ∧ W2.heap.size = w.heap.size + 2) := Bl.hid ⟨hP, hR, hs2⟩
  have HE2 := Bl.hid hE2
  have HBP := Bl.hid hBP
  have HBR := Bl.hid hBR
  have HF2 : Hid (Bl.LtF (fun b => b < w.heap.size ∨ w.heap.size + 2 ≤ b) W2 l vp vs vb L) := Bl.hid ((Bl.LtF.of_ltc hc).kept fun b hb hl => ⟨.inl hb, hE2.block b hl⟩)
  have q0 := hBP.cell (i := 0) (v := .int .i64 l.kind) rfl
  have q4 := hBP.cell (i := 4) (v := vs) rfl
  have q7 := hBP.cell (i := 7) (v := vb) rfl
  have q1 := hBP.cell (i := 1) (v := .int .i64 l.id) rfl
  have q2 := hBP.cell (i := 2) (v := .int .i64 l.obj) rfl
  have Hid' := Bl.hid hid
  unfold Bl.cL at hW2
  clear hs1 hs2 hE2 hBP hBR hc hLg hid hls hn hn3
  subst hvs hvb hvp
  show Calls Tryd.prog 11 #[.agg #[.int .i64 l.kind, .int .i64 l.id, .int .i64 l.obj, .slice pp l.places.length cp, .slice ps n csn, .int .i64 l.frm, .int .i64 l.cnt, .slice pb n3 cb, .int .i64 l.code], .int .i64 1, .int .i64 at', .int .i64 y] w _
  have H6 := Bl.hid h6
  rw [h6] at q0
  have h0n : 0 < n3 := by rw [Hnn.out.2.2.1]; exact h0
  obtain ⟨i, hi, e1, e2⟩ := Bl.emod_nat at' h0n
  have HBd : Hid (Bl.bendL 1 at' y l = ({ l with blocks := l.blocks.set i (Bl.flL (l.blocks.getD i []) y) }, true)) := Bl.hid (by
    unfold Bl.bendL
    rw [if_neg (by decide), if_neg (by decide), if_neg (by decide), if_neg (by decide), if_pos ⟨rfl, h6, h0⟩, ← Hnn.out.2.2.1, e2])
  have HR : Hid (∀ w2, Calls Tryd.prog 32 #[.int .i64 at', .int .i64 n3] w2 fun e w' => e = .returned (.int .i64 (i : Nat)) ∧ w2 = w') := Bl.hid fun w2 => by
    have h := refrest_any at' n3 w2 (by omega) (by have := Hnn.out; omega)
    rw [e1] at h
    exact h
  obtain ⟨M, hM1, hM2, hM3⟩ := HF2.out.bl
  have hMn : n3 = M.length := by rw [Hnn.out.2.2.1, ← hM3, List.length_map]
  rw [← hMn] at hM1
  have HM1 := Bl.hid hM1
  have HM2 := Bl.hid hM2
  have HM3 := Bl.hid hM3
  have hi0 : (0 : Int) ≤ (i : Int) := by omega
  have hi1 : (i : Int) < (n3 : Int) := by omega
  have hn2 : (0 : Int) < (n3 : Int) := by omega
  have hn4 : (n3 : Int) ≤ 600 := by have := Hnn.out; omega
  have Hin : Hid (i < n3 ∧ 0 < n3 ∧ i < M.length ∧ n3 = M.length) := Bl.hid ⟨hi, h0n, by rw [← hMn]; exact hi, hMn⟩
  clear e1 e2 hi h0 h6 hM1 hM2 hM3 hMn

  go_enter Tryd.func11, Tryd.ntmps11
  go_wp2_with (with_reducible refine Bl.stop_loadg (ty := 3) ?_)
  refine Bl.go_on ?_
  rw [← hW2, ← hR, ← hP]
  clear hW2 hR hP

  go_wp2_with fail
  refine (HR.out W2).mono ?_
  rintro e w3 ⟨rfl, hw3⟩
  subst hw3
  have hEe : Bl.Ext W2 (W2.alloc (.cells #[] 46)) := Bl.ext_alloc _ _
  have Ho : Hid ((W2.alloc (.cells #[] 46)).ownsRow W2.heap.size 46 1 (.slice (some ⟨W2.heap.size, 0, none⟩) 0 0) 0 []) := Bl.hid (Bl.owns_new W2 46 #[] W2.heap.size 0 1 (Nat.le_refl _) (by decide) rfl)
  have Hrd : Hid (Bl.Rds (W2.alloc (.cells #[] 46)) (.slice pb n3 cb) n3 (Bl.cellsR Bl.cB M)) := Bl.hid (HM1.out.rds.ext hEe)
  have qe7 := (HBP.out.ext hEe).cell (i := 7) (v := .slice pb n3 cb) rfl
  have Hcl : Hid ((Bl.cellsR Bl.cB M).length = n3) := Bl.hid (by rw [Bl.cellsB, List.length_map]; exact Hin.out.2.2.2.symm)
  have Hone : Hid (∀ c ∈ Bl.cellsR Bl.cB M, c.oneCell' = true) := Bl.hid (Bl.cellsB_one fun x hx => (HM2.out x hx).1)
  clear hEe
  go_wp2_with (with_reducible refine Bl.stop_append ?_)
  refine Bl.go_on ?_
  refine Bl.wpL_app tBB Ho.out Hrd.out rfl rfl (by rw [Hcl.out, Nat.mul_one]) Hone.out (by unfold maxLen; omega) (by omega) (by simp) ?_
  intro p4 cap w4 hown hg hB hK hn1 hc1
  rw [Nat.zero_add] at hown hn1 ⊢
  rw [List.nil_append] at hown
  have hE4 : Bl.Ext W2 w4 := Below.trans (Bl.ext_alloc _ _) hB
  obtain ⟨g, cap0, hf, hg1, hg2, hg3, hg4, hrg0⟩ := (Bl.Pq.of_owns hown).1.form Hin.out.2.1
  injection hf with hf1 hf3 hf2
  subst hf1 hf2
  clear hf3 hrg0
  have HRw := Bl.hid (Bl.Pq.of_owns hown).1
  have HE4 := Bl.hid hE4
  have HB4 := Bl.hid (HBP.out.ext hE4)
  have HBR4 := Bl.hid (HBR.out.ext hE4)
  have HF4 : Hid (Bl.LtF (fun b => b < w.heap.size ∨ w.heap.size + 2 ≤ b ∧ b ≠ g) w4 l (.slice pp l.places.length cp) (.slice ps n csn) (.slice pb n3 cb) L) := Bl.hid (((Bl.LtF.kept (F' := fun b => b < W2.heap.size ∧ (b < w.heap.size ∨ w.heap.size + 2 ≤ b)) HF2.out fun b hb hl => ⟨⟨hl, hb⟩, rfl⟩)).kept fun b hb hl => ⟨by rcases hb.2 with q | q; exact .inl q; exact .inr ⟨q, by omega⟩, hE4.block b hb.1⟩)
  have HM4 : Hid (∀ x ∈ M, Bl.OkB (fun b => b < w.heap.size ∨ w.heap.size + 2 ≤ b ∧ b ≠ g) w4 x) := Bl.hid fun x hx => Bl.stab_okB (fun b => b < W2.heap.size ∧ (b < w.heap.size ∨ w.heap.size + 2 ≤ b)) _ _ _ _ (Bl.stab_okB _ (fun b => b < W2.heap.size ∧ (b < w.heap.size ∨ w.heap.size + 2 ≤ b)) W2 W2 _ (HM2.out x hx) fun b hb hl => ⟨⟨hl, hb⟩, rfl⟩) fun b hb hl => ⟨by rcases hb.2 with q | q; exact .inl q; exact .inr ⟨q, by omega⟩, hE4.block b hb.1⟩
  have HG : Hid (W2.heap.size ≤ g ∧ g < w4.heap.size ∧ n3 ≤ cap ∧ cap ≤ maxLen ∧ w.heap.size + 2 ≤ g ∧ P ≠ g ∧ R ≠ g) := Bl.hid ⟨hg1, hg2, hg3, hg4, by have := HX.out; omega, by have := HX.out; omega, by have := HX.out; omega⟩
  have hn5 : (n3 : Int) ≤ (cap : Int) := by omega
  clear hown hg hB hK hn1 hc1 hE4 hg1 hg2 hg3 hg4 Ho Hrd q0 q1 q2 q4 q7 qe7
  obtain ⟨x0, hx⟩ : ∃ x, x = M.getD i Bl.b0 := ⟨_, rfl⟩
  have hok := HM4.out _ (Bl.getD_mem Bl.b0 (i := i) (L := M) Hin.out.2.2.1)
  have hgt := Bl.cellsR_get Bl.cB_len Bl.b0 0 (by decide) M i Hin.out.2.2.1
  have hpl : (M.getD i Bl.b0).2 = l.blocks.getD i [] := by
    rw [← HM3.out, List.getD_eq_getElem?_getD, List.getD_eq_getElem?_getD, List.getElem?_map, List.getElem?_eq_getElem Hin.out.2.2.1]
    rfl
  have hlg := HLg.out.bs _ (show (M.getD i Bl.b0).2 ∈ l.blocks from by rw [← HM3.out]; exact List.mem_map_of_mem (Bl.getD_mem Bl.b0 Hin.out.2.2.1))
  rw [Nat.mul_one, Nat.add_zero] at hgt
  rw [← hx] at hok hgt hpl hlg
  obtain ⟨u1, bx⟩ := x0
  obtain ⟨pu, cu, hu1, _, _⟩ := hok.1.rds.form
  have hu1 : u1 = .slice pu bx.length cu := hu1
  subst hu1
  have Hok := Bl.hid hok
  obtain ⟨nx, hnx⟩ : ∃ z, z = bx.length := ⟨_, rfl⟩
  rw [← hnx] at hgt
  have Hnx := Bl.hid hnx
  have Hpl : Hid (bx = l.blocks.getD i []) := Bl.hid hpl
  have Hlg : Hid (bx.length ≤ 100) := Bl.hid hlg
  have HFl : Hid (∀ w2, Bl.Ext w4 w2 → Calls Tryd.prog 33 #[.slice pu nx cu, .int .i64 y] w2 fun e w' => ∃ v', e = .returned v' ∧ Bl.Pq w2.heap.size w'.heap.size w' 1 v' nx (Bl.ints .u8 (Bl.flL bx y)) ∧ Bl.Ext w2 w') := Bl.hid fun w2 h => by
    rw [hnx]
    exact flipped_any _ bx y w2 (Hok.out.1.rds.ext h) Hok.out.2 (by have := Hlg.out; omega)
  have hcS := HRw.out.cell hgt
  have Hgt := Bl.hid hgt
  clear hok hlg hx hnx hpl hgt
  go_wp2_with fail
  refine (HFl.out w4 (Below.refl _ _)).mono ?_
  rintro e w5 ⟨v5, rfl, hP5, hE5⟩
  obtain ⟨p5, c5, hv5, _, _⟩ := hP5.1.rds.form
  subst hv5
  have HP5 := Bl.hid hP5
  have HE5 := Bl.hid hE5
  have hR5 := HRw.out.ext hE5
  have q31 := hR5.cell Hgt.out
  have f31 := hR5.fz (j := i) (by rw [Hcl.out]; exact Hin.out.1)
  have HKg : Hid (Bl.Kq (fun k => k = g) w5 (w5.setCell ⟨g, i, none⟩ (.slice p5 nx c5))) := Bl.hid ((Bl.Kq.refl w5).setCell (Q := fun k => k = g) ⟨g, i, none⟩ rfl _)
  have HKy : Hid (Bl.Kq (fun k => k = g ∨ w4.heap.size ≤ k) w4 (w5.setCell ⟨g, i, none⟩ (.slice p5 nx c5))) := Bl.hid ((Bl.Kq.of_ext hE5).setCell (Q := fun k => k = g ∨ w4.heap.size ≤ k) ⟨g, i, none⟩ (.inl rfl) _)
  have HRz : Hid (Bl.Pk (w5.setCell ⟨g, i, none⟩ (.slice p5 nx c5)) W2.heap.size 1 (.slice (some ⟨g, 0, none⟩) n3 cap) n3 (Bl.cellsR Bl.cB (M.set i (.slice p5 nx c5, Bl.flL bx y)))) := Bl.hid (by
    have h := hR5.put (j := i) (by rw [Hcl.out]; exact Hin.out.1) (.slice p5 nx c5)
    have h2 := Bl.cellsR_set Bl.cB_len Bl.b0 (.slice p5 nx c5, Bl.flL bx y) (.slice p5 nx c5) 0 (by decide) M i Hin.out.2.2.1 rfl
    rw [Nat.mul_one, Nat.add_zero] at h2
    rw [h2] at h
    exact h)
  clear hP5 hE5 hR5 hcS
  have HBy := Bl.hid (HKy.out.box (by have := HX.out; have := HG.out; omega) HB4.out)
  have HBRy := Bl.hid (HKy.out.box (by have := HX.out; have := HG.out; omega) HBR4.out)
  have q94 := HBy.out.cell (i := 7) (v := .slice pb n3 cb) rfl
  have f94 := HBy.out.fz (i := 7) (show 7 < 9 by decide)
  have HBz : Hid (Bl.BoxC ((w5.setCell ⟨g, i, none⟩ (.slice p5 nx c5)).setCell ⟨P, 7, none⟩ (.slice (some ⟨g, 0, none⟩) n3 cap)) P (Bl.cL { l with blocks := l.blocks.set i (Bl.flL (l.blocks.getD i []) y) } (.slice pp l.places.length cp) (.slice ps n csn) (.slice (some ⟨g, 0, none⟩) n3 cap))) := Bl.hid (HBy.out.put (i := 7) (show 7 < 9 by decide) (.slice (some ⟨g, 0, none⟩) n3 cap))
  have hKs : Bl.Kq (fun k => k = P) (w5.setCell ⟨g, i, none⟩ (.slice p5 nx c5)) ((w5.setCell ⟨g, i, none⟩ (.slice p5 nx c5)).setCell ⟨P, 7, none⟩ (.slice (some ⟨g, 0, none⟩) n3 cap)) := (Bl.Kq.refl (w5.setCell ⟨g, i, none⟩ (.slice p5 nx c5))).setCell (Q := fun k => k = P) ⟨P, 7, none⟩ rfl _
  have HFz : Hid (Bl.LtF (fun b => b < w.heap.size ∨ w.heap.size + 2 ≤ b) ((w5.setCell ⟨g, i, none⟩ (.slice p5 nx c5)).setCell ⟨P, 7, none⟩ (.slice (some ⟨g, 0, none⟩) n3 cap)) { l with blocks := l.blocks.set i (Bl.flL (l.blocks.getD i []) y) } (.slice pp l.places.length cp) (.slice ps n csn) (.slice (some ⟨g, 0, none⟩) n3 cap) L) := Bl.hid (by
    have h := HF4.out.kept (w' := (w5.setCell ⟨g, i, none⟩ (.slice p5 nx c5)).setCell ⟨P, 7, none⟩ (.slice (some ⟨g, 0, none⟩) n3 cap)) (F' := fun b => b < w.heap.size ∨ w.heap.size + 2 ≤ b) fun b hb hl => ⟨by omega, (hKs.block b (Nat.lt_of_lt_of_le hl HKy.out.size) (by have := HX.out; omega)).trans (HKy.out.block b hl (by have := HX.out; have := HG.out; omega))⟩
    refine ⟨h.pl, h.sh, h.so, h.sl, M.set i (.slice p5 nx c5, Bl.flL bx y), ?_, ?_, ?_⟩
    · rw [List.length_set, ← Hin.out.2.2.2]
      exact (Bl.RdsF.of_rds (F := fun b => W2.heap.size ≤ b) HRz.out.rds fun b hb _ => (HRz.out.block b hb).1).kept fun b hb hl => ⟨.inr (by have := HX.out; omega), hKs.block b hl (by have := HX.out; omega)⟩
    · intro x hx
      rcases List.mem_or_eq_of_mem_set hx with hx | rfl
      · exact Bl.stab_okB _ _ _ _ _ (HM4.out x hx) fun b hb hl => ⟨by omega, (hKs.block b (Nat.lt_of_lt_of_le hl HKy.out.size) (by have := HX.out; omega)).trans (HKy.out.block b hl (by have := HX.out; have := HG.out; omega))⟩
      · refine ⟨?_, Bl.flL_byt Hok.out.2 y⟩
        show Bl.RdsF _ _ (.slice p5 nx c5) (Bl.flL bx y).length _
        rw [Bl.flL_len, ← Hnx.out]
        exact (HP5.out.rdsF (F := fun b => w4.heap.size ≤ b) fun b h1 _ => h1).kept fun b hb hl => ⟨.inr (by have := HX.out; have := HG.out; omega), (hKs.block b (Nat.lt_of_lt_of_le hl HKg.out.size) (by have := HX.out; have := HG.out; omega)).trans (HKg.out.block b hl (by have := HG.out; omega))⟩
    · rw [List.map_set, HM3.out, ← Hpl.out])
  have HBRz := Bl.hid (hKs.box (by have := HX.out; omega) HBRy.out)
  have HKw : Hid (Bl.Kq (fun k => w.heap.size ≤ k) w ((w5.setCell ⟨g, i, none⟩ (.slice p5 nx c5)).setCell ⟨P, 7, none⟩ (.slice (some ⟨g, 0, none⟩) n3 cap))) := Bl.hid ((((Bl.Kq.of_ext HE2.out).trans (Bl.Kq.of_ext HE4.out)).trans (HKy.out.mono fun k hk q => by have := HX.out; have := HG.out; omega)).trans (hKs.mono fun k hk q => by have := HX.out; omega))
  clear hKs
  have HKz := HKw

  have Hl9 := Bl.hid (HBz.out.load (P := Tryd.prog) Tryd.underlying33 rfl (by kernel_rfl))
  have hone9 := HFz.out.ltc.one
  have Hst9 := Bl.hid (HBRz.out.store (P := Tryd.prog) (cs' := Bl.cL ({ l with blocks := l.blocks.set i (Bl.flL (l.blocks.getD i []) y) }) (.slice pp l.places.length cp) (.slice ps n csn) (.slice (some ⟨g, 0, none⟩) n3 cap)) rfl hone9 (ty := 33) (by kernel_rfl))
  have HBR9 := Bl.hid (HBRz.out.set (cs' := Bl.cL ({ l with blocks := l.blocks.set i (Bl.flL (l.blocks.getD i []) y) }) (.slice pp l.places.length cp) (.slice ps n csn) (.slice (some ⟨g, 0, none⟩) n3 cap)) rfl)
  have HK9 := Bl.hid ((Bl.Kq.refl ((w5.setCell ⟨g, i, none⟩ (.slice p5 nx c5)).setCell ⟨P, 7, none⟩ (.slice (some ⟨g, 0, none⟩) n3 cap))).setCells (Q := fun k => k = R) rfl 0 (Bl.cL ({ l with blocks := l.blocks.set i (Bl.flL (l.blocks.getD i []) y) }) (.slice pp l.places.length cp) (.slice ps n csn) (.slice (some ⟨g, 0, none⟩) n3 cap)))
  have HE9 := Bl.hid (HKz.out.trans (HK9.out.mono (Q' := fun k => w.heap.size ≤ k) fun k hk q => by have := HX.out; omega))
  clear hone9
  go_wp2_with (with_reducible refine Bl.stop_load (ty := 33) ?_)
  refine Bl.go_on ?_
  refine Bl.wpL_load rfl Hl9.out ?_
  go_wp2_with (with_reducible refine Bl.stop_store (ty := 33) ?_)
  refine Bl.go_on ?_
  refine Bl.wpL_store0 rfl rfl Hst9.out ?_
  go_wp2_with fail
  refine bodyPost_ret (v := .tuple #[.agg (Bl.cL ({ l with blocks := l.blocks.set i (Bl.flL (l.blocks.getD i []) y) }) (.slice pp l.places.length cp) (.slice ps n csn) (.slice (some ⟨g, 0, none⟩) n3 cap)).toArray, .bool true]) (Bl.results_cell2 rfl rfl (HBR9.out.loadVar (P := Tryd.prog) Tryd.underlying33 rfl (by kernel_rfl)) rfl) rfl ?_
  have hsp := HBd.out
  unfold Bl.BeR
  rw [hsp]
  exact ⟨_, rfl, ⟨_, _, _, _, _, rfl, (HFz.out.kept (F' := fun _ => True) fun k hk hlk => ⟨trivial, HK9.out.block k hlk (by have := HX.out; omega)⟩).ltc⟩, HE9.out.ext fun k q => q⟩
end Go.Proofs.YtmmolapkddbibaaDoor

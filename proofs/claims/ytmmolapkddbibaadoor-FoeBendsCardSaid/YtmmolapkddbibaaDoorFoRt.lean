/- Texts that stood apart, in one: FoeRs2, FoeRs3. -/
import Derived.Test.YtmmolapkddbibaaDoorFoR
import Derived.Test.YtmmolapkddbibaaDoorFo0
import Derived.Test.YtmmolapkddbibaaDoorLDs
import Derived.Test.YtmmolapkddbibaaDoorLet2b
/- Walk of baileeref29.Bend. -/
namespace Go.Proofs.YtmmolapkddbibaaDoor
open Go Go.RowKit Go.Proofs

set_option maxRecDepth 100000 in
set_option maxHeartbeats 8000000 in
theorem refbs2 (at' y : Int) (v : Value) (l : Bl.LT) (w : World) (h : Bl.LtV w v l) (hLg : Bl.LgL l) (hid : -1125899906842624 ≤ l.id ∧ l.id ≤ 1125899906842624) (h4 : l.kind = 4) (h0 : 0 < l.shown.length) :
    Calls Tryd.prog 11 #[v, .int .i64 2, .int .i64 at', .int .i64 y] w fun e w' => Bl.BeR 2 at' y l w e w' := by
  obtain ⟨cs0, vp, vs, vb, L, rfl, hc⟩ := h
  obtain rfl := hc.eq
  obtain ⟨pp, cp, hvp, _, _⟩ := hc.pl.form
  obtain ⟨ps, csn, hvs, _, _⟩ := hc.sh.rd.form
  obtain ⟨pb, cb, hvb, _, _⟩ := hc.bl.form
  have HLg := Bl.hid hLg
  have hls : L.length = l.shown.length := by have := congrArg List.length hc.sl; simpa using this
  obtain ⟨n, hn⟩ : ∃ z, z = L.length := ⟨_, rfl⟩
  obtain ⟨n3, hn3⟩ : ∃ z, z = l.blocks.length := ⟨_, rfl⟩
  rw [← hn] at hvs hls
  rw [← hn3] at hvb
  have Hnn : Hid (n = L.length ∧ n = l.shown.length ∧ n3 = l.blocks.length ∧ n ≤ 30 ∧ n3 ≤ 600) := Bl.hid ⟨hn, hls, hn3, by rw [hls]; exact hLg.sh, by rw [hn3]; exact hLg.bl⟩
  obtain ⟨P, hP⟩ : ∃ z, z = w.heap.size := ⟨_, rfl⟩
  obtain ⟨R, hR⟩ : ∃ z, z = w.heap.size + 1 := ⟨_, rfl⟩
  obtain ⟨W2, hW2⟩ : ∃ W, W = (w.alloc (.cells (Bl.cL l vp vs vb).toArray 33)).alloc (.cells Bl.zL 33) := ⟨_, rfl⟩
  have hs1 : (w.alloc (.cells (Bl.cL l vp vs vb).toArray 33)).heap.size = w.heap.size + 1 := World.size_alloc _ _
  have hs2 : W2.heap.size = w.heap.size + 1 + 1 := by rw [hW2, World.size_alloc, hs1]
  have hE2 : Bl.Ext w W2 := by rw [hW2]; exact (Bl.ext_alloc _ _).trans (Bl.ext_alloc _ _)
  have hBP : Bl.BoxC W2 P (Bl.cL l vp vs vb) := by
    rw [hW2, hP]; exact (Bl.BoxC.box w 33 (Bl.cL_ne _ _ _ _)).ext (Bl.ext_alloc _ _)
  have hBR : Bl.BoxC W2 R Bl.zL.toList := by
    have h := Bl.BoxC.box (cs := Bl.zL.toList) (w.alloc (.cells (Bl.cL l vp vs vb).toArray 33)) 33 (fun q => by cases q)
    rw [hs1, ← hR] at h
    rw [hW2]; exact h
  have HX : Hid (P = w.heap.size ∧ R = w.heap.size + 1 ∧ W2.heap.size = w.heap.size + 2) := Bl.hid ⟨hP, hR, hs2⟩
  have HE2 := Bl.hid hE2
  have HBP := Bl.hid hBP
  have HBR := Bl.hid hBR
  have HF2 : Hid (Bl.LtF (fun b => b < w.heap.size ∨ w.heap.size + 2 ≤ b) W2 l vp vs vb L) := Bl.hid ((Bl.LtF.of_ltc hc).kept fun b hb hl => ⟨.inl hb, hE2.block b hl⟩)
  have q0 := hBP.cell (i := 0) (v := .int .i64 l.kind) rfl
  have q4 := hBP.cell (i := 4) (v := vs) rfl
  have q7 := hBP.cell (i := 7) (v := vb) rfl
  have q1 := hBP.cell (i := 1) (v := .int .i64 l.id) rfl
  have q2 := hBP.cell (i := 2) (v := .int .i64 l.obj) rfl
  have Hid' := Bl.hid hid
  unfold Bl.cL at hW2
  clear hs1 hs2 hE2 hBP hBR hc hLg hid hls hn hn3
  subst hvs hvb hvp
  show Calls Tryd.prog 11 #[.agg #[.int .i64 l.kind, .int .i64 l.id, .int .i64 l.obj, .slice pp l.places.length cp, .slice ps n csn, .int .i64 l.frm, .int .i64 l.cnt, .slice pb n3 cb, .int .i64 l.code], .int .i64 2, .int .i64 at', .int .i64 y] w _
  have H4 := Bl.hid h4
  rw [h4] at q0
  have h0n : 0 < n := by rw [Hnn.out.2.1]; exact h0
  obtain ⟨i, hi, e1, e2⟩ := Bl.emod_nat at' h0n
  have HBd : Hid (Bl.bendL 2 at' y l = ({ l with shown := Bl.bendS 2 i y l.shown }, true)) := Bl.hid (by
    rw [Bl.bendL_sh (by decide) (by decide) (by decide) (by decide) (fun q => by have := q.2.1; omega)]
    unfold Bl.bendA
    rw [if_pos ⟨h4, h0⟩, ← Hnn.out.2.1, e2])
  have HR : Hid (∀ w2, Calls Tryd.prog 32 #[.int .i64 at', .int .i64 n] w2 fun e w' => e = .returned (.int .i64 (i : Nat)) ∧ w2 = w') := Bl.hid fun w2 => by
    have h := refrest_any at' n w2 (by omega) (by have := Hnn.out; omega)
    rw [e1] at h
    exact h
  have hi0 : (0 : Int) ≤ (i : Int) := by omega
  have hi1 : (i : Int) < (n : Int) := by omega
  have hn2 : ¬ ((n : Int) = 0) := by omega
  have hn3 : ¬ (n = 0) := by omega
  have hn4 : (n : Int) ≤ 30 := by have := Hnn.out; omega
  have Hin : Hid (i < n ∧ 0 < n ∧ i < L.length ∧ 0 < L.length) := Bl.hid ⟨hi, h0n, by rw [← Hnn.out.1]; exact hi, by rw [← Hnn.out.1]; exact h0n⟩
  clear e1 e2 hi h0 h4 h0n

  go_enter Tryd.func11, Tryd.ntmps11
  go_wp2_with (with_reducible refine Bl.stop_load (ty := 31) ?_)
  refine Bl.go_on ?_
  rw [← hW2, ← hR, ← hP]
  clear hW2 hR hP

  go_wp2_with fail
  refine (HR.out W2).mono ?_
  rintro e w3 ⟨rfl, hw3⟩
  subst hw3
  have hEe : Bl.Ext W2 (W2.alloc (.cells #[] 68)) := Bl.ext_alloc _ _
  have Ho : Hid ((W2.alloc (.cells #[] 68)).ownsRow W2.heap.size 68 3 (.slice (some ⟨W2.heap.size, 0, none⟩) 0 0) 0 []) := Bl.hid (Bl.owns_new W2 68 #[] W2.heap.size 0 3 (Nat.le_refl _) (by decide) rfl)
  have Hrd : Hid (Bl.Rds (W2.alloc (.cells #[] 68)) (.slice ps n csn) n (Bl.cellsR Bl.cS L)) := Bl.hid (by have h := HF2.out.sh.rds; rw [← Hnn.out.1] at h; exact h.ext hEe)
  have qe4 := (HBP.out.ext hEe).cell (i := 4) (v := .slice ps n csn) rfl
  have Hone : Hid (∀ c ∈ Bl.cellsR Bl.cS L, c.oneCell' = true) := Bl.hid (Bl.cellsR_cell fun x hx => Bl.cS_one (HF2.out.so x hx).ok)
  have Hcl : Hid ((Bl.cellsR Bl.cS L).length = n * 3) := Bl.hid (by rw [Bl.cellsS_len, ← Hnn.out.1])
  clear hEe
  go_wp2_with (with_reducible refine Bl.stop_append ?_)
  refine Bl.go_on ?_
  refine Bl.wpL_app tShR Ho.out Hrd.out rfl rfl Hcl.out Hone.out (by unfold maxLen; omega) (by omega) (by simp) ?_
  intro p4 cap w4 hown hg hB hK hn1 hc1
  rw [Nat.zero_add] at hown hn1 ⊢
  rw [List.nil_append] at hown
  have hE4 : Bl.Ext W2 w4 := Below.trans (Bl.ext_alloc _ _) hB
  obtain ⟨g, cap0, hf, hg1, hg2, hg3, hg4, hrg0⟩ := (Bl.Pq.of_owns hown).1.form Hin.out.2.1
  injection hf with hf1 hf3 hf2
  subst hf1 hf2
  clear hf3
  have HRg0 := Bl.hid hrg0
  clear hrg0
  have HRw := Bl.hid (Bl.Pq.of_owns hown).1
  have HE4 := Bl.hid hE4
  have HB4 := Bl.hid (HBP.out.ext hE4)
  have HBR4 := Bl.hid (HBR.out.ext hE4)
  have HF4 : Hid (Bl.LtF (fun b => b < w.heap.size ∨ w.heap.size + 2 ≤ b ∧ b ≠ g) w4 l (.slice pp l.places.length cp) (.slice ps n csn) (.slice pb n3 cb) L) := Bl.hid (((Bl.LtF.kept (F' := fun b => b < W2.heap.size ∧ (b < w.heap.size ∨ w.heap.size + 2 ≤ b)) HF2.out fun b hb hl => ⟨⟨hl, hb⟩, rfl⟩)).kept fun b hb hl => ⟨by rcases hb.2 with q | q; exact .inl q; exact .inr ⟨q, by omega⟩, hE4.block b hb.1⟩)
  have HG : Hid (W2.heap.size ≤ g ∧ g < w4.heap.size ∧ n ≤ cap ∧ cap ≤ maxLen ∧ w.heap.size + 2 ≤ g ∧ P ≠ g ∧ R ≠ g) := Bl.hid ⟨hg1, hg2, hg3, hg4, by have := HX.out; omega, by have := HX.out; omega, by have := HX.out; omega⟩
  have HgetL : Hid (∀ j, j < 3 → (Bl.cellsR Bl.cS L)[i * 3 + j]? = (Bl.cS (L.getD i Bl.s0))[j]?) := Bl.hid fun j hj => Bl.cellsR_get Bl.cS_len Bl.s0 j hj L i Hin.out.2.2.1
  have HpS : Hid (Bl.plS (L.getD i Bl.s0) = l.shown.getD i Bl.h0) := Bl.hid (by rw [← Bl.plS_getD, HF2.out.sl])
  have hn5 : (n : Int) ≤ (cap : Int) := by omega
  clear hown hg hB hK hn1 hc1 hE4 hg1 hg2 hg3 hg4 Ho Hrd q0 q1 q2 q4 q7 qe4
  obtain ⟨x0, hx⟩ : ∃ x, x = L.getD i Bl.s0 := ⟨_, rfl⟩
  have hok := HF4.out.so _ (Bl.getD_mem Bl.s0 (i := i) (L := L) Hin.out.2.2.1)
  have hlg := HLg.out.st (Bl.plS (L.getD i Bl.s0)) (by rw [← HF4.out.sl]; exact List.mem_map_of_mem (Bl.getD_mem Bl.s0 Hin.out.2.2.1))
  have Hset : Hid (∀ a pa', (Bl.cellsR Bl.cS L).set (i * 3 + 2) a = Bl.cellsR Bl.cS (L.set i ((L.getD i Bl.s0).1, (L.getD i Bl.s0).2.1, a, pa'))) := Bl.hid fun a pa' => Bl.cellsR_set Bl.cS_len Bl.s0 ((L.getD i Bl.s0).1, (L.getD i Bl.s0).2.1, a, pa') a 2 (by decide) L i Hin.out.2.2.1 rfl
  rw [← hx] at HgetL HpS hok hlg Hset
  obtain ⟨pl0, ⟨u1, st⟩, u2, pth⟩ := x0
  obtain ⟨pu, cu, hu2, _, _⟩ := hok.pa.rds.form
  have hu2 : u2 = .slice pu pth.length cu := hu2
  subst hu2
  have Hok := Bl.hid hok
  have Hlg : Hid (pth.length ≤ 40) := Bl.hid hlg.2
  obtain ⟨np, hnp⟩ : ∃ z, z = pth.length := ⟨_, rfl⟩
  rw [← hnp] at HgetL
  have Hnp := Bl.hid hnp
  have hcS := HRw.out.cell (HgetL.out 2 (by decide))
  clear hok hlg hx hnp
  by_cases hp : 0 < np
  · have hpi : (0 : Int) < (np : Int) := by omega
    have Hp := Bl.hid hp
    have hEe : Bl.Ext w4 (w4.alloc (.cells #[] 69)) := Bl.ext_alloc _ _
    have Ho : Hid ((w4.alloc (.cells #[] 69)).ownsRow w4.heap.size 69 32 (.slice (some ⟨w4.heap.size, 0, none⟩) 0 0) 0 []) := Bl.hid (Bl.owns_new w4 69 #[] w4.heap.size 0 32 (Nat.le_refl _) (by decide) rfl)
    have Hrd : Hid (Bl.Rds (w4.alloc (.cells #[] 69)) (.slice pu np cu) np (Bl.cellsD pth)) := Bl.hid (by have h := Hok.out.pa.rds; simp only at h; rw [← Hnp.out] at h; exact h.ext hEe)
    have hcS2 : (w4.alloc (.cells #[] 69)).cell? ⟨g, i * 3 + 2, none⟩ = some (.slice pu np cu) := (HRw.out.ext hEe).cell (HgetL.out 2 (by decide))
    have hnp40 : np ≤ 40 := by rw [Hnp.out]; exact Hlg.out
    clear hEe
    go_wp2_with (with_reducible refine Bl.stop_append ?_)
    refine Bl.go_on ?_
    refine Bl.wpL_app tArr Ho.out Hrd.out rfl rfl (by have h := Bl.cellsD_length Hok.out.dg; simp only at h; rw [h, ← Hnp.out]) (Bl.cellsD_one' _) (by unfold maxLen; omega) (by omega) (by simp) ?_
    intro p5 c5 w5 hown hg hB hK hn1 hc1
    rw [Nat.zero_add] at hown hn1 ⊢
    rw [List.nil_append] at hown
    have hE5 : Bl.Ext w4 w5 := Below.trans (Bl.ext_alloc _ _) hB
    have hpq := Bl.Pq.of_owns hown
    obtain ⟨gp, cap0, hf, hg1, hg2, hg3, hg4, hrg⟩ := hpq.1.form hp
    injection hf with hf1 hf3 hf2
    subst hf1 hf2
    clear hf3
    obtain ⟨j, hj, e1, e2⟩ := Bl.emod_nat (n := 32) y (by decide)
    have hd0 : (pth.getD 0 []).length = 32 ∧ Bl.Byt (pth.getD 0 []) := Hok.out.dg.get (i := 0) (by show 0 < pth.length; rw [← Hnp.out]; exact hp)
    have hbr0 : w5.rangeAt gp 0 (Bl.ints .u8 (pth.getD 0 [])) := by
      have h := Bl.digit_at hrg Hok.out.dg (i := 0) (by show 0 < pth.length; rw [← Hnp.out]; exact hp)
      simpa using h
    have HFl : Hid (Bl.flL (pth.getD 0 []) y = (pth.getD 0 []).set j (Bl.flB ((pth.getD 0 []).getD j 0))) := Bl.hid (by
      rw [Bl.flL_pos (by omega), hd0.1]
      rw [show (y % ((32 : Nat) : Int)).toNat = j from e2])
    have hcx : w5.cell? ⟨gp, j, none⟩ = some (.int .u8 ((pth.getD 0 []).getD j 0)) := by
      have h := hbr0 j _ (Bl.ints_get .u8 (pth.getD 0 []) j (by omega))
      rwa [Nat.zero_add] at h
    obtain ⟨x0, x1⟩ := hd0.2.get j
    have HX2 : Hid (Bl.flB ((pth.getD 0 []).getD j 0) = bits .xor .u8 ((pth.getD 0 []).getD j 0) 1) := Bl.hid rfl
    have hcl : (Bl.cellsD pth).length = np * 32 := by have h := Bl.cellsD_length Hok.out.dg; simp only at h; rw [h, ← Hnp.out]
    have hfx := hpq.1.fz (j := j) (by rw [hcl]; omega)
    have HPp : Hid (∀ w2, Bl.Kq (fun _ => False) w5 w2 → Bl.Pk (w2.setCell ⟨gp, j, none⟩ (.int .u8 (Bl.flB ((pth.getD 0 []).getD j 0)))) w4.heap.size 32 (.slice (some ⟨gp, 0, none⟩) np c5) np (Bl.cellsD (pth.set 0 (Bl.flL (pth.getD 0 []) y)))) := Bl.hid fun w2 hk => by
      rw [HFl.out, ← Bl.cellsD_set0 pth j _ (by rw [← Hnp.out]; exact hp) Hok.out.dg hj]
      exact (hpq.1.kept (fun k hk' => hk.block k (hpq.1.block k hk').2 (fun q => q)) hk.size).put (by rw [hcl]; omega) _
    have HDg : Hid (Bl.Dig (pth.set 0 (Bl.flL (pth.getD 0 []) y))) := Bl.hid fun d hd => by
      rcases List.mem_or_eq_of_mem_set hd with q | rfl
      · exact Hok.out.dg d q
      · exact ⟨by rw [Bl.flL_len]; exact hd0.1, Bl.flL_byt hd0.2 y⟩
    obtain ⟨xv, hxv⟩ : ∃ x, x = (pth.getD 0 []).getD j 0 := ⟨_, rfl⟩
    rw [← hxv] at hcx x0 x1 HX2 HPp
    rw [HX2.out] at HPp
    have HRr : Hid (∀ w2, Calls Tryd.prog 32 #[.int .i64 y, .int .i64 32] w2 fun e w' => e = .returned (.int .i64 (j : Nat)) ∧ w2 = w') := Bl.hid fun w2 => by
      have h := refrest_any y 32 w2 (by decide) (by decide)
      have e3 : y % (32 : Int) = (j : Int) := e1
      rw [e3] at h
      exact h
    have hj0 : (0 : Int) ≤ (j : Int) := by omega
    have hj1 : (j : Int) < 32 := by omega
    have HE5 := Bl.hid hE5
    have Hgp : Hid (w4.heap.size ≤ gp ∧ gp < w5.heap.size) := Bl.hid ⟨hg1, hg2⟩
    have HR5 := Bl.hid (HRw.out.ext hE5)
    have HcX : Hid (∀ w2, Bl.Kq (fun _ => False) w5 w2 → w2.cell? ⟨gp, j, none⟩ = some (.int .u8 xv) ∧ w2.frozen? ⟨gp, j, none⟩ = false) := Bl.hid fun w2 hk => ⟨hk.cell (fun q => q) hcx, by rw [World.frozen?_of_block (w := w5) (hk.block gp hg2 (fun q => q))]; exact hfx⟩
    clear hown hg hB hK hn1 hc1 hE5 hpq hg1 hg2 hg3 hg4 hrg hd0 hbr0 hcx hcl hfx hxv e1 e2 hcS hcS2 Ho Hrd
    go_wp2_with fail
    apply Bl.wp_region_evK (Bl.Kq (fun _ => False)) (fun _ _ _ => True) 12 [132, 133, 134, 135, 136, 137, 138, 139, 140, 141, 142, 143] [Bl.eqv _, Bl.eqv _, Bl.eqv _, Bl.eqv _, Bl.eqv _, Bl.eqv _, Bl.eqv _, Bl.eqv _, Bl.eqv _, Bl.eqv _, Bl.eqv _, Bl.eqv _] (fun w => Bl.Kq.refl w) (fun a b c h k => Bl.Kq.trans h k) (by kernel_rfl) (by kernel_rfl) (by kernel_rfl) (by kernel_rfl)
    case hsteps =>
      refine ⟨?_, ?_, ?_, ?_, ?_, ?_, ?_, ?_, ?_, ?_, ?_, ?_, trivial⟩
      all_goals
        intro d ev w1 hext HJd Hanc Hdes hni hb hd
        replace Hanc := Bl.hid Hanc
        replace HJd := Bl.hid HJd
        replace Hdes := Bl.hid Hdes
        replace hni := Bl.hid hni
        have e3 := hb 3 (by decide)
        have e15 := hb 15 (by decide)
        clear hb
        simp only [Array.getD_eq_getD_getElem?, List.getElem?_toArray, List.getElem?_cons_succ, List.getElem?_cons_zero, Option.getD_some] at e3 e15
        simp only [Bl.DepsE2, List.getElem?_cons_succ, List.getElem?_cons_zero, Option.bind_some, List.getD_cons_succ, List.getD_cons_zero, Bl.eqv, and_true] at hd
        have q3 := HcX.out _ hext
        have c0 := q3.1
        clear q3
        rw [if_pos (rfl : Region.wanted _ _ = true)]
        go_simp
        first | exact ⟨Bl.Kq.refl _, rfl, trivial⟩ | exact ⟨Bl.Kq.refl _, rfl⟩ | (go_at_call 32; have hcl := HRr.out w1; (with_reducible refine hcl.mono ?_); rintro e w2 ⟨rfl, hw2⟩; subst hw2; first | exact ⟨_, rfl, Bl.Kq.refl _, rfl⟩ | exact ⟨_, rfl, Bl.Kq.refl _, rfl, trivial⟩) | exact ⟨Below.refl _ _, rfl, Bl.HJ.same (by decide) HJd.out⟩
    case hmono => exact ⟨Bl.monoR_eqv _, Bl.monoR_eqv _, Bl.monoR_eqv _, Bl.monoR_eqv _, Bl.monoR_eqv _, Bl.monoR_eqv _, Bl.monoR_eqv _, Bl.monoR_eqv _, Bl.monoR_eqv _, Bl.monoR_eqv _, Bl.monoR_eqv _, Bl.monoR_eqv _, trivial⟩
    case hR0 => exact Bl.Kq.drew _
    case hend =>
      intro u w1 hext hJ hend
      simp only [Bl.EndE, List.getElem?_cons_succ, List.getElem?_cons_zero, Option.bind_some, List.getD_cons_succ, List.getD_cons_zero, Bl.eqv, true_and] at hend
      simp only [Bl.fillAct, List.setIfInBounds_toArray, List.set_cons_succ, List.set_cons_zero, List.drop_succ_cons, List.drop_zero, hend]
      have HK := Bl.hid hext
      have hc9 := HcX.out _ hext
      have c0 := hc9.1
      have f0 := hc9.2
      have HPz := Bl.hid (HPp.out w1 hext)
      have HKp : Hid (Bl.Kq (fun k => k = gp) w1 (w1.setCell ⟨gp, j, none⟩ (.int .u8 (bits .xor .u8 xv 1)))) := Bl.hid ((Bl.Kq.refl w1).setCell (Q := fun k => k = gp) ⟨gp, j, none⟩ rfl _)
      have hR9 : Bl.Pk (w1.setCell ⟨gp, j, none⟩ (.int .u8 (bits .xor .u8 xv 1))) W2.heap.size 3 (.slice (some ⟨g, 0, none⟩) n cap) n (Bl.cellsR Bl.cS L) := (HR5.out.kept (fun k hk => HK.out.block k (HR5.out.block k hk).2 (fun q => q)) HK.out.size).kept (fun k hk => HKp.out.block k (Nat.lt_of_lt_of_le (HR5.out.block k hk).2 HK.out.size) (by
        have h1 := (HRw.out.block k hk).2
        have := Hgp.out
        omega)) HKp.out.size
      have q32 := hR9.cell (HgetL.out 2 (by decide))
      have f32 := hR9.fz (j := i * 3 + 2) (by rw [Hcl.out]; have := Hin.out; omega)
      have HRz : Hid (Bl.Pk ((w1.setCell ⟨gp, j, none⟩ (.int .u8 (bits .xor .u8 xv 1))).setCell ⟨g, i * 3 + 2, none⟩ (.slice (some ⟨gp, 0, none⟩) np c5)) W2.heap.size 3 (.slice (some ⟨g, 0, none⟩) n cap) n (Bl.cellsR Bl.cS (L.set i (pl0, (u1, st), .slice (some ⟨gp, 0, none⟩) np c5, pth.set 0 (Bl.flL (pth.getD 0 []) y))))) := Bl.hid (by
        have h := hR9.put (j := i * 3 + 2) (by rw [Hcl.out]; have := Hin.out; omega) (.slice (some ⟨gp, 0, none⟩) np c5)
        rw [Hset.out _ (pth.set 0 (Bl.flL (pth.getD 0 []) y))] at h
        exact h)
      have HKg : Hid (Bl.Kq (fun k => k = g) (w1.setCell ⟨gp, j, none⟩ (.int .u8 (bits .xor .u8 xv 1))) ((w1.setCell ⟨gp, j, none⟩ (.int .u8 (bits .xor .u8 xv 1))).setCell ⟨g, i * 3 + 2, none⟩ (.slice (some ⟨gp, 0, none⟩) np c5))) := Bl.hid ((Bl.Kq.refl _).setCell (Q := fun k => k = g) ⟨g, i * 3 + 2, none⟩ rfl _)
      have HKz : Hid (Bl.Kq (fun k => k = g ∨ w4.heap.size ≤ k) w4 ((w1.setCell ⟨gp, j, none⟩ (.int .u8 (bits .xor .u8 xv 1))).setCell ⟨g, i * 3 + 2, none⟩ (.slice (some ⟨gp, 0, none⟩) np c5))) := Bl.hid ((((Bl.Kq.of_ext HE5.out).trans (HK.out.mono fun _ _ q => False.elim q)).trans (HKp.out.mono fun k _ q => .inr (by have := Hgp.out; omega))).trans (HKg.out.mono fun _ _ q => .inl q))
      clear hext hJ hend hc9 hR9
      have HBy := Bl.hid (HKz.out.box (by have := HX.out; have := HG.out; omega) HB4.out)
      have HBRy := Bl.hid (HKz.out.box (by have := HX.out; have := HG.out; omega) HBR4.out)
      have q94 := HBy.out.cell (i := 4) (v := .slice ps n csn) rfl
      have f94 := HBy.out.fz (i := 4) (show 4 < 9 by decide)
      have HBz : Hid (Bl.BoxC (((w1.setCell ⟨gp, j, none⟩ (.int .u8 (bits .xor .u8 xv 1))).setCell ⟨g, i * 3 + 2, none⟩ (.slice (some ⟨gp, 0, none⟩) np c5)).setCell ⟨P, 4, none⟩ (.slice (some ⟨g, 0, none⟩) n cap)) P (Bl.cL { l with shown := Bl.bendS 2 i y l.shown } (.slice pp l.places.length cp) (.slice (some ⟨g, 0, none⟩) n cap) (.slice pb n3 cb))) := Bl.hid (HBy.out.put (i := 4) (show 4 < 9 by decide) (.slice (some ⟨g, 0, none⟩) n cap))
      have hKs : Bl.Kq (fun k => k = P) ((w1.setCell ⟨gp, j, none⟩ (.int .u8 (bits .xor .u8 xv 1))).setCell ⟨g, i * 3 + 2, none⟩ (.slice (some ⟨gp, 0, none⟩) np c5)) (((w1.setCell ⟨gp, j, none⟩ (.int .u8 (bits .xor .u8 xv 1))).setCell ⟨g, i * 3 + 2, none⟩ (.slice (some ⟨gp, 0, none⟩) np c5)).setCell ⟨P, 4, none⟩ (.slice (some ⟨g, 0, none⟩) n cap)) := (Bl.Kq.refl ((w1.setCell ⟨gp, j, none⟩ (.int .u8 (bits .xor .u8 xv 1))).setCell ⟨g, i * 3 + 2, none⟩ (.slice (some ⟨gp, 0, none⟩) np c5))).setCell (Q := fun k => k = P) ⟨P, 4, none⟩ rfl _
      have HFz : Hid (Bl.LtF (fun b => b < w.heap.size ∨ w.heap.size + 2 ≤ b) (((w1.setCell ⟨gp, j, none⟩ (.int .u8 (bits .xor .u8 xv 1))).setCell ⟨g, i * 3 + 2, none⟩ (.slice (some ⟨gp, 0, none⟩) np c5)).setCell ⟨P, 4, none⟩ (.slice (some ⟨g, 0, none⟩) n cap)) { l with shown := Bl.bendS 2 i y l.shown } (.slice pp l.places.length cp) (.slice (some ⟨g, 0, none⟩) n cap) (.slice pb n3 cb) (L.set i (pl0, (u1, st), .slice (some ⟨gp, 0, none⟩) np c5, pth.set 0 (Bl.flL (pth.getD 0 []) y)))) := Bl.hid (by
        have h := HF4.out.kept (w' := (w1.setCell ⟨gp, j, none⟩ (.int .u8 (bits .xor .u8 xv 1))).setCell ⟨g, i * 3 + 2, none⟩ (.slice (some ⟨gp, 0, none⟩) np c5)) (F' := fun b => b < w.heap.size ∨ w.heap.size + 2 ≤ b) fun b hb hl => ⟨by omega, HKz.out.block b hl (by have := HX.out; have := HG.out; omega)⟩
        refine Bl.LtF.kept (F := fun b => b < w.heap.size ∨ w.heap.size + 2 ≤ b) (h.shn (vs2 := (.slice (some ⟨g, 0, none⟩) n cap)) (L2 := L.set i (pl0, (u1, st), .slice (some ⟨gp, 0, none⟩) np c5, pth.set 0 (Bl.flL (pth.getD 0 []) y))) ?_ ?_ ?_) fun b hb hl => ⟨hb, hKs.block b hl (by have := HX.out; omega)⟩
        · rw [List.length_set, ← Hnn.out.1]
          exact Bl.RdsF.of_rds HRz.out.rds fun b hb _ => .inr (by have := (HRz.out.block b hb).1; have := HX.out; omega)
        · intro x hx
          rcases List.mem_or_eq_of_mem_set hx with hx | rfl
          · exact h.so x hx
          · have h9 := Bl.stab_okF _ (fun b => b < w.heap.size ∨ w.heap.size + 2 ≤ b) _ ((w1.setCell ⟨gp, j, none⟩ (.int .u8 (bits .xor .u8 xv 1))).setCell ⟨g, i * 3 + 2, none⟩ (.slice (some ⟨gp, 0, none⟩) np c5)) _ Hok.out fun b hb hl => ⟨by omega, HKz.out.block b hl (by have := HX.out; have := HG.out; omega)⟩
            refine ⟨h9.st, h9.bs, ?_, HDg.out⟩
            show Bl.RdsF _ _ (.slice (some ⟨gp, 0, none⟩) np c5) (pth.set 0 _).length _
            rw [List.length_set, ← Hnp.out]
            exact (Bl.RdsF.of_rds (F := fun b => b = gp) HPz.out.rds fun b hb _ => by injection hb with hb; exact hb.symm).kept fun b hb hl => ⟨.inr (by have := HX.out; have := HG.out; have := Hgp.out; omega), HKg.out.block b hl (by have := HG.out; have := Hgp.out; omega)⟩
        · rw [List.map_set, HF4.out.sl]
          unfold Bl.bendS
          rw [if_neg (by decide), if_pos rfl, ← HpS.out]
          unfold Bl.flP
          rw [if_pos (by show 0 < pth.length; rw [← Hnp.out]; exact Hp.out)]
          rfl)
      have HBRz := Bl.hid (hKs.box (by have := HX.out; omega) HBRy.out)
      have HKw : Hid (Bl.Kq (fun k => w.heap.size ≤ k) w (((w1.setCell ⟨gp, j, none⟩ (.int .u8 (bits .xor .u8 xv 1))).setCell ⟨g, i * 3 + 2, none⟩ (.slice (some ⟨gp, 0, none⟩) np c5)).setCell ⟨P, 4, none⟩ (.slice (some ⟨g, 0, none⟩) n cap))) := Bl.hid ((((Bl.Kq.of_ext HE2.out).trans (Bl.Kq.of_ext HE4.out)).trans (HKz.out.mono fun k hk q => by have := HX.out; have := HG.out; omega)).trans (hKs.mono fun k hk q => by have := HX.out; omega))
      clear hKs HKz
      have HKz := HKw

      have Hl9 := Bl.hid (HBz.out.load (P := Tryd.prog) Tryd.underlying33 rfl (by kernel_rfl))
      have hone9 := HFz.out.ltc.one
      have Hst9 := Bl.hid (HBRz.out.store (P := Tryd.prog) (cs' := Bl.cL ({ l with shown := Bl.bendS 2 i y l.shown }) (.slice pp l.places.length cp) (.slice (some ⟨g, 0, none⟩) n cap) (.slice pb n3 cb)) rfl hone9 (ty := 33) (by kernel_rfl))
      have HBR9 := Bl.hid (HBRz.out.set (cs' := Bl.cL ({ l with shown := Bl.bendS 2 i y l.shown }) (.slice pp l.places.length cp) (.slice (some ⟨g, 0, none⟩) n cap) (.slice pb n3 cb)) rfl)
      have HK9 := Bl.hid ((Bl.Kq.refl (((w1.setCell ⟨gp, j, none⟩ (.int .u8 (bits .xor .u8 xv 1))).setCell ⟨g, i * 3 + 2, none⟩ (.slice (some ⟨gp, 0, none⟩) np c5)).setCell ⟨P, 4, none⟩ (.slice (some ⟨g, 0, none⟩) n cap))).setCells (Q := fun k => k = R) rfl 0 (Bl.cL ({ l with shown := Bl.bendS 2 i y l.shown }) (.slice pp l.places.length cp) (.slice (some ⟨g, 0, none⟩) n cap) (.slice pb n3 cb)))
      have HE9 := Bl.hid (HKz.out.trans (HK9.out.mono (Q' := fun k => w.heap.size ≤ k) fun k hk q => by have := HX.out; omega))
      clear hone9
      go_wp2_with (with_reducible refine Bl.stop_load (ty := 33) ?_)
      refine Bl.go_on ?_
      refine Bl.wpL_load rfl Hl9.out ?_
      go_wp2_with (with_reducible refine Bl.stop_store (ty := 33) ?_)
      refine Bl.go_on ?_
      refine Bl.wpL_store0 rfl rfl Hst9.out ?_
      go_wp2_with fail
      refine bodyPost_ret (v := .tuple #[.agg (Bl.cL ({ l with shown := Bl.bendS 2 i y l.shown }) (.slice pp l.places.length cp) (.slice (some ⟨g, 0, none⟩) n cap) (.slice pb n3 cb)).toArray, .bool true]) (Bl.results_cell2 rfl rfl (HBR9.out.loadVar (P := Tryd.prog) Tryd.underlying33 rfl (by kernel_rfl)) rfl) rfl ?_
      have hsp := HBd.out
      unfold Bl.BeR
      rw [hsp]
      exact ⟨_, rfl, ⟨_, _, _, _, _, rfl, (HFz.out.kept (F' := fun _ => True) fun k hk hlk => ⟨trivial, HK9.out.block k hlk (by have := HX.out; omega)⟩).ltc⟩, HE9.out.ext fun k q => q⟩
    case hJ0 => trivial
  · have hpi : ¬ ((0 : Int) < (np : Int)) := by omega
    have hsn : pth = [] := List.length_eq_zero_iff.1 (by have := Hnp.out; omega)
    have HS : Hid (Bl.bendS 2 i y l.shown = l.shown) := Bl.hid (by
      unfold Bl.bendS
      rw [if_neg (by decide), if_pos rfl]
      have h : Bl.flP (l.shown.getD i Bl.h0) y = l.shown.getD i Bl.h0 := by
        rw [← HpS.out]
        unfold Bl.flP
        rw [if_neg (by show ¬ 0 < pth.length; rw [hsn]; decide)]
      rw [h]
      exact Bl.set_getD Bl.h0 l.shown i (by rw [← Hnn.out.2.1]; exact Hin.out.1))
    have HKz : Hid (Bl.Kq (fun k => k = g ∨ w4.heap.size ≤ k) w4 w4) := Bl.hid (Bl.Kq.refl _)
    have HRz := HRw
    clear hsn hp

    have HBy := Bl.hid (HKz.out.box (by have := HX.out; have := HG.out; omega) HB4.out)
    have HBRy := Bl.hid (HKz.out.box (by have := HX.out; have := HG.out; omega) HBR4.out)
    have q94 := HBy.out.cell (i := 4) (v := .slice ps n csn) rfl
    have f94 := HBy.out.fz (i := 4) (show 4 < 9 by decide)
    have HBz : Hid (Bl.BoxC ((w4).setCell ⟨P, 4, none⟩ (.slice (some ⟨g, 0, none⟩) n cap)) P (Bl.cL { l with shown := Bl.bendS 2 i y l.shown } (.slice pp l.places.length cp) (.slice (some ⟨g, 0, none⟩) n cap) (.slice pb n3 cb))) := Bl.hid (HBy.out.put (i := 4) (show 4 < 9 by decide) (.slice (some ⟨g, 0, none⟩) n cap))
    have hKs : Bl.Kq (fun k => k = P) (w4) ((w4).setCell ⟨P, 4, none⟩ (.slice (some ⟨g, 0, none⟩) n cap)) := (Bl.Kq.refl (w4)).setCell (Q := fun k => k = P) ⟨P, 4, none⟩ rfl _
    have HFz : Hid (Bl.LtF (fun b => b < w.heap.size ∨ w.heap.size + 2 ≤ b) ((w4).setCell ⟨P, 4, none⟩ (.slice (some ⟨g, 0, none⟩) n cap)) { l with shown := Bl.bendS 2 i y l.shown } (.slice pp l.places.length cp) (.slice (some ⟨g, 0, none⟩) n cap) (.slice pb n3 cb) (L)) := Bl.hid (by
      have h := HF4.out.kept (w' := w4) (F' := fun b => b < w.heap.size ∨ w.heap.size + 2 ≤ b) fun b hb hl => ⟨by omega, HKz.out.block b hl (by have := HX.out; have := HG.out; omega)⟩
      refine Bl.LtF.kept (F := fun b => b < w.heap.size ∨ w.heap.size + 2 ≤ b) (h.shn (vs2 := (.slice (some ⟨g, 0, none⟩) n cap)) (L2 := L) ?_ ?_ ?_) fun b hb hl => ⟨hb, hKs.block b hl (by have := HX.out; omega)⟩
      · rw [← Hnn.out.1]
        exact Bl.RdsF.of_rds HRz.out.rds fun b hb _ => .inr (by have := (HRz.out.block b hb).1; have := HX.out; omega)
      · exact h.so
      · rw [HF4.out.sl, HS.out])
    have HBRz := Bl.hid (hKs.box (by have := HX.out; omega) HBRy.out)
    have HKw : Hid (Bl.Kq (fun k => w.heap.size ≤ k) w ((w4).setCell ⟨P, 4, none⟩ (.slice (some ⟨g, 0, none⟩) n cap))) := Bl.hid ((((Bl.Kq.of_ext HE2.out).trans (Bl.Kq.of_ext HE4.out)).trans (HKz.out.mono fun k hk q => by have := HX.out; have := HG.out; omega)).trans (hKs.mono fun k hk q => by have := HX.out; omega))
    clear hKs HKz
    have HKz := HKw

    have Hl9 := Bl.hid (HBz.out.load (P := Tryd.prog) Tryd.underlying33 rfl (by kernel_rfl))
    have hone9 := HFz.out.ltc.one
    have Hst9 := Bl.hid (HBRz.out.store (P := Tryd.prog) (cs' := Bl.cL ({ l with shown := Bl.bendS 2 i y l.shown }) (.slice pp l.places.length cp) (.slice (some ⟨g, 0, none⟩) n cap) (.slice pb n3 cb)) rfl hone9 (ty := 33) (by kernel_rfl))
    have HBR9 := Bl.hid (HBRz.out.set (cs' := Bl.cL ({ l with shown := Bl.bendS 2 i y l.shown }) (.slice pp l.places.length cp) (.slice (some ⟨g, 0, none⟩) n cap) (.slice pb n3 cb)) rfl)
    have HK9 := Bl.hid ((Bl.Kq.refl ((w4).setCell ⟨P, 4, none⟩ (.slice (some ⟨g, 0, none⟩) n cap))).setCells (Q := fun k => k = R) rfl 0 (Bl.cL ({ l with shown := Bl.bendS 2 i y l.shown }) (.slice pp l.places.length cp) (.slice (some ⟨g, 0, none⟩) n cap) (.slice pb n3 cb)))
    have HE9 := Bl.hid (HKz.out.trans (HK9.out.mono (Q' := fun k => w.heap.size ≤ k) fun k hk q => by have := HX.out; omega))
    clear hone9
    go_wp2_with (with_reducible refine Bl.stop_load (ty := 33) ?_)
    refine Bl.go_on ?_
    refine Bl.wpL_load rfl Hl9.out ?_
    go_wp2_with (with_reducible refine Bl.stop_store (ty := 33) ?_)
    refine Bl.go_on ?_
    refine Bl.wpL_store0 rfl rfl Hst9.out ?_
    go_wp2_with fail
    refine bodyPost_ret (v := .tuple #[.agg (Bl.cL ({ l with shown := Bl.bendS 2 i y l.shown }) (.slice pp l.places.length cp) (.slice (some ⟨g, 0, none⟩) n cap) (.slice pb n3 cb)).toArray, .bool true]) (Bl.results_cell2 rfl rfl (HBR9.out.loadVar (P := Tryd.prog) Tryd.underlying33 rfl (by kernel_rfl)) rfl) rfl ?_
    have hsp := HBd.out
    unfold Bl.BeR
    rw [hsp]
    exact ⟨_, rfl, ⟨_, _, _, _, _, rfl, (HFz.out.kept (F' := fun _ => True) fun k hk hlk => ⟨trivial, HK9.out.block k hlk (by have := HX.out; omega)⟩).ltc⟩, HE9.out.ext fun k q => q⟩
end Go.Proofs.YtmmolapkddbibaaDoor

/- Walk of baileeref29.Bend. -/
namespace Go.Proofs.YtmmolapkddbibaaDoor
open Go Go.RowKit Go.Proofs

set_option maxRecDepth 100000 in
set_option maxHeartbeats 8000000 in
theorem refbs3 (at' y : Int) (v : Value) (l : Bl.LT) (w : World) (h : Bl.LtV w v l) (hLg : Bl.LgL l) (hid : -1125899906842624 ≤ l.id ∧ l.id ≤ 1125899906842624) (h4 : l.kind = 4) (h0 : 0 < l.shown.length) :
    Calls Tryd.prog 11 #[v, .int .i64 3, .int .i64 at', .int .i64 y] w fun e w' => Bl.BeR 3 at' y l w e w' := by
  obtain ⟨cs0, vp, vs, vb, L, rfl, hc⟩ := h
  obtain rfl := hc.eq
  obtain ⟨pp, cp, hvp, _, _⟩ := hc.pl.form
  obtain ⟨ps, csn, hvs, _, _⟩ := hc.sh.rd.form
  obtain ⟨pb, cb, hvb, _, _⟩ := hc.bl.form
  have HLg := Bl.hid hLg
  have hls : L.length = l.shown.length := by have := congrArg List.length hc.sl; simpa using this
  obtain ⟨n, hn⟩ : ∃ z, z = L.length := ⟨_, rfl⟩
  obtain ⟨n3, hn3⟩ : ∃ z, z = l.blocks.length := ⟨_, rfl⟩
  rw [← hn] at hvs hls
  rw [← hn3] at hvb
  have Hnn : Hid (n = L.length ∧ n = l.shown.length ∧ n3 = l.blocks.length ∧ n ≤ 30 ∧ n3 ≤ 600) := Bl.hid ⟨hn, hls, hn3, by rw [hls]; exact hLg.sh, by rw [hn3]; exact hLg.bl⟩
  obtain ⟨P, hP⟩ : ∃ z, z = w.heap.size := ⟨_, rfl⟩
  obtain ⟨R, hR⟩ : ∃ z, z = w.heap.size + 1 := ⟨_, rfl⟩
  obtain ⟨W2, hW2⟩ : ∃ W, W = (w.alloc (.cells (Bl.cL l vp vs vb).toArray 33)).alloc (.cells Bl.zL 33) := ⟨_, rfl⟩
  have hs1 : (w.alloc (.cells (Bl.cL l vp vs vb).toArray 33)).heap.size = w.heap.size + 1 := World.size_alloc _ _
  have hs2 : W2.heap.size = w.heap.size + 1 + 1 := by rw [hW2, World.size_alloc, hs1]
  have hE2 : Bl.Ext w W2 := by rw [hW2]; exact (Bl.ext_alloc _ _).trans (Bl.ext_alloc _ _)
  have hBP : Bl.BoxC W2 P (Bl.cL l vp vs vb) := by
    rw [hW2, hP]; exact (Bl.BoxC.box w 33 (Bl.cL_ne _ _ _ _)).ext (Bl.ext_alloc _ _)
  have hBR : Bl.BoxC W2 R Bl.zL.toList := by
    have h := Bl.BoxC.box (cs := Bl.zL.toList) (w.alloc (.cells (Bl.cL l vp vs vb).toArray 33)) 33 (fun q => by cases q)
    rw [hs1, ← hR] at h
    rw [hW2]; exact h
  have HX : Hid (P = w.heap.size ∧ R = w.heap.size + 1 ∧ W2.heap.size = w.heap.size + 2) := Bl.hid ⟨hP, hR, hs2⟩
  have HE2 := Bl.hid hE2
  have HBP := Bl.hid hBP
  have HBR := Bl.hid hBR
  have HF2 : Hid (Bl.LtF (fun b => b < w.heap.size ∨ w.heap.size + 2 ≤ b) W2 l vp vs vb L) := Bl.hid ((Bl.LtF.of_ltc hc).kept fun b hb hl => ⟨.inl hb, hE2.block b hl⟩)
  have q0 := hBP.cell (i := 0) (v := .int .i64 l.kind) rfl
  have q4 := hBP.cell (i := 4) (v := vs) rfl
  have q7 := hBP.cell (i := 7) (v := vb) rfl
  have q1 := hBP.cell (i := 1) (v := .int .i64 l.id) rfl
  have q2 := hBP.cell (i := 2) (v := .int .i64 l.obj) rfl
  have Hid' := Bl.hid hid
  unfold Bl.cL at hW2
  clear hs1 hs2 hE2 hBP hBR hc hLg hid hls hn hn3
  subst hvs hvb hvp
  show Calls Tryd.prog 11 #[.agg #[.int .i64 l.kind, .int .i64 l.id, .int .i64 l.obj, .slice pp l.places.length cp, .slice ps n csn, .int .i64 l.frm, .int .i64 l.cnt, .slice pb n3 cb, .int .i64 l.code], .int .i64 3, .int .i64 at', .int .i64 y] w _
  have H4 := Bl.hid h4
  rw [h4] at q0
  have h0n : 0 < n := by rw [Hnn.out.2.1]; exact h0
  obtain ⟨i, hi, e1, e2⟩ := Bl.emod_nat at' h0n
  have HBd : Hid (Bl.bendL 3 at' y l = ({ l with shown := Bl.bendS 3 i y l.shown }, true)) := Bl.hid (by
    rw [Bl.bendL_sh (by decide) (by decide) (by decide) (by decide) (fun q => by have := q.2.1; omega)]
    unfold Bl.bendA
    rw [if_pos ⟨h4, h0⟩, ← Hnn.out.2.1, e2])
  have HR : Hid (∀ w2, Calls Tryd.prog 32 #[.int .i64 at', .int .i64 n] w2 fun e w' => e = .returned (.int .i64 (i : Nat)) ∧ w2 = w') := Bl.hid fun w2 => by
    have h := refrest_any at' n w2 (by omega) (by have := Hnn.out; omega)
    rw [e1] at h
    exact h
  have hi0 : (0 : Int) ≤ (i : Int) := by omega
  have hi1 : (i : Int) < (n : Int) := by omega
  have hn2 : ¬ ((n : Int) = 0) := by omega
  have hn3 : ¬ (n = 0) := by omega
  have hn4 : (n : Int) ≤ 30 := by have := Hnn.out; omega
  have Hin : Hid (i < n ∧ 0 < n ∧ i < L.length ∧ 0 < L.length) := Bl.hid ⟨hi, h0n, by rw [← Hnn.out.1]; exact hi, by rw [← Hnn.out.1]; exact h0n⟩
  clear e1 e2 hi h0 h4 h0n

  go_enter Tryd.func11, Tryd.ntmps11
  go_wp2_with (with_reducible refine Bl.stop_load (ty := 31) ?_)
  refine Bl.go_on ?_
  rw [← hW2, ← hR, ← hP]
  clear hW2 hR hP

  go_wp2_with fail
  refine (HR.out W2).mono ?_
  rintro e w3 ⟨rfl, hw3⟩
  subst hw3
  have hEe : Bl.Ext W2 (W2.alloc (.cells #[] 68)) := Bl.ext_alloc _ _
  have Ho : Hid ((W2.alloc (.cells #[] 68)).ownsRow W2.heap.size 68 3 (.slice (some ⟨W2.heap.size, 0, none⟩) 0 0) 0 []) := Bl.hid (Bl.owns_new W2 68 #[] W2.heap.size 0 3 (Nat.le_refl _) (by decide) rfl)
  have Hrd : Hid (Bl.Rds (W2.alloc (.cells #[] 68)) (.slice ps n csn) n (Bl.cellsR Bl.cS L)) := Bl.hid (by have h := HF2.out.sh.rds; rw [← Hnn.out.1] at h; exact h.ext hEe)
  have qe4 := (HBP.out.ext hEe).cell (i := 4) (v := .slice ps n csn) rfl
  have Hone : Hid (∀ c ∈ Bl.cellsR Bl.cS L, c.oneCell' = true) := Bl.hid (Bl.cellsR_cell fun x hx => Bl.cS_one (HF2.out.so x hx).ok)
  have Hcl : Hid ((Bl.cellsR Bl.cS L).length = n * 3) := Bl.hid (by rw [Bl.cellsS_len, ← Hnn.out.1])
  clear hEe
  go_wp2_with (with_reducible refine Bl.stop_append ?_)
  refine Bl.go_on ?_
  refine Bl.wpL_app tShR Ho.out Hrd.out rfl rfl Hcl.out Hone.out (by unfold maxLen; omega) (by omega) (by simp) ?_
  intro p4 cap w4 hown hg hB hK hn1 hc1
  rw [Nat.zero_add] at hown hn1 ⊢
  rw [List.nil_append] at hown
  have hE4 : Bl.Ext W2 w4 := Below.trans (Bl.ext_alloc _ _) hB
  obtain ⟨g, cap0, hf, hg1, hg2, hg3, hg4, hrg0⟩ := (Bl.Pq.of_owns hown).1.form Hin.out.2.1
  injection hf with hf1 hf3 hf2
  subst hf1 hf2
  clear hf3
  have HRg0 := Bl.hid hrg0
  clear hrg0
  have HRw := Bl.hid (Bl.Pq.of_owns hown).1
  have HE4 := Bl.hid hE4
  have HB4 := Bl.hid (HBP.out.ext hE4)
  have HBR4 := Bl.hid (HBR.out.ext hE4)
  have HF4 : Hid (Bl.LtF (fun b => b < w.heap.size ∨ w.heap.size + 2 ≤ b ∧ b ≠ g) w4 l (.slice pp l.places.length cp) (.slice ps n csn) (.slice pb n3 cb) L) := Bl.hid (((Bl.LtF.kept (F' := fun b => b < W2.heap.size ∧ (b < w.heap.size ∨ w.heap.size + 2 ≤ b)) HF2.out fun b hb hl => ⟨⟨hl, hb⟩, rfl⟩)).kept fun b hb hl => ⟨by rcases hb.2 with q | q; exact .inl q; exact .inr ⟨q, by omega⟩, hE4.block b hb.1⟩)
  have HG : Hid (W2.heap.size ≤ g ∧ g < w4.heap.size ∧ n ≤ cap ∧ cap ≤ maxLen ∧ w.heap.size + 2 ≤ g ∧ P ≠ g ∧ R ≠ g) := Bl.hid ⟨hg1, hg2, hg3, hg4, by have := HX.out; omega, by have := HX.out; omega, by have := HX.out; omega⟩
  have HgetL : Hid (∀ j, j < 3 → (Bl.cellsR Bl.cS L)[i * 3 + j]? = (Bl.cS (L.getD i Bl.s0))[j]?) := Bl.hid fun j hj => Bl.cellsR_get Bl.cS_len Bl.s0 j hj L i Hin.out.2.2.1
  have HpS : Hid (Bl.plS (L.getD i Bl.s0) = l.shown.getD i Bl.h0) := Bl.hid (by rw [← Bl.plS_getD, HF2.out.sl])
  have hn5 : (n : Int) ≤ (cap : Int) := by omega
  clear hown hg hB hK hn1 hc1 hE4 hg1 hg2 hg3 hg4 Ho Hrd q0 q1 q2 q4 q7 qe4
  have hgl : i < L.length ∧ 0 < L.length := ⟨Hin.out.2.2.1, Hin.out.2.2.2⟩
  have hok4 := HF4.out.so
  have Hget0 : Hid (∀ j, j < 3 → (Bl.cellsR Bl.cS L)[j]? = (Bl.cS (L.getD 0 Bl.s0))[j]?) := Bl.hid fun j hj => by
    have h := Bl.cellsR_get Bl.cS_len Bl.s0 j hj L 0 hgl.2
    rwa [Nat.zero_mul, Nat.zero_add] at h
  have HSw := Bl.hid (Bl.swapR_cells L i hgl.2 hgl.1)
  have HSp := Bl.hid (Bl.swapR_pl L i hgl.2 hgl.1)
  have hf0 := (hok4 _ (Bl.getD_mem Bl.s0 hgl.2)).ok
  have hfi := (hok4 _ (Bl.getD_mem Bl.s0 hgl.1)).ok
  obtain ⟨x0, hx0⟩ : ∃ x, x = L.getD 0 Bl.s0 := ⟨_, rfl⟩
  obtain ⟨xi, hxi⟩ : ∃ x, x = L.getD i Bl.s0 := ⟨_, rfl⟩
  rw [← hx0] at Hget0 hf0
  rw [← hxi] at HgetL hfi
  rw [← hx0, ← hxi] at HSw
  obtain ⟨P0, ⟨a1, sta⟩, a2, pta⟩ := x0
  obtain ⟨Pi, ⟨b1, stb⟩, b2, ptb⟩ := xi
  obtain ⟨pa1, ca1, ha1, _, _⟩ := hf0.st.form
  obtain ⟨pb1, cb1, hb1, _, _⟩ := hfi.st.form
  obtain ⟨pa2, ca2, ha2, _, _⟩ := hf0.pa.form
  obtain ⟨pb2, cb2, hb2, _, _⟩ := hfi.pa.form
  simp only at ha1 hb1 ha2 hb2
  obtain ⟨na1, hna1⟩ : ∃ z, z = sta.length := ⟨_, rfl⟩
  obtain ⟨nb1, hnb1⟩ : ∃ z, z = stb.length := ⟨_, rfl⟩
  obtain ⟨na2, hna2⟩ : ∃ z, z = pta.length := ⟨_, rfl⟩
  obtain ⟨nb2, hnb2⟩ : ∃ z, z = ptb.length := ⟨_, rfl⟩
  rw [← hna1] at ha1
  rw [← hnb1] at hb1
  rw [← hna2] at ha2
  rw [← hnb2] at hb2
  simp only at HSw
  have hge : ∀ (j : Nat) (x : Bl.Sv), (∀ q, q < 3 → (Bl.cellsR Bl.cS L)[j + q]? = (Bl.cS x)[q]?) → w4.rangeAt g j (Bl.cS x) := fun j x h q v hv => by
    have hq : q < 3 := by
      have := (List.getElem?_eq_some_iff.1 hv).1
      rwa [Bl.cS_len] at this
    rw [← h q hq] at hv
    exact HRw.out.cell hv
  have hr0 := hge 0 (P0, (a1, sta), a2, pta) (fun q hq => by rw [Nat.zero_add]; exact Hget0.out q hq)
  have hri := hge (i * 3) (Pi, (b1, stb), b2, ptb) HgetL.out
  have e0 : Bl.cS (P0, (a1, sta), a2, pta) = [.int .i64 P0, .slice pa1 na1 ca1, .slice pa2 na2 ca2] := by rw [← ha1, ← ha2]; rfl
  have ei : Bl.cS (Pi, (b1, stb), b2, ptb) = [.int .i64 Pi, .slice pb1 nb1 cb1, .slice pb2 nb2 cb2] := by rw [← hb1, ← hb2]; rfl
  rw [e0] at hr0
  rw [ei] at hri
  have HLd0 : Hid (∀ w2, Bl.Ext w4 w2 → (Instr.loadAt 68 (.pointer (some ⟨g, 0, none⟩))).run Tryd.prog w2 = .ok (.agg #[.int .i64 P0, .slice pa1 na1 ca1, .slice pa2 na2 ca2]) w2) := Bl.hid fun w2 h2 => run_loadAt_mid (P := Tryd.prog) w2 g 0 68 _ _ (Bl.rangeAt_ext hr0 h2) Tryd.underlying68 rfl (by kernel_rfl)
  have HLdi : Hid (∀ w2, Bl.Ext w4 w2 → (Instr.loadAt 68 (.pointer (some ⟨g, i * 3, none⟩))).run Tryd.prog w2 = .ok (.agg #[.int .i64 Pi, .slice pb1 nb1 cb1, .slice pb2 nb2 cb2]) w2) := Bl.hid fun w2 h2 => run_loadAt_mid (P := Tryd.prog) w2 g (i * 3) 68 _ _ (Bl.rangeAt_ext hri h2) Tryd.underlying68 rfl (by kernel_rfl)
  obtain ⟨xs, hxs⟩ : ∃ z, z = Bl.cellsR Bl.cS L := ⟨_, rfl⟩
  rw [← hxs] at HSw HRw Hcl Hone
  have HlI1 : Hid (1 < xs.length) := Bl.hid (by rw [Hcl.out]; have := Hin.out; omega)
  obtain ⟨xs2, hxs2⟩ : ∃ z, z = (xs.set 1 (.slice pb1 nb1 cb1)).set 2 (.slice pb2 nb2 cb2) := ⟨_, rfl⟩
  have Hxs2 := Bl.hid hxs2
  have Hx2l : Hid (xs2.length = n * 3) := Bl.hid (by rw [hxs2, List.length_set, List.length_set]; exact Hcl.out)
  have HlI2 : Hid (i * 3 + 1 < xs2.length) := Bl.hid (by rw [Hx2l.out]; have := Hin.out; omega)
  have HSx : Hid ((xs2.set (i * 3 + 1) (.slice pa1 na1 ca1)).set (i * 3 + 2) (.slice pa2 na2 ca2) = Bl.cellsR Bl.cS (Bl.swR L i)) := Bl.hid (by rw [hxs2, ← ha1, ← hb1, ← ha2, ← hb2]; exact HSw.out)
  have Hl1 : Hid (2 < xs.length ∧ i * 3 + 2 < xs2.length) := Bl.hid (by rw [Hcl.out, Hx2l.out]; have := Hin.out; omega)
  obtain ⟨BB, hBB⟩ : ∃ z, z = w4.heap.size := ⟨_, rfl⟩
  have HBB := Bl.hid hBB
  have h0n : 0 < n := Hin.out.2.1
  clear hgl hok4 hf0 hfi hx0 hxi ha1 hb1 ha2 hb2 hna1 hnb1 hna2 hnb2 HSw hxs hxs2 Hget0 HgetL hge hr0 hri e0 ei hBB HpS Hone
  go_wp2_with fail
  apply Bl.wp_region_evK (fun a b => Below BB a b) (Bl.JT BB 3 7 8 9 16 17 [.int .i64 P0, .slice pa1 na1 ca1, .slice pa2 na2 ca2]) 10 [151, 152, 153, 154, 155, 156, 157, 16, 17] [Bl.eqv _, Bl.eqv _, Bl.eqv _, Bl.eqv _, Bl.eqv _, Bl.eqv _, Bl.eqv _, Bl.anyv, Bl.anyv, Bl.eqv _] (fun w => Below.refl _ w) (fun a b c h k => Below.trans h k) (by kernel_rfl) (by kernel_rfl) (by kernel_rfl) (by kernel_rfl)
  case hsteps =>
    refine ⟨?_, ?_, ?_, ?_, ?_, ?_, ?_, ?_, ?_, ?_, trivial⟩
    all_goals
      intro d ev w1 hext HJd Hanc Hdes hni hb hd
      replace Hanc := Bl.hid Hanc
      replace HJd := Bl.hid HJd
      replace Hdes := Bl.hid Hdes
      replace hni := Bl.hid hni
      have e13 := hb 13 (by decide)
      have e14 := hb 14 (by decide)
      clear hb
      simp only [Array.getD_eq_getD_getElem?, List.getElem?_toArray, List.getElem?_cons_succ, List.getElem?_cons_zero, Option.getD_some] at e13 e14
      simp only [Bl.DepsE2, List.getElem?_cons_succ, List.getElem?_cons_zero, Option.bind_some, List.getD_cons_succ, List.getD_cons_zero, Bl.eqv, and_true] at hd
      have hc := (Bl.bcell hext).1
      have hE : Bl.Ext w4 w1 := by rw [Bl.Ext, ← HBB.out]; exact hext
      simp only [Region.wanted, if_true]
      first
      | ((with_reducible refine Bl.goodX_load (fun w => Below.refl _ w) ?_ (HLd0.out _ hE) ?_); exact (by first | exact hd | exact hd.2 | exact hd.1.2 | exact hd.1.1.2 | exact hd.1.1.1.2 | exact hd.1.1.1.1.2 | exact hd.1.1.1.1.1.2 | exact hd.1.1.1.1.1.1.2 | exact hd.1.1.1.1.1.1.1.2 | exact hd.1.1.1.1.1.1.1.1.2 | exact hd.1.1.1.1.1.1.1.1.1.2 | exact hd.1.1.1.1.1.1.1.1.1.1.2 | exact hd.1.1.1.1.1.1.1.1.1.1.1.2 | exact hd.1.1.1.1.1.1.1.1.1.1.1.1.2 | exact hd.1.1.1.1.1.1.1.1.1.1.1.1.1.2 | exact hd.1 | exact hd.1.1 | exact hd.1.1.1 | exact hd.1.1.1.1 | exact hd.1.1.1.1.1 | exact hd.1.1.1.1.1.1 | exact hd.1.1.1.1.1.1.1 | exact hd.1.1.1.1.1.1.1.1 | exact hd.1.1.1.1.1.1.1.1.1 | exact hd.1.1.1.1.1.1.1.1.1.1 | exact hd.1.1.1.1.1.1.1.1.1.1.1 | exact hd.1.1.1.1.1.1.1.1.1.1.1.1 | exact hd.1.1.1.1.1.1.1.1.1.1.1.1.1 | exact hd.2.1 | exact hd.2.2.1 | exact hd.2.2.2.1 | exact hd.2.2.2.2.1 | exact hd.2.2.2.2.2.1 | exact hd.2.2.2.2.2.2.1 | exact hd.2.2.2.2.2.2.2.1 | exact hd.2.2.2.2.2.2.2.2.1 | exact hd.2.2.2.2.2.2.2.2.2.1 | exact hd.2.2.2.2.2.2.2.2.2.2.1 | exact hd.2.2.2.2.2.2.2.2.2.2.2.1 | exact hd.2.2.2.2.2.2.2.2.2.2.2.2.1 | exact hd.2.2.2.2.2.2.2.2.2.2.2.2.2.1); exact ⟨rfl, HJd.out.same (by decide)⟩) | ((with_reducible refine Bl.goodX_load (fun w => Below.refl _ w) ?_ (HLdi.out _ hE) ?_); exact (by first | exact hd | exact hd.2 | exact hd.1.2 | exact hd.1.1.2 | exact hd.1.1.1.2 | exact hd.1.1.1.1.2 | exact hd.1.1.1.1.1.2 | exact hd.1.1.1.1.1.1.2 | exact hd.1.1.1.1.1.1.1.2 | exact hd.1.1.1.1.1.1.1.1.2 | exact hd.1.1.1.1.1.1.1.1.1.2 | exact hd.1.1.1.1.1.1.1.1.1.1.2 | exact hd.1.1.1.1.1.1.1.1.1.1.1.2 | exact hd.1.1.1.1.1.1.1.1.1.1.1.1.2 | exact hd.1.1.1.1.1.1.1.1.1.1.1.1.1.2 | exact hd.1 | exact hd.1.1 | exact hd.1.1.1 | exact hd.1.1.1.1 | exact hd.1.1.1.1.1 | exact hd.1.1.1.1.1.1 | exact hd.1.1.1.1.1.1.1 | exact hd.1.1.1.1.1.1.1.1 | exact hd.1.1.1.1.1.1.1.1.1 | exact hd.1.1.1.1.1.1.1.1.1.1 | exact hd.1.1.1.1.1.1.1.1.1.1.1 | exact hd.1.1.1.1.1.1.1.1.1.1.1.1 | exact hd.1.1.1.1.1.1.1.1.1.1.1.1.1 | exact hd.2.1 | exact hd.2.2.1 | exact hd.2.2.2.1 | exact hd.2.2.2.2.1 | exact hd.2.2.2.2.2.1 | exact hd.2.2.2.2.2.2.1 | exact hd.2.2.2.2.2.2.2.1 | exact hd.2.2.2.2.2.2.2.2.1 | exact hd.2.2.2.2.2.2.2.2.2.1 | exact hd.2.2.2.2.2.2.2.2.2.2.1 | exact hd.2.2.2.2.2.2.2.2.2.2.2.1 | exact hd.2.2.2.2.2.2.2.2.2.2.2.2.1 | exact hd.2.2.2.2.2.2.2.2.2.2.2.2.2.1); exact ⟨rfl, HJd.out.same (by decide)⟩) | (obtain ⟨g7, hg7, hBg, hth⟩ := HJd.out.a7 (Hanc.out 7 (by kernel_rfl)); have hst := Bl.store_there (P := Tryd.prog) (ty := 68) (cs := [.int .i64 P0, .slice pa1 na1 ca1, .slice pa2 na2 ca2]) hth (Bl.one3 _ _ _ _ _ _ _) (by kernel_rfl); have hJ2 := HJd.out.store7 (by decide) (Hanc.out 7 (by kernel_rfl)) rfl hg7; refine Bl.goodX_store hg7 ?_ hst hJ2.2 ⟨rfl, hJ2.1⟩; exact (by first | exact hd | exact hd.2 | exact hd.1.2 | exact hd.1.1.2 | exact hd.1.1.1.2 | exact hd.1.1.1.1.2 | exact hd.1.1.1.1.1.2 | exact hd.1.1.1.1.1.1.2 | exact hd.1.1.1.1.1.1.1.2 | exact hd.1.1.1.1.1.1.1.1.2 | exact hd.1.1.1.1.1.1.1.1.1.2 | exact hd.1.1.1.1.1.1.1.1.1.1.2 | exact hd.1.1.1.1.1.1.1.1.1.1.1.2 | exact hd.1.1.1.1.1.1.1.1.1.1.1.1.2 | exact hd.1.1.1.1.1.1.1.1.1.1.1.1.1.2 | exact hd.1 | exact hd.1.1 | exact hd.1.1.1 | exact hd.1.1.1.1 | exact hd.1.1.1.1.1 | exact hd.1.1.1.1.1.1 | exact hd.1.1.1.1.1.1.1 | exact hd.1.1.1.1.1.1.1.1 | exact hd.1.1.1.1.1.1.1.1.1 | exact hd.1.1.1.1.1.1.1.1.1.1 | exact hd.1.1.1.1.1.1.1.1.1.1.1 | exact hd.1.1.1.1.1.1.1.1.1.1.1.1 | exact hd.1.1.1.1.1.1.1.1.1.1.1.1.1 | exact hd.2.1 | exact hd.2.2.1 | exact hd.2.2.2.1 | exact hd.2.2.2.2.1 | exact hd.2.2.2.2.2.1 | exact hd.2.2.2.2.2.2.1 | exact hd.2.2.2.2.2.2.2.1 | exact hd.2.2.2.2.2.2.2.2.1 | exact hd.2.2.2.2.2.2.2.2.2.1 | exact hd.2.2.2.2.2.2.2.2.2.2.1 | exact hd.2.2.2.2.2.2.2.2.2.2.2.1 | exact hd.2.2.2.2.2.2.2.2.2.2.2.2.1 | exact hd.2.2.2.2.2.2.2.2.2.2.2.2.2.1))
      | (go_simp; first | exact ⟨Below.refl _ _, rfl, HJd.out.same (by decide)⟩ | exact ⟨Bl.below_alloc _ _ HJd.out.le, trivial, HJd.out.new7 (by decide) (Hdes.out 9 (by kernel_rfl)) rfl (by decide)⟩ | exact ⟨Bl.below_alloc _ _ HJd.out.le, trivial, HJd.out.new8 (by decide) (Hdes.out 9 (by kernel_rfl)) rfl (by decide)⟩ | exact ⟨Below.refl _ _, rfl, Bl.HJ.same (by decide) HJd.out⟩)
  case hmono => exact ⟨Bl.monoR_eqv _, Bl.monoR_eqv _, Bl.monoR_eqv _, Bl.monoR_eqv _, Bl.monoR_eqv _, Bl.monoR_eqv _, Bl.monoR_eqv _, Bl.monoR_anyv, Bl.monoR_anyv, Bl.monoR_eqv _, trivial⟩
  case hR0 => exact (Below.refl _ _).drew
  case hend =>
    intro u w1 hext hJ hend
    simp only [Bl.EndE, List.getElem?_cons_succ, List.getElem?_cons_zero, Option.bind_some, List.getD_cons_succ, List.getD_cons_zero, Bl.eqv, true_and] at hend
    simp only [Bl.fillAct, List.setIfInBounds_toArray, List.set_cons_succ, List.set_cons_zero, List.drop_succ_cons, List.drop_zero, hend]
    obtain ⟨g7, e7, hB7, ht7⟩ := hJ.a7 rfl
    obtain ⟨g8, e8, hB8, ht8⟩ := hJ.a8 rfl
    obtain ⟨g7', e7', hr7⟩ := hJ.s rfl
    have hne : g7 ≠ g8 := fun q => hJ.ne rfl rfl (by rw [e7, e8, q])
    have e9 : g7' = g7 := by rw [e7] at e7'; injection e7' with q; injection q with q; injection q with q; exact q.symm
    rw [e9] at hr7
    rw [e7, e8]
    have hE1 : Bl.Ext w4 w1 := by rw [Bl.Ext, ← HBB.out]; exact hext
    have Hst := Bl.hid (Bl.store_there (P := Tryd.prog) (ty := 68) (cs := [.int .i64 Pi, .slice pb1 nb1 cb1, .slice pb2 nb2 cb2]) ht8 (Bl.one3 _ _ _ _ _ _ _) (by kernel_rfl))
    have HB7 : Hid (Bl.BoxC (w1.setCells g8 0 [.int .i64 Pi, .slice pb1 nb1 cb1, .slice pb2 nb2 cb2]) g7 [.int .i64 P0, .slice pa1 na1 ca1, .slice pa2 na2 ca2]) := Bl.hid ((Bl.BoxC.mk hr7 ht7 (by simp)).other hne [.int .i64 Pi, .slice pb1 nb1 cb1, .slice pb2 nb2 cb2])
    have HB8 : Hid (Bl.BoxC (w1.setCells g8 0 [.int .i64 Pi, .slice pb1 nb1 cb1, .slice pb2 nb2 cb2]) g8 [.int .i64 Pi, .slice pb1 nb1 cb1, .slice pb2 nb2 cb2]) := Bl.hid ⟨World.rangeAt_setCells_same _ _ _ _ ht8, World.there_setCells ht8 _ _ _, by simp⟩
    have hE2 : Bl.Ext w4 (w1.setCells g8 0 [.int .i64 Pi, .slice pb1 nb1 cb1, .slice pb2 nb2 cb2]) := Bl.below_setCells _ _ _ _ hE1 (by rw [← HBB.out]; exact hB8)
    have HRv := Bl.hid (HRw.out.ext hE2)
    have HE5 := Bl.hid hE2
    have HNe : Hid (g7 ≠ g ∧ g8 ≠ g) := Bl.hid (by have := HG.out; have := HBB.out; omega)
    clear hJ hend hext hE1 hE2 e7 e8 e7' e9 hB7 hB8 ht7 ht8 hr7 hne
    go_wp2_with (with_reducible refine Bl.stop_store (ty := 68) ?_)
    refine Bl.go_on ?_
    refine Bl.wpL_store0 rfl rfl Hst.out ?_
    obtain ⟨W5, hW5⟩ : ∃ W, W = w1.setCells g8 0 [.int .i64 Pi, .slice pb1 nb1 cb1, .slice pb2 nb2 cb2] := ⟨_, rfl⟩
    rw [← hW5] at HB7 HB8 HRv HE5 ⊢
    clear hW5 Hst
    go_wp2_with fail
    apply Bl.wp_region_evK (Bl.Kq (fun k => k = g)) (Bl.HJ 8 (fun w' => Bl.Pk w' W2.heap.size 3 (.slice (some ⟨g, 0, none⟩) n cap) n xs) (fun w' => Bl.Pk w' W2.heap.size 3 (.slice (some ⟨g, 0, none⟩) n cap) n (xs.set (1) (.slice pb1 nb1 cb1)))) 11 [158, 159, 160, 161, 162, 163, 164, 165, 166, 167] [Bl.eqv _, Bl.eqv _, Bl.eqv _, Bl.eqv _, Bl.eqv _, Bl.eqv _, Bl.eqv _, Bl.eqv _, Bl.eqv _, Bl.eqv _, Bl.eqv _] (fun w => Bl.Kq.refl w) (fun a b c h k => Bl.Kq.trans h k) (by kernel_rfl) (by kernel_rfl) (by kernel_rfl) (by kernel_rfl)
    case hsteps =>
      refine ⟨?_, ?_, ?_, ?_, ?_, ?_, ?_, ?_, ?_, ?_, ?_, trivial⟩
      all_goals
        intro d ev w1 hext HJd Hanc Hdes hni hb hd
        replace Hanc := Bl.hid Hanc
        replace HJd := Bl.hid HJd
        replace Hdes := Bl.hid Hdes
        replace hni := Bl.hid hni
        have e14 := hb 14 (by decide)
        have e17 := hb 17 (by decide)
        clear hb
        simp only [Array.getD_eq_getD_getElem?, List.getElem?_toArray, List.getElem?_cons_succ, List.getElem?_cons_zero, Option.getD_some] at e14 e17
        simp only [Bl.DepsE2, List.getElem?_cons_succ, List.getElem?_cons_zero, Option.bind_some, List.getD_cons_succ, List.getD_cons_zero, Bl.eqv, and_true] at hd
        have b8 := hext.box HNe.out.2 HB8.out
        have c1 := b8.cell (i := 1) rfl
        have c2 := b8.cell (i := 2) rfl
        clear b8
        rw [if_pos (rfl : Region.wanted _ _ = true)]
        first
        | (have hr := Bl.HJ.get HJd.out hni.out; have q9 := hr.cell (List.getElem?_eq_getElem HlI1.out); have f9 := hr.fz HlI1.out; go_simp; first | exact ⟨(Bl.Kq.refl w1).setCell (Q := fun k => k = g) ⟨g, 1, none⟩ rfl _, Bl.HJ.set (hr.put HlI1.out _)⟩ | exact ⟨(Bl.Kq.refl w1).setCell (Q := fun k => k = g) ⟨g, 1, none⟩ rfl _, rfl, Bl.HJ.set (hr.put HlI1.out _)⟩) | (go_simp; exact ⟨Bl.Kq.refl _, rfl, Bl.HJ.same (by decide) HJd.out⟩)
        | (go_simp; first | exact ⟨Bl.Kq.refl _, rfl, Bl.HJ.same (by decide) HJd.out⟩ | exact ⟨Below.refl _ _, rfl, Bl.HJ.same (by decide) HJd.out⟩)
    case hmono => exact ⟨Bl.monoR_eqv _, Bl.monoR_eqv _, Bl.monoR_eqv _, Bl.monoR_eqv _, Bl.monoR_eqv _, Bl.monoR_eqv _, Bl.monoR_eqv _, Bl.monoR_eqv _, Bl.monoR_eqv _, Bl.monoR_eqv _, Bl.monoR_eqv _, trivial⟩
    case hR0 => exact Bl.Kq.drew _
    case hend =>
      intro u w1 hext hJ hend
      simp only [Bl.EndE, List.getElem?_cons_succ, List.getElem?_cons_zero, Option.bind_some, List.getD_cons_succ, List.getD_cons_zero, Bl.eqv, true_and] at hend
      simp only [Bl.fillAct, List.setIfInBounds_toArray, List.set_cons_succ, List.set_cons_zero, List.drop_succ_cons, List.drop_zero, hend]

      have hr := Bl.HJ.got hJ rfl
      have HK := Bl.hid hext
      have q1 := hr.cell (List.getElem?_eq_getElem (l := xs.set 1 (.slice pb1 nb1 cb1)) (i := 2) (by rw [List.length_set]; exact Hl1.out.1))
      have f1 := hr.fz (j := 2) (by rw [List.length_set]; exact Hl1.out.1)
      have HR2 : Hid (Bl.Pk (w1.setCell ⟨g, 2, none⟩ (.slice pb2 nb2 cb2)) W2.heap.size 3 (.slice (some ⟨g, 0, none⟩) n cap) n xs2) := Bl.hid (by rw [Hxs2.out]; exact hr.put (by rw [List.length_set]; exact Hl1.out.1) _)
      have HK2 : Hid (Bl.Kq (fun k => k = g) W5 (w1.setCell ⟨g, 2, none⟩ (.slice pb2 nb2 cb2))) := Bl.hid (hext.setCell (Q := fun k => k = g) ⟨g, 2, none⟩ rfl _)
      have HB9 := Bl.hid (HK2.out.box HNe.out.1 HB7.out)
      clear hext hJ hend hr
      go_wp2_with fail
      obtain ⟨wm, hwm⟩ : ∃ W, W = w1.setCell ⟨g, 2, none⟩ (.slice pb2 nb2 cb2) := ⟨_, rfl⟩
      rw [← hwm] at HR2 HK2 HB9 ⊢
      clear hwm q1 f1 HK
      apply Bl.wp_region_evK (Bl.Kq (fun k => k = g)) (Bl.HJ 10 (fun w' => Bl.Pk w' W2.heap.size 3 (.slice (some ⟨g, 0, none⟩) n cap) n xs2) (fun w' => Bl.Pk w' W2.heap.size 3 (.slice (some ⟨g, 0, none⟩) n cap) n (xs2.set (i * 3 + 1) (.slice pa1 na1 ca1)))) 13 [168, 169, 170, 171, 172, 173, 174, 175, 176, 177, 178, 179] [Bl.eqv _, Bl.eqv _, Bl.eqv _, Bl.eqv _, Bl.eqv _, Bl.eqv _, Bl.eqv _, Bl.eqv _, Bl.eqv _, Bl.eqv _, Bl.eqv _, Bl.eqv _, Bl.eqv _] (fun w => Bl.Kq.refl w) (fun a b c h k => Bl.Kq.trans h k) (by kernel_rfl) (by kernel_rfl) (by kernel_rfl) (by kernel_rfl)
      case hsteps =>
        refine ⟨?_, ?_, ?_, ?_, ?_, ?_, ?_, ?_, ?_, ?_, ?_, ?_, ?_, trivial⟩
        all_goals
          intro d ev w1 hext HJd Hanc Hdes hni hb hd
          replace Hanc := Bl.hid Hanc
          replace HJd := Bl.hid HJd
          replace Hdes := Bl.hid Hdes
          replace hni := Bl.hid hni
          have e13 := hb 13 (by decide)
          have e14 := hb 14 (by decide)
          have e16 := hb 16 (by decide)
          clear hb
          simp only [Array.getD_eq_getD_getElem?, List.getElem?_toArray, List.getElem?_cons_succ, List.getElem?_cons_zero, Option.getD_some] at e13 e14 e16
          simp only [Bl.DepsE2, List.getElem?_cons_succ, List.getElem?_cons_zero, Option.bind_some, List.getD_cons_succ, List.getD_cons_zero, Bl.eqv, and_true] at hd
          have b7 := hext.box HNe.out.1 HB9.out
          have c1 := b7.cell (i := 1) rfl
          have c2 := b7.cell (i := 2) rfl
          clear b7
          rw [if_pos (rfl : Region.wanted _ _ = true)]
          first
          | (have hr := Bl.HJ.get HJd.out hni.out; have q9 := hr.cell (List.getElem?_eq_getElem HlI2.out); have f9 := hr.fz HlI2.out; go_simp; first | exact ⟨(Bl.Kq.refl w1).setCell (Q := fun k => k = g) ⟨g, i * 3 + 1, none⟩ rfl _, Bl.HJ.set (hr.put HlI2.out _)⟩ | exact ⟨(Bl.Kq.refl w1).setCell (Q := fun k => k = g) ⟨g, i * 3 + 1, none⟩ rfl _, rfl, Bl.HJ.set (hr.put HlI2.out _)⟩) | (go_simp; exact ⟨Bl.Kq.refl _, rfl, Bl.HJ.same (by decide) HJd.out⟩)
          | (go_simp; first | exact ⟨Bl.Kq.refl _, rfl, Bl.HJ.same (by decide) HJd.out⟩ | exact ⟨Below.refl _ _, rfl, Bl.HJ.same (by decide) HJd.out⟩)
      case hmono => exact ⟨Bl.monoR_eqv _, Bl.monoR_eqv _, Bl.monoR_eqv _, Bl.monoR_eqv _, Bl.monoR_eqv _, Bl.monoR_eqv _, Bl.monoR_eqv _, Bl.monoR_eqv _, Bl.monoR_eqv _, Bl.monoR_eqv _, Bl.monoR_eqv _, Bl.monoR_eqv _, Bl.monoR_eqv _, trivial⟩
      case hR0 => exact Bl.Kq.drew _
      case hend =>
        intro u w1 hext hJ hend
        simp only [Bl.EndE, List.getElem?_cons_succ, List.getElem?_cons_zero, Option.bind_some, List.getD_cons_succ, List.getD_cons_zero, Bl.eqv, true_and] at hend
        simp only [Bl.fillAct, List.setIfInBounds_toArray, List.set_cons_succ, List.set_cons_zero, List.drop_succ_cons, List.drop_zero, hend]
        have hr := Bl.HJ.got hJ rfl
        have q1 := hr.cell (List.getElem?_eq_getElem (l := xs2.set (i * 3 + 1) (.slice pa1 na1 ca1)) (i := i * 3 + 2) (by rw [List.length_set]; exact Hl1.out.2))
        have f1 := hr.fz (j := i * 3 + 2) (by rw [List.length_set]; exact Hl1.out.2)
        have HRz : Hid (Bl.Pk (w1.setCell ⟨g, i * 3 + 2, none⟩ (.slice pa2 na2 ca2)) W2.heap.size 3 (.slice (some ⟨g, 0, none⟩) n cap) n (Bl.cellsR Bl.cS (Bl.swR L i))) := Bl.hid (by rw [← HSx.out]; exact hr.put (by rw [List.length_set]; exact Hl1.out.2) _)
        have HKg : Hid (Bl.Kq (fun k => k = g) W5 (w1.setCell ⟨g, i * 3 + 2, none⟩ (.slice pa2 na2 ca2))) := Bl.hid (HK2.out.trans (hext.setCell (Q := fun k => k = g) ⟨g, i * 3 + 2, none⟩ rfl _))
        have HKz : Hid (Bl.Kq (fun k => k = g ∨ w4.heap.size ≤ k) w4 (w1.setCell ⟨g, i * 3 + 2, none⟩ (.slice pa2 na2 ca2))) := Bl.hid ((Bl.Kq.of_ext HE5.out).trans (HKg.out.mono fun _ _ q => .inl q))
        clear hext hJ hend hr

        have HBy := Bl.hid (HKz.out.box (by have := HX.out; have := HG.out; omega) HB4.out)
        have HBRy := Bl.hid (HKz.out.box (by have := HX.out; have := HG.out; omega) HBR4.out)
        have q94 := HBy.out.cell (i := 4) (v := .slice ps n csn) rfl
        have f94 := HBy.out.fz (i := 4) (show 4 < 9 by decide)
        have HBz : Hid (Bl.BoxC ((w1.setCell ⟨g, i * 3 + 2, none⟩ (.slice pa2 na2 ca2)).setCell ⟨P, 4, none⟩ (.slice (some ⟨g, 0, none⟩) n cap)) P (Bl.cL { l with shown := Bl.bendS 3 i y l.shown } (.slice pp l.places.length cp) (.slice (some ⟨g, 0, none⟩) n cap) (.slice pb n3 cb))) := Bl.hid (HBy.out.put (i := 4) (show 4 < 9 by decide) (.slice (some ⟨g, 0, none⟩) n cap))
        have hKs : Bl.Kq (fun k => k = P) (w1.setCell ⟨g, i * 3 + 2, none⟩ (.slice pa2 na2 ca2)) ((w1.setCell ⟨g, i * 3 + 2, none⟩ (.slice pa2 na2 ca2)).setCell ⟨P, 4, none⟩ (.slice (some ⟨g, 0, none⟩) n cap)) := (Bl.Kq.refl (w1.setCell ⟨g, i * 3 + 2, none⟩ (.slice pa2 na2 ca2))).setCell (Q := fun k => k = P) ⟨P, 4, none⟩ rfl _
        have HFz : Hid (Bl.LtF (fun b => b < w.heap.size ∨ w.heap.size + 2 ≤ b) ((w1.setCell ⟨g, i * 3 + 2, none⟩ (.slice pa2 na2 ca2)).setCell ⟨P, 4, none⟩ (.slice (some ⟨g, 0, none⟩) n cap)) { l with shown := Bl.bendS 3 i y l.shown } (.slice pp l.places.length cp) (.slice (some ⟨g, 0, none⟩) n cap) (.slice pb n3 cb) (Bl.swR L i)) := Bl.hid (by
          have h := HF4.out.kept (w' := w1.setCell ⟨g, i * 3 + 2, none⟩ (.slice pa2 na2 ca2)) (F' := fun b => b < w.heap.size ∨ w.heap.size + 2 ≤ b) fun b hb hl => ⟨by omega, HKz.out.block b hl (by have := HX.out; have := HG.out; omega)⟩
          refine Bl.LtF.kept (F := fun b => b < w.heap.size ∨ w.heap.size + 2 ≤ b) (h.shn (vs2 := (.slice (some ⟨g, 0, none⟩) n cap)) (L2 := Bl.swR L i) ?_ ?_ ?_) fun b hb hl => ⟨hb, hKs.block b hl (by have := HX.out; omega)⟩
          · rw [Bl.swR_len, ← Hnn.out.1]
            exact Bl.RdsF.of_rds HRz.out.rds fun b hb _ => .inr (by have := (HRz.out.block b hb).1; have := HX.out; omega)
          · exact Bl.swapR_ok Hin.out.2.2.2 Hin.out.2.2.1 h.so
          · rw [HSp.out, HF4.out.sl]
            unfold Bl.bendS
            rw [if_neg (by decide), if_neg (by decide), if_pos rfl])
        have HBRz := Bl.hid (hKs.box (by have := HX.out; omega) HBRy.out)
        have HKw : Hid (Bl.Kq (fun k => w.heap.size ≤ k) w ((w1.setCell ⟨g, i * 3 + 2, none⟩ (.slice pa2 na2 ca2)).setCell ⟨P, 4, none⟩ (.slice (some ⟨g, 0, none⟩) n cap))) := Bl.hid ((((Bl.Kq.of_ext HE2.out).trans (Bl.Kq.of_ext HE4.out)).trans (HKz.out.mono fun k hk q => by have := HX.out; have := HG.out; omega)).trans (hKs.mono fun k hk q => by have := HX.out; omega))
        clear hKs HKz
        have HKz := HKw

        have Hl9 := Bl.hid (HBz.out.load (P := Tryd.prog) Tryd.underlying33 rfl (by kernel_rfl))
        have hone9 := HFz.out.ltc.one
        have Hst9 := Bl.hid (HBRz.out.store (P := Tryd.prog) (cs' := Bl.cL ({ l with shown := Bl.bendS 3 i y l.shown }) (.slice pp l.places.length cp) (.slice (some ⟨g, 0, none⟩) n cap) (.slice pb n3 cb)) rfl hone9 (ty := 33) (by kernel_rfl))
        have HBR9 := Bl.hid (HBRz.out.set (cs' := Bl.cL ({ l with shown := Bl.bendS 3 i y l.shown }) (.slice pp l.places.length cp) (.slice (some ⟨g, 0, none⟩) n cap) (.slice pb n3 cb)) rfl)
        have HK9 := Bl.hid ((Bl.Kq.refl ((w1.setCell ⟨g, i * 3 + 2, none⟩ (.slice pa2 na2 ca2)).setCell ⟨P, 4, none⟩ (.slice (some ⟨g, 0, none⟩) n cap))).setCells (Q := fun k => k = R) rfl 0 (Bl.cL ({ l with shown := Bl.bendS 3 i y l.shown }) (.slice pp l.places.length cp) (.slice (some ⟨g, 0, none⟩) n cap) (.slice pb n3 cb)))
        have HE9 := Bl.hid (HKz.out.trans (HK9.out.mono (Q' := fun k => w.heap.size ≤ k) fun k hk q => by have := HX.out; omega))
        clear hone9
        go_wp2_with (with_reducible refine Bl.stop_load (ty := 33) ?_)
        refine Bl.go_on ?_
        refine Bl.wpL_load rfl Hl9.out ?_
        go_wp2_with (with_reducible refine Bl.stop_store (ty := 33) ?_)
        refine Bl.go_on ?_
        refine Bl.wpL_store0 rfl rfl Hst9.out ?_
        go_wp2_with fail
        refine bodyPost_ret (v := .tuple #[.agg (Bl.cL ({ l with shown := Bl.bendS 3 i y l.shown }) (.slice pp l.places.length cp) (.slice (some ⟨g, 0, none⟩) n cap) (.slice pb n3 cb)).toArray, .bool true]) (Bl.results_cell2 rfl rfl (HBR9.out.loadVar (P := Tryd.prog) Tryd.underlying33 rfl (by kernel_rfl)) rfl) rfl ?_
        have hsp := HBd.out
        unfold Bl.BeR
        rw [hsp]
        exact ⟨_, rfl, ⟨_, _, _, _, _, rfl, (HFz.out.kept (F' := fun _ => True) fun k hk hlk => ⟨trivial, HK9.out.block k hlk (by have := HX.out; omega)⟩).ltc⟩, HE9.out.ext fun k q => q⟩
      case hJ0 => exact Bl.HJ.start (HR2.out.kept (fun _ _ => rfl) (Nat.le_refl _))
    case hJ0 => exact Bl.HJ.start (HRv.out.kept (fun _ _ => rfl) (Nat.le_refl _))
  case hJ0 => exact Bl.JT.start (Nat.le_of_eq HBB.out)
end Go.Proofs.YtmmolapkddbibaaDoor

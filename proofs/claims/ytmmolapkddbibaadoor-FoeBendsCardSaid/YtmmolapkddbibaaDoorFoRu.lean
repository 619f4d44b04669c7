/- Texts that stood apart, in one: FoeRs4, FoeRb. -/
import Derived.Test.YtmmolapkddbibaaDoorFoR
import Derived.Test.YtmmolapkddbibaaDoorFo0
import Derived.Test.YtmmolapkddbibaaDoorLDs
import Derived.Test.YtmmolapkddbibaaDoorLet2b
/- Walk of baileeref29.Bend. -/
namespace Go.Proofs.YtmmolapkddbibaaDoor
open Go Go.RowKit Go.Proofs

set_option maxRecDepth 100000 in
set_option maxHeartbeats 8000000 in
theorem refbs4 (at' y : Int) (v : Value) (l : Bl.LT) (w : World) (h : Bl.LtV w v l) (hLg : Bl.LgL l) (hid : -1125899906842624 ≤ l.id ∧ l.id ≤ 1125899906842624) (h4 : l.kind = 4) (h0 : 0 < l.shown.length) :
    Calls Tryd.prog 11 #[v, .int .i64 4, .int .i64 at', .int .i64 y] w fun e w' => Bl.BeR 4 at' y l w e w' := by
  obtain ⟨cs0, vp, vs, vb, L, rfl, hc⟩ := h
  obtain rfl := hc.eq
  obtain ⟨pp, cp, hvp, _, _⟩ := hc.pl.form
  obtain ⟨ps, csn, hvs, _, _⟩ := hc.sh.rd.form
  obtain ⟨pb, cb, hvb, _, _⟩ := hc.bl.form
  have HLg := Bl.hid hLg
  have hls : L.length = l.shown.length := by have := congrArg List.length hc.sl; simpa using this
  obtain ⟨n, hn⟩ : ∃ z, z = L.length := ⟨_, rfl⟩
  obtain ⟨n3, hn3⟩ : ∃ z, z = l.blocks.length := ⟨_, rfl⟩
  rw [← hn] at hvs hls
  rw [← hn3] at hvb
  have Hnn : Hid (n = L.length ∧ n = l.shown.length ∧ n3 = l.blocks.length ∧ n ≤ 30 ∧ n3 ≤ 600) := Bl.hid ⟨hn, hls, hn3, by rw [hls]; exact hLg.sh, by rw [hn3]; exact hLg.bl⟩
  obtain ⟨P, hP⟩ : ∃ z, z = w.heap.size := ⟨_, rfl⟩
  obtain ⟨R, hR⟩ : ∃ z, z = w.heap.size + 1 := ⟨_, rfl⟩
  obtain ⟨W2, hW2⟩ : ∃ W, W = (w.alloc (.cells (Bl.cL l vp vs vb).toArray 33)).alloc (.cells Bl.zL 33) := ⟨_, rfl⟩
  have hs1 : (w.alloc (.cells (Bl.cL l vp vs vb).toArray 33)).heap.size = w.heap.size + 1 := World.size_alloc _ _
  have hs2 : W2.heap.size = w.heap.size + 1 + 1 := by rw [hW2, World.size_alloc, hs1]
  have hE2 : Bl.Ext w W2 := by rw [hW2]; exact (Bl.ext_alloc _ _).trans (Bl.ext_alloc _ _)
  have hBP : Bl.BoxC W2 P (Bl.cL l vp vs vb) := by
    rw [hW2, hP]; exact (Bl.BoxC.box w 33 (Bl.cL_ne _ _ _ _)).ext (Bl.ext_alloc _ _)
  have hBR : Bl.BoxC W2 R Bl.zL.toList := by
    have h := Bl.BoxC.box (cs := Bl.zL.toList) (w.alloc (.cells (Bl.cL l vp vs vb).toArray 33)) 33 (fun q => by cases q)
    rw [hs1, ← hR] at h
    rw [hW2]; exact h
  have HX : Hid (P = w.heap.size ∧ R = w.heap.size + 1 ∧ W2.heap.size = w.heap.size + 2) := Bl.hid ⟨hP, hR, hs2⟩
  have HE2 := Bl.hid hE2
  have HBP := Bl.hid hBP
  have HBR := Bl.hid hBR
  have HF2 : Hid (Bl.LtF (fun b => b < w.heap.size ∨ w.heap.size + 2 ≤ b) W2 l vp vs vb L) := Bl.hid ((Bl.LtF.of_ltc hc).kept fun b hb hl => ⟨.inl hb, hE2.block b hl⟩)
  have q0 := hBP.cell (i := 0) (v := .int .i64 l.kind) rfl
  have q4 := hBP.cell (i := 4) (v := vs) rfl
  have q7 := hBP.cell (i := 7) (v := vb) rfl
  have q1 := hBP.cell (i := 1) (v := .int .i64 l.id) rfl
  have q2 := hBP.cell (i := 2) (v := .int .i64 l.obj) rfl
  have Hid' := Bl.hid hid
  unfold Bl.cL at hW2
  clear hs1 hs2 hE2 hBP hBR hc hLg hid hls hn hn3
  subst hvs hvb hvp
  show Calls Tryd.prog 11 #[.agg #[.int .i64 l.kind, .int .i64 l.id, .int .i64 l.obj, .slice pp l.places.length cp, .slice ps n csn, .int .i64 l.frm, .int .i64 l.cnt, .slice pb n3 cb, .int .i64 l.code], .int .i64 4, .int .i64 at', .int .i64 y] w _
  have H4 := Bl.hid h4
  rw [h4] at q0
  have h0n : 0 < n := by rw [Hnn.out.2.1]; exact h0
  obtain ⟨i, hi, e1, e2⟩ := Bl.emod_nat at' h0n
  have HBd : Hid (Bl.bendL 4 at' y l = ({ l with shown := Bl.bendS 4 i y l.shown }, true)) := Bl.hid (by
    rw [Bl.bendL_sh (by decide) (by decide) (by decide) (by decide) (fun q => by have := q.2.1; omega)]
    unfold Bl.bendA
    rw [if_pos ⟨h4, h0⟩, ← Hnn.out.2.1, e2])
  have HR : Hid (∀ w2, Calls Tryd.prog 32 #[.int .i64 at', .int .i64 n] w2 fun e w' => e = .returned (.int .i64 (i : Nat)) ∧ w2 = w') := Bl.hid fun w2 => by
    have h := refrest_any at' n w2 (by omega) (by have := Hnn.out; omega)
    rw [e1] at h
    exact h
  have hi0 : (0 : Int) ≤ (i : Int) := by omega
  have hi1 : (i : Int) < (n : Int) := by omega
  have hn2 : ¬ ((n : Int) = 0) := by omega
  have hn3 : ¬ (n = 0) := by omega
  have hn4 : (n : Int) ≤ 30 := by have := Hnn.out; omega
  have Hin : Hid (i < n ∧ 0 < n ∧ i < L.length ∧ 0 < L.length) := Bl.hid ⟨hi, h0n, by rw [← Hnn.out.1]; exact hi, by rw [← Hnn.out.1]; exact h0n⟩
  clear e1 e2 hi h0 h4 h0n

  go_enter Tryd.func11, Tryd.ntmps11
  go_wp2_with (with_reducible refine Bl.stop_load (ty := 31) ?_)
  refine Bl.go_on ?_
  rw [← hW2, ← hR, ← hP]
  clear hW2 hR hP

  go_wp2_with fail
  refine (HR.out W2).mono ?_
  rintro e w3 ⟨rfl, hw3⟩
  subst hw3
  have hEe : Bl.Ext W2 (W2.alloc (.cells #[] 68)) := Bl.ext_alloc _ _
  have Ho : Hid ((W2.alloc (.cells #[] 68)).ownsRow W2.heap.size 68 3 (.slice (some ⟨W2.heap.size, 0, none⟩) 0 0) 0 []) := Bl.hid (Bl.owns_new W2 68 #[] W2.heap.size 0 3 (Nat.le_refl _) (by decide) rfl)
  have Hrd : Hid (Bl.Rds (W2.alloc (.cells #[] 68)) (.slice ps n csn) n (Bl.cellsR Bl.cS L)) := Bl.hid (by have h := HF2.out.sh.rds; rw [← Hnn.out.1] at h; exact h.ext hEe)
  have qe4 := (HBP.out.ext hEe).cell (i := 4) (v := .slice ps n csn) rfl
  have Hone : Hid (∀ c ∈ Bl.cellsR Bl.cS L, c.oneCell' = true) := Bl.hid (Bl.cellsR_cell fun x hx => Bl.cS_one (HF2.out.so x hx).ok)
  have Hcl : Hid ((Bl.cellsR Bl.cS L).length = n * 3) := Bl.hid (by rw [Bl.cellsS_len, ← Hnn.out.1])
  clear hEe
  go_wp2_with (with_reducible refine Bl.stop_append ?_)
  refine Bl.go_on ?_
  refine Bl.wpL_app tShR Ho.out Hrd.out rfl rfl Hcl.out Hone.out (by unfold maxLen; omega) (by omega) (by simp) ?_
  intro p4 cap w4 hown hg hB hK hn1 hc1
  rw [Nat.zero_add] at hown hn1 ⊢
  rw [List.nil_append] at hown
  have hE4 : Bl.Ext W2 w4 := Below.trans (Bl.ext_alloc _ _) hB
  obtain ⟨g, cap0, hf, hg1, hg2, hg3, hg4, hrg0⟩ := (Bl.Pq.of_owns hown).1.form Hin.out.2.1
  injection hf with hf1 hf3 hf2
  subst hf1 hf2
  clear hf3
  have HRg0 := Bl.hid hrg0
  clear hrg0
  have HRw := Bl.hid (Bl.Pq.of_owns hown).1
  have HE4 := Bl.hid hE4
  have HB4 := Bl.hid (HBP.out.ext hE4)
  have HBR4 := Bl.hid (HBR.out.ext hE4)
  have HF4 : Hid (Bl.LtF (fun b => b < w.heap.size ∨ w.heap.size + 2 ≤ b ∧ b ≠ g) w4 l (.slice pp l.places.length cp) (.slice ps n csn) (.slice pb n3 cb) L) := Bl.hid (((Bl.LtF.kept (F' := fun b => b < W2.heap.size ∧ (b < w.heap.size ∨ w.heap.size + 2 ≤ b)) HF2.out fun b hb hl => ⟨⟨hl, hb⟩, rfl⟩)).kept fun b hb hl => ⟨by rcases hb.2 with q | q; exact .inl q; exact .inr ⟨q, by omega⟩, hE4.block b hb.1⟩)
  have HG : Hid (W2.heap.size ≤ g ∧ g < w4.heap.size ∧ n ≤ cap ∧ cap ≤ maxLen ∧ w.heap.size + 2 ≤ g ∧ P ≠ g ∧ R ≠ g) := Bl.hid ⟨hg1, hg2, hg3, hg4, by have := HX.out; omega, by have := HX.out; omega, by have := HX.out; omega⟩
  have HgetL : Hid (∀ j, j < 3 → (Bl.cellsR Bl.cS L)[i * 3 + j]? = (Bl.cS (L.getD i Bl.s0))[j]?) := Bl.hid fun j hj => Bl.cellsR_get Bl.cS_len Bl.s0 j hj L i Hin.out.2.2.1
  have HpS : Hid (Bl.plS (L.getD i Bl.s0) = l.shown.getD i Bl.h0) := Bl.hid (by rw [← Bl.plS_getD, HF2.out.sl])
  have hn5 : (n : Int) ≤ (cap : Int) := by omega
  clear hown hg hB hK hn1 hc1 hE4 hg1 hg2 hg3 hg4 Ho Hrd q0 q1 q2 q4 q7 qe4
  by_cases hn7 : 1 < n
  · have hn6 : (1 : Int) < (n : Int) := by omega
    have Hn7 := Bl.hid hn7
    obtain ⟨m, hm⟩ : ∃ m, n = i + 1 + m := ⟨n - (i + 1), by have := Hin.out; omega⟩
    obtain ⟨A, hA⟩ : ∃ z, z = Bl.cellsR Bl.cS (L.take i) := ⟨_, rfl⟩
    obtain ⟨C, hC⟩ : ∃ z, z = Bl.cellsR Bl.cS (L.drop (i + 1)) := ⟨_, rfl⟩
    have HAC : Hid (A ++ C = Bl.cellsR Bl.cS (L.eraseIdx i)) := Bl.hid (by rw [Bl.eraseIdx_cells, hA, hC])
    have HAl : Hid (A.length = i * 3) := Bl.hid (by rw [hA, Bl.cellsS_len, List.length_take, Nat.min_eq_left (by have := Hin.out; omega)])
    have HCl : Hid (C.length = m * 3) := Bl.hid (by rw [hC, Bl.cellsS_len, List.length_drop, ← Hnn.out.1]; omega)
    have hdr := Bl.cellsR_drop (s := 3) (f := Bl.cS) (fun x _ => Bl.cS_len x) (i + 1) (L := L)
    have htk := Bl.cellsR_take (s := 3) (f := Bl.cS) (fun x _ => Bl.cS_len x) i (L := L)
    have HAo : Hid (∀ c ∈ A, c.oneCell' = true) := Bl.hid fun c hc => by
      rw [hA, ← htk] at hc
      exact Hone.out c (List.mem_of_mem_take hc)
    have HCo : Hid (∀ c ∈ C, c.oneCell' = true) := Bl.hid fun c hc => by
      rw [hC, ← hdr] at hc
      exact Hone.out c (List.mem_of_mem_drop hc)
    have HSa : Hid (∀ w2, Bl.Ext w4 w2 → w2.rangeAt g 0 A) := Bl.hid fun w2 h2 => by
      have h := Bl.rangeAt_take (Bl.rangeAt_ext HRg0.out h2) (i * 3)
      rw [htk, ← hA] at h
      exact h
    have HSc : Hid (∀ w2, Bl.Ext w4 w2 → w2.rangeAt g ((i + 1) * 3) C) := Bl.hid fun w2 h2 => by
      have h := Bl.rangeAt_drop (Bl.rangeAt_ext HRg0.out h2) ((i + 1) * 3)
      rw [hdr, ← hC, Nat.zero_add] at h
      exact h
    obtain ⟨BB, hBB⟩ : ∃ z, z = w4.heap.size := ⟨_, rfl⟩
    have HBB := Bl.hid hBB
    have HKB : Hid (i ≤ 30 ∧ i + m ≤ 30) := Bl.hid (by have := Hnn.out; have := Hin.out; omega)
    have Hm := Bl.hid hm
    have h1 : (i : Int) + 1 ≤ (i : Int) + 1 + (m : Int) := by omega
    have h2 : (i : Int) + 1 + (m : Int) ≤ (cap : Int) := by have := HG.out; omega
    have h3 : (i : Int) + 1 + (m : Int) ≤ 30 := by have := Hnn.out; omega
    have h4 : (0 : Int) ≤ (i : Int) + 1 := by omega
    have h5 : i ≤ cap := by have := HG.out; omega
    have h6 : (i : Int) ≤ (cap : Int) := by omega
    clear hA hC hdr htk hBB hn7 hn5 hn4 hn6 hn2 hn3 hi1
    subst hm
    have hn6 : (1 : Int) < (i : Int) + 1 + (m : Int) := by have := Hn7.out; omega
    have hn2 : ¬ ((i : Int) + 1 + (m : Int) = 0) := by omega
    have hi1 : (i : Int) < (i : Int) + 1 + (m : Int) := by omega
    have hw : IntKind.i64.wrap ((i : Int) + 1) = (i : Int) + 1 := Bl.wr63 _ (by omega) (by omega)
    by_cases hc : cap = i + 1
    · obtain rfl : m = 0 := by omega
      subst hc
      have HC0 : Hid (C = []) := Bl.hid (List.length_eq_zero_iff.1 (by have := HCl.out; omega))
      have HSz : Hid (∀ w2 : World, w2.rangeAt g 0 C) := Bl.hid fun w2 => by
        rw [HC0.out]
        exact fun j u hu => by simp at hu
      have h7 : (i : Int) + 1 ≤ 30 := by omega
      have h8 : (i : Int) ≤ (i : Int) + 1 := by omega
      clear h1 h2 h3 h6

      go_wp2_with fail
      apply Bl.wp_region_evK (fun a b => Below BB a b) (Bl.JC BB i 0 A C) 10 [186, 187, 188, 189, 190, 191, 192, 193, 194, 195] [Bl.anyv, Bl.eqv _, Bl.eqv _, Bl.eqv _, Bl.anyv, Bl.eqv _, Bl.eqv _, Bl.eqv _, Bl.eqv _, Bl.anyv] (fun w => Below.refl _ w) (fun a b c h k => Below.trans h k) (by kernel_rfl) (by kernel_rfl) (by kernel_rfl) (by kernel_rfl)
      case hsteps =>
        refine ⟨?_, ?_, ?_, ?_, ?_, ?_, ?_, ?_, ?_, ?_, trivial⟩
        all_goals
          intro d ev w1 hext HJd Hanc Hdes hni hb hd
          replace Hanc := Bl.hid Hanc
          replace HJd := Bl.hid HJd
          replace Hdes := Bl.hid Hdes
          replace hni := Bl.hid hni
          have e13 := hb 13 (by decide)
          have e14 := hb 14 (by decide)
          clear hb
          simp only [Array.getD_eq_getD_getElem?, List.getElem?_toArray, List.getElem?_cons_succ, List.getElem?_cons_zero, Option.getD_some] at e13 e14
          simp only [Bl.DepsE2, List.getElem?_cons_succ, List.getElem?_cons_zero, Option.bind_some, List.getD_cons_succ, List.getD_cons_zero, Bl.eqv, and_true] at hd
          have hc := (Bl.bcell hext).1
          have hE : Bl.Ext w4 w1 := by rw [Bl.Ext, ← HBB.out]; exact hext
          simp only [Region.wanted, if_true]
          first
          | (have hp := HJd.out.a (Hanc.out 0 (by kernel_rfl)) hni.out; (with_reducible refine Bl.goodX_append0 (m := i) (c := i + 1) (b := g) (o := 0) tShR hp (HSa.out w1 hE) HAl.out HAo.out ?_ ?_ HJd.out.le ?_ ?_ ?_); (unfold maxLen; have := HKB.out; omega); (have := HKB.out; omega); rfl; exact (by first | exact hd | exact hd.2 | exact hd.1.2 | exact hd.1.1.2 | exact hd.1.1.1.2 | exact hd.1.1.1.1.2 | exact hd.1.1.1.1.1.2 | exact hd.1.1.1.1.1.1.2 | exact hd.1.1.1.1.1.1.1.2 | exact hd.1.1.1.1.1.1.1.1.2 | exact hd.1.1.1.1.1.1.1.1.1.2 | exact hd.1.1.1.1.1.1.1.1.1.1.2 | exact hd.1.1.1.1.1.1.1.1.1.1.1.2 | exact hd.1.1.1.1.1.1.1.1.1.1.1.1.2 | exact hd.1.1.1.1.1.1.1.1.1.1.1.1.1.2 | exact hd.1 | exact hd.1.1 | exact hd.1.1.1 | exact hd.1.1.1.1 | exact hd.1.1.1.1.1 | exact hd.1.1.1.1.1.1 | exact hd.1.1.1.1.1.1.1 | exact hd.1.1.1.1.1.1.1.1 | exact hd.1.1.1.1.1.1.1.1.1 | exact hd.1.1.1.1.1.1.1.1.1.1 | exact hd.1.1.1.1.1.1.1.1.1.1.1 | exact hd.1.1.1.1.1.1.1.1.1.1.1.1 | exact hd.1.1.1.1.1.1.1.1.1.1.1.1.1 | exact hd.2.1 | exact hd.2.2.1 | exact hd.2.2.2.1 | exact hd.2.2.2.2.1 | exact hd.2.2.2.2.2.1 | exact hd.2.2.2.2.2.2.1 | exact hd.2.2.2.2.2.2.2.1 | exact hd.2.2.2.2.2.2.2.2.1 | exact hd.2.2.2.2.2.2.2.2.2.1 | exact hd.2.2.2.2.2.2.2.2.2.2.1 | exact hd.2.2.2.2.2.2.2.2.2.2.2.1 | exact hd.2.2.2.2.2.2.2.2.2.2.2.2.1 | exact hd.2.2.2.2.2.2.2.2.2.2.2.2.2.1); exact fun v' w' k1 k2 => ⟨hp.grownB HJd.out.le k2, trivial, HJd.out.app1 (Hdes.out 9 (by kernel_rfl)) k1 (hp.grownB HJd.out.le k2)⟩) | (have hp := HJd.out.b (Hanc.out 4 (by kernel_rfl)) hni.out; (with_reducible refine Bl.goodX_append0 (m := 0) (c := 0) (b := g) (o := 0) tShR hp (HSz.out w1) HCl.out HCo.out ?_ ?_ HJd.out.le ?_ ?_ ?_); (unfold maxLen; have := HKB.out; omega); (have := HKB.out; omega); rfl; exact (by first | exact hd | exact hd.2 | exact hd.1.2 | exact hd.1.1.2 | exact hd.1.1.1.2 | exact hd.1.1.1.1.2 | exact hd.1.1.1.1.1.2 | exact hd.1.1.1.1.1.1.2 | exact hd.1.1.1.1.1.1.1.2 | exact hd.1.1.1.1.1.1.1.1.2 | exact hd.1.1.1.1.1.1.1.1.1.2 | exact hd.1.1.1.1.1.1.1.1.1.1.2 | exact hd.1.1.1.1.1.1.1.1.1.1.1.2 | exact hd.1.1.1.1.1.1.1.1.1.1.1.1.2 | exact hd.1.1.1.1.1.1.1.1.1.1.1.1.1.2 | exact hd.1 | exact hd.1.1 | exact hd.1.1.1 | exact hd.1.1.1.1 | exact hd.1.1.1.1.1 | exact hd.1.1.1.1.1.1 | exact hd.1.1.1.1.1.1.1 | exact hd.1.1.1.1.1.1.1.1 | exact hd.1.1.1.1.1.1.1.1.1 | exact hd.1.1.1.1.1.1.1.1.1.1 | exact hd.1.1.1.1.1.1.1.1.1.1.1 | exact hd.1.1.1.1.1.1.1.1.1.1.1.1 | exact hd.1.1.1.1.1.1.1.1.1.1.1.1.1 | exact hd.2.1 | exact hd.2.2.1 | exact hd.2.2.2.1 | exact hd.2.2.2.2.1 | exact hd.2.2.2.2.2.1 | exact hd.2.2.2.2.2.2.1 | exact hd.2.2.2.2.2.2.2.1 | exact hd.2.2.2.2.2.2.2.2.1 | exact hd.2.2.2.2.2.2.2.2.2.1 | exact hd.2.2.2.2.2.2.2.2.2.2.1 | exact hd.2.2.2.2.2.2.2.2.2.2.2.1 | exact hd.2.2.2.2.2.2.2.2.2.2.2.2.1 | exact hd.2.2.2.2.2.2.2.2.2.2.2.2.2.1); exact fun v' w' k1 k2 => ⟨hp.grownB HJd.out.le k2, trivial, HJd.out.app2 (Hanc.out 4 (by kernel_rfl)) k1 (hp.grownB HJd.out.le k2)⟩)
          | (go_simp; first | exact ⟨Below.refl _ _, rfl, HJd.out.same (by decide)⟩ | exact ⟨Bl.below_alloc _ _ HJd.out.le, trivial, HJd.out.new (Hdes.out 4 (by kernel_rfl)) (Hdes.out 9 (by kernel_rfl))⟩ | exact ⟨Below.refl _ _, rfl, Bl.HJ.same (by decide) HJd.out⟩)
      case hmono => exact ⟨Bl.monoR_anyv, Bl.monoR_eqv _, Bl.monoR_eqv _, Bl.monoR_eqv _, Bl.monoR_anyv, Bl.monoR_eqv _, Bl.monoR_eqv _, Bl.monoR_eqv _, Bl.monoR_eqv _, Bl.monoR_anyv, trivial⟩
      case hR0 => exact (Below.refl _ _).drew
      case hend =>
        intro u w1 hext hJ hend
        simp only [Bl.EndE, List.getElem?_cons_succ, List.getElem?_cons_zero, Option.bind_some, List.getD_cons_succ, List.getD_cons_zero, Bl.eqv, true_and] at hend
        simp only [Bl.fillAct, List.setIfInBounds_toArray, List.set_cons_succ, List.set_cons_zero, List.drop_succ_cons, List.drop_zero, hend]
        have hp := hJ.c rfl
        obtain ⟨g2, c2, hf2, hq1, hq2, hq3, hq4, _⟩ := hp.form (by have := Hn7.out; omega)
        rw [hf2] at hp ⊢
        have hE1 : Bl.Ext w4 w1 := by rw [Bl.Ext, ← HBB.out]; exact hext
        have HRz : Hid (Bl.Pk w1 W2.heap.size 3 (.slice (some ⟨g2, 0, none⟩) (i + 0) c2) (i + 0) (Bl.cellsR Bl.cS (L.eraseIdx i))) := Bl.hid (by rw [← HAC.out]; exact hp.mono (by have := HBB.out; have := HG.out; omega))
        have HKz : Hid (Bl.Kq (fun k => k = g ∨ w4.heap.size ≤ k) w4 w1) := Bl.hid (Bl.Kq.of_ext hE1)
        have HEl : Hid ((L.eraseIdx i).length = i + 0) := Bl.hid (by rw [List.length_eraseIdx_of_lt (by have := Hin.out; omega), ← Hnn.out.1]; omega)
        have hc2 : (i : Int) + (0 : Int) ≤ (c2 : Int) := by omega
        clear hp hf2 hq1 hq2 hq3 hq4 hE1 hJ hend hext
        have HBy := Bl.hid (HKz.out.box (by have := HX.out; have := HG.out; omega) HB4.out)
        have HBRy := Bl.hid (HKz.out.box (by have := HX.out; have := HG.out; omega) HBR4.out)
        have q94 := HBy.out.cell (i := 4) (v := .slice ps (i + 1 + 0) csn) rfl
        have f94 := HBy.out.fz (i := 4) (show 4 < 9 by decide)
        have HBz : Hid (Bl.BoxC ((w1).setCell ⟨P, 4, none⟩ (.slice (some ⟨g2, 0, none⟩) (i + 0) c2)) P (Bl.cL { l with shown := Bl.bendS 4 i y l.shown } (.slice pp l.places.length cp) (.slice (some ⟨g2, 0, none⟩) (i + 0) c2) (.slice pb n3 cb))) := Bl.hid (HBy.out.put (i := 4) (show 4 < 9 by decide) (.slice (some ⟨g2, 0, none⟩) (i + 0) c2))
        have hKs : Bl.Kq (fun k => k = P) (w1) ((w1).setCell ⟨P, 4, none⟩ (.slice (some ⟨g2, 0, none⟩) (i + 0) c2)) := (Bl.Kq.refl (w1)).setCell (Q := fun k => k = P) ⟨P, 4, none⟩ rfl _
        have HFz : Hid (Bl.LtF (fun b => b < w.heap.size ∨ w.heap.size + 2 ≤ b) ((w1).setCell ⟨P, 4, none⟩ (.slice (some ⟨g2, 0, none⟩) (i + 0) c2)) { l with shown := Bl.bendS 4 i y l.shown } (.slice pp l.places.length cp) (.slice (some ⟨g2, 0, none⟩) (i + 0) c2) (.slice pb n3 cb) (L.eraseIdx i)) := Bl.hid (by
          have h := HF4.out.kept (w' := w1) (F' := fun b => b < w.heap.size ∨ w.heap.size + 2 ≤ b) fun b hb hl => ⟨by omega, HKz.out.block b hl (by have := HX.out; have := HG.out; omega)⟩
          refine Bl.LtF.kept (F := fun b => b < w.heap.size ∨ w.heap.size + 2 ≤ b) (h.shn (vs2 := (.slice (some ⟨g2, 0, none⟩) (i + 0) c2)) (L2 := L.eraseIdx i) ?_ ?_ ?_) fun b hb hl => ⟨hb, hKs.block b hl (by have := HX.out; omega)⟩
          · rw [HEl.out]
            exact Bl.RdsF.of_rds HRz.out.rds fun b hb _ => .inr (by have := (HRz.out.block b hb).1; have := HX.out; omega)
          · exact fun x hx => h.so x (List.mem_of_mem_eraseIdx hx)
          · unfold Bl.bendS
            rw [if_neg (by decide), if_neg (by decide), if_neg (by decide), if_pos rfl, if_pos (by rw [← HF4.out.sl, List.length_map, ← Hnn.out.1]; exact Hn7.out), ← HF4.out.sl]
            rw [List.eraseIdx_eq_take_drop_succ, List.eraseIdx_eq_take_drop_succ, List.map_append, List.map_take, List.map_drop])
        have HBRz := Bl.hid (hKs.box (by have := HX.out; omega) HBRy.out)
        have HKw : Hid (Bl.Kq (fun k => w.heap.size ≤ k) w ((w1).setCell ⟨P, 4, none⟩ (.slice (some ⟨g2, 0, none⟩) (i + 0) c2))) := Bl.hid ((((Bl.Kq.of_ext HE2.out).trans (Bl.Kq.of_ext HE4.out)).trans (HKz.out.mono fun k hk q => by have := HX.out; have := HG.out; omega)).trans (hKs.mono fun k hk q => by have := HX.out; omega))
        clear hKs HKz
        have HKz := HKw

        have Hl9 := Bl.hid (HBz.out.load (P := Tryd.prog) Tryd.underlying33 rfl (by kernel_rfl))
        have hone9 := HFz.out.ltc.one
        have Hst9 := Bl.hid (HBRz.out.store (P := Tryd.prog) (cs' := Bl.cL ({ l with shown := Bl.bendS 4 i y l.shown }) (.slice pp l.places.length cp) (.slice (some ⟨g2, 0, none⟩) (i + 0) c2) (.slice pb n3 cb)) rfl hone9 (ty := 33) (by kernel_rfl))
        have HBR9 := Bl.hid (HBRz.out.set (cs' := Bl.cL ({ l with shown := Bl.bendS 4 i y l.shown }) (.slice pp l.places.length cp) (.slice (some ⟨g2, 0, none⟩) (i + 0) c2) (.slice pb n3 cb)) rfl)
        have HK9 := Bl.hid ((Bl.Kq.refl ((w1).setCell ⟨P, 4, none⟩ (.slice (some ⟨g2, 0, none⟩) (i + 0) c2))).setCells (Q := fun k => k = R) rfl 0 (Bl.cL ({ l with shown := Bl.bendS 4 i y l.shown }) (.slice pp l.places.length cp) (.slice (some ⟨g2, 0, none⟩) (i + 0) c2) (.slice pb n3 cb)))
        have HE9 := Bl.hid (HKz.out.trans (HK9.out.mono (Q' := fun k => w.heap.size ≤ k) fun k hk q => by have := HX.out; omega))
        clear hone9
        go_wp2_with (with_reducible refine Bl.stop_load (ty := 33) ?_)
        refine Bl.go_on ?_
        refine Bl.wpL_load rfl Hl9.out ?_
        go_wp2_with (with_reducible refine Bl.stop_store (ty := 33) ?_)
        refine Bl.go_on ?_
        refine Bl.wpL_store0 rfl rfl Hst9.out ?_
        go_wp2_with fail
        refine bodyPost_ret (v := .tuple #[.agg (Bl.cL ({ l with shown := Bl.bendS 4 i y l.shown }) (.slice pp l.places.length cp) (.slice (some ⟨g2, 0, none⟩) (i + 0) c2) (.slice pb n3 cb)).toArray, .bool true]) (Bl.results_cell2 rfl rfl (HBR9.out.loadVar (P := Tryd.prog) Tryd.underlying33 rfl (by kernel_rfl)) rfl) rfl ?_
        have hsp := HBd.out
        unfold Bl.BeR
        rw [hsp]
        exact ⟨_, rfl, ⟨_, _, _, _, _, rfl, (HFz.out.kept (F' := fun _ => True) fun k hk hlk => ⟨trivial, HK9.out.block k hlk (by have := HX.out; omega)⟩).ltc⟩, HE9.out.ext fun k q => q⟩
      case hJ0 => exact Bl.JC.start (Nat.le_of_eq HBB.out)
    · have h9 : ¬ (cap - (i + 1) = 0) := by omega

      go_wp2_with fail
      apply Bl.wp_region_evK (fun a b => Below BB a b) (Bl.JC BB i m A C) 10 [186, 187, 188, 189, 190, 191, 192, 193, 194, 195] [Bl.anyv, Bl.eqv _, Bl.eqv _, Bl.eqv _, Bl.anyv, Bl.eqv _, Bl.eqv _, Bl.eqv _, Bl.eqv _, Bl.anyv] (fun w => Below.refl _ w) (fun a b c h k => Below.trans h k) (by kernel_rfl) (by kernel_rfl) (by kernel_rfl) (by kernel_rfl)
      case hsteps =>
        refine ⟨?_, ?_, ?_, ?_, ?_, ?_, ?_, ?_, ?_, ?_, trivial⟩
        all_goals
          intro d ev w1 hext HJd Hanc Hdes hni hb hd
          replace Hanc := Bl.hid Hanc
          replace HJd := Bl.hid HJd
          replace Hdes := Bl.hid Hdes
          replace hni := Bl.hid hni
          have e13 := hb 13 (by decide)
          have e14 := hb 14 (by decide)
          clear hb
          simp only [Array.getD_eq_getD_getElem?, List.getElem?_toArray, List.getElem?_cons_succ, List.getElem?_cons_zero, Option.getD_some] at e13 e14
          simp only [Bl.DepsE2, List.getElem?_cons_succ, List.getElem?_cons_zero, Option.bind_some, List.getD_cons_succ, List.getD_cons_zero, Bl.eqv, and_true] at hd
          have hc := (Bl.bcell hext).1
          have hE : Bl.Ext w4 w1 := by rw [Bl.Ext, ← HBB.out]; exact hext
          simp only [Region.wanted, if_true]
          first
          | (have hp := HJd.out.a (Hanc.out 0 (by kernel_rfl)) hni.out; (with_reducible refine Bl.goodX_append0 (m := i) (c := cap) (b := g) (o := 0) tShR hp (HSa.out w1 hE) HAl.out HAo.out ?_ ?_ HJd.out.le ?_ ?_ ?_); (unfold maxLen; have := HKB.out; omega); (have := HKB.out; omega); rfl; exact (by first | exact hd | exact hd.2 | exact hd.1.2 | exact hd.1.1.2 | exact hd.1.1.1.2 | exact hd.1.1.1.1.2 | exact hd.1.1.1.1.1.2 | exact hd.1.1.1.1.1.1.2 | exact hd.1.1.1.1.1.1.1.2 | exact hd.1.1.1.1.1.1.1.1.2 | exact hd.1.1.1.1.1.1.1.1.1.2 | exact hd.1.1.1.1.1.1.1.1.1.1.2 | exact hd.1.1.1.1.1.1.1.1.1.1.1.2 | exact hd.1.1.1.1.1.1.1.1.1.1.1.1.2 | exact hd.1.1.1.1.1.1.1.1.1.1.1.1.1.2 | exact hd.1 | exact hd.1.1 | exact hd.1.1.1 | exact hd.1.1.1.1 | exact hd.1.1.1.1.1 | exact hd.1.1.1.1.1.1 | exact hd.1.1.1.1.1.1.1 | exact hd.1.1.1.1.1.1.1.1 | exact hd.1.1.1.1.1.1.1.1.1 | exact hd.1.1.1.1.1.1.1.1.1.1 | exact hd.1.1.1.1.1.1.1.1.1.1.1 | exact hd.1.1.1.1.1.1.1.1.1.1.1.1 | exact hd.1.1.1.1.1.1.1.1.1.1.1.1.1 | exact hd.2.1 | exact hd.2.2.1 | exact hd.2.2.2.1 | exact hd.2.2.2.2.1 | exact hd.2.2.2.2.2.1 | exact hd.2.2.2.2.2.2.1 | exact hd.2.2.2.2.2.2.2.1 | exact hd.2.2.2.2.2.2.2.2.1 | exact hd.2.2.2.2.2.2.2.2.2.1 | exact hd.2.2.2.2.2.2.2.2.2.2.1 | exact hd.2.2.2.2.2.2.2.2.2.2.2.1 | exact hd.2.2.2.2.2.2.2.2.2.2.2.2.1 | exact hd.2.2.2.2.2.2.2.2.2.2.2.2.2.1); exact fun v' w' k1 k2 => ⟨hp.grownB HJd.out.le k2, trivial, HJd.out.app1 (Hdes.out 9 (by kernel_rfl)) k1 (hp.grownB HJd.out.le k2)⟩) | (have hp := HJd.out.b (Hanc.out 4 (by kernel_rfl)) hni.out; (with_reducible refine Bl.goodX_append0 (m := m) (c := cap - (i + 1)) (b := g) (o := (i + 1) * 3) tShR hp (HSc.out w1 hE) HCl.out HCo.out ?_ ?_ HJd.out.le ?_ ?_ ?_); (unfold maxLen; have := HKB.out; omega); (have := HKB.out; omega); rfl; exact (by first | exact hd | exact hd.2 | exact hd.1.2 | exact hd.1.1.2 | exact hd.1.1.1.2 | exact hd.1.1.1.1.2 | exact hd.1.1.1.1.1.2 | exact hd.1.1.1.1.1.1.2 | exact hd.1.1.1.1.1.1.1.2 | exact hd.1.1.1.1.1.1.1.1.2 | exact hd.1.1.1.1.1.1.1.1.1.2 | exact hd.1.1.1.1.1.1.1.1.1.1.2 | exact hd.1.1.1.1.1.1.1.1.1.1.1.2 | exact hd.1.1.1.1.1.1.1.1.1.1.1.1.2 | exact hd.1.1.1.1.1.1.1.1.1.1.1.1.1.2 | exact hd.1 | exact hd.1.1 | exact hd.1.1.1 | exact hd.1.1.1.1 | exact hd.1.1.1.1.1 | exact hd.1.1.1.1.1.1 | exact hd.1.1.1.1.1.1.1 | exact hd.1.1.1.1.1.1.1.1 | exact hd.1.1.1.1.1.1.1.1.1 | exact hd.1.1.1.1.1.1.1.1.1.1 | exact hd.1.1.1.1.1.1.1.1.1.1.1 | exact hd.1.1.1.1.1.1.1.1.1.1.1.1 | exact hd.1.1.1.1.1.1.1.1.1.1.1.1.1 | exact hd.2.1 | exact hd.2.2.1 | exact hd.2.2.2.1 | exact hd.2.2.2.2.1 | exact hd.2.2.2.2.2.1 | exact hd.2.2.2.2.2.2.1 | exact hd.2.2.2.2.2.2.2.1 | exact hd.2.2.2.2.2.2.2.2.1 | exact hd.2.2.2.2.2.2.2.2.2.1 | exact hd.2.2.2.2.2.2.2.2.2.2.1 | exact hd.2.2.2.2.2.2.2.2.2.2.2.1 | exact hd.2.2.2.2.2.2.2.2.2.2.2.2.1 | exact hd.2.2.2.2.2.2.2.2.2.2.2.2.2.1); exact fun v' w' k1 k2 => ⟨hp.grownB HJd.out.le k2, trivial, HJd.out.app2 (Hanc.out 4 (by kernel_rfl)) k1 (hp.grownB HJd.out.le k2)⟩)
          | (go_simp; first | exact ⟨Below.refl _ _, rfl, HJd.out.same (by decide)⟩ | exact ⟨Bl.below_alloc _ _ HJd.out.le, trivial, HJd.out.new (Hdes.out 4 (by kernel_rfl)) (Hdes.out 9 (by kernel_rfl))⟩ | exact ⟨Below.refl _ _, rfl, Bl.HJ.same (by decide) HJd.out⟩)
      case hmono => exact ⟨Bl.monoR_anyv, Bl.monoR_eqv _, Bl.monoR_eqv _, Bl.monoR_eqv _, Bl.monoR_anyv, Bl.monoR_eqv _, Bl.monoR_eqv _, Bl.monoR_eqv _, Bl.monoR_eqv _, Bl.monoR_anyv, trivial⟩
      case hR0 => exact (Below.refl _ _).drew
      case hend =>
        intro u w1 hext hJ hend
        simp only [Bl.EndE, List.getElem?_cons_succ, List.getElem?_cons_zero, Option.bind_some, List.getD_cons_succ, List.getD_cons_zero, Bl.eqv, true_and] at hend
        simp only [Bl.fillAct, List.setIfInBounds_toArray, List.set_cons_succ, List.set_cons_zero, List.drop_succ_cons, List.drop_zero, hend]
        have hp := hJ.c rfl
        obtain ⟨g2, c2, hf2, hq1, hq2, hq3, hq4, _⟩ := hp.form (by have := Hn7.out; omega)
        rw [hf2] at hp ⊢
        have hE1 : Bl.Ext w4 w1 := by rw [Bl.Ext, ← HBB.out]; exact hext
        have HRz : Hid (Bl.Pk w1 W2.heap.size 3 (.slice (some ⟨g2, 0, none⟩) (i + m) c2) (i + m) (Bl.cellsR Bl.cS (L.eraseIdx i))) := Bl.hid (by rw [← HAC.out]; exact hp.mono (by have := HBB.out; have := HG.out; omega))
        have HKz : Hid (Bl.Kq (fun k => k = g ∨ w4.heap.size ≤ k) w4 w1) := Bl.hid (Bl.Kq.of_ext hE1)
        have HEl : Hid ((L.eraseIdx i).length = i + m) := Bl.hid (by rw [List.length_eraseIdx_of_lt (by have := Hin.out; omega), ← Hnn.out.1]; omega)
        have hc2 : (i : Int) + (m : Int) ≤ (c2 : Int) := by omega
        clear hp hf2 hq1 hq2 hq3 hq4 hE1 hJ hend hext
        have HBy := Bl.hid (HKz.out.box (by have := HX.out; have := HG.out; omega) HB4.out)
        have HBRy := Bl.hid (HKz.out.box (by have := HX.out; have := HG.out; omega) HBR4.out)
        have q94 := HBy.out.cell (i := 4) (v := .slice ps (i + 1 + m) csn) rfl
        have f94 := HBy.out.fz (i := 4) (show 4 < 9 by decide)
        have HBz : Hid (Bl.BoxC ((w1).setCell ⟨P, 4, none⟩ (.slice (some ⟨g2, 0, none⟩) (i + m) c2)) P (Bl.cL { l with shown := Bl.bendS 4 i y l.shown } (.slice pp l.places.length cp) (.slice (some ⟨g2, 0, none⟩) (i + m) c2) (.slice pb n3 cb))) := Bl.hid (HBy.out.put (i := 4) (show 4 < 9 by decide) (.slice (some ⟨g2, 0, none⟩) (i + m) c2))
        have hKs : Bl.Kq (fun k => k = P) (w1) ((w1).setCell ⟨P, 4, none⟩ (.slice (some ⟨g2, 0, none⟩) (i + m) c2)) := (Bl.Kq.refl (w1)).setCell (Q := fun k => k = P) ⟨P, 4, none⟩ rfl _
        have HFz : Hid (Bl.LtF (fun b => b < w.heap.size ∨ w.heap.size + 2 ≤ b) ((w1).setCell ⟨P, 4, none⟩ (.slice (some ⟨g2, 0, none⟩) (i + m) c2)) { l with shown := Bl.bendS 4 i y l.shown } (.slice pp l.places.length cp) (.slice (some ⟨g2, 0, none⟩) (i + m) c2) (.slice pb n3 cb) (L.eraseIdx i)) := Bl.hid (by
          have h := HF4.out.kept (w' := w1) (F' := fun b => b < w.heap.size ∨ w.heap.size + 2 ≤ b) fun b hb hl => ⟨by omega, HKz.out.block b hl (by have := HX.out; have := HG.out; omega)⟩
          refine Bl.LtF.kept (F := fun b => b < w.heap.size ∨ w.heap.size + 2 ≤ b) (h.shn (vs2 := (.slice (some ⟨g2, 0, none⟩) (i + m) c2)) (L2 := L.eraseIdx i) ?_ ?_ ?_) fun b hb hl => ⟨hb, hKs.block b hl (by have := HX.out; omega)⟩
          · rw [HEl.out]
            exact Bl.RdsF.of_rds HRz.out.rds fun b hb _ => .inr (by have := (HRz.out.block b hb).1; have := HX.out; omega)
          · exact fun x hx => h.so x (List.mem_of_mem_eraseIdx hx)
          · unfold Bl.bendS
            rw [if_neg (by decide), if_neg (by decide), if_neg (by decide), if_pos rfl, if_pos (by rw [← HF4.out.sl, List.length_map, ← Hnn.out.1]; exact Hn7.out), ← HF4.out.sl]
            rw [List.eraseIdx_eq_take_drop_succ, List.eraseIdx_eq_take_drop_succ, List.map_append, List.map_take, List.map_drop])
        have HBRz := Bl.hid (hKs.box (by have := HX.out; omega) HBRy.out)
        have HKw : Hid (Bl.Kq (fun k => w.heap.size ≤ k) w ((w1).setCell ⟨P, 4, none⟩ (.slice (some ⟨g2, 0, none⟩) (i + m) c2))) := Bl.hid ((((Bl.Kq.of_ext HE2.out).trans (Bl.Kq.of_ext HE4.out)).trans (HKz.out.mono fun k hk q => by have := HX.out; have := HG.out; omega)).trans (hKs.mono fun k hk q => by have := HX.out; omega))
        clear hKs HKz
        have HKz := HKw

        have Hl9 := Bl.hid (HBz.out.load (P := Tryd.prog) Tryd.underlying33 rfl (by kernel_rfl))
        have hone9 := HFz.out.ltc.one
        have Hst9 := Bl.hid (HBRz.out.store (P := Tryd.prog) (cs' := Bl.cL ({ l with shown := Bl.bendS 4 i y l.shown }) (.slice pp l.places.length cp) (.slice (some ⟨g2, 0, none⟩) (i + m) c2) (.slice pb n3 cb)) rfl hone9 (ty := 33) (by kernel_rfl))
        have HBR9 := Bl.hid (HBRz.out.set (cs' := Bl.cL ({ l with shown := Bl.bendS 4 i y l.shown }) (.slice pp l.places.length cp) (.slice (some ⟨g2, 0, none⟩) (i + m) c2) (.slice pb n3 cb)) rfl)
        have HK9 := Bl.hid ((Bl.Kq.refl ((w1).setCell ⟨P, 4, none⟩ (.slice (some ⟨g2, 0, none⟩) (i + m) c2))).setCells (Q := fun k => k = R) rfl 0 (Bl.cL ({ l with shown := Bl.bendS 4 i y l.shown }) (.slice pp l.places.length cp) (.slice (some ⟨g2, 0, none⟩) (i + m) c2) (.slice pb n3 cb)))
        have HE9 := Bl.hid (HKz.out.trans (HK9.out.mono (Q' := fun k => w.heap.size ≤ k) fun k hk q => by have := HX.out; omega))
        clear hone9
        go_wp2_with (with_reducible refine Bl.stop_load (ty := 33) ?_)
        refine Bl.go_on ?_
        refine Bl.wpL_load rfl Hl9.out ?_
        go_wp2_with (with_reducible refine Bl.stop_store (ty := 33) ?_)
        refine Bl.go_on ?_
        refine Bl.wpL_store0 rfl rfl Hst9.out ?_
        go_wp2_with fail
        refine bodyPost_ret (v := .tuple #[.agg (Bl.cL ({ l with shown := Bl.bendS 4 i y l.shown }) (.slice pp l.places.length cp) (.slice (some ⟨g2, 0, none⟩) (i + m) c2) (.slice pb n3 cb)).toArray, .bool true]) (Bl.results_cell2 rfl rfl (HBR9.out.loadVar (P := Tryd.prog) Tryd.underlying33 rfl (by kernel_rfl)) rfl) rfl ?_
        have hsp := HBd.out
        unfold Bl.BeR
        rw [hsp]
        exact ⟨_, rfl, ⟨_, _, _, _, _, rfl, (HFz.out.kept (F' := fun _ => True) fun k hk hlk => ⟨trivial, HK9.out.block k hlk (by have := HX.out; omega)⟩).ltc⟩, HE9.out.ext fun k q => q⟩
      case hJ0 => exact Bl.JC.start (Nat.le_of_eq HBB.out)
  · have hn6 : ¬ ((1 : Int) < (n : Int)) := by omega
    have HS : Hid (Bl.bendS 4 i y l.shown = l.shown) := Bl.hid (by
      unfold Bl.bendS
      rw [if_neg (by decide), if_neg (by decide), if_neg (by decide), if_pos rfl, if_neg (by rw [← HF4.out.sl, List.length_map, ← Hnn.out.1]; exact hn7)])
    have HKz : Hid (Bl.Kq (fun k => k = g ∨ w4.heap.size ≤ k) w4 w4) := Bl.hid (Bl.Kq.refl _)
    have HRz := HRw
    clear hn7

    have HBy := Bl.hid (HKz.out.box (by have := HX.out; have := HG.out; omega) HB4.out)
    have HBRy := Bl.hid (HKz.out.box (by have := HX.out; have := HG.out; omega) HBR4.out)
    have q94 := HBy.out.cell (i := 4) (v := .slice ps n csn) rfl
    have f94 := HBy.out.fz (i := 4) (show 4 < 9 by decide)
    have HBz : Hid (Bl.BoxC ((w4).setCell ⟨P, 4, none⟩ (.slice (some ⟨g, 0, none⟩) n cap)) P (Bl.cL { l with shown := Bl.bendS 4 i y l.shown } (.slice pp l.places.length cp) (.slice (some ⟨g, 0, none⟩) n cap) (.slice pb n3 cb))) := Bl.hid (HBy.out.put (i := 4) (show 4 < 9 by decide) (.slice (some ⟨g, 0, none⟩) n cap))
    have hKs : Bl.Kq (fun k => k = P) (w4) ((w4).setCell ⟨P, 4, none⟩ (.slice (some ⟨g, 0, none⟩) n cap)) := (Bl.Kq.refl (w4)).setCell (Q := fun k => k = P) ⟨P, 4, none⟩ rfl _
    have HFz : Hid (Bl.LtF (fun b => b < w.heap.size ∨ w.heap.size + 2 ≤ b) ((w4).setCell ⟨P, 4, none⟩ (.slice (some ⟨g, 0, none⟩) n cap)) { l with shown := Bl.bendS 4 i y l.shown } (.slice pp l.places.length cp) (.slice (some ⟨g, 0, none⟩) n cap) (.slice pb n3 cb) (L)) := Bl.hid (by
      have h := HF4.out.kept (w' := w4) (F' := fun b => b < w.heap.size ∨ w.heap.size + 2 ≤ b) fun b hb hl => ⟨by omega, HKz.out.block b hl (by have := HX.out; have := HG.out; omega)⟩
      refine Bl.LtF.kept (F := fun b => b < w.heap.size ∨ w.heap.size + 2 ≤ b) (h.shn (vs2 := (.slice (some ⟨g, 0, none⟩) n cap)) (L2 := L) ?_ ?_ ?_) fun b hb hl => ⟨hb, hKs.block b hl (by have := HX.out; omega)⟩
      · rw [← Hnn.out.1]
        exact Bl.RdsF.of_rds HRz.out.rds fun b hb _ => .inr (by have := (HRz.out.block b hb).1; have := HX.out; omega)
      · exact h.so
      · rw [HF4.out.sl, HS.out])
    have HBRz := Bl.hid (hKs.box (by have := HX.out; omega) HBRy.out)
    have HKw : Hid (Bl.Kq (fun k => w.heap.size ≤ k) w ((w4).setCell ⟨P, 4, none⟩ (.slice (some ⟨g, 0, none⟩) n cap))) := Bl.hid ((((Bl.Kq.of_ext HE2.out).trans (Bl.Kq.of_ext HE4.out)).trans (HKz.out.mono fun k hk q => by have := HX.out; have := HG.out; omega)).trans (hKs.mono fun k hk q => by have := HX.out; omega))
    clear hKs HKz
    have HKz := HKw

    have Hl9 := Bl.hid (HBz.out.load (P := Tryd.prog) Tryd.underlying33 rfl (by kernel_rfl))
    have hone9 := HFz.out.ltc.one
    have Hst9 := Bl.hid (HBRz.out.store (P := Tryd.prog) (cs' := Bl.cL ({ l with shown := Bl.bendS 4 i y l.shown }) (.slice pp l.places.length cp) (.slice (some ⟨g, 0, none⟩) n cap) (.slice pb n3 cb)) rfl hone9 (ty := 33) (by kernel_rfl))
    have HBR9 := Bl.hid (HBRz.out.set (cs' := Bl.cL ({ l with shown := Bl.bendS 4 i y l.shown }) (.slice pp l.places.length cp) (.slice (some ⟨g, 0, none⟩) n cap) (.slice pb n3 cb)) rfl)
    have HK9 := Bl.hid ((Bl.Kq.refl ((w4).setCell ⟨P, 4, none⟩ (.slice (some ⟨g, 0, none⟩) n cap))).setCells (Q := fun k => k = R) rfl 0 (Bl.cL ({ l with shown := Bl.bendS 4 i y l.shown }) (.slice pp l.places.length cp) (.slice (some ⟨g, 0, none⟩) n cap) (.slice pb n3 cb)))
    have HE9 := Bl.hid (HKz.out.trans (HK9.out.mono (Q' := fun k => w.heap.size ≤ k) fun k hk q => by have := HX.out; omega))
    clear hone9
    go_wp2_with (with_reducible refine Bl.stop_load (ty := 33) ?_)
    refine Bl.go_on ?_
    refine Bl.wpL_load rfl Hl9.out ?_
    go_wp2_with (with_reducible refine Bl.stop_store (ty := 33) ?_)
    refine Bl.go_on ?_
    refine Bl.wpL_store0 rfl rfl Hst9.out ?_
    go_wp2_with fail
    refine bodyPost_ret (v := .tuple #[.agg (Bl.cL ({ l with shown := Bl.bendS 4 i y l.shown }) (.slice pp l.places.length cp) (.slice (some ⟨g, 0, none⟩) n cap) (.slice pb n3 cb)).toArray, .bool true]) (Bl.results_cell2 rfl rfl (HBR9.out.loadVar (P := Tryd.prog) Tryd.underlying33 rfl (by kernel_rfl)) rfl) rfl ?_
    have hsp := HBd.out
    unfold Bl.BeR
    rw [hsp]
    exact ⟨_, rfl, ⟨_, _, _, _, _, rfl, (HFz.out.kept (F' := fun _ => True) fun k hk hlk => ⟨trivial, HK9.out.block k hlk (by have := HX.out; omega)⟩).ltc⟩, HE9.out.ext fun k q => q⟩
end Go.Proofs.YtmmolapkddbibaaDoor

/- Walk of baileeref29.Bend. -/
namespace Go.Proofs.YtmmolapkddbibaaDoor
open Go Go.RowKit Go.Proofs

set_option maxRecDepth 100000 in
set_option maxHeartbeats 8000000 in
theorem refb9 (at' y : Int) (v : Value) (l : Bl.LT) (w : World) (h : Bl.LtV w v l) (hLg : Bl.LgL l) (hid : -1125899906842624 ≤ l.id ∧ l.id ≤ 1125899906842624) :
    Calls Tryd.prog 11 #[v, .int .i64 9, .int .i64 at', .int .i64 y] w fun e w' => Bl.BeR 9 at' y l w e w' := by
  obtain ⟨cs0, vp, vs, vb, L, rfl, hc⟩ := h
  obtain rfl := hc.eq
  obtain ⟨pp, cp, hvp, _, _⟩ := hc.pl.form
  obtain ⟨ps, csn, hvs, _, _⟩ := hc.sh.rd.form
  obtain ⟨pb, cb, hvb, _, _⟩ := hc.bl.form
  have HLg := Bl.hid hLg
  have hls : L.length = l.shown.length := by have := congrArg List.length hc.sl; simpa using this
  obtain ⟨n, hn⟩ : ∃ z, z = L.length := ⟨_, rfl⟩
  obtain ⟨n3, hn3⟩ : ∃ z, z = l.blocks.length := ⟨_, rfl⟩
  rw [← hn] at hvs hls
  rw [← hn3] at hvb
  have Hnn : Hid (n = L.length ∧ n = l.shown.length ∧ n3 = l.blocks.length ∧ n ≤ 30 ∧ n3 ≤ 600) := Bl.hid ⟨hn, hls, hn3, by rw [hls]; exact hLg.sh, by rw [hn3]; exact hLg.bl⟩
  obtain ⟨P, hP⟩ : ∃ z, z = w.heap.size := ⟨_, rfl⟩
  obtain ⟨R, hR⟩ : ∃ z, z = w.heap.size + 1 := ⟨_, rfl⟩
  obtain ⟨W2, hW2⟩ : ∃ W, W = (w.alloc (.cells (Bl.cL l vp vs vb).toArray 33)).alloc (.cells Bl.zL 33) := ⟨_, rfl⟩
  have hs1 : (w.alloc (.cells (Bl.cL l vp vs vb).toArray 33)).heap.size = w.heap.size + 1 := World.size_alloc _ _
  have hs2 : W2.heap.size = w.heap.size + 1 + 1 := by rw [hW2, World.size_alloc, hs1]
  have hE2 : Bl.Ext w W2 := by rw [hW2]; exact (Bl.ext_alloc _ _).trans (Bl.ext_alloc _ _)
  have hBP : Bl.BoxC W2 P (Bl.cL l vp vs vb) := by
    rw [hW2, hP]; exact (Bl.BoxC.box w 33 (Bl.cL_ne _ _ _ _)).ext (Bl.ext_alloc _ _)
  have hBR : Bl.BoxC W2 R Bl.zL.toList := by
    have h := Bl.BoxC.box (cs := Bl.zL.toList) (w.alloc (.cells (Bl.cL l vp vs vb).toArray 33)) 33 (fun q => by cases q)
    rw [hs1, ← hR] at h
    rw [hW2]; exact h
  have HX : Hid (P = w.heap.size ∧ R = w.heap.size + 1 ∧ W2.heap.size = w.heap.size + 2) := Bl.hid ⟨hP, hR, hs2⟩
  have HE2 := Bl.hid hE2
  have HBP := Bl.hid hBP
  have HBR := Bl.hid hBR
  have HF2 : Hid (Bl.LtF (fun b => b < w.heap.size ∨ w.heap.size + 2 ≤ b) W2 l vp vs vb L) := Bl.hid ((Bl.LtF.of_ltc hc).kept fun b hb hl => ⟨.inl hb, hE2.block b hl⟩)
  have q0 := hBP.cell (i := 0) (v := .int .i64 l.kind) rfl
  have q4 := hBP.cell (i := 4) (v := vs) rfl
  have q7 := hBP.cell (i := 7) (v := vb) rfl
  have q1 := hBP.cell (i := 1) (v := .int .i64 l.id) rfl
  have q2 := hBP.cell (i := 2) (v := .int .i64 l.obj) rfl
  have Hid' := Bl.hid hid
  unfold Bl.cL at hW2
  clear hs1 hs2 hE2 hBP hBR hc hLg hid hls hn hn3
  subst hvs hvb hvp
  show Calls Tryd.prog 11 #[.agg #[.int .i64 l.kind, .int .i64 l.id, .int .i64 l.obj, .slice pp l.places.length cp, .slice ps n csn, .int .i64 l.frm, .int .i64 l.cnt, .slice pb n3 cb, .int .i64 l.code], .int .i64 9, .int .i64 at', .int .i64 y] w _
  go_enter Tryd.func11, Tryd.ntmps11

  go_wp2_with (with_reducible refine Bl.stop_store (ty := 33) ?_)
  refine Bl.go_on ?_
  rw [← hW2, ← hR]
  clear hW2 hR hP
  have hz : ∀ c ∈ Bl.zL.toList, c.oneCell' = true := fun c hc => by
    simp only [List.mem_cons, List.not_mem_nil, or_false] at hc
    rcases hc with rfl | rfl | rfl | rfl | rfl | rfl | rfl | rfl | rfl <;> rfl
  have Hst9 := Bl.hid (HBR.out.store (P := Tryd.prog) (cs' := Bl.zL.toList) rfl hz (ty := 33) (by kernel_rfl))
  have HBR9 := Bl.hid (HBR.out.set (cs' := Bl.zL.toList) rfl)
  have HE9 := Bl.hid ((Bl.Kq.of_ext (Q := fun k => w.heap.size ≤ k) HE2.out).setCells (g := R) (by have := HX.out; omega) 0 Bl.zL.toList)
  clear hz
  refine Bl.wpL_store0 rfl rfl Hst9.out ?_
  go_wp2_with fail
  refine bodyPost_ret (v := .tuple #[.agg Bl.zL, .bool false]) (Bl.results_cell2 rfl rfl (HBR9.out.loadVar (P := Tryd.prog) Tryd.underlying33 rfl (by kernel_rfl)) rfl) rfl ?_
  exact ⟨_, rfl, Bl.LtV.zero _, HE9.out.ext fun k q => q⟩

set_option maxRecDepth 100000 in
set_option maxHeartbeats 8000000 in
theorem refb6 (at' y : Int) (v : Value) (l : Bl.LT) (w : World) (h : Bl.LtV w v l) (hLg : Bl.LgL l) (hid : -1125899906842624 ≤ l.id ∧ l.id ≤ 1125899906842624) :
    Calls Tryd.prog 11 #[v, .int .i64 6, .int .i64 at', .int .i64 y] w fun e w' => Bl.BeR 6 at' y l w e w' := by
  obtain ⟨cs0, vp, vs, vb, L, rfl, hc⟩ := h
  obtain rfl := hc.eq
  obtain ⟨pp, cp, hvp, _, _⟩ := hc.pl.form
  obtain ⟨ps, csn, hvs, _, _⟩ := hc.sh.rd.form
  obtain ⟨pb, cb, hvb, _, _⟩ := hc.bl.form
  have HLg := Bl.hid hLg
  have hls : L.length = l.shown.length := by have := congrArg List.length hc.sl; simpa using this
  obtain ⟨n, hn⟩ : ∃ z, z = L.length := ⟨_, rfl⟩
  obtain ⟨n3, hn3⟩ : ∃ z, z = l.blocks.length := ⟨_, rfl⟩
  rw [← hn] at hvs hls
  rw [← hn3] at hvb
  have Hnn : Hid (n = L.length ∧ n = l.shown.length ∧ n3 = l.blocks.length ∧ n ≤ 30 ∧ n3 ≤ 600) := Bl.hid ⟨hn, hls, hn3, by rw [hls]; exact hLg.sh, by rw [hn3]; exact hLg.bl⟩
  obtain ⟨P, hP⟩ : ∃ z, z = w.heap.size := ⟨_, rfl⟩
  obtain ⟨R, hR⟩ : ∃ z, z = w.heap.size + 1 := ⟨_, rfl⟩
  obtain ⟨W2, hW2⟩ : ∃ W, W = (w.alloc (.cells (Bl.cL l vp vs vb).toArray 33)).alloc (.cells Bl.zL 33) := ⟨_, rfl⟩
  have hs1 : (w.alloc (.cells (Bl.cL l vp vs vb).toArray 33)).heap.size = w.heap.size + 1 := World.size_alloc _ _
  have hs2 : W2.heap.size = w.heap.size + 1 + 1 := by rw [hW2, World.size_alloc, hs1]
  have hE2 : Bl.Ext w W2 := by rw [hW2]; exact (Bl.ext_alloc _ _).trans (Bl.ext_alloc _ _)
  have hBP : Bl.BoxC W2 P (Bl.cL l vp vs vb) := by
    rw [hW2, hP]; exact (Bl.BoxC.box w 33 (Bl.cL_ne _ _ _ _)).ext (Bl.ext_alloc _ _)
  have hBR : Bl.BoxC W2 R Bl.zL.toList := by
    have h := Bl.BoxC.box (cs := Bl.zL.toList) (w.alloc (.cells (Bl.cL l vp vs vb).toArray 33)) 33 (fun q => by cases q)
    rw [hs1, ← hR] at h
    rw [hW2]; exact h
  have HX : Hid (P = w.heap.size ∧ R = w.heap.size + 1 ∧ W2.heap.size = w.heap.size + 2) := Bl.hid ⟨hP, hR, hs2⟩
  have HE2 := Bl.hid hE2
  have HBP := Bl.hid hBP
  have HBR := Bl.hid hBR
  have HF2 : Hid (Bl.LtF (fun b => b < w.heap.size ∨ w.heap.size + 2 ≤ b) W2 l vp vs vb L) := Bl.hid ((Bl.LtF.of_ltc hc).kept fun b hb hl => ⟨.inl hb, hE2.block b hl⟩)
  have q0 := hBP.cell (i := 0) (v := .int .i64 l.kind) rfl
  have q4 := hBP.cell (i := 4) (v := vs) rfl
  have q7 := hBP.cell (i := 7) (v := vb) rfl
  have q1 := hBP.cell (i := 1) (v := .int .i64 l.id) rfl
  have q2 := hBP.cell (i := 2) (v := .int .i64 l.obj) rfl
  have Hid' := Bl.hid hid
  unfold Bl.cL at hW2
  clear hs1 hs2 hE2 hBP hBR hc hLg hid hls hn hn3
  subst hvs hvb hvp
  show Calls Tryd.prog 11 #[.agg #[.int .i64 l.kind, .int .i64 l.id, .int .i64 l.obj, .slice pp l.places.length cp, .slice ps n csn, .int .i64 l.frm, .int .i64 l.cnt, .slice pb n3 cb, .int .i64 l.code], .int .i64 6, .int .i64 at', .int .i64 y] w _
  go_enter Tryd.func11, Tryd.ntmps11
  go_wp2_with (with_reducible refine Bl.stop_load (ty := 3) ?_)
  refine Bl.go_on ?_
  rw [← hW2, ← hR, ← hP]
  clear hW2 hR hP

  have Hst9 := Bl.hid (HBR.out.store (P := Tryd.prog) (cs' := Bl.cL ⟨7, l.id, l.obj, [], [], 0, 0, [], 1⟩ (.slice none 0 0) (.slice none 0 0) (.slice none 0 0)) rfl (Bl.cL_one ⟨_, _, _, rfl⟩ ⟨_, _, _, rfl⟩ ⟨_, _, _, rfl⟩) (ty := 33) (by kernel_rfl))
  have HBR9 := Bl.hid (HBR.out.set (cs' := Bl.cL ⟨7, l.id, l.obj, [], [], 0, 0, [], 1⟩ (.slice none 0 0) (.slice none 0 0) (.slice none 0 0)) rfl)
  have HE9 := Bl.hid ((Bl.Kq.of_ext (Q := fun k => w.heap.size ≤ k) HE2.out).setCells (g := R) (by have := HX.out; omega) 0 (Bl.cL ⟨7, l.id, l.obj, [], [], 0, 0, [], 1⟩ (.slice none 0 0) (.slice none 0 0) (.slice none 0 0)))
  go_wp2_with (with_reducible refine Bl.stop_store (ty := 33) ?_)
  refine Bl.go_on ?_
  refine Bl.wpL_store0 rfl rfl Hst9.out ?_
  go_wp2_with fail
  refine bodyPost_ret (v := .tuple #[.agg (Bl.cL ⟨7, l.id, l.obj, [], [], 0, 0, [], 1⟩ (.slice none 0 0) (.slice none 0 0) (.slice none 0 0)).toArray, .bool true]) (Bl.results_cell2 rfl rfl (HBR9.out.loadVar (P := Tryd.prog) Tryd.underlying33 rfl (by kernel_rfl)) rfl) rfl ?_
  exact ⟨_, rfl, ⟨_, _, _, _, [], rfl, (Bl.LtF.nil (fun _ => True) _ _ _ _ _ _ _).ltc⟩, HE9.out.ext fun k q => q⟩

set_option maxRecDepth 100000 in
set_option maxHeartbeats 8000000 in
theorem refb7 (at' y : Int) (v : Value) (l : Bl.LT) (w : World) (h : Bl.LtV w v l) (hLg : Bl.LgL l) (hid : -1125899906842624 ≤ l.id ∧ l.id ≤ 1125899906842624) :
    Calls Tryd.prog 11 #[v, .int .i64 7, .int .i64 at', .int .i64 y] w fun e w' => Bl.BeR 7 at' y l w e w' := by
  obtain ⟨cs0, vp, vs, vb, L, rfl, hc⟩ := h
  obtain rfl := hc.eq
  obtain ⟨pp, cp, hvp, _, _⟩ := hc.pl.form
  obtain ⟨ps, csn, hvs, _, _⟩ := hc.sh.rd.form
  obtain ⟨pb, cb, hvb, _, _⟩ := hc.bl.form
  have HLg := Bl.hid hLg
  have hls : L.length = l.shown.length := by have := congrArg List.length hc.sl; simpa using this
  obtain ⟨n, hn⟩ : ∃ z, z = L.length := ⟨_, rfl⟩
  obtain ⟨n3, hn3⟩ : ∃ z, z = l.blocks.length := ⟨_, rfl⟩
  rw [← hn] at hvs hls
  rw [← hn3] at hvb
  have Hnn : Hid (n = L.length ∧ n = l.shown.length ∧ n3 = l.blocks.length ∧ n ≤ 30 ∧ n3 ≤ 600) := Bl.hid ⟨hn, hls, hn3, by rw [hls]; exact hLg.sh, by rw [hn3]; exact hLg.bl⟩
  obtain ⟨P, hP⟩ : ∃ z, z = w.heap.size := ⟨_, rfl⟩
  obtain ⟨R, hR⟩ : ∃ z, z = w.heap.size + 1 := ⟨_, rfl⟩
  obtain ⟨W2, hW2⟩ : ∃ W, W = (w.alloc (.cells (Bl.cL l vp vs vb).toArray 33)).alloc (.cells Bl.zL 33) := ⟨_, rfl⟩
  have hs1 : (w.alloc (.cells (Bl.cL l vp vs vb).toArray 33)).heap.size = w.heap.size + 1 := World.size_alloc _ _
  have hs2 : W2.heap.size = w.heap.size + 1 + 1 := by rw [hW2, World.size_alloc, hs1]
  have hE2 : Bl.Ext w W2 := by rw [hW2]; exact (Bl.ext_alloc _ _).trans (Bl.ext_alloc _ _)
  have hBP : Bl.BoxC W2 P (Bl.cL l vp vs vb) := by
    rw [hW2, hP]; exact (Bl.BoxC.box w 33 (Bl.cL_ne _ _ _ _)).ext (Bl.ext_alloc _ _)
  have hBR : Bl.BoxC W2 R Bl.zL.toList := by
    have h := Bl.BoxC.box (cs := Bl.zL.toList) (w.alloc (.cells (Bl.cL l vp vs vb).toArray 33)) 33 (fun q => by cases q)
    rw [hs1, ← hR] at h
    rw [hW2]; exact h
  have HX : Hid (P = w.heap.size ∧ R = w.heap.size + 1 ∧ W2.heap.size = w.heap.size + 2) := Bl.hid ⟨hP, hR, hs2⟩
  have HE2 := Bl.hid hE2
  have HBP := Bl.hid hBP
  have HBR := Bl.hid hBR
  have HF2 : Hid (Bl.LtF (fun b => b < w.heap.size ∨ w.heap.size + 2 ≤ b) W2 l vp vs vb L) := Bl.hid ((Bl.LtF.of_ltc hc).kept fun b hb hl => ⟨.inl hb, hE2.block b hl⟩)
  have q0 := hBP.cell (i := 0) (v := .int .i64 l.kind) rfl
  have q4 := hBP.cell (i := 4) (v := vs) rfl
  have q7 := hBP.cell (i := 7) (v := vb) rfl
  have q1 := hBP.cell (i := 1) (v := .int .i64 l.id) rfl
  have q2 := hBP.cell (i := 2) (v := .int .i64 l.obj) rfl
  have Hid' := Bl.hid hid
  unfold Bl.cL at hW2
  clear hs1 hs2 hE2 hBP hBR hc hLg hid hls hn hn3
  subst hvs hvb hvp
  show Calls Tryd.prog 11 #[.agg #[.int .i64 l.kind, .int .i64 l.id, .int .i64 l.obj, .slice pp l.places.length cp, .slice ps n csn, .int .i64 l.frm, .int .i64 l.cnt, .slice pb n3 cb, .int .i64 l.code], .int .i64 7, .int .i64 at', .int .i64 y] w _
  go_enter Tryd.func11, Tryd.ntmps11
  go_wp2_with (with_reducible refine Bl.stop_load (ty := 3) ?_)
  refine Bl.go_on ?_
  rw [← hW2, ← hR, ← hP]
  clear hW2 hR hP

  have HR := Bl.hid (refrest_any (l.id + 1) 1099511627777 W2 (by decide) (by decide))
  have hid1 := Hid'.out.1
  have hid2 := Hid'.out.2
  go_wp2_with fail
  refine HR.out.mono ?_
  rintro e w6 ⟨rfl, hw6⟩
  subst hw6
  clear hid1 hid2

  have qi := HBP.out.cell (i := 1) rfl
  have fi := HBP.out.fz (i := 1) (show 1 < 9 by decide)
  have HBz : Hid (Bl.BoxC (W2.setCell ⟨P, 1, none⟩ (.int .i64 ((l.id + 1) % 1099511627777))) P (Bl.cL { l with id := (l.id + 1) % 1099511627777 } (.slice pp l.places.length cp) (.slice ps n csn) (.slice pb n3 cb))) := Bl.hid (HBP.out.put (i := 1) (show 1 < 9 by decide) (.int .i64 ((l.id + 1) % 1099511627777)))
  have hKs : Bl.Kq (fun k => k = P) W2 (W2.setCell ⟨P, 1, none⟩ (.int .i64 ((l.id + 1) % 1099511627777))) := (Bl.Kq.refl W2).setCell (Q := fun k => k = P) ⟨P, 1, none⟩ rfl _
  have HFz : Hid (Bl.LtF (fun b => b < w.heap.size ∨ w.heap.size + 2 ≤ b) (W2.setCell ⟨P, 1, none⟩ (.int .i64 ((l.id + 1) % 1099511627777))) { l with id := (l.id + 1) % 1099511627777 } (.slice pp l.places.length cp) (.slice ps n csn) (.slice pb n3 cb) L) := Bl.hid (by
    have h := HF2.out.kept (w' := W2.setCell ⟨P, 1, none⟩ (.int .i64 ((l.id + 1) % 1099511627777))) (F' := fun b => b < w.heap.size ∨ w.heap.size + 2 ≤ b) fun b hb hl => ⟨hb, hKs.block b hl (by have := HX.out; omega)⟩
    exact ⟨h.pl, h.sh, h.so, h.sl, h.bl⟩)
  have HBRz := Bl.hid (hKs.box (by have := HX.out; omega) HBR.out)
  have HKz : Hid (Bl.Kq (fun k => w.heap.size ≤ k) w (W2.setCell ⟨P, 1, none⟩ (.int .i64 ((l.id + 1) % 1099511627777)))) := Bl.hid ((Bl.Kq.of_ext HE2.out).trans (hKs.mono fun k hk q => by have := HX.out; omega))
  clear hKs

  have Hl9 := Bl.hid (HBz.out.load (P := Tryd.prog) Tryd.underlying33 rfl (by kernel_rfl))
  have hone9 := HFz.out.ltc.one
  have Hst9 := Bl.hid (HBRz.out.store (P := Tryd.prog) (cs' := Bl.cL ({ l with id := (l.id + 1) % 1099511627777 }) (.slice pp l.places.length cp) (.slice ps n csn) (.slice pb n3 cb)) rfl hone9 (ty := 33) (by kernel_rfl))
  have HBR9 := Bl.hid (HBRz.out.set (cs' := Bl.cL ({ l with id := (l.id + 1) % 1099511627777 }) (.slice pp l.places.length cp) (.slice ps n csn) (.slice pb n3 cb)) rfl)
  have HK9 := Bl.hid ((Bl.Kq.refl (W2.setCell ⟨P, 1, none⟩ (.int .i64 ((l.id + 1) % 1099511627777)))).setCells (Q := fun k => k = R) rfl 0 (Bl.cL ({ l with id := (l.id + 1) % 1099511627777 }) (.slice pp l.places.length cp) (.slice ps n csn) (.slice pb n3 cb)))
  have HE9 := Bl.hid (HKz.out.trans (HK9.out.mono (Q' := fun k => w.heap.size ≤ k) fun k hk q => by have := HX.out; omega))
  clear hone9
  go_wp2_with (with_reducible refine Bl.stop_load (ty := 33) ?_)
  refine Bl.go_on ?_
  refine Bl.wpL_load rfl Hl9.out ?_
  go_wp2_with (with_reducible refine Bl.stop_store (ty := 33) ?_)
  refine Bl.go_on ?_
  refine Bl.wpL_store0 rfl rfl Hst9.out ?_
  go_wp2_with fail
  refine bodyPost_ret (v := .tuple #[.agg (Bl.cL ({ l with id := (l.id + 1) % 1099511627777 }) (.slice pp l.places.length cp) (.slice ps n csn) (.slice pb n3 cb)).toArray, .bool true]) (Bl.results_cell2 rfl rfl (HBR9.out.loadVar (P := Tryd.prog) Tryd.underlying33 rfl (by kernel_rfl)) rfl) rfl ?_
  have hsp := (show Bl.bendL 7 at' y l = ({ l with id := (l.id + 1) % 1099511627777 }, true) from rfl)
  unfold Bl.BeR
  rw [hsp]
  exact ⟨_, rfl, ⟨_, _, _, _, _, rfl, (HFz.out.kept (F' := fun _ => True) fun k hk hlk => ⟨trivial, HK9.out.block k hlk (by have := HX.out; omega)⟩).ltc⟩, HE9.out.ext fun k q => q⟩

set_option maxRecDepth 100000 in
set_option maxHeartbeats 8000000 in
theorem refb8 (at' y : Int) (v : Value) (l : Bl.LT) (w : World) (h : Bl.LtV w v l) (hLg : Bl.LgL l) (hid : -1125899906842624 ≤ l.id ∧ l.id ≤ 1125899906842624) :
    Calls Tryd.prog 11 #[v, .int .i64 8, .int .i64 at', .int .i64 y] w fun e w' => Bl.BeR 8 at' y l w e w' := by
  obtain ⟨cs0, vp, vs, vb, L, rfl, hc⟩ := h
  obtain rfl := hc.eq
  obtain ⟨pp, cp, hvp, _, _⟩ := hc.pl.form
  obtain ⟨ps, csn, hvs, _, _⟩ := hc.sh.rd.form
  obtain ⟨pb, cb, hvb, _, _⟩ := hc.bl.form
  have HLg := Bl.hid hLg
  have hls : L.length = l.shown.length := by have := congrArg List.length hc.sl; simpa using this
  obtain ⟨n, hn⟩ : ∃ z, z = L.length := ⟨_, rfl⟩
  obtain ⟨n3, hn3⟩ : ∃ z, z = l.blocks.length := ⟨_, rfl⟩
  rw [← hn] at hvs hls
  rw [← hn3] at hvb
  have Hnn : Hid (n = L.length ∧ n = l.shown.length ∧ n3 = l.blocks.length ∧ n ≤ 30 ∧ n3 ≤ 600) := Bl.hid ⟨hn, hls, hn3, by rw [hls]; exact hLg.sh, by rw [hn3]; exact hLg.bl⟩
  obtain ⟨P, hP⟩ : ∃ z, z = w.heap.size := ⟨_, rfl⟩
  obtain ⟨R, hR⟩ : ∃ z, z = w.heap.size + 1 := ⟨_, rfl⟩
  obtain ⟨W2, hW2⟩ : ∃ W, W = (w.alloc (.cells (Bl.cL l vp vs vb).toArray 33)).alloc (.cells Bl.zL 33) := ⟨_, rfl⟩
  have hs1 : (w.alloc (.cells (Bl.cL l vp vs vb).toArray 33)).heap.size = w.heap.size + 1 := World.size_alloc _ _
  have hs2 : W2.heap.size = w.heap.size + 1 + 1 := by rw [hW2, World.size_alloc, hs1]
  have hE2 : Bl.Ext w W2 := by rw [hW2]; exact (Bl.ext_alloc _ _).trans (Bl.ext_alloc _ _)
  have hBP : Bl.BoxC W2 P (Bl.cL l vp vs vb) := by
    rw [hW2, hP]; exact (Bl.BoxC.box w 33 (Bl.cL_ne _ _ _ _)).ext (Bl.ext_alloc _ _)
  have hBR : Bl.BoxC W2 R Bl.zL.toList := by
    have h := Bl.BoxC.box (cs := Bl.zL.toList) (w.alloc (.cells (Bl.cL l vp vs vb).toArray 33)) 33 (fun q => by cases q)
    rw [hs1, ← hR] at h
    rw [hW2]; exact h
  have HX : Hid (P = w.heap.size ∧ R = w.heap.size + 1 ∧ W2.heap.size = w.heap.size + 2) := Bl.hid ⟨hP, hR, hs2⟩
  have HE2 := Bl.hid hE2
  have HBP := Bl.hid hBP
  have HBR := Bl.hid hBR
  have HF2 : Hid (Bl.LtF (fun b => b < w.heap.size ∨ w.heap.size + 2 ≤ b) W2 l vp vs vb L) := Bl.hid ((Bl.LtF.of_ltc hc).kept fun b hb hl => ⟨.inl hb, hE2.block b hl⟩)
  have q0 := hBP.cell (i := 0) (v := .int .i64 l.kind) rfl
  have q4 := hBP.cell (i := 4) (v := vs) rfl
  have q7 := hBP.cell (i := 7) (v := vb) rfl
  have q1 := hBP.cell (i := 1) (v := .int .i64 l.id) rfl
  have q2 := hBP.cell (i := 2) (v := .int .i64 l.obj) rfl
  have Hid' := Bl.hid hid
  unfold Bl.cL at hW2
  clear hs1 hs2 hE2 hBP hBR hc hLg hid hls hn hn3
  subst hvs hvb hvp
  show Calls Tryd.prog 11 #[.agg #[.int .i64 l.kind, .int .i64 l.id, .int .i64 l.obj, .slice pp l.places.length cp, .slice ps n csn, .int .i64 l.frm, .int .i64 l.cnt, .slice pb n3 cb, .int .i64 l.code], .int .i64 8, .int .i64 at', .int .i64 y] w _

  go_enter Tryd.func11, Tryd.ntmps11

  go_wp2_with (with_reducible refine Bl.stop_store (ty := 3) ?_)
  refine Bl.go_on ?_
  rw [← hW2, ← hR, ← hP]
  clear hW2 hR hP

  have qi := HBP.out.cell (i := 2) rfl
  have fi := HBP.out.fz (i := 2) (show 2 < 9 by decide)
  have HBz : Hid (Bl.BoxC (W2.setCell ⟨P, 2, none⟩ (.int .i64 at')) P (Bl.cL { l with obj := at' } (.slice pp l.places.length cp) (.slice ps n csn) (.slice pb n3 cb))) := Bl.hid (HBP.out.put (i := 2) (show 2 < 9 by decide) (.int .i64 at'))
  have hKs : Bl.Kq (fun k => k = P) W2 (W2.setCell ⟨P, 2, none⟩ (.int .i64 at')) := (Bl.Kq.refl W2).setCell (Q := fun k => k = P) ⟨P, 2, none⟩ rfl _
  have HFz : Hid (Bl.LtF (fun b => b < w.heap.size ∨ w.heap.size + 2 ≤ b) (W2.setCell ⟨P, 2, none⟩ (.int .i64 at')) { l with obj := at' } (.slice pp l.places.length cp) (.slice ps n csn) (.slice pb n3 cb) L) := Bl.hid (by
    have h := HF2.out.kept (w' := W2.setCell ⟨P, 2, none⟩ (.int .i64 at')) (F' := fun b => b < w.heap.size ∨ w.heap.size + 2 ≤ b) fun b hb hl => ⟨hb, hKs.block b hl (by have := HX.out; omega)⟩
    exact ⟨h.pl, h.sh, h.so, h.sl, h.bl⟩)
  have HBRz := Bl.hid (hKs.box (by have := HX.out; omega) HBR.out)
  have HKz : Hid (Bl.Kq (fun k => w.heap.size ≤ k) w (W2.setCell ⟨P, 2, none⟩ (.int .i64 at'))) := Bl.hid ((Bl.Kq.of_ext HE2.out).trans (hKs.mono fun k hk q => by have := HX.out; omega))
  clear hKs

  have Hl9 := Bl.hid (HBz.out.load (P := Tryd.prog) Tryd.underlying33 rfl (by kernel_rfl))
  have hone9 := HFz.out.ltc.one
  have Hst9 := Bl.hid (HBRz.out.store (P := Tryd.prog) (cs' := Bl.cL ({ l with obj := at' }) (.slice pp l.places.length cp) (.slice ps n csn) (.slice pb n3 cb)) rfl hone9 (ty := 33) (by kernel_rfl))
  have HBR9 := Bl.hid (HBRz.out.set (cs' := Bl.cL ({ l with obj := at' }) (.slice pp l.places.length cp) (.slice ps n csn) (.slice pb n3 cb)) rfl)
  have HK9 := Bl.hid ((Bl.Kq.refl (W2.setCell ⟨P, 2, none⟩ (.int .i64 at'))).setCells (Q := fun k => k = R) rfl 0 (Bl.cL ({ l with obj := at' }) (.slice pp l.places.length cp) (.slice ps n csn) (.slice pb n3 cb)))
  have HE9 := Bl.hid (HKz.out.trans (HK9.out.mono (Q' := fun k => w.heap.size ≤ k) fun k hk q => by have := HX.out; omega))
  clear hone9
  go_wp2_with (with_reducible refine Bl.stop_load (ty := 33) ?_)
  refine Bl.go_on ?_
  refine Bl.wpL_load rfl Hl9.out ?_
  go_wp2_with (with_reducible refine Bl.stop_store (ty := 33) ?_)
  refine Bl.go_on ?_
  refine Bl.wpL_store0 rfl rfl Hst9.out ?_
  go_wp2_with fail
  refine bodyPost_ret (v := .tuple #[.agg (Bl.cL ({ l with obj := at' }) (.slice pp l.places.length cp) (.slice ps n csn) (.slice pb n3 cb)).toArray, .bool true]) (Bl.results_cell2 rfl rfl (HBR9.out.loadVar (P := Tryd.prog) Tryd.underlying33 rfl (by kernel_rfl)) rfl) rfl ?_
  have hsp := (show Bl.bendL 8 at' y l = ({ l with obj := at' }, true) from rfl)
  unfold Bl.BeR
  rw [hsp]
  exact ⟨_, rfl, ⟨_, _, _, _, _, rfl, (HFz.out.kept (F' := fun _ => True) fun k hk hlk => ⟨trivial, HK9.out.block k hlk (by have := HX.out; omega)⟩).ltc⟩, HE9.out.ext fun k q => q⟩
end Go.Proofs.YtmmolapkddbibaaDoor

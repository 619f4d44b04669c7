/- Walk of the helper shows of layer 39's laws, where a diary and its model hold the same notes. -/
import Derived.Test.YtmfooocdnoflaaaDoorDia1
import Derived.Test.YtmfooocdnoflaaaDoorDia3
namespace Go.Proofs.Bl
open Go Go.RowKit
theorem cN_sub {w : World} {g o : Nat} {x : Nt} (h : w.rangeAt g o (cN x)) : w.rangeAt g (o + 1) (ints .u8 x.2) := fun j v hv => by
  have := h (j + 1) v (by simpa [cN] using hv)
  rw [show o + 1 + j = o + (j + 1) by omega]; exact this
theorem cN_zero {w : World} {g o : Nat} {x : Nt} (h : w.rangeAt g o (cN x)) : w.cell? ⟨g, o, none⟩ = some (.int .i64 (x.1 : Int)) := h 0 _ rfl
end Go.Proofs.Bl
namespace Go.Proofs.YtmfooocdnoflaaaDoor
open Go Go.RowKit Go.Proofs

theorem eqN_same (x : Bl.Nt) (hl : x.2.length = 32) (w : World) : (Op.equalIn 10000 57 (.agg (Bl.cN x).toArray) (.agg (Bl.cN x).toArray)).run Tryd.prog w = .ok true w := by
  rw [run_equalIn_agg w 9999 _ _ _ (by kernel_rfl) (by kernel_rfl)]
  have hr : ∀ w, (Op.equalIn 9999 39 (.agg (Bl.ints .u8 x.2).toArray) (.agg (Bl.ints .u8 x.2).toArray)).run Tryd.prog w = .ok true w := fun w => by
    rw [Bl.eqIn_ints w 9997 Tryd.underlying39 Tryd.underlying5 (fun w => by simp [go_sem]) x.2 x.2 hl hl]; simp
  have hs : (sizeOf 39).run Tryd.prog w = .ok 32 w := by simp [go_sem]
  have hx : List.take 32 (Bl.ints .u8 x.2) = Bl.ints .u8 x.2 := List.take_of_length_le (by rw [Bl.ints_length, hl]; exact Nat.le_refl _)
  simp only [Program.fieldsOf, Tryd.underlying57]
  simp [Op.eqFields, part, isAgg, run_underlying Tryd.underlying39, run_underlying Tryd.underlying3, hx, hr, run_equalIn_int w 9998 3 .i64 .i64 _ _ Tryd.underlying3, Bl.cN]

theorem eqN_zero (w : World) : (Op.equalIn 10000 57 (.agg (Bl.cN Bl.n0).toArray) (.agg #[.int .i64 0, .int .u8 0, .int .u8 0, .int .u8 0, .int .u8 0, .int .u8 0, .int .u8 0, .int .u8 0, .int .u8 0, .int .u8 0, .int .u8 0, .int .u8 0, .int .u8 0, .int .u8 0, .int .u8 0, .int .u8 0, .int .u8 0, .int .u8 0, .int .u8 0, .int .u8 0, .int .u8 0, .int .u8 0, .int .u8 0, .int .u8 0, .int .u8 0, .int .u8 0, .int .u8 0, .int .u8 0, .int .u8 0, .int .u8 0, .int .u8 0, .int .u8 0, .int .u8 0])).run Tryd.prog w = .ok true w := eqN_same Bl.n0 rfl w

set_option maxRecDepth 100000 in
set_option maxHeartbeats 2000000 in
theorem shows_any (b bm : Nat) (v vm : Value) (N : List Bl.Nt) (w : World) (hD : Bl.Di w b v N) (hM : Bl.Dm w bm vm N) (hl : N.length ≤ 500) :
    Calls Tryd.prog 16 #[.pointer (some ⟨b, 0, none⟩), .pointer (some ⟨bm, 0, none⟩)] w fun e w' => e = .returned (.bool true) ∧ Bl.Ext w w' := by
  have HNo := Bl.hid (dnotes_any b v N w hD (by omega))
  have HLs := Bl.hid (fun w2 (h2 : Bl.Ext w w2) => dlast_any b v N w2 (hD.ext h2) (by omega))
  have hd0 := hD.dig
  obtain ⟨pm, cm, hmf, hmn, hmc⟩ := hM.rd.rds.form
  subst hmf
  have HM := Bl.hid hM
  have Hd := Bl.hid hd0
  have hlast : Hid ((Bl.lastN N).2.length = 32) := Bl.hid (by
    unfold Bl.lastN
    rcases Nat.lt_or_ge (N.length - 1) N.length with h | h
    · exact (hd0 _ (Bl.getD_mem Bl.n0 h)).1
    · rw [List.getD_eq_getElem?_getD, List.getElem?_eq_none h]; rfl)
  obtain ⟨n, hn⟩ : ∃ n, n = N.length := ⟨_, rfl⟩
  have Hn := Bl.hid hn
  rw [← hn] at HNo HLs hmn hl HM
  clear hD hM hd0 hn
  unfold maxLen at hmc
  go_enter Tryd.func16, Tryd.ntmps16
  go_wp2_with fail
  refine HNo.out.mono ?_
  rintro e w1 ⟨v', rfl, hown, hE1⟩
  have hR1 : Bl.Rds w1 v' n (Bl.cellsR Bl.cN N) := Bl.Rds.of_owns hown
  obtain ⟨p, c, hvf, hvn, hvc⟩ := hR1.form
  subst hvf
  unfold maxLen at hvc
  have HR1 := Bl.hid hR1
  have HE1 := Bl.hid hE1
  have HM1 := Bl.hid (HM.out.ext hE1)
  have hm0 := HM1.out.c0
  clear hown hR1 hE1 HNo HM
  go_wp2_with fail
  go_loopw [22] (fun x wr => ∃ i : Nat, i ≤ n ∧ x = .int .i64 i ∧ Bl.Ext w1 wr) (fun x _ => n - (intOf x).toNat)
  case atStart => exact ⟨0, Nat.zero_le _, rfl, Below.refl _ _⟩
  case round =>
    obtain ⟨i, hi, rfl, hE⟩ := hrel
    have HE := Bl.hid hE
    clear hE
    by_cases hlt : i < n
    · have hin : i < N.length := by rw [← Hn.out]; exact hlt
      have hRi : Bl.RdN wr (.slice p n c) N := by have h := HR1.out.ext HE.out; rw [Hn.out] at h ⊢; exact h
      have hMi : Bl.RdN wr (.slice pm n cm) N := by have h := (HM1.out.ext HE.out).rd.rds; rw [Hn.out] at h ⊢; exact h
      obtain ⟨g, o, cc, hpe, hcn, hcm, hgl, hel⟩ := hRi.pos Hd.out (by omega)
      injection hpe with hp1 hp2 hp3
      subst hp1 hp3
      obtain ⟨gm, om, ccm, hpem, hcnm, hcmm, hglm, helm⟩ := hMi.pos Hd.out (by omega)
      injection hpem with hpm1 hpm2 hpm3
      subst hpm1 hpm3
      have hrg := hel i hin
      have hrm := helm i hin
      have hm := Bl.getD_mem Bl.n0 hin
      have hxd := (Hd.out _ hm).1
      obtain ⟨x, hx⟩ : ∃ x, x = N.getD i Bl.n0 := ⟨_, rfl⟩
      rw [← hx] at hrg hrm hxd
      have Hld := Bl.hid (run_loadAt_mid (P := Tryd.prog) wr g (o + i * 33) 57 _ _ hrg Tryd.underlying57 rfl (by rw [Bl.cN_len hxd]; kernel_rfl))
      obtain ⟨HB6, HE6⟩ := Bl.BoxC.fresh (cs := Bl.cN x) wr 57 #[.int .i64 0, .int .u8 0, .int .u8 0, .int .u8 0, .int .u8 0, .int .u8 0, .int .u8 0, .int .u8 0, .int .u8 0, .int .u8 0, .int .u8 0, .int .u8 0, .int .u8 0, .int .u8 0, .int .u8 0, .int .u8 0, .int .u8 0, .int .u8 0, .int .u8 0, .int .u8 0, .int .u8 0, .int .u8 0, .int .u8 0, .int .u8 0, .int .u8 0, .int .u8 0, .int .u8 0, .int .u8 0, .int .u8 0, .int .u8 0, .int .u8 0, .int .u8 0, .int .u8 0] (by rw [Bl.cN_len hxd]; rfl) (Bl.cN_ne x)
      have Hst := Bl.hid (Bl.fresh_store (P := Tryd.prog) (cs := Bl.cN x) wr 57 #[.int .i64 0, .int .u8 0, .int .u8 0, .int .u8 0, .int .u8 0, .int .u8 0, .int .u8 0, .int .u8 0, .int .u8 0, .int .u8 0, .int .u8 0, .int .u8 0, .int .u8 0, .int .u8 0, .int .u8 0, .int .u8 0, .int .u8 0, .int .u8 0, .int .u8 0, .int .u8 0, .int .u8 0, .int .u8 0, .int .u8 0, .int .u8 0, .int .u8 0, .int .u8 0, .int .u8 0, .int .u8 0, .int .u8 0, .int .u8 0, .int .u8 0, .int .u8 0, .int .u8 0] (by rw [Bl.cN_len hxd]; rfl) (Bl.cN_one x) (ty := 57) (by rw [Bl.cN_len hxd]; kernel_rfl))
      have hmr := Bl.rangeAt_ext hrm HE6
      have hM6 := (HM1.out.ext (HE.out.trans HE6)).c0
      have hM6l := (HM1.out.ext (HE.out.trans HE6)).lt
      have HB := Bl.hid HB6
      replace HE6 := Bl.hid (HE.out.trans HE6)
      have hi0 : (0 : Int) ≤ (i : Int) := by omega
      have hi1 : (i : Int) < (n : Int) := by omega
      have Hxd := Bl.hid hxd
      clear hel helm hrg hm hx HB6 hp2 hpm2 hcn hcm hcnm hcmm hin hRi hMi hrm hm0
      go_wp2_with (with_reducible refine Bl.stop_load (ty := 57) ?_)
      refine Bl.go_on ?_
      refine Bl.wpL_load rfl Hld.out ?_
      go_wp2_with (with_reducible refine Bl.stop_store (ty := 57) ?_)
      refine Bl.go_on ?_
      refine Bl.wpL_store0 rfl rfl Hst.out ?_
      generalize (wr.alloc (.cells #[.int .i64 0, .int .u8 0, .int .u8 0, .int .u8 0, .int .u8 0, .int .u8 0, .int .u8 0, .int .u8 0, .int .u8 0, .int .u8 0, .int .u8 0, .int .u8 0, .int .u8 0, .int .u8 0, .int .u8 0, .int .u8 0, .int .u8 0, .int .u8 0, .int .u8 0, .int .u8 0, .int .u8 0, .int .u8 0, .int .u8 0, .int .u8 0, .int .u8 0, .int .u8 0, .int .u8 0, .int .u8 0, .int .u8 0, .int .u8 0, .int .u8 0, .int .u8 0, .int .u8 0] 57)).setCells wr.heap.size 0 (Bl.cN x) = W6 at *
      generalize wr.heap.size = X6 at *
      have HLd : Hid (∀ w2, Bl.Ext W6 w2 → (Instr.loadAt 39 (.pointer (some ⟨X6, 1, none⟩))).run Tryd.prog w2 = .ok (.agg (Bl.ints .u8 x.2).toArray) w2) := Bl.hid fun w2 h2 => Bl.load_ints ((HB.out.ext h2).sub (Bl.cN_root x)) Tryd.underlying39 (by kernel_rfl) Hxd.out
      have HLm : Hid (∀ w2, Bl.Ext W6 w2 → (Instr.loadAt 31 (.pointer (some ⟨gm, om + i * 33 + 1, none⟩))).run Tryd.prog w2 = .ok (.agg (Bl.ints .u8 x.2).toArray) w2) := Bl.hid fun w2 h2 => Bl.load_ints (Bl.cN_sub (Bl.rangeAt_ext hmr h2)) Tryd.underlying31 (by kernel_rfl) Hxd.out
      have hq0 := HB.out.cell (Bl.cN_size x)
      have hqm := Bl.cN_zero hmr
      have hgm : gm < W6.heap.size := World.block_lt_of_cell? _ _ hqm
      have hX6 : X6 < W6.heap.size := HB.out.lt
      have heq : ∀ w, (Op.equalIn 10000 31 (.agg (Bl.ints .u8 x.2).toArray) (.agg (Bl.ints .u8 x.2).toArray)).run Tryd.prog w = .ok true w := fun w =>
        Bl.eq10k_same Tryd.underlying31 Tryd.underlying5 (fun w => by simp [go_sem]) x.2 Hxd.out w
      obtain ⟨z, hz⟩ : ∃ z, z = x.1 := ⟨_, rfl⟩
      obtain ⟨r, hr⟩ : ∃ r, r = x.2 := ⟨_, rfl⟩
      rw [← hz] at hq0 hqm
      rw [← hr] at HLd HLm heq
      clear Hst Hld hmr hxd hz hr
      go_wp2_with fail
      apply Bl.wp_region_ev 23 [27, 28, 29, 30, 31, 32, 33, 34, 35, 36, 37, 38, 39, 40, 41, 42, 43, 44, 45, 46, 47, 48, 49] [Bl.eqv _, Bl.eqv _, Bl.eqv _, Bl.eqv _, Bl.eqv _, Bl.eqv _, Bl.eqv _, Bl.eqv _, Bl.eqv _, Bl.eqv _, Bl.eqv _, Bl.eqv _, Bl.eqv _, Bl.eqv _, Bl.eqv _, Bl.eqv _, Bl.eqv _, Bl.eqv _, Bl.eqv _, Bl.eqv _, Bl.eqv _, Bl.eqv _, Bl.eqv _] (by kernel_rfl) (by kernel_rfl) (by kernel_rfl) (by kernel_rfl)
      case hsteps =>
        refine ⟨?_, ?_, ?_, ?_, ?_, ?_, ?_, ?_, ?_, ?_, ?_, ?_, ?_, ?_, ?_, ?_, ?_, ?_, ?_, ?_, ?_, ?_, ?_, trivial⟩
        all_goals
          intro ev w1 hext hb hd
          have e1 := hb 1 (by decide)
          have e6 := hb 6 (by decide)
          have e7 := hb 7 (by decide)
          clear hb
          simp only [Array.getD_eq_getD_getElem?, List.getElem?_toArray, List.getElem?_cons_succ, List.getElem?_cons_zero, Option.getD_some] at e1 e6 e7
          simp only [Bl.DepsE, List.getElem?_cons_succ, List.getElem?_cons_zero, Option.bind_some, List.getD_cons_succ, List.getD_cons_zero, Bl.eqv, and_true] at hd
          have hc := (Bl.bcell hext).1
          have q0 := (hc _ 0 hX6).trans hq0
          have q1 := (hc _ (om + i * 33) hgm).trans hqm
          have q2 := (hc _ 0 hM6l).trans hM6
          simp only [Bl.Good, Region.wanted, Bl.yieldE, List.getElem?_cons_succ, List.getElem?_cons_zero, Option.bind_some, hd, beq_self_eq_true, if_true]
          first
          | ((with_reducible refine Bl.goodR_load ?_ (HLd.out _ hext) ?_); exact (by first | exact hd | exact hd.2 | exact hd.1.2 | exact hd.1.1.2 | exact hd.1.1.1.2 | exact hd.1.1.1.1.2 | exact hd.1.1.1.1.1.2 | exact hd.1.1.1.1.1.1.2 | exact hd.1.1.1.1.1.1.1.2 | exact hd.1.1.1.1.1.1.1.1.2 | exact hd.1.1.1.1.1.1.1.1.1.2 | exact hd.1.1.1.1.1.1.1.1.1.1.2 | exact hd.1.1.1.1.1.1.1.1.1.1.1.2 | exact hd.1.1.1.1.1.1.1.1.1.1.1.1.2 | exact hd.1.1.1.1.1.1.1.1.1.1.1.1.1.2 | exact hd.1 | exact hd.1.1 | exact hd.1.1.1 | exact hd.1.1.1.1 | exact hd.1.1.1.1.1 | exact hd.1.1.1.1.1.1 | exact hd.1.1.1.1.1.1.1 | exact hd.1.1.1.1.1.1.1.1 | exact hd.1.1.1.1.1.1.1.1.1 | exact hd.1.1.1.1.1.1.1.1.1.1 | exact hd.1.1.1.1.1.1.1.1.1.1.1 | exact hd.1.1.1.1.1.1.1.1.1.1.1.1 | exact hd.1.1.1.1.1.1.1.1.1.1.1.1.1 | exact hd.2.1 | exact hd.2.2.1 | exact hd.2.2.2.1 | exact hd.2.2.2.2.1 | exact hd.2.2.2.2.2.1 | exact hd.2.2.2.2.2.2.1 | exact hd.2.2.2.2.2.2.2.1 | exact hd.2.2.2.2.2.2.2.2.1 | exact hd.2.2.2.2.2.2.2.2.2.1 | exact hd.2.2.2.2.2.2.2.2.2.2.1 | exact hd.2.2.2.2.2.2.2.2.2.2.2.1 | exact hd.2.2.2.2.2.2.2.2.2.2.2.2.1 | exact hd.2.2.2.2.2.2.2.2.2.2.2.2.2.1); exact rfl) | ((with_reducible refine Bl.goodR_load ?_ (HLm.out _ hext) ?_); exact (by first | exact hd | exact hd.2 | exact hd.1.2 | exact hd.1.1.2 | exact hd.1.1.1.2 | exact hd.1.1.1.1.2 | exact hd.1.1.1.1.1.2 | exact hd.1.1.1.1.1.1.2 | exact hd.1.1.1.1.1.1.1.2 | exact hd.1.1.1.1.1.1.1.1.2 | exact hd.1.1.1.1.1.1.1.1.1.2 | exact hd.1.1.1.1.1.1.1.1.1.1.2 | exact hd.1.1.1.1.1.1.1.1.1.1.1.2 | exact hd.1.1.1.1.1.1.1.1.1.1.1.1.2 | exact hd.1.1.1.1.1.1.1.1.1.1.1.1.1.2 | exact hd.1 | exact hd.1.1 | exact hd.1.1.1 | exact hd.1.1.1.1 | exact hd.1.1.1.1.1 | exact hd.1.1.1.1.1.1 | exact hd.1.1.1.1.1.1.1 | exact hd.1.1.1.1.1.1.1.1 | exact hd.1.1.1.1.1.1.1.1.1 | exact hd.1.1.1.1.1.1.1.1.1.1 | exact hd.1.1.1.1.1.1.1.1.1.1.1 | exact hd.1.1.1.1.1.1.1.1.1.1.1.1 | exact hd.1.1.1.1.1.1.1.1.1.1.1.1.1 | exact hd.2.1 | exact hd.2.2.1 | exact hd.2.2.2.1 | exact hd.2.2.2.2.1 | exact hd.2.2.2.2.2.1 | exact hd.2.2.2.2.2.2.1 | exact hd.2.2.2.2.2.2.2.1 | exact hd.2.2.2.2.2.2.2.2.1 | exact hd.2.2.2.2.2.2.2.2.2.1 | exact hd.2.2.2.2.2.2.2.2.2.2.1 | exact hd.2.2.2.2.2.2.2.2.2.2.2.1 | exact hd.2.2.2.2.2.2.2.2.2.2.2.2.1 | exact hd.2.2.2.2.2.2.2.2.2.2.2.2.2.1); exact rfl)
          | (go_simp; first | exact ⟨Below.refl _ _, rfl⟩ | exact ⟨Below.refl _ _, rfl⟩)
      case hmono => exact ⟨Bl.mono_eqv _, Bl.mono_eqv _, Bl.mono_eqv _, Bl.mono_eqv _, Bl.mono_eqv _, Bl.mono_eqv _, Bl.mono_eqv _, Bl.mono_eqv _, Bl.mono_eqv _, Bl.mono_eqv _, Bl.mono_eqv _, Bl.mono_eqv _, Bl.mono_eqv _, Bl.mono_eqv _, Bl.mono_eqv _, Bl.mono_eqv _, Bl.mono_eqv _, Bl.mono_eqv _, Bl.mono_eqv _, Bl.mono_eqv _, Bl.mono_eqv _, Bl.mono_eqv _, Bl.mono_eqv _, trivial⟩
      case hend =>
        intro u w1 hext hend
        simp only [Bl.EndE, List.getElem?_cons_succ, List.getElem?_cons_zero, Option.bind_some, List.getD_cons_succ, List.getD_cons_zero, Bl.eqv, true_and] at hend
        simp only [Bl.fillAct, List.setIfInBounds_toArray, List.set_cons_succ, List.set_cons_zero, List.drop_succ_cons, List.drop_zero, hend]
        have HE7 := Bl.hid (HE6.out.trans hext)
        clear hext hend
        go_wp2_with fail
        go_roundw
        case rel => exact ⟨i + 1, by omega, by go_num, HE7.out⟩
        case measure => simp [intOf]; omega
    · obtain rfl : i = n := by omega
      have HLl := Bl.hid (HLs.out wr (HE1.out.trans HE.out))
      have HEr := Bl.hid (HE1.out.trans HE.out)
      have hRi : Hid (Bl.RdN wr (.slice p i c) N) := Bl.hid (by have h := HR1.out.ext HE.out; rw [Hn.out] at h ⊢; exact h)
      have Hlx : Hid (0 < i → Bl.lastN N = N.getD (i - 1) Bl.n0) := Bl.hid (by rw [Hn.out]; intro _; rfl)
      have Hlz : Hid (i = 0 → Bl.lastN N = Bl.n0) := Bl.hid (by
        rw [Hn.out]
        intro h
        unfold Bl.lastN
        rw [List.getD_eq_getElem?_getD, List.getElem?_eq_none (by omega)]; rfl)
      obtain ⟨x, hx⟩ : ∃ x, x = Bl.lastN N := ⟨_, rfl⟩
      rw [← hx] at HLl hlast Hlx Hlz
      obtain ⟨q, hq⟩ : ∃ q, q = decide (i ≠ 0) := ⟨_, rfl⟩
      rw [← hq] at HLl
      have Hq := Bl.hid hq
      clear hq
      clear hlt hi hm0 HM1 hx
      go_wp2_with fail
      refine HLl.out.mono ?_
      rintro e w7 ⟨rfl, hE7⟩
      have HE7 := Bl.hid (HEr.out.trans hE7)
      obtain ⟨hB8, hE8⟩ := Bl.BoxC.fresh (cs := Bl.cN x) w7 57 #[.int .i64 0, .int .u8 0, .int .u8 0, .int .u8 0, .int .u8 0, .int .u8 0, .int .u8 0, .int .u8 0, .int .u8 0, .int .u8 0, .int .u8 0, .int .u8 0, .int .u8 0, .int .u8 0, .int .u8 0, .int .u8 0, .int .u8 0, .int .u8 0, .int .u8 0, .int .u8 0, .int .u8 0, .int .u8 0, .int .u8 0, .int .u8 0, .int .u8 0, .int .u8 0, .int .u8 0, .int .u8 0, .int .u8 0, .int .u8 0, .int .u8 0, .int .u8 0, .int .u8 0] (by rw [Bl.cN_len hlast.out]; rfl) (Bl.cN_ne x)
      have Hst := Bl.hid (Bl.fresh_store (P := Tryd.prog) (cs := Bl.cN x) w7 57 #[.int .i64 0, .int .u8 0, .int .u8 0, .int .u8 0, .int .u8 0, .int .u8 0, .int .u8 0, .int .u8 0, .int .u8 0, .int .u8 0, .int .u8 0, .int .u8 0, .int .u8 0, .int .u8 0, .int .u8 0, .int .u8 0, .int .u8 0, .int .u8 0, .int .u8 0, .int .u8 0, .int .u8 0, .int .u8 0, .int .u8 0, .int .u8 0, .int .u8 0, .int .u8 0, .int .u8 0, .int .u8 0, .int .u8 0, .int .u8 0, .int .u8 0, .int .u8 0, .int .u8 0] (by rw [Bl.cN_len hlast.out]; rfl) (Bl.cN_one x) (ty := 57) (by rw [Bl.cN_len hlast.out]; kernel_rfl))
      have HB := Bl.hid hB8
      have HR8 : Hid (Bl.RdN _ (.slice p i c) N) := Bl.hid (Bl.Rds.ext hRi.out (hE7.trans hE8))
      have HE8 := Bl.hid (HE7.out.trans hE8)
      clear hE7 hB8 hE8 hRi
      go_wp2_with (with_reducible refine Bl.stop_store (ty := 57) ?_)
      refine Bl.go_on ?_
      refine Bl.wpL_store0 rfl rfl Hst.out ?_
      obtain ⟨W8, hW8⟩ : ∃ W2, W2 = (w7.alloc (.cells #[.int .i64 0, .int .u8 0, .int .u8 0, .int .u8 0, .int .u8 0, .int .u8 0, .int .u8 0, .int .u8 0, .int .u8 0, .int .u8 0, .int .u8 0, .int .u8 0, .int .u8 0, .int .u8 0, .int .u8 0, .int .u8 0, .int .u8 0, .int .u8 0, .int .u8 0, .int .u8 0, .int .u8 0, .int .u8 0, .int .u8 0, .int .u8 0, .int .u8 0, .int .u8 0, .int .u8 0, .int .u8 0, .int .u8 0, .int .u8 0, .int .u8 0, .int .u8 0, .int .u8 0] 57)).setCells w7.heap.size 0 (Bl.cN x) := ⟨_, rfl⟩
      obtain ⟨X8, hX8⟩ : ∃ X2, X2 = w7.heap.size := ⟨_, rfl⟩
      rw [← hW8] at HB HE8 HR8 ⊢
      rw [← hX8] at HB ⊢
      clear hW8 hX8 Hst
      have HLd : Hid (∀ w2, Bl.Ext W8 w2 → (Instr.loadAt 57 (.pointer (some ⟨X8, 0, none⟩))).run Tryd.prog w2 = .ok (.agg (Bl.cN x).toArray) w2) := Bl.hid fun w2 h2 => (HB.out.ext h2).load (P := Tryd.prog) Tryd.underlying57 rfl (by rw [Bl.cN_len hlast.out]; kernel_rfl)
      have hni : N.length = i := Hn.out.symm
      by_cases hz : i = 0
      · have hx0 : x = Bl.n0 := Hlz.out hz
        subst hz
        have hd0 : q = false := Hq.out
        subst hd0
        subst hx0
        clear hni Hn Hq
        go_wp2_with fail
        apply Bl.wp_region_ev 17 [57, 58, 59, 60, 61, 62, 63, 64, 65, 66, 67, 68, 69, 70, 71, 72, 73] [Bl.eqv _, Bl.eqv _, Bl.eqv _, Bl.eqv _, Bl.eqv _, Bl.eqv _, Bl.eqv _, Bl.eqv _, Bl.eqv _, Bl.eqv _, Bl.eqv _, Bl.eqv _, Bl.eqv _, Bl.eqv _, Bl.eqv _, Bl.eqv _, Bl.eqv _] (by kernel_rfl) (by kernel_rfl) (by kernel_rfl) (by kernel_rfl)
        case hsteps =>
          refine ⟨?_, ?_, ?_, ?_, ?_, ?_, ?_, ?_, ?_, ?_, ?_, ?_, ?_, ?_, ?_, ?_, ?_, trivial⟩
          all_goals
            intro ev w1 hext hb hd
            have e5 := hb 5 (by decide)
            have e8 := hb 8 (by decide)
            have e9 := hb 9 (by decide)
            clear hb
            simp only [Array.getD_eq_getD_getElem?, List.getElem?_toArray, List.getElem?_cons_succ, List.getElem?_cons_zero, Option.getD_some] at e5 e8 e9
            simp only [Bl.DepsE, List.getElem?_cons_succ, List.getElem?_cons_zero, Option.bind_some, List.getD_cons_succ, List.getD_cons_zero, Bl.eqv, and_true] at hd
            have hc := (Bl.bcell hext).1
            simp only [Bl.Good, Region.wanted, Bl.yieldE, List.getElem?_cons_succ, List.getElem?_cons_zero, Option.bind_some, hd, beq_self_eq_true, if_true]
            go_simp
            first | exact rfl | exact ⟨Below.refl _ _, rfl⟩ | exact ⟨Below.refl _ _, rfl⟩
        case hmono => exact ⟨Bl.mono_eqv _, Bl.mono_eqv _, Bl.mono_eqv _, Bl.mono_eqv _, Bl.mono_eqv _, Bl.mono_eqv _, Bl.mono_eqv _, Bl.mono_eqv _, Bl.mono_eqv _, Bl.mono_eqv _, Bl.mono_eqv _, Bl.mono_eqv _, Bl.mono_eqv _, Bl.mono_eqv _, Bl.mono_eqv _, Bl.mono_eqv _, Bl.mono_eqv _, trivial⟩
        case hend =>
          intro u w1 hext hend
          simp only [Bl.EndE, List.getElem?_cons_succ, List.getElem?_cons_zero, Option.bind_some, List.getD_cons_succ, List.getD_cons_zero, Bl.eqv, true_and] at hend
          simp only [Bl.fillAct, List.setIfInBounds_toArray, List.set_cons_succ, List.set_cons_zero, List.drop_succ_cons, List.drop_zero, hend]
          have HE9 := Bl.hid (HE8.out.trans hext)
          have heq : ∀ w, (Op.equalIn 10000 57 (.agg (Bl.cN Bl.n0).toArray) (.agg #[.int .i64 0, .int .u8 0, .int .u8 0, .int .u8 0, .int .u8 0, .int .u8 0, .int .u8 0, .int .u8 0, .int .u8 0, .int .u8 0, .int .u8 0, .int .u8 0, .int .u8 0, .int .u8 0, .int .u8 0, .int .u8 0, .int .u8 0, .int .u8 0, .int .u8 0, .int .u8 0, .int .u8 0, .int .u8 0, .int .u8 0, .int .u8 0, .int .u8 0, .int .u8 0, .int .u8 0, .int .u8 0, .int .u8 0, .int .u8 0, .int .u8 0, .int .u8 0, .int .u8 0])).run Tryd.prog w = .ok true w := eqN_zero
          have Hl9 := Bl.hid (HLd.out _ hext)
          clear hext hend
          go_wp2_with (with_reducible refine Bl.stop_loadg (ty := 57) ?_)
          refine Bl.go_on ?_
          refine Bl.wpL_loadg rfl rfl Hl9.out ?_
          go_wp2_with fail
          go_ret
          exact ⟨rfl, HE9.out⟩
      · have hd0 : q = true := Hq.out.trans (decide_eq_true hz)
        subst hd0
        have hin : i - 1 < N.length := by omega
        obtain ⟨g, o, cc, hpe, hcn, hcm, hgl, hel⟩ := Bl.RdN.pos (by have h := HR8.out; rw [← hni] at h; exact h) Hd.out (by omega)
        injection hpe with hp1 hp2 hp3
        subst hp1 hp3
        have hrg := hel (i - 1) hin
        rw [← Hlx.out (by omega)] at hrg
        have HLe : Hid (∀ w2, Bl.Ext W8 w2 → (Instr.loadAt 57 (.pointer (some ⟨g, o + (i - 1) * 33, none⟩))).run Tryd.prog w2 = .ok (.agg (Bl.cN x).toArray) w2) := Bl.hid fun w2 h2 => run_loadAt_mid (P := Tryd.prog) w2 g (o + (i - 1) * 33) 57 _ _ (Bl.rangeAt_ext hrg h2) Tryd.underlying57 rfl (by rw [Bl.cN_len hlast.out]; kernel_rfl)
        obtain ⟨j, hj⟩ : ∃ j, i = j + 1 := ⟨i - 1, by omega⟩
        subst hj
        rw [Nat.add_sub_cancel] at HLe
        have hi0 : (0 : Int) ≤ (j : Int) := by omega
        have hi1 : (j : Int) < ((j + 1 : Nat) : Int) := by omega
        have hi2 : ((j + 1 : Nat) : Int) - 1 = (j : Int) := by omega
        have hj5 : j < 500 := by omega
        have hi3 : IntKind.i64.wrap (j : Int) = (j : Int) := IntWalk.i64_in _ (by omega)
        have hi5 : (j : Int) < (j : Int) + 1 := by omega
        have hi4 : (0 : Int) < ((j + 1 : Nat) : Int) := by omega
        have heq : ∀ w, (Op.equalIn 10000 57 (.agg (Bl.cN x).toArray) (.agg (Bl.cN x).toArray)).run Tryd.prog w = .ok true w := eqN_same x hlast.out
        clear hel hrg hcn hcm hin hni hz Hq
        go_wp2_with fail
        apply Bl.wp_region_ev 17 [57, 58, 59, 60, 61, 62, 63, 64, 65, 66, 67, 68, 69, 70, 71, 72, 73] [Bl.eqv _, Bl.eqv _, Bl.eqv _, Bl.eqv _, Bl.eqv _, Bl.eqv _, Bl.eqv _, Bl.eqv _, Bl.eqv _, Bl.eqv _, Bl.eqv _, Bl.eqv _, Bl.eqv _, Bl.eqv _, Bl.eqv _, Bl.eqv _, Bl.eqv _] (by kernel_rfl) (by kernel_rfl) (by kernel_rfl) (by kernel_rfl)
        case hsteps =>
          refine ⟨?_, ?_, ?_, ?_, ?_, ?_, ?_, ?_, ?_, ?_, ?_, ?_, ?_, ?_, ?_, ?_, ?_, trivial⟩
          all_goals
            intro ev w1 hext hb hd
            have e5 := hb 5 (by decide)
            have e8 := hb 8 (by decide)
            have e9 := hb 9 (by decide)
            clear hb
            simp only [Array.getD_eq_getD_getElem?, List.getElem?_toArray, List.getElem?_cons_succ, List.getElem?_cons_zero, Option.getD_some] at e5 e8 e9
            simp only [Bl.DepsE, List.getElem?_cons_succ, List.getElem?_cons_zero, Option.bind_some, List.getD_cons_succ, List.getD_cons_zero, Bl.eqv, and_true] at hd
            have hc := (Bl.bcell hext).1
            simp only [Bl.Good, Region.wanted, Bl.yieldE, List.getElem?_cons_succ, List.getElem?_cons_zero, Option.bind_some, hd, beq_self_eq_true, if_true]
            first
            | ((with_reducible refine Bl.goodR_load ?_ (HLd.out _ hext) ?_); exact e8; exact rfl) | ((with_reducible refine Bl.goodR_load ?_ (HLe.out _ hext) ?_); exact (by first | exact hd | exact hd.2 | exact hd.1.2 | exact hd.1.1.2 | exact hd.1.1.1.2 | exact hd.1.1.1.1.2 | exact hd.1.1.1.1.1.2 | exact hd.1.1.1.1.1.1.2 | exact hd.1.1.1.1.1.1.1.2 | exact hd.1.1.1.1.1.1.1.1.2 | exact hd.1.1.1.1.1.1.1.1.1.2 | exact hd.1.1.1.1.1.1.1.1.1.1.2 | exact hd.1.1.1.1.1.1.1.1.1.1.1.2 | exact hd.1.1.1.1.1.1.1.1.1.1.1.1.2 | exact hd.1.1.1.1.1.1.1.1.1.1.1.1.1.2 | exact hd.1 | exact hd.1.1 | exact hd.1.1.1 | exact hd.1.1.1.1 | exact hd.1.1.1.1.1 | exact hd.1.1.1.1.1.1 | exact hd.1.1.1.1.1.1.1 | exact hd.1.1.1.1.1.1.1.1 | exact hd.1.1.1.1.1.1.1.1.1 | exact hd.1.1.1.1.1.1.1.1.1.1 | exact hd.1.1.1.1.1.1.1.1.1.1.1 | exact hd.1.1.1.1.1.1.1.1.1.1.1.1 | exact hd.1.1.1.1.1.1.1.1.1.1.1.1.1 | exact hd.2.1 | exact hd.2.2.1 | exact hd.2.2.2.1 | exact hd.2.2.2.2.1 | exact hd.2.2.2.2.2.1 | exact hd.2.2.2.2.2.2.1 | exact hd.2.2.2.2.2.2.2.1 | exact hd.2.2.2.2.2.2.2.2.1 | exact hd.2.2.2.2.2.2.2.2.2.1 | exact hd.2.2.2.2.2.2.2.2.2.2.1 | exact hd.2.2.2.2.2.2.2.2.2.2.2.1 | exact hd.2.2.2.2.2.2.2.2.2.2.2.2.1 | exact hd.2.2.2.2.2.2.2.2.2.2.2.2.2.1); exact rfl)
            | (go_simp; first | exact rfl | exact ⟨Below.refl _ _, rfl⟩ | exact ⟨Below.refl _ _, rfl⟩)
        case hmono => exact ⟨Bl.mono_eqv _, Bl.mono_eqv _, Bl.mono_eqv _, Bl.mono_eqv _, Bl.mono_eqv _, Bl.mono_eqv _, Bl.mono_eqv _, Bl.mono_eqv _, Bl.mono_eqv _, Bl.mono_eqv _, Bl.mono_eqv _, Bl.mono_eqv _, Bl.mono_eqv _, Bl.mono_eqv _, Bl.mono_eqv _, Bl.mono_eqv _, Bl.mono_eqv _, trivial⟩
        case hend =>
          intro u w1 hext hend
          simp only [Bl.EndE, List.getElem?_cons_succ, List.getElem?_cons_zero, Option.bind_some, List.getD_cons_succ, List.getD_cons_zero, Bl.eqv, true_and] at hend
          simp only [Bl.fillAct, List.setIfInBounds_toArray, List.set_cons_succ, List.set_cons_zero, List.drop_succ_cons, List.drop_zero, hend]
          have HE9 := Bl.hid (HE8.out.trans hext)
          clear hext hend
          go_wp2_with fail
          go_ret
          exact ⟨rfl, HE9.out⟩
end Go.Proofs.YtmfooocdnoflaaaDoor

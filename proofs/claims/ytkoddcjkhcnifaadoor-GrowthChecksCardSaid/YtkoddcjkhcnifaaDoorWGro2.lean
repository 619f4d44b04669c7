/- Walk of growth.Frontier.Add. -/
import Derived.Test.YtkoddcjkhcnifaaDoorWGro1
import Derived.Test.YtkoddcjkhcnifaaDoorFroA
namespace Go.Proofs.Bl
open Go Go.RowKit
theorem take_D {ds : List (List Int)} (h : Dig ds) (j k : Nat) : (cellsD (ds.take k)).take (j * 32) = cellsD ((ds.take k).take j) := cellsD_take (h.take k) j
theorem and_one (m : Nat) (h : m < 2 ^ 63) : bits .and .i64 (m : Int) 1 = ((m % 2 : Nat) : Int) := by
  have h1 := bits_mask .i64 63 (by decide) wrapsi63 1 (by decide) (m : Int) (by omega) (by omega)
  rw [show ((2 : Int) ^ 1 - 1) = 1 by decide, show ((2 : Int) ^ 1) = 2 by decide] at h1
  rw [h1]; omega
/-- in the rounds of Add: the frontier as far as it has been cut -/
structure AddR (w0 wb w : World) (b D : Nat) (p : Option Addr) (n k c : Nat) (ds : List (List Int)) (dg : List Int) : Prop where
  c0 : w.cell? ⟨b, 0, none⟩ = some (.int .i64 n)
  c1 : w.cell? ⟨b, 1, none⟩ = some (.slice p k c)
  f0 : w.frozen? ⟨b, 0, none⟩ = false
  f1 : w.frozen? ⟨b, 1, none⟩ = false
  box : BoxD w D dg
  pk : Pk w 0 32 (.slice p k c) k (cellsD (ds.take k))
  ad : Adds w0 w b none
  ext : Ext wb w
theorem BoxD.kept {w w' : World} {X : Nat} {d : List Int} (h : BoxD w X d) (hb : w'.heap[X]? = w.heap[X]?) : BoxD w' X d :=
  ⟨fun j v hv => by rw [World.cell?_of_block (w := w) hb]; exact h.rg j v hv, fun j hj => by rw [World.cell?_of_block (w := w) hb, World.frozen?_of_block (w := w) hb]; exact h.th j hj, h.len⟩
theorem AddR.boxed {w0 wb w w' : World} {b D : Nat} {p : Option Addr} {n k c : Nat} {ds : List (List Int)} {dg dg' : List Int} (h : AddR w0 wb w b D p n k c ds dg) (hB : Below D w w') (hb : b < D) (hp : ∀ g, (Value.slice p k c).ownBlock = some g → g < D) (h0 : w0.heap.size ≤ D) (hwb : wb.heap.size ≤ D) (hx : BoxD w' D dg') : AddR w0 wb w' b D p n k c ds dg' :=
  ⟨((bcell hB).1 _ _ hb).trans h.c0, ((bcell hB).1 _ _ hb).trans h.c1, ((bcell hB).2 _ _ hb).trans h.f0, ((bcell hB).2 _ _ hb).trans h.f1, hx, h.pk.kept (fun g hg => hB.block g (hp g hg)) hB.size,
    ⟨hB.os.trans h.ad.os, hB.tape.trans h.ad.tape, hB.output.trans h.ad.output, Nat.le_trans h.ad.size hB.size, fun j hj hjb hjr => (hB.block j (Nat.lt_of_lt_of_le hj h0)).trans (h.ad.block j hj hjb hjr)⟩,
    ⟨hB.os.trans h.ext.os, hB.tape.trans h.ext.tape, hB.output.trans h.ext.output, Nat.le_trans h.ext.size hB.size, fun j hj => (hB.block j (Nat.lt_of_lt_of_le hj hwb)).trans (h.ext.block j hj)⟩⟩
/-- the peaks are cut -/
theorem AddR.cut {w0 wb w : World} {b D k1 : Nat} {p : Option Addr} {n c : Nat} {ds : List (List Int)} {dg : List Int} (h : AddR w0 wb w b D p n (k1 + 1) c ds dg) (hD : b ≠ D) (hwb : wb.heap.size ≤ b) (_hk : k1 + 1 ≤ ds.length) (hds : Dig ds) (hp : (Value.slice p (k1 + 1) c).ownBlock ≠ some b) : AddR w0 wb (w.setCell ⟨b, 1, none⟩ (.slice p k1 k1)) b D p n k1 k1 ds dg := by
  have hh : ∀ j, j ≠ b → (w.setCell ⟨b, 1, none⟩ (.slice p k1 k1)).heap[j]? = w.heap[j]? := fun j hj => Below.heap_setCell w ⟨b, 1, none⟩ _ j hj
  have hsz : w.heap.size ≤ (w.setCell ⟨b, 1, none⟩ (.slice p k1 k1)).heap.size := ((Below.refl 0 w).setCell (Nat.zero_le _) _).size
  have hpb : ∀ j, (Value.slice p k1 k1).ownBlock = some j → j ≠ b := fun j hj q => hp (by rw [← q]; cases p <;> exact hj)
  refine ⟨cell_set_ne h.c0 (by decide), ?_, ?_, ?_, h.box.kept (hh D (fun q => hD q.symm)), ?_, ?_, h.ext.setCell hwb _⟩
  · exact World.cell?_setCell_same' _ _ _ (by rw [h.c1]; rfl)
  · rw [World.frozen?_setCell]; exact h.f0
  · rw [World.frozen?_setCell]; exact h.f1
  · have hc := h.pk.cut k1 (Nat.le_succ _)
    rw [cellsD_take (hds.take _) k1, List.take_take, Nat.min_eq_left (Nat.le_succ _)] at hc
    exact hc.kept (fun j hj => hh j (hpb j hj)) hsz
  · exact ⟨h.ad.os, h.ad.tape, h.ad.output, Nat.le_trans h.ad.size hsz, fun j hj hjb hjr => (hh j hjb).trans (h.ad.block j hj hjb hjr)⟩
end Go.Proofs.Bl
namespace Go.Proofs.YtkoddcjkhcnifaaDoor
open Go.RowKit Go.Proofs

set_option maxRecDepth 100000 in
set_option maxHeartbeats 2000000 in
theorem gadd_any (b : Nat) (v vl : Value) (n : Nat) (ds : List (List Int)) (l : List Int) (wb w : World) (hF : Bl.Fr w b v n ds) (hn : n < 1099511627776) (ht : Bl.trail n ≤ ds.length) (hdl : ds.length ≤ 64)
    (hl : Bl.Rd w .u8 vl l) (hbl : Bl.Byt l) (hll : l.length ≤ 1099511627000) (hg : Glob wb) (hE0 : Bl.Ext wb w) (hb : wb.heap.size ≤ b) (hv : ∀ k, v.ownBlock = some k → wb.heap.size ≤ k) :
    Calls Tryd.prog 14 #[.pointer (some ⟨b, 0, none⟩), vl] w fun e w' => e = .returned .nilIface ∧ ∃ v', Bl.Fr w' b v' (n + 1) (Bl.carry Bl.ndD (Bl.trail n) ds (Bl.lfD l)) ∧ (∀ k, v'.ownBlock = some k → v.ownBlock = some k ∨ w.heap.size ≤ k) ∧ Bl.Adds w w' b v.ownBlock := by
  have hc0 := hF.c0
  have HLf := Bl.hid (leaf_any vl l w hl (hg.ext hE0) hbl hll)
  have Hg := Bl.hid hg
  have HE0 := Bl.hid hE0
  obtain ⟨p, c, hvf, hvn, hvc⟩ := hF.pk.rds.form
  subst hvf
  have HF := Bl.hid hF
  have Hb := Bl.hid hb
  have Hv := Bl.hid hv
  have Ht := Bl.hid ht
  have Hdl := Bl.hid hdl
  have hn1 : ¬ ((1099511627776 : Int) ≤ (n : Int)) := by omega
  clear hF hl hbl hll hg hE0 hb hv ht hvn hvc
  go_enter Tryd.func14, Tryd.ntmps14
  go_wp2_with fail
  refine HLf.out.mono ?_
  rintro e w1 ⟨rfl, hE1⟩
  have Hd0 : Hid ((Bl.lfD l).length = 32 ∧ Bl.Byt (Bl.lfD l)) := Bl.hid (Bl.lfD_dig l)
  obtain ⟨d0, hd0⟩ : ∃ d0, d0 = Bl.lfD l := ⟨_, rfl⟩
  rw [← hd0] at Hd0 ⊢
  have Hd0e := Bl.hid hd0
  have HE1 := Bl.hid hE1
  have HF5 := Bl.hid (fam_new w1 32 .u8 41 #[.int .u8 0, .int .u8 0, .int .u8 0, .int .u8 0, .int .u8 0, .int .u8 0, .int .u8 0, .int .u8 0, .int .u8 0, .int .u8 0, .int .u8 0, .int .u8 0, .int .u8 0, .int .u8 0, .int .u8 0, .int .u8 0, .int .u8 0, .int .u8 0, .int .u8 0, .int .u8 0, .int .u8 0, .int .u8 0, .int .u8 0, .int .u8 0, .int .u8 0, .int .u8 0, .int .u8 0, .int .u8 0, .int .u8 0, .int .u8 0, .int .u8 0, .int .u8 0] rfl)
  have Hst := Bl.hid (Bl.store_ints (P := Tryd.prog) (ty := 41) (k := .u8) (l := d0) (n := 32) HF5.out.there (by kernel_rfl) Hd0.out.1)
  have HEd : Hid (Bl.Ext w1 ((w1.alloc (.cells #[.int .u8 0, .int .u8 0, .int .u8 0, .int .u8 0, .int .u8 0, .int .u8 0, .int .u8 0, .int .u8 0, .int .u8 0, .int .u8 0, .int .u8 0, .int .u8 0, .int .u8 0, .int .u8 0, .int .u8 0, .int .u8 0, .int .u8 0, .int .u8 0, .int .u8 0, .int .u8 0, .int .u8 0, .int .u8 0, .int .u8 0, .int .u8 0, .int .u8 0, .int .u8 0, .int .u8 0, .int .u8 0, .int .u8 0, .int .u8 0, .int .u8 0, .int .u8 0] 41)).setCells w1.heap.size 0 (Bl.ints .u8 d0))) := Bl.hid (Bl.below_setCells _ _ _ _ (Bl.ext_alloc _ _) (Nat.le_refl _))
  have Hbox := Bl.hid (Bl.BoxD.of_fam HF5.out Hd0.out.1)
  clear hE1 hd0 HLf hc0
  go_wp2_with (with_reducible refine Bl.stop_store (ty := 41) ?_)
  refine Bl.go_on ?_
  refine Bl.wpL_store0 rfl rfl Hst.out ?_
  have HDl : Hid (w.heap.size ≤ w1.heap.size) := Bl.hid HE1.out.size
  generalize hWS : (w1.alloc (.cells #[.int .u8 0, .int .u8 0, .int .u8 0, .int .u8 0, .int .u8 0, .int .u8 0, .int .u8 0, .int .u8 0, .int .u8 0, .int .u8 0, .int .u8 0, .int .u8 0, .int .u8 0, .int .u8 0, .int .u8 0, .int .u8 0, .int .u8 0, .int .u8 0, .int .u8 0, .int .u8 0, .int .u8 0, .int .u8 0, .int .u8 0, .int .u8 0, .int .u8 0, .int .u8 0, .int .u8 0, .int .u8 0, .int .u8 0, .int .u8 0, .int .u8 0, .int .u8 0] 41)).setCells w1.heap.size 0 (Bl.ints .u8 d0) = W2 at *
  generalize w1.heap.size = D at *
  clear hWS Hst HF5
  have HE2 := Bl.hid (HE1.out.trans HEd.out)
  have HF2 := Bl.hid (HF.out.ext HE2.out)
  have hc0 := HF2.out.c0
  have HR0 : Hid (Bl.AddR w wb W2 b D p n ds.length c ds d0) := Bl.hid ⟨HF2.out.c0, HF2.out.c1, HF2.out.f0, HF2.out.f1, Hbox.out, by have h := HF2.out.pk; rw [List.take_length]; exact h, ⟨HE2.out.os, HE2.out.tape, HE2.out.output, HE2.out.size, fun k hk _ _ => HE2.out.block k hk⟩, HE0.out.trans HE2.out⟩
  clear Hbox HEd HE1 HF2
  go_wp2_with fail
  go_loopw [6] (fun n' wr => ∃ (j m k ck : Nat) (dg : List Int), n' = .int .i64 m ∧ Hid (j ≤ Bl.trail n ∧ m = n / 2 ^ j ∧ k + j = ds.length ∧ dg = (ds.drop k).foldr Bl.ndD d0 ∧ dg.length = 32 ∧ Bl.Byt dg) ∧ Hid (Bl.AddR w wb wr b D p n k ck ds dg)) (fun n' _ => (intOf n').toNat)
  case atStart => exact ⟨0, n, ds.length, c, d0, rfl, Bl.hid ⟨Nat.zero_le _, by simp, rfl, by rw [List.drop_length]; rfl, Hd0.out.1, Hd0.out.2⟩, HR0.out⟩
  case round =>
    obtain ⟨j, m, k, ck, dg, rfl, HA, HR⟩ := hrel
    clear HR0 hc0
    obtain ⟨hj, hm, hk, hdg, hdl, hdb⟩ := HA.out
    have hmn : m ≤ n := by rw [hm]; exact Nat.div_le_self _ _
    have hbit := Bl.trail_bit j n hj
    rw [← hm] at hbit
    have hand := Bl.and_one m (by omega)
    by_cases hodd : m % 2 = 1
    · rw [hodd] at hand
      have hand1 : bits .and .i64 (m : Int) 1 = 1 := hand
      have hj1 := hbit.1 hodd
      obtain ⟨k1, rfl⟩ : ∃ k1, k = k1 + 1 := ⟨k - 1, by have := Ht.out; omega⟩
      have hk1 : k1 < ds.length := by omega
      have hpk := HR.out.pk
      obtain ⟨g, hpg⟩ : ∃ g, p = some ⟨g, 0, none⟩ := by
        rcases hpk with ⟨hv, _⟩ | ⟨g, cap, hv, _⟩
        · injection hv with _ hv; omega
        · injection hv with hv; exact ⟨g, hv⟩
      obtain ⟨hgl, hkc, hmx, hrg⟩ : g < wr.heap.size ∧ k1 + 1 ≤ ck ∧ ck ≤ maxLen ∧ wr.rangeAt g 0 (Bl.cellsD (ds.take (k1 + 1))) := by
        subst hpg
        rcases hpk with ⟨hv, _⟩ | ⟨g2, cap, hv, _, hp⟩
        · cases hv
        · injection hv with h1 h2 h3
          injection h1 with h1
          injection h1 with h1
          subst h1 h3
          exact ⟨hp.lt, hp.le, hp.mx, hp.rg⟩
      subst hpg
      have hr1 := Bl.digit_at hrg (HF.out.dig.take _) (i := k1) (by rw [List.length_take]; omega)
      have hgd : (ds.take (k1 + 1)).getD k1 [] = ds.getD k1 [] := by
        rw [List.getD_eq_getElem?_getD, List.getD_eq_getElem?_getD, List.getElem?_take, if_pos (by omega)]
      rw [hgd, Nat.zero_add] at hr1
      obtain ⟨hll, hlb⟩ := HF.out.dig.get hk1
      have hnd := Bl.foldr_drop Bl.ndD ds d0 [] j (by omega)
      rw [show ds.length - (j + 1) = k1 by omega, show ds.length - j = k1 + 1 by omega, ← hdg] at hnd
      obtain ⟨e, he⟩ : ∃ e, e = ds.getD k1 [] := ⟨_, rfl⟩
      rw [← he] at hr1 hll hlb hnd
      have hc1 := HR.out.c1
      have HCl : Hid (b < wr.heap.size) := Bl.hid (World.block_lt_of_cell? _ _ hc1)
      have HC1 := Bl.hid hc1
      have HLe : Hid (∀ w2, Bl.Ext wr w2 → (Instr.loadAt 41 (.pointer (some ⟨g, k1 * 32, none⟩))).run Tryd.prog w2 = .ok (.agg (Bl.ints .u8 e).toArray) w2) := Bl.hid fun w2 h2 => Bl.load_ints (Bl.rangeAt_ext hr1 h2) Tryd.underlying41 (by kernel_rfl) hll
      have HLd : Hid (∀ w2, Bl.Ext wr w2 → (Instr.loadAt 41 (.pointer (some ⟨D, 0, none⟩))).run Tryd.prog w2 = .ok (.agg (Bl.ints .u8 dg).toArray) w2) := Bl.hid fun w2 h2 => (HR.out.box.ext h2).load Tryd.underlying41 (by kernel_rfl)
      have HNd : Hid (∀ w2, Bl.Ext wr w2 → Calls Tryd.prog 36 #[.agg (Bl.ints .u8 e).toArray, .agg (Bl.ints .u8 dg).toArray] w2 fun e' w' => e' = .returned (.agg (Bl.ints .u8 (Bl.ndD e dg)).toArray) ∧ Bl.Ext w2 w') := Bl.hid fun w2 h2 =>
        node_any e dg w2 hll hdl hlb hdb (Hg.out.ext (HR.out.ext.trans h2))
      have hwk := IntWalk.wrap64_in (k1 : Int) ⟨by omega, by have := Hdl.out; omega⟩
      have hi0 : (0 : Int) ≤ (k1 : Int) := Int.natCast_nonneg _
      have hi1 : (k1 : Int) < (k1 : Int) + 1 := Int.lt_succ _
      have Hnd := Bl.hid hnd
      have Hll := Bl.hid hll
      have Hj1 := Bl.hid hj1
      have Hk1 := Bl.hid hk1
      have Hm2 : Hid (m < 2 ^ 63) := Bl.hid (by omega)
      clear hand hbit hpk hgl hrg hr1 hgd hll hlb hdl hdb hmx hj hm hk hdg hmn he hnd hj1 hk1
      go_wp2_with fail
      apply Bl.wp_region_ev 9 [31, 32, 33, 34, 35, 36, 37, 38, 39] [Bl.eqv _, Bl.eqv _, Bl.eqv _, Bl.eqv _, Bl.eqv _, Bl.eqv _, Bl.eqv _, Bl.eqv _, Bl.eqv _] (by kernel_rfl) (by kernel_rfl) (by kernel_rfl) (by kernel_rfl)
      case hsteps =>
        refine ⟨?_, ?_, ?_, ?_, ?_, ?_, ?_, ?_, ?_, trivial⟩
        all_goals
          intro ev w1 hext hb hd
          have e0 := hb 0 (by decide)
          have e5 := hb 5 (by decide)
          have e7 := hb 7 (by decide)
          clear hb
          simp only [Array.getD_eq_getD_getElem?, List.getElem?_toArray, List.getElem?_cons_succ, List.getElem?_cons_zero, Option.getD_some] at e0 e5 e7
          simp only [Bl.DepsE, List.getElem?_cons_succ, List.getElem?_cons_zero, Option.bind_some, List.getD_cons_succ, List.getD_cons_zero, Bl.eqv, and_true] at hd
          have hc := (Bl.bcell hext).1
          have q1 := (hc _ 1 HCl.out).trans HC1.out
          simp only [Bl.Good, Region.wanted, if_true]
          first
          | ((with_reducible refine Bl.goodR_load ?_ (HLe.out _ hext) ?_); exact hd; exact rfl) | ((with_reducible refine Bl.goodR_load ?_ (HLd.out _ hext) ?_); first | exact hd | exact e5; exact rfl)
          | (go_simp; first | (go_at_call 36; (with_reducible refine (HNd.out _ hext).mono ?_); rintro e w2 ⟨rfl, hE2⟩; exact ⟨_, rfl, hE2, rfl⟩) | exact ⟨Below.refl _ _, rfl⟩)
      case hmono => exact ⟨Bl.mono_eqv _, Bl.mono_eqv _, Bl.mono_eqv _, Bl.mono_eqv _, Bl.mono_eqv _, Bl.mono_eqv _, Bl.mono_eqv _, Bl.mono_eqv _, Bl.mono_eqv _, trivial⟩
      case hend =>
        intro u w1 hext hend
        simp only [Bl.EndE, List.getElem?_cons_succ, List.getElem?_cons_zero, Option.bind_some, List.getD_cons_succ, List.getD_cons_zero, Bl.eqv, true_and] at hend
        simp only [Bl.fillAct, List.setIfInBounds_toArray, List.set_cons_succ, List.set_cons_zero, List.drop_succ_cons, List.drop_zero, hend]
        have Hnl : Hid ((Bl.ndD e dg).length = 32 ∧ Bl.Byt (Bl.ndD e dg)) := Bl.hid (Bl.ndD_dig _ _)
        obtain ⟨dn, hdn⟩ : ∃ dn, dn = Bl.ndD e dg := ⟨_, rfl⟩
        rw [← hdn] at Hnl ⊢
        have Hdn := Bl.hid hdn
        have hbx := HR.out.box.ext hext
        have Hst := Bl.hid (Bl.store_ints (P := Tryd.prog) (ty := 41) (k := .u8) (l := dn) (n := 32) hbx.th (by kernel_rfl) Hnl.out.1)
        have hbD : b < D := Nat.lt_of_lt_of_le HF.out.lt HDl.out
        have HR9 : Hid (Bl.AddR w wb (w1.setCells D 0 (Bl.ints .u8 dn)) b D (some ⟨g, 0, none⟩) n (k1 + 1) ck ds dn) := Bl.hid (HR.out.boxed (Bl.below_setCells _ _ _ _ (Below.mono hext (Nat.le_of_lt HR.out.box.lt)) (Nat.le_refl _)) hbD (fun j hj => Nat.lt_of_lt_of_le (HF.out.pk.block j hj).2 HDl.out) HDl.out (Nat.le_trans HE0.out.size HDl.out) (hbx.set Hnl.out.1))
        have HbD := Bl.hid hbD
        clear hbx hbD hdn hend hext hc1
        go_wp2_with (with_reducible refine Bl.stop_store (ty := 41) ?_)
        refine Bl.go_on ?_
        refine Bl.wpL_store0 rfl rfl Hst.out ?_
        generalize w1.setCells D 0 (Bl.ints .u8 dn) = W9 at *
        clear Hst
        have hc1 := HR9.out.c1
        have hf1 := HR9.out.f1
        have hx1 : (k1 : Int) ≤ (ck : Int) := by omega
        have HR10 := Bl.hid (HR9.out.cut (Nat.ne_of_lt HbD.out) Hb.out Hk1.out HF.out.dig HF.out.ne)
        go_wp2_with fail
        refine ⟨⟨j + 1, m / 2, k1, k1, dn, by rw [show (m : Int) / 2 = ((m / 2 : Nat) : Int) by omega], Bl.hid ⟨Hj1.out, ?_, ?_, ?_, Hnl.out⟩, HR10.out⟩, ?_⟩
        · rw [HA.out.2.1, Nat.div_div_eq_div_mul, Nat.pow_succ]
        · have := HA.out.2.2.1; omega
        · rw [Hdn.out]; exact Hnd.out.symm
        · simp [intOf]; omega
    · rw [show m % 2 = 0 by omega] at hand
      have hand0 : bits .and .i64 (m : Int) 1 = 0 := hand
      have hjt : j = Bl.trail n := by
        rcases Nat.lt_or_ge j (Bl.trail n) with q | q
        · exact absurd (hbit.2 q) hodd
        · omega
      have hc1 := HR.out.c1
      have Hnd := Bl.hid hdg
      have Hjt := Bl.hid hjt
      have Hkk := Bl.hid hk
      have hdl32 : (Bl.ints .u8 dg).length = 32 := by rw [Bl.ints_length, hdl]
      have HJ0 : Hid (Bl.JA 7 6 57 56 wb.heap.size b D (.slice p k ck) n k (Bl.cellsD (ds.take k)) dg w (fun _ => false) (fun _ => undef) wr) := Bl.hid
        ⟨HR.out.c0, HR.out.c1, HR.out.f0, HR.out.f1, HR.out.box, fun q => HF.out.ne (by cases p <;> exact q), fun q => by have := (HF.out.pk.block D (by cases p <;> exact q)).2; have := HDl.out; omega, Hb.out, fun j hj => Hv.out j (by cases p <;> exact hj),
          ⟨HR.out.ad.os, HR.out.ad.tape, HR.out.ad.output, HR.out.ad.size, fun q hq hqb _ => HR.out.ad.block q hq hqb (by simp)⟩, HE0.out.size, fun _ => HR.out.pk, fun q => (by cases q), fun q => (by cases q)⟩
      have Hd32 := Bl.hid hdl32
      have Hdl2 := Bl.hid (show dg.length = 32 ∧ Bl.Byt dg from ⟨hdl, hdb⟩)
      have Hk64 : Hid (k ≤ 64) := Bl.hid (by omega)
      have HCl : Hid (b < wr.heap.size) := Bl.hid (World.block_lt_of_cell? _ _ hc1)
      clear hand hbit hj hm hk hdg hmn hjt hdl32 hdl hdb
      go_wp2_with fail
      apply Bl.wp_region_evJ (fun a a' => Below wb.heap.size a a') (Bl.JA 7 6 57 56 wb.heap.size b D (.slice p k ck) n k (Bl.cellsD (ds.take k)) dg w) 10 [50, 51, 52, 53, 54, 55, 56, 57, 58, 59] [Bl.eqv _, Bl.eqv _, Bl.eqv _, Bl.eqv _, Bl.eqv _, Bl.eqv _, Bl.anyv, Bl.anyv, Bl.eqv _, Bl.eqv _] (fun w => Below.refl _ w) (fun a b c h k => Below.trans h k) (by kernel_rfl) (by kernel_rfl) (by kernel_rfl) (by kernel_rfl)
      case hsteps =>
        refine ⟨?_, ?_, ?_, ?_, ?_, ?_, ?_, ?_, ?_, ?_, trivial⟩
        all_goals
          intro d ev w1 hext HJd Hanc Hdes hni hb hd
          replace Hanc := Bl.hid Hanc
          replace HJd := Bl.hid HJd
          replace Hdes := Bl.hid Hdes
          replace hni := Bl.hid hni
          have e0 := hb 0 (by decide)
          have e5 := hb 5 (by decide)
          clear hb
          simp only [Array.getD_eq_getD_getElem?, List.getElem?_toArray, List.getElem?_cons_succ, List.getElem?_cons_zero, Option.getD_some] at e0 e5
          simp only [Bl.DepsE, List.getElem?_cons_succ, List.getElem?_cons_zero, Option.bind_some, List.getD_cons_succ, List.getD_cons_zero, Bl.eqv, and_true] at hd
          have hc := (Bl.bcell hext).1
          have q1 := HJd.out.c1
          simp only [Region.wanted, if_true]
          first
          | ((with_reducible refine Bl.goodX_load (fun w => Below.refl _ w) ?_ (HJd.out.box.load Tryd.underlying41 (by kernel_rfl)) ?_); exact e5; exact ⟨rfl, HJd.out.same (by decide)⟩) | ((with_reducible refine Bl.goodX_build1 (cs := (Bl.ints .u8 dg).toArray) tDig (by decide) ?_ ?_ ?_ ?_); exact hd; (simp [Hdl2.out.1]); exact Bl.below_alloc _ _ (Nat.le_trans HJd.out.le HJd.out.ad.size); exact ⟨trivial, HJd.out.lay (by decide) (Hdes.out 7 (by kernel_rfl))⟩) | (obtain ⟨g9, hg56, hrg9⟩ := HJd.out.bl (Hanc.out 6 (by kernel_rfl)) hni.out; (with_reducible refine Bl.goodX_append (m := 1) (c := 1) tDig (HJd.out.pk hni.out) hrg9 ?_ ?_ ?_ ?_ ?_ ?_ ?_ ?_ ?_); (rw [Bl.ints_length, Hdl2.out.1]); exact Bl.ints_one _ _; decide; (have := Hk64.out; unfold maxLen; omega); (have := Hk64.out; omega); exact Nat.zero_le _; exact hd.1; exact hg56; (intro v' w' h2 h3 h4; have h5 := HJd.out.app (by decide) h2 h3 h4; exact ⟨h5.1, trivial, h5.2⟩))
          | (go_simp; first | exact ⟨Below.refl _ _, rfl, HJd.out.same (by decide)⟩ | exact ⟨Below.refl _ _, rfl, Bl.HJ.same (by decide) HJd.out⟩)
      case hmono => exact ⟨Bl.monoR_eqv _, Bl.monoR_eqv _, Bl.monoR_eqv _, Bl.monoR_eqv _, Bl.monoR_eqv _, Bl.monoR_eqv _, Bl.monoR_anyv, Bl.monoR_anyv, Bl.monoR_eqv _, Bl.monoR_eqv _, trivial⟩
      case hR0 => exact (Below.refl _ _).drew
      case hend =>
        intro u w1 hext hJ hend
        simp only [Bl.EndE, List.getElem?_cons_succ, List.getElem?_cons_zero, Option.bind_some, List.getD_cons_succ, List.getD_cons_zero, Bl.eqv, true_and] at hend
        simp only [Bl.fillAct, List.setIfInBounds_toArray, List.set_cons_succ, List.set_cons_zero, List.drop_succ_cons, List.drop_zero, hend]
        obtain ⟨hP, hO⟩ := hJ.nw rfl
        obtain ⟨p9, c9, hv9, _, _⟩ := hP.rds.form
        have HJ := Bl.hid hJ
        have Hv9 := Bl.hid hv9
        rw [hv9]
        have q1 := hJ.c1
        have qf := hJ.f1
        have q0 : (w1.setCell ⟨b, 1, none⟩ (.slice p9 (k + 1) c9)).cell? ⟨b, 0, none⟩ = some (.int .i64 n) := Bl.cell_set_ne hJ.c0 (by decide)
        have qf0 : (w1.setCell ⟨b, 1, none⟩ (.slice p9 (k + 1) c9)).frozen? ⟨b, 0, none⟩ = false := by rw [World.frozen?_setCell]; exact hJ.f0
        have hw1 := IntWalk.wrap64_in ((n : Int) + 1) ⟨by omega, by omega⟩
        clear hP hO hJ hv9 hend hext hc1
        go_wp2_with fail
        go_ret
        have HQ := HJ.out.done (m := n + 1) (ds := Bl.carry Bl.ndD (Bl.trail n) ds d0) HF.out.lt Hv9.out rfl rfl ?_ ?_ ?_
        · have ho : (Value.slice p k ck).ownBlock = (Value.slice p ds.length c).ownBlock := by cases p <;> rfl
          rw [ho] at HQ
          rw [← Hd0e.out]
          exact ⟨rfl, _, HQ.1, HQ.2.1, HQ.2.2⟩
        · rw [Bl.carry_length]; have := Hkk.out; have := Hjt.out; omega
        · unfold Bl.carry
          rw [Bl.cellsD_append, Bl.cellsD_one]
          have hkk := Hkk.out
          rw [Hjt.out] at hkk
          rw [show ds.length - Bl.trail n = k by omega, ← Hnd.out]
        · exact Bl.carry_dig _ HF.out.dig Hd0.out
      case hJ0 =>
        exact ⟨HJ0.out.c0, HJ0.out.c1, HJ0.out.f0, HJ0.out.f1, ⟨HJ0.out.box.rg, HJ0.out.box.th, HJ0.out.box.len⟩, HJ0.out.ne, HJ0.out.nd, HJ0.out.hb, HJ0.out.hX, ⟨HJ0.out.ad.os, HJ0.out.ad.tape, HJ0.out.ad.output, HJ0.out.ad.size, HJ0.out.ad.block⟩, HJ0.out.le, fun q => (HJ0.out.pk q).kept (fun _ _ => rfl) (Nat.le_refl _), fun q => (by cases q), fun q => (by cases q)⟩
end Go.Proofs.YtkoddcjkhcnifaaDoor

/- Walk of baileelaw14.clash, where one proof holds for two old roots. -/
import Derived.Test.YtkoddcjkhcnifaaDoorDuo
import Derived.Test.YtkoddcjkhcnifaaDoorGak
import Derived.Test.YtkoddcjkhcnifaaDoorGroQ
import Derived.Test.YtkoddcjkhcnifaaDoorPathC
import Derived.Test.YtkoddcjkhcnifaaDoorLib0
import Derived.Test.YtkoddcjkhcnifaaDoorWTree2
import Derived.Test.YtkoddcjkhcnifaaDoorW12a
import Derived.Test.YtkoddcjkhcnifaaDoorShaB
namespace Go.Proofs.Bl
open Go Go.RowKit
theorem inB_len {l r : List Int} (h1 : l.length = 32) (h2 : r.length = 32) : (inB l r).length = 65 := by unfold inB; simp [h1, h2]
theorem inB_byt {l r : List Int} (h1 : Byt l) (h2 : Byt r) : Byt (inB l r) := byt_cons (by decide) (by decide) (h1.append h2)
theorem foldl_nd (p : List (List Int)) (x : List Int) : p.foldl (fun a d => sha (inB a d)) x = p.foldl ndD x := rfl
theorem ndD_in (l r : List Int) : ndD l r = sha (inB l r) := rfl
theorem take_len (p : List (List Int)) (k : Nat) (h : k ≤ p.length) : (p.take k).length = k := by rw [List.length_take]; omega
end Go.Proofs.Bl
namespace Go.Proofs.YtkoddcjkhcnifaaDoor
open Go.RowKit Go.Proofs

theorem tInt : Bl.SlT Tryd.prog 86 3 (.int .i64 0) 1 8 := ⟨Tryd.underlying86, by kernel_rfl, rfl, by decide⟩

set_option maxRecDepth 100000 in
set_option maxHeartbeats 4000000 in
theorem clash14_any (a b : Nat) (cs : List Value) (old now other : List Int) (vp : Value) (p : List (List Int)) (w : World) (hA : Bl.AskGC cs a b old now vp) (bo : Bl.Byt old) (hot : other.length = 32) (bt : Bl.Byt other) (hp : Bl.RdD w vp p) (hdp : Bl.Dig p) (hg : Glob w)
    (h1 : 1 ≤ a) (h2 : a ≤ b) (h3 : b ≤ 512) (hall : Bl.allL a b) (hwl : (Bl.wayL a b).length = p.length) (hne : old ≠ other) (hf : p.foldl Bl.ndD old = p.foldl Bl.ndD other) :
    Calls Tryd.prog 24 #[.agg cs.toArray, .agg (Bl.ints .u8 other).toArray] w fun e w' => e = .returned (.bool true) ∧ Bl.Ext w w' := by
  have hol := hA.lo
  obtain ⟨i0, hi0, hpne, hpeq, hbef⟩ := Bl.clash_up Bl.sha (fun x => Bl.sha_length x) p old other (by rw [hol, hot]) hne (by rw [Bl.foldl_nd, Bl.foldl_nd]; exact hf)
  simp only [Bl.foldl_nd] at hpne hpeq hbef
  have Hpne := Bl.hid hpne
  have Hpeq := Bl.hid hpeq
  have Hbef := Bl.hid hbef
  have hpl : p.length ≤ 512 := by
    rw [← hwl]
    have : ∀ f n, (Bl.wayN f a n).length ≤ f := by
      intro f
      induction f with
      | zero => intro n; exact Nat.le_refl _
      | succ f ih => intro n; simp only [Bl.wayN]; split
                     · rw [List.length_cons]; have := ih (Bl.sp n); omega
                     · exact Nat.zero_le _
    have := this b b
    unfold Bl.wayL
    omega
  have hXd : ∀ k, ((p.take k).foldl Bl.ndD old).length = 32 ∧ Bl.Byt ((p.take k).foldl Bl.ndD old) := fun k => Bl.foldl_dig _ _ ⟨hol, bo⟩
  have hYd : ∀ k, ((p.take k).foldl Bl.ndD other).length = 32 ∧ Bl.Byt ((p.take k).foldl Bl.ndD other) := fun k => Bl.foldl_dig _ _ ⟨hot, bt⟩
  have HXd := Bl.hid hXd
  have HYd := Bl.hid hYd
  obtain ⟨bq, oq, cq, hvp, hcq, hcm, hbq, hrq⟩ := Bl.RdD.pos hp hdp (by omega)
  subst hvp
  unfold maxLen at hcm
  have Hrq := Bl.hid hrq
  have Hbq := Bl.hid hbq
  have Hdp := Bl.hid hdp
  have Hg := Bl.hid hg
  have Hol := Bl.hid hol
  have Hot := Bl.hid hot
  have Hall : Hid (∀ j ∈ Bl.wayL a b, a ≤ Bl.sp j) := Bl.hid hall
  obtain ⟨L, hL⟩ : ∃ L, L = p.length := ⟨_, rfl⟩
  rw [← hL] at hwl hpl hi0 hcq hA
  have HL := Bl.hid hL
  have Hwl := Bl.hid hwl
  have ha0 := hA.at' w 49
  have hEb := Bl.ext_alloc (w.alloc (.cells cs.toArray 49)) (.cells (Bl.ints .u8 other).toArray 40)
  have hbx := Bl.dig_box (w.alloc (.cells cs.toArray 49)) other 40 hot
  rw [World.size_alloc] at hbx
  have HA0 := Bl.hid (ha0.ext hEb)
  have HBt := Bl.hid hbx
  have HE0 := Bl.hid ((Bl.ext_alloc w (.cells cs.toArray 49)).trans hEb)
  have k1 : ¬ ((a : Int) < 1) := by omega
  have k2 : ¬ ((512 : Int) < (b : Int)) := by omega
  have q0 := HA0.out.qm
  have q1 := HA0.out.qn
  clear hA bo bt hp hdp hg hall hne hf hpne hpeq hbef hXd hYd hrq hbq hol hot hL hwl ha0 hEb hbx
  go_enter Tryd.func24, Tryd.ntmps24
  go_wp2_with fail
  generalize (w.alloc (.cells cs.toArray 49)).alloc (.cells (Bl.ints .u8 other).toArray 40) = W0 at HA0 HBt HE0 q0 q1 ⊢
  obtain ⟨BB, hBB⟩ : ∃ BB, BB = W0.heap.size := ⟨_, rfl⟩
  have HBB := Bl.hid hBB
  have HwB : Hid (w.heap.size + 1 < BB) := Bl.hid (by rw [hBB]; exact HBt.out.lt)
  clear hBB
  have HLo : Hid (∀ w5, Below BB W0 w5 → (Instr.loadAt 40 (.pointer (some ⟨w.heap.size, 2, none⟩))).run Tryd.prog w5 = .ok (.agg (Bl.ints .u8 old).toArray) w5) := Bl.hid fun w5 h5 => (HA0.out.ext (by rw [HBB.out] at h5; exact h5)).loadO Tryd.underlying40 (by kernel_rfl)
  have HLt : Hid (∀ w5, Below BB W0 w5 → (Instr.loadAt 40 (.pointer (some ⟨w.heap.size + 1, 0, none⟩))).run Tryd.prog w5 = .ok (.agg (Bl.ints .u8 other).toArray) w5) := Bl.hid fun w5 h5 => (HBt.out.ext (by rw [HBB.out] at h5; exact h5)).load Tryd.underlying40 (by kernel_rfl)
  apply Bl.wp_region_evK (fun a a' => Below BB a a') (Bl.JTwo 3 4 5 5 6 BB old) 6 [22, 23, 24, 5, 6] [Bl.eqv _, Bl.eqv _, Bl.eqv _, Bl.anyv, Bl.anyv, Bl.eqv _] (fun w => Below.refl _ w) (fun a b c h k => Below.trans h k) (by kernel_rfl) (by kernel_rfl) (by kernel_rfl) (by kernel_rfl)
  case hsteps =>
    refine ⟨?_, ?_, ?_, ?_, ?_, ?_, trivial⟩
    all_goals
      intro d ev w1 hext HJd Hanc Hdes hni hb hd
      replace Hanc := Bl.hid Hanc
      replace HJd := Bl.hid HJd
      replace Hdes := Bl.hid Hdes
      replace hni := Bl.hid hni
      have e2 := hb 2 (by decide)
      have e3 := hb 3 (by decide)
      clear hb
      simp only [Array.getD_eq_getD_getElem?, List.getElem?_toArray, List.getElem?_cons_succ, List.getElem?_cons_zero, Option.getD_some] at e2 e3
      simp only [Bl.DepsE2, List.getElem?_cons_succ, List.getElem?_cons_zero, Option.bind_some, List.getD_cons_succ, List.getD_cons_zero, Bl.eqv, and_true] at hd
      have hc := (Bl.bcell hext).1
      simp only [Region.wanted, if_true]
      first
      | ((with_reducible refine Bl.goodX_load (fun w => Below.refl _ w) ?_ (HLo.out w1 hext) ?_); (first | exact hd | exact hd.1); exact ⟨rfl, HJd.out.same (by decide)⟩) | ((with_reducible refine Bl.goodX_load (fun w => Below.refl _ w) ?_ (HLt.out w1 hext) ?_); exact e3; exact ⟨rfl, HJd.out.same (by decide)⟩) | (obtain ⟨X9, hx9, hx9b, hx9c, _⟩ := HJd.out.a (Hanc.out 3 (by kernel_rfl)); have hjw := (HJd.out.write Hol.out (Hanc.out 3 (by kernel_rfl)) hni.out hx9 (by decide)).2.2; (with_reducible refine Bl.goodX_store ?_ ?_ ((hx9c hni.out).store Hol.out (by kernel_rfl)) ?_ ?_); exact hx9; (first | exact hd.2.1 | exact hd.1 | exact hd.2 | exact hd); exact Bl.below_setCells _ _ _ _ (Below.refl _ _) hx9b; exact ⟨rfl, hjw⟩)
      | (go_simp; first | exact ⟨Bl.below_alloc _ _ HJd.out.le, trivial, HJd.out.makeA rfl (by decide) (Hdes.out 5 (by kernel_rfl))⟩ | exact ⟨Bl.below_alloc _ _ HJd.out.le, HJd.out.makeA rfl (by decide) (Hdes.out 5 (by kernel_rfl))⟩ | exact ⟨Bl.below_alloc _ _ HJd.out.le, trivial, HJd.out.makeB rfl (by decide)⟩ | exact ⟨Bl.below_alloc _ _ HJd.out.le, HJd.out.makeB rfl (by decide)⟩ | exact ⟨Below.refl _ _, rfl, HJd.out.same (by decide)⟩ | exact ⟨Below.refl _ _, rfl, Bl.HJ.same (by decide) HJd.out⟩)
  case hmono => exact ⟨Bl.monoR_eqv _, Bl.monoR_eqv _, Bl.monoR_eqv _, Bl.monoR_anyv, Bl.monoR_anyv, Bl.monoR_eqv _, trivial⟩
  case hR0 => exact (Below.refl _ _).drew
  case hend =>
    intro u w1 hext hJ hend
    simp only [Bl.EndE, List.getElem?_cons_succ, List.getElem?_cons_zero, Option.bind_some, List.getD_cons_succ, List.getD_cons_zero, Bl.eqv, true_and] at hend
    simp only [Bl.fillAct, List.setIfInBounds_toArray, List.set_cons_succ, List.set_cons_zero, List.drop_succ_cons, List.drop_zero, hend]
    obtain ⟨X, Y, hX, hY, hXl, hYl, hDu⟩ := hJ.done rfl rfl rfl
    rw [hX, hY]
    have HDa := Bl.hid (hDu.setB Hot.out)
    have Hst := Bl.hid (hDu.b.store (P := Tryd.prog) (ty := 41) (d' := other) Hot.out (by kernel_rfl))
    have HEw := Bl.hid (Bl.below_setCells (Bl.ints .u8 other) Y 0 w1 hext hYl)
    have HXY := Bl.hid (And.intro hXl hYl)
    clear hX hY hDu hext hJ hend hXl hYl HLo HLt
    go_wp2_with (with_reducible refine Bl.stop_store (ty := 41) ?_)
    refine Bl.go_on ?_
    refine Bl.wpL_store0 rfl rfl Hst.out ?_
    clear Hst
    generalize w1.setCells Y 0 (Bl.ints .u8 other) = W4 at HDa HEw ⊢
    have HE4 : Hid (Bl.Ext W0 W4) := Bl.hid (by have h := HEw.out; rw [HBB.out] at h; exact h)
    have HA4 := Bl.hid (HA0.out.ext HE4.out)
    have q0 := HA4.out.qm
    have q1 := HA4.out.qn
    have hB := HA4.out.lt
    have HE5 := Bl.hid (Bl.ext_alloc W4 (.cells #[] 3))
    have HO5 := Bl.hid (Bl.owns_nil_lit W4 3 W4.heap.size (Nat.le_refl _) 1)
    have r0 := ((Bl.bcell HE5.out).1 _ 0 hB).trans q0
    go_wp2_with fail
    generalize W4.alloc (.cells #[] 3) = W5 at HE5 HO5 r0 ⊢
    clear r0 q0 q1 hB
    go_loopw [7, 8] (fun n' way wr => ∃ (n0 k c : Nat) (po : Option Addr) (xs : List Value), n' = .int .i64 n0 ∧ way = .slice po k c ∧ a ≤ n0 ∧ n0 ≤ 512 ∧ k ≤ L ∧ Hid (k + (Bl.wayL a n0).length = L ∧ (∀ j ∈ Bl.wayL a n0, a ≤ Bl.sp j) ∧ wr.ownsRow W4.heap.size 3 1 (.slice po k c) k xs) ∧ Bl.Ext W4 wr) (fun n' _ _ => (intOf n').toNat)
    case atStart => exact ⟨b, 0, 0, _, [], rfl, rfl, h2, h3, Nat.zero_le _, Bl.hid ⟨by rw [Nat.zero_add]; exact Hwl.out, Hall.out, HO5.out⟩, HE5.out⟩
    case round =>
      obtain ⟨n0, k, c, po, xs, rfl, rfl, hn1, hn2, hk, HR, hE⟩ := hrel
      have HE := Bl.hid hE
      clear hE
      by_cases hlt : a < n0
      · obtain ⟨s1, s2, s3⟩ := Bl.sp_bounds n0 (by omega) (by omega)
        obtain ⟨hR1, hR2, hR3⟩ := HR.out
        rw [Bl.wayL_step a n0 h1 (by omega) hlt] at hR1 hR2
        rw [List.length_cons] at hR1
        have hasp := hR2 n0 (by simp)
        have HR2 : Hid (∀ j ∈ Bl.wayL a (Bl.sp n0), a ≤ Bl.sp j) := Bl.hid fun j hj => hR2 j (by simp [hj])
        have HR1 := Bl.hid hR1
        have HR3 := Bl.hid hR3
        have HSp := Bl.hid (fun w2 => refsplit_any n0 w2 (by omega) (by omega))
        rw [Int.toNat_natCast] at HSp
        obtain ⟨q, hq⟩ : ∃ q, q = Bl.sp n0 := ⟨_, rfl⟩
        rw [← hq] at s1 s2 s3 HSp HR1 HR2 hasp
        have hkL : k + 1 ≤ L := by rw [← hq] at hR1; omega
        clear hR1 hR2 hR3 HR hq
        have hx1 : (a : Int) < (n0 : Int) := by omega
        have hx2 : ¬ ((q : Int) < (a : Int)) := by omega
        go_wp2_with fail
        refine (HSp.out wr).mono ?_
        rintro e w3 ⟨rfl, hw3⟩
        subst hw3
        have Hown := Bl.hid (Bl.owns_ext HR3.out (Bl.ext_alloc wr (.cells #[.int .i64 n0] 3)))
        have Hnew := Bl.hid (Bl.rds_one wr 3 .i64 n0)
        have HE1 : Hid (Bl.Ext W4 (wr.alloc (.cells #[.int .i64 n0] 3))) := Bl.hid (HE.out.trans (Bl.ext_alloc _ _))
        go_wp2_with (with_reducible refine Bl.stop_append ?_)
        refine Bl.go_on ?_
        refine Bl.wpL_app tInt Hown.out Hnew.out rfl rfl rfl (Bl.ints_one _ _) (by unfold maxLen; omega) (by omega) HE1.out.size ?_
        intro q3 d3 w9 hown9 hg9 hB9 hK9 hn9 hc9
        have HE9 : Hid (Bl.Ext W4 w9) := Bl.hid (Below.trans HE1.out hB9)
        have Ho9 := Bl.hid hown9
        clear hown9 hg9 hB9 hK9 Hown Hnew HE1
        go_wp2_with fail
        refine (HSp.out w9).mono ?_
        rintro e w10 ⟨rfl, hw10⟩
        subst hw10
        go_wp2_with fail
        go_roundw
        case rel => exact ⟨q, k + 1, d3, q3, _, rfl, rfl, hasp, by omega, hkL, Bl.hid ⟨by have := HR1.out; omega, HR2.out, Ho9.out⟩, HE9.out⟩
        case measure => simp [intOf]; omega
      · obtain ⟨hR1, hR2, hR3⟩ := HR.out
        rw [Bl.wayL_end a n0 (by omega)] at hR1
        have hkL : k = L := by simpa using hR1
        subst hkL
        have HE04 := Bl.hid (HE4.out.trans HE.out)
        obtain ⟨Wl, hWl⟩ : ∃ Wl, Wl = wr := ⟨_, rfl⟩
        have HDl := Bl.hid (HDa.out.ext HE.out)
        rw [← hWl] at HE HE04 HDl ⊢
        have HEB : Hid (BB ≤ Wl.heap.size) := Bl.hid (by rw [HBB.out]; exact HE04.out.size)
        clear hR1 hR2 hR3 HR hWl
        go_wp2_with fail
        go_loopw [45] (fun i' wr => ∃ k : Nat, k ≤ i0 ∧ i' = .int .i64 k ∧ Hid (Bl.Duo wr X Y ((p.take k).foldl Bl.ndD old) ((p.take k).foldl Bl.ndD other)) ∧ Below BB Wl wr) (fun i' _ => k - (intOf i').toNat)
        case atStart => exact ⟨0, Nat.zero_le _, rfl, HDl.out, Below.refl _ _⟩
        case round =>
          obtain ⟨j, hj, rfl, HD, hBw⟩ := hrel
          have HBw := Bl.hid hBw
          clear hBw
          have hjk : j < k := by omega
          have HEr : Hid (Bl.Ext W0 wr) := Bl.hid (by have h := HE04.out; rw [Bl.Ext, ← HBB.out] at h; have h9 := Below.trans h HBw.out; rw [HBB.out] at h9; exact h9)
          have HAr := Bl.hid (HA0.out.ext HEr.out)
          have q5 := HAr.out.pr
          have hjp : j < p.length := by rw [← HL.out]; exact hjk
          have hrj := Bl.digit_at (Bl.rangeAt_ext Hrq.out (HE0.out.trans HEr.out)) Hdp.out (i := j) hjp
          obtain ⟨hdl, hdb⟩ := Hdp.out.get (i := j) hjp
          have Hsx := Bl.hid (Bl.foldl_take p old j hjp)
          have Hsy := Bl.hid (Bl.foldl_take p other j hjp)
          have Hbj := Bl.hid (fun h : j < i0 => Hbef.out j h)
          have Hnj := Bl.hid (fun h : j = i0 => (by rw [h]; exact ⟨Hpne.out, Hpeq.out⟩ : Bl.inB ((p.take j).foldl Bl.ndD old) (p.getD j []) ≠ Bl.inB ((p.take j).foldl Bl.ndD other) (p.getD j []) ∧ Bl.sha (Bl.inB ((p.take j).foldl Bl.ndD old) (p.getD j [])) = Bl.sha (Bl.inB ((p.take j).foldl Bl.ndD other) (p.getD j []))))
          obtain ⟨xl, xb⟩ := HXd.out j
          obtain ⟨yl, yb⟩ := HYd.out j
          obtain ⟨d, hdd⟩ : ∃ d, d = p.getD j [] := ⟨_, rfl⟩
          obtain ⟨x, hx⟩ : ∃ x, x = (p.take j).foldl Bl.ndD old := ⟨_, rfl⟩
          obtain ⟨y, hy⟩ : ∃ y, y = (p.take j).foldl Bl.ndD other := ⟨_, rfl⟩
          rw [← hdd] at hrj hdl hdb Hsx Hsy Hbj Hnj
          rw [← hx] at HD Hsx Hbj Hnj xl xb
          rw [← hy] at HD Hsy Hbj Hnj yl yb
          have HLd := Bl.hid (Bl.load_ints (P := Tryd.prog) hrj Tryd.underlying40 (by kernel_rfl) hdl)
          have HP1 : Hid ((Bl.inB x d).length = 65 ∧ Bl.Byt (Bl.inB x d)) := Bl.hid ⟨Bl.inB_len xl hdl, Bl.inB_byt xb hdb⟩
          have HP2 : Hid ((Bl.inB y d).length = 65 ∧ Bl.Byt (Bl.inB y d)) := Bl.hid ⟨Bl.inB_len yl hdl, Bl.inB_byt yb hdb⟩
          have HI1 : Hid (∀ w2, Calls Tryd.prog 45 #[.agg (Bl.ints .u8 x).toArray, .agg (Bl.ints .u8 d).toArray] w2 fun e w' => ∃ v', e = .returned v' ∧ Bl.Rd w' .u8 v' (Bl.inB x d) ∧ Bl.Ext w2 w') := Bl.hid fun w2 => inner_any x d w2 xl hdl
          have HI2 : Hid (∀ w2, Calls Tryd.prog 45 #[.agg (Bl.ints .u8 y).toArray, .agg (Bl.ints .u8 d).toArray] w2 fun e w' => ∃ v', e = .returned v' ∧ Bl.Rd w' .u8 v' (Bl.inB y d) ∧ Bl.Ext w2 w') := Bl.hid fun w2 => inner_any y d w2 yl hdl
          have HBz := Bl.hid (Bl.BoxD.new wr 41 #[.int .u8 0, .int .u8 0, .int .u8 0, .int .u8 0, .int .u8 0, .int .u8 0, .int .u8 0, .int .u8 0, .int .u8 0, .int .u8 0, .int .u8 0, .int .u8 0, .int .u8 0, .int .u8 0, .int .u8 0, .int .u8 0, .int .u8 0, .int .u8 0, .int .u8 0, .int .u8 0, .int .u8 0, .int .u8 0, .int .u8 0, .int .u8 0, .int .u8 0, .int .u8 0, .int .u8 0, .int .u8 0, .int .u8 0, .int .u8 0, .int .u8 0, .int .u8 0] rfl)
          have Hst := Bl.hid (HBz.out.store (P := Tryd.prog) (ty := 41) (d' := d) hdl (by kernel_rfl))
          have HEp : Hid (Bl.Ext wr ((wr.alloc (.cells #[.int .u8 0, .int .u8 0, .int .u8 0, .int .u8 0, .int .u8 0, .int .u8 0, .int .u8 0, .int .u8 0, .int .u8 0, .int .u8 0, .int .u8 0, .int .u8 0, .int .u8 0, .int .u8 0, .int .u8 0, .int .u8 0, .int .u8 0, .int .u8 0, .int .u8 0, .int .u8 0, .int .u8 0, .int .u8 0, .int .u8 0, .int .u8 0, .int .u8 0, .int .u8 0, .int .u8 0, .int .u8 0, .int .u8 0, .int .u8 0, .int .u8 0, .int .u8 0] 41)).setCells wr.heap.size 0 (Bl.ints .u8 d))) := Bl.hid (Bl.below_setCells _ _ _ _ (Bl.ext_alloc _ _) (Nat.le_refl _))
          have HB18 := Bl.hid (HBz.out.set hdl)
          obtain ⟨P1, hP1⟩ : ∃ P1, P1 = Bl.inB x d := ⟨_, rfl⟩
          obtain ⟨P2, hP2⟩ : ∃ P2, P2 = Bl.inB y d := ⟨_, rfl⟩
          rw [Bl.ndD_in, ← hP1] at Hsx
          rw [Bl.ndD_in, ← hP2] at Hsy
          rw [← hP1] at HP1 HI1 Hbj Hnj
          rw [← hP2] at HP2 HI2 Hbj Hnj
          have hj0 : (0 : Int) ≤ (j : Int) := by omega
          have hj1 : (j : Int) < (k : Int) := by omega
          have hj2 : ¬ ((k : Int) ≤ (j : Int)) := by omega
          clear hrj hdl hdb hdd hx hy xl xb yl yb hP1 hP2 hjp
          go_wp2_with (with_reducible refine Bl.stop_load (ty := 40) ?_)
          refine Bl.go_on ?_
          refine Bl.wpL_load rfl HLd.out ?_
          go_wp2_with (with_reducible refine Bl.stop_store (ty := 41) ?_)
          refine Bl.go_on ?_
          refine Bl.wpL_store0 rfl rfl Hst.out ?_
          obtain ⟨W6, hW6⟩ : ∃ W6, W6 = (wr.alloc (.cells #[.int .u8 0, .int .u8 0, .int .u8 0, .int .u8 0, .int .u8 0, .int .u8 0, .int .u8 0, .int .u8 0, .int .u8 0, .int .u8 0, .int .u8 0, .int .u8 0, .int .u8 0, .int .u8 0, .int .u8 0, .int .u8 0, .int .u8 0, .int .u8 0, .int .u8 0, .int .u8 0, .int .u8 0, .int .u8 0, .int .u8 0, .int .u8 0, .int .u8 0, .int .u8 0, .int .u8 0, .int .u8 0, .int .u8 0, .int .u8 0, .int .u8 0, .int .u8 0] 41)).setCells wr.heap.size 0 (Bl.ints .u8 d) := ⟨_, rfl⟩
          obtain ⟨X11, hX11⟩ : ∃ X11, X11 = wr.heap.size := ⟨_, rfl⟩
          rw [← hW6] at HEp HB18 ⊢
          rw [← hX11] at HB18 ⊢
          have HD6 := Bl.hid (HD.out.ext HEp.out)
          clear hW6 Hst hX11 HBz HLd q5
          have HLd : Hid (∀ w1, Bl.Ext W6 w1 → (Instr.loadAt 41 (.pointer (some ⟨X11, 0, none⟩))).run Tryd.prog w1 = .ok (.agg (Bl.ints .u8 d).toArray) w1) := Bl.hid fun w1 h1 => (HB18.out.ext h1).load Tryd.underlying41 (by kernel_rfl)
          have HLa : Hid (∀ w1, Bl.Ext W6 w1 → (Instr.loadAt 41 (.pointer (some ⟨X, 0, none⟩))).run Tryd.prog w1 = .ok (.agg (Bl.ints .u8 x).toArray) w1) := Bl.hid fun w1 h1 => (HD6.out.a.ext h1).load Tryd.underlying41 (by kernel_rfl)
          have HLb : Hid (∀ w1, Bl.Ext W6 w1 → (Instr.loadAt 41 (.pointer (some ⟨Y, 0, none⟩))).run Tryd.prog w1 = .ok (.agg (Bl.ints .u8 y).toArray) w1) := Bl.hid fun w1 h1 => (HD6.out.b.ext h1).load Tryd.underlying41 (by kernel_rfl)
          go_wp2_with fail
          apply Bl.wp_region_evK (Bl.Ext) (fun _ _ _ => True) 6 [58, 59, 60, 61, 62, 63] [Bl.eqv _, Bl.eqv _, (fun v w' => Bl.SlB w' v P1), Bl.eqv _, Bl.eqv _, (fun v w' => Bl.SlB w' v P2)] (fun w => Below.refl _ w) (fun a b c h k => Bl.Ext.trans h k) (by kernel_rfl) (by kernel_rfl) (by kernel_rfl) (by kernel_rfl)
          case hsteps =>
            refine ⟨?_, ?_, ?_, ?_, ?_, ?_, trivial⟩
            all_goals
              intro d ev w1 hext HJd Hanc Hdes hni hb hd
              replace Hanc := Bl.hid Hanc
              replace HJd := Bl.hid HJd
              replace Hdes := Bl.hid Hdes
              replace hni := Bl.hid hni
              have e5 := hb 5 (by decide)
              have e6 := hb 6 (by decide)
              have e11 := hb 11 (by decide)
              clear hb
              simp only [Array.getD_eq_getD_getElem?, List.getElem?_toArray, List.getElem?_cons_succ, List.getElem?_cons_zero, Option.getD_some] at e5 e6 e11
              simp only [Bl.DepsE2, List.getElem?_cons_succ, List.getElem?_cons_zero, Option.bind_some, List.getD_cons_succ, List.getD_cons_zero, Bl.eqv, and_true] at hd
              have hc := (Bl.bcell hext).1
              simp only [Region.wanted, if_true]
              first
              | ((with_reducible refine Bl.goodX_load (fun w => Below.refl _ w) ?_ (HLd.out _ hext) ?_); exact e11; exact ⟨rfl, trivial⟩) | ((with_reducible refine Bl.goodX_load (fun w => Below.refl _ w) ?_ (HLa.out _ hext) ?_); exact e5; exact ⟨rfl, trivial⟩) | ((with_reducible refine Bl.goodX_load (fun w => Below.refl _ w) ?_ (HLb.out _ hext) ?_); exact e6; exact ⟨rfl, trivial⟩)
              | (go_simp; first | (go_at_call 45; (with_reducible refine (HI1.out _).mono ?_); rintro e w2 ⟨v2, rfl, hR2, hE2⟩; obtain ⟨p9, c9, hf9, _, _⟩ := hR2.form; exact ⟨_, rfl, hE2, p9, c9, hf9, hR2⟩) | (go_at_call 45; (with_reducible refine (HI2.out _).mono ?_); rintro e w2 ⟨v2, rfl, hR2, hE2⟩; obtain ⟨p9, c9, hf9, _, _⟩ := hR2.form; exact ⟨_, rfl, hE2, p9, c9, hf9, hR2⟩) | exact ⟨Below.refl _ _, rfl⟩ | exact Below.refl _ _)
          case hmono => exact ⟨Bl.monoR_eqv _, Bl.monoR_eqv _, (fun _ _ _ h k => Bl.SlB.ext h k), Bl.monoR_eqv _, Bl.monoR_eqv _, (fun _ _ _ h k => Bl.SlB.ext h k), trivial⟩
          case hR0 => exact (Below.refl _ _).drew
          case hend =>
            intro u w1 hext hJ hend
            simp only [Bl.EndE, List.getElem?_cons_succ, List.getElem?_cons_zero, Option.bind_some, List.getD_cons_succ, List.getD_cons_zero, Bl.eqv, true_and] at hend
            simp only [Bl.fillAct, List.setIfInBounds_toArray, List.set_cons_succ, List.set_cons_zero, List.drop_succ_cons, List.drop_zero, hend]
            have hs1 : Bl.SlB w1 (u 60) P1 := (by first | exact hend | exact hend.2 | exact hend.1.2 | exact hend.1.1.2 | exact hend.1.1.1.2 | exact hend.1.1.1.1.2 | exact hend.1.1.1.1.1.2 | exact hend.1.1.1.1.1.1.2 | exact hend.1.1.1.1.1.1.1.2 | exact hend.1.1.1.1.1.1.1.1.2 | exact hend.1.1.1.1.1.1.1.1.1.2 | exact hend.1.1.1.1.1.1.1.1.1.1.2 | exact hend.1.1.1.1.1.1.1.1.1.1.1.2 | exact hend.1.1.1.1.1.1.1.1.1.1.1.1.2 | exact hend.1.1.1.1.1.1.1.1.1.1.1.1.1.2 | exact hend.1 | exact hend.1.1 | exact hend.1.1.1 | exact hend.1.1.1.1 | exact hend.1.1.1.1.1 | exact hend.1.1.1.1.1.1 | exact hend.1.1.1.1.1.1.1 | exact hend.1.1.1.1.1.1.1.1 | exact hend.1.1.1.1.1.1.1.1.1 | exact hend.1.1.1.1.1.1.1.1.1.1 | exact hend.1.1.1.1.1.1.1.1.1.1.1 | exact hend.1.1.1.1.1.1.1.1.1.1.1.1 | exact hend.1.1.1.1.1.1.1.1.1.1.1.1.1 | exact hend.2.1 | exact hend.2.2.1 | exact hend.2.2.2.1 | exact hend.2.2.2.2.1 | exact hend.2.2.2.2.2.1 | exact hend.2.2.2.2.2.2.1 | exact hend.2.2.2.2.2.2.2.1 | exact hend.2.2.2.2.2.2.2.2.1 | exact hend.2.2.2.2.2.2.2.2.2.1 | exact hend.2.2.2.2.2.2.2.2.2.2.1 | exact hend.2.2.2.2.2.2.2.2.2.2.2.1 | exact hend.2.2.2.2.2.2.2.2.2.2.2.2.1 | exact hend.2.2.2.2.2.2.2.2.2.2.2.2.2.1)
            have hs2 : Bl.SlB w1 (u 63) P2 := (by first | exact hend | exact hend.2 | exact hend.1.2 | exact hend.1.1.2 | exact hend.1.1.1.2 | exact hend.1.1.1.1.2 | exact hend.1.1.1.1.1.2 | exact hend.1.1.1.1.1.1.2 | exact hend.1.1.1.1.1.1.1.2 | exact hend.1.1.1.1.1.1.1.1.2 | exact hend.1.1.1.1.1.1.1.1.1.2 | exact hend.1.1.1.1.1.1.1.1.1.1.2 | exact hend.1.1.1.1.1.1.1.1.1.1.1.2 | exact hend.1.1.1.1.1.1.1.1.1.1.1.1.2 | exact hend.1.1.1.1.1.1.1.1.1.1.1.1.1.2 | exact hend.1 | exact hend.1.1 | exact hend.1.1.1 | exact hend.1.1.1.1 | exact hend.1.1.1.1.1 | exact hend.1.1.1.1.1.1 | exact hend.1.1.1.1.1.1.1 | exact hend.1.1.1.1.1.1.1.1 | exact hend.1.1.1.1.1.1.1.1.1 | exact hend.1.1.1.1.1.1.1.1.1.1 | exact hend.1.1.1.1.1.1.1.1.1.1.1 | exact hend.1.1.1.1.1.1.1.1.1.1.1.1 | exact hend.1.1.1.1.1.1.1.1.1.1.1.1.1 | exact hend.2.1 | exact hend.2.2.1 | exact hend.2.2.2.1 | exact hend.2.2.2.2.1 | exact hend.2.2.2.2.2.1 | exact hend.2.2.2.2.2.2.1 | exact hend.2.2.2.2.2.2.2.1 | exact hend.2.2.2.2.2.2.2.2.1 | exact hend.2.2.2.2.2.2.2.2.2.1 | exact hend.2.2.2.2.2.2.2.2.2.2.1 | exact hend.2.2.2.2.2.2.2.2.2.2.2.1 | exact hend.2.2.2.2.2.2.2.2.2.2.2.2.1 | exact hend.2.2.2.2.2.2.2.2.2.2.2.2.2.1)
            have hPne : ¬ P1 = P2 := by
              rcases Nat.lt_or_ge j i0 with q | q
              · intro e; exact Hbj.out q (by rw [e])
              · exact (Hnj.out (by omega)).1
            obtain ⟨p1, c1, hp1, hr1⟩ := hs1
            obtain ⟨p2, c2, hp2, hr2⟩ := hs2
            rw [hp1, hp2]
            rw [hp1] at hr1
            rw [hp2] at hr2
            have Hr1 := Bl.hid hr1
            have Hr2 := Bl.hid hr2
            have HE7 := Bl.hid (HEp.out.trans hext)
            have HD7 := Bl.hid (HD6.out.ext hext)
            have hcv1 := Bl.conv_bytes (P := Tryd.prog) hr1 Tryd.underlying27 Tryd.underlying5 Tryd.underlying9
            have hcv2 := Bl.conv_bytes (P := Tryd.prog) hr2 Tryd.underlying27 Tryd.underlying5 Tryd.underlying9
            have hq := Bl.bstr_beq HP1.out.2 HP2.out.2
            rw [decide_eq_false hPne] at hq
            have hq2 : ¬ (Bl.bstr P1 = Bl.bstr P2) := fun e => hPne ((Bl.bstr_eq_iff HP1.out.2 HP2.out.2).1 e)
            have HEg : Hid (Bl.Ext w w1) := Bl.hid ((HE0.out.trans HEr.out).trans HE7.out)
            have HO1 : Hid (∀ w2 v, Bl.Ext w1 w2 → Bl.Rdss w2 v [P1] → Calls Tryd.prog 37 #[v] w2 fun e w' => e = .returned (.agg (Bl.ints .u8 (Bl.sha P1)).toArray) ∧ Bl.Ext w2 w') := Bl.hid fun w2 v h2 h3 => by
              have h := of_any v [P1] w2 h3 (Hg.out.ext (HEg.out.trans h2)) (by rw [List.flatten_singleton]; exact HP1.out.2) (by rw [List.flatten_singleton, HP1.out.1]; decide)
              rw [List.flatten_singleton] at h; exact h
            have HO2 : Hid (∀ w2 v, Bl.Ext w1 w2 → Bl.Rdss w2 v [P2] → Calls Tryd.prog 37 #[v] w2 fun e w' => e = .returned (.agg (Bl.ints .u8 (Bl.sha P2)).toArray) ∧ Bl.Ext w2 w') := Bl.hid fun w2 v h2 h3 => by
              have h := of_any v [P2] w2 h3 (Hg.out.ext (HEg.out.trans h2)) (by rw [List.flatten_singleton]; exact HP2.out.2) (by rw [List.flatten_singleton, HP2.out.1]; decide)
              rw [List.flatten_singleton] at h; exact h
            obtain ⟨z1, hz1⟩ : ∃ z1, z1 = Bl.sha P1 := ⟨_, rfl⟩
            obtain ⟨z2, hz2⟩ : ∃ z2, z2 = Bl.sha P2 := ⟨_, rfl⟩
            have Hz1 : Hid (z1.length = 32) := Bl.hid (by rw [hz1]; exact Bl.sha_length _)
            have Hz2 : Hid (z2.length = 32) := Bl.hid (by rw [hz2]; exact Bl.sha_length _)
            rw [← hz1] at HO1 Hsx Hbj Hnj
            rw [← hz2] at HO2 Hsy Hbj Hnj
            clear hext hend hJ hp1 hp2 hr1 hr2 hPne hz1 hz2
            go_wp2_with fail
            refine (HO1.out _ _ (Bl.ext_alloc _ _) (Bl.rdss_1 Hr1.out _)).mono ?_
            rintro e w8 ⟨rfl, hE8⟩
            have HE8 : Hid (Bl.Ext w1 w8) := Bl.hid ((Bl.ext_alloc _ _).trans hE8)
            have Hr28 := Bl.hid (Hr2.out.ext HE8.out)
            clear hE8 hcv1 hcv2 hq hq2
            go_wp2_with fail
            refine (HO2.out _ _ (HE8.out.trans (Bl.ext_alloc _ _)) (Bl.rdss_1 Hr28.out _)).mono ?_
            rintro e w9 ⟨rfl, hE9⟩
            have HE9 : Hid (Bl.Ext w1 w9) := Bl.hid ((HE8.out.trans (Bl.ext_alloc _ _)).trans hE9)
            clear hE9 HE8
            rcases Nat.lt_or_ge j i0 with hji | hji
            · have hzz : ¬ z1 = z2 := Hbj.out hji
              have heq : ∀ w, (Op.equalIn 10000 41 (.agg (Bl.ints .u8 z1).toArray) (.agg (Bl.ints .u8 z2).toArray)).run Tryd.prog w = .ok false w := fun w => by
                rw [Bl.eq10k Tryd.underlying41 Tryd.underlying5 (fun w => by simp [go_sem]) z1 z2 Hz1.out Hz2.out w, decide_eq_false hzz]
              have Hr19 := Bl.hid (Hr1.out.ext HE9.out)
              have Hr29 := Bl.hid (Hr2.out.ext HE9.out)
              clear hzz Hbj Hnj
              go_wp2_with fail
              refine (HO1.out _ _ (HE9.out.trans (Bl.ext_alloc _ _)) (Bl.rdss_1 Hr19.out _)).mono ?_
              rintro e w10 ⟨rfl, hE10⟩
              have HE10 : Hid (Bl.Ext w1 w10) := Bl.hid ((HE9.out.trans (Bl.ext_alloc _ _)).trans hE10)
              have Hr20 := Bl.hid (Hr2.out.ext HE10.out)
              clear hE10
              go_wp2_with fail
              refine (HO2.out _ _ (HE10.out.trans (Bl.ext_alloc _ _)) (Bl.rdss_1 Hr20.out _)).mono ?_
              rintro e w11 ⟨rfl, hE11⟩
              have HE11 : Hid (Bl.Ext w1 w11) := Bl.hid ((HE10.out.trans (Bl.ext_alloc _ _)).trans hE11)
              clear hE11
              have HD10 := Bl.hid (HD7.out.ext HE11.out)
              have HD11 := Bl.hid (HD10.out.setA Hz1.out)
              have HD12 := Bl.hid (HD11.out.setB Hz2.out)
              have Hs1 := Bl.hid (HD10.out.a.store (P := Tryd.prog) (ty := 41) (d' := z1) Hz1.out (by kernel_rfl))
              have Hs2 := Bl.hid (HD11.out.b.store (P := Tryd.prog) (ty := 41) (d' := z2) Hz2.out (by kernel_rfl))
              have HBn : Hid (Below BB Wl ((w11.setCells X 0 (Bl.ints .u8 z1)).setCells Y 0 (Bl.ints .u8 z2))) := Bl.hid (Bl.below_setCells _ _ _ _ (Bl.below_setCells _ _ _ _ (HBw.out.trans ((HE7.out.trans HE11.out).mono (Nat.le_trans HEB.out HBw.out.size))) HXY.out.1) HXY.out.2)
              go_wp2_with (with_reducible refine Bl.stop_store (ty := 41) ?_)
              refine Bl.go_on ?_
              refine Bl.wpL_store0 rfl rfl Hs1.out ?_
              go_wp2_with (with_reducible refine Bl.stop_store (ty := 41) ?_)
              refine Bl.go_on ?_
              refine Bl.wpL_store0 rfl rfl Hs2.out ?_
              go_wp2_with fail
              go_roundw
              case rel => exact ⟨j + 1, by omega, by go_num, Bl.hid (by rw [Hsx.out, Hsy.out]; exact HD12.out), HBn.out⟩
              case measure => simp [intOf]; omega
            · have hji2 : j = i0 := by omega
              have hzz : z1 = z2 := (Hnj.out hji2).2
              have heq : ∀ w, (Op.equalIn 10000 41 (.agg (Bl.ints .u8 z1).toArray) (.agg (Bl.ints .u8 z2).toArray)).run Tryd.prog w = .ok true w := fun w => by
                rw [Bl.eq10k Tryd.underlying41 Tryd.underlying5 (fun w => by simp [go_sem]) z1 z2 Hz1.out Hz2.out w, decide_eq_true hzz]
              have HEf := Bl.hid (HEg.out.trans HE9.out)
              clear hzz hji2 Hbj Hnj
              go_wp2_with fail
              go_ret
              exact ⟨rfl, HEf.out⟩
          case hJ0 => trivial
  case hJ0 => exact Bl.JTwo.start (Nat.le_of_eq HBB.out)
end Go.Proofs.YtkoddcjkhcnifaaDoor

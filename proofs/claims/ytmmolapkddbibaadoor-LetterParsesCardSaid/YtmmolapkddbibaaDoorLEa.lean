/- Texts that stood apart, in one: LE1, LE2, LE3. -/
import Derived.Test.YtmmolapkddbibaaDoorLDs
import Derived.Test.YtmmolapkddbibaaDoorLC5
import Derived.Test.YtmmolapkddbibaaDoorLP6
/- Walk of baileeref22.Parse, letters of kind 1. -/
namespace Go.Proofs.YtmmolapkddbibaaDoor
open Go Go.RowKit Go.Proofs

set_option maxRecDepth 100000 in
set_option maxHeartbeats 8000000 in
theorem rparse1 (v : Value) (r : List Int) (w : World) (hR : Bl.Rd w .u8 v (1 :: r)) (hb : Bl.Byt r) (hl : r.length + 1 ≤ 8000) :
    Calls Tryd.prog 25 #[v] w fun e w' => Bl.ParD (Bl.finT (Bl.rsF 1 (Bl.numF 0 (Bl.tkF 8 (false, r)).1) (Bl.numF 0 (Bl.tkF 8 (Bl.tkF 8 (false, r)).2).1) (Bl.tkF 8 (Bl.tkF 8 (false, r)).2).2)) w e w' := by
  obtain ⟨g, o, c, hvf, hnc, hcm, hgl, _, hel⟩ := Bl.Rd.pos hR (by simp)
  have hc0 : w.cell? ⟨g, o, none⟩ = some (.int .u8 1) := hel 0 (by simp)
  obtain ⟨n, hn⟩ : ∃ n, n = ((1 : Int) :: r).length := ⟨_, rfl⟩
  have hn1 : n = r.length + 1 := by rw [hn]; rfl
  have hR' : Bl.Rds w v n (Bl.ints .u8 (1 :: r)) := by rw [hn]; exact hR
  rw [← hn] at hvf hnc
  subst hvf
  unfold maxLen at hcm
  obtain ⟨X, hX⟩ : ∃ X, X = w.heap.size + 1 := ⟨_, rfl⟩
  obtain ⟨pr, hpr⟩ : ∃ pr, pr = Bl.finT (Bl.rsF 1 (Bl.numF 0 (Bl.tkF 8 (false, r)).1) (Bl.numF 0 (Bl.tkF 8 (Bl.tkF 8 (false, r)).2).1) (Bl.tkF 8 (Bl.tkF 8 (false, r)).2).2) := ⟨_, rfl⟩
  rw [← hpr]
  have hb0 : Bl.Byt ((false, r) : Bl.Rst).2 := hb
  have HT0 : Hid (DTake n X 8 ((false, r) : Bl.Rst) (Bl.tkF 8 ((false, r) : Bl.Rst)).1 (Bl.tkF 8 ((false, r) : Bl.Rst)).2) := Bl.hid (ctake_all n X 8 ((false, r) : Bl.Rst) (by decide) (by decide))
  have HM0 : Hid (DNum (Bl.tkF 8 ((false, r) : Bl.Rst)).1 (Bl.numF 0 (Bl.tkF 8 ((false, r) : Bl.Rst)).1)) := Bl.hid (cnumb_all 8 ((false, r) : Bl.Rst) (by decide) hb0)
  have hb1 := (Bl.tkF_byt (n := 8) (s := ((false, r) : Bl.Rst)) hb0).2
  obtain ⟨i, hzi⟩ : ∃ z, z = Bl.numF 0 (Bl.tkF 8 ((false, r) : Bl.Rst)).1 := ⟨_, rfl⟩
  obtain ⟨s1, hss1⟩ : ∃ z, z = (Bl.tkF 8 ((false, r) : Bl.Rst)).2 := ⟨_, rfl⟩
  rw [← hzi, ← hss1] at hpr
  rw [← hzi] at HM0
  rw [← hss1] at HT0 hb1
  obtain ⟨y0, hy0⟩ : ∃ z, z = (Bl.tkF 8 ((false, r) : Bl.Rst)).1 := ⟨_, rfl⟩
  rw [← hy0] at HM0 HT0
  clear hzi hss1 hy0
  have HT1 : Hid (DTake n X 8 s1 (Bl.tkF 8 s1).1 (Bl.tkF 8 s1).2) := Bl.hid (ctake_all n X 8 s1 (by decide) (by decide))
  have HM1 : Hid (DNum (Bl.tkF 8 s1).1 (Bl.numF 0 (Bl.tkF 8 s1).1)) := Bl.hid (cnumb_all 8 s1 (by decide) hb1)
  have hb2 := (Bl.tkF_byt (n := 8) (s := s1) hb1).2
  obtain ⟨oo, hzoo⟩ : ∃ z, z = Bl.numF 0 (Bl.tkF 8 s1).1 := ⟨_, rfl⟩
  obtain ⟨s2, hss2⟩ : ∃ z, z = (Bl.tkF 8 s1).2 := ⟨_, rfl⟩
  rw [← hzoo, ← hss2] at hpr
  rw [← hzoo] at HM1
  rw [← hss2] at HT1 hb2
  obtain ⟨y1, hy1⟩ : ∃ z, z = (Bl.tkF 8 s1).1 := ⟨_, rfl⟩
  rw [← hy1] at HM1 HT1
  clear hzoo hss2 hy1
  replace hpr : pr = Bl.finT ((⟨1, i, oo, [], [], 0, 0, (Bl.eaT Bl.blF (Bl.nuF 2 s2).1.toNat (Bl.nuF 2 s2).2).1, 0⟩ : Bl.LT), (Bl.eaT Bl.blF (Bl.nuF 2 s2).1.toNat (Bl.nuF 2 s2).2).2) := hpr
  have HT2 : Hid (DTake n X 2 s2 (Bl.tkF 2 s2).1 (Bl.tkF 2 s2).2) := Bl.hid (ctake_all n X 2 s2 (by decide) (by decide))
  have HM2 : Hid (DNum (Bl.tkF 2 s2).1 ((Bl.nuF 2 s2).1)) := Bl.hid (cnumb_two s2 hb2)
  have hb3 := (Bl.tkF_byt (n := 2) (s := s2) hb2).2
  have hz2 := Bl.nu2F_le (s := s2) hb2
  have hun2 : Bl.nuF 2 s2 = ((Bl.nuF 2 s2).1, (Bl.tkF 2 s2).2) := rfl
  obtain ⟨cI, hzcI⟩ : ∃ z, z = (Bl.nuF 2 s2).1 := ⟨_, rfl⟩
  obtain ⟨s3, hss3⟩ : ∃ z, z = (Bl.tkF 2 s2).2 := ⟨_, rfl⟩
  rw [← hzcI, ← hss3] at hun2
  rw [← hzcI] at hz2
  rw [hun2] at hpr
  clear hun2
  rw [← hzcI] at HM2
  rw [← hss3] at HT2 hb3
  obtain ⟨y2, hy2⟩ : ∃ z, z = (Bl.tkF 2 s2).1 := ⟨_, rfl⟩
  rw [← hy2] at HM2 HT2
  clear hzcI hss3 hy2
  obtain ⟨cn, rfl⟩ := Int.eq_ofNat_of_zero_le hz2.1
  have Hcn : Hid (cn ≤ 65535) := Bl.hid (by have := hz2.2; omega)
  simp only [Int.toNat_natCast] at hpr
  obtain ⟨bs, hbs⟩ : ∃ z, z = (Bl.eaT Bl.blF cn s3).1 := ⟨_, rfl⟩
  obtain ⟨t4, ht4⟩ : ∃ z, z = (Bl.eaT Bl.blF cn s3).2 := ⟨_, rfl⟩
  rw [← hbs, ← ht4] at hpr
  have Hbs := Bl.hid (And.intro hbs.symm ht4.symm)
  clear hbs ht4
  have HPf := Bl.hid hpr
  clear hpr
  have HBR0 := Bl.hid (Bl.BoxC.box (cs := Bl.zL.toList) w 33 (fun q => by cases q))
  have HE0 := Bl.hid (Bl.ext_alloc w (.cells Bl.zL 33))
  have HStz : Hid (∀ w2, Bl.BoxC w2 w.heap.size Bl.zL.toList → (Instr.storeAt 33 (.pointer (some ⟨w.heap.size, 0, none⟩)) (.agg Bl.zL)).run Tryd.prog w2 = .ok () (w2.setCells w.heap.size 0 Bl.zL.toList)) := Bl.hid fun w2 h => h.store (P := Tryd.prog) (cs' := Bl.zL.toList) rfl (fun c hc => by
    simp only [List.mem_cons, List.not_mem_nil, or_false] at hc
    rcases hc with rfl | rfl | rfl | rfl | rfl | rfl | rfl | rfl | rfl <;> rfl) (ty := 33) (by kernel_rfl)
  have hs0 : (w.alloc (.cells Bl.zL 33)).heap.size = w.heap.size + 1 := World.size_alloc _ _
  obtain ⟨W1, hW1⟩ : ∃ W1, W1 = (w.alloc (.cells Bl.zL 33)).alloc (.cells #[.slice (some ⟨g, o, none⟩) n c, .int .i64 1, .bool false] 100) := ⟨_, rfl⟩
  have HBR1 : Hid (Bl.BoxC W1 w.heap.size Bl.zL.toList) := Bl.hid (by rw [hW1]; exact HBR0.out.ext (Bl.ext_alloc _ _))
  have HE1 : Hid (Bl.Ext w W1) := Bl.hid (by rw [hW1]; exact HE0.out.trans (Bl.ext_alloc _ _))
  have HX1 : Hid (Bl.BoxC W1 X [.slice (some ⟨g, o, none⟩) n c, .int .i64 1, .bool false]) := Bl.hid (by
    have h := Bl.BoxC.box (cs := [.slice (some ⟨g, o, none⟩) n c, .int .i64 1, .bool false]) (w.alloc (.cells Bl.zL 33)) 100 (fun q => by cases q)
    rw [hs0, ← hX] at h
    rw [hW1]; exact h)
  have HC1 : Hid (Bl.Cur n W1 X (false, r)) := Bl.hid ⟨⟨some ⟨g, o, none⟩, c, 1, 1 :: r, HX1.out, hn.symm, by omega, rfl, (Bl.RdsF.of_rds (F := fun k => k < w.heap.size) hR' (fun _ _ h => h)).kept fun k hk hlk => ⟨by omega, HE1.out.block k hk⟩, hnc, by unfold maxLen; exact hcm⟩, hb, by omega⟩
  have hcW : W1.cell? ⟨g, o, none⟩ = some (.int .u8 1) := ((Bl.bcell HE1.out).1 _ _ (World.block_lt_of_cell? _ _ hc0)).trans hc0
  have hone : ∀ c ∈ Bl.cK 1 0 0 0 0 0, c.oneCell' = true := fun c hc => by
    simp only [Bl.cK, List.mem_cons, List.not_mem_nil, or_false] at hc
    rcases hc with rfl | rfl | rfl | rfl | rfl | rfl | rfl | rfl | rfl <;> rfl
  obtain ⟨hB3, hE3⟩ := Bl.BoxC.fresh (cs := Bl.cK 1 0 0 0 0 0) W1 33 Bl.zL rfl (fun q => by cases q)
  have Hst3 := Bl.hid (Bl.fresh_store (P := Tryd.prog) (cs := Bl.cK 1 0 0 0 0 0) W1 33 Bl.zL rfl hone (ty := 33) (by kernel_rfl))
  obtain ⟨W3, hW3⟩ : ∃ W3, W3 = (W1.alloc (.cells Bl.zL 33)).setCells W1.heap.size 0 (Bl.cK 1 0 0 0 0 0) := ⟨_, rfl⟩
  obtain ⟨Y, hY⟩ : ∃ Y, Y = W1.heap.size := ⟨_, rfl⟩
  rw [← hW3] at hB3 hE3
  rw [← hY] at hB3
  have HXY : Hid (X < Y ∧ w.heap.size < X) := Bl.hid ⟨by rw [hY]; exact HX1.out.lt, by omega⟩
  have HB3 := Bl.hid hB3
  have HC3 := Bl.hid (HC1.out.ext hE3)
  have HBR3 := Bl.hid (HBR1.out.ext hE3)
  have HZ3 : Hid (Bl.Kq (fun k => w.heap.size ≤ k) w W3) := Bl.hid (Bl.Kq.of_ext (HE1.out.trans hE3))
  have q30 := HB3.out.cell (i := 0) (v := .int .i64 1) rfl
  have h8i : ¬ ((8000 : Int) < (n : Int)) := by omega
  have hzi : ¬ ((n : Int) = 0) := by omega
  have hzn : ¬ (n = 0) := by omega
  have hpi : (0 : Int) < (n : Int) := by omega
  have Hn := Bl.hid hn1
  clear hR hel hc0 hn hn1 hR' hb hl hB3 hE3 hone hs0 HX1 HC1 HBR0 HE0 hgl
  go_enter Tryd.func25, Tryd.ntmps25
  go_wp2_with (with_reducible refine Bl.stop_load (ty := 5) ?_)
  refine Bl.go_on ?_
  rw [← hW1, ← hX]
  clear hW1 hX
  go_wp2_with (with_reducible refine Bl.stop_store (ty := 33) ?_)
  refine Bl.go_on ?_
  refine Bl.wpL_store0 rfl rfl Hst3.out ?_
  rw [← hW3, ← hY]
  clear hW3 hY Hst3 hcW HBR1 HE1
  go_wp2_with fail
  refine (out_any 1 1 7 W3).mono ?_
  rintro e w3' ⟨rfl, hw3⟩
  subst hw3
  rw [show Bl.wi 1 1 7 = true from by decide, Bool.not_true]
  clear q30
  go_wp2_with fail
  refine (HT0.out _ HC3.out).mono ?_
  rintro e w0a ⟨v0, rfl, hRd, hCu, hK⟩
  have HRd0 := Bl.hid hRd
  have HC0a := Bl.hid hCu
  have HB0a := Bl.hid (hK.box (by have := HXY.out; omega) HB3.out)
  have HZ0a : Hid (Bl.Kq (fun k => w.heap.size ≤ k) w w0a) := Bl.hid (HZ3.out.trans (hK.mono fun k _ q => by have := HXY.out; omega))
  have HBR0a := Bl.hid (hK.box (by have := HXY.out; omega) HBR3.out)
  clear hRd hCu hK HC3 HB3 HZ3 HBR3
  go_wp2_with fail
  refine (HM0.out _ _ HRd0.out).mono ?_
  rintro e w' ⟨rfl, hw'⟩
  rw [hw']
  clear hw' HRd0 HT0 HM0
  have qf := HB0a.out.cell (i := 1) (v := .int .i64 0) rfl
  have ff := HB0a.out.fz (i := 1) (show 1 < 9 by decide)
  have HB0b : Hid (Bl.BoxC (w0a.setCell ⟨Y, 1, none⟩ (.int .i64 i)) Y (Bl.cK 1 i 0 0 0 0)) := Bl.hid (HB0a.out.put (i := 1) (show 1 < 9 by decide) (.int .i64 i))
  have HK0 : Hid (Bl.Kq (fun k => k = Y) w0a (w0a.setCell ⟨Y, 1, none⟩ (.int .i64 i))) := Bl.hid ((Bl.Kq.refl w0a).setCell (Q := fun k => k = Y) ⟨Y, 1, none⟩ rfl _)
  go_wp2_with fail
  obtain ⟨w0b, hWb⟩ : ∃ W, W = w0a.setCell ⟨Y, 1, none⟩ (.int .i64 i) := ⟨_, rfl⟩
  rw [← hWb] at HB0b HK0 ⊢
  clear hWb qf ff
  have HC0b := Bl.hid (HC0a.out.kept HK0.out (fun j hj q => by have := HXY.out; omega))
  have HZ0b : Hid (Bl.Kq (fun k => w.heap.size ≤ k) w w0b) := Bl.hid (HZ0a.out.trans (HK0.out.mono fun k _ q => by have := HXY.out; omega))
  have HBR0b := Bl.hid (HK0.out.box (by have := HXY.out; omega) HBR0a.out)
  clear HC0a HZ0a HBR0a HB0a HK0
  refine (HT1.out _ HC0b.out).mono ?_
  rintro e w1a ⟨v1, rfl, hRd, hCu, hK⟩
  have HRd1 := Bl.hid hRd
  have HC1a := Bl.hid hCu
  have HB1a := Bl.hid (hK.box (by have := HXY.out; omega) HB0b.out)
  have HZ1a : Hid (Bl.Kq (fun k => w.heap.size ≤ k) w w1a) := Bl.hid (HZ0b.out.trans (hK.mono fun k _ q => by have := HXY.out; omega))
  have HBR1a := Bl.hid (hK.box (by have := HXY.out; omega) HBR0b.out)
  clear hRd hCu hK HC0b HB0b HZ0b HBR0b
  go_wp2_with fail
  refine (HM1.out _ _ HRd1.out).mono ?_
  rintro e w' ⟨rfl, hw'⟩
  rw [hw']
  clear hw' HRd1 HT1 HM1
  have qf := HB1a.out.cell (i := 2) (v := .int .i64 0) rfl
  have ff := HB1a.out.fz (i := 2) (show 2 < 9 by decide)
  have HB1b : Hid (Bl.BoxC (w1a.setCell ⟨Y, 2, none⟩ (.int .i64 oo)) Y (Bl.cK 1 i oo 0 0 0)) := Bl.hid (HB1a.out.put (i := 2) (show 2 < 9 by decide) (.int .i64 oo))
  have HK1 : Hid (Bl.Kq (fun k => k = Y) w1a (w1a.setCell ⟨Y, 2, none⟩ (.int .i64 oo))) := Bl.hid ((Bl.Kq.refl w1a).setCell (Q := fun k => k = Y) ⟨Y, 2, none⟩ rfl _)
  go_wp2_with (with_reducible refine Bl.stop_load (ty := 3) ?_)
  obtain ⟨w1b, hWb⟩ : ∃ W, W = w1a.setCell ⟨Y, 2, none⟩ (.int .i64 oo) := ⟨_, rfl⟩
  rw [← hWb] at HB1b HK1 ⊢
  clear hWb qf ff
  have HC1b := Bl.hid (HC1a.out.kept HK1.out (fun j hj q => by have := HXY.out; omega))
  have HZ1b : Hid (Bl.Kq (fun k => w.heap.size ≤ k) w w1b) := Bl.hid (HZ1a.out.trans (HK1.out.mono fun k _ q => by have := HXY.out; omega))
  have HBR1b := Bl.hid (HK1.out.box (by have := HXY.out; omega) HBR1a.out)
  clear HC1a HZ1a HBR1a HB1a HK1
  refine Bl.go_on ?_
  have qk := HB1b.out.cell (i := 0) (v := .int .i64 1) rfl
  go_wp2_with fail
  clear qk
  refine (HT2.out _ HC1b.out).mono ?_
  rintro e w2a ⟨v2, rfl, hRd, hCu, hK⟩
  have HRd2 := Bl.hid hRd
  have HC2a := Bl.hid hCu
  have HB2a := Bl.hid (hK.box (by have := HXY.out; omega) HB1b.out)
  have HZ2a : Hid (Bl.Kq (fun k => w.heap.size ≤ k) w w2a) := Bl.hid (HZ1b.out.trans (hK.mono fun k _ q => by have := HXY.out; omega))
  have HBR2a := Bl.hid (hK.box (by have := HXY.out; omega) HBR1b.out)
  clear hRd hCu hK HC1b HB1b HZ1b HBR1b
  go_wp2_with fail
  refine (HM2.out _ _ HRd2.out).mono ?_
  rintro e w' ⟨rfl, hw'⟩
  rw [hw']
  clear hw' HRd2 HT2 HM2
  obtain ⟨B, hB⟩ : ∃ B, B = w2a.heap.size := ⟨_, rfl⟩
  have HBY : Hid (Y < B ∧ B = w2a.heap.size) := Bl.hid ⟨by rw [hB]; exact HB2a.out.lt, hB⟩
  clear hB
  have HG0 : Hid (Bl.GP Bl.cB 1 Bl.OkB B w2a Y 7 ((Bl.cK 1 i oo 0 0 0).set 7 (.slice none 0 0)) (.slice none 0 0) []) := Bl.hid (Bl.GP.start HB2a.out rfl)
  go_wp2_with fail
  go_loopw [6] (fun x wr => ∃ (m : Nat) (s' : Bl.Rst) (v' : Value) (M : List Bl.Bv), x = .int .i64 m ∧ Hid (Bl.GP Bl.cB 1 Bl.OkB B wr Y 7 ((Bl.cK 1 i oo 0 0 0).set 7 v') v' M ∧ Bl.Cur n wr X s' ∧ M.map (fun y : Bl.Bv => y.2) ++ (Bl.eaT Bl.blF m s').1 = bs ∧ (Bl.eaT Bl.blF m s').2 = t4 ∧ M.length + m ≤ 65535) ∧ Hid (Bl.Kq (fun k => k = X ∨ k = Y ∨ B ≤ k) w2a wr)) (fun x _ => (intOf x).toNat)
  case atStart => exact ⟨cn, s3, _, [], rfl, Bl.hid ⟨HG0.out, HC2a.out, Hbs.out.1, Hbs.out.2, by have := Hcn.out; simp only [List.length_nil]; omega⟩, Bl.hid (Bl.Kq.refl _)⟩
  case round =>
    obtain ⟨m, s', v', M, rfl, HI, HKr⟩ := hrel
    have HZr : Hid (Bl.Kq (fun k => w.heap.size ≤ k) w wr) := Bl.hid (HZ2a.out.trans (HKr.out.mono fun k _ q => by have := HXY.out; have := HBY.out; omega))
    have HBRr := Bl.hid (HKr.out.box (by have := HXY.out; have := HBY.out; omega) HBR2a.out)
    have HCr := Bl.hid HI.out.2.1
    have q2 := HCr.out.bad
    have qk := HI.out.1.box.cell (i := 0) (v := .int .i64 1) rfl
    obtain ⟨sh, hsh⟩ : ∃ sh, sh = s'.1 := ⟨_, rfl⟩
    rw [← hsh] at q2
    have Hsh := Bl.hid hsh.symm
    clear hsh HG0 HB2a
    by_cases hm : 0 < m
    · have hmi : (0 : Int) < (m : Int) := by omega
      cases sh
      · clear qk
        have hsd := Bl.eaT_dec Bl.blF m s' hm Hsh.out
        have HTs : ∀ w2, Bl.Cur n w2 X s' → Calls Tryd.prog 53 #[.pointer (some ⟨X, 0, none⟩), .int .i64 16] w2 fun e w' => ∃ v', e = .returned v' ∧ Bl.Rd w' .u8 v' (Bl.tkF 16 s').1 ∧ Bl.Cur n w' X (Bl.tkF 16 s').2 ∧ Bl.Kq (fun k => k = X) w2 w' := ctake_all n X 16 s' (by decide) (by decide)
        have hlen : (Bl.tkF 16 s').1.length = 16 := Bl.tkF_len
        have hby := (Bl.tkF_byt (n := 16) (s := s') HCr.out.by').1
        have hbl : Bl.blF s' = ([(Bl.tkF 16 s').1], (Bl.tkF 16 s').2) := rfl
        obtain ⟨st, hst⟩ : ∃ z, z = (Bl.tkF 16 s').1 := ⟨_, rfl⟩
        obtain ⟨sb, hsb⟩ : ∃ z, z = (Bl.tkF 16 s').2 := ⟨_, rfl⟩
        rw [← hst, ← hsb] at HTs hbl
        rw [← hst] at hlen hby
        rw [hbl] at hsd
        have HN : Hid (M.map (fun y : Bl.Bv => y.2) ++ ([st] ++ (Bl.eaT Bl.blF (m - 1) sb).1) = bs ∧ (Bl.eaT Bl.blF (m - 1) sb).2 = t4) := Bl.hid ⟨by have h := HI.out.2.2.1; rw [hsd] at h; exact h, by have h := HI.out.2.2.2.1; rw [hsd] at h; exact h⟩
        replace HTs := Bl.hid HTs
        have Hst := Bl.hid (And.intro hlen hby)
        have HG := Bl.hid HI.out.1
        have Hm := Bl.hid HI.out.2.2.2.2
        have Hml : Hid (M.length + 1 ≤ maxLen ∧ (M.length + 1) * 24 ≤ 140737488355328) := Bl.hid (by have := Hm.out; unfold maxLen; omega)
        have hm2 : (m : Int) ≤ 65535 := by have := Hm.out; omega
        have HBw : Hid (B ≤ wr.heap.size ∧ X < wr.heap.size ∧ X < B) := Bl.hid ⟨by have := HKr.out.size; have := HBY.out.2; omega, HCr.out.lt, by have := HXY.out; have := HBY.out; omega⟩
        have Hq7 : Hid (∀ w2, Bl.Kq (fun k => k = X ∨ B ≤ k) wr w2 → w2.cell? ⟨Y, 7, none⟩ = some v') := Bl.hid fun w2 h => h.cell (by have := HXY.out; have := HBY.out; omega) HG.out.cell
        clear HI
        clear hsd hbl hst hsb hlen hby
        go_wp2_with fail
        clear q2
        apply Bl.wp_region_evK (Bl.Kq (fun k => k = X ∨ B ≤ k)) (Bl.JB n B X Y 7 ((Bl.cK 1 i oo 0 0 0).set 7 v') v' M s' sb st wr) 9 [75, 76, 77, 78, 79, 80, 81, 82, 83] [Bl.eqv _, Bl.eqv _, Bl.anyv, Bl.eqv _, Bl.anyv, Bl.anyv, Bl.anyv, Bl.anyv, Bl.eqv _] (fun w => Bl.Kq.refl w) (fun a b c h k => Bl.Kq.trans h k) (by kernel_rfl) (by kernel_rfl) (by kernel_rfl) (by kernel_rfl)
        case hsteps =>
          refine ⟨?_, ?_, ?_, ?_, ?_, ?_, ?_, ?_, ?_, trivial⟩
          all_goals
            intro d ev w1 hext HJd Hanc Hdes hni hb hd
            replace Hanc := Bl.hid Hanc
            replace HJd := Bl.hid HJd
            replace Hdes := Bl.hid Hdes
            replace hni := Bl.hid hni
            have e4 := hb 4 (by decide)
            have e5 := hb 5 (by decide)
            clear hb
            simp only [Array.getD_eq_getD_getElem?, List.getElem?_toArray, List.getElem?_cons_succ, List.getElem?_cons_zero, Option.getD_some] at e4 e5
            simp only [Bl.DepsE2, List.getElem?_cons_succ, List.getElem?_cons_zero, Option.bind_some, List.getD_cons_succ, List.getD_cons_zero, Bl.eqv, and_true] at hd
            have c7 := Hq7.out _ hext
            rw [if_pos (rfl : Region.wanted _ _ = true)]
            first
            | (obtain ⟨b9, o9, c9, hx9, _, _, _, hr9, _⟩ := Bl.Rd.pos (HJd.out.e (Hanc.out 4 (by kernel_rfl)) hni.out) (by rw [Hst.out.1]; decide); have hpz := HJd.out.c (Hanc.out 2 (by kernel_rfl)) hni.out; have hbs := hext.size; (with_reducible refine Bl.goodX_append (m := st.length) (c := c9) tBytes hpz hr9 ?_ (Bl.ints_one _ _) ?_ ?_ ?_ hbs ?_ ?_ ?_); rw [Bl.ints_length, Nat.mul_one]; rw [Hst.out.1]; decide; rw [Hst.out.1]; decide; rw [Hst.out.1]; decide; rfl; exact hx9; exact fun v' w' k1 k2 k3 => ⟨(HJd.out.ap (Hanc.out 2 (by kernel_rfl)) (Hanc.out 4 (by kernel_rfl)) hni.out (Hdes.out 6 (by kernel_rfl)) (Hdes.out 7 (by kernel_rfl)) HBw.out.2.1 HBw.out.1 k1 k2).1, trivial, (HJd.out.ap (Hanc.out 2 (by kernel_rfl)) (Hanc.out 4 (by kernel_rfl)) hni.out (Hdes.out 6 (by kernel_rfl)) (Hdes.out 7 (by kernel_rfl)) HBw.out.2.1 HBw.out.1 k1 k2).2⟩) | ((with_reducible refine Bl.goodX_buildV (v := ev 80) tBB (by decide) ?_ (HJd.out.f1 (Hanc.out 4 (by kernel_rfl)) (Hanc.out 5 (by kernel_rfl)) hni.out (Hdes.out 7 (by kernel_rfl)) HG.out HBw.out.1 HXY.out.1 HBw.out.2.2 Hst.out.2).size ?_); rfl; exact ⟨Bl.Kq.of_ext (Bl.ext_alloc _ _), trivial, HJd.out.bd (Hanc.out 4 (by kernel_rfl)) (Hanc.out 5 (by kernel_rfl)) hni.out (Hdes.out 7 (by kernel_rfl)) HG.out HBw.out.1 HXY.out.1 HBw.out.2.2 Hst.out.2 _⟩) | ((with_reducible refine Bl.goodX_f3 tBB Bl.stab_okB HBw.out.2.2 HXY.out.1 (HJd.out.g (Hanc.out 6 (by kernel_rfl)) hni.out) ?_ ?_ Hml.out.1 Hml.out.2 ?_); rfl; exact (by first | exact hd | exact hd.2 | exact hd.1.2 | exact hd.1.1.2 | exact hd.1.1.1.2 | exact hd.1.1.1.1.2 | exact hd.1.1.1.1.1.2 | exact hd.1.1.1.1.1.1.2 | exact hd.1.1.1.1.1.1.1.2 | exact hd.1.1.1.1.1.1.1.1.2 | exact hd.1.1.1.1.1.1.1.1.1.2 | exact hd.1.1.1.1.1.1.1.1.1.1.2 | exact hd.1.1.1.1.1.1.1.1.1.1.1.2 | exact hd.1.1.1.1.1.1.1.1.1.1.1.1.2 | exact hd.1.1.1.1.1.1.1.1.1.1.1.1.1.2 | exact hd.1 | exact hd.1.1 | exact hd.1.1.1 | exact hd.1.1.1.1 | exact hd.1.1.1.1.1 | exact hd.1.1.1.1.1.1 | exact hd.1.1.1.1.1.1.1 | exact hd.1.1.1.1.1.1.1.1 | exact hd.1.1.1.1.1.1.1.1.1 | exact hd.1.1.1.1.1.1.1.1.1.1 | exact hd.1.1.1.1.1.1.1.1.1.1.1 | exact hd.1.1.1.1.1.1.1.1.1.1.1.1 | exact hd.1.1.1.1.1.1.1.1.1.1.1.1.1 | exact hd.2.1 | exact hd.2.2.1 | exact hd.2.2.2.1 | exact hd.2.2.2.2.1 | exact hd.2.2.2.2.2.1 | exact hd.2.2.2.2.2.2.1 | exact hd.2.2.2.2.2.2.2.1 | exact hd.2.2.2.2.2.2.2.2.1 | exact hd.2.2.2.2.2.2.2.2.2.1 | exact hd.2.2.2.2.2.2.2.2.2.2.1 | exact hd.2.2.2.2.2.2.2.2.2.2.2.1 | exact hd.2.2.2.2.2.2.2.2.2.2.2.2.1 | exact hd.2.2.2.2.2.2.2.2.2.2.2.2.2.1); exact fun v' w' k1 k2 => ⟨k1, trivial, Bl.JB.app (Hanc.out 4 (by kernel_rfl)) (Hanc.out 5 (by kernel_rfl)) (Hanc.out 6 (by kernel_rfl)) k2⟩)
            | (go_simp; first | exact ⟨Bl.Kq.refl _, rfl, HJd.out.same (by decide)⟩ | exact ⟨Bl.Kq.of_ext (Bl.ext_alloc _ _), trivial, HJd.out.mk' (Hdes.out 5 (by kernel_rfl)) (Hdes.out 6 (by kernel_rfl)) (Hdes.out 7 (by kernel_rfl)) _⟩ | (go_at_call 53; have hcl := HTs.out w1 (HJd.out.a hni.out); (with_reducible refine hcl.mono ?_); rintro e w2 ⟨v9, rfl, k1, k2, k3⟩; exact ⟨_, rfl, k3.mono fun _ _ q => .inl q, trivial, HJd.out.tk (Hdes.out 5 (by kernel_rfl)) (Hdes.out 6 (by kernel_rfl)) (Hdes.out 7 (by kernel_rfl)) HBw.out.2.1 k1 k2 k3⟩) | exact ⟨Below.refl _ _, rfl, Bl.HJ.same (by decide) HJd.out⟩)
        case hmono => exact ⟨Bl.monoR_eqv _, Bl.monoR_eqv _, Bl.monoR_anyv, Bl.monoR_eqv _, Bl.monoR_anyv, Bl.monoR_anyv, Bl.monoR_anyv, Bl.monoR_anyv, Bl.monoR_eqv _, trivial⟩
        case hR0 => exact Bl.Kq.drew _
        case hend =>
          intro u w1 hext hJ hend
          simp only [Bl.EndE, List.getElem?_cons_succ, List.getElem?_cons_zero, Option.bind_some, List.getD_cons_succ, List.getD_cons_zero, Bl.eqv, true_and] at hend
          simp only [Bl.fillAct, List.setIfInBounds_toArray, List.set_cons_succ, List.set_cons_zero, List.drop_succ_cons, List.drop_zero, hend]
          obtain ⟨y, p, c9, hu, hp, hcell, hfz, hG', hC'⟩ := hJ.h rfl
          have HG' := Bl.hid hG'
          have HC' := Bl.hid hC'
          have HK := Bl.hid hext
          have Hp := Bl.hid hp
          rw [hu] at HG' HC'
          simp only [hu]
          clear hG' hC' hext hend hJ hu hp
          go_wp2_with fail
          go_roundw
          case rel => exact ⟨m - 1, sb, .slice p (M.length + 1) c9, M ++ [y], by go_num, Bl.hid ⟨by have h := HG'.out; rw [List.set_set] at h; exact h, HC'.out, by rw [List.map_append, List.append_assoc]; have h := HN.out.1; rw [← Hp.out] at h; exact h, HN.out.2, by rw [List.length_append, List.length_singleton]; have := Hm.out; omega⟩, Bl.hid (HKr.out.trans ((HK.out.mono fun k _ q => q.elim .inl fun q => .inr (.inr q)).setCell (Q := fun k => k = X ∨ k = Y ∨ B ≤ k) ⟨Y, 7, none⟩ (.inr (.inl rfl)) _))⟩
          case measure => simp [intOf]; omega
        case hJ0 => exact Bl.JB.start (HCr.out.kept (Q := fun _ => False) (Bl.Kq.drew _) (fun _ _ q => q)) (Bl.Kq.drew _)
      · have hfin := Bl.eaT_stop Bl.blF m s' Hsh.out
        have HM : Hid (M.map (fun y : Bl.Bv => y.2) = bs) := Bl.hid (by have h := HI.out.2.2.1; rw [hfin, List.append_nil] at h; exact h)
        have e4 : s' = t4 := by have h := HI.out.2.2.2.1; rw [hfin] at h; exact h
        have hle : Y ≤ B := Nat.le_of_lt HBY.out.1
        have HL : Hid (Bl.LtY wr Y Y ⟨1, i, oo, [], [], 0, 0, bs, 0⟩) := Bl.hid ⟨_, _, v', [], HI.out.1.box, Bl.RdsF.nil _, Bl.RdsF.nil _, fun x hx => (by cases hx), rfl, M, HI.out.1.rowF hle, HI.out.1.elF Bl.stab_okB hle, HM.out⟩
        have HPf' : pr = Bl.finT ((⟨1, i, oo, [], [], 0, 0, bs, 0⟩ : Bl.LT), s') := by rw [e4]; exact HPf.out
        replace HPf := Bl.hid HPf'
        clear HPf' e4 hfin HM hle HI HKr
        have Hsp : Hid (pr = (2, Bl.lt0)) := Bl.hid (by rw [HPf.out]; unfold Bl.finT; exact if_pos Hsh.out)
        clear HPf HL HCr
        have Hstz := Bl.hid (HStz.out _ HBRr.out)
        have HBR9 := Bl.hid (HBRr.out.set (cs' := Bl.zL.toList) rfl)
        have HZ9 := Bl.hid (HZr.out.setCells (g := w.heap.size) (Nat.le_refl _) 0 Bl.zL.toList)
        go_wp2_with (with_reducible refine Bl.stop_store (ty := 33) ?_)
        refine Bl.go_on ?_
        refine Bl.wpL_store0 rfl rfl Hstz.out ?_
        go_wp2_with fail
        refine bodyPost_ret (v := .tuple #[.agg Bl.zL, .int .i64 2]) (Bl.results_cell2 rfl rfl (HBR9.out.loadVar (P := Tryd.prog) Tryd.underlying33 rfl (by kernel_rfl)) rfl) rfl ?_
        rw [Hsp.out]
        exact ⟨_, rfl, Bl.LtV.zero _, HZ9.out.ext fun k q => q⟩
    · have hmi : ¬ ((0 : Int) < (m : Int)) := by omega
      have hfin : Bl.eaT Bl.blF m s' = ([], s') := by
        obtain rfl : m = 0 := by omega
        rfl
      clear q2 Hsh
      have HM : Hid (M.map (fun y : Bl.Bv => y.2) = bs) := Bl.hid (by have h := HI.out.2.2.1; rw [hfin, List.append_nil] at h; exact h)
      have e4 : s' = t4 := by have h := HI.out.2.2.2.1; rw [hfin] at h; exact h
      have hle : Y ≤ B := Nat.le_of_lt HBY.out.1
      have HL : Hid (Bl.LtY wr Y Y ⟨1, i, oo, [], [], 0, 0, bs, 0⟩) := Bl.hid ⟨_, _, v', [], HI.out.1.box, Bl.RdsF.nil _, Bl.RdsF.nil _, fun x hx => (by cases hx), rfl, M, HI.out.1.rowF hle, HI.out.1.elF Bl.stab_okB hle, HM.out⟩
      have HPf' : pr = Bl.finT ((⟨1, i, oo, [], [], 0, 0, bs, 0⟩ : Bl.LT), s') := by rw [e4]; exact HPf.out
      replace HPf := Bl.hid HPf'
      clear HPf' e4 hfin HM hle HI HKr
      obtain ⟨l, hl7⟩ : ∃ l, l = (⟨1, i, oo, [], [], 0, 0, bs, 0⟩ : Bl.LT) := ⟨_, rfl⟩
      rw [← hl7] at HL HPf
      clear hl7
      obtain ⟨pt, ct, at', bt, hxt, hbl, hat, hdr, _, _, _⟩ := HCr.out.ex
      have qb := hxt.cell (i := 2) rfl
      have qa := hxt.cell (i := 1) rfl
      have Hnr : Hid (s'.2.length = n - at' ∧ at' ≤ n) := Bl.hid ⟨by rw [hdr, List.length_drop, hbl], hat⟩
      obtain ⟨sh, rest⟩ := s'
      simp only at qb Hnr
      clear hxt hbl hdr hat HCr
      cases sh with
      | true =>
        have Hsp : Hid (pr = (2, Bl.lt0)) := Bl.hid (by rw [HPf.out]; rfl)
        clear HPf
        have Hstz := Bl.hid (HStz.out _ HBRr.out)
        have HBR9 := Bl.hid (HBRr.out.set (cs' := Bl.zL.toList) rfl)
        have HZ9 := Bl.hid (HZr.out.setCells (g := w.heap.size) (Nat.le_refl _) 0 Bl.zL.toList)
        go_wp2_with (with_reducible refine Bl.stop_store (ty := 33) ?_)
        refine Bl.go_on ?_
        refine Bl.wpL_store0 rfl rfl Hstz.out ?_
        go_wp2_with fail
        refine bodyPost_ret (v := .tuple #[.agg Bl.zL, .int .i64 2]) (Bl.results_cell2 rfl rfl (HBR9.out.loadVar (P := Tryd.prog) Tryd.underlying33 rfl (by kernel_rfl)) rfl) rfl ?_
        rw [Hsp.out]
        exact ⟨_, rfl, Bl.LtV.zero _, HZ9.out.ext fun k q => q⟩
      | false =>
        by_cases h0 : at' < n
        · have h0i : (at' : Int) < (n : Int) := by omega
          have Hsp : Hid (pr = (4, Bl.lt0)) := Bl.hid (by
            rw [HPf.out]; unfold Bl.finT; simp only [Bool.false_eq_true, if_false]; rw [if_pos (by have := Hnr.out.1; omega)])
          clear HPf
          have Hstz := Bl.hid (HStz.out _ HBRr.out)
          have HBR9 := Bl.hid (HBRr.out.set (cs' := Bl.zL.toList) rfl)
          have HZ9 := Bl.hid (HZr.out.setCells (g := w.heap.size) (Nat.le_refl _) 0 Bl.zL.toList)
          go_wp2_with (with_reducible refine Bl.stop_store (ty := 33) ?_)
          refine Bl.go_on ?_
          refine Bl.wpL_store0 rfl rfl Hstz.out ?_
          go_wp2_with fail
          refine bodyPost_ret (v := .tuple #[.agg Bl.zL, .int .i64 4]) (Bl.results_cell2 rfl rfl (HBR9.out.loadVar (P := Tryd.prog) Tryd.underlying33 rfl (by kernel_rfl)) rfl) rfl ?_
          rw [Hsp.out]
          exact ⟨_, rfl, Bl.LtV.zero _, HZ9.out.ext fun k q => q⟩
        · have h0i : ¬ ((at' : Int) < (n : Int)) := by omega
          have HPg : Hid (pr = if Bl.chkL l = 0 then (0, l) else (Bl.chkL l, Bl.lt0)) := Bl.hid (by
            rw [HPf.out]; unfold Bl.finT; simp only [Bool.false_eq_true, if_false]; rw [if_neg (by have := Hnr.out.1; omega)])
          obtain ⟨vp, vs, vb, L, hB7, hF7⟩ := HL.out
          have HLv : Hid (Bl.LtV _ (.agg (Bl.cL l vp vs vb).toArray) l) := Bl.hid ⟨_, vp, vs, vb, L, rfl, hF7.ltc⟩
          have HB7 := Bl.hid hB7
          have HF7 := Bl.hid hF7
          have Hone : Hid (∀ c ∈ Bl.cL l vp vs vb, c.oneCell' = true) := Bl.hid hF7.ltc.one
          have Hl7 := Bl.hid (hB7.load (P := Tryd.prog) Tryd.underlying33 rfl (by kernel_rfl))
          clear HPf h0 hB7 hF7 HL
          go_wp2_with (with_reducible refine Bl.stop_load (ty := 33) ?_)
          refine Bl.go_on ?_
          refine Bl.wpL_load rfl Hl7.out ?_
          go_wp2_with fail
          refine (rcheck_any _ l _ HLv.out).mono ?_
          rintro e w8 ⟨rfl, hE8⟩
          have HB8 := Bl.hid (HB7.out.ext hE8)
          have HBR8 := Bl.hid (HBRr.out.ext hE8)
          have HZ8 : Hid (Bl.Kq (fun k => w.heap.size ≤ k) w w8) := Bl.hid (HZr.out.trans (Bl.Kq.of_ext hE8))
          have HF8 : Hid (Bl.LtF (fun k => Y ≤ k) w8 l vp vs vb L) := Bl.hid (HF7.out.kept fun k hk hlk => ⟨hk, hE8.block k hlk⟩)
          clear hE8 HB7 HBRr HZr HF7 Hl7 HLv qb qa
          obtain ⟨K9, hK9⟩ : ∃ K9, K9 = Bl.chkL l := ⟨_, rfl⟩
          rw [← hK9] at HPg
          rw [← hK9]
          clear hK9
          by_cases hK0 : K9 = 0
          · subst hK0
            have Hsp : Hid (pr = (0, l)) := HPg
            have Hl8 := Bl.hid (HB8.out.load (P := Tryd.prog) Tryd.underlying33 rfl (by kernel_rfl))
            have Hst8 := Bl.hid (HBR8.out.store (P := Tryd.prog) (cs' := Bl.cL l vp vs vb) rfl Hone.out (ty := 33) (by kernel_rfl))
            have HBR9 := Bl.hid (HBR8.out.set (cs' := Bl.cL l vp vs vb) rfl)
            have HZ9 := Bl.hid (HZ8.out.setCells (g := w.heap.size) (Nat.le_refl _) 0 (Bl.cL l vp vs vb))
            have HK9 : Hid (Bl.Kq (fun k => k = w.heap.size) w8 (w8.setCells w.heap.size 0 (Bl.cL l vp vs vb))) := Bl.hid ((Bl.Kq.refl w8).setCells (Q := fun k => k = w.heap.size) rfl 0 _)
            clear HPg
            rw [show ((0 : Nat) : Int) = 0 from rfl]
            go_wp2_with (with_reducible refine Bl.stop_load (ty := 33) ?_)
            refine Bl.go_on ?_
            refine Bl.wpL_load rfl Hl8.out ?_
            go_wp2_with (with_reducible refine Bl.stop_store (ty := 33) ?_)
            refine Bl.go_on ?_
            refine Bl.wpL_store0 rfl rfl Hst8.out ?_
            go_wp2_with fail
            refine bodyPost_ret (v := .tuple #[.agg (Bl.cL l vp vs vb).toArray, .int .i64 0]) (Bl.results_cell2 rfl rfl (HBR9.out.loadVar (P := Tryd.prog) Tryd.underlying33 rfl (by kernel_rfl)) rfl) rfl ?_
            rw [Hsp.out]
            exact ⟨_, rfl, ⟨_, vp, vs, vb, L, rfl, (HF8.out.kept (F' := fun k => Y ≤ k) fun k hk hlk => ⟨hk, HK9.out.block k hlk (by have := HXY.out; omega)⟩).ltc⟩, HZ9.out.ext fun k q => q⟩
          · have Hsp : Hid (pr = (K9, Bl.lt0)) := Bl.hid (by rw [HPg.out, if_neg hK0])
            have Hstz := Bl.hid (HStz.out w8 HBR8.out)
            have HBR9 := Bl.hid (HBR8.out.set (cs' := Bl.zL.toList) rfl)
            have HZ9 := Bl.hid (HZ8.out.setCells (g := w.heap.size) (Nat.le_refl _) 0 Bl.zL.toList)
            have hK0i : ¬ ((K9 : Int) = 0) := by omega
            clear HPg
            go_wp2_with (with_reducible refine Bl.stop_store (ty := 33) ?_)
            refine Bl.go_on ?_
            refine Bl.wpL_store0 rfl rfl Hstz.out ?_
            go_wp2_with fail
            refine bodyPost_ret (v := .tuple #[.agg Bl.zL, .int .i64 (K9 : Nat)]) (Bl.results_cell2 rfl rfl (HBR9.out.loadVar (P := Tryd.prog) Tryd.underlying33 rfl (by kernel_rfl)) rfl) rfl ?_
            rw [Hsp.out]
            exact ⟨_, rfl, Bl.LtV.zero _, HZ9.out.ext fun k q => q⟩
end Go.Proofs.YtmmolapkddbibaaDoor

/- Walk of baileeref22.Parse, letters of kind 2. -/
namespace Go.Proofs.YtmmolapkddbibaaDoor
open Go Go.RowKit Go.Proofs

set_option maxRecDepth 100000 in
set_option maxHeartbeats 8000000 in
theorem rparse2 (v : Value) (r : List Int) (w : World) (hR : Bl.Rd w .u8 v (2 :: r)) (hb : Bl.Byt r) (hl : r.length + 1 ≤ 8000) :
    Calls Tryd.prog 25 #[v] w fun e w' => Bl.ParD (Bl.finT (Bl.rsF 2 (Bl.numF 0 (Bl.tkF 8 (false, r)).1) (Bl.numF 0 (Bl.tkF 8 (Bl.tkF 8 (false, r)).2).1) (Bl.tkF 8 (Bl.tkF 8 (false, r)).2).2)) w e w' := by
  obtain ⟨g, o, c, hvf, hnc, hcm, hgl, _, hel⟩ := Bl.Rd.pos hR (by simp)
  have hc0 : w.cell? ⟨g, o, none⟩ = some (.int .u8 2) := hel 0 (by simp)
  obtain ⟨n, hn⟩ : ∃ n, n = ((2 : Int) :: r).length := ⟨_, rfl⟩
  have hn1 : n = r.length + 1 := by rw [hn]; rfl
  have hR' : Bl.Rds w v n (Bl.ints .u8 (2 :: r)) := by rw [hn]; exact hR
  rw [← hn] at hvf hnc
  subst hvf
  unfold maxLen at hcm
  obtain ⟨X, hX⟩ : ∃ X, X = w.heap.size + 1 := ⟨_, rfl⟩
  obtain ⟨pr, hpr⟩ : ∃ pr, pr = Bl.finT (Bl.rsF 2 (Bl.numF 0 (Bl.tkF 8 (false, r)).1) (Bl.numF 0 (Bl.tkF 8 (Bl.tkF 8 (false, r)).2).1) (Bl.tkF 8 (Bl.tkF 8 (false, r)).2).2) := ⟨_, rfl⟩
  rw [← hpr]
  have hb0 : Bl.Byt ((false, r) : Bl.Rst).2 := hb
  have HT0 : Hid (DTake n X 8 ((false, r) : Bl.Rst) (Bl.tkF 8 ((false, r) : Bl.Rst)).1 (Bl.tkF 8 ((false, r) : Bl.Rst)).2) := Bl.hid (ctake_all n X 8 ((false, r) : Bl.Rst) (by decide) (by decide))
  have HM0 : Hid (DNum (Bl.tkF 8 ((false, r) : Bl.Rst)).1 (Bl.numF 0 (Bl.tkF 8 ((false, r) : Bl.Rst)).1)) := Bl.hid (cnumb_all 8 ((false, r) : Bl.Rst) (by decide) hb0)
  have hb1 := (Bl.tkF_byt (n := 8) (s := ((false, r) : Bl.Rst)) hb0).2
  obtain ⟨i, hzi⟩ : ∃ z, z = Bl.numF 0 (Bl.tkF 8 ((false, r) : Bl.Rst)).1 := ⟨_, rfl⟩
  obtain ⟨s1, hss1⟩ : ∃ z, z = (Bl.tkF 8 ((false, r) : Bl.Rst)).2 := ⟨_, rfl⟩
  rw [← hzi, ← hss1] at hpr
  rw [← hzi] at HM0
  rw [← hss1] at HT0 hb1
  obtain ⟨y0, hy0⟩ : ∃ z, z = (Bl.tkF 8 ((false, r) : Bl.Rst)).1 := ⟨_, rfl⟩
  rw [← hy0] at HM0 HT0
  clear hzi hss1 hy0
  have HT1 : Hid (DTake n X 8 s1 (Bl.tkF 8 s1).1 (Bl.tkF 8 s1).2) := Bl.hid (ctake_all n X 8 s1 (by decide) (by decide))
  have HM1 : Hid (DNum (Bl.tkF 8 s1).1 (Bl.numF 0 (Bl.tkF 8 s1).1)) := Bl.hid (cnumb_all 8 s1 (by decide) hb1)
  have hb2 := (Bl.tkF_byt (n := 8) (s := s1) hb1).2
  obtain ⟨oo, hzoo⟩ : ∃ z, z = Bl.numF 0 (Bl.tkF 8 s1).1 := ⟨_, rfl⟩
  obtain ⟨s2, hss2⟩ : ∃ z, z = (Bl.tkF 8 s1).2 := ⟨_, rfl⟩
  rw [← hzoo, ← hss2] at hpr
  rw [← hzoo] at HM1
  rw [← hss2] at HT1 hb2
  obtain ⟨y1, hy1⟩ : ∃ z, z = (Bl.tkF 8 s1).1 := ⟨_, rfl⟩
  rw [← hy1] at HM1 HT1
  clear hzoo hss2 hy1
  replace hpr : pr = Bl.finT ((⟨2, i, oo, [], [], 0, 0, [], 0⟩ : Bl.LT), s2) := hpr
  have HPf := Bl.hid hpr
  clear hpr
  have HBR0 := Bl.hid (Bl.BoxC.box (cs := Bl.zL.toList) w 33 (fun q => by cases q))
  have HE0 := Bl.hid (Bl.ext_alloc w (.cells Bl.zL 33))
  have HStz : Hid (∀ w2, Bl.BoxC w2 w.heap.size Bl.zL.toList → (Instr.storeAt 33 (.pointer (some ⟨w.heap.size, 0, none⟩)) (.agg Bl.zL)).run Tryd.prog w2 = .ok () (w2.setCells w.heap.size 0 Bl.zL.toList)) := Bl.hid fun w2 h => h.store (P := Tryd.prog) (cs' := Bl.zL.toList) rfl (fun c hc => by
    simp only [List.mem_cons, List.not_mem_nil, or_false] at hc
    rcases hc with rfl | rfl | rfl | rfl | rfl | rfl | rfl | rfl | rfl <;> rfl) (ty := 33) (by kernel_rfl)
  have hs0 : (w.alloc (.cells Bl.zL 33)).heap.size = w.heap.size + 1 := World.size_alloc _ _
  obtain ⟨W1, hW1⟩ : ∃ W1, W1 = (w.alloc (.cells Bl.zL 33)).alloc (.cells #[.slice (some ⟨g, o, none⟩) n c, .int .i64 1, .bool false] 100) := ⟨_, rfl⟩
  have HBR1 : Hid (Bl.BoxC W1 w.heap.size Bl.zL.toList) := Bl.hid (by rw [hW1]; exact HBR0.out.ext (Bl.ext_alloc _ _))
  have HE1 : Hid (Bl.Ext w W1) := Bl.hid (by rw [hW1]; exact HE0.out.trans (Bl.ext_alloc _ _))
  have HX1 : Hid (Bl.BoxC W1 X [.slice (some ⟨g, o, none⟩) n c, .int .i64 1, .bool false]) := Bl.hid (by
    have h := Bl.BoxC.box (cs := [.slice (some ⟨g, o, none⟩) n c, .int .i64 1, .bool false]) (w.alloc (.cells Bl.zL 33)) 100 (fun q => by cases q)
    rw [hs0, ← hX] at h
    rw [hW1]; exact h)
  have HC1 : Hid (Bl.Cur n W1 X (false, r)) := Bl.hid ⟨⟨some ⟨g, o, none⟩, c, 1, 2 :: r, HX1.out, hn.symm, by omega, rfl, (Bl.RdsF.of_rds (F := fun k => k < w.heap.size) hR' (fun _ _ h => h)).kept fun k hk hlk => ⟨by omega, HE1.out.block k hk⟩, hnc, by unfold maxLen; exact hcm⟩, hb, by omega⟩
  have hcW : W1.cell? ⟨g, o, none⟩ = some (.int .u8 2) := ((Bl.bcell HE1.out).1 _ _ (World.block_lt_of_cell? _ _ hc0)).trans hc0
  have hone : ∀ c ∈ Bl.cK 2 0 0 0 0 0, c.oneCell' = true := fun c hc => by
    simp only [Bl.cK, List.mem_cons, List.not_mem_nil, or_false] at hc
    rcases hc with rfl | rfl | rfl | rfl | rfl | rfl | rfl | rfl | rfl <;> rfl
  obtain ⟨hB3, hE3⟩ := Bl.BoxC.fresh (cs := Bl.cK 2 0 0 0 0 0) W1 33 Bl.zL rfl (fun q => by cases q)
  have Hst3 := Bl.hid (Bl.fresh_store (P := Tryd.prog) (cs := Bl.cK 2 0 0 0 0 0) W1 33 Bl.zL rfl hone (ty := 33) (by kernel_rfl))
  obtain ⟨W3, hW3⟩ : ∃ W3, W3 = (W1.alloc (.cells Bl.zL 33)).setCells W1.heap.size 0 (Bl.cK 2 0 0 0 0 0) := ⟨_, rfl⟩
  obtain ⟨Y, hY⟩ : ∃ Y, Y = W1.heap.size := ⟨_, rfl⟩
  rw [← hW3] at hB3 hE3
  rw [← hY] at hB3
  have HXY : Hid (X < Y ∧ w.heap.size < X) := Bl.hid ⟨by rw [hY]; exact HX1.out.lt, by omega⟩
  have HB3 := Bl.hid hB3
  have HC3 := Bl.hid (HC1.out.ext hE3)
  have HBR3 := Bl.hid (HBR1.out.ext hE3)
  have HZ3 : Hid (Bl.Kq (fun k => w.heap.size ≤ k) w W3) := Bl.hid (Bl.Kq.of_ext (HE1.out.trans hE3))
  have q30 := HB3.out.cell (i := 0) (v := .int .i64 2) rfl
  have h8i : ¬ ((8000 : Int) < (n : Int)) := by omega
  have hzi : ¬ ((n : Int) = 0) := by omega
  have hzn : ¬ (n = 0) := by omega
  have hpi : (0 : Int) < (n : Int) := by omega
  have Hn := Bl.hid hn1
  clear hR hel hc0 hn hn1 hR' hb hl hB3 hE3 hone hs0 HX1 HC1 HBR0 HE0 hgl
  go_enter Tryd.func25, Tryd.ntmps25
  go_wp2_with (with_reducible refine Bl.stop_load (ty := 5) ?_)
  refine Bl.go_on ?_
  rw [← hW1, ← hX]
  clear hW1 hX
  go_wp2_with (with_reducible refine Bl.stop_store (ty := 33) ?_)
  refine Bl.go_on ?_
  refine Bl.wpL_store0 rfl rfl Hst3.out ?_
  rw [← hW3, ← hY]
  clear hW3 hY Hst3 hcW HBR1 HE1
  go_wp2_with fail
  refine (out_any 2 1 7 W3).mono ?_
  rintro e w3' ⟨rfl, hw3⟩
  subst hw3
  rw [show Bl.wi 2 1 7 = true from by decide, Bool.not_true]
  clear q30
  go_wp2_with fail
  refine (HT0.out _ HC3.out).mono ?_
  rintro e w0a ⟨v0, rfl, hRd, hCu, hK⟩
  have HRd0 := Bl.hid hRd
  have HC0a := Bl.hid hCu
  have HB0a := Bl.hid (hK.box (by have := HXY.out; omega) HB3.out)
  have HZ0a : Hid (Bl.Kq (fun k => w.heap.size ≤ k) w w0a) := Bl.hid (HZ3.out.trans (hK.mono fun k _ q => by have := HXY.out; omega))
  have HBR0a := Bl.hid (hK.box (by have := HXY.out; omega) HBR3.out)
  clear hRd hCu hK HC3 HB3 HZ3 HBR3
  go_wp2_with fail
  refine (HM0.out _ _ HRd0.out).mono ?_
  rintro e w' ⟨rfl, hw'⟩
  rw [hw']
  clear hw' HRd0 HT0 HM0
  have qf := HB0a.out.cell (i := 1) (v := .int .i64 0) rfl
  have ff := HB0a.out.fz (i := 1) (show 1 < 9 by decide)
  have HB0b : Hid (Bl.BoxC (w0a.setCell ⟨Y, 1, none⟩ (.int .i64 i)) Y (Bl.cK 2 i 0 0 0 0)) := Bl.hid (HB0a.out.put (i := 1) (show 1 < 9 by decide) (.int .i64 i))
  have HK0 : Hid (Bl.Kq (fun k => k = Y) w0a (w0a.setCell ⟨Y, 1, none⟩ (.int .i64 i))) := Bl.hid ((Bl.Kq.refl w0a).setCell (Q := fun k => k = Y) ⟨Y, 1, none⟩ rfl _)
  go_wp2_with fail
  obtain ⟨w0b, hWb⟩ : ∃ W, W = w0a.setCell ⟨Y, 1, none⟩ (.int .i64 i) := ⟨_, rfl⟩
  rw [← hWb] at HB0b HK0 ⊢
  clear hWb qf ff
  have HC0b := Bl.hid (HC0a.out.kept HK0.out (fun j hj q => by have := HXY.out; omega))
  have HZ0b : Hid (Bl.Kq (fun k => w.heap.size ≤ k) w w0b) := Bl.hid (HZ0a.out.trans (HK0.out.mono fun k _ q => by have := HXY.out; omega))
  have HBR0b := Bl.hid (HK0.out.box (by have := HXY.out; omega) HBR0a.out)
  clear HC0a HZ0a HBR0a HB0a HK0
  refine (HT1.out _ HC0b.out).mono ?_
  rintro e w1a ⟨v1, rfl, hRd, hCu, hK⟩
  have HRd1 := Bl.hid hRd
  have HC1a := Bl.hid hCu
  have HB1a := Bl.hid (hK.box (by have := HXY.out; omega) HB0b.out)
  have HZ1a : Hid (Bl.Kq (fun k => w.heap.size ≤ k) w w1a) := Bl.hid (HZ0b.out.trans (hK.mono fun k _ q => by have := HXY.out; omega))
  have HBR1a := Bl.hid (hK.box (by have := HXY.out; omega) HBR0b.out)
  clear hRd hCu hK HC0b HB0b HZ0b HBR0b
  go_wp2_with fail
  refine (HM1.out _ _ HRd1.out).mono ?_
  rintro e w' ⟨rfl, hw'⟩
  rw [hw']
  clear hw' HRd1 HT1 HM1
  have qf := HB1a.out.cell (i := 2) (v := .int .i64 0) rfl
  have ff := HB1a.out.fz (i := 2) (show 2 < 9 by decide)
  have HB1b : Hid (Bl.BoxC (w1a.setCell ⟨Y, 2, none⟩ (.int .i64 oo)) Y (Bl.cK 2 i oo 0 0 0)) := Bl.hid (HB1a.out.put (i := 2) (show 2 < 9 by decide) (.int .i64 oo))
  have HK1 : Hid (Bl.Kq (fun k => k = Y) w1a (w1a.setCell ⟨Y, 2, none⟩ (.int .i64 oo))) := Bl.hid ((Bl.Kq.refl w1a).setCell (Q := fun k => k = Y) ⟨Y, 2, none⟩ rfl _)
  go_wp2_with (with_reducible refine Bl.stop_load (ty := 3) ?_)
  obtain ⟨w1b, hWb⟩ : ∃ W, W = w1a.setCell ⟨Y, 2, none⟩ (.int .i64 oo) := ⟨_, rfl⟩
  rw [← hWb] at HB1b HK1 ⊢
  clear hWb qf ff
  have HC1b := Bl.hid (HC1a.out.kept HK1.out (fun j hj q => by have := HXY.out; omega))
  have HZ1b : Hid (Bl.Kq (fun k => w.heap.size ≤ k) w w1b) := Bl.hid (HZ1a.out.trans (HK1.out.mono fun k _ q => by have := HXY.out; omega))
  have HBR1b := Bl.hid (HK1.out.box (by have := HXY.out; omega) HBR1a.out)
  clear HC1a HZ1a HBR1a HB1a HK1
  refine Bl.go_on ?_
  have qk := HB1b.out.cell (i := 0) (v := .int .i64 2) rfl
  have HL : Hid (Bl.LtY w1b Y Y ⟨2, i, oo, [], [], 0, 0, [], 0⟩) := Bl.hid ⟨_, _, _, [], HB1b.out, Bl.LtF.nil _ _ _ _ _ _ _ _⟩
  clear HB1b
  obtain ⟨l, hl7⟩ : ∃ l, l = (⟨2, i, oo, [], [], 0, 0, [], 0⟩ : Bl.LT) := ⟨_, rfl⟩
  rw [← hl7] at HL HPf
  clear hl7
  obtain ⟨pt, ct, at', bt, hxt, hbl, hat, hdr, _, _, _⟩ := HC1b.out.ex
  have qb := hxt.cell (i := 2) rfl
  have qa := hxt.cell (i := 1) rfl
  have Hnr : Hid (s2.2.length = n - at' ∧ at' ≤ n) := Bl.hid ⟨by rw [hdr, List.length_drop, hbl], hat⟩
  obtain ⟨sh, rest⟩ := s2
  simp only at qb Hnr
  clear hxt hbl hdr hat HC1b
  cases sh with
  | true =>
    have Hsp : Hid (pr = (2, Bl.lt0)) := Bl.hid (by rw [HPf.out]; rfl)
    clear HPf
    have Hstz := Bl.hid (HStz.out _ HBR1b.out)
    have HBR9 := Bl.hid (HBR1b.out.set (cs' := Bl.zL.toList) rfl)
    have HZ9 := Bl.hid (HZ1b.out.setCells (g := w.heap.size) (Nat.le_refl _) 0 Bl.zL.toList)
    go_wp2_with (with_reducible refine Bl.stop_store (ty := 33) ?_)
    refine Bl.go_on ?_
    refine Bl.wpL_store0 rfl rfl Hstz.out ?_
    go_wp2_with fail
    refine bodyPost_ret (v := .tuple #[.agg Bl.zL, .int .i64 2]) (Bl.results_cell2 rfl rfl (HBR9.out.loadVar (P := Tryd.prog) Tryd.underlying33 rfl (by kernel_rfl)) rfl) rfl ?_
    rw [Hsp.out]
    exact ⟨_, rfl, Bl.LtV.zero _, HZ9.out.ext fun k q => q⟩
  | false =>
    by_cases h0 : at' < n
    · have h0i : (at' : Int) < (n : Int) := by omega
      have Hsp : Hid (pr = (4, Bl.lt0)) := Bl.hid (by
        rw [HPf.out]; unfold Bl.finT; simp only [Bool.false_eq_true, if_false]; rw [if_pos (by have := Hnr.out.1; omega)])
      clear HPf
      have Hstz := Bl.hid (HStz.out _ HBR1b.out)
      have HBR9 := Bl.hid (HBR1b.out.set (cs' := Bl.zL.toList) rfl)
      have HZ9 := Bl.hid (HZ1b.out.setCells (g := w.heap.size) (Nat.le_refl _) 0 Bl.zL.toList)
      go_wp2_with (with_reducible refine Bl.stop_store (ty := 33) ?_)
      refine Bl.go_on ?_
      refine Bl.wpL_store0 rfl rfl Hstz.out ?_
      go_wp2_with fail
      refine bodyPost_ret (v := .tuple #[.agg Bl.zL, .int .i64 4]) (Bl.results_cell2 rfl rfl (HBR9.out.loadVar (P := Tryd.prog) Tryd.underlying33 rfl (by kernel_rfl)) rfl) rfl ?_
      rw [Hsp.out]
      exact ⟨_, rfl, Bl.LtV.zero _, HZ9.out.ext fun k q => q⟩
    · have h0i : ¬ ((at' : Int) < (n : Int)) := by omega
      have HPg : Hid (pr = if Bl.chkL l = 0 then (0, l) else (Bl.chkL l, Bl.lt0)) := Bl.hid (by
        rw [HPf.out]; unfold Bl.finT; simp only [Bool.false_eq_true, if_false]; rw [if_neg (by have := Hnr.out.1; omega)])
      obtain ⟨vp, vs, vb, L, hB7, hF7⟩ := HL.out
      have HLv : Hid (Bl.LtV _ (.agg (Bl.cL l vp vs vb).toArray) l) := Bl.hid ⟨_, vp, vs, vb, L, rfl, hF7.ltc⟩
      have HB7 := Bl.hid hB7
      have HF7 := Bl.hid hF7
      have Hone : Hid (∀ c ∈ Bl.cL l vp vs vb, c.oneCell' = true) := Bl.hid hF7.ltc.one
      have Hl7 := Bl.hid (hB7.load (P := Tryd.prog) Tryd.underlying33 rfl (by kernel_rfl))
      clear HPf h0 hB7 hF7 HL
      go_wp2_with (with_reducible refine Bl.stop_load (ty := 33) ?_)
      refine Bl.go_on ?_
      refine Bl.wpL_load rfl Hl7.out ?_
      go_wp2_with fail
      refine (rcheck_any _ l _ HLv.out).mono ?_
      rintro e w8 ⟨rfl, hE8⟩
      have HB8 := Bl.hid (HB7.out.ext hE8)
      have HBR8 := Bl.hid (HBR1b.out.ext hE8)
      have HZ8 : Hid (Bl.Kq (fun k => w.heap.size ≤ k) w w8) := Bl.hid (HZ1b.out.trans (Bl.Kq.of_ext hE8))
      have HF8 : Hid (Bl.LtF (fun k => Y ≤ k) w8 l vp vs vb L) := Bl.hid (HF7.out.kept fun k hk hlk => ⟨hk, hE8.block k hlk⟩)
      clear hE8 HB7 HBR1b HZ1b HF7 Hl7 HLv qb qa
      obtain ⟨K9, hK9⟩ : ∃ K9, K9 = Bl.chkL l := ⟨_, rfl⟩
      rw [← hK9] at HPg
      rw [← hK9]
      clear hK9
      by_cases hK0 : K9 = 0
      · subst hK0
        have Hsp : Hid (pr = (0, l)) := HPg
        have Hl8 := Bl.hid (HB8.out.load (P := Tryd.prog) Tryd.underlying33 rfl (by kernel_rfl))
        have Hst8 := Bl.hid (HBR8.out.store (P := Tryd.prog) (cs' := Bl.cL l vp vs vb) rfl Hone.out (ty := 33) (by kernel_rfl))
        have HBR9 := Bl.hid (HBR8.out.set (cs' := Bl.cL l vp vs vb) rfl)
        have HZ9 := Bl.hid (HZ8.out.setCells (g := w.heap.size) (Nat.le_refl _) 0 (Bl.cL l vp vs vb))
        have HK9 : Hid (Bl.Kq (fun k => k = w.heap.size) w8 (w8.setCells w.heap.size 0 (Bl.cL l vp vs vb))) := Bl.hid ((Bl.Kq.refl w8).setCells (Q := fun k => k = w.heap.size) rfl 0 _)
        clear HPg
        rw [show ((0 : Nat) : Int) = 0 from rfl]
        go_wp2_with (with_reducible refine Bl.stop_load (ty := 33) ?_)
        refine Bl.go_on ?_
        refine Bl.wpL_load rfl Hl8.out ?_
        go_wp2_with (with_reducible refine Bl.stop_store (ty := 33) ?_)
        refine Bl.go_on ?_
        refine Bl.wpL_store0 rfl rfl Hst8.out ?_
        go_wp2_with fail
        refine bodyPost_ret (v := .tuple #[.agg (Bl.cL l vp vs vb).toArray, .int .i64 0]) (Bl.results_cell2 rfl rfl (HBR9.out.loadVar (P := Tryd.prog) Tryd.underlying33 rfl (by kernel_rfl)) rfl) rfl ?_
        rw [Hsp.out]
        exact ⟨_, rfl, ⟨_, vp, vs, vb, L, rfl, (HF8.out.kept (F' := fun k => Y ≤ k) fun k hk hlk => ⟨hk, HK9.out.block k hlk (by have := HXY.out; omega)⟩).ltc⟩, HZ9.out.ext fun k q => q⟩
      · have Hsp : Hid (pr = (K9, Bl.lt0)) := Bl.hid (by rw [HPg.out, if_neg hK0])
        have Hstz := Bl.hid (HStz.out w8 HBR8.out)
        have HBR9 := Bl.hid (HBR8.out.set (cs' := Bl.zL.toList) rfl)
        have HZ9 := Bl.hid (HZ8.out.setCells (g := w.heap.size) (Nat.le_refl _) 0 Bl.zL.toList)
        have hK0i : ¬ ((K9 : Int) = 0) := by omega
        clear HPg
        go_wp2_with (with_reducible refine Bl.stop_store (ty := 33) ?_)
        refine Bl.go_on ?_
        refine Bl.wpL_store0 rfl rfl Hstz.out ?_
        go_wp2_with fail
        refine bodyPost_ret (v := .tuple #[.agg Bl.zL, .int .i64 (K9 : Nat)]) (Bl.results_cell2 rfl rfl (HBR9.out.loadVar (P := Tryd.prog) Tryd.underlying33 rfl (by kernel_rfl)) rfl) rfl ?_
        rw [Hsp.out]
        exact ⟨_, rfl, Bl.LtV.zero _, HZ9.out.ext fun k q => q⟩
end Go.Proofs.YtmmolapkddbibaaDoor

/- Walk of baileeref22.Parse, letters of kind 3. -/
namespace Go.Proofs.YtmmolapkddbibaaDoor
open Go Go.RowKit Go.Proofs

set_option maxRecDepth 100000 in
set_option maxHeartbeats 8000000 in
theorem rparse3 (v : Value) (r : List Int) (w : World) (hR : Bl.Rd w .u8 v (3 :: r)) (hb : Bl.Byt r) (hl : r.length + 1 ≤ 8000) :
    Calls Tryd.prog 25 #[v] w fun e w' => Bl.ParD (Bl.finT (Bl.rsF 3 (Bl.numF 0 (Bl.tkF 8 (false, r)).1) (Bl.numF 0 (Bl.tkF 8 (Bl.tkF 8 (false, r)).2).1) (Bl.tkF 8 (Bl.tkF 8 (false, r)).2).2)) w e w' := by
  obtain ⟨g, o, c, hvf, hnc, hcm, hgl, _, hel⟩ := Bl.Rd.pos hR (by simp)
  have hc0 : w.cell? ⟨g, o, none⟩ = some (.int .u8 3) := hel 0 (by simp)
  obtain ⟨n, hn⟩ : ∃ n, n = ((3 : Int) :: r).length := ⟨_, rfl⟩
  have hn1 : n = r.length + 1 := by rw [hn]; rfl
  have hR' : Bl.Rds w v n (Bl.ints .u8 (3 :: r)) := by rw [hn]; exact hR
  rw [← hn] at hvf hnc
  subst hvf
  unfold maxLen at hcm
  obtain ⟨X, hX⟩ : ∃ X, X = w.heap.size + 1 := ⟨_, rfl⟩
  obtain ⟨pr, hpr⟩ : ∃ pr, pr = Bl.finT (Bl.rsF 3 (Bl.numF 0 (Bl.tkF 8 (false, r)).1) (Bl.numF 0 (Bl.tkF 8 (Bl.tkF 8 (false, r)).2).1) (Bl.tkF 8 (Bl.tkF 8 (false, r)).2).2) := ⟨_, rfl⟩
  rw [← hpr]
  have hb0 : Bl.Byt ((false, r) : Bl.Rst).2 := hb
  have HT0 : Hid (DTake n X 8 ((false, r) : Bl.Rst) (Bl.tkF 8 ((false, r) : Bl.Rst)).1 (Bl.tkF 8 ((false, r) : Bl.Rst)).2) := Bl.hid (ctake_all n X 8 ((false, r) : Bl.Rst) (by decide) (by decide))
  have HM0 : Hid (DNum (Bl.tkF 8 ((false, r) : Bl.Rst)).1 (Bl.numF 0 (Bl.tkF 8 ((false, r) : Bl.Rst)).1)) := Bl.hid (cnumb_all 8 ((false, r) : Bl.Rst) (by decide) hb0)
  have hb1 := (Bl.tkF_byt (n := 8) (s := ((false, r) : Bl.Rst)) hb0).2
  obtain ⟨i, hzi⟩ : ∃ z, z = Bl.numF 0 (Bl.tkF 8 ((false, r) : Bl.Rst)).1 := ⟨_, rfl⟩
  obtain ⟨s1, hss1⟩ : ∃ z, z = (Bl.tkF 8 ((false, r) : Bl.Rst)).2 := ⟨_, rfl⟩
  rw [← hzi, ← hss1] at hpr
  rw [← hzi] at HM0
  rw [← hss1] at HT0 hb1
  obtain ⟨y0, hy0⟩ : ∃ z, z = (Bl.tkF 8 ((false, r) : Bl.Rst)).1 := ⟨_, rfl⟩
  rw [← hy0] at HM0 HT0
  clear hzi hss1 hy0
  have HT1 : Hid (DTake n X 8 s1 (Bl.tkF 8 s1).1 (Bl.tkF 8 s1).2) := Bl.hid (ctake_all n X 8 s1 (by decide) (by decide))
  have HM1 : Hid (DNum (Bl.tkF 8 s1).1 (Bl.numF 0 (Bl.tkF 8 s1).1)) := Bl.hid (cnumb_all 8 s1 (by decide) hb1)
  have hb2 := (Bl.tkF_byt (n := 8) (s := s1) hb1).2
  obtain ⟨oo, hzoo⟩ : ∃ z, z = Bl.numF 0 (Bl.tkF 8 s1).1 := ⟨_, rfl⟩
  obtain ⟨s2, hss2⟩ : ∃ z, z = (Bl.tkF 8 s1).2 := ⟨_, rfl⟩
  rw [← hzoo, ← hss2] at hpr
  rw [← hzoo] at HM1
  rw [← hss2] at HT1 hb2
  obtain ⟨y1, hy1⟩ : ∃ z, z = (Bl.tkF 8 s1).1 := ⟨_, rfl⟩
  rw [← hy1] at HM1 HT1
  clear hzoo hss2 hy1
  replace hpr : pr = Bl.finT ((⟨3, i, oo, (Bl.eaT Bl.plF (Bl.nuF 1 s2).1.toNat (Bl.nuF 1 s2).2).1, [], 0, 0, [], 0⟩ : Bl.LT), (Bl.eaT Bl.plF (Bl.nuF 1 s2).1.toNat (Bl.nuF 1 s2).2).2) := hpr
  have HT2 : Hid (DTake n X 1 s2 (Bl.tkF 1 s2).1 (Bl.tkF 1 s2).2) := Bl.hid (ctake_all n X 1 s2 (by decide) (by decide))
  have HM2 : Hid (DNum (Bl.tkF 1 s2).1 ((Bl.nuF 1 s2).1)) := Bl.hid (cnumb_one s2 hb2)
  have hb3 := (Bl.tkF_byt (n := 1) (s := s2) hb2).2
  have hz2 := Bl.nu1F_le (s := s2) hb2
  have hun2 : Bl.nuF 1 s2 = ((Bl.nuF 1 s2).1, (Bl.tkF 1 s2).2) := rfl
  obtain ⟨cI, hzcI⟩ : ∃ z, z = (Bl.nuF 1 s2).1 := ⟨_, rfl⟩
  obtain ⟨s3, hss3⟩ : ∃ z, z = (Bl.tkF 1 s2).2 := ⟨_, rfl⟩
  rw [← hzcI, ← hss3] at hun2
  rw [← hzcI] at hz2
  rw [hun2] at hpr
  clear hun2
  rw [← hzcI] at HM2
  rw [← hss3] at HT2 hb3
  obtain ⟨y2, hy2⟩ : ∃ z, z = (Bl.tkF 1 s2).1 := ⟨_, rfl⟩
  rw [← hy2] at HM2 HT2
  clear hzcI hss3 hy2
  obtain ⟨cn, rfl⟩ := Int.eq_ofNat_of_zero_le hz2.1
  have Hcn : Hid (cn ≤ 255) := Bl.hid (by have := hz2.2; omega)
  simp only [Int.toNat_natCast] at hpr
  obtain ⟨bs, hbs⟩ : ∃ z, z = (Bl.eaT Bl.plF cn s3).1 := ⟨_, rfl⟩
  obtain ⟨t4, ht4⟩ : ∃ z, z = (Bl.eaT Bl.plF cn s3).2 := ⟨_, rfl⟩
  rw [← hbs, ← ht4] at hpr
  have Hbs := Bl.hid (And.intro hbs.symm ht4.symm)
  clear hbs ht4
  have HPf := Bl.hid hpr
  clear hpr
  have HBR0 := Bl.hid (Bl.BoxC.box (cs := Bl.zL.toList) w 33 (fun q => by cases q))
  have HE0 := Bl.hid (Bl.ext_alloc w (.cells Bl.zL 33))
  have HStz : Hid (∀ w2, Bl.BoxC w2 w.heap.size Bl.zL.toList → (Instr.storeAt 33 (.pointer (some ⟨w.heap.size, 0, none⟩)) (.agg Bl.zL)).run Tryd.prog w2 = .ok () (w2.setCells w.heap.size 0 Bl.zL.toList)) := Bl.hid fun w2 h => h.store (P := Tryd.prog) (cs' := Bl.zL.toList) rfl (fun c hc => by
    simp only [List.mem_cons, List.not_mem_nil, or_false] at hc
    rcases hc with rfl | rfl | rfl | rfl | rfl | rfl | rfl | rfl | rfl <;> rfl) (ty := 33) (by kernel_rfl)
  have hs0 : (w.alloc (.cells Bl.zL 33)).heap.size = w.heap.size + 1 := World.size_alloc _ _
  obtain ⟨W1, hW1⟩ : ∃ W1, W1 = (w.alloc (.cells Bl.zL 33)).alloc (.cells #[.slice (some ⟨g, o, none⟩) n c, .int .i64 1, .bool false] 100) := ⟨_, rfl⟩
  have HBR1 : Hid (Bl.BoxC W1 w.heap.size Bl.zL.toList) := Bl.hid (by rw [hW1]; exact HBR0.out.ext (Bl.ext_alloc _ _))
  have HE1 : Hid (Bl.Ext w W1) := Bl.hid (by rw [hW1]; exact HE0.out.trans (Bl.ext_alloc _ _))
  have HX1 : Hid (Bl.BoxC W1 X [.slice (some ⟨g, o, none⟩) n c, .int .i64 1, .bool false]) := Bl.hid (by
    have h := Bl.BoxC.box (cs := [.slice (some ⟨g, o, none⟩) n c, .int .i64 1, .bool false]) (w.alloc (.cells Bl.zL 33)) 100 (fun q => by cases q)
    rw [hs0, ← hX] at h
    rw [hW1]; exact h)
  have HC1 : Hid (Bl.Cur n W1 X (false, r)) := Bl.hid ⟨⟨some ⟨g, o, none⟩, c, 1, 3 :: r, HX1.out, hn.symm, by omega, rfl, (Bl.RdsF.of_rds (F := fun k => k < w.heap.size) hR' (fun _ _ h => h)).kept fun k hk hlk => ⟨by omega, HE1.out.block k hk⟩, hnc, by unfold maxLen; exact hcm⟩, hb, by omega⟩
  have hcW : W1.cell? ⟨g, o, none⟩ = some (.int .u8 3) := ((Bl.bcell HE1.out).1 _ _ (World.block_lt_of_cell? _ _ hc0)).trans hc0
  have hone : ∀ c ∈ Bl.cK 3 0 0 0 0 0, c.oneCell' = true := fun c hc => by
    simp only [Bl.cK, List.mem_cons, List.not_mem_nil, or_false] at hc
    rcases hc with rfl | rfl | rfl | rfl | rfl | rfl | rfl | rfl | rfl <;> rfl
  obtain ⟨hB3, hE3⟩ := Bl.BoxC.fresh (cs := Bl.cK 3 0 0 0 0 0) W1 33 Bl.zL rfl (fun q => by cases q)
  have Hst3 := Bl.hid (Bl.fresh_store (P := Tryd.prog) (cs := Bl.cK 3 0 0 0 0 0) W1 33 Bl.zL rfl hone (ty := 33) (by kernel_rfl))
  obtain ⟨W3, hW3⟩ : ∃ W3, W3 = (W1.alloc (.cells Bl.zL 33)).setCells W1.heap.size 0 (Bl.cK 3 0 0 0 0 0) := ⟨_, rfl⟩
  obtain ⟨Y, hY⟩ : ∃ Y, Y = W1.heap.size := ⟨_, rfl⟩
  rw [← hW3] at hB3 hE3
  rw [← hY] at hB3
  have HXY : Hid (X < Y ∧ w.heap.size < X) := Bl.hid ⟨by rw [hY]; exact HX1.out.lt, by omega⟩
  have HB3 := Bl.hid hB3
  have HC3 := Bl.hid (HC1.out.ext hE3)
  have HBR3 := Bl.hid (HBR1.out.ext hE3)
  have HZ3 : Hid (Bl.Kq (fun k => w.heap.size ≤ k) w W3) := Bl.hid (Bl.Kq.of_ext (HE1.out.trans hE3))
  have q30 := HB3.out.cell (i := 0) (v := .int .i64 3) rfl
  have h8i : ¬ ((8000 : Int) < (n : Int)) := by omega
  have hzi : ¬ ((n : Int) = 0) := by omega
  have hzn : ¬ (n = 0) := by omega
  have hpi : (0 : Int) < (n : Int) := by omega
  have Hn := Bl.hid hn1
  clear hR hel hc0 hn hn1 hR' hb hl hB3 hE3 hone hs0 HX1 HC1 HBR0 HE0 hgl
  go_enter Tryd.func25, Tryd.ntmps25
  go_wp2_with (with_reducible refine Bl.stop_load (ty := 5) ?_)
  refine Bl.go_on ?_
  rw [← hW1, ← hX]
  clear hW1 hX
  go_wp2_with (with_reducible refine Bl.stop_store (ty := 33) ?_)
  refine Bl.go_on ?_
  refine Bl.wpL_store0 rfl rfl Hst3.out ?_
  rw [← hW3, ← hY]
  clear hW3 hY Hst3 hcW HBR1 HE1
  go_wp2_with fail
  refine (out_any 3 1 7 W3).mono ?_
  rintro e w3' ⟨rfl, hw3⟩
  subst hw3
  rw [show Bl.wi 3 1 7 = true from by decide, Bool.not_true]
  clear q30
  go_wp2_with fail
  refine (HT0.out _ HC3.out).mono ?_
  rintro e w0a ⟨v0, rfl, hRd, hCu, hK⟩
  have HRd0 := Bl.hid hRd
  have HC0a := Bl.hid hCu
  have HB0a := Bl.hid (hK.box (by have := HXY.out; omega) HB3.out)
  have HZ0a : Hid (Bl.Kq (fun k => w.heap.size ≤ k) w w0a) := Bl.hid (HZ3.out.trans (hK.mono fun k _ q => by have := HXY.out; omega))
  have HBR0a := Bl.hid (hK.box (by have := HXY.out; omega) HBR3.out)
  clear hRd hCu hK HC3 HB3 HZ3 HBR3
  go_wp2_with fail
  refine (HM0.out _ _ HRd0.out).mono ?_
  rintro e w' ⟨rfl, hw'⟩
  rw [hw']
  clear hw' HRd0 HT0 HM0
  have qf := HB0a.out.cell (i := 1) (v := .int .i64 0) rfl
  have ff := HB0a.out.fz (i := 1) (show 1 < 9 by decide)
  have HB0b : Hid (Bl.BoxC (w0a.setCell ⟨Y, 1, none⟩ (.int .i64 i)) Y (Bl.cK 3 i 0 0 0 0)) := Bl.hid (HB0a.out.put (i := 1) (show 1 < 9 by decide) (.int .i64 i))
  have HK0 : Hid (Bl.Kq (fun k => k = Y) w0a (w0a.setCell ⟨Y, 1, none⟩ (.int .i64 i))) := Bl.hid ((Bl.Kq.refl w0a).setCell (Q := fun k => k = Y) ⟨Y, 1, none⟩ rfl _)
  go_wp2_with fail
  obtain ⟨w0b, hWb⟩ : ∃ W, W = w0a.setCell ⟨Y, 1, none⟩ (.int .i64 i) := ⟨_, rfl⟩
  rw [← hWb] at HB0b HK0 ⊢
  clear hWb qf ff
  have HC0b := Bl.hid (HC0a.out.kept HK0.out (fun j hj q => by have := HXY.out; omega))
  have HZ0b : Hid (Bl.Kq (fun k => w.heap.size ≤ k) w w0b) := Bl.hid (HZ0a.out.trans (HK0.out.mono fun k _ q => by have := HXY.out; omega))
  have HBR0b := Bl.hid (HK0.out.box (by have := HXY.out; omega) HBR0a.out)
  clear HC0a HZ0a HBR0a HB0a HK0
  refine (HT1.out _ HC0b.out).mono ?_
  rintro e w1a ⟨v1, rfl, hRd, hCu, hK⟩
  have HRd1 := Bl.hid hRd
  have HC1a := Bl.hid hCu
  have HB1a := Bl.hid (hK.box (by have := HXY.out; omega) HB0b.out)
  have HZ1a : Hid (Bl.Kq (fun k => w.heap.size ≤ k) w w1a) := Bl.hid (HZ0b.out.trans (hK.mono fun k _ q => by have := HXY.out; omega))
  have HBR1a := Bl.hid (hK.box (by have := HXY.out; omega) HBR0b.out)
  clear hRd hCu hK HC0b HB0b HZ0b HBR0b
  go_wp2_with fail
  refine (HM1.out _ _ HRd1.out).mono ?_
  rintro e w' ⟨rfl, hw'⟩
  rw [hw']
  clear hw' HRd1 HT1 HM1
  have qf := HB1a.out.cell (i := 2) (v := .int .i64 0) rfl
  have ff := HB1a.out.fz (i := 2) (show 2 < 9 by decide)
  have HB1b : Hid (Bl.BoxC (w1a.setCell ⟨Y, 2, none⟩ (.int .i64 oo)) Y (Bl.cK 3 i oo 0 0 0)) := Bl.hid (HB1a.out.put (i := 2) (show 2 < 9 by decide) (.int .i64 oo))
  have HK1 : Hid (Bl.Kq (fun k => k = Y) w1a (w1a.setCell ⟨Y, 2, none⟩ (.int .i64 oo))) := Bl.hid ((Bl.Kq.refl w1a).setCell (Q := fun k => k = Y) ⟨Y, 2, none⟩ rfl _)
  go_wp2_with (with_reducible refine Bl.stop_load (ty := 3) ?_)
  obtain ⟨w1b, hWb⟩ : ∃ W, W = w1a.setCell ⟨Y, 2, none⟩ (.int .i64 oo) := ⟨_, rfl⟩
  rw [← hWb] at HB1b HK1 ⊢
  clear hWb qf ff
  have HC1b := Bl.hid (HC1a.out.kept HK1.out (fun j hj q => by have := HXY.out; omega))
  have HZ1b : Hid (Bl.Kq (fun k => w.heap.size ≤ k) w w1b) := Bl.hid (HZ1a.out.trans (HK1.out.mono fun k _ q => by have := HXY.out; omega))
  have HBR1b := Bl.hid (HK1.out.box (by have := HXY.out; omega) HBR1a.out)
  clear HC1a HZ1a HBR1a HB1a HK1
  refine Bl.go_on ?_
  have qk := HB1b.out.cell (i := 0) (v := .int .i64 3) rfl
  go_wp2_with fail
  clear qk
  refine (HT2.out _ HC1b.out).mono ?_
  rintro e w2a ⟨v2, rfl, hRd, hCu, hK⟩
  have HRd2 := Bl.hid hRd
  have HC2a := Bl.hid hCu
  have HB2a := Bl.hid (hK.box (by have := HXY.out; omega) HB1b.out)
  have HZ2a : Hid (Bl.Kq (fun k => w.heap.size ≤ k) w w2a) := Bl.hid (HZ1b.out.trans (hK.mono fun k _ q => by have := HXY.out; omega))
  have HBR2a := Bl.hid (hK.box (by have := HXY.out; omega) HBR1b.out)
  clear hRd hCu hK HC1b HB1b HZ1b HBR1b
  go_wp2_with fail
  refine (HM2.out _ _ HRd2.out).mono ?_
  rintro e w' ⟨rfl, hw'⟩
  rw [hw']
  clear hw' HRd2 HT2 HM2
  obtain ⟨B, hB⟩ : ∃ B, B = w2a.heap.size := ⟨_, rfl⟩
  have HBY : Hid (Y < B ∧ B = w2a.heap.size) := Bl.hid ⟨by rw [hB]; exact HB2a.out.lt, hB⟩
  clear hB
  have HG0 : Hid (Bl.GP Bl.cI 1 Bl.OkT B w2a Y 3 ((Bl.cK 3 i oo 0 0 0).set 3 (.slice none 0 0)) (.slice none 0 0) []) := Bl.hid (Bl.GP.start HB2a.out rfl)
  go_wp2_with fail
  go_loopw [7] (fun x wr => ∃ (m : Nat) (s' : Bl.Rst) (v' : Value) (M : List Int), x = .int .i64 m ∧ Hid (Bl.GP Bl.cI 1 Bl.OkT B wr Y 3 ((Bl.cK 3 i oo 0 0 0).set 3 v') v' M ∧ Bl.Cur n wr X s' ∧ M ++ (Bl.eaT Bl.plF m s').1 = bs ∧ (Bl.eaT Bl.plF m s').2 = t4 ∧ M.length + m ≤ 255) ∧ Hid (Bl.Kq (fun k => k = X ∨ k = Y ∨ B ≤ k) w2a wr)) (fun x _ => (intOf x).toNat)
  case atStart => exact ⟨cn, s3, _, [], rfl, Bl.hid ⟨HG0.out, HC2a.out, Hbs.out.1, Hbs.out.2, by have := Hcn.out; simp only [List.length_nil]; omega⟩, Bl.hid (Bl.Kq.refl _)⟩
  case round =>
    obtain ⟨m, s', v', M, rfl, HI, HKr⟩ := hrel
    have HZr : Hid (Bl.Kq (fun k => w.heap.size ≤ k) w wr) := Bl.hid (HZ2a.out.trans (HKr.out.mono fun k _ q => by have := HXY.out; have := HBY.out; omega))
    have HBRr := Bl.hid (HKr.out.box (by have := HXY.out; have := HBY.out; omega) HBR2a.out)
    have HCr := Bl.hid HI.out.2.1
    have q2 := HCr.out.bad
    have qk := HI.out.1.box.cell (i := 0) (v := .int .i64 3) rfl
    obtain ⟨sh, hsh⟩ : ∃ sh, sh = s'.1 := ⟨_, rfl⟩
    rw [← hsh] at q2
    have Hsh := Bl.hid hsh.symm
    clear hsh HG0 HB2a
    by_cases hm : 0 < m
    · have hmi : (0 : Int) < (m : Int) := by omega
      cases sh
      · clear qk
        have hsd := Bl.eaT_dec Bl.plF m s' hm Hsh.out
        have HTs : ∀ w2, Bl.Cur n w2 X s' → Calls Tryd.prog 53 #[.pointer (some ⟨X, 0, none⟩), .int .i64 2] w2 fun e w' => ∃ v', e = .returned v' ∧ Bl.Rd w' .u8 v' (Bl.tkF 2 s').1 ∧ Bl.Cur n w' X (Bl.tkF 2 s').2 ∧ Bl.Kq (fun k => k = X) w2 w' := ctake_all n X 2 s' (by decide) (by decide)
        have hlen : (Bl.tkF 2 s').1.length = 2 := Bl.tkF_len
        have hby := (Bl.tkF_byt (n := 2) (s := s') HCr.out.by').1
        have hbl : Bl.plF s' = ([(Bl.nuF 2 s').1], (Bl.tkF 2 s').2) := rfl
        have HMs : DNum (Bl.tkF 2 s').1 (Bl.nuF 2 s').1 := cnumb_two s' HCr.out.by'
        obtain ⟨nn, hnn⟩ : ∃ z, z = (Bl.nuF 2 s').1 := ⟨_, rfl⟩
        obtain ⟨st, hst⟩ : ∃ z, z = (Bl.tkF 2 s').1 := ⟨_, rfl⟩
        obtain ⟨sb, hsb⟩ : ∃ z, z = (Bl.tkF 2 s').2 := ⟨_, rfl⟩
        rw [← hst, ← hsb] at HTs
        rw [← hnn, ← hsb] at hbl
        rw [← hst, ← hnn] at HMs
        rw [hbl] at hsd
        have HN : Hid (M ++ ([nn] ++ (Bl.eaT Bl.plF (m - 1) sb).1) = bs ∧ (Bl.eaT Bl.plF (m - 1) sb).2 = t4) := Bl.hid ⟨by have h := HI.out.2.2.1; rw [hsd] at h; exact h, by have h := HI.out.2.2.2.1; rw [hsd] at h; exact h⟩
        replace HTs := Bl.hid HTs
        replace HMs := Bl.hid HMs
        have HG := Bl.hid HI.out.1
        have Hm := Bl.hid HI.out.2.2.2.2
        have Hml : Hid (M.length + 1 ≤ maxLen ∧ (M.length + 1) * 8 ≤ 140737488355328) := Bl.hid (by have := Hm.out; unfold maxLen; omega)
        have hm2 : (m : Int) ≤ 255 := by have := Hm.out; omega
        have HBw : Hid (B ≤ wr.heap.size ∧ X < wr.heap.size ∧ X < B) := Bl.hid ⟨by have := HKr.out.size; have := HBY.out.2; omega, HCr.out.lt, by have := HXY.out; have := HBY.out; omega⟩
        have Hq7 : Hid (∀ w2, Bl.Kq (fun k => k = X ∨ B ≤ k) wr w2 → w2.cell? ⟨Y, 3, none⟩ = some v') := Bl.hid fun w2 h => h.cell (by have := HXY.out; have := HBY.out; omega) HG.out.cell
        clear HI
        clear hsd hbl hst hsb hlen hby hnn
        go_wp2_with fail
        clear q2
        apply Bl.wp_region_evK (Bl.Kq (fun k => k = X ∨ B ≤ k)) (Bl.JI n B X Y 3 ((Bl.cK 3 i oo 0 0 0).set 3 v') v' M s' sb st nn) 8 [101, 102, 103, 104, 105, 106, 107, 108] [Bl.eqv _, Bl.eqv _, Bl.eqv _, Bl.anyv, Bl.anyv, Bl.anyv, Bl.anyv, Bl.eqv _] (fun w => Bl.Kq.refl w) (fun a b c h k => Bl.Kq.trans h k) (by kernel_rfl) (by kernel_rfl) (by kernel_rfl) (by kernel_rfl)
        case hsteps =>
          refine ⟨?_, ?_, ?_, ?_, ?_, ?_, ?_, ?_, trivial⟩
          all_goals
            intro d ev w1 hext HJd Hanc Hdes hni hb hd
            replace Hanc := Bl.hid Hanc
            replace HJd := Bl.hid HJd
            replace Hdes := Bl.hid Hdes
            replace hni := Bl.hid hni
            have e4 := hb 4 (by decide)
            have e5 := hb 5 (by decide)
            clear hb
            simp only [Array.getD_eq_getD_getElem?, List.getElem?_toArray, List.getElem?_cons_succ, List.getElem?_cons_zero, Option.getD_some] at e4 e5
            simp only [Bl.DepsE2, List.getElem?_cons_succ, List.getElem?_cons_zero, Option.bind_some, List.getD_cons_succ, List.getD_cons_zero, Bl.eqv, and_true] at hd
            have c7 := Hq7.out _ hext
            rw [if_pos (rfl : Region.wanted _ _ = true)]
            first
            | ((with_reducible refine Bl.goodX_buildV (v := ev 105) tII (by decide) ?_ (HJd.out.c (Hanc.out 4 (by kernel_rfl)) hni.out).size ?_); rfl; exact ⟨Bl.Kq.of_ext (Bl.ext_alloc _ _), trivial, HJd.out.bd (Hanc.out 3 (by kernel_rfl)) (Hanc.out 4 (by kernel_rfl)) hni.out (Hdes.out 6 (by kernel_rfl)) _⟩) | ((with_reducible refine Bl.goodX_f3 tII Bl.stab_okT HBw.out.2.2 HXY.out.1 (HJd.out.e (Hanc.out 5 (by kernel_rfl)) hni.out) ?_ ?_ Hml.out.1 Hml.out.2 ?_); rfl; exact (by first | exact hd | exact hd.2 | exact hd.1.2 | exact hd.1.1.2 | exact hd.1.1.1.2 | exact hd.1.1.1.1.2 | exact hd.1.1.1.1.1.2 | exact hd.1.1.1.1.1.1.2 | exact hd.1.1.1.1.1.1.1.2 | exact hd.1.1.1.1.1.1.1.1.2 | exact hd.1.1.1.1.1.1.1.1.1.2 | exact hd.1.1.1.1.1.1.1.1.1.1.2 | exact hd.1.1.1.1.1.1.1.1.1.1.1.2 | exact hd.1.1.1.1.1.1.1.1.1.1.1.1.2 | exact hd.1.1.1.1.1.1.1.1.1.1.1.1.1.2 | exact hd.1 | exact hd.1.1 | exact hd.1.1.1 | exact hd.1.1.1.1 | exact hd.1.1.1.1.1 | exact hd.1.1.1.1.1.1 | exact hd.1.1.1.1.1.1.1 | exact hd.1.1.1.1.1.1.1.1 | exact hd.1.1.1.1.1.1.1.1.1 | exact hd.1.1.1.1.1.1.1.1.1.1 | exact hd.1.1.1.1.1.1.1.1.1.1.1 | exact hd.1.1.1.1.1.1.1.1.1.1.1.1 | exact hd.1.1.1.1.1.1.1.1.1.1.1.1.1 | exact hd.2.1 | exact hd.2.2.1 | exact hd.2.2.2.1 | exact hd.2.2.2.2.1 | exact hd.2.2.2.2.2.1 | exact hd.2.2.2.2.2.2.1 | exact hd.2.2.2.2.2.2.2.1 | exact hd.2.2.2.2.2.2.2.2.1 | exact hd.2.2.2.2.2.2.2.2.2.1 | exact hd.2.2.2.2.2.2.2.2.2.2.1 | exact hd.2.2.2.2.2.2.2.2.2.2.2.1 | exact hd.2.2.2.2.2.2.2.2.2.2.2.2.1 | exact hd.2.2.2.2.2.2.2.2.2.2.2.2.2.1); exact fun v' w' k1 k2 => ⟨k1, trivial, Bl.JI.app (Hanc.out 3 (by kernel_rfl)) (Hanc.out 4 (by kernel_rfl)) (Hanc.out 5 (by kernel_rfl)) k2⟩)
            | (go_simp; first | exact ⟨Bl.Kq.refl _, rfl, HJd.out.same (by decide)⟩ | (go_at_call 53; have hcl := HTs.out w1 (HJd.out.a hni.out).1; (with_reducible refine hcl.mono ?_); rintro e w2 ⟨v9, rfl, k1, k2, k3⟩; exact ⟨_, rfl, k3.mono fun _ _ q => .inl q, trivial, HJd.out.tk hni.out (Hdes.out 4 (by kernel_rfl)) (Hdes.out 5 (by kernel_rfl)) (Hdes.out 6 (by kernel_rfl)) HXY.out.1 HBw.out.2.2 k1 k2 k3⟩) | (go_at_call 52; have hcl := HMs.out _ w1 (HJd.out.b (Hanc.out 3 (by kernel_rfl)) hni.out).1; (with_reducible refine hcl.mono ?_); rintro e w2 ⟨rfl, hw2⟩; rw [hw2]; exact ⟨_, rfl, Bl.Kq.refl _, trivial, HJd.out.nm (Hanc.out 3 (by kernel_rfl)) hni.out (Hdes.out 5 (by kernel_rfl)) (Hdes.out 6 (by kernel_rfl))⟩) | exact ⟨Below.refl _ _, rfl, Bl.HJ.same (by decide) HJd.out⟩)
        case hmono => exact ⟨Bl.monoR_eqv _, Bl.monoR_eqv _, Bl.monoR_eqv _, Bl.monoR_anyv, Bl.monoR_anyv, Bl.monoR_anyv, Bl.monoR_anyv, Bl.monoR_eqv _, trivial⟩
        case hR0 => exact Bl.Kq.drew _
        case hend =>
          intro u w1 hext hJ hend
          simp only [Bl.EndE, List.getElem?_cons_succ, List.getElem?_cons_zero, Option.bind_some, List.getD_cons_succ, List.getD_cons_zero, Bl.eqv, true_and] at hend
          simp only [Bl.fillAct, List.setIfInBounds_toArray, List.set_cons_succ, List.set_cons_zero, List.drop_succ_cons, List.drop_zero, hend]
          obtain ⟨y, p, c9, hu, hp, hcell, hfz, hG', hC'⟩ := hJ.f rfl
          have HG' := Bl.hid hG'
          have HC' := Bl.hid hC'
          have HK := Bl.hid hext
          have Hp := Bl.hid hp
          rw [hu] at HG' HC'
          simp only [hu]
          clear hG' hC' hext hend hJ hu hp
          go_wp2_with fail
          go_roundw
          case rel => exact ⟨m - 1, sb, .slice p (M.length + 1) c9, M ++ [y], by go_num, Bl.hid ⟨by have h := HG'.out; rw [List.set_set] at h; exact h, HC'.out, by rw [List.append_assoc]; have h := HN.out.1; rw [← Hp.out] at h; exact h, HN.out.2, by rw [List.length_append, List.length_singleton]; have := Hm.out; omega⟩, Bl.hid (HKr.out.trans ((HK.out.mono fun k _ q => q.elim .inl fun q => .inr (.inr q)).setCell (Q := fun k => k = X ∨ k = Y ∨ B ≤ k) ⟨Y, 3, none⟩ (.inr (.inl rfl)) _))⟩
          case measure => simp [intOf]; omega
        case hJ0 => exact Bl.JI.start ⟨HCr.out.kept (Q := fun _ => False) (Bl.Kq.drew _) (fun _ _ q => q), HG.out.kept (Q := fun _ => False) Bl.stab_okT (Bl.Kq.drew _) (fun q => q) (fun _ _ q => q), HBw.out.1⟩
      · have hfin := Bl.eaT_stop Bl.plF m s' Hsh.out
        have HM : Hid (M = bs) := Bl.hid (by have h := HI.out.2.2.1; rw [hfin, List.append_nil] at h; exact h)
        have e4 : s' = t4 := by have h := HI.out.2.2.2.1; rw [hfin] at h; exact h
        have hle : Y ≤ B := Nat.le_of_lt HBY.out.1
        have HL : Hid (Bl.LtY wr Y Y ⟨3, i, oo, bs, [], 0, 0, [], 0⟩) := Bl.hid ⟨v', _, _, [], HI.out.1.box, (by have h := HI.out.1.rowF hle; rw [Bl.cellsI] at h; have hm := HM.out; rw [← hm]; exact h), Bl.RdsF.nil _, fun x hx => (by cases hx), rfl, [], Bl.RdsF.nil _, fun x hx => (by cases hx), rfl⟩
        have HPf' : pr = Bl.finT ((⟨3, i, oo, bs, [], 0, 0, [], 0⟩ : Bl.LT), s') := by rw [e4]; exact HPf.out
        replace HPf := Bl.hid HPf'
        clear HPf' e4 hfin HM hle HI HKr
        have Hsp : Hid (pr = (2, Bl.lt0)) := Bl.hid (by rw [HPf.out]; unfold Bl.finT; exact if_pos Hsh.out)
        clear HPf HL HCr
        have Hstz := Bl.hid (HStz.out _ HBRr.out)
        have HBR9 := Bl.hid (HBRr.out.set (cs' := Bl.zL.toList) rfl)
        have HZ9 := Bl.hid (HZr.out.setCells (g := w.heap.size) (Nat.le_refl _) 0 Bl.zL.toList)
        go_wp2_with (with_reducible refine Bl.stop_store (ty := 33) ?_)
        refine Bl.go_on ?_
        refine Bl.wpL_store0 rfl rfl Hstz.out ?_
        go_wp2_with fail
        refine bodyPost_ret (v := .tuple #[.agg Bl.zL, .int .i64 2]) (Bl.results_cell2 rfl rfl (HBR9.out.loadVar (P := Tryd.prog) Tryd.underlying33 rfl (by kernel_rfl)) rfl) rfl ?_
        rw [Hsp.out]
        exact ⟨_, rfl, Bl.LtV.zero _, HZ9.out.ext fun k q => q⟩
    · have hmi : ¬ ((0 : Int) < (m : Int)) := by omega
      have hfin : Bl.eaT Bl.plF m s' = ([], s') := by
        obtain rfl : m = 0 := by omega
        rfl
      clear q2 Hsh
      have HM : Hid (M = bs) := Bl.hid (by have h := HI.out.2.2.1; rw [hfin, List.append_nil] at h; exact h)
      have e4 : s' = t4 := by have h := HI.out.2.2.2.1; rw [hfin] at h; exact h
      have hle : Y ≤ B := Nat.le_of_lt HBY.out.1
      have HL : Hid (Bl.LtY wr Y Y ⟨3, i, oo, bs, [], 0, 0, [], 0⟩) := Bl.hid ⟨v', _, _, [], HI.out.1.box, (by have h := HI.out.1.rowF hle; rw [Bl.cellsI] at h; have hm := HM.out; rw [← hm]; exact h), Bl.RdsF.nil _, fun x hx => (by cases hx), rfl, [], Bl.RdsF.nil _, fun x hx => (by cases hx), rfl⟩
      have HPf' : pr = Bl.finT ((⟨3, i, oo, bs, [], 0, 0, [], 0⟩ : Bl.LT), s') := by rw [e4]; exact HPf.out
      replace HPf := Bl.hid HPf'
      clear HPf' e4 hfin HM hle HI HKr
      obtain ⟨l, hl7⟩ : ∃ l, l = (⟨3, i, oo, bs, [], 0, 0, [], 0⟩ : Bl.LT) := ⟨_, rfl⟩
      rw [← hl7] at HL HPf
      clear hl7
      obtain ⟨pt, ct, at', bt, hxt, hbl, hat, hdr, _, _, _⟩ := HCr.out.ex
      have qb := hxt.cell (i := 2) rfl
      have qa := hxt.cell (i := 1) rfl
      have Hnr : Hid (s'.2.length = n - at' ∧ at' ≤ n) := Bl.hid ⟨by rw [hdr, List.length_drop, hbl], hat⟩
      obtain ⟨sh, rest⟩ := s'
      simp only at qb Hnr
      clear hxt hbl hdr hat HCr
      cases sh with
      | true =>
        have Hsp : Hid (pr = (2, Bl.lt0)) := Bl.hid (by rw [HPf.out]; rfl)
        clear HPf
        have Hstz := Bl.hid (HStz.out _ HBRr.out)
        have HBR9 := Bl.hid (HBRr.out.set (cs' := Bl.zL.toList) rfl)
        have HZ9 := Bl.hid (HZr.out.setCells (g := w.heap.size) (Nat.le_refl _) 0 Bl.zL.toList)
        go_wp2_with (with_reducible refine Bl.stop_store (ty := 33) ?_)
        refine Bl.go_on ?_
        refine Bl.wpL_store0 rfl rfl Hstz.out ?_
        go_wp2_with fail
        refine bodyPost_ret (v := .tuple #[.agg Bl.zL, .int .i64 2]) (Bl.results_cell2 rfl rfl (HBR9.out.loadVar (P := Tryd.prog) Tryd.underlying33 rfl (by kernel_rfl)) rfl) rfl ?_
        rw [Hsp.out]
        exact ⟨_, rfl, Bl.LtV.zero _, HZ9.out.ext fun k q => q⟩
      | false =>
        by_cases h0 : at' < n
        · have h0i : (at' : Int) < (n : Int) := by omega
          have Hsp : Hid (pr = (4, Bl.lt0)) := Bl.hid (by
            rw [HPf.out]; unfold Bl.finT; simp only [Bool.false_eq_true, if_false]; rw [if_pos (by have := Hnr.out.1; omega)])
          clear HPf
          have Hstz := Bl.hid (HStz.out _ HBRr.out)
          have HBR9 := Bl.hid (HBRr.out.set (cs' := Bl.zL.toList) rfl)
          have HZ9 := Bl.hid (HZr.out.setCells (g := w.heap.size) (Nat.le_refl _) 0 Bl.zL.toList)
          go_wp2_with (with_reducible refine Bl.stop_store (ty := 33) ?_)
          refine Bl.go_on ?_
          refine Bl.wpL_store0 rfl rfl Hstz.out ?_
          go_wp2_with fail
          refine bodyPost_ret (v := .tuple #[.agg Bl.zL, .int .i64 4]) (Bl.results_cell2 rfl rfl (HBR9.out.loadVar (P := Tryd.prog) Tryd.underlying33 rfl (by kernel_rfl)) rfl) rfl ?_
          rw [Hsp.out]
          exact ⟨_, rfl, Bl.LtV.zero _, HZ9.out.ext fun k q => q⟩
        · have h0i : ¬ ((at' : Int) < (n : Int)) := by omega
          have HPg : Hid (pr = if Bl.chkL l = 0 then (0, l) else (Bl.chkL l, Bl.lt0)) := Bl.hid (by
            rw [HPf.out]; unfold Bl.finT; simp only [Bool.false_eq_true, if_false]; rw [if_neg (by have := Hnr.out.1; omega)])
          obtain ⟨vp, vs, vb, L, hB7, hF7⟩ := HL.out
          have HLv : Hid (Bl.LtV _ (.agg (Bl.cL l vp vs vb).toArray) l) := Bl.hid ⟨_, vp, vs, vb, L, rfl, hF7.ltc⟩
          have HB7 := Bl.hid hB7
          have HF7 := Bl.hid hF7
          have Hone : Hid (∀ c ∈ Bl.cL l vp vs vb, c.oneCell' = true) := Bl.hid hF7.ltc.one
          have Hl7 := Bl.hid (hB7.load (P := Tryd.prog) Tryd.underlying33 rfl (by kernel_rfl))
          clear HPf h0 hB7 hF7 HL
          go_wp2_with (with_reducible refine Bl.stop_load (ty := 33) ?_)
          refine Bl.go_on ?_
          refine Bl.wpL_load rfl Hl7.out ?_
          go_wp2_with fail
          refine (rcheck_any _ l _ HLv.out).mono ?_
          rintro e w8 ⟨rfl, hE8⟩
          have HB8 := Bl.hid (HB7.out.ext hE8)
          have HBR8 := Bl.hid (HBRr.out.ext hE8)
          have HZ8 : Hid (Bl.Kq (fun k => w.heap.size ≤ k) w w8) := Bl.hid (HZr.out.trans (Bl.Kq.of_ext hE8))
          have HF8 : Hid (Bl.LtF (fun k => Y ≤ k) w8 l vp vs vb L) := Bl.hid (HF7.out.kept fun k hk hlk => ⟨hk, hE8.block k hlk⟩)
          clear hE8 HB7 HBRr HZr HF7 Hl7 HLv qb qa
          obtain ⟨K9, hK9⟩ : ∃ K9, K9 = Bl.chkL l := ⟨_, rfl⟩
          rw [← hK9] at HPg
          rw [← hK9]
          clear hK9
          by_cases hK0 : K9 = 0
          · subst hK0
            have Hsp : Hid (pr = (0, l)) := HPg
            have Hl8 := Bl.hid (HB8.out.load (P := Tryd.prog) Tryd.underlying33 rfl (by kernel_rfl))
            have Hst8 := Bl.hid (HBR8.out.store (P := Tryd.prog) (cs' := Bl.cL l vp vs vb) rfl Hone.out (ty := 33) (by kernel_rfl))
            have HBR9 := Bl.hid (HBR8.out.set (cs' := Bl.cL l vp vs vb) rfl)
            have HZ9 := Bl.hid (HZ8.out.setCells (g := w.heap.size) (Nat.le_refl _) 0 (Bl.cL l vp vs vb))
            have HK9 : Hid (Bl.Kq (fun k => k = w.heap.size) w8 (w8.setCells w.heap.size 0 (Bl.cL l vp vs vb))) := Bl.hid ((Bl.Kq.refl w8).setCells (Q := fun k => k = w.heap.size) rfl 0 _)
            clear HPg
            rw [show ((0 : Nat) : Int) = 0 from rfl]
            go_wp2_with (with_reducible refine Bl.stop_load (ty := 33) ?_)
            refine Bl.go_on ?_
            refine Bl.wpL_load rfl Hl8.out ?_
            go_wp2_with (with_reducible refine Bl.stop_store (ty := 33) ?_)
            refine Bl.go_on ?_
            refine Bl.wpL_store0 rfl rfl Hst8.out ?_
            go_wp2_with fail
            refine bodyPost_ret (v := .tuple #[.agg (Bl.cL l vp vs vb).toArray, .int .i64 0]) (Bl.results_cell2 rfl rfl (HBR9.out.loadVar (P := Tryd.prog) Tryd.underlying33 rfl (by kernel_rfl)) rfl) rfl ?_
            rw [Hsp.out]
            exact ⟨_, rfl, ⟨_, vp, vs, vb, L, rfl, (HF8.out.kept (F' := fun k => Y ≤ k) fun k hk hlk => ⟨hk, HK9.out.block k hlk (by have := HXY.out; omega)⟩).ltc⟩, HZ9.out.ext fun k q => q⟩
          · have Hsp : Hid (pr = (K9, Bl.lt0)) := Bl.hid (by rw [HPg.out, if_neg hK0])
            have Hstz := Bl.hid (HStz.out w8 HBR8.out)
            have HBR9 := Bl.hid (HBR8.out.set (cs' := Bl.zL.toList) rfl)
            have HZ9 := Bl.hid (HZ8.out.setCells (g := w.heap.size) (Nat.le_refl _) 0 Bl.zL.toList)
            have hK0i : ¬ ((K9 : Int) = 0) := by omega
            clear HPg
            go_wp2_with (with_reducible refine Bl.stop_store (ty := 33) ?_)
            refine Bl.go_on ?_
            refine Bl.wpL_store0 rfl rfl Hstz.out ?_
            go_wp2_with fail
            refine bodyPost_ret (v := .tuple #[.agg Bl.zL, .int .i64 (K9 : Nat)]) (Bl.results_cell2 rfl rfl (HBR9.out.loadVar (P := Tryd.prog) Tryd.underlying33 rfl (by kernel_rfl)) rfl) rfl ?_
            rw [Hsp.out]
            exact ⟨_, rfl, Bl.LtV.zero _, HZ9.out.ext fun k q => q⟩
end Go.Proofs.YtmmolapkddbibaaDoor

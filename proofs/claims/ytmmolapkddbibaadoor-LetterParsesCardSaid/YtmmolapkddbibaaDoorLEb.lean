/- Texts that stood apart, in one: LE4, LE5, LE6. -/
import Derived.Test.YtmmolapkddbibaaDoorLDs
import Derived.Test.YtmmolapkddbibaaDoorLC5
import Derived.Test.YtmmolapkddbibaaDoorLP6
/- Walk of baileeref22.Parse, letters of kind 4. -/
namespace Go.Proofs.YtmmolapkddbibaaDoor
open Go Go.RowKit Go.Proofs

set_option maxRecDepth 100000 in
set_option maxHeartbeats 8000000 in
theorem rparse4 (v : Value) (r : List Int) (w : World) (hR : Bl.Rd w .u8 v (4 :: r)) (hb : Bl.Byt r) (hl : r.length + 1 ≤ 8000) :
    Calls Tryd.prog 25 #[v] w fun e w' => Bl.ParD (Bl.finT (Bl.rsF 4 (Bl.numF 0 (Bl.tkF 8 (false, r)).1) (Bl.numF 0 (Bl.tkF 8 (Bl.tkF 8 (false, r)).2).1) (Bl.tkF 8 (Bl.tkF 8 (false, r)).2).2)) w e w' := by
  obtain ⟨g, o, c, hvf, hnc, hcm, hgl, _, hel⟩ := Bl.Rd.pos hR (by simp)
  have hc0 : w.cell? ⟨g, o, none⟩ = some (.int .u8 4) := hel 0 (by simp)
  obtain ⟨n, hn⟩ : ∃ n, n = ((4 : Int) :: r).length := ⟨_, rfl⟩
  have hn1 : n = r.length + 1 := by rw [hn]; rfl
  have hR' : Bl.Rds w v n (Bl.ints .u8 (4 :: r)) := by rw [hn]; exact hR
  rw [← hn] at hvf hnc
  subst hvf
  unfold maxLen at hcm
  obtain ⟨X, hX⟩ : ∃ X, X = w.heap.size + 1 := ⟨_, rfl⟩
  obtain ⟨pr, hpr⟩ : ∃ pr, pr = Bl.finT (Bl.rsF 4 (Bl.numF 0 (Bl.tkF 8 (false, r)).1) (Bl.numF 0 (Bl.tkF 8 (Bl.tkF 8 (false, r)).2).1) (Bl.tkF 8 (Bl.tkF 8 (false, r)).2).2) := ⟨_, rfl⟩
  rw [← hpr]
  have hb0 : Bl.Byt ((false, r) : Bl.Rst).2 := hb
  have HT0 : Hid (DTake n X 8 ((false, r) : Bl.Rst) (Bl.tkF 8 ((false, r) : Bl.Rst)).1 (Bl.tkF 8 ((false, r) : Bl.Rst)).2) := Bl.hid (ctake_all n X 8 ((false, r) : Bl.Rst) (by decide) (by decide))
  have HM0 : Hid (DNum (Bl.tkF 8 ((false, r) : Bl.Rst)).1 (Bl.numF 0 (Bl.tkF 8 ((false, r) : Bl.Rst)).1)) := Bl.hid (cnumb_all 8 ((false, r) : Bl.Rst) (by decide) hb0)
  have hb1 := (Bl.tkF_byt (n := 8) (s := ((false, r) : Bl.Rst)) hb0).2
  obtain ⟨i, hzi⟩ : ∃ z, z = Bl.numF 0 (Bl.tkF 8 ((false, r) : Bl.Rst)).1 := ⟨_, rfl⟩
  obtain ⟨s1, hss1⟩ : ∃ z, z = (Bl.tkF 8 ((false, r) : Bl.Rst)).2 := ⟨_, rfl⟩
  rw [← hzi, ← hss1] at hpr
  rw [← hzi] at HM0
  rw [← hss1] at HT0 hb1
  obtain ⟨y0, hy0⟩ : ∃ z, z = (Bl.tkF 8 ((false, r) : Bl.Rst)).1 := ⟨_, rfl⟩
  rw [← hy0] at HM0 HT0
  clear hzi hss1 hy0
  have HT1 : Hid (DTake n X 8 s1 (Bl.tkF 8 s1).1 (Bl.tkF 8 s1).2) := Bl.hid (ctake_all n X 8 s1 (by decide) (by decide))
  have HM1 : Hid (DNum (Bl.tkF 8 s1).1 (Bl.numF 0 (Bl.tkF 8 s1).1)) := Bl.hid (cnumb_all 8 s1 (by decide) hb1)
  have hb2 := (Bl.tkF_byt (n := 8) (s := s1) hb1).2
  obtain ⟨oo, hzoo⟩ : ∃ z, z = Bl.numF 0 (Bl.tkF 8 s1).1 := ⟨_, rfl⟩
  obtain ⟨s2, hss2⟩ : ∃ z, z = (Bl.tkF 8 s1).2 := ⟨_, rfl⟩
  rw [← hzoo, ← hss2] at hpr
  rw [← hzoo] at HM1
  rw [← hss2] at HT1 hb2
  obtain ⟨y1, hy1⟩ : ∃ z, z = (Bl.tkF 8 s1).1 := ⟨_, rfl⟩
  rw [← hy1] at HM1 HT1
  clear hzoo hss2 hy1
  replace hpr : pr = Bl.finT ((⟨4, i, oo, [], (Bl.eaT Bl.ssF (Bl.nuF 1 s2).1.toNat (Bl.nuF 1 s2).2).1, 0, 0, [], 0⟩ : Bl.LT), (Bl.eaT Bl.ssF (Bl.nuF 1 s2).1.toNat (Bl.nuF 1 s2).2).2) := hpr
  have HT2 : Hid (DTake n X 1 s2 (Bl.tkF 1 s2).1 (Bl.tkF 1 s2).2) := Bl.hid (ctake_all n X 1 s2 (by decide) (by decide))
  have HM2 : Hid (DNum (Bl.tkF 1 s2).1 ((Bl.nuF 1 s2).1)) := Bl.hid (cnumb_one s2 hb2)
  have hb3 := (Bl.tkF_byt (n := 1) (s := s2) hb2).2
  have hz2 := Bl.nu1F_le (s := s2) hb2
  have hun2 : Bl.nuF 1 s2 = ((Bl.nuF 1 s2).1, (Bl.tkF 1 s2).2) := rfl
  obtain ⟨cI, hzcI⟩ : ∃ z, z = (Bl.nuF 1 s2).1 := ⟨_, rfl⟩
  obtain ⟨s3, hss3⟩ : ∃ z, z = (Bl.tkF 1 s2).2 := ⟨_, rfl⟩
  rw [← hzcI, ← hss3] at hun2
  rw [← hzcI] at hz2
  rw [hun2] at hpr
  clear hun2
  rw [← hzcI] at HM2
  rw [← hss3] at HT2 hb3
  obtain ⟨y2, hy2⟩ : ∃ z, z = (Bl.tkF 1 s2).1 := ⟨_, rfl⟩
  rw [← hy2] at HM2 HT2
  clear hzcI hss3 hy2
  obtain ⟨cn, rfl⟩ := Int.eq_ofNat_of_zero_le hz2.1
  have Hcn : Hid (cn ≤ 255) := Bl.hid (by have := hz2.2; omega)
  simp only [Int.toNat_natCast] at hpr
  obtain ⟨bs, hbs⟩ : ∃ z, z = (Bl.eaT Bl.ssF cn s3).1 := ⟨_, rfl⟩
  obtain ⟨t4, ht4⟩ : ∃ z, z = (Bl.eaT Bl.ssF cn s3).2 := ⟨_, rfl⟩
  rw [← hbs, ← ht4] at hpr
  have Hbs := Bl.hid (And.intro hbs.symm ht4.symm)
  clear hbs ht4
  have HPf := Bl.hid hpr
  clear hpr
  have HBR0 := Bl.hid (Bl.BoxC.box (cs := Bl.zL.toList) w 33 (fun q => by cases q))
  have HE0 := Bl.hid (Bl.ext_alloc w (.cells Bl.zL 33))
  have HStz : Hid (∀ w2, Bl.BoxC w2 w.heap.size Bl.zL.toList → (Instr.storeAt 33 (.pointer (some ⟨w.heap.size, 0, none⟩)) (.agg Bl.zL)).run Tryd.prog w2 = .ok () (w2.setCells w.heap.size 0 Bl.zL.toList)) := Bl.hid fun w2 h => h.store (P := Tryd.prog) (cs' := Bl.zL.toList) rfl (fun c hc => by
    simp only [List.mem_cons, List.not_mem_nil, or_false] at hc
    rcases hc with rfl | rfl | rfl | rfl | rfl | rfl | rfl | rfl | rfl <;> rfl) (ty := 33) (by kernel_rfl)
  have hs0 : (w.alloc (.cells Bl.zL 33)).heap.size = w.heap.size + 1 := World.size_alloc _ _
  obtain ⟨W1, hW1⟩ : ∃ W1, W1 = (w.alloc (.cells Bl.zL 33)).alloc (.cells #[.slice (some ⟨g, o, none⟩) n c, .int .i64 1, .bool false] 100) := ⟨_, rfl⟩
  have HBR1 : Hid (Bl.BoxC W1 w.heap.size Bl.zL.toList) := Bl.hid (by rw [hW1]; exact HBR0.out.ext (Bl.ext_alloc _ _))
  have HE1 : Hid (Bl.Ext w W1) := Bl.hid (by rw [hW1]; exact HE0.out.trans (Bl.ext_alloc _ _))
  have HX1 : Hid (Bl.BoxC W1 X [.slice (some ⟨g, o, none⟩) n c, .int .i64 1, .bool false]) := Bl.hid (by
    have h := Bl.BoxC.box (cs := [.slice (some ⟨g, o, none⟩) n c, .int .i64 1, .bool false]) (w.alloc (.cells Bl.zL 33)) 100 (fun q => by cases q)
    rw [hs0, ← hX] at h
    rw [hW1]; exact h)
  have HC1 : Hid (Bl.Cur n W1 X (false, r)) := Bl.hid ⟨⟨some ⟨g, o, none⟩, c, 1, 4 :: r, HX1.out, hn.symm, by omega, rfl, (Bl.RdsF.of_rds (F := fun k => k < w.heap.size) hR' (fun _ _ h => h)).kept fun k hk hlk => ⟨by omega, HE1.out.block k hk⟩, hnc, by unfold maxLen; exact hcm⟩, hb, by omega⟩
  have hcW : W1.cell? ⟨g, o, none⟩ = some (.int .u8 4) := ((Bl.bcell HE1.out).1 _ _ (World.block_lt_of_cell? _ _ hc0)).trans hc0
  have hone : ∀ c ∈ Bl.cK 4 0 0 0 0 0, c.oneCell' = true := fun c hc => by
    simp only [Bl.cK, List.mem_cons, List.not_mem_nil, or_false] at hc
    rcases hc with rfl | rfl | rfl | rfl | rfl | rfl | rfl | rfl | rfl <;> rfl
  obtain ⟨hB3, hE3⟩ := Bl.BoxC.fresh (cs := Bl.cK 4 0 0 0 0 0) W1 33 Bl.zL rfl (fun q => by cases q)
  have Hst3 := Bl.hid (Bl.fresh_store (P := Tryd.prog) (cs := Bl.cK 4 0 0 0 0 0) W1 33 Bl.zL rfl hone (ty := 33) (by kernel_rfl))
  obtain ⟨W3, hW3⟩ : ∃ W3, W3 = (W1.alloc (.cells Bl.zL 33)).setCells W1.heap.size 0 (Bl.cK 4 0 0 0 0 0) := ⟨_, rfl⟩
  obtain ⟨Y, hY⟩ : ∃ Y, Y = W1.heap.size := ⟨_, rfl⟩
  rw [← hW3] at hB3 hE3
  rw [← hY] at hB3
  have HXY : Hid (X < Y ∧ w.heap.size < X) := Bl.hid ⟨by rw [hY]; exact HX1.out.lt, by omega⟩
  have HB3 := Bl.hid hB3
  have HC3 := Bl.hid (HC1.out.ext hE3)
  have HBR3 := Bl.hid (HBR1.out.ext hE3)
  have HZ3 : Hid (Bl.Kq (fun k => w.heap.size ≤ k) w W3) := Bl.hid (Bl.Kq.of_ext (HE1.out.trans hE3))
  have q30 := HB3.out.cell (i := 0) (v := .int .i64 4) rfl
  have h8i : ¬ ((8000 : Int) < (n : Int)) := by omega
  have hzi : ¬ ((n : Int) = 0) := by omega
  have hzn : ¬ (n = 0) := by omega
  have hpi : (0 : Int) < (n : Int) := by omega
  have Hn := Bl.hid hn1
  clear hR hel hc0 hn hn1 hR' hb hl hB3 hE3 hone hs0 HX1 HC1 HBR0 HE0 hgl
  go_enter Tryd.func25, Tryd.ntmps25
  go_wp2_with (with_reducible refine Bl.stop_load (ty := 5) ?_)
  refine Bl.go_on ?_
  rw [← hW1, ← hX]
  clear hW1 hX
  go_wp2_with (with_reducible refine Bl.stop_store (ty := 33) ?_)
  refine Bl.go_on ?_
  refine Bl.wpL_store0 rfl rfl Hst3.out ?_
  rw [← hW3, ← hY]
  clear hW3 hY Hst3 hcW HBR1 HE1
  go_wp2_with fail
  refine (out_any 4 1 7 W3).mono ?_
  rintro e w3' ⟨rfl, hw3⟩
  subst hw3
  rw [show Bl.wi 4 1 7 = true from by decide, Bool.not_true]
  clear q30
  go_wp2_with fail
  refine (HT0.out _ HC3.out).mono ?_
  rintro e w0a ⟨v0, rfl, hRd, hCu, hK⟩
  have HRd0 := Bl.hid hRd
  have HC0a := Bl.hid hCu
  have HB0a := Bl.hid (hK.box (by have := HXY.out; omega) HB3.out)
  have HZ0a : Hid (Bl.Kq (fun k => w.heap.size ≤ k) w w0a) := Bl.hid (HZ3.out.trans (hK.mono fun k _ q => by have := HXY.out; omega))
  have HBR0a := Bl.hid (hK.box (by have := HXY.out; omega) HBR3.out)
  clear hRd hCu hK HC3 HB3 HZ3 HBR3
  go_wp2_with fail
  refine (HM0.out _ _ HRd0.out).mono ?_
  rintro e w' ⟨rfl, hw'⟩
  rw [hw']
  clear hw' HRd0 HT0 HM0
  have qf := HB0a.out.cell (i := 1) (v := .int .i64 0) rfl
  have ff := HB0a.out.fz (i := 1) (show 1 < 9 by decide)
  have HB0b : Hid (Bl.BoxC (w0a.setCell ⟨Y, 1, none⟩ (.int .i64 i)) Y (Bl.cK 4 i 0 0 0 0)) := Bl.hid (HB0a.out.put (i := 1) (show 1 < 9 by decide) (.int .i64 i))
  have HK0 : Hid (Bl.Kq (fun k => k = Y) w0a (w0a.setCell ⟨Y, 1, none⟩ (.int .i64 i))) := Bl.hid ((Bl.Kq.refl w0a).setCell (Q := fun k => k = Y) ⟨Y, 1, none⟩ rfl _)
  go_wp2_with fail
  obtain ⟨w0b, hWb⟩ : ∃ W, W = w0a.setCell ⟨Y, 1, none⟩ (.int .i64 i) := ⟨_, rfl⟩
  rw [← hWb] at HB0b HK0 ⊢
  clear hWb qf ff
  have HC0b := Bl.hid (HC0a.out.kept HK0.out (fun j hj q => by have := HXY.out; omega))
  have HZ0b : Hid (Bl.Kq (fun k => w.heap.size ≤ k) w w0b) := Bl.hid (HZ0a.out.trans (HK0.out.mono fun k _ q => by have := HXY.out; omega))
  have HBR0b := Bl.hid (HK0.out.box (by have := HXY.out; omega) HBR0a.out)
  clear HC0a HZ0a HBR0a HB0a HK0
  refine (HT1.out _ HC0b.out).mono ?_
  rintro e w1a ⟨v1, rfl, hRd, hCu, hK⟩
  have HRd1 := Bl.hid hRd
  have HC1a := Bl.hid hCu
  have HB1a := Bl.hid (hK.box (by have := HXY.out; omega) HB0b.out)
  have HZ1a : Hid (Bl.Kq (fun k => w.heap.size ≤ k) w w1a) := Bl.hid (HZ0b.out.trans (hK.mono fun k _ q => by have := HXY.out; omega))
  have HBR1a := Bl.hid (hK.box (by have := HXY.out; omega) HBR0b.out)
  clear hRd hCu hK HC0b HB0b HZ0b HBR0b
  go_wp2_with fail
  refine (HM1.out _ _ HRd1.out).mono ?_
  rintro e w' ⟨rfl, hw'⟩
  rw [hw']
  clear hw' HRd1 HT1 HM1
  have qf := HB1a.out.cell (i := 2) (v := .int .i64 0) rfl
  have ff := HB1a.out.fz (i := 2) (show 2 < 9 by decide)
  have HB1b : Hid (Bl.BoxC (w1a.setCell ⟨Y, 2, none⟩ (.int .i64 oo)) Y (Bl.cK 4 i oo 0 0 0)) := Bl.hid (HB1a.out.put (i := 2) (show 2 < 9 by decide) (.int .i64 oo))
  have HK1 : Hid (Bl.Kq (fun k => k = Y) w1a (w1a.setCell ⟨Y, 2, none⟩ (.int .i64 oo))) := Bl.hid ((Bl.Kq.refl w1a).setCell (Q := fun k => k = Y) ⟨Y, 2, none⟩ rfl _)
  go_wp2_with (with_reducible refine Bl.stop_load (ty := 3) ?_)
  obtain ⟨w1b, hWb⟩ : ∃ W, W = w1a.setCell ⟨Y, 2, none⟩ (.int .i64 oo) := ⟨_, rfl⟩
  rw [← hWb] at HB1b HK1 ⊢
  clear hWb qf ff
  have HC1b := Bl.hid (HC1a.out.kept HK1.out (fun j hj q => by have := HXY.out; omega))
  have HZ1b : Hid (Bl.Kq (fun k => w.heap.size ≤ k) w w1b) := Bl.hid (HZ1a.out.trans (HK1.out.mono fun k _ q => by have := HXY.out; omega))
  have HBR1b := Bl.hid (HK1.out.box (by have := HXY.out; omega) HBR1a.out)
  clear HC1a HZ1a HBR1a HB1a HK1
  refine Bl.go_on ?_
  have qk := HB1b.out.cell (i := 0) (v := .int .i64 4) rfl
  go_wp2_with fail
  clear qk
  refine (HT2.out _ HC1b.out).mono ?_
  rintro e w2a ⟨v2, rfl, hRd, hCu, hK⟩
  have HRd2 := Bl.hid hRd
  have HC2a := Bl.hid hCu
  have HB2a := Bl.hid (hK.box (by have := HXY.out; omega) HB1b.out)
  have HZ2a : Hid (Bl.Kq (fun k => w.heap.size ≤ k) w w2a) := Bl.hid (HZ1b.out.trans (hK.mono fun k _ q => by have := HXY.out; omega))
  have HBR2a := Bl.hid (hK.box (by have := HXY.out; omega) HBR1b.out)
  clear hRd hCu hK HC1b HB1b HZ1b HBR1b
  go_wp2_with fail
  refine (HM2.out _ _ HRd2.out).mono ?_
  rintro e w' ⟨rfl, hw'⟩
  rw [hw']
  clear hw' HRd2 HT2 HM2
  obtain ⟨B, hB⟩ : ∃ B, B = w2a.heap.size := ⟨_, rfl⟩
  have HBY : Hid (Y < B ∧ B = w2a.heap.size) := Bl.hid ⟨by rw [hB]; exact HB2a.out.lt, hB⟩
  clear hB
  have HG0 : Hid (Bl.GP Bl.cS 3 Bl.OkF B w2a Y 4 ((Bl.cK 4 i oo 0 0 0).set 4 (.slice none 0 0)) (.slice none 0 0) []) := Bl.hid (Bl.GP.start HB2a.out rfl)
  go_wp2_with fail
  go_loopw [8] (fun x wr => ∃ (m : Nat) (s' : Bl.Rst) (v' : Value) (M : List Bl.Sv), x = .int .i64 m ∧ Hid (Bl.GP Bl.cS 3 Bl.OkF B wr Y 4 ((Bl.cK 4 i oo 0 0 0).set 4 v') v' M ∧ Bl.Cur n wr X s' ∧ M.map Bl.plS ++ (Bl.eaT Bl.ssF m s').1 = bs ∧ (Bl.eaT Bl.ssF m s').2 = t4 ∧ M.length + m ≤ 255) ∧ Hid (Bl.Kq (fun k => k = X ∨ k = Y ∨ B ≤ k) w2a wr)) (fun x _ => (intOf x).toNat)
  case atStart => exact ⟨cn, s3, _, [], rfl, Bl.hid ⟨HG0.out, HC2a.out, Hbs.out.1, Hbs.out.2, by have := Hcn.out; simp only [List.length_nil]; omega⟩, Bl.hid (Bl.Kq.refl _)⟩
  case round =>
    obtain ⟨m, s', v', M, rfl, HI, HKr⟩ := hrel
    have HZr : Hid (Bl.Kq (fun k => w.heap.size ≤ k) w wr) := Bl.hid (HZ2a.out.trans (HKr.out.mono fun k _ q => by have := HXY.out; have := HBY.out; omega))
    have HBRr := Bl.hid (HKr.out.box (by have := HXY.out; have := HBY.out; omega) HBR2a.out)
    have HCr := Bl.hid HI.out.2.1
    have q2 := HCr.out.bad
    have qk := HI.out.1.box.cell (i := 0) (v := .int .i64 4) rfl
    obtain ⟨sh, hsh⟩ : ∃ sh, sh = s'.1 := ⟨_, rfl⟩
    rw [← hsh] at q2
    have Hsh := Bl.hid hsh.symm
    clear hsh HG0 HB2a
    by_cases hm : 0 < m
    · have hmi : (0 : Int) < (m : Int) := by omega
      cases sh
      · clear qk
        have hsd := Bl.eaT_dec Bl.ssF m s' hm Hsh.out
        have hb0 := HCr.out.by'
        have HTa := ctake_all n X 2 s' (by decide) (by decide)
        have HMa := cnumb_two s' hb0
        have hb1 := (Bl.tkF_byt (n := 2) (s := s') hb0).2
        have hss : Bl.ssF s' = ([((Bl.nuF 2 s').1, (Bl.tkF 16 (Bl.tkF 2 s').2).1, (Bl.eaT Bl.paF (Bl.nuF 1 (Bl.tkF 16 (Bl.tkF 2 s').2).2).1.toNat (Bl.tkF 1 (Bl.tkF 16 (Bl.tkF 2 s').2).2).2).1)], (Bl.eaT Bl.paF (Bl.nuF 1 (Bl.tkF 16 (Bl.tkF 2 s').2).2).1.toNat (Bl.tkF 1 (Bl.tkF 16 (Bl.tkF 2 s').2).2).2).2) := rfl
        obtain ⟨p, hp⟩ : ∃ z, z = (Bl.nuF 2 s').1 := ⟨_, rfl⟩
        obtain ⟨a1, ha1⟩ : ∃ z, z = (Bl.tkF 2 s').2 := ⟨_, rfl⟩
        obtain ⟨y1, hy1⟩ : ∃ z, z = (Bl.tkF 2 s').1 := ⟨_, rfl⟩
        rw [← hy1, ← ha1] at HTa
        rw [← hy1, ← hp] at HMa
        rw [← hp, ← ha1] at hss
        rw [← ha1] at hb1
        clear hp ha1 hy1
        have HTb := ctake_all n X 16 a1 (by decide) (by decide)
        have hlen : (Bl.tkF 16 a1).1.length = 16 := Bl.tkF_len
        have hby := (Bl.tkF_byt (n := 16) (s := a1) hb1).1
        have hb2 := (Bl.tkF_byt (n := 16) (s := a1) hb1).2
        obtain ⟨st, hst⟩ : ∃ z, z = (Bl.tkF 16 a1).1 := ⟨_, rfl⟩
        obtain ⟨a2, ha2⟩ : ∃ z, z = (Bl.tkF 16 a1).2 := ⟨_, rfl⟩
        rw [← hst, ← ha2] at HTb hss
        rw [← hst] at hlen hby
        rw [← ha2] at hb2
        clear hst ha2
        have HTc := ctake_all n X 1 a2 (by decide) (by decide)
        have HMc := cnumb_one a2 hb2
        have hz := Bl.nu1F_le hb2
        have hb3 := (Bl.tkF_byt (n := 1) (s := a2) hb2).2
        obtain ⟨c1, hc1⟩ : ∃ z, z = (Bl.nuF 1 a2).1 := ⟨_, rfl⟩
        obtain ⟨a3, ha3⟩ : ∃ z, z = (Bl.tkF 1 a2).2 := ⟨_, rfl⟩
        obtain ⟨y3, hy3⟩ : ∃ z, z = (Bl.tkF 1 a2).1 := ⟨_, rfl⟩
        rw [← hy3, ← ha3] at HTc
        rw [← hy3, ← hc1] at HMc
        rw [← hc1, ← ha3] at hss
        rw [← hc1] at hz
        clear hc1 ha3 hy3 hb3
        obtain ⟨cq, rfl⟩ := Int.eq_ofNat_of_zero_le hz.1
        rw [Int.toNat_natCast] at hss
        obtain ⟨ds, hds⟩ : ∃ z, z = (Bl.eaT Bl.paF cq a3).1 := ⟨_, rfl⟩
        obtain ⟨a4, ha4⟩ : ∃ z, z = (Bl.eaT Bl.paF cq a3).2 := ⟨_, rfl⟩
        rw [← hds, ← ha4] at hss
        rw [hss] at hsd
        have Hds := Bl.hid (And.intro hds.symm ha4.symm)
        have Hcq : Hid (cq ≤ 255) := Bl.hid (by have := hz.2; omega)
        have HN : Hid (M.map Bl.plS ++ ([(p, st, ds)] ++ (Bl.eaT Bl.ssF (m - 1) a4).1) = bs ∧ (Bl.eaT Bl.ssF (m - 1) a4).2 = t4) := Bl.hid ⟨by have h := HI.out.2.2.1; rw [hsd] at h; exact h, by have h := HI.out.2.2.2.1; rw [hsd] at h; exact h⟩
        replace HTa := Bl.hid HTa
        replace HMa := Bl.hid HMa
        replace HTb := Bl.hid HTb
        replace HTc := Bl.hid HTc
        replace HMc := Bl.hid HMc
        have Hst := Bl.hid (And.intro hlen hby)
        have HG := Bl.hid HI.out.1
        have Hm := Bl.hid HI.out.2.2.2.2
        have Hml : Hid (M.length + 1 ≤ maxLen ∧ (M.length + 1) * 56 ≤ 140737488355328) := Bl.hid (by have := Hm.out; unfold maxLen; omega)
        have hm2 : (m : Int) ≤ 255 := by have := Hm.out; omega
        have HBw : Hid (B ≤ wr.heap.size ∧ X < wr.heap.size ∧ X < B) := Bl.hid ⟨by have := HKr.out.size; have := HBY.out.2; omega, HCr.out.lt, by have := HXY.out; have := HBY.out; omega⟩
        have Hq7 : Hid (∀ w2, Bl.Kq (fun k => k = X ∨ B ≤ k) wr w2 → w2.cell? ⟨Y, 4, none⟩ = some v') := Bl.hid fun w2 h => h.cell (by have := HXY.out; have := HBY.out; omega) HG.out.cell
        clear HI
        obtain ⟨Sz, hSz⟩ : ∃ Sz, Sz = wr.heap.size := ⟨_, rfl⟩
        have HSz := Bl.hid hSz
        clear hsd hss hds ha4 hlen hby hz hb0 hb1 hb2 Hq7 hSz
        go_wp2_with fail
        clear q2
        refine (HTa.out _ HCr.out).mono ?_
        rintro e wa ⟨va, rfl, hRd, hCu, hK⟩
        have HRda := Bl.hid hRd
        have HCa := Bl.hid hCu
        have HKa : Hid (Bl.Kq (fun k => k = X ∨ Sz ≤ k) wr wa) := Bl.hid (hK.mono fun _ _ q => .inl q)
        clear hRd hCu hK HTa
        go_wp2_with fail
        refine (HMa.out _ _ HRda.out).mono ?_
        rintro e w' ⟨rfl, hw'⟩
        rw [hw']
        clear hw' HRda HMa
        go_wp2_with fail
        have HXS : Hid (X < Sz ∧ Sz ≤ wa.heap.size ∧ B ≤ Sz ∧ Y < Sz) := Bl.hid ⟨by have := HBw.out; have := HSz.out; omega, by rw [HSz.out]; exact HKa.out.size, by rw [HSz.out]; exact HBw.out.1, by rw [HSz.out]; exact HG.out.box.lt⟩
        have HPz0 := Bl.hid (Bl.Pk.zero wa 5 Sz HXS.out.2.1)
        refine (HTb.out _ (HCa.out.ext (Bl.ext_alloc wa (.cells #[] 5)))).mono ?_
        rintro e wc ⟨vb, rfl, hRd, hCu, hK⟩
        obtain ⟨b2, o2, c2, hv2, _, _, _, hr2, _⟩ := Bl.Rd.pos hRd (by rw [Hst.out.1]; decide)
        rw [Hst.out.1] at hv2
        subst hv2
        have Hr2 := Bl.hid hr2
        have HPz := Bl.hid (HPz0.out.kept (fun j hj => hK.block j (HPz0.out.block j hj).2 (fun q => by have := (HPz0.out.block j hj).1; have := HXS.out.1; omega)) hK.size)
        have HCc := Bl.hid hCu
        have HKc : Hid (Bl.Kq (fun k => k = X ∨ Sz ≤ k) wr wc) := Bl.hid ((HKa.out.trans (Bl.Kq.of_ext (Bl.ext_alloc _ _))).trans (hK.mono fun _ _ q => .inl q))
        have HSc : Hid (Sz ≤ wc.heap.size) := Bl.hid (by rw [HSz.out]; exact HKc.out.size)
        clear hRd hCu hK hr2 HTb HCa HKa HPz0
        go_wp2_with (with_reducible refine Bl.stop_append ?_)
        refine Bl.go_on ?_
        refine Bl.wpL_appPk tBytes HPz.out Hr2.out (by rw [Bl.ints_length, Hst.out.1]) (Bl.ints_one _ _) (by decide) (by decide) (by decide) HSc.out rfl rfl ?_
        intro v3 wd own3 hg3 hk3
        have hq1 : Bl.Pk wd Sz 1 v3 16 (Bl.ints .u8 st) := own3
        obtain ⟨p3, c3, hv3, _, _⟩ := hq1.rds.form
        subst hv3
        have hKg : Bl.Kq (fun k => Sz ≤ k) wc wd := Bl.Kq.grown hg3 fun k hk => (HPz.out.block k hk).1
        have HKd : Hid (Bl.Kq (fun k => k = X ∨ Sz ≤ k) wr wd) := Bl.hid (HKc.out.trans (hKg.mono fun _ _ q => .inr q))
        have HCd := Bl.hid (HCc.out.kept hKg (fun i hi q => by have := HXS.out.1; omega))
        have HSt : Hid (Bl.RdsF (fun b => Sz ≤ b ∧ b < wd.heap.size) wd (.slice p3 16 c3) 16 (Bl.ints .u8 st)) := Bl.hid (Bl.RdsF.of_rds hq1.rds fun b hb _ => hq1.block b hb)
        obtain ⟨hBS, hES⟩ := Bl.BoxC.fresh (cs := [.int .i64 p, .slice p3 16 c3, .slice none 0 0]) wd 68 Bl.zSh rfl (fun h => by cases h)
        have Hsto := Bl.hid (Bl.fresh_store (P := Tryd.prog) (cs := [.int .i64 p, .slice p3 16 c3, .slice none 0 0]) wd 68 Bl.zSh rfl (Bl.cS3_one ⟨_, _, _, rfl⟩ Bl.isSl_nil) (ty := 68) (by kernel_rfl))
        have HBS := Bl.hid hBS
        have HES := Bl.hid hES
        clear own3 hg3 hk3 hq1 hKg hBS hES HPz Hr2 HCc HKc HSc
        go_wp2_with (with_reducible refine Bl.stop_store (ty := 68) ?_)
        refine Bl.go_on ?_
        refine Bl.wpL_store0 rfl rfl Hsto.out ?_
        obtain ⟨we, hwe⟩ : ∃ W, W = (wd.alloc (.cells Bl.zSh 68)).setCells wd.heap.size 0 [.int .i64 p, .slice p3 16 c3, .slice none 0 0] := ⟨_, rfl⟩
        obtain ⟨S, hS⟩ : ∃ S, S = wd.heap.size := ⟨_, rfl⟩
        rw [← hwe] at HBS HES ⊢
        rw [← hS] at HBS HSt ⊢
        have HSS : Hid (Sz ≤ S) := Bl.hid (by rw [hS, HSz.out]; exact HKd.out.size)
        have HCe := Bl.hid (HCd.out.ext HES.out)
        have HKe : Hid (Bl.Kq (fun k => k = X ∨ Sz ≤ k) wr we) := Bl.hid (HKd.out.trans (Bl.Kq.of_ext HES.out))
        have HSe : Hid (Bl.RdsF (fun b => Sz ≤ b ∧ b < S) we (.slice p3 16 c3) 16 (Bl.ints .u8 st)) := Bl.hid (HSt.out.kept fun b hb hl => ⟨hb, HES.out.block b hl⟩)
        clear hwe hS Hsto HKd HCd HSt HES
        go_wp2_with fail
        refine (HTc.out _ HCe.out).mono ?_
        rintro e wf ⟨vc, rfl, hRd, hCu, hK⟩
        have HRdf := Bl.hid hRd
        have HCf := Bl.hid hCu
        have HKf : Hid (Bl.Kq (fun k => k = X ∨ Sz ≤ k) wr wf) := Bl.hid (HKe.out.trans (hK.mono fun _ _ q => .inl q))
        have HBSf := Bl.hid (hK.box (by have := HXS.out.1; have := HSS.out; omega) HBS.out)
        have HSf : Hid (Bl.RdsF (fun b => Sz ≤ b ∧ b < S) wf (.slice p3 16 c3) 16 (Bl.ints .u8 st)) := Bl.hid (HSe.out.kept fun b hb hl => ⟨hb, hK.block b hl (by have := HXS.out.1; omega)⟩)
        clear hRd hCu hK HTc HCe HKe HBS HSe
        go_wp2_with fail
        refine (HMc.out _ _ HRdf.out).mono ?_
        rintro e w' ⟨rfl, hw'⟩
        rw [hw']
        clear hw' HRdf HMc
        obtain ⟨B2, hB2⟩ : ∃ B2, B2 = wf.heap.size := ⟨_, rfl⟩
        have HB2 : Hid (S < B2 ∧ B2 = wf.heap.size ∧ X < S) := Bl.hid ⟨by rw [hB2]; exact HBSf.out.lt, hB2, by have := HXS.out.1; have := HSS.out; omega⟩
        clear hB2
        have HG2 : Hid (Bl.GP (Bl.ints .u8) 32 Bl.OkT B2 wf S 2 [.int .i64 p, .slice p3 16 c3, .slice none 0 0] (.slice none 0 0) []) := Bl.hid (Bl.GP.start HBSf.out rfl)
        clear HBSf
        go_wp2_with fail
        go_loopw [10] (fun x wr => ∃ (j : Nat) (t' : Bl.Rst) (vq : Value) (D : List (List Int)), x = .int .i64 j ∧ Hid (Bl.GP (Bl.ints .u8) 32 Bl.OkT B2 wr S 2 [.int .i64 p, .slice p3 16 c3, vq] vq D ∧ Bl.Cur n wr X t' ∧ D ++ (Bl.eaT Bl.paF j t').1 = ds ∧ (Bl.eaT Bl.paF j t').2 = a4 ∧ D.length + j ≤ 255 ∧ Bl.Dig D) ∧ Hid (Bl.Kq (fun k => k = X ∨ k = S ∨ B2 ≤ k) wf wr)) (fun x _ => (intOf x).toNat)
        case atStart => exact ⟨cq, a3, _, [], rfl, Bl.hid ⟨HG2.out, HCf.out, Hds.out.1, Hds.out.2, by have := Hcq.out; simp only [List.length_nil]; omega, Bl.Dig.nil⟩, Bl.hid (Bl.Kq.refl _)⟩
        case round =>
          obtain ⟨j, t', vq, D, rfl, HJ, HKq⟩ := hrel
          have HKo := Bl.hid (HKf.out.trans (HKq.out.mono (Q' := fun k => k = X ∨ Sz ≤ k) fun k _ q => by have := HSS.out; have := HB2.out; omega))
          have HC2 := Bl.hid HJ.out.2.1
          have q2 := HC2.out.bad
          obtain ⟨sh, hsh⟩ : ∃ sh, sh = t'.1 := ⟨_, rfl⟩
          rw [← hsh] at q2
          have Hsh2 := Bl.hid hsh.symm
          clear hsh HG2
          by_cases hj : 0 < j
          · have hji : (0 : Int) < (j : Int) := by omega
            cases sh
            · have hsd := Bl.eaT_dec Bl.paF j t' hj Hsh2.out
              have HTd : ∀ w2, Bl.Cur n w2 X t' → Calls Tryd.prog 53 #[.pointer (some ⟨X, 0, none⟩), .int .i64 32] w2 fun e w' => ∃ v', e = .returned v' ∧ Bl.Rd w' .u8 v' (Bl.tkF 32 t').1 ∧ Bl.Cur n w' X (Bl.tkF 32 t').2 ∧ Bl.Kq (fun k => k = X) w2 w' := ctake_all n X 32 t' (by decide) (by decide)
              have hlen : (Bl.tkF 32 t').1.length = 32 := Bl.tkF_len
              have hby := (Bl.tkF_byt (n := 32) (s := t') HC2.out.by').1
              have hpa : Bl.paF t' = ([(Bl.tkF 32 t').1], (Bl.tkF 32 t').2) := rfl
              obtain ⟨dg, hdg⟩ : ∃ z, z = (Bl.tkF 32 t').1 := ⟨_, rfl⟩
              obtain ⟨sb, hsb⟩ : ∃ z, z = (Bl.tkF 32 t').2 := ⟨_, rfl⟩
              rw [← hdg, ← hsb] at HTd hpa
              rw [← hdg] at hlen hby
              rw [hpa] at hsd
              have HN2 : Hid (D ++ ([dg] ++ (Bl.eaT Bl.paF (j - 1) sb).1) = ds ∧ (Bl.eaT Bl.paF (j - 1) sb).2 = a4) := Bl.hid ⟨by have h := HJ.out.2.2.1; rw [hsd] at h; exact h, by have h := HJ.out.2.2.2.1; rw [hsd] at h; exact h⟩
              replace HTd := Bl.hid HTd
              have Hdg := Bl.hid (And.intro hlen hby)
              have HG2 := Bl.hid HJ.out.1
              have Hj := Bl.hid HJ.out.2.2.2.2
              have Hjl : Hid (D.length + 1 ≤ maxLen ∧ (D.length + 1) * 32 ≤ 140737488355328) := Bl.hid (by have := Hj.out.1; unfold maxLen; omega)
              have hj2 : (j : Int) ≤ 255 := by have := Hj.out.1; omega
              have HBq : Hid (B2 ≤ wr.heap.size ∧ X < wr.heap.size ∧ X < B2 ∧ S < wr.heap.size) := Bl.hid ⟨by have := HKq.out.size; have := HB2.out.2.1; omega, HC2.out.lt, by have := HB2.out; omega, HG2.out.box.lt⟩
              obtain ⟨hBD, hED⟩ := Bl.BoxC.fresh (cs := Bl.ints .u8 (List.replicate 32 0)) wr 69 #[.int .u8 0, .int .u8 0, .int .u8 0, .int .u8 0, .int .u8 0, .int .u8 0, .int .u8 0, .int .u8 0, .int .u8 0, .int .u8 0, .int .u8 0, .int .u8 0, .int .u8 0, .int .u8 0, .int .u8 0, .int .u8 0, .int .u8 0, .int .u8 0, .int .u8 0, .int .u8 0, .int .u8 0, .int .u8 0, .int .u8 0, .int .u8 0, .int .u8 0, .int .u8 0, .int .u8 0, .int .u8 0, .int .u8 0, .int .u8 0, .int .u8 0, .int .u8 0] rfl (fun h => by cases h)
              have Hsto := Bl.hid (Bl.fresh_store (P := Tryd.prog) (cs := Bl.ints .u8 (List.replicate 32 0)) wr 69 #[.int .u8 0, .int .u8 0, .int .u8 0, .int .u8 0, .int .u8 0, .int .u8 0, .int .u8 0, .int .u8 0, .int .u8 0, .int .u8 0, .int .u8 0, .int .u8 0, .int .u8 0, .int .u8 0, .int .u8 0, .int .u8 0, .int .u8 0, .int .u8 0, .int .u8 0, .int .u8 0, .int .u8 0, .int .u8 0, .int .u8 0, .int .u8 0, .int .u8 0, .int .u8 0, .int .u8 0, .int .u8 0, .int .u8 0, .int .u8 0, .int .u8 0, .int .u8 0] rfl (Bl.ints_one _ _) (ty := 69) (by kernel_rfl))
              have HBD := Bl.hid hBD
              have HED := Bl.hid hED
              clear HJ hsd hpa hdg hsb hlen hby hBD hED
              go_wp2_with (with_reducible refine Bl.stop_store (ty := 69) ?_)
              refine Bl.go_on ?_
              refine Bl.wpL_store0 rfl rfl Hsto.out ?_
              obtain ⟨wg, hwg⟩ : ∃ W, W = (wr.alloc (.cells #[.int .u8 0, .int .u8 0, .int .u8 0, .int .u8 0, .int .u8 0, .int .u8 0, .int .u8 0, .int .u8 0, .int .u8 0, .int .u8 0, .int .u8 0, .int .u8 0, .int .u8 0, .int .u8 0, .int .u8 0, .int .u8 0, .int .u8 0, .int .u8 0, .int .u8 0, .int .u8 0, .int .u8 0, .int .u8 0, .int .u8 0, .int .u8 0, .int .u8 0, .int .u8 0, .int .u8 0, .int .u8 0, .int .u8 0, .int .u8 0, .int .u8 0, .int .u8 0] 69)).setCells wr.heap.size 0 (Bl.ints .u8 (List.replicate 32 0)) := ⟨_, rfl⟩
              obtain ⟨D1, hD1⟩ : ∃ S, S = wr.heap.size := ⟨_, rfl⟩
              rw [← hwg] at HBD HED ⊢
              rw [← hD1] at HBD HBq ⊢
              have HD1 := Bl.hid hD1
              have HCg := Bl.hid (HC2.out.ext HED.out)
              have HKg : Hid (Bl.Kq (fun k => k = X ∨ D1 ≤ k) wr wg) := Bl.hid (Bl.Kq.of_ext HED.out)
              clear hwg hD1 Hsto q2 HED HC2
              go_wp2_with fail
              apply Bl.wp_region_evK (Bl.Kq (fun k => k = X)) (Bl.JTk n X t' sb dg) 3 [149, 150, 151] [Bl.eqv _, Bl.eqv _, Bl.anyv] (fun w => Bl.Kq.refl w) (fun a b c h k => Bl.Kq.trans h k) (by kernel_rfl) (by kernel_rfl) (by kernel_rfl) (by kernel_rfl)
              case hsteps =>
                refine ⟨?_, ?_, ?_, trivial⟩
                all_goals
                  intro d ev w1 hext HJd Hanc Hdes hni hb hd
                  replace Hanc := Bl.hid Hanc
                  replace HJd := Bl.hid HJd
                  replace Hdes := Bl.hid Hdes
                  replace hni := Bl.hid hni
                  have e4 := hb 4 (by decide)
                  have e11 := hb 11 (by decide)
                  clear hb
                  simp only [Array.getD_eq_getD_getElem?, List.getElem?_toArray, List.getElem?_cons_succ, List.getElem?_cons_zero, Option.getD_some] at e4 e11
                  simp only [Bl.DepsE2, List.getElem?_cons_succ, List.getElem?_cons_zero, Option.bind_some, List.getD_cons_succ, List.getD_cons_zero, Bl.eqv, and_true] at hd
                  rw [if_pos (rfl : Region.wanted _ _ = true)]
                  go_simp
                  first | exact ⟨Bl.Kq.refl _, rfl, HJd.out.same (by decide)⟩ | (go_at_call 53; have hcl := HTd.out w1 (HJd.out.a hni.out); (with_reducible refine hcl.mono ?_); rintro e w2 ⟨v9, rfl, k1, k2, k3⟩; exact ⟨_, rfl, k3, trivial, Bl.JTk.tk k1 k2⟩) | exact ⟨Below.refl _ _, rfl, Bl.HJ.same (by decide) HJd.out⟩
              case hmono => exact ⟨Bl.monoR_eqv _, Bl.monoR_eqv _, Bl.monoR_anyv, trivial⟩
              case hR0 => exact Bl.Kq.drew _
              case hend =>
                intro u w1 hext hJ hend
                simp only [Bl.EndE, List.getElem?_cons_succ, List.getElem?_cons_zero, Option.bind_some, List.getD_cons_succ, List.getD_cons_zero, Bl.eqv, true_and] at hend
                simp only [Bl.fillAct, List.setIfInBounds_toArray, List.set_cons_succ, List.set_cons_zero, List.drop_succ_cons, List.drop_zero, hend]
                obtain ⟨hCu, hRd⟩ := hJ.b rfl
                obtain ⟨b5, o5, c5, hx5, _, _, _, hr5, _⟩ := Bl.Rd.pos hRd (by rw [Hdg.out.1]; decide)
                rw [Hdg.out.1] at hx5
                simp only [hx5]
                have HCh := Bl.hid hCu
                have HKh1 : Hid (Bl.Kq (fun k => k = X ∨ D1 ≤ k) wr w1) := Bl.hid (HKg.out.trans (hext.mono fun _ _ q => .inl q))
                have hBD1 := hext.box (by have := HBq.out.2.1; omega) HBD.out
                have Hcp := Bl.hid (Bl.copy_box (P := Tryd.prog) (t := 46) (t2 := 46) (c := c5) (e := 5) Tryd.underlying46 (by kernel_rfl) hBD1 (n := 32) (by rw [Bl.ints_length, List.length_replicate]) hr5 Hdg.out.1)
                have HBD2 := Bl.hid (hBD1.set (cs' := Bl.ints .u8 dg) (by rw [Bl.ints_length, Bl.ints_length, List.length_replicate]; exact Hdg.out.1))
                have hKs : Bl.Kq (fun k => k = D1) w1 (w1.setCells D1 0 (Bl.ints .u8 dg)) := (Bl.Kq.refl w1).setCells (Q := fun k => k = D1) rfl 0 _
                have HKs := Bl.hid hKs
                clear hCu hRd hx5 hr5 hext hJ hend hBD1 hKs HTd HCg HKg HBD
                go_wp2_with (with_reducible refine Bl.stop_copy ?_)
                refine Bl.go_on ?_
                refine Bl.wpL_copy Hcp.out rfl rfl ?_
                obtain ⟨wh, hwh⟩ : ∃ W, W = w1.setCells D1 0 (Bl.ints .u8 dg) := ⟨_, rfl⟩
                rw [← hwh] at HBD2 HKs ⊢
                have HKh : Hid (Bl.Kq (fun k => k = X ∨ D1 ≤ k) wr wh) := Bl.hid (HKh1.out.trans (HKs.out.mono fun k _ q => .inr (Nat.le_of_eq q.symm)))
                have HCh2 := Bl.hid (HCh.out.kept HKs.out (fun i hi q => by have := HBq.out.2.1; omega))
                have HGh := Bl.hid (HG2.out.kx Bl.stab_okT (by rw [← HD1.out]; exact HKh.out) HB2.out.2.2 HBq.out.2.2.1)
                have gq := HGh.out.cell
                have Hld := Bl.hid (Bl.load_ints (P := Tryd.prog) (ty := 69) HBD2.out.rg Tryd.underlying69 (by kernel_rfl) Hdg.out.1)
                clear hwh Hcp HKh1 HKs HCh
                go_wp2_with (with_reducible refine Bl.stop_load (ty := 69) ?_)
                refine Bl.go_on ?_
                refine Bl.wpL_load rfl Hld.out ?_
                go_wp2_with (with_reducible refine Bl.stop_build (ty := 66) ?_)
                refine Bl.go_on ?_
                refine Bl.wpL_build1 tArr (by decide) rfl (by simp [Hdg.out.1]) ?_
                have HRi := Bl.hid (Bl.range_boxC wh (Bl.ints .u8 dg) 69)
                have HEi : Hid (Bl.Ext wh (wh.alloc (.cells (Bl.ints .u8 dg).toArray 69))) := Bl.hid (Bl.ext_alloc _ _)
                obtain ⟨wi, hwi⟩ : ∃ W, W = wh.alloc (.cells (Bl.ints .u8 dg).toArray 69) := ⟨_, rfl⟩
                obtain ⟨X9, hX9⟩ : ∃ S, S = wh.heap.size := ⟨_, rfl⟩
                rw [← hwi] at HRi HEi ⊢
                rw [← hX9] at HRi ⊢
                have HGi := Bl.hid (HGh.out.ext Bl.stab_okT HEi.out)
                have HKi : Hid (Bl.Kq (fun k => k = X ∨ D1 ≤ k) wr wi) := Bl.hid (HKh.out.trans (Bl.Kq.of_ext HEi.out))
                have HCi := Bl.hid (HCh2.out.ext HEi.out)
                clear hwi hX9 Hld gq HGh HKh HCh2 HBD2
                go_wp2_with (with_reducible refine Bl.stop_append ?_)
                refine Bl.go_on ?_
                refine Bl.wpL_appPk tArr HGi.out.own HRi.out (by rw [Bl.ints_length, Hdg.out.1]) (Bl.ints_one _ _) (by decide) Hjl.out.1 Hjl.out.2 (Nat.le_trans HBq.out.1 (by rw [HD1.out]; exact HKi.out.size)) rfl rfl ?_
                intro v10 w10 own10 hg10 hk10
                obtain ⟨p10, c10, hv10, _, _⟩ := own10.rds.form
                subst hv10
                have HP := Bl.hid (Bl.GP.push (y := dg) Bl.stab_okT HGi.out own10 hg10 hk10 trivial)
                have gb := (HGi.out.mid hg10).cell HGi.out.fld
                have gf := (HGi.out.mid hg10).fz HGi.out.lt
                have hKg : Bl.Kq (fun k => B2 ≤ k) wi w10 := Bl.Kq.grown hg10 fun k hk => (HGi.out.own.block k hk).1
                have HKj : Hid (Bl.Kq (fun k => k = X ∨ k = S ∨ B2 ≤ k) wr (w10.setCell ⟨S, 2, none⟩ (.slice p10 (D.length + 1) c10))) := Bl.hid (((HKi.out.mono fun k _ q => q.elim .inl fun q => .inr (.inr (Nat.le_trans HBq.out.1 q))).trans (hKg.mono fun _ _ q => .inr (.inr q))).setCell (Q := fun k => k = X ∨ k = S ∨ B2 ≤ k) ⟨S, 2, none⟩ (.inr (.inl rfl)) _)
                have HCj := Bl.hid (HCi.out.kept (Q := fun k => B2 ≤ k ∨ k = S) ((hKg.mono fun _ _ q => .inl q).setCell (Q := fun k => B2 ≤ k ∨ k = S) ⟨S, 2, none⟩ (.inr rfl) (.slice p10 (D.length + 1) c10)) (fun i hi q => by have := HBq.out; have := HB2.out; omega))
                clear own10 hg10 hk10 hKg HGi HKi HCi HRi HEi
                go_wp2_with fail
                go_roundw
                case rel => exact ⟨j - 1, sb, .slice p10 (D.length + 1) c10, D ++ [dg], by go_num, Bl.hid ⟨HP.out, HCj.out, by rw [List.append_assoc]; exact HN2.out.1, HN2.out.2, by rw [List.length_append, List.length_singleton]; have := Hj.out.1; omega, Hj.out.2.append (Bl.Dig.one Hdg.out.1 Hdg.out.2)⟩, Bl.hid (HKq.out.trans HKj.out)⟩
                case measure => simp [intOf]; omega
              case hJ0 => exact Bl.JTk.start (HCg.out.kept (Q := fun _ => False) (Bl.Kq.drew _) (fun _ _ q => q))
            · have hfin := Bl.eaT_stop Bl.paF j t' Hsh2.out
              have hD : D = ds := by have h := HJ.out.2.2.1; rw [hfin, List.append_nil] at h; exact h
              have h4 : t' = a4 := by have h := HJ.out.2.2.2.1; rw [hfin] at h; exact h
              have HD := Bl.hid (And.intro hD h4)
              obtain ⟨pq, cz, hvq⟩ := HJ.out.1.form
              subst hvq
              have HGo := Bl.hid (HG.out.kx Bl.stab_okF (by rw [← HSz.out]; exact HKo.out) HXY.out.1 HBw.out.2.2)
              have gq := HGo.out.cell
              have HJp := Bl.hid (And.intro HJ.out.1.own HJ.out.2.2.2.2.2)
              have Hl8 := Bl.hid (HJ.out.1.box.load (P := Tryd.prog) Tryd.underlying68 rfl (by kernel_rfl))
              clear HJ hfin hD h4
              go_wp2_with (with_reducible refine Bl.stop_load (ty := 68) ?_)
              refine Bl.go_on ?_
              refine Bl.wpL_load rfl Hl8.out ?_
              go_wp2_with (with_reducible refine Bl.stop_build (ty := 31) ?_)
              refine Bl.go_on ?_
              refine Bl.wpL_build1 tShR (by decide) rfl rfl ?_
              have HRi := Bl.hid (Bl.range_boxC wr [.int .i64 p, .slice p3 16 c3, .slice pq D.length cz] 68)
              have HEi : Hid (Bl.Ext wr (wr.alloc (.cells ([.int .i64 p, .slice p3 16 c3, .slice pq D.length cz] : List Value).toArray 68))) := Bl.hid (Bl.ext_alloc _ _)
              obtain ⟨wi, hwi⟩ : ∃ W, W = wr.alloc (.cells ([.int .i64 p, .slice p3 16 c3, .slice pq D.length cz] : List Value).toArray 68) := ⟨_, rfl⟩
              obtain ⟨X9, hX9⟩ : ∃ S, S = wr.heap.size := ⟨_, rfl⟩
              rw [← hwi] at HRi HEi ⊢
              rw [← hX9] at HRi ⊢
              have HGi := Bl.hid (HGo.out.ext Bl.stab_okF HEi.out)
              have HKi := Bl.hid (HKo.out.trans (Bl.Kq.of_ext HEi.out))
              have HCi := Bl.hid (HC2.out.ext HEi.out)
              have HOy : Hid (Bl.OkF (fun b => b ≠ Y ∧ v'.ownBlock ≠ some b ∧ B ≤ b) wi (p, (.slice p3 16 c3, st), .slice pq D.length cz, D)) := Bl.hid (by
                have hfar : ∀ b, Sz ≤ b → b ≠ Y ∧ v'.ownBlock ≠ some b ∧ B ≤ b := fun b hb => ⟨by have := HXS.out; omega, fun q => by have := (HG.out.own.block b q).2; have := HSz.out; omega, by have := HXS.out; omega⟩
                refine ⟨?_, Hst.out.2, ?_, HJp.out.2⟩
                · show Bl.RdsF _ wi (.slice p3 16 c3) st.length (Bl.ints .u8 st)
                  rw [Hst.out.1]
                  exact (HSf.out.kept (F' := fun b => Sz ≤ b) fun b hb hl => ⟨hb.1, HKq.out.block b hl (by have := HB2.out; have := HXS.out; omega)⟩).kept fun b hb hl => ⟨hfar b hb, HEi.out.block b hl⟩
                · exact (Bl.RdsF.of_rds (F := fun b => Sz ≤ b) HJp.out.1.rds (fun b hb _ => by have := (HJp.out.1.block b hb).1; have := HB2.out; have := HSS.out; omega)).kept fun b hb hl => ⟨hfar b hb, HEi.out.block b hl⟩)
              clear hwi hX9 Hl8 gq HGo q2
              go_wp2_with (with_reducible refine Bl.stop_append ?_)
              refine Bl.go_on ?_
              refine Bl.wpL_appPk tShR HGi.out.own HRi.out rfl (Bl.cS3_one ⟨_, _, _, rfl⟩ ⟨_, _, _, rfl⟩) (by decide) Hml.out.1 Hml.out.2 (Nat.le_trans (Nat.le_trans HBw.out.1 HKo.out.size) HEi.out.size) rfl rfl ?_
              intro v10 w10 own10 hg10 hk10
              obtain ⟨p10, c10, hv10, _, _⟩ := own10.rds.form
              subst hv10
              have HP := Bl.hid (Bl.GP.push (y := (p, (.slice p3 16 c3, st), .slice pq D.length cz, D)) Bl.stab_okF HGi.out own10 hg10 hk10 HOy.out)
              have gb := (HGi.out.mid hg10).cell HGi.out.fld
              have gf := (HGi.out.mid hg10).fz HGi.out.lt
              have hKg : Bl.Kq (fun k => B ≤ k) wi w10 := Bl.Kq.grown hg10 fun k hk => (HGi.out.own.block k hk).1
              have HKj := Bl.hid (((HKi.out.mono (Q' := fun k => k = X ∨ k = Y ∨ B ≤ k) fun k _ q => q.elim .inl fun q => .inr (.inr (Nat.le_trans HXS.out.2.2.1 q))).trans (hKg.mono fun _ _ q => .inr (.inr q))).setCell (Q := fun k => k = X ∨ k = Y ∨ B ≤ k) ⟨Y, 4, none⟩ (.inr (.inl rfl)) (.slice p10 (M.length + 1) c10))
              have HCj := Bl.hid (HCi.out.kept (Q := fun k => B ≤ k ∨ k = Y) ((hKg.mono fun _ _ q => .inl q).setCell (Q := fun k => B ≤ k ∨ k = Y) ⟨Y, 4, none⟩ (.inr rfl) (.slice p10 (M.length + 1) c10)) (fun i hi q => by have := HBw.out; have := HXY.out; omega))
              clear own10 hg10 hk10 hKg HGi HKi HCi HRi HEi
              go_wp2_with fail
              go_roundw
              case rel => exact ⟨m - 1, t', .slice p10 (M.length + 1) c10, M ++ [(p, (.slice p3 16 c3, st), .slice pq D.length cz, D)], by go_num, Bl.hid ⟨by have h := HP.out; rw [List.set_set] at h; exact h, HCj.out, by rw [List.map_append, List.append_assoc, HD.out.2]; have h := HN.out.1; rw [← HD.out.1] at h; exact h, by rw [HD.out.2]; exact HN.out.2, by rw [List.length_append, List.length_singleton]; have := Hm.out; omega⟩, Bl.hid (HKr.out.trans HKj.out)⟩
              case measure => simp [intOf]; omega
          · have hji : ¬ ((0 : Int) < (j : Int)) := by omega
            have hfin : Bl.eaT Bl.paF j t' = ([], t') := by
              obtain rfl : j = 0 := by omega
              rfl
            have hD : D = ds := by have h := HJ.out.2.2.1; rw [hfin, List.append_nil] at h; exact h
            have h4 : t' = a4 := by have h := HJ.out.2.2.2.1; rw [hfin] at h; exact h
            have HD := Bl.hid (And.intro hD h4)
            obtain ⟨pq, cz, hvq⟩ := HJ.out.1.form
            subst hvq
            have HGo := Bl.hid (HG.out.kx Bl.stab_okF (by rw [← HSz.out]; exact HKo.out) HXY.out.1 HBw.out.2.2)
            have gq := HGo.out.cell
            have HJp := Bl.hid (And.intro HJ.out.1.own HJ.out.2.2.2.2.2)
            have Hl8 := Bl.hid (HJ.out.1.box.load (P := Tryd.prog) Tryd.underlying68 rfl (by kernel_rfl))
            clear HJ hfin hD h4
            go_wp2_with (with_reducible refine Bl.stop_load (ty := 68) ?_)
            refine Bl.go_on ?_
            refine Bl.wpL_load rfl Hl8.out ?_
            go_wp2_with (with_reducible refine Bl.stop_build (ty := 31) ?_)
            refine Bl.go_on ?_
            refine Bl.wpL_build1 tShR (by decide) rfl rfl ?_
            have HRi := Bl.hid (Bl.range_boxC wr [.int .i64 p, .slice p3 16 c3, .slice pq D.length cz] 68)
            have HEi : Hid (Bl.Ext wr (wr.alloc (.cells ([.int .i64 p, .slice p3 16 c3, .slice pq D.length cz] : List Value).toArray 68))) := Bl.hid (Bl.ext_alloc _ _)
            obtain ⟨wi, hwi⟩ : ∃ W, W = wr.alloc (.cells ([.int .i64 p, .slice p3 16 c3, .slice pq D.length cz] : List Value).toArray 68) := ⟨_, rfl⟩
            obtain ⟨X9, hX9⟩ : ∃ S, S = wr.heap.size := ⟨_, rfl⟩
            rw [← hwi] at HRi HEi ⊢
            rw [← hX9] at HRi ⊢
            have HGi := Bl.hid (HGo.out.ext Bl.stab_okF HEi.out)
            have HKi := Bl.hid (HKo.out.trans (Bl.Kq.of_ext HEi.out))
            have HCi := Bl.hid (HC2.out.ext HEi.out)
            have HOy : Hid (Bl.OkF (fun b => b ≠ Y ∧ v'.ownBlock ≠ some b ∧ B ≤ b) wi (p, (.slice p3 16 c3, st), .slice pq D.length cz, D)) := Bl.hid (by
              have hfar : ∀ b, Sz ≤ b → b ≠ Y ∧ v'.ownBlock ≠ some b ∧ B ≤ b := fun b hb => ⟨by have := HXS.out; omega, fun q => by have := (HG.out.own.block b q).2; have := HSz.out; omega, by have := HXS.out; omega⟩
              refine ⟨?_, Hst.out.2, ?_, HJp.out.2⟩
              · show Bl.RdsF _ wi (.slice p3 16 c3) st.length (Bl.ints .u8 st)
                rw [Hst.out.1]
                exact (HSf.out.kept (F' := fun b => Sz ≤ b) fun b hb hl => ⟨hb.1, HKq.out.block b hl (by have := HB2.out; have := HXS.out; omega)⟩).kept fun b hb hl => ⟨hfar b hb, HEi.out.block b hl⟩
              · exact (Bl.RdsF.of_rds (F := fun b => Sz ≤ b) HJp.out.1.rds (fun b hb _ => by have := (HJp.out.1.block b hb).1; have := HB2.out; have := HSS.out; omega)).kept fun b hb hl => ⟨hfar b hb, HEi.out.block b hl⟩)
            clear hwi hX9 Hl8 gq HGo q2
            go_wp2_with (with_reducible refine Bl.stop_append ?_)
            refine Bl.go_on ?_
            refine Bl.wpL_appPk tShR HGi.out.own HRi.out rfl (Bl.cS3_one ⟨_, _, _, rfl⟩ ⟨_, _, _, rfl⟩) (by decide) Hml.out.1 Hml.out.2 (Nat.le_trans (Nat.le_trans HBw.out.1 HKo.out.size) HEi.out.size) rfl rfl ?_
            intro v10 w10 own10 hg10 hk10
            obtain ⟨p10, c10, hv10, _, _⟩ := own10.rds.form
            subst hv10
            have HP := Bl.hid (Bl.GP.push (y := (p, (.slice p3 16 c3, st), .slice pq D.length cz, D)) Bl.stab_okF HGi.out own10 hg10 hk10 HOy.out)
            have gb := (HGi.out.mid hg10).cell HGi.out.fld
            have gf := (HGi.out.mid hg10).fz HGi.out.lt
            have hKg : Bl.Kq (fun k => B ≤ k) wi w10 := Bl.Kq.grown hg10 fun k hk => (HGi.out.own.block k hk).1
            have HKj := Bl.hid (((HKi.out.mono (Q' := fun k => k = X ∨ k = Y ∨ B ≤ k) fun k _ q => q.elim .inl fun q => .inr (.inr (Nat.le_trans HXS.out.2.2.1 q))).trans (hKg.mono fun _ _ q => .inr (.inr q))).setCell (Q := fun k => k = X ∨ k = Y ∨ B ≤ k) ⟨Y, 4, none⟩ (.inr (.inl rfl)) (.slice p10 (M.length + 1) c10))
            have HCj := Bl.hid (HCi.out.kept (Q := fun k => B ≤ k ∨ k = Y) ((hKg.mono fun _ _ q => .inl q).setCell (Q := fun k => B ≤ k ∨ k = Y) ⟨Y, 4, none⟩ (.inr rfl) (.slice p10 (M.length + 1) c10)) (fun i hi q => by have := HBw.out; have := HXY.out; omega))
            clear own10 hg10 hk10 hKg HGi HKi HCi HRi HEi
            go_wp2_with fail
            go_roundw
            case rel => exact ⟨m - 1, t', .slice p10 (M.length + 1) c10, M ++ [(p, (.slice p3 16 c3, st), .slice pq D.length cz, D)], by go_num, Bl.hid ⟨by have h := HP.out; rw [List.set_set] at h; exact h, HCj.out, by rw [List.map_append, List.append_assoc, HD.out.2]; have h := HN.out.1; rw [← HD.out.1] at h; exact h, by rw [HD.out.2]; exact HN.out.2, by rw [List.length_append, List.length_singleton]; have := Hm.out; omega⟩, Bl.hid (HKr.out.trans HKj.out)⟩
            case measure => simp [intOf]; omega
      · have hfin := Bl.eaT_stop Bl.ssF m s' Hsh.out
        have HM : Hid (M.map Bl.plS = bs) := Bl.hid (by have h := HI.out.2.2.1; rw [hfin, List.append_nil] at h; exact h)
        have e4 : s' = t4 := by have h := HI.out.2.2.2.1; rw [hfin] at h; exact h
        have hle : Y ≤ B := Nat.le_of_lt HBY.out.1
        have HL : Hid (Bl.LtY wr Y Y ⟨4, i, oo, [], bs, 0, 0, [], 0⟩) := Bl.hid ⟨_, v', _, M, HI.out.1.box, Bl.RdsF.nil _, HI.out.1.rowF hle, HI.out.1.elF Bl.stab_okF hle, HM.out, [], Bl.RdsF.nil _, fun x hx => (by cases hx), rfl⟩
        have HPf' : pr = Bl.finT ((⟨4, i, oo, [], bs, 0, 0, [], 0⟩ : Bl.LT), s') := by rw [e4]; exact HPf.out
        replace HPf := Bl.hid HPf'
        clear HPf' e4 hfin HM hle HI HKr
        have Hsp : Hid (pr = (2, Bl.lt0)) := Bl.hid (by rw [HPf.out]; unfold Bl.finT; exact if_pos Hsh.out)
        clear HPf HL HCr
        have Hstz := Bl.hid (HStz.out _ HBRr.out)
        have HBR9 := Bl.hid (HBRr.out.set (cs' := Bl.zL.toList) rfl)
        have HZ9 := Bl.hid (HZr.out.setCells (g := w.heap.size) (Nat.le_refl _) 0 Bl.zL.toList)
        go_wp2_with (with_reducible refine Bl.stop_store (ty := 33) ?_)
        refine Bl.go_on ?_
        refine Bl.wpL_store0 rfl rfl Hstz.out ?_
        go_wp2_with fail
        refine bodyPost_ret (v := .tuple #[.agg Bl.zL, .int .i64 2]) (Bl.results_cell2 rfl rfl (HBR9.out.loadVar (P := Tryd.prog) Tryd.underlying33 rfl (by kernel_rfl)) rfl) rfl ?_
        rw [Hsp.out]
        exact ⟨_, rfl, Bl.LtV.zero _, HZ9.out.ext fun k q => q⟩
    · have hmi : ¬ ((0 : Int) < (m : Int)) := by omega
      have hfin : Bl.eaT Bl.ssF m s' = ([], s') := by
        obtain rfl : m = 0 := by omega
        rfl
      clear q2 Hsh
      have HM : Hid (M.map Bl.plS = bs) := Bl.hid (by have h := HI.out.2.2.1; rw [hfin, List.append_nil] at h; exact h)
      have e4 : s' = t4 := by have h := HI.out.2.2.2.1; rw [hfin] at h; exact h
      have hle : Y ≤ B := Nat.le_of_lt HBY.out.1
      have HL : Hid (Bl.LtY wr Y Y ⟨4, i, oo, [], bs, 0, 0, [], 0⟩) := Bl.hid ⟨_, v', _, M, HI.out.1.box, Bl.RdsF.nil _, HI.out.1.rowF hle, HI.out.1.elF Bl.stab_okF hle, HM.out, [], Bl.RdsF.nil _, fun x hx => (by cases hx), rfl⟩
      have HPf' : pr = Bl.finT ((⟨4, i, oo, [], bs, 0, 0, [], 0⟩ : Bl.LT), s') := by rw [e4]; exact HPf.out
      replace HPf := Bl.hid HPf'
      clear HPf' e4 hfin HM hle HI HKr
      obtain ⟨l, hl7⟩ : ∃ l, l = (⟨4, i, oo, [], bs, 0, 0, [], 0⟩ : Bl.LT) := ⟨_, rfl⟩
      rw [← hl7] at HL HPf
      clear hl7
      obtain ⟨pt, ct, at', bt, hxt, hbl, hat, hdr, _, _, _⟩ := HCr.out.ex
      have qb := hxt.cell (i := 2) rfl
      have qa := hxt.cell (i := 1) rfl
      have Hnr : Hid (s'.2.length = n - at' ∧ at' ≤ n) := Bl.hid ⟨by rw [hdr, List.length_drop, hbl], hat⟩
      obtain ⟨sh, rest⟩ := s'
      simp only at qb Hnr
      clear hxt hbl hdr hat HCr
      cases sh with
      | true =>
        have Hsp : Hid (pr = (2, Bl.lt0)) := Bl.hid (by rw [HPf.out]; rfl)
        clear HPf
        have Hstz := Bl.hid (HStz.out _ HBRr.out)
        have HBR9 := Bl.hid (HBRr.out.set (cs' := Bl.zL.toList) rfl)
        have HZ9 := Bl.hid (HZr.out.setCells (g := w.heap.size) (Nat.le_refl _) 0 Bl.zL.toList)
        go_wp2_with (with_reducible refine Bl.stop_store (ty := 33) ?_)
        refine Bl.go_on ?_
        refine Bl.wpL_store0 rfl rfl Hstz.out ?_
        go_wp2_with fail
        refine bodyPost_ret (v := .tuple #[.agg Bl.zL, .int .i64 2]) (Bl.results_cell2 rfl rfl (HBR9.out.loadVar (P := Tryd.prog) Tryd.underlying33 rfl (by kernel_rfl)) rfl) rfl ?_
        rw [Hsp.out]
        exact ⟨_, rfl, Bl.LtV.zero _, HZ9.out.ext fun k q => q⟩
      | false =>
        by_cases h0 : at' < n
        · have h0i : (at' : Int) < (n : Int) := by omega
          have Hsp : Hid (pr = (4, Bl.lt0)) := Bl.hid (by
            rw [HPf.out]; unfold Bl.finT; simp only [Bool.false_eq_true, if_false]; rw [if_pos (by have := Hnr.out.1; omega)])
          clear HPf
          have Hstz := Bl.hid (HStz.out _ HBRr.out)
          have HBR9 := Bl.hid (HBRr.out.set (cs' := Bl.zL.toList) rfl)
          have HZ9 := Bl.hid (HZr.out.setCells (g := w.heap.size) (Nat.le_refl _) 0 Bl.zL.toList)
          go_wp2_with (with_reducible refine Bl.stop_store (ty := 33) ?_)
          refine Bl.go_on ?_
          refine Bl.wpL_store0 rfl rfl Hstz.out ?_
          go_wp2_with fail
          refine bodyPost_ret (v := .tuple #[.agg Bl.zL, .int .i64 4]) (Bl.results_cell2 rfl rfl (HBR9.out.loadVar (P := Tryd.prog) Tryd.underlying33 rfl (by kernel_rfl)) rfl) rfl ?_
          rw [Hsp.out]
          exact ⟨_, rfl, Bl.LtV.zero _, HZ9.out.ext fun k q => q⟩
        · have h0i : ¬ ((at' : Int) < (n : Int)) := by omega
          have HPg : Hid (pr = if Bl.chkL l = 0 then (0, l) else (Bl.chkL l, Bl.lt0)) := Bl.hid (by
            rw [HPf.out]; unfold Bl.finT; simp only [Bool.false_eq_true, if_false]; rw [if_neg (by have := Hnr.out.1; omega)])
          obtain ⟨vp, vs, vb, L, hB7, hF7⟩ := HL.out
          have HLv : Hid (Bl.LtV _ (.agg (Bl.cL l vp vs vb).toArray) l) := Bl.hid ⟨_, vp, vs, vb, L, rfl, hF7.ltc⟩
          have HB7 := Bl.hid hB7
          have HF7 := Bl.hid hF7
          have Hone : Hid (∀ c ∈ Bl.cL l vp vs vb, c.oneCell' = true) := Bl.hid hF7.ltc.one
          have Hl7 := Bl.hid (hB7.load (P := Tryd.prog) Tryd.underlying33 rfl (by kernel_rfl))
          clear HPf h0 hB7 hF7 HL
          go_wp2_with (with_reducible refine Bl.stop_load (ty := 33) ?_)
          refine Bl.go_on ?_
          refine Bl.wpL_load rfl Hl7.out ?_
          go_wp2_with fail
          refine (rcheck_any _ l _ HLv.out).mono ?_
          rintro e w8 ⟨rfl, hE8⟩
          have HB8 := Bl.hid (HB7.out.ext hE8)
          have HBR8 := Bl.hid (HBRr.out.ext hE8)
          have HZ8 : Hid (Bl.Kq (fun k => w.heap.size ≤ k) w w8) := Bl.hid (HZr.out.trans (Bl.Kq.of_ext hE8))
          have HF8 : Hid (Bl.LtF (fun k => Y ≤ k) w8 l vp vs vb L) := Bl.hid (HF7.out.kept fun k hk hlk => ⟨hk, hE8.block k hlk⟩)
          clear hE8 HB7 HBRr HZr HF7 Hl7 HLv qb qa
          obtain ⟨K9, hK9⟩ : ∃ K9, K9 = Bl.chkL l := ⟨_, rfl⟩
          rw [← hK9] at HPg
          rw [← hK9]
          clear hK9
          by_cases hK0 : K9 = 0
          · subst hK0
            have Hsp : Hid (pr = (0, l)) := HPg
            have Hl8 := Bl.hid (HB8.out.load (P := Tryd.prog) Tryd.underlying33 rfl (by kernel_rfl))
            have Hst8 := Bl.hid (HBR8.out.store (P := Tryd.prog) (cs' := Bl.cL l vp vs vb) rfl Hone.out (ty := 33) (by kernel_rfl))
            have HBR9 := Bl.hid (HBR8.out.set (cs' := Bl.cL l vp vs vb) rfl)
            have HZ9 := Bl.hid (HZ8.out.setCells (g := w.heap.size) (Nat.le_refl _) 0 (Bl.cL l vp vs vb))
            have HK9 : Hid (Bl.Kq (fun k => k = w.heap.size) w8 (w8.setCells w.heap.size 0 (Bl.cL l vp vs vb))) := Bl.hid ((Bl.Kq.refl w8).setCells (Q := fun k => k = w.heap.size) rfl 0 _)
            clear HPg
            rw [show ((0 : Nat) : Int) = 0 from rfl]
            go_wp2_with (with_reducible refine Bl.stop_load (ty := 33) ?_)
            refine Bl.go_on ?_
            refine Bl.wpL_load rfl Hl8.out ?_
            go_wp2_with (with_reducible refine Bl.stop_store (ty := 33) ?_)
            refine Bl.go_on ?_
            refine Bl.wpL_store0 rfl rfl Hst8.out ?_
            go_wp2_with fail
            refine bodyPost_ret (v := .tuple #[.agg (Bl.cL l vp vs vb).toArray, .int .i64 0]) (Bl.results_cell2 rfl rfl (HBR9.out.loadVar (P := Tryd.prog) Tryd.underlying33 rfl (by kernel_rfl)) rfl) rfl ?_
            rw [Hsp.out]
            exact ⟨_, rfl, ⟨_, vp, vs, vb, L, rfl, (HF8.out.kept (F' := fun k => Y ≤ k) fun k hk hlk => ⟨hk, HK9.out.block k hlk (by have := HXY.out; omega)⟩).ltc⟩, HZ9.out.ext fun k q => q⟩
          · have Hsp : Hid (pr = (K9, Bl.lt0)) := Bl.hid (by rw [HPg.out, if_neg hK0])
            have Hstz := Bl.hid (HStz.out w8 HBR8.out)
            have HBR9 := Bl.hid (HBR8.out.set (cs' := Bl.zL.toList) rfl)
            have HZ9 := Bl.hid (HZ8.out.setCells (g := w.heap.size) (Nat.le_refl _) 0 Bl.zL.toList)
            have hK0i : ¬ ((K9 : Int) = 0) := by omega
            clear HPg
            go_wp2_with (with_reducible refine Bl.stop_store (ty := 33) ?_)
            refine Bl.go_on ?_
            refine Bl.wpL_store0 rfl rfl Hstz.out ?_
            go_wp2_with fail
            refine bodyPost_ret (v := .tuple #[.agg Bl.zL, .int .i64 (K9 : Nat)]) (Bl.results_cell2 rfl rfl (HBR9.out.loadVar (P := Tryd.prog) Tryd.underlying33 rfl (by kernel_rfl)) rfl) rfl ?_
            rw [Hsp.out]
            exact ⟨_, rfl, Bl.LtV.zero _, HZ9.out.ext fun k q => q⟩
end Go.Proofs.YtmmolapkddbibaaDoor

/- Walk of baileeref22.Parse, letters of the kinds 5 and 7. -/
namespace Go.Proofs.YtmmolapkddbibaaDoor
open Go Go.RowKit Go.Proofs

set_option maxRecDepth 100000 in
set_option maxHeartbeats 8000000 in
theorem rparse5 (v : Value) (r : List Int) (w : World) (hR : Bl.Rd w .u8 v (5 :: r)) (hb : Bl.Byt r) (hl : r.length + 1 ≤ 8000) :
    Calls Tryd.prog 25 #[v] w fun e w' => Bl.ParD (Bl.finT (Bl.rsF 5 (Bl.numF 0 (Bl.tkF 8 (false, r)).1) (Bl.numF 0 (Bl.tkF 8 (Bl.tkF 8 (false, r)).2).1) (Bl.tkF 8 (Bl.tkF 8 (false, r)).2).2)) w e w' := by
  obtain ⟨g, o, c, hvf, hnc, hcm, hgl, _, hel⟩ := Bl.Rd.pos hR (by simp)
  have hc0 : w.cell? ⟨g, o, none⟩ = some (.int .u8 5) := hel 0 (by simp)
  obtain ⟨n, hn⟩ : ∃ n, n = ((5 : Int) :: r).length := ⟨_, rfl⟩
  have hn1 : n = r.length + 1 := by rw [hn]; rfl
  have hR' : Bl.Rds w v n (Bl.ints .u8 (5 :: r)) := by rw [hn]; exact hR
  rw [← hn] at hvf hnc
  subst hvf
  unfold maxLen at hcm
  obtain ⟨X, hX⟩ : ∃ X, X = w.heap.size + 1 := ⟨_, rfl⟩
  obtain ⟨pr, hpr⟩ : ∃ pr, pr = Bl.finT (Bl.rsF 5 (Bl.numF 0 (Bl.tkF 8 (false, r)).1) (Bl.numF 0 (Bl.tkF 8 (Bl.tkF 8 (false, r)).2).1) (Bl.tkF 8 (Bl.tkF 8 (false, r)).2).2) := ⟨_, rfl⟩
  rw [← hpr]
  have hb0 : Bl.Byt ((false, r) : Bl.Rst).2 := hb
  have HT0 : Hid (DTake n X 8 ((false, r) : Bl.Rst) (Bl.tkF 8 ((false, r) : Bl.Rst)).1 (Bl.tkF 8 ((false, r) : Bl.Rst)).2) := Bl.hid (ctake_all n X 8 ((false, r) : Bl.Rst) (by decide) (by decide))
  have HM0 : Hid (DNum (Bl.tkF 8 ((false, r) : Bl.Rst)).1 (Bl.numF 0 (Bl.tkF 8 ((false, r) : Bl.Rst)).1)) := Bl.hid (cnumb_all 8 ((false, r) : Bl.Rst) (by decide) hb0)
  have hb1 := (Bl.tkF_byt (n := 8) (s := ((false, r) : Bl.Rst)) hb0).2
  obtain ⟨i, hzi⟩ : ∃ z, z = Bl.numF 0 (Bl.tkF 8 ((false, r) : Bl.Rst)).1 := ⟨_, rfl⟩
  obtain ⟨s1, hss1⟩ : ∃ z, z = (Bl.tkF 8 ((false, r) : Bl.Rst)).2 := ⟨_, rfl⟩
  rw [← hzi, ← hss1] at hpr
  rw [← hzi] at HM0
  rw [← hss1] at HT0 hb1
  obtain ⟨y0, hy0⟩ : ∃ z, z = (Bl.tkF 8 ((false, r) : Bl.Rst)).1 := ⟨_, rfl⟩
  rw [← hy0] at HM0 HT0
  clear hzi hss1 hy0
  have HT1 : Hid (DTake n X 8 s1 (Bl.tkF 8 s1).1 (Bl.tkF 8 s1).2) := Bl.hid (ctake_all n X 8 s1 (by decide) (by decide))
  have HM1 : Hid (DNum (Bl.tkF 8 s1).1 (Bl.numF 0 (Bl.tkF 8 s1).1)) := Bl.hid (cnumb_all 8 s1 (by decide) hb1)
  have hb2 := (Bl.tkF_byt (n := 8) (s := s1) hb1).2
  obtain ⟨oo, hzoo⟩ : ∃ z, z = Bl.numF 0 (Bl.tkF 8 s1).1 := ⟨_, rfl⟩
  obtain ⟨s2, hss2⟩ : ∃ z, z = (Bl.tkF 8 s1).2 := ⟨_, rfl⟩
  rw [← hzoo, ← hss2] at hpr
  rw [← hzoo] at HM1
  rw [← hss2] at HT1 hb2
  obtain ⟨y1, hy1⟩ : ∃ z, z = (Bl.tkF 8 s1).1 := ⟨_, rfl⟩
  rw [← hy1] at HM1 HT1
  clear hzoo hss2 hy1
  replace hpr : pr = Bl.finT ((⟨5, i, oo, [], [], (Bl.nuF 2 s2).1, (Bl.nuF 2 (Bl.nuF 2 s2).2).1, [], 0⟩ : Bl.LT), (Bl.nuF 2 (Bl.nuF 2 s2).2).2) := hpr
  have HT2 : Hid (DTake n X 2 s2 (Bl.tkF 2 s2).1 (Bl.tkF 2 s2).2) := Bl.hid (ctake_all n X 2 s2 (by decide) (by decide))
  have HM2 : Hid (DNum (Bl.tkF 2 s2).1 ((Bl.nuF 2 s2).1)) := Bl.hid (cnumb_two s2 hb2)
  have hb3 := (Bl.tkF_byt (n := 2) (s := s2) hb2).2
  have hz2 := Bl.nu2F_le (s := s2) hb2
  have hun2 : Bl.nuF 2 s2 = ((Bl.nuF 2 s2).1, (Bl.tkF 2 s2).2) := rfl
  obtain ⟨f, hzf⟩ : ∃ z, z = (Bl.nuF 2 s2).1 := ⟨_, rfl⟩
  obtain ⟨s3, hss3⟩ : ∃ z, z = (Bl.tkF 2 s2).2 := ⟨_, rfl⟩
  rw [← hzf, ← hss3] at hun2
  rw [← hzf] at hz2
  rw [hun2] at hpr
  clear hun2
  rw [← hzf] at HM2
  rw [← hss3] at HT2 hb3
  obtain ⟨y2, hy2⟩ : ∃ z, z = (Bl.tkF 2 s2).1 := ⟨_, rfl⟩
  rw [← hy2] at HM2 HT2
  clear hzf hss3 hy2
  have HT3 : Hid (DTake n X 2 s3 (Bl.tkF 2 s3).1 (Bl.tkF 2 s3).2) := Bl.hid (ctake_all n X 2 s3 (by decide) (by decide))
  have HM3 : Hid (DNum (Bl.tkF 2 s3).1 ((Bl.nuF 2 s3).1)) := Bl.hid (cnumb_two s3 hb3)
  have hb4 := (Bl.tkF_byt (n := 2) (s := s3) hb3).2
  have hz3 := Bl.nu2F_le (s := s3) hb3
  have hun3 : Bl.nuF 2 s3 = ((Bl.nuF 2 s3).1, (Bl.tkF 2 s3).2) := rfl
  obtain ⟨cc, hzcc⟩ : ∃ z, z = (Bl.nuF 2 s3).1 := ⟨_, rfl⟩
  obtain ⟨s4, hss4⟩ : ∃ z, z = (Bl.tkF 2 s3).2 := ⟨_, rfl⟩
  rw [← hzcc, ← hss4] at hun3
  rw [← hzcc] at hz3
  rw [hun3] at hpr
  clear hun3
  rw [← hzcc] at HM3
  rw [← hss4] at HT3 hb4
  obtain ⟨y3, hy3⟩ : ∃ z, z = (Bl.tkF 2 s3).1 := ⟨_, rfl⟩
  rw [← hy3] at HM3 HT3
  clear hzcc hss4 hy3
  have HPf := Bl.hid hpr
  clear hpr
  have HBR0 := Bl.hid (Bl.BoxC.box (cs := Bl.zL.toList) w 33 (fun q => by cases q))
  have HE0 := Bl.hid (Bl.ext_alloc w (.cells Bl.zL 33))
  have HStz : Hid (∀ w2, Bl.BoxC w2 w.heap.size Bl.zL.toList → (Instr.storeAt 33 (.pointer (some ⟨w.heap.size, 0, none⟩)) (.agg Bl.zL)).run Tryd.prog w2 = .ok () (w2.setCells w.heap.size 0 Bl.zL.toList)) := Bl.hid fun w2 h => h.store (P := Tryd.prog) (cs' := Bl.zL.toList) rfl (fun c hc => by
    simp only [List.mem_cons, List.not_mem_nil, or_false] at hc
    rcases hc with rfl | rfl | rfl | rfl | rfl | rfl | rfl | rfl | rfl <;> rfl) (ty := 33) (by kernel_rfl)
  have hs0 : (w.alloc (.cells Bl.zL 33)).heap.size = w.heap.size + 1 := World.size_alloc _ _
  obtain ⟨W1, hW1⟩ : ∃ W1, W1 = (w.alloc (.cells Bl.zL 33)).alloc (.cells #[.slice (some ⟨g, o, none⟩) n c, .int .i64 1, .bool false] 100) := ⟨_, rfl⟩
  have HBR1 : Hid (Bl.BoxC W1 w.heap.size Bl.zL.toList) := Bl.hid (by rw [hW1]; exact HBR0.out.ext (Bl.ext_alloc _ _))
  have HE1 : Hid (Bl.Ext w W1) := Bl.hid (by rw [hW1]; exact HE0.out.trans (Bl.ext_alloc _ _))
  have HX1 : Hid (Bl.BoxC W1 X [.slice (some ⟨g, o, none⟩) n c, .int .i64 1, .bool false]) := Bl.hid (by
    have h := Bl.BoxC.box (cs := [.slice (some ⟨g, o, none⟩) n c, .int .i64 1, .bool false]) (w.alloc (.cells Bl.zL 33)) 100 (fun q => by cases q)
    rw [hs0, ← hX] at h
    rw [hW1]; exact h)
  have HC1 : Hid (Bl.Cur n W1 X (false, r)) := Bl.hid ⟨⟨some ⟨g, o, none⟩, c, 1, 5 :: r, HX1.out, hn.symm, by omega, rfl, (Bl.RdsF.of_rds (F := fun k => k < w.heap.size) hR' (fun _ _ h => h)).kept fun k hk hlk => ⟨by omega, HE1.out.block k hk⟩, hnc, by unfold maxLen; exact hcm⟩, hb, by omega⟩
  have hcW : W1.cell? ⟨g, o, none⟩ = some (.int .u8 5) := ((Bl.bcell HE1.out).1 _ _ (World.block_lt_of_cell? _ _ hc0)).trans hc0
  have hone : ∀ c ∈ Bl.cK 5 0 0 0 0 0, c.oneCell' = true := fun c hc => by
    simp only [Bl.cK, List.mem_cons, List.not_mem_nil, or_false] at hc
    rcases hc with rfl | rfl | rfl | rfl | rfl | rfl | rfl | rfl | rfl <;> rfl
  obtain ⟨hB3, hE3⟩ := Bl.BoxC.fresh (cs := Bl.cK 5 0 0 0 0 0) W1 33 Bl.zL rfl (fun q => by cases q)
  have Hst3 := Bl.hid (Bl.fresh_store (P := Tryd.prog) (cs := Bl.cK 5 0 0 0 0 0) W1 33 Bl.zL rfl hone (ty := 33) (by kernel_rfl))
  obtain ⟨W3, hW3⟩ : ∃ W3, W3 = (W1.alloc (.cells Bl.zL 33)).setCells W1.heap.size 0 (Bl.cK 5 0 0 0 0 0) := ⟨_, rfl⟩
  obtain ⟨Y, hY⟩ : ∃ Y, Y = W1.heap.size := ⟨_, rfl⟩
  rw [← hW3] at hB3 hE3
  rw [← hY] at hB3
  have HXY : Hid (X < Y ∧ w.heap.size < X) := Bl.hid ⟨by rw [hY]; exact HX1.out.lt, by omega⟩
  have HB3 := Bl.hid hB3
  have HC3 := Bl.hid (HC1.out.ext hE3)
  have HBR3 := Bl.hid (HBR1.out.ext hE3)
  have HZ3 : Hid (Bl.Kq (fun k => w.heap.size ≤ k) w W3) := Bl.hid (Bl.Kq.of_ext (HE1.out.trans hE3))
  have q30 := HB3.out.cell (i := 0) (v := .int .i64 5) rfl
  have h8i : ¬ ((8000 : Int) < (n : Int)) := by omega
  have hzi : ¬ ((n : Int) = 0) := by omega
  have hzn : ¬ (n = 0) := by omega
  have hpi : (0 : Int) < (n : Int) := by omega
  have Hn := Bl.hid hn1
  clear hR hel hc0 hn hn1 hR' hb hl hB3 hE3 hone hs0 HX1 HC1 HBR0 HE0 hgl
  go_enter Tryd.func25, Tryd.ntmps25
  go_wp2_with (with_reducible refine Bl.stop_load (ty := 5) ?_)
  refine Bl.go_on ?_
  rw [← hW1, ← hX]
  clear hW1 hX
  go_wp2_with (with_reducible refine Bl.stop_store (ty := 33) ?_)
  refine Bl.go_on ?_
  refine Bl.wpL_store0 rfl rfl Hst3.out ?_
  rw [← hW3, ← hY]
  clear hW3 hY Hst3 hcW HBR1 HE1
  go_wp2_with fail
  refine (out_any 5 1 7 W3).mono ?_
  rintro e w3' ⟨rfl, hw3⟩
  subst hw3
  rw [show Bl.wi 5 1 7 = true from by decide, Bool.not_true]
  clear q30
  go_wp2_with fail
  refine (HT0.out _ HC3.out).mono ?_
  rintro e w0a ⟨v0, rfl, hRd, hCu, hK⟩
  have HRd0 := Bl.hid hRd
  have HC0a := Bl.hid hCu
  have HB0a := Bl.hid (hK.box (by have := HXY.out; omega) HB3.out)
  have HZ0a : Hid (Bl.Kq (fun k => w.heap.size ≤ k) w w0a) := Bl.hid (HZ3.out.trans (hK.mono fun k _ q => by have := HXY.out; omega))
  have HBR0a := Bl.hid (hK.box (by have := HXY.out; omega) HBR3.out)
  clear hRd hCu hK HC3 HB3 HZ3 HBR3
  go_wp2_with fail
  refine (HM0.out _ _ HRd0.out).mono ?_
  rintro e w' ⟨rfl, hw'⟩
  rw [hw']
  clear hw' HRd0 HT0 HM0
  have qf := HB0a.out.cell (i := 1) (v := .int .i64 0) rfl
  have ff := HB0a.out.fz (i := 1) (show 1 < 9 by decide)
  have HB0b : Hid (Bl.BoxC (w0a.setCell ⟨Y, 1, none⟩ (.int .i64 i)) Y (Bl.cK 5 i 0 0 0 0)) := Bl.hid (HB0a.out.put (i := 1) (show 1 < 9 by decide) (.int .i64 i))
  have HK0 : Hid (Bl.Kq (fun k => k = Y) w0a (w0a.setCell ⟨Y, 1, none⟩ (.int .i64 i))) := Bl.hid ((Bl.Kq.refl w0a).setCell (Q := fun k => k = Y) ⟨Y, 1, none⟩ rfl _)
  go_wp2_with fail
  obtain ⟨w0b, hWb⟩ : ∃ W, W = w0a.setCell ⟨Y, 1, none⟩ (.int .i64 i) := ⟨_, rfl⟩
  rw [← hWb] at HB0b HK0 ⊢
  clear hWb qf ff
  have HC0b := Bl.hid (HC0a.out.kept HK0.out (fun j hj q => by have := HXY.out; omega))
  have HZ0b : Hid (Bl.Kq (fun k => w.heap.size ≤ k) w w0b) := Bl.hid (HZ0a.out.trans (HK0.out.mono fun k _ q => by have := HXY.out; omega))
  have HBR0b := Bl.hid (HK0.out.box (by have := HXY.out; omega) HBR0a.out)
  clear HC0a HZ0a HBR0a HB0a HK0
  refine (HT1.out _ HC0b.out).mono ?_
  rintro e w1a ⟨v1, rfl, hRd, hCu, hK⟩
  have HRd1 := Bl.hid hRd
  have HC1a := Bl.hid hCu
  have HB1a := Bl.hid (hK.box (by have := HXY.out; omega) HB0b.out)
  have HZ1a : Hid (Bl.Kq (fun k => w.heap.size ≤ k) w w1a) := Bl.hid (HZ0b.out.trans (hK.mono fun k _ q => by have := HXY.out; omega))
  have HBR1a := Bl.hid (hK.box (by have := HXY.out; omega) HBR0b.out)
  clear hRd hCu hK HC0b HB0b HZ0b HBR0b
  go_wp2_with fail
  refine (HM1.out _ _ HRd1.out).mono ?_
  rintro e w' ⟨rfl, hw'⟩
  rw [hw']
  clear hw' HRd1 HT1 HM1
  have qf := HB1a.out.cell (i := 2) (v := .int .i64 0) rfl
  have ff := HB1a.out.fz (i := 2) (show 2 < 9 by decide)
  have HB1b : Hid (Bl.BoxC (w1a.setCell ⟨Y, 2, none⟩ (.int .i64 oo)) Y (Bl.cK 5 i oo 0 0 0)) := Bl.hid (HB1a.out.put (i := 2) (show 2 < 9 by decide) (.int .i64 oo))
  have HK1 : Hid (Bl.Kq (fun k => k = Y) w1a (w1a.setCell ⟨Y, 2, none⟩ (.int .i64 oo))) := Bl.hid ((Bl.Kq.refl w1a).setCell (Q := fun k => k = Y) ⟨Y, 2, none⟩ rfl _)
  go_wp2_with (with_reducible refine Bl.stop_load (ty := 3) ?_)
  obtain ⟨w1b, hWb⟩ : ∃ W, W = w1a.setCell ⟨Y, 2, none⟩ (.int .i64 oo) := ⟨_, rfl⟩
  rw [← hWb] at HB1b HK1 ⊢
  clear hWb qf ff
  have HC1b := Bl.hid (HC1a.out.kept HK1.out (fun j hj q => by have := HXY.out; omega))
  have HZ1b : Hid (Bl.Kq (fun k => w.heap.size ≤ k) w w1b) := Bl.hid (HZ1a.out.trans (HK1.out.mono fun k _ q => by have := HXY.out; omega))
  have HBR1b := Bl.hid (HK1.out.box (by have := HXY.out; omega) HBR1a.out)
  clear HC1a HZ1a HBR1a HB1a HK1
  refine Bl.go_on ?_
  have qk := HB1b.out.cell (i := 0) (v := .int .i64 5) rfl
  go_wp2_with fail
  clear qk
  refine (HT2.out _ HC1b.out).mono ?_
  rintro e w2a ⟨v2, rfl, hRd, hCu, hK⟩
  have HRd2 := Bl.hid hRd
  have HC2a := Bl.hid hCu
  have HB2a := Bl.hid (hK.box (by have := HXY.out; omega) HB1b.out)
  have HZ2a : Hid (Bl.Kq (fun k => w.heap.size ≤ k) w w2a) := Bl.hid (HZ1b.out.trans (hK.mono fun k _ q => by have := HXY.out; omega))
  have HBR2a := Bl.hid (hK.box (by have := HXY.out; omega) HBR1b.out)
  clear hRd hCu hK HC1b HB1b HZ1b HBR1b
  go_wp2_with fail
  refine (HM2.out _ _ HRd2.out).mono ?_
  rintro e w' ⟨rfl, hw'⟩
  rw [hw']
  clear hw' HRd2 HT2 HM2
  have qf := HB2a.out.cell (i := 5) (v := .int .i64 0) rfl
  have ff := HB2a.out.fz (i := 5) (show 5 < 9 by decide)
  have HB2b : Hid (Bl.BoxC (w2a.setCell ⟨Y, 5, none⟩ (.int .i64 f)) Y (Bl.cK 5 i oo f 0 0)) := Bl.hid (HB2a.out.put (i := 5) (show 5 < 9 by decide) (.int .i64 f))
  have HK2 : Hid (Bl.Kq (fun k => k = Y) w2a (w2a.setCell ⟨Y, 5, none⟩ (.int .i64 f))) := Bl.hid ((Bl.Kq.refl w2a).setCell (Q := fun k => k = Y) ⟨Y, 5, none⟩ rfl _)
  go_wp2_with (with_reducible refine Bl.stop_load (ty := 3) ?_)
  obtain ⟨w2b, hWb⟩ : ∃ W, W = w2a.setCell ⟨Y, 5, none⟩ (.int .i64 f) := ⟨_, rfl⟩
  rw [← hWb] at HB2b HK2 ⊢
  clear hWb qf ff
  have HC2b := Bl.hid (HC2a.out.kept HK2.out (fun j hj q => by have := HXY.out; omega))
  have HZ2b : Hid (Bl.Kq (fun k => w.heap.size ≤ k) w w2b) := Bl.hid (HZ2a.out.trans (HK2.out.mono fun k _ q => by have := HXY.out; omega))
  have HBR2b := Bl.hid (HK2.out.box (by have := HXY.out; omega) HBR2a.out)
  clear HC2a HZ2a HBR2a HB2a HK2
  refine Bl.go_on ?_
  have qk := HB2b.out.cell (i := 0) (v := .int .i64 5) rfl
  go_wp2_with fail
  clear qk
  refine (HT3.out _ HC2b.out).mono ?_
  rintro e w3a ⟨v3, rfl, hRd, hCu, hK⟩
  have HRd3 := Bl.hid hRd
  have HC3a := Bl.hid hCu
  have HB3a := Bl.hid (hK.box (by have := HXY.out; omega) HB2b.out)
  have HZ3a : Hid (Bl.Kq (fun k => w.heap.size ≤ k) w w3a) := Bl.hid (HZ2b.out.trans (hK.mono fun k _ q => by have := HXY.out; omega))
  have HBR3a := Bl.hid (hK.box (by have := HXY.out; omega) HBR2b.out)
  clear hRd hCu hK HC2b HB2b HZ2b HBR2b
  go_wp2_with fail
  refine (HM3.out _ _ HRd3.out).mono ?_
  rintro e w' ⟨rfl, hw'⟩
  rw [hw']
  clear hw' HRd3 HT3 HM3
  have qf := HB3a.out.cell (i := 6) (v := .int .i64 0) rfl
  have ff := HB3a.out.fz (i := 6) (show 6 < 9 by decide)
  have HB3b : Hid (Bl.BoxC (w3a.setCell ⟨Y, 6, none⟩ (.int .i64 cc)) Y (Bl.cK 5 i oo f cc 0)) := Bl.hid (HB3a.out.put (i := 6) (show 6 < 9 by decide) (.int .i64 cc))
  have HK3 : Hid (Bl.Kq (fun k => k = Y) w3a (w3a.setCell ⟨Y, 6, none⟩ (.int .i64 cc))) := Bl.hid ((Bl.Kq.refl w3a).setCell (Q := fun k => k = Y) ⟨Y, 6, none⟩ rfl _)
  go_wp2_with (with_reducible refine Bl.stop_load (ty := 3) ?_)
  obtain ⟨w3b, hWb⟩ : ∃ W, W = w3a.setCell ⟨Y, 6, none⟩ (.int .i64 cc) := ⟨_, rfl⟩
  rw [← hWb] at HB3b HK3 ⊢
  clear hWb qf ff
  have HC3b := Bl.hid (HC3a.out.kept HK3.out (fun j hj q => by have := HXY.out; omega))
  have HZ3b : Hid (Bl.Kq (fun k => w.heap.size ≤ k) w w3b) := Bl.hid (HZ3a.out.trans (HK3.out.mono fun k _ q => by have := HXY.out; omega))
  have HBR3b := Bl.hid (HK3.out.box (by have := HXY.out; omega) HBR3a.out)
  clear HC3a HZ3a HBR3a HB3a HK3
  refine Bl.go_on ?_
  have qk := HB3b.out.cell (i := 0) (v := .int .i64 5) rfl
  have HL : Hid (Bl.LtY w3b Y Y ⟨5, i, oo, [], [], f, cc, [], 0⟩) := Bl.hid ⟨_, _, _, [], HB3b.out, Bl.LtF.nil _ _ _ _ _ _ _ _⟩
  clear HB3b
  obtain ⟨l, hl7⟩ : ∃ l, l = (⟨5, i, oo, [], [], f, cc, [], 0⟩ : Bl.LT) := ⟨_, rfl⟩
  rw [← hl7] at HL HPf
  clear hl7
  obtain ⟨pt, ct, at', bt, hxt, hbl, hat, hdr, _, _, _⟩ := HC3b.out.ex
  have qb := hxt.cell (i := 2) rfl
  have qa := hxt.cell (i := 1) rfl
  have Hnr : Hid (s4.2.length = n - at' ∧ at' ≤ n) := Bl.hid ⟨by rw [hdr, List.length_drop, hbl], hat⟩
  obtain ⟨sh, rest⟩ := s4
  simp only at qb Hnr
  clear hxt hbl hdr hat HC3b
  cases sh with
  | true =>
    have Hsp : Hid (pr = (2, Bl.lt0)) := Bl.hid (by rw [HPf.out]; rfl)
    clear HPf
    have Hstz := Bl.hid (HStz.out _ HBR3b.out)
    have HBR9 := Bl.hid (HBR3b.out.set (cs' := Bl.zL.toList) rfl)
    have HZ9 := Bl.hid (HZ3b.out.setCells (g := w.heap.size) (Nat.le_refl _) 0 Bl.zL.toList)
    go_wp2_with (with_reducible refine Bl.stop_store (ty := 33) ?_)
    refine Bl.go_on ?_
    refine Bl.wpL_store0 rfl rfl Hstz.out ?_
    go_wp2_with fail
    refine bodyPost_ret (v := .tuple #[.agg Bl.zL, .int .i64 2]) (Bl.results_cell2 rfl rfl (HBR9.out.loadVar (P := Tryd.prog) Tryd.underlying33 rfl (by kernel_rfl)) rfl) rfl ?_
    rw [Hsp.out]
    exact ⟨_, rfl, Bl.LtV.zero _, HZ9.out.ext fun k q => q⟩
  | false =>
    by_cases h0 : at' < n
    · have h0i : (at' : Int) < (n : Int) := by omega
      have Hsp : Hid (pr = (4, Bl.lt0)) := Bl.hid (by
        rw [HPf.out]; unfold Bl.finT; simp only [Bool.false_eq_true, if_false]; rw [if_pos (by have := Hnr.out.1; omega)])
      clear HPf
      have Hstz := Bl.hid (HStz.out _ HBR3b.out)
      have HBR9 := Bl.hid (HBR3b.out.set (cs' := Bl.zL.toList) rfl)
      have HZ9 := Bl.hid (HZ3b.out.setCells (g := w.heap.size) (Nat.le_refl _) 0 Bl.zL.toList)
      go_wp2_with (with_reducible refine Bl.stop_store (ty := 33) ?_)
      refine Bl.go_on ?_
      refine Bl.wpL_store0 rfl rfl Hstz.out ?_
      go_wp2_with fail
      refine bodyPost_ret (v := .tuple #[.agg Bl.zL, .int .i64 4]) (Bl.results_cell2 rfl rfl (HBR9.out.loadVar (P := Tryd.prog) Tryd.underlying33 rfl (by kernel_rfl)) rfl) rfl ?_
      rw [Hsp.out]
      exact ⟨_, rfl, Bl.LtV.zero _, HZ9.out.ext fun k q => q⟩
    · have h0i : ¬ ((at' : Int) < (n : Int)) := by omega
      have HPg : Hid (pr = if Bl.chkL l = 0 then (0, l) else (Bl.chkL l, Bl.lt0)) := Bl.hid (by
        rw [HPf.out]; unfold Bl.finT; simp only [Bool.false_eq_true, if_false]; rw [if_neg (by have := Hnr.out.1; omega)])
      obtain ⟨vp, vs, vb, L, hB7, hF7⟩ := HL.out
      have HLv : Hid (Bl.LtV _ (.agg (Bl.cL l vp vs vb).toArray) l) := Bl.hid ⟨_, vp, vs, vb, L, rfl, hF7.ltc⟩
      have HB7 := Bl.hid hB7
      have HF7 := Bl.hid hF7
      have Hone : Hid (∀ c ∈ Bl.cL l vp vs vb, c.oneCell' = true) := Bl.hid hF7.ltc.one
      have Hl7 := Bl.hid (hB7.load (P := Tryd.prog) Tryd.underlying33 rfl (by kernel_rfl))
      clear HPf h0 hB7 hF7 HL
      go_wp2_with (with_reducible refine Bl.stop_load (ty := 33) ?_)
      refine Bl.go_on ?_
      refine Bl.wpL_load rfl Hl7.out ?_
      go_wp2_with fail
      refine (rcheck_any _ l _ HLv.out).mono ?_
      rintro e w8 ⟨rfl, hE8⟩
      have HB8 := Bl.hid (HB7.out.ext hE8)
      have HBR8 := Bl.hid (HBR3b.out.ext hE8)
      have HZ8 : Hid (Bl.Kq (fun k => w.heap.size ≤ k) w w8) := Bl.hid (HZ3b.out.trans (Bl.Kq.of_ext hE8))
      have HF8 : Hid (Bl.LtF (fun k => Y ≤ k) w8 l vp vs vb L) := Bl.hid (HF7.out.kept fun k hk hlk => ⟨hk, hE8.block k hlk⟩)
      clear hE8 HB7 HBR3b HZ3b HF7 Hl7 HLv qb qa
      obtain ⟨K9, hK9⟩ : ∃ K9, K9 = Bl.chkL l := ⟨_, rfl⟩
      rw [← hK9] at HPg
      rw [← hK9]
      clear hK9
      by_cases hK0 : K9 = 0
      · subst hK0
        have Hsp : Hid (pr = (0, l)) := HPg
        have Hl8 := Bl.hid (HB8.out.load (P := Tryd.prog) Tryd.underlying33 rfl (by kernel_rfl))
        have Hst8 := Bl.hid (HBR8.out.store (P := Tryd.prog) (cs' := Bl.cL l vp vs vb) rfl Hone.out (ty := 33) (by kernel_rfl))
        have HBR9 := Bl.hid (HBR8.out.set (cs' := Bl.cL l vp vs vb) rfl)
        have HZ9 := Bl.hid (HZ8.out.setCells (g := w.heap.size) (Nat.le_refl _) 0 (Bl.cL l vp vs vb))
        have HK9 : Hid (Bl.Kq (fun k => k = w.heap.size) w8 (w8.setCells w.heap.size 0 (Bl.cL l vp vs vb))) := Bl.hid ((Bl.Kq.refl w8).setCells (Q := fun k => k = w.heap.size) rfl 0 _)
        clear HPg
        rw [show ((0 : Nat) : Int) = 0 from rfl]
        go_wp2_with (with_reducible refine Bl.stop_load (ty := 33) ?_)
        refine Bl.go_on ?_
        refine Bl.wpL_load rfl Hl8.out ?_
        go_wp2_with (with_reducible refine Bl.stop_store (ty := 33) ?_)
        refine Bl.go_on ?_
        refine Bl.wpL_store0 rfl rfl Hst8.out ?_
        go_wp2_with fail
        refine bodyPost_ret (v := .tuple #[.agg (Bl.cL l vp vs vb).toArray, .int .i64 0]) (Bl.results_cell2 rfl rfl (HBR9.out.loadVar (P := Tryd.prog) Tryd.underlying33 rfl (by kernel_rfl)) rfl) rfl ?_
        rw [Hsp.out]
        exact ⟨_, rfl, ⟨_, vp, vs, vb, L, rfl, (HF8.out.kept (F' := fun k => Y ≤ k) fun k hk hlk => ⟨hk, HK9.out.block k hlk (by have := HXY.out; omega)⟩).ltc⟩, HZ9.out.ext fun k q => q⟩
      · have Hsp : Hid (pr = (K9, Bl.lt0)) := Bl.hid (by rw [HPg.out, if_neg hK0])
        have Hstz := Bl.hid (HStz.out w8 HBR8.out)
        have HBR9 := Bl.hid (HBR8.out.set (cs' := Bl.zL.toList) rfl)
        have HZ9 := Bl.hid (HZ8.out.setCells (g := w.heap.size) (Nat.le_refl _) 0 Bl.zL.toList)
        have hK0i : ¬ ((K9 : Int) = 0) := by omega
        clear HPg
        go_wp2_with (with_reducible refine Bl.stop_store (ty := 33) ?_)
        refine Bl.go_on ?_
        refine Bl.wpL_store0 rfl rfl Hstz.out ?_
        go_wp2_with fail
        refine bodyPost_ret (v := .tuple #[.agg Bl.zL, .int .i64 (K9 : Nat)]) (Bl.results_cell2 rfl rfl (HBR9.out.loadVar (P := Tryd.prog) Tryd.underlying33 rfl (by kernel_rfl)) rfl) rfl ?_
        rw [Hsp.out]
        exact ⟨_, rfl, Bl.LtV.zero _, HZ9.out.ext fun k q => q⟩

set_option maxRecDepth 100000 in
set_option maxHeartbeats 8000000 in
theorem rparse7 (v : Value) (r : List Int) (w : World) (hR : Bl.Rd w .u8 v (7 :: r)) (hb : Bl.Byt r) (hl : r.length + 1 ≤ 8000) :
    Calls Tryd.prog 25 #[v] w fun e w' => Bl.ParD (Bl.finT (Bl.rsF 7 (Bl.numF 0 (Bl.tkF 8 (false, r)).1) (Bl.numF 0 (Bl.tkF 8 (Bl.tkF 8 (false, r)).2).1) (Bl.tkF 8 (Bl.tkF 8 (false, r)).2).2)) w e w' := by
  obtain ⟨g, o, c, hvf, hnc, hcm, hgl, _, hel⟩ := Bl.Rd.pos hR (by simp)
  have hc0 : w.cell? ⟨g, o, none⟩ = some (.int .u8 7) := hel 0 (by simp)
  obtain ⟨n, hn⟩ : ∃ n, n = ((7 : Int) :: r).length := ⟨_, rfl⟩
  have hn1 : n = r.length + 1 := by rw [hn]; rfl
  have hR' : Bl.Rds w v n (Bl.ints .u8 (7 :: r)) := by rw [hn]; exact hR
  rw [← hn] at hvf hnc
  subst hvf
  unfold maxLen at hcm
  obtain ⟨X, hX⟩ : ∃ X, X = w.heap.size + 1 := ⟨_, rfl⟩
  obtain ⟨pr, hpr⟩ : ∃ pr, pr = Bl.finT (Bl.rsF 7 (Bl.numF 0 (Bl.tkF 8 (false, r)).1) (Bl.numF 0 (Bl.tkF 8 (Bl.tkF 8 (false, r)).2).1) (Bl.tkF 8 (Bl.tkF 8 (false, r)).2).2) := ⟨_, rfl⟩
  rw [← hpr]
  have hb0 : Bl.Byt ((false, r) : Bl.Rst).2 := hb
  have HT0 : Hid (DTake n X 8 ((false, r) : Bl.Rst) (Bl.tkF 8 ((false, r) : Bl.Rst)).1 (Bl.tkF 8 ((false, r) : Bl.Rst)).2) := Bl.hid (ctake_all n X 8 ((false, r) : Bl.Rst) (by decide) (by decide))
  have HM0 : Hid (DNum (Bl.tkF 8 ((false, r) : Bl.Rst)).1 (Bl.numF 0 (Bl.tkF 8 ((false, r) : Bl.Rst)).1)) := Bl.hid (cnumb_all 8 ((false, r) : Bl.Rst) (by decide) hb0)
  have hb1 := (Bl.tkF_byt (n := 8) (s := ((false, r) : Bl.Rst)) hb0).2
  obtain ⟨i, hzi⟩ : ∃ z, z = Bl.numF 0 (Bl.tkF 8 ((false, r) : Bl.Rst)).1 := ⟨_, rfl⟩
  obtain ⟨s1, hss1⟩ : ∃ z, z = (Bl.tkF 8 ((false, r) : Bl.Rst)).2 := ⟨_, rfl⟩
  rw [← hzi, ← hss1] at hpr
  rw [← hzi] at HM0
  rw [← hss1] at HT0 hb1
  obtain ⟨y0, hy0⟩ : ∃ z, z = (Bl.tkF 8 ((false, r) : Bl.Rst)).1 := ⟨_, rfl⟩
  rw [← hy0] at HM0 HT0
  clear hzi hss1 hy0
  have HT1 : Hid (DTake n X 8 s1 (Bl.tkF 8 s1).1 (Bl.tkF 8 s1).2) := Bl.hid (ctake_all n X 8 s1 (by decide) (by decide))
  have HM1 : Hid (DNum (Bl.tkF 8 s1).1 (Bl.numF 0 (Bl.tkF 8 s1).1)) := Bl.hid (cnumb_all 8 s1 (by decide) hb1)
  have hb2 := (Bl.tkF_byt (n := 8) (s := s1) hb1).2
  obtain ⟨oo, hzoo⟩ : ∃ z, z = Bl.numF 0 (Bl.tkF 8 s1).1 := ⟨_, rfl⟩
  obtain ⟨s2, hss2⟩ : ∃ z, z = (Bl.tkF 8 s1).2 := ⟨_, rfl⟩
  rw [← hzoo, ← hss2] at hpr
  rw [← hzoo] at HM1
  rw [← hss2] at HT1 hb2
  obtain ⟨y1, hy1⟩ : ∃ z, z = (Bl.tkF 8 s1).1 := ⟨_, rfl⟩
  rw [← hy1] at HM1 HT1
  clear hzoo hss2 hy1
  replace hpr : pr = Bl.finT ((⟨7, i, oo, [], [], 0, 0, [], (Bl.nuF 1 s2).1⟩ : Bl.LT), (Bl.nuF 1 s2).2) := hpr
  have HT2 : Hid (DTake n X 1 s2 (Bl.tkF 1 s2).1 (Bl.tkF 1 s2).2) := Bl.hid (ctake_all n X 1 s2 (by decide) (by decide))
  have HM2 : Hid (DNum (Bl.tkF 1 s2).1 ((Bl.nuF 1 s2).1)) := Bl.hid (cnumb_one s2 hb2)
  have hb3 := (Bl.tkF_byt (n := 1) (s := s2) hb2).2
  have hz2 := Bl.nu1F_le (s := s2) hb2
  have hun2 : Bl.nuF 1 s2 = ((Bl.nuF 1 s2).1, (Bl.tkF 1 s2).2) := rfl
  obtain ⟨cd, hzcd⟩ : ∃ z, z = (Bl.nuF 1 s2).1 := ⟨_, rfl⟩
  obtain ⟨s3, hss3⟩ : ∃ z, z = (Bl.tkF 1 s2).2 := ⟨_, rfl⟩
  rw [← hzcd, ← hss3] at hun2
  rw [← hzcd] at hz2
  rw [hun2] at hpr
  clear hun2
  rw [← hzcd] at HM2
  rw [← hss3] at HT2 hb3
  obtain ⟨y2, hy2⟩ : ∃ z, z = (Bl.tkF 1 s2).1 := ⟨_, rfl⟩
  rw [← hy2] at HM2 HT2
  clear hzcd hss3 hy2
  have HPf := Bl.hid hpr
  clear hpr
  have HBR0 := Bl.hid (Bl.BoxC.box (cs := Bl.zL.toList) w 33 (fun q => by cases q))
  have HE0 := Bl.hid (Bl.ext_alloc w (.cells Bl.zL 33))
  have HStz : Hid (∀ w2, Bl.BoxC w2 w.heap.size Bl.zL.toList → (Instr.storeAt 33 (.pointer (some ⟨w.heap.size, 0, none⟩)) (.agg Bl.zL)).run Tryd.prog w2 = .ok () (w2.setCells w.heap.size 0 Bl.zL.toList)) := Bl.hid fun w2 h => h.store (P := Tryd.prog) (cs' := Bl.zL.toList) rfl (fun c hc => by
    simp only [List.mem_cons, List.not_mem_nil, or_false] at hc
    rcases hc with rfl | rfl | rfl | rfl | rfl | rfl | rfl | rfl | rfl <;> rfl) (ty := 33) (by kernel_rfl)
  have hs0 : (w.alloc (.cells Bl.zL 33)).heap.size = w.heap.size + 1 := World.size_alloc _ _
  obtain ⟨W1, hW1⟩ : ∃ W1, W1 = (w.alloc (.cells Bl.zL 33)).alloc (.cells #[.slice (some ⟨g, o, none⟩) n c, .int .i64 1, .bool false] 100) := ⟨_, rfl⟩
  have HBR1 : Hid (Bl.BoxC W1 w.heap.size Bl.zL.toList) := Bl.hid (by rw [hW1]; exact HBR0.out.ext (Bl.ext_alloc _ _))
  have HE1 : Hid (Bl.Ext w W1) := Bl.hid (by rw [hW1]; exact HE0.out.trans (Bl.ext_alloc _ _))
  have HX1 : Hid (Bl.BoxC W1 X [.slice (some ⟨g, o, none⟩) n c, .int .i64 1, .bool false]) := Bl.hid (by
    have h := Bl.BoxC.box (cs := [.slice (some ⟨g, o, none⟩) n c, .int .i64 1, .bool false]) (w.alloc (.cells Bl.zL 33)) 100 (fun q => by cases q)
    rw [hs0, ← hX] at h
    rw [hW1]; exact h)
  have HC1 : Hid (Bl.Cur n W1 X (false, r)) := Bl.hid ⟨⟨some ⟨g, o, none⟩, c, 1, 7 :: r, HX1.out, hn.symm, by omega, rfl, (Bl.RdsF.of_rds (F := fun k => k < w.heap.size) hR' (fun _ _ h => h)).kept fun k hk hlk => ⟨by omega, HE1.out.block k hk⟩, hnc, by unfold maxLen; exact hcm⟩, hb, by omega⟩
  have hcW : W1.cell? ⟨g, o, none⟩ = some (.int .u8 7) := ((Bl.bcell HE1.out).1 _ _ (World.block_lt_of_cell? _ _ hc0)).trans hc0
  have hone : ∀ c ∈ Bl.cK 7 0 0 0 0 0, c.oneCell' = true := fun c hc => by
    simp only [Bl.cK, List.mem_cons, List.not_mem_nil, or_false] at hc
    rcases hc with rfl | rfl | rfl | rfl | rfl | rfl | rfl | rfl | rfl <;> rfl
  obtain ⟨hB3, hE3⟩ := Bl.BoxC.fresh (cs := Bl.cK 7 0 0 0 0 0) W1 33 Bl.zL rfl (fun q => by cases q)
  have Hst3 := Bl.hid (Bl.fresh_store (P := Tryd.prog) (cs := Bl.cK 7 0 0 0 0 0) W1 33 Bl.zL rfl hone (ty := 33) (by kernel_rfl))
  obtain ⟨W3, hW3⟩ : ∃ W3, W3 = (W1.alloc (.cells Bl.zL 33)).setCells W1.heap.size 0 (Bl.cK 7 0 0 0 0 0) := ⟨_, rfl⟩
  obtain ⟨Y, hY⟩ : ∃ Y, Y = W1.heap.size := ⟨_, rfl⟩
  rw [← hW3] at hB3 hE3
  rw [← hY] at hB3
  have HXY : Hid (X < Y ∧ w.heap.size < X) := Bl.hid ⟨by rw [hY]; exact HX1.out.lt, by omega⟩
  have HB3 := Bl.hid hB3
  have HC3 := Bl.hid (HC1.out.ext hE3)
  have HBR3 := Bl.hid (HBR1.out.ext hE3)
  have HZ3 : Hid (Bl.Kq (fun k => w.heap.size ≤ k) w W3) := Bl.hid (Bl.Kq.of_ext (HE1.out.trans hE3))
  have q30 := HB3.out.cell (i := 0) (v := .int .i64 7) rfl
  have h8i : ¬ ((8000 : Int) < (n : Int)) := by omega
  have hzi : ¬ ((n : Int) = 0) := by omega
  have hzn : ¬ (n = 0) := by omega
  have hpi : (0 : Int) < (n : Int) := by omega
  have Hn := Bl.hid hn1
  clear hR hel hc0 hn hn1 hR' hb hl hB3 hE3 hone hs0 HX1 HC1 HBR0 HE0 hgl
  go_enter Tryd.func25, Tryd.ntmps25
  go_wp2_with (with_reducible refine Bl.stop_load (ty := 5) ?_)
  refine Bl.go_on ?_
  rw [← hW1, ← hX]
  clear hW1 hX
  go_wp2_with (with_reducible refine Bl.stop_store (ty := 33) ?_)
  refine Bl.go_on ?_
  refine Bl.wpL_store0 rfl rfl Hst3.out ?_
  rw [← hW3, ← hY]
  clear hW3 hY Hst3 hcW HBR1 HE1
  go_wp2_with fail
  refine (out_any 7 1 7 W3).mono ?_
  rintro e w3' ⟨rfl, hw3⟩
  subst hw3
  rw [show Bl.wi 7 1 7 = true from by decide, Bool.not_true]
  clear q30
  go_wp2_with fail
  refine (HT0.out _ HC3.out).mono ?_
  rintro e w0a ⟨v0, rfl, hRd, hCu, hK⟩
  have HRd0 := Bl.hid hRd
  have HC0a := Bl.hid hCu
  have HB0a := Bl.hid (hK.box (by have := HXY.out; omega) HB3.out)
  have HZ0a : Hid (Bl.Kq (fun k => w.heap.size ≤ k) w w0a) := Bl.hid (HZ3.out.trans (hK.mono fun k _ q => by have := HXY.out; omega))
  have HBR0a := Bl.hid (hK.box (by have := HXY.out; omega) HBR3.out)
  clear hRd hCu hK HC3 HB3 HZ3 HBR3
  go_wp2_with fail
  refine (HM0.out _ _ HRd0.out).mono ?_
  rintro e w' ⟨rfl, hw'⟩
  rw [hw']
  clear hw' HRd0 HT0 HM0
  have qf := HB0a.out.cell (i := 1) (v := .int .i64 0) rfl
  have ff := HB0a.out.fz (i := 1) (show 1 < 9 by decide)
  have HB0b : Hid (Bl.BoxC (w0a.setCell ⟨Y, 1, none⟩ (.int .i64 i)) Y (Bl.cK 7 i 0 0 0 0)) := Bl.hid (HB0a.out.put (i := 1) (show 1 < 9 by decide) (.int .i64 i))
  have HK0 : Hid (Bl.Kq (fun k => k = Y) w0a (w0a.setCell ⟨Y, 1, none⟩ (.int .i64 i))) := Bl.hid ((Bl.Kq.refl w0a).setCell (Q := fun k => k = Y) ⟨Y, 1, none⟩ rfl _)
  go_wp2_with fail
  obtain ⟨w0b, hWb⟩ : ∃ W, W = w0a.setCell ⟨Y, 1, none⟩ (.int .i64 i) := ⟨_, rfl⟩
  rw [← hWb] at HB0b HK0 ⊢
  clear hWb qf ff
  have HC0b := Bl.hid (HC0a.out.kept HK0.out (fun j hj q => by have := HXY.out; omega))
  have HZ0b : Hid (Bl.Kq (fun k => w.heap.size ≤ k) w w0b) := Bl.hid (HZ0a.out.trans (HK0.out.mono fun k _ q => by have := HXY.out; omega))
  have HBR0b := Bl.hid (HK0.out.box (by have := HXY.out; omega) HBR0a.out)
  clear HC0a HZ0a HBR0a HB0a HK0
  refine (HT1.out _ HC0b.out).mono ?_
  rintro e w1a ⟨v1, rfl, hRd, hCu, hK⟩
  have HRd1 := Bl.hid hRd
  have HC1a := Bl.hid hCu
  have HB1a := Bl.hid (hK.box (by have := HXY.out; omega) HB0b.out)
  have HZ1a : Hid (Bl.Kq (fun k => w.heap.size ≤ k) w w1a) := Bl.hid (HZ0b.out.trans (hK.mono fun k _ q => by have := HXY.out; omega))
  have HBR1a := Bl.hid (hK.box (by have := HXY.out; omega) HBR0b.out)
  clear hRd hCu hK HC0b HB0b HZ0b HBR0b
  go_wp2_with fail
  refine (HM1.out _ _ HRd1.out).mono ?_
  rintro e w' ⟨rfl, hw'⟩
  rw [hw']
  clear hw' HRd1 HT1 HM1
  have qf := HB1a.out.cell (i := 2) (v := .int .i64 0) rfl
  have ff := HB1a.out.fz (i := 2) (show 2 < 9 by decide)
  have HB1b : Hid (Bl.BoxC (w1a.setCell ⟨Y, 2, none⟩ (.int .i64 oo)) Y (Bl.cK 7 i oo 0 0 0)) := Bl.hid (HB1a.out.put (i := 2) (show 2 < 9 by decide) (.int .i64 oo))
  have HK1 : Hid (Bl.Kq (fun k => k = Y) w1a (w1a.setCell ⟨Y, 2, none⟩ (.int .i64 oo))) := Bl.hid ((Bl.Kq.refl w1a).setCell (Q := fun k => k = Y) ⟨Y, 2, none⟩ rfl _)
  go_wp2_with (with_reducible refine Bl.stop_load (ty := 3) ?_)
  obtain ⟨w1b, hWb⟩ : ∃ W, W = w1a.setCell ⟨Y, 2, none⟩ (.int .i64 oo) := ⟨_, rfl⟩
  rw [← hWb] at HB1b HK1 ⊢
  clear hWb qf ff
  have HC1b := Bl.hid (HC1a.out.kept HK1.out (fun j hj q => by have := HXY.out; omega))
  have HZ1b : Hid (Bl.Kq (fun k => w.heap.size ≤ k) w w1b) := Bl.hid (HZ1a.out.trans (HK1.out.mono fun k _ q => by have := HXY.out; omega))
  have HBR1b := Bl.hid (HK1.out.box (by have := HXY.out; omega) HBR1a.out)
  clear HC1a HZ1a HBR1a HB1a HK1
  refine Bl.go_on ?_
  have qk := HB1b.out.cell (i := 0) (v := .int .i64 7) rfl
  go_wp2_with fail
  clear qk
  refine (HT2.out _ HC1b.out).mono ?_
  rintro e w2a ⟨v2, rfl, hRd, hCu, hK⟩
  have HRd2 := Bl.hid hRd
  have HC2a := Bl.hid hCu
  have HB2a := Bl.hid (hK.box (by have := HXY.out; omega) HB1b.out)
  have HZ2a : Hid (Bl.Kq (fun k => w.heap.size ≤ k) w w2a) := Bl.hid (HZ1b.out.trans (hK.mono fun k _ q => by have := HXY.out; omega))
  have HBR2a := Bl.hid (hK.box (by have := HXY.out; omega) HBR1b.out)
  clear hRd hCu hK HC1b HB1b HZ1b HBR1b
  go_wp2_with fail
  refine (HM2.out _ _ HRd2.out).mono ?_
  rintro e w' ⟨rfl, hw'⟩
  rw [hw']
  clear hw' HRd2 HT2 HM2
  have qf := HB2a.out.cell (i := 8) (v := .int .i64 0) rfl
  have ff := HB2a.out.fz (i := 8) (show 8 < 9 by decide)
  have HB2b : Hid (Bl.BoxC (w2a.setCell ⟨Y, 8, none⟩ (.int .i64 cd)) Y (Bl.cK 7 i oo 0 0 cd)) := Bl.hid (HB2a.out.put (i := 8) (show 8 < 9 by decide) (.int .i64 cd))
  have HK2 : Hid (Bl.Kq (fun k => k = Y) w2a (w2a.setCell ⟨Y, 8, none⟩ (.int .i64 cd))) := Bl.hid ((Bl.Kq.refl w2a).setCell (Q := fun k => k = Y) ⟨Y, 8, none⟩ rfl _)
  go_wp2_with (with_reducible refine Bl.stop_load (ty := 4) ?_)
  obtain ⟨w2b, hWb⟩ : ∃ W, W = w2a.setCell ⟨Y, 8, none⟩ (.int .i64 cd) := ⟨_, rfl⟩
  rw [← hWb] at HB2b HK2 ⊢
  clear hWb qf ff
  have HC2b := Bl.hid (HC2a.out.kept HK2.out (fun j hj q => by have := HXY.out; omega))
  have HZ2b : Hid (Bl.Kq (fun k => w.heap.size ≤ k) w w2b) := Bl.hid (HZ2a.out.trans (HK2.out.mono fun k _ q => by have := HXY.out; omega))
  have HBR2b := Bl.hid (HK2.out.box (by have := HXY.out; omega) HBR2a.out)
  clear HC2a HZ2a HBR2a HB2a HK2
  refine Bl.go_on ?_
  have qk := HB2b.out.cell (i := 0) (v := .int .i64 7) rfl
  have HL : Hid (Bl.LtY w2b Y Y ⟨7, i, oo, [], [], 0, 0, [], cd⟩) := Bl.hid ⟨_, _, _, [], HB2b.out, Bl.LtF.nil _ _ _ _ _ _ _ _⟩
  clear HB2b
  obtain ⟨l, hl7⟩ : ∃ l, l = (⟨7, i, oo, [], [], 0, 0, [], cd⟩ : Bl.LT) := ⟨_, rfl⟩
  rw [← hl7] at HL HPf
  clear hl7
  obtain ⟨pt, ct, at', bt, hxt, hbl, hat, hdr, _, _, _⟩ := HC2b.out.ex
  have qb := hxt.cell (i := 2) rfl
  have qa := hxt.cell (i := 1) rfl
  have Hnr : Hid (s3.2.length = n - at' ∧ at' ≤ n) := Bl.hid ⟨by rw [hdr, List.length_drop, hbl], hat⟩
  obtain ⟨sh, rest⟩ := s3
  simp only at qb Hnr
  clear hxt hbl hdr hat HC2b
  cases sh with
  | true =>
    have Hsp : Hid (pr = (2, Bl.lt0)) := Bl.hid (by rw [HPf.out]; rfl)
    clear HPf
    have Hstz := Bl.hid (HStz.out _ HBR2b.out)
    have HBR9 := Bl.hid (HBR2b.out.set (cs' := Bl.zL.toList) rfl)
    have HZ9 := Bl.hid (HZ2b.out.setCells (g := w.heap.size) (Nat.le_refl _) 0 Bl.zL.toList)
    go_wp2_with (with_reducible refine Bl.stop_store (ty := 33) ?_)
    refine Bl.go_on ?_
    refine Bl.wpL_store0 rfl rfl Hstz.out ?_
    go_wp2_with fail
    refine bodyPost_ret (v := .tuple #[.agg Bl.zL, .int .i64 2]) (Bl.results_cell2 rfl rfl (HBR9.out.loadVar (P := Tryd.prog) Tryd.underlying33 rfl (by kernel_rfl)) rfl) rfl ?_
    rw [Hsp.out]
    exact ⟨_, rfl, Bl.LtV.zero _, HZ9.out.ext fun k q => q⟩
  | false =>
    by_cases h0 : at' < n
    · have h0i : (at' : Int) < (n : Int) := by omega
      have Hsp : Hid (pr = (4, Bl.lt0)) := Bl.hid (by
        rw [HPf.out]; unfold Bl.finT; simp only [Bool.false_eq_true, if_false]; rw [if_pos (by have := Hnr.out.1; omega)])
      clear HPf
      have Hstz := Bl.hid (HStz.out _ HBR2b.out)
      have HBR9 := Bl.hid (HBR2b.out.set (cs' := Bl.zL.toList) rfl)
      have HZ9 := Bl.hid (HZ2b.out.setCells (g := w.heap.size) (Nat.le_refl _) 0 Bl.zL.toList)
      go_wp2_with (with_reducible refine Bl.stop_store (ty := 33) ?_)
      refine Bl.go_on ?_
      refine Bl.wpL_store0 rfl rfl Hstz.out ?_
      go_wp2_with fail
      refine bodyPost_ret (v := .tuple #[.agg Bl.zL, .int .i64 4]) (Bl.results_cell2 rfl rfl (HBR9.out.loadVar (P := Tryd.prog) Tryd.underlying33 rfl (by kernel_rfl)) rfl) rfl ?_
      rw [Hsp.out]
      exact ⟨_, rfl, Bl.LtV.zero _, HZ9.out.ext fun k q => q⟩
    · have h0i : ¬ ((at' : Int) < (n : Int)) := by omega
      have HPg : Hid (pr = if Bl.chkL l = 0 then (0, l) else (Bl.chkL l, Bl.lt0)) := Bl.hid (by
        rw [HPf.out]; unfold Bl.finT; simp only [Bool.false_eq_true, if_false]; rw [if_neg (by have := Hnr.out.1; omega)])
      obtain ⟨vp, vs, vb, L, hB7, hF7⟩ := HL.out
      have HLv : Hid (Bl.LtV _ (.agg (Bl.cL l vp vs vb).toArray) l) := Bl.hid ⟨_, vp, vs, vb, L, rfl, hF7.ltc⟩
      have HB7 := Bl.hid hB7
      have HF7 := Bl.hid hF7
      have Hone : Hid (∀ c ∈ Bl.cL l vp vs vb, c.oneCell' = true) := Bl.hid hF7.ltc.one
      have Hl7 := Bl.hid (hB7.load (P := Tryd.prog) Tryd.underlying33 rfl (by kernel_rfl))
      clear HPf h0 hB7 hF7 HL
      go_wp2_with (with_reducible refine Bl.stop_load (ty := 33) ?_)
      refine Bl.go_on ?_
      refine Bl.wpL_load rfl Hl7.out ?_
      go_wp2_with fail
      refine (rcheck_any _ l _ HLv.out).mono ?_
      rintro e w8 ⟨rfl, hE8⟩
      have HB8 := Bl.hid (HB7.out.ext hE8)
      have HBR8 := Bl.hid (HBR2b.out.ext hE8)
      have HZ8 : Hid (Bl.Kq (fun k => w.heap.size ≤ k) w w8) := Bl.hid (HZ2b.out.trans (Bl.Kq.of_ext hE8))
      have HF8 : Hid (Bl.LtF (fun k => Y ≤ k) w8 l vp vs vb L) := Bl.hid (HF7.out.kept fun k hk hlk => ⟨hk, hE8.block k hlk⟩)
      clear hE8 HB7 HBR2b HZ2b HF7 Hl7 HLv qb qa
      obtain ⟨K9, hK9⟩ : ∃ K9, K9 = Bl.chkL l := ⟨_, rfl⟩
      rw [← hK9] at HPg
      rw [← hK9]
      clear hK9
      by_cases hK0 : K9 = 0
      · subst hK0
        have Hsp : Hid (pr = (0, l)) := HPg
        have Hl8 := Bl.hid (HB8.out.load (P := Tryd.prog) Tryd.underlying33 rfl (by kernel_rfl))
        have Hst8 := Bl.hid (HBR8.out.store (P := Tryd.prog) (cs' := Bl.cL l vp vs vb) rfl Hone.out (ty := 33) (by kernel_rfl))
        have HBR9 := Bl.hid (HBR8.out.set (cs' := Bl.cL l vp vs vb) rfl)
        have HZ9 := Bl.hid (HZ8.out.setCells (g := w.heap.size) (Nat.le_refl _) 0 (Bl.cL l vp vs vb))
        have HK9 : Hid (Bl.Kq (fun k => k = w.heap.size) w8 (w8.setCells w.heap.size 0 (Bl.cL l vp vs vb))) := Bl.hid ((Bl.Kq.refl w8).setCells (Q := fun k => k = w.heap.size) rfl 0 _)
        clear HPg
        rw [show ((0 : Nat) : Int) = 0 from rfl]
        go_wp2_with (with_reducible refine Bl.stop_load (ty := 33) ?_)
        refine Bl.go_on ?_
        refine Bl.wpL_load rfl Hl8.out ?_
        go_wp2_with (with_reducible refine Bl.stop_store (ty := 33) ?_)
        refine Bl.go_on ?_
        refine Bl.wpL_store0 rfl rfl Hst8.out ?_
        go_wp2_with fail
        refine bodyPost_ret (v := .tuple #[.agg (Bl.cL l vp vs vb).toArray, .int .i64 0]) (Bl.results_cell2 rfl rfl (HBR9.out.loadVar (P := Tryd.prog) Tryd.underlying33 rfl (by kernel_rfl)) rfl) rfl ?_
        rw [Hsp.out]
        exact ⟨_, rfl, ⟨_, vp, vs, vb, L, rfl, (HF8.out.kept (F' := fun k => Y ≤ k) fun k hk hlk => ⟨hk, HK9.out.block k hlk (by have := HXY.out; omega)⟩).ltc⟩, HZ9.out.ext fun k q => q⟩
      · have Hsp : Hid (pr = (K9, Bl.lt0)) := Bl.hid (by rw [HPg.out, if_neg hK0])
        have Hstz := Bl.hid (HStz.out w8 HBR8.out)
        have HBR9 := Bl.hid (HBR8.out.set (cs' := Bl.zL.toList) rfl)
        have HZ9 := Bl.hid (HZ8.out.setCells (g := w.heap.size) (Nat.le_refl _) 0 Bl.zL.toList)
        have hK0i : ¬ ((K9 : Int) = 0) := by omega
        clear HPg
        go_wp2_with (with_reducible refine Bl.stop_store (ty := 33) ?_)
        refine Bl.go_on ?_
        refine Bl.wpL_store0 rfl rfl Hstz.out ?_
        go_wp2_with fail
        refine bodyPost_ret (v := .tuple #[.agg Bl.zL, .int .i64 (K9 : Nat)]) (Bl.results_cell2 rfl rfl (HBR9.out.loadVar (P := Tryd.prog) Tryd.underlying33 rfl (by kernel_rfl)) rfl) rfl ?_
        rw [Hsp.out]
        exact ⟨_, rfl, Bl.LtV.zero _, HZ9.out.ext fun k q => q⟩
end Go.Proofs.YtmmolapkddbibaaDoor

/- Walk of baileeref22.Parse, letters of kind 6. -/
namespace Go.Proofs.YtmmolapkddbibaaDoor
open Go Go.RowKit Go.Proofs

set_option maxRecDepth 100000 in
set_option maxHeartbeats 8000000 in
theorem rparse6 (v : Value) (r : List Int) (w : World) (hR : Bl.Rd w .u8 v (6 :: r)) (hb : Bl.Byt r) (hl : r.length + 1 ≤ 8000) :
    Calls Tryd.prog 25 #[v] w fun e w' => Bl.ParD (Bl.finT (Bl.rsF 6 (Bl.numF 0 (Bl.tkF 8 (false, r)).1) (Bl.numF 0 (Bl.tkF 8 (Bl.tkF 8 (false, r)).2).1) (Bl.tkF 8 (Bl.tkF 8 (false, r)).2).2)) w e w' := by
  obtain ⟨g, o, c, hvf, hnc, hcm, hgl, _, hel⟩ := Bl.Rd.pos hR (by simp)
  have hc0 : w.cell? ⟨g, o, none⟩ = some (.int .u8 6) := hel 0 (by simp)
  obtain ⟨n, hn⟩ : ∃ n, n = ((6 : Int) :: r).length := ⟨_, rfl⟩
  have hn1 : n = r.length + 1 := by rw [hn]; rfl
  have hR' : Bl.Rds w v n (Bl.ints .u8 (6 :: r)) := by rw [hn]; exact hR
  rw [← hn] at hvf hnc
  subst hvf
  unfold maxLen at hcm
  obtain ⟨X, hX⟩ : ∃ X, X = w.heap.size + 1 := ⟨_, rfl⟩
  obtain ⟨pr, hpr⟩ : ∃ pr, pr = Bl.finT (Bl.rsF 6 (Bl.numF 0 (Bl.tkF 8 (false, r)).1) (Bl.numF 0 (Bl.tkF 8 (Bl.tkF 8 (false, r)).2).1) (Bl.tkF 8 (Bl.tkF 8 (false, r)).2).2) := ⟨_, rfl⟩
  rw [← hpr]
  have hb0 : Bl.Byt ((false, r) : Bl.Rst).2 := hb
  have HT0 : Hid (DTake n X 8 ((false, r) : Bl.Rst) (Bl.tkF 8 ((false, r) : Bl.Rst)).1 (Bl.tkF 8 ((false, r) : Bl.Rst)).2) := Bl.hid (ctake_all n X 8 ((false, r) : Bl.Rst) (by decide) (by decide))
  have HM0 : Hid (DNum (Bl.tkF 8 ((false, r) : Bl.Rst)).1 (Bl.numF 0 (Bl.tkF 8 ((false, r) : Bl.Rst)).1)) := Bl.hid (cnumb_all 8 ((false, r) : Bl.Rst) (by decide) hb0)
  have hb1 := (Bl.tkF_byt (n := 8) (s := ((false, r) : Bl.Rst)) hb0).2
  obtain ⟨i, hzi⟩ : ∃ z, z = Bl.numF 0 (Bl.tkF 8 ((false, r) : Bl.Rst)).1 := ⟨_, rfl⟩
  obtain ⟨s1, hss1⟩ : ∃ z, z = (Bl.tkF 8 ((false, r) : Bl.Rst)).2 := ⟨_, rfl⟩
  rw [← hzi, ← hss1] at hpr
  rw [← hzi] at HM0
  rw [← hss1] at HT0 hb1
  obtain ⟨y0, hy0⟩ : ∃ z, z = (Bl.tkF 8 ((false, r) : Bl.Rst)).1 := ⟨_, rfl⟩
  rw [← hy0] at HM0 HT0
  clear hzi hss1 hy0
  have HT1 : Hid (DTake n X 8 s1 (Bl.tkF 8 s1).1 (Bl.tkF 8 s1).2) := Bl.hid (ctake_all n X 8 s1 (by decide) (by decide))
  have HM1 : Hid (DNum (Bl.tkF 8 s1).1 (Bl.numF 0 (Bl.tkF 8 s1).1)) := Bl.hid (cnumb_all 8 s1 (by decide) hb1)
  have hb2 := (Bl.tkF_byt (n := 8) (s := s1) hb1).2
  obtain ⟨oo, hzoo⟩ : ∃ z, z = Bl.numF 0 (Bl.tkF 8 s1).1 := ⟨_, rfl⟩
  obtain ⟨s2, hss2⟩ : ∃ z, z = (Bl.tkF 8 s1).2 := ⟨_, rfl⟩
  rw [← hzoo, ← hss2] at hpr
  rw [← hzoo] at HM1
  rw [← hss2] at HT1 hb2
  obtain ⟨y1, hy1⟩ : ∃ z, z = (Bl.tkF 8 s1).1 := ⟨_, rfl⟩
  rw [← hy1] at HM1 HT1
  clear hzoo hss2 hy1
  replace hpr : pr = Bl.finT ((⟨6, i, oo, [], [], (Bl.nuF 2 s2).1, 0, (Bl.eaT Bl.blF (Bl.nuF 2 (Bl.nuF 2 s2).2).1.toNat (Bl.nuF 2 (Bl.nuF 2 s2).2).2).1, 0⟩ : Bl.LT), (Bl.eaT Bl.blF (Bl.nuF 2 (Bl.nuF 2 s2).2).1.toNat (Bl.nuF 2 (Bl.nuF 2 s2).2).2).2) := hpr
  have HT2 : Hid (DTake n X 2 s2 (Bl.tkF 2 s2).1 (Bl.tkF 2 s2).2) := Bl.hid (ctake_all n X 2 s2 (by decide) (by decide))
  have HM2 : Hid (DNum (Bl.tkF 2 s2).1 ((Bl.nuF 2 s2).1)) := Bl.hid (cnumb_two s2 hb2)
  have hb3 := (Bl.tkF_byt (n := 2) (s := s2) hb2).2
  have hz2 := Bl.nu2F_le (s := s2) hb2
  have hun2 : Bl.nuF 2 s2 = ((Bl.nuF 2 s2).1, (Bl.tkF 2 s2).2) := rfl
  obtain ⟨f, hzf⟩ : ∃ z, z = (Bl.nuF 2 s2).1 := ⟨_, rfl⟩
  obtain ⟨s3, hss3⟩ : ∃ z, z = (Bl.tkF 2 s2).2 := ⟨_, rfl⟩
  rw [← hzf, ← hss3] at hun2
  rw [← hzf] at hz2
  rw [hun2] at hpr
  clear hun2
  rw [← hzf] at HM2
  rw [← hss3] at HT2 hb3
  obtain ⟨y2, hy2⟩ : ∃ z, z = (Bl.tkF 2 s2).1 := ⟨_, rfl⟩
  rw [← hy2] at HM2 HT2
  clear hzf hss3 hy2
  have HT3 : Hid (DTake n X 2 s3 (Bl.tkF 2 s3).1 (Bl.tkF 2 s3).2) := Bl.hid (ctake_all n X 2 s3 (by decide) (by decide))
  have HM3 : Hid (DNum (Bl.tkF 2 s3).1 ((Bl.nuF 2 s3).1)) := Bl.hid (cnumb_two s3 hb3)
  have hb4 := (Bl.tkF_byt (n := 2) (s := s3) hb3).2
  have hz3 := Bl.nu2F_le (s := s3) hb3
  have hun3 : Bl.nuF 2 s3 = ((Bl.nuF 2 s3).1, (Bl.tkF 2 s3).2) := rfl
  obtain ⟨cI, hzcI⟩ : ∃ z, z = (Bl.nuF 2 s3).1 := ⟨_, rfl⟩
  obtain ⟨s4, hss4⟩ : ∃ z, z = (Bl.tkF 2 s3).2 := ⟨_, rfl⟩
  rw [← hzcI, ← hss4] at hun3
  rw [← hzcI] at hz3
  rw [hun3] at hpr
  clear hun3
  rw [← hzcI] at HM3
  rw [← hss4] at HT3 hb4
  obtain ⟨y3, hy3⟩ : ∃ z, z = (Bl.tkF 2 s3).1 := ⟨_, rfl⟩
  rw [← hy3] at HM3 HT3
  clear hzcI hss4 hy3
  obtain ⟨cn, rfl⟩ := Int.eq_ofNat_of_zero_le hz3.1
  have Hcn : Hid (cn ≤ 65535) := Bl.hid (by have := hz3.2; omega)
  simp only [Int.toNat_natCast] at hpr
  obtain ⟨bs, hbs⟩ : ∃ z, z = (Bl.eaT Bl.blF cn s4).1 := ⟨_, rfl⟩
  obtain ⟨t4, ht4⟩ : ∃ z, z = (Bl.eaT Bl.blF cn s4).2 := ⟨_, rfl⟩
  rw [← hbs, ← ht4] at hpr
  have Hbs := Bl.hid (And.intro hbs.symm ht4.symm)
  clear hbs ht4
  have HPf := Bl.hid hpr
  clear hpr
  have HBR0 := Bl.hid (Bl.BoxC.box (cs := Bl.zL.toList) w 33 (fun q => by cases q))
  have HE0 := Bl.hid (Bl.ext_alloc w (.cells Bl.zL 33))
  have HStz : Hid (∀ w2, Bl.BoxC w2 w.heap.size Bl.zL.toList → (Instr.storeAt 33 (.pointer (some ⟨w.heap.size, 0, none⟩)) (.agg Bl.zL)).run Tryd.prog w2 = .ok () (w2.setCells w.heap.size 0 Bl.zL.toList)) := Bl.hid fun w2 h => h.store (P := Tryd.prog) (cs' := Bl.zL.toList) rfl (fun c hc => by
    simp only [List.mem_cons, List.not_mem_nil, or_false] at hc
    rcases hc with rfl | rfl | rfl | rfl | rfl | rfl | rfl | rfl | rfl <;> rfl) (ty := 33) (by kernel_rfl)
  have hs0 : (w.alloc (.cells Bl.zL 33)).heap.size = w.heap.size + 1 := World.size_alloc _ _
  obtain ⟨W1, hW1⟩ : ∃ W1, W1 = (w.alloc (.cells Bl.zL 33)).alloc (.cells #[.slice (some ⟨g, o, none⟩) n c, .int .i64 1, .bool false] 100) := ⟨_, rfl⟩
  have HBR1 : Hid (Bl.BoxC W1 w.heap.size Bl.zL.toList) := Bl.hid (by rw [hW1]; exact HBR0.out.ext (Bl.ext_alloc _ _))
  have HE1 : Hid (Bl.Ext w W1) := Bl.hid (by rw [hW1]; exact HE0.out.trans (Bl.ext_alloc _ _))
  have HX1 : Hid (Bl.BoxC W1 X [.slice (some ⟨g, o, none⟩) n c, .int .i64 1, .bool false]) := Bl.hid (by
    have h := Bl.BoxC.box (cs := [.slice (some ⟨g, o, none⟩) n c, .int .i64 1, .bool false]) (w.alloc (.cells Bl.zL 33)) 100 (fun q => by cases q)
    rw [hs0, ← hX] at h
    rw [hW1]; exact h)
  have HC1 : Hid (Bl.Cur n W1 X (false, r)) := Bl.hid ⟨⟨some ⟨g, o, none⟩, c, 1, 6 :: r, HX1.out, hn.symm, by omega, rfl, (Bl.RdsF.of_rds (F := fun k => k < w.heap.size) hR' (fun _ _ h => h)).kept fun k hk hlk => ⟨by omega, HE1.out.block k hk⟩, hnc, by unfold maxLen; exact hcm⟩, hb, by omega⟩
  have hcW : W1.cell? ⟨g, o, none⟩ = some (.int .u8 6) := ((Bl.bcell HE1.out).1 _ _ (World.block_lt_of_cell? _ _ hc0)).trans hc0
  have hone : ∀ c ∈ Bl.cK 6 0 0 0 0 0, c.oneCell' = true := fun c hc => by
    simp only [Bl.cK, List.mem_cons, List.not_mem_nil, or_false] at hc
    rcases hc with rfl | rfl | rfl | rfl | rfl | rfl | rfl | rfl | rfl <;> rfl
  obtain ⟨hB3, hE3⟩ := Bl.BoxC.fresh (cs := Bl.cK 6 0 0 0 0 0) W1 33 Bl.zL rfl (fun q => by cases q)
  have Hst3 := Bl.hid (Bl.fresh_store (P := Tryd.prog) (cs := Bl.cK 6 0 0 0 0 0) W1 33 Bl.zL rfl hone (ty := 33) (by kernel_rfl))
  obtain ⟨W3, hW3⟩ : ∃ W3, W3 = (W1.alloc (.cells Bl.zL 33)).setCells W1.heap.size 0 (Bl.cK 6 0 0 0 0 0) := ⟨_, rfl⟩
  obtain ⟨Y, hY⟩ : ∃ Y, Y = W1.heap.size := ⟨_, rfl⟩
  rw [← hW3] at hB3 hE3
  rw [← hY] at hB3
  have HXY : Hid (X < Y ∧ w.heap.size < X) := Bl.hid ⟨by rw [hY]; exact HX1.out.lt, by omega⟩
  have HB3 := Bl.hid hB3
  have HC3 := Bl.hid (HC1.out.ext hE3)
  have HBR3 := Bl.hid (HBR1.out.ext hE3)
  have HZ3 : Hid (Bl.Kq (fun k => w.heap.size ≤ k) w W3) := Bl.hid (Bl.Kq.of_ext (HE1.out.trans hE3))
  have q30 := HB3.out.cell (i := 0) (v := .int .i64 6) rfl
  have h8i : ¬ ((8000 : Int) < (n : Int)) := by omega
  have hzi : ¬ ((n : Int) = 0) := by omega
  have hzn : ¬ (n = 0) := by omega
  have hpi : (0 : Int) < (n : Int) := by omega
  have Hn := Bl.hid hn1
  clear hR hel hc0 hn hn1 hR' hb hl hB3 hE3 hone hs0 HX1 HC1 HBR0 HE0 hgl
  go_enter Tryd.func25, Tryd.ntmps25
  go_wp2_with (with_reducible refine Bl.stop_load (ty := 5) ?_)
  refine Bl.go_on ?_
  rw [← hW1, ← hX]
  clear hW1 hX
  go_wp2_with (with_reducible refine Bl.stop_store (ty := 33) ?_)
  refine Bl.go_on ?_
  refine Bl.wpL_store0 rfl rfl Hst3.out ?_
  rw [← hW3, ← hY]
  clear hW3 hY Hst3 hcW HBR1 HE1
  go_wp2_with fail
  refine (out_any 6 1 7 W3).mono ?_
  rintro e w3' ⟨rfl, hw3⟩
  subst hw3
  rw [show Bl.wi 6 1 7 = true from by decide, Bool.not_true]
  clear q30
  go_wp2_with fail
  refine (HT0.out _ HC3.out).mono ?_
  rintro e w0a ⟨v0, rfl, hRd, hCu, hK⟩
  have HRd0 := Bl.hid hRd
  have HC0a := Bl.hid hCu
  have HB0a := Bl.hid (hK.box (by have := HXY.out; omega) HB3.out)
  have HZ0a : Hid (Bl.Kq (fun k => w.heap.size ≤ k) w w0a) := Bl.hid (HZ3.out.trans (hK.mono fun k _ q => by have := HXY.out; omega))
  have HBR0a := Bl.hid (hK.box (by have := HXY.out; omega) HBR3.out)
  clear hRd hCu hK HC3 HB3 HZ3 HBR3
  go_wp2_with fail
  refine (HM0.out _ _ HRd0.out).mono ?_
  rintro e w' ⟨rfl, hw'⟩
  rw [hw']
  clear hw' HRd0 HT0 HM0
  have qf := HB0a.out.cell (i := 1) (v := .int .i64 0) rfl
  have ff := HB0a.out.fz (i := 1) (show 1 < 9 by decide)
  have HB0b : Hid (Bl.BoxC (w0a.setCell ⟨Y, 1, none⟩ (.int .i64 i)) Y (Bl.cK 6 i 0 0 0 0)) := Bl.hid (HB0a.out.put (i := 1) (show 1 < 9 by decide) (.int .i64 i))
  have HK0 : Hid (Bl.Kq (fun k => k = Y) w0a (w0a.setCell ⟨Y, 1, none⟩ (.int .i64 i))) := Bl.hid ((Bl.Kq.refl w0a).setCell (Q := fun k => k = Y) ⟨Y, 1, none⟩ rfl _)
  go_wp2_with fail
  obtain ⟨w0b, hWb⟩ : ∃ W, W = w0a.setCell ⟨Y, 1, none⟩ (.int .i64 i) := ⟨_, rfl⟩
  rw [← hWb] at HB0b HK0 ⊢
  clear hWb qf ff
  have HC0b := Bl.hid (HC0a.out.kept HK0.out (fun j hj q => by have := HXY.out; omega))
  have HZ0b : Hid (Bl.Kq (fun k => w.heap.size ≤ k) w w0b) := Bl.hid (HZ0a.out.trans (HK0.out.mono fun k _ q => by have := HXY.out; omega))
  have HBR0b := Bl.hid (HK0.out.box (by have := HXY.out; omega) HBR0a.out)
  clear HC0a HZ0a HBR0a HB0a HK0
  refine (HT1.out _ HC0b.out).mono ?_
  rintro e w1a ⟨v1, rfl, hRd, hCu, hK⟩
  have HRd1 := Bl.hid hRd
  have HC1a := Bl.hid hCu
  have HB1a := Bl.hid (hK.box (by have := HXY.out; omega) HB0b.out)
  have HZ1a : Hid (Bl.Kq (fun k => w.heap.size ≤ k) w w1a) := Bl.hid (HZ0b.out.trans (hK.mono fun k _ q => by have := HXY.out; omega))
  have HBR1a := Bl.hid (hK.box (by have := HXY.out; omega) HBR0b.out)
  clear hRd hCu hK HC0b HB0b HZ0b HBR0b
  go_wp2_with fail
  refine (HM1.out _ _ HRd1.out).mono ?_
  rintro e w' ⟨rfl, hw'⟩
  rw [hw']
  clear hw' HRd1 HT1 HM1
  have qf := HB1a.out.cell (i := 2) (v := .int .i64 0) rfl
  have ff := HB1a.out.fz (i := 2) (show 2 < 9 by decide)
  have HB1b : Hid (Bl.BoxC (w1a.setCell ⟨Y, 2, none⟩ (.int .i64 oo)) Y (Bl.cK 6 i oo 0 0 0)) := Bl.hid (HB1a.out.put (i := 2) (show 2 < 9 by decide) (.int .i64 oo))
  have HK1 : Hid (Bl.Kq (fun k => k = Y) w1a (w1a.setCell ⟨Y, 2, none⟩ (.int .i64 oo))) := Bl.hid ((Bl.Kq.refl w1a).setCell (Q := fun k => k = Y) ⟨Y, 2, none⟩ rfl _)
  go_wp2_with (with_reducible refine Bl.stop_load (ty := 3) ?_)
  obtain ⟨w1b, hWb⟩ : ∃ W, W = w1a.setCell ⟨Y, 2, none⟩ (.int .i64 oo) := ⟨_, rfl⟩
  rw [← hWb] at HB1b HK1 ⊢
  clear hWb qf ff
  have HC1b := Bl.hid (HC1a.out.kept HK1.out (fun j hj q => by have := HXY.out; omega))
  have HZ1b : Hid (Bl.Kq (fun k => w.heap.size ≤ k) w w1b) := Bl.hid (HZ1a.out.trans (HK1.out.mono fun k _ q => by have := HXY.out; omega))
  have HBR1b := Bl.hid (HK1.out.box (by have := HXY.out; omega) HBR1a.out)
  clear HC1a HZ1a HBR1a HB1a HK1
  refine Bl.go_on ?_
  have qk := HB1b.out.cell (i := 0) (v := .int .i64 6) rfl
  go_wp2_with fail
  clear qk
  refine (HT2.out _ HC1b.out).mono ?_
  rintro e w2a ⟨v2, rfl, hRd, hCu, hK⟩
  have HRd2 := Bl.hid hRd
  have HC2a := Bl.hid hCu
  have HB2a := Bl.hid (hK.box (by have := HXY.out; omega) HB1b.out)
  have HZ2a : Hid (Bl.Kq (fun k => w.heap.size ≤ k) w w2a) := Bl.hid (HZ1b.out.trans (hK.mono fun k _ q => by have := HXY.out; omega))
  have HBR2a := Bl.hid (hK.box (by have := HXY.out; omega) HBR1b.out)
  clear hRd hCu hK HC1b HB1b HZ1b HBR1b
  go_wp2_with fail
  refine (HM2.out _ _ HRd2.out).mono ?_
  rintro e w' ⟨rfl, hw'⟩
  rw [hw']
  clear hw' HRd2 HT2 HM2
  have qf := HB2a.out.cell (i := 5) (v := .int .i64 0) rfl
  have ff := HB2a.out.fz (i := 5) (show 5 < 9 by decide)
  have HB2b : Hid (Bl.BoxC (w2a.setCell ⟨Y, 5, none⟩ (.int .i64 f)) Y (Bl.cK 6 i oo f 0 0)) := Bl.hid (HB2a.out.put (i := 5) (show 5 < 9 by decide) (.int .i64 f))
  have HK2 : Hid (Bl.Kq (fun k => k = Y) w2a (w2a.setCell ⟨Y, 5, none⟩ (.int .i64 f))) := Bl.hid ((Bl.Kq.refl w2a).setCell (Q := fun k => k = Y) ⟨Y, 5, none⟩ rfl _)
  go_wp2_with (with_reducible refine Bl.stop_load (ty := 3) ?_)
  obtain ⟨w2b, hWb⟩ : ∃ W, W = w2a.setCell ⟨Y, 5, none⟩ (.int .i64 f) := ⟨_, rfl⟩
  rw [← hWb] at HB2b HK2 ⊢
  clear hWb qf ff
  have HC2b := Bl.hid (HC2a.out.kept HK2.out (fun j hj q => by have := HXY.out; omega))
  have HZ2b : Hid (Bl.Kq (fun k => w.heap.size ≤ k) w w2b) := Bl.hid (HZ2a.out.trans (HK2.out.mono fun k _ q => by have := HXY.out; omega))
  have HBR2b := Bl.hid (HK2.out.box (by have := HXY.out; omega) HBR2a.out)
  clear HC2a HZ2a HBR2a HB2a HK2
  refine Bl.go_on ?_
  have qk := HB2b.out.cell (i := 0) (v := .int .i64 6) rfl
  go_wp2_with fail
  clear qk
  refine (HT3.out _ HC2b.out).mono ?_
  rintro e w3a ⟨v3, rfl, hRd, hCu, hK⟩
  have HRd3 := Bl.hid hRd
  have HC3a := Bl.hid hCu
  have HB3a := Bl.hid (hK.box (by have := HXY.out; omega) HB2b.out)
  have HZ3a : Hid (Bl.Kq (fun k => w.heap.size ≤ k) w w3a) := Bl.hid (HZ2b.out.trans (hK.mono fun k _ q => by have := HXY.out; omega))
  have HBR3a := Bl.hid (hK.box (by have := HXY.out; omega) HBR2b.out)
  clear hRd hCu hK HC2b HB2b HZ2b HBR2b
  go_wp2_with fail
  refine (HM3.out _ _ HRd3.out).mono ?_
  rintro e w' ⟨rfl, hw'⟩
  rw [hw']
  clear hw' HRd3 HT3 HM3
  obtain ⟨B, hB⟩ : ∃ B, B = w3a.heap.size := ⟨_, rfl⟩
  have HBY : Hid (Y < B ∧ B = w3a.heap.size) := Bl.hid ⟨by rw [hB]; exact HB3a.out.lt, hB⟩
  clear hB
  have HG0 : Hid (Bl.GP Bl.cB 1 Bl.OkB B w3a Y 7 ((Bl.cK 6 i oo f 0 0).set 7 (.slice none 0 0)) (.slice none 0 0) []) := Bl.hid (Bl.GP.start HB3a.out rfl)
  go_wp2_with fail
  go_loopw [6] (fun x wr => ∃ (m : Nat) (s' : Bl.Rst) (v' : Value) (M : List Bl.Bv), x = .int .i64 m ∧ Hid (Bl.GP Bl.cB 1 Bl.OkB B wr Y 7 ((Bl.cK 6 i oo f 0 0).set 7 v') v' M ∧ Bl.Cur n wr X s' ∧ M.map (fun y : Bl.Bv => y.2) ++ (Bl.eaT Bl.blF m s').1 = bs ∧ (Bl.eaT Bl.blF m s').2 = t4 ∧ M.length + m ≤ 65535) ∧ Hid (Bl.Kq (fun k => k = X ∨ k = Y ∨ B ≤ k) w3a wr)) (fun x _ => (intOf x).toNat)
  case atStart => exact ⟨cn, s4, _, [], rfl, Bl.hid ⟨HG0.out, HC3a.out, Hbs.out.1, Hbs.out.2, by have := Hcn.out; simp only [List.length_nil]; omega⟩, Bl.hid (Bl.Kq.refl _)⟩
  case round =>
    obtain ⟨m, s', v', M, rfl, HI, HKr⟩ := hrel
    have HZr : Hid (Bl.Kq (fun k => w.heap.size ≤ k) w wr) := Bl.hid (HZ3a.out.trans (HKr.out.mono fun k _ q => by have := HXY.out; have := HBY.out; omega))
    have HBRr := Bl.hid (HKr.out.box (by have := HXY.out; have := HBY.out; omega) HBR3a.out)
    have HCr := Bl.hid HI.out.2.1
    have q2 := HCr.out.bad
    have qk := HI.out.1.box.cell (i := 0) (v := .int .i64 6) rfl
    obtain ⟨sh, hsh⟩ : ∃ sh, sh = s'.1 := ⟨_, rfl⟩
    rw [← hsh] at q2
    have Hsh := Bl.hid hsh.symm
    clear hsh HG0 HB3a
    by_cases hm : 0 < m
    · have hmi : (0 : Int) < (m : Int) := by omega
      cases sh
      · clear qk
        have hsd := Bl.eaT_dec Bl.blF m s' hm Hsh.out
        have HTs : ∀ w2, Bl.Cur n w2 X s' → Calls Tryd.prog 53 #[.pointer (some ⟨X, 0, none⟩), .int .i64 16] w2 fun e w' => ∃ v', e = .returned v' ∧ Bl.Rd w' .u8 v' (Bl.tkF 16 s').1 ∧ Bl.Cur n w' X (Bl.tkF 16 s').2 ∧ Bl.Kq (fun k => k = X) w2 w' := ctake_all n X 16 s' (by decide) (by decide)
        have hlen : (Bl.tkF 16 s').1.length = 16 := Bl.tkF_len
        have hby := (Bl.tkF_byt (n := 16) (s := s') HCr.out.by').1
        have hbl : Bl.blF s' = ([(Bl.tkF 16 s').1], (Bl.tkF 16 s').2) := rfl
        obtain ⟨st, hst⟩ : ∃ z, z = (Bl.tkF 16 s').1 := ⟨_, rfl⟩
        obtain ⟨sb, hsb⟩ : ∃ z, z = (Bl.tkF 16 s').2 := ⟨_, rfl⟩
        rw [← hst, ← hsb] at HTs hbl
        rw [← hst] at hlen hby
        rw [hbl] at hsd
        have HN : Hid (M.map (fun y : Bl.Bv => y.2) ++ ([st] ++ (Bl.eaT Bl.blF (m - 1) sb).1) = bs ∧ (Bl.eaT Bl.blF (m - 1) sb).2 = t4) := Bl.hid ⟨by have h := HI.out.2.2.1; rw [hsd] at h; exact h, by have h := HI.out.2.2.2.1; rw [hsd] at h; exact h⟩
        replace HTs := Bl.hid HTs
        have Hst := Bl.hid (And.intro hlen hby)
        have HG := Bl.hid HI.out.1
        have Hm := Bl.hid HI.out.2.2.2.2
        have Hml : Hid (M.length + 1 ≤ maxLen ∧ (M.length + 1) * 24 ≤ 140737488355328) := Bl.hid (by have := Hm.out; unfold maxLen; omega)
        have hm2 : (m : Int) ≤ 65535 := by have := Hm.out; omega
        have HBw : Hid (B ≤ wr.heap.size ∧ X < wr.heap.size ∧ X < B) := Bl.hid ⟨by have := HKr.out.size; have := HBY.out.2; omega, HCr.out.lt, by have := HXY.out; have := HBY.out; omega⟩
        have Hq7 : Hid (∀ w2, Bl.Kq (fun k => k = X ∨ B ≤ k) wr w2 → w2.cell? ⟨Y, 7, none⟩ = some v') := Bl.hid fun w2 h => h.cell (by have := HXY.out; have := HBY.out; omega) HG.out.cell
        clear HI
        clear hsd hbl hst hsb hlen hby
        go_wp2_with fail
        clear q2
        apply Bl.wp_region_evK (Bl.Kq (fun k => k = X ∨ B ≤ k)) (Bl.JB n B X Y 7 ((Bl.cK 6 i oo f 0 0).set 7 v') v' M s' sb st wr) 9 [75, 76, 77, 78, 79, 80, 81, 82, 83] [Bl.eqv _, Bl.eqv _, Bl.anyv, Bl.eqv _, Bl.anyv, Bl.anyv, Bl.anyv, Bl.anyv, Bl.eqv _] (fun w => Bl.Kq.refl w) (fun a b c h k => Bl.Kq.trans h k) (by kernel_rfl) (by kernel_rfl) (by kernel_rfl) (by kernel_rfl)
        case hsteps =>
          refine ⟨?_, ?_, ?_, ?_, ?_, ?_, ?_, ?_, ?_, trivial⟩
          all_goals
            intro d ev w1 hext HJd Hanc Hdes hni hb hd
            replace Hanc := Bl.hid Hanc
            replace HJd := Bl.hid HJd
            replace Hdes := Bl.hid Hdes
            replace hni := Bl.hid hni
            have e4 := hb 4 (by decide)
            have e5 := hb 5 (by decide)
            clear hb
            simp only [Array.getD_eq_getD_getElem?, List.getElem?_toArray, List.getElem?_cons_succ, List.getElem?_cons_zero, Option.getD_some] at e4 e5
            simp only [Bl.DepsE2, List.getElem?_cons_succ, List.getElem?_cons_zero, Option.bind_some, List.getD_cons_succ, List.getD_cons_zero, Bl.eqv, and_true] at hd
            have c7 := Hq7.out _ hext
            rw [if_pos (rfl : Region.wanted _ _ = true)]
            first
            | (obtain ⟨b9, o9, c9, hx9, _, _, _, hr9, _⟩ := Bl.Rd.pos (HJd.out.e (Hanc.out 4 (by kernel_rfl)) hni.out) (by rw [Hst.out.1]; decide); have hpz := HJd.out.c (Hanc.out 2 (by kernel_rfl)) hni.out; have hbs := hext.size; (with_reducible refine Bl.goodX_append (m := st.length) (c := c9) tBytes hpz hr9 ?_ (Bl.ints_one _ _) ?_ ?_ ?_ hbs ?_ ?_ ?_); rw [Bl.ints_length, Nat.mul_one]; rw [Hst.out.1]; decide; rw [Hst.out.1]; decide; rw [Hst.out.1]; decide; rfl; exact hx9; exact fun v' w' k1 k2 k3 => ⟨(HJd.out.ap (Hanc.out 2 (by kernel_rfl)) (Hanc.out 4 (by kernel_rfl)) hni.out (Hdes.out 6 (by kernel_rfl)) (Hdes.out 7 (by kernel_rfl)) HBw.out.2.1 HBw.out.1 k1 k2).1, trivial, (HJd.out.ap (Hanc.out 2 (by kernel_rfl)) (Hanc.out 4 (by kernel_rfl)) hni.out (Hdes.out 6 (by kernel_rfl)) (Hdes.out 7 (by kernel_rfl)) HBw.out.2.1 HBw.out.1 k1 k2).2⟩) | ((with_reducible refine Bl.goodX_buildV (v := ev 80) tBB (by decide) ?_ (HJd.out.f1 (Hanc.out 4 (by kernel_rfl)) (Hanc.out 5 (by kernel_rfl)) hni.out (Hdes.out 7 (by kernel_rfl)) HG.out HBw.out.1 HXY.out.1 HBw.out.2.2 Hst.out.2).size ?_); rfl; exact ⟨Bl.Kq.of_ext (Bl.ext_alloc _ _), trivial, HJd.out.bd (Hanc.out 4 (by kernel_rfl)) (Hanc.out 5 (by kernel_rfl)) hni.out (Hdes.out 7 (by kernel_rfl)) HG.out HBw.out.1 HXY.out.1 HBw.out.2.2 Hst.out.2 _⟩) | ((with_reducible refine Bl.goodX_f3 tBB Bl.stab_okB HBw.out.2.2 HXY.out.1 (HJd.out.g (Hanc.out 6 (by kernel_rfl)) hni.out) ?_ ?_ Hml.out.1 Hml.out.2 ?_); rfl; exact (by first | exact hd | exact hd.2 | exact hd.1.2 | exact hd.1.1.2 | exact hd.1.1.1.2 | exact hd.1.1.1.1.2 | exact hd.1.1.1.1.1.2 | exact hd.1.1.1.1.1.1.2 | exact hd.1.1.1.1.1.1.1.2 | exact hd.1.1.1.1.1.1.1.1.2 | exact hd.1.1.1.1.1.1.1.1.1.2 | exact hd.1.1.1.1.1.1.1.1.1.1.2 | exact hd.1.1.1.1.1.1.1.1.1.1.1.2 | exact hd.1.1.1.1.1.1.1.1.1.1.1.1.2 | exact hd.1.1.1.1.1.1.1.1.1.1.1.1.1.2 | exact hd.1 | exact hd.1.1 | exact hd.1.1.1 | exact hd.1.1.1.1 | exact hd.1.1.1.1.1 | exact hd.1.1.1.1.1.1 | exact hd.1.1.1.1.1.1.1 | exact hd.1.1.1.1.1.1.1.1 | exact hd.1.1.1.1.1.1.1.1.1 | exact hd.1.1.1.1.1.1.1.1.1.1 | exact hd.1.1.1.1.1.1.1.1.1.1.1 | exact hd.1.1.1.1.1.1.1.1.1.1.1.1 | exact hd.1.1.1.1.1.1.1.1.1.1.1.1.1 | exact hd.2.1 | exact hd.2.2.1 | exact hd.2.2.2.1 | exact hd.2.2.2.2.1 | exact hd.2.2.2.2.2.1 | exact hd.2.2.2.2.2.2.1 | exact hd.2.2.2.2.2.2.2.1 | exact hd.2.2.2.2.2.2.2.2.1 | exact hd.2.2.2.2.2.2.2.2.2.1 | exact hd.2.2.2.2.2.2.2.2.2.2.1 | exact hd.2.2.2.2.2.2.2.2.2.2.2.1 | exact hd.2.2.2.2.2.2.2.2.2.2.2.2.1 | exact hd.2.2.2.2.2.2.2.2.2.2.2.2.2.1); exact fun v' w' k1 k2 => ⟨k1, trivial, Bl.JB.app (Hanc.out 4 (by kernel_rfl)) (Hanc.out 5 (by kernel_rfl)) (Hanc.out 6 (by kernel_rfl)) k2⟩)
            | (go_simp; first | exact ⟨Bl.Kq.refl _, rfl, HJd.out.same (by decide)⟩ | exact ⟨Bl.Kq.of_ext (Bl.ext_alloc _ _), trivial, HJd.out.mk' (Hdes.out 5 (by kernel_rfl)) (Hdes.out 6 (by kernel_rfl)) (Hdes.out 7 (by kernel_rfl)) _⟩ | (go_at_call 53; have hcl := HTs.out w1 (HJd.out.a hni.out); (with_reducible refine hcl.mono ?_); rintro e w2 ⟨v9, rfl, k1, k2, k3⟩; exact ⟨_, rfl, k3.mono fun _ _ q => .inl q, trivial, HJd.out.tk (Hdes.out 5 (by kernel_rfl)) (Hdes.out 6 (by kernel_rfl)) (Hdes.out 7 (by kernel_rfl)) HBw.out.2.1 k1 k2 k3⟩) | exact ⟨Below.refl _ _, rfl, Bl.HJ.same (by decide) HJd.out⟩)
        case hmono => exact ⟨Bl.monoR_eqv _, Bl.monoR_eqv _, Bl.monoR_anyv, Bl.monoR_eqv _, Bl.monoR_anyv, Bl.monoR_anyv, Bl.monoR_anyv, Bl.monoR_anyv, Bl.monoR_eqv _, trivial⟩
        case hR0 => exact Bl.Kq.drew _
        case hend =>
          intro u w1 hext hJ hend
          simp only [Bl.EndE, List.getElem?_cons_succ, List.getElem?_cons_zero, Option.bind_some, List.getD_cons_succ, List.getD_cons_zero, Bl.eqv, true_and] at hend
          simp only [Bl.fillAct, List.setIfInBounds_toArray, List.set_cons_succ, List.set_cons_zero, List.drop_succ_cons, List.drop_zero, hend]
          obtain ⟨y, p, c9, hu, hp, hcell, hfz, hG', hC'⟩ := hJ.h rfl
          have HG' := Bl.hid hG'
          have HC' := Bl.hid hC'
          have HK := Bl.hid hext
          have Hp := Bl.hid hp
          rw [hu] at HG' HC'
          simp only [hu]
          clear hG' hC' hext hend hJ hu hp
          go_wp2_with fail
          go_roundw
          case rel => exact ⟨m - 1, sb, .slice p (M.length + 1) c9, M ++ [y], by go_num, Bl.hid ⟨by have h := HG'.out; rw [List.set_set] at h; exact h, HC'.out, by rw [List.map_append, List.append_assoc]; have h := HN.out.1; rw [← Hp.out] at h; exact h, HN.out.2, by rw [List.length_append, List.length_singleton]; have := Hm.out; omega⟩, Bl.hid (HKr.out.trans ((HK.out.mono fun k _ q => q.elim .inl fun q => .inr (.inr q)).setCell (Q := fun k => k = X ∨ k = Y ∨ B ≤ k) ⟨Y, 7, none⟩ (.inr (.inl rfl)) _))⟩
          case measure => simp [intOf]; omega
        case hJ0 => exact Bl.JB.start (HCr.out.kept (Q := fun _ => False) (Bl.Kq.drew _) (fun _ _ q => q)) (Bl.Kq.drew _)
      · have hfin := Bl.eaT_stop Bl.blF m s' Hsh.out
        have HM : Hid (M.map (fun y : Bl.Bv => y.2) = bs) := Bl.hid (by have h := HI.out.2.2.1; rw [hfin, List.append_nil] at h; exact h)
        have e4 : s' = t4 := by have h := HI.out.2.2.2.1; rw [hfin] at h; exact h
        have hle : Y ≤ B := Nat.le_of_lt HBY.out.1
        have HL : Hid (Bl.LtY wr Y Y ⟨6, i, oo, [], [], f, 0, bs, 0⟩) := Bl.hid ⟨_, _, v', [], HI.out.1.box, Bl.RdsF.nil _, Bl.RdsF.nil _, fun x hx => (by cases hx), rfl, M, HI.out.1.rowF hle, HI.out.1.elF Bl.stab_okB hle, HM.out⟩
        have HPf' : pr = Bl.finT ((⟨6, i, oo, [], [], f, 0, bs, 0⟩ : Bl.LT), s') := by rw [e4]; exact HPf.out
        replace HPf := Bl.hid HPf'
        clear HPf' e4 hfin HM hle HI HKr
        have Hsp : Hid (pr = (2, Bl.lt0)) := Bl.hid (by rw [HPf.out]; unfold Bl.finT; exact if_pos Hsh.out)
        clear HPf HL HCr
        have Hstz := Bl.hid (HStz.out _ HBRr.out)
        have HBR9 := Bl.hid (HBRr.out.set (cs' := Bl.zL.toList) rfl)
        have HZ9 := Bl.hid (HZr.out.setCells (g := w.heap.size) (Nat.le_refl _) 0 Bl.zL.toList)
        go_wp2_with (with_reducible refine Bl.stop_store (ty := 33) ?_)
        refine Bl.go_on ?_
        refine Bl.wpL_store0 rfl rfl Hstz.out ?_
        go_wp2_with fail
        refine bodyPost_ret (v := .tuple #[.agg Bl.zL, .int .i64 2]) (Bl.results_cell2 rfl rfl (HBR9.out.loadVar (P := Tryd.prog) Tryd.underlying33 rfl (by kernel_rfl)) rfl) rfl ?_
        rw [Hsp.out]
        exact ⟨_, rfl, Bl.LtV.zero _, HZ9.out.ext fun k q => q⟩
    · have hmi : ¬ ((0 : Int) < (m : Int)) := by omega
      have hfin : Bl.eaT Bl.blF m s' = ([], s') := by
        obtain rfl : m = 0 := by omega
        rfl
      clear q2 Hsh
      have HM : Hid (M.map (fun y : Bl.Bv => y.2) = bs) := Bl.hid (by have h := HI.out.2.2.1; rw [hfin, List.append_nil] at h; exact h)
      have e4 : s' = t4 := by have h := HI.out.2.2.2.1; rw [hfin] at h; exact h
      have hle : Y ≤ B := Nat.le_of_lt HBY.out.1
      have HL : Hid (Bl.LtY wr Y Y ⟨6, i, oo, [], [], f, 0, bs, 0⟩) := Bl.hid ⟨_, _, v', [], HI.out.1.box, Bl.RdsF.nil _, Bl.RdsF.nil _, fun x hx => (by cases hx), rfl, M, HI.out.1.rowF hle, HI.out.1.elF Bl.stab_okB hle, HM.out⟩
      have HPf' : pr = Bl.finT ((⟨6, i, oo, [], [], f, 0, bs, 0⟩ : Bl.LT), s') := by rw [e4]; exact HPf.out
      replace HPf := Bl.hid HPf'
      clear HPf' e4 hfin HM hle HI HKr
      obtain ⟨l, hl7⟩ : ∃ l, l = (⟨6, i, oo, [], [], f, 0, bs, 0⟩ : Bl.LT) := ⟨_, rfl⟩
      rw [← hl7] at HL HPf
      clear hl7
      obtain ⟨pt, ct, at', bt, hxt, hbl, hat, hdr, _, _, _⟩ := HCr.out.ex
      have qb := hxt.cell (i := 2) rfl
      have qa := hxt.cell (i := 1) rfl
      have Hnr : Hid (s'.2.length = n - at' ∧ at' ≤ n) := Bl.hid ⟨by rw [hdr, List.length_drop, hbl], hat⟩
      obtain ⟨sh, rest⟩ := s'
      simp only at qb Hnr
      clear hxt hbl hdr hat HCr
      cases sh with
      | true =>
        have Hsp : Hid (pr = (2, Bl.lt0)) := Bl.hid (by rw [HPf.out]; rfl)
        clear HPf
        have Hstz := Bl.hid (HStz.out _ HBRr.out)
        have HBR9 := Bl.hid (HBRr.out.set (cs' := Bl.zL.toList) rfl)
        have HZ9 := Bl.hid (HZr.out.setCells (g := w.heap.size) (Nat.le_refl _) 0 Bl.zL.toList)
        go_wp2_with (with_reducible refine Bl.stop_store (ty := 33) ?_)
        refine Bl.go_on ?_
        refine Bl.wpL_store0 rfl rfl Hstz.out ?_
        go_wp2_with fail
        refine bodyPost_ret (v := .tuple #[.agg Bl.zL, .int .i64 2]) (Bl.results_cell2 rfl rfl (HBR9.out.loadVar (P := Tryd.prog) Tryd.underlying33 rfl (by kernel_rfl)) rfl) rfl ?_
        rw [Hsp.out]
        exact ⟨_, rfl, Bl.LtV.zero _, HZ9.out.ext fun k q => q⟩
      | false =>
        by_cases h0 : at' < n
        · have h0i : (at' : Int) < (n : Int) := by omega
          have Hsp : Hid (pr = (4, Bl.lt0)) := Bl.hid (by
            rw [HPf.out]; unfold Bl.finT; simp only [Bool.false_eq_true, if_false]; rw [if_pos (by have := Hnr.out.1; omega)])
          clear HPf
          have Hstz := Bl.hid (HStz.out _ HBRr.out)
          have HBR9 := Bl.hid (HBRr.out.set (cs' := Bl.zL.toList) rfl)
          have HZ9 := Bl.hid (HZr.out.setCells (g := w.heap.size) (Nat.le_refl _) 0 Bl.zL.toList)
          go_wp2_with (with_reducible refine Bl.stop_store (ty := 33) ?_)
          refine Bl.go_on ?_
          refine Bl.wpL_store0 rfl rfl Hstz.out ?_
          go_wp2_with fail
          refine bodyPost_ret (v := .tuple #[.agg Bl.zL, .int .i64 4]) (Bl.results_cell2 rfl rfl (HBR9.out.loadVar (P := Tryd.prog) Tryd.underlying33 rfl (by kernel_rfl)) rfl) rfl ?_
          rw [Hsp.out]
          exact ⟨_, rfl, Bl.LtV.zero _, HZ9.out.ext fun k q => q⟩
        · have h0i : ¬ ((at' : Int) < (n : Int)) := by omega
          have HPg : Hid (pr = if Bl.chkL l = 0 then (0, l) else (Bl.chkL l, Bl.lt0)) := Bl.hid (by
            rw [HPf.out]; unfold Bl.finT; simp only [Bool.false_eq_true, if_false]; rw [if_neg (by have := Hnr.out.1; omega)])
          obtain ⟨vp, vs, vb, L, hB7, hF7⟩ := HL.out
          have HLv : Hid (Bl.LtV _ (.agg (Bl.cL l vp vs vb).toArray) l) := Bl.hid ⟨_, vp, vs, vb, L, rfl, hF7.ltc⟩
          have HB7 := Bl.hid hB7
          have HF7 := Bl.hid hF7
          have Hone : Hid (∀ c ∈ Bl.cL l vp vs vb, c.oneCell' = true) := Bl.hid hF7.ltc.one
          have Hl7 := Bl.hid (hB7.load (P := Tryd.prog) Tryd.underlying33 rfl (by kernel_rfl))
          clear HPf h0 hB7 hF7 HL
          go_wp2_with (with_reducible refine Bl.stop_load (ty := 33) ?_)
          refine Bl.go_on ?_
          refine Bl.wpL_load rfl Hl7.out ?_
          go_wp2_with fail
          refine (rcheck_any _ l _ HLv.out).mono ?_
          rintro e w8 ⟨rfl, hE8⟩
          have HB8 := Bl.hid (HB7.out.ext hE8)
          have HBR8 := Bl.hid (HBRr.out.ext hE8)
          have HZ8 : Hid (Bl.Kq (fun k => w.heap.size ≤ k) w w8) := Bl.hid (HZr.out.trans (Bl.Kq.of_ext hE8))
          have HF8 : Hid (Bl.LtF (fun k => Y ≤ k) w8 l vp vs vb L) := Bl.hid (HF7.out.kept fun k hk hlk => ⟨hk, hE8.block k hlk⟩)
          clear hE8 HB7 HBRr HZr HF7 Hl7 HLv qb qa
          obtain ⟨K9, hK9⟩ : ∃ K9, K9 = Bl.chkL l := ⟨_, rfl⟩
          rw [← hK9] at HPg
          rw [← hK9]
          clear hK9
          by_cases hK0 : K9 = 0
          · subst hK0
            have Hsp : Hid (pr = (0, l)) := HPg
            have Hl8 := Bl.hid (HB8.out.load (P := Tryd.prog) Tryd.underlying33 rfl (by kernel_rfl))
            have Hst8 := Bl.hid (HBR8.out.store (P := Tryd.prog) (cs' := Bl.cL l vp vs vb) rfl Hone.out (ty := 33) (by kernel_rfl))
            have HBR9 := Bl.hid (HBR8.out.set (cs' := Bl.cL l vp vs vb) rfl)
            have HZ9 := Bl.hid (HZ8.out.setCells (g := w.heap.size) (Nat.le_refl _) 0 (Bl.cL l vp vs vb))
            have HK9 : Hid (Bl.Kq (fun k => k = w.heap.size) w8 (w8.setCells w.heap.size 0 (Bl.cL l vp vs vb))) := Bl.hid ((Bl.Kq.refl w8).setCells (Q := fun k => k = w.heap.size) rfl 0 _)
            clear HPg
            rw [show ((0 : Nat) : Int) = 0 from rfl]
            go_wp2_with (with_reducible refine Bl.stop_load (ty := 33) ?_)
            refine Bl.go_on ?_
            refine Bl.wpL_load rfl Hl8.out ?_
            go_wp2_with (with_reducible refine Bl.stop_store (ty := 33) ?_)
            refine Bl.go_on ?_
            refine Bl.wpL_store0 rfl rfl Hst8.out ?_
            go_wp2_with fail
            refine bodyPost_ret (v := .tuple #[.agg (Bl.cL l vp vs vb).toArray, .int .i64 0]) (Bl.results_cell2 rfl rfl (HBR9.out.loadVar (P := Tryd.prog) Tryd.underlying33 rfl (by kernel_rfl)) rfl) rfl ?_
            rw [Hsp.out]
            exact ⟨_, rfl, ⟨_, vp, vs, vb, L, rfl, (HF8.out.kept (F' := fun k => Y ≤ k) fun k hk hlk => ⟨hk, HK9.out.block k hlk (by have := HXY.out; omega)⟩).ltc⟩, HZ9.out.ext fun k q => q⟩
          · have Hsp : Hid (pr = (K9, Bl.lt0)) := Bl.hid (by rw [HPg.out, if_neg hK0])
            have Hstz := Bl.hid (HStz.out w8 HBR8.out)
            have HBR9 := Bl.hid (HBR8.out.set (cs' := Bl.zL.toList) rfl)
            have HZ9 := Bl.hid (HZ8.out.setCells (g := w.heap.size) (Nat.le_refl _) 0 Bl.zL.toList)
            have hK0i : ¬ ((K9 : Int) = 0) := by omega
            clear HPg
            go_wp2_with (with_reducible refine Bl.stop_store (ty := 33) ?_)
            refine Bl.go_on ?_
            refine Bl.wpL_store0 rfl rfl Hstz.out ?_
            go_wp2_with fail
            refine bodyPost_ret (v := .tuple #[.agg Bl.zL, .int .i64 (K9 : Nat)]) (Bl.results_cell2 rfl rfl (HBR9.out.loadVar (P := Tryd.prog) Tryd.underlying33 rfl (by kernel_rfl)) rfl) rfl ?_
            rw [Hsp.out]
            exact ⟨_, rfl, Bl.LtV.zero _, HZ9.out.ext fun k q => q⟩
end Go.Proofs.YtmmolapkddbibaaDoor

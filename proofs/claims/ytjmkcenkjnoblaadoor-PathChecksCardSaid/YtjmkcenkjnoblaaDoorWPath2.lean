/- Walks of path.Length, baileeref13.Length, baileelaw13.Digests, same. -/
import Derived.Test.YtjmkcenkjnoblaaDoorWPath1
namespace Go.Proofs.Bl
open Go Go.RowKit
theorem lenP_no {n i : Int} (h : thereB n i = false) : lenP n i = -1 := by unfold lenP; rw [h]; rfl
theorem lenP_yes {n i : Nat} (h : n ≤ 512) (hi : i < n) : lenP n i = ((turnsL n i).length : Int) := by
  unfold lenP
  rw [if_pos (thereB_mk (by omega) (by omega) (by omega))]; rfl
theorem getD_map {α β : Type} (f : α → β) (l : List α) (k : Nat) (a : α) (b : β) (h : k < l.length) : (l.map f).getD k b = f (l.getD k a) := by
  rw [List.getD_eq_getElem?_getD, List.getD_eq_getElem?_getD, List.getElem?_map, List.getElem?_eq_getElem h]; rfl
theorem take_snocD (l : List (List Int)) (k : Nat) (h : k < l.length) : l.take (k + 1) = l.take k ++ [l.getD k []] := by
  rw [List.getD_eq_getElem?_getD, List.getElem?_eq_getElem h, List.take_succ_eq_append_getElem h]; rfl
end Go.Proofs.Bl
namespace Go.Proofs.YtjmkcenkjnoblaaDoor
open Go.RowKit Go.Proofs

theorem length_any (n i : Int) (w : World) :
    Calls Tryd.prog 21 #[.int .i64 n, .int .i64 i] w fun e w' => e = .returned (.int .i64 (Bl.lenP n i)) ∧ Bl.Ext w w' := by
  by_cases h : n ≤ 512 ∧ 0 ≤ i ∧ i < n
  · obtain ⟨h1, h2, h3⟩ := h
    have hb := Bl.thereB_mk h1 h2 h3
    obtain ⟨j, rfl⟩ := Int.eq_ofNat_of_zero_le h2
    obtain ⟨m, rfl⟩ := Int.eq_ofNat_of_zero_le (a := n) (by omega)
    have HB := Bl.hid hb
    have HL := Bl.hid (Bl.lenP_yes (n := m) (i := j) (by omega) (by omega))
    clear hb h2
    go_enter Tryd.func21, Tryd.ntmps21
    go_wp2_with fail
    refine (there_any _ _ _).mono ?_
    rintro e w1 ⟨rfl, hw⟩
    subst hw
    rw [HB.out]
    go_wp2_with fail
    refine (turns_any m j w (by omega) (by omega)).mono ?_
    rintro e w2 ⟨p, c, rfl, hown, hE⟩
    have HE := Bl.hid hE
    obtain ⟨T, hT⟩ : ∃ T, T = (Bl.turnsL m j).length := ⟨_, rfl⟩
    rw [← hT] at HL ⊢
    clear hE hown hT
    go_wp2_with fail
    go_ret
    exact ⟨by rw [HL.out]; rfl, HE.out⟩
  · have hb := Bl.thereB_no h
    have HL := Bl.hid (Bl.lenP_no hb)
    have HB := Bl.hid hb
    clear hb h
    go_enter Tryd.func21, Tryd.ntmps21
    go_wp2_with fail
    refine (there_any _ _ _).mono ?_
    rintro e w1 ⟨rfl, hw⟩
    subst hw
    rw [HB.out]
    go_wp2_with fail
    go_ret
    exact ⟨by rw [HL.out]; rfl, Below.refl _ _⟩

set_option maxRecDepth 100000 in
theorem reflen_nat : ∀ (n i : Nat) (w : World), n ≤ 512 → i < n →
    Calls Tryd.prog 23 #[.int .i64 n, .int .i64 i] w fun e w' => e = .returned (.int .i64 (Bl.turnsL n i).length) ∧ w = w' := by
  intro n
  induction n using Nat.strongRecOn with
  | _ n ih =>
    intro i w hn hi
    have IH := Bl.hid ih
    clear ih
    have g1 : decide ((512 : Int) < (n : Int)) = false := decide_eq_false (by omega)
    have g2 : decide ((i : Int) < 0) = false := decide_eq_false (by omega)
    have g3 : decide ((n : Int) ≤ (i : Int)) = false := decide_eq_false (by omega)
    by_cases h1 : n = 1
    · subst h1
      have HL := Bl.hid (Bl.turnsL_lo 1 i (by omega))
      go_enter Tryd.func23, Tryd.ntmps23
      go_wp2
      go_ret
      exact ⟨by rw [HL.out]; rfl, rfl⟩
    · have hb1 : ((n : Int) == 1) = false := by rw [beq_eq_false_iff_ne]; omega
      obtain ⟨s1, s2, s3⟩ := Bl.sp_bounds n (by omega) (by omega)
      have HL := Bl.hid (fun h => Bl.turnsL_left n i (by omega) (by omega) h)
      have HR := Bl.hid (fun h => Bl.turnsL_right n i (by omega) (by omega) h)
      have HI1 : Hid (i < Bl.sp n → ∀ w, Calls Tryd.prog 23 #[.int .i64 (Bl.sp n), .int .i64 i] w fun e w' => e = .returned (.int .i64 (Bl.turnsL (Bl.sp n) i).length) ∧ w = w') := Bl.hid fun h w => IH.out (Bl.sp n) (by omega) i w (by omega) h
      have HI2 : Hid (¬ i < Bl.sp n → ∀ w, Calls Tryd.prog 23 #[.int .i64 ((n - Bl.sp n : Nat) : Int), .int .i64 ((i - Bl.sp n : Nat) : Int)] w fun e w' => e = .returned (.int .i64 (Bl.turnsL (n - Bl.sp n) (i - Bl.sp n)).length) ∧ w = w') := Bl.hid fun h w => IH.out (n - Bl.sp n) (by omega) (i - Bl.sp n) w (by omega) (by omega)
      have Hb1 := Bl.hid (Bl.turnsL_len (Bl.sp n) (Bl.sp n) i (Nat.le_refl _) (by omega))
      have Hb2 := Bl.hid (Bl.turnsL_len (n - Bl.sp n) (n - Bl.sp n) (i - Bl.sp n) (Nat.le_refl _) (by omega))
      clear IH
      go_enter Tryd.func23, Tryd.ntmps23
      go_wp2_with fail
      refine (refsplit_any _ _ (by omega) (by omega)).mono ?_
      rintro e w3 ⟨rfl, hw3⟩
      subst hw3
      rw [Int.toNat_natCast]
      generalize Bl.sp n = q at s1 s2 s3 HL HR HI1 HI2 Hb1 Hb2 ⊢
      by_cases hlt : i < q
      · have HL1 := Bl.hid (HL.out hlt)
        have HI := Bl.hid (HI1.out hlt)
        have hlt' : (i : Int) < (q : Int) := by omega
        obtain ⟨T, hT⟩ : ∃ T, T = (Bl.turnsL q i).length := ⟨_, rfl⟩
        have hT2 : T ≤ 512 := by rw [hT]; have := Hb1.out; omega
        rw [← hT] at HI
        have HT := Bl.hid hT
        clear HL HR HI1 HI2 Hb1 Hb2 hT
        go_wp2_with fail
        refine (HI.out _).mono ?_
        rintro e w4 ⟨rfl, hw4⟩
        subst hw4
        go_wp2_with fail
        go_ret
        refine ⟨?_, rfl⟩
        rw [HL1.out, List.length_cons, ← HT.out]
        show Ending.returned (Value.int _ _) = Ending.returned (Value.int _ _)
        congr 2; omega
      · have HR1 := Bl.hid (HR.out hlt)
        have HI := Bl.hid (HI2.out hlt)
        have hlt' : ¬ ((i : Int) < (q : Int)) := by omega
        have e1 : (n : Int) - (q : Int) = ((n - q : Nat) : Int) := by omega
        have e2 : (i : Int) - (q : Int) = ((i - q : Nat) : Int) := by omega
        obtain ⟨T, hT⟩ : ∃ T, T = (Bl.turnsL (n - q) (i - q)).length := ⟨_, rfl⟩
        have hT2 : T ≤ 512 := by rw [hT]; have := Hb2.out; omega
        rw [← hT] at HI
        have HT := Bl.hid hT
        clear HL HR HI1 HI2 Hb1 Hb2 hT
        go_wp2_with fail
        refine (HI.out _).mono ?_
        rintro e w4 ⟨rfl, hw4⟩
        subst hw4
        go_wp2_with fail
        go_ret
        refine ⟨?_, rfl⟩
        rw [HR1.out, List.length_cons, ← HT.out]
        show Ending.returned (Value.int _ _) = Ending.returned (Value.int _ _)
        congr 2; omega

theorem reflen_any (n i : Int) (w : World) :
    Calls Tryd.prog 23 #[.int .i64 n, .int .i64 i] w fun e w' => e = .returned (.int .i64 (Bl.lenP n i)) ∧ w = w' := by
  by_cases h : n ≤ 512 ∧ 0 ≤ i ∧ i < n
  · obtain ⟨h1, h2, h3⟩ := h
    obtain ⟨j, rfl⟩ := Int.eq_ofNat_of_zero_le h2
    obtain ⟨m, rfl⟩ := Int.eq_ofNat_of_zero_le (a := n) (by omega)
    rw [Bl.lenP_yes (by omega) (by omega)]
    exact reflen_nat m j w (by omega) (by omega)
  · have HL := Bl.hid (Bl.lenP_no (Bl.thereB_no h))
    have hc : 512 < n ∨ (¬ 512 < n ∧ i < 0) ∨ (¬ 512 < n ∧ ¬ i < 0 ∧ n ≤ i) := by omega
    clear h
    rcases hc with h1 | ⟨h1, h2⟩ | ⟨h1, h2, h3⟩
    all_goals
      go_enter Tryd.func23, Tryd.ntmps23
      go_wp2
      go_ret
      exact ⟨by rw [HL.out]; rfl, rfl⟩

set_option maxRecDepth 100000 in
set_option maxHeartbeats 400000 in
theorem digests13_any (v : Value) (ds : List (List Int)) (w : World) (hR : Bl.RdD w v ds) (hd : Bl.Dig ds) (hn : ds.length ≤ 1048576) :
    Calls Tryd.prog 10 #[v] w fun e w' => ∃ p c, e = .returned (.slice p ds.length c) ∧ w'.ownsRow w.heap.size 42 32 (.slice p ds.length c) ds.length (Bl.cellsD ds) ∧ Bl.Ext w w' := by
  obtain ⟨p, c, hvf, hvn, hvc⟩ := hR.form
  subst hvf
  have HR := Bl.hid hR
  have Hd := Bl.hid hd
  have Hown0 := Bl.hid (Bl.owns_nil_lit w 42 w.heap.size (Nat.le_refl _) 32)
  have HE0 := Bl.hid (Bl.ext_alloc w (.cells #[] 42))
  obtain ⟨n, hn0⟩ : ∃ n, n = ds.length := ⟨_, rfl⟩
  rw [← hn0] at hn hvn ⊢
  have Hn := Bl.hid hn0
  clear hR hd hn0
  go_enter Tryd.func10, Tryd.ntmps10
  go_wp2_with fail
  go_loopw [3, 9] (fun o i wr => ∃ (k c1 : Nat) (p1 : Option Addr), k ≤ n ∧ i = .int .i64 k ∧ o = .slice p1 k c1 ∧ wr.ownsRow w.heap.size 42 32 (.slice p1 k c1) k (Bl.cellsD (ds.take k)) ∧ Bl.Ext w wr) (fun _ i _ => n - (intOf i).toNat)
  case atStart => exact ⟨0, 0, _, Nat.zero_le _, rfl, rfl, Hown0.out, HE0.out⟩
  case round =>
    obtain ⟨k, c1, p1, hk, rfl, rfl, hown, hE⟩ := hrel
    have Hown := Bl.hid hown
    have HE := Bl.hid hE
    clear hown hE
    by_cases hlt : k < n
    · obtain ⟨b, o, c', hp, hp1, hp2, hbl, hrg⟩ := Bl.RdD.pos (Bl.Rds.ext HR.out HE.out) Hd.out (by rw [← Hn.out]; omega)
      injection hp with hp hp3 hp4
      clear hp3 hp4
      subst hp
      have hr1 := Bl.digit_at hrg Hd.out (i := k) (by rw [← Hn.out]; exact hlt)
      obtain ⟨hll, _⟩ := Hd.out.get (i := k) (by rw [← Hn.out]; exact hlt)
      have Htk := Bl.hid (Bl.take_snocD ds k (by rw [← Hn.out]; exact hlt))
      obtain ⟨d, hd⟩ : ∃ d, d = ds.getD k [] := ⟨_, rfl⟩
      rw [← hd] at hr1 hll Htk
      have Hld := Bl.hid (Bl.load_ints (P := Tryd.prog) (ty := 25) hr1 Tryd.underlying25 (by kernel_rfl) hll)
      have Hll := Bl.hid hll
      clear hr1 hll hd hp1 hp2 hrg hbl
      go_wp2_with (with_reducible refine Bl.stop_load (ty := 25) ?_)
      refine Bl.go_on ?_
      refine Bl.wpL_load rfl Hld.out ?_
      have HF5 := Bl.hid (fam_new wr 32 .u8 25 #[.int .u8 0, .int .u8 0, .int .u8 0, .int .u8 0, .int .u8 0, .int .u8 0, .int .u8 0, .int .u8 0, .int .u8 0, .int .u8 0, .int .u8 0, .int .u8 0, .int .u8 0, .int .u8 0, .int .u8 0, .int .u8 0, .int .u8 0, .int .u8 0, .int .u8 0, .int .u8 0, .int .u8 0, .int .u8 0, .int .u8 0, .int .u8 0, .int .u8 0, .int .u8 0, .int .u8 0, .int .u8 0, .int .u8 0, .int .u8 0, .int .u8 0, .int .u8 0] rfl)
      have Hst := Bl.hid (Bl.store_ints (P := Tryd.prog) (ty := 25) (k := .u8) (l := d) (n := 32) HF5.out.there (by kernel_rfl) Hll.out)
      have HE6 : Hid (Bl.Ext wr ((wr.alloc (.cells #[.int .u8 0, .int .u8 0, .int .u8 0, .int .u8 0, .int .u8 0, .int .u8 0, .int .u8 0, .int .u8 0, .int .u8 0, .int .u8 0, .int .u8 0, .int .u8 0, .int .u8 0, .int .u8 0, .int .u8 0, .int .u8 0, .int .u8 0, .int .u8 0, .int .u8 0, .int .u8 0, .int .u8 0, .int .u8 0, .int .u8 0, .int .u8 0, .int .u8 0, .int .u8 0, .int .u8 0, .int .u8 0, .int .u8 0, .int .u8 0, .int .u8 0, .int .u8 0] 25)).setCells wr.heap.size 0 (Bl.ints .u8 d))) := Bl.hid (Bl.below_setCells _ _ _ _ (Bl.ext_alloc _ _) (Nat.le_refl _))
      have Hr7 : Hid (((wr.alloc (.cells #[.int .u8 0, .int .u8 0, .int .u8 0, .int .u8 0, .int .u8 0, .int .u8 0, .int .u8 0, .int .u8 0, .int .u8 0, .int .u8 0, .int .u8 0, .int .u8 0, .int .u8 0, .int .u8 0, .int .u8 0, .int .u8 0, .int .u8 0, .int .u8 0, .int .u8 0, .int .u8 0, .int .u8 0, .int .u8 0, .int .u8 0, .int .u8 0, .int .u8 0, .int .u8 0, .int .u8 0, .int .u8 0, .int .u8 0, .int .u8 0, .int .u8 0, .int .u8 0] 25)).setCells wr.heap.size 0 (Bl.ints .u8 d)).rangeAt wr.heap.size 0 (Bl.ints .u8 d)) := Bl.hid (World.rangeAt_setCells_same _ _ _ _ (by rw [Bl.ints_length, Hll.out]; exact HF5.out.there))
      go_wp2_with (with_reducible refine Bl.stop_store (ty := 25) ?_)
      refine Bl.go_on ?_
      refine Bl.wpL_store0 rfl rfl Hst.out ?_
      generalize hWS : (wr.alloc (.cells #[.int .u8 0, .int .u8 0, .int .u8 0, .int .u8 0, .int .u8 0, .int .u8 0, .int .u8 0, .int .u8 0, .int .u8 0, .int .u8 0, .int .u8 0, .int .u8 0, .int .u8 0, .int .u8 0, .int .u8 0, .int .u8 0, .int .u8 0, .int .u8 0, .int .u8 0, .int .u8 0, .int .u8 0, .int .u8 0, .int .u8 0, .int .u8 0, .int .u8 0, .int .u8 0, .int .u8 0, .int .u8 0, .int .u8 0, .int .u8 0, .int .u8 0, .int .u8 0] 25)).setCells wr.heap.size 0 (Bl.ints .u8 d) = W6 at *
      clear hWS Hst HF5 Hld
      generalize wr.heap.size = s7 at *
      go_wp2_with (with_reducible refine Bl.stop_load (ty := 25) ?_)
      refine Bl.go_on ?_
      refine Bl.wpL_load rfl (Bl.load_ints Hr7.out Tryd.underlying25 (by kernel_rfl) Hll.out) ?_
      have Hown2 := Bl.hid (Bl.owns_ext (Bl.owns_ext Hown.out HE6.out) (Bl.ext_alloc W6 (.cells (Bl.ints .u8 d).toArray 42)))
      have Hnew := Bl.hid (Bl.rds_dig W6 42 d Hll.out)
      have HE2 : Hid (Bl.Ext w (W6.alloc (.cells (Bl.ints .u8 d).toArray 42))) := Bl.hid ((HE.out.trans HE6.out).trans (Bl.ext_alloc _ _))
      go_wp2_with (with_reducible refine Bl.stop_build ?_)
      refine Bl.go_on ?_
      refine Bl.wpL_build1 tDig (by decide) rfl (by simp [Hll.out]) ?_
      go_wp2_with (with_reducible refine Bl.stop_append ?_)
      refine Bl.go_on ?_
      refine Bl.wpL_app tDig Hown2.out Hnew.out rfl rfl (by rw [Bl.cellsD_one, Bl.ints_length, Hll.out]) (Bl.cellsD_one' _) (by unfold maxLen; omega) (by omega) HE2.out.size ?_
      intro q3 d3 w3 hown3 hg3 hB3 hK3 hn3 hc3
      have Hown3 := Bl.hid hown3
      have HE3 : Hid (Bl.Ext w w3) := Bl.hid (Below.trans HE2.out hB3)
      clear hown3 hg3 hB3 hK3
      go_wp2_with fail
      go_roundw
      case rel =>
        refine ⟨k + 1, d3, q3, by omega, by go_num, rfl, ?_, HE3.out⟩
        rw [Htk.out, Bl.cellsD_append]
        exact Hown3.out
      case measure => simp [intOf]; omega
    · obtain rfl : k = n := by omega
      have hown := Hown.out
      rw [List.take_of_length_le (by rw [← Hn.out]; exact Nat.le_refl _)] at hown
      have Hown1 := Bl.hid hown
      clear hown
      go_wp2_with fail
      go_ret
      exact ⟨_, _, rfl, Hown1.out, HE.out⟩

set_option maxRecDepth 100000 in
set_option maxHeartbeats 400000 in
theorem same13_any (va vb : Value) (xs ys : List (List Int)) (w : World) (hA : Bl.RdD w va xs) (hB : Bl.RdD w vb ys) (hdx : Bl.Dig xs) (hdy : Bl.Dig ys) :
    Calls Tryd.prog 26 #[va, vb] w fun e w' => e = .returned (.bool (decide (xs = ys))) ∧ Bl.Ext w w' := by
  obtain ⟨pa, ca, hvfa, hvna, hvca⟩ := hA.form
  obtain ⟨pb, cb, hvfb, hvnb, hvcb⟩ := hB.form
  subst hvfa hvfb
  have HA := Bl.hid hA
  have HB := Bl.hid hB
  have Hdx := Bl.hid hdx
  have Hdy := Bl.hid hdy
  unfold maxLen at hvca hvcb
  obtain ⟨n, hn⟩ : ∃ n, n = xs.length := ⟨_, rfl⟩
  obtain ⟨m, hm⟩ : ∃ m, m = ys.length := ⟨_, rfl⟩
  rw [← hn] at ⊢ hvna
  rw [← hm] at ⊢ hvnb
  have Hn := Bl.hid hn
  have Hm := Bl.hid hm
  clear hA hB hdx hdy hn hm
  by_cases hnm : n = m
  · subst hnm
    go_enter Tryd.func26, Tryd.ntmps26
    go_wp2_with fail
    go_loopw [13] (fun i wr => ∃ k : Nat, k ≤ n ∧ i = .int .i64 k ∧ Bl.Ext w wr ∧ Hid (xs.take k = ys.take k)) (fun i _ => n - (intOf i).toNat)
    case atStart => exact ⟨0, Nat.zero_le _, rfl, Below.refl _ _, Bl.hid rfl⟩
    case round =>
      obtain ⟨k, hk, rfl, hE, Htk⟩ := hrel
      have HE := Bl.hid hE
      clear hE
      by_cases hlt : k < n
      · have hla : k < xs.length := by rw [← Hn.out]; exact hlt
        have hlb : k < ys.length := by rw [← Hm.out]; exact hlt
        obtain ⟨b1, o1, c1, hpa, hpa1, hpa2, hbl1, hrg1⟩ := Bl.RdD.pos (Bl.Rds.ext HA.out HE.out) Hdx.out (by omega)
        obtain ⟨b2, o2, c2, hpb, hpb1, hpb2, hbl2, hrg2⟩ := Bl.RdD.pos (Bl.Rds.ext HB.out HE.out) Hdy.out (by omega)
        injection hpa with hpa hpa3 hpa4
        injection hpb with hpb hpb3 hpb4
        clear hpa3 hpa4 hpb3 hpb4
        subst hpa hpb
        have hr1 := Bl.digit_at hrg1 Hdx.out (i := k) hla
        have hr2 := Bl.digit_at hrg2 Hdy.out (i := k) hlb
        obtain ⟨hl1, _⟩ := Hdx.out.get (i := k) hla
        obtain ⟨hl2, _⟩ := Hdy.out.get (i := k) hlb
        have Ht1 := Bl.hid (Bl.take_snocD xs k hla)
        have Ht2 := Bl.hid (Bl.take_snocD ys k hlb)
        obtain ⟨x, hx⟩ : ∃ x, x = xs.getD k [] := ⟨_, rfl⟩
        obtain ⟨y, hy⟩ : ∃ y, y = ys.getD k [] := ⟨_, rfl⟩
        rw [← hx] at hr1 hl1 Ht1
        rw [← hy] at hr2 hl2 Ht2
        have HL1 : Hid (∀ w2, Bl.Ext wr w2 → (Instr.loadAt 42 (.pointer (some ⟨b1, o1 + k * 32, none⟩))).run Tryd.prog w2 = .ok (.agg (Bl.ints .u8 x).toArray) w2) := Bl.hid fun w2 h2 => Bl.load_ints (Bl.rangeAt_ext hr1 h2) Tryd.underlying42 (by kernel_rfl) hl1
        have HL2 : Hid (∀ w2, Bl.Ext wr w2 → (Instr.loadAt 25 (.pointer (some ⟨b2, o2 + k * 32, none⟩))).run Tryd.prog w2 = .ok (.agg (Bl.ints .u8 y).toArray) w2) := Bl.hid fun w2 h2 => Bl.load_ints (Bl.rangeAt_ext hr2 h2) Tryd.underlying25 (by kernel_rfl) hl2
        have Hx := Bl.hid hx
        have Hy := Bl.hid hy
        have Hq : Hid (∀ w, (Op.equalIn 10000 25 (.agg (Bl.ints .u8 x).toArray) (.agg (Bl.ints .u8 y).toArray)).run Tryd.prog w = .ok (decide (x = y)) w) := Bl.hid fun w => Bl.eq10k Tryd.underlying25 Tryd.underlying5 (fun w => by simp [go_sem]) x y hl1 hl2 w
        clear hr1 hr2 hl1 hl2 hrg1 hrg2 hbl1 hbl2 hx hy hla hlb hpa1 hpa2 hpb1 hpb2
        have hk0 : (0 : Int) ≤ (k : Int) := by omega
        have hkl : (k : Int) < (n : Int) := by omega
        by_cases hxy : x = y
        · have heq := Hq.out
          rw [decide_eq_true hxy] at heq
          have Hxy := Bl.hid hxy
          clear hxy Hq
          go_wp2_with fail
          apply Bl.wp_region_ev 8 [16, 17, 18, 19, 20, 21, 22, 23] [Bl.eqv _, Bl.eqv _, Bl.eqv _, Bl.eqv _, Bl.eqv _, Bl.eqv _, Bl.eqv _, Bl.eqv _] (by kernel_rfl) (by kernel_rfl) (by kernel_rfl) (by kernel_rfl)
          case hsteps =>
            refine ⟨?_, ?_, ?_, ?_, ?_, ?_, ?_, ?_, trivial⟩
            all_goals
              intro ev w1 hext hb hd
              have e0 := hb 0 (by decide)
              have e1 := hb 1 (by decide)
              have e5 := hb 5 (by decide)
              clear hb
              simp only [Array.getD_eq_getD_getElem?, List.getElem?_toArray, List.getElem?_cons_succ, List.getElem?_cons_zero, Option.getD_some] at e0 e1 e5
              simp only [Bl.DepsE, List.getElem?_cons_succ, List.getElem?_cons_zero, Option.bind_some, List.getD_cons_succ, List.getD_cons_zero, Bl.eqv, and_true] at hd
              have hc := (Bl.bcell hext).1
              simp only [Bl.Good, Region.wanted, if_true]
              first
              | ((with_reducible refine Bl.goodR_load ?_ (HL1.out _ hext) ?_); exact hd; exact rfl) | ((with_reducible refine Bl.goodR_load ?_ (HL2.out _ hext) ?_); exact hd; exact rfl)
              | (go_simp; first | exact ⟨Below.refl _ _, rfl⟩ | exact ⟨Below.refl _ _, rfl⟩)
          case hmono => exact ⟨Bl.mono_eqv _, Bl.mono_eqv _, Bl.mono_eqv _, Bl.mono_eqv _, Bl.mono_eqv _, Bl.mono_eqv _, Bl.mono_eqv _, Bl.mono_eqv _, trivial⟩
          case hend =>
            intro u w1 hext hend
            simp only [Bl.EndE, List.getElem?_cons_succ, List.getElem?_cons_zero, Option.bind_some, List.getD_cons_succ, List.getD_cons_zero, Bl.eqv, true_and] at hend
            simp only [Bl.fillAct, List.setIfInBounds_toArray, List.set_cons_succ, List.set_cons_zero, List.drop_succ_cons, List.drop_zero, hend]
            have HE2 := Bl.hid (HE.out.trans hext)
            clear hext hend
            go_wp2_with fail
            go_roundw
            case rel => exact ⟨k + 1, by omega, by go_num, HE2.out, Bl.hid (by rw [Ht1.out, Ht2.out, Htk.out, Hxy.out])⟩
            case measure => simp [intOf]; omega
        · have heq := Hq.out
          rw [decide_eq_false hxy] at heq
          have Hne : Hid (¬ xs = ys) := Bl.hid fun q => hxy (by rw [Hx.out, Hy.out, q])
          clear hxy Hq
          go_wp2_with fail
          apply Bl.wp_region_ev 8 [16, 17, 18, 19, 20, 21, 22, 23] [Bl.eqv _, Bl.eqv _, Bl.eqv _, Bl.eqv _, Bl.eqv _, Bl.eqv _, Bl.eqv _, Bl.eqv _] (by kernel_rfl) (by kernel_rfl) (by kernel_rfl) (by kernel_rfl)
          case hsteps =>
            refine ⟨?_, ?_, ?_, ?_, ?_, ?_, ?_, ?_, trivial⟩
            all_goals
              intro ev w1 hext hb hd
              have e0 := hb 0 (by decide)
              have e1 := hb 1 (by decide)
              have e5 := hb 5 (by decide)
              clear hb
              simp only [Array.getD_eq_getD_getElem?, List.getElem?_toArray, List.getElem?_cons_succ, List.getElem?_cons_zero, Option.getD_some] at e0 e1 e5
              simp only [Bl.DepsE, List.getElem?_cons_succ, List.getElem?_cons_zero, Option.bind_some, List.getD_cons_succ, List.getD_cons_zero, Bl.eqv, and_true] at hd
              have hc := (Bl.bcell hext).1
              simp only [Bl.Good, Region.wanted, if_true]
              first
              | ((with_reducible refine Bl.goodR_load ?_ (HL1.out _ hext) ?_); exact hd; exact rfl) | ((with_reducible refine Bl.goodR_load ?_ (HL2.out _ hext) ?_); exact hd; exact rfl)
              | (go_simp; first | exact ⟨Below.refl _ _, rfl⟩ | exact ⟨Below.refl _ _, rfl⟩)
          case hmono => exact ⟨Bl.mono_eqv _, Bl.mono_eqv _, Bl.mono_eqv _, Bl.mono_eqv _, Bl.mono_eqv _, Bl.mono_eqv _, Bl.mono_eqv _, Bl.mono_eqv _, trivial⟩
          case hend =>
            intro u w1 hext hend
            simp only [Bl.EndE, List.getElem?_cons_succ, List.getElem?_cons_zero, Option.bind_some, List.getD_cons_succ, List.getD_cons_zero, Bl.eqv, true_and] at hend
            simp only [Bl.fillAct, List.setIfInBounds_toArray, List.set_cons_succ, List.set_cons_zero, List.drop_succ_cons, List.drop_zero, hend]
            have HE2 := Bl.hid (HE.out.trans hext)
            clear hext hend
            go_wp2_with fail
            go_ret
            exact ⟨by rw [decide_eq_false Hne.out]; rfl, HE2.out⟩
      · obtain rfl : k = n := by omega
        have Heq : Hid (xs = ys) := Bl.hid (by
          have h := Htk.out
          rwa [List.take_of_length_le (by rw [← Hn.out]; exact Nat.le_refl _), List.take_of_length_le (by rw [← Hm.out]; exact Nat.le_refl _)] at h)
        go_wp2_with fail
        go_ret
        exact ⟨by rw [decide_eq_true Heq.out]; rfl, HE.out⟩
  · have Hne : Hid (¬ xs = ys) := Bl.hid fun q => hnm (by rw [Hn.out, Hm.out, q])
    have hnm' : ((n : Int) == (m : Int)) = false := by rw [beq_eq_false_iff_ne]; omega
    go_enter Tryd.func26, Tryd.ntmps26
    go_wp2_with fail
    go_ret
    exact ⟨by rw [decide_eq_false Hne.out]; rfl, Below.refl _ _⟩
end Go.Proofs.YtjmkcenkjnoblaaDoor

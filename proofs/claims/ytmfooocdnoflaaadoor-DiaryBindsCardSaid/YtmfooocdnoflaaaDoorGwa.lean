/- Texts that stood apart, in one: WCntd, WGro4, WGro5. -/
import Derived.Test.YtmfooocdnoflaaaDoorWl0
import Derived.Test.YtmfooocdnoflaaaDoorBA1
import Derived.Test.YtmfooocdnoflaaaDoorBA2
import Derived.BigQuiet
import Derived.Test.YtmfooocdnoflaaaDoorTri0
import Derived.Test.YtmfooocdnoflaaaDoorLib0
/- Walk of growth.counted. -/
namespace Go.Proofs.YtmfooocdnoflaaaDoor
open Go.RowKit Go.Proofs

theorem counted_any (m n : Int) (w : World) : Calls Tryd.prog 36 #[.int .i64 m, .int .i64 n] w fun e w' => e = .returned (.bool (Bl.thereG m n)) ∧ w = w' := by
  by_cases h1 : 1 ≤ m
  · by_cases h2 : m ≤ n
    · by_cases h3 : n ≤ 512
      · have H := Bl.hid (Bl.thereG_mk h1 h2 h3)
        go_enter Tryd.func36, Tryd.ntmps36
        go_wp2
        go_ret
        exact ⟨by rw [H.out]; rfl, rfl⟩
      · have H := Bl.hid (Bl.thereG_no (m := m) (n := n) (by omega))
        go_enter Tryd.func36, Tryd.ntmps36
        go_wp2
        go_ret
        exact ⟨by rw [H.out]; rfl, rfl⟩
    · have H := Bl.hid (Bl.thereG_no (m := m) (n := n) (by omega))
      go_enter Tryd.func36, Tryd.ntmps36
      go_wp2
      go_ret
      exact ⟨by rw [H.out]; rfl, rfl⟩
  · have H := Bl.hid (Bl.thereG_no (m := m) (n := n) (by omega))
    go_enter Tryd.func36, Tryd.ntmps36
    go_wp2
    go_ret
    exact ⟨by rw [H.out]; rfl, rfl⟩
end Go.Proofs.YtmfooocdnoflaaaDoor

/- Walks of growth.steps, Count. -/
namespace Go.Proofs.YtmfooocdnoflaaaDoor
open Go.RowKit Go.Proofs

theorem tStep : Bl.SlT Tryd.prog 83 87 (.agg #[.bool false, .int .i64 0, .int .i64 0]) 3 24 := ⟨Tryd.underlying83, by kernel_rfl, rfl, by decide⟩

set_option maxRecDepth 100000 in
set_option maxHeartbeats 1000000 in
theorem gsteps_any (m0 n0 : Nat) (w : World) (hm : 1 ≤ m0) (hmn : m0 ≤ n0) (hn : n0 ≤ 512) :
    Calls Tryd.prog 37 #[.int .i64 m0, .int .i64 n0] w fun e w' => ∃ p c, e = .returned (.tuple #[.slice p (Bl.stepsL m0 n0 0 true).1.length c, .bool (Bl.stepsL m0 n0 0 true).2.1]) ∧ w'.ownsRow w.heap.size 87 3 (.slice p (Bl.stepsL m0 n0 0 true).1.length c) (Bl.stepsL m0 n0 0 true).1.length (Bl.cellsT (Bl.stepsL m0 n0 0 true).1) ∧ Bl.Ext w w' := by
  have hT := Bl.steps_len_le n0 m0 0 true hm hmn (by omega)
  obtain ⟨T, hTe⟩ : ∃ T, T = (Bl.stepsL m0 n0 0 true).1 := ⟨_, rfl⟩
  obtain ⟨B, hBe⟩ : ∃ B, B = (Bl.stepsL m0 n0 0 true).2.1 := ⟨_, rfl⟩
  rw [← hTe] at hT ⊢
  rw [← hBe]
  have HT := Bl.hid hTe
  have HB := Bl.hid hBe
  have HTl : Hid (T.length ≤ 512) := Bl.hid (by omega)
  clear hTe hT hBe
  go_enter Tryd.func37, Tryd.ntmps37
  go_wp2_with fail
  go_loopw [0, 1, 6, 7, 8] (fun m' n' o f' b' wr => ∃ (m n fr : Nat) (wh : Bool) (p : Option Addr) (k c : Nat) (acc : List (Bool × Nat × Nat)), 1 ≤ m ∧ m ≤ n ∧ n ≤ 512 ∧ fr ≤ 512 ∧ m' = .int .i64 m ∧ n' = .int .i64 n ∧ o = .slice p k c ∧ f' = .int .i64 fr ∧ b' = .bool wh ∧ Hid (fr + n ≤ n0 ∧ k = acc.length ∧ acc ++ (Bl.stepsL m n fr wh).1 = T ∧ (Bl.stepsL m n fr wh).2.1 = B ∧ wr.ownsRow w.heap.size 87 3 (.slice p k c) k (Bl.cellsT acc)) ∧ Bl.Ext w wr) (fun _ n' _ _ _ _ => (intOf n').toNat)
  case atStart => exact ⟨m0, n0, 0, true, none, 0, 0, [], hm, hmn, hn, by omega, rfl, rfl, rfl, rfl, rfl, Bl.hid ⟨by omega, rfl, by rw [HT.out]; rfl, HB.out.symm, World.ownsRow_nil _ _ _ _⟩, Below.refl _ _⟩
  case round =>
    obtain ⟨m, n, fr, wh, p, k, c, acc, hm1, hm2, hn5, hfr, rfl, rfl, rfl, rfl, rfl, HA, hE⟩ := hrel
    have HE := Bl.hid hE
    clear hE
    by_cases h2 : m < n
    · obtain ⟨s1, s2, s3⟩ := Bl.sp_bounds n (by omega) (by omega)
      have hk5 : k ≤ 512 := by
        have := HA.out.2.2.1
        have := congrArg List.length this
        rw [List.length_append] at this
        have := HTl.out
        have := HA.out.2.1
        omega
      have hm3 : (m : Int) < (n : Int) := by omega
      go_wp2_with fail
      refine (split_any _ _ (by omega)).mono ?_
      rintro e w3 ⟨rfl, hw3⟩
      subst hw3
      rw [Int.toNat_natCast]
      have HL := Bl.hid (fun h => Bl.stepsL_left m n fr wh hm1 (by omega) h2 h)
      have HR := Bl.hid (fun h => Bl.stepsL_right m n fr wh hm1 (by omega) h2 h)
      obtain ⟨q, hq⟩ : ∃ q, q = Bl.sp n := ⟨_, rfl⟩
      rw [← hq] at s1 s2 s3 HL HR ⊢
      clear hq
      have hfn : fr + n ≤ 512 := Nat.le_trans HA.out.1 hn
      obtain ⟨f2, hf2⟩ : ∃ f2, f2 = fr + q := ⟨_, rfl⟩
      have He1 : Hid ((fr : Int) + (q : Int) = (f2 : Int)) := Bl.hid (by omega)
      rw [← hf2] at HL HR
      have hb2 : f2 ≤ 512 := by omega
      have Hf2 := Bl.hid hf2
      clear hf2
      by_cases hjq : m ≤ q
      · have HL1 := Bl.hid (HL.out hjq)
        have hjq' : (m : Int) ≤ (q : Int) := by omega
        obtain ⟨f3, hf3⟩ : ∃ f3, f3 = fr + n := ⟨_, rfl⟩
        have He3 : Hid ((fr : Int) + (n : Int) = (f3 : Int)) := Bl.hid (by omega)
        rw [← hf3] at HL1
        clear HL HR hf3
        go_wp2_with (with_reducible refine Bl.stop_build ?_)
        refine Bl.go_on ?_
        refine Bl.wpL_build1 tStep (by decide) rfl rfl ?_
        rw [He1.out, He3.out]
        have Hown := Bl.hid (Bl.owns_ext HA.out.2.2.2.2 (Bl.ext_alloc wr (.cells #[.bool false, .int .i64 f2, .int .i64 f3] 87)))
        have Hnew := Bl.hid (Bl.rds_new1 wr 87 #[.bool false, .int .i64 f2, .int .i64 f3])
        have HE1 : Hid (Bl.Ext w (wr.alloc (.cells #[.bool false, .int .i64 f2, .int .i64 f3] 87))) := Bl.hid (HE.out.trans (Bl.ext_alloc _ _))
        go_wp2_with (with_reducible refine Bl.stop_append ?_)
        refine Bl.go_on ?_
        refine Bl.wpL_app tStep Hown.out Hnew.out rfl rfl rfl (Bl.cellsT_one' [(false, f2, f3)]) (by unfold maxLen; omega) (by omega) HE1.out.size ?_
        intro q3 d3 w3 hown3 hg3 hB3 hK3 hn3 hc3
        have HE3 : Hid (Bl.Ext w w3) := Bl.hid (Below.trans HE1.out hB3)
        have HA3 : Hid (fr + q ≤ n0 ∧ k + 1 = (acc ++ [(false, f2, f3)]).length ∧ (acc ++ [(false, f2, f3)]) ++ (Bl.stepsL m q fr wh).1 = T ∧ (Bl.stepsL m q fr wh).2.1 = B ∧ w3.ownsRow w.heap.size 87 3 (.slice q3 (k + 1) d3) (k + 1) (Bl.cellsT (acc ++ [(false, f2, f3)]))) := by
          obtain ⟨a1, a2, a3, a4, a5⟩ := HA.out
          rw [HL1.out] at a3 a4
          exact Bl.hid ⟨by omega, by rw [List.length_append, a2]; rfl, by rw [List.append_assoc]; exact a3, a4, by rw [Bl.cellsT_append]; exact hown3⟩
        clear hown3 hg3 hB3 hK3 Hown Hnew HE1 HL1
        go_wp2_with fail
        go_roundw
        case rel => exact ⟨m, q, fr, wh, q3, k + 1, d3, _, hm1, hjq, by omega, hfr, rfl, rfl, rfl, rfl, rfl, HA3.out, HE3.out⟩
        case measure => simp [intOf]; omega
      · have HR1 := Bl.hid (HR.out hjq)
        have hjq' : ¬ ((m : Int) ≤ (q : Int)) := by omega
        obtain ⟨m2, hm2'⟩ : ∃ m2, m2 = m - q := ⟨_, rfl⟩
        obtain ⟨n2, hn2'⟩ : ∃ n2, n2 = n - q := ⟨_, rfl⟩
        have e3 : (m : Int) - (q : Int) = (m2 : Int) := by omega
        have e4 : (n : Int) - (q : Int) = (n2 : Int) := by omega
        rw [← hm2', ← hn2'] at HR1
        have b1 : 1 ≤ m2 := by omega
        have b2 : m2 ≤ n2 := by omega
        have b3 : n2 ≤ 512 := by omega
        have b4 : n2 < n := by omega
        have Hn2 := Bl.hid hn2'
        have hqn : Hid (q ≤ n) := Bl.hid (by omega)
        clear HL HR hm2' hn2'
        go_wp2_with (with_reducible refine Bl.stop_build ?_)
        refine Bl.go_on ?_
        refine Bl.wpL_build1 tStep (by decide) rfl rfl ?_
        rw [He1.out]
        have Hown := Bl.hid (Bl.owns_ext HA.out.2.2.2.2 (Bl.ext_alloc wr (.cells #[.bool true, .int .i64 fr, .int .i64 f2] 87)))
        have Hnew := Bl.hid (Bl.rds_new1 wr 87 #[.bool true, .int .i64 fr, .int .i64 f2])
        have HE1 : Hid (Bl.Ext w (wr.alloc (.cells #[.bool true, .int .i64 fr, .int .i64 f2] 87))) := Bl.hid (HE.out.trans (Bl.ext_alloc _ _))
        go_wp2_with (with_reducible refine Bl.stop_append ?_)
        refine Bl.go_on ?_
        refine Bl.wpL_app tStep Hown.out Hnew.out rfl rfl rfl (Bl.cellsT_one' [(true, fr, f2)]) (by unfold maxLen; omega) (by omega) HE1.out.size ?_
        intro q3 d3 w3 hown3 hg3 hB3 hK3 hn3 hc3
        have HE3 : Hid (Bl.Ext w w3) := Bl.hid (Below.trans HE1.out hB3)
        have HA3 : Hid (f2 + n2 ≤ n0 ∧ k + 1 = (acc ++ [(true, fr, f2)]).length ∧ (acc ++ [(true, fr, f2)]) ++ (Bl.stepsL m2 n2 f2 false).1 = T ∧ (Bl.stepsL m2 n2 f2 false).2.1 = B ∧ w3.ownsRow w.heap.size 87 3 (.slice q3 (k + 1) d3) (k + 1) (Bl.cellsT (acc ++ [(true, fr, f2)]))) := by
          obtain ⟨a1, a2, a3, a4, a5⟩ := HA.out
          rw [HR1.out] at a3 a4
          exact Bl.hid ⟨by have := Hf2.out; have := Hn2.out; have := hqn.out; omega, by rw [List.length_append, a2]; rfl, by rw [List.append_assoc]; exact a3, a4, by rw [Bl.cellsT_append]; exact hown3⟩
        clear hown3 hg3 hB3 hK3 Hown Hnew HE1 HR1
        go_wp2_with fail
        go_roundw
        case rel => exact ⟨m2, n2, f2, false, q3, k + 1, d3, _, b1, b2, b3, hb2, by first | rfl | (rw [e3]), by first | rfl | (rw [e4]), rfl, congrArg (Value.int .i64) He1.out, rfl, HA3.out, HE3.out⟩
        case measure => simp [intOf]; omega
    · obtain rfl : m = n := by omega
      obtain ⟨a1, a2, a3, a4, a5⟩ := HA.out
      rw [Bl.stepsL_end _ _ _ _ (Nat.lt_irrefl _)] at a3 a4
      rw [show acc ++ (([], wh, fr) : List (Bool × Nat × Nat) × Bool × Nat).1 = acc from List.append_nil _] at a3
      subst a3
      have a4' : wh = B := a4
      subst a4'
      have Ho := Bl.hid a5
      have Hk := Bl.hid a2
      clear a1 a2 a4 a5 HA
      go_wp2_with fail
      go_ret2
      have HT1 := Bl.hid HT.out
      refine ⟨p, c, ?_, ?_, HE.out⟩
      · rw [← Hk.out]; rfl
      · rw [← Hk.out]; exact Ho.out
end Go.Proofs.YtmfooocdnoflaaaDoor

/- Walks of growth.Count, baileeref14.Count. -/
namespace Go.Proofs.Bl
open Go
theorem cntI_no {m n : Int} (h : thereG m n = false) : cntI m n = -1 := by unfold cntI; rw [h]; rfl
theorem cntI_yes {m n : Nat} (h1 : 1 ≤ m) (h2 : m ≤ n) (h3 : n ≤ 512) : cntI m n = (cntG m n true : Int) := by
  unfold cntI
  rw [if_pos (thereG_mk (by omega) (by omega) (by omega))]; rfl
theorem cntG_le (m n : Nat) (w : Bool) (h1 : 1 ≤ m) (h2 : m ≤ n) (h3 : n ≤ 512) : cntG m n w ≤ 512 := by
  have := steps_len_le n m 0 w h1 h2 (by omega)
  unfold cntG
  split <;> omega
end Go.Proofs.Bl
namespace Go.Proofs.YtmfooocdnoflaaaDoor
open Go.RowKit Go.Proofs

set_option maxRecDepth 100000 in
theorem gcount_any (m n : Int) (w : World) :
    Calls Tryd.prog 70 #[.int .i64 m, .int .i64 n] w fun e w' => e = .returned (.int .i64 (Bl.cntI m n)) ∧ Bl.Ext w w' := by
  by_cases h : 1 ≤ m ∧ m ≤ n ∧ n ≤ 512
  · obtain ⟨h1, h2, h3⟩ := h
    have hb := Bl.thereG_mk h1 h2 h3
    obtain ⟨a, rfl⟩ := Int.eq_ofNat_of_zero_le (a := m) (by omega)
    obtain ⟨b, rfl⟩ := Int.eq_ofNat_of_zero_le (a := n) (by omega)
    have HB := Bl.hid hb
    have HC := Bl.hid (Bl.cntI_yes (m := a) (n := b) (by omega) (by omega) (by omega))
    have HS := Bl.hid (gsteps_any a b w (by omega) (by omega) (by omega))
    have hle := Bl.steps_len_le b a 0 true (by omega) (by omega) (by omega)
    obtain ⟨T, hT⟩ : ∃ T, T = (Bl.stepsL a b 0 true).1.length := ⟨_, rfl⟩
    obtain ⟨W, hW⟩ : ∃ W, W = (Bl.stepsL a b 0 true).2.1 := ⟨_, rfl⟩
    have HCT : Hid (Bl.cntG a b true = T + (if W = true then 0 else 1)) := Bl.hid (by rw [hT, hW]; rfl)
    rw [← hT] at HS hle
    rw [← hW] at HS
    have hb5 : T ≤ 512 := by omega
    clear hb hT hW h1 h2 h3 hle
    go_enter Tryd.func70, Tryd.ntmps70
    go_wp2_with fail
    refine (counted_any _ _ _).mono ?_
    rintro e w1 ⟨rfl, hw⟩
    subst hw
    rw [HB.out]
    go_wp2_with fail
    refine HS.out.mono ?_
    rintro e w2 ⟨p, c, rfl, _, hE⟩
    have HE := Bl.hid hE
    clear hE
    cases W with
    | true =>
      go_wp2_with fail
      go_ret
      exact ⟨by rw [HC.out, HCT.out]; rfl, HE.out⟩
    | false =>
      go_wp2_with fail
      go_ret
      exact ⟨by rw [HC.out, HCT.out]; rfl, HE.out⟩
  · have hb := Bl.thereG_no h
    have HL := Bl.hid (Bl.cntI_no hb)
    have HB := Bl.hid hb
    clear hb h
    go_enter Tryd.func70, Tryd.ntmps70
    go_wp2_with fail
    refine (counted_any _ _ _).mono ?_
    rintro e w1 ⟨rfl, hw⟩
    subst hw
    rw [HB.out]
    go_wp2_with fail
    go_ret
    exact ⟨by rw [HL.out]; rfl, Below.refl _ _⟩

set_option maxRecDepth 100000 in
theorem refgcount_nat : ∀ (n m : Nat) (wh : Bool) (w : World), 1 ≤ m → m ≤ n → n ≤ 512 →
    Calls Tryd.prog 43 #[.int .i64 m, .int .i64 n, .bool wh] w fun e w' => e = .returned (.int .i64 (Bl.cntG m n wh)) ∧ w = w' := by
  intro n
  induction n using Nat.strongRecOn with
  | _ n ih =>
    intro m wh w hm hmn hn
    have IH := Bl.hid ih
    clear ih
    by_cases h1 : m = n
    · subst h1
      have HL := Bl.hid (Bl.cntG_end m wh)
      cases wh with
      | true =>
        go_enter Tryd.func43, Tryd.ntmps43
        go_wp2_with fail
        go_ret
        exact ⟨by rw [HL.out]; rfl, rfl⟩
      | false =>
        go_enter Tryd.func43, Tryd.ntmps43
        go_wp2_with fail
        go_ret
        exact ⟨by rw [HL.out]; rfl, rfl⟩
    · have hb1 : ((m : Int) == (n : Int)) = false := by rw [beq_eq_false_iff_ne]; omega
      obtain ⟨s1, s2, s3⟩ := Bl.sp_bounds n (by omega) (by omega)
      have HL := Bl.hid (fun h => Bl.cntG_left m n wh hm (by omega) (by omega) h)
      have HR := Bl.hid (fun h => Bl.cntG_right m n wh hm (by omega) (by omega) h)
      have HI1 : Hid (m ≤ Bl.sp n → ∀ w, Calls Tryd.prog 43 #[.int .i64 m, .int .i64 (Bl.sp n), .bool wh] w fun e w' => e = .returned (.int .i64 (Bl.cntG m (Bl.sp n) wh)) ∧ w = w') := Bl.hid fun h w => IH.out (Bl.sp n) (by omega) m wh w hm h (by omega)
      have HI2 : Hid (¬ m ≤ Bl.sp n → ∀ w, Calls Tryd.prog 43 #[.int .i64 ((m - Bl.sp n : Nat) : Int), .int .i64 ((n - Bl.sp n : Nat) : Int), .bool false] w fun e w' => e = .returned (.int .i64 (Bl.cntG (m - Bl.sp n) (n - Bl.sp n) false)) ∧ w = w') := Bl.hid fun h w => IH.out (n - Bl.sp n) (by omega) (m - Bl.sp n) false w (by omega) (by omega) (by omega)
      have Hb1 : Hid (m ≤ Bl.sp n → Bl.cntG m (Bl.sp n) wh ≤ 512) := Bl.hid fun h => Bl.cntG_le m (Bl.sp n) wh hm h (by omega)
      have Hb2 : Hid (¬ m ≤ Bl.sp n → Bl.cntG (m - Bl.sp n) (n - Bl.sp n) false ≤ 512) := Bl.hid fun h => Bl.cntG_le (m - Bl.sp n) (n - Bl.sp n) false (by omega) (by omega) (by omega)
      clear IH
      go_enter Tryd.func43, Tryd.ntmps43
      go_wp2_with fail
      refine (refsplit_any _ _ (by omega) (by omega)).mono ?_
      rintro e w3 ⟨rfl, hw3⟩
      subst hw3
      rw [Int.toNat_natCast]
      generalize Bl.sp n = q at s1 s2 s3 HL HR HI1 HI2 Hb1 Hb2 ⊢
      by_cases hlt : m ≤ q
      · have HL1 := Bl.hid (HL.out hlt)
        have HI := Bl.hid (HI1.out hlt)
        have hlt' : (m : Int) ≤ (q : Int) := by omega
        have hT2 := Hb1.out hlt
        obtain ⟨T, hT⟩ : ∃ T, T = Bl.cntG m q wh := ⟨_, rfl⟩
        rw [← hT] at HI hT2
        have HT := Bl.hid hT
        clear HL HR HI1 HI2 Hb1 Hb2 hT
        go_wp2_with fail
        refine (HI.out _).mono ?_
        rintro e w4 ⟨rfl, hw4⟩
        subst hw4
        go_wp2_with fail
        go_ret
        refine ⟨?_, rfl⟩
        rw [HL1.out, ← HT.out]
        show Ending.returned (Value.int _ _) = Ending.returned (Value.int _ _)
        congr 2
      · have HR1 := Bl.hid (HR.out hlt)
        have HI := Bl.hid (HI2.out hlt)
        have hlt' : ¬ ((m : Int) ≤ (q : Int)) := by omega
        have e1 : (n : Int) - (q : Int) = ((n - q : Nat) : Int) := by omega
        have e2 : (m : Int) - (q : Int) = ((m - q : Nat) : Int) := by omega
        have hT2 := Hb2.out hlt
        obtain ⟨T, hT⟩ : ∃ T, T = Bl.cntG (m - q) (n - q) false := ⟨_, rfl⟩
        rw [← hT] at HI hT2
        have HT := Bl.hid hT
        clear HL HR HI1 HI2 Hb1 Hb2 hT
        go_wp2_with fail
        refine (HI.out _).mono ?_
        rintro e w4 ⟨rfl, hw4⟩
        subst hw4
        go_wp2_with fail
        go_ret
        refine ⟨?_, rfl⟩
        rw [HR1.out, ← HT.out]
        show Ending.returned (Value.int _ _) = Ending.returned (Value.int _ _)
        congr 2
end Go.Proofs.YtmfooocdnoflaaaDoor

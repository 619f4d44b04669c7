/- Walk of the law ChanceCounts. -/
import Derived.Test.YtkndnmpdklidkaaDoorCl1
import Derived.Test.YtkndnmpdklidkaaDoorCh10
import Derived.Test.YtkndnmpdklidkaaDoorCnt
import Derived.RegionTactic
import Derived.BigRegion
namespace Go.Proofs.Bl
open Go Go.RowKit
theorem wrap64_in (x : Int) (h0 : 0 ≤ x) (h1 : x ≤ 1000000) : wrap64 x = x := by unfold wrap64; omega
theorem cnt_n (s : Int) : ∃ n : Nat, 1 ≤ n ∧ n ≤ 10 ∧ wrap64 (1 + wrap64 ((IntKind.u64.wrap s).tmod 10)) = (n : Int) := by
  have h0 : 0 ≤ IntKind.u64.wrap s := by show 0 ≤ s % _; exact Int.emod_nonneg _ (by decide)
  rw [Int.tmod_eq_emod_of_nonneg h0]
  obtain ⟨x, hx⟩ : ∃ x, x = IntKind.u64.wrap s % 10 := ⟨_, rfl⟩
  have h1 : 0 ≤ x ∧ x < 10 := by omega
  rw [← hx, wrap64_in x h1.1 (by omega), wrap64_in (1 + x) (by omega) (by omega)]
  exact ⟨(1 + x).toNat, by omega, by omega, by omega⟩
theorem cnt_k (p : Int) (n : Nat) (h : 1 ≤ n) (h2 : n ≤ 10) : ∃ k : Nat, 1 ≤ k ∧ k ≤ n ∧ wrap64 (1 + wrap64 ((IntKind.u64.wrap p).tmod (IntKind.u64.wrap (n : Int)))) = (k : Int) := by
  have h0 : 0 ≤ IntKind.u64.wrap p := by show 0 ≤ p % _; exact Int.emod_nonneg _ (by decide)
  have hn : IntKind.u64.wrap (n : Int) = (n : Int) := Int.emod_eq_of_lt (by omega) (by simp [IntKind.bits]; omega)
  rw [hn, Int.tmod_eq_emod_of_nonneg h0]
  obtain ⟨x, hx⟩ : ∃ x, x = IntKind.u64.wrap p % (n : Int) := ⟨_, rfl⟩
  have h1 : 0 ≤ x := by rw [hx]; exact Int.emod_nonneg _ (by omega)
  have h3 : x < (n : Int) := by rw [hx]; exact Int.emod_lt_of_pos _ (by omega)
  rw [← hx, wrap64_in x h1 (by omega), wrap64_in (1 + x) (by omega) (by omega)]
  exact ⟨(1 + x).toNat, by omega, by omega, by omega⟩
theorem be_two (x : Nat) (h : x ≤ 65535) : be [(x : Int) / 256, (x : Int) % 256] = x := by
  rw [be_cons, be_cons, be_nil]
  simp
  omega
end Go.Proofs.Bl
namespace Go.Proofs.YtkndnmpdklidkaaDoor
open Go.RowKit Go.Proofs

set_option maxRecDepth 100000 in
set_option maxHeartbeats 2000000 in
theorem counts_all (s p : Int) (l : List Bool) (w : World) (hl : l.length = 10) :
    Calls Tryd.prog 4 #[.int .i64 s, .int .i64 p, .agg (l.map Value.bool).toArray] w fun e w' => e = .returned (.bool true) ∧ Bl.Ext w w' := by
  have HE0 := Bl.hid (Bl.ext_alloc w (.cells (l.map Value.bool).toArray 32))
  have hcell : ∀ w1, Bl.Ext (w.alloc (.cells (l.map Value.bool).toArray 32)) w1 → ∀ j, j < 10 → w1.cell? ⟨w.heap.size, j, none⟩ = some (.bool (l.getD j false)) := fun w1 h1 j hj => ((Bl.bcell h1).1 _ j (by simp)).trans (by
    rw [World.cell?_alloc_new]
    simp [List.getD_eq_getElem?_getD, List.getElem?_eq_getElem (show j < l.length by omega)])
  obtain ⟨bad, hbad⟩ : ∃ bad : Nat → Bool, bad = fun j => l.getD j false := ⟨_, rfl⟩
  have hcell : ∀ w1, Bl.Ext (w.alloc (.cells (l.map Value.bool).toArray 32)) w1 → ∀ j, j < 10 → w1.cell? ⟨w.heap.size, j, none⟩ = some (.bool (bad j)) := by rw [hbad]; exact hcell
  have HCell := Bl.hid hcell
  clear hbad hcell
  obtain ⟨n, hn1, hn10, hn⟩ := Bl.cnt_n s
  obtain ⟨k, hk1, hkn, hk⟩ := Bl.cnt_k p n hn1 hn10
  have hwn : IntKind.u64.wrap (n : Int) = (n : Int) := Int.emod_eq_of_lt (by omega) (by simp [IntKind.bits]; omega)
  rw [hwn] at hk
  have hn0 : ¬ ((n : Int) = 0) := by omega
  have Hn := Bl.hid hn
  have Hk := Bl.hid hk
  go_enter Tryd.func4, Tryd.ntmps4
  go_wp2_with fail
  refine (alive37 _).mono ?_
  rintro e w1 ⟨rfl, hE1⟩
  have HE1 := Bl.hid hE1
  clear hE1
  go_wp2_with fail
  rw [Hn.out, Hk.out]
  clear hn hk hwn hn0
  have HC1 := Bl.hid (HCell.out w1 HE1.out)
  go_loop [7, 10] (fun c j => ∃ m : Nat, m ≤ n ∧ j = .int .i64 m ∧ c = .int .i64 (Bl.wrC bad m : Nat)) (fun _ j => n - (intOf j).toNat)
  case atStart => exact ⟨0, Nat.zero_le _, rfl, rfl⟩
  case round =>
    obtain ⟨m, hm, rfl, rfl⟩ := hrel
    have hwl := Bl.wrC_le bad m
    by_cases hlt : m < n
    · have hc := HC1.out m (by omega)
      have hsucc := Bl.hid (show Bl.wrC bad (m + 1) = Bl.wrC bad m + if bad m = true then 1 else 0 from rfl)
      obtain ⟨x, hx⟩ : ∃ x, x = Bl.wrC bad m := ⟨_, rfl⟩
      rw [← hx] at hsucc hwl ⊢
      have hmi : (m : Int) < (n : Int) := by omega
      have hm10 : (m : Int) < 10 := by omega
      clear hx
      by_cases hb : bad m = true
      · have Hb := Bl.hid hb
        rw [hb] at hc
        clear hb
        go_wp2_with fail
        go_round
        case rel => exact ⟨m + 1, by omega, by simp, by rw [hsucc.out, if_pos Hb.out]; simp⟩
        case measure => simp [intOf]; omega
      · have hb' : bad m = false := by simpa using hb
        have Hb := Bl.hid hb'
        rw [hb'] at hc
        clear hb hb'
        go_wp2_with fail
        go_round
        case rel => exact ⟨m + 1, by omega, by simp, by rw [hsucc.out, if_neg (by rw [Hb.out]; decide)]; simp⟩
        case measure => simp [intOf]; omega
    · obtain rfl : m = n := by omega
      obtain ⟨x, hx⟩ : ∃ x, x = Bl.wrC bad m := ⟨_, rfl⟩
      rw [← hx] at hwl ⊢
      have Hx := Bl.hid hx
      obtain ⟨M, hM⟩ : ∃ M, M = 2 ^ m := ⟨_, rfl⟩
      have hM2 : M ≤ 1024 := by rw [hM]; exact Nat.pow_le_pow_right (by decide) hn10
      have hMw : IntKind.i64.wrap ((2 : Int) ^ m) = (M : Int) := by
        rw [hM, show ((2 : Int) ^ m) = ((2 ^ m : Nat) : Int) from by simp]
        rw [hM] at hM2
        exact IntWalk.i64_in _ (by omega)
      have HM := Bl.hid hM
      clear hx hM
      go_wp2_with fail
      obtain ⟨wv, hwv⟩ : ∃ wv, wv = Bl.wyC bad m k M := ⟨_, rfl⟩
      obtain ⟨av, hav⟩ : ∃ av, av = Bl.alC bad m k M := ⟨_, rfl⟩
      go_loop [8, 9, 11] (fun ways all c => ∃ C : Nat, C ≤ M ∧ c = .int .i64 C ∧ ways = .int .i64 (Bl.wyC bad m k C : Nat) ∧ all = .int .i64 (Bl.alC bad m k C : Nat)) (fun _ _ c => M - (intOf c).toNat)
      case atStart => exact ⟨0, Nat.zero_le _, rfl, rfl, rfl⟩
      case round =>
        obtain ⟨C, hC, rfl, rfl, rfl⟩ := hrel
        have hwl2 := Bl.wyC_le bad m k C
        have hal2 := Bl.alC_le bad m k C
        by_cases hltC : C < M
        · have hCi : (C : Int) < (M : Int) := by omega
          have hs1 := Bl.hid (show Bl.wyC bad m k (C + 1) = Bl.wyC bad m k C + if (Bl.mbs bad C m).1 = k ∧ (Bl.mbs bad C m).2 = false then 1 else 0 from rfl)
          have hs2 := Bl.hid (show Bl.alC bad m k (C + 1) = Bl.alC bad m k C + if (Bl.mbs bad C m).1 = k then 1 else 0 from rfl)
          obtain ⟨ww, hww⟩ : ∃ ww, ww = Bl.wyC bad m k C := ⟨_, rfl⟩
          obtain ⟨aa, haa⟩ : ∃ aa, aa = Bl.alC bad m k C := ⟨_, rfl⟩
          rw [← hww] at hs1 hwl2 ⊢
          rw [← haa] at hs2 hal2 ⊢
          clear hww haa hwv hav
          go_wp2_with fail
          go_loop [12, 13, 14] (fun many hit j => ∃ q : Nat, q ≤ m ∧ j = .int .i64 q ∧ many = .int .i64 ((Bl.mbs bad C q).1 : Nat) ∧ hit = .bool (Bl.mbs bad C q).2) (fun _ _ j => m - (intOf j).toNat)
          case atStart => exact ⟨0, Nat.zero_le _, rfl, rfl, rfl⟩
          case round =>
            obtain ⟨q, hq, rfl, rfl, rfl⟩ := hrel
            have hml := Bl.mbs_le bad C q
            by_cases hltq : q < m
            · have hc := HC1.out q (by omega)
              have hqi : (q : Int) < (m : Int) := by omega
              have hq10 : (q : Int) < 10 := by omega
              have hmb := Bl.hid (show Bl.mbs bad C (q + 1) = if C / 2 ^ q % 2 = 1 then ((Bl.mbs bad C q).1 + 1, (Bl.mbs bad C q).2 || bad q) else Bl.mbs bad C q from rfl)
              obtain ⟨many, hmany⟩ : ∃ many, many = (Bl.mbs bad C q).1 := ⟨_, rfl⟩
              obtain ⟨hit, hhit⟩ : ∃ hit, hit = (Bl.mbs bad C q).2 := ⟨_, rfl⟩
              have hdv : ((C : Int) / 2 ^ q) = ((C / 2 ^ q : Nat) : Int) := by simp
              obtain ⟨D, hD⟩ : ∃ D, D = C / 2 ^ q := ⟨_, rfl⟩
              have hDC : D ≤ C := by rw [hD]; exact Nat.div_le_self _ _
              rw [← hmany, ← hhit, ← hD] at hmb
              rw [← hD] at hdv
              rw [← hmany] at hml
              rw [← hmany, ← hhit]
              have HMany := Bl.hid hmany
              have HHit := Bl.hid hhit
              clear hmany hhit hD
              by_cases hbit : D % 2 = 1
              · have hb1 : ((D : Int) % 2 == 1) = true := by simp; omega
                have Hmb := Bl.hid (hmb.out.trans (if_pos hbit))
                clear hmb hbit
                cases hit with
                | false =>
                  go_wp2_with fail
                  go_round
                  case rel => exact ⟨q + 1, by omega, by simp, by rw [Hmb.out]; simp, by rw [Hmb.out]; rfl⟩
                  case measure => simp [intOf]; omega
                | true =>
                  go_wp2_with fail
                  go_round
                  case rel => exact ⟨q + 1, by omega, by simp, by rw [Hmb.out]; simp, by rw [Hmb.out]; rfl⟩
                  case measure => simp [intOf]; omega
              · have hb1 : ((D : Int) % 2 == 1) = false := by simp; omega
                have Hmb := Bl.hid (hmb.out.trans (if_neg hbit))
                clear hmb hbit
                go_wp2_with fail
                go_round
                case rel => exact ⟨q + 1, by omega, by simp, by rw [Hmb.out, HMany.out], by rw [Hmb.out, HHit.out]⟩
                case measure => simp [intOf]; omega
            · obtain rfl : q = m := by omega
              obtain ⟨many, hmany⟩ : ∃ many, many = (Bl.mbs bad C q).1 := ⟨_, rfl⟩
              obtain ⟨hit, hhit⟩ : ∃ hit, hit = (Bl.mbs bad C q).2 := ⟨_, rfl⟩
              rw [← hmany, ← hhit] at hs1
              rw [← hmany] at hs2 hml
              rw [← hmany, ← hhit]
              clear hmany hhit
              by_cases hmk : many = k
              · have hk1b : ((many : Int) == (k : Int)) = true := by simp; omega
                have Hs2 := Bl.hid (hs2.out.trans (by rw [if_pos hmk]))
                cases hit with
                | false =>
                  have Hs1 := Bl.hid (hs1.out.trans (by rw [if_pos ⟨hmk, rfl⟩]))
                  clear hs1 hs2 hmk
                  go_wp2_with fail
                  go_round
                  case rel => exact ⟨C + 1, by omega, by simp, by rw [Hs1.out]; simp, by rw [Hs2.out]; simp⟩
                  case measure => simp [intOf]; omega
                | true =>
                  have Hs1 := Bl.hid (hs1.out.trans (by rw [if_neg (fun h => by cases h.2)]))
                  clear hs1 hs2 hmk
                  go_wp2_with fail
                  go_round
                  case rel => exact ⟨C + 1, by omega, by simp, by rw [Hs1.out]; simp, by rw [Hs2.out]; simp⟩
                  case measure => simp [intOf]; omega
              · have hk1b : ((many : Int) == (k : Int)) = false := by simp; omega
                have Hs2 := Bl.hid (hs2.out.trans (by rw [if_neg hmk]))
                have Hs1 := Bl.hid (hs1.out.trans (by rw [if_neg (fun h => hmk h.1)]))
                clear hs1 hs2 hmk
                go_wp2_with fail
                go_round
                case rel => exact ⟨C + 1, by omega, by simp, by rw [Hs1.out]; simp, by rw [Hs2.out]; simp⟩
                case measure => simp [intOf]; omega
        · obtain rfl : C = M := by omega
          have hwf : Bl.wyC bad m k C = Bl.bin (m - x) k := by rw [HM.out, Hx.out]; exact Bl.wyC_full bad m k
          have haf : Bl.alC bad m k C = Bl.bin m k := by rw [HM.out]; exact Bl.alC_full bad m k
          rw [hwf] at hwl2 ⊢
          rw [haf] at hal2 ⊢
          have HMs := miss_in (m : Int) (x : Int) (k : Int) w1 (by omega) (by omega) (by omega) (by omega) (by omega) (by omega) (by omega)
          rw [show ((m : Int) - (x : Int)).toNat = m - x from by omega, Int.toNat_natCast, Int.toNat_natCast] at HMs
          obtain ⟨W, hW⟩ : ∃ W, W = Bl.bin (m - x) k := ⟨_, rfl⟩
          obtain ⟨A, hA⟩ : ∃ A, A = Bl.bin m k := ⟨_, rfl⟩
          rw [← hW] at HMs hwl2 ⊢
          rw [← hA] at HMs hal2 ⊢
          have HMs := Bl.hid HMs
          clear hW hA hwf haf hwv hav
          go_wp2_with fail
          refine HMs.out.mono ?_
          rintro e w2 ⟨u, v, rfl, hu, hv, hE2⟩
          obtain ⟨q1, c1, rfl, _, _⟩ := hu.form
          obtain ⟨q2, c2, rfl, _, _⟩ := hv.form
          have HX := Bl.hid (Bl.ext_alloc w2 (.cells #[.slice q1 (Bl.tob W).length c1, .slice q2 (Bl.tob A).length c2] 35))
          have Hu := Bl.hid (hu.ext HX.out)
          have Hv := Bl.hid (hv.ext HX.out)
          have m0 := World.cell?_alloc_new w2 #[.slice q1 (Bl.tob W).length c1, .slice q2 (Bl.tob A).length c2] 35 0
          have m1 := World.cell?_alloc_new w2 #[.slice q1 (Bl.tob W).length c1, .slice q2 (Bl.tob A).length c2] 35 1
          have HE2 := Bl.hid (HE0.out.trans (HE1.out.trans (hE2.trans HX.out)))
          clear hE2 hu hv
          go_wp2_with fail
          obtain ⟨W2, hW2⟩ : ∃ W2, W2 = w2.alloc (.cells #[.slice q1 (Bl.tob W).length c1, .slice q2 (Bl.tob A).length c2] 35) := ⟨_, rfl⟩
          rw [← hW2] at Hu Hv m0 m1 HE2 ⊢
          clear hW2 HX
          have hW5 : W ≤ 65535 := by omega
          have hA5 : A ≤ 65535 := by omega
          have wt : (W : Int).tmod 256 = (W : Int) % 256 := Int.tmod_eq_emod_of_nonneg (by omega)
          have wd : (W : Int).tdiv 256 = (W : Int) / 256 := Int.tdiv_eq_ediv_of_nonneg (by omega)
          have at' : (A : Int).tmod 256 = (A : Int) % 256 := Int.tmod_eq_emod_of_nonneg (by omega)
          have ad : (A : Int).tdiv 256 = (A : Int) / 256 := Int.tdiv_eq_ediv_of_nonneg (by omega)
          have w1W : IntKind.i64.wrap ((W : Int) / 256) = (W : Int) / 256 := IntWalk.i64_in _ (by omega)
          have w2W : IntKind.u8.wrap ((W : Int) / 256) = (W : Int) / 256 := Int.emod_eq_of_lt (by omega) (by simp [IntKind.bits]; omega)
          have w3W : IntKind.u8.wrap ((W : Int) % 256) = (W : Int) % 256 := Int.emod_eq_of_lt (by omega) (by simp [IntKind.bits]; omega)
          have w1A : IntKind.i64.wrap ((A : Int) / 256) = (A : Int) / 256 := IntWalk.i64_in _ (by omega)
          have w2A : IntKind.u8.wrap ((A : Int) / 256) = (A : Int) / 256 := Int.emod_eq_of_lt (by omega) (by simp [IntKind.bits]; omega)
          have w3A : IntKind.u8.wrap ((A : Int) % 256) = (A : Int) % 256 := Int.emod_eq_of_lt (by omega) (by simp [IntKind.bits]; omega)
          have HB1 := Bl.hid (fun (u : Value) wq (hu : Bl.Rd wq .u8 u [(W : Int) / 256, (W : Int) % 256]) => bits_any u _ wq hu (by simp) (fun y hy => by simp at hy; omega))
          have HB2 := Bl.hid (fun (u : Value) wq (hu : Bl.Rd wq .u8 u [(A : Int) / 256, (A : Int) % 256]) => bits_any u _ wq hu (by simp) (fun y hy => by simp at hy; omega))
          rw [Bl.be_two W hW5] at HB1
          rw [Bl.be_two A hA5] at HB2
          have htW := Bl.tb_len_le 16 W (by omega)
          have htA := Bl.tb_len_le 16 A (by omega)
          have HS1 := Bl.hid (fun (u : Value) wq (h : Bl.Ext W2 wq) (hu : Bl.Rd wq .u8 u (Bl.tb W)) => same_any (.slice q1 (Bl.tob W).length c1) u W _ wq (Hu.out.ext h) hu (by omega) (Bl.tb_bit _) (Bl.lb_tb _))
          have HS2 := Bl.hid (fun (u : Value) wq (h : Bl.Ext W2 wq) (hu : Bl.Rd wq .u8 u (Bl.tb A)) => same_any (.slice q2 (Bl.tob A).length c2) u A _ wq (Hv.out.ext h) hu (by omega) (Bl.tb_bit _) (Bl.lb_tb _))
          apply Bl.wp_region_ev 28 [83, 84, 85, 86, 87, 88, 89, 90, 91, 92, 93, 94, 95, 96, 97, 98, 99, 100, 101, 102, 103, 104, 105, 106, 107, 108, 109, 110] [Bl.eqv _, Bl.eqv (.bool true), Bl.eqv (.bool true), Bl.eqv _, Bl.eqv (.slice q1 (Bl.tob W).length c1), Bl.eqv _, Bl.eqv (.int .i64 ((W : Int) / 256)), Bl.eqv (.int .u8 ((W : Int) / 256)), Bl.eqv _, Bl.eqv (.int .i64 ((W : Int) % 256)), Bl.eqv (.int .u8 ((W : Int) % 256)), (fun v w' => Bl.Rd w' .u8 v [(W : Int) / 256, (W : Int) % 256]), (fun v w' => Bl.Rd w' .u8 v (Bl.tb W)), Bl.eqv (.bool true), Bl.eqv (.bool true), Bl.eqv (.bool true), Bl.eqv _, Bl.eqv (.slice q2 (Bl.tob A).length c2), Bl.eqv _, Bl.eqv (.int .i64 ((A : Int) / 256)), Bl.eqv (.int .u8 ((A : Int) / 256)), Bl.eqv _, Bl.eqv (.int .i64 ((A : Int) % 256)), Bl.eqv (.int .u8 ((A : Int) % 256)), (fun v w' => Bl.Rd w' .u8 v [(A : Int) / 256, (A : Int) % 256]), (fun v w' => Bl.Rd w' .u8 v (Bl.tb A)), Bl.eqv (.bool true), Bl.eqv (.bool true)] (by kernel_rfl) (by kernel_rfl) (by kernel_rfl) (by kernel_rfl)
          case hsteps =>
            refine ⟨?_, ?_, ?_, ?_, ?_, ?_, ?_, ?_, ?_, ?_, ?_, ?_, ?_, ?_, ?_, ?_, ?_, ?_, ?_, ?_, ?_, ?_, ?_, ?_, ?_, ?_, ?_, ?_, trivial⟩
            all_goals
              intro ev w1 hext hb hd
              have e8 := hb 8 (by decide)
              have e9 := hb 9 (by decide)
              have e15 := hb 15 (by decide)
              have e16 := hb 16 (by decide)
              clear hb
              simp only [Array.getD_eq_getD_getElem?, List.getElem?_toArray, List.getElem?_cons_succ, List.getElem?_cons_zero, Option.getD_some] at e8 e9 e15 e16
              simp only [Bl.DepsE, List.getElem?_cons_succ, List.getElem?_cons_zero, Option.bind_some, List.getD_cons_succ, List.getD_cons_zero, Bl.eqv, and_true] at hd
              have hc := (Bl.bcell hext).1
              have m0x := (hc _ 0 (World.block_lt_of_cell? _ _ m0)).trans m0
              have m1x := (hc _ 1 (World.block_lt_of_cell? _ _ m1)).trans m1
              simp only [Bl.Good, Region.wanted, Bl.yieldE, List.getElem?_cons_succ, List.getElem?_cons_zero, Option.bind_some, hd, beq_self_eq_true, if_true]
              go_simp
              first | (go_at_call 15; (with_reducible refine (HB1.out _ _ hd).mono ?_); rintro e w' ⟨v', rfl, h1, h2⟩; exact ⟨_, rfl, h2, h1⟩) | (go_at_call 15; (with_reducible refine (HB1.out _ _ hd.1).mono ?_); rintro e w' ⟨v', rfl, h1, h2⟩; exact ⟨_, rfl, h2, h1⟩) | (go_at_call 15; (with_reducible refine (HB1.out _ _ hd.2).mono ?_); rintro e w' ⟨v', rfl, h1, h2⟩; exact ⟨_, rfl, h2, h1⟩) | (go_at_call 15; (with_reducible refine (HB1.out _ _ hd.2.1).mono ?_); rintro e w' ⟨v', rfl, h1, h2⟩; exact ⟨_, rfl, h2, h1⟩) | (go_at_call 15; (with_reducible refine (HB2.out _ _ hd).mono ?_); rintro e w' ⟨v', rfl, h1, h2⟩; exact ⟨_, rfl, h2, h1⟩) | (go_at_call 15; (with_reducible refine (HB2.out _ _ hd.1).mono ?_); rintro e w' ⟨v', rfl, h1, h2⟩; exact ⟨_, rfl, h2, h1⟩) | (go_at_call 15; (with_reducible refine (HB2.out _ _ hd.2).mono ?_); rintro e w' ⟨v', rfl, h1, h2⟩; exact ⟨_, rfl, h2, h1⟩) | (go_at_call 15; (with_reducible refine (HB2.out _ _ hd.2.1).mono ?_); rintro e w' ⟨v', rfl, h1, h2⟩; exact ⟨_, rfl, h2, h1⟩) | (go_at_call 16; (with_reducible refine (HS1.out _ _ hext hd).mono ?_); rintro e w' ⟨rfl, h2⟩; exact ⟨_, rfl, h2, rfl⟩) | (go_at_call 16; (with_reducible refine (HS1.out _ _ hext hd.1).mono ?_); rintro e w' ⟨rfl, h2⟩; exact ⟨_, rfl, h2, rfl⟩) | (go_at_call 16; (with_reducible refine (HS1.out _ _ hext hd.2).mono ?_); rintro e w' ⟨rfl, h2⟩; exact ⟨_, rfl, h2, rfl⟩) | (go_at_call 16; (with_reducible refine (HS1.out _ _ hext hd.2.1).mono ?_); rintro e w' ⟨rfl, h2⟩; exact ⟨_, rfl, h2, rfl⟩) | (go_at_call 16; (with_reducible refine (HS1.out _ _ hext hd.2.2).mono ?_); rintro e w' ⟨rfl, h2⟩; exact ⟨_, rfl, h2, rfl⟩) | (go_at_call 16; (with_reducible refine (HS2.out _ _ hext hd).mono ?_); rintro e w' ⟨rfl, h2⟩; exact ⟨_, rfl, h2, rfl⟩) | (go_at_call 16; (with_reducible refine (HS2.out _ _ hext hd.1).mono ?_); rintro e w' ⟨rfl, h2⟩; exact ⟨_, rfl, h2, rfl⟩) | (go_at_call 16; (with_reducible refine (HS2.out _ _ hext hd.2).mono ?_); rintro e w' ⟨rfl, h2⟩; exact ⟨_, rfl, h2, rfl⟩) | (go_at_call 16; (with_reducible refine (HS2.out _ _ hext hd.2.1).mono ?_); rintro e w' ⟨rfl, h2⟩; exact ⟨_, rfl, h2, rfl⟩) | (go_at_call 16; (with_reducible refine (HS2.out _ _ hext hd.2.2).mono ?_); rintro e w' ⟨rfl, h2⟩; exact ⟨_, rfl, h2, rfl⟩) | exact ⟨Bl.ext_alloc _ _, Bl.rds_lit _ _ .u8 [_, _] (show 2 ≤ maxLen from by decide)⟩ | exact ⟨Below.refl _ _, rfl⟩
          case hmono => exact ⟨Bl.mono_eqv _, (Bl.mono_eqv _), (Bl.mono_eqv _), Bl.mono_eqv _, (Bl.mono_eqv _), Bl.mono_eqv _, (Bl.mono_eqv _), (Bl.mono_eqv _), Bl.mono_eqv _, (Bl.mono_eqv _), (Bl.mono_eqv _), (fun _ _ _ h k => Bl.Rd.ext h k), (fun _ _ _ h k => Bl.Rd.ext h k), (Bl.mono_eqv _), (Bl.mono_eqv _), (Bl.mono_eqv _), Bl.mono_eqv _, (Bl.mono_eqv _), Bl.mono_eqv _, (Bl.mono_eqv _), (Bl.mono_eqv _), Bl.mono_eqv _, (Bl.mono_eqv _), (Bl.mono_eqv _), (fun _ _ _ h k => Bl.Rd.ext h k), (fun _ _ _ h k => Bl.Rd.ext h k), (Bl.mono_eqv _), (Bl.mono_eqv _), trivial⟩
          case hend =>
            intro u w1 hext hend
            simp only [Bl.EndE, List.getElem?_cons_succ, List.getElem?_cons_zero, Option.bind_some, List.getD_cons_succ, List.getD_cons_zero, Bl.eqv, true_and] at hend
            simp only [Bl.fillAct, List.setIfInBounds_toArray, List.set_cons_succ, List.set_cons_zero, List.drop_succ_cons, List.drop_zero, hend]
            have HX := Bl.hid (HE2.out.trans hext)
            clear hext hend
            go_wp2_with fail
            go_ret
            exact ⟨rfl, HX.out⟩
end Go.Proofs.YtkndnmpdklidkaaDoor

/- Walk of chance.Mul. -/
import Derived.Test.YtkndnmpdklidkaaDoorCh4
import Derived.Test.YtkndnmpdklidkaaDoorChanceM
namespace Go.Proofs.Bl
open Go
theorem i64_and255 (x : Int) (h0 : 0 ≤ x) (h1 : x < 1099511627776) : bits .and .i64 x 255 = x % 256 :=
  bits_mask .i64 63 (by decide) i64_in63 8 (by decide) x h0 (by omega)
end Go.Proofs.Bl
namespace Go.Proofs.YtkndnmpdklidkaaDoor
open Go.RowKit Go.Proofs

theorem hid3 {N : Nat} {f : Nat → Int} {K x k : Nat} {B : List Int} (h : Bl.lf f N = K) : Bl.lf f N + (0 : Int).toNat * 256 ^ (k + 0) = K + x * Bl.lew B 0 := by
  rw [h]; simp [Bl.lew]
theorem hyA_get {A : List Int} (h : Bl.Byt A) (k : Nat) : 0 ≤ A.getD k 0 ∧ A.getD k 0 ≤ 255 := h.get k
theorem tI : Bl.SlT Tryd.prog 64 3 (.int .i64 0) 1 8 := ⟨Tryd.underlying64, by kernel_rfl, rfl, by decide⟩

set_option maxRecDepth 100000 in
set_option maxHeartbeats 2000000 in
/-- chance.Mul -/
theorem mul_any (va vb : Value) (a b : List Int) (w : World) (ha : Bl.Rd w .u8 va a) (hb : Bl.Rd w .u8 vb b) (hla : a.length ≤ 100000) (hlb : b.length ≤ 100000) (hya : Bl.Byt a) (hyb : Bl.Byt b) :
    Calls Tryd.prog 25 #[va, vb] w fun e w' => ∃ v', e = .returned v' ∧ w'.ownsRow w.heap.size 5 1 v' (Bl.tob (Bl.be a * Bl.be b)).length (Bl.ints .u8 (Bl.tob (Bl.be a * Bl.be b))) ∧ Bl.Ext w w' := by
  obtain ⟨pa, ca, hvf, hna, hca⟩ := ha.form
  subst hvf
  obtain ⟨pb, cb, hvf, hnb, hcb⟩ := hb.form
  subst hvf
  have Ha := Bl.hid ha
  have Hb := Bl.hid hb
  clear ha hb
  obtain ⟨A, hA⟩ : ∃ A, A = a.reverse := ⟨_, rfl⟩
  obtain ⟨B, hB⟩ : ∃ B, B = b.reverse := ⟨_, rfl⟩
  have hyA : Bl.Byt A := by rw [hA]; exact Bl.byt_rev hya
  have hyB : Bl.Byt B := by rw [hB]; exact Bl.byt_rev hyb
  have hBl : B.length = b.length := by rw [hB]; simp
  have hBe := Bl.hid (show Bl.lew B (b.length + 1) = Bl.be b from by have := Bl.lew_big B (b.length + 1) (by omega); rw [this, hB, List.reverse_reverse])
  have HA := Bl.hid hA
  have HB := Bl.hid hB
  have HyA := Bl.hid hyA
  have HyB := Bl.hid hyB
  have HBl := Bl.hid hBl
  clear hA hB hyA hyB hBl
  obtain ⟨N, hN⟩ : ∃ N, N = a.length + b.length + 1 := ⟨_, rfl⟩
  obtain ⟨w1, hrun, hown1, hE1, hs1⟩ := Bl.make_ints (P := Tryd.prog) tI N (by omega) (by unfold maxLen; omega) w
  have hNi : (N : Int) = (a.length : Int) + (b.length : Int) + 1 := by omega
  rw [hNi] at hrun
  have HF1 := Bl.hid (Bl.fam_of_owns hown1)
  have HE1 := Bl.hid hE1
  have HN := Bl.hid hN
  have HNi := Bl.hid hNi
  have hN2 : N ≤ 200001 := by omega
  clear hown1 hE1 hN hNi
  go_enter Tryd.func25, Tryd.ntmps25
  go_wp2_with fail
  clear hrun
  go_loopw [21] (fun i wr => ∃ (k : Nat) (f : Nat → Int), k ≤ a.length ∧ i = .int .i64 k ∧ Bl.Fam wr w.heap.size .i64 N f ∧ Hid (∀ t, 0 ≤ f t ∧ f t ≤ 255) ∧ Hid (∀ t, k + b.length ≤ t → f t = 0) ∧ Hid (Bl.lf f N = Bl.lew A k * Bl.be b) ∧ Below w.heap.size w wr) (fun i _ => a.length - (intOf i).toNat)
  case atStart =>
    refine ⟨0, fun _ => 0, Nat.zero_le _, rfl, HF1.out.congr (fun i hi => ?_), fun _ => ⟨Int.le_refl 0, (by decide : (0 : Int) ≤ 255)⟩, fun _ _ => rfl, ?_, HE1.out⟩
    · rw [List.getD_eq_getElem?_getD, List.getElem?_replicate, if_pos hi]; rfl
    · show Bl.lf _ N = 0 * _
      rw [Bl.lf_zero]; simp
  case round =>
    obtain ⟨k, f, hk, rfl, hF, hf1, hf2, hf3, hB⟩ := hrel
    have HF := Bl.hid hF
    have HBb := Bl.hid hB
    clear hF hB
    by_cases hlt : k < a.length
    · have hki : (k : Int) < (a.length : Int) := by omega
      go_wp2_with fail
      obtain ⟨wo, hwo⟩ : ∃ wo : World, wo = wr := ⟨_, rfl⟩
      rw [← hwo]
      have HW := Bl.hid hwo
      clear hwo
      have hrow := hyA_get (HyA.out) k
      obtain ⟨x, hx⟩ : ∃ x, x = A.getD k 0 := ⟨_, rfl⟩
      rw [← hx] at hrow
      have hlewk := Bl.hid (show Bl.lew A (k + 1) = Bl.lew A k + x.toNat * 256 ^ k from by rw [hx]; rfl)
      have hlowa := fun w1 (h : Bl.Ext w w1) => low_any (.slice pa a.length ca) a k w1 (Ha.out.ext h) (by omega) (by omega) hya
      rw [← HA.out, ← hx] at hlowa
      have Hlowa := Bl.hid hlowa
      clear hlowa hx
      obtain ⟨x0, x1⟩ := hrow
      go_loopw [7, 27] (fun c j wr => ∃ (j' : Nat) (f : Nat → Int) (c' : Int), j' ≤ b.length + 1 ∧ j = .int .i64 j' ∧ c = .int .i64 c' ∧ 0 ≤ c' ∧ c' ≤ 255 ∧ Bl.Fam wr w.heap.size .i64 N f ∧ Hid (∀ t, 0 ≤ f t ∧ f t ≤ 255) ∧ Hid (j' ≤ b.length → ∀ t, k + b.length ≤ t → f t = 0) ∧ Hid (j' = b.length + 1 → c' = 0 ∧ ∀ t, k + 1 + b.length ≤ t → f t = 0) ∧ Hid (Bl.lf f N + c'.toNat * 256 ^ (k + j') = Bl.lew A k * Bl.be b + x.toNat * 256 ^ k * Bl.lew B j') ∧ Below w.heap.size w wr) (fun _ j _ => b.length + 1 - (intOf j).toNat)
      case atStart =>
        exact ⟨0, f, 0, by omega, rfl, rfl, by decide, by decide, by rw [HW.out]; exact HF.out, hf1.out, fun _ => hf2.out, fun h => by omega, hid3 hf3.out, by rw [HW.out]; exact HBb.out⟩
      case round =>
        obtain ⟨j, g, c, hj, rfl, rfl, hc0, hc1, hG, hg1, hg2, hg3, hg4, hB2⟩ := hrel
        have HG := Bl.hid hG
        have HB2 := Bl.hid hB2
        by_cases hjl : j ≤ b.length
        · have hji : (j : Int) < (b.length : Int) + 1 := by omega
          have hcol := hyA_get HyB.out j
          obtain ⟨y, hy⟩ : ∃ y, y = B.getD j 0 := ⟨_, rfl⟩
          rw [← hy] at hcol
          have hlowb := fun w1 (h : Bl.Ext w w1) => low_any (.slice pb b.length cb) b j w1 (Hb.out.ext h) (by omega) (by omega) hyb
          rw [← HB.out, ← hy] at hlowb
          have Hlowb := Bl.hid hlowb
          have Hy := Bl.hid hy
          clear hlowb hy
          have hkjN : k + j < N := by rw [HN.out]; omega
          have hcell : wr.cell? ⟨w.heap.size, k + j, none⟩ = some (.int .i64 (g (k + j))) := hG.1 _ hkjN
          have hfz : wr.frozen? ⟨w.heap.size, k + j, none⟩ = false := hG.2 _
          have hgs := World.block_lt_of_cell? _ _ hcell
          have hgb := hg1.out (k + j)
          obtain ⟨z, hz⟩ : ∃ z, z = g (k + j) := ⟨_, rfl⟩
          rw [← hz] at hcell hgb
          have hstep := Bl.mul_step g N k j b.length c x y (Bl.lew A k * Bl.be b) B Hy.out hkjN ⟨hc0, hc1⟩ ⟨x0, x1⟩ hcol hg1.out HBl.out hjl (hg2.out hjl) hg4.out
          rw [← hz] at hstep
          have Hstep := Bl.hid hstep
          clear hstep hz hG hB2
          obtain ⟨y0, y1⟩ := hcol
          obtain ⟨z0, z1⟩ := hgb
          have hxy0 : 0 ≤ x * y := Int.mul_nonneg x0 y0
          have hxy1 : x * y ≤ 65025 := by
            have h1 : x * y ≤ 255 * y := Int.mul_le_mul_of_nonneg_right x1 y0
            omega
          have i1 : (0 : Int) ≤ (k : Int) + (j : Int) := by omega
          have i2 : (k : Int) + (j : Int) < (a.length : Int) + (b.length : Int) + 1 := by omega
          have i3 : ((k : Int) + (j : Int)).toNat = k + j := by omega
          have i4 : (k : Int) + (j : Int) < (N : Int) := by rw [HNi.out]; omega
          have i5 : IntKind.i64.wrap ((k : Int) + (j : Int)) = (k : Int) + (j : Int) := IntWalk.i64_in _ (by omega)
          have i6 : IntKind.i64.wrap (x * y) = x * y := IntWalk.i64_in _ (by omega)
          have i7 : IntKind.i64.wrap (z + x * y) = z + x * y := IntWalk.i64_in _ (by omega)
          have i8 : IntKind.i64.wrap (c + (z + x * y)) = c + (z + x * y) := IntWalk.i64_in _ (by omega)
          have HExt : Hid (Bl.Ext w wr) := HB2
          go_wp2_with fail
          apply Bl.wp_region_ev 16 [30, 31, 32, 33, 34, 35, 36, 37, 38, 39, 40, 41, 42, 43, 44, 45] [Bl.eqv _, Bl.eqv _, Bl.eqv _, Bl.eqv _, Bl.eqv _, Bl.eqv _, Bl.eqv _, Bl.eqv _, Bl.eqv _, Bl.eqv _, Bl.eqv _, Bl.eqv _, Bl.eqv _, Bl.eqv _, Bl.eqv _, Bl.eqv _] (by kernel_rfl) (by kernel_rfl) (by kernel_rfl) (by kernel_rfl)
          case hsteps =>
            refine ⟨?_, ?_, ?_, ?_, ?_, ?_, ?_, ?_, ?_, ?_, ?_, ?_, ?_, ?_, ?_, ?_, trivial⟩
            all_goals
              intro ev w1 hext hb hd
              have e0 := hb 0 (by decide)
              have e1 := hb 1 (by decide)
              have e5 := hb 5 (by decide)
              have e6 := hb 6 (by decide)
              have e7 := hb 7 (by decide)
              have e8 := hb 8 (by decide)
              clear hb
              simp only [Array.getD_eq_getD_getElem?, List.getElem?_toArray, List.getElem?_cons_succ, List.getElem?_cons_zero, Option.getD_some] at e0 e1 e5 e6 e7 e8
              simp only [Bl.DepsE, List.getElem?_cons_succ, List.getElem?_cons_zero, Option.bind_some, List.getD_cons_succ, List.getD_cons_zero, Bl.eqv, and_true] at hd
              have hc := (Bl.bcell hext).1
              simp only [Bl.Good, Region.wanted, if_true]
              go_simp
              first | ((with_reducible refine (Hlowa.out _ (HExt.out.trans hext)).mono ?_); rintro e w' ⟨rfl, rfl⟩; exact ⟨_, rfl, Below.refl _ _, rfl⟩) | ((with_reducible refine (Hlowb.out _ (HExt.out.trans hext)).mono ?_); rintro e w' ⟨rfl, rfl⟩; exact ⟨_, rfl, Below.refl _ _, rfl⟩) | exact ⟨Below.refl _ _, rfl⟩
          case hmono => exact ⟨Bl.mono_eqv _, Bl.mono_eqv _, Bl.mono_eqv _, Bl.mono_eqv _, Bl.mono_eqv _, Bl.mono_eqv _, Bl.mono_eqv _, Bl.mono_eqv _, Bl.mono_eqv _, Bl.mono_eqv _, Bl.mono_eqv _, Bl.mono_eqv _, Bl.mono_eqv _, Bl.mono_eqv _, Bl.mono_eqv _, Bl.mono_eqv _, trivial⟩
          case hend =>
            intro u w1 hext hend
            simp only [Bl.EndE, List.getElem?_cons_succ, List.getElem?_cons_zero, Option.bind_some, List.getD_cons_succ, List.getD_cons_zero, Bl.eqv, true_and] at hend
            simp only [Bl.fillAct, List.setIfInBounds_toArray, List.set_cons_succ, List.set_cons_zero, List.drop_succ_cons, List.drop_zero, hend]
            have hcell1 : w1.cell? ⟨w.heap.size, k + j, none⟩ = some (.int .i64 z) := ((Bl.bcell hext).1 _ _ hgs).trans hcell
            have hfz1 : w1.frozen? ⟨w.heap.size, k + j, none⟩ = false := ((Bl.bcell hext).2 _ _ hgs).trans hfz
            have hand : bits .and .i64 (c + (z + x * y)) 255 = (c + (z + x * y)) % 256 := Bl.i64_and255 _ (by omega) (by omega)
            have Hext := Bl.hid hext
            clear hext hend hcell hfz
            go_wp2_with fail
            clear hand hcell1 hfz1 i1 i2 i3 i4 i5 i6 i7 i8
            obtain ⟨st1, st2, st3, st4, st5⟩ := Hstep.out
            go_roundw
            case rel =>
              refine ⟨j + 1, _, (c + (z + x * y)) / 256, by omega, by simp, rfl, st2.1, st2.2, (HG.out.below Hext.out hgs).set (k + j) hkjN _, st3, fun h => st5 (by omega), fun h => st4 (by omega), st1, (HB2.out.trans (Hext.out.mono (Nat.le_of_lt hgs))).setCell (p := ⟨w.heap.size, k + j, none⟩) (Nat.le_refl _) _⟩
            case measure => simp [intOf]; omega
        · obtain rfl : j = b.length + 1 := by omega
          obtain ⟨e1, e2⟩ := hg3.out rfl
          subst e1
          have e3 := hg4.out
          rw [hBe.out] at e3
          have E2 := Bl.hid e2
          have E3 := Bl.hid e3
          clear e2 e3 hg4 hg3 hG hB2
          go_wp2_with fail
          go_roundw
          case rel =>
            refine ⟨k + 1, g, by omega, by simp, HG.out, hg1.out, E2.out, ?_, HB2.out⟩
            show _ = _
            rw [hlewk.out, Nat.add_mul]
            have := E3.out
            simpa using this
          case measure => simp [intOf]; omega
    · obtain rfl : k = a.length := by omega
      obtain ⟨wq, rfl⟩ : ∃ wq : World, wq = wr := ⟨_, rfl⟩
      have hA2 := HA.out
      rw [hA2] at hf3
      have hend := Bl.hid (Bl.mul_end a b hya hyb f N hf1.out hf3.out)
      have hsz := HBb.out.size
      obtain ⟨w2, hrun, hown2, hE2, hs2⟩ := Bl.make_ints (P := Tryd.prog) tB N (by omega) (by unfold maxLen; omega) wq
      have hgw : w.heap.size < wq.heap.size := World.block_lt_of_cell? _ _ (HF.out.1 0 (by rw [HN.out]; omega))
      have HF2 := Bl.hid (HF.out.below hE2 hgw)
      have HO2 := Bl.hid (Bl.fam_of_owns hown2)
      have HE2 := Bl.hid hE2
      clear hown2 hE2 hA2
      go_wp2_with fail
      clear hrun
      go_loopw [62] (fun i ws => ∃ m : Nat, m ≤ N ∧ i = .int .i64 m ∧ Bl.Fam ws w.heap.size .i64 N f ∧ Bl.Fam ws wq.heap.size .u8 N (fun t => if t < m then f t else 0) ∧ Below wq.heap.size wq ws) (fun i _ => N - (intOf i).toNat)
      case atStart => exact ⟨0, Nat.zero_le _, rfl, HF2.out, HO2.out.congr (fun i hi => by rw [if_neg (by omega), List.getD_eq_getElem?_getD, List.getElem?_replicate, if_pos hi]; rfl), HE2.out⟩
      case round =>
        obtain ⟨m, hm, rfl, hFm, hOm, hBm⟩ := hrel
        have HFm := Bl.hid hFm
        have HOm := Bl.hid hOm
        have HBm := Bl.hid hBm
        by_cases hml : m < N
        · have c1 := hFm.1 m hml
          have c2 : wr.cell? ⟨wq.heap.size, m, none⟩ = some (.int .u8 0) := (hOm.1 m hml).trans (by simp)
          have z2 : wr.frozen? ⟨wq.heap.size, m, none⟩ = false := hOm.2 m
          have hfm := hf1.out m
          obtain ⟨x, hx⟩ : ∃ x, x = f m := ⟨_, rfl⟩
          rw [← hx] at c1 hfm
          have Hx := Bl.hid hx
          obtain ⟨x0, x1⟩ := hfm
          have hmi : (m : Int) < (N : Int) := by omega
          clear hFm hOm hBm hx
          go_wp2_with fail
          go_roundw
          case rel =>
            refine ⟨m + 1, by omega, by simp, HFm.out.other _ _ (by simp; omega), ?_, HBm.out.setCell (p := ⟨wq.heap.size, m, none⟩) (Nat.le_refl _) _⟩
            refine (HOm.out.set m hml _).congr (fun i hi => ?_)
            by_cases e : i = m
            · rw [if_pos e, if_pos (by omega), e, Hx.out]
            · rw [if_neg e]
              by_cases e2 : i < m
              · rw [if_pos e2, if_pos (by omega)]
              · rw [if_neg e2, if_neg (by omega)]
          case measure => simp [intOf]; omega
        · obtain rfl : m = N := by omega
          have hL : ((List.range m).map f).length = m := by simp
          have hFL : Bl.Fam wr wq.heap.size .u8 m (fun i => ((List.range m).map f).getD i 0) := hOm.congr (fun i hi => by rw [if_pos hi, List.getD_eq_getElem?_getD]; simp [hi])
          have hgs : wq.heap.size < wr.heap.size := World.block_lt_of_cell? _ _ (hOm.1 0 (by rw [HN.out]; omega))
          have hc := laid_fam w.heap.size wq.heap.size m m ((List.range m).map f) wr hL hFL hsz hgs (Nat.le_refl _) (by unfold maxLen; omega) (by rw [hL]; omega)
          rw [hend.out] at hc
          have Hc := Bl.hid hc
          clear hc hFm hOm hBm hFL hL
          go_wp2_with fail
          refine Hc.out.mono ?_
          rintro e w' ⟨v', rfl, h1, h2⟩
          have H1 := Bl.hid h1
          have H2 := Bl.hid h2
          clear h1 h2
          go_wp2_with fail
          go_ret
          exact ⟨_, rfl, Bl.owns_mono H1.out (Nat.le_trans hsz HBm.out.size), Below.trans HBb.out (Below.trans (HBm.out.mono hsz) H2.out)⟩
end Go.Proofs.YtkndnmpdklidkaaDoor

/- Walks of package baileeref37: Less, Power. -/
import Derived.Test.YtkndnmpdklidkaaDoorRf3
import Derived.BigQuiet
namespace Go.Proofs.Bl
open Go
theorem lb_split (l : List Int) (k : Nat) (h : k ≤ l.length) : lb l = lb (l.take k) + 2 ^ k * lb (l.drop k) := by
  conv => lhs; rw [← List.take_append_drop k l]
  rw [lb_append, List.length_take, Nat.min_eq_left h]
/-- the first place, from the high end, where they part -/
theorem lb_part (a b : List Int) (j : Nat) (ha : Bit a) (hb : Bit b) (hl : j < a.length) (hlb : j < b.length) (hd : a.drop (j + 1) = b.drop (j + 1)) (h : a.getD j 0 < b.getD j 0) : lb a < lb b := by
  rw [lb_split a (j + 1) hl, lb_split b (j + 1) hlb, hd, lb_take_succ, lb_take_succ]
  have h1 := ha.get j
  have h2 := hb.get j
  have h3 : a.getD j 0 = 0 := by omega
  have h4 : b.getD j 0 = 1 := by omega
  have h5 := lb_lt (a.take j) (ha.take j)
  have h6 : 2 ^ (a.take j).length ≤ 2 ^ j := Nat.pow_le_pow_right (by decide) (by rw [List.length_take]; omega)
  rw [h3, h4, show (0 : Int).toNat = 0 from rfl, show (1 : Int).toNat = 1 from rfl]
  omega
theorem drop_eq (a b : List Int) (j : Nat) (hl : j < a.length) (hlb : j < b.length) (hd : a.drop (j + 1) = b.drop (j + 1)) (h : a.getD j 0 = b.getD j 0) : a.drop j = b.drop j := by
  rw [List.drop_eq_getElem_cons hl, List.drop_eq_getElem_cons hlb, hd]
  rw [List.getD_eq_getElem?_getD, List.getD_eq_getElem?_getD, List.getElem?_eq_getElem hl, List.getElem?_eq_getElem hlb] at h
  simp only [Option.getD_some] at h
  rw [h]
theorem tb_len_lt_iff (a b : Nat) (h : (tb a).length < (tb b).length) : a < b := by
  rcases Nat.lt_or_ge a b with h1 | h1
  · exact h1
  · exfalso
    have h2 : a < 2 ^ (tb a).length := by have := lb_lt (tb a) (tb_bit a); rwa [lb_tb] at this
    have h3 := tb_len_le (tb a).length b (by omega)
    omega
/-- noughts at the low end -/
theorem tb_shift (m : Nat) (h : 0 < m) : ∀ k, tb (2 ^ k * m) = List.replicate k 0 ++ tb m
  | 0 => by simp
  | k + 1 => by
    have h2 : 0 < 2 ^ k * m := Nat.mul_pos (Nat.pow_pos (by decide)) h
    have e : 2 ^ (k + 1) * m = 2 * (2 ^ k * m) := by rw [Nat.pow_succ, Nat.mul_comm (2 ^ k) 2, Nat.mul_assoc]
    rw [e, tb_pos _ (by omega), List.replicate_succ, List.cons_append, ← tb_shift m h k]
    congr 1
    · omega
    · congr 1; omega
theorem tb_pow_len (x n k : Nat) (h : (tb x).length ≤ n) : (tb (x ^ k)).length ≤ n * k + 1 := by
  refine tb_len_le _ _ ?_
  have h1 : x < 2 ^ n := by
    have := lb_lt (tb x) (tb_bit x)
    rw [lb_tb] at this
    exact Nat.lt_of_lt_of_le this (Nat.pow_le_pow_right (by decide) h)
  have h2 : x ^ k ≤ (2 ^ n) ^ k := Nat.pow_le_pow_left (Nat.le_of_lt h1) k
  rw [← Nat.pow_mul] at h2
  exact Nat.lt_of_le_of_lt h2 (Nat.pow_lt_pow_right (by decide) (by omega))
end Go.Proofs.Bl
namespace Go.Proofs.YtkndnmpdklidkaaDoor
open Go.RowKit Go.Proofs

set_option maxRecDepth 100000 in
theorem rless_ne (va vb : Value) (a b : List Int) (w : World) (ha : Bl.Rd w .u8 va a) (hb : Bl.Rd w .u8 vb b) (hne : a.length ≠ b.length) :
    Calls Tryd.prog 26 #[va, vb] w fun e w' => e = .returned (.bool (decide (a.length < b.length))) ∧ Bl.Ext w w' := by
  obtain ⟨pa, ca, hvf, hna, hca⟩ := ha.form
  subst hvf
  obtain ⟨pb, cb, hvf, hnb, hcb⟩ := hb.form
  subst hvf
  clear ha hb
  have hq : (a.length : Int) < (b.length : Int) ∨ (b.length : Int) < (a.length : Int) := by omega
  have Hd : Hid (decide (a.length < b.length) = decide ((a.length : Int) < (b.length : Int))) := Bl.hid (by rw [Bool.eq_iff_iff]; simp)
  clear hne
  rcases hq with h1 | h1
  all_goals
    go_enter Tryd.func26, Tryd.ntmps26
    go_wp2_with fail
    go_ret
    refine ⟨?_, Below.refl _ _⟩
    rw [Hd.out]
    simp [h1]
    try omega

set_option maxRecDepth 100000 in
set_option maxHeartbeats 1000000 in
theorem rless_eq (va vb : Value) (a b : List Int) (N : Nat) (w : World) (ha : Bl.Rd w .u8 va a) (hb : Bl.Rd w .u8 vb b) (hla : a.length = N) (hlb : b.length = N) (hN : N ≤ 1000000) (hya : Bl.Bit a) (hyb : Bl.Bit b) :
    Calls Tryd.prog 26 #[va, vb] w fun e w' => e = .returned (.bool (decide (Bl.lb a < Bl.lb b))) ∧ Bl.Ext w w' := by
  obtain ⟨pa, ca, hvf, hna, hca⟩ := ha.form
  rw [hla] at hvf hna
  subst hvf
  obtain ⟨pb, cb, hvf, hnb, hcb⟩ := hb.form
  rw [hlb] at hvf hnb
  subst hvf
  have Ha := Bl.hid ha
  have Hb := Bl.hid hb
  have Hla := Bl.hid hla
  have Hlb := Bl.hid hlb
  have Hya := Bl.hid hya
  have Hyb := Bl.hid hyb
  clear ha hb hla hlb hya hyb
  unfold maxLen at hca hcb
  go_enter Tryd.func26, Tryd.ntmps26
  go_wp2_with fail
  go_loopw [5] (fun i wr => ∃ k : Nat, k ≤ N ∧ i = .int .i64 ((k : Int) - 1) ∧ Hid (a.drop k = b.drop k) ∧ Bl.Ext w wr) (fun i _ => (intOf i + 1).toNat)
  case atStart => exact ⟨N, Nat.le_refl _, rfl, Bl.hid (by rw [List.drop_of_length_le (by rw [Hla.out]; exact Nat.le_refl _), List.drop_of_length_le (by rw [Hlb.out]; exact Nat.le_refl _)]), Below.refl _ _⟩
  case round =>
    obtain ⟨k, hk, rfl, hd, hE⟩ := hrel
    have HE := Bl.hid hE
    cases k with
    | zero =>
      have Hab : Hid (decide (Bl.lb a < Bl.lb b) = false) := Bl.hid (by
        have := hd.out
        rw [List.drop_zero, List.drop_zero] at this
        rw [this]; simp)
      clear hE
      rw [show ((0 : Nat) : Int) - 1 = -1 from rfl]
      go_wp2_with fail
      go_ret
      exact ⟨by rw [Hab.out]; rfl, HE.out⟩
    | succ j =>
      obtain ⟨ba, oa, ca', hqa, hnca, hcma, hlta, hraa, hgeta⟩ := Ha.out.pos (by rw [Hla.out]; omega)
      rw [Hla.out] at hqa hnca hgeta
      cases hqa
      obtain ⟨bb, ob, cb', hqb, hncb, hcmb, hltb, hrab, hgetb⟩ := Hb.out.pos (by rw [Hlb.out]; omega)
      rw [Hlb.out] at hqb hncb hgetb
      cases hqb
      have c1 := ((Bl.bcell hE).1 ba (oa + j) hlta).trans (hgeta j (by omega))
      have c2 := ((Bl.bcell hE).1 bb (ob + j) hltb).trans (hgetb j (by omega))
      have Hlt := Bl.hid (fun h => Bl.lb_part a b j Hya.out Hyb.out (by rw [Hla.out]; omega) (by rw [Hlb.out]; omega) hd.out h)
      have Hgt := Bl.hid (fun h => Bl.lb_part b a j Hyb.out Hya.out (by rw [Hlb.out]; omega) (by rw [Hla.out]; omega) hd.out.symm h)
      have Heq := Bl.hid (fun h => Bl.drop_eq a b j (by rw [Hla.out]; omega) (by rw [Hlb.out]; omega) hd.out h)
      have hxa := Hya.out.get j
      have hxb := Hyb.out.get j
      obtain ⟨x, hx⟩ : ∃ x, x = a.getD j 0 := ⟨_, rfl⟩
      obtain ⟨y, hy⟩ : ∃ y, y = b.getD j 0 := ⟨_, rfl⟩
      rw [← hx] at c1 hxa Hlt Hgt Heq
      rw [← hy] at c2 hxb Hlt Hgt Heq
      clear hx hy hE hraa hrab hgeta hgetb
      have e2 : ((j + 1 : Nat) : Int) - 1 = (j : Int) := by omega
      have hji : (j : Int) < (N : Int) := by omega
      have hj0 : (0 : Int) ≤ (j : Int) := by omega
      rw [e2]
      rcases hxa with rfl | rfl
      · rcases hxb with rfl | rfl
        · have Heq' := Bl.hid (Heq.out rfl)
          clear Hlt Hgt Heq
          go_wp2_with fail
          go_quiet (fail)
          go_wp2_with fail
          go_roundw
          case rel => exact ⟨j, by omega, by simp, Heq', HE.out.drewN _⟩
          case measure => simp [intOf]
        · have Hv : Hid (decide (Bl.lb a < Bl.lb b) = true) := Bl.hid (decide_eq_true (Hlt.out (by decide)))
          clear Hlt Hgt Heq
          go_wp2_with fail
          go_quiet (fail)
          go_wp2_with fail
          go_quiet (fail)
          go_wp2_with fail
          go_ret
          exact ⟨by rw [Hv.out]; rfl, (HE.out.drewN _).drewN _⟩
      · rcases hxb with rfl | rfl
        · have Hv : Hid (decide (Bl.lb a < Bl.lb b) = false) := Bl.hid (decide_eq_false (by have := Hgt.out (by decide); omega))
          clear Hlt Hgt Heq
          go_wp2_with fail
          go_quiet (fail)
          go_wp2_with fail
          go_quiet (fail)
          go_wp2_with fail
          go_ret
          exact ⟨by rw [Hv.out]; rfl, (HE.out.drewN _).drewN _⟩
        · have Heq' := Bl.hid (Heq.out rfl)
          clear Hlt Hgt Heq
          go_wp2_with fail
          go_quiet (fail)
          go_wp2_with fail
          go_roundw
          case rel => exact ⟨j, by omega, by simp, Heq', HE.out.drewN _⟩
          case measure => simp [intOf]

/-- baileeref37.Less of two numbers' bits -/
theorem rless_any (va vb : Value) (m n : Nat) (w : World) (ha : Bl.Rd w .u8 va (Bl.tb m)) (hb : Bl.Rd w .u8 vb (Bl.tb n)) (hla : (Bl.tb m).length ≤ 1000000) :
    Calls Tryd.prog 26 #[va, vb] w fun e w' => e = .returned (.bool (decide (m < n))) ∧ Bl.Ext w w' := by
  by_cases h : (Bl.tb m).length = (Bl.tb n).length
  · have := rless_eq va vb _ _ _ w ha hb h rfl (by omega) (Bl.tb_bit m) (Bl.tb_bit n)
    rwa [Bl.lb_tb, Bl.lb_tb] at this
  · refine (rless_ne va vb _ _ w ha hb h).mono fun e w' ⟨h1, h2⟩ => ⟨?_, h2⟩
    rw [h1]
    congr 2
    rw [Bool.eq_iff_iff, decide_eq_true_iff, decide_eq_true_iff]
    constructor
    · exact Bl.tb_len_lt_iff m n
    · intro hmn
      rcases Nat.lt_or_ge (Bl.tb m).length (Bl.tb n).length with h3 | h3
      · exact h3
      · have := Bl.tb_len_lt_iff n m (by omega)
        omega

set_option maxRecDepth 100000 in
set_option maxHeartbeats 1000000 in
/-- baileeref37.Power -/
theorem rpow_any (v : Value) (x n L : Nat) (w : World) (h : Bl.Rd w .u8 v (Bl.tb x)) (hl : (Bl.tb x).length ≤ L) (hL : L ≤ 1000) (hn : n ≤ 90) :
    Calls Tryd.prog 30 #[v, .int .i64 n] w fun e w' => ∃ v', e = .returned v' ∧ Bl.Rd w' .u8 v' (Bl.tb (x ^ n)) ∧ Bl.Ext w w' := by
  have H := Bl.hid h
  have Hp := Bl.hid (fun k => Bl.tb_pow_len x L k hl)
  have HR0 : Hid (Bl.Rd (w.alloc (.cells #[.int .u8 1] 5)) .u8 (.slice (some ⟨w.heap.size, 0, none⟩) 1 1) (Bl.tb (x ^ 0))) := Bl.hid (by
    rw [Nat.pow_zero, show Bl.tb 1 = [1] from rfl]; exact Bl.rds_one w 5 .u8 1)
  clear h
  go_enter Tryd.func30, Tryd.ntmps30
  go_wp2_with fail
  go_loopw [1, 5] (fun i o wr => ∃ (k : Nat) (u : Value), k ≤ n ∧ i = .int .i64 ((n : Int) - k) ∧ o = u ∧ Bl.Rd wr .u8 u (Bl.tb (x ^ k)) ∧ Bl.Ext w wr) (fun i _ _ => (intOf i).toNat)
  case atStart => exact ⟨0, _, Nat.zero_le _, by simp, rfl, HR0.out, Bl.ext_alloc _ _⟩
  case round =>
    obtain ⟨k, u, hk, rfl, rfl, hR, hE⟩ := hrel
    have HR := Bl.hid hR
    have HE := Bl.hid hE
    clear hR hE
    by_cases hlt : k < n
    · have hki : (k : Int) < (n : Int) := by omega
      have hp := Hp.out k
      have hlk : (Bl.tb (x ^ k)).length ≤ 100000 := by
        have h2 : L * k ≤ 1000 * 90 := Nat.mul_le_mul hL (by omega)
        omega
      have Hlk := Bl.hid hlk
      clear hp hlk
      have e1 : (0 : Int) < (n : Int) - (k : Int) := by omega
      go_wp2_with fail
      refine (rmul_any _ v _ _ _ HR.out (H.out.ext HE.out) Hlk.out (by omega) (Bl.tb_bit _) (Bl.tb_bit _)).mono ?_
      rintro e w2 ⟨v2, rfl, h2, hE2⟩
      rw [Bl.lb_tb, Bl.lb_tb, ← Nat.pow_succ] at h2
      have H2 := Bl.hid h2
      have HE2 := Bl.hid (HE.out.trans hE2)
      clear h2 hE2
      go_wp2_with fail
      go_roundw
      case rel => exact ⟨k + 1, v2, by omega, by simp; omega, rfl, H2.out, HE2.out⟩
      case measure => simp [intOf]; omega
    · obtain rfl : k = n := by omega
      have e1 : (k : Int) - (k : Int) = 0 := by omega
      rw [e1]
      go_wp2_with fail
      go_ret
      exact ⟨_, rfl, HR.out, HE.out⟩
end Go.Proofs.YtkndnmpdklidkaaDoor

/- Walks of baileeref37.Mul, baileeref37.Bytes, baileelaw37.same. -/
import Derived.Test.YtkndnmpdklidkaaDoorRf2
namespace Go.Proofs.Bl
open Go
/-- a row of noughts, and bits behind -/
theorem lb_shift (n : Nat) (l : List Int) : lb (List.replicate n 0 ++ l) = 2 ^ n * lb l := by rw [lb_append, lb_rep, List.length_replicate, Nat.zero_add]
end Go.Proofs.Bl
namespace Go.Proofs.YtkndnmpdklidkaaDoor
open Go.RowKit Go.Proofs

set_option maxRecDepth 100000 in
set_option maxHeartbeats 1000000 in
/-- baileeref37.Mul: a product of bits -/
theorem rmul_any (va vb : Value) (a b : List Int) (w : World) (ha : Bl.Rd w .u8 va a) (hb : Bl.Rd w .u8 vb b) (hla : a.length ≤ 100000) (hlb : b.length ≤ 100000) (hya : Bl.Bit a) (hyb : Bl.Bit b) :
    Calls Tryd.prog 14 #[va, vb] w fun e w' => ∃ v', e = .returned v' ∧ Bl.Rd w' .u8 v' (Bl.tb (Bl.lb a * Bl.lb b)) ∧ Bl.Ext w w' := by
  obtain ⟨pa, ca, hvf, hna, hca⟩ := ha.form
  subst hvf
  obtain ⟨pb, cb, hvf, hnb, hcb⟩ := hb.form
  subst hvf
  have Ha := Bl.hid ha
  have Hb := Bl.hid hb
  clear ha hb
  unfold maxLen at hcb
  have hlbt : Hid (∀ k, Bl.lb a * Bl.lb (b.take k) < 2 ^ (a.length + b.length)) := fun k => by
    have h1 := Bl.lb_lt a hya
    have h2 := Bl.lb_lt (b.take k) (hyb.take k)
    have h3 : Bl.lb a * Bl.lb (b.take k) < 2 ^ a.length * 2 ^ (b.take k).length := Nat.mul_lt_mul'' h1 h2
    rw [← Nat.pow_add] at h3
    refine Nat.lt_of_lt_of_le h3 (Nat.pow_le_pow_right (by decide) ?_)
    rw [List.length_take]; omega
  go_enter Tryd.func14, Tryd.ntmps14
  go_wp2_with fail
  go_loopw [5, 11] (fun o i wr => ∃ (k : Nat) (v : Value), k ≤ b.length ∧ i = .int .i64 k ∧ o = v ∧ Bl.Rd wr .u8 v (Bl.tb (Bl.lb a * Bl.lb (b.take k))) ∧ Bl.Ext w wr) (fun _ i _ => b.length - (intOf i).toNat)
  case atStart => exact ⟨0, _, Nat.zero_le _, rfl, rfl, .inr ⟨w.heap.size, 0, 0, by show _ = Value.slice _ (Bl.tb (Bl.lb a * 0)).length 0; rw [Nat.mul_zero]; rfl, by show (Bl.tb (Bl.lb a * 0)).length ≤ 0; rw [Nat.mul_zero]; exact Nat.le_refl 0, Nat.zero_le _, fun j v hv => by simp [Bl.lb, Bl.tb_zero, Bl.ints] at hv⟩, Bl.ext_alloc _ _⟩
  case round =>
    obtain ⟨k, o, hk, rfl, rfl, hR, hE⟩ := hrel
    have HR := Bl.hid hR
    have HE := Bl.hid hE
    clear hR
    by_cases hlt : k < b.length
    · obtain ⟨bb, oo, c', hqe, hnc, hcm, hlb2, hra, hget⟩ := Hb.out.pos (by omega)
      cases hqe
      have hc := ((Bl.bcell hE).1 bb (oo + k) hlb2).trans (hget k hlt)
      have hyk := hyb.get k
      have htk := Bl.hid (Bl.lb_take_succ b k)
      obtain ⟨y, hy⟩ : ∃ y, y = b.getD k 0 := ⟨_, rfl⟩
      rw [← hy] at hc hyk htk
      have hki : (k : Int) < (b.length : Int) := by omega
      clear hy hra hget hE
      by_cases hy1 : y = 1
      · subst hy1
        obtain ⟨w1, hrun, hown1, hE1, hs1⟩ := Bl.make_ints (P := Tryd.prog) tB k (by omega) (by unfold maxLen; omega) wr
        have Hown1 := Bl.hid hown1
        have HE1 := Bl.hid hE1
        have Ha1 := Bl.hid (Ha.out.ext (HE.out.trans hE1))
        clear hown1 hE1 hyk
        go_wp2_with (with_reducible refine Bl.stop_append ?_)
        clear hrun
        refine Bl.go_on ?_
        refine Bl.wpL_app tB Hown1.out Ha1.out rfl rfl (by simp) (Bl.ints_one _ _) (by unfold maxLen; omega) (by omega) (Nat.le_of_lt hs1) ?_
        intro p4 c4 w4 hown4 hg4 hB4 hK4 hn4 hc4
        have hR4 : Bl.Rd w4 .u8 (.slice p4 (k + a.length) c4) (List.replicate k 0 ++ a) := by
          have := Bl.Rds.of_owns hown4
          rw [← Bl.ints_append] at this
          show Bl.Rds _ _ _ _
          rw [List.length_append, List.length_replicate]
          exact this
        have hE4 : Bl.Ext wr w4 := Below.trans HE1.out hB4
        have HR4 := Bl.hid hR4
        have HE4 := Bl.hid hE4
        clear hown4 hg4 hB4 hK4 hR4 hE4
        go_wp2_with fail
        refine (radd_any _ _ _ _ _ (HR.out.ext HE4.out) HR4.out ?_ (by rw [List.length_append, List.length_replicate]; omega) (Bl.tb_bit _) ((Bl.Bit.rep k).append hya)).mono ?_
        · have := Bl.tb_len_le (a.length + b.length) _ (hlbt.out k); omega
        rintro e w5 ⟨v5, rfl, h5, hE5⟩
        rw [Bl.lb_tb, Bl.lb_shift] at h5
        have H5 := Bl.hid h5
        have HE5 := Bl.hid hE5
        clear h5 hE5
        go_wp2_with fail
        go_roundw
        case rel =>
          refine ⟨k + 1, v5, by omega, by simp, rfl, ?_, (HE.out.trans HE4.out).trans HE5.out⟩
          rw [htk.out, Nat.mul_add]
          have := H5.out
          rw [show (1 : Int).toNat = 1 from rfl, Nat.one_mul, Nat.mul_comm (Bl.lb a) (2 ^ k)]
          exact this
        case measure => simp [intOf]; omega
      · obtain rfl : y = 0 := by omega
        clear hyk hy1
        go_wp2_with fail
        go_roundw
        case rel =>
          refine ⟨k + 1, _, by omega, by simp, rfl, ?_, HE.out⟩
          rw [htk.out]
          simpa using HR.out
        case measure => simp [intOf]; omega
    · obtain rfl : k = b.length := by omega
      have hR := HR.out
      rw [List.take_length] at hR
      have HR2 := Bl.hid hR
      clear hR hE
      go_wp2_with fail
      go_ret
      exact ⟨_, rfl, HR2.out, HE.out⟩

set_option maxRecDepth 100000 in
set_option maxHeartbeats 1000000 in
/-- baileeref37.Bytes: bits as a number's bytes -/
theorem rbytes_any (v : Value) (l : List Int) (w : World) (h : Bl.Rd w .u8 v l) (hl : l.length ≤ 1000000) (hy : Bl.Bit l) :
    Calls Tryd.prog 38 #[v] w fun e w' => ∃ v', e = .returned v' ∧ Bl.Rd w' .u8 v' (Bl.tob (Bl.lb l)) ∧ Bl.Ext w w' := by
  obtain ⟨p, c, hvf, hvn, hvc⟩ := h.form
  subst hvf
  have H := Bl.hid h
  clear h
  unfold maxLen at hvc
  go_enter Tryd.func38, Tryd.ntmps38
  go_wp2_with fail
  go_loopw [3, 4] (fun o i wr => ∃ (m : Nat) (q : Option Addr) (d : Nat) (r : List Int), 8 * m ≤ l.length + 7 ∧ i = .int .i64 (8 * m : Nat) ∧ o = .slice q m d ∧ wr.ownsRow w.heap.size 5 1 (.slice q m d) m (Bl.ints .u8 r) ∧ Hid (Bl.Byt r) ∧ Hid (r.length = m) ∧ Hid (Bl.be r = Bl.lb (l.take (8 * m))) ∧ Bl.Ext w wr) (fun _ i _ => l.length + 8 - (intOf i).toNat)
  case atStart => exact ⟨0, some ⟨w.heap.size, 0, none⟩, 0, [], by omega, rfl, rfl, Bl.owns_nil_lit _ _ _ (Nat.le_refl _) _, Bl.Byt.nil, rfl, rfl, Bl.ext_alloc _ _⟩
  case round =>
    obtain ⟨m, q, d, r, hm, rfl, rfl, hown, hb, hrl, hv, hE⟩ := hrel
    have Hown := Bl.hid hown
    have HE := Bl.hid hE
    obtain ⟨q', d', hfr, hqn, hqc⟩ := (Bl.Rds.of_owns hown).form
    obtain ⟨rfl, rfl⟩ : q = q' ∧ d = d' := by cases hfr; exact ⟨rfl, rfl⟩
    clear hfr
    by_cases hlt : 8 * m < l.length
    · have hmi : ((8 * m : Nat) : Int) < (l.length : Int) := by omega
      obtain ⟨b, o, c', hqe, hnc, hcm, hlb, hra, hget⟩ := H.out.pos (by omega)
      cases hqe
      have Hget := Bl.hid (show ∀ i, i < l.length → wr.cell? ⟨b, o + i, none⟩ = some (.int .u8 (l.getD i 0)) from fun i hi => ((Bl.bcell hE).1 b (o + i) hlb).trans (hget i hi))
      clear hra hget hown hE
      go_wp2_with fail
      go_loop [5, 6] (fun x j => ∃ (k : Nat), k ≤ 8 ∧ j = .int .i64 (7 - (k : Int)) ∧ x = .int .u8 (Bl.hor l (8 * m) k : Nat)) (fun _ j => (intOf j + 1).toNat)
      case atStart => exact ⟨0, by omega, by simp, rfl⟩
      case round =>
        obtain ⟨k, hk, rfl, rfl⟩ := hrel
        by_cases hk8 : k < 8
        · have hh := Bl.hor_lt l hy (8 * m) k
          have hh2 : 2 ^ k ≤ 2 ^ 7 := Nat.pow_le_pow_right (by decide) (by omega)
          have hsucc := Bl.hid (show Bl.hor l (8 * m) (k + 1) = Bl.hor l (8 * m) k * 2 + (l.getD (8 * m + (7 - k)) 0).toNat from rfl)
          obtain ⟨h, hhe⟩ : ∃ h, h = Bl.hor l (8 * m) k := ⟨_, rfl⟩
          rw [← hhe] at hh hsucc ⊢
          have hb127 : h ≤ 127 := by omega
          clear hhe hh hh2
          have e1 : (0 : Int) ≤ 7 - (k : Int) := by omega
          have e4 : (k : Int) ≤ 7 := by omega
          have e2 : (8 * (m : Int) + (7 - (k : Int))).toNat = 8 * m + (7 - k) := by omega
          have e5 : (0 : Int) ≤ 8 * (m : Int) + (7 - (k : Int)) := by omega
          by_cases hin : 8 * m + (7 - k) < l.length
          · have hc := Hget.out _ hin
            have hyk := hy.get (8 * m + (7 - k))
            obtain ⟨y, hye⟩ : ∃ y, y = l.getD (8 * m + (7 - k)) 0 := ⟨_, rfl⟩
            rw [← hye] at hc hyk hsucc
            have e3 : 8 * (m : Int) + (7 - (k : Int)) < (l.length : Int) := by omega
            have y0 : 0 ≤ y := by omega
            have y1 : y ≤ 1 := by omega
            clear hye hyk
            go_wp2_with fail
            go_round
            case rel => exact ⟨k + 1, by omega, by simp; omega, by rw [hsucc.out]; simp; omega⟩
            case measure => simp [intOf]; omega
          · have h0 : l.getD (8 * m + (7 - k)) 0 = 0 := by rw [List.getD_eq_getElem?_getD, List.getElem?_eq_none (by omega)]; rfl
            rw [h0] at hsucc
            have e3 : (l.length : Int) ≤ 8 * (m : Int) + (7 - (k : Int)) := by omega
            clear h0
            go_wp2_with fail
            go_round
            case rel => exact ⟨k + 1, by omega, by simp; omega, by rw [hsucc.out]; simp⟩
            case measure => simp [intOf]; omega
        · obtain rfl : k = 8 := by omega
          have hh := Bl.hor_lt l hy (8 * m) 8
          have hoct := Bl.oct_eq l (8 * m) 8
          rw [← Bl.hor_eight] at hoct
          obtain ⟨h, hhe⟩ : ∃ h, h = Bl.hor l (8 * m) 8 := ⟨_, rfl⟩
          rw [← hhe] at hh hoct ⊢
          have hh255 : h ≤ 255 := by omega
          have Hoct := Bl.hid hoct
          clear hhe hh hoct
          have Hr := Bl.hid (show Bl.Rds (wr.alloc (.cells #[.int .u8 (h : Int)] 5)) (.slice q m d) m (Bl.ints .u8 r) from (Bl.Rds.of_owns Hown.out).ext (Bl.ext_alloc _ _))
          have Hone := Bl.hid (show (wr.alloc (.cells #[.int .u8 (h : Int)] 5)).ownsRow w.heap.size 5 1 (.slice (some ⟨wr.heap.size, 0, none⟩) 1 1) 1 (Bl.ints .u8 [(h : Int)]) from Bl.owns_new wr 5 #[.int .u8 (h : Int)] w.heap.size 1 1 HE.out.size (by decide) rfl)
          go_wp2_with (with_reducible refine Bl.stop_append ?_)
          refine Bl.go_on ?_
          refine Bl.wpL_app tB Hone.out Hr.out rfl rfl (by simpa using hrl.out) (Bl.ints_one _ _) (by unfold maxLen; omega) (by omega) (by have := HE.out.size; simp only [World.size_alloc]; omega) ?_
          intro p4 c4 w4 hown4 hg4 hB4 hK4 hn4 hc4
          go_wp2_with fail
          go_roundw
          case rel =>
            refine ⟨m + 1, p4, c4, (h : Int) :: r, by omega, by simp; omega, by simp; omega, ?_, ?_, ?_, ?_, Below.trans HE.out (Below.trans (Bl.below_alloc wr _ HE.out.size) hB4)⟩
            · rw [Nat.add_comm m 1]; rw [← Bl.ints_append] at hown4; exact hown4
            · show Bl.Byt _
              intro x hx
              rcases List.mem_cons.1 hx with rfl | hx
              · omega
              · exact hb.out x hx
            · show _ = _; rw [List.length_cons, hrl.out]
            · show _ = _
              rw [Bl.be_cons, hrl.out, hv.out, Int.toNat_natCast, show 8 * (m + 1) = 8 * m + 8 from rfl, ← Hoct.out, show (256 : Nat) ^ m = 2 ^ (8 * m) from by rw [Nat.pow_mul]]
              omega
          case measure => simp [intOf]; omega
    · have hres := Bl.trimz_eq r hb.out
      have hv2 := hv.out
      rw [List.take_of_length_le (by omega)] at hv2
      rw [hv2] at hres
      have Hres := Bl.hid hres
      have hR := Bl.Rds.of_owns hown
      have hrk := hrl.out
      subst hrk
      have HR := Bl.hid hR
      have hge : (l.length : Int) ≤ ((8 * r.length : Nat) : Int) := by omega
      clear hres hR hv2 hown hE
      go_wp2_with fail
      go_loop [3] (fun s => ∃ t : List Int, Bl.Rd wr .u8 s t ∧ Hid (Bl.trimz r = Bl.trimz t) ∧ t.length ≤ r.length) (fun s => Bl.lenS s)
      case atStart => exact ⟨r, HR.out, rfl, Nat.le_refl _⟩
      case round =>
        obtain ⟨t, hr, ht, hm⟩ := hrel
        have Hr := Bl.hid hr
        obtain ⟨q2, d2, rfl, hqn2, hqc2⟩ := hr.form
        clear hr
        cases t with
        | nil =>
          have hn := Bl.hid (show Bl.tob (Bl.lb l) = [] from by rw [← Hres.out, ht.out]; rfl)
          simp only [List.length_nil] at hqn2 hqc2 hm ⊢
          go_wp2_with fail
          go_ret
          exact ⟨_, rfl, by rw [hn.out]; exact Hr.out, HE.out⟩
        | cons x t =>
          obtain ⟨b, o, c', hqe, hnc, hcm, hlt2, hra, hget⟩ := Hr.out.pos (by simp)
          cases hqe
          have hc0 : wr.cell? ⟨b, o, none⟩ = some (.int .u8 x) := by have := hget 0 (by simp); simpa using this
          have Hra := Bl.hid hra
          simp only [List.length_cons] at hqn2 hqc2 hm hnc ⊢
          clear hget hra
          unfold maxLen at hqc2 hcm
          by_cases hx : x = 0
          · subst hx
            by_cases hd : d2 = 1
            · subst hd
              have hr0 : t.length = 0 := by omega
              obtain rfl : t = [] := List.length_eq_zero_iff.1 hr0
              simp only [List.length_nil, Nat.zero_add] at hqn2 hqc2 hm hnc ⊢
              go_wp2_with fail
              go_round
              case rel => exact ⟨[], .inr ⟨b, o, 0, rfl, Nat.le_refl _, by unfold maxLen; omega, fun j v hv => by simp [Bl.ints] at hv⟩, by rw [ht.out]; rfl, by simp⟩
              case measure => simp [Bl.lenS]
            · have hd1 : 1 < d2 := by omega
              have hd2 : (1 : Int) ≤ (d2 : Int) := by omega
              go_wp2_with fail
              go_round
              case rel =>
                refine ⟨t, .inr ⟨b, o + 1, d2 - 1, by simp, by omega, by unfold maxLen; omega, ?_⟩, by rw [ht.out]; rfl, by omega⟩
                exact Bl.rangeAt_drop Hra.out 1
              case measure => simp [Bl.lenS]
          · have hx0 : (x == 0) = false := by simpa using hx
            have hn := Bl.hid (show Bl.tob (Bl.lb l) = x :: t from by
              rw [← Hres.out, ht.out]; unfold Bl.trimz; rw [List.dropWhile_cons]; simp [hx])
            go_wp2_with fail
            go_ret
            refine ⟨_, rfl, ?_, HE.out⟩
            rw [hn.out]
            exact .inr ⟨b, o, d2, rfl, by simpa using hqn2, by unfold maxLen; omega, Hra.out⟩

set_option maxRecDepth 100000 in
/-- baileelaw37.same: a number's bytes are those of bits -/
theorem same_any (va vb : Value) (n : Nat) (l : List Int) (w : World) (ha : Bl.Rd w .u8 va (Bl.tob n)) (hb : Bl.Rd w .u8 vb l) (hll : l.length ≤ 1000000) (hy : Bl.Bit l) (hn : Bl.lb l = n) :
    Calls Tryd.prog 16 #[va, vb] w fun e w' => e = .returned (.bool true) ∧ Bl.Ext w w' := by
  have Ha := Bl.hid ha
  have Hb := Bl.hid hb
  have lt := World.block_lt_of_cell? w
  clear ha hb lt
  subst hn
  go_enter Tryd.func16, Tryd.ntmps16
  go_wp2_with fail
  apply Bl.wp_region_ev 6 [5, 6, 7, 8, 9, 10] [Bl.eqv _, Bl.eqv _, Bl.eqv _, (fun v w' => Bl.Rd w' .u8 v (Bl.tob (Bl.lb l))), Bl.eqv _, Bl.eqv _] (by kernel_rfl) (by kernel_rfl) (by kernel_rfl) (by kernel_rfl)
  case hsteps =>
    refine ⟨?_, ?_, ?_, ?_, ?_, ?_, trivial⟩
    all_goals
      intro ev w1 hext hb hd
      have e0 := hb 0 (by decide)
      have e1 := hb 1 (by decide)
      clear hb
      simp only [Array.getD_eq_getD_getElem?, List.getElem?_toArray, List.getElem?_cons_succ, List.getElem?_cons_zero, Option.getD_some] at e0 e1
      simp only [Bl.DepsE, List.getElem?_cons_succ, List.getElem?_cons_zero, Option.bind_some, List.getD_cons_succ, List.getD_cons_zero, Bl.eqv, and_true] at hd
      have hc := (Bl.bcell hext).1
      have Hcv := fun (v : Value) (m : List Int) (h : Bl.Rd w1 .u8 v m) => Bl.conv_bytes (P := Tryd.prog) (src := 23) (dst := 9) h Tryd.underlying23 Tryd.underlying5 Tryd.underlying9
      have c1 := Hcv va _ (Ha.out.ext hext)
      try (have c2 := Hcv _ _ hd)
      clear Hcv
      simp only [Bl.Good, Region.wanted, if_true]
      go_simp
      first | (go_at_call 38; refine (rbytes_any _ l _ (Hb.out.ext hext) hll hy).mono ?_; rintro e w' ⟨v', rfl, h1, h2⟩; exact ⟨_, rfl, h2, h1⟩) | exact ⟨Below.refl _ _, rfl⟩
  case hmono => exact ⟨Bl.mono_eqv _, Bl.mono_eqv _, Bl.mono_eqv _, (fun _ _ _ h k => Bl.Rd.ext h k), Bl.mono_eqv _, Bl.mono_eqv _, trivial⟩
  case hend =>
    intro u w1 hext hend
    simp only [Bl.EndE, List.getElem?_cons_succ, List.getElem?_cons_zero, Option.bind_some, List.getD_cons_succ, List.getD_cons_zero, Bl.eqv, true_and] at hend
    simp only [Bl.fillAct, List.setIfInBounds_toArray, List.set_cons_succ, List.set_cons_zero, List.drop_succ_cons, List.drop_zero, hend]
    go_wp2_with fail
    go_ret
    exact ⟨rfl, hext⟩
end Go.Proofs.YtkndnmpdklidkaaDoor

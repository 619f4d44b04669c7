/- Walks of package baileeref37: at, cut, Bits. -/
import Derived.Test.YtkndnmpdklidkaaDoorLibB
import Derived.Test.YtkndnmpdklidkaaDoorStr
import Derived.Test.YtkndnmpdklidkaaDoorMake
import Derived.Test.YtkndnmpdklidkaaDoorChanceB
namespace Go.Proofs.YtkndnmpdklidkaaDoor
open Go.RowKit Go.Proofs

set_option maxRecDepth 100000 in
set_option maxHeartbeats 400000 in
theorem rat_any (v : Value) (l : List Int) (i : Nat) (w : World) (h : Bl.Rd w .u8 v l) (hl : l.length ≤ 1099511627776) (hi : i ≤ 1099511627776) :
    Calls Tryd.prog 36 #[v, .int .i64 i] w fun e w' => e = .returned (.int .u8 (l.getD i 0)) ∧ w = w' := by
  obtain ⟨p, c, hvf, hvn, hvc⟩ := h.form
  have H := Bl.hid h
  clear h
  subst hvf
  unfold maxLen at hvc
  by_cases hlt : i < l.length
  · obtain ⟨b, o, c', hqe, hnc, hcm, hlb, hra, hget⟩ := H.out.pos (by omega)
    cases hqe
    have hc := hget i hlt
    obtain ⟨x, hx⟩ : ∃ x, x = l.getD i 0 := ⟨_, rfl⟩
    rw [← hx] at hc ⊢
    clear hx hget hra
    have hi1 : (i : Int) < (l.length : Int) := by omega
    go_enter Tryd.func36, Tryd.ntmps36
    go_wp2_with fail
    go_ret
    exact ⟨rfl, rfl⟩
  · have hrev : l.getD i 0 = 0 := by rw [List.getD_eq_getElem?_getD, List.getElem?_eq_none (by omega)]; rfl
    rw [hrev]
    have hge : (l.length : Int) ≤ (i : Int) := by omega
    clear hrev
    go_enter Tryd.func36, Tryd.ntmps36
    go_wp2_with fail
    go_ret
    exact ⟨rfl, rfl⟩

set_option maxRecDepth 100000 in
set_option maxHeartbeats 400000 in
/-- bits without noughts at the end: a piece of what came in -/
theorem cut_any (v : Value) (l : List Int) (w : World) (h : Bl.Rd w .u8 v l) (hl : l.length ≤ 1099511627776) :
    Calls Tryd.prog 37 #[v] w fun e w' => ∃ v', e = .returned v' ∧ Bl.Rd w .u8 v' (Bl.cutz l) ∧ (∀ k, v'.ownBlock = some k → v.ownBlock = some k) ∧ w = w' := by
  have H := Bl.hid h
  rcases h with ⟨⟨p, rfl⟩, hn, hc⟩ | ⟨b, o, c, rfl, hnc, hcm, hr⟩
  · obtain rfl : l = [] := List.length_eq_zero_iff.1 hn
    clear hn hc
    cases p
    all_goals
      go_enter Tryd.func37, Tryd.ntmps37
      go_wp2_with fail
      go_loop [3] (fun n => n = .int .i64 0) (fun _ => 0)
      case atStart => rfl
      case round =>
        subst hrel
        go_wp2_with fail
        go_ret
        exact ⟨_, rfl, .inl ⟨⟨_, rfl⟩, rfl, rfl⟩, fun k hk => by first | exact hk | (simpa [Value.ownBlock, Addr.add] using hk) | (simp [Value.ownBlock] at hk), rfl⟩
  · have Hr := Bl.hid hr
    clear hr
    unfold maxLen at hcm
    go_enter Tryd.func37, Tryd.ntmps37
    go_wp2_with fail
    go_loop [3] (fun n => ∃ k : Nat, k ≤ l.length ∧ n = .int .i64 k ∧ Hid (Bl.cutz l = Bl.cutz (l.take k))) (fun n => (intOf n).toNat)
    case atStart => exact ⟨l.length, Nat.le_refl _, rfl, by show _ = _; rw [List.take_length]⟩
    case round =>
      obtain ⟨k, hk, rfl, ht⟩ := hrel
      cases k with
      | zero =>
        go_wp2_with fail
        go_ret
        refine ⟨_, rfl, ?_, fun k hk => (by simpa [Value.ownBlock, Addr.add] using hk), rfl⟩
        rw [ht.out]
        exact .inr ⟨b, o, c, rfl, Nat.zero_le _, by unfold maxLen; omega, fun j v hv => by simp [Bl.ints, Bl.cutz] at hv⟩
      | succ k =>
        have hcell : w.cell? ⟨b, o + k, none⟩ = some (.int .u8 (l.getD k 0)) := Hr.out k _ (Bl.ints_get .u8 l k (by omega))
        have e1 : (((k + 1 : Nat) : Int) - 1).toNat = k := by omega
        have e2 : ((k + 1 : Nat) : Int) - 1 = (k : Int) := by omega
        have e3 : (k : Int) < (l.length : Int) := by omega
        have e4 : (k : Int) + 1 ≤ (c : Int) := by omega
        have e5 : (k : Int) ≤ (c : Int) := by omega
        by_cases h0 : l.getD k 0 = 0
        · rw [h0] at hcell
          have hz := Bl.hid (Bl.cutz_take0 l k (by omega) h0)
          clear h0
          go_wp2_with fail
          go_round
          case rel => exact ⟨k, by omega, by simp, by show _ = _; rw [ht.out, hz.out]⟩
          case measure => simp [intOf]
        · have hz := Bl.hid (Bl.cutz_take1 l k (by omega) h0)
          obtain ⟨x, hx⟩ : ∃ x, x = l.getD k 0 := ⟨_, rfl⟩
          rw [← hx] at hcell h0
          have h0b : (x == 0) = false := by simpa using h0
          clear hx h0
          go_wp2_with fail
          go_ret
          refine ⟨_, rfl, ?_, fun k hk => (by simpa [Value.ownBlock, Addr.add] using hk), rfl⟩
          rw [ht.out, hz.out]
          refine .inr ⟨b, o, c, ?_, ?_, by unfold maxLen; omega, ?_⟩
          · rw [List.length_take, Nat.min_eq_left (by omega)]; rfl
          · rw [List.length_take]; omega
          · have := Bl.rangeAt_take Hr.out (k + 1)
            rwa [show (Bl.ints .u8 l).take (k + 1) = Bl.ints .u8 (l.take (k + 1)) from by simp [Bl.ints]] at this

set_option maxRecDepth 100000 in
set_option maxHeartbeats 1000000 in
/-- baileeref37.Bits: a number's bits -/
theorem bits_any (v : Value) (l : List Int) (w : World) (h : Bl.Rd w .u8 v l) (hl : l.length ≤ 100000) (hy : Bl.Byt l) :
    Calls Tryd.prog 15 #[v] w fun e w' => ∃ v', e = .returned v' ∧ Bl.Rd w' .u8 v' (Bl.tb (Bl.be l)) ∧ Bl.Ext w w' := by
  obtain ⟨p, c, hvf, hvn, hvc⟩ := h.form
  subst hvf
  have H := Bl.hid h
  clear h
  unfold maxLen at hvc
  obtain ⟨A, hA⟩ : ∃ A, A = l.reverse := ⟨_, rfl⟩
  have HyA := Bl.hid (show Bl.Byt A from by rw [hA]; exact Bl.byt_rev hy)
  have hlew := Bl.hid (show Bl.lew A l.length = Bl.be l from by rw [Bl.lew_big A l.length (by rw [hA]; simp), hA, List.reverse_reverse])
  have hget := Bl.hid (show ∀ m, m < l.length → A.getD m 0 = l.getD (l.length - 1 - m) 0 from fun m hm => by
    rw [hA, List.getD_eq_getElem?_getD, List.getD_eq_getElem?_getD, List.getElem?_reverse hm])
  clear hA
  go_enter Tryd.func15, Tryd.ntmps15
  go_wp2_with fail
  go_loopw [3, 4] (fun o i wr => ∃ (m : Nat) (q : Option Addr) (d : Nat) (r : List Int), m ≤ l.length ∧ i = .int .i64 ((l.length : Int) - 1 - m) ∧ o = .slice q (8 * m) d ∧ wr.ownsRow w.heap.size 5 1 (.slice q (8 * m) d) (8 * m) (Bl.ints .u8 r) ∧ Hid (Bl.Bit r) ∧ Hid (r.length = 8 * m) ∧ Hid (Bl.lb r = Bl.lew A m) ∧ Bl.Ext w wr) (fun _ i _ => (intOf i + 1).toNat)
  case atStart => exact ⟨0, some ⟨w.heap.size, 0, none⟩, 0, [], Nat.zero_le _, by simp, rfl, Bl.owns_nil_lit _ _ _ (Nat.le_refl _) _, Bl.Bit.nil, rfl, rfl, Bl.ext_alloc _ _⟩
  case round =>
    obtain ⟨m, q, d, r, hm, rfl, rfl, hown, hb, hrl, hv, hE⟩ := hrel
    have Hown := Bl.hid hown
    have HE := Bl.hid hE
    by_cases hlt : m < l.length
    · obtain ⟨b, o, c', hqe, hnc, hcm, hlb, hra, hgt⟩ := H.out.pos (by omega)
      cases hqe
      have hc := ((Bl.bcell hE).1 b (o + (l.length - 1 - m)) hlb).trans (hgt (l.length - 1 - m) (by omega))
      have hy1 := HyA.out.get m
      have hgm := hget.out m hlt
      rw [← hgm] at hc
      obtain ⟨X, hX⟩ : ∃ X, X = A.getD m 0 := ⟨_, rfl⟩
      rw [← hX] at hc hy1
      have hsucc := Bl.hid (show Bl.lew A (m + 1) = Bl.lew A m + X.toNat * 256 ^ m from by rw [hX]; rfl)
      obtain ⟨X0, X1⟩ := hy1
      clear hX hgm hgt hra hown hE
      have e1 : ((l.length : Int) - 1 - (m : Int)).toNat = l.length - 1 - m := by omega
      have e2 : (0 : Int) ≤ (l.length : Int) - 1 - (m : Int) := by omega
      have e3 : (l.length : Int) - 1 - (m : Int) < (l.length : Int) := by omega
      have e4 : (m : Int) ≤ (l.length : Int) - 1 := by omega
      go_wp2_with fail
      obtain ⟨wo, hwo⟩ : ∃ wo : World, wo = wr := ⟨_, rfl⟩
      rw [← hwo]
      rw [← hwo] at Hown HE
      clear hwo
      clear hc
      go_loopw [3, 5, 6] (fun o x j ws => ∃ (k : Nat) (q : Option Addr) (d : Nat) (r : List Int) (x' : Int), k ≤ 8 ∧ j = .int .i64 k ∧ x = .int .u8 x' ∧ o = .slice q (8 * m + k) d ∧ ws.ownsRow w.heap.size 5 1 (.slice q (8 * m + k) d) (8 * m + k) (Bl.ints .u8 r) ∧ Hid (Bl.Bit r) ∧ Hid (r.length = 8 * m + k) ∧ 0 ≤ x' ∧ x' ≤ 255 ∧ Hid (x' = X / 2 ^ k) ∧ Hid (Bl.lb r = Bl.lew A m + (X.toNat % 2 ^ k) * 256 ^ m) ∧ Bl.Ext w ws) (fun _ _ j _ => 8 - (intOf j).toNat)
      case atStart => exact ⟨0, q, d, r, X, by omega, rfl, rfl, rfl, Hown.out, hb, hrl, X0, X1, by show _ = _; simp, by show _ = _; rw [hv.out]; simp [Nat.mod_one], HE.out⟩
      case round =>
        obtain ⟨k, q, d, r, x, hk, rfl, rfl, rfl, hown, hb, hrl, x0, x1, hx, hv, hE⟩ := hrel
        have Hown := Bl.hid hown
        have HE := Bl.hid hE
        obtain ⟨q', d', hfr, hqn, hqc⟩ := (Bl.Rds.of_owns hown).form
        obtain ⟨rfl, rfl⟩ : q = q' ∧ d = d' := by cases hfr; exact ⟨rfl, rfl⟩
        clear hown hE hfr
        by_cases hk8 : k < 8
        · have hstep := Bl.hid (Bl.bits_step A r m k X x hrl.out X0 hx.out hv.out)
          have hki : (k : Int) < 8 := by omega
          go_wp2_with (with_reducible refine Bl.stop_append ?_)
          refine Bl.go_on ?_
          have Hown2 := Bl.hid (Bl.owns_ext Hown.out (Bl.ext_alloc wr (.cells #[.int .u8 (x % 2)] 5)))
          have Hnew := Bl.hid (Bl.rds_one wr 5 .u8 (x % 2))
          refine Bl.wpL_app tB Hown2.out Hnew.out rfl rfl (by simp) (Bl.ints_one _ _) (by unfold maxLen; omega) (by omega) (by have := HE.out.size; simp only [World.size_alloc]; omega) ?_
          intro p4 c4 w4 hown4 hg4 hB4 hK4 hn4 hc4
          go_wp2_with fail
          go_roundw
          case rel =>
            refine ⟨k + 1, p4, c4, r ++ [x % 2], x / 2, by omega, by simp, rfl, rfl, by rw [Bl.ints_append]; exact hown4, hb.out.append (Bl.Bit.one (by omega)), ?_, by omega, by omega, ?_, hstep.out, Below.trans HE.out (Below.trans (Bl.below_alloc wr _ HE.out.size) hB4)⟩
            · show _ = _; rw [List.length_append, hrl.out]; rfl
            · show _ = _; rw [hx.out, Bl.shr_step X k X0]
          case measure => simp [intOf]; omega
        · obtain rfl : k = 8 := by omega
          go_wp2_with fail
          go_roundw
          case rel =>
            refine ⟨m + 1, q, d, r, by omega, by simp; omega, by simp; omega, Hown.out, hb.out, hrl.out, ?_, HE.out⟩
            show _ = _
            rw [hv.out, hsucc.out, show (2 : Nat) ^ 8 = 256 from rfl, Nat.mod_eq_of_lt (by omega)]
          case measure => simp [intOf]; omega
    · obtain rfl : m = l.length := by omega
      have hres := Bl.cutz_eq r hb.out
      rw [hv.out, hlew.out] at hres
      have Hres := Bl.hid hres
      have hR := Bl.Rds.of_owns hown
      rw [← hrl.out] at hR
      have HR := Bl.hid hR
      rw [← hrl.out]
      clear hres hR hown hE
      go_wp2_with fail
      refine (cut_any _ r _ HR.out (by rw [hrl.out]; omega)).mono ?_
      rintro e w' ⟨v', rfl, h1, _, rfl⟩
      rw [Hres.out] at h1
      have H1 := Bl.hid h1
      clear h1
      go_wp2_with fail
      go_ret
      exact ⟨_, rfl, H1.out, HE.out⟩
end Go.Proofs.YtkndnmpdklidkaaDoor

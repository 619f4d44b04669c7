/- Walks of package baileeref37: Add, Mul, Bytes; of baileelaw37.same. -/
import Derived.Test.YtkndnmpdklidkaaDoorRf1
namespace Go.Proofs.YtkndnmpdklidkaaDoor
open Go.RowKit Go.Proofs

set_option maxRecDepth 100000 in
set_option maxHeartbeats 1000000 in
/-- baileeref37.Add: a sum of bits -/
theorem radd_own (va vb : Value) (a b : List Int) (w : World) (ha : Bl.Rd w .u8 va a) (hb : Bl.Rd w .u8 vb b) (hla : a.length ≤ 1000000) (hlb : b.length ≤ 1000000) (hya : Bl.Bit a) (hyb : Bl.Bit b) :
    Calls Tryd.prog 13 #[va, vb] w fun e w' => ∃ v', e = .returned v' ∧ Bl.Rd w' .u8 v' (Bl.tb (Bl.lb a + Bl.lb b)) ∧ Bl.Ext w w' ∧ ∀ k, v'.ownBlock = some k → w.heap.size ≤ k := by
  obtain ⟨pa, ca, hvf, hna, hca⟩ := ha.form
  subst hvf
  obtain ⟨pb, cb, hvf, hnb, hcb⟩ := hb.form
  subst hvf
  have Ha := Bl.hid ha
  have Hb := Bl.hid hb
  clear ha hb
  obtain ⟨M, hM⟩ : ∃ M, M = max a.length b.length := ⟨_, rfl⟩
  have hMa : a.length ≤ M := by omega
  have hMb : b.length ≤ M := by omega
  have hM2 : M ≤ 1000000 := by omega
  have HM := Bl.hid hM
  clear hM
  go_enter Tryd.func13, Tryd.ntmps13
  go_wp2_with fail
  go_loopw [5, 6, 7] (fun o c i wr => ∃ (k : Nat) (q : Option Addr) (d : Nat) (r : List Int) (c' : Int), k ≤ M + 1 ∧ i = .int .i64 k ∧ c = .int .u8 c' ∧ (c' = 0 ∨ c' = 1) ∧ Hid (k = M + 1 → c' = 0) ∧ o = .slice q k d ∧ wr.ownsRow w.heap.size 5 1 (.slice q k d) k (Bl.ints .u8 r) ∧ Hid (Bl.Bit r) ∧ Hid (r.length = k) ∧ Hid (Bl.lb r + c'.toNat * 2 ^ k = Bl.lb (a.take k) + Bl.lb (b.take k)) ∧ Bl.Ext w wr) (fun _ _ i _ => M + 1 - (intOf i).toNat)
  case atStart => exact ⟨0, some ⟨w.heap.size, 0, none⟩, 0, [], 0, by omega, rfl, rfl, .inl rfl, fun h => rfl, rfl, Bl.owns_nil_lit _ _ _ (Nat.le_refl _) _, Bl.Bit.nil, rfl, by show _ = _; simp [Bl.lb], Bl.ext_alloc _ _⟩
  case round =>
    obtain ⟨k, q, d, r, c, hk, rfl, rfl, hc, hcz, rfl, hown, hbit, hrl, hv, hE⟩ := hrel
    have Hown := Bl.hid hown
    have HE := Bl.hid hE
    obtain ⟨q', d', hfr, hqn, hqc⟩ := (Bl.Rds.of_owns hown).form
    obtain ⟨rfl, rfl⟩ : q = q' ∧ d = d' := by cases hfr; exact ⟨rfl, rfl⟩
    clear hfr
    by_cases hgo : k < a.length ∨ k < b.length ∨ c = 1
    · have hkM : k ≤ M := by
        rcases hgo with h | h | h
        · omega
        · omega
        · by_cases e : k = M + 1
          · have := hcz.out e; omega
          · omega
      have hta := rat_any (.slice pa a.length ca) a k _ (Ha.out.ext hE) (by omega) (by omega)
      have htb := rat_any (.slice pb b.length cb) b k _ (Hb.out.ext hE) (by omega) (by omega)
      have hstep := Bl.badd_step a b r c k hrl.out hc hya hyb hv.out
      have hxa := hya.get k
      have hxb := hyb.get k
      have haz := Bl.hid (show a.length ≤ k → a.getD k 0 = 0 from fun h => by rw [List.getD_eq_getElem?_getD, List.getElem?_eq_none h]; rfl)
      have hbz := Bl.hid (show b.length ≤ k → b.getD k 0 = 0 from fun h => by rw [List.getD_eq_getElem?_getD, List.getElem?_eq_none h]; rfl)
      obtain ⟨x, hx⟩ : ∃ x, x = a.getD k 0 := ⟨_, rfl⟩
      obtain ⟨y, hy⟩ : ∃ y, y = b.getD k 0 := ⟨_, rfl⟩
      rw [← hx] at hta hstep hxa haz
      rw [← hy] at htb hstep hxb hbz
      have Hta := Bl.hid hta
      have Htb := Bl.hid htb
      have Hstep := Bl.hid hstep
      have hc0 : 0 ≤ c := by omega
      have hc1 : c ≤ 1 := by omega
      have x0 : 0 ≤ x := by omega
      have x1 : x ≤ 1 := by omega
      have y0 : 0 ≤ y := by omega
      have y1 : y ≤ 1 := by omega
      have hq : (k : Int) < (a.length : Int) ∨ ((a.length : Int) ≤ (k : Int) ∧ (k : Int) < (b.length : Int)) ∨ ((a.length : Int) ≤ (k : Int) ∧ (b.length : Int) ≤ (k : Int) ∧ (0 : Int) < c) := by omega
      clear hx hy hta htb hstep hxa hxb hown hE hc hgo
      rcases hq with h1 | ⟨h1, h2⟩ | ⟨h1, h2, h3⟩
      all_goals
        go_wp2_with fail
        refine Hta.out.mono ?_
        rintro e w' ⟨rfl, rfl⟩
        go_wp2_with fail
        refine Htb.out.mono ?_
        rintro e w' ⟨rfl, rfl⟩
        go_wp2_with (with_reducible refine Bl.stop_append ?_)
        refine Bl.go_on ?_
        have Hown2 := Bl.hid (Bl.owns_ext Hown.out (Bl.ext_alloc wr (.cells #[.int .u8 ((x + y + c) % 2)] 5)))
        have Hnew := Bl.hid (Bl.rds_one wr 5 .u8 ((x + y + c) % 2))
        refine Bl.wpL_app tB Hown2.out Hnew.out rfl rfl (by simp) (Bl.ints_one _ _) (by unfold maxLen; omega) (by omega) (by have := HE.out.size; simp only [World.size_alloc]; omega) ?_
        intro p4 c4 w4 hown4 hg4 hB4 hK4 hn4 hc4
        go_wp2_with fail
        obtain ⟨st1, st2, st3⟩ := Hstep.out
        go_roundw
        case rel =>
          refine ⟨k + 1, p4, c4, r ++ [(x + y + c) % 2], (x + y + c) / 2, by omega, by simp, rfl, st2, fun h => ?_, rfl, by rw [Bl.ints_append]; exact hown4, hbit.out.append (Bl.Bit.one st3), ?_, st1, Below.trans HE.out (Below.trans (Bl.below_alloc wr _ HE.out.size) hB4)⟩
          · have h4 := haz.out (by omega)
            have h5 := hbz.out (by omega)
            subst h4 h5
            omega
          · show _ = _; rw [List.length_append, hrl.out]; rfl
        case measure => simp [intOf]; omega
    · obtain rfl : c = 0 := by omega
      have h1 : (a.length : Int) ≤ (k : Int) := by omega
      have h2 : (b.length : Int) ≤ (k : Int) := by omega
      have hres := Bl.cutz_eq r hbit.out
      have hv2 := hv.out
      rw [List.take_of_length_le (by omega), List.take_of_length_le (by omega)] at hv2
      simp only [Int.toNat_zero, Nat.zero_mul, Nat.add_zero] at hv2
      rw [hv2] at hres
      have Hres := Bl.hid hres
      have hR := Bl.Rds.of_owns hown
      have hrk := hrl.out
      subst hrk
      have HR := Bl.hid hR
      have Hlt := Bl.hid (fun k hk => (hown.lt k hk).1)
      clear hres hR hown hE hgo hv2 hc
      go_wp2_with fail
      refine (cut_any _ r _ HR.out (by omega)).mono ?_
      rintro e w' ⟨v', rfl, h1, hob, rfl⟩
      rw [Hres.out] at h1
      have H1 := Bl.hid h1
      have Hob := Bl.hid hob
      clear h1 hob
      go_wp2_with fail
      go_ret
      exact ⟨_, rfl, H1.out, HE.out, fun k hk => Hlt.out k (Hob.out k hk)⟩

theorem radd_any (va vb : Value) (a b : List Int) (w : World) (ha : Bl.Rd w .u8 va a) (hb : Bl.Rd w .u8 vb b) (hla : a.length ≤ 1000000) (hlb : b.length ≤ 1000000) (hya : Bl.Bit a) (hyb : Bl.Bit b) :
    Calls Tryd.prog 13 #[va, vb] w fun e w' => ∃ v', e = .returned v' ∧ Bl.Rd w' .u8 v' (Bl.tb (Bl.lb a + Bl.lb b)) ∧ Bl.Ext w w' :=
  (radd_own va vb a b w ha hb hla hlb hya hyb).mono fun e w' ⟨v', h1, h2, h3, _⟩ => ⟨v', h1, h2, h3⟩
end Go.Proofs.YtkndnmpdklidkaaDoor

/- Texts that stood apart, in one: WNs1, WNs2. -/
import Derived.Test.YtglenbikdahgjaaDoorShP
import Derived.Test.YtglenbikdahgjaaDoorWs0
/- Walks of number.may, Old, Has, Fresh, Copy: ids that came. -/
namespace Go.Proofs.YtglenbikdahgjaaDoor
open Go Go.RowKit Go.Proofs

theorem nmay_any (x : Int) (w : World) : Calls Tryd.prog 55 #[.int .i64 x] w fun e w' => e = .returned (.bool (Bl.wi x 0 1099511627776)) ∧ w = w' := by
  by_cases h1 : 0 ≤ x
  · by_cases h2 : x ≤ 1099511627776
    · have Hv : Hid (Bl.wi x 0 1099511627776 = true) := Bl.hid (Bl.wi_iff.2 ⟨h1, h2⟩)
      go_enter Tryd.func55, Tryd.ntmps55
      go_wp2
      go_ret
      exact ⟨by rw [Hv.out]; rfl, rfl⟩
    · have Hv : Hid (Bl.wi x 0 1099511627776 = false) := Bl.hid (Bl.wi_no.2 (by omega))
      go_enter Tryd.func55, Tryd.ntmps55
      go_wp2
      go_ret
      exact ⟨by rw [Hv.out]; rfl, rfl⟩
  · have Hv : Hid (Bl.wi x 0 1099511627776 = false) := Bl.hid (Bl.wi_no.2 (by omega))
    go_enter Tryd.func55, Tryd.ntmps55
    go_wp2
    go_ret
    exact ⟨by rw [Hv.out]; rfl, rfl⟩

theorem nold_any (sb : Nat) (any : Bool) (g : Int) (c : Nat) (ids : List Int) (x : Int) (w : World) (hB : Bl.BoxC w sb [.bool any, .int .i64 g, .int .u64 (c : Nat)]) (h : Bl.SeenOk any g c ids) :
    Calls Tryd.prog 56 #[.pointer (some ⟨sb, 0, none⟩), .int .i64 x] w fun e w' => e = .returned (.bool (Bl.oldI ids x)) ∧ w = w' := by
  have c0 := hB.cell (i := 0) rfl
  have c1 := hB.cell (i := 1) rfl
  obtain ⟨hr0, hr1⟩ := h.rng
  obtain ⟨V, hV⟩ : ∃ V, V = Bl.oldI ids x := ⟨_, rfl⟩
  have hv := hV
  rw [h.old] at hv
  rw [← hV]
  clear hB h hV
  cases any
  · have Hv : Hid (V = false) := Bl.hid (by rw [hv]; rfl)
    clear hv
    go_enter Tryd.func56, Tryd.ntmps56
    go_wp2
    go_ret
    exact ⟨by rw [Hv.out]; rfl, rfl⟩
  · by_cases hx : x ≤ g - 64
    · have Hv : Hid (V = true) := Bl.hid (by rw [hv]; simp [hx])
      clear hv
      go_enter Tryd.func56, Tryd.ntmps56
      go_wp2
      go_ret
      exact ⟨by rw [Hv.out]; simp, rfl⟩
    · have Hv : Hid (V = false) := Bl.hid (by rw [hv]; simp [hx])
      clear hv
      go_enter Tryd.func56, Tryd.ntmps56
      go_wp2
      go_ret
      exact ⟨by rw [Hv.out]; simp, rfl⟩

set_option maxRecDepth 100000 in
set_option maxHeartbeats 1000000 in
theorem nhas_any (sb : Nat) (any : Bool) (g : Int) (c : Nat) (ids : List Int) (x : Int) (w : World) (hB : Bl.BoxC w sb [.bool any, .int .i64 g, .int .u64 (c : Nat)]) (h : Bl.SeenOk any g c ids) :
    Calls Tryd.prog 57 #[.pointer (some ⟨sb, 0, none⟩), .int .i64 x] w fun e w' => e = .returned (.bool (Bl.hasI ids x)) ∧ Bl.Ext w w' := by
  have c0 := hB.cell (i := 0) rfl
  have c1 := hB.cell (i := 1) rfl
  have c2 := hB.cell (i := 2) rfl
  have hl := hB.lt
  obtain ⟨hr0, hr1⟩ := h.rng
  have HM := Bl.hid (nmay_any x w)
  have HO := Bl.hid (nold_any sb any g c ids x w hB h)
  have HNo := Bl.hid (fun hn => h.hasno (x := x) hn)
  have HHas := Bl.hid (fun ho ha hg => h.has (x := x) ho ha hg)
  have Hlt := Bl.hid h.lt
  obtain ⟨V, hV⟩ : ∃ V, V = Bl.hasI ids x := ⟨_, rfl⟩
  obtain ⟨O, hO⟩ : ∃ O, O = Bl.oldI ids x := ⟨_, rfl⟩
  obtain ⟨M, hM⟩ : ∃ M, M = Bl.wi x 0 1099511627776 := ⟨_, rfl⟩
  have Hwi : Hid (M = true → 0 ≤ x ∧ x ≤ 1099511627776) := Bl.hid (fun q => Bl.wi_iff.1 (by rw [← hM]; exact q))
  have Hold : Hid (any = true → O = false → g - 64 < x) := Bl.hid (fun qa q => by
    have := h.old x
    rw [← hO, q, qa] at this
    have : ¬ x ≤ g - 64 := by simpa using this.symm
    omega)
  rw [← hV, ← hO, ← hM] at HNo
  rw [← hV, ← hO] at HHas
  rw [← hO] at HO
  rw [← hM] at HM
  rw [← hV]
  clear hB h hV hO hM
  cases any
  · have Hv : Hid (V = false) := Bl.hid (HNo.out (.inl rfl))
    clear HM HO HNo HHas Hwi Hold
    go_enter Tryd.func57, Tryd.ntmps57
    go_wp2_with fail
    go_ret
    exact ⟨by rw [Hv.out]; rfl, Below.refl _ _⟩
  · cases M
    · have Hv : Hid (V = false) := Bl.hid (HNo.out (.inr (.inl rfl)))
      clear HO HNo HHas Hwi Hold
      go_enter Tryd.func57, Tryd.ntmps57
      go_wp2_with fail
      refine HM.out.mono ?_
      rintro e w1 ⟨rfl, hw⟩
      subst hw
      go_wp2_with fail
      go_ret
      exact ⟨by rw [Hv.out]; rfl, Below.refl _ _⟩
    · obtain ⟨hx0, hx1⟩ := Hwi.out rfl
      cases O
      · have hx2 := Hold.out rfl rfl
        by_cases hgx : g < x
        · have Hv : Hid (V = false) := Bl.hid (HNo.out (.inr (.inr (.inr hgx))))
          clear HNo HHas Hwi Hold
          go_enter Tryd.func57, Tryd.ntmps57
          go_wp2_with fail
          refine HM.out.mono ?_
          rintro e w1 ⟨rfl, hw⟩
          subst hw
          go_wp2_with fail
          refine HO.out.mono ?_
          rintro e w1 ⟨rfl, hw⟩
          subst hw
          go_wp2_with fail
          go_ret
          exact ⟨by rw [Hv.out]; rfl, Below.refl _ _⟩
        · have Hv : Hid (V = c.testBit (g - x).toNat) := Bl.hid (HHas.out rfl rfl (by omega))
          clear HNo HHas Hwi Hold
          obtain ⟨k, hk⟩ := Int.eq_ofNat_of_zero_le (show 0 ≤ g - x by omega)
          obtain rfl : x = g - (k : Int) := by omega
          have hk64 : k < 64 := by omega
          have hk0 : g - (g - (k : Int)) = (k : Int) := by omega
          have Hk : Hid ((g - (g - (k : Int))).toNat = k) := Bl.hid (by rw [hk0]; exact Int.toNat_natCast k)
          have hbt := Bl.bit_test c Hlt.out k
          have hgb : decide (g < g - (k : Int)) = false := decide_eq_false (by omega)
          have hwk : IntKind.i64.wrap (k : Int) = (k : Int) := by rw [IntKind.wrap_i64]; omega
          have hsh := Bl.shr_nat c k hk64
          rw [Hk.out] at Hv
          obtain ⟨Z, hZ⟩ : ∃ Z : Int, Z = (if c.testBit k then 1 else 0) := ⟨_, rfl⟩
          have HvZ : Hid (V = decide (Z = 1)) := Bl.hid (by
            rw [Hv.out, hZ]
            cases c.testBit k <;> rfl)
          rw [← hZ] at hbt
          clear hk hZ
          go_enter Tryd.func57, Tryd.ntmps57
          go_wp2_with fail
          refine HM.out.mono ?_
          rintro e w1 ⟨rfl, hw⟩
          subst hw
          go_wp2_with fail
          refine HO.out.mono ?_
          rintro e w1 ⟨rfl, hw⟩
          subst hw
          go_wp2_with fail
          apply Bl.wp_region_ev 13 [28, 29, 30, 31, 32, 33, 34, 35, 36, 37, 38, 39, 40] [Bl.eqv _, Bl.eqv _, Bl.eqv _, Bl.eqv _, Bl.eqv _, Bl.eqv _, Bl.eqv _, Bl.eqv _, Bl.eqv _, Bl.eqv _, Bl.eqv _, Bl.eqv _, Bl.eqv _] (by kernel_rfl) (by kernel_rfl) (by kernel_rfl) (by kernel_rfl)
          case hsteps =>
            refine ⟨?_, ?_, ?_, ?_, ?_, ?_, ?_, ?_, ?_, ?_, ?_, ?_, ?_, trivial⟩
            all_goals
              intro ev w1 hext hb hd
              have e0 := hb 0 (by decide)
              have e1 := hb 1 (by decide)
              clear hb
              simp only [Array.getD_eq_getD_getElem?, List.getElem?_toArray, List.getElem?_cons_succ, List.getElem?_cons_zero, Option.getD_some] at e0 e1
              simp only [Bl.DepsE, List.getElem?_cons_succ, List.getElem?_cons_zero, Option.bind_some, List.getD_cons_succ, List.getD_cons_zero, Bl.eqv, and_true] at hd
              have hc := (Bl.bcell hext).1
              have q1 := (hc _ 1 hl).trans c1
              have q2 := (hc _ 2 hl).trans c2
              simp only [Bl.Good, Region.wanted, if_true]
              go_simp
              first | exact ⟨Below.refl _ _, rfl⟩ | exact ⟨Below.refl _ _, rfl⟩
          case hmono => exact ⟨Bl.mono_eqv _, Bl.mono_eqv _, Bl.mono_eqv _, Bl.mono_eqv _, Bl.mono_eqv _, Bl.mono_eqv _, Bl.mono_eqv _, Bl.mono_eqv _, Bl.mono_eqv _, Bl.mono_eqv _, Bl.mono_eqv _, Bl.mono_eqv _, Bl.mono_eqv _, trivial⟩
          case hend =>
            intro u w1 hext hend
            simp only [Bl.EndE, List.getElem?_cons_succ, List.getElem?_cons_zero, Option.bind_some, List.getD_cons_succ, List.getD_cons_zero, Bl.eqv, true_and] at hend
            simp only [Bl.fillAct, List.setIfInBounds_toArray, List.set_cons_succ, List.set_cons_zero, List.drop_succ_cons, List.drop_zero, hend]
            have HE := Bl.hid hext
            clear hext hend
            go_wp2_with fail
            go_ret
            refine ⟨?_, HE.out⟩
            rw [HvZ.out]
            rfl
      · have Hv : Hid (V = false) := Bl.hid (HNo.out (.inr (.inr (.inl rfl))))
        clear HNo HHas Hwi Hold
        go_enter Tryd.func57, Tryd.ntmps57
        go_wp2_with fail
        refine HM.out.mono ?_
        rintro e w1 ⟨rfl, hw⟩
        subst hw
        go_wp2_with fail
        refine HO.out.mono ?_
        rintro e w1 ⟨rfl, hw⟩
        subst hw
        go_wp2_with fail
        go_ret
        exact ⟨by rw [Hv.out]; rfl, Below.refl _ _⟩
end Go.Proofs.YtglenbikdahgjaaDoor

/- Walks of number.Fresh and Copy: ids that came. -/
namespace Go.Proofs.YtglenbikdahgjaaDoor
open Go Go.RowKit Go.Proofs

/-- what Fresh leaves -/
def SnB (sb : Nat) (ids : List Int) (x : Int) (w' : World) : Prop := ∃ any g c, Bl.BoxC w' sb [.bool any, .int .i64 g, .int .u64 (c : Nat)] ∧ Bl.SeenOk any g c (if Bl.freI ids x = true then ids ++ [x] else ids)
def SnR (sb : Nat) (ids : List Int) (x : Int) (w w' : World) : Prop := SnB sb ids x w' ∧ Bl.Kq (fun k => k = sb) w w'

set_option maxRecDepth 100000 in
set_option maxHeartbeats 2000000 in
theorem nfresh_any (sb : Nat) (any : Bool) (g : Int) (c : Nat) (ids : List Int) (x : Int) (w : World) (hB : Bl.BoxC w sb [.bool any, .int .i64 g, .int .u64 (c : Nat)]) (h : Bl.SeenOk any g c ids) :
    Calls Tryd.prog 32 #[.pointer (some ⟨sb, 0, none⟩), .int .i64 x] w fun e w' => e = .returned (.bool (Bl.freI ids x)) ∧ SnR sb ids x w w' := by
  have HM := Bl.hid (nmay_any x w)
  have HO := Bl.hid (nold_any sb any g c ids x w hB h)
  have HH := Bl.hid (nhas_any sb any g c ids x w hB h)
  have HB := Bl.hid hB
  have Hs := Bl.hid h
  obtain ⟨O, hO⟩ : ∃ O, O = Bl.oldI ids x := ⟨_, rfl⟩
  obtain ⟨M, hM⟩ : ∃ M, M = Bl.wi x 0 1099511627776 := ⟨_, rfl⟩
  obtain ⟨H, hH⟩ : ∃ H, H = Bl.hasI ids x := ⟨_, rfl⟩
  have Heq := Bl.hid (And.intro hO (And.intro hM hH))
  have hno : (M = false ∨ O = true ∨ H = true) → Bl.freI ids x = false := fun q => Bl.fre_no (by rw [← hO, ← hM, ← hH]; exact q)
  have hyes : M = true → O = false → H = false → Bl.freI ids x = true := fun q1 q2 q3 => Bl.fre_yes (by rw [← hM]; exact q1) (by rw [← hO]; exact q2) (by rw [← hH]; exact q3)
  have Hno := Bl.hid hno
  have Hyes := Bl.hid hyes
  rw [← hO] at HO
  rw [← hM] at HM
  rw [← hH] at HH
  have Hun : Hid (Bl.freI ids x = false → ∀ w1, Bl.Ext w w1 → SnR sb ids x w w1) := Bl.hid (fun q w1 hE => ⟨⟨any, g, c, HB.out.ext hE, by rw [if_neg (by rw [q]; decide)]; exact Hs.out⟩, Bl.Kq.of_ext hE⟩)
  clear hB h hO hM hH hno hyes
  cases M
  · have hv := Hno.out (.inl rfl)
    have Hu := Bl.hid (Hun.out hv)
    have Hv := Bl.hid hv
    clear hv HO HH Hno Hyes Hun
    go_enter Tryd.func32, Tryd.ntmps32
    go_wp2_with fail
    refine HM.out.mono ?_
    rintro e w1 ⟨rfl, hw⟩
    subst hw
    go_wp2_with fail
    go_ret
    exact ⟨by rw [Hv.out]; rfl, Hu.out _ (Below.refl _ _)⟩
  cases O
  rotate_left
  · have hv := Hno.out (.inr (.inl rfl))
    have Hu := Bl.hid (Hun.out hv)
    have Hv := Bl.hid hv
    clear hv HH Hno Hyes Hun
    go_enter Tryd.func32, Tryd.ntmps32
    go_wp2_with fail
    refine HM.out.mono ?_
    rintro e w1 ⟨rfl, hw⟩
    subst hw
    go_wp2_with fail
    refine HO.out.mono ?_
    rintro e w1 ⟨rfl, hw⟩
    subst hw
    go_wp2_with fail
    go_ret
    exact ⟨by rw [Hv.out]; rfl, Hu.out _ (Below.refl _ _)⟩
  cases H
  rotate_left
  · have hv := Hno.out (.inr (.inr rfl))
    have Hu := Bl.hid (Hun.out hv)
    have Hv := Bl.hid hv
    clear hv Hno Hyes Hun
    go_enter Tryd.func32, Tryd.ntmps32
    go_wp2_with fail
    refine HM.out.mono ?_
    rintro e w1 ⟨rfl, hw⟩
    subst hw
    go_wp2_with fail
    refine HO.out.mono ?_
    rintro e w1 ⟨rfl, hw⟩
    subst hw
    go_wp2_with fail
    refine HH.out.mono ?_
    rintro e w1 ⟨rfl, hE⟩
    have HE := Bl.hid hE
    clear hE
    go_wp2_with fail
    go_ret
    exact ⟨by rw [Hv.out]; rfl, Hu.out _ HE.out⟩
  have Hv := Bl.hid (Hyes.out rfl rfl rfl)
  have Hx := Bl.wi_iff.1 Heq.out.2.1.symm
  have HO0 := Bl.hid Heq.out.1.symm
  obtain ⟨hr0, hr1⟩ := Hs.out.rng
  have hlt := Hs.out.lt
  obtain ⟨hx0, hx1⟩ := Hx
  clear Hno Hyes Hun
  by_cases hup : any = false ∨ g < x
  · have hgx : 0 ≤ x - g := by
      rcases hup with q | q
      · have := Hs.out.emp q
        have := Hs.out.gr
        rw [Hs.out.emp q] at this
        have : g = 0 := this
        omega
      · omega
    obtain ⟨d, hd⟩ : ∃ d : Nat, d = min (x - g).toNat 64 := ⟨_, rfl⟩
    have hS2 := Hs.out.up ⟨hx0, hx1⟩ hup hd
    obtain ⟨c1, hc1⟩ : ∃ c1 : Nat, c1 = (c * 2 ^ d) % 2 ^ 64 := ⟨_, rfl⟩
    obtain ⟨c2, hc2⟩ : ∃ c2 : Nat, c2 = c1 ||| 1 := ⟨_, rfl⟩
    rw [← hc1, ← hc2] at hS2
    have HS2 := Bl.hid hS2
    have hd2 : (min (x - g) 64).toNat = d := by rw [hd]; omega
    have hc1l : c1 < 2 ^ 64 := by rw [hc1]; exact Nat.mod_lt _ (by decide)
    have hor : bits .or .u64 (IntKind.u64.wrap ((c : Int) * 2 ^ (min (x - g) 64).toNat)) 1 = (c2 : Int) := by
      rw [hd2, Bl.shl_wrap, ← hc1, hc2]
      exact Bl.or_nat c1 1 hc1l (by decide)
    have hws : IntKind.i64.wrap (x - g) = x - g := by rw [IntKind.wrap_i64]; omega
    have hlb := HB.out.lt
    have Hcc : Hid (∀ w1, Bl.Ext w w1 → w1.cell? ⟨sb, 0, none⟩ = some (.bool any) ∧ w1.cell? ⟨sb, 1, none⟩ = some (.int .i64 g) ∧ w1.cell? ⟨sb, 2, none⟩ = some (.int .u64 (c : Nat))) := Bl.hid fun w1 hE => ⟨(HB.out.ext hE).cell rfl, (HB.out.ext hE).cell rfl, (HB.out.ext hE).cell rfl⟩
    have hup2 : (any = true → decide (g < x) = true) := fun q => by
      rcases hup with q2 | q2
      · rw [q] at q2; cases q2
      · exact decide_eq_true q2
    clear hS2 hd hd2 hc1 hc2 hc1l hup
    go_enter Tryd.func32, Tryd.ntmps32
    go_wp2_with fail
    refine HM.out.mono ?_
    rintro e w1 ⟨rfl, hw⟩
    subst hw
    go_wp2_with fail
    refine HO.out.mono ?_
    rintro e w1 ⟨rfl, hw⟩
    subst hw
    go_wp2_with fail
    refine HH.out.mono ?_
    rintro e w1 ⟨rfl, hE⟩
    obtain ⟨q0, q1, q2⟩ := Hcc.out w1 hE
    have HE := Bl.hid hE
    have Hkey : Hid (∀ w4, Bl.BoxC w4 sb [.bool any, .int .i64 g, .int .u64 (c : Nat)] → Bl.Ext w1 w4 → SnR sb ids x w (((w4.setCell ⟨sb, 2, none⟩ (.int .u64 (c2 : Nat))).setCell ⟨sb, 0, none⟩ (.bool true)).setCell ⟨sb, 1, none⟩ (.int .i64 x))) := Bl.hid fun w4 hb4 h4 => by
      refine ⟨⟨true, x, c2, ?_, ?_⟩, ?_⟩
      · exact ((hb4.put (i := 2) (show 2 < 3 by decide) (.int .u64 (c2 : Nat))).put (i := 0) (show 0 < 3 by decide) (.bool true)).put (i := 1) (show 1 < 3 by decide) (.int .i64 x)
      · rw [if_pos Hv.out]; exact HS2.out
      · exact (((Bl.Kq.of_ext (HE.out.trans h4)).setCell (Q := fun k => k = sb) ⟨sb, 2, none⟩ rfl _).setCell ⟨sb, 0, none⟩ rfl _).setCell ⟨sb, 1, none⟩ rfl _
    have hlb1 := (HB.out.ext hE).lt
    have HB1 := Bl.hid (HB.out.ext hE)
    clear hE hlb HM HO HH
    cases any
    · go_wp2_with fail
      apply Bl.wp_region_ev 16 [33, 34, 35, 36, 37, 38, 39, 40, 41, 42, 43, 44, 45, 46, 47, 48] [Bl.eqv _, Bl.eqv _, Bl.eqv _, Bl.eqv _, Bl.eqv _, Bl.eqv _, Bl.eqv _, Bl.eqv _, Bl.eqv _, Bl.eqv _, Bl.eqv _, Bl.eqv _, Bl.eqv _, Bl.eqv _, Bl.eqv _, Bl.eqv _] (by kernel_rfl) (by kernel_rfl) (by kernel_rfl) (by kernel_rfl)
      case hsteps =>
        refine ⟨?_, ?_, ?_, ?_, ?_, ?_, ?_, ?_, ?_, ?_, ?_, ?_, ?_, ?_, ?_, ?_, trivial⟩
        all_goals
          intro ev w1 hext hb hd
          have e0 := hb 0 (by decide)
          have e1 := hb 1 (by decide)
          clear hb
          simp only [Array.getD_eq_getD_getElem?, List.getElem?_toArray, List.getElem?_cons_succ, List.getElem?_cons_zero, Option.getD_some] at e0 e1
          simp only [Bl.DepsE, List.getElem?_cons_succ, List.getElem?_cons_zero, Option.bind_some, List.getD_cons_succ, List.getD_cons_zero, Bl.eqv, and_true] at hd
          have hc := (Bl.bcell hext).1
          have r1 := (hc _ 1 hlb1).trans q1
          have r2 := (hc _ 2 hlb1).trans q2
          simp only [Bl.Good, Region.wanted, if_true]
          go_simp
          first | exact ⟨Below.refl _ _, rfl⟩ | exact ⟨Below.refl _ _, rfl⟩
      case hmono => exact ⟨Bl.mono_eqv _, Bl.mono_eqv _, Bl.mono_eqv _, Bl.mono_eqv _, Bl.mono_eqv _, Bl.mono_eqv _, Bl.mono_eqv _, Bl.mono_eqv _, Bl.mono_eqv _, Bl.mono_eqv _, Bl.mono_eqv _, Bl.mono_eqv _, Bl.mono_eqv _, Bl.mono_eqv _, Bl.mono_eqv _, Bl.mono_eqv _, trivial⟩
      case hend =>
        intro u w1 hext hend
        simp only [Bl.EndE, List.getElem?_cons_succ, List.getElem?_cons_zero, Option.bind_some, List.getD_cons_succ, List.getD_cons_zero, Bl.eqv, true_and] at hend
        simp only [Bl.fillAct, List.setIfInBounds_toArray, List.set_cons_succ, List.set_cons_zero, List.drop_succ_cons, List.drop_zero, hend]
        have HB4 := Bl.hid (HB1.out.ext hext)
        have HK4 := Bl.hid (Hkey.out w1 HB4.out hext)
        have p0 := HB4.out.cell (i := 0) rfl
        have p1 := HB4.out.cell (i := 1) rfl
        have p2 := HB4.out.cell (i := 2) rfl
        have f0 := HB4.out.fz (i := 0) (show 0 < 3 by decide)
        have f1 := HB4.out.fz (i := 1) (show 1 < 3 by decide)
        have f2 := HB4.out.fz (i := 2) (show 2 < 3 by decide)
        clear hext hend q0 q1 hor
        go_wp2_with fail
        go_ret
        exact ⟨by rw [Hv.out]; rfl, HK4.out⟩
    · have hgx2 := hup2 rfl
      go_wp2_with fail
      apply Bl.wp_region_ev 16 [33, 34, 35, 36, 37, 38, 39, 40, 41, 42, 43, 44, 45, 46, 47, 48] [Bl.eqv _, Bl.eqv _, Bl.eqv _, Bl.eqv _, Bl.eqv _, Bl.eqv _, Bl.eqv _, Bl.eqv _, Bl.eqv _, Bl.eqv _, Bl.eqv _, Bl.eqv _, Bl.eqv _, Bl.eqv _, Bl.eqv _, Bl.eqv _] (by kernel_rfl) (by kernel_rfl) (by kernel_rfl) (by kernel_rfl)
      case hsteps =>
        refine ⟨?_, ?_, ?_, ?_, ?_, ?_, ?_, ?_, ?_, ?_, ?_, ?_, ?_, ?_, ?_, ?_, trivial⟩
        all_goals
          intro ev w1 hext hb hd
          have e0 := hb 0 (by decide)
          have e1 := hb 1 (by decide)
          clear hb
          simp only [Array.getD_eq_getD_getElem?, List.getElem?_toArray, List.getElem?_cons_succ, List.getElem?_cons_zero, Option.getD_some] at e0 e1
          simp only [Bl.DepsE, List.getElem?_cons_succ, List.getElem?_cons_zero, Option.bind_some, List.getD_cons_succ, List.getD_cons_zero, Bl.eqv, and_true] at hd
          have hc := (Bl.bcell hext).1
          have r1 := (hc _ 1 hlb1).trans q1
          have r2 := (hc _ 2 hlb1).trans q2
          simp only [Bl.Good, Region.wanted, if_true]
          go_simp
          first | exact ⟨Below.refl _ _, rfl⟩ | exact ⟨Below.refl _ _, rfl⟩
      case hmono => exact ⟨Bl.mono_eqv _, Bl.mono_eqv _, Bl.mono_eqv _, Bl.mono_eqv _, Bl.mono_eqv _, Bl.mono_eqv _, Bl.mono_eqv _, Bl.mono_eqv _, Bl.mono_eqv _, Bl.mono_eqv _, Bl.mono_eqv _, Bl.mono_eqv _, Bl.mono_eqv _, Bl.mono_eqv _, Bl.mono_eqv _, Bl.mono_eqv _, trivial⟩
      case hend =>
        intro u w1 hext hend
        simp only [Bl.EndE, List.getElem?_cons_succ, List.getElem?_cons_zero, Option.bind_some, List.getD_cons_succ, List.getD_cons_zero, Bl.eqv, true_and] at hend
        simp only [Bl.fillAct, List.setIfInBounds_toArray, List.set_cons_succ, List.set_cons_zero, List.drop_succ_cons, List.drop_zero, hend]
        have HB4 := Bl.hid (HB1.out.ext hext)
        have HK4 := Bl.hid (Hkey.out w1 HB4.out hext)
        have p0 := HB4.out.cell (i := 0) rfl
        have p1 := HB4.out.cell (i := 1) rfl
        have p2 := HB4.out.cell (i := 2) rfl
        have f0 := HB4.out.fz (i := 0) (show 0 < 3 by decide)
        have f1 := HB4.out.fz (i := 1) (show 1 < 3 by decide)
        have f2 := HB4.out.fz (i := 2) (show 2 < 3 by decide)
        clear hext hend q0 q1 hor
        go_wp2_with fail
        go_ret
        exact ⟨by rw [Hv.out]; rfl, HK4.out⟩
  · have hany : any = true := by
      cases any
      · exact absurd (.inl rfl) hup
      · rfl
    have hgx : x ≤ g := by
      rcases Int.lt_or_le g x with q | q
      · exact absurd (.inr q) hup
      · exact q
    subst hany
    have ho := Hs.out.old x
    rw [HO0.out] at ho
    have ho2 : ¬ x ≤ g - 64 := by simpa using ho.symm
    have hS2 := Hs.out.add ⟨hx0, hx1⟩ rfl HO0.out hgx
    obtain ⟨k, hk⟩ := Int.eq_ofNat_of_zero_le (show 0 ≤ g - x by omega)
    rw [hk, Int.toNat_natCast] at hS2
    obtain ⟨p, hp⟩ : ∃ p : Nat, p = 2 ^ k := ⟨_, rfl⟩
    obtain ⟨c2, hc2⟩ : ∃ c2 : Nat, c2 = c ||| p := ⟨_, rfl⟩
    rw [← hp, ← hc2] at hS2
    have HS2 := Bl.hid hS2
    have hk64 : k < 64 := by omega
    have hpl : p < 2 ^ 64 := by rw [hp]; exact Nat.pow_lt_pow_right (by decide) hk64
    have hwp : IntKind.u64.wrap (2 ^ k) = (p : Int) := by
      have h := Bl.shl_wrap 1 k
      have e : ((1 : Nat) : Int) * 2 ^ k = 2 ^ k := by simp
      rw [e, Nat.one_mul, ← hp, Nat.mod_eq_of_lt hpl] at h
      exact h
    have hor : bits .or .u64 (c : Int) (p : Int) = (c2 : Int) := by rw [hc2]; exact Bl.or_nat c p hlt hpl
    have hwk : IntKind.i64.wrap (k : Int) = (k : Int) := by rw [IntKind.wrap_i64]; omega
    obtain rfl : x = g - (k : Int) := by omega
    have hk0 : g - (g - (k : Int)) = (k : Int) := by omega
    have hgb : decide (g < g - (k : Int)) = false := decide_eq_false (by omega)
    have hlb := HB.out.lt
    have Hcc : Hid (∀ w1, Bl.Ext w w1 → w1.cell? ⟨sb, 0, none⟩ = some (.bool true) ∧ w1.cell? ⟨sb, 1, none⟩ = some (.int .i64 g) ∧ w1.cell? ⟨sb, 2, none⟩ = some (.int .u64 (c : Nat))) := Bl.hid fun w1 hE => ⟨(HB.out.ext hE).cell rfl, (HB.out.ext hE).cell rfl, (HB.out.ext hE).cell rfl⟩
    clear hS2 hc2 hp hpl ho hk
    go_enter Tryd.func32, Tryd.ntmps32
    go_wp2_with fail
    refine HM.out.mono ?_
    rintro e w1 ⟨rfl, hw⟩
    subst hw
    go_wp2_with fail
    refine HO.out.mono ?_
    rintro e w1 ⟨rfl, hw⟩
    subst hw
    go_wp2_with fail
    refine HH.out.mono ?_
    rintro e w1 ⟨rfl, hE⟩
    obtain ⟨q0, q1, q2⟩ := Hcc.out w1 hE
    have HE := Bl.hid hE
    have Hkey : Hid (∀ w4, Bl.BoxC w4 sb [.bool true, .int .i64 g, .int .u64 (c : Nat)] → Bl.Ext w1 w4 → SnR sb ids (g - (k : Int)) w (w4.setCell ⟨sb, 2, none⟩ (.int .u64 (c2 : Nat)))) := Bl.hid fun w4 hb4 h4 => by
      refine ⟨⟨true, g, c2, hb4.put (i := 2) (show 2 < 3 by decide) (.int .u64 (c2 : Nat)), ?_⟩, ?_⟩
      · rw [if_pos Hv.out]; exact HS2.out
      · exact (Bl.Kq.of_ext (HE.out.trans h4)).setCell (Q := fun k => k = sb) ⟨sb, 2, none⟩ rfl _
    have hlb1 := (HB.out.ext hE).lt
    have HB1 := Bl.hid (HB.out.ext hE)
    clear hE hlb HM HO HH
    go_wp2_with fail
    apply Bl.wp_region_ev 14 [56, 57, 58, 59, 60, 61, 62, 63, 64, 65, 66, 67, 68, 69] [Bl.eqv _, Bl.eqv _, Bl.eqv _, Bl.eqv _, Bl.eqv _, Bl.eqv _, Bl.eqv _, Bl.eqv _, Bl.eqv _, Bl.eqv _, Bl.eqv _, Bl.eqv _, Bl.eqv _, Bl.eqv _] (by kernel_rfl) (by kernel_rfl) (by kernel_rfl) (by kernel_rfl)
    case hsteps =>
      refine ⟨?_, ?_, ?_, ?_, ?_, ?_, ?_, ?_, ?_, ?_, ?_, ?_, ?_, ?_, trivial⟩
      all_goals
        intro ev w1 hext hb hd
        have e0 := hb 0 (by decide)
        have e1 := hb 1 (by decide)
        clear hb
        simp only [Array.getD_eq_getD_getElem?, List.getElem?_toArray, List.getElem?_cons_succ, List.getElem?_cons_zero, Option.getD_some] at e0 e1
        simp only [Bl.DepsE, List.getElem?_cons_succ, List.getElem?_cons_zero, Option.bind_some, List.getD_cons_succ, List.getD_cons_zero, Bl.eqv, and_true] at hd
        have hc := (Bl.bcell hext).1
        have r1 := (hc _ 1 hlb1).trans q1
        have r2 := (hc _ 2 hlb1).trans q2
        simp only [Bl.Good, Region.wanted, if_true]
        go_simp
        first | exact ⟨Below.refl _ _, rfl⟩ | exact ⟨Below.refl _ _, rfl⟩
    case hmono => exact ⟨Bl.mono_eqv _, Bl.mono_eqv _, Bl.mono_eqv _, Bl.mono_eqv _, Bl.mono_eqv _, Bl.mono_eqv _, Bl.mono_eqv _, Bl.mono_eqv _, Bl.mono_eqv _, Bl.mono_eqv _, Bl.mono_eqv _, Bl.mono_eqv _, Bl.mono_eqv _, Bl.mono_eqv _, trivial⟩
    case hend =>
      intro u w1 hext hend
      simp only [Bl.EndE, List.getElem?_cons_succ, List.getElem?_cons_zero, Option.bind_some, List.getD_cons_succ, List.getD_cons_zero, Bl.eqv, true_and] at hend
      simp only [Bl.fillAct, List.setIfInBounds_toArray, List.set_cons_succ, List.set_cons_zero, List.drop_succ_cons, List.drop_zero, hend]
      have HB4 := Bl.hid (HB1.out.ext hext)
      have HK4 := Bl.hid (Hkey.out w1 HB4.out hext)
      have p2 := HB4.out.cell (i := 2) rfl
      have f2 := HB4.out.fz (i := 2) (show 2 < 3 by decide)
      clear hext hend q0 q1 hor
      go_wp2_with fail
      go_ret
      exact ⟨by rw [Hv.out]; rfl, HK4.out⟩

end Go.Proofs.YtglenbikdahgjaaDoor

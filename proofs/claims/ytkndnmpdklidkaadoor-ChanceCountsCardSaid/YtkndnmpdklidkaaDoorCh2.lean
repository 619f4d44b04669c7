/- Walks of package chance: laid, part, Add, Compare. -/
import Derived.Test.YtkndnmpdklidkaaDoorCh1
import Derived.Test.YtkndnmpdklidkaaDoorStr
import Derived.Test.YtkndnmpdklidkaaDoorChanceQ
import Derived.Laws.BitsLemmas
namespace Go.Proofs.Bl
open Go
theorem i64_in63 (n : Int) (h0 : 0 ≤ n) (h1 : n < 2 ^ 63) : IntKind.i64.wrap n = n := by rw [IntKind.wrap_i64]; omega
theorem or_byte (r c : Int) (h0 : 0 ≤ r) (h1 : r < 1099511627776) (h2 : 0 ≤ c) (h3 : c ≤ 255) : bits .or .i64 (r * 256) c = r * 256 + c :=
  bits_join .i64 63 (by decide) i64_in63 8 (r * 256) c (by omega) (by omega) (by omega) h2 (by omega) (by omega)
end Go.Proofs.Bl
namespace Go.Proofs.YtkndnmpdklidkaaDoor
open Go.RowKit Go.Proofs

set_option maxRecDepth 100000 in
set_option maxHeartbeats 400000 in
theorem revB_nil (p : Option Addr) (c : Nat) (w : World) :
    Calls Tryd.prog 55 #[.slice p 0 c] w fun e w' => e = .returned (.tuple #[]) ∧ w = w' := by
  go_enter Tryd.func55, Tryd.ntmps55
  go_wp2_with fail
  go_loop [2, 3] (fun i j => i = .int .i64 0 ∧ j = .int .i64 (-1)) (fun _ _ => 0)
  case atStart => exact ⟨rfl, rfl⟩
  case round =>
    obtain ⟨rfl, rfl⟩ := hrel
    go_wp2_with fail
    go_end0
    exact ⟨rfl, rfl⟩

set_option maxRecDepth 100000 in
set_option maxHeartbeats 400000 in
theorem laid_fam (base g n c : Nat) (l : List Int) (w : World) (hn : l.length = n) (h : Bl.Fam w g .u8 n (fun i => l.getD i 0)) (hg : base ≤ g) (hgw : g < w.heap.size) (hc1 : n ≤ c) (hc2 : c ≤ maxLen) (hl : l.length ≤ 1099511627776) :
    Calls Tryd.prog 45 #[.slice (some ⟨g, 0, none⟩) n c] w fun e w' => ∃ v', e = .returned v' ∧ w'.ownsRow w.heap.size 5 1 v' (Bl.trimz l.reverse).length (Bl.ints .u8 (Bl.trimz l.reverse)) ∧ Below base w w' := by
  subst hn
  have HF := Bl.hid h
  have hb : base ≤ w.heap.size := by omega
  clear h
  go_enter Tryd.func45, Tryd.ntmps45
  go_wp2_with fail
  refine (revB_any g c l _ HF.out hgw hl hc1 hc2).mono ?_
  rintro e w1 ⟨rfl, hF1, hB1⟩
  have hR : Bl.Rd w1 .u8 (.slice (some ⟨g, 0, none⟩) l.length c) l.reverse := by
    have := Bl.fam_rd (l := l.reverse) hF1 (by simp) hc1 hc2
    exact this
  have HR := Bl.hid hR
  have HB1 := Bl.hid hB1
  clear hR hF1 hB1
  go_wp2_with fail
  refine (trim_any _ l.reverse _ HR.out (by simpa using hl)).mono ?_
  rintro e w' ⟨v', rfl, h1, h2⟩
  have H1 := Bl.hid h1
  have H2 := Bl.hid h2
  clear h1 h2
  go_wp2_with fail
  go_ret
  exact ⟨_, rfl, Bl.owns_mono H1.out HB1.out.size, Below.trans (HB1.out.mono hg) (H2.out.mono (Nat.le_trans hb HB1.out.size))⟩

set_option maxRecDepth 100000 in
set_option maxHeartbeats 400000 in
/-- chance.laid: a number of digits, the low one first -/
theorem laid_any (base n : Nat) (v : Value) (l : List Int) (w : World) (hn : l.length = n) (h : w.ownsRow base 5 1 v n (Bl.ints .u8 l)) (hb : base ≤ w.heap.size) (hl : l.length ≤ 1099511627776) :
    Calls Tryd.prog 45 #[v] w fun e w' => ∃ v', e = .returned v' ∧ w'.ownsRow w.heap.size 5 1 v' (Bl.trimz l.reverse).length (Bl.ints .u8 (Bl.trimz l.reverse)) ∧ Below base w w' := by
  subst hn
  have H := Bl.hid h
  obtain ⟨p, c, hvf, hvn, hvc⟩ := (Bl.Rds.of_owns h).form
  subst hvf
  clear h
  by_cases hz : l.length = 0
  · obtain rfl : l = [] := List.length_eq_zero_iff.1 hz
    simp only [List.length_nil] at *
    have hR : Bl.Rd w .u8 (.slice p 0 c) [] := Bl.Rds.of_owns H.out
    have HR := Bl.hid hR
    clear hR
    go_enter Tryd.func45, Tryd.ntmps45
    go_wp2_with fail
    refine (revB_nil p c w).mono ?_
    rintro e w' ⟨rfl, rfl⟩
    go_wp2_with fail
    refine (trim_any _ [] _ HR.out (by simp)).mono ?_
    rintro e w' ⟨v', rfl, h1, h2⟩
    have H1 := Bl.hid h1
    have H2 := Bl.hid h2
    clear h1 h2
    go_wp2_with fail
    go_ret
    exact ⟨_, rfl, H1.out, H2.out.mono hb⟩
  · obtain ⟨g, c', hq, hg, hgw, hc1, hc2⟩ := Bl.owns_form H.out (by omega)
    cases hq
    exact laid_fam base g _ c l w rfl (Bl.fam_of_owns H.out) hg hgw hc1 hc2 hl

set_option maxRecDepth 100000 in
set_option maxHeartbeats 1000000 in
/-- chance.Add -/
theorem add_any (va vb : Value) (a b : List Int) (w : World) (ha : Bl.Rd w .u8 va a) (hb : Bl.Rd w .u8 vb b) (hla : a.length ≤ 1000000) (hlb : b.length ≤ 1000000) (hya : Bl.Byt a) (hyb : Bl.Byt b) :
    Calls Tryd.prog 24 #[va, vb] w fun e w' => ∃ v', e = .returned v' ∧ w'.ownsRow w.heap.size 5 1 v' (Bl.tob (Bl.be a + Bl.be b)).length (Bl.ints .u8 (Bl.tob (Bl.be a + Bl.be b))) ∧ Bl.Ext w w' := by
  obtain ⟨pa, ca, hvf, hna, hca⟩ := ha.form
  subst hvf
  obtain ⟨pb, cb, hvf, hnb, hcb⟩ := hb.form
  subst hvf
  have Ha := Bl.hid ha
  have Hb := Bl.hid hb
  have Hres := Bl.hid (Bl.add_eq a b hya hyb)
  clear ha hb
  obtain ⟨A, hA⟩ : ∃ A, A = a.reverse := ⟨_, rfl⟩
  obtain ⟨B, hB⟩ : ∃ B, B = b.reverse := ⟨_, rfl⟩
  have hyA : Bl.Byt A := by rw [hA]; exact Bl.byt_rev hya
  have hyB : Bl.Byt B := by rw [hB]; exact Bl.byt_rev hyb
  rw [← hA, ← hB] at Hres
  have HA := Bl.hid hA
  have HB := Bl.hid hB
  clear hA hB
  obtain ⟨N, hN⟩ : ∃ N, N = max a.length b.length + 1 := ⟨_, rfl⟩
  rw [← hN] at Hres
  have hN1 : N ≤ 1000001 := by omega
  have hcase : (b.length ≤ a.length ∧ N = a.length + 1) ∨ (a.length < b.length ∧ N = b.length + 1) := by omega
  clear hN
  rcases hcase with ⟨hab, hN⟩ | ⟨hab, hN⟩
  all_goals
    go_enter Tryd.func24, Tryd.ntmps24
    go_wp2_with fail
    go_loopw [5, 6, 14] (fun o c i wr => ∃ (k : Nat) (p : Option Addr) (d : Nat), k ≤ N ∧ i = .int .i64 k ∧ c = .int .i64 (Bl.addc A B k).2 ∧ o = .slice p k d ∧ wr.ownsRow w.heap.size 5 1 (.slice p k d) k (Bl.ints .u8 (Bl.addc A B k).1) ∧ Bl.Ext w wr) (fun _ _ i _ => N - (intOf i).toNat)
    case atStart => exact ⟨0, none, 0, Nat.zero_le _, rfl, rfl, rfl, World.ownsRow_nil _ _ _ _, Below.refl _ _⟩
    case round =>
      obtain ⟨k, p, d, hk, rfl, rfl, rfl, hown, hE⟩ := hrel
      obtain ⟨s1, s2, s3, s4, s5⟩ := Bl.addc_spec A B hyA hyB k
      have Hown := Bl.hid hown
      have HE := Bl.hid hE
      have S1 := Bl.hid s1
      have S4 := Bl.hid s4
      clear hown hE s1 s4 s5
      by_cases hlt : k < N
      · have hkn : k ≤ 1099511627776 := by omega
        have hka := hyA.get k
        have hkb := hyB.get k
        have hsucc := Bl.hid (show Bl.addc A B (k + 1) = ((Bl.addc A B k).1 ++ [((Bl.addc A B k).2 + (A.getD k 0 + B.getD k 0)) % 256], ((Bl.addc A B k).2 + (A.getD k 0 + B.getD k 0)) / 256) from rfl)
        have hlowa := fun w1 (h : Bl.Ext w w1) => low_any (.slice pa a.length ca) a k w1 (Ha.out.ext h) (by omega) hkn hya
        have hlowb := fun w1 (h : Bl.Ext w w1) => low_any (.slice pb b.length cb) b k w1 (Hb.out.ext h) (by omega) hkn hyb
        rw [← HA.out] at hlowa
        rw [← HB.out] at hlowb
        have Hlowa := Bl.hid hlowa
        have Hlowb := Bl.hid hlowb
        clear hlowa hlowb
        obtain ⟨cc, hcc⟩ : ∃ cc, cc = (Bl.addc A B k).2 := ⟨_, rfl⟩
        obtain ⟨out, hout⟩ : ∃ out, out = (Bl.addc A B k).1 := ⟨_, rfl⟩
        obtain ⟨x, hx⟩ : ∃ x, x = A.getD k 0 := ⟨_, rfl⟩
        obtain ⟨y, hy⟩ : ∃ y, y = B.getD k 0 := ⟨_, rfl⟩
        rw [← hcc, ← hout, ← hx, ← hy] at hsucc
        rw [← hx] at hka Hlowa
        rw [← hy] at hkb Hlowb
        rw [← hcc] at s2 s3 ⊢
        rw [← hout] at Hown S1
        clear hcc hout hx hy
        obtain ⟨x0, x1⟩ := hka
        obtain ⟨y0, y1⟩ := hkb
        have hki : (k : Int) < (N : Int) := by omega
        go_wp2_with fail
        refine (Hlowa.out _ HE.out).mono ?_
        rintro e w' ⟨rfl, rfl⟩
        go_wp2_with fail
        refine (Hlowb.out _ HE.out).mono ?_
        rintro e w' ⟨rfl, rfl⟩
        go_wp2_with (with_reducible refine Bl.stop_append ?_)
        refine Bl.go_on ?_
        have Hown2 := Bl.hid (Bl.owns_ext Hown.out (Bl.ext_alloc wr (.cells #[.int .u8 ((cc + (x + y)) % 256)] 5)))
        have Hnew := Bl.hid (Bl.rds_one wr 5 .u8 ((cc + (x + y)) % 256))
        refine Bl.wpL_app tB Hown2.out Hnew.out rfl rfl (by simp) (Bl.ints_one _ _) (by unfold maxLen; omega) (by omega) (by have := HE.out.size; simp only [World.size_alloc]; omega) ?_
        intro p4 c4 w4 hown4 hg4 hB4 hK4 hn4 hc4
        go_wp2_with fail
        go_roundw
        case rel =>
          refine ⟨k + 1, p4, c4, by omega, by simp, by rw [hsucc.out], rfl, by rw [hsucc.out, Bl.ints_append]; exact hown4, Below.trans HE.out (Below.trans (Bl.below_alloc wr _ HE.out.size) hB4)⟩
        case measure => simp [intOf]; omega
      · obtain rfl : k = N := by omega
        obtain ⟨out, hout⟩ : ∃ out, out = (Bl.addc A B k).1 := ⟨_, rfl⟩
        rw [← hout] at Hown S1 Hres
        clear hout
        subst hN
        go_wp2_with fail
        have hsz := HE.out.size
        refine (laid_any w.heap.size _ _ out _ S1.out Hown.out hsz (by rw [S1.out]; omega)).mono ?_
        rintro e w' ⟨v', rfl, h1, h2⟩
        rw [Hres.out] at h1
        have H1 := Bl.hid h1
        have H2 := Bl.hid h2
        clear h1 h2
        go_wp2_with fail
        go_ret
        exact ⟨_, rfl, Bl.owns_mono H1.out hsz, Below.trans HE.out H2.out⟩
end Go.Proofs.YtkndnmpdklidkaaDoor

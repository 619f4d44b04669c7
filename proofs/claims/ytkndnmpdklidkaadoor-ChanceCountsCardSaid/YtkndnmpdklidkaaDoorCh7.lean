/- Walks of package chance: Choose out of its range, Sub, Double. -/
import Derived.Test.YtkndnmpdklidkaaDoorCh6
import Derived.BigQuiet
namespace Go.Proofs.Bl
open Go
theorem be_rep : ∀ m, be (List.replicate m 0) = 0
  | 0 => rfl
  | m + 1 => by rw [List.replicate_succ, be_cons, be_rep m]; simp
theorem be_pow (t : Nat) (x : Int) (h : x = ((2 ^ (t % 8) : Nat) : Int)) : be (x :: List.replicate (t / 8) 0) = 2 ^ t := by
  rw [h, be_cons, be_rep, List.length_replicate, Int.toNat_natCast, Nat.add_zero, show (256 : Nat) = 2 ^ 8 from rfl, ← Nat.pow_mul, ← Nat.pow_add]
  congr 1; omega
theorem byt_pow (t : Nat) (x : Int) (h : x = ((2 ^ (t % 8) : Nat) : Int)) : Byt (x :: List.replicate (t / 8) 0) := fun y hy => by
  have h2 : 2 ^ (t % 8) ≤ 2 ^ 7 := Nat.pow_le_pow_right (by decide) (by omega)
  generalize 2 ^ (t % 8) = z at *
  rcases List.mem_cons.1 hy with rfl | hy
  · omega
  · rw [List.eq_of_mem_replicate hy]; decide
theorem pow_get (t : Nat) (x : Int) (i : Nat) (hi : i < 1 + t / 8) : (if i = 0 then x else (List.replicate (1 + t / 8) (0 : Int)).getD i 0) = (x :: List.replicate (t / 8) 0).getD i 0 := by
  cases i with
  | zero => rfl
  | succ j =>
    rw [if_neg (by omega), List.getD_cons_succ, List.getD_eq_getElem?_getD, List.getD_eq_getElem?_getD, List.getElem?_replicate, List.getElem?_replicate, if_pos hi, if_pos (by omega)]
theorem pow_cases (t : Nat) : ∃ x : Int, x = ((2 ^ (t % 8) : Nat) : Int) ∧ ((t : Int) % 8 = 0 ∧ x = 1 ∨ (t : Int) % 8 = 1 ∧ x = 2 ∨ (t : Int) % 8 = 2 ∧ x = 4 ∨ (t : Int) % 8 = 3 ∧ x = 8 ∨ (t : Int) % 8 = 4 ∧ x = 16 ∨ (t : Int) % 8 = 5 ∧ x = 32 ∨ (t : Int) % 8 = 6 ∧ x = 64 ∨ (t : Int) % 8 = 7 ∧ x = 128) := by
  refine ⟨_, rfl, ?_⟩
  have h : t % 8 = 0 ∨ t % 8 = 1 ∨ t % 8 = 2 ∨ t % 8 = 3 ∨ t % 8 = 4 ∨ t % 8 = 5 ∨ t % 8 = 6 ∨ t % 8 = 7 := by omega
  rcases h with h | h | h | h | h | h | h | h
  all_goals
    rw [h]
    have h2 : (t : Int) % 8 = ((t % 8 : Nat) : Int) := by omega
    rw [h2, h]
    decide
theorem pow_rd {w : World} {B N t : Nat} {x : Int} (hx : x = ((2 ^ (t % 8) : Nat) : Int)) (hF : Fam w B .u8 N fun i => (List.replicate N 0).getD i 0) (hN : N = 1 + t / 8) (hm : N ≤ 513) :
    Rd (w.setCell ⟨B, 0, none⟩ (.int .u8 x)) .u8 (.slice (some ⟨B, 0, none⟩) N N) (x :: List.replicate (t / 8) 0) := by
  subst hN
  have h := fam_rd (c := 1 + t / 8) (l := x :: List.replicate (t / 8) 0) ((hF.set 0 (by omega) x).congr (fun i hi => pow_get t x i hi)) (by rw [List.length_cons, List.length_replicate]; omega) (Nat.le_refl _) (by unfold maxLen; omega)
  exact h
theorem pow_ext {w w1 : World} {t : Nat} {x : Int} (_hx : x = ((2 ^ (t % 8) : Nat) : Int)) (h : Ext w w1) : Ext w (w1.setCell ⟨w.heap.size, 0, none⟩ (.int .u8 x)) :=
  h.setCell (p := ⟨w.heap.size, 0, none⟩) (Nat.le_refl _) _
end Go.Proofs.Bl
namespace Go.Proofs.YtkndnmpdklidkaaDoor
open Go.RowKit Go.Proofs

set_option maxRecDepth 100000 in
theorem choose_err (n k : Int) (a : Addr) (w : World) (hn : n < 0 ∨ 1024 < n) (hF : w.cell? ⟨0, 0, none⟩ = some (.iface 97 (.pointer (some a)))) :
    Calls Tryd.prog 12 #[.int .i64 n, .int .i64 k] w fun e w' => e = .returned (.tuple #[.slice none 0 0, .iface 97 (.pointer (some a))]) ∧ Bl.Ext w w' := by
  have hq : n < 0 ∨ (0 ≤ n ∧ 1024 < n) := by omega
  clear hn
  rcases hq with h1 | ⟨h1, h2⟩
  all_goals
    go_enter Tryd.func12, Tryd.ntmps12
    go_wp2_with fail
    go_quiet (fail)
    go_wp2_with fail
    go_ret2
    exact ⟨rfl, (Below.refl _ _).drewN _⟩

set_option maxRecDepth 100000 in
theorem double_err (v : Value) (t : Int) (a : Addr) (w : World) (ht : t < 0 ∨ 4096 < t) (hF : w.cell? ⟨0, 0, none⟩ = some (.iface 97 (.pointer (some a)))) :
    Calls Tryd.prog 19 #[v, .int .i64 t] w fun e w' => e = .returned (.tuple #[.slice none 0 0, .iface 97 (.pointer (some a))]) ∧ Bl.Ext w w' := by
  have hq : t < 0 ∨ (0 ≤ t ∧ 4096 < t) := by omega
  clear ht
  rcases hq with h1 | ⟨h1, h2⟩
  all_goals
    go_enter Tryd.func19, Tryd.ntmps19
    go_wp2_with fail
    go_quiet (fail)
    go_wp2_with fail
    go_ret2
    exact ⟨rfl, (Below.refl _ _).drewN _⟩

set_option maxRecDepth 100000 in
set_option maxHeartbeats 1000000 in
/-- chance.Double within its range -/
theorem double_any (v : Value) (l : List Int) (t : Nat) (w : World) (h : Bl.Rd w .u8 v l) (hl : l.length ≤ 90000) (hy : Bl.Byt l) (ht : t ≤ 4096) :
    Calls Tryd.prog 19 #[v, .int .i64 t] w fun e w' => ∃ v', e = .returned (.tuple #[v', .nilIface]) ∧ Bl.Rd w' .u8 v' (Bl.tob (Bl.be l * 2 ^ t)) ∧ Bl.Ext w w' := by
  obtain ⟨p, c, hvf, hvn, hvc⟩ := h.form
  subst hvf
  have H := Bl.hid h
  have Hy := Bl.hid hy
  have ht0 : (0 : Int) ≤ (t : Int) := by omega
  have d1 : decide ((t : Int) < 0) = false := decide_eq_false (Int.not_lt.mpr ht0)
  have d2 : decide ((4096 : Int) < (t : Int)) = false := decide_eq_false (by omega)
  obtain ⟨w1, hrun, hown1, hE1, hs1⟩ := Bl.make_ints (P := Tryd.prog) tB (1 + t / 8) (by omega) (by unfold maxLen; omega) w
  have hNi : ((1 + t / 8 : Nat) : Int) = 1 + (t : Int) / 8 := by omega
  obtain ⟨N, hN⟩ : ∃ N, N = 1 + t / 8 := ⟨_, rfl⟩
  have HF1 := Bl.hid (Bl.fam_of_owns hown1)
  rw [hNi] at hrun
  have HN := Bl.hid hN
  rw [← hN] at hrun HF1
  have HE1 := Bl.hid hE1
  have hN0 : 0 < N := by omega
  have hN2 : N ≤ 513 := by omega
  have hcell : w1.cell? ⟨w.heap.size, 0, none⟩ = some (.int .u8 0) := by
    have := HF1.out.1 0 hN0
    rw [this]
    show some (Value.int .u8 ((List.replicate N (0 : Int)).getD 0 0)) = _
    rw [List.getD_eq_getElem?_getD, List.getElem?_replicate, if_pos hN0]; rfl
  have hfz := HF1.out.2 0
  obtain ⟨x, hx, hcase⟩ := Bl.pow_cases t
  have Hx := Bl.hid hx
  clear h hy hown1 hE1 hNi hN hx
  rcases hcase with ⟨hr, rfl⟩ | ⟨hr, rfl⟩ | ⟨hr, rfl⟩ | ⟨hr, rfl⟩ | ⟨hr, rfl⟩ | ⟨hr, rfl⟩ | ⟨hr, rfl⟩ | ⟨hr, rfl⟩
  all_goals
    go_enter Tryd.func19, Tryd.ntmps19
    go_wp2_with fail
    have hR := Bl.pow_rd Hx.out HF1.out HN.out hN2
    have HR := Bl.hid hR
    have HE2 := Bl.hid (Bl.pow_ext Hx.out HE1.out)
    clear hR hN2 hN0 hrun hcell hfz
    refine (mul_any _ _ _ _ _ (H.out.ext HE2.out) HR.out (by omega) (by rw [List.length_cons, List.length_replicate]; omega) Hy.out (Bl.byt_pow t _ Hx.out)).mono ?_
    rintro e w2 ⟨v2, rfl, h2, hE2⟩
    rw [Bl.be_pow t _ Hx.out] at h2
    have H2 := Bl.hid (Bl.Rds.of_owns h2)
    have HE3 := Bl.hid (HE2.out.trans hE2)
    clear h2 hE2
    go_wp2_with fail
    go_ret2
    exact ⟨_, rfl, H2.out, HE3.out⟩

set_option maxRecDepth 100000 in
theorem sub_lt (va vb : Value) (la lb : List Int) (a : Addr) (w : World) (ha : Bl.Rd w .u8 va la) (hb : Bl.Rd w .u8 vb lb) (hla : la.length ≤ 1000000) (hlb : lb.length ≤ 1000000) (hya : Bl.Byt la) (hyb : Bl.Byt lb) (hlt : Bl.be la < Bl.be lb) (hF : w.cell? ⟨0, 0, none⟩ = some (.iface 97 (.pointer (some a)))) :
    Calls Tryd.prog 27 #[va, vb] w fun e w' => e = .returned (.tuple #[.slice none 0 0, .iface 97 (.pointer (some a))]) ∧ Bl.Ext w w' := by
  have hcmp := compare_any va vb la lb w ha hb hla hlb hya hyb
  rw [show Bl.cmpn (Bl.be la) (Bl.be lb) = -1 from by unfold Bl.cmpn; rw [if_pos hlt]] at hcmp
  have Hcmp := Bl.hid hcmp
  have HF := Bl.hid hF
  clear hcmp ha hb hya hyb hlt hF hla hlb
  go_enter Tryd.func27, Tryd.ntmps27
  go_wp2_with fail
  refine Hcmp.out.mono ?_
  rintro e w1 ⟨rfl, hE1⟩
  have hF := ((Bl.bcell hE1).1 _ 0 (World.block_lt_of_cell? _ _ HF.out)).trans HF.out
  have HE1 := Bl.hid hE1
  clear hE1
  go_wp2_with fail
  go_quiet (fail)
  go_wp2_with fail
  go_ret2
  exact ⟨rfl, HE1.out.drewN _⟩

set_option maxRecDepth 100000 in
set_option maxHeartbeats 1000000 in
/-- chance.Sub, the first number not less -/
theorem sub_ge (va vb : Value) (a b : List Int) (w : World) (ha : Bl.Rd w .u8 va a) (hb : Bl.Rd w .u8 vb b) (hla : a.length ≤ 1000000) (hlb : b.length ≤ 1000000) (hya : Bl.Byt a) (hyb : Bl.Byt b) (hle : Bl.be b ≤ Bl.be a) :
    Calls Tryd.prog 27 #[va, vb] w fun e w' => ∃ v', e = .returned (.tuple #[v', .nilIface]) ∧ Bl.Rd w' .u8 v' (Bl.tob (Bl.be a - Bl.be b)) ∧ Bl.Ext w w' := by
  obtain ⟨pa, ca, hvf, hna, hca⟩ := ha.form
  subst hvf
  obtain ⟨pb, cb, hvf, hnb, hcb⟩ := hb.form
  subst hvf
  have Hres := Bl.hid (Bl.sub_eq a b hya hyb hle)
  obtain ⟨cv, hcv⟩ : ∃ cv, cv = Bl.cmpn (Bl.be a) (Bl.be b) := ⟨_, rfl⟩
  have hc0 : 0 ≤ cv := by
    rw [hcv]; unfold Bl.cmpn; rw [if_neg (by omega)]; split <;> omega
  have hcmp := compare_any (.slice pa a.length ca) (.slice pb b.length cb) a b w ha hb hla hlb hya hyb
  rw [← hcv] at hcmp
  have Hcmp := Bl.hid hcmp
  have Ha := Bl.hid ha
  have Hb := Bl.hid hb
  clear hcmp hcv hle
  obtain ⟨A, hA⟩ : ∃ A, A = a.reverse := ⟨_, rfl⟩
  obtain ⟨B, hB⟩ : ∃ B, B = b.reverse := ⟨_, rfl⟩
  have hyA : Bl.Byt A := by rw [hA]; exact Bl.byt_rev hya
  have hyB : Bl.Byt B := by rw [hB]; exact Bl.byt_rev hyb
  rw [← hA, ← hB] at Hres
  have HA := Bl.hid hA
  have HB := Bl.hid hB
  clear hA hB ha hb
  go_enter Tryd.func27, Tryd.ntmps27
  go_wp2_with fail
  refine Hcmp.out.mono ?_
  rintro e w1 ⟨rfl, hE1⟩
  have HE1 := Bl.hid hE1
  clear hE1 Hcmp
  go_wp2_with fail
  clear hc0
  go_loopw [6, 7, 17] (fun o c i wr => ∃ (k : Nat) (p : Option Addr) (d : Nat), k ≤ a.length ∧ i = .int .i64 k ∧ c = .int .i64 (Bl.subc A B k).2 ∧ o = .slice p k d ∧ wr.ownsRow w.heap.size 5 1 (.slice p k d) k (Bl.ints .u8 (Bl.subc A B k).1) ∧ Bl.Ext w wr) (fun _ _ i _ => a.length - (intOf i).toNat)
  case atStart => exact ⟨0, none, 0, Nat.zero_le _, rfl, rfl, rfl, World.ownsRow_nil _ _ _ _, HE1.out⟩
  case round =>
    obtain ⟨k, p, d, hk, rfl, rfl, rfl, hown, hE⟩ := hrel
    obtain ⟨s1, s2, s3, s4, s5⟩ := Bl.subc_spec A B hyA hyB k
    have Hown := Bl.hid hown
    have HE := Bl.hid hE
    have S1 := Bl.hid s1
    have S4 := Bl.hid s4
    clear hown hE s1 s4 s5
    by_cases hlt : k < a.length
    · have hkn : k ≤ 1099511627776 := by omega
      have hka := hyA.get k
      have hkb := hyB.get k
      have hsucc := Bl.hid (show Bl.subc A B (k + 1) = if A.getD k 0 - B.getD k 0 - (Bl.subc A B k).2 < 0 then ((Bl.subc A B k).1 ++ [A.getD k 0 - B.getD k 0 - (Bl.subc A B k).2 + 256], 1) else ((Bl.subc A B k).1 ++ [A.getD k 0 - B.getD k 0 - (Bl.subc A B k).2], 0) from rfl)
      have hlowa := fun w1 (h : Bl.Ext w w1) => low_any (.slice pa a.length ca) a k w1 (Ha.out.ext h) (by omega) hkn hya
      have hlowb := fun w1 (h : Bl.Ext w w1) => low_any (.slice pb b.length cb) b k w1 (Hb.out.ext h) (by omega) hkn hyb
      rw [← HA.out] at hlowa
      rw [← HB.out] at hlowb
      have Hlowa := Bl.hid hlowa
      have Hlowb := Bl.hid hlowb
      clear hlowa hlowb
      obtain ⟨cc, hcc⟩ : ∃ cc, cc = (Bl.subc A B k).2 := ⟨_, rfl⟩
      obtain ⟨out, hout⟩ : ∃ out, out = (Bl.subc A B k).1 := ⟨_, rfl⟩
      obtain ⟨x, hx⟩ : ∃ x, x = A.getD k 0 := ⟨_, rfl⟩
      obtain ⟨y, hy⟩ : ∃ y, y = B.getD k 0 := ⟨_, rfl⟩
      rw [← hcc, ← hout, ← hx, ← hy] at hsucc
      rw [← hx] at hka Hlowa
      rw [← hy] at hkb Hlowb
      rw [← hcc] at s2 s3 ⊢
      rw [← hout] at Hown S1
      clear hcc hout hx hy
      obtain ⟨x0, x1⟩ := hka
      obtain ⟨y0, y1⟩ := hkb
      have hki : (k : Int) < (a.length : Int) := by omega
      by_cases hneg : x - y - cc < 0
      · have Hsucc : Hid (Bl.subc A B (k + 1) = (out ++ [x - y - cc + 256], 1)) := Bl.hid (by rw [hsucc.out, if_pos hneg])
        clear hsucc
        go_wp2_with fail
        refine (Hlowa.out _ HE.out).mono ?_
        rintro e w' ⟨rfl, rfl⟩
        go_wp2_with fail
        refine (Hlowb.out _ HE.out).mono ?_
        rintro e w' ⟨rfl, rfl⟩
        go_wp2_with (with_reducible refine Bl.stop_append ?_)
        refine Bl.go_on ?_
        have Hown2 := Bl.hid (Bl.owns_ext Hown.out (Bl.ext_alloc wr (.cells #[.int .u8 (x - y - cc + 256)] 5)))
        have Hnew := Bl.hid (Bl.rds_one wr 5 .u8 (x - y - cc + 256))
        refine Bl.wpL_app tB Hown2.out Hnew.out rfl rfl (by simp) (Bl.ints_one _ _) (by unfold maxLen; omega) (by omega) (by have := HE.out.size; simp only [World.size_alloc]; omega) ?_
        intro p4 c4 w4 hown4 hg4 hB4 hK4 hn4 hc4
        go_wp2_with fail
        go_roundw
        case rel =>
          refine ⟨k + 1, p4, c4, by omega, by simp, by rw [Hsucc.out], rfl, by rw [Hsucc.out, Bl.ints_append]; exact hown4, Below.trans HE.out (Below.trans (Bl.below_alloc wr _ HE.out.size) hB4)⟩
        case measure => simp [intOf]; omega
      · have Hsucc : Hid (Bl.subc A B (k + 1) = (out ++ [x - y - cc], 0)) := Bl.hid (by rw [hsucc.out, if_neg hneg])
        clear hsucc
        go_wp2_with fail
        refine (Hlowa.out _ HE.out).mono ?_
        rintro e w' ⟨rfl, rfl⟩
        go_wp2_with fail
        refine (Hlowb.out _ HE.out).mono ?_
        rintro e w' ⟨rfl, rfl⟩
        go_wp2_with (with_reducible refine Bl.stop_append ?_)
        refine Bl.go_on ?_
        have Hown2 := Bl.hid (Bl.owns_ext Hown.out (Bl.ext_alloc wr (.cells #[.int .u8 (x - y - cc)] 5)))
        have Hnew := Bl.hid (Bl.rds_one wr 5 .u8 (x - y - cc))
        refine Bl.wpL_app tB Hown2.out Hnew.out rfl rfl (by simp) (Bl.ints_one _ _) (by unfold maxLen; omega) (by omega) (by have := HE.out.size; simp only [World.size_alloc]; omega) ?_
        intro p4 c4 w4 hown4 hg4 hB4 hK4 hn4 hc4
        go_wp2_with fail
        go_roundw
        case rel =>
          refine ⟨k + 1, p4, c4, by omega, by simp, by rw [Hsucc.out], rfl, by rw [Hsucc.out, Bl.ints_append]; exact hown4, Below.trans HE.out (Below.trans (Bl.below_alloc wr _ HE.out.size) hB4)⟩
        case measure => simp [intOf]; omega
    · obtain rfl : k = a.length := by omega
      obtain ⟨out, hout⟩ : ∃ out, out = (Bl.subc A B a.length).1 := ⟨_, rfl⟩
      rw [← hout] at Hown S1 Hres
      clear hout
      go_wp2_with fail
      have hsz := HE.out.size
      refine (laid_any w.heap.size _ _ out _ S1.out Hown.out hsz (by rw [S1.out]; omega)).mono ?_
      rintro e w' ⟨v', rfl, h1, h2⟩
      rw [Hres.out] at h1
      have H1 := Bl.hid (Bl.Rds.of_owns h1)
      have H2 := Bl.hid h2
      clear h1 h2
      go_wp2_with fail
      go_ret2
      exact ⟨_, rfl, H1.out, Below.trans HE.out H2.out⟩
end Go.Proofs.YtkndnmpdklidkaaDoor

/- Walk of the law ChanceOdds. -/
import Derived.Test.YtkndnmpdklidkaaDoorCl5
import Derived.Test.YtkndnmpdklidkaaDoorCh12
import Derived.Test.YtkndnmpdklidkaaDoorRegK
namespace Go.Proofs.Bl
open Go
theorem tb_dbl_len (l : List Int) (t : Nat) (h : Byt l) (hl : l.length ≤ 12) (ht : t ≤ 512) : (tb (2 ^ t * be l)).length ≤ 1000 := by
  obtain ⟨K, hK⟩ : ∃ K, K = 8 * l.length + t := ⟨_, rfl⟩
  refine Nat.le_trans (tb_len_le K _ ?_) (by omega)
  have h1 := be_lt l h
  have h2 : be l * 2 ^ t < 256 ^ l.length * 2 ^ t := Nat.mul_lt_mul_of_pos_right h1 (Nat.pow_pos (by decide))
  rw [Nat.mul_comm (2 ^ t)]
  rwa [show (256 : Nat) = 2 ^ 8 from rfl, ← Nat.pow_mul, ← Nat.pow_add, ← hK] at h2
theorem tb_pow_be (l : List Int) (n : Nat) (h : Byt l) (hl : l.length ≤ 12) (hn : n ≤ 8) : (tb (be l ^ n)).length ≤ 1000 := by
  have h1 := tb_le (x := be l) (k := 12) (Nat.lt_of_lt_of_le (be_lt l h) (Nat.pow_le_pow_right (by decide) hl))
  have h2 := tb_pow_len (be l) 96 n (by omega)
  omega
theorem less_not (W V t : Nat) : decide (W * 2 ^ t ≤ V) = !decide (V < 2 ^ t * W) := by
  rw [Nat.mul_comm, Bool.eq_iff_iff]; simp
end Go.Proofs.Bl
namespace Go.Proofs.YtkndnmpdklidkaaDoor
open Go.RowKit Go.Proofs

set_option maxRecDepth 100000 in
theorem odds_skip (x y : Value) (la lb : List Int) (r t : Int) (w : World) (ha : Bl.Rd w .u8 x la) (hb : Bl.Rd w .u8 y lb) (h : (12 : Int) < (la.length : Int) ∨ ((la.length : Int) ≤ 12 ∧ (12 : Int) < (lb.length : Int)) ∨ ((la.length : Int) ≤ 12 ∧ (lb.length : Int) ≤ 12 ∧ 8 < r ∧ r ≤ 200)) :
    Calls Tryd.prog 9 #[.agg #[x, y], .int .i64 r, .int .i64 t] w fun e w' => e = .returned (.bool true) ∧ Bl.Ext w w' := by
  obtain ⟨p, c, hvf, _, _⟩ := ha.form
  obtain ⟨N, hN⟩ : ∃ N, N = la.length := ⟨_, rfl⟩
  rw [← hN] at hvf h
  subst hvf
  obtain ⟨q, d, hvf, _, _⟩ := hb.form
  obtain ⟨M, hM⟩ : ∃ M, M = lb.length := ⟨_, rfl⟩
  rw [← hM] at hvf h
  subst hvf
  have HE0 := Bl.hid (Bl.ext_alloc w (.cells #[.slice p N c, .slice q M d] 35))
  clear ha hN hb hM
  rcases h with h1 | ⟨h1, h2⟩ | ⟨h1, h2, h3, h4⟩
  all_goals
    go_enter Tryd.func9, Tryd.ntmps9
    go_wp2_with fail
    refine (alive37 _).mono ?_
    rintro e w1 ⟨rfl, hE1⟩
    have hc0 := ((Bl.bcell hE1).1 w.heap.size 0 (by simp)).trans (World.cell?_alloc_new w _ _ 0)
    have hc1 := ((Bl.bcell hE1).1 w.heap.size 1 (by simp)).trans (World.cell?_alloc_new w _ _ 1)
    have HE1 := Bl.hid hE1
    clear hE1
    go_wp2_with fail
    go_ret
    exact ⟨rfl, HE0.out.trans HE1.out⟩

set_option maxRecDepth 100000 in
set_option maxHeartbeats 2000000 in
theorem odds_err_err (x y : Value) (la lb : List Int) (r : Int) (t : Int) (S : List Nat) (ea : Nat → Addr) (w : World) (hS : ∀ i, 1 ≤ i → i ≤ 20 → i ∈ S) (He : Errs S ea w) (ha : Bl.Rd w .u8 x la) (hb : Bl.Rd w .u8 y lb) (hya : Bl.Byt la) (hyb : Bl.Byt lb) (hla : (la.length : Int) ≤ 12) (hlb : (lb.length : Int) ≤ 12) (hr : (r < 0 ∧ r ≤ 8) ∨ (0 ≤ r ∧ 8 < r ∧ 200 < r)) (ht : t < 0 ∨ (0 ≤ t ∧ 512 < t)) :
    Calls Tryd.prog 9 #[.agg #[x, y], .int .i64 r, .int .i64 t] w fun e w' => e = .returned (.bool true) ∧ Bl.Ext w w' := by
  obtain ⟨p, c, hvf, _, _⟩ := ha.form
  obtain ⟨q, d, hvg, _, _⟩ := hb.form
  have hwl := Bl.tb_le (x := Bl.be la) (k := 12) (Nat.lt_of_lt_of_le (Bl.be_lt la hya) (Nat.pow_le_pow_right (by decide) (by omega)))
  have hvl := Bl.tb_le (x := Bl.be lb) (k := 12) (Nat.lt_of_lt_of_le (Bl.be_lt lb hyb) (Nat.pow_le_pow_right (by decide) (by omega)))
  have HN := Bl.hid (fun w1 (h : Bl.Ext w w1) => num_any S ea w1 1 hS (He.ext h) (by decide) (by decide))
  have HB1 := Bl.hid (fun w1 (h : Bl.Ext w w1) => bits_any x la w1 (ha.ext h) (by omega) hya)
  have HB2 := Bl.hid (fun w1 (h : Bl.Ext w w1) => bits_any y lb w1 (hb.ext h) (by omega) hyb)
  have HA := Bl.hid (fun w1 (h : Bl.Ext w w1) => again_err x y r (ea 1) w1 (by omega) ((He.ext h).cell 1 (hS 1 (by decide) (by decide))))
  have HBl := Bl.hid (fun w1 (h : Bl.Ext w w1) => below_err x y t (ea 1) w1 (by omega) ((He.ext h).cell 1 (hS 1 (by decide) (by decide))))
  obtain ⟨W, hW⟩ : ∃ W, W = Bl.be la := ⟨_, rfl⟩
  obtain ⟨V, hV⟩ : ∃ V, V = Bl.be lb := ⟨_, rfl⟩
  rw [← hW] at HB1 hwl
  rw [← hV] at HB2 hvl
  obtain ⟨N, hN⟩ : ∃ N, N = la.length := ⟨_, rfl⟩
  obtain ⟨M, hM⟩ : ∃ M, M = lb.length := ⟨_, rfl⟩
  rw [← hN] at hvf hla
  rw [← hM] at hvg hlb
  subst hvf hvg
  have HE0 := Bl.hid (Bl.ext_alloc w (.cells #[.slice p N c, .slice q M d] 35))
  have HWl := Bl.hid hwl
  have HVl := Bl.hid hvl
  clear ha hb hya hyb hS He hN hM hW hV hwl hvl
  rcases hr with ⟨hr1, hr2⟩ | ⟨hr1, hr2, hr3⟩
  all_goals
    rcases ht with ht1 | ⟨ht1, ht2⟩
    all_goals
      go_enter Tryd.func9, Tryd.ntmps9
      go_wp2_with fail
      refine (alive37 _).mono ?_
      rintro e w1 ⟨rfl, hE1⟩
      have hc0 := ((Bl.bcell hE1).1 w.heap.size 0 (by simp)).trans (World.cell?_alloc_new w _ _ 0)
      have hc1 := ((Bl.bcell hE1).1 w.heap.size 1 (by simp)).trans (World.cell?_alloc_new w _ _ 1)
      have HE1 := Bl.hid (HE0.out.trans hE1)
      clear hE1
      go_wp2_with fail
      refine (HA.out _ HE1.out).mono ?_
      rintro e w2 ⟨rfl, hE2⟩
      have HX2 := Bl.hid (Bl.ext_alloc w2 (.cells #[.slice none 0 0, .slice none 0 0] 35))
      have hd0 := World.cell?_alloc_new w2 #[.slice none 0 0, .slice none 0 0] 35 0
      have hd1 := World.cell?_alloc_new w2 #[.slice none 0 0, .slice none 0 0] 35 1
      have hc0 := ((Bl.bcell (hE2.trans HX2.out)).1 w.heap.size 0 (World.block_lt_of_cell? _ _ hc0)).trans hc0
      have hc1 := ((Bl.bcell (hE2.trans HX2.out)).1 w.heap.size 1 (World.block_lt_of_cell? _ _ hc1)).trans hc1
      have HE2 := Bl.hid (HE1.out.trans (hE2.trans HX2.out))
      clear hE2
      go_wp2_with fail
      obtain ⟨W2, hW2⟩ : ∃ W2, W2 = w2.alloc (.cells #[.slice none 0 0, .slice none 0 0] 35) := ⟨_, rfl⟩
      have hB2 : w2.heap.size < W2.heap.size := by rw [hW2]; simp
      rw [← hW2] at HE2 hc0 hc1 hd0 hd1 ⊢
      clear hW2 HX2
      apply Bl.wp_region_evK (Bl.Ext) (fun _ _ _ => True) 7 [38, 39, 40, 41, 42, 43, 9] [Bl.eqv _, Bl.eqv _, (fun v w' => Bl.Rd w' .u8 v (Bl.tb W)), Bl.eqv _, Bl.eqv _, (fun v w' => Bl.Rd w' .u8 v (Bl.tb V)), (fun v w' => Bl.Rd w' .u8 v (Bl.tb W))] (fun w => Below.refl _ w) (fun a b c h k => Bl.Ext.trans h k) (by kernel_rfl) (by kernel_rfl) (by kernel_rfl) (by kernel_rfl)
      case hsteps =>
        refine ⟨?_, ?_, ?_, ?_, ?_, ?_, ?_, trivial⟩
        all_goals
          intro d ev w1 hext HJd Hanc Hdes hni hb hd
          replace Hanc := Bl.hid Hanc
          replace HJd := Bl.hid HJd
          replace Hdes := Bl.hid Hdes
          replace hni := Bl.hid hni
          have e3 := hb 3 (by decide)
          clear hb
          simp only [Array.getD_eq_getD_getElem?, List.getElem?_toArray, List.getElem?_cons_succ, List.getElem?_cons_zero, Option.getD_some] at e3
          simp only [Bl.DepsE2, List.getElem?_cons_succ, List.getElem?_cons_zero, Option.bind_some, List.getD_cons_succ, List.getD_cons_zero, Bl.eqv, and_true] at hd
          have hc := (Bl.bcell hext).1
          have hc0x := (hc _ 0 (World.block_lt_of_cell? _ _ hc0)).trans hc0
          have hc1x := (hc _ 1 (World.block_lt_of_cell? _ _ hc1)).trans hc1
          simp only [Region.wanted, if_true]
          go_simp
          first | (go_at_call 15; (with_reducible refine (HB1.out _ (HE2.out.trans hext)).mono ?_); rintro e w' ⟨v', rfl, h1, h2⟩; exact ⟨_, rfl, h2, h1⟩) | (go_at_call 15; (with_reducible refine (HB2.out _ (HE2.out.trans hext)).mono ?_); rintro e w' ⟨v', rfl, h1, h2⟩; exact ⟨_, rfl, h2, h1⟩) | exact ⟨Below.refl _ _, hd⟩ | exact ⟨Below.refl _ _, hd.1⟩ | exact ⟨Below.refl _ _, hd.2⟩ | exact ⟨Below.refl _ _, rfl⟩ | exact Below.refl _ _
      case hmono => exact ⟨Bl.monoR_eqv _, Bl.monoR_eqv _, (fun _ _ _ h k => Bl.Rd.ext h k), Bl.monoR_eqv _, Bl.monoR_eqv _, (fun _ _ _ h k => Bl.Rd.ext h k), (fun _ _ _ h k => Bl.Rd.ext h k), trivial⟩
      case hR0 => exact (Below.refl _ _).drew
      case hend =>
        intro u w1 hext hJ hend
        simp only [Bl.EndE, List.getElem?_cons_succ, List.getElem?_cons_zero, Option.bind_some, List.getD_cons_succ, List.getD_cons_zero, Bl.eqv, true_and] at hend
        simp only [Bl.fillAct, List.setIfInBounds_toArray, List.set_cons_succ, List.set_cons_zero, List.drop_succ_cons, List.drop_zero, hend]
        have H9 := hend.2
        have H43 := hend.1.2
        obtain ⟨p9, c9, e9, _, _⟩ := H9.form
        obtain ⟨p43, c43, e43, _, _⟩ := H43.form
        rw [e9] at H9
        rw [e43] at H43
        rw [e9, e43]
        have HR9 := Bl.hid H9
        have HR43 := Bl.hid H43
        have hc0 := ((Bl.bcell hext).1 _ 0 (World.block_lt_of_cell? _ _ hc0)).trans hc0
        have hc1 := ((Bl.bcell hext).1 _ 1 (World.block_lt_of_cell? _ _ hc1)).trans hc1
        have hd0 := ((Bl.bcell hext).1 _ 0 hB2).trans hd0
        have hd1 := ((Bl.bcell hext).1 _ 1 hB2).trans hd1
        have HX := Bl.hid hext
        have HE3 := Bl.hid (HE2.out.trans hext)
        clear hext hend e9 e43 H9 H43 hJ HX
        go_wp2_with fail
        refine (HN.out _ HE3.out).mono ?_
        rintro e w4 ⟨rfl, hE4⟩
        have hc0 := ((Bl.bcell hE4).1 _ 0 (World.block_lt_of_cell? _ _ hc0)).trans hc0
        have hc1 := ((Bl.bcell hE4).1 _ 1 (World.block_lt_of_cell? _ _ hc1)).trans hc1
        have HR9 := Bl.hid (Bl.Rd.ext HR9.out hE4)
        have HR43 := Bl.hid (Bl.Rd.ext HR43.out hE4)
        have HE4 := Bl.hid (HE3.out.trans hE4)
        clear hE4
        go_wp2_with fail
        refine (HBl.out _ HE4.out).mono ?_
        rintro e w5 ⟨rfl, hE5⟩
        have HR9 := Bl.hid (Bl.Rd.ext HR9.out hE5)
        have HR43 := Bl.hid (Bl.Rd.ext HR43.out hE5)
        have HE5 := Bl.hid (HE4.out.trans hE5)
        clear hE5
        go_wp2_with fail
        refine (HN.out _ HE5.out).mono ?_
        rintro e w6 ⟨rfl, hE6⟩
        have HE6 := Bl.hid (HE5.out.trans hE6)
        clear hE6
        go_wp2_with fail
        go_ret
        exact ⟨rfl, HE6.out⟩
      case hJ0 => trivial

set_option maxRecDepth 100000 in
set_option maxHeartbeats 2000000 in
theorem odds_err_zero (x y : Value) (la lb : List Int) (r : Int) (t : Nat) (S : List Nat) (ea : Nat → Addr) (w : World) (hS : ∀ i, 1 ≤ i → i ≤ 20 → i ∈ S) (He : Errs S ea w) (ha : Bl.Rd w .u8 x la) (hb : Bl.Rd w .u8 y lb) (hya : Bl.Byt la) (hyb : Bl.Byt lb) (hla : (la.length : Int) ≤ 12) (hlb : (lb.length : Int) ≤ 12) (hr : (r < 0 ∧ r ≤ 8) ∨ (0 ≤ r ∧ 8 < r ∧ 200 < r)) (ht : t ≤ 512) (hz : Bl.be la = 0) :
    Calls Tryd.prog 9 #[.agg #[x, y], .int .i64 r, .int .i64 t] w fun e w' => e = .returned (.bool true) ∧ Bl.Ext w w' := by
  obtain ⟨p, c, hvf, _, _⟩ := ha.form
  obtain ⟨q, d, hvg, _, _⟩ := hb.form
  have hwl := Bl.tb_le (x := Bl.be la) (k := 12) (Nat.lt_of_lt_of_le (Bl.be_lt la hya) (Nat.pow_le_pow_right (by decide) (by omega)))
  have hvl := Bl.tb_le (x := Bl.be lb) (k := 12) (Nat.lt_of_lt_of_le (Bl.be_lt lb hyb) (Nat.pow_le_pow_right (by decide) (by omega)))
  have HN := Bl.hid (fun w1 (h : Bl.Ext w w1) => num_any S ea w1 1 hS (He.ext h) (by decide) (by decide))
  have HB1 := Bl.hid (fun w1 (h : Bl.Ext w w1) => bits_any x la w1 (ha.ext h) (by omega) hya)
  have HB2 := Bl.hid (fun w1 (h : Bl.Ext w w1) => bits_any y lb w1 (hb.ext h) (by omega) hyb)
  have HA := Bl.hid (fun w1 (h : Bl.Ext w w1) => again_err x y r (ea 1) w1 (by omega) ((He.ext h).cell 1 (hS 1 (by decide) (by decide))))
  have HBl := Bl.hid (fun w1 (h : Bl.Ext w w1) => below_any x y la lb t w1 ht (ha.ext h) (hb.ext h) (by omega) (by omega) hya hyb)
  obtain ⟨W, hW⟩ : ∃ W, W = Bl.be la := ⟨_, rfl⟩
  obtain ⟨V, hV⟩ : ∃ V, V = Bl.be lb := ⟨_, rfl⟩
  rw [← hW] at HB1 hwl HBl hz
  rw [← hV] at HB2 hvl HBl
  obtain ⟨N, hN⟩ : ∃ N, N = la.length := ⟨_, rfl⟩
  obtain ⟨M, hM⟩ : ∃ M, M = lb.length := ⟨_, rfl⟩
  rw [← hN] at hvf hla
  rw [← hM] at hvg hlb
  subst hvf hvg
  have HE0 := Bl.hid (Bl.ext_alloc w (.cells #[.slice p N c, .slice q M d] 35))
  have HWl := Bl.hid hwl
  have HVl := Bl.hid hvl
  have t1 : decide ((t : Int) < 0) = false := decide_eq_false (by omega)
  have t2 : decide ((512 : Int) < (t : Int)) = false := decide_eq_false (by omega)
  have Hz := Bl.hid hz
  clear ha hb hya hyb hS He hN hM hW hV hwl hvl hz
  rcases hr with ⟨hr1, hr2⟩ | ⟨hr1, hr2, hr3⟩
  all_goals
    go_enter Tryd.func9, Tryd.ntmps9
    go_wp2_with fail
    refine (alive37 _).mono ?_
    rintro e w1 ⟨rfl, hE1⟩
    have hc0 := ((Bl.bcell hE1).1 w.heap.size 0 (by simp)).trans (World.cell?_alloc_new w _ _ 0)
    have hc1 := ((Bl.bcell hE1).1 w.heap.size 1 (by simp)).trans (World.cell?_alloc_new w _ _ 1)
    have HE1 := Bl.hid (HE0.out.trans hE1)
    clear hE1
    go_wp2_with fail
    refine (HA.out _ HE1.out).mono ?_
    rintro e w2 ⟨rfl, hE2⟩
    have HX2 := Bl.hid (Bl.ext_alloc w2 (.cells #[.slice none 0 0, .slice none 0 0] 35))
    have hd0 := World.cell?_alloc_new w2 #[.slice none 0 0, .slice none 0 0] 35 0
    have hd1 := World.cell?_alloc_new w2 #[.slice none 0 0, .slice none 0 0] 35 1
    have hc0 := ((Bl.bcell (hE2.trans HX2.out)).1 w.heap.size 0 (World.block_lt_of_cell? _ _ hc0)).trans hc0
    have hc1 := ((Bl.bcell (hE2.trans HX2.out)).1 w.heap.size 1 (World.block_lt_of_cell? _ _ hc1)).trans hc1
    have HE2 := Bl.hid (HE1.out.trans (hE2.trans HX2.out))
    clear hE2
    go_wp2_with fail
    obtain ⟨W2, hW2⟩ : ∃ W2, W2 = w2.alloc (.cells #[.slice none 0 0, .slice none 0 0] 35) := ⟨_, rfl⟩
    have hB2 : w2.heap.size < W2.heap.size := by rw [hW2]; simp
    rw [← hW2] at HE2 hc0 hc1 hd0 hd1 ⊢
    clear hW2 HX2
    apply Bl.wp_region_evK (Bl.Ext) (fun _ _ _ => True) 7 [38, 39, 40, 41, 42, 43, 9] [Bl.eqv _, Bl.eqv _, (fun v w' => Bl.Rd w' .u8 v (Bl.tb W)), Bl.eqv _, Bl.eqv _, (fun v w' => Bl.Rd w' .u8 v (Bl.tb V)), (fun v w' => Bl.Rd w' .u8 v (Bl.tb W))] (fun w => Below.refl _ w) (fun a b c h k => Bl.Ext.trans h k) (by kernel_rfl) (by kernel_rfl) (by kernel_rfl) (by kernel_rfl)
    case hsteps =>
      refine ⟨?_, ?_, ?_, ?_, ?_, ?_, ?_, trivial⟩
      all_goals
        intro d ev w1 hext HJd Hanc Hdes hni hb hd
        replace Hanc := Bl.hid Hanc
        replace HJd := Bl.hid HJd
        replace Hdes := Bl.hid Hdes
        replace hni := Bl.hid hni
        have e3 := hb 3 (by decide)
        clear hb
        simp only [Array.getD_eq_getD_getElem?, List.getElem?_toArray, List.getElem?_cons_succ, List.getElem?_cons_zero, Option.getD_some] at e3
        simp only [Bl.DepsE2, List.getElem?_cons_succ, List.getElem?_cons_zero, Option.bind_some, List.getD_cons_succ, List.getD_cons_zero, Bl.eqv, and_true] at hd
        have hc := (Bl.bcell hext).1
        have hc0x := (hc _ 0 (World.block_lt_of_cell? _ _ hc0)).trans hc0
        have hc1x := (hc _ 1 (World.block_lt_of_cell? _ _ hc1)).trans hc1
        simp only [Region.wanted, if_true]
        go_simp
        first | (go_at_call 15; (with_reducible refine (HB1.out _ (HE2.out.trans hext)).mono ?_); rintro e w' ⟨v', rfl, h1, h2⟩; exact ⟨_, rfl, h2, h1⟩) | (go_at_call 15; (with_reducible refine (HB2.out _ (HE2.out.trans hext)).mono ?_); rintro e w' ⟨v', rfl, h1, h2⟩; exact ⟨_, rfl, h2, h1⟩) | exact ⟨Below.refl _ _, hd⟩ | exact ⟨Below.refl _ _, hd.1⟩ | exact ⟨Below.refl _ _, hd.2⟩ | exact ⟨Below.refl _ _, rfl⟩ | exact Below.refl _ _
    case hmono => exact ⟨Bl.monoR_eqv _, Bl.monoR_eqv _, (fun _ _ _ h k => Bl.Rd.ext h k), Bl.monoR_eqv _, Bl.monoR_eqv _, (fun _ _ _ h k => Bl.Rd.ext h k), (fun _ _ _ h k => Bl.Rd.ext h k), trivial⟩
    case hR0 => exact (Below.refl _ _).drew
    case hend =>
      intro u w1 hext hJ hend
      simp only [Bl.EndE, List.getElem?_cons_succ, List.getElem?_cons_zero, Option.bind_some, List.getD_cons_succ, List.getD_cons_zero, Bl.eqv, true_and] at hend
      simp only [Bl.fillAct, List.setIfInBounds_toArray, List.set_cons_succ, List.set_cons_zero, List.drop_succ_cons, List.drop_zero, hend]
      have H9 := hend.2
      have H43 := hend.1.2
      obtain ⟨p9, c9, e9, _, _⟩ := H9.form
      obtain ⟨p43, c43, e43, _, _⟩ := H43.form
      rw [e9] at H9
      rw [e43] at H43
      rw [e9, e43]
      have HR9 := Bl.hid H9
      have HR43 := Bl.hid H43
      have hc0 := ((Bl.bcell hext).1 _ 0 (World.block_lt_of_cell? _ _ hc0)).trans hc0
      have hc1 := ((Bl.bcell hext).1 _ 1 (World.block_lt_of_cell? _ _ hc1)).trans hc1
      have hd0 := ((Bl.bcell hext).1 _ 0 hB2).trans hd0
      have hd1 := ((Bl.bcell hext).1 _ 1 hB2).trans hd1
      have HX := Bl.hid hext
      have HE3 := Bl.hid (HE2.out.trans hext)
      clear hext hend e9 e43 H9 H43 hJ HX
      go_wp2_with fail
      refine (HN.out _ HE3.out).mono ?_
      rintro e w4 ⟨rfl, hE4⟩
      have hc0 := ((Bl.bcell hE4).1 _ 0 (World.block_lt_of_cell? _ _ hc0)).trans hc0
      have hc1 := ((Bl.bcell hE4).1 _ 1 (World.block_lt_of_cell? _ _ hc1)).trans hc1
      have HR9 := Bl.hid (Bl.Rd.ext HR9.out hE4)
      have HR43 := Bl.hid (Bl.Rd.ext HR43.out hE4)
      have HE4 := Bl.hid (HE3.out.trans hE4)
      clear hE4
      go_wp2_with fail
      refine (HBl.out _ HE4.out).mono ?_
      rintro e w5 ⟨rfl, hE5⟩
      have HR9 := Bl.hid (Bl.Rd.ext HR9.out hE5)
      have HR43 := Bl.hid (Bl.Rd.ext HR43.out hE5)
      have HE5 := Bl.hid (HE4.out.trans hE5)
      clear hE5
      rw [Bl.less_not]
      have hz := Hz.out
      clear Hz
      subst hz
      rw [Bl.tb_zero] at HR9 ⊢
      rw [Nat.mul_zero]
      go_wp2_with fail
      refine (rless_any (.slice p43 (Bl.tb V).length c43) (.slice p9 0 c9) V 0 _ HR43.out HR9.out (by have := HVl.out; omega)).mono ?_
      rintro e w6 ⟨rfl, hE6⟩
      have HE6 := Bl.hid (HE5.out.trans hE6)
      clear hE6
      go_wp2_with fail
      go_ret
      exact ⟨by simp, HE6.out⟩
    case hJ0 => trivial

set_option maxRecDepth 100000 in
set_option maxHeartbeats 2000000 in
theorem odds_err_pos (x y : Value) (la lb : List Int) (r : Int) (t : Nat) (S : List Nat) (ea : Nat → Addr) (w : World) (hS : ∀ i, 1 ≤ i → i ≤ 20 → i ∈ S) (He : Errs S ea w) (ha : Bl.Rd w .u8 x la) (hb : Bl.Rd w .u8 y lb) (hya : Bl.Byt la) (hyb : Bl.Byt lb) (hla : (la.length : Int) ≤ 12) (hlb : (lb.length : Int) ≤ 12) (hr : (r < 0 ∧ r ≤ 8) ∨ (0 ≤ r ∧ 8 < r ∧ 200 < r)) (ht : t ≤ 512) (hz : Bl.be la ≠ 0) :
    Calls Tryd.prog 9 #[.agg #[x, y], .int .i64 r, .int .i64 t] w fun e w' => e = .returned (.bool true) ∧ Bl.Ext w w' := by
  obtain ⟨p, c, hvf, _, _⟩ := ha.form
  obtain ⟨q, d, hvg, _, _⟩ := hb.form
  have hlb2 := Bl.tb_dbl_len la t hya (by omega) ht
  have hwl := Bl.tb_le (x := Bl.be la) (k := 12) (Nat.lt_of_lt_of_le (Bl.be_lt la hya) (Nat.pow_le_pow_right (by decide) (by omega)))
  have hvl := Bl.tb_le (x := Bl.be lb) (k := 12) (Nat.lt_of_lt_of_le (Bl.be_lt lb hyb) (Nat.pow_le_pow_right (by decide) (by omega)))
  have HN := Bl.hid (fun w1 (h : Bl.Ext w w1) => num_any S ea w1 1 hS (He.ext h) (by decide) (by decide))
  have HB1 := Bl.hid (fun w1 (h : Bl.Ext w w1) => bits_any x la w1 (ha.ext h) (by omega) hya)
  have HB2 := Bl.hid (fun w1 (h : Bl.Ext w w1) => bits_any y lb w1 (hb.ext h) (by omega) hyb)
  have HA := Bl.hid (fun w1 (h : Bl.Ext w w1) => again_err x y r (ea 1) w1 (by omega) ((He.ext h).cell 1 (hS 1 (by decide) (by decide))))
  have HBl := Bl.hid (fun w1 (h : Bl.Ext w w1) => below_any x y la lb t w1 ht (ha.ext h) (hb.ext h) (by omega) (by omega) hya hyb)
  obtain ⟨W, hW⟩ : ∃ W, W = Bl.be la := ⟨_, rfl⟩
  obtain ⟨V, hV⟩ : ∃ V, V = Bl.be lb := ⟨_, rfl⟩
  rw [← hW] at HB1 hwl HBl hz hlb2
  rw [← hV] at HB2 hvl HBl
  obtain ⟨N, hN⟩ : ∃ N, N = la.length := ⟨_, rfl⟩
  obtain ⟨M, hM⟩ : ∃ M, M = lb.length := ⟨_, rfl⟩
  rw [← hN] at hvf hla
  rw [← hM] at hvg hlb
  subst hvf hvg
  have HE0 := Bl.hid (Bl.ext_alloc w (.cells #[.slice p N c, .slice q M d] 35))
  have HWl := Bl.hid hwl
  have HVl := Bl.hid hvl
  have t1 : decide ((t : Int) < 0) = false := decide_eq_false (by omega)
  have t2 : decide ((512 : Int) < (t : Int)) = false := decide_eq_false (by omega)
  have Hlb2 := Bl.hid hlb2
  clear ha hb hya hyb hS He hN hM hW hV hwl hvl hlb2
  rcases hr with ⟨hr1, hr2⟩ | ⟨hr1, hr2, hr3⟩
  all_goals
    go_enter Tryd.func9, Tryd.ntmps9
    go_wp2_with fail
    refine (alive37 _).mono ?_
    rintro e w1 ⟨rfl, hE1⟩
    have hc0 := ((Bl.bcell hE1).1 w.heap.size 0 (by simp)).trans (World.cell?_alloc_new w _ _ 0)
    have hc1 := ((Bl.bcell hE1).1 w.heap.size 1 (by simp)).trans (World.cell?_alloc_new w _ _ 1)
    have HE1 := Bl.hid (HE0.out.trans hE1)
    clear hE1
    go_wp2_with fail
    refine (HA.out _ HE1.out).mono ?_
    rintro e w2 ⟨rfl, hE2⟩
    have HX2 := Bl.hid (Bl.ext_alloc w2 (.cells #[.slice none 0 0, .slice none 0 0] 35))
    have hd0 := World.cell?_alloc_new w2 #[.slice none 0 0, .slice none 0 0] 35 0
    have hd1 := World.cell?_alloc_new w2 #[.slice none 0 0, .slice none 0 0] 35 1
    have hc0 := ((Bl.bcell (hE2.trans HX2.out)).1 w.heap.size 0 (World.block_lt_of_cell? _ _ hc0)).trans hc0
    have hc1 := ((Bl.bcell (hE2.trans HX2.out)).1 w.heap.size 1 (World.block_lt_of_cell? _ _ hc1)).trans hc1
    have HE2 := Bl.hid (HE1.out.trans (hE2.trans HX2.out))
    clear hE2
    go_wp2_with fail
    obtain ⟨W2, hW2⟩ : ∃ W2, W2 = w2.alloc (.cells #[.slice none 0 0, .slice none 0 0] 35) := ⟨_, rfl⟩
    have hB2 : w2.heap.size < W2.heap.size := by rw [hW2]; simp
    rw [← hW2] at HE2 hc0 hc1 hd0 hd1 ⊢
    clear hW2 HX2
    apply Bl.wp_region_evK (Bl.Ext) (fun _ _ _ => True) 7 [38, 39, 40, 41, 42, 43, 9] [Bl.eqv _, Bl.eqv _, (fun v w' => Bl.Rd w' .u8 v (Bl.tb W)), Bl.eqv _, Bl.eqv _, (fun v w' => Bl.Rd w' .u8 v (Bl.tb V)), (fun v w' => Bl.Rd w' .u8 v (Bl.tb W))] (fun w => Below.refl _ w) (fun a b c h k => Bl.Ext.trans h k) (by kernel_rfl) (by kernel_rfl) (by kernel_rfl) (by kernel_rfl)
    case hsteps =>
      refine ⟨?_, ?_, ?_, ?_, ?_, ?_, ?_, trivial⟩
      all_goals
        intro d ev w1 hext HJd Hanc Hdes hni hb hd
        replace Hanc := Bl.hid Hanc
        replace HJd := Bl.hid HJd
        replace Hdes := Bl.hid Hdes
        replace hni := Bl.hid hni
        have e3 := hb 3 (by decide)
        clear hb
        simp only [Array.getD_eq_getD_getElem?, List.getElem?_toArray, List.getElem?_cons_succ, List.getElem?_cons_zero, Option.getD_some] at e3
        simp only [Bl.DepsE2, List.getElem?_cons_succ, List.getElem?_cons_zero, Option.bind_some, List.getD_cons_succ, List.getD_cons_zero, Bl.eqv, and_true] at hd
        have hc := (Bl.bcell hext).1
        have hc0x := (hc _ 0 (World.block_lt_of_cell? _ _ hc0)).trans hc0
        have hc1x := (hc _ 1 (World.block_lt_of_cell? _ _ hc1)).trans hc1
        simp only [Region.wanted, if_true]
        go_simp
        first | (go_at_call 15; (with_reducible refine (HB1.out _ (HE2.out.trans hext)).mono ?_); rintro e w' ⟨v', rfl, h1, h2⟩; exact ⟨_, rfl, h2, h1⟩) | (go_at_call 15; (with_reducible refine (HB2.out _ (HE2.out.trans hext)).mono ?_); rintro e w' ⟨v', rfl, h1, h2⟩; exact ⟨_, rfl, h2, h1⟩) | exact ⟨Below.refl _ _, hd⟩ | exact ⟨Below.refl _ _, hd.1⟩ | exact ⟨Below.refl _ _, hd.2⟩ | exact ⟨Below.refl _ _, rfl⟩ | exact Below.refl _ _
    case hmono => exact ⟨Bl.monoR_eqv _, Bl.monoR_eqv _, (fun _ _ _ h k => Bl.Rd.ext h k), Bl.monoR_eqv _, Bl.monoR_eqv _, (fun _ _ _ h k => Bl.Rd.ext h k), (fun _ _ _ h k => Bl.Rd.ext h k), trivial⟩
    case hR0 => exact (Below.refl _ _).drew
    case hend =>
      intro u w1 hext hJ hend
      simp only [Bl.EndE, List.getElem?_cons_succ, List.getElem?_cons_zero, Option.bind_some, List.getD_cons_succ, List.getD_cons_zero, Bl.eqv, true_and] at hend
      simp only [Bl.fillAct, List.setIfInBounds_toArray, List.set_cons_succ, List.set_cons_zero, List.drop_succ_cons, List.drop_zero, hend]
      have H9 := hend.2
      have H43 := hend.1.2
      obtain ⟨p9, c9, e9, _, _⟩ := H9.form
      obtain ⟨p43, c43, e43, _, _⟩ := H43.form
      rw [e9] at H9
      rw [e43] at H43
      rw [e9, e43]
      have HR9 := Bl.hid H9
      have HR43 := Bl.hid H43
      have hc0 := ((Bl.bcell hext).1 _ 0 (World.block_lt_of_cell? _ _ hc0)).trans hc0
      have hc1 := ((Bl.bcell hext).1 _ 1 (World.block_lt_of_cell? _ _ hc1)).trans hc1
      have hd0 := ((Bl.bcell hext).1 _ 0 hB2).trans hd0
      have hd1 := ((Bl.bcell hext).1 _ 1 hB2).trans hd1
      have HX := Bl.hid hext
      have HE3 := Bl.hid (HE2.out.trans hext)
      clear hext hend e9 e43 H9 H43 hJ HX
      go_wp2_with fail
      refine (HN.out _ HE3.out).mono ?_
      rintro e w4 ⟨rfl, hE4⟩
      have hc0 := ((Bl.bcell hE4).1 _ 0 (World.block_lt_of_cell? _ _ hc0)).trans hc0
      have hc1 := ((Bl.bcell hE4).1 _ 1 (World.block_lt_of_cell? _ _ hc1)).trans hc1
      have HR9 := Bl.hid (Bl.Rd.ext HR9.out hE4)
      have HR43 := Bl.hid (Bl.Rd.ext HR43.out hE4)
      have HE4 := Bl.hid (HE3.out.trans hE4)
      clear hE4
      go_wp2_with fail
      refine (HBl.out _ HE4.out).mono ?_
      rintro e w5 ⟨rfl, hE5⟩
      have HR9 := Bl.hid (Bl.Rd.ext HR9.out hE5)
      have HR43 := Bl.hid (Bl.Rd.ext HR43.out hE5)
      have HE5 := Bl.hid (HE4.out.trans hE5)
      clear hE5
      rw [Bl.less_not]
      have hLp : 0 < (Bl.tb W).length := List.length_pos_iff.2 (fun q => hz ((Bl.tb_nil_iff W).1 q))
      have hsh := Bl.tb_shift W (by omega) t
      have hLi : (0 : Int) < ((Bl.tb W).length : Int) := by omega
      obtain ⟨w6, hrun, hown6, hE6, hs6⟩ := Bl.make_ints (P := Tryd.prog) tB t (by omega) (by unfold maxLen; omega) w5
      have Hown := Bl.hid hown6
      have HRd := Bl.hid (Bl.Rd.ext HR9.out hE6)
      have HE6 := Bl.hid hE6
      have Hsh := Bl.hid hsh
      have HLb := Bl.hid (show (Bl.tb W).length ≤ 96 from HWl.out)
      clear hown6 hE6 hsh
      go_wp2_with (with_reducible refine Bl.stop_append ?_)
      clear hrun
      refine Bl.go_on ?_
      refine Bl.wpL_app tB Hown.out HRd.out rfl rfl (by simp) (Bl.ints_one _ _) (by have := HLb.out; unfold maxLen; omega) (by have := HLb.out; omega) (Nat.le_of_lt hs6) ?_
      intro p7 c7 w7 hown7 hg7 hB7 hK7 hn7 hc7
      have hR7 : Bl.Rd w7 .u8 (.slice p7 (t + (Bl.tb W).length) c7) (Bl.tb (2 ^ t * W)) := by
        have := Bl.Rds.of_owns hown7
        rw [← Bl.ints_append, ← Hsh.out] at this
        show Bl.Rds _ _ _ _
        rw [Hsh.out, List.length_append, List.length_replicate, ← Hsh.out]
        exact this
      have HR7 := Bl.hid hR7
      have HX7 := Bl.hid (Below.trans HE6.out hB7)
      have HE7 := Bl.hid (HE5.out.trans HX7.out)
      have HR43 := Bl.hid (Bl.Rd.ext HR43.out HX7.out)
      clear hR7 hown7 hg7 hB7 hK7 hn7
      go_wp2_with fail
      refine (rless_any (.slice p43 (Bl.tb V).length c43) _ V (2 ^ t * W) _ HR43.out HR7.out (by have := HVl.out; omega)).mono ?_
      rintro e w8 ⟨rfl, hE8⟩
      have HE8 := Bl.hid (HE7.out.trans hE8)
      clear hE8
      go_wp2_with fail
      go_ret
      exact ⟨by simp, HE8.out⟩
    case hJ0 => trivial

set_option maxRecDepth 100000 in
set_option maxHeartbeats 2000000 in
theorem odds_in_err (x y : Value) (la lb : List Int) (r : Nat) (t : Int) (S : List Nat) (ea : Nat → Addr) (w : World) (hS : ∀ i, 1 ≤ i → i ≤ 20 → i ∈ S) (He : Errs S ea w) (ha : Bl.Rd w .u8 x la) (hb : Bl.Rd w .u8 y lb) (hya : Bl.Byt la) (hyb : Bl.Byt lb) (hla : (la.length : Int) ≤ 12) (hlb : (lb.length : Int) ≤ 12) (hr : r ≤ 8) (ht : t < 0 ∨ (0 ≤ t ∧ 512 < t)) :
    Calls Tryd.prog 9 #[.agg #[x, y], .int .i64 r, .int .i64 t] w fun e w' => e = .returned (.bool true) ∧ Bl.Ext w w' := by
  obtain ⟨p, c, hvf, _, _⟩ := ha.form
  obtain ⟨q, d, hvg, _, _⟩ := hb.form
  have hpa := Bl.tb_pow_be la r hya (by omega) hr
  have hpb := Bl.tb_pow_be lb r hyb (by omega) hr
  have hwl := Bl.tb_le (x := Bl.be la) (k := 12) (Nat.lt_of_lt_of_le (Bl.be_lt la hya) (Nat.pow_le_pow_right (by decide) (by omega)))
  have hvl := Bl.tb_le (x := Bl.be lb) (k := 12) (Nat.lt_of_lt_of_le (Bl.be_lt lb hyb) (Nat.pow_le_pow_right (by decide) (by omega)))
  have HN := Bl.hid (fun w1 (h : Bl.Ext w w1) => num_any S ea w1 1 hS (He.ext h) (by decide) (by decide))
  have HB1 := Bl.hid (fun w1 (h : Bl.Ext w w1) => bits_any x la w1 (ha.ext h) (by omega) hya)
  have HB2 := Bl.hid (fun w1 (h : Bl.Ext w w1) => bits_any y lb w1 (hb.ext h) (by omega) hyb)
  have HA := Bl.hid (fun w1 (h : Bl.Ext w w1) => again_any x y la lb r w1 (by omega) (ha.ext h) (hb.ext h) (by omega) (by omega) hya hyb)
  have HBl := Bl.hid (fun w1 (h : Bl.Ext w w1) => below_err x y t (ea 1) w1 (by omega) ((He.ext h).cell 1 (hS 1 (by decide) (by decide))))
  obtain ⟨W, hW⟩ : ∃ W, W = Bl.be la := ⟨_, rfl⟩
  obtain ⟨V, hV⟩ : ∃ V, V = Bl.be lb := ⟨_, rfl⟩
  rw [← hW] at HB1 hwl HA hpa
  rw [← hV] at HB2 hvl HA hpb
  obtain ⟨N, hN⟩ : ∃ N, N = la.length := ⟨_, rfl⟩
  obtain ⟨M, hM⟩ : ∃ M, M = lb.length := ⟨_, rfl⟩
  rw [← hN] at hvf hla
  rw [← hM] at hvg hlb
  subst hvf hvg
  have HE0 := Bl.hid (Bl.ext_alloc w (.cells #[.slice p N c, .slice q M d] 35))
  have HWl := Bl.hid hwl
  have HVl := Bl.hid hvl
  have HPa := Bl.hid hpa
  have HPb := Bl.hid hpb
  have r1 : decide ((r : Int) < 0) = false := decide_eq_false (by omega)
  have r2 : decide ((200 : Int) < (r : Int)) = false := decide_eq_false (by omega)
  have r3 : decide ((8 : Int) < (r : Int)) = false := decide_eq_false (by omega)
  clear ha hb hya hyb hS He hN hM hW hV hwl hvl hpa hpb
  rcases ht with ht1 | ⟨ht1, ht2⟩
  all_goals
    go_enter Tryd.func9, Tryd.ntmps9
    go_wp2_with fail
    refine (alive37 _).mono ?_
    rintro e w1 ⟨rfl, hE1⟩
    have hc0 := ((Bl.bcell hE1).1 w.heap.size 0 (by simp)).trans (World.cell?_alloc_new w _ _ 0)
    have hc1 := ((Bl.bcell hE1).1 w.heap.size 1 (by simp)).trans (World.cell?_alloc_new w _ _ 1)
    have HE1 := Bl.hid (HE0.out.trans hE1)
    clear hE1
    go_wp2_with fail
    refine (HA.out _ HE1.out).mono ?_
    rintro e w2 ⟨u2, v2, rfl, hu2, hv2, hE2⟩
    obtain ⟨pu, cu, rfl, _, _⟩ := hu2.form
    obtain ⟨pv, cv, rfl, _, _⟩ := hv2.form
    have HX2 := Bl.hid (Bl.ext_alloc w2 (.cells #[.slice pu (Bl.tob (W ^ r)).length cu, .slice pv (Bl.tob (V ^ r)).length cv] 35))
    have Hu2 := Bl.hid (hu2.ext HX2.out)
    have Hv2 := Bl.hid (hv2.ext HX2.out)
    have hd0 := World.cell?_alloc_new w2 #[.slice pu (Bl.tob (W ^ r)).length cu, .slice pv (Bl.tob (V ^ r)).length cv] 35 0
    have hd1 := World.cell?_alloc_new w2 #[.slice pu (Bl.tob (W ^ r)).length cu, .slice pv (Bl.tob (V ^ r)).length cv] 35 1
    clear hu2 hv2
    have hc0 := ((Bl.bcell (hE2.trans HX2.out)).1 w.heap.size 0 (World.block_lt_of_cell? _ _ hc0)).trans hc0
    have hc1 := ((Bl.bcell (hE2.trans HX2.out)).1 w.heap.size 1 (World.block_lt_of_cell? _ _ hc1)).trans hc1
    have HE2 := Bl.hid (HE1.out.trans (hE2.trans HX2.out))
    clear hE2
    go_wp2_with fail
    obtain ⟨W2, hW2⟩ : ∃ W2, W2 = w2.alloc (.cells #[.slice pu (Bl.tob (W ^ r)).length cu, .slice pv (Bl.tob (V ^ r)).length cv] 35) := ⟨_, rfl⟩
    have hB2 : w2.heap.size < W2.heap.size := by rw [hW2]; simp
    rw [← hW2] at HE2 hc0 hc1 hd0 hd1 Hu2 Hv2 ⊢
    clear hW2 HX2
    apply Bl.wp_region_evK (Bl.Ext) (fun _ _ _ => True) 7 [38, 39, 40, 41, 42, 43, 9] [Bl.eqv _, Bl.eqv _, (fun v w' => Bl.Rd w' .u8 v (Bl.tb W)), Bl.eqv _, Bl.eqv _, (fun v w' => Bl.Rd w' .u8 v (Bl.tb V)), (fun v w' => Bl.Rd w' .u8 v (Bl.tb W))] (fun w => Below.refl _ w) (fun a b c h k => Bl.Ext.trans h k) (by kernel_rfl) (by kernel_rfl) (by kernel_rfl) (by kernel_rfl)
    case hsteps =>
      refine ⟨?_, ?_, ?_, ?_, ?_, ?_, ?_, trivial⟩
      all_goals
        intro d ev w1 hext HJd Hanc Hdes hni hb hd
        replace Hanc := Bl.hid Hanc
        replace HJd := Bl.hid HJd
        replace Hdes := Bl.hid Hdes
        replace hni := Bl.hid hni
        have e3 := hb 3 (by decide)
        clear hb
        simp only [Array.getD_eq_getD_getElem?, List.getElem?_toArray, List.getElem?_cons_succ, List.getElem?_cons_zero, Option.getD_some] at e3
        simp only [Bl.DepsE2, List.getElem?_cons_succ, List.getElem?_cons_zero, Option.bind_some, List.getD_cons_succ, List.getD_cons_zero, Bl.eqv, and_true] at hd
        have hc := (Bl.bcell hext).1
        have hc0x := (hc _ 0 (World.block_lt_of_cell? _ _ hc0)).trans hc0
        have hc1x := (hc _ 1 (World.block_lt_of_cell? _ _ hc1)).trans hc1
        simp only [Region.wanted, if_true]
        go_simp
        first | (go_at_call 15; (with_reducible refine (HB1.out _ (HE2.out.trans hext)).mono ?_); rintro e w' ⟨v', rfl, h1, h2⟩; exact ⟨_, rfl, h2, h1⟩) | (go_at_call 15; (with_reducible refine (HB2.out _ (HE2.out.trans hext)).mono ?_); rintro e w' ⟨v', rfl, h1, h2⟩; exact ⟨_, rfl, h2, h1⟩) | exact ⟨Below.refl _ _, hd⟩ | exact ⟨Below.refl _ _, hd.1⟩ | exact ⟨Below.refl _ _, hd.2⟩ | exact ⟨Below.refl _ _, rfl⟩ | exact Below.refl _ _
    case hmono => exact ⟨Bl.monoR_eqv _, Bl.monoR_eqv _, (fun _ _ _ h k => Bl.Rd.ext h k), Bl.monoR_eqv _, Bl.monoR_eqv _, (fun _ _ _ h k => Bl.Rd.ext h k), (fun _ _ _ h k => Bl.Rd.ext h k), trivial⟩
    case hR0 => exact (Below.refl _ _).drew
    case hend =>
      intro u w1 hext hJ hend
      simp only [Bl.EndE, List.getElem?_cons_succ, List.getElem?_cons_zero, Option.bind_some, List.getD_cons_succ, List.getD_cons_zero, Bl.eqv, true_and] at hend
      simp only [Bl.fillAct, List.setIfInBounds_toArray, List.set_cons_succ, List.set_cons_zero, List.drop_succ_cons, List.drop_zero, hend]
      have H9 := hend.2
      have H43 := hend.1.2
      obtain ⟨p9, c9, e9, _, _⟩ := H9.form
      obtain ⟨p43, c43, e43, _, _⟩ := H43.form
      rw [e9] at H9
      rw [e43] at H43
      rw [e9, e43]
      have HR9 := Bl.hid H9
      have HR43 := Bl.hid H43
      have hc0 := ((Bl.bcell hext).1 _ 0 (World.block_lt_of_cell? _ _ hc0)).trans hc0
      have hc1 := ((Bl.bcell hext).1 _ 1 (World.block_lt_of_cell? _ _ hc1)).trans hc1
      have hd0 := ((Bl.bcell hext).1 _ 0 hB2).trans hd0
      have hd1 := ((Bl.bcell hext).1 _ 1 hB2).trans hd1
      have HX := Bl.hid hext
      have HE3 := Bl.hid (HE2.out.trans hext)
      have Hu3 := Bl.hid (Hu2.out.ext hext)
      have Hv3 := Bl.hid (Hv2.out.ext hext)
      clear hext hend e9 e43 H9 H43 hJ HX
      go_wp2_with fail
      have HP1 := Bl.hid (fun w2 (h : Bl.Ext w1 w2) => rpow_any (.slice p9 (Bl.tb W).length c9) W r 96 w2 (Bl.Rd.ext HR9.out h) (by have := HWl.out; omega) (by omega) (by omega))
      have HP2 := Bl.hid (fun w2 (h : Bl.Ext w1 w2) => rpow_any (.slice p43 (Bl.tb V).length c43) V r 96 w2 (Bl.Rd.ext HR43.out h) (by have := HVl.out; omega) (by omega) (by omega))
      have HS1 := Bl.hid (fun (u : Value) w2 (h : Bl.Ext w1 w2) (hu : Bl.Rd w2 .u8 u (Bl.tb (W ^ r))) => same_any (.slice pu (Bl.tob (W ^ r)).length cu) u (W ^ r) _ w2 (Bl.Rd.ext Hu3.out h) hu (by have := HPa.out; omega) (Bl.tb_bit _) (Bl.lb_tb _))
      have HS2 := Bl.hid (fun (u : Value) w2 (h : Bl.Ext w1 w2) (hu : Bl.Rd w2 .u8 u (Bl.tb (V ^ r))) => same_any (.slice pv (Bl.tob (V ^ r)).length cv) u (V ^ r) _ w2 (Bl.Rd.ext Hv3.out h) hu (by have := HPb.out; omega) (Bl.tb_bit _) (Bl.lb_tb _))
      clear Hu2 Hv2
      apply Bl.wp_region_ev 19 [65, 66, 67, 68, 69, 70, 71, 72, 73, 74, 75, 76, 77, 78, 79, 80, 81, 82, 83] [Bl.eqv _, Bl.eqv (.bool false), Bl.eqv (.bool false), Bl.eqv _, Bl.eqv (.slice pu (Bl.tob (W ^ r)).length cu), Bl.eqv _, Bl.eqv _, (fun v w' => Bl.Rd w' .u8 v (Bl.tb (W ^ r))), Bl.eqv (.bool true), Bl.eqv (.bool false), Bl.eqv (.bool false), Bl.eqv (.bool false), Bl.eqv _, Bl.eqv (.slice pv (Bl.tob (V ^ r)).length cv), Bl.eqv _, Bl.eqv _, (fun v w' => Bl.Rd w' .u8 v (Bl.tb (V ^ r))), Bl.eqv (.bool true), Bl.eqv (.bool false)] (by kernel_rfl) (by kernel_rfl) (by kernel_rfl) (by kernel_rfl)
      case hsteps =>
        refine ⟨?_, ?_, ?_, ?_, ?_, ?_, ?_, ?_, ?_, ?_, ?_, ?_, ?_, ?_, ?_, ?_, ?_, ?_, ?_, trivial⟩
        all_goals
          intro ev w1 hext hb hd
          have e1 := hb 1 (by decide)
          have e7 := hb 7 (by decide)
          have e8 := hb 8 (by decide)
          have e9 := hb 9 (by decide)
          have e10 := hb 10 (by decide)
          clear hb
          simp only [Array.getD_eq_getD_getElem?, List.getElem?_toArray, List.getElem?_cons_succ, List.getElem?_cons_zero, Option.getD_some] at e1 e7 e8 e9 e10
          simp only [Bl.DepsE, List.getElem?_cons_succ, List.getElem?_cons_zero, Option.bind_some, List.getD_cons_succ, List.getD_cons_zero, Bl.eqv, and_true] at hd
          have hc := (Bl.bcell hext).1
          have hd0x := (hc _ 0 (World.block_lt_of_cell? _ _ hd0)).trans hd0
          have hd1x := (hc _ 1 (World.block_lt_of_cell? _ _ hd1)).trans hd1
          simp only [Bl.Good, Region.wanted, Bl.yieldE, List.getElem?_cons_succ, List.getElem?_cons_zero, Option.bind_some, hd, beq_self_eq_true, if_true]
          go_simp
          first | (go_at_call 30; (with_reducible refine (HP1.out _ hext).mono ?_); rintro e w' ⟨v', rfl, h1, h2⟩; exact ⟨_, rfl, h2, h1⟩) | (go_at_call 30; (with_reducible refine (HP2.out _ hext).mono ?_); rintro e w' ⟨v', rfl, h1, h2⟩; exact ⟨_, rfl, h2, h1⟩) | (go_at_call 16; (with_reducible refine (HS1.out _ _ hext hd).mono ?_); rintro e w' ⟨rfl, h2⟩; exact ⟨_, rfl, h2, rfl⟩) | (go_at_call 16; (with_reducible refine (HS1.out _ _ hext hd.1).mono ?_); rintro e w' ⟨rfl, h2⟩; exact ⟨_, rfl, h2, rfl⟩) | (go_at_call 16; (with_reducible refine (HS1.out _ _ hext hd.2).mono ?_); rintro e w' ⟨rfl, h2⟩; exact ⟨_, rfl, h2, rfl⟩) | (go_at_call 16; (with_reducible refine (HS1.out _ _ hext hd.2.1).mono ?_); rintro e w' ⟨rfl, h2⟩; exact ⟨_, rfl, h2, rfl⟩) | (go_at_call 16; (with_reducible refine (HS1.out _ _ hext hd.2.2).mono ?_); rintro e w' ⟨rfl, h2⟩; exact ⟨_, rfl, h2, rfl⟩) | (go_at_call 16; (with_reducible refine (HS2.out _ _ hext hd).mono ?_); rintro e w' ⟨rfl, h2⟩; exact ⟨_, rfl, h2, rfl⟩) | (go_at_call 16; (with_reducible refine (HS2.out _ _ hext hd.1).mono ?_); rintro e w' ⟨rfl, h2⟩; exact ⟨_, rfl, h2, rfl⟩) | (go_at_call 16; (with_reducible refine (HS2.out _ _ hext hd.2).mono ?_); rintro e w' ⟨rfl, h2⟩; exact ⟨_, rfl, h2, rfl⟩) | (go_at_call 16; (with_reducible refine (HS2.out _ _ hext hd.2.1).mono ?_); rintro e w' ⟨rfl, h2⟩; exact ⟨_, rfl, h2, rfl⟩) | (go_at_call 16; (with_reducible refine (HS2.out _ _ hext hd.2.2).mono ?_); rintro e w' ⟨rfl, h2⟩; exact ⟨_, rfl, h2, rfl⟩) | exact ⟨Below.refl _ _, rfl⟩
      case hmono => exact ⟨Bl.mono_eqv _, (Bl.mono_eqv _), (Bl.mono_eqv _), Bl.mono_eqv _, (Bl.mono_eqv _), Bl.mono_eqv _, Bl.mono_eqv _, (fun _ _ _ h k => Bl.Rd.ext h k), (Bl.mono_eqv _), (Bl.mono_eqv _), (Bl.mono_eqv _), (Bl.mono_eqv _), Bl.mono_eqv _, (Bl.mono_eqv _), Bl.mono_eqv _, Bl.mono_eqv _, (fun _ _ _ h k => Bl.Rd.ext h k), (Bl.mono_eqv _), (Bl.mono_eqv _), trivial⟩
      case hend =>
        intro u w1 hext hend
        simp only [Bl.EndE, List.getElem?_cons_succ, List.getElem?_cons_zero, Option.bind_some, List.getD_cons_succ, List.getD_cons_zero, Bl.eqv, true_and] at hend
        simp only [Bl.fillAct, List.setIfInBounds_toArray, List.set_cons_succ, List.set_cons_zero, List.drop_succ_cons, List.drop_zero, hend]
        have hc0 := ((Bl.bcell hext).1 _ 0 (World.block_lt_of_cell? _ _ hc0)).trans hc0
        have hc1 := ((Bl.bcell hext).1 _ 1 (World.block_lt_of_cell? _ _ hc1)).trans hc1
        have HR9 := Bl.hid (Bl.Rd.ext HR9.out hext)
        have HR43 := Bl.hid (Bl.Rd.ext HR43.out hext)
        have HE4 := Bl.hid (HE3.out.trans hext)
        clear hext hend HP1 HP2 HS1 HS2 hd0 hd1
        go_wp2_with fail
        refine (HBl.out _ HE4.out).mono ?_
        rintro e w5 ⟨rfl, hE5⟩
        have HR9 := Bl.hid (Bl.Rd.ext HR9.out hE5)
        have HR43 := Bl.hid (Bl.Rd.ext HR43.out hE5)
        have HE5 := Bl.hid (HE4.out.trans hE5)
        clear hE5
        go_wp2_with fail
        refine (HN.out _ HE5.out).mono ?_
        rintro e w6 ⟨rfl, hE6⟩
        have HE6 := Bl.hid (HE5.out.trans hE6)
        clear hE6
        go_wp2_with fail
        go_ret
        exact ⟨rfl, HE6.out⟩
    case hJ0 => trivial

set_option maxRecDepth 100000 in
set_option maxHeartbeats 2000000 in
theorem odds_in_zero (x y : Value) (la lb : List Int) (r : Nat) (t : Nat) (S : List Nat) (ea : Nat → Addr) (w : World) (hS : ∀ i, 1 ≤ i → i ≤ 20 → i ∈ S) (He : Errs S ea w) (ha : Bl.Rd w .u8 x la) (hb : Bl.Rd w .u8 y lb) (hya : Bl.Byt la) (hyb : Bl.Byt lb) (hla : (la.length : Int) ≤ 12) (hlb : (lb.length : Int) ≤ 12) (hr : r ≤ 8) (ht : t ≤ 512) (hz : Bl.be la = 0) :
    Calls Tryd.prog 9 #[.agg #[x, y], .int .i64 r, .int .i64 t] w fun e w' => e = .returned (.bool true) ∧ Bl.Ext w w' := by
  obtain ⟨p, c, hvf, _, _⟩ := ha.form
  obtain ⟨q, d, hvg, _, _⟩ := hb.form
  have hpa := Bl.tb_pow_be la r hya (by omega) hr
  have hpb := Bl.tb_pow_be lb r hyb (by omega) hr
  have hwl := Bl.tb_le (x := Bl.be la) (k := 12) (Nat.lt_of_lt_of_le (Bl.be_lt la hya) (Nat.pow_le_pow_right (by decide) (by omega)))
  have hvl := Bl.tb_le (x := Bl.be lb) (k := 12) (Nat.lt_of_lt_of_le (Bl.be_lt lb hyb) (Nat.pow_le_pow_right (by decide) (by omega)))
  have HN := Bl.hid (fun w1 (h : Bl.Ext w w1) => num_any S ea w1 1 hS (He.ext h) (by decide) (by decide))
  have HB1 := Bl.hid (fun w1 (h : Bl.Ext w w1) => bits_any x la w1 (ha.ext h) (by omega) hya)
  have HB2 := Bl.hid (fun w1 (h : Bl.Ext w w1) => bits_any y lb w1 (hb.ext h) (by omega) hyb)
  have HA := Bl.hid (fun w1 (h : Bl.Ext w w1) => again_any x y la lb r w1 (by omega) (ha.ext h) (hb.ext h) (by omega) (by omega) hya hyb)
  have HBl := Bl.hid (fun w1 (h : Bl.Ext w w1) => below_any x y la lb t w1 ht (ha.ext h) (hb.ext h) (by omega) (by omega) hya hyb)
  obtain ⟨W, hW⟩ : ∃ W, W = Bl.be la := ⟨_, rfl⟩
  obtain ⟨V, hV⟩ : ∃ V, V = Bl.be lb := ⟨_, rfl⟩
  rw [← hW] at HB1 hwl HA hpa HBl hz
  rw [← hV] at HB2 hvl HA hpb HBl
  obtain ⟨N, hN⟩ : ∃ N, N = la.length := ⟨_, rfl⟩
  obtain ⟨M, hM⟩ : ∃ M, M = lb.length := ⟨_, rfl⟩
  rw [← hN] at hvf hla
  rw [← hM] at hvg hlb
  subst hvf hvg
  have HE0 := Bl.hid (Bl.ext_alloc w (.cells #[.slice p N c, .slice q M d] 35))
  have HWl := Bl.hid hwl
  have HVl := Bl.hid hvl
  have HPa := Bl.hid hpa
  have HPb := Bl.hid hpb
  have r1 : decide ((r : Int) < 0) = false := decide_eq_false (by omega)
  have r2 : decide ((200 : Int) < (r : Int)) = false := decide_eq_false (by omega)
  have r3 : decide ((8 : Int) < (r : Int)) = false := decide_eq_false (by omega)
  have t1 : decide ((t : Int) < 0) = false := decide_eq_false (by omega)
  have t2 : decide ((512 : Int) < (t : Int)) = false := decide_eq_false (by omega)
  have Hz := Bl.hid hz
  clear ha hb hya hyb hS He hN hM hW hV hwl hvl hpa hpb hz
  go_enter Tryd.func9, Tryd.ntmps9
  go_wp2_with fail
  refine (alive37 _).mono ?_
  rintro e w1 ⟨rfl, hE1⟩
  have hc0 := ((Bl.bcell hE1).1 w.heap.size 0 (by simp)).trans (World.cell?_alloc_new w _ _ 0)
  have hc1 := ((Bl.bcell hE1).1 w.heap.size 1 (by simp)).trans (World.cell?_alloc_new w _ _ 1)
  have HE1 := Bl.hid (HE0.out.trans hE1)
  clear hE1
  go_wp2_with fail
  refine (HA.out _ HE1.out).mono ?_
  rintro e w2 ⟨u2, v2, rfl, hu2, hv2, hE2⟩
  obtain ⟨pu, cu, rfl, _, _⟩ := hu2.form
  obtain ⟨pv, cv, rfl, _, _⟩ := hv2.form
  have HX2 := Bl.hid (Bl.ext_alloc w2 (.cells #[.slice pu (Bl.tob (W ^ r)).length cu, .slice pv (Bl.tob (V ^ r)).length cv] 35))
  have Hu2 := Bl.hid (hu2.ext HX2.out)
  have Hv2 := Bl.hid (hv2.ext HX2.out)
  have hd0 := World.cell?_alloc_new w2 #[.slice pu (Bl.tob (W ^ r)).length cu, .slice pv (Bl.tob (V ^ r)).length cv] 35 0
  have hd1 := World.cell?_alloc_new w2 #[.slice pu (Bl.tob (W ^ r)).length cu, .slice pv (Bl.tob (V ^ r)).length cv] 35 1
  clear hu2 hv2
  have hc0 := ((Bl.bcell (hE2.trans HX2.out)).1 w.heap.size 0 (World.block_lt_of_cell? _ _ hc0)).trans hc0
  have hc1 := ((Bl.bcell (hE2.trans HX2.out)).1 w.heap.size 1 (World.block_lt_of_cell? _ _ hc1)).trans hc1
  have HE2 := Bl.hid (HE1.out.trans (hE2.trans HX2.out))
  clear hE2
  go_wp2_with fail
  obtain ⟨W2, hW2⟩ : ∃ W2, W2 = w2.alloc (.cells #[.slice pu (Bl.tob (W ^ r)).length cu, .slice pv (Bl.tob (V ^ r)).length cv] 35) := ⟨_, rfl⟩
  have hB2 : w2.heap.size < W2.heap.size := by rw [hW2]; simp
  rw [← hW2] at HE2 hc0 hc1 hd0 hd1 Hu2 Hv2 ⊢
  clear hW2 HX2
  apply Bl.wp_region_evK (Bl.Ext) (fun _ _ _ => True) 7 [38, 39, 40, 41, 42, 43, 9] [Bl.eqv _, Bl.eqv _, (fun v w' => Bl.Rd w' .u8 v (Bl.tb W)), Bl.eqv _, Bl.eqv _, (fun v w' => Bl.Rd w' .u8 v (Bl.tb V)), (fun v w' => Bl.Rd w' .u8 v (Bl.tb W))] (fun w => Below.refl _ w) (fun a b c h k => Bl.Ext.trans h k) (by kernel_rfl) (by kernel_rfl) (by kernel_rfl) (by kernel_rfl)
  case hsteps =>
    refine ⟨?_, ?_, ?_, ?_, ?_, ?_, ?_, trivial⟩
    all_goals
      intro d ev w1 hext HJd Hanc Hdes hni hb hd
      replace Hanc := Bl.hid Hanc
      replace HJd := Bl.hid HJd
      replace Hdes := Bl.hid Hdes
      replace hni := Bl.hid hni
      have e3 := hb 3 (by decide)
      clear hb
      simp only [Array.getD_eq_getD_getElem?, List.getElem?_toArray, List.getElem?_cons_succ, List.getElem?_cons_zero, Option.getD_some] at e3
      simp only [Bl.DepsE2, List.getElem?_cons_succ, List.getElem?_cons_zero, Option.bind_some, List.getD_cons_succ, List.getD_cons_zero, Bl.eqv, and_true] at hd
      have hc := (Bl.bcell hext).1
      have hc0x := (hc _ 0 (World.block_lt_of_cell? _ _ hc0)).trans hc0
      have hc1x := (hc _ 1 (World.block_lt_of_cell? _ _ hc1)).trans hc1
      simp only [Region.wanted, if_true]
      go_simp
      first | (go_at_call 15; (with_reducible refine (HB1.out _ (HE2.out.trans hext)).mono ?_); rintro e w' ⟨v', rfl, h1, h2⟩; exact ⟨_, rfl, h2, h1⟩) | (go_at_call 15; (with_reducible refine (HB2.out _ (HE2.out.trans hext)).mono ?_); rintro e w' ⟨v', rfl, h1, h2⟩; exact ⟨_, rfl, h2, h1⟩) | exact ⟨Below.refl _ _, hd⟩ | exact ⟨Below.refl _ _, hd.1⟩ | exact ⟨Below.refl _ _, hd.2⟩ | exact ⟨Below.refl _ _, rfl⟩ | exact Below.refl _ _
  case hmono => exact ⟨Bl.monoR_eqv _, Bl.monoR_eqv _, (fun _ _ _ h k => Bl.Rd.ext h k), Bl.monoR_eqv _, Bl.monoR_eqv _, (fun _ _ _ h k => Bl.Rd.ext h k), (fun _ _ _ h k => Bl.Rd.ext h k), trivial⟩
  case hR0 => exact (Below.refl _ _).drew
  case hend =>
    intro u w1 hext hJ hend
    simp only [Bl.EndE, List.getElem?_cons_succ, List.getElem?_cons_zero, Option.bind_some, List.getD_cons_succ, List.getD_cons_zero, Bl.eqv, true_and] at hend
    simp only [Bl.fillAct, List.setIfInBounds_toArray, List.set_cons_succ, List.set_cons_zero, List.drop_succ_cons, List.drop_zero, hend]
    have H9 := hend.2
    have H43 := hend.1.2
    obtain ⟨p9, c9, e9, _, _⟩ := H9.form
    obtain ⟨p43, c43, e43, _, _⟩ := H43.form
    rw [e9] at H9
    rw [e43] at H43
    rw [e9, e43]
    have HR9 := Bl.hid H9
    have HR43 := Bl.hid H43
    have hc0 := ((Bl.bcell hext).1 _ 0 (World.block_lt_of_cell? _ _ hc0)).trans hc0
    have hc1 := ((Bl.bcell hext).1 _ 1 (World.block_lt_of_cell? _ _ hc1)).trans hc1
    have hd0 := ((Bl.bcell hext).1 _ 0 hB2).trans hd0
    have hd1 := ((Bl.bcell hext).1 _ 1 hB2).trans hd1
    have HX := Bl.hid hext
    have HE3 := Bl.hid (HE2.out.trans hext)
    have Hu3 := Bl.hid (Hu2.out.ext hext)
    have Hv3 := Bl.hid (Hv2.out.ext hext)
    clear hext hend e9 e43 H9 H43 hJ HX
    go_wp2_with fail
    have HP1 := Bl.hid (fun w2 (h : Bl.Ext w1 w2) => rpow_any (.slice p9 (Bl.tb W).length c9) W r 96 w2 (Bl.Rd.ext HR9.out h) (by have := HWl.out; omega) (by omega) (by omega))
    have HP2 := Bl.hid (fun w2 (h : Bl.Ext w1 w2) => rpow_any (.slice p43 (Bl.tb V).length c43) V r 96 w2 (Bl.Rd.ext HR43.out h) (by have := HVl.out; omega) (by omega) (by omega))
    have HS1 := Bl.hid (fun (u : Value) w2 (h : Bl.Ext w1 w2) (hu : Bl.Rd w2 .u8 u (Bl.tb (W ^ r))) => same_any (.slice pu (Bl.tob (W ^ r)).length cu) u (W ^ r) _ w2 (Bl.Rd.ext Hu3.out h) hu (by have := HPa.out; omega) (Bl.tb_bit _) (Bl.lb_tb _))
    have HS2 := Bl.hid (fun (u : Value) w2 (h : Bl.Ext w1 w2) (hu : Bl.Rd w2 .u8 u (Bl.tb (V ^ r))) => same_any (.slice pv (Bl.tob (V ^ r)).length cv) u (V ^ r) _ w2 (Bl.Rd.ext Hv3.out h) hu (by have := HPb.out; omega) (Bl.tb_bit _) (Bl.lb_tb _))
    clear Hu2 Hv2
    apply Bl.wp_region_ev 19 [65, 66, 67, 68, 69, 70, 71, 72, 73, 74, 75, 76, 77, 78, 79, 80, 81, 82, 83] [Bl.eqv _, Bl.eqv (.bool false), Bl.eqv (.bool false), Bl.eqv _, Bl.eqv (.slice pu (Bl.tob (W ^ r)).length cu), Bl.eqv _, Bl.eqv _, (fun v w' => Bl.Rd w' .u8 v (Bl.tb (W ^ r))), Bl.eqv (.bool true), Bl.eqv (.bool false), Bl.eqv (.bool false), Bl.eqv (.bool false), Bl.eqv _, Bl.eqv (.slice pv (Bl.tob (V ^ r)).length cv), Bl.eqv _, Bl.eqv _, (fun v w' => Bl.Rd w' .u8 v (Bl.tb (V ^ r))), Bl.eqv (.bool true), Bl.eqv (.bool false)] (by kernel_rfl) (by kernel_rfl) (by kernel_rfl) (by kernel_rfl)
    case hsteps =>
      refine ⟨?_, ?_, ?_, ?_, ?_, ?_, ?_, ?_, ?_, ?_, ?_, ?_, ?_, ?_, ?_, ?_, ?_, ?_, ?_, trivial⟩
      all_goals
        intro ev w1 hext hb hd
        have e1 := hb 1 (by decide)
        have e7 := hb 7 (by decide)
        have e8 := hb 8 (by decide)
        have e9 := hb 9 (by decide)
        have e10 := hb 10 (by decide)
        clear hb
        simp only [Array.getD_eq_getD_getElem?, List.getElem?_toArray, List.getElem?_cons_succ, List.getElem?_cons_zero, Option.getD_some] at e1 e7 e8 e9 e10
        simp only [Bl.DepsE, List.getElem?_cons_succ, List.getElem?_cons_zero, Option.bind_some, List.getD_cons_succ, List.getD_cons_zero, Bl.eqv, and_true] at hd
        have hc := (Bl.bcell hext).1
        have hd0x := (hc _ 0 (World.block_lt_of_cell? _ _ hd0)).trans hd0
        have hd1x := (hc _ 1 (World.block_lt_of_cell? _ _ hd1)).trans hd1
        simp only [Bl.Good, Region.wanted, Bl.yieldE, List.getElem?_cons_succ, List.getElem?_cons_zero, Option.bind_some, hd, beq_self_eq_true, if_true]
        go_simp
        first | (go_at_call 30; (with_reducible refine (HP1.out _ hext).mono ?_); rintro e w' ⟨v', rfl, h1, h2⟩; exact ⟨_, rfl, h2, h1⟩) | (go_at_call 30; (with_reducible refine (HP2.out _ hext).mono ?_); rintro e w' ⟨v', rfl, h1, h2⟩; exact ⟨_, rfl, h2, h1⟩) | (go_at_call 16; (with_reducible refine (HS1.out _ _ hext hd).mono ?_); rintro e w' ⟨rfl, h2⟩; exact ⟨_, rfl, h2, rfl⟩) | (go_at_call 16; (with_reducible refine (HS1.out _ _ hext hd.1).mono ?_); rintro e w' ⟨rfl, h2⟩; exact ⟨_, rfl, h2, rfl⟩) | (go_at_call 16; (with_reducible refine (HS1.out _ _ hext hd.2).mono ?_); rintro e w' ⟨rfl, h2⟩; exact ⟨_, rfl, h2, rfl⟩) | (go_at_call 16; (with_reducible refine (HS1.out _ _ hext hd.2.1).mono ?_); rintro e w' ⟨rfl, h2⟩; exact ⟨_, rfl, h2, rfl⟩) | (go_at_call 16; (with_reducible refine (HS1.out _ _ hext hd.2.2).mono ?_); rintro e w' ⟨rfl, h2⟩; exact ⟨_, rfl, h2, rfl⟩) | (go_at_call 16; (with_reducible refine (HS2.out _ _ hext hd).mono ?_); rintro e w' ⟨rfl, h2⟩; exact ⟨_, rfl, h2, rfl⟩) | (go_at_call 16; (with_reducible refine (HS2.out _ _ hext hd.1).mono ?_); rintro e w' ⟨rfl, h2⟩; exact ⟨_, rfl, h2, rfl⟩) | (go_at_call 16; (with_reducible refine (HS2.out _ _ hext hd.2).mono ?_); rintro e w' ⟨rfl, h2⟩; exact ⟨_, rfl, h2, rfl⟩) | (go_at_call 16; (with_reducible refine (HS2.out _ _ hext hd.2.1).mono ?_); rintro e w' ⟨rfl, h2⟩; exact ⟨_, rfl, h2, rfl⟩) | (go_at_call 16; (with_reducible refine (HS2.out _ _ hext hd.2.2).mono ?_); rintro e w' ⟨rfl, h2⟩; exact ⟨_, rfl, h2, rfl⟩) | exact ⟨Below.refl _ _, rfl⟩
    case hmono => exact ⟨Bl.mono_eqv _, (Bl.mono_eqv _), (Bl.mono_eqv _), Bl.mono_eqv _, (Bl.mono_eqv _), Bl.mono_eqv _, Bl.mono_eqv _, (fun _ _ _ h k => Bl.Rd.ext h k), (Bl.mono_eqv _), (Bl.mono_eqv _), (Bl.mono_eqv _), (Bl.mono_eqv _), Bl.mono_eqv _, (Bl.mono_eqv _), Bl.mono_eqv _, Bl.mono_eqv _, (fun _ _ _ h k => Bl.Rd.ext h k), (Bl.mono_eqv _), (Bl.mono_eqv _), trivial⟩
    case hend =>
      intro u w1 hext hend
      simp only [Bl.EndE, List.getElem?_cons_succ, List.getElem?_cons_zero, Option.bind_some, List.getD_cons_succ, List.getD_cons_zero, Bl.eqv, true_and] at hend
      simp only [Bl.fillAct, List.setIfInBounds_toArray, List.set_cons_succ, List.set_cons_zero, List.drop_succ_cons, List.drop_zero, hend]
      have hc0 := ((Bl.bcell hext).1 _ 0 (World.block_lt_of_cell? _ _ hc0)).trans hc0
      have hc1 := ((Bl.bcell hext).1 _ 1 (World.block_lt_of_cell? _ _ hc1)).trans hc1
      have HR9 := Bl.hid (Bl.Rd.ext HR9.out hext)
      have HR43 := Bl.hid (Bl.Rd.ext HR43.out hext)
      have HE4 := Bl.hid (HE3.out.trans hext)
      clear hext hend HP1 HP2 HS1 HS2 hd0 hd1
      go_wp2_with fail
      refine (HBl.out _ HE4.out).mono ?_
      rintro e w5 ⟨rfl, hE5⟩
      have HR9 := Bl.hid (Bl.Rd.ext HR9.out hE5)
      have HR43 := Bl.hid (Bl.Rd.ext HR43.out hE5)
      have HE5 := Bl.hid (HE4.out.trans hE5)
      clear hE5
      rw [Bl.less_not]
      have hz := Hz.out
      clear Hz
      subst hz
      rw [Bl.tb_zero] at HR9 ⊢
      rw [Nat.mul_zero]
      go_wp2_with fail
      refine (rless_any (.slice p43 (Bl.tb V).length c43) (.slice p9 0 c9) V 0 _ HR43.out HR9.out (by have := HVl.out; omega)).mono ?_
      rintro e w6 ⟨rfl, hE6⟩
      have HE6 := Bl.hid (HE5.out.trans hE6)
      clear hE6
      go_wp2_with fail
      go_ret
      exact ⟨by simp, HE6.out⟩
  case hJ0 => trivial

set_option maxRecDepth 100000 in
set_option maxHeartbeats 2000000 in
theorem odds_in_pos (x y : Value) (la lb : List Int) (r : Nat) (t : Nat) (S : List Nat) (ea : Nat → Addr) (w : World) (hS : ∀ i, 1 ≤ i → i ≤ 20 → i ∈ S) (He : Errs S ea w) (ha : Bl.Rd w .u8 x la) (hb : Bl.Rd w .u8 y lb) (hya : Bl.Byt la) (hyb : Bl.Byt lb) (hla : (la.length : Int) ≤ 12) (hlb : (lb.length : Int) ≤ 12) (hr : r ≤ 8) (ht : t ≤ 512) (hz : Bl.be la ≠ 0) :
    Calls Tryd.prog 9 #[.agg #[x, y], .int .i64 r, .int .i64 t] w fun e w' => e = .returned (.bool true) ∧ Bl.Ext w w' := by
  obtain ⟨p, c, hvf, _, _⟩ := ha.form
  obtain ⟨q, d, hvg, _, _⟩ := hb.form
  have hlb2 := Bl.tb_dbl_len la t hya (by omega) ht
  have hpa := Bl.tb_pow_be la r hya (by omega) hr
  have hpb := Bl.tb_pow_be lb r hyb (by omega) hr
  have hwl := Bl.tb_le (x := Bl.be la) (k := 12) (Nat.lt_of_lt_of_le (Bl.be_lt la hya) (Nat.pow_le_pow_right (by decide) (by omega)))
  have hvl := Bl.tb_le (x := Bl.be lb) (k := 12) (Nat.lt_of_lt_of_le (Bl.be_lt lb hyb) (Nat.pow_le_pow_right (by decide) (by omega)))
  have HN := Bl.hid (fun w1 (h : Bl.Ext w w1) => num_any S ea w1 1 hS (He.ext h) (by decide) (by decide))
  have HB1 := Bl.hid (fun w1 (h : Bl.Ext w w1) => bits_any x la w1 (ha.ext h) (by omega) hya)
  have HB2 := Bl.hid (fun w1 (h : Bl.Ext w w1) => bits_any y lb w1 (hb.ext h) (by omega) hyb)
  have HA := Bl.hid (fun w1 (h : Bl.Ext w w1) => again_any x y la lb r w1 (by omega) (ha.ext h) (hb.ext h) (by omega) (by omega) hya hyb)
  have HBl := Bl.hid (fun w1 (h : Bl.Ext w w1) => below_any x y la lb t w1 ht (ha.ext h) (hb.ext h) (by omega) (by omega) hya hyb)
  obtain ⟨W, hW⟩ : ∃ W, W = Bl.be la := ⟨_, rfl⟩
  obtain ⟨V, hV⟩ : ∃ V, V = Bl.be lb := ⟨_, rfl⟩
  rw [← hW] at HB1 hwl HA hpa HBl hz hlb2
  rw [← hV] at HB2 hvl HA hpb HBl
  obtain ⟨N, hN⟩ : ∃ N, N = la.length := ⟨_, rfl⟩
  obtain ⟨M, hM⟩ : ∃ M, M = lb.length := ⟨_, rfl⟩
  rw [← hN] at hvf hla
  rw [← hM] at hvg hlb
  subst hvf hvg
  have HE0 := Bl.hid (Bl.ext_alloc w (.cells #[.slice p N c, .slice q M d] 35))
  have HWl := Bl.hid hwl
  have HVl := Bl.hid hvl
  have HPa := Bl.hid hpa
  have HPb := Bl.hid hpb
  have r1 : decide ((r : Int) < 0) = false := decide_eq_false (by omega)
  have r2 : decide ((200 : Int) < (r : Int)) = false := decide_eq_false (by omega)
  have r3 : decide ((8 : Int) < (r : Int)) = false := decide_eq_false (by omega)
  have t1 : decide ((t : Int) < 0) = false := decide_eq_false (by omega)
  have t2 : decide ((512 : Int) < (t : Int)) = false := decide_eq_false (by omega)
  have Hlb2 := Bl.hid hlb2
  clear ha hb hya hyb hS He hN hM hW hV hwl hvl hpa hpb hlb2
  go_enter Tryd.func9, Tryd.ntmps9
  go_wp2_with fail
  refine (alive37 _).mono ?_
  rintro e w1 ⟨rfl, hE1⟩
  have hc0 := ((Bl.bcell hE1).1 w.heap.size 0 (by simp)).trans (World.cell?_alloc_new w _ _ 0)
  have hc1 := ((Bl.bcell hE1).1 w.heap.size 1 (by simp)).trans (World.cell?_alloc_new w _ _ 1)
  have HE1 := Bl.hid (HE0.out.trans hE1)
  clear hE1
  go_wp2_with fail
  refine (HA.out _ HE1.out).mono ?_
  rintro e w2 ⟨u2, v2, rfl, hu2, hv2, hE2⟩
  obtain ⟨pu, cu, rfl, _, _⟩ := hu2.form
  obtain ⟨pv, cv, rfl, _, _⟩ := hv2.form
  have HX2 := Bl.hid (Bl.ext_alloc w2 (.cells #[.slice pu (Bl.tob (W ^ r)).length cu, .slice pv (Bl.tob (V ^ r)).length cv] 35))
  have Hu2 := Bl.hid (hu2.ext HX2.out)
  have Hv2 := Bl.hid (hv2.ext HX2.out)
  have hd0 := World.cell?_alloc_new w2 #[.slice pu (Bl.tob (W ^ r)).length cu, .slice pv (Bl.tob (V ^ r)).length cv] 35 0
  have hd1 := World.cell?_alloc_new w2 #[.slice pu (Bl.tob (W ^ r)).length cu, .slice pv (Bl.tob (V ^ r)).length cv] 35 1
  clear hu2 hv2
  have hc0 := ((Bl.bcell (hE2.trans HX2.out)).1 w.heap.size 0 (World.block_lt_of_cell? _ _ hc0)).trans hc0
  have hc1 := ((Bl.bcell (hE2.trans HX2.out)).1 w.heap.size 1 (World.block_lt_of_cell? _ _ hc1)).trans hc1
  have HE2 := Bl.hid (HE1.out.trans (hE2.trans HX2.out))
  clear hE2
  go_wp2_with fail
  obtain ⟨W2, hW2⟩ : ∃ W2, W2 = w2.alloc (.cells #[.slice pu (Bl.tob (W ^ r)).length cu, .slice pv (Bl.tob (V ^ r)).length cv] 35) := ⟨_, rfl⟩
  have hB2 : w2.heap.size < W2.heap.size := by rw [hW2]; simp
  rw [← hW2] at HE2 hc0 hc1 hd0 hd1 Hu2 Hv2 ⊢
  clear hW2 HX2
  apply Bl.wp_region_evK (Bl.Ext) (fun _ _ _ => True) 7 [38, 39, 40, 41, 42, 43, 9] [Bl.eqv _, Bl.eqv _, (fun v w' => Bl.Rd w' .u8 v (Bl.tb W)), Bl.eqv _, Bl.eqv _, (fun v w' => Bl.Rd w' .u8 v (Bl.tb V)), (fun v w' => Bl.Rd w' .u8 v (Bl.tb W))] (fun w => Below.refl _ w) (fun a b c h k => Bl.Ext.trans h k) (by kernel_rfl) (by kernel_rfl) (by kernel_rfl) (by kernel_rfl)
  case hsteps =>
    refine ⟨?_, ?_, ?_, ?_, ?_, ?_, ?_, trivial⟩
    all_goals
      intro d ev w1 hext HJd Hanc Hdes hni hb hd
      replace Hanc := Bl.hid Hanc
      replace HJd := Bl.hid HJd
      replace Hdes := Bl.hid Hdes
      replace hni := Bl.hid hni
      have e3 := hb 3 (by decide)
      clear hb
      simp only [Array.getD_eq_getD_getElem?, List.getElem?_toArray, List.getElem?_cons_succ, List.getElem?_cons_zero, Option.getD_some] at e3
      simp only [Bl.DepsE2, List.getElem?_cons_succ, List.getElem?_cons_zero, Option.bind_some, List.getD_cons_succ, List.getD_cons_zero, Bl.eqv, and_true] at hd
      have hc := (Bl.bcell hext).1
      have hc0x := (hc _ 0 (World.block_lt_of_cell? _ _ hc0)).trans hc0
      have hc1x := (hc _ 1 (World.block_lt_of_cell? _ _ hc1)).trans hc1
      simp only [Region.wanted, if_true]
      go_simp
      first | (go_at_call 15; (with_reducible refine (HB1.out _ (HE2.out.trans hext)).mono ?_); rintro e w' ⟨v', rfl, h1, h2⟩; exact ⟨_, rfl, h2, h1⟩) | (go_at_call 15; (with_reducible refine (HB2.out _ (HE2.out.trans hext)).mono ?_); rintro e w' ⟨v', rfl, h1, h2⟩; exact ⟨_, rfl, h2, h1⟩) | exact ⟨Below.refl _ _, hd⟩ | exact ⟨Below.refl _ _, hd.1⟩ | exact ⟨Below.refl _ _, hd.2⟩ | exact ⟨Below.refl _ _, rfl⟩ | exact Below.refl _ _
  case hmono => exact ⟨Bl.monoR_eqv _, Bl.monoR_eqv _, (fun _ _ _ h k => Bl.Rd.ext h k), Bl.monoR_eqv _, Bl.monoR_eqv _, (fun _ _ _ h k => Bl.Rd.ext h k), (fun _ _ _ h k => Bl.Rd.ext h k), trivial⟩
  case hR0 => exact (Below.refl _ _).drew
  case hend =>
    intro u w1 hext hJ hend
    simp only [Bl.EndE, List.getElem?_cons_succ, List.getElem?_cons_zero, Option.bind_some, List.getD_cons_succ, List.getD_cons_zero, Bl.eqv, true_and] at hend
    simp only [Bl.fillAct, List.setIfInBounds_toArray, List.set_cons_succ, List.set_cons_zero, List.drop_succ_cons, List.drop_zero, hend]
    have H9 := hend.2
    have H43 := hend.1.2
    obtain ⟨p9, c9, e9, _, _⟩ := H9.form
    obtain ⟨p43, c43, e43, _, _⟩ := H43.form
    rw [e9] at H9
    rw [e43] at H43
    rw [e9, e43]
    have HR9 := Bl.hid H9
    have HR43 := Bl.hid H43
    have hc0 := ((Bl.bcell hext).1 _ 0 (World.block_lt_of_cell? _ _ hc0)).trans hc0
    have hc1 := ((Bl.bcell hext).1 _ 1 (World.block_lt_of_cell? _ _ hc1)).trans hc1
    have hd0 := ((Bl.bcell hext).1 _ 0 hB2).trans hd0
    have hd1 := ((Bl.bcell hext).1 _ 1 hB2).trans hd1
    have HX := Bl.hid hext
    have HE3 := Bl.hid (HE2.out.trans hext)
    have Hu3 := Bl.hid (Hu2.out.ext hext)
    have Hv3 := Bl.hid (Hv2.out.ext hext)
    clear hext hend e9 e43 H9 H43 hJ HX
    go_wp2_with fail
    have HP1 := Bl.hid (fun w2 (h : Bl.Ext w1 w2) => rpow_any (.slice p9 (Bl.tb W).length c9) W r 96 w2 (Bl.Rd.ext HR9.out h) (by have := HWl.out; omega) (by omega) (by omega))
    have HP2 := Bl.hid (fun w2 (h : Bl.Ext w1 w2) => rpow_any (.slice p43 (Bl.tb V).length c43) V r 96 w2 (Bl.Rd.ext HR43.out h) (by have := HVl.out; omega) (by omega) (by omega))
    have HS1 := Bl.hid (fun (u : Value) w2 (h : Bl.Ext w1 w2) (hu : Bl.Rd w2 .u8 u (Bl.tb (W ^ r))) => same_any (.slice pu (Bl.tob (W ^ r)).length cu) u (W ^ r) _ w2 (Bl.Rd.ext Hu3.out h) hu (by have := HPa.out; omega) (Bl.tb_bit _) (Bl.lb_tb _))
    have HS2 := Bl.hid (fun (u : Value) w2 (h : Bl.Ext w1 w2) (hu : Bl.Rd w2 .u8 u (Bl.tb (V ^ r))) => same_any (.slice pv (Bl.tob (V ^ r)).length cv) u (V ^ r) _ w2 (Bl.Rd.ext Hv3.out h) hu (by have := HPb.out; omega) (Bl.tb_bit _) (Bl.lb_tb _))
    clear Hu2 Hv2
    apply Bl.wp_region_ev 19 [65, 66, 67, 68, 69, 70, 71, 72, 73, 74, 75, 76, 77, 78, 79, 80, 81, 82, 83] [Bl.eqv _, Bl.eqv (.bool false), Bl.eqv (.bool false), Bl.eqv _, Bl.eqv (.slice pu (Bl.tob (W ^ r)).length cu), Bl.eqv _, Bl.eqv _, (fun v w' => Bl.Rd w' .u8 v (Bl.tb (W ^ r))), Bl.eqv (.bool true), Bl.eqv (.bool false), Bl.eqv (.bool false), Bl.eqv (.bool false), Bl.eqv _, Bl.eqv (.slice pv (Bl.tob (V ^ r)).length cv), Bl.eqv _, Bl.eqv _, (fun v w' => Bl.Rd w' .u8 v (Bl.tb (V ^ r))), Bl.eqv (.bool true), Bl.eqv (.bool false)] (by kernel_rfl) (by kernel_rfl) (by kernel_rfl) (by kernel_rfl)
    case hsteps =>
      refine ⟨?_, ?_, ?_, ?_, ?_, ?_, ?_, ?_, ?_, ?_, ?_, ?_, ?_, ?_, ?_, ?_, ?_, ?_, ?_, trivial⟩
      all_goals
        intro ev w1 hext hb hd
        have e1 := hb 1 (by decide)
        have e7 := hb 7 (by decide)
        have e8 := hb 8 (by decide)
        have e9 := hb 9 (by decide)
        have e10 := hb 10 (by decide)
        clear hb
        simp only [Array.getD_eq_getD_getElem?, List.getElem?_toArray, List.getElem?_cons_succ, List.getElem?_cons_zero, Option.getD_some] at e1 e7 e8 e9 e10
        simp only [Bl.DepsE, List.getElem?_cons_succ, List.getElem?_cons_zero, Option.bind_some, List.getD_cons_succ, List.getD_cons_zero, Bl.eqv, and_true] at hd
        have hc := (Bl.bcell hext).1
        have hd0x := (hc _ 0 (World.block_lt_of_cell? _ _ hd0)).trans hd0
        have hd1x := (hc _ 1 (World.block_lt_of_cell? _ _ hd1)).trans hd1
        simp only [Bl.Good, Region.wanted, Bl.yieldE, List.getElem?_cons_succ, List.getElem?_cons_zero, Option.bind_some, hd, beq_self_eq_true, if_true]
        go_simp
        first | (go_at_call 30; (with_reducible refine (HP1.out _ hext).mono ?_); rintro e w' ⟨v', rfl, h1, h2⟩; exact ⟨_, rfl, h2, h1⟩) | (go_at_call 30; (with_reducible refine (HP2.out _ hext).mono ?_); rintro e w' ⟨v', rfl, h1, h2⟩; exact ⟨_, rfl, h2, h1⟩) | (go_at_call 16; (with_reducible refine (HS1.out _ _ hext hd).mono ?_); rintro e w' ⟨rfl, h2⟩; exact ⟨_, rfl, h2, rfl⟩) | (go_at_call 16; (with_reducible refine (HS1.out _ _ hext hd.1).mono ?_); rintro e w' ⟨rfl, h2⟩; exact ⟨_, rfl, h2, rfl⟩) | (go_at_call 16; (with_reducible refine (HS1.out _ _ hext hd.2).mono ?_); rintro e w' ⟨rfl, h2⟩; exact ⟨_, rfl, h2, rfl⟩) | (go_at_call 16; (with_reducible refine (HS1.out _ _ hext hd.2.1).mono ?_); rintro e w' ⟨rfl, h2⟩; exact ⟨_, rfl, h2, rfl⟩) | (go_at_call 16; (with_reducible refine (HS1.out _ _ hext hd.2.2).mono ?_); rintro e w' ⟨rfl, h2⟩; exact ⟨_, rfl, h2, rfl⟩) | (go_at_call 16; (with_reducible refine (HS2.out _ _ hext hd).mono ?_); rintro e w' ⟨rfl, h2⟩; exact ⟨_, rfl, h2, rfl⟩) | (go_at_call 16; (with_reducible refine (HS2.out _ _ hext hd.1).mono ?_); rintro e w' ⟨rfl, h2⟩; exact ⟨_, rfl, h2, rfl⟩) | (go_at_call 16; (with_reducible refine (HS2.out _ _ hext hd.2).mono ?_); rintro e w' ⟨rfl, h2⟩; exact ⟨_, rfl, h2, rfl⟩) | (go_at_call 16; (with_reducible refine (HS2.out _ _ hext hd.2.1).mono ?_); rintro e w' ⟨rfl, h2⟩; exact ⟨_, rfl, h2, rfl⟩) | (go_at_call 16; (with_reducible refine (HS2.out _ _ hext hd.2.2).mono ?_); rintro e w' ⟨rfl, h2⟩; exact ⟨_, rfl, h2, rfl⟩) | exact ⟨Below.refl _ _, rfl⟩
    case hmono => exact ⟨Bl.mono_eqv _, (Bl.mono_eqv _), (Bl.mono_eqv _), Bl.mono_eqv _, (Bl.mono_eqv _), Bl.mono_eqv _, Bl.mono_eqv _, (fun _ _ _ h k => Bl.Rd.ext h k), (Bl.mono_eqv _), (Bl.mono_eqv _), (Bl.mono_eqv _), (Bl.mono_eqv _), Bl.mono_eqv _, (Bl.mono_eqv _), Bl.mono_eqv _, Bl.mono_eqv _, (fun _ _ _ h k => Bl.Rd.ext h k), (Bl.mono_eqv _), (Bl.mono_eqv _), trivial⟩
    case hend =>
      intro u w1 hext hend
      simp only [Bl.EndE, List.getElem?_cons_succ, List.getElem?_cons_zero, Option.bind_some, List.getD_cons_succ, List.getD_cons_zero, Bl.eqv, true_and] at hend
      simp only [Bl.fillAct, List.setIfInBounds_toArray, List.set_cons_succ, List.set_cons_zero, List.drop_succ_cons, List.drop_zero, hend]
      have hc0 := ((Bl.bcell hext).1 _ 0 (World.block_lt_of_cell? _ _ hc0)).trans hc0
      have hc1 := ((Bl.bcell hext).1 _ 1 (World.block_lt_of_cell? _ _ hc1)).trans hc1
      have HR9 := Bl.hid (Bl.Rd.ext HR9.out hext)
      have HR43 := Bl.hid (Bl.Rd.ext HR43.out hext)
      have HE4 := Bl.hid (HE3.out.trans hext)
      clear hext hend HP1 HP2 HS1 HS2 hd0 hd1
      go_wp2_with fail
      refine (HBl.out _ HE4.out).mono ?_
      rintro e w5 ⟨rfl, hE5⟩
      have HR9 := Bl.hid (Bl.Rd.ext HR9.out hE5)
      have HR43 := Bl.hid (Bl.Rd.ext HR43.out hE5)
      have HE5 := Bl.hid (HE4.out.trans hE5)
      clear hE5
      rw [Bl.less_not]
      have hLp : 0 < (Bl.tb W).length := List.length_pos_iff.2 (fun q => hz ((Bl.tb_nil_iff W).1 q))
      have hsh := Bl.tb_shift W (by omega) t
      have hLi : (0 : Int) < ((Bl.tb W).length : Int) := by omega
      obtain ⟨w6, hrun, hown6, hE6, hs6⟩ := Bl.make_ints (P := Tryd.prog) tB t (by omega) (by unfold maxLen; omega) w5
      have Hown := Bl.hid hown6
      have HRd := Bl.hid (Bl.Rd.ext HR9.out hE6)
      have HE6 := Bl.hid hE6
      have Hsh := Bl.hid hsh
      have HLb := Bl.hid (show (Bl.tb W).length ≤ 96 from HWl.out)
      clear hown6 hE6 hsh
      go_wp2_with (with_reducible refine Bl.stop_append ?_)
      clear hrun
      refine Bl.go_on ?_
      refine Bl.wpL_app tB Hown.out HRd.out rfl rfl (by simp) (Bl.ints_one _ _) (by have := HLb.out; unfold maxLen; omega) (by have := HLb.out; omega) (Nat.le_of_lt hs6) ?_
      intro p7 c7 w7 hown7 hg7 hB7 hK7 hn7 hc7
      have hR7 : Bl.Rd w7 .u8 (.slice p7 (t + (Bl.tb W).length) c7) (Bl.tb (2 ^ t * W)) := by
        have := Bl.Rds.of_owns hown7
        rw [← Bl.ints_append, ← Hsh.out] at this
        show Bl.Rds _ _ _ _
        rw [Hsh.out, List.length_append, List.length_replicate, ← Hsh.out]
        exact this
      have HR7 := Bl.hid hR7
      have HX7 := Bl.hid (Below.trans HE6.out hB7)
      have HE7 := Bl.hid (HE5.out.trans HX7.out)
      have HR43 := Bl.hid (Bl.Rd.ext HR43.out HX7.out)
      clear hR7 hown7 hg7 hB7 hK7 hn7
      go_wp2_with fail
      refine (rless_any (.slice p43 (Bl.tb V).length c43) _ V (2 ^ t * W) _ HR43.out HR7.out (by have := HVl.out; omega)).mono ?_
      rintro e w8 ⟨rfl, hE8⟩
      have HE8 := Bl.hid (HE7.out.trans hE8)
      clear hE8
      go_wp2_with fail
      go_ret
      exact ⟨by simp, HE8.out⟩
  case hJ0 => trivial

theorem odds_all (x y : Value) (la lb : List Int) (r t : Int) (S : List Nat) (ea : Nat → Addr) (w : World) (hS : ∀ i, 1 ≤ i → i ≤ 20 → i ∈ S) (He : Errs S ea w) (ha : Bl.Rd w .u8 x la) (hb : Bl.Rd w .u8 y lb) (hya : Bl.Byt la) (hyb : Bl.Byt lb) :
    Calls Tryd.prog 9 #[.agg #[x, y], .int .i64 r, .int .i64 t] w fun e w' => e = .returned (.bool true) ∧ Bl.Ext w w' := by
  by_cases h1 : (12 : Int) < (la.length : Int) ∨ ((la.length : Int) ≤ 12 ∧ (12 : Int) < (lb.length : Int)) ∨ ((la.length : Int) ≤ 12 ∧ (lb.length : Int) ≤ 12 ∧ 8 < r ∧ r ≤ 200)
  · exact odds_skip x y la lb r t w ha hb h1
  · by_cases h2 : 0 ≤ r ∧ r ≤ 8
    · obtain ⟨R, rfl⟩ := Int.eq_ofNat_of_zero_le h2.1
      by_cases h3 : 0 ≤ t ∧ t ≤ 512
      · obtain ⟨T, rfl⟩ := Int.eq_ofNat_of_zero_le h3.1
        by_cases hz : Bl.be la = 0
        · exact odds_in_zero x y la lb R T S ea w hS He ha hb hya hyb (by omega) (by omega) (by omega) (by omega) hz
        · exact odds_in_pos x y la lb R T S ea w hS He ha hb hya hyb (by omega) (by omega) (by omega) (by omega) hz
      · exact odds_in_err x y la lb R t S ea w hS He ha hb hya hyb (by omega) (by omega) (by omega) (by omega)
    · by_cases h3 : 0 ≤ t ∧ t ≤ 512
      · obtain ⟨T, rfl⟩ := Int.eq_ofNat_of_zero_le h3.1
        by_cases hz : Bl.be la = 0
        · exact odds_err_zero x y la lb r T S ea w hS He ha hb hya hyb (by omega) (by omega) (by omega) (by omega) hz
        · exact odds_err_pos x y la lb r T S ea w hS He ha hb hya hyb (by omega) (by omega) (by omega) (by omega) hz
      · exact odds_err_err x y la lb r t S ea w hS He ha hb hya hyb (by omega) (by omega) (by omega) (by omega)
end Go.Proofs.YtkndnmpdklidkaaDoor

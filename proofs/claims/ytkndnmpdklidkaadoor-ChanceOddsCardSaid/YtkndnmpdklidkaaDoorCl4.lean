/- Walk of the law ChanceNumbers. -/
import Derived.Test.YtkndnmpdklidkaaDoorCl1
import Derived.Test.YtkndnmpdklidkaaDoorRf4
import Derived.Test.YtkndnmpdklidkaaDoorEnC
namespace Go.Proofs.Bl
open Go Go.RowKit
/-- what baileenum.Bytes gives: the bytes, and the marks behind -/
theorem kept_of {w : World} {base g n c : Nat} {ty : TypeId} {a : List Int} (hn : a.length = n) (h : w.ownsRow base ty 1 (.slice (some ⟨g, 0, none⟩) (n + 6) c) (n + 6) (ints .u8 (a ++ marks))) :
    n + 6 ≤ c ∧ c ≤ maxLen ∧ w.rangeAt g 0 (ints .u8 (a ++ marks)) ∧ Rd w .u8 (.slice (some ⟨g, 0, none⟩) n c) a := by
  rcases Rds.of_owns h with ⟨_, h0, _⟩ | ⟨b, o, c', hv, h1, h2, h3⟩
  · omega
  · injection hv with q1 q2 q3
    injection q1 with q1
    injection q1 with q4 q5
    subst q3 q4 q5
    refine ⟨h1, h2, h3, .inr ⟨g, 0, c, by rw [hn], by omega, h2, fun j u hu => h3 j u ?_⟩⟩
    rw [ints_append, List.getElem?_append_left (List.getElem?_eq_some_iff.1 hu).1]; exact hu
theorem cmpn_eq (a : Nat) : cmpn a a = 0 := by unfold cmpn; rw [if_neg (Nat.lt_irrefl _), if_neg (Nat.lt_irrefl _)]
theorem cmpn_gt {a b : Nat} (h : b < a) : cmpn a b = 1 := by unfold cmpn; rw [if_neg (by omega), if_pos h]
theorem cmpn_lt {a b : Nat} (h : a < b) : cmpn a b = -1 := by unfold cmpn; rw [if_pos h]
theorem be24 (l : List Int) (h : Byt l) (hl : l.length ≤ 24) : be l < 256 ^ 24 := Nat.lt_of_lt_of_le (be_lt l h) (Nat.pow_le_pow_right (by decide) hl)
theorem tb_le {x k : Nat} (h : x < 256 ^ k) : (tb x).length ≤ 8 * k := tb_len_le _ _ (by rw [Nat.pow_mul]; exact h)
end Go.Proofs.Bl
namespace Go.Proofs.YtkndnmpdklidkaaDoor
open Go.RowKit Go.Proofs

set_option maxRecDepth 100000 in
theorem numbers_skip (va vb : Value) (a b : List Int) (w : World) (ha : Bl.Rd w .u8 va a) (hb : Bl.Rd w .u8 vb b) (h : (24 : Int) < (a.length : Int) ∨ ((a.length : Int) ≤ 24 ∧ (24 : Int) < (b.length : Int))) :
    Calls Tryd.prog 8 #[va, vb] w fun e w' => e = .returned (.bool true) ∧ Bl.Ext w w' := by
  obtain ⟨p, c, hvf, _, _⟩ := ha.form
  obtain ⟨N, hN⟩ : ∃ N, N = a.length := ⟨_, rfl⟩
  rw [← hN] at hvf h
  subst hvf
  obtain ⟨q, d, hvf, _, _⟩ := hb.form
  obtain ⟨M, hM⟩ : ∃ M, M = b.length := ⟨_, rfl⟩
  rw [← hM] at hvf h
  subst hvf
  clear ha hN hb hM
  rcases h with h1 | ⟨h1, h2⟩
  all_goals
    go_enter Tryd.func8, Tryd.ntmps8
    go_wp2_with fail
    refine (alive37 _).mono ?_
    rintro e w1 ⟨rfl, hE1⟩
    have HE1 := Bl.hid hE1
    clear hE1
    go_wp2_with fail
    go_ret
    exact ⟨rfl, HE1.out⟩

/-- what the law's first half has shown, when it stands before the orders -/
theorem trim_tob (v : Value) (l : List Int) (w : World) (h : Bl.Rd w .u8 v l) (hl : l.length ≤ 1000000) (hy : Bl.Byt l) :
    Calls Tryd.prog 23 #[v] w fun e w' => ∃ v', e = .returned v' ∧ Bl.Rd w' .u8 v' (Bl.tob (Bl.be l)) ∧ Bl.Ext w w' := by
  have h := trim_any v l w h (by omega)
  rw [Bl.trimz_eq l hy] at h
  exact h.mono fun e w' ⟨v', h1, h2, h3⟩ => ⟨v', h1, Bl.Rds.of_owns h2, h3⟩
theorem add_rd (va vb : Value) (a b : List Int) (w : World) (ha : Bl.Rd w .u8 va a) (hb : Bl.Rd w .u8 vb b) (hla : a.length ≤ 1000000) (hlb : b.length ≤ 1000000) (hya : Bl.Byt a) (hyb : Bl.Byt b) :
    Calls Tryd.prog 24 #[va, vb] w fun e w' => ∃ v', e = .returned v' ∧ Bl.Rd w' .u8 v' (Bl.tob (Bl.be a + Bl.be b)) ∧ Bl.Ext w w' :=
  (add_any va vb a b w ha hb hla hlb hya hyb).mono fun e w' ⟨v', h1, h2, h3⟩ => ⟨v', h1, Bl.Rds.of_owns h2, h3⟩
theorem mul_rd (va vb : Value) (a b : List Int) (w : World) (ha : Bl.Rd w .u8 va a) (hb : Bl.Rd w .u8 vb b) (hla : a.length ≤ 100000) (hlb : b.length ≤ 100000) (hya : Bl.Byt a) (hyb : Bl.Byt b) :
    Calls Tryd.prog 25 #[va, vb] w fun e w' => ∃ v', e = .returned v' ∧ Bl.Rd w' .u8 v' (Bl.tob (Bl.be a * Bl.be b)) ∧ Bl.Ext w w' :=
  (mul_any va vb a b w ha hb hla hlb hya hyb).mono fun e w' ⟨v', h1, h2, h3⟩ => ⟨v', h1, Bl.Rds.of_owns h2, h3⟩

/-- the calls that all three orders make, as contracts over every later world -/
structure NumC (w0 : World) (vx vy va vb vp vq : Value) (A B : Nat) : Prop where
  tx : ∀ w, Bl.Ext w0 w → Calls Tryd.prog 23 #[vx] w fun e w' => ∃ v', e = .returned v' ∧ Bl.Rd w' .u8 v' (Bl.tob A) ∧ Bl.Ext w w'
  ad : ∀ w, Bl.Ext w0 w → Calls Tryd.prog 24 #[vx, vy] w fun e w' => ∃ v', e = .returned v' ∧ Bl.Rd w' .u8 v' (Bl.tob (A + B)) ∧ Bl.Ext w w'
  mu : ∀ w, Bl.Ext w0 w → Calls Tryd.prog 25 #[vx, vy] w fun e w' => ∃ v', e = .returned v' ∧ Bl.Rd w' .u8 v' (Bl.tob (A * B)) ∧ Bl.Ext w w'
  ra : ∀ w, Bl.Ext w0 w → Calls Tryd.prog 13 #[vp, vq] w fun e w' => ∃ v', e = .returned v' ∧ Bl.Rd w' .u8 v' (Bl.tb (A + B)) ∧ Bl.Ext w w'
  rm : ∀ w, Bl.Ext w0 w → Calls Tryd.prog 14 #[vp, vq] w fun e w' => ∃ v', e = .returned v' ∧ Bl.Rd w' .u8 v' (Bl.tb (A * B)) ∧ Bl.Ext w w'
  l1 : ∀ w, Bl.Ext w0 w → Calls Tryd.prog 26 #[vp, vq] w fun e w' => e = .returned (.bool (decide (A < B))) ∧ Bl.Ext w w'
  l2 : ∀ w, Bl.Ext w0 w → Calls Tryd.prog 26 #[vq, vp] w fun e w' => e = .returned (.bool (decide (B < A))) ∧ Bl.Ext w w'
  cm : ∀ w, Bl.Ext w0 w → Calls Tryd.prog 21 #[vx, vy] w fun e w' => e = .returned (.int .i64 (Bl.cmpn A B)) ∧ Bl.Ext w w'
  kx : ∀ w, Bl.Ext w0 w → Calls Tryd.prog 28 #[vx, va] w fun e w' => e = .returned (.bool true) ∧ Bl.Ext w w'
  ky : ∀ w, Bl.Ext w0 w → Calls Tryd.prog 28 #[vy, vb] w fun e w' => e = .returned (.bool true) ∧ Bl.Ext w w'
  slt : A < B → ∀ (er : Addr) w, Bl.Ext w0 w → w.cell? ⟨0, 0, none⟩ = some (.iface 97 (.pointer (some er))) → Calls Tryd.prog 27 #[vx, vy] w fun e w' => e = .returned (.tuple #[.slice none 0 0, .iface 97 (.pointer (some er))]) ∧ Bl.Ext w w'
  sge : B ≤ A → ∀ w, Bl.Ext w0 w → Calls Tryd.prog 27 #[vx, vy] w fun e w' => ∃ v', e = .returned (.tuple #[v', .nilIface]) ∧ Bl.Rd w' .u8 v' (Bl.tob (A - B)) ∧ Bl.Ext w w'
  rp : Bl.Rd w0 .u8 vp (Bl.tb A)
  rq : Bl.Rd w0 .u8 vq (Bl.tb B)
  A24 : A < 256 ^ 24
  B24 : B < 256 ^ 24

theorem numC (w0 : World) (va vb vp vq : Value) (gx cx gy cy : Nat) (a b : List Int) (ha : Bl.Rd w0 .u8 va a) (hb : Bl.Rd w0 .u8 vb b) (hya : Bl.Byt a) (hyb : Bl.Byt b) (hla : a.length ≤ 24) (hlb : b.length ≤ 24)
    (hx : w0.rangeAt gx 0 (Bl.ints .u8 (a ++ Bl.marks)) ∧ a.length + 6 ≤ cx ∧ cx ≤ maxLen ∧ Bl.Rd w0 .u8 (.slice (some ⟨gx, 0, none⟩) a.length cx) a)
    (hy : w0.rangeAt gy 0 (Bl.ints .u8 (b ++ Bl.marks)) ∧ b.length + 6 ≤ cy ∧ cy ≤ maxLen ∧ Bl.Rd w0 .u8 (.slice (some ⟨gy, 0, none⟩) b.length cy) b)
    (hp : Bl.Rd w0 .u8 vp (Bl.tb (Bl.be a))) (hq : Bl.Rd w0 .u8 vq (Bl.tb (Bl.be b))) :
    NumC w0 (.slice (some ⟨gx, 0, none⟩) a.length cx) (.slice (some ⟨gy, 0, none⟩) b.length cy) va vb vp vq (Bl.be a) (Bl.be b) := by
  have hA := Bl.be24 a hya hla
  have hB := Bl.be24 b hyb hlb
  have la := Bl.tb_le hA
  have lb := Bl.tb_le hB
  obtain ⟨x1, x2, x3, x4⟩ := hx
  obtain ⟨y1, y2, y3, y4⟩ := hy
  refine ⟨fun w h => ?_, fun w h => ?_, fun w h => ?_, fun w h => ?_, fun w h => ?_, fun w h => ?_, fun w h => ?_, fun w h => ?_, fun w h => ?_, fun w h => ?_, fun hlt er w h hc => ?_, fun hge w h => ?_, hp, hq, hA, hB⟩
  · exact trim_tob _ a w (x4.ext h) (by omega) hya
  · exact add_rd _ _ a b w (x4.ext h) (y4.ext h) (by omega) (by omega) hya hyb
  · exact mul_rd _ _ a b w (x4.ext h) (y4.ext h) (by omega) (by omega) hya hyb
  · have := radd_any vp vq _ _ w (hp.ext h) (hq.ext h) (by omega) (by omega) (Bl.tb_bit _) (Bl.tb_bit _)
    rwa [Bl.lb_tb, Bl.lb_tb] at this
  · have := rmul_any vp vq _ _ w (hp.ext h) (hq.ext h) (by omega) (by omega) (Bl.tb_bit _) (Bl.tb_bit _)
    rwa [Bl.lb_tb, Bl.lb_tb] at this
  · exact rless_any vp vq _ _ w (hp.ext h) (hq.ext h) (by omega)
  · exact rless_any vq vp _ _ w (hq.ext h) (hp.ext h) (by omega)
  · exact compare_any _ _ a b w (x4.ext h) (y4.ext h) (by omega) (by omega) hya hyb
  · exact ekept_any gx cx va a w x2 x3 (Bl.rangeAt_ext x1 h) (ha.ext h) (by omega)
  · exact ekept_any gy cy vb b w y2 y3 (Bl.rangeAt_ext y1 h) (hb.ext h) (by omega)
  · exact sub_lt _ _ a b er w (x4.ext h) (y4.ext h) (by omega) (by omega) hya hyb hlt hc
  · exact sub_ge _ _ a b w (x4.ext h) (y4.ext h) (by omega) (by omega) hya hyb hge
end Go.Proofs.YtkndnmpdklidkaaDoor

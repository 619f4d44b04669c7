/- Walk of package chance: Odds.Below. -/
import Derived.Test.YtkndnmpdklidkaaDoorCh8
namespace Go.Proofs.Bl
open Go
theorem cmpn_le (a b : Nat) : decide (cmpn a b ≤ 0) = decide (a ≤ b) := by
  rw [Bool.eq_iff_iff, decide_eq_true_iff, decide_eq_true_iff]
  unfold cmpn
  split
  · omega
  · split <;> omega
end Go.Proofs.Bl
namespace Go.Proofs.YtkndnmpdklidkaaDoor
open Go.RowKit Go.Proofs

set_option maxRecDepth 100000 in
theorem below_err1 (x y : Value) (t : Int) (a : Addr) (w : World) (ht : 512 < t) (hF : w.cell? ⟨0, 0, none⟩ = some (.iface 97 (.pointer (some a)))) :
    Calls Tryd.prog 31 #[.agg #[x, y], .int .i64 t] w fun e w' => e = .returned (.tuple #[.bool false, .iface 97 (.pointer (some a))]) ∧ Bl.Ext w w' := by
  have hF2 : (w.alloc (.cells #[x, y] 35)).cell? ⟨0, 0, none⟩ = some (.iface 97 (.pointer (some a))) := ((Bl.bcell (Bl.ext_alloc w _)).1 _ 0 (World.block_lt_of_cell? _ _ hF)).trans hF
  have HE : Hid (Bl.Ext w (w.alloc (.cells #[x, y] 35))) := Bl.hid (Bl.ext_alloc _ _)
  go_enter Tryd.func31, Tryd.ntmps31
  go_wp2_with fail
  go_quiet (fail)
  go_wp2_with fail
  go_ret2
  exact ⟨rfl, HE.out.drewN _⟩

set_option maxRecDepth 100000 in
theorem below_err2 (x y : Value) (t : Int) (a : Addr) (w : World) (ht : t < 0) (hF : w.cell? ⟨0, 0, none⟩ = some (.iface 97 (.pointer (some a)))) :
    Calls Tryd.prog 31 #[.agg #[x, y], .int .i64 t] w fun e w' => e = .returned (.tuple #[.bool false, .iface 97 (.pointer (some a))]) ∧ Bl.Ext w w' := by
  have hF2 : (w.alloc (.cells #[x, y] 35)).cell? ⟨0, 0, none⟩ = some (.iface 97 (.pointer (some a))) := ((Bl.bcell (Bl.ext_alloc w _)).1 _ 0 (World.block_lt_of_cell? _ _ hF)).trans hF
  have HE : Hid (Bl.Ext w (w.alloc (.cells #[x, y] 35))) := Bl.hid (Bl.ext_alloc _ _)
  have Hd := Bl.hid (double_err x t a _ (.inl ht) hF2)
  clear hF hF2
  go_enter Tryd.func31, Tryd.ntmps31
  go_wp2_with fail
  refine Hd.out.mono ?_
  rintro e w1 ⟨rfl, hE1⟩
  have HE1 := Bl.hid (HE.out.trans hE1)
  clear hE1
  go_wp2_with fail
  go_ret2
  exact ⟨rfl, HE1.out⟩

/-- (Odds).Below out of its range -/
theorem below_err (x y : Value) (t : Int) (a : Addr) (w : World) (ht : t < 0 ∨ 512 < t) (hF : w.cell? ⟨0, 0, none⟩ = some (.iface 97 (.pointer (some a)))) :
    Calls Tryd.prog 31 #[.agg #[x, y], .int .i64 t] w fun e w' => e = .returned (.tuple #[.bool false, .iface 97 (.pointer (some a))]) ∧ Bl.Ext w w' := by
  rcases ht with h | h
  · exact below_err2 x y t a w h hF
  · exact below_err1 x y t a w h hF

set_option maxRecDepth 100000 in
/-- (Odds).Below within its range -/
theorem below_any (x y : Value) (la lb : List Int) (t : Nat) (w : World) (ht : t ≤ 512) (ha : Bl.Rd w .u8 x la) (hb : Bl.Rd w .u8 y lb) (hla : la.length ≤ 90000) (hlb : lb.length ≤ 90000) (hya : Bl.Byt la) (hyb : Bl.Byt lb) :
    Calls Tryd.prog 31 #[.agg #[x, y], .int .i64 t] w fun e w' => e = .returned (.tuple #[.bool (decide (Bl.be la * 2 ^ t ≤ Bl.be lb)), .nilIface]) ∧ Bl.Ext w w' := by
  have HE : Hid (Bl.Ext w (w.alloc (.cells #[x, y] 35))) := Bl.hid (Bl.ext_alloc _ _)
  have Hd := Bl.hid (double_any x la t _ (ha.ext HE.out) hla hya (by omega))
  have Hb := Bl.hid (hb.ext HE.out)
  have ht1 : (t : Int) ≤ 512 := by omega
  have c1 : ∀ w2, Bl.Ext (w.alloc (.cells #[x, y] 35)) w2 → w2.cell? ⟨w.heap.size, 1, none⟩ = some y := fun w2 h2 => ((Bl.bcell h2).1 _ 1 (by simp)).trans (World.cell?_alloc_new _ _ _ 1)
  have C1 := Bl.hid c1
  have hcn := Bl.hid (Bl.cmpn_le (Bl.be la * 2 ^ t) (Bl.be lb))
  have hlen : (Bl.tob (Bl.be la * 2 ^ t)).length ≤ 100000 := by
    obtain ⟨K, hK⟩ : ∃ K, K = 64 := ⟨_, rfl⟩
    refine Nat.le_trans (Bl.tob_len_le (la.length + K) _ ?_) (by omega)
    have h1 := Bl.be_lt la hya
    have h2 : 2 ^ t ≤ 256 ^ K := by rw [show (256 : Nat) = 2 ^ 8 from rfl, ← Nat.pow_mul]; exact Nat.pow_le_pow_right (by decide) (by omega)
    rw [Nat.pow_add]
    exact Nat.mul_lt_mul_of_lt_of_le h1 h2 (Nat.pow_pos (by decide))
  have Hlen := Bl.hid hlen
  have Hyb := Bl.hid hyb
  clear ha hb hlen c1 hya hyb
  go_enter Tryd.func31, Tryd.ntmps31
  go_wp2_with fail
  refine Hd.out.mono ?_
  rintro e w1 ⟨v1, rfl, h1, hE1⟩
  have hc1 := C1.out w1 hE1
  have H1 := Bl.hid h1
  have HE1 := Bl.hid (HE.out.trans hE1)
  have Hb1 := Bl.hid (Bl.Rd.ext Hb.out hE1)
  clear hE1 h1
  go_wp2_with fail
  refine (compare_any v1 y _ lb _ H1.out Hb1.out (by have := Hlen.out; omega) (by omega) (Bl.tob_byt _) Hyb.out).mono ?_
  rintro e w2 ⟨rfl, hE2⟩
  rw [Bl.be_tob]
  have HE2 := Bl.hid (HE1.out.trans hE2)
  obtain ⟨cv, hcv⟩ : ∃ cv, cv = Bl.cmpn (Bl.be la * 2 ^ t) (Bl.be lb) := ⟨_, rfl⟩
  rw [← hcv] at hcn ⊢
  clear hE2 hcv
  go_wp2_with fail
  go_ret2
  exact ⟨by rw [hcn.out]; rfl, HE2.out⟩
end Go.Proofs.YtkndnmpdklidkaaDoor

/- Walk of sha.Hex. -/
import Derived.Test.YtdodgcapihfkkaaDoorWSha8
import Derived.Test.YtdodgcapihfkkaaDoorStr
import Derived.Test.YtdodgcapihfkkaaDoorQuietT
import Derived.Test.YtdodgcapihfkkaaDoorBase2
namespace Go.Proofs.Bl
open Go
/-- a figure's byte -/
def fig (x : Int) : Int := ([48, 49, 50, 51, 52, 53, 54, 55, 56, 57, 97, 98, 99, 100, 101, 102] : List Int).getD x.toNat 0
/-- a byte's two figures -/
def hex2 (x : Int) : List Int := [fig (x / 16), fig (x % 16)]
def hexs (l : List Int) : List Int := l.flatMap hex2
theorem hexs_length (l : List Int) : (hexs l).length = 2 * l.length := by
  induction l with
  | nil => rfl
  | cons x r ih =>
    show (hex2 x ++ hexs r).length = _
    rw [List.length_append, ih]; simp [hex2]; omega
theorem hexs_take (l : List Int) (k : Nat) (h : k < l.length) : hexs (l.take (k + 1)) = hexs (l.take k) ++ hex2 (l.getD k 0) := by
  unfold hexs
  rw [List.take_succ_eq_append_getElem h, List.flatMap_append, List.getD_eq_getElem?_getD, List.getElem?_eq_getElem h]
  simp
theorem and15 (x : Int) (h0 : 0 ≤ x) (h1 : x ≤ 255) : bits .and .u8 x 15 = x % 16 := by
  have h := bits_mask .u8 8 (by decide) wraps_u8 4 (by decide) x h0 (by omega)
  rw [show (2 : Int) ^ 4 - 1 = 15 from rfl, show (2 : Int) ^ 4 = 16 from rfl] at h
  exact h
theorem fig_nat (n : Nat) (h : n < (⟨#[48, 49, 50, 51, 52, 53, 54, 55, 56, 57, 97, 98, 99, 100, 101, 102]⟩ : ByteArray).size) : (((⟨#[48, 49, 50, 51, 52, 53, 54, 55, 56, 57, 97, 98, 99, 100, 101, 102]⟩ : ByteArray)[n]'h).toNat : Int) = ([48, 49, 50, 51, 52, 53, 54, 55, 56, 57, 97, 98, 99, 100, 101, 102] : List Int).getD n 0 := by
  have h2 : n < 16 := h
  have h3 : n = 0 ∨ n = 1 ∨ n = 2 ∨ n = 3 ∨ n = 4 ∨ n = 5 ∨ n = 6 ∨ n = 7 ∨ n = 8 ∨ n = 9 ∨ n = 10 ∨ n = 11 ∨ n = 12 ∨ n = 13 ∨ n = 14 ∨ n = 15 := by omega
  rcases h3 with rfl | rfl | rfl | rfl | rfl | rfl | rfl | rfl | rfl | rfl | rfl | rfl | rfl | rfl | rfl | rfl <;> rfl
theorem hex2_at (x : Int) (h : (x / 16).toNat < (⟨#[48, 49, 50, 51, 52, 53, 54, 55, 56, 57, 97, 98, 99, 100, 101, 102]⟩ : ByteArray).size) (k : (x % 16).toNat < (⟨#[48, 49, 50, 51, 52, 53, 54, 55, 56, 57, 97, 98, 99, 100, 101, 102]⟩ : ByteArray).size) :
    hex2 x = [(((⟨#[48, 49, 50, 51, 52, 53, 54, 55, 56, 57, 97, 98, 99, 100, 101, 102]⟩ : ByteArray)[(x / 16).toNat]'h).toNat : Int), (((⟨#[48, 49, 50, 51, 52, 53, 54, 55, 56, 57, 97, 98, 99, 100, 101, 102]⟩ : ByteArray)[(x % 16).toNat]'k).toNat : Int)] := by
  rw [fig_nat, fig_nat]; rfl
theorem rds_two (w : World) (e : TypeId) (a b : Int) (l : List Int) (h : l = [a, b]) : Rds (w.alloc (.cells #[.int .u8 a, .int .u8 b] e)) (.slice (some ⟨w.heap.size, 0, none⟩) 2 2) 2 (ints .u8 l) := by
  subst h; exact rds_lit w e .u8 [a, b] (show 2 ≤ maxLen from by decide)
end Go.Proofs.Bl
namespace Go.Proofs.YtdodgcapihfkkaaDoor
open Go.RowKit Go.Proofs

set_option maxRecDepth 100000 in
set_option maxHeartbeats 1000000 in
theorem hex_any (d : List Int) (w : World) (hl : d.length = 32) (hby : Bl.Byt d) :
    Calls Tryd.prog 40 #[.agg (Bl.ints .u8 d).toArray] w fun e w' => e = .returned (.string (Bl.bstr (Bl.hexs d))) ∧ Bl.Ext w w' := by
  have Hby := Bl.hid hby
  have Hl := Bl.hid hl
  clear hby hl
  go_enter Tryd.func40, Tryd.ntmps40
  have hr : (w.alloc (.cells (Bl.ints .u8 d).toArray 28)).rangeAt w.heap.size 0 (Bl.ints .u8 d) := fun j v hv => by
    rw [Nat.zero_add, World.cell?_alloc_new]; simpa using hv
  have Hld := Bl.hid (Bl.load_ints (P := Tryd.prog) (ty := 28) hr Tryd.underlying28 (by kernel_rfl) Hl.out)
  have hE0 : Bl.Ext w (w.alloc (.cells (Bl.ints .u8 d).toArray 28)) := Bl.ext_alloc _ _
  clear hr
  go_wp2_with ((with_reducible refine Bl.wpL_load ?_ Hld.out ?_); rfl)
  clear Hld
  go_loopw [3, 7] (fun e i wr => ∃ (k c : Nat) (p : Option Addr), i = .int .i64 k ∧ k ≤ 32 ∧ e = .slice p (2 * k) c ∧ wr.ownsRow w.heap.size 5 1 (.slice p (2 * k) c) (2 * k) (Bl.ints .u8 (Bl.hexs (d.take k))) ∧ Bl.Ext w wr) (fun _ i _ => 32 - (intOf i).toNat)
  case atStart => exact ⟨0, 0, none, rfl, by omega, rfl, ⟨rfl, .inl ⟨rfl, rfl⟩⟩, hE0⟩
  case round =>
    obtain ⟨k, c, p, rfl, hk, rfl, ho, hE⟩ := hrel
    clear hE0
    by_cases hlt : k < 32
    · obtain ⟨x, hx⟩ : ∃ x, x = d.getD k 0 := ⟨_, rfl⟩
      obtain ⟨hx0, hx1⟩ : 0 ≤ x ∧ x ≤ 255 := by rw [hx]; exact Hby.out.get _
      have hix := Bl.index_ints (P := Tryd.prog) (w := wr) (ty := 28) (k := .u8) (l := d) (i := k) Tryd.underlying28 (fun w => by simp [go_sem]) (fun w => by simp [go_sem]) Hl.out hlt
      rw [← hx] at hix
      have Hix := Bl.hid hix
      have Hx := Bl.hid hx
      have Ho := Bl.hid ho
      have HE := Bl.hid hE
      have hb1 : (0 : Int) ≤ x / 16 := by omega
      have hb2 : x / 16 < 16 := by omega
      have hba : bits .and .u8 x 15 = x % 16 := Bl.and15 x hx0 hx1
      have hb3 : (0 : Int) ≤ x % 16 := by omega
      have hb4 : x % 16 < 16 := by omega
      clear hix hx ho hE
      go_wp2_with ((with_reducible refine Bl.wpL_index (p := .agg (Bl.ints .u8 d).toArray) (v := .int .i64 k) ?_ ?_ Hix.out ?_); rfl; rfl)
      apply Bl.wp_region_ev 8 [10, 11, 12, 13, 14, 15, 16, 17] [Bl.eqv _, Bl.eqv _, Bl.eqv _, Bl.eqv _, Bl.eqv _, Bl.eqv _, Bl.eqv _, (fun v w' => Bl.Rds w' v 2 (Bl.ints .u8 (Bl.hex2 x)))] (by kernel_rfl) (by kernel_rfl) (by kernel_rfl) (by kernel_rfl)
      case hsteps =>
        refine ⟨?_, ?_, ?_, ?_, ?_, ?_, ?_, ?_, trivial⟩
        all_goals
          intro ev w1 hext hb hd
          have e3 := hb 3 (by decide)
          have e5 := hb 5 (by decide)
          clear hb
          simp only [Array.getD_eq_getD_getElem?, List.getElem?_toArray, List.getElem?_cons_succ, List.getElem?_cons_zero, Option.getD_some] at e3 e5
          simp only [Bl.DepsE, List.getElem?_cons_succ, List.getElem?_cons_zero, Option.bind_some, List.getD_cons_succ, List.getD_cons_zero, Bl.eqv, and_true] at hd
          have hc := (Bl.bcell hext).1
          simp only [Bl.Good, Region.wanted, if_true]
          go_simp
          first | exact ⟨Bl.ext_alloc _ _, Bl.rds_two _ _ _ _ _ (Bl.hex2_at x _ _)⟩ | exact ⟨Below.refl _ _, rfl⟩
      case hmono => exact ⟨Bl.mono_eqv _, Bl.mono_eqv _, Bl.mono_eqv _, Bl.mono_eqv _, Bl.mono_eqv _, Bl.mono_eqv _, Bl.mono_eqv _, (fun _ _ _ h k => Bl.Rds.ext h k), trivial⟩
      case hend =>
        intro u w1 hext hend
        simp only [Bl.EndE, List.getElem?_cons_succ, List.getElem?_cons_zero, Option.bind_some, List.getD_cons_succ, List.getD_cons_zero, Bl.eqv, true_and] at hend
        simp only [Bl.fillAct, List.setIfInBounds_toArray, List.set_cons_succ, List.set_cons_zero, List.drop_succ_cons, List.drop_zero, hend]
        replace hend := hend.2
        obtain ⟨q, cq, hq, _, _⟩ := hend.form
        have HN := Bl.hid hend
        rw [hq] at HN ⊢
        have Ho2 := Bl.hid (Bl.owns_ext Ho.out hext)
        have HE2 := Bl.hid (Bl.Ext.trans HE.out hext)
        have hsz := HE2.out.size
        clear hend hext hq
        go_wp2_with (with_reducible refine Bl.stop_append ?_)
        refine Bl.go_on ?_
        refine Bl.wpL_app tBytes Ho2.out HN.out rfl rfl (by simp [Bl.hex2]) (Bl.ints_one _ _) (by unfold maxLen; omega) (by omega) hsz ?_
        intro p1 c1 w2 hown hg hB hK hn hc
        go_wp2_with fail
        go_roundw
        case rel =>
          refine ⟨k + 1, c1, p1, by go_num, by omega, rfl, ?_, Below.trans HE2.out hB⟩
          rw [Bl.hexs_take d k (by rw [Hl.out]; exact hlt), ← Hx.out, Bl.ints_append]
          exact hown
        case measure => simp [intOf]; omega
    · obtain rfl : k = 32 := by omega
      rw [List.take_of_length_le (by rw [Hl.out]; exact Nat.le_refl _)] at ho
      have h1 : Bl.Rd wr .u8 (.slice p 64 c) (Bl.hexs d) := by
        have h := Bl.Rds.of_owns ho
        show Bl.Rds _ _ _ _
        rw [Bl.hexs_length, Hl.out]; exact h
      have hcv := Bl.conv_bytes (P := Tryd.prog) (src := 24) (dst := 9) h1 Tryd.underlying24 Tryd.underlying5 Tryd.underlying9
      have HE := Bl.hid hE
      clear h1 ho hE
      go_wp2
      go_ret
      exact ⟨rfl, HE.out⟩
end Go.Proofs.YtdodgcapihfkkaaDoor

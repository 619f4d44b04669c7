/- Walks of package chance: Trim, low, laid, small, one; of bytes.TrimLeft, slices.Reverse. -/
import Derived.Test.YtkndnmpdklidkaaDoorLibB
import Derived.RegionTactic
import Derived.BigRegion
namespace Go.Proofs.YtkndnmpdklidkaaDoor
open Go.RowKit Go.Proofs

set_option maxRecDepth 100000 in
set_option maxHeartbeats 400000 in
theorem trimL_any (v : Value) (l : List Int) (w : World) (h : Bl.Rd w .u8 v l) (hl : l.length ≤ 1099511627776) :
    Calls Tryd.prog 43 #[v, .string ⟨#[0]⟩] w fun e w' => ∃ v', e = .returned v' ∧ Bl.Rd w .u8 v' (Bl.trimz l) ∧ w = w' := by
  obtain ⟨p, c, hvf, hvn, hvc⟩ := h.form
  have H := Bl.hid h
  clear h
  subst hvf
  cases l with
  | nil =>
    simp only [List.length_nil] at *
    go_enter Tryd.func43, Tryd.ntmps43
    go_wp2_with fail
    go_ret
    exact ⟨_, rfl, Bl.Rd.nil _ _, rfl⟩
  | cons x r =>
    have hc := fun w' => trimLB_any (.slice p (x :: r).length c) (x :: r) w'
    simp only [List.length_cons] at *
    go_enter Tryd.func43, Tryd.ntmps43
    go_wp2_with fail
    refine (hc _ H.out hl).mono ?_
    rintro e w' ⟨v', rfl, h1, rfl⟩
    have H1 := Bl.hid h1
    clear h1
    go_wp2_with fail
    go_ret
    exact ⟨_, rfl, H1.out, rfl⟩

set_option maxRecDepth 100000 in
set_option maxHeartbeats 400000 in
/-- chance.Trim: the number's bytes without noughts ahead, in a row of its own -/
theorem trim_any (v : Value) (l : List Int) (w : World) (h : Bl.Rd w .u8 v l) (hl : l.length ≤ 1099511627776) :
    Calls Tryd.prog 23 #[v] w fun e w' => ∃ v', e = .returned v' ∧ w'.ownsRow w.heap.size 5 1 v' (Bl.trimz l).length (Bl.ints .u8 (Bl.trimz l)) ∧ Bl.Ext w w' := by
  have H := Bl.hid h
  clear h
  go_enter Tryd.func23, Tryd.ntmps23
  go_wp2_with fail
  refine (trimL_any v l _ H.out hl).mono ?_
  rintro e w' ⟨v', rfl, h1, rfl⟩
  have H1 := Bl.hid h1
  clear h1
  go_wp2_with fail
  have := Bl.trimz_len l
  refine (clB_any v' (Bl.trimz l) _ H1.out (by omega)).mono ?_
  rintro e w' ⟨v2, rfl, h2, h3⟩
  have H2 := Bl.hid h2
  have H3 := Bl.hid h3
  clear h2 h3
  go_wp2_with fail
  go_ret
  exact ⟨_, rfl, H2.out, H3.out⟩

set_option maxRecDepth 100000 in
set_option maxHeartbeats 400000 in
/-- chance.low: byte number i from the low end -/
theorem low_any (v : Value) (l : List Int) (i : Nat) (w : World) (h : Bl.Rd w .u8 v l) (hl : l.length ≤ 1099511627776) (hi : i ≤ 1099511627776) (hby : Bl.Byt l) :
    Calls Tryd.prog 44 #[v, .int .i64 i] w fun e w' => e = .returned (.int .i64 (l.reverse.getD i 0)) ∧ w = w' := by
  obtain ⟨p, c, hvf, hvn, hvc⟩ := h.form
  have H := Bl.hid h
  clear h
  subst hvf
  unfold maxLen at hvc
  by_cases hlt : i < l.length
  · obtain ⟨b, o, c', hqe, hnc, hcm, hlb, hra, hget⟩ := H.out.pos (by omega)
    cases hqe
    have hc := hget (l.length - 1 - i) (by omega)
    have hrev : l.reverse.getD i 0 = l.getD (l.length - 1 - i) 0 := by
      rw [List.getD_eq_getElem?_getD, List.getD_eq_getElem?_getD, List.getElem?_reverse (by omega)]
    have hb := hby.get (l.length - 1 - i)
    obtain ⟨x, hx⟩ : ∃ x, x = l.getD (l.length - 1 - i) 0 := ⟨_, rfl⟩
    rw [← hx] at hc hrev hb
    have Hrev := Bl.hid hrev
    clear hrev hx hget hra
    obtain ⟨b0, b1⟩ := hb
    have e1 : ((l.length : Int) - 1 - (i : Int)).toNat = l.length - 1 - i := by omega
    have e2 : (0 : Int) ≤ (l.length : Int) - 1 - (i : Int) := by omega
    have e3 : (l.length : Int) - 1 - (i : Int) < (l.length : Int) := by omega
    go_enter Tryd.func44, Tryd.ntmps44
    go_wp2_with fail
    go_ret
    exact ⟨by rw [Hrev.out]; rfl, rfl⟩
  · have hrev : l.reverse.getD i 0 = 0 := by rw [List.getD_eq_getElem?_getD, List.getElem?_eq_none (by simp; omega)]; rfl
    have Hrev := Bl.hid hrev
    clear hrev
    have hge : (l.length : Int) ≤ (i : Int) := by omega
    go_enter Tryd.func44, Tryd.ntmps44
    go_wp2_with fail
    go_ret
    exact ⟨by rw [Hrev.out]; rfl, rfl⟩

set_option maxRecDepth 100000 in
set_option maxHeartbeats 400000 in
/-- chance.one -/
theorem one_any (w : World) :
    Calls Tryd.prog 33 #[] w fun e w' => ∃ v', e = .returned v' ∧ w'.ownsRow w.heap.size 5 1 v' 1 (Bl.ints .u8 [1]) ∧ Bl.Ext w w' := by
  go_enter Tryd.func33, Tryd.ntmps33
  go_wp2_with fail
  go_ret
  exact ⟨_, rfl, Bl.owns_new w 5 #[.int .u8 1] w.heap.size 1 1 (Nat.le_refl _) (by decide) rfl, Bl.ext_alloc _ _⟩

set_option maxRecDepth 100000 in
set_option maxHeartbeats 400000 in
/-- chance.small: a small number's bytes -/
theorem small_any (n : Nat) (hn : n < 65536) (w : World) :
    Calls Tryd.prog 35 #[.int .i64 n] w fun e w' => ∃ v', e = .returned v' ∧ w'.ownsRow w.heap.size 5 1 v' (Bl.tob n).length (Bl.ints .u8 (Bl.tob n)) ∧ Bl.Ext w w' := by
  have hE := Bl.hid (Bl.ext_alloc w (.cells #[.int .u8 ((n : Int) / 256), .int .u8 ((n : Int) % 256)] 5))
  have hR := Bl.hid (show Bl.Rd (w.alloc (.cells #[.int .u8 ((n : Int) / 256), .int .u8 ((n : Int) % 256)] 5)) .u8 (.slice (some ⟨w.heap.size, 0, none⟩) 2 2) [(n : Int) / 256, (n : Int) % 256] from Bl.rds_lit w 5 .u8 [(n : Int) / 256, (n : Int) % 256] (show 2 ≤ maxLen from by decide))
  have ht : Hid (Bl.trimz [(n : Int) / 256, (n : Int) % 256] = Bl.tob n) := by
    rw [Bl.trimz_eq _ (fun x hx => by simp at hx; omega)]
    show Bl.tob _ = Bl.tob n
    congr 1
    simp [Bl.be]
    omega
  go_enter Tryd.func35, Tryd.ntmps35
  go_wp2_with fail
  refine (trim_any _ _ _ hR.out (by simp)).mono ?_
  rintro e w' ⟨v', rfl, h1, h2⟩
  rw [ht.out] at h1
  have H1 := Bl.hid h1
  have H2 := Bl.hid h2
  clear h1 h2
  go_wp2_with fail
  go_ret
  exact ⟨_, rfl, Bl.owns_mono H1.out (by simp), hE.out.trans H2.out⟩

set_option maxRecDepth 100000 in
set_option maxHeartbeats 1000000 in
/-- slices.Reverse of bytes -/
theorem revB_any (g c : Nat) (l : List Int) (w : World) (h : Bl.Fam w g .u8 l.length (fun i => l.getD i 0)) (hg : g < w.heap.size) (hl : l.length ≤ 1099511627776) (hc : l.length ≤ c) (hcm : c ≤ maxLen) :
    Calls Tryd.prog 55 #[.slice (some ⟨g, 0, none⟩) l.length c] w fun e w' => e = .returned (.tuple #[]) ∧ Bl.Fam w' g .u8 l.length (fun i => l.reverse.getD i 0) ∧ Below g w w' := by
  have H := Bl.hid h
  clear h
  unfold maxLen at hcm
  go_enter Tryd.func55, Tryd.ntmps55
  go_wp2_with fail
  go_loopw [2, 3] (fun i j wr => ∃ k : Nat, i = .int .i64 k ∧ j = .int .i64 ((l.length : Int) - 1 - k) ∧ 2 * k ≤ l.length + 1 ∧ Bl.Fam wr g .u8 l.length (fun i => if i < k ∨ l.length ≤ i + k then l.getD (l.length - 1 - i) 0 else l.getD i 0) ∧ Below g w wr) (fun i _ _ => l.length + 1 - (intOf i).toNat)
  case atStart => exact ⟨0, rfl, by simp, by omega, H.out.congr (fun i hi => by rw [if_neg (by omega)]), Below.refl _ _⟩
  case round =>
    obtain ⟨k, rfl, rfl, hk, hF, hB⟩ := hrel
    have HF := Bl.hid hF
    have HB := Bl.hid hB
    by_cases hlt : (k : Int) < (l.length : Int) - 1 - (k : Int)
    · have hci : wr.cell? ⟨g, k, none⟩ = some (.int .u8 (l.getD k 0)) := (hF.1 k (by omega)).trans (by simp only []; rw [if_neg (by omega)])
      have hcj : wr.cell? ⟨g, l.length - 1 - k, none⟩ = some (.int .u8 (l.getD (l.length - 1 - k) 0)) := (hF.1 (l.length - 1 - k) (by omega)).trans (by simp only []; rw [if_neg (by omega)])
      have hfi : wr.frozen? ⟨g, k, none⟩ = false := hF.2 k
      have hfj : wr.frozen? ⟨g, l.length - 1 - k, none⟩ = false := hF.2 _
      have e1 : ((l.length : Int) - 1 - (k : Int)).toNat = l.length - 1 - k := by omega
      have e2 : (0 : Int) ≤ (l.length : Int) - 1 - (k : Int) := by omega
      have e3 : (l.length : Int) - 1 - (k : Int) < (l.length : Int) := by omega
      have e4 : (k : Int) < (l.length : Int) := by omega
      have e6 : (k : Int) ≤ (l.length : Int) - 1 := by omega
      have e5 : (0 : Int) ≤ (k : Int) := by omega
      have hgr : g < wr.heap.size := World.block_lt_of_cell? _ _ hci
      obtain ⟨x, hx⟩ : ∃ x, x = l.getD k 0 := ⟨_, rfl⟩
      obtain ⟨y, hy⟩ : ∃ y, y = l.getD (l.length - 1 - k) 0 := ⟨_, rfl⟩
      rw [← hx] at hci
      rw [← hy] at hcj
      have Hx := Bl.hid hx
      have Hy := Bl.hid hy
      clear hF hB hx hy
      go_wp2_with fail
      have cj' : (wr.setCell ⟨g, k, none⟩ (.int .u8 y)).cell? ⟨g, l.length - 1 - k, none⟩ = some (.int .u8 y) := by
        rw [World.cell?_setCell_other _ _ _ _ (by intro q; injection q with _ q; omega)]; exact hcj
      go_region
      all_goals
        go_wp2_with fail
        go_roundw
        case rel =>
          refine ⟨k + 1, by simp, by simp; omega, by omega, ?_, ?_⟩
          · refine ((HF.out.set k (by omega) y).set (l.length - 1 - k) (by omega) x).congr (fun i hi => ?_)
            simp only [Hx.out, Hy.out]
            by_cases c1 : i = l.length - 1 - k
            · rw [if_pos c1, if_pos (by omega), c1, show l.length - 1 - (l.length - 1 - k) = k from by omega]
            · rw [if_neg c1]
              by_cases c2 : i = k
              · rw [if_pos c2, if_pos (by omega), c2]
              · rw [if_neg c2]
                by_cases c3 : i < k ∨ l.length ≤ i + k
                · rw [if_pos c3, if_pos (by omega)]
                · rw [if_neg c3, if_neg (by omega)]
          · exact ((HB.out.setCell (p := ⟨g, k, none⟩) (Nat.le_refl _) _).setCell (p := ⟨g, l.length - 1 - k, none⟩) (Nat.le_refl _) _).drew
        case measure => simp [intOf]; omega
    · go_wp2_with fail
      go_end0
      exact ⟨rfl, HF.out.congr (fun i hi => by
        simp only [List.getD_eq_getElem?_getD, List.getElem?_reverse hi]
        split
        · rfl
        · have : i = l.length - 1 - i := by omega
          rw [← this]), HB.out⟩
end Go.Proofs.YtkndnmpdklidkaaDoor

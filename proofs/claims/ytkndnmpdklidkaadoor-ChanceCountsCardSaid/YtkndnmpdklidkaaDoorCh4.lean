/- Walks of package chance: part, Mul. -/
import Derived.Test.YtkndnmpdklidkaaDoorCh3
import Derived.Test.YtkndnmpdklidkaaDoorMake
namespace Go.Proofs.YtkndnmpdklidkaaDoor
open Go.RowKit Go.Proofs

set_option maxRecDepth 100000 in
set_option maxHeartbeats 1000000 in
/-- chance.part: a number, divided by a small one that divides it -/
theorem part_any (v : Value) (l : List Int) (d : Nat) (w : World) (h : Bl.Rd w .u8 v l) (hl : l.length ≤ 1000000) (hy : Bl.Byt l) (hd : 0 < d) (hd2 : d ≤ 2000) (hv : d ∣ Bl.be l) :
    Calls Tryd.prog 34 #[v, .int .i64 d] w fun e w' => ∃ v', e = .returned v' ∧ w'.ownsRow w.heap.size 5 1 v' (Bl.tob (Bl.be l / d)).length (Bl.ints .u8 (Bl.tob (Bl.be l / d))) ∧ Bl.Ext w w' := by
  obtain ⟨p, c, hvf, hvn, hvc⟩ := h.form
  subst hvf
  have H := Bl.hid h
  have Hres := Bl.hid (Bl.part_eq l d hy hd hv)
  clear h hv
  unfold maxLen at hvc
  obtain ⟨w1, hrun, hown1, hE1, hs1⟩ := Bl.make_ints (P := Tryd.prog) tB l.length (by omega) (by unfold maxLen; omega) w
  have HF1 := Bl.hid (Bl.fam_of_owns hown1)
  have HE1 := Bl.hid hE1
  clear hown1 hE1
  have hq1 : ∀ k, Bl.rst d 0 (l.take k) < d := fun k => Bl.rst_lt d hd _ 0 hd
  have Hq1 := Bl.hid hq1
  clear hq1
  go_enter Tryd.func34, Tryd.ntmps34
  go_wp2_with fail
  clear hrun
  go_loopw [6, 14] (fun r i wr => ∃ k : Nat, k ≤ l.length ∧ i = .int .i64 k ∧ r = .int .i64 (Bl.rst d 0 (l.take k) : Nat) ∧ Bl.Fam wr w.heap.size .u8 l.length (fun j => if j < k then (Bl.dvl d 0 l).getD j 0 else 0) ∧ Below w.heap.size w wr) (fun _ i _ => l.length - (intOf i).toNat)
  case atStart =>
    exact ⟨0, Nat.zero_le _, rfl, rfl, HF1.out.congr (fun i hi => by rw [if_neg (by omega), List.getD_eq_getElem?_getD, List.getElem?_replicate, if_pos hi]; rfl), HE1.out⟩
  case round =>
    obtain ⟨k, hk, rfl, rfl, hF, hB⟩ := hrel
    have HF := Bl.hid hF
    have HB := Bl.hid hB
    by_cases hlt : k < l.length
    · obtain ⟨b, o, c', hqe, hnc, hcm, hlb, hra, hget⟩ := H.out.pos (by omega)
      cases hqe
      have hc := ((Bl.bcell hB).1 b (o + k) hlb).trans (hget k hlt)
      have hby := hy.get k
      have hr1 := Hq1.out k
      have hq := Bl.hid (Bl.rst_take d l 0 k hlt)
      have hg := Bl.hid (Bl.dvl_get d l 0 k hlt)
      obtain ⟨x, hx⟩ : ∃ x, x = l.getD k 0 := ⟨_, rfl⟩
      obtain ⟨r, hr⟩ : ∃ r, r = Bl.rst d 0 (l.take k) := ⟨_, rfl⟩
      rw [← hx] at hc hby hq hg
      rw [← hr] at hr1 hq hg ⊢
      clear hx hr hra hget
      obtain ⟨x0, x1⟩ := hby
      have hcell : wr.cell? ⟨w.heap.size, k, none⟩ = some (.int .u8 0) := (hF.1 k hlt).trans (by simp)
      have hfz : wr.frozen? ⟨w.heap.size, k, none⟩ = false := hF.2 k
      have hor : bits .or .i64 ((r : Int) * 256) x = (r : Int) * 256 + x := Bl.or_byte _ _ (by omega) (by omega) x0 x1
      have hdz : ¬ (d : Int) = 0 := by omega
      have hd0 : (0 : Int) < (d : Int) := by omega
      have hki : (k : Int) < (l.length : Int) := by omega
      have hxn := Bl.hid (show ((r * 256 + x.toNat : Nat) : Int) = (r : Int) * 256 + x from by omega)
      clear hF hB
      go_wp2_with fail
      go_roundw
      case rel =>
        refine ⟨k + 1, by omega, by simp, ?_, ?_, HB.out.setCell (p := ⟨w.heap.size, k, none⟩) (Nat.le_refl _) _⟩
        · rw [hq.out, Int.natCast_emod, hxn.out]
        · refine (HF.out.set k hlt _).congr (fun i hi => ?_)
          by_cases e : i = k
          · rw [if_pos e, if_pos (by omega), e, hg.out]
            have h1 : r * 256 + x.toNat < 256 * d := by omega
            have h2 : (r * 256 + x.toNat) / d < 256 := (Nat.div_lt_iff_lt_mul hd).2 h1
            rw [← hxn.out, ← Int.natCast_ediv]
            generalize (r * 256 + x.toNat) / d = q at h2 ⊢
            omega
          · rw [if_neg e]
            by_cases e2 : i < k
            · rw [if_pos e2, if_pos (by omega)]
            · rw [if_neg e2, if_neg (by omega)]
      case measure => simp [intOf]; omega
    · obtain rfl : k = l.length := by omega
      have hlen := Bl.dvl_length d l 0
      have hFd : Bl.Fam wr w.heap.size .u8 l.length (fun j => (Bl.dvl d 0 l).getD j 0) := hF.congr (fun i hi => by rw [if_pos hi])
      have hR := Bl.fam_rd hFd hlen (Nat.le_refl _) (by unfold maxLen; omega)
      have HR := Bl.hid hR
      have Hlen := Bl.hid hlen
      clear hFd hR hF hB hlen
      go_wp2_with fail
      refine (trim_any _ (Bl.dvl d 0 l) _ HR.out (by rw [Hlen.out]; omega)).mono ?_
      rintro e w' ⟨v', rfl, h1, h2⟩
      rw [Hres.out] at h1
      have H1 := Bl.hid h1
      have H2 := Bl.hid h2
      clear h1 h2
      go_wp2_with fail
      go_ret
      exact ⟨_, rfl, Bl.owns_mono H1.out HB.out.size, Below.trans HB.out (H2.out.mono HB.out.size)⟩
end Go.Proofs.YtkndnmpdklidkaaDoor

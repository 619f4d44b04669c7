/- Texts that stood apart, in one: EqB, SamL. -/
import Derived.Test.YtmmolapkddbibaaDoorLib0
import Derived.Test.YtmmolapkddbibaaDoorShaP
import Derived.Test.YtmmolapkddbibaaDoorChecked
import Derived.Test.YtmmolapkddbibaaDoorShaR
/- Walk of bytes.Equal. -/
namespace Go.Proofs.YtmmolapkddbibaaDoor
open Go Go.RowKit Go.Proofs
theorem equalB_any (va vb : Value) (xs ys : List Int) (w : World) (hx : Bl.Rd w .u8 va xs) (hy : Bl.Rd w .u8 vb ys) (bx : Bl.Byt xs) (bY : Bl.Byt ys) :
    Calls Tryd.prog 40 #[va, vb] w fun e w' => e = .returned (.bool (decide (xs = ys))) ∧ w = w' := by
  have hc1 := Bl.conv_bytes (P := Tryd.prog) hx Tryd.underlying46 Tryd.underlying5 Tryd.underlying9
  have hc2 := Bl.conv_bytes (P := Tryd.prog) hy Tryd.underlying46 Tryd.underlying5 Tryd.underlying9
  have hq := Bl.bstr_beq bx bY
  have Hq : Hid (decide (Bl.bstr xs = Bl.bstr ys) = decide (xs = ys)) := Bl.hid (by rw [Bool.eq_iff_iff]; simp [Bl.bstr_eq_iff bx bY])
  clear hx hy bx bY
  go_enter Tryd.func40, Tryd.ntmps40
  go_wp2
  go_ret
  first
  | exact ⟨rfl, rfl⟩
  | exact ⟨by rw [← hq]; rfl, rfl⟩
  | exact ⟨by rw [← Hq.out]; rfl, rfl⟩
end Go.Proofs.YtmmolapkddbibaaDoor

/- Walk of baileenum.SameLists. -/
namespace Go.Proofs.YtmmolapkddbibaaDoor
open Go.RowKit Go.Proofs

set_option maxRecDepth 100000 in
set_option maxHeartbeats 400000 in
theorem samelists_any (va vb : Value) (xs ys : List (List Int)) (w : World) (hA : Bl.Rdss w va xs) (hB : Bl.Rdss w vb ys) (hba : ∀ p ∈ xs, Bl.Byt p) (hbb : ∀ p ∈ ys, Bl.Byt p) :
    Calls Tryd.prog 35 #[va, vb] w fun e w' => e = .returned (.bool (decide (xs = ys))) ∧ Bl.Ext w w' := by
  obtain ⟨wa, hva, hwla, hwsa⟩ := hA
  obtain ⟨wb, hvb, hwlb, hwsb⟩ := hB
  obtain ⟨pa, ca, hvfa, hvna, hvca⟩ := hva.form
  obtain ⟨pb, cb, hvfb, hvnb, hvcb⟩ := hvb.form
  subst hvfa hvfb
  have Hva := Bl.hid hva
  have Hvb := Bl.hid hvb
  have Hwsa := Bl.hid hwsa
  have Hwsb := Bl.hid hwsb
  have Hwla := Bl.hid hwla
  have Hwlb := Bl.hid hwlb
  have Hba := Bl.hid hba
  have Hbb := Bl.hid hbb
  unfold maxLen at hvca hvcb
  obtain ⟨n, hn⟩ : ∃ n, n = xs.length := ⟨_, rfl⟩
  obtain ⟨m, hm⟩ : ∃ m, m = ys.length := ⟨_, rfl⟩
  rw [← hn] at Hva ⊢ hvna
  rw [← hm] at Hvb ⊢ hvnb
  have Hn := Bl.hid hn
  have Hm := Bl.hid hm
  clear hva hvb hwsa hwsb hwla hwlb hba hbb hn hm
  by_cases hnm : n = m
  · subst hnm
    go_enter Tryd.func35, Tryd.ntmps35
    go_wp2_with fail
    go_loopw [13] (fun i wr => ∃ k : Nat, k ≤ n ∧ i = .int .i64 k ∧ Bl.Ext w wr ∧ Hid (xs.take k = ys.take k)) (fun i _ => n - (intOf i).toNat)
    case atStart => exact ⟨0, Nat.zero_le _, rfl, Below.refl _ _, Bl.hid rfl⟩
    case round =>
      obtain ⟨k, hk, rfl, hE, Htk⟩ := hrel
      have HE := Bl.hid hE
      clear hE
      by_cases hlt : k < n
      · have hla : k < xs.length := by rw [← Hn.out]; exact hlt
        have hlb : k < ys.length := by rw [← Hm.out]; exact hlt
        obtain ⟨b1, o1, hpa, hbl1, hcell1⟩ := Bl.Rdss.cell' (ps := xs) (n := n) (by have := Hva.out.ext HE.out; rw [Hn.out] at this ⊢; exact this) Hwla.out k hla
        obtain ⟨b2, o2, hpb, hbl2, hcell2⟩ := Bl.Rdss.cell' (ps := ys) (n := n) (by have := Hvb.out.ext HE.out; rw [Hm.out] at this ⊢; exact this) Hwlb.out k hlb
        subst hpa hpb
        have hR1 := Hwsa.out k hla
        have hR2 := Hwsb.out k hlb
        have hbx : Bl.Byt (xs.getD k []) := by
          rw [List.getD_eq_getElem?_getD, List.getElem?_eq_getElem hla]; exact Hba.out _ (List.getElem_mem hla)
        have hby : Bl.Byt (ys.getD k []) := by
          rw [List.getD_eq_getElem?_getD, List.getElem?_eq_getElem hlb]; exact Hbb.out _ (List.getElem_mem hlb)
        have Ht1 := Bl.hid (Bl.take_succ_getD xs k hla)
        have Ht2 := Bl.hid (Bl.take_succ_getD ys k hlb)
        obtain ⟨x, hx⟩ : ∃ x, x = xs.getD k [] := ⟨_, rfl⟩
        obtain ⟨y, hy⟩ : ∃ y, y = ys.getD k [] := ⟨_, rfl⟩
        rw [← hx] at hR1 hbx Ht1
        rw [← hy] at hR2 hby Ht2
        obtain ⟨p1, c1, hf1, _, _⟩ := hR1.form
        obtain ⟨p2, c2, hf2, _, _⟩ := hR2.form
        rw [hf1] at hcell1 hR1
        rw [hf2] at hcell2 hR2
        have hcv1 : ∀ m, (convert 46 9 (.slice p1 x.length c1)).run Tryd.prog (wr.drewN m) = .ok (.string (Bl.bstr x)) (wr.drewN m) := fun m => Bl.conv_bytes (hR1.ext (HE.out.trans ((Below.refl _ _).drewN m))) Tryd.underlying46 Tryd.underlying5 Tryd.underlying9
        have hcv2 : ∀ m, (convert 46 9 (.slice p2 y.length c2)).run Tryd.prog (wr.drewN m) = .ok (.string (Bl.bstr y)) (wr.drewN m) := fun m => Bl.conv_bytes (hR2.ext (HE.out.trans ((Below.refl _ _).drewN m))) Tryd.underlying46 Tryd.underlying5 Tryd.underlying9
        have hq := Bl.bstr_beq hbx hby
        have Hx := Bl.hid hx
        have Hy := Bl.hid hy
        clear hR1 hR2 hf1 hf2 hbl1 hbl2 hx hy hla hlb hbx hby
        by_cases hxy : x = y
        · subst hxy
          clear hq
          go_wp2_with fail
          go_quiet (fail)
          go_wp2_with fail
          go_roundw
          case rel => exact ⟨k + 1, by omega, by go_num, HE.out.trans ((Below.refl _ _).drewN _), Bl.hid (by rw [Ht1.out, Ht2.out, Htk.out])⟩
          case measure => simp [intOf]; omega
        · rw [decide_eq_false hxy] at hq
          have hne : ¬ xs = ys := fun q => hxy (by rw [Hx.out, Hy.out, q])
          have Hne := Bl.hid hne
          have hq2 : ¬ (Bl.bstr x = Bl.bstr y) := fun q => by rw [q] at hq; simp at hq
          clear hne hxy
          go_wp2_with fail
          go_quiet (fail)
          go_wp2_with fail
          go_ret
          exact ⟨by rw [decide_eq_false Hne.out]; rfl, HE.out.trans ((Below.refl _ _).drewN _)⟩
      · obtain rfl : k = n := by omega
        have Heq : Hid (xs = ys) := Bl.hid (by
          have h := Htk.out
          rwa [List.take_of_length_le (by rw [← Hn.out]; exact Nat.le_refl _), List.take_of_length_le (by rw [← Hm.out]; exact Nat.le_refl _)] at h)
        go_wp2_with fail
        go_ret
        exact ⟨by rw [decide_eq_true Heq.out]; rfl, HE.out⟩
  · have hne : ¬ xs = ys := fun q => hnm (by rw [Hn.out, Hm.out, q])
    have Hne := Bl.hid hne
    have hnm' : ((n : Int) == (m : Int)) = false := by rw [beq_eq_false_iff_ne]; omega
    clear hne
    go_enter Tryd.func35, Tryd.ntmps35
    go_wp2_with fail
    go_ret
    exact ⟨by rw [decide_eq_false Hne.out]; rfl, Below.refl _ _⟩
end Go.Proofs.YtmmolapkddbibaaDoor

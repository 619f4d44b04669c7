/- Walks of baileenum.Bytes and Kept. -/
import Derived.Test.YtkndnmpdklidkaaDoorLibB
import Derived.BigQuiet
import Derived.Test.YtkndnmpdklidkaaDoorStr
import Derived.Test.YtkndnmpdklidkaaDoorQuietT
import Derived.Test.YtkndnmpdklidkaaDoorMake
import Derived.Test.YtkndnmpdklidkaaDoorDin
namespace Go.Proofs.Bl
open Go Go.RowKit

theorem marks_get (a : List Int) (k : Nat) (h : k < 6) : (a ++ marks).getD (a.length + k) 0 = 201 + (k : Int) := by
  rw [List.getD_eq_getElem?_getD, List.getElem?_append_right (by omega), Nat.add_sub_cancel_left]
  match k, h with
  | 0, _ => rfl
  | 1, _ => rfl
  | 2, _ => rfl
  | 3, _ => rfl
  | 4, _ => rfl
  | 5, _ => rfl
theorem make_none {P : Program} {t e : TypeId} {z : Value} {size bytes : Nat} (hT : SlT P t e z size bytes) (c : Nat) (hb : bytes * c ≤ 281474976710656) (hm : c ≤ maxLen) (w : World) :
    ∃ w', (Instr.makeSlice t (.int .i64 0) (.int .i64 (c : Int))).run P w = .ok (.slice (some ⟨w.heap.size, 0, none⟩) 0 c) w' ∧
      w'.ownsRow w.heap.size e size (.slice (some ⟨w.heap.size, 0, none⟩) 0 c) 0 [] ∧ Ext w w' := by
  obtain ⟨i, hi, hz, hs1, hb1⟩ := info_parts hT.info
  obtain ⟨w', h1, h2, h3⟩ := run_make_own (P := P) w w.heap.size t e i z size hT.ht hi hz hs1 .i64 .i64 c (by rw [hb1]; exact hb) hm (Nat.le_refl _)
  exact ⟨w', h1, h2, (Below.refl w.heap.size w).grown h3 (Nat.le_refl _) (fun k hk => by cases hk)⟩
end Go.Proofs.Bl
namespace Go.Proofs.YtkndnmpdklidkaaDoor
open Go.RowKit Go.Proofs

set_option maxRecDepth 100000 in
set_option maxHeartbeats 1000000 in
theorem ebytes_any (v : Value) (a : List Int) (w : World) (hR : Bl.Rd w .u8 v a) (hlen : a.length ≤ 1099511627000) :
    Calls Tryd.prog 22 #[v] w fun e w' => ∃ g c, e = .returned (.slice (some ⟨g, 0, none⟩) a.length c) ∧ w'.ownsRow w.heap.size 5 1 (.slice (some ⟨g, 0, none⟩) (a.length + 6) c) (a.length + 6) (Bl.ints .u8 (a ++ Bl.marks)) ∧ Bl.Ext w w' := by
  obtain ⟨p, c, hvf, hvn, hvc⟩ := hR.form
  subst hvf
  have Hv := Bl.hid hR
  clear hR
  go_enter Tryd.func22, Tryd.ntmps22
  obtain ⟨w1, hrun, hown1, hE1⟩ := Bl.make_none (P := Tryd.prog) tB (a.length + 6) (by omega) (by unfold maxLen; omega) w
  rw [show ((a.length + 6 : Nat) : Int) = (a.length : Int) + 6 from by omega] at hrun
  have Hown1 := Bl.hid hown1
  have HE1 := Bl.hid hE1
  have HV1 := Bl.hid (Hv.out.ext hE1)
  have hs1 := hE1.size
  clear hown1 hE1
  go_wp2_with (with_reducible refine Bl.stop_append ?_)
  refine Bl.go_on ?_
  clear hrun
  refine Bl.wpL_app tB Hown1.out HV1.out rfl rfl (by simp) (Bl.ints_one _ _) (by unfold maxLen; omega) (by omega) hs1 ?_
  intro p2 c2 w2 hown2 hg2 hB2 hK2 hn2 hc2
  simp only [Nat.zero_add, List.nil_append] at hown2 hn2
  have hs2 := hB2.size
  have Hown2 := Bl.hid (Bl.owns_ext hown2 (Bl.ext_alloc w2 (.cells (Bl.ints .u8 Bl.marks).toArray 5)))
  have Hnew := Bl.hid (Bl.rds_lit w2 5 .u8 Bl.marks (show 6 ≤ maxLen from by decide))
  have HE2 : Hid (Below w.heap.size w (w2.alloc (.cells (Bl.ints .u8 Bl.marks).toArray 5))) := Bl.hid ((Below.trans HE1.out hB2).trans (Bl.below_alloc _ _ (Nat.le_trans hs1 hs2)))
  have hs3 := HE2.out.size
  clear hown2 hg2 hB2 hK2 HV1 HE1 Hown1
  simp only [Nat.zero_add]
  go_wp2_with (with_reducible refine Bl.stop_append ?_)
  refine Bl.go_on ?_
  refine Bl.wpL_app tB Hown2.out Hnew.out rfl rfl (by simp [Bl.marks]) (Bl.ints_one _ _) (by show a.length + 6 ≤ _; unfold maxLen; omega) (by show (a.length + 6) * 1 ≤ _; omega) hs3 ?_
  intro p3 c3 w3 hown3 hg3 hB3 hK3 hn3 hc3
  rw [← Bl.ints_append] at hown3
  have hown3 : w3.ownsRow w.heap.size 5 1 (.slice p3 (a.length + 6) c3) (a.length + 6) (Bl.ints .u8 (a ++ Bl.marks)) := hown3
  obtain ⟨g, hg⟩ : ∃ g, p3 = some ⟨g, 0, none⟩ := by
    rcases hown3.2 with ⟨_, h0⟩ | ⟨g, cap, cur, hv, _⟩
    · omega
    · injection hv with h1; exact ⟨g, h1⟩
  subst hg
  have Hown3 := Bl.hid hown3
  have HE3 : Hid (Bl.Ext w w3) := Bl.hid (Below.trans HE2.out hB3)
  have hn4 : (a.length : Int) ≤ (c3 : Int) := by have : a.length + 6 ≤ c3 := hn3; omega
  clear hown3 hg3 hB3 hK3 Hown2 HE2 Hnew hs3 hs2 hs1
  go_wp2_with fail
  go_ret
  exact ⟨g, c3, rfl, Hown3.out, HE3.out⟩

set_option maxRecDepth 100000 in
set_option maxHeartbeats 1000000 in
theorem ekept_any (g c : Nat) (v : Value) (a : List Int) (w : World) (hc : a.length + 6 ≤ c) (hcm : c ≤ maxLen) (hR : w.rangeAt g 0 (Bl.ints .u8 (a ++ Bl.marks))) (hv : Bl.Rd w .u8 v a) (hlen : a.length ≤ 1099511627000) :
    Calls Tryd.prog 28 #[.slice (some ⟨g, 0, none⟩) a.length c, v] w fun e w' => e = .returned (.bool true) ∧ Bl.Ext w w' := by
  obtain ⟨p, d, hvf, hvn, hvc⟩ := hv.form
  subst hvf
  have Hv := Bl.hid hv
  have HR := Bl.hid hR
  have hra : Bl.Rd w .u8 (.slice (some ⟨g, 0, none⟩) a.length c) a := .inr ⟨g, 0, c, rfl, by omega, hcm, fun j u hu => hR j u (by
    rw [Bl.ints_append, List.getElem?_append_left (List.getElem?_eq_some_iff.1 hu).1]; exact hu)⟩
  have hdr : ∀ m, Bl.Ext w (w.drewN m) := fun m => (Below.refl _ _).drewN m
  have hcv1 : ∀ m, (convert 23 9 (.slice (some ⟨g, 0, none⟩) a.length c)).run Tryd.prog (w.drewN m) = .ok (.string (Bl.bstr a)) (w.drewN m) := fun m => Bl.conv_bytes (hra.ext (hdr m)) Tryd.underlying23 Tryd.underlying5 Tryd.underlying9
  have hcv2 : ∀ m, (convert 23 9 (.slice p a.length d)).run Tryd.prog (w.drewN m) = .ok (.string (Bl.bstr a)) (w.drewN m) := fun m => Bl.conv_bytes (Hv.out.ext (hdr m)) Tryd.underlying23 Tryd.underlying5 Tryd.underlying9
  unfold maxLen at hcm
  have hlt : decide ((c : Int) < (a.length : Int) + 6) = false := decide_eq_false (by omega)
  have hle : (a.length : Int) ≤ (c : Int) := by omega
  clear hv hR hra hdr
  go_enter Tryd.func28, Tryd.ntmps28
  go_wp2_with fail
  go_quiet (fail)
  go_wp2_with fail
  go_loop [6] (fun i => ∃ k : Nat, i = .int .i64 k ∧ k ≤ 6) (fun i => 6 - (intOf i).toNat)
  case atStart => exact ⟨0, rfl, by omega⟩
  case round =>
    obtain ⟨k, rfl, hk⟩ := hrel
    by_cases hlt : k < 6
    · have hcell : w.cell? ⟨g, a.length + k, none⟩ = some (.int .u8 (201 + (k : Int))) := by
        have h := HR.out (a.length + k) _ (Bl.ints_get _ _ _ (by rw [List.length_append]; show a.length + k < a.length + 6; omega))
        rw [Nat.zero_add, Bl.marks_get a k hlt] at h
        exact h
      have hb1 : (a.length : Int) + (k : Int) < (c : Int) := by omega
      have hb0 : (0 : Int) ≤ (a.length : Int) + (k : Int) := by omega
      have ht : ((a.length : Int) + (k : Int)).toNat = a.length + k := by omega
      have hb2 : (201 : Int) + (k : Int) ≤ 206 := by omega
      go_wp2_with fail
      go_round
      case rel => exact ⟨k + 1, by go_num, by omega⟩
      case measure => simp [intOf]; omega
    · obtain rfl : k = 6 := by omega
      go_wp2_with fail
      go_ret
      exact ⟨rfl, (Below.refl _ _).drewN _⟩
end Go.Proofs.YtkndnmpdklidkaaDoor

/- How many leaves stand left, and how deep leaves stand: for every n the law TreeSplits returns true. No condition. -/
import Derived.WalkKit
import Derived.WalkLawsBesides
import Derived.WalkSpells
import Derived.ProofKit
import Derived.OpenShut
import Derived.Test.YthjdbjjpbepmbaaRows
import Derived.Test.YthjdbjjpbepmbaaW12a
namespace Go.Proofs.Ythjdbjjpbepmbaa
open Go.ChangeShapes Go.WideShapes Go.ChangeAt Go.RowKit Go.Proofs

theorem split_5 (w : World) : Calls Try.prog 5 #[.int .i64 5] w fun e w' => e = .returned (.int .i64 4) ∧ w = w' :=
  (split_any 5 w (by omega)).mono fun e w' ⟨he, hw⟩ => ⟨by rw [he]; exact ret_i (by decide +kernel), hw⟩

theorem alive12 (w : World) : Calls Try.prog 4 #[] w fun e w' => e = .returned (.bool true) ∧ w' = w.alloc (.cells #[.int .u8 0] 5) := by
  have h5 := split_5
  go_enter Try.func4, Try.ntmps4
  go_wp2_with (first | (go_at_call 5; refine (h5 _).mono ?_; rintro e w' ⟨rfl, rfl⟩) | (go_at_call 8; go_in))
  go_ret
  exact ⟨rfl, rfl⟩

theorem splits_lo (n : Int) (w : World) (h : n < 2) :
    Calls Try.prog 3 #[.int .i64 n] w fun e w' => e = .returned (.bool true) ∧ Grown w w' := by
  have s := fun w => split_lo n w h
  have d := fun w => depth_lo n w h
  go_enter Try.func3, Try.ntmps3
  go_wp2_with (first | (go_at_call 4; refine (alive12 _).mono ?_; rintro e w' ⟨rfl, rfl⟩) | (go_at_call 5; refine (s _).mono ?_; rintro e w' ⟨rfl, rfl⟩) | (go_at_call 6; refine (d _).mono ?_; rintro e w' ⟨rfl, rfl⟩))
  go_ret
  exact ⟨rfl, by repeat (first | exact Grown.refl _ | apply Grown.drew | apply Grown.alloc)⟩

theorem splits_hi (n : Int) (k : Nat) (d : Nat) (w : World) (h : 1099511627776 < n) (hk : Hid (Bl.sp n.toNat = k)) (h1 : 1 ≤ k) (h2 : (k : Int) < n) (h3 : n - k ≤ k) (hm : n ≤ 9223372036854775807) (hd : Hid (Bl.dp n.toNat = d)) :
    Calls Try.prog 3 #[.int .i64 n] w fun e w' => e = .returned (.bool true) ∧ Grown w w' := by
  have s : ∀ w, Calls Try.prog 5 #[.int .i64 n] w fun e w' => e = .returned (.int .i64 k) ∧ w = w' := fun w => (split_any n w hm).mono fun e w' ⟨he, hw⟩ => ⟨by rw [he, hk.out], hw⟩
  have d : ∀ w, Calls Try.prog 6 #[.int .i64 n] w fun e w' => e = .returned (.int .i64 d) ∧ w = w' := fun w => (depth_any n w hm).mono fun e w' ⟨he, hw⟩ => ⟨by rw [he, hd.out], hw⟩
  clear hk hd
  go_enter Try.func3, Try.ntmps3
  go_wp2_with (first | (go_at_call 4; refine (alive12 _).mono ?_; rintro e w' ⟨rfl, rfl⟩) | (go_at_call 5; refine (s _).mono ?_; rintro e w' ⟨rfl, rfl⟩) | (go_at_call 6; refine (d _).mono ?_; rintro e w' ⟨rfl, rfl⟩))
  go_ret
  exact ⟨rfl, by repeat (first | exact Grown.refl _ | apply Grown.drew | apply Grown.alloc)⟩

theorem splits_mid (n : Int) (k : Nat) (d : Nat) (w : World) (h : 2 ≤ n) (hm : n ≤ 1099511627776) (hk : Hid (Bl.sp n.toNat = k)) (hd : Hid (Bl.dp n.toNat = d)) (hu : ∀ j : Nat, 2 ^ j < n.toNat → n.toNat ≤ 2 ^ j * 2 → d = j + 1) :
    Calls Try.prog 3 #[.int .i64 n] w fun e w' => e = .returned (.bool true) ∧ Grown w w' := by
  have s : ∀ w, Calls Try.prog 5 #[.int .i64 n] w fun e w' => e = .returned (.int .i64 k) ∧ w = w' := fun w => (split_any n w (by omega)).mono fun e w' ⟨he, hw⟩ => ⟨by rw [he, hk.out], hw⟩
  have r : ∀ w, Calls Try.prog 7 #[.int .i64 n] w fun e w' => e = .returned (.int .i64 k) ∧ w = w' := fun w => (refsplit_any n w h (by omega)).mono fun e w' ⟨he, hw⟩ => ⟨by rw [he, hk.out], hw⟩
  have d' : ∀ w, Calls Try.prog 6 #[.int .i64 n] w fun e w' => e = .returned (.int .i64 d) ∧ w = w' := fun w => (depth_any n w (by omega)).mono fun e w' ⟨he, hw⟩ => ⟨by rw [he, hd.out], hw⟩
  have hu' := hid hu
  clear hk hd hu
  go_enter Try.func3, Try.ntmps3
  go_wp2_with (first | (go_at_call 4; refine (alive12 _).mono ?_; rintro e w' ⟨rfl, rfl⟩) | (go_at_call 5; refine (s _).mono ?_; rintro e w' ⟨rfl, rfl⟩) | (go_at_call 6; refine (d' _).mono ?_; rintro e w' ⟨rfl, rfl⟩))
  go_loop [5, 6] (fun dd a => ∃ j q : Nat, dd = .int .i64 j ∧ a = .int .i64 q ∧ Hid (q = 2 ^ j) ∧ 1 ≤ q ∧ (q : Int) < 2 * n ∧ (j : Int) < q) (fun _ a => (n - intOf a).toNat)
  case atStart => exact ⟨0, 1, rfl, rfl, rfl, by omega, by omega, by omega⟩
  case round =>
    obtain ⟨j, q, rfl, rfl, hq, hq1, hq2, hj⟩ := hrel
    by_cases hlt : (q : Int) < n
    · go_wp2
      go_round
      case rel => exact ⟨j + 1, q * 2, by go_num, by go_num, by rw [hq.out]; exact (Nat.pow_succ 2 j).symm, by omega, by omega, by omega⟩
      case measure => simp [intOf]; omega
    · have hdj : d = j := by
        have hq' := hq.out
        obtain ⟨i, rfl⟩ : ∃ i, j = i + 1 := ⟨j - 1, by
          by_cases hj0 : j = 0
          · subst hj0; simp at hq'; omega
          · omega⟩
        rw [Nat.pow_succ] at hq'
        exact hu'.out i (by omega) (by omega)
      subst hdj
      clear hu'
      go_wp2_with (go_at_call 7; refine (r _).mono ?_; rintro e w' ⟨rfl, rfl⟩)
      go_ret
      exact ⟨rfl, by repeat (first | exact Grown.refl _ | apply Grown.drew | apply Grown.alloc)⟩

namespace treeSplits
theorem own : ownKnob Try.prog.godebug = none := by kernel_rfl

theorem walk (a0 : Int) (w0 : (Lit.int .i64 a0).wf = true) (w : World) :
    Calls Try.prog 3 #[.int .i64 a0] w fun e w' => e = .returned (.bool true) ∧ Grown w w' := by
  simp [Lit.wf, IntKind.min, IntKind.max, IntKind.signed, IntKind.bits] at w0
  by_cases h : a0 < 2
  · exact splits_lo a0 w h
  by_cases h2 : 1099511627776 < a0
  · obtain ⟨a, b, c⟩ := Bl.sp_bounds a0.toNat (by omega) (by omega)
    exact splits_hi a0 _ _ w h2 rfl a (by omega) (by omega) (by omega) rfl
  · exact splits_mid a0 _ _ w (by omega) (by omega) rfl rfl (fun j h3 h4 => Bl.dp_of_pow a0.toNat j (by omega) h3 h4)
set_option maxRecDepth 100000 in
theorem lifted (os : Os) (started : os.Started) (H : Type) (enc : TypeId × Value → H) :
    ReturnsInHanded {} Try.checked os 3 .any (Rows.treeSplitsSpec.pre6 enc Try.prog Try.f3 Rows.treeSplitsRow.domain false) (Rows.treeSplitsSpec.post enc Try.prog Try.f3 false true false false) := by
  refine returnsInHanded_of_change (C := Try.checked) own started (by kernel_rfl) Try.func3
    (ChangeSpec.witness6 (enc := enc) (C := Try.checked) false ⟨#[], #[.int .i64 0], []⟩ 8 (by kernel_rfl) (by kernel_rfl) (by kernel_rfl) (by kernel_rfl)) ?_
  intro W base args ds gs before hval0 hW hcnd _
  have hval : ∀ (j : Nat) t v, Try.f3.params[j]? = some t → args[j]? = some v → Value.okWide Try.prog W .any base t v := hval0
  have hW' := hW
  obtain ⟨p, q, hA0, hV, rfl, hfz, hnd⟩ := hW
  have hA : DataW.TrodAll enc Try.prog W 0 (fun _ => true) true Try.f3.params.toList args.toList ds p := hA0
  rw [Try.params3] at hA hval
  obtain ⟨v0, vs0, d0, ds0, p0, q0, hargs, rfl, rfl, h0, r0⟩ := trodAll_cons hA
  obtain ⟨rfl, rfl, rfl⟩ := trodAll_nil r0
  obtain rfl : args = #[v0] := by cases args; simp_all
  obtain ⟨rfl, rfl⟩ := trodVars_none hV
  obtain ⟨a0, rfl, rfl, rfl, w0⟩ := open_int Try.underlying3 (hval 0 3 v0 rfl rfl) h0
  clear hA0 hval0
  simp only [List.append_nil] at hW'
  refine (walk a0 w0 W).mono fun e W' ⟨he, hg⟩ => ?_
  subst he
  exact ⟨_, rfl, post_of_same (pa := []) (pv := []) hW' (fun _ _ _ => (trodAll_cons_mk (shut_bool Try.underlying4 _) trodAll_mk0)) (fun sp _ => (trodAll_cons_mk (shut_int Try.underlying3 w0) trodAll_mk0)) (fun _ _ => rfl) rfl
    (hg.frame _) hg.2.1 (ok_one (by kernel_rfl) rfl (okWide_bool_mk Try.underlying4 _))⟩

theorem over : Rows.treeSplitsRow.holds Try.pinned (OpenSpec.ofChange Rows.treeSplitsSpec) :=
  OpenClaim.holds_of_wide 3 Try.f3 rfl rfl rfl rfl rfl rfl rfl ⟨rfl, rfl, rfl, rfl, rfl⟩ rfl rfl rfl rfl rfl (by kernel_rfl) Try.func3 (by kernel_rfl)
    (of_decide_eq_true (by kernel_rfl)) (by unfold Func.isWrapper; first | (rw [if_pos (by decide +kernel)]; kernel_rfl) | (rw [if_neg (by decide +kernel)]; exact ⟨rfl, rfl⟩))
    (fun os started H enc _ => lifted os started H enc)

/-- the statement -/
theorem proved : Rows.TreeSplitsSaid :=
  over

end treeSplits
end Go.Proofs.Ythjdbjjpbepmbaa

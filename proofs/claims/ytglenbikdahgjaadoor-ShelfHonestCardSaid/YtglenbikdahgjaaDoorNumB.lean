/- A number's eight bytes: plainly, and the walks of label.Number and of the document's. -/
import Derived.Test.YtglenbikdahgjaaDoorWt0
import Derived.Test.YtglenbikdahgjaaDoorShaQ
import Derived.Test.YtglenbikdahgjaaDoorLet0
import Derived.Test.YtglenbikdahgjaaDoorLib0
namespace Go.Proofs.Bl
open Go Go.RowKit
/-- a number's eight bytes -/
def numL (x : Int) : List Int := [x / 72057594037927936 % 256, x / 281474976710656 % 256, x / 1099511627776 % 256, x / 4294967296 % 256, x / 16777216 % 256, x / 65536 % 256, x / 256 % 256, x % 256]
theorem numL_len (x : Int) : (numL x).length = 8 := rfl
theorem numL_byt (x : Int) : Byt (numL x) := fun y hy => by
  unfold numL at hy
  simp only [List.mem_cons, List.not_mem_nil, or_false] at hy
  rcases hy with rfl | rfl | rfl | rfl | rfl | rfl | rfl | rfl <;> omega
/-- a place's two bytes -/
def twoL (x : Int) : List Int := [x / 256 % 256, x % 256]
theorem twoL_byt (x : Int) : Byt (twoL x) := fun y hy => by
  unfold twoL at hy
  simp only [List.mem_cons, List.not_mem_nil, or_false] at hy
  rcases hy with rfl | rfl <;> omega
theorem BoxC.of_owns {w : World} {base e s n c g : Nat} {xs : List Value} (h : w.ownsRow base e s (.slice (some ⟨g, 0, none⟩) n c) n xs) (hne : xs ≠ []) : BoxC w g xs := by
  rcases Pk.of_owns h with ⟨h1, _, _⟩ | ⟨g', cap, h1, _, hp⟩
  · cases h1
  · injection h1 with e1 _ e3
    injection e1 with e1
    injection e1 with e1
    subst e1 e3
    exact ⟨hp.rg, fun j hj => hp.th j (by rw [hp.len] at hj; have := Nat.mul_le_mul_right s hp.le; omega), hne⟩
/-- the bytes as they are laid from the last on -/
def numZ (x : Int) (k : Nat) : List Int := List.replicate (8 - k) 0 ++ (numL x).drop (8 - k)
theorem BoxC.rd8 {w : World} {g : Nat} {l : List Int} (h : BoxC w g (ints .u8 l)) (hl : l.length = 8) : SlB w (.slice (some ⟨g, 0, none⟩) 8 8) l := by
  refine ⟨some ⟨g, 0, none⟩, 8, by rw [hl], .inr ⟨g, 0, 8, by rw [hl], by rw [hl]; exact Nat.le_refl _, by decide, h.rg⟩⟩
end Go.Proofs.Bl
namespace Go.Proofs.YtglenbikdahgjaaDoor
open Go Go.RowKit Go.Proofs

set_option maxRecDepth 100000 in
set_option maxHeartbeats 1000000 in
theorem two_any (x : Int) (w : World) (h0 : 0 ≤ x) (h1 : x ≤ 65535) :
    Calls Tryd.prog 46 #[.int .i64 x] w fun e w' => ∃ v, e = .returned v ∧ Bl.SlB w' v (Bl.twoL x) ∧ Bl.Ext w w' := by
  go_enter Tryd.func46, Tryd.ntmps46
  go_wp2_with fail
  go_ret
  refine ⟨_, rfl, ⟨_, _, rfl, ?_⟩, Bl.ext_alloc _ _⟩
  have h := Bl.rds_lit w 5 .u8 (Bl.twoL x) (show 2 ≤ maxLen by decide)
  have e : x / 256 % 256 = x / 256 := by omega
  unfold Bl.twoL at h ⊢
  rw [e] at h ⊢
  exact h

set_option maxRecDepth 100000 in
set_option maxHeartbeats 1000000 in
theorem number_any (x : Int) (w : World) (h0 : 0 ≤ x) (h1 : x ≤ 1099511627776) :
    Calls Tryd.prog 45 #[.int .i64 x] w fun e w' => ∃ v, e = .returned v ∧ Bl.SlB w' v (Bl.numL x) ∧ Bl.Ext w w' := by
  go_enter Tryd.func45, Tryd.ntmps45
  go_wp2_with fail
  go_loopw [3, 4] (fun o i wr => ∃ (k : Nat) (p : Option Addr) (c : Nat), k ≤ 8 ∧ i = .int .i64 (7 - k) ∧ o = .slice p k c ∧ wr.ownsRow w.heap.size 5 1 (.slice p k c) k (Bl.ints .u8 ((Bl.numL x).take k)) ∧ Bl.Ext w wr) (fun _ i _ => (intOf i + 1).toNat)
  case atStart => exact ⟨0, none, 0, by omega, rfl, rfl, ⟨rfl, .inl ⟨rfl, rfl⟩⟩, Below.refl _ _⟩
  case round =>
    obtain ⟨k, p, c, hk, rfl, rfl, hown, hE⟩ := hrel
    have Hown := Bl.hid hown
    have HE := Bl.hid hE
    clear hown hE
    by_cases hk8 : k = 8
    · subst hk8
      go_wp2_with fail
      go_ret
      exact ⟨_, rfl, ⟨p, c, rfl, Bl.Rds.of_owns Hown.out⟩, HE.out⟩
    · have hc : k = 0 ∨ k = 1 ∨ k = 2 ∨ k = 3 ∨ k = 4 ∨ k = 5 ∨ k = 6 ∨ k = 7 := by omega
      clear hk hk8
      rcases hc with rfl | rfl | rfl | rfl | rfl | rfl | rfl | rfl
      all_goals
        go_wp2_with (with_reducible refine Bl.stop_append ?_)
        refine Bl.go_on ?_
        refine Bl.wpL_app tBytes (Bl.owns_ext Hown.out (Bl.ext_alloc _ _)) (Bl.rds_one wr 5 .u8 _) rfl rfl rfl (Bl.ints_one _ _) (by decide) (by decide) (Nat.le_trans HE.out.size (Bl.ext_alloc _ _).size) ?_
        intro p2 c2 w2 hown2 hg2 hB2 hK2 hn2 hc2
        rw [← Bl.ints_append] at hown2
        have Hown2 := Bl.hid hown2
        have HE2 : Hid (Bl.Ext w w2) := Bl.hid (Below.trans (HE.out.trans (Bl.ext_alloc _ _)) hB2)
        clear hown2 hg2 hB2 hK2
        go_wp2_with fail
        go_roundw
        case rel => exact ⟨_, p2, c2, by decide, by first | rfl | go_num, rfl, by
          have h := Hown2.out
          simp only [Bl.numL, List.take_succ_cons, List.take_zero, List.nil_append, List.cons_append] at h ⊢
          first | exact h | (have e : x / 72057594037927936 % 256 = x / 72057594037927936 := by omega
                             have e2 : x / 281474976710656 % 256 = x / 281474976710656 := by omega
                             have e3 : x / 1099511627776 % 256 = x / 1099511627776 := by omega
                             simp only [e, e2, e3] at h ⊢
                             exact h), HE2.out⟩
        case measure => simp [intOf]

end Go.Proofs.YtglenbikdahgjaaDoor

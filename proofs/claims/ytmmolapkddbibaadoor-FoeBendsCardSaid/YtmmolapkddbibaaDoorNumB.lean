/- A number's eight bytes: plainly, and the walks of label.Number and of the document's. -/
import Derived.Test.YtmmolapkddbibaaDoorConB
import Derived.Test.YtmmolapkddbibaaDoorShaQ
import Derived.Test.YtmmolapkddbibaaDoorLet0
import Derived.Test.YtmmolapkddbibaaDoorLib0
namespace Go.Proofs.Bl
open Go Go.RowKit
/-- a number's eight bytes -/
def numL (x : Int) : List Int := [x / 72057594037927936 % 256, x / 281474976710656 % 256, x / 1099511627776 % 256, x / 4294967296 % 256, x / 16777216 % 256, x / 65536 % 256, x / 256 % 256, x % 256]
theorem numL_len (x : Int) : (numL x).length = 8 := rfl
theorem numL_byt (x : Int) : Byt (numL x) := fun y hy => by
  unfold numL at hy
  simp only [List.mem_cons, List.not_mem_nil, or_false] at hy
  rcases hy with rfl | rfl | rfl | rfl | rfl | rfl | rfl | rfl <;> omega
/-- a place's two bytes -/
def twoL (x : Int) : List Int := [x / 256 % 256, x % 256]
theorem twoL_byt (x : Int) : Byt (twoL x) := fun y hy => by
  unfold twoL at hy
  simp only [List.mem_cons, List.not_mem_nil, or_false] at hy
  rcases hy with rfl | rfl <;> omega
theorem BoxC.of_owns {w : World} {base e s n c g : Nat} {xs : List Value} (h : w.ownsRow base e s (.slice (some ⟨g, 0, none⟩) n c) n xs) (hne : xs ≠ []) : BoxC w g xs := by
  rcases Pk.of_owns h with ⟨h1, _, _⟩ | ⟨g', cap, h1, _, hp⟩
  · cases h1
  · injection h1 with e1 _ e3
    injection e1 with e1
    injection e1 with e1
    subst e1 e3
    exact ⟨hp.rg, fun j hj => hp.th j (by rw [hp.len] at hj; have := Nat.mul_le_mul_right s hp.le; omega), hne⟩
/-- the bytes as they are laid from the last on -/
def numZ (x : Int) (k : Nat) : List Int := List.replicate (8 - k) 0 ++ (numL x).drop (8 - k)
theorem BoxC.rd8 {w : World} {g : Nat} {l : List Int} (h : BoxC w g (ints .u8 l)) (hl : l.length = 8) : SlB w (.slice (some ⟨g, 0, none⟩) 8 8) l := by
  refine ⟨some ⟨g, 0, none⟩, 8, by rw [hl], .inr ⟨g, 0, 8, by rw [hl], by rw [hl]; exact Nat.le_refl _, by decide, h.rg⟩⟩
end Go.Proofs.Bl
namespace Go.Proofs.YtmmolapkddbibaaDoor
open Go Go.RowKit Go.Proofs

set_option maxRecDepth 100000 in
set_option maxHeartbeats 1000000 in
theorem two_any (x : Int) (w : World) (h0 : 0 ≤ x) (h1 : x ≤ 65535) :
    Calls Tryd.prog 63 #[.int .i64 x] w fun e w' => ∃ v, e = .returned v ∧ Bl.SlB w' v (Bl.twoL x) ∧ Bl.Ext w w' := by
  go_enter Tryd.func63, Tryd.ntmps63
  go_wp2_with fail
  go_ret
  refine ⟨_, rfl, ⟨_, _, rfl, ?_⟩, Bl.ext_alloc _ _⟩
  have h := Bl.rds_lit w 5 .u8 (Bl.twoL x) (show 2 ≤ maxLen by decide)
  have e : x / 256 % 256 = x / 256 := by omega
  unfold Bl.twoL at h ⊢
  rw [e] at h ⊢
  exact h

set_option maxRecDepth 100000 in
set_option maxHeartbeats 1000000 in
theorem rtwo_any (x : Int) (w : World) (h0 : 0 ≤ x) (h1 : x ≤ 65535) :
    Calls Tryd.prog 66 #[.int .i64 x] w fun e w' => ∃ v, e = .returned v ∧ Bl.SlB w' v (Bl.twoL x) ∧ Bl.Ext w w' := by
  go_enter Tryd.func66, Tryd.ntmps66
  go_wp2_with fail
  go_ret
  refine ⟨_, rfl, ⟨_, _, rfl, ?_⟩, Bl.ext_alloc _ _⟩
  have h := Bl.rds_lit w 5 .u8 (Bl.twoL x) (show 2 ≤ maxLen by decide)
  have e : x / 256 % 256 = x / 256 := by omega
  unfold Bl.twoL at h ⊢
  rw [e] at h ⊢
  exact h

set_option maxRecDepth 100000 in
set_option maxHeartbeats 1000000 in
theorem number_any (x : Int) (w : World) (h0 : 0 ≤ x) (h1 : x ≤ 1099511627776) :
    Calls Tryd.prog 62 #[.int .i64 x] w fun e w' => ∃ v, e = .returned v ∧ Bl.SlB w' v (Bl.numL x) ∧ Bl.Ext w w' := by
  go_enter Tryd.func62, Tryd.ntmps62
  go_wp2_with fail
  go_loopw [3, 4] (fun o i wr => ∃ (k : Nat) (p : Option Addr) (c : Nat), k ≤ 8 ∧ i = .int .i64 (7 - k) ∧ o = .slice p k c ∧ wr.ownsRow w.heap.size 5 1 (.slice p k c) k (Bl.ints .u8 ((Bl.numL x).take k)) ∧ Bl.Ext w wr) (fun _ i _ => (intOf i + 1).toNat)
  case atStart => exact ⟨0, none, 0, by omega, rfl, rfl, ⟨rfl, .inl ⟨rfl, rfl⟩⟩, Below.refl _ _⟩
  case round =>
    obtain ⟨k, p, c, hk, rfl, rfl, hown, hE⟩ := hrel
    have Hown := Bl.hid hown
    have HE := Bl.hid hE
    clear hown hE
    by_cases hk8 : k = 8
    · subst hk8
      go_wp2_with fail
      go_ret
      exact ⟨_, rfl, ⟨p, c, rfl, Bl.Rds.of_owns Hown.out⟩, HE.out⟩
    · have hc : k = 0 ∨ k = 1 ∨ k = 2 ∨ k = 3 ∨ k = 4 ∨ k = 5 ∨ k = 6 ∨ k = 7 := by omega
      clear hk hk8
      rcases hc with rfl | rfl | rfl | rfl | rfl | rfl | rfl | rfl
      all_goals
        go_wp2_with (with_reducible refine Bl.stop_append ?_)
        refine Bl.go_on ?_
        refine Bl.wpL_app tBytes (Bl.owns_ext Hown.out (Bl.ext_alloc _ _)) (Bl.rds_one wr 5 .u8 _) rfl rfl rfl (Bl.ints_one _ _) (by decide) (by decide) (Nat.le_trans HE.out.size (Bl.ext_alloc _ _).size) ?_
        intro p2 c2 w2 hown2 hg2 hB2 hK2 hn2 hc2
        rw [← Bl.ints_append] at hown2
        have Hown2 := Bl.hid hown2
        have HE2 : Hid (Bl.Ext w w2) := Bl.hid (Below.trans (HE.out.trans (Bl.ext_alloc _ _)) hB2)
        clear hown2 hg2 hB2 hK2
        go_wp2_with fail
        go_roundw
        case rel => exact ⟨_, p2, c2, by decide, by first | rfl | go_num, rfl, by
          have h := Hown2.out
          simp only [Bl.numL, List.take_succ_cons, List.take_zero, List.nil_append, List.cons_append] at h ⊢
          first | exact h | (have e : x / 72057594037927936 % 256 = x / 72057594037927936 := by omega
                             have e2 : x / 281474976710656 % 256 = x / 281474976710656 := by omega
                             have e3 : x / 1099511627776 % 256 = x / 1099511627776 := by omega
                             simp only [e, e2, e3] at h ⊢
                             exact h), HE2.out⟩
        case measure => simp [intOf]

set_option maxRecDepth 100000 in
set_option maxHeartbeats 1000000 in
theorem rnumber_any (x : Int) (w : World) (h0 : 0 ≤ x) (h1 : x ≤ 1099511627776) :
    Calls Tryd.prog 65 #[.int .i64 x] w fun e w' => ∃ v, e = .returned v ∧ Bl.SlB w' v (Bl.numL x) ∧ Bl.Ext w w' := by
  obtain ⟨w1, hrun, hown1, hE1, hs1⟩ := Bl.make_ints (P := Tryd.prog) tBytes 8 (by decide) (by decide) w
  have HB1 := Bl.hid (Bl.BoxC.of_owns hown1 (fun h => by cases h))
  have HE1 := Bl.hid hE1
  have hrun8 : (Instr.makeSlice 46 (.int .i64 8) (.int .i64 8)).run Tryd.prog w = .ok (.slice (some ⟨w.heap.size, 0, none⟩) 8 8) w1 := hrun
  clear hrun hown1 hE1 hs1
  go_enter Tryd.func65, Tryd.ntmps65
  go_wp2_with fail
  clear hrun8
  go_loopw [4, 5] (fun u i wr => ∃ (k : Nat) (y : Int), k ≤ 8 ∧ u = .int .u64 y ∧ Hid (y = x / 256 ^ k) ∧ 0 ≤ y ∧ y ≤ 1099511627776 ∧ i = .int .i64 (7 - k) ∧ Hid (Bl.BoxC wr w.heap.size (Bl.ints .u8 (Bl.numZ x k))) ∧ Bl.Ext w wr) (fun _ i _ => (intOf i + 1).toNat)
  case atStart => exact ⟨0, x, by omega, rfl, Bl.hid (by simp), h0, h1, rfl, HB1, HE1.out⟩
  case round =>
    obtain ⟨k, y, hk, rfl, Hy, hy0, hy1, rfl, HB, hE⟩ := hrel
    have HE := Bl.hid hE
    clear hE
    by_cases hk8 : k = 8
    · subst hk8
      go_wp2_with fail
      go_ret
      exact ⟨_, rfl, Bl.BoxC.rd8 HB.out rfl, HE.out⟩
    · have hc : k = 0 ∨ k = 1 ∨ k = 2 ∨ k = 3 ∨ k = 4 ∨ k = 5 ∨ k = 6 ∨ k = 7 := by omega
      clear hk hk8
      rcases hc with rfl | rfl | rfl | rfl | rfl | rfl | rfl | rfl
      · have hq : wr.cell? ⟨w.heap.size, 7, none⟩ = some (.int .u8 0) := HB.out.cell (i := 7) rfl
        have hf := HB.out.fz (i := 7) (show 7 < 8 by decide)
        have Hp := Bl.hid (HB.out.put (i := 7) (show 7 < 8 by decide) (.int .u8 (y % 256)))
        have Hy2 : Hid (y = x / 1) := Bl.hid (by have := Hy.out; simpa using this)
        go_wp2_with fail
        go_roundw
        case rel =>
          refine ⟨1, y / 256, by decide, rfl, Bl.hid (by rw [Hy2.out]; show x / 1 / 256 = x / 256; omega), by omega, by omega, by first | rfl | go_num, Bl.hid ?_, Below.setCell HE.out (Nat.le_refl _) _⟩
          have h := Hp.out
          rw [Bl.ints_set] at h
          have e := Hy2.out
          subst e
          try rw [Int.ediv_one] at h ⊢
          exact h
        case measure => simp [intOf]
      · have hq : wr.cell? ⟨w.heap.size, 6, none⟩ = some (.int .u8 0) := HB.out.cell (i := 6) rfl
        have hf := HB.out.fz (i := 6) (show 6 < 8 by decide)
        have Hp := Bl.hid (HB.out.put (i := 6) (show 6 < 8 by decide) (.int .u8 (y % 256)))
        have Hy2 : Hid (y = x / 256) := Bl.hid (by have := Hy.out; simpa using this)
        go_wp2_with fail
        go_roundw
        case rel =>
          refine ⟨2, y / 256, by decide, rfl, Bl.hid (by rw [Hy2.out]; show x / 256 / 256 = x / 65536; omega), by omega, by omega, by first | rfl | go_num, Bl.hid ?_, Below.setCell HE.out (Nat.le_refl _) _⟩
          have h := Hp.out
          rw [Bl.ints_set] at h
          have e := Hy2.out
          subst e
          try rw [Int.ediv_one] at h ⊢
          exact h
        case measure => simp [intOf]
      · have hq : wr.cell? ⟨w.heap.size, 5, none⟩ = some (.int .u8 0) := HB.out.cell (i := 5) rfl
        have hf := HB.out.fz (i := 5) (show 5 < 8 by decide)
        have Hp := Bl.hid (HB.out.put (i := 5) (show 5 < 8 by decide) (.int .u8 (y % 256)))
        have Hy2 : Hid (y = x / 65536) := Bl.hid (by have := Hy.out; simpa using this)
        go_wp2_with fail
        go_roundw
        case rel =>
          refine ⟨3, y / 256, by decide, rfl, Bl.hid (by rw [Hy2.out]; show x / 65536 / 256 = x / 16777216; omega), by omega, by omega, by first | rfl | go_num, Bl.hid ?_, Below.setCell HE.out (Nat.le_refl _) _⟩
          have h := Hp.out
          rw [Bl.ints_set] at h
          have e := Hy2.out
          subst e
          try rw [Int.ediv_one] at h ⊢
          exact h
        case measure => simp [intOf]
      · have hq : wr.cell? ⟨w.heap.size, 4, none⟩ = some (.int .u8 0) := HB.out.cell (i := 4) rfl
        have hf := HB.out.fz (i := 4) (show 4 < 8 by decide)
        have Hp := Bl.hid (HB.out.put (i := 4) (show 4 < 8 by decide) (.int .u8 (y % 256)))
        have Hy2 : Hid (y = x / 16777216) := Bl.hid (by have := Hy.out; simpa using this)
        go_wp2_with fail
        go_roundw
        case rel =>
          refine ⟨4, y / 256, by decide, rfl, Bl.hid (by rw [Hy2.out]; show x / 16777216 / 256 = x / 4294967296; omega), by omega, by omega, by first | rfl | go_num, Bl.hid ?_, Below.setCell HE.out (Nat.le_refl _) _⟩
          have h := Hp.out
          rw [Bl.ints_set] at h
          have e := Hy2.out
          subst e
          try rw [Int.ediv_one] at h ⊢
          exact h
        case measure => simp [intOf]
      · have hq : wr.cell? ⟨w.heap.size, 3, none⟩ = some (.int .u8 0) := HB.out.cell (i := 3) rfl
        have hf := HB.out.fz (i := 3) (show 3 < 8 by decide)
        have Hp := Bl.hid (HB.out.put (i := 3) (show 3 < 8 by decide) (.int .u8 (y % 256)))
        have Hy2 : Hid (y = x / 4294967296) := Bl.hid (by have := Hy.out; simpa using this)
        go_wp2_with fail
        go_roundw
        case rel =>
          refine ⟨5, y / 256, by decide, rfl, Bl.hid (by rw [Hy2.out]; show x / 4294967296 / 256 = x / 1099511627776; omega), by omega, by omega, by first | rfl | go_num, Bl.hid ?_, Below.setCell HE.out (Nat.le_refl _) _⟩
          have h := Hp.out
          rw [Bl.ints_set] at h
          have e := Hy2.out
          subst e
          try rw [Int.ediv_one] at h ⊢
          exact h
        case measure => simp [intOf]
      · have hq : wr.cell? ⟨w.heap.size, 2, none⟩ = some (.int .u8 0) := HB.out.cell (i := 2) rfl
        have hf := HB.out.fz (i := 2) (show 2 < 8 by decide)
        have Hp := Bl.hid (HB.out.put (i := 2) (show 2 < 8 by decide) (.int .u8 (y % 256)))
        have Hy2 : Hid (y = x / 1099511627776) := Bl.hid (by have := Hy.out; simpa using this)
        go_wp2_with fail
        go_roundw
        case rel =>
          refine ⟨6, y / 256, by decide, rfl, Bl.hid (by rw [Hy2.out]; show x / 1099511627776 / 256 = x / 281474976710656; omega), by omega, by omega, by first | rfl | go_num, Bl.hid ?_, Below.setCell HE.out (Nat.le_refl _) _⟩
          have h := Hp.out
          rw [Bl.ints_set] at h
          have e := Hy2.out
          subst e
          try rw [Int.ediv_one] at h ⊢
          exact h
        case measure => simp [intOf]
      · have hq : wr.cell? ⟨w.heap.size, 1, none⟩ = some (.int .u8 0) := HB.out.cell (i := 1) rfl
        have hf := HB.out.fz (i := 1) (show 1 < 8 by decide)
        have Hp := Bl.hid (HB.out.put (i := 1) (show 1 < 8 by decide) (.int .u8 (y % 256)))
        have Hy2 : Hid (y = x / 281474976710656) := Bl.hid (by have := Hy.out; simpa using this)
        go_wp2_with fail
        go_roundw
        case rel =>
          refine ⟨7, y / 256, by decide, rfl, Bl.hid (by rw [Hy2.out]; show x / 281474976710656 / 256 = x / 72057594037927936; omega), by omega, by omega, by first | rfl | go_num, Bl.hid ?_, Below.setCell HE.out (Nat.le_refl _) _⟩
          have h := Hp.out
          rw [Bl.ints_set] at h
          have e := Hy2.out
          subst e
          try rw [Int.ediv_one] at h ⊢
          exact h
        case measure => simp [intOf]
      · have hq : wr.cell? ⟨w.heap.size, 0, none⟩ = some (.int .u8 0) := HB.out.cell (i := 0) rfl
        have hf := HB.out.fz (i := 0) (show 0 < 8 by decide)
        have Hp := Bl.hid (HB.out.put (i := 0) (show 0 < 8 by decide) (.int .u8 (y % 256)))
        have Hy2 : Hid (y = x / 72057594037927936) := Bl.hid (by have := Hy.out; simpa using this)
        go_wp2_with fail
        go_roundw
        case rel =>
          refine ⟨8, y / 256, by decide, rfl, Bl.hid (by rw [Hy2.out]; show x / 72057594037927936 / 256 = x / 18446744073709551616; omega), by omega, by omega, by first | rfl | go_num, Bl.hid ?_, Below.setCell HE.out (Nat.le_refl _) _⟩
          have h := Hp.out
          rw [Bl.ints_set] at h
          have e := Hy2.out
          subst e
          try rw [Int.ediv_one] at h ⊢
          exact h
        case measure => simp [intOf]
end Go.Proofs.YtmmolapkddbibaaDoor

/- Texts that stood apart, in one: Word, FoeW. -/
import Derived.Test.YtmmolapkddbibaaDoorChecked
import Derived.Test.YtmmolapkddbibaaDoorLet0
/- The kinds' words: the table, and the walk of letter.Word. -/
namespace Go.Proofs.YtmmolapkddbibaaDoor
open Go Go.RowKit Go.Proofs
def lwords : List (List UInt8) := [[], [112, 117, 116], [97, 99, 107], [97, 115, 107], [97, 110, 115, 119, 101, 114], [102, 101, 116, 99, 104], [103, 105, 118, 101], [114, 101, 102, 117, 115, 101]]
/-- a kind's word -/
def lword (k : Int) : ByteArray := if 1 ≤ k ∧ k ≤ 7 then ⟨(lwords.getD k.toNat []).toArray⟩ else ⟨#[]⟩
structure GlobL (w : World) : Prop where
  words : ∀ i z, lwords[i]? = some z → w.cell? ⟨1, i, none⟩ = some (.string ⟨z.toArray⟩)
theorem GlobL.ext {w w' : World} (h : GlobL w) (hb : Bl.Ext w w') : GlobL w' := ⟨fun i z hz => ((Bl.bcell hb).1 _ _ (World.block_lt_of_cell? w _ (h.words 0 [] rfl))).trans (h.words i z hz)⟩

set_option maxRecDepth 100000 in
theorem lword_any (k : Int) (w : World) (hg : GlobL w) : Calls Tryd.prog 17 #[.int .i64 k] w fun e w' => e = .returned (.string (lword k)) ∧ w = w' := by
  by_cases h1 : k < 1
  · have Hv : Hid (lword k = ⟨#[]⟩) := Bl.hid (by unfold lword; rw [if_neg (by omega)])
    go_enter Tryd.func17, Tryd.ntmps17
    go_wp2
    go_ret
    exact ⟨by rw [Hv.out]; rfl, rfl⟩
  by_cases h2 : 7 < k
  · have Hv : Hid (lword k = ⟨#[]⟩) := Bl.hid (by unfold lword; rw [if_neg (by omega)])
    go_enter Tryd.func17, Tryd.ntmps17
    go_wp2
    go_ret
    exact ⟨by rw [Hv.out]; rfl, rfl⟩
  have hc : k = 1 ∨ k = 2 ∨ k = 3 ∨ k = 4 ∨ k = 5 ∨ k = 6 ∨ k = 7 := by omega
  clear h1 h2
  rcases hc with rfl | rfl | rfl | rfl | rfl | rfl | rfl
  · have h3 := hg.words 1 _ rfl
    go_enter Tryd.func17, Tryd.ntmps17
    go_wp2
    go_ret
    exact ⟨rfl, rfl⟩
  · have h3 := hg.words 2 _ rfl
    go_enter Tryd.func17, Tryd.ntmps17
    go_wp2
    go_ret
    exact ⟨rfl, rfl⟩
  · have h3 := hg.words 3 _ rfl
    go_enter Tryd.func17, Tryd.ntmps17
    go_wp2
    go_ret
    exact ⟨rfl, rfl⟩
  · have h3 := hg.words 4 _ rfl
    go_enter Tryd.func17, Tryd.ntmps17
    go_wp2
    go_ret
    exact ⟨rfl, rfl⟩
  · have h3 := hg.words 5 _ rfl
    go_enter Tryd.func17, Tryd.ntmps17
    go_wp2
    go_ret
    exact ⟨rfl, rfl⟩
  · have h3 := hg.words 6 _ rfl
    go_enter Tryd.func17, Tryd.ntmps17
    go_wp2
    go_ret
    exact ⟨rfl, rfl⟩
  · have h3 := hg.words 7 _ rfl
    go_enter Tryd.func17, Tryd.ntmps17
    go_wp2
    go_ret
    exact ⟨rfl, rfl⟩
end Go.Proofs.YtmmolapkddbibaaDoor

/- The tricks' words: the table, and the walks of foe.Word and foe.Honest. -/
namespace Go.Proofs.YtmmolapkddbibaaDoor
open Go Go.RowKit Go.Proofs
def fwords : List (List UInt8) := [[110, 111, 110, 101], [98, 108, 111, 99, 107], [112, 97, 116, 104], [115, 119, 97, 112], [99, 117, 116], [112, 108, 97, 99, 101], [114, 101, 102, 117, 115, 101], [105, 100], [111, 98, 106, 101, 99, 116], [115, 105, 108, 101, 110, 99, 101]]
/-- a trick's word -/
def fword (k : Int) : ByteArray := if 0 ≤ k ∧ k ≤ 9 then ⟨(fwords.getD k.toNat []).toArray⟩ else ⟨#[]⟩
structure GlobW (w : World) : Prop where
  words : ∀ i z, fwords[i]? = some z → w.cell? ⟨0, i, none⟩ = some (.string ⟨z.toArray⟩)
theorem GlobW.ext {w w' : World} (h : GlobW w) (hb : Bl.Ext w w') : GlobW w' := ⟨fun i z hz => ((Bl.bcell hb).1 _ _ (World.block_lt_of_cell? w _ (h.words 0 _ rfl))).trans (h.words i z hz)⟩

set_option maxRecDepth 100000 in
theorem fword_any (k : Int) (w : World) (hg : GlobW w) : Calls Tryd.prog 13 #[.int .i64 k] w fun e w' => e = .returned (.string (fword k)) ∧ w = w' := by
  by_cases h1 : k < 0
  · have Hv : Hid (fword k = ⟨#[]⟩) := Bl.hid (by unfold fword; rw [if_neg (by omega)])
    go_enter Tryd.func13, Tryd.ntmps13
    go_wp2
    go_ret
    exact ⟨by rw [Hv.out]; rfl, rfl⟩
  by_cases h2 : 9 < k
  · have Hv : Hid (fword k = ⟨#[]⟩) := Bl.hid (by unfold fword; rw [if_neg (by omega)])
    go_enter Tryd.func13, Tryd.ntmps13
    go_wp2
    go_ret
    exact ⟨by rw [Hv.out]; rfl, rfl⟩
  have hc : k = 0 ∨ k = 1 ∨ k = 2 ∨ k = 3 ∨ k = 4 ∨ k = 5 ∨ k = 6 ∨ k = 7 ∨ k = 8 ∨ k = 9 := by omega
  clear h1 h2
  rcases hc with rfl | rfl | rfl | rfl | rfl | rfl | rfl | rfl | rfl | rfl
  · have h3 := hg.words 0 _ rfl
    go_enter Tryd.func13, Tryd.ntmps13
    go_wp2
    go_ret
    exact ⟨rfl, rfl⟩
  · have h3 := hg.words 1 _ rfl
    go_enter Tryd.func13, Tryd.ntmps13
    go_wp2
    go_ret
    exact ⟨rfl, rfl⟩
  · have h3 := hg.words 2 _ rfl
    go_enter Tryd.func13, Tryd.ntmps13
    go_wp2
    go_ret
    exact ⟨rfl, rfl⟩
  · have h3 := hg.words 3 _ rfl
    go_enter Tryd.func13, Tryd.ntmps13
    go_wp2
    go_ret
    exact ⟨rfl, rfl⟩
  · have h3 := hg.words 4 _ rfl
    go_enter Tryd.func13, Tryd.ntmps13
    go_wp2
    go_ret
    exact ⟨rfl, rfl⟩
  · have h3 := hg.words 5 _ rfl
    go_enter Tryd.func13, Tryd.ntmps13
    go_wp2
    go_ret
    exact ⟨rfl, rfl⟩
  · have h3 := hg.words 6 _ rfl
    go_enter Tryd.func13, Tryd.ntmps13
    go_wp2
    go_ret
    exact ⟨rfl, rfl⟩
  · have h3 := hg.words 7 _ rfl
    go_enter Tryd.func13, Tryd.ntmps13
    go_wp2
    go_ret
    exact ⟨rfl, rfl⟩
  · have h3 := hg.words 8 _ rfl
    go_enter Tryd.func13, Tryd.ntmps13
    go_wp2
    go_ret
    exact ⟨rfl, rfl⟩
  · have h3 := hg.words 9 _ rfl
    go_enter Tryd.func13, Tryd.ntmps13
    go_wp2
    go_ret
    exact ⟨rfl, rfl⟩

set_option maxRecDepth 100000 in
theorem honest_any (k a b : Int) (w : World) : Calls Tryd.prog 14 #[.agg #[.int .i64 k, .int .i64 a, .int .i64 b]] w fun e w' => e = .returned (.bool (k == 0)) ∧ Bl.Ext w w' := by
  have HE : Hid (Bl.Ext w (w.alloc (.cells #[.int .i64 k, .int .i64 a, .int .i64 b] 28))) := Bl.hid (Bl.ext_alloc _ _)
  have Hq := (Bl.BoxC.box (cs := [.int .i64 k, .int .i64 a, .int .i64 b]) w 28 (fun q => by cases q)).cell (i := 0) (v := .int .i64 k) rfl
  go_enter Tryd.func14, Tryd.ntmps14
  go_wp2_with fail
  go_ret
  exact ⟨rfl, HE.out⟩
end Go.Proofs.YtmmolapkddbibaaDoor

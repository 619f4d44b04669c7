/- The two Bends, joined; the law's alive. -/
import Derived.Test.YtmmolapkddbibaaDoorFoB
import Derived.Test.YtmmolapkddbibaaDoorFoC
import Derived.Test.YtmmolapkddbibaaDoorFoRa
import Derived.Test.YtmmolapkddbibaaDoorFoRu
import Derived.Test.YtmmolapkddbibaaDoorFoRs
import Derived.Test.YtmmolapkddbibaaDoorFoRt
import Derived.Test.YtmmolapkddbibaaDoorWds
namespace Go.Proofs.Bl
open Go Go.RowKit
def Pl40 (L : List Sh) : Prop := ∀ s ∈ L, s.2.2.length ≤ 40
theorem Pl40.at {L : List Sh} (h : Pl40 L) (i : Nat) : (L.getD i h0).2.2.length ≤ 40 := by
  by_cases hi : i < L.length
  · exact h _ (getD_mem h0 hi)
  · rw [List.getD_eq_getElem?_getD, List.getElem?_eq_none (by omega)]
    decide
theorem Pl40.set {L : List Sh} (h : Pl40 L) (i : Nat) {s : Sh} (hs : s.2.2.length ≤ 40) : Pl40 (L.set i s) := fun x hx => by
  rcases List.mem_or_eq_of_mem_set hx with hx | rfl
  · exact h x hx
  · exact hs
theorem bendS_pl {k : Int} {i : Nat} {y : Int} {L : List Sh} (h : Pl40 L) : Pl40 (bendS k i y L) := by
  unfold bendS
  split
  · exact h.set i (by unfold flS; exact h.at i)
  split
  · refine h.set i ?_
    unfold flP
    split
    · show (List.set _ _ _).length ≤ 40
      rw [List.length_set]
      exact h.at i
    · exact h.at i
  split
  · unfold swS
    exact Pl40.set (Pl40.set h 0 (s := ((L.getD 0 h0).1, (L.getD i h0).2)) (h.at i)) i (s := ((L.getD i h0).1, (L.getD 0 h0).2)) (h.at 0)
  split
  · split
    · exact fun x hx => h x (List.mem_of_mem_eraseIdx hx)
    · exact h
  split
  · exact h.set i (h.at i)
  · exact h
theorem bendS_len {k : Int} {i : Nat} {y : Int} {L : List Sh} : (bendS k i y L).length ≤ L.length := by
  unfold bendS swS
  split
  · rw [List.length_set]; exact Nat.le_refl _
  split
  · rw [List.length_set]; exact Nat.le_refl _
  split
  · rw [List.length_set, List.length_set]; exact Nat.le_refl _
  split
  · split
    · exact List.length_eraseIdx_le _ _
    · exact Nat.le_refl _
  split
  · rw [List.length_set]; exact Nat.le_refl _
  · exact Nat.le_refl _
theorem bendL_sz {k a y : Int} {l : LT} (h : LgL l) : (bendL k a y l).1.shown.length ≤ 30 ∧ Pl40 (bendL k a y l).1.shown := by
  have hp : Pl40 l.shown := fun s hs => (h.st s hs).2
  unfold bendL
  split
  · exact ⟨by decide, fun s hs => by cases hs⟩
  split
  · exact ⟨Nat.zero_le _, fun s hs => by cases hs⟩
  split
  · exact ⟨h.sh, hp⟩
  split
  · exact ⟨h.sh, hp⟩
  split
  · exact ⟨h.sh, hp⟩
  · unfold bendA
    split
    · exact ⟨Nat.le_trans bendS_len h.sh, bendS_pl hp⟩
    · exact ⟨h.sh, hp⟩
end Go.Proofs.Bl
namespace Go.Proofs.YtmmolapkddbibaaDoor
open Go Go.RowKit Go.Proofs
theorem bend_any (k at' y : Int) (v : Value) (l : Bl.LT) (w : World) (h : Bl.LtV w v l) (hLg : Bl.LgL l) (hid : -1125899906842624 ≤ l.id ∧ l.id ≤ 1125899906842624) :
    Calls Tryd.prog 10 #[v, .agg #[.int .i64 k, .int .i64 at', .int .i64 y]] w fun e w' => Bl.BeR k at' y l w e w' := by
  by_cases h1 : k = 1
  · subst h1
    exact bend1 at' y v l w h hLg hid
  by_cases h2 : k = 2
  · subst h2
    exact bend2 at' y v l w h hLg hid
  by_cases h3 : k = 3
  · subst h3
    exact bend3 at' y v l w h hLg hid
  by_cases h4 : k = 4
  · subst h4
    exact bend4 at' y v l w h hLg hid
  by_cases h5 : k = 5
  · subst h5
    exact bend5 at' y v l w h hLg hid
  by_cases h6 : k = 6
  · subst h6
    exact bend6 at' y v l w h hLg hid
  by_cases h7 : k = 7
  · subst h7
    exact bend7 at' y v l w h hLg hid
  by_cases h8 : k = 8
  · subst h8
    exact bend8 at' y v l w h hLg hid
  by_cases h9 : k = 9
  · subst h9
    exact bend9 at' y v l w h hLg hid
  exact bendo k at' y v l w h hLg hid h1 h2 h3 h4 h5 h6 h7 h8 h9
theorem refbend_any (k at' y : Int) (v : Value) (l : Bl.LT) (w : World) (h : Bl.LtV w v l) (hLg : Bl.LgL l) (hid : -1125899906842624 ≤ l.id ∧ l.id ≤ 1125899906842624) :
    Calls Tryd.prog 11 #[v, .int .i64 k, .int .i64 at', .int .i64 y] w fun e w' => Bl.BeR k at' y l w e w' := by
  by_cases h9 : k = 9
  · subst h9
    exact refb9 at' y v l w h hLg hid
  by_cases h6 : k = 6
  · subst h6
    exact refb6 at' y v l w h hLg hid
  by_cases h7 : k = 7
  · subst h7
    exact refb7 at' y v l w h hLg hid
  by_cases h8 : k = 8
  · subst h8
    exact refb8 at' y v l w h hLg hid
  by_cases h1 : k = 1
  · subst h1
    by_cases hk6 : l.kind = 6
    · by_cases h0 : l.blocks.length = 0
      · exact refbnc at' y v l w h hLg hid hk6 h0
      · exact refbk6 at' y v l w h hLg hid hk6 (by omega)
    by_cases hk4 : l.kind = 4
    · by_cases h0 : l.shown.length = 0
      · exact refbne at' y v l w h hLg hid hk4 h0
      · exact refbs1 at' y v l w h hLg hid hk4 (by omega)
    exact refbnb at' y v l w h hLg hid hk6 hk4
  by_cases hk4 : l.kind = 4
  · by_cases h0 : l.shown.length = 0
    · exact refbnd k at' y v l w h hLg hid h1 h6 h7 h8 h9 hk4 h0
    by_cases hl : k < 1
    · exact refbnf k at' y v l w h hLg hid h1 h6 h7 h8 h9 hk4 h0 hl
    by_cases hr : 5 < k
    · exact refbng k at' y v l w h hLg hid h1 h6 h7 h8 h9 hk4 h0 hr
    have hc : k = 2 ∨ k = 3 ∨ k = 4 ∨ k = 5 := by omega
    rcases hc with rfl | rfl | rfl | rfl
    · exact refbs2 at' y v l w h hLg hid hk4 (by omega)
    · exact refbs3 at' y v l w h hLg hid hk4 (by omega)
    · exact refbs4 at' y v l w h hLg hid hk4 (by omega)
    · exact refbs5 at' y v l w h hLg hid hk4 (by omega)
  · exact refbna k at' y v l w h hLg hid h1 h6 h7 h8 h9 hk4

theorem bare_lt (w : World) (k i : Int) : Bl.LtV w (.agg #[.int .i64 k, .int .i64 i, .int .i64 0, .slice none 0 0, .slice none 0 0, .int .i64 0, .int .i64 0, .slice none 0 0, .int .i64 0]) ⟨k, i, 0, [], [], 0, 0, [], 0⟩ :=
  ⟨_, _, _, _, [], rfl, rfl, Bl.Rds.nil _, Bl.RdS.nil _, rfl, Bl.Rdss.nil _, fun b hb => by cases hb⟩
theorem bare_lg (k i : Int) : Bl.LgL ⟨k, i, 0, [], [], 0, 0, [], 0⟩ := ⟨Nat.zero_le _, Nat.zero_le _, Nat.zero_le _, fun s hs => (by cases hs), fun s hs => (by cases hs)⟩

set_option maxRecDepth 100000 in
set_option maxHeartbeats 2000000 in
theorem alive29 (w : World) (hg : GlobW w) : Calls Tryd.prog 7 #[] w fun e w' => e = .returned (.bool true) ∧ Bl.Ext w w' := by
  have HB9 : Hid (∀ w2, Calls Tryd.prog 10 #[.agg #[.int .i64 2, .int .i64 0, .int .i64 0, .slice none 0 0, .slice none 0 0, .int .i64 0, .int .i64 0, .slice none 0 0, .int .i64 0], .agg #[.int .i64 9, .int .i64 0, .int .i64 0]] w2 fun e w' => ∃ v', e = .returned (.tuple #[v', .bool false]) ∧ Bl.LtV w' v' Bl.lt0 ∧ Bl.Ext w2 w') := Bl.hid fun w2 => bend_any 9 0 0 _ ⟨2, 0, 0, [], [], 0, 0, [], 0⟩ w2 (bare_lt w2 2 0) (bare_lg 2 0) (by decide)
  have HB7 : Hid (∀ w2, Calls Tryd.prog 10 #[.agg #[.int .i64 2, .int .i64 3, .int .i64 0, .slice none 0 0, .slice none 0 0, .int .i64 0, .int .i64 0, .slice none 0 0, .int .i64 0], .agg #[.int .i64 7, .int .i64 0, .int .i64 0]] w2 fun e w' => ∃ v', e = .returned (.tuple #[v', .bool true]) ∧ Bl.LtV w' v' ⟨2, 4, 0, [], [], 0, 0, [], 0⟩ ∧ Bl.Ext w2 w') := Bl.hid fun w2 => bend_any 7 0 0 _ ⟨2, 3, 0, [], [], 0, 0, [], 0⟩ w2 (bare_lt w2 2 3) (bare_lg 2 3) (by decide)
  have HWd : Hid (∀ w2, Bl.Ext w w2 → Calls Tryd.prog 13 #[.int .i64 9] w2 fun e w' => e = .returned (.string ⟨#[115, 105, 108, 101, 110, 99, 101]⟩) ∧ w2 = w') := Bl.hid fun w2 h => fword_any 9 w2 (hg.ext h)
  clear hg
  go_enter Tryd.func7, Tryd.ntmps7
  go_wp2_with fail
  refine (HB9.out w).mono ?_
  rintro e w2 ⟨v2, rfl, ⟨cs2, p2, s2, b2, L2, rfl, hc2⟩, hE2⟩
  obtain rfl := hc2.eq
  obtain ⟨hB3, hE3⟩ := Bl.BoxC.fresh (cs := (Bl.cL Bl.lt0 p2 s2 b2)) w2 26 Bl.zL rfl (Bl.cL_ne _ _ _ _)
  have Hst3 := Bl.hid (Bl.fresh_store (P := Tryd.prog) (cs := (Bl.cL Bl.lt0 p2 s2 b2)) w2 26 Bl.zL rfl hc2.one (ty := 26) (by kernel_rfl))
  have HB3 := Bl.hid hB3
  have HE3 := Bl.hid (hE2.trans hE3)
  clear hB3 hE3 hc2
  go_wp2_with (with_reducible refine Bl.stop_store (ty := 26) ?_)
  refine Bl.go_on ?_
  refine Bl.wpL_store0 rfl rfl Hst3.out ?_
  obtain ⟨W3, hW3⟩ : ∃ W, W = (w2.alloc (.cells Bl.zL 26)).setCells w2.heap.size 0 (Bl.cL Bl.lt0 p2 s2 b2) := ⟨_, rfl⟩
  obtain ⟨D3, hD3⟩ : ∃ D, D = w2.heap.size := ⟨_, rfl⟩
  rw [← hW3] at HB3 HE3 ⊢
  rw [← hD3] at HB3 ⊢
  clear hW3 hD3 Hst3
  go_wp2_with fail
  refine (HB7.out W3).mono ?_
  rintro e w4 ⟨v4, rfl, ⟨cs4, p4, s4, b4, L4, rfl, hc4⟩, hE4⟩
  obtain rfl := hc4.eq
  have HE4 := Bl.hid (HE3.out.trans hE4)
  clear hE4
  obtain ⟨hB5, hE5⟩ := Bl.BoxC.fresh (cs := (Bl.cL ⟨2, 4, 0, [], [], 0, 0, [], 0⟩ p4 s4 b4)) w4 26 Bl.zL rfl (Bl.cL_ne _ _ _ _)
  have Hst5 := Bl.hid (Bl.fresh_store (P := Tryd.prog) (cs := (Bl.cL ⟨2, 4, 0, [], [], 0, 0, [], 0⟩ p4 s4 b4)) w4 26 Bl.zL rfl hc4.one (ty := 26) (by kernel_rfl))
  have HB5 := Bl.hid hB5
  have HE5 := Bl.hid (HE4.out.trans hE5)
  clear hB5 hE5 hc4
  go_wp2_with (with_reducible refine Bl.stop_store (ty := 26) ?_)
  refine Bl.go_on ?_
  refine Bl.wpL_store0 rfl rfl Hst5.out ?_
  obtain ⟨W5, hW5⟩ : ∃ W, W = (w4.alloc (.cells Bl.zL 26)).setCells w4.heap.size 0 (Bl.cL ⟨2, 4, 0, [], [], 0, 0, [], 0⟩ p4 s4 b4) := ⟨_, rfl⟩
  obtain ⟨D5, hD5⟩ : ∃ D, D = w4.heap.size := ⟨_, rfl⟩
  rw [← hW5] at HB5 HE5 ⊢
  rw [← hD5] at HB5 ⊢
  clear hW5 hD5 Hst5
  have qid := HB5.out.cell (i := 1) (v := .int .i64 4) rfl
  go_wp2_with fail
  refine (HWd.out W5 HE5.out).mono ?_
  rintro e w6 ⟨rfl, hw6⟩
  subst hw6
  go_wp2_with fail
  go_ret
  exact ⟨by rfl, HE5.out⟩
end Go.Proofs.YtmmolapkddbibaaDoor

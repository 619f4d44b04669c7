/- Walks of tree.Root, baileeref12.Root, baileelaw12.Long. -/
import Derived.Test.YtmfooocdnoflaaaDoorWOver
import Derived.Test.YtmfooocdnoflaaaDoorWRefOver
namespace Go.Proofs.Bl
open Go Go.RowKit
/-- the root of leaves -/
def rootD (ps : List (List Int)) : List Int := overD (ps.map lfD)
theorem rootD_length (ps : List (List Int)) (h : ps.length ≤ 1048576) : (rootD ps).length = 32 := (overD_dig _ _ rfl (dig_leaves ps) (by rw [List.length_map]; omega)).1
theorem rootD_byt (ps : List (List Int)) (h : ps.length ≤ 1048576) : Byt (rootD ps) := (overD_dig _ _ rfl (dig_leaves ps) (by rw [List.length_map]; omega)).2
theorem rootD_one (p : List Int) : rootD [p] = lfD p := over_one ndD zD (lfD p)
theorem rootD_hi (ps : List (List Int)) (h : 2 ≤ ps.length) (h2 : ps.length ≤ 1048576) : rootD ps = ndD (rootD (ps.take (sp ps.length))) (rootD (ps.drop (sp ps.length))) := by
  unfold rootD overD
  rw [over_hi ndD zD (ps.map lfD) (by rw [List.length_map]; omega) (by rw [List.length_map]; omega), List.length_map, List.map_take, List.map_drop]
theorem Rdss.take {w : World} {b o n c : Nat} {ps : List (List Int)} (h : Rdss w (.slice (some ⟨b, o, none⟩) n c) ps) (k : Nat) (hk : k ≤ ps.length) : Rdss w (.slice (some ⟨b, o, none⟩) k c) (ps.take k) := by
  obtain ⟨vs, hv, hl, hr⟩ := h
  have hlt : (ps.take k).length = k := by rw [List.length_take]; omega
  refine ⟨vs.take k, ?_, by rw [List.length_take, List.length_take, hl], fun j hj => ?_⟩
  · rw [hlt]
    rcases hv with ⟨⟨p, h1⟩, h2, h3⟩ | ⟨b', o', c', h1, h2, h3, h4⟩
    · injection h1 with e1 e2 e3
      obtain rfl : k = 0 := by omega
      refine .inl ⟨⟨_, by rw [e3]⟩, rfl, by simp⟩
    · injection h1 with e1 e2 e3
      injection e1 with e1
      injection e1 with e4 e5
      subst e4 e5 e3
      exact .inr ⟨_, _, _, rfl, by omega, h3, rangeAt_take h4 k⟩
  · have hjk : j < k := by omega
    have := hr j (by omega)
    rw [List.getD_eq_getElem?_getD, List.getElem?_take, if_pos hjk, ← List.getD_eq_getElem?_getD, List.getD_eq_getElem?_getD (l := ps.take k), List.getElem?_take, if_pos hjk, ← List.getD_eq_getElem?_getD]
    exact this
theorem Rdss.drop {w : World} {b o n c : Nat} {ps : List (List Int)} (h : Rdss w (.slice (some ⟨b, o, none⟩) n c) ps) (k : Nat) (hk : k < ps.length) : Rdss w (.slice (some ⟨b, o + k, none⟩) (n - k) (c - k)) (ps.drop k) := by
  obtain ⟨vs, hv, hl, hr⟩ := h
  refine ⟨vs.drop k, ?_, by rw [List.length_drop, List.length_drop, hl], fun j hj => ?_⟩
  · rcases hv with ⟨⟨p, h1⟩, h2, h3⟩ | ⟨b', o', c', h1, h2, h3, h4⟩
    · omega
    · injection h1 with e1 e2 e3
      injection e1 with e1
      injection e1 with e4 e5
      subst e4 e5 e3 e2
      refine .inr ⟨_, _, _, by rw [List.length_drop], by rw [List.length_drop]; omega, by omega, rangeAt_drop h4 k⟩
  · rw [List.length_drop] at hj
    have := hr (k + j) (by omega)
    rw [List.getD_eq_getElem?_getD, List.getElem?_drop, ← List.getD_eq_getElem?_getD, List.getD_eq_getElem?_getD (l := ps.drop k), List.getElem?_drop, ← List.getD_eq_getElem?_getD]
    exact this
end Go.Proofs.Bl
namespace Go.Proofs.YtmfooocdnoflaaaDoor
open Go.RowKit Go.Proofs

set_option maxRecDepth 100000 in
set_option maxHeartbeats 400000 in
theorem root_any (v : Value) (ps : List (List Int)) (w : World) (hR : Bl.Rdss w v ps) (hg : Glob w) (hby : ∀ p ∈ ps, Bl.Byt p) (hlp : ∀ p ∈ ps, p.length ≤ 1099511627000) (hn : ps.length ≤ 1048576) :
    Calls Tryd.prog 65 #[v] w fun e w' => e = .returned (.agg (Bl.ints .u8 (Bl.rootD ps)).toArray) ∧ Bl.Ext w w' := by
  have HR := Bl.hid hR
  have Hg := Bl.hid hg
  have Hby := Bl.hid hby
  have Hlp := Bl.hid hlp
  have Hn := Bl.hid hn
  have HF0 := Bl.hid (fam_new w 32 .u8 39 #[.int .u8 0, .int .u8 0, .int .u8 0, .int .u8 0, .int .u8 0, .int .u8 0, .int .u8 0, .int .u8 0, .int .u8 0, .int .u8 0, .int .u8 0, .int .u8 0, .int .u8 0, .int .u8 0, .int .u8 0, .int .u8 0, .int .u8 0, .int .u8 0, .int .u8 0, .int .u8 0, .int .u8 0, .int .u8 0, .int .u8 0, .int .u8 0, .int .u8 0, .int .u8 0, .int .u8 0, .int .u8 0, .int .u8 0, .int .u8 0, .int .u8 0, .int .u8 0] rfl)
  have HE0 := Bl.hid (Bl.ext_alloc w (.cells #[.int .u8 0, .int .u8 0, .int .u8 0, .int .u8 0, .int .u8 0, .int .u8 0, .int .u8 0, .int .u8 0, .int .u8 0, .int .u8 0, .int .u8 0, .int .u8 0, .int .u8 0, .int .u8 0, .int .u8 0, .int .u8 0, .int .u8 0, .int .u8 0, .int .u8 0, .int .u8 0, .int .u8 0, .int .u8 0, .int .u8 0, .int .u8 0, .int .u8 0, .int .u8 0, .int .u8 0, .int .u8 0, .int .u8 0, .int .u8 0, .int .u8 0, .int .u8 0] 39))
  clear hR hg hby hlp hn
  go_enter Tryd.func65, Tryd.ntmps65
  go_wp2_with fail
  obtain ⟨W0, hW0⟩ : ∃ W0, W0 = w.alloc (.cells #[.int .u8 0, .int .u8 0, .int .u8 0, .int .u8 0, .int .u8 0, .int .u8 0, .int .u8 0, .int .u8 0, .int .u8 0, .int .u8 0, .int .u8 0, .int .u8 0, .int .u8 0, .int .u8 0, .int .u8 0, .int .u8 0, .int .u8 0, .int .u8 0, .int .u8 0, .int .u8 0, .int .u8 0, .int .u8 0, .int .u8 0, .int .u8 0, .int .u8 0, .int .u8 0, .int .u8 0, .int .u8 0, .int .u8 0, .int .u8 0, .int .u8 0, .int .u8 0] 39) := ⟨_, rfl⟩
  rw [← hW0] at HF0 HE0 ⊢
  clear hW0
  refine (leaves_any v ps W0 (Bl.Rdss.ext HR.out HE0.out) (Hg.out.ext HE0.out) Hby.out Hlp.out Hn.out).mono ?_
  rintro e w1 ⟨p, c, rfl, hown, hE1⟩
  have HL : Hid (Bl.RdD w1 (.slice p ps.length c) (ps.map Bl.lfD)) := Bl.hid (by show Bl.Rds w1 _ (ps.map Bl.lfD).length _; rw [List.length_map]; exact Bl.Rds.of_owns hown)
  have HE1 := Bl.hid hE1
  clear hown hE1
  go_wp2_with fail
  refine (over_any _ (ps.map Bl.lfD) w1 (by rw [List.length_map]; exact Hn.out) (Bl.dig_leaves ps) HL.out (Hg.out.ext (HE0.out.trans HE1.out))).mono ?_
  rintro e w2 ⟨rfl, hE2⟩
  obtain ⟨sh, hsh⟩ : ∃ sh, sh = Bl.overD (ps.map Bl.lfD) := ⟨_, rfl⟩
  have Hshl : Hid (sh.length = 32) := Bl.hid (by rw [hsh]; exact Bl.rootD_length ps Hn.out)
  have Hsh : Hid (sh = Bl.rootD ps) := Bl.hid hsh
  have HE2 := Bl.hid (HE1.out.trans hE2)
  rw [← hsh]
  clear hsh hE2
  have HFc := Bl.hid (HF0.out.below HE2.out (World.block_lt_of_cell? _ _ (HF0.out.1 0 (by decide))))
  have Hstc := Bl.hid (Bl.store_ints (P := Tryd.prog) (k := .u8) (ty := 39) (l := sh) HFc.out.there (by kernel_rfl) Hshl.out)
  go_wp2_with (((with_reducible refine Bl.wpL_store ?_ ?_ Hstc.out ?_); rfl; rfl))
  have hinc := World.rangeAt_setCells_same _ (w.heap.size) 0 (Bl.ints .u8 sh) (by rw [Bl.ints_length, Hshl.out]; exact HFc.out.there)
  have hldc := run_loadVar_mid (P := Tryd.prog) _ (w.heap.size) 0 39 (Bl.ints .u8 sh) _ hinc Tryd.underlying39 rfl (by rw [Bl.ints_length, Hshl.out]; kernel_rfl)
  refine bodyPost_ret (v := .agg (Bl.ints .u8 sh).toArray) (Bl.results_cell rfl rfl hldc) rfl ⟨by rw [Hsh.out], Bl.below_setCells _ _ _ _ (HE0.out.trans HE2.out) (Nat.le_refl _)⟩

set_option maxRecDepth 100000 in
set_option maxHeartbeats 400000 in
theorem long_any (v : Value) (ps : List (List Int)) (w : World) (most : Int) (hR : Bl.Rdss w v ps) :
    Calls Tryd.prog 19 #[v, .int .i64 most] w fun e w' => w' = w ∧ (e = .returned (.bool true) ∨ (e = .returned (.bool false) ∧ (ps.length : Int) ≤ most ∧ ∀ p ∈ ps, p.length ≤ 200)) := by
  obtain ⟨ws, hv, hwl, hws⟩ := hR
  obtain ⟨p, c, hvf, hvn, hvc⟩ := hv.form
  subst hvf
  have Hv := Bl.hid hv
  have Hws := Bl.hid hws
  have Hwl := Bl.hid hwl
  clear hv hws hwl
  unfold maxLen at hvc
  by_cases hlong : most < (ps.length : Int)
  · go_enter Tryd.func19, Tryd.ntmps19
    go_wp2_with fail
    go_ret
    exact ⟨rfl, .inl rfl⟩
  · go_enter Tryd.func19, Tryd.ntmps19
    go_wp2_with fail
    go_loopw [13] (fun i wr => ∃ k : Nat, k ≤ ps.length ∧ i = .int .i64 k ∧ wr = w ∧ Hid (∀ j, j < k → (ps.getD j []).length ≤ 200)) (fun i _ => ps.length - (intOf i).toNat)
    case atStart => exact ⟨0, Nat.zero_le _, rfl, rfl, Bl.hid fun j hj => absurd hj (Nat.not_lt_zero _)⟩
    case round =>
      obtain ⟨k, hk, rfl, hwr, Hall⟩ := hrel
      subst hwr
      by_cases hlt : k < ps.length
      · obtain ⟨b, o, hpe, hbl, hcell⟩ := Bl.Rdss.cell' Hv.out Hwl.out k hlt
        subst hpe
        have hRk := Hws.out k hlt
        obtain ⟨bs, hbs⟩ : ∃ bs, bs = ps.getD k [] := ⟨_, rfl⟩
        rw [← hbs] at hRk
        obtain ⟨pk, ck, hfk, hnk, hck⟩ := hRk.form
        rw [hfk] at hcell
        have Hbs := Bl.hid hbs
        clear hRk hfk hbs
        by_cases h200 : (200 : Int) < (bs.length : Int)
        · go_wp2_with fail
          go_ret
          exact ⟨rfl, .inl rfl⟩
        · go_wp2_with fail
          go_roundw
          case rel =>
            refine ⟨k + 1, by omega, by go_num, trivial, Bl.hid fun j hj => ?_⟩
            by_cases hjk : j = k
            · subst hjk; rw [← Hbs.out]; omega
            · exact Hall.out j (by omega)
          case measure => simp [intOf]; omega
      · obtain rfl : k = ps.length := by omega
        go_wp2_with fail
        go_ret
        refine ⟨rfl, .inr ⟨rfl, by omega, fun q hq => ?_⟩⟩
        obtain ⟨j, hj, rfl⟩ := List.getElem_of_mem hq
        have := Hall.out j hj
        rwa [List.getD_eq_getElem?_getD, List.getElem?_eq_getElem hj] at this
end Go.Proofs.YtmfooocdnoflaaaDoor

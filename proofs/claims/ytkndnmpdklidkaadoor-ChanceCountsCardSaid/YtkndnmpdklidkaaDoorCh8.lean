/- Walks of package chance: Miss, Odds.times, Again, Below. -/
import Derived.Test.YtkndnmpdklidkaaDoorCh7
import Derived.RegionTactic
import Derived.BigRegion
namespace Go.Proofs.Bl
open Go Go.RowKit
/-- a struct of two cells that has been stored -/
theorem pair_get {w : World} {b : Nat} {x y u v : Value} (h0 : w.cell? ⟨b, 0, none⟩ = some u) (h1 : w.cell? ⟨b, 1, none⟩ = some v) : ((w.setCell ⟨b, 0, none⟩ x).setCell ⟨b, 1, none⟩ y).rangeAt b 0 [x, y] := fun j z hz => by
  match j, hz with
  | 0, hz =>
    cases hz
    rw [World.cell?_setCell_other _ _ _ _ (by intro q; injection q with _ q; omega)]
    exact World.cell?_setCell_same _ _ _ h0
  | 1, hz =>
    cases hz
    exact World.cell?_setCell_same _ _ _ ((World.cell?_setCell_other _ _ _ _ (by intro q; injection q with _ q; omega)).trans h1)
theorem cells2 {w : World} {b : Nat} {x y : Value} (h : w.rangeAt b 0 [x, y]) : w.cell? ⟨b, 0, none⟩ = some x ∧ w.cell? ⟨b, 1, none⟩ = some y := ⟨by have := h 0 x rfl; simpa using this, by have := h 1 y rfl; simpa using this⟩
theorem range2 {w : World} {b : Nat} {x y : Value} (h0 : w.cell? ⟨b, 0, none⟩ = some x) (h1 : w.cell? ⟨b, 1, none⟩ = some y) : w.rangeAt b 0 [x, y] := fun j z hz => by
  match j, hz with
  | 0, hz => cases hz; exact h0
  | 1, hz => cases hz; exact h1
theorem results_pair2 {P : Program} {fn : Func} {p q : Tmp} {ty : TypeId} {tmps : Array Value} {w : World} {b : Addr} {v u : Value} (h : fn.results = #[.cell p ty, .tmp q]) (hp : tmps.getD p undef = .pointer (some b)) (hl : (loadVar ty b).run P w = .ok v w) (hq : tmps.getD q undef = u) :
    (results fn tmps).run P w = .ok (.tuple #[v, u]) w := by
  have hp' : tmps[p]?.getD undef = .pointer (some b) := by simpa using hp
  have hq' : tmps[q]?.getD undef = u := by simpa using hq
  simp [results, h, hp', hq', asAddr, hl]
end Go.Proofs.Bl
namespace Go.Proofs.YtkndnmpdklidkaaDoor
open Go.RowKit Go.Proofs

theorem loadOdds (w : World) (b : Nat) (x y : Value) (h : w.rangeAt b 0 [x, y]) : (loadVar 35 ⟨b, 0, none⟩).run Tryd.prog w = .ok (.agg #[x, y]) w :=
  run_loadVar_mid w b 0 35 [x, y] _ h Tryd.underlying35 rfl (by kernel_rfl)

set_option maxRecDepth 100000 in
set_option maxHeartbeats 1000000 in
/-- (Odds).times -/
theorem times_any (x1 y1 x2 y2 : Value) (la lb lc ld : List Int) (w : World) (h1 : Bl.Rd w .u8 x1 la) (h2 : Bl.Rd w .u8 y1 lb) (h3 : Bl.Rd w .u8 x2 lc) (h4 : Bl.Rd w .u8 y2 ld)
    (l1 : la.length ≤ 100000) (l2 : lb.length ≤ 100000) (l3 : lc.length ≤ 100000) (l4 : ld.length ≤ 100000) (b1 : Bl.Byt la) (b2 : Bl.Byt lb) (b3 : Bl.Byt lc) (b4 : Bl.Byt ld) :
    Calls Tryd.prog 46 #[.agg #[x1, y1], .agg #[x2, y2]] w fun e w' => ∃ x y, e = .returned (.agg #[x, y]) ∧ w'.ownsRow w.heap.size 5 1 x (Bl.tob (Bl.be la * Bl.be lc)).length (Bl.ints .u8 (Bl.tob (Bl.be la * Bl.be lc))) ∧ w'.ownsRow w.heap.size 5 1 y (Bl.tob (Bl.be lb * Bl.be ld)).length (Bl.ints .u8 (Bl.tob (Bl.be lb * Bl.be ld))) ∧ Bl.Ext w w' := by
  have HM1 := Bl.hid (fun w1 (h : Bl.Ext w w1) => mul_any x1 x2 _ _ w1 (h1.ext h) (h3.ext h) l1 l3 b1 b3)
  have HM2 := Bl.hid (fun w1 (h : Bl.Ext w w1) => mul_any y1 y2 _ _ w1 (h2.ext h) (h4.ext h) l2 l4 b2 b4)
  obtain ⟨a, ha⟩ : ∃ a, a = Bl.be la := ⟨_, rfl⟩
  obtain ⟨b, hb⟩ : ∃ b, b = Bl.be lb := ⟨_, rfl⟩
  obtain ⟨c, hc⟩ : ∃ c, c = Bl.be lc := ⟨_, rfl⟩
  obtain ⟨d, hd⟩ : ∃ d, d = Bl.be ld := ⟨_, rfl⟩
  rw [← ha, ← hc] at HM1 ⊢
  rw [← hb, ← hd] at HM2 ⊢
  clear h1 h2 h3 h4 l1 l2 l3 l4 b1 b2 b3 b4 ha hb hc hd
  go_enter Tryd.func46, Tryd.ntmps46
  go_wp2_with fail
  have HE0 : Hid (Bl.Ext w (((w.alloc (.cells #[x1, y1] 35)).alloc (.cells #[x2, y2] 35)).alloc (.cells #[.slice none 0 0, .slice none 0 0] 35))) := Bl.hid (((Bl.ext_alloc _ _).trans (Bl.ext_alloc _ _)).trans (Bl.ext_alloc _ _))
  apply Bl.wp_region_ev 10 [5, 6, 7, 8, 9, 10, 11, 12, 13, 14] [Bl.eqv _, Bl.eqv _, Bl.eqv _, Bl.eqv _, (fun v w' => w'.ownsRow (w.heap.size + 3) 5 1 v (Bl.tob (a * c)).length (Bl.ints .u8 (Bl.tob (a * c)))), Bl.eqv _, Bl.eqv _, Bl.eqv _, Bl.eqv _, (fun v w' => w'.ownsRow (w.heap.size + 3) 5 1 v (Bl.tob (b * d)).length (Bl.ints .u8 (Bl.tob (b * d))))] (by kernel_rfl) (by kernel_rfl) (by kernel_rfl) (by kernel_rfl)
  case hsteps =>
    refine ⟨?_, ?_, ?_, ?_, ?_, ?_, ?_, ?_, ?_, ?_, trivial⟩
    all_goals
      intro ev w1 hext hb hd
      have e2 := hb 2 (by decide)
      have e3 := hb 3 (by decide)
      clear hb
      simp only [Array.getD_eq_getD_getElem?, List.getElem?_toArray, List.getElem?_cons_succ, List.getElem?_cons_zero, Option.getD_some] at e2 e3
      simp only [Bl.DepsE, List.getElem?_cons_succ, List.getElem?_cons_zero, Option.bind_some, List.getD_cons_succ, List.getD_cons_zero, Bl.eqv, and_true] at hd
      have hc := (Bl.bcell hext).1
      simp only [Bl.Good, Region.wanted, if_true]
      go_simp
      first | (go_at_call 25; (with_reducible refine (HM1.out _ (HE0.out.trans hext)).mono ?_); rintro e w2 ⟨v2, rfl, h2, hE2⟩; exact ⟨_, rfl, hE2, Bl.owns_mono h2 (by have := hext.size; simp only [World.size_alloc] at this; omega)⟩) | (go_at_call 25; (with_reducible refine (HM2.out _ (HE0.out.trans hext)).mono ?_); rintro e w2 ⟨v2, rfl, h2, hE2⟩; exact ⟨_, rfl, hE2, Bl.owns_mono h2 (by have := hext.size; simp only [World.size_alloc] at this; omega)⟩) | exact ⟨Below.refl _ _, rfl⟩
  case hmono => exact ⟨Bl.mono_eqv _, Bl.mono_eqv _, Bl.mono_eqv _, Bl.mono_eqv _, (fun _ _ _ h k => Bl.owns_ext h k), Bl.mono_eqv _, Bl.mono_eqv _, Bl.mono_eqv _, Bl.mono_eqv _, (fun _ _ _ h k => Bl.owns_ext h k), trivial⟩
  case hend =>
    intro u w1 hext hend
    simp only [Bl.EndE, List.getElem?_cons_succ, List.getElem?_cons_zero, Option.bind_some, List.getD_cons_succ, List.getD_cons_zero, Bl.eqv, true_and] at hend
    simp only [Bl.fillAct, List.setIfInBounds_toArray, List.set_cons_succ, List.set_cons_zero, List.drop_succ_cons, List.drop_zero, hend]
    have H9 := hend.1.1.1.1.1.2
    have H14 := hend.2
    obtain ⟨p9, c9, e9, _, _⟩ := (Bl.Rds.of_owns H9).form
    obtain ⟨p14, c14, e14, _, _⟩ := (Bl.Rds.of_owns H14).form
    rw [e9] at H9
    rw [e14] at H14
    rw [e9, e14]
    have H9 := Bl.hid H9
    have H14 := Bl.hid H14
    obtain ⟨hc, hf⟩ := Bl.bcell hext
    have hsz : w.heap.size + 2 < (((w.alloc (.cells #[x1, y1] 35)).alloc (.cells #[x2, y2] 35)).alloc (.cells #[.slice none 0 0, .slice none 0 0] 35)).heap.size := by simp only [World.size_alloc]; omega
    have C0 : w1.cell? ⟨w.heap.size + 2, 0, none⟩ = some (.slice none 0 0) := (hc _ 0 hsz).trans (by
      have h := World.cell?_alloc_new (w := (w.alloc (.cells #[x1, y1] 35)).alloc (.cells #[x2, y2] 35)) #[.slice none 0 0, .slice none 0 0] 35 0
      simp only [World.size_alloc] at h
      exact h)
    have C1 : w1.cell? ⟨w.heap.size + 2, 1, none⟩ = some (.slice none 0 0) := (hc _ 1 hsz).trans (by
      have h := World.cell?_alloc_new (w := (w.alloc (.cells #[x1, y1] 35)).alloc (.cells #[x2, y2] 35)) #[.slice none 0 0, .slice none 0 0] 35 1
      simp only [World.size_alloc] at h
      exact h)
    have F0 : w1.frozen? ⟨w.heap.size + 2, 0, none⟩ = false := (hf _ 0 hsz).trans (by
      have h := World.frozen?_alloc_new (w := (w.alloc (.cells #[x1, y1] 35)).alloc (.cells #[x2, y2] 35)) #[.slice none 0 0, .slice none 0 0] 35 0
      simp only [World.size_alloc] at h
      exact h)
    have F1 : w1.frozen? ⟨w.heap.size + 2, 1, none⟩ = false := (hf _ 1 hsz).trans (by
      have h := World.frozen?_alloc_new (w := (w.alloc (.cells #[x1, y1] 35)).alloc (.cells #[x2, y2] 35)) #[.slice none 0 0, .slice none 0 0] 35 1
      simp only [World.size_alloc] at h
      exact h)
    have HX := Bl.hid (HE0.out.trans hext)
    have HP := Bl.hid (loadOdds _ _ _ _ (Bl.pair_get (x := .slice p9 (Bl.tob (a * c)).length c9) (y := .slice p14 (Bl.tob (b * d)).length c14) C0 C1))
    clear hext hend e9 e14 hc hf
    go_wp2_with fail
    refine bodyPost_ret (v := .agg #[.slice p9 (Bl.tob (a * c)).length c9, .slice p14 (Bl.tob (b * d)).length c14]) (Bl.results_cell rfl rfl HP.out) rfl ⟨_, _, rfl, ?_, ?_, (HX.out.setCell (p := ⟨w.heap.size + 2, 0, none⟩) (by simp) _).setCell (p := ⟨w.heap.size + 2, 1, none⟩) (by simp) _⟩
    · exact Bl.owns_mono (Bl.owns_setCell (Bl.owns_setCell H9.out (fun q => by have := (H9.out.lt _ q).1; omega) 0 _) (fun q => by have := (H9.out.lt _ q).1; omega) 1 _) (by omega)
    · exact Bl.owns_mono (Bl.owns_setCell (Bl.owns_setCell H14.out (fun q => by have := (H14.out.lt _ q).1; omega) 0 _) (fun q => by have := (H14.out.lt _ q).1; omega) 1 _) (by omega)
end Go.Proofs.YtkndnmpdklidkaaDoor

/- Walk of path.Parse. -/
import Derived.Test.YtjmkcenkjnoblaaDoorWChunk32
import Derived.Test.YtjmkcenkjnoblaaDoorWOver
import Derived.Test.YtjmkcenkjnoblaaDoorWRefMake
import Derived.Test.YtjmkcenkjnoblaaDoorZs
namespace Go.Proofs.Bl
open Go Go.RowKit
/-- bytes, 32 by 32 -/
def parts (l : List Int) (m : Nat) : List (List Int) := (List.finRange m).map fun x => (l.drop (32 * x.val)).take 32
theorem parts_length (l : List Int) (m : Nat) : (parts l m).length = m := by simp [parts]
theorem parts_succ (l : List Int) (m : Nat) : parts l (m + 1) = parts l m ++ [(l.drop (32 * m)).take 32] := by
  unfold parts
  apply List.ext_getElem
  · simp
  · intro i h1 h2
    simp only [List.length_map, List.length_finRange] at h1
    by_cases hi : i < m
    · rw [List.getElem_append_left (by simpa using hi)]; simp
    · obtain rfl : i = m := by omega
      rw [List.getElem_append_right (by simp)]; simp
theorem parts_flat : ∀ (m : Nat) (l : List Int), (parts l m).flatten = l.take (32 * m)
  | 0, l => by simp [parts]
  | m + 1, l => by
    rw [parts_succ, List.flatten_append, parts_flat m l, List.flatten_singleton]
    rw [show 32 * (m + 1) = 32 * m + 32 from by omega, List.take_add]
theorem parts_dig (l : List Int) (m : Nat) (h : 32 * m ≤ l.length) (hb : Byt l) : Dig (parts l m) := fun d hd => by
  obtain ⟨x, _, rfl⟩ := List.mem_map.1 hd
  have := x.isLt
  exact ⟨by rw [List.length_take, List.length_drop]; omega, (hb.drop _).take _⟩
/-- every cell is as it was -/
def KC (w w' : World) : Prop := ∀ a v, w.cell? a = some v → w'.cell? a = some v
theorem KC.refl (w : World) : KC w w := fun _ _ h => h
theorem KC.trans {a b c : World} (h : KC a b) (k : KC b c) : KC a c := fun x v hv => k x v (h x v hv)
theorem KC.range {w w' : World} (h : KC w w') {b o : Nat} {cs : List Value} (hr : w.rangeAt b o cs) : w'.rangeAt b o cs := fun j v hv => h _ _ (hr j v hv)
theorem Rds.kc {w w' : World} {v : Value} {n : Nat} {cs : List Value} (h : Rds w v n cs) (k : KC w w') : Rds w' v n cs := by
  rcases h with h | ⟨b, o, c, h1, h2, h3, h4⟩
  · exact .inl h
  · exact .inr ⟨b, o, c, h1, h2, h3, k.range h4⟩
theorem KC.putObj {w : World} {D : Nat} {o : Obj} (o' : Obj) (h : w.heap[D]? = some o) (ho : o.isCells = false) : KC w (w.putObj D o') := fun a v hv =>
  cell_kept hv (grownBy_putObj' w D o') (fun r e => by cases e; exact ⟨o, h, ho⟩)
theorem leaves_kc {P : Program} {n : Nat} {fn : Func} {tmps : Array Value} {R : Ending → World → Prop} {B : Nat} : ∀ (ds : List Deferred) (N : Nat) (w : World), Marks B w N ds →
    (∀ w', Below B w w' → KC w w' → ∃ v, (results fn tmps).run P w' = .ok v w' ∧ R (.returned v) w') → LeavesInM Fence.wide n P fn tmps R ds .returning w
  | [], _, w, _, h => by
    simp only [LeavesInM, LeavesIn]
    exact h w (Below.refl _ _) (KC.refl _)
  | _ :: ds, _, w, ⟨D, hd, hB, _, hD, hm⟩, h => by
    subst hd
    have hlt : D < w.heap.size := (Array.getElem?_eq_some_iff.1 hD).1
    have hb : Below B w (w.putObj D (.deferred none)) := (Below.refl B w).grown (grownBy_putObj' w D (.deferred none)) (by omega) (fun k e => by cases e; omega)
    refine ⟨by simp, .inl ⟨_, _, rfl, run_takeDeferred hD, ?_⟩⟩
    refine leaves_kc ds D _ (Marks.keep ds D (fun k _ hk _ => World.putObj_heap_other (by omega)) hm) ?_
    intro w' hw' hk'
    exact h w' (hb.trans hw') ((KC.putObj _ hD rfl).trans hk')
end Go.Proofs.Bl
namespace Go.Proofs.YtjmkcenkjnoblaaDoor
open Go Go.RowKit Go.Proofs

attribute [local go_sem] Oper.semAt_some

set_option maxRecDepth 100000 in
theorem pparse_size (v : Value) (l : List Int) (w : World) (S : List Nat) (a : Nat → Addr) (hl : Bl.Rd w .u8 v l) (he : Errs S a w) (h8 : 8 ∈ S) (hr : ¬ l.length % 32 = 0) :
    Calls Tryd.prog 11 #[v] w fun e w' => e = .returned (.tuple #[.slice none 0 0, errN a 8]) ∧ Bl.Ext w w' := by
  obtain ⟨p, c, hvf, hvn, hvc⟩ := hl.form
  subst hvf
  have hF : w.cell? ⟨0, 0, none⟩ = some (.iface 128 (.pointer (some (a 8)))) := he.cell 8 h8
  have hrem : ((l.length : Int) % 32 == 0) = false := by rw [beq_eq_false_iff_ne]; omega
  unfold maxLen at hvc
  clear he hl hr
  refine (callsIn_wide (n := 9)).1 ?_
  refine callsIn_of_wp_marks Tryd.func11 rfl trivial ?_ rfl
  simp only [Tryd.ntmps11, List.size_toArray, List.length_cons, List.length_nil, Nat.reduceAdd, Nat.reduceSub, Array.replicate_succ, Array.replicate_zero, List.push_toArray, List.append_toArray, List.nil_append, List.cons_append]
  refine wpIn_wide.2 ?_
  go_wp2_with fail
  go_quiet (fail)
  go_wp2_with fail
  refine Bl.leaves_marks (B := w.heap.size) _ 0 _ trivial ?_
  intro w' hw'
  exact ⟨_, Bl.results_tmp2 rfl rfl rfl, rfl, ((Below.refl _ _).drewN _).trans hw'⟩

set_option maxRecDepth 100000 in
theorem pparse_long (v : Value) (l : List Int) (w : World) (S : List Nat) (a : Nat → Addr) (hl : Bl.Rd w .u8 v l) (he : Errs S a w) (h3 : 3 ∈ S) (hr : l.length % 32 = 0) (hg : 320 < l.length) :
    Calls Tryd.prog 11 #[v] w fun e w' => e = .returned (.tuple #[.slice none 0 0, errN a 3]) ∧ Bl.Ext w w' := by
  obtain ⟨p, c, hvf, hvn, hvc⟩ := hl.form
  subst hvf
  have hF : w.cell? ⟨1, 0, none⟩ = some (.iface 128 (.pointer (some (a 3)))) := he.cell 3 h3
  have hrem : ((l.length : Int) % 32 == 0) = true := by rw [beq_iff_eq]; omega
  have hq : (10 : Int) < (l.length : Int) / 32 := by omega
  unfold maxLen at hvc
  clear he hl hr hg
  refine (callsIn_wide (n := 9)).1 ?_
  refine callsIn_of_wp_marks Tryd.func11 rfl trivial ?_ rfl
  simp only [Tryd.ntmps11, List.size_toArray, List.length_cons, List.length_nil, Nat.reduceAdd, Nat.reduceSub, Array.replicate_succ, Array.replicate_zero, List.push_toArray, List.append_toArray, List.nil_append, List.cons_append]
  refine wpIn_wide.2 ?_
  go_wp2_with fail
  go_quiet (fail)
  go_wp2_with fail
  refine Bl.leaves_marks (B := w.heap.size) _ 0 _ trivial ?_
  intro w' hw'
  exact ⟨_, Bl.results_tmp2 rfl rfl rfl, rfl, ((Below.refl _ _).drewN _).trans hw'⟩

set_option maxRecDepth 100000 in
set_option maxHeartbeats 1000000 in
theorem pparse_ok (v : Value) (l : List Int) (m : Nat) (w : World) (hl : Bl.Rd w .u8 v l) (hlm : l.length = 32 * m) (hm : m ≤ 10) :
    Calls Tryd.prog 11 #[v] w fun e w' => ∃ v', e = .returned (.tuple #[v', .nilIface]) ∧ Bl.RdD w' v' (Bl.parts l m) ∧ Bl.Ext w w' := by
  obtain ⟨p, c, hvf, hvn, hvc⟩ := hl.form
  subst hvf
  obtain ⟨b, o, hpb, Hrg⟩ : ∃ b o, (0 < m → p = some ⟨b, o, none⟩) ∧ Hid (0 < m → b < w.heap.size ∧ w.rangeAt b o (Bl.ints .u8 l)) := by
    rcases hl with ⟨⟨_, h1⟩, h2, _⟩ | ⟨b, o, c', h1, _, _, h4⟩
    · exact ⟨0, 0, fun h => by omega, Bl.hid fun h => by omega⟩
    · injection h1 with h1 _ _
      exact ⟨b, o, fun _ => h1, Bl.hid fun h => ⟨Bl.rangeAt_lt h4 (by intro e; have := congrArg List.length e; rw [Bl.ints_length, hlm] at this; simp only [List.length_nil] at this; omega), h4⟩⟩
  have hrem : (((32 * m : Nat) : Int) % 32 == 0) = true := by rw [beq_iff_eq]; omega
  have hrem2 : ((32 * (m : Int)) % 32 == 0) = true := by rw [beq_iff_eq]; omega
  have hq : ¬ ((10 : Int) < ((32 * m : Nat) : Int) / 32) := by omega
  have hq2 : ¬ ((10 : Int) < (32 * (m : Int)) / 32) := by omega
  have hlen : (32 * m : Nat) ≤ 320 := by omega
  rw [hlm] at hvn ⊢
  have Hlm := Bl.hid hlm
  unfold maxLen at hvc
  have hz0 : (w.alloc (.cells #[.slice none 0 0] 27)).heap.size = w.heap.size + 1 := World.size_alloc _ _
  have hcU0 := Bl.cell_new1 w (.slice none 0 0) 27
  have hfU0 : (w.alloc (.cells #[.slice none 0 0] 27)).frozen? ⟨w.heap.size, 0, none⟩ = false := by simp
  have HE0 := Bl.hid (Bl.ext_alloc w (.cells #[.slice none 0 0] 27))
  clear hl hlm
  have Hpb := Bl.hid hpb
  clear hpb
  refine (callsIn_wide (n := 9)).1 ?_
  refine callsIn_of_wp_marks Tryd.func11 rfl trivial ?_ rfl
  simp only [Tryd.ntmps11, List.size_toArray, List.length_cons, List.length_nil, Nat.reduceAdd, Nat.reduceSub, Array.replicate_succ, Array.replicate_zero, List.push_toArray, List.append_toArray, List.nil_append, List.cons_append]
  refine wpIn_wide.2 ?_
  go_wp2_with fail
  obtain ⟨W0, hW0⟩ : ∃ W0, W0 = w.alloc (.cells #[.slice none 0 0] 27) := ⟨_, rfl⟩
  rw [← hW0] at hz0 hcU0 hfU0 HE0 ⊢
  clear hW0 hrem hrem2 hq hq2
  refine (chunk32_any _ _ _ _).mono ?_
  rintro e w5 ⟨rfl, hw5⟩
  have hE5 : Bl.Ext W0 w5 := by
    rw [hw5]; exact ((Below.refl _ _).alloc (Nat.le_refl _) _).alloc (by simp) _
  have hcs : w5.cell? ⟨W0.heap.size, 0, none⟩ = some (.slice p (32 * m) c) := by
    rw [hw5]
    exact ((Bl.bcell ((Below.refl _ _).alloc (Nat.le_refl _) _)).1 _ _ (by simp)).trans (by simp)
  have hcn : w5.cell? ⟨W0.heap.size + 1, 0, none⟩ = some (.int .i64 32) := by
    rw [hw5]
    have := Bl.cell_new1 (W0.alloc (.cells #[.slice p (32 * m) c] 23)) (.int .i64 32) 3
    simp
  have hsz5 : w5.heap.size = w.heap.size + 3 := by rw [hw5]; simp [hz0]
  rw [hz0] at hcs hcn ⊢
  have hcU : w5.cell? ⟨w.heap.size, 0, none⟩ = some (.slice none 0 0) := ((Bl.bcell hE5).1 _ _ (by omega)).trans hcU0
  have hfU : w5.frozen? ⟨w.heap.size, 0, none⟩ = false := ((Bl.bcell hE5).2 _ _ (by omega)).trans hfU0
  have HE5 := Bl.hid (HE0.out.trans hE5)
  clear hw5 hcU0 hfU0 hE5 HE0 hz0
  go_wp2_with fail
  refine (wpIn_wide (n := 9)).1 ?_
  apply wpIn_rangeFunc_ownF (F := Fence.wide) (encs := fun x : Fin m => #[Value.slice (some ⟨b, o + 32 * x.val, none⟩) 32 32]) (Kp := Bl.Keep w.heap.size w5.heap.size) rfl (by decide) (gf := 46) (lb := #[.pointer (some ⟨w.heap.size + 1, 0, none⟩), .pointer (some ⟨w.heap.size + 1 + 1, 0, none⟩)]) rfl trivial (enters_of Tryd.func46 (by kernel_rfl) rfl)
    (chunk32_stops 8 (w.heap.size + 1) (w.heap.size + 1 + 1) w.heap.size b o m c p Hpb.out (by decide) (by omega) (by omega) w5 (by omega) (by omega) (by omega) (by omega) hcs hcn)
    (fun h k => Bl.Keep.trans h k) (Bl.Keep.putObj (Nat.le_refl _)) (Below.refl _ _) (fun _ => rfl)
    (fun pre W => Bl.UpAt 42 w.heap.size w5.heap.size (fun x : Fin m => (l.drop (32 * x.val)).take 32) pre W ∧ (Bl.Keep w.heap.size w5.heap.size w5 W ∧ Below w.heap.size w5 W))
    (fun _ _ _ => False)
  case hI => exact OwnFrom.and (Bl.UpAt.from (by omega)) (OwnFrom.and (Bl.ownFrom_keep (Nat.le_refl _) (Nat.le_refl _)) (ownFrom_below (by omega) (by omega)))
  case hIx => exact fun _ _ _ _ _ hs _ _ => hs
  case h0 => exact ⟨⟨none, 0, hcU, hfU, World.ownsRow_nil _ _ _ _⟩, Bl.Keep.refl _ _ _, Below.refl _ _⟩
  case hassign =>
    intro lr x W K hK
    gi_wp2
    exact hK
  case hbody =>
    rintro lr pre x W ⟨⟨pu, cu, hcuW, hfuW, hown⟩, hKp, hBW⟩ hlen
    have hgl : w.heap.size < W.heap.size := World.block_lt_of_cell? _ _ hcuW
    have hx : x.val < m := x.isLt
    obtain ⟨hbl, hrg⟩ := Hrg.out (by omega)
    have hdl : ((l.drop (32 * x.val)).take 32).length = 32 := by rw [List.length_take, List.length_drop, Hlm.out]; omega
    have hrW : W.rangeAt b (o + 32 * x.val) (Bl.ints .u8 ((l.drop (32 * x.val)).take 32)) := by
      have h1 := Bl.rangeAt_take (Bl.rangeAt_drop (Bl.rangeAt_ext hrg (show Bl.Ext w W from Below.trans HE5.out hBW)) (32 * x.val)) 32
      simpa [Bl.ints, List.map_drop, List.map_take] using h1
    have Hown := Bl.hid hown
    have HKp := Bl.hid hKp
    have HBW := Bl.hid hBW
    obtain ⟨d0, hd0⟩ : ∃ d0, d0 = (l.drop (32 * x.val)).take 32 := ⟨_, rfl⟩
    have Hd0 := Bl.hid hd0
    rw [← hd0] at hdl hrW
    have HL0 : Hid (∀ w1, Bl.Ext W w1 → (Instr.loadAt 42 (.pointer (some ⟨b, o + 32 * x.val, none⟩))).run Tryd.prog w1 = .ok (.agg (Bl.ints .u8 d0).toArray) w1) := Bl.hid fun w1 h1 =>
      Bl.load_ints (Bl.rangeAt_ext hrW h1) Tryd.underlying42 (by kernel_rfl) hdl
    have Hnl := Bl.hid hdl
    clear hown hKp hBW hrW hd0 hdl hrg
    gi_wp2
    apply Bl.wpIn_region_ev 5 [21, 22, 23, 24, 25] [Bl.eqv _, Bl.eqv _, Bl.eqv (.pointer (some ⟨b, o + 32 * x.val, none⟩)), Bl.eqv _, (fun v w' => Bl.Rds w' v 1 (Bl.cellsD [d0]))] (by kernel_rfl) (by kernel_rfl) (by kernel_rfl) (by kernel_rfl) (by kernel_rfl)
    case hsteps =>
      refine ⟨?_, ?_, ?_, ?_, ?_, trivial⟩
      all_goals
        intro ev w1 hext hb hd
        have e4 := hb 4 (by decide)
        have e5 := hb 5 (by decide)
        clear hb
        simp only [Array.getD_eq_getD_getElem?, List.getElem?_toArray, List.getElem?_cons_succ, List.getElem?_cons_zero, Option.getD_some] at e4 e5
        simp only [Bl.DepsE, List.getElem?_cons_succ, List.getElem?_cons_zero, Option.bind_some, List.getD_cons_succ, List.getD_cons_zero, Bl.eqv, and_true] at hd
        have hc := (Bl.bcell hext).1
        have hcu1 := (hc _ 0 hgl).trans hcuW
        have hld0 := HL0.out w1 hext
        simp only [Bl.Good, Region.wanted, if_true]
        first
        | ((with_reducible refine Bl.goodR_load ?_ hld0 ?_); exact hd; exact rfl) | exact Bl.goodR_build1 tDig (by decide) hd (by simp [Hnl.out]) (Bl.rds_dig w1 42 d0 Hnl.out)
        | (go_simp; first | exact ⟨Below.refl _ _, rfl⟩)
    case hmono => exact ⟨Bl.mono_eqv _, Bl.mono_eqv _, (Bl.mono_eqv _), Bl.mono_eqv _, (fun _ _ _ h k => Bl.Rds.ext h k), trivial⟩
    case hend =>
      intro u w1 hext hend
      simp only [Bl.EndE, List.getElem?_cons_succ, List.getElem?_cons_zero, Option.bind_some, List.getD_cons_succ, List.getD_cons_zero, Bl.eqv, true_and] at hend
      simp only [Bl.fillAct, List.setIfInBounds_toArray, List.set_cons_succ, List.set_cons_zero, List.drop_succ_cons, List.drop_zero, hend]
      have hrd := hend.2
      have HownA := Bl.hid (Bl.owns_ext Hown.out hext)
      have hszA := HKp.out.1
      have hszB : W.heap.size ≤ w1.heap.size := hext.size
      have hpl : pre.length ≤ 1048576 := by omega
      refine Bl.wpLI_app1 tDig HownA.out hrd rfl rfl (by rw [Bl.cellsD_one, Bl.ints_length, Hnl.out]) (Bl.cellsD_one' _) (by unfold maxLen; omega) (by omega) (by omega) ?_
      intro p6 c6 w6 hown6 hg6
      have hne6 : some w.heap.size ≠ (Value.slice pu pre.length cu).ownBlock := fun e => by have := (HownA.out.lt _ e.symm).1; omega
      have hc6 : w6.cell? ⟨w.heap.size, 0, none⟩ = some (.slice pu pre.length cu) := (hg6.cell_far ⟨w.heap.size, 0, none⟩ (show w.heap.size < _ by omega) hne6).trans (((Bl.bcell hext).1 _ 0 hgl).trans hcuW)
      have hf6 : w6.frozen? ⟨w.heap.size, 0, none⟩ = false := (hg6.frozen_far ⟨w.heap.size, 0, none⟩ (show w.heap.size < _ by omega) hne6).trans (((Bl.bcell hext).2 _ 0 hgl).trans hfuW)
      rw [Hd0.out] at hown6
      have hpost := Bl.hid (Bl.up_post (f := fun x : Fin m => (l.drop (32 * x.val)).take 32) (x := x) (by omega) HKp.out HBW.out hext hg6 HownA.out hown6 hcuW hfuW)
      clear hown6 hg6 hend hrd
      gi_wp2
      exact hpost.out
  case hdone =>
    rintro D ys W hD rfl ⟨⟨pu, cu, hcuW, hfuW, hown⟩, hKp, hBW⟩ hK
    have hDl : D < W.heap.size := (Array.getElem?_eq_some_iff.1 hK).1
    have HE : Hid (Bl.Ext w W) := Bl.hid (Below.trans HE5.out hBW)
    have HR : Hid (Bl.RdD W (.slice pu m cu) (Bl.parts l m)) := Bl.hid (by
      have h := Bl.Rds.of_owns hown
      show Bl.Rds W _ (Bl.parts l m).length _
      rw [Bl.parts_length]
      rw [List.length_finRange] at h
      exact h)
    clear hown hKp hBW
    go_wp2_with fail
    refine Bl.leaves_kc (B := w.heap.size) _ W.heap.size _ ⟨D, rfl, by omega, hDl, hK, trivial⟩ ?_
    intro w' hw' hkc
    exact ⟨.tuple #[.slice pu m cu, .nilIface], Bl.results_tmp2 rfl rfl rfl, .slice pu m cu, rfl, Bl.Rds.kc HR.out hkc, Below.trans HE.out hw'⟩
  case hstop =>
    rintro D c pre W _ _ h _
    exact h.elim
end Go.Proofs.YtjmkcenkjnoblaaDoor

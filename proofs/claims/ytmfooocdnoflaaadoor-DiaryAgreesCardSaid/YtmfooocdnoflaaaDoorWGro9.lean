/- Walk of growth.Prove. -/
import Derived.Test.YtmfooocdnoflaaaDoorGwa
import Derived.Test.YtmfooocdnoflaaaDoorDigs2
import Derived.Test.YtmfooocdnoflaaaDoorWOver
namespace Go.Proofs.Bl
open Go Go.RowKit
theorem cutL_all (ds : List (List Int)) (n : Nat) (h : ds.length = n) : cutL ds 0 (0 + n) = ds := by
  unfold cutL
  rw [List.drop_zero, List.take_of_length_le (by omega)]
/-- the digests that a step tells -/
def toldD (ds : List (List Int)) (s : Bool × Nat × Nat) : List Int := overD (cutL ds s.2.1 s.2.2)
theorem cutL_len (ds : List (List Int)) (a b : Nat) (h1 : a ≤ b) (h2 : b ≤ ds.length) : (cutL ds a b).length = b - a := by
  unfold cutL; rw [List.length_take, List.length_drop]; omega
theorem cutL_dig {ds : List (List Int)} (h : Dig ds) (a b : Nat) : Dig (cutL ds a b) := (h.drop a).take _
theorem atOf_succ (T : List (Bool × Nat × Nat)) (k : Nat) (h : k < T.length) : atOf 0 (T.take (k + 1)) = if (T.getD k default).1 = true then (T.getD k default).2.2 else atOf 0 (T.take k) := by
  unfold atOf
  rw [List.take_succ_eq_append_getElem h, List.foldl_append, List.getD_eq_getElem?_getD, List.getElem?_eq_getElem h]
  rfl
theorem map_take_succ {α β : Type} (f : α → β) (T : List α) (k : Nat) (d : α) (h : k < T.length) : (T.take (k + 1)).map f = (T.take k).map f ++ [f (T.getD k d)] := by
  rw [List.take_succ_eq_append_getElem h, List.map_append, List.getD_eq_getElem?_getD, List.getElem?_eq_getElem h]; rfl
theorem RdD.cut {w : World} {b o n c : Nat} {ds : List (List Int)} (h : RdD w (.slice (some ⟨b, o, none⟩) n c) ds) (hd : Dig ds) (x y : Nat) (hx : x < y) (hy : y ≤ ds.length) : RdD w (.slice (some ⟨b, o + x * 32, none⟩) (y - x) (c - x)) (cutL ds x y) := by
  have h1 := RdD.drop h hd x (by omega)
  exact RdD.take h1 (hd.drop x) (y - x) (by rw [List.length_drop]; omega)
end Go.Proofs.Bl
namespace Go.Proofs.YtmfooocdnoflaaaDoor
open Go.RowKit Go.Proofs

/-- the cells of a step that was loaded into a variable of its own -/
theorem step_box (w : World) (x : Bool) (n i : Nat) :
    (Instr.storeAt 87 (.pointer (some ⟨w.heap.size, 0, none⟩)) (.agg #[.bool x, .int .i64 n, .int .i64 i])).run Tryd.prog (w.alloc (.cells #[.bool false, .int .i64 0, .int .i64 0] 87)) = .ok () ((w.alloc (.cells #[.bool false, .int .i64 0, .int .i64 0] 87)).setCells w.heap.size 0 [.bool x, .int .i64 n, .int .i64 i]) ∧
    ((w.alloc (.cells #[.bool false, .int .i64 0, .int .i64 0] 87)).setCells w.heap.size 0 [.bool x, .int .i64 n, .int .i64 i]).cell? ⟨w.heap.size, 0, none⟩ = some (.bool x) ∧
    ((w.alloc (.cells #[.bool false, .int .i64 0, .int .i64 0] 87)).setCells w.heap.size 0 [.bool x, .int .i64 n, .int .i64 i]).cell? ⟨w.heap.size, 1, none⟩ = some (.int .i64 n) ∧
    ((w.alloc (.cells #[.bool false, .int .i64 0, .int .i64 0] 87)).setCells w.heap.size 0 [.bool x, .int .i64 n, .int .i64 i]).cell? ⟨w.heap.size, 2, none⟩ = some (.int .i64 i) ∧
    Bl.Ext w ((w.alloc (.cells #[.bool false, .int .i64 0, .int .i64 0] 87)).setCells w.heap.size 0 [.bool x, .int .i64 n, .int .i64 i]) := by
  have ht := Bl.there_new w #[.bool false, .int .i64 0, .int .i64 0] 87 3 rfl
  have hs := run_storeAt_mid (P := Tryd.prog) (w.alloc (.cells #[.bool false, .int .i64 0, .int .i64 0] 87)) w.heap.size 0 87 #[.bool x, .int .i64 n, .int .i64 i] (by simpa using ht) (by kernel_rfl) (all_oneCell_toArray (cs := [.bool x, .int .i64 n, .int .i64 i]) (by intro c hc; simp only [List.mem_cons, List.not_mem_nil, or_false] at hc; rcases hc with rfl | rfl | rfl <;> rfl))
  have hr := World.rangeAt_setCells_same (w.alloc (.cells #[.bool false, .int .i64 0, .int .i64 0] 87)) w.heap.size 0 [.bool x, .int .i64 n, .int .i64 i] ht
  exact ⟨hs, hr 0 _ rfl, hr 1 _ rfl, hr 2 _ rfl, Bl.below_setCells _ _ _ _ (Bl.ext_alloc _ _) (Nat.le_refl _)⟩

/-- slices.Reverse of a row of digests of one's own, of whatever length -/
theorem revOwn_any (w : World) (B : Nat) (p : Option Addr) (k c : Nat) (acc : List (List Int)) (hk : acc.length = k) (hd : Bl.Dig acc) (ho : w.ownsRow B 39 32 (.slice p k c) k (Bl.cellsD acc)) (hl : k ≤ 1000000) :
    Calls Tryd.prog 39 #[.slice p k c] w fun e w' => e = .returned (.tuple #[]) ∧ Bl.RdD w' (.slice p k c) acc.reverse ∧ Below B w w' := by
  by_cases h0 : k = 0
  · subst h0
    have hn : acc = [] := List.length_eq_zero_iff.1 hk
    subst hn
    refine (revD_nil p c w).mono fun e w' ⟨h1, h2⟩ => ⟨h1, ?_, by subst h2; exact Below.refl _ _⟩
    subst h2
    exact Bl.Rds.of_owns ho
  · obtain ⟨g, hpo⟩ : ∃ g, p = some ⟨g, 0, none⟩ := by
      rcases ho.2 with ⟨hv, _⟩ | ⟨g, cap, cur, hv, _⟩
      · injection hv with _ hv; omega
      · injection hv with hv; exact ⟨g, hv⟩
    subst hpo
    obtain ⟨_, _, hvf, hvn, hvc⟩ := (Bl.Rds.of_owns ho).form
    injection hvf with hf1 hf2 hvf
    subst hvf
    refine (revD_any g c k acc w hk.symm (Bl.HD.of_owns (by rw [← hk] at ho; exact ho) hd) (by omega) hvn hvc).mono fun e w' ⟨h1, h2, h3⟩ => ⟨h1, ?_, h3.mono (ho.lt g rfl).1⟩
    have h := h2.rds (c := c) (fun d hd' => hd d (List.mem_reverse.1 hd')) (by rw [List.length_reverse, hk]; exact hvn) hvc
    rw [List.length_reverse, hk] at h
    exact h

set_option maxRecDepth 100000 in
set_option maxHeartbeats 2000000 in
theorem gprove_any (v : Value) (ds : List (List Int)) (m : Nat) (w : World) (hR : Bl.RdD w v ds) (hd : Bl.Dig ds) (hm : 1 ≤ m) (hmn : m ≤ ds.length) (hn : ds.length ≤ 512) (hg : Glob w) :
    Calls Tryd.prog 21 #[v, .int .i64 m] w fun e w' => ∃ v', e = .returned (.tuple #[v', .nilIface]) ∧ Bl.RdD w' v' (Bl.proveD ds m true) ∧ Bl.Ext w w' := by
  obtain ⟨b, o, c, rfl, hnc, hcm, hbl, hrg⟩ := Bl.RdD.pos hR hd (by omega)
  have HS := Bl.hid (fun w1 => gsteps_any m ds.length w1 hm hmn hn)
  have HPs := Bl.hid (Bl.prG_steps Bl.ndD Bl.zD ds ds.length m 0 true hm hmn (by omega) (by omega))
  rw [Bl.cutL_all ds ds.length rfl] at HPs
  have hin := Bl.steps_in ds.length m 0 true hm hmn (by omega)
  have HAt := Bl.hid (Bl.steps_at ds.length m 0 true hm hmn (by omega))
  have hTl := Bl.steps_len_le ds.length m 0 true hm hmn (by omega)
  obtain ⟨T, hT⟩ : ∃ T, T = (Bl.stepsL m ds.length 0 true).1 := ⟨_, rfl⟩
  obtain ⟨WH, hWH⟩ : ∃ WH, WH = (Bl.stepsL m ds.length 0 true).2.1 := ⟨_, rfl⟩
  obtain ⟨AT, hAT⟩ : ∃ AT, AT = (Bl.stepsL m ds.length 0 true).2.2 := ⟨_, rfl⟩
  rw [← hT, ← hWH] at HS
  rw [← hT, ← hWH, ← hAT] at HPs
  rw [← hT, ← hAT] at hin HAt
  rw [← hT] at hTl
  have Hin := Bl.hid hin
  have hth := Bl.hid (Bl.thereG_mk (m := (m : Int)) (n := (ds.length : Int)) (by omega) (by omega) (by omega))
  have HR := Bl.hid hR
  have Hd := Bl.hid hd
  have Hg := Bl.hid hg
  obtain ⟨PD, hPD⟩ : ∃ PD, PD = Bl.proveD ds m true := ⟨_, rfl⟩
  have HPD : Hid (PD = (T.map (Bl.toldD ds) ++ (if WH = true then [] else [Bl.overD (Bl.cutL ds AT m)])).reverse) := Bl.hid (by
    have h := HPs.out
    rw [Nat.zero_add] at h
    rw [hPD]; exact h)
  rw [← hPD]
  obtain ⟨n, hnn⟩ : ∃ n, n = ds.length := ⟨_, rfl⟩
  rw [← hnn] at HS hth hn hmn hnc hTl ⊢
  have Hn := Bl.hid hnn
  have Hm1 := Bl.hid hm
  unfold maxLen at hcm
  obtain ⟨tn, htn⟩ : ∃ tn, tn = T.length := ⟨_, rfl⟩
  rw [← htn] at HS hTl
  have Htn := Bl.hid htn
  have hT512 : tn ≤ 512 := by omega
  have HATm : Hid (AT < m) := Bl.hid (by have := Hin.out.2.2; omega)
  clear hR hd hrg HPs hT hWH hAT hin hPD hnn htn hg hm
  go_enter Tryd.func21, Tryd.ntmps21
  go_wp2_with fail
  refine (counted_any _ _ _).mono ?_
  rintro e w1 ⟨rfl, hw⟩
  subst hw
  rw [hth.out]
  go_wp2_with fail
  refine (HS.out w).mono ?_
  rintro e w2 ⟨pt, ct, rfl, hown2, hE2⟩
  have HL2 : Hid (Bl.RdD w2 (.slice (some ⟨b, o, none⟩) n c) ds) := Bl.hid (by have h := HR.out; rw [← Hn.out] at h; exact Bl.Rds.ext h hE2)
  have HT2 : Hid (Bl.Rds w2 (.slice pt tn ct) tn (Bl.cellsT T)) := Bl.hid (Bl.Rds.of_owns hown2)
  have HE2 := Bl.hid hE2
  clear hown2 hE2 HR HS
  go_wp2_with fail
  go_loopw [8, 9, 27] (fun out atv x wr => ∃ (k q ko co : Nat) (po : Option Addr) (acc : List (List Int)), k ≤ tn ∧ x = .int .i64 k ∧ atv = .int .i64 q ∧ out = .slice po ko co ∧ ko ≤ tn ∧ q ≤ 512 ∧ Hid (acc.length = ko ∧ ko = k ∧ acc = (T.take k).map (Bl.toldD ds) ∧ q = Bl.atOf 0 (T.take k) ∧ Bl.Dig acc ∧ wr.ownsRow w2.heap.size 39 32 (.slice po ko co) ko (Bl.cellsD acc)) ∧ Bl.Ext w2 wr) (fun _ _ x _ => tn - (intOf x).toNat)
  case atStart => exact ⟨0, 0, 0, 0, none, [], Nat.zero_le _, rfl, rfl, rfl, Nat.zero_le _, Nat.zero_le _, Bl.hid ⟨rfl, rfl, rfl, rfl, Bl.Dig.nil, World.ownsRow_nil _ _ _ _⟩, Below.refl _ _⟩
  case round =>
    obtain ⟨k, q, ko, co, po, acc, hk, rfl, rfl, rfl, hko, hq, HA, hE⟩ := hrel
    have HE := Bl.hid hE
    clear hE
    by_cases hlt : k < tn
    · have hkT : k < T.length := by rw [← Htn.out]; exact hlt
      obtain ⟨bt, ot, cct, hpe, hcn, hcm2, hblt, hrgt⟩ := Bl.RdT.pos (by have h := HT2.out; rw [Htn.out] at h; exact Bl.Rds.ext h HE.out) (by omega)
      injection hpe with hpe1 hpe2 hpe3
      subst hpe1
      have hsin := Hin.out.1 (T.getD k default) (by rw [List.getD_eq_getElem?_getD, List.getElem?_eq_getElem hkT]; exact List.getElem_mem hkT)
      have Has := Bl.hid (Bl.atOf_succ T k hkT)
      have Hms := Bl.hid (Bl.map_take_succ (Bl.toldD ds) T k default hkT)
      obtain ⟨⟨x, f, t⟩, hs⟩ : ∃ s, T.getD k default = s := ⟨_, rfl⟩
      rw [hs] at hsin
      have hld := run_loadAt_mid (P := Tryd.prog) wr bt (ot + k * 3) 87 _ _ (Bl.turn_at hrgt hkT hs) Tryd.underlying87 rfl (by kernel_rfl)
      rw [hs] at Has Hms
      have Hld := Bl.hid hld
      obtain ⟨_, hs2, hs3⟩ := hsin
      dsimp only at hs2 hs3
      have hs4 : t ≤ n := by rw [Nat.zero_add, ← Hn.out] at hs3; exact hs3
      have hk0 : (0 : Int) ≤ (k : Int) := by omega
      have hk1 : (k : Int) < (tn : Int) := by omega
      clear hpe2 hpe3 hcn hcm2 hblt hrgt hs hld hkT hs3
      go_wp2_with (with_reducible refine Bl.stop_load (ty := 87) ?_)
      refine Bl.go_on ?_
      refine Bl.wpL_load rfl Hld.out ?_
      obtain ⟨hst, hc0, hc1, hc2, hEb⟩ := step_box wr x f t
      have Hst := Bl.hid hst
      have HEb := Bl.hid hEb
      have HXl : Hid (wr.heap.size < ((wr.alloc (.cells #[.bool false, .int .i64 0, .int .i64 0] 87)).setCells wr.heap.size 0 [.bool x, .int .i64 f, .int .i64 t]).heap.size) := Bl.hid (World.block_lt_of_cell? _ _ hc0)
      clear hst hEb Hld
      go_wp2_with (with_reducible refine Bl.stop_store (ty := 87) ?_)
      refine Bl.go_on ?_
      refine Bl.wpL_store0 rfl rfl Hst.out ?_
      clear Hst
      obtain ⟨W6, hW6⟩ : ∃ W6, W6 = (wr.alloc (.cells #[.bool false, .int .i64 0, .int .i64 0] 87)).setCells wr.heap.size 0 [.bool x, .int .i64 f, .int .i64 t] := ⟨_, rfl⟩
      obtain ⟨X, hX⟩ : ∃ X, X = wr.heap.size := ⟨_, rfl⟩
      rw [← hW6] at hc0 hc1 hc2 HEb HXl ⊢
      rw [← hX] at hc0 hc1 hc2 HXl ⊢
      have HX := Bl.hid hX
      clear hW6 hX
      have HE6 := Bl.hid (HE.out.trans HEb.out)
      have hx1 : (0 : Int) ≤ (f : Int) := by omega
      have hx2 : (f : Int) ≤ (t : Int) := by omega
      have hx3 : (t : Int) ≤ (c : Int) := by omega
      have hx4 : ¬ (f = c) := by omega
      have hx5 : (t : Int) ≤ (n : Int) := by omega
      have hx6 : (f : Int) ≤ (c : Int) := by omega
      have Hcut := Bl.hid (Bl.RdD.cut (by have h := HL2.out; exact Bl.Rds.ext h HE6.out) Hd.out f t hs2 (by rw [← Hn.out]; exact hs4))
      have hcl := Bl.cutL_len ds f t (Nat.le_of_lt hs2) (by rw [← Hn.out]; exact hs4)
      have Hov := Bl.hid (over_any _ (Bl.cutL ds f t) W6 (by omega) (Bl.cutL_dig Hd.out f t) Hcut.out (Hg.out.ext (HE2.out.trans HE6.out)))
      have Hol := Bl.hid (Bl.overD_dig _ (Bl.cutL ds f t) rfl (Bl.cutL_dig Hd.out f t) (by omega))
      obtain ⟨d, hdd⟩ : ∃ d, d = Bl.overD (Bl.cutL ds f t) := ⟨_, rfl⟩
      rw [← hdd] at Hov Hol
      have Hdd := Bl.hid hdd
      have HC0 := Bl.hid hc0
      have HC2 := Bl.hid hc2
      clear hdd Hcut hcl
      go_wp2_with fail
      refine Hov.out.mono ?_
      rintro e w7 ⟨rfl, hE7⟩
      obtain ⟨A1, A2, A3, A4, A5, A6⟩ := HA.out
      have Hown2 := Bl.hid (Bl.owns_ext (Bl.owns_ext (Bl.owns_ext A6 HEb.out) hE7) (Bl.ext_alloc w7 (.cells (Bl.ints .u8 d).toArray 39)))
      have Hnew := Bl.hid (Bl.rds_dig w7 39 d Hol.out.1)
      have HE78 : Hid (Bl.Ext W6 (w7.alloc (.cells (Bl.ints .u8 d).toArray 39))) := Bl.hid (hE7.trans (Bl.ext_alloc _ _))
      have HE8 : Hid (Bl.Ext w2 (w7.alloc (.cells (Bl.ints .u8 d).toArray 39))) := Bl.hid (HE6.out.trans HE78.out)
      have HNo : Hid (∀ g, (Value.slice po ko co).ownBlock = some g → g < X) := Bl.hid fun g hg => by rw [HX.out]; exact (A6.lt g hg).2
      have A1' := Bl.hid A1
      have A2' := Bl.hid A2
      have A3' := Bl.hid A3
      have A4' := Bl.hid A4
      have A5' := Bl.hid A5
      clear hE7 Hov hc0 hc1 hc2 A1 A2 A3 A4 A5 A6 HA
      go_wp2_with (with_reducible refine Bl.stop_build ?_)
      refine Bl.go_on ?_
      refine Bl.wpL_build1 tDig (by decide) rfl (by simp [Hol.out.1]) ?_
      go_wp2_with (with_reducible refine Bl.stop_append ?_)
      refine Bl.go_on ?_
      refine Bl.wpL_app tDig Hown2.out Hnew.out rfl rfl (by rw [Bl.cellsD_one, Bl.ints_length, Hol.out.1]) (Bl.cellsD_one' _) (by unfold maxLen; omega) (by omega) HE8.out.size ?_
      intro q3 d3 w9 hown9 hg9 hB9 hK9 hn9 hc9
      have HE9 : Hid (Bl.Ext w2 w9) := Bl.hid (Below.trans HE8.out hB9)
      have hne : some X ≠ (Value.slice po ko co).ownBlock := fun e => by have := HNo.out X e.symm; omega
      have hXl8 : X < (w7.alloc (.cells (Bl.ints .u8 d).toArray 39)).heap.size := Nat.lt_of_lt_of_le HXl.out HE78.out.size
      have hc0 : w9.cell? ⟨X, 0, none⟩ = some (.bool x) := (hg9.cell_far ⟨X, 0, none⟩ hXl8 hne).trans (((Bl.bcell HE78.out).1 X 0 HXl.out).trans HC0.out)
      have hc2 : w9.cell? ⟨X, 2, none⟩ = some (.int .i64 t) := (hg9.cell_far ⟨X, 2, none⟩ hXl8 hne).trans (((Bl.bcell HE78.out).1 X 2 HXl.out).trans HC2.out)
      have hko1 : ko + 1 ≤ tn := by have := A2'.out; omega
      have HA9 : Hid ((acc ++ [d]).length = ko + 1 ∧ ko + 1 = k + 1 ∧ acc ++ [d] = (T.take (k + 1)).map (Bl.toldD ds) ∧ Bl.Dig (acc ++ [d]) ∧ w9.ownsRow w2.heap.size 39 32 (.slice q3 (ko + 1) d3) (ko + 1) (Bl.cellsD (acc ++ [d]))) := Bl.hid
        ⟨by rw [List.length_append, A1'.out]; rfl, by rw [A2'.out], by rw [Hms.out, A3'.out, Hdd.out]; rfl, A5'.out.append (Bl.Dig.one Hol.out.1 Hol.out.2), by rw [Bl.cellsD_append]; exact hown9⟩
      clear hown9 hg9 hB9 hK9 Hown2 Hnew HE8 hne hXl8 HE78
      have ht5 : t ≤ 512 := by omega
      cases x with
      | true =>
        go_wp2_with fail
        go_roundw
        case rel => exact ⟨k + 1, t, ko + 1, d3, q3, acc ++ [d], by omega, by go_num, rfl, rfl, hko1, ht5, Bl.hid ⟨HA9.out.1, HA9.out.2.1, HA9.out.2.2.1, by rw [Has.out]; rfl, HA9.out.2.2.2⟩, HE9.out⟩
        case measure => simp [intOf]; omega
      | false =>
        go_wp2_with fail
        go_roundw
        case rel => exact ⟨k + 1, q, ko + 1, d3, q3, acc ++ [d], by omega, by go_num, rfl, rfl, hko1, hq, Bl.hid ⟨HA9.out.1, HA9.out.2.1, HA9.out.2.2.1, by rw [Has.out, A4'.out]; rfl, HA9.out.2.2.2⟩, HE9.out⟩
        case measure => simp [intOf]; omega
    · obtain rfl : k = tn := by omega
      obtain ⟨A1, A2, A3, A4, A5, A6⟩ := HA.out
      rw [List.take_of_length_le (by rw [← Htn.out]; exact Nat.le_refl _)] at A3 A4
      have hqA : q = AT := A4.trans HAt.out
      have Hown := Bl.hid A6
      have A1' := Bl.hid A1
      have A3' := Bl.hid A3
      have A5' := Bl.hid A5
      clear A1 A2 A3 A4 A5 A6 HA
      cases WH with
      | true =>
        have HPD1 : Hid (PD = (T.map (Bl.toldD ds)).reverse) := Bl.hid (by have h := HPD.out; rw [if_pos rfl, List.append_nil] at h; exact h)
        clear HPD
        have Hrv := Bl.hid (revOwn_any wr w2.heap.size po ko co acc A1'.out A5'.out Hown.out (by omega))
        go_wp2_with fail
        refine Hrv.out.mono ?_
        rintro e w9 ⟨rfl, hR9, hB9⟩
        have HR9 := Bl.hid hR9
        have HB9 := Bl.hid hB9
        clear hR9 hB9 Hrv
        go_wp2_with fail
        go_ret2
        refine ⟨.slice po ko co, rfl, ?_, Below.trans (HE2.out.trans HE.out) (HB9.out.mono HE2.out.size)⟩
        rw [HPD1.out, ← A3'.out]
        have h := HR9.out
        show Bl.Rds w9 _ acc.reverse.length _
        rw [List.length_reverse, A1'.out]
        rw [show Bl.RdD w9 (.slice po ko co) acc.reverse = Bl.Rds w9 (.slice po ko co) acc.reverse.length (Bl.cellsD acc.reverse) from rfl, List.length_reverse, A1'.out] at h
        exact h
      | false =>
        have HPD1 : Hid (PD = (T.map (Bl.toldD ds) ++ [Bl.overD (Bl.cutL ds AT m)]).reverse) := Bl.hid (by have h := HPD.out; rw [if_neg (by decide)] at h; exact h)
        clear HPD
        subst hqA
        have hqm := HATm.out
        have hx1 : (0 : Int) ≤ (q : Int) := by omega
        have hx2 : (q : Int) ≤ (m : Int) := by omega
        have hx3 : (m : Int) ≤ (c : Int) := by omega
        have hx4 : ¬ (q = c) := by omega
        have hx5 : (m : Int) ≤ (n : Int) := by omega
        have hx6 : (q : Int) ≤ (c : Int) := by omega
        have Hcut := Bl.hid (Bl.RdD.cut (by have h := HL2.out; exact Bl.Rds.ext h HE.out) Hd.out q m hqm (by rw [← Hn.out]; exact hmn))
        have hcl := Bl.cutL_len ds q m (Nat.le_of_lt hqm) (by rw [← Hn.out]; exact hmn)
        have Hov := Bl.hid (over_any _ (Bl.cutL ds q m) wr (by omega) (Bl.cutL_dig Hd.out q m) Hcut.out (Hg.out.ext (HE2.out.trans HE.out)))
        have Hol := Bl.hid (Bl.overD_dig _ (Bl.cutL ds q m) rfl (Bl.cutL_dig Hd.out q m) (by omega))
        obtain ⟨d, hdd⟩ : ∃ d, d = Bl.overD (Bl.cutL ds q m) := ⟨_, rfl⟩
        rw [← hdd] at Hov Hol
        have Hdd := Bl.hid hdd
        clear hdd Hcut hcl
        go_wp2_with fail
        refine Hov.out.mono ?_
        rintro e w7 ⟨rfl, hE7⟩
        have Hown2 := Bl.hid (Bl.owns_ext (Bl.owns_ext Hown.out hE7) (Bl.ext_alloc w7 (.cells (Bl.ints .u8 d).toArray 39)))
        have Hnew := Bl.hid (Bl.rds_dig w7 39 d Hol.out.1)
        have HE8 : Hid (Bl.Ext w2 (w7.alloc (.cells (Bl.ints .u8 d).toArray 39))) := Bl.hid ((HE.out.trans hE7).trans (Bl.ext_alloc _ _))
        clear hE7 Hov
        go_wp2_with (with_reducible refine Bl.stop_build ?_)
        refine Bl.go_on ?_
        refine Bl.wpL_build1 tDig (by decide) rfl (by simp [Hol.out.1]) ?_
        go_wp2_with (with_reducible refine Bl.stop_append ?_)
        refine Bl.go_on ?_
        refine Bl.wpL_app tDig Hown2.out Hnew.out rfl rfl (by rw [Bl.cellsD_one, Bl.ints_length, Hol.out.1]) (Bl.cellsD_one' _) (by unfold maxLen; omega) (by omega) HE8.out.size ?_
        intro q3 d3 w9 hown9 hg9 hB9 hK9 hn9 hc9
        have HE9 : Hid (Bl.Ext w2 w9) := Bl.hid (Below.trans HE8.out hB9)
        have Hal : Hid ((acc ++ [d]).length = ko + 1) := Bl.hid (by rw [List.length_append, A1'.out]; rfl)
        have Hrv := Bl.hid (revOwn_any w9 w2.heap.size q3 (ko + 1) d3 (acc ++ [d]) Hal.out (A5'.out.append (Bl.Dig.one Hol.out.1 Hol.out.2)) (by rw [Bl.cellsD_append]; exact hown9) (by omega))
        clear hown9 hg9 hB9 hK9 Hown2 Hnew HE8
        go_wp2_with fail
        refine Hrv.out.mono ?_
        rintro e w10 ⟨rfl, hR9, hB9⟩
        have HR9 := Bl.hid hR9
        have HB9 := Bl.hid hB9
        clear hR9 hB9 Hrv
        go_wp2_with fail
        go_ret2
        refine ⟨.slice q3 (ko + 1) d3, rfl, ?_, Below.trans (HE2.out.trans HE9.out) (HB9.out.mono HE2.out.size)⟩
        rw [HPD1.out, ← A3'.out, ← Hdd.out]
        have h := HR9.out
        show Bl.Rds w10 _ (acc ++ [d]).reverse.length _
        rw [List.length_reverse, Hal.out]
        rw [show Bl.RdD w10 (.slice q3 (ko + 1) d3) (acc ++ [d]).reverse = Bl.Rds w10 (.slice q3 (ko + 1) d3) (acc ++ [d]).reverse.length (Bl.cellsD (acc ++ [d]).reverse) from rfl, List.length_reverse, Hal.out] at h
        exact h

/-- growth.Prove where there is no such proof -/
theorem gprove_no (v : Value) (ds : List (List Int)) (m : Int) (w : World) (S : List Nat) (a : Nat → Addr) (hR : Bl.RdD w v ds) (he : Errs S a w) (h1 : 1 ∈ S) (hm : ¬ (1 ≤ m ∧ m ≤ ds.length ∧ (ds.length : Int) ≤ 512)) :
    Calls Tryd.prog 21 #[v, .int .i64 m] w fun e w' => e = .returned (.tuple #[.slice none 0 0, .iface 161 (.pointer (some (a 1)))]) ∧ Bl.Ext w w' := by
  have hF : w.cell? ⟨0, 0, none⟩ = some (.iface 161 (.pointer (some (a 1)))) := he.cell 1 h1
  obtain ⟨p, c, hvf, hvn, hvc⟩ := hR.form
  subst hvf
  unfold maxLen at hvc
  have hth := Bl.hid (Bl.thereG_no hm)
  clear hR hm he
  go_enter Tryd.func21, Tryd.ntmps21
  go_wp2_with fail
  refine (counted_any _ _ _).mono ?_
  rintro e w1 ⟨rfl, hw⟩
  subst hw
  rw [hth.out]
  go_wp2_with fail
  go_quiet (fail)
  go_wp2_with fail
  go_ret2
  exact ⟨rfl, (Below.refl _ _).drewN _⟩
end Go.Proofs.YtmfooocdnoflaaaDoor

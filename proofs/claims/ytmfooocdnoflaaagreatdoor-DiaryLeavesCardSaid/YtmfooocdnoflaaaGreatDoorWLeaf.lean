/- Walks of diary.Leaf and of the model's Leaf. -/
import Derived.Test.YtmfooocdnoflaaaGreatDoorDia1
import Derived.Test.YtmfooocdnoflaaaGreatDoorDia3
import Derived.Test.YtmfooocdnoflaaaGreatDoorFld0
namespace Go.Proofs.Bl
open Go Go.RowKit
/-- was a leaf there, by the notes? the error's number -/
def leafE (N : List Nt) (k i : Int) (l : List Int) (p : List (List Int)) : Nat := if hasN N k = true then chkP (atN N k) k i l p else 11
theorem chkP_le (root : List Int) (n i : Int) (l : List Int) (p : List (List Int)) : chkP root n i l p ≤ 20 := by
  unfold chkP
  repeat' split
  all_goals omega
theorem leafE_le (N : List Nt) (k i : Int) (l : List Int) (p : List (List Int)) : leafE N k i l p ≤ 20 := by
  unfold leafE
  split
  · exact chkP_le _ _ _ _ _
  · omega
theorem ints32_ne {d : List Int} (h : d.length = 32) : ints .u8 d ≠ [] := fun q => by have := congrArg List.length q; rw [ints_length, h] at this; cases this
end Go.Proofs.Bl
namespace Go.Proofs.YtmfooocdnoflaaaGreatDoor
open Go Go.RowKit Go.Proofs

set_option maxRecDepth 100000 in
set_option maxHeartbeats 1000000 in
theorem dleaf_any (b : Nat) (v : Value) (N : List Bl.Nt) (k i : Int) (vl vp : Value) (l : List Int) (p : List (List Int)) (w : World) (S : List Nat) (a : Nat → Addr) (h : Bl.Di w b v N) (hr : Bl.Ris N) (hn : N.length ≤ 500) (hl : Bl.Rd w .u8 vl l) (hbl : Bl.Byt l) (hll : l.length ≤ 1099511626000) (hp : Bl.RdD w vp p) (hdp : Bl.Dig p) (he : Errs S a w) (s1 : 1 ∈ S) (s8 : 8 ∈ S) (s11 : 11 ∈ S) (s15 : 15 ∈ S) (hg : Glob w) :
    Calls Tryz.prog 12 #[.pointer (some ⟨b, 0, none⟩), .int .i64 k, .int .i64 i, vl, vp] w fun e w' => e = .returned (errN a (Bl.leafE N k i l p)) ∧ Bl.Ext w w' := by
  have HA := Bl.hid (dat_any b v N k w h hr (by omega))
  have hdl := Bl.atN_len h.dig k
  have HC : Hid (∀ w2, Bl.Ext w w2 → Calls Tryz.prog 23 #[.agg (Bl.ints .u8 (Bl.atN N k)).toArray, .int .i64 k, .int .i64 i, vl, vp] w2 fun e w' => e = .returned (errN a (Bl.chkP (Bl.atN N k) k i l p)) ∧ Bl.Ext w2 w') := Bl.hid fun w2 h2 =>
    pcheck_any (Bl.atN N k) k i vl vp l p w2 S a (he.ext h2) s1 s8 s15 hdl (hl.ext h2) hbl hll (Bl.Rds.ext hp h2) hdp (hg.ext h2)
  have He := Bl.hid he
  have HV : Hid (Bl.leafE N k i l p = if Bl.hasN N k = true then Bl.chkP (Bl.atN N k) k i l p else 11) := Bl.hid rfl
  obtain ⟨K, hK⟩ : ∃ K, K = Bl.chkP (Bl.atN N k) k i l p := ⟨_, rfl⟩
  obtain ⟨d, hd⟩ : ∃ d, d = Bl.atN N k := ⟨_, rfl⟩
  obtain ⟨q, hq⟩ : ∃ q, q = Bl.hasN N k := ⟨_, rfl⟩
  rw [← hK] at HC HV
  rw [← hd] at HA HC hdl
  rw [← hq] at HA HV
  have Hdl := Bl.hid hdl
  clear h hr hl hbl hp hdp he hg hdl hK hd hq
  go_enter Tryz.func12, Tryz.ntmps12
  go_wp2_with fail
  refine HA.out.mono ?_
  rintro e w1 ⟨rfl, hE1⟩
  have HE1 := Bl.hid hE1
  clear hE1
  obtain ⟨hB, hE2⟩ := Bl.BoxC.fresh (cs := Bl.ints .u8 d) w1 44 #[.int .u8 0, .int .u8 0, .int .u8 0, .int .u8 0, .int .u8 0, .int .u8 0, .int .u8 0, .int .u8 0, .int .u8 0, .int .u8 0, .int .u8 0, .int .u8 0, .int .u8 0, .int .u8 0, .int .u8 0, .int .u8 0, .int .u8 0, .int .u8 0, .int .u8 0, .int .u8 0, .int .u8 0, .int .u8 0, .int .u8 0, .int .u8 0, .int .u8 0, .int .u8 0, .int .u8 0, .int .u8 0, .int .u8 0, .int .u8 0, .int .u8 0, .int .u8 0] (by rw [Bl.ints_length, Hdl.out]; rfl) (Bl.ints32_ne Hdl.out)
  have Hst := Bl.hid (Bl.fresh_store (P := Tryz.prog) (cs := Bl.ints .u8 d) w1 44 #[.int .u8 0, .int .u8 0, .int .u8 0, .int .u8 0, .int .u8 0, .int .u8 0, .int .u8 0, .int .u8 0, .int .u8 0, .int .u8 0, .int .u8 0, .int .u8 0, .int .u8 0, .int .u8 0, .int .u8 0, .int .u8 0, .int .u8 0, .int .u8 0, .int .u8 0, .int .u8 0, .int .u8 0, .int .u8 0, .int .u8 0, .int .u8 0, .int .u8 0, .int .u8 0, .int .u8 0, .int .u8 0, .int .u8 0, .int .u8 0, .int .u8 0, .int .u8 0] (by rw [Bl.ints_length, Hdl.out]; rfl) (Bl.ints_one _ _) (ty := 44) (by rw [Bl.ints_length, Hdl.out]; kernel_rfl))
  have HB := Bl.hid hB
  have HE2 := Bl.hid (HE1.out.trans hE2)
  clear hB hE2
  go_wp2_with (with_reducible refine Bl.stop_store (ty := 44) ?_)
  refine Bl.go_on ?_
  refine Bl.wpL_store0 rfl rfl Hst.out ?_
  obtain ⟨W2, hW2⟩ : ∃ W2, W2 = (w1.alloc (.cells #[.int .u8 0, .int .u8 0, .int .u8 0, .int .u8 0, .int .u8 0, .int .u8 0, .int .u8 0, .int .u8 0, .int .u8 0, .int .u8 0, .int .u8 0, .int .u8 0, .int .u8 0, .int .u8 0, .int .u8 0, .int .u8 0, .int .u8 0, .int .u8 0, .int .u8 0, .int .u8 0, .int .u8 0, .int .u8 0, .int .u8 0, .int .u8 0, .int .u8 0, .int .u8 0, .int .u8 0, .int .u8 0, .int .u8 0, .int .u8 0, .int .u8 0, .int .u8 0] 44)).setCells w1.heap.size 0 (Bl.ints .u8 d) := ⟨_, rfl⟩
  obtain ⟨X2, hX2⟩ : ∃ X2, X2 = w1.heap.size := ⟨_, rfl⟩
  rw [← hW2] at HB HE2 ⊢
  rw [← hX2] at HB ⊢
  clear hW2 hX2 Hst
  cases q
  · have hF : W2.cell? ⟨10, 0, none⟩ = some (.iface 170 (.pointer (some (a 11)))) := (He.out.ext HE2.out).cell 11 s11
    have HV2 : Hid (Bl.leafE N k i l p = 11) := Bl.hid (by rw [HV.out]; rfl)
    go_wp2_with fail
    go_ret
    exact ⟨by rw [HV2.out, errN_pos a 11 (by decide)]; rfl, HE2.out⟩
  · have HV2 : Hid (Bl.leafE N k i l p = K) := Bl.hid (by rw [HV.out]; rfl)
    have Hld := Bl.hid (Bl.load_ints (P := Tryz.prog) (ty := 44) HB.out.rg Tryz.underlying44 (by kernel_rfl) Hdl.out)
    go_wp2_with (with_reducible refine Bl.stop_load (ty := 44) ?_)
    refine Bl.go_on ?_
    refine Bl.wpL_load rfl Hld.out ?_
    go_wp2_with fail
    refine (HC.out W2 HE2.out).mono ?_
    rintro e w3 ⟨rfl, hE3⟩
    have HE3 := Bl.hid (HE2.out.trans hE3)
    clear hE3
    go_wp2_with fail
    go_ret
    exact ⟨by rw [HV2.out]; rfl, HE3.out⟩

set_option maxRecDepth 100000 in
set_option maxHeartbeats 1000000 in
theorem mleaf_any (b : Nat) (v : Value) (N : List Bl.Nt) (k i : Int) (vl vp : Value) (l : List Int) (p : List (List Int)) (w : World) (h : Bl.Dm w b v N) (hr : Bl.Ris N) (hn : N.length ≤ 500) (hl : Bl.Rd w .u8 vl l) (hbl : Bl.Byt l) (hll : l.length ≤ 1099511626000) (hp : Bl.RdD w vp p) (hdp : Bl.Dig p) (hg : GlobR w) :
    Calls Tryz.prog 13 #[.pointer (some ⟨b, 0, none⟩), .int .i64 k, .int .i64 i, vl, vp] w fun e w' => e = .returned (.int .i64 (Bl.leafE N k i l p : Nat)) ∧ Bl.Ext w w' := by
  have HA := Bl.hid (mat_any b v N k w h hr hn)
  have hdl := Bl.atN_len h.dig k
  have HC : Hid (∀ w2, Bl.Ext w w2 → Calls Tryz.prog 25 #[.agg (Bl.ints .u8 (Bl.atN N k)).toArray, .int .i64 k, .int .i64 i, vl, vp] w2 fun e w' => e = .returned (.int .i64 (Bl.chkP (Bl.atN N k) k i l p : Nat)) ∧ Bl.Ext w2 w') := Bl.hid fun w2 h2 =>
    refcheck_any (Bl.atN N k) k i vl vp l p w2 hdl (hl.ext h2) hbl hll (Bl.Rds.ext hp h2) hdp (hg.ext h2)
  have HV : Hid (Bl.leafE N k i l p = if Bl.hasN N k = true then Bl.chkP (Bl.atN N k) k i l p else 11) := Bl.hid rfl
  obtain ⟨K, hK⟩ : ∃ K, K = Bl.chkP (Bl.atN N k) k i l p := ⟨_, rfl⟩
  obtain ⟨d, hd⟩ : ∃ d, d = Bl.atN N k := ⟨_, rfl⟩
  obtain ⟨q, hq⟩ : ∃ q, q = Bl.hasN N k := ⟨_, rfl⟩
  rw [← hK] at HC HV
  rw [← hd] at HA HC hdl
  rw [← hq] at HA HV
  have Hdl := Bl.hid hdl
  clear h hr hl hbl hp hdp hg hdl hK hd hq
  go_enter Tryz.func13, Tryz.ntmps13
  go_wp2_with fail
  refine HA.out.mono ?_
  rintro e w1 ⟨rfl, hE1⟩
  have HE1 := Bl.hid hE1
  clear hE1
  obtain ⟨hB, hE2⟩ := Bl.BoxC.fresh (cs := Bl.ints .u8 d) w1 23 #[.int .u8 0, .int .u8 0, .int .u8 0, .int .u8 0, .int .u8 0, .int .u8 0, .int .u8 0, .int .u8 0, .int .u8 0, .int .u8 0, .int .u8 0, .int .u8 0, .int .u8 0, .int .u8 0, .int .u8 0, .int .u8 0, .int .u8 0, .int .u8 0, .int .u8 0, .int .u8 0, .int .u8 0, .int .u8 0, .int .u8 0, .int .u8 0, .int .u8 0, .int .u8 0, .int .u8 0, .int .u8 0, .int .u8 0, .int .u8 0, .int .u8 0, .int .u8 0] (by rw [Bl.ints_length, Hdl.out]; rfl) (Bl.ints32_ne Hdl.out)
  have Hst := Bl.hid (Bl.fresh_store (P := Tryz.prog) (cs := Bl.ints .u8 d) w1 23 #[.int .u8 0, .int .u8 0, .int .u8 0, .int .u8 0, .int .u8 0, .int .u8 0, .int .u8 0, .int .u8 0, .int .u8 0, .int .u8 0, .int .u8 0, .int .u8 0, .int .u8 0, .int .u8 0, .int .u8 0, .int .u8 0, .int .u8 0, .int .u8 0, .int .u8 0, .int .u8 0, .int .u8 0, .int .u8 0, .int .u8 0, .int .u8 0, .int .u8 0, .int .u8 0, .int .u8 0, .int .u8 0, .int .u8 0, .int .u8 0, .int .u8 0, .int .u8 0] (by rw [Bl.ints_length, Hdl.out]; rfl) (Bl.ints_one _ _) (ty := 23) (by rw [Bl.ints_length, Hdl.out]; kernel_rfl))
  have HB := Bl.hid hB
  have HE2 := Bl.hid (HE1.out.trans hE2)
  clear hB hE2
  go_wp2_with (with_reducible refine Bl.stop_store (ty := 23) ?_)
  refine Bl.go_on ?_
  refine Bl.wpL_store0 rfl rfl Hst.out ?_
  obtain ⟨W2, hW2⟩ : ∃ W2, W2 = (w1.alloc (.cells #[.int .u8 0, .int .u8 0, .int .u8 0, .int .u8 0, .int .u8 0, .int .u8 0, .int .u8 0, .int .u8 0, .int .u8 0, .int .u8 0, .int .u8 0, .int .u8 0, .int .u8 0, .int .u8 0, .int .u8 0, .int .u8 0, .int .u8 0, .int .u8 0, .int .u8 0, .int .u8 0, .int .u8 0, .int .u8 0, .int .u8 0, .int .u8 0, .int .u8 0, .int .u8 0, .int .u8 0, .int .u8 0, .int .u8 0, .int .u8 0, .int .u8 0, .int .u8 0] 23)).setCells w1.heap.size 0 (Bl.ints .u8 d) := ⟨_, rfl⟩
  obtain ⟨X2, hX2⟩ : ∃ X2, X2 = w1.heap.size := ⟨_, rfl⟩
  rw [← hW2] at HB HE2 ⊢
  rw [← hX2] at HB ⊢
  clear hW2 hX2 Hst
  cases q
  · have HV2 : Hid (Bl.leafE N k i l p = 11) := Bl.hid (by rw [HV.out]; rfl)
    go_wp2_with fail
    go_ret
    exact ⟨by rw [HV2.out]; rfl, HE2.out⟩
  · have HV2 : Hid (Bl.leafE N k i l p = K) := Bl.hid (by rw [HV.out]; rfl)
    have Hld := Bl.hid (Bl.load_ints (P := Tryz.prog) (ty := 23) HB.out.rg Tryz.underlying23 (by kernel_rfl) Hdl.out)
    go_wp2_with (with_reducible refine Bl.stop_load (ty := 23) ?_)
    refine Bl.go_on ?_
    refine Bl.wpL_load rfl Hld.out ?_
    go_wp2_with fail
    refine (HC.out W2 HE2.out).mono ?_
    rintro e w3 ⟨rfl, hE3⟩
    have HE3 := Bl.hid (HE2.out.trans hE3)
    clear hE3
    go_wp2_with fail
    go_ret
    exact ⟨by rw [HV2.out]; rfl, HE3.out⟩
end Go.Proofs.YtmfooocdnoflaaaGreatDoor

/- Walk of baileelaw13.Digests. -/
import Derived.Test.YtmfooocdnoflaaaDoorTrip
import Derived.Test.YtmfooocdnoflaaaDoorWLeaves
import Derived.Test.YtmfooocdnoflaaaDoorLib0
namespace Go.Proofs.YtmfooocdnoflaaaDoor
open Go.RowKit Go.Proofs

set_option maxRecDepth 100000 in
set_option maxHeartbeats 400000 in
theorem digests13_any (v : Value) (ds : List (List Int)) (w : World) (hR : Bl.RdD w v ds) (hd : Bl.Dig ds) (hn : ds.length ≤ 1048576) :
    Calls Tryd.prog 14 #[v] w fun e w' => ∃ p c, e = .returned (.slice p ds.length c) ∧ w'.ownsRow w.heap.size 39 32 (.slice p ds.length c) ds.length (Bl.cellsD ds) ∧ Bl.Ext w w' := by
  obtain ⟨p, c, hvf, hvn, hvc⟩ := hR.form
  subst hvf
  have HR := Bl.hid hR
  have Hd := Bl.hid hd
  have Hown0 := Bl.hid (Bl.owns_nil_lit w 39 w.heap.size (Nat.le_refl _) 32)
  have HE0 := Bl.hid (Bl.ext_alloc w (.cells #[] 39))
  obtain ⟨n, hn0⟩ : ∃ n, n = ds.length := ⟨_, rfl⟩
  rw [← hn0] at hn hvn ⊢
  have Hn := Bl.hid hn0
  clear hR hd hn0
  go_enter Tryd.func14, Tryd.ntmps14
  go_wp2_with fail
  go_loopw [3, 9] (fun o i wr => ∃ (k c1 : Nat) (p1 : Option Addr), k ≤ n ∧ i = .int .i64 k ∧ o = .slice p1 k c1 ∧ wr.ownsRow w.heap.size 39 32 (.slice p1 k c1) k (Bl.cellsD (ds.take k)) ∧ Bl.Ext w wr) (fun _ i _ => n - (intOf i).toNat)
  case atStart => exact ⟨0, 0, _, Nat.zero_le _, rfl, rfl, Hown0.out, HE0.out⟩
  case round =>
    obtain ⟨k, c1, p1, hk, rfl, rfl, hown, hE⟩ := hrel
    have Hown := Bl.hid hown
    have HE := Bl.hid hE
    clear hown hE
    by_cases hlt : k < n
    · obtain ⟨b, o, c', hp, hp1, hp2, hbl, hrg⟩ := Bl.RdD.pos (Bl.Rds.ext HR.out HE.out) Hd.out (by rw [← Hn.out]; omega)
      injection hp with hp hp3 hp4
      clear hp3 hp4
      subst hp
      have hr1 := Bl.digit_at hrg Hd.out (i := k) (by rw [← Hn.out]; exact hlt)
      obtain ⟨hll, _⟩ := Hd.out.get (i := k) (by rw [← Hn.out]; exact hlt)
      have Htk := Bl.hid (Bl.take_snocD ds k (by rw [← Hn.out]; exact hlt))
      obtain ⟨d, hd⟩ : ∃ d, d = ds.getD k [] := ⟨_, rfl⟩
      rw [← hd] at hr1 hll Htk
      have Hld := Bl.hid (Bl.load_ints (P := Tryd.prog) (ty := 31) hr1 Tryd.underlying31 (by kernel_rfl) hll)
      have Hll := Bl.hid hll
      clear hr1 hll hd hp1 hp2 hrg hbl
      go_wp2_with (with_reducible refine Bl.stop_load (ty := 31) ?_)
      refine Bl.go_on ?_
      refine Bl.wpL_load rfl Hld.out ?_
      have HF5 := Bl.hid (fam_new wr 32 .u8 31 #[.int .u8 0, .int .u8 0, .int .u8 0, .int .u8 0, .int .u8 0, .int .u8 0, .int .u8 0, .int .u8 0, .int .u8 0, .int .u8 0, .int .u8 0, .int .u8 0, .int .u8 0, .int .u8 0, .int .u8 0, .int .u8 0, .int .u8 0, .int .u8 0, .int .u8 0, .int .u8 0, .int .u8 0, .int .u8 0, .int .u8 0, .int .u8 0, .int .u8 0, .int .u8 0, .int .u8 0, .int .u8 0, .int .u8 0, .int .u8 0, .int .u8 0, .int .u8 0] rfl)
      have Hst := Bl.hid (Bl.store_ints (P := Tryd.prog) (ty := 31) (k := .u8) (l := d) (n := 32) HF5.out.there (by kernel_rfl) Hll.out)
      have HE6 : Hid (Bl.Ext wr ((wr.alloc (.cells #[.int .u8 0, .int .u8 0, .int .u8 0, .int .u8 0, .int .u8 0, .int .u8 0, .int .u8 0, .int .u8 0, .int .u8 0, .int .u8 0, .int .u8 0, .int .u8 0, .int .u8 0, .int .u8 0, .int .u8 0, .int .u8 0, .int .u8 0, .int .u8 0, .int .u8 0, .int .u8 0, .int .u8 0, .int .u8 0, .int .u8 0, .int .u8 0, .int .u8 0, .int .u8 0, .int .u8 0, .int .u8 0, .int .u8 0, .int .u8 0, .int .u8 0, .int .u8 0] 31)).setCells wr.heap.size 0 (Bl.ints .u8 d))) := Bl.hid (Bl.below_setCells _ _ _ _ (Bl.ext_alloc _ _) (Nat.le_refl _))
      have Hr7 : Hid (((wr.alloc (.cells #[.int .u8 0, .int .u8 0, .int .u8 0, .int .u8 0, .int .u8 0, .int .u8 0, .int .u8 0, .int .u8 0, .int .u8 0, .int .u8 0, .int .u8 0, .int .u8 0, .int .u8 0, .int .u8 0, .int .u8 0, .int .u8 0, .int .u8 0, .int .u8 0, .int .u8 0, .int .u8 0, .int .u8 0, .int .u8 0, .int .u8 0, .int .u8 0, .int .u8 0, .int .u8 0, .int .u8 0, .int .u8 0, .int .u8 0, .int .u8 0, .int .u8 0, .int .u8 0] 31)).setCells wr.heap.size 0 (Bl.ints .u8 d)).rangeAt wr.heap.size 0 (Bl.ints .u8 d)) := Bl.hid (World.rangeAt_setCells_same _ _ _ _ (by rw [Bl.ints_length, Hll.out]; exact HF5.out.there))
      go_wp2_with (with_reducible refine Bl.stop_store (ty := 31) ?_)
      refine Bl.go_on ?_
      refine Bl.wpL_store0 rfl rfl Hst.out ?_
      generalize hWS : (wr.alloc (.cells #[.int .u8 0, .int .u8 0, .int .u8 0, .int .u8 0, .int .u8 0, .int .u8 0, .int .u8 0, .int .u8 0, .int .u8 0, .int .u8 0, .int .u8 0, .int .u8 0, .int .u8 0, .int .u8 0, .int .u8 0, .int .u8 0, .int .u8 0, .int .u8 0, .int .u8 0, .int .u8 0, .int .u8 0, .int .u8 0, .int .u8 0, .int .u8 0, .int .u8 0, .int .u8 0, .int .u8 0, .int .u8 0, .int .u8 0, .int .u8 0, .int .u8 0, .int .u8 0] 31)).setCells wr.heap.size 0 (Bl.ints .u8 d) = W6 at *
      clear hWS Hst HF5 Hld
      generalize wr.heap.size = s7 at *
      go_wp2_with (with_reducible refine Bl.stop_load (ty := 31) ?_)
      refine Bl.go_on ?_
      refine Bl.wpL_load rfl (Bl.load_ints Hr7.out Tryd.underlying31 (by kernel_rfl) Hll.out) ?_
      have Hown2 := Bl.hid (Bl.owns_ext (Bl.owns_ext Hown.out HE6.out) (Bl.ext_alloc W6 (.cells (Bl.ints .u8 d).toArray 39)))
      have Hnew := Bl.hid (Bl.rds_dig W6 39 d Hll.out)
      have HE2 : Hid (Bl.Ext w (W6.alloc (.cells (Bl.ints .u8 d).toArray 39))) := Bl.hid ((HE.out.trans HE6.out).trans (Bl.ext_alloc _ _))
      go_wp2_with (with_reducible refine Bl.stop_build ?_)
      refine Bl.go_on ?_
      refine Bl.wpL_build1 tDig (by decide) rfl (by simp [Hll.out]) ?_
      go_wp2_with (with_reducible refine Bl.stop_append ?_)
      refine Bl.go_on ?_
      refine Bl.wpL_app tDig Hown2.out Hnew.out rfl rfl (by rw [Bl.cellsD_one, Bl.ints_length, Hll.out]) (Bl.cellsD_one' _) (by unfold maxLen; omega) (by omega) HE2.out.size ?_
      intro q3 d3 w3 hown3 hg3 hB3 hK3 hn3 hc3
      have Hown3 := Bl.hid hown3
      have HE3 : Hid (Bl.Ext w w3) := Bl.hid (Below.trans HE2.out hB3)
      clear hown3 hg3 hB3 hK3
      go_wp2_with fail
      go_roundw
      case rel =>
        refine ⟨k + 1, d3, q3, by omega, by go_num, rfl, ?_, HE3.out⟩
        rw [Htk.out, Bl.cellsD_append]
        exact Hown3.out
      case measure => simp [intOf]; omega
    · obtain rfl : k = n := by omega
      have hown := Hown.out
      rw [List.take_of_length_le (by rw [← Hn.out]; exact Nat.le_refl _)] at hown
      have Hown1 := Bl.hid hown
      clear hown
      go_wp2_with fail
      go_ret
      exact ⟨_, _, rfl, Hown1.out, HE.out⟩
end Go.Proofs.YtmfooocdnoflaaaDoor

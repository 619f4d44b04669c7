/- Walk of path.Bytes. -/
import Derived.Test.YtglenbikdahgjaaDoorBA1
import Derived.Test.YtglenbikdahgjaaDoorTri0
import Derived.Test.YtglenbikdahgjaaDoorDia0
namespace Go.Proofs.YtglenbikdahgjaaDoor
open Go.RowKit Go.Proofs

set_option maxRecDepth 100000 in
set_option maxHeartbeats 400000 in
theorem pbytes_any (v : Value) (ds : List (List Int)) (w : World) (hR : Bl.RdD w v ds) (hd : Bl.Dig ds) (hn : ds.length ≤ 1048576) :
    Calls Tryd.prog 47 #[v] w fun e w' => ∃ v', e = .returned v' ∧ Bl.Rd w' .u8 v' ds.flatten ∧ Bl.Ext w w' := by
  obtain ⟨p, c, hvf, hvn, hvc⟩ := hR.form
  subst hvf
  have HR := Bl.hid hR
  have Hd := Bl.hid hd
  obtain ⟨n, hn0⟩ : ∃ n, n = ds.length := ⟨_, rfl⟩
  rw [← hn0] at hn hvn ⊢
  have Hn := Bl.hid hn0
  clear hR hd hn0
  go_enter Tryd.func47, Tryd.ntmps47
  go_wp2_with fail
  go_loopw [3, 8] (fun o i wr => ∃ (k c1 : Nat) (p1 : Option Addr), k ≤ n ∧ i = .int .i64 k ∧ o = .slice p1 (k * 32) c1 ∧ wr.ownsRow w.heap.size 5 1 (.slice p1 (k * 32) c1) (k * 32) (Bl.ints .u8 (ds.take k).flatten) ∧ Bl.Ext w wr) (fun _ i _ => n - (intOf i).toNat)
  case atStart => exact ⟨0, 0, none, Nat.zero_le _, rfl, rfl, ⟨rfl, .inl ⟨rfl, rfl⟩⟩, Below.refl _ _⟩
  case round =>
    obtain ⟨k, c1, p1, hk, rfl, rfl, hown, hE⟩ := hrel
    have Hown := Bl.hid hown
    have HE := Bl.hid hE
    clear hown hE
    by_cases hlt : k < n
    · obtain ⟨b, o, c', hp, hp1, hp2, hbl, hrg⟩ := Bl.RdD.pos (Bl.Rds.ext HR.out HE.out) Hd.out (by rw [← Hn.out]; omega)
      injection hp with hp hp3 hp4
      clear hp3 hp4
      subst hp
      have hr1 := Bl.digit_at hrg Hd.out (i := k) (by rw [← Hn.out]; exact hlt)
      obtain ⟨hll, _⟩ := Hd.out.get (i := k) (by rw [← Hn.out]; exact hlt)
      have Htk := Bl.hid (Bl.take_snocD ds k (by rw [← Hn.out]; exact hlt))
      obtain ⟨d, hd⟩ : ∃ d, d = ds.getD k [] := ⟨_, rfl⟩
      rw [← hd] at hr1 hll Htk
      have Hld := Bl.hid (Bl.load_ints (P := Tryd.prog) (ty := 41) hr1 Tryd.underlying41 (by kernel_rfl) hll)
      have Hll := Bl.hid hll
      clear hr1 hll hd hp1 hp2 hrg hbl
      go_wp2_with (with_reducible refine Bl.stop_load (ty := 41) ?_)
      refine Bl.go_on ?_
      refine Bl.wpL_load rfl Hld.out ?_
      have HF5 := Bl.hid (fam_new wr 32 .u8 41 #[.int .u8 0, .int .u8 0, .int .u8 0, .int .u8 0, .int .u8 0, .int .u8 0, .int .u8 0, .int .u8 0, .int .u8 0, .int .u8 0, .int .u8 0, .int .u8 0, .int .u8 0, .int .u8 0, .int .u8 0, .int .u8 0, .int .u8 0, .int .u8 0, .int .u8 0, .int .u8 0, .int .u8 0, .int .u8 0, .int .u8 0, .int .u8 0, .int .u8 0, .int .u8 0, .int .u8 0, .int .u8 0, .int .u8 0, .int .u8 0, .int .u8 0, .int .u8 0] rfl)
      have Hst := Bl.hid (Bl.store_ints (P := Tryd.prog) (ty := 41) (k := .u8) (l := d) (n := 32) HF5.out.there (by kernel_rfl) Hll.out)
      have HE6 : Hid (Bl.Ext wr ((wr.alloc (.cells #[.int .u8 0, .int .u8 0, .int .u8 0, .int .u8 0, .int .u8 0, .int .u8 0, .int .u8 0, .int .u8 0, .int .u8 0, .int .u8 0, .int .u8 0, .int .u8 0, .int .u8 0, .int .u8 0, .int .u8 0, .int .u8 0, .int .u8 0, .int .u8 0, .int .u8 0, .int .u8 0, .int .u8 0, .int .u8 0, .int .u8 0, .int .u8 0, .int .u8 0, .int .u8 0, .int .u8 0, .int .u8 0, .int .u8 0, .int .u8 0, .int .u8 0, .int .u8 0] 41)).setCells wr.heap.size 0 (Bl.ints .u8 d))) := Bl.hid (Bl.below_setCells _ _ _ _ (Bl.ext_alloc _ _) (Nat.le_refl _))
      have Hr7 : Hid (((wr.alloc (.cells #[.int .u8 0, .int .u8 0, .int .u8 0, .int .u8 0, .int .u8 0, .int .u8 0, .int .u8 0, .int .u8 0, .int .u8 0, .int .u8 0, .int .u8 0, .int .u8 0, .int .u8 0, .int .u8 0, .int .u8 0, .int .u8 0, .int .u8 0, .int .u8 0, .int .u8 0, .int .u8 0, .int .u8 0, .int .u8 0, .int .u8 0, .int .u8 0, .int .u8 0, .int .u8 0, .int .u8 0, .int .u8 0, .int .u8 0, .int .u8 0, .int .u8 0, .int .u8 0] 41)).setCells wr.heap.size 0 (Bl.ints .u8 d)).rangeAt wr.heap.size 0 (Bl.ints .u8 d)) := Bl.hid (World.rangeAt_setCells_same _ _ _ _ (by rw [Bl.ints_length, Hll.out]; exact HF5.out.there))
      go_wp2_with (with_reducible refine Bl.stop_store (ty := 41) ?_)
      refine Bl.go_on ?_
      refine Bl.wpL_store0 rfl rfl Hst.out ?_
      generalize hWS : (wr.alloc (.cells #[.int .u8 0, .int .u8 0, .int .u8 0, .int .u8 0, .int .u8 0, .int .u8 0, .int .u8 0, .int .u8 0, .int .u8 0, .int .u8 0, .int .u8 0, .int .u8 0, .int .u8 0, .int .u8 0, .int .u8 0, .int .u8 0, .int .u8 0, .int .u8 0, .int .u8 0, .int .u8 0, .int .u8 0, .int .u8 0, .int .u8 0, .int .u8 0, .int .u8 0, .int .u8 0, .int .u8 0, .int .u8 0, .int .u8 0, .int .u8 0, .int .u8 0, .int .u8 0] 41)).setCells wr.heap.size 0 (Bl.ints .u8 d) = W6 at *
      clear hWS Hst HF5 Hld
      generalize wr.heap.size = s7 at *
      have Hown2 := Bl.hid (Bl.owns_ext Hown.out HE6.out)
      have Hnew : Hid (Bl.Rd W6 .u8 (.slice (some ⟨s7, 0, none⟩) 32 32) d) := Bl.hid (Bl.rd_box Hr7.out Hll.out (by decide))
      have HE2 := Bl.hid (HE.out.trans HE6.out)
      go_wp2_with (with_reducible refine Bl.stop_append ?_)
      refine Bl.go_on ?_
      have Hnew32 : Hid (Bl.Rds W6 (.slice (some ⟨s7, 0, none⟩) 32 32) 32 (Bl.ints .u8 d)) := Bl.hid (by have h := Hnew.out; unfold Bl.Rd at h; rw [Hll.out] at h; exact h)
      refine Bl.wpL_app tBytes Hown2.out Hnew32.out rfl rfl (by rw [Bl.ints_length, Hll.out]) (Bl.ints_one _ _) (by unfold maxLen; omega) (by omega) HE2.out.size ?_
      intro q3 d3 w3 hown3 hg3 hB3 hK3 hn3 hc3
      have e32 : k * 32 + 32 = (k + 1) * 32 := by omega
      rw [e32] at hown3 ⊢
      have Hown3 := Bl.hid hown3
      have HE3 : Hid (Bl.Ext w w3) := Bl.hid (Below.trans HE2.out hB3)
      clear hown3 hg3 hB3 hK3 e32
      go_wp2_with fail
      go_roundw
      case rel =>
        refine ⟨k + 1, d3, q3, by omega, by go_num, rfl, ?_, HE3.out⟩
        rw [Htk.out, List.flatten_append, List.flatten_singleton, Bl.ints_append]
        exact Hown3.out
      case measure => simp [intOf]; omega
    · obtain rfl : k = n := by omega
      have hown := Hown.out
      rw [List.take_of_length_le (by rw [← Hn.out]; exact Nat.le_refl _)] at hown
      have Hr1 := Bl.hid (Bl.Rds.of_owns hown)
      have Hfl : Hid (ds.flatten.length = k * 32) := Bl.hid (by
        have h := hown.1
        rw [Bl.ints_length] at h; omega)
      clear hown
      go_wp2_with fail
      go_ret
      exact ⟨_, rfl, by show Bl.Rds _ _ ds.flatten.length _; rw [Hfl.out]; exact Hr1.out, HE.out⟩
end Go.Proofs.YtglenbikdahgjaaDoor

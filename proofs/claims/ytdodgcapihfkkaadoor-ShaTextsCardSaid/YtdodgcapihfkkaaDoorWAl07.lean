/- Walk of baileelaw07.alive. -/
import Derived.Test.YtdodgcapihfkkaaDoorWHex
import Derived.Lib.SlBytesConst
import Derived.Lib.SmallJoins
namespace Go.Proofs.Bl
open Go
theorem abc_hex : hexs (sha [97, 98, 99]) = [98, 97, 55, 56, 49, 54, 98, 102, 56, 102, 48, 49, 99, 102, 101, 97, 52, 49, 52, 49, 52, 48, 100, 101, 53, 100, 97, 101, 50, 50, 50, 51, 98, 48, 48, 51, 54, 49, 97, 51, 57, 54, 49, 55, 55, 97, 57, 99, 98, 52, 49, 48, 102, 102, 54, 49, 102, 50, 48, 48, 49, 53, 97, 100] := by decide +kernel
theorem abc_str : bstr (hexs (sha [97, 98, 99])) = ⟨#[98, 97, 55, 56, 49, 54, 98, 102, 56, 102, 48, 49, 99, 102, 101, 97, 52, 49, 52, 49, 52, 48, 100, 101, 53, 100, 97, 101, 50, 50, 50, 51, 98, 48, 48, 51, 54, 49, 97, 51, 57, 54, 49, 55, 55, 97, 57, 99, 98, 52, 49, 48, 102, 102, 54, 49, 102, 50, 48, 48, 49, 53, 97, 100]⟩ := by rw [abc_hex]; rfl
theorem eat_byt : ∀ (s : St), Byt s.bytes := fun s x hx => by
  obtain ⟨i, hi, rfl⟩ := List.mem_iff_getElem.1 hx
  have h := s.bytes_get i hi
  rw [List.getD_eq_getElem?_getD, List.getElem?_eq_getElem hi] at h
  simp only [Option.getD_some] at h
  rw [h]; unfold St.byte; omega
theorem sha_byt (l : List Int) : Byt (sha l) := eat_byt _
/-- a constant's bytes: the row is marked behind its end -/
theorem rds_mark (w : World) (e : TypeId) (l : List Int) (fr : Nat × Nat) (hm : l.length ≤ maxLen) :
    Rds (w.alloc (.cells (ints .u8 l).toArray e fr)) (.slice (some ⟨w.heap.size, 0, none⟩) l.length l.length) l.length (ints .u8 l) := by
  refine .inr ⟨w.heap.size, 0, l.length, rfl, Nat.le_refl _, hm, fun j v hv => ?_⟩
  rw [Nat.zero_add, World.cell?_alloc_mark]
  simpa using hv
/-- one slice in a slice -/
theorem rdss_one {w : World} {v : Value} {l : List Int} (h : Rd w .u8 v l) (e : TypeId) : Rdss (w.alloc (.cells #[v] e)) (.slice (some ⟨w.heap.size, 0, none⟩) 1 1) [l] := by
  refine ⟨[v], .inr ⟨w.heap.size, 0, 1, rfl, Nat.le_refl _, show 1 ≤ maxLen from by decide, fun j u hu => ?_⟩, rfl, fun i hi => ?_⟩
  · rw [Nat.zero_add, World.cell?_alloc_new]; simpa using hu
  · have : i = 0 := by simpa using hi
    subst this
    exact h.ext (ext_alloc _ _)
end Go.Proofs.Bl
namespace Go.Proofs.YtdodgcapihfkkaaDoor
open Go.RowKit Go.Proofs

set_option maxRecDepth 100000 in
theorem alive07 (w : World) (hg : Glob w) : Calls Tryd.prog 25 #[] w fun e w' => e = .returned (.bool true) ∧ Bl.Ext w w' := by
  have Hg := Bl.hid hg
  clear hg
  go_enter Tryd.func25, Tryd.ntmps25
  have hcv := Lib.run_convert_bytes_const (P := Tryd.prog) w 24 5 #[.int .u8 97, .int .u8 98, .int .u8 99] 3 3 Tryd.underlying24 Tryd.underlying5
  go_wp2_with fail
  have h0 : Bl.Rd (w.alloc (.cells #[.int .u8 97, .int .u8 98, .int .u8 99] 5 (3, 4))) .u8 (.slice (some ⟨w.heap.size, 0, none⟩) 3 3) [97, 98, 99] := Bl.rds_mark w 5 [97, 98, 99] (3, 4) (show 3 ≤ maxLen from by decide)
  have h1 := Bl.rdss_one h0 24
  have hE : Bl.Ext w ((w.alloc (.cells #[.int .u8 97, .int .u8 98, .int .u8 99] 5 (3, 4))).alloc (.cells #[.slice (some ⟨w.heap.size, 0, none⟩) 3 3] 24)) := (Bl.ext_alloc _ _).trans (Bl.ext_alloc _ _)
  simp only [World.size_alloc] at h1
  refine (of_any _ _ _ h1 (Hg.out.ext hE) (by unfold Bl.Byt; decide) (by decide)).mono ?_
  rintro e w1 ⟨rfl, hE1⟩
  have HE1 := Bl.hid (hE.trans hE1)
  clear h0 h1 hE hE1 hcv
  go_wp2_with fail
  refine (hex_any _ _ (Bl.sha_length _) (Bl.sha_byt _)).mono ?_
  rintro e w2 ⟨rfl, hE2⟩
  rw [Bl.abc_str]
  have HE2 := Bl.hid (HE1.out.trans hE2)
  clear hE2
  go_wp2_with fail
  go_ret
  exact ⟨rfl, HE2.out⟩
end Go.Proofs.YtdodgcapihfkkaaDoor

/- Walk of baileeref12.Root. -/
import Derived.Test.YtmfooocdnoflaaaDoorWRoots
namespace Go.Proofs.YtmfooocdnoflaaaDoor
open Go.RowKit Go.Proofs

set_option maxRecDepth 100000 in
set_option maxHeartbeats 400000 in
theorem refroot_any (v : Value) (ps : List (List Int)) (w : World) (hR : Bl.Rdss w v ps) (hg : GlobR w) (hby : ∀ p ∈ ps, Bl.Byt p) (hlp : ∀ p ∈ ps, p.length ≤ 1099511627000) (hn : ps.length ≤ 1048576) :
    Calls Tryd.prog 22 #[v] w fun e w' => e = .returned (.agg (Bl.ints .u8 (Bl.rootD ps)).toArray) ∧ Bl.Ext w w' := by
  have HR := Bl.hid hR
  have Hg := Bl.hid hg
  have Hby := Bl.hid hby
  have Hlp := Bl.hid hlp
  have Hn := Bl.hid hn
  have HF0 := Bl.hid (fam_new w 32 .u8 31 #[.int .u8 0, .int .u8 0, .int .u8 0, .int .u8 0, .int .u8 0, .int .u8 0, .int .u8 0, .int .u8 0, .int .u8 0, .int .u8 0, .int .u8 0, .int .u8 0, .int .u8 0, .int .u8 0, .int .u8 0, .int .u8 0, .int .u8 0, .int .u8 0, .int .u8 0, .int .u8 0, .int .u8 0, .int .u8 0, .int .u8 0, .int .u8 0, .int .u8 0, .int .u8 0, .int .u8 0, .int .u8 0, .int .u8 0, .int .u8 0, .int .u8 0, .int .u8 0] rfl)
  have HE0 := Bl.hid (Bl.ext_alloc w (.cells #[.int .u8 0, .int .u8 0, .int .u8 0, .int .u8 0, .int .u8 0, .int .u8 0, .int .u8 0, .int .u8 0, .int .u8 0, .int .u8 0, .int .u8 0, .int .u8 0, .int .u8 0, .int .u8 0, .int .u8 0, .int .u8 0, .int .u8 0, .int .u8 0, .int .u8 0, .int .u8 0, .int .u8 0, .int .u8 0, .int .u8 0, .int .u8 0, .int .u8 0, .int .u8 0, .int .u8 0, .int .u8 0, .int .u8 0, .int .u8 0, .int .u8 0, .int .u8 0] 31))
  clear hR hg hby hlp hn
  go_enter Tryd.func22, Tryd.ntmps22
  go_wp2_with fail
  obtain ⟨W0, hW0⟩ : ∃ W0, W0 = w.alloc (.cells #[.int .u8 0, .int .u8 0, .int .u8 0, .int .u8 0, .int .u8 0, .int .u8 0, .int .u8 0, .int .u8 0, .int .u8 0, .int .u8 0, .int .u8 0, .int .u8 0, .int .u8 0, .int .u8 0, .int .u8 0, .int .u8 0, .int .u8 0, .int .u8 0, .int .u8 0, .int .u8 0, .int .u8 0, .int .u8 0, .int .u8 0, .int .u8 0, .int .u8 0, .int .u8 0, .int .u8 0, .int .u8 0, .int .u8 0, .int .u8 0, .int .u8 0, .int .u8 0] 31) := ⟨_, rfl⟩
  rw [← hW0] at HF0 HE0 ⊢
  clear hW0
  refine (refleaves_any v ps W0 (Bl.Rdss.ext HR.out HE0.out) (Hg.out.ext HE0.out) Hby.out Hlp.out Hn.out).mono ?_
  rintro e w1 ⟨p, c, rfl, hown, hE1⟩
  have HL : Hid (Bl.RdD w1 (.slice p ps.length c) (ps.map Bl.lfD)) := Bl.hid (by show Bl.Rds w1 _ (ps.map Bl.lfD).length _; rw [List.length_map]; exact Bl.Rds.of_owns hown)
  have HE1 := Bl.hid hE1
  clear hown hE1
  go_wp2_with fail
  refine (refover_any ps.length (ps.map Bl.lfD) _ w1 (by rw [List.length_map]) Hn.out (Bl.dig_leaves ps) HL.out (Hg.out.ext (HE0.out.trans HE1.out))).mono ?_
  rintro e w2 ⟨rfl, hE2⟩
  obtain ⟨sh, hsh⟩ : ∃ sh, sh = Bl.overD (ps.map Bl.lfD) := ⟨_, rfl⟩
  have Hshl : Hid (sh.length = 32) := Bl.hid (by rw [hsh]; exact Bl.rootD_length ps Hn.out)
  have Hsh : Hid (sh = Bl.rootD ps) := Bl.hid hsh
  have HE2 := Bl.hid (HE1.out.trans hE2)
  rw [← hsh]
  clear hsh hE2
  have HFc := Bl.hid (HF0.out.below HE2.out (World.block_lt_of_cell? _ _ (HF0.out.1 0 (by decide))))
  have Hstc := Bl.hid (Bl.store_ints (P := Tryd.prog) (k := .u8) (ty := 31) (l := sh) HFc.out.there (by kernel_rfl) Hshl.out)
  go_wp2_with (((with_reducible refine Bl.wpL_store ?_ ?_ Hstc.out ?_); rfl; rfl))
  have hinc := World.rangeAt_setCells_same _ (w.heap.size) 0 (Bl.ints .u8 sh) (by rw [Bl.ints_length, Hshl.out]; exact HFc.out.there)
  have hldc := run_loadVar_mid (P := Tryd.prog) _ (w.heap.size) 0 31 (Bl.ints .u8 sh) _ hinc Tryd.underlying31 rfl (by rw [Bl.ints_length, Hshl.out]; kernel_rfl)
  refine bodyPost_ret (v := .agg (Bl.ints .u8 sh).toArray) (Bl.results_cell rfl rfl hldc) rfl ⟨by rw [Hsh.out], Bl.below_setCells _ _ _ _ (HE0.out.trans HE2.out) (Nat.le_refl _)⟩
end Go.Proofs.YtmfooocdnoflaaaDoor

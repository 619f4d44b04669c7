/- Walks of slices.Clone over digests, tree.Leaves, baileeref12.Leaves, baileeref12.Over. -/
import Derived.Test.YtmfooocdnoflaaaDoorWTree2
import Derived.Test.YtmfooocdnoflaaaDoorShaOct
import Derived.Test.YtmfooocdnoflaaaDoorLib0
import Derived.Test.YtmfooocdnoflaaaDoorW12a
import Derived.Test.YtmfooocdnoflaaaDoorPla0
namespace Go.Proofs.Bl
open Go Go.RowKit
def overD (ds : List (List Int)) : List Int := over ndD zD ds
theorem zD_length : zD.length = 32 := rfl
theorem Rdss.cell' {w : World} {p : Option Addr} {n c : Nat} {ps : List (List Int)} {vs : List Value} (hv : Rds w (.slice p n c) ps.length vs) (hl : vs.length = ps.length) (k : Nat) (hk : k < ps.length) : ∃ b o, p = some ⟨b, o, none⟩ ∧ b < w.heap.size ∧ w.cell? ⟨b, o + k, none⟩ = some (vs.getD k undef) := by
  rcases hv with ⟨h1, h2, h3⟩ | ⟨b, o, c', h1, h2, h3, h4⟩
  · omega
  · cases h1
    refine ⟨b, o, rfl, rangeAt_lt h4 (fun q => by rw [q] at hl; simp at hl; omega), h4 k _ ?_⟩
    rw [List.getD_eq_getElem?_getD, List.getElem?_eq_getElem (by omega)]; rfl
theorem lfD_byt (b : List Int) : Byt (lfD b) := sha_byt _
theorem ndD_byt (l r : List Int) : Byt (ndD l r) := sha_byt _
theorem zD_byt : Byt zD := sha_byt _
theorem dig_leaves (ps : List (List Int)) : Dig (ps.map lfD) := fun d hd => by
  obtain ⟨b, _, rfl⟩ := List.mem_map.1 hd
  exact ⟨lfD_length b, lfD_byt b⟩
theorem overD_dig : ∀ (n : Nat) (ds : List (List Int)), ds.length = n → Dig ds → ds.length < 2 ^ 63 → (overD ds).length = 32 ∧ Byt (overD ds) := by
  intro n
  induction n using Nat.strongRecOn with
  | _ n ih =>
    intro ds hn hd h63
    unfold overD
    by_cases h0 : ds.length = 0
    · obtain rfl := List.length_eq_zero_iff.1 h0
      rw [over_nil]; exact ⟨zD_length, zD_byt⟩
    · by_cases h2 : 2 ≤ ds.length
      · rw [over_hi _ _ _ h2 h63]
        exact ⟨ndD_length _ _, ndD_byt _ _⟩
      · match ds, h0, h2 with
        | [d], _, _ => rw [over_one]; exact hd d (by simp)
        | _ :: _ :: _, _, h => simp at h
end Go.Proofs.Bl
namespace Go.Proofs.YtmfooocdnoflaaaDoor
open Go.RowKit Go.Proofs

theorem tDig : Bl.SlT Tryd.prog 40 39 (.agg #[.int .u8 0, .int .u8 0, .int .u8 0, .int .u8 0, .int .u8 0, .int .u8 0, .int .u8 0, .int .u8 0, .int .u8 0, .int .u8 0, .int .u8 0, .int .u8 0, .int .u8 0, .int .u8 0, .int .u8 0, .int .u8 0, .int .u8 0, .int .u8 0, .int .u8 0, .int .u8 0, .int .u8 0, .int .u8 0, .int .u8 0, .int .u8 0, .int .u8 0, .int .u8 0, .int .u8 0, .int .u8 0, .int .u8 0, .int .u8 0, .int .u8 0, .int .u8 0]) 32 32 := ⟨Tryd.underlying40, by kernel_rfl, rfl, by decide⟩
theorem tArr : Bl.SlT Tryd.prog 32 31 (.agg #[.int .u8 0, .int .u8 0, .int .u8 0, .int .u8 0, .int .u8 0, .int .u8 0, .int .u8 0, .int .u8 0, .int .u8 0, .int .u8 0, .int .u8 0, .int .u8 0, .int .u8 0, .int .u8 0, .int .u8 0, .int .u8 0, .int .u8 0, .int .u8 0, .int .u8 0, .int .u8 0, .int .u8 0, .int .u8 0, .int .u8 0, .int .u8 0, .int .u8 0, .int .u8 0, .int .u8 0, .int .u8 0, .int .u8 0, .int .u8 0, .int .u8 0, .int .u8 0]) 32 32 := ⟨Tryd.underlying32, by kernel_rfl, rfl, by decide⟩

set_option maxRecDepth 100000 in
set_option maxHeartbeats 1000000 in
theorem leaves_any (v : Value) (ps : List (List Int)) (w : World) (hR : Bl.Rdss w v ps) (hg : Glob w) (hby : ∀ p ∈ ps, Bl.Byt p) (hlp : ∀ p ∈ ps, p.length ≤ 1099511627000) (hn : ps.length ≤ 1048576) :
    Calls Tryd.prog 20 #[v] w fun e w' => ∃ p c, e = .returned (.slice p ps.length c) ∧ w'.ownsRow w.heap.size 39 32 (.slice p ps.length c) ps.length (Bl.cellsD (ps.map Bl.lfD)) ∧ Bl.Ext w w' := by
  obtain ⟨ws, hv, hwl, hws⟩ := hR
  obtain ⟨p, c, hvf, hvn, hvc⟩ := hv.form
  subst hvf
  have Hv := Bl.hid hv
  have Hws := Bl.hid hws
  have Hwl := Bl.hid hwl
  have Hg := Bl.hid hg
  have Hby := Bl.hid hby
  have Hlp := Bl.hid hlp
  obtain ⟨B, hB⟩ : ∃ B, B = w.heap.size := ⟨_, rfl⟩
  rw [← hB]
  have HB := Bl.hid hB
  clear hv hws hg hby hwl hlp hB
  go_enter Tryd.func20, Tryd.ntmps20
  go_wp2_with fail
  go_loopw [3, 8] (fun o i wr => ∃ (k c1 : Nat) (p1 : Option Addr), k ≤ ps.length ∧ i = .int .i64 k ∧ o = .slice p1 k c1 ∧ wr.ownsRow B 39 32 (.slice p1 k c1) k (Bl.cellsD ((ps.take k).map Bl.lfD)) ∧ Bl.Ext w wr) (fun _ i _ => ps.length - (intOf i).toNat)
  case atStart => exact ⟨0, 0, none, Nat.zero_le _, rfl, rfl, World.ownsRow_nil _ _ _ _, Below.refl _ _⟩
  case round =>
    obtain ⟨k, c1, p1, hk, rfl, rfl, hown, hE⟩ := hrel
    have Hown := Bl.hid hown
    have HE := Bl.hid hE
    clear hown hE
    by_cases hlt : k < ps.length
    · obtain ⟨b, o, hpe, hbl, hcell0⟩ := Bl.Rdss.cell' (Hv.out.ext HE.out) Hwl.out k hlt
      subst hpe
      have hRk0 := Hws.out k hlt
      obtain ⟨bs, hbs⟩ : ∃ bs, bs = ps.getD k [] := ⟨_, rfl⟩
      have hmem : bs ∈ ps := by rw [hbs, List.getD_eq_getElem?_getD, List.getElem?_eq_getElem hlt]; exact List.getElem_mem hlt
      rw [← hbs] at hRk0
      obtain ⟨pk, ck, hfk, hnk, hck⟩ := hRk0.form
      have hcell : wr.cell? ⟨b, o + k, none⟩ = some (.slice pk bs.length ck) := by rw [hcell0, hfk]
      have hRk : Bl.Rd wr .u8 (.slice pk bs.length ck) bs := by rw [← hfk]; exact hRk0.ext HE.out
      have HRk := Bl.hid hRk
      have Hmem := Bl.hid hmem
      have htk : Hid ((ps.take (k + 1)).map Bl.lfD = (ps.take k).map Bl.lfD ++ [Bl.lfD bs]) := by
        show _ = _
        rw [hbs, List.getD_eq_getElem?_getD, List.getElem?_eq_getElem hlt, List.take_succ_eq_append_getElem hlt, List.map_append]; rfl
      clear hRk0 hfk hcell0 hRk hbs hmem
      go_wp2_with fail
      refine (leaf_any _ bs wr HRk.out (Hg.out.ext HE.out) (Hby.out _ Hmem.out) (Hlp.out _ Hmem.out)).mono ?_
      rintro e w2 ⟨rfl, hE2⟩
      have hll : (Bl.lfD bs).length = 32 := Bl.lfD_length bs
      obtain ⟨d, hd⟩ : ∃ d, d = Bl.lfD bs := ⟨_, rfl⟩
      rw [← hd] at hll ⊢
      have Hll := Bl.hid hll
      have Hd := Bl.hid hd
      have Hown2 := Bl.hid (Bl.owns_ext (Bl.owns_ext Hown.out hE2) (Bl.ext_alloc w2 (.cells (Bl.ints .u8 d).toArray 39)))
      have Hnew := Bl.hid (Bl.rds_dig w2 39 d hll)
      have HE2 : Hid (Bl.Ext w (w2.alloc (.cells (Bl.ints .u8 d).toArray 39))) := Bl.hid ((HE.out.trans hE2).trans (Bl.ext_alloc _ _))
      clear hE2 hll hd
      go_wp2_with (with_reducible refine Bl.stop_build ?_)
      refine Bl.go_on ?_
      refine Bl.wpL_build1 tDig (by decide) rfl (by simp [Hll.out]) ?_
      go_wp2_with (with_reducible refine Bl.stop_append ?_)
      refine Bl.go_on ?_
      refine Bl.wpL_app tDig Hown2.out Hnew.out rfl rfl (by rw [Bl.cellsD_one, Bl.ints_length, Hll.out]) (Bl.cellsD_one' _) (by unfold maxLen; omega) (by omega) (by rw [HB.out]; exact HE2.out.size) ?_
      intro q3 d3 w3 hown3 hg3 hB3 hK3 hn3 hc3
      have Hown3 := Bl.hid hown3
      have HE3 : Hid (Bl.Ext w w3) := Bl.hid (Below.trans HE2.out (by rw [HB.out] at hB3; exact hB3))
      clear hown3 hg3 hB3 hK3
      go_wp2_with fail
      go_roundw
      case rel =>
        refine ⟨k + 1, d3, q3, by omega, by go_num, rfl, ?_, HE3.out⟩
        rw [htk.out, Bl.cellsD_append, ← Hd.out]
        exact Hown3.out
      case measure => simp [intOf]; omega
    · obtain rfl : k = ps.length := by omega
      have hown := Hown.out
      rw [List.take_length] at hown
      have Hown1 := Bl.hid hown
      clear hown
      go_wp2_with fail
      go_ret
      exact ⟨_, _, rfl, Hown1.out, HE.out⟩

set_option maxRecDepth 100000 in
set_option maxHeartbeats 1000000 in
theorem refleaves_any (v : Value) (ps : List (List Int)) (w : World) (hR : Bl.Rdss w v ps) (hg : GlobR w) (hby : ∀ p ∈ ps, Bl.Byt p) (hlp : ∀ p ∈ ps, p.length ≤ 1099511627000) (hn : ps.length ≤ 1048576) :
    Calls Tryd.prog 41 #[v] w fun e w' => ∃ p c, e = .returned (.slice p ps.length c) ∧ w'.ownsRow w.heap.size 31 32 (.slice p ps.length c) ps.length (Bl.cellsD (ps.map Bl.lfD)) ∧ Bl.Ext w w' := by
  obtain ⟨ws, hv, hwl, hws⟩ := hR
  obtain ⟨p, c, hvf, hvn, hvc⟩ := hv.form
  subst hvf
  have Hv := Bl.hid hv
  have Hws := Bl.hid hws
  have Hwl := Bl.hid hwl
  have Hg := Bl.hid hg
  have Hby := Bl.hid hby
  have Hlp := Bl.hid hlp
  have hown0 := Bl.owns_nil_lit w 31 w.heap.size (Nat.le_refl _) 32
  have hE0 := Bl.ext_alloc w (.cells #[] 31)
  have Hown0 := Bl.hid hown0
  have HE0 := Bl.hid hE0
  clear hv hws hg hby hwl hlp hown0 hE0
  go_enter Tryd.func41, Tryd.ntmps41
  go_wp2_with fail
  go_loopw [3, 9] (fun o i wr => ∃ (k c1 : Nat) (p1 : Option Addr), k ≤ ps.length ∧ i = .int .i64 k ∧ o = .slice p1 k c1 ∧ wr.ownsRow w.heap.size 31 32 (.slice p1 k c1) k (Bl.cellsD ((ps.take k).map Bl.lfD)) ∧ Bl.Ext w wr) (fun _ i _ => ps.length - (intOf i).toNat)
  case atStart => exact ⟨0, 0, _, Nat.zero_le _, rfl, rfl, Hown0.out, HE0.out⟩
  case round =>
    obtain ⟨k, c1, p1, hk, rfl, rfl, hown, hE⟩ := hrel
    have Hown := Bl.hid hown
    have HE := Bl.hid hE
    clear hown hE
    by_cases hlt : k < ps.length
    · obtain ⟨b, o, hpe, hbl, hcell0⟩ := Bl.Rdss.cell' (Hv.out.ext HE.out) Hwl.out k hlt
      subst hpe
      have hRk0 := Hws.out k hlt
      obtain ⟨bs, hbs⟩ : ∃ bs, bs = ps.getD k [] := ⟨_, rfl⟩
      have hmem : bs ∈ ps := by rw [hbs, List.getD_eq_getElem?_getD, List.getElem?_eq_getElem hlt]; exact List.getElem_mem hlt
      rw [← hbs] at hRk0
      obtain ⟨pk, ck, hfk, hnk, hck⟩ := hRk0.form
      have hcell : wr.cell? ⟨b, o + k, none⟩ = some (.slice pk bs.length ck) := by rw [hcell0, hfk]
      have hRk : Bl.Rd wr .u8 (.slice pk bs.length ck) bs := by rw [← hfk]; exact hRk0.ext HE.out
      have HRk := Bl.hid hRk
      have Hmem := Bl.hid hmem
      have htk : Hid ((ps.take (k + 1)).map Bl.lfD = (ps.take k).map Bl.lfD ++ [Bl.lfD bs]) := by
        show _ = _
        rw [hbs, List.getD_eq_getElem?_getD, List.getElem?_eq_getElem hlt, List.take_succ_eq_append_getElem hlt, List.map_append]; rfl
      clear hRk0 hfk hcell0 hRk hbs hmem
      go_wp2_with fail
      refine (refleaf_any _ bs wr HRk.out (Hg.out.ext HE.out) (Hby.out _ Hmem.out) (Hlp.out _ Hmem.out)).mono ?_
      rintro e w2 ⟨rfl, hE2⟩
      have hll : (Bl.lfD bs).length = 32 := Bl.lfD_length bs
      obtain ⟨d, hd⟩ : ∃ d, d = Bl.lfD bs := ⟨_, rfl⟩
      rw [← hd] at hll ⊢
      have Hll := Bl.hid hll
      have Hd := Bl.hid hd
      have Hown2 := Bl.hid (Bl.owns_ext (Bl.owns_ext Hown.out hE2) (Bl.ext_alloc w2 (.cells (Bl.ints .u8 d).toArray 31)))
      have Hnew := Bl.hid (Bl.rds_dig w2 31 d hll)
      have HE2 : Hid (Bl.Ext w (w2.alloc (.cells (Bl.ints .u8 d).toArray 31))) := Bl.hid ((HE.out.trans hE2).trans (Bl.ext_alloc _ _))
      clear hE2 hll hd
      go_wp2_with (with_reducible refine Bl.stop_build ?_)
      refine Bl.go_on ?_
      refine Bl.wpL_build1 tArr (by decide) rfl (by simp [Hll.out]) ?_
      go_wp2_with (with_reducible refine Bl.stop_append ?_)
      refine Bl.go_on ?_
      refine Bl.wpL_app tArr Hown2.out Hnew.out rfl rfl (by rw [Bl.cellsD_one, Bl.ints_length, Hll.out]) (Bl.cellsD_one' _) (by unfold maxLen; omega) (by omega) HE2.out.size ?_
      intro q3 d3 w3 hown3 hg3 hB3 hK3 hn3 hc3
      have Hown3 := Bl.hid hown3
      have HE3 : Hid (Bl.Ext w w3) := Bl.hid (Below.trans HE2.out hB3)
      clear hown3 hg3 hB3 hK3
      go_wp2_with fail
      go_roundw
      case rel =>
        refine ⟨k + 1, d3, q3, by omega, by go_num, rfl, ?_, HE3.out⟩
        rw [htk.out, Bl.cellsD_append, ← Hd.out]
        exact Hown3.out
      case measure => simp [intOf]; omega
    · obtain rfl : k = ps.length := by omega
      have hown := Hown.out
      rw [List.take_length] at hown
      have Hown1 := Bl.hid hown
      clear hown
      go_wp2_with fail
      go_ret
      exact ⟨_, _, rfl, Hown1.out, HE.out⟩
end Go.Proofs.YtmfooocdnoflaaaDoor

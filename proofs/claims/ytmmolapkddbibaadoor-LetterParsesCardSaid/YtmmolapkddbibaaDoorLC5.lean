/- Walks of baileeref22.Check (all kinds) and baileeref22.Bytes; a right letter's bytes are bytes. -/
import Derived.Test.YtmmolapkddbibaaDoorLC1
import Derived.Test.YtmmolapkddbibaaDoorLC2
import Derived.Test.YtmmolapkddbibaaDoorLC3
import Derived.Test.YtmmolapkddbibaaDoorLC4
import Derived.Test.YtmmolapkddbibaaDoorLC6
import Derived.Test.YtmmolapkddbibaaDoorLWa
namespace Go.Proofs.YtmmolapkddbibaaDoor
open Go Go.RowKit Go.Proofs
theorem chk_le (l : Bl.LT) : Bl.chkL l ≤ 20 := by
  unfold Bl.chkL
  repeat' split
  all_goals decide
theorem bytL_byt {l : Bl.LT} (h : Bl.chkL l = 0) (hb : ∀ b ∈ l.blocks, Bl.Byt b) (hs : ∀ s ∈ l.shown, Bl.Byt s.2.1) (hd : ∀ s ∈ l.shown, Bl.Dig s.2.2) : Bl.Byt (Bl.bytL l) := by
  obtain ⟨hk, hn, hz, _, _⟩ := chk_ok h
  intro y hy
  unfold Bl.bytL at hy
  rcases List.mem_cons.1 hy with rfl | hy
  · omega
  rcases List.mem_append.1 hy with hy | hy
  · rcases List.mem_append.1 hy with hy | hy
    · exact Bl.numL_byt _ y hy
    · exact Bl.numL_byt _ y hy
  have hflat : ∀ y ∈ l.blocks.flatten, 0 ≤ y ∧ y ≤ 255 := fun y hy => by
    obtain ⟨b, h1, h2⟩ := List.mem_flatten.1 hy
    exact hb b h1 y h2
  unfold Bl.tailL at hy
  split at hy
  · simp only [List.mem_append] at hy
    rcases hy with hy | hy | hy
    · exact Bl.twoL_byt _ y hy
    · exact Bl.twoL_byt _ y hy
    · exact hflat y hy
  rename_i h6
  split at hy
  · simp only [List.mem_append] at hy
    rcases hy with hy | hy
    · exact Bl.twoL_byt _ y hy
    · exact hflat y hy
  rename_i h1
  split at hy
  · rename_i h3
    rcases List.mem_cons.1 hy with rfl | hy
    · unfold Bl.sizOk at hz
      rw [if_neg (by omega), if_pos h3] at hz
      have := Bl.wi_iff.1 hz
      omega
    · obtain ⟨x, _, hx⟩ := List.mem_flatMap.1 hy
      exact Bl.twoL_byt _ y hx
  rename_i h3
  split at hy
  · rename_i h4
    unfold Bl.sizOk at hz
    rw [if_neg (by omega), if_neg h3, if_pos h4, Bool.and_eq_true] at hz
    obtain ⟨hz1, hz2⟩ := hz
    have hz1 := Bl.wi_iff.1 hz1
    rcases List.mem_cons.1 hy with rfl | hy
    · omega
    · obtain ⟨x, hx0, hx⟩ := List.mem_flatMap.1 hy
      unfold Bl.shB at hx
      simp only [List.mem_append, List.mem_singleton] at hx
      rcases hx with ((hx | hx) | hx) | hx
      · exact Bl.twoL_byt _ y hx
      · exact hs x hx0 y hx
      · have := (Bl.badS_not (Bl.any_false hz2 x hx0)).2
        omega
      · obtain ⟨d, g1, g2⟩ := List.mem_flatten.1 hx
        exact (hd x hx0 d g1).2 y g2
  rename_i h4
  split at hy
  · rcases List.mem_append.1 hy with hy | hy
    · exact Bl.twoL_byt _ y hy
    · exact Bl.twoL_byt _ y hy
  rename_i h5
  split at hy
  · rename_i h7
    unfold Bl.numOk at hn
    rw [Bool.and_eq_true] at hn
    have hn := hn.2
    unfold Bl.numT at hn
    rw [if_neg h3, if_neg h4, if_neg h5, if_neg h6, if_pos h7] at hn
    have := Bl.wi_iff.1 hn
    obtain rfl := List.mem_singleton.1 hy
    omega
  · cases hy

set_option maxRecDepth 100000 in
set_option maxHeartbeats 1000000 in
theorem rcheck0_any (v : Value) (l : Bl.LT) (w : World) (h : Bl.LtV w v l) (hk : Bl.wi l.kind 1 7 = false) :
    Calls Tryd.prog 42 #[v] w fun e w' => e = .returned (.int .i64 (Bl.chkL l : Nat)) ∧ Bl.Ext w w' := by
  obtain ⟨cs, vp, vs, vb, L, rfl, hc⟩ := h
  obtain rfl := hc.eq
  have HV := Bl.hid (Bl.chk7 hk)
  have Hk := Bl.hid hk
  clear hk
  obtain ⟨W1, hW1⟩ : ∃ W1, W1 = w.alloc (.cells (Bl.cL l vp vs vb).toArray 33) := ⟨_, rfl⟩
  have HE1 : Hid (Bl.Ext w W1) := Bl.hid (by rw [hW1]; exact Bl.ext_alloc _ _)
  unfold Bl.cL at hW1
  show Calls Tryd.prog 42 #[.agg #[.int .i64 l.kind, .int .i64 l.id, .int .i64 l.obj, vp, vs, .int .i64 l.frm, .int .i64 l.cnt, vb, .int .i64 l.code]] w _
  go_enter Tryd.func42, Tryd.ntmps42
  go_wp2_with fail
  rw [← hW1]
  clear hW1
  refine (out_any _ _ _ _).mono ?_
  rintro e w2 ⟨rfl, hw⟩
  subst hw
  rw [Hk.out, Bool.not_false]
  go_wp2_with fail
  go_ret
  exact ⟨by rw [HV.out]; rfl, HE1.out⟩

theorem rcheck_any (v : Value) (l : Bl.LT) (w : World) (h : Bl.LtV w v l) :
    Calls Tryd.prog 42 #[v] w fun e w' => e = .returned (.int .i64 (Bl.chkL l : Nat)) ∧ Bl.Ext w w' := by
  by_cases hk : Bl.wi l.kind 1 7 = true
  · rcases kinds7 (Bl.wi_iff.1 hk) with h1 | h1 | h1 | h1 | h1 | h1 | h1
    · exact rcheck1_any v l w h h1
    · exact rcheck2_any v l w h h1
    · exact rcheck3_any v l w h h1
    · exact rcheck4_any v l w h h1
    · exact rcheck5_any v l w h h1
    · exact rcheck6_any v l w h h1
    · exact rcheck7_any v l w h h1
  · exact rcheck0_any v l w h (by simpa using hk)

set_option maxRecDepth 100000 in
set_option maxHeartbeats 1000000 in
theorem rbytes22_any (v : Value) (l : Bl.LT) (w : World) (h : Bl.LtV w v l) :
    Calls Tryd.prog 19 #[v] w fun e w' => ∃ v', e = .returned (.tuple #[v', .int .i64 (Bl.chkL l : Nat)]) ∧ Bl.Rd w' .u8 v' (if Bl.chkL l = 0 then Bl.bytL l else []) ∧ Bl.Ext w w' := by
  have HL := Bl.hid h
  obtain ⟨cs, vp, vs, vb, L, rfl, hc⟩ := h
  obtain rfl := hc.eq
  have HCk : Hid (∀ w2, Bl.Ext w w2 → Calls Tryd.prog 42 #[.agg (Bl.cL l vp vs vb).toArray] w2 fun e w' => e = .returned (.int .i64 (Bl.chkL l : Nat)) ∧ Bl.Ext w2 w') := Bl.hid fun w2 h2 => rcheck_any _ l w2 (HL.out.ext h2)
  obtain ⟨K, hK⟩ : ∃ K, K = Bl.chkL l := ⟨_, rfl⟩
  have HK := Bl.hid hK
  rw [← hK] at HCk ⊢
  clear hc hK
  obtain ⟨W1, hW1⟩ : ∃ W1, W1 = w.alloc (.cells (Bl.cL l vp vs vb).toArray 33) := ⟨_, rfl⟩
  have HB1 : Hid (Bl.BoxC W1 w.heap.size (Bl.cL l vp vs vb)) := Bl.hid (by rw [hW1]; exact Bl.BoxC.box w 33 (Bl.cL_ne _ _ _ _))
  have HE1 : Hid (Bl.Ext w W1) := Bl.hid (by rw [hW1]; exact Bl.ext_alloc _ _)
  have Hl1 := Bl.hid (HB1.out.load (P := Tryd.prog) Tryd.underlying33 rfl (by kernel_rfl))
  unfold Bl.cL at hW1
  show Calls Tryd.prog 19 #[.agg #[.int .i64 l.kind, .int .i64 l.id, .int .i64 l.obj, vp, vs, .int .i64 l.frm, .int .i64 l.cnt, vb, .int .i64 l.code]] w _
  go_enter Tryd.func19, Tryd.ntmps19
  go_wp2_with (with_reducible refine Bl.stop_load (ty := 33) ?_)
  refine Bl.go_on ?_
  rw [← hW1]
  clear hW1
  refine Bl.wpL_load rfl Hl1.out ?_
  go_wp2_with fail
  refine (HCk.out W1 HE1.out).mono ?_
  rintro e w2 ⟨rfl, hE2⟩
  have HE2 := Bl.hid (HE1.out.trans hE2)
  have HB2 := Bl.hid (HB1.out.ext hE2)
  clear hE2 HB1 Hl1 HCk
  by_cases hk : K = 0
  · subst hk
    obtain ⟨hk, hn, hz, _, _⟩ := chk_ok HK.out.symm
    have Hok := Bl.hid (And.intro hk (And.intro hn hz))
    have Hl2 := Bl.hid (HB2.out.load (P := Tryd.prog) Tryd.underlying33 rfl (by kernel_rfl))
    clear hk hn hz
    go_wp2_with (with_reducible refine Bl.stop_load (ty := 33) ?_)
    refine Bl.go_on ?_
    refine Bl.wpL_load rfl Hl2.out ?_
    go_wp2_with fail
    refine (rlaid_any _ l w2 (HL.out.ext HE2.out) Hok.out.1 Hok.out.2.1 Hok.out.2.2).mono ?_
    rintro e w3 ⟨v3, rfl, hr3, hE3⟩
    have Hr3 := Bl.hid hr3
    have HE3 := Bl.hid (HE2.out.trans hE3)
    clear hr3 hE3
    go_wp2_with fail
    exact bodyPost_ret (v := .tuple #[v3, .int .i64 0]) (Bl.results_tmp2 rfl rfl rfl) rfl ⟨v3, rfl, Hr3.out, HE3.out⟩
  · have Hk := Bl.hid hk
    have hk2 : ¬ (K : Int) = 0 := by omega
    have hk3 : ((K : Int) == 0) = false := by rw [beq_eq_false_iff_ne]; exact hk2
    clear hk
    go_wp2_with fail
    exact bodyPost_ret (v := .tuple #[.slice none 0 0, .int .i64 K]) (Bl.results_tmp2 rfl rfl rfl) rfl ⟨_, rfl, by first | exact Bl.Rd.nil _ _ | (rw [if_neg Hk.out]; exact Bl.Rd.nil _ _), HE2.out⟩
end Go.Proofs.YtmmolapkddbibaaDoor

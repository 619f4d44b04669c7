/- Walk of baileelaw07.ShaDigests: it returns true. -/
import Derived.Test.YtdodgcapihfkkaaDoorWEnum
import Derived.Test.YtdodgcapihfkkaaDoorWAl07
import Derived.Test.YtdodgcapihfkkaaDoorWRef1
namespace Go.Proofs.Bl
open Go Go.RowKit
theorem Rdss.cell {w : World} {p : Option Addr} {n c : Nat} {ps : List (List Int)} {vs : List Value} (hv : Rds w (.slice p n c) ps.length vs) (hl : vs.length = ps.length) (k : Nat) (hk : k < ps.length) : ∃ b o, p = some ⟨b, o, none⟩ ∧ b < w.heap.size ∧ w.cell? ⟨b, o + k, none⟩ = some (vs.getD k undef) := by
  rcases hv with ⟨h1, h2, h3⟩ | ⟨b, o, c', h1, h2, h3, h4⟩
  · omega
  · cases h1
    refine ⟨b, o, rfl, rangeAt_lt h4 (fun q => by rw [q] at hl; simp at hl; omega), h4 k _ ?_⟩
    rw [List.getD_eq_getElem?_getD, List.getElem?_eq_getElem (by omega)]; rfl
theorem flat_len500 : ∀ (ps : List (List Int)), (∀ p ∈ ps, p.length ≤ 500) → ps.flatten.length ≤ 500 * ps.length
  | [], _ => by simp
  | p :: r, h => by
    have h1 := h p (by simp)
    have h2 := flat_len500 r (fun q hq => h q (List.mem_cons_of_mem _ hq))
    rw [List.flatten_cons, List.length_append, List.length_cons]; omega
theorem byt_flat {ps : List (List Int)} (h : ∀ p ∈ ps, Byt p) : Byt ps.flatten := fun x hx => by
  obtain ⟨p, hp, hxp⟩ := List.mem_flatten.1 hx
  exact h p hp x hxp
end Go.Proofs.Bl
namespace Go.Proofs.YtdodgcapihfkkaaDoor
open Go.RowKit Go.Proofs

theorem tRows : Bl.SlT Tryd.prog 22 24 (.slice none 0 0) 1 24 := ⟨Tryd.underlying22, by kernel_rfl, rfl, by decide⟩

theorem hash_ext {w w' : World} {B0 hb n : Nat} {z : Bl.St} {l : List Int} (h : HashAt w B0 hb z l n) (hE : Bl.Ext w w') : HashAt w' B0 hb z l n := by
  obtain ⟨h1, ⟨v, h2, h3, h4⟩, h5, h6⟩ := h
  have hlt := World.block_lt_of_cell? w _ h5
  exact ⟨h1.below hE hlt, ⟨v, ((Bl.bcell hE).1 _ _ hlt).trans h2, Bl.owns_ext h3 hE, h4⟩, ((Bl.bcell hE).1 _ _ hlt).trans h5, h6⟩

theorem count_any (w : World) (hb : Nat) (m : Int) (h : w.cell? ⟨hb, 9, none⟩ = some (.int .i64 m)) :
    Calls Tryd.prog 33 #[.pointer (some ⟨hb, 0, none⟩)] w fun e w' => e = .returned (.int .i64 m) ∧ w = w' := by
  go_enter Tryd.func33, Tryd.ntmps33
  go_wp2
  go_ret
  exact ⟨rfl, rfl⟩

set_option maxRecDepth 100000 in
theorem dig_long (v : Value) (ps : List (List Int)) (w : World) (hR : Bl.Rdss w v ps) (hg : Glob w) (hl : 20 < ps.length) :
    Calls Tryd.prog 3 #[v] w fun e w' => e = .returned (.bool true) ∧ Bl.Ext w w' := by
  obtain ⟨vs, hv, _, _⟩ := hR
  obtain ⟨p, c, rfl, _, _⟩ := hv.form
  have Hg := Bl.hid hg
  clear hv hg
  have hl' : (20 : Int) < (ps.length : Int) := by omega
  go_enter Tryd.func3, Tryd.ntmps3
  go_wp2_with fail
  refine (alive07 _ Hg.out).mono ?_
  rintro e w1 ⟨rfl, hE⟩
  have HE := Bl.hid hE
  clear hE
  go_wp2_with fail
  go_ret
  exact ⟨rfl, HE.out⟩

set_option maxRecDepth 100000 in
set_option maxHeartbeats 1000000 in
theorem dig_walk (v : Value) (ps : List (List Int)) (w : World) (hR : Bl.Rdss w v ps) (hg : Glob w) (hl : ps.length ≤ 20) (hby : ∀ p ∈ ps, Bl.Byt p) :
    Calls Tryd.prog 3 #[v] w fun e w' => e = .returned (.bool true) ∧ Bl.Ext w w' := by
  obtain ⟨ws, hv, hwl, hws⟩ := hR
  obtain ⟨p, c, hvf, hvn, hvc⟩ := hv.form
  subst hvf
  have Hv := Bl.hid hv
  have Hws := Bl.hid hws
  have Hwl := Bl.hid hwl
  have Hg := Bl.hid hg
  have Hby := Bl.hid hby
  have hl' : decide ((20 : Int) < (ps.length : Int)) = false := decide_eq_false (by omega)
  clear hv hws hg hby hwl
  go_enter Tryd.func3, Tryd.ntmps3
  go_wp2_with fail
  refine (alive07 _ Hg.out).mono ?_
  rintro e w1 ⟨rfl, hE1⟩
  have hs1 := hE1.size
  have HD0 := Bl.hid (Bl.Din.start 5 24 w1 w.heap.size hs1)
  have HE0 : Hid (Bl.Ext w ((w1.alloc (.cells #[] 5)).alloc (.cells #[] 24))) := Bl.hid (hE1.trans ((Bl.ext_alloc _ _).trans (Bl.ext_alloc _ _)))
  clear hE1
  go_wp2_with fail
  go_loopw [3, 4, 21] (fun al inn i wr => ∃ (k N : Nat) (p3 p4 : Option Addr) (c3 c4 : Nat) (vs : List Value), i = .int .i64 k ∧ k ≤ ps.length ∧ Hid (N = (ps.take k).flatten.length) ∧ al = .slice p3 N c3 ∧ inn = .slice p4 k c4 ∧ Bl.Din 5 24 wr w.heap.size (.slice p3 N c3) (.slice p4 k c4) (ps.take k) vs ∧ (∀ q ∈ ps.take k, q.length ≤ 500) ∧ Bl.Ext w wr) (fun _ _ i _ => ps.length - (intOf i).toNat)
  case atStart => exact ⟨0, 0, _, _, 0, 0, [], rfl, Nat.zero_le _, rfl, rfl, rfl, HD0.out, (fun q hq => by cases hq), HE0.out⟩
  case round =>
    obtain ⟨k, N, p3, p4, c3, c4, vs, rfl, hk, HN, rfl, rfl, hD, h500, hE⟩ := hrel
    have hfl := Bl.flat_len500 _ h500
    rw [List.length_take, Nat.min_eq_left hk, ← HN.out] at hfl
    have hown0 := hD.own
    rw [← HN.out] at hown0
    have Hown0 := Bl.hid hown0
    have HD := Bl.hid hD
    have H500 := Bl.hid h500
    have HE := Bl.hid hE
    clear hD h500 hE HD0 HE0 hown0
    by_cases hlt : k < ps.length
    · obtain ⟨b, o, hpe, hbl, hcell0⟩ := Bl.Rdss.cell (Hv.out.ext HE.out) Hwl.out k hlt
      subst hpe
      have hRk0 := Hws.out k hlt
      obtain ⟨bs, hbs⟩ : ∃ bs, bs = ps.getD k [] := ⟨_, rfl⟩
      rw [← hbs] at hRk0
      obtain ⟨pk, ck, hfk, hnk, hck⟩ := hRk0.form
      have hcell : wr.cell? ⟨b, o + k, none⟩ = some (.slice pk bs.length ck) := by rw [hcell0, hfk]
      have hRk : Bl.Rd wr .u8 (.slice pk bs.length ck) bs := by rw [← hfk]; exact hRk0.ext HE.out
      have HRk := Bl.hid hRk
      have HRk0 := Bl.hid (show Bl.Rd w .u8 (ws.getD k undef) bs ∧ ws.getD k undef = .slice pk bs.length ck from ⟨hRk0, hfk⟩)
      have Hbs := Bl.hid hbs
      clear hRk0 hfk hcell0 hRk hbs
      have htk : Hid (ps.take (k + 1) = ps.take k ++ [bs]) := by
        show _ = _
        rw [Hbs.out, List.getD_eq_getElem?_getD, List.getElem?_eq_getElem hlt, List.take_succ_eq_append_getElem hlt]; rfl
      by_cases hl5 : bs.length ≤ 500
      · have hl5' : decide ((500 : Int) < (bs.length : Int)) = false := decide_eq_false (by omega)
        go_wp2_with (with_reducible refine Bl.stop_append ?_)
        refine Bl.go_on ?_
        refine Bl.wpL_app tBytes Hown0.out HRk.out rfl rfl (by simp) (Bl.ints_one _ _) (by unfold maxLen; omega) (by omega) HE.out.size ?_
        intro q3 d3 w2 hown2 hg2 hB2 hK2 hn2 hc2
        have hE2 : Bl.Ext w w2 := Below.trans HE.out hB2
        have hRk2 : Bl.Rd w2 .u8 (.slice pk bs.length ck) bs := by rw [← HRk0.out.2]; exact HRk0.out.1.ext hE2
        have Hown2 := Bl.hid hown2
        have Hg2 := Bl.hid hg2
        have HK2 := Bl.hid hK2
        have HE2 := Bl.hid hE2
        have HRk2 := Bl.hid hRk2
        clear hown2 hg2 hK2 hE2 hRk2 hB2
        go_wp2_with fail
        refine (ebytes_any _ bs w2 HRk2.out (by omega)).mono ?_
        rintro e w3 ⟨g, d, rfl, hown3, hE3⟩
        have hlk : (ps.take k).length = k := by rw [List.length_take]; omega
        have Hlk := Bl.hid hlk
        have hrows := Bl.Din.rowsAt HD.out Hg2.out hE3 (.cells #[.slice (some ⟨g, 0, none⟩) bs.length d] 24)
        rw [hlk] at hrows
        have Hrows := Bl.hid hrows
        have Hnew := Bl.hid (Bl.rds_val w3 24 (.slice (some ⟨g, 0, none⟩) bs.length d))
        have HE4 : Hid (Bl.Ext w (w3.alloc (.cells #[.slice (some ⟨g, 0, none⟩) bs.length d] 24))) := Bl.hid ((HE2.out.trans hE3).trans (Bl.ext_alloc _ _))
        have Hown3 := Bl.hid hown3
        have HE3 := Bl.hid hE3
        clear hlk hrows hown3 hE3
        go_wp2_with (with_reducible refine Bl.stop_append ?_)
        refine Bl.go_on ?_
        refine Bl.wpL_app tRows Hrows.out Hnew.out rfl rfl rfl (Bl.one_slice _ _ _) (by unfold maxLen; omega) (by omega) HE4.out.size ?_
        intro q4 d4 w5 hown5 hg5 hB5 hK5 hn5 hc5
        have Hn : Hid (N + bs.length = (ps.take (k + 1)).flatten.length) := by
          show _ = _
          rw [HN.out, htk.out, List.flatten_append, List.flatten_singleton, List.length_append]
        have HD5 := Bl.hid (Bl.Din.step HD.out (by rw [← HN.out]; exact Hown2.out) Hg2.out HK2.out Hown3.out HE3.out (by rw [Hlk.out]; exact hown5) hg5 hK5)
        have HE5 : Hid (Bl.Ext w w5) := Bl.hid (Below.trans HE4.out hB5)
        clear hown5 hg5 hB5 hK5 Hown2 Hg2 HK2 HE2 HRk2 Hrows Hnew HE4 Hown3 HE3
        go_wp2_with fail
        go_roundw
        case rel =>
          refine ⟨k + 1, N + bs.length, q3, q4, d3, d4, vs ++ [.slice (some ⟨g, 0, none⟩) bs.length d], by go_num, by omega, Hn.out, rfl, rfl, ?_, ?_, HE5.out⟩
          · have h := HD5.out
            rw [← htk.out] at h
            exact h
          · rw [htk.out]
            intro q hq
            rcases List.mem_append.1 hq with hq | hq
            · exact H500.out q hq
            · obtain rfl : q = bs := by simpa using hq
              exact hl5
        case measure => simp [intOf]; omega
      · have hl5' : (500 : Int) < (bs.length : Int) := by omega
        go_wp2_with fail
        go_ret
        exact ⟨rfl, HE.out⟩
    · obtain rfl : k = ps.length := by omega
      have hD := HD.out
      have h500 := H500.out
      have hN := HN.out
      rw [List.take_length] at hD h500 hN
      have HD1 := Bl.hid hD
      have H5 := Bl.hid h500
      have HbyF := Bl.hid (Bl.byt_flat Hby.out)
      have HN1 := Bl.hid hN
      have hRall : Bl.Rd wr .u8 (.slice p3 N c3) ps.flatten := Bl.Rds.of_owns hD.own
      have HRall := Bl.hid hRall
      clear hD h500 HD H500 hN HN Hown0 hRall
      go_wp2_with fail
      refine (refof_any _ ps.flatten wr HRall.out (Hg.out.ext HE.out) HbyF.out (by rw [← HN1.out]; omega)).mono ?_
      rintro e w5 ⟨rfl, hE5⟩
      obtain ⟨sh, hsh⟩ : ∃ sh, sh = Bl.sha ps.flatten := ⟨_, rfl⟩
      have hshl : sh.length = 32 := by rw [hsh]; rfl
      rw [← hsh]
      have HF5 := Bl.hid (fam_new w5 32 .u8 26 (List.replicate 32 (Value.int .u8 0)).toArray rfl)
      have Hst := Bl.hid (Bl.store_ints (P := Tryd.prog) (ty := 26) (k := .u8) (l := sh) (n := 32) HF5.out.there (by kernel_rfl) hshl)
      have HE6 : Hid (Bl.Ext w5 ((w5.alloc (.cells (List.replicate 32 (Value.int .u8 0)).toArray 26)).setCells w5.heap.size 0 (Bl.ints .u8 sh))) := Bl.hid (Bl.below_setCells _ _ _ _ (Bl.ext_alloc _ _) (Nat.le_refl _))
      have Hr7 : Hid (((w5.alloc (.cells (List.replicate 32 (Value.int .u8 0)).toArray 26)).setCells w5.heap.size 0 (Bl.ints .u8 sh)).rangeAt w5.heap.size 0 (Bl.ints .u8 sh)) := Bl.hid (World.rangeAt_setCells_same _ _ _ _ (by rw [Bl.ints_length, hshl]; exact HF5.out.there))
      have HE5 := Bl.hid (HE.out.trans hE5)
      have Hsh := Bl.hid hsh
      have Hshl := Bl.hid hshl
      have HD5 := Bl.hid (HD1.out.ext hE5)
      clear hE5 hsh hshl HF5
      go_wp2_with (with_reducible refine Bl.stop_store (ty := 26) ?_)
      refine Bl.go_on ?_
      refine Bl.wpL_store0 rfl rfl Hst.out ?_
      generalize hWS : (w5.alloc (.cells (List.replicate 32 (Value.int .u8 0)).toArray 26)).setCells w5.heap.size 0 (Bl.ints .u8 sh) = W6 at *
      clear hWS Hst
      have HD6 := Bl.hid (HD5.out.ext HE6.out)
      have HE06 := Bl.hid (HE5.out.trans HE6.out)
      clear HD5 HE5 HE6
      generalize w5.heap.size = s7 at *
      have HOf : Hid (∀ w1, Bl.Ext W6 w1 → Calls Tryd.prog 28 #[.slice p4 ps.length c4] w1 fun e w' => e = .returned (.agg (Bl.ints .u8 sh).toArray) ∧ Bl.Ext w1 w') := Bl.hid fun w1 h1 => by
        have hD := HD6.out.ext h1
        refine (of_any _ ps _ ⟨vs, Bl.Rds.of_owns hD.rows, hD.len, fun i hi => ?_⟩ (Hg.out.ext (HE06.out.trans h1)) HbyF.out (by rw [← HN1.out]; omega)).mono ?_
        · obtain ⟨g, c, e1, e2, e3, e4, _, _⟩ := hD.elts i hi
          rw [e1]
          refine .inr ⟨g, 0, c, rfl, by omega, e3, fun j u hj => e4 j u ?_⟩
          rw [Bl.ints_append, List.getElem?_append_left (List.getElem?_eq_some_iff.1 hj).1]; exact hj
        · rintro e w2 ⟨rfl, h2⟩
          exact ⟨by rw [Hsh.out], h2⟩
      have HLd : Hid (∀ w1, Bl.Ext W6 w1 → (Instr.loadAt 26 (.pointer (some ⟨s7, 0, none⟩))).run Tryd.prog w1 = .ok (.agg (Bl.ints .u8 sh).toArray) w1) := Bl.hid fun w1 h1 => Bl.load_ints (Bl.rangeAt_ext Hr7.out h1) Tryd.underlying26 (by kernel_rfl) Hshl.out
      have heq : ∀ w, (Op.equalIn 10000 26 (.agg (Bl.ints .u8 sh).toArray) (.agg (Bl.ints .u8 sh).toArray)).run Tryd.prog w = .ok true w := fun w => Bl.eq10k_same Tryd.underlying26 Tryd.underlying5 (fun w => by simp [go_sem]) sh Hshl.out w
      go_wp2_with fail
      apply Bl.wp_region_ev 3 [39, 40, 41] [Bl.eqv _, Bl.eqv _, Bl.eqv _] (by kernel_rfl) (by kernel_rfl) (by kernel_rfl) (by kernel_rfl)
      case hsteps =>
        refine ⟨?_, ?_, ?_, trivial⟩
        all_goals
          intro ev w1 hext hb hd
          have e4 := hb 4 (by decide)
          have e7 := hb 7 (by decide)
          clear hb
          simp only [Array.getD_eq_getD_getElem?, List.getElem?_toArray, List.getElem?_cons_succ, List.getElem?_cons_zero, Option.getD_some] at e4 e7
          simp only [Bl.DepsE, List.getElem?_cons_succ, List.getElem?_cons_zero, Option.bind_some, List.getD_cons_succ, List.getD_cons_zero, Bl.eqv, and_true] at hd
          have hc := (Bl.bcell hext).1
          have hld := HLd.out w1 hext
          simp only [Bl.Good, Region.wanted, if_true]
          first
          | ((with_reducible refine Bl.goodR_load ?_ hld ?_); exact e7; exact rfl)
          | (go_simp; first | (go_at_call 28; refine (HOf.out _ hext).mono ?_; rintro e w2 ⟨rfl, hE2⟩; exact ⟨_, rfl, hE2, rfl⟩) | exact ⟨Below.refl _ _, rfl⟩)
      case hmono => exact ⟨Bl.mono_eqv _, Bl.mono_eqv _, Bl.mono_eqv _, trivial⟩
      case hend =>
        intro u w1 hext hend
        simp only [Bl.EndE, List.getElem?_cons_succ, List.getElem?_cons_zero, Option.bind_some, List.getD_cons_succ, List.getD_cons_zero, Bl.eqv, true_and] at hend
        simp only [Bl.fillAct, List.setIfInBounds_toArray, List.set_cons_succ, List.set_cons_zero, List.drop_succ_cons, List.drop_zero, hend]
        have HD8 := Bl.hid (HD6.out.ext hext)
        have HE8 := Bl.hid (HE06.out.trans hext)
        have HLd8 : Hid (∀ w2, Bl.Ext w1 w2 → (Instr.loadAt 26 (.pointer (some ⟨s7, 0, none⟩))).run Tryd.prog w2 = .ok (.agg (Bl.ints .u8 sh).toArray) w2) := Bl.hid fun w2 h2 => HLd.out w2 (hext.trans h2)
        clear hext hend HD6 HE06 HLd HOf Hr7
        go_wp2_with fail
        obtain ⟨W8, rfl⟩ : ∃ W8 : World, W8 = w1 := ⟨_, rfl⟩
        refine (new_any W8 (Hg.out.ext HE8.out)).mono ?_
        rintro e w' ⟨rfl, hw'⟩
        have hh := hash_new W8
        rw [← hw'] at hh
        have hB : Below W8.heap.size W8 w' := by rw [hw']; exact (Below.refl _ _).alloc (Nat.le_refl _) _
        obtain ⟨hb, hhb⟩ : ∃ hb, hb = W8.heap.size := ⟨_, rfl⟩
        rw [← hhb] at hh hB ⊢
        have Hhb := Bl.hid hhb
        clear hw' hhb
        go_wp2_with fail
        go_loopw [9, 48] (fun n i wr => ∃ k n0 : Nat, k ≤ ps.length ∧ i = .int .i64 k ∧ n = .int .i64 n0 ∧ Hid (n0 = (ps.take k).flatten.length) ∧ HashAt wr hb hb (Bl.eat Bl.iv0 (ps.take k).flatten).1 (Bl.eat Bl.iv0 (ps.take k).flatten).2 n0 ∧ Below hb W8 wr) (fun _ i _ => ps.length - (intOf i).toNat)
        case atStart => exact ⟨0, 0, Nat.zero_le _, rfl, rfl, rfl, hh, hB⟩
        case round =>
          obtain ⟨k, n0, hk, rfl, rfl, Hn0, hH, hBr⟩ := hrel
          have HH := Bl.hid hH
          have HBr := Bl.hid hBr
          have hszr : hb ≤ wr.heap.size := by rw [Hhb.out]; exact hBr.size
          have Hsz := Bl.hid hszr
          have HE8r : Hid (Bl.Ext W8 wr) := Bl.hid (hBr.mono (by rw [Hhb.out]; exact Nat.le_refl _))
          have hn0N : n0 ≤ 10000 := by
            have h := Bl.flat_len ps k
            rw [Hn0.out]
            have := HN1.out
            omega
          clear hH hBr hh hB
          by_cases hlt : k < ps.length
          · obtain ⟨b4, o4, hp4, hb4, hc4⟩ := Bl.Rdss.cell (Bl.Rds.of_owns HD8.out.rows) HD8.out.len k hlt
            subst hp4
            obtain ⟨g, c, e1, e2, e3, e4, e5, e6⟩ := HD8.out.elts k hlt
            rw [e1] at hc4
            obtain ⟨b, o, hpe, hbl, hcell0⟩ := Bl.Rdss.cell (Hv.out.ext HE8.out) Hwl.out k hlt
            subst hpe
            have hRk0 := Hws.out k hlt
            have htk0 : (ps.take (k + 1)).flatten = (ps.take k).flatten ++ ps.getD k [] := Bl.flat_take ps k hlt
            have hby0 : Bl.Byt (ps.getD k []) := by
              rw [List.getD_eq_getElem?_getD, List.getElem?_eq_getElem hlt]
              exact Hby.out _ (List.getElem_mem hlt)
            have h5k : (ps.getD k []).length ≤ 500 := by
              rw [List.getD_eq_getElem?_getD, List.getElem?_eq_getElem hlt]
              exact H5.out _ (List.getElem_mem hlt)
            obtain ⟨bs, hbs⟩ : ∃ bs, bs = ps.getD k [] := ⟨_, rfl⟩
            rw [← hbs] at hRk0 htk0 hby0 h5k hc4 e2 e4
            obtain ⟨pk, ck, hfk, hnk, hck⟩ := hRk0.form
            rw [hfk] at hRk0 hcell0
            have hb4' : b4 < hb := by rw [Hhb.out]; exact hb4
            have hbl' : b < hb := by rw [Hhb.out]; exact hbl
            have hcw4 : wr.cell? ⟨b4, o4 + k, none⟩ = some (.slice (some ⟨g, 0, none⟩) bs.length c) := by rw [HBr.out.cell (p := ⟨b4, o4 + k, none⟩) hb4']; exact hc4
            have hcwp : wr.cell? ⟨b, o + k, none⟩ = some (.slice pk bs.length ck) := by rw [HBr.out.cell (p := ⟨b, o + k, none⟩) hbl']; exact hcell0
            have HRk : Hid (∀ w2, Below hb wr w2 → Bl.Rd w2 .u8 (.slice pk bs.length ck) bs) := Bl.hid fun w2 h2 => hRk0.ext (HE8.out.trans ((HBr.out.trans h2).mono (by rw [Hhb.out]; exact Nat.le_refl _)))
            have HRg : Hid (∀ w2, Below hb wr w2 → w2.rangeAt g 0 (Bl.ints .u8 (bs ++ Bl.marks))) := Bl.hid fun w2 h2 => Bl.rangeAt_ext e4 ((HBr.out.trans h2).mono (by rw [Hhb.out]; exact Nat.le_refl _))
            have HRb : Hid (∀ w2, Below hb wr w2 → Bl.Rd w2 .u8 (.slice (some ⟨g, 0, none⟩) bs.length c) bs) := Bl.hid fun w2 h2 => .inr ⟨g, 0, c, rfl, by omega, e3, fun j u hj => HRg.out w2 h2 j u (by
              rw [Bl.ints_append, List.getElem?_append_left (List.getElem?_eq_some_iff.1 hj).1]; exact hj)⟩
            have HGw : Hid (∀ w2, Below hb wr w2 → Glob w2) := Bl.hid fun w2 h2 => Hg.out.ext (HE8.out.trans ((HBr.out.trans h2).mono (by rw [Hhb.out]; exact Nat.le_refl _)))
            obtain ⟨shk, hshk⟩ : ∃ shk, shk = Bl.sha (ps.take k).flatten := ⟨_, rfl⟩
            have Hshkl : Hid (shk.length = 32) := by rw [hshk]; rfl
            have HOk : Hid (∀ w2, Below hb wr w2 → Calls Tryd.prog 27 #[.slice p3 n0 c3] w2 fun e w' => e = .returned (.agg (Bl.ints .u8 shk).toArray) ∧ Bl.Ext w2 w') := Bl.hid fun w2 h2 => by
              have hE2 : Bl.Ext W8 w2 := (HBr.out.trans h2).mono (by rw [Hhb.out]; exact Nat.le_refl _)
              have hr := Bl.Rds.of_owns (HD8.out.ext hE2).own
              have hr2 : Bl.Rd w2 .u8 (.slice p3 n0 c3) (ps.take k).flatten := by
                have h := Bl.rd_take hr HN1.out.symm n0 (by rw [Hn0.out, HN1.out]; exact Bl.flat_len ps k)
                have e : ps.flatten.take n0 = (ps.take k).flatten := by
                  conv => lhs; rw [← List.take_append_drop k ps, List.flatten_append]
                  rw [List.take_append_of_le_length (by rw [Hn0.out]; exact Nat.le_refl _), List.take_of_length_le (by rw [Hn0.out]; exact Nat.le_refl _)]
                rw [e] at h; exact h
              refine (refof_any _ _ w2 hr2 (HGw.out w2 h2) (Bl.flat_byt HbyF.out k) (by rw [← Hn0.out]; omega)).mono ?_
              rintro e w3 ⟨rfl, h3⟩
              exact ⟨by rw [hshk], h3⟩
            obtain ⟨z, hz⟩ : ∃ z, z = (Bl.eat Bl.iv0 (ps.take k).flatten).1 := ⟨_, rfl⟩
            obtain ⟨l, hl⟩ : ∃ l, l = (Bl.eat Bl.iv0 (ps.take k).flatten).2 := ⟨_, rfl⟩
            have HSum : Hid ((Bl.ended z l n0).bytes = shk) := Bl.hid (by rw [hz, hl, Hn0.out, Bl.ended_eat, hshk]; rfl)
            have hrest := Bl.eat_rest (ps.take k).flatten.length Bl.iv0 (ps.take k).flatten (Nat.le_refl _)
            rw [← hl] at hrest
            have Hbl : Hid (Bl.Byt l) := Bl.hid fun x hx => Bl.flat_byt HbyF.out k x (hrest.2 x hx)
            have Hll : Hid (l.length < 64) := Bl.hid hrest.1
            have Hblb : Hid (Bl.Byt (l ++ bs)) := Bl.hid (Hbl.out.append hby0)
            have HH0 : Hid (HashAt wr hb hb z l n0) := Bl.hid (by rw [hz, hl]; exact HH.out)
            obtain ⟨z2, hz2⟩ : ∃ z2, z2 = (Bl.eat z (l ++ bs)).1 := ⟨_, rfl⟩
            obtain ⟨l2, hl2⟩ : ∃ l2, l2 = (Bl.eat z (l ++ bs)).2 := ⟨_, rfl⟩
            have Hz2 := Bl.hid hz2
            have Hl2 := Bl.hid hl2
            have Hz := Bl.hid hz
            have Hl := Bl.hid hl
            have Htk := Bl.hid htk0
            have He2 := Bl.hid e2
            have He3 := Bl.hid e3
            clear hz2 hl2 hz hl htk0 hRk0 hc4 hcell0 hfk hbs e1 e2 e3 e4 e5 e6 hrest hshk hby0 HH
            have heq : ∀ w, (Op.equalIn 10000 26 (.agg (Bl.ints .u8 shk).toArray) (.agg (Bl.ints .u8 shk).toArray)).run Tryd.prog w = .ok true w := fun w => Bl.eq10k_same Tryd.underlying26 Tryd.underlying5 (fun w => by simp [go_sem]) shk Hshkl.out w
            have hk0 : (0 : Int) ≤ (k : Int) := by omega
            have hkl : (k : Int) < (ps.length : Int) := by omega
            have hn0c : (n0 : Int) ≤ (c3 : Int) := by
              obtain ⟨_, _, hq, h1, _⟩ := (Bl.Rds.of_owns HD8.out.own).form
              injection hq with _ h2 h3
              have h4 := Bl.flat_len ps k
              rw [← Hn0.out] at h4
              rw [h3]; omega
            have hpn : ∀ w, (binOp .neq 30 (.pointer (some ⟨hb, 0, none⟩)) (.pointer (some ⟨hb, 0, none⟩))).run Tryd.prog w = .ok (.bool false) w := fun w => Bl.ptr_neq_same Tryd.underlying30 (n := 10) (fun w => by simp [go_sem]) _ w
            go_wp2_with fail
            apply Bl.wp_region_evJ (fun a b => Below hb a b) (Bl.HJ 10 (fun w => HashAt w hb hb z l n0) (fun w => HashAt w hb hb z2 l2 (n0 + bs.length))) 22 [53, 54, 55, 56, 57, 58, 59, 60, 61, 62, 63, 64, 65, 66, 67, 68, 69, 70, 71, 72, 73, 74] [Bl.eqv _, Bl.eqv _, Bl.eqv _, Bl.eqv _, Bl.eqv _, Bl.eqv _, Bl.eqv _, Bl.eqv _, Bl.eqv _, Bl.eqv _, Bl.eqv _, Bl.eqv _, Bl.eqv _, Bl.eqv _, Bl.eqv _, Bl.eqv _, Bl.eqv _, Bl.eqv _, Bl.eqv _, Bl.eqv _, Bl.eqv _, Bl.eqv _] (fun w => Below.refl _ w) (fun a b c h k => Below.trans h k) (by kernel_rfl) (by kernel_rfl) (by kernel_rfl) (by kernel_rfl)
            case hsteps =>
              refine ⟨?_, ?_, ?_, ?_, ?_, ?_, ?_, ?_, ?_, ?_, ?_, ?_, ?_, ?_, ?_, ?_, ?_, ?_, ?_, ?_, ?_, ?_, trivial⟩
              all_goals
                intro d ev w1 hext HJd Hanc Hdes hni hb hd
                replace Hanc := Bl.hid Hanc
                replace HJd := Bl.hid HJd
                replace Hdes := Bl.hid Hdes
                replace hni := Bl.hid hni
                have e0 := hb 0 (by decide)
                have e3 := hb 3 (by decide)
                have e8 := hb 8 (by decide)
                have e9 := hb 9 (by decide)
                have e10 := hb 10 (by decide)
                have e11 := hb 11 (by decide)
                clear hb
                simp only [Array.getD_eq_getD_getElem?, List.getElem?_toArray, List.getElem?_cons_succ, List.getElem?_cons_zero, Option.getD_some] at e0 e3 e8 e9 e10 e11
                simp only [Bl.DepsE, List.getElem?_cons_succ, List.getElem?_cons_zero, Option.bind_some, List.getD_cons_succ, List.getD_cons_zero, Bl.eqv, and_true] at hd
                have hc := (Bl.bcell hext).1
                have hc := (Bl.bcell hext).1
                simp only [Region.wanted, Bl.yieldE, List.getElem?_cons_succ, List.getElem?_cons_zero, Option.bind_some, hd, beq_self_eq_true, if_true]
                go_simp
                first | (go_at_call 30; refine (sum_any w1 hb hb n0 z l (HJd.out.2 (Hdes.out 10 (by kernel_rfl))) (HGw.out _ hext) Hbl.out Hll.out (by omega)).mono ?_; rintro e w2 ⟨rfl, hE2⟩; rw [HSum.out]; exact ⟨_, rfl, hE2.mono (Nat.le_trans Hsz.out hext.size), rfl, HJd.out.keep (by decide) (fun h => hash_ext h hE2) (fun h => hash_ext h hE2)⟩) | (go_at_call 27; refine (HOk.out _ hext).mono ?_; rintro e w2 ⟨rfl, hE2⟩; exact ⟨_, rfl, hE2.mono (Nat.le_trans Hsz.out hext.size), rfl, HJd.out.keep (by decide) (fun h => hash_ext h hE2) (fun h => hash_ext h hE2)⟩) | (go_at_call 31; refine (put_any w1 hb hb n0 z l bs _ (HJd.out.2 hni.out) (fun w2 h2 => HRb.out _ (hext.trans h2)) (fun w2 h2 => HGw.out _ (hext.trans h2)) Hblb.out (Nat.le_trans Hsz.out hext.size) Hll.out (by omega) (by omega)).mono ?_; rintro e w2 ⟨rfl, hH2, hB2⟩; exact ⟨_, rfl, hB2, rfl, Bl.HJ.set (by rw [Hz2.out, Hl2.out]; exact hH2)⟩) | (go_at_call 32; refine (ekept_any g c _ bs w1 He2.out He3.out (HRg.out _ hext) (HRk.out _ hext) (by omega)).mono ?_; rintro e w2 ⟨rfl, hE2⟩; exact ⟨_, rfl, hE2.mono (Nat.le_trans Hsz.out hext.size), rfl, HJd.out.keep (by decide) (fun h => hash_ext h hE2) (fun h => hash_ext h hE2)⟩) | exact ⟨Below.refl _ _, rfl, Bl.HJ.same (by decide) HJd.out⟩
            case hmono => exact ⟨Bl.monoR_eqv _, Bl.monoR_eqv _, Bl.monoR_eqv _, Bl.monoR_eqv _, Bl.monoR_eqv _, Bl.monoR_eqv _, Bl.monoR_eqv _, Bl.monoR_eqv _, Bl.monoR_eqv _, Bl.monoR_eqv _, Bl.monoR_eqv _, Bl.monoR_eqv _, Bl.monoR_eqv _, Bl.monoR_eqv _, Bl.monoR_eqv _, Bl.monoR_eqv _, Bl.monoR_eqv _, Bl.monoR_eqv _, Bl.monoR_eqv _, Bl.monoR_eqv _, Bl.monoR_eqv _, Bl.monoR_eqv _, trivial⟩
            case hR0 => exact (Below.refl _ _).drew
            case hend =>
              intro u w1 hext hJ hend
              simp only [Bl.EndE, List.getElem?_cons_succ, List.getElem?_cons_zero, Option.bind_some, List.getD_cons_succ, List.getD_cons_zero, Bl.eqv, true_and] at hend
              simp only [Bl.fillAct, List.setIfInBounds_toArray, List.set_cons_succ, List.set_cons_zero, List.drop_succ_cons, List.drop_zero, hend]
              have hH2 := hJ.1 rfl
              have HH2 := Bl.hid hH2
              have hc9 := hH2.count
              rw [show ((n0 + bs.length : Nat) : Int) = (n0 : Int) + (bs.length : Int) from by omega] at hc9
              have HB2 := Bl.hid (HBr.out.trans hext)
              clear hH2 hJ hext hend
              go_wp2_with fail
              refine (count_any _ hb _ hc9).mono ?_
              rintro e w9 ⟨rfl, rfl⟩
              go_wp2_with fail
              go_roundw
              case rel =>
                refine ⟨k + 1, n0 + bs.length, by omega, by go_num, by go_num, ?_, ?_, HB2.out⟩
                · show _ = _
                  rw [Htk.out, List.length_append, ← Hn0.out]
                · rw [Htk.out, Bl.eat_append _ _ _ _ (Nat.le_refl _), ← Hz.out, ← Hl.out, ← Hz2.out, ← Hl2.out]
                  exact HH2.out
              case measure => simp [intOf]; omega
            case hJ0 => exact Bl.HJ.start (hash_ext HH0.out ((Below.refl _ _).drew))
          · obtain rfl : k = ps.length := by omega
            have hH := HH.out
            have hn0 := Hn0.out
            rw [List.take_length] at hH hn0
            obtain ⟨z, hz⟩ : ∃ z, z = (Bl.eat Bl.iv0 ps.flatten).1 := ⟨_, rfl⟩
            obtain ⟨l, hl⟩ : ∃ l, l = (Bl.eat Bl.iv0 ps.flatten).2 := ⟨_, rfl⟩
            have HSum : Hid ((Bl.ended z l n0).bytes = sh) := Bl.hid (by rw [hz, hl, hn0, Bl.ended_eat, Hsh.out]; rfl)
            have hrest := Bl.eat_rest ps.flatten.length Bl.iv0 ps.flatten (Nat.le_refl _)
            rw [← hl] at hrest
            have Hbl : Hid (Bl.Byt l) := Bl.hid fun x hx => HbyF.out x (hrest.2 x hx)
            have Hll : Hid (l.length < 64) := Bl.hid hrest.1
            rw [← hz, ← hl] at hH
            have HH0 := Bl.hid hH
            have HEr : Hid (Bl.Ext w wr) := Bl.hid (HE8.out.trans HE8r.out)
            have HLdr : Hid (∀ w2, Bl.Ext wr w2 → (Instr.loadAt 26 (.pointer (some ⟨s7, 0, none⟩))).run Tryd.prog w2 = .ok (.agg (Bl.ints .u8 sh).toArray) w2) := Bl.hid fun w2 h2 => HLd8.out w2 (HE8r.out.trans h2)
            clear hH hn0 hz hl hrest HH HLd8
            go_wp2_with fail
            apply Bl.wp_region_ev 3 [85, 86, 87] [Bl.eqv _, Bl.eqv _, Bl.eqv _] (by kernel_rfl) (by kernel_rfl) (by kernel_rfl) (by kernel_rfl)
            case hsteps =>
              refine ⟨?_, ?_, ?_, trivial⟩
              all_goals
                intro ev w1 hext hb hd
                have e7 := hb 7 (by decide)
                have e8 := hb 8 (by decide)
                clear hb
                simp only [Array.getD_eq_getD_getElem?, List.getElem?_toArray, List.getElem?_cons_succ, List.getElem?_cons_zero, Option.getD_some] at e7 e8
                simp only [Bl.DepsE, List.getElem?_cons_succ, List.getElem?_cons_zero, Option.bind_some, List.getD_cons_succ, List.getD_cons_zero, Bl.eqv, and_true] at hd
                have hc := (Bl.bcell hext).1
                have hld := HLdr.out w1 hext
                simp only [Bl.Good, Region.wanted, if_true]
                first
                | ((with_reducible refine Bl.goodR_load ?_ hld ?_); exact e7; exact rfl)
                | (go_simp; first | (go_at_call 30; refine (sum_any w1 hb hb n0 z l (hash_ext HH0.out hext) (Hg.out.ext (HEr.out.trans hext)) Hbl.out Hll.out (by omega)).mono ?_; rintro e w2 ⟨rfl, hE2⟩; rw [HSum.out]; exact ⟨_, rfl, hE2, rfl⟩) | exact ⟨Below.refl _ _, rfl⟩)
            case hmono => exact ⟨Bl.mono_eqv _, Bl.mono_eqv _, Bl.mono_eqv _, trivial⟩
            case hend =>
              intro u w1 hext hend
              simp only [Bl.EndE, List.getElem?_cons_succ, List.getElem?_cons_zero, Option.bind_some, List.getD_cons_succ, List.getD_cons_zero, Bl.eqv, true_and] at hend
              simp only [Bl.fillAct, List.setIfInBounds_toArray, List.set_cons_succ, List.set_cons_zero, List.drop_succ_cons, List.drop_zero, hend]
              have HEf := Bl.hid (HEr.out.trans hext)
              clear hext hend HLdr
              go_wp2_with fail
              go_ret
              exact ⟨rfl, HEf.out⟩

theorem dig_all (v : Value) (ps : List (List Int)) (w : World) (hR : Bl.Rdss w v ps) (hg : Glob w) (hby : ∀ p ∈ ps, Bl.Byt p) :
    Calls Tryd.prog 3 #[v] w fun e w' => e = .returned (.bool true) ∧ Bl.Ext w w' := by
  by_cases h : ps.length ≤ 20
  · exact dig_walk v ps w hR hg h hby
  · exact dig_long v ps w hR hg (by omega)
end Go.Proofs.YtdodgcapihfkkaaDoor

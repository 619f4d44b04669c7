/- Walk of the law ShaTexts: it returns true. -/
import Derived.Test.YtdodgcapihfkkaaDoorWUnhex
import Derived.Test.YtdodgcapihfkkaaDoorWNum
import Derived.Test.YtdodgcapihfkkaaDoorWAl07
namespace Go.Proofs.Bl
open Go Go.RowKit
/-- are the first bytes figures, of a text of 64 bytes? -/
def okK (s : ByteArray) (k : Nat) : Bool := decide (s.size = 64) && ((sb s).take k).all fun c => decide (0 ≤ figI c)
theorem okK_zero (s : ByteArray) : okK s 0 = ((s.size : Int) == 64) := by
  unfold okK
  rw [List.take_zero, List.all_nil, Bool.and_true]
  by_cases h : s.size = 64
  · rw [decide_eq_true h, h]; rfl
  · rw [decide_eq_false h]
    symm
    rw [beq_eq_false_iff_ne]; omega
theorem okK_succ (s : ByteArray) (k : Nat) (h : k < s.size) : okK s (k + 1) = (okK s k && decide (0 ≤ figI ((sb s).getD k 0))) := by
  unfold okK
  have hl : k < (sb s).length := by rw [sb_length]; exact h
  rw [List.take_succ_eq_append_getElem hl, List.all_append, List.all_cons, List.all_nil, Bool.and_true, ← Bool.and_assoc, List.getD_eq_getElem?_getD, List.getElem?_eq_getElem hl]
  rfl
theorem okK_end (s : ByteArray) : okK s s.size = okB s := by
  unfold okK okB
  rw [List.take_of_length_le (by rw [sb_length]; exact Nat.le_refl _)]
section
variable {P : Program} {ops : Array Oper} {rest : List Oper} {a : Act} {w : World} {Q : Exit → Act → World → Prop} {d : Option Tmp} {tt ty : TypeId} {pp : String} {af : Array Edge} {x : Operand} {p v : Value} {g : Nat × Bool}
theorem stop_loadg (h : Stuck (wpList P ops Q (⟨d, .load ty x, tt, pp, af, some g⟩ :: rest) a w)) : wpList P ops Q (⟨d, .load ty x, tt, pp, af, some g⟩ :: rest) a w := h
/-- a load that a '&&' or '||' guards, and that is wanted -/
theorem wpL_loadg (hw : Region.wanted ⟨d, .load ty x, tt, pp, af, some g⟩ (yielded ops a.tmps) = true) (hx : a.eval x = p) (hld : (Instr.loadAt ty p).run P w = .ok v w) (h : wpList P ops Q rest (a.put d v) w) :
    wpList P ops Q (⟨d, .load ty x, tt, pp, af, some g⟩ :: rest) a w := by
  unfold wpList
  rw [if_pos hw]
  left
  unfold Oper.wp execOp
  simp only [hx, Sem.run_bind, Sem.run_pure, Result.andThen_ok, hld]
  exact h
end
end Go.Proofs.Bl
namespace Go.Proofs.YtdodgcapihfkkaaDoor
open Go.RowKit Go.Proofs

set_option maxRecDepth 100000 in
set_option maxHeartbeats 2000000 in
theorem texts_all (d d2 : List Int) (s : ByteArray) (w : World) (S : List Nat) (a : Nat → Addr) (hl : d.length = 32) (hl2 : d2.length = 32) (hby : Bl.Byt d) (hg : Glob w) (he : Errs S a w) (hS : ∀ i, 1 ≤ i → i ≤ 20 → i ∈ S) (hsz : s.size ≤ maxLen) :
    Calls Tryd.prog 5 #[.agg (Bl.ints .u8 d).toArray, .string s, .agg (Bl.ints .u8 d2).toArray] w fun e w' => e = .returned (.bool true) ∧ Bl.Ext w w' := by
  unfold maxLen at hsz
  have Hl := Bl.hid hl
  have Hl2 := Bl.hid hl2
  have Hby := Bl.hid hby
  have Hg := Bl.hid hg
  have He := Bl.hid he
  have HS := Bl.hid hS
  have h1 := Bl.rangeAt_ext (Bl.range_box w d 26) (Bl.ext_alloc _ (.cells (Bl.ints .u8 d2).toArray 26))
  have h2 := Bl.range_box (w.alloc (.cells (Bl.ints .u8 d).toArray 26)) d2 26
  rw [World.size_alloc] at h2
  have H1 := Bl.hid h1
  have H2 := Bl.hid h2
  have HE0 : Hid (Bl.Ext w ((w.alloc (.cells (Bl.ints .u8 d).toArray 26)).alloc (.cells (Bl.ints .u8 d2).toArray 26))) := Bl.hid ((Bl.ext_alloc _ _).trans (Bl.ext_alloc _ _))
  clear hl hl2 hby hg he hS h1 h2
  go_enter Tryd.func5, Tryd.ntmps5
  go_wp2_with fail
  generalize (w.alloc (.cells (Bl.ints .u8 d).toArray 26)).alloc (.cells (Bl.ints .u8 d2).toArray 26) = W0 at H1 H2 HE0 ⊢
  refine (alive07 W0 (Hg.out.ext HE0.out)).mono ?_
  rintro e w1 ⟨rfl, hE1⟩
  have HE1 := Bl.hid (HE0.out.trans hE1)
  have HE01 := Bl.hid hE1
  clear hE1
  by_cases hlong : (200 : Int) < (s.size : Int)
  · go_wp2_with fail
    go_ret
    exact ⟨rfl, HE1.out⟩
  have HL3 : Hid (∀ w2, Bl.Ext W0 w2 → (Instr.loadAt 26 (.pointer (some ⟨w.heap.size, 0, none⟩))).run Tryd.prog w2 = .ok (.agg (Bl.ints .u8 d).toArray) w2) := Bl.hid fun w2 h => Bl.load_ints (Bl.rangeAt_ext H1.out h) Tryd.underlying26 (by kernel_rfl) Hl.out
  have HL5 : Hid (∀ w2, Bl.Ext W0 w2 → (Instr.loadAt 26 (.pointer (some ⟨w.heap.size + 1, 0, none⟩))).run Tryd.prog w2 = .ok (.agg (Bl.ints .u8 d2).toArray) w2) := Bl.hid fun w2 h => Bl.load_ints (Bl.rangeAt_ext H2.out h) Tryd.underlying26 (by kernel_rfl) Hl2.out
  go_wp2_with (with_reducible refine Bl.stop_load (ty := 26) ?_)
  refine Bl.go_on ?_
  refine Bl.wpL_load rfl (HL3.out _ HE01.out) ?_
  go_wp2_with fail
  refine (hex_any d w1 Hl.out Hby.out).mono ?_
  rintro e w2 ⟨rfl, hE2⟩
  have hok := Bl.okB_hexs d Hl.out Hby.out
  have hU : unhexV (Bl.bstr (Bl.hexs d)) (a 4) = .tuple #[.agg (Bl.ints .u8 d).toArray, .nilIface] := by
    unfold unhexV; rw [if_pos hok, Bl.sb_bstr _ (Bl.hexs_byt d Hby.out), (Bl.unhex_hexs d Hby.out).1]
  have htl : (Bl.bstr (Bl.hexs d)).size = 64 := by rw [Bl.bstr_size, Bl.hexs_length, Hl.out]
  have HRx0 : Hid (∀ w2, Calls Tryd.prog 42 #[.agg (Bl.ints .u8 d).toArray] w2 fun e w' => e = .returned (.string (Bl.bstr (Bl.hexs d))) ∧ Bl.Ext w2 w') := Bl.hid fun w2 => refhex_any d w2 Hl.out Hby.out
  clear hok
  generalize Bl.bstr (Bl.hexs d) = t at hU htl HRx0 ⊢
  have HU := Bl.hid hU
  have HE2 := Bl.hid (HE1.out.trans hE2)
  have HE02 := Bl.hid (HE01.out.trans hE2)
  have Htl := Bl.hid htl
  clear hU hE2 htl
  go_wp2_with fail
  refine (unhex_any t w2 (a 4) ((He.out.ext HE2.out).cell 4 (HS.out 4 (by decide) (by decide))) (by rw [Htl.out]; decide)).mono ?_
  rintro e w3 ⟨rfl, hE3⟩
  rw [HU.out]
  have HE3 := Bl.hid (HE2.out.trans hE3)
  have HE03 := Bl.hid (HE02.out.trans hE3)
  have HF8 := Bl.hid (fam_new w3 32 .u8 28 #[.int .u8 0, .int .u8 0, .int .u8 0, .int .u8 0, .int .u8 0, .int .u8 0, .int .u8 0, .int .u8 0, .int .u8 0, .int .u8 0, .int .u8 0, .int .u8 0, .int .u8 0, .int .u8 0, .int .u8 0, .int .u8 0, .int .u8 0, .int .u8 0, .int .u8 0, .int .u8 0, .int .u8 0, .int .u8 0, .int .u8 0, .int .u8 0, .int .u8 0, .int .u8 0, .int .u8 0, .int .u8 0, .int .u8 0, .int .u8 0, .int .u8 0, .int .u8 0] rfl)
  have Hst := Bl.hid (Bl.store_ints (P := Tryd.prog) (ty := 28) (k := .u8) (l := d) (n := 32) HF8.out.there (by kernel_rfl) Hl.out)
  have HE6 : Hid (Bl.Ext w3 ((w3.alloc (.cells #[.int .u8 0, .int .u8 0, .int .u8 0, .int .u8 0, .int .u8 0, .int .u8 0, .int .u8 0, .int .u8 0, .int .u8 0, .int .u8 0, .int .u8 0, .int .u8 0, .int .u8 0, .int .u8 0, .int .u8 0, .int .u8 0, .int .u8 0, .int .u8 0, .int .u8 0, .int .u8 0, .int .u8 0, .int .u8 0, .int .u8 0, .int .u8 0, .int .u8 0, .int .u8 0, .int .u8 0, .int .u8 0, .int .u8 0, .int .u8 0, .int .u8 0, .int .u8 0] 28)).setCells w3.heap.size 0 (Bl.ints .u8 d))) := Bl.hid (Bl.below_setCells _ _ _ _ (Bl.ext_alloc _ _) (Nat.le_refl _))
  have Hr8 : Hid (((w3.alloc (.cells #[.int .u8 0, .int .u8 0, .int .u8 0, .int .u8 0, .int .u8 0, .int .u8 0, .int .u8 0, .int .u8 0, .int .u8 0, .int .u8 0, .int .u8 0, .int .u8 0, .int .u8 0, .int .u8 0, .int .u8 0, .int .u8 0, .int .u8 0, .int .u8 0, .int .u8 0, .int .u8 0, .int .u8 0, .int .u8 0, .int .u8 0, .int .u8 0, .int .u8 0, .int .u8 0, .int .u8 0, .int .u8 0, .int .u8 0, .int .u8 0, .int .u8 0, .int .u8 0] 28)).setCells w3.heap.size 0 (Bl.ints .u8 d)).rangeAt w3.heap.size 0 (Bl.ints .u8 d)) := Bl.hid (World.rangeAt_setCells_same _ _ _ _ (by rw [Bl.ints_length, Hl.out]; exact HF8.out.there))
  clear hE3
  go_wp2_with (with_reducible refine Bl.stop_store (ty := 28) ?_)
  refine Bl.go_on ?_
  refine Bl.wpL_store0 rfl rfl Hst.out ?_
  generalize hWS : (w3.alloc (.cells #[.int .u8 0, .int .u8 0, .int .u8 0, .int .u8 0, .int .u8 0, .int .u8 0, .int .u8 0, .int .u8 0, .int .u8 0, .int .u8 0, .int .u8 0, .int .u8 0, .int .u8 0, .int .u8 0, .int .u8 0, .int .u8 0, .int .u8 0, .int .u8 0, .int .u8 0, .int .u8 0, .int .u8 0, .int .u8 0, .int .u8 0, .int .u8 0, .int .u8 0, .int .u8 0, .int .u8 0, .int .u8 0, .int .u8 0, .int .u8 0, .int .u8 0, .int .u8 0] 28)).setCells w3.heap.size 0 (Bl.ints .u8 d) = W6 at *
  clear hWS Hst HF8
  have HEW := Bl.hid (HE3.out.trans HE6.out)
  have HE06 := Bl.hid (HE03.out.trans HE6.out)
  generalize w3.heap.size = s8 at *
  have HL8 : Hid (∀ w2, Bl.Ext W6 w2 → (Instr.loadAt 28 (.pointer (some ⟨s8, 0, none⟩))).run Tryd.prog w2 = .ok (.agg (Bl.ints .u8 d).toArray) w2) := Bl.hid fun w2 h => Bl.load_ints (Bl.rangeAt_ext Hr8.out h) Tryd.underlying28 (by kernel_rfl) Hl.out
  have HCv1 : Hid (∀ w2, Bl.Ext W0 w2 → (convert 24 9 (.slice (some ⟨w.heap.size, 0, none⟩) 32 32)).run Tryd.prog w2 = .ok (.string (Bl.bstr d)) w2) := Bl.hid fun w2 h => Bl.conv_bytes ((Bl.rd_box H1.out Hl.out (by decide)).ext h) Tryd.underlying24 Tryd.underlying5 Tryd.underlying9
  have HCv2 : Hid (∀ w2, Bl.Ext W0 w2 → (convert 24 9 (.slice (some ⟨w.heap.size + 1, 0, none⟩) 32 32)).run Tryd.prog w2 = .ok (.string (Bl.bstr d2)) w2) := Bl.hid fun w2 h => Bl.conv_bytes ((Bl.rd_box H2.out Hl2.out (by decide)).ext h) Tryd.underlying24 Tryd.underlying5 Tryd.underlying9
  have HZ : Hid (∀ w2, Calls Tryd.prog 43 #[.agg (Bl.ints .u8 d).toArray] w2 fun e w' => e = .returned (.bool (decide (d = Bl.zs32))) ∧ Bl.Ext w2 w') := Bl.hid fun w2 => zero_any d w2 Hl.out
  have HLs : Hid (∀ w2, Calls Tryd.prog 44 #[.agg (Bl.ints .u8 d).toArray, .agg (Bl.ints .u8 d2).toArray] w2 fun e w' => e = .returned (.bool (Op.bytesLess (Bl.bstr d).toList (Bl.bstr d2).toList)) ∧ Bl.Ext w2 w') := Bl.hid fun w2 => less_any d d2 w2 Hl.out Hl2.out
  have heqz : ∀ w, (Op.equalIn 10000 26 (.agg (Bl.ints .u8 d).toArray) (.agg #[.int .u8 0, .int .u8 0, .int .u8 0, .int .u8 0, .int .u8 0, .int .u8 0, .int .u8 0, .int .u8 0, .int .u8 0, .int .u8 0, .int .u8 0, .int .u8 0, .int .u8 0, .int .u8 0, .int .u8 0, .int .u8 0, .int .u8 0, .int .u8 0, .int .u8 0, .int .u8 0, .int .u8 0, .int .u8 0, .int .u8 0, .int .u8 0, .int .u8 0, .int .u8 0, .int .u8 0, .int .u8 0, .int .u8 0, .int .u8 0, .int .u8 0, .int .u8 0])).run Tryd.prog w = .ok (decide (d = Bl.zs32)) w := fun w =>
    Bl.eq10k Tryd.underlying26 Tryd.underlying5 (fun w => by simp [go_sem]) d Bl.zs32 Hl.out rfl w
  have heqd : ∀ w, (Op.equalIn 10000 26 (.agg (Bl.ints .u8 d).toArray) (.agg (Bl.ints .u8 d).toArray)).run Tryd.prog w = .ok true w := fun w => Bl.eq10k_same Tryd.underlying26 Tryd.underlying5 (fun w => by simp [go_sem]) d Hl.out w
  generalize decide (d = Bl.zs32) = zb at HZ heqz
  clear Hr8
  go_wp2_with fail
  apply Bl.wp_region_ev 31 [26, 27, 28, 29, 30, 31, 32, 33, 34, 35, 36, 37, 38, 39, 40, 41, 42, 43, 44, 45, 46, 47, 48, 49, 50, 51, 52, 53, 54, 55, 56] [Bl.eqv _, Bl.eqv _, Bl.eqv _, Bl.eqv _, Bl.eqv _, Bl.eqv _, Bl.eqv _, Bl.eqv _, Bl.eqv _, Bl.eqv _, Bl.eqv _, Bl.eqv _, Bl.eqv _, Bl.eqv _, Bl.eqv _, Bl.eqv _, Bl.eqv _, Bl.eqv _, Bl.eqv _, Bl.eqv _, Bl.eqv _, Bl.eqv _, Bl.eqv _, Bl.eqv _, Bl.eqv _, Bl.eqv _, Bl.eqv _, Bl.eqv _, Bl.eqv _, Bl.eqv _, Bl.eqv _] (by kernel_rfl) (by kernel_rfl) (by kernel_rfl) (by kernel_rfl)
  case hsteps =>
    refine ⟨?_, ?_, ?_, ?_, ?_, ?_, ?_, ?_, ?_, ?_, ?_, ?_, ?_, ?_, ?_, ?_, ?_, ?_, ?_, ?_, ?_, ?_, ?_, ?_, ?_, ?_, ?_, ?_, ?_, ?_, ?_, trivial⟩
    all_goals
      intro ev w1 hext hb hd
      have e3 := hb 3 (by decide)
      have e5 := hb 5 (by decide)
      have e7 := hb 7 (by decide)
      have e8 := hb 8 (by decide)
      have e9 := hb 9 (by decide)
      clear hb
      simp only [Array.getD_eq_getD_getElem?, List.getElem?_toArray, List.getElem?_cons_succ, List.getElem?_cons_zero, Option.getD_some] at e3 e5 e7 e8 e9
      simp only [Bl.DepsE, List.getElem?_cons_succ, List.getElem?_cons_zero, Option.bind_some, List.getD_cons_succ, List.getD_cons_zero, Bl.eqv, and_true] at hd
      have hc := (Bl.bcell hext).1
      have hE1 := HE06.out.trans hext
      have hcv1 := HCv1.out _ hE1
      have hcv2 := HCv2.out _ hE1
      simp only [Bl.Good, Region.wanted, Bl.yieldE, List.getElem?_cons_succ, List.getElem?_cons_zero, Option.bind_some, hd, beq_self_eq_true, if_true]
      first
      | ((with_reducible refine Bl.goodR_load ?_ (HL3.out _ hE1) ?_); exact e3; exact rfl) | ((with_reducible refine Bl.goodR_load ?_ (HL5.out _ hE1) ?_); exact e5; exact rfl) | ((with_reducible refine Bl.goodR_load ?_ (HL8.out _ hext) ?_); exact e8; exact rfl)
      | (go_simp; first | (go_at_call 42; (with_reducible refine (HRx0.out _).mono ?_); rintro e w2 ⟨rfl, hE2⟩; exact ⟨_, rfl, hE2, rfl⟩) | (go_at_call 43; (with_reducible refine (HZ.out _).mono ?_); rintro e w2 ⟨rfl, hE2⟩; exact ⟨_, rfl, hE2, rfl⟩) | (go_at_call 44; (with_reducible refine (HLs.out _).mono ?_); rintro e w2 ⟨rfl, hE2⟩; exact ⟨_, rfl, hE2, rfl⟩) | exact rfl | exact ⟨Below.refl _ _, rfl⟩)
  case hmono => exact ⟨Bl.mono_eqv _, Bl.mono_eqv _, Bl.mono_eqv _, Bl.mono_eqv _, Bl.mono_eqv _, Bl.mono_eqv _, Bl.mono_eqv _, Bl.mono_eqv _, Bl.mono_eqv _, Bl.mono_eqv _, Bl.mono_eqv _, Bl.mono_eqv _, Bl.mono_eqv _, Bl.mono_eqv _, Bl.mono_eqv _, Bl.mono_eqv _, Bl.mono_eqv _, Bl.mono_eqv _, Bl.mono_eqv _, Bl.mono_eqv _, Bl.mono_eqv _, Bl.mono_eqv _, Bl.mono_eqv _, Bl.mono_eqv _, Bl.mono_eqv _, Bl.mono_eqv _, Bl.mono_eqv _, Bl.mono_eqv _, Bl.mono_eqv _, Bl.mono_eqv _, Bl.mono_eqv _, trivial⟩
  case hend =>
    intro u w1 hext hend
    simp only [Bl.EndE, List.getElem?_cons_succ, List.getElem?_cons_zero, Option.bind_some, List.getD_cons_succ, List.getD_cons_zero, Bl.eqv, true_and] at hend
    simp only [Bl.fillAct, List.setIfInBounds_toArray, List.set_cons_succ, List.set_cons_zero, List.drop_succ_cons, List.drop_zero, hend]
    have HE7 := Bl.hid (HEW.out.trans hext)
    clear hext hend heqz heqd HZ HLs HCv1 HCv2 HL8 HL3 HL5 HRx0 HE06 HE6
    obtain ⟨W7, rfl⟩ : ∃ W7 : World, W7 = w1 := ⟨_, rfl⟩
    have hok0 := Bl.hid (Bl.okK_zero s)
    go_wp2_with fail
    go_loop [10, 11] (fun r i => ∃ k : Nat, k ≤ s.size ∧ i = .int .i64 k ∧ r = .bool (Bl.okK s k)) (fun _ i => s.size - (intOf i).toNat)
    case atStart => exact ⟨0, Nat.zero_le _, rfl, by rw [hok0.out]⟩
    case round =>
      obtain ⟨k, hk, rfl, rfl⟩ := hrel
      by_cases hlt : k < s.size
      · have Hix : Hid (∀ w, (Instr.index 9 (.string s) (.int .i64 (k : Int))).run Tryd.prog w = .ok (.int .u8 ((Bl.sb s).getD k 0)) w) := Bl.hid (Bl.index_str Tryd.underlying9 s k _ rfl hlt)
        have Hstep := Bl.hid (Bl.okK_succ s k hlt)
        obtain ⟨hc0, hc1⟩ := (Bl.sb_byt s).get k
        generalize (Bl.sb s).getD k 0 = c at Hix Hstep hc0 hc1
        generalize Bl.okK s k = b at Hstep ⊢
        cases b with
        | false =>
          go_wp2_with ((with_reducible refine Bl.wpL_index (p := .string s) (v := .int .i64 k) ?_ ?_ (Hix.out _) ?_); rfl; rfl)
          go_round
          case rel => exact ⟨k + 1, by omega, by go_num, by rw [Hstep.out]; rfl⟩
          case measure => simp [intOf]; omega
        | true =>
          by_cases h48 : c < 48
          · have hf : decide (0 ≤ Bl.figI c) = false := decide_eq_false (by unfold Bl.figI; rw [if_neg (by omega), if_neg (by omega)]; omega)
            have Hf := Bl.hid hf
            have d1 : decide (48 ≤ c) = false := decide_eq_false (by omega)
            have d2 : decide (97 ≤ c) = false := decide_eq_false (by omega)
            clear hf
            go_wp2_with ((with_reducible refine Bl.wpL_index (p := .string s) (v := .int .i64 k) ?_ ?_ (Hix.out _) ?_); rfl; rfl)
            go_round
            case rel => exact ⟨k + 1, by omega, by go_num, by rw [Hstep.out, Hf.out]; rfl⟩
            case measure => simp [intOf]; omega
          · by_cases h57 : c ≤ 57
            · have hf : decide (0 ≤ Bl.figI c) = true := decide_eq_true (by unfold Bl.figI; rw [if_pos (by omega)]; omega)
              have Hf := Bl.hid hf
              have d1 : decide (48 ≤ c) = true := decide_eq_true (by omega)
              have d2 : decide (c ≤ 57) = true := decide_eq_true (by omega)
              clear hf
              go_wp2_with ((with_reducible refine Bl.wpL_index (p := .string s) (v := .int .i64 k) ?_ ?_ (Hix.out _) ?_); rfl; rfl)
              go_round
              case rel => exact ⟨k + 1, by omega, by go_num, by rw [Hstep.out, Hf.out]; rfl⟩
              case measure => simp [intOf]; omega
            · by_cases h97 : c < 97
              · have hf : decide (0 ≤ Bl.figI c) = false := decide_eq_false (by unfold Bl.figI; rw [if_neg (by omega), if_neg (by omega)]; omega)
                have Hf := Bl.hid hf
                have d1 : decide (48 ≤ c) = true := decide_eq_true (by omega)
                have d2 : decide (c ≤ 57) = false := decide_eq_false (by omega)
                have d3 : decide (97 ≤ c) = false := decide_eq_false (by omega)
                clear hf
                go_wp2_with ((with_reducible refine Bl.wpL_index (p := .string s) (v := .int .i64 k) ?_ ?_ (Hix.out _) ?_); rfl; rfl)
                go_round
                case rel => exact ⟨k + 1, by omega, by go_num, by rw [Hstep.out, Hf.out]; rfl⟩
                case measure => simp [intOf]; omega
              · by_cases h102 : c ≤ 102
                · have hf : decide (0 ≤ Bl.figI c) = true := decide_eq_true (by unfold Bl.figI; rw [if_neg (by omega), if_pos (by omega)]; omega)
                  have Hf := Bl.hid hf
                  have d1 : decide (48 ≤ c) = true := decide_eq_true (by omega)
                  have d2 : decide (c ≤ 57) = false := decide_eq_false (by omega)
                  have d3 : decide (97 ≤ c) = true := decide_eq_true (by omega)
                  have d4 : decide (c ≤ 102) = true := decide_eq_true (by omega)
                  clear hf
                  go_wp2_with ((with_reducible refine Bl.wpL_index (p := .string s) (v := .int .i64 k) ?_ ?_ (Hix.out _) ?_); rfl; rfl)
                  go_round
                  case rel => exact ⟨k + 1, by omega, by go_num, by rw [Hstep.out, Hf.out]; rfl⟩
                  case measure => simp [intOf]; omega
                · have hf : decide (0 ≤ Bl.figI c) = false := decide_eq_false (by unfold Bl.figI; rw [if_neg (by omega), if_neg (by omega)]; omega)
                  have Hf := Bl.hid hf
                  have d1 : decide (48 ≤ c) = true := decide_eq_true (by omega)
                  have d2 : decide (c ≤ 57) = false := decide_eq_false (by omega)
                  have d3 : decide (97 ≤ c) = true := decide_eq_true (by omega)
                  have d4 : decide (c ≤ 102) = false := decide_eq_false (by omega)
                  clear hf
                  go_wp2_with ((with_reducible refine Bl.wpL_index (p := .string s) (v := .int .i64 k) ?_ ?_ (Hix.out _) ?_); rfl; rfl)
                  go_round
                  case rel => exact ⟨k + 1, by omega, by go_num, by rw [Hstep.out, Hf.out]; rfl⟩
                  case measure => simp [intOf]; omega
      · obtain rfl : k = s.size := by omega
        rw [Bl.okK_end]
        clear hok0
        cases hok : Bl.okB s with
        | true =>
          obtain ⟨hs64, hfig⟩ := Bl.okB_true hok
          have hUl : (Bl.unhexL (Bl.sb s)).length = 32 := Bl.unhexL_length 32 _ (by rw [Bl.sb_length, hs64])
          have hV : unhexV s (a 4) = .tuple #[.agg (Bl.ints .u8 (Bl.unhexL (Bl.sb s))).toArray, .nilIface] := by unfold unhexV; rw [if_pos hok]
          have hUs : Bl.bstr (Bl.hexs (Bl.unhexL (Bl.sb s))) = s := by rw [Bl.hexs_unhex 32 _ (by rw [Bl.sb_length, hs64]) (Bl.sb_byt s) hfig, Bl.bstr_sb]
          have hUb : Bl.Byt (Bl.unhexL (Bl.sb s)) := fun x hx => by
            obtain ⟨j, hj, rfl⟩ := List.getElem_of_mem hx
            have h := Bl.unhexL_get (Bl.sb s) j (by rw [Bl.sb_length]; omega)
            rw [List.getD_eq_getElem?_getD, List.getElem?_eq_getElem hj] at h
            simp only [Option.getD_some] at h
            have g : ∀ i, i < 64 → 0 ≤ Bl.figI ((Bl.sb s).getD i 0) := fun i hi => by
              rw [List.getD_eq_getElem?_getD, List.getElem?_eq_getElem (by rw [Bl.sb_length]; omega)]; exact hfig _ (List.getElem_mem _)
            have g1 := g (2 * j) (by omega)
            have g2 := g (2 * j + 1) (by omega)
            have g3 := (Bl.figI_ge ((Bl.sb s).getD (2 * j) 0)).2
            have g4 := (Bl.figI_ge ((Bl.sb s).getD (2 * j + 1) 0)).2
            rw [h]; omega
          generalize Bl.unhexL (Bl.sb s) = U at hUl hV hUs hUb
          have HUl := Bl.hid hUl
          have HV := Bl.hid hV
          have HUs := Bl.hid hUs
          have HUb := Bl.hid hUb
          clear hUl hV hUs hUb hok hs64 hfig
          go_wp2_with fail
          refine (unhex_any s W7 (a 4) ((He.out.ext HE7.out).cell 4 (HS.out 4 (by decide) (by decide))) (by omega)).mono ?_
          rintro e w8 ⟨rfl, hE8⟩
          rw [HV.out]
          have HE8 := Bl.hid (HE7.out.trans hE8)
          have HF9 := Bl.hid (fam_new w8 32 .u8 28 #[.int .u8 0, .int .u8 0, .int .u8 0, .int .u8 0, .int .u8 0, .int .u8 0, .int .u8 0, .int .u8 0, .int .u8 0, .int .u8 0, .int .u8 0, .int .u8 0, .int .u8 0, .int .u8 0, .int .u8 0, .int .u8 0, .int .u8 0, .int .u8 0, .int .u8 0, .int .u8 0, .int .u8 0, .int .u8 0, .int .u8 0, .int .u8 0, .int .u8 0, .int .u8 0, .int .u8 0, .int .u8 0, .int .u8 0, .int .u8 0, .int .u8 0, .int .u8 0] rfl)
          have Hst := Bl.hid (Bl.store_ints (P := Tryd.prog) (ty := 28) (k := .u8) (l := U) (n := 32) HF9.out.there (by kernel_rfl) HUl.out)
          have HE9 : Hid (Bl.Ext w8 ((w8.alloc (.cells #[.int .u8 0, .int .u8 0, .int .u8 0, .int .u8 0, .int .u8 0, .int .u8 0, .int .u8 0, .int .u8 0, .int .u8 0, .int .u8 0, .int .u8 0, .int .u8 0, .int .u8 0, .int .u8 0, .int .u8 0, .int .u8 0, .int .u8 0, .int .u8 0, .int .u8 0, .int .u8 0, .int .u8 0, .int .u8 0, .int .u8 0, .int .u8 0, .int .u8 0, .int .u8 0, .int .u8 0, .int .u8 0, .int .u8 0, .int .u8 0, .int .u8 0, .int .u8 0] 28)).setCells w8.heap.size 0 (Bl.ints .u8 U))) := Bl.hid (Bl.below_setCells _ _ _ _ (Bl.ext_alloc _ _) (Nat.le_refl _))
          have Hr9 : Hid (((w8.alloc (.cells #[.int .u8 0, .int .u8 0, .int .u8 0, .int .u8 0, .int .u8 0, .int .u8 0, .int .u8 0, .int .u8 0, .int .u8 0, .int .u8 0, .int .u8 0, .int .u8 0, .int .u8 0, .int .u8 0, .int .u8 0, .int .u8 0, .int .u8 0, .int .u8 0, .int .u8 0, .int .u8 0, .int .u8 0, .int .u8 0, .int .u8 0, .int .u8 0, .int .u8 0, .int .u8 0, .int .u8 0, .int .u8 0, .int .u8 0, .int .u8 0, .int .u8 0, .int .u8 0] 28)).setCells w8.heap.size 0 (Bl.ints .u8 U)).rangeAt w8.heap.size 0 (Bl.ints .u8 U)) := Bl.hid (World.rangeAt_setCells_same _ _ _ _ (by rw [Bl.ints_length, HUl.out]; exact HF9.out.there))
          clear hE8
          go_wp2_with (with_reducible refine Bl.stop_store (ty := 28) ?_)
          refine Bl.go_on ?_
          refine Bl.wpL_store0 rfl rfl Hst.out ?_
          generalize hWS : (w8.alloc (.cells #[.int .u8 0, .int .u8 0, .int .u8 0, .int .u8 0, .int .u8 0, .int .u8 0, .int .u8 0, .int .u8 0, .int .u8 0, .int .u8 0, .int .u8 0, .int .u8 0, .int .u8 0, .int .u8 0, .int .u8 0, .int .u8 0, .int .u8 0, .int .u8 0, .int .u8 0, .int .u8 0, .int .u8 0, .int .u8 0, .int .u8 0, .int .u8 0, .int .u8 0, .int .u8 0, .int .u8 0, .int .u8 0, .int .u8 0, .int .u8 0, .int .u8 0, .int .u8 0] 28)).setCells w8.heap.size 0 (Bl.ints .u8 U) = W9 at *
          clear hWS Hst HF9
          generalize w8.heap.size = s9 at *
          go_wp2_with (with_reducible refine Bl.stop_loadg (ty := 28) ?_)
          refine Bl.go_on ?_
          refine Bl.wpL_loadg rfl rfl (Bl.load_ints Hr9.out Tryd.underlying28 (by kernel_rfl) HUl.out) ?_
          go_wp2_with fail
          refine (hex_any U W9 HUl.out HUb.out).mono ?_
          rintro e w10 ⟨rfl, hE10⟩
          rw [HUs.out]
          have HE10 := Bl.hid ((HE8.out.trans HE9.out).trans hE10)
          clear hE10
          go_wp2_with fail
          go_ret
          exact ⟨rfl, HE10.out⟩
        | false =>
          have HV : Hid (unhexV s (a 4) = .tuple #[.agg (Bl.ints .u8 Bl.zs32).toArray, .iface 220 (.pointer (some (a 4)))]) := Bl.hid (by unfold unhexV; rw [hok]; rfl)
          have heqz : ∀ w, (Op.equalIn 10000 28 (.agg (Bl.ints .u8 Bl.zs32).toArray) (.agg #[.int .u8 0, .int .u8 0, .int .u8 0, .int .u8 0, .int .u8 0, .int .u8 0, .int .u8 0, .int .u8 0, .int .u8 0, .int .u8 0, .int .u8 0, .int .u8 0, .int .u8 0, .int .u8 0, .int .u8 0, .int .u8 0, .int .u8 0, .int .u8 0, .int .u8 0, .int .u8 0, .int .u8 0, .int .u8 0, .int .u8 0, .int .u8 0, .int .u8 0, .int .u8 0, .int .u8 0, .int .u8 0, .int .u8 0, .int .u8 0, .int .u8 0, .int .u8 0])).run Tryd.prog w = .ok true w := fun w =>
            Bl.eq10k_same Tryd.underlying28 Tryd.underlying5 (fun w => by simp [go_sem]) Bl.zs32 rfl w
          clear hok
          go_wp2_with fail
          refine (unhex_any s W7 (a 4) ((He.out.ext HE7.out).cell 4 (HS.out 4 (by decide) (by decide))) (by omega)).mono ?_
          rintro e w8 ⟨rfl, hE8⟩
          rw [HV.out]
          have HE8 := Bl.hid (HE7.out.trans hE8)
          have HF9 := Bl.hid (fam_new w8 32 .u8 28 #[.int .u8 0, .int .u8 0, .int .u8 0, .int .u8 0, .int .u8 0, .int .u8 0, .int .u8 0, .int .u8 0, .int .u8 0, .int .u8 0, .int .u8 0, .int .u8 0, .int .u8 0, .int .u8 0, .int .u8 0, .int .u8 0, .int .u8 0, .int .u8 0, .int .u8 0, .int .u8 0, .int .u8 0, .int .u8 0, .int .u8 0, .int .u8 0, .int .u8 0, .int .u8 0, .int .u8 0, .int .u8 0, .int .u8 0, .int .u8 0, .int .u8 0, .int .u8 0] rfl)
          have Hst := Bl.hid (Bl.store_ints (P := Tryd.prog) (ty := 28) (k := .u8) (l := Bl.zs32) (n := 32) HF9.out.there (by kernel_rfl) rfl)
          have HE9 : Hid (Bl.Ext w8 ((w8.alloc (.cells #[.int .u8 0, .int .u8 0, .int .u8 0, .int .u8 0, .int .u8 0, .int .u8 0, .int .u8 0, .int .u8 0, .int .u8 0, .int .u8 0, .int .u8 0, .int .u8 0, .int .u8 0, .int .u8 0, .int .u8 0, .int .u8 0, .int .u8 0, .int .u8 0, .int .u8 0, .int .u8 0, .int .u8 0, .int .u8 0, .int .u8 0, .int .u8 0, .int .u8 0, .int .u8 0, .int .u8 0, .int .u8 0, .int .u8 0, .int .u8 0, .int .u8 0, .int .u8 0] 28)).setCells w8.heap.size 0 (Bl.ints .u8 Bl.zs32))) := Bl.hid (Bl.below_setCells _ _ _ _ (Bl.ext_alloc _ _) (Nat.le_refl _))
          have Hr9 : Hid (((w8.alloc (.cells #[.int .u8 0, .int .u8 0, .int .u8 0, .int .u8 0, .int .u8 0, .int .u8 0, .int .u8 0, .int .u8 0, .int .u8 0, .int .u8 0, .int .u8 0, .int .u8 0, .int .u8 0, .int .u8 0, .int .u8 0, .int .u8 0, .int .u8 0, .int .u8 0, .int .u8 0, .int .u8 0, .int .u8 0, .int .u8 0, .int .u8 0, .int .u8 0, .int .u8 0, .int .u8 0, .int .u8 0, .int .u8 0, .int .u8 0, .int .u8 0, .int .u8 0, .int .u8 0] 28)).setCells w8.heap.size 0 (Bl.ints .u8 Bl.zs32)).rangeAt w8.heap.size 0 (Bl.ints .u8 Bl.zs32)) := Bl.hid (World.rangeAt_setCells_same _ _ _ _ (by rw [Bl.ints_length]; exact HF9.out.there))
          clear hE8
          go_wp2_with (with_reducible refine Bl.stop_store (ty := 28) ?_)
          refine Bl.go_on ?_
          refine Bl.wpL_store0 rfl rfl Hst.out ?_
          generalize hWS : (w8.alloc (.cells #[.int .u8 0, .int .u8 0, .int .u8 0, .int .u8 0, .int .u8 0, .int .u8 0, .int .u8 0, .int .u8 0, .int .u8 0, .int .u8 0, .int .u8 0, .int .u8 0, .int .u8 0, .int .u8 0, .int .u8 0, .int .u8 0, .int .u8 0, .int .u8 0, .int .u8 0, .int .u8 0, .int .u8 0, .int .u8 0, .int .u8 0, .int .u8 0, .int .u8 0, .int .u8 0, .int .u8 0, .int .u8 0, .int .u8 0, .int .u8 0, .int .u8 0, .int .u8 0] 28)).setCells w8.heap.size 0 (Bl.ints .u8 Bl.zs32) = W9 at *
          clear hWS Hst HF9
          have HE89 := Bl.hid (HE8.out.trans HE9.out)
          generalize w8.heap.size = s9 at *
          go_wp2_with (with_reducible refine Bl.stop_load (ty := 28) ?_)
          refine Bl.go_on ?_
          refine Bl.wpL_load rfl (Bl.load_ints Hr9.out Tryd.underlying28 (by kernel_rfl) rfl) ?_
          go_wp2_with fail
          refine (num_any S a W9 4 HS.out (He.out.ext HE89.out) (by decide) (by decide)).mono ?_
          rintro e w10 ⟨rfl, hE10⟩
          have HE10 := Bl.hid (HE89.out.trans hE10)
          clear hE10
          go_wp2_with fail
          go_ret
          exact ⟨rfl, HE10.out⟩
end Go.Proofs.YtdodgcapihfkkaaDoor

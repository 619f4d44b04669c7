/- Walks of sha.figure, Unhex, Zero, Less, baileeref07.Hex. -/
import Derived.Test.YtdodgcapihfkkaaDoorTexts
import Derived.Test.YtdodgcapihfkkaaDoorShelf
import Derived.Test.YtdodgcapihfkkaaDoorDigs
import Derived.Test.YtdodgcapihfkkaaDoorWTree1
namespace Go.Proofs.Bl
open Go Go.RowKit
theorem ext_one (x : Int) (h0 : 0 ≤ x) (h1 : x ≤ 15) : (⟨#[48, 49, 50, 51, 52, 53, 54, 55, 56, 57, 97, 98, 99, 100, 101, 102]⟩ : ByteArray).extract x.toNat (x + 1).toNat = bstr [fig x] := by
  obtain ⟨n, rfl⟩ := Int.eq_ofNat_of_zero_le h0
  have h3 : n = 0 ∨ n = 1 ∨ n = 2 ∨ n = 3 ∨ n = 4 ∨ n = 5 ∨ n = 6 ∨ n = 7 ∨ n = 8 ∨ n = 9 ∨ n = 10 ∨ n = 11 ∨ n = 12 ∨ n = 13 ∨ n = 14 ∨ n = 15 := by omega
  rcases h3 with rfl | rfl | rfl | rfl | rfl | rfl | rfl | rfl | rfl | rfl | rfl | rfl | rfl | rfl | rfl | rfl <;> rfl
theorem bstr_hex2 (x : Int) : bstr [fig (x / 16)] ++ bstr [fig (x % 16)] = bstr (hex2 x) := bstr_append _ _
end Go.Proofs.Bl
namespace Go.Proofs.YtdodgcapihfkkaaDoor
open Go.RowKit Go.Proofs

theorem figure_any (c : Int) (w : World) (h0 : 0 ≤ c) (h1 : c ≤ 255) :
    Calls Tryd.prog 108 #[.int .u8 c] w fun e w' => e = .returned (.int .i64 (Bl.figI c)) ∧ w = w' := by
  have H := Bl.hid (Bl.figI_lib c h0 h1)
  go_enter Tryd.func108, Tryd.ntmps108
  go_wp2_with fail
  refine (Tryd.strings_IndexByte _ _ _).mono ?_
  rintro e w' ⟨rfl, hw'⟩
  subst hw'
  rw [H.out]
  go_wp2_with fail
  go_ret
  exact ⟨rfl, rfl⟩

set_option maxRecDepth 100000 in
theorem zero_any (d : List Int) (w : World) (hl : d.length = 32) :
    Calls Tryd.prog 43 #[.agg (Bl.ints .u8 d).toArray] w fun e w' => e = .returned (.bool (decide (d = Bl.zs32))) ∧ Bl.Ext w w' := by
  have Hl := Bl.hid hl
  have hr := Bl.range_box w d 28
  have Hld := Bl.hid (Bl.load_ints (P := Tryd.prog) (ty := 28) hr Tryd.underlying28 (by kernel_rfl) hl)
  have HE : Hid (Bl.Ext w (w.alloc (.cells (Bl.ints .u8 d).toArray 28))) := Bl.hid (Bl.ext_alloc _ _)
  have heq : ∀ w, (Op.equalIn 10000 28 (.agg (Bl.ints .u8 d).toArray) (.agg #[.int .u8 0, .int .u8 0, .int .u8 0, .int .u8 0, .int .u8 0, .int .u8 0, .int .u8 0, .int .u8 0, .int .u8 0, .int .u8 0, .int .u8 0, .int .u8 0, .int .u8 0, .int .u8 0, .int .u8 0, .int .u8 0, .int .u8 0, .int .u8 0, .int .u8 0, .int .u8 0, .int .u8 0, .int .u8 0, .int .u8 0, .int .u8 0, .int .u8 0, .int .u8 0, .int .u8 0, .int .u8 0, .int .u8 0, .int .u8 0, .int .u8 0, .int .u8 0])).run Tryd.prog w = .ok (decide (d = Bl.zs32)) w := fun w =>
    Bl.eq10k Tryd.underlying28 Tryd.underlying5 (fun w => by simp [go_sem]) d Bl.zs32 Hl.out rfl w
  clear hr hl
  go_enter Tryd.func43, Tryd.ntmps43
  go_wp2_with ((with_reducible refine Bl.wpL_load ?_ Hld.out ?_); rfl)
  go_ret
  exact ⟨rfl, HE.out⟩

set_option maxRecDepth 100000 in
theorem less_any (d d2 : List Int) (w : World) (hl : d.length = 32) (hl2 : d2.length = 32) :
    Calls Tryd.prog 44 #[.agg (Bl.ints .u8 d).toArray, .agg (Bl.ints .u8 d2).toArray] w fun e w' => e = .returned (.bool (Op.bytesLess (Bl.bstr d).toList (Bl.bstr d2).toList)) ∧ Bl.Ext w w' := by
  have h1 := Bl.rangeAt_ext (Bl.range_box w d 28) (Bl.ext_alloc _ (.cells (Bl.ints .u8 d2).toArray 28))
  have h2 := Bl.range_box (w.alloc (.cells (Bl.ints .u8 d).toArray 28)) d2 28
  rw [World.size_alloc] at h2
  have HE : Hid (Bl.Ext w ((w.alloc (.cells (Bl.ints .u8 d).toArray 28)).alloc (.cells (Bl.ints .u8 d2).toArray 28))) := Bl.hid ((Bl.ext_alloc _ _).trans (Bl.ext_alloc _ _))
  go_enter Tryd.func44, Tryd.ntmps44
  go_wp2_with fail
  generalize (w.alloc (.cells (Bl.ints .u8 d).toArray 28)).alloc (.cells (Bl.ints .u8 d2).toArray 28) = W at h1 h2 HE ⊢
  have HR1 : Hid (∀ w2, Bl.Ext W w2 → Bl.Rd w2 .u8 (.slice (some ⟨w.heap.size, 0, none⟩) 32 32) d) := Bl.hid fun w2 h => (Bl.rd_box h1 hl (by decide)).ext h
  have HR2 : Hid (∀ w2, Bl.Ext W w2 → Bl.Rd w2 .u8 (.slice (some ⟨w.heap.size + 1, 0, none⟩) 32 32) d2) := Bl.hid fun w2 h => (Bl.rd_box h2 hl2 (by decide)).ext h
  have HC : Hid (∀ w2, Bl.Ext W w2 → Calls Tryd.prog 109 #[.slice (some ⟨w.heap.size, 0, none⟩) 32 32, .slice (some ⟨w.heap.size + 1, 0, none⟩) 32 32] w2 fun e w' => e = .returned (.int .i64 (Extern.BytealgCompare.cmp (Bl.bstr d) (Bl.bstr d2))) ∧ w2 = w') := Bl.hid fun w2 h => by
    have e1 := Bl.bytesOf_rd (P := Tryd.prog) (HR1.out w2 h)
    have e2 := Bl.bytesOf_rd (P := Tryd.prog) (HR2.out w2 h)
    have hrun : (Extern.BytealgCompare.compare #[.slice (some ⟨w.heap.size, 0, none⟩) 32 32, .slice (some ⟨w.heap.size + 1, 0, none⟩) 32 32]).run Tryd.prog w2 = .ok (.int .i64 (Extern.BytealgCompare.cmp (Bl.bstr d) (Bl.bstr d2))) w2 := by
      have h0 : ∀ va vb, Extern.BytealgCompare.compare #[va, vb] = (do pure (goInt (Extern.BytealgCompare.cmp (← Extern.Bytes.bytesOf va) (← Extern.Bytes.bytesOf vb)))) := fun _ _ => rfl
      rw [h0]
      simp only [Sem.run_bind, e1, e2, Result.andThen_ok]
      rfl
    clear e1 e2 h
    go_enter Tryd.func109, Tryd.ntmps109
    go_wp2_with fail
    rw [run_callFunc_extern Tryd.func138 (by kernel_rfl) (by kernel_rfl) (by kernel_rfl) (e := Extern.BytealgCompare.compare) (by kernel_rfl), hrun]
    simp only [Result.andThen]
    rw [Oper.upon_value]
    go_wp2_with fail
    go_ret
    exact ⟨rfl, rfl⟩
  have Hcl := Bl.hid (Bl.cmp_less d d2 (by rw [hl, hl2]))
  clear h1 h2 hl hl2
  obtain ⟨z, hz⟩ : ∃ z, z = Extern.BytealgCompare.cmp (Bl.bstr d) (Bl.bstr d2) := ⟨_, rfl⟩
  rw [← hz] at HC Hcl
  clear hz
  apply Bl.wp_region_ev 4 [5, 6, 7, 8] [Bl.eqv _, Bl.eqv _, Bl.eqv _, Bl.eqv _] (by kernel_rfl) (by kernel_rfl) (by kernel_rfl) (by kernel_rfl)
  case hsteps =>
    refine ⟨?_, ?_, ?_, ?_, trivial⟩
    all_goals
      intro ev w1 hext hb hd
      have e2 := hb 2 (by decide)
      have e3 := hb 3 (by decide)
      clear hb
      simp only [Array.getD_eq_getD_getElem?, List.getElem?_toArray, List.getElem?_cons_succ, List.getElem?_cons_zero, Option.getD_some] at e2 e3
      simp only [Bl.DepsE, List.getElem?_cons_succ, List.getElem?_cons_zero, Option.bind_some, List.getD_cons_succ, List.getD_cons_zero, Bl.eqv, and_true] at hd
      have hc := (Bl.bcell hext).1
      simp only [Bl.Good, Region.wanted, if_true]
      go_simp
      first | (go_at_call 109; (with_reducible refine (HC.out _ hext).mono ?_); rintro e w2 ⟨rfl, hw2⟩; exact ⟨_, rfl, by rw [← hw2]; exact Below.refl _ _, rfl⟩) | exact ⟨Below.refl _ _, rfl⟩
  case hmono => exact ⟨Bl.mono_eqv _, Bl.mono_eqv _, Bl.mono_eqv _, Bl.mono_eqv _, trivial⟩
  case hend =>
    intro u w1 hext hend
    simp only [Bl.EndE, List.getElem?_cons_succ, List.getElem?_cons_zero, Option.bind_some, List.getD_cons_succ, List.getD_cons_zero, Bl.eqv, true_and] at hend
    simp only [Bl.fillAct, List.setIfInBounds_toArray, List.set_cons_succ, List.set_cons_zero, List.drop_succ_cons, List.drop_zero, hend]
    have HEf := Bl.hid (HE.out.trans hext)
    clear hext hend
    go_wp2_with fail
    go_ret
    exact ⟨by rw [← Hcl.out]; rfl, HEf.out⟩

set_option maxRecDepth 100000 in
set_option maxHeartbeats 400000 in
theorem refhex_any (d : List Int) (w : World) (hl : d.length = 32) (hby : Bl.Byt d) :
    Calls Tryd.prog 42 #[.agg (Bl.ints .u8 d).toArray] w fun e w' => e = .returned (.string (Bl.bstr (Bl.hexs d))) ∧ Bl.Ext w w' := by
  have Hby := Bl.hid hby
  have Hl := Bl.hid hl
  have hr := Bl.range_box w d 26
  have Hld := Bl.hid (Bl.load_ints (P := Tryd.prog) (ty := 26) hr Tryd.underlying26 (by kernel_rfl) hl)
  have HE : Hid (Bl.Ext w (w.alloc (.cells (Bl.ints .u8 d).toArray 26))) := Bl.hid (Bl.ext_alloc _ _)
  clear hby hl hr
  go_enter Tryd.func42, Tryd.ntmps42
  go_wp2_with ((with_reducible refine Bl.wpL_load ?_ Hld.out ?_); rfl)
  clear Hld
  generalize w.alloc (.cells (Bl.ints .u8 d).toArray 26) = W at HE ⊢
  go_loopw [4, 8] (fun e i wr => ∃ k : Nat, i = .int .i64 k ∧ k ≤ 32 ∧ e = .string (Bl.bstr (Bl.hexs (d.take k))) ∧ Bl.Ext W wr) (fun _ i _ => 32 - (intOf i).toNat)
  case atStart => exact ⟨0, rfl, by omega, rfl, Below.refl _ _⟩
  case round =>
    obtain ⟨k, rfl, hk, rfl, hE⟩ := hrel
    have HEr := Bl.hid hE
    clear hE
    by_cases hlt : k < 32
    · obtain ⟨x, hx⟩ : ∃ x, x = d.getD k 0 := ⟨_, rfl⟩
      obtain ⟨hx0, hx1⟩ : 0 ≤ x ∧ x ≤ 255 := by rw [hx]; exact Hby.out.get _
      have hix := Bl.index_ints (P := Tryd.prog) (w := wr) (ty := 26) (k := .u8) (l := d) (i := k) Tryd.underlying26 (fun w => by simp [go_sem]) (fun w => by simp [go_sem]) Hl.out hlt
      rw [← hx] at hix
      have Hix := Bl.hid hix
      have hsz : (Bl.hexs (d.take k)).length ≤ 64 := by rw [Bl.hexs_length, List.length_take]; omega
      have Htk : Hid (Bl.hexs (d.take (k + 1)) = Bl.hexs (d.take k) ++ Bl.hex2 x) := Bl.hid (by rw [Bl.hexs_take d k (by rw [Hl.out]; exact hlt), ← hx])
      obtain ⟨h, hh⟩ : ∃ h, h = Bl.hexs (d.take k) := ⟨_, rfl⟩
      rw [← hh] at Htk hsz ⊢
      have hb1 : (0 : Int) ≤ x / 16 := by omega
      have hb2 : x / 16 ≤ 15 := by omega
      have hb3 : (0 : Int) ≤ x % 16 := by omega
      have hb4 : x % 16 ≤ 15 := by omega
      have hx1e := Bl.ext_one (x / 16) hb1 hb2
      have hx2e := Bl.ext_one (x % 16) hb3 hb4
      have hs1 : (Bl.bstr [Bl.fig (x / 16)]).size = 1 := by rw [Bl.bstr_size]; rfl
      have hs2 : (Bl.bstr [Bl.fig (x % 16)]).size = 1 := by rw [Bl.bstr_size]; rfl
      have hs3 : (Bl.bstr h).size = h.length := Bl.bstr_size h
      have happ := Bl.bstr_hex2 x
      have hs4 : (Bl.bstr (Bl.hex2 x)).size = 2 := by rw [Bl.bstr_size]; rfl
      clear hix hx hh
      go_wp2_with ((with_reducible refine Bl.wpL_index (p := .agg (Bl.ints .u8 d).toArray) (v := .int .i64 k) ?_ ?_ Hix.out ?_); rfl; rfl)
      go_quiet (fail)
      go_wp2_with fail
      go_roundw
      case rel => exact ⟨k + 1, by go_num, by omega, by rw [Htk.out, ← Bl.bstr_append], HEr.out.trans ((Below.refl _ _).drewN _)⟩
      case measure => simp [intOf]; omega
    · obtain rfl : k = 32 := by omega
      rw [List.take_of_length_le (by rw [Hl.out]; exact Nat.le_refl _)]
      go_wp2_with fail
      go_ret
      exact ⟨rfl, HE.out.trans HEr.out⟩
end Go.Proofs.YtdodgcapihfkkaaDoor

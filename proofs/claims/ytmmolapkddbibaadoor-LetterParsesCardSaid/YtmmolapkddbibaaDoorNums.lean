/- Texts that stood apart, in one: Is, WNum, WNumN, WEnumP, WEnum. -/
import Derived.Test.YtmmolapkddbibaaDoorChecked
import Derived.WalkKit
import Derived.LaidEql
import Derived.Stop.Asserts
import Derived.RowKitTokens
import Derived.Test.YtmmolapkddbibaaDoorErrs
import Derived.Test.YtmmolapkddbibaaDoorZs
import Derived.Test.YtmmolapkddbibaaDoorShaP
import Derived.Test.YtmmolapkddbibaaDoorLib0
import Derived.Test.YtmmolapkddbibaaDoorTys
/- errors.Is by its contracts, where the target is a sentinel of errors.New's make: turned from the guide's worked text SentryIs. -/
namespace Go.Proofs.YtmmolapkddbibaaDoor
open Go.RowKit Go.Extern.Stop Go.Stop Go.Extern

/-! ### closed facts: what 'reflectlite.TypeOf(target).Comparable()' gives at such a target -/
theorem isTypeOf (v : Value) (w : World) : (Extern.ReflectliteType.typeOf #[.iface 137 v]).run Tryd.prog w = .ok (.iface 125 (.agg #[.pointer (some ⟨22, 137, none⟩)])) w := by kernel_rfl
def cmpE : Array Value → Sem Value := Extern.ReflectliteType.method fun t => do Extern.Rtype.noPackHeld "Comparable" t; pure (.bool (← typeInfo t).comparable)
theorem isComparable (w : World) : (cmpE #[.agg #[.pointer (some ⟨22, 137, none⟩)]]).run Tryd.prog w = .ok (.bool true) w := by kernel_rfl
theorem isMethodComparable (v : Value) (w : World) : (Go.method 275 125 v "Comparable").run Tryd.prog w = .ok (106, v) w := by kernel_rfl
theorem isComp : (Tryd.prog.info? 137).map (·.comparable) = some true := by kernel_rfl
theorem isSize : (Tryd.prog.info? 163).map (·.size) = some 1 := by kernel_rfl

/-! ### closed facts on the method sets: what errors.is's assertions find -/
theorem noIsE (v : Value) (xT : TypeId) (w : World) : (Instr.typeAssert (.iface 137 v) xT 127 true).run Tryd.prog w = .ok (.tuple #[.nilIface, .bool false]) w := run_typeAssert_lacksB Tryd.underlying127 (by kernel_rfl) (by kernel_rfl) v xT w
theorem noUnwrapE (v : Value) (xT : TypeId) (w : World) : (Instr.typeAssert (.iface 137 v) xT 130 true).run Tryd.prog w = .ok (.tuple #[.nilIface, .bool false]) w := run_typeAssert_lacksB Tryd.underlying130 (by kernel_rfl) (by kernel_rfl) v xT w
theorem noUnwrapsE (v : Value) (xT : TypeId) (w : World) : (Instr.typeAssert (.iface 137 v) xT 132 true).run Tryd.prog w = .ok (.tuple #[.nilIface, .bool false]) w := run_typeAssert_lacksB Tryd.underlying132 (by kernel_rfl) (by kernel_rfl) v xT w

set_option maxRecDepth 100000 in
/-- errors.Is(x, x), x a pointer to an errors.errorString. -/
theorem is_same (a : Addr) (w : World) :
    Calls Tryd.prog 44 #[.iface 137 (.pointer (some a)), .iface 137 (.pointer (some a))] w fun e w' => e = .returned (.bool true) ∧ w' = w := by
  obtain ⟨i, hi, hcmp⟩ := Option.map_eq_some_iff.1 isComp
  obtain ⟨j, hj, hjs⟩ := Option.map_eq_some_iff.1 isSize
  have h8 := @run_callFunc_extern Tryd.prog 67 _ Extern.ReflectliteType.typeOf Tryd.func67 (by kernel_rfl) (by kernel_rfl) (by kernel_rfl) (by kernel_rfl)
  have h32 := @run_callFunc_extern Tryd.prog 106 _ cmpE Tryd.func106 (by kernel_rfl) (by kernel_rfl) (by kernel_rfl) (by kernel_rfl)
  have tT := isTypeOf
  have cT := isComparable
  have mR := isMethodComparable
  have heq := run_eql_iface_ptr_same (P := Tryd.prog) w a Tryd.underlying48 Tryd.underlying137 hi hcmp hj
  go_enter Tryd.func44, Tryd.ntmps44
  go_wp2
  refine wp_loop_rounds 1 ?_
  rw [rounds_succ]
  go_wp2
  go_ret
  exact ⟨rfl, rfl⟩

set_option maxRecDepth 100000 in
/-- errors.Is(x, y), two different pointers to errors.errorString: neither has Is nor Unwrap: false. -/
theorem is_other (a b : Addr) (ca cb : Array Value) (ta tb : TypeId) (w : World) (hne : a ≠ b) (ha : w.heap[a.block]? = some (.cells ca ta (0, 0))) (hb : w.heap[b.block]? = some (.cells cb tb (0, 0))) :
    Calls Tryd.prog 44 #[.iface 137 (.pointer (some a)), .iface 137 (.pointer (some b))] w fun e w' => e = .returned (.bool false) ∧ w' = w := by
  obtain ⟨i, hi, hcmp⟩ := Option.map_eq_some_iff.1 isComp
  obtain ⟨j, hj, hjs⟩ := Option.map_eq_some_iff.1 isSize
  have h8 := @run_callFunc_extern Tryd.prog 67 _ Extern.ReflectliteType.typeOf Tryd.func67 (by kernel_rfl) (by kernel_rfl) (by kernel_rfl) (by kernel_rfl)
  have h32 := @run_callFunc_extern Tryd.prog 106 _ cmpE Tryd.func106 (by kernel_rfl) (by kernel_rfl) (by kernel_rfl) (by kernel_rfl)
  have tT := isTypeOf
  have cT := isComparable
  have mR := isMethodComparable
  have nE := noIsE
  have uE := noUnwrapE
  have vE := noUnwrapsE
  have heq := run_eql_iface_ptr_other (P := Tryd.prog) w Tryd.underlying48 Tryd.underlying137 hi hcmp hj (by rw [hjs]; decide) hne ha hb
  go_enter Tryd.func44, Tryd.ntmps44
  go_wp2
  refine wp_loop_rounds 1 ?_
  rw [rounds_succ]
  go_wp2
  go_ret
  exact ⟨rfl, rfl⟩
end Go.Proofs.YtmmolapkddbibaaDoor

/- Walk of baileenum.Num. -/
namespace Go.Proofs.YtmmolapkddbibaaDoor
open Go.RowKit Go.Proofs

theorem num_nil (w : World) : Calls Tryd.prog 20 #[.nilIface] w fun e w' => e = .returned (.int .i64 0) ∧ w' = w := by
  go_enter Tryd.func20, Tryd.ntmps20
  go_wp2
  go_ret
  exact ⟨rfl, rfl⟩

set_option maxRecDepth 100000 in
set_option maxHeartbeats 1000000 in
theorem num_any (S : List Nat) (a : Nat → Addr) (w : World) (m : Nat) (hS : ∀ i, 1 ≤ i → i ≤ 20 → i ∈ S) (he : Errs S a w) (h1 : 1 ≤ m) (h2 : m ≤ 20) :
    Calls Tryd.prog 20 #[.iface 137 (.pointer (some (a m)))] w fun e w' => e = .returned (.int .i64 m) ∧ Bl.Ext w w' := by
  have c1 : w.cell? ⟨2, 0, none⟩ = some (.iface 137 (.pointer (some (a 1)))) := he.cell 1 (hS 1 (by decide) (by decide))
  have c2 : w.cell? ⟨3, 0, none⟩ = some (.iface 137 (.pointer (some (a 2)))) := he.cell 2 (hS 2 (by decide) (by decide))
  have c3 : w.cell? ⟨4, 0, none⟩ = some (.iface 137 (.pointer (some (a 3)))) := he.cell 3 (hS 3 (by decide) (by decide))
  have c4 : w.cell? ⟨5, 0, none⟩ = some (.iface 137 (.pointer (some (a 4)))) := he.cell 4 (hS 4 (by decide) (by decide))
  have c5 : w.cell? ⟨6, 0, none⟩ = some (.iface 137 (.pointer (some (a 5)))) := he.cell 5 (hS 5 (by decide) (by decide))
  have c6 : w.cell? ⟨7, 0, none⟩ = some (.iface 137 (.pointer (some (a 6)))) := he.cell 6 (hS 6 (by decide) (by decide))
  have c7 : w.cell? ⟨8, 0, none⟩ = some (.iface 137 (.pointer (some (a 7)))) := he.cell 7 (hS 7 (by decide) (by decide))
  have c8 : w.cell? ⟨9, 0, none⟩ = some (.iface 137 (.pointer (some (a 8)))) := he.cell 8 (hS 8 (by decide) (by decide))
  have c9 : w.cell? ⟨10, 0, none⟩ = some (.iface 137 (.pointer (some (a 9)))) := he.cell 9 (hS 9 (by decide) (by decide))
  have c10 : w.cell? ⟨11, 0, none⟩ = some (.iface 137 (.pointer (some (a 10)))) := he.cell 10 (hS 10 (by decide) (by decide))
  have c11 : w.cell? ⟨12, 0, none⟩ = some (.iface 137 (.pointer (some (a 11)))) := he.cell 11 (hS 11 (by decide) (by decide))
  have c12 : w.cell? ⟨13, 0, none⟩ = some (.iface 137 (.pointer (some (a 12)))) := he.cell 12 (hS 12 (by decide) (by decide))
  have c13 : w.cell? ⟨14, 0, none⟩ = some (.iface 137 (.pointer (some (a 13)))) := he.cell 13 (hS 13 (by decide) (by decide))
  have c14 : w.cell? ⟨15, 0, none⟩ = some (.iface 137 (.pointer (some (a 14)))) := he.cell 14 (hS 14 (by decide) (by decide))
  have c15 : w.cell? ⟨16, 0, none⟩ = some (.iface 137 (.pointer (some (a 15)))) := he.cell 15 (hS 15 (by decide) (by decide))
  have c16 : w.cell? ⟨17, 0, none⟩ = some (.iface 137 (.pointer (some (a 16)))) := he.cell 16 (hS 16 (by decide) (by decide))
  have c17 : w.cell? ⟨18, 0, none⟩ = some (.iface 137 (.pointer (some (a 17)))) := he.cell 17 (hS 17 (by decide) (by decide))
  have c18 : w.cell? ⟨19, 0, none⟩ = some (.iface 137 (.pointer (some (a 18)))) := he.cell 18 (hS 18 (by decide) (by decide))
  have c19 : w.cell? ⟨20, 0, none⟩ = some (.iface 137 (.pointer (some (a 19)))) := he.cell 19 (hS 19 (by decide) (by decide))
  have c20 : w.cell? ⟨21, 0, none⟩ = some (.iface 137 (.pointer (some (a 20)))) := he.cell 20 (hS 20 (by decide) (by decide))
  have HS := Bl.hid hS
  have He := Bl.hid he
  clear hS he
  have HL : Hid (∀ k, k < 20 → (w.alloc (.cells #[.iface 137 (.pointer (some (a 1))), .iface 137 (.pointer (some (a 2))), .iface 137 (.pointer (some (a 3))), .iface 137 (.pointer (some (a 4))), .iface 137 (.pointer (some (a 5))), .iface 137 (.pointer (some (a 6))), .iface 137 (.pointer (some (a 7))), .iface 137 (.pointer (some (a 8))), .iface 137 (.pointer (some (a 9))), .iface 137 (.pointer (some (a 10))), .iface 137 (.pointer (some (a 11))), .iface 137 (.pointer (some (a 12))), .iface 137 (.pointer (some (a 13))), .iface 137 (.pointer (some (a 14))), .iface 137 (.pointer (some (a 15))), .iface 137 (.pointer (some (a 16))), .iface 137 (.pointer (some (a 17))), .iface 137 (.pointer (some (a 18))), .iface 137 (.pointer (some (a 19))), .iface 137 (.pointer (some (a 20)))] 48)).cell? ⟨w.heap.size, k, none⟩ = some (.iface 137 (.pointer (some (a (k + 1)))))) := Bl.hid fun k hk => by
    rw [World.cell?_alloc_new]
    have h : k = 0 ∨ k = 1 ∨ k = 2 ∨ k = 3 ∨ k = 4 ∨ k = 5 ∨ k = 6 ∨ k = 7 ∨ k = 8 ∨ k = 9 ∨ k = 10 ∨ k = 11 ∨ k = 12 ∨ k = 13 ∨ k = 14 ∨ k = 15 ∨ k = 16 ∨ k = 17 ∨ k = 18 ∨ k = 19 := by omega
    rcases h with rfl | rfl | rfl | rfl | rfl | rfl | rfl | rfl | rfl | rfl | rfl | rfl | rfl | rfl | rfl | rfl | rfl | rfl | rfl | rfl <;> rfl
  have HE : Hid (Bl.Ext w (w.alloc (.cells #[.iface 137 (.pointer (some (a 1))), .iface 137 (.pointer (some (a 2))), .iface 137 (.pointer (some (a 3))), .iface 137 (.pointer (some (a 4))), .iface 137 (.pointer (some (a 5))), .iface 137 (.pointer (some (a 6))), .iface 137 (.pointer (some (a 7))), .iface 137 (.pointer (some (a 8))), .iface 137 (.pointer (some (a 9))), .iface 137 (.pointer (some (a 10))), .iface 137 (.pointer (some (a 11))), .iface 137 (.pointer (some (a 12))), .iface 137 (.pointer (some (a 13))), .iface 137 (.pointer (some (a 14))), .iface 137 (.pointer (some (a 15))), .iface 137 (.pointer (some (a 16))), .iface 137 (.pointer (some (a 17))), .iface 137 (.pointer (some (a 18))), .iface 137 (.pointer (some (a 19))), .iface 137 (.pointer (some (a 20)))] 48))) := Bl.hid (Bl.ext_alloc _ _)
  go_enter Tryd.func20, Tryd.ntmps20
  go_wp2_with fail
  obtain ⟨W, hW⟩ : ∃ W, W = w.alloc (.cells #[.iface 137 (.pointer (some (a 1))), .iface 137 (.pointer (some (a 2))), .iface 137 (.pointer (some (a 3))), .iface 137 (.pointer (some (a 4))), .iface 137 (.pointer (some (a 5))), .iface 137 (.pointer (some (a 6))), .iface 137 (.pointer (some (a 7))), .iface 137 (.pointer (some (a 8))), .iface 137 (.pointer (some (a 9))), .iface 137 (.pointer (some (a 10))), .iface 137 (.pointer (some (a 11))), .iface 137 (.pointer (some (a 12))), .iface 137 (.pointer (some (a 13))), .iface 137 (.pointer (some (a 14))), .iface 137 (.pointer (some (a 15))), .iface 137 (.pointer (some (a 16))), .iface 137 (.pointer (some (a 17))), .iface 137 (.pointer (some (a 18))), .iface 137 (.pointer (some (a 19))), .iface 137 (.pointer (some (a 20)))] 48) := ⟨_, rfl⟩
  rw [← hW] at HL HE ⊢
  clear hW c1 c2 c3 c4 c5 c6 c7 c8 c9 c10 c11 c12 c13 c14 c15 c16 c17 c18 c19 c20
  go_loop [31] (fun i => ∃ k : Nat, k < m ∧ i = .int .i64 k) (fun i => 20 - (intOf i).toNat)
  case atStart => exact ⟨0, by omega, rfl⟩
  case round =>
    obtain ⟨k, hk, rfl⟩ := hrel
    have hc := HL.out k (by omega)
    have hk20 : (k : Int) < 20 := by omega
    by_cases hkm : k + 1 = m
    · rw [hkm] at hc
      go_wp2_with fail
      refine (is_same (a m) _).mono ?_
      rintro e w' ⟨rfl, hw'⟩
      subst hw'
      go_wp2_with fail
      go_ret
      exact ⟨by rw [← hkm]; rfl, HE.out⟩
    · obtain ⟨ca, ta, hra⟩ := (He.out.ext HE.out).row m (HS.out m h1 h2)
      obtain ⟨cb, tb, hrb⟩ := (He.out.ext HE.out).row (k + 1) (HS.out _ (by omega) (by omega))
      have Hio := Bl.hid (is_other (a m) (a (k + 1)) ca cb ta tb _ (He.out.ne m (HS.out m h1 h2) (k + 1) (HS.out _ (by omega) (by omega)) (fun q => hkm q.symm)) hra hrb)
      clear hra hrb
      go_wp2_with fail
      refine Hio.out.mono ?_
      rintro e w' ⟨rfl, hw'⟩
      subst hw'
      go_wp2_with fail
      go_round
      case rel => exact ⟨k + 1, by omega, by go_num⟩
      case measure => simp [intOf]; omega
end Go.Proofs.YtmmolapkddbibaaDoor

/- baileenum.Num of nil or a sentinel. -/
namespace Go.Proofs.YtmmolapkddbibaaDoor
open Go.RowKit Go.Proofs
theorem num_errN (S : List Nat) (a : Nat → Addr) (w : World) (m : Nat) (hS : ∀ i, 1 ≤ i → i ≤ 20 → i ∈ S) (he : Errs S a w) (h2 : m ≤ 20) :
    Calls Tryd.prog 20 #[errN a m] w fun e w' => e = .returned (.int .i64 m) ∧ Bl.Ext w w' := by
  by_cases h : m = 0
  · subst h
    exact (num_nil w).mono fun _ _ ⟨h1, h2⟩ => ⟨h1, by rw [h2]; exact Below.refl _ _⟩
  · rw [errN_pos a m h]
    exact num_any S a w m hS he (by omega) h2
end Go.Proofs.YtmmolapkddbibaaDoor

/- Walks of baileenum.Bytes and Kept. The plain part. -/
namespace Go.Proofs.Bl
open Go Go.RowKit

theorem marks_get (a : List Int) (k : Nat) (h : k < 6) : (a ++ marks).getD (a.length + k) 0 = 201 + (k : Int) := by
  rw [List.getD_eq_getElem?_getD, List.getElem?_append_right (by omega), Nat.add_sub_cancel_left]
  match k, h with
  | 0, _ => rfl
  | 1, _ => rfl
  | 2, _ => rfl
  | 3, _ => rfl
  | 4, _ => rfl
  | 5, _ => rfl
theorem make_none {P : Program} {t e : TypeId} {z : Value} {size bytes : Nat} (hT : SlT P t e z size bytes) (c : Nat) (hb : bytes * c ≤ 281474976710656) (hm : c ≤ maxLen) (w : World) :
    ∃ w', (Instr.makeSlice t (.int .i64 0) (.int .i64 (c : Int))).run P w = .ok (.slice (some ⟨w.heap.size, 0, none⟩) 0 c) w' ∧
      w'.ownsRow w.heap.size e size (.slice (some ⟨w.heap.size, 0, none⟩) 0 c) 0 [] ∧ Ext w w' := by
  obtain ⟨i, hi, hz, hs1, hb1⟩ := info_parts hT.info
  obtain ⟨w', h1, h2, h3⟩ := run_make_own (P := P) w w.heap.size t e i z size hT.ht hi hz hs1 .i64 .i64 c (by rw [hb1]; exact hb) hm (Nat.le_refl _)
  exact ⟨w', h1, h2, (Below.refl w.heap.size w).grown h3 (Nat.le_refl _) (fun k hk => by cases hk)⟩
end Go.Proofs.Bl

/- Walks of baileenum.Bytes and Kept. -/
namespace Go.Proofs.YtmmolapkddbibaaDoor
open Go.RowKit Go.Proofs

set_option maxRecDepth 100000 in
set_option maxHeartbeats 1000000 in
theorem ebytes_any (v : Value) (a : List Int) (w : World) (hR : Bl.Rd w .u8 v a) (hlen : a.length ≤ 1099511627000) :
    Calls Tryd.prog 24 #[v] w fun e w' => ∃ g c, e = .returned (.slice (some ⟨g, 0, none⟩) a.length c) ∧ w'.ownsRow w.heap.size 5 1 (.slice (some ⟨g, 0, none⟩) (a.length + 6) c) (a.length + 6) (Bl.ints .u8 (a ++ Bl.marks)) ∧ Bl.Ext w w' := by
  obtain ⟨p, c, hvf, hvn, hvc⟩ := hR.form
  subst hvf
  have Hv := Bl.hid hR
  clear hR
  go_enter Tryd.func24, Tryd.ntmps24
  obtain ⟨w1, hrun, hown1, hE1⟩ := Bl.make_none (P := Tryd.prog) tBytes (a.length + 6) (by omega) (by unfold maxLen; omega) w
  rw [show ((a.length + 6 : Nat) : Int) = (a.length : Int) + 6 from by omega] at hrun
  have Hown1 := Bl.hid hown1
  have HE1 := Bl.hid hE1
  have HV1 := Bl.hid (Hv.out.ext hE1)
  have hs1 := hE1.size
  clear hown1 hE1
  go_wp2_with (with_reducible refine Bl.stop_append ?_)
  refine Bl.go_on ?_
  clear hrun
  refine Bl.wpL_app tBytes Hown1.out HV1.out rfl rfl (by simp) (Bl.ints_one _ _) (by unfold maxLen; omega) (by omega) hs1 ?_
  intro p2 c2 w2 hown2 hg2 hB2 hK2 hn2 hc2
  simp only [Nat.zero_add, List.nil_append] at hown2 hn2
  have hs2 := hB2.size
  have Hown2 := Bl.hid (Bl.owns_ext hown2 (Bl.ext_alloc w2 (.cells (Bl.ints .u8 Bl.marks).toArray 5)))
  have Hnew := Bl.hid (Bl.rds_lit w2 5 .u8 Bl.marks (show 6 ≤ maxLen from by decide))
  have HE2 : Hid (Below w.heap.size w (w2.alloc (.cells (Bl.ints .u8 Bl.marks).toArray 5))) := Bl.hid ((Below.trans HE1.out hB2).trans (Bl.below_alloc _ _ (Nat.le_trans hs1 hs2)))
  have hs3 := HE2.out.size
  clear hown2 hg2 hB2 hK2 HV1 HE1 Hown1
  simp only [Nat.zero_add]
  go_wp2_with (with_reducible refine Bl.stop_append ?_)
  refine Bl.go_on ?_
  refine Bl.wpL_app tBytes Hown2.out Hnew.out rfl rfl (by simp [Bl.marks]) (Bl.ints_one _ _) (by show a.length + 6 ≤ _; unfold maxLen; omega) (by show (a.length + 6) * 1 ≤ _; omega) hs3 ?_
  intro p3 c3 w3 hown3 hg3 hB3 hK3 hn3 hc3
  rw [← Bl.ints_append] at hown3
  have hown3 : w3.ownsRow w.heap.size 5 1 (.slice p3 (a.length + 6) c3) (a.length + 6) (Bl.ints .u8 (a ++ Bl.marks)) := hown3
  obtain ⟨g, hg⟩ : ∃ g, p3 = some ⟨g, 0, none⟩ := by
    rcases hown3.2 with ⟨_, h0⟩ | ⟨g, cap, cur, hv, _⟩
    · omega
    · injection hv with h1; exact ⟨g, h1⟩
  subst hg
  have Hown3 := Bl.hid hown3
  have HE3 : Hid (Bl.Ext w w3) := Bl.hid (Below.trans HE2.out hB3)
  have hn4 : (a.length : Int) ≤ (c3 : Int) := by have : a.length + 6 ≤ c3 := hn3; omega
  clear hown3 hg3 hB3 hK3 Hown2 HE2 Hnew hs3 hs2 hs1
  go_wp2_with fail
  go_ret
  exact ⟨g, c3, rfl, Hown3.out, HE3.out⟩

set_option maxRecDepth 100000 in
set_option maxHeartbeats 1000000 in
theorem ekept_any (g c : Nat) (v : Value) (a : List Int) (w : World) (hc : a.length + 6 ≤ c) (hcm : c ≤ maxLen) (hR : w.rangeAt g 0 (Bl.ints .u8 (a ++ Bl.marks))) (hv : Bl.Rd w .u8 v a) (hlen : a.length ≤ 1099511627000) :
    Calls Tryd.prog 26 #[.slice (some ⟨g, 0, none⟩) a.length c, v] w fun e w' => e = .returned (.bool true) ∧ Bl.Ext w w' := by
  obtain ⟨p, d, hvf, hvn, hvc⟩ := hv.form
  subst hvf
  have Hv := Bl.hid hv
  have HR := Bl.hid hR
  have hra : Bl.Rd w .u8 (.slice (some ⟨g, 0, none⟩) a.length c) a := .inr ⟨g, 0, c, rfl, by omega, hcm, fun j u hu => hR j u (by
    rw [Bl.ints_append, List.getElem?_append_left (List.getElem?_eq_some_iff.1 hu).1]; exact hu)⟩
  have hdr : ∀ m, Bl.Ext w (w.drewN m) := fun m => (Below.refl _ _).drewN m
  have hcv1 : ∀ m, (convert 46 9 (.slice (some ⟨g, 0, none⟩) a.length c)).run Tryd.prog (w.drewN m) = .ok (.string (Bl.bstr a)) (w.drewN m) := fun m => Bl.conv_bytes (hra.ext (hdr m)) Tryd.underlying46 Tryd.underlying5 Tryd.underlying9
  have hcv2 : ∀ m, (convert 46 9 (.slice p a.length d)).run Tryd.prog (w.drewN m) = .ok (.string (Bl.bstr a)) (w.drewN m) := fun m => Bl.conv_bytes (Hv.out.ext (hdr m)) Tryd.underlying46 Tryd.underlying5 Tryd.underlying9
  unfold maxLen at hcm
  have hlt : decide ((c : Int) < (a.length : Int) + 6) = false := decide_eq_false (by omega)
  have hle : (a.length : Int) ≤ (c : Int) := by omega
  clear hv hR hra hdr
  go_enter Tryd.func26, Tryd.ntmps26
  go_wp2_with fail
  go_quiet (fail)
  go_wp2_with fail
  go_loop [6] (fun i => ∃ k : Nat, i = .int .i64 k ∧ k ≤ 6) (fun i => 6 - (intOf i).toNat)
  case atStart => exact ⟨0, rfl, by omega⟩
  case round =>
    obtain ⟨k, rfl, hk⟩ := hrel
    by_cases hlt : k < 6
    · have hcell : w.cell? ⟨g, a.length + k, none⟩ = some (.int .u8 (201 + (k : Int))) := by
        have h := HR.out (a.length + k) _ (Bl.ints_get _ _ _ (by rw [List.length_append]; show a.length + k < a.length + 6; omega))
        rw [Nat.zero_add, Bl.marks_get a k hlt] at h
        exact h
      have hb1 : (a.length : Int) + (k : Int) < (c : Int) := by omega
      have hb0 : (0 : Int) ≤ (a.length : Int) + (k : Int) := by omega
      have ht : ((a.length : Int) + (k : Int)).toNat = a.length + k := by omega
      have hb2 : (201 : Int) + (k : Int) ≤ 206 := by omega
      go_wp2_with fail
      go_round
      case rel => exact ⟨k + 1, by go_num, by omega⟩
      case measure => simp [intOf]; omega
    · obtain rfl : k = 6 := by omega
      go_wp2_with fail
      go_ret
      exact ⟨rfl, (Below.refl _ _).drewN _⟩
end Go.Proofs.YtmmolapkddbibaaDoor

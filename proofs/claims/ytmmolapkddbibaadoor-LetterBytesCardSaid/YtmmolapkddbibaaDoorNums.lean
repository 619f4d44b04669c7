/- Texts that stood apart, in one: Is, WNum, WNumN. -/
import Derived.Test.YtmmolapkddbibaaDoorChecked
import Derived.WalkKit
import Derived.LaidEql
import Derived.Stop.Asserts
import Derived.RowKitTokens
import Derived.Test.YtmmolapkddbibaaDoorErrs
import Derived.Test.YtmmolapkddbibaaDoorZs
/- errors.Is by its contracts, where the target is a sentinel of errors.New's make: turned from the guide's worked text SentryIs. -/
namespace Go.Proofs.YtmmolapkddbibaaDoor
open Go.RowKit Go.Extern.Stop Go.Stop Go.Extern

/-! ### closed facts: what 'reflectlite.TypeOf(target).Comparable()' gives at such a target -/
theorem isTypeOf (v : Value) (w : World) : (Extern.ReflectliteType.typeOf #[.iface 137 v]).run Tryd.prog w = .ok (.iface 125 (.agg #[.pointer (some ⟨22, 137, none⟩)])) w := by kernel_rfl
def cmpE : Array Value → Sem Value := Extern.ReflectliteType.method fun t => do Extern.Rtype.noPackHeld "Comparable" t; pure (.bool (← typeInfo t).comparable)
theorem isComparable (w : World) : (cmpE #[.agg #[.pointer (some ⟨22, 137, none⟩)]]).run Tryd.prog w = .ok (.bool true) w := by kernel_rfl
theorem isMethodComparable (v : Value) (w : World) : (Go.method 275 125 v "Comparable").run Tryd.prog w = .ok (106, v) w := by kernel_rfl
theorem isComp : (Tryd.prog.info? 137).map (·.comparable) = some true := by kernel_rfl
theorem isSize : (Tryd.prog.info? 163).map (·.size) = some 1 := by kernel_rfl

/-! ### closed facts on the method sets: what errors.is's assertions find -/
theorem noIsE (v : Value) (xT : TypeId) (w : World) : (Instr.typeAssert (.iface 137 v) xT 127 true).run Tryd.prog w = .ok (.tuple #[.nilIface, .bool false]) w := run_typeAssert_lacksB Tryd.underlying127 (by kernel_rfl) (by kernel_rfl) v xT w
theorem noUnwrapE (v : Value) (xT : TypeId) (w : World) : (Instr.typeAssert (.iface 137 v) xT 130 true).run Tryd.prog w = .ok (.tuple #[.nilIface, .bool false]) w := run_typeAssert_lacksB Tryd.underlying130 (by kernel_rfl) (by kernel_rfl) v xT w
theorem noUnwrapsE (v : Value) (xT : TypeId) (w : World) : (Instr.typeAssert (.iface 137 v) xT 132 true).run Tryd.prog w = .ok (.tuple #[.nilIface, .bool false]) w := run_typeAssert_lacksB Tryd.underlying132 (by kernel_rfl) (by kernel_rfl) v xT w

set_option maxRecDepth 100000 in
/-- errors.Is(x, x), x a pointer to an errors.errorString. -/
theorem is_same (a : Addr) (w : World) :
    Calls Tryd.prog 44 #[.iface 137 (.pointer (some a)), .iface 137 (.pointer (some a))] w fun e w' => e = .returned (.bool true) ∧ w' = w := by
  obtain ⟨i, hi, hcmp⟩ := Option.map_eq_some_iff.1 isComp
  obtain ⟨j, hj, hjs⟩ := Option.map_eq_some_iff.1 isSize
  have h8 := @run_callFunc_extern Tryd.prog 67 _ Extern.ReflectliteType.typeOf Tryd.func67 (by kernel_rfl) (by kernel_rfl) (by kernel_rfl) (by kernel_rfl)
  have h32 := @run_callFunc_extern Tryd.prog 106 _ cmpE Tryd.func106 (by kernel_rfl) (by kernel_rfl) (by kernel_rfl) (by kernel_rfl)
  have tT := isTypeOf
  have cT := isComparable
  have mR := isMethodComparable
  have heq := run_eql_iface_ptr_same (P := Tryd.prog) w a Tryd.underlying48 Tryd.underlying137 hi hcmp hj
  go_enter Tryd.func44, Tryd.ntmps44
  go_wp2
  refine wp_loop_rounds 1 ?_
  rw [rounds_succ]
  go_wp2
  go_ret
  exact ⟨rfl, rfl⟩

set_option maxRecDepth 100000 in
/-- errors.Is(x, y), two different pointers to errors.errorString: neither has Is nor Unwrap: false. -/
theorem is_other (a b : Addr) (ca cb : Array Value) (ta tb : TypeId) (w : World) (hne : a ≠ b) (ha : w.heap[a.block]? = some (.cells ca ta (0, 0))) (hb : w.heap[b.block]? = some (.cells cb tb (0, 0))) :
    Calls Tryd.prog 44 #[.iface 137 (.pointer (some a)), .iface 137 (.pointer (some b))] w fun e w' => e = .returned (.bool false) ∧ w' = w := by
  obtain ⟨i, hi, hcmp⟩ := Option.map_eq_some_iff.1 isComp
  obtain ⟨j, hj, hjs⟩ := Option.map_eq_some_iff.1 isSize
  have h8 := @run_callFunc_extern Tryd.prog 67 _ Extern.ReflectliteType.typeOf Tryd.func67 (by kernel_rfl) (by kernel_rfl) (by kernel_rfl) (by kernel_rfl)
  have h32 := @run_callFunc_extern Tryd.prog 106 _ cmpE Tryd.func106 (by kernel_rfl) (by kernel_rfl) (by kernel_rfl) (by kernel_rfl)
  have tT := isTypeOf
  have cT := isComparable
  have mR := isMethodComparable
  have nE := noIsE
  have uE := noUnwrapE
  have vE := noUnwrapsE
  have heq := run_eql_iface_ptr_other (P := Tryd.prog) w Tryd.underlying48 Tryd.underlying137 hi hcmp hj (by rw [hjs]; decide) hne ha hb
  go_enter Tryd.func44, Tryd.ntmps44
  go_wp2
  refine wp_loop_rounds 1 ?_
  rw [rounds_succ]
  go_wp2
  go_ret
  exact ⟨rfl, rfl⟩
end Go.Proofs.YtmmolapkddbibaaDoor

/- Walk of baileenum.Num. -/
namespace Go.Proofs.YtmmolapkddbibaaDoor
open Go.RowKit Go.Proofs

theorem num_nil (w : World) : Calls Tryd.prog 20 #[.nilIface] w fun e w' => e = .returned (.int .i64 0) ∧ w' = w := by
  go_enter Tryd.func20, Tryd.ntmps20
  go_wp2
  go_ret
  exact ⟨rfl, rfl⟩

set_option maxRecDepth 100000 in
set_option maxHeartbeats 1000000 in
theorem num_any (S : List Nat) (a : Nat → Addr) (w : World) (m : Nat) (hS : ∀ i, 1 ≤ i → i ≤ 20 → i ∈ S) (he : Errs S a w) (h1 : 1 ≤ m) (h2 : m ≤ 20) :
    Calls Tryd.prog 20 #[.iface 137 (.pointer (some (a m)))] w fun e w' => e = .returned (.int .i64 m) ∧ Bl.Ext w w' := by
  have c1 : w.cell? ⟨2, 0, none⟩ = some (.iface 137 (.pointer (some (a 1)))) := he.cell 1 (hS 1 (by decide) (by decide))
  have c2 : w.cell? ⟨3, 0, none⟩ = some (.iface 137 (.pointer (some (a 2)))) := he.cell 2 (hS 2 (by decide) (by decide))
  have c3 : w.cell? ⟨4, 0, none⟩ = some (.iface 137 (.pointer (some (a 3)))) := he.cell 3 (hS 3 (by decide) (by decide))
  have c4 : w.cell? ⟨5, 0, none⟩ = some (.iface 137 (.pointer (some (a 4)))) := he.cell 4 (hS 4 (by decide) (by decide))
  have c5 : w.cell? ⟨6, 0, none⟩ = some (.iface 137 (.pointer (some (a 5)))) := he.cell 5 (hS 5 (by decide) (by decide))
  have c6 : w.cell? ⟨7, 0, none⟩ = some (.iface 137 (.pointer (some (a 6)))) := he.cell 6 (hS 6 (by decide) (by decide))
  have c7 : w.cell? ⟨8, 0, none⟩ = some (.iface 137 (.pointer (some (a 7)))) := he.cell 7 (hS 7 (by decide) (by decide))
  have c8 : w.cell? ⟨9, 0, none⟩ = some (.iface 137 (.pointer (some (a 8)))) := he.cell 8 (hS 8 (by decide) (by decide))
  have c9 : w.cell? ⟨10, 0, none⟩ = some (.iface 137 (.pointer (some (a 9)))) := he.cell 9 (hS 9 (by decide) (by decide))
  have c10 : w.cell? ⟨11, 0, none⟩ = some (.iface 137 (.pointer (some (a 10)))) := he.cell 10 (hS 10 (by decide) (by decide))
  have c11 : w.cell? ⟨12, 0, none⟩ = some (.iface 137 (.pointer (some (a 11)))) := he.cell 11 (hS 11 (by decide) (by decide))
  have c12 : w.cell? ⟨13, 0, none⟩ = some (.iface 137 (.pointer (some (a 12)))) := he.cell 12 (hS 12 (by decide) (by decide))
  have c13 : w.cell? ⟨14, 0, none⟩ = some (.iface 137 (.pointer (some (a 13)))) := he.cell 13 (hS 13 (by decide) (by decide))
  have c14 : w.cell? ⟨15, 0, none⟩ = some (.iface 137 (.pointer (some (a 14)))) := he.cell 14 (hS 14 (by decide) (by decide))
  have c15 : w.cell? ⟨16, 0, none⟩ = some (.iface 137 (.pointer (some (a 15)))) := he.cell 15 (hS 15 (by decide) (by decide))
  have c16 : w.cell? ⟨17, 0, none⟩ = some (.iface 137 (.pointer (some (a 16)))) := he.cell 16 (hS 16 (by decide) (by decide))
  have c17 : w.cell? ⟨18, 0, none⟩ = some (.iface 137 (.pointer (some (a 17)))) := he.cell 17 (hS 17 (by decide) (by decide))
  have c18 : w.cell? ⟨19, 0, none⟩ = some (.iface 137 (.pointer (some (a 18)))) := he.cell 18 (hS 18 (by decide) (by decide))
  have c19 : w.cell? ⟨20, 0, none⟩ = some (.iface 137 (.pointer (some (a 19)))) := he.cell 19 (hS 19 (by decide) (by decide))
  have c20 : w.cell? ⟨21, 0, none⟩ = some (.iface 137 (.pointer (some (a 20)))) := he.cell 20 (hS 20 (by decide) (by decide))
  have HS := Bl.hid hS
  have He := Bl.hid he
  clear hS he
  have HL : Hid (∀ k, k < 20 → (w.alloc (.cells #[.iface 137 (.pointer (some (a 1))), .iface 137 (.pointer (some (a 2))), .iface 137 (.pointer (some (a 3))), .iface 137 (.pointer (some (a 4))), .iface 137 (.pointer (some (a 5))), .iface 137 (.pointer (some (a 6))), .iface 137 (.pointer (some (a 7))), .iface 137 (.pointer (some (a 8))), .iface 137 (.pointer (some (a 9))), .iface 137 (.pointer (some (a 10))), .iface 137 (.pointer (some (a 11))), .iface 137 (.pointer (some (a 12))), .iface 137 (.pointer (some (a 13))), .iface 137 (.pointer (some (a 14))), .iface 137 (.pointer (some (a 15))), .iface 137 (.pointer (some (a 16))), .iface 137 (.pointer (some (a 17))), .iface 137 (.pointer (some (a 18))), .iface 137 (.pointer (some (a 19))), .iface 137 (.pointer (some (a 20)))] 48)).cell? ⟨w.heap.size, k, none⟩ = some (.iface 137 (.pointer (some (a (k + 1)))))) := Bl.hid fun k hk => by
    rw [World.cell?_alloc_new]
    have h : k = 0 ∨ k = 1 ∨ k = 2 ∨ k = 3 ∨ k = 4 ∨ k = 5 ∨ k = 6 ∨ k = 7 ∨ k = 8 ∨ k = 9 ∨ k = 10 ∨ k = 11 ∨ k = 12 ∨ k = 13 ∨ k = 14 ∨ k = 15 ∨ k = 16 ∨ k = 17 ∨ k = 18 ∨ k = 19 := by omega
    rcases h with rfl | rfl | rfl | rfl | rfl | rfl | rfl | rfl | rfl | rfl | rfl | rfl | rfl | rfl | rfl | rfl | rfl | rfl | rfl | rfl <;> rfl
  have HE : Hid (Bl.Ext w (w.alloc (.cells #[.iface 137 (.pointer (some (a 1))), .iface 137 (.pointer (some (a 2))), .iface 137 (.pointer (some (a 3))), .iface 137 (.pointer (some (a 4))), .iface 137 (.pointer (some (a 5))), .iface 137 (.pointer (some (a 6))), .iface 137 (.pointer (some (a 7))), .iface 137 (.pointer (some (a 8))), .iface 137 (.pointer (some (a 9))), .iface 137 (.pointer (some (a 10))), .iface 137 (.pointer (some (a 11))), .iface 137 (.pointer (some (a 12))), .iface 137 (.pointer (some (a 13))), .iface 137 (.pointer (some (a 14))), .iface 137 (.pointer (some (a 15))), .iface 137 (.pointer (some (a 16))), .iface 137 (.pointer (some (a 17))), .iface 137 (.pointer (some (a 18))), .iface 137 (.pointer (some (a 19))), .iface 137 (.pointer (some (a 20)))] 48))) := Bl.hid (Bl.ext_alloc _ _)
  go_enter Tryd.func20, Tryd.ntmps20
  go_wp2_with fail
  obtain ⟨W, hW⟩ : ∃ W, W = w.alloc (.cells #[.iface 137 (.pointer (some (a 1))), .iface 137 (.pointer (some (a 2))), .iface 137 (.pointer (some (a 3))), .iface 137 (.pointer (some (a 4))), .iface 137 (.pointer (some (a 5))), .iface 137 (.pointer (some (a 6))), .iface 137 (.pointer (some (a 7))), .iface 137 (.pointer (some (a 8))), .iface 137 (.pointer (some (a 9))), .iface 137 (.pointer (some (a 10))), .iface 137 (.pointer (some (a 11))), .iface 137 (.pointer (some (a 12))), .iface 137 (.pointer (some (a 13))), .iface 137 (.pointer (some (a 14))), .iface 137 (.pointer (some (a 15))), .iface 137 (.pointer (some (a 16))), .iface 137 (.pointer (some (a 17))), .iface 137 (.pointer (some (a 18))), .iface 137 (.pointer (some (a 19))), .iface 137 (.pointer (some (a 20)))] 48) := ⟨_, rfl⟩
  rw [← hW] at HL HE ⊢
  clear hW c1 c2 c3 c4 c5 c6 c7 c8 c9 c10 c11 c12 c13 c14 c15 c16 c17 c18 c19 c20
  go_loop [31] (fun i => ∃ k : Nat, k < m ∧ i = .int .i64 k) (fun i => 20 - (intOf i).toNat)
  case atStart => exact ⟨0, by omega, rfl⟩
  case round =>
    obtain ⟨k, hk, rfl⟩ := hrel
    have hc := HL.out k (by omega)
    have hk20 : (k : Int) < 20 := by omega
    by_cases hkm : k + 1 = m
    · rw [hkm] at hc
      go_wp2_with fail
      refine (is_same (a m) _).mono ?_
      rintro e w' ⟨rfl, hw'⟩
      subst hw'
      go_wp2_with fail
      go_ret
      exact ⟨by rw [← hkm]; rfl, HE.out⟩
    · obtain ⟨ca, ta, hra⟩ := (He.out.ext HE.out).row m (HS.out m h1 h2)
      obtain ⟨cb, tb, hrb⟩ := (He.out.ext HE.out).row (k + 1) (HS.out _ (by omega) (by omega))
      have Hio := Bl.hid (is_other (a m) (a (k + 1)) ca cb ta tb _ (He.out.ne m (HS.out m h1 h2) (k + 1) (HS.out _ (by omega) (by omega)) (fun q => hkm q.symm)) hra hrb)
      clear hra hrb
      go_wp2_with fail
      refine Hio.out.mono ?_
      rintro e w' ⟨rfl, hw'⟩
      subst hw'
      go_wp2_with fail
      go_round
      case rel => exact ⟨k + 1, by omega, by go_num⟩
      case measure => simp [intOf]; omega
end Go.Proofs.YtmmolapkddbibaaDoor

/- baileenum.Num of nil or a sentinel. -/
namespace Go.Proofs.YtmmolapkddbibaaDoor
open Go.RowKit Go.Proofs
theorem num_errN (S : List Nat) (a : Nat → Addr) (w : World) (m : Nat) (hS : ∀ i, 1 ≤ i → i ≤ 20 → i ∈ S) (he : Errs S a w) (h2 : m ≤ 20) :
    Calls Tryd.prog 20 #[errN a m] w fun e w' => e = .returned (.int .i64 m) ∧ Bl.Ext w w' := by
  by_cases h : m = 0
  · subst h
    exact (num_nil w).mono fun _ _ ⟨h1, h2⟩ => ⟨h1, by rw [h2]; exact Below.refl _ _⟩
  · rw [errN_pos a m h]
    exact num_any S a w m hS he (by omega) h2
end Go.Proofs.YtmmolapkddbibaaDoor

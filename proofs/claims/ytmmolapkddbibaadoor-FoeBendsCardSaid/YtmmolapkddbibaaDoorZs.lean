/- A digest of zeros; results in variables and slots; guarded loads of whole arrays; nil or a sentinel error. No program. -/
import Derived.Test.YtmmolapkddbibaaDoorLib0
import Derived.Test.YtmmolapkddbibaaDoorErrs
namespace Go.Proofs.Bl
open Go Go.RowKit
def zs32 : List Int := List.replicate 32 0
theorem Fam.list {w : World} {g : Nat} {k : IntKind} {n : Nat} {f : Nat → Int} (h : Fam w g k n f) {l : List Int} (hl : l.length = n) (hf : ∀ i, i < n → f i = l.getD i 0) : w.rangeAt g 0 (ints k l) := fun j v hv => by
  have hj : j < n := by have := (List.getElem?_eq_some_iff.1 hv).1; rw [ints_length, hl] at this; exact this
  rw [ints_get _ _ _ (by rw [hl]; exact hj)] at hv
  cases hv
  rw [Nat.zero_add, h.1 j hj, hf j hj]
theorem zs32_get (i : Nat) (h : i < 32) : (fun _ : Nat => (0 : Int)) i = zs32.getD i 0 := by
  unfold zs32
  rw [List.getD_eq_getElem?_getD, List.getElem?_replicate, if_pos h]; rfl
theorem fam_set32 {w : World} {g : Nat} {f : Nat → Int} (h : Fam w g .u8 32 f) : Fam (w.setCells g 0 (ints .u8 zs32)) g .u8 32 (fun _ => 0) := by
  have hin := World.rangeAt_setCells_same w g 0 (ints .u8 zs32) (by rw [ints_length]; exact h.there)
  refine ⟨fun i hi => ?_, fun i => ?_⟩
  · have := hin i _ (ints_get .u8 zs32 i hi)
    rw [Nat.zero_add] at this
    rw [this, ← zs32_get i hi]
  · rw [World.frozen?_setCells]; exact h.2 i
/-- a result of two parts, the first one in a variable -/
theorem results_cell2 {P : Program} {fn : Func} {p q : Tmp} {ty : TypeId} {tmps : Array Value} {w : World} {b : Addr} {v u : Value} (h : fn.results = #[.cell p ty, .tmp q]) (hp : tmps.getD p undef = .pointer (some b)) (hl : (loadVar ty b).run P w = .ok v w) (hq : tmps.getD q undef = u) :
    (results fn tmps).run P w = .ok (.tuple #[v, u]) w := by
  have hp' : tmps[p]?.getD undef = .pointer (some b) := by simpa using hp
  have hq' : tmps[q]?.getD undef = u := by simpa using hq
  simp [results, h, hp', hq', asAddr, hl]
/-- a result of three parts, all in variables -/
theorem results_cell3 {P : Program} {fn : Func} {p q r : Tmp} {t1 t2 t3 : TypeId} {tmps : Array Value} {w : World} {b1 b2 b3 : Addr} {v1 v2 v3 : Value} (h : fn.results = #[.cell p t1, .cell q t2, .cell r t3]) (hp : tmps.getD p undef = .pointer (some b1)) (hq : tmps.getD q undef = .pointer (some b2)) (hr : tmps.getD r undef = .pointer (some b3))
    (h1 : (loadVar t1 b1).run P w = .ok v1 w) (h2 : (loadVar t2 b2).run P w = .ok v2 w) (h3 : (loadVar t3 b3).run P w = .ok v3 w) :
    (results fn tmps).run P w = .ok (.tuple #[v1, v2, v3]) w := by
  have hp' : tmps[p]?.getD undef = .pointer (some b1) := by simpa using hp
  have hq' : tmps[q]?.getD undef = .pointer (some b2) := by simpa using hq
  have hr' : tmps[r]?.getD undef = .pointer (some b3) := by simpa using hr
  simp [results, h, hp', hq', hr', asAddr, h1, h2, h3]
/-- a result of two parts, both in slots -/
theorem results_tmp2 {P : Program} {fn : Func} {p q : Tmp} {tmps : Array Value} {w : World} {v u : Value} (h : fn.results = #[.tmp p, .tmp q]) (hp : tmps.getD p undef = v) (hq : tmps.getD q undef = u) :
    (results fn tmps).run P w = .ok (.tuple #[v, u]) w := by
  have hp' : tmps[p]?.getD undef = v := by simpa using hp
  have hq' : tmps[q]?.getD undef = u := by simpa using hq
  simp [results, h, hp', hq']
section
variable {P : Program} {ops : Array Oper} {rest : List Oper} {a : Act} {w : World} {Q : Exit → Act → World → Prop} {d : Option Tmp} {tt ty : TypeId} {pp : String} {af : Array Edge} {x : Operand} {p v : Value} {g : Nat × Bool}
theorem stop_loadg (h : Stuck (wpList P ops Q (⟨d, .load ty x, tt, pp, af, some g⟩ :: rest) a w)) : wpList P ops Q (⟨d, .load ty x, tt, pp, af, some g⟩ :: rest) a w := h
/-- a load that a '&&' or '||' guards, and that is wanted -/
theorem wpL_loadg (hw : Region.wanted ⟨d, .load ty x, tt, pp, af, some g⟩ (yielded ops a.tmps) = true) (hx : a.eval x = p) (hld : (Instr.loadAt ty p).run P w = .ok v w) (h : wpList P ops Q rest (a.put d v) w) :
    wpList P ops Q (⟨d, .load ty x, tt, pp, af, some g⟩ :: rest) a w := by
  unfold wpList
  rw [if_pos hw]
  left
  unfold Oper.wp execOp
  simp only [hx, Sem.run_bind, Sem.run_pure, Result.andThen_ok, hld]
  exact h
end
end Go.Proofs.Bl
namespace Go.Proofs.YtmmolapkddbibaaDoor
open Go.RowKit Go.Proofs
/-- nil, or the sentinel of a number -/
def errN (a : Nat → Addr) (m : Nat) : Value := if m = 0 then .nilIface else .iface 137 (.pointer (some (a m)))
theorem errN_zero (a : Nat → Addr) : errN a 0 = .nilIface := rfl
theorem errN_pos (a : Nat → Addr) (m : Nat) (h : m ≠ 0) : errN a m = .iface 137 (.pointer (some (a m))) := if_neg h
end Go.Proofs.YtmmolapkddbibaaDoor

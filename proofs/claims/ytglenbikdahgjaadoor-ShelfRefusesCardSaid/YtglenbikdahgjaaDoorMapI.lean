/- Maps from whole numbers, read as a list of pairs. No program. -/
import Derived.MapKept
import Derived.Carry
import Derived.Test.YtglenbikdahgjaaDoorLib0
namespace Go.Proofs.Bl
open Go Go.RowKit
def getM (mp : List (Int × Value)) (x : Int) : Option Value := (mp.find? fun p => decide (p.1 = x)).map (·.2)
/-- a map in the block m -/
def MapAt (w : World) (m : Nat) (mp : List (Int × Value)) : Prop := ∃ es c, w.heap[m]? = some (.map es c) ∧ es.toList.map (fun e => (e.key, e.val)) = mp.map fun x => (Value.int .i64 x.1, x.2)
theorem MapAt.lt {w : World} {m : Nat} {mp : List (Int × Value)} (h : MapAt w m mp) : m < w.heap.size := by
  obtain ⟨es, c, h1, _⟩ := h
  exact (Array.getElem?_eq_some_iff.1 h1).1
theorem MapAt.same {w w' : World} {m : Nat} {mp : List (Int × Value)} (h : MapAt w m mp) (hb : w'.heap[m]? = w.heap[m]?) : MapAt w' m mp := by
  obtain ⟨es, c, h1, h2⟩ := h
  exact ⟨es, c, hb.trans h1, h2⟩
theorem MapAt.ext {w w' : World} {m : Nat} {mp : List (Int × Value)} (h : MapAt w m mp) (hE : Ext w w') : MapAt w' m mp := h.same (hE.block m h.lt)
theorem MapAt.new (w : World) : MapAt (w.alloc (.map #[] 0)) w.heap.size [] := ⟨#[], 0, by show (w.heap.push _)[w.heap.size]? = _; rw [Array.getElem?_push_size], rfl⟩
theorem findNow_int (x : Int) : ∀ (es : List MapEntry) (mp : List (Int × Value)) (i : Nat), es.map (fun e => (e.key, e.val)) = mp.map (fun x => (Value.int .i64 x.1, x.2)) → ∃ r, Instr.findNow (.int .i64) (.int .i64 x) es i = some r ∧ r.map (·.2) = getM mp x
  | [], [], i, _ => ⟨none, rfl, rfl⟩
  | [], _ :: _, _, h => by cases h
  | _ :: _, [], _, h => by cases h
  | e :: es, p :: mp, i, h => by
    simp only [List.map_cons, List.cons.injEq, Prod.mk.injEq] at h
    obtain ⟨⟨h1, h2⟩, h3⟩ := h
    by_cases hx : p.1 = x
    · refine ⟨some (i, e.val), ?_, ?_⟩
      · simp [Instr.findNow, Instr.sameNow, h1, hx]
      · simp [getM, hx, h2]
    · obtain ⟨r, hr, hr2⟩ := findNow_int x es mp (i + 1) h3
      refine ⟨r, ?_, ?_⟩
      · have hx' : (x == p.1) = false := by simp; exact fun q => hx q.symm
        simp [Instr.findNow, Instr.sameNow, h1, hx', hr]
      · rw [hr2]; simp [getM, hx]
theorem MapAt.lookup {P : Program} {t k e : TypeId} {w : World} {m : Nat} {mp : List (Int × Value)} (ht : P.underlying t = some (.map k e)) (hk : P.underlying k = some (.int .i64)) {z : Value} (hz : (zeroValue e).run P w = .ok z w) (h : MapAt w m mp) (x : Int) :
    (Instr.lookup t (.map (some m)) (.int .i64 x) true).run P w = .ok (.tuple #[(getM mp x).getD z, .bool (getM mp x).isSome]) w := by
  obtain ⟨es, c, h1, h2⟩ := h
  obtain ⟨r, hr, hr2⟩ := findNow_int x es.toList mp 0 h2
  have hc : (Instr.checkKey es.isEmpty 10000 k (.int .i64 x)).run P w = .ok () w := MapKept.run_checkKey (k := .int .i64 x) hk (by simp [MapKept.IsKey]) _ 9999
  rw [← hr2]
  cases r with
  | none => simp [Instr.lookup, run_underlying ht, MapKept.run_getObj_map h1, hc, MapKept.run_findKey hk hr, hz, Result.andThen]
  | some r => simp [Instr.lookup, run_underlying ht, MapKept.run_getObj_map h1, hc, MapKept.run_findKey hk hr, Result.andThen]
end Go.Proofs.Bl

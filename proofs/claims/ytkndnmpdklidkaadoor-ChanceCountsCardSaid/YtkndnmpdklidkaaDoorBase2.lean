/- Stops for the walk: the walk stands at an operation, so that a law is handed to it in the open. No program. -/
import Derived.Test.YtkndnmpdklidkaaDoorBase
namespace Go.Proofs.Bl
open Go Go.RowKit
/-- a slice's length -/
def lenS : Value → Nat
  | .slice _ n _ => n
  | _ => 0
def Stuck (p : Prop) : Prop := p
theorem halt_here {p : Prop} (h : Stuck p) : p := h
theorem go_on {p : Prop} (h : p) : Stuck p := h
section
variable {P : Program} {ops : Array Oper} {rest : List Oper} {a : Act} {w w' : World} {Q : Exit → Act → World → Prop} {d : Option Tmp} {tt ty : TypeId} {pp : String} {af : Array Edge} {x y : Operand} {p v : Value}
theorem stop_load (h : Stuck (wpList P ops Q (⟨d, .load ty x, tt, pp, af, none⟩ :: rest) a w)) : wpList P ops Q (⟨d, .load ty x, tt, pp, af, none⟩ :: rest) a w := h
theorem stop_store (h : Stuck (wpList P ops Q (⟨d, .store ty x y, tt, pp, af, none⟩ :: rest) a w)) : wpList P ops Q (⟨d, .store ty x y, tt, pp, af, none⟩ :: rest) a w := h
theorem stop_index (h : Stuck (wpList P ops Q (⟨d, .index ty x y, tt, pp, af, none⟩ :: rest) a w)) : wpList P ops Q (⟨d, .index ty x y, tt, pp, af, none⟩ :: rest) a w := h
theorem stop_append {args : Array Operand} {ts : Array TypeId} (h : Stuck (wpList P ops Q (⟨d, .call { callee := .builtin .append, args := args, argTypes := ts }, tt, pp, af, none⟩ :: rest) a w)) : wpList P ops Q (⟨d, .call { callee := .builtin .append, args := args, argTypes := ts }, tt, pp, af, none⟩ :: rest) a w := h
theorem stop_slice {l hi mx : Option Operand} (h : Stuck (wpList P ops Q (⟨d, .slice ty x l hi mx, tt, pp, af, none⟩ :: rest) a w)) : wpList P ops Q (⟨d, .slice ty x l hi mx, tt, pp, af, none⟩ :: rest) a w := h
theorem stop_convert {t2 : TypeId} (h : Stuck (wpList P ops Q (⟨d, .convert ty t2 x, tt, pp, af, none⟩ :: rest) a w)) : wpList P ops Q (⟨d, .convert ty t2 x, tt, pp, af, none⟩ :: rest) a w := h
end
/-- append, the result in its own form: what it holds, where it lies -/
theorem wpL_app {P : Program} {ops : Array Oper} {rest : List Oper} {a : Act} {w : World} {Q : Exit → Act → World → Prop} {d : Option Tmp} {tt t e : TypeId} {pp : String} {af : Array Edge} {s x : Operand} {v u z : Value} {base size bytes n m : Nat} {xs news : List Value}
    (hT : SlT P t e z size bytes) (hown : w.ownsRow base e size v n xs) (hrd : Rds w u m news) (hs : a.eval s = v) (hx : a.eval x = u) (hl : news.length = m * size) (h1 : ∀ c ∈ news, c.oneCell' = true)
    (hlen : n + m ≤ maxLen) (hbytes : (n + m) * bytes ≤ 140737488355328) (hbase : base ≤ w.heap.size)
    (h : ∀ p c w', w'.ownsRow base e size (.slice p (n + m) c) (n + m) (xs ++ news) → w.grownBy w' v.ownBlock → Below base w w' → (∀ k, (Value.slice p (n + m) c).ownBlock = some k → v.ownBlock = some k ∨ w.heap.size ≤ k) → n + m ≤ c → c ≤ maxLen → wpList P ops Q rest (a.put d (.slice p (n + m) c)) w') :
    wpList P ops Q (⟨d, .call { callee := .builtin .append, args := #[s, x], argTypes := #[t, t] }, tt, pp, af, none⟩ :: rest) a w :=
  wpL_append hT hown hrd hl h1 hlen hbytes hbase hs hx fun v' w' h1 h2 h3 h4 => by
    obtain ⟨p, c, rfl, hc, hm⟩ := (Rds.of_owns h1).form
    exact h p c w' h1 h2 h3 h4 hc hm
/-- a new variable's cells -/
theorem owns_nil_lit (w : World) (e : TypeId) (B : Nat) (h : B ≤ w.heap.size) (size : Nat) : (w.alloc (.cells #[] e)).ownsRow B e size (.slice (some ⟨w.heap.size, 0, none⟩) 0 0) 0 [] := owns_new w e #[] B 0 size h (Nat.zero_le _) (by simp)
theorem rds_one (w : World) (e : TypeId) (k : IntKind) (x : Int) : Rds (w.alloc (.cells #[.int k x] e)) (.slice (some ⟨w.heap.size, 0, none⟩) 1 1) 1 (ints k [x]) := rds_lit w e k [x] (show 1 ≤ maxLen from by decide)
end Go.Proofs.Bl

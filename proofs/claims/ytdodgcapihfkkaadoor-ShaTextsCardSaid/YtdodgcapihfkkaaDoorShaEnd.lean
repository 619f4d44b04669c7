/- SHA-256's end, as plain functions: the padding, the digest. No program. -/
import Derived.Test.YtdodgcapihfkkaaDoorShaPlain
import Derived.Test.YtdodgcapihfkkaaDoorBase
namespace Go.Proofs.Bl

/-- how many zeros the padding has behind n bytes -/
def padn (n : Nat) : Nat := (119 - n % 64) % 64
/-- the 8 bytes of the length in bits -/
def lenb (n : Nat) : List Int := (List.range 8).map fun k => ((n * 8 / 2 ^ (56 - 8 * k) % 256 : Nat) : Int)
@[simp] theorem lenb_length (n : Nat) : (lenb n).length = 8 := by simp [lenb]
theorem lenb_take (n j : Nat) (h : j < 8) : (lenb n).take (j + 1) = (lenb n).take j ++ [(n : Int) * 8 / 2 ^ (56 - 8 * j) % 256] := by
  rw [List.take_add_one, List.getElem?_eq_getElem (by simpa using h)]
  simp [lenb]
/-- the last chunks: the bytes that wait, 128, zeros, the length -/
def pad (l : List Int) (n : Nat) : List Int := l ++ 128 :: List.replicate (padn l.length) 0 ++ lenb n
theorem pad_length (l : List Int) (n : Nat) : (pad l n).length = l.length + 1 + padn l.length + 8 := by simp [pad]; omega
theorem padn_mod (n : Nat) : (n + 1 + padn n + 8) % 64 = 0 := by unfold padn; omega
theorem lenb_byt (n : Nat) : Byt (lenb n) := fun x hx => by
  obtain ⟨k, _, rfl⟩ := List.mem_map.1 hx
  have := Nat.mod_lt (n * 8 / 2 ^ (56 - 8 * k)) (show 0 < 256 by decide)
  omega
theorem rep_byt (k : Nat) : Byt (List.replicate k 0) := fun x hx => by have := List.eq_of_mem_replicate hx; omega
theorem pad_byt {l : List Int} (n : Nat) (h : Byt l) : Byt (pad l n) :=
  (h.append (fun x hx => by
    rcases List.mem_cons.1 hx with rfl | hx
    · decide
    · exact rep_byt _ x hx)).append (lenb_byt n)

/-- one word's bytes, the highest first -/
def wbytes (x : Int) : List Int := [x / 16777216 % 256, x / 65536 % 256, x / 256 % 256, x % 256]
def St.bytes (s : St) : List Int := wbytes s.a ++ wbytes s.b ++ wbytes s.c ++ wbytes s.d ++ wbytes s.e ++ wbytes s.f ++ wbytes s.g ++ wbytes s.h
@[simp] theorem St.bytes_length (s : St) : s.bytes.length = 32 := rfl
/-- byte number j of a digest -/
def St.byte (s : St) (j : Nat) : Int := s.l.getD (j / 4) 0 / 2 ^ (24 - 8 * (j % 4)) % 256
theorem St.bytes_get (s : St) (j : Nat) (h : j < 32) : s.bytes.getD j 0 = s.byte j := by
  have : j = 0 ∨ j = 1 ∨ j = 2 ∨ j = 3 ∨ j = 4 ∨ j = 5 ∨ j = 6 ∨ j = 7 ∨ j = 8 ∨ j = 9 ∨ j = 10 ∨ j = 11 ∨ j = 12 ∨ j = 13 ∨ j = 14 ∨ j = 15 ∨ j = 16 ∨ j = 17 ∨ j = 18 ∨ j = 19 ∨ j = 20 ∨ j = 21 ∨ j = 22 ∨ j = 23 ∨ j = 24 ∨ j = 25 ∨ j = 26 ∨ j = 27 ∨ j = 28 ∨ j = 29 ∨ j = 30 ∨ j = 31 := by omega
  rcases this with rfl | rfl | rfl | rfl | rfl | rfl | rfl | rfl | rfl | rfl | rfl | rfl | rfl | rfl | rfl | rfl | rfl | rfl | rfl | rfl | rfl | rfl | rfl | rfl | rfl | rfl | rfl | rfl | rfl | rfl | rfl | rfl <;> simp [St.bytes, St.byte, St.l, wbytes]

theorem St.bytes_map (s : St) : (List.range 32).map (fun j => if j < 4 * 8 then s.byte j else 0) = s.bytes := by
  apply List.ext_getElem
  · simp
  · intro i h1 h2
    have h3 : i < 32 := by simpa using h1
    have := s.bytes_get i h3
    rw [List.getD_eq_getElem?_getD, List.getElem?_eq_getElem h2] at this
    simp only [Option.getD_some] at this
    simp [this]
    omega
/-- the words after chunks 0 .. of L -/
def foldc (L : List Int) (z : St) (ks : List Nat) : St := ks.foldl (fun z k => comp z ((L.drop (64 * k)).take 64)) z
theorem foldl_chunks {α : Type} (f : α → List Int → α) (L : List Int) (m : Nat) (z : α) :
    (List.range (m + 1)).foldl (fun z k => f z ((L.drop (64 * k)).take 64)) z = (List.range m).foldl (fun z k => f z (((L.drop 64).drop (64 * k)).take 64)) (f z (L.take 64)) := by
  rw [List.range_succ_eq_map, List.foldl_cons, List.foldl_map]
  simp only [List.drop_drop, Nat.mul_zero, List.drop_zero]
  have : (fun (x : α) (y : Nat) => f x (List.take 64 (List.drop (64 * y.succ) L))) = fun z k => f z (List.take 64 (List.drop (64 + 64 * k) L)) := by
    funext z k
    rw [show 64 * (k + 1) = 64 + 64 * k from by omega]
  rw [this]
theorem foldc_range (m : Nat) : ∀ (L : List Int) (z : St), L.length = 64 * m → foldc L z (List.range m) = (eat z L).1 := by
  induction m with
  | zero => intro L z h; rw [eat_lo z L (by omega)]; rfl
  | succ m ih =>
    intro L z h
    rw [eat_hi z L (by omega), ← ih (L.drop 64) (comp z (L.take 64)) (by rw [List.length_drop]; omega)]
    exact foldl_chunks comp L m z
/-- the words at the end -/
def ended (z : St) (l : List Int) (n : Nat) : St := (eat z (pad l n)).1

def sliceLen : Value → Nat
  | .slice _ n _ => n
  | _ => 0
end Go.Proofs.Bl

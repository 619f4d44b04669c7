/- Texts that stood apart, in one: ShaPlain, ShaEnd, Plain12, Tree, PathP, GrowP. -/
import Derived.Laws.Bits
import Derived.Test.YtglenbikdahgjaaDoorLib0
import Derived.Lib.BitFns
/- The digest, as plain functions of whole numbers in the walk's own forms. No program. -/
namespace Go.Proofs.Bl
open Go

def xr (a b : Int) : Int := bits .xor .u32 a b
def an (a b : Int) : Int := bits .and .u32 a b
def orr (a b : Int) : Int := bits .or .u32 a b
/-- a sum of words -/
def ad (a b : Int) : Int := (a + b) % 4294967296
/-- a word turned right -/
def ror (n : Nat) (x : Int) : Int := bits .or .u32 (x * 2 ^ (32 - n) % 4294967296) (x / 2 ^ n)

theorem bits_or_comm (a b : Int) : bits .or .u32 a b = bits .or .u32 b a := by
  simp only [bits, BitVec.or_comm]

def sig (a b c : Nat) (x : Int) : Int := xr (xr (ror a x) (ror b x)) (ror c x)
def mix (a b c : Nat) (x : Int) : Int := xr (xr (ror a x) (ror b x)) (x / 2 ^ c)


/-- a byte behind a word -/
def st4 (acc c : Int) : Int := bits .or .u32 (acc * 256 % 4294967296) c
/-- a word out of four bytes -/
def word (b : List Int) (t : Nat) : Int := ((b.drop (4 * t)).take 4).foldl st4 0
def part (b : List Int) (t j : Nat) : Int := ((b.drop (4 * t)).take j).foldl st4 0
theorem part_zero (b : List Int) (t : Nat) : part b t 0 = 0 := by simp [part]
theorem part_four (b : List Int) (t : Nat) : part b t 4 = word b t := rfl
theorem part_succ (b : List Int) (t j : Nat) (h : 4 * t + j < b.length) : part b t (j + 1) = st4 (part b t j) (b.getD (4 * t + j) 0) := by
  unfold part
  rw [List.take_succ_eq_append_getElem (by simp; omega), List.foldl_append]
  simp [List.getD_eq_getElem?_getD, List.getElem?_eq_getElem h]

/-- the next word of a chunk, of those before it -/
def nextw (b : List Int) (n : Nat) (l : List Int) : Int :=
  if n < 16 then word b n else ad (ad (ad (mix 17 19 10 (l.getD (n - 2) 0)) (l.getD (n - 7) 0)) (mix 7 18 3 (l.getD (n - 15) 0))) (l.getD (n - 16) 0)
def wl (b : List Int) : Nat → List Int
  | 0 => []
  | n + 1 => wl b n ++ [nextw b n (wl b n)]
@[simp] theorem wl_length (b : List Int) (n : Nat) : (wl b n).length = n := by induction n <;> simp_all [wl]
/-- word number i of a chunk -/
def ww (b : List Int) (i : Nat) : Int := nextw b i (wl b i)
theorem wl_getD (b : List Int) (n i : Nat) (h : i < n) : (wl b n).getD i 0 = ww b i := by
  induction n with
  | zero => omega
  | succ n ih =>
    by_cases e : i = n
    · subst e; rw [List.getD_eq_getElem?_getD]; simp [wl, ww]
    · have := ih (by omega)
      rw [List.getD_eq_getElem?_getD] at this ⊢
      simp only [wl]
      rw [List.getElem?_append_left (by simp; omega)]
      exact this
theorem wl_eq (b : List Int) (n : Nat) : wl b n = (List.range n).map (ww b) := by
  induction n with
  | zero => rfl
  | succ n ih => rw [List.range_succ, List.map_append, ← ih]; rfl
theorem ww_lo (b : List Int) (i : Nat) (h : i < 16) : ww b i = word b i := by simp [ww, nextw, h]
theorem ww_hi (b : List Int) (i : Nat) (h : 16 ≤ i) : ww b i = ad (ad (ad (mix 17 19 10 (ww b (i - 2))) (ww b (i - 7))) (mix 7 18 3 (ww b (i - 15)))) (ww b (i - 16)) := by
  conv => lhs; unfold ww nextw
  rw [if_neg (by omega), wl_getD b i (i - 2) (by omega), wl_getD b i (i - 7) (by omega), wl_getD b i (i - 15) (by omega), wl_getD b i (i - 16) (by omega)]


def kt : List Int := [1116352408, 1899447441, 3049323471, 3921009573, 961987163, 1508970993, 2453635748, 2870763221, 3624381080, 310598401, 607225278, 1426881987, 1925078388, 2162078206, 2614888103, 3248222580, 3835390401, 4022224774, 264347078, 604807628, 770255983, 1249150122, 1555081692, 1996064986, 2554220882, 2821834349, 2952996808, 3210313671, 3336571891, 3584528711, 113926993, 338241895, 666307205, 773529912, 1294757372, 1396182291, 1695183700, 1986661051, 2177026350, 2456956037, 2730485921, 2820302411, 3259730800, 3345764771, 3516065817, 3600352804, 4094571909, 275423344, 430227734, 506948616, 659060556, 883997877, 958139571, 1322822218, 1537002063, 1747873779, 1955562222, 2024104815, 2227730452, 2361852424, 2428436474, 2756734187, 3204031479, 3329325298]
def iv : List Int := [1779033703, 3144134277, 1013904242, 2773480762, 1359893119, 2600822924, 528734635, 1541459225]

/-- the eight words that a hash goes on with -/
structure St where
  a : Int
  b : Int
  c : Int
  d : Int
  e : Int
  f : Int
  g : Int
  h : Int
def St.l (s : St) : List Int := [s.a, s.b, s.c, s.d, s.e, s.f, s.g, s.h]
def iv0 : St := ⟨1779033703, 3144134277, 1013904242, 2773480762, 1359893119, 2600822924, 528734635, 1541459225⟩

def t1s (s : St) (k w : Int) : Int := s.h + sig 6 11 25 s.e + bits .xor .u32 (bits .and .u32 s.e s.f) (bits .and .u32 (bits .xor .u32 IntKind.u32.max s.e) s.g) + k + w
def t2s (s : St) : Int := sig 2 13 22 s.a + bits .xor .u32 (bits .xor .u32 (bits .and .u32 s.a s.b) (bits .and .u32 s.a s.c)) (bits .and .u32 s.b s.c)
/-- a round -/
def rnd (s : St) (k w : Int) : St := ⟨(t1s s k w + t2s s) % 4294967296, s.a, s.b, s.c, (s.d + t1s s k w) % 4294967296, s.e, s.f, s.g⟩
def rndn (s : St) (ws : List Int) : Nat → St
  | 0 => s
  | t + 1 => rnd (rndn s ws t) (kt.getD t 0) (ws.getD t 0)
/-- a state and a chunk -/
def fin (s z : St) : St := ⟨(s.a + z.a) % 4294967296, (s.b + z.b) % 4294967296, (s.c + z.c) % 4294967296, (s.d + z.d) % 4294967296, (s.e + z.e) % 4294967296, (s.f + z.f) % 4294967296, (s.g + z.g) % 4294967296, (s.h + z.h) % 4294967296⟩
def comp (s : St) (blk : List Int) : St := fin (rndn s (wl blk 64) 64) s
abbrev St.val (s : St) : Value := .agg #[.int .u32 s.a, .int .u32 s.b, .int .u32 s.c, .int .u32 s.d, .int .u32 s.e, .int .u32 s.f, .int .u32 s.g, .int .u32 s.h]
theorem fin_get (s z : St) (i : Nat) (h : i < 8) : (fin s z).l.getD i 0 = (s.l.getD i 0 + z.l.getD i 0) % 4294967296 := by
  match i, h with
  | 0, _ => rfl
  | 1, _ => rfl
  | 2, _ => rfl
  | 3, _ => rfl
  | 4, _ => rfl
  | 5, _ => rfl
  | 6, _ => rfl
  | 7, _ => rfl


/-! ### bytes that go on -/
def eatN : Nat → St → List Int → St × List Int
  | 0, z, l => (z, l)
  | f + 1, z, l => if 64 ≤ l.length then eatN f (comp z (l.take 64)) (l.drop 64) else (z, l)
theorem eatN_fuel : ∀ (f g : Nat) (z : St) (l : List Int), l.length ≤ f → l.length ≤ g → eatN f z l = eatN g z l
  | 0, 0, _, _, _, _ => rfl
  | 0, g + 1, z, l, h, _ => by simp only [eatN]; rw [if_neg (by omega)]
  | f + 1, 0, z, l, _, h => by simp only [eatN]; rw [if_neg (by omega)]
  | f + 1, g + 1, z, l, h, k => by
    simp only [eatN]
    split
    · exact eatN_fuel f g _ _ (by rw [List.length_drop]; omega) (by rw [List.length_drop]; omega)
    · rfl
def eat (z : St) (l : List Int) : St × List Int := eatN l.length z l
theorem eat_lo (z : St) (l : List Int) (h : l.length < 64) : eat z l = (z, l) := by
  unfold eat
  cases hl : l.length with
  | zero => rfl
  | succ n => simp only [eatN]; rw [if_neg (by omega)]
theorem eat_hi (z : St) (l : List Int) (h : 64 ≤ l.length) : eat z l = eat (comp z (l.take 64)) (l.drop 64) := by
  unfold eat
  cases hl : l.length with
  | zero => omega
  | succ n =>
    simp only [eatN]
    rw [if_pos (by omega)]
    exact eatN_fuel _ _ _ _ (by rw [List.length_drop]; omega) (Nat.le_refl _)
theorem eat_append (b : List Int) : ∀ (n : Nat) (z : St) (a : List Int), a.length ≤ n → eat z (a ++ b) = eat (eat z a).1 ((eat z a).2 ++ b) := by
  intro n
  induction n with
  | zero => intro z a h; rw [eat_lo z a (by omega)]
  | succ n ih =>
    intro z a h
    by_cases h64 : 64 ≤ a.length
    · rw [eat_hi z a h64, eat_hi z (a ++ b) (by rw [List.length_append]; omega), List.take_append_of_le_length h64, List.drop_append_of_le_length h64]
      exact ih _ _ (by rw [List.length_drop]; omega)
    · rw [eat_lo z a (by omega)]
theorem eat_rest : ∀ (n : Nat) (z : St) (l : List Int), l.length ≤ n → (eat z l).2.length < 64 ∧ ∀ x ∈ (eat z l).2, x ∈ l := by
  intro n
  induction n with
  | zero => intro z l h; rw [eat_lo z l (by omega)]; exact ⟨by show l.length < 64; omega, fun x hx => hx⟩
  | succ n ih =>
    intro z l h
    by_cases h64 : 64 ≤ l.length
    · rw [eat_hi z l h64]
      obtain ⟨a, b⟩ := ih (comp z (l.take 64)) (l.drop 64) (by rw [List.length_drop]; omega)
      exact ⟨a, fun x hx => List.mem_of_mem_drop (b x hx)⟩
    · rw [eat_lo z l (by omega)]; exact ⟨by show l.length < 64; omega, fun x hx => hx⟩

end Go.Proofs.Bl

/- SHA-256's end, as plain functions: the padding, the digest. No program. -/
namespace Go.Proofs.Bl

/-- how many zeros the padding has behind n bytes -/
def padn (n : Nat) : Nat := (119 - n % 64) % 64
/-- the 8 bytes of the length in bits -/
def lenb (n : Nat) : List Int := (List.range 8).map fun k => ((n * 8 / 2 ^ (56 - 8 * k) % 256 : Nat) : Int)
@[simp] theorem lenb_length (n : Nat) : (lenb n).length = 8 := by simp [lenb]
theorem lenb_take (n j : Nat) (h : j < 8) : (lenb n).take (j + 1) = (lenb n).take j ++ [(n : Int) * 8 / 2 ^ (56 - 8 * j) % 256] := by
  rw [List.take_add_one, List.getElem?_eq_getElem (by simpa using h)]
  simp [lenb]
/-- the last chunks: the bytes that wait, 128, zeros, the length -/
def pad (l : List Int) (n : Nat) : List Int := l ++ 128 :: List.replicate (padn l.length) 0 ++ lenb n
theorem pad_length (l : List Int) (n : Nat) : (pad l n).length = l.length + 1 + padn l.length + 8 := by simp [pad]; omega
theorem padn_mod (n : Nat) : (n + 1 + padn n + 8) % 64 = 0 := by unfold padn; omega
theorem lenb_byt (n : Nat) : Byt (lenb n) := fun x hx => by
  obtain ⟨k, _, rfl⟩ := List.mem_map.1 hx
  have := Nat.mod_lt (n * 8 / 2 ^ (56 - 8 * k)) (show 0 < 256 by decide)
  omega
theorem rep_byt (k : Nat) : Byt (List.replicate k 0) := fun x hx => by have := List.eq_of_mem_replicate hx; omega
theorem pad_byt {l : List Int} (n : Nat) (h : Byt l) : Byt (pad l n) :=
  (h.append (fun x hx => by
    rcases List.mem_cons.1 hx with rfl | hx
    · decide
    · exact rep_byt _ x hx)).append (lenb_byt n)

/-- one word's bytes, the highest first -/
def wbytes (x : Int) : List Int := [x / 16777216 % 256, x / 65536 % 256, x / 256 % 256, x % 256]
def St.bytes (s : St) : List Int := wbytes s.a ++ wbytes s.b ++ wbytes s.c ++ wbytes s.d ++ wbytes s.e ++ wbytes s.f ++ wbytes s.g ++ wbytes s.h
@[simp] theorem St.bytes_length (s : St) : s.bytes.length = 32 := rfl
/-- byte number j of a digest -/
def St.byte (s : St) (j : Nat) : Int := s.l.getD (j / 4) 0 / 2 ^ (24 - 8 * (j % 4)) % 256
theorem St.bytes_get (s : St) (j : Nat) (h : j < 32) : s.bytes.getD j 0 = s.byte j := by
  have : j = 0 ∨ j = 1 ∨ j = 2 ∨ j = 3 ∨ j = 4 ∨ j = 5 ∨ j = 6 ∨ j = 7 ∨ j = 8 ∨ j = 9 ∨ j = 10 ∨ j = 11 ∨ j = 12 ∨ j = 13 ∨ j = 14 ∨ j = 15 ∨ j = 16 ∨ j = 17 ∨ j = 18 ∨ j = 19 ∨ j = 20 ∨ j = 21 ∨ j = 22 ∨ j = 23 ∨ j = 24 ∨ j = 25 ∨ j = 26 ∨ j = 27 ∨ j = 28 ∨ j = 29 ∨ j = 30 ∨ j = 31 := by omega
  rcases this with rfl | rfl | rfl | rfl | rfl | rfl | rfl | rfl | rfl | rfl | rfl | rfl | rfl | rfl | rfl | rfl | rfl | rfl | rfl | rfl | rfl | rfl | rfl | rfl | rfl | rfl | rfl | rfl | rfl | rfl | rfl | rfl <;> simp [St.bytes, St.byte, St.l, wbytes]

theorem St.bytes_map (s : St) : (List.range 32).map (fun j => if j < 4 * 8 then s.byte j else 0) = s.bytes := by
  apply List.ext_getElem
  · simp
  · intro i h1 h2
    have h3 : i < 32 := by simpa using h1
    have := s.bytes_get i h3
    rw [List.getD_eq_getElem?_getD, List.getElem?_eq_getElem h2] at this
    simp only [Option.getD_some] at this
    simp [this]
    omega
/-- the words after chunks 0 .. of L -/
def foldc (L : List Int) (z : St) (ks : List Nat) : St := ks.foldl (fun z k => comp z ((L.drop (64 * k)).take 64)) z
theorem foldl_chunks {α : Type} (f : α → List Int → α) (L : List Int) (m : Nat) (z : α) :
    (List.range (m + 1)).foldl (fun z k => f z ((L.drop (64 * k)).take 64)) z = (List.range m).foldl (fun z k => f z (((L.drop 64).drop (64 * k)).take 64)) (f z (L.take 64)) := by
  rw [List.range_succ_eq_map, List.foldl_cons, List.foldl_map]
  simp only [List.drop_drop, Nat.mul_zero, List.drop_zero]
  have : (fun (x : α) (y : Nat) => f x (List.take 64 (List.drop (64 * y.succ) L))) = fun z k => f z (List.take 64 (List.drop (64 + 64 * k) L)) := by
    funext z k
    rw [show 64 * (k + 1) = 64 + 64 * k from by omega]
  rw [this]
theorem foldc_range (m : Nat) : ∀ (L : List Int) (z : St), L.length = 64 * m → foldc L z (List.range m) = (eat z L).1 := by
  induction m with
  | zero => intro L z h; rw [eat_lo z L (by omega)]; rfl
  | succ m ih =>
    intro L z h
    rw [eat_hi z L (by omega), ← ih (L.drop 64) (comp z (L.take 64)) (by rw [List.length_drop]; omega)]
    exact foldl_chunks comp L m z
/-- the words at the end -/
def ended (z : St) (l : List Int) (n : Nat) : St := (eat z (pad l n)).1

def sliceLen : Value → Nat
  | .slice _ n _ => n
  | _ => 0
end Go.Proofs.Bl

/- Plain arithmetic of how many leaves stand left of a tree's middle, and of how deep leaves stand. No program. -/
namespace Go.Proofs.Bl
open Go

theorem bitLen_bounds : ∀ (m : Nat), 1 ≤ m → m < 2 ^ 64 → 1 ≤ Lib.bitLen m ∧ 2 ^ (Lib.bitLen m - 1) ≤ m ∧ m < 2 ^ (Lib.bitLen m) := by
  intro m
  induction m using Nat.strongRecOn with
  | _ m ih =>
    intro h1 h2
    rw [Lib.bitLen_half m (by omega) h2]
    by_cases h : m = 1
    · subst h; decide
    · obtain ⟨a, b, c⟩ := ih (m / 2) (by omega) (by omega) (by omega)
      generalize Lib.bitLen (m / 2) = q at a b c
      obtain ⟨q, rfl⟩ : ∃ r, q = r + 1 := ⟨q - 1, by omega⟩
      refine ⟨by omega, ?_, ?_⟩
      · rw [show 1 + (q + 1) - 1 = q + 1 from by omega, Nat.pow_succ]
        simp only [Nat.add_sub_cancel] at b
        omega
      · rw [show 1 + (q + 1) = (q + 1) + 1 from by omega, Nat.pow_succ]
        omega

theorem pow_le_of (a b : Nat) (h : a ≤ b) : 2 ^ a ≤ 2 ^ b := Nat.pow_le_pow_right (by decide) h

theorem bitLen_eq (m j : Nat) (h2 : m < 2 ^ 64) (a : 2 ^ j ≤ m) (b : m < 2 ^ (j + 1)) : Lib.bitLen m = j + 1 := by
  have h1 : 1 ≤ m := Nat.le_trans (Nat.one_le_two_pow) a
  obtain ⟨c, d, e⟩ := bitLen_bounds m h1 h2
  generalize Lib.bitLen m = q at *
  have x1 : ¬ q < j + 1 := fun h => by
    have := pow_le_of q j (by omega)
    omega
  have x2 : ¬ j + 1 < q := fun h => by
    have := pow_le_of (j + 1) (q - 1) (by omega)
    omega
  omega

/-- how many leaves stand left, of n; 0 of fewer than two -/
def sp (n : Nat) : Nat := if n < 2 then 0 else 2 ^ (Lib.bitLen (n - 1) - 1)
/-- how deep leaves stand -/
def dp (n : Nat) : Nat := if n < 2 then 0 else Lib.bitLen (n - 1)

theorem sp_lo (n : Nat) (h : n < 2) : sp n = 0 := by simp [sp, h]
theorem dp_lo (n : Nat) (h : n < 2) : dp n = 0 := by simp [dp, h]

theorem bitLen_lim (n : Nat) (h : 2 ≤ n) (hn : n < 2 ^ 63) : Lib.bitLen (n - 1) ≤ 63 := by
  exact Lib.bitLen_le (n - 1) 63 (by decide) (by omega)

theorem sp_bounds (n : Nat) (h : 2 ≤ n) (hn : n < 2 ^ 63) : 1 ≤ sp n ∧ sp n < n ∧ n - sp n ≤ sp n := by
  obtain ⟨a, b, c⟩ := bitLen_bounds (n - 1) (by omega) (by omega)
  unfold sp
  rw [if_neg (by omega)]
  generalize Lib.bitLen (n - 1) = q at *
  obtain ⟨q, rfl⟩ : ∃ r, q = r + 1 := ⟨q - 1, by omega⟩
  simp only [Nat.add_sub_cancel, Nat.pow_succ] at *
  have := Nat.one_le_two_pow (n := q)
  omega

theorem sp_of_pow (n j : Nat) (hn : n < 2 ^ 63) (a : 2 ^ j < n) (b : n ≤ 2 ^ j * 2) : sp n = 2 ^ j := by
  have := Nat.one_le_two_pow (n := j)
  unfold sp
  rw [if_neg (by omega), bitLen_eq (n - 1) j (by omega) (by omega) (by rw [Nat.pow_succ]; omega)]
  rfl

theorem sp_pow (n : Nat) (h : 2 ≤ n) : sp n = 2 ^ (dp n - 1) := by
  unfold sp dp; rw [if_neg (by omega), if_neg (by omega)]

theorem dp_of_pow (n j : Nat) (hn : n < 2 ^ 63) (a : 2 ^ j < n) (b : n ≤ 2 ^ j * 2) : dp n = j + 1 := by
  have := Nat.one_le_two_pow (n := j)
  unfold dp
  rw [if_neg (by omega), bitLen_eq (n - 1) j (by omega) (by omega) (by rw [Nat.pow_succ]; omega)]

theorem dp_bounds (n : Nat) (h : 2 ≤ n) (hn : n < 2 ^ 63) : 1 ≤ dp n ∧ dp n ≤ 63 ∧ 2 ^ (dp n - 1) < n ∧ n ≤ 2 ^ (dp n) := by
  obtain ⟨a, b, c⟩ := bitLen_bounds (n - 1) (by omega) (by omega)
  have d := bitLen_lim n h hn
  unfold dp
  rw [if_neg (by omega)]
  exact ⟨a, d, by omega, by omega⟩

end Go.Proofs.Bl

/- Trees of digests, plainly: the root of a row, level by level and by halves; the peaks of a tree that grows. No program. -/
namespace Go.Proofs.Bl
open Go
section
variable {D : Type} (nd : D → D → D) (z : D)

def overN : Nat → List D → D
  | 0, _ => z
  | f + 1, l => if l.length < 2 then l.headD z else nd (overN f (l.take (sp l.length))) (overN f (l.drop (sp l.length)))
/-- the root of a row, by halves -/
def over (l : List D) : D := overN nd z l.length l

theorem overN_fuel : ∀ (f g : Nat) (l : List D), l.length ≤ f → l.length ≤ g → l.length < 2 ^ 63 → overN nd z f l = overN nd z g l
  | 0, 0, _, _, _, _ => rfl
  | 0, g + 1, l, h, _, _ => by
    have : l = [] := List.length_eq_zero_iff.1 (by omega)
    subst this; simp [overN]
  | f + 1, 0, l, _, h, _ => by
    have : l = [] := List.length_eq_zero_iff.1 (by omega)
    subst this; simp [overN]
  | f + 1, g + 1, l, h, k, hn => by
    simp only [overN]
    split
    · rfl
    · obtain ⟨a, b, c⟩ := sp_bounds l.length (by omega) hn
      rw [overN_fuel f g (l.take (sp l.length)) (by rw [List.length_take]; omega) (by rw [List.length_take]; omega) (by rw [List.length_take]; omega),
        overN_fuel f g (l.drop (sp l.length)) (by rw [List.length_drop]; omega) (by rw [List.length_drop]; omega) (by rw [List.length_drop]; omega)]
theorem over_nil : over nd z [] = z := rfl
theorem over_one (d : D) : over nd z [d] = d := by simp [over, overN]
theorem over_hi (l : List D) (h : 2 ≤ l.length) (hn : l.length < 2 ^ 63) : over nd z l = nd (over nd z (l.take (sp l.length))) (over nd z (l.drop (sp l.length))) := by
  obtain ⟨a, b, c⟩ := sp_bounds l.length h hn
  unfold over
  rw [overN_fuel nd z l.length (l.length - 1 + 1) l (by omega) (by omega) hn]
  simp only [overN]
  rw [if_neg (by omega)]
  rw [overN_fuel nd z (l.length - 1) (l.take (sp l.length)).length (l.take (sp l.length)) (by rw [List.length_take]; omega) (Nat.le_refl _) (by rw [List.length_take]; omega),
    overN_fuel nd z (l.length - 1) (l.drop (sp l.length)).length (l.drop (sp l.length)) (by rw [List.length_drop]; omega) (Nat.le_refl _) (by rw [List.length_drop]; omega)]

/-- a row's next level: pairs; an odd last one goes up as it is -/
def up : List D → List D
  | a :: b :: r => nd a b :: up r
  | l => l
theorem up_length : ∀ (l : List D), (up nd l).length = (l.length + 1) / 2
  | [] => by simp [up]
  | [a] => by simp [up]
  | a :: b :: r => by simp only [up, List.length_cons, up_length r]; omega
theorem up_append : ∀ (k : Nat) (a b : List D), a.length = 2 * k → up nd (a ++ b) = up nd a ++ up nd b
  | 0, a, b, h => by
    have : a = [] := List.length_eq_zero_iff.1 (by omega)
    subst this; simp [up]
  | k + 1, [], b, h => by simp at h
  | k + 1, [x], b, h => by simp at h; omega
  | k + 1, x :: y :: r, b, h => by
    simp only [List.cons_append, up]
    rw [up_append k r b (by simp at h; omega)]

theorem over_up : ∀ (n : Nat) (l : List D), l.length = n → l.length < 2 ^ 63 → over nd z (up nd l) = over nd z l := by
  intro n
  induction n using Nat.strongRecOn with
  | _ n ih =>
    intro l hl hn
    match l, hl with
    | [], _ => simp [up]
    | [a], _ => simp [up]
    | [a, b], _ =>
      rw [over_hi nd z [a, b] (by simp) (by simp)]
      have : sp 2 = 1 := by decide +kernel
      simp [up, this, over_one]
    | a :: b :: c :: r, hl =>
      obtain ⟨l, hl0⟩ : ∃ l, l = a :: b :: c :: r := ⟨_, rfl⟩
      rw [← hl0] at hl hn ⊢
      have h3 : 3 ≤ l.length := by rw [hl0]; simp
      obtain ⟨d1, d2, d3, d4⟩ := dp_bounds l.length (by omega) hn
      have hsp := sp_pow l.length (by omega)
      obtain ⟨j, hj⟩ : ∃ j, dp l.length = j + 2 := ⟨dp l.length - 2, by
        have : dp l.length ≠ 1 := fun q => by rw [q] at d4; simp at d4; omega
        omega⟩
      rw [hj] at d3 d4 hsp
      simp only [show j + 2 - 1 = j + 1 from rfl] at d3 hsp
      obtain ⟨s1, s2, s3⟩ := sp_bounds l.length (by omega) hn
      have hul := up_length nd l
      have e1 : 2 ^ (j + 1) = 2 * 2 ^ j := by rw [Nat.pow_succ]; omega
      have e2 : 2 ^ (j + 2) = 4 * 2 ^ j := by rw [Nat.pow_succ, Nat.pow_succ]; omega
      have hp := Nat.one_le_two_pow (n := j)
      have hsu : sp (up nd l).length = 2 ^ j := sp_of_pow _ j (by omega) (by omega) (by omega)
      rw [over_hi nd z l (by omega) hn, over_hi nd z (up nd l) (by omega) (by omega), hsu, hsp]
      have hk : l = l.take (2 ^ (j + 1)) ++ l.drop (2 ^ (j + 1)) := (List.take_append_drop _ _).symm
      have htl : (l.take (2 ^ (j + 1))).length = 2 * 2 ^ j := by rw [List.length_take]; omega
      have hu : up nd l = up nd (l.take (2 ^ (j + 1))) ++ up nd (l.drop (2 ^ (j + 1))) := by
        conv => lhs; rw [hk]
        exact up_append nd _ _ _ htl
      have hut : (up nd (l.take (2 ^ (j + 1)))).length = 2 ^ j := by rw [up_length, htl]; omega
      rw [hu, List.take_append_of_le_length (by omega), List.take_of_length_le (by omega), List.drop_append_of_le_length (by omega), List.drop_of_length_le (by omega), List.nil_append]
      rw [ih _ (by omega) (l.take (2 ^ (j + 1))) rfl (by omega), ih _ (by rw [List.length_drop]; omega) (l.drop (2 ^ (j + 1))) rfl (by rw [List.length_drop]; omega)]

theorem up_lt (l : List D) (h : 2 ≤ l.length) : (up nd l).length < l.length := by rw [up_length]; omega

/-! ### the peaks of a tree that grows -/
/-- the greatest power of two that is at most n -/
def gp (n : Nat) : Nat := sp (n + 1)
theorem gp_of_pow (n j : Nat) (hn : n + 1 < 2 ^ 63) (a : 2 ^ j ≤ n) (b : n < 2 ^ j * 2) : gp n = 2 ^ j := sp_of_pow _ j hn (by omega) (by omega)
theorem gp_pow (n : Nat) (h : 1 ≤ n) (hn : n + 1 < 2 ^ 63) : ∃ j, gp n = 2 ^ j ∧ 2 ^ j ≤ n ∧ n < 2 ^ j * 2 := by
  have h1 := sp_pow (n + 1) (by omega)
  obtain ⟨d1, d2, d3, d4⟩ := dp_bounds (n + 1) (by omega) hn
  refine ⟨dp (n + 1) - 1, h1, by omega, ?_⟩
  have : 2 ^ dp (n + 1) = 2 ^ (dp (n + 1) - 1) * 2 := by rw [← Nat.pow_succ]; congr 1; omega
  omega
def peaksN : Nat → List D → List D
  | 0, _ => []
  | f + 1, l => if l.length = 0 then [] else over nd z (l.take (gp l.length)) :: peaksN f (l.drop (gp l.length))
def peaks (l : List D) : List D := peaksN nd z l.length l
theorem peaksN_fuel : ∀ (f g : Nat) (l : List D), l.length ≤ f → l.length ≤ g → l.length + 1 < 2 ^ 63 → peaksN nd z f l = peaksN nd z g l
  | 0, 0, _, _, _, _ => rfl
  | 0, g + 1, l, h, _, _ => by simp only [peaksN]; rw [if_pos (by omega)]
  | f + 1, 0, l, _, h, _ => by simp only [peaksN]; rw [if_pos (by omega)]
  | f + 1, g + 1, l, h, k, hn => by
    simp only [peaksN]
    split
    · rfl
    · obtain ⟨j, h1, h2, h3⟩ := gp_pow l.length (by omega) hn
      have := Nat.one_le_two_pow (n := j)
      rw [peaksN_fuel f g (l.drop (gp l.length)) (by rw [List.length_drop]; omega) (by rw [List.length_drop]; omega) (by rw [List.length_drop]; omega)]
theorem peaks_nil : peaks nd z [] = [] := rfl
theorem peaks_hi (l : List D) (h : 1 ≤ l.length) (hn : l.length + 1 < 2 ^ 63) : peaks nd z l = over nd z (l.take (gp l.length)) :: peaks nd z (l.drop (gp l.length)) := by
  obtain ⟨j, h1, h2, h3⟩ := gp_pow l.length h hn
  have := Nat.one_le_two_pow (n := j)
  unfold peaks
  rw [peaksN_fuel nd z l.length (l.length - 1 + 1) l (by omega) (by omega) hn]
  simp only [peaksN]
  rw [if_neg (by omega)]
  rw [peaksN_fuel nd z (l.length - 1) (l.drop (gp l.length)).length (l.drop (gp l.length)) (by rw [List.length_drop]; omega) (Nat.le_refl _) (by rw [List.length_drop]; omega)]

/-- how many ones a number ends with -/
def trailN : Nat → Nat → Nat
  | 0, _ => 0
  | f + 1, n => if n % 2 = 1 then trailN f (n / 2) + 1 else 0
def trail (n : Nat) : Nat := trailN n n
theorem trailN_fuel : ∀ (f g n : Nat), n ≤ f → n ≤ g → trailN f n = trailN g n
  | 0, 0, _, _, _ => rfl
  | 0, g + 1, n, h, _ => by simp only [trailN]; rw [if_neg (by omega)]
  | f + 1, 0, n, _, h => by simp only [trailN]; rw [if_neg (by omega)]
  | f + 1, g + 1, n, h, k => by
    simp only [trailN]
    split
    · rw [trailN_fuel f g (n / 2) (by omega) (by omega)]
    · rfl
theorem trail_odd (n : Nat) (h : n % 2 = 1) : trail n = trail (n / 2) + 1 := by
  unfold trail
  rw [trailN_fuel n (n - 1 + 1) n (by omega) (by omega)]
  simp only [trailN]
  rw [if_pos h, trailN_fuel (n - 1) (n / 2) (n / 2) (by omega) (Nat.le_refl _)]
theorem trail_even (n : Nat) (h : n % 2 = 0) : trail n = 0 := by
  unfold trail
  cases n with
  | zero => rfl
  | succ n => simp only [trailN]; rw [if_neg (by omega)]
/-- trailing ones of 2^j + r, r below 2^j - 1 -/
theorem trail_add : ∀ (j r : Nat), r + 1 < 2 ^ j → trail (2 ^ j + r) = trail r
  | 0, r, h => by simp at h
  | j + 1, r, h => by
    have e : 2 ^ (j + 1) = 2 * 2 ^ j := by rw [Nat.pow_succ]; omega
    by_cases hr : r % 2 = 1
    · rw [trail_odd (2 ^ (j + 1) + r) (by omega), trail_odd r hr, show (2 ^ (j + 1) + r) / 2 = 2 ^ j + r / 2 from by omega, trail_add j (r / 2) (by omega)]
    · rw [trail_even (2 ^ (j + 1) + r) (by omega), trail_even r (by omega)]
theorem trail_ones : ∀ (j : Nat), trail (2 ^ j - 1) = j
  | 0 => rfl
  | j + 1 => by
    have e : 2 ^ (j + 1) = 2 * 2 ^ j := by rw [Nat.pow_succ]; omega
    have := Nat.one_le_two_pow (n := j)
    rw [trail_odd _ (by omega), show (2 ^ (j + 1) - 1) / 2 = 2 ^ j - 1 from by omega, trail_ones j]

/-- a peak more, as in counting: the last t peaks are taken into it -/
def carry (t : Nat) (ps : List D) (d : D) : List D := ps.take (ps.length - t) ++ [(ps.drop (ps.length - t)).foldr nd d]
theorem carry_cons (t : Nat) (p : D) (ps : List D) (d : D) (h : t ≤ ps.length) : carry nd t (p :: ps) d = p :: carry nd t ps d := by
  unfold carry
  rw [List.length_cons, show ps.length + 1 - t = (ps.length - t) + 1 from by omega]
  rfl
/-- full rows -/
theorem peaks_ones : ∀ (j : Nat) (l : List D) (x : D), l.length + 1 = 2 ^ j → j ≤ 62 → (peaks nd z l).length = j ∧ (peaks nd z l).foldr nd x = over nd z (l ++ [x])
  | 0, l, x, h, _ => by
    have : l = [] := List.length_eq_zero_iff.1 (by simp at h; exact List.length_eq_zero_iff.2 h)
    subst this
    exact ⟨rfl, by simp [peaks_nil, over_one]⟩
  | j + 1, l, x, h, hj => by
    have e : 2 ^ (j + 1) = 2 * 2 ^ j := by rw [Nat.pow_succ]; omega
    have hp := Nat.one_le_two_pow (n := j)
    have hb : 2 ^ (j + 1) ≤ 2 ^ 62 := Nat.pow_le_pow_right (by decide) hj
    have hg : gp l.length = 2 ^ j := gp_of_pow _ j (by omega) (by omega) (by omega)
    obtain ⟨i1, i2⟩ := peaks_ones j (l.drop (2 ^ j)) x (by rw [List.length_drop]; omega) (by omega)
    rw [peaks_hi nd z l (by omega) (by omega), hg]
    refine ⟨by simp [i1], ?_⟩
    have hs : sp (l ++ [x]).length = 2 ^ j := sp_of_pow _ j (by simp; omega) (by simp; omega) (by simp; omega)
    rw [List.foldr_cons, i2, over_hi nd z (l ++ [x]) (by simp; omega) (by simp; omega), hs, List.take_append_of_le_length (by omega), List.drop_append_of_le_length (by omega)]
theorem peaks_trail : ∀ (n : Nat) (l : List D), l.length = n → n + 1 < 2 ^ 62 → trail n ≤ (peaks nd z l).length := by
  intro n
  induction n using Nat.strongRecOn with
  | _ n ih =>
    intro l hl hn
    by_cases h0 : n = 0
    · subst h0; show 0 ≤ _; omega
    · obtain ⟨j, h1, h2, h3⟩ := gp_pow n (by omega) (by omega)
      have hp := Nat.one_le_two_pow (n := j)
      rw [peaks_hi nd z l (by omega) (by omega), hl, h1]
      by_cases hf : n + 1 = 2 ^ j * 2
      · have := (peaks_ones nd z j (l.drop (2 ^ j)) z (by rw [List.length_drop]; omega) (by
          have : j < 63 := (Nat.pow_lt_pow_iff_right (a := 2) (by decide)).1 (by omega)
          omega)).1
        rw [List.length_cons, this, show n = 2 ^ (j + 1) - 1 from by rw [Nat.pow_succ]; omega, trail_ones]
        omega
      · have := ih (n - 2 ^ j) (by omega) (l.drop (2 ^ j)) (by rw [List.length_drop]; omega) (by omega)
        rw [show n = 2 ^ j + (n - 2 ^ j) from by omega, trail_add j _ (by omega), List.length_cons]
        omega
theorem peaks_snoc : ∀ (n : Nat) (l : List D) (x : D), l.length = n → n + 1 < 2 ^ 62 → peaks nd z (l ++ [x]) = carry nd (trail n) (peaks nd z l) x := by
  intro n
  induction n using Nat.strongRecOn with
  | _ n ih =>
    intro l x hl hn
    by_cases h0 : n = 0
    · have : l = [] := List.length_eq_zero_iff.1 (by omega)
      subst this h0
      rw [peaks_hi nd z ([] ++ [x]) (by simp) (by simp)]
      have : gp 1 = 1 := by decide +kernel
      simp [this, over_one, peaks_nil, carry]
    · obtain ⟨j, h1, h2, h3⟩ := gp_pow n (by omega) (by omega)
      have hp := Nat.one_le_two_pow (n := j)
      by_cases hf : n + 1 = 2 ^ j * 2
      · have hj : j + 1 ≤ 62 := by
          have : j < 62 := (Nat.pow_lt_pow_iff_right (a := 2) (by decide)).1 (by omega)
          omega
        obtain ⟨i1, i2⟩ := peaks_ones nd z (j + 1) l x (by rw [Nat.pow_succ]; omega) hj
        have hg : gp (l ++ [x]).length = 2 ^ (j + 1) := gp_of_pow _ (j + 1) (by simp; omega) (by simp [Nat.pow_succ]; omega) (by simp [Nat.pow_succ]; omega)
        rw [peaks_hi nd z (l ++ [x]) (by simp) (by simp; omega), hg, List.take_of_length_le (by simp [Nat.pow_succ]; omega), List.drop_of_length_le (by simp [Nat.pow_succ]; omega), peaks_nil]
        unfold carry
        rw [show n = 2 ^ (j + 1) - 1 from by rw [Nat.pow_succ]; omega, trail_ones, i1, Nat.sub_self, List.take_zero, List.drop_zero, i2]; rfl
      · have hg : gp (l ++ [x]).length = 2 ^ j := gp_of_pow _ j (by simp; omega) (by simp; omega) (by simp; omega)
        rw [peaks_hi nd z (l ++ [x]) (by simp) (by simp; omega), hg, peaks_hi nd z l (by omega) (by omega), hl, h1, List.take_append_of_le_length (by omega), List.drop_append_of_le_length (by omega)]
        have hdl : (l.drop (2 ^ j)).length = n - 2 ^ j := by rw [List.length_drop]; omega
        rw [ih (n - 2 ^ j) (by omega) (l.drop (2 ^ j)) x hdl (by omega)]
        conv => rhs; rw [show n = 2 ^ j + (n - 2 ^ j) from by omega, trail_add j _ (by omega)]
        rw [carry_cons]
        exact peaks_trail nd z _ _ hdl (by omega)

/-- the root out of the peaks -/
def foldp : List D → D
  | [] => z
  | [d] => d
  | p :: r => nd p (foldp r)
theorem peaks_ne (l : List D) (h : 1 ≤ l.length) (hn : l.length + 1 < 2 ^ 63) : peaks nd z l ≠ [] := by rw [peaks_hi nd z l h hn]; simp
theorem foldp_cons (p : D) (r : List D) (h : r ≠ []) : foldp nd z (p :: r) = nd p (foldp nd z r) := by
  cases r with
  | nil => exact absurd rfl h
  | cons => rfl
theorem over_peaks : ∀ (n : Nat) (l : List D), l.length = n → n + 1 < 2 ^ 63 → foldp nd z (peaks nd z l) = over nd z l := by
  intro n
  induction n using Nat.strongRecOn with
  | _ n ih =>
    intro l hl hn
    by_cases h0 : n = 0
    · have : l = [] := List.length_eq_zero_iff.1 (by omega)
      subst this; rfl
    · obtain ⟨j, h1, h2, h3⟩ := gp_pow n (by omega) (by omega)
      have hp := Nat.one_le_two_pow (n := j)
      rw [peaks_hi nd z l (by omega) (by omega), hl, h1]
      have hdl : (l.drop (2 ^ j)).length = n - 2 ^ j := by rw [List.length_drop]; omega
      by_cases hf : n = 2 ^ j
      · rw [List.drop_of_length_le (by omega), List.take_of_length_le (by omega)]; rfl
      · rw [foldp_cons nd z _ _ (peaks_ne nd z _ (by omega) (by omega)), ih _ (by omega) _ hdl (by omega), over_hi nd z l (by omega) (by omega), sp_of_pow l.length j (by omega) (by omega) (by omega)]
end
end Go.Proofs.Bl

/- Paths, plainly: the steps from a root down to a leaf, a leaf's path, the root that a path makes. No program. -/
namespace Go.Proofs.Bl
open Go
def turnsN : Nat → Nat → Nat → List (Bool × Nat × Nat)
  | 0, _, _ => []
  | f + 1, n, i => if n < 2 then [] else if i < sp n then (true, sp n, i) :: turnsN f (sp n) i else (false, n - sp n, i - sp n) :: turnsN f (n - sp n) (i - sp n)
/-- the steps down to leaf i of n: whether it stands left, among how many, where -/
def turnsL (n i : Nat) : List (Bool × Nat × Nat) := turnsN n n i
theorem turnsN_fuel : ∀ (f g n i : Nat), n ≤ f → n ≤ g → n < 2 ^ 63 → turnsN f n i = turnsN g n i
  | 0, 0, _, _, _, _, _ => rfl
  | 0, g + 1, n, i, h, _, _ => by simp only [turnsN]; rw [if_pos (by omega)]
  | f + 1, 0, n, i, _, h, _ => by simp only [turnsN]; rw [if_pos (by omega)]
  | f + 1, g + 1, n, i, h, k, hn => by
    simp only [turnsN]
    split
    · rfl
    · obtain ⟨a, b, c⟩ := sp_bounds n (by omega) hn
      rw [turnsN_fuel f g (sp n) i (by omega) (by omega) (by omega), turnsN_fuel f g (n - sp n) (i - sp n) (by omega) (by omega) (by omega)]
theorem turnsL_lo (n i : Nat) (h : n < 2) : turnsL n i = [] := by
  unfold turnsL
  cases n with
  | zero => rfl
  | succ n => simp only [turnsN]; rw [if_pos h]
theorem turnsL_left (n i : Nat) (h : 2 ≤ n) (hn : n < 2 ^ 63) (hi : i < sp n) : turnsL n i = (true, sp n, i) :: turnsL (sp n) i := by
  obtain ⟨a, b, c⟩ := sp_bounds n h hn
  unfold turnsL
  rw [turnsN_fuel n (n - 1 + 1) n i (by omega) (by omega) hn]
  simp only [turnsN]
  rw [if_neg (by omega), if_pos hi, turnsN_fuel (n - 1) (sp n) (sp n) i (by omega) (Nat.le_refl _) (by omega)]
theorem turnsL_right (n i : Nat) (h : 2 ≤ n) (hn : n < 2 ^ 63) (hi : ¬ i < sp n) : turnsL n i = (false, n - sp n, i - sp n) :: turnsL (n - sp n) (i - sp n) := by
  obtain ⟨a, b, c⟩ := sp_bounds n h hn
  unfold turnsL
  rw [turnsN_fuel n (n - 1 + 1) n i (by omega) (by omega) hn]
  simp only [turnsN]
  rw [if_neg (by omega), if_neg hi, turnsN_fuel (n - 1) (n - sp n) (n - sp n) (i - sp n) (by omega) (Nat.le_refl _) (by omega)]
theorem turnsL_len : ∀ (m n i : Nat), n ≤ m → n < 2 ^ 63 → (turnsL n i).length ≤ n
  | 0, n, i, h, _ => by rw [turnsL_lo n i (by omega)]; exact Nat.zero_le _
  | m + 1, n, i, h, hn => by
    by_cases h2 : 2 ≤ n
    · obtain ⟨a, b, c⟩ := sp_bounds n h2 hn
      by_cases hi : i < sp n
      · rw [turnsL_left n i h2 hn hi, List.length_cons]
        have := turnsL_len m (sp n) i (by omega) (by omega)
        omega
      · rw [turnsL_right n i h2 hn hi, List.length_cons]
        have := turnsL_len m (n - sp n) (i - sp n) (by omega) (by omega)
        omega
    · rw [turnsL_lo n i (by omega)]; exact Nat.zero_le _
/-- is there such a leaf? -/
def thereB (n i : Int) : Bool := decide (n ≤ 512) && decide (0 ≤ i) && decide (i < n)
/-- how many digests a path has -/
def lenP (n i : Int) : Int := if thereB n i = true then ((turnsL n.toNat i.toNat).length : Int) else -1
theorem thereB_mk {n i : Int} (h1 : n ≤ 512) (h2 : 0 ≤ i) (h3 : i < n) : thereB n i = true := by
  unfold thereB; rw [decide_eq_true h1, decide_eq_true h2, decide_eq_true h3]; rfl
theorem thereB_no {n i : Int} (h : ¬ (n ≤ 512 ∧ 0 ≤ i ∧ i < n)) : thereB n i = false := by
  cases hb : thereB n i with
  | false => rfl
  | true =>
    unfold thereB at hb
    simp only [Bool.and_eq_true, decide_eq_true_eq] at hb
    exact absurd ⟨hb.1.1, hb.1.2, hb.2⟩ h
section
variable {D : Type} (nd : D → D → D) (z : D)
def pathN : Nat → List D → Nat → List D
  | 0, _, _ => []
  | f + 1, l, i => if l.length < 2 then [] else if i < sp l.length then pathN f (l.take (sp l.length)) i ++ [over nd z (l.drop (sp l.length))] else pathN f (l.drop (sp l.length)) (i - sp l.length) ++ [over nd z (l.take (sp l.length))]
/-- a leaf's path -/
def pathL (l : List D) (i : Nat) : List D := pathN nd z l.length l i
theorem pathN_fuel : ∀ (f g : Nat) (l : List D) (i : Nat), l.length ≤ f → l.length ≤ g → l.length < 2 ^ 63 → pathN nd z f l i = pathN nd z g l i
  | 0, 0, _, _, _, _, _ => rfl
  | 0, g + 1, l, i, h, _, _ => by simp only [pathN]; rw [if_pos (by omega)]
  | f + 1, 0, l, i, _, h, _ => by simp only [pathN]; rw [if_pos (by omega)]
  | f + 1, g + 1, l, i, h, k, hn => by
    simp only [pathN]
    split
    · rfl
    · obtain ⟨a, b, c⟩ := sp_bounds l.length (by omega) hn
      rw [pathN_fuel f g (l.take (sp l.length)) i (by rw [List.length_take]; omega) (by rw [List.length_take]; omega) (by rw [List.length_take]; omega),
        pathN_fuel f g (l.drop (sp l.length)) (i - sp l.length) (by rw [List.length_drop]; omega) (by rw [List.length_drop]; omega) (by rw [List.length_drop]; omega)]
theorem pathL_lo (l : List D) (i : Nat) (h : l.length < 2) : pathL nd z l i = [] := by
  unfold pathL
  cases hl : l.length with
  | zero => rfl
  | succ n => simp only [pathN]; rw [if_pos h]
theorem pathL_left (l : List D) (i : Nat) (h : 2 ≤ l.length) (hn : l.length < 2 ^ 63) (hi : i < sp l.length) : pathL nd z l i = pathL nd z (l.take (sp l.length)) i ++ [over nd z (l.drop (sp l.length))] := by
  obtain ⟨a, b, c⟩ := sp_bounds l.length h hn
  unfold pathL
  rw [pathN_fuel nd z l.length (l.length - 1 + 1) l i (by omega) (by omega) hn]
  simp only [pathN]
  rw [if_neg (by omega), if_pos hi, pathN_fuel nd z (l.length - 1) (l.take (sp l.length)).length _ i (by rw [List.length_take]; omega) (Nat.le_refl _) (by rw [List.length_take]; omega)]
theorem pathL_right (l : List D) (i : Nat) (h : 2 ≤ l.length) (hn : l.length < 2 ^ 63) (hi : ¬ i < sp l.length) : pathL nd z l i = pathL nd z (l.drop (sp l.length)) (i - sp l.length) ++ [over nd z (l.take (sp l.length))] := by
  obtain ⟨a, b, c⟩ := sp_bounds l.length h hn
  unfold pathL
  rw [pathN_fuel nd z l.length (l.length - 1 + 1) l i (by omega) (by omega) hn]
  simp only [pathN]
  rw [if_neg (by omega), if_neg hi, pathN_fuel nd z (l.length - 1) (l.drop (sp l.length)).length _ (i - sp l.length) (by rw [List.length_drop]; omega) (Nat.le_refl _) (by rw [List.length_drop]; omega)]
theorem pathL_len : ∀ (m : Nat) (l : List D) (i : Nat), l.length ≤ m → l.length < 2 ^ 63 → (pathL nd z l i).length = (turnsL l.length i).length
  | 0, l, i, h, _ => by rw [pathL_lo nd z l i (by omega), turnsL_lo _ _ (by omega)]; rfl
  | m + 1, l, i, h, hn => by
    by_cases h2 : 2 ≤ l.length
    · obtain ⟨a, b, c⟩ := sp_bounds l.length h2 hn
      by_cases hi : i < sp l.length
      · have ih := pathL_len m (l.take (sp l.length)) i (by rw [List.length_take]; omega) (by rw [List.length_take]; omega)
        rw [List.length_take, Nat.min_eq_left (by omega)] at ih
        rw [pathL_left nd z l i h2 hn hi, turnsL_left _ _ h2 hn hi]
        simp only [List.length_append, List.length_cons, List.length_nil, ih]
      · have ih := pathL_len m (l.drop (sp l.length)) (i - sp l.length) (by rw [List.length_drop]; omega) (by rw [List.length_drop]; omega)
        rw [List.length_drop] at ih
        rw [pathL_right nd z l i h2 hn hi, turnsL_right _ _ h2 hn hi]
        simp only [List.length_append, List.length_cons, List.length_nil, ih]
    · rw [pathL_lo nd z l i (by omega), turnsL_lo _ _ (by omega)]; rfl
/-- a step up -/
def upP (d : D) (t : Bool × Nat × Nat) (s : D) : D := if t.1 then nd d s else nd s d
/-- the root that a path makes, step by step from the leaf on -/
def climb (d : D) : List ((Bool × Nat × Nat) × D) → D
  | [] => d
  | (t, s) :: r => climb (upP nd d t s) r
theorem climb_snoc (t : Bool × Nat × Nat) (s : D) : ∀ (l : List ((Bool × Nat × Nat) × D)) (d : D), climb nd d (l ++ [(t, s)]) = upP nd (climb nd d l) t s
  | [], _ => rfl
  | (t', s') :: r, d => climb_snoc t s r (upP nd d t' s')
/-- the root that a path of the right length makes of a leaf's digest -/
def foldP (n i : Nat) (d : D) (p : List D) : D := climb nd d ((turnsL n i).reverse.zip p)
theorem foldP_lo (n i : Nat) (d : D) (p : List D) (h : n < 2) : foldP nd n i d p = d := by
  unfold foldP; rw [turnsL_lo n i h]; rfl
theorem foldP_left (n i : Nat) (d s : D) (p : List D) (h : 2 ≤ n) (hn : n < 2 ^ 63) (hi : i < sp n) (hp : p.length = (turnsL (sp n) i).length) : foldP nd n i d (p ++ [s]) = nd (foldP nd (sp n) i d p) s := by
  unfold foldP
  rw [turnsL_left n i h hn hi, List.reverse_cons, List.zip_append (by rw [List.length_reverse, hp])]
  exact climb_snoc nd _ _ _ _
theorem foldP_right (n i : Nat) (d s : D) (p : List D) (h : 2 ≤ n) (hn : n < 2 ^ 63) (hi : ¬ i < sp n) (hp : p.length = (turnsL (n - sp n) (i - sp n)).length) : foldP nd n i d (p ++ [s]) = nd s (foldP nd (n - sp n) (i - sp n) d p) := by
  unfold foldP
  rw [turnsL_right n i h hn hi, List.reverse_cons, List.zip_append (by rw [List.length_reverse, hp])]
  exact climb_snoc nd _ _ _ _
/-- a leaf's own path makes the root -/
theorem foldP_path : ∀ (m : Nat) (l : List D) (i : Nat), l.length ≤ m → i < l.length → l.length < 2 ^ 63 → foldP nd l.length i (l.getD i z) (pathL nd z l i) = over nd z l
  | 0, l, i, h, hi, _ => by omega
  | m + 1, l, i, h, hi, hn => by
    by_cases h2 : 2 ≤ l.length
    · obtain ⟨a, b, c⟩ := sp_bounds l.length h2 hn
      by_cases hs : i < sp l.length
      · have hl : (l.take (sp l.length)).length = sp l.length := by rw [List.length_take]; omega
        have ih := foldP_path m (l.take (sp l.length)) i (by omega) (by omega) (by omega)
        rw [hl] at ih
        have e : (l.take (sp l.length)).getD i z = l.getD i z := by
          rw [List.getD_eq_getElem?_getD, List.getD_eq_getElem?_getD, List.getElem?_take, if_pos hs]
        rw [e] at ih
        rw [pathL_left nd z l i h2 hn hs, foldP_left nd _ _ _ _ _ h2 hn hs (by rw [pathL_len nd z _ _ i (Nat.le_refl _) (by omega), hl]), ih, over_hi nd z l h2 hn]
      · have hl : (l.drop (sp l.length)).length = l.length - sp l.length := by rw [List.length_drop]
        have ih := foldP_path m (l.drop (sp l.length)) (i - sp l.length) (by omega) (by omega) (by omega)
        rw [hl] at ih
        have e : (l.drop (sp l.length)).getD (i - sp l.length) z = l.getD i z := by
          rw [List.getD_eq_getElem?_getD, List.getD_eq_getElem?_getD, List.getElem?_drop]
          congr 2; omega
        rw [e] at ih
        rw [pathL_right nd z l i h2 hn hs, foldP_right nd _ _ _ _ _ h2 hn hs (by rw [pathL_len nd z _ _ _ (Nat.le_refl _) (by omega), hl]), ih, over_hi nd z l h2 hn]
    · match l, hi, h2 with
      | [d], hi, _ =>
        obtain rfl : i = 0 := by simpa using hi
        rw [foldP_lo nd _ _ _ _ (by simp), over_one]; rfl
      | _ :: _ :: _, _, h2 => simp at h2
      | [], hi, _ => simp at hi
end
end Go.Proofs.Bl

/- Proofs that a tree has grown, plainly: their steps, how many digests, the proof itself, both roots that it makes. No program. -/
namespace Go.Proofs.Bl
open Go
theorem sp_same (m n : Nat) (h : 2 ≤ n) (hn : n < 2 ^ 63) (h1 : sp n < m) (h2 : m ≤ n) : sp m = sp n := by
  have e := sp_pow n h
  obtain ⟨a, b, c⟩ := sp_bounds n h hn
  rw [e] at a b c h1
  rw [e]
  exact sp_of_pow m _ (by omega) h1 (by omega)
/-- the steps of a proof about the first m of n, that stand from fr on: whether the first ones' root is told, from, to; whether it is then about all from the beginning; where it then begins -/
def stepsN : Nat → Nat → Nat → Nat → Bool → List (Bool × Nat × Nat) × Bool × Nat
  | 0, _, _, fr, w => ([], w, fr)
  | f + 1, m, n, fr, w =>
    if m < n then
      if m ≤ sp n then ((false, fr + sp n, fr + n) :: (stepsN f m (sp n) fr w).1, (stepsN f m (sp n) fr w).2)
      else ((true, fr, fr + sp n) :: (stepsN f (m - sp n) (n - sp n) (fr + sp n) false).1, (stepsN f (m - sp n) (n - sp n) (fr + sp n) false).2)
    else ([], w, fr)
def stepsL (m n fr : Nat) (w : Bool) : List (Bool × Nat × Nat) × Bool × Nat := stepsN n m n fr w
theorem stepsN_fuel : ∀ (f g m n fr : Nat) (w : Bool), 1 ≤ m → n ≤ f → n ≤ g → n < 2 ^ 63 → stepsN f m n fr w = stepsN g m n fr w
  | 0, 0, _, _, _, _, _, _, _, _ => rfl
  | 0, g + 1, m, n, fr, w, hm, h, _, _ => by simp only [stepsN]; rw [if_neg (by omega)]
  | f + 1, 0, m, n, fr, w, hm, _, h, _ => by simp only [stepsN]; rw [if_neg (by omega)]
  | f + 1, g + 1, m, n, fr, w, hm, h, k, hn => by
    simp only [stepsN]
    by_cases h1 : m < n
    · obtain ⟨a, b, c⟩ := sp_bounds n (by omega) hn
      rw [if_pos h1, if_pos h1]
      by_cases h2 : m ≤ sp n
      · rw [if_pos h2, if_pos h2, stepsN_fuel f g m (sp n) fr w hm (by omega) (by omega) (by omega)]
      · rw [if_neg h2, if_neg h2, stepsN_fuel f g (m - sp n) (n - sp n) (fr + sp n) false (by omega) (by omega) (by omega) (by omega)]
    · rw [if_neg h1, if_neg h1]
theorem stepsL_end (m n fr : Nat) (w : Bool) (h : ¬ m < n) : stepsL m n fr w = ([], w, fr) := by
  unfold stepsL
  cases n with
  | zero => rfl
  | succ n => simp only [stepsN]; rw [if_neg h]
theorem stepsL_left (m n fr : Nat) (w : Bool) (hm : 1 ≤ m) (hn : n < 2 ^ 63) (h : m < n) (hs : m ≤ sp n) : stepsL m n fr w = ((false, fr + sp n, fr + n) :: (stepsL m (sp n) fr w).1, (stepsL m (sp n) fr w).2) := by
  obtain ⟨a, b, c⟩ := sp_bounds n (by omega) hn
  unfold stepsL
  rw [stepsN_fuel n (n - 1 + 1) m n fr w hm (by omega) (by omega) hn]
  simp only [stepsN]
  rw [if_pos h, if_pos hs, stepsN_fuel (n - 1) (sp n) m (sp n) fr w hm (by omega) (Nat.le_refl _) (by omega)]
theorem stepsL_right (m n fr : Nat) (w : Bool) (hm : 1 ≤ m) (hn : n < 2 ^ 63) (h : m < n) (hs : ¬ m ≤ sp n) : stepsL m n fr w = ((true, fr, fr + sp n) :: (stepsL (m - sp n) (n - sp n) (fr + sp n) false).1, (stepsL (m - sp n) (n - sp n) (fr + sp n) false).2) := by
  obtain ⟨a, b, c⟩ := sp_bounds n (by omega) hn
  unfold stepsL
  rw [stepsN_fuel n (n - 1 + 1) m n fr w hm (by omega) (by omega) hn]
  simp only [stepsN]
  rw [if_pos h, if_neg hs, stepsN_fuel (n - 1) (n - sp n) (m - sp n) (n - sp n) (fr + sp n) false (by omega) (by omega) (Nat.le_refl _) (by omega)]
/-- one induction for all: down the steps -/
theorem steps_ind (P : Nat → Nat → Nat → Bool → Prop) (h0 : ∀ m fr w, 1 ≤ m → P m m fr w)
    (h1 : ∀ m n fr w, 1 ≤ m → n < 2 ^ 63 → m < n → m ≤ sp n → P m (sp n) fr w → P m n fr w)
    (h2 : ∀ m n fr w, 1 ≤ m → n < 2 ^ 63 → m < n → ¬ m ≤ sp n → P (m - sp n) (n - sp n) (fr + sp n) false → P m n fr w) : ∀ n m fr w, 1 ≤ m → m ≤ n → n < 2 ^ 63 → P m n fr w := by
  intro n
  induction n using Nat.strongRecOn with
  | _ n ih =>
    intro m fr w hm hmn hn
    by_cases h : m < n
    · obtain ⟨a, b, c⟩ := sp_bounds n (by omega) hn
      by_cases hs : m ≤ sp n
      · exact h1 m n fr w hm hn h hs (ih (sp n) (by omega) m fr w hm hs (by omega))
      · exact h2 m n fr w hm hn h hs (ih (n - sp n) (by omega) (m - sp n) (fr + sp n) false (by omega) (by omega) (by omega))
    · obtain rfl : m = n := by omega
      exact h0 m fr w hm
theorem steps_len_from : ∀ n m fr w, 1 ≤ m → m ≤ n → n < 2 ^ 63 → ∀ fr', (stepsL m n fr' w).1.length = (stepsL m n fr w).1.length ∧ (stepsL m n fr' w).2.1 = (stepsL m n fr w).2.1 :=
  steps_ind (fun m n fr w => ∀ fr', (stepsL m n fr' w).1.length = (stepsL m n fr w).1.length ∧ (stepsL m n fr' w).2.1 = (stepsL m n fr w).2.1)
    (fun m fr w _ fr' => by rw [stepsL_end _ _ _ _ (Nat.lt_irrefl _), stepsL_end _ _ _ _ (Nat.lt_irrefl _)]; exact ⟨rfl, rfl⟩)
    (fun m n fr w hm hn h hs ih fr' => by
      rw [stepsL_left m n fr' w hm hn h hs, stepsL_left m n fr w hm hn h hs]
      simp only [List.length_cons]
      obtain ⟨i1, i2⟩ := ih fr'
      exact ⟨by rw [i1], i2⟩)
    (fun m n fr w hm hn h hs ih fr' => by
      rw [stepsL_right m n fr' w hm hn h hs, stepsL_right m n fr w hm hn h hs]
      simp only [List.length_cons]
      obtain ⟨i1, i2⟩ := ih (fr' + sp n)
      exact ⟨by rw [i1], i2⟩)
theorem steps_len_le : ∀ n m fr w, 1 ≤ m → m ≤ n → n < 2 ^ 63 → (stepsL m n fr w).1.length < n :=
  steps_ind (fun m n fr w => (stepsL m n fr w).1.length < n)
    (fun m fr w hm => by rw [stepsL_end _ _ _ _ (Nat.lt_irrefl _)]; exact hm)
    (fun m n fr w hm hn h hs ih => by
      obtain ⟨a, b, c⟩ := sp_bounds n (by omega) hn
      rw [stepsL_left m n fr w hm hn h hs]
      simp only [List.length_cons]
      omega)
    (fun m n fr w hm hn h hs ih => by
      obtain ⟨a, b, c⟩ := sp_bounds n (by omega) hn
      rw [stepsL_right m n fr w hm hn h hs]
      simp only [List.length_cons]
      omega)
/-- all steps lie within -/
theorem steps_in : ∀ n m fr w, 1 ≤ m → m ≤ n → n < 2 ^ 63 → (∀ s ∈ (stepsL m n fr w).1, fr ≤ s.2.1 ∧ s.2.1 < s.2.2 ∧ s.2.2 ≤ fr + n) ∧ fr ≤ (stepsL m n fr w).2.2 ∧ (stepsL m n fr w).2.2 < fr + m :=
  steps_ind (fun m n fr w => (∀ s ∈ (stepsL m n fr w).1, fr ≤ s.2.1 ∧ s.2.1 < s.2.2 ∧ s.2.2 ≤ fr + n) ∧ fr ≤ (stepsL m n fr w).2.2 ∧ (stepsL m n fr w).2.2 < fr + m)
    (fun m fr w hm => by
      rw [stepsL_end _ _ _ _ (Nat.lt_irrefl _)]
      exact ⟨fun s hs => (by cases hs), Nat.le_refl _, by show fr < fr + m; omega⟩)
    (fun m n fr w hm hn h hs ih => by
      obtain ⟨a, b, c⟩ := sp_bounds n (by omega) hn
      rw [stepsL_left m n fr w hm hn h hs]
      obtain ⟨i1, i2, i3⟩ := ih
      refine ⟨fun s hs => ?_, i2, i3⟩
      rcases List.mem_cons.1 hs with rfl | hs
      · exact ⟨by show fr ≤ fr + sp n; omega, by show fr + sp n < fr + n; omega, Nat.le_refl _⟩
      · obtain ⟨j1, j2, j3⟩ := i1 s hs
        exact ⟨j1, j2, by omega⟩)
    (fun m n fr w hm hn h hs ih => by
      obtain ⟨a, b, c⟩ := sp_bounds n (by omega) hn
      rw [stepsL_right m n fr w hm hn h hs]
      obtain ⟨i1, i2, i3⟩ := ih
      refine ⟨fun s hs => ?_, by show fr ≤ (stepsL (m - sp n) (n - sp n) (fr + sp n) false).2.2; omega, by show (stepsL (m - sp n) (n - sp n) (fr + sp n) false).2.2 < fr + m; omega⟩
      rcases List.mem_cons.1 hs with rfl | hs
      · exact ⟨Nat.le_refl _, by show fr < fr + sp n; omega, by show fr + sp n ≤ fr + n; omega⟩
      · obtain ⟨j1, j2, j3⟩ := i1 s hs
        exact ⟨by omega, j2, by omega⟩)
/-- where a proof's last part begins: the end of the last root that was told of the first ones -/
def atOf (fr : Nat) (l : List (Bool × Nat × Nat)) : Nat := l.foldl (fun a s => if s.1 = true then s.2.2 else a) fr
theorem steps_at : ∀ n m fr w, 1 ≤ m → m ≤ n → n < 2 ^ 63 → atOf fr (stepsL m n fr w).1 = (stepsL m n fr w).2.2 :=
  steps_ind (fun m n fr w => atOf fr (stepsL m n fr w).1 = (stepsL m n fr w).2.2)
    (fun m fr w _ => by rw [stepsL_end _ _ _ _ (Nat.lt_irrefl _)]; rfl)
    (fun m n fr w hm hn h hs ih => by
      rw [stepsL_left m n fr w hm hn h hs]
      exact ih)
    (fun m n fr w hm hn h hs ih => by
      rw [stepsL_right m n fr w hm hn h hs]
      exact ih)
/-- how many digests a proof has -/
def cntG (m n : Nat) (w : Bool) : Nat := (stepsL m n 0 w).1.length + (if (stepsL m n 0 w).2.1 = true then 0 else 1)
theorem cntG_end (m : Nat) (w : Bool) : cntG m m w = if w = true then 0 else 1 := by
  unfold cntG; rw [stepsL_end _ _ _ _ (Nat.lt_irrefl _)]; simp
theorem cntG_left (m n : Nat) (w : Bool) (hm : 1 ≤ m) (hn : n < 2 ^ 63) (h : m < n) (hs : m ≤ sp n) : cntG m n w = 1 + cntG m (sp n) w := by
  unfold cntG
  rw [stepsL_left m n 0 w hm hn h hs]
  simp only [List.length_cons]
  omega
theorem cntG_right (m n : Nat) (w : Bool) (hm : 1 ≤ m) (hn : n < 2 ^ 63) (h : m < n) (hs : ¬ m ≤ sp n) : cntG m n w = 1 + cntG (m - sp n) (n - sp n) false := by
  obtain ⟨a, b, c⟩ := sp_bounds n (by omega) hn
  unfold cntG
  rw [stepsL_right m n 0 w hm hn h hs]
  obtain ⟨i1, i2⟩ := steps_len_from (n - sp n) (m - sp n) 0 false (by omega) (by omega) (by omega) (0 + sp n)
  simp only [List.length_cons]
  rw [i1, i2]
  omega
section
variable {D : Type} (nd : D → D → D) (z : D)
/-- the proof of the first m leaves, by halves -/
def prN : Nat → List D → Nat → Bool → List D
  | 0, _, _, _ => []
  | f + 1, l, m, w =>
    if m < l.length then
      if m ≤ sp l.length then prN f (l.take (sp l.length)) m w ++ [over nd z (l.drop (sp l.length))]
      else prN f (l.drop (sp l.length)) (m - sp l.length) false ++ [over nd z (l.take (sp l.length))]
    else if w = true then [] else [over nd z l]
def prG (l : List D) (m : Nat) (w : Bool) : List D := prN nd z l.length l m w
theorem prN_fuel : ∀ (f g : Nat) (l : List D) (m : Nat) (w : Bool), 1 ≤ m → m ≤ l.length → l.length ≤ f → l.length ≤ g → l.length < 2 ^ 63 → prN nd z f l m w = prN nd z g l m w
  | 0, _, _, _, _, hm, h1, h, _, _ => by omega
  | _ + 1, 0, _, _, _, hm, h1, _, h, _ => by omega
  | f + 1, g + 1, l, m, w, hm, h1, h, k, hn => by
    simp only [prN]
    by_cases hlt : m < l.length
    · obtain ⟨a, b, c⟩ := sp_bounds l.length (by omega) hn
      rw [if_pos hlt, if_pos hlt]
      by_cases hs : m ≤ sp l.length
      · rw [if_pos hs, if_pos hs, prN_fuel f g (l.take (sp l.length)) m w hm (by rw [List.length_take]; omega) (by rw [List.length_take]; omega) (by rw [List.length_take]; omega) (by rw [List.length_take]; omega)]
      · rw [if_neg hs, if_neg hs, prN_fuel f g (l.drop (sp l.length)) (m - sp l.length) false (by omega) (by rw [List.length_drop]; omega) (by rw [List.length_drop]; omega) (by rw [List.length_drop]; omega) (by rw [List.length_drop]; omega)]
    · rw [if_neg hlt, if_neg hlt]
theorem prG_end (l : List D) (w : Bool) (h : 1 ≤ l.length) : prG nd z l l.length w = if w = true then [] else [over nd z l] := by
  unfold prG
  obtain ⟨k, hk⟩ : ∃ k, l.length = k + 1 := ⟨l.length - 1, by omega⟩
  conv => lhs; rw [show l.length = k + 1 from hk]
  simp only [prN]
  rw [if_neg (by omega)]
theorem prG_left (l : List D) (m : Nat) (w : Bool) (hm : 1 ≤ m) (hn : l.length < 2 ^ 63) (h : m < l.length) (hs : m ≤ sp l.length) : prG nd z l m w = prG nd z (l.take (sp l.length)) m w ++ [over nd z (l.drop (sp l.length))] := by
  obtain ⟨a, b, c⟩ := sp_bounds l.length (by omega) hn
  unfold prG
  rw [prN_fuel nd z l.length (l.length - 1 + 1) l m w hm (by omega) (by omega) (by omega) hn]
  simp only [prN]
  rw [if_pos h, if_pos hs, prN_fuel nd z (l.length - 1) (l.take (sp l.length)).length (l.take (sp l.length)) m w hm (by rw [List.length_take]; omega) (by rw [List.length_take]; omega) (Nat.le_refl _) (by rw [List.length_take]; omega)]
theorem prG_right (l : List D) (m : Nat) (w : Bool) (hm : 1 ≤ m) (hn : l.length < 2 ^ 63) (h : m < l.length) (hs : ¬ m ≤ sp l.length) : prG nd z l m w = prG nd z (l.drop (sp l.length)) (m - sp l.length) false ++ [over nd z (l.take (sp l.length))] := by
  obtain ⟨a, b, c⟩ := sp_bounds l.length (by omega) hn
  unfold prG
  rw [prN_fuel nd z l.length (l.length - 1 + 1) l m w hm (by omega) (by omega) (by omega) hn]
  simp only [prN]
  rw [if_pos h, if_neg hs, prN_fuel nd z (l.length - 1) (l.drop (sp l.length)).length (l.drop (sp l.length)) (m - sp l.length) false (by omega) (by rw [List.length_drop]; omega) (by rw [List.length_drop]; omega) (Nat.le_refl _) (by rw [List.length_drop]; omega)]
/-- a piece of a row -/
def cutL (L : List D) (a b : Nat) : List D := (L.drop a).take (b - a)
/-- the proof, out of the steps from the root down -/
theorem prG_steps (L : List D) : ∀ (n m fr : Nat) (w : Bool), 1 ≤ m → m ≤ n → n < 2 ^ 63 → fr + n ≤ L.length →
    prG nd z (cutL L fr (fr + n)) m w = ((stepsL m n fr w).1.map (fun s => over nd z (cutL L s.2.1 s.2.2)) ++ (if (stepsL m n fr w).2.1 = true then [] else [over nd z (cutL L (stepsL m n fr w).2.2 (fr + m))])).reverse := by
  have hcl : ∀ a b, b ≤ L.length → a ≤ b → (cutL L a b).length = b - a := fun a b h1 h2 => by unfold cutL; rw [List.length_take, List.length_drop]; omega
  refine steps_ind (fun m n fr w => fr + n ≤ L.length → prG nd z (cutL L fr (fr + n)) m w = ((stepsL m n fr w).1.map (fun s => over nd z (cutL L s.2.1 s.2.2)) ++ (if (stepsL m n fr w).2.1 = true then [] else [over nd z (cutL L (stepsL m n fr w).2.2 (fr + m))])).reverse) ?_ ?_ ?_
  · intro m fr w hm hL
    have hl := hcl fr (fr + m) hL (by omega)
    have := prG_end nd z (cutL L fr (fr + m)) w (by omega)
    rw [hl, show fr + m - fr = m from by omega] at this
    rw [this, stepsL_end _ _ _ _ (Nat.lt_irrefl _)]
    simp only [List.map_nil, List.nil_append]
    cases w <;> rfl
  · intro m n fr w hm hn h hs ih hL
    obtain ⟨a, b, c⟩ := sp_bounds n (by omega) hn
    have hl := hcl fr (fr + n) hL (by omega)
    rw [show fr + n - fr = n from by omega] at hl
    have h1 := prG_left nd z (cutL L fr (fr + n)) m w hm (by omega) (by omega) (by rw [hl]; exact hs)
    rw [hl] at h1
    have e1 : (cutL L fr (fr + n)).take (sp n) = cutL L fr (fr + sp n) := by
      unfold cutL
      rw [List.take_take, show min (sp n) (fr + n - fr) = fr + sp n - fr from by omega]
    have e2 : (cutL L fr (fr + n)).drop (sp n) = cutL L (fr + sp n) (fr + n) := by
      unfold cutL
      rw [List.drop_take, List.drop_drop, show fr + n - fr - sp n = fr + n - (fr + sp n) from by omega]
    rw [h1, e1, e2, ih (by omega), stepsL_left m n fr w hm hn h hs]
    simp only [List.map_cons, List.cons_append, List.reverse_cons]
  · intro m n fr w hm hn h hs ih hL
    obtain ⟨a, b, c⟩ := sp_bounds n (by omega) hn
    have hl := hcl fr (fr + n) hL (by omega)
    rw [show fr + n - fr = n from by omega] at hl
    have h1 := prG_right nd z (cutL L fr (fr + n)) m w hm (by omega) (by omega) (by rw [hl]; exact hs)
    rw [hl] at h1
    have e1 : (cutL L fr (fr + n)).take (sp n) = cutL L fr (fr + sp n) := by
      unfold cutL
      rw [List.take_take, show min (sp n) (fr + n - fr) = fr + sp n - fr from by omega]
    have e2 : (cutL L fr (fr + n)).drop (sp n) = cutL L (fr + sp n) (fr + sp n + (n - sp n)) := by
      unfold cutL
      rw [List.drop_take, List.drop_drop, show fr + n - fr - sp n = fr + sp n + (n - sp n) - (fr + sp n) from by omega]
    rw [h1, e1, e2, ih (by omega), stepsL_right m n fr w hm hn h hs, show fr + sp n + (m - sp n) = fr + m from by omega]
    simp only [List.map_cons, List.cons_append, List.reverse_cons]
/-- a step up with both roots -/
def up2 (r : D × D) (left : Bool) (d : D) : D × D := if left = true then (nd d r.1, nd d r.2) else (r.1, nd r.2 d)
def climb2 (r : D × D) : List (Bool × D) → D × D
  | [] => r
  | (b, d) :: t => climb2 (up2 nd r b d) t
theorem climb2_snoc (b : Bool) (d : D) : ∀ (l : List (Bool × D)) (r : D × D), climb2 nd r (l ++ [(b, d)]) = up2 nd (climb2 nd r l) b d
  | [], _ => rfl
  | (b', d') :: t, r => climb2_snoc b d t (up2 nd r b' d')
/-- both roots that a proof of the right length makes -/
def madeG (m n : Nat) (old : D) (w : Bool) (p : List D) : D × D :=
  if (stepsL m n 0 w).2.1 = true then climb2 nd (old, old) (((stepsL m n 0 w).1.map (·.1)).reverse.zip p)
  else climb2 nd (p.headD z, p.headD z) (((stepsL m n 0 w).1.map (·.1)).reverse.zip p.tail)
theorem madeG_end (m : Nat) (old : D) (w : Bool) (p : List D) : madeG nd z m m old w p = if w = true then (old, old) else (p.headD z, p.headD z) := by
  unfold madeG; rw [stepsL_end _ _ _ _ (Nat.lt_irrefl _)]; rfl
theorem steps_kind_from : ∀ n m fr w, 1 ≤ m → m ≤ n → n < 2 ^ 63 → ∀ fr', (stepsL m n fr' w).1.map (·.1) = (stepsL m n fr w).1.map (·.1) :=
  steps_ind (fun m n fr w => ∀ fr', (stepsL m n fr' w).1.map (·.1) = (stepsL m n fr w).1.map (·.1))
    (fun m fr w _ fr' => by rw [stepsL_end _ _ _ _ (Nat.lt_irrefl _), stepsL_end _ _ _ _ (Nat.lt_irrefl _)])
    (fun m n fr w hm hn h hs ih fr' => by
      rw [stepsL_left m n fr' w hm hn h hs, stepsL_left m n fr w hm hn h hs]
      simp only [List.map_cons]
      rw [ih fr'])
    (fun m n fr w hm hn h hs ih fr' => by
      rw [stepsL_right m n fr' w hm hn h hs, stepsL_right m n fr w hm hn h hs]
      simp only [List.map_cons]
      rw [ih (fr' + sp n)])
theorem madeG_left (m n : Nat) (old : D) (w : Bool) (q : List D) (s : D) (hm : 1 ≤ m) (hn : n < 2 ^ 63) (h : m < n) (hs : m ≤ sp n) (hq : q.length = cntG m (sp n) w) :
    madeG nd z m n old w (q ++ [s]) = ((madeG nd z m (sp n) old w q).1, nd (madeG nd z m (sp n) old w q).2 s) := by
  unfold cntG at hq
  unfold madeG
  rw [stepsL_left m n 0 w hm hn h hs]
  simp only [List.map_cons, List.reverse_cons]
  by_cases hw : (stepsL m (sp n) 0 w).2.1 = true
  · rw [if_pos hw] at hq ⊢
    rw [if_pos hw, List.zip_append (by simp; omega)]
    exact climb2_snoc nd _ _ _ _
  · rw [if_neg hw] at hq ⊢
    rw [if_neg hw]
    match q, hq with
    | d :: r, hq =>
      simp only [List.cons_append, List.headD_cons, List.tail_cons, List.length_cons] at hq ⊢
      rw [List.zip_append (by simp; omega)]
      exact climb2_snoc nd _ _ _ _
theorem madeG_right (m n : Nat) (old : D) (w : Bool) (q : List D) (s : D) (hm : 1 ≤ m) (hn : n < 2 ^ 63) (h : m < n) (hs : ¬ m ≤ sp n) (hq : q.length = cntG (m - sp n) (n - sp n) false) :
    madeG nd z m n old w (q ++ [s]) = (nd s (madeG nd z (m - sp n) (n - sp n) old false q).1, nd s (madeG nd z (m - sp n) (n - sp n) old false q).2) := by
  obtain ⟨a, b, c⟩ := sp_bounds n (by omega) hn
  unfold cntG at hq
  unfold madeG
  rw [stepsL_right m n 0 w hm hn h hs]
  obtain ⟨i1, i2⟩ := steps_len_from (n - sp n) (m - sp n) 0 false (by omega) (by omega) (by omega) (0 + sp n)
  have i3 := steps_kind_from (n - sp n) (m - sp n) 0 false (by omega) (by omega) (by omega) (0 + sp n)
  simp only [List.map_cons, List.reverse_cons]
  rw [i2, i3]
  by_cases hw : (stepsL (m - sp n) (n - sp n) 0 false).2.1 = true
  · rw [if_pos hw] at hq ⊢
    rw [if_pos hw, List.zip_append (by simp; omega)]
    exact climb2_snoc nd _ _ _ _
  · rw [if_neg hw] at hq ⊢
    rw [if_neg hw]
    match q, hq with
    | d :: r, hq =>
      simp only [List.cons_append, List.headD_cons, List.tail_cons, List.length_cons] at hq ⊢
      rw [List.zip_append (by simp; omega)]
      exact climb2_snoc nd _ _ _ _
theorem prG_len : ∀ (n m _fr : Nat) (w : Bool), 1 ≤ m → m ≤ n → n < 2 ^ 63 → ∀ l : List D, l.length = n → (prG nd z l m w).length = cntG m n w :=
  steps_ind (fun m n fr w => ∀ l : List D, l.length = n → (prG nd z l m w).length = cntG m n w)
    (fun m fr w hm l hl => by
      subst hl
      rw [prG_end nd z l w hm, cntG_end]
      cases w <;> rfl)
    (fun m n fr w hm hn h hs ih l hl => by
      subst hl
      obtain ⟨a, b, c⟩ := sp_bounds l.length (by omega) hn
      rw [prG_left nd z l m w hm hn h hs, cntG_left m _ w hm hn h hs, List.length_append, ih _ (by rw [List.length_take]; omega), List.length_singleton]
      omega)
    (fun m n fr w hm hn h hs ih l hl => by
      subst hl
      rw [prG_right nd z l m w hm hn h hs, cntG_right m _ w hm hn h hs, List.length_append, ih _ (by rw [List.length_drop]), List.length_singleton]
      omega)
/-- a proof holds -/
theorem made_prG (old : D) : ∀ (n m _fr : Nat) (w : Bool), 1 ≤ m → m ≤ n → n < 2 ^ 63 → ∀ l : List D, l.length = n → (w = true → old = over nd z (l.take m)) → madeG nd z m n old w (prG nd z l m w) = (over nd z (l.take m), over nd z l) :=
  steps_ind (fun m n fr w => ∀ l : List D, l.length = n → (w = true → old = over nd z (l.take m)) → madeG nd z m n old w (prG nd z l m w) = (over nd z (l.take m), over nd z l))
    (fun m fr w hm l hl hw => by
      subst hl
      rw [prG_end nd z l w hm, madeG_end, List.take_length]
      rw [List.take_length] at hw
      cases w with
      | true => rw [← hw rfl]; rfl
      | false => rfl)
    (fun m n fr w hm hn h hs ih l hl hw => by
      subst hl
      obtain ⟨a, b, c⟩ := sp_bounds l.length (by omega) hn
      have htl : (l.take (sp l.length)).length = sp l.length := by rw [List.length_take]; omega
      have htt : (l.take (sp l.length)).take m = l.take m := by rw [List.take_take, Nat.min_eq_left hs]
      have i := ih (l.take (sp l.length)) htl (fun q => by rw [htt]; exact hw q)
      rw [prG_left nd z l m w hm hn h hs, madeG_left nd z m _ old w _ _ hm hn h hs (prG_len nd z _ m 0 w hm hs (by omega) _ htl), i, htt, over_hi nd z l (by omega) hn])
    (fun m n fr w hm hn h hs ih l hl hw => by
      subst hl
      obtain ⟨a, b, c⟩ := sp_bounds l.length (by omega) hn
      have hdl : (l.drop (sp l.length)).length = l.length - sp l.length := by rw [List.length_drop]
      have i := ih (l.drop (sp l.length)) hdl (fun q => by cases q)
      have hm2 : (l.take m).length = m := by rw [List.length_take]; omega
      have hsp := sp_same m l.length (by omega) hn (by omega) (by omega)
      have e1 : over nd z (l.take m) = nd (over nd z (l.take (sp l.length))) (over nd z ((l.drop (sp l.length)).take (m - sp l.length))) := by
        rw [over_hi nd z (l.take m) (by omega) (by omega), hm2, hsp, List.take_take, Nat.min_eq_left (by omega), List.drop_take]
      rw [prG_right nd z l m w hm hn h hs, madeG_right nd z m _ old w _ _ hm hn h hs (prG_len nd z _ (m - sp l.length) 0 false (by omega) (by omega) (by omega) _ hdl), i, e1, over_hi nd z l (by omega) hn])
end
end Go.Proofs.Bl

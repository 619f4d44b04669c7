/- The digest, as plain functions of whole numbers in the walk's own forms. No program. -/
import Derived.Laws.Bits
namespace Go.Proofs.Bl
open Go

def xr (a b : Int) : Int := bits .xor .u32 a b
def an (a b : Int) : Int := bits .and .u32 a b
def orr (a b : Int) : Int := bits .or .u32 a b
/-- a sum of words -/
def ad (a b : Int) : Int := (a + b) % 4294967296
/-- a word turned right -/
def ror (n : Nat) (x : Int) : Int := bits .or .u32 (x * 2 ^ (32 - n) % 4294967296) (x / 2 ^ n)

theorem bits_or_comm (a b : Int) : bits .or .u32 a b = bits .or .u32 b a := by
  simp only [bits, BitVec.or_comm]

def sig (a b c : Nat) (x : Int) : Int := xr (xr (ror a x) (ror b x)) (ror c x)
def mix (a b c : Nat) (x : Int) : Int := xr (xr (ror a x) (ror b x)) (x / 2 ^ c)


/-- a byte behind a word -/
def st4 (acc c : Int) : Int := bits .or .u32 (acc * 256 % 4294967296) c
/-- a word out of four bytes -/
def word (b : List Int) (t : Nat) : Int := ((b.drop (4 * t)).take 4).foldl st4 0
def part (b : List Int) (t j : Nat) : Int := ((b.drop (4 * t)).take j).foldl st4 0
theorem part_zero (b : List Int) (t : Nat) : part b t 0 = 0 := by simp [part]
theorem part_four (b : List Int) (t : Nat) : part b t 4 = word b t := rfl
theorem part_succ (b : List Int) (t j : Nat) (h : 4 * t + j < b.length) : part b t (j + 1) = st4 (part b t j) (b.getD (4 * t + j) 0) := by
  unfold part
  rw [List.take_succ_eq_append_getElem (by simp; omega), List.foldl_append]
  simp [List.getD_eq_getElem?_getD, List.getElem?_eq_getElem h]

/-- the next word of a chunk, of those before it -/
def nextw (b : List Int) (n : Nat) (l : List Int) : Int :=
  if n < 16 then word b n else ad (ad (ad (mix 17 19 10 (l.getD (n - 2) 0)) (l.getD (n - 7) 0)) (mix 7 18 3 (l.getD (n - 15) 0))) (l.getD (n - 16) 0)
def wl (b : List Int) : Nat → List Int
  | 0 => []
  | n + 1 => wl b n ++ [nextw b n (wl b n)]
@[simp] theorem wl_length (b : List Int) (n : Nat) : (wl b n).length = n := by induction n <;> simp_all [wl]
/-- word number i of a chunk -/
def ww (b : List Int) (i : Nat) : Int := nextw b i (wl b i)
theorem wl_getD (b : List Int) (n i : Nat) (h : i < n) : (wl b n).getD i 0 = ww b i := by
  induction n with
  | zero => omega
  | succ n ih =>
    by_cases e : i = n
    · subst e; rw [List.getD_eq_getElem?_getD]; simp [wl, ww]
    · have := ih (by omega)
      rw [List.getD_eq_getElem?_getD] at this ⊢
      simp only [wl]
      rw [List.getElem?_append_left (by simp; omega)]
      exact this
theorem wl_eq (b : List Int) (n : Nat) : wl b n = (List.range n).map (ww b) := by
  induction n with
  | zero => rfl
  | succ n ih => rw [List.range_succ, List.map_append, ← ih]; rfl
theorem ww_lo (b : List Int) (i : Nat) (h : i < 16) : ww b i = word b i := by simp [ww, nextw, h]
theorem ww_hi (b : List Int) (i : Nat) (h : 16 ≤ i) : ww b i = ad (ad (ad (mix 17 19 10 (ww b (i - 2))) (ww b (i - 7))) (mix 7 18 3 (ww b (i - 15)))) (ww b (i - 16)) := by
  conv => lhs; unfold ww nextw
  rw [if_neg (by omega), wl_getD b i (i - 2) (by omega), wl_getD b i (i - 7) (by omega), wl_getD b i (i - 15) (by omega), wl_getD b i (i - 16) (by omega)]


def kt : List Int := [1116352408, 1899447441, 3049323471, 3921009573, 961987163, 1508970993, 2453635748, 2870763221, 3624381080, 310598401, 607225278, 1426881987, 1925078388, 2162078206, 2614888103, 3248222580, 3835390401, 4022224774, 264347078, 604807628, 770255983, 1249150122, 1555081692, 1996064986, 2554220882, 2821834349, 2952996808, 3210313671, 3336571891, 3584528711, 113926993, 338241895, 666307205, 773529912, 1294757372, 1396182291, 1695183700, 1986661051, 2177026350, 2456956037, 2730485921, 2820302411, 3259730800, 3345764771, 3516065817, 3600352804, 4094571909, 275423344, 430227734, 506948616, 659060556, 883997877, 958139571, 1322822218, 1537002063, 1747873779, 1955562222, 2024104815, 2227730452, 2361852424, 2428436474, 2756734187, 3204031479, 3329325298]
def iv : List Int := [1779033703, 3144134277, 1013904242, 2773480762, 1359893119, 2600822924, 528734635, 1541459225]

/-- the eight words that a hash goes on with -/
structure St where
  a : Int
  b : Int
  c : Int
  d : Int
  e : Int
  f : Int
  g : Int
  h : Int
def St.l (s : St) : List Int := [s.a, s.b, s.c, s.d, s.e, s.f, s.g, s.h]
def iv0 : St := ⟨1779033703, 3144134277, 1013904242, 2773480762, 1359893119, 2600822924, 528734635, 1541459225⟩

def t1s (s : St) (k w : Int) : Int := s.h + sig 6 11 25 s.e + bits .xor .u32 (bits .and .u32 s.e s.f) (bits .and .u32 (bits .xor .u32 IntKind.u32.max s.e) s.g) + k + w
def t2s (s : St) : Int := sig 2 13 22 s.a + bits .xor .u32 (bits .xor .u32 (bits .and .u32 s.a s.b) (bits .and .u32 s.a s.c)) (bits .and .u32 s.b s.c)
/-- a round -/
def rnd (s : St) (k w : Int) : St := ⟨(t1s s k w + t2s s) % 4294967296, s.a, s.b, s.c, (s.d + t1s s k w) % 4294967296, s.e, s.f, s.g⟩
def rndn (s : St) (ws : List Int) : Nat → St
  | 0 => s
  | t + 1 => rnd (rndn s ws t) (kt.getD t 0) (ws.getD t 0)
/-- a state and a chunk -/
def fin (s z : St) : St := ⟨(s.a + z.a) % 4294967296, (s.b + z.b) % 4294967296, (s.c + z.c) % 4294967296, (s.d + z.d) % 4294967296, (s.e + z.e) % 4294967296, (s.f + z.f) % 4294967296, (s.g + z.g) % 4294967296, (s.h + z.h) % 4294967296⟩
def comp (s : St) (blk : List Int) : St := fin (rndn s (wl blk 64) 64) s
abbrev St.val (s : St) : Value := .agg #[.int .u32 s.a, .int .u32 s.b, .int .u32 s.c, .int .u32 s.d, .int .u32 s.e, .int .u32 s.f, .int .u32 s.g, .int .u32 s.h]
theorem fin_get (s z : St) (i : Nat) (h : i < 8) : (fin s z).l.getD i 0 = (s.l.getD i 0 + z.l.getD i 0) % 4294967296 := by
  match i, h with
  | 0, _ => rfl
  | 1, _ => rfl
  | 2, _ => rfl
  | 3, _ => rfl
  | 4, _ => rfl
  | 5, _ => rfl
  | 6, _ => rfl
  | 7, _ => rfl


/-! ### bytes that go on -/
def eatN : Nat → St → List Int → St × List Int
  | 0, z, l => (z, l)
  | f + 1, z, l => if 64 ≤ l.length then eatN f (comp z (l.take 64)) (l.drop 64) else (z, l)
theorem eatN_fuel : ∀ (f g : Nat) (z : St) (l : List Int), l.length ≤ f → l.length ≤ g → eatN f z l = eatN g z l
  | 0, 0, _, _, _, _ => rfl
  | 0, g + 1, z, l, h, _ => by simp only [eatN]; rw [if_neg (by omega)]
  | f + 1, 0, z, l, _, h => by simp only [eatN]; rw [if_neg (by omega)]
  | f + 1, g + 1, z, l, h, k => by
    simp only [eatN]
    split
    · exact eatN_fuel f g _ _ (by rw [List.length_drop]; omega) (by rw [List.length_drop]; omega)
    · rfl
def eat (z : St) (l : List Int) : St × List Int := eatN l.length z l
theorem eat_lo (z : St) (l : List Int) (h : l.length < 64) : eat z l = (z, l) := by
  unfold eat
  cases hl : l.length with
  | zero => rfl
  | succ n => simp only [eatN]; rw [if_neg (by omega)]
theorem eat_hi (z : St) (l : List Int) (h : 64 ≤ l.length) : eat z l = eat (comp z (l.take 64)) (l.drop 64) := by
  unfold eat
  cases hl : l.length with
  | zero => omega
  | succ n =>
    simp only [eatN]
    rw [if_pos (by omega)]
    exact eatN_fuel _ _ _ _ (by rw [List.length_drop]; omega) (Nat.le_refl _)
theorem eat_append (b : List Int) : ∀ (n : Nat) (z : St) (a : List Int), a.length ≤ n → eat z (a ++ b) = eat (eat z a).1 ((eat z a).2 ++ b) := by
  intro n
  induction n with
  | zero => intro z a h; rw [eat_lo z a (by omega)]
  | succ n ih =>
    intro z a h
    by_cases h64 : 64 ≤ a.length
    · rw [eat_hi z a h64, eat_hi z (a ++ b) (by rw [List.length_append]; omega), List.take_append_of_le_length h64, List.drop_append_of_le_length h64]
      exact ih _ _ (by rw [List.length_drop]; omega)
    · rw [eat_lo z a (by omega)]
theorem eat_rest : ∀ (n : Nat) (z : St) (l : List Int), l.length ≤ n → (eat z l).2.length < 64 ∧ ∀ x ∈ (eat z l).2, x ∈ l := by
  intro n
  induction n with
  | zero => intro z l h; rw [eat_lo z l (by omega)]; exact ⟨by show l.length < 64; omega, fun x hx => hx⟩
  | succ n ih =>
    intro z l h
    by_cases h64 : 64 ≤ l.length
    · rw [eat_hi z l h64]
      obtain ⟨a, b⟩ := ih (comp z (l.take 64)) (l.drop 64) (by rw [List.length_drop]; omega)
      exact ⟨a, fun x hx => List.mem_of_mem_drop (b x hx)⟩
    · rw [eat_lo z l (by omega)]; exact ⟨by show l.length < 64; omega, fun x hx => hx⟩

end Go.Proofs.Bl

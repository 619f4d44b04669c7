/- How many ones a word holds: by halves of halves of bytes, plainly. -/
import Derived.Laws.BitsLemmas
import Derived.Test.YtkoddcjkhcnifaaDoorOnes
namespace Go.Proofs.Bl
open Go
/-- a byte c, k times -/
def rep (c : Nat) : Nat → Nat
  | 0 => 0
  | k + 1 => 256 * rep c k + c
theorem rep_succ (c k : Nat) : rep c (k + 1) = 256 * rep c k + c := rfl
theorem land_split (q r m c : Nat) (hr : r < 256) (hc : c < 256) : (256 * q + r) &&& (256 * m + c) = 256 * (q &&& m) + (r &&& c) := by
  have h1 : ((256 * q + r) &&& (256 * m + c)) / 2 ^ 8 = ((256 * q + r) / 2 ^ 8) &&& ((256 * m + c) / 2 ^ 8) := Nat.and_div_two_pow ..
  have h2 : ((256 * q + r) &&& (256 * m + c)) % 2 ^ 8 = ((256 * q + r) % 2 ^ 8) &&& ((256 * m + c) % 2 ^ 8) := Nat.and_mod_two_pow ..
  have e1 : (256 * q + r) / 2 ^ 8 = q := by omega
  have e2 : (256 * m + c) / 2 ^ 8 = m := by omega
  have e3 : (256 * q + r) % 2 ^ 8 = r := by omega
  have e4 : (256 * m + c) % 2 ^ 8 = c := by omega
  rw [e1, e2] at h1
  rw [e3, e4] at h2
  omega
def pa (r : Nat) : Nat := (r / 2 &&& 85) + (r &&& 85)
def pg (r : Nat) : Nat := (pa r / 4 &&& 51) + (pa r &&& 51)
theorem low1 : ∀ e < 2, ∀ r < 256, (128 * e + r / 2) &&& 85 = (r / 2) &&& 85 := by decide +kernel
theorem low2 : ∀ e < 4, ∀ r < 256, (64 * e + r / 4) &&& 51 = (r / 4) &&& 51 := by decide +kernel
theorem low3 : ∀ e < 5, ∀ r < 69, (16 * e + r / 16 + r) &&& 15 = (r / 16 + r) &&& 15 := by decide +kernel
theorem pa_lt : ∀ r < 256, pa r < 256 := by decide +kernel
theorem pg_le : ∀ r < 256, pg r < 69 ∧ pg r % 16 < 5 := by decide +kernel
theorem pg_ones : ∀ r < 256, (pg r / 16 + pg r) &&& 15 = ones r := by decide +kernel
def ps1 (k n : Nat) : Nat := (n / 2 &&& rep 85 k) + (n &&& rep 85 k)
def ps2 (k n : Nat) : Nat := (n / 4 &&& rep 51 k) + (n &&& rep 51 k)
def ps3 (k n : Nat) : Nat := (n / 16 + n) &&& rep 15 k
theorem s1_step (k q r : Nat) (hr : r < 256) : ps1 (k + 1) (256 * q + r) = 256 * ps1 k q + pa r := by
  unfold ps1 pa
  rw [rep_succ]
  have e : (256 * q + r) / 2 = 256 * (q / 2) + (128 * (q % 2) + r / 2) := by omega
  rw [e, land_split _ _ _ _ (by omega) (by decide), land_split _ _ _ _ hr (by decide), low1 (q % 2) (by omega) r hr]
  omega
theorem s2_step (k q r : Nat) (hr : r < 256) : ps2 (k + 1) (256 * q + r) = 256 * ps2 k q + ((r / 4 &&& 51) + (r &&& 51)) := by
  unfold ps2
  rw [rep_succ]
  have e : (256 * q + r) / 4 = 256 * (q / 4) + (64 * (q % 4) + r / 4) := by omega
  rw [e, land_split _ _ _ _ (by omega) (by decide), land_split _ _ _ _ hr (by decide), low2 (q % 4) (by omega) r hr]
  omega
theorem s3_step (k q r : Nat) (hr : r < 69) (hq : q % 16 < 5) : ps3 (k + 1) (256 * q + r) = 256 * ps3 k q + ((r / 16 + r) &&& 15) := by
  unfold ps3
  rw [rep_succ]
  have e : (256 * q + r) / 16 + (256 * q + r) = 256 * (q / 16 + q) + (16 * (q % 16) + r / 16 + r) := by omega
  rw [e, land_split _ _ _ _ (by omega) (by decide), low3 (q % 16) hq r hr]
def pp (k n : Nat) : Nat := ps2 k (ps1 k n)
theorem pp_step (k q r : Nat) (hr : r < 256) : pp (k + 1) (256 * q + r) = 256 * pp k q + pg r := by
  unfold pp pg
  rw [s1_step k q r hr, s2_step k _ _ (pa_lt r hr)]
theorem pp_zero (n : Nat) : pp 0 n = 0 := by simp [pp, ps2, rep]
theorem pp_low : ∀ (k q : Nat), pp k q % 16 < 5
  | 0, q => by rw [pp_zero]; decide
  | k + 1, q => by
    have e : q = 256 * (q / 256) + q % 256 := by omega
    rw [e, pp_step k _ _ (Nat.mod_lt _ (by decide))]
    have := (pg_le (q % 256) (Nat.mod_lt _ (by decide))).2
    omega
def pt (k n : Nat) : Nat := ps3 k (pp k n)
theorem pt_step (k q r : Nat) (hr : r < 256) : pt (k + 1) (256 * q + r) = 256 * pt k q + ones r := by
  unfold pt
  rw [pp_step k q r hr, s3_step k _ _ (pg_le r hr).1 (pp_low k q), pg_ones r hr]
theorem pt_zero (n : Nat) : pt 0 n = 0 := by simp [pt, ps3, rep]
theorem ones_split : ∀ (j q r : Nat), r < 2 ^ j → ones (2 ^ j * q + r) = ones q + ones r
  | 0, q, r, h => by
    obtain rfl : r = 0 := by simpa using h
    simp [ones_zero]
  | j + 1, q, r, h => by
    rw [Nat.pow_succ] at h
    have e1 : (2 ^ (j + 1) * q + r) / 2 = 2 ^ j * q + r / 2 := by rw [Nat.pow_succ, Nat.mul_comm (2 ^ j) 2, Nat.mul_assoc]; omega
    have e2 : (2 ^ (j + 1) * q + r) % 2 = r % 2 := by rw [Nat.pow_succ, Nat.mul_comm (2 ^ j) 2, Nat.mul_assoc]; omega
    rw [ones_half, e1, e2, ones_split j q (r / 2) (by omega), ones_half r]
    omega
theorem byte_of (n : Nat) : n = 256 * (n / 256) + n % 256 := by omega
theorem pt_byte (k n : Nat) : pt (k + 1) n = 256 * pt k (n / 256) + ones (n % 256) := by
  have := pt_step k (n / 256) (n % 256) (Nat.mod_lt _ (by decide))
  rw [← byte_of] at this
  exact this
theorem ones_byte (n : Nat) : ones n = ones (n / 256) + ones (n % 256) := by
  have := ones_split 8 (n / 256) (n % 256) (Nat.mod_lt _ (by decide))
  rw [← byte_of n] at this
  exact this
theorem ones_mod (n : Nat) : ones (n % 256) ≤ 8 := ones_lt 8 _ (Nat.mod_lt _ (by decide))
/-- the last steps, of six bytes -/
theorem last6 (c0 c1 c2 c3 c4 c5 t : Nat) (h0 : c0 ≤ 8) (h1 : c1 ≤ 8) (h2 : c2 ≤ 8) (h3 : c3 ≤ 8) (h4 : c4 ≤ 8) (h5 : c5 ≤ 8) (ht : t = 256 * (256 * (256 * (256 * (256 * c5 + c4) + c3) + c2) + c1) + c0) :
    ((t + t / 256) + (t + t / 256) / 65536 + ((t + t / 256) + (t + t / 256) / 65536) / 4294967296) % 128 = c0 + c1 + c2 + c3 + c4 + c5 := by
  have e1 : t / 256 = 256 * (256 * (256 * (256 * c5 + c4) + c3) + c2) + c1 := by omega
  have e2 : t + t / 256 = 256 * (256 * (256 * (256 * (256 * c5 + (c4 + c5)) + (c3 + c4)) + (c2 + c3)) + (c1 + c2)) + (c0 + c1) := by omega
  rw [e2]
  have e3 : (256 * (256 * (256 * (256 * (256 * c5 + (c4 + c5)) + (c3 + c4)) + (c2 + c3)) + (c1 + c2)) + (c0 + c1)) / 65536 = 256 * (256 * (256 * c5 + (c4 + c5)) + (c3 + c4)) + (c2 + c3) := by omega
  rw [e3]
  have e4 : (256 * (256 * (256 * (256 * (256 * c5 + (c4 + c5)) + (c3 + c4)) + (c2 + c3)) + (c1 + c2)) + (c0 + c1) + (256 * (256 * (256 * c5 + (c4 + c5)) + (c3 + c4)) + (c2 + c3))) / 4294967296 = 256 * c5 + (c4 + c5) := by omega
  rw [e4]
  omega
/-- the last steps: all bytes' sums into the lowest -/
def ps (t : Nat) : Nat := let a := t + t / 256; let b := a + a / 65536; (b + b / 4294967296) % 128
theorem pop8 (n : Nat) (h : n < 2 ^ 48) : ps (pt 8 n) = ones n := by
  have h0 := pt_byte 7 n
  have h1 := pt_byte 6 (n / 256)
  have h2 := pt_byte 5 (n / 256 / 256)
  have h3 := pt_byte 4 (n / 256 / 256 / 256)
  have h4 := pt_byte 3 (n / 256 / 256 / 256 / 256)
  have h5 := pt_byte 2 (n / 256 / 256 / 256 / 256 / 256)
  have hz : n / 256 / 256 / 256 / 256 / 256 / 256 = 0 := by omega
  rw [hz] at h5
  have h6 : pt 2 0 = 0 := by decide +kernel
  rw [h6] at h5
  have o0 := ones_byte n
  have o1 := ones_byte (n / 256)
  have o2 := ones_byte (n / 256 / 256)
  have o3 := ones_byte (n / 256 / 256 / 256)
  have o4 := ones_byte (n / 256 / 256 / 256 / 256)
  have o5 := ones_byte (n / 256 / 256 / 256 / 256 / 256)
  rw [hz, ones_zero] at o5
  have m0 := ones_mod n
  have m1 := ones_mod (n / 256)
  have m2 := ones_mod (n / 256 / 256)
  have m3 := ones_mod (n / 256 / 256 / 256)
  have m4 := ones_mod (n / 256 / 256 / 256 / 256)
  have m5 := ones_mod (n / 256 / 256 / 256 / 256 / 256)
  unfold ps
  simp only []
  rw [last6 _ _ _ _ _ _ (pt 8 n) m0 m1 m2 m3 m4 m5 (by rw [h0, h1, h2, h3, h4, h5, Nat.mul_zero, Nat.zero_add])]
  omega
theorem rep85 : rep 85 8 = 6148914691236517205 := by decide +kernel
theorem rep51 : rep 51 8 = 3689348814741910323 := by decide +kernel
theorem rep15 : rep 15 8 = 1085102592571150095 := by decide +kernel
theorem wraps63 (n : Int) (h₀ : 0 ≤ n) (h₁ : n < 2 ^ 63) : IntKind.u64.wrap n = n := by
  have e : IntKind.u64.wrap n = n % 18446744073709551616 := by simp [IntKind.wrap, IntKind.bits, IntKind.signed]
  rw [e]; omega
theorem and64 (a b : Nat) (ha : a < 2 ^ 63) (hb : b < 2 ^ 63) : bits .and .u64 (a : Int) (b : Int) = ((a &&& b : Nat) : Int) := (bits_nat .u64 63 (by decide) wraps63 a b ha hb).1
theorem pp_lt (n : Nat) (h : n < 2 ^ 48) : ps1 8 n < 2 ^ 49 ∧ ps2 8 (ps1 8 n) < 2 ^ 50 ∧ pt 8 n < 2 ^ 51 := by
  have a1 : ps1 8 n < 2 ^ 49 := by
    have := @Nat.and_le_left (n / 2) (rep 85 8)
    have := @Nat.and_le_left n (rep 85 8)
    unfold ps1; omega
  have a2 : ps2 8 (ps1 8 n) < 2 ^ 50 := by
    have := @Nat.and_le_left (ps1 8 n / 4) (rep 51 8)
    have := @Nat.and_le_left (ps1 8 n) (rep 51 8)
    unfold ps2; omega
  refine ⟨a1, a2, ?_⟩
  have := @Nat.and_le_left (pp 8 n / 16 + pp 8 n) (rep 15 8)
  unfold pt ps3 pp
  unfold pp at this
  omega
theorem w64 (a b : Nat) (h : a + b < 2 ^ 63) : IntKind.u64.wrap ((a : Int) + (b : Int)) = ((a + b : Nat) : Int) := by
  rw [wraps63 _ (by omega) (by omega)]; omega
theorem pst1 (n : Nat) (h : n < 2 ^ 48) : IntKind.u64.wrap (bits .and .u64 ((n : Int) / 2) 6148914691236517205 + bits .and .u64 (n : Int) 6148914691236517205) = ((ps1 8 n : Nat) : Int) := by
  have h1 := and64 (n / 2) 6148914691236517205 (by omega) (by decide)
  have h2 := and64 n 6148914691236517205 (by omega) (by decide)
  have h3 := (pp_lt n h).1
  rw [show ((n / 2 : Nat) : Int) = (n : Int) / 2 by omega] at h1
  rw [show ((6148914691236517205 : Nat) : Int) = 6148914691236517205 from rfl] at h1 h2
  unfold ps1 at h3 ⊢
  rw [rep85] at h3 ⊢
  rw [h1, h2, w64 _ _ (by omega)]
theorem pst2 (n : Nat) (h : n < 2 ^ 48) : IntKind.u64.wrap (bits .and .u64 (((ps1 8 n : Nat) : Int) / 4) 3689348814741910323 + bits .and .u64 ((ps1 8 n : Nat) : Int) 3689348814741910323) = ((pp 8 n : Nat) : Int) := by
  have h0 := (pp_lt n h).1
  have h3 := (pp_lt n h).2.1
  unfold pp
  obtain ⟨m, hm⟩ : ∃ m, m = ps1 8 n := ⟨_, rfl⟩
  rw [← hm] at h0 h3 ⊢
  have h1 := and64 (m / 4) 3689348814741910323 (by omega) (by decide)
  have h2 := and64 m 3689348814741910323 (by omega) (by decide)
  rw [show ((m / 4 : Nat) : Int) = (m : Int) / 4 by omega] at h1
  rw [show ((3689348814741910323 : Nat) : Int) = 3689348814741910323 from rfl] at h1 h2
  unfold ps2 at h3 ⊢
  rw [rep51] at h3 ⊢
  rw [h1, h2, w64 _ _ (by omega)]
theorem pst3 (n : Nat) (h : n < 2 ^ 48) : bits .and .u64 (IntKind.u64.wrap (((pp 8 n : Nat) : Int) / 16 + ((pp 8 n : Nat) : Int))) 1085102592571150095 = ((pt 8 n : Nat) : Int) := by
  have h0 := (pp_lt n h).2.1
  have h0 : pp 8 n < 2 ^ 50 := h0
  unfold pt ps3
  obtain ⟨m, hm⟩ : ∃ m, m = pp 8 n := ⟨_, rfl⟩
  rw [← hm] at h0 ⊢
  rw [show (m : Int) / 16 = ((m / 16 : Nat) : Int) by omega, w64 _ _ (by omega)]
  have h1 := and64 (m / 16 + m) 1085102592571150095 (by omega) (by decide)
  rw [show ((1085102592571150095 : Nat) : Int) = 1085102592571150095 from rfl] at h1
  rw [h1, rep15]
def q4 (n : Nat) : Nat := pt 8 n + pt 8 n / 256
def q5 (n : Nat) : Nat := q4 n + q4 n / 65536
def q6 (n : Nat) : Nat := q5 n + q5 n / 4294967296
theorem pst4 (n : Nat) (h : n < 2 ^ 48) : IntKind.u64.wrap (((pt 8 n : Nat) : Int) + ((pt 8 n : Nat) : Int) / 256) = ((q4 n : Nat) : Int) ∧ q4 n < 2 ^ 52 := by
  have h0 := (pp_lt n h).2.2
  unfold q4
  rw [show ((pt 8 n : Nat) : Int) / 256 = ((pt 8 n / 256 : Nat) : Int) by omega, w64 _ _ (by omega)]
  exact ⟨rfl, by omega⟩
theorem pst5 (n : Nat) (h : n < 2 ^ 48) : IntKind.u64.wrap (((q4 n : Nat) : Int) + ((q4 n : Nat) : Int) / 65536) = ((q5 n : Nat) : Int) ∧ q5 n < 2 ^ 53 := by
  have h0 := (pst4 n h).2
  unfold q5
  rw [show ((q4 n : Nat) : Int) / 65536 = ((q4 n / 65536 : Nat) : Int) by omega, w64 _ _ (by omega)]
  exact ⟨rfl, by omega⟩
theorem pst6 (n : Nat) (h : n < 2 ^ 48) : IntKind.u64.wrap (((q5 n : Nat) : Int) + ((q5 n : Nat) : Int) / 4294967296) = ((q6 n : Nat) : Int) ∧ q6 n < 2 ^ 54 := by
  have h0 := (pst5 n h).2
  unfold q6
  rw [show ((q5 n : Nat) : Int) / 4294967296 = ((q5 n / 4294967296 : Nat) : Int) by omega, w64 _ _ (by omega)]
  exact ⟨rfl, by omega⟩
theorem wrapsi63 (n : Int) (h₀ : 0 ≤ n) (h₁ : n < 2 ^ 63) : IntKind.i64.wrap n = n := by
  simp [IntKind.wrap, IntKind.bits, IntKind.signed]; omega
theorem pst7 (n : Nat) (h : n < 2 ^ 48) : bits .and .i64 ((q6 n : Nat) : Int) 127 = ((ones n : Nat) : Int) := by
  have h0 := (pst6 n h).2
  have h1 := bits_mask .i64 63 (by decide) wrapsi63 7 (by decide) ((q6 n : Nat) : Int) (by omega) (by omega)
  rw [show ((2 : Int) ^ 7 - 1) = 127 by decide, show ((2 : Int) ^ 7) = 128 by decide] at h1
  rw [h1]
  have h2 := pop8 n h
  have h3 : ps (pt 8 n) = q6 n % 128 := rfl
  omega
end Go.Proofs.Bl

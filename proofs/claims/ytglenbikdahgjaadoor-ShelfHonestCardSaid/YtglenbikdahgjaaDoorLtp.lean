/- Texts that stood apart, in one: LetQ, LetU, BldV, GrowK. -/
import Derived.Test.YtglenbikdahgjaaDoorLet3
import Derived.Test.YtglenbikdahgjaaDoorLet0
import Derived.Test.YtglenbikdahgjaaDoorLib0
import Derived.Test.YtglenbikdahgjaaDoorBA2
/- The letter of bytes, plainly: what is parsed is what was laid, and the other way round; the document's number. No program. -/
namespace Go.Proofs.Bl
open Go Go.RowKit
/-- so many bytes -/
def tkB (k : Nat) (b : List Int) : Option (List Int × List Int) := if k ≤ b.length then some (b.take k, b.drop k) else none
def bnd {α β : Type} (x : Option (α × List Int)) (f : α → List Int → Option β) : Option β := match x with
  | none => none
  | some (a, r) => f a r
theorem bnd_some {α β : Type} (a : α) (r : List Int) (f : α → List Int → Option β) : bnd (some (a, r)) f = f a r := rfl
theorem bnd_none {α β : Type} (f : α → List Int → Option β) : bnd (none : Option (α × List Int)) f = none := rfl
theorem bnd_eq {α β : Type} {x : Option (α × List Int)} {f : α → List Int → Option β} {y : β} (h : bnd x f = some y) : ∃ a r, x = some (a, r) ∧ f a r = some y := by
  match x, h with
  | some (a, r), h => exact ⟨a, r, rfl, h⟩
/-- bytes as a number; one that is too great stays so -/
def numRn (n : Int) (l : List Int) : Int := l.foldl (fun n c => min n 2199023255552 * 256 + c) n
def numR (l : List Int) : Int := numRn 0 l
def rdN (k : Nat) (b : List Int) : Option (Int × List Int) := bnd (tkB k b) fun x r => some (numR x, r)
/-- again and again -/
def rep {α : Type} (f : List Int → Option (α × List Int)) : Nat → List Int → Option (List α × List Int)
  | 0, b => some ([], b)
  | n + 1, b => bnd (f b) fun x r => bnd (rep f n r) fun xs r' => some (x :: xs, r')
/-- a shown block -/
def shP (b : List Int) : Option (Sh × List Int) := bnd (rdN 2 b) fun p r => bnd (tkB 16 r) fun st r => bnd (rdN 1 r) fun c r => bnd (rep (tkB 32) c.toNat r) fun ds r => some ((p, st, ds), r)
/-- what a letter's kind has -/
def rstP (k i o : Int) (b : List Int) : Option (LT × List Int) :=
  if k = 6 then bnd (rdN 2 b) fun f r => bnd (rdN 2 r) fun n r => bnd (rep (tkB 16) n.toNat r) fun bs r => some (⟨k, i, o, [], [], f, 0, bs, 0⟩, r)
  else if k = 1 then bnd (rdN 2 b) fun n r => bnd (rep (tkB 16) n.toNat r) fun bs r => some (⟨k, i, o, [], [], 0, 0, bs, 0⟩, r)
  else if k = 3 then bnd (rdN 1 b) fun n r => bnd (rep (rdN 2) n.toNat r) fun ps r => some (⟨k, i, o, ps, [], 0, 0, [], 0⟩, r)
  else if k = 4 then bnd (rdN 1 b) fun n r => bnd (rep shP n.toNat r) fun ss r => some (⟨k, i, o, [], ss, 0, 0, [], 0⟩, r)
  else if k = 5 then bnd (rdN 2 b) fun f r => bnd (rdN 2 r) fun c r => some (⟨k, i, o, [], [], f, c, [], 0⟩, r)
  else if k = 7 then bnd (rdN 1 b) fun c r => some (⟨k, i, o, [], [], 0, 0, [], c⟩, r)
  else some (⟨k, i, o, [], [], 0, 0, [], 0⟩, b)
def bodP (k : Int) (b : List Int) : Option (LT × List Int) := bnd (rdN 8 b) fun i r => bnd (rdN 8 r) fun o r => rstP k i o r
/-- when all is read -/
def endP (x : Option (LT × List Int)) : Nat × LT := match x with
  | none => (2, lt0)
  | some (l, []) => if chkL l = 0 then (0, l) else (chkL l, lt0)
  | some (_, _ :: _) => (4, lt0)
/-- the letter of bytes -/
def parseL (b : List Int) : Nat × LT :=
  if 8000 < b.length then (3, lt0) else match b with
  | [] => (2, lt0)
  | k :: r => if wi k 1 7 = false then (7, lt0) else endP (bodP k r)
theorem tkB_app (a r : List Int) : tkB a.length (a ++ r) = some (a, r) := by
  unfold tkB; rw [if_pos (by rw [List.length_append]; omega), List.take_left, List.drop_left]
theorem tkB_app' {k : Nat} {a : List Int} (h : a.length = k) (r : List Int) : tkB k (a ++ r) = some (a, r) := by subst h; exact tkB_app a r
theorem tkB_eq {k : Nat} {b x r : List Int} (h : tkB k b = some (x, r)) : b = x ++ r ∧ x.length = k := by
  unfold tkB at h
  split at h
  · injection h with h
    injection h with h1 h2
    subst h1 h2
    exact ⟨(List.take_append_drop k b).symm, by rw [List.length_take]; omega⟩
  · cases h
theorem rdN_app {k : Nat} {a : List Int} (h : a.length = k) (r : List Int) : rdN k (a ++ r) = some (numR a, r) := by
  unfold rdN; rw [tkB_app' h, bnd_some]
theorem rdN_eq {k : Nat} {b r : List Int} {n : Int} (h : rdN k b = some (n, r)) : ∃ x, b = x ++ r ∧ x.length = k ∧ n = numR x := by
  obtain ⟨x, r', h1, h2⟩ := bnd_eq h
  obtain ⟨h3, h4⟩ := tkB_eq h1
  injection h2 with h2
  injection h2 with h5 h6
  subst h6
  exact ⟨x, h3, h4, h5.symm⟩
theorem numR_one (c : Int) : numR [c] = c := by
  show min 0 2199023255552 * 256 + c = c
  omega
theorem numR_two {x : Int} (h0 : 0 ≤ x) (h1 : x ≤ 65535) : numR (twoL x) = x := by
  show min (min 0 2199023255552 * 256 + x / 256 % 256) 2199023255552 * 256 + x % 256 = x
  omega
theorem step_up {n c B : Int} (h : n ≤ 2199023255552) (e : n * 256 + c = B) : min n 2199023255552 * 256 + c = B := by omega
theorem numR_numL {x : Int} (h0 : 0 ≤ x) (h1 : x ≤ 1099511627776) : numR (numL x) = x := by
  show min (min (min (min (min (min (min (min 0 2199023255552 * 256 + x / 72057594037927936 % 256) 2199023255552 * 256 + x / 281474976710656 % 256) 2199023255552 * 256 + x / 1099511627776 % 256) 2199023255552 * 256 + x / 4294967296 % 256) 2199023255552 * 256 + x / 16777216 % 256) 2199023255552 * 256 + x / 65536 % 256) 2199023255552 * 256 + x / 256 % 256) 2199023255552 * 256 + x % 256 = x
  rw [step_up (n := 0) (B := 0) (by omega) (by omega)]
  rw [step_up (n := 0) (B := 0) (by omega) (by omega)]
  rw [step_up (n := 0) (B := x / 1099511627776) (by omega) (by omega)]
  rw [step_up (n := x / 1099511627776) (B := x / 4294967296) (by omega) (by omega)]
  rw [step_up (n := x / 4294967296) (B := x / 16777216) (by omega) (by omega)]
  rw [step_up (n := x / 16777216) (B := x / 65536) (by omega) (by omega)]
  rw [step_up (n := x / 65536) (B := x / 256) (by omega) (by omega)]
  rw [step_up (n := x / 256) (B := x) (by omega) (by omega)]
theorem step_back {n c : Int} (B : Int) (hc : 0 ≤ c ∧ c ≤ 255) (hB : B ≤ 4294967296) (h : min n 2199023255552 * 256 + c ≤ B * 256 + 255) : n ≤ B ∧ min n 2199023255552 * 256 + c = n * 256 + c := by omega
theorem list8 : ∀ (r : List Int), r.length = 8 → ∃ a0 a1 a2 a3 a4 a5 a6 a7, r = [a0, a1, a2, a3, a4, a5, a6, a7] := by
  intro r h
  match r, h with
  | [a0, a1, a2, a3, a4, a5, a6, a7], _ => exact ⟨a0, a1, a2, a3, a4, a5, a6, a7, rfl⟩
theorem list2 : ∀ (r : List Int), r.length = 2 → ∃ a0 a1, r = [a0, a1] := by
  intro r h
  match r, h with
  | [a0, a1], _ => exact ⟨a0, a1, rfl⟩
theorem list1 : ∀ (r : List Int), r.length = 1 → ∃ a0, r = [a0] := by
  intro r h
  match r, h with
  | [a0], _ => exact ⟨a0, rfl⟩
theorem two_num {x : List Int} (hl : x.length = 2) (hb : Byt x) : twoL (numR x) = x ∧ 0 ≤ numR x ∧ numR x ≤ 65535 := by
  obtain ⟨a, b, rfl⟩ := list2 x hl
  have h1 := hb a (by simp)
  have h2 := hb b (by simp)
  have e : numR [a, b] = a * 256 + b := by
    show min (min 0 2199023255552 * 256 + a) 2199023255552 * 256 + b = a * 256 + b
    omega
  rw [e]
  unfold twoL
  refine ⟨?_, by omega, by omega⟩
  rw [show (a * 256 + b) / 256 % 256 = a by omega, show (a * 256 + b) % 256 = b by omega]
theorem one_num {x : List Int} (hl : x.length = 1) (hb : Byt x) : [numR x] = x ∧ 0 ≤ numR x ∧ numR x ≤ 255 := by
  obtain ⟨a, rfl⟩ := list1 x hl
  have h1 := hb a (by simp)
  rw [numR_one]
  exact ⟨rfl, h1.1, h1.2⟩
theorem numRn_nonneg : ∀ (l : List Int) (n : Int), 0 ≤ n → Byt l → 0 ≤ numRn n l
  | [], _, h, _ => h
  | c :: r, n, h, hb => by
    have hc := hb c (by simp)
    exact numRn_nonneg r (min n 2199023255552 * 256 + c) (by omega) (fun x hx => hb x (by simp [hx]))
theorem num_num {x : List Int} (hl : x.length = 8) (hb : Byt x) (h : numR x ≤ 1099511627776) : numL (numR x) = x := by
  obtain ⟨c0, c1, c2, c3, c4, c5, c6, c7, rfl⟩ := list8 x hl
  have b0 := hb c0 (by simp)
  have b1 := hb c1 (by simp)
  have b2 := hb c2 (by simp)
  have b3 := hb c3 (by simp)
  have b4 := hb c4 (by simp)
  have b5 := hb c5 (by simp)
  have b6 := hb c6 (by simp)
  have b7 := hb c7 (by simp)
  obtain ⟨n0, e0⟩ : ∃ n, n = min 0 2199023255552 * 256 + c0 := ⟨_, rfl⟩
  obtain ⟨n1, e1⟩ : ∃ n, n = min n0 2199023255552 * 256 + c1 := ⟨_, rfl⟩
  obtain ⟨n2, e2⟩ : ∃ n, n = min n1 2199023255552 * 256 + c2 := ⟨_, rfl⟩
  obtain ⟨n3, e3⟩ : ∃ n, n = min n2 2199023255552 * 256 + c3 := ⟨_, rfl⟩
  obtain ⟨n4, e4⟩ : ∃ n, n = min n3 2199023255552 * 256 + c4 := ⟨_, rfl⟩
  obtain ⟨n5, e5⟩ : ∃ n, n = min n4 2199023255552 * 256 + c5 := ⟨_, rfl⟩
  obtain ⟨n6, e6⟩ : ∃ n, n = min n5 2199023255552 * 256 + c6 := ⟨_, rfl⟩
  obtain ⟨n7, e7⟩ : ∃ n, n = min n6 2199023255552 * 256 + c7 := ⟨_, rfl⟩
  have hr : numR [c0, c1, c2, c3, c4, c5, c6, c7] = n7 := by rw [e7, e6, e5, e4, e3, e2, e1, e0]; rfl
  rw [hr] at h ⊢
  have p0 : 0 ≤ n0 := by omega
  have p1 : 0 ≤ n1 := by omega
  have p2 : 0 ≤ n2 := by omega
  have p3 : 0 ≤ n3 := by omega
  have p4 : 0 ≤ n4 := by omega
  have p5 : 0 ≤ n5 := by omega
  have p6 : 0 ≤ n6 := by omega
  obtain ⟨q6, f7⟩ := step_back 4294967296 b7 (by omega) (by rw [← e7]; omega)
  obtain ⟨q5, f6⟩ := step_back 16777216 b6 (by omega) (by rw [← e6]; omega)
  obtain ⟨q4, f5⟩ := step_back 65536 b5 (by omega) (by rw [← e5]; omega)
  obtain ⟨q3, f4⟩ := step_back 256 b4 (by omega) (by rw [← e4]; omega)
  obtain ⟨q2, f3⟩ := step_back 1 b3 (by omega) (by rw [← e3]; omega)
  obtain ⟨q1, f2⟩ := step_back 0 b2 (by omega) (by rw [← e2]; omega)
  have z1 : n1 = 0 := by omega
  rw [f7] at e7
  rw [f6] at e6
  rw [f5] at e5
  rw [f4] at e4
  rw [f3] at e3
  rw [f2, z1] at e2
  have z0 : n0 = 0 ∧ c1 = 0 := by omega
  have zc : c0 = 0 := by omega
  clear e0 e1 f7 f6 f5 f4 f3 f2 hr hb hl
  unfold numL
  have g0 : n7 / 72057594037927936 % 256 = c0 := by omega
  have g1 : n7 / 281474976710656 % 256 = c1 := by omega
  have g6 : n7 % 256 = c7 := by omega
  have k6 : n7 / 256 = n6 := by omega
  have k5 : n7 / 65536 = n5 := by omega
  have k4 : n7 / 16777216 = n4 := by omega
  have k3 : n7 / 4294967296 = n3 := by omega
  have k2 : n7 / 1099511627776 = n2 := by omega
  rw [g0, g1, g6, k6, k5, k4, k3, k2, show n6 % 256 = c6 by omega, show n5 % 256 = c5 by omega, show n4 % 256 = c4 by omega, show n3 % 256 = c3 by omega, show n2 % 256 = c2 by omega]
/-- the document's number: -1 above 2^41 -/
def numF : Int → List Int → Int
  | n, [] => n
  | n, c :: r => if 2199023255552 < n then -1 else numF (n * 256 + c) r
theorem numRn_big : ∀ (l : List Int) (n : Int), 2199023255552 ≤ n → Byt l → 2199023255552 ≤ numRn n l
  | [], _, h, _ => h
  | c :: r, n, h, hb => by
    have hc := hb c (by simp)
    exact numRn_big r (min n 2199023255552 * 256 + c) (by omega) (fun x hx => hb x (by simp [hx]))
theorem numF_R : ∀ (l : List Int) (n : Int), 0 ≤ n → Byt l → numF n l = numRn n l ∨ (numF n l = -1 ∧ 1099511627776 < numRn n l)
  | [], _, _, _ => .inl rfl
  | c :: r, n, h, hb => by
    have hc := hb c (by simp)
    have hr : Byt r := fun x hx => hb x (by simp [hx])
    unfold numF
    by_cases hn : 2199023255552 < n
    · rw [if_pos hn]
      refine .inr ⟨rfl, ?_⟩
      have := numRn_big r (min n 2199023255552 * 256 + c) (by omega) hr
      show 1099511627776 < numRn (min n 2199023255552 * 256 + c) r
      omega
    · rw [if_neg hn]
      have e : n * 256 + c = min n 2199023255552 * 256 + c := by omega
      have := numF_R r (n * 256 + c) (by omega) hr
      show _ = numRn (min n 2199023255552 * 256 + c) r ∨ (_ ∧ _ < numRn (min n 2199023255552 * 256 + c) r)
      rw [← e]
      exact this
theorem rep_app {α : Type} {f : List Int → Option (α × List Int)} {g : α → List Int} : ∀ (l : List α), (∀ x ∈ l, ∀ r, f (g x ++ r) = some (x, r)) → ∀ r, rep f l.length (l.flatMap g ++ r) = some (l, r)
  | [], _, _ => rfl
  | x :: l, h, r => by
    rw [List.flatMap_cons, List.append_assoc, List.length_cons, rep, h x (by simp), bnd_some, rep_app l (fun y hy => h y (by simp [hy])) r, bnd_some]
theorem rep_eq {α : Type} {f : List Int → Option (α × List Int)} {g : α → List Int} (hf : ∀ b x r, Byt b → f b = some (x, r) → b = g x ++ r) : ∀ (n : Nat) (b : List Int) (l : List α) (r : List Int), Byt b → rep f n b = some (l, r) → b = l.flatMap g ++ r ∧ l.length = n
  | 0, b, l, r, _, h => by
    injection h with h
    injection h with h1 h2
    subst h1 h2
    exact ⟨rfl, rfl⟩
  | n + 1, b, l, r, hb, h => by
    obtain ⟨x, r1, h1, h2⟩ := bnd_eq h
    obtain ⟨xs, r2, h3, h4⟩ := bnd_eq h2
    injection h4 with h4
    injection h4 with h5 h6
    subst h5 h6
    have e := hf b x r1 hb h1
    have hb1 : Byt r1 := fun y hy => hb y (by rw [e]; exact List.mem_append_right _ hy)
    obtain ⟨e2, e3⟩ := rep_eq hf n r1 xs r2 hb1 h3
    refine ⟨?_, by rw [List.length_cons, e3]⟩
    rw [List.flatMap_cons, List.append_assoc, ← e2, ← e]
theorem flatMap_id' (l : List (List Int)) : l.flatMap (fun x => x) = l.flatten := by
  induction l with
  | nil => rfl
  | cons x r ih => rw [List.flatMap_cons, List.flatten_cons, ih]
theorem Byt.right {a b : List Int} (h : Byt (a ++ b)) : Byt b := fun y hy => h y (List.mem_append_right _ hy)
theorem Byt.left {a b : List Int} (h : Byt (a ++ b)) : Byt a := fun y hy => h y (List.mem_append_left _ hy)
theorem tk_back (k : Nat) (b x r : List Int) (_ : Byt b) (h : tkB k b = some (x, r)) : b = (fun y => y) x ++ r := (tkB_eq h).1
theorem two_back (b : List Int) (n : Int) (r : List Int) (hb : Byt b) (h : rdN 2 b = some (n, r)) : b = twoL n ++ r := by
  obtain ⟨x, h1, h2, h3⟩ := rdN_eq h
  subst h1 h3
  rw [(two_num h2 hb.left).1]
theorem one_back (b : List Int) (n : Int) (r : List Int) (hb : Byt b) (h : rdN 1 b = some (n, r)) : b = [n] ++ r ∧ 0 ≤ n := by
  obtain ⟨x, h1, h2, h3⟩ := rdN_eq h
  subst h1 h3
  obtain ⟨h4, h5, _⟩ := one_num h2 hb.left
  exact ⟨by rw [h4], h5⟩
theorem shP_back (b : List Int) (x : Sh) (r : List Int) (hb : Byt b) (h : shP b = some (x, r)) : b = shB x ++ r := by
  obtain ⟨p, r1, h1, h⟩ := bnd_eq h
  obtain ⟨st, r2, h2, h⟩ := bnd_eq h
  obtain ⟨c, r3, h3, h⟩ := bnd_eq h
  obtain ⟨ds, r4, h4, h⟩ := bnd_eq h
  injection h with h
  injection h with h5 h6
  subst h5 h6
  have e1 := two_back b p r1 hb h1
  subst e1
  obtain ⟨e2, _⟩ := tkB_eq h2
  subst e2
  obtain ⟨e3, e3'⟩ := one_back r2 c r3 hb.right.right h3
  subst e3
  obtain ⟨e4, e5⟩ := rep_eq (g := fun y => y) (tk_back 32) c.toNat r3 ds r4 hb.right.right.right h4
  rw [flatMap_id'] at e4
  subst e4
  have e6 : (ds.length : Int) = c := by omega
  unfold shB
  simp only [e6, List.append_assoc]
theorem shP_fwd (s : Sh) (h1 : 0 ≤ s.1 ∧ s.1 ≤ 65535) (h2 : s.2.1.length = 16) (h3 : ∀ d ∈ s.2.2, d.length = 32) (r : List Int) : shP (shB s ++ r) = some (s, r) := by
  obtain ⟨p, st, ds⟩ := s
  unfold shP shB
  simp only [List.append_assoc]
  rw [rdN_app (k := 2) (a := twoL p) rfl, bnd_some, tkB_app' h2, bnd_some, rdN_app (k := 1) (a := [(ds.length : Int)]) rfl, bnd_some, numR_two h1.1 h1.2, numR_one]
  have e := rep_app (f := tkB 32) (g := fun y => y) ds (fun x hx r => tkB_app' (h3 x hx) r) r
  rw [flatMap_id'] at e
  rw [Int.toNat_natCast, e, bnd_some]
theorem rstP_back (k i o : Int) (b : List Int) (l : LT) (r : List Int) (hb : Byt b) (h : rstP k i o b = some (l, r)) : l.kind = k ∧ l.id = i ∧ l.obj = o ∧ b = tailL l ++ r := by
  unfold rstP at h
  by_cases k6 : k = 6
  · subst k6
    rw [if_pos rfl] at h
    obtain ⟨f, r1, h1, h⟩ := bnd_eq h
    obtain ⟨n, r2, h2, h⟩ := bnd_eq h
    obtain ⟨bs, r3, h3, h⟩ := bnd_eq h
    injection h with h
    injection h with h4 h5
    subst h4 h5
    have e1 := two_back b f r1 hb h1
    subst e1
    obtain ⟨x, e2, e2', e2''⟩ := rdN_eq h2
    subst e2 e2''
    obtain ⟨t1, t2, t3⟩ := two_num e2' hb.right.left
    obtain ⟨e3, e4⟩ := rep_eq (g := fun y => y) (tk_back 16) _ r2 bs r3 hb.right.right h3
    rw [flatMap_id'] at e3
    subst e3
    refine ⟨rfl, rfl, rfl, ?_⟩
    have e5 : (bs.length : Int) = numR x := by omega
    show _ = (twoL f ++ (twoL bs.length ++ bs.flatten)) ++ r3
    rw [e5, t1]
    simp only [List.append_assoc]
  rw [if_neg k6] at h
  by_cases k1 : k = 1
  · subst k1
    rw [if_pos rfl] at h
    obtain ⟨n, r2, h2, h⟩ := bnd_eq h
    obtain ⟨bs, r3, h3, h⟩ := bnd_eq h
    injection h with h
    injection h with h4 h5
    subst h4 h5
    obtain ⟨x, e2, e2', e2''⟩ := rdN_eq h2
    subst e2 e2''
    obtain ⟨t1, t2, t3⟩ := two_num e2' hb.left
    obtain ⟨e3, e4⟩ := rep_eq (g := fun y => y) (tk_back 16) _ r2 bs r3 hb.right h3
    rw [flatMap_id'] at e3
    subst e3
    refine ⟨rfl, rfl, rfl, ?_⟩
    have e5 : (bs.length : Int) = numR x := by omega
    show _ = (twoL bs.length ++ bs.flatten) ++ r3
    rw [e5, t1]
    simp only [List.append_assoc]
  rw [if_neg k1] at h
  by_cases k3 : k = 3
  · subst k3
    rw [if_pos rfl] at h
    obtain ⟨n, r2, h2, h⟩ := bnd_eq h
    obtain ⟨ps, r3, h3, h⟩ := bnd_eq h
    injection h with h
    injection h with h4 h5
    subst h4 h5
    obtain ⟨e2, e2'⟩ := one_back b n r2 hb h2
    subst e2
    obtain ⟨e3, e4⟩ := rep_eq (g := twoL) two_back _ r2 ps r3 hb.right h3
    subst e3
    refine ⟨rfl, rfl, rfl, ?_⟩
    have e5 : (ps.length : Int) = n := by omega
    show _ = ((ps.length : Int) :: ps.flatMap twoL) ++ r3
    rw [e5]
    rfl
  rw [if_neg k3] at h
  by_cases k4 : k = 4
  · subst k4
    rw [if_pos rfl] at h
    obtain ⟨n, r2, h2, h⟩ := bnd_eq h
    obtain ⟨ps, r3, h3, h⟩ := bnd_eq h
    injection h with h
    injection h with h4 h5
    subst h4 h5
    obtain ⟨e2, e2'⟩ := one_back b n r2 hb h2
    subst e2
    obtain ⟨e3, e4⟩ := rep_eq (g := shB) shP_back _ r2 ps r3 hb.right h3
    subst e3
    refine ⟨rfl, rfl, rfl, ?_⟩
    have e5 : (ps.length : Int) = n := by omega
    show _ = ((ps.length : Int) :: ps.flatMap shB) ++ r3
    rw [e5]
    rfl
  rw [if_neg k4] at h
  by_cases k5 : k = 5
  · subst k5
    rw [if_pos rfl] at h
    obtain ⟨f, r1, h1, h⟩ := bnd_eq h
    obtain ⟨n, r2, h2, h⟩ := bnd_eq h
    injection h with h
    injection h with h4 h5
    subst h4 h5
    have e1 := two_back b f r1 hb h1
    subst e1
    have e2 := two_back r1 n r2 hb.right h2
    subst e2
    refine ⟨rfl, rfl, rfl, ?_⟩
    show _ = (twoL f ++ twoL n) ++ r2
    simp only [List.append_assoc]
  rw [if_neg k5] at h
  by_cases k7 : k = 7
  · subst k7
    rw [if_pos rfl] at h
    obtain ⟨n, r2, h2, h⟩ := bnd_eq h
    injection h with h
    injection h with h4 h5
    subst h4 h5
    obtain ⟨e2, e2'⟩ := one_back b n r2 hb h2
    subst e2
    exact ⟨rfl, rfl, rfl, rfl⟩
  rw [if_neg k7] at h
  injection h with h
  injection h with h4 h5
  subst h4 h5
  refine ⟨rfl, rfl, rfl, ?_⟩
  unfold tailL
  simp only [if_neg k6, if_neg k1, if_neg k3, if_neg k4, if_neg k5, if_neg k7, List.nil_append]
/-- what a letter without the rest is -/
theorem bare_zero {l : LT} (h : frmOk l = true) : bareL l = lt0 := by
  unfold frmOk sameL at h; exact of_decide_eq_true h
theorem chk_parts {l : LT} (h : chkL l = 0) : (1 ≤ l.kind ∧ l.kind ≤ 7) ∧ numOk l = true ∧ sizOk l = true ∧ frmOk l = true ∧ (bytL l).length ≤ 8000 := by
  unfold chkL at h
  by_cases h1 : wi l.kind 1 7 = false
  · rw [if_pos h1] at h; cases h
  rw [if_neg h1] at h
  by_cases h2 : numOk l = false
  · rw [if_pos h2] at h; cases h
  rw [if_neg h2] at h
  by_cases h3 : sizOk l = false
  · rw [if_pos h3] at h; cases h
  rw [if_neg h3] at h
  by_cases h4 : frmOk l = false
  · rw [if_pos h4] at h; cases h
  rw [if_neg h4] at h
  by_cases h5 : 8000 < (bytL l).length
  · rw [if_pos h5] at h; cases h
  exact ⟨wi_iff.1 (by simpa using h1), by simpa using h2, by simpa using h3, by simpa using h4, by omega⟩
/-- a right letter's bytes are read as it was -/
theorem rstP_fwd {l : LT} (hk : 1 ≤ l.kind ∧ l.kind ≤ 7) (hn : numOk l = true) (hs : sizOk l = true) (hf : frmOk l = true) (hd : ∀ s ∈ l.shown, Dig s.2.2) : rstP l.kind l.id l.obj (tailL l) = some (l, []) := by
  obtain ⟨_, _, hnt⟩ := numOk_id hn
  have hz := bare_zero hf
  obtain ⟨k, i, o, ps, ss, f, c, bs, cd⟩ := l
  unfold bareL lt0 at hz
  simp only [LT.mk.injEq, true_and] at hz
  obtain ⟨z1, z2, z3, z4, z5, z6⟩ := hz
  simp only at hk hd
  have hkk : k = 1 ∨ k = 2 ∨ k = 3 ∨ k = 4 ∨ k = 5 ∨ k = 6 ∨ k = 7 := by omega
  unfold numT at hnt
  unfold sizOk at hs
  unfold rstP tailL
  simp only
  have eb : ∀ (L : List (List Int)), (∀ x ∈ L, x.length = 16) → ∀ r, rep (tkB 16) L.length (L.flatten ++ r) = some (L, r) := fun L hL r => by
    have e := rep_app (f := tkB 16) (g := fun y => y) L (fun x hx r => tkB_app' (hL x hx) r) r
    rwa [flatMap_id'] at e
  rcases hkk with rfl | rfl | rfl | rfl | rfl | rfl | rfl
  · simp at z1 z2 z3 z4 z5 z6 hs hnt
    subst z1 z2 z3 z4 z6
    have hw := wi_iff.1 hs.1
    have h16 : ∀ x ∈ bs, x.length = 16 := fun x hx => badB_not (by have := hs.2 x hx; simpa using this)
    have e := eb bs h16 []
    rw [List.append_nil] at e
    simp
    rw [rdN_app (k := 2) (a := twoL bs.length) rfl, bnd_some, numR_two (by omega) (by omega), Int.toNat_natCast, e, bnd_some]
  · simp at z1 z2 z3 z4 z5 z6 hs hnt
    subst z1 z2 z3 z4 z5 z6
    simp
  · simp at z1 z2 z3 z4 z5 z6 hs hnt
    subst z2 z3 z4 z5 z6
    have e := rep_app (f := rdN 2) (g := twoL) ps (fun x hx r => by
      obtain ⟨h1, h2⟩ := badP_not (by have := hnt x hx; simpa using this)
      rw [rdN_app (k := 2) (a := twoL x) rfl, numR_two h1 (by omega)]) []
    rw [List.append_nil] at e
    simp
    rw [show ((ps.length : Int) :: ps.flatMap twoL) = [(ps.length : Int)] ++ ps.flatMap twoL from rfl, rdN_app (k := 1) rfl, bnd_some, numR_one, Int.toNat_natCast, e, bnd_some]
  · simp at z1 z2 z3 z4 z5 z6 hs hnt
    subst z1 z3 z4 z5 z6
    have e := rep_app (f := shP) (g := shB) ss (fun x hx r => by
      obtain ⟨h1, h2⟩ := badP_not (by have := hnt x.1 x.2.1 x.2.2 hx; simpa using this)
      obtain ⟨h3, _⟩ := badS_not (s := x) (by have := hs.2 x.1 x.2.1 x.2.2 hx; simpa using this)
      exact shP_fwd x ⟨h1, by omega⟩ h3 (fun d hd' => (hd x hx d hd').1) r) []
    rw [List.append_nil] at e
    simp
    rw [show ((ss.length : Int) :: ss.flatMap shB) = [(ss.length : Int)] ++ ss.flatMap shB from rfl, rdN_app (k := 1) rfl, bnd_some, numR_one, Int.toNat_natCast, e, bnd_some]
  · simp at z1 z2 z3 z4 z5 z6 hs hnt
    subst z1 z2 z5 z6
    have hw := wi_iff.1 hnt.1
    have hw2 := wi_iff.1 hnt.2
    simp
    rw [rdN_app (k := 2) (a := twoL f) rfl, bnd_some, numR_two (by omega) (by omega)]
    have e := rdN_app (k := 2) (a := twoL c) rfl []
    rw [List.append_nil] at e
    rw [e, bnd_some, numR_two (by omega) (by omega)]
  · simp at z1 z2 z3 z4 z5 z6 hs hnt
    subst z1 z2 z4 z6
    have hw := wi_iff.1 hs.1
    have hw2 := wi_iff.1 hnt
    have h16 : ∀ x ∈ bs, x.length = 16 := fun x hx => badB_not (by have := hs.2 x hx; simpa using this)
    have e := eb bs h16 []
    rw [List.append_nil] at e
    simp
    rw [rdN_app (k := 2) (a := twoL f) rfl, bnd_some, numR_two (by omega) (by omega), rdN_app (k := 2) (a := twoL bs.length) rfl, bnd_some, numR_two (by omega) (by omega), Int.toNat_natCast, e, bnd_some]
  · simp at z1 z2 z3 z4 z5 z6 hs hnt
    subst z1 z2 z3 z4 z5
    simp
    have e := rdN_app (k := 1) (a := [cd]) rfl []
    rw [List.append_nil] at e
    rw [e, bnd_some, numR_one]
theorem parse_fwd {l : LT} (h : chkL l = 0) (hd : ∀ s ∈ l.shown, Dig s.2.2) : parseL (bytL l) = (0, l) := by
  obtain ⟨hk, hn, hs, hf, hl⟩ := chk_parts h
  obtain ⟨hi, ho, _⟩ := numOk_id hn
  have e := rstP_fwd hk hn hs hf hd
  unfold parseL
  rw [if_neg (by omega)]
  unfold bytL
  simp only
  rw [if_neg (by rw [wi_iff.2 hk]; simp)]
  unfold bodP
  rw [List.append_assoc, rdN_app (numL_len _), bnd_some, rdN_app (numL_len _), bnd_some, numR_numL hi.1 hi.2, numR_numL ho.1 ho.2, e]
  simp only [endP]
  rw [if_pos h]
/-- a letter that is read has just these bytes -/
theorem parse_back {b : List Int} {l : LT} (hb : Byt b) (h : parseL b = (0, l)) : bytL l = b ∧ chkL l = 0 := by
  unfold parseL at h
  by_cases h8 : 8000 < b.length
  · rw [if_pos h8] at h; injection h with h; cases h
  rw [if_neg h8] at h
  match b, hb, h with
  | [], _, h => injection h with h; cases h
  | k :: r, hb, h =>
  simp only at h
  split at h
  · injection h with h; cases h
  unfold endP at h
  split at h
  · injection h with h; cases h
  · next l' heq =>
    split at h
    · next hc =>
      injection h with _ h
      subst h
      refine ⟨?_, hc⟩
      obtain ⟨i, r1, h1, heq1⟩ := bnd_eq heq
      obtain ⟨o, r2, h2, heq2⟩ := bnd_eq heq1
      obtain ⟨x1, e1, e1', e1''⟩ := rdN_eq h1
      obtain ⟨x2, e2, e2', e2''⟩ := rdN_eq h2
      subst e1 e2
      have hbr : Byt (x1 ++ (x2 ++ r2)) := fun y hy => hb y (List.mem_cons_of_mem _ hy)
      obtain ⟨f1, f2, f3, f4⟩ := rstP_back k i o r2 l' [] hbr.right.right heq2
      obtain ⟨_, hn, _, _, _⟩ := chk_parts hc
      obtain ⟨hi, ho, _⟩ := numOk_id hn
      unfold bytL
      rw [f1, f2, f3, e1'', e2'', num_num e1' hbr.left (by rw [← e1'', ← f2]; exact hi.2), num_num e2' hbr.right.left (by rw [← e2'', ← f3]; exact ho.2)]
      rw [List.append_nil] at f4
      rw [f4]
      simp only [List.append_assoc]
    · next hc =>
      injection h with h _
      exact absurd h hc
  · injection h with h; cases h
end Go.Proofs.Bl

/- The letter of bytes, as the reader goes: with its flag; that this is what is parsed. What may change while a reader reads. No program. -/
namespace Go.Proofs.Bl
open Go Go.RowKit
/-- a reader: is it short, what is left -/
abbrev Rst := Bool × List Int
def tkT (n : Nat) (s : Rst) : List Int × Rst := if s.1 = false ∧ n ≤ s.2.length then (s.2.take n, (false, s.2.drop n)) else ([], (true, s.2))
def nuT (n : Nat) (s : Rst) : Int × Rst := (numR (tkT n s).1, (tkT n s).2)
def eaT {α : Type} (f : Rst → List α × Rst) : Nat → Rst → List α × Rst
  | 0, s => ([], s)
  | n + 1, s => if s.1 = true then ([], s) else ((f s).1 ++ (eaT f n (f s).2).1, (eaT f n (f s).2).2)
def blT (s : Rst) : List (List Int) × Rst := ([(tkT 16 s).1], (tkT 16 s).2)
def plT (s : Rst) : List Int × Rst := ([(nuT 2 s).1], (nuT 2 s).2)
def paT (s : Rst) : List (List Int) × Rst := (if (tkT 32 s).1 = [] then [] else [(tkT 32 s).1], (tkT 32 s).2)
def shT (s : Rst) : Sh × Rst :=
  (((nuT 2 s).1, (tkT 16 (nuT 2 s).2).1, (eaT paT (nuT 1 (tkT 16 (nuT 2 s).2).2).1.toNat (nuT 1 (tkT 16 (nuT 2 s).2).2).2).1), (eaT paT (nuT 1 (tkT 16 (nuT 2 s).2).2).1.toNat (nuT 1 (tkT 16 (nuT 2 s).2).2).2).2)
def ssT (s : Rst) : List Sh × Rst := ([(shT s).1], (shT s).2)
def rsT (k i o : Int) (s : Rst) : LT × Rst :=
  if k = 6 then (⟨k, i, o, [], [], (nuT 2 s).1, 0, (eaT blT (nuT 2 (nuT 2 s).2).1.toNat (nuT 2 (nuT 2 s).2).2).1, 0⟩, (eaT blT (nuT 2 (nuT 2 s).2).1.toNat (nuT 2 (nuT 2 s).2).2).2)
  else if k = 1 then (⟨k, i, o, [], [], 0, 0, (eaT blT (nuT 2 s).1.toNat (nuT 2 s).2).1, 0⟩, (eaT blT (nuT 2 s).1.toNat (nuT 2 s).2).2)
  else if k = 3 then (⟨k, i, o, (eaT plT (nuT 1 s).1.toNat (nuT 1 s).2).1, [], 0, 0, [], 0⟩, (eaT plT (nuT 1 s).1.toNat (nuT 1 s).2).2)
  else if k = 4 then (⟨k, i, o, [], (eaT ssT (nuT 1 s).1.toNat (nuT 1 s).2).1, 0, 0, [], 0⟩, (eaT ssT (nuT 1 s).1.toNat (nuT 1 s).2).2)
  else if k = 5 then (⟨k, i, o, [], [], (nuT 2 s).1, (nuT 2 (nuT 2 s).2).1, [], 0⟩, (nuT 2 (nuT 2 s).2).2)
  else if k = 7 then (⟨k, i, o, [], [], 0, 0, [], (nuT 1 s).1⟩, (nuT 1 s).2)
  else (⟨k, i, o, [], [], 0, 0, [], 0⟩, s)
/-- the same as the parser that may fail -/
def Br {α : Type} (P : List Int → Option (α × List Int)) (T : Rst → α × Rst) : Prop :=
  (∀ b, (T (true, b)).2.1 = true) ∧ ∀ b, match P b with
    | some (x, r) => T (false, b) = (x, (false, r))
    | none => (T (false, b)).2.1 = true
theorem Br.val {α : Type} {P : List Int → Option (α × List Int)} {T : Rst → α × Rst} (h : Br P T) {b r : List Int} {x : α} (e : P b = some (x, r)) : T (false, b) = (x, (false, r)) := by
  have := h.2 b; rw [e] at this; exact this
theorem Br.no {α : Type} {P : List Int → Option (α × List Int)} {T : Rst → α × Rst} (h : Br P T) {b : List Int} (e : P b = none) : (T (false, b)).2.1 = true := by
  have := h.2 b; rw [e] at this; exact this
theorem Br.short {α : Type} {P : List Int → Option (α × List Int)} {T : Rst → α × Rst} (h : Br P T) (s : Rst) (hs : s.1 = true) : (T s).2.1 = true := by
  obtain ⟨a, b⟩ := s
  have hs : a = true := hs
  subst hs
  exact h.1 b
theorem Br.tk (n : Nat) : Br (tkB n) (tkT n) := by
  refine ⟨fun b => by unfold tkT; simp, fun b => ?_⟩
  unfold tkB tkT
  by_cases h : n ≤ b.length
  · rw [if_pos h]; simp [h]
  · rw [if_neg h]; simp [h]
theorem Br.nu (n : Nat) : Br (rdN n) (nuT n) := by
  refine ⟨fun b => (Br.tk n).1 b, fun b => ?_⟩
  unfold rdN nuT
  cases h : tkB n b with
  | none => exact (Br.tk n).no h
  | some y =>
    obtain ⟨x, r⟩ := y
    rw [bnd_some]
    simp only [(Br.tk n).val h]
/-- one behind the other -/
theorem Br.bind {α β : Type} {P : List Int → Option (α × List Int)} {T : Rst → α × Rst} {F : α → List Int → Option (β × List Int)} {G : α → Rst → β × Rst} (h : Br P T) (k : ∀ a, Br (F a) (G a)) : Br (fun b => bnd (P b) F) (fun s => G (T s).1 (T s).2) := by
  refine ⟨fun b => (k _).short _ (h.1 b), fun b => ?_⟩
  show match bnd (P b) F with
    | some (x, r) => G (T (false, b)).1 (T (false, b)).2 = (x, (false, r))
    | none => (G (T (false, b)).1 (T (false, b)).2).2.1 = true
  cases e : P b with
  | none =>
    rw [bnd_none]
    exact (k _).short _ (h.no e)
  | some y =>
    obtain ⟨x, r⟩ := y
    rw [bnd_some, h.val e]
    exact (k x).2 r
theorem Br.ret {α : Type} (a : α) : Br (fun b => Option.some (a, b)) (fun s => (a, s)) := ⟨fun _ => rfl, fun _ => rfl⟩
theorem Br.reps {α : Type} {P : List Int → Option (α × List Int)} {T : Rst → List α × Rst} (h1 : ∀ b, (T (true, b)).2.1 = true) (h2 : ∀ b x r, P b = some (x, r) → T (false, b) = ([x], (false, r))) (h3 : ∀ b, P b = none → (T (false, b)).2.1 = true) : ∀ n, Br (Bl.rep P n) (eaT T n)
  | 0 => ⟨fun _ => rfl, fun _ => rfl⟩
  | n + 1 => by
    have ih := Br.reps h1 h2 h3 n
    refine ⟨fun b => rfl, fun b => ?_⟩
    simp only [Bl.rep, eaT, Bool.false_eq_true, if_false]
    cases e : P b with
    | none =>
      rw [bnd_none]
      exact ih.short _ (h3 b e)
    | some y =>
      obtain ⟨x, r⟩ := y
      rw [bnd_some, h2 b x r e]
      simp only
      cases e2 : Bl.rep P n r with
      | none =>
        rw [bnd_none]
        exact ih.no e2
      | some z =>
        obtain ⟨xs, r'⟩ := z
        rw [bnd_some]
        simp only [ih.val e2]
        rfl
theorem Br.one {α : Type} {P : List Int → Option (α × List Int)} {T : Rst → α × Rst} (h : Br P T) : ∀ n, Br (Bl.rep P n) (eaT (fun s => ([(T s).1], (T s).2)) n) :=
  Br.reps (fun b => h.1 b) (fun b x r e => by simp only [h.val e]) (fun b e => h.no e)
theorem Br.pa : ∀ n, Br (Bl.rep (tkB 32) n) (eaT paT n) :=
  Br.reps (fun b => (Br.tk 32).1 b) (fun b x r e => by
    have h := (Br.tk 32).val e
    have hl := (tkB_eq e).2
    unfold paT
    rw [h]
    simp only
    rw [if_neg (fun q => by rw [q] at hl; cases hl)]) (fun b e => (Br.tk 32).no e)
theorem Br.sh : Br shP shT := (Br.nu 2).bind (F := fun p r => bnd (tkB 16 r) fun st r => bnd (rdN 1 r) fun c r => bnd (Bl.rep (tkB 32) c.toNat r) fun ds r => Option.some ((p, st, ds), r)) (G := fun p s => ((p, (tkT 16 s).1, (eaT paT (nuT 1 (tkT 16 s).2).1.toNat (nuT 1 (tkT 16 s).2).2).1), (eaT paT (nuT 1 (tkT 16 s).2).1.toNat (nuT 1 (tkT 16 s).2).2).2)) fun p =>
  (Br.tk 16).bind (F := fun st r => bnd (rdN 1 r) fun c r => bnd (Bl.rep (tkB 32) c.toNat r) fun ds r => Option.some ((p, st, ds), r)) (G := fun st s => ((p, st, (eaT paT (nuT 1 s).1.toNat (nuT 1 s).2).1), (eaT paT (nuT 1 s).1.toNat (nuT 1 s).2).2)) fun st =>
  (Br.nu 1).bind (F := fun c r => bnd (Bl.rep (tkB 32) c.toNat r) fun ds r => Option.some ((p, st, ds), r)) (G := fun c s => ((p, st, (eaT paT c.toNat s).1), (eaT paT c.toNat s).2)) fun c =>
  (Br.pa c.toNat).bind (F := fun ds r => Option.some ((p, st, ds), r)) (G := fun ds s => ((p, st, ds), s)) fun _ => Br.ret _
theorem Br.rs (k i o : Int) : Br (rstP k i o) (rsT k i o) := by
  unfold rstP rsT
  by_cases k6 : k = 6
  · simp only [if_pos k6]
    exact (Br.nu 2).bind (F := fun f r => bnd (rdN 2 r) fun n r => bnd (Bl.rep (tkB 16) n.toNat r) fun bs r => Option.some ((⟨k, i, o, [], [], f, 0, bs, 0⟩ : LT), r)) (G := fun f s => (⟨k, i, o, [], [], f, 0, (eaT blT (nuT 2 s).1.toNat (nuT 2 s).2).1, 0⟩, (eaT blT (nuT 2 s).1.toNat (nuT 2 s).2).2)) fun f =>
      (Br.nu 2).bind (F := fun n r => bnd (Bl.rep (tkB 16) n.toNat r) fun bs r => Option.some ((⟨k, i, o, [], [], f, 0, bs, 0⟩ : LT), r)) (G := fun n s => (⟨k, i, o, [], [], f, 0, (eaT blT n.toNat s).1, 0⟩, (eaT blT n.toNat s).2)) fun n =>
      ((Br.tk 16).one n.toNat).bind (F := fun bs r => Option.some ((⟨k, i, o, [], [], f, 0, bs, 0⟩ : LT), r)) (G := fun bs s => (⟨k, i, o, [], [], f, 0, bs, 0⟩, s)) fun _ => Br.ret _
  simp only [if_neg k6]
  by_cases k1 : k = 1
  · simp only [if_pos k1]
    exact (Br.nu 2).bind (F := fun n r => bnd (Bl.rep (tkB 16) n.toNat r) fun bs r => Option.some ((⟨k, i, o, [], [], 0, 0, bs, 0⟩ : LT), r)) (G := fun n s => (⟨k, i, o, [], [], 0, 0, (eaT blT n.toNat s).1, 0⟩, (eaT blT n.toNat s).2)) fun n =>
      ((Br.tk 16).one n.toNat).bind (F := fun bs r => Option.some ((⟨k, i, o, [], [], 0, 0, bs, 0⟩ : LT), r)) (G := fun bs s => (⟨k, i, o, [], [], 0, 0, bs, 0⟩, s)) fun _ => Br.ret _
  simp only [if_neg k1]
  by_cases k3 : k = 3
  · simp only [if_pos k3]
    exact (Br.nu 1).bind (F := fun n r => bnd (Bl.rep (rdN 2) n.toNat r) fun bs r => Option.some ((⟨k, i, o, bs, [], 0, 0, [], 0⟩ : LT), r)) (G := fun n s => (⟨k, i, o, (eaT plT n.toNat s).1, [], 0, 0, [], 0⟩, (eaT plT n.toNat s).2)) fun n =>
      ((Br.nu 2).one n.toNat).bind (F := fun bs r => Option.some ((⟨k, i, o, bs, [], 0, 0, [], 0⟩ : LT), r)) (G := fun bs s => (⟨k, i, o, bs, [], 0, 0, [], 0⟩, s)) fun _ => Br.ret _
  simp only [if_neg k3]
  by_cases k4 : k = 4
  · simp only [if_pos k4]
    exact (Br.nu 1).bind (F := fun n r => bnd (Bl.rep shP n.toNat r) fun bs r => Option.some ((⟨k, i, o, [], bs, 0, 0, [], 0⟩ : LT), r)) (G := fun n s => (⟨k, i, o, [], (eaT ssT n.toNat s).1, 0, 0, [], 0⟩, (eaT ssT n.toNat s).2)) fun n =>
      (Br.sh.one n.toNat).bind (F := fun bs r => Option.some ((⟨k, i, o, [], bs, 0, 0, [], 0⟩ : LT), r)) (G := fun bs s => (⟨k, i, o, [], bs, 0, 0, [], 0⟩, s)) fun _ => Br.ret _
  simp only [if_neg k4]
  by_cases k5 : k = 5
  · simp only [if_pos k5]
    exact (Br.nu 2).bind (F := fun f r => bnd (rdN 2 r) fun c r => Option.some ((⟨k, i, o, [], [], f, c, [], 0⟩ : LT), r)) (G := fun f s => (⟨k, i, o, [], [], f, (nuT 2 s).1, [], 0⟩, (nuT 2 s).2)) fun f =>
      (Br.nu 2).bind (F := fun c r => Option.some ((⟨k, i, o, [], [], f, c, [], 0⟩ : LT), r)) (G := fun c s => (⟨k, i, o, [], [], f, c, [], 0⟩, s)) fun _ => Br.ret _
  simp only [if_neg k5]
  by_cases k7 : k = 7
  · simp only [if_pos k7]
    exact (Br.nu 1).bind (F := fun c r => Option.some ((⟨k, i, o, [], [], 0, 0, [], c⟩ : LT), r)) (G := fun c s => (⟨k, i, o, [], [], 0, 0, [], c⟩, s)) fun _ => Br.ret _
  simp only [if_neg k7]
  exact Br.ret _
theorem Br.bod (k : Int) : Br (bodP k) (fun s => rsT k (nuT 8 s).1 (nuT 8 (nuT 8 s).2).1 (nuT 8 (nuT 8 s).2).2) :=
  (Br.nu 8).bind (F := fun i r => bnd (rdN 8 r) fun o r => rstP k i o r) (G := fun i s => rsT k i (nuT 8 s).1 (nuT 8 s).2) fun i =>
    (Br.nu 8).bind (F := fun o r => rstP k i o r) (G := fun o s => rsT k i o s) fun o => Br.rs k i o
/-- what the reader leaves behind the kind, and what is parsed -/
def finT (x : LT × Rst) : Nat × LT := if x.2.1 = true then (2, lt0) else if 0 < x.2.2.length then (4, lt0) else if chkL x.1 = 0 then (0, x.1) else (chkL x.1, lt0)
theorem finT_eq (k : Int) (r : List Int) : finT (rsT k (nuT 8 (false, r)).1 (nuT 8 (nuT 8 (false, r)).2).1 (nuT 8 (nuT 8 (false, r)).2).2) = endP (bodP k r) := by
  cases h : bodP k r with
  | none =>
    have := (Br.bod k).no h
    unfold finT
    rw [if_pos this]
    rfl
  | some y =>
    obtain ⟨l, q⟩ := y
    have e : rsT k (nuT 8 (false, r)).1 (nuT 8 (nuT 8 (false, r)).2).1 (nuT 8 (nuT 8 (false, r)).2).2 = (l, (false, q)) := (Br.bod k).val h
    rw [e]
    unfold finT endP
    simp only [Bool.false_eq_true, if_false]
    cases q with
    | nil => simp
    | cons a t => simp
theorem nuT_first (k : Int) (r : List Int) : nuT 1 (false, k :: r) = (k, (false, r)) := by
  unfold nuT tkT; simp [numR_one]
theorem nuT_none : (nuT 1 (false, [])).2.1 = true := by decide
theorem tkT_byt {n : Nat} {s : Rst} (h : Byt s.2) : Byt (tkT n s).1 ∧ Byt (tkT n s).2.2 := by
  unfold tkT
  split
  · exact ⟨h.take n, h.drop n⟩
  · exact ⟨Byt.nil, h⟩
theorem tkT_len {n : Nat} {s : Rst} : (tkT n s).2.2.length ≤ s.2.length := by
  unfold tkT
  split
  · simp only [List.length_drop]; omega
  · exact Nat.le_refl _
theorem numR_small {l : List Int} (hb : Byt l) : 0 ≤ numR l ∧ numR l ≤ 562949953421567 := by
  have : ∀ (l : List Int) (n : Int), 0 ≤ n → n ≤ 562949953421567 → Byt l → 0 ≤ numRn n l ∧ numRn n l ≤ 562949953421567 := by
    intro l
    induction l with
    | nil => intro n h0 h1 _; exact ⟨h0, h1⟩
    | cons c r ih =>
      intro n h0 h1 hb
      have hc := hb c (by simp)
      exact ih (min n 2199023255552 * 256 + c) (by omega) (by omega) (fun x hx => hb x (by simp [hx]))
  exact this l 0 (by omega) (by omega) hb
theorem nu1_le {s : Rst} (hb : Byt s.2) : 0 ≤ (nuT 1 s).1 ∧ (nuT 1 s).1 ≤ 255 := by
  unfold nuT tkT
  split
  · next h =>
    obtain ⟨_, h2, h3⟩ := one_num (x := s.2.take 1) (by rw [List.length_take]; omega) (hb.take 1)
    exact ⟨h2, h3⟩
  · show 0 ≤ numR [] ∧ numR [] ≤ 255
    decide
theorem nu2_le {s : Rst} (hb : Byt s.2) : 0 ≤ (nuT 2 s).1 ∧ (nuT 2 s).1 ≤ 65535 := by
  unfold nuT tkT
  split
  · next h =>
    obtain ⟨_, h2, h3⟩ := two_num (x := s.2.take 2) (by rw [List.length_take]; omega) (hb.take 2)
    exact ⟨h2, h3⟩
  · show 0 ≤ numR [] ∧ numR [] ≤ 65535
    decide
/-- all is kept but the blocks of Q -/
structure Kq (Q : Nat → Prop) (w w' : World) : Prop where
  os : w'.os = w.os
  tape : w'.tape = w.tape
  output : w'.output = w.output
  size : w.heap.size ≤ w'.heap.size
  block : ∀ k, k < w.heap.size → ¬ Q k → w'.heap[k]? = w.heap[k]?
section
variable {Q Q' : Nat → Prop} {a b c w w' : World}
theorem Kq.refl (w : World) : Kq Q w w := ⟨rfl, rfl, rfl, Nat.le_refl _, fun _ _ _ => rfl⟩
theorem Kq.trans (h : Kq Q a b) (k : Kq Q b c) : Kq Q a c := ⟨k.os.trans h.os, k.tape.trans h.tape, k.output.trans h.output, Nat.le_trans h.size k.size, fun i hi hq => (k.block i (Nat.lt_of_lt_of_le hi h.size) hq).trans (h.block i hi hq)⟩
theorem Kq.drew (w : World) : Kq Q w w.drew := ⟨rfl, rfl, rfl, Nat.le_refl _, fun _ _ _ => rfl⟩
theorem Kq.of_ext (h : Ext w w') : Kq Q w w' := ⟨h.os, h.tape, h.output, h.size, fun k hk _ => h.block k hk⟩
theorem Kq.mono (h : Kq Q w w') (hq : ∀ k, k < w.heap.size → Q k → Q' k) : Kq Q' w w' := ⟨h.os, h.tape, h.output, h.size, fun k hk hn => h.block k hk fun q => hn (hq k hk q)⟩
theorem Kq.below (h : Kq Q w w') {B : Nat} (hB : B ≤ w.heap.size) (hq : ∀ k, Q k → B ≤ k) : Below B w w' := ⟨h.os, h.tape, h.output, h.size, fun k hk => h.block k (by omega) fun q => by have := hq k q; omega⟩
theorem Kq.ext (h : Kq Q w w') (hq : ∀ k, Q k → w.heap.size ≤ k) : Ext w w' := h.below (Nat.le_refl _) hq
theorem Kq.setCell (h : Kq Q w w') (p : Addr) (hp : Q p.block) (v : Value) : Kq Q w (w'.setCell p v) :=
  ⟨h.os, h.tape, h.output, Nat.le_trans h.size ((Below.refl 0 w').setCell (Nat.zero_le _) v).size, fun k hk hn => (Below.heap_setCell w' p v k (fun e => hn (e ▸ hp))).trans (h.block k hk hn)⟩
theorem Kq.setCells {g : Nat} (h : Kq Q w w') (hg : Q g) (o : Nat) (vs : List Value) : Kq Q w (w'.setCells g o vs) := by
  have hb := below_setCells vs g o w' (Below.refl 0 w') (Nat.zero_le _)
  exact ⟨hb.os.trans h.os, hb.tape.trans h.tape, hb.output.trans h.output, Nat.le_trans h.size hb.size, fun k hk hn => (exc_setCells (g := g) vs o w' (Exc.refl g w') k (fun e => hn (e ▸ hg))).trans (h.block k hk hn)⟩
theorem Kq.grown {row : Option Nat} (hg : w.grownBy w' row) (hq : ∀ k, row = some k → Q k) : Kq Q w w' := ⟨hg.os, hg.tape, hg.output, hg.size, fun k hk hn => hg.block k hk fun q => hn (hq k q.symm)⟩
theorem Kq.cell {k i : Nat} {v : Value} (h : Kq Q w w') (hk : ¬ Q k) (hc : w.cell? ⟨k, i, none⟩ = some v) : w'.cell? ⟨k, i, none⟩ = some v := by
  rw [World.cell?_of_block (w := w) (h.block k (World.block_lt_of_cell? _ _ hc) hk)]; exact hc
theorem Kq.box {X : Nat} {cs : List Value} (h : Kq Q w w') (hk : ¬ Q X) (hb : BoxC w X cs) : BoxC w' X cs := hb.same (h.block X hb.lt hk)
theorem Kq.rds {v : Value} {n : Nat} {cs : List Value} (h : Kq Q w w') (hr : Rds w v n cs) (hk : ∀ k, v.ownBlock = some k → ¬ Q k) : Rds w' v n cs := Rds.kept hr fun k hb hl => h.block k hl (hk k hb)
end
/-- a reader in the block X: its bytes lie below X -/
structure Rdr (w : World) (X : Nat) (s : Rst) : Prop where
  ex : ∃ p c, BoxC w X [.slice p s.2.length c, .bool s.1] ∧ RdsF (fun k => k < X) w (.slice p s.2.length c) s.2.length (ints .u8 s.2) ∧ s.2.length ≤ c ∧ c ≤ maxLen
  by' : Byt s.2
  le : s.2.length ≤ 9000
theorem Rdr.lt {w : World} {X : Nat} {s : Rst} (h : Rdr w X s) : X < w.heap.size := by
  obtain ⟨p, c, h1, _⟩ := h.ex; exact h1.lt
theorem Rdr.kept {Q : Nat → Prop} {w w' : World} {X : Nat} {s : Rst} (h : Rdr w X s) (k : Kq Q w w') (hq : ∀ i, i ≤ X → ¬ Q i) : Rdr w' X s := by
  obtain ⟨p, c, h1, h2, h3⟩ := h.ex
  exact ⟨⟨p, c, k.box (hq X (Nat.le_refl _)) h1, h2.kept fun b hb hl => ⟨hb, k.block b hl (hq b (Nat.le_of_lt hb))⟩, h3⟩, h.by', h.le⟩
theorem Rdr.ext {w w' : World} {X : Nat} {s : Rst} (h : Rdr w X s) (k : Ext w w') : Rdr w' X s := h.kept (Q := fun _ => False) (Kq.of_ext k) fun _ _ q => q
/-- stages of a region: a call, a build, an append, one behind the other; all else reads -/
structure Chn (ic ib ia tc tb ta : Nat) (S0 : World → Prop) (S1 S2 S3 : Value → World → Prop) (d : Nat → Bool) (u : Nat → Value) (w : World) : Prop where
  a : d ic = false → S0 w
  b : d ic = true → d ib = false → S1 (u tc) w
  c : d ib = true → d ia = false → S2 (u tb) w
  d : d ia = true → S3 (u ta) w
section
variable {ic ib ia tc tb ta : Nat} {S0 : World → Prop} {S1 S2 S3 : Value → World → Prop} {d : Nat → Bool} {u : Nat → Value} {w w' : World}
theorem Chn.start (h : S0 w) : Chn ic ib ia tc tb ta S0 S1 S2 S3 (fun _ => false) u w := ⟨fun _ => h, fun q => (by cases q), fun q => (by cases q), fun q => (by cases q)⟩
theorem Chn.same {i t : Nat} {v : Value} (h : Chn ic ib ia tc tb ta S0 S1 S2 S3 d u w) (hi : (decide (i = ic) || decide (i = ib) || decide (i = ia) || decide (t = tc) || decide (t = tb) || decide (t = ta)) = false) : Chn ic ib ia tc tb ta S0 S1 S2 S3 (upd d i) (updv (some t) u v) w := by
  simp only [Bool.or_eq_false_iff, decide_eq_false_iff_not] at hi
  obtain ⟨⟨⟨⟨⟨h1, h2⟩, h3⟩, h4⟩, h5⟩, h6⟩ := hi
  have a1 : upd d i ic = d ic := if_neg (fun e => h1 e.symm)
  have a2 : upd d i ib = d ib := if_neg (fun e => h2 e.symm)
  have a3 : upd d i ia = d ia := if_neg (fun e => h3 e.symm)
  have b1 : updv (some t) u v tc = u tc := if_neg (fun e => h4 e.symm)
  have b2 : updv (some t) u v tb = u tb := if_neg (fun e => h5 e.symm)
  have b3 : updv (some t) u v ta = u ta := if_neg (fun e => h6 e.symm)
  exact ⟨by rw [a1]; exact h.a, by rw [a1, a2, b1]; exact h.b, by rw [a2, a3, b2]; exact h.c, by rw [a3, b3]; exact h.d⟩
theorem Chn.call {v : Value} (hn : (decide (ic = ib) || decide (ic = ia)) = false) (hb : d ib = false) (ha : d ia = false) (h : S1 v w') : Chn ic ib ia tc tb ta S0 S1 S2 S3 (upd d ic) (updv (some tc) u v) w' := by
  simp only [Bool.or_eq_false_iff, decide_eq_false_iff_not] at hn
  have a1 : upd d ic ic = true := if_pos rfl
  have a2 : upd d ic ib = d ib := if_neg (fun e => hn.1 e.symm)
  have a3 : upd d ic ia = d ia := if_neg (fun e => hn.2 e.symm)
  have b1 : updv (some tc) u v tc = v := if_pos rfl
  exact ⟨fun q => (by rw [a1] at q; cases q), fun _ _ => by rw [b1]; exact h, fun q => (by rw [a2, hb] at q; cases q), fun q => (by rw [a3, ha] at q; cases q)⟩
theorem Chn.bld {v : Value} (hn : (decide (ic = ib) || decide (ib = ia)) = false) (hc : d ic = true) (ha : d ia = false) (h : S2 v w') : Chn ic ib ia tc tb ta S0 S1 S2 S3 (upd d ib) (updv (some tb) u v) w' := by
  simp only [Bool.or_eq_false_iff, decide_eq_false_iff_not] at hn
  have a1 : upd d ib ib = true := if_pos rfl
  have a2 : upd d ib ic = d ic := if_neg hn.1
  have a3 : upd d ib ia = d ia := if_neg (fun e => hn.2 e.symm)
  have b1 : updv (some tb) u v tb = v := if_pos rfl
  exact ⟨fun q => (by rw [a2, hc] at q; cases q), fun _ q => (by rw [a1] at q; cases q), fun _ _ => by rw [b1]; exact h, fun q => (by rw [a3, ha] at q; cases q)⟩
theorem Chn.app {v : Value} (hn : (decide (ic = ia) || decide (ib = ia)) = false) (hc : d ic = true) (hb : d ib = true) (h : S3 v w') : Chn ic ib ia tc tb ta S0 S1 S2 S3 (upd d ia) (updv (some ta) u v) w' := by
  simp only [Bool.or_eq_false_iff, decide_eq_false_iff_not] at hn
  have a1 : upd d ia ia = true := if_pos rfl
  have a2 : upd d ia ic = d ic := if_neg hn.1
  have a3 : upd d ia ib = d ib := if_neg hn.2
  have b1 : updv (some ta) u v ta = v := if_pos rfl
  exact ⟨fun q => (by rw [a2, hc] at q; cases q), fun _ q => (by rw [a3, hb] at q; cases q), fun _ q => (by rw [a1] at q; cases q), fun _ => by rw [b1]; exact h⟩
end
end Go.Proofs.Bl

/- A slice of one element that is built, whatever the element's cells. No program. -/
namespace Go.Proofs.Bl
open Go Go.RowKit
theorem fill_oneV (cells : Array Value) (v : Value) (n : Nat) (hc : cells.size = n) (hs : v.cells.size = n) : Instr.fill (fun i => some (i * n, n)) cells [(0, v)] = some v.cells := by
  have h := fill_one cells v.cells n hc hs
  simp only [Instr.fill, Value.cells] at h ⊢
  exact h
section
variable {P : Program} {R : World → World → Prop} {w : World} {ev : Nat → Value} {φ : Value → World → Prop} {d : Option Tmp} {tt t e : TypeId} {z : Value} {bytes n : Nat} {pp : String} {af : Array Edge} {g : Option (Nat × Bool)} {x : Operand}
theorem goodX_buildV (hT : SlT P t e z n bytes) (hn : n ≤ 1000) {v : Value} (hx : evalE ev x = v) (hs : v.cells.size = n) (hφ : R w (w.alloc (.cells v.cells e)) ∧ φ (.slice (some ⟨w.heap.size, 0, none⟩) 1 1) (w.alloc (.cells v.cells e))) :
    GoodX R P w φ ((execOp (evalE ev) ⟨d, .buildSlice t 1 #[(0, x)], tt, pp, af, g⟩).run P w) := by
  obtain ⟨i, hi, hz, hs1, hb1⟩ := info_parts hT.info
  have hp := hT.pos
  have h : (Instr.buildSlice t 1 #[(0, v)]).run P w = .ok (.slice (some ⟨w.heap.size, 0, none⟩) 1 1) (w.alloc (.cells v.cells e)) := by
    refine run_buildSlice w t e 1 #[(0, v)] v.cells i z hT.ht hi hz (by rw [hs1]; omega) (by rw [hs1]; omega) ?_
    rw [hs1]
    exact fill_oneV _ v n (by simp) hs
  unfold execOp
  simp only [hx, List.map_toArray, List.map_cons, List.map_nil, Sem.run_bind, Sem.run_pure, h, Result.andThen_ok]
  exact hφ
end
end Go.Proofs.Bl

/- A row that grows in a field while a reader reads: what holds ahead of, between and behind the operations. No program. -/
namespace Go.Proofs.Bl
open Go Go.RowKit
/-- a row of elements in the field fi of the struct's variable X; it may be cut -/
structure GP {α : Type} (f : α → List Value) (s : Nat) (Ok : (Nat → Prop) → World → α → Prop) (B : Nat) (w : World) (X fi : Nat) (cs : List Value) (v : Value) (M : List α) : Prop where
  box : BoxC w X cs
  fld : cs[fi]? = some v
  own : Pk w B s v M.length (cellsR f M)
  ok : ∀ x ∈ M, Ok (fun b => b ≠ X ∧ v.ownBlock ≠ some b ∧ B ≤ b) w x
  ne : v.ownBlock ≠ some X
section
variable {α : Type} {f : α → List Value} {s : Nat} {Ok : (Nat → Prop) → World → α → Prop} {B : Nat} {w w1 w2 : World} {X fi : Nat} {cs : List Value} {v v' : Value} {M : List α} {y : α} {Q : Nat → Prop}
theorem GP.kept (hS : Stab Ok) (h : GP f s Ok B w X fi cs v M) (k : Kq Q w w1) (hX : ¬ Q X) (hQ : ∀ b, B ≤ b → ¬ Q b) : GP f s Ok B w1 X fi cs v M :=
  ⟨k.box hX h.box, h.fld, h.own.kept (fun b hb => k.block b (h.own.block b hb).2 (hQ b (h.own.block b hb).1)) k.size, fun x hx => hS _ _ _ _ _ (h.ok x hx) fun b hb hlt => ⟨hb, k.block b hlt (hQ b hb.2.2)⟩, h.ne⟩
theorem GP.ext (hS : Stab Ok) (h : GP f s Ok B w X fi cs v M) (hE : Ext w w1) : GP f s Ok B w1 X fi cs v M := h.kept (Q := fun _ => False) hS (Kq.of_ext hE) (fun q => q) (fun _ _ q => q)
theorem GP.start (hB : BoxC w X cs) (hf : cs[fi]? = some (.slice none 0 0)) : GP f s Ok B w X fi cs (.slice none 0 0) [] :=
  ⟨hB, hf, Pk.nil _ _ _, fun x hx => (by cases hx), fun q => (by cases q)⟩
theorem GP.lt (h : GP f s Ok B w X fi cs v M) : fi < cs.length := (List.getElem?_eq_some_iff.1 h.fld).1
theorem GP.cell (h : GP f s Ok B w X fi cs v M) : w.cell? ⟨X, fi, none⟩ = some v := h.box.cell h.fld
theorem GP.mid (h : GP f s Ok B w1 X fi cs v M) (hg : w1.grownBy w2 v.ownBlock) : BoxC w2 X cs := h.box.grown hg (fun q => h.ne q)
theorem GP.form (h : GP f s Ok B w X fi cs v M) : ∃ p c, v = .slice p M.length c := by
  obtain ⟨p, c, h1, _⟩ := h.own.rds.form; exact ⟨p, c, h1⟩
theorem GP.push (hS : Stab Ok) (h : GP f s Ok B w1 X fi cs v M) (hown : Pk w2 B s v' (M.length + 1) (cellsR f M ++ f y)) (hg : w1.grownBy w2 v.ownBlock) (hk : ∀ k, v'.ownBlock = some k → v.ownBlock = some k ∨ w1.heap.size ≤ k) (hy : Ok (fun b => b ≠ X ∧ v.ownBlock ≠ some b ∧ B ≤ b) w1 y) :
    GP f s Ok B (w2.setCell ⟨X, fi, none⟩ v') X fi (cs.set fi v') v' (M ++ [y]) := by
  have hne : v'.ownBlock ≠ some X := fun q => by
    rcases hk X q with z | z
    · exact h.ne z
    · have := h.box.lt; omega
  have hh : ∀ j, j ≠ X → (w2.setCell ⟨X, fi, none⟩ v').heap[j]? = w2.heap[j]? := fun j hj => Below.heap_setCell w2 ⟨X, fi, none⟩ _ j hj
  have hsz : w2.heap.size ≤ (w2.setCell ⟨X, fi, none⟩ v').heap.size := ((Below.refl 0 w2).setCell (Nat.zero_le _) _).size
  refine ⟨(h.mid hg).put h.lt v', by rw [List.getElem?_set_self h.lt], ?_, fun x hx => ?_, hne⟩
  · rw [List.length_append, List.length_singleton, cellsR_append, cellsR_one]
    exact hown.kept (fun j hj => hh j (fun q => hne (by rw [hj, q]))) hsz
  · have key : ∀ b, (b ≠ X ∧ v.ownBlock ≠ some b ∧ B ≤ b) → b < w1.heap.size → (b ≠ X ∧ v'.ownBlock ≠ some b ∧ B ≤ b) ∧ (w2.setCell ⟨X, fi, none⟩ v').heap[b]? = w1.heap[b]? := fun b hb hlt => by
      refine ⟨⟨hb.1, fun q => ?_, hb.2.2⟩, ?_⟩
      · rcases hk b q with z | z
        · exact hb.2.1 z
        · omega
      · rw [hh b hb.1]
        exact hg.block b hlt (fun q => hb.2.1 q.symm)
    rcases List.mem_append.1 hx with hx | hx
    · exact hS _ _ _ _ _ (h.ok x hx) key
    · obtain rfl : x = y := by simpa using hx
      exact hS _ _ _ _ _ hy key
end
section
variable {α : Type} (f : α → List Value) (s : Nat) (Ok : (Nat → Prop) → World → α → Prop) (B X Y fi : Nat) (cs : List Value) (vr : Value) (M : List α) (Pr : α → Prop) (sa sb : Rst)
/-- ahead of the call -/
def C0 (w : World) : Prop := Rdr w X sa ∧ GP f s Ok B w Y fi cs vr M ∧ B ≤ w.heap.size
/-- behind it: the element -/
def C1 (v : Value) (w : World) : Prop := ∃ y, Pr y ∧ v.cells = (f y).toArray ∧ (f y).length = s ∧ (∀ c ∈ f y, c.oneCell' = true) ∧ Ok (fun b => b ≠ Y ∧ vr.ownBlock ≠ some b ∧ B ≤ b) w y ∧ Rdr w X sb ∧ GP f s Ok B w Y fi cs vr M ∧ B ≤ w.heap.size
/-- built -/
def C2 (v : Value) (w : World) : Prop := ∃ y g, v = .slice (some ⟨g, 0, none⟩) 1 1 ∧ w.rangeAt g 0 (f y) ∧ Pr y ∧ (f y).length = s ∧ (∀ c ∈ f y, c.oneCell' = true) ∧ Ok (fun b => b ≠ Y ∧ vr.ownBlock ≠ some b ∧ B ≤ b) w y ∧ Rdr w X sb ∧ GP f s Ok B w Y fi cs vr M ∧ B ≤ w.heap.size
/-- appended -/
def C3 (v : Value) (w : World) : Prop := ∃ y p c, v = .slice p (M.length + 1) c ∧ Pr y ∧ w.cell? ⟨Y, fi, none⟩ = some vr ∧ w.frozen? ⟨Y, fi, none⟩ = false ∧ GP f s Ok B (w.setCell ⟨Y, fi, none⟩ v) Y fi (cs.set fi v) v (M ++ [y]) ∧ Rdr (w.setCell ⟨Y, fi, none⟩ v) X sb
end
section
variable {α : Type} {f : α → List Value} {s : Nat} {Ok : (Nat → Prop) → World → α → Prop} {B X Y fi : Nat} {cs : List Value} {vr : Value} {M : List α} {Pr : α → Prop} {sa sb : Rst} {w w' : World}
theorem C0.c1 (hS : Stab Ok) (h : C0 f s Ok B X Y fi cs vr M sa w) {v : Value} {y : α} {Q : Nat → Prop} (hK : Kq Q w w') (hY : ¬ Q Y) (hQ : ∀ b, B ≤ b → ¬ Q b) (hR : Rdr w' X sb) (hp : Pr y) (hv : v.cells = (f y).toArray) (hl : (f y).length = s) (h1 : ∀ c ∈ f y, c.oneCell' = true) (hok : Ok (fun b => w.heap.size ≤ b) w' y) : C1 f s Ok B X Y fi cs vr M Pr sb v w' :=
  ⟨y, hp, hv, hl, h1, hS _ _ _ _ _ hok fun b hb _ => ⟨⟨fun q => by have := h.2.1.box.lt; omega, fun q => by have := (h.2.1.own.block b q).2; omega, by have := h.2.2; omega⟩, rfl⟩, hR, h.2.1.kept hS hK hY hQ, Nat.le_trans h.2.2 hK.size⟩
theorem C1.c2 (hS : Stab Ok) {v : Value} (h : C1 f s Ok B X Y fi cs vr M Pr sb v w) (e : TypeId) : C2 f s Ok B X Y fi cs vr M Pr sb (.slice (some ⟨w.heap.size, 0, none⟩) 1 1) (w.alloc (.cells v.cells e)) := by
  obtain ⟨y, h1, h2, h3, h4, h5, h6, h7, h8⟩ := h
  have hE := ext_alloc w (.cells v.cells e)
  refine ⟨y, w.heap.size, rfl, fun j u hu => ?_, h1, h3, h4, hS _ _ _ _ _ h5 fun b hb hl => ⟨hb, hE.block b hl⟩, h6.ext hE, h7.ext hS hE, Nat.le_trans h8 hE.size⟩
  rw [Nat.zero_add, World.cell?_alloc_new, h2]; simpa using hu
theorem C1.size {v : Value} (h : C1 f s Ok B X Y fi cs vr M Pr sb v w) : v.cells.size = s := by
  obtain ⟨y, _, h2, h3, _⟩ := h; rw [h2]; simpa using h3
theorem C2.c3 (hS : Stab Ok) (hX : X < B) (hXY : X < Y) {v' : Value} {y : α} (h6 : Rdr w X sb) (h7 : GP f s Ok B w Y fi cs vr M) (hp : Pr y) (h5 : Ok (fun b => b ≠ Y ∧ vr.ownBlock ≠ some b ∧ B ≤ b) w y) (h2 : Pk w' B s v' (M.length + 1) (cellsR f M ++ f y)) (h3 : w.grownBy w' vr.ownBlock) (h4 : ∀ j, v'.ownBlock = some j → vr.ownBlock = some j ∨ w.heap.size ≤ j) : Kq (fun k => k = X ∨ B ≤ k) w w' ∧ C3 f s Ok B X Y fi cs vr M Pr sb v' w' := by
  have hK : Kq (fun k => B ≤ k) w w' := Kq.grown h3 fun k hk => (h7.own.block k hk).1
  obtain ⟨p, c, hf, _⟩ := h2.rds.form
  have hb := h7.mid h3
  refine ⟨hK.mono fun k _ hk => .inr hk, y, p, c, hf, hp, hb.cell h7.fld, hb.fz h7.lt, h7.push hS h2 h3 h4 h5, ?_⟩
  exact h6.kept (Q := fun k => B ≤ k ∨ k = Y) ((hK.mono fun k _ hk => .inl hk).setCell ⟨Y, fi, none⟩ (.inr rfl) v') fun i hi q => by
    rcases q with q | q
    · omega
    · omega
end
section
variable {P : Program} {R : World → World → Prop} {α : Type} {f : α → List Value} {s : Nat} {Ok : (Nat → Prop) → World → α → Prop} {B X Y fi : Nat} {cs : List Value} {vr : Value} {M : List α} {Pr : α → Prop} {sb : Rst} {w : World} {ev : Nat → Value} {φ : Value → World → Prop} {d : Option Tmp} {tt t e : TypeId} {z : Value} {bytes n : Nat} {pp : String} {af : Array Edge} {g : Option (Nat × Bool)} {x y : Operand}
/-- the element is appended -/
theorem goodX_c3 (hT : SlT P t e z s bytes) (hS : Stab Ok) (hX : X < B) (hXY : X < Y) {v2 : Value} (hc : C2 f s Ok B X Y fi cs vr M Pr sb v2 w) (hy : evalE ev y = v2) (hx : evalE ev x = vr) (hlen : M.length + 1 ≤ maxLen) (hbytes : (M.length + 1) * bytes ≤ 140737488355328)
    (hφ : ∀ v' w', Kq (fun k => k = X ∨ B ≤ k) w w' → C3 f s Ok B X Y fi cs vr M Pr sb v' w' → R w w' ∧ φ v' w') :
    GoodX R P w φ ((execOp (evalE ev) ⟨d, .call { callee := .builtin .append, args := #[x, y], argTypes := #[t, t] }, tt, pp, af, g⟩).run P w) := by
  obtain ⟨a, b, h1, h2, h3, h4, h5, h6, h7, h8, h9⟩ := hc
  refine goodX_append hT h8.own h2 (by rw [h4, Nat.one_mul]) h5 (by decide) hlen hbytes h9 hx (hy.trans h1) fun v' w' q1 q2 q3 => ?_
  obtain ⟨k1, k2⟩ := C2.c3 hS hX hXY h7 h8 h3 h6 q1 q2 q3
  exact hφ v' w' k1 k2
end
theorem cB_cells {v : Value} {l : List Int} {w : World} (h : SlB w v l) : v.cells = (cB (v, l)).toArray := by
  obtain ⟨p, c, rfl, _⟩ := h; rfl
theorem cB_one {v : Value} {l : List Int} {w : World} (h : SlB w v l) : ∀ c ∈ cB (v, l), c.oneCell' = true := fun c hc => by
  obtain ⟨p, c', rfl, _⟩ := h
  unfold cB at hc
  rw [List.mem_singleton] at hc
  subst hc; rfl
theorem cI_one (x : Int) : ∀ c ∈ cI x, c.oneCell' = true := fun c hc => by
  unfold cI at hc
  rw [List.mem_singleton] at hc
  subst hc; rfl
/-- how the rounds end -/
def EachEnd (I : Nat → Rst → World → Prop) (n : Nat) (w : World) : Prop := ∃ k s, k ≤ n ∧ I k s w ∧ (k = n ∨ s.1 = true)
/-- the rounds, from the first on -/
theorem eaT_stop {α : Type} (f : Rst → List α × Rst) (n : Nat) (s : Rst) (h : s.1 = true) : eaT f n s = ([], s) := by
  cases n with
  | zero => rfl
  | succ n => simp [eaT, h]
theorem eaT_step {α : Type} (f : Rst → List α × Rst) (n k : Nat) (s : Rst) (hk : k < n) (h : s.1 = false) : eaT f (n - k) s = ((f s).1 ++ (eaT f (n - (k + 1)) (f s).2).1, (eaT f (n - (k + 1)) (f s).2).2) := by
  rw [show n - k = (n - (k + 1)) + 1 by omega]
  simp [eaT, h]
end Go.Proofs.Bl

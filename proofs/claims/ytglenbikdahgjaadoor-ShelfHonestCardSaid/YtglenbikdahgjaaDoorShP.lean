/- What a shelf holds, and what it answers, plainly; the ids that came, as a window. No program. -/
import Derived.Test.YtglenbikdahgjaaDoorLtp
import Derived.Test.YtglenbikdahgjaaDoorPth0
import Derived.Laws.BitsLemmas
namespace Go.Proofs.Bl
open Go Go.RowKit
/-! ### the ids that came -/
def gmx : Int → List Int → Int
  | g, [] => g
  | g, x :: r => gmx (if g < x then x else g) r
theorem gmx_app : ∀ (l : List Int) (g x : Int), gmx g (l ++ [x]) = if gmx g l < x then x else gmx g l
  | [], _, _ => rfl
  | y :: r, g, x => gmx_app r (if g < y then y else g) x
theorem gmx_ge : ∀ (l : List Int) (g : Int), g ≤ gmx g l ∧ ∀ x ∈ l, x ≤ gmx g l
  | [], g => ⟨Int.le_refl g, fun x hx => (by cases hx)⟩
  | y :: r, g => by
    obtain ⟨h1, h2⟩ := gmx_ge r (if g < y then y else g)
    have h3 : g ≤ gmx g (y :: r) ∧ y ≤ gmx g (y :: r) := by
      show g ≤ gmx (if g < y then y else g) r ∧ y ≤ gmx (if g < y then y else g) r
      by_cases hq : g < y
      · rw [if_pos hq] at h1 ⊢; omega
      · rw [if_neg hq] at h1 ⊢; omega
    refine ⟨h3.1, fun x hx => ?_⟩
    rcases List.mem_cons.1 hx with rfl | hx
    · exact h3.2
    · exact h2 x hx
theorem gmx_mem : ∀ (l : List Int) (g : Int), gmx g l = g ∨ gmx g l ∈ l
  | [], g => .inl rfl
  | y :: r, g => by
    show gmx (if g < y then y else g) r = g ∨ gmx (if g < y then y else g) r ∈ y :: r
    rcases gmx_mem r (if g < y then y else g) with h | h
    · rw [h]
      split
      · exact .inr (by simp)
      · exact .inl rfl
    · exact .inr (List.mem_cons_of_mem _ h)
def oldI (ids : List Int) (x : Int) : Bool := !ids.isEmpty && decide (x ≤ gmx 0 ids - 64)
def hasI (ids : List Int) (x : Int) : Bool := decide (x ∈ ids) && !oldI ids x
def freI (ids : List Int) (x : Int) : Bool := wi x 0 1099511627776 && !oldI ids x && !hasI ids x
/-- a window over the ids that came -/
structure SeenOk (any : Bool) (g : Int) (c : Nat) (ids : List Int) : Prop where
  an : any = !ids.isEmpty
  gr : g = gmx 0 ids
  lt : c < 2 ^ 64
  rn : ∀ x ∈ ids, 0 ≤ x ∧ x ≤ 1099511627776
  bt : ∀ k : Nat, k < 64 → c.testBit k = decide ((g - (k : Int)) ∈ ids)
theorem SeenOk.zero : SeenOk false 0 0 [] := ⟨rfl, rfl, by decide, fun x h => (by cases h), fun k _ => by simp⟩
section
variable {any : Bool} {g : Int} {c : Nat} {ids : List Int}
theorem SeenOk.rng (h : SeenOk any g c ids) : 0 ≤ g ∧ g ≤ 1099511627776 := by
  have h1 := (gmx_ge ids 0).1
  rw [h.gr]
  refine ⟨h1, ?_⟩
  rcases gmx_mem ids 0 with q | q
  · omega
  · exact (h.rn _ q).2
theorem SeenOk.top (h : SeenOk any g c ids) {x : Int} (hx : x ∈ ids) : x ≤ g := by rw [h.gr]; exact (gmx_ge ids 0).2 x hx
theorem SeenOk.emp (h : SeenOk any g c ids) (ha : any = false) : ids = [] := by
  have := h.an
  rw [ha] at this
  simpa using this.symm
theorem SeenOk.old (h : SeenOk any g c ids) (x : Int) : oldI ids x = (any && decide (x ≤ g - 64)) := by unfold oldI; rw [h.an, h.gr]
theorem SeenOk.has (h : SeenOk any g c ids) {x : Int} (ho : oldI ids x = false) (ha : any = true) (hg : x ≤ g) : hasI ids x = c.testBit (g - x).toNat := by
  rw [h.old, ha] at ho
  have h2 : ¬ x ≤ g - 64 := by simpa using ho
  rw [h.bt (g - x).toNat (by omega), show g - ((g - x).toNat : Int) = x by omega]
  unfold hasI
  rw [h.old, ha]
  simp [h2]
theorem SeenOk.hasno (h : SeenOk any g c ids) {x : Int} (hn : any = false ∨ wi x 0 1099511627776 = false ∨ oldI ids x = true ∨ g < x) : hasI ids x = false := by
  unfold hasI
  rcases hn with q | q | q | q
  · rw [h.emp q]; simp
  · have hx : x ∉ ids := fun hm => by
      have := h.rn x hm
      have := wi_no.1 q
      omega
    simp [hx]
  · rw [q]; simp
  · have hx : x ∉ ids := fun hm => by
      have := h.top hm
      omega
    simp [hx]
theorem fre_no {x : Int} (h : wi x 0 1099511627776 = false ∨ oldI ids x = true ∨ hasI ids x = true) : freI ids x = false := by
  unfold freI
  rcases h with q | q | q <;> rw [q] <;> simp
theorem fre_yes {x : Int} (h1 : wi x 0 1099511627776 = true) (h2 : oldI ids x = false) (h3 : hasI ids x = false) : freI ids x = true := by
  unfold freI; rw [h1, h2, h3]; rfl
theorem isEmpty_app (ids : List Int) (x : Int) : (ids ++ [x]).isEmpty = false := by simp
theorem bit_one (k : Nat) : (1 : Nat).testBit k = decide (k = 0) := by
  cases k with
  | zero => rfl
  | succ k => rw [Nat.testBit_succ]; simp
theorem bit_up (c d k : Nat) (hk : k < 64) : (((c * 2 ^ d) % 2 ^ 64) ||| 1).testBit k = (decide (k = 0) || (decide (d ≤ k) && c.testBit (k - d))) := by
  rw [Nat.testBit_or, Nat.testBit_mod_two_pow, bit_one, Nat.testBit_mul_two_pow]
  simp only [hk, decide_true, Bool.true_and]
  rw [Bool.or_comm]
/-- a greater id comes -/
theorem SeenOk.up (h : SeenOk any g c ids) {x : Int} {d : Nat} (hx : 0 ≤ x ∧ x ≤ 1099511627776) (hn : any = false ∨ g < x) (hd : d = min (x - g).toNat 64) : SeenOk true x (((c * 2 ^ d) % 2 ^ 64) ||| 1) (ids ++ [x]) := by
  have hgx : gmx 0 ids ≤ x := by
    rcases hn with q | q
    · rw [h.emp q]; exact hx.1
    · rw [← h.gr]; omega
  have hnot : ∀ k : Nat, x - (k : Int) = x ↔ k = 0 := fun k => by omega
  refine ⟨by rw [isEmpty_app]; rfl, ?_, ?_, fun y hy => ?_, fun k hk => ?_⟩
  · rw [gmx_app]; split <;> omega
  · exact Nat.or_lt_two_pow (Nat.mod_lt _ (by decide)) (by decide)
  · rcases List.mem_append.1 hy with hy | hy
    · exact h.rn y hy
    · obtain rfl : y = x := by simpa using hy
      exact hx
  · rw [bit_up _ _ _ hk]
    have hm : decide ((x - (k : Int)) ∈ ids ++ [x]) = (decide (k = 0) || decide ((x - (k : Int)) ∈ ids)) := by
      simp only [List.mem_append, List.mem_singleton, hnot, Bool.decide_or]
      rw [Bool.or_comm]
    rw [hm]
    congr 1
    rcases hn with q | q
    · have he := h.emp q
      have hz : ∀ j : Nat, j < 64 → c.testBit j = false := fun j hj => by rw [h.bt j hj, he]; simp
      rw [hz (k - d) (by omega), he]; simp
    · by_cases hdk : d ≤ k
      · have hd' : d = (x - g).toNat := by omega
        rw [h.bt (k - d) (by omega)]
        have e : g - ((k - d : Nat) : Int) = x - (k : Int) := by omega
        rw [e]; simp [hdk]
      · have hno : (x - (k : Int)) ∉ ids := fun hm => by
          have := h.top hm
          omega
        simp [hdk, hno]
/-- an id comes that is no greater -/
theorem SeenOk.add (h : SeenOk any g c ids) {x : Int} (hx : 0 ≤ x ∧ x ≤ 1099511627776) (ha : any = true) (ho : oldI ids x = false) (hg : x ≤ g) : SeenOk true g (c ||| 2 ^ (g - x).toNat) (ids ++ [x]) := by
  rw [h.old, ha] at ho
  have h2 : ¬ x ≤ g - 64 := by simpa using ho
  refine ⟨by rw [isEmpty_app]; rfl, ?_, ?_, fun y hy => ?_, fun k hk => ?_⟩
  · rw [gmx_app, ← h.gr, if_neg (by omega)]
  · exact Nat.or_lt_two_pow h.lt (Nat.pow_lt_pow_right (by decide) (by omega))
  · rcases List.mem_append.1 hy with hy | hy
    · exact h.rn y hy
    · obtain rfl : y = x := by simpa using hy
      exact hx
  · rw [Nat.testBit_or, Nat.testBit_two_pow, h.bt k hk]
    have hq : g - (k : Int) = x ↔ (g - x).toNat = k := by omega
    simp only [List.mem_append, List.mem_singleton, Bool.decide_or, hq]
end
/-- the bit, as the walk spells it -/
theorem bit_test (c : Nat) (hc : c < 2 ^ 64) (k : Nat) : bits .and .u64 ((c : Int) / 2 ^ k) 1 = if c.testBit k then 1 else 0 := by
  have h1 : ((c : Int) / 2 ^ k) = ((c / 2 ^ k : Nat) : Int) := by simp
  have hl : c / 2 ^ k < 2 ^ 64 := Nat.lt_of_le_of_lt (Nat.div_le_self _ _) hc
  have hw : ∀ n : Int, 0 ≤ n → n < 2 ^ 64 → IntKind.u64.wrap n = n := fun n h0 h1 => by
    simp only [IntKind.wrap, IntKind.bits, IntKind.signed]
    simp
    omega
  rw [h1]
  show bits .and .u64 ((c / 2 ^ k : Nat) : Int) ((1 : Nat) : Int) = _
  rw [(bits_nat .u64 64 (by decide) hw (c / 2 ^ k) 1 hl (by decide)).1, Nat.testBit_eq_decide_div_mod_eq]
  have e : c / 2 ^ k &&& 1 = c / 2 ^ k % 2 := Nat.and_two_pow_sub_one_eq_mod (c / 2 ^ k) 1
  rw [e]
  have := Nat.mod_lt (c / 2 ^ k) (y := 2) (by decide)
  by_cases q : c / 2 ^ k % 2 = 1
  · rw [q]; simp
  · have : c / 2 ^ k % 2 = 0 := by omega
    rw [this]; simp
theorem wrap_u64 (n : Int) (h0 : 0 ≤ n) (h1 : n < 2 ^ 64) : IntKind.u64.wrap n = n := by
  simp only [IntKind.wrap, IntKind.bits, IntKind.signed]
  simp
  omega
theorem or_nat (a b : Nat) (ha : a < 2 ^ 64) (hb : b < 2 ^ 64) : bits .or .u64 (a : Int) (b : Int) = ((a ||| b : Nat) : Int) :=
  (bits_nat .u64 64 (by decide) wrap_u64 a b ha hb).2
theorem shr_nat (c k : Nat) (hk : k < 64) : Op.shift .shr .u64 (c : Int) .i64 (k : Int) = pure (.int .u64 ((c : Int) / 2 ^ k)) := by
  unfold Op.shift
  rw [if_neg (by omega)]
  have h1 : min (k : Int).toNat IntKind.u64.bits = k := by
    rw [Int.toNat_natCast]; exact Nat.min_eq_left (Nat.le_of_lt hk)
  simp only [h1]
  rw [Int.fdiv_eq_ediv_of_nonneg _ (Int.le_of_lt (Int.pow_pos (by decide)))]
theorem shl_nat (c d : Nat) (y : Int) (hy : 0 ≤ y) (hd : d = min y.toNat 64) : Op.shift .shl .u64 (c : Int) .i64 y = pure (.int .u64 (((c * 2 ^ d) % 2 ^ 64 : Nat) : Int)) := by
  unfold Op.shift
  rw [if_neg (by omega)]
  have h1 : min y.toNat IntKind.u64.bits = d := hd.symm
  simp only [h1]
  have h2 : IntKind.u64.wrap ((c : Int) * 2 ^ d) = (((c * 2 ^ d) % 2 ^ 64 : Nat) : Int) := by
    simp only [IntKind.wrap, IntKind.bits, IntKind.signed]
    simp
  rw [h2]
theorem shl_wrap (c d : Nat) : IntKind.u64.wrap ((c : Int) * 2 ^ d) = (((c * 2 ^ d) % 2 ^ 64 : Nat) : Int) := by
  simp only [IntKind.wrap, IntKind.bits, IntKind.signed]
  simp
/-! ### what a shelf holds -/
structure ShT where
  objs : List (Int × List (List Int))
  ids : List Int
def getO (s : ShT) (n : Int) : Option (List (List Int)) := (s.objs.find? fun p => decide (p.1 = n)).map (·.2)
/-- a list as it is stored -/
def StOk (st : List (List Int)) : Prop := 1 ≤ st.length ∧ st.length ≤ 512 ∧ ∀ b ∈ st, b.length = 16 ∧ Byt b
structure ShOk (s : ShT) : Prop where
  nd : (s.objs.map (·.1)).Nodup
  ob : ∀ p ∈ s.objs, StOk p.2
  ln : s.objs.length ≤ 4
def sh0 : ShT := ⟨[], []⟩
theorem ShOk.zero : ShOk sh0 := ⟨by simp [sh0], fun p hp => (by cases hp), by decide⟩
theorem getO_mem {s : ShT} {n : Int} {st : List (List Int)} (h : getO s n = some st) : (n, st) ∈ s.objs := by
  unfold getO at h
  cases hf : s.objs.find? (fun p => decide (p.1 = n)) with
  | none => rw [hf] at h; cases h
  | some p =>
    rw [hf] at h
    have h1 := List.find?_some hf
    have h2 := List.mem_of_find?_eq_some hf
    have e1 : p.1 = n := by simpa using h1
    have e2 : p.2 = st := by simpa using h
    rw [← e1, ← e2]; exact h2
theorem ShOk.get {s : ShT} (h : ShOk s) {n : Int} {st : List (List Int)} (hg : getO s n = some st) : StOk st := h.ob _ (getO_mem hg)
/-- the letters that come back -/
def ansR (code : Int) (l : LT) : LT := ⟨7, l.id, l.obj, [], [], 0, 0, [], code⟩
def ackL (l : LT) : LT := ⟨2, l.id, l.obj, [], [], 0, 0, [], 0⟩
def ansS (all : List (List Int)) (ps : List Int) : List Sh := ps.map fun p => (p, all.getD p.toNat [], pathD all p.toNat)
def ansL (l : LT) (all : List (List Int)) : LT := ⟨4, l.id, l.obj, [], ansS all l.places, 0, 0, [], 0⟩
def givL (l : LT) (all : List (List Int)) : LT := ⟨6, l.id, l.obj, [], [], l.frm, 0, (all.drop l.frm.toNat).take l.cnt.toNat, 0⟩
def idsL (s : ShT) (l : LT) : List Int := if freI s.ids l.id = true then s.ids ++ [l.id] else s.ids
def putS (s : ShT) (l : LT) : ShT := match getO s l.obj with
  | some _ => ⟨s.objs, idsL s l⟩
  | none => if 4 ≤ s.objs.length then ⟨s.objs, idsL s l⟩ else ⟨s.objs ++ [(l.obj, l.blocks)], idsL s l⟩
def putL (s : ShT) (l : LT) : LT := match getO s l.obj with
  | some st => if freI s.ids l.id = false ∨ st = l.blocks then ackL l else ansR 10 l
  | none => if 4 ≤ s.objs.length then ansR 12 l else ackL l
def askL (s : ShT) (l : LT) : LT := match getO s l.obj with
  | none => ansR 11 l
  | some all => if ∀ p ∈ l.places, p < (all.length : Int) then ansL l all else ansR 1 l
def fetL (s : ShT) (l : LT) : LT := match getO s l.obj with
  | none => ansR 11 l
  | some all => if (all.length : Int) ≤ l.frm then ansR 1 l else if chkL (givL l all) = 0 then givL l all else ansR 3 l
/-- what is handled: the shelf behind it, the answer, and whether there is one -/
def hanS (s : ShT) (l : LT) : ShT := if chkL l = 0 ∧ l.kind = 1 then putS s l else s
def hanL (s : ShT) (l : LT) : LT × Bool :=
  if chkL l = 0 then (if l.kind = 1 then (putL s l, true) else if l.kind = 3 then (askL s l, true) else if l.kind = 5 then (fetL s l, true) else (lt0, false)) else (lt0, false)
theorem getO_app {s : ShT} {n : Int} {st : List (List Int)} {ids : List Int} (hn : getO s n = none) (x : Int) : getO ⟨s.objs ++ [(n, st)], ids⟩ x = if x = n then some st else getO s x := by
  unfold getO
  simp only [List.find?_append, Option.map_or]
  by_cases hx : x = n
  · subst hx
    unfold getO at hn
    cases hf : s.objs.find? (fun p => decide (p.1 = x)) with
    | some p => rw [hf] at hn; cases hn
    | none => simp
  · rw [if_neg hx]
    have : ¬ n = x := fun q => hx q.symm
    cases hf : s.objs.find? (fun p => decide (p.1 = x)) with
    | some p => simp
    | none => simp [this]
theorem getO_ids {s : ShT} {ids : List Int} (x : Int) : getO ⟨s.objs, ids⟩ x = getO s x := rfl
theorem getO_none {s : ShT} {n : Int} (h : getO s n = none) : n ∉ s.objs.map (·.1) := fun hm => by
  obtain ⟨p, hp, rfl⟩ := List.mem_map.1 hm
  unfold getO at h
  cases hf : s.objs.find? (fun q => decide (q.1 = p.1)) with
  | some q => rw [hf] at h; cases h
  | none => have := List.find?_eq_none.1 hf p hp; simp at this
theorem put_st {l : LT} (h : chkL l = 0) (hk : l.kind = 1) (hb : ∀ b ∈ l.blocks, Byt b) : StOk l.blocks := by
  obtain ⟨_, _, hs, _, _⟩ := chk_parts h
  unfold sizOk at hs
  rw [if_pos (.inl hk), Bool.and_eq_true] at hs
  have hw := wi_iff.1 hs.1
  have h16 : ∀ x ∈ l.blocks, badB x = false := any_false hs.2
  exact ⟨by omega, by omega, fun b hm => ⟨badB_not (h16 b hm), hb b hm⟩⟩
theorem ShOk.put {s : ShT} (h : ShOk s) {l : LT} (hc : chkL l = 0) (hk : l.kind = 1) (hb : ∀ b ∈ l.blocks, Byt b) : ShOk (putS s l) := by
  unfold putS
  cases hg : getO s l.obj with
  | some st => exact ⟨h.nd, h.ob, h.ln⟩
  | none =>
    simp only
    by_cases h4 : 4 ≤ s.objs.length
    · rw [if_pos h4]; exact ⟨h.nd, h.ob, h.ln⟩
    · rw [if_neg h4]
      refine ⟨?_, fun p hp => ?_, by simp; omega⟩
      · simp only [List.map_append, List.map_cons, List.map_nil]
        refine List.nodup_append.2 ⟨h.nd, by simp, fun a ha b hb => ?_⟩
        simp only [List.mem_singleton] at hb
        subst hb
        exact fun q => getO_none hg (q ▸ ha)
      · rcases List.mem_append.1 hp with hp | hp
        · exact h.ob p hp
        · obtain rfl : p = (l.obj, l.blocks) := by simpa using hp
          exact put_st hc hk hb
theorem ShOk.han {s : ShT} (h : ShOk s) {l : LT} (hb : ∀ b ∈ l.blocks, Byt b) : ShOk (hanS s l) := by
  unfold hanS
  split
  · next q => exact h.put q.1 q.2 hb
  · exact h
/-- an Ask's places -/
theorem ask_pl {l : LT} (h : chkL l = 0) (hk : l.kind = 3) : 1 ≤ l.places.length ∧ l.places.length ≤ 12 ∧ ∀ p ∈ l.places, 0 ≤ p ∧ p ≤ 511 := by
  obtain ⟨_, hn, hs, _, _⟩ := chk_parts h
  obtain ⟨_, _, hnt⟩ := numOk_id hn
  unfold sizOk at hs
  rw [if_neg (by omega), if_pos hk] at hs
  unfold numT at hnt
  rw [if_pos hk] at hnt
  have hw := wi_iff.1 hs
  exact ⟨by omega, by omega, fun p hp => badP_not (any_false hnt p hp)⟩
/-- a Fetch's numbers -/
theorem fet_nm {l : LT} (h : chkL l = 0) (hk : l.kind = 5) : (1 ≤ l.cnt ∧ l.cnt ≤ 512) ∧ (0 ≤ l.frm ∧ l.frm ≤ 511) := by
  obtain ⟨_, hn, _, _, _⟩ := chk_parts h
  obtain ⟨_, _, hnt⟩ := numOk_id hn
  unfold numT at hnt
  rw [if_neg (by omega), if_neg (by omega), if_pos hk, Bool.and_eq_true] at hnt
  exact ⟨wi_iff.1 hnt.1, wi_iff.1 hnt.2⟩
end Go.Proofs.Bl

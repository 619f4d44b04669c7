/- Growth, plainly, in digests: peaks, carries, proofs, whether they hold; and that one proof holds for one old root alone. No program. -/
import Derived.Test.YtmmolapkddbibaaDoorPla0
import Derived.Test.YtmmolapkddbibaaDoorOnes
import Derived.Test.YtmmolapkddbibaaDoorShaR
namespace Go.Proofs.Bl
open Go Go.RowKit
theorem trail_shift : ∀ (j n : Nat), j ≤ trail n → trail n = trail (n / 2 ^ j) + j
  | 0, n, _ => by simp
  | j + 1, n, h => by
    rcases Nat.mod_two_eq_zero_or_one n with h2 | h2
    · have := trail_even n h2; omega
    · have e := trail_odd n h2
      have ih := trail_shift j (n / 2) (by omega)
      rw [Nat.pow_succ', ← Nat.div_div_eq_div_mul]
      omega
theorem trail_bit (j n : Nat) (h : j ≤ trail n) : (n / 2 ^ j) % 2 = 1 ↔ j < trail n := by
  have e := trail_shift j n h
  rcases Nat.mod_two_eq_zero_or_one (n / 2 ^ j) with h2 | h2
  · have := trail_even _ h2
    constructor
    · intro q; omega
    · intro q; omega
  · have := trail_odd _ h2
    constructor
    · intro q; omega
    · intro q; exact h2
theorem foldr_drop {D : Type} (f : D → D → D) (ds : List D) (x z : D) (j : Nat) (h : j + 1 ≤ ds.length) : (ds.drop (ds.length - (j + 1))).foldr f x = f (ds.getD (ds.length - (j + 1)) z) ((ds.drop (ds.length - j)).foldr f x) := by
  have hk : ds.length - (j + 1) < ds.length := by omega
  rw [List.drop_eq_getElem_cons hk, List.foldr_cons, List.getD_eq_getElem?_getD, List.getElem?_eq_getElem hk]
  rw [show ds.length - (j + 1) + 1 = ds.length - j by omega]
  rfl
theorem ndD_dig (l r : List Int) : (ndD l r).length = 32 ∧ Byt (ndD l r) := ⟨rfl, sha_byt _⟩
theorem lfD_dig (l : List Int) : (lfD l).length = 32 ∧ Byt (lfD l) := ⟨rfl, sha_byt _⟩
theorem zD_dig : zD.length = 32 ∧ Byt zD := ⟨rfl, sha_byt _⟩
theorem foldr_dig (ds : List (List Int)) (x : List Int) (h : x.length = 32 ∧ Byt x) : (ds.foldr ndD x).length = 32 ∧ Byt (ds.foldr ndD x) := by
  cases ds with
  | nil => exact h
  | cons d r => exact ndD_dig _ _
theorem carry_dig (t : Nat) {ds : List (List Int)} (h : Dig ds) {x : List Int} (k : x.length = 32 ∧ Byt x) : Dig (carry ndD t ds x) :=
  (h.take _).append (Dig.one (foldr_dig _ _ k).1 (foldr_dig _ _ k).2)
theorem carry_length (t : Nat) (ds : List (List Int)) (x : List Int) : (carry ndD t ds x).length = ds.length - t + 1 := by
  unfold carry
  rw [List.length_append, List.length_take]
  simp
/-- a frontier's peaks -/
def peaksD (ds : List (List Int)) : List (List Int) := peaks ndD zD ds
theorem peaksD_dig : ∀ (n : Nat) (ds : List (List Int)), ds.length = n → Dig ds → ds.length + 1 < 2 ^ 63 → Dig (peaksD ds) := by
  intro n
  induction n using Nat.strongRecOn with
  | _ n ih =>
    intro ds hn hd hl
    by_cases h : 1 ≤ ds.length
    · obtain ⟨j, g1, g2, g3⟩ := gp_pow ds.length h hl
      have hpos : 0 < 2 ^ j := Nat.two_pow_pos j
      unfold peaksD
      rw [peaks_hi ndD zD ds h hl]
      obtain ⟨o1, o2⟩ := overD_dig _ (ds.take (gp ds.length)) rfl (hd.take _) (by rw [List.length_take]; omega)
      have h2 := ih (ds.drop (gp ds.length)).length (by rw [List.length_drop]; omega) _ rfl (hd.drop _) (by rw [List.length_drop]; omega)
      exact (Dig.one o1 o2).append h2
    · have : ds = [] := List.length_eq_zero_iff.1 (by omega)
      subst this
      exact Dig.nil
theorem peaksD_snoc (ds : List (List Int)) (x : List Int) (h : ds.length + 1 < 2 ^ 62) : peaksD (ds ++ [x]) = carry ndD (trail ds.length) (peaksD ds) x := peaks_snoc ndD zD _ ds x rfl h
theorem peaksD_trail (ds : List (List Int)) (h : ds.length + 1 < 2 ^ 62) : trail ds.length ≤ (peaksD ds).length := peaks_trail ndD zD _ ds rfl h
theorem peaksD_over (ds : List (List Int)) (h : ds.length + 1 < 2 ^ 63) : foldp ndD zD (peaksD ds) = overD ds := over_peaks ndD zD _ ds rfl h
theorem peaksD_len_le : ∀ (n : Nat) (ds : List (List Int)), ds.length = n → ds.length + 1 < 2 ^ 63 → (peaksD ds).length ≤ ds.length := by
  intro n
  induction n using Nat.strongRecOn with
  | _ n ih =>
    intro ds hn hl
    by_cases h : 1 ≤ ds.length
    · obtain ⟨j, g1, g2, g3⟩ := gp_pow ds.length h hl
      have hpos : 0 < 2 ^ j := Nat.two_pow_pos j
      unfold peaksD
      rw [peaks_hi ndD zD ds h hl]
      have h2 := ih (ds.drop (gp ds.length)).length (by rw [List.length_drop]; omega) _ rfl (by rw [List.length_drop]; omega)
      rw [List.length_drop] at h2
      simp only [List.length_cons]
      unfold peaksD at h2
      omega
    · have : ds = [] := List.length_eq_zero_iff.1 (by omega)
      subst this
      exact Nat.le_refl _
theorem trail_ones_le : ∀ (m n : Nat), n ≤ m → trail n ≤ ones n
  | 0, n, h => by obtain rfl : n = 0 := by omega
                  exact Nat.le_refl _
  | m + 1, n, h => by
    rcases Nat.mod_two_eq_zero_or_one n with h2 | h2
    · rw [trail_even n h2]; exact Nat.zero_le _
    · have := trail_ones_le m (n / 2) (by omega)
      rw [trail_odd n h2, ones_half n]; omega
/-- the proof of the first leaves, in digests -/
def proveD (ds : List (List Int)) (m : Nat) (w : Bool) : List (List Int) := prG ndD zD ds m w
theorem proveD_dig : ∀ (n m _fr : Nat) (w : Bool), 1 ≤ m → m ≤ n → n < 2 ^ 63 → ∀ ds : List (List Int), ds.length = n → Dig ds → Dig (proveD ds m w) :=
  steps_ind (fun m n _ w => ∀ ds : List (List Int), ds.length = n → Dig ds → Dig (proveD ds m w))
    (fun m fr w hm ds hl hd => by
      subst hl
      unfold proveD
      by_cases h63 : ds.length < 2 ^ 63
      · rw [prG_end ndD zD ds w hm]
        split
        · exact Dig.nil
        · obtain ⟨o1, o2⟩ := overD_dig _ ds rfl hd h63
          exact Dig.one o1 o2
      · rw [prG_end ndD zD ds w hm]
        split
        · exact Dig.nil
        · have : ∀ x ∈ [over ndD zD ds], x.length = 32 ∧ Byt x := fun x hx => by
            rw [List.mem_singleton] at hx
            subst hx
            unfold over
            cases hdl : ds.length with
            | zero => exact zD_dig
            | succ k =>
              simp only [overN]
              split
              · cases ds with
                | nil => simp at hdl
                | cons d r => exact hd d (by simp)
              · exact ndD_dig _ _
          exact this)
    (fun m n fr w hm hn h hs ih ds hl hd => by
      subst hl
      unfold proveD
      rw [prG_left ndD zD ds m w hm hn h hs]
      obtain ⟨a, b, c⟩ := sp_bounds ds.length (by omega) hn
      obtain ⟨o1, o2⟩ := overD_dig _ (ds.drop (sp ds.length)) rfl (hd.drop _) (by rw [List.length_drop]; omega)
      exact (ih _ (by rw [List.length_take]; omega) (hd.take _)).append (Dig.one o1 o2))
    (fun m n fr w hm hn h hs ih ds hl hd => by
      subst hl
      unfold proveD
      rw [prG_right ndD zD ds m w hm hn h hs]
      obtain ⟨a, b, c⟩ := sp_bounds ds.length (by omega) hn
      obtain ⟨o1, o2⟩ := overD_dig _ (ds.take (sp ds.length)) rfl (hd.take _) (by rw [List.length_take]; omega)
      exact (ih _ (by rw [List.length_drop]) (hd.drop _)).append (Dig.one o1 o2))
theorem proveD_len (ds : List (List Int)) (m : Nat) (w : Bool) (hm : 1 ≤ m) (hn : m ≤ ds.length) (h : ds.length < 2 ^ 63) : (proveD ds m w).length = cntG m ds.length w := prG_len ndD zD ds.length m 0 w hm hn h ds rfl
/-- both roots -/
def madeD (m n : Nat) (old : List Int) (w : Bool) (p : List (List Int)) : List Int × List Int := madeG ndD zD m n old w p
theorem madeD_prove (ds : List (List Int)) (m : Nat) (hm : 1 ≤ m) (hn : m ≤ ds.length) (h : ds.length < 2 ^ 63) : madeD m ds.length (overD (ds.take m)) true (proveD ds m true) = (overD (ds.take m), overD ds) :=
  made_prG ndD zD (overD (ds.take m)) ds.length m 0 true hm hn h ds rfl (fun _ => rfl)
theorem climb2_dig : ∀ (l : List (Bool × List Int)) (r : List Int × List Int), (r.1.length = 32 ∧ Byt r.1) → (r.2.length = 32 ∧ Byt r.2) → ((climb2 ndD r l).1.length = 32 ∧ Byt (climb2 ndD r l).1) ∧ ((climb2 ndD r l).2.length = 32 ∧ Byt (climb2 ndD r l).2)
  | [], _, h, k => ⟨h, k⟩
  | (b, d) :: t, r, h, k => climb2_dig t (up2 ndD r b d) (by unfold up2; split <;> first | exact ndD_dig _ _ | exact h) (by unfold up2; split <;> exact ndD_dig _ _)
theorem madeD_dig (m n : Nat) (old : List Int) (w : Bool) (p : List (List Int)) (h : old.length = 32 ∧ Byt old) (k : Dig p) : ((madeD m n old w p).1.length = 32 ∧ Byt (madeD m n old w p).1) ∧ ((madeD m n old w p).2.length = 32 ∧ Byt (madeD m n old w p).2) := by
  have hp : (p.headD zD).length = 32 ∧ Byt (p.headD zD) := by
    cases p with
    | nil => exact zD_dig
    | cons d r => exact k d (by simp)
  unfold madeD madeG
  split
  · exact climb2_dig _ _ h h
  · exact climb2_dig _ _ hp hp
/-- may there be such a proof -/
def thereG (m n : Int) : Bool := decide (1 ≤ m) && decide (m ≤ n) && decide (n ≤ 512)
theorem thereG_mk {m n : Int} (h1 : 1 ≤ m) (h2 : m ≤ n) (h3 : n ≤ 512) : thereG m n = true := by unfold thereG; simp [h1, h2, h3]
theorem thereG_no {m n : Int} (h : ¬ (1 ≤ m ∧ m ≤ n ∧ n ≤ 512)) : thereG m n = false := by
  unfold thereG
  rw [Bool.eq_false_iff]
  intro q
  simp only [Bool.and_eq_true, decide_eq_true_eq] at q
  exact h ⟨q.1.1, q.1.2, q.2⟩
def cntI (m n : Int) : Int := if thereG m n = true then (cntG m.toNat n.toNat true : Int) else -1
/-- an error's number, or 0 -/
def chkG (m n : Int) (old now : List Int) (p : List (List Int)) : Nat :=
  if thereG m n = true then (if p.length = cntG m.toNat n.toNat true then (if madeD m.toNat n.toNat old true p = (old, now) then 0 else 15) else 8) else 1
theorem chkG_no {m n : Int} {old now : List Int} {p : List (List Int)} (h : thereG m n = false) : chkG m n old now p = 1 := by unfold chkG; rw [h]; rfl
theorem chkG_size {m n : Nat} {old now : List Int} {p : List (List Int)} (h : thereG m n = true) (hp : ¬ p.length = cntG m n true) : chkG m n old now p = 8 := by
  unfold chkG; rw [if_pos h, if_neg (by simpa using hp)]
theorem chkG_ok {m n : Nat} {old now : List Int} {p : List (List Int)} (h : thereG m n = true) (hp : p.length = cntG m n true) (hf : madeD m n old true p = (old, now)) : chkG m n old now p = 0 := by
  unfold chkG; rw [if_pos h, if_pos (by simpa using hp), if_pos (by simpa using hf)]
theorem chkG_bad {m n : Nat} {old now : List Int} {p : List (List Int)} (h : thereG m n = true) (hp : p.length = cntG m n true) (hf : ¬ madeD m n old true p = (old, now)) : chkG m n old now p = 15 := by
  unfold chkG; rw [if_pos h, if_pos (by simpa using hp), if_neg (by simpa using hf)]
theorem chkG_zero {m n : Int} {old now : List Int} {p : List (List Int)} (h : chkG m n old now p = 0) : ∃ a b : Nat, m = a ∧ n = b ∧ 1 ≤ a ∧ a ≤ b ∧ b ≤ 512 ∧ p.length = cntG a b true ∧ madeD a b old true p = (old, now) := by
  unfold chkG at h
  by_cases h1 : thereG m n = true
  · rw [if_pos h1] at h
    have h2 := h1
    unfold thereG at h2
    simp only [Bool.and_eq_true, decide_eq_true_eq] at h2
    obtain ⟨⟨h3, h4⟩, h5⟩ := h2
    obtain ⟨a, rfl⟩ := Int.eq_ofNat_of_zero_le (a := m) (by omega)
    obtain ⟨b, rfl⟩ := Int.eq_ofNat_of_zero_le (a := n) (by omega)
    by_cases h6 : p.length = cntG (a : Int).toNat (b : Int).toNat true
    · rw [if_pos h6] at h
      by_cases h7 : madeD (a : Int).toNat (b : Int).toNat old true p = (old, now)
      · exact ⟨a, b, rfl, rfl, by omega, by omega, by omega, by simpa using h6, by simpa using h7⟩
      · rw [if_neg h7] at h; cases h
    · rw [if_neg h6] at h; cases h
  · rw [if_neg h1] at h; cases h
theorem chkG_prove (ds : List (List Int)) (m : Nat) (hm : 1 ≤ m) (hn : m ≤ ds.length) (h : ds.length ≤ 512) : chkG m ds.length (overD (ds.take m)) (overD ds) (proveD ds m true) = 0 :=
  chkG_ok (thereG_mk (by omega) (by omega) (by omega)) (proveD_len ds m true hm hn (by omega)) (madeD_prove ds m hm hn (by omega))
/-- the way from n down to m by left halves alone: from how many leaves each step goes down -/
def wayN : Nat → Nat → Nat → List Nat
  | 0, _, _ => []
  | f + 1, m, n => if m < n then n :: wayN f m (sp n) else []
def wayL (m n : Nat) : List Nat := wayN n m n
theorem wayN_fuel : ∀ (f g m n : Nat), 1 ≤ m → n ≤ f → n ≤ g → n < 2 ^ 63 → wayN f m n = wayN g m n
  | 0, 0, _, _, _, _, _, _ => rfl
  | 0, g + 1, m, n, hm, h, _, _ => by simp only [wayN]; rw [if_neg (by omega)]
  | f + 1, 0, m, n, hm, _, h, _ => by simp only [wayN]; rw [if_neg (by omega)]
  | f + 1, g + 1, m, n, hm, h, k, hn => by
    simp only [wayN]
    by_cases h1 : m < n
    · obtain ⟨a, b, c⟩ := sp_bounds n (by omega) hn
      rw [if_pos h1, if_pos h1, wayN_fuel f g m (sp n) hm (by omega) (by omega) (by omega)]
    · rw [if_neg h1, if_neg h1]
theorem wayL_end (m n : Nat) (h : ¬ m < n) : wayL m n = [] := by
  unfold wayL
  cases n with
  | zero => rfl
  | succ n => simp only [wayN]; rw [if_neg h]
theorem wayL_step (m n : Nat) (hm : 1 ≤ m) (hn : n < 2 ^ 63) (h : m < n) : wayL m n = n :: wayL m (sp n) := by
  obtain ⟨a, b, c⟩ := sp_bounds n (by omega) hn
  unfold wayL
  rw [wayN_fuel n (n - 1 + 1) m n hm (by omega) (by omega) hn]
  simp only [wayN]
  rw [if_pos h, wayN_fuel (n - 1) (sp n) m (sp n) hm (by omega) (Nat.le_refl _) (by omega)]
/-- the steps are all from left halves -/
def allL (m n : Nat) : Prop := ∀ k ∈ wayL m n, m ≤ sp k
theorem steps_whole : ∀ n m fr w, 1 ≤ m → m ≤ n → n < 2 ^ 63 → (stepsL m n fr w).2.1 = true → w = true ∧ allL m n ∧ (stepsL m n fr w).1.length = (wayL m n).length ∧ ∀ s ∈ (stepsL m n fr w).1, s.1 = false :=
  steps_ind (fun m n fr w => (stepsL m n fr w).2.1 = true → w = true ∧ allL m n ∧ (stepsL m n fr w).1.length = (wayL m n).length ∧ ∀ s ∈ (stepsL m n fr w).1, s.1 = false)
    (fun m fr w hm h => by
      rw [stepsL_end _ _ _ _ (Nat.lt_irrefl _)] at h ⊢
      unfold allL
      rw [wayL_end _ _ (Nat.lt_irrefl _)]
      exact ⟨h, fun k hk => (by cases hk), rfl, fun s hs => (by cases hs)⟩)
    (fun m n fr w hm hn h hs ih hh => by
      rw [stepsL_left m n fr w hm hn h hs] at hh ⊢
      obtain ⟨i1, i2, i3, i4⟩ := ih hh
      unfold allL
      rw [wayL_step m n hm hn h]
      refine ⟨i1, fun k hk => ?_, by simp only [List.length_cons]; rw [i3], fun s hx => ?_⟩
      · rcases List.mem_cons.1 hk with rfl | hk
        · exact hs
        · exact i2 k hk
      · rcases List.mem_cons.1 hx with rfl | hx
        · rfl
        · exact i4 s hx)
    (fun m n fr w hm hn h hs ih hh => by
      rw [stepsL_right m n fr w hm hn h hs] at hh
      obtain ⟨i1, _⟩ := ih hh
      cases i1)
theorem climb2_left : ∀ (l : List (Bool × List Int)) (r : List Int × List Int), (∀ x ∈ l, x.1 = false) → climb2 ndD r l = (r.1, (l.map (·.2)).foldl ndD r.2)
  | [], _, _ => rfl
  | (b, d) :: t, r, h => by
    have hb : b = false := h (b, d) (by simp)
    subst hb
    rw [climb2, climb2_left t _ (fun x hx => h x (by simp [hx]))]
    rfl
theorem zip_snd {α : Type} : ∀ (ks : List Bool) (p : List α), ks.length = p.length → (ks.zip p).map (·.2) = p
  | [], [], _ => rfl
  | [], _ :: _, h => by simp at h
  | _ :: _, [], h => by simp at h
  | k :: ks, d :: p, h => by
    simp only [List.zip_cons_cons, List.map_cons]
    rw [zip_snd ks p (by simpa using h)]
theorem zip_fst_mem {α : Type} (ks : List Bool) (p : List α) (x : Bool × α) (h : x ∈ ks.zip p) : x.1 ∈ ks := by
  induction ks generalizing p with
  | nil => simp at h
  | cons k ks ih =>
    cases p with
    | nil => simp at h
    | cons d p =>
      simp only [List.zip_cons_cons, List.mem_cons] at h
      rcases h with rfl | h
      · simp
      · exact List.mem_cons_of_mem _ (ih p h)
/-- a proof that is about all from the beginning: the new root out of the old one -/
theorem madeD_whole (m n : Nat) (old : List Int) (p : List (List Int)) (hm : 1 ≤ m) (hmn : m ≤ n) (hn : n < 2 ^ 63) (h : (stepsL m n 0 true).2.1 = true) (hp : p.length = cntG m n true) : madeD m n old true p = (old, p.foldl ndD old) ∧ allL m n ∧ (wayL m n).length = p.length := by
  obtain ⟨_, i2, i3, i4⟩ := steps_whole n m 0 true hm hmn hn h
  have hc : cntG m n true = (stepsL m n 0 true).1.length := by unfold cntG; rw [if_pos h, Nat.add_zero]
  rw [hc] at hp
  refine ⟨?_, i2, by rw [hp, i3]⟩
  unfold madeD madeG
  rw [if_pos h, climb2_left _ _ (fun x hx => ?_), zip_snd _ _ (by rw [List.length_reverse, List.length_map, hp])]
  have := zip_fst_mem _ _ x hx
  rw [List.mem_reverse, List.mem_map] at this
  obtain ⟨s, hs, hx2⟩ := this
  rw [← hx2]
  exact i4 s hs
/-- one proof, two old roots: it is about all from the beginning -/
theorem one_old (m n : Nat) (old other now : List Int) (p : List (List Int)) (hm : 1 ≤ m) (hmn : m ≤ n) (hn : n < 2 ^ 63) (hp : p.length = cntG m n true) (h1 : madeD m n old true p = (old, now)) (h2 : madeD m n other true p = (other, now)) (hne : old ≠ other) :
    p.foldl ndD old = now ∧ p.foldl ndD other = now ∧ allL m n ∧ (wayL m n).length = p.length := by
  by_cases hw : (stepsL m n 0 true).2.1 = true
  · obtain ⟨a1, a2, a3⟩ := madeD_whole m n old p hm hmn hn hw hp
    obtain ⟨b1, _, _⟩ := madeD_whole m n other p hm hmn hn hw hp
    rw [h1] at a1
    rw [h2] at b1
    injection a1 with _ a1
    injection b1 with _ b1
    exact ⟨a1.symm, b1.symm, a2, a3⟩
  · exfalso
    apply hne
    unfold madeD madeG at h1 h2
    rw [if_neg hw] at h1 h2
    rw [h1] at h2
    injection h2
theorem foldl_dig (p : List (List Int)) (x : List Int) (h : x.length = 32 ∧ Byt x) : (p.foldl ndD x).length = 32 ∧ Byt (p.foldl ndD x) := by
  induction p generalizing x with
  | nil => exact h
  | cons d r ih => exact ih _ (ndD_dig _ _)
theorem foldl_take (p : List (List Int)) (x : List Int) (i : Nat) (h : i < p.length) : (p.take (i + 1)).foldl ndD x = ndD ((p.take i).foldl ndD x) (p.getD i []) := by
  rw [List.take_succ_eq_append_getElem h, List.foldl_append, List.getD_eq_getElem?_getD, List.getElem?_eq_getElem h]
  rfl
end Go.Proofs.Bl

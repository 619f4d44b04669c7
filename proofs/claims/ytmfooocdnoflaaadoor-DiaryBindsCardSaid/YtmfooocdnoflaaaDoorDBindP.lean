/- What a growth proof hashes on its way up, plainly: two proofs that make one new root are the same, and so are their old roots, or there is a clash. No program. -/
import Derived.Test.YtmfooocdnoflaaaDoorBA2
import Derived.Test.YtmfooocdnoflaaaDoorBA1
namespace Go.Proofs.Bl
open Go Go.RowKit
/-- a step's bytes -/
def upB (t : Bool) (d b : List Int) : List Int := if t = true then inB d b else inB b d
/-- the byte strings on the way up -/
def climbU (b : List Int) : List (Bool × List Int) → List (List Int)
  | [] => []
  | (t, d) :: r => upB t d b :: climbU (sha (upB t d b)) r
theorem climbU_len : ∀ (l : List (Bool × List Int)) (b : List Int), (climbU b l).length = l.length
  | [], _ => rfl
  | (t, d) :: r, b => by simp [climbU, climbU_len r]
theorem up2_snd (t : Bool) (d a b : List Int) : (up2 ndD (a, b) t d).2 = sha (upB t d b) := by
  cases t <;> rfl
theorem climbU_snoc (t : Bool) (d : List Int) : ∀ (l : List (Bool × List Int)) (a b : List Int), climbU b (l ++ [(t, d)]) = climbU b l ++ [upB t d (climb2 ndD (a, b) l).2]
  | [], _, _ => rfl
  | (t', d') :: r, a, b => by
    have e : up2 ndD (a, b) t' d' = ((up2 ndD (a, b) t' d').1, sha (upB t' d' b)) := by rw [← up2_snd t' d' a b]
    simp only [List.cons_append, climbU, climb2]
    rw [e, climbU_snoc t d r (up2 ndD (a, b) t' d').1 (sha (upB t' d' b))]
/-- the byte strings that a proof makes on its way up -/
def upsD (m n : Nat) (old : List Int) (w : Bool) (p : List (List Int)) : List (List Int) :=
  if (stepsL m n 0 w).2.1 = true then climbU old (((stepsL m n 0 w).1.map (·.1)).reverse.zip p)
  else climbU (p.headD zD) (((stepsL m n 0 w).1.map (·.1)).reverse.zip p.tail)
theorem upsD_end (m : Nat) (old : List Int) (w : Bool) (p : List (List Int)) : upsD m m old w p = [] := by
  unfold upsD; rw [stepsL_end _ _ _ _ (Nat.lt_irrefl _)]
  cases w <;> rfl
theorem upsD_left (m n : Nat) (old : List Int) (w : Bool) (q : List (List Int)) (s : List Int) (hm : 1 ≤ m) (hn : n < 2 ^ 63) (h : m < n) (hs : m ≤ sp n) (hq : q.length = cntG m (sp n) w) :
    upsD m n old w (q ++ [s]) = upsD m (sp n) old w q ++ [inB (madeD m (sp n) old w q).2 s] := by
  unfold cntG at hq
  unfold upsD madeD madeG
  rw [stepsL_left m n 0 w hm hn h hs]
  simp only [List.map_cons, List.reverse_cons]
  by_cases hw : (stepsL m (sp n) 0 w).2.1 = true
  · rw [if_pos hw] at hq ⊢
    rw [if_pos hw, if_pos hw, List.zip_append (by simp; omega)]
    exact climbU_snoc _ _ _ _ _
  · rw [if_neg hw] at hq ⊢
    rw [if_neg hw, if_neg hw]
    match q, hq with
    | d :: r, hq =>
      simp only [List.cons_append, List.headD_cons, List.tail_cons, List.length_cons] at hq ⊢
      rw [List.zip_append (by simp; omega)]
      exact climbU_snoc _ _ _ _ _
theorem upsD_right (m n : Nat) (old : List Int) (w : Bool) (q : List (List Int)) (s : List Int) (hm : 1 ≤ m) (hn : n < 2 ^ 63) (h : m < n) (hs : ¬ m ≤ sp n) (hq : q.length = cntG (m - sp n) (n - sp n) false) :
    upsD m n old w (q ++ [s]) = upsD (m - sp n) (n - sp n) old false q ++ [inB s (madeD (m - sp n) (n - sp n) old false q).2] := by
  obtain ⟨a, b, c⟩ := sp_bounds n (by omega) hn
  unfold cntG at hq
  unfold upsD madeD madeG
  rw [stepsL_right m n 0 w hm hn h hs]
  obtain ⟨i1, i2⟩ := steps_len_from (n - sp n) (m - sp n) 0 false (by omega) (by omega) (by omega) (0 + sp n)
  have i3 := steps_kind_from (n - sp n) (m - sp n) 0 false (by omega) (by omega) (by omega) (0 + sp n)
  simp only [List.map_cons, List.reverse_cons]
  rw [i2, i3]
  by_cases hw : (stepsL (m - sp n) (n - sp n) 0 false).2.1 = true
  · rw [if_pos hw] at hq ⊢
    rw [if_pos hw, if_pos hw, List.zip_append (by simp; omega)]
    exact climbU_snoc _ _ _ _ _
  · rw [if_neg hw] at hq ⊢
    rw [if_neg hw, if_neg hw]
    match q, hq with
    | d :: r, hq =>
      simp only [List.cons_append, List.headD_cons, List.tail_cons, List.length_cons] at hq ⊢
      rw [List.zip_append (by simp; omega)]
      exact climbU_snoc _ _ _ _ _
theorem upsD_len (m n : Nat) (old : List Int) (w : Bool) (p : List (List Int)) (hp : p.length = cntG m n w) : (upsD m n old w p).length = (stepsL m n 0 w).1.length := by
  unfold cntG at hp
  unfold upsD
  by_cases hw : (stepsL m n 0 w).2.1 = true
  · rw [if_pos hw] at hp ⊢
    rw [climbU_len, List.length_zip, List.length_reverse, List.length_map]; omega
  · rw [if_neg hw] at hp ⊢
    rw [climbU_len, List.length_zip, List.length_reverse, List.length_map, List.length_tail]; omega
/-- a row's last element -/
theorem snoc_ex {α : Type} (p : List α) (n : Nat) (h : p.length = 1 + n) : ∃ q s, p = q ++ [s] ∧ q.length = n := by
  have hne : p ≠ [] := fun q => by rw [q] at h; simp at h; omega
  exact ⟨p.dropLast, p.getLast hne, (List.dropLast_concat_getLast hne).symm, by rw [List.length_dropLast]; omega⟩
/-- two different strings of one digest at one place -/
def Cl2 (x y : List (List Int)) : Prop := ∃ i, i < x.length ∧ i < y.length ∧ x.getD i [] ≠ y.getD i [] ∧ sha (x.getD i []) = sha (y.getD i [])
theorem Cl2.left {x y : List (List Int)} {a b : List Int} (h : Cl2 x y) : Cl2 (x ++ [a]) (y ++ [b]) := by
  obtain ⟨i, h1, h2, h3, h4⟩ := h
  have e : ∀ (l : List (List Int)) (c : List Int), i < l.length → (l ++ [c]).getD i [] = l.getD i [] := fun l c hl => by
    rw [List.getD_eq_getElem?_getD, List.getD_eq_getElem?_getD, List.getElem?_append_left hl]
  exact ⟨i, by rw [List.length_append]; omega, by rw [List.length_append]; omega, by rw [e x a h1, e y b h2]; exact h3, by rw [e x a h1, e y b h2]; exact h4⟩
theorem Cl2.last {x y : List (List Int)} {a b : List Int} (hl : x.length = y.length) (h : a ≠ b) (hs : sha a = sha b) : Cl2 (x ++ [a]) (y ++ [b]) := by
  have e : ∀ (l : List (List Int)) (c : List Int), (l ++ [c]).getD l.length [] = c := fun l c => by
    rw [List.getD_eq_getElem?_getD, List.getElem?_append_right (Nat.le_refl _), Nat.sub_self]; rfl
  refine ⟨x.length, by rw [List.length_append]; simp, by rw [List.length_append, hl]; simp, ?_, ?_⟩
  · rw [e x a, hl, e y b]; exact h
  · rw [e x a, hl, e y b]; exact hs
theorem nd_sha (a b : List Int) : ndD a b = sha (inB a b) := rfl
/-- two proofs that make one new root -/
theorem ups_clash : ∀ (n m _fr : Nat) (w : Bool), 1 ≤ m → m ≤ n → n < 2 ^ 63 → ∀ (old old' : List Int) (p p' : List (List Int)), p.length = cntG m n w → p'.length = cntG m n w → Dig p → Dig p' → (old.length = 32 ∧ Byt old) → (old'.length = 32 ∧ Byt old') →
    (madeD m n old w p).2 = (madeD m n old' w p').2 → Cl2 (upsD m n old w p) (upsD m n old' w p') ∨ (p = p' ∧ (madeD m n old w p).1 = (madeD m n old' w p').1) :=
  steps_ind (fun m n _ w => ∀ (old old' : List Int) (p p' : List (List Int)), p.length = cntG m n w → p'.length = cntG m n w → Dig p → Dig p' → (old.length = 32 ∧ Byt old) → (old'.length = 32 ∧ Byt old') →
    (madeD m n old w p).2 = (madeD m n old' w p').2 → Cl2 (upsD m n old w p) (upsD m n old' w p') ∨ (p = p' ∧ (madeD m n old w p).1 = (madeD m n old' w p').1))
    (fun m fr w hm old old' p p' hp hp' hd hd' ho ho' h => by
      right
      rw [cntG_end] at hp hp'
      unfold madeD at h ⊢
      rw [madeG_end, madeG_end] at h ⊢
      cases w
      · simp only [Bool.false_eq_true, if_false] at hp hp' h ⊢
        match p, p', hp, hp' with
        | [x], [y], _, _ =>
          have h : x = y := h
          subst h
          exact ⟨rfl, rfl⟩
      · simp only [if_true] at hp hp' h ⊢
        exact ⟨by rw [List.length_eq_zero_iff.1 hp, List.length_eq_zero_iff.1 hp'], h⟩)
    (fun m n fr w hm hn h hs ih old old' p p' hp hp' hd hd' ho ho' he => by
      obtain ⟨a, b, c⟩ := sp_bounds n (by omega) hn
      rw [cntG_left m n w hm hn h hs] at hp hp'
      obtain ⟨q, s, rfl, hq⟩ := snoc_ex p _ hp
      obtain ⟨q', s', rfl, hq'⟩ := snoc_ex p' _ hp'
      have hdq : Dig q := fun x hx => hd x (List.mem_append_left _ hx)
      have hdq' : Dig q' := fun x hx => hd' x (List.mem_append_left _ hx)
      have e1 : madeD m n old w (q ++ [s]) = ((madeD m (sp n) old w q).1, ndD (madeD m (sp n) old w q).2 s) := madeG_left ndD zD m n old w q s hm hn h hs hq
      have e2 : madeD m n old' w (q' ++ [s']) = ((madeD m (sp n) old' w q').1, ndD (madeD m (sp n) old' w q').2 s') := madeG_left ndD zD m n old' w q' s' hm hn h hs hq'
      rw [e1, e2] at he ⊢
      rw [upsD_left m n old w q s hm hn h hs hq, upsD_left m n old' w q' s' hm hn h hs hq']
      have he : ndD (madeD m (sp n) old w q).2 s = ndD (madeD m (sp n) old' w q').2 s' := he
      rw [nd_sha, nd_sha] at he
      obtain ⟨_, g1, _⟩ := madeD_dig m (sp n) old w q ho hdq
      obtain ⟨_, g2, _⟩ := madeD_dig m (sp n) old' w q' ho' hdq'
      by_cases hb : inB (madeD m (sp n) old w q).2 s = inB (madeD m (sp n) old' w q').2 s'
      · obtain ⟨k1, k2⟩ := inB_inj hb (by rw [g1, g2])
        rcases ih old old' q q' hq hq' hdq hdq' ho ho' k1 with hc | ⟨r1, r2⟩
        · exact .inl hc.left
        · subst r1 k2
          exact .inr ⟨rfl, r2⟩
      · exact .inl (Cl2.last (by rw [upsD_len _ _ _ _ _ hq, upsD_len _ _ _ _ _ hq']) hb he))
    (fun m n fr w hm hn h hs ih old old' p p' hp hp' hd hd' ho ho' he => by
      obtain ⟨a, b, c⟩ := sp_bounds n (by omega) hn
      rw [cntG_right m n w hm hn h hs] at hp hp'
      obtain ⟨q, s, rfl, hq⟩ := snoc_ex p _ hp
      obtain ⟨q', s', rfl, hq'⟩ := snoc_ex p' _ hp'
      have hdq : Dig q := fun x hx => hd x (List.mem_append_left _ hx)
      have hdq' : Dig q' := fun x hx => hd' x (List.mem_append_left _ hx)
      have e1 : madeD m n old w (q ++ [s]) = (ndD s (madeD (m - sp n) (n - sp n) old false q).1, ndD s (madeD (m - sp n) (n - sp n) old false q).2) := madeG_right ndD zD m n old w q s hm hn h hs hq
      have e2 : madeD m n old' w (q' ++ [s']) = (ndD s' (madeD (m - sp n) (n - sp n) old' false q').1, ndD s' (madeD (m - sp n) (n - sp n) old' false q').2) := madeG_right ndD zD m n old' w q' s' hm hn h hs hq'
      rw [e1, e2] at he ⊢
      rw [upsD_right m n old w q s hm hn h hs hq, upsD_right m n old' w q' s' hm hn h hs hq']
      have he : ndD s (madeD (m - sp n) (n - sp n) old false q).2 = ndD s' (madeD (m - sp n) (n - sp n) old' false q').2 := he
      rw [nd_sha, nd_sha] at he
      have hs1 : s.length = 32 := (hd s (by simp)).1
      have hs2 : s'.length = 32 := (hd' s' (by simp)).1
      by_cases hb : inB s (madeD (m - sp n) (n - sp n) old false q).2 = inB s' (madeD (m - sp n) (n - sp n) old' false q').2
      · obtain ⟨k1, k2⟩ := inB_inj hb (by rw [hs1, hs2])
        rcases ih old old' q q' hq hq' hdq hdq' ho ho' k2 with hc | ⟨r1, r2⟩
        · exact .inl hc.left
        · subst r1 k1
          exact .inr ⟨rfl, by show ndD s _ = ndD s _; rw [r2]⟩
      · exact .inl (Cl2.last (by rw [upsD_len _ _ _ _ _ hq, upsD_len _ _ _ _ _ hq']) hb he))
theorem byt_inB {a b : List Int} (h : Byt a) (k : Byt b) : Byt (inB a b) := fun x hx => by
  unfold inB at hx
  rcases List.mem_cons.1 hx with rfl | hx
  · exact ⟨by decide, by decide⟩
  · exact (h.append k) x hx
/-- all strings are of 65 bytes -/
theorem climbU_65 : ∀ (l : List (Bool × List Int)) (b : List Int), (b.length = 32 ∧ Byt b) → (∀ x ∈ l, x.2.length = 32 ∧ Byt x.2) → ∀ s ∈ climbU b l, s.length = 65 ∧ Byt s
  | [], _, _, _, s, hs => by cases hs
  | (t, d) :: r, b, hb, hl, s, hs => by
    have hd : d.length = 32 ∧ Byt d := hl (t, d) (by simp)
    have h2 : (upB t d b).length = 65 ∧ Byt (upB t d b) := by
      unfold upB
      split
      · exact ⟨by unfold inB; simp [hd.1, hb.1], byt_inB hd.2 hb.2⟩
      · exact ⟨by unfold inB; simp [hd.1, hb.1], byt_inB hb.2 hd.2⟩
    unfold climbU at hs
    rcases List.mem_cons.1 hs with rfl | hs
    · exact h2
    · exact climbU_65 r _ ⟨rfl, sha_byt _⟩ (fun x hx => hl x (by simp [hx])) s hs
theorem zip_mem_snd {α β : Type} (l : List α) (p : List β) (x : α × β) (h : x ∈ l.zip p) : x.2 ∈ p := (List.of_mem_zip (show (x.1, x.2) ∈ l.zip p from h)).2
theorem upsD_65 (m n : Nat) (old : List Int) (w : Bool) (p : List (List Int)) (ho : old.length = 32 ∧ Byt old) (hd : Dig p) : ∀ s ∈ upsD m n old w p, s.length = 65 ∧ Byt s := by
  have hp : (p.headD zD).length = 32 ∧ Byt (p.headD zD) := by
    cases p with
    | nil => exact zD_dig
    | cons d r => exact hd d (by simp)
  unfold upsD
  split
  · exact climbU_65 _ _ ho (fun x hx => hd _ (zip_mem_snd _ _ _ hx))
  · exact climbU_65 _ _ hp (fun x hx => hd _ (List.mem_of_mem_tail (zip_mem_snd _ _ _ hx)))
end Go.Proofs.Bl

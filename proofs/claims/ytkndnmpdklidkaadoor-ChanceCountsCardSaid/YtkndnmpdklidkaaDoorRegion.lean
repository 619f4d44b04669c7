/- A region whose order of evaluation is open: each operation but the last ones is shown once, from what the operations that it waits for have yielded, in whatever later world; the last ones go in the text's order. No program. -/
import Derived.StillTail
import Derived.Test.YtkndnmpdklidkaaDoorBase
namespace Go.Proofs.Bl
open Go Go.RowKit

/-- a frame in which the slots ts hold u -/
def fillAct (a : Act) : List Tmp → (Nat → Value) → Act
  | [], _ => a
  | t :: r, u => { tmps := (fillAct a r u).tmps.setIfInBounds t (u t), defers := a.defers }

theorem fillAct_defers (a : Act) (ts : List Tmp) (u : Nat → Value) : (fillAct a ts u).defers = a.defers := by
  cases ts <;> rfl
theorem fillAct_size (a : Act) (ts : List Tmp) (u : Nat → Value) : (fillAct a ts u).tmps.size = a.tmps.size := by
  induction ts with
  | nil => rfl
  | cons t r ih => simp [fillAct, ih]
theorem fillAct_get (a : Act) (ts : List Tmp) (u : Nat → Value) (j : Nat) : (fillAct a ts u).tmps[j]? = if j ∈ ts ∧ j < a.tmps.size then some (u j) else a.tmps[j]? := by
  induction ts with
  | nil => simp [fillAct]
  | cons t r ih =>
    simp only [fillAct, Array.getElem?_setIfInBounds, fillAct_size, ih]
    by_cases e : t = j
    · subst e
      by_cases h : t < a.tmps.size
      · simp [h]
      · simp [h]
    · have e' : ¬ j = t := fun q => e q.symm
      simp [e, e']
theorem act_ext {a b : Act} (h : a.defers = b.defers) (k : ∀ j : Nat, a.tmps[j]? = b.tmps[j]?) : a = b := by
  cases a; cases b
  simp only [Act.mk.injEq]
  exact ⟨Array.ext_getElem? k, h⟩
theorem fillAct_put (a : Act) (ts : List Tmp) (u : Nat → Value) (t : Tmp) (v : Value) (ht : t ∈ ts) :
    (fillAct a ts u).put (some t) v = fillAct a ts (fun j => if j = t then v else u j) := by
  refine act_ext (by simp [Act.put, fillAct_defers]) fun j => ?_
  simp only [Act.put, Array.getElem?_setIfInBounds, fillAct_size, fillAct_get]
  by_cases e : t = j
  · subst e
    by_cases h : t < a.tmps.size
    · simp [h, ht]
    · simp [h]
  · have e' : ¬ j = t := fun q => e q.symm
    simp [e, e']
theorem fillAct_self (a : Act) (ts : List Tmp) : ∃ u, a = fillAct a ts u := by
  refine ⟨fun j => a.tmps.getD j undef, act_ext (by rw [fillAct_defers]) fun j => ?_⟩
  rw [fillAct_get]
  split
  · rename_i h
    simp [h.2]
  · rfl

def dstsOf (l : List Oper) : List Tmp := l.filterMap (·.dst)

/-- what operation number j has yielded, in a frame filled by u -/
def Yld (l : List Oper) (V : Nat → Value → World → Prop) (u : Nat → Value) (w : World) (j : Nat) : Prop :=
  match (l[j]?).bind (·.dst) with
  | some d => V j (u d) w
  | none => True

def DepsOk (l : List Oper) (V : Nat → Value → World → Prop) (u : Nat → Value) (w : World) : List Edge → Prop
  | [] => True
  | e :: r => Yld l V u w e.on ∧ DepsOk l V u w r

/-- operation number i, from what it waits for -/
def StepOk (P : Program) (Q : Exit → Act → World → Prop) (l : List Oper) (hs : List Tmp) (a0 : Act) (w0 : World) (V : Nat → Value → World → Prop) (i : Nat) (o : Oper) : Prop :=
  ∀ (u : Nat → Value) (w : World), Ext w0 w → DepsOk l V u w o.after.toList → ∀ K : Act → World → Prop,
    (∀ a' w', (∃ v, a' = (fillAct a0 hs u).put o.dst v ∧ Ext w w' ∧ (o.dst.isSome = true → V i v w')) → K a' w') →
    if Region.wanted o (yielded l.toArray (fillAct a0 hs u).tmps) = true then o.wp P (fillAct a0 hs u) w K Q else K ((fillAct a0 hs u).put o.dst undef) w

def StepsOk (P : Program) (Q : Exit → Act → World → Prop) (l : List Oper) (hs : List Tmp) (a0 : Act) (w0 : World) (V : Nat → Value → World → Prop) : List Oper → Nat → Prop
  | [], _ => True
  | o :: r, i => StepOk P Q l hs a0 w0 V i o ∧ StepsOk P Q l hs a0 w0 V r (i + 1)

theorem StepsOk.get {P : Program} {Q : Exit → Act → World → Prop} {l : List Oper} {hs : List Tmp} {a0 : Act} {w0 : World} {V : Nat → Value → World → Prop} :
    ∀ (r : List Oper) (i : Nat), StepsOk P Q l hs a0 w0 V r i → ∀ j o, r[j]? = some o → StepOk P Q l hs a0 w0 V (i + j) o
  | [], _, _, j, o, h => by simp at h
  | x :: r, i, h, 0, o, hj => by simp at hj; subst hj; exact h.1
  | x :: r, i, h, j + 1, o, hj => by
    have := StepsOk.get r (i + 1) h.2 j o (by simpa using hj)
    rw [show i + (j + 1) = i + 1 + j from by omega]; exact this

def trues (m n : Nat) : Array Bool := ((List.range m).map (fun j => decide (j < n))).toArray

def backB (l : List Oper) : Bool := l.zipIdx.all fun (o, i) => o.after.toList.all fun e => !Region.binds .any e || decide (e.on < i)
def distB : List (Option Tmp) → Bool
  | [] => true
  | none :: r => distB r
  | some t :: r => !r.contains (some t) && distB r

def regB (l : List Oper) (n : Nat) : Bool :=
  decide (n < l.length) && Region.sinkB .any l.toArray n && Region.chainB .any l.toArray n && backB l && distB ((l.take n).map (·.dst)) && l.all (fun o => o.after.toList.all fun e => Region.binds .any e) &&
    Region.seqB .any l.toArray (l.length - n) n (trues l.length n)

theorem cnt_set (p q : Nat → Bool) (i : Nat) (hp : p i = false) (hq : q i = true) (ho : ∀ j, j ≠ i → q j = p j) : ∀ n, i < n → (List.range n).countP q = (List.range n).countP p + 1 := by
  intro n
  induction n with
  | zero => intro h; omega
  | succ n ih =>
    intro h
    rw [List.range_succ, List.countP_append, List.countP_append]
    by_cases e : i = n
    · subst e
      have : ∀ m, m ≤ i → (List.range m).countP q = (List.range m).countP p := by
        intro m
        induction m with
        | zero => intro _; rfl
        | succ m ihm => intro hm; rw [List.range_succ, List.countP_append, List.countP_append, ihm (by omega)]; simp [ho m (by omega)]
      rw [this i (Nat.le_refl _)]
      simp [hp, hq]
    · rw [ih (by omega)]
      simp [ho n (by omega)]
      omega
theorem cnt_all (p : Nat → Bool) : ∀ n, (List.range n).countP p = n → ∀ j, j < n → p j = true := by
  intro n
  induction n with
  | zero => intro _ j hj; omega
  | succ n ih =>
    intro h j hj
    rw [List.range_succ, List.countP_append] at h
    have h1 : (List.range n).countP p ≤ n := by simpa using List.countP_le_length (p := p) (l := List.range n)
    have h2 : [n].countP p ≤ 1 := List.countP_le_length (p := p) (l := [n])
    have h3 : [n].countP p = 1 := by omega
    by_cases e : j = n
    · subst e
      by_cases hp : p j = true
      · exact hp
      · simp [hp] at h3
    · exact ih (by omega) j (by omega)
theorem cnt_lt (p : Nat → Bool) : ∀ n, (List.range n).countP p < n → ∃ j, j < n ∧ p j = false ∧ ∀ k, k < j → p k = true := by
  intro n
  induction n with
  | zero => intro h; omega
  | succ n ih =>
    intro h
    by_cases hlt : (List.range n).countP p < n
    · obtain ⟨j, a, b, c⟩ := ih hlt
      exact ⟨j, by omega, b, c⟩
    · have h1 : (List.range n).countP p ≤ n := by simpa using List.countP_le_length (p := p) (l := List.range n)
      have he : (List.range n).countP p = n := by omega
      refine ⟨n, by omega, ?_, cnt_all p n he⟩
      rw [List.range_succ, List.countP_append, he] at h
      by_cases hp : p n = true
      · simp [hp] at h
      · simpa using hp

theorem distB_spec : ∀ (r : List (Option Tmp)), distB r = true → ∀ (i j : Nat) (t : Tmp), r[i]? = some (some t) → r[j]? = some (some t) → i = j
  | [], _, i, j, t, h, _ => by simp at h
  | x :: r, hd, i, j, t, h, k => by
    have hr : distB r = true := by cases x <;> simp [distB] at hd <;> first | exact hd | exact hd.2
    cases i with
    | zero =>
      cases j with
      | zero => rfl
      | succ j =>
        simp at h k
        subst h
        simp [distB] at hd
        exact absurd (List.mem_of_getElem? k) hd.1
    | succ i =>
      cases j with
      | zero =>
        simp at h k
        subst k
        simp [distB] at hd
        exact absurd (List.mem_of_getElem? h) hd.1
      | succ j =>
        simp at h k
        rw [distB_spec r hr i j t h k]

theorem DepsOk.of {l : List Oper} {V : Nat → Value → World → Prop} {u : Nat → Value} {w : World} : ∀ (es : List Edge), (∀ e ∈ es, Yld l V u w e.on) → DepsOk l V u w es
  | [], _ => trivial
  | e :: r, h => ⟨h e (by simp), DepsOk.of r (fun e' he => h e' (by simp [he]))⟩

theorem Yld.mono {l : List Oper} {V : Nat → Value → World → Prop} (hmono : ∀ i v w w', V i v w → Ext w w' → V i v w') {u : Nat → Value} {w w' : World} {j : Nat} (h : Yld l V u w j) (hw : Ext w w') : Yld l V u w' j := by
  unfold Yld at h ⊢
  cases hd : (l[j]?).bind (·.dst) with
  | none => trivial
  | some d => simp only [hd] at h ⊢; exact hmono _ _ _ _ h hw
theorem Yld.upd {l : List Oper} {V : Nat → Value → World → Prop} {u : Nat → Value} {w : World} {j d : Nat} {v : Value} (h : Yld l V u w j) (hne : (l[j]?).bind (·.dst) ≠ some d) : Yld l V (fun k => if k = d then v else u k) w j := by
  unfold Yld at h ⊢
  cases hd : (l[j]?).bind (·.dst) with
  | none => trivial
  | some d' =>
    simp only [hd] at h ⊢ hne
    rw [if_neg (fun q => hne (by rw [q]))]
    exact h

section
variable {P : Program} {Q : Exit → Act → World → Prop} {l : List Oper} {n : Nat} {a0 : Act} {w0 : World} {V : Nat → Value → World → Prop}

theorem heads_any (hB : regB l n = true)
    (hmono : ∀ i v w w', V i v w → Ext w w' → V i v w')
    (hsteps : StepsOk P Q l (dstsOf (l.take n)) a0 w0 V (l.take n) 0)
    (hend : ∀ (u : Nat → Value) (w : World), Ext w0 w → (∀ j, j < n → Yld l V u w j) → wpList P l.toArray Q (l.drop n) (fillAct a0 (dstsOf (l.take n)) u) w) :
    ∀ (f : Nat) (listed : Array Bool) (u : Nat → Value) (w : World), HeadInv .any l.toArray n listed → (List.range n).countP (fun j => listed.getD j false) + f = n →
      Ext w0 w → (∀ j, j < n → listed.getD j false = true → Yld l V u w j) →
      wpAny P .any l.toArray Q (f + (l.length - n)) listed (fillAct a0 (dstsOf (l.take n)) u) w := by
  simp only [regB, Bool.and_eq_true, decide_eq_true_eq] at hB
  obtain ⟨⟨⟨⟨⟨⟨hn, hs⟩, hc⟩, hb⟩, hdist⟩, hbinds⟩, hseq⟩ := hB
  intro f
  induction f with
  | zero =>
    intro listed u w inv hcnt hext hy
    rw [Nat.zero_add]
    have hall := cnt_all (fun j => listed.getD j false) n (by omega)
    have hl : listed = trues l.length n := by
      have hsz : listed.size = l.length := by rw [inv.size]; simp
      refine Array.ext (by rw [hsz]; simp [trues]) fun j h1 h2 => ?_
      simp only [trues, List.getElem_toArray, List.getElem_map, List.getElem_range]
      by_cases hj : j < n
      · have := hall j hj
        simp [h1] at this
        simp [hj, this]
      · have := inv.tail j (by omega) (by simp; omega)
        simp [h1] at this
        simp [hj, this]
    have hw := hend u w hext (fun j hj => hy j hj (hall j hj))
    have := wpAny_of_seq (P := P) (md := .any) (ops := l.toArray) (Q' := Q) (l.drop n) n listed (fillAct a0 (dstsOf (l.take n)) u) w (fun j => by simp [List.getElem?_drop])
      (by rw [List.length_drop, hl]; exact hseq) hw
    rwa [List.length_drop] at this
  | succ f ih =>
    intro listed u w inv hcnt hext hy
    rw [show f + 1 + (l.length - n) = (f + (l.length - n)) + 1 from by omega]
    obtain ⟨i0, hi0, hun0, hmin⟩ := cnt_lt (fun j => listed.getD j false) n (by omega)
    have hlsz : listed.size = l.length := by rw [inv.size]; simp
    have hun0' : listed.getD i0 true = false := getD_in (by omega) hun0
    have hready : i0 ∈ Region.ready .any l.toArray listed := by
      refine mem_ready.2 ⟨hun0', l[i0]'(by omega), by simp, fun e he hbe => ?_⟩
      have h1 := List.all_eq_true.1 hb (l[i0]'(by omega), i0) (by
        rw [List.mem_zipIdx_iff_getElem?]; simp)
      have h2 := List.all_eq_true.1 h1 e (by simpa using he)
      simp only [hbe, Bool.not_true, Bool.false_or, decide_eq_true_eq] at h2
      exact hmin e.on h2
    refine ⟨fun h => (by rw [h] at hready; cases hready), fun i hi => ?_⟩
    have hin : i < n := by
      rcases Nat.lt_or_ge i n with h | h
      · exact h
      · exact absurd hi (tail_waits hs hc (by simpa using hn) inv _ i0 rfl hi0 hun0' i h)
    obtain ⟨hui, o, ho, hall⟩ := mem_ready.1 hi
    have ho' : (l.take n)[i]? = some o := by
      rw [List.getElem?_take, if_pos hin]; simpa using ho
    have hol : l[i]? = some o := by simpa using ho
    have hst := hsteps.get _ 0 i o ho'
    rw [Nat.zero_add] at hst
    have hdeps : DepsOk l V u w o.after.toList := DepsOk.of _ fun e he => by
      have hbe : Region.binds .any e = true := by
        have h1 := List.all_eq_true.1 hbinds o (List.mem_of_getElem? hol)
        exact List.all_eq_true.1 h1 e he
      have hle := hall e (by simpa using he) hbe
      have h1 := List.all_eq_true.1 hb (o, i) (by rw [List.mem_zipIdx_iff_getElem?]; simpa using hol)
      have h2 := List.all_eq_true.1 h1 e he
      simp only [hbe, Bool.not_true, Bool.false_or, decide_eq_true_eq] at h2
      exact hy e.on (by omega) hle
    have hmemd : ∀ d, o.dst = some d → d ∈ dstsOf (l.take n) := fun d hd => by
      refine List.mem_filterMap.2 ⟨o, List.mem_of_getElem? ho', hd⟩
    have hdd : ∀ j d, j < n → (l[j]?).bind (·.dst) = some d → o.dst = some d → j = i := fun j d hj h1 h2 => by
      have hd1 : ((l.take n).map (·.dst))[i]? = some (some d) := by rw [List.getElem?_map, ho']; simp [h2]
      have hd2 : ((l.take n).map (·.dst))[j]? = some (some d) := by
        rw [List.getElem?_map, List.getElem?_take, if_pos hj]
        cases hlj : l[j]? with
        | none => rw [hlj] at h1; cases h1
        | some oj => rw [hlj] at h1; simpa using h1
      exact distB_spec _ hdist j i d hd2 hd1
    have hnext : ∀ a' w', (∃ v, a' = (fillAct a0 (dstsOf (l.take n)) u).put o.dst v ∧ Ext w w' ∧ (o.dst.isSome = true → V i v w')) →
        wpAny P .any l.toArray Q (f + (l.length - n)) (listed.setIfInBounds i true) a' w' := by
      rintro a' w' ⟨v, rfl, hww, hv⟩
      have hcnt' : (List.range n).countP (fun j => (listed.setIfInBounds i true).getD j false) + f = n := by
        rw [cnt_set (fun j => listed.getD j false) (fun j => (listed.setIfInBounds i true).getD j false) i (getD_both hui) (by simp [show i < listed.size by omega]) (fun j hj => getD_set_ne false (Ne.symm hj)) n hin]
        omega
      have inv' := inv.set hi hin
      cases hd : o.dst with
      | none =>
        simp only [Act.put]
        refine ih _ u w' inv' hcnt' (hext.trans hww) fun j hj hlj => ?_
        by_cases e : j = i
        · subst e
          simp only [Yld, hol, Option.bind_some, hd]
        · rw [getD_set_ne false (Ne.symm e)] at hlj
          exact (hy j hj hlj).mono hmono hww
      | some d =>
        rw [fillAct_put _ _ _ _ _ (hmemd d hd)]
        refine ih _ _ w' inv' hcnt' (hext.trans hww) fun j hj hlj => ?_
        by_cases e : j = i
        · subst e
          simp only [Yld, hol, Option.bind_some, hd, if_true]
          exact hv (by rw [hd]; rfl)
        · rw [getD_set_ne false (Ne.symm e)] at hlj
          exact ((hy j hj hlj).mono hmono hww).upd (fun q => e (hdd j d hj q hd))
    have hstep := hst u w hext hdeps _ hnext
    unfold wpOp
    simp only [ho]
    split
    · rename_i hw; rw [if_pos hw] at hstep; exact .inl hstep
    · rename_i hw; rw [if_neg hw] at hstep; exact hstep

/-- THE RULE: a region that draws its order; the first n operations (by number) in whatever order, the others behind them. -/
theorem wp_region_heads {id : Nat} (n : Nat) (V : Nat → Value → World → Prop) (hm : P.follows .mixedOrders = true) (hB : regB l n = true)
    (hmono : ∀ i v w w', V i v w → Ext w w' → V i v w')
    (hsteps : StepsOk P Q l (dstsOf (l.take n)) a0 w0 V (l.take n) 0)
    (hend : ∀ (u : Nat → Value) (w : World), Ext w0 w → (∀ j, j < n → Yld l V u w j) → wpList P l.toArray Q (l.drop n) (fillAct a0 (dstsOf (l.take n)) u) w) :
    (Code.region id l.toArray true).wp P Q a0 w0 := by
  refine wp_region_any hm ?_
  obtain ⟨u, hu⟩ := fillAct_self a0 (dstsOf (l.take n))
  have hn : n < l.length := by
    simp only [regB, Bool.and_eq_true, decide_eq_true_eq] at hB
    exact hB.1.1.1.1.1.1
  have inv0 : HeadInv .any l.toArray n (Array.replicate l.toArray.size false) :=
    ⟨by simp, fun j oj _ hl => (by rw [getD_replicate_false] at hl; cases hl), fun t _ ht => getD_in (by simpa using ht) (getD_replicate_false _ _)⟩
  have := heads_any hB hmono hsteps hend n (Array.replicate l.toArray.size false) u { w0 with drawn := w0.drawn + 1 } inv0 (by
    have : (List.range n).countP (fun j => (Array.replicate l.toArray.size false).getD j false) = 0 := by
      rw [List.countP_eq_zero]
      intro j _ hq
      rw [getD_replicate_false] at hq
      cases hq
    omega) ((Below.refl _ _).drew) (fun j _ hl => by rw [getD_replicate_false] at hl; cases hl)
  rw [← hu] at this
  rw [show n + (l.length - n) = l.length from by omega] at this
  simpa using this
end

/-! ### the same, an operation being looked at through its operands alone -/

def evalE (ev : Nat → Value) : Operand → Value
  | .tmp t => ev t
  | .const v => v
  | .global g => .pointer (some ⟨g, 0, none⟩)
  | .func f => .func (.func f) #[] #[]

def yieldE (l : List Oper) (ev : Nat → Value) (j : Nat) : Option Bool :=
  match (l[j]?).bind (·.dst) with
  | some d => match ev d with | .bool b => some b | _ => none
  | none => none

def GoodR (P : Program) (w : World) (φ : Value → World → Prop) : Result Next → Prop
  | .ok (.value v) w' => Ext w w' ∧ φ v w'
  | .ok .skip w' => Ext w w' ∧ φ undef w'
  | .ok (.enter f args) w' => Calls P f args w' (fun e w'' => ∃ v, e = .returned v ∧ Ext w w'' ∧ φ v w'')
  | _ => False

def Good (P : Program) (l : List Oper) (o : Oper) (ev : Nat → Value) (w : World) (φ : Value → World → Prop) : Prop :=
  if Region.wanted o (yieldE l ev) = true then GoodR P w φ ((execOp (evalE ev) o).run P w) else φ undef w

def DepsE (l : List Oper) (Vs : List (Value → World → Prop)) (ev : Nat → Value) (w : World) : List Edge → Prop
  | [] => True
  | e :: r => (match (l[e.on]?).bind (·.dst) with | some d => Vs.getD e.on (fun _ _ => True) (ev d) w | none => True) ∧ DepsE l Vs ev w r

def StepE (P : Program) (l : List Oper) (hs : List Tmp) (a0 : Act) (w0 : World) (Vs : List (Value → World → Prop)) (i : Nat) (o : Oper) : Prop :=
  ∀ (ev : Nat → Value) (w : World), Ext w0 w → (∀ t, t ∉ hs → ev t = a0.tmps.getD t undef) → DepsE l Vs ev w o.after.toList → Good P l o ev w (Vs.getD i (fun _ _ => True))

def StepsE (P : Program) (l : List Oper) (hs : List Tmp) (a0 : Act) (w0 : World) (Vs : List (Value → World → Prop)) : List Oper → Nat → Prop
  | [], _ => True
  | o :: r, i => StepE P l hs a0 w0 Vs i o ∧ StepsE P l hs a0 w0 Vs r (i + 1)

def MonoL : List (Value → World → Prop) → Prop
  | [] => True
  | V :: r => (∀ v w w', V v w → Ext w w' → V v w') ∧ MonoL r
theorem MonoL.get : ∀ (Vs : List (Value → World → Prop)), MonoL Vs → ∀ i v w w', Vs.getD i (fun _ _ => True) v w → Ext w w' → Vs.getD i (fun _ _ => True) v w'
  | [], _, _, _, _, _, _, _ => by simp
  | V :: r, h, 0, v, w, w', hv, hw => by simpa using h.1 v w w' (by simpa using hv) hw
  | V :: r, h, i + 1, v, w, w', hv, hw => by
    have := MonoL.get r h.2 i v w w' (by simpa using hv) hw
    simpa using this

/-- 'it is this value' -/
def eqv (m : Value) : Value → World → Prop := fun v _ => v = m
theorem mono_eqv (m : Value) : ∀ v w w', eqv m v w → Ext w w' → eqv m v w' := fun _ _ _ h _ => h
/-- nothing is said -/
def anyv : Value → World → Prop := fun _ _ => True
theorem mono_anyv : ∀ v w w', anyv v w → Ext w w' → anyv v w' := fun _ _ _ h _ => h

theorem eval_fill (a0 : Act) (hs : List Tmp) (u : Nat → Value) : (fillAct a0 hs u).eval = evalE (fun t => (fillAct a0 hs u).tmps.getD t undef) := by
  funext x; cases x <;> rfl

theorem yield_fill (l : List Oper) (a : Act) : yielded l.toArray a.tmps = yieldE l (fun t => a.tmps.getD t undef) := by
  funext j
  unfold yielded yieldE
  simp only [List.getElem?_toArray]
  cases (l[j]?).bind (·.dst) with
  | none => rfl
  | some d =>
    simp only [Option.bind_some, Array.getD_eq_getD_getElem?]
    cases h : a.tmps[d]? with
    | none => simp [undef]
    | some v => cases v <;> simp

theorem wp_of_goodR {P : Program} {o : Oper} {a : Act} {w : World} {K : Act → World → Prop} {Q : Exit → Act → World → Prop} {φ : Value → World → Prop} {ev : Nat → Value}
    (he : a.eval = evalE ev) (h : GoodR P w φ ((execOp (evalE ev) o).run P w)) (hK : ∀ v w', Ext w w' → φ v w' → K (a.put o.dst v) w') : o.wp P a w K Q := by
  unfold Oper.wp
  rw [he]
  generalize (execOp (evalE ev) o).run P w = r at *
  cases r with
  | ok n w' =>
    cases n <;> simp only [GoodR] at h <;> simp only [Oper.upon]
    case value v => exact hK _ _ h.1 h.2
    case skip => exact hK _ _ h.1 h.2
    case enter f args =>
      exact h.mono fun e w'' ⟨v, hv, h1, h2⟩ => by subst hv; exact hK _ _ h1 h2
  | halt x w' => simp only [GoodR] at h

section
variable {P : Program} {Q : Exit → Act → World → Prop} {l : List Oper} {n : Nat} {a0 : Act} {w0 : World} {Vs : List (Value → World → Prop)}

theorem StepE.ok {hs : List Tmp} {i : Nat} {o : Oper} (hsz : ∀ t ∈ hs, t < a0.tmps.size) (hin : ∀ j oj d, l[j]? = some oj → oj.dst = some d → (∃ e ∈ o.after.toList, e.on = j) → d ∈ hs)
    (h : StepE P l hs a0 w0 Vs i o) : StepOk P Q l hs a0 w0 (fun i => Vs.getD i (fun _ _ => True)) i o := by
  intro u w hext hdeps K hK
  have hev : ∀ d, d ∈ hs → (fillAct a0 hs u).tmps.getD d undef = u d := fun d hd => by
    rw [Array.getD_eq_getD_getElem?, fillAct_get, if_pos ⟨hd, hsz d hd⟩]; rfl
  have hD : ∀ (es : List Edge), (∀ e ∈ es, e ∈ o.after.toList) → DepsOk l (fun i => Vs.getD i (fun _ _ => True)) u w es → DepsE l Vs (fun t => (fillAct a0 hs u).tmps.getD t undef) w es := by
    intro es
    induction es with
    | nil => intro _ _; trivial
    | cons e r ih =>
      intro hm hd
      refine ⟨?_, ih (fun x hx => hm x (by simp [hx])) hd.2⟩
      have h1 := hd.1
      unfold Yld at h1
      cases hl : (l[e.on]?) with
      | none => simp
      | some oj =>
        simp only [hl, Option.bind_some] at h1 ⊢
        cases hdj : oj.dst with
        | none => simp
        | some d =>
          simp only [hdj] at h1 ⊢
          rw [hev d (hin e.on oj d hl hdj ⟨e, hm e (by simp), rfl⟩)]
          exact h1
  have hg := h (fun t => (fillAct a0 hs u).tmps.getD t undef) w hext (fun t ht => by
    rw [Array.getD_eq_getD_getElem?, fillAct_get, if_neg (fun q => ht q.1), Array.getD_eq_getD_getElem?]) (hD _ (fun _ h => h) hdeps)
  unfold Good at hg
  rw [yield_fill]
  split
  · rename_i hw
    rw [if_pos hw] at hg
    exact wp_of_goodR (eval_fill a0 hs u) hg fun v w' h1 h2 => by
      cases hd : o.dst with
      | none => exact hK _ _ ⟨v, by rw [hd], h1, fun q => by rw [hd] at q; cases q⟩
      | some d => exact hK _ _ ⟨v, by rw [hd], h1, fun _ => h2⟩
  · rename_i hw
    rw [if_neg hw] at hg
    exact hK _ _ ⟨undef, rfl, Below.refl _ _, fun _ => hg⟩

theorem StepsE.ok {hs : List Tmp} (hsz : ∀ t ∈ hs, t < a0.tmps.size) : ∀ (r : List Oper) (i : Nat), (∀ (j : Nat) (o : Oper), r[j]? = some o → ∀ (k : Nat) (oj : Oper) (d : Tmp), l[k]? = some oj → oj.dst = some d → (∃ e ∈ o.after.toList, e.on = k) → d ∈ hs) →
    StepsE P l hs a0 w0 Vs r i → StepsOk P Q l hs a0 w0 (fun i => Vs.getD i (fun _ _ => True)) r i
  | [], _, _, _ => trivial
  | o :: r, i, hin, h => ⟨StepE.ok hsz (hin 0 o (by simp)) h.1, StepsE.ok hsz r (i + 1) (fun j o' hj => hin (j + 1) o' (by simpa using hj)) h.2⟩

def sizeB (a : Act) (hs : List Tmp) : Bool := hs.all fun t => decide (t < a.tmps.size)

/-- the values at the end -/
def EndE (l : List Oper) (Vs : List (Value → World → Prop)) (u : Nat → Value) (w : World) : Nat → Prop
  | 0 => True
  | j + 1 => EndE l Vs u w j ∧ (match (l[j]?).bind (·.dst) with | some d => Vs.getD j (fun _ _ => True) (u d) w | none => True)
theorem EndE.of {u : Nat → Value} {w : World} : ∀ n, (∀ j, j < n → Yld l (fun i => Vs.getD i (fun _ _ => True)) u w j) → EndE l Vs u w n
  | 0, _ => trivial
  | j + 1, h => ⟨EndE.of j (fun k hk => h k (by omega)), h j (by omega)⟩

/-- THE RULE, BY OPERANDS: each of the first n operations once, from the values that its forerunners left; behind them the others in the text's order. -/
theorem wp_region_ev {id : Nat} (n : Nat) (hs : List Tmp) (Vs : List (Value → World → Prop)) (hm : P.follows .mixedOrders = true) (hB : regB l n = true) (hhs : dstsOf (l.take n) = hs) (hsz : sizeB a0 hs = true)
    (hmono : MonoL Vs)
    (hsteps : StepsE P l hs a0 w0 Vs (l.take n) 0)
    (hend : ∀ (u : Nat → Value) (w : World), Ext w0 w → EndE l Vs u w n → wpList P l.toArray Q (l.drop n) (fillAct a0 hs u) w) :
    (Code.region id l.toArray true).wp P Q a0 w0 := by
  subst hhs
  have hback : ∀ (i : Nat) (o : Oper), (l.take n)[i]? = some o → ∀ e ∈ o.after.toList, e.on < i := fun i o ho e he => by
    have hB' := hB
    simp only [regB, Bool.and_eq_true, decide_eq_true_eq] at hB'
    obtain ⟨⟨⟨⟨⟨⟨hn, hs⟩, hc⟩, hb⟩, hdist⟩, hbinds⟩, hseq⟩ := hB'
    have hin : i < n := by
      have := (List.getElem?_eq_some_iff.1 ho).1
      simp at this; omega
    have hol : l[i]? = some o := by rw [List.getElem?_take, if_pos hin] at ho; exact ho
    have h1 := List.all_eq_true.1 hb (o, i) (by rw [List.mem_zipIdx_iff_getElem?]; simpa using hol)
    have h2 := List.all_eq_true.1 h1 e he
    have h3 := List.all_eq_true.1 hbinds o (List.mem_of_getElem? hol)
    have h4 := List.all_eq_true.1 h3 e he
    simp only [h4, Bool.not_true, Bool.false_or, decide_eq_true_eq] at h2
    exact h2
  refine wp_region_heads n (fun i => Vs.getD i (fun _ _ => True)) hm hB (MonoL.get Vs hmono) (StepsE.ok (fun t ht => by
      have := List.all_eq_true.1 hsz t ht; simpa using this) _ 0 ?_ hsteps) (fun u w h1 h2 => hend u w h1 (EndE.of n h2))
  rintro i o ho k oj d hk hd ⟨e, he, rfl⟩
  have hlt := hback i o ho e he
  have hin : i < n := by
    have := (List.getElem?_eq_some_iff.1 ho).1
    simp at this; omega
  refine List.mem_filterMap.2 ⟨oj, List.mem_of_getElem? (i := e.on) ?_, hd⟩
  rw [List.getElem?_take, if_pos (by omega)]; exact hk
end

@[go_sem] theorem evalE_tmp (ev : Nat → Value) (t : Tmp) : evalE ev (.tmp t) = ev t := rfl
@[go_sem] theorem evalE_const (ev : Nat → Value) (v : Value) : evalE ev (.const v) = v := rfl
@[go_sem] theorem evalE_global (ev : Nat → Value) (g : Nat) : evalE ev (.global g) = .pointer (some ⟨g, 0, none⟩) := rfl
@[go_sem] theorem evalE_func (ev : Nat → Value) (f : FuncId) : evalE ev (.func f) = .func (.func f) #[] #[] := rfl
section
variable (P : Program) (w w' : World) (φ : Value → World → Prop)
@[go_sem] theorem GoodR_value (v : Value) : GoodR P w φ (.ok (.value v) w') = (Ext w w' ∧ φ v w') := rfl
@[go_sem] theorem GoodR_skip : GoodR P w φ (.ok .skip w') = (Ext w w' ∧ φ undef w') := rfl
@[go_sem] theorem GoodR_enter (f : FuncId) (args : Array Value) : GoodR P w φ (.ok (.enter f args) w') = Calls P f args w' (fun e w'' => ∃ v, e = .returned v ∧ Ext w w'' ∧ φ v w'') := rfl
end

end Go.Proofs.Bl

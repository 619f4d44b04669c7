/- The rule for a region whose order is open (XRegion), over any relation R between worlds that every operation keeps, and with an assertion J on what has been carried out so far: for a region that holds a call that writes. No program. -/
import Derived.Test.YtkndnmpdklidkaaDoorRegion
namespace Go.Proofs.Bl
open Go Go.RowKit

def updv (o : Option Tmp) (u : Nat → Value) (v : Value) : Nat → Value := match o with | some t => fun j => if j = t then v else u j | none => u
def upd (d : Nat → Bool) (i : Nat) : Nat → Bool := fun j => if j = i then true else d j

/-- operation i waits for operation j -/
def ancN (l : List Oper) : Nat → Nat → Nat → Bool
  | 0, _, _ => false
  | f + 1, j, i => match l[i]? with
    | some o => o.after.toList.any fun e => e.on == j || ancN l f j e.on
    | none => false
theorem anc_done {l : List Oper} {d : Nat → Bool} (hcl : ∀ j oj, l[j]? = some oj → d j = true → ∀ e ∈ oj.after.toList, d e.on = true) : ∀ (f j i : Nat), ancN l f j i = true → d i = true → d j = true
  | 0, _, _, h, _ => by simp [ancN] at h
  | f + 1, j, i, h, hi => by
    unfold ancN at h
    split at h
    · rename_i o ho
      obtain ⟨e, he, h1⟩ := List.any_eq_true.1 h
      have hd := hcl i o ho hi e he
      simp only [Bool.or_eq_true, beq_iff_eq] at h1
      rcases h1 with h1 | h1
      · rw [← h1]; exact hd
      · exact anc_done hcl f j e.on h1 hd
    · cases h
theorem anc_ready {l : List Oper} {d : Nat → Bool} (hcl : ∀ j oj, l[j]? = some oj → d j = true → ∀ e ∈ oj.after.toList, d e.on = true) (f j i : Nat) {o : Oper} (ho : l[i]? = some o) (hall : ∀ e ∈ o.after.toList, d e.on = true) (h : ancN l f j i = true) : d j = true := by
  cases f with
  | zero => simp [ancN] at h
  | succ f =>
    unfold ancN at h
    rw [ho] at h
    obtain ⟨e, he, h1⟩ := List.any_eq_true.1 h
    simp only [Bool.or_eq_true, beq_iff_eq] at h1
    rcases h1 with h1 | h1
    · rw [← h1]; exact hall e he
    · exact anc_done hcl f j e.on h1 (hall e he)

section
variable (R : World → World → Prop) (J : (Nat → Bool) → (Nat → Value) → World → Prop)

def StepJ (P : Program) (Q : Exit → Act → World → Prop) (l : List Oper) (hs : List Tmp) (a0 : Act) (w0 : World) (V : Nat → Value → World → Prop) (i : Nat) (o : Oper) : Prop :=
  ∀ (d : Nat → Bool) (u : Nat → Value) (w : World), (∀ t, t ∉ hs → u t = a0.tmps.getD t undef) → R w0 w → J d u w → (∀ j, ancN l l.length j i = true → d j = true) → (∀ j, ancN l l.length i j = true → d j = false) → d i = false → DepsOk l V u w o.after.toList → ∀ K : Act → World → Prop,
    (∀ a' w', (∃ v, a' = (fillAct a0 hs u).put o.dst v ∧ R w w' ∧ J (upd d i) (updv o.dst u v) w' ∧ (o.dst.isSome = true → V i v w')) → K a' w') →
    if Region.wanted o (yielded l.toArray (fillAct a0 hs u).tmps) = true then o.wp P (fillAct a0 hs u) w K Q else K ((fillAct a0 hs u).put o.dst undef) w

def StepsJ (P : Program) (Q : Exit → Act → World → Prop) (l : List Oper) (hs : List Tmp) (a0 : Act) (w0 : World) (V : Nat → Value → World → Prop) : List Oper → Nat → Prop
  | [], _ => True
  | o :: r, i => StepJ R J P Q l hs a0 w0 V i o ∧ StepsJ P Q l hs a0 w0 V r (i + 1)
end

theorem StepsJ.get {R : World → World → Prop} {J : (Nat → Bool) → (Nat → Value) → World → Prop} {P : Program} {Q : Exit → Act → World → Prop} {l : List Oper} {hs : List Tmp} {a0 : Act} {w0 : World} {V : Nat → Value → World → Prop} :
    ∀ (r : List Oper) (i : Nat), StepsJ R J P Q l hs a0 w0 V r i → ∀ j o, r[j]? = some o → StepJ R J P Q l hs a0 w0 V (i + j) o
  | [], _, _, j, o, h => by simp at h
  | x :: r, i, h, 0, o, hj => by simp at hj; subst hj; exact h.1
  | x :: r, i, h, j + 1, o, hj => by
    have := StepsJ.get r (i + 1) h.2 j o (by simpa using hj)
    rw [show i + (j + 1) = i + 1 + j from by omega]; exact this

theorem Yld.monoR {R : World → World → Prop} {l : List Oper} {V : Nat → Value → World → Prop} (hmono : ∀ i v w w', V i v w → R w w' → V i v w') {u : Nat → Value} {w w' : World} {j : Nat} (h : Yld l V u w j) (hw : R w w') : Yld l V u w' j := by
  unfold Yld at h ⊢
  cases hd : (l[j]?).bind (·.dst) with
  | none => trivial
  | some d => simp only [hd] at h ⊢; exact hmono _ _ _ _ h hw

section
variable {R : World → World → Prop} {J : (Nat → Bool) → (Nat → Value) → World → Prop} {P : Program} {Q : Exit → Act → World → Prop} {l : List Oper} {n : Nat} {a0 : Act} {w0 : World} {V : Nat → Value → World → Prop}

theorem heads_J (hRt : ∀ a b c, R a b → R b c → R a c) (hB : regB l n = true)
    (hmono : ∀ i v w w', V i v w → R w w' → V i v w')
    (hsteps : StepsJ R J P Q l (dstsOf (l.take n)) a0 w0 V (l.take n) 0)
    (hend : ∀ (u : Nat → Value) (w : World), R w0 w → J (fun j => decide (j < n)) u w → (∀ j, j < n → Yld l V u w j) → wpList P l.toArray Q (l.drop n) (fillAct a0 (dstsOf (l.take n)) u) w) :
    ∀ (f : Nat) (listed : Array Bool) (u : Nat → Value) (w : World), HeadInv .any l.toArray n listed → (List.range n).countP (fun j => listed.getD j false) + f = n →
      (∀ t, t ∉ dstsOf (l.take n) → u t = a0.tmps.getD t undef) → R w0 w → J (fun j => listed.getD j false) u w → (∀ j, j < n → listed.getD j false = true → Yld l V u w j) →
      wpAny P .any l.toArray Q (f + (l.length - n)) listed (fillAct a0 (dstsOf (l.take n)) u) w := by
  simp only [regB, Bool.and_eq_true, decide_eq_true_eq] at hB
  obtain ⟨⟨⟨⟨⟨⟨hn, hs⟩, hc⟩, hb⟩, hdist⟩, hbinds⟩, hseq⟩ := hB
  have hbind : ∀ (i : Nat) (o : Oper), l[i]? = some o → ∀ e ∈ o.after.toList, Region.binds .any e = true := fun i o ho e he => by
    have h1 := List.all_eq_true.1 hbinds o (List.mem_of_getElem? ho)
    exact List.all_eq_true.1 h1 e he
  intro f
  induction f with
  | zero =>
    intro listed u w inv hcnt hu hext hJ hy
    rw [Nat.zero_add]
    have hall := cnt_all (fun j => listed.getD j false) n (by omega)
    have hl : listed = trues l.length n := by
      have hsz : listed.size = l.length := by rw [inv.size]; simp
      refine Array.ext (by rw [hsz]; simp [trues]) fun j h1 h2 => ?_
      simp only [trues, List.getElem_toArray, List.getElem_map, List.getElem_range]
      by_cases hj : j < n
      · have := hall j hj
        simp [h1] at this
        simp [hj, this]
      · have := inv.tail j (by omega) (by simp; omega)
        simp [h1] at this
        simp [hj, this]
    have hJe : (fun j => listed.getD j false) = fun j => decide (j < n) := by
      funext j
      by_cases hj : j < n
      · rw [hall j hj]; simp [hj]
      · have h2 : decide (j < n) = false := decide_eq_false hj
        rw [h2, hl]
        by_cases hjl : j < l.length
        · simp [trues, hjl, hj]
        · simp [trues, hjl]
    rw [hJe] at hJ
    have hw := hend u w hext hJ (fun j hj => hy j hj (hall j hj))
    have := wpAny_of_seq (P := P) (md := .any) (ops := l.toArray) (Q' := Q) (l.drop n) n listed (fillAct a0 (dstsOf (l.take n)) u) w (fun j => by simp [List.getElem?_drop])
      (by rw [List.length_drop, hl]; exact hseq) hw
    rwa [List.length_drop] at this
  | succ f ih =>
    intro listed u w inv hcnt hu hext hJ hy
    rw [show f + 1 + (l.length - n) = (f + (l.length - n)) + 1 from by omega]
    obtain ⟨i0, hi0, hun0, hmin⟩ := cnt_lt (fun j => listed.getD j false) n (by omega)
    have hlsz : listed.size = l.length := by rw [inv.size]; simp
    have hun0' : listed.getD i0 true = false := getD_in (by omega) hun0
    have hready : i0 ∈ Region.ready .any l.toArray listed := by
      refine mem_ready.2 ⟨hun0', l[i0]'(by omega), by simp, fun e he hbe => ?_⟩
      have h1 := List.all_eq_true.1 hb (l[i0]'(by omega), i0) (by
        rw [List.mem_zipIdx_iff_getElem?]; simp)
      have h2 := List.all_eq_true.1 h1 e (by simpa using he)
      simp only [hbe, Bool.not_true, Bool.false_or, decide_eq_true_eq] at h2
      exact hmin e.on h2
    refine ⟨fun h => (by rw [h] at hready; cases hready), fun i hi => ?_⟩
    have hin : i < n := by
      rcases Nat.lt_or_ge i n with h | h
      · exact h
      · exact absurd hi (tail_waits hs hc (by simpa using hn) inv _ i0 rfl hi0 hun0' i h)
    obtain ⟨hui, o, ho, hall⟩ := mem_ready.1 hi
    have ho' : (l.take n)[i]? = some o := by
      rw [List.getElem?_take, if_pos hin]; simpa using ho
    have hol : l[i]? = some o := by simpa using ho
    have hst := hsteps.get _ 0 i o ho'
    rw [Nat.zero_add] at hst
    have hcl : ∀ j oj, l[j]? = some oj → (fun j => listed.getD j false) j = true → ∀ e ∈ oj.after.toList, (fun j => listed.getD j false) e.on = true := fun j oj hoj hlj e he =>
      inv.closed j oj (by simpa using hoj) hlj e (by simpa using he) (hbind j oj hoj e he)
    have hallR : ∀ e ∈ o.after.toList, (fun j => listed.getD j false) e.on = true := fun e he => hall e (by simpa using he) (hbind i o hol e he)
    have hunf : listed.getD i false = false := getD_both hui
    have hanc : ∀ j, ancN l l.length j i = true → (fun j => listed.getD j false) j = true := fun j hj => anc_ready hcl _ j i hol hallR hj
    have hdes : ∀ j, ancN l l.length i j = true → (fun j => listed.getD j false) j = false := fun j hj => by
      rcases Bool.eq_false_or_eq_true (listed.getD j false) with hlj | hlj
      · have := anc_done hcl _ i j hj hlj
        simp only [hunf] at this
        cases this
      · exact hlj
    have hdeps : DepsOk l V u w o.after.toList := DepsOk.of _ fun e he => by
      have hbe : Region.binds .any e = true := hbind i o hol e he
      have hle := hall e (by simpa using he) hbe
      have h1 := List.all_eq_true.1 hb (o, i) (by rw [List.mem_zipIdx_iff_getElem?]; simpa using hol)
      have h2 := List.all_eq_true.1 h1 e he
      simp only [hbe, Bool.not_true, Bool.false_or, decide_eq_true_eq] at h2
      exact hy e.on (by omega) hle
    have hmemd : ∀ d, o.dst = some d → d ∈ dstsOf (l.take n) := fun d hd => by
      refine List.mem_filterMap.2 ⟨o, List.mem_of_getElem? ho', hd⟩
    have hdd : ∀ j d, j < n → (l[j]?).bind (·.dst) = some d → o.dst = some d → j = i := fun j d hj h1 h2 => by
      have hd1 : ((l.take n).map (·.dst))[i]? = some (some d) := by rw [List.getElem?_map, ho']; simp [h2]
      have hd2 : ((l.take n).map (·.dst))[j]? = some (some d) := by
        rw [List.getElem?_map, List.getElem?_take, if_pos hj]
        cases hlj : l[j]? with
        | none => rw [hlj] at h1; cases h1
        | some oj => rw [hlj] at h1; simpa using h1
      exact distB_spec _ hdist j i d hd2 hd1
    have hupd : (fun j => (listed.setIfInBounds i true).getD j false) = upd (fun j => listed.getD j false) i := by
      funext j
      unfold upd
      by_cases e : j = i
      · subst e; rw [if_pos rfl]; simp [show j < listed.size by omega]
      · rw [if_neg e]; exact getD_set_ne false (Ne.symm e)
    have hnext : ∀ a' w', (∃ v, a' = (fillAct a0 (dstsOf (l.take n)) u).put o.dst v ∧ R w w' ∧ J (upd (fun j => listed.getD j false) i) (updv o.dst u v) w' ∧ (o.dst.isSome = true → V i v w')) →
        wpAny P .any l.toArray Q (f + (l.length - n)) (listed.setIfInBounds i true) a' w' := by
      rintro a' w' ⟨v, rfl, hww, hJ', hv⟩
      have hcnt' : (List.range n).countP (fun j => (listed.setIfInBounds i true).getD j false) + f = n := by
        rw [cnt_set (fun j => listed.getD j false) (fun j => (listed.setIfInBounds i true).getD j false) i (getD_both hui) (by simp [show i < listed.size by omega]) (fun j hj => getD_set_ne false (Ne.symm hj)) n hin]
        omega
      have inv' := inv.set hi hin
      rw [← hupd] at hJ'
      cases hd : o.dst with
      | none =>
        simp only [Act.put]
        rw [hd] at hJ'
        refine ih _ u w' inv' hcnt' hu (hRt _ _ _ hext hww) hJ' fun j hj hlj => ?_
        by_cases e : j = i
        · subst e
          simp only [Yld, hol, Option.bind_some, hd]
        · rw [getD_set_ne false (Ne.symm e)] at hlj
          exact (hy j hj hlj).monoR hmono hww
      | some d =>
        rw [fillAct_put _ _ _ _ _ (hmemd d hd)]
        rw [hd] at hJ'
        refine ih _ _ w' inv' hcnt' (fun t ht => ?_) (hRt _ _ _ hext hww) hJ' fun j hj hlj => ?_
        · rw [if_neg (fun q => ht (by rw [q]; exact hmemd d hd))]; exact hu t ht
        by_cases e : j = i
        · subst e
          simp only [Yld, hol, Option.bind_some, hd, if_true]
          exact hv (by rw [hd]; rfl)
        · rw [getD_set_ne false (Ne.symm e)] at hlj
          exact ((hy j hj hlj).monoR hmono hww).upd (fun q => e (hdd j d hj q hd))
    have hstep := hst _ u w hu hext hJ hanc hdes hunf hdeps _ hnext
    unfold wpOp
    simp only [ho]
    split
    · rename_i hw; rw [if_pos hw] at hstep; exact .inl hstep
    · rename_i hw; rw [if_neg hw] at hstep; exact hstep

theorem wp_region_hJ {id : Nat} (n : Nat) (V : Nat → Value → World → Prop) (hRt : ∀ a b c, R a b → R b c → R a c) (hm : P.follows .mixedOrders = true) (hB : regB l n = true)
    (hmono : ∀ i v w w', V i v w → R w w' → V i v w') (hR0 : R w0 w0.drew) (hJ0 : J (fun _ => false) (fun t => a0.tmps.getD t undef) w0.drew)
    (hsteps : StepsJ R J P Q l (dstsOf (l.take n)) a0 w0 V (l.take n) 0)
    (hend : ∀ (u : Nat → Value) (w : World), R w0 w → J (fun j => decide (j < n)) u w → (∀ j, j < n → Yld l V u w j) → wpList P l.toArray Q (l.drop n) (fillAct a0 (dstsOf (l.take n)) u) w) :
    (Code.region id l.toArray true).wp P Q a0 w0 := by
  refine wp_region_any hm ?_
  have hu : a0 = fillAct a0 (dstsOf (l.take n)) (fun t => a0.tmps.getD t undef) := by
    refine act_ext (by rw [fillAct_defers]) fun j => ?_
    rw [fillAct_get]
    split
    · rename_i h
      simp [h.2]
    · rfl
  have hn : n < l.length := by
    simp only [regB, Bool.and_eq_true, decide_eq_true_eq] at hB
    exact hB.1.1.1.1.1.1
  have inv0 : HeadInv .any l.toArray n (Array.replicate l.toArray.size false) :=
    ⟨by simp, fun j oj _ hl => (by rw [getD_replicate_false] at hl; cases hl), fun t _ ht => getD_in (by simpa using ht) (getD_replicate_false _ _)⟩
  have hJ0' : J (fun j => (Array.replicate l.toArray.size false).getD j false) (fun t => a0.tmps.getD t undef) { w0 with drawn := w0.drawn + 1 } := by
    have : (fun j => (Array.replicate l.toArray.size false).getD j false) = fun _ => false := by
      funext j; exact getD_replicate_false _ _
    rw [this]; exact hJ0
  have := heads_J hRt hB hmono hsteps hend n (Array.replicate l.toArray.size false) (fun t => a0.tmps.getD t undef) { w0 with drawn := w0.drawn + 1 } inv0 (by
    have : (List.range n).countP (fun j => (Array.replicate l.toArray.size false).getD j false) = 0 := by
      rw [List.countP_eq_zero]
      intro j _ hq
      rw [getD_replicate_false] at hq
      cases hq
    omega) (fun _ _ => rfl) hR0 hJ0' (fun j _ hl => by rw [getD_replicate_false] at hl; cases hl)
  rw [← hu] at this
  rw [show n + (l.length - n) = l.length from by omega] at this
  simpa using this
end

def GoodX (R : World → World → Prop) (P : Program) (w : World) (φ : Value → World → Prop) : Result Next → Prop
  | .ok (.value v) w' => R w w' ∧ φ v w'
  | .ok .skip w' => R w w' ∧ φ undef w'
  | .ok (.enter f args) w' => Calls P f args w' (fun e w'' => ∃ v, e = .returned v ∧ R w w'' ∧ φ v w'')
  | _ => False

theorem wp_of_goodX {R : World → World → Prop} {P : Program} {o : Oper} {a : Act} {w : World} {K : Act → World → Prop} {Q : Exit → Act → World → Prop} {φ : Value → World → Prop} {ev : Nat → Value}
    (he : a.eval = evalE ev) (h : GoodX R P w φ ((execOp (evalE ev) o).run P w)) (hK : ∀ v w', R w w' → φ v w' → K (a.put o.dst v) w') : o.wp P a w K Q := by
  unfold Oper.wp
  rw [he]
  generalize (execOp (evalE ev) o).run P w = r at *
  cases r with
  | ok n w' =>
    cases n <;> simp only [GoodX] at h <;> simp only [Oper.upon]
    case value v => exact hK _ _ h.1 h.2
    case skip => exact hK _ _ h.1 h.2
    case enter f args =>
      exact h.mono fun e w'' ⟨v, hv, h1, h2⟩ => by subst hv; exact hK _ _ h1 h2
  | halt x w' => simp only [GoodX] at h

section
variable (R : World → World → Prop) (J : (Nat → Bool) → (Nat → Value) → World → Prop)
/-- one operation, through its operands -/
def StepEJ (P : Program) (l : List Oper) (hs : List Tmp) (a0 : Act) (w0 : World) (Vs : List (Value → World → Prop)) (i : Nat) (o : Oper) : Prop :=
  ∀ (d : Nat → Bool) (ev : Nat → Value) (w : World), R w0 w → J d ev w → (∀ j, ancN l l.length j i = true → d j = true) → (∀ j, ancN l l.length i j = true → d j = false) → d i = false → (∀ t, t ∉ hs → ev t = a0.tmps.getD t undef) → DepsE l Vs ev w o.after.toList →
    if Region.wanted o (yieldE l ev) = true then GoodX R P w (fun v w' => Vs.getD i (fun _ _ => True) v w' ∧ J (upd d i) (updv o.dst ev v) w') ((execOp (evalE ev) o).run P w) else (Vs.getD i (fun _ _ => True) undef w ∧ J (upd d i) (updv o.dst ev undef) w)

def StepsEJ (P : Program) (l : List Oper) (hs : List Tmp) (a0 : Act) (w0 : World) (Vs : List (Value → World → Prop)) : List Oper → Nat → Prop
  | [], _ => True
  | o :: r, i => StepEJ R J P l hs a0 w0 Vs i o ∧ StepsEJ P l hs a0 w0 Vs r (i + 1)

def MonoR : List (Value → World → Prop) → Prop
  | [] => True
  | V :: r => (∀ v w w', V v w → R w w' → V v w') ∧ MonoR r
end
theorem MonoR.get {R : World → World → Prop} : ∀ (Vs : List (Value → World → Prop)), MonoR R Vs → ∀ i v w w', Vs.getD i (fun _ _ => True) v w → R w w' → Vs.getD i (fun _ _ => True) v w'
  | [], _, _, _, _, _, _, _ => by simp
  | V :: r, h, 0, v, w, w', hv, hw => by simpa using h.1 v w w' (by simpa using hv) hw
  | V :: r, h, i + 1, v, w, w', hv, hw => by
    have := MonoR.get r h.2 i v w w' (by simpa using hv) hw
    simpa using this
theorem monoR_eqv {R : World → World → Prop} (m : Value) : ∀ v w w', eqv m v w → R w w' → eqv m v w' := fun _ _ _ h _ => h
theorem monoR_anyv {R : World → World → Prop} : ∀ v w w', anyv v w → R w w' → anyv v w' := fun _ _ _ h _ => h

section
variable {R : World → World → Prop} {J : (Nat → Bool) → (Nat → Value) → World → Prop} {P : Program} {Q : Exit → Act → World → Prop} {l : List Oper} {n : Nat} {a0 : Act} {w0 : World} {Vs : List (Value → World → Prop)}

theorem StepEJ.ok (hRr : ∀ w, R w w) {hs : List Tmp} {i : Nat} {o : Oper} (hsz : ∀ t ∈ hs, t < a0.tmps.size) (hin : ∀ j oj d, l[j]? = some oj → oj.dst = some d → (∃ e ∈ o.after.toList, e.on = j) → d ∈ hs)
    (h : StepEJ R J P l hs a0 w0 Vs i o) : StepJ R J P Q l hs a0 w0 (fun i => Vs.getD i (fun _ _ => True)) i o := by
  intro d u w hu hext hJ hanc hdes hni hdeps K hK
  have hev : ∀ d, d ∈ hs → (fillAct a0 hs u).tmps.getD d undef = u d := fun d hd => by
    rw [Array.getD_eq_getD_getElem?, fillAct_get, if_pos ⟨hd, hsz d hd⟩]; rfl
  have hevu : (fun t => (fillAct a0 hs u).tmps.getD t undef) = u := by
    funext t
    by_cases ht : t ∈ hs
    · exact hev t ht
    · rw [Array.getD_eq_getD_getElem?, fillAct_get, if_neg (fun q => ht q.1), hu t ht, Array.getD_eq_getD_getElem?]
  have hD : ∀ (es : List Edge), (∀ e ∈ es, e ∈ o.after.toList) → DepsOk l (fun i => Vs.getD i (fun _ _ => True)) u w es → DepsE l Vs (fun t => (fillAct a0 hs u).tmps.getD t undef) w es := by
    intro es
    induction es with
    | nil => intro _ _; trivial
    | cons e r ih =>
      intro hm hd
      refine ⟨?_, ih (fun x hx => hm x (by simp [hx])) hd.2⟩
      have h1 := hd.1
      unfold Yld at h1
      cases hl : (l[e.on]?) with
      | none => simp
      | some oj =>
        simp only [hl, Option.bind_some] at h1 ⊢
        cases hdj : oj.dst with
        | none => simp
        | some d =>
          simp only [hdj] at h1 ⊢
          rw [hev d (hin e.on oj d hl hdj ⟨e, hm e (by simp), rfl⟩)]
          exact h1
  have hg := h d (fun t => (fillAct a0 hs u).tmps.getD t undef) w hext (by rw [hevu]; exact hJ) hanc hdes hni (fun t ht => by
    rw [Array.getD_eq_getD_getElem?, fillAct_get, if_neg (fun q => ht q.1), Array.getD_eq_getD_getElem?]) (hD _ (fun _ h => h) hdeps)
  rw [yield_fill]
  have hevK : ∀ v, updv o.dst (fun t => (fillAct a0 hs u).tmps.getD t undef) v = updv o.dst u v := fun v => by rw [hevu]
  split
  · rename_i hw
    rw [if_pos hw] at hg
    exact wp_of_goodX (eval_fill a0 hs u) hg fun v w' h1 h2 => by
      cases hd : o.dst with
      | none => exact hK _ _ ⟨v, by rw [hd], h1, by rw [← hevK]; exact h2.2, fun q => by rw [hd] at q; cases q⟩
      | some d => exact hK _ _ ⟨v, by rw [hd], h1, by rw [← hevK]; exact h2.2, fun _ => h2.1⟩
  · rename_i hw
    rw [if_neg hw] at hg
    exact hK _ _ ⟨undef, rfl, hRr _, by rw [← hevK]; exact hg.2, fun _ => hg.1⟩

theorem StepsEJ.ok (hRr : ∀ w, R w w) {hs : List Tmp} (hsz : ∀ t ∈ hs, t < a0.tmps.size) : ∀ (r : List Oper) (i : Nat), (∀ (j : Nat) (o : Oper), r[j]? = some o → ∀ (k : Nat) (oj : Oper) (d : Tmp), l[k]? = some oj → oj.dst = some d → (∃ e ∈ o.after.toList, e.on = k) → d ∈ hs) →
    StepsEJ R J P l hs a0 w0 Vs r i → StepsJ R J P Q l hs a0 w0 (fun i => Vs.getD i (fun _ _ => True)) r i
  | [], _, _, _ => trivial
  | o :: r, i, hin, h => ⟨StepEJ.ok hRr hsz (hin 0 o (by simp)) h.1, StepsEJ.ok hRr hsz r (i + 1) (fun j o' hj => hin (j + 1) o' (by simpa using hj)) h.2⟩

/-- THE RULE, BY OPERANDS, WITH AN ASSERTION ON WHAT HAS BEEN CARRIED OUT. -/
theorem wp_region_evJ {id : Nat} (R : World → World → Prop) (J : (Nat → Bool) → (Nat → Value) → World → Prop) (n : Nat) (hs : List Tmp) (Vs : List (Value → World → Prop)) (hRr : ∀ w, R w w) (hRt : ∀ a b c, R a b → R b c → R a c) (hm : P.follows .mixedOrders = true) (hB : regB l n = true) (hhs : dstsOf (l.take n) = hs) (hsz : sizeB a0 hs = true)
    (hmono : MonoR R Vs) (hR0 : R w0 w0.drew) (hJ0 : J (fun _ => false) (fun t => a0.tmps.getD t undef) w0.drew)
    (hsteps : StepsEJ R J P l hs a0 w0 Vs (l.take n) 0)
    (hend : ∀ (u : Nat → Value) (w : World), R w0 w → J (fun j => decide (j < n)) u w → EndE l Vs u w n → wpList P l.toArray Q (l.drop n) (fillAct a0 hs u) w) :
    (Code.region id l.toArray true).wp P Q a0 w0 := by
  subst hhs
  have hback : ∀ (i : Nat) (o : Oper), (l.take n)[i]? = some o → ∀ e ∈ o.after.toList, e.on < i := fun i o ho e he => by
    have hB' := hB
    simp only [regB, Bool.and_eq_true, decide_eq_true_eq] at hB'
    obtain ⟨⟨⟨⟨⟨⟨hn, hs⟩, hc⟩, hb⟩, hdist⟩, hbinds⟩, hseq⟩ := hB'
    have hin : i < n := by
      have := (List.getElem?_eq_some_iff.1 ho).1
      simp at this; omega
    have hol : l[i]? = some o := by rw [List.getElem?_take, if_pos hin] at ho; exact ho
    have h1 := List.all_eq_true.1 hb (o, i) (by rw [List.mem_zipIdx_iff_getElem?]; simpa using hol)
    have h2 := List.all_eq_true.1 h1 e he
    have h3 := List.all_eq_true.1 hbinds o (List.mem_of_getElem? hol)
    have h4 := List.all_eq_true.1 h3 e he
    simp only [h4, Bool.not_true, Bool.false_or, decide_eq_true_eq] at h2
    exact h2
  refine wp_region_hJ n (fun i => Vs.getD i (fun _ _ => True)) hRt hm hB (MonoR.get Vs hmono) hR0 hJ0 (StepsEJ.ok hRr (fun t ht => by
      have := List.all_eq_true.1 hsz t ht; simpa using this) _ 0 ?_ hsteps) (fun u w h1 h3 h2 => hend u w h1 h3 (EndE.of n h2))
  rintro i o ho k oj d hk hd ⟨e, he, rfl⟩
  have hlt := hback i o ho e he
  have hin : i < n := by
    have := (List.getElem?_eq_some_iff.1 ho).1
    simp at this; omega
  refine List.mem_filterMap.2 ⟨oj, List.mem_of_getElem? (i := e.on) ?_, hd⟩
  rw [List.getElem?_take, if_pos (by omega)]; exact hk
end
section
variable (R : World → World → Prop) (P : Program) (w w' : World) (φ : Value → World → Prop)
@[go_sem] theorem GoodX_value (v : Value) : GoodX R P w φ (.ok (.value v) w') = (R w w' ∧ φ v w') := rfl
@[go_sem] theorem GoodX_skip : GoodX R P w φ (.ok .skip w') = (R w w' ∧ φ undef w') := rfl
@[go_sem] theorem GoodX_enter (f : FuncId) (args : Array Value) : GoodX R P w φ (.ok (.enter f args) w') = Calls P f args w' (fun e w'' => ∃ v, e = .returned v ∧ R w w'' ∧ φ v w'') := rfl
end
/-- what waits and what is behind, by number -/
theorem anc_of {l : List Oper} {i : Nat} {d : Nat → Bool} (h : ∀ j, ancN l l.length j i = true → d j = true) (j : Nat) (hj : ancN l l.length j i = true) : d j = true := h j hj
end Go.Proofs.Bl

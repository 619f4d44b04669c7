/- The rule of XRegK in a round of a range over a function: turned by program from XRegK. No program. -/
import Derived.Test.YtmfooocdnoflaaaDoorLib0
namespace Go.Proofs.Bl
open Go Go.RowKit
variable {lr nf : Nat}

theorem wpIn_of_goodX {R : World → World → Prop} {P : Program} {o : Oper} {a : Act} {w : World} {K : Act → World → Prop} {Q : Exit → Act → World → Prop} {φ : Value → World → Prop} {ev : Nat → Value}
    (hd : ∀ c, o.op ≠ .defer c) (he : a.eval = evalE ev) (h : GoodX R P w φ ((execOp (evalE ev) o).run P w)) (hK : ∀ v w', R w w' → φ v w' → K (a.put o.dst v) w') : o.wpIn (Fence.wide.inRound lr) nf P a w K Q := by
  refine ⟨fun f _ => trivial, ?_⟩
  rw [show (Fence.wide.inRound lr).round = some lr from rfl, Oper.semAt_some lr _ _ hd, he]
  generalize (execOp (evalE ev) o).run P w = r at *
  cases r with
  | ok x w' =>
    cases x <;> simp only [GoodX] at h <;> simp only [Oper.uponIn]
    case value v => exact hK _ _ h.1 h.2
    case skip => exact hK _ _ h.1 h.2
    case enter f args =>
      exact ⟨fun q => by simp [Fence.wide] at q, CallsIn.inRound lr (callsIn_wide.2 (h.mono fun e w'' ⟨v, hv, h1, h2⟩ => by subst hv; exact hK _ _ h1 h2))⟩
  | halt x w' => simp only [GoodX] at h

section
variable (R : World → World → Prop) (J : (Nat → Bool) → (Nat → Value) → World → Prop)

def StepKIn (lr nf : Nat) (P : Program) (Q : Exit → Act → World → Prop) (l : List Oper) (hs : List Tmp) (a0 : Act) (w0 : World) (V : Nat → Value → World → Prop) (i : Nat) (o : Oper) : Prop :=
  ∀ (d : Nat → Bool) (u : Nat → Value) (w : World), (∀ t, t ∉ hs → u t = a0.tmps.getD t undef) → R w0 w → J d u w → (∀ j, ancK l l.length j i = true → d j = true) → (∀ j, ancK l l.length i j = true → d j = false) → d i = false → DepsOk2 l V u w o.after.toList → ∀ K : Act → World → Prop,
    (∀ a' w', (∃ v, a' = (fillAct a0 hs u).put o.dst v ∧ R w w' ∧ J (upd d i) (updv o.dst u v) w' ∧ (o.dst.isSome = true → V i v w')) → K a' w') →
    if Region.wanted o (yielded l.toArray (fillAct a0 hs u).tmps) = true then o.wpIn (Fence.wide.inRound lr) nf P (fillAct a0 hs u) w K Q else K ((fillAct a0 hs u).put o.dst undef) w

def StepsKIn (lr nf : Nat) (P : Program) (Q : Exit → Act → World → Prop) (l : List Oper) (hs : List Tmp) (a0 : Act) (w0 : World) (V : Nat → Value → World → Prop) : List Oper → Nat → Prop
  | [], _ => True
  | o :: r, i => StepKIn R J lr nf P Q l hs a0 w0 V i o ∧ StepsKIn lr nf P Q l hs a0 w0 V r (i + 1)
end

theorem StepsKIn.get {R : World → World → Prop} {J : (Nat → Bool) → (Nat → Value) → World → Prop} {P : Program} {Q : Exit → Act → World → Prop} {l : List Oper} {hs : List Tmp} {a0 : Act} {w0 : World} {V : Nat → Value → World → Prop} :
    ∀ (r : List Oper) (i : Nat), StepsKIn R J lr nf P Q l hs a0 w0 V r i → ∀ j o, r[j]? = some o → StepKIn R J lr nf P Q l hs a0 w0 V (i + j) o
  | [], _, _, j, o, h => by simp at h
  | x :: r, i, h, 0, o, hj => by simp at hj; subst hj; exact h.1
  | x :: r, i, h, j + 1, o, hj => by
    have := StepsKIn.get r (i + 1) h.2 j o (by simpa using hj)
    rw [show i + (j + 1) = i + 1 + j from by omega]; exact this

section
variable {R : World → World → Prop} {J : (Nat → Bool) → (Nat → Value) → World → Prop} {P : Program} {Q : Exit → Act → World → Prop} {l : List Oper} {n : Nat} {a0 : Act} {w0 : World} {V : Nat → Value → World → Prop}

theorem heads_KIn (hRt : ∀ a b c, R a b → R b c → R a c) (hB : regK l n = true)
    (hmono : ∀ i v w w', V i v w → R w w' → V i v w')
    (hsteps : StepsKIn R J lr nf P Q l (dstsOf (l.take n)) a0 w0 V (l.take n) 0)
    (hend : ∀ (u : Nat → Value) (w : World), R w0 w → J (fun j => decide (j < n)) u w → (∀ j, j < n → Yld l V u w j) → wpListIn (Fence.wide.inRound lr) nf P l.toArray Q (l.drop n) (fillAct a0 (dstsOf (l.take n)) u) w) :
    ∀ (f : Nat) (listed : Array Bool) (u : Nat → Value) (w : World), HeadInv .any l.toArray n listed → (List.range n).countP (fun j => listed.getD j false) + f = n →
      (∀ t, t ∉ dstsOf (l.take n) → u t = a0.tmps.getD t undef) → R w0 w → J (fun j => listed.getD j false) u w → (∀ j, j < n → listed.getD j false = true → Yld l V u w j) →
      wpAnyIn (Fence.wide.inRound lr) nf P .any l.toArray Q (f + (l.length - n)) listed (fillAct a0 (dstsOf (l.take n)) u) w := by
  simp only [regK, Bool.and_eq_true, Bool.or_eq_true, decide_eq_true_eq] at hB
  obtain ⟨⟨⟨⟨hn, hsc⟩, hb⟩, hdist⟩, hseq⟩ := hB
  intro f
  induction f with
  | zero =>
    intro listed u w inv hcnt hu hext hJ hy
    rw [Nat.zero_add]
    have hall := cnt_all (fun j => listed.getD j false) n (by omega)
    have hl : listed = trues l.length n := by
      have hsz : listed.size = l.length := by rw [inv.size]; simp
      refine Array.ext (by rw [hsz]; simp [trues]) fun j h1 h2 => ?_
      simp only [trues, List.getElem_toArray, List.getElem_map, List.getElem_range]
      by_cases hj : j < n
      · have := hall j hj
        simp [h1] at this
        simp [hj, this]
      · have := inv.tail j (by omega) (by simp; omega)
        simp [h1] at this
        simp [hj, this]
    have hJe : (fun j => listed.getD j false) = fun j => decide (j < n) := by
      funext j
      by_cases hj : j < n
      · rw [hall j hj]; simp [hj]
      · have h2 : decide (j < n) = false := decide_eq_false hj
        rw [h2, hl]
        by_cases hjl : j < l.length
        · simp [trues, hjl, hj]
        · simp [trues, hjl]
    rw [hJe] at hJ
    have hw := hend u w hext hJ (fun j hj => hy j hj (hall j hj))
    have := wpAnyIn_of_seq (lr := lr) (nf := nf) (P := P) (md := .any) (ops := l.toArray) (Q' := Q) (l.drop n) n listed (fillAct a0 (dstsOf (l.take n)) u) w (fun j => by simp [List.getElem?_drop])
      (by rw [List.length_drop, hl]; exact hseq) hw
    rwa [List.length_drop] at this
  | succ f ih =>
    intro listed u w inv hcnt hu hext hJ hy
    rw [show f + 1 + (l.length - n) = (f + (l.length - n)) + 1 from by omega]
    obtain ⟨i0, hi0, hun0, hmin⟩ := cnt_lt (fun j => listed.getD j false) n (by omega)
    have hlsz : listed.size = l.length := by rw [inv.size]; simp
    have hun0' : listed.getD i0 true = false := getD_in (by omega) hun0
    have hready : i0 ∈ Region.ready .any l.toArray listed := by
      refine mem_ready.2 ⟨hun0', l[i0]'(by omega), by simp, fun e he hbe => ?_⟩
      have h1 := List.all_eq_true.1 hb (l[i0]'(by omega), i0) (by
        rw [List.mem_zipIdx_iff_getElem?]; simp)
      have h2 := List.all_eq_true.1 h1 e (by simpa using he)
      simp only [hbe, Bool.not_true, Bool.false_or, decide_eq_true_eq] at h2
      exact hmin e.on h2
    refine ⟨fun h => (by rw [h] at hready; cases hready), fun i hi => ?_⟩
    have hin : i < n := by
      rcases Nat.lt_or_ge i n with h | h
      · exact h
      · rcases hsc with hsc | ⟨⟨hlt, hs⟩, hc⟩
        · obtain ⟨_, o, ho, _⟩ := mem_ready.1 hi
          have := (Array.getElem?_eq_some_iff.1 ho).1
          simp at this; omega
        · exact absurd hi (tail_waits hs hc (by simpa using hlt) inv _ i0 rfl hi0 hun0' i h)
    obtain ⟨hui, o, ho, hall⟩ := mem_ready.1 hi
    have ho' : (l.take n)[i]? = some o := by
      rw [List.getElem?_take, if_pos hin]; simpa using ho
    have hol : l[i]? = some o := by simpa using ho
    have hst := hsteps.get _ 0 i o ho'
    rw [Nat.zero_add] at hst
    have hcl : ∀ j oj, l[j]? = some oj → (fun j => listed.getD j false) j = true → ∀ e ∈ oj.after.toList, Region.binds .any e = true → (fun j => listed.getD j false) e.on = true := fun j oj hoj hlj e he hbe =>
      inv.closed j oj (by simpa using hoj) hlj e (by simpa using he) hbe
    have hallR : ∀ e ∈ o.after.toList, Region.binds .any e = true → (fun j => listed.getD j false) e.on = true := fun e he hbe => hall e (by simpa using he) hbe
    have hunf : listed.getD i false = false := getD_both hui
    have hanc : ∀ j, ancK l l.length j i = true → (fun j => listed.getD j false) j = true := fun j hj => ancK_ready hcl _ j i hol hallR hj
    have hdes : ∀ j, ancK l l.length i j = true → (fun j => listed.getD j false) j = false := fun j hj => by
      rcases Bool.eq_false_or_eq_true (listed.getD j false) with hlj | hlj
      · have := ancK_done hcl _ i j hj hlj
        simp only [hunf] at this
        cases this
      · exact hlj
    have hdeps : DepsOk2 l V u w o.after.toList := DepsOk2.of _ fun e he hbe => by
      have hle := hall e (by simpa using he) hbe
      have h1 := List.all_eq_true.1 hb (o, i) (by rw [List.mem_zipIdx_iff_getElem?]; simpa using hol)
      have h2 := List.all_eq_true.1 h1 e he
      simp only [hbe, Bool.not_true, Bool.false_or, decide_eq_true_eq] at h2
      exact hy e.on (by omega) hle
    have hmemd : ∀ d, o.dst = some d → d ∈ dstsOf (l.take n) := fun d hd => by
      refine List.mem_filterMap.2 ⟨o, List.mem_of_getElem? ho', hd⟩
    have hdd : ∀ j d, j < n → (l[j]?).bind (·.dst) = some d → o.dst = some d → j = i := fun j d hj h1 h2 => by
      have hd1 : ((l.take n).map (·.dst))[i]? = some (some d) := by rw [List.getElem?_map, ho']; simp [h2]
      have hd2 : ((l.take n).map (·.dst))[j]? = some (some d) := by
        rw [List.getElem?_map, List.getElem?_take, if_pos hj]
        cases hlj : l[j]? with
        | none => rw [hlj] at h1; cases h1
        | some oj => rw [hlj] at h1; simpa using h1
      exact distB_spec _ hdist j i d hd2 hd1
    have hupd : (fun j => (listed.setIfInBounds i true).getD j false) = upd (fun j => listed.getD j false) i := by
      funext j
      unfold upd
      by_cases e : j = i
      · subst e; rw [if_pos rfl]; simp [show j < listed.size by omega]
      · rw [if_neg e]; exact getD_set_ne false (Ne.symm e)
    have hnext : ∀ a' w', (∃ v, a' = (fillAct a0 (dstsOf (l.take n)) u).put o.dst v ∧ R w w' ∧ J (upd (fun j => listed.getD j false) i) (updv o.dst u v) w' ∧ (o.dst.isSome = true → V i v w')) →
        wpAnyIn (Fence.wide.inRound lr) nf P .any l.toArray Q (f + (l.length - n)) (listed.setIfInBounds i true) a' w' := by
      rintro a' w' ⟨v, rfl, hww, hJ', hv⟩
      have hcnt' : (List.range n).countP (fun j => (listed.setIfInBounds i true).getD j false) + f = n := by
        rw [cnt_set (fun j => listed.getD j false) (fun j => (listed.setIfInBounds i true).getD j false) i (getD_both hui) (by simp [show i < listed.size by omega]) (fun j hj => getD_set_ne false (Ne.symm hj)) n hin]
        omega
      have inv' := inv.set hi hin
      rw [← hupd] at hJ'
      cases hd : o.dst with
      | none =>
        simp only [Act.put]
        rw [hd] at hJ'
        refine ih _ u w' inv' hcnt' hu (hRt _ _ _ hext hww) hJ' fun j hj hlj => ?_
        by_cases e : j = i
        · subst e
          simp only [Yld, hol, Option.bind_some, hd]
        · rw [getD_set_ne false (Ne.symm e)] at hlj
          exact (hy j hj hlj).monoR hmono hww
      | some d =>
        rw [fillAct_put _ _ _ _ _ (hmemd d hd)]
        rw [hd] at hJ'
        refine ih _ _ w' inv' hcnt' (fun t ht => ?_) (hRt _ _ _ hext hww) hJ' fun j hj hlj => ?_
        · rw [if_neg (fun q => ht (by rw [q]; exact hmemd d hd))]; exact hu t ht
        by_cases e : j = i
        · subst e
          simp only [Yld, hol, Option.bind_some, hd, if_true]
          exact hv (by rw [hd]; rfl)
        · rw [getD_set_ne false (Ne.symm e)] at hlj
          exact ((hy j hj hlj).monoR hmono hww).upd (fun q => e (hdd j d hj q hd))
    have hstep := hst _ u w hu hext hJ hanc hdes hunf hdeps _ hnext
    unfold wpOpIn
    simp only [ho]
    split
    · rename_i hw; rw [if_pos hw] at hstep; exact hstep
    · rename_i hw; rw [if_neg hw] at hstep; exact ⟨fun _ _ => trivial, hstep⟩

theorem wpIn_region_hK {id : Nat} (n : Nat) (V : Nat → Value → World → Prop) (hRt : ∀ a b c, R a b → R b c → R a c) (hm : P.follows .mixedOrders = true) (hB : regK l n = true)
    (hmono : ∀ i v w w', V i v w → R w w' → V i v w') (hR0 : R w0 w0.drew) (hJ0 : J (fun _ => false) (fun t => a0.tmps.getD t undef) w0.drew)
    (hsteps : StepsKIn R J lr nf P Q l (dstsOf (l.take n)) a0 w0 V (l.take n) 0)
    (hend : ∀ (u : Nat → Value) (w : World), R w0 w → J (fun j => decide (j < n)) u w → (∀ j, j < n → Yld l V u w j) → wpListIn (Fence.wide.inRound lr) nf P l.toArray Q (l.drop n) (fillAct a0 (dstsOf (l.take n)) u) w) :
    (Code.region id l.toArray true).wpIn (Fence.wide.inRound lr) nf P Q a0 w0 := by
  refine wpIn_region_any hm ?_
  have hu : a0 = fillAct a0 (dstsOf (l.take n)) (fun t => a0.tmps.getD t undef) := by
    refine act_ext (by rw [fillAct_defers]) fun j => ?_
    rw [fillAct_get]
    split
    · rename_i h
      simp [h.2]
    · rfl
  have hn : n ≤ l.length := by
    simp only [regK, Bool.and_eq_true, decide_eq_true_eq] at hB
    exact hB.1.1.1.1
  have inv0 : HeadInv .any l.toArray n (Array.replicate l.toArray.size false) :=
    ⟨by simp, fun j oj _ hl => (by rw [getD_replicate_false] at hl; cases hl), fun t _ ht => getD_in (by simpa using ht) (getD_replicate_false _ _)⟩
  have hJ0' : J (fun j => (Array.replicate l.toArray.size false).getD j false) (fun t => a0.tmps.getD t undef) { w0 with drawn := w0.drawn + 1 } := by
    have : (fun j => (Array.replicate l.toArray.size false).getD j false) = fun _ => false := by
      funext j; exact getD_replicate_false _ _
    rw [this]; exact hJ0
  have := heads_KIn hRt hB hmono hsteps hend n (Array.replicate l.toArray.size false) (fun t => a0.tmps.getD t undef) { w0 with drawn := w0.drawn + 1 } inv0 (by
    have : (List.range n).countP (fun j => (Array.replicate l.toArray.size false).getD j false) = 0 := by
      rw [List.countP_eq_zero]
      intro j _ hq
      rw [getD_replicate_false] at hq
      cases hq
    omega) (fun _ _ => rfl) hR0 hJ0' (fun j _ hl => by rw [getD_replicate_false] at hl; cases hl)
  rw [← hu] at this
  rw [show n + (l.length - n) = l.length from by omega] at this
  simpa using this
end

section
variable {R : World → World → Prop} {J : (Nat → Bool) → (Nat → Value) → World → Prop} {P : Program} {Q : Exit → Act → World → Prop} {l : List Oper} {n : Nat} {a0 : Act} {w0 : World} {Vs : List (Value → World → Prop)}

theorem StepEK.okIn {hs : List Tmp} {i : Nat} {o : Oper} (hdf : notDefer o.op = true) (hRr : ∀ w, R w w) (hsz : ∀ t ∈ hs, t < a0.tmps.size) (hin : ∀ j oj d, l[j]? = some oj → oj.dst = some d → (∃ e ∈ o.after.toList, Region.binds .any e = true ∧ e.on = j) → d ∈ hs)
    (h : StepEK R J P l hs a0 w0 Vs i o) : StepKIn R J lr nf P Q l hs a0 w0 (fun i => Vs.getD i (fun _ _ => True)) i o := by
  intro d u w hu hext hJ hanc hdes hni hdeps K hK
  have hev : ∀ d, d ∈ hs → (fillAct a0 hs u).tmps.getD d undef = u d := fun d hd => by
    rw [Array.getD_eq_getD_getElem?, fillAct_get, if_pos ⟨hd, hsz d hd⟩]; rfl
  have hevu : (fun t => (fillAct a0 hs u).tmps.getD t undef) = u := by
    funext t
    by_cases ht : t ∈ hs
    · exact hev t ht
    · rw [Array.getD_eq_getD_getElem?, fillAct_get, if_neg (fun q => ht q.1), hu t ht, Array.getD_eq_getD_getElem?]
  have hD : ∀ (es : List Edge), (∀ e ∈ es, e ∈ o.after.toList) → DepsOk2 l (fun i => Vs.getD i (fun _ _ => True)) u w es → DepsE2 l Vs (fun t => (fillAct a0 hs u).tmps.getD t undef) w es := by
    intro es
    induction es with
    | nil => intro _ _; trivial
    | cons e r ih =>
      intro hm hd
      refine ⟨?_, ih (fun x hx => hm x (by simp [hx])) hd.2⟩
      have h1 := hd.1
      have key : Region.binds .any e = true → Yld l (fun i => Vs.getD i (fun _ _ => True)) u w e.on → (match (l[e.on]?).bind (·.dst) with | some d => Vs.getD e.on (fun _ _ => True) ((fillAct a0 hs u).tmps.getD d undef) w | none => True) := fun hbe h1 => by
        unfold Yld at h1
        cases hl : (l[e.on]?) with
        | none => simp
        | some oj =>
          simp only [hl, Option.bind_some] at h1 ⊢
          cases hdj : oj.dst with
          | none => simp
          | some d =>
            simp only [hdj] at h1 ⊢
            rw [hev d (hin e.on oj d hl hdj ⟨e, hm e (by simp), hbe, rfl⟩)]
            exact h1
      have hbe : Region.binds .any e = (match e.ground with | .textOnly _ => false | .gcOnly _ => false | _ => true) := by
        unfold Region.binds; cases e.ground <;> rfl
      generalize e.ground = gg at h1 hbe ⊢
      cases gg <;> first | trivial | exact key hbe h1
  have hg := h d (fun t => (fillAct a0 hs u).tmps.getD t undef) w hext (by rw [hevu]; exact hJ) hanc hdes hni (fun t ht => by
    rw [Array.getD_eq_getD_getElem?, fillAct_get, if_neg (fun q => ht q.1), Array.getD_eq_getD_getElem?]) (hD _ (fun _ h => h) hdeps)
  rw [yield_fill]
  have hevK : ∀ v, updv o.dst (fun t => (fillAct a0 hs u).tmps.getD t undef) v = updv o.dst u v := fun v => by rw [hevu]
  split
  · rename_i hw
    rw [if_pos hw] at hg
    exact wpIn_of_goodX (notDefer_spec hdf) (eval_fill a0 hs u) hg fun v w' h1 h2 => by
      cases hd : o.dst with
      | none => exact hK _ _ ⟨v, by rw [hd], h1, by rw [← hevK]; exact h2.2, fun q => by rw [hd] at q; cases q⟩
      | some d => exact hK _ _ ⟨v, by rw [hd], h1, by rw [← hevK]; exact h2.2, fun _ => h2.1⟩
  · rename_i hw
    rw [if_neg hw] at hg
    exact hK _ _ ⟨undef, rfl, hRr _, by rw [← hevK]; exact hg.2, fun _ => hg.1⟩

theorem StepsEK.okIn (hRr : ∀ w, R w w) {hs : List Tmp} (hsz : ∀ t ∈ hs, t < a0.tmps.size) : ∀ (r : List Oper) (i : Nat), (∀ o ∈ r, notDefer o.op = true) → (∀ (j : Nat) (o : Oper), r[j]? = some o → ∀ (k : Nat) (oj : Oper) (d : Tmp), l[k]? = some oj → oj.dst = some d → (∃ e ∈ o.after.toList, Region.binds .any e = true ∧ e.on = k) → d ∈ hs) →
    StepsEK R J P l hs a0 w0 Vs r i → StepsKIn R J lr nf P Q l hs a0 w0 (fun i => Vs.getD i (fun _ _ => True)) r i
  | [], _, _, _, _ => trivial
  | o :: r, i, hdf, hin, h => ⟨StepEK.okIn (hdf o (by simp)) hRr hsz (hin 0 o (by simp)) h.1, StepsEK.okIn hRr hsz r (i + 1) (fun x hx => hdf x (by simp [hx])) (fun j o' hj => hin (j + 1) o' (by simpa using hj)) h.2⟩

/-- THE RULE, BY OPERANDS, WITH AN ASSERTION ON WHAT HAS BEEN CARRIED OUT. -/
theorem wpIn_region_evK {id : Nat} (R : World → World → Prop) (J : (Nat → Bool) → (Nat → Value) → World → Prop) (n : Nat) (hs : List Tmp) (Vs : List (Value → World → Prop)) (hRr : ∀ w, R w w) (hRt : ∀ a b c, R a b → R b c → R a c) (hm : P.follows .mixedOrders = true) (hB : regK l n = true) (hhs : dstsOf (l.take n) = hs) (hsz : sizeB a0 hs = true) (hdf : (l.all fun o => notDefer o.op) = true)
    (hmono : MonoR R Vs) (hR0 : R w0 w0.drew) (hJ0 : J (fun _ => false) (fun t => a0.tmps.getD t undef) w0.drew)
    (hsteps : StepsEK R J P l hs a0 w0 Vs (l.take n) 0)
    (hend : ∀ (u : Nat → Value) (w : World), R w0 w → J (fun j => decide (j < n)) u w → EndE l Vs u w n → wpListIn (Fence.wide.inRound lr) nf P l.toArray Q (l.drop n) (fillAct a0 hs u) w) :
    (Code.region id l.toArray true).wpIn (Fence.wide.inRound lr) nf P Q a0 w0 := by
  subst hhs
  have hback : ∀ (i : Nat) (o : Oper), (l.take n)[i]? = some o → ∀ e ∈ o.after.toList, Region.binds .any e = true → e.on < i := fun i o ho e he hbe => by
    have hB' := hB
    simp only [regK, Bool.and_eq_true, decide_eq_true_eq] at hB'
    obtain ⟨⟨⟨⟨hn, hsc⟩, hb⟩, hdist⟩, hseq⟩ := hB'
    have hin : i < n := by
      have := (List.getElem?_eq_some_iff.1 ho).1
      simp at this; omega
    have hol : l[i]? = some o := by rw [List.getElem?_take, if_pos hin] at ho; exact ho
    have h1 := List.all_eq_true.1 hb (o, i) (by rw [List.mem_zipIdx_iff_getElem?]; simpa using hol)
    have h2 := List.all_eq_true.1 h1 e he
    simp only [hbe, Bool.not_true, Bool.false_or, decide_eq_true_eq] at h2
    exact h2
  refine wpIn_region_hK n (fun i => Vs.getD i (fun _ _ => True)) hRt hm hB (MonoR.get Vs hmono) hR0 hJ0 (StepsEK.okIn hRr (fun t ht => by
      have := List.all_eq_true.1 hsz t ht; simpa using this) _ 0 (fun o ho => List.all_eq_true.1 hdf o (List.mem_of_mem_take ho)) ?_ hsteps) (fun u w h1 h3 h2 => hend u w h1 h3 (EndE.of n h2))
  rintro i o ho k oj d hk hd ⟨e, he, hbe, rfl⟩
  have hlt := hback i o ho e he hbe
  have hin : i < n := by
    have := (List.getElem?_eq_some_iff.1 ho).1
    simp at this; omega
  refine List.mem_filterMap.2 ⟨oj, List.mem_of_getElem? (i := e.on) ?_, hd⟩
  rw [List.getElem?_take, if_pos (by omega)]; exact hk
end
end Go.Proofs.Bl

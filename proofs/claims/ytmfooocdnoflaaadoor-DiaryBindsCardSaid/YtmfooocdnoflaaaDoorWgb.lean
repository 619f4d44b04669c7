/- Texts that stood apart, in one: RangeK, WGro9, WBackT, WGroB. -/
import Derived.Test.YtmfooocdnoflaaaDoorLib0
import Derived.Test.YtmfooocdnoflaaaDoorGwa
import Derived.Test.YtmfooocdnoflaaaDoorRv0
import Derived.Test.YtmfooocdnoflaaaDoorWl0
import Derived.Test.YtmfooocdnoflaaaDoorBA2
/- The rule of XRegK in a round of a range over a function: turned by program from XRegK. No program. -/
namespace Go.Proofs.Bl
open Go Go.RowKit
variable {lr nf : Nat}

theorem wpIn_of_goodX {R : World → World → Prop} {P : Program} {o : Oper} {a : Act} {w : World} {K : Act → World → Prop} {Q : Exit → Act → World → Prop} {φ : Value → World → Prop} {ev : Nat → Value}
    (hd : ∀ c, o.op ≠ .defer c) (he : a.eval = evalE ev) (h : GoodX R P w φ ((execOp (evalE ev) o).run P w)) (hK : ∀ v w', R w w' → φ v w' → K (a.put o.dst v) w') : o.wpIn (Fence.wide.inRound lr) nf P a w K Q := by
  refine ⟨fun f _ => trivial, ?_⟩
  rw [show (Fence.wide.inRound lr).round = some lr from rfl, Oper.semAt_some lr _ _ hd, he]
  generalize (execOp (evalE ev) o).run P w = r at *
  cases r with
  | ok x w' =>
    cases x <;> simp only [GoodX] at h <;> simp only [Oper.uponIn]
    case value v => exact hK _ _ h.1 h.2
    case skip => exact hK _ _ h.1 h.2
    case enter f args =>
      exact ⟨fun q => by simp [Fence.wide] at q, CallsIn.inRound lr (callsIn_wide.2 (h.mono fun e w'' ⟨v, hv, h1, h2⟩ => by subst hv; exact hK _ _ h1 h2))⟩
  | halt x w' => simp only [GoodX] at h

section
variable (R : World → World → Prop) (J : (Nat → Bool) → (Nat → Value) → World → Prop)

def StepKIn (lr nf : Nat) (P : Program) (Q : Exit → Act → World → Prop) (l : List Oper) (hs : List Tmp) (a0 : Act) (w0 : World) (V : Nat → Value → World → Prop) (i : Nat) (o : Oper) : Prop :=
  ∀ (d : Nat → Bool) (u : Nat → Value) (w : World), (∀ t, t ∉ hs → u t = a0.tmps.getD t undef) → R w0 w → J d u w → (∀ j, ancK l l.length j i = true → d j = true) → (∀ j, ancK l l.length i j = true → d j = false) → d i = false → DepsOk2 l V u w o.after.toList → ∀ K : Act → World → Prop,
    (∀ a' w', (∃ v, a' = (fillAct a0 hs u).put o.dst v ∧ R w w' ∧ J (upd d i) (updv o.dst u v) w' ∧ (o.dst.isSome = true → V i v w')) → K a' w') →
    if Region.wanted o (yielded l.toArray (fillAct a0 hs u).tmps) = true then o.wpIn (Fence.wide.inRound lr) nf P (fillAct a0 hs u) w K Q else K ((fillAct a0 hs u).put o.dst undef) w

def StepsKIn (lr nf : Nat) (P : Program) (Q : Exit → Act → World → Prop) (l : List Oper) (hs : List Tmp) (a0 : Act) (w0 : World) (V : Nat → Value → World → Prop) : List Oper → Nat → Prop
  | [], _ => True
  | o :: r, i => StepKIn R J lr nf P Q l hs a0 w0 V i o ∧ StepsKIn lr nf P Q l hs a0 w0 V r (i + 1)
end

theorem StepsKIn.get {R : World → World → Prop} {J : (Nat → Bool) → (Nat → Value) → World → Prop} {P : Program} {Q : Exit → Act → World → Prop} {l : List Oper} {hs : List Tmp} {a0 : Act} {w0 : World} {V : Nat → Value → World → Prop} :
    ∀ (r : List Oper) (i : Nat), StepsKIn R J lr nf P Q l hs a0 w0 V r i → ∀ j o, r[j]? = some o → StepKIn R J lr nf P Q l hs a0 w0 V (i + j) o
  | [], _, _, j, o, h => by simp at h
  | x :: r, i, h, 0, o, hj => by simp at hj; subst hj; exact h.1
  | x :: r, i, h, j + 1, o, hj => by
    have := StepsKIn.get r (i + 1) h.2 j o (by simpa using hj)
    rw [show i + (j + 1) = i + 1 + j from by omega]; exact this

section
variable {R : World → World → Prop} {J : (Nat → Bool) → (Nat → Value) → World → Prop} {P : Program} {Q : Exit → Act → World → Prop} {l : List Oper} {n : Nat} {a0 : Act} {w0 : World} {V : Nat → Value → World → Prop}

theorem heads_KIn (hRt : ∀ a b c, R a b → R b c → R a c) (hB : regK l n = true)
    (hmono : ∀ i v w w', V i v w → R w w' → V i v w')
    (hsteps : StepsKIn R J lr nf P Q l (dstsOf (l.take n)) a0 w0 V (l.take n) 0)
    (hend : ∀ (u : Nat → Value) (w : World), R w0 w → J (fun j => decide (j < n)) u w → (∀ j, j < n → Yld l V u w j) → wpListIn (Fence.wide.inRound lr) nf P l.toArray Q (l.drop n) (fillAct a0 (dstsOf (l.take n)) u) w) :
    ∀ (f : Nat) (listed : Array Bool) (u : Nat → Value) (w : World), HeadInv .any l.toArray n listed → (List.range n).countP (fun j => listed.getD j false) + f = n →
      (∀ t, t ∉ dstsOf (l.take n) → u t = a0.tmps.getD t undef) → R w0 w → J (fun j => listed.getD j false) u w → (∀ j, j < n → listed.getD j false = true → Yld l V u w j) →
      wpAnyIn (Fence.wide.inRound lr) nf P .any l.toArray Q (f + (l.length - n)) listed (fillAct a0 (dstsOf (l.take n)) u) w := by
  simp only [regK, Bool.and_eq_true, Bool.or_eq_true, decide_eq_true_eq] at hB
  obtain ⟨⟨⟨⟨hn, hsc⟩, hb⟩, hdist⟩, hseq⟩ := hB
  intro f
  induction f with
  | zero =>
    intro listed u w inv hcnt hu hext hJ hy
    rw [Nat.zero_add]
    have hall := cnt_all (fun j => listed.getD j false) n (by omega)
    have hl : listed = trues l.length n := by
      have hsz : listed.size = l.length := by rw [inv.size]; simp
      refine Array.ext (by rw [hsz]; simp [trues]) fun j h1 h2 => ?_
      simp only [trues, List.getElem_toArray, List.getElem_map, List.getElem_range]
      by_cases hj : j < n
      · have := hall j hj
        simp [h1] at this
        simp [hj, this]
      · have := inv.tail j (by omega) (by simp; omega)
        simp [h1] at this
        simp [hj, this]
    have hJe : (fun j => listed.getD j false) = fun j => decide (j < n) := by
      funext j
      by_cases hj : j < n
      · rw [hall j hj]; simp [hj]
      · have h2 : decide (j < n) = false := decide_eq_false hj
        rw [h2, hl]
        by_cases hjl : j < l.length
        · simp [trues, hjl, hj]
        · simp [trues, hjl]
    rw [hJe] at hJ
    have hw := hend u w hext hJ (fun j hj => hy j hj (hall j hj))
    have := wpAnyIn_of_seq (lr := lr) (nf := nf) (P := P) (md := .any) (ops := l.toArray) (Q' := Q) (l.drop n) n listed (fillAct a0 (dstsOf (l.take n)) u) w (fun j => by simp [List.getElem?_drop])
      (by rw [List.length_drop, hl]; exact hseq) hw
    rwa [List.length_drop] at this
  | succ f ih =>
    intro listed u w inv hcnt hu hext hJ hy
    rw [show f + 1 + (l.length - n) = (f + (l.length - n)) + 1 from by omega]
    obtain ⟨i0, hi0, hun0, hmin⟩ := cnt_lt (fun j => listed.getD j false) n (by omega)
    have hlsz : listed.size = l.length := by rw [inv.size]; simp
    have hun0' : listed.getD i0 true = false := getD_in (by omega) hun0
    have hready : i0 ∈ Region.ready .any l.toArray listed := by
      refine mem_ready.2 ⟨hun0', l[i0]'(by omega), by simp, fun e he hbe => ?_⟩
      have h1 := List.all_eq_true.1 hb (l[i0]'(by omega), i0) (by
        rw [List.mem_zipIdx_iff_getElem?]; simp)
      have h2 := List.all_eq_true.1 h1 e (by simpa using he)
      simp only [hbe, Bool.not_true, Bool.false_or, decide_eq_true_eq] at h2
      exact hmin e.on h2
    refine ⟨fun h => (by rw [h] at hready; cases hready), fun i hi => ?_⟩
    have hin : i < n := by
      rcases Nat.lt_or_ge i n with h | h
      · exact h
      · rcases hsc with hsc | ⟨⟨hlt, hs⟩, hc⟩
        · obtain ⟨_, o, ho, _⟩ := mem_ready.1 hi
          have := (Array.getElem?_eq_some_iff.1 ho).1
          simp at this; omega
        · exact absurd hi (tail_waits hs hc (by simpa using hlt) inv _ i0 rfl hi0 hun0' i h)
    obtain ⟨hui, o, ho, hall⟩ := mem_ready.1 hi
    have ho' : (l.take n)[i]? = some o := by
      rw [List.getElem?_take, if_pos hin]; simpa using ho
    have hol : l[i]? = some o := by simpa using ho
    have hst := hsteps.get _ 0 i o ho'
    rw [Nat.zero_add] at hst
    have hcl : ∀ j oj, l[j]? = some oj → (fun j => listed.getD j false) j = true → ∀ e ∈ oj.after.toList, Region.binds .any e = true → (fun j => listed.getD j false) e.on = true := fun j oj hoj hlj e he hbe =>
      inv.closed j oj (by simpa using hoj) hlj e (by simpa using he) hbe
    have hallR : ∀ e ∈ o.after.toList, Region.binds .any e = true → (fun j => listed.getD j false) e.on = true := fun e he hbe => hall e (by simpa using he) hbe
    have hunf : listed.getD i false = false := getD_both hui
    have hanc : ∀ j, ancK l l.length j i = true → (fun j => listed.getD j false) j = true := fun j hj => ancK_ready hcl _ j i hol hallR hj
    have hdes : ∀ j, ancK l l.length i j = true → (fun j => listed.getD j false) j = false := fun j hj => by
      rcases Bool.eq_false_or_eq_true (listed.getD j false) with hlj | hlj
      · have := ancK_done hcl _ i j hj hlj
        simp only [hunf] at this
        cases this
      · exact hlj
    have hdeps : DepsOk2 l V u w o.after.toList := DepsOk2.of _ fun e he hbe => by
      have hle := hall e (by simpa using he) hbe
      have h1 := List.all_eq_true.1 hb (o, i) (by rw [List.mem_zipIdx_iff_getElem?]; simpa using hol)
      have h2 := List.all_eq_true.1 h1 e he
      simp only [hbe, Bool.not_true, Bool.false_or, decide_eq_true_eq] at h2
      exact hy e.on (by omega) hle
    have hmemd : ∀ d, o.dst = some d → d ∈ dstsOf (l.take n) := fun d hd => by
      refine List.mem_filterMap.2 ⟨o, List.mem_of_getElem? ho', hd⟩
    have hdd : ∀ j d, j < n → (l[j]?).bind (·.dst) = some d → o.dst = some d → j = i := fun j d hj h1 h2 => by
      have hd1 : ((l.take n).map (·.dst))[i]? = some (some d) := by rw [List.getElem?_map, ho']; simp [h2]
      have hd2 : ((l.take n).map (·.dst))[j]? = some (some d) := by
        rw [List.getElem?_map, List.getElem?_take, if_pos hj]
        cases hlj : l[j]? with
        | none => rw [hlj] at h1; cases h1
        | some oj => rw [hlj] at h1; simpa using h1
      exact distB_spec _ hdist j i d hd2 hd1
    have hupd : (fun j => (listed.setIfInBounds i true).getD j false) = upd (fun j => listed.getD j false) i := by
      funext j
      unfold upd
      by_cases e : j = i
      · subst e; rw [if_pos rfl]; simp [show j < listed.size by omega]
      · rw [if_neg e]; exact getD_set_ne false (Ne.symm e)
    have hnext : ∀ a' w', (∃ v, a' = (fillAct a0 (dstsOf (l.take n)) u).put o.dst v ∧ R w w' ∧ J (upd (fun j => listed.getD j false) i) (updv o.dst u v) w' ∧ (o.dst.isSome = true → V i v w')) →
        wpAnyIn (Fence.wide.inRound lr) nf P .any l.toArray Q (f + (l.length - n)) (listed.setIfInBounds i true) a' w' := by
      rintro a' w' ⟨v, rfl, hww, hJ', hv⟩
      have hcnt' : (List.range n).countP (fun j => (listed.setIfInBounds i true).getD j false) + f = n := by
        rw [cnt_set (fun j => listed.getD j false) (fun j => (listed.setIfInBounds i true).getD j false) i (getD_both hui) (by simp [show i < listed.size by omega]) (fun j hj => getD_set_ne false (Ne.symm hj)) n hin]
        omega
      have inv' := inv.set hi hin
      rw [← hupd] at hJ'
      cases hd : o.dst with
      | none =>
        simp only [Act.put]
        rw [hd] at hJ'
        refine ih _ u w' inv' hcnt' hu (hRt _ _ _ hext hww) hJ' fun j hj hlj => ?_
        by_cases e : j = i
        · subst e
          simp only [Yld, hol, Option.bind_some, hd]
        · rw [getD_set_ne false (Ne.symm e)] at hlj
          exact (hy j hj hlj).monoR hmono hww
      | some d =>
        rw [fillAct_put _ _ _ _ _ (hmemd d hd)]
        rw [hd] at hJ'
        refine ih _ _ w' inv' hcnt' (fun t ht => ?_) (hRt _ _ _ hext hww) hJ' fun j hj hlj => ?_
        · rw [if_neg (fun q => ht (by rw [q]; exact hmemd d hd))]; exact hu t ht
        by_cases e : j = i
        · subst e
          simp only [Yld, hol, Option.bind_some, hd, if_true]
          exact hv (by rw [hd]; rfl)
        · rw [getD_set_ne false (Ne.symm e)] at hlj
          exact ((hy j hj hlj).monoR hmono hww).upd (fun q => e (hdd j d hj q hd))
    have hstep := hst _ u w hu hext hJ hanc hdes hunf hdeps _ hnext
    unfold wpOpIn
    simp only [ho]
    split
    · rename_i hw; rw [if_pos hw] at hstep; exact hstep
    · rename_i hw; rw [if_neg hw] at hstep; exact ⟨fun _ _ => trivial, hstep⟩

theorem wpIn_region_hK {id : Nat} (n : Nat) (V : Nat → Value → World → Prop) (hRt : ∀ a b c, R a b → R b c → R a c) (hm : P.follows .mixedOrders = true) (hB : regK l n = true)
    (hmono : ∀ i v w w', V i v w → R w w' → V i v w') (hR0 : R w0 w0.drew) (hJ0 : J (fun _ => false) (fun t => a0.tmps.getD t undef) w0.drew)
    (hsteps : StepsKIn R J lr nf P Q l (dstsOf (l.take n)) a0 w0 V (l.take n) 0)
    (hend : ∀ (u : Nat → Value) (w : World), R w0 w → J (fun j => decide (j < n)) u w → (∀ j, j < n → Yld l V u w j) → wpListIn (Fence.wide.inRound lr) nf P l.toArray Q (l.drop n) (fillAct a0 (dstsOf (l.take n)) u) w) :
    (Code.region id l.toArray true).wpIn (Fence.wide.inRound lr) nf P Q a0 w0 := by
  refine wpIn_region_any hm ?_
  have hu : a0 = fillAct a0 (dstsOf (l.take n)) (fun t => a0.tmps.getD t undef) := by
    refine act_ext (by rw [fillAct_defers]) fun j => ?_
    rw [fillAct_get]
    split
    · rename_i h
      simp [h.2]
    · rfl
  have hn : n ≤ l.length := by
    simp only [regK, Bool.and_eq_true, decide_eq_true_eq] at hB
    exact hB.1.1.1.1
  have inv0 : HeadInv .any l.toArray n (Array.replicate l.toArray.size false) :=
    ⟨by simp, fun j oj _ hl => (by rw [getD_replicate_false] at hl; cases hl), fun t _ ht => getD_in (by simpa using ht) (getD_replicate_false _ _)⟩
  have hJ0' : J (fun j => (Array.replicate l.toArray.size false).getD j false) (fun t => a0.tmps.getD t undef) { w0 with drawn := w0.drawn + 1 } := by
    have : (fun j => (Array.replicate l.toArray.size false).getD j false) = fun _ => false := by
      funext j; exact getD_replicate_false _ _
    rw [this]; exact hJ0
  have := heads_KIn hRt hB hmono hsteps hend n (Array.replicate l.toArray.size false) (fun t => a0.tmps.getD t undef) { w0 with drawn := w0.drawn + 1 } inv0 (by
    have : (List.range n).countP (fun j => (Array.replicate l.toArray.size false).getD j false) = 0 := by
      rw [List.countP_eq_zero]
      intro j _ hq
      rw [getD_replicate_false] at hq
      cases hq
    omega) (fun _ _ => rfl) hR0 hJ0' (fun j _ hl => by rw [getD_replicate_false] at hl; cases hl)
  rw [← hu] at this
  rw [show n + (l.length - n) = l.length from by omega] at this
  simpa using this
end

section
variable {R : World → World → Prop} {J : (Nat → Bool) → (Nat → Value) → World → Prop} {P : Program} {Q : Exit → Act → World → Prop} {l : List Oper} {n : Nat} {a0 : Act} {w0 : World} {Vs : List (Value → World → Prop)}

theorem StepEK.okIn {hs : List Tmp} {i : Nat} {o : Oper} (hdf : notDefer o.op = true) (hRr : ∀ w, R w w) (hsz : ∀ t ∈ hs, t < a0.tmps.size) (hin : ∀ j oj d, l[j]? = some oj → oj.dst = some d → (∃ e ∈ o.after.toList, Region.binds .any e = true ∧ e.on = j) → d ∈ hs)
    (h : StepEK R J P l hs a0 w0 Vs i o) : StepKIn R J lr nf P Q l hs a0 w0 (fun i => Vs.getD i (fun _ _ => True)) i o := by
  intro d u w hu hext hJ hanc hdes hni hdeps K hK
  have hev : ∀ d, d ∈ hs → (fillAct a0 hs u).tmps.getD d undef = u d := fun d hd => by
    rw [Array.getD_eq_getD_getElem?, fillAct_get, if_pos ⟨hd, hsz d hd⟩]; rfl
  have hevu : (fun t => (fillAct a0 hs u).tmps.getD t undef) = u := by
    funext t
    by_cases ht : t ∈ hs
    · exact hev t ht
    · rw [Array.getD_eq_getD_getElem?, fillAct_get, if_neg (fun q => ht q.1), hu t ht, Array.getD_eq_getD_getElem?]
  have hD : ∀ (es : List Edge), (∀ e ∈ es, e ∈ o.after.toList) → DepsOk2 l (fun i => Vs.getD i (fun _ _ => True)) u w es → DepsE2 l Vs (fun t => (fillAct a0 hs u).tmps.getD t undef) w es := by
    intro es
    induction es with
    | nil => intro _ _; trivial
    | cons e r ih =>
      intro hm hd
      refine ⟨?_, ih (fun x hx => hm x (by simp [hx])) hd.2⟩
      have h1 := hd.1
      have key : Region.binds .any e = true → Yld l (fun i => Vs.getD i (fun _ _ => True)) u w e.on → (match (l[e.on]?).bind (·.dst) with | some d => Vs.getD e.on (fun _ _ => True) ((fillAct a0 hs u).tmps.getD d undef) w | none => True) := fun hbe h1 => by
        unfold Yld at h1
        cases hl : (l[e.on]?) with
        | none => simp
        | some oj =>
          simp only [hl, Option.bind_some] at h1 ⊢
          cases hdj : oj.dst with
          | none => simp
          | some d =>
            simp only [hdj] at h1 ⊢
            rw [hev d (hin e.on oj d hl hdj ⟨e, hm e (by simp), hbe, rfl⟩)]
            exact h1
      have hbe : Region.binds .any e = (match e.ground with | .textOnly _ => false | .gcOnly _ => false | _ => true) := by
        unfold Region.binds; cases e.ground <;> rfl
      generalize e.ground = gg at h1 hbe ⊢
      cases gg <;> first | trivial | exact key hbe h1
  have hg := h d (fun t => (fillAct a0 hs u).tmps.getD t undef) w hext (by rw [hevu]; exact hJ) hanc hdes hni (fun t ht => by
    rw [Array.getD_eq_getD_getElem?, fillAct_get, if_neg (fun q => ht q.1), Array.getD_eq_getD_getElem?]) (hD _ (fun _ h => h) hdeps)
  rw [yield_fill]
  have hevK : ∀ v, updv o.dst (fun t => (fillAct a0 hs u).tmps.getD t undef) v = updv o.dst u v := fun v => by rw [hevu]
  split
  · rename_i hw
    rw [if_pos hw] at hg
    exact wpIn_of_goodX (notDefer_spec hdf) (eval_fill a0 hs u) hg fun v w' h1 h2 => by
      cases hd : o.dst with
      | none => exact hK _ _ ⟨v, by rw [hd], h1, by rw [← hevK]; exact h2.2, fun q => by rw [hd] at q; cases q⟩
      | some d => exact hK _ _ ⟨v, by rw [hd], h1, by rw [← hevK]; exact h2.2, fun _ => h2.1⟩
  · rename_i hw
    rw [if_neg hw] at hg
    exact hK _ _ ⟨undef, rfl, hRr _, by rw [← hevK]; exact hg.2, fun _ => hg.1⟩

theorem StepsEK.okIn (hRr : ∀ w, R w w) {hs : List Tmp} (hsz : ∀ t ∈ hs, t < a0.tmps.size) : ∀ (r : List Oper) (i : Nat), (∀ o ∈ r, notDefer o.op = true) → (∀ (j : Nat) (o : Oper), r[j]? = some o → ∀ (k : Nat) (oj : Oper) (d : Tmp), l[k]? = some oj → oj.dst = some d → (∃ e ∈ o.after.toList, Region.binds .any e = true ∧ e.on = k) → d ∈ hs) →
    StepsEK R J P l hs a0 w0 Vs r i → StepsKIn R J lr nf P Q l hs a0 w0 (fun i => Vs.getD i (fun _ _ => True)) r i
  | [], _, _, _, _ => trivial
  | o :: r, i, hdf, hin, h => ⟨StepEK.okIn (hdf o (by simp)) hRr hsz (hin 0 o (by simp)) h.1, StepsEK.okIn hRr hsz r (i + 1) (fun x hx => hdf x (by simp [hx])) (fun j o' hj => hin (j + 1) o' (by simpa using hj)) h.2⟩

/-- THE RULE, BY OPERANDS, WITH AN ASSERTION ON WHAT HAS BEEN CARRIED OUT. -/
theorem wpIn_region_evK {id : Nat} (R : World → World → Prop) (J : (Nat → Bool) → (Nat → Value) → World → Prop) (n : Nat) (hs : List Tmp) (Vs : List (Value → World → Prop)) (hRr : ∀ w, R w w) (hRt : ∀ a b c, R a b → R b c → R a c) (hm : P.follows .mixedOrders = true) (hB : regK l n = true) (hhs : dstsOf (l.take n) = hs) (hsz : sizeB a0 hs = true) (hdf : (l.all fun o => notDefer o.op) = true)
    (hmono : MonoR R Vs) (hR0 : R w0 w0.drew) (hJ0 : J (fun _ => false) (fun t => a0.tmps.getD t undef) w0.drew)
    (hsteps : StepsEK R J P l hs a0 w0 Vs (l.take n) 0)
    (hend : ∀ (u : Nat → Value) (w : World), R w0 w → J (fun j => decide (j < n)) u w → EndE l Vs u w n → wpListIn (Fence.wide.inRound lr) nf P l.toArray Q (l.drop n) (fillAct a0 hs u) w) :
    (Code.region id l.toArray true).wpIn (Fence.wide.inRound lr) nf P Q a0 w0 := by
  subst hhs
  have hback : ∀ (i : Nat) (o : Oper), (l.take n)[i]? = some o → ∀ e ∈ o.after.toList, Region.binds .any e = true → e.on < i := fun i o ho e he hbe => by
    have hB' := hB
    simp only [regK, Bool.and_eq_true, decide_eq_true_eq] at hB'
    obtain ⟨⟨⟨⟨hn, hsc⟩, hb⟩, hdist⟩, hseq⟩ := hB'
    have hin : i < n := by
      have := (List.getElem?_eq_some_iff.1 ho).1
      simp at this; omega
    have hol : l[i]? = some o := by rw [List.getElem?_take, if_pos hin] at ho; exact ho
    have h1 := List.all_eq_true.1 hb (o, i) (by rw [List.mem_zipIdx_iff_getElem?]; simpa using hol)
    have h2 := List.all_eq_true.1 h1 e he
    simp only [hbe, Bool.not_true, Bool.false_or, decide_eq_true_eq] at h2
    exact h2
  refine wpIn_region_hK n (fun i => Vs.getD i (fun _ _ => True)) hRt hm hB (MonoR.get Vs hmono) hR0 hJ0 (StepsEK.okIn hRr (fun t ht => by
      have := List.all_eq_true.1 hsz t ht; simpa using this) _ 0 (fun o ho => List.all_eq_true.1 hdf o (List.mem_of_mem_take ho)) ?_ hsteps) (fun u w h1 h3 h2 => hend u w h1 h3 (EndE.of n h2))
  rintro i o ho k oj d hk hd ⟨e, he, hbe, rfl⟩
  have hlt := hback i o ho e he hbe
  have hin : i < n := by
    have := (List.getElem?_eq_some_iff.1 ho).1
    simp at this; omega
  refine List.mem_filterMap.2 ⟨oj, List.mem_of_getElem? (i := e.on) ?_, hd⟩
  rw [List.getElem?_take, if_pos (by omega)]; exact hk
end
end Go.Proofs.Bl

/- Walk of growth.Prove. -/
namespace Go.Proofs.Bl
open Go Go.RowKit
theorem cutL_all (ds : List (List Int)) (n : Nat) (h : ds.length = n) : cutL ds 0 (0 + n) = ds := by
  unfold cutL
  rw [List.drop_zero, List.take_of_length_le (by omega)]
/-- the digests that a step tells -/
def toldD (ds : List (List Int)) (s : Bool × Nat × Nat) : List Int := overD (cutL ds s.2.1 s.2.2)
theorem cutL_len (ds : List (List Int)) (a b : Nat) (h1 : a ≤ b) (h2 : b ≤ ds.length) : (cutL ds a b).length = b - a := by
  unfold cutL; rw [List.length_take, List.length_drop]; omega
theorem cutL_dig {ds : List (List Int)} (h : Dig ds) (a b : Nat) : Dig (cutL ds a b) := (h.drop a).take _
theorem atOf_succ (T : List (Bool × Nat × Nat)) (k : Nat) (h : k < T.length) : atOf 0 (T.take (k + 1)) = if (T.getD k default).1 = true then (T.getD k default).2.2 else atOf 0 (T.take k) := by
  unfold atOf
  rw [List.take_succ_eq_append_getElem h, List.foldl_append, List.getD_eq_getElem?_getD, List.getElem?_eq_getElem h]
  rfl
theorem map_take_succ {α β : Type} (f : α → β) (T : List α) (k : Nat) (d : α) (h : k < T.length) : (T.take (k + 1)).map f = (T.take k).map f ++ [f (T.getD k d)] := by
  rw [List.take_succ_eq_append_getElem h, List.map_append, List.getD_eq_getElem?_getD, List.getElem?_eq_getElem h]; rfl
theorem RdD.cut {w : World} {b o n c : Nat} {ds : List (List Int)} (h : RdD w (.slice (some ⟨b, o, none⟩) n c) ds) (hd : Dig ds) (x y : Nat) (hx : x < y) (hy : y ≤ ds.length) : RdD w (.slice (some ⟨b, o + x * 32, none⟩) (y - x) (c - x)) (cutL ds x y) := by
  have h1 := RdD.drop h hd x (by omega)
  exact RdD.take h1 (hd.drop x) (y - x) (by rw [List.length_drop]; omega)
end Go.Proofs.Bl
namespace Go.Proofs.YtmfooocdnoflaaaDoor
open Go.RowKit Go.Proofs

/-- the cells of a step that was loaded into a variable of its own -/
theorem step_box (w : World) (x : Bool) (n i : Nat) :
    (Instr.storeAt 87 (.pointer (some ⟨w.heap.size, 0, none⟩)) (.agg #[.bool x, .int .i64 n, .int .i64 i])).run Tryd.prog (w.alloc (.cells #[.bool false, .int .i64 0, .int .i64 0] 87)) = .ok () ((w.alloc (.cells #[.bool false, .int .i64 0, .int .i64 0] 87)).setCells w.heap.size 0 [.bool x, .int .i64 n, .int .i64 i]) ∧
    ((w.alloc (.cells #[.bool false, .int .i64 0, .int .i64 0] 87)).setCells w.heap.size 0 [.bool x, .int .i64 n, .int .i64 i]).cell? ⟨w.heap.size, 0, none⟩ = some (.bool x) ∧
    ((w.alloc (.cells #[.bool false, .int .i64 0, .int .i64 0] 87)).setCells w.heap.size 0 [.bool x, .int .i64 n, .int .i64 i]).cell? ⟨w.heap.size, 1, none⟩ = some (.int .i64 n) ∧
    ((w.alloc (.cells #[.bool false, .int .i64 0, .int .i64 0] 87)).setCells w.heap.size 0 [.bool x, .int .i64 n, .int .i64 i]).cell? ⟨w.heap.size, 2, none⟩ = some (.int .i64 i) ∧
    Bl.Ext w ((w.alloc (.cells #[.bool false, .int .i64 0, .int .i64 0] 87)).setCells w.heap.size 0 [.bool x, .int .i64 n, .int .i64 i]) := by
  have ht := Bl.there_new w #[.bool false, .int .i64 0, .int .i64 0] 87 3 rfl
  have hs := run_storeAt_mid (P := Tryd.prog) (w.alloc (.cells #[.bool false, .int .i64 0, .int .i64 0] 87)) w.heap.size 0 87 #[.bool x, .int .i64 n, .int .i64 i] (by simpa using ht) (by kernel_rfl) (all_oneCell_toArray (cs := [.bool x, .int .i64 n, .int .i64 i]) (by intro c hc; simp only [List.mem_cons, List.not_mem_nil, or_false] at hc; rcases hc with rfl | rfl | rfl <;> rfl))
  have hr := World.rangeAt_setCells_same (w.alloc (.cells #[.bool false, .int .i64 0, .int .i64 0] 87)) w.heap.size 0 [.bool x, .int .i64 n, .int .i64 i] ht
  exact ⟨hs, hr 0 _ rfl, hr 1 _ rfl, hr 2 _ rfl, Bl.below_setCells _ _ _ _ (Bl.ext_alloc _ _) (Nat.le_refl _)⟩

/-- slices.Reverse of a row of digests of one's own, of whatever length -/
theorem revOwn_any (w : World) (B : Nat) (p : Option Addr) (k c : Nat) (acc : List (List Int)) (hk : acc.length = k) (hd : Bl.Dig acc) (ho : w.ownsRow B 39 32 (.slice p k c) k (Bl.cellsD acc)) (hl : k ≤ 1000000) :
    Calls Tryd.prog 39 #[.slice p k c] w fun e w' => e = .returned (.tuple #[]) ∧ Bl.RdD w' (.slice p k c) acc.reverse ∧ Below B w w' := by
  by_cases h0 : k = 0
  · subst h0
    have hn : acc = [] := List.length_eq_zero_iff.1 hk
    subst hn
    refine (revD_nil p c w).mono fun e w' ⟨h1, h2⟩ => ⟨h1, ?_, by subst h2; exact Below.refl _ _⟩
    subst h2
    exact Bl.Rds.of_owns ho
  · obtain ⟨g, hpo⟩ : ∃ g, p = some ⟨g, 0, none⟩ := by
      rcases ho.2 with ⟨hv, _⟩ | ⟨g, cap, cur, hv, _⟩
      · injection hv with _ hv; omega
      · injection hv with hv; exact ⟨g, hv⟩
    subst hpo
    obtain ⟨_, _, hvf, hvn, hvc⟩ := (Bl.Rds.of_owns ho).form
    injection hvf with hf1 hf2 hvf
    subst hvf
    refine (revD_any g c k acc w hk.symm (Bl.HD.of_owns (by rw [← hk] at ho; exact ho) hd) (by omega) hvn hvc).mono fun e w' ⟨h1, h2, h3⟩ => ⟨h1, ?_, h3.mono (ho.lt g rfl).1⟩
    have h := h2.rds (c := c) (fun d hd' => hd d (List.mem_reverse.1 hd')) (by rw [List.length_reverse, hk]; exact hvn) hvc
    rw [List.length_reverse, hk] at h
    exact h

set_option maxRecDepth 100000 in
set_option maxHeartbeats 2000000 in
theorem gprove_any (v : Value) (ds : List (List Int)) (m : Nat) (w : World) (hR : Bl.RdD w v ds) (hd : Bl.Dig ds) (hm : 1 ≤ m) (hmn : m ≤ ds.length) (hn : ds.length ≤ 512) (hg : Glob w) :
    Calls Tryd.prog 21 #[v, .int .i64 m] w fun e w' => ∃ v', e = .returned (.tuple #[v', .nilIface]) ∧ Bl.RdD w' v' (Bl.proveD ds m true) ∧ Bl.Ext w w' := by
  obtain ⟨b, o, c, rfl, hnc, hcm, hbl, hrg⟩ := Bl.RdD.pos hR hd (by omega)
  have HS := Bl.hid (fun w1 => gsteps_any m ds.length w1 hm hmn hn)
  have HPs := Bl.hid (Bl.prG_steps Bl.ndD Bl.zD ds ds.length m 0 true hm hmn (by omega) (by omega))
  rw [Bl.cutL_all ds ds.length rfl] at HPs
  have hin := Bl.steps_in ds.length m 0 true hm hmn (by omega)
  have HAt := Bl.hid (Bl.steps_at ds.length m 0 true hm hmn (by omega))
  have hTl := Bl.steps_len_le ds.length m 0 true hm hmn (by omega)
  obtain ⟨T, hT⟩ : ∃ T, T = (Bl.stepsL m ds.length 0 true).1 := ⟨_, rfl⟩
  obtain ⟨WH, hWH⟩ : ∃ WH, WH = (Bl.stepsL m ds.length 0 true).2.1 := ⟨_, rfl⟩
  obtain ⟨AT, hAT⟩ : ∃ AT, AT = (Bl.stepsL m ds.length 0 true).2.2 := ⟨_, rfl⟩
  rw [← hT, ← hWH] at HS
  rw [← hT, ← hWH, ← hAT] at HPs
  rw [← hT, ← hAT] at hin HAt
  rw [← hT] at hTl
  have Hin := Bl.hid hin
  have hth := Bl.hid (Bl.thereG_mk (m := (m : Int)) (n := (ds.length : Int)) (by omega) (by omega) (by omega))
  have HR := Bl.hid hR
  have Hd := Bl.hid hd
  have Hg := Bl.hid hg
  obtain ⟨PD, hPD⟩ : ∃ PD, PD = Bl.proveD ds m true := ⟨_, rfl⟩
  have HPD : Hid (PD = (T.map (Bl.toldD ds) ++ (if WH = true then [] else [Bl.overD (Bl.cutL ds AT m)])).reverse) := Bl.hid (by
    have h := HPs.out
    rw [Nat.zero_add] at h
    rw [hPD]; exact h)
  rw [← hPD]
  obtain ⟨n, hnn⟩ : ∃ n, n = ds.length := ⟨_, rfl⟩
  rw [← hnn] at HS hth hn hmn hnc hTl ⊢
  have Hn := Bl.hid hnn
  have Hm1 := Bl.hid hm
  unfold maxLen at hcm
  obtain ⟨tn, htn⟩ : ∃ tn, tn = T.length := ⟨_, rfl⟩
  rw [← htn] at HS hTl
  have Htn := Bl.hid htn
  have hT512 : tn ≤ 512 := by omega
  have HATm : Hid (AT < m) := Bl.hid (by have := Hin.out.2.2; omega)
  clear hR hd hrg HPs hT hWH hAT hin hPD hnn htn hg hm
  go_enter Tryd.func21, Tryd.ntmps21
  go_wp2_with fail
  refine (counted_any _ _ _).mono ?_
  rintro e w1 ⟨rfl, hw⟩
  subst hw
  rw [hth.out]
  go_wp2_with fail
  refine (HS.out w).mono ?_
  rintro e w2 ⟨pt, ct, rfl, hown2, hE2⟩
  have HL2 : Hid (Bl.RdD w2 (.slice (some ⟨b, o, none⟩) n c) ds) := Bl.hid (by have h := HR.out; rw [← Hn.out] at h; exact Bl.Rds.ext h hE2)
  have HT2 : Hid (Bl.Rds w2 (.slice pt tn ct) tn (Bl.cellsT T)) := Bl.hid (Bl.Rds.of_owns hown2)
  have HE2 := Bl.hid hE2
  clear hown2 hE2 HR HS
  go_wp2_with fail
  go_loopw [8, 9, 27] (fun out atv x wr => ∃ (k q ko co : Nat) (po : Option Addr) (acc : List (List Int)), k ≤ tn ∧ x = .int .i64 k ∧ atv = .int .i64 q ∧ out = .slice po ko co ∧ ko ≤ tn ∧ q ≤ 512 ∧ Hid (acc.length = ko ∧ ko = k ∧ acc = (T.take k).map (Bl.toldD ds) ∧ q = Bl.atOf 0 (T.take k) ∧ Bl.Dig acc ∧ wr.ownsRow w2.heap.size 39 32 (.slice po ko co) ko (Bl.cellsD acc)) ∧ Bl.Ext w2 wr) (fun _ _ x _ => tn - (intOf x).toNat)
  case atStart => exact ⟨0, 0, 0, 0, none, [], Nat.zero_le _, rfl, rfl, rfl, Nat.zero_le _, Nat.zero_le _, Bl.hid ⟨rfl, rfl, rfl, rfl, Bl.Dig.nil, World.ownsRow_nil _ _ _ _⟩, Below.refl _ _⟩
  case round =>
    obtain ⟨k, q, ko, co, po, acc, hk, rfl, rfl, rfl, hko, hq, HA, hE⟩ := hrel
    have HE := Bl.hid hE
    clear hE
    by_cases hlt : k < tn
    · have hkT : k < T.length := by rw [← Htn.out]; exact hlt
      obtain ⟨bt, ot, cct, hpe, hcn, hcm2, hblt, hrgt⟩ := Bl.RdT.pos (by have h := HT2.out; rw [Htn.out] at h; exact Bl.Rds.ext h HE.out) (by omega)
      injection hpe with hpe1 hpe2 hpe3
      subst hpe1
      have hsin := Hin.out.1 (T.getD k default) (by rw [List.getD_eq_getElem?_getD, List.getElem?_eq_getElem hkT]; exact List.getElem_mem hkT)
      have Has := Bl.hid (Bl.atOf_succ T k hkT)
      have Hms := Bl.hid (Bl.map_take_succ (Bl.toldD ds) T k default hkT)
      obtain ⟨⟨x, f, t⟩, hs⟩ : ∃ s, T.getD k default = s := ⟨_, rfl⟩
      rw [hs] at hsin
      have hld := run_loadAt_mid (P := Tryd.prog) wr bt (ot + k * 3) 87 _ _ (Bl.turn_at hrgt hkT hs) Tryd.underlying87 rfl (by kernel_rfl)
      rw [hs] at Has Hms
      have Hld := Bl.hid hld
      obtain ⟨_, hs2, hs3⟩ := hsin
      dsimp only at hs2 hs3
      have hs4 : t ≤ n := by rw [Nat.zero_add, ← Hn.out] at hs3; exact hs3
      have hk0 : (0 : Int) ≤ (k : Int) := by omega
      have hk1 : (k : Int) < (tn : Int) := by omega
      clear hpe2 hpe3 hcn hcm2 hblt hrgt hs hld hkT hs3
      go_wp2_with (with_reducible refine Bl.stop_load (ty := 87) ?_)
      refine Bl.go_on ?_
      refine Bl.wpL_load rfl Hld.out ?_
      obtain ⟨hst, hc0, hc1, hc2, hEb⟩ := step_box wr x f t
      have Hst := Bl.hid hst
      have HEb := Bl.hid hEb
      have HXl : Hid (wr.heap.size < ((wr.alloc (.cells #[.bool false, .int .i64 0, .int .i64 0] 87)).setCells wr.heap.size 0 [.bool x, .int .i64 f, .int .i64 t]).heap.size) := Bl.hid (World.block_lt_of_cell? _ _ hc0)
      clear hst hEb Hld
      go_wp2_with (with_reducible refine Bl.stop_store (ty := 87) ?_)
      refine Bl.go_on ?_
      refine Bl.wpL_store0 rfl rfl Hst.out ?_
      clear Hst
      obtain ⟨W6, hW6⟩ : ∃ W6, W6 = (wr.alloc (.cells #[.bool false, .int .i64 0, .int .i64 0] 87)).setCells wr.heap.size 0 [.bool x, .int .i64 f, .int .i64 t] := ⟨_, rfl⟩
      obtain ⟨X, hX⟩ : ∃ X, X = wr.heap.size := ⟨_, rfl⟩
      rw [← hW6] at hc0 hc1 hc2 HEb HXl ⊢
      rw [← hX] at hc0 hc1 hc2 HXl ⊢
      have HX := Bl.hid hX
      clear hW6 hX
      have HE6 := Bl.hid (HE.out.trans HEb.out)
      have hx1 : (0 : Int) ≤ (f : Int) := by omega
      have hx2 : (f : Int) ≤ (t : Int) := by omega
      have hx3 : (t : Int) ≤ (c : Int) := by omega
      have hx4 : ¬ (f = c) := by omega
      have hx5 : (t : Int) ≤ (n : Int) := by omega
      have hx6 : (f : Int) ≤ (c : Int) := by omega
      have Hcut := Bl.hid (Bl.RdD.cut (by have h := HL2.out; exact Bl.Rds.ext h HE6.out) Hd.out f t hs2 (by rw [← Hn.out]; exact hs4))
      have hcl := Bl.cutL_len ds f t (Nat.le_of_lt hs2) (by rw [← Hn.out]; exact hs4)
      have Hov := Bl.hid (over_any _ (Bl.cutL ds f t) W6 (by omega) (Bl.cutL_dig Hd.out f t) Hcut.out (Hg.out.ext (HE2.out.trans HE6.out)))
      have Hol := Bl.hid (Bl.overD_dig _ (Bl.cutL ds f t) rfl (Bl.cutL_dig Hd.out f t) (by omega))
      obtain ⟨d, hdd⟩ : ∃ d, d = Bl.overD (Bl.cutL ds f t) := ⟨_, rfl⟩
      rw [← hdd] at Hov Hol
      have Hdd := Bl.hid hdd
      have HC0 := Bl.hid hc0
      have HC2 := Bl.hid hc2
      clear hdd Hcut hcl
      go_wp2_with fail
      refine Hov.out.mono ?_
      rintro e w7 ⟨rfl, hE7⟩
      obtain ⟨A1, A2, A3, A4, A5, A6⟩ := HA.out
      have Hown2 := Bl.hid (Bl.owns_ext (Bl.owns_ext (Bl.owns_ext A6 HEb.out) hE7) (Bl.ext_alloc w7 (.cells (Bl.ints .u8 d).toArray 39)))
      have Hnew := Bl.hid (Bl.rds_dig w7 39 d Hol.out.1)
      have HE78 : Hid (Bl.Ext W6 (w7.alloc (.cells (Bl.ints .u8 d).toArray 39))) := Bl.hid (hE7.trans (Bl.ext_alloc _ _))
      have HE8 : Hid (Bl.Ext w2 (w7.alloc (.cells (Bl.ints .u8 d).toArray 39))) := Bl.hid (HE6.out.trans HE78.out)
      have HNo : Hid (∀ g, (Value.slice po ko co).ownBlock = some g → g < X) := Bl.hid fun g hg => by rw [HX.out]; exact (A6.lt g hg).2
      have A1' := Bl.hid A1
      have A2' := Bl.hid A2
      have A3' := Bl.hid A3
      have A4' := Bl.hid A4
      have A5' := Bl.hid A5
      clear hE7 Hov hc0 hc1 hc2 A1 A2 A3 A4 A5 A6 HA
      go_wp2_with (with_reducible refine Bl.stop_build ?_)
      refine Bl.go_on ?_
      refine Bl.wpL_build1 tDig (by decide) rfl (by simp [Hol.out.1]) ?_
      go_wp2_with (with_reducible refine Bl.stop_append ?_)
      refine Bl.go_on ?_
      refine Bl.wpL_app tDig Hown2.out Hnew.out rfl rfl (by rw [Bl.cellsD_one, Bl.ints_length, Hol.out.1]) (Bl.cellsD_one' _) (by unfold maxLen; omega) (by omega) HE8.out.size ?_
      intro q3 d3 w9 hown9 hg9 hB9 hK9 hn9 hc9
      have HE9 : Hid (Bl.Ext w2 w9) := Bl.hid (Below.trans HE8.out hB9)
      have hne : some X ≠ (Value.slice po ko co).ownBlock := fun e => by have := HNo.out X e.symm; omega
      have hXl8 : X < (w7.alloc (.cells (Bl.ints .u8 d).toArray 39)).heap.size := Nat.lt_of_lt_of_le HXl.out HE78.out.size
      have hc0 : w9.cell? ⟨X, 0, none⟩ = some (.bool x) := (hg9.cell_far ⟨X, 0, none⟩ hXl8 hne).trans (((Bl.bcell HE78.out).1 X 0 HXl.out).trans HC0.out)
      have hc2 : w9.cell? ⟨X, 2, none⟩ = some (.int .i64 t) := (hg9.cell_far ⟨X, 2, none⟩ hXl8 hne).trans (((Bl.bcell HE78.out).1 X 2 HXl.out).trans HC2.out)
      have hko1 : ko + 1 ≤ tn := by have := A2'.out; omega
      have HA9 : Hid ((acc ++ [d]).length = ko + 1 ∧ ko + 1 = k + 1 ∧ acc ++ [d] = (T.take (k + 1)).map (Bl.toldD ds) ∧ Bl.Dig (acc ++ [d]) ∧ w9.ownsRow w2.heap.size 39 32 (.slice q3 (ko + 1) d3) (ko + 1) (Bl.cellsD (acc ++ [d]))) := Bl.hid
        ⟨by rw [List.length_append, A1'.out]; rfl, by rw [A2'.out], by rw [Hms.out, A3'.out, Hdd.out]; rfl, A5'.out.append (Bl.Dig.one Hol.out.1 Hol.out.2), by rw [Bl.cellsD_append]; exact hown9⟩
      clear hown9 hg9 hB9 hK9 Hown2 Hnew HE8 hne hXl8 HE78
      have ht5 : t ≤ 512 := by omega
      cases x with
      | true =>
        go_wp2_with fail
        go_roundw
        case rel => exact ⟨k + 1, t, ko + 1, d3, q3, acc ++ [d], by omega, by go_num, rfl, rfl, hko1, ht5, Bl.hid ⟨HA9.out.1, HA9.out.2.1, HA9.out.2.2.1, by rw [Has.out]; rfl, HA9.out.2.2.2⟩, HE9.out⟩
        case measure => simp [intOf]; omega
      | false =>
        go_wp2_with fail
        go_roundw
        case rel => exact ⟨k + 1, q, ko + 1, d3, q3, acc ++ [d], by omega, by go_num, rfl, rfl, hko1, hq, Bl.hid ⟨HA9.out.1, HA9.out.2.1, HA9.out.2.2.1, by rw [Has.out, A4'.out]; rfl, HA9.out.2.2.2⟩, HE9.out⟩
        case measure => simp [intOf]; omega
    · obtain rfl : k = tn := by omega
      obtain ⟨A1, A2, A3, A4, A5, A6⟩ := HA.out
      rw [List.take_of_length_le (by rw [← Htn.out]; exact Nat.le_refl _)] at A3 A4
      have hqA : q = AT := A4.trans HAt.out
      have Hown := Bl.hid A6
      have A1' := Bl.hid A1
      have A3' := Bl.hid A3
      have A5' := Bl.hid A5
      clear A1 A2 A3 A4 A5 A6 HA
      cases WH with
      | true =>
        have HPD1 : Hid (PD = (T.map (Bl.toldD ds)).reverse) := Bl.hid (by have h := HPD.out; rw [if_pos rfl, List.append_nil] at h; exact h)
        clear HPD
        have Hrv := Bl.hid (revOwn_any wr w2.heap.size po ko co acc A1'.out A5'.out Hown.out (by omega))
        go_wp2_with fail
        refine Hrv.out.mono ?_
        rintro e w9 ⟨rfl, hR9, hB9⟩
        have HR9 := Bl.hid hR9
        have HB9 := Bl.hid hB9
        clear hR9 hB9 Hrv
        go_wp2_with fail
        go_ret2
        refine ⟨.slice po ko co, rfl, ?_, Below.trans (HE2.out.trans HE.out) (HB9.out.mono HE2.out.size)⟩
        rw [HPD1.out, ← A3'.out]
        have h := HR9.out
        show Bl.Rds w9 _ acc.reverse.length _
        rw [List.length_reverse, A1'.out]
        rw [show Bl.RdD w9 (.slice po ko co) acc.reverse = Bl.Rds w9 (.slice po ko co) acc.reverse.length (Bl.cellsD acc.reverse) from rfl, List.length_reverse, A1'.out] at h
        exact h
      | false =>
        have HPD1 : Hid (PD = (T.map (Bl.toldD ds) ++ [Bl.overD (Bl.cutL ds AT m)]).reverse) := Bl.hid (by have h := HPD.out; rw [if_neg (by decide)] at h; exact h)
        clear HPD
        subst hqA
        have hqm := HATm.out
        have hx1 : (0 : Int) ≤ (q : Int) := by omega
        have hx2 : (q : Int) ≤ (m : Int) := by omega
        have hx3 : (m : Int) ≤ (c : Int) := by omega
        have hx4 : ¬ (q = c) := by omega
        have hx5 : (m : Int) ≤ (n : Int) := by omega
        have hx6 : (q : Int) ≤ (c : Int) := by omega
        have Hcut := Bl.hid (Bl.RdD.cut (by have h := HL2.out; exact Bl.Rds.ext h HE.out) Hd.out q m hqm (by rw [← Hn.out]; exact hmn))
        have hcl := Bl.cutL_len ds q m (Nat.le_of_lt hqm) (by rw [← Hn.out]; exact hmn)
        have Hov := Bl.hid (over_any _ (Bl.cutL ds q m) wr (by omega) (Bl.cutL_dig Hd.out q m) Hcut.out (Hg.out.ext (HE2.out.trans HE.out)))
        have Hol := Bl.hid (Bl.overD_dig _ (Bl.cutL ds q m) rfl (Bl.cutL_dig Hd.out q m) (by omega))
        obtain ⟨d, hdd⟩ : ∃ d, d = Bl.overD (Bl.cutL ds q m) := ⟨_, rfl⟩
        rw [← hdd] at Hov Hol
        have Hdd := Bl.hid hdd
        clear hdd Hcut hcl
        go_wp2_with fail
        refine Hov.out.mono ?_
        rintro e w7 ⟨rfl, hE7⟩
        have Hown2 := Bl.hid (Bl.owns_ext (Bl.owns_ext Hown.out hE7) (Bl.ext_alloc w7 (.cells (Bl.ints .u8 d).toArray 39)))
        have Hnew := Bl.hid (Bl.rds_dig w7 39 d Hol.out.1)
        have HE8 : Hid (Bl.Ext w2 (w7.alloc (.cells (Bl.ints .u8 d).toArray 39))) := Bl.hid ((HE.out.trans hE7).trans (Bl.ext_alloc _ _))
        clear hE7 Hov
        go_wp2_with (with_reducible refine Bl.stop_build ?_)
        refine Bl.go_on ?_
        refine Bl.wpL_build1 tDig (by decide) rfl (by simp [Hol.out.1]) ?_
        go_wp2_with (with_reducible refine Bl.stop_append ?_)
        refine Bl.go_on ?_
        refine Bl.wpL_app tDig Hown2.out Hnew.out rfl rfl (by rw [Bl.cellsD_one, Bl.ints_length, Hol.out.1]) (Bl.cellsD_one' _) (by unfold maxLen; omega) (by omega) HE8.out.size ?_
        intro q3 d3 w9 hown9 hg9 hB9 hK9 hn9 hc9
        have HE9 : Hid (Bl.Ext w2 w9) := Bl.hid (Below.trans HE8.out hB9)
        have Hal : Hid ((acc ++ [d]).length = ko + 1) := Bl.hid (by rw [List.length_append, A1'.out]; rfl)
        have Hrv := Bl.hid (revOwn_any w9 w2.heap.size q3 (ko + 1) d3 (acc ++ [d]) Hal.out (A5'.out.append (Bl.Dig.one Hol.out.1 Hol.out.2)) (by rw [Bl.cellsD_append]; exact hown9) (by omega))
        clear hown9 hg9 hB9 hK9 Hown2 Hnew HE8
        go_wp2_with fail
        refine Hrv.out.mono ?_
        rintro e w10 ⟨rfl, hR9, hB9⟩
        have HR9 := Bl.hid hR9
        have HB9 := Bl.hid hB9
        clear hR9 hB9 Hrv
        go_wp2_with fail
        go_ret2
        refine ⟨.slice q3 (ko + 1) d3, rfl, ?_, Below.trans (HE2.out.trans HE9.out) (HB9.out.mono HE2.out.size)⟩
        rw [HPD1.out, ← A3'.out, ← Hdd.out]
        have h := HR9.out
        show Bl.Rds w10 _ (acc ++ [d]).reverse.length _
        rw [List.length_reverse, Hal.out]
        rw [show Bl.RdD w10 (.slice q3 (ko + 1) d3) (acc ++ [d]).reverse = Bl.Rds w10 (.slice q3 (ko + 1) d3) (acc ++ [d]).reverse.length (Bl.cellsD (acc ++ [d]).reverse) from rfl, List.length_reverse, Hal.out] at h
        exact h

/-- growth.Prove where there is no such proof -/
theorem gprove_no (v : Value) (ds : List (List Int)) (m : Int) (w : World) (S : List Nat) (a : Nat → Addr) (hR : Bl.RdD w v ds) (he : Errs S a w) (h1 : 1 ∈ S) (hm : ¬ (1 ≤ m ∧ m ≤ ds.length ∧ (ds.length : Int) ≤ 512)) :
    Calls Tryd.prog 21 #[v, .int .i64 m] w fun e w' => e = .returned (.tuple #[.slice none 0 0, .iface 161 (.pointer (some (a 1)))]) ∧ Bl.Ext w w' := by
  have hF : w.cell? ⟨0, 0, none⟩ = some (.iface 161 (.pointer (some (a 1)))) := he.cell 1 h1
  obtain ⟨p, c, hvf, hvn, hvc⟩ := hR.form
  subst hvf
  unfold maxLen at hvc
  have hth := Bl.hid (Bl.thereG_no hm)
  clear hR hm he
  go_enter Tryd.func21, Tryd.ntmps21
  go_wp2_with fail
  refine (counted_any _ _ _).mono ?_
  rintro e w1 ⟨rfl, hw⟩
  subst hw
  rw [hth.out]
  go_wp2_with fail
  go_quiet (fail)
  go_wp2_with fail
  go_ret2
  exact ⟨rfl, (Below.refl _ _).drewN _⟩
end Go.Proofs.YtmfooocdnoflaaaDoor

/- slices.Backward over steps: the function value, and its contract. -/
namespace Go.Proofs.YtmfooocdnoflaaaDoor
open Go Go.RowKit Go.Proofs

attribute [local go_sem] Oper.semAt_some

set_option maxRecDepth 100000 in
set_option maxHeartbeats 400000 in
theorem backT_any (w : World) (p : Option Addr) (n c : Nat) :
    Calls Tryd.prog 71 #[.slice p n c] w fun e w' => e = .returned (.func (.func 80) #[] #[.pointer (some ⟨w.heap.size, 0, none⟩)]) ∧ w' = w.alloc (.cells #[.slice p n c] 83) := by
  go_enter Tryd.func71, Tryd.ntmps71
  go_wp2
  go_ret
  exact ⟨rfl, rfl⟩

set_option maxRecDepth 100000 in
set_option maxHeartbeats 1000000 in
theorem backT_in (n lr Bs n₀ b off m cap size : Nat) (p : Option Addr) (hp : 0 < m → p = some ⟨b, off, none⟩) (Q : Nat → Prop) (V : Nat → Value) (hn : 1 ≤ n) (hcap : m ≤ cap) (hmax : m ≤ 1099511627776) (hsz : (Tryd.prog.info? 87).map (·.size) = some size) (hBs : Bs < n₀) (hBsg : ¬ Q Bs) (J Jx : List (Fin m) → World → Prop)
    (hY : ∀ pre x W, J pre W → pre.length < m → YieldAt Fence.wide (n - 1) Tryd.prog lr #[.int .i64 ((m - 1 - x.val : Nat) : Int), V (m - 1 - x.val)] W fun e W' =>
      (e = .returned (.bool true) ∧ J (pre ++ [x]) W' ∧ Bl.KeepS Q n₀ W W') ∨ (e = .returned (.bool false) ∧ Jx (pre ++ [x]) W'))
    (W : World) (hcs : W.cell? ⟨Bs, 0, none⟩ = some (.slice p m cap)) (hld : ∀ W', Bl.KeepS Q n₀ W W' → ∀ j, j < m → (Instr.loadAt 87 (.pointer (some ⟨b, off + j * size, none⟩))).run Tryd.prog W' = .ok (V j) W') (h0 : J [] W) :
    CallsIn Fence.wide n Tryd.prog 80 #[.func (.yield lr) #[] #[], .pointer (some ⟨Bs, 0, none⟩)] W fun e W' => (∃ v, e = .returned v) ∧
      ((∃ xs, xs = List.finRange m ∧ J xs W') ∨ (∃ pre, (∃ k, k ≤ m ∧ pre = Bl.chunks m k) ∧ Jx pre W')) := by
  obtain rfl : size = 3 := by
    have h : (Tryd.prog.info? 87).map (·.size) = some 3 := by kernel_rfl
    rw [hsz] at h
    injection h
  refine callsIn_of_wp Tryd.func80 rfl trivial ?_ rfl
  simp only [Tryd.ntmps80, List.size_toArray, List.length_cons, List.length_nil, Nat.reduceAdd, Nat.reduceSub, Array.replicate_succ, Array.replicate_zero, List.push_toArray, List.append_toArray, List.nil_append, List.cons_append]
  have Hld := Bl.hid hld
  have HY := Bl.hid hY
  clear hld hY hsz
  gi_wp2
  gi_loopw [3] (fun i wr => ∃ k : Nat, k ≤ m ∧ i = .int .i64 ((m : Int) - 1 - k) ∧ J (Bl.chunks m k) wr ∧ Bl.KeepS Q n₀ W wr)
    (fun i _ => (intOf i + 1).toNat)
  case atStart => exact ⟨0, Nat.zero_le _, by simp, h0, Bl.KeepS.refl _ _ _⟩
  case round =>
    obtain ⟨k, hk, rfl, hJs, hnx⟩ := hrel
    have hcs' := (hnx.cell (i := 0) hBs hBsg).trans hcs
    by_cases hlt : k < m
    · have hps := hp (by omega)
      subst hps
      obtain ⟨j, hj⟩ : ∃ j, j = m - 1 - k := ⟨_, rfl⟩
      have hji : (m : Int) - 1 - (k : Int) = (j : Int) := by omega
      have hlj := Hld.out wr hnx j (by omega)
      have hYk := HY.out _ ⟨k, hlt⟩ wr hJs (by rw [Bl.chunks_length _ _ hk]; exact hlt)
      rw [show m - 1 - (⟨k, hlt⟩ : Fin m).val = j from hj.symm] at hYk
      rw [hji]
      have hj0 : (0 : Int) ≤ (j : Int) := by omega
      have hjm : (j : Int) < (m : Int) := by omega
      have hk3 : (j : Int) - 1 = (m : Int) - 1 - ((k + 1 : Nat) : Int) := by omega
      have Hk3 := Bl.hid hk3
      generalize V j = vj at hlj hYk
      have Hlj := Bl.hid hlj
      have HYk := Bl.hid hYk
      clear hk3 hji hj hlj hYk hp
      gi_wp2_with (with_reducible refine Bl.stopI_load (ty := 87) ?_)
      refine Bl.go_on ?_
      refine Bl.wpLI_load rfl Hlj.out ?_
      obtain ⟨fn, tmps, assign, body, hy, hR⟩ := HYk.out
      try dsimp only at hy
      gi_wp2
      refine hR.mono ?_
      rintro e W3 (⟨rfl, hJ3, hk3⟩ | ⟨rfl, hJx3⟩)
      · have hcs3 := (hk3.cell (i := 0) hBs hBsg).trans hcs'
        gi_wp2
        go_roundw
        case rel => exact ⟨k + 1, by omega, by rw [← Hk3.out], by rw [Bl.chunks_succ _ _ hlt]; exact hJ3, hnx.trans hk3⟩
        case measure => simp [intOf]
      · gi_wp2
        refine bodyPost_ret (results_none rfl _ _ _) rfl ?_
        exact ⟨⟨_, rfl⟩, .inr ⟨_, ⟨k + 1, by omega, (Bl.chunks_succ _ _ hlt).symm⟩, hJx3⟩⟩
    · obtain rfl : k = m := by omega
      have hneg : (k : Int) - 1 - (k : Int) = -1 := by omega
      rw [hneg]
      gi_wp2
      go_end0
      exact ⟨⟨_, rfl⟩, .inl ⟨_, rfl, by rw [← Bl.chunks_all]; exact hJs⟩⟩

theorem backT_stops (n Bs b off m cap : Nat) (p : Option Addr) (hp : 0 < m → p = some ⟨b, off, none⟩) (Q : Nat → Prop) (V : Nat → Value) (hn : 1 ≤ n) (hcap : m ≤ cap) (hmax : m ≤ 1099511627776) (w : World) (hBs : Bs < w.heap.size) (hBsg : ¬ Q Bs)
    (hcs : w.cell? ⟨Bs, 0, none⟩ = some (.slice p m cap)) (hld : ∀ W', Bl.KeepS Q w.heap.size w W' → ∀ j, j < m → (Instr.loadAt 87 (.pointer (some ⟨b, off + j * 3, none⟩))).run Tryd.prog W' = .ok (V j) W') :
    SeqStopsK Fence.wide n Tryd.prog 80 #[.pointer (some ⟨Bs, 0, none⟩)] (fun x : Fin m => #[.int .i64 ((m - 1 - x.val : Nat) : Int), V (m - 1 - x.val)]) (Bl.KeepS Q w.heap.size) (fun xs => xs = List.finRange m) (fun pre => ∃ k, k ≤ m ∧ pre = Bl.chunks m k) m w :=
  fun l J Jx W hW _ _ hY h0 =>
    backT_in n l Bs w.heap.size b off m cap 3 p hp Q V hn hcap hmax (by kernel_rfl) hBs hBsg J Jx hY W ((hW.cell (p := ⟨Bs, 0, none⟩) hBs).trans hcs) (fun W' hk => hld W' (Bl.KeepS.trans (Bl.KeepS.of_below hW (Nat.le_refl _)) hk)) h0
end Go.Proofs.YtmfooocdnoflaaaDoor

/- Walk of growth.Check. -/
namespace Go.Proofs.Bl
open Go Go.RowKit
theorem climb_chunks (T : List (Bool × Nat × Nat)) (q : List (List Int)) (tn : Nat) (hT : T.length = tn) (hq : q.length = tn) (r0 : List Int × List Int) : ∀ k, k ≤ tn →
    (chunks tn k).foldl (fun r (x : Fin tn) => up2 ndD r (T.getD (tn - 1 - x.val) default).1 (q.getD x.val [])) r0 = climb2 ndD r0 (((T.map (·.1)).reverse.zip q).take k)
  | 0, _ => rfl
  | k + 1, h => by
    have hz : k < ((T.map (·.1)).reverse.zip q).length := by rw [List.length_zip, List.length_reverse, List.length_map]; omega
    rw [chunks_succ _ _ (by omega), List.foldl_append, climb_chunks T q tn hT hq r0 k (by omega), List.take_succ_eq_append_getElem hz]
    have e : ((T.map (·.1)).reverse.zip q)[k] = ((T.getD (tn - 1 - k) default).1, q.getD k []) := by
      rw [List.getElem_zip, List.getElem_reverse, List.getElem_map]
      congr 1
      · rw [List.getD_eq_getElem?_getD, List.getElem?_eq_getElem (by omega)]
        simp only [List.length_map, Option.getD_some, hT]
      · rw [List.getD_eq_getElem?_getD, List.getElem?_eq_getElem (by omega)]; rfl
    rw [e]
    exact (climb2_snoc ndD _ _ _ _).symm
theorem climb_all (T : List (Bool × Nat × Nat)) (q : List (List Int)) (tn : Nat) (hT : T.length = tn) (hq : q.length = tn) (r0 : List Int × List Int) :
    (List.finRange tn).foldl (fun r (x : Fin tn) => up2 ndD r (T.getD (tn - 1 - x.val) default).1 (q.getD x.val [])) r0 = climb2 ndD r0 ((T.map (·.1)).reverse.zip q) := by
  have h := climb_chunks T q tn hT hq r0 tn (Nat.le_refl _)
  rw [chunks_all, List.take_of_length_le (by rw [List.length_zip, List.length_reverse, List.length_map]; omega)] at h
  exact h
theorem madeD_t {m n : Nat} {old : List Int} {w : Bool} {p : List (List Int)} (h : (stepsL m n 0 w).2.1 = true) : madeD m n old w p = climb2 ndD (old, old) (((stepsL m n 0 w).1.map (·.1)).reverse.zip p) := by
  unfold madeD madeG; rw [if_pos h]
theorem madeD_f {m n : Nat} {old : List Int} {w : Bool} {p : List (List Int)} (h : (stepsL m n 0 w).2.1 = false) : madeD m n old w p = climb2 ndD (p.headD zD, p.headD zD) (((stepsL m n 0 w).1.map (·.1)).reverse.zip p.tail) := by
  unfold madeD madeG; rw [if_neg (by rw [h]; decide)]
theorem up2_dig {r : List Int × List Int} (k : Bool) (d : List Int) (h1 : r.1.length = 32 ∧ Byt r.1) : ((up2 ndD r k d).1.length = 32 ∧ Byt (up2 ndD r k d).1) ∧ ((up2 ndD r k d).2.length = 32 ∧ Byt (up2 ndD r k d).2) := by
  unfold up2
  split
  · exact ⟨ndD_dig _ _, ndD_dig _ _⟩
  · exact ⟨h1, ndD_dig _ _⟩
theorem climb2_fold_dig {α : Type} (f : α → Bool) (g : α → List Int) (l : List α) (r : List Int × List Int) (h1 : r.1.length = 32 ∧ Byt r.1) (h2 : r.2.length = 32 ∧ Byt r.2) : ((l.foldl (fun r x => up2 ndD r (f x) (g x)) r).1.length = 32 ∧ Byt (l.foldl (fun r x => up2 ndD r (f x) (g x)) r).1) ∧ ((l.foldl (fun r x => up2 ndD r (f x) (g x)) r).2.length = 32 ∧ Byt (l.foldl (fun r x => up2 ndD r (f x) (g x)) r).2) := by
  induction l generalizing r with
  | nil => exact ⟨h1, h2⟩
  | cons x l ih => exact ih _ (up2_dig (f x) (g x) h1).1 (up2_dig (f x) (g x) h1).2
theorem frozen_one (w : World) (v : Value) (t : TypeId) : (w.alloc (.cells #[v] t)).frozen? ⟨w.heap.size, 0, none⟩ = false := by simp
theorem ownFrom_duo {β : Type} {A B n : Nat} {f g : β → List Int} : OwnFrom n (fun (x : β) W => Duo W A B (f x) (g x)) :=
  fun _ _ _ _ hs hg hr => ⟨hs.a.own hg hr, hs.b.own hg hr, hs.ne⟩
theorem cell_own {W W' : World} {X i : Nat} {v : Value} {row : Option Nat} {B : Nat} (h : W.cell? ⟨X, i, none⟩ = some v) (hg : W.grownBy W' row) (hr : ∀ r, row = some r → B ≤ r ∧ ∃ o : Obj, W.heap[r]? = some o ∧ o.isCells = false) : W'.cell? ⟨X, i, none⟩ = some v :=
  (hg.cell_far ⟨X, i, none⟩ (World.block_lt_of_cell? _ _ h) (fun e => by
    obtain ⟨_, o, ho, hc⟩ := hr X e.symm
    exact no_cell h ho hc)).trans h
theorem steps_ne {a b : Nat} (h1 : 1 ≤ a) (h3 : b < 2 ^ 63) (hw : (stepsL a b 0 true).2.1 = false) : (stepsL a b 0 true).1 ≠ [] := by
  intro hnil
  by_cases hab : a < b
  · by_cases hs : a ≤ sp b
    · rw [stepsL_left a b 0 true h1 h3 hab hs] at hnil; cases hnil
    · rw [stepsL_right a b 0 true h1 h3 hab hs] at hnil; cases hnil
  · rw [stepsL_end _ _ _ _ hab] at hw; cases hw
/-- a result in a slot -/
theorem results_tmp1 {P : Program} {fn : Func} {p : Tmp} {tmps : Array Value} {w : World} {v : Value} (h : fn.results = #[.tmp p]) (hp : tmps.getD p undef = v) : (results fn tmps).run P w = .ok v w := by
  have hp' : tmps[p]?.getD undef = v := by simpa using hp
  simp [results, h, hp']
theorem KeepS.two {A B n : Nat} {a w : World} (h : KeepS (fun k => k = A ∨ k = B) n a w) (x y : List Value) : KeepS (fun k => k = A ∨ k = B) n a ((w.setCells A 0 x).setCells B 0 y) :=
  KeepS.setCells (KeepS.setCells h (.inl rfl) _ _) (.inr rfl) _ _
end Go.Proofs.Bl
namespace Go.Proofs.YtmfooocdnoflaaaDoor
open Go Go.RowKit Go.Proofs

attribute [local go_sem] Oper.semAt_some

set_option maxRecDepth 100000 in
set_option maxHeartbeats 4000000 in
theorem gcheck_main (a b : Nat) (old now : List Int) (vp : Value) (p : List (List Int)) (w : World) (S : List Nat) (ad : Nat → Addr) (he : Errs S ad w) (h15 : 15 ∈ S) (ho : old.length = 32) (bo : Bl.Byt old) (hnw : now.length = 32) (hp : Bl.RdD w vp p) (hdp : Bl.Dig p) (hg : Glob w)
    (h1 : 1 ≤ a) (h2 : a ≤ b) (h3 : b ≤ 512) (hpl : p.length = Bl.cntG a b true) :
    Calls Tryd.prog 51 #[.int .i64 a, .agg (Bl.ints .u8 old).toArray, .int .i64 b, .agg (Bl.ints .u8 now).toArray, vp] w fun e w' => e = .returned (errN ad (Bl.chkG a b old now p)) ∧ Bl.Ext w w' := by
  have hF15 : w.cell? ⟨14, 0, none⟩ = some (.iface 161 (.pointer (some (ad 15)))) := he.cell 15 h15
  have HF15 := Bl.hid hF15
  have HFl : Hid (14 < w.heap.size) := Bl.hid (World.block_lt_of_cell? w _ hF15)
  obtain ⟨pp, cp, hvf, hvn, hvc⟩ := hp.form
  subst hvf
  have hb := Bl.thereG_mk (m := (a : Int)) (n := (b : Int)) (by omega) (by omega) (by omega)
  have HCk1 := Bl.hid (fun h => Bl.chkG_ok (m := a) (n := b) (old := old) (now := now) (p := p) hb hpl h)
  have HCk2 := Bl.hid (fun h => Bl.chkG_bad (m := a) (n := b) (old := old) (now := now) (p := p) hb hpl h)
  obtain ⟨R, hR⟩ : ∃ R, R = Bl.chkG a b old now p := ⟨_, rfl⟩
  rw [← hR] at HCk1 HCk2 ⊢
  have HCn := Bl.hid (fun w2 => gcount_any a b w2)
  have hci := Bl.cntI_yes (m := a) (n := b) h1 h2 h3
  rw [hci] at HCn
  have HS := Bl.hid (fun w2 => gsteps_any a b w2 h1 h2 h3)
  have hTl := Bl.steps_len_le b a 0 true h1 h2 (by omega)
  have hMt : (Bl.stepsL a b 0 true).2.1 = true → Bl.madeD a b old true p = _ := fun h => Bl.madeD_t h
  have hMf : (Bl.stepsL a b 0 true).2.1 = false → Bl.madeD a b old true p = _ := fun h => Bl.madeD_f h
  have hNe : (Bl.stepsL a b 0 true).2.1 = false → (Bl.stepsL a b 0 true).1 ≠ [] := fun h => Bl.steps_ne h1 (by omega) h
  have hcl := Bl.cntG_le a b true h1 h2 h3
  have hcT : Bl.cntG a b true = (Bl.stepsL a b 0 true).1.length + (if (Bl.stepsL a b 0 true).2.1 = true then 0 else 1) := rfl
  obtain ⟨T, hT⟩ : ∃ T, T = (Bl.stepsL a b 0 true).1 := ⟨_, rfl⟩
  obtain ⟨WH, hWH⟩ : ∃ WH, WH = (Bl.stepsL a b 0 true).2.1 := ⟨_, rfl⟩
  rw [← hT, ← hWH] at HS hcT hMt hMf hNe
  have HNe := Bl.hid hNe
  rw [← hT] at hTl
  have hMd := Bl.madeD_dig a b old true p ⟨ho, bo⟩ hdp
  obtain ⟨M, hM⟩ : ∃ M, M = Bl.madeD a b old true p := ⟨_, rfl⟩
  rw [← hM] at HCk1 HCk2 hMt hMf hMd
  have HMt := Bl.hid hMt
  have HMf := Bl.hid hMf
  have HMd := Bl.hid hMd
  obtain ⟨tn, htn⟩ : ∃ tn, tn = T.length := ⟨_, rfl⟩
  rw [← htn] at HS hTl hcT
  have Htn := Bl.hid htn
  have ht512 : tn ≤ 512 := by omega
  obtain ⟨C, hC⟩ : ∃ C, C = Bl.cntG a b true := ⟨_, rfl⟩
  rw [← hC] at HCn hcl hpl hcT
  have HcT := Bl.hid hcT
  have Hpl := Bl.hid hpl
  rw [hpl] at hvn ⊢
  have hneg : ¬ ((C : Int) < 0) := by omega
  have HEa := Bl.hid (Bl.ext_alloc w (.cells (Bl.ints .u8 old).toArray 39))
  have HEb := Bl.hid (Bl.ext_alloc (w.alloc (.cells (Bl.ints .u8 old).toArray 39)) (.cells (Bl.ints .u8 now).toArray 39))
  have HEc := Bl.hid (Bl.ext_alloc ((w.alloc (.cells (Bl.ints .u8 old).toArray 39)).alloc (.cells (Bl.ints .u8 now).toArray 39)) (.cells #[.slice pp C cp] 40))
  have HE0 := Bl.hid ((HEa.out.trans HEb.out).trans HEc.out)
  have hs1 : (w.alloc (.cells (Bl.ints .u8 old).toArray 39)).heap.size = w.heap.size + 1 := World.size_alloc _ _
  have hs2 : ((w.alloc (.cells (Bl.ints .u8 old).toArray 39)).alloc (.cells (Bl.ints .u8 now).toArray 39)).heap.size = w.heap.size + 1 + 1 := by rw [World.size_alloc, hs1]
  have hbn := Bl.dig_box (w.alloc (.cells (Bl.ints .u8 old).toArray 39)) now 39 hnw
  rw [hs1] at hbn
  have hcn := Bl.cell_new1 ((w.alloc (.cells (Bl.ints .u8 old).toArray 39)).alloc (.cells (Bl.ints .u8 now).toArray 39)) (.slice pp C cp) 40
  have hfn := Bl.frozen_one ((w.alloc (.cells (Bl.ints .u8 old).toArray 39)).alloc (.cells (Bl.ints .u8 now).toArray 39)) (.slice pp C cp) 40
  rw [hs2] at hcn hfn
  have HBo := Bl.hid ((Bl.dig_box w old 39 ho).ext (HEb.out.trans HEc.out))
  have HBn := Bl.hid (hbn.ext HEc.out)
  obtain ⟨P9, hP9⟩ : ∃ P9, P9 = w.heap.size + 1 + 1 := ⟨_, rfl⟩
  rw [← hP9] at hcn hfn
  have HC9 := Bl.hid (And.intro hcn hfn)
  have HP9 := Bl.hid hP9
  have HR0 : Hid (Bl.RdD w (.slice pp C cp) p) := Bl.hid (by rw [hpl] at hp; exact hp)
  have Hg := Bl.hid hg
  have Hdp := Bl.hid hdp
  have Hol := Bl.hid ho
  have Hob := Bl.hid bo
  have Hnl := Bl.hid hnw
  obtain ⟨W0, hW0⟩ : ∃ W0, W0 = ((w.alloc (.cells (Bl.ints .u8 old).toArray 39)).alloc (.cells (Bl.ints .u8 now).toArray 39)).alloc (.cells #[.slice pp C cp] 40) := ⟨_, rfl⟩
  rw [← hW0] at HE0 HBo HBn HC9
  have HW0 := Bl.hid hW0
  clear hNe he hF15 hp hdp hg hb hR hci hMt hMf hMd hM htn hC hcT hpl HEa HEb HEc hs1 hs2 hbn hcn hfn hP9 ho bo hnw hT hWH hW0 h1 h2 h3
  unfold maxLen at hvc
  refine (callsIn_wide (n := 9)).1 ?_
  refine callsIn_of_wp_marks Tryd.func51 rfl trivial ?_ rfl
  simp only [Tryd.ntmps51, List.size_toArray, List.length_cons, List.length_nil, Nat.reduceAdd, Nat.reduceSub, Array.replicate_succ, Array.replicate_zero, List.push_toArray, List.append_toArray, List.nil_append, List.cons_append]
  refine wpIn_wide.2 ?_
  go_wp2_with fail
  rw [← HW0.out, ← HP9.out]
  clear HW0
  refine (HCn.out W0).mono ?_
  rintro e w1 ⟨rfl, hE1⟩
  have hc9 : w1.cell? ⟨P9, 0, none⟩ = some (.slice pp C cp) := ((Bl.bcell hE1).1 P9 0 (World.block_lt_of_cell? _ _ HC9.out.1)).trans HC9.out.1
  have HE1 := Bl.hid hE1
  clear hE1 HCn
  go_wp2_with fail
  refine (HS.out w1).mono ?_
  rintro e w2 ⟨pt, ct, rfl, hown2, hE2⟩
  have HE2 := Bl.hid (HE1.out.trans hE2)
  have HTb : Hid (∀ bt ot, pt = some ⟨bt, ot, none⟩ → P9 < bt ∧ bt < w2.heap.size) := Bl.hid fun bt ot h => by
    have h9 := hown2.lt bt (by rw [h]; rfl)
    have h8 : P9 < w1.heap.size := World.block_lt_of_cell? _ _ hc9
    exact ⟨by omega, h9.2⟩
  have HT2 : Hid (Bl.Rds w2 (.slice pt tn ct) tn (Bl.cellsT T)) := Bl.hid (Bl.Rds.of_owns hown2)
  clear hE2 hown2 hc9 HS HE1
  have Hc12 := Bl.hid (Bl.cell_new1 w2 (.slice pt tn ct) 83)
  have HE23 := Bl.hid (Bl.ext_alloc w2 (.cells #[.slice pt tn ct] 83))
  go_wp2_with fail
  obtain ⟨W3, hW3⟩ : ∃ W3, W3 = w2.alloc (.cells #[.slice pt tn ct] 83) := ⟨_, rfl⟩
  obtain ⟨X12, hX12⟩ : ∃ X12, X12 = w2.heap.size := ⟨_, rfl⟩
  obtain ⟨BB, hBB⟩ : ∃ BB, BB = W3.heap.size := ⟨_, rfl⟩
  rw [← hW3] at Hc12 HE23 ⊢
  rw [← hX12] at Hc12 ⊢
  have HE3 := Bl.hid (HE2.out.trans HE23.out)
  have HE03 := Bl.hid (HE0.out.trans HE3.out)
  have HT3 := Bl.hid (Bl.Rds.ext HT2.out HE23.out)
  have HBB := Bl.hid hBB
  have HBo3 := Bl.hid (HBo.out.ext HE3.out)
  have HBn3 := Bl.hid (HBn.out.ext HE3.out)
  have H9l : Hid (P9 < BB) := Bl.hid (by rw [hBB]; exact Nat.lt_of_lt_of_le (World.block_lt_of_cell? _ _ HC9.out.1) HE3.out.size)
  have HC93 : Hid (W3.cell? ⟨P9, 0, none⟩ = some (.slice pp C cp) ∧ W3.frozen? ⟨P9, 0, none⟩ = false) := Bl.hid ⟨((Bl.bcell HE3.out).1 P9 0 (World.block_lt_of_cell? _ _ HC9.out.1)).trans HC9.out.1, ((Bl.bcell HE3.out).2 P9 0 (World.block_lt_of_cell? _ _ HC9.out.1)).trans HC9.out.2⟩
  have HTb : Hid (∀ bt ot, pt = some ⟨bt, ot, none⟩ → P9 < bt ∧ bt < BB) := Bl.hid fun bt ot h => ⟨(HTb.out bt ot h).1, by rw [hBB]; exact Nat.lt_of_lt_of_le (HTb.out bt ot h).2 HE23.out.size⟩
  have H12l : Hid (X12 < BB) := Bl.hid (by rw [hBB]; exact World.block_lt_of_cell? _ _ Hc12.out)
  have HwB : Hid (w.heap.size + 1 < BB) := Bl.hid (by rw [hBB]; exact HBn3.out.lt)
  clear hW3 hX12 hBB HE23 HT2 HBo HBn HC9 HE2 HE0
  have HLo : Hid (∀ w5, Below BB W3 w5 → (Instr.loadAt 39 (.pointer (some ⟨w.heap.size, 0, none⟩))).run Tryd.prog w5 = .ok (.agg (Bl.ints .u8 old).toArray) w5) := Bl.hid fun w5 h5 => (HBo3.out.below h5 (by have := HwB.out; omega)).load Tryd.underlying39 (by kernel_rfl)
  apply Bl.wp_region_evK (fun a a' => Below BB a a') (Bl.JTwo 2 3 4 14 15 BB old) 5 [38, 39, 14, 15] [Bl.eqv _, Bl.eqv _, Bl.anyv, Bl.anyv, Bl.eqv _] (fun w => Below.refl _ w) (fun a b c h k => Below.trans h k) (by kernel_rfl) (by kernel_rfl) (by kernel_rfl) (by kernel_rfl)
  case hsteps =>
    refine ⟨?_, ?_, ?_, ?_, ?_, trivial⟩
    all_goals
      intro d ev w1 hext HJd Hanc Hdes hni hb hd
      replace Hanc := Bl.hid Hanc
      replace HJd := Bl.hid HJd
      replace Hdes := Bl.hid Hdes
      replace hni := Bl.hid hni
      have e6 := hb 6 (by decide)
      clear hb
      simp only [Array.getD_eq_getD_getElem?, List.getElem?_toArray, List.getElem?_cons_succ, List.getElem?_cons_zero, Option.getD_some] at e6
      simp only [Bl.DepsE2, List.getElem?_cons_succ, List.getElem?_cons_zero, Option.bind_some, List.getD_cons_succ, List.getD_cons_zero, Bl.eqv, and_true] at hd
      have hc := (Bl.bcell hext).1
      simp only [Region.wanted, if_true]
      first
      | ((with_reducible refine Bl.goodX_load (fun w => Below.refl _ w) ?_ (HLo.out w1 hext) ?_); exact e6; exact ⟨rfl, HJd.out.same (by decide)⟩) | (obtain ⟨X9, hx9, hx9b, hx9c, _⟩ := HJd.out.a (Hanc.out 2 (by kernel_rfl)); have hjw := (HJd.out.write Hol.out (Hanc.out 2 (by kernel_rfl)) hni.out hx9 (by decide)).2.2; (with_reducible refine Bl.goodX_store ?_ ?_ ((hx9c hni.out).store Hol.out (by kernel_rfl)) ?_ ?_); exact hx9; (first | exact hd.2.1 | exact hd.1 | exact hd.2 | exact hd); exact Bl.below_setCells _ _ _ _ (Below.refl _ _) hx9b; exact ⟨rfl, hjw⟩)
      | (go_simp; first | exact ⟨Bl.below_alloc _ _ HJd.out.le, trivial, HJd.out.makeA rfl (by decide) (Hdes.out 4 (by kernel_rfl))⟩ | exact ⟨Bl.below_alloc _ _ HJd.out.le, HJd.out.makeA rfl (by decide) (Hdes.out 4 (by kernel_rfl))⟩ | exact ⟨Bl.below_alloc _ _ HJd.out.le, trivial, HJd.out.makeB rfl (by decide)⟩ | exact ⟨Bl.below_alloc _ _ HJd.out.le, HJd.out.makeB rfl (by decide)⟩ | exact ⟨Below.refl _ _, rfl, Bl.HJ.same (by decide) HJd.out⟩)
  case hmono => exact ⟨Bl.monoR_eqv _, Bl.monoR_eqv _, Bl.monoR_anyv, Bl.monoR_anyv, Bl.monoR_eqv _, trivial⟩
  case hR0 => exact (Below.refl _ _).drew
  case hend =>
    intro u w1 hext hJ hend
    simp only [Bl.EndE, List.getElem?_cons_succ, List.getElem?_cons_zero, Option.bind_some, List.getD_cons_succ, List.getD_cons_zero, Bl.eqv, true_and] at hend
    simp only [Bl.fillAct, List.setIfInBounds_toArray, List.set_cons_succ, List.set_cons_zero, List.drop_succ_cons, List.drop_zero, hend]
    obtain ⟨A, B, hA, hB, hAl, hBl, hDu⟩ := hJ.done rfl rfl rfl
    rw [hA, hB]
    have HDa := Bl.hid (hDu.setB Hol.out)
    have Hst := Bl.hid (hDu.b.store (P := Tryd.prog) (ty := 39) (d' := old) Hol.out (by kernel_rfl))
    have HEw := Bl.hid (Bl.below_setCells (Bl.ints .u8 old) B 0 w1 hext hBl)
    have HAB := Bl.hid (And.intro hAl hBl)
    clear hA hB hDu hext hJ hend hAl hBl HLo
    go_wp2_with (with_reducible refine Bl.stop_store (ty := 39) ?_)
    refine Bl.go_on ?_
    refine Bl.wpL_store0 rfl rfl Hst.out ?_
    clear Hst
    generalize w1.setCells B 0 (Bl.ints .u8 old) = W4 at HDa HEw ⊢
    cases WH with
    | true =>
      have HcT1 : Hid (tn = C) := Bl.hid (by have h := HcT.out; rw [if_pos rfl] at h; exact h.symm)
      have HMt1 := Bl.hid (HMt.out rfl)
      clear HMt HMf HcT
      have hCt := HcT1.out
      subst hCt
      obtain ⟨r0, hr0⟩ : ∃ r0, r0 = old := ⟨_, rfl⟩
      obtain ⟨q, hq⟩ : ∃ q, q = p := ⟨_, rfl⟩
      have HDk : Hid (Bl.Duo W4 A B r0 r0) := Bl.hid (by rw [hr0]; exact HDa.out)
      have HFin : Hid ((List.finRange tn).foldl (fun r (x : Fin tn) => Bl.up2 Bl.ndD r (T.getD (tn - 1 - x.val) default).1 (q.getD x.val [])) (r0, r0) = M) := Bl.hid (by
        rw [hr0, hq, HMt1.out]
        exact Bl.climb_all T p tn Htn.out.symm Hpl.out (old, old))
      have HRq : Hid (Bl.RdD W4 (.slice pp tn cp) q) := Bl.hid (by rw [hq]; exact Bl.Rds.ext HR0.out (Below.trans HE03.out (HEw.out.mono (by have := HwB.out; omega))))
      have Hql : Hid (q.length = tn) := Bl.hid (by rw [hq]; exact Hpl.out)
      have Hqd : Hid (Bl.Dig q) := Bl.hid (by rw [hq]; exact Hdp.out)
      have Hr0 : Hid (r0.length = 32 ∧ Bl.Byt r0) := Bl.hid (by rw [hr0]; exact ⟨Hol.out, Hob.out⟩)
      have HC9k : Hid (W4.cell? ⟨P9, 0, none⟩ = some (.slice pp tn cp)) := Bl.hid (((Bl.bcell HEw.out).1 P9 0 H9l.out).trans HC93.out.1)
      have HC12k : Hid (W4.cell? ⟨X12, 0, none⟩ = some (.slice pt tn ct)) := Bl.hid (((Bl.bcell HEw.out).1 X12 0 H12l.out).trans Hc12.out)
      have HTk : Hid (Bl.Rds W4 (.slice pt tn ct) tn (Bl.cellsT T)) := Bl.hid (Bl.Rds.ext HT3.out (by rw [HBB.out] at HEw; exact HEw.out))
      have HBok : Hid (Bl.BoxD W4 w.heap.size old) := Bl.hid (HBo3.out.below HEw.out (by have := HwB.out; omega))
      have HBnk : Hid (Bl.BoxD W4 (w.heap.size + 1) now) := Bl.hid (HBn3.out.below HEw.out HwB.out)
      have HEk : Hid (Bl.Ext w W4) := Bl.hid (Below.trans HE03.out (HEw.out.mono (by have := HwB.out; omega)))
      have HBk : Hid (BB ≤ W4.heap.size) := Bl.hid (by rw [HBB.out]; exact HEw.out.size)
      obtain ⟨ps, hps⟩ : ∃ ps, ps = pp := ⟨_, rfl⟩
      obtain ⟨cs, hcs'⟩ : ∃ cs, cs = cp := ⟨_, rfl⟩
      have HRb : Hid (∀ bq oq, 0 < tn → ps = some ⟨bq, oq, none⟩ → bq < w.heap.size) := Bl.hid fun bq oq h0 h => by
        obtain ⟨b9, o9, c9, hpe9, _, _, hbl9, _⟩ := Bl.RdD.pos (by have h := HR0.out; rw [← Hpl.out] at h; exact h) Hdp.out (by rw [Hpl.out]; omega)
        rw [← hps, h] at hpe9
        injection hpe9 with hpe9
        injection hpe9 with hpe9
        injection hpe9 with hpe9
        omega
      have hcsn : tn ≤ cs := by rw [hcs']; exact hvn
      have hcsm : cs ≤ 2 ^ 63 - 1 := by rw [hcs']; exact hvc
      rw [← hps, ← hcs'] at HRq HC9k
      clear hr0 hq hps hcs' HMt1 HEw HDa
      obtain ⟨Wk, hWk⟩ : ∃ Wk, Wk = W4 := ⟨_, rfl⟩
      rw [← hWk] at HDk HRq HC9k HC12k HTk HBok HBnk HEk HBk ⊢
      clear hWk
      have hc12 := HC12k.out
      try go_wp2_with fail
      refine (backT_any Wk _ _ _).mono ?_
      rintro e w8 ⟨rfl, hw8⟩
      have hE8 : Bl.Ext Wk w8 := by rw [hw8]; exact Bl.ext_alloc _ _
      have hcs : w8.cell? ⟨Wk.heap.size, 0, none⟩ = some (.slice pt tn ct) := by rw [hw8]; exact Bl.cell_new1 _ _ _
      have hsz8 : w8.heap.size = Wk.heap.size + 1 := by rw [hw8, World.size_alloc]
      have hDA := HDk.out.a.lt
      have hDB := HDk.out.b.lt
      have hAB1 := HAB.out.1
      have hAB2 := HAB.out.2
      have hBk := HBk.out
      have HE8 := Bl.hid hE8
      have HEw8 := Bl.hid (HEk.out.trans hE8)
      have HTk8 := Bl.hid (Bl.Rds.ext HTk.out hE8)
      obtain ⟨bt, ot, hpt, hnct⟩ : ∃ bt ot, (0 < tn → pt = some ⟨bt, ot, none⟩ ∧ bt < BB ∧ w8.rangeAt bt ot (Bl.cellsT T)) ∧ tn ≤ ct := by
        rcases HTk8.out with ⟨⟨p1, h1⟩, h2, h3⟩ | ⟨b8, o8, c8, h2, h3, h4, h5⟩
        · exact ⟨0, 0, fun q => by omega, by omega⟩
        · injection h2 with h2a h2b h2c
          exact ⟨b8, o8, fun q => ⟨h2a, (HTb.out b8 o8 h2a).2, h5⟩, by omega⟩
      have Hpt := Bl.hid hpt
      obtain ⟨V, hV⟩ : ∃ V : Nat → Value, V = fun j => .agg #[.bool (T.getD j default).1, .int .i64 (T.getD j default).2.1, .int .i64 (T.getD j default).2.2] := ⟨_, rfl⟩
      have HV := Bl.hid hV
      clear hw8 hE8 hc12 hpt hV
      go_wp2_with fail
      refine (wpIn_wide (n := 9)).1 ?_
      apply Bl.wpIn_rangeFunc_box (F := Fence.wide) (encs := fun x : Fin tn => #[.int .i64 ((tn - 1 - x.val : Nat) : Int), V (tn - 1 - x.val)]) (Kp := Bl.KeepS (fun k => k = A ∨ k = B) w8.heap.size) rfl (by decide) (gf := 80) (lb := #[.pointer (some ⟨Wk.heap.size, 0, none⟩)]) rfl trivial (enters_of Tryd.func80 (by kernel_rfl) rfl)
        (backT_stops 8 Wk.heap.size bt ot tn ct pt (fun h => (Hpt.out h).1) (fun k => k = A ∨ k = B) V (by decide) hnct (by omega) w8 (by omega) (by omega) hcs
          (fun W' hk j hj => by
            obtain ⟨_, hb2, hr8⟩ := Hpt.out (by omega)
            rw [HV.out]
            have hs : T.getD j default = ((T.getD j default).1, (T.getD j default).2.1, (T.getD j default).2.2) := rfl
            exact run_loadAt_mid (P := Tryd.prog) W' bt (ot + j * 3) 87 _ _ (Bl.turn_at (hk.range hr8 (by omega) (by omega)) (by rw [← Htn.out]; exact hj) hs) Tryd.underlying87 rfl (by kernel_rfl)))
        (fun h k => Bl.KeepS.trans h k) (Bl.KeepS.putObj (Nat.le_refl _)) (Below.refl _ _) (fun _ => rfl)
        (fun pre W => Bl.Duo W A B (pre.foldl (fun r (x : Fin tn) => Bl.up2 Bl.ndD r (T.getD (tn - 1 - x.val) default).1 (q.getD x.val [])) (r0, r0)).1 (pre.foldl (fun r (x : Fin tn) => Bl.up2 Bl.ndD r (T.getD (tn - 1 - x.val) default).1 (q.getD x.val [])) (r0, r0)).2 ∧ (Bl.KeepS (fun k => k = A ∨ k = B) w8.heap.size w8 W ∧ Below BB w8 W))
        (fun _ _ _ => False) (Bx := fun x X W => W.cell? ⟨X, 0, none⟩ = some (.bool (T.getD (tn - 1 - x.val) default).1))
      case hI => exact OwnFrom.and Bl.ownFrom_duo (OwnFrom.and (Bl.ownFrom_keepS (Nat.le_refl _) (Nat.le_refl _)) (ownFrom_below (by omega) (by omega)))
      case hIx => exact fun _ _ _ _ _ hs _ _ => hs
      case h0 => exact ⟨HDk.out.ext HE8.out, Bl.KeepS.refl _ _ _, Below.refl _ _⟩
      case hBx => exact fun x X _ W W' row hX hg hr => Bl.cell_own hX hg hr
      case hassign =>
        rintro lr pre x W K ⟨hDu, hKp, hBW⟩ hK
        have hVx : V (tn - 1 - x.val) = .agg #[.bool (T.getD (tn - 1 - x.val) default).1, .int .i64 (T.getD (tn - 1 - x.val) default).2.1, .int .i64 (T.getD (tn - 1 - x.val) default).2.2] := by rw [HV.out]
        obtain ⟨s, hs⟩ : ∃ s, s = T.getD (tn - 1 - x.val) default := ⟨_, rfl⟩
        rw [← hs] at hVx hK
        obtain ⟨hst, hc0, hc1, hc2, hEb⟩ := step_box W s.1 s.2.1 s.2.2
        have Hst := Bl.hid hst
        have HEp := Bl.hid hEb
        have HBp := Bl.hid hc0
        have HDu := Bl.hid hDu
        have HKp := Bl.hid hKp
        have HBW := Bl.hid hBW
        have HK := Bl.hid hK
        have Hs := Bl.hid hs
        simp only [hVx]
        clear hst hc0 hc1 hc2 hEb hDu hKp hBW hVx hs hK
        gi_wp2_with (with_reducible refine Bl.stopI_store (ty := 87) ?_)
        refine Bl.go_on ?_
        refine Bl.wpLI_store0 rfl rfl Hst.out ?_
        obtain ⟨W6, hW6⟩ : ∃ W6, W6 = (W.alloc (.cells #[.bool false, .int .i64 0, .int .i64 0] 87)).setCells W.heap.size 0 [.bool s.1, .int .i64 s.2.1, .int .i64 s.2.2] := ⟨_, rfl⟩
        obtain ⟨X, hX⟩ : ∃ X, X = W.heap.size := ⟨_, rfl⟩
        rw [← hW6] at HEp HBp ⊢
        rw [← hX] at HBp ⊢
        clear hW6 Hst hX
        gi_wp2_with fail
        have hs := Hs.out
        clear Hs
        subst hs
        exact HK.out X _ ((Bl.others_ext HEp.out).from _) (Bl.KeepS.of_below HEp.out HKp.out.1) ⟨HDu.out.ext HEp.out, HKp.out.trans (Bl.KeepS.of_below HEp.out HKp.out.1), HBW.out.trans (HEp.out.mono (by have := HKp.out.1; omega))⟩ HBp.out
      case hbody =>
        rintro lr pre x X W ⟨hDu, hKp, hBW⟩ hBp hlen
        have hx := x.isLt
        have htn0 : 0 < tn := by omega
        have hrd := Bl.climb2_fold_dig (fun x : Fin tn => (T.getD (tn - 1 - x.val) default).1) (fun x : Fin tn => q.getD x.val []) pre (r0, r0) Hr0.out Hr0.out
        have hfs : (pre ++ [x]).foldl (fun r (x : Fin tn) => Bl.up2 Bl.ndD r (T.getD (tn - 1 - x.val) default).1 (q.getD x.val [])) (r0, r0) = Bl.up2 Bl.ndD (pre.foldl (fun r (x : Fin tn) => Bl.up2 Bl.ndD r (T.getD (tn - 1 - x.val) default).1 (q.getD x.val [])) (r0, r0)) (T.getD (tn - 1 - x.val) default).1 (q.getD x.val []) := by rw [List.foldl_append]; rfl
        obtain ⟨⟨ra, rb⟩, hrr⟩ : ∃ rr, rr = pre.foldl (fun r (x : Fin tn) => Bl.up2 Bl.ndD r (T.getD (tn - 1 - x.val) default).1 (q.getD x.val [])) (r0, r0) := ⟨_, rfl⟩
        rw [← hrr] at hDu hfs hrd
        obtain ⟨⟨hal, hab⟩, hbl, hbb⟩ := hrd
        obtain ⟨FR, hFR⟩ : ∃ FR, FR = (pre ++ [x]).foldl (fun r (x : Fin tn) => Bl.up2 Bl.ndD r (T.getD (tn - 1 - x.val) default).1 (q.getD x.val [])) (r0, r0) := ⟨_, rfl⟩
        rw [← hFR] at hfs
        have HFR := Bl.hid hFR
        clear hrr hFR
        obtain ⟨hel, heb⟩ := Hqd.out.get (i := x.val) (by rw [Hql.out]; omega)
        obtain ⟨bq, oq, cq, hpe, hq1, hq2, hblq, hrq⟩ := Bl.RdD.pos (by have h := HRq.out; rw [← Hql.out] at h; exact h) Hqd.out (by rw [Hql.out]; omega)
        injection hpe with hpe1 hpe2 hpe3
        have hbq : bq < BB := Nat.lt_trans (HRb.out bq oq htn0 hpe1) (by have := HwB.out; omega)
        have hWk : Bl.KeepS (fun k => k = A ∨ k = B) Wk.heap.size Wk W := Bl.KeepS.trans (Bl.KeepS.of_below HE8.out (Nat.le_refl _)) ⟨hKp.1, fun k hk hn => hKp.2 k (by omega) hn⟩
        have hrW := Bl.digit_at (hWk.range hrq (by omega) (by omega)) Hqd.out (i := x.val) (by rw [Hql.out]; omega)
        have hc9 : W.cell? ⟨P9, 0, none⟩ = some (.slice (some ⟨bq, oq, none⟩) tn cs) := by
          rw [hWk.cell (by have := H9l.out; omega) (by have := H9l.out; omega), HC9k.out, hpe1]
        have hc12 : W.cell? ⟨X12, 0, none⟩ = some (.slice pt tn ct) := by
          rw [hWk.cell (by have := H12l.out; omega) (by have := H12l.out; omega), HC12k.out]
        obtain ⟨d, hdd⟩ : ∃ d, d = q.getD x.val [] := ⟨_, rfl⟩
        rw [← hdd] at hel heb hfs hrW
        obtain ⟨j, hj⟩ : ∃ j, j = tn - 1 - x.val := ⟨_, rfl⟩
        rw [← hj] at hBp hfs
        obtain ⟨xv, hxv⟩ : ∃ xv, xv = x.val := ⟨_, rfl⟩
        rw [← hxv] at hj hrW hx
        have HLq := Bl.hid (Bl.load_ints (P := Tryd.prog) hrW Tryd.underlying39 (by kernel_rfl) hel)
        have hgW : Bl.Ext w W := Below.trans HEw8.out (hBW.mono (by have := HwB.out; omega))
        have HN1 : Hid (∀ w1, Bl.Ext W w1 → Calls Tryd.prog 60 #[.agg (Bl.ints .u8 d).toArray, .agg (Bl.ints .u8 ra).toArray] w1 fun e' w' => e' = .returned (.agg (Bl.ints .u8 (Bl.ndD d ra)).toArray) ∧ Bl.Ext w1 w') := Bl.hid fun w1 h1 => node_any d ra w1 hel hal heb hab (Hg.out.ext (hgW.trans h1))
        have HN2 : Hid (∀ w1, Bl.Ext W w1 → Calls Tryd.prog 60 #[.agg (Bl.ints .u8 d).toArray, .agg (Bl.ints .u8 rb).toArray] w1 fun e' w' => e' = .returned (.agg (Bl.ints .u8 (Bl.ndD d rb)).toArray) ∧ Bl.Ext w1 w') := Bl.hid fun w1 h1 => node_any d rb w1 hel hbl heb hbb (Hg.out.ext (hgW.trans h1))
        have HN3 : Hid (∀ w1, Bl.Ext W w1 → Calls Tryd.prog 60 #[.agg (Bl.ints .u8 rb).toArray, .agg (Bl.ints .u8 d).toArray] w1 fun e' w' => e' = .returned (.agg (Bl.ints .u8 (Bl.ndD rb d)).toArray) ∧ Bl.Ext w1 w') := Bl.hid fun w1 h1 => node_any rb d w1 hbl hel hbb heb (Hg.out.ext (hgW.trans h1))
        have HBz := Bl.hid (Bl.BoxD.new W 39 #[.int .u8 0, .int .u8 0, .int .u8 0, .int .u8 0, .int .u8 0, .int .u8 0, .int .u8 0, .int .u8 0, .int .u8 0, .int .u8 0, .int .u8 0, .int .u8 0, .int .u8 0, .int .u8 0, .int .u8 0, .int .u8 0, .int .u8 0, .int .u8 0, .int .u8 0, .int .u8 0, .int .u8 0, .int .u8 0, .int .u8 0, .int .u8 0, .int .u8 0, .int .u8 0, .int .u8 0, .int .u8 0, .int .u8 0, .int .u8 0, .int .u8 0, .int .u8 0] rfl)
        have Hst := Bl.hid (HBz.out.store (P := Tryd.prog) (ty := 39) (d' := d) hel (by kernel_rfl))
        have HEp : Hid (Bl.Ext W ((W.alloc (.cells #[.int .u8 0, .int .u8 0, .int .u8 0, .int .u8 0, .int .u8 0, .int .u8 0, .int .u8 0, .int .u8 0, .int .u8 0, .int .u8 0, .int .u8 0, .int .u8 0, .int .u8 0, .int .u8 0, .int .u8 0, .int .u8 0, .int .u8 0, .int .u8 0, .int .u8 0, .int .u8 0, .int .u8 0, .int .u8 0, .int .u8 0, .int .u8 0, .int .u8 0, .int .u8 0, .int .u8 0, .int .u8 0, .int .u8 0, .int .u8 0, .int .u8 0, .int .u8 0] 39)).setCells W.heap.size 0 (Bl.ints .u8 d))) := Bl.hid (Bl.below_setCells _ _ _ _ (Bl.ext_alloc _ _) (Nat.le_refl _))
        have HB18 := Bl.hid (HBz.out.set hel)
        have HDu := Bl.hid hDu
        have HKp := Bl.hid hKp
        have HBW := Bl.hid hBW
        have HBp := Bl.hid hBp
        have Hfs := Bl.hid hfs
        have h1' : 1 ≤ 9 - 1 - 1 := by decide
        have ha1 : IntKind.i64.wrap ((tn : Int) - 1) = (tn : Int) - 1 := IntWalk.i64_in _ (by omega)
        have ha2 : IntKind.i64.wrap ((tn : Int) - 1 - (j : Int)) = (xv : Int) := by rw [IntWalk.i64_in _ (by omega)]; omega
        have ha3 : (tn : Int) - 1 - (j : Int) = (xv : Int) := by omega
        have hi0 : (0 : Int) ≤ (xv : Int) := by omega
        have hi1 : (xv : Int) < (tn : Int) := by omega
        have hxj : tn - 1 - x.val = j := by rw [← hxv]; exact hj.symm
        simp only [hxj]
        clear hal hab hbl hbb hfs hel heb hpe1 hpe2 hpe3 hq1 hq2 hblq hrq hbq hWk hrW hdd hj hgW hDu hKp hBW hBp hx hlen hxv hxj
        gi_wp2_with (with_reducible refine Bl.stopI_load (ty := 39) ?_)
        refine Bl.go_on ?_
        refine Bl.wpLI_load rfl HLq.out ?_
        gi_wp2_with (with_reducible refine Bl.stopI_store (ty := 39) ?_)
        refine Bl.go_on ?_
        refine Bl.wpLI_store0 rfl rfl Hst.out ?_
        obtain ⟨W6, hW6⟩ : ∃ W6, W6 = (W.alloc (.cells #[.int .u8 0, .int .u8 0, .int .u8 0, .int .u8 0, .int .u8 0, .int .u8 0, .int .u8 0, .int .u8 0, .int .u8 0, .int .u8 0, .int .u8 0, .int .u8 0, .int .u8 0, .int .u8 0, .int .u8 0, .int .u8 0, .int .u8 0, .int .u8 0, .int .u8 0, .int .u8 0, .int .u8 0, .int .u8 0, .int .u8 0, .int .u8 0, .int .u8 0, .int .u8 0, .int .u8 0, .int .u8 0, .int .u8 0, .int .u8 0, .int .u8 0, .int .u8 0] 39)).setCells W.heap.size 0 (Bl.ints .u8 d) := ⟨_, rfl⟩
        obtain ⟨X18, hX18⟩ : ∃ X18, X18 = W.heap.size := ⟨_, rfl⟩
        rw [← hW6] at HEp HB18 ⊢
        rw [← hX18] at HB18 ⊢
        have hcX : W6.cell? ⟨X, 0, none⟩ = some (.bool (T.getD j default).1) := ((Bl.bcell HEp.out).1 X 0 (World.block_lt_of_cell? _ _ HBp.out)).trans HBp.out
        have HDu6 := Bl.hid (HDu.out.ext HEp.out)
        generalize (T.getD j default).1 = kd at hcX Hfs
        clear hW6 Hst hX18 HBz HLq hc9 hc12 ha1 ha2 ha3
        have HPost : Hid (∀ (w9 : World) (x' y' : List Int), Bl.Ext W w9 → x'.length = 32 → y'.length = 32 → FR = (x', y') → ∀ w10, Bl.Duo w10 A B x' y' → Bl.KeepS (fun k => k = A ∨ k = B) w8.heap.size W w10 → KeepsOthers W w10 → Below BB w9 w10 → (KeepsFrom w8.heap.size W w10 ∧ Bl.KeepS (fun k => k = A ∨ k = B) w8.heap.size W w10 ∧ (Bl.Duo w10 A B ((pre ++ [x]).foldl (fun r (x : Fin tn) => Bl.up2 Bl.ndD r (T.getD (tn - 1 - x.val) default).1 (q.getD x.val [])) (r0, r0)).1 ((pre ++ [x]).foldl (fun r (x : Fin tn) => Bl.up2 Bl.ndD r (T.getD (tn - 1 - x.val) default).1 (q.getD x.val [])) (r0, r0)).2 ∧ (Bl.KeepS (fun k => k = A ∨ k = B) w8.heap.size w8 w10 ∧ Below BB w8 w10)))) := Bl.hid fun w9 x' y' hE9 _ _ hF w10 h10 hk ho hb =>
          ⟨ho.from _, hk, by rw [← HFR.out, hF]; exact h10, HKp.out.trans hk, (HBW.out.trans (hE9.mono (by have := HKp.out.1; omega))).trans hb⟩
        cases kd with
        | true =>
          have HLd : Hid (∀ w1, Bl.Ext W6 w1 → (Instr.loadAt 39 (.pointer (some ⟨X18, 0, none⟩))).run Tryd.prog w1 = .ok (.agg (Bl.ints .u8 d).toArray) w1) := Bl.hid fun w1 h1 => (HB18.out.ext h1).load Tryd.underlying39 (by kernel_rfl)
          have HLa : Hid (∀ w1, Bl.Ext W6 w1 → (Instr.loadAt 39 (.pointer (some ⟨A, 0, none⟩))).run Tryd.prog w1 = .ok (.agg (Bl.ints .u8 ra).toArray) w1) := Bl.hid fun w1 h1 => (HDu6.out.a.ext h1).load Tryd.underlying39 (by kernel_rfl)
          have HLb : Hid (∀ w1, Bl.Ext W6 w1 → (Instr.loadAt 39 (.pointer (some ⟨B, 0, none⟩))).run Tryd.prog w1 = .ok (.agg (Bl.ints .u8 rb).toArray) w1) := Bl.hid fun w1 h1 => (HDu6.out.b.ext h1).load Tryd.underlying39 (by kernel_rfl)
          obtain ⟨na, hna⟩ : ∃ na, na = Bl.ndD d ra := ⟨_, rfl⟩
          obtain ⟨nb, hnb⟩ : ∃ nb, nb = Bl.ndD d rb := ⟨_, rfl⟩
          have Hnal : Hid (na.length = 32) := Bl.hid (by rw [hna]; exact Bl.ndD_length _ _)
          have Hnbl : Hid (nb.length = 32) := Bl.hid (by rw [hnb]; exact Bl.ndD_length _ _)
          have Hfs1 : Hid (FR = (na, nb)) := Bl.hid (by rw [Hfs.out, hna, hnb]; rfl)
          rw [← hna] at HN1
          rw [← hnb] at HN2
          clear hna hnb Hfs
          gi_wp2_with fail
          apply Bl.wpIn_region_evK (Bl.Ext) (fun _ _ _ => True) 6 [64, 65, 66, 67, 68, 69] [Bl.eqv _, Bl.eqv _, Bl.eqv _, Bl.eqv _, Bl.eqv _, Bl.eqv _] (fun w => Below.refl _ w) (fun a b c h k => Bl.Ext.trans h k) (by kernel_rfl) (by kernel_rfl) (by kernel_rfl) (by kernel_rfl) (by kernel_rfl)
          case hsteps =>
            refine ⟨?_, ?_, ?_, ?_, ?_, ?_, trivial⟩
            all_goals
              intro d ev w1 hext HJd Hanc Hdes hni hb hd
              replace Hanc := Bl.hid Hanc
              replace HJd := Bl.hid HJd
              replace Hdes := Bl.hid Hdes
              replace hni := Bl.hid hni
              have e14 := hb 14 (by decide)
              have e15 := hb 15 (by decide)
              have e18 := hb 18 (by decide)
              clear hb
              simp only [Array.getD_eq_getD_getElem?, List.getElem?_toArray, List.getElem?_cons_succ, List.getElem?_cons_zero, Option.getD_some] at e14 e15 e18
              simp only [Bl.DepsE2, List.getElem?_cons_succ, List.getElem?_cons_zero, Option.bind_some, List.getD_cons_succ, List.getD_cons_zero, Bl.eqv, and_true] at hd
              have hc := (Bl.bcell hext).1
              simp only [Region.wanted, if_true]
              first
              | ((with_reducible refine Bl.goodX_load (fun w => Below.refl _ w) ?_ (HLd.out _ hext) ?_); exact e18; exact ⟨rfl, trivial⟩) | ((with_reducible refine Bl.goodX_load (fun w => Below.refl _ w) ?_ (HLa.out _ hext) ?_); exact e14; exact ⟨rfl, trivial⟩) | ((with_reducible refine Bl.goodX_load (fun w => Below.refl _ w) ?_ (HLb.out _ hext) ?_); exact e15; exact ⟨rfl, trivial⟩)
              | (go_simp; first | (go_at_call 60; (with_reducible refine (HN1.out _ (HEp.out.trans hext)).mono ?_); rintro e' w2 ⟨rfl, hE2⟩; exact ⟨_, rfl, hE2, rfl⟩) | (go_at_call 60; (with_reducible refine (HN2.out _ (HEp.out.trans hext)).mono ?_); rintro e' w2 ⟨rfl, hE2⟩; exact ⟨_, rfl, hE2, rfl⟩) | exact ⟨Below.refl _ _, rfl⟩ | exact Below.refl _ _)
          case hmono => exact ⟨Bl.monoR_eqv _, Bl.monoR_eqv _, Bl.monoR_eqv _, Bl.monoR_eqv _, Bl.monoR_eqv _, Bl.monoR_eqv _, trivial⟩
          case hR0 => exact (Below.refl _ _).drew
          case hend =>
            intro u w1 hext hJ hend
            simp only [Bl.EndE, List.getElem?_cons_succ, List.getElem?_cons_zero, Option.bind_some, List.getD_cons_succ, List.getD_cons_zero, Bl.eqv, true_and] at hend
            simp only [Bl.fillAct, List.setIfInBounds_toArray, List.set_cons_succ, List.set_cons_zero, List.drop_succ_cons, List.drop_zero, hend]
            have HE9 : Hid (Bl.Ext W w1) := Bl.hid (HEp.out.trans hext)
            have HD9 := Bl.hid (HDu6.out.ext hext)
            have HD10 := Bl.hid (HD9.out.setA Hnal.out)
            have Hs1 := Bl.hid (HD9.out.a.store (P := Tryd.prog) (ty := 39) (d' := na) Hnal.out (by kernel_rfl))
            have Hs2 := Bl.hid (HD10.out.b.store (P := Tryd.prog) (ty := 39) (d' := nb) Hnbl.out (by kernel_rfl))
            have Hpost := Bl.hid (HPost.out w1 na nb HE9.out Hnal.out Hnbl.out Hfs1.out ((w1.setCells A 0 (Bl.ints .u8 na)).setCells B 0 (Bl.ints .u8 nb)) (HD10.out.setB Hnbl.out)
              ((Bl.KeepS.of_below HE9.out HKp.out.1).two _ _) (Bl.others_setCells _ _ _ _ (Bl.others_setCells _ _ _ _ (Bl.others_ext HE9.out))) (Bl.below_setCells _ _ _ _ (Bl.below_setCells _ _ _ _ (Below.refl _ _) hAB1) hAB2))
            clear hext hend hJ
            gi_wp2_with (with_reducible refine Bl.stopI_store (ty := 39) ?_)
            refine Bl.go_on ?_
            refine Bl.wpLI_store0 rfl rfl Hs1.out ?_
            gi_wp2_with (with_reducible refine Bl.stopI_store (ty := 39) ?_)
            refine Bl.go_on ?_
            refine Bl.wpLI_store0 rfl rfl Hs2.out ?_
            gi_wp2
            exact Hpost.out
          case hJ0 => trivial
        | false =>
          obtain ⟨nb, hnb⟩ : ∃ nb, nb = Bl.ndD rb d := ⟨_, rfl⟩
          have Hnbl : Hid (nb.length = 32) := Bl.hid (by rw [hnb]; exact Bl.ndD_length _ _)
          have Hfs1 : Hid (FR = (ra, nb)) := Bl.hid (by rw [Hfs.out, hnb]; rfl)
          rw [← hnb] at HN3
          clear hnb Hfs
          gi_wp2_with (with_reducible refine Bl.stopI_load (ty := 39) ?_)
          refine Bl.go_on ?_
          refine Bl.wpLI_load rfl (HDu6.out.b.load Tryd.underlying39 (by kernel_rfl)) ?_
          gi_wp2_with (with_reducible refine Bl.stopI_load (ty := 39) ?_)
          refine Bl.go_on ?_
          refine Bl.wpLI_load rfl (HB18.out.load Tryd.underlying39 (by kernel_rfl)) ?_
          gi_wp2_with fail
          refine ⟨trivial, ?_⟩
          refine (CallsIn.inRound lr (callsIn_wide.2 (HN3.out W6 HEp.out))).mono ?_
          rintro e' w9 ⟨rfl, hE9⟩
          have HE9 : Hid (Bl.Ext W w9) := Bl.hid (HEp.out.trans hE9)
          have HD9 := Bl.hid (HDu6.out.ext hE9)
          have Hs2 := Bl.hid (HD9.out.b.store (P := Tryd.prog) (ty := 39) (d' := nb) Hnbl.out (by kernel_rfl))
          have Hpost := Bl.hid (HPost.out w9 ra nb HE9.out HD9.out.a.len Hnbl.out Hfs1.out (w9.setCells B 0 (Bl.ints .u8 nb)) (HD9.out.setB Hnbl.out)
            (Bl.KeepS.setCells (Q := fun k => k = A ∨ k = B) (Bl.KeepS.of_below HE9.out HKp.out.1) (.inr rfl) _ _) (Bl.others_setCells _ _ _ _ (Bl.others_ext HE9.out)) (Bl.below_setCells _ _ _ _ (Below.refl _ _) hAB2))
          clear hE9
          gi_wp2_with (with_reducible refine Bl.stopI_store (ty := 39) ?_)
          refine Bl.go_on ?_
          refine Bl.wpLI_store0 rfl rfl Hs2.out ?_
          gi_wp2
          exact Hpost.out
      case hdone =>
        rintro K ys W hK1 rfl ⟨hDu, hKp, hBW⟩ hK
        have hKl : K < W.heap.size := (Array.getElem?_eq_some_iff.1 hK).1
        rw [HFin.out] at hDu
        have Hx : Hid (M.1.length = 32) := Bl.hid HMd.out.1.1
        have Hy : Hid (M.2.length = 32) := Bl.hid HMd.out.2.1
        obtain ⟨x, y⟩ := M
        have HDu := Bl.hid hDu
        have hWk : Bl.KeepS (fun k => k = A ∨ k = B) Wk.heap.size Wk W := Bl.KeepS.trans (Bl.KeepS.of_below HE8.out (Nat.le_refl _)) ⟨hKp.1, fun k hk hn => hKp.2 k (by omega) hn⟩
        have HBo9 := Bl.hid (HBok.out.same (hWk.2 _ HBok.out.lt (by have := HwB.out; omega)))
        have HBn9 := Bl.hid (HBnk.out.same (hWk.2 _ HBnk.out.lt (by have := HwB.out; omega)))
        have HEW : Hid (Bl.Ext w W) := Bl.hid (Below.trans HEw8.out (hBW.mono (by have := HwB.out; omega)))
        have HK : Hid (w.heap.size ≤ K ∧ K < W.heap.size ∧ W.heap[K]? = some (.deferred (some []))) := Bl.hid ⟨by have := HwB.out; omega, hKl, hK⟩
        have Hl1 := Bl.hid (HDu.out.a.load (P := Tryd.prog) (ty := 39) Tryd.underlying39 (by kernel_rfl))
        have Hl2 := Bl.hid (HBo9.out.load (P := Tryd.prog) (ty := 39) Tryd.underlying39 (by kernel_rfl))
        have Hl3 := Bl.hid (HDu.out.b.load (P := Tryd.prog) (ty := 39) Tryd.underlying39 (by kernel_rfl))
        have Hl4 := Bl.hid (HBn9.out.load (P := Tryd.prog) (ty := 39) Tryd.underlying39 (by kernel_rfl))
        have hcF := ((Bl.bcell HEW.out).1 _ 0 HFl.out).trans HF15.out
        clear hDu hKp hBW hK hK1 hKl hWk hcs hsz8
        try refine wpIn_wide.2 ?_
        go_wp2_with (with_reducible refine Bl.stop_load (ty := 39) ?_)
        refine Bl.go_on ?_
        refine Bl.wpL_load rfl Hl1.out ?_
        go_wp2_with (with_reducible refine Bl.stop_load (ty := 39) ?_)
        refine Bl.go_on ?_
        refine Bl.wpL_load rfl Hl2.out ?_
        by_cases hxo : x = old
        · have heq : ∀ w, (Op.equalIn 10000 39 (.agg (Bl.ints .u8 x).toArray) (.agg (Bl.ints .u8 old).toArray)).run Tryd.prog w = .ok true w := fun w => by
            rw [Bl.eq10k Tryd.underlying39 Tryd.underlying5 (fun w => by simp [go_sem]) x old Hx.out Hol.out w, decide_eq_true hxo]
          by_cases hyn : y = now
          · have heq2 : ∀ w, (Op.equalIn 10000 39 (.agg (Bl.ints .u8 y).toArray) (.agg (Bl.ints .u8 now).toArray)).run Tryd.prog w = .ok true w := fun w => by
              rw [Bl.eq10k Tryd.underlying39 Tryd.underlying5 (fun w => by simp [go_sem]) y now Hy.out Hnl.out w, decide_eq_true hyn]
            have HR : Hid (R = 0) := Bl.hid (HCk1.out (by rw [hxo, hyn]))
            clear hxo hyn HCk1 HCk2
            go_wp2_with (with_reducible refine Bl.stop_loadg (ty := 39) ?_)
            refine Bl.go_on ?_
            refine Bl.wpL_loadg rfl rfl Hl3.out ?_
            go_wp2_with (with_reducible refine Bl.stop_loadg (ty := 39) ?_)
            refine Bl.go_on ?_
            refine Bl.wpL_loadg rfl rfl Hl4.out ?_
            go_wp2_with fail
            refine Bl.leaves_marks (B := w.heap.size) _ W.heap.size _ ⟨K, rfl, HK.out.1, HK.out.2.1, HK.out.2.2, trivial⟩ ?_
            intro w' hw'
            exact ⟨_, Bl.results_tmp1 rfl rfl, by rw [HR.out]; rfl, Below.trans HEW.out hw'⟩
          · have heq2 : ∀ w, (Op.equalIn 10000 39 (.agg (Bl.ints .u8 y).toArray) (.agg (Bl.ints .u8 now).toArray)).run Tryd.prog w = .ok false w := fun w => by
              rw [Bl.eq10k Tryd.underlying39 Tryd.underlying5 (fun w => by simp [go_sem]) y now Hy.out Hnl.out w, decide_eq_false hyn]
            have HR : Hid (R = 15) := Bl.hid (HCk2.out (fun q => hyn (by injection q)))
            clear hxo hyn HCk1 HCk2
            go_wp2_with (with_reducible refine Bl.stop_loadg (ty := 39) ?_)
            refine Bl.go_on ?_
            refine Bl.wpL_loadg rfl rfl Hl3.out ?_
            go_wp2_with (with_reducible refine Bl.stop_loadg (ty := 39) ?_)
            refine Bl.go_on ?_
            refine Bl.wpL_loadg rfl rfl Hl4.out ?_
            go_wp2_with fail
            refine Bl.leaves_marks (B := w.heap.size) _ W.heap.size _ ⟨K, rfl, HK.out.1, HK.out.2.1, HK.out.2.2, trivial⟩ ?_
            intro w' hw'
            exact ⟨_, Bl.results_tmp1 rfl rfl, by rw [HR.out]; rfl, Below.trans HEW.out hw'⟩
        · have heq : ∀ w, (Op.equalIn 10000 39 (.agg (Bl.ints .u8 x).toArray) (.agg (Bl.ints .u8 old).toArray)).run Tryd.prog w = .ok false w := fun w => by
            rw [Bl.eq10k Tryd.underlying39 Tryd.underlying5 (fun w => by simp [go_sem]) x old Hx.out Hol.out w, decide_eq_false hxo]
          have HR : Hid (R = 15) := Bl.hid (HCk2.out (fun q => hxo (by injection q)))
          clear hxo HCk1 HCk2
          go_wp2_with fail
          refine Bl.leaves_marks (B := w.heap.size) _ W.heap.size _ ⟨K, rfl, HK.out.1, HK.out.2.1, HK.out.2.2, trivial⟩ ?_
          intro w' hw'
          exact ⟨_, Bl.results_tmp1 rfl rfl, by rw [HR.out]; rfl, Below.trans HEW.out hw'⟩
      case hstop =>
        rintro K c' pre W _ _ h _
        exact h.elim
    | false =>
      have HcT1 : Hid (C = tn + 1) := Bl.hid (by have h := HcT.out; rw [if_neg (by decide)] at h; exact h)
      have HMf1 := Bl.hid (HMf.out rfl)
      clear HMt HMf HcT
      have hCt := HcT1.out
      subst hCt
      obtain ⟨r0, q, hpq⟩ : ∃ r0 q, p = r0 :: q := by
        match p, Hpl.out with
        | x :: y, _ => exact ⟨x, y, rfl⟩
      have hq : q.length = tn := by have := Hpl.out; rw [hpq, List.length_cons] at this; omega
      have hR4 : Bl.RdD W4 (.slice pp (tn + 1) cp) p := Bl.Rds.ext HR0.out (Below.trans HE03.out (HEw.out.mono (by have := HwB.out; omega)))
      obtain ⟨bq, oq, cq, hpe, hq1, hq2, hbl, hrg⟩ := Bl.RdD.pos hR4 Hdp.out (by rw [Hpl.out]; omega)
      injection hpe with hpe1 hpe2 hpe3
      subst hpe1
      subst hpe3
      have Htn1 : Hid (1 ≤ tn) := Bl.hid (by
        rcases Nat.eq_zero_or_pos tn with h0 | h0
        · exfalso
          have hTn : T = [] := List.length_eq_zero_iff.1 (by rw [← Htn.out, h0])
          exact HNe.out rfl hTn
        · exact h0)
      have hr0 := Bl.digit_at hrg Hdp.out (i := 0) (by rw [Hpl.out]; omega)
      have hr0d := Hdp.out.get (i := 0) (by rw [Hpl.out]; omega)
      have hg0 : p.getD 0 [] = r0 := by rw [hpq]; rfl
      rw [hg0, Nat.zero_mul, Nat.add_zero] at hr0
      rw [hg0] at hr0d
      have Hr0 : Hid (r0.length = 32 ∧ Bl.Byt r0) := Bl.hid hr0d
      have HFin : Hid ((List.finRange tn).foldl (fun r (x : Fin tn) => Bl.up2 Bl.ndD r (T.getD (tn - 1 - x.val) default).1 (q.getD x.val [])) (r0, r0) = M) := Bl.hid (by
        rw [HMf1.out, hpq]
        exact Bl.climb_all T q tn Htn.out.symm hq (r0, r0))
      have Hql := Bl.hid hq
      have Hqd : Hid (Bl.Dig q) := Bl.hid (fun x hx => Hdp.out x (by rw [hpq]; exact List.mem_cons_of_mem _ hx))
      have HRq4 : Hid (Bl.RdD W4 (.slice (some ⟨bq, oq + 32, none⟩) tn (cp - 1)) q) := Bl.hid (by
        have h := Bl.RdD.drop hR4 Hdp.out 1 (by rw [Hpl.out]; have := Htn1.out; omega)
        rw [hpq] at h
        exact h)
      have hbqw : bq < w.heap.size := by
        obtain ⟨b9, o9, c9, hpe9, _, _, hbl9, _⟩ := Bl.RdD.pos HR0.out Hdp.out (by rw [Hpl.out]; omega)
        injection hpe9 with hpe9
        injection hpe9 with hpe9
        injection hpe9 with hpe9
        omega
      have HLp : Hid (∀ w5, Below BB W4 w5 → (Instr.loadAt 39 (.pointer (some ⟨bq, oq, none⟩))).run Tryd.prog w5 = .ok (.agg (Bl.ints .u8 r0).toArray) w5) := Bl.hid fun w5 h5 => Bl.load_ints (Bl.rangeAt_below hr0 h5 (by have := HwB.out; omega)) Tryd.underlying39 (by kernel_rfl) hr0d.1
      have HC94 : Hid (W4.cell? ⟨P9, 0, none⟩ = some (.slice (some ⟨bq, oq, none⟩) (tn + 1) cp)) := Bl.hid (((Bl.bcell HEw.out).1 P9 0 H9l.out).trans HC93.out.1)
      have HC94f : Hid (W4.frozen? ⟨P9, 0, none⟩ = false) := Bl.hid (((Bl.bcell HEw.out).2 P9 0 H9l.out).trans HC93.out.2)
      have hx2 : ¬ (1 = cp) := by have := Htn1.out; omega
      have hx3 : (1 : Int) ≤ (cp : Int) := by omega
      have hx4 : (1 : Int) ≤ (tn : Int) + 1 := by omega
      have hx5 : (tn : Int) + 1 ≤ (cp : Int) := by omega
      have hx6 : (0 : Int) < (tn : Int) + 1 := by omega
      have HWl : Hid (BB ≤ W4.heap.size) := Bl.hid (by rw [HBB.out]; exact HEw.out.size)
      have Hbqw := Bl.hid hbqw
      clear hpe2 hq1 hq2 hbl hrg hR4 hr0 hr0d hg0 hq hpq hbqw
      go_wp2_with fail
      apply Bl.wp_region_evK (fun a a' => Below BB a a') (Bl.HJ 6 (fun w' => Bl.Duo w' A B old old) (fun w' => Bl.Duo w' A B r0 old)) 7 [42, 43, 44, 45, 46, 47] [Bl.eqv _, Bl.eqv _, Bl.eqv _, Bl.eqv _, Bl.eqv _, Bl.eqv _, Bl.eqv _] (fun w => Below.refl _ w) (fun a b c h k => Below.trans h k) (by kernel_rfl) (by kernel_rfl) (by kernel_rfl) (by kernel_rfl)
      case hsteps =>
        refine ⟨?_, ?_, ?_, ?_, ?_, ?_, ?_, trivial⟩
        all_goals
          intro d ev w1 hext HJd Hanc Hdes hni hb hd
          replace Hanc := Bl.hid Hanc
          replace HJd := Bl.hid HJd
          replace Hdes := Bl.hid Hdes
          replace hni := Bl.hid hni
          have e9 := hb 9 (by decide)
          have e14 := hb 14 (by decide)
          clear hb
          simp only [Array.getD_eq_getD_getElem?, List.getElem?_toArray, List.getElem?_cons_succ, List.getElem?_cons_zero, Option.getD_some] at e9 e14
          simp only [Bl.DepsE2, List.getElem?_cons_succ, List.getElem?_cons_zero, Option.bind_some, List.getD_cons_succ, List.getD_cons_zero, Bl.eqv, and_true] at hd
          have hc := (Bl.bcell hext).1
          have q1 := (hc P9 0 H9l.out).trans HC94.out
          simp only [Region.wanted, if_true]
          first
          | ((with_reducible refine Bl.goodX_load (fun w => Below.refl _ w) ?_ (HLp.out w1 hext) ?_); exact hd; exact ⟨rfl, Bl.HJ.same (by decide) HJd.out⟩) | ((with_reducible refine Bl.goodX_store ?_ ?_ ((Bl.HJ.get HJd.out hni.out).a.store Hr0.out.1 (by kernel_rfl)) ?_ ?_); exact e14; (first | exact hd.2.1 | exact hd.1 | exact hd.2 | exact hd); exact Bl.below_setCells _ _ _ _ (Below.refl _ _) HAB.out.1; exact ⟨rfl, Bl.HJ.set (Bl.Duo.setA (Bl.HJ.get HJd.out hni.out) Hr0.out.1)⟩)
          | (go_simp; first | exact ⟨Below.refl _ _, rfl, Bl.HJ.same (by decide) HJd.out⟩ | exact ⟨Below.refl _ _, rfl, Bl.HJ.same (by decide) HJd.out⟩)
      case hmono => exact ⟨Bl.monoR_eqv _, Bl.monoR_eqv _, Bl.monoR_eqv _, Bl.monoR_eqv _, Bl.monoR_eqv _, Bl.monoR_eqv _, Bl.monoR_eqv _, trivial⟩
      case hR0 => exact (Below.refl _ _).drew
      case hend =>
        intro u w1 hext hJ hend
        simp only [Bl.EndE, List.getElem?_cons_succ, List.getElem?_cons_zero, Option.bind_some, List.getD_cons_succ, List.getD_cons_zero, Bl.eqv, true_and] at hend
        simp only [Bl.fillAct, List.setIfInBounds_toArray, List.set_cons_succ, List.set_cons_zero, List.drop_succ_cons, List.drop_zero, hend]
        have hDb := Bl.HJ.got hJ rfl
        have HDb := Bl.hid (Bl.Duo.setB hDb Hr0.out.1)
        have Hst := Bl.hid (hDb.b.store (P := Tryd.prog) (ty := 39) (d' := r0) Hr0.out.1 (by kernel_rfl))
        have HEx : Hid (Below BB W4 (w1.setCells B 0 (Bl.ints .u8 r0))) := Bl.hid (Bl.below_setCells (Bl.ints .u8 r0) B 0 w1 hext HAB.out.2)
        clear hDb hext hJ hend HLp
        go_wp2_with (with_reducible refine Bl.stop_store (ty := 39) ?_)
        refine Bl.go_on ?_
        refine Bl.wpL_store0 rfl rfl Hst.out ?_
        clear Hst
        generalize w1.setCells B 0 (Bl.ints .u8 r0) = W5 at HDb HEx ⊢
        have hq1 : W5.cell? ⟨P9, 0, none⟩ = some (.slice (some ⟨bq, oq, none⟩) (tn + 1) cp) := ((Bl.bcell HEx.out).1 P9 0 H9l.out).trans HC94.out
        have hq2 : W5.frozen? ⟨P9, 0, none⟩ = false := ((Bl.bcell HEx.out).2 P9 0 H9l.out).trans HC94f.out
        have HEwx := Bl.hid (HEw.out.trans HEx.out)
        have HXc : Hid (Bl.Exc P9 W5 (W5.setCell ⟨P9, 0, none⟩ (.slice (some ⟨bq, oq + 32, none⟩) tn (cp - 1)))) := Bl.hid ((Bl.Exc.refl P9 W5).set 0 _)
        have HXs : Hid (W5.heap.size ≤ (W5.setCell ⟨P9, 0, none⟩ (.slice (some ⟨bq, oq + 32, none⟩) tn (cp - 1))).heap.size) := Bl.hid (((Below.refl 0 W5).setCell (Nat.zero_le _) _).size)
        have HXe : Hid (Bl.Ext w (W5.setCell ⟨P9, 0, none⟩ (.slice (some ⟨bq, oq + 32, none⟩) tn (cp - 1)))) := Bl.hid ((Below.trans HE03.out (HEwx.out.mono (by have := HwB.out; omega))).setCell (p := ⟨P9, 0, none⟩) (by show w.heap.size ≤ P9; rw [HP9.out]; omega) _)
        have HC9k : Hid ((W5.setCell ⟨P9, 0, none⟩ (.slice (some ⟨bq, oq + 32, none⟩) tn (cp - 1))).cell? ⟨P9, 0, none⟩ = some (.slice (some ⟨bq, oq + 32, none⟩) tn (cp - 1))) := Bl.hid (World.cell?_setCell_same' _ _ _ (by rw [hq1]; rfl))
        have H12n : Hid (X12 ≠ P9) := Bl.hid (fun q => by
          have h := Hc12.out
          rw [q, HC93.out.1] at h
          injection h with h
          injection h with h1 h2
          omega)
        have h12n : ¬ (X12 = P9) := H12n.out
        have h12m : ¬ (P9 = X12) := fun q => H12n.out q.symm
        have hq12 : W5.cell? ⟨X12, 0, none⟩ = some (.slice pt tn ct) := ((Bl.bcell HEwx.out).1 X12 0 H12l.out).trans Hc12.out
        have hq13 : (W5.setCell ⟨P9, 0, none⟩ (.slice (some ⟨bq, oq + 32, none⟩) tn (cp - 1))).cell? ⟨X12, 0, none⟩ = some (.slice pt tn ct) := by
          rw [World.cell?_of_block (w := W5) (HXc.out X12 H12n.out)]; exact hq12
        have hxw : IntKind.i64.wrap ((tn : Int) + 1 - 1) = (tn : Int) := by rw [Int.add_sub_cancel]; exact IntWalk.i64_in _ (by omega)
        go_wp2_with fail
        obtain ⟨Wk, hWk⟩ : ∃ Wk, Wk = W5.setCell ⟨P9, 0, none⟩ (.slice (some ⟨bq, oq + 32, none⟩) tn (cp - 1)) := ⟨_, rfl⟩
        rw [← hWk] at HXc HXs HXe HC9k ⊢
        have h9b : P9 < BB := H9l.out
        have HDk : Hid (Bl.Duo Wk A B r0 r0) := Bl.hid (HDb.out.other (by have := HAB.out.1; omega) (by have := HAB.out.2; omega) HXc.out)
        have HRq : Hid (Bl.RdD Wk (.slice (some ⟨bq, oq + 32, none⟩) tn (cp - 1)) q) := Bl.hid (by
          have h := HRq4.out
          rcases h with ⟨h1, h2, h3⟩ | ⟨b8, o8, c8, h2, h3, h4, h5⟩
          · exact .inl ⟨h1, h2, h3⟩
          · refine .inr ⟨b8, o8, c8, h2, h3, h4, HXc.out.range (Bl.rangeAt_below h5 HEx.out ?_) ?_⟩
            · injection h2 with h2; injection h2 with h2; injection h2 with h2; have := Hbqw.out; have := HwB.out; omega
            · injection h2 with h2; injection h2 with h2; injection h2 with h2; have := Hbqw.out; have := HP9.out; omega)
        have HC12k : Hid (Wk.cell? ⟨X12, 0, none⟩ = some (.slice pt tn ct)) := Bl.hid (by
          rw [World.cell?_of_block (w := W5) (HXc.out X12 H12n.out)]
          exact ((Bl.bcell HEwx.out).1 X12 0 H12l.out).trans Hc12.out)
        have HTk : Hid (Bl.Rds Wk (.slice pt tn ct) tn (Bl.cellsT T)) := Bl.hid (by
          rcases HT3.out with ⟨h1, h2, h3⟩ | ⟨b8, o8, c8, h2, h3, h4, h5⟩
          · exact .inl ⟨h1, h2, h3⟩
          · have hl8 : b8 < W3.heap.size := Bl.rangeAt_lt h5 (fun z => by have h7 := Bl.cellsT_length T; rw [z, ← Htn.out, List.length_nil] at h7; have := Htn1.out; omega)
            have h2' := h2
            injection h2' with h2'
            refine .inr ⟨b8, o8, c8, h2, h3, h4, HXc.out.range (Bl.rangeAt_below h5 HEwx.out (by rw [HBB.out]; exact hl8)) (by have := (HTb.out b8 o8 h2').1; omega)⟩)
        have HBok : Hid (Bl.BoxD Wk w.heap.size old) := Bl.hid ((HBo3.out.below HEwx.out (by have := HwB.out; omega)).same (HXc.out _ (by have := HP9.out; omega)))
        have HBnk : Hid (Bl.BoxD Wk (w.heap.size + 1) now) := Bl.hid ((HBn3.out.below HEwx.out HwB.out).same (HXc.out _ (by have := HP9.out; omega)))
        have HEk : Hid (Bl.Ext w Wk) := HXe
        have HBk : Hid (BB ≤ Wk.heap.size) := Bl.hid (Nat.le_trans (by rw [HBB.out]; exact HEwx.out.size) HXs.out)
        obtain ⟨ps, hps⟩ : ∃ ps : Option Addr, ps = some ⟨bq, oq + 32, none⟩ := ⟨_, rfl⟩
        obtain ⟨cs, hcs'⟩ : ∃ cs, cs = cp - 1 := ⟨_, rfl⟩
        have HRb : Hid (∀ b' o', 0 < tn → ps = some ⟨b', o', none⟩ → b' < w.heap.size) := Bl.hid fun b' o' _ h => by
          rw [hps] at h
          injection h with h
          injection h with h
          have := Hbqw.out
          omega
        have hcsn : tn ≤ cs := by omega
        have hcsm : cs ≤ 2 ^ 63 - 1 := by omega
        rw [← hps, ← hcs'] at HRq HC9k
        clear h12n h12m hq12 hq13 hps hcs' HMf1 HEw HDa hWk hq1 hq2 HXc HXs HXe HEx HEwx HDb hxw HRq4
        have hc12 := HC12k.out
        try go_wp2_with fail
        refine (backT_any Wk _ _ _).mono ?_
        rintro e w8 ⟨rfl, hw8⟩
        have hE8 : Bl.Ext Wk w8 := by rw [hw8]; exact Bl.ext_alloc _ _
        have hcs : w8.cell? ⟨Wk.heap.size, 0, none⟩ = some (.slice pt tn ct) := by rw [hw8]; exact Bl.cell_new1 _ _ _
        have hsz8 : w8.heap.size = Wk.heap.size + 1 := by rw [hw8, World.size_alloc]
        have hDA := HDk.out.a.lt
        have hDB := HDk.out.b.lt
        have hAB1 := HAB.out.1
        have hAB2 := HAB.out.2
        have hBk := HBk.out
        have HE8 := Bl.hid hE8
        have HEw8 := Bl.hid (HEk.out.trans hE8)
        have HTk8 := Bl.hid (Bl.Rds.ext HTk.out hE8)
        obtain ⟨bt, ot, hpt, hnct⟩ : ∃ bt ot, (0 < tn → pt = some ⟨bt, ot, none⟩ ∧ bt < BB ∧ w8.rangeAt bt ot (Bl.cellsT T)) ∧ tn ≤ ct := by
          rcases HTk8.out with ⟨⟨p1, h1⟩, h2, h3⟩ | ⟨b8, o8, c8, h2, h3, h4, h5⟩
          · exact ⟨0, 0, fun q => by omega, by omega⟩
          · injection h2 with h2a h2b h2c
            exact ⟨b8, o8, fun q => ⟨h2a, (HTb.out b8 o8 h2a).2, h5⟩, by omega⟩
        have Hpt := Bl.hid hpt
        obtain ⟨V, hV⟩ : ∃ V : Nat → Value, V = fun j => .agg #[.bool (T.getD j default).1, .int .i64 (T.getD j default).2.1, .int .i64 (T.getD j default).2.2] := ⟨_, rfl⟩
        have HV := Bl.hid hV
        clear hw8 hE8 hc12 hpt hV
        go_wp2_with fail
        refine (wpIn_wide (n := 9)).1 ?_
        apply Bl.wpIn_rangeFunc_box (F := Fence.wide) (encs := fun x : Fin tn => #[.int .i64 ((tn - 1 - x.val : Nat) : Int), V (tn - 1 - x.val)]) (Kp := Bl.KeepS (fun k => k = A ∨ k = B) w8.heap.size) rfl (by decide) (gf := 80) (lb := #[.pointer (some ⟨Wk.heap.size, 0, none⟩)]) rfl trivial (enters_of Tryd.func80 (by kernel_rfl) rfl)
          (backT_stops 8 Wk.heap.size bt ot tn ct pt (fun h => (Hpt.out h).1) (fun k => k = A ∨ k = B) V (by decide) hnct (by omega) w8 (by omega) (by omega) hcs
            (fun W' hk j hj => by
              obtain ⟨_, hb2, hr8⟩ := Hpt.out (by omega)
              rw [HV.out]
              have hs : T.getD j default = ((T.getD j default).1, (T.getD j default).2.1, (T.getD j default).2.2) := rfl
              exact run_loadAt_mid (P := Tryd.prog) W' bt (ot + j * 3) 87 _ _ (Bl.turn_at (hk.range hr8 (by omega) (by omega)) (by rw [← Htn.out]; exact hj) hs) Tryd.underlying87 rfl (by kernel_rfl)))
          (fun h k => Bl.KeepS.trans h k) (Bl.KeepS.putObj (Nat.le_refl _)) (Below.refl _ _) (fun _ => rfl)
          (fun pre W => Bl.Duo W A B (pre.foldl (fun r (x : Fin tn) => Bl.up2 Bl.ndD r (T.getD (tn - 1 - x.val) default).1 (q.getD x.val [])) (r0, r0)).1 (pre.foldl (fun r (x : Fin tn) => Bl.up2 Bl.ndD r (T.getD (tn - 1 - x.val) default).1 (q.getD x.val [])) (r0, r0)).2 ∧ (Bl.KeepS (fun k => k = A ∨ k = B) w8.heap.size w8 W ∧ Below BB w8 W))
          (fun _ _ _ => False) (Bx := fun x X W => W.cell? ⟨X, 0, none⟩ = some (.bool (T.getD (tn - 1 - x.val) default).1))
        case hI => exact OwnFrom.and Bl.ownFrom_duo (OwnFrom.and (Bl.ownFrom_keepS (Nat.le_refl _) (Nat.le_refl _)) (ownFrom_below (by omega) (by omega)))
        case hIx => exact fun _ _ _ _ _ hs _ _ => hs
        case h0 => exact ⟨HDk.out.ext HE8.out, Bl.KeepS.refl _ _ _, Below.refl _ _⟩
        case hBx => exact fun x X _ W W' row hX hg hr => Bl.cell_own hX hg hr
        case hassign =>
          rintro lr pre x W K ⟨hDu, hKp, hBW⟩ hK
          have hVx : V (tn - 1 - x.val) = .agg #[.bool (T.getD (tn - 1 - x.val) default).1, .int .i64 (T.getD (tn - 1 - x.val) default).2.1, .int .i64 (T.getD (tn - 1 - x.val) default).2.2] := by rw [HV.out]
          obtain ⟨s, hs⟩ : ∃ s, s = T.getD (tn - 1 - x.val) default := ⟨_, rfl⟩
          rw [← hs] at hVx hK
          obtain ⟨hst, hc0, hc1, hc2, hEb⟩ := step_box W s.1 s.2.1 s.2.2
          have Hst := Bl.hid hst
          have HEp := Bl.hid hEb
          have HBp := Bl.hid hc0
          have HDu := Bl.hid hDu
          have HKp := Bl.hid hKp
          have HBW := Bl.hid hBW
          have HK := Bl.hid hK
          have Hs := Bl.hid hs
          simp only [hVx]
          clear hst hc0 hc1 hc2 hEb hDu hKp hBW hVx hs hK
          gi_wp2_with (with_reducible refine Bl.stopI_store (ty := 87) ?_)
          refine Bl.go_on ?_
          refine Bl.wpLI_store0 rfl rfl Hst.out ?_
          obtain ⟨W6, hW6⟩ : ∃ W6, W6 = (W.alloc (.cells #[.bool false, .int .i64 0, .int .i64 0] 87)).setCells W.heap.size 0 [.bool s.1, .int .i64 s.2.1, .int .i64 s.2.2] := ⟨_, rfl⟩
          obtain ⟨X, hX⟩ : ∃ X, X = W.heap.size := ⟨_, rfl⟩
          rw [← hW6] at HEp HBp ⊢
          rw [← hX] at HBp ⊢
          clear hW6 Hst hX
          gi_wp2_with fail
          have hs := Hs.out
          clear Hs
          subst hs
          exact HK.out X _ ((Bl.others_ext HEp.out).from _) (Bl.KeepS.of_below HEp.out HKp.out.1) ⟨HDu.out.ext HEp.out, HKp.out.trans (Bl.KeepS.of_below HEp.out HKp.out.1), HBW.out.trans (HEp.out.mono (by have := HKp.out.1; omega))⟩ HBp.out
        case hbody =>
          rintro lr pre x X W ⟨hDu, hKp, hBW⟩ hBp hlen
          have hx := x.isLt
          have htn0 : 0 < tn := by omega
          have hrd := Bl.climb2_fold_dig (fun x : Fin tn => (T.getD (tn - 1 - x.val) default).1) (fun x : Fin tn => q.getD x.val []) pre (r0, r0) Hr0.out Hr0.out
          have hfs : (pre ++ [x]).foldl (fun r (x : Fin tn) => Bl.up2 Bl.ndD r (T.getD (tn - 1 - x.val) default).1 (q.getD x.val [])) (r0, r0) = Bl.up2 Bl.ndD (pre.foldl (fun r (x : Fin tn) => Bl.up2 Bl.ndD r (T.getD (tn - 1 - x.val) default).1 (q.getD x.val [])) (r0, r0)) (T.getD (tn - 1 - x.val) default).1 (q.getD x.val []) := by rw [List.foldl_append]; rfl
          obtain ⟨⟨ra, rb⟩, hrr⟩ : ∃ rr, rr = pre.foldl (fun r (x : Fin tn) => Bl.up2 Bl.ndD r (T.getD (tn - 1 - x.val) default).1 (q.getD x.val [])) (r0, r0) := ⟨_, rfl⟩
          rw [← hrr] at hDu hfs hrd
          obtain ⟨⟨hal, hab⟩, hbl, hbb⟩ := hrd
          obtain ⟨FR, hFR⟩ : ∃ FR, FR = (pre ++ [x]).foldl (fun r (x : Fin tn) => Bl.up2 Bl.ndD r (T.getD (tn - 1 - x.val) default).1 (q.getD x.val [])) (r0, r0) := ⟨_, rfl⟩
          rw [← hFR] at hfs
          have HFR := Bl.hid hFR
          clear hrr hFR
          obtain ⟨hel, heb⟩ := Hqd.out.get (i := x.val) (by rw [Hql.out]; omega)
          obtain ⟨bq, oq, cq, hpe, hq1, hq2, hblq, hrq⟩ := Bl.RdD.pos (by have h := HRq.out; rw [← Hql.out] at h; exact h) Hqd.out (by rw [Hql.out]; omega)
          injection hpe with hpe1 hpe2 hpe3
          have hbq : bq < BB := Nat.lt_trans (HRb.out bq oq htn0 hpe1) (by have := HwB.out; omega)
          have hWk : Bl.KeepS (fun k => k = A ∨ k = B) Wk.heap.size Wk W := Bl.KeepS.trans (Bl.KeepS.of_below HE8.out (Nat.le_refl _)) ⟨hKp.1, fun k hk hn => hKp.2 k (by omega) hn⟩
          have hrW := Bl.digit_at (hWk.range hrq (by omega) (by omega)) Hqd.out (i := x.val) (by rw [Hql.out]; omega)
          have hc9 : W.cell? ⟨P9, 0, none⟩ = some (.slice (some ⟨bq, oq, none⟩) tn cs) := by
            rw [hWk.cell (by have := H9l.out; omega) (by have := H9l.out; omega), HC9k.out, hpe1]
          have hc12 : W.cell? ⟨X12, 0, none⟩ = some (.slice pt tn ct) := by
            rw [hWk.cell (by have := H12l.out; omega) (by have := H12l.out; omega), HC12k.out]
          obtain ⟨d, hdd⟩ : ∃ d, d = q.getD x.val [] := ⟨_, rfl⟩
          rw [← hdd] at hel heb hfs hrW
          obtain ⟨j, hj⟩ : ∃ j, j = tn - 1 - x.val := ⟨_, rfl⟩
          rw [← hj] at hBp hfs
          obtain ⟨xv, hxv⟩ : ∃ xv, xv = x.val := ⟨_, rfl⟩
          rw [← hxv] at hj hrW hx
          have HLq := Bl.hid (Bl.load_ints (P := Tryd.prog) hrW Tryd.underlying39 (by kernel_rfl) hel)
          have hgW : Bl.Ext w W := Below.trans HEw8.out (hBW.mono (by have := HwB.out; omega))
          have HN1 : Hid (∀ w1, Bl.Ext W w1 → Calls Tryd.prog 60 #[.agg (Bl.ints .u8 d).toArray, .agg (Bl.ints .u8 ra).toArray] w1 fun e' w' => e' = .returned (.agg (Bl.ints .u8 (Bl.ndD d ra)).toArray) ∧ Bl.Ext w1 w') := Bl.hid fun w1 h1 => node_any d ra w1 hel hal heb hab (Hg.out.ext (hgW.trans h1))
          have HN2 : Hid (∀ w1, Bl.Ext W w1 → Calls Tryd.prog 60 #[.agg (Bl.ints .u8 d).toArray, .agg (Bl.ints .u8 rb).toArray] w1 fun e' w' => e' = .returned (.agg (Bl.ints .u8 (Bl.ndD d rb)).toArray) ∧ Bl.Ext w1 w') := Bl.hid fun w1 h1 => node_any d rb w1 hel hbl heb hbb (Hg.out.ext (hgW.trans h1))
          have HN3 : Hid (∀ w1, Bl.Ext W w1 → Calls Tryd.prog 60 #[.agg (Bl.ints .u8 rb).toArray, .agg (Bl.ints .u8 d).toArray] w1 fun e' w' => e' = .returned (.agg (Bl.ints .u8 (Bl.ndD rb d)).toArray) ∧ Bl.Ext w1 w') := Bl.hid fun w1 h1 => node_any rb d w1 hbl hel hbb heb (Hg.out.ext (hgW.trans h1))
          have HBz := Bl.hid (Bl.BoxD.new W 39 #[.int .u8 0, .int .u8 0, .int .u8 0, .int .u8 0, .int .u8 0, .int .u8 0, .int .u8 0, .int .u8 0, .int .u8 0, .int .u8 0, .int .u8 0, .int .u8 0, .int .u8 0, .int .u8 0, .int .u8 0, .int .u8 0, .int .u8 0, .int .u8 0, .int .u8 0, .int .u8 0, .int .u8 0, .int .u8 0, .int .u8 0, .int .u8 0, .int .u8 0, .int .u8 0, .int .u8 0, .int .u8 0, .int .u8 0, .int .u8 0, .int .u8 0, .int .u8 0] rfl)
          have Hst := Bl.hid (HBz.out.store (P := Tryd.prog) (ty := 39) (d' := d) hel (by kernel_rfl))
          have HEp : Hid (Bl.Ext W ((W.alloc (.cells #[.int .u8 0, .int .u8 0, .int .u8 0, .int .u8 0, .int .u8 0, .int .u8 0, .int .u8 0, .int .u8 0, .int .u8 0, .int .u8 0, .int .u8 0, .int .u8 0, .int .u8 0, .int .u8 0, .int .u8 0, .int .u8 0, .int .u8 0, .int .u8 0, .int .u8 0, .int .u8 0, .int .u8 0, .int .u8 0, .int .u8 0, .int .u8 0, .int .u8 0, .int .u8 0, .int .u8 0, .int .u8 0, .int .u8 0, .int .u8 0, .int .u8 0, .int .u8 0] 39)).setCells W.heap.size 0 (Bl.ints .u8 d))) := Bl.hid (Bl.below_setCells _ _ _ _ (Bl.ext_alloc _ _) (Nat.le_refl _))
          have HB18 := Bl.hid (HBz.out.set hel)
          have HDu := Bl.hid hDu
          have HKp := Bl.hid hKp
          have HBW := Bl.hid hBW
          have HBp := Bl.hid hBp
          have Hfs := Bl.hid hfs
          have h1' : 1 ≤ 9 - 1 - 1 := by decide
          have ha1 : IntKind.i64.wrap ((tn : Int) - 1) = (tn : Int) - 1 := IntWalk.i64_in _ (by omega)
          have ha2 : IntKind.i64.wrap ((tn : Int) - 1 - (j : Int)) = (xv : Int) := by rw [IntWalk.i64_in _ (by omega)]; omega
          have ha3 : (tn : Int) - 1 - (j : Int) = (xv : Int) := by omega
          have hi0 : (0 : Int) ≤ (xv : Int) := by omega
          have hi1 : (xv : Int) < (tn : Int) := by omega
          have hxj : tn - 1 - x.val = j := by rw [← hxv]; exact hj.symm
          simp only [hxj]
          clear hal hab hbl hbb hfs hel heb hpe1 hpe2 hpe3 hq1 hq2 hblq hrq hbq hWk hrW hdd hj hgW hDu hKp hBW hBp hx hlen hxv hxj
          gi_wp2_with (with_reducible refine Bl.stopI_load (ty := 39) ?_)
          refine Bl.go_on ?_
          refine Bl.wpLI_load rfl HLq.out ?_
          gi_wp2_with (with_reducible refine Bl.stopI_store (ty := 39) ?_)
          refine Bl.go_on ?_
          refine Bl.wpLI_store0 rfl rfl Hst.out ?_
          obtain ⟨W6, hW6⟩ : ∃ W6, W6 = (W.alloc (.cells #[.int .u8 0, .int .u8 0, .int .u8 0, .int .u8 0, .int .u8 0, .int .u8 0, .int .u8 0, .int .u8 0, .int .u8 0, .int .u8 0, .int .u8 0, .int .u8 0, .int .u8 0, .int .u8 0, .int .u8 0, .int .u8 0, .int .u8 0, .int .u8 0, .int .u8 0, .int .u8 0, .int .u8 0, .int .u8 0, .int .u8 0, .int .u8 0, .int .u8 0, .int .u8 0, .int .u8 0, .int .u8 0, .int .u8 0, .int .u8 0, .int .u8 0, .int .u8 0] 39)).setCells W.heap.size 0 (Bl.ints .u8 d) := ⟨_, rfl⟩
          obtain ⟨X18, hX18⟩ : ∃ X18, X18 = W.heap.size := ⟨_, rfl⟩
          rw [← hW6] at HEp HB18 ⊢
          rw [← hX18] at HB18 ⊢
          have hcX : W6.cell? ⟨X, 0, none⟩ = some (.bool (T.getD j default).1) := ((Bl.bcell HEp.out).1 X 0 (World.block_lt_of_cell? _ _ HBp.out)).trans HBp.out
          have HDu6 := Bl.hid (HDu.out.ext HEp.out)
          generalize (T.getD j default).1 = kd at hcX Hfs
          clear hW6 Hst hX18 HBz HLq hc9 hc12 ha1 ha2 ha3
          have HPost : Hid (∀ (w9 : World) (x' y' : List Int), Bl.Ext W w9 → x'.length = 32 → y'.length = 32 → FR = (x', y') → ∀ w10, Bl.Duo w10 A B x' y' → Bl.KeepS (fun k => k = A ∨ k = B) w8.heap.size W w10 → KeepsOthers W w10 → Below BB w9 w10 → (KeepsFrom w8.heap.size W w10 ∧ Bl.KeepS (fun k => k = A ∨ k = B) w8.heap.size W w10 ∧ (Bl.Duo w10 A B ((pre ++ [x]).foldl (fun r (x : Fin tn) => Bl.up2 Bl.ndD r (T.getD (tn - 1 - x.val) default).1 (q.getD x.val [])) (r0, r0)).1 ((pre ++ [x]).foldl (fun r (x : Fin tn) => Bl.up2 Bl.ndD r (T.getD (tn - 1 - x.val) default).1 (q.getD x.val [])) (r0, r0)).2 ∧ (Bl.KeepS (fun k => k = A ∨ k = B) w8.heap.size w8 w10 ∧ Below BB w8 w10)))) := Bl.hid fun w9 x' y' hE9 _ _ hF w10 h10 hk ho hb =>
            ⟨ho.from _, hk, by rw [← HFR.out, hF]; exact h10, HKp.out.trans hk, (HBW.out.trans (hE9.mono (by have := HKp.out.1; omega))).trans hb⟩
          cases kd with
          | true =>
            have HLd : Hid (∀ w1, Bl.Ext W6 w1 → (Instr.loadAt 39 (.pointer (some ⟨X18, 0, none⟩))).run Tryd.prog w1 = .ok (.agg (Bl.ints .u8 d).toArray) w1) := Bl.hid fun w1 h1 => (HB18.out.ext h1).load Tryd.underlying39 (by kernel_rfl)
            have HLa : Hid (∀ w1, Bl.Ext W6 w1 → (Instr.loadAt 39 (.pointer (some ⟨A, 0, none⟩))).run Tryd.prog w1 = .ok (.agg (Bl.ints .u8 ra).toArray) w1) := Bl.hid fun w1 h1 => (HDu6.out.a.ext h1).load Tryd.underlying39 (by kernel_rfl)
            have HLb : Hid (∀ w1, Bl.Ext W6 w1 → (Instr.loadAt 39 (.pointer (some ⟨B, 0, none⟩))).run Tryd.prog w1 = .ok (.agg (Bl.ints .u8 rb).toArray) w1) := Bl.hid fun w1 h1 => (HDu6.out.b.ext h1).load Tryd.underlying39 (by kernel_rfl)
            obtain ⟨na, hna⟩ : ∃ na, na = Bl.ndD d ra := ⟨_, rfl⟩
            obtain ⟨nb, hnb⟩ : ∃ nb, nb = Bl.ndD d rb := ⟨_, rfl⟩
            have Hnal : Hid (na.length = 32) := Bl.hid (by rw [hna]; exact Bl.ndD_length _ _)
            have Hnbl : Hid (nb.length = 32) := Bl.hid (by rw [hnb]; exact Bl.ndD_length _ _)
            have Hfs1 : Hid (FR = (na, nb)) := Bl.hid (by rw [Hfs.out, hna, hnb]; rfl)
            rw [← hna] at HN1
            rw [← hnb] at HN2
            clear hna hnb Hfs
            gi_wp2_with fail
            apply Bl.wpIn_region_evK (Bl.Ext) (fun _ _ _ => True) 6 [64, 65, 66, 67, 68, 69] [Bl.eqv _, Bl.eqv _, Bl.eqv _, Bl.eqv _, Bl.eqv _, Bl.eqv _] (fun w => Below.refl _ w) (fun a b c h k => Bl.Ext.trans h k) (by kernel_rfl) (by kernel_rfl) (by kernel_rfl) (by kernel_rfl) (by kernel_rfl)
            case hsteps =>
              refine ⟨?_, ?_, ?_, ?_, ?_, ?_, trivial⟩
              all_goals
                intro d ev w1 hext HJd Hanc Hdes hni hb hd
                replace Hanc := Bl.hid Hanc
                replace HJd := Bl.hid HJd
                replace Hdes := Bl.hid Hdes
                replace hni := Bl.hid hni
                have e14 := hb 14 (by decide)
                have e15 := hb 15 (by decide)
                have e18 := hb 18 (by decide)
                clear hb
                simp only [Array.getD_eq_getD_getElem?, List.getElem?_toArray, List.getElem?_cons_succ, List.getElem?_cons_zero, Option.getD_some] at e14 e15 e18
                simp only [Bl.DepsE2, List.getElem?_cons_succ, List.getElem?_cons_zero, Option.bind_some, List.getD_cons_succ, List.getD_cons_zero, Bl.eqv, and_true] at hd
                have hc := (Bl.bcell hext).1
                simp only [Region.wanted, if_true]
                first
                | ((with_reducible refine Bl.goodX_load (fun w => Below.refl _ w) ?_ (HLd.out _ hext) ?_); exact e18; exact ⟨rfl, trivial⟩) | ((with_reducible refine Bl.goodX_load (fun w => Below.refl _ w) ?_ (HLa.out _ hext) ?_); exact e14; exact ⟨rfl, trivial⟩) | ((with_reducible refine Bl.goodX_load (fun w => Below.refl _ w) ?_ (HLb.out _ hext) ?_); exact e15; exact ⟨rfl, trivial⟩)
                | (go_simp; first | (go_at_call 60; (with_reducible refine (HN1.out _ (HEp.out.trans hext)).mono ?_); rintro e' w2 ⟨rfl, hE2⟩; exact ⟨_, rfl, hE2, rfl⟩) | (go_at_call 60; (with_reducible refine (HN2.out _ (HEp.out.trans hext)).mono ?_); rintro e' w2 ⟨rfl, hE2⟩; exact ⟨_, rfl, hE2, rfl⟩) | exact ⟨Below.refl _ _, rfl⟩ | exact Below.refl _ _)
            case hmono => exact ⟨Bl.monoR_eqv _, Bl.monoR_eqv _, Bl.monoR_eqv _, Bl.monoR_eqv _, Bl.monoR_eqv _, Bl.monoR_eqv _, trivial⟩
            case hR0 => exact (Below.refl _ _).drew
            case hend =>
              intro u w1 hext hJ hend
              simp only [Bl.EndE, List.getElem?_cons_succ, List.getElem?_cons_zero, Option.bind_some, List.getD_cons_succ, List.getD_cons_zero, Bl.eqv, true_and] at hend
              simp only [Bl.fillAct, List.setIfInBounds_toArray, List.set_cons_succ, List.set_cons_zero, List.drop_succ_cons, List.drop_zero, hend]
              have HE9 : Hid (Bl.Ext W w1) := Bl.hid (HEp.out.trans hext)
              have HD9 := Bl.hid (HDu6.out.ext hext)
              have HD10 := Bl.hid (HD9.out.setA Hnal.out)
              have Hs1 := Bl.hid (HD9.out.a.store (P := Tryd.prog) (ty := 39) (d' := na) Hnal.out (by kernel_rfl))
              have Hs2 := Bl.hid (HD10.out.b.store (P := Tryd.prog) (ty := 39) (d' := nb) Hnbl.out (by kernel_rfl))
              have Hpost := Bl.hid (HPost.out w1 na nb HE9.out Hnal.out Hnbl.out Hfs1.out ((w1.setCells A 0 (Bl.ints .u8 na)).setCells B 0 (Bl.ints .u8 nb)) (HD10.out.setB Hnbl.out)
                ((Bl.KeepS.of_below HE9.out HKp.out.1).two _ _) (Bl.others_setCells _ _ _ _ (Bl.others_setCells _ _ _ _ (Bl.others_ext HE9.out))) (Bl.below_setCells _ _ _ _ (Bl.below_setCells _ _ _ _ (Below.refl _ _) hAB1) hAB2))
              clear hext hend hJ
              gi_wp2_with (with_reducible refine Bl.stopI_store (ty := 39) ?_)
              refine Bl.go_on ?_
              refine Bl.wpLI_store0 rfl rfl Hs1.out ?_
              gi_wp2_with (with_reducible refine Bl.stopI_store (ty := 39) ?_)
              refine Bl.go_on ?_
              refine Bl.wpLI_store0 rfl rfl Hs2.out ?_
              gi_wp2
              exact Hpost.out
            case hJ0 => trivial
          | false =>
            obtain ⟨nb, hnb⟩ : ∃ nb, nb = Bl.ndD rb d := ⟨_, rfl⟩
            have Hnbl : Hid (nb.length = 32) := Bl.hid (by rw [hnb]; exact Bl.ndD_length _ _)
            have Hfs1 : Hid (FR = (ra, nb)) := Bl.hid (by rw [Hfs.out, hnb]; rfl)
            rw [← hnb] at HN3
            clear hnb Hfs
            gi_wp2_with (with_reducible refine Bl.stopI_load (ty := 39) ?_)
            refine Bl.go_on ?_
            refine Bl.wpLI_load rfl (HDu6.out.b.load Tryd.underlying39 (by kernel_rfl)) ?_
            gi_wp2_with (with_reducible refine Bl.stopI_load (ty := 39) ?_)
            refine Bl.go_on ?_
            refine Bl.wpLI_load rfl (HB18.out.load Tryd.underlying39 (by kernel_rfl)) ?_
            gi_wp2_with fail
            refine ⟨trivial, ?_⟩
            refine (CallsIn.inRound lr (callsIn_wide.2 (HN3.out W6 HEp.out))).mono ?_
            rintro e' w9 ⟨rfl, hE9⟩
            have HE9 : Hid (Bl.Ext W w9) := Bl.hid (HEp.out.trans hE9)
            have HD9 := Bl.hid (HDu6.out.ext hE9)
            have Hs2 := Bl.hid (HD9.out.b.store (P := Tryd.prog) (ty := 39) (d' := nb) Hnbl.out (by kernel_rfl))
            have Hpost := Bl.hid (HPost.out w9 ra nb HE9.out HD9.out.a.len Hnbl.out Hfs1.out (w9.setCells B 0 (Bl.ints .u8 nb)) (HD9.out.setB Hnbl.out)
              (Bl.KeepS.setCells (Q := fun k => k = A ∨ k = B) (Bl.KeepS.of_below HE9.out HKp.out.1) (.inr rfl) _ _) (Bl.others_setCells _ _ _ _ (Bl.others_ext HE9.out)) (Bl.below_setCells _ _ _ _ (Below.refl _ _) hAB2))
            clear hE9
            gi_wp2_with (with_reducible refine Bl.stopI_store (ty := 39) ?_)
            refine Bl.go_on ?_
            refine Bl.wpLI_store0 rfl rfl Hs2.out ?_
            gi_wp2
            exact Hpost.out
        case hdone =>
          rintro K ys W hK1 rfl ⟨hDu, hKp, hBW⟩ hK
          have hKl : K < W.heap.size := (Array.getElem?_eq_some_iff.1 hK).1
          rw [HFin.out] at hDu
          have Hx : Hid (M.1.length = 32) := Bl.hid HMd.out.1.1
          have Hy : Hid (M.2.length = 32) := Bl.hid HMd.out.2.1
          obtain ⟨x, y⟩ := M
          have HDu := Bl.hid hDu
          have hWk : Bl.KeepS (fun k => k = A ∨ k = B) Wk.heap.size Wk W := Bl.KeepS.trans (Bl.KeepS.of_below HE8.out (Nat.le_refl _)) ⟨hKp.1, fun k hk hn => hKp.2 k (by omega) hn⟩
          have HBo9 := Bl.hid (HBok.out.same (hWk.2 _ HBok.out.lt (by have := HwB.out; omega)))
          have HBn9 := Bl.hid (HBnk.out.same (hWk.2 _ HBnk.out.lt (by have := HwB.out; omega)))
          have HEW : Hid (Bl.Ext w W) := Bl.hid (Below.trans HEw8.out (hBW.mono (by have := HwB.out; omega)))
          have HK : Hid (w.heap.size ≤ K ∧ K < W.heap.size ∧ W.heap[K]? = some (.deferred (some []))) := Bl.hid ⟨by have := HwB.out; omega, hKl, hK⟩
          have Hl1 := Bl.hid (HDu.out.a.load (P := Tryd.prog) (ty := 39) Tryd.underlying39 (by kernel_rfl))
          have Hl2 := Bl.hid (HBo9.out.load (P := Tryd.prog) (ty := 39) Tryd.underlying39 (by kernel_rfl))
          have Hl3 := Bl.hid (HDu.out.b.load (P := Tryd.prog) (ty := 39) Tryd.underlying39 (by kernel_rfl))
          have Hl4 := Bl.hid (HBn9.out.load (P := Tryd.prog) (ty := 39) Tryd.underlying39 (by kernel_rfl))
          have hcF := ((Bl.bcell HEW.out).1 _ 0 HFl.out).trans HF15.out
          clear hDu hKp hBW hK hK1 hKl hWk hcs hsz8
          try refine wpIn_wide.2 ?_
          go_wp2_with (with_reducible refine Bl.stop_load (ty := 39) ?_)
          refine Bl.go_on ?_
          refine Bl.wpL_load rfl Hl1.out ?_
          go_wp2_with (with_reducible refine Bl.stop_load (ty := 39) ?_)
          refine Bl.go_on ?_
          refine Bl.wpL_load rfl Hl2.out ?_
          by_cases hxo : x = old
          · have heq : ∀ w, (Op.equalIn 10000 39 (.agg (Bl.ints .u8 x).toArray) (.agg (Bl.ints .u8 old).toArray)).run Tryd.prog w = .ok true w := fun w => by
              rw [Bl.eq10k Tryd.underlying39 Tryd.underlying5 (fun w => by simp [go_sem]) x old Hx.out Hol.out w, decide_eq_true hxo]
            by_cases hyn : y = now
            · have heq2 : ∀ w, (Op.equalIn 10000 39 (.agg (Bl.ints .u8 y).toArray) (.agg (Bl.ints .u8 now).toArray)).run Tryd.prog w = .ok true w := fun w => by
                rw [Bl.eq10k Tryd.underlying39 Tryd.underlying5 (fun w => by simp [go_sem]) y now Hy.out Hnl.out w, decide_eq_true hyn]
              have HR : Hid (R = 0) := Bl.hid (HCk1.out (by rw [hxo, hyn]))
              clear hxo hyn HCk1 HCk2
              go_wp2_with (with_reducible refine Bl.stop_loadg (ty := 39) ?_)
              refine Bl.go_on ?_
              refine Bl.wpL_loadg rfl rfl Hl3.out ?_
              go_wp2_with (with_reducible refine Bl.stop_loadg (ty := 39) ?_)
              refine Bl.go_on ?_
              refine Bl.wpL_loadg rfl rfl Hl4.out ?_
              go_wp2_with fail
              refine Bl.leaves_marks (B := w.heap.size) _ W.heap.size _ ⟨K, rfl, HK.out.1, HK.out.2.1, HK.out.2.2, trivial⟩ ?_
              intro w' hw'
              exact ⟨_, Bl.results_tmp1 rfl rfl, by rw [HR.out]; rfl, Below.trans HEW.out hw'⟩
            · have heq2 : ∀ w, (Op.equalIn 10000 39 (.agg (Bl.ints .u8 y).toArray) (.agg (Bl.ints .u8 now).toArray)).run Tryd.prog w = .ok false w := fun w => by
                rw [Bl.eq10k Tryd.underlying39 Tryd.underlying5 (fun w => by simp [go_sem]) y now Hy.out Hnl.out w, decide_eq_false hyn]
              have HR : Hid (R = 15) := Bl.hid (HCk2.out (fun q => hyn (by injection q)))
              clear hxo hyn HCk1 HCk2
              go_wp2_with (with_reducible refine Bl.stop_loadg (ty := 39) ?_)
              refine Bl.go_on ?_
              refine Bl.wpL_loadg rfl rfl Hl3.out ?_
              go_wp2_with (with_reducible refine Bl.stop_loadg (ty := 39) ?_)
              refine Bl.go_on ?_
              refine Bl.wpL_loadg rfl rfl Hl4.out ?_
              go_wp2_with fail
              refine Bl.leaves_marks (B := w.heap.size) _ W.heap.size _ ⟨K, rfl, HK.out.1, HK.out.2.1, HK.out.2.2, trivial⟩ ?_
              intro w' hw'
              exact ⟨_, Bl.results_tmp1 rfl rfl, by rw [HR.out]; rfl, Below.trans HEW.out hw'⟩
          · have heq : ∀ w, (Op.equalIn 10000 39 (.agg (Bl.ints .u8 x).toArray) (.agg (Bl.ints .u8 old).toArray)).run Tryd.prog w = .ok false w := fun w => by
              rw [Bl.eq10k Tryd.underlying39 Tryd.underlying5 (fun w => by simp [go_sem]) x old Hx.out Hol.out w, decide_eq_false hxo]
            have HR : Hid (R = 15) := Bl.hid (HCk2.out (fun q => hxo (by injection q)))
            clear hxo HCk1 HCk2
            go_wp2_with fail
            refine Bl.leaves_marks (B := w.heap.size) _ W.heap.size _ ⟨K, rfl, HK.out.1, HK.out.2.1, HK.out.2.2, trivial⟩ ?_
            intro w' hw'
            exact ⟨_, Bl.results_tmp1 rfl rfl, by rw [HR.out]; rfl, Below.trans HEW.out hw'⟩
        case hstop =>
          rintro K c' pre W _ _ h _
          exact h.elim
      case hJ0 => exact Bl.HJ.start (HDa.out.ext (Below.refl _ _).drew)
  case hJ0 => exact Bl.JTwo.start (Nat.le_of_eq HBB.out)

set_option maxRecDepth 100000 in
set_option maxHeartbeats 1000000 in
theorem gcheck_any (m n : Int) (old now : List Int) (vp : Value) (p : List (List Int)) (w : World) (S : List Nat) (ad : Nat → Addr) (he : Errs S ad w) (h1 : 1 ∈ S) (h8 : 8 ∈ S) (h15 : 15 ∈ S) (ho : old.length = 32) (bo : Bl.Byt old) (hnw : now.length = 32) (hp : Bl.RdD w vp p) (hdp : Bl.Dig p) (hg : Glob w) :
    Calls Tryd.prog 51 #[.int .i64 m, .agg (Bl.ints .u8 old).toArray, .int .i64 n, .agg (Bl.ints .u8 now).toArray, vp] w fun e w' => e = .returned (errN ad (Bl.chkG m n old now p)) ∧ Bl.Ext w w' := by
  by_cases h : 1 ≤ m ∧ m ≤ n ∧ n ≤ 512
  · obtain ⟨k1, k2, k3⟩ := h
    have hb := Bl.thereG_mk k1 k2 k3
    obtain ⟨a, rfl⟩ := Int.eq_ofNat_of_zero_le (a := m) (by omega)
    obtain ⟨b, rfl⟩ := Int.eq_ofNat_of_zero_le (a := n) (by omega)
    by_cases hpl : p.length = Bl.cntG a b true
    · exact gcheck_main a b old now vp p w S ad he h15 ho bo hnw hp hdp hg (by omega) (by omega) (by omega) hpl
    · have HL := Bl.hid (Bl.chkG_size (m := a) (n := b) (old := old) (now := now) hb hpl)
      have HCn := Bl.hid (fun w2 => gcount_any a b w2)
      rw [Bl.cntI_yes (m := a) (n := b) (by omega) (by omega) (by omega)] at HCn
      have hF : w.cell? ⟨7, 0, none⟩ = some (.iface 161 (.pointer (some (ad 8)))) := he.cell 8 h8
      have HF := Bl.hid hF
      have HFl : Hid (7 < w.heap.size) := Bl.hid (World.block_lt_of_cell? w _ hF)
      obtain ⟨pp, cp, hvf, hvn, hvc⟩ := hp.form
      subst hvf
      obtain ⟨C, hC⟩ : ∃ C, C = Bl.cntG a b true := ⟨_, rfl⟩
      rw [← hC] at HCn hpl
      obtain ⟨pl, hl⟩ : ∃ pl, pl = p.length := ⟨_, rfl⟩
      rw [← hl] at hpl hvn ⊢
      have hne : ((C : Int) == (pl : Int)) = false := by rw [beq_eq_false_iff_ne]; omega
      have hneg : ¬ ((C : Int) < 0) := by omega
      have HE0 : Hid (Bl.Ext w (((w.alloc (.cells (Bl.ints .u8 old).toArray 39)).alloc (.cells (Bl.ints .u8 now).toArray 39)).alloc (.cells #[.slice pp pl cp] 40))) := Bl.hid (((Bl.ext_alloc _ _).trans (Bl.ext_alloc _ _)).trans (Bl.ext_alloc _ _))
      have hcn := Bl.cell_new1 ((w.alloc (.cells (Bl.ints .u8 old).toArray 39)).alloc (.cells (Bl.ints .u8 now).toArray 39)) (.slice pp pl cp) 40
      rw [World.size_alloc, World.size_alloc] at hcn
      have HC9 := Bl.hid hcn
      unfold maxLen at hvc
      clear he hF hp hdp hg hnw bo ho hcn hpl hC hb hl
      refine (callsIn_wide (n := 9)).1 ?_
      refine callsIn_of_wp_marks Tryd.func51 rfl trivial ?_ rfl
      simp only [Tryd.ntmps51, List.size_toArray, List.length_cons, List.length_nil, Nat.reduceAdd, Nat.reduceSub, Array.replicate_succ, Array.replicate_zero, List.push_toArray, List.append_toArray, List.nil_append, List.cons_append]
      refine wpIn_wide.2 ?_
      go_wp2_with fail
      generalize ((w.alloc (.cells (Bl.ints .u8 old).toArray 39)).alloc (.cells (Bl.ints .u8 now).toArray 39)).alloc (.cells #[.slice pp pl cp] 40) = W0 at HE0 HC9 ⊢
      refine (HCn.out W0).mono ?_
      rintro e w1 ⟨rfl, hE1⟩
      have hcF := ((Bl.bcell (HE0.out.trans hE1)).1 _ 0 HFl.out).trans HF.out
      have hc9 := ((Bl.bcell hE1).1 _ 0 (World.block_lt_of_cell? _ _ HC9.out)).trans HC9.out
      have HE1 := Bl.hid (HE0.out.trans hE1)
      clear hE1
      go_wp2_with fail
      refine Bl.leaves_marks (B := w.heap.size) _ 0 _ trivial ?_
      intro w' hw'
      exact ⟨_, Bl.results_tmp1 rfl rfl, by rw [HL.out]; rfl, Below.trans HE1.out hw'⟩
  · have HL := Bl.hid (Bl.chkG_no (old := old) (now := now) (p := p) (Bl.thereG_no h))
    have HCn := Bl.hid (fun w2 => gcount_any m n w2)
    rw [Bl.cntI_no (Bl.thereG_no h)] at HCn
    have hF : w.cell? ⟨0, 0, none⟩ = some (.iface 161 (.pointer (some (ad 1)))) := he.cell 1 h1
    have HF := Bl.hid hF
    have HFl : Hid (0 < w.heap.size) := Bl.hid (World.block_lt_of_cell? w _ hF)
    obtain ⟨pp, cp, hvf, hvn, hvc⟩ := hp.form
    subst hvf
    obtain ⟨pl, hl⟩ : ∃ pl, pl = p.length := ⟨_, rfl⟩
    rw [← hl] at hvn ⊢
    have HE0 : Hid (Bl.Ext w (((w.alloc (.cells (Bl.ints .u8 old).toArray 39)).alloc (.cells (Bl.ints .u8 now).toArray 39)).alloc (.cells #[.slice pp pl cp] 40))) := Bl.hid (((Bl.ext_alloc _ _).trans (Bl.ext_alloc _ _)).trans (Bl.ext_alloc _ _))
    have hcn := Bl.cell_new1 ((w.alloc (.cells (Bl.ints .u8 old).toArray 39)).alloc (.cells (Bl.ints .u8 now).toArray 39)) (.slice pp pl cp) 40
    rw [World.size_alloc, World.size_alloc] at hcn
    have HC9 := Bl.hid hcn
    unfold maxLen at hvc
    clear he hF hp hdp hg hnw bo ho hcn hl h
    refine (callsIn_wide (n := 9)).1 ?_
    refine callsIn_of_wp_marks Tryd.func51 rfl trivial ?_ rfl
    simp only [Tryd.ntmps51, List.size_toArray, List.length_cons, List.length_nil, Nat.reduceAdd, Nat.reduceSub, Array.replicate_succ, Array.replicate_zero, List.push_toArray, List.append_toArray, List.nil_append, List.cons_append]
    refine wpIn_wide.2 ?_
    go_wp2_with fail
    generalize ((w.alloc (.cells (Bl.ints .u8 old).toArray 39)).alloc (.cells (Bl.ints .u8 now).toArray 39)).alloc (.cells #[.slice pp pl cp] 40) = W0 at HE0 HC9 ⊢
    refine (HCn.out W0).mono ?_
    rintro e w1 ⟨rfl, hE1⟩
    have hcF := ((Bl.bcell (HE0.out.trans hE1)).1 _ 0 HFl.out).trans HF.out
    have HE1 := Bl.hid (HE0.out.trans hE1)
    clear hE1
    go_wp2_with fail
    refine Bl.leaves_marks (B := w.heap.size) _ 0 _ trivial ?_
    intro w' hw'
    exact ⟨_, Bl.results_tmp1 rfl rfl, by rw [HL.out]; rfl, Below.trans HE1.out hw'⟩
end Go.Proofs.YtmfooocdnoflaaaDoor

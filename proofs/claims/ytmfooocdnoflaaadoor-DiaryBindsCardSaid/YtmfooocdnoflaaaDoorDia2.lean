/- Texts that stood apart, in one: WDia6, WDia7, WDia8. -/
import Derived.Test.YtmfooocdnoflaaaDoorDia1
import Derived.Test.YtmfooocdnoflaaaDoorWl0
import Derived.Test.YtmfooocdnoflaaaDoorDia0
import Derived.Test.YtmfooocdnoflaaaDoorNm0
import Derived.Test.YtmfooocdnoflaaaDoorBA2
/- Walks of package diary: agrees, Agrees, Fork. -/
namespace Go.Proofs.Bl
open Go Go.RowKit
/-- does a note agree with leaves? the error's number -/
def agE (x : Nt) (ps : List (List Int)) : Nat := if ps.length < x.1 then 2 else if rootD (ps.take x.1) = x.2 then 0 else 15
def agAll : List Nt → List (List Int) → Nat
  | [], _ => 0
  | x :: r, ps => if agE x ps = 0 then agAll r ps else agE x ps
theorem agAll_zero {N : List Nt} {ps : List (List Int)} : agAll N ps = 0 ↔ ∀ x ∈ N, agE x ps = 0 := by
  induction N with
  | nil => simp [agAll]
  | cons x r ih =>
    unfold agAll
    by_cases h : agE x ps = 0
    · rw [if_pos h, ih]; simp [h]
    · rw [if_neg h]; simp [h]
theorem agAll_drop {N : List Nt} {ps : List (List Int)} : ∀ i, i ≤ N.length → (∀ q, q < i → agE (N.getD q n0) ps = 0) → agAll N ps = agAll (N.drop i) ps := by
  induction N with
  | nil => intro i hi _; simp
  | cons x r ih =>
    intro i hi h
    cases i with
    | zero => rfl
    | succ i =>
      have h0 := h 0 (by omega)
      have e : (x :: r).getD 0 n0 = x := rfl
      rw [e] at h0
      rw [List.drop_succ_cons, ← ih i (by simpa using hi) (fun q hq => by have := h (q + 1) (by omega); simpa using this)]
      conv => lhs; unfold agAll
      rw [if_pos h0]
theorem agAll_at {N : List Nt} {ps : List (List Int)} {i : Nat} (hi : i < N.length) (h : ∀ q, q < i → agE (N.getD q n0) ps = 0) (hn : ¬ agE (N.getD i n0) ps = 0) : agAll N ps = agE (N.getD i n0) ps := by
  rw [agAll_drop i (Nat.le_of_lt hi) h, List.drop_eq_getElem_cons hi]
  unfold agAll
  rw [List.getD_eq_getElem?_getD, List.getElem?_eq_getElem hi] at hn ⊢
  rw [Option.getD_some] at hn ⊢
  rw [if_neg hn]
theorem agAll_all {N : List Nt} {ps : List (List Int)} (h : ∀ q, q < N.length → agE (N.getD q n0) ps = 0) : agAll N ps = 0 := by
  rw [agAll_zero]
  intro x hx
  obtain ⟨i, hi, rfl⟩ := List.getElem_of_mem hx
  have := h i hi
  rwa [List.getD_eq_getElem?_getD, List.getElem?_eq_getElem hi] at this
/-- where two diaries part -/
def partB (B : List Nt) (x : Nt) : Bool := hasN B x.1 && decide (¬ atN B x.1 = x.2)
def forkF (A B : List Nt) : Option Nt := A.find? (partB B)
def forkS (A B : List Nt) : Nat := ((forkF A B).map (·.1)).getD 0
def forkB (A B : List Nt) : Bool := (forkF A B).isSome
theorem fork_at {A B : List Nt} {i : Nat} (hi : i < A.length) (h : ∀ q, q < i → partB B (A.getD q n0) = false) (hp : partB B (A.getD i n0) = true) : forkF A B = some (A.getD i n0) := by
  unfold forkF
  rw [List.find?_eq_some_iff_append]
  refine ⟨hp, A.take i, A.drop (i + 1), ?_, fun a ha => ?_⟩
  · rw [List.getD_eq_getElem?_getD, List.getElem?_eq_getElem hi, Option.getD_some, List.getElem_cons_drop hi, List.take_append_drop]
  · obtain ⟨j, hj, rfl⟩ := List.getElem_of_mem ha
    rw [List.length_take] at hj
    have := h j (by omega)
    rw [List.getElem_take]
    rw [List.getD_eq_getElem?_getD, List.getElem?_eq_getElem (show j < A.length by omega)] at this
    simpa using this
theorem fork_no {A B : List Nt} (h : ∀ q, q < A.length → partB B (A.getD q n0) = false) : forkF A B = none := by
  unfold forkF
  rw [List.find?_eq_none]
  intro x hx
  obtain ⟨i, hi, rfl⟩ := List.getElem_of_mem hx
  have := h i hi
  rw [List.getD_eq_getElem?_getD, List.getElem?_eq_getElem hi] at this
  simpa using this
/-- two diaries that agree with the same leaves never part -/
theorem unforked {A B : List Nt} {ps : List (List Int)} (hB : Ris B) (ha : agAll A ps = 0) (hb : agAll B ps = 0) : forkF A B = none := by
  refine fork_no fun q hq => ?_
  have hx := agAll_zero.1 ha _ (getD_mem n0 hq)
  obtain ⟨x, hxe⟩ : ∃ x, x = A.getD q n0 := ⟨_, rfl⟩
  rw [← hxe] at hx ⊢
  have key : ∀ y : Nt, agE y ps = 0 → rootD (ps.take y.1) = y.2 := fun y hy => by
    unfold agE at hy
    split at hy
    · cases hy
    · split at hy
      · assumption
      · cases hy
  unfold partB
  by_cases h : hasN B x.1 = true
  · obtain ⟨y, hy, he⟩ := hasN_iff.1 h
    obtain ⟨i, hi, rfl⟩ := List.getElem_of_mem hy
    have hat := atN_get hB hi
    rw [List.getD_eq_getElem?_getD, List.getElem?_eq_getElem hi, Option.getD_some, he] at hat
    have h1 := key _ (agAll_zero.1 hb _ hy)
    have h2 := key _ hx
    have e : B[i].1 = x.1 := by omega
    rw [e, h2] at h1
    rw [hat, h, ← h1]
    simp
  · rw [Bool.eq_false_iff.2 h]; rfl
theorem fork_pos {A B : List Nt} (h : Ris A) : forkB A B = decide (0 < forkS A B) := by
  unfold forkB forkS
  cases hf : forkF A B with
  | none => rfl
  | some x =>
    have := (h.rg x (List.mem_of_find?_eq_some hf)).1
    simp; omega
end Go.Proofs.Bl
namespace Go.Proofs.YtmfooocdnoflaaaDoor
open Go Go.RowKit Go.Proofs

set_option maxRecDepth 100000 in
set_option maxHeartbeats 1000000 in
theorem dnagree_any (x : Bl.Nt) (v : Value) (ps : List (List Int)) (w : World) (S : List Nat) (a : Nat → Addr) (hx : x.2.length = 32 ∧ Bl.Byt x.2) (hx1 : 1 ≤ x.1) (hR : Bl.Rdss w v ps) (hby : ∀ p ∈ ps, Bl.Byt p) (hlp : ∀ p ∈ ps, p.length ≤ 1099511627000) (hn : ps.length ≤ 1048576) (he : Errs S a w) (s2 : 2 ∈ S) (s15 : 15 ∈ S) (hg : Glob w) :
    Calls Tryd.prog 42 #[.agg (Bl.cN x).toArray, v] w fun e w' => e = .returned (errN a (Bl.agE x ps)) ∧ Bl.Ext w w' := by
  have HR := Bl.hid hR
  obtain ⟨ws, hv, hwl, hws⟩ := hR
  obtain ⟨p, c, hvf, hvn, hvc⟩ := hv.form
  subst hvf
  unfold maxLen at hvc
  have Hv := Bl.hid hv
  have Hwl := Bl.hid hwl
  have HB := Bl.hid (Bl.BoxC.box w 57 (Bl.cN_ne x))
  have HE1 := Bl.hid (Bl.ext_alloc w (.cells (Bl.cN x).toArray 57))
  have hsz : (Bl.cN x).toArray.size = 33 := by simp [Bl.cN_len hx.1]
  have Hx := Bl.hid hx
  have He := Bl.hid he
  have Hg := Bl.hid hg
  have Hby := Bl.hid hby
  have Hlp := Bl.hid hlp
  have hq0 := HB.out.cell (Bl.cN_size x)
  have hF2 : (w.alloc (.cells (Bl.cN x).toArray 57)).cell? ⟨1, 0, none⟩ = some (.iface 161 (.pointer (some (a 2)))) := (he.ext HE1.out).cell 2 s2
  obtain ⟨L, hL⟩ : ∃ L, L = ps.length := ⟨_, rfl⟩
  have HL := Bl.hid hL
  rw [← hL] at hvn hn ⊢
  clear hv hwl hws hx he hg hby hlp hL
  go_enter Tryd.func42, Tryd.ntmps42
  by_cases h1 : L < x.1
  · have Hv1 : Hid (Bl.agE x ps = 2) := Bl.hid (by unfold Bl.agE; rw [← HL.out, if_pos h1])
    have h1i : (L : Int) < (x.1 : Int) := by omega
    go_wp2_with fail
    go_ret
    exact ⟨by rw [Hv1.out, errN_pos a 2 (by decide)]; rfl, HE1.out⟩
  · have Hv1 : Hid (Bl.agE x ps = if Bl.rootD (ps.take x.1) = x.2 then 0 else 15) := Bl.hid (by unfold Bl.agE; rw [← HL.out, if_neg h1])
    have h1i : ¬ ((L : Int) < (x.1 : Int)) := by omega
    obtain ⟨b, o, hpe, hbl, _⟩ := Bl.Rdss.cell' (by have h := Hv.out; exact h) Hwl.out 0 (by rw [← HL.out]; omega)
    subst hpe
    have HRt : Hid (∀ w2, Bl.Ext w w2 → Calls Tryd.prog 65 #[.slice (some ⟨b, o, none⟩) x.1 c] w2 fun e w' => e = .returned (.agg (Bl.ints .u8 (Bl.rootD (ps.take x.1))).toArray) ∧ Bl.Ext w2 w') := Bl.hid fun w2 h2 =>
      root_any (.slice (some ⟨b, o, none⟩) x.1 c) (ps.take x.1) w2 (Bl.Rdss.take (HR.out.ext h2) x.1 (by rw [← HL.out]; omega)) (Hg.out.ext h2) (fun y hy => Hby.out y (List.mem_of_mem_take hy)) (fun y hy => Hlp.out y (List.mem_of_mem_take hy)) (by rw [List.length_take]; omega)
    have Hrl : Hid ((Bl.rootD (ps.take x.1)).length = 32) := Bl.hid (Bl.rootD_length _ (by rw [List.length_take]; omega))
    obtain ⟨r, hr⟩ : ∃ r, r = Bl.rootD (ps.take x.1) := ⟨_, rfl⟩
    rw [← hr] at HRt Hrl Hv1
    have HLd : Hid (∀ w2, Bl.Ext (w.alloc (.cells (Bl.cN x).toArray 57)) w2 → (Instr.loadAt 39 (.pointer (some ⟨w.heap.size, 1, none⟩))).run Tryd.prog w2 = .ok (.agg (Bl.ints .u8 x.2).toArray) w2) := Bl.hid fun w2 h2 => Bl.load_ints ((HB.out.ext h2).sub (Bl.cN_root x)) Tryd.underlying39 (by kernel_rfl) Hx.out.1
    have heqd : ∀ w, (Op.equalIn 10000 39 (.agg (Bl.ints .u8 r).toArray) (.agg (Bl.ints .u8 x.2).toArray)).run Tryd.prog w = .ok (decide (r = x.2)) w := fun w =>
      Bl.eq10k Tryd.underlying39 Tryd.underlying5 (fun w => by simp [go_sem]) r x.2 Hrl.out Hx.out.1 w
    have hz0 : (0 : Int) ≤ (x.1 : Int) := by omega
    have hz1 : (x.1 : Int) ≤ (c : Int) := by omega
    have hF15 : (w.alloc (.cells (Bl.cN x).toArray 57)).cell? ⟨14, 0, none⟩ = some (.iface 161 (.pointer (some (a 15)))) := (He.out.ext HE1.out).cell 15 s15
    have HF15 := Bl.hid hF15
    have Hql := Bl.hid hq0
    have HXl : Hid (w.heap.size < (w.alloc (.cells (Bl.cN x).toArray 57)).heap.size) := Bl.hid HB.out.lt
    clear hr h1 hF2 hF15
    by_cases hrx : r = x.2
    · have Hv2 : Hid (Bl.agE x ps = 0) := Bl.hid (by rw [Hv1.out, if_pos hrx])
      have heq : ∀ w, (Op.equalIn 10000 39 (.agg (Bl.ints .u8 r).toArray) (.agg (Bl.ints .u8 x.2).toArray)).run Tryd.prog w = .ok true w := fun w => by rw [heqd w, decide_eq_true hrx]
      clear hrx heqd
      go_wp2_with fail
      obtain ⟨W1, hW1⟩ : ∃ W1, W1 = w.alloc (.cells (Bl.cN x).toArray 57) := ⟨_, rfl⟩
      rw [← hW1] at HLd HE1 Hql HXl ⊢
      clear hW1 hq0
      apply Bl.wp_region_ev 8 [13, 14, 15, 16, 17, 18, 19, 20] [Bl.eqv _, Bl.eqv _, Bl.eqv _, Bl.eqv _, Bl.eqv _, Bl.eqv _, Bl.eqv _, Bl.eqv _] (by kernel_rfl) (by kernel_rfl) (by kernel_rfl) (by kernel_rfl)
      case hsteps =>
        refine ⟨?_, ?_, ?_, ?_, ?_, ?_, ?_, ?_, trivial⟩
        all_goals
          intro ev w1 hext hb hd
          have e1 := hb 1 (by decide)
          have e2 := hb 2 (by decide)
          clear hb
          simp only [Array.getD_eq_getD_getElem?, List.getElem?_toArray, List.getElem?_cons_succ, List.getElem?_cons_zero, Option.getD_some] at e1 e2
          simp only [Bl.DepsE, List.getElem?_cons_succ, List.getElem?_cons_zero, Option.bind_some, List.getD_cons_succ, List.getD_cons_zero, Bl.eqv, and_true] at hd
          have hc := (Bl.bcell hext).1
          have q1 := (hc _ 0 HXl.out).trans Hql.out
          simp only [Bl.Good, Region.wanted, if_true]
          first
          | ((with_reducible refine Bl.goodR_load ?_ (HLd.out _ hext) ?_); exact hd; exact rfl)
          | (go_simp; first | (go_at_call 65; (with_reducible refine (HRt.out _ (HE1.out.trans hext)).mono ?_); rintro e w2 ⟨rfl, hE2⟩; exact ⟨_, rfl, hE2, rfl⟩) | exact ⟨Below.refl _ _, rfl⟩)
      case hmono => exact ⟨Bl.mono_eqv _, Bl.mono_eqv _, Bl.mono_eqv _, Bl.mono_eqv _, Bl.mono_eqv _, Bl.mono_eqv _, Bl.mono_eqv _, Bl.mono_eqv _, trivial⟩
      case hend =>
        intro u w1 hext hend
        simp only [Bl.EndE, List.getElem?_cons_succ, List.getElem?_cons_zero, Option.bind_some, List.getD_cons_succ, List.getD_cons_zero, Bl.eqv, true_and] at hend
        simp only [Bl.fillAct, List.setIfInBounds_toArray, List.set_cons_succ, List.set_cons_zero, List.drop_succ_cons, List.drop_zero, hend]
        have HEf := Bl.hid (HE1.out.trans hext)
        clear hext hend
        go_wp2_with fail
        go_ret
        exact ⟨by rw [Hv2.out]; rfl, HEf.out⟩
    · have Hv2 : Hid (Bl.agE x ps = 15) := Bl.hid (by rw [Hv1.out, if_neg hrx])
      have heq : ∀ w, (Op.equalIn 10000 39 (.agg (Bl.ints .u8 r).toArray) (.agg (Bl.ints .u8 x.2).toArray)).run Tryd.prog w = .ok false w := fun w => by rw [heqd w, decide_eq_false hrx]
      clear hrx heqd
      go_wp2_with fail
      obtain ⟨W1, hW1⟩ : ∃ W1, W1 = w.alloc (.cells (Bl.cN x).toArray 57) := ⟨_, rfl⟩
      rw [← hW1] at HLd HE1 Hql HXl HF15 ⊢
      clear hW1 hq0
      apply Bl.wp_region_ev 8 [13, 14, 15, 16, 17, 18, 19, 20] [Bl.eqv _, Bl.eqv _, Bl.eqv _, Bl.eqv _, Bl.eqv _, Bl.eqv _, Bl.eqv _, Bl.eqv _] (by kernel_rfl) (by kernel_rfl) (by kernel_rfl) (by kernel_rfl)
      case hsteps =>
        refine ⟨?_, ?_, ?_, ?_, ?_, ?_, ?_, ?_, trivial⟩
        all_goals
          intro ev w1 hext hb hd
          have e1 := hb 1 (by decide)
          have e2 := hb 2 (by decide)
          clear hb
          simp only [Array.getD_eq_getD_getElem?, List.getElem?_toArray, List.getElem?_cons_succ, List.getElem?_cons_zero, Option.getD_some] at e1 e2
          simp only [Bl.DepsE, List.getElem?_cons_succ, List.getElem?_cons_zero, Option.bind_some, List.getD_cons_succ, List.getD_cons_zero, Bl.eqv, and_true] at hd
          have hc := (Bl.bcell hext).1
          have q1 := (hc _ 0 HXl.out).trans Hql.out
          simp only [Bl.Good, Region.wanted, if_true]
          first
          | ((with_reducible refine Bl.goodR_load ?_ (HLd.out _ hext) ?_); exact hd; exact rfl)
          | (go_simp; first | (go_at_call 65; (with_reducible refine (HRt.out _ (HE1.out.trans hext)).mono ?_); rintro e w2 ⟨rfl, hE2⟩; exact ⟨_, rfl, hE2, rfl⟩) | exact ⟨Below.refl _ _, rfl⟩)
      case hmono => exact ⟨Bl.mono_eqv _, Bl.mono_eqv _, Bl.mono_eqv _, Bl.mono_eqv _, Bl.mono_eqv _, Bl.mono_eqv _, Bl.mono_eqv _, Bl.mono_eqv _, trivial⟩
      case hend =>
        intro u w1 hext hend
        simp only [Bl.EndE, List.getElem?_cons_succ, List.getElem?_cons_zero, Option.bind_some, List.getD_cons_succ, List.getD_cons_zero, Bl.eqv, true_and] at hend
        simp only [Bl.fillAct, List.setIfInBounds_toArray, List.set_cons_succ, List.set_cons_zero, List.drop_succ_cons, List.drop_zero, hend]
        have HEf := Bl.hid (HE1.out.trans hext)
        have hF15 := ((Bl.bcell hext).1 _ 0 (World.block_lt_of_cell? _ _ HF15.out)).trans HF15.out
        clear hext hend
        go_wp2_with fail
        go_ret
        exact ⟨by rw [Hv2.out, errN_pos a 15 (by decide)]; rfl, HEf.out⟩
end Go.Proofs.YtmfooocdnoflaaaDoor

/- Walks of package diary: Agrees, Fork. -/
namespace Go.Proofs.YtmfooocdnoflaaaDoor
open Go Go.RowKit Go.Proofs

set_option maxRecDepth 100000 in
set_option maxHeartbeats 1000000 in
theorem dagrees_any (b : Nat) (v : Value) (N : List Bl.Nt) (vl : Value) (ps : List (List Int)) (w : World) (S : List Nat) (a : Nat → Addr) (h : Bl.Di w b v N) (hr : Bl.Ris N) (hl : N.length ≤ 500) (hR : Bl.Rdss w vl ps) (hby : ∀ p ∈ ps, Bl.Byt p) (hlp : ∀ p ∈ ps, p.length ≤ 1099511627000) (hn : ps.length ≤ 1048576) (he : Errs S a w) (s2 : 2 ∈ S) (s15 : 15 ∈ S) (hg : Glob w) :
    Calls Tryd.prog 24 #[.pointer (some ⟨b, 0, none⟩), vl] w fun e w' => e = .returned (errN a (Bl.agAll N ps)) ∧ Bl.Ext w w' := by
  have hc0 := h.c0
  obtain ⟨p, c, hvf, hvn, hvc⟩ := h.pk.rds.form
  subst hvf
  unfold maxLen at hvc
  have HRd := Bl.hid h.pk.rds
  have Hd := Bl.hid h.dig
  have HAg := Bl.hid (fun (x : Bl.Nt) (hx : x ∈ N) w2 (h2 : Bl.Ext w w2) => dnagree_any x vl ps w2 S a (h.dig x hx) (hr.rg x hx).1 (hR.ext h2) hby hlp hn (he.ext h2) s2 s15 (hg.ext h2))
  obtain ⟨n, hnn⟩ : ∃ n, n = N.length := ⟨_, rfl⟩
  have Hn := Bl.hid hnn
  rw [← hnn] at hc0 hvn hl HRd
  clear h hr hR hby hlp hn he hg hnn
  go_enter Tryd.func24, Tryd.ntmps24
  go_wp2_with fail
  go_loopw [13] (fun x wr => ∃ i : Nat, i ≤ n ∧ x = .int .i64 i ∧ Hid (∀ q, q < i → Bl.agE (N.getD q Bl.n0) ps = 0) ∧ Bl.Ext w wr) (fun x _ => n - (intOf x).toNat)
  case atStart => exact ⟨0, Nat.zero_le _, rfl, Bl.hid fun q hq => absurd hq (Nat.not_lt_zero _), Below.refl _ _⟩
  case round =>
    obtain ⟨i, hi, rfl, Hq, hE⟩ := hrel
    have HE := Bl.hid hE
    clear hE
    by_cases hlt : i < n
    · have hin : i < N.length := by rw [← Hn.out]; exact hlt
      obtain ⟨g, o, cc, hpe, hcn, hcm, hgl, hel⟩ := Bl.RdN.pos (by have h := HRd.out; rw [Hn.out] at h; exact Bl.Rds.ext h HE.out) Hd.out (by omega)
      injection hpe with hp1 hp2 hp3
      subst hp1 hp3
      have hrg := hel i hin
      have hm := Bl.getD_mem Bl.n0 hin
      have hxd := (Hd.out _ hm).1
      have HA := Bl.hid (HAg.out _ hm)
      have Hat := Bl.hid (@Bl.agAll_at N ps i hin Hq.out)
      obtain ⟨x, hx⟩ : ∃ x, x = N.getD i Bl.n0 := ⟨_, rfl⟩
      rw [← hx] at hrg hxd HA Hat
      have Hx := Bl.hid hx
      have Hld := Bl.hid (run_loadAt_mid (P := Tryd.prog) wr g (o + i * 33) 57 _ _ hrg Tryd.underlying57 rfl (by rw [Bl.cN_len hxd]; kernel_rfl))
      obtain ⟨HB6, HE6⟩ := Bl.BoxC.fresh (cs := Bl.cN x) wr 57 #[.int .i64 0, .int .u8 0, .int .u8 0, .int .u8 0, .int .u8 0, .int .u8 0, .int .u8 0, .int .u8 0, .int .u8 0, .int .u8 0, .int .u8 0, .int .u8 0, .int .u8 0, .int .u8 0, .int .u8 0, .int .u8 0, .int .u8 0, .int .u8 0, .int .u8 0, .int .u8 0, .int .u8 0, .int .u8 0, .int .u8 0, .int .u8 0, .int .u8 0, .int .u8 0, .int .u8 0, .int .u8 0, .int .u8 0, .int .u8 0, .int .u8 0, .int .u8 0, .int .u8 0] (by rw [Bl.cN_len hxd]; rfl) (Bl.cN_ne x)
      have Hst := Bl.hid (Bl.fresh_store (P := Tryd.prog) (cs := Bl.cN x) wr 57 #[.int .i64 0, .int .u8 0, .int .u8 0, .int .u8 0, .int .u8 0, .int .u8 0, .int .u8 0, .int .u8 0, .int .u8 0, .int .u8 0, .int .u8 0, .int .u8 0, .int .u8 0, .int .u8 0, .int .u8 0, .int .u8 0, .int .u8 0, .int .u8 0, .int .u8 0, .int .u8 0, .int .u8 0, .int .u8 0, .int .u8 0, .int .u8 0, .int .u8 0, .int .u8 0, .int .u8 0, .int .u8 0, .int .u8 0, .int .u8 0, .int .u8 0, .int .u8 0, .int .u8 0] (by rw [Bl.cN_len hxd]; rfl) (Bl.cN_one x) (ty := 57) (by rw [Bl.cN_len hxd]; kernel_rfl))
      have Hl6 := Bl.hid (HB6.load (P := Tryd.prog) Tryd.underlying57 rfl (by rw [Bl.cN_len hxd]; kernel_rfl))
      replace HE6 := Bl.hid (HE.out.trans HE6)
      have hi0 : (0 : Int) ≤ (i : Int) := by omega
      have hi1 : (i : Int) < (n : Int) := by omega
      clear hel hrg hm hxd hx HB6 hp2 hcn hcm hin
      go_wp2_with (with_reducible refine Bl.stop_load (ty := 57) ?_)
      refine Bl.go_on ?_
      refine Bl.wpL_load rfl Hld.out ?_
      go_wp2_with (with_reducible refine Bl.stop_store (ty := 57) ?_)
      refine Bl.go_on ?_
      refine Bl.wpL_store0 rfl rfl Hst.out ?_
      generalize (wr.alloc (.cells #[.int .i64 0, .int .u8 0, .int .u8 0, .int .u8 0, .int .u8 0, .int .u8 0, .int .u8 0, .int .u8 0, .int .u8 0, .int .u8 0, .int .u8 0, .int .u8 0, .int .u8 0, .int .u8 0, .int .u8 0, .int .u8 0, .int .u8 0, .int .u8 0, .int .u8 0, .int .u8 0, .int .u8 0, .int .u8 0, .int .u8 0, .int .u8 0, .int .u8 0, .int .u8 0, .int .u8 0, .int .u8 0, .int .u8 0, .int .u8 0, .int .u8 0, .int .u8 0, .int .u8 0] 57)).setCells wr.heap.size 0 (Bl.cN x) = W6 at *
      generalize wr.heap.size = X6 at *
      clear Hst Hld
      go_wp2_with (with_reducible refine Bl.stop_load (ty := 57) ?_)
      refine Bl.go_on ?_
      refine Bl.wpL_load rfl Hl6.out ?_
      go_wp2_with fail
      refine (HA.out W6 HE6.out).mono ?_
      rintro e w7 ⟨rfl, hE7⟩
      have HE7 := Bl.hid (HE6.out.trans hE7)
      clear hE7 Hl6 HA HE6
      obtain ⟨K, hK⟩ : ∃ K, K = Bl.agE x ps := ⟨_, rfl⟩
      rw [← hK] at Hat ⊢
      have HK := Bl.hid hK
      clear hK
      by_cases hk : K = 0
      · subst hk
        rw [errN_zero]
        go_wp2_with fail
        go_roundw
        case rel => exact ⟨i + 1, by omega, by go_num, Bl.hid fun q hq => by
          rcases Nat.lt_succ_iff_lt_or_eq.1 hq with g | g
          · exact Hq.out q g
          · subst g; rw [← Hx.out]; exact HK.out.symm, HE7.out⟩
        case measure => simp [intOf]; omega
      · have Hv := Bl.hid (Hat.out hk)
        have Hk := Bl.hid hk
        rw [errN_pos a K hk]
        clear hk
        go_wp2_with fail
        go_ret
        exact ⟨by rw [Hv.out, errN_pos a K Hk.out]; rfl, HE7.out⟩
    · obtain rfl : i = n := by omega
      have Hv : Hid (Bl.agAll N ps = 0) := Bl.hid (Bl.agAll_all (fun q hq => Hq.out q (by rw [Hn.out]; exact hq)))
      go_wp2_with fail
      go_ret
      exact ⟨by rw [Hv.out]; rfl, HE.out⟩

set_option maxRecDepth 100000 in
set_option maxHeartbeats 1000000 in
theorem dfork_any (ba bb : Nat) (va vb : Value) (A B : List Bl.Nt) (w : World) (hA : Bl.Di w ba va A) (hB : Bl.Di w bb vb B) (rB : Bl.Ris B) (la : A.length ≤ 500) (lb : B.length ≤ 500) :
    Calls Tryd.prog 27 #[.pointer (some ⟨ba, 0, none⟩), .pointer (some ⟨bb, 0, none⟩)] w fun e w' => e = .returned (.tuple #[.int .i64 (Bl.forkS A B : Nat), .bool (Bl.forkB A B)]) ∧ Bl.Ext w w' := by
  have hc0 := hA.c0
  obtain ⟨p, c, hvf, hvn, hvc⟩ := hA.pk.rds.form
  subst hvf
  unfold maxLen at hvc
  have HRd := Bl.hid hA.pk.rds
  have Hd := Bl.hid hA.dig
  have HAt := Bl.hid (fun (k : Int) w2 (h2 : Bl.Ext w w2) => dat_any bb vb B k w2 (hB.ext h2) rB (by omega))
  have HAl := Bl.hid (fun k => Bl.atN_len hB.dig k)
  obtain ⟨n, hnn⟩ : ∃ n, n = A.length := ⟨_, rfl⟩
  have Hn := Bl.hid hnn
  rw [← hnn] at hc0 hvn la HRd
  clear hA hB rB lb hnn
  go_enter Tryd.func27, Tryd.ntmps27
  go_wp2_with fail
  go_loopw [21] (fun x wr => ∃ i : Nat, i ≤ n ∧ x = .int .i64 i ∧ Hid (∀ q, q < i → Bl.partB B (A.getD q Bl.n0) = false) ∧ Bl.Ext w wr) (fun x _ => n - (intOf x).toNat)
  case atStart => exact ⟨0, Nat.zero_le _, rfl, Bl.hid fun q hq => absurd hq (Nat.not_lt_zero _), Below.refl _ _⟩
  case round =>
    obtain ⟨i, hi, rfl, Hq, hE⟩ := hrel
    have HE := Bl.hid hE
    clear hE
    by_cases hlt : i < n
    · have hin : i < A.length := by rw [← Hn.out]; exact hlt
      obtain ⟨g, o, cc, hpe, hcn, hcm, hgl, hel⟩ := Bl.RdN.pos (by have h := HRd.out; rw [Hn.out] at h; exact Bl.Rds.ext h HE.out) Hd.out (by omega)
      injection hpe with hp1 hp2 hp3
      subst hp1 hp3
      have hrg := hel i hin
      have hxd := (Hd.out _ (Bl.getD_mem Bl.n0 hin)).1
      have Hfk := Bl.hid (@Bl.fork_at A B i hin Hq.out)
      obtain ⟨x, hx⟩ : ∃ x, x = A.getD i Bl.n0 := ⟨_, rfl⟩
      rw [← hx] at hrg hxd Hfk
      have Hx := Bl.hid hx
      have Hxd := Bl.hid hxd
      have Hld := Bl.hid (run_loadAt_mid (P := Tryd.prog) wr g (o + i * 33) 57 _ _ hrg Tryd.underlying57 rfl (by rw [Bl.cN_len hxd]; kernel_rfl))
      obtain ⟨HB6, HE6⟩ := Bl.BoxC.fresh (cs := Bl.cN x) wr 57 #[.int .i64 0, .int .u8 0, .int .u8 0, .int .u8 0, .int .u8 0, .int .u8 0, .int .u8 0, .int .u8 0, .int .u8 0, .int .u8 0, .int .u8 0, .int .u8 0, .int .u8 0, .int .u8 0, .int .u8 0, .int .u8 0, .int .u8 0, .int .u8 0, .int .u8 0, .int .u8 0, .int .u8 0, .int .u8 0, .int .u8 0, .int .u8 0, .int .u8 0, .int .u8 0, .int .u8 0, .int .u8 0, .int .u8 0, .int .u8 0, .int .u8 0, .int .u8 0, .int .u8 0] (by rw [Bl.cN_len hxd]; rfl) (Bl.cN_ne x)
      have Hst := Bl.hid (Bl.fresh_store (P := Tryd.prog) (cs := Bl.cN x) wr 57 #[.int .i64 0, .int .u8 0, .int .u8 0, .int .u8 0, .int .u8 0, .int .u8 0, .int .u8 0, .int .u8 0, .int .u8 0, .int .u8 0, .int .u8 0, .int .u8 0, .int .u8 0, .int .u8 0, .int .u8 0, .int .u8 0, .int .u8 0, .int .u8 0, .int .u8 0, .int .u8 0, .int .u8 0, .int .u8 0, .int .u8 0, .int .u8 0, .int .u8 0, .int .u8 0, .int .u8 0, .int .u8 0, .int .u8 0, .int .u8 0, .int .u8 0, .int .u8 0, .int .u8 0] (by rw [Bl.cN_len hxd]; rfl) (Bl.cN_one x) (ty := 57) (by rw [Bl.cN_len hxd]; kernel_rfl))
      replace HB6 := Bl.hid HB6
      replace HE6 := Bl.hid (HE.out.trans HE6)
      have hi0 : (0 : Int) ≤ (i : Int) := by omega
      have hi1 : (i : Int) < (n : Int) := by omega
      clear hel hrg hxd hx hp2 hcn hcm hin
      go_wp2_with (with_reducible refine Bl.stop_load (ty := 57) ?_)
      refine Bl.go_on ?_
      refine Bl.wpL_load rfl Hld.out ?_
      go_wp2_with (with_reducible refine Bl.stop_store (ty := 57) ?_)
      refine Bl.go_on ?_
      refine Bl.wpL_store0 rfl rfl Hst.out ?_
      generalize (wr.alloc (.cells #[.int .i64 0, .int .u8 0, .int .u8 0, .int .u8 0, .int .u8 0, .int .u8 0, .int .u8 0, .int .u8 0, .int .u8 0, .int .u8 0, .int .u8 0, .int .u8 0, .int .u8 0, .int .u8 0, .int .u8 0, .int .u8 0, .int .u8 0, .int .u8 0, .int .u8 0, .int .u8 0, .int .u8 0, .int .u8 0, .int .u8 0, .int .u8 0, .int .u8 0, .int .u8 0, .int .u8 0, .int .u8 0, .int .u8 0, .int .u8 0, .int .u8 0, .int .u8 0, .int .u8 0] 57)).setCells wr.heap.size 0 (Bl.cN x) = W6 at *
      generalize wr.heap.size = X6 at *
      have hq6 := HB6.out.cell (Bl.cN_size x)
      clear Hst Hld
      go_wp2_with fail
      refine (HAt.out (x.1 : Int) W6 HE6.out).mono ?_
      rintro e w7 ⟨rfl, hE7⟩
      have HE7 := Bl.hid (HE6.out.trans hE7)
      have HB7 := Bl.hid (HB6.out.ext hE7)
      have HU := Bl.hid (HAl.out (x.1 : Int))
      have Hpt : Hid (Bl.partB B x = (Bl.hasN B x.1 && decide (¬ Bl.atN B x.1 = x.2))) := Bl.hid rfl
      obtain ⟨U, hU⟩ : ∃ U, U = Bl.atN B x.1 := ⟨_, rfl⟩
      obtain ⟨hb, hhb⟩ : ∃ hb, hb = Bl.hasN B x.1 := ⟨_, rfl⟩
      rw [← hU] at HU Hpt ⊢
      rw [← hhb] at Hpt ⊢
      obtain ⟨HB8, HE8⟩ := Bl.BoxC.fresh (cs := Bl.ints .u8 U) w7 39 #[.int .u8 0, .int .u8 0, .int .u8 0, .int .u8 0, .int .u8 0, .int .u8 0, .int .u8 0, .int .u8 0, .int .u8 0, .int .u8 0, .int .u8 0, .int .u8 0, .int .u8 0, .int .u8 0, .int .u8 0, .int .u8 0, .int .u8 0, .int .u8 0, .int .u8 0, .int .u8 0, .int .u8 0, .int .u8 0, .int .u8 0, .int .u8 0, .int .u8 0, .int .u8 0, .int .u8 0, .int .u8 0, .int .u8 0, .int .u8 0, .int .u8 0, .int .u8 0] (by rw [Bl.ints_length, HU.out]; rfl) (by intro q; have := congrArg List.length q; rw [Bl.ints_length, HU.out] at this; cases this)
      have Hst := Bl.hid (Bl.fresh_store (P := Tryd.prog) (cs := Bl.ints .u8 U) w7 39 #[.int .u8 0, .int .u8 0, .int .u8 0, .int .u8 0, .int .u8 0, .int .u8 0, .int .u8 0, .int .u8 0, .int .u8 0, .int .u8 0, .int .u8 0, .int .u8 0, .int .u8 0, .int .u8 0, .int .u8 0, .int .u8 0, .int .u8 0, .int .u8 0, .int .u8 0, .int .u8 0, .int .u8 0, .int .u8 0, .int .u8 0, .int .u8 0, .int .u8 0, .int .u8 0, .int .u8 0, .int .u8 0, .int .u8 0, .int .u8 0, .int .u8 0, .int .u8 0] (by rw [Bl.ints_length, HU.out]; rfl) (Bl.ints_one _ _) (ty := 39) (by rw [Bl.ints_length, HU.out]; kernel_rfl))
      have HB78 := Bl.hid (HB7.out.ext HE8)
      replace HB8 := Bl.hid HB8
      replace HE8 := Bl.hid (HE7.out.trans HE8)
      clear hE7 HE6 HE7 HB7 HB6 hq6 hU hhb
      go_wp2_with (with_reducible refine Bl.stop_store (ty := 39) ?_)
      refine Bl.go_on ?_
      refine Bl.wpL_store0 rfl rfl Hst.out ?_
      generalize (w7.alloc (.cells #[.int .u8 0, .int .u8 0, .int .u8 0, .int .u8 0, .int .u8 0, .int .u8 0, .int .u8 0, .int .u8 0, .int .u8 0, .int .u8 0, .int .u8 0, .int .u8 0, .int .u8 0, .int .u8 0, .int .u8 0, .int .u8 0, .int .u8 0, .int .u8 0, .int .u8 0, .int .u8 0, .int .u8 0, .int .u8 0, .int .u8 0, .int .u8 0, .int .u8 0, .int .u8 0, .int .u8 0, .int .u8 0, .int .u8 0, .int .u8 0, .int .u8 0, .int .u8 0] 39)).setCells w7.heap.size 0 (Bl.ints .u8 U) = W8 at *
      generalize w7.heap.size = X8 at *
      clear Hst
      cases hb with
      | false =>
        go_wp2_with fail
        go_roundw
        case rel => exact ⟨i + 1, by omega, by go_num, Bl.hid fun q hq => by
          rcases Nat.lt_succ_iff_lt_or_eq.1 hq with g | g
          · exact Hq.out q g
          · subst g; rw [← Hx.out]; exact Hpt.out, HE8.out⟩
        case measure => simp [intOf]; omega
      | true =>
        have Hl8 := Bl.hid (Bl.load_ints (P := Tryd.prog) (ty := 39) HB8.out.rg Tryd.underlying39 (by kernel_rfl) HU.out)
        have Hl6 := Bl.hid (Bl.load_ints (P := Tryd.prog) (ty := 39) (HB78.out.sub (Bl.cN_root x)) Tryd.underlying39 (by kernel_rfl) Hxd.out)
        have heqd : ∀ w, (Op.equalIn 10000 39 (.agg (Bl.ints .u8 U).toArray) (.agg (Bl.ints .u8 x.2).toArray)).run Tryd.prog w = .ok (decide (U = x.2)) w := fun w =>
          Bl.eq10k Tryd.underlying39 Tryd.underlying5 (fun w => by simp [go_sem]) U x.2 HU.out Hxd.out w
        by_cases hux : U = x.2
        · have heq : ∀ w, (Op.equalIn 10000 39 (.agg (Bl.ints .u8 U).toArray) (.agg (Bl.ints .u8 x.2).toArray)).run Tryd.prog w = .ok true w := fun w => by rw [heqd w, decide_eq_true hux]
          have Hp : Hid (Bl.partB B x = false) := Bl.hid (by rw [Hpt.out]; simp [hux])
          clear hux heqd
          go_wp2_with (with_reducible refine Bl.stop_loadg (ty := 39) ?_)
          refine Bl.go_on ?_
          refine Bl.wpL_loadg rfl rfl Hl8.out ?_
          go_wp2_with (with_reducible refine Bl.stop_loadg (ty := 39) ?_)
          refine Bl.go_on ?_
          refine Bl.wpL_loadg rfl rfl Hl6.out ?_
          go_wp2_with fail
          go_roundw
          case rel => exact ⟨i + 1, by omega, by go_num, Bl.hid fun q hq => by
            rcases Nat.lt_succ_iff_lt_or_eq.1 hq with g | g
            · exact Hq.out q g
            · subst g; rw [← Hx.out]; exact Hp.out, HE8.out⟩
          case measure => simp [intOf]; omega
        · have heq : ∀ w, (Op.equalIn 10000 39 (.agg (Bl.ints .u8 U).toArray) (.agg (Bl.ints .u8 x.2).toArray)).run Tryd.prog w = .ok false w := fun w => by rw [heqd w, decide_eq_false hux]
          have Hf := Bl.hid (Hfk.out (by rw [Hpt.out]; simp [hux]))
          have hq6 := HB78.out.cell (Bl.cN_size x)
          clear hux heqd
          go_wp2_with (with_reducible refine Bl.stop_loadg (ty := 39) ?_)
          refine Bl.go_on ?_
          refine Bl.wpL_loadg rfl rfl Hl8.out ?_
          go_wp2_with (with_reducible refine Bl.stop_loadg (ty := 39) ?_)
          refine Bl.go_on ?_
          refine Bl.wpL_loadg rfl rfl Hl6.out ?_
          go_wp2_with fail
          exact bodyPost_ret (v := .tuple #[.int .i64 (x.1 : Int), .bool true]) (Bl.results_tmp2 rfl rfl rfl) rfl ⟨by unfold Bl.forkS Bl.forkB; rw [Hf.out]; rfl, HE8.out⟩
    · obtain rfl : i = n := by omega
      have Hf : Hid (Bl.forkF A B = none) := Bl.hid (Bl.fork_no (fun q hq => Hq.out q (by rw [Hn.out]; exact hq)))
      go_wp2_with fail
      exact bodyPost_ret (v := .tuple #[.int .i64 0, .bool false]) (Bl.results_tmp2 rfl rfl rfl) rfl ⟨by unfold Bl.forkS Bl.forkB; rw [Hf.out]; rfl, HE.out⟩
end Go.Proofs.YtmfooocdnoflaaaDoor

/- Walks of the laws' helpers over acts: long, alive. -/
namespace Go.Proofs.YtmfooocdnoflaaaDoor
open Go Go.RowKit Go.Proofs

set_option maxRecDepth 100000 in
set_option maxHeartbeats 1000000 in
theorem longA_any (v : Value) (L : List Bl.Ac) (w : World) (h : Bl.RdA w v L) :
    Calls Tryd.prog 9 #[v] w fun e w' => (e = .returned (.bool true) ∨ (e = .returned (.bool false) ∧ L.length ≤ 30 ∧ ∀ x ∈ L, x.2.2.2.length ≤ 40)) ∧ Bl.Ext w w' := by
  obtain ⟨p, c, hvf, hvn, hvc⟩ := h.rd.form
  subst hvf
  unfold maxLen at hvc
  have HR := Bl.hid h
  obtain ⟨n, hnn⟩ : ∃ n, n = L.length := ⟨_, rfl⟩
  have Hn := Bl.hid hnn
  rw [← hnn] at hvn HR ⊢
  clear h hnn
  go_enter Tryd.func9, Tryd.ntmps9
  by_cases h30 : 30 < n
  · have h30i : (30 : Int) < (n : Int) := by omega
    go_wp2_with fail
    go_ret
    exact ⟨.inl rfl, Below.refl _ _⟩
  have h30i : ¬ ((30 : Int) < (n : Int)) := by omega
  go_wp2_with fail
  go_loopw [10] (fun x wr => ∃ i : Nat, i ≤ n ∧ x = .int .i64 i ∧ Hid (∀ q, q < i → (L.getD q Bl.a0).2.2.2.length ≤ 40) ∧ Bl.Ext w wr) (fun x _ => n - (intOf x).toNat)
  case atStart => exact ⟨0, Nat.zero_le _, rfl, Bl.hid fun q hq => absurd hq (Nat.not_lt_zero _), Below.refl _ _⟩
  case round =>
    obtain ⟨i, hi, rfl, Hq, hE⟩ := hrel
    have HE := Bl.hid hE
    clear hE
    by_cases hlt : i < n
    · have hin : i < L.length := by rw [← Hn.out]; exact hlt
      have hRA := HR.out.ext HE.out
      obtain ⟨g, o, cc, hpe, hcn, hcm, hgl, hel⟩ := hRA.pos (by omega)
      injection hpe with hp1 hp2 hp3
      subst hp1 hp3
      have hrg := hel i hin
      obtain ⟨hxd, _, hxp, hxg⟩ := hRA.ok _ (Bl.getD_mem Bl.a0 hin)
      obtain ⟨x, hx⟩ : ∃ x, x = L.getD i Bl.a0 := ⟨_, rfl⟩
      rw [← hx] at hrg hxd hxp hxg
      have Hx := Bl.hid hx
      have Hld := Bl.hid (run_loadAt_mid (P := Tryd.prog) wr g (o + i * 34) 34 _ _ hrg Tryd.underlying34 rfl (by rw [Bl.cA_len hxd]; kernel_rfl))
      obtain ⟨HB6, HE6⟩ := Bl.BoxC.fresh (cs := Bl.cA x) wr 34 #[.int .i64 0, .int .u8 0, .int .u8 0, .int .u8 0, .int .u8 0, .int .u8 0, .int .u8 0, .int .u8 0, .int .u8 0, .int .u8 0, .int .u8 0, .int .u8 0, .int .u8 0, .int .u8 0, .int .u8 0, .int .u8 0, .int .u8 0, .int .u8 0, .int .u8 0, .int .u8 0, .int .u8 0, .int .u8 0, .int .u8 0, .int .u8 0, .int .u8 0, .int .u8 0, .int .u8 0, .int .u8 0, .int .u8 0, .int .u8 0, .int .u8 0, .int .u8 0, .int .u8 0, .slice none 0 0] (by rw [Bl.cA_len hxd]; rfl) (Bl.cA_ne x)
      have Hst := Bl.hid (Bl.fresh_store (P := Tryd.prog) (cs := Bl.cA x) wr 34 #[.int .i64 0, .int .u8 0, .int .u8 0, .int .u8 0, .int .u8 0, .int .u8 0, .int .u8 0, .int .u8 0, .int .u8 0, .int .u8 0, .int .u8 0, .int .u8 0, .int .u8 0, .int .u8 0, .int .u8 0, .int .u8 0, .int .u8 0, .int .u8 0, .int .u8 0, .int .u8 0, .int .u8 0, .int .u8 0, .int .u8 0, .int .u8 0, .int .u8 0, .int .u8 0, .int .u8 0, .int .u8 0, .int .u8 0, .int .u8 0, .int .u8 0, .int .u8 0, .int .u8 0, .slice none 0 0] (by rw [Bl.cA_len hxd]; rfl) (Bl.cA_one hxp) (ty := 34) (by rw [Bl.cA_len hxd]; kernel_rfl))
      have hq3 := HB6.cell (Bl.cA_proof hxd)
      replace HE6 := Bl.hid (HE.out.trans HE6)
      obtain ⟨pp, cp, hpf, hpn, hpc⟩ := hxp.form
      obtain ⟨m, hm⟩ : ∃ m, m = x.2.2.2.length := ⟨_, rfl⟩
      have Hm := Bl.hid hm
      rw [hpf, ← hm] at hq3
      have hi0 : (0 : Int) ≤ (i : Int) := by omega
      have hi1 : (i : Int) < (n : Int) := by omega
      clear hel hrg hxd hx HB6 hp2 hcn hcm hin hRA hxp hxg hpf hpn hpc hm
      go_wp2_with (with_reducible refine Bl.stop_load (ty := 34) ?_)
      refine Bl.go_on ?_
      refine Bl.wpL_load rfl Hld.out ?_
      go_wp2_with (with_reducible refine Bl.stop_store (ty := 34) ?_)
      refine Bl.go_on ?_
      refine Bl.wpL_store0 rfl rfl Hst.out ?_
      generalize (wr.alloc (.cells #[.int .i64 0, .int .u8 0, .int .u8 0, .int .u8 0, .int .u8 0, .int .u8 0, .int .u8 0, .int .u8 0, .int .u8 0, .int .u8 0, .int .u8 0, .int .u8 0, .int .u8 0, .int .u8 0, .int .u8 0, .int .u8 0, .int .u8 0, .int .u8 0, .int .u8 0, .int .u8 0, .int .u8 0, .int .u8 0, .int .u8 0, .int .u8 0, .int .u8 0, .int .u8 0, .int .u8 0, .int .u8 0, .int .u8 0, .int .u8 0, .int .u8 0, .int .u8 0, .int .u8 0, .slice none 0 0] 34)).setCells wr.heap.size 0 (Bl.cA x) = W6 at *
      generalize wr.heap.size = X6 at *
      clear Hst Hld
      by_cases h40 : 40 < m
      · have h40i : (40 : Int) < (m : Int) := by omega
        go_wp2_with fail
        go_ret
        exact ⟨.inl rfl, HE6.out⟩
      · have h40i : ¬ ((40 : Int) < (m : Int)) := by omega
        go_wp2_with fail
        go_roundw
        case rel => exact ⟨i + 1, by omega, by go_num, Bl.hid fun q hq => by
          rcases Nat.lt_succ_iff_lt_or_eq.1 hq with g | g
          · exact Hq.out q g
          · subst g; rw [← Hx.out, ← Hm.out]; omega, HE6.out⟩
        case measure => simp [intOf]; omega
    · obtain rfl : i = n := by omega
      go_wp2_with fail
      go_ret
      exact ⟨.inr ⟨rfl, by omega, fun x hx => by
        obtain ⟨q, hq, rfl⟩ := List.getElem_of_mem hx
        have := Hq.out q (by rw [Hn.out]; exact hq)
        rwa [List.getD_eq_getElem?_getD, List.getElem?_eq_getElem hq] at this⟩, HE.out⟩

def one39 (k : Int) : List Int := k :: List.replicate 31 0
theorem one39_dig (k : Int) (h0 : 0 ≤ k) (h1 : k ≤ 255) : (one39 k).length = 32 ∧ Bl.Byt (one39 k) := ⟨rfl, fun x hx => by
  rcases List.mem_cons.1 hx with rfl | hx
  · exact ⟨h0, h1⟩
  · have := List.eq_of_mem_replicate hx
    omega⟩
theorem take39_a : Bl.takeE [] 3 (one39 1) [] = 0 := by unfold Bl.takeE; simp
theorem take39_b : Bl.takeN [] 3 (one39 1) [] = [(3, one39 1)] := by unfold Bl.takeN; rw [take39_a]; rfl
theorem take39_c : Bl.takeE [(3, one39 1)] 2 (one39 2) [] = 19 := by unfold Bl.takeE; simp [Bl.lastN]
theorem take39_d : Bl.takeN [(3, one39 1)] 2 (one39 2) [] = [(3, one39 1)] := by unfold Bl.takeN; rw [take39_c]; rfl

set_option maxRecDepth 100000 in
set_option maxHeartbeats 1000000 in
theorem alive39 (w : World) (S : List Nat) (a : Nat → Addr) (he : Errs S a w) (hS : ∀ i, 1 ≤ i → i ≤ 20 → i ∈ S) (hg : Glob w) :
    Calls Tryd.prog 8 #[] w fun e w' => e = .returned (.bool true) ∧ Bl.Ext w w' := by
  have He := Bl.hid he
  have HS := Bl.hid hS
  have Hg := Bl.hid hg
  clear he hS hg
  go_enter Tryd.func8, Tryd.ntmps8
  go_wp2_with fail
  refine (dnew_any w).mono ?_
  rintro e w1 ⟨rfl, hD1, hE1⟩
  have HD1 := Bl.hid hD1
  have HE1 := Bl.hid hE1
  obtain ⟨b, hb⟩ : ∃ b, b = w.heap.size := ⟨_, rfl⟩
  rw [← hb] at HD1 ⊢
  have Hb : Hid (w.heap.size ≤ b) := Bl.hid (by omega)
  clear hD1 hE1 hb
  go_wp2_with fail
  refine (dtake_any b _ [] 3 (one39 1) (.slice none 0 0) [] w w1 S a HD1.out Bl.Ris.nil (by decide) (one39_dig 1 (by decide) (by decide)) (Bl.Rds.nil _) Bl.Dig.nil (He.out.ext HE1.out) (HS.out 1 (by decide) (by decide)) (HS.out 8 (by decide) (by decide)) (HS.out 15 (by decide) (by decide)) (HS.out 19 (by decide) (by decide)) (Hg.out.ext HE1.out) HE1.out Hb.out (fun k h => by cases h)).mono ?_
  rintro e w2 ⟨rfl, v2, hD2, hv2, hA2⟩
  rw [take39_a, errN_zero]
  rw [take39_b] at hD2
  have HD2 := Bl.hid hD2
  have HE2 : Hid (Bl.Ext w w2) := Bl.hid (Below.trans HE1.out (hA2.below HE1.out.size Hb.out (fun k h => by cases h)))
  have Hv2 : Hid (∀ k, v2.ownBlock = some k → w.heap.size ≤ k) := Bl.hid fun k hk => by
    rcases hv2 k hk with q | q
    · cases q
    · exact Nat.le_trans HE1.out.size q
  have Hr2 : Hid (Bl.Ris [(3, one39 1)]) := Bl.hid (by have := Bl.Ris.take Bl.Ris.nil 3 (one39 1) []; rwa [take39_b] at this)
  clear hD2 hv2 hA2 HD1
  go_wp2_with fail
  refine (dtake_any b v2 [(3, one39 1)] 2 (one39 2) (.slice none 0 0) [] w w2 S a HD2.out Hr2.out (by decide) (one39_dig 2 (by decide) (by decide)) (Bl.Rds.nil _) Bl.Dig.nil (He.out.ext HE2.out) (HS.out 1 (by decide) (by decide)) (HS.out 8 (by decide) (by decide)) (HS.out 15 (by decide) (by decide)) (HS.out 19 (by decide) (by decide)) (Hg.out.ext HE2.out) HE2.out Hb.out Hv2.out).mono ?_
  rintro e w3 ⟨rfl, v3, hD3, hv3, hA3⟩
  rw [take39_c]
  rw [take39_d] at hD3
  have HD3 := Bl.hid hD3
  have HE3 : Hid (Bl.Ext w w3) := Bl.hid (Below.trans HE2.out (hA3.below HE2.out.size Hb.out Hv2.out))
  clear hD3 hv3 hA3 HD2
  go_wp2_with fail
  refine (num_errN S a w3 19 HS.out (He.out.ext HE3.out) (by decide)).mono ?_
  rintro e w4 ⟨rfl, hE4⟩
  have HE4 := Bl.hid (HE3.out.trans hE4)
  have HD4 := Bl.hid (HD3.out.ext hE4)
  clear hE4 HD3
  go_wp2_with fail
  refine (dnotes_any b v3 _ w4 HD4.out (by decide)).mono ?_
  rintro e w5 ⟨v5, rfl, hown, hE5⟩
  obtain ⟨p5, c5, hf5, _, _⟩ := (Bl.Rds.of_owns hown).form
  subst hf5
  have HE5 := Bl.hid (HE4.out.trans hE5)
  clear hown hE5
  go_wp2_with fail
  go_ret
  exact ⟨rfl, HE5.out⟩
end Go.Proofs.YtmfooocdnoflaaaDoor

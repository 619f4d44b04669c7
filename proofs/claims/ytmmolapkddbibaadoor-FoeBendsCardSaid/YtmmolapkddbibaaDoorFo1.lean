/- Texts that stood apart, in one: Foe5, Foe6. -/
import Derived.Test.YtmmolapkddbibaaDoorFo0
import Derived.ArgAppend
/- Walk of slices.Delete of one shown block. -/
namespace Go.Proofs.Bl
open Go Go.RowKit
section
variable {P : Program} {ops : Array Oper} {rest : List Oper} {a : Act} {w w' : World} {Q : Exit → Act → World → Prop} {d : Option Tmp} {tt t t2 : TypeId} {pp : String} {af : Array Edge} {s x : Operand} {v u r : Value}
theorem stop_clear {args : Array Operand} {ts : Array TypeId} (h : Stuck (wpList P ops Q (⟨d, .call { callee := .builtin .clear, args := args, argTypes := ts }, tt, pp, af, none⟩ :: rest) a w)) : wpList P ops Q (⟨d, .call { callee := .builtin .clear, args := args, argTypes := ts }, tt, pp, af, none⟩ :: rest) a w := h
theorem wpL_clear (hr : ∀ ty, (Builtin.clear_ #[t] ty #[v]).run P w = .ok r w') (hs : a.eval s = v) (h : wpList P ops Q rest (a.put d r) w') :
    wpList P ops Q (⟨d, .call { callee := .builtin .clear, args := #[s], argTypes := #[t] }, tt, pp, af, none⟩ :: rest) a w :=
  wpList_plain rfl fun K hK => by
    unfold Oper.wp execOp
    simp only [resolve, invoke, builtin, Sem.run_bind, Sem.run_pure, Result.andThen_ok, List.map_toArray, List.map_cons, List.map_nil, hs, hr]
    exact hK _ _ h
/-- one element is cleared -/
theorem run_clear_one {e : TypeId} {z : Value} {cs : List Value} {b o c : Nat} (ht : P.underlying t = some (.slice e)) (hv : ∀ w, (zeroValue e).run P w = .ok z w) (hz : (Builtin.zeroCells z.cells 1).toList = cs) (h1 : ∀ c ∈ cs, c.oneCell' = true)
    (hc : ∀ j, j < cs.length → (w.cell? ⟨b, o + j, none⟩).isSome = true) (hf : ∀ j, j < cs.length → w.frozen? ⟨b, o + j, none⟩ = false) (ty : TypeId) :
    (Builtin.clear_ #[t] ty #[.slice (some ⟨b, o, none⟩) 1 c]).run P w = .ok (.tuple #[]) (w.setCells b o cs) := by
  have hst := run_storeCells_cells (P := P) b o cs 0 w (by simpa using hc) (by simpa using hf) h1
  simp only [Nat.add_zero] at hst
  simp [Builtin.clear_, run_underlying ht, hv, hz, hst]
theorem goodX_appr {R : World → World → Prop} {ev : Nat → Value} {φ : Value → World → Prop} {g : Option (Nat × Bool)} (hr : ∀ ty, (Builtin.append_ #[t, t2] ty #[v, u]).run P w = .ok r w') (hs : evalE ev s = v) (hx : evalE ev x = u) (hφ : R w w' ∧ φ r w') :
    GoodX R P w φ ((execOp (evalE ev) ⟨d, .call { callee := .builtin .append, args := #[s, x], argTypes := #[t, t2] }, tt, pp, af, g⟩).run P w) := by
  unfold execOp
  simp only [resolve, invoke, builtin, Sem.run_bind, Sem.run_pure, Result.andThen_ok, List.map_toArray, List.map_cons, List.map_nil, hs, hx, hr]
  exact hφ
end
theorem rangeAt_app {w : World} {g o : Nat} {A B : List Value} (h : w.rangeAt g o A) (k : w.rangeAt g (o + A.length) B) : w.rangeAt g o (A ++ B) := fun j u hu => by
  by_cases hj : j < A.length
  · rw [List.getElem?_append_left hj] at hu
    exact h j u hu
  · rw [List.getElem?_append_right (by omega)] at hu
    have := k (j - A.length) u hu
    rwa [show o + A.length + (j - A.length) = o + j by omega] at this
theorem eraseIdx_cells (L : List Sv) (i : Nat) : cellsR cS (L.eraseIdx i) = cellsR cS (L.take i) ++ cellsR cS (L.drop (i + 1)) := by
  rw [List.eraseIdx_eq_take_drop_succ, cellsR_append]
end Go.Proofs.Bl
namespace Go.Proofs.YtmmolapkddbibaaDoor
open Go Go.RowKit Go.Proofs
theorem zeroShL (w : World) : (zeroValue 65).run Tryd.prog w = .ok (.agg Bl.zSh) w := by kernel_rfl

set_option maxRecDepth 100000 in
set_option maxHeartbeats 4000000 in
theorem del_any (g cap n m N1 i : Nat) (L : List Bl.Sv) (w : World) (hP : Bl.Pk w N1 3 (.slice (some ⟨g, 0, none⟩) n cap) n (Bl.cellsR Bl.cS L)) (hL : L.length = n) (hi : n = i + 1 + m) (hn : n ≤ 30) (hone : ∀ c ∈ Bl.cellsR Bl.cS L, c.oneCell' = true) :
    Calls Tryd.prog 59 #[.slice (some ⟨g, 0, none⟩) n cap, .int .i64 i, .int .i64 (i + 1)] w fun e w' => e = .returned (.slice (some ⟨g, 0, none⟩) (i + m) cap) ∧ w'.rangeAt g 0 (Bl.cellsR Bl.cS (L.eraseIdx i)) ∧ Bl.Kq (fun k => k = g) w w' := by
  subst hi
  have hP0 : w.rangeAt g 0 (Bl.cellsR Bl.cS L) ∧ w.there g 0 (cap * 3) ∧ i + 1 + m ≤ cap ∧ cap ≤ maxLen := by
    rcases hP with ⟨q, _⟩ | ⟨g', cap', hf, _, hp⟩
    · cases q
    · injection hf with hf1 _ hf2
      injection hf1 with hf1
      injection hf1 with hf1
      subst hf1 hf2
      exact ⟨hp.rg, hp.th, hp.le, hp.mx⟩
  obtain ⟨hrg, hth, hnc, hcm⟩ := hP0
  have HS := Bl.hid (And.intro hrg hth)
  obtain ⟨news, hnews⟩ : ∃ z, z = Bl.cellsR Bl.cS (L.drop (i + 1)) := ⟨_, rfl⟩
  have hnl : news.length = m * 3 := by rw [hnews, Bl.cellsS_len, List.length_drop, hL]; omega
  have hnone : ∀ c ∈ news, c.oneCell' = true := fun c hc => by
    rw [hnews, ← Bl.cellsR_drop (s := 3) (fun x _ => Bl.cS_len x)] at hc
    exact hone c (List.mem_of_mem_drop hc)
  have hsrc : ∀ w2 : World, w2.rangeAt g 0 (Bl.cellsR Bl.cS L) → w2.rangeAt g ((i + 1) * 3) news := fun w2 h => by
    have h2 := Bl.rangeAt_drop h ((i + 1) * 3)
    rw [Bl.cellsR_drop (s := 3) (fun x _ => Bl.cS_len x), ← hnews, Nat.zero_add] at h2
    exact h2
  have hpre : ∀ w2 : World, w2.rangeAt g 0 (Bl.cellsR Bl.cS L) → w2.rangeAt g 0 (Bl.cellsR Bl.cS (L.take i)) := fun w2 h => by
    have h2 := Bl.rangeAt_take h (i * 3)
    rw [Bl.cellsR_take (s := 3) (fun x _ => Bl.cS_len x)] at h2
    exact h2
  have hpl : (Bl.cellsR Bl.cS (L.take i)).length = i * 3 := by rw [Bl.cellsS_len, List.length_take, hL, Nat.min_eq_left (by omega)]
  have Hset : Hid (∀ w2 : World, (w2.rangeAt g 0 (Bl.cellsR Bl.cS L) ∧ w2.there g 0 (cap * 3)) → (w2.setCells g (0 + i * 3) news).rangeAt g 0 (Bl.cellsR Bl.cS (L.eraseIdx i)) ∧ (w2.setCells g (0 + i * 3) news).there g 0 (cap * 3)) := Bl.hid fun w2 h2 => by
    refine ⟨?_, World.there_setCells h2.2 _ _ _⟩
    rw [Bl.eraseIdx_cells, ← hnews]
    refine Bl.rangeAt_app (World.rangeAt_setCells_apart (hpre w2 h2.1) g (0 + i * 3) news (.inr (.inl (by rw [hpl]; omega)))) ?_
    rw [hpl]
    exact World.rangeAt_setCells_same w2 g (0 + i * 3) news (fun j hj => by
      have := h2.2 (i * 3 + j) (by rw [hnl] at hj; omega)
      rwa [← Nat.add_assoc] at this)
  obtain ⟨i0, hi0, hz0, hz1, hz2⟩ := info_parts tShL.info
  have hRun : ∀ (A : Addr) (c : Nat) (w2 : World), (m = 0 ∨ A = ⟨g, (i + 1) * 3, none⟩) → (w2.rangeAt g 0 (Bl.cellsR Bl.cS L) ∧ w2.there g 0 (cap * 3)) → ∀ ty, (Builtin.append_ #[23, 23] ty #[.slice (some ⟨g, 0, none⟩) i cap, .slice (some A) m c]).run Tryd.prog w2 = .ok (.slice (some ⟨g, 0, none⟩) (i + m) cap) (w2.setCells g (0 + i * 3) news) := fun A c w2 hA h2 ty => by
    have h := run_append_room_cells (P := Tryd.prog) w2 23 ty 65 i0 tShL.ht hi0 g 0 i cap A m c news (by rw [hz1]; exact hnl) (fun j u hj => by
      rcases hA with rfl | rfl
      · have hn0 : news = [] := List.length_eq_zero_iff.1 (by simpa using hnl)
        rw [hn0] at hj
        simp at hj
      · rw [Addr.add_mid]; exact hsrc w2 h2.1 j u hj) hnone (by omega) (fun j hj => (by
        rw [hz1]
        have := (h2.2 (i * 3 + j) (by rw [hnl] at hj; omega)).1
        rwa [← Nat.add_assoc] at this)) (fun j hj => (by
        rw [hz1]
        have := (h2.2 (i * 3 + j) (by rw [hnl] at hj; omega)).2
        rwa [← Nat.add_assoc] at this))
    rw [hz1] at h
    exact h
  have Hcl : Hid (∀ (c : Nat) (w2 : World), w2.there g 0 (cap * 3) → ∀ ty, (Builtin.clear_ #[23] ty #[.slice (some ⟨g, (i + m) * 3, none⟩) 1 c]).run Tryd.prog w2 = .ok (.tuple #[]) (w2.setCells g ((i + m) * 3) Bl.zSh.toList)) := Bl.hid fun c w2 h ty => Bl.run_clear_one (P := Tryd.prog) (cs := Bl.zSh.toList) tShL.ht zeroShL (by kernel_rfl) (fun c hc => by
      simp only [List.mem_cons, List.not_mem_nil, or_false] at hc
      rcases hc with rfl | rfl | rfl <;> rfl) (fun j hj => by
      have := (h ((i + m) * 3 + j) (by have : j < 3 := hj; omega)).1
      rwa [Nat.zero_add] at this) (fun j hj => by
      have := (h ((i + m) * 3 + j) (by have : j < 3 := hj; omega)).2
      rwa [Nat.zero_add] at this) ty
  have Hel : Hid ((Bl.cellsR Bl.cS (L.eraseIdx i)).length = (i + m) * 3) := Bl.hid (by rw [Bl.eraseIdx_cells, ← hnews, List.length_append, hpl, hnl]; omega)
  have h0 : (0 : Int) ≤ (i : Int) := by omega
  have h1 : (i : Int) + 1 ≤ (i : Int) + 1 + (m : Int) := by omega
  have h4 : (0 : Int) ≤ (i : Int) + 1 := by omega
  have h2 : (i : Int) + 1 + (m : Int) ≤ (cap : Int) := by omega
  have h3 : (i : Int) + 1 + (m : Int) ≤ 30 := by omega
  have h5 : i ≤ cap := by omega
  have h6 : (i : Int) ≤ (i : Int) + 1 := by omega
  have h7 : (i : Int) + (m : Int) ≤ (i : Int) + 1 + (m : Int) := by omega
  have h8 : (0 : Int) ≤ (i : Int) + (m : Int) := by omega
  have h9 : ¬ (cap - (i + m) = 0) := by omega
  unfold maxLen at hcm
  by_cases hc : cap = i + 1
  · obtain rfl : m = 0 := by omega
    have Hrun : Hid (∀ w2 : World, _ → ∀ ty, _) := Bl.hid (fun (w2 : World) => hRun ⟨g, 0, none⟩ 0 w2 (.inl rfl))
    subst hc
    clear hP hrg hth hnews hnl hnone hsrc hpre hpl hRun hone hi0 hz0 hz1 hz2
    go_enter Tryd.func59, Tryd.ntmps59
    go_wp2_with fail
    apply Bl.wp_region_evK (Bl.Kq (fun k => k = g)) (Bl.HJ 6 (fun w' => w'.rangeAt g 0 (Bl.cellsR Bl.cS L) ∧ w'.there g 0 ((i + 1) * 3)) (fun w' => w'.rangeAt g 0 (Bl.cellsR Bl.cS (L.eraseIdx i)) ∧ w'.there g 0 ((i + 1) * 3))) 7 [20, 21, 22, 23, 24, 25, 26] [Bl.eqv _, Bl.eqv _, Bl.eqv _, Bl.eqv _, Bl.eqv _, Bl.eqv _, Bl.eqv _] (fun w => Bl.Kq.refl w) (fun a b c h k => Bl.Kq.trans h k) (by kernel_rfl) (by kernel_rfl) (by kernel_rfl) (by kernel_rfl)
    case hsteps =>
      refine ⟨?_, ?_, ?_, ?_, ?_, ?_, ?_, trivial⟩
      all_goals
        intro d ev w1 hext HJd Hanc Hdes hni hb hd
        replace Hanc := Bl.hid Hanc
        replace HJd := Bl.hid HJd
        replace Hdes := Bl.hid Hdes
        replace hni := Bl.hid hni
        have e0 := hb 0 (by decide)
        have e1 := hb 1 (by decide)
        have e2 := hb 2 (by decide)
        clear hb
        simp only [Array.getD_eq_getD_getElem?, List.getElem?_toArray, List.getElem?_cons_succ, List.getElem?_cons_zero, Option.getD_some] at e0 e1 e2
        simp only [Bl.DepsE2, List.getElem?_cons_succ, List.getElem?_cons_zero, Option.bind_some, List.getD_cons_succ, List.getD_cons_zero, Bl.eqv, and_true] at hd
        rw [if_pos (rfl : Region.wanted _ _ = true)]
        first
        | ((with_reducible refine Bl.goodX_appr (Hrun.out w1 (Bl.HJ.get HJd.out hni.out)) ?_ ?_ ?_); exact (by first | exact hd | exact hd.2 | exact hd.1.2 | exact hd.1.1.2 | exact hd.1.1.1.2 | exact hd.1.1.1.1.2 | exact hd.1.1.1.1.1.2 | exact hd.1.1.1.1.1.1.2 | exact hd.1.1.1.1.1.1.1.2 | exact hd.1.1.1.1.1.1.1.1.2 | exact hd.1.1.1.1.1.1.1.1.1.2 | exact hd.1.1.1.1.1.1.1.1.1.1.2 | exact hd.1.1.1.1.1.1.1.1.1.1.1.2 | exact hd.1.1.1.1.1.1.1.1.1.1.1.1.2 | exact hd.1.1.1.1.1.1.1.1.1.1.1.1.1.2 | exact hd.1 | exact hd.1.1 | exact hd.1.1.1 | exact hd.1.1.1.1 | exact hd.1.1.1.1.1 | exact hd.1.1.1.1.1.1 | exact hd.1.1.1.1.1.1.1 | exact hd.1.1.1.1.1.1.1.1 | exact hd.1.1.1.1.1.1.1.1.1 | exact hd.1.1.1.1.1.1.1.1.1.1 | exact hd.1.1.1.1.1.1.1.1.1.1.1 | exact hd.1.1.1.1.1.1.1.1.1.1.1.1 | exact hd.1.1.1.1.1.1.1.1.1.1.1.1.1 | exact hd.2.1 | exact hd.2.2.1 | exact hd.2.2.2.1 | exact hd.2.2.2.2.1 | exact hd.2.2.2.2.2.1 | exact hd.2.2.2.2.2.2.1 | exact hd.2.2.2.2.2.2.2.1 | exact hd.2.2.2.2.2.2.2.2.1 | exact hd.2.2.2.2.2.2.2.2.2.1 | exact hd.2.2.2.2.2.2.2.2.2.2.1 | exact hd.2.2.2.2.2.2.2.2.2.2.2.1 | exact hd.2.2.2.2.2.2.2.2.2.2.2.2.1 | exact hd.2.2.2.2.2.2.2.2.2.2.2.2.2.1); exact (by first | exact hd | exact hd.2 | exact hd.1.2 | exact hd.1.1.2 | exact hd.1.1.1.2 | exact hd.1.1.1.1.2 | exact hd.1.1.1.1.1.2 | exact hd.1.1.1.1.1.1.2 | exact hd.1.1.1.1.1.1.1.2 | exact hd.1.1.1.1.1.1.1.1.2 | exact hd.1.1.1.1.1.1.1.1.1.2 | exact hd.1.1.1.1.1.1.1.1.1.1.2 | exact hd.1.1.1.1.1.1.1.1.1.1.1.2 | exact hd.1.1.1.1.1.1.1.1.1.1.1.1.2 | exact hd.1.1.1.1.1.1.1.1.1.1.1.1.1.2 | exact hd.1 | exact hd.1.1 | exact hd.1.1.1 | exact hd.1.1.1.1 | exact hd.1.1.1.1.1 | exact hd.1.1.1.1.1.1 | exact hd.1.1.1.1.1.1.1 | exact hd.1.1.1.1.1.1.1.1 | exact hd.1.1.1.1.1.1.1.1.1 | exact hd.1.1.1.1.1.1.1.1.1.1 | exact hd.1.1.1.1.1.1.1.1.1.1.1 | exact hd.1.1.1.1.1.1.1.1.1.1.1.1 | exact hd.1.1.1.1.1.1.1.1.1.1.1.1.1 | exact hd.2.1 | exact hd.2.2.1 | exact hd.2.2.2.1 | exact hd.2.2.2.2.1 | exact hd.2.2.2.2.2.1 | exact hd.2.2.2.2.2.2.1 | exact hd.2.2.2.2.2.2.2.1 | exact hd.2.2.2.2.2.2.2.2.1 | exact hd.2.2.2.2.2.2.2.2.2.1 | exact hd.2.2.2.2.2.2.2.2.2.2.1 | exact hd.2.2.2.2.2.2.2.2.2.2.2.1 | exact hd.2.2.2.2.2.2.2.2.2.2.2.2.1 | exact hd.2.2.2.2.2.2.2.2.2.2.2.2.2.1); exact ⟨(Bl.Kq.refl w1).setCells (Q := fun k => k = g) rfl _ _, rfl, Bl.HJ.set (Hset.out w1 (Bl.HJ.get HJd.out hni.out))⟩)
        | (go_simp; first | exact ⟨Bl.Kq.refl _, rfl, Bl.HJ.same (by decide) HJd.out⟩ | exact ⟨Below.refl _ _, rfl, Bl.HJ.same (by decide) HJd.out⟩)
    case hmono => exact ⟨Bl.monoR_eqv _, Bl.monoR_eqv _, Bl.monoR_eqv _, Bl.monoR_eqv _, Bl.monoR_eqv _, Bl.monoR_eqv _, Bl.monoR_eqv _, trivial⟩
    case hR0 => exact Bl.Kq.drew _
    case hend =>
      intro u w1 hext hJ hend
      simp only [Bl.EndE, List.getElem?_cons_succ, List.getElem?_cons_zero, Option.bind_some, List.getD_cons_succ, List.getD_cons_zero, Bl.eqv, true_and] at hend
      simp only [Bl.fillAct, List.setIfInBounds_toArray, List.set_cons_succ, List.set_cons_zero, List.drop_succ_cons, List.drop_zero, hend]
      have HB := Bl.hid (Bl.HJ.got hJ rfl)
      have HK := Bl.hid hext
      have Hc := Bl.hid (Hcl.out (1) w1 HB.out.2)
      have HK2 : Hid (Bl.Kq (fun k => k = g) w (w1.setCells g ((i + 0) * 3) Bl.zSh.toList)) := Bl.hid (HK.out.setCells (Q := fun k => k = g) rfl _ _)
      have HR : Hid ((w1.setCells g ((i + 0) * 3) Bl.zSh.toList).rangeAt g 0 (Bl.cellsR Bl.cS (L.eraseIdx i))) := Bl.hid (World.rangeAt_setCells_apart HB.out.1 g _ _ (.inr (.inl (by rw [Hel.out]; omega))))
      clear hext hJ hend
      go_wp2_with (with_reducible refine Bl.stop_clear ?_)
      refine Bl.go_on ?_
      try rw [show i + 1 + 0 - (i + 0) = 1 by omega]
      refine Bl.wpL_clear Hc.out rfl ?_
      go_wp2_with fail
      go_ret
      exact ⟨rfl, HR.out, HK2.out⟩
    case hJ0 => exact Bl.HJ.start HS.out
  · have hc' : ¬ (cap - (i + 1) = 0) := by omega
    have Hrun : Hid (∀ w2 : World, _ → ∀ ty, _) := Bl.hid (fun (w2 : World) => hRun ⟨g, (i + 1) * 3, none⟩ (cap - (i + 1)) w2 (.inr rfl))
    clear hP hrg hth hnews hnl hnone hsrc hpre hpl hRun hone hi0 hz0 hz1 hz2
    go_enter Tryd.func59, Tryd.ntmps59
    go_wp2_with fail
    apply Bl.wp_region_evK (Bl.Kq (fun k => k = g)) (Bl.HJ 6 (fun w' => w'.rangeAt g 0 (Bl.cellsR Bl.cS L) ∧ w'.there g 0 (cap * 3)) (fun w' => w'.rangeAt g 0 (Bl.cellsR Bl.cS (L.eraseIdx i)) ∧ w'.there g 0 (cap * 3))) 7 [20, 21, 22, 23, 24, 25, 26] [Bl.eqv _, Bl.eqv _, Bl.eqv _, Bl.eqv _, Bl.eqv _, Bl.eqv _, Bl.eqv _] (fun w => Bl.Kq.refl w) (fun a b c h k => Bl.Kq.trans h k) (by kernel_rfl) (by kernel_rfl) (by kernel_rfl) (by kernel_rfl)
    case hsteps =>
      refine ⟨?_, ?_, ?_, ?_, ?_, ?_, ?_, trivial⟩
      all_goals
        intro d ev w1 hext HJd Hanc Hdes hni hb hd
        replace Hanc := Bl.hid Hanc
        replace HJd := Bl.hid HJd
        replace Hdes := Bl.hid Hdes
        replace hni := Bl.hid hni
        have e0 := hb 0 (by decide)
        have e1 := hb 1 (by decide)
        have e2 := hb 2 (by decide)
        clear hb
        simp only [Array.getD_eq_getD_getElem?, List.getElem?_toArray, List.getElem?_cons_succ, List.getElem?_cons_zero, Option.getD_some] at e0 e1 e2
        simp only [Bl.DepsE2, List.getElem?_cons_succ, List.getElem?_cons_zero, Option.bind_some, List.getD_cons_succ, List.getD_cons_zero, Bl.eqv, and_true] at hd
        rw [if_pos (rfl : Region.wanted _ _ = true)]
        first
        | ((with_reducible refine Bl.goodX_appr (Hrun.out w1 (Bl.HJ.get HJd.out hni.out)) ?_ ?_ ?_); exact (by first | exact hd | exact hd.2 | exact hd.1.2 | exact hd.1.1.2 | exact hd.1.1.1.2 | exact hd.1.1.1.1.2 | exact hd.1.1.1.1.1.2 | exact hd.1.1.1.1.1.1.2 | exact hd.1.1.1.1.1.1.1.2 | exact hd.1.1.1.1.1.1.1.1.2 | exact hd.1.1.1.1.1.1.1.1.1.2 | exact hd.1.1.1.1.1.1.1.1.1.1.2 | exact hd.1.1.1.1.1.1.1.1.1.1.1.2 | exact hd.1.1.1.1.1.1.1.1.1.1.1.1.2 | exact hd.1.1.1.1.1.1.1.1.1.1.1.1.1.2 | exact hd.1 | exact hd.1.1 | exact hd.1.1.1 | exact hd.1.1.1.1 | exact hd.1.1.1.1.1 | exact hd.1.1.1.1.1.1 | exact hd.1.1.1.1.1.1.1 | exact hd.1.1.1.1.1.1.1.1 | exact hd.1.1.1.1.1.1.1.1.1 | exact hd.1.1.1.1.1.1.1.1.1.1 | exact hd.1.1.1.1.1.1.1.1.1.1.1 | exact hd.1.1.1.1.1.1.1.1.1.1.1.1 | exact hd.1.1.1.1.1.1.1.1.1.1.1.1.1 | exact hd.2.1 | exact hd.2.2.1 | exact hd.2.2.2.1 | exact hd.2.2.2.2.1 | exact hd.2.2.2.2.2.1 | exact hd.2.2.2.2.2.2.1 | exact hd.2.2.2.2.2.2.2.1 | exact hd.2.2.2.2.2.2.2.2.1 | exact hd.2.2.2.2.2.2.2.2.2.1 | exact hd.2.2.2.2.2.2.2.2.2.2.1 | exact hd.2.2.2.2.2.2.2.2.2.2.2.1 | exact hd.2.2.2.2.2.2.2.2.2.2.2.2.1 | exact hd.2.2.2.2.2.2.2.2.2.2.2.2.2.1); exact (by first | exact hd | exact hd.2 | exact hd.1.2 | exact hd.1.1.2 | exact hd.1.1.1.2 | exact hd.1.1.1.1.2 | exact hd.1.1.1.1.1.2 | exact hd.1.1.1.1.1.1.2 | exact hd.1.1.1.1.1.1.1.2 | exact hd.1.1.1.1.1.1.1.1.2 | exact hd.1.1.1.1.1.1.1.1.1.2 | exact hd.1.1.1.1.1.1.1.1.1.1.2 | exact hd.1.1.1.1.1.1.1.1.1.1.1.2 | exact hd.1.1.1.1.1.1.1.1.1.1.1.1.2 | exact hd.1.1.1.1.1.1.1.1.1.1.1.1.1.2 | exact hd.1 | exact hd.1.1 | exact hd.1.1.1 | exact hd.1.1.1.1 | exact hd.1.1.1.1.1 | exact hd.1.1.1.1.1.1 | exact hd.1.1.1.1.1.1.1 | exact hd.1.1.1.1.1.1.1.1 | exact hd.1.1.1.1.1.1.1.1.1 | exact hd.1.1.1.1.1.1.1.1.1.1 | exact hd.1.1.1.1.1.1.1.1.1.1.1 | exact hd.1.1.1.1.1.1.1.1.1.1.1.1 | exact hd.1.1.1.1.1.1.1.1.1.1.1.1.1 | exact hd.2.1 | exact hd.2.2.1 | exact hd.2.2.2.1 | exact hd.2.2.2.2.1 | exact hd.2.2.2.2.2.1 | exact hd.2.2.2.2.2.2.1 | exact hd.2.2.2.2.2.2.2.1 | exact hd.2.2.2.2.2.2.2.2.1 | exact hd.2.2.2.2.2.2.2.2.2.1 | exact hd.2.2.2.2.2.2.2.2.2.2.1 | exact hd.2.2.2.2.2.2.2.2.2.2.2.1 | exact hd.2.2.2.2.2.2.2.2.2.2.2.2.1 | exact hd.2.2.2.2.2.2.2.2.2.2.2.2.2.1); exact ⟨(Bl.Kq.refl w1).setCells (Q := fun k => k = g) rfl _ _, rfl, Bl.HJ.set (Hset.out w1 (Bl.HJ.get HJd.out hni.out))⟩)
        | (go_simp; first | exact ⟨Bl.Kq.refl _, rfl, Bl.HJ.same (by decide) HJd.out⟩ | exact ⟨Below.refl _ _, rfl, Bl.HJ.same (by decide) HJd.out⟩)
    case hmono => exact ⟨Bl.monoR_eqv _, Bl.monoR_eqv _, Bl.monoR_eqv _, Bl.monoR_eqv _, Bl.monoR_eqv _, Bl.monoR_eqv _, Bl.monoR_eqv _, trivial⟩
    case hR0 => exact Bl.Kq.drew _
    case hend =>
      intro u w1 hext hJ hend
      simp only [Bl.EndE, List.getElem?_cons_succ, List.getElem?_cons_zero, Option.bind_some, List.getD_cons_succ, List.getD_cons_zero, Bl.eqv, true_and] at hend
      simp only [Bl.fillAct, List.setIfInBounds_toArray, List.set_cons_succ, List.set_cons_zero, List.drop_succ_cons, List.drop_zero, hend]
      have HB := Bl.hid (Bl.HJ.got hJ rfl)
      have HK := Bl.hid hext
      have Hc := Bl.hid (Hcl.out (cap - (i + m)) w1 HB.out.2)
      have HK2 : Hid (Bl.Kq (fun k => k = g) w (w1.setCells g ((i + m) * 3) Bl.zSh.toList)) := Bl.hid (HK.out.setCells (Q := fun k => k = g) rfl _ _)
      have HR : Hid ((w1.setCells g ((i + m) * 3) Bl.zSh.toList).rangeAt g 0 (Bl.cellsR Bl.cS (L.eraseIdx i))) := Bl.hid (World.rangeAt_setCells_apart HB.out.1 g _ _ (.inr (.inl (by rw [Hel.out]; omega))))
      clear hext hJ hend
      go_wp2_with (with_reducible refine Bl.stop_clear ?_)
      refine Bl.go_on ?_
      rw [show i + 1 + m - (i + m) = 1 by omega]
      refine Bl.wpL_clear Hc.out rfl ?_
      go_wp2_with fail
      go_ret
      exact ⟨rfl, HR.out, HK2.out⟩
    case hJ0 => exact Bl.HJ.start HS.out
end Go.Proofs.YtmmolapkddbibaaDoor

/- What a trick makes of the shown blocks of a letter apart: plainly. No program. -/
namespace Go.Proofs.Bl
open Go Go.RowKit
/-- what shown hands back -/
def ShR (k at' y : Int) (l : LT) (vp vb : Value) (P B : Nat) (w : World) (e : Ending) (w' : World) : Prop := e = .returned (.tuple #[]) ∧ ∃ vs2 L2, BoxC w' P (cL (bendA k at' y l) vp vs2 vb) ∧ LtF (fun b => B ≤ b) w' (bendA k at' y l) vp vs2 vb L2 ∧ Kq (fun k => k = P ∨ B ≤ k) w w'
theorem set_getD {α : Type} (d : α) (L : List α) (i : Nat) (h : i < L.length) : L.set i (L.getD i d) = L := by
  rw [set_at L i _ h, ← list_at d L i h]
theorem set2S (L : List Sv) (i : Nat) (hi : i < L.length) (a b : Value) (st : List Int) (pa : List (List Int)) : ((cellsR cS L).set (i * 3 + 1) a).set (i * 3 + 2) b = cellsR cS (L.set i ((L.getD i s0).1, (a, st), b, pa)) := by
  rw [cellsR_set cS_len s0 ((L.getD i s0).1, (a, st), (L.getD i s0).2.2.1, pa) a 1 (by decide) L i hi rfl]
  rw [cellsR_set cS_len s0 ((L.getD i s0).1, (a, st), b, pa) b 2 (by decide) _ i (by rw [List.length_set]; exact hi) (by rw [getD_set s0 _ L i hi]; rfl), List.set_set]
theorem Pk.there {w : World} {base size n g cap m : Nat} {xs : List Value} (h : Pk w base size (.slice (some ⟨g, 0, none⟩) n cap) n xs) (hm : m ≤ n * size) : w.there g 0 m := by
  rcases h with ⟨q, _, _⟩ | ⟨g', cap', hv, hg, hp⟩
  · cases q
  injection hv with hv _ hc
  injection hv with hv
  injection hv with hv
  subst hv hc
  exact fun j hj => hp.th j (by have := Nat.mul_le_mul_right size hp.le; omega)
/-- two shown blocks change their rows -/
def swL (L : List Sv) (i : Nat) : List Sv := (L.set i ((L.getD i s0).1, (L.getD 0 s0).2)).set 0 (((L.set i ((L.getD i s0).1, (L.getD 0 s0).2)).getD 0 s0).1, (L.getD i s0).2)
theorem swL_len (L : List Sv) (i : Nat) : (swL L i).length = L.length := by unfold swL; rw [List.length_set, List.length_set]
theorem swap_cells (L : List Sv) (i : Nat) (h0 : 0 < L.length) (hi : i < L.length) : ((((cellsR cS L).set (i * 3 + 1) (L.getD 0 s0).2.1.1).set 1 (L.getD i s0).2.1.1).set (i * 3 + 2) (L.getD 0 s0).2.2.1).set 2 (L.getD i s0).2.2.1 = cellsR cS (swL L i) := by
  rw [List.set_comm (i := 1) (j := i * 3 + 2) _ _ (by omega), set2S L i hi _ _ (L.getD 0 s0).2.1.2 (L.getD 0 s0).2.2.2]
  have h := set2S (L.set i ((L.getD i s0).1, (L.getD 0 s0).2)) 0 (by rw [List.length_set]; exact h0) (L.getD i s0).2.1.1 (L.getD i s0).2.2.1 (L.getD i s0).2.1.2 (L.getD i s0).2.2.2
  rw [Nat.zero_mul, Nat.zero_add, Nat.zero_add] at h
  exact h
theorem getD_zero_set (L : List Sv) (i : Nat) (y : Sv) (hi : i < L.length) (hy : y.1 = (L.getD i s0).1) : ((L.set i y).getD 0 s0).1 = (L.getD 0 s0).1 := by
  by_cases h : i = 0
  · subst h; rw [getD_set s0 y L 0 hi, hy]
  · rw [List.getD_eq_getElem?_getD, List.getD_eq_getElem?_getD, List.getElem?_set_ne h]
theorem swap_pl (L : List Sv) (i : Nat) (_h0 : 0 < L.length) (hi : i < L.length) : (swL L i).map plS = swS (L.map plS) i := by
  unfold swL swS
  rw [getD_zero_set L i ((L.getD i s0).1, (L.getD 0 s0).2) hi rfl, List.map_set, List.map_set, plS_getD, plS_getD]
  show ((L.map plS).set i ((plS (L.getD i s0)).1, (plS (L.getD 0 s0)).2)).set 0 ((plS (L.getD 0 s0)).1, (plS (L.getD i s0)).2) = ((L.map plS).set 0 ((plS (L.getD 0 s0)).1, (plS (L.getD i s0)).2)).set i ((plS (L.getD i s0)).1, (plS (L.getD 0 s0)).2)
  by_cases h : i = 0
  · subst h; rfl
  · exact List.set_comm _ _ h
theorem swap_ok {F : Nat → Prop} {w : World} {L : List Sv} {i : Nat} (h0 : 0 < L.length) (hi : i < L.length) (h : ∀ x ∈ L, OkF F w x) : ∀ x ∈ swL L i, OkF F w x := fun x hx => by
  have k0 := h _ (getD_mem s0 h0)
  have ki := h _ (getD_mem s0 hi)
  unfold swL at hx
  rcases List.mem_or_eq_of_mem_set hx with hx | rfl
  · rcases List.mem_or_eq_of_mem_set hx with hx | rfl
    · exact h x hx
    · exact ⟨k0.st, k0.bs, k0.pa, k0.dg⟩
  · exact ⟨ki.st, ki.bs, ki.pa, ki.dg⟩
theorem cellsD_set0 (ds : List (List Int)) (j : Nat) (x : Int) (h : 0 < ds.length) (hd : Dig ds) (hj : j < 32) : (cellsD ds).set j (.int .u8 x) = cellsD (ds.set 0 ((ds.getD 0 []).set j x)) := by
  cases ds with
  | nil => cases h
  | cons d r =>
    have hl := (hd d (by simp)).1
    show (ints .u8 d ++ cellsD r).set j _ = ints .u8 (d.set j x) ++ cellsD r
    rw [List.set_append_left _ _ (by rw [ints_length, hl]; exact hj), ints_set]
theorem EP.putS {m1 m2 b n c j : Nat} {w : World} {p x : Int} {st : List Int} {u2 : Value} {pa : List (List Int)} (h : EP m1 m2 w (p, (.slice (some ⟨b, 0, none⟩) n c, st), u2, pa)) (hn : n = st.length) (hj : j < n) (hx : 0 ≤ x ∧ x ≤ 255) : EP m1 m2 (w.setCell ⟨b, j, none⟩ (.int .u8 x)) (p, (.slice (some ⟨b, 0, none⟩) n c, st.set j x), u2, pa) := by
  have hs := ((Below.refl 0 w).setCell (p := ⟨b, j, none⟩) (Nat.zero_le _) (.int .u8 x)).size
  refine ⟨⟨?_, h.st.2⟩, ⟨h.pa.1.kept (fun k hk => Below.heap_setCell w ⟨b, j, none⟩ _ k (fun q => h.ne b rfl (by have q : k = b := q; rw [← q]; exact hk))) hs, h.pa.2⟩, h.ne, h.bs.setB hx j, h.dg⟩
  have h1 := h.st.1
  simp only at h1
  rw [← hn] at h1
  have h2 := h1.put (j := j) (by rw [ints_length, ← hn]; exact hj) (.int .u8 x)
  rw [ints_set] at h2
  show Pk _ m1 1 _ (st.set j x).length _
  rw [List.length_set, ← hn]
  exact h2
theorem EP.putP {m1 m2 b n c j : Nat} {w : World} {p x : Int} {st : List Int} {u1 : Value} {pa : List (List Int)} (h : EP m1 m2 w (p, (u1, st), .slice (some ⟨b, 0, none⟩) n c, pa)) (hn : n = pa.length) (h0 : 0 < n) (hj : j < 32) (hx : 0 ≤ x ∧ x ≤ 255) : EP m1 m2 (w.setCell ⟨b, j, none⟩ (.int .u8 x)) (p, (u1, st), .slice (some ⟨b, 0, none⟩) n c, pa.set 0 ((pa.getD 0 []).set j x)) := by
  have hs := ((Below.refl 0 w).setCell (p := ⟨b, j, none⟩) (Nat.zero_le _) (.int .u8 x)).size
  have hd : (pa.getD 0 []).length = 32 ∧ Byt (pa.getD 0 []) := h.dg.get (i := 0) (by show 0 < pa.length; omega)
  refine ⟨⟨h.st.1.kept (fun k hk => Below.heap_setCell w ⟨b, j, none⟩ _ k (fun q => h.ne k hk (by have q : k = b := q; rw [q]; rfl))) hs, h.st.2⟩, ⟨?_, h.pa.2⟩, h.ne, h.bs, fun d hd' => ?_⟩
  · have h1 := h.pa.1
    simp only at h1
    rw [← hn] at h1
    have hl := cellsD_length h.dg
    simp only at hl
    have h2 := h1.put (j := j) (by rw [hl]; show j < pa.length * 32; omega) (.int .u8 x)
    rw [cellsD_set0 pa j x (by omega) h.dg hj] at h2
    show Pk _ m1 32 _ (pa.set 0 _).length _
    rw [List.length_set, ← hn]
    exact h2
  · rcases List.mem_or_eq_of_mem_set hd' with q | rfl
    · exact h.dg d q
    · exact ⟨by rw [List.length_set]; exact hd.1, hd.2.setB hx j⟩
end Go.Proofs.Bl

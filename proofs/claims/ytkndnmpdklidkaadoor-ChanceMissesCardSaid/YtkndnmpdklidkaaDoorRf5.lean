/- Walk of baileeref37.Choose: Pascal's triangle, row by row. -/
import Derived.Test.YtkndnmpdklidkaaDoorCl1
import Derived.Test.YtkndnmpdklidkaaDoorDin
import Derived.RegionTactic
import Derived.BigRegion
namespace Go.Proofs.Bl
open Go Go.RowKit
/-- an element of a row that grows: bits, one or more, that lie outside the row's own block -/
def RB (w : World) (g : Option Nat) (u : Value) (l : List Int) : Prop := l ≠ [] ∧ Rd w .u8 u l ∧ ∀ b, u.ownBlock = some b → g ≠ some b
theorem RB.ext {w w' : World} {g : Option Nat} {u : Value} {l : List Int} (h : RB w g u l) (hE : Ext w w') : RB w' g u l := ⟨h.1, h.2.1.ext hE, h.2.2⟩
theorem RB.grow {w w' : World} {g g' : Option Nat} {u : Value} {l : List Int} (h : RB w g u l) (hg : w.grownBy w' g) (hk : ∀ k, g' = some k → g = some k ∨ w.heap.size ≤ k) : RB w' g' u l := by
  obtain ⟨h1, h2, h3⟩ := h
  obtain ⟨b, o, c, hu, hn, hc, hb, hr, _⟩ := Rd.pos h2 (List.length_pos_iff.2 h1)
  subst hu
  refine ⟨h1, .inr ⟨b, o, c, rfl, hn, hc, rangeAt_grown hr hg (h3 b rfl)⟩, fun k hk' q => ?_⟩
  have e : b = k := by simpa [Value.ownBlock] using hk'
  subst e
  rcases hk b q with h | h
  · exact h3 b rfl h
  · omega
/-- one number's bits in a new cell: what is appended -/
def Cell1 (B : Nat) (l : List Int) (v : Value) (w : World) : Prop := ∃ g u, v = .slice (some ⟨g, 0, none⟩) 1 1 ∧ w.rangeAt g 0 [u] ∧ Rd w .u8 u l ∧ ∀ q, u.ownBlock = some q → B ≤ q
theorem Cell1.ext {B : Nat} {l : List Int} {v : Value} {w w' : World} (h : Cell1 B l v w) (hE : Ext w w') : Cell1 B l v w' := by
  obtain ⟨g, u, h1, h2, h3, h4⟩ := h
  exact ⟨g, u, h1, rangeAt_ext h2 hE, h3.ext hE, h4⟩
theorem cell1_new {B : Nat} {l : List Int} {u : Value} {w : World} {e : TypeId} (h : Rd w .u8 u l) (hq : ∀ q, u.ownBlock = some q → B ≤ q) : Cell1 B l (.slice (some ⟨w.heap.size, 0, none⟩) 1 1) (w.alloc (.cells #[u] e)) := by
  refine ⟨w.heap.size, u, rfl, fun j v hv => ?_, h.ext (ext_alloc _ _), hq⟩
  rw [Nat.zero_add, World.cell?_alloc_new]
  simpa using hv
/-- bits in a new row -/
def NewB (B : Nat) (l : List Int) (v : Value) (w : World) : Prop := Rd w .u8 v l ∧ ∀ q, v.ownBlock = some q → B ≤ q
theorem NewB.ext {B : Nat} {l : List Int} {v : Value} {w w' : World} (h : NewB B l v w) (hE : Ext w w') : NewB B l v w' := ⟨h.1.ext hE, h.2⟩
theorem NewB.form {B : Nat} {l : List Int} {v : Value} {w : World} (h : NewB B l v w) : ∃ p c, v = .slice p l.length c ∧ NewB B l (.slice p l.length c) w := by
  obtain ⟨p, c, e, _, _⟩ := h.1.form
  exact ⟨p, c, e, by rw [← e]; exact h⟩
theorem getD_app1 (cs : List Value) (u : Value) (n j : Nat) (hn : cs.length = n) (hj : j < n) : (cs ++ [u]).getD j undef = cs.getD j undef := by
  rw [List.getD_eq_getElem?_getD, List.getD_eq_getElem?_getD, List.getElem?_append_left (by omega)]
theorem getD_app2 (cs : List Value) (u : Value) (n : Nat) (hn : cs.length = n) : (cs ++ [u]).getD n undef = u := by
  rw [List.getD_eq_getElem?_getD, List.getElem?_append_right (by omega), hn, Nat.sub_self]; rfl
/-- the row, one element longer -/
theorem rb_add {w w1 w2 : World} {v v' u : Value} {n : Nat} {cs : List Value} {f : Nat → List Int} (hn : cs.length = n) (h : ∀ j, j < n → RB w v.ownBlock (cs.getD j undef) (f j)) (hE : Ext w w1)
    (hu : Rd w1 .u8 u (f n)) (hne : f n ≠ []) (hq : ∀ b, u.ownBlock = some b → v.ownBlock ≠ some b) (hg : w1.grownBy w2 v.ownBlock) (hk : ∀ k, v'.ownBlock = some k → v.ownBlock = some k ∨ w1.heap.size ≤ k) :
    ∀ j, j < n + 1 → RB w2 v'.ownBlock ((cs ++ [u]).getD j undef) (f j) := fun j hj => by
  by_cases e : j < n
  · rw [getD_app1 cs u n j hn e]
    exact ((h j e).ext hE).grow hg hk
  · obtain rfl : j = n := by omega
    rw [getD_app2 cs u j hn]
    exact RB.grow ⟨hne, hu, hq⟩ hg hk
theorem tb_bin_ne (n k : Nat) (h : k ≤ n) : tb (bin n k) ≠ [] := fun q => by
  have h1 := (tb_nil_iff _).1 q
  have h2 : 0 < bin n k := by
    have : ∀ n k, k ≤ n → 0 < bin n k := by
      intro n
      induction n with
      | zero => intro k hk; obtain rfl : k = 0 := by omega
                decide
      | succ n ih =>
        intro k hk
        cases k with
        | zero => rw [bin_zero]; decide
        | succ k => rw [bin_succ]; have := ih k (by omega); omega
    exact this n k h
  omega
end Go.Proofs.Bl
namespace Go.Proofs.YtkndnmpdklidkaaDoor
open Go.RowKit Go.Proofs
theorem tR : Bl.SlT Tryd.prog 60 23 (.slice none 0 0) 1 24 := ⟨Tryd.underlying60, by kernel_rfl, rfl, by decide⟩

set_option maxRecDepth 100000 in
set_option maxHeartbeats 2000000 in
theorem rchoose_in (N K : Nat) (w : World) (hN : N ≤ 1000) (hK : K ≤ N) :
    Calls Tryd.prog 20 #[.int .i64 N, .int .i64 K] w fun e w' => ∃ v', e = .returned v' ∧ Bl.Rd w' .u8 v' (Bl.tb (Bl.bin N K)) ∧ Bl.Ext w w' := by
  have d1 : decide ((K : Int) < 0) = false := decide_eq_false (by omega)
  have d2 : decide ((N : Int) < (K : Int)) = false := decide_eq_false (by omega)
  have d3 : decide (N < K) = false := decide_eq_false (by omega)
  have t1 : Bl.tb 1 = [1] := by decide +kernel
  have T1 := Bl.hid t1
  clear t1
  go_enter Tryd.func20, Tryd.ntmps20
  go_wp2_with fail
  go_loopw [5, 6] (fun row i wr => ∃ (k : Nat) (g c : Nat) (cs : List Value), k ≤ N ∧ i = .int .i64 ((k : Int) + 1) ∧ row = .slice (some ⟨g, 0, none⟩) (k + 1) c ∧ k + 1 ≤ c ∧ c ≤ maxLen ∧ g < wr.heap.size ∧ Hid (cs.length = k + 1) ∧ Hid (wr.rangeAt g 0 cs) ∧ Hid (∀ j, j ≤ k → Bl.Rd wr .u8 (cs.getD j undef) (Bl.tb (Bl.bin k j))) ∧ Bl.Ext w wr) (fun _ i _ => N + 1 - (intOf i).toNat)
  case atStart =>
    refine ⟨0, w.heap.size + 1, 1, [.slice (some ⟨w.heap.size, 0, none⟩) 1 1], Nat.zero_le _, rfl, by simp, by omega, by unfold maxLen; omega, by simp, Bl.hid rfl, Bl.hid ?_, Bl.hid ?_, (Bl.ext_alloc _ _).trans (Bl.ext_alloc _ _)⟩
    · intro j v hv
      have h := World.cell?_alloc_new (w.alloc (.cells #[.int .u8 1] 5)) #[.slice (some ⟨w.heap.size, 0, none⟩) 1 1] 23 j
      rw [World.size_alloc] at h
      rw [Nat.zero_add, h]
      simpa using hv
    · intro j hj
      obtain rfl : j = 0 := by omega
      show Bl.Rd _ _ _ (Bl.tb 1)
      rw [T1.out]
      exact Bl.Rd.ext (Bl.rds_one w 5 .u8 1) (Bl.ext_alloc _ _)
  case round =>
    obtain ⟨k, g, c, cs, hk, rfl, rfl, hc1, hc2, hg, hcl, hcr, hce, hE⟩ := hrel
    have HE := Bl.hid hE
    unfold maxLen at hc2
    clear hE
    by_cases hlt : k < N
    · have hki : (k : Int) + 1 ≤ (N : Int) := by omega
      go_wp2_with fail
      obtain ⟨W, hW⟩ : ∃ W : World, W = wr := ⟨_, rfl⟩
      rw [← hW] at hg hcr hce HE ⊢
      clear hW
      go_loopw [7, 8] (fun nx j ws => ∃ (m : Nat) (q : Option Addr) (d : Nat) (ns : List Value), m ≤ k ∧ j = .int .i64 ((m : Int) + 1) ∧ nx = .slice q (m + 1) d ∧ ws.ownsRow W.heap.size 23 1 (.slice q (m + 1) d) (m + 1) ns ∧ Hid (∀ t, t < m + 1 → Bl.RB ws (Value.slice q (m + 1) d).ownBlock (ns.getD t undef) (Bl.tb (Bl.bin (k + 1) t))) ∧ Bl.Ext W ws) (fun _ j _ => k + 1 - (intOf j).toNat)
      case atStart =>
        refine ⟨0, some ⟨W.heap.size + 1, 0, none⟩, 1, [.slice (some ⟨W.heap.size, 0, none⟩) 1 1], Nat.zero_le _, rfl, by simp, ?_, Bl.hid ?_, (Bl.ext_alloc _ _).trans (Bl.ext_alloc _ _)⟩
        · have h := Bl.owns_new (W.alloc (.cells #[.int .u8 1] 5)) 23 #[.slice (some ⟨W.heap.size, 0, none⟩) 1 1] W.heap.size 1 1 (by simp) (by decide) rfl
          rw [World.size_alloc] at h
          exact h
        · intro t ht
          obtain rfl : t = 0 := by omega
          rw [Bl.bin_zero, T1.out]
          refine ⟨by simp, Bl.Rd.ext (Bl.rds_one W 5 .u8 1) (Bl.ext_alloc _ _), fun b hb q => ?_⟩
          simp only [List.getD_cons_zero, Value.ownBlock, Option.some.injEq] at hb q
          omega
      case round =>
        obtain ⟨m, q, d, ns, hm, rfl, rfl, hown, hns, hE⟩ := hrel
        have Hown := Bl.hid hown
        have HEs := Bl.hid hE
        clear hown hE
        by_cases hmk : m < k
        · have hmi : (m : Int) + 1 < (k : Int) + 1 := by omega
          have hEs := HEs.out
          have hgs : g < wr.heap.size := Nat.lt_of_lt_of_le hg hEs.size
          have hget : ∀ t, t ≤ k → wr.cell? ⟨g, t, none⟩ = some (cs.getD t undef) := fun t ht => ((Bl.bcell hEs).1 g t hg).trans (by
            have := hcr.out t (cs.getD t undef) (by rw [List.getD_eq_getElem?_getD, List.getElem?_eq_getElem (by rw [hcl.out]; omega)]; rfl)
            rw [Nat.zero_add] at this
            exact this)
          have cm1 := hget m (by omega)
          have cm2 := hget (m + 1) (by omega)
          have r1 := (hce.out m (by omega)).ext hEs
          have r2 := (hce.out (m + 1) (by omega)).ext hEs
          obtain ⟨u1, hu1⟩ : ∃ u1, u1 = cs.getD m undef := ⟨_, rfl⟩
          obtain ⟨u2, hu2⟩ : ∃ u2, u2 = cs.getD (m + 1) undef := ⟨_, rfl⟩
          rw [← hu1] at cm1 r1
          rw [← hu2] at cm2 r2
          have l1 := Bl.tb_bin_len k m (by omega)
          have l2 := Bl.tb_bin_len k (m + 1) (by omega)
          have hadd := fun w2 (h : Bl.Ext wr w2) => radd_own u1 u2 _ _ w2 (r1.ext h) (r2.ext h) (by omega) (by omega) (Bl.tb_bit _) (Bl.tb_bit _)
          simp only [Bl.lb_tb] at hadd
          have hbs : Bl.bin k m + Bl.bin k (m + 1) = Bl.bin (k + 1) (m + 1) := rfl
          rw [hbs] at hadd
          have HAdd := Bl.hid hadd
          have HL := Bl.hid (Bl.tb_bin_ne (k + 1) (m + 1) (by omega))
          obtain ⟨L, hL⟩ : ∃ L, L = Bl.tb (Bl.bin (k + 1) (m + 1)) := ⟨_, rfl⟩
          rw [← hL] at HAdd HL
          have HLe := Bl.hid hL
          have e1 : ((m : Int) + 1).toNat = m + 1 := by omega
          have e6 : IntKind.i64.wrap (m : Int) = (m : Int) := IntWalk.i64_in _ (by omega)
          have e3 : (m : Int) < (k : Int) + 1 := by omega
          have e5 : (0 : Int) ≤ (m : Int) + 1 := by omega
          clear hget r1 r2 l1 l2 hadd hbs hu1 hu2 hL hEs
          go_wp2_with fail
          apply Bl.wp_region_ev 12 [30, 31, 32, 33, 34, 35, 36, 37, 38, 39, 40, 41] [Bl.eqv _, Bl.eqv _, Bl.eqv _, Bl.eqv (.int .i64 (m : Int)), Bl.eqv (.pointer (some ⟨g, m, none⟩)), Bl.eqv u1, Bl.eqv _, Bl.eqv _, Bl.eqv (.pointer (some ⟨g, m + 1, none⟩)), Bl.eqv u2, (fun v w' => Bl.NewB wr.heap.size L v w'), (fun v w' => Bl.Cell1 wr.heap.size L v w')] (by kernel_rfl) (by kernel_rfl) (by kernel_rfl) (by kernel_rfl)
          case hsteps =>
            refine ⟨?_, ?_, ?_, ?_, ?_, ?_, ?_, ?_, ?_, ?_, ?_, ?_, trivial⟩
            all_goals
              intro ev w1 hext hb hd
              have e5 := hb 5 (by decide)
              have e7 := hb 7 (by decide)
              have e8 := hb 8 (by decide)
              clear hb
              simp only [Array.getD_eq_getD_getElem?, List.getElem?_toArray, List.getElem?_cons_succ, List.getElem?_cons_zero, Option.getD_some] at e5 e7 e8
              simp only [Bl.DepsE, List.getElem?_cons_succ, List.getElem?_cons_zero, Option.bind_some, List.getD_cons_succ, List.getD_cons_zero, Bl.eqv, and_true] at hd
              have hc := (Bl.bcell hext).1
              have cm1x := (hc _ m hgs).trans cm1
              have cm2x := (hc _ (m + 1) hgs).trans cm2
              simp only [Bl.Good, Region.wanted, if_true]
              first
              | (obtain ⟨p40, c40, e40, hN40⟩ := (by first | exact Bl.NewB.form hd | exact Bl.NewB.form hd.1 | exact Bl.NewB.form hd.2 | exact Bl.NewB.form hd.2.1 : ∃ p c, ev 40 = .slice p L.length c ∧ Bl.NewB wr.heap.size L (.slice p L.length c) w1); go_simp; exact ⟨Bl.ext_alloc _ _, Bl.cell1_new hN40.1 hN40.2⟩)
              | (go_simp; first | (go_at_call 13; (with_reducible refine (HAdd.out _ hext).mono ?_); rintro e w' ⟨v', rfl, h1, h2, h3⟩; exact ⟨_, rfl, h2, ⟨h1, fun b hb => Nat.le_trans hext.size (h3 b hb)⟩⟩) | exact ⟨Below.refl _ _, rfl⟩)
          case hmono => exact ⟨Bl.mono_eqv _, Bl.mono_eqv _, Bl.mono_eqv _, (Bl.mono_eqv _), (Bl.mono_eqv _), (Bl.mono_eqv _), Bl.mono_eqv _, Bl.mono_eqv _, (Bl.mono_eqv _), (Bl.mono_eqv _), (fun _ _ _ h k => Bl.NewB.ext h k), (fun _ _ _ h k => Bl.Cell1.ext h k), trivial⟩
          case hend =>
            intro u w1 hext hend
            simp only [Bl.EndE, List.getElem?_cons_succ, List.getElem?_cons_zero, Option.bind_some, List.getD_cons_succ, List.getD_cons_zero, Bl.eqv, true_and] at hend
            simp only [Bl.fillAct, List.setIfInBounds_toArray, List.set_cons_succ, List.set_cons_zero, List.drop_succ_cons, List.drop_zero, hend]
            obtain ⟨g41, u41, e41, hr41, hR41, hq41⟩ := hend.2
            rw [e41]
            have Hr41 := Bl.hid hr41
            have HR41 := Bl.hid hR41
            have Hq41 := Bl.hid hq41
            have HX := Bl.hid hext
            have Hown2 := Bl.hid (Bl.owns_ext Hown.out hext)
            have Hnew : Hid (Bl.Rds w1 (.slice (some ⟨g41, 0, none⟩) 1 1) 1 [u41]) := Bl.hid (.inr ⟨g41, 0, 1, rfl, Nat.le_refl _, by unfold maxLen; omega, hr41⟩)
            obtain ⟨p41, c41, f41, _, _⟩ := hR41.form
            have H1c : Hid (∀ c ∈ [u41], c.oneCell' = true) := Bl.hid (fun c hc => by rw [List.mem_singleton.1 hc, f41]; rfl)
            have hs1 : W.heap.size ≤ w1.heap.size := Nat.le_trans HEs.out.size hext.size
            clear hend hext hr41 hR41 hq41 e41 f41
            go_wp2_with (with_reducible refine Bl.stop_append ?_)
            refine Bl.go_on ?_
            refine Bl.wpL_app tR Hown2.out Hnew.out rfl rfl (by simp) H1c.out (by unfold maxLen; omega) (by omega) hs1 ?_
            intro p4 c4 w4 hown4 hg4 hB4 hK4 hn4 hc4
            have Hown4 := Bl.hid hown4
            have Hrb := Bl.hid (Bl.rb_add (f := fun t => Bl.tb (Bl.bin (k + 1) t)) (by have := Hown.out.1; omega) hns.out HX.out (by show Bl.Rd _ _ _ (Bl.tb (Bl.bin (k + 1) (m + 1))); rw [← HLe.out]; exact HR41.out) (by show Bl.tb (Bl.bin (k + 1) (m + 1)) ≠ []; rw [← HLe.out]; exact HL.out) (fun b hb q => by
              have h1 := Hq41.out b hb
              have h2 := (Hown.out.lt b q).2
              omega) hg4 hK4)
            have HE4 : Hid (Bl.Ext W w4) := Bl.hid (Below.trans (HEs.out.trans HX.out) hB4)
            clear hown4 hg4 hB4 hK4
            go_wp2_with fail
            go_roundw
            case rel => exact ⟨m + 1, p4, c4, ns ++ [u41], by omega, by simp, rfl, Hown4.out, Hrb, HE4.out⟩
            case measure => simp [intOf]; omega
        · obtain rfl : m = k := by omega
          have hmi : ¬ (m : Int) + 1 < (m : Int) + 1 := by omega
          have Hx1 := Bl.hid ((Bl.ext_alloc wr (.cells #[.int .u8 1] 5)).trans (Bl.ext_alloc (wr.alloc (.cells #[.int .u8 1] 5)) (.cells #[.slice (some ⟨wr.heap.size, 0, none⟩) 1 1] 23)))
          have Hown2 := Bl.hid (Bl.owns_ext Hown.out Hx1.out)
          have Hnew : Hid (Bl.Rds ((wr.alloc (.cells #[.int .u8 1] 5)).alloc (.cells #[.slice (some ⟨wr.heap.size, 0, none⟩) 1 1] 23)) (.slice (some ⟨wr.heap.size + 1, 0, none⟩) 1 1) 1 [.slice (some ⟨wr.heap.size, 0, none⟩) 1 1]) := Bl.hid (.inr ⟨wr.heap.size + 1, 0, 1, rfl, Nat.le_refl _, by unfold maxLen; omega, fun j v hv => by
            have h := World.cell?_alloc_new (wr.alloc (.cells #[.int .u8 1] 5)) #[.slice (some ⟨wr.heap.size, 0, none⟩) 1 1] 23 j
            rw [World.size_alloc] at h
            rw [Nat.zero_add, h]
            simpa using hv⟩)
          have Hone := Bl.hid (Bl.Rd.ext (show Bl.Rd (wr.alloc (.cells #[.int .u8 1] 5)) .u8 (.slice (some ⟨wr.heap.size, 0, none⟩) 1 1) [1] from Bl.rds_one wr 5 .u8 1) (Bl.ext_alloc (wr.alloc (.cells #[.int .u8 1] 5)) (.cells #[.slice (some ⟨wr.heap.size, 0, none⟩) 1 1] 23)))
          have hs1 : W.heap.size ≤ ((wr.alloc (.cells #[.int .u8 1] 5)).alloc (.cells #[.slice (some ⟨wr.heap.size, 0, none⟩) 1 1] 23)).heap.size := Nat.le_trans HEs.out.size Hx1.out.size
          have Hf := Bl.hid (show (fun t => Bl.tb (Bl.bin (m + 1) t)) (m + 1) = [1] from by show Bl.tb (Bl.bin (m + 1) (m + 1)) = [1]; rw [Bl.bin_self, T1.out])
          go_wp2_with (with_reducible refine Bl.stop_append ?_)
          refine Bl.go_on ?_
          refine Bl.wpL_app tR Hown2.out Hnew.out rfl rfl (by simp) (fun c hc => by rw [List.mem_singleton.1 hc]; rfl) (by unfold maxLen; omega) (by omega) hs1 ?_
          intro p4 c4 w4 hown4 hg4 hB4 hK4 hn4 hc4
          have Hrb := Bl.hid (Bl.rb_add (f := fun t => Bl.tb (Bl.bin (m + 1) t)) (by have := Hown.out.1; omega) hns.out Hx1.out (by rw [Hf.out]; exact Hone.out) (by rw [Hf.out]; simp) (fun b hb q => by
            have h2 := (Hown.out.lt b q).2
            simp only [Value.ownBlock, Option.some.injEq] at hb
            omega) hg4 hK4)
          have HE4 : Hid (Bl.Ext W w4) := Bl.hid (Below.trans (HEs.out.trans Hx1.out) hB4)
          obtain ⟨g4, c5, hf4, _, hg4s, _, _⟩ := Bl.owns_form hown4 (by omega)
          injection hf4 with hf4 hf5 hf6
          clear hf5
          subst hf4 hf6
          have Hcr := Bl.hid (show w4.rangeAt g4 0 (ns ++ [.slice (some ⟨wr.heap.size, 0, none⟩) 1 1]) from fun j u hu => by
            have := hown4.cells (g := g4) rfl j u hu
            rw [Addr.add_mid] at this; exact this)
          have Hcl := Bl.hid (show (ns ++ [Value.slice (some ⟨wr.heap.size, 0, none⟩) 1 1]).length = m + 1 + 1 from by have := Hown.out.1; rw [List.length_append]; simp; omega)
          clear hown4 hg4 hB4 hK4
          go_wp2_with fail
          go_roundw
          case rel => exact ⟨m + 1, g4, c4, ns ++ [.slice (some ⟨wr.heap.size, 0, none⟩) 1 1], by omega, by simp, rfl, hn4, hc4, hg4s, Hcl, Hcr, Bl.hid (fun j hj => (Hrb.out j (by omega)).2.1), HE.out.trans HE4.out⟩
          case measure => simp [intOf]; omega
    · obtain rfl : k = N := by omega
      have hki : ¬ (k : Int) + 1 ≤ (k : Int) := by omega
      have cm : wr.cell? ⟨g, K, none⟩ = some (cs.getD K undef) := by
        have := hcr.out K (cs.getD K undef) (by rw [List.getD_eq_getElem?_getD, List.getElem?_eq_getElem (by rw [hcl.out]; omega)]; rfl)
        rw [Nat.zero_add] at this
        exact this
      have HR := Bl.hid (hce.out K hK)
      obtain ⟨u, hu⟩ : ∃ u, u = cs.getD K undef := ⟨_, rfl⟩
      rw [← hu] at cm HR
      have e1 : (K : Int) < (k : Int) + 1 := by omega
      clear hu
      go_wp2_with fail
      go_ret
      exact ⟨_, rfl, HR.out, HE.out⟩

set_option maxRecDepth 100000 in
theorem rchoose_out (n k : Int) (w : World) (h : k < 0 ∨ (0 ≤ k ∧ n < k)) :
    Calls Tryd.prog 20 #[.int .i64 n, .int .i64 k] w fun e w' => e = .returned (.slice none 0 0) ∧ Bl.Ext w w' := by
  rcases h with h1 | ⟨h1, h2⟩
  all_goals
    go_enter Tryd.func20, Tryd.ntmps20
    go_wp2_with fail
    go_ret
    exact ⟨rfl, Below.refl _ _⟩

/-- baileeref37.Choose of n from 0 on -/
theorem rchoose_any (n k : Int) (w : World) (h0 : 0 ≤ n) (h1 : n ≤ 1000) :
    Calls Tryd.prog 20 #[.int .i64 n, .int .i64 k] w fun e w' => ∃ v', e = .returned v' ∧ Bl.Rd w' .u8 v' (Bl.tb (Bl.binz n.toNat k)) ∧ Bl.Ext w w' := by
  by_cases h : k < 0 ∨ (0 ≤ k ∧ n < k)
  · rw [Bl.binz_out n k h0 (by omega), Bl.tb_zero]
    exact (rchoose_out n k w h).mono fun e w' ⟨h1, h2⟩ => ⟨_, h1, Bl.Rd.nil _ _, h2⟩
  · obtain ⟨N, rfl⟩ := Int.eq_ofNat_of_zero_le h0
    obtain ⟨K, rfl⟩ := Int.eq_ofNat_of_zero_le (a := k) (by omega)
    rw [Bl.binz_nat, Int.toNat_natCast]
    exact rchoose_in N K w (by omega) (by omega)
end Go.Proofs.YtkndnmpdklidkaaDoor

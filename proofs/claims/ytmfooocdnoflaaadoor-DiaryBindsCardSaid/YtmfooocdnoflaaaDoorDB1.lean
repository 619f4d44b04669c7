/- Walks of baileelaw39.node, ups. -/
import Derived.Test.YtmfooocdnoflaaaDoorDBindP
import Derived.Test.YtmfooocdnoflaaaDoorGwc
import Derived.Test.YtmfooocdnoflaaaDoorBldV
import Derived.Test.YtmfooocdnoflaaaDoorLibB
namespace Go.Proofs.Bl
open Go Go.RowKit
theorem getD_ap1 (cs : List Value) (u : Value) (n j : Nat) (hn : cs.length = n) (hj : j < n) : (cs ++ [u]).getD j undef = cs.getD j undef := by
  rw [List.getD_eq_getElem?_getD, List.getD_eq_getElem?_getD, List.getElem?_append_left (by omega)]
theorem getD_ap2 (cs : List Value) (u : Value) (n : Nat) (hn : cs.length = n) : (cs ++ [u]).getD n undef = u := by
  rw [List.getD_eq_getElem?_getD, List.getElem?_append_right (by omega), hn, Nat.sub_self]; rfl
theorem Rds.keptG {w w' : World} {v : Value} {n : Nat} {cs : List Value} (h : Rds w v n cs) (hk : ∀ k, v.ownBlock = some k → k < w.heap.size → w'.heap[k]? = w.heap[k]?) : Rds w' v n cs := by
  rcases h with h1 | ⟨b, o, c, h1, h2, h3, h4⟩
  · exact .inl h1
  · refine .inr ⟨b, o, c, h1, h2, h3, ?_⟩
    by_cases hc : cs = []
    · subst hc; intro j x hx; simp at hx
    · intro j x hx
      rw [World.cell?_of_block (w := w) (hk b (by rw [h1]; rfl) (rangeAt_lt h4 hc))]
      exact h4 j x hx
/-- a string that was made as a node's bytes are -/
def StrV (w : World) (v : Value) (s : List Int) : Prop := ∃ b c, v = .slice (some ⟨b, 0, none⟩) s.length c ∧ Rd w .u8 v s ∧ w.cell? ⟨b, 0, none⟩ = some (.int .u8 1)
theorem StrV.ext {w w' : World} {v : Value} {s : List Int} (h : StrV w v s) (hE : Ext w w') : StrV w' v s := by
  obtain ⟨b, c, rfl, h1, h2⟩ := h
  exact ⟨b, c, rfl, h1.ext hE, ((bcell hE).1 _ _ (World.block_lt_of_cell? _ _ h2)).trans h2⟩
theorem StrV.size {w : World} {v : Value} {s : List Int} (h : StrV w v s) : v.cells.size = 1 := by
  obtain ⟨b, c, rfl, _⟩ := h; rfl
theorem StrV.one {w : World} {v : Value} {s : List Int} (h : StrV w v s) : ∀ c ∈ [v], c.oneCell' = true := fun c hc => by
  obtain ⟨b, d, rfl, _⟩ := h
  rw [List.mem_singleton] at hc
  subst hc; rfl
/-- in a cell of its own -/
def StrB (w : World) (v : Value) (s : List Int) : Prop := ∃ g u, v = .slice (some ⟨g, 0, none⟩) 1 1 ∧ w.rangeAt g 0 [u] ∧ StrV w u s
theorem StrB.ext {w w' : World} {v : Value} {s : List Int} (h : StrB w v s) (hE : Ext w w') : StrB w' v s := by
  obtain ⟨g, u, h1, h2, h3⟩ := h
  exact ⟨g, u, h1, rangeAt_ext h2 hE, h3.ext hE⟩
theorem StrB.box {w : World} {v : Value} {s : List Int} (h : StrV w v s) (e : TypeId) : StrB (w.alloc (.cells v.cells e)) (.slice (some ⟨w.heap.size, 0, none⟩) 1 1) s := by
  refine ⟨w.heap.size, v, rfl, fun j u hu => ?_, h.ext (ext_alloc _ _)⟩
  obtain ⟨b, c, rfl, _⟩ := h
  rw [Nat.zero_add, World.cell?_alloc_new]
  simpa [Value.cells] using hu
/-- a row of such strings -/
def OwnS (w : World) (B e : Nat) (v : Value) (ls : List (List Int)) : Prop := ∃ p c cs, v = .slice p ls.length c ∧ w.ownsRow B e 1 v ls.length cs ∧ cs.length = ls.length ∧ (∀ j, j < ls.length → StrV w (cs.getD j undef) (ls.getD j [])) ∧ (ls = [] → p = none)
theorem OwnS.ext {w w' : World} {B e : Nat} {v : Value} {ls : List (List Int)} (h : OwnS w B e v ls) (hE : Ext w w') : OwnS w' B e v ls := by
  obtain ⟨p, c, cs, h1, h2, h3, h4, h5⟩ := h
  exact ⟨p, c, cs, h1, owns_ext h2 hE, h3, fun j hj => (h4 j hj).ext hE, h5⟩
theorem OwnS.mono {w : World} {B B' e : Nat} {v : Value} {ls : List (List Int)} (h : OwnS w B e v ls) (hB : B' ≤ B) : OwnS w B' e v ls := by
  obtain ⟨p, c, cs, h1, h2, h3⟩ := h
  exact ⟨p, c, cs, h1, owns_mono h2 hB, h3⟩
theorem OwnS.nil (w : World) (B e : Nat) : OwnS w B e (.slice none 0 0) [] := ⟨none, 0, [], rfl, World.ownsRow_nil _ _ _ _, rfl, fun _j hj => absurd hj (Nat.not_lt_zero _), fun _ => rfl⟩
theorem OwnS.apart {w : World} {B e : Nat} {p : Option Addr} {c : Nat} {cs : List Value} {ls : List (List Int)} (h : w.ownsRow B e 1 (.slice p ls.length c) ls.length cs) (hl : cs.length = ls.length) (hs : ∀ j, j < ls.length → StrV w (cs.getD j undef) (ls.getD j [])) (hn : ls = [] → p = none) {u : Value} {s : List Int} (hu : StrV w u s) : ∀ b, u.ownBlock = some b → (Value.slice p ls.length c).ownBlock ≠ some b := fun b hb hq => by
  obtain ⟨b', c', rfl, _, h1⟩ := hu
  have hb : b' = b := by simpa [Value.ownBlock] using hb
  subst hb
  by_cases hz : ls = []
  · rw [hn hz] at hq; cases hq
  · have h0 : 0 < ls.length := List.length_pos_iff.2 hz
    obtain ⟨g, c2, hf, _⟩ := owns_form h h0
    injection hf with hf _ _
    subst hf
    have hg : g = b' := by simpa [Value.ownBlock] using hq
    subst hg
    obtain ⟨b2, c3, h2, _, _⟩ := hs 0 h0
    have h3 := h.cells (g := g) rfl 0 (cs.getD 0 undef) (by rw [List.getD_eq_getElem?_getD, List.getElem?_eq_getElem (by omega)]; rfl)
    rw [Addr.add_mid] at h3
    have h3 : w.cell? ⟨g, 0, none⟩ = some (cs.getD 0 undef) := h3
    rw [h1, h2] at h3
    cases h3
theorem StrV.grown {w w' : World} {row : Option Nat} {u : Value} {s : List Int} (h : StrV w u s) (hg : w.grownBy w' row) (hn : ∀ b, u.ownBlock = some b → row ≠ some b) : StrV w' u s := by
  obtain ⟨b, c, rfl, h1, h2⟩ := h
  have hb := hg.block b (World.block_lt_of_cell? _ _ h2) (fun q => hn b rfl q.symm)
  refine ⟨b, c, rfl, Rds.keptG h1 fun k hk hl => ?_, by rw [World.cell?_of_block (w := w) hb]; exact h2⟩
  have : b = k := by simpa [Value.ownBlock] using hk
  subst this
  exact hb
theorem OwnS.push {w w' : World} {B e : Nat} {p : Option Addr} {c : Nat} {cs : List Value} {ls : List (List Int)} (h : w.ownsRow B e 1 (.slice p ls.length c) ls.length cs) (hl : cs.length = ls.length) (hs : ∀ j, j < ls.length → StrV w (cs.getD j undef) (ls.getD j [])) (hn : ls = [] → p = none) {u : Value} {s : List Int} (hu : StrV w u s) {p' : Option Addr} {c' : Nat} (hown : w'.ownsRow B e 1 (.slice p' (ls.length + 1) c') (ls.length + 1) (cs ++ [u])) (hg : w.grownBy w' (Value.slice p ls.length c).ownBlock) : OwnS w' B e (.slice p' (ls.length + 1) c') (ls ++ [s]) := by
  have hll : (ls ++ [s]).length = ls.length + 1 := by simp
  refine ⟨p', c', cs ++ [u], by rw [hll], by rw [hll]; exact hown, by simp [hl], fun j hj => ?_, fun q => by simp at q⟩
  rw [hll] at hj
  by_cases e2 : j < ls.length
  · rw [getD_ap1 cs u ls.length j hl e2, show (ls ++ [s]).getD j [] = ls.getD j [] by rw [List.getD_eq_getElem?_getD, List.getD_eq_getElem?_getD, List.getElem?_append_left e2]]
    exact (hs j e2).grown hg (OwnS.apart h hl hs hn (hs j e2))
  · obtain rfl : j = ls.length := by omega
    rw [getD_ap2 cs u ls.length hl, show (ls ++ [s]).getD ls.length [] = s by rw [List.getD_eq_getElem?_getD, List.getElem?_append_right (Nat.le_refl _), Nat.sub_self]; rfl]
    exact hu.grown hg (OwnS.apart h hl hs hn hu)
end Go.Proofs.Bl
namespace Go.Proofs.YtmfooocdnoflaaaDoor
open Go Go.RowKit Go.Proofs
theorem tRx : Bl.SlT Tryd.prog 50 80 (.slice none 0 0) 1 24 := ⟨Tryd.underlying50, by kernel_rfl, rfl, by decide⟩

set_option maxRecDepth 100000 in
set_option maxHeartbeats 1000000 in
theorem node39_any (l r : List Int) (w : World) (hl : l.length = 32) (hr : r.length = 32) :
    Calls Tryd.prog 66 #[.agg (Bl.ints .u8 l).toArray, .agg (Bl.ints .u8 r).toArray] w fun e w' => ∃ v', e = .returned v' ∧ Bl.StrV w' v' (Bl.inB l r) ∧ Bl.Ext w w' := by
  have Hl := Bl.hid hl
  have Hr := Bl.hid hr
  clear hl hr
  go_enter Tryd.func66, Tryd.ntmps66
  go_wp2_with fail
  have h1 := Bl.rangeAt_ext (Bl.range_box w l 31) (Bl.ext_alloc _ (.cells (Bl.ints .u8 r).toArray 31))
  have h2 := Bl.range_box (w.alloc (.cells (Bl.ints .u8 l).toArray 31)) r 31
  rw [World.size_alloc] at h2
  have HE : Hid (Bl.Ext w ((w.alloc (.cells (Bl.ints .u8 l).toArray 31)).alloc (.cells (Bl.ints .u8 r).toArray 31))) := Bl.hid ((Bl.ext_alloc _ _).trans (Bl.ext_alloc _ _))
  obtain ⟨W, hW⟩ : ∃ W, W = (w.alloc (.cells (Bl.ints .u8 l).toArray 31)).alloc (.cells (Bl.ints .u8 r).toArray 31) := ⟨_, rfl⟩
  rw [← hW] at h1 h2 HE ⊢
  have HL := Bl.hid h1
  have HR := Bl.hid h2
  obtain ⟨B, hB⟩ : ∃ B, B = W.heap.size := ⟨_, rfl⟩
  have HB := Bl.hid hB
  clear hW h1 h2 hB
  apply Bl.wp_region_ev 4 [5, 6, 7, 8] [(fun v w' => Bl.One1 w' v 1), Bl.eqv _, (fun v w' => Bl.OwnB w' v B 5 (1 + 32) (1 :: l)), Bl.eqv _] (by kernel_rfl) (by kernel_rfl) (by kernel_rfl) (by kernel_rfl)
  case hsteps =>
    refine ⟨?_, ?_, ?_, ?_, trivial⟩
    all_goals
      intro ev w1 hext hb hd
      have e2 := hb 2 (by decide)
      have e3 := hb 3 (by decide)
      clear hb
      simp only [Array.getD_eq_getD_getElem?, List.getElem?_toArray, List.getElem?_cons_succ, List.getElem?_cons_zero, Option.getD_some] at e2 e3
      simp only [Bl.DepsE, List.getElem?_cons_succ, List.getElem?_cons_zero, Option.bind_some, List.getD_cons_succ, List.getD_cons_zero, Bl.eqv, and_true] at hd
      have hc := (Bl.bcell hext).1
      simp only [Bl.Good, Region.wanted, if_true]
      first
      | (obtain ⟨c, w3, q1, q2, q3⟩ := Bl.app1 tBytes (Nat.le_refl 1) (B := B) hd.1 ⟨w.heap.size, hd.2, Bl.rangeAt_ext HL.out hext⟩ Hl.out (by decide) (by decide) (by rw [HB.out]; exact hext.size); refine Bl.goodR_appr q1 rfl rfl q2 ⟨_, c, rfl, q3⟩)
      | (go_simp; first | exact ⟨Bl.ext_alloc _ _, Bl.one1_new _ _ _⟩ | exact ⟨Below.refl _ _, rfl⟩)
  case hmono => exact ⟨(fun _ _ _ h k => Bl.One1.ext h k), Bl.mono_eqv _, (fun _ _ _ h k => Bl.OwnB.ext h k), Bl.mono_eqv _, trivial⟩
  case hend =>
    intro u w1 hext hend
    simp only [Bl.EndE, List.getElem?_cons_succ, List.getElem?_cons_zero, Option.bind_some, List.getD_cons_succ, List.getD_cons_zero, Bl.eqv, true_and] at hend
    simp only [Bl.fillAct, List.setIfInBounds_toArray, List.set_cons_succ, List.set_cons_zero, List.drop_succ_cons, List.drop_zero, hend]
    obtain ⟨⟨⟨_, _⟩, p, c, hq, hown⟩, _⟩ := hend
    rw [hq] at hown ⊢
    have Hown := Bl.hid hown
    have HR1 := Bl.hid ((Bl.rd_box HR.out Hr.out (by decide)).ext hext)
    have HE1 := Bl.hid hext
    clear hown hq hext
    go_wp2_with (with_reducible refine Bl.stop_append ?_)
    refine Bl.go_on ?_
    refine Bl.wpL_app tBytes Hown.out HR1.out rfl rfl (by simp) (Bl.ints_one _ _) (by rw [Hr.out]; decide) (by rw [Hr.out]; decide) (by rw [HB.out]; exact HE1.out.size) ?_
    intro q d w2 hown2 hg2 hB2 hK2 hn2 hc2
    rw [← Bl.ints_append] at hown2
    have HE2 : Hid (Bl.Ext W w2) := Bl.hid (Below.trans HE1.out (by rw [HB.out] at hB2; exact hB2))
    have Hv : Hid (Bl.StrV w2 (.slice q (1 + 32 + r.length) d) (Bl.inB l r)) := Bl.hid (by
      obtain ⟨g, c9, hf, _⟩ := Bl.owns_form hown2 (by omega)
      injection hf with hf _ _
      subst hf
      have hlen : (Bl.inB l r).length = 1 + 32 + r.length := by unfold Bl.inB; simp only [List.length_cons, List.length_append, Hl.out]; omega
      refine ⟨g, d, by rw [hlen], ?_, ?_⟩
      · have h := Bl.Rds.of_owns hown2
        show Bl.Rds _ _ (Bl.inB l r).length _
        rw [hlen]; exact h
      · have h3 := hown2.cells (g := g) rfl 0 (.int .u8 1) rfl
        rw [Addr.add_mid] at h3
        exact h3)
    clear hown2 hg2 hB2 hK2 Hown HR1 HE1 hn2 hc2
    go_wp2_with fail
    go_ret
    exact ⟨_, rfl, Hv.out, HE.out.trans HE2.out⟩

set_option maxRecDepth 100000 in
set_option maxHeartbeats 4000000 in
theorem ups_any : ∀ (n m : Nat) (old : List Int) (wh : Bool) (p : List (List Int)) (vp : Value) (w : World), n ≤ 512 → 1 ≤ m → m ≤ n → old.length = 32 → Bl.Byt old → Bl.RdD w vp p → Bl.Dig p → p.length = Bl.cntG m n wh → GlobR w →
    Calls Tryd.prog 45 #[.int .i64 m, .int .i64 n, .agg (Bl.ints .u8 old).toArray, .bool wh, vp] w fun e w' => ∃ v', e = .returned v' ∧ Bl.OwnS w' w.heap.size 80 v' (Bl.upsD m n old wh p) ∧ Bl.Ext w w' := by
  intro n
  induction n using Nat.strongRecOn with
  | _ n ih =>
    intro m old wh p vp w hn hm hmn hol hob hp hdp hpl hg
    have IH := Bl.hid ih
    clear ih
    obtain ⟨pp, cp, hvf, hvn, hvc⟩ := hp.form
    subst hvf
    unfold maxLen at hvc
    have HBo := Bl.hid (Bl.dig_box w old 31 hol)
    have HE0 := Bl.hid (Bl.ext_alloc w (.cells (Bl.ints .u8 old).toArray 31))
    have Hol := Bl.hid hol
    have Hob := Bl.hid hob
    have Hdp := Bl.hid hdp
    have Hg := Bl.hid hg
    have HLd : Hid (∀ w2, Below (w.heap.size + 1) (w.alloc (.cells (Bl.ints .u8 old).toArray 31)) w2 → (Instr.loadAt 31 (.pointer (some ⟨w.heap.size, 0, none⟩))).run Tryd.prog w2 = .ok (.agg (Bl.ints .u8 old).toArray) w2) := Bl.hid fun w2 h2 => (HBo.out.below h2 (Nat.lt_succ_self _)).load Tryd.underlying31 (by kernel_rfl)
    clear hol hob hdp hg
    by_cases h1 : m = n
    · subst h1
      have hM := Bl.upsD_end m old wh p
      rw [hM]
      have HN : Hid (Bl.OwnS (w.alloc (.cells (Bl.ints .u8 old).toArray 31)) w.heap.size 80 (.slice none 0 0) []) := Bl.hid (Bl.OwnS.nil _ _ _)
      clear hp hpl hM IH hvn hvc HBo
      go_enter Tryd.func45, Tryd.ntmps45
      go_wp2_with fail
      go_ret
      exact ⟨_, rfl, HN.out, HE0.out⟩
    · have hb1 : ((m : Int) == (n : Int)) = false := by rw [beq_eq_false_iff_ne]; omega
      obtain ⟨s1, s2, s3⟩ := Bl.sp_bounds n (by omega) (by omega)
      obtain ⟨k, hk⟩ : ∃ k, p.length = k + 1 := by
        by_cases hq : m ≤ Bl.sp n
        · rw [Bl.cntG_left m n wh hm (by omega) (by omega) hq] at hpl; exact ⟨_, by rw [hpl, Nat.add_comm]⟩
        · rw [Bl.cntG_right m n wh hm (by omega) (by omega) hq] at hpl; exact ⟨_, by rw [hpl, Nat.add_comm]⟩
      have hsn := Bl.snocG p k hk
      have hml : (p.take k).length = k := by rw [List.length_take]; omega
      have HTl := Bl.hid (fun h : m ≤ Bl.sp n => (by rw [hml]; have := hpl; rw [Bl.cntG_left m n wh hm (by omega) (by omega) h] at this; omega : (p.take k).length = Bl.cntG m (Bl.sp n) wh))
      have HTr := Bl.hid (fun h : ¬ m ≤ Bl.sp n => (by rw [hml]; have := hpl; rw [Bl.cntG_right m n wh hm (by omega) (by omega) h] at this; omega : (p.take k).length = Bl.cntG (m - Bl.sp n) (n - Bl.sp n) false))
      have HLf := Bl.hid (fun h : m ≤ Bl.sp n => Bl.upsD_left m n old wh (p.take k) (p.getD k []) hm (by omega) (by omega) h (HTl.out h))
      have HRt := Bl.hid (fun h : ¬ m ≤ Bl.sp n => Bl.upsD_right m n old wh (p.take k) (p.getD k []) hm (by omega) (by omega) h (HTr.out h))
      rw [← hsn] at HLf HRt
      obtain ⟨F, hF⟩ : ∃ F, F = Bl.upsD m n old wh p := ⟨_, rfl⟩
      rw [← hF] at HLf HRt ⊢
      obtain ⟨b, o, c2, hpe, hq1, hq2, hbl, hrg⟩ := Bl.RdD.pos hp Hdp.out (by omega)
      injection hpe with hpe1 hpe2 hpe3
      clear hpe2
      subst hpe1
      subst hpe3
      have hrs := Bl.digit_at hrg Hdp.out (i := k) (by omega)
      obtain ⟨hsl, hsb⟩ := Hdp.out.get (i := k) (by omega)
      have Htk := Bl.hid (Bl.RdD.take hp Hdp.out k (by omega))
      obtain ⟨s, hs⟩ : ∃ s, s = p.getD k [] := ⟨_, rfl⟩
      rw [← hs] at HLf HRt hrs hsl hsb
      have Hrs := Bl.hid hrs
      have Hsl := Bl.hid hsl
      have Hsb := Bl.hid hsb
      have hk512 : k ≤ 513 := by
        have h1 : p.length ≤ 514 := by
          rw [hpl]
          have := Bl.steps_len_le n m 0 wh hm hmn (by omega)
          unfold Bl.cntG; split <;> omega
        omega
      rw [hk] at hvn ⊢
      clear hp hpl hsn hml hbl hrg hrs hsl hsb hs hk hF hq1 hq2
      go_enter Tryd.func45, Tryd.ntmps45
      go_wp2_with fail
      have HW0 : Hid (w.heap.size < (w.alloc (.cells (Bl.ints .u8 old).toArray 31)).heap.size) := Bl.hid HBo.out.lt
      generalize w.alloc (.cells (Bl.ints .u8 old).toArray 31) = W0 at HBo HLd HE0 HW0 ⊢
      refine (refsplit_any _ _ (by omega) (by omega)).mono ?_
      rintro e w3 ⟨rfl, hw3⟩
      subst hw3
      rw [Int.toNat_natCast]
      obtain ⟨q, hq⟩ : ∃ q, q = Bl.sp n := ⟨_, rfl⟩
      rw [← hq] at s1 s2 s3 HLf HRt HTl HTr ⊢
      clear hq
      have hm0 : (0 : Int) ≤ (k : Int) := by omega
      have hm1 : (k : Int) < (k : Int) + 1 := by omega
      have hm2 : (k : Int) ≤ (k : Int) + 1 := by omega
      have hm3 : (k : Int) ≤ (cp : Int) := by omega
      have hm4 : (k : Int) + 1 ≤ (cp : Int) := by omega
      have hw1 : IntKind.i64.wrap (k : Int) = (k : Int) := IntWalk.i64_in _ (by omega)
      have hw2 : IntKind.i64.wrap ((k : Int) + 1 - 1) = (k : Int) := by rw [Int.add_sub_cancel]; exact hw1
      have HLs : Hid (∀ w2, Bl.Ext w w2 → (Instr.loadAt 31 (.pointer (some ⟨b, o + k * 32, none⟩))).run Tryd.prog w2 = .ok (.agg (Bl.ints .u8 s).toArray) w2) := Bl.hid fun w2 h2 => Bl.load_ints (Bl.rangeAt_ext Hrs.out h2) Tryd.underlying31 (by kernel_rfl) Hsl.out
      go_wp2_with (with_reducible refine Bl.stop_load (ty := 31) ?_)
      refine Bl.go_on ?_
      refine Bl.wpL_load rfl (HLs.out _ HE0.out) ?_
      have HBn := Bl.hid (Bl.BoxD.new W0 31 #[.int .u8 0, .int .u8 0, .int .u8 0, .int .u8 0, .int .u8 0, .int .u8 0, .int .u8 0, .int .u8 0, .int .u8 0, .int .u8 0, .int .u8 0, .int .u8 0, .int .u8 0, .int .u8 0, .int .u8 0, .int .u8 0, .int .u8 0, .int .u8 0, .int .u8 0, .int .u8 0, .int .u8 0, .int .u8 0, .int .u8 0, .int .u8 0, .int .u8 0, .int .u8 0, .int .u8 0, .int .u8 0, .int .u8 0, .int .u8 0, .int .u8 0, .int .u8 0] rfl)
      have Hst := Bl.hid (HBn.out.store (P := Tryd.prog) (ty := 31) (d' := s) Hsl.out (by kernel_rfl))
      have HE1 : Hid (Bl.Ext W0 ((W0.alloc (.cells #[.int .u8 0, .int .u8 0, .int .u8 0, .int .u8 0, .int .u8 0, .int .u8 0, .int .u8 0, .int .u8 0, .int .u8 0, .int .u8 0, .int .u8 0, .int .u8 0, .int .u8 0, .int .u8 0, .int .u8 0, .int .u8 0, .int .u8 0, .int .u8 0, .int .u8 0, .int .u8 0, .int .u8 0, .int .u8 0, .int .u8 0, .int .u8 0, .int .u8 0, .int .u8 0, .int .u8 0, .int .u8 0, .int .u8 0, .int .u8 0, .int .u8 0, .int .u8 0] 31)).setCells W0.heap.size 0 (Bl.ints .u8 s))) := Bl.hid (Bl.below_setCells _ _ _ _ (Bl.ext_alloc _ _) (Nat.le_refl _))
      have HBx := Bl.hid (HBn.out.set Hsl.out)
      go_wp2_with (with_reducible refine Bl.stop_store (ty := 31) ?_)
      refine Bl.go_on ?_
      refine Bl.wpL_store0 rfl rfl Hst.out ?_
      clear Hst HBn HLs
      obtain ⟨W1, hW1⟩ : ∃ W1, W1 = (W0.alloc (.cells #[.int .u8 0, .int .u8 0, .int .u8 0, .int .u8 0, .int .u8 0, .int .u8 0, .int .u8 0, .int .u8 0, .int .u8 0, .int .u8 0, .int .u8 0, .int .u8 0, .int .u8 0, .int .u8 0, .int .u8 0, .int .u8 0, .int .u8 0, .int .u8 0, .int .u8 0, .int .u8 0, .int .u8 0, .int .u8 0, .int .u8 0, .int .u8 0, .int .u8 0, .int .u8 0, .int .u8 0, .int .u8 0, .int .u8 0, .int .u8 0, .int .u8 0, .int .u8 0] 31)).setCells W0.heap.size 0 (Bl.ints .u8 s) := ⟨_, rfl⟩
      obtain ⟨X, hX⟩ : ∃ X, X = W0.heap.size := ⟨_, rfl⟩
      rw [← hW1] at HE1 HBx ⊢
      rw [← hX] at HBx ⊢
      clear hW1 hX
      have HE6 := Bl.hid (HE0.out.trans HE1.out)
      have HLd1 := Bl.hid (HLd.out W1 (HE1.out.mono HBo.out.lt))
      by_cases hiq : m ≤ q
      · have hlt' : ((m : Int) ≤ (q : Int)) := by omega
        have hP := HLf.out hiq
        have HC : Hid (Calls Tryd.prog 55 #[.int .i64 m, .int .i64 q, .agg (Bl.ints .u8 old).toArray, .bool wh, .slice (some ⟨b, o, none⟩) k cp] W1 fun e w' => e = .returned (.tuple #[.agg (Bl.ints .u8 (Bl.madeD m q old wh (p.take k)).1).toArray, .agg (Bl.ints .u8 (Bl.madeD m q old wh (p.take k)).2).toArray]) ∧ Bl.Ext W1 w') := Bl.hid (by
          exact refmade_nat q m old wh (p.take k) _ W1 (by omega) hm hiq Hol.out Hob.out (Bl.Rds.ext Htk.out HE6.out) (Hdp.out.take k) (HTl.out hiq) (Hg.out.ext HE6.out))
        have HU : Hid (∀ w2, Bl.Ext W1 w2 → Calls Tryd.prog 45 #[.int .i64 m, .int .i64 q, .agg (Bl.ints .u8 old).toArray, .bool wh, .slice (some ⟨b, o, none⟩) k cp] w2 fun e w' => ∃ v', e = .returned v' ∧ Bl.OwnS w' w2.heap.size 80 v' (Bl.upsD m q old wh (p.take k)) ∧ Bl.Ext w2 w') := Bl.hid fun w2 h2 => by
          exact IH.out q (by omega) m old wh (p.take k) _ w2 (by omega) hm hiq Hol.out Hob.out (Bl.Rds.ext Htk.out (HE6.out.trans h2)) (Hdp.out.take k) (HTl.out hiq) (Hg.out.ext (HE6.out.trans h2))
        have hfd := Bl.madeD_dig m q old wh (p.take k) ⟨Hol.out, Hob.out⟩ (Hdp.out.take k)
        obtain ⟨U, hU⟩ : ∃ U, U = Bl.upsD m q old wh (p.take k) := ⟨_, rfl⟩
        have hUl : U.length ≤ 600 := by
          rw [hU, Bl.upsD_len _ _ _ _ _ (HTl.out hiq)]
          have := Bl.steps_len_le q m 0 wh (by omega) (by omega) (by omega)
          omega
        rw [← hU] at hP HU
        obtain ⟨⟨x, y⟩, hf⟩ : ∃ f, f = Bl.madeD m q old wh (p.take k) := ⟨_, rfl⟩
        rw [← hf] at hP HC hfd
        have Hx : Hid (x.length = 32) := Bl.hid hfd.1.1
        have Hy : Hid (y.length = 32) := Bl.hid hfd.2.1
        have HN : Hid (∀ w2, Calls Tryd.prog 66 #[.agg (Bl.ints .u8 y).toArray, .agg (Bl.ints .u8 s).toArray] w2 fun e w' => ∃ v', e = .returned v' ∧ Bl.StrV w' v' (Bl.inB y s) ∧ Bl.Ext w2 w') := Bl.hid fun w2 => node39_any y s w2 Hy.out Hsl.out
        obtain ⟨sd, hsd⟩ : ∃ sd, sd = Bl.inB y s := ⟨_, rfl⟩
        rw [← hsd] at HN
        have HPd : Hid (F = U ++ [sd]) := Bl.hid (by rw [hsd]; exact hP)
        have HUl := Bl.hid hUl
        clear hf hP hsd hU hUl HLf HRt HTl HTr IH hfd
        go_wp2_with (with_reducible refine Bl.stop_load (ty := 31) ?_)
        refine Bl.go_on ?_
        refine Bl.wpL_load rfl HLd1.out ?_
        go_wp2_with fail
        refine HC.out.mono ?_
        rintro e w4 ⟨rfl, hE4⟩
        have HE4 := Bl.hid hE4
        clear hE4 HC
        have HDn5 := Bl.hid (Bl.Duo.new w4 31 #[.int .u8 0, .int .u8 0, .int .u8 0, .int .u8 0, .int .u8 0, .int .u8 0, .int .u8 0, .int .u8 0, .int .u8 0, .int .u8 0, .int .u8 0, .int .u8 0, .int .u8 0, .int .u8 0, .int .u8 0, .int .u8 0, .int .u8 0, .int .u8 0, .int .u8 0, .int .u8 0, .int .u8 0, .int .u8 0, .int .u8 0, .int .u8 0, .int .u8 0, .int .u8 0, .int .u8 0, .int .u8 0, .int .u8 0, .int .u8 0, .int .u8 0, .int .u8 0] rfl)
        have HDm5 := Bl.hid (HDn5.out.setA (x' := x) Hx.out)
        have HDu5 := Bl.hid (HDm5.out.setB (y' := y) Hy.out)
        have Hsa5 := Bl.hid (HDn5.out.a.store (P := Tryd.prog) (ty := 31) (d' := x) Hx.out (by kernel_rfl))
        have Hsb5 := Bl.hid (HDm5.out.b.store (P := Tryd.prog) (ty := 31) (d' := y) Hy.out (by kernel_rfl))
        have HEu5 : Hid (Bl.Ext w4 ((((w4.alloc (.cells #[.int .u8 0, .int .u8 0, .int .u8 0, .int .u8 0, .int .u8 0, .int .u8 0, .int .u8 0, .int .u8 0, .int .u8 0, .int .u8 0, .int .u8 0, .int .u8 0, .int .u8 0, .int .u8 0, .int .u8 0, .int .u8 0, .int .u8 0, .int .u8 0, .int .u8 0, .int .u8 0, .int .u8 0, .int .u8 0, .int .u8 0, .int .u8 0, .int .u8 0, .int .u8 0, .int .u8 0, .int .u8 0, .int .u8 0, .int .u8 0, .int .u8 0, .int .u8 0] 31)).alloc (.cells #[.int .u8 0, .int .u8 0, .int .u8 0, .int .u8 0, .int .u8 0, .int .u8 0, .int .u8 0, .int .u8 0, .int .u8 0, .int .u8 0, .int .u8 0, .int .u8 0, .int .u8 0, .int .u8 0, .int .u8 0, .int .u8 0, .int .u8 0, .int .u8 0, .int .u8 0, .int .u8 0, .int .u8 0, .int .u8 0, .int .u8 0, .int .u8 0, .int .u8 0, .int .u8 0, .int .u8 0, .int .u8 0, .int .u8 0, .int .u8 0, .int .u8 0, .int .u8 0] 31)).setCells w4.heap.size 0 (Bl.ints .u8 x)).setCells (w4.heap.size + 1) 0 (Bl.ints .u8 y))) := Bl.hid (Bl.below_setCells _ _ _ _ (Bl.below_setCells _ _ _ _ ((Bl.ext_alloc _ _).trans (Bl.ext_alloc _ _)) (Nat.le_refl _)) (Nat.le_succ _))
        go_wp2_with (with_reducible refine Bl.stop_store (ty := 31) ?_)
        refine Bl.go_on ?_
        refine Bl.wpL_store0 rfl rfl Hsa5.out ?_
        go_wp2_with (with_reducible refine Bl.stop_store (ty := 31) ?_)
        refine Bl.go_on ?_
        refine Bl.wpL_store0 rfl rfl Hsb5.out ?_
        obtain ⟨W5, hW5⟩ : ∃ W', W' = (((w4.alloc (.cells #[.int .u8 0, .int .u8 0, .int .u8 0, .int .u8 0, .int .u8 0, .int .u8 0, .int .u8 0, .int .u8 0, .int .u8 0, .int .u8 0, .int .u8 0, .int .u8 0, .int .u8 0, .int .u8 0, .int .u8 0, .int .u8 0, .int .u8 0, .int .u8 0, .int .u8 0, .int .u8 0, .int .u8 0, .int .u8 0, .int .u8 0, .int .u8 0, .int .u8 0, .int .u8 0, .int .u8 0, .int .u8 0, .int .u8 0, .int .u8 0, .int .u8 0, .int .u8 0] 31)).alloc (.cells #[.int .u8 0, .int .u8 0, .int .u8 0, .int .u8 0, .int .u8 0, .int .u8 0, .int .u8 0, .int .u8 0, .int .u8 0, .int .u8 0, .int .u8 0, .int .u8 0, .int .u8 0, .int .u8 0, .int .u8 0, .int .u8 0, .int .u8 0, .int .u8 0, .int .u8 0, .int .u8 0, .int .u8 0, .int .u8 0, .int .u8 0, .int .u8 0, .int .u8 0, .int .u8 0, .int .u8 0, .int .u8 0, .int .u8 0, .int .u8 0, .int .u8 0, .int .u8 0] 31)).setCells w4.heap.size 0 (Bl.ints .u8 x)).setCells (w4.heap.size + 1) 0 (Bl.ints .u8 y) := ⟨_, rfl⟩
        obtain ⟨Y5, hY5⟩ : ∃ Y', Y' = w4.heap.size + 1 := ⟨_, rfl⟩
        obtain ⟨X5, hX5⟩ : ∃ X', X' = w4.heap.size := ⟨_, rfl⟩
        rw [← hW5] at HDu5 HEu5 ⊢
        rw [← hY5] at HDu5 ⊢
        rw [← hX5] at HDu5 ⊢
        have HX5 := Bl.hid hX5
        have HY5 := Bl.hid hY5
        clear hW5 hY5 hX5 HDn5 HDm5 Hsa5 Hsb5
        have HEs := Bl.hid (HE4.out.trans HEu5.out)
        have HB5 := Bl.hid (HBx.out.ext HEs.out)
        have HLo : Hid (∀ w2, Bl.Ext W5 w2 → (Instr.loadAt 31 (.pointer (some ⟨w.heap.size, 0, none⟩))).run Tryd.prog w2 = .ok (.agg (Bl.ints .u8 old).toArray) w2) := Bl.hid fun w2 h2 => HLd.out w2 (Below.mono ((HE1.out.trans HEs.out).trans h2) HW0.out)
        have HLy : Hid (∀ w2, Bl.Ext W5 w2 → (Instr.loadAt 31 (.pointer (some ⟨Y5, 0, none⟩))).run Tryd.prog w2 = .ok (.agg (Bl.ints .u8 y).toArray) w2) := Bl.hid fun w2 h2 => (HDu5.out.b.ext h2).load Tryd.underlying31 (by kernel_rfl)
        have HLs : Hid (∀ w2, Bl.Ext W5 w2 → (Instr.loadAt 31 (.pointer (some ⟨X, 0, none⟩))).run Tryd.prog w2 = .ok (.agg (Bl.ints .u8 s).toArray) w2) := Bl.hid fun w2 h2 => (HB5.out.ext h2).load Tryd.underlying31 (by kernel_rfl)
        have HEw5 := Bl.hid (HE6.out.trans HEs.out)
        go_wp2_with fail
        apply Bl.wp_region_evK (Bl.Ext) (fun _ _ _ => True) 10 [46, 47, 48, 49, 50, 51, 52, 53, 54, 55] [Bl.eqv _, Bl.eqv _, Bl.eqv _, Bl.eqv _, Bl.eqv _, (fun v w' => Bl.OwnS w' w.heap.size 80 v U), Bl.eqv _, Bl.eqv _, (fun v w' => Bl.StrV w' v sd), (fun v w' => Bl.StrB w' v sd)] (fun w => Below.refl _ w) (fun a b c h k => Bl.Ext.trans h k) (by kernel_rfl) (by kernel_rfl) (by kernel_rfl) (by kernel_rfl)
        case hsteps =>
          refine ⟨?_, ?_, ?_, ?_, ?_, ?_, ?_, ?_, ?_, ?_, trivial⟩
          all_goals
            intro d ev w1 hext HJd Hanc Hdes hni hb hd
            replace Hanc := Bl.hid Hanc
            replace HJd := Bl.hid HJd
            replace Hdes := Bl.hid Hdes
            replace hni := Bl.hid hni
            have e0 := hb 0 (by decide)
            have e3 := hb 3 (by decide)
            have e7 := hb 7 (by decide)
            have e11 := hb 11 (by decide)
            have e12 := hb 12 (by decide)
            have e13 := hb 13 (by decide)
            have e15 := hb 15 (by decide)
            clear hb
            simp only [Array.getD_eq_getD_getElem?, List.getElem?_toArray, List.getElem?_cons_succ, List.getElem?_cons_zero, Option.getD_some] at e0 e3 e7 e11 e12 e13 e15
            simp only [Bl.DepsE2, List.getElem?_cons_succ, List.getElem?_cons_zero, Option.bind_some, List.getD_cons_succ, List.getD_cons_zero, Bl.eqv, and_true] at hd
            have hc := (Bl.bcell hext).1
            simp only [Region.wanted, if_true]
            first
            | ((with_reducible refine Bl.goodX_load (fun w => Below.refl _ w) ?_ (HLo.out _ hext) ?_); exact e7; exact ⟨rfl, trivial⟩) | ((with_reducible refine Bl.goodX_load (fun w => Below.refl _ w) ?_ (HLy.out _ hext) ?_); exact e15; exact ⟨rfl, trivial⟩) | ((with_reducible refine Bl.goodX_load (fun w => Below.refl _ w) ?_ (HLs.out _ hext) ?_); exact e12; exact ⟨rfl, trivial⟩) | ((with_reducible refine Bl.goodX_buildV (v := ev 54) tRx (by decide) ?_ (Bl.StrV.size (s := sd) (w := w1) (by first | exact hd | exact hd.2 | exact hd.1.2 | exact hd.1.1.2 | exact hd.1.1.1.2 | exact hd.1.1.1.1.2 | exact hd.1.1.1.1.1.2 | exact hd.1.1.1.1.1.1.2 | exact hd.1.1.1.1.1.1.1.2 | exact hd.1.1.1.1.1.1.1.1.2 | exact hd.1.1.1.1.1.1.1.1.1.2 | exact hd.1.1.1.1.1.1.1.1.1.1.2 | exact hd.1.1.1.1.1.1.1.1.1.1.1.2 | exact hd.1.1.1.1.1.1.1.1.1.1.1.1.2 | exact hd.1.1.1.1.1.1.1.1.1.1.1.1.1.2 | exact hd.1 | exact hd.1.1 | exact hd.1.1.1 | exact hd.1.1.1.1 | exact hd.1.1.1.1.1 | exact hd.1.1.1.1.1.1 | exact hd.1.1.1.1.1.1.1 | exact hd.1.1.1.1.1.1.1.1 | exact hd.1.1.1.1.1.1.1.1.1 | exact hd.1.1.1.1.1.1.1.1.1.1 | exact hd.1.1.1.1.1.1.1.1.1.1.1 | exact hd.1.1.1.1.1.1.1.1.1.1.1.1 | exact hd.1.1.1.1.1.1.1.1.1.1.1.1.1 | exact hd.2.1 | exact hd.2.2.1 | exact hd.2.2.2.1 | exact hd.2.2.2.2.1 | exact hd.2.2.2.2.2.1 | exact hd.2.2.2.2.2.2.1 | exact hd.2.2.2.2.2.2.2.1 | exact hd.2.2.2.2.2.2.2.2.1 | exact hd.2.2.2.2.2.2.2.2.2.1 | exact hd.2.2.2.2.2.2.2.2.2.2.1 | exact hd.2.2.2.2.2.2.2.2.2.2.2.1 | exact hd.2.2.2.2.2.2.2.2.2.2.2.2.1 | exact hd.2.2.2.2.2.2.2.2.2.2.2.2.2.1)) ?_); rfl; exact ⟨Bl.ext_alloc _ _, Bl.StrB.box (s := sd) (by first | exact hd | exact hd.2 | exact hd.1.2 | exact hd.1.1.2 | exact hd.1.1.1.2 | exact hd.1.1.1.1.2 | exact hd.1.1.1.1.1.2 | exact hd.1.1.1.1.1.1.2 | exact hd.1.1.1.1.1.1.1.2 | exact hd.1.1.1.1.1.1.1.1.2 | exact hd.1.1.1.1.1.1.1.1.1.2 | exact hd.1.1.1.1.1.1.1.1.1.1.2 | exact hd.1.1.1.1.1.1.1.1.1.1.1.2 | exact hd.1.1.1.1.1.1.1.1.1.1.1.1.2 | exact hd.1.1.1.1.1.1.1.1.1.1.1.1.1.2 | exact hd.1 | exact hd.1.1 | exact hd.1.1.1 | exact hd.1.1.1.1 | exact hd.1.1.1.1.1 | exact hd.1.1.1.1.1.1 | exact hd.1.1.1.1.1.1.1 | exact hd.1.1.1.1.1.1.1.1 | exact hd.1.1.1.1.1.1.1.1.1 | exact hd.1.1.1.1.1.1.1.1.1.1 | exact hd.1.1.1.1.1.1.1.1.1.1.1 | exact hd.1.1.1.1.1.1.1.1.1.1.1.1 | exact hd.1.1.1.1.1.1.1.1.1.1.1.1.1 | exact hd.2.1 | exact hd.2.2.1 | exact hd.2.2.2.1 | exact hd.2.2.2.2.1 | exact hd.2.2.2.2.2.1 | exact hd.2.2.2.2.2.2.1 | exact hd.2.2.2.2.2.2.2.1 | exact hd.2.2.2.2.2.2.2.2.1 | exact hd.2.2.2.2.2.2.2.2.2.1 | exact hd.2.2.2.2.2.2.2.2.2.2.1 | exact hd.2.2.2.2.2.2.2.2.2.2.2.1 | exact hd.2.2.2.2.2.2.2.2.2.2.2.2.1 | exact hd.2.2.2.2.2.2.2.2.2.2.2.2.2.1) _, trivial⟩)
            | (go_simp; first | (go_at_call 45; (with_reducible refine (HU.out _ (HEs.out.trans hext)).mono ?_); rintro e w2 ⟨v2, rfl, hO, hE2⟩; exact ⟨_, rfl, hE2, hO.mono (HEw5.out.trans hext).size⟩) | (go_at_call 66; (with_reducible refine (HN.out _).mono ?_); rintro e w2 ⟨v2, rfl, hO, hE2⟩; exact ⟨_, rfl, hE2, hO⟩) | exact ⟨Below.refl _ _, rfl⟩ | exact Below.refl _ _)
        case hmono => exact ⟨Bl.monoR_eqv _, Bl.monoR_eqv _, Bl.monoR_eqv _, Bl.monoR_eqv _, Bl.monoR_eqv _, (fun _ _ _ h k => Bl.OwnS.ext h k), Bl.monoR_eqv _, Bl.monoR_eqv _, (fun _ _ _ h k => Bl.StrV.ext h k), (fun _ _ _ h k => Bl.StrB.ext h k), trivial⟩
        case hR0 => exact (Below.refl _ _).drew
        case hend =>
          intro u w1 hext hJ hend
          simp only [Bl.EndE, List.getElem?_cons_succ, List.getElem?_cons_zero, Option.bind_some, List.getD_cons_succ, List.getD_cons_zero, Bl.eqv, true_and] at hend
          simp only [Bl.fillAct, List.setIfInBounds_toArray, List.set_cons_succ, List.set_cons_zero, List.drop_succ_cons, List.drop_zero, hend]
          have hO : Bl.OwnS w1 w.heap.size 80 (u 51) U := (by first | exact hend | exact hend.2 | exact hend.1.2 | exact hend.1.1.2 | exact hend.1.1.1.2 | exact hend.1.1.1.1.2 | exact hend.1.1.1.1.1.2 | exact hend.1.1.1.1.1.1.2 | exact hend.1.1.1.1.1.1.1.2 | exact hend.1.1.1.1.1.1.1.1.2 | exact hend.1.1.1.1.1.1.1.1.1.2 | exact hend.1.1.1.1.1.1.1.1.1.1.2 | exact hend.1.1.1.1.1.1.1.1.1.1.1.2 | exact hend.1.1.1.1.1.1.1.1.1.1.1.1.2 | exact hend.1.1.1.1.1.1.1.1.1.1.1.1.1.2 | exact hend.1 | exact hend.1.1 | exact hend.1.1.1 | exact hend.1.1.1.1 | exact hend.1.1.1.1.1 | exact hend.1.1.1.1.1.1 | exact hend.1.1.1.1.1.1.1 | exact hend.1.1.1.1.1.1.1.1 | exact hend.1.1.1.1.1.1.1.1.1 | exact hend.1.1.1.1.1.1.1.1.1.1 | exact hend.1.1.1.1.1.1.1.1.1.1.1 | exact hend.1.1.1.1.1.1.1.1.1.1.1.1 | exact hend.1.1.1.1.1.1.1.1.1.1.1.1.1 | exact hend.2.1 | exact hend.2.2.1 | exact hend.2.2.2.1 | exact hend.2.2.2.2.1 | exact hend.2.2.2.2.2.1 | exact hend.2.2.2.2.2.2.1 | exact hend.2.2.2.2.2.2.2.1 | exact hend.2.2.2.2.2.2.2.2.1 | exact hend.2.2.2.2.2.2.2.2.2.1 | exact hend.2.2.2.2.2.2.2.2.2.2.1 | exact hend.2.2.2.2.2.2.2.2.2.2.2.1 | exact hend.2.2.2.2.2.2.2.2.2.2.2.2.1 | exact hend.2.2.2.2.2.2.2.2.2.2.2.2.2.1)
          have hS : Bl.StrB w1 (u 55) sd := (by first | exact hend | exact hend.2 | exact hend.1.2 | exact hend.1.1.2 | exact hend.1.1.1.2 | exact hend.1.1.1.1.2 | exact hend.1.1.1.1.1.2 | exact hend.1.1.1.1.1.1.2 | exact hend.1.1.1.1.1.1.1.2 | exact hend.1.1.1.1.1.1.1.1.2 | exact hend.1.1.1.1.1.1.1.1.1.2 | exact hend.1.1.1.1.1.1.1.1.1.1.2 | exact hend.1.1.1.1.1.1.1.1.1.1.1.2 | exact hend.1.1.1.1.1.1.1.1.1.1.1.1.2 | exact hend.1.1.1.1.1.1.1.1.1.1.1.1.1.2 | exact hend.1 | exact hend.1.1 | exact hend.1.1.1 | exact hend.1.1.1.1 | exact hend.1.1.1.1.1 | exact hend.1.1.1.1.1.1 | exact hend.1.1.1.1.1.1.1 | exact hend.1.1.1.1.1.1.1.1 | exact hend.1.1.1.1.1.1.1.1.1 | exact hend.1.1.1.1.1.1.1.1.1.1 | exact hend.1.1.1.1.1.1.1.1.1.1.1 | exact hend.1.1.1.1.1.1.1.1.1.1.1.1 | exact hend.1.1.1.1.1.1.1.1.1.1.1.1.1 | exact hend.2.1 | exact hend.2.2.1 | exact hend.2.2.2.1 | exact hend.2.2.2.2.1 | exact hend.2.2.2.2.2.1 | exact hend.2.2.2.2.2.2.1 | exact hend.2.2.2.2.2.2.2.1 | exact hend.2.2.2.2.2.2.2.2.1 | exact hend.2.2.2.2.2.2.2.2.2.1 | exact hend.2.2.2.2.2.2.2.2.2.2.1 | exact hend.2.2.2.2.2.2.2.2.2.2.2.1 | exact hend.2.2.2.2.2.2.2.2.2.2.2.2.1 | exact hend.2.2.2.2.2.2.2.2.2.2.2.2.2.1)
          obtain ⟨vu, hvu⟩ : ∃ vu, vu = u 51 := ⟨_, rfl⟩
          obtain ⟨vb, hvb⟩ : ∃ vb, vb = u 55 := ⟨_, rfl⟩
          rw [← hvu] at hO
          rw [← hvb] at hS
          rw [← hvu, ← hvb]
          obtain ⟨pu, cu, cs, rfl, hown, hcl, hst, hnil⟩ := hO
          obtain ⟨gb, ub, rfl, hrb, hsb⟩ := hS
          have HOw := Bl.hid hown
          have HSt := Bl.hid (And.intro hcl (And.intro hst hnil))
          have HSb := Bl.hid hsb
          have HRb : Hid (Bl.Rds w1 (.slice (some ⟨gb, 0, none⟩) 1 1) 1 [ub]) := Bl.hid (.inr ⟨gb, 0, 1, rfl, Nat.le_refl _, by decide, hrb⟩)
          have HE9 := Bl.hid (HEw5.out.trans hext)
          clear hext hJ hend hown hcl hst hnil hrb hsb hvu hvb
          go_wp2_with (with_reducible refine Bl.stop_append ?_)
          refine Bl.go_on ?_
          refine Bl.wpL_app tRx HOw.out HRb.out rfl rfl rfl HSb.out.one (by have := HUl.out; unfold maxLen; omega) (by have := HUl.out; omega) HE9.out.size ?_
          intro p10 c10 w10 hown10 hg10 hB10 hK10 hn10 hc10
          have HP10 := Bl.hid (Bl.OwnS.push HOw.out HSt.out.1 HSt.out.2.1 HSt.out.2.2 HSb.out hown10 hg10)
          have HE10 : Hid (Bl.Ext w w10) := Bl.hid (Below.trans HE9.out hB10)
          clear hown10 hg10 hB10 hK10 hn10 hc10
          go_wp2_with fail
          go_ret
          exact ⟨_, rfl, by rw [HPd.out]; exact HP10.out, HE10.out⟩
        case hJ0 => trivial
      · have hlt' : ¬ ((m : Int) ≤ (q : Int)) := by omega
        have hP := HRt.out hiq
        have e1 : ((n - q : Nat) : Int) = (n : Int) - (q : Int) := by omega
        have e2 : ((m - q : Nat) : Int) = (m : Int) - (q : Int) := by omega
        have HC : Hid (Calls Tryd.prog 55 #[.int .i64 ((m : Int) - (q : Int)), .int .i64 ((n : Int) - (q : Int)), .agg (Bl.ints .u8 old).toArray, .bool false, .slice (some ⟨b, o, none⟩) k cp] W1 fun e w' => e = .returned (.tuple #[.agg (Bl.ints .u8 (Bl.madeD (m - q) (n - q) old false (p.take k)).1).toArray, .agg (Bl.ints .u8 (Bl.madeD (m - q) (n - q) old false (p.take k)).2).toArray]) ∧ Bl.Ext W1 w') := Bl.hid (by
          rw [← e1, ← e2]; exact refmade_nat (n - q) (m - q) old false (p.take k) _ W1 (by omega) (by omega) (by omega) Hol.out Hob.out (Bl.Rds.ext Htk.out HE6.out) (Hdp.out.take k) (HTr.out hiq) (Hg.out.ext HE6.out))
        have HU : Hid (∀ w2, Bl.Ext W1 w2 → Calls Tryd.prog 45 #[.int .i64 ((m : Int) - (q : Int)), .int .i64 ((n : Int) - (q : Int)), .agg (Bl.ints .u8 old).toArray, .bool false, .slice (some ⟨b, o, none⟩) k cp] w2 fun e w' => ∃ v', e = .returned v' ∧ Bl.OwnS w' w2.heap.size 80 v' (Bl.upsD (m - q) (n - q) old false (p.take k)) ∧ Bl.Ext w2 w') := Bl.hid fun w2 h2 => by
          rw [← e1, ← e2]; exact IH.out (n - q) (by omega) (m - q) old false (p.take k) _ w2 (by omega) (by omega) (by omega) Hol.out Hob.out (Bl.Rds.ext Htk.out (HE6.out.trans h2)) (Hdp.out.take k) (HTr.out hiq) (Hg.out.ext (HE6.out.trans h2))
        have hfd := Bl.madeD_dig (m - q) (n - q) old false (p.take k) ⟨Hol.out, Hob.out⟩ (Hdp.out.take k)
        obtain ⟨U, hU⟩ : ∃ U, U = Bl.upsD (m - q) (n - q) old false (p.take k) := ⟨_, rfl⟩
        have hUl : U.length ≤ 600 := by
          rw [hU, Bl.upsD_len _ _ _ _ _ (HTr.out hiq)]
          have := Bl.steps_len_le (n - q) (m - q) 0 false (by omega) (by omega) (by omega)
          omega
        rw [← hU] at hP HU
        obtain ⟨⟨x, y⟩, hf⟩ : ∃ f, f = Bl.madeD (m - q) (n - q) old false (p.take k) := ⟨_, rfl⟩
        rw [← hf] at hP HC hfd
        have Hx : Hid (x.length = 32) := Bl.hid hfd.1.1
        have Hy : Hid (y.length = 32) := Bl.hid hfd.2.1
        have HN : Hid (∀ w2, Calls Tryd.prog 66 #[.agg (Bl.ints .u8 s).toArray, .agg (Bl.ints .u8 y).toArray] w2 fun e w' => ∃ v', e = .returned v' ∧ Bl.StrV w' v' (Bl.inB s y) ∧ Bl.Ext w2 w') := Bl.hid fun w2 => node39_any s y w2 Hsl.out Hy.out
        obtain ⟨sd, hsd⟩ : ∃ sd, sd = Bl.inB s y := ⟨_, rfl⟩
        rw [← hsd] at HN
        have HPd : Hid (F = U ++ [sd]) := Bl.hid (by rw [hsd]; exact hP)
        have HUl := Bl.hid hUl
        have hw3 : IntKind.i64.wrap ((n : Int) - (q : Int)) = (n : Int) - (q : Int) := IntWalk.i64_in _ (by omega)
        have hw4 : IntKind.i64.wrap ((m : Int) - (q : Int)) = (m : Int) - (q : Int) := IntWalk.i64_in _ (by omega)
        clear hf hP hsd hU hUl HLf HRt HTl HTr IH hfd e1 e2
        go_wp2_with (with_reducible refine Bl.stop_load (ty := 31) ?_)
        refine Bl.go_on ?_
        refine Bl.wpL_load rfl HLd1.out ?_
        go_wp2_with fail
        refine HC.out.mono ?_
        rintro e w4 ⟨rfl, hE4⟩
        have HE4 := Bl.hid hE4
        clear hE4 HC
        have HDn5 := Bl.hid (Bl.Duo.new w4 31 #[.int .u8 0, .int .u8 0, .int .u8 0, .int .u8 0, .int .u8 0, .int .u8 0, .int .u8 0, .int .u8 0, .int .u8 0, .int .u8 0, .int .u8 0, .int .u8 0, .int .u8 0, .int .u8 0, .int .u8 0, .int .u8 0, .int .u8 0, .int .u8 0, .int .u8 0, .int .u8 0, .int .u8 0, .int .u8 0, .int .u8 0, .int .u8 0, .int .u8 0, .int .u8 0, .int .u8 0, .int .u8 0, .int .u8 0, .int .u8 0, .int .u8 0, .int .u8 0] rfl)
        have HDm5 := Bl.hid (HDn5.out.setA (x' := x) Hx.out)
        have HDu5 := Bl.hid (HDm5.out.setB (y' := y) Hy.out)
        have Hsa5 := Bl.hid (HDn5.out.a.store (P := Tryd.prog) (ty := 31) (d' := x) Hx.out (by kernel_rfl))
        have Hsb5 := Bl.hid (HDm5.out.b.store (P := Tryd.prog) (ty := 31) (d' := y) Hy.out (by kernel_rfl))
        have HEu5 : Hid (Bl.Ext w4 ((((w4.alloc (.cells #[.int .u8 0, .int .u8 0, .int .u8 0, .int .u8 0, .int .u8 0, .int .u8 0, .int .u8 0, .int .u8 0, .int .u8 0, .int .u8 0, .int .u8 0, .int .u8 0, .int .u8 0, .int .u8 0, .int .u8 0, .int .u8 0, .int .u8 0, .int .u8 0, .int .u8 0, .int .u8 0, .int .u8 0, .int .u8 0, .int .u8 0, .int .u8 0, .int .u8 0, .int .u8 0, .int .u8 0, .int .u8 0, .int .u8 0, .int .u8 0, .int .u8 0, .int .u8 0] 31)).alloc (.cells #[.int .u8 0, .int .u8 0, .int .u8 0, .int .u8 0, .int .u8 0, .int .u8 0, .int .u8 0, .int .u8 0, .int .u8 0, .int .u8 0, .int .u8 0, .int .u8 0, .int .u8 0, .int .u8 0, .int .u8 0, .int .u8 0, .int .u8 0, .int .u8 0, .int .u8 0, .int .u8 0, .int .u8 0, .int .u8 0, .int .u8 0, .int .u8 0, .int .u8 0, .int .u8 0, .int .u8 0, .int .u8 0, .int .u8 0, .int .u8 0, .int .u8 0, .int .u8 0] 31)).setCells w4.heap.size 0 (Bl.ints .u8 x)).setCells (w4.heap.size + 1) 0 (Bl.ints .u8 y))) := Bl.hid (Bl.below_setCells _ _ _ _ (Bl.below_setCells _ _ _ _ ((Bl.ext_alloc _ _).trans (Bl.ext_alloc _ _)) (Nat.le_refl _)) (Nat.le_succ _))
        go_wp2_with (with_reducible refine Bl.stop_store (ty := 31) ?_)
        refine Bl.go_on ?_
        refine Bl.wpL_store0 rfl rfl Hsa5.out ?_
        go_wp2_with (with_reducible refine Bl.stop_store (ty := 31) ?_)
        refine Bl.go_on ?_
        refine Bl.wpL_store0 rfl rfl Hsb5.out ?_
        obtain ⟨W5, hW5⟩ : ∃ W', W' = (((w4.alloc (.cells #[.int .u8 0, .int .u8 0, .int .u8 0, .int .u8 0, .int .u8 0, .int .u8 0, .int .u8 0, .int .u8 0, .int .u8 0, .int .u8 0, .int .u8 0, .int .u8 0, .int .u8 0, .int .u8 0, .int .u8 0, .int .u8 0, .int .u8 0, .int .u8 0, .int .u8 0, .int .u8 0, .int .u8 0, .int .u8 0, .int .u8 0, .int .u8 0, .int .u8 0, .int .u8 0, .int .u8 0, .int .u8 0, .int .u8 0, .int .u8 0, .int .u8 0, .int .u8 0] 31)).alloc (.cells #[.int .u8 0, .int .u8 0, .int .u8 0, .int .u8 0, .int .u8 0, .int .u8 0, .int .u8 0, .int .u8 0, .int .u8 0, .int .u8 0, .int .u8 0, .int .u8 0, .int .u8 0, .int .u8 0, .int .u8 0, .int .u8 0, .int .u8 0, .int .u8 0, .int .u8 0, .int .u8 0, .int .u8 0, .int .u8 0, .int .u8 0, .int .u8 0, .int .u8 0, .int .u8 0, .int .u8 0, .int .u8 0, .int .u8 0, .int .u8 0, .int .u8 0, .int .u8 0] 31)).setCells w4.heap.size 0 (Bl.ints .u8 x)).setCells (w4.heap.size + 1) 0 (Bl.ints .u8 y) := ⟨_, rfl⟩
        obtain ⟨Y5, hY5⟩ : ∃ Y', Y' = w4.heap.size + 1 := ⟨_, rfl⟩
        obtain ⟨X5, hX5⟩ : ∃ X', X' = w4.heap.size := ⟨_, rfl⟩
        rw [← hW5] at HDu5 HEu5 ⊢
        rw [← hY5] at HDu5 ⊢
        rw [← hX5] at HDu5 ⊢
        have HX5 := Bl.hid hX5
        have HY5 := Bl.hid hY5
        clear hW5 hY5 hX5 HDn5 HDm5 Hsa5 Hsb5
        have HEs := Bl.hid (HE4.out.trans HEu5.out)
        have HB5 := Bl.hid (HBx.out.ext HEs.out)
        have HLo : Hid (∀ w2, Bl.Ext W5 w2 → (Instr.loadAt 31 (.pointer (some ⟨w.heap.size, 0, none⟩))).run Tryd.prog w2 = .ok (.agg (Bl.ints .u8 old).toArray) w2) := Bl.hid fun w2 h2 => HLd.out w2 (Below.mono ((HE1.out.trans HEs.out).trans h2) HW0.out)
        have HLy : Hid (∀ w2, Bl.Ext W5 w2 → (Instr.loadAt 31 (.pointer (some ⟨Y5, 0, none⟩))).run Tryd.prog w2 = .ok (.agg (Bl.ints .u8 y).toArray) w2) := Bl.hid fun w2 h2 => (HDu5.out.b.ext h2).load Tryd.underlying31 (by kernel_rfl)
        have HLs : Hid (∀ w2, Bl.Ext W5 w2 → (Instr.loadAt 31 (.pointer (some ⟨X, 0, none⟩))).run Tryd.prog w2 = .ok (.agg (Bl.ints .u8 s).toArray) w2) := Bl.hid fun w2 h2 => (HB5.out.ext h2).load Tryd.underlying31 (by kernel_rfl)
        have HEw5 := Bl.hid (HE6.out.trans HEs.out)
        go_wp2_with fail
        apply Bl.wp_region_evK (Bl.Ext) (fun _ _ _ => True) 13 [69, 70, 71, 72, 73, 74, 75, 76, 77, 78, 79, 80, 81] [Bl.eqv _, Bl.eqv _, Bl.eqv _, Bl.eqv _, Bl.eqv _, Bl.eqv _, Bl.eqv _, Bl.eqv _, (fun v w' => Bl.OwnS w' w.heap.size 80 v U), Bl.eqv _, Bl.eqv _, (fun v w' => Bl.StrV w' v sd), (fun v w' => Bl.StrB w' v sd)] (fun w => Below.refl _ w) (fun a b c h k => Bl.Ext.trans h k) (by kernel_rfl) (by kernel_rfl) (by kernel_rfl) (by kernel_rfl)
        case hsteps =>
          refine ⟨?_, ?_, ?_, ?_, ?_, ?_, ?_, ?_, ?_, ?_, ?_, ?_, ?_, trivial⟩
          all_goals
            intro d ev w1 hext HJd Hanc Hdes hni hb hd
            replace Hanc := Bl.hid Hanc
            replace HJd := Bl.hid HJd
            replace Hdes := Bl.hid Hdes
            replace hni := Bl.hid hni
            have e0 := hb 0 (by decide)
            have e1 := hb 1 (by decide)
            have e7 := hb 7 (by decide)
            have e11 := hb 11 (by decide)
            have e12 := hb 12 (by decide)
            have e13 := hb 13 (by decide)
            have e17 := hb 17 (by decide)
            clear hb
            simp only [Array.getD_eq_getD_getElem?, List.getElem?_toArray, List.getElem?_cons_succ, List.getElem?_cons_zero, Option.getD_some] at e0 e1 e7 e11 e12 e13 e17
            simp only [Bl.DepsE2, List.getElem?_cons_succ, List.getElem?_cons_zero, Option.bind_some, List.getD_cons_succ, List.getD_cons_zero, Bl.eqv, and_true] at hd
            have hc := (Bl.bcell hext).1
            simp only [Region.wanted, if_true]
            first
            | ((with_reducible refine Bl.goodX_load (fun w => Below.refl _ w) ?_ (HLo.out _ hext) ?_); exact e7; exact ⟨rfl, trivial⟩) | ((with_reducible refine Bl.goodX_load (fun w => Below.refl _ w) ?_ (HLy.out _ hext) ?_); exact e17; exact ⟨rfl, trivial⟩) | ((with_reducible refine Bl.goodX_load (fun w => Below.refl _ w) ?_ (HLs.out _ hext) ?_); exact e12; exact ⟨rfl, trivial⟩) | ((with_reducible refine Bl.goodX_buildV (v := ev 80) tRx (by decide) ?_ (Bl.StrV.size (s := sd) (w := w1) (by first | exact hd | exact hd.2 | exact hd.1.2 | exact hd.1.1.2 | exact hd.1.1.1.2 | exact hd.1.1.1.1.2 | exact hd.1.1.1.1.1.2 | exact hd.1.1.1.1.1.1.2 | exact hd.1.1.1.1.1.1.1.2 | exact hd.1.1.1.1.1.1.1.1.2 | exact hd.1.1.1.1.1.1.1.1.1.2 | exact hd.1.1.1.1.1.1.1.1.1.1.2 | exact hd.1.1.1.1.1.1.1.1.1.1.1.2 | exact hd.1.1.1.1.1.1.1.1.1.1.1.1.2 | exact hd.1.1.1.1.1.1.1.1.1.1.1.1.1.2 | exact hd.1 | exact hd.1.1 | exact hd.1.1.1 | exact hd.1.1.1.1 | exact hd.1.1.1.1.1 | exact hd.1.1.1.1.1.1 | exact hd.1.1.1.1.1.1.1 | exact hd.1.1.1.1.1.1.1.1 | exact hd.1.1.1.1.1.1.1.1.1 | exact hd.1.1.1.1.1.1.1.1.1.1 | exact hd.1.1.1.1.1.1.1.1.1.1.1 | exact hd.1.1.1.1.1.1.1.1.1.1.1.1 | exact hd.1.1.1.1.1.1.1.1.1.1.1.1.1 | exact hd.2.1 | exact hd.2.2.1 | exact hd.2.2.2.1 | exact hd.2.2.2.2.1 | exact hd.2.2.2.2.2.1 | exact hd.2.2.2.2.2.2.1 | exact hd.2.2.2.2.2.2.2.1 | exact hd.2.2.2.2.2.2.2.2.1 | exact hd.2.2.2.2.2.2.2.2.2.1 | exact hd.2.2.2.2.2.2.2.2.2.2.1 | exact hd.2.2.2.2.2.2.2.2.2.2.2.1 | exact hd.2.2.2.2.2.2.2.2.2.2.2.2.1 | exact hd.2.2.2.2.2.2.2.2.2.2.2.2.2.1)) ?_); rfl; exact ⟨Bl.ext_alloc _ _, Bl.StrB.box (s := sd) (by first | exact hd | exact hd.2 | exact hd.1.2 | exact hd.1.1.2 | exact hd.1.1.1.2 | exact hd.1.1.1.1.2 | exact hd.1.1.1.1.1.2 | exact hd.1.1.1.1.1.1.2 | exact hd.1.1.1.1.1.1.1.2 | exact hd.1.1.1.1.1.1.1.1.2 | exact hd.1.1.1.1.1.1.1.1.1.2 | exact hd.1.1.1.1.1.1.1.1.1.1.2 | exact hd.1.1.1.1.1.1.1.1.1.1.1.2 | exact hd.1.1.1.1.1.1.1.1.1.1.1.1.2 | exact hd.1.1.1.1.1.1.1.1.1.1.1.1.1.2 | exact hd.1 | exact hd.1.1 | exact hd.1.1.1 | exact hd.1.1.1.1 | exact hd.1.1.1.1.1 | exact hd.1.1.1.1.1.1 | exact hd.1.1.1.1.1.1.1 | exact hd.1.1.1.1.1.1.1.1 | exact hd.1.1.1.1.1.1.1.1.1 | exact hd.1.1.1.1.1.1.1.1.1.1 | exact hd.1.1.1.1.1.1.1.1.1.1.1 | exact hd.1.1.1.1.1.1.1.1.1.1.1.1 | exact hd.1.1.1.1.1.1.1.1.1.1.1.1.1 | exact hd.2.1 | exact hd.2.2.1 | exact hd.2.2.2.1 | exact hd.2.2.2.2.1 | exact hd.2.2.2.2.2.1 | exact hd.2.2.2.2.2.2.1 | exact hd.2.2.2.2.2.2.2.1 | exact hd.2.2.2.2.2.2.2.2.1 | exact hd.2.2.2.2.2.2.2.2.2.1 | exact hd.2.2.2.2.2.2.2.2.2.2.1 | exact hd.2.2.2.2.2.2.2.2.2.2.2.1 | exact hd.2.2.2.2.2.2.2.2.2.2.2.2.1 | exact hd.2.2.2.2.2.2.2.2.2.2.2.2.2.1) _, trivial⟩)
            | (go_simp; first | (go_at_call 45; (with_reducible refine (HU.out _ (HEs.out.trans hext)).mono ?_); rintro e w2 ⟨v2, rfl, hO, hE2⟩; exact ⟨_, rfl, hE2, hO.mono (HEw5.out.trans hext).size⟩) | (go_at_call 66; (with_reducible refine (HN.out _).mono ?_); rintro e w2 ⟨v2, rfl, hO, hE2⟩; exact ⟨_, rfl, hE2, hO⟩) | exact ⟨Below.refl _ _, rfl⟩ | exact Below.refl _ _)
        case hmono => exact ⟨Bl.monoR_eqv _, Bl.monoR_eqv _, Bl.monoR_eqv _, Bl.monoR_eqv _, Bl.monoR_eqv _, Bl.monoR_eqv _, Bl.monoR_eqv _, Bl.monoR_eqv _, (fun _ _ _ h k => Bl.OwnS.ext h k), Bl.monoR_eqv _, Bl.monoR_eqv _, (fun _ _ _ h k => Bl.StrV.ext h k), (fun _ _ _ h k => Bl.StrB.ext h k), trivial⟩
        case hR0 => exact (Below.refl _ _).drew
        case hend =>
          intro u w1 hext hJ hend
          simp only [Bl.EndE, List.getElem?_cons_succ, List.getElem?_cons_zero, Option.bind_some, List.getD_cons_succ, List.getD_cons_zero, Bl.eqv, true_and] at hend
          simp only [Bl.fillAct, List.setIfInBounds_toArray, List.set_cons_succ, List.set_cons_zero, List.drop_succ_cons, List.drop_zero, hend]
          have hO : Bl.OwnS w1 w.heap.size 80 (u 77) U := (by first | exact hend | exact hend.2 | exact hend.1.2 | exact hend.1.1.2 | exact hend.1.1.1.2 | exact hend.1.1.1.1.2 | exact hend.1.1.1.1.1.2 | exact hend.1.1.1.1.1.1.2 | exact hend.1.1.1.1.1.1.1.2 | exact hend.1.1.1.1.1.1.1.1.2 | exact hend.1.1.1.1.1.1.1.1.1.2 | exact hend.1.1.1.1.1.1.1.1.1.1.2 | exact hend.1.1.1.1.1.1.1.1.1.1.1.2 | exact hend.1.1.1.1.1.1.1.1.1.1.1.1.2 | exact hend.1.1.1.1.1.1.1.1.1.1.1.1.1.2 | exact hend.1 | exact hend.1.1 | exact hend.1.1.1 | exact hend.1.1.1.1 | exact hend.1.1.1.1.1 | exact hend.1.1.1.1.1.1 | exact hend.1.1.1.1.1.1.1 | exact hend.1.1.1.1.1.1.1.1 | exact hend.1.1.1.1.1.1.1.1.1 | exact hend.1.1.1.1.1.1.1.1.1.1 | exact hend.1.1.1.1.1.1.1.1.1.1.1 | exact hend.1.1.1.1.1.1.1.1.1.1.1.1 | exact hend.1.1.1.1.1.1.1.1.1.1.1.1.1 | exact hend.2.1 | exact hend.2.2.1 | exact hend.2.2.2.1 | exact hend.2.2.2.2.1 | exact hend.2.2.2.2.2.1 | exact hend.2.2.2.2.2.2.1 | exact hend.2.2.2.2.2.2.2.1 | exact hend.2.2.2.2.2.2.2.2.1 | exact hend.2.2.2.2.2.2.2.2.2.1 | exact hend.2.2.2.2.2.2.2.2.2.2.1 | exact hend.2.2.2.2.2.2.2.2.2.2.2.1 | exact hend.2.2.2.2.2.2.2.2.2.2.2.2.1 | exact hend.2.2.2.2.2.2.2.2.2.2.2.2.2.1)
          have hS : Bl.StrB w1 (u 81) sd := (by first | exact hend | exact hend.2 | exact hend.1.2 | exact hend.1.1.2 | exact hend.1.1.1.2 | exact hend.1.1.1.1.2 | exact hend.1.1.1.1.1.2 | exact hend.1.1.1.1.1.1.2 | exact hend.1.1.1.1.1.1.1.2 | exact hend.1.1.1.1.1.1.1.1.2 | exact hend.1.1.1.1.1.1.1.1.1.2 | exact hend.1.1.1.1.1.1.1.1.1.1.2 | exact hend.1.1.1.1.1.1.1.1.1.1.1.2 | exact hend.1.1.1.1.1.1.1.1.1.1.1.1.2 | exact hend.1.1.1.1.1.1.1.1.1.1.1.1.1.2 | exact hend.1 | exact hend.1.1 | exact hend.1.1.1 | exact hend.1.1.1.1 | exact hend.1.1.1.1.1 | exact hend.1.1.1.1.1.1 | exact hend.1.1.1.1.1.1.1 | exact hend.1.1.1.1.1.1.1.1 | exact hend.1.1.1.1.1.1.1.1.1 | exact hend.1.1.1.1.1.1.1.1.1.1 | exact hend.1.1.1.1.1.1.1.1.1.1.1 | exact hend.1.1.1.1.1.1.1.1.1.1.1.1 | exact hend.1.1.1.1.1.1.1.1.1.1.1.1.1 | exact hend.2.1 | exact hend.2.2.1 | exact hend.2.2.2.1 | exact hend.2.2.2.2.1 | exact hend.2.2.2.2.2.1 | exact hend.2.2.2.2.2.2.1 | exact hend.2.2.2.2.2.2.2.1 | exact hend.2.2.2.2.2.2.2.2.1 | exact hend.2.2.2.2.2.2.2.2.2.1 | exact hend.2.2.2.2.2.2.2.2.2.2.1 | exact hend.2.2.2.2.2.2.2.2.2.2.2.1 | exact hend.2.2.2.2.2.2.2.2.2.2.2.2.1 | exact hend.2.2.2.2.2.2.2.2.2.2.2.2.2.1)
          obtain ⟨vu, hvu⟩ : ∃ vu, vu = u 77 := ⟨_, rfl⟩
          obtain ⟨vb, hvb⟩ : ∃ vb, vb = u 81 := ⟨_, rfl⟩
          rw [← hvu] at hO
          rw [← hvb] at hS
          rw [← hvu, ← hvb]
          obtain ⟨pu, cu, cs, rfl, hown, hcl, hst, hnil⟩ := hO
          obtain ⟨gb, ub, rfl, hrb, hsb⟩ := hS
          have HOw := Bl.hid hown
          have HSt := Bl.hid (And.intro hcl (And.intro hst hnil))
          have HSb := Bl.hid hsb
          have HRb : Hid (Bl.Rds w1 (.slice (some ⟨gb, 0, none⟩) 1 1) 1 [ub]) := Bl.hid (.inr ⟨gb, 0, 1, rfl, Nat.le_refl _, by decide, hrb⟩)
          have HE9 := Bl.hid (HEw5.out.trans hext)
          clear hext hJ hend hown hcl hst hnil hrb hsb hvu hvb
          go_wp2_with (with_reducible refine Bl.stop_append ?_)
          refine Bl.go_on ?_
          refine Bl.wpL_app tRx HOw.out HRb.out rfl rfl rfl HSb.out.one (by have := HUl.out; unfold maxLen; omega) (by have := HUl.out; omega) HE9.out.size ?_
          intro p10 c10 w10 hown10 hg10 hB10 hK10 hn10 hc10
          have HP10 := Bl.hid (Bl.OwnS.push HOw.out HSt.out.1 HSt.out.2.1 HSt.out.2.2 HSb.out hown10 hg10)
          have HE10 : Hid (Bl.Ext w w10) := Bl.hid (Below.trans HE9.out hB10)
          clear hown10 hg10 hB10 hK10 hn10 hc10
          go_wp2_with fail
          go_ret
          exact ⟨_, rfl, by rw [HPd.out]; exact HP10.out, HE10.out⟩
        case hJ0 => trivial
end Go.Proofs.YtmfooocdnoflaaaDoor

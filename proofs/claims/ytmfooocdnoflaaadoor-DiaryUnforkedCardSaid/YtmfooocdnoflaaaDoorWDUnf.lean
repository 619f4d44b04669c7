/- Walk of the law DiaryUnforked. -/
import Derived.Test.YtmfooocdnoflaaaDoorDia2
import Derived.Test.YtmfooocdnoflaaaDoorWDig13
namespace Go.Proofs.YtmfooocdnoflaaaDoor
open Go Go.RowKit Go.Proofs

set_option maxRecDepth 100000 in
set_option maxHeartbeats 4000000 in
theorem dunforked_all (v1 v2 vl : Value) (L1 L2 : List Bl.Ac) (ps : List (List Int)) (w : World) (S : List Nat) (a : Nat → Addr) (h1 : Bl.RdA w v1 L1) (h2 : Bl.RdA w v2 L2) (hR : Bl.Rdss w vl ps) (hby : ∀ p ∈ ps, Bl.Byt p) (hg : Glob w) (hS : ∀ i, 1 ≤ i → i ≤ 20 → i ∈ S) (he : Errs S a w) :
    Calls Tryd.prog 7 #[v1, v2, vl] w fun e w' => e = .returned (.bool true) ∧ Bl.Ext w w' := by
  have HLg : Hid (∀ w2, Bl.Ext w w2 → Calls Tryd.prog 19 #[vl, .int .i64 30] w2 fun e w' => w' = w2 ∧ (e = .returned (.bool true) ∨ (e = .returned (.bool false) ∧ (ps.length : Int) ≤ 30 ∧ ∀ p ∈ ps, p.length ≤ 200))) := Bl.hid fun w2 h2 => long_any vl ps w2 30 (hR.ext h2)
  obtain ⟨p1, c1, hf1, hn1, hc1⟩ := h1.rd.form
  subst hf1
  obtain ⟨p2, c2, hf2, hn2, hc2⟩ := h2.rd.form
  subst hf2
  unfold maxLen at hc1 hc2
  have HR := Bl.hid hR
  have H1 := Bl.hid h1
  have H2 := Bl.hid h2
  have Hby := Bl.hid hby
  have Hg := Bl.hid hg
  have HS := Bl.hid hS
  have He := Bl.hid he
  obtain ⟨n1, hnn1⟩ : ∃ n1, n1 = L1.length := ⟨_, rfl⟩
  obtain ⟨n2, hnn2⟩ : ∃ n2, n2 = L2.length := ⟨_, rfl⟩
  have Hn1 := Bl.hid hnn1
  have Hn2 := Bl.hid hnn2
  rw [← hnn1] at H1 hn1 ⊢
  rw [← hnn2] at H2 hn2 ⊢
  clear h1 h2 hR hby hg hS he hnn1 hnn2
  go_enter Tryd.func7, Tryd.ntmps7
  go_wp2_with fail
  refine (alive39 w S a He.out HS.out Hg.out).mono ?_
  rintro e w1 ⟨rfl, hE1⟩
  have HE1 := Bl.hid hE1
  clear hE1
  go_wp2_with fail
  refine (longA_any _ L1 w1 (H1.out.ext HE1.out)).mono ?_
  rintro e w2 ⟨(rfl | ⟨rfl, hl1, hq1⟩), hE2⟩
  · go_wp2_with fail
    go_ret
    exact ⟨rfl, HE1.out.trans hE2⟩
  have HE2 := Bl.hid (HE1.out.trans hE2)
  have Hq1 := Bl.hid hq1
  clear hE2 hq1 HE1
  go_wp2_with fail
  refine (longA_any _ L2 w2 (H2.out.ext HE2.out)).mono ?_
  rintro e w3 ⟨(rfl | ⟨rfl, hl2, hq2⟩), hE3⟩
  · go_wp2_with fail
    go_ret
    exact ⟨rfl, HE2.out.trans hE3⟩
  have HE3 := Bl.hid (HE2.out.trans hE3)
  have Hq2 := Bl.hid hq2
  clear hE3 hq2 HE2
  go_wp2_with fail
  refine (HLg.out w3 HE3.out).mono ?_
  rintro e w4 ⟨hw4, (rfl | ⟨rfl, h30, h200⟩)⟩
  · subst hw4
    go_wp2_with fail
    go_ret
    exact ⟨rfl, HE3.out⟩
  subst hw4
  have hl1' : n1 ≤ 30 := by rw [Hn1.out]; exact hl1
  have hl2' : n2 ≤ 30 := by rw [Hn2.out]; exact hl2
  have H200 := Bl.hid h200
  have H30 : Hid (ps.length ≤ 30) := Bl.hid (by omega)
  clear h200 h30 HLg hl1 hl2
  go_wp2_with fail
  refine (dnew_any w4).mono ?_
  rintro e w5 ⟨rfl, hD5, hE5⟩
  obtain ⟨ba, hba⟩ : ∃ ba, ba = w4.heap.size := ⟨_, rfl⟩
  rw [← hba] at hD5 ⊢
  have HD5 := Bl.hid hD5
  have HE5 := Bl.hid hE5
  have Hba : Hid (w4.heap.size ≤ ba) := Bl.hid (by omega)
  clear hD5 hE5 hba
  go_wp2_with fail
  refine (dnew_any w5).mono ?_
  rintro e w6 ⟨rfl, hD6, hE6⟩
  obtain ⟨bb, hbb⟩ : ∃ bb, bb = w5.heap.size := ⟨_, rfl⟩
  rw [← hbb] at hD6 ⊢
  have HD6 := Bl.hid hD6
  have HDa := Bl.hid (HD5.out.ext hE6)
  have HE6 := Bl.hid (HE5.out.trans hE6)
  have Hbb : Hid (ba < bb ∧ w4.heap.size ≤ bb) := Bl.hid (by have := HD5.out.lt; have := Hba.out; omega)
  clear hD6 hE6 hbb HD5 HE5
  go_wp2_with fail
  go_loopw [31] (fun x wr => ∃ (i : Nat) (va : Value) (A : List Bl.Nt), i ≤ n1 ∧ x = .int .i64 i ∧ Hid (Bl.Di wr ba va A ∧ Bl.Ris A ∧ A.length ≤ i ∧ (∀ j, va.ownBlock = some j → w4.heap.size ≤ j) ∧ va.ownBlock ≠ some bb ∧ Bl.Di wr bb (.slice none 0 0) []) ∧ Bl.Ext w4 wr) (fun x _ => n1 - (intOf x).toNat)
  case atStart => exact ⟨0, _, [], Nat.zero_le _, rfl, Bl.hid ⟨HDa.out, Bl.Ris.nil, Nat.le_refl _, fun j h => (by cases h), fun h => (by cases h), HD6.out⟩, HE6.out⟩
  case round =>
    obtain ⟨i, va, A, hi, rfl, HI, hE⟩ := hrel
    have HE := Bl.hid hE
    clear hE
    by_cases hlt : i < n1
    ·
      have hin : i < L1.length := by rw [← Hn1.out]; exact hlt
      have HEr := Bl.hid (HE3.out.trans HE.out)
      have hRA := H1.out.ext HEr.out
      obtain ⟨g, o, cc, hpe, hcn, hcm, hgl, hel⟩ := hRA.pos (by omega)
      injection hpe with hp1 hp2 hp3
      subst hp1 hp3
      have hrg := hel i hin
      have hmem := Bl.getD_mem Bl.a0 hin
      obtain ⟨hxd, hxb, hxp, hxg⟩ := hRA.ok _ hmem
      have hx40 := Hq1.out _ hmem
      obtain ⟨x, hx⟩ : ∃ x, x = L1.getD i Bl.a0 := ⟨_, rfl⟩
      rw [← hx] at hrg hxd hxb hxp hxg hx40
      have Hld := Bl.hid (run_loadAt_mid (P := Tryd.prog) wr g (o + i * 34) 34 _ _ hrg Tryd.underlying34 rfl (by rw [Bl.cA_len hxd]; kernel_rfl))
      obtain ⟨HB6, HE7⟩ := Bl.BoxC.fresh (cs := Bl.cA x) wr 34 #[.int .i64 0, .int .u8 0, .int .u8 0, .int .u8 0, .int .u8 0, .int .u8 0, .int .u8 0, .int .u8 0, .int .u8 0, .int .u8 0, .int .u8 0, .int .u8 0, .int .u8 0, .int .u8 0, .int .u8 0, .int .u8 0, .int .u8 0, .int .u8 0, .int .u8 0, .int .u8 0, .int .u8 0, .int .u8 0, .int .u8 0, .int .u8 0, .int .u8 0, .int .u8 0, .int .u8 0, .int .u8 0, .int .u8 0, .int .u8 0, .int .u8 0, .int .u8 0, .int .u8 0, .slice none 0 0] (by rw [Bl.cA_len hxd]; rfl) (Bl.cA_ne x)
      have Hst := Bl.hid (Bl.fresh_store (P := Tryd.prog) (cs := Bl.cA x) wr 34 #[.int .i64 0, .int .u8 0, .int .u8 0, .int .u8 0, .int .u8 0, .int .u8 0, .int .u8 0, .int .u8 0, .int .u8 0, .int .u8 0, .int .u8 0, .int .u8 0, .int .u8 0, .int .u8 0, .int .u8 0, .int .u8 0, .int .u8 0, .int .u8 0, .int .u8 0, .int .u8 0, .int .u8 0, .int .u8 0, .int .u8 0, .int .u8 0, .int .u8 0, .int .u8 0, .int .u8 0, .int .u8 0, .int .u8 0, .int .u8 0, .int .u8 0, .int .u8 0, .int .u8 0, .slice none 0 0] (by rw [Bl.cA_len hxd]; rfl) (Bl.cA_one hxp) (ty := 34) (by rw [Bl.cA_len hxd]; kernel_rfl))
      have Hq0 := Bl.hid (HB6.cell (Bl.cA_size x))
      have Hq33 := Bl.hid (HB6.cell (Bl.cA_proof hxd))
      have Hrt : Hid (((wr.alloc (.cells #[.int .i64 0, .int .u8 0, .int .u8 0, .int .u8 0, .int .u8 0, .int .u8 0, .int .u8 0, .int .u8 0, .int .u8 0, .int .u8 0, .int .u8 0, .int .u8 0, .int .u8 0, .int .u8 0, .int .u8 0, .int .u8 0, .int .u8 0, .int .u8 0, .int .u8 0, .int .u8 0, .int .u8 0, .int .u8 0, .int .u8 0, .int .u8 0, .int .u8 0, .int .u8 0, .int .u8 0, .int .u8 0, .int .u8 0, .int .u8 0, .int .u8 0, .int .u8 0, .int .u8 0, .slice none 0 0] 34)).setCells wr.heap.size 0 (Bl.cA x)).rangeAt wr.heap.size 1 (Bl.ints .u8 x.2.1)) := Bl.hid (by
        have h := Bl.rangeAt_take (HB6.sub (Bl.cA_root x)) 32
        rwa [List.take_left' (by rw [Bl.ints_length, hxd])] at h)
      have HXl : Hid (wr.heap.size < ((wr.alloc (.cells #[.int .i64 0, .int .u8 0, .int .u8 0, .int .u8 0, .int .u8 0, .int .u8 0, .int .u8 0, .int .u8 0, .int .u8 0, .int .u8 0, .int .u8 0, .int .u8 0, .int .u8 0, .int .u8 0, .int .u8 0, .int .u8 0, .int .u8 0, .int .u8 0, .int .u8 0, .int .u8 0, .int .u8 0, .int .u8 0, .int .u8 0, .int .u8 0, .int .u8 0, .int .u8 0, .int .u8 0, .int .u8 0, .int .u8 0, .int .u8 0, .int .u8 0, .int .u8 0, .int .u8 0, .slice none 0 0] 34)).setCells wr.heap.size 0 (Bl.cA x)).heap.size) := Bl.hid HB6.lt
      have Hxp := Bl.hid (Bl.Rds.ext hxp HE7)
      replace HE7 := Bl.hid HE7
      have Hxd := Bl.hid (And.intro hxd hxb)
      have Hxg := Bl.hid hxg
      have Hx40 := Bl.hid hx40
      have hi0 : (0 : Int) ≤ (i : Int) := by omega
      have hi1 : (i : Int) < (n1 : Int) := by omega
      clear hel hrg hxd hxb hxp hxg hx40 hx HB6 hp2 hcn hcm hin hRA hmem
      go_wp2_with (with_reducible refine Bl.stop_load (ty := 34) ?_)
      refine Bl.go_on ?_
      refine Bl.wpL_load rfl Hld.out ?_
      go_wp2_with (with_reducible refine Bl.stop_store (ty := 34) ?_)
      refine Bl.go_on ?_
      refine Bl.wpL_store0 rfl rfl Hst.out ?_
      obtain ⟨W7, hW7⟩ : ∃ W7, W7 = (wr.alloc (.cells #[.int .i64 0, .int .u8 0, .int .u8 0, .int .u8 0, .int .u8 0, .int .u8 0, .int .u8 0, .int .u8 0, .int .u8 0, .int .u8 0, .int .u8 0, .int .u8 0, .int .u8 0, .int .u8 0, .int .u8 0, .int .u8 0, .int .u8 0, .int .u8 0, .int .u8 0, .int .u8 0, .int .u8 0, .int .u8 0, .int .u8 0, .int .u8 0, .int .u8 0, .int .u8 0, .int .u8 0, .int .u8 0, .int .u8 0, .int .u8 0, .int .u8 0, .int .u8 0, .int .u8 0, .slice none 0 0] 34)).setCells wr.heap.size 0 (Bl.cA x) := ⟨_, rfl⟩
      obtain ⟨X7, hX7⟩ : ∃ X7, X7 = wr.heap.size := ⟨_, rfl⟩
      rw [← hW7] at Hq0 Hq33 Hrt HXl Hxp HE7 ⊢
      rw [← hX7] at Hq0 Hq33 Hrt HXl ⊢
      clear hW7 hX7 Hst Hld
      have HLr : Hid (∀ w2, Bl.Ext W7 w2 → (Instr.loadAt 31 (.pointer (some ⟨X7, 1, none⟩))).run Tryd.prog w2 = .ok (.agg (Bl.ints .u8 x.2.1).toArray) w2) := Bl.hid fun w2 h2 => Bl.load_ints (Bl.rangeAt_ext Hrt.out h2) Tryd.underlying31 (by kernel_rfl) Hxd.out.1
      have HDg := Bl.hid (fun w2 (h2 : Bl.Ext W7 w2) => digests13_any x.2.2.1 x.2.2.2 w2 (Bl.Rds.ext Hxp.out h2) Hxg.out (by have := Hx40.out; omega))
      go_wp2_with fail
      apply Bl.wp_region_ev 8 [35, 36, 37, 38, 39, 40, 41, 42] [Bl.eqv _, Bl.eqv _, Bl.eqv _, Bl.eqv _, Bl.eqv _, Bl.eqv _, Bl.eqv _, (fun v w' => Bl.RdD w' v x.2.2.2)] (by kernel_rfl) (by kernel_rfl) (by kernel_rfl) (by kernel_rfl)
      case hsteps =>
        refine ⟨?_, ?_, ?_, ?_, ?_, ?_, ?_, ?_, trivial⟩
        all_goals
          intro ev w1 hext hb hd
          have e7 := hb 7 (by decide)
          have e10 := hb 10 (by decide)
          clear hb
          simp only [Array.getD_eq_getD_getElem?, List.getElem?_toArray, List.getElem?_cons_succ, List.getElem?_cons_zero, Option.getD_some] at e7 e10
          simp only [Bl.DepsE, List.getElem?_cons_succ, List.getElem?_cons_zero, Option.bind_some, List.getD_cons_succ, List.getD_cons_zero, Bl.eqv, and_true] at hd
          have hc := (Bl.bcell hext).1
          have q0 := (hc _ 0 HXl.out).trans Hq0.out
          have q33 := (hc _ 33 HXl.out).trans Hq33.out
          simp only [Bl.Good, Region.wanted, if_true]
          first
          | ((with_reducible refine Bl.goodR_load ?_ (HLr.out _ hext) ?_); exact hd; exact rfl)
          | (go_simp; first | (go_at_call 14; (with_reducible refine (HDg.out _ hext).mono ?_); rintro e w2 ⟨p9, c9, rfl, hown, hE2⟩; exact ⟨_, rfl, hE2, Bl.Rds.of_owns hown⟩) | exact ⟨Below.refl _ _, rfl⟩)
      case hmono => exact ⟨Bl.mono_eqv _, Bl.mono_eqv _, Bl.mono_eqv _, Bl.mono_eqv _, Bl.mono_eqv _, Bl.mono_eqv _, Bl.mono_eqv _, (fun _ _ _ h k => Bl.Rds.ext h k), trivial⟩
      case hend =>
        intro u w1 hext hend
        simp only [Bl.EndE, List.getElem?_cons_succ, List.getElem?_cons_zero, Option.bind_some, List.getD_cons_succ, List.getD_cons_zero, Bl.eqv, true_and] at hend
        simp only [Bl.fillAct, List.setIfInBounds_toArray, List.set_cons_succ, List.set_cons_zero, List.drop_succ_cons, List.drop_zero, hend]
        have HE8 := Bl.hid (HE7.out.trans hext)
        have HE48 := Bl.hid (HE.out.trans HE8.out)
        have HPr := Bl.hid hend.2
        clear hend hext
        go_wp2_with fail
        refine (dtake_any ba va A x.1 x.2.1 (u 42) x.2.2.2 w4 w1 S a (HI.out.1.ext HE8.out) HI.out.2.1 (by have := HI.out.2.2.1; omega) Hxd.out HPr.out Hxg.out (He.out.ext (HE3.out.trans HE48.out)) (HS.out 1 (by decide) (by decide)) (HS.out 8 (by decide) (by decide)) (HS.out 15 (by decide) (by decide)) (HS.out 19 (by decide) (by decide)) (Hg.out.ext (HE3.out.trans HE48.out)) HE48.out Hba.out HI.out.2.2.2.1).mono ?_
        rintro e w9 ⟨rfl, va', hD9, hv9, hA9⟩
        have HE9 : Hid (Bl.Ext w4 w9) := Bl.hid (Below.trans HE48.out (hA9.below HE48.out.size Hba.out HI.out.2.2.2.1))
        have HbL : Hid (bb < w1.heap.size) := Bl.hid (HI.out.2.2.2.2.2.ext HE8.out).lt
        have HI9 : Hid (Bl.Di w9 ba va' (Bl.takeN A x.1 x.2.1 x.2.2.2) ∧ Bl.Ris (Bl.takeN A x.1 x.2.1 x.2.2.2) ∧ (Bl.takeN A x.1 x.2.1 x.2.2.2).length ≤ i + 1 ∧ (∀ j, va'.ownBlock = some j → w4.heap.size ≤ j) ∧ va'.ownBlock ≠ some bb ∧ Bl.Di w9 bb (.slice none 0 0) []) := Bl.hid
          ⟨hD9, HI.out.2.1.take _ _ _, by have := (Bl.takeN_len A x.1 x.2.1 x.2.2.2).1; have := HI.out.2.2.1; omega, fun j hj => (hv9 j hj).elim (HI.out.2.2.2.1 j) (Nat.le_trans HE48.out.size), fun q => by
            rcases hv9 bb q with z | z
            · exact HI.out.2.2.2.2.1 z
            · have := HbL.out; omega, (HI.out.2.2.2.2.2.ext HE8.out).adds hA9 (by have := Hbb.out.1; omega) (fun q => HI.out.2.2.2.2.1 q.symm) (fun q => by cases q) (fun j q => by cases q)⟩
        clear hD9 hv9 hA9
        go_wp2_with fail
        go_roundw
        case rel => exact ⟨i + 1, va', _, by omega, by go_num, HI9, HE9.out⟩
        case measure => simp [intOf]; omega
    · obtain rfl : i = n1 := by omega
      clear hlt hi
      have HIa := HI
      have HEa := HE
      clear HI HE HDa HD6 HE6
      have hAl : A.length ≤ 500 := by have := HIa.out.2.2.1; omega
      go_wp2_with fail
      go_loopw [47] (fun x ws => ∃ (i : Nat) (vb : Value) (B : List Bl.Nt), i ≤ n2 ∧ x = .int .i64 i ∧ Hid (Bl.Di ws bb vb B ∧ Bl.Ris B ∧ B.length ≤ i ∧ (∀ j, vb.ownBlock = some j → w4.heap.size ≤ j) ∧ some ba ≠ vb.ownBlock ∧ (∀ j, va.ownBlock = some j → some j ≠ vb.ownBlock) ∧ Bl.Di ws ba va A) ∧ Bl.Ext w4 ws) (fun x _ => n2 - (intOf x).toNat)
      case atStart => exact ⟨0, _, [], Nat.zero_le _, rfl, Bl.hid ⟨HIa.out.2.2.2.2.2, Bl.Ris.nil, Nat.le_refl _, fun j h => (by cases h), fun h => (by cases h), fun j _ h => (by cases h), HIa.out.1⟩, HEa.out⟩
      case round =>
        obtain ⟨Hva, hAl, HrA⟩ : Hid (va.ownBlock ≠ some bb) ∧ A.length ≤ 500 ∧ Hid (Bl.Ris A) := ⟨Bl.hid HIa.out.2.2.2.2.1, hAl, Bl.hid HIa.out.2.1⟩
        clear HIa HEa
        obtain ⟨i, vb, B, hi, rfl, HI, hE⟩ := hrel
        have HE := Bl.hid hE
        clear hE
        by_cases hlt : i < n2
        ·
          have hin : i < L2.length := by rw [← Hn2.out]; exact hlt
          have HEr := Bl.hid (HE3.out.trans HE.out)
          have hRA := H2.out.ext HEr.out
          obtain ⟨g, o, cc, hpe, hcn, hcm, hgl, hel⟩ := hRA.pos (by omega)
          injection hpe with hp1 hp2 hp3
          subst hp1 hp3
          have hrg := hel i hin
          have hmem := Bl.getD_mem Bl.a0 hin
          obtain ⟨hxd, hxb, hxp, hxg⟩ := hRA.ok _ hmem
          have hx40 := Hq2.out _ hmem
          obtain ⟨x, hx⟩ : ∃ x, x = L2.getD i Bl.a0 := ⟨_, rfl⟩
          rw [← hx] at hrg hxd hxb hxp hxg hx40
          have Hld := Bl.hid (run_loadAt_mid (P := Tryd.prog) wr g (o + i * 34) 34 _ _ hrg Tryd.underlying34 rfl (by rw [Bl.cA_len hxd]; kernel_rfl))
          obtain ⟨HB6, HE7⟩ := Bl.BoxC.fresh (cs := Bl.cA x) wr 34 #[.int .i64 0, .int .u8 0, .int .u8 0, .int .u8 0, .int .u8 0, .int .u8 0, .int .u8 0, .int .u8 0, .int .u8 0, .int .u8 0, .int .u8 0, .int .u8 0, .int .u8 0, .int .u8 0, .int .u8 0, .int .u8 0, .int .u8 0, .int .u8 0, .int .u8 0, .int .u8 0, .int .u8 0, .int .u8 0, .int .u8 0, .int .u8 0, .int .u8 0, .int .u8 0, .int .u8 0, .int .u8 0, .int .u8 0, .int .u8 0, .int .u8 0, .int .u8 0, .int .u8 0, .slice none 0 0] (by rw [Bl.cA_len hxd]; rfl) (Bl.cA_ne x)
          have Hst := Bl.hid (Bl.fresh_store (P := Tryd.prog) (cs := Bl.cA x) wr 34 #[.int .i64 0, .int .u8 0, .int .u8 0, .int .u8 0, .int .u8 0, .int .u8 0, .int .u8 0, .int .u8 0, .int .u8 0, .int .u8 0, .int .u8 0, .int .u8 0, .int .u8 0, .int .u8 0, .int .u8 0, .int .u8 0, .int .u8 0, .int .u8 0, .int .u8 0, .int .u8 0, .int .u8 0, .int .u8 0, .int .u8 0, .int .u8 0, .int .u8 0, .int .u8 0, .int .u8 0, .int .u8 0, .int .u8 0, .int .u8 0, .int .u8 0, .int .u8 0, .int .u8 0, .slice none 0 0] (by rw [Bl.cA_len hxd]; rfl) (Bl.cA_one hxp) (ty := 34) (by rw [Bl.cA_len hxd]; kernel_rfl))
          have Hq0 := Bl.hid (HB6.cell (Bl.cA_size x))
          have Hq33 := Bl.hid (HB6.cell (Bl.cA_proof hxd))
          have Hrt : Hid (((wr.alloc (.cells #[.int .i64 0, .int .u8 0, .int .u8 0, .int .u8 0, .int .u8 0, .int .u8 0, .int .u8 0, .int .u8 0, .int .u8 0, .int .u8 0, .int .u8 0, .int .u8 0, .int .u8 0, .int .u8 0, .int .u8 0, .int .u8 0, .int .u8 0, .int .u8 0, .int .u8 0, .int .u8 0, .int .u8 0, .int .u8 0, .int .u8 0, .int .u8 0, .int .u8 0, .int .u8 0, .int .u8 0, .int .u8 0, .int .u8 0, .int .u8 0, .int .u8 0, .int .u8 0, .int .u8 0, .slice none 0 0] 34)).setCells wr.heap.size 0 (Bl.cA x)).rangeAt wr.heap.size 1 (Bl.ints .u8 x.2.1)) := Bl.hid (by
            have h := Bl.rangeAt_take (HB6.sub (Bl.cA_root x)) 32
            rwa [List.take_left' (by rw [Bl.ints_length, hxd])] at h)
          have HXl : Hid (wr.heap.size < ((wr.alloc (.cells #[.int .i64 0, .int .u8 0, .int .u8 0, .int .u8 0, .int .u8 0, .int .u8 0, .int .u8 0, .int .u8 0, .int .u8 0, .int .u8 0, .int .u8 0, .int .u8 0, .int .u8 0, .int .u8 0, .int .u8 0, .int .u8 0, .int .u8 0, .int .u8 0, .int .u8 0, .int .u8 0, .int .u8 0, .int .u8 0, .int .u8 0, .int .u8 0, .int .u8 0, .int .u8 0, .int .u8 0, .int .u8 0, .int .u8 0, .int .u8 0, .int .u8 0, .int .u8 0, .int .u8 0, .slice none 0 0] 34)).setCells wr.heap.size 0 (Bl.cA x)).heap.size) := Bl.hid HB6.lt
          have Hxp := Bl.hid (Bl.Rds.ext hxp HE7)
          replace HE7 := Bl.hid HE7
          have Hxd := Bl.hid (And.intro hxd hxb)
          have Hxg := Bl.hid hxg
          have Hx40 := Bl.hid hx40
          have hi0 : (0 : Int) ≤ (i : Int) := by omega
          have hi1 : (i : Int) < (n2 : Int) := by omega
          clear hel hrg hxd hxb hxp hxg hx40 hx HB6 hp2 hcn hcm hin hRA hmem
          go_wp2_with (with_reducible refine Bl.stop_load (ty := 34) ?_)
          refine Bl.go_on ?_
          refine Bl.wpL_load rfl Hld.out ?_
          go_wp2_with (with_reducible refine Bl.stop_store (ty := 34) ?_)
          refine Bl.go_on ?_
          refine Bl.wpL_store0 rfl rfl Hst.out ?_
          obtain ⟨W7, hW7⟩ : ∃ W7, W7 = (wr.alloc (.cells #[.int .i64 0, .int .u8 0, .int .u8 0, .int .u8 0, .int .u8 0, .int .u8 0, .int .u8 0, .int .u8 0, .int .u8 0, .int .u8 0, .int .u8 0, .int .u8 0, .int .u8 0, .int .u8 0, .int .u8 0, .int .u8 0, .int .u8 0, .int .u8 0, .int .u8 0, .int .u8 0, .int .u8 0, .int .u8 0, .int .u8 0, .int .u8 0, .int .u8 0, .int .u8 0, .int .u8 0, .int .u8 0, .int .u8 0, .int .u8 0, .int .u8 0, .int .u8 0, .int .u8 0, .slice none 0 0] 34)).setCells wr.heap.size 0 (Bl.cA x) := ⟨_, rfl⟩
          obtain ⟨X7, hX7⟩ : ∃ X7, X7 = wr.heap.size := ⟨_, rfl⟩
          rw [← hW7] at Hq0 Hq33 Hrt HXl Hxp HE7 ⊢
          rw [← hX7] at Hq0 Hq33 Hrt HXl ⊢
          clear hW7 hX7 Hst Hld
          have HLr : Hid (∀ w2, Bl.Ext W7 w2 → (Instr.loadAt 31 (.pointer (some ⟨X7, 1, none⟩))).run Tryd.prog w2 = .ok (.agg (Bl.ints .u8 x.2.1).toArray) w2) := Bl.hid fun w2 h2 => Bl.load_ints (Bl.rangeAt_ext Hrt.out h2) Tryd.underlying31 (by kernel_rfl) Hxd.out.1
          have HDg := Bl.hid (fun w2 (h2 : Bl.Ext W7 w2) => digests13_any x.2.2.1 x.2.2.2 w2 (Bl.Rds.ext Hxp.out h2) Hxg.out (by have := Hx40.out; omega))
          go_wp2_with fail
          apply Bl.wp_region_ev 8 [51, 52, 53, 54, 55, 56, 57, 58] [Bl.eqv _, Bl.eqv _, Bl.eqv _, Bl.eqv _, Bl.eqv _, Bl.eqv _, Bl.eqv _, (fun v w' => Bl.RdD w' v x.2.2.2)] (by kernel_rfl) (by kernel_rfl) (by kernel_rfl) (by kernel_rfl)
          case hsteps =>
            refine ⟨?_, ?_, ?_, ?_, ?_, ?_, ?_, ?_, trivial⟩
            all_goals
              intro ev w1 hext hb hd
              have e8 := hb 8 (by decide)
              have e12 := hb 12 (by decide)
              clear hb
              simp only [Array.getD_eq_getD_getElem?, List.getElem?_toArray, List.getElem?_cons_succ, List.getElem?_cons_zero, Option.getD_some] at e8 e12
              simp only [Bl.DepsE, List.getElem?_cons_succ, List.getElem?_cons_zero, Option.bind_some, List.getD_cons_succ, List.getD_cons_zero, Bl.eqv, and_true] at hd
              have hc := (Bl.bcell hext).1
              have q0 := (hc _ 0 HXl.out).trans Hq0.out
              have q33 := (hc _ 33 HXl.out).trans Hq33.out
              simp only [Bl.Good, Region.wanted, if_true]
              first
              | ((with_reducible refine Bl.goodR_load ?_ (HLr.out _ hext) ?_); exact hd; exact rfl)
              | (go_simp; first | (go_at_call 14; (with_reducible refine (HDg.out _ hext).mono ?_); rintro e w2 ⟨p9, c9, rfl, hown, hE2⟩; exact ⟨_, rfl, hE2, Bl.Rds.of_owns hown⟩) | exact ⟨Below.refl _ _, rfl⟩)
          case hmono => exact ⟨Bl.mono_eqv _, Bl.mono_eqv _, Bl.mono_eqv _, Bl.mono_eqv _, Bl.mono_eqv _, Bl.mono_eqv _, Bl.mono_eqv _, (fun _ _ _ h k => Bl.Rds.ext h k), trivial⟩
          case hend =>
            intro u w1 hext hend
            simp only [Bl.EndE, List.getElem?_cons_succ, List.getElem?_cons_zero, Option.bind_some, List.getD_cons_succ, List.getD_cons_zero, Bl.eqv, true_and] at hend
            simp only [Bl.fillAct, List.setIfInBounds_toArray, List.set_cons_succ, List.set_cons_zero, List.drop_succ_cons, List.drop_zero, hend]
            have HE8 := Bl.hid (HE7.out.trans hext)
            have HE48 := Bl.hid (HE.out.trans HE8.out)
            have HPr := Bl.hid hend.2
            clear hend hext
            go_wp2_with fail
            refine (dtake_any bb vb B x.1 x.2.1 (u 58) x.2.2.2 w4 w1 S a (HI.out.1.ext HE8.out) HI.out.2.1 (by have := HI.out.2.2.1; omega) Hxd.out HPr.out Hxg.out (He.out.ext (HE3.out.trans HE48.out)) (HS.out 1 (by decide) (by decide)) (HS.out 8 (by decide) (by decide)) (HS.out 15 (by decide) (by decide)) (HS.out 19 (by decide) (by decide)) (Hg.out.ext (HE3.out.trans HE48.out)) HE48.out Hbb.out.2 HI.out.2.2.2.1).mono ?_
            rintro e w9 ⟨rfl, vb', hD9, hv9, hA9⟩
            have HE9 : Hid (Bl.Ext w4 w9) := Bl.hid (Below.trans HE48.out (hA9.below HE48.out.size Hbb.out.2 HI.out.2.2.2.1))
            have HaL := Bl.hid (HI.out.2.2.2.2.2.2.ext HE8.out)
            have HI9 : Hid (Bl.Di w9 bb vb' (Bl.takeN B x.1 x.2.1 x.2.2.2) ∧ Bl.Ris (Bl.takeN B x.1 x.2.1 x.2.2.2) ∧ (Bl.takeN B x.1 x.2.1 x.2.2.2).length ≤ i + 1 ∧ (∀ j, vb'.ownBlock = some j → w4.heap.size ≤ j) ∧ some ba ≠ vb'.ownBlock ∧ (∀ j, va.ownBlock = some j → some j ≠ vb'.ownBlock) ∧ Bl.Di w9 ba va A) := Bl.hid
              ⟨hD9, HI.out.2.1.take _ _ _, by have := (Bl.takeN_len B x.1 x.2.1 x.2.2.2).1; have := HI.out.2.2.1; omega, fun j hj => (hv9 j hj).elim (HI.out.2.2.2.1 j) (Nat.le_trans HE48.out.size), fun q => by
                rcases hv9 ba q.symm with z | z
                · exact HI.out.2.2.2.2.1 z.symm
                · have := HaL.out.lt; omega, fun j hj q => by
                rcases hv9 j q.symm with z | z
                · exact HI.out.2.2.2.2.2.1 j hj z.symm
                · have := (HaL.out.pk.block j hj).2; omega, HaL.out.adds hA9 (by have := Hbb.out.1; omega) HI.out.2.2.2.2.1 Hva.out HI.out.2.2.2.2.2.1⟩
            clear hD9 hv9 hA9
            go_wp2_with fail
            go_roundw
            case rel => exact ⟨i + 1, vb', _, by omega, by go_num, HI9, HE9.out⟩
            case measure => simp [intOf]; omega
        · obtain rfl : i = n2 := by omega
          clear hlt hi
          have hBl : B.length ≤ 500 := by have := HI.out.2.2.1; omega
          have HDb := Bl.hid HI.out.1
          have HDa := Bl.hid HI.out.2.2.2.2.2.2
          have HrB := Bl.hid HI.out.2.1
          clear HI
          have HFk := Bl.hid (dfork_any ba bb va vb A B wr HDa.out HDb.out HrB.out hAl hBl)
          have HUn : Hid (Bl.agAll A ps = 0 → Bl.agAll B ps = 0 → Bl.forkS A B = 0 ∧ Bl.forkB A B = false) := Bl.hid fun h1 h2 => by
            have h := Bl.unforked HrB.out h1 h2
            unfold Bl.forkS Bl.forkB
            rw [h]; exact ⟨rfl, rfl⟩
          have HPo := Bl.hid (@Bl.fork_pos A B HrA.out)
          have HAa : Hid (∀ w2, Bl.Ext wr w2 → Calls Tryd.prog 24 #[.pointer (some ⟨ba, 0, none⟩), vl] w2 fun e w' => e = .returned (errN a (Bl.agAll A ps)) ∧ Bl.Ext w2 w') := Bl.hid fun w2 h2 =>
            dagrees_any ba va A vl ps w2 S a (HDa.out.ext h2) HrA.out hAl (HR.out.ext (HE3.out.trans (HE.out.trans h2))) Hby.out (fun q hq => by have := H200.out q hq; omega) (by have := H30.out; omega) (He.out.ext (HE3.out.trans (HE.out.trans h2))) (HS.out 2 (by decide) (by decide)) (HS.out 15 (by decide) (by decide)) (Hg.out.ext (HE3.out.trans (HE.out.trans h2)))
          have HAb : Hid (∀ w2, Bl.Ext wr w2 → Calls Tryd.prog 24 #[.pointer (some ⟨bb, 0, none⟩), vl] w2 fun e w' => e = .returned (errN a (Bl.agAll B ps)) ∧ Bl.Ext w2 w') := Bl.hid fun w2 h2 =>
            dagrees_any bb vb B vl ps w2 S a (HDb.out.ext h2) HrB.out hBl (HR.out.ext (HE3.out.trans (HE.out.trans h2))) Hby.out (fun q hq => by have := H200.out q hq; omega) (by have := H30.out; omega) (He.out.ext (HE3.out.trans (HE.out.trans h2))) (HS.out 2 (by decide) (by decide)) (HS.out 15 (by decide) (by decide)) (Hg.out.ext (HE3.out.trans (HE.out.trans h2)))
          obtain ⟨fs, hfs⟩ : ∃ fs, fs = Bl.forkS A B := ⟨_, rfl⟩
          obtain ⟨fb, hfb⟩ : ∃ fb, fb = Bl.forkB A B := ⟨_, rfl⟩
          obtain ⟨K1, hK1⟩ : ∃ K1, K1 = Bl.agAll A ps := ⟨_, rfl⟩
          obtain ⟨K2, hK2⟩ : ∃ K2, K2 = Bl.agAll B ps := ⟨_, rfl⟩
          rw [← hfs, ← hfb] at HFk HUn HPo
          rw [← hK1] at HAa HUn
          rw [← hK2] at HAb HUn
          clear hfs hfb hK1 hK2 HDa HDb
          go_wp2_with fail
          refine HFk.out.mono ?_
          rintro e w9 ⟨rfl, hE9⟩
          have HE9 := Bl.hid hE9
          clear hE9
          go_wp2_with fail
          refine (HAa.out w9 HE9.out).mono ?_
          rintro e w10 ⟨rfl, hE10⟩
          have HE10 := Bl.hid (HE9.out.trans hE10)
          clear hE10
          by_cases hk1 : K1 = 0
          · subst hk1
            rw [errN_zero]
            go_wp2_with fail
            refine (HAb.out w10 HE10.out).mono ?_
            rintro e w11 ⟨rfl, hE11⟩
            have HE11 := Bl.hid (HE3.out.trans (HE.out.trans (HE10.out.trans hE11)))
            clear hE11
            by_cases hk2 : K2 = 0
            · subst hk2
              rw [errN_zero]
              obtain ⟨rfl, rfl⟩ := HUn.out (by trivial) (by trivial)
              go_wp2_with fail
              go_ret
              exact ⟨rfl, HE11.out⟩
            · rw [errN_pos a K2 hk2]
              clear hk2 HUn
              by_cases hf : 0 < fs
              · obtain rfl : fb = true := by rw [HPo.out]; exact decide_eq_true hf
                have hfi : (0 : Int) < (fs : Int) := by omega
                go_wp2_with fail
                go_ret
                exact ⟨rfl, HE11.out⟩
              · obtain rfl : fb = false := by rw [HPo.out]; exact decide_eq_false hf
                obtain rfl : fs = 0 := by omega
                go_wp2_with fail
                go_ret
                exact ⟨rfl, HE11.out⟩
          · rw [errN_pos a K1 hk1]
            have HE11 := Bl.hid (HE3.out.trans (HE.out.trans HE10.out))
            clear hk1 HUn
            by_cases hf : 0 < fs
            · obtain rfl : fb = true := by rw [HPo.out]; exact decide_eq_true hf
              have hfi : (0 : Int) < (fs : Int) := by omega
              go_wp2_with fail
              go_ret
              exact ⟨rfl, HE11.out⟩
            · obtain rfl : fb = false := by rw [HPo.out]; exact decide_eq_false hf
              obtain rfl : fs = 0 := by omega
              go_wp2_with fail
              go_ret
              exact ⟨rfl, HE11.out⟩
end Go.Proofs.YtmfooocdnoflaaaDoor

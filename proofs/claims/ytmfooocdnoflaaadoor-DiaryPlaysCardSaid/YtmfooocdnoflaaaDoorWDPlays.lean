/- Walk of the law DiaryPlays. -/
import Derived.Test.YtmfooocdnoflaaaDoorDia2
import Derived.Test.YtmfooocdnoflaaaDoorRv0
import Derived.Test.YtmfooocdnoflaaaDoorDia3
import Derived.Test.YtmfooocdnoflaaaDoorNm0
import Derived.Test.YtmfooocdnoflaaaDoorWShows
namespace Go.Proofs.Bl
open Go Go.RowKit
theorem Dm.share {w : World} {b : Nat} {v : Value} {N : List Nt} (h : Dm w b v N) (hk : ∀ k, v.ownBlock = some k → k < w.heap.size) (e : TypeId) : Dm (w.alloc (.cells #[v] e)) w.heap.size v N := by
  have hE := ext_alloc w (.cells #[v] e)
  refine ⟨by rw [World.cell?_alloc_new]; rfl, by simp, ?_, h.dig⟩
  rcases h.rd with h1 | ⟨g, o, c, h1, h2, h3, hne, h4⟩
  · exact .inl h1
  · exact .inr ⟨g, o, c, h1, h2, h3, Nat.ne_of_lt (hk g (by rw [h1]; rfl)), fun j x hx => ((bcell hE).1 _ _ (World.block_lt_of_cell? _ _ (h4 j x hx))).trans (h4 j x hx)⟩
theorem Dm.own {w : World} {b : Nat} {v : Value} {N : List Nt} (h : Dm w b v N) : v.ownBlock ≠ some b := fun hk => by
  rcases h.rd with ⟨h1, _, _⟩ | ⟨g, o, c, h1, _, _, hne, _⟩
  · rw [h1] at hk; cases hk
  · rw [h1] at hk; injection hk with hk; exact hne hk
theorem PJ.ex2 {i1 i2 base ba bm : Nat} {W : World} {va0 vm0 : Value} {N N' : List Nt} {d : Nat → Bool} {u : Nat → Value} {w : World} (h : PJ i1 i2 base ba bm W va0 vm0 N N' d u w) (h8 : d i1 = true) (h17 : d i2 = true) : ∃ va vm, Di w ba va N' ∧ Dm w bm vm N' := by
  obtain ⟨va, vm, h1, h2, _⟩ := h.done h8 h17
  exact ⟨va, vm, h1, h2⟩
end Go.Proofs.Bl
namespace Go.Proofs.YtmfooocdnoflaaaDoor
open Go Go.RowKit Go.Proofs

set_option maxRecDepth 100000 in
set_option maxHeartbeats 40000000 in
theorem dplays_all (v1 : Value) (L1 : List Bl.Ac) (size : Int) (w : World) (S : List Nat) (a : Nat → Addr) (h1 : Bl.RdA w v1 L1) (hg : GlobR w) (hS : ∀ i, 1 ≤ i → i ≤ 20 → i ∈ S) (he : Errs S a w) :
    Calls Tryd.prog 3 #[v1, .int .i64 size] w fun e w' => e = .returned (.bool true) ∧ Bl.Ext w w' := by
  obtain ⟨p1, c1, hf1, hn1, hc1⟩ := h1.rd.form
  subst hf1
  unfold maxLen at hc1
  have H1 := Bl.hid h1
  have Hg := Bl.hid hg
  have HS := Bl.hid hS
  have He := Bl.hid he
  obtain ⟨n1, hnn1⟩ : ∃ n1, n1 = L1.length := ⟨_, rfl⟩
  have Hn1 := Bl.hid hnn1
  rw [← hnn1] at H1 hn1 ⊢
  clear h1 hg hS he hnn1
  go_enter Tryd.func3, Tryd.ntmps3
  go_wp2_with fail
  refine (alive39 w S a He.out HS.out Hg.out.s).mono ?_
  rintro e w1 ⟨rfl, hE1⟩
  have HE1 := Bl.hid hE1
  clear hE1
  go_wp2_with fail
  refine (longA_any _ L1 w1 (H1.out.ext HE1.out)).mono ?_
  rintro e w4 ⟨(rfl | ⟨rfl, hl1, hq1⟩), hE2⟩
  · go_wp2_with fail
    go_ret
    exact ⟨rfl, HE1.out.trans hE2⟩
  have HE3 := Bl.hid (HE1.out.trans hE2)
  have Hq1 := Bl.hid hq1
  have hl1' : n1 ≤ 30 := by rw [Hn1.out]; exact hl1
  have Hw4 : Hid (w.heap.size ≤ w4.heap.size) := Bl.hid HE3.out.size
  clear hE2 hq1 HE1 hl1
  go_wp2_with fail
  refine (dnew_any w4).mono ?_
  rintro e w5 ⟨rfl, hD5, hE5⟩
  obtain ⟨ba, hba⟩ : ∃ ba, ba = w4.heap.size := ⟨_, rfl⟩
  rw [← hba] at hD5 ⊢
  have HDm := Bl.hid (Bl.Dm.new w5 30)
  have HDa := Bl.hid (hD5.ext (Bl.ext_alloc w5 (.cells #[.slice none 0 0] 30)))
  have HE6 : Hid (Bl.Ext w4 (w5.alloc (.cells #[.slice none 0 0] 30))) := Bl.hid (hE5.trans (Bl.ext_alloc _ _))
  have HAp : Hid (Bl.Apt w4.heap.size ba w5.heap.size (w5.alloc (.cells #[.slice none 0 0] 30)) (.slice none 0 0) (.slice none 0 0)) := Bl.hid
    ⟨HDa.out.lt, HDm.out.lt, by omega, hE5.size, Nat.ne_of_lt hD5.lt, fun k hk => (by cases hk), fun k hk => (by cases hk)⟩
  clear hD5 hE5 hba
  go_wp2_with fail
  obtain ⟨W6, hW6⟩ : ∃ W6, W6 = w5.alloc (.cells #[.slice none 0 0] 30) := ⟨_, rfl⟩
  obtain ⟨bm, hbm⟩ : ∃ bm, bm = w5.heap.size := ⟨_, rfl⟩
  rw [← hW6] at HDm HDa HE6 HAp ⊢
  rw [← hbm] at HDm HAp ⊢
  clear hW6 hbm
  go_loopw [26] (fun x wr => ∃ (i : Nat) (va vm : Value) (A : List Bl.Nt), i ≤ n1 ∧ x = .int .i64 i ∧ Hid (Bl.Di wr ba va A ∧ Bl.Dm wr bm vm A ∧ Bl.Ris A ∧ A.length ≤ i ∧ Bl.Apt w4.heap.size ba bm wr va vm) ∧ Bl.Ext w4 wr) (fun x _ => n1 - (intOf x).toNat)
  case atStart => exact ⟨0, _, _, [], Nat.zero_le _, rfl, Bl.hid ⟨HDa.out, HDm.out, Bl.Ris.nil, Nat.le_refl _, HAp.out⟩, HE6.out⟩
  case round =>
    obtain ⟨i, va, vm, A, hi, rfl, HI, hE⟩ := hrel
    have HE := Bl.hid hE
    clear hE
    by_cases hlt : i < n1
    ·
      have hin : i < L1.length := by rw [← Hn1.out]; exact hlt
      have HEr := Bl.hid (HE3.out.trans HE.out)
      have HAP0 := Bl.hid (HI.out.2.2.2.2)
      have hRA := H1.out.ext HEr.out
      obtain ⟨g, o, cc, hpe, hcn, hcm, hgl, hel⟩ := hRA.pos (by omega)
      injection hpe with hp1 hp2 hp3
      subst hp1 hp3
      have hrg := hel i hin
      have hmem := Bl.getD_mem Bl.a0 hin
      obtain ⟨hxd, hxb, hxp, hxg⟩ := H1.out.ok _ hmem
      have hx40 := Hq1.out _ hmem
      obtain ⟨x, hx⟩ : ∃ x, x = L1.getD i Bl.a0 := ⟨_, rfl⟩
      rw [← hx] at hrg hxd hxb hxp hxg hx40
      have Hld := Bl.hid (run_loadAt_mid (P := Tryd.prog) wr g (o + i * 34) 34 _ _ hrg Tryd.underlying34 rfl (by rw [Bl.cA_len hxd]; kernel_rfl))
      obtain ⟨hB6, hE7⟩ := Bl.BoxC.fresh (cs := Bl.cA x) wr 34 #[.int .i64 0, .int .u8 0, .int .u8 0, .int .u8 0, .int .u8 0, .int .u8 0, .int .u8 0, .int .u8 0, .int .u8 0, .int .u8 0, .int .u8 0, .int .u8 0, .int .u8 0, .int .u8 0, .int .u8 0, .int .u8 0, .int .u8 0, .int .u8 0, .int .u8 0, .int .u8 0, .int .u8 0, .int .u8 0, .int .u8 0, .int .u8 0, .int .u8 0, .int .u8 0, .int .u8 0, .int .u8 0, .int .u8 0, .int .u8 0, .int .u8 0, .int .u8 0, .int .u8 0, .slice none 0 0] (by rw [Bl.cA_len hxd]; rfl) (Bl.cA_ne x)
      have Hst := Bl.hid (Bl.fresh_store (P := Tryd.prog) (cs := Bl.cA x) wr 34 #[.int .i64 0, .int .u8 0, .int .u8 0, .int .u8 0, .int .u8 0, .int .u8 0, .int .u8 0, .int .u8 0, .int .u8 0, .int .u8 0, .int .u8 0, .int .u8 0, .int .u8 0, .int .u8 0, .int .u8 0, .int .u8 0, .int .u8 0, .int .u8 0, .int .u8 0, .int .u8 0, .int .u8 0, .int .u8 0, .int .u8 0, .int .u8 0, .int .u8 0, .int .u8 0, .int .u8 0, .int .u8 0, .int .u8 0, .int .u8 0, .int .u8 0, .int .u8 0, .int .u8 0, .slice none 0 0] (by rw [Bl.cA_len hxd]; rfl) (Bl.cA_one hxp) (ty := 34) (by rw [Bl.cA_len hxd]; kernel_rfl))
      have HB7 := Bl.hid hB6
      have HE7 := Bl.hid hE7
      have Hxp := Bl.hid hxp
      have Hxd := Bl.hid (And.intro hxd hxb)
      have Hxg := Bl.hid hxg
      have Hx40 := Bl.hid hx40
      have hi0 : (0 : Int) ≤ (i : Int) := by omega
      have hi1 : (i : Int) < (n1 : Int) := by omega
      clear hel hrg hxd hxb hxp hxg hx40 hx hB6 hE7 hp2 hcn hcm hin hRA hmem
      go_wp2_with (with_reducible refine Bl.stop_load (ty := 34) ?_)
      refine Bl.go_on ?_
      refine Bl.wpL_load rfl Hld.out ?_
      go_wp2_with (with_reducible refine Bl.stop_store (ty := 34) ?_)
      refine Bl.go_on ?_
      refine Bl.wpL_store0 rfl rfl Hst.out ?_
      obtain ⟨W7, hW7⟩ : ∃ W7, W7 = (wr.alloc (.cells #[.int .i64 0, .int .u8 0, .int .u8 0, .int .u8 0, .int .u8 0, .int .u8 0, .int .u8 0, .int .u8 0, .int .u8 0, .int .u8 0, .int .u8 0, .int .u8 0, .int .u8 0, .int .u8 0, .int .u8 0, .int .u8 0, .int .u8 0, .int .u8 0, .int .u8 0, .int .u8 0, .int .u8 0, .int .u8 0, .int .u8 0, .int .u8 0, .int .u8 0, .int .u8 0, .int .u8 0, .int .u8 0, .int .u8 0, .int .u8 0, .int .u8 0, .int .u8 0, .int .u8 0, .slice none 0 0] 34)).setCells wr.heap.size 0 (Bl.cA x) := ⟨_, rfl⟩
      obtain ⟨X7, hX7⟩ : ∃ X7, X7 = wr.heap.size := ⟨_, rfl⟩
      rw [← hW7] at HB7 HE7 ⊢
      rw [← hX7] at HB7 ⊢
      have HX7 := Bl.hid hX7
      clear hW7 hX7 Hst Hld
      have HE48 := Bl.hid (HE.out.trans HE7.out)
      have HAp7 := Bl.hid (HAP0.out.ext HE7.out.size)
      have HDi7 := Bl.hid (HI.out.1.ext HE7.out)
      have HDm7 := Bl.hid (HI.out.2.1.ext HE7.out)
      have HX : Hid (X7 < W7.heap.size ∧ X7 ≠ ba ∧ X7 ≠ bm ∧ va.ownBlock ≠ some X7) := Bl.hid ⟨HB7.out.lt, by have := HAP0.out.la; rw [HX7.out]; omega, by have := HAP0.out.lm; rw [HX7.out]; omega, fun q => by have := (HAP0.out.oa X7 q).2.1; rw [HX7.out] at this; omega⟩
      have HEw7 := Bl.hid (HE3.out.trans HE48.out)
      have hAi : A.length ≤ 30 := by have := HI.out.2.2.2.1; omega
      have hAl : A.length ≤ 500 := by omega
      go_wp2_with fail
      refine (dcopy_any ba va A W7 HDi7.out (by omega)).mono ?_
      rintro e w8 ⟨bc, vc, rfl, hbc, hvc, hDc, hE8⟩
      have hDm8 := HDm7.out.ext hE8
      obtain ⟨pm, cm, hmf, hmn, hmc⟩ := hDm8.rd.rds.form
      subst hmf
      have hm0 := hDm8.c0
      have HDw := Bl.hid (hDm8.share (fun k hk => Nat.lt_of_lt_of_le (HAp7.out.om k hk).2.1 hE8.size) 30)
      have hE9a := Bl.ext_alloc w8 (.cells #[.slice pm A.length cm] 30)
      have HE9 := Bl.hid (hE8.trans hE9a)
      have HDc := Bl.hid (hDc.ext hE9a)
      have HDm9 := Bl.hid (hDm8.ext hE9a)
      have HKp : Hid (∀ k, (k = bc ∨ k = w8.heap.size ∨ vc.ownBlock = some k ∨ (Value.slice pm A.length cm).ownBlock = some k) → k < (w8.alloc (.cells #[.slice pm A.length cm] 30)).heap.size ∧ k ≠ ba ∧ k ≠ bm ∧ va.ownBlock ≠ some k) := Bl.hid (by
        have hs : (w8.alloc (.cells #[.slice pm A.length cm] 30)).heap.size = w8.heap.size + 1 := World.size_alloc _ _
        have h78 := hE8.size
        have hla := HAp7.out.la
        have hlm := HAp7.out.lm
        rintro k (rfl | rfl | hk | hk)
        · have := hDc.lt
          exact ⟨by omega, by omega, by omega, fun q => by have := (HAp7.out.oa _ q).2.1; omega⟩
        · exact ⟨by omega, by omega, by omega, fun q => by have := (HAp7.out.oa _ q).2.1; omega⟩
        · have h1 := hvc k hk
          have h2 := (hDc.pk.block k hk).2
          exact ⟨by omega, by omega, by omega, fun q => by have := (HAp7.out.oa _ q).2.1; omega⟩
        · have h1 := HAp7.out.om k hk
          exact ⟨by omega, h1.2.2.1, fun q => hDm8.own (by rw [← q]; exact hk), h1.2.2.2⟩)
      have HEg := Bl.hid hE8
      clear hbc hvc hDc hE8 hE9a hDm8
      go_wp2_with fail
      clear hm0
      obtain ⟨W9, hW9⟩ : ∃ W9, W9 = w8.alloc (.cells #[.slice pm A.length cm] 30) := ⟨_, rfl⟩
      obtain ⟨bw, hbw⟩ : ∃ bw, bw = w8.heap.size := ⟨_, rfl⟩
      rw [← hW9] at HDw HE9 HDc HDm9 HKp ⊢
      rw [← hbw] at HDw HKp ⊢
      clear hW9 hbw
      have HAp9 := Bl.hid (HAp7.out.ext HE9.out.size)
      have HDi9 := Bl.hid (HDi7.out.ext HE9.out)
      have HB9 := Bl.hid (HB7.out.ext HE9.out)
      have HE49 := Bl.hid (HE48.out.trans HE9.out)
      have HEw9 := Bl.hid (HE3.out.trans HE49.out)
      have Hbs : Hid (w4.heap.size ≤ W9.heap.size) := Bl.hid HE49.out.size
      replace HX : Hid (X7 < W9.heap.size ∧ X7 ≠ ba ∧ X7 ≠ bm ∧ va.ownBlock ≠ some X7) := Bl.hid ⟨Nat.lt_of_lt_of_le HX.out.1 HE9.out.size, HX.out.2⟩
      have HSw : Hid (∀ w1, (∃ va' vm', Bl.Di w1 ba va' (Bl.takeN A x.1 x.2.1 x.2.2.2) ∧ Bl.Dm w1 bm vm' (Bl.takeN A x.1 x.2.1 x.2.2.2)) → Calls Tryd.prog 16 #[.pointer (some ⟨ba, 0, none⟩), .pointer (some ⟨bm, 0, none⟩)] w1 fun e w' => e = .returned (.bool true) ∧ Bl.Ext w1 w') := Bl.hid (by
        rintro w1 ⟨va', vm', h1, h2⟩
        exact shows_any ba bm va' vm' _ w1 h1 h2 (by have := (Bl.takeN_len A x.1 x.2.1 x.2.2.2).1; omega))
      have HSc : Hid (∀ w1, Bl.Kp w4.heap.size ba bm W9 va W9 w1 → Calls Tryd.prog 16 #[.pointer (some ⟨bc, 0, none⟩), .pointer (some ⟨bw, 0, none⟩)] w1 fun e w' => e = .returned (.bool true) ∧ Bl.Ext w1 w') := Bl.hid fun w1 h => by
        have hk : ∀ k, (k = bc ∨ k = bw ∨ vc.ownBlock = some k ∨ (Value.slice pm A.length cm).ownBlock = some k) → w1.heap[k]? = W9.heap[k]? := fun k hk => by
          obtain ⟨q1, q2, q3, q4⟩ := HKp.out k hk
          exact h.kp k q1 q2 q3 q4
        exact shows_any bc bw vc _ A w1 (HDc.out.kept (hk bc (.inl rfl)) (fun k q => hk k (.inr (.inr (.inl q)))) h.bl.size) (HDw.out.kept (hk bw (.inr (.inl rfl))) (fun k q => hk k (.inr (.inr (.inr q))))) hAl
      have HK20 := Bl.hid (Bl.takeE_le A x.1 x.2.1 x.2.2.2)
      obtain ⟨K, hK⟩ : ∃ K, K = Bl.takeE A x.1 x.2.1 x.2.2.2 := ⟨_, rfl⟩
      rw [← hK] at HK20
      have HK := Bl.hid hK
      clear hK
      have HTa : Hid (∀ w1 v, Bl.Ext w w1 → Bl.Ext w4 w1 → Bl.Di w1 ba va A → Bl.RdD w1 v x.2.2.2 → Calls Tryd.prog 13 #[.pointer (some ⟨ba, 0, none⟩), .int .i64 x.1, .agg (Bl.ints .u8 x.2.1).toArray, v] w1 fun e w' => e = .returned (errN a K) ∧ ∃ v', Bl.Di w' ba v' (Bl.takeN A x.1 x.2.1 x.2.2.2) ∧ (∀ k, v'.ownBlock = some k → va.ownBlock = some k ∨ w1.heap.size ≤ k) ∧ Bl.Adds w1 w' ba va.ownBlock) := Bl.hid fun w1 v h1 h2 h3 h4 => by
        rw [HK.out]
        exact dtake_any ba va A x.1 x.2.1 v x.2.2.2 w4 w1 S a h3 HI.out.2.2.1 (by have := HI.out.2.2.2.1; omega) Hxd.out h4 Hxg.out (He.out.ext h1) (HS.out 1 (by decide) (by decide)) (HS.out 8 (by decide) (by decide)) (HS.out 15 (by decide) (by decide)) (HS.out 19 (by decide) (by decide)) (Hg.out.ext h1).s h2 HAp9.out.fa (fun k hk => (HAp9.out.oa k hk).1)
      have HTm : Hid (∀ w1, Bl.Ext w w1 → Bl.Dm w1 bm (.slice pm A.length cm) A → Calls Tryd.prog 15 #[.pointer (some ⟨bm, 0, none⟩), .int .i64 x.1, .agg (Bl.ints .u8 x.2.1).toArray, x.2.2.1] w1 fun e w' => e = .returned (.int .i64 (K : Nat)) ∧ (∃ v', Bl.Dm w' bm v' (Bl.takeN A x.1 x.2.1 x.2.2.2) ∧ ∀ k, v'.ownBlock = some k → (Value.slice pm A.length cm).ownBlock = some k ∨ (w1.heap.size ≤ k ∧ k < w'.heap.size)) ∧ Bl.Adds w1 w' bm none) := Bl.hid fun w1 h1 h3 => by
        rw [HK.out]
        exact mtake_any bm _ A x.1 x.2.1 x.2.2.1 x.2.2.2 w1 h3 (by have := HI.out.2.2.2.1; omega) Hxd.out (Bl.Rds.ext Hxp.out h1) Hxg.out (Hg.out.ext h1)
      have HDg := Bl.hid (fun w1 (h1 : Bl.Ext w w1) => digests13_any x.2.2.1 x.2.2.2 w1 (Bl.Rds.ext Hxp.out h1) Hxg.out (by have := Hx40.out; omega))
      have Hlm : Hid (bm < W9.heap.size) := Bl.hid HAp9.out.lm
      go_wp2_with fail
      apply Bl.wp_region_evK (Bl.Kp w4.heap.size ba bm W9 va) (Bl.PD 10 48 11 20 w4.heap.size ba bm W9 va (.slice pm A.length cm) A (Bl.takeN A x.1 x.2.1 x.2.2.2) x.2.2.2.length (Bl.cellsD x.2.2.2)) 35 [38, 39, 40, 41, 42, 43, 44, 45, 46, 47, 48, 49, 50, 51, 52, 53, 54, 55, 56, 57, 58, 59, 60, 61, 62, 63, 64, 65, 66, 67, 68, 69, 70, 71, 72] [Bl.eqv _, Bl.eqv _, Bl.eqv _, Bl.eqv _, Bl.eqv _, Bl.eqv _, Bl.eqv _, Bl.eqv _, Bl.eqv _, Bl.eqv _, Bl.anyv, Bl.eqv _, Bl.eqv _, Bl.eqv _, Bl.eqv _, Bl.eqv _, Bl.eqv _, Bl.eqv _, Bl.eqv _, Bl.eqv _, Bl.eqv _, Bl.eqv _, Bl.eqv _, Bl.eqv _, Bl.eqv _, Bl.eqv _, Bl.eqv _, Bl.eqv _, Bl.eqv _, Bl.eqv _, Bl.eqv _, Bl.eqv _, Bl.eqv _, Bl.eqv _, Bl.eqv _] (fun w => Bl.Kp.refl w) (fun a b c h k => Bl.Kp.trans h k) (by kernel_rfl) (by kernel_rfl) (by kernel_rfl) (by kernel_rfl)
      case hsteps =>
        refine ⟨?_, ?_, ?_, ?_, ?_, ?_, ?_, ?_, ?_, ?_, ?_, ?_, ?_, ?_, ?_, ?_, ?_, ?_, ?_, ?_, ?_, ?_, ?_, ?_, ?_, ?_, ?_, ?_, ?_, ?_, ?_, ?_, ?_, ?_, ?_, trivial⟩
        all_goals
          intro d ev w1 hext HJd Hanc Hdes hni hb hd
          replace Hanc := Bl.hid Hanc
          replace HJd := Bl.hid HJd
          replace Hdes := Bl.hid Hdes
          replace hni := Bl.hid hni
          have e5 := hb 5 (by decide)
          have e6 := hb 6 (by decide)
          have e8 := hb 8 (by decide)
          have e9 := hb 9 (by decide)
          have e10 := hb 10 (by decide)
          clear hb
          simp only [Array.getD_eq_getD_getElem?, List.getElem?_toArray, List.getElem?_cons_succ, List.getElem?_cons_zero, Option.getD_some] at e5 e6 e8 e9 e10
          simp only [Bl.DepsE2, List.getElem?_cons_succ, List.getElem?_cons_zero, Option.bind_some, List.getD_cons_succ, List.getD_cons_zero, Bl.eqv, and_true] at hd
          have hxw : Bl.Ext w w1 := Below.trans HEw9.out (Below.mono hext.bl Hw4.out)
          have h4w : Bl.Ext w4 w1 := Below.trans HE49.out hext.bl
          have hbx := HB9.out.same (hext.kp X7 HX.out.1 HX.out.2.1 HX.out.2.2.1 HX.out.2.2.2)
          have q0 := hbx.cell (Bl.cA_size x)
          have q33 := hbx.cell (Bl.cA_proof Hxd.out.1)
          simp only [Region.wanted, Bl.yieldE, List.getElem?_cons_succ, List.getElem?_cons_zero, Option.bind_some, hd, beq_self_eq_true, if_true]
          first
          | ((with_reducible refine Bl.goodX_load (fun w => Bl.Kp.refl w) ?_ (Bl.load_ints (P := Tryd.prog) (ty := 31) (Bl.cA_rt hbx Hxd.out.1) Tryd.underlying31 (by kernel_rfl) Hxd.out.1) ?_); exact (by first | exact hd | exact hd.2 | exact hd.1.2 | exact hd.1.1.2 | exact hd.1.1.1.2 | exact hd.1.1.1.1.2 | exact hd.1.1.1.1.1.2 | exact hd.1.1.1.1.1.1.2 | exact hd.1.1.1.1.1.1.1.2 | exact hd.1.1.1.1.1.1.1.1.2 | exact hd.1.1.1.1.1.1.1.1.1.2 | exact hd.1.1.1.1.1.1.1.1.1.1.2 | exact hd.1.1.1.1.1.1.1.1.1.1.1.2 | exact hd.1.1.1.1.1.1.1.1.1.1.1.1.2 | exact hd.1.1.1.1.1.1.1.1.1.1.1.1.1.2 | exact hd.1 | exact hd.1.1 | exact hd.1.1.1 | exact hd.1.1.1.1 | exact hd.1.1.1.1.1 | exact hd.1.1.1.1.1.1 | exact hd.1.1.1.1.1.1.1 | exact hd.1.1.1.1.1.1.1.1 | exact hd.1.1.1.1.1.1.1.1.1 | exact hd.1.1.1.1.1.1.1.1.1.1 | exact hd.1.1.1.1.1.1.1.1.1.1.1 | exact hd.1.1.1.1.1.1.1.1.1.1.1.1 | exact hd.1.1.1.1.1.1.1.1.1.1.1.1.1 | exact hd.2.1 | exact hd.2.2.1 | exact hd.2.2.2.1 | exact hd.2.2.2.2.1 | exact hd.2.2.2.2.2.1 | exact hd.2.2.2.2.2.2.1 | exact hd.2.2.2.2.2.2.2.1 | exact hd.2.2.2.2.2.2.2.2.1 | exact hd.2.2.2.2.2.2.2.2.2.1 | exact hd.2.2.2.2.2.2.2.2.2.2.1 | exact hd.2.2.2.2.2.2.2.2.2.2.2.1 | exact hd.2.2.2.2.2.2.2.2.2.2.2.2.1 | exact hd.2.2.2.2.2.2.2.2.2.2.2.2.2.1); exact ⟨rfl, HJd.out.same (by decide)⟩)
          | (go_simp; first | exact ⟨Bl.Kp.refl _, rfl, HJd.out.same (by decide)⟩ | exact ⟨Bl.Kp.refl _, HJd.out.same (by decide)⟩ | (go_at_call 14; (with_reducible refine (HDg.out w1 hxw).mono ?_); rintro e w2 ⟨p9, c9, rfl, hown, hE2⟩; exact ⟨_, rfl, HJd.out.p.kp hE2, trivial, HJd.out.dig hE2 (by decide) (Bl.RdsX.of_owns hown (fun q => by have := (hown.lt _ q).1; have := HJd.out.p.le; have := Hlm.out; omega))⟩) | (go_at_call 13; (with_reducible refine (HTa.out w1 _ hxw h4w (HJd.out.p.di hni.out) (HJd.out.r (Hanc.out 10 (by kernel_rfl)) hni.out).rds).mono ?_); rintro e w2 ⟨rfl, va', hD9, hv9, hA9⟩; have h5 := HJd.out.take1 (t := 49) (v := errN a K) (by decide) hni.out hD9 hv9 hA9; exact ⟨_, rfl, h5.1, rfl, h5.2⟩) | (go_at_call 12; (with_reducible refine (num_errN S a w1 K HS.out (He.out.ext hxw) HK20.out).mono ?_); rintro e w2 ⟨rfl, hE2⟩; exact ⟨_, rfl, HJd.out.p.kp hE2, rfl, HJd.out.step hE2 (by decide)⟩) | (go_at_call 15; (with_reducible refine (HTm.out w1 hxw (HJd.out.p.dm hni.out)).mono ?_); rintro e w2 ⟨rfl, ⟨vm', hD9, hv9⟩, hA9⟩; have h5 := HJd.out.take2 (t := 58) (v := .int .i64 (K : Nat)) (by decide) hni.out hD9 hv9 hA9; exact ⟨_, rfl, h5.1, rfl, h5.2⟩) | (go_at_call 16; (with_reducible refine (HSw.out w1 (Bl.PJ.ex2 HJd.out.p (Hanc.out 11 (by kernel_rfl)) (Hanc.out 20 (by kernel_rfl)))).mono ?_); rintro e w2 ⟨rfl, hE2⟩; exact ⟨_, rfl, HJd.out.p.kp hE2, rfl, HJd.out.step hE2 (by decide)⟩) | (go_at_call 16; (with_reducible refine (HSc.out w1 hext).mono ?_); rintro e w2 ⟨rfl, hE2⟩; exact ⟨_, rfl, HJd.out.p.kp hE2, rfl, HJd.out.step hE2 (by decide)⟩) | exact ⟨Below.refl _ _, rfl, Bl.HJ.same (by decide) HJd.out⟩)
      case hmono => exact ⟨Bl.monoR_eqv _, Bl.monoR_eqv _, Bl.monoR_eqv _, Bl.monoR_eqv _, Bl.monoR_eqv _, Bl.monoR_eqv _, Bl.monoR_eqv _, Bl.monoR_eqv _, Bl.monoR_eqv _, Bl.monoR_eqv _, Bl.monoR_anyv, Bl.monoR_eqv _, Bl.monoR_eqv _, Bl.monoR_eqv _, Bl.monoR_eqv _, Bl.monoR_eqv _, Bl.monoR_eqv _, Bl.monoR_eqv _, Bl.monoR_eqv _, Bl.monoR_eqv _, Bl.monoR_eqv _, Bl.monoR_eqv _, Bl.monoR_eqv _, Bl.monoR_eqv _, Bl.monoR_eqv _, Bl.monoR_eqv _, Bl.monoR_eqv _, Bl.monoR_eqv _, Bl.monoR_eqv _, Bl.monoR_eqv _, Bl.monoR_eqv _, Bl.monoR_eqv _, Bl.monoR_eqv _, Bl.monoR_eqv _, Bl.monoR_eqv _, trivial⟩
      case hR0 => exact Bl.Kp.drew _
      case hend =>
        intro u w1 hext hJ hend
        simp only [Bl.EndE, List.getElem?_cons_succ, List.getElem?_cons_zero, Option.bind_some, List.getD_cons_succ, List.getD_cons_zero, Bl.eqv, true_and] at hend
        simp only [Bl.fillAct, List.setIfInBounds_toArray, List.set_cons_succ, List.set_cons_zero, List.drop_succ_cons, List.drop_zero, hend]
        obtain ⟨va', vm', hDa', hDm', hAp', hoa', hom'⟩ := hJ.p.done rfl rfl
        have HE9' : Hid (Bl.Ext w4 w1) := Bl.hid (Below.trans HE49.out hext.bl)
        have HI9 : Hid (Bl.Di w1 ba va' (Bl.takeN A x.1 x.2.1 x.2.2.2) ∧ Bl.Dm w1 bm vm' (Bl.takeN A x.1 x.2.1 x.2.2.2) ∧ Bl.Ris (Bl.takeN A x.1 x.2.1 x.2.2.2) ∧ (Bl.takeN A x.1 x.2.1 x.2.2.2).length ≤ i + 1 ∧ Bl.Apt w4.heap.size ba bm w1 va' vm') := Bl.hid
          ⟨hDa', hDm', HI.out.2.2.1.take _ _ _, by have := (Bl.takeN_len A x.1 x.2.1 x.2.2.2).1; have := HI.out.2.2.2.1; omega, hAp'⟩
        have hbx := HB9.out.same (hext.kp X7 HX.out.1 HX.out.2.1 HX.out.2.2.1 HX.out.2.2.2)
        have q0 := hbx.cell (Bl.cA_size x)
        obtain ⟨N', hN'⟩ : ∃ N', N' = Bl.takeN A x.1 x.2.1 x.2.2.2 := ⟨_, rfl⟩
        rw [← hN'] at HI9
        obtain ⟨z, hz⟩ : ∃ z, z = x.1 := ⟨_, rfl⟩
        rw [← hz] at q0
        clear hDa' hDm' hAp' hoa' hom' hJ hext hend hbx hN' hz HSw HSc HTa HTm HDg HI HAP0 HAp7 HAp9 HDi7 HDi9 HDm7 HDm9 HDc HDw HKp HB7 HB9 HX HE48 HE49 HEw7 HEw9 HK HK20 HE9 HEg HE7
        go_wp2_with fail
        obtain ⟨Wa, hWa⟩ : ∃ Wa, Wa = w1.alloc (.cells #[.int .i64 size, .int .i64 z] 3) := ⟨_, rfl⟩
        have HEa : Hid (Bl.Ext w1 Wa) := Bl.hid (by rw [hWa]; exact Bl.ext_alloc _ _)
        have Hk0 : Hid (Wa.cell? ⟨w1.heap.size, 0, none⟩ = some (.int .i64 size)) := Bl.hid (by rw [hWa, World.cell?_alloc_new]; rfl)
        have Hk1 : Hid (Wa.cell? ⟨w1.heap.size, 1, none⟩ = some (.int .i64 z)) := Bl.hid (by rw [hWa, World.cell?_alloc_new]; rfl)
        rw [← hWa]
        obtain ⟨Ba, hBa⟩ : ∃ Ba, Ba = w1.heap.size := ⟨_, rfl⟩
        rw [← hBa] at Hk0 Hk1 ⊢
        have HE10 := Bl.hid (HE9'.out.trans HEa.out)
        clear hWa hBa
        have HAt := Bl.hid (fun k w2 (h2 : Bl.Ext Wa w2) => dat_any ba va' N' k w2 (HI9.out.1.ext (HEa.out.trans h2)) HI9.out.2.2.1 (by have := HI9.out.2.2.2.1; omega))
        have HMt := Bl.hid (fun k w2 (h2 : Bl.Ext Wa w2) => mat_any bm vm' N' k w2 (HI9.out.2.1.ext (HEa.out.trans h2)) HI9.out.2.2.1 (by have := HI9.out.2.2.2.1; omega))
        have Hdl := Bl.hid (Bl.atN_len HI9.out.1.dig)
        go_loopw [78] (fun y wq => ∃ j : Nat, j ≤ 2 ∧ y = .int .i64 j ∧ Bl.Ext Wa wq) (fun y _ => 2 - (intOf y).toNat)
        case atStart => exact ⟨0, Nat.zero_le _, rfl, Below.refl _ _⟩
        case round =>
          obtain ⟨j, hj, rfl, hE⟩ := hrel
          have HEj := Bl.hid hE
          clear hE
          by_cases hlt2 : j < 2
          · obtain ⟨k, hk⟩ : ∃ k, wr.cell? ⟨Ba, 0 + j, none⟩ = some (.int .i64 k) := by
              have hb : Ba < Wa.heap.size := World.block_lt_of_cell? _ _ Hk0.out
              rcases Nat.lt_succ_iff_lt_or_eq.1 hlt2 with h | h
              · obtain rfl : j = 0 := by omega
                exact ⟨size, ((Bl.bcell HEj.out).1 _ _ hb).trans Hk0.out⟩
              · subst h
                exact ⟨z, ((Bl.bcell HEj.out).1 _ _ hb).trans Hk1.out⟩
            have hk' : wr.cell? ⟨Ba, j, none⟩ = some (.int .i64 k) := by rw [Nat.zero_add] at hk; exact hk
            have hj0 : (0 : Int) ≤ (j : Int) := by omega
            have hj1 : (j : Int) < 2 := by omega
            go_wp2_with fail
            refine (HAt.out k wr HEj.out).mono ?_
            rintro e w11 ⟨rfl, hE11⟩
            obtain ⟨d, hd⟩ : ∃ d, d = Bl.atN N' k := ⟨_, rfl⟩
            obtain ⟨q, hq⟩ : ∃ q, q = Bl.hasN N' k := ⟨_, rfl⟩
            have HM2 := Bl.hid (HMt.out k)
            have Hl := Bl.hid (Hdl.out k)
            rw [← hd, ← hq] at HM2 ⊢
            rw [← hd] at Hl
            have HE11 := Bl.hid (HEj.out.trans hE11)
            obtain ⟨hB, hE12⟩ := Bl.BoxC.fresh (cs := Bl.ints .u8 d) w11 39 #[.int .u8 0, .int .u8 0, .int .u8 0, .int .u8 0, .int .u8 0, .int .u8 0, .int .u8 0, .int .u8 0, .int .u8 0, .int .u8 0, .int .u8 0, .int .u8 0, .int .u8 0, .int .u8 0, .int .u8 0, .int .u8 0, .int .u8 0, .int .u8 0, .int .u8 0, .int .u8 0, .int .u8 0, .int .u8 0, .int .u8 0, .int .u8 0, .int .u8 0, .int .u8 0, .int .u8 0, .int .u8 0, .int .u8 0, .int .u8 0, .int .u8 0, .int .u8 0] (by rw [Bl.ints_length, Hl.out]; rfl) (fun q => by have := congrArg List.length q; rw [Bl.ints_length, Hl.out] at this; cases this)
            have Hst := Bl.hid (Bl.fresh_store (P := Tryd.prog) (cs := Bl.ints .u8 d) w11 39 #[.int .u8 0, .int .u8 0, .int .u8 0, .int .u8 0, .int .u8 0, .int .u8 0, .int .u8 0, .int .u8 0, .int .u8 0, .int .u8 0, .int .u8 0, .int .u8 0, .int .u8 0, .int .u8 0, .int .u8 0, .int .u8 0, .int .u8 0, .int .u8 0, .int .u8 0, .int .u8 0, .int .u8 0, .int .u8 0, .int .u8 0, .int .u8 0, .int .u8 0, .int .u8 0, .int .u8 0, .int .u8 0, .int .u8 0, .int .u8 0, .int .u8 0, .int .u8 0] (by rw [Bl.ints_length, Hl.out]; rfl) (Bl.ints_one _ _) (ty := 39) (by rw [Bl.ints_length, Hl.out]; kernel_rfl))
            have HB := Bl.hid hB
            have HE12 := Bl.hid (HE11.out.trans hE12)
            clear hd hq hE11 hB hE12 hk hk'
            go_wp2_with (with_reducible refine Bl.stop_store (ty := 39) ?_)
            refine Bl.go_on ?_
            refine Bl.wpL_store0 rfl rfl Hst.out ?_
            obtain ⟨W12, hW12⟩ : ∃ W2, W2 = (w11.alloc (.cells #[.int .u8 0, .int .u8 0, .int .u8 0, .int .u8 0, .int .u8 0, .int .u8 0, .int .u8 0, .int .u8 0, .int .u8 0, .int .u8 0, .int .u8 0, .int .u8 0, .int .u8 0, .int .u8 0, .int .u8 0, .int .u8 0, .int .u8 0, .int .u8 0, .int .u8 0, .int .u8 0, .int .u8 0, .int .u8 0, .int .u8 0, .int .u8 0, .int .u8 0, .int .u8 0, .int .u8 0, .int .u8 0, .int .u8 0, .int .u8 0, .int .u8 0, .int .u8 0] 39)).setCells w11.heap.size 0 (Bl.ints .u8 d) := ⟨_, rfl⟩
            obtain ⟨X12, hX12⟩ : ∃ X2, X2 = w11.heap.size := ⟨_, rfl⟩
            rw [← hW12] at HB HE12 ⊢
            rw [← hX12] at HB ⊢
            clear hW12 hX12 Hst
            go_wp2_with fail
            refine (HM2.out W12 HE12.out).mono ?_
            rintro e w13 ⟨rfl, hE13⟩
            obtain ⟨hB, hE14⟩ := Bl.BoxC.fresh (cs := Bl.ints .u8 d) w13 31 #[.int .u8 0, .int .u8 0, .int .u8 0, .int .u8 0, .int .u8 0, .int .u8 0, .int .u8 0, .int .u8 0, .int .u8 0, .int .u8 0, .int .u8 0, .int .u8 0, .int .u8 0, .int .u8 0, .int .u8 0, .int .u8 0, .int .u8 0, .int .u8 0, .int .u8 0, .int .u8 0, .int .u8 0, .int .u8 0, .int .u8 0, .int .u8 0, .int .u8 0, .int .u8 0, .int .u8 0, .int .u8 0, .int .u8 0, .int .u8 0, .int .u8 0, .int .u8 0] (by rw [Bl.ints_length, Hl.out]; rfl) (fun q => by have := congrArg List.length q; rw [Bl.ints_length, Hl.out] at this; cases this)
            have Hst := Bl.hid (Bl.fresh_store (P := Tryd.prog) (cs := Bl.ints .u8 d) w13 31 #[.int .u8 0, .int .u8 0, .int .u8 0, .int .u8 0, .int .u8 0, .int .u8 0, .int .u8 0, .int .u8 0, .int .u8 0, .int .u8 0, .int .u8 0, .int .u8 0, .int .u8 0, .int .u8 0, .int .u8 0, .int .u8 0, .int .u8 0, .int .u8 0, .int .u8 0, .int .u8 0, .int .u8 0, .int .u8 0, .int .u8 0, .int .u8 0, .int .u8 0, .int .u8 0, .int .u8 0, .int .u8 0, .int .u8 0, .int .u8 0, .int .u8 0, .int .u8 0] (by rw [Bl.ints_length, Hl.out]; rfl) (Bl.ints_one _ _) (ty := 31) (by rw [Bl.ints_length, Hl.out]; kernel_rfl))
            have HBb := Bl.hid hB
            have HBa := Bl.hid (HB.out.ext (hE13.trans hE14))
            have HE14 := Bl.hid ((HE12.out.trans hE13).trans hE14)
            clear hE13 hB hE14
            go_wp2_with (with_reducible refine Bl.stop_store (ty := 31) ?_)
            refine Bl.go_on ?_
            refine Bl.wpL_store0 rfl rfl Hst.out ?_
            obtain ⟨W14, hW14⟩ : ∃ W2, W2 = (w13.alloc (.cells #[.int .u8 0, .int .u8 0, .int .u8 0, .int .u8 0, .int .u8 0, .int .u8 0, .int .u8 0, .int .u8 0, .int .u8 0, .int .u8 0, .int .u8 0, .int .u8 0, .int .u8 0, .int .u8 0, .int .u8 0, .int .u8 0, .int .u8 0, .int .u8 0, .int .u8 0, .int .u8 0, .int .u8 0, .int .u8 0, .int .u8 0, .int .u8 0, .int .u8 0, .int .u8 0, .int .u8 0, .int .u8 0, .int .u8 0, .int .u8 0, .int .u8 0, .int .u8 0] 31)).setCells w13.heap.size 0 (Bl.ints .u8 d) := ⟨_, rfl⟩
            obtain ⟨X14, hX14⟩ : ∃ X2, X2 = w13.heap.size := ⟨_, rfl⟩
            rw [← hW14] at HBb HBa HE14 ⊢
            rw [← hX14] at HBb ⊢
            clear hW14 hX14 Hst
            have Hla := Bl.hid (Bl.load_ints (P := Tryd.prog) (ty := 39) HBa.out.rg Tryd.underlying39 (by kernel_rfl) Hl.out)
            have Hlb := Bl.hid (Bl.load_ints (P := Tryd.prog) (ty := 31) HBb.out.rg Tryd.underlying31 (by kernel_rfl) Hl.out)
            have heq : ∀ w, (Op.equalIn 10000 31 (.agg (Bl.ints .u8 d).toArray) (.agg (Bl.ints .u8 d).toArray)).run Tryd.prog w = .ok true w := fun w =>
              Bl.eq10k_same Tryd.underlying31 Tryd.underlying5 (fun w => by simp [go_sem]) d Hl.out w
            cases q
            all_goals
              go_wp2_with (with_reducible refine Bl.stop_loadg (ty := 39) ?_)
              refine Bl.go_on ?_
              refine Bl.wpL_loadg rfl rfl Hla.out ?_
              go_wp2_with (with_reducible refine Bl.stop_loadg (ty := 31) ?_)
              refine Bl.go_on ?_
              refine Bl.wpL_loadg rfl rfl Hlb.out ?_
              go_wp2_with fail
              go_roundw
              case rel => exact ⟨j + 1, by omega, by go_num, HE14.out⟩
              case measure => simp [intOf]; omega
          · obtain rfl : j = 2 := by omega
            have HEz := Bl.hid (HE10.out.trans HEj.out)
            have HIz : Hid (Bl.Di wr ba va' N' ∧ Bl.Dm wr bm vm' N' ∧ Bl.Ris N' ∧ N'.length ≤ i + 1 ∧ Bl.Apt w4.heap.size ba bm wr va' vm') := Bl.hid (by
              have hx := HEa.out.trans HEj.out
              exact ⟨HI9.out.1.ext hx, HI9.out.2.1.ext hx, HI9.out.2.2.1, HI9.out.2.2.2.1, HI9.out.2.2.2.2.ext hx.size⟩)
            clear HI9 hlt2 hj
            go_wp2_with fail
            go_roundw
            case rel => exact ⟨i + 1, va', vm', N', by omega, by go_num, HIz, HEz.out⟩
            case measure => simp [intOf]; omega
      case hJ0 => exact ⟨Bl.PJ.start HAp9.out Hbs.out HDi9.out HDm9.out rfl, fun q => (by cases q)⟩
    · obtain rfl : i = n1 := by omega
      have HEr := Bl.hid (HE3.out.trans HE.out)
      clear HI
      go_wp2_with fail
      go_ret
      exact ⟨rfl, HEr.out⟩
end Go.Proofs.YtmfooocdnoflaaaDoor

/- Texts that stood apart, in one: LW3, LW4. -/
import Derived.Test.YtglenbikdahgjaaDoorLet0
import Derived.Test.YtglenbikdahgjaaDoorBA1
import Derived.Test.YtglenbikdahgjaaDoorChecked
/- Walks of baileelaw22.Long and Of. -/
namespace Go.Proofs.YtglenbikdahgjaaDoor
open Go Go.RowKit Go.Proofs
theorem tShL : Bl.SlT Tryd.prog 23 46 (.agg Bl.zSh) 3 56 := ⟨Tryd.underlying23, by kernel_rfl, rfl, by decide⟩
set_option maxRecDepth 100000 in
set_option maxHeartbeats 2000000 in
theorem long22_any (v : Value) (l : Bl.LT) (w : World) (h : Bl.LtV w v l) :
    Calls Tryd.prog 6 #[v] w fun e w' => (e = .returned (.bool true) ∨ (e = .returned (.bool false) ∧ Bl.LgL l)) ∧ Bl.Ext w w' := by
  obtain ⟨cs, vp, vs, vb, L, rfl, hc⟩ := h
  obtain rfl := hc.eq
  obtain ⟨kd, id, oj, pl, sh, fr, ct, bl, cd⟩ := l
  obtain ⟨_, hpl, hsh, hsl, hbl, hby⟩ := hc
  simp only at hpl hsl hbl hby
  obtain ⟨p1, c1, e1, _, _⟩ := hpl.form
  obtain ⟨p2, c2, e2, hn2, hc2⟩ := hsh.rd.form
  obtain ⟨wsb, hb1, hwl, hws⟩ := hbl
  obtain ⟨p3, c3, e3, hn3, hc3⟩ := hb1.form
  subst e1 e2 e3
  unfold maxLen at hc2 hc3
  have HS := Bl.hid hsh
  have HB := Bl.hid hb1
  have Hwl := Bl.hid hwl
  have Hws := Bl.hid hws
  obtain ⟨np, hnp⟩ : ∃ np, np = pl.length := ⟨_, rfl⟩
  obtain ⟨ns, hns⟩ : ∃ ns, ns = L.length := ⟨_, rfl⟩
  obtain ⟨nb, hnb⟩ : ∃ nb, nb = bl.length := ⟨_, rfl⟩
  have Hnp := Bl.hid hnp
  have Hns := Bl.hid hns
  have Hnb := Bl.hid hnb
  have Hsl := Bl.hid hsl
  have HBx := Bl.hid (Bl.BoxC.box w 26 (Bl.cL_ne ⟨kd, id, oj, pl, sh, fr, ct, bl, cd⟩ (.slice p1 np c1) (.slice p2 ns c2) (.slice p3 nb c3)))
  have HE0 := Bl.hid (Bl.ext_alloc w (.cells (Bl.cL ⟨kd, id, oj, pl, sh, fr, ct, bl, cd⟩ (.slice p1 np c1) (.slice p2 ns c2) (.slice p3 nb c3)).toArray 26))
  rw [← hnp, ← hns, ← hnb]
  rw [← hns] at hn2
  rw [← hnb] at hn3 HB
  clear hpl hsh hsl hb1 hwl hws hby hnp hns hnb
  show Calls Tryd.prog 6 #[.agg #[.int .i64 kd, .int .i64 id, .int .i64 oj, .slice p1 np c1, .slice p2 ns c2, .int .i64 fr, .int .i64 ct, .slice p3 nb c3, .int .i64 cd]] w _
  have ga := HBx.out.cell (i := 3) rfl
  have gb := HBx.out.cell (i := 4) rfl
  have gc := HBx.out.cell (i := 7) rfl
  go_enter Tryd.func6, Tryd.ntmps6
  by_cases h1 : (100 : Int) < (np : Int)
  · go_wp2_with fail
    go_ret
    exact ⟨.inl rfl, HE0.out⟩
  by_cases h2 : (30 : Int) < (ns : Int)
  · go_wp2_with fail
    go_ret
    exact ⟨.inl rfl, HE0.out⟩
  by_cases h3 : (600 : Int) < (nb : Int)
  · go_wp2_with fail
    go_ret
    exact ⟨.inl rfl, HE0.out⟩
  go_wp2_with fail
  obtain ⟨W0, hW0⟩ : ∃ W0, W0 = w.alloc (.cells #[.int .i64 kd, .int .i64 id, .int .i64 oj, .slice p1 np c1, .slice p2 ns c2, .int .i64 fr, .int .i64 ct, .slice p3 nb c3, .int .i64 cd] 26) := ⟨_, rfl⟩
  have HB0 : Hid (Bl.BoxC W0 w.heap.size (Bl.cL ⟨kd, id, oj, pl, sh, fr, ct, bl, cd⟩ (.slice p1 np c1) (.slice p2 ns c2) (.slice p3 nb c3))) := Bl.hid (by rw [hW0]; exact HBx.out)
  replace HE0 : Hid (Bl.Ext w W0) := Bl.hid (by rw [hW0]; exact HE0.out)
  rw [← hW0]
  clear hW0 HBx ga gb gc
  go_loopw [26] (fun x wr => ∃ i : Nat, i ≤ ns ∧ x = .int .i64 i ∧ Hid (∀ q, q < i → (L.getD q Bl.s0).2.1.2.length ≤ 100 ∧ (L.getD q Bl.s0).2.2.2.length ≤ 40) ∧ Bl.Ext W0 wr) (fun x _ => ns - (intOf x).toNat)
  case atStart => exact ⟨0, Nat.zero_le _, rfl, Bl.hid fun q hq => absurd hq (Nat.not_lt_zero _), Below.refl _ _⟩
  case round =>
    obtain ⟨i, hi, rfl, Hq, hE⟩ := hrel
    have HE := Bl.hid hE
    clear hE
    by_cases hlt : i < ns
    · have hin : i < L.length := by rw [← Hns.out]; exact hlt
      have hRA := HS.out.ext (HE0.out.trans HE.out)
      obtain ⟨g, o, cc, hpe, hcn, hcm, hgl, hel⟩ := hRA.pos (by omega)
      injection hpe with hp1 hp2 hp3
      subst hp1 hp3
      have hrg := hel i hin
      have hok := hRA.ok _ (Bl.getD_mem Bl.s0 hin)
      obtain ⟨x, hx⟩ : ∃ x, x = L.getD i Bl.s0 := ⟨_, rfl⟩
      rw [← hx] at hrg hok
      have Hx := Bl.hid hx
      have Hld := Bl.hid (run_loadAt_mid (P := Tryd.prog) wr g (o + i * 3) 46 _ _ hrg Tryd.underlying46 rfl (by rw [Bl.cS_len]; kernel_rfl))
      obtain ⟨HB6, HE6⟩ := Bl.BoxC.fresh (cs := Bl.cS x) wr 46 Bl.zSh rfl (Bl.cS_ne x)
      have Hst := Bl.hid (Bl.fresh_store (P := Tryd.prog) (cs := Bl.cS x) wr 46 Bl.zSh rfl (Bl.cS_one hok) (ty := 46) (by rw [Bl.cS_len]; kernel_rfl))
      have hq1 := HB6.cell (i := 1) rfl
      have hq2 := HB6.cell (i := 2) rfl
      replace HE6 := Bl.hid (HE.out.trans HE6)
      obtain ⟨pp, cp, hpf, hpn, hpc⟩ := hok.st.form
      obtain ⟨qq, cq, hqf, hqn, hqc⟩ := hok.pa.form
      obtain ⟨m, hm⟩ : ∃ m, m = x.2.1.2.length := ⟨_, rfl⟩
      obtain ⟨m2, hm2⟩ : ∃ m2, m2 = x.2.2.2.length := ⟨_, rfl⟩
      have Hm := Bl.hid hm
      have Hm2 := Bl.hid hm2
      rw [hpf, ← hm] at hq1
      rw [hqf, ← hm2] at hq2
      have hi0 : (0 : Int) ≤ (i : Int) := by omega
      have hi1 : (i : Int) < (ns : Int) := by omega
      clear hel hrg hok hx HB6 hp2 hcn hcm hin hRA hpf hpn hpc hm hqf hqn hqc hm2
      go_wp2_with (with_reducible refine Bl.stop_load (ty := 46) ?_)
      refine Bl.go_on ?_
      refine Bl.wpL_load rfl Hld.out ?_
      go_wp2_with (with_reducible refine Bl.stop_store (ty := 46) ?_)
      refine Bl.go_on ?_
      refine Bl.wpL_store0 rfl rfl Hst.out ?_
      generalize (wr.alloc (.cells Bl.zSh 46)).setCells wr.heap.size 0 (Bl.cS x) = W6 at *
      generalize wr.heap.size = X6 at *
      clear Hst Hld
      by_cases h5 : (100 : Int) < (m : Int)
      · go_wp2_with fail
        go_ret
        exact ⟨.inl rfl, HE0.out.trans HE6.out⟩
      by_cases h6 : (40 : Int) < (m2 : Int)
      · go_wp2_with fail
        go_ret
        exact ⟨.inl rfl, HE0.out.trans HE6.out⟩
      · go_wp2_with fail
        go_roundw
        case rel => exact ⟨i + 1, by omega, by go_num, Bl.hid fun q hq => by
          rcases Nat.lt_succ_iff_lt_or_eq.1 hq with g | g
          · exact Hq.out q g
          · subst g; rw [← Hx.out, ← Hm.out, ← Hm2.out]; omega, HE6.out⟩
        case measure => simp [intOf]; omega
    · obtain rfl : i = ns := by omega
      have gc := (HB0.out.ext HE.out).cell (i := 7) rfl
      clear hlt hi
      go_wp2_with fail
      go_loopw [44] (fun x wx => ∃ k : Nat, k ≤ nb ∧ x = .int .i64 k ∧ wx = wr ∧ Hid (∀ j, j < k → (bl.getD j []).length ≤ 100)) (fun x _ => nb - (intOf x).toNat)
      case atStart => exact ⟨0, Nat.zero_le _, rfl, rfl, Bl.hid fun j hj => absurd hj (Nat.not_lt_zero _)⟩
      case round =>
        obtain ⟨k, hk, rfl, hwx, Hall⟩ := hrel
        subst hwx
        by_cases hlt : k < nb
        · have hkb : k < bl.length := by rw [← Hnb.out]; exact hlt
          obtain ⟨b, o, hpe, hbl2, hcell⟩ := Bl.Rdss.cell' (ps := bl) (n := nb) (by have := HB.out.ext (HE0.out.trans HE.out); rw [Hnb.out] at this ⊢; exact this) Hwl.out k hkb
          subst hpe
          have hRk := Hws.out k hkb
          obtain ⟨bs, hbs⟩ : ∃ bs, bs = bl.getD k [] := ⟨_, rfl⟩
          rw [← hbs] at hRk
          obtain ⟨pk, ck, hfk, hnk, hck⟩ := hRk.form
          rw [hfk] at hcell
          have Hbs := Bl.hid hbs
          clear hRk hfk hbs
          by_cases h200 : (100 : Int) < (bs.length : Int)
          · go_wp2_with fail
            go_ret
            exact ⟨.inl rfl, HE0.out.trans HE.out⟩
          · go_wp2_with fail
            go_roundw
            case rel =>
              refine ⟨k + 1, by omega, by go_num, trivial, Bl.hid fun j hj => ?_⟩
              by_cases hjk : j = k
              · subst hjk; rw [← Hbs.out]; omega
              · exact Hall.out j (by omega)
            case measure => simp [intOf]; omega
        · obtain rfl : k = nb := by omega
          go_wp2_with fail
          go_ret
          refine ⟨.inr ⟨rfl, ⟨by show pl.length ≤ 100; rw [← Hnp.out]; omega, ?_, by show bl.length ≤ 600; rw [← Hnb.out]; omega, fun s hs => ?_, fun b hb => ?_⟩⟩, HE0.out.trans HE.out⟩
          · show sh.length ≤ 30
            rw [← Hsl.out, List.length_map, ← Hns.out]; omega
          · have hs' : s ∈ L.map Bl.plS := by rw [Hsl.out]; exact hs
            obtain ⟨x, hx, rfl⟩ := List.mem_map.1 hs'
            obtain ⟨q, hq, rfl⟩ := List.getElem_of_mem hx
            have := Hq.out q (by rw [Hns.out]; exact hq)
            rwa [List.getD_eq_getElem?_getD, List.getElem?_eq_getElem hq] at this
          · obtain ⟨j, hj, rfl⟩ := List.getElem_of_mem hb
            have := Hall.out j (by rw [Hnb.out]; exact hj)
            rwa [List.getD_eq_getElem?_getD, List.getElem?_eq_getElem hj] at this
end Go.Proofs.YtglenbikdahgjaaDoor

/- Walk of baileelaw22.Of. -/
namespace Go.Proofs.YtglenbikdahgjaaDoor
open Go Go.RowKit Go.Proofs

end Go.Proofs.YtglenbikdahgjaaDoor

/- Walk of path.Make. -/
import Derived.Test.YtjmkcenkjnoblaaDoorWMake
namespace Go.Proofs.Bl
open Go Go.RowKit
/-- a row of steps' place -/
theorem RdT.pos {w : World} {v : Value} {ts : List (Bool × Nat × Nat)} (h : Rds w v ts.length (cellsT ts)) (hne : 0 < ts.length) : ∃ b o c, v = .slice (some ⟨b, o, none⟩) ts.length c ∧ ts.length ≤ c ∧ c ≤ maxLen ∧ b < w.heap.size ∧ w.rangeAt b o (cellsT ts) := by
  rcases h with ⟨_, h, _⟩ | ⟨b, o, c, h1, h2, h3, h4⟩
  · omega
  · exact ⟨b, o, c, h1, h2, h3, rangeAt_lt h4 (fun q => by have := cellsT_length ts; rw [q] at this; simp at this; omega), h4⟩
theorem turn_at {w : World} {b o : Nat} {ts : List (Bool × Nat × Nat)} (h : w.rangeAt b o (cellsT ts)) {k : Nat} (hk : k < ts.length) {x : Bool} {n i : Nat} (he : ts.getD k default = (x, n, i)) : w.rangeAt b (o + k * 3) [.bool x, .int .i64 n, .int .i64 i] := fun j v hv => by
  obtain ⟨h0, h1, h2⟩ := cellsT_get ts k hk
  rw [he] at h0 h1 h2
  match j, hv with
  | 0, hv => cases hv; exact h (k * 3) _ h0
  | 1, hv => cases hv; have := h _ _ h1; rw [← Nat.add_assoc] at this; exact this
  | 2, hv => cases hv; have := h _ _ h2; rw [← Nat.add_assoc] at this; exact this
  | j + 3, hv => simp at hv
theorem there_new (w : World) (cs : Array Value) (e : TypeId) (n : Nat) (hn : cs.size = n) : (w.alloc (.cells cs e)).there w.heap.size 0 n := fun j hj => by
  rw [Nat.zero_add, World.cell?_alloc_new]
  exact ⟨by simp [hn, hj], by simp⟩
/-- the head of what is left of the steps -/
theorem drop_head {α : Type} {T : List α} {k : Nat} {x : α} {r : List α} (d : α) (h : T.drop k = x :: r) : k < T.length ∧ T.getD k d = x ∧ T.drop (k + 1) = r := by
  have hk : k < T.length := by
    have := congrArg List.length h
    rw [List.length_drop, List.length_cons] at this; omega
  rw [List.drop_eq_getElem_cons hk] at h
  injection h with h1 h2
  exact ⟨hk, by rw [List.getD_eq_getElem?_getD, List.getElem?_eq_getElem hk]; exact h1, h2⟩
end Go.Proofs.Bl
namespace Go.Proofs.YtjmkcenkjnoblaaDoor
open Go.RowKit Go.Proofs

set_option maxRecDepth 100000 in
theorem revD_nil (p : Option Addr) (c : Nat) (w : World) :
    Calls Tryd.prog 41 #[.slice p 0 c] w fun e w' => e = .returned (.tuple #[]) ∧ w = w' := by
  go_enter Tryd.func41, Tryd.ntmps41
  go_wp2_with fail
  go_loop [2, 3] (fun i j => i = .int .i64 0 ∧ j = .int .i64 (-1)) (fun _ _ => 0)
  case atStart => exact ⟨rfl, rfl⟩
  case round =>
    obtain ⟨rfl, rfl⟩ := hrel
    go_wp2_with fail
    go_end0
    exact ⟨rfl, rfl⟩

/-- the cells of a step that was loaded into a variable of its own -/
theorem turn_box (w : World) (x : Bool) (n i : Nat) :
    (Instr.storeAt 82 (.pointer (some ⟨w.heap.size, 0, none⟩)) (.agg #[.bool x, .int .i64 n, .int .i64 i])).run Tryd.prog (w.alloc (.cells #[.bool false, .int .i64 0, .int .i64 0] 82)) = .ok () ((w.alloc (.cells #[.bool false, .int .i64 0, .int .i64 0] 82)).setCells w.heap.size 0 [.bool x, .int .i64 n, .int .i64 i]) ∧
    ((w.alloc (.cells #[.bool false, .int .i64 0, .int .i64 0] 82)).setCells w.heap.size 0 [.bool x, .int .i64 n, .int .i64 i]).cell? ⟨w.heap.size, 0, none⟩ = some (.bool x) ∧
    ((w.alloc (.cells #[.bool false, .int .i64 0, .int .i64 0] 82)).setCells w.heap.size 0 [.bool x, .int .i64 n, .int .i64 i]).cell? ⟨w.heap.size, 1, none⟩ = some (.int .i64 n) ∧
    Bl.Ext w ((w.alloc (.cells #[.bool false, .int .i64 0, .int .i64 0] 82)).setCells w.heap.size 0 [.bool x, .int .i64 n, .int .i64 i]) := by
  have ht := Bl.there_new w #[.bool false, .int .i64 0, .int .i64 0] 82 3 rfl
  have hs := run_storeAt_mid (P := Tryd.prog) (w.alloc (.cells #[.bool false, .int .i64 0, .int .i64 0] 82)) w.heap.size 0 82 #[.bool x, .int .i64 n, .int .i64 i] (by simpa using ht) (by kernel_rfl) (all_oneCell_toArray (cs := [.bool x, .int .i64 n, .int .i64 i]) (by intro c hc; simp only [List.mem_cons, List.not_mem_nil, or_false] at hc; rcases hc with rfl | rfl | rfl <;> rfl))
  have hr := World.rangeAt_setCells_same (w.alloc (.cells #[.bool false, .int .i64 0, .int .i64 0] 82)) w.heap.size 0 [.bool x, .int .i64 n, .int .i64 i] ht
  exact ⟨hs, hr 0 _ rfl, hr 1 _ rfl, Bl.below_setCells _ _ _ _ (Bl.ext_alloc _ _) (Nat.le_refl _)⟩

set_option maxRecDepth 100000 in
set_option maxHeartbeats 2000000 in
/-- path.Make of a leaf that is there -/
theorem pmake_any (v : Value) (ps : List (List Int)) (i : Nat) (w : World) (hR : Bl.Rdss w v ps) (hg : Glob w) (hby : ∀ p ∈ ps, Bl.Byt p) (hlp : ∀ p ∈ ps, p.length ≤ 1099511627000) (hn : ps.length ≤ 512) (hi : i < ps.length) :
    Calls Tryd.prog 19 #[v, .int .i64 i] w fun e w' => ∃ v', e = .returned (.tuple #[v', .nilIface]) ∧ Bl.RdD w' v' (Bl.pathD ps i) ∧ Bl.Ext w w' := by
  have HLv := Bl.hid (leaves_any v ps w hR hg hby hlp (by omega))
  have HT := Bl.hid (fun w1 => turns_any ps.length i w1 hn hi)
  have hth := Bl.hid (Bl.thereB_mk (n := (ps.length : Int)) (i := (i : Int)) (by omega) (by omega) (by omega))
  obtain ⟨vs, hvs, hvl, hvr⟩ := hR
  obtain ⟨p, c, hvf, _, _⟩ := hvs.form
  subst hvf
  have Hdl : Hid (Bl.Dig (ps.map Bl.lfD)) := Bl.hid (Bl.dig_leaves ps)
  have Hll : Hid ((ps.map Bl.lfD).length = ps.length) := Bl.hid (List.length_map _)
  have HPL : Hid (Bl.pathL Bl.ndD Bl.zD (ps.map Bl.lfD) i = Bl.pathD ps i) := Bl.hid rfl
  obtain ⟨ds, hds⟩ : ∃ ds, ds = ps.map Bl.lfD := ⟨_, rfl⟩
  rw [← hds] at HLv Hdl Hll HPL
  obtain ⟨PD, hPD⟩ : ∃ PD, PD = Bl.pathD ps i := ⟨_, rfl⟩
  rw [← hPD] at HPL ⊢
  obtain ⟨n, hnn⟩ : ∃ n, n = ps.length := ⟨_, rfl⟩
  rw [← hnn] at HLv HT hth hn hi Hll ⊢
  obtain ⟨T, hT⟩ : ∃ T, T = Bl.turnsL n i := ⟨_, rfl⟩
  rw [← hT] at HT
  have HTe := Bl.hid hT
  have Hg := Bl.hid hg
  clear hvs hvl hvr hnn hg hby hlp hds hPD hT
  go_enter Tryd.func19, Tryd.ntmps19
  go_wp2_with fail
  refine (there_any _ _ _).mono ?_
  rintro e w1 ⟨rfl, hw⟩
  subst hw
  rw [hth.out]
  go_wp2_with fail
  refine HLv.out.mono ?_
  rintro e w1 ⟨pl, cl, rfl, hown1, hE1⟩
  have HL1 : Hid (Bl.RdD w1 (.slice pl n cl) ds) := Bl.hid (by show Bl.Rds w1 _ ds.length _; rw [Hll.out]; exact Bl.Rds.of_owns hown1)
  have HE1 := Bl.hid hE1
  clear hown1 hE1 HLv
  go_wp2_with fail
  refine (HT.out w1).mono ?_
  rintro e w2 ⟨pt, ct, rfl, hown2, hE2⟩
  have HL2 : Hid (Bl.RdD w2 (.slice pl n cl) ds) := Bl.hid (Bl.Rds.ext HL1.out hE2)
  have HT2 : Hid (Bl.Rds w2 (.slice pt T.length ct) T.length (Bl.cellsT T)) := Bl.hid (Bl.Rds.of_owns hown2)
  have HE2 := Bl.hid (HE1.out.trans hE2)
  have hTl : T.length ≤ 512 := by rw [HTe.out]; have := Bl.turnsL_len n n i (Nat.le_refl _) (by omega); omega
  obtain ⟨tn, htn⟩ : ∃ tn, tn = T.length := ⟨_, rfl⟩
  rw [← htn] at HT2 hTl ⊢
  have Htn := Bl.hid htn
  clear hown2 hE2 HL1 HE1 HT htn
  go_wp2_with fail
  go_loopw [6, 7, 24] (fun li out x wr => ∃ (k j m cl ko co : Nat) (pl po : Option Addr) (ds' acc : List (List Int)), k ≤ tn ∧ x = .int .i64 k ∧ li = .slice pl m cl ∧ out = .slice po ko co ∧ m ≤ 512 ∧ j < m ∧ ko ≤ tn ∧ Hid (ds'.length = m ∧ acc.length = ko ∧ ko = k ∧ T.drop k = Bl.turnsL m j ∧ Bl.Dig ds' ∧ Bl.Dig acc ∧ Bl.pathL Bl.ndD Bl.zD ds' j ++ acc.reverse = PD ∧ Bl.RdD w2 (.slice pl m cl) ds' ∧ wr.ownsRow w2.heap.size 42 32 (.slice po ko co) ko (Bl.cellsD acc)) ∧ Bl.Ext w2 wr) (fun _ _ x _ => tn - (intOf x).toNat)
  case atStart => exact ⟨0, i, n, cl, 0, 0, pl, none, ds, [], Nat.zero_le _, rfl, rfl, rfl, hn, hi, Nat.zero_le _, Bl.hid ⟨Hll.out, rfl, rfl, HTe.out, Hdl.out, Bl.Dig.nil, by rw [List.reverse_nil, List.append_nil]; exact HPL.out, HL2.out, World.ownsRow_nil _ _ _ _⟩, Below.refl _ _⟩
  case round =>
    obtain ⟨k, j, m, cl, ko, co, pl, po, ds', acc, hk, rfl, rfl, rfl, hm, hj, hko, HA, hE⟩ := hrel
    have HE := Bl.hid hE
    clear hE HL2
    by_cases hlt : k < tn
    · have h2 : 2 ≤ m := by
        rcases Nat.lt_or_ge m 2 with h | h
        · exfalso
          have h1 := HA.out.2.2.2.1
          rw [Bl.turnsL_lo m j h] at h1
          have := congrArg List.length h1
          rw [List.length_drop, ← Htn.out] at this
          simp at this; omega
        · exact h
      obtain ⟨s1, s2, s3⟩ := Bl.sp_bounds m h2 (by omega)
      obtain ⟨hA1, hA2, hA3, hA4, hA5, hA6, hA7, hA8, hA9⟩ := HA.out
      have HKk := Bl.hid hA3
      have HD := Bl.hid hA5
      have HDa := Bl.hid hA6
      have HL8 := Bl.hid hA8
      have HO := Bl.hid hA9
      have Hal := Bl.hid hA2
      have Hdm := Bl.hid hA1
      have HLf := Bl.hid (fun h : j < Bl.sp m => Bl.turnsL_left m j h2 (by omega) h)
      have HRt := Bl.hid (fun h : ¬ j < Bl.sp m => Bl.turnsL_right m j h2 (by omega) h)
      have HPf := Bl.hid (fun h : j < Bl.sp m => Bl.pathL_left Bl.ndD Bl.zD ds' j (by rw [hA1]; exact h2) (by rw [hA1]; omega) (by rw [hA1]; exact h))
      have HPr := Bl.hid (fun h : ¬ j < Bl.sp m => Bl.pathL_right Bl.ndD Bl.zD ds' j (by rw [hA1]; exact h2) (by rw [hA1]; omega) (by rw [hA1]; exact h))
      rw [hA1] at HPf HPr
      have H4 := Bl.hid hA4
      have H7 := Bl.hid hA7
      obtain ⟨b, o, cc, hpe, hcn, hcm, hbl, hrg⟩ := Bl.RdT.pos (by have h := HT2.out; rw [Htn.out] at h; exact Bl.Rds.ext h HE.out) (by rw [← Htn.out]; omega)
      injection hpe with hpe1 hpe2 hpe3
      clear hpe2 hpe3
      subst hpe1
      have Hrg := Bl.hid hrg
      obtain ⟨b2, o2, c2, hq, hq1, hq2, hbl2, _⟩ := Bl.RdD.pos hA8 hA5 (by omega)
      injection hq with hq3 hq4 hq5
      subst hq3 hq5
      rw [hA1] at hq1
      clear hA1 hA2 hA3 hA4 hA5 hA6 hA7 hA8 hA9 HA hrg hbl hcn hcm hq4 hbl2
      obtain ⟨q, hq⟩ : ∃ q, q = Bl.sp m := ⟨_, rfl⟩
      rw [← hq] at s1 s2 s3 HLf HRt HPf HPr
      clear hq
      have hkb0 : (0 : Int) ≤ (k : Int) := by omega
      have hkb1 : (k : Int) < (tn : Int) := by omega
      by_cases hjq : j < q
      · have hT1 : T.drop k = (true, q, j) :: Bl.turnsL q j := by rw [H4.out]; exact HLf.out hjq
        obtain ⟨hkT, hTk, hT2⟩ := Bl.drop_head default hT1
        have hP1 := HPf.out hjq
        have HT3 := Bl.hid hT2
        have HP1 := Bl.hid hP1
        have Hld := Bl.hid (run_loadAt_mid (P := Tryd.prog) wr b (o + k * 3) 82 _ _ (Bl.turn_at Hrg.out hkT hTk) Tryd.underlying82 rfl (by kernel_rfl))
        clear hT1 hkT hTk hT2 hP1 HLf HRt HPf HPr H4
        go_wp2_with (with_reducible refine Bl.stop_load (ty := 82) ?_)
        refine Bl.go_on ?_
        refine Bl.wpL_load rfl Hld.out ?_
        obtain ⟨hst, hc0, hc1, hEb⟩ := turn_box wr true q j
        have Hst := Bl.hid hst
        have HEb := Bl.hid hEb
        clear hst hEb Hld
        go_wp2_with (with_reducible refine Bl.stop_store (ty := 82) ?_)
        refine Bl.go_on ?_
        refine Bl.wpL_store0 rfl rfl Hst.out ?_
        clear Hst
        generalize (wr.alloc (.cells #[.bool false, .int .i64 0, .int .i64 0] 82)).setCells wr.heap.size 0 [.bool true, .int .i64 q, .int .i64 j] = W6 at *
        have HE6 := Bl.hid (HE.out.trans HEb.out)
        have hO6 := Bl.hid (Bl.owns_ext HO.out HEb.out)
        have hx1 : (q : Int) < (m : Int) := by omega
        have hx2 : ¬ (q = cl) := by omega
        have hx3 : (0 : Int) ≤ (q : Int) := by omega
        have hx4 : (q : Int) ≤ (m : Int) := by omega
        have hx5 : (q : Int) ≤ (cl : Int) := by omega
        have hx6 : (m : Int) ≤ (cl : Int) := by omega
        have Hdr := Bl.hid (Bl.RdD.drop (Bl.Rds.ext HL8.out HE6.out) HD.out q (by rw [Hdm.out]; omega))
        have Htk := Bl.hid (Bl.RdD.take HL8.out HD.out q (by rw [Hdm.out]; omega))
        have Hov := Bl.hid (over_any _ (ds'.drop q) W6 (by rw [List.length_drop, Hdm.out]; omega) (HD.out.drop q) Hdr.out (Hg.out.ext (HE2.out.trans HE6.out)))
        have Hol := Bl.hid (Bl.overD_dig _ (ds'.drop q) rfl (HD.out.drop q) (by rw [List.length_drop, Hdm.out]; omega))
        obtain ⟨d, hd⟩ : ∃ d, d = Bl.overD (ds'.drop q) := ⟨_, rfl⟩
        rw [← hd] at Hov Hol
        have Hd : Hid (d = Bl.over Bl.ndD Bl.zD (ds'.drop q)) := Bl.hid hd
        clear hd Hdr
        go_wp2_with fail
        refine Hov.out.mono ?_
        rintro e w7 ⟨rfl, hE7⟩
        have HE7 := Bl.hid (HE6.out.trans hE7)
        have Hown2 := Bl.hid (Bl.owns_ext (Bl.owns_ext hO6.out hE7) (Bl.ext_alloc w7 (.cells (Bl.ints .u8 d).toArray 42)))
        have Hnew := Bl.hid (Bl.rds_dig w7 42 d Hol.out.1)
        have HE8 : Hid (Bl.Ext w2 (w7.alloc (.cells (Bl.ints .u8 d).toArray 42))) := Bl.hid (HE7.out.trans (Bl.ext_alloc _ _))
        clear hE7 Hov hc0 hc1
        go_wp2_with (with_reducible refine Bl.stop_build ?_)
        refine Bl.go_on ?_
        refine Bl.wpL_build1 tDig (by decide) rfl (by simp [Hol.out.1]) ?_
        go_wp2_with (with_reducible refine Bl.stop_append ?_)
        refine Bl.go_on ?_
        refine Bl.wpL_app tDig Hown2.out Hnew.out rfl rfl (by rw [Bl.cellsD_one, Bl.ints_length, Hol.out.1]) (Bl.cellsD_one' _) (by unfold maxLen; omega) (by omega) HE8.out.size ?_
        intro q3 d3 w9 hown9 hg9 hB9 hK9 hn9 hc9
        have HE9 : Hid (Bl.Ext w2 w9) := Bl.hid (Below.trans HE8.out hB9)
        have HA9 : Hid ((ds'.take q).length = q ∧ (acc ++ [d]).length = ko + 1 ∧ ko + 1 = k + 1 ∧ T.drop (k + 1) = Bl.turnsL q j ∧ Bl.Dig (ds'.take q) ∧ Bl.Dig (acc ++ [d]) ∧ Bl.pathL Bl.ndD Bl.zD (ds'.take q) j ++ (acc ++ [d]).reverse = PD ∧ Bl.RdD w2 (.slice (some ⟨b2, o2, none⟩) q cl) (ds'.take q) ∧ w9.ownsRow w2.heap.size 42 32 (.slice q3 (ko + 1) d3) (ko + 1) (Bl.cellsD (acc ++ [d]))) := Bl.hid
          ⟨by rw [List.length_take, Hdm.out]; omega, by rw [List.length_append, Hal.out]; rfl, by rw [HKk.out], HT3.out, HD.out.take q, HDa.out.append (Bl.Dig.one Hol.out.1 Hol.out.2),
            by rw [← H7.out, HP1.out, List.reverse_append, List.append_assoc, Hd.out]; rfl, Htk.out, by rw [Bl.cellsD_append]; exact hown9⟩
        have hko1 : ko + 1 ≤ tn := by have := HKk.out; omega
        clear hown9 hg9 hB9 hK9 Hown2 Hnew HE8
        go_wp2_with fail
        go_roundw
        case rel => exact ⟨k + 1, j, q, cl, ko + 1, d3, _, q3, _, _, by omega, by go_num, rfl, rfl, by omega, hjq, hko1, HA9.out, HE9.out⟩
        case measure => simp [intOf]; omega
      · obtain ⟨j2, hj2⟩ : ∃ j2, j2 = j - q := ⟨_, rfl⟩
        obtain ⟨m2, hm2⟩ : ∃ m2, m2 = m - q := ⟨_, rfl⟩
        have hT1 : T.drop k = (false, m2, j2) :: Bl.turnsL m2 j2 := by rw [H4.out, hm2, hj2]; exact HRt.out hjq
        obtain ⟨hkT, hTk, hT2⟩ := Bl.drop_head default hT1
        have hP1 := HPr.out hjq
        rw [← hj2] at hP1
        have HT3 := Bl.hid hT2
        have HP1 := Bl.hid hP1
        have Hld := Bl.hid (run_loadAt_mid (P := Tryd.prog) wr b (o + k * 3) 82 _ _ (Bl.turn_at Hrg.out hkT hTk) Tryd.underlying82 rfl (by kernel_rfl))
        have b1 : m2 ≤ 512 := by omega
        have b2' : j2 < m2 := by omega
        have e1 : (m : Int) - (m2 : Int) = (q : Int) := by omega
        have Hm2 := Bl.hid hm2
        clear hT1 hkT hTk hT2 hP1 HLf HRt HPf HPr H4 hj2 hm2
        go_wp2_with (with_reducible refine Bl.stop_load (ty := 82) ?_)
        refine Bl.go_on ?_
        refine Bl.wpL_load rfl Hld.out ?_
        obtain ⟨hst, hc0, hc1, hEb⟩ := turn_box wr false m2 j2
        have Hst := Bl.hid hst
        have HEb := Bl.hid hEb
        clear hst hEb Hld
        go_wp2_with (with_reducible refine Bl.stop_store (ty := 82) ?_)
        refine Bl.go_on ?_
        refine Bl.wpL_store0 rfl rfl Hst.out ?_
        clear Hst
        generalize (wr.alloc (.cells #[.bool false, .int .i64 0, .int .i64 0] 82)).setCells wr.heap.size 0 [.bool false, .int .i64 m2, .int .i64 j2] = W6 at *
        have HE6 := Bl.hid (HE.out.trans HEb.out)
        have hO6 := Bl.hid (Bl.owns_ext HO.out HEb.out)
        have hx1 : (q : Int) < (m : Int) := by omega
        have hx2 : ¬ (q = cl) := by omega
        have hx3 : (0 : Int) ≤ (q : Int) := by omega
        have hx4 : (q : Int) ≤ (m : Int) := by omega
        have hx5 : (q : Int) ≤ (cl : Int) := by omega
        have hx6 : (m : Int) ≤ (cl : Int) := by omega
        have Hdr : Hid (Bl.RdD w2 (.slice (some ⟨b2, o2 + q * 32, none⟩) m2 (cl - q)) (ds'.drop q)) := Bl.hid (by have h := Bl.RdD.drop HL8.out HD.out q (by rw [Hdm.out]; omega); rw [← Hm2.out] at h; exact h)
        have Htk := Bl.hid (Bl.RdD.take (Bl.Rds.ext HL8.out HE6.out) HD.out q (by rw [Hdm.out]; omega))
        have Hov := Bl.hid (over_any _ (ds'.take q) W6 (by rw [List.length_take, Hdm.out]; omega) (HD.out.take q) Htk.out (Hg.out.ext (HE2.out.trans HE6.out)))
        have Hol := Bl.hid (Bl.overD_dig _ (ds'.take q) rfl (HD.out.take q) (by rw [List.length_take, Hdm.out]; omega))
        obtain ⟨d, hd⟩ : ∃ d, d = Bl.overD (ds'.take q) := ⟨_, rfl⟩
        rw [← hd] at Hov Hol
        have Hd : Hid (d = Bl.over Bl.ndD Bl.zD (ds'.take q)) := Bl.hid hd
        clear hd Htk
        go_wp2_with fail
        refine Hov.out.mono ?_
        rintro e w7 ⟨rfl, hE7⟩
        have HE7 := Bl.hid (HE6.out.trans hE7)
        have Hown2 := Bl.hid (Bl.owns_ext (Bl.owns_ext hO6.out hE7) (Bl.ext_alloc w7 (.cells (Bl.ints .u8 d).toArray 42)))
        have Hnew := Bl.hid (Bl.rds_dig w7 42 d Hol.out.1)
        have HE8 : Hid (Bl.Ext w2 (w7.alloc (.cells (Bl.ints .u8 d).toArray 42))) := Bl.hid (HE7.out.trans (Bl.ext_alloc _ _))
        clear hE7 Hov hc0 hc1
        go_wp2_with (with_reducible refine Bl.stop_build ?_)
        refine Bl.go_on ?_
        refine Bl.wpL_build1 tDig (by decide) rfl (by simp [Hol.out.1]) ?_
        go_wp2_with (with_reducible refine Bl.stop_append ?_)
        refine Bl.go_on ?_
        refine Bl.wpL_app tDig Hown2.out Hnew.out rfl rfl (by rw [Bl.cellsD_one, Bl.ints_length, Hol.out.1]) (Bl.cellsD_one' _) (by unfold maxLen; omega) (by omega) HE8.out.size ?_
        intro q3 d3 w9 hown9 hg9 hB9 hK9 hn9 hc9
        have HE9 : Hid (Bl.Ext w2 w9) := Bl.hid (Below.trans HE8.out hB9)
        have HA9 : Hid ((ds'.drop q).length = m2 ∧ (acc ++ [d]).length = ko + 1 ∧ ko + 1 = k + 1 ∧ T.drop (k + 1) = Bl.turnsL m2 j2 ∧ Bl.Dig (ds'.drop q) ∧ Bl.Dig (acc ++ [d]) ∧ Bl.pathL Bl.ndD Bl.zD (ds'.drop q) j2 ++ (acc ++ [d]).reverse = PD ∧ Bl.RdD w2 (.slice (some ⟨b2, o2 + q * 32, none⟩) m2 (cl - q)) (ds'.drop q) ∧ w9.ownsRow w2.heap.size 42 32 (.slice q3 (ko + 1) d3) (ko + 1) (Bl.cellsD (acc ++ [d]))) := Bl.hid
          ⟨by rw [List.length_drop, Hdm.out, Hm2.out], by rw [List.length_append, Hal.out]; rfl, by rw [HKk.out], HT3.out, HD.out.drop q, HDa.out.append (Bl.Dig.one Hol.out.1 Hol.out.2),
            by rw [← H7.out, HP1.out, List.reverse_append, List.append_assoc, Hd.out]; rfl, Hdr.out, by rw [Bl.cellsD_append]; exact hown9⟩
        have hko1 : ko + 1 ≤ tn := by have := HKk.out; omega
        have Hmq : Hid (m - q = m2) := Bl.hid Hm2.out.symm
        clear hown9 hg9 hB9 hK9 Hown2 Hnew HE8 e1
        go_wp2_with fail
        try rw [Hmq.out]
        go_roundw
        case rel => exact ⟨k + 1, j2, m2, cl - q, ko + 1, d3, _, q3, _, _, by omega, by go_num, rfl, rfl, b1, b2', hko1, HA9.out, HE9.out⟩
        case measure => simp [intOf]; omega
    · obtain rfl : k = tn := by omega
      obtain ⟨hA1, hA2, hA3, hA4, hA5, hA6, hA7, hA8, hA9⟩ := HA.out
      have hm2 : m < 2 := by
        rcases Nat.lt_or_ge m 2 with h | h
        · exact h
        · exfalso
          obtain ⟨s1, s2, s3⟩ := Bl.sp_bounds m h (by omega)
          rw [Htn.out, List.drop_length] at hA4
          by_cases hjq : j < Bl.sp m
          · rw [Bl.turnsL_left m j h (by omega) hjq] at hA4; cases hA4
          · rw [Bl.turnsL_right m j h (by omega) hjq] at hA4; cases hA4
      rw [Bl.pathL_lo _ _ _ _ (by omega), List.nil_append] at hA7
      have HO := Bl.hid hA9
      have HDa := Bl.hid hA6
      have Hal := Bl.hid hA2
      have H7 := Bl.hid hA7
      clear hA1 hA2 hA3 hA4 hA5 hA6 hA7 hA8 hA9 HA
      by_cases h0 : ko = 0
      · subst h0
        have Hnil : Hid (PD = []) := Bl.hid (by rw [← H7.out, List.length_eq_zero_iff.1 Hal.out]; rfl)
        go_wp2_with fail
        refine (revD_nil _ _ _).mono ?_
        rintro e w9 ⟨rfl, hw9⟩
        subst hw9
        go_wp2_with fail
        go_ret2
        refine ⟨.slice po 0 co, rfl, ?_, HE2.out.trans HE.out⟩
        have h := Bl.Rds.of_owns HO.out
        rw [List.length_eq_zero_iff.1 Hal.out] at h
        rw [Hnil.out]
        exact h
      · obtain ⟨g, hpo⟩ : ∃ g, po = some ⟨g, 0, none⟩ := by
          rcases HO.out.2 with ⟨hv, _⟩ | ⟨g, cap, cur, hv, _⟩
          · injection hv with _ hv; omega
          · injection hv with hv; exact ⟨g, hv⟩
        subst hpo
        obtain ⟨_, _, hvf, hvn, hvc⟩ := (Bl.Rds.of_owns HO.out).form
        injection hvf with hf1 hf2 hvf
        clear hf1 hf2
        subst hvf
        have Hgl := Bl.hid (HO.out.lt g rfl).1
        have HH : Hid (Bl.HD wr g acc) := Bl.hid (Bl.HD.of_owns (by have h := HO.out; rw [← Hal.out] at h; exact h) HDa.out)
        have hko5 : ko ≤ 512 := by omega
        have Hrv := Bl.hid (revD_any g co ko acc wr Hal.out.symm HH.out (by omega) hvn hvc)
        have Hvn := Bl.hid hvn
        have Hvc := Bl.hid hvc
        clear hvn hvc
        go_wp2_with fail
        refine Hrv.out.mono ?_
        rintro e w9 ⟨rfl, hH9, hB9⟩
        have HH9 := Bl.hid hH9
        have HB9 := Bl.hid hB9
        clear hH9 hB9 Hrv
        go_wp2_with fail
        go_ret2
        refine ⟨.slice (some ⟨g, 0, none⟩) ko co, rfl, ?_, Below.trans (HE2.out.trans HE.out) (HB9.out.mono (Nat.le_trans HE2.out.size Hgl.out))⟩
        rw [← H7.out]
        have h := HH9.out.rds (c := co) (fun d hd => HDa.out d (List.mem_reverse.1 hd)) (by rw [List.length_reverse, Hal.out]; exact Hvn.out) Hvc.out
        rw [List.length_reverse, Hal.out] at h
        exact h
end Go.Proofs.YtjmkcenkjnoblaaDoor

/- Walks of slices.Clone over digests, tree.Over. -/
import Derived.Test.YtmfooocdnoflaaaDoorWChunkD
import Derived.Test.YtmfooocdnoflaaaDoorMarks
namespace Go.Proofs.YtmfooocdnoflaaaDoor
open Go Go.RowKit Go.Proofs

attribute [local go_sem] Oper.semAt_some

set_option maxRecDepth 100000 in
set_option maxHeartbeats 400000 in
theorem cloneD_some (ad : Addr) (c : Nat) (ds : List (List Int)) (w : World) (h2 : Bl.RdD w (.slice (some ad) ds.length c) ds) (hd : Bl.Dig ds) (hl : ds.length ≤ 1048576) :
    Calls Tryd.prog 58 #[.slice (some ad) ds.length c] w fun e w' => ∃ v', e = .returned v' ∧ w'.ownsRow w.heap.size 39 32 v' ds.length (Bl.cellsD ds) ∧ Bl.Ext w w' := by
  have e0 := Lib.run_eql_slice_nil (P := Tryd.prog) w 40 39 (some ad) ds.length c 0 0 Tryd.underlying40
  have hE : Bl.Ext w (w.alloc (.cells #[] 39)) := Bl.ext_alloc _ _
  have Ho : Hid ((w.alloc (.cells #[] 39)).ownsRow w.heap.size 39 32 (.slice (some ⟨w.heap.size, 0, none⟩) 0 0) 0 []) := Bl.hid (Bl.owns_new w 39 #[] w.heap.size 0 32 (Nat.le_refl _) (by decide) rfl)
  have H2 : Hid (Bl.RdD (w.alloc (.cells #[] 39)) (.slice (some ad) ds.length c) ds) := Bl.hid (Bl.Rds.ext h2 hE)
  have Hl := Bl.hid hl
  have Hd := Bl.hid hd
  clear h2 hE hl hd
  go_enter Tryd.func58, Tryd.ntmps58
  go_wp2_with ((with_reducible refine Bl.wpL_append tDig Ho.out H2.out (Bl.cellsD_length Hd.out) (Bl.cellsD_one' _) (by have := Hl.out; unfold maxLen; omega) (by have := Hl.out; omega) (by simp) ?_ ?_ ?_); rfl; rfl; intro v' w' hown hg hB hK)
  go_ret
  rw [Nat.zero_add, List.nil_append] at hown
  exact ⟨_, rfl, hown, ((Below.refl _ _).alloc (Nat.le_refl _) _).trans hB⟩

set_option maxRecDepth 100000 in
set_option maxHeartbeats 400000 in
/-- slices.Clone of digests -/
theorem cloneD_any (v : Value) (ds : List (List Int)) (w : World) (h : Bl.RdD w v ds) (hd : Bl.Dig ds) (hl : ds.length ≤ 1048576) :
    Calls Tryd.prog 58 #[v] w fun e w' => ∃ v', e = .returned v' ∧ w'.ownsRow w.heap.size 39 32 v' ds.length (Bl.cellsD ds) ∧ Bl.Ext w w' := by
  have h2 := h
  rcases h with ⟨⟨p, rfl⟩, hn, hc⟩ | ⟨b, o, c, rfl, hnc, hcm, hr⟩
  · obtain rfl : ds = [] := List.length_eq_zero_iff.1 hn
    cases p with
    | some ad => exact cloneD_some ad 0 [] w h2 hd hl
    | none =>
      have e0 := Lib.run_eql_slice_nil (P := Tryd.prog) w 40 39 none 0 0 0 0 Tryd.underlying40
      clear hn hc h2
      go_enter Tryd.func58, Tryd.ntmps58
      go_wp2
      go_ret
      exact ⟨_, rfl, World.ownsRow_nil _ _ _ _, Below.refl _ _⟩
  · exact cloneD_some _ c ds w h2 hd hl

set_option maxRecDepth 100000 in
set_option maxHeartbeats 2000000 in
theorem over_any (v : Value) (ds : List (List Int)) (w : World) (hmax : ds.length ≤ 1048576) (hd : Bl.Dig ds) (hR : Bl.RdD w v ds) (hg : Glob w) :
    Calls Tryd.prog 38 #[v] w fun e w' => e = .returned (.agg (Bl.ints .u8 (Bl.overD ds)).toArray) ∧ Bl.Ext w w' := by
  obtain ⟨p, c, rfl, hpn, hpc⟩ := hR.form
  have Hd := Bl.hid hd
  have HR := Bl.hid hR
  have Hg := Bl.hid hg
  have HF0 := Bl.hid (fam_new w 32 .u8 39 #[.int .u8 0, .int .u8 0, .int .u8 0, .int .u8 0, .int .u8 0, .int .u8 0, .int .u8 0, .int .u8 0, .int .u8 0, .int .u8 0, .int .u8 0, .int .u8 0, .int .u8 0, .int .u8 0, .int .u8 0, .int .u8 0, .int .u8 0, .int .u8 0, .int .u8 0, .int .u8 0, .int .u8 0, .int .u8 0, .int .u8 0, .int .u8 0, .int .u8 0, .int .u8 0, .int .u8 0, .int .u8 0, .int .u8 0, .int .u8 0, .int .u8 0, .int .u8 0] rfl)
  have HE0 := Bl.hid (Bl.ext_alloc w (.cells #[.int .u8 0, .int .u8 0, .int .u8 0, .int .u8 0, .int .u8 0, .int .u8 0, .int .u8 0, .int .u8 0, .int .u8 0, .int .u8 0, .int .u8 0, .int .u8 0, .int .u8 0, .int .u8 0, .int .u8 0, .int .u8 0, .int .u8 0, .int .u8 0, .int .u8 0, .int .u8 0, .int .u8 0, .int .u8 0, .int .u8 0, .int .u8 0, .int .u8 0, .int .u8 0, .int .u8 0, .int .u8 0, .int .u8 0, .int .u8 0, .int .u8 0, .int .u8 0] 39))
  have hz0 : (w.alloc (.cells #[.int .u8 0, .int .u8 0, .int .u8 0, .int .u8 0, .int .u8 0, .int .u8 0, .int .u8 0, .int .u8 0, .int .u8 0, .int .u8 0, .int .u8 0, .int .u8 0, .int .u8 0, .int .u8 0, .int .u8 0, .int .u8 0, .int .u8 0, .int .u8 0, .int .u8 0, .int .u8 0, .int .u8 0, .int .u8 0, .int .u8 0, .int .u8 0, .int .u8 0, .int .u8 0, .int .u8 0, .int .u8 0, .int .u8 0, .int .u8 0, .int .u8 0, .int .u8 0] 39)).heap.size = w.heap.size + 1 := World.size_alloc _ _
  clear hd hR hg
  refine (callsIn_wide (n := 9)).1 ?_
  refine callsIn_of_wp_marks Tryd.func38 rfl trivial ?_ rfl
  simp only [Tryd.ntmps38, List.size_toArray, List.length_cons, List.length_nil, Nat.reduceAdd, Nat.reduceSub, Array.replicate_succ, Array.replicate_zero, List.push_toArray, List.append_toArray, List.nil_append, List.cons_append]
  refine wpIn_wide.2 ?_
  by_cases h0 : ds.length = 0
  · obtain rfl := List.length_eq_zero_iff.1 h0
    clear hpn hpc HR h0
    go_wp2_with fail
    obtain ⟨W0, hW0⟩ : ∃ W0, W0 = w.alloc (.cells #[.int .u8 0, .int .u8 0, .int .u8 0, .int .u8 0, .int .u8 0, .int .u8 0, .int .u8 0, .int .u8 0, .int .u8 0, .int .u8 0, .int .u8 0, .int .u8 0, .int .u8 0, .int .u8 0, .int .u8 0, .int .u8 0, .int .u8 0, .int .u8 0, .int .u8 0, .int .u8 0, .int .u8 0, .int .u8 0, .int .u8 0, .int .u8 0, .int .u8 0, .int .u8 0, .int .u8 0, .int .u8 0, .int .u8 0, .int .u8 0, .int .u8 0, .int .u8 0] 39) := ⟨_, rfl⟩
    rw [← hW0] at HF0 HE0 ⊢
    clear hW0 hz0
    refine (of_any _ [] W0 ⟨[], Bl.Rds.nil _, rfl, fun k hk => absurd hk (Nat.not_lt_zero _)⟩ (Hg.out.ext HE0.out) Bl.Byt.nil (by decide)).mono ?_
    rintro e w1 ⟨rfl, hE1⟩
    have HE1 := Bl.hid hE1
    have hsh : Bl.sha [].flatten = Bl.overD [] := rfl
    rw [hsh]
    obtain ⟨sh, hsh⟩ : ∃ sh, sh = Bl.overD [] := ⟨_, rfl⟩
    have Hshl : Hid (sh.length = 32) := Bl.hid (by rw [hsh]; rfl)
    have Hsh := Bl.hid hsh
    rw [← hsh]
    clear hE1 hsh
    have HFc := Bl.hid (HF0.out.below HE1.out (World.block_lt_of_cell? _ _ (HF0.out.1 0 (by decide))))
    have Hstc := Bl.hid (Bl.store_ints (P := Tryd.prog) (k := .u8) (ty := 39) (l := sh) HFc.out.there (by kernel_rfl) Hshl.out)
    go_wp2_with (((with_reducible refine Bl.wpL_store ?_ ?_ Hstc.out ?_); rfl; rfl))
    have hinc := World.rangeAt_setCells_same _ (w.heap.size) 0 (Bl.ints .u8 sh) (by rw [Bl.ints_length, Hshl.out]; exact HFc.out.there)
    refine Bl.leaves_marks (B := w.heap.size + 1) _ 0 _ (trivial) ?_
    intro w' hw'
    have hinw : w'.rangeAt (w.heap.size) 0 (Bl.ints .u8 sh) := fun j v hv => ((Bl.bcell hw').1 _ _ (Nat.lt_succ_self _)).trans (hinc j v hv)
    have hldc := run_loadVar_mid (P := Tryd.prog) _ (w.heap.size) 0 39 (Bl.ints .u8 sh) _ hinw Tryd.underlying39 rfl (by rw [Bl.ints_length, Hshl.out]; kernel_rfl)
    exact ⟨_, Bl.results_cell rfl rfl hldc, by rw [Hsh.out], (Bl.below_setCells _ _ _ _ (HE0.out.trans HE1.out) (Nat.le_refl _)).trans (hw'.mono (Nat.le_succ _))⟩
  · have hl0 : ((ds.length : Int) == 0) = false := by rw [beq_eq_false_iff_ne]; omega
    go_wp2_with fail
    obtain ⟨W0, hW0⟩ : ∃ W0, W0 = w.alloc (.cells #[.int .u8 0, .int .u8 0, .int .u8 0, .int .u8 0, .int .u8 0, .int .u8 0, .int .u8 0, .int .u8 0, .int .u8 0, .int .u8 0, .int .u8 0, .int .u8 0, .int .u8 0, .int .u8 0, .int .u8 0, .int .u8 0, .int .u8 0, .int .u8 0, .int .u8 0, .int .u8 0, .int .u8 0, .int .u8 0, .int .u8 0, .int .u8 0, .int .u8 0, .int .u8 0, .int .u8 0, .int .u8 0, .int .u8 0, .int .u8 0, .int .u8 0, .int .u8 0] 39) := ⟨_, rfl⟩
    rw [← hW0] at HF0 HE0 hz0 ⊢
    clear hW0
    refine (cloneD_any _ ds W0 (Bl.Rds.ext HR.out HE0.out) Hd.out hmax).mono ?_
    rintro e w2 ⟨v2, rfl, hown2, hE2⟩
    obtain ⟨p2, c2, rfl, hn2, hc2⟩ := (Bl.Rds.of_owns hown2).form
    have HR2 : Hid (Bl.RdD w2 (.slice p2 ds.length c2) ds) := Bl.hid (Bl.Rds.of_owns hown2)
    have HE2 := Bl.hid hE2
    clear hown2 hE2 hn2 hc2
    go_wp2_with fail
    refine wp_loop (fun a wr => ∃ (r : List (List Int)) (n : Nat) (q : Option Addr) (cq : Nat) (defs : List Deferred) (u4 u12 u13 u14 u15 u16 u37 : Value),
      (Hid (0 < r.length ∧ r.length ≤ 1048576 ∧ Bl.Dig r ∧ Bl.overD r = Bl.overD ds ∧ Bl.RdD wr (.slice q r.length cq) r ∧ Bl.Marks (w.heap.size + 1) wr wr.heap.size defs ∧ Bl.Ext W0 wr ∧ r.length = n)) ∧
      a = { tmps := #[.slice p ds.length c, undef, .pointer (some ⟨w.heap.size, 0, none⟩), .slice q n cq, u4, undef, .slice p ds.length c, .int .i64 ds.length, .bool false, undef, .slice p ds.length c, .slice p2 ds.length c2, u12, u13, u14, u15, u16, undef, undef, undef, undef, undef, undef, undef, undef, undef, undef, undef, undef, undef, undef, undef, undef, undef, undef, undef, undef, u37, undef, undef, undef], defers := defs })
      (fun a _ => Bl.lenS (a.tmps.getD 3 undef)) ?_ ?_
    · refine ⟨ds, ds.length, p2, c2, [], _, _, _, _, _, _, _, Bl.hid ⟨by omega, hmax, Hd.out, rfl, HR2.out, trivial, HE2.out, rfl⟩, rfl⟩
    · intro a wr hinv
      obtain ⟨r, n, q, cq, defs, u4, u12, u13, u14, u15, u16, u37, Hinv, rfl⟩ := hinv
      obtain ⟨hr0, hr1, hrd, hov, hrr, hM, hE, hrn⟩ := Hinv.out
      subst hrn
      obtain ⟨b, o, cq', hqe, hqn, hqc, hbl, hrg⟩ := Bl.RdD.pos hrr hrd hr0
      cases hqe
      have Hrd := Bl.hid hrd
      have Hov := Bl.hid hov
      have Hrg := Bl.hid hrg
      have HM := Bl.hid hM
      have HE := Bl.hid hE
      clear hrd hov hrr hrg hM hE Hinv
      have hszr : w.heap.size + 1 ≤ wr.heap.size := by have := HE.out.size; omega
      by_cases h1 : r.length = 1
      · obtain ⟨d, rfl⟩ : ∃ d, r = [d] := by
          match r, h1 with
          | [d], _ => exact ⟨d, rfl⟩
        obtain ⟨hdl, _⟩ := Hrd.out d (by simp)
        have Hdl := Bl.hid hdl
        have Hrg1 : Hid (wr.rangeAt b o (Bl.ints .u8 d)) := Bl.hid (by have := Hrg.out; rw [Bl.cellsD_one] at this; exact this)
        have Hd1 : Hid (d = Bl.overD ds) := Bl.hid (by rw [← Hov.out]; exact (Bl.over_one _ _ d).symm)
        clear hdl hr0 hr1 h1 Hrd Hrg
        go_wp2_with (with_reducible refine Bl.stop_load (ty := 39) ?_)
        refine Bl.go_on ?_
        refine Bl.wpL_load rfl (Bl.load_ints Hrg1.out Tryd.underlying39 (by kernel_rfl) Hdl.out) ?_
        have HFc := Bl.hid (HF0.out.below HE.out (World.block_lt_of_cell? _ _ (HF0.out.1 0 (by decide))))
        have Hstc := Bl.hid (Bl.store_ints (P := Tryd.prog) (k := .u8) (ty := 39) (l := d) HFc.out.there (by kernel_rfl) Hdl.out)
        go_wp2_with (((with_reducible refine Bl.wpL_store ?_ ?_ Hstc.out ?_); rfl; rfl))
        have hinc := World.rangeAt_setCells_same _ (w.heap.size) 0 (Bl.ints .u8 d) (by rw [Bl.ints_length, Hdl.out]; exact HFc.out.there)
        refine Bl.leaves_marks (B := w.heap.size + 1) _ wr.heap.size _ (Bl.Marks.keep _ _ (fun k hk _ _ => Bl.exc_setCells _ _ _ (Bl.Exc.refl w.heap.size wr) k (by omega)) HM.out) ?_
        intro w' hw'
        have hinw : w'.rangeAt (w.heap.size) 0 (Bl.ints .u8 d) := fun j v hv => ((Bl.bcell hw').1 _ _ (Nat.lt_succ_self _)).trans (hinc j v hv)
        have hldc := run_loadVar_mid (P := Tryd.prog) _ (w.heap.size) 0 39 (Bl.ints .u8 d) _ hinw Tryd.underlying39 rfl (by rw [Bl.ints_length, Hdl.out]; kernel_rfl)
        exact ⟨_, Bl.results_cell rfl rfl hldc, by rw [Hd1.out], (Bl.below_setCells _ _ _ _ (HE0.out.trans HE.out) (Nat.le_refl _)).trans (hw'.mono (Nat.le_succ _))⟩
      · have hgt : (1 : Int) < (r.length : Int) := by omega
        go_wp2_with fail
        have hcU0 := Bl.cell_new1 wr (.slice none 0 0) 40
        have hfU0 : (wr.alloc (.cells #[.slice none 0 0] 40)).frozen? ⟨wr.heap.size, 0, none⟩ = false := by simp
        refine (chunkD_any _ _ _ _).mono ?_
        rintro e w5 ⟨rfl, hw5⟩
        rw [World.size_alloc]
        have hE4 : Bl.Ext (wr.alloc (.cells #[.slice none 0 0] 40)) w5 := by
          rw [hw5]; exact ((Below.refl _ _).alloc (Nat.le_refl _) _).alloc (by simp) _
        have hE5 : Bl.Ext wr w5 := (Bl.ext_alloc _ _).trans (hE4.mono (by simp))
        have hE5b : Below wr.heap.size wr w5 := hE5
        have hcs : w5.cell? ⟨wr.heap.size + 1, 0, none⟩ = some (.slice (some ⟨b, o, none⟩) r.length cq) := by
          rw [hw5]
          exact ((Bl.bcell ((Below.refl _ _).alloc (Nat.le_refl _) _)).1 _ _ (by simp)).trans (by simp)
        have hcn : w5.cell? ⟨wr.heap.size + 1 + 1, 0, none⟩ = some (.int .i64 2) := by
          rw [hw5]
          have := Bl.cell_new1 ((wr.alloc (.cells #[.slice none 0 0] 40)).alloc (.cells #[.slice (some ⟨b, o, none⟩) r.length cq] 40)) (.int .i64 2) 3
          simpa using this
        have hsz5 : w5.heap.size = wr.heap.size + 3 := by rw [hw5]; simp
        have hcU : w5.cell? ⟨wr.heap.size, 0, none⟩ = some (.slice none 0 0) := ((Bl.bcell hE4).1 _ _ (by simp)).trans hcU0
        have hfU : w5.frozen? ⟨wr.heap.size, 0, none⟩ = false := ((Bl.bcell hE4).2 _ _ (by simp)).trans hfU0
        obtain ⟨m, hm⟩ : ∃ m, m = (r.length + 1) / 2 := ⟨_, rfl⟩
        clear hw5 hE4 hcU0 hfU0
        go_wp2_with fail
        refine (wpIn_wide (n := 9)).1 ?_
        apply wpIn_rangeFunc_ownF (F := Fence.wide) (encs := fun x : Fin m => #[Value.slice (some ⟨b, o + 2 * x.val * 32, none⟩) (Bl.ln r.length x.val) (Bl.ln r.length x.val)]) (Kp := Bl.Keep wr.heap.size w5.heap.size) rfl (by decide) (gf := 74) (lb := #[.pointer (some ⟨wr.heap.size + 1, 0, none⟩), .pointer (some ⟨wr.heap.size + 1 + 1, 0, none⟩)]) rfl trivial (enters_of Tryd.func74 (by kernel_rfl) rfl)
          (chunkD_stops 8 (wr.heap.size + 1) (wr.heap.size + 1 + 1) wr.heap.size b o r.length m cq (by decide) (by omega) (by omega) hqn hr1 hqc w5 (by omega) (by omega) (by omega) (by omega) hcs hcn)
          (fun h k => Bl.Keep.trans h k) (Bl.Keep.putObj (Nat.le_refl _)) (Below.refl _ _) (fun _ => rfl)
          (fun pre W => Bl.UpAt 39 wr.heap.size w5.heap.size (fun x : Fin m => Bl.upD r x.val) pre W ∧ (Bl.Keep wr.heap.size w5.heap.size w5 W ∧ Below wr.heap.size w5 W))
          (fun _ _ _ => False)
        case hI => exact OwnFrom.and (Bl.UpAt.from (by omega)) (OwnFrom.and (Bl.ownFrom_keep (Nat.le_refl _) (Nat.le_refl _)) (ownFrom_below (by omega) (by omega)))
        case hIx => exact fun _ _ _ _ _ hs _ _ => hs
        case h0 => exact ⟨⟨none, 0, hcU, hfU, World.ownsRow_nil _ _ _ _⟩, Bl.Keep.refl _ _ _, Below.refl _ _⟩
        case hassign =>
          intro lr x W K hK
          gi_wp2
          exact hK
        case hbody =>
          rintro lr pre x W ⟨⟨pu, cu, hcuW, hfuW, hown⟩, hKp, hBW⟩ hlen
          have hgl : wr.heap.size < W.heap.size := World.block_lt_of_cell? _ _ hcuW
          have hx : x.val < m := x.isLt
          have hrW : W.rangeAt b o (Bl.cellsD r) := Bl.rangeAt_ext Hrg.out (hE5b.trans hBW)
          have hgw : Glob W := Hg.out.ext ((HE0.out.trans HE.out).trans (show Bl.Ext wr W from hE5b.trans hBW))
          have Hown := Bl.hid hown
          have HKp := Bl.hid hKp
          have HBW := Bl.hid hBW
          have Hgw := Bl.hid hgw
          have HL0 : Hid (∀ w1, Bl.Ext W w1 → (Instr.loadAt 39 (.pointer (some ⟨b, o + 2 * x.val * 32, none⟩))).run Tryd.prog w1 = .ok (.agg (Bl.ints .u8 (r.getD (2 * x.val) [])).toArray) w1) := Bl.hid fun w1 h1 =>
            Bl.load_ints (Bl.rangeAt_ext (Bl.digit_at hrW Hrd.out (by omega)) h1) Tryd.underlying39 (by kernel_rfl) (Hrd.out.get (by omega)).1
          obtain ⟨hd0, hb0⟩ := Hrd.out.get (i := 2 * x.val) (by omega)
          clear hown hKp hBW hgw
          by_cases hf : 2 * x.val + 2 ≤ r.length
          · have hln : Bl.ln r.length x.val = 2 := if_pos hf
            have HL1 : Hid (∀ w1, Bl.Ext W w1 → (Instr.loadAt 39 (.pointer (some ⟨b, o + 2 * x.val * 32 + 32, none⟩))).run Tryd.prog w1 = .ok (.agg (Bl.ints .u8 (r.getD (2 * x.val + 1) [])).toArray) w1) := Bl.hid fun w1 h1 => by
              have h := Bl.digit_at hrW Hrd.out (i := 2 * x.val + 1) (by omega)
              rw [show o + (2 * x.val + 1) * 32 = o + 2 * x.val * 32 + 32 from by omega] at h
              exact Bl.load_ints (Bl.rangeAt_ext h h1) Tryd.underlying39 (by kernel_rfl) (Hrd.out.get (by omega)).1
            obtain ⟨hd1, hb1⟩ := Hrd.out.get (i := 2 * x.val + 1) (by omega)
            have HN : Hid (∀ w1, Bl.Ext W w1 → Calls Tryd.prog 60 #[.agg (Bl.ints .u8 (r.getD (2 * x.val) [])).toArray, .agg (Bl.ints .u8 (r.getD (2 * x.val + 1) [])).toArray] w1 fun e w' => e = .returned (.agg (Bl.ints .u8 (Bl.upD r x.val)).toArray) ∧ Bl.Ext w1 w') := Bl.hid fun w1 h1 => by
              rw [show Bl.upD r x.val = Bl.ndD (r.getD (2 * x.val) []) (r.getD (2 * x.val + 1) []) from if_pos hf]
              exact node_any _ _ w1 hd0 hd1 hb0 hb1 (Hgw.out.ext h1)
            have Hnl : Hid ((Bl.upD r x.val).length = 32) := Bl.hid (by rw [show Bl.upD r x.val = Bl.ndD (r.getD (2 * x.val) []) (r.getD (2 * x.val + 1) []) from if_pos hf]; exact Bl.ndD_length _ _)
            obtain ⟨d0, hd0e⟩ : ∃ d0, d0 = r.getD (2 * x.val) [] := ⟨_, rfl⟩
            obtain ⟨d1, hd1e⟩ : ∃ d1, d1 = r.getD (2 * x.val + 1) [] := ⟨_, rfl⟩
            obtain ⟨dn, hdn⟩ : ∃ dn, dn = Bl.upD r x.val := ⟨_, rfl⟩
            rw [← hd0e] at HL0 HN
            rw [← hd1e] at HL1 HN
            rw [← hdn] at HN Hnl
            have Hdn := Bl.hid hdn
            clear hd0 hb0 hd1 hb1 hd0e hd1e hdn hrW hf
            simp only [hln]
            gi_wp2
            apply Bl.wpIn_region_ev 9 [21, 22, 23, 24, 25, 26, 27, 28, 29] [Bl.eqv _, Bl.eqv _, Bl.eqv _, Bl.eqv _, Bl.eqv _, Bl.eqv _, Bl.eqv _, Bl.eqv _, (fun v w' => Bl.Rds w' v 1 (Bl.cellsD [dn]))] (by kernel_rfl) (by kernel_rfl) (by kernel_rfl) (by kernel_rfl) (by kernel_rfl)
            case hsteps =>
              refine ⟨?_, ?_, ?_, ?_, ?_, ?_, ?_, ?_, ?_, trivial⟩
              all_goals
                intro ev w1 hext hb hd
                have e4 := hb 4 (by decide)
                have e5 := hb 5 (by decide)
                clear hb
                simp only [Array.getD_eq_getD_getElem?, List.getElem?_toArray, List.getElem?_cons_succ, List.getElem?_cons_zero, Option.getD_some] at e4 e5
                simp only [Bl.DepsE, List.getElem?_cons_succ, List.getElem?_cons_zero, Option.bind_some, List.getD_cons_succ, List.getD_cons_zero, Bl.eqv, and_true] at hd
                have hc := (Bl.bcell hext).1
                have hcu1 := (hc _ 0 hgl).trans hcuW
                have hld0 := HL0.out w1 hext
                have hld1 := HL1.out w1 hext
                simp only [Bl.Good, Region.wanted, if_true]
                first
                | ((with_reducible refine Bl.goodR_load ?_ hld0 ?_); exact hd; exact rfl) | ((with_reducible refine Bl.goodR_load ?_ hld1 ?_); exact hd; exact rfl) | exact Bl.goodR_build1 tDig (by decide) hd (by simp [Hnl.out]) (Bl.rds_dig w1 39 dn Hnl.out)
                | (go_simp; first | (go_at_call 60; (with_reducible refine (HN.out _ hext).mono ?_); rintro e w2 ⟨rfl, hE2⟩; exact ⟨_, rfl, hE2, rfl⟩) | exact ⟨Below.refl _ _, rfl⟩)
            case hmono => exact ⟨Bl.mono_eqv _, Bl.mono_eqv _, Bl.mono_eqv _, Bl.mono_eqv _, Bl.mono_eqv _, Bl.mono_eqv _, Bl.mono_eqv _, Bl.mono_eqv _, (fun _ _ _ h k => Bl.Rds.ext h k), trivial⟩
            case hend =>
              intro u w1 hext hend
              simp only [Bl.EndE, List.getElem?_cons_succ, List.getElem?_cons_zero, Option.bind_some, List.getD_cons_succ, List.getD_cons_zero, Bl.eqv, true_and] at hend
              simp only [Bl.fillAct, List.setIfInBounds_toArray, List.set_cons_succ, List.set_cons_zero, List.drop_succ_cons, List.drop_zero, hend]
              have hrd := hend.2
              have HownA := Bl.hid (Bl.owns_ext Hown.out hext)
              have hszA := HKp.out.1
              have hszB : W.heap.size ≤ w1.heap.size := hext.size
              have hpl : pre.length ≤ 1048576 := by omega
              refine Bl.wpLI_app1 tDig HownA.out hrd rfl rfl (by rw [Bl.cellsD_one, Bl.ints_length, Hnl.out]) (Bl.cellsD_one' _) (by unfold maxLen; omega) (by omega) (by omega) ?_
              intro p6 c6 w6 hown6 hg6
              have hne6 : some wr.heap.size ≠ (Value.slice pu pre.length cu).ownBlock := fun e => by have := (HownA.out.lt _ e.symm).1; omega
              have hc6 : w6.cell? ⟨wr.heap.size, 0, none⟩ = some (.slice pu pre.length cu) := (hg6.cell_far ⟨wr.heap.size, 0, none⟩ (show wr.heap.size < _ by omega) hne6).trans (((Bl.bcell hext).1 _ 0 hgl).trans hcuW)
              have hf6 : w6.frozen? ⟨wr.heap.size, 0, none⟩ = false := (hg6.frozen_far ⟨wr.heap.size, 0, none⟩ (show wr.heap.size < _ by omega) hne6).trans (((Bl.bcell hext).2 _ 0 hgl).trans hfuW)
              rw [Hdn.out] at hown6
              have hpost := Bl.hid (Bl.up_post (f := fun x : Fin m => Bl.upD r x.val) (x := x) (by omega) HKp.out HBW.out hext hg6 HownA.out hown6 hcuW hfuW)
              clear hown6 hg6 hend hrd
              gi_wp2
              exact hpost.out
          · have hln : Bl.ln r.length x.val = 1 := if_neg hf
            have Hup : Hid (Bl.upD r x.val = r.getD (2 * x.val) []) := Bl.hid (if_neg hf)
            obtain ⟨d0, hd0e⟩ : ∃ d0, d0 = r.getD (2 * x.val) [] := ⟨_, rfl⟩
            rw [← hd0e] at HL0 Hup hd0
            have Hnl := Bl.hid hd0
            clear hd0 hb0 hd0e hrW hf
            simp only [hln]
            gi_wp2
            apply Bl.wpIn_region_ev 5 [31, 32, 33, 34, 35] [Bl.eqv _, Bl.eqv _, Bl.eqv _, Bl.eqv _, (fun v w' => Bl.Rds w' v 1 (Bl.cellsD [d0]))] (by kernel_rfl) (by kernel_rfl) (by kernel_rfl) (by kernel_rfl) (by kernel_rfl)
            case hsteps =>
              refine ⟨?_, ?_, ?_, ?_, ?_, trivial⟩
              all_goals
                intro ev w1 hext hb hd
                have e4 := hb 4 (by decide)
                have e5 := hb 5 (by decide)
                clear hb
                simp only [Array.getD_eq_getD_getElem?, List.getElem?_toArray, List.getElem?_cons_succ, List.getElem?_cons_zero, Option.getD_some] at e4 e5
                simp only [Bl.DepsE, List.getElem?_cons_succ, List.getElem?_cons_zero, Option.bind_some, List.getD_cons_succ, List.getD_cons_zero, Bl.eqv, and_true] at hd
                have hc := (Bl.bcell hext).1
                have hcu1 := (hc _ 0 hgl).trans hcuW
                have hld0 := HL0.out w1 hext
                simp only [Bl.Good, Region.wanted, if_true]
                first
                | ((with_reducible refine Bl.goodR_load ?_ hld0 ?_); exact hd; exact rfl) | exact Bl.goodR_build1 tDig (by decide) hd (by simp [Hnl.out]) (Bl.rds_dig w1 39 d0 Hnl.out)
                | (go_simp; first | exact ⟨Below.refl _ _, rfl⟩)
            case hmono => exact ⟨Bl.mono_eqv _, Bl.mono_eqv _, Bl.mono_eqv _, Bl.mono_eqv _, (fun _ _ _ h k => Bl.Rds.ext h k), trivial⟩
            case hend =>
              intro u w1 hext hend
              simp only [Bl.EndE, List.getElem?_cons_succ, List.getElem?_cons_zero, Option.bind_some, List.getD_cons_succ, List.getD_cons_zero, Bl.eqv, true_and] at hend
              simp only [Bl.fillAct, List.setIfInBounds_toArray, List.set_cons_succ, List.set_cons_zero, List.drop_succ_cons, List.drop_zero, hend]
              have hrd := hend.2
              have HownA := Bl.hid (Bl.owns_ext Hown.out hext)
              have hszA := HKp.out.1
              have hszB : W.heap.size ≤ w1.heap.size := hext.size
              have hpl : pre.length ≤ 1048576 := by omega
              refine Bl.wpLI_app1 tDig HownA.out hrd rfl rfl (by rw [Bl.cellsD_one, Bl.ints_length, Hnl.out]) (Bl.cellsD_one' _) (by unfold maxLen; omega) (by omega) (by omega) ?_
              intro p6 c6 w6 hown6 hg6
              have hne6 : some wr.heap.size ≠ (Value.slice pu pre.length cu).ownBlock := fun e => by have := (HownA.out.lt _ e.symm).1; omega
              have hc6 : w6.cell? ⟨wr.heap.size, 0, none⟩ = some (.slice pu pre.length cu) := (hg6.cell_far ⟨wr.heap.size, 0, none⟩ (show wr.heap.size < _ by omega) hne6).trans (((Bl.bcell hext).1 _ 0 hgl).trans hcuW)
              have hf6 : w6.frozen? ⟨wr.heap.size, 0, none⟩ = false := (hg6.frozen_far ⟨wr.heap.size, 0, none⟩ (show wr.heap.size < _ by omega) hne6).trans (((Bl.bcell hext).2 _ 0 hgl).trans hfuW)
              rw [← Hup.out] at hown6
              have hpost := Bl.hid (Bl.up_post (f := fun x : Fin m => Bl.upD r x.val) (x := x) (by omega) HKp.out HBW.out hext hg6 HownA.out hown6 hcuW hfuW)
              clear hown6 hg6 hend hrd
              gi_wp2
              exact hpost.out
        case hdone =>
          rintro D ys W hD rfl ⟨⟨pu, cu, hcuW, hfuW, hown⟩, hKp, hBW⟩ hK
          have hDl : D < W.heap.size := (Array.getElem?_eq_some_iff.1 hK).1
          have hrW : Bl.Ext wr W := hE5b.trans hBW
          rw [Bl.up_eq r m hm] at hown
          have hul := Bl.up_length Bl.ndD r
          have hfl : (List.finRange m).length = m := by simp
          have hN : (Bl.up Bl.ndD r).length = (List.finRange m).length := by rw [hul, hfl]; exact hm.symm
          have Hrel : Hid (0 < (Bl.up Bl.ndD r).length ∧ (Bl.up Bl.ndD r).length ≤ 1048576 ∧ Bl.Dig (Bl.up Bl.ndD r) ∧ Bl.overD (Bl.up Bl.ndD r) = Bl.overD ds ∧ Bl.RdD W (.slice pu (Bl.up Bl.ndD r).length cu) (Bl.up Bl.ndD r) ∧ Bl.Marks (w.heap.size + 1) W W.heap.size ({ target := .collected D, args := #[] } :: defs) ∧ Bl.Ext W0 W ∧ (Bl.up Bl.ndD r).length = (r.length + 1) / 2) := Bl.hid
            ⟨by omega, by omega, Bl.dig_up r Hrd.out, by rw [Bl.overD_up r hr1, Hov.out], by show Bl.Rds W (.slice pu (Bl.up Bl.ndD r).length cu) (Bl.up Bl.ndD r).length _; rw [hN]; exact Bl.Rds.of_owns hown,
              ⟨D, rfl, by omega, hDl, hK, Bl.Marks.mono _ (by omega) (Bl.Marks.keep _ _ (fun k _ hk _ => hrW.block k hk) HM.out)⟩, HE.out.trans hrW, hul⟩
          have hlt : (r.length + 1) / 2 < r.length := by omega
          clear hown hN hul hfl hKp hBW hK
          go_wp2_with fail
          refine ⟨⟨Bl.up Bl.ndD r, (r.length + 1) / 2, pu, cu, _, _, _, _, _, _, _, _, Hrel, rfl⟩, ?_⟩
          exact hlt
        case hstop =>
          rintro D c pre W _ _ h _
          exact h.elim
end Go.Proofs.YtmfooocdnoflaaaDoor

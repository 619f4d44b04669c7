/- The walk of sha.spread: the words of a chunk. -/
import Derived.Test.YtdodgcapihfkkaaDoorWSha1
import Derived.Test.YtdodgcapihfkkaaDoorBase
import Derived.Test.YtdodgcapihfkkaaDoorRegion
import Derived.IntWalk
namespace Go.Proofs.YtdodgcapihfkkaaDoor
open Go.RowKit Go.Proofs

theorem fam_alloc (w : World) (n : Nat) (k : IntKind) (t : TypeId) (cs : Array Value) (f : Nat → Int) (hcs : ∀ i, i < n → cs[i]? = some (.int k (f i))) : Bl.Fam (w.alloc (.cells cs t)) w.heap.size k n f :=
  ⟨fun i hi => by rw [World.cell?_alloc_new]; exact hcs i hi, fun i => by simp⟩

theorem mixed_all (x a b c : Int) (w : World) (h : (a = 17 ∧ b = 19 ∧ c = 10) ∨ (a = 7 ∧ b = 18 ∧ c = 3)) : Calls Tryd.prog 155 #[.int .u32 x, .int .i64 a, .int .i64 b, .int .i64 c] w fun e w' => e = .returned (.int .u32 (Bl.mix a.toNat b.toNat c.toNat x)) ∧ ∃ n, w' = w.drewN n := by
  rcases h with ⟨rfl, rfl, rfl⟩ | ⟨rfl, rfl, rfl⟩
  · exact mixed_17 x w
  · exact mixed_7 x w

theorem fam_new (w : World) (n : Nat) (k : IntKind) (t : TypeId) (cs : Array Value) (hcs : cs.toList = List.replicate n (Value.int k 0)) : Bl.Fam (w.alloc (.cells cs t)) w.heap.size k n (fun _ => 0) := by
  refine ⟨fun i hi => ?_, fun i => by simp⟩
  rw [World.cell?_alloc_new]
  rw [← Array.getElem?_toList, hcs]
  simp [hi]

theorem info64 : (Tryd.prog.info? 135).map (·.size) = some 64 := by kernel_rfl

set_option maxRecDepth 100000 in
set_option maxHeartbeats 1000000 in
theorem spread_any (bb o c : Nat) (blk : List Int) (hl : blk.length = 64) (hc : 64 ≤ c) (hcc : c ≤ maxLen) (w : World) (hb : ∀ i, i < blk.length → w.cell? ⟨bb, o + i, none⟩ = some (.int .u8 (blk.getD i 0))) (hbb : bb < w.heap.size) (hby : Bl.Byt blk) :
    Calls Tryd.prog 134 #[.slice (some ⟨bb, o, none⟩) 64 c] w fun e w' => e = .returned (.agg (Bl.ints .u32 (Bl.wl blk 64)).toArray) ∧ Bl.Ext w w' := by
  unfold maxLen at hcc
  have Hb := Bl.hid hb; clear hb
  have Hl := Bl.hid hl; clear hl
  go_enter Tryd.func134, Tryd.ntmps134
  go_wp2_with fail
  go_loopw [8] (fun i wr => ∃ t : Nat, t ≤ 16 ∧ i = .int .i64 t ∧ Bl.Fam wr w.heap.size .u32 64 (fun _ => 0) ∧ Bl.Fam wr (w.heap.size + 1) .u32 64 (fun j => if j < t then Bl.word blk j else 0) ∧ Below w.heap.size w wr) (fun i _ => 16 - (intOf i).toNat)
  case atStart =>
    refine ⟨0, by omega, rfl, ?_, ?_, ?_⟩
    · exact (fam_new w 64 .u32 _ _ rfl).alloc (by simp) _
    · have := fam_new (w.alloc (.cells (List.replicate 64 (Value.int .u32 0)).toArray 135)) 64 .u32 135 (List.replicate 64 (Value.int .u32 0)).toArray rfl
      simp only [World.size_alloc] at this
      exact this.congr (fun i _ => by simp)
    · exact (((Below.refl _ _).alloc (Nat.le_refl _) _).alloc (by simp) _)
  case round =>
    obtain ⟨t, ht, rfl, hF0, hF1, hB⟩ := hrel
    have HF0 := Bl.hid hF0; clear hF0
    have HF1 := Bl.hid hF1; clear hF1
    by_cases hlt : t < 16
    · go_wp2_with fail
      obtain ⟨wo, hwo⟩ : ∃ wo : World, wo = wr := ⟨_, rfl⟩
      rw [← hwo]
      have HW := Bl.hid hwo; clear hwo
      go_loopw [19] (fun i wr => ∃ j : Nat, j ≤ 4 ∧ i = .int .i64 j ∧ Bl.Fam wr w.heap.size .u32 64 (fun _ => 0) ∧ Bl.Fam wr (w.heap.size + 1) .u32 64 (fun i => if i < t then Bl.word blk i else if i = t then Bl.part blk t j else 0) ∧ Below w.heap.size w wr) (fun i _ => 4 - (intOf i).toNat)
      case atStart =>
        refine ⟨0, by omega, rfl, ?_, ?_, ?_⟩
        · rw [HW.out]; exact HF0.out
        · rw [HW.out]; exact HF1.out.congr (fun i _ => by rw [Bl.part_zero]; split <;> simp)
        · rw [HW.out]; exact hB
      case round =>
        obtain ⟨j, hj, rfl, hF0', hF1', hB'⟩ := hrel
        have HF0' := Bl.hid hF0'
        have HF1' := Bl.hid hF1'
        by_cases hjl : j < 4
        · have hp := Bl.part_succ blk t j (by rw [Hl.out]; omega)
          obtain ⟨x, hx⟩ : ∃ x, x = blk.getD (4 * t + j) 0 := ⟨_, rfl⟩
          have hcell : wr.cell? ⟨bb, o + 4 * t + j, none⟩ = some (.int .u8 x) := by
            rw [(Bl.bcell hB').1 _ _ hbb, Nat.add_assoc, hx]
            exact Hb.out (4 * t + j) (by rw [Hl.out]; omega)
          obtain ⟨hx0, hx1⟩ : 0 ≤ x ∧ x ≤ 255 := by rw [hx]; exact hby.get _
          rw [← hx] at hp
          have Hp := Bl.hid hp
          clear hx hp
          have hw : wr.cell? ⟨w.heap.size + 1, t, none⟩ = some (.int .u32 (Bl.part blk t j)) := by
            rw [hF1'.1 t (by omega)]; simp
          have hz : wr.frozen? ⟨w.heap.size + 1, t, none⟩ = false := hF1'.2 t
          clear hF0' hF1'
          go_wp2_with fail
          go_roundw
          case rel =>
            refine ⟨j + 1, by omega, by go_num, HF0'.out.other _ _ (by simp), ?_, hB'.setCell (by simp) _⟩
            refine (HF1'.out.set t (by omega) _).congr (fun i hi => ?_)
            by_cases e : i = t
            · subst e; rw [if_pos rfl, if_neg (by omega), if_pos rfl, Hp.out]; rfl
            · rw [if_neg e]; simp only [e, if_false]
          case measure => simp [intOf]; omega
        · obtain rfl : j = 4 := by omega
          clear hF0' hF1'
          go_wp2_with fail
          go_roundw
          case rel =>
            refine ⟨t + 1, by omega, by go_num, HF0'.out, HF1'.out.congr (fun i hi => ?_), hB'⟩
            by_cases e : i = t
            · subst e; rw [if_neg (by omega), if_pos rfl, if_pos (by omega), Bl.part_four]
            · by_cases e2 : i < t
              · rw [if_pos e2, if_pos (by omega)]
              · rw [if_neg e2, if_neg e, if_neg (by omega)]
          case measure => simp [intOf]; omega
    · have HF1' : Hid (Bl.Fam wr (w.heap.size + 1) .u32 64 (fun j => if j < 16 then Bl.ww blk j else 0)) := by
        refine HF1.out.congr (fun i hi => ?_)
        by_cases e : i < 16
        · rw [if_pos (by omega), if_pos e, Bl.ww_lo _ _ e]
        · rw [if_neg (by omega), if_neg e]
      clear HF1
      go_wp2_with fail
      obtain ⟨wo, hwo⟩ : ∃ wo : World, wo = wr := ⟨_, rfl⟩
      rw [← hwo]
      have HW := Bl.hid hwo; clear hwo
      go_loopw [7] (fun i wr => ∃ t : Nat, 16 ≤ t ∧ t ≤ 64 ∧ i = .int .i64 t ∧ Bl.Fam wr w.heap.size .u32 64 (fun _ => 0) ∧ Bl.Fam wr (w.heap.size + 1) .u32 64 (fun i => if i < t then Bl.ww blk i else 0) ∧ Below w.heap.size w wr) (fun i _ => 64 - (intOf i).toNat)
      case atStart => exact ⟨16, by omega, by omega, rfl, by rw [HW.out]; exact HF0.out, by rw [HW.out]; exact HF1'.out, by rw [HW.out]; exact hB⟩
      case round =>
        obtain ⟨t, ht1, ht2, rfl, hG0, hG1, hB'⟩ := hrel
        have HG0 := Bl.hid hG0; clear hG0
        have HG1 := Bl.hid hG1
        by_cases hlt : t < 64
        · have h2 : wr.cell? ⟨w.heap.size + 1, t - 2, none⟩ = some (.int .u32 (Bl.ww blk (t - 2))) := by rw [hG1.1 _ (by omega)]; exact congrArg (fun v => some (Value.int .u32 v)) (if_pos (by omega))
          have h7 : wr.cell? ⟨w.heap.size + 1, t - 7, none⟩ = some (.int .u32 (Bl.ww blk (t - 7))) := by rw [hG1.1 _ (by omega)]; exact congrArg (fun v => some (Value.int .u32 v)) (if_pos (by omega))
          have h15 : wr.cell? ⟨w.heap.size + 1, t - 15, none⟩ = some (.int .u32 (Bl.ww blk (t - 15))) := by rw [hG1.1 _ (by omega)]; exact congrArg (fun v => some (Value.int .u32 v)) (if_pos (by omega))
          have h16 : wr.cell? ⟨w.heap.size + 1, t - 16, none⟩ = some (.int .u32 (Bl.ww blk (t - 16))) := by rw [hG1.1 _ (by omega)]; exact congrArg (fun v => some (Value.int .u32 v)) (if_pos (by omega))
          have hz : wr.frozen? ⟨w.heap.size + 1, t, none⟩ = false := hG1.2 t
          have h0 : wr.cell? ⟨w.heap.size + 1, t, none⟩ = some (.int .u32 0) := by rw [hG1.1 _ (by omega)]; exact congrArg (fun v => some (Value.int .u32 v)) (if_neg (by omega))
          clear hG1
          go_wp2_with fail
          have a2 : IntKind.i64.wrap ((t : Int) - 2) = (t : Int) - 2 := IntWalk.i64_in _ (by omega)
          have b2 : (0 : Int) ≤ (t : Int) - 2 := by omega
          have q2 : (2 : Int) ≤ (t : Int) := by omega
          have c2 : (t : Int) - 2 < 64 := by omega
          have d2 : ((t : Int) - 2).toNat = t - 2 := by omega
          have a7 : IntKind.i64.wrap ((t : Int) - 7) = (t : Int) - 7 := IntWalk.i64_in _ (by omega)
          have b7 : (0 : Int) ≤ (t : Int) - 7 := by omega
          have q7 : (7 : Int) ≤ (t : Int) := by omega
          have c7 : (t : Int) - 7 < 64 := by omega
          have d7 : ((t : Int) - 7).toNat = t - 7 := by omega
          have a15 : IntKind.i64.wrap ((t : Int) - 15) = (t : Int) - 15 := IntWalk.i64_in _ (by omega)
          have b15 : (0 : Int) ≤ (t : Int) - 15 := by omega
          have q15 : (15 : Int) ≤ (t : Int) := by omega
          have c15 : (t : Int) - 15 < 64 := by omega
          have d15 : ((t : Int) - 15).toNat = t - 15 := by omega
          have a16 : IntKind.i64.wrap ((t : Int) - 16) = (t : Int) - 16 := IntWalk.i64_in _ (by omega)
          have b16 : (0 : Int) ≤ (t : Int) - 16 := by omega
          have q16 : (16 : Int) ≤ (t : Int) := by omega
          have c16 : (t : Int) - 16 < 64 := by omega
          have d16 : ((t : Int) - 16).toNat = t - 16 := by omega
          have b0 : (0 : Int) ≤ (t : Int) := by omega
          have c0 : (t : Int) < 64 := by omega
          have hsz : w.heap.size + 1 < wr.heap.size := World.block_lt_of_cell? _ _ h2
          apply Bl.wp_region_ev 23 [38, 39, 40, 41, 42, 43, 44, 45, 46, 47, 48, 49, 50, 51, 52, 53, 54, 55, 56, 57, 58, 59, 60] [Bl.eqv _, Bl.eqv _, Bl.eqv _, Bl.eqv _, Bl.eqv _, Bl.eqv _, Bl.eqv _, Bl.eqv _, Bl.eqv _, Bl.eqv _, Bl.eqv _, Bl.eqv _, Bl.eqv _, Bl.eqv _, Bl.eqv _, Bl.eqv _, Bl.eqv _, Bl.eqv _, Bl.eqv _, Bl.eqv _, Bl.eqv _, Bl.eqv _, Bl.eqv _] (by kernel_rfl) (by kernel_rfl) (by kernel_rfl) (by rfl)
          case hsteps =>
            refine ⟨?_, ?_, ?_, ?_, ?_, ?_, ?_, ?_, ?_, ?_, ?_, ?_, ?_, ?_, ?_, ?_, ?_, ?_, ?_, ?_, ?_, ?_, ?_, trivial⟩
            all_goals
              intro ev w1 hext hb hd
              have e3 := hb 3 (by decide)
              have e7 := hb 7 (by decide)
              clear hb
              simp only [Array.getD_eq_getD_getElem?, List.getElem?_toArray, List.getElem?_cons_succ, List.getElem?_cons_zero, Option.getD_some] at e3 e7
              simp only [Bl.DepsE, List.getElem?_cons_succ, List.getElem?_cons_zero, Option.bind_some, List.getD_cons_succ, List.getD_cons_zero, Bl.eqv, and_true] at hd
              have hc := (Bl.bcell hext).1
              simp only [Bl.Good, Region.wanted, if_true]
              go_simp
              first | exact ⟨Below.refl _ _, rfl⟩ | (go_at_call 155; refine (mixed_all _ _ _ _ _ (by decide)).mono ?_; rintro e w' ⟨rfl, n, rfl⟩; exact ⟨_, rfl, (Below.refl _ _).drewN _, rfl⟩)
          case hend =>
            intro u w1 hext hend
            simp only [Bl.EndE, List.getElem?_cons_succ, List.getElem?_cons_zero, Option.bind_some, List.getD_cons_succ, List.getD_cons_zero, Bl.eqv, true_and] at hend
            simp only [Bl.fillAct, List.setIfInBounds_toArray, List.set_cons_succ, List.set_cons_zero, List.drop_succ_cons, List.drop_zero, hend]
            have hz1 : w1.frozen? ⟨w.heap.size + 1, t, none⟩ = false := ((Bl.bcell hext).2 _ _ hsz).trans hz
            have h01 : w1.cell? ⟨w.heap.size + 1, t, none⟩ = some (.int .u32 0) := ((Bl.bcell hext).1 _ _ hsz).trans h0
            have Hext := Bl.hid hext
            clear hend hext a2 b2 c2 d2 q2 a7 b7 c7 d7 q7 a15 b15 c15 d15 q15 a16 b16 c16 d16 q16 h2 h7 h15 h16
            go_wp2_with fail
            go_roundw
            case rel =>
              have hsz0 : w.heap.size < wr.heap.size := by omega
              refine ⟨t + 1, by omega, by omega, by go_num, (HG0.out.below Hext.out hsz0).other _ _ (by simp), ?_, (hB'.trans (Hext.out.mono (by omega))).setCell (by simp) _⟩
              refine ((HG1.out.below Hext.out hsz).set t (by omega) _).congr (fun i hi => ?_)
              by_cases e : i = t
              · subst e; rw [if_pos rfl, if_pos (by omega), Bl.ww_hi _ _ ht1]; unfold Bl.ad; omega
              · rw [if_neg e]
                by_cases e2 : i < t
                · rw [if_pos e2, if_pos (by omega)]
                · rw [if_neg e2, if_neg (by omega)]
            case measure => simp [intOf]; omega
          case hmono => exact ⟨Bl.mono_eqv _, Bl.mono_eqv _, Bl.mono_eqv _, Bl.mono_eqv _, Bl.mono_eqv _, Bl.mono_eqv _, Bl.mono_eqv _, Bl.mono_eqv _, Bl.mono_eqv _, Bl.mono_eqv _, Bl.mono_eqv _, Bl.mono_eqv _, Bl.mono_eqv _, Bl.mono_eqv _, Bl.mono_eqv _, Bl.mono_eqv _, Bl.mono_eqv _, Bl.mono_eqv _, Bl.mono_eqv _, Bl.mono_eqv _, Bl.mono_eqv _, Bl.mono_eqv _, Bl.mono_eqv _, trivial⟩
        · obtain rfl : t = 64 := by omega
          have hr1 : wr.rangeAt (w.heap.size + 1) 0 (Bl.ints .u32 (Bl.wl blk 64)) := by
            rw [Bl.wl_eq]
            exact (HG1.out.congr (f' := Bl.ww blk) (fun i hi => by rw [if_pos hi])).range
          have hB3 := hB'
          obtain ⟨cs, hcs⟩ : ∃ cs, cs = Bl.wl blk 64 := ⟨_, rfl⟩
          have hlen : cs.length = 64 := by rw [hcs, Bl.wl_length]
          rw [← hcs] at hr1
          have hld := Bl.load_ints (P := Tryd.prog) hr1 Tryd.underlying135 info64 hlen
          have hst := Bl.store_ints (P := Tryd.prog) (k := .u32) (l := cs) HG0.out.there info64 hlen
          have Hld := Bl.hid hld
          have Hst := Bl.hid hst
          have Hcs := Bl.hid hcs
          have Hr1 := Bl.hid hr1
          have Hlen := Bl.hid hlen
          clear hld hst hcs hr1 hlen hG1
          go_wp2_with (first | ((with_reducible refine Bl.wpL_load ?_ Hld.out ?_); rfl) | ((with_reducible refine Bl.wpL_store ?_ ?_ Hst.out ?_); rfl; rfl))
          have hin : (wr.setCells w.heap.size 0 (Bl.ints .u32 cs)).rangeAt w.heap.size 0 (Bl.ints .u32 cs) := World.rangeAt_setCells_same _ _ _ _ (by rw [Bl.ints_length, Hlen.out]; exact HG0.out.there)
          have hld2 := run_loadVar_mid (P := Tryd.prog) _ w.heap.size 0 135 (Bl.ints .u32 cs) _ hin Tryd.underlying135 rfl (by rw [Bl.ints_length, Hlen.out]; exact info64)
          refine bodyPost_ret (v := .agg (Bl.ints .u32 cs).toArray) ?_ rfl ⟨by rw [Hcs.out], Bl.below_setCells _ _ _ _ hB3 (Nat.le_refl _)⟩
          exact Bl.results_cell rfl rfl hld2
end Go.Proofs.YtdodgcapihfkkaaDoor

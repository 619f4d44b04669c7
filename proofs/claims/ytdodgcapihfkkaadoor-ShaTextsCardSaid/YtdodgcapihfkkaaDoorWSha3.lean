/- The walk of (sha.state).take: a chunk goes into the eight words. -/
import Derived.Test.YtdodgcapihfkkaaDoorWSha2
namespace Go.Proofs.YtdodgcapihfkkaaDoor
open Go.RowKit Go.Proofs

/-- what the tables of the program's package sha hold -/
structure Glob (w : World) : Prop where
  added : ∀ i, i < 64 → w.cell? ⟨23, i, none⟩ = some (.int .u32 (Bl.kt.getD i 0))
  first : ∀ i, i < 8 → w.cell? ⟨2, i, none⟩ = some (.int .u32 (Bl.iv.getD i 0))
theorem Glob.ext {w w' : World} (h : Glob w) (hb : Bl.Ext w w') : Glob w' := by
  have l1 := World.block_lt_of_cell? w _ (h.added 0 (by decide))
  have l2 := World.block_lt_of_cell? w _ (h.first 0 (by decide))
  exact ⟨fun i hi => ((Bl.bcell hb).1 _ _ l1).trans (h.added i hi), fun i hi => ((Bl.bcell hb).1 _ _ l2).trans (h.first i hi)⟩

theorem turned_all (x a b c : Int) (w : World) (h : (a = 6 ∧ b = 11 ∧ c = 25) ∨ (a = 2 ∧ b = 13 ∧ c = 22)) : Calls Tryd.prog 135 #[.int .u32 x, .int .i64 a, .int .i64 b, .int .i64 c] w fun e w' => e = .returned (.int .u32 (Bl.sig a.toNat b.toNat c.toNat x)) ∧ w' = w := by
  rcases h with ⟨rfl, rfl, rfl⟩ | ⟨rfl, rfl, rfl⟩
  · exact turned_6 x w
  · exact turned_2 x w

theorem info8 : (Tryd.prog.info? 137).map (·.size) = some 8 := by kernel_rfl

set_option maxRecDepth 100000 in
set_option maxHeartbeats 1000000 in
theorem take_any (z : Bl.St) (bb o c : Nat) (blk : List Int) (hl : blk.length = 64) (hc : 64 ≤ c) (hcc : c ≤ maxLen) (w : World) (hb : ∀ i, i < blk.length → w.cell? ⟨bb, o + i, none⟩ = some (.int .u8 (blk.getD i 0))) (hbb : bb < w.heap.size) (hby : Bl.Byt blk) (hg : Glob w) :
    Calls Tryd.prog 106 #[.agg #[.int .u32 z.a, .int .u32 z.b, .int .u32 z.c, .int .u32 z.d, .int .u32 z.e, .int .u32 z.f, .int .u32 z.g, .int .u32 z.h], .slice (some ⟨bb, o, none⟩) 64 c] w fun e w' => e = .returned (Bl.comp z blk).val ∧ Bl.Ext w w' := by
  have Hb := Bl.hid hb; clear hb
  have Hl := Bl.hid hl; clear hl
  have Hg := Bl.hid hg; clear hg
  have Hby := Bl.hid hby; clear hby
  go_enter Tryd.func106, Tryd.ntmps106
  go_wp2_with fail
  refine (spread_any bb o c blk Hl.out hc hcc _ ?_ ?_ Hby.out).mono ?_
  · intro i hi
    exact ((Bl.bcell ((((Below.refl w.heap.size w).alloc (Nat.le_refl _) _).alloc (by simp only [World.size_alloc]; omega) _).alloc (by simp only [World.size_alloc]; omega) _)).1 _ _ hbb).trans (Hb.out i hi)
  · simp; omega
  rintro e w1 ⟨rfl, hw1⟩
  obtain ⟨ws, hws⟩ : ∃ ws, ws = Bl.wl blk 64 := ⟨_, rfl⟩
  rw [← hws]
  have Hws := Bl.hid hws; clear hws
  go_wp2_with fail
  go_loopw [16] (fun i wr => ∃ (t : Nat) (s : Bl.St), t ≤ 64 ∧ i = .int .i64 t ∧ Bl.Fam wr w.heap.size .u32 8 (fun i => s.l.getD i 0) ∧ Bl.Fam wr (w.heap.size + 1) .u32 8 (fun _ => 0) ∧ Bl.Fam wr (w.heap.size + 1 + 1) .u32 8 (fun i => z.l.getD i 0) ∧ Hid (s = Bl.rndn z ws t) ∧ Below w.heap.size w wr) (fun i _ => 64 - (intOf i).toNat)
  case atStart =>
    have z8 : ∀ i, i < 8 → (#[.int .u32 z.a, .int .u32 z.b, .int .u32 z.c, .int .u32 z.d, .int .u32 z.e, .int .u32 z.f, .int .u32 z.g, .int .u32 z.h] : Array Value)[i]? = some (.int .u32 (z.l.getD i 0)) := fun i hi => by
      match i, hi with
      | 0, _ => rfl
      | 1, _ => rfl
      | 2, _ => rfl
      | 3, _ => rfl
      | 4, _ => rfl
      | 5, _ => rfl
      | 6, _ => rfl
      | 7, _ => rfl
    have o8 : ∀ i, i < 8 → (#[.int .u32 0, .int .u32 0, .int .u32 0, .int .u32 0, .int .u32 0, .int .u32 0, .int .u32 0, .int .u32 0] : Array Value)[i]? = some (.int .u32 0) := fun i hi => by
      match i, hi with
      | 0, _ => rfl
      | 1, _ => rfl
      | 2, _ => rfl
      | 3, _ => rfl
      | 4, _ => rfl
      | 5, _ => rfl
      | 6, _ => rfl
      | 7, _ => rfl
    refine ⟨0, z, by omega, rfl, ?_, ?_, ?_, rfl, ?_⟩
    · exact (((fam_alloc w 8 .u32 _ _ _ z8).alloc (by simp only [World.size_alloc]; omega) _).alloc (by simp only [World.size_alloc]; omega) _).below hw1 (by simp; omega)
    · have h := (fam_alloc (w.alloc (.cells #[.int .u32 z.a, .int .u32 z.b, .int .u32 z.c, .int .u32 z.d, .int .u32 z.e, .int .u32 z.f, .int .u32 z.g, .int .u32 z.h] 137)) 8 .u32 137 _ (fun _ => 0) o8)
      simp only [World.size_alloc] at h
      exact (h.alloc (by simp only [World.size_alloc]; omega) _).below hw1 (by simp)
    · have h := (fam_alloc ((w.alloc (.cells #[.int .u32 z.a, .int .u32 z.b, .int .u32 z.c, .int .u32 z.d, .int .u32 z.e, .int .u32 z.f, .int .u32 z.g, .int .u32 z.h] 137)).alloc (.cells #[.int .u32 0, .int .u32 0, .int .u32 0, .int .u32 0, .int .u32 0, .int .u32 0, .int .u32 0, .int .u32 0] 137)) 8 .u32 137 _ _ z8)
      simp only [World.size_alloc] at h
      exact h.below hw1 (by simp)
    · exact ((((Below.refl w.heap.size w).alloc (Nat.le_refl _) _).alloc (by simp only [World.size_alloc]; omega) _).alloc (by simp only [World.size_alloc]; omega) _).trans (hw1.mono (by simp; omega))
  case round =>
    obtain ⟨t, s, ht, rfl, hF0, hF1, hF2, hs, hB⟩ := hrel
    have HF0 := Bl.hid hF0
    have HF1 := Bl.hid hF1; clear hF1
    have HF2 := Bl.hid hF2; clear hF2
    by_cases hlt : t < 64
    · have hix := Bl.index_ints (P := Tryd.prog) (w := wr) (k := .u32) (l := ws) (i := t) Tryd.underlying135 Tryd.sizeOf133 Tryd.isAgg133 (by rw [Hws.out, Bl.wl_length]) hlt
      have Hix := Bl.hid hix; clear hix
      have c0 : wr.cell? ⟨w.heap.size, 0, none⟩ = some (.int .u32 s.a) := hF0.1 0 (by decide)
      have c1 : wr.cell? ⟨w.heap.size, 1, none⟩ = some (.int .u32 s.b) := hF0.1 1 (by decide)
      have c2 : wr.cell? ⟨w.heap.size, 2, none⟩ = some (.int .u32 s.c) := hF0.1 2 (by decide)
      have c3 : wr.cell? ⟨w.heap.size, 3, none⟩ = some (.int .u32 s.d) := hF0.1 3 (by decide)
      have c4 : wr.cell? ⟨w.heap.size, 4, none⟩ = some (.int .u32 s.e) := hF0.1 4 (by decide)
      have c5 : wr.cell? ⟨w.heap.size, 5, none⟩ = some (.int .u32 s.f) := hF0.1 5 (by decide)
      have c6 : wr.cell? ⟨w.heap.size, 6, none⟩ = some (.int .u32 s.g) := hF0.1 6 (by decide)
      have c7 : wr.cell? ⟨w.heap.size, 7, none⟩ = some (.int .u32 s.h) := hF0.1 7 (by decide)
      have hk : wr.cell? ⟨23, t, none⟩ = some (.int .u32 (Bl.kt.getD t 0)) := by
        have := (Bl.bcell hB).1 23 t (World.block_lt_of_cell? w _ (Hg.out.added 0 (by decide)))
        rw [this]; exact Hg.out.added t hlt
      obtain ⟨kk, hkk⟩ : ∃ kk, kk = Bl.kt.getD t 0 := ⟨_, rfl⟩
      rw [← hkk] at hk
      have Hkk := Bl.hid hkk; clear hkk hF0
      have ht0 : (0 : Int) ≤ (t : Int) := by omega
      have ht64 : (t : Int) < 64 := by omega
      go_wp2_with ((with_reducible refine Bl.wpL_index ?_ ?_ Hix.out ?_); rfl; rfl)
      go_quiet ((go_at_call 135; exact Calls.quiet_of_same (turned_all _ _ _ _ _ (by decide))))
      have f0 : wr.frozen? ⟨w.heap.size, 0, none⟩ = false := HF0.out.2 0
      have f1 : wr.frozen? ⟨w.heap.size, 1, none⟩ = false := HF0.out.2 1
      have f2 : wr.frozen? ⟨w.heap.size, 2, none⟩ = false := HF0.out.2 2
      have f3 : wr.frozen? ⟨w.heap.size, 3, none⟩ = false := HF0.out.2 3
      have f4 : wr.frozen? ⟨w.heap.size, 4, none⟩ = false := HF0.out.2 4
      have f5 : wr.frozen? ⟨w.heap.size, 5, none⟩ = false := HF0.out.2 5
      have f6 : wr.frozen? ⟨w.heap.size, 6, none⟩ = false := HF0.out.2 6
      have f7 : wr.frozen? ⟨w.heap.size, 7, none⟩ = false := HF0.out.2 7
      go_wp2_with (go_at_call 135; refine (turned_all _ _ _ _ _ (by decide)).mono ?_; rintro e w' ⟨rfl, rfl⟩)
      have hs' : Bl.rnd s kk (ws[t]?.getD 0) = Bl.rndn z ws (t + 1) := by
        have h1 := hs.out
        rw [h1, Hkk.out, ← List.getD_eq_getElem?_getD]; rfl
      go_roundw
      case rel => exact ⟨t + 1, Bl.rnd s kk (ws[t]?.getD 0), by omega, by go_num, (HF0.out.drew nq).store8 _ _ _ _ _ _ _ _, (HF1.out.drew nq).other8 _ (by omega) _ _ _ _ _ _ _ _, (HF2.out.drew nq).other8 _ (by omega) _ _ _ _ _ _ _ _, hs', Bl.below8 (hB.drewN nq) _ (Nat.le_refl _) _ _ _ _ _ _ _ _⟩
      case measure => simp [intOf]; omega
    · obtain rfl : t = 64 := by omega
      clear hF0
      go_wp2_with fail
      obtain ⟨wo, hwo⟩ : ∃ wo : World, wo = wr := ⟨_, rfl⟩
      rw [← hwo]
      have HW := Bl.hid hwo; clear hwo
      go_loopw [89] (fun i wr => ∃ j : Nat, j ≤ 8 ∧ i = .int .i64 j ∧ Bl.Fam wr w.heap.size .u32 8 (fun i => if i < j then (s.l.getD i 0 + z.l.getD i 0) % 4294967296 else s.l.getD i 0) ∧ Bl.Fam wr (w.heap.size + 1) .u32 8 (fun _ => 0) ∧ Bl.Fam wr (w.heap.size + 1 + 1) .u32 8 (fun i => z.l.getD i 0) ∧ Below w.heap.size w wr) (fun i _ => 8 - (intOf i).toNat)
      case atStart => exact ⟨0, by omega, rfl, by rw [HW.out]; exact HF0.out.congr (fun i hi => by simp), by rw [HW.out]; exact HF1.out, by rw [HW.out]; exact HF2.out, by rw [HW.out]; exact hB⟩
      case round =>
        obtain ⟨j, hj, rfl, hG0, hG1, hG2, hB'⟩ := hrel
        have HG0 := Bl.hid hG0
        have HG1 := Bl.hid hG1; clear hG1
        have HG2 := Bl.hid hG2
        by_cases hlt : j < 8
        · obtain ⟨x, hx⟩ : ∃ x, x = s.l.getD j 0 := ⟨_, rfl⟩
          obtain ⟨y, hy⟩ : ∃ y, y = z.l.getD j 0 := ⟨_, rfl⟩
          have c1 : wr.cell? ⟨w.heap.size, j, none⟩ = some (.int .u32 x) := by rw [hG0.1 j hlt, hx]; simp
          have c2 : wr.cell? ⟨w.heap.size + 1 + 1, j, none⟩ = some (.int .u32 y) := by rw [hG2.1 j hlt, hy]
          have f1 : wr.frozen? ⟨w.heap.size, j, none⟩ = false := hG0.2 j
          have Hx := Bl.hid hx
          have Hy := Bl.hid hy
          clear hG0 hG2 hx hy
          have hj0 : (0 : Int) ≤ (j : Int) := by omega
          have hj8 : (j : Int) < 8 := by omega
          have hsz2 : w.heap.size + 1 + 1 < wr.heap.size := World.block_lt_of_cell? _ _ c2
          have hsz0 : w.heap.size < wr.heap.size := by omega
          have hsz1 : w.heap.size + 1 < wr.heap.size := by omega
          go_wp2_with fail
          apply Bl.wp_region_ev 8 [92, 93, 94, 95, 96, 97, 98, 99] [Bl.eqv _, Bl.eqv _, Bl.eqv _, Bl.eqv _, Bl.eqv _, Bl.eqv _, Bl.eqv _, Bl.eqv _] (by kernel_rfl) (by kernel_rfl) (by kernel_rfl) (by rfl)
          case hsteps =>
            refine ⟨?_, ?_, ?_, ?_, ?_, ?_, ?_, ?_, trivial⟩
            all_goals
              intro ev w1 hext hb hd
              have e2 := hb 2 (by decide)
              have e5 := hb 5 (by decide)
              have e12 := hb 12 (by decide)
              clear hb
              simp only [Array.getD_eq_getD_getElem?, List.getElem?_toArray, List.getElem?_cons_succ, List.getElem?_cons_zero, Option.getD_some] at e2 e5 e12
              simp only [Bl.DepsE, List.getElem?_cons_succ, List.getElem?_cons_zero, Option.bind_some, List.getD_cons_succ, List.getD_cons_zero, Bl.eqv, and_true] at hd
              have hc := (Bl.bcell hext).1
              simp only [Bl.Good, Region.wanted, if_true]
              go_simp
              exact ⟨Below.refl _ _, rfl⟩
          case hend =>
            intro u w1 hext hend
            simp only [Bl.EndE, List.getElem?_cons_succ, List.getElem?_cons_zero, Option.bind_some, List.getD_cons_succ, List.getD_cons_zero, Bl.eqv, true_and] at hend
            simp only [Bl.fillAct, List.setIfInBounds_toArray, List.set_cons_succ, List.set_cons_zero, List.drop_succ_cons, List.drop_zero, hend]
            have c1' : w1.cell? ⟨w.heap.size, j, none⟩ = some (.int .u32 x) := ((Bl.bcell hext).1 _ _ hsz0).trans c1
            have f1' : w1.frozen? ⟨w.heap.size, j, none⟩ = false := ((Bl.bcell hext).2 _ _ hsz0).trans f1
            have Hext := Bl.hid hext
            clear hend hext c1 c2 f1
            go_wp2_with fail
            go_roundw
            case rel =>
              refine ⟨j + 1, by omega, by go_num, ?_, (HG1.out.below Hext.out hsz1).other _ _ (by simp), (HG2.out.below Hext.out hsz2).other _ _ (by simp; omega), (hB'.trans (Hext.out.mono (by omega))).setCell (by simp) _⟩
              refine ((HG0.out.below Hext.out hsz0).set j (by omega) _).congr (fun i hi => ?_)
              by_cases e : i = j
              · subst e; rw [if_pos rfl, if_pos (by omega), Hx.out, Hy.out]
              · rw [if_neg e]
                by_cases e2 : i < j
                · rw [if_pos e2, if_pos (by omega)]
                · rw [if_neg e2, if_neg (by omega)]
            case measure => simp [intOf]; omega
          case hmono => exact ⟨Bl.mono_eqv _, Bl.mono_eqv _, Bl.mono_eqv _, Bl.mono_eqv _, Bl.mono_eqv _, Bl.mono_eqv _, Bl.mono_eqv _, Bl.mono_eqv _, trivial⟩
        · obtain rfl : j = 8 := by omega
          obtain ⟨l, hl⟩ : ∃ l, l = (Bl.fin s z).l := ⟨_, rfl⟩
          have hlen : l.length = 8 := by rw [hl]; rfl
          have hr1 : wr.rangeAt w.heap.size 0 (Bl.ints .u32 l) := by
            have h := (HG0.out.congr (f' := fun i => l.getD i 0) (fun i hi => by rw [if_pos hi, hl, Bl.fin_get _ _ _ hi])).range
            have e : (List.range 8).map (fun i => l.getD i 0) = l := by rw [hl]; rfl
            rw [e] at h; exact h
          have Hld := Bl.hid (Bl.load_ints (P := Tryd.prog) hr1 Tryd.underlying137 info8 hlen)
          have Hst := Bl.hid (Bl.store_ints (P := Tryd.prog) (k := .u32) (l := l) HG1.out.there info8 hlen)
          have Hcs := Bl.hid hl
          have Hlen := Bl.hid hlen
          clear hr1 hl hlen hG0 hG2
          go_wp2_with (first | ((with_reducible refine Bl.wpL_load ?_ Hld.out ?_); rfl) | ((with_reducible refine Bl.wpL_store ?_ ?_ Hst.out ?_); rfl; rfl))
          have hin : (wr.setCells (w.heap.size + 1) 0 (Bl.ints .u32 l)).rangeAt (w.heap.size + 1) 0 (Bl.ints .u32 l) := World.rangeAt_setCells_same _ _ _ _ (by rw [Bl.ints_length, Hlen.out]; exact HG1.out.there)
          have hld2 := run_loadVar_mid (P := Tryd.prog) _ (w.heap.size + 1) 0 137 (Bl.ints .u32 l) _ hin Tryd.underlying137 rfl (by rw [Bl.ints_length, Hlen.out]; exact info8)
          refine bodyPost_ret (v := .agg (Bl.ints .u32 l).toArray) (Bl.results_cell rfl rfl hld2) rfl ⟨?_, Bl.below_setCells _ _ _ _ hB' (by omega)⟩
          have h1 := hs.out
          rw [Hcs.out, h1, Hws.out]; rfl
end Go.Proofs.YtdodgcapihfkkaaDoor

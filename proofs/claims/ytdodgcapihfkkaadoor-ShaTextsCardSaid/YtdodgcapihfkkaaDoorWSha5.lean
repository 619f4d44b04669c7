/- Walks of sha.New, (*sha.Hash).Put. -/
import Derived.Test.YtdodgcapihfkkaaDoorWSha4
namespace Go.Proofs.YtdodgcapihfkkaaDoor
open Go.RowKit Go.Proofs

set_option maxRecDepth 100000 in
set_option maxHeartbeats 400000 in
theorem new_any (w : World) (hg : Glob w) :
    Calls Tryd.prog 29 #[] w fun e w' => e = .returned (.pointer (some ⟨w.heap.size, 0, none⟩)) ∧ w' = w.alloc (.cells #[.int .u32 Bl.iv0.a, .int .u32 Bl.iv0.b, .int .u32 Bl.iv0.c, .int .u32 Bl.iv0.d, .int .u32 Bl.iv0.e, .int .u32 Bl.iv0.f, .int .u32 Bl.iv0.g, .int .u32 Bl.iv0.h, .slice none 0 0, .int .i64 0] 139) := by
  have g0 := hg.first 0 (by decide)
  have g1 := hg.first 1 (by decide)
  have g2 := hg.first 2 (by decide)
  have g3 := hg.first 3 (by decide)
  have g4 := hg.first 4 (by decide)
  have g5 := hg.first 5 (by decide)
  have g6 := hg.first 6 (by decide)
  have g7 := hg.first 7 (by decide)
  clear hg
  simp only [Bl.iv, List.getD_cons_zero, List.getD_cons_succ] at g0 g1 g2 g3 g4 g5 g6 g7
  simp only [Bl.iv0]
  go_enter Tryd.func29, Tryd.ntmps29
  go_wp2
  go_ret
  exact ⟨rfl, rfl⟩

def restLen (w : World) (hb : Nat) : Nat := match w.cell? ⟨hb, 8, none⟩ with | some (.slice _ n _) => n | _ => 0
theorem restLen_eq {w : World} {hb n c : Nat} {p : Option Addr} (h : w.cell? ⟨hb, 8, none⟩ = some (.slice p n c)) : restLen w hb = n := by simp [restLen, h]

/-- a hash in memory: its words, the bytes that wait, how many bytes came -/
structure HashAt (w : World) (B0 hb : Nat) (z : Bl.St) (l : List Int) (n : Nat) : Prop where
  words : Bl.Fam w hb .u32 8 (fun i => z.l.getD i 0)
  rest : ∃ v, w.cell? ⟨hb, 8, none⟩ = some v ∧ w.ownsRow B0 5 1 v l.length (Bl.ints .u8 l) ∧ v.ownBlock ≠ some hb
  count : w.cell? ⟨hb, 9, none⟩ = some (.int .i64 n)
  ge : B0 ≤ hb

set_option maxRecDepth 100000 in
set_option maxHeartbeats 1000000 in
theorem put_any (w : World) (B0 hb n : Nat) (z : Bl.St) (l bs : List Int) (v : Value) (hH : HashAt w B0 hb z l n) (hv : ∀ w1, Below B0 w w1 → Bl.Rd w1 .u8 v bs) (hg : ∀ w1, Below B0 w w1 → Glob w1) (hby : Bl.Byt (l ++ bs)) (hB0 : B0 ≤ w.heap.size)
    (hl : l.length < 64) (hbs : bs.length ≤ 1099511627776) (hn : n ≤ 1099511627776) :
    Calls Tryd.prog 31 #[.pointer (some ⟨hb, 0, none⟩), v] w fun e w' => e = .returned (.pointer (some ⟨hb, 0, none⟩)) ∧ HashAt w' B0 hb (Bl.eat z (l ++ bs)).1 (Bl.eat z (l ++ bs)).2 (n + bs.length) ∧ Below B0 w w' := by
  obtain ⟨hW, ⟨v0, h8, hown, hne⟩, h9, hge⟩ := hH
  obtain ⟨pv, cv, hvf, hvn, hvc⟩ := (hv w (Below.refl _ _)).form
  subst hvf
  obtain ⟨p0, c0, hf0, hn0, hc0⟩ := (Bl.Rds.of_owns hown).form
  subst hf0
  have hz8 : w.frozen? ⟨hb, 8, none⟩ = false := hW.2 8
  have hz9 : w.frozen? ⟨hb, 9, none⟩ = false := hW.2 9
  have HW := Bl.hid hW; clear hW
  have Hv := Bl.hid hv; clear hv
  have Hg := Bl.hid hg; clear hg
  have Hby := Bl.hid hby; clear hby
  have Hne := Bl.hid hne; clear hne
  have Hown := Bl.hid hown; clear hown
  go_enter Tryd.func31, Tryd.ntmps31
  have Hown9 := Bl.hid (Bl.owns_setCell Hown.out Hne.out 9 (.int .i64 ((n : Int) + (bs.length : Int))))
  have Hv9 := Bl.hid (Hv.out _ ((Below.refl B0 w).setCell (p := ⟨hb, 9, none⟩) hge (.int .i64 ((n : Int) + (bs.length : Int)))))
  have hlt : hb < w.heap.size := World.block_lt_of_cell? _ _ h9
  have h8' : (w.setCell ⟨hb, 9, none⟩ (.int .i64 ((n : Int) + (bs.length : Int)))).cell? ⟨hb, 8, none⟩ = some (.slice p0 l.length c0) := by
    rw [World.cell?_setCell_other _ _ _ _ (by intro q; injection q with _ q; omega)]; exact h8
  have h9' : (w.setCell ⟨hb, 9, none⟩ (.int .i64 ((n : Int) + (bs.length : Int)))).cell? ⟨hb, 9, none⟩ = some (.int .i64 ((n : Int) + (bs.length : Int))) := World.cell?_setCell_same _ _ _ h9
  have Hh8 := Bl.hid h8'
  have Hh9 := Bl.hid h9'
  clear h8' h9'
  go_wp2_with ((with_reducible refine Bl.wpL_append tBytes Hown9.out Hv9.out (by simp) (Bl.ints_one _ _) (by unfold maxLen; omega) (by omega) (by simp; omega) ?_ ?_ ?_); rfl; rfl; intro v' w' hown' hgr hB' hK; obtain ⟨p', c', hf', hn', hc'⟩ := (Bl.Rds.of_owns hown').form; subst hf'; have hk8 : w'.cell? ⟨hb, 8, none⟩ = some (.slice p0 l.length c0) := (hgr.cell_far _ (by simp; omega) (fun q => Hne.out q.symm)).trans Hh8.out; have hf8 : w'.frozen? ⟨hb, 8, none⟩ = false := (hgr.frozen_far _ (by simp; omega) (fun q => Hne.out q.symm)).trans (by rw [World.frozen?_setCell]; exact hz8); have hX : Bl.RdsX w' hb (.slice p' (l.length + bs.length) c') (l.length + bs.length) (Bl.ints .u8 l ++ Bl.ints .u8 bs) := Bl.RdsX.of_owns hown' (fun q => (hK hb q).elim (fun q => Hne.out q) (fun q => by simp at q; omega)); have HX := Bl.hid hX; have Hgr := Bl.hid hgr; clear hown' hgr hK hX)
  have hlt' : hb < w'.heap.size := World.block_lt_of_cell? _ _ hk8
  go_loopw [23] (fun _ wr => ∃ (z' : Bl.St) (l' : List Int) (pr : Option Addr) (cr : Nat), Bl.Fam wr hb .u32 8 (fun i => z'.l.getD i 0) ∧ wr.cell? ⟨hb, 8, none⟩ = some (.slice pr l'.length cr) ∧ Bl.RdsX wr hb (.slice pr l'.length cr) l'.length (Bl.ints .u8 l') ∧ wr.cell? ⟨hb, 9, none⟩ = some (.int .i64 (n + bs.length : Nat)) ∧ Below B0 w wr ∧ Hid (Bl.eat z (l ++ bs) = Bl.eat z' l') ∧ Hid (Bl.Byt l') ∧ l'.length ≤ l.length + bs.length) (fun _ wr => restLen wr hb)
  case atStart =>
    have hfar : ∀ i, w'.cell? ⟨hb, i, none⟩ = (w.setCell ⟨hb, 9, none⟩ (.int .i64 ((n : Int) + (bs.length : Int)))).cell? ⟨hb, i, none⟩ := fun i => Hgr.out.cell_far _ (by simp; omega) (fun q => Hne.out q.symm)
    have hF : Bl.Fam w' hb .u32 8 (fun i => z.l.getD i 0) := (HW.out.setHi 9 (by omega) _).grown Hgr.out (by simp; omega) (fun q => Hne.out q.symm)
    refine ⟨z, l ++ bs, p', c', hF.setHi 8 (by omega) _, ?_, ?_, ?_, ?_, rfl, Hby.out, by rw [List.length_append]; omega⟩
    · rw [List.length_append]; exact World.cell?_setCell_same _ _ _ hk8
    · rw [List.length_append, Bl.ints_append]; exact HX.out.set 8 _
    · refine Bl.cell_set_ne ?_ (by omega)
      rw [hfar 9, Hh9.out]; simp
    · exact (((Below.refl B0 w).setCell (p := ⟨hb, 9, none⟩) hge _).trans hB').setCell (p := ⟨hb, 8, none⟩) hge _
  case round =>
    obtain ⟨z', l', pr, cr, hF, hr8, hrX, hr9, hB, he, hby', hll⟩ := hrel
    have HF := Bl.hid hF
    have HrX := Bl.hid hrX
    obtain ⟨pp, cc, hpc, hnc, hcm⟩ := hrX.rds.form
    obtain ⟨rfl, rfl⟩ : pr = pp ∧ cr = cc := by cases hpc; exact ⟨rfl, rfl⟩
    clear hrX hpc
    have hz8' : wr.frozen? ⟨hb, 8, none⟩ = false := hF.2 8
    have hb8 : hb < wr.heap.size := World.block_lt_of_cell? _ _ hr8
    by_cases h64 : 64 ≤ l'.length
    · have c0 : wr.cell? ⟨hb, 0, none⟩ = some (.int .u32 z'.a) := hF.1 0 (by decide)
      have c1 : wr.cell? ⟨hb, 1, none⟩ = some (.int .u32 z'.b) := hF.1 1 (by decide)
      have c2 : wr.cell? ⟨hb, 2, none⟩ = some (.int .u32 z'.c) := hF.1 2 (by decide)
      have c3 : wr.cell? ⟨hb, 3, none⟩ = some (.int .u32 z'.d) := hF.1 3 (by decide)
      have c4 : wr.cell? ⟨hb, 4, none⟩ = some (.int .u32 z'.e) := hF.1 4 (by decide)
      have c5 : wr.cell? ⟨hb, 5, none⟩ = some (.int .u32 z'.f) := hF.1 5 (by decide)
      have c6 : wr.cell? ⟨hb, 6, none⟩ = some (.int .u32 z'.g) := hF.1 6 (by decide)
      have c7 : wr.cell? ⟨hb, 7, none⟩ = some (.int .u32 z'.h) := hF.1 7 (by decide)
      clear hF
      obtain ⟨gb, go, hpr, hgne, hgr⟩ : ∃ gb go, pr = some ⟨gb, go, none⟩ ∧ gb ≠ hb ∧ wr.rangeAt gb go (Bl.ints .u8 l') := by
        rcases HrX.out with ⟨h1, _, h3⟩ | ⟨b', o', c', h1, h2, h3, h4, h5⟩
        · exfalso; have := congrArg List.length h3; rw [Bl.ints_length] at this; simp only [List.length_nil] at this; omega
        · cases h1; exact ⟨b', o', rfl, h4, h5⟩
      subst hpr
      have hgb : gb < wr.heap.size := Bl.rangeAt_lt hgr (by intro q; have := congrArg List.length q; rw [Bl.ints_length] at this; simp only [List.length_nil] at this; omega)
      have Hget : Hid (∀ i, i < (l'.take 64).length → wr.cell? ⟨gb, go + i, none⟩ = some (.int .u8 ((l'.take 64).getD i 0))) := fun i hi => by
        have hi' : i < 64 := by rw [List.length_take] at hi; omega
        rw [hgr i _ (Bl.ints_get .u8 l' i (by omega)), List.getD_eq_getElem?_getD, List.getD_eq_getElem?_getD, List.getElem?_take, if_pos hi']
      have Hglob := Bl.hid (Hg.out wr hB)
      have Hgr := Bl.hid hgr; clear hgr
      have hc64 : 64 ≤ cr := by omega
      have hc64i : (64 : Int) ≤ (cr : Int) := by omega
      go_wp2_with fail
      apply Bl.wp_region_ev 13 [29, 30, 31, 32, 33, 34, 35, 36, 37, 38, 39, 40, 41] [Bl.eqv _, Bl.eqv _, Bl.eqv _, Bl.eqv _, Bl.eqv _, Bl.eqv _, Bl.eqv _, Bl.eqv _, Bl.eqv _, Bl.eqv _, Bl.eqv _, Bl.eqv _, Bl.eqv _] (by kernel_rfl) (by kernel_rfl) (by kernel_rfl) (by rfl)
      case hsteps =>
        refine ⟨?_, ?_, ?_, ?_, ?_, ?_, ?_, ?_, ?_, ?_, ?_, ?_, ?_, trivial⟩
        all_goals
          intro ev w1 hext hb hd
          have e0 := hb 0 (by decide)
          clear hb
          simp only [Array.getD_eq_getD_getElem?, List.getElem?_toArray, List.getElem?_cons_zero, Option.getD_some] at e0
          simp only [Bl.DepsE, List.getElem?_cons_succ, List.getElem?_cons_zero, Option.bind_some, List.getD_cons_succ, List.getD_cons_zero, Bl.eqv, and_true] at hd
          have hc := (Bl.bcell hext).1
          simp only [Bl.Good, Region.wanted, if_true]
          go_simp
          first | exact ⟨Below.refl _ _, rfl⟩ | (go_at_call 106; refine (take_any z' gb go cr (l'.take 64) (by simp; omega) (by omega) hcm _ ?_ ?_ ?_ ?_).mono ?_; (intro i hi; rw [hc _ _ hgb]; exact Hget.out i hi); (exact Nat.lt_of_lt_of_le hgb hext.size); (exact hby'.out.take 64); (exact Hglob.out.ext hext); rintro e w2 ⟨rfl, hw2⟩; exact ⟨_, rfl, hw2, rfl⟩) 
      case hend =>
        intro u w1 hext hend
        simp only [Bl.EndE, List.getElem?_cons_succ, List.getElem?_cons_zero, Option.bind_some, List.getD_cons_succ, List.getD_cons_zero, Bl.eqv, true_and] at hend

        have f0 : w1.frozen? ⟨hb, 0, none⟩ = false := ((Bl.bcell hext).2 _ _ hb8).trans (HF.out.2 0)
        have d0 : w1.cell? ⟨hb, 0, none⟩ = some (.int .u32 z'.a) := ((Bl.bcell hext).1 _ _ hb8).trans c0
        have f1 : w1.frozen? ⟨hb, 1, none⟩ = false := ((Bl.bcell hext).2 _ _ hb8).trans (HF.out.2 1)
        have d1 : w1.cell? ⟨hb, 1, none⟩ = some (.int .u32 z'.b) := ((Bl.bcell hext).1 _ _ hb8).trans c1
        have f2 : w1.frozen? ⟨hb, 2, none⟩ = false := ((Bl.bcell hext).2 _ _ hb8).trans (HF.out.2 2)
        have d2 : w1.cell? ⟨hb, 2, none⟩ = some (.int .u32 z'.c) := ((Bl.bcell hext).1 _ _ hb8).trans c2
        have f3 : w1.frozen? ⟨hb, 3, none⟩ = false := ((Bl.bcell hext).2 _ _ hb8).trans (HF.out.2 3)
        have d3 : w1.cell? ⟨hb, 3, none⟩ = some (.int .u32 z'.d) := ((Bl.bcell hext).1 _ _ hb8).trans c3
        have f4 : w1.frozen? ⟨hb, 4, none⟩ = false := ((Bl.bcell hext).2 _ _ hb8).trans (HF.out.2 4)
        have d4 : w1.cell? ⟨hb, 4, none⟩ = some (.int .u32 z'.e) := ((Bl.bcell hext).1 _ _ hb8).trans c4
        have f5 : w1.frozen? ⟨hb, 5, none⟩ = false := ((Bl.bcell hext).2 _ _ hb8).trans (HF.out.2 5)
        have d5 : w1.cell? ⟨hb, 5, none⟩ = some (.int .u32 z'.f) := ((Bl.bcell hext).1 _ _ hb8).trans c5
        have f6 : w1.frozen? ⟨hb, 6, none⟩ = false := ((Bl.bcell hext).2 _ _ hb8).trans (HF.out.2 6)
        have d6 : w1.cell? ⟨hb, 6, none⟩ = some (.int .u32 z'.g) := ((Bl.bcell hext).1 _ _ hb8).trans c6
        have f7 : w1.frozen? ⟨hb, 7, none⟩ = false := ((Bl.bcell hext).2 _ _ hb8).trans (HF.out.2 7)
        have d7 : w1.cell? ⟨hb, 7, none⟩ = some (.int .u32 z'.h) := ((Bl.bcell hext).1 _ _ hb8).trans c7
        have f8 : w1.frozen? ⟨hb, 8, none⟩ = false := ((Bl.bcell hext).2 _ _ hb8).trans hz8'
        have d8 : w1.cell? ⟨hb, 8, none⟩ = some (.slice (some ⟨gb, go, none⟩) l'.length cr) := ((Bl.bcell hext).1 _ _ hb8).trans hr8
        simp only [Bl.fillAct, List.setIfInBounds_toArray, List.set_cons_succ, List.set_cons_zero, List.drop_succ_cons, List.drop_zero, hend]
        have Hext := Bl.hid hext
        have Hr9 := Bl.hid hr9
        have Hr8 := Bl.hid hr8
        clear hend hext c0 c1 c2 c3 c4 c5 c6 c7 hz8' hr9 hr8
        by_cases hcr : cr = 64
        · subst hcr
          have hl64 : l'.length = 64 := by omega
          have Hl64 := Bl.hid hl64
          clear hl64
          go_wp2_with fail
          go_roundw
          case rel =>
            have hE8 := (Bl.Exc.refl hb w1).store8 (.int .u32 (Bl.comp z' (l'.take 64)).a) (.int .u32 (Bl.comp z' (l'.take 64)).b) (.int .u32 (Bl.comp z' (l'.take 64)).c) (.int .u32 (Bl.comp z' (l'.take 64)).d) (.int .u32 (Bl.comp z' (l'.take 64)).e) (.int .u32 (Bl.comp z' (l'.take 64)).f) (.int .u32 (Bl.comp z' (l'.take 64)).g) (.int .u32 (Bl.comp z' (l'.take 64)).h)
            have hlen : (l'.drop 64).length = l'.length - 64 := List.length_drop
            refine ⟨Bl.comp z' (l'.take 64), l'.drop 64, some ⟨gb, go, none⟩, 0, ((HF.out.below Hext.out hb8).store8 _ _ _ _ _ _ _ _).setHi 8 (by omega) _, ?_, ?_, Bl.cell_set_ne (Bl.cell_hi8 (((Bl.bcell Hext.out).1 _ _ hb8).trans Hr9.out) (by omega) _ _ _ _ _ _ _ _) (by omega), (Bl.below8 (hB.trans (Hext.out.mono (by omega))) _ hge _ _ _ _ _ _ _ _).setCell hge _, ?_, hby'.out.drop 64, by omega⟩
            · rw [hlen, show l'.length - 64 = 0 from by have := Hl64.out; omega]; exact World.cell?_setCell_same _ _ _ (Bl.cell_hi8 d8 (by omega) _ _ _ _ _ _ _ _)
            · rw [hlen]; exact .inr ⟨gb, go, 0, rfl, by omega, by omega, hgne, (by rw [List.drop_eq_nil_of_le (by omega)]; intro j x hx; simp [Bl.ints] at hx)⟩
            · exact he.out.trans (Bl.eat_hi _ _ h64)
          case measure =>
            rw [restLen_eq Hr8.out, restLen_eq (World.cell?_setCell_same _ _ _ (Bl.cell_hi8 d8 (by omega) _ _ _ _ _ _ _ _))]
            omega
        · have hcr2 : 64 < cr := by omega
          clear hcr
          go_wp2_with fail
          go_roundw
          case rel =>
            have hE8 := (Bl.Exc.refl hb w1).store8 (.int .u32 (Bl.comp z' (l'.take 64)).a) (.int .u32 (Bl.comp z' (l'.take 64)).b) (.int .u32 (Bl.comp z' (l'.take 64)).c) (.int .u32 (Bl.comp z' (l'.take 64)).d) (.int .u32 (Bl.comp z' (l'.take 64)).e) (.int .u32 (Bl.comp z' (l'.take 64)).f) (.int .u32 (Bl.comp z' (l'.take 64)).g) (.int .u32 (Bl.comp z' (l'.take 64)).h)
            have hlen : (l'.drop 64).length = l'.length - 64 := List.length_drop
            refine ⟨Bl.comp z' (l'.take 64), l'.drop 64, some ⟨gb, go + 64, none⟩, cr - 64, ((HF.out.below Hext.out hb8).store8 _ _ _ _ _ _ _ _).setHi 8 (by omega) _, ?_, ?_, Bl.cell_set_ne (Bl.cell_hi8 (((Bl.bcell Hext.out).1 _ _ hb8).trans Hr9.out) (by omega) _ _ _ _ _ _ _ _) (by omega), (Bl.below8 (hB.trans (Hext.out.mono (by omega))) _ hge _ _ _ _ _ _ _ _).setCell hge _, ?_, hby'.out.drop 64, by omega⟩
            · rw [hlen]; exact World.cell?_setCell_same _ _ _ (Bl.cell_hi8 d8 (by omega) _ _ _ _ _ _ _ _)
            · rw [hlen]; exact .inr ⟨gb, go + 64, cr - 64, rfl, by omega, by omega, hgne, (hE8.set 8 _).range (Bl.rangeAt_ext (by rw [show Bl.ints .u8 (l'.drop 64) = (Bl.ints .u8 l').drop 64 from by simp [Bl.ints]]; exact Bl.rangeAt_drop Hgr.out 64) Hext.out) hgne⟩
            · exact he.out.trans (Bl.eat_hi _ _ h64)
          case measure =>
            rw [restLen_eq Hr8.out, restLen_eq (World.cell?_setCell_same _ _ _ (Bl.cell_hi8 d8 (by omega) _ _ _ _ _ _ _ _))]
            omega
      case hmono => exact ⟨Bl.mono_eqv _, Bl.mono_eqv _, Bl.mono_eqv _, Bl.mono_eqv _, Bl.mono_eqv _, Bl.mono_eqv _, Bl.mono_eqv _, Bl.mono_eqv _, Bl.mono_eqv _, Bl.mono_eqv _, Bl.mono_eqv _, Bl.mono_eqv _, Bl.mono_eqv _, trivial⟩
    · have hlo : l'.length < 64 := by omega
      have hq : (Bl.eat z (l ++ bs)) = (z', l') := he.out.trans (Bl.eat_lo _ _ hlo)
      have Hq := Bl.hid hq
      have Hr9 := Bl.hid hr9
      clear hF hq hr9
      go_wp2_with fail
      refine (cloneB_any _ l' _ HrX.out.rds (by omega)).mono ?_
      rintro e w2 ⟨v2, rfl, hown2, hw2⟩
      obtain ⟨p2, c2, hf2, hn2, hc2⟩ := (Bl.Rds.of_owns hown2).form
      subst hf2
      have k8 : w2.cell? ⟨hb, 8, none⟩ = some (.slice pr l'.length cr) := ((Bl.bcell hw2).1 _ _ hb8).trans hr8
      have y8 : w2.frozen? ⟨hb, 8, none⟩ = false := ((Bl.bcell hw2).2 _ _ hb8).trans hz8'
      have Hw2 := Bl.hid hw2
      have Hown2 := Bl.hid hown2
      clear hw2 hown2
      go_wp2_with fail
      go_ret
      have hB0r : B0 ≤ wr.heap.size := Nat.le_trans hB0 hB.size
      have hk : (Value.slice p2 l'.length c2).ownBlock ≠ some hb := fun q => by have := (Hown2.out.lt hb q).1; omega
      refine ⟨rfl, ⟨?_, ?_, ?_, hge⟩, (hB.trans (Hw2.out.mono hB0r)).setCell hge _⟩
      · rw [Hq.out]; exact (HF.out.below Hw2.out hb8).setHi 8 (by omega) _
      · rw [Hq.out]; exact ⟨_, World.cell?_setCell_same _ _ _ k8, Bl.owns_setCell (Bl.owns_mono Hown2.out hB0r) hk 8 _, hk⟩
      · exact Bl.cell_set_ne (((Bl.bcell Hw2.out).1 _ _ hb8).trans Hr9.out) (by omega)
end Go.Proofs.YtdodgcapihfkkaaDoor

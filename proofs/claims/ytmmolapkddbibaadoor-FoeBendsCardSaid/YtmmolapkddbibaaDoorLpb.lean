/- Texts that stood apart, in one: LP4, LP5. -/
import Derived.Test.YtmmolapkddbibaaDoorLpc
/- Walk of the closure of reader.rest that appends shown blocks, and of reader.each for it. -/
namespace Go.Proofs.YtmmolapkddbibaaDoor
open Go Go.RowKit Go.Proofs

set_option maxRecDepth 100000 in
set_option maxHeartbeats 2000000 in
theorem rest3_any (X Y q0 q1 B : Nat) (sa : Bl.Rst) (cs : List Value) (vr : Value) (M : List Bl.Sv) (w : World) (hC : Bl.C0 Bl.cS 3 Bl.OkF B X Y 4 cs vr M sa w) (h0 : w.cell? ⟨q0, 0, none⟩ = some (.pointer (some ⟨Y, 0, none⟩))) (h1 : w.cell? ⟨q1, 0, none⟩ = some (.pointer (some ⟨X, 0, none⟩))) (hXY : X < Y) (hY : Y < B) (n0 : q0 < B ∧ q0 ≠ X) (n1 : q1 < B ∧ q1 ≠ X) (hM : M.length ≤ 100000) :
    Calls Tryd.prog 81 #[.pointer (some ⟨q0, 0, none⟩), .pointer (some ⟨q1, 0, none⟩)] w fun e w' => e = .returned (.tuple #[]) ∧ ∃ v' y, Bl.plS y = (Bl.shT sa).1 ∧ Bl.GP Bl.cS 3 Bl.OkF B w' Y 4 (cs.set 4 v') v' (M ++ [y]) ∧ Bl.Rdr w' X (Bl.shT sa).2 ∧ Bl.Kq (fun k => k = X ∨ k = Y ∨ B ≤ k) w w' := by
  obtain ⟨Pr, hPr⟩ : ∃ Pr : Bl.Sv → Prop, Pr = fun y => Bl.plS y = (Bl.shT sa).1 := ⟨_, rfl⟩
  have HPr := Bl.hid hPr
  have hB : B ≤ w.heap.size := hC.2.2
  have Hn : Hid (X < B ∧ ¬ (X = Y) ∧ ¬ (B ≤ Y) ∧ ¬ (Y = X)) := Bl.hid (by omega)
  have HCall : Hid (∀ w2, Bl.C0 Bl.cS 3 Bl.OkF B X Y 4 cs vr M sa w2 → Calls Tryd.prog 82 #[.pointer (some ⟨X, 0, none⟩)] w2 fun e w' => ∃ v', e = .returned v' ∧ Bl.C1 Bl.cS 3 Bl.OkF B X Y 4 cs vr M Pr (Bl.shT sa).2 v' w' ∧ Bl.Kq (fun k => k = X ∨ B ≤ k) w2 w') := Bl.hid fun w2 hc => by
    refine (rdshown_any X sa w2 hc.1).mono ?_
    rintro e w' ⟨y, rfl, g1, g2, g3, g4⟩
    exact ⟨_, rfl, hc.c1 Bl.stab_okF (y := y) g4 Hn.out.2.2.2 (fun b hb q => by have := Hn.out.1; omega) g3 (by rw [HPr.out]; exact g1) rfl (Bl.cS_len y) (Bl.cS_one g2.ok) g2, g4.mono fun k _ hk => .inl hk⟩
  have HC := Bl.hid hC
  have hY7 := hC.2.1.cell
  obtain ⟨m, hm⟩ : ∃ m, m = M.length := ⟨_, rfl⟩
  have Hm : Hid (M.length + 1 ≤ maxLen ∧ (M.length + 1) * 56 ≤ 140737488355328) := Bl.hid (by unfold maxLen; omega)
  have Hq : Hid ((∀ w2, Bl.Kq (fun k => k = X ∨ B ≤ k) w w2 → w2.cell? ⟨q0, 0, none⟩ = some (.pointer (some ⟨Y, 0, none⟩)) ∧ w2.cell? ⟨q1, 0, none⟩ = some (.pointer (some ⟨X, 0, none⟩)) ∧ w2.cell? ⟨Y, 4, none⟩ = some vr)) := Bl.hid fun w2 h => ⟨h.cell (by omega) h0, h.cell (by omega) h1, h.cell (by omega) hY7⟩
  clear hPr hC hY7 hm hM n0 n1 hB
  go_enter Tryd.func81, Tryd.ntmps81
  apply Bl.wp_region_evK (Bl.Kq (fun k => k = X ∨ B ≤ k)) (Bl.Chn 6 7 8 8 9 10 (Bl.C0 Bl.cS 3 Bl.OkF B X Y 4 cs vr M sa) (Bl.C1 Bl.cS 3 Bl.OkF B X Y 4 cs vr M Pr (Bl.shT sa).2) (Bl.C2 Bl.cS 3 Bl.OkF B X Y 4 cs vr M Pr (Bl.shT sa).2) (Bl.C3 Bl.cS 3 Bl.OkF B X Y 4 cs vr M Pr (Bl.shT sa).2)) 11 [2, 3, 4, 5, 6, 7, 8, 9, 10, 11, 12] [Bl.eqv _, Bl.eqv _, Bl.eqv _, Bl.eqv _, Bl.eqv _, Bl.eqv _, Bl.anyv, Bl.anyv, Bl.anyv, Bl.eqv _, Bl.eqv _] (fun w => Bl.Kq.refl w) (fun a b c h k => Bl.Kq.trans h k) (by kernel_rfl) (by kernel_rfl) (by kernel_rfl) (by kernel_rfl)
  case hsteps =>
    refine ⟨?_, ?_, ?_, ?_, ?_, ?_, ?_, ?_, ?_, ?_, ?_, trivial⟩
    all_goals
      intro d ev w1 hext HJd Hanc Hdes hni hb hd
      replace Hanc := Bl.hid Hanc
      replace HJd := Bl.hid HJd
      replace Hdes := Bl.hid Hdes
      replace hni := Bl.hid hni
      have e0 := hb 0 (by decide)
      have e1 := hb 1 (by decide)
      clear hb
      simp only [Array.getD_eq_getD_getElem?, List.getElem?_toArray, List.getElem?_cons_succ, List.getElem?_cons_zero, Option.getD_some] at e0 e1
      simp only [Bl.DepsE2, List.getElem?_cons_succ, List.getElem?_cons_zero, Option.bind_some, List.getD_cons_succ, List.getD_cons_zero, Bl.eqv, and_true] at hd
      have q3 := Hq.out _ hext
      have c0 := q3.1
      have c1 := q3.2.1
      have c7 := q3.2.2
      clear q3
      rw [if_pos (rfl : Region.wanted _ _ = true)]
      first
      | ((with_reducible refine Bl.goodX_buildV (v := ev 8) tShL (by decide) ?_ (HJd.out.b (Hanc.out 6 (by kernel_rfl)) hni.out).size ?_); rfl; exact ⟨Bl.Kq.of_ext (Bl.ext_alloc _ _), trivial, Bl.Chn.bld (by decide) (Hanc.out 6 (by kernel_rfl)) (Hdes.out 8 (by kernel_rfl)) ((HJd.out.b (Hanc.out 6 (by kernel_rfl)) hni.out).c2 Bl.stab_okF _)⟩) | ((with_reducible refine Bl.goodX_c3 tShL Bl.stab_okF Hn.out.1 hXY (HJd.out.c (Hanc.out 7 (by kernel_rfl)) hni.out) ?_ ?_ Hm.out.1 Hm.out.2 ?_); rfl; exact (by first | exact hd | exact hd.2 | exact hd.1.2 | exact hd.1.1.2 | exact hd.1.1.1.2 | exact hd.1.1.1.1.2 | exact hd.1.1.1.1.1.2 | exact hd.1.1.1.1.1.1.2 | exact hd.1.1.1.1.1.1.1.2 | exact hd.1.1.1.1.1.1.1.1.2 | exact hd.1.1.1.1.1.1.1.1.1.2 | exact hd.1.1.1.1.1.1.1.1.1.1.2 | exact hd.1.1.1.1.1.1.1.1.1.1.1.2 | exact hd.1.1.1.1.1.1.1.1.1.1.1.1.2 | exact hd.1.1.1.1.1.1.1.1.1.1.1.1.1.2 | exact hd.1 | exact hd.1.1 | exact hd.1.1.1 | exact hd.1.1.1.1 | exact hd.1.1.1.1.1 | exact hd.1.1.1.1.1.1 | exact hd.1.1.1.1.1.1.1 | exact hd.1.1.1.1.1.1.1.1 | exact hd.1.1.1.1.1.1.1.1.1 | exact hd.1.1.1.1.1.1.1.1.1.1 | exact hd.1.1.1.1.1.1.1.1.1.1.1 | exact hd.1.1.1.1.1.1.1.1.1.1.1.1 | exact hd.1.1.1.1.1.1.1.1.1.1.1.1.1 | exact hd.2.1 | exact hd.2.2.1 | exact hd.2.2.2.1 | exact hd.2.2.2.2.1 | exact hd.2.2.2.2.2.1 | exact hd.2.2.2.2.2.2.1 | exact hd.2.2.2.2.2.2.2.1 | exact hd.2.2.2.2.2.2.2.2.1 | exact hd.2.2.2.2.2.2.2.2.2.1 | exact hd.2.2.2.2.2.2.2.2.2.2.1 | exact hd.2.2.2.2.2.2.2.2.2.2.2.1 | exact hd.2.2.2.2.2.2.2.2.2.2.2.2.1 | exact hd.2.2.2.2.2.2.2.2.2.2.2.2.2.1); exact fun v' w' k1 k2 => ⟨k1, trivial, Bl.Chn.app (by decide) (Hanc.out 6 (by kernel_rfl)) (Hanc.out 7 (by kernel_rfl)) k2⟩)
      | (go_simp; first | exact ⟨Bl.Kq.refl _, rfl, HJd.out.same (by decide)⟩ | (go_at_call 82; (with_reducible refine (HCall.out w1 (HJd.out.a hni.out)).mono ?_); rintro e w2 ⟨v9, rfl, k1, k2⟩; exact ⟨_, rfl, k2, trivial, Bl.Chn.call (by decide) (Hdes.out 7 (by kernel_rfl)) (Hdes.out 8 (by kernel_rfl)) k1⟩) | exact ⟨Below.refl _ _, rfl, Bl.HJ.same (by decide) HJd.out⟩)
  case hmono => exact ⟨Bl.monoR_eqv _, Bl.monoR_eqv _, Bl.monoR_eqv _, Bl.monoR_eqv _, Bl.monoR_eqv _, Bl.monoR_eqv _, Bl.monoR_anyv, Bl.monoR_anyv, Bl.monoR_anyv, Bl.monoR_eqv _, Bl.monoR_eqv _, trivial⟩
  case hR0 => exact Bl.Kq.drew _
  case hend =>
    intro u w1 hext hJ hend
    simp only [Bl.EndE, List.getElem?_cons_succ, List.getElem?_cons_zero, Option.bind_some, List.getD_cons_succ, List.getD_cons_zero, Bl.eqv, true_and] at hend
    simp only [Bl.fillAct, List.setIfInBounds_toArray, List.set_cons_succ, List.set_cons_zero, List.drop_succ_cons, List.drop_zero, hend]
    obtain ⟨y, p, c, hu, hp, hcell, hfz, hG, hR⟩ := hJ.d rfl
    have HG := Bl.hid hG
    have HR := Bl.hid hR
    have HK := Bl.hid hext
    have Hp := Bl.hid hp
    rw [hu] at HG HR
    simp only [hu]
    clear hG hR hext hend hJ hu hp
    go_wp2_with fail
    go_end0
    rw [HPr.out] at Hp
    exact ⟨rfl, _, y, Hp.out, HG.out, HR.out, (HK.out.mono fun k _ hk => hk.imp id .inr).setCell ⟨Y, 4, none⟩ (.inr (.inl rfl)) _⟩
  case hJ0 => exact Bl.Chn.start (by have h := HC.out; exact ⟨h.1.kept (Q := fun _ => False) (Bl.Kq.drew _) (fun _ _ q => q), h.2.1.kept (Q := fun _ => False) Bl.stab_okF (Bl.Kq.drew _) (fun q => q) (fun _ _ q => q), h.2.2⟩)

set_option maxRecDepth 100000 in
set_option maxHeartbeats 1000000 in
theorem each3_any (I : Nat → Bl.Rst → World → Prop) (X c0 c1 n : Nat) (hI : ∀ k s w, I k s w → Bl.Rdr w X s) (hn : n ≤ 100000)
    (hstep : ∀ k s w, k < n → s.1 = false → I k s w → Calls Tryd.prog 81 #[.pointer (some ⟨c0, 0, none⟩), .pointer (some ⟨c1, 0, none⟩)] w fun e w' => e = .returned (.tuple #[]) ∧ ∃ s', I (k + 1) s' w') (s0 : Bl.Rst) (w : World) (h : I 0 s0 w) :
    Calls Tryd.prog 78 #[.pointer (some ⟨X, 0, none⟩), .int .i64 n, .func (.func 81) #[] #[.pointer (some ⟨c0, 0, none⟩), .pointer (some ⟨c1, 0, none⟩)]] w fun e w' => e = .returned (.tuple #[]) ∧ Bl.EachEnd I n w' := by
  have HI := Bl.hid hI
  have HS := Bl.hid hstep
  have H := Bl.hid h
  clear hI hstep h
  go_enter Tryd.func78, Tryd.ntmps78
  go_wp2_with fail
  go_loopw [6] (fun i wr => ∃ (k : Nat) (s : Bl.Rst), k ≤ n ∧ i = .int .i64 k ∧ Hid (I k s wr)) (fun i _ => n - (intOf i).toNat)
  case atStart => exact ⟨0, s0, Nat.zero_le _, rfl, H⟩
  case round =>
    obtain ⟨k, s, hk, rfl, HIk⟩ := hrel
    obtain ⟨p, c, hB, _⟩ := (HI.out k s wr HIk.out).ex
    have q1 := hB.cell (i := 1) rfl
    clear hB
    obtain ⟨sh, hsh⟩ : ∃ sh, sh = s.1 := ⟨_, rfl⟩
    rw [← hsh] at q1
    have Hsh := Bl.hid hsh
    clear hsh
    by_cases hlt : k < n
    · have hkl : (k : Int) < (n : Int) := by omega
      cases sh
      · go_wp2_with fail
        refine (HS.out k s wr hlt Hsh.out.symm HIk.out).mono ?_
        rintro e w2 ⟨rfl, s', h2⟩
        have H2 := Bl.hid h2
        clear h2 q1
        go_wp2_with fail
        go_roundw
        case rel => exact ⟨k + 1, s', by omega, by go_num, H2⟩
        case measure => simp [intOf]; omega
      · go_wp2_with fail
        go_end0
        exact ⟨rfl, ⟨k, s, hk, HIk.out, .inr Hsh.out.symm⟩⟩
    · obtain rfl : k = n := by omega
      clear hlt
      have hkl : ¬ ((k : Int) < (k : Int)) := by omega
      go_wp2_with fail
      go_end0
      exact ⟨rfl, ⟨k, s, Nat.le_refl _, HIk.out, .inl rfl⟩⟩
end Go.Proofs.YtmmolapkddbibaaDoor

/- Walks of reader.each with what it appends, for each kind; a letter whose rows lie in such blocks. -/
namespace Go.Proofs.Bl
open Go Go.RowKit
theorem cellsB (M : List Bv) : cellsR cB M = M.map (·.1) := by
  unfold cellsR cB
  induction M with
  | nil => rfl
  | cons x r ih => rw [List.flatMap_cons, ih]; rfl
/-- a letter's rows lie in such blocks -/
structure LtF (F : Nat → Prop) (w : World) (l : LT) (vp vs vb : Value) (L : List Sv) : Prop where
  pl : RdsF F w vp l.places.length (ints .i64 l.places)
  sh : RdsF F w vs L.length (cellsR cS L)
  so : ∀ x ∈ L, OkF F w x
  sl : L.map plS = l.shown
  bl : ∃ M : List Bv, RdsF F w vb M.length (cellsR cB M) ∧ (∀ y ∈ M, OkB F w y) ∧ M.map (·.2) = l.blocks
theorem LtF.kept {F F' : Nat → Prop} {w w' : World} {l : LT} {vp vs vb : Value} {L : List Sv} (h : LtF F w l vp vs vb L) (hk : ∀ b, F b → b < w.heap.size → F' b ∧ w'.heap[b]? = w.heap[b]?) : LtF F' w' l vp vs vb L := by
  obtain ⟨M, h1, h2, h3⟩ := h.bl
  exact ⟨h.pl.kept hk, h.sh.kept hk, fun x hx => stab_okF _ _ _ _ _ (h.so x hx) hk, h.sl, M, h1.kept hk, fun y hy => stab_okB _ _ _ _ _ (h2 y hy) hk, h3⟩
theorem LtF.nil (F : Nat → Prop) (w : World) (k i o f c d : Int) : LtF F w ⟨k, i, o, [], [], f, c, [], d⟩ (.slice none 0 0) (.slice none 0 0) (.slice none 0 0) [] :=
  ⟨RdsF.nil w, RdsF.nil w, fun x hx => (by cases hx), rfl, [], RdsF.nil w, fun x hx => (by cases hx), rfl⟩
theorem LtF.ltc {F : Nat → Prop} {w : World} {l : LT} {vp vs vb : Value} {L : List Sv} (h : LtF F w l vp vs vb L) : LtC w (cL l vp vs vb) l vp vs vb L := by
  obtain ⟨M, h1, h2, h3⟩ := h.bl
  refine ⟨rfl, h.pl.rds, ⟨h.sh.rds, fun x hx => (h.so x hx).ok⟩, h.sl, ?_, ?_⟩
  · refine ⟨M.map (·.1), ?_, by rw [← h3, List.length_map, List.length_map], fun i hi => ?_⟩
    · have h4 := h1.rds
      rw [cellsB] at h4
      rw [← h3, List.length_map]; exact h4
    · rw [← h3, List.length_map] at hi
      have h5 := (h2 _ (List.getElem_mem hi)).1.rds
      rw [← h3, List.getD_eq_getElem?_getD, List.getD_eq_getElem?_getD, List.getElem?_map, List.getElem?_map, List.getElem?_eq_getElem hi]
      exact h5
  · intro b hb
    rw [← h3] at hb
    obtain ⟨y, hy, rfl⟩ := List.mem_map.1 hb
    exact (h2 y hy).2
/-- a letter's variable, its rows in blocks from B on -/
def LtY (w : World) (Y B : Nat) (l : LT) : Prop := ∃ vp vs vb L, BoxC w Y (cL l vp vs vb) ∧ LtF (fun b => B ≤ b) w l vp vs vb L
theorem GP.rowF {α : Type} {f : α → List Value} {s : Nat} {Ok : (Nat → Prop) → World → α → Prop} {B : Nat} {w : World} {X fi : Nat} {cs : List Value} {v : Value} {M : List α} (h : GP f s Ok B w X fi cs v M) {B' : Nat} (hB : B' ≤ B) : RdsF (fun b => B' ≤ b) w v M.length (cellsR f M) :=
  RdsF.of_rds h.own.rds fun b hb _ => Nat.le_trans hB (h.own.block b hb).1
theorem GP.elF {α : Type} {f : α → List Value} {s : Nat} {Ok : (Nat → Prop) → World → α → Prop} (hS : Stab Ok) {B : Nat} {w : World} {X fi : Nat} {cs : List Value} {v : Value} {M : List α} (h : GP f s Ok B w X fi cs v M) {B' : Nat} (hB : B' ≤ B) : ∀ x ∈ M, Ok (fun b => B' ≤ b) w x :=
  fun x hx => hS _ _ _ _ _ (h.ok x hx) fun _b hb _ => ⟨Nat.le_trans hB hb.2.2, rfl⟩
end Go.Proofs.Bl
namespace Go.Proofs.YtmmolapkddbibaaDoor
open Go Go.RowKit Go.Proofs

theorem runB_any (X Y q0 q1 B n : Nat) (s : Bl.Rst) (cs0 : List Value) (w : World) (hR : Bl.Rdr w X s) (hB : Bl.BoxC w Y (cs0.set 7 (.slice none 0 0))) (hl : 7 < cs0.length) (h0 : w.cell? ⟨q0, 0, none⟩ = some (.pointer (some ⟨Y, 0, none⟩))) (h1 : w.cell? ⟨q1, 0, none⟩ = some (.pointer (some ⟨X, 0, none⟩))) (hXY : X < Y) (hY : Y < B) (n0 : q0 < B ∧ q0 ≠ X ∧ q0 ≠ Y) (n1 : q1 < B ∧ q1 ≠ X ∧ q1 ≠ Y) (hBw : B ≤ w.heap.size) (hn : n ≤ 65535) :
    Calls Tryd.prog 78 #[.pointer (some ⟨X, 0, none⟩), .int .i64 n, .func (.func 79) #[] #[.pointer (some ⟨q0, 0, none⟩), .pointer (some ⟨q1, 0, none⟩)]] w fun e w' => e = .returned (.tuple #[]) ∧ (∃ v M, Bl.GP Bl.cB 1 Bl.OkB B w' Y 7 (cs0.set 7 v) v M ∧ M.map (fun y : Bl.Bv => y.2) = (Bl.eaT Bl.blT n s).1) ∧ Bl.Rdr w' X (Bl.eaT Bl.blT n s).2 ∧ Bl.Kq (fun k => k = X ∨ k = Y ∨ B ≤ k) w w' := by
  obtain ⟨I, hI⟩ : ∃ I : Nat → Bl.Rst → World → Prop, I = fun k s' wr => ∃ v M, Bl.GP Bl.cB 1 Bl.OkB B wr Y 7 (cs0.set 7 v) v M ∧ Bl.Rdr wr X s' ∧ M.map (fun y : Bl.Bv => y.2) ++ (Bl.eaT Bl.blT (n - k) s').1 = (Bl.eaT Bl.blT n s).1 ∧ (Bl.eaT Bl.blT (n - k) s').2 = (Bl.eaT Bl.blT n s).2 ∧ M.length ≤ k ∧ Bl.Kq (fun k => k = X ∨ k = Y ∨ B ≤ k) w wr := ⟨_, rfl⟩
  refine (each1_any I X q0 q1 n (fun k s' wr hi => ?_) (by omega) (fun k s' wr hk hsf hi => ?_) s w ?_).mono ?_
  · rw [hI] at hi
    obtain ⟨v, M, _, h2, _⟩ := hi
    exact h2
  · rw [hI] at hi
    obtain ⟨v, M, g1, g2, g3, g4, g5, g6⟩ := hi
    rw [Bl.eaT_step Bl.blT n k s' hk hsf] at g3 g4
    refine (rest1_any X Y q0 q1 B s' (cs0.set 7 v) v M wr ⟨g2, g1, Nat.le_trans hBw g6.size⟩ (g6.cell (by omega) h0) (g6.cell (by omega) h1) hXY hY ⟨n0.1, n0.2.1⟩ ⟨n1.1, n1.2.1⟩ (by omega)).mono ?_
    rintro e w' ⟨rfl, v', y, r0, r1, r2, r3⟩
    refine ⟨rfl, (Bl.blT s').2, ?_⟩
    rw [hI]
    rw [List.set_set] at r1
    refine ⟨v', M ++ [y], r1, r2, ?_, g4, by rw [List.length_append, List.length_singleton]; omega, g6.trans r3⟩
    rw [List.map_append, List.append_assoc, ← g3]
    show _ ++ ([(fun y : Bl.Bv => y.2) y] ++ _) = _ ++ ([(Bl.tkT 16 s').1] ++ _)
    rw [show (fun y : Bl.Bv => y.2) y = (Bl.tkT 16 s').1 from r0]
  · rw [hI]
    exact ⟨_, [], Bl.GP.start hB (by rw [List.getElem?_set_self hl]), hR, rfl, rfl, Nat.le_refl _, Bl.Kq.refl _⟩
  · rintro e w' ⟨rfl, k, s', hk, hi, hke⟩
    rw [hI] at hi
    obtain ⟨v, M, g1, g2, g3, g4, _, g6⟩ := hi
    have hfin : Bl.eaT Bl.blT (n - k) s' = ([], s') := by
      rcases hke with rfl | hs
      · rw [Nat.sub_self]; rfl
      · exact Bl.eaT_stop _ _ _ hs
    rw [hfin] at g3 g4
    rw [List.append_nil] at g3
    exact ⟨rfl, ⟨v, M, g1, g3⟩, g4 ▸ g2, g6⟩

theorem runP_any (X Y q0 q1 B n : Nat) (s : Bl.Rst) (cs0 : List Value) (w : World) (hR : Bl.Rdr w X s) (hB : Bl.BoxC w Y (cs0.set 3 (.slice none 0 0))) (hl : 3 < cs0.length) (h0 : w.cell? ⟨q0, 0, none⟩ = some (.pointer (some ⟨Y, 0, none⟩))) (h1 : w.cell? ⟨q1, 0, none⟩ = some (.pointer (some ⟨X, 0, none⟩))) (hXY : X < Y) (hY : Y < B) (n0 : q0 < B ∧ q0 ≠ X ∧ q0 ≠ Y) (n1 : q1 < B ∧ q1 ≠ X ∧ q1 ≠ Y) (hBw : B ≤ w.heap.size) (hn : n ≤ 65535) :
    Calls Tryd.prog 78 #[.pointer (some ⟨X, 0, none⟩), .int .i64 n, .func (.func 80) #[] #[.pointer (some ⟨q0, 0, none⟩), .pointer (some ⟨q1, 0, none⟩)]] w fun e w' => e = .returned (.tuple #[]) ∧ (∃ v M, Bl.GP Bl.cI 1 Bl.OkT B w' Y 3 (cs0.set 3 v) v M ∧ M.map (fun y : Int => y) = (Bl.eaT Bl.plT n s).1) ∧ Bl.Rdr w' X (Bl.eaT Bl.plT n s).2 ∧ Bl.Kq (fun k => k = X ∨ k = Y ∨ B ≤ k) w w' := by
  obtain ⟨I, hI⟩ : ∃ I : Nat → Bl.Rst → World → Prop, I = fun k s' wr => ∃ v M, Bl.GP Bl.cI 1 Bl.OkT B wr Y 3 (cs0.set 3 v) v M ∧ Bl.Rdr wr X s' ∧ M.map (fun y : Int => y) ++ (Bl.eaT Bl.plT (n - k) s').1 = (Bl.eaT Bl.plT n s).1 ∧ (Bl.eaT Bl.plT (n - k) s').2 = (Bl.eaT Bl.plT n s).2 ∧ M.length ≤ k ∧ Bl.Kq (fun k => k = X ∨ k = Y ∨ B ≤ k) w wr := ⟨_, rfl⟩
  refine (each2_any I X q0 q1 n (fun k s' wr hi => ?_) (by omega) (fun k s' wr hk hsf hi => ?_) s w ?_).mono ?_
  · rw [hI] at hi
    obtain ⟨v, M, _, h2, _⟩ := hi
    exact h2
  · rw [hI] at hi
    obtain ⟨v, M, g1, g2, g3, g4, g5, g6⟩ := hi
    rw [Bl.eaT_step Bl.plT n k s' hk hsf] at g3 g4
    refine (rest2_any X Y q0 q1 B s' (cs0.set 3 v) v M wr ⟨g2, g1, Nat.le_trans hBw g6.size⟩ (g6.cell (by omega) h0) (g6.cell (by omega) h1) hXY hY ⟨n0.1, n0.2.1⟩ ⟨n1.1, n1.2.1⟩ (by omega)).mono ?_
    rintro e w' ⟨rfl, v', y, r0, r1, r2, r3⟩
    refine ⟨rfl, (Bl.plT s').2, ?_⟩
    rw [hI]
    rw [List.set_set] at r1
    refine ⟨v', M ++ [y], r1, r2, ?_, g4, by rw [List.length_append, List.length_singleton]; omega, g6.trans r3⟩
    rw [List.map_append, List.append_assoc, ← g3]
    show _ ++ ([(fun y : Int => y) y] ++ _) = _ ++ ([(Bl.nuT 2 s').1] ++ _)
    rw [show (fun y : Int => y) y = (Bl.nuT 2 s').1 from r0]
  · rw [hI]
    exact ⟨_, [], Bl.GP.start hB (by rw [List.getElem?_set_self hl]), hR, rfl, rfl, Nat.le_refl _, Bl.Kq.refl _⟩
  · rintro e w' ⟨rfl, k, s', hk, hi, hke⟩
    rw [hI] at hi
    obtain ⟨v, M, g1, g2, g3, g4, _, g6⟩ := hi
    have hfin : Bl.eaT Bl.plT (n - k) s' = ([], s') := by
      rcases hke with rfl | hs
      · rw [Nat.sub_self]; rfl
      · exact Bl.eaT_stop _ _ _ hs
    rw [hfin] at g3 g4
    rw [List.append_nil] at g3
    exact ⟨rfl, ⟨v, M, g1, g3⟩, g4 ▸ g2, g6⟩

theorem runS_any (X Y q0 q1 B n : Nat) (s : Bl.Rst) (cs0 : List Value) (w : World) (hR : Bl.Rdr w X s) (hB : Bl.BoxC w Y (cs0.set 4 (.slice none 0 0))) (hl : 4 < cs0.length) (h0 : w.cell? ⟨q0, 0, none⟩ = some (.pointer (some ⟨Y, 0, none⟩))) (h1 : w.cell? ⟨q1, 0, none⟩ = some (.pointer (some ⟨X, 0, none⟩))) (hXY : X < Y) (hY : Y < B) (n0 : q0 < B ∧ q0 ≠ X ∧ q0 ≠ Y) (n1 : q1 < B ∧ q1 ≠ X ∧ q1 ≠ Y) (hBw : B ≤ w.heap.size) (hn : n ≤ 65535) :
    Calls Tryd.prog 78 #[.pointer (some ⟨X, 0, none⟩), .int .i64 n, .func (.func 81) #[] #[.pointer (some ⟨q0, 0, none⟩), .pointer (some ⟨q1, 0, none⟩)]] w fun e w' => e = .returned (.tuple #[]) ∧ (∃ v M, Bl.GP Bl.cS 3 Bl.OkF B w' Y 4 (cs0.set 4 v) v M ∧ M.map Bl.plS = (Bl.eaT Bl.ssT n s).1) ∧ Bl.Rdr w' X (Bl.eaT Bl.ssT n s).2 ∧ Bl.Kq (fun k => k = X ∨ k = Y ∨ B ≤ k) w w' := by
  obtain ⟨I, hI⟩ : ∃ I : Nat → Bl.Rst → World → Prop, I = fun k s' wr => ∃ v M, Bl.GP Bl.cS 3 Bl.OkF B wr Y 4 (cs0.set 4 v) v M ∧ Bl.Rdr wr X s' ∧ M.map Bl.plS ++ (Bl.eaT Bl.ssT (n - k) s').1 = (Bl.eaT Bl.ssT n s).1 ∧ (Bl.eaT Bl.ssT (n - k) s').2 = (Bl.eaT Bl.ssT n s).2 ∧ M.length ≤ k ∧ Bl.Kq (fun k => k = X ∨ k = Y ∨ B ≤ k) w wr := ⟨_, rfl⟩
  refine (each3_any I X q0 q1 n (fun k s' wr hi => ?_) (by omega) (fun k s' wr hk hsf hi => ?_) s w ?_).mono ?_
  · rw [hI] at hi
    obtain ⟨v, M, _, h2, _⟩ := hi
    exact h2
  · rw [hI] at hi
    obtain ⟨v, M, g1, g2, g3, g4, g5, g6⟩ := hi
    rw [Bl.eaT_step Bl.ssT n k s' hk hsf] at g3 g4
    refine (rest3_any X Y q0 q1 B s' (cs0.set 4 v) v M wr ⟨g2, g1, Nat.le_trans hBw g6.size⟩ (g6.cell (by omega) h0) (g6.cell (by omega) h1) hXY hY ⟨n0.1, n0.2.1⟩ ⟨n1.1, n1.2.1⟩ (by omega)).mono ?_
    rintro e w' ⟨rfl, v', y, r0, r1, r2, r3⟩
    refine ⟨rfl, (Bl.ssT s').2, ?_⟩
    rw [hI]
    rw [List.set_set] at r1
    refine ⟨v', M ++ [y], r1, r2, ?_, g4, by rw [List.length_append, List.length_singleton]; omega, g6.trans r3⟩
    rw [List.map_append, List.append_assoc, ← g3]
    show _ ++ ([Bl.plS y] ++ _) = _ ++ ([(Bl.shT s').1] ++ _)
    rw [show Bl.plS y = (Bl.shT s').1 from r0]
  · rw [hI]
    exact ⟨_, [], Bl.GP.start hB (by rw [List.getElem?_set_self hl]), hR, rfl, rfl, Nat.le_refl _, Bl.Kq.refl _⟩
  · rintro e w' ⟨rfl, k, s', hk, hi, hke⟩
    rw [hI] at hi
    obtain ⟨v, M, g1, g2, g3, g4, _, g6⟩ := hi
    have hfin : Bl.eaT Bl.ssT (n - k) s' = ([], s') := by
      rcases hke with rfl | hs
      · rw [Nat.sub_self]; rfl
      · exact Bl.eaT_stop _ _ _ hs
    rw [hfin] at g3 g4
    rw [List.append_nil] at g3
    exact ⟨rfl, ⟨v, M, g1, g3⟩, g4 ▸ g2, g6⟩
end Go.Proofs.YtmmolapkddbibaaDoor

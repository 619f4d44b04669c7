/- Walk of reader.rest. -/
import Derived.Test.YtmmolapkddbibaaDoorLpb
namespace Go.Proofs.Bl
open Go Go.RowKit
/-- a letter of three numbers: its cells -/
def cK (k i o f c d : Int) : List Value := [.int .i64 k, .int .i64 i, .int .i64 o, .slice none 0 0, .slice none 0 0, .int .i64 f, .int .i64 c, .slice none 0 0, .int .i64 d]
/-- two numbers are read, the first is stored -/
structure J5 (X Y : Nat) (s s1 s2 : Rst) (cs cs' : List Value) (d : Nat → Bool) (u : Nat → Value) (w : World) : Prop where
  a : d 3 = false → Rdr w X s
  c : d 3 = true → d 5 = false → Rdr w X s1
  e : d 5 = true → Rdr w X s2
  g : d 8 = false → BoxC w Y cs
  h : d 8 = true → BoxC w Y cs'
section
variable {X Y : Nat} {s s1 s2 : Rst} {cs cs' : List Value} {d : Nat → Bool} {u u' : Nat → Value} {w w' : World}
theorem J5.start (h : Rdr w X s) (hB : BoxC w Y cs) : J5 X Y s s1 s2 cs cs' (fun _ => false) u w := ⟨fun _ => h, fun q => (by cases q), fun q => (by cases q), fun _ => hB, fun q => (by cases q)⟩
theorem J5.same {i : Nat} (h : J5 X Y s s1 s2 cs cs' d u w) (hi : (decide (i = 3) || decide (i = 5) || decide (i = 8)) = false) : J5 X Y s s1 s2 cs cs' (upd d i) u' w := by
  simp only [Bool.or_eq_false_iff, decide_eq_false_iff_not] at hi
  obtain ⟨⟨h1, h2⟩, h3⟩ := hi
  have a3 : upd d i 3 = d 3 := if_neg (fun e => h1 e.symm)
  have a5 : upd d i 5 = d 5 := if_neg (fun e => h2 e.symm)
  have a8 : upd d i 8 = d 8 := if_neg (fun e => h3 e.symm)
  exact ⟨by rw [a3]; exact h.a, by rw [a3, a5]; exact h.c, by rw [a5]; exact h.e, by rw [a8]; exact h.g, by rw [a8]; exact h.h⟩
theorem J5.one (h : J5 X Y s s1 s2 cs cs' d u w) (h5 : d 5 = false) (hne : X ≠ Y) (hR : Rdr w' X s1) (hK : Kq (fun k => k = X) w w') : J5 X Y s s1 s2 cs cs' (upd d 3) u' w' :=
  ⟨fun q => (by cases q), fun _ _ => hR, fun q => (by have q : d 5 = true := q; rw [h5] at q; cases q), fun q => hK.box (fun e => hne e.symm) (h.g q), fun q => hK.box (fun e => hne e.symm) (h.h q)⟩
theorem J5.two (h : J5 X Y s s1 s2 cs cs' d u w) (h3 : d 3 = true) (hne : X ≠ Y) (hR : Rdr w' X s2) (hK : Kq (fun k => k = X) w w') : J5 X Y s s1 s2 cs cs' (upd d 5) u' w' :=
  ⟨fun q => (by have q : d 3 = false := q; rw [h3] at q; cases q), fun _ q => (by cases q), fun _ => hR, fun q => hK.box (fun e => hne e.symm) (h.g q), fun q => hK.box (fun e => hne e.symm) (h.h q)⟩
theorem J5.set (h : J5 X Y s s1 s2 cs cs' d u w) (hXY : X < Y) {p : Nat} {v : Value} (hB : BoxC (w.setCell ⟨Y, p, none⟩ v) Y cs') : J5 X Y s s1 s2 cs cs' (upd d 8) u' (w.setCell ⟨Y, p, none⟩ v) := by
  have hK : Kq (fun k => k = Y) w (w.setCell ⟨Y, p, none⟩ v) := (Kq.refl w).setCell (Q := fun k => k = Y) ⟨Y, p, none⟩ rfl v
  have key : ∀ {s}, Rdr w X s → Rdr (w.setCell ⟨Y, p, none⟩ v) X s := fun h => h.kept hK (fun i hi q => by omega)
  exact ⟨fun q => key (h.a q), fun q q2 => key (h.c q q2), fun q => key (h.e q), fun q => (by cases q), fun _ => hB⟩
end
end Go.Proofs.Bl
namespace Go.Proofs.YtmmolapkddbibaaDoor
open Go Go.RowKit Go.Proofs

/-- what reader.rest does, for one kind -/
def RestDoes (k : Int) : Prop := ∀ (X Y : Nat) (i o : Int) (s : Bl.Rst) (w : World), Bl.Rdr w X s → Bl.BoxC w Y (Bl.cK k i o 0 0 0) → X < Y →
    Calls Tryd.prog 50 #[.pointer (some ⟨X, 0, none⟩), .pointer (some ⟨Y, 0, none⟩)] w fun e w' => e = .returned (.tuple #[]) ∧ Bl.LtY w' Y w.heap.size (Bl.rsT k i o s).1 ∧ Bl.Rdr w' X (Bl.rsT k i o s).2 ∧ Bl.Kq (fun k => k = X ∨ k = Y) w w'

set_option maxRecDepth 100000 in
set_option maxHeartbeats 4000000 in
theorem rrest1 : RestDoes 1 := by
  intro X Y i o s w h hB hXY
  have hYl := hB.lt
  have hE0 := Bl.ext_alloc w (.cells #[.pointer (some ⟨X, 0, none⟩)] 94)
  have hE1 := hE0.trans (Bl.ext_alloc _ (.cells #[.pointer (some ⟨Y, 0, none⟩)] 75))
  have hs0 : (w.alloc (.cells #[.pointer (some ⟨X, 0, none⟩)] 94)).heap.size = w.heap.size + 1 := World.size_alloc _ _
  obtain ⟨W1, hW1⟩ : ∃ W1, W1 = (w.alloc (.cells #[.pointer (some ⟨X, 0, none⟩)] 94)).alloc (.cells #[.pointer (some ⟨Y, 0, none⟩)] 75) := ⟨_, rfl⟩
  have hs1 : W1.heap.size = w.heap.size + 1 + 1 := by rw [hW1, World.size_alloc, hs0]
  have hq2 : W1.cell? ⟨w.heap.size, 0, none⟩ = some (.pointer (some ⟨X, 0, none⟩)) := by
    rw [hW1]
    have h0 : (w.alloc (.cells #[.pointer (some ⟨X, 0, none⟩)] 94)).cell? ⟨w.heap.size, 0, none⟩ = some (.pointer (some ⟨X, 0, none⟩)) := by rw [World.cell?_alloc_new]; rfl
    exact ((Bl.bcell (Bl.ext_alloc _ _)).1 _ _ (World.block_lt_of_cell? _ _ h0)).trans h0
  have hq3 : W1.cell? ⟨w.heap.size + 1, 0, none⟩ = some (.pointer (some ⟨Y, 0, none⟩)) := by
    rw [hW1, ← hs0, World.cell?_alloc_new]; rfl
  rw [← hW1] at hE1
  have HE1 := Bl.hid hE1
  have HB1 := Bl.hid (hB.ext hE1)
  have HR1 := Bl.hid (h.ext hE1)
  have Hs : Hid (W1.heap.size = w.heap.size + 1 + 1 ∧ X < Y ∧ Y < w.heap.size) := Bl.hid ⟨hs1, hXY, hYl⟩
  have Hq : Hid (∀ w2, Bl.Kq (fun k => k = X ∨ k = Y) W1 w2 → w2.cell? ⟨w.heap.size, 0, none⟩ = some (.pointer (some ⟨X, 0, none⟩)) ∧ w2.cell? ⟨w.heap.size + 1, 0, none⟩ = some (.pointer (some ⟨Y, 0, none⟩))) := Bl.hid fun w2 hk => ⟨hk.cell (by omega) hq2, hk.cell (by omega) hq3⟩
  have hk0 := HB1.out.cell (i := 0) (v := .int .i64 1) rfl
  rw [hW1] at hk0
  clear h hB hE0 hE1 hs0 hs1 hq2 hXY hYl
  have hrs : Bl.rsT 1 i o s = (⟨1, i, o, [], [], 0, 0, (Bl.eaT Bl.blT (Bl.nuT 2 s).1.toNat (Bl.nuT 2 s).2).1, 0⟩, (Bl.eaT Bl.blT (Bl.nuT 2 s).1.toNat (Bl.nuT 2 s).2).2) := rfl
  rw [hrs]
  clear hrs
  have HNe : Hid (∀ w2, Bl.Rdr w2 X s → Calls Tryd.prog 49 #[.pointer (some ⟨X, 0, none⟩), .int .i64 2] w2 fun e w' => e = .returned (.int .i64 (Bl.nuT 2 s).1) ∧ Bl.Rdr w' X (Bl.nuT 2 s).2 ∧ Bl.Kq (fun k => k = X) w2 w') := Bl.hid fun w2 hr => rdnum_any X 2 s w2 hr (by decide) (by decide)
  have hn := Bl.nu2_le (s := s) HR1.out.by'
  obtain ⟨cI, hcI⟩ : ∃ cI, cI = (Bl.nuT 2 s).1 := ⟨_, rfl⟩
  obtain ⟨s3, hs3⟩ : ∃ s3, s3 = (Bl.nuT 2 s).2 := ⟨_, rfl⟩
  rw [← hcI] at hn
  rw [← hcI, ← hs3] at HNe
  simp only [← hcI, ← hs3]
  obtain ⟨n, rfl⟩ := Int.eq_ofNat_of_zero_le hn.1
  rw [Int.toNat_natCast]
  have Hn : Hid (n ≤ 65535) := Bl.hid (by omega)
  clear hcI hs3 hn
  go_enter Tryd.func50, Tryd.ntmps50
  go_wp2_with fail
  rw [← hW1]
  clear hW1 hk0 hq3
  apply Bl.wp_region_evK (Bl.Kq (fun k => k = X)) (Bl.HJ 2 (fun w' => Bl.Rdr w' X s) (fun w' => Bl.Rdr w' X s3)) 4 [25, 26, 27, 28] [Bl.eqv _, Bl.eqv _, Bl.eqv _, Bl.eqv _] (fun w => Bl.Kq.refl w) (fun a b c h k => Bl.Kq.trans h k) (by kernel_rfl) (by kernel_rfl) (by kernel_rfl) (by kernel_rfl)
  case hsteps =>
    refine ⟨?_, ?_, ?_, ?_, trivial⟩
    all_goals
      intro d ev w1 hext HJd Hanc Hdes hni hb hd
      replace Hanc := Bl.hid Hanc
      replace HJd := Bl.hid HJd
      replace Hdes := Bl.hid Hdes
      replace hni := Bl.hid hni
      have e2 := hb 2 (by decide)
      have e3 := hb 3 (by decide)
      clear hb
      simp only [Array.getD_eq_getD_getElem?, List.getElem?_toArray, List.getElem?_cons_succ, List.getElem?_cons_zero, Option.getD_some] at e2 e3
      simp only [Bl.DepsE2, List.getElem?_cons_succ, List.getElem?_cons_zero, Option.bind_some, List.getD_cons_succ, List.getD_cons_zero, Bl.eqv, and_true] at hd
      have q3 := Hq.out _ ((Bl.Kq.refl W1).trans (hext.mono fun _ _ q => .inl q))
      have c0 := q3.1
      have c1 := q3.2
      clear q3
      rw [if_pos (rfl : Region.wanted _ _ = true)]
      go_simp
      first | exact ⟨Bl.Kq.refl _, rfl, Bl.HJ.same (by decide) HJd.out⟩ | (go_at_call 49; (with_reducible refine (HNe.out w1 (Bl.HJ.get HJd.out hni.out)).mono ?_); rintro e w2 ⟨rfl, k1, k2⟩; exact ⟨_, rfl, k2, rfl, Bl.HJ.set k1⟩) | exact ⟨Below.refl _ _, rfl, Bl.HJ.same (by decide) HJd.out⟩
  case hmono => exact ⟨Bl.monoR_eqv _, Bl.monoR_eqv _, Bl.monoR_eqv _, Bl.monoR_eqv _, trivial⟩
  case hR0 => exact Bl.Kq.drew _
  case hend =>
    intro u w1 hext hJ hend
    simp only [Bl.EndE, List.getElem?_cons_succ, List.getElem?_cons_zero, Option.bind_some, List.getD_cons_succ, List.getD_cons_zero, Bl.eqv, true_and] at hend
    simp only [Bl.fillAct, List.setIfInBounds_toArray, List.set_cons_succ, List.set_cons_zero, List.drop_succ_cons, List.drop_zero, hend]
    have HR2 := Bl.hid (Bl.HJ.got hJ rfl)
    have HK2 := Bl.hid hext
    have HB2 := Bl.hid (HK2.out.box (by have := Hs.out; omega) HB1.out)
    have HKa : Hid (Bl.Kq (fun k => k = X ∨ k = Y) W1 w1) := Bl.hid ((Bl.Kq.refl W1).trans (HK2.out.mono fun _ _ q => .inl q))
    have hq3 := Hq.out _ HKa.out
    have HRun := Bl.hid (runB_any X Y (w.heap.size + 1) w.heap.size W1.heap.size n s3 (Bl.cK 1 i o 0 0 0) w1 HR2.out HB2.out (show 7 < 9 by decide) hq3.2 hq3.1 Hs.out.2.1 (by have := Hs.out; omega) (by have := Hs.out; omega) (by have := Hs.out; omega) HKa.out.size Hn.out)
    clear hext hJ hend hq3
    go_wp2_with fail
    refine HRun.out.mono ?_
    rintro e w3 ⟨rfl, ⟨v, M, hG, hM⟩, hR3, hK3⟩
    have HG := Bl.hid hG
    have HM := Bl.hid hM
    have HR3 := Bl.hid hR3
    have HK3 := Bl.hid hK3
    clear hG hM hR3 hK3 HRun
    go_wp2_with fail
    go_end0
    have hle : w.heap.size ≤ W1.heap.size := by have := Hs.out; omega
    refine ⟨rfl, ⟨_, _, v, [], HG.out.box, Bl.RdsF.nil _, Bl.RdsF.nil _, fun x hx => (by cases hx), rfl, M, HG.out.rowF hle, HG.out.elF Bl.stab_okB hle, HM.out⟩, HR3.out, ?_⟩
    have hA : Bl.Kq (fun k => k = X ∨ k = Y ∨ W1.heap.size ≤ k) w w3 := (Bl.Kq.of_ext HE1.out).trans ((HKa.out.mono fun _ _ q => q.imp id .inl).trans HK3.out)
    exact hA.mono fun b hb q => by
      rcases q with q | q | q
      · exact .inl q
      · exact .inr q
      · omega
  case hJ0 => exact Bl.HJ.start (HR1.out.kept (Q := fun _ => False) (Bl.Kq.drew _) (fun _ _ q => q))

set_option maxRecDepth 100000 in
set_option maxHeartbeats 4000000 in
theorem rrest2 : RestDoes 2 := by
  intro X Y i o s w h hB hXY
  have hYl := hB.lt
  have hE0 := Bl.ext_alloc w (.cells #[.pointer (some ⟨X, 0, none⟩)] 94)
  have hE1 := hE0.trans (Bl.ext_alloc _ (.cells #[.pointer (some ⟨Y, 0, none⟩)] 75))
  have hs0 : (w.alloc (.cells #[.pointer (some ⟨X, 0, none⟩)] 94)).heap.size = w.heap.size + 1 := World.size_alloc _ _
  obtain ⟨W1, hW1⟩ : ∃ W1, W1 = (w.alloc (.cells #[.pointer (some ⟨X, 0, none⟩)] 94)).alloc (.cells #[.pointer (some ⟨Y, 0, none⟩)] 75) := ⟨_, rfl⟩
  have hs1 : W1.heap.size = w.heap.size + 1 + 1 := by rw [hW1, World.size_alloc, hs0]
  have hq2 : W1.cell? ⟨w.heap.size, 0, none⟩ = some (.pointer (some ⟨X, 0, none⟩)) := by
    rw [hW1]
    have h0 : (w.alloc (.cells #[.pointer (some ⟨X, 0, none⟩)] 94)).cell? ⟨w.heap.size, 0, none⟩ = some (.pointer (some ⟨X, 0, none⟩)) := by rw [World.cell?_alloc_new]; rfl
    exact ((Bl.bcell (Bl.ext_alloc _ _)).1 _ _ (World.block_lt_of_cell? _ _ h0)).trans h0
  have hq3 : W1.cell? ⟨w.heap.size + 1, 0, none⟩ = some (.pointer (some ⟨Y, 0, none⟩)) := by
    rw [hW1, ← hs0, World.cell?_alloc_new]; rfl
  rw [← hW1] at hE1
  have HE1 := Bl.hid hE1
  have HB1 := Bl.hid (hB.ext hE1)
  have HR1 := Bl.hid (h.ext hE1)
  have Hs : Hid (W1.heap.size = w.heap.size + 1 + 1 ∧ X < Y ∧ Y < w.heap.size) := Bl.hid ⟨hs1, hXY, hYl⟩
  have Hq : Hid (∀ w2, Bl.Kq (fun k => k = X ∨ k = Y) W1 w2 → w2.cell? ⟨w.heap.size, 0, none⟩ = some (.pointer (some ⟨X, 0, none⟩)) ∧ w2.cell? ⟨w.heap.size + 1, 0, none⟩ = some (.pointer (some ⟨Y, 0, none⟩))) := Bl.hid fun w2 hk => ⟨hk.cell (by omega) hq2, hk.cell (by omega) hq3⟩
  have hk0 := HB1.out.cell (i := 0) (v := .int .i64 2) rfl
  rw [hW1] at hk0
  clear h hB hE0 hE1 hs0 hs1 hq2 hXY hYl
  go_enter Tryd.func50, Tryd.ntmps50
  go_wp2_with fail
  rw [← hW1]
  clear hW1 hk0 hq3
  go_end0
  exact ⟨rfl, ⟨_, _, _, [], HB1.out, Bl.LtF.nil _ _ _ _ _ _ _ _⟩, HR1.out, Bl.Kq.of_ext HE1.out⟩

set_option maxRecDepth 100000 in
set_option maxHeartbeats 4000000 in
theorem rrest3 : RestDoes 3 := by
  intro X Y i o s w h hB hXY
  have hYl := hB.lt
  have hE0 := Bl.ext_alloc w (.cells #[.pointer (some ⟨X, 0, none⟩)] 94)
  have hE1 := hE0.trans (Bl.ext_alloc _ (.cells #[.pointer (some ⟨Y, 0, none⟩)] 75))
  have hs0 : (w.alloc (.cells #[.pointer (some ⟨X, 0, none⟩)] 94)).heap.size = w.heap.size + 1 := World.size_alloc _ _
  obtain ⟨W1, hW1⟩ : ∃ W1, W1 = (w.alloc (.cells #[.pointer (some ⟨X, 0, none⟩)] 94)).alloc (.cells #[.pointer (some ⟨Y, 0, none⟩)] 75) := ⟨_, rfl⟩
  have hs1 : W1.heap.size = w.heap.size + 1 + 1 := by rw [hW1, World.size_alloc, hs0]
  have hq2 : W1.cell? ⟨w.heap.size, 0, none⟩ = some (.pointer (some ⟨X, 0, none⟩)) := by
    rw [hW1]
    have h0 : (w.alloc (.cells #[.pointer (some ⟨X, 0, none⟩)] 94)).cell? ⟨w.heap.size, 0, none⟩ = some (.pointer (some ⟨X, 0, none⟩)) := by rw [World.cell?_alloc_new]; rfl
    exact ((Bl.bcell (Bl.ext_alloc _ _)).1 _ _ (World.block_lt_of_cell? _ _ h0)).trans h0
  have hq3 : W1.cell? ⟨w.heap.size + 1, 0, none⟩ = some (.pointer (some ⟨Y, 0, none⟩)) := by
    rw [hW1, ← hs0, World.cell?_alloc_new]; rfl
  rw [← hW1] at hE1
  have HE1 := Bl.hid hE1
  have HB1 := Bl.hid (hB.ext hE1)
  have HR1 := Bl.hid (h.ext hE1)
  have Hs : Hid (W1.heap.size = w.heap.size + 1 + 1 ∧ X < Y ∧ Y < w.heap.size) := Bl.hid ⟨hs1, hXY, hYl⟩
  have Hq : Hid (∀ w2, Bl.Kq (fun k => k = X ∨ k = Y) W1 w2 → w2.cell? ⟨w.heap.size, 0, none⟩ = some (.pointer (some ⟨X, 0, none⟩)) ∧ w2.cell? ⟨w.heap.size + 1, 0, none⟩ = some (.pointer (some ⟨Y, 0, none⟩))) := Bl.hid fun w2 hk => ⟨hk.cell (by omega) hq2, hk.cell (by omega) hq3⟩
  have hk0 := HB1.out.cell (i := 0) (v := .int .i64 3) rfl
  rw [hW1] at hk0
  clear h hB hE0 hE1 hs0 hs1 hq2 hXY hYl
  have hrs : Bl.rsT 3 i o s = (⟨3, i, o, (Bl.eaT Bl.plT (Bl.nuT 1 s).1.toNat (Bl.nuT 1 s).2).1, [], 0, 0, [], 0⟩, (Bl.eaT Bl.plT (Bl.nuT 1 s).1.toNat (Bl.nuT 1 s).2).2) := rfl
  rw [hrs]
  clear hrs
  have HNe : Hid (∀ w2, Bl.Rdr w2 X s → Calls Tryd.prog 49 #[.pointer (some ⟨X, 0, none⟩), .int .i64 1] w2 fun e w' => e = .returned (.int .i64 (Bl.nuT 1 s).1) ∧ Bl.Rdr w' X (Bl.nuT 1 s).2 ∧ Bl.Kq (fun k => k = X) w2 w') := Bl.hid fun w2 hr => rdnum_any X 1 s w2 hr (by decide) (by decide)
  have hn := Bl.nu1_le (s := s) HR1.out.by'
  obtain ⟨cI, hcI⟩ : ∃ cI, cI = (Bl.nuT 1 s).1 := ⟨_, rfl⟩
  obtain ⟨s3, hs3⟩ : ∃ s3, s3 = (Bl.nuT 1 s).2 := ⟨_, rfl⟩
  rw [← hcI] at hn
  rw [← hcI, ← hs3] at HNe
  simp only [← hcI, ← hs3]
  obtain ⟨n, rfl⟩ := Int.eq_ofNat_of_zero_le hn.1
  rw [Int.toNat_natCast]
  have Hn : Hid (n ≤ 65535) := Bl.hid (by omega)
  clear hcI hs3 hn
  go_enter Tryd.func50, Tryd.ntmps50
  go_wp2_with fail
  rw [← hW1]
  clear hW1 hk0 hq3
  apply Bl.wp_region_evK (Bl.Kq (fun k => k = X)) (Bl.HJ 2 (fun w' => Bl.Rdr w' X s) (fun w' => Bl.Rdr w' X s3)) 4 [30, 31, 32, 33] [Bl.eqv _, Bl.eqv _, Bl.eqv _, Bl.eqv _] (fun w => Bl.Kq.refl w) (fun a b c h k => Bl.Kq.trans h k) (by kernel_rfl) (by kernel_rfl) (by kernel_rfl) (by kernel_rfl)
  case hsteps =>
    refine ⟨?_, ?_, ?_, ?_, trivial⟩
    all_goals
      intro d ev w1 hext HJd Hanc Hdes hni hb hd
      replace Hanc := Bl.hid Hanc
      replace HJd := Bl.hid HJd
      replace Hdes := Bl.hid Hdes
      replace hni := Bl.hid hni
      have e2 := hb 2 (by decide)
      have e3 := hb 3 (by decide)
      clear hb
      simp only [Array.getD_eq_getD_getElem?, List.getElem?_toArray, List.getElem?_cons_succ, List.getElem?_cons_zero, Option.getD_some] at e2 e3
      simp only [Bl.DepsE2, List.getElem?_cons_succ, List.getElem?_cons_zero, Option.bind_some, List.getD_cons_succ, List.getD_cons_zero, Bl.eqv, and_true] at hd
      have q3 := Hq.out _ ((Bl.Kq.refl W1).trans (hext.mono fun _ _ q => .inl q))
      have c0 := q3.1
      have c1 := q3.2
      clear q3
      rw [if_pos (rfl : Region.wanted _ _ = true)]
      go_simp
      first | exact ⟨Bl.Kq.refl _, rfl, Bl.HJ.same (by decide) HJd.out⟩ | (go_at_call 49; (with_reducible refine (HNe.out w1 (Bl.HJ.get HJd.out hni.out)).mono ?_); rintro e w2 ⟨rfl, k1, k2⟩; exact ⟨_, rfl, k2, rfl, Bl.HJ.set k1⟩) | exact ⟨Below.refl _ _, rfl, Bl.HJ.same (by decide) HJd.out⟩
  case hmono => exact ⟨Bl.monoR_eqv _, Bl.monoR_eqv _, Bl.monoR_eqv _, Bl.monoR_eqv _, trivial⟩
  case hR0 => exact Bl.Kq.drew _
  case hend =>
    intro u w1 hext hJ hend
    simp only [Bl.EndE, List.getElem?_cons_succ, List.getElem?_cons_zero, Option.bind_some, List.getD_cons_succ, List.getD_cons_zero, Bl.eqv, true_and] at hend
    simp only [Bl.fillAct, List.setIfInBounds_toArray, List.set_cons_succ, List.set_cons_zero, List.drop_succ_cons, List.drop_zero, hend]
    have HR2 := Bl.hid (Bl.HJ.got hJ rfl)
    have HK2 := Bl.hid hext
    have HB2 := Bl.hid (HK2.out.box (by have := Hs.out; omega) HB1.out)
    have HKa : Hid (Bl.Kq (fun k => k = X ∨ k = Y) W1 w1) := Bl.hid ((Bl.Kq.refl W1).trans (HK2.out.mono fun _ _ q => .inl q))
    have hq3 := Hq.out _ HKa.out
    have HRun := Bl.hid (runP_any X Y (w.heap.size + 1) w.heap.size W1.heap.size n s3 (Bl.cK 3 i o 0 0 0) w1 HR2.out HB2.out (show 3 < 9 by decide) hq3.2 hq3.1 Hs.out.2.1 (by have := Hs.out; omega) (by have := Hs.out; omega) (by have := Hs.out; omega) HKa.out.size Hn.out)
    clear hext hJ hend hq3
    go_wp2_with fail
    refine HRun.out.mono ?_
    rintro e w3 ⟨rfl, ⟨v, M, hG, hM⟩, hR3, hK3⟩
    have HG := Bl.hid hG
    have HM := Bl.hid hM
    have HR3 := Bl.hid hR3
    have HK3 := Bl.hid hK3
    clear hG hM hR3 hK3 HRun
    go_wp2_with fail
    go_end0
    have hle : w.heap.size ≤ W1.heap.size := by have := Hs.out; omega
    refine ⟨rfl, ⟨v, _, _, [], HG.out.box, (by have h := HG.out.rowF hle; have hm := HM.out; rw [List.map_id'] at hm; subst hm; rw [Bl.cellsI] at h; exact h), Bl.RdsF.nil _, fun x hx => (by cases hx), rfl, [], Bl.RdsF.nil _, fun x hx => (by cases hx), rfl⟩, HR3.out, ?_⟩
    have hA : Bl.Kq (fun k => k = X ∨ k = Y ∨ W1.heap.size ≤ k) w w3 := (Bl.Kq.of_ext HE1.out).trans ((HKa.out.mono fun _ _ q => q.imp id .inl).trans HK3.out)
    exact hA.mono fun b hb q => by
      rcases q with q | q | q
      · exact .inl q
      · exact .inr q
      · omega
  case hJ0 => exact Bl.HJ.start (HR1.out.kept (Q := fun _ => False) (Bl.Kq.drew _) (fun _ _ q => q))

set_option maxRecDepth 100000 in
set_option maxHeartbeats 4000000 in
theorem rrest4 : RestDoes 4 := by
  intro X Y i o s w h hB hXY
  have hYl := hB.lt
  have hE0 := Bl.ext_alloc w (.cells #[.pointer (some ⟨X, 0, none⟩)] 94)
  have hE1 := hE0.trans (Bl.ext_alloc _ (.cells #[.pointer (some ⟨Y, 0, none⟩)] 75))
  have hs0 : (w.alloc (.cells #[.pointer (some ⟨X, 0, none⟩)] 94)).heap.size = w.heap.size + 1 := World.size_alloc _ _
  obtain ⟨W1, hW1⟩ : ∃ W1, W1 = (w.alloc (.cells #[.pointer (some ⟨X, 0, none⟩)] 94)).alloc (.cells #[.pointer (some ⟨Y, 0, none⟩)] 75) := ⟨_, rfl⟩
  have hs1 : W1.heap.size = w.heap.size + 1 + 1 := by rw [hW1, World.size_alloc, hs0]
  have hq2 : W1.cell? ⟨w.heap.size, 0, none⟩ = some (.pointer (some ⟨X, 0, none⟩)) := by
    rw [hW1]
    have h0 : (w.alloc (.cells #[.pointer (some ⟨X, 0, none⟩)] 94)).cell? ⟨w.heap.size, 0, none⟩ = some (.pointer (some ⟨X, 0, none⟩)) := by rw [World.cell?_alloc_new]; rfl
    exact ((Bl.bcell (Bl.ext_alloc _ _)).1 _ _ (World.block_lt_of_cell? _ _ h0)).trans h0
  have hq3 : W1.cell? ⟨w.heap.size + 1, 0, none⟩ = some (.pointer (some ⟨Y, 0, none⟩)) := by
    rw [hW1, ← hs0, World.cell?_alloc_new]; rfl
  rw [← hW1] at hE1
  have HE1 := Bl.hid hE1
  have HB1 := Bl.hid (hB.ext hE1)
  have HR1 := Bl.hid (h.ext hE1)
  have Hs : Hid (W1.heap.size = w.heap.size + 1 + 1 ∧ X < Y ∧ Y < w.heap.size) := Bl.hid ⟨hs1, hXY, hYl⟩
  have Hq : Hid (∀ w2, Bl.Kq (fun k => k = X ∨ k = Y) W1 w2 → w2.cell? ⟨w.heap.size, 0, none⟩ = some (.pointer (some ⟨X, 0, none⟩)) ∧ w2.cell? ⟨w.heap.size + 1, 0, none⟩ = some (.pointer (some ⟨Y, 0, none⟩))) := Bl.hid fun w2 hk => ⟨hk.cell (by omega) hq2, hk.cell (by omega) hq3⟩
  have hk0 := HB1.out.cell (i := 0) (v := .int .i64 4) rfl
  rw [hW1] at hk0
  clear h hB hE0 hE1 hs0 hs1 hq2 hXY hYl
  have hrs : Bl.rsT 4 i o s = (⟨4, i, o, [], (Bl.eaT Bl.ssT (Bl.nuT 1 s).1.toNat (Bl.nuT 1 s).2).1, 0, 0, [], 0⟩, (Bl.eaT Bl.ssT (Bl.nuT 1 s).1.toNat (Bl.nuT 1 s).2).2) := rfl
  rw [hrs]
  clear hrs
  have HNe : Hid (∀ w2, Bl.Rdr w2 X s → Calls Tryd.prog 49 #[.pointer (some ⟨X, 0, none⟩), .int .i64 1] w2 fun e w' => e = .returned (.int .i64 (Bl.nuT 1 s).1) ∧ Bl.Rdr w' X (Bl.nuT 1 s).2 ∧ Bl.Kq (fun k => k = X) w2 w') := Bl.hid fun w2 hr => rdnum_any X 1 s w2 hr (by decide) (by decide)
  have hn := Bl.nu1_le (s := s) HR1.out.by'
  obtain ⟨cI, hcI⟩ : ∃ cI, cI = (Bl.nuT 1 s).1 := ⟨_, rfl⟩
  obtain ⟨s3, hs3⟩ : ∃ s3, s3 = (Bl.nuT 1 s).2 := ⟨_, rfl⟩
  rw [← hcI] at hn
  rw [← hcI, ← hs3] at HNe
  simp only [← hcI, ← hs3]
  obtain ⟨n, rfl⟩ := Int.eq_ofNat_of_zero_le hn.1
  rw [Int.toNat_natCast]
  have Hn : Hid (n ≤ 65535) := Bl.hid (by omega)
  clear hcI hs3 hn
  go_enter Tryd.func50, Tryd.ntmps50
  go_wp2_with fail
  rw [← hW1]
  clear hW1 hk0 hq3
  apply Bl.wp_region_evK (Bl.Kq (fun k => k = X)) (Bl.HJ 2 (fun w' => Bl.Rdr w' X s) (fun w' => Bl.Rdr w' X s3)) 4 [35, 36, 37, 38] [Bl.eqv _, Bl.eqv _, Bl.eqv _, Bl.eqv _] (fun w => Bl.Kq.refl w) (fun a b c h k => Bl.Kq.trans h k) (by kernel_rfl) (by kernel_rfl) (by kernel_rfl) (by kernel_rfl)
  case hsteps =>
    refine ⟨?_, ?_, ?_, ?_, trivial⟩
    all_goals
      intro d ev w1 hext HJd Hanc Hdes hni hb hd
      replace Hanc := Bl.hid Hanc
      replace HJd := Bl.hid HJd
      replace Hdes := Bl.hid Hdes
      replace hni := Bl.hid hni
      have e2 := hb 2 (by decide)
      have e3 := hb 3 (by decide)
      clear hb
      simp only [Array.getD_eq_getD_getElem?, List.getElem?_toArray, List.getElem?_cons_succ, List.getElem?_cons_zero, Option.getD_some] at e2 e3
      simp only [Bl.DepsE2, List.getElem?_cons_succ, List.getElem?_cons_zero, Option.bind_some, List.getD_cons_succ, List.getD_cons_zero, Bl.eqv, and_true] at hd
      have q3 := Hq.out _ ((Bl.Kq.refl W1).trans (hext.mono fun _ _ q => .inl q))
      have c0 := q3.1
      have c1 := q3.2
      clear q3
      rw [if_pos (rfl : Region.wanted _ _ = true)]
      go_simp
      first | exact ⟨Bl.Kq.refl _, rfl, Bl.HJ.same (by decide) HJd.out⟩ | (go_at_call 49; (with_reducible refine (HNe.out w1 (Bl.HJ.get HJd.out hni.out)).mono ?_); rintro e w2 ⟨rfl, k1, k2⟩; exact ⟨_, rfl, k2, rfl, Bl.HJ.set k1⟩) | exact ⟨Below.refl _ _, rfl, Bl.HJ.same (by decide) HJd.out⟩
  case hmono => exact ⟨Bl.monoR_eqv _, Bl.monoR_eqv _, Bl.monoR_eqv _, Bl.monoR_eqv _, trivial⟩
  case hR0 => exact Bl.Kq.drew _
  case hend =>
    intro u w1 hext hJ hend
    simp only [Bl.EndE, List.getElem?_cons_succ, List.getElem?_cons_zero, Option.bind_some, List.getD_cons_succ, List.getD_cons_zero, Bl.eqv, true_and] at hend
    simp only [Bl.fillAct, List.setIfInBounds_toArray, List.set_cons_succ, List.set_cons_zero, List.drop_succ_cons, List.drop_zero, hend]
    have HR2 := Bl.hid (Bl.HJ.got hJ rfl)
    have HK2 := Bl.hid hext
    have HB2 := Bl.hid (HK2.out.box (by have := Hs.out; omega) HB1.out)
    have HKa : Hid (Bl.Kq (fun k => k = X ∨ k = Y) W1 w1) := Bl.hid ((Bl.Kq.refl W1).trans (HK2.out.mono fun _ _ q => .inl q))
    have hq3 := Hq.out _ HKa.out
    have HRun := Bl.hid (runS_any X Y (w.heap.size + 1) w.heap.size W1.heap.size n s3 (Bl.cK 4 i o 0 0 0) w1 HR2.out HB2.out (show 4 < 9 by decide) hq3.2 hq3.1 Hs.out.2.1 (by have := Hs.out; omega) (by have := Hs.out; omega) (by have := Hs.out; omega) HKa.out.size Hn.out)
    clear hext hJ hend hq3
    go_wp2_with fail
    refine HRun.out.mono ?_
    rintro e w3 ⟨rfl, ⟨v, M, hG, hM⟩, hR3, hK3⟩
    have HG := Bl.hid hG
    have HM := Bl.hid hM
    have HR3 := Bl.hid hR3
    have HK3 := Bl.hid hK3
    clear hG hM hR3 hK3 HRun
    go_wp2_with fail
    go_end0
    have hle : w.heap.size ≤ W1.heap.size := by have := Hs.out; omega
    refine ⟨rfl, ⟨_, v, _, M, HG.out.box, Bl.RdsF.nil _, HG.out.rowF hle, HG.out.elF Bl.stab_okF hle, HM.out, [], Bl.RdsF.nil _, fun x hx => (by cases hx), rfl⟩, HR3.out, ?_⟩
    have hA : Bl.Kq (fun k => k = X ∨ k = Y ∨ W1.heap.size ≤ k) w w3 := (Bl.Kq.of_ext HE1.out).trans ((HKa.out.mono fun _ _ q => q.imp id .inl).trans HK3.out)
    exact hA.mono fun b hb q => by
      rcases q with q | q | q
      · exact .inl q
      · exact .inr q
      · omega
  case hJ0 => exact Bl.HJ.start (HR1.out.kept (Q := fun _ => False) (Bl.Kq.drew _) (fun _ _ q => q))

set_option maxRecDepth 100000 in
set_option maxHeartbeats 4000000 in
theorem rrest5 : RestDoes 5 := by
  intro X Y i o s w h hB hXY
  have hYl := hB.lt
  have hE0 := Bl.ext_alloc w (.cells #[.pointer (some ⟨X, 0, none⟩)] 94)
  have hE1 := hE0.trans (Bl.ext_alloc _ (.cells #[.pointer (some ⟨Y, 0, none⟩)] 75))
  have hs0 : (w.alloc (.cells #[.pointer (some ⟨X, 0, none⟩)] 94)).heap.size = w.heap.size + 1 := World.size_alloc _ _
  obtain ⟨W1, hW1⟩ : ∃ W1, W1 = (w.alloc (.cells #[.pointer (some ⟨X, 0, none⟩)] 94)).alloc (.cells #[.pointer (some ⟨Y, 0, none⟩)] 75) := ⟨_, rfl⟩
  have hs1 : W1.heap.size = w.heap.size + 1 + 1 := by rw [hW1, World.size_alloc, hs0]
  have hq2 : W1.cell? ⟨w.heap.size, 0, none⟩ = some (.pointer (some ⟨X, 0, none⟩)) := by
    rw [hW1]
    have h0 : (w.alloc (.cells #[.pointer (some ⟨X, 0, none⟩)] 94)).cell? ⟨w.heap.size, 0, none⟩ = some (.pointer (some ⟨X, 0, none⟩)) := by rw [World.cell?_alloc_new]; rfl
    exact ((Bl.bcell (Bl.ext_alloc _ _)).1 _ _ (World.block_lt_of_cell? _ _ h0)).trans h0
  have hq3 : W1.cell? ⟨w.heap.size + 1, 0, none⟩ = some (.pointer (some ⟨Y, 0, none⟩)) := by
    rw [hW1, ← hs0, World.cell?_alloc_new]; rfl
  rw [← hW1] at hE1
  have HE1 := Bl.hid hE1
  have HB1 := Bl.hid (hB.ext hE1)
  have HR1 := Bl.hid (h.ext hE1)
  have Hs : Hid (W1.heap.size = w.heap.size + 1 + 1 ∧ X < Y ∧ Y < w.heap.size) := Bl.hid ⟨hs1, hXY, hYl⟩
  have Hq : Hid (∀ w2, Bl.Kq (fun k => k = X ∨ k = Y) W1 w2 → w2.cell? ⟨w.heap.size, 0, none⟩ = some (.pointer (some ⟨X, 0, none⟩)) ∧ w2.cell? ⟨w.heap.size + 1, 0, none⟩ = some (.pointer (some ⟨Y, 0, none⟩))) := Bl.hid fun w2 hk => ⟨hk.cell (by omega) hq2, hk.cell (by omega) hq3⟩
  have hk0 := HB1.out.cell (i := 0) (v := .int .i64 5) rfl
  rw [hW1] at hk0
  clear h hB hE0 hE1 hs0 hs1 hq2 hXY hYl
  have HN1 : Hid (∀ w2, Bl.Rdr w2 X s → Calls Tryd.prog 49 #[.pointer (some ⟨X, 0, none⟩), .int .i64 2] w2 fun e w' => e = .returned (.int .i64 (Bl.nuT 2 s).1) ∧ Bl.Rdr w' X (Bl.nuT 2 s).2 ∧ Bl.Kq (fun k => k = X) w2 w') := Bl.hid fun w2 hr => rdnum_any X 2 s w2 hr (by decide) (by decide)
  have HN2 : Hid (∀ w2, Bl.Rdr w2 X (Bl.nuT 2 s).2 → Calls Tryd.prog 49 #[.pointer (some ⟨X, 0, none⟩), .int .i64 2] w2 fun e w' => e = .returned (.int .i64 (Bl.nuT 2 (Bl.nuT 2 s).2).1) ∧ Bl.Rdr w' X (Bl.nuT 2 (Bl.nuT 2 s).2).2 ∧ Bl.Kq (fun k => k = X) w2 w') := Bl.hid fun w2 hr => rdnum_any X 2 _ w2 hr (by decide) (by decide)
  have hrs : Bl.rsT 5 i o s = (⟨5, i, o, [], [], (Bl.nuT 2 s).1, (Bl.nuT 2 (Bl.nuT 2 s).2).1, [], 0⟩, (Bl.nuT 2 (Bl.nuT 2 s).2).2) := rfl
  rw [hrs]
  obtain ⟨f, hf⟩ : ∃ f, f = (Bl.nuT 2 s).1 := ⟨_, rfl⟩
  obtain ⟨s1, hs1⟩ : ∃ s1, s1 = (Bl.nuT 2 s).2 := ⟨_, rfl⟩
  rw [← hs1] at HN2
  rw [← hf, ← hs1] at HN1
  simp only [← hf, ← hs1]
  obtain ⟨c, hc⟩ : ∃ c, c = (Bl.nuT 2 s1).1 := ⟨_, rfl⟩
  obtain ⟨s2, hs2⟩ : ∃ s2, s2 = (Bl.nuT 2 s1).2 := ⟨_, rfl⟩
  rw [← hc, ← hs2] at HN2
  simp only [← hc, ← hs2]
  clear hrs hf hs1 hc hs2
  go_enter Tryd.func50, Tryd.ntmps50
  go_wp2_with fail
  rw [← hW1]
  clear hW1 hk0 hq3
  apply Bl.wp_region_evK (Bl.Kq (fun k => k = X ∨ k = Y)) (Bl.J5 X Y s s1 s2 (Bl.cK 5 i o 0 0 0) (Bl.cK 5 i o f 0 0)) 11 [40, 41, 42, 43, 44, 45, 46, 47, 48, 49] [Bl.eqv _, Bl.eqv _, Bl.eqv _, Bl.eqv _, Bl.eqv _, Bl.eqv _, Bl.eqv _, Bl.eqv _, Bl.eqv _, Bl.eqv _, Bl.eqv _] (fun w => Bl.Kq.refl w) (fun a b c h k => Bl.Kq.trans h k) (by kernel_rfl) (by kernel_rfl) (by kernel_rfl) (by kernel_rfl)
  case hsteps =>
    refine ⟨?_, ?_, ?_, ?_, ?_, ?_, ?_, ?_, ?_, ?_, ?_, trivial⟩
    all_goals
      intro d ev w1 hext HJd Hanc Hdes hni hb hd
      replace Hanc := Bl.hid Hanc
      replace HJd := Bl.hid HJd
      replace Hdes := Bl.hid Hdes
      replace hni := Bl.hid hni
      have e2 := hb 2 (by decide)
      have e3 := hb 3 (by decide)
      clear hb
      simp only [Array.getD_eq_getD_getElem?, List.getElem?_toArray, List.getElem?_cons_succ, List.getElem?_cons_zero, Option.getD_some] at e2 e3
      simp only [Bl.DepsE2, List.getElem?_cons_succ, List.getElem?_cons_zero, Option.bind_some, List.getD_cons_succ, List.getD_cons_zero, Bl.eqv, and_true] at hd
      have q3 := Hq.out _ hext
      have c0 := q3.1
      have c1 := q3.2
      clear q3
      rw [if_pos (rfl : Region.wanted _ _ = true)]
      first
      | (have hb := HJd.out.g hni.out; have q5 := hb.cell (i := 5) (v := .int .i64 0) rfl; have f5 := hb.fz (i := 5) (show 5 < 9 by decide); have hP := hb.put (i := 5) (show 5 < 9 by decide) (.int .i64 f); go_simp; first | exact ⟨(Bl.Kq.refl w1).setCell (Q := fun k => k = X ∨ k = Y) ⟨Y, 5, none⟩ (.inr rfl) _, HJd.out.set Hs.out.2.1 hP⟩ | exact ⟨(Bl.Kq.refl w1).setCell (Q := fun k => k = X ∨ k = Y) ⟨Y, 5, none⟩ (.inr rfl) _, rfl, HJd.out.set Hs.out.2.1 hP⟩)
      | (go_simp; first | exact ⟨Bl.Kq.refl _, rfl, HJd.out.same (by decide)⟩ | (go_at_call 49; (with_reducible refine (HN1.out w1 (HJd.out.a hni.out)).mono ?_); rintro e w2 ⟨rfl, k1, k2⟩; exact ⟨_, rfl, k2.mono fun _ _ q => .inl q, rfl, HJd.out.one (Hdes.out 5 (by kernel_rfl)) (by have := Hs.out; omega) k1 k2⟩) | (go_at_call 49; (with_reducible refine (HN2.out w1 (HJd.out.c (Hanc.out 3 (by kernel_rfl)) hni.out)).mono ?_); rintro e w2 ⟨rfl, k1, k2⟩; exact ⟨_, rfl, k2.mono fun _ _ q => .inl q, rfl, HJd.out.two (Hanc.out 3 (by kernel_rfl)) (by have := Hs.out; omega) k1 k2⟩) | exact ⟨Below.refl _ _, rfl, Bl.HJ.same (by decide) HJd.out⟩)
  case hmono => exact ⟨Bl.monoR_eqv _, Bl.monoR_eqv _, Bl.monoR_eqv _, Bl.monoR_eqv _, Bl.monoR_eqv _, Bl.monoR_eqv _, Bl.monoR_eqv _, Bl.monoR_eqv _, Bl.monoR_eqv _, Bl.monoR_eqv _, Bl.monoR_eqv _, trivial⟩
  case hR0 => exact Bl.Kq.drew _
  case hend =>
    intro u w1 hext hJ hend
    simp only [Bl.EndE, List.getElem?_cons_succ, List.getElem?_cons_zero, Option.bind_some, List.getD_cons_succ, List.getD_cons_zero, Bl.eqv, true_and] at hend
    simp only [Bl.fillAct, List.setIfInBounds_toArray, List.set_cons_succ, List.set_cons_zero, List.drop_succ_cons, List.drop_zero, hend]
    have HR2 := Bl.hid (hJ.e rfl)
    have HK2 := Bl.hid hext
    have HB2 := Bl.hid (hJ.h rfl)
    have hq6 := HB2.out.cell (i := 6) (v := .int .i64 0) rfl
    have hf6 := HB2.out.fz (i := 6) (show 6 < 9 by decide)
    have HP := Bl.hid (HB2.out.put (i := 6) (show 6 < 9 by decide) (.int .i64 c))
    have HK3 : Hid (Bl.Kq (fun k => k = Y) w1 (w1.setCell ⟨Y, 6, none⟩ (.int .i64 c))) := Bl.hid ((Bl.Kq.refl w1).setCell (Q := fun k => k = Y) ⟨Y, 6, none⟩ rfl _)
    clear hext hJ hend
    go_wp2_with fail
    go_end0
    exact ⟨rfl, ⟨_, _, _, [], HP.out, Bl.LtF.nil _ _ _ _ _ _ _ _⟩, HR2.out.kept HK3.out (fun i hi q => by have := Hs.out; omega), (Bl.Kq.of_ext HE1.out).trans (HK2.out.trans (HK3.out.mono fun _ _ q => .inr q))⟩
  case hJ0 => exact Bl.J5.start (HR1.out.kept (Q := fun _ => False) (Bl.Kq.drew _) (fun _ _ q => q)) (Bl.Kq.box (Q := fun _ => False) (Bl.Kq.drew _) (fun q => q) HB1.out)

set_option maxRecDepth 100000 in
set_option maxHeartbeats 4000000 in
theorem rrest6 : RestDoes 6 := by
  intro X Y i o s w h hB hXY
  have hYl := hB.lt
  have hE0 := Bl.ext_alloc w (.cells #[.pointer (some ⟨X, 0, none⟩)] 94)
  have hE1 := hE0.trans (Bl.ext_alloc _ (.cells #[.pointer (some ⟨Y, 0, none⟩)] 75))
  have hs0 : (w.alloc (.cells #[.pointer (some ⟨X, 0, none⟩)] 94)).heap.size = w.heap.size + 1 := World.size_alloc _ _
  obtain ⟨W1, hW1⟩ : ∃ W1, W1 = (w.alloc (.cells #[.pointer (some ⟨X, 0, none⟩)] 94)).alloc (.cells #[.pointer (some ⟨Y, 0, none⟩)] 75) := ⟨_, rfl⟩
  have hs1 : W1.heap.size = w.heap.size + 1 + 1 := by rw [hW1, World.size_alloc, hs0]
  have hq2 : W1.cell? ⟨w.heap.size, 0, none⟩ = some (.pointer (some ⟨X, 0, none⟩)) := by
    rw [hW1]
    have h0 : (w.alloc (.cells #[.pointer (some ⟨X, 0, none⟩)] 94)).cell? ⟨w.heap.size, 0, none⟩ = some (.pointer (some ⟨X, 0, none⟩)) := by rw [World.cell?_alloc_new]; rfl
    exact ((Bl.bcell (Bl.ext_alloc _ _)).1 _ _ (World.block_lt_of_cell? _ _ h0)).trans h0
  have hq3 : W1.cell? ⟨w.heap.size + 1, 0, none⟩ = some (.pointer (some ⟨Y, 0, none⟩)) := by
    rw [hW1, ← hs0, World.cell?_alloc_new]; rfl
  rw [← hW1] at hE1
  have HE1 := Bl.hid hE1
  have HB1 := Bl.hid (hB.ext hE1)
  have HR1 := Bl.hid (h.ext hE1)
  have Hs : Hid (W1.heap.size = w.heap.size + 1 + 1 ∧ X < Y ∧ Y < w.heap.size) := Bl.hid ⟨hs1, hXY, hYl⟩
  have Hq : Hid (∀ w2, Bl.Kq (fun k => k = X ∨ k = Y) W1 w2 → w2.cell? ⟨w.heap.size, 0, none⟩ = some (.pointer (some ⟨X, 0, none⟩)) ∧ w2.cell? ⟨w.heap.size + 1, 0, none⟩ = some (.pointer (some ⟨Y, 0, none⟩))) := Bl.hid fun w2 hk => ⟨hk.cell (by omega) hq2, hk.cell (by omega) hq3⟩
  have hk0 := HB1.out.cell (i := 0) (v := .int .i64 6) rfl
  rw [hW1] at hk0
  clear h hB hE0 hE1 hs0 hs1 hq2 hXY hYl
  have hrs : Bl.rsT 6 i o s = (⟨6, i, o, [], [], (Bl.nuT 2 s).1, 0, (Bl.eaT Bl.blT (Bl.nuT 2 (Bl.nuT 2 s).2).1.toNat (Bl.nuT 2 (Bl.nuT 2 s).2).2).1, 0⟩, (Bl.eaT Bl.blT (Bl.nuT 2 (Bl.nuT 2 s).2).1.toNat (Bl.nuT 2 (Bl.nuT 2 s).2).2).2) := rfl
  rw [hrs]
  have HN7 : Hid (∀ w2, Bl.Rdr w2 X s → Calls Tryd.prog 49 #[.pointer (some ⟨X, 0, none⟩), .int .i64 2] w2 fun e w' => e = .returned (.int .i64 (Bl.nuT 2 s).1) ∧ Bl.Rdr w' X (Bl.nuT 2 s).2 ∧ Bl.Kq (fun k => k = X) w2 w') := Bl.hid fun w2 hr => rdnum_any X 2 s w2 hr (by decide) (by decide)
  obtain ⟨f, hf⟩ : ∃ f, f = (Bl.nuT 2 s).1 := ⟨_, rfl⟩
  obtain ⟨s1, hs1⟩ : ∃ s1, s1 = (Bl.nuT 2 s).2 := ⟨_, rfl⟩
  rw [← hf, ← hs1] at HN7
  simp only [← hf, ← hs1]
  have HBs1 : Hid (Bl.Byt s1.2) := Bl.hid (by rw [hs1]; exact (Bl.tkT_byt (n := 2) HR1.out.by').2)
  clear hrs hf hs1
  have HNe : Hid (∀ w2, Bl.Rdr w2 X s1 → Calls Tryd.prog 49 #[.pointer (some ⟨X, 0, none⟩), .int .i64 2] w2 fun e w' => e = .returned (.int .i64 (Bl.nuT 2 s1).1) ∧ Bl.Rdr w' X (Bl.nuT 2 s1).2 ∧ Bl.Kq (fun k => k = X) w2 w') := Bl.hid fun w2 hr => rdnum_any X 2 s1 w2 hr (by decide) (by decide)
  have hn := Bl.nu2_le (s := s1) HBs1.out
  obtain ⟨cI, hcI⟩ : ∃ cI, cI = (Bl.nuT 2 s1).1 := ⟨_, rfl⟩
  obtain ⟨s3, hs3⟩ : ∃ s3, s3 = (Bl.nuT 2 s1).2 := ⟨_, rfl⟩
  rw [← hcI] at hn
  rw [← hcI, ← hs3] at HNe
  simp only [← hcI, ← hs3]
  obtain ⟨n, rfl⟩ := Int.eq_ofNat_of_zero_le hn.1
  rw [Int.toNat_natCast]
  have Hn : Hid (n ≤ 65535) := Bl.hid (by omega)
  clear hcI hs3 hn
  go_enter Tryd.func50, Tryd.ntmps50
  go_wp2_with fail
  rw [← hW1]
  clear hW1 hk0 hq3
  apply Bl.wp_region_evK (Bl.Kq (fun k => k = X)) (Bl.HJ 2 (fun w' => Bl.Rdr w' X s) (fun w' => Bl.Rdr w' X s1)) 5 [20, 21, 22, 23, 24] [Bl.eqv _, Bl.eqv _, Bl.eqv _, Bl.eqv _, Bl.eqv _] (fun w => Bl.Kq.refl w) (fun a b c h k => Bl.Kq.trans h k) (by kernel_rfl) (by kernel_rfl) (by kernel_rfl) (by kernel_rfl)
  case hsteps =>
    refine ⟨?_, ?_, ?_, ?_, ?_, trivial⟩
    all_goals
      intro d ev w1 hext HJd Hanc Hdes hni hb hd
      replace Hanc := Bl.hid Hanc
      replace HJd := Bl.hid HJd
      replace Hdes := Bl.hid Hdes
      replace hni := Bl.hid hni
      have e2 := hb 2 (by decide)
      have e3 := hb 3 (by decide)
      clear hb
      simp only [Array.getD_eq_getD_getElem?, List.getElem?_toArray, List.getElem?_cons_succ, List.getElem?_cons_zero, Option.getD_some] at e2 e3
      simp only [Bl.DepsE2, List.getElem?_cons_succ, List.getElem?_cons_zero, Option.bind_some, List.getD_cons_succ, List.getD_cons_zero, Bl.eqv, and_true] at hd
      have q3 := Hq.out _ ((Bl.Kq.refl W1).trans (hext.mono fun _ _ q => .inl q))
      have c0 := q3.1
      have c1 := q3.2
      clear q3
      rw [if_pos (rfl : Region.wanted _ _ = true)]
      go_simp
      first | exact ⟨Bl.Kq.refl _, rfl, Bl.HJ.same (by decide) HJd.out⟩ | (go_at_call 49; (with_reducible refine (HN7.out w1 (Bl.HJ.get HJd.out hni.out)).mono ?_); rintro e w2 ⟨rfl, k1, k2⟩; exact ⟨_, rfl, k2, rfl, Bl.HJ.set k1⟩) | exact ⟨Below.refl _ _, rfl, Bl.HJ.same (by decide) HJd.out⟩
  case hmono => exact ⟨Bl.monoR_eqv _, Bl.monoR_eqv _, Bl.monoR_eqv _, Bl.monoR_eqv _, Bl.monoR_eqv _, trivial⟩
  case hR0 => exact Bl.Kq.drew _
  case hend =>
    intro u w1 hext hJ hend
    simp only [Bl.EndE, List.getElem?_cons_succ, List.getElem?_cons_zero, Option.bind_some, List.getD_cons_succ, List.getD_cons_zero, Bl.eqv, true_and] at hend
    simp only [Bl.fillAct, List.setIfInBounds_toArray, List.set_cons_succ, List.set_cons_zero, List.drop_succ_cons, List.drop_zero, hend]
    have HRx := Bl.hid (Bl.HJ.got hJ rfl)
    have HKx := Bl.hid hext
    have HBx := Bl.hid (HKx.out.box (by have := Hs.out; omega) HB1.out)
    have hq5 := HBx.out.cell (i := 5) (v := .int .i64 0) rfl
    have hf5 := HBx.out.fz (i := 5) (show 5 < 9 by decide)
    have HBy : Hid (Bl.BoxC (w1.setCell ⟨Y, 5, none⟩ (.int .i64 f)) Y (Bl.cK 6 i o f 0 0)) := Bl.hid (HBx.out.put (i := 5) (show 5 < 9 by decide) (.int .i64 f))
    have hKy : Bl.Kq (fun k => k = Y) w1 (w1.setCell ⟨Y, 5, none⟩ (.int .i64 f)) := (Bl.Kq.refl w1).setCell (Q := fun k => k = Y) ⟨Y, 5, none⟩ rfl _
    have HRy := Bl.hid (HRx.out.kept hKy (fun i hi q => by have := Hs.out; omega))
    have HKz : Hid (Bl.Kq (fun k => k = X ∨ k = Y) W1 (w1.setCell ⟨Y, 5, none⟩ (.int .i64 f))) := Bl.hid ((HKx.out.mono fun _ _ q => .inl q).trans (hKy.mono fun _ _ q => .inr q))
    clear hext hJ hend hKy
    go_wp2_with fail
    obtain ⟨W5, hW5⟩ : ∃ W5, W5 = w1.setCell ⟨Y, 5, none⟩ (.int .i64 f) := ⟨_, rfl⟩
    rw [← hW5] at HBy HRy HKz ⊢
    clear hW5 hq5 hf5 HRx HKx HBx HN7
    apply Bl.wp_region_evK (Bl.Kq (fun k => k = X)) (Bl.HJ 2 (fun w' => Bl.Rdr w' X s1) (fun w' => Bl.Rdr w' X s3)) 4 [25, 26, 27, 28] [Bl.eqv _, Bl.eqv _, Bl.eqv _, Bl.eqv _] (fun w => Bl.Kq.refl w) (fun a b c h k => Bl.Kq.trans h k) (by kernel_rfl) (by kernel_rfl) (by kernel_rfl) (by kernel_rfl)
    case hsteps =>
      refine ⟨?_, ?_, ?_, ?_, trivial⟩
      all_goals
        intro d ev w1 hext HJd Hanc Hdes hni hb hd
        replace Hanc := Bl.hid Hanc
        replace HJd := Bl.hid HJd
        replace Hdes := Bl.hid Hdes
        replace hni := Bl.hid hni
        have e2 := hb 2 (by decide)
        have e3 := hb 3 (by decide)
        clear hb
        simp only [Array.getD_eq_getD_getElem?, List.getElem?_toArray, List.getElem?_cons_succ, List.getElem?_cons_zero, Option.getD_some] at e2 e3
        simp only [Bl.DepsE2, List.getElem?_cons_succ, List.getElem?_cons_zero, Option.bind_some, List.getD_cons_succ, List.getD_cons_zero, Bl.eqv, and_true] at hd
        have q3 := Hq.out _ (HKz.out.trans (hext.mono fun _ _ q => .inl q))
        have c0 := q3.1
        have c1 := q3.2
        clear q3
        rw [if_pos (rfl : Region.wanted _ _ = true)]
        go_simp
        first | exact ⟨Bl.Kq.refl _, rfl, Bl.HJ.same (by decide) HJd.out⟩ | (go_at_call 49; (with_reducible refine (HNe.out w1 (Bl.HJ.get HJd.out hni.out)).mono ?_); rintro e w2 ⟨rfl, k1, k2⟩; exact ⟨_, rfl, k2, rfl, Bl.HJ.set k1⟩) | exact ⟨Below.refl _ _, rfl, Bl.HJ.same (by decide) HJd.out⟩
    case hmono => exact ⟨Bl.monoR_eqv _, Bl.monoR_eqv _, Bl.monoR_eqv _, Bl.monoR_eqv _, trivial⟩
    case hR0 => exact Bl.Kq.drew _
    case hend =>
      intro u w1 hext hJ hend
      simp only [Bl.EndE, List.getElem?_cons_succ, List.getElem?_cons_zero, Option.bind_some, List.getD_cons_succ, List.getD_cons_zero, Bl.eqv, true_and] at hend
      simp only [Bl.fillAct, List.setIfInBounds_toArray, List.set_cons_succ, List.set_cons_zero, List.drop_succ_cons, List.drop_zero, hend]
      have HR2 := Bl.hid (Bl.HJ.got hJ rfl)
      have HK2 := Bl.hid hext
      have HB2 := Bl.hid (HK2.out.box (by have := Hs.out; omega) HBy.out)
      have HKa : Hid (Bl.Kq (fun k => k = X ∨ k = Y) W1 w1) := Bl.hid (HKz.out.trans (HK2.out.mono fun _ _ q => .inl q))
      have hq3 := Hq.out _ HKa.out
      have HRun := Bl.hid (runB_any X Y (w.heap.size + 1) w.heap.size W1.heap.size n s3 (Bl.cK 6 i o f 0 0) w1 HR2.out HB2.out (show 7 < 9 by decide) hq3.2 hq3.1 Hs.out.2.1 (by have := Hs.out; omega) (by have := Hs.out; omega) (by have := Hs.out; omega) HKa.out.size Hn.out)
      clear hext hJ hend hq3
      go_wp2_with fail
      refine HRun.out.mono ?_
      rintro e w3 ⟨rfl, ⟨v, M, hG, hM⟩, hR3, hK3⟩
      have HG := Bl.hid hG
      have HM := Bl.hid hM
      have HR3 := Bl.hid hR3
      have HK3 := Bl.hid hK3
      clear hG hM hR3 hK3 HRun
      go_wp2_with fail
      go_end0
      have hle : w.heap.size ≤ W1.heap.size := by have := Hs.out; omega
      refine ⟨rfl, ⟨_, _, v, [], HG.out.box, Bl.RdsF.nil _, Bl.RdsF.nil _, fun x hx => (by cases hx), rfl, M, HG.out.rowF hle, HG.out.elF Bl.stab_okB hle, HM.out⟩, HR3.out, ?_⟩
      have hA : Bl.Kq (fun k => k = X ∨ k = Y ∨ W1.heap.size ≤ k) w w3 := (Bl.Kq.of_ext HE1.out).trans ((HKa.out.mono fun _ _ q => q.imp id .inl).trans HK3.out)
      exact hA.mono fun b hb q => by
        rcases q with q | q | q
        · exact .inl q
        · exact .inr q
        · omega
    case hJ0 => exact Bl.HJ.start (HRy.out.kept (Q := fun _ => False) (Bl.Kq.drew _) (fun _ _ q => q))
  case hJ0 => exact Bl.HJ.start (HR1.out.kept (Q := fun _ => False) (Bl.Kq.drew _) (fun _ _ q => q))

set_option maxRecDepth 100000 in
set_option maxHeartbeats 4000000 in
theorem rrest7 : RestDoes 7 := by
  intro X Y i o s w h hB hXY
  have hYl := hB.lt
  have hE0 := Bl.ext_alloc w (.cells #[.pointer (some ⟨X, 0, none⟩)] 94)
  have hE1 := hE0.trans (Bl.ext_alloc _ (.cells #[.pointer (some ⟨Y, 0, none⟩)] 75))
  have hs0 : (w.alloc (.cells #[.pointer (some ⟨X, 0, none⟩)] 94)).heap.size = w.heap.size + 1 := World.size_alloc _ _
  obtain ⟨W1, hW1⟩ : ∃ W1, W1 = (w.alloc (.cells #[.pointer (some ⟨X, 0, none⟩)] 94)).alloc (.cells #[.pointer (some ⟨Y, 0, none⟩)] 75) := ⟨_, rfl⟩
  have hs1 : W1.heap.size = w.heap.size + 1 + 1 := by rw [hW1, World.size_alloc, hs0]
  have hq2 : W1.cell? ⟨w.heap.size, 0, none⟩ = some (.pointer (some ⟨X, 0, none⟩)) := by
    rw [hW1]
    have h0 : (w.alloc (.cells #[.pointer (some ⟨X, 0, none⟩)] 94)).cell? ⟨w.heap.size, 0, none⟩ = some (.pointer (some ⟨X, 0, none⟩)) := by rw [World.cell?_alloc_new]; rfl
    exact ((Bl.bcell (Bl.ext_alloc _ _)).1 _ _ (World.block_lt_of_cell? _ _ h0)).trans h0
  have hq3 : W1.cell? ⟨w.heap.size + 1, 0, none⟩ = some (.pointer (some ⟨Y, 0, none⟩)) := by
    rw [hW1, ← hs0, World.cell?_alloc_new]; rfl
  rw [← hW1] at hE1
  have HE1 := Bl.hid hE1
  have HB1 := Bl.hid (hB.ext hE1)
  have HR1 := Bl.hid (h.ext hE1)
  have Hs : Hid (W1.heap.size = w.heap.size + 1 + 1 ∧ X < Y ∧ Y < w.heap.size) := Bl.hid ⟨hs1, hXY, hYl⟩
  have Hq : Hid (∀ w2, Bl.Kq (fun k => k = X ∨ k = Y) W1 w2 → w2.cell? ⟨w.heap.size, 0, none⟩ = some (.pointer (some ⟨X, 0, none⟩)) ∧ w2.cell? ⟨w.heap.size + 1, 0, none⟩ = some (.pointer (some ⟨Y, 0, none⟩))) := Bl.hid fun w2 hk => ⟨hk.cell (by omega) hq2, hk.cell (by omega) hq3⟩
  have hk0 := HB1.out.cell (i := 0) (v := .int .i64 7) rfl
  rw [hW1] at hk0
  clear h hB hE0 hE1 hs0 hs1 hq2 hXY hYl
  have HN7 : Hid (∀ w2, Bl.Rdr w2 X s → Calls Tryd.prog 49 #[.pointer (some ⟨X, 0, none⟩), .int .i64 1] w2 fun e w' => e = .returned (.int .i64 (Bl.nuT 1 s).1) ∧ Bl.Rdr w' X (Bl.nuT 1 s).2 ∧ Bl.Kq (fun k => k = X) w2 w') := Bl.hid fun w2 hr => rdnum_any X 1 s w2 hr (by decide) (by decide)
  have hrs : Bl.rsT 7 i o s = (⟨7, i, o, [], [], 0, 0, [], (Bl.nuT 1 s).1⟩, (Bl.nuT 1 s).2) := rfl
  rw [hrs]
  obtain ⟨cd, hcd⟩ : ∃ cd, cd = (Bl.nuT 1 s).1 := ⟨_, rfl⟩
  obtain ⟨s1, hs1⟩ : ∃ s1, s1 = (Bl.nuT 1 s).2 := ⟨_, rfl⟩
  rw [← hcd, ← hs1] at HN7
  simp only [← hcd, ← hs1]
  clear hrs hcd hs1
  go_enter Tryd.func50, Tryd.ntmps50
  go_wp2_with fail
  rw [← hW1]
  clear hW1 hk0 hq3
  apply Bl.wp_region_evK (Bl.Kq (fun k => k = X)) (Bl.HJ 2 (fun w' => Bl.Rdr w' X s) (fun w' => Bl.Rdr w' X s1)) 5 [50, 51, 52, 53, 54] [Bl.eqv _, Bl.eqv _, Bl.eqv _, Bl.eqv _, Bl.eqv _] (fun w => Bl.Kq.refl w) (fun a b c h k => Bl.Kq.trans h k) (by kernel_rfl) (by kernel_rfl) (by kernel_rfl) (by kernel_rfl)
  case hsteps =>
    refine ⟨?_, ?_, ?_, ?_, ?_, trivial⟩
    all_goals
      intro d ev w1 hext HJd Hanc Hdes hni hb hd
      replace Hanc := Bl.hid Hanc
      replace HJd := Bl.hid HJd
      replace Hdes := Bl.hid Hdes
      replace hni := Bl.hid hni
      have e2 := hb 2 (by decide)
      have e3 := hb 3 (by decide)
      clear hb
      simp only [Array.getD_eq_getD_getElem?, List.getElem?_toArray, List.getElem?_cons_succ, List.getElem?_cons_zero, Option.getD_some] at e2 e3
      simp only [Bl.DepsE2, List.getElem?_cons_succ, List.getElem?_cons_zero, Option.bind_some, List.getD_cons_succ, List.getD_cons_zero, Bl.eqv, and_true] at hd
      have q3 := Hq.out _ ((Bl.Kq.refl W1).trans (hext.mono fun _ _ q => .inl q))
      have c0 := q3.1
      have c1 := q3.2
      clear q3
      rw [if_pos (rfl : Region.wanted _ _ = true)]
      go_simp
      first | exact ⟨Bl.Kq.refl _, rfl, Bl.HJ.same (by decide) HJd.out⟩ | (go_at_call 49; (with_reducible refine (HN7.out w1 (Bl.HJ.get HJd.out hni.out)).mono ?_); rintro e w2 ⟨rfl, k1, k2⟩; exact ⟨_, rfl, k2, rfl, Bl.HJ.set k1⟩) | exact ⟨Below.refl _ _, rfl, Bl.HJ.same (by decide) HJd.out⟩
  case hmono => exact ⟨Bl.monoR_eqv _, Bl.monoR_eqv _, Bl.monoR_eqv _, Bl.monoR_eqv _, Bl.monoR_eqv _, trivial⟩
  case hR0 => exact Bl.Kq.drew _
  case hend =>
    intro u w1 hext hJ hend
    simp only [Bl.EndE, List.getElem?_cons_succ, List.getElem?_cons_zero, Option.bind_some, List.getD_cons_succ, List.getD_cons_zero, Bl.eqv, true_and] at hend
    simp only [Bl.fillAct, List.setIfInBounds_toArray, List.set_cons_succ, List.set_cons_zero, List.drop_succ_cons, List.drop_zero, hend]
    have HR2 := Bl.hid (Bl.HJ.got hJ rfl)
    have HK2 := Bl.hid hext
    have HB2 := Bl.hid (HK2.out.box (by have := Hs.out; omega) HB1.out)
    have hq8 := HB2.out.cell (i := 8) (v := .int .i64 0) rfl
    have hf8 := HB2.out.fz (i := 8) (show 8 < 9 by decide)
    have HP := Bl.hid (HB2.out.put (i := 8) (show 8 < 9 by decide) (.int .i64 cd))
    have HK3 : Hid (Bl.Kq (fun k => k = Y) w1 (w1.setCell ⟨Y, 8, none⟩ (.int .i64 cd))) := Bl.hid ((Bl.Kq.refl w1).setCell (Q := fun k => k = Y) ⟨Y, 8, none⟩ rfl _)
    clear hext hJ hend
    go_wp2_with fail
    go_end0
    exact ⟨rfl, ⟨_, _, _, [], HP.out, Bl.LtF.nil _ _ _ _ _ _ _ _⟩, HR2.out.kept HK3.out (fun i hi q => by have := Hs.out; omega), (Bl.Kq.of_ext HE1.out).trans ((HK2.out.mono fun _ _ q => .inl q).trans (HK3.out.mono fun _ _ q => .inr q))⟩
  case hJ0 => exact Bl.HJ.start (HR1.out.kept (Q := fun _ => False) (Bl.Kq.drew _) (fun _ _ q => q))

theorem rrest_any (k : Int) (hk : 1 ≤ k ∧ k ≤ 7) : RestDoes k := by
  have hc : k = 1 ∨ k = 2 ∨ k = 3 ∨ k = 4 ∨ k = 5 ∨ k = 6 ∨ k = 7 := by omega
  rcases hc with rfl | rfl | rfl | rfl | rfl | rfl | rfl
  · exact rrest1
  · exact rrest2
  · exact rrest3
  · exact rrest4
  · exact rrest5
  · exact rrest6
  · exact rrest7
end Go.Proofs.YtmmolapkddbibaaDoor

/- Walk of growth.Frontier.Root. -/
import Derived.Test.YtkoddcjkhcnifaaDoorWGro1
import Derived.Test.YtkoddcjkhcnifaaDoorWBackD
namespace Go.Proofs.Bl
open Go Go.RowKit
theorem back_foldp (ds : List (List Int)) (m : Nat) (hm : ds.length = m + 1) : ∀ k, k ≤ m → (chunks m k).foldl (fun d (x : Fin m) => ndD (ds.getD (m - 1 - x.val) []) d) (ds.getD m []) = foldp ndD zD (ds.drop (m - k))
  | 0, _ => by
    rw [Nat.sub_zero, List.drop_eq_getElem_cons (by omega), List.drop_of_length_le (by omega), List.getD_eq_getElem?_getD, List.getElem?_eq_getElem (by omega)]; rfl
  | k + 1, h => by
    have ih := back_foldp ds m hm k (by omega)
    have e1 : ds.drop (m - (k + 1)) = ds.getD (m - 1 - k) [] :: ds.drop (m - k) := by
      rw [List.drop_eq_getElem_cons (by omega), show m - (k + 1) + 1 = m - k by omega, List.getD_eq_getElem?_getD, List.getElem?_eq_getElem (by omega)]
      simp only [Option.getD_some]
      congr 1
      congr 1
      omega
    have e2 : ds.drop (m - k) ≠ [] := fun q => by have := congrArg List.length q; simp at this; omega
    rw [chunks_succ _ _ (by omega), List.foldl_append, ih, e1, foldp_cons _ _ _ _ e2]
    rfl
end Go.Proofs.Bl
namespace Go.Proofs.YtkoddcjkhcnifaaDoor
open Go Go.RowKit Go.Proofs

attribute [local go_sem] Oper.semAt_some

set_option maxRecDepth 100000 in
set_option maxHeartbeats 2000000 in
theorem groot_any (b : Nat) (v : Value) (n : Nat) (ds : List (List Int)) (w : World) (h : Bl.Fr w b v n ds) (hn : n = 0 ↔ ds.length = 0) (hl : ds.length ≤ 1048576) (hg : Glob w) :
    Calls Tryd.prog 19 #[.pointer (some ⟨b, 0, none⟩)] w fun e w' => e = .returned (.agg (Bl.ints .u8 (Bl.foldp Bl.ndD Bl.zD ds)).toArray) ∧ Bl.Ext w w' := by
  have hc0 := h.c0
  have hc1 := h.c1
  have hbl := h.lt
  obtain ⟨p, c, rfl, hpn, hpc⟩ := h.pk.rds.form
  have HF := Bl.hid h
  have Hg := Bl.hid hg
  have HF0 := Bl.hid (fam_new w 32 .u8 41 #[.int .u8 0, .int .u8 0, .int .u8 0, .int .u8 0, .int .u8 0, .int .u8 0, .int .u8 0, .int .u8 0, .int .u8 0, .int .u8 0, .int .u8 0, .int .u8 0, .int .u8 0, .int .u8 0, .int .u8 0, .int .u8 0, .int .u8 0, .int .u8 0, .int .u8 0, .int .u8 0, .int .u8 0, .int .u8 0, .int .u8 0, .int .u8 0, .int .u8 0, .int .u8 0, .int .u8 0, .int .u8 0, .int .u8 0, .int .u8 0, .int .u8 0, .int .u8 0] rfl)
  have HE0 := Bl.hid (Bl.ext_alloc w (.cells #[.int .u8 0, .int .u8 0, .int .u8 0, .int .u8 0, .int .u8 0, .int .u8 0, .int .u8 0, .int .u8 0, .int .u8 0, .int .u8 0, .int .u8 0, .int .u8 0, .int .u8 0, .int .u8 0, .int .u8 0, .int .u8 0, .int .u8 0, .int .u8 0, .int .u8 0, .int .u8 0, .int .u8 0, .int .u8 0, .int .u8 0, .int .u8 0, .int .u8 0, .int .u8 0, .int .u8 0, .int .u8 0, .int .u8 0, .int .u8 0, .int .u8 0, .int .u8 0] 41))
  have Hz0 : Hid ((w.alloc (.cells #[.int .u8 0, .int .u8 0, .int .u8 0, .int .u8 0, .int .u8 0, .int .u8 0, .int .u8 0, .int .u8 0, .int .u8 0, .int .u8 0, .int .u8 0, .int .u8 0, .int .u8 0, .int .u8 0, .int .u8 0, .int .u8 0, .int .u8 0, .int .u8 0, .int .u8 0, .int .u8 0, .int .u8 0, .int .u8 0, .int .u8 0, .int .u8 0, .int .u8 0, .int .u8 0, .int .u8 0, .int .u8 0, .int .u8 0, .int .u8 0, .int .u8 0, .int .u8 0] 41)).heap.size = w.heap.size + 1) := Bl.hid (World.size_alloc _ _)
  clear h hg
  refine (callsIn_wide (n := 9)).1 ?_
  refine callsIn_of_wp_marks Tryd.func19 rfl trivial ?_ rfl
  simp only [Tryd.ntmps19, List.size_toArray, List.length_cons, List.length_nil, Nat.reduceAdd, Nat.reduceSub, Array.replicate_succ, Array.replicate_zero, List.push_toArray, List.append_toArray, List.nil_append, List.cons_append]
  refine wpIn_wide.2 ?_
  by_cases h0 : n = 0
  · have hd0 : ds = [] := List.length_eq_zero_iff.1 (hn.1 h0)
    subst hd0 h0
    clear hn hl hpn hpc
    go_wp2_with fail
    obtain ⟨W0, hW0⟩ : ∃ W0, W0 = w.alloc (.cells #[.int .u8 0, .int .u8 0, .int .u8 0, .int .u8 0, .int .u8 0, .int .u8 0, .int .u8 0, .int .u8 0, .int .u8 0, .int .u8 0, .int .u8 0, .int .u8 0, .int .u8 0, .int .u8 0, .int .u8 0, .int .u8 0, .int .u8 0, .int .u8 0, .int .u8 0, .int .u8 0, .int .u8 0, .int .u8 0, .int .u8 0, .int .u8 0, .int .u8 0, .int .u8 0, .int .u8 0, .int .u8 0, .int .u8 0, .int .u8 0, .int .u8 0, .int .u8 0] 41) := ⟨_, rfl⟩
    rw [← hW0] at HF0 HE0 ⊢
    clear hW0 Hz0
    refine (of_any _ [] W0 ⟨[], Bl.Rds.nil _, rfl, fun k hk => absurd hk (Nat.not_lt_zero _)⟩ (Hg.out.ext HE0.out) Bl.Byt.nil (by decide)).mono ?_
    rintro e w1 ⟨rfl, hE1⟩
    have HE1 := Bl.hid hE1
    have hsh : Bl.sha [].flatten = Bl.foldp Bl.ndD Bl.zD [] := rfl
    rw [hsh]
    obtain ⟨sh, hsh⟩ : ∃ sh, sh = Bl.foldp Bl.ndD Bl.zD [] := ⟨_, rfl⟩
    have Hshl : Hid (sh.length = 32) := Bl.hid (by rw [hsh]; rfl)
    have Hsh := Bl.hid hsh
    rw [← hsh]
    clear hE1 hsh
    have HFc := Bl.hid (HF0.out.below HE1.out (World.block_lt_of_cell? _ _ (HF0.out.1 0 (by decide))))
    have Hstc := Bl.hid (Bl.store_ints (P := Tryd.prog) (k := .u8) (ty := 41) (l := sh) HFc.out.there (by kernel_rfl) Hshl.out)
    go_wp2_with (((with_reducible refine Bl.wpL_store ?_ ?_ Hstc.out ?_); rfl; rfl))
    have hinc := World.rangeAt_setCells_same _ (w.heap.size) 0 (Bl.ints .u8 sh) (by rw [Bl.ints_length, Hshl.out]; exact HFc.out.there)
    refine Bl.leaves_marks (B := w.heap.size + 1) _ 0 _ (trivial) ?_
    intro w' hw'
    have hinw : w'.rangeAt (w.heap.size) 0 (Bl.ints .u8 sh) := fun j v hv => ((Bl.bcell hw').1 _ _ (Nat.lt_succ_self _)).trans (hinc j v hv)
    have hldc := run_loadVar_mid (P := Tryd.prog) _ (w.heap.size) 0 41 (Bl.ints .u8 sh) _ hinw Tryd.underlying41 rfl (by rw [Bl.ints_length, Hshl.out]; kernel_rfl)
    exact ⟨_, Bl.results_cell rfl rfl hldc, by rw [Hsh.out], (Bl.below_setCells _ _ _ _ (HE0.out.trans HE1.out) (Nat.le_refl _)).trans (hw'.mono (Nat.le_succ _))⟩
  · obtain ⟨m, hm⟩ : ∃ m, ds.length = m + 1 := ⟨ds.length - 1, by have : ¬ ds.length = 0 := fun q => h0 (hn.2 q); omega⟩
    obtain ⟨g, hpg, hgl, hkc, hmx, hrg⟩ : ∃ g, p = some ⟨g, 0, none⟩ ∧ g < w.heap.size ∧ m + 1 ≤ c ∧ c ≤ maxLen ∧ w.rangeAt g 0 (Bl.cellsD ds) := by
      rcases HF.out.pk with ⟨hv, h2, _⟩ | ⟨g, cap, hv, _, hp⟩
      · omega
      · injection hv with h1 h2 h3
        subst h1 h3
        exact ⟨g, rfl, hp.lt, by have := hp.le; omega, hp.mx, hp.rg⟩
    subst hpg
    have hr1 := Bl.digit_at hrg HF.out.dig (i := m) (by omega)
    obtain ⟨hdl, hdb⟩ := HF.out.dig.get (i := m) (by omega)
    rw [Nat.zero_add] at hr1
    have Hfold := Bl.hid (Bl.back_foldp ds m hm m (Nat.le_refl _))
    obtain ⟨d0, hd0⟩ : ∃ d0, d0 = ds.getD m [] := ⟨_, rfl⟩
    rw [← hd0] at hr1 hdl hdb Hfold
    have HLe : Hid (∀ w2, Bl.Ext w w2 → (Instr.loadAt 41 (.pointer (some ⟨g, m * 32, none⟩))).run Tryd.prog w2 = .ok (.agg (Bl.ints .u8 d0).toArray) w2) := Bl.hid fun w2 h2 => Bl.load_ints (Bl.rangeAt_ext hr1 h2) Tryd.underlying41 (by kernel_rfl) hdl
    have hnn : ((n : Int) == 0) = false := by rw [beq_eq_false_iff_ne]; omega
    rw [hm] at hc1 hl hpn
    have hwk := IntWalk.wrap64_in (m : Int) ⟨by omega, by omega⟩
    have hi0 : (0 : Int) ≤ (m : Int) := Int.natCast_nonneg _
    have hi1 : (m : Int) < (m : Int) + 1 := Int.lt_succ _
    have hi2 : (m : Int) ≤ (c : Int) := by omega
    have hi3 : (m : Int) ≤ (m : Int) + 1 := Int.le_of_lt hi1
    have Hm := Bl.hid hm
    have Hd0 := Bl.hid (And.intro hdl hdb)
    have Hrg := Bl.hid hrg
    have Hgl := Bl.hid hgl
    have Hkc := Bl.hid hkc
    have Hl := Bl.hid hl
    have Hbl := Bl.hid hbl
    clear hr1 hdl hdb hd0 hn h0 hm hrg hgl hkc hmx hpn hl
    go_wp2_with (with_reducible refine Bl.stop_load (ty := 41) ?_)
    refine Bl.go_on ?_
    obtain ⟨W0, hW0⟩ : ∃ W0, W0 = w.alloc (.cells #[.int .u8 0, .int .u8 0, .int .u8 0, .int .u8 0, .int .u8 0, .int .u8 0, .int .u8 0, .int .u8 0, .int .u8 0, .int .u8 0, .int .u8 0, .int .u8 0, .int .u8 0, .int .u8 0, .int .u8 0, .int .u8 0, .int .u8 0, .int .u8 0, .int .u8 0, .int .u8 0, .int .u8 0, .int .u8 0, .int .u8 0, .int .u8 0, .int .u8 0, .int .u8 0, .int .u8 0, .int .u8 0, .int .u8 0, .int .u8 0, .int .u8 0, .int .u8 0] 41) := ⟨_, rfl⟩
    rw [← hW0] at HF0 HE0 Hz0 ⊢
    clear hW0
    refine Bl.wpL_load rfl (HLe.out W0 HE0.out) ?_
    have HF5 := Bl.hid (fam_new W0 32 .u8 41 #[.int .u8 0, .int .u8 0, .int .u8 0, .int .u8 0, .int .u8 0, .int .u8 0, .int .u8 0, .int .u8 0, .int .u8 0, .int .u8 0, .int .u8 0, .int .u8 0, .int .u8 0, .int .u8 0, .int .u8 0, .int .u8 0, .int .u8 0, .int .u8 0, .int .u8 0, .int .u8 0, .int .u8 0, .int .u8 0, .int .u8 0, .int .u8 0, .int .u8 0, .int .u8 0, .int .u8 0, .int .u8 0, .int .u8 0, .int .u8 0, .int .u8 0, .int .u8 0] rfl)
    have Hst := Bl.hid (Bl.store_ints (P := Tryd.prog) (ty := 41) (k := .u8) (l := d0) (n := 32) HF5.out.there (by kernel_rfl) Hd0.out.1)
    have HEd : Hid (Bl.Ext W0 ((W0.alloc (.cells #[.int .u8 0, .int .u8 0, .int .u8 0, .int .u8 0, .int .u8 0, .int .u8 0, .int .u8 0, .int .u8 0, .int .u8 0, .int .u8 0, .int .u8 0, .int .u8 0, .int .u8 0, .int .u8 0, .int .u8 0, .int .u8 0, .int .u8 0, .int .u8 0, .int .u8 0, .int .u8 0, .int .u8 0, .int .u8 0, .int .u8 0, .int .u8 0, .int .u8 0, .int .u8 0, .int .u8 0, .int .u8 0, .int .u8 0, .int .u8 0, .int .u8 0, .int .u8 0] 41)).setCells W0.heap.size 0 (Bl.ints .u8 d0))) := Bl.hid (Bl.below_setCells _ _ _ _ (Bl.ext_alloc _ _) (Nat.le_refl _))
    have Hbox := Bl.hid (Bl.BoxD.of_fam HF5.out Hd0.out.1)
    go_wp2_with (with_reducible refine Bl.stop_store (ty := 41) ?_)
    refine Bl.go_on ?_
    refine Bl.wpL_store0 rfl rfl Hst.out ?_
    obtain ⟨W2, hW2⟩ : ∃ W2, W2 = (W0.alloc (.cells #[.int .u8 0, .int .u8 0, .int .u8 0, .int .u8 0, .int .u8 0, .int .u8 0, .int .u8 0, .int .u8 0, .int .u8 0, .int .u8 0, .int .u8 0, .int .u8 0, .int .u8 0, .int .u8 0, .int .u8 0, .int .u8 0, .int .u8 0, .int .u8 0, .int .u8 0, .int .u8 0, .int .u8 0, .int .u8 0, .int .u8 0, .int .u8 0, .int .u8 0, .int .u8 0, .int .u8 0, .int .u8 0, .int .u8 0, .int .u8 0, .int .u8 0, .int .u8 0] 41)).setCells W0.heap.size 0 (Bl.ints .u8 d0) := ⟨_, rfl⟩
    obtain ⟨D, hD⟩ : ∃ D, D = W0.heap.size := ⟨_, rfl⟩
    rw [← hW2] at HEd Hbox ⊢
    rw [← hD] at Hbox ⊢
    have HD : Hid (W0.heap.size = D) := Bl.hid hD.symm
    have hz1 : w.heap.size < D := by have := Hz0.out; omega
    have hz2 : D ≤ w.heap.size + 1 := by have := Hz0.out; omega
    have HE2 := Bl.hid (HE0.out.trans HEd.out)
    clear hW2 Hst HF5 hD hc0 hc1
    have hc1 : W2.cell? ⟨b, 1, none⟩ = some (.slice (some ⟨g, 0, none⟩) (m + 1) c) := by have h := (HF.out.ext HE2.out).c1; rw [Hm.out] at h; exact h
    go_wp2_with fail
    refine (backD_any W2 _ _ _).mono ?_
    rintro e w8 ⟨rfl, hw8⟩
    have hE8 : Bl.Ext W2 w8 := by rw [hw8]; exact Bl.ext_alloc _ _
    have hcs : w8.cell? ⟨W2.heap.size, 0, none⟩ = some (.slice (some ⟨g, 0, none⟩) m c) := by rw [hw8]; exact Bl.cell_new1 _ _ _
    have hsz8 : w8.heap.size = W2.heap.size + 1 := by rw [hw8, World.size_alloc]
    have hDl := Hbox.out.lt
    have hrg8 := Bl.rangeAt_ext Hrg.out (HE2.out.trans hE8)
    have hgl := Hgl.out
    obtain ⟨V, hV⟩ : ∃ V : Nat → Value, V = fun j => .agg (Bl.ints .u8 (ds.getD j [])).toArray := ⟨_, rfl⟩
    have HE8 := Bl.hid (HE2.out.trans hE8)
    have HE08 := Bl.hid (HEd.out.trans hE8)
    have Hbox8 := Bl.hid (Hbox.out.ext hE8)
    clear hw8 hE8 hc1
    go_wp2_with fail
    refine (wpIn_wide (n := 9)).1 ?_
    apply Bl.wpIn_rangeFunc_box (F := Fence.wide) (encs := fun x : Fin m => #[.int .i64 ((m - 1 - x.val : Nat) : Int), V (m - 1 - x.val)]) (Kp := Bl.KeepS (fun k => k = D) w8.heap.size) rfl (by decide) (gf := 56) (lb := #[.pointer (some ⟨W2.heap.size, 0, none⟩)]) rfl trivial (enters_of Tryd.func56 (by kernel_rfl) rfl)
      (backD_stops 8 W2.heap.size g 0 m c _ (fun _ => rfl) (fun k => k = D) V (by decide) (by have := Hkc.out; omega) (by have := Hl.out; omega) w8 (by omega) (by omega) hcs
        (fun W' hk j hj => by
          have hlj := (HF.out.dig.get (i := j) (by have := Hm.out; omega)).1
          rw [hV]
          exact Bl.load_ints (Bl.digit_at (hk.range hrg8 (by omega) (by omega)) HF.out.dig (i := j) (by have := Hm.out; omega)) Tryd.underlying41 (by kernel_rfl) hlj))
      (fun h k => Bl.KeepS.trans h k) (Bl.KeepS.putObj (Nat.le_refl _)) (Below.refl _ _) (fun _ => rfl)
      (fun pre W => Bl.BoxD W D (pre.foldl (fun d (x : Fin m) => Bl.ndD (ds.getD (m - 1 - x.val) []) d) d0) ∧ (Bl.KeepS (fun k => k = D) w8.heap.size w8 W ∧ Below D w8 W))
      (fun _ _ _ => False) (Bx := fun x X W => Bl.BoxD W X (ds.getD (m - 1 - x.val) []))
    case hI => exact OwnFrom.and (Bl.ownFrom_box (by omega)) (OwnFrom.and (Bl.ownFrom_keepS (Nat.le_refl _) (Nat.le_refl _)) (ownFrom_below (by omega) (by omega)))
    case hIx => exact fun _ _ _ _ _ hs _ _ => hs
    case h0 => exact ⟨Hbox8.out, Bl.KeepS.refl _ _ _, Below.refl _ _⟩
    case hBx => exact fun x X _ W W' row hX hg hr => hX.own hg hr
    case hassign =>
      rintro lr pre x W K ⟨hbx, hKp, hBW⟩ hK
      obtain ⟨hel, heb⟩ := HF.out.dig.get (i := m - 1 - x.val) (by have := Hm.out; have := x.isLt; omega)
      have hVx : V (m - 1 - x.val) = .agg (Bl.ints .u8 (ds.getD (m - 1 - x.val) [])).toArray := by rw [hV]
      obtain ⟨e, he⟩ : ∃ e, e = ds.getD (m - 1 - x.val) [] := ⟨_, rfl⟩
      rw [← he] at hVx hel hK
      have HFp := Bl.hid (fam_new W 32 .u8 41 #[.int .u8 0, .int .u8 0, .int .u8 0, .int .u8 0, .int .u8 0, .int .u8 0, .int .u8 0, .int .u8 0, .int .u8 0, .int .u8 0, .int .u8 0, .int .u8 0, .int .u8 0, .int .u8 0, .int .u8 0, .int .u8 0, .int .u8 0, .int .u8 0, .int .u8 0, .int .u8 0, .int .u8 0, .int .u8 0, .int .u8 0, .int .u8 0, .int .u8 0, .int .u8 0, .int .u8 0, .int .u8 0, .int .u8 0, .int .u8 0, .int .u8 0, .int .u8 0] rfl)
      have Hst := Bl.hid (Bl.store_ints (P := Tryd.prog) (ty := 41) (k := .u8) (l := e) (n := 32) HFp.out.there (by kernel_rfl) hel)
      have HEp : Hid (Bl.Ext W ((W.alloc (.cells #[.int .u8 0, .int .u8 0, .int .u8 0, .int .u8 0, .int .u8 0, .int .u8 0, .int .u8 0, .int .u8 0, .int .u8 0, .int .u8 0, .int .u8 0, .int .u8 0, .int .u8 0, .int .u8 0, .int .u8 0, .int .u8 0, .int .u8 0, .int .u8 0, .int .u8 0, .int .u8 0, .int .u8 0, .int .u8 0, .int .u8 0, .int .u8 0, .int .u8 0, .int .u8 0, .int .u8 0, .int .u8 0, .int .u8 0, .int .u8 0, .int .u8 0, .int .u8 0] 41)).setCells W.heap.size 0 (Bl.ints .u8 e))) := Bl.hid (Bl.below_setCells _ _ _ _ (Bl.ext_alloc _ _) (Nat.le_refl _))
      have HBp := Bl.hid (Bl.BoxD.of_fam HFp.out hel)
      have Hbx := Bl.hid hbx
      have HKp := Bl.hid hKp
      have HBW := Bl.hid hBW
      have HK := Bl.hid hK
      simp only [hVx]
      have He := Bl.hid he
      clear hel heb hbx hKp hBW hVx he hK
      gi_wp2_with (with_reducible refine Bl.stopI_store (ty := 41) ?_)
      refine Bl.go_on ?_
      refine Bl.wpLI_store0 rfl rfl Hst.out ?_
      obtain ⟨W3, hW3⟩ : ∃ W3, W3 = (W.alloc (.cells #[.int .u8 0, .int .u8 0, .int .u8 0, .int .u8 0, .int .u8 0, .int .u8 0, .int .u8 0, .int .u8 0, .int .u8 0, .int .u8 0, .int .u8 0, .int .u8 0, .int .u8 0, .int .u8 0, .int .u8 0, .int .u8 0, .int .u8 0, .int .u8 0, .int .u8 0, .int .u8 0, .int .u8 0, .int .u8 0, .int .u8 0, .int .u8 0, .int .u8 0, .int .u8 0, .int .u8 0, .int .u8 0, .int .u8 0, .int .u8 0, .int .u8 0, .int .u8 0] 41)).setCells W.heap.size 0 (Bl.ints .u8 e) := ⟨_, rfl⟩
      obtain ⟨X, hX⟩ : ∃ X, X = W.heap.size := ⟨_, rfl⟩
      rw [← hW3] at HEp HBp ⊢
      rw [← hX] at HBp ⊢
      clear hW3 Hst HFp hX
      gi_wp2_with fail
      have he := He.out
      clear He
      subst he
      exact HK.out X _ ((Bl.others_ext HEp.out).from _) (Bl.KeepS.of_below HEp.out HKp.out.1) ⟨Hbx.out.ext HEp.out, HKp.out.trans (Bl.KeepS.of_below HEp.out HKp.out.1), HBW.out.trans (HEp.out.mono (by have := HKp.out.1; omega))⟩ HBp.out
    case hbody =>
      rintro lr pre x X W ⟨hbx, hKp, hBW⟩ hBp hlen
      have hx := x.isLt
      obtain ⟨dg, hdg⟩ : ∃ dg, dg = pre.foldl (fun d (x : Fin m) => Bl.ndD (ds.getD (m - 1 - x.val) []) d) d0 := ⟨_, rfl⟩
      have hdd : dg.length = 32 ∧ Bl.Byt dg := by
        rw [hdg]
        rcases List.eq_nil_or_concat pre with rfl | ⟨q, y, rfl⟩
        · exact Hd0.out
        · rw [List.concat_eq_append, List.foldl_append]; exact Bl.ndD_dig _ _
      rw [← hdg] at hbx
      obtain ⟨hel, heb⟩ := HF.out.dig.get (i := m - 1 - x.val) (by have := Hm.out; omega)
      obtain ⟨e, he⟩ : ∃ e, e = ds.getD (m - 1 - x.val) [] := ⟨_, rfl⟩
      rw [← he] at hel heb hBp
      have Hdg := Bl.hid hdg
      have Hhe := Bl.hid he
      have HN : Hid (∀ w1, Bl.Ext W w1 → Calls Tryd.prog 36 #[.agg (Bl.ints .u8 e).toArray, .agg (Bl.ints .u8 dg).toArray] w1 fun e' w' => e' = .returned (.agg (Bl.ints .u8 (Bl.ndD e dg)).toArray) ∧ Bl.Ext w1 w') := Bl.hid fun w1 h1 =>
        node_any e dg w1 hel hdd.1 heb hdd.2 (Hg.out.ext ((show Bl.Ext w W from Below.trans HE8.out (hBW.mono (by omega))).trans h1))
      have Hnl : Hid ((Bl.ndD e dg).length = 32) := Bl.hid (Bl.ndD_length _ _)
      obtain ⟨dn, hdn⟩ : ∃ dn, dn = Bl.ndD e dg := ⟨_, rfl⟩
      rw [← hdn] at HN Hnl
      have Hdn := Bl.hid hdn
      have HBp := Bl.hid hBp
      have Hbx := Bl.hid hbx
      have HKp := Bl.hid hKp
      have HBW := Bl.hid hBW
      have h1' : 1 ≤ 9 - 1 - 1 := by decide
      clear hdd hdg hel heb he hdn hbx hKp hBW hBp
      gi_wp2_with (with_reducible refine Bl.stopI_load (ty := 41) ?_)
      refine Bl.go_on ?_
      refine Bl.wpLI_load rfl (HBp.out.load Tryd.underlying41 (by kernel_rfl)) ?_
      gi_wp2_with (with_reducible refine Bl.stopI_load (ty := 41) ?_)
      refine Bl.go_on ?_
      refine Bl.wpLI_load rfl (Hbx.out.load Tryd.underlying41 (by kernel_rfl)) ?_
      gi_wp2_with fail
      refine ⟨trivial, ?_⟩
      refine (CallsIn.inRound lr (callsIn_wide.2 (HN.out W (Below.refl _ _)))).mono ?_
      rintro e' w9 ⟨rfl, hE9⟩
      have HE9 := Bl.hid hE9
      have Hb9 := Bl.hid (Hbx.out.ext HE9.out)
      have Hst := Bl.hid (Bl.store_ints (P := Tryd.prog) (ty := 41) (k := .u8) (l := dn) (n := 32) Hb9.out.th (by kernel_rfl) Hnl.out)
      have Hpost : Hid (KeepsFrom w8.heap.size W (w9.setCells D 0 (Bl.ints .u8 dn)) ∧ Bl.KeepS (fun k => k = D) w8.heap.size W (w9.setCells D 0 (Bl.ints .u8 dn)) ∧ (Bl.BoxD (w9.setCells D 0 (Bl.ints .u8 dn)) D ((pre ++ [x]).foldl (fun d (x : Fin m) => Bl.ndD (ds.getD (m - 1 - x.val) []) d) d0) ∧ (Bl.KeepS (fun k => k = D) w8.heap.size w8 (w9.setCells D 0 (Bl.ints .u8 dn)) ∧ Below D w8 (w9.setCells D 0 (Bl.ints .u8 dn))))) := by
        have hk : Bl.KeepS (fun k => k = D) w8.heap.size W (w9.setCells D 0 (Bl.ints .u8 dn)) := Bl.KeepS.setCells (Q := fun k => k = D) (Bl.KeepS.of_below HE9.out HKp.out.1) rfl _ _
        refine Bl.hid ⟨(Bl.others_setCells _ _ _ _ (Bl.others_ext HE9.out)).from _, hk, ?_, HKp.out.trans hk, Bl.below_setCells _ _ _ _ (HBW.out.trans (HE9.out.mono (by have := HKp.out.1; omega))) (Nat.le_refl _)⟩
        rw [List.foldl_append]
        show Bl.BoxD _ _ (Bl.ndD (ds.getD (m - 1 - x.val) []) _)
        rw [← Hdg.out, ← Hhe.out, ← Hdn.out]
        exact Hb9.out.set Hnl.out
      clear hE9 HN
      gi_wp2_with (with_reducible refine Bl.stopI_store (ty := 41) ?_)
      refine Bl.go_on ?_
      refine Bl.wpLI_store0 rfl rfl Hst.out ?_
      gi_wp2
      exact Hpost.out
    case hdone =>
      rintro K ys W hK1 rfl ⟨hbx, hKp, hBW⟩ hK
      have hKl : K < W.heap.size := (Array.getElem?_eq_some_iff.1 hK).1
      have hfd := Hfold.out
      rw [Bl.chunks_all, Nat.sub_self, List.drop_zero] at hfd
      rw [hfd] at hbx
      have HFl : Hid ((Bl.foldp Bl.ndD Bl.zD ds).length = 32) := Bl.hid hbx.len
      obtain ⟨F, hF⟩ : ∃ F, F = Bl.foldp Bl.ndD Bl.zD ds := ⟨_, rfl⟩
      rw [← hF] at hbx HFl
      have HFe := Bl.hid hF
      have HBx := Bl.hid hbx
      have HEW : Hid (Bl.Ext W0 W) := Bl.hid (by
        have h := Below.trans HE08.out (hBW.mono (by have := HD.out; omega))
        exact h)
      have HK : Hid (w.heap.size + 1 ≤ K ∧ K < W.heap.size ∧ W.heap[K]? = some (.deferred (some []))) := Bl.hid ⟨by omega, hKl, hK⟩
      clear hfd hbx hF hKp hBW hK hK1 hKl Hfold
      try refine wpIn_wide.2 ?_
      go_wp2_with (with_reducible refine Bl.stop_load (ty := 41) ?_)
      refine Bl.go_on ?_
      refine Bl.wpL_load rfl (HBx.out.load Tryd.underlying41 (by kernel_rfl)) ?_
      have HFc := Bl.hid (HF0.out.below HEW.out (World.block_lt_of_cell? _ _ (HF0.out.1 0 (by decide))))
      have Hstc := Bl.hid (Bl.store_ints (P := Tryd.prog) (k := .u8) (ty := 41) (l := F) HFc.out.there (by kernel_rfl) HFl.out)
      go_wp2_with (((with_reducible refine Bl.wpL_store ?_ ?_ Hstc.out ?_); rfl; rfl))
      have hinc := World.rangeAt_setCells_same _ (w.heap.size) 0 (Bl.ints .u8 F) (by rw [Bl.ints_length, HFl.out]; exact HFc.out.there)
      refine Bl.leaves_marks (B := w.heap.size + 1) _ W.heap.size _ (⟨K, rfl, HK.out.1, HK.out.2.1, (Bl.exc_setCells _ _ _ (Bl.Exc.refl w.heap.size W) K (by have := HK.out.1; omega)).trans HK.out.2.2, trivial⟩) ?_
      intro w' hw'
      have hinw : w'.rangeAt (w.heap.size) 0 (Bl.ints .u8 F) := fun j v hv => ((Bl.bcell hw').1 _ _ (Nat.lt_succ_self _)).trans (hinc j v hv)
      have hldc := run_loadVar_mid (P := Tryd.prog) _ (w.heap.size) 0 41 (Bl.ints .u8 F) _ hinw Tryd.underlying41 rfl (by rw [Bl.ints_length, HFl.out]; kernel_rfl)
      exact ⟨_, Bl.results_cell rfl rfl hldc, by rw [HFe.out], (Bl.below_setCells _ _ _ _ (HE0.out.trans HEW.out) (Nat.le_refl _)).trans (hw'.mono (Nat.le_succ _))⟩
    case hstop =>
      rintro K c' pre W _ _ h _
      exact h.elim
end Go.Proofs.YtkoddcjkhcnifaaDoor

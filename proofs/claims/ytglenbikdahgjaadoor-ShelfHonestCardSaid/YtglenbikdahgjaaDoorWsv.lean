/- Texts that stood apart, in one: WSv3, WSv4, WSv5. -/
import Derived.Test.YtglenbikdahgjaaDoorWSv2
import Derived.Test.YtglenbikdahgjaaDoorChg
import Derived.Test.YtglenbikdahgjaaDoorPth0
import Derived.Test.YtglenbikdahgjaaDoorFld0
import Derived.Test.YtglenbikdahgjaaDoorShaR
/- Walk of shelf.ask. -/
namespace Go.Proofs.Bl
open Go Go.RowKit
/-- a letter that is handed back, its rows in new blocks -/
def LtN (w : World) (l' : LT) (e : Ending) (w' : World) : Prop := ∃ vp vs vb L, e = .returned (.agg (cL l' vp vs vb).toArray) ∧ LtF (fun k => w.heap.size ≤ k) w' l' vp vs vb L ∧ Ext w w'
theorem dig_pathD (ps : List (List Int)) (i : Nat) (h : ps.length ≤ 512) : Dig (pathD ps i) := dig_path _ _ i (Nat.le_refl _) (by rw [List.length_map]; omega) (dig_leaves ps)
theorem ansS_snoc (all : List (List Int)) (ps : List Int) (i : Nat) (h : i < ps.length) : ansS all (ps.take (i + 1)) = ansS all (ps.take i) ++ [(ps.getD i 0, all.getD (ps.getD i 0).toNat [], pathD all (ps.getD i 0).toNat)] := by
  unfold ansS
  rw [take_succ_getDD 0 ps i h, List.map_append]; rfl
/-- an element of a stored row -/
theorem RowS.el {N : Nat → Prop} {w : World} {v : Value} {st : List (List Int)} (h : RowS N w v st) {i : Nat} (hi : i < st.length) : ∃ (b : Nat) (c : Nat) (p1 : Option Addr) (c1 : Nat), v = .slice (some ⟨b, 0, none⟩) st.length c ∧ st.length ≤ c ∧ c ≤ maxLen ∧ b < w.heap.size ∧ w.cell? ⟨b, i, none⟩ = some (.slice p1 (st.getD i []).length c1) ∧ Rd w .u8 (.slice p1 (st.getD i []).length c1) (st.getD i []) := by
  obtain ⟨M, h1, h2, h3⟩ := h
  have hl : M.length = st.length := by rw [← h3, List.length_map]
  obtain ⟨g, c, hv, _, hg, hc, hm, hr⟩ := h1.form (by omega)
  have hiM : i < M.length := by omega
  have hx := (h2 _ (getD_mem nilB hiM)).1.rds
  have hcl := hr i _ (cellB_at M i hiM)
  rw [Nat.zero_add] at hcl
  have e : (M.getD i nilB).2 = st.getD i [] := by
    rw [← h3, List.getD_eq_getElem?_getD, List.getD_eq_getElem?_getD, List.getElem?_map, List.getElem?_eq_getElem hiM]; rfl
  rw [e] at hx
  obtain ⟨p1, c1, hf, _, _⟩ := hx.form
  rw [hf] at hcl hx
  exact ⟨g, c, p1, c1, by rw [← hl]; exact hv, by rw [← hl]; exact hc, hm, hg, hcl, hx⟩
end Go.Proofs.Bl
namespace Go.Proofs.YtglenbikdahgjaaDoor
open Go Go.RowKit Go.Proofs

theorem buildSh3 (p : Int) (q1 q2 : Option Addr) (n1 c1 n2 c2 : Nat) (w : World) : (Instr.build 46 #[(0, .int .i64 p), (1, .slice q1 n1 c1), (2, .slice q2 n2 c2)]).run Tryd.prog w = .ok (.agg #[.int .i64 p, .slice q1 n1 c1, .slice q2 n2 c2]) w := run_build w _ _ _ (by kernel_rfl)

set_option maxRecDepth 100000 in
set_option maxHeartbeats 8000000 in
theorem sask_some (b : Nat) (N Q : Nat → Prop) (s : Bl.ShT) (v : Value) (l : Bl.LT) (w : World) (S : List Nat) (a : Nat → Addr) (hS : Bl.SvX N Q w b s) (hok : Bl.ShOk s) (hL : Bl.LtV w v l) (hc : Bl.chkL l = 0) (hk : l.kind = 3) (hg : Glob w) (he : Errs S a w) (s1 : 1 ∈ S) (all : List (List Int)) (ha : Bl.getO s l.obj = some all) :
    Calls Tryd.prog 21 #[.pointer (some ⟨b, 0, none⟩), v] w fun e w' => Bl.LtN w (Bl.askL s l) e w' := by
  have HL := Bl.hid hL
  obtain ⟨cs0, vp, vs, vb, L, rfl, hcc⟩ := hL
  obtain rfl := hcc.eq
  obtain ⟨m, sb, mp, hR⟩ := hS
  obtain ⟨v0, hgm, hrow⟩ := hR.some ha
  obtain ⟨ho1, ho2, ho3⟩ := hok.get ha
  obtain ⟨hp1, hp2, hp3⟩ := Bl.ask_pl hc hk
  obtain ⟨pl, cl, hvl, _, _⟩ := hcc.pl.form
  subst hvl
  obtain ⟨bl, cb0, _, _, hv0, hnc, hcm, hbl, _, _⟩ := hrow.el (i := 0) (by omega)
  subst hv0
  obtain ⟨n, hn⟩ : ∃ n, n = all.length := ⟨_, rfl⟩
  obtain ⟨k, hkk⟩ : ∃ k, k = l.places.length := ⟨_, rfl⟩
  have Hall := Bl.hid (And.intro hn (And.intro hkk (And.intro ho3 hp3)))
  have Hrow := Bl.hid hrow
  have HaA : Hid ((∀ p ∈ l.places, p < (n : Int)) → Bl.askL s l = Bl.ansL l all) := Bl.hid fun q => by
    unfold Bl.askL; rw [ha]; simp only; rw [if_pos (by rw [← hn]; exact q)]
  have HaR : Hid (∀ i, i < k → ¬ l.places.getD i 0 < (n : Int) → Bl.askL s l = Bl.refL l 1) := Bl.hid fun i hi q => by
    unfold Bl.askL; rw [ha]; simp only; rw [if_neg (fun h => q (by rw [hn]; exact h _ (Bl.getD_mem 0 (by omega))))]; rfl
  rw [← hn] at hnc
  have Hn12 : Hid (1 ≤ n ∧ n ≤ 512 ∧ 1 ≤ k ∧ k ≤ 12 ∧ n ≤ cb0 ∧ cb0 ≤ maxLen) := Bl.hid (by omega)
  obtain ⟨an, han⟩ : ∃ an : Bl.LT, an = ⟨4, l.id, l.obj, [], [], 0, 0, [], 0⟩ := ⟨_, rfl⟩
  obtain ⟨W1, hW1⟩ : ∃ W1, W1 = (w.alloc (.cells (Bl.cL l (.slice pl l.places.length cl) vs vb).toArray 26)).alloc (.cells Bl.zL 26) := ⟨_, rfl⟩
  have hE1 : Bl.Ext w W1 := by rw [hW1]; exact (Bl.ext_alloc _ _).trans (Bl.ext_alloc _ _)
  have hsz1 : W1.heap.size = w.heap.size + 1 + 1 := by rw [hW1, World.size_alloc, World.size_alloc]
  have hBl : Bl.BoxC W1 w.heap.size (Bl.cL l (.slice pl l.places.length cl) vs vb) := by rw [hW1]; exact (Bl.BoxC.box w 26 (Bl.cL_ne _ _ _ _)).ext (Bl.ext_alloc _ _)
  have hBr : Bl.BoxC W1 (w.heap.size + 1) Bl.zL.toList := by rw [hW1]; exact Bl.box2 w _ Bl.zL.toList _ _ (fun h => by cases h)
  obtain ⟨R0, hR0⟩ : ∃ R0, R0 = w.heap.size + 1 := ⟨_, rfl⟩
  obtain ⟨P0, hP0⟩ : ∃ P0, P0 = w.heap.size := ⟨_, rfl⟩
  rw [← hR0] at hBr
  rw [← hP0] at hBl
  have HE1 := Bl.hid hE1
  have HBl := Bl.hid hBl
  have HBr := Bl.hid hBr
  have HPR : Hid (P0 = w.heap.size ∧ R0 = w.heap.size + 1 ∧ W1.heap.size = w.heap.size + 1 + 1) := Bl.hid ⟨hP0, hR0, hsz1⟩
  have hR1 := hR.ext hE1
  have hb0 := hR1.bx.cell (i := 0) (v := .map (some m)) rfl
  have hbl0 := hR1.bx.lt
  have hx2 := HBl.out.cell (i := 2) (v := .int .i64 l.obj) rfl
  have hxl := HBl.out.lt
  have Hlk : Hid (∀ w2, Bl.Ext W1 w2 → (Instr.lookup 56 (.map (some m)) (.int .i64 l.obj) true).run Tryd.prog w2 = .ok (.tuple #[.slice (some ⟨bl, 0, none⟩) n cb0, .bool true]) w2) := Bl.hid fun w2 h2 => by
    have hz : (zeroValue 24).run Tryd.prog w2 = .ok (.slice none 0 0) w2 := by first | rfl | kernel_rfl | (simp [go_sem]; done)
    have h := (hR1.mt.ext h2).lookup (P := Tryd.prog) Tryd.underlying56 Tryd.underlying3 hz l.obj
    rw [hgm, ← hn] at h
    exact h
  have HG := Bl.hid (And.intro hg (And.intro he s1))
  have HPl := Bl.hid (And.intro hcc.pl (Bl.LtC.one hcc))
  have Hbl : Hid (bl < w.heap.size) := Bl.hid hbl
  obtain ⟨oj, hoj⟩ : ∃ oj, oj = l.obj := ⟨_, rfl⟩
  rw [← hoj] at Hlk hx2
  have Hoj := Bl.hid hoj
  rw [← hkk] at hW1 hBl HBl HL HPl
  unfold Bl.cL at hW1
  clear hcc hR hgm hrow ho1 ho2 ho3 hp1 hp2 hp3 hok hc hk hg he ha hE1 hBl hBr hR1 hbl hn hnc hcm hsz1 hR0 hP0 hoj
  rw [← hkk]
  show Calls Tryd.prog 21 #[.pointer (some ⟨b, 0, none⟩), .agg #[.int .i64 l.kind, .int .i64 l.id, .int .i64 l.obj, .slice pl k cl, vs, .int .i64 l.frm, .int .i64 l.cnt, vb, .int .i64 l.code]] w _
  clear hkk
  go_enter Tryd.func21, Tryd.ntmps21
  go_wp2_with fail
  rw [← hW1]
  rw [show w.heap.size + 1 = R0 from HPR.out.2.1.symm, show w.heap.size = P0 from HPR.out.1.symm]
  clear hW1
  apply Bl.wp_region_evK (Bl.Ext) (fun _ _ _ => True) 12 [13, 14, 15, 16, 17, 18, 19, 12, 20, 21, 5, 6] [Bl.eqv _, Bl.eqv _, Bl.eqv _, Bl.eqv _, Bl.eqv _, Bl.eqv _, Bl.eqv _, Bl.eqv _, Bl.eqv _, Bl.eqv _, Bl.eqv _, Bl.eqv _] (fun w => Below.refl _ w) (fun a b c h k => Bl.Ext.trans h k) (by kernel_rfl) (by kernel_rfl) (by kernel_rfl) (by kernel_rfl)
  case hsteps =>
    refine ⟨?_, ?_, ?_, ?_, ?_, ?_, ?_, ?_, ?_, ?_, ?_, ?_, trivial⟩
    all_goals
      intro d ev w1 hext HJd Hanc Hdes hni hb hd
      replace Hanc := Bl.hid Hanc
      replace HJd := Bl.hid HJd
      replace Hdes := Bl.hid Hdes
      replace hni := Bl.hid hni
      have e0 := hb 0 (by decide)
      have e3 := hb 3 (by decide)
      clear hb
      simp only [Array.getD_eq_getD_getElem?, List.getElem?_toArray, List.getElem?_cons_succ, List.getElem?_cons_zero, Option.getD_some] at e0 e3
      simp only [Bl.DepsE2, List.getElem?_cons_succ, List.getElem?_cons_zero, Option.bind_some, List.getD_cons_succ, List.getD_cons_zero, Bl.eqv, and_true] at hd
      have hc := (Bl.bcell hext).1
      have c0 := (hc _ 0 hbl0).trans hb0
      have c2 := (hc _ 2 hxl).trans hx2
      have lk := Hlk.out _ hext
      simp only [Region.wanted, if_true]
      go_simp
      first | exact ⟨Below.refl _ _, rfl, trivial⟩ | exact ⟨Below.refl _ _, rfl⟩ | exact Below.refl _ _
  case hmono => exact ⟨Bl.monoR_eqv _, Bl.monoR_eqv _, Bl.monoR_eqv _, Bl.monoR_eqv _, Bl.monoR_eqv _, Bl.monoR_eqv _, Bl.monoR_eqv _, Bl.monoR_eqv _, Bl.monoR_eqv _, Bl.monoR_eqv _, Bl.monoR_eqv _, Bl.monoR_eqv _, trivial⟩
  case hR0 => exact (Below.refl _ _).drew
  case hend =>
    intro u w1 hext hJ hend
    simp only [Bl.EndE, List.getElem?_cons_succ, List.getElem?_cons_zero, Option.bind_some, List.getD_cons_succ, List.getD_cons_zero, Bl.eqv, true_and] at hend
    simp only [Bl.fillAct, List.setIfInBounds_toArray, List.set_cons_succ, List.set_cons_zero, List.drop_succ_cons, List.drop_zero, hend]
    have HE2 : Hid (Bl.Ext w w1) := Bl.hid (HE1.out.trans hext)
    have HBl2 := Bl.hid (HBl.out.ext hext)
    have HBr2 := Bl.hid (HBr.out.ext hext)
    obtain ⟨W2, hW2⟩ : ∃ W, W = w1 := ⟨_, rfl⟩
    rw [← hW2] at HE2 HBl2 HBr2 ⊢
    have HW2 : Hid (w.heap.size + 2 ≤ W2.heap.size) := Bl.hid (by rw [hW2]; have := hext.size; have := HPR.out; omega)
    clear hext hend hJ hb0 hbl0 hx2 hxl HBl HBr Hlk hW2
    obtain ⟨hBk, hEk⟩ := Bl.BoxC.fresh (cs := Bl.cL an Bl.nilV Bl.nilV Bl.nilV) W2 26 Bl.zL rfl (Bl.cL_ne _ _ _ _)
    have Hstk := Bl.hid (Bl.fresh_store (P := Tryd.prog) (cs := Bl.cL an Bl.nilV Bl.nilV Bl.nilV) W2 26 Bl.zL rfl (Bl.cL_one ⟨_, _, _, rfl⟩ ⟨_, _, _, rfl⟩ ⟨_, _, _, rfl⟩) (ty := 26) (by kernel_rfl))
    have hx1 := HBl2.out.cell (i := 1) (v := .int .i64 l.id) rfl
    have hx2 := HBl2.out.cell (i := 2) (v := .int .i64 l.obj) rfl
    subst han
    go_wp2_with (with_reducible refine Bl.stop_store (ty := 26) ?_)
    refine Bl.go_on ?_
    refine Bl.wpL_store0 rfl rfl Hstk.out ?_
    obtain ⟨W3, hW3⟩ : ∃ W, W = (W2.alloc (.cells Bl.zL 26)).setCells W2.heap.size 0 (Bl.cL ⟨4, l.id, l.obj, [], [], 0, 0, [], 0⟩ Bl.nilV Bl.nilV Bl.nilV) := ⟨_, rfl⟩
    obtain ⟨Y, hY⟩ : ∃ Y, Y = W2.heap.size := ⟨_, rfl⟩
    rw [← hW3] at hBk hEk ⊢
    rw [← hY] at hBk ⊢
    obtain ⟨B, hB⟩ : ∃ B, B = W3.heap.size := ⟨_, rfl⟩
    have HBY : Hid (R0 < Y ∧ Y < B ∧ P0 < R0 ∧ w.heap.size ≤ Y ∧ B = W3.heap.size ∧ w.heap.size ≤ B) := Bl.hid (by have := hBk.lt; have := HW2.out; have := HPR.out; omega)
    have HE3 : Hid (Bl.Ext w W3) := Bl.hid (HE2.out.trans hEk)
    have HBl3 := Bl.hid (HBl2.out.ext hEk)
    have HBr3 := Bl.hid (HBr2.out.ext hEk)
    have HBk := Bl.hid hBk
    have hx3 := HBl3.out.cell (i := 3) (v := .slice pl k cl) rfl
    clear hBk hEk Hstk HBl2 HBr2 hW3 hY hB hx1 hx2 HE2
    go_wp2_with fail
    clear hx3
    go_loopw [34] (fun x wr => ∃ (i : Nat) (vr : Value) (M : List Bl.Sv), i ≤ k ∧ x = .int .i64 i ∧ Hid (Bl.GQ Bl.cS 3 Bl.OkF (fun b => B ≤ b) B wr Y 4 ((Bl.cL ⟨4, l.id, l.obj, [], [], 0, 0, [], 0⟩ Bl.nilV Bl.nilV Bl.nilV).set 4 vr) vr M ∧ M.map Bl.plS = Bl.ansS all (l.places.take i) ∧ ∀ p ∈ l.places.take i, p < (n : Int)) ∧ Hid (Bl.Kq (fun k => k = Y ∨ B ≤ k) W3 wr)) (fun x _ => k - (intOf x).toNat)
    case atStart => exact ⟨0, .slice none 0 0, [], Nat.zero_le _, rfl, Bl.hid ⟨Bl.GQ.start HBk.out rfl, rfl, fun p hp => (by simp at hp)⟩, Bl.hid (Bl.Kq.refl _)⟩
    case round =>
      obtain ⟨i, vr, M, hi, rfl, HI, HKr⟩ := hrel
      have HEr : Hid (Bl.Ext w wr) := Bl.hid ((HE3.out.trans' (N := w.heap.size) (HKr.out.mono fun j _ q => by have := HBY.out; omega) (Nat.le_refl _)))
      have hnB : ∀ X, X < B → X ≠ Y → ¬ (X = Y ∨ B ≤ X) := fun X h1 h2 q => by omega
      have HBl4 := Bl.hid (HKr.out.box (hnB P0 (by have := HBY.out; omega) (by have := HBY.out; omega)) HBl3.out)
      have HBr4 := Bl.hid (HKr.out.box (hnB R0 (by have := HBY.out; omega) (by have := HBY.out; omega)) HBr3.out)
      have HBw : Hid (B ≤ wr.heap.size) := Bl.hid (by have := HKr.out.size; have := HBY.out; omega)
      clear hnB
      by_cases hlt : i < k
      · have hil : i < l.places.length := by rw [← Hall.out.2.1]; exact hlt
        obtain ⟨bp, op, c2, hq, _, _, hbp, hrg, hcell⟩ := Bl.Rd.pos HPl.out.1 (by omega)
        rw [Hall.out.2.1] at hq
        injection hq with hq1 hq2 hq3
        subst hq1 hq3
        have hcl := ((Bl.bcell HEr.out).1 bp (op + i) hbp).trans (hcell i hil)
        have hpr := Hall.out.2.2.2 _ (Bl.getD_mem 0 hil)
        obtain ⟨p, hp⟩ : ∃ p, p = l.places.getD i 0 := ⟨_, rfl⟩
        rw [← hp] at hcl hpr
        have Hp := Bl.hid hp
        have hi0 : (0 : Int) ≤ (i : Int) := by omega
        have hi1 : (i : Int) < (k : Int) := by omega
        have hi2 : (i : Int) ≤ 12 := by have := Hn12.out; omega
        have hp0 := hpr.1
        have hp1 := hpr.2
        clear hrg hcell hq2 hp hpr hbp
        go_wp2_with fail
        have hps : p = l.places.getD i 0 := Hp.out
        have Hsn : Hid (∀ st pth, st = all.getD p.toNat [] → pth = Bl.pathD all p.toNat → Bl.ansS all (l.places.take (i + 1)) = Bl.ansS all (l.places.take i) ++ [(p, st, pth)]) := Bl.hid fun st pth h1 h2 => by
          rw [Bl.ansS_snoc all l.places i hil, ← hps, h1, h2]
        have Htk : Hid (p < (n : Int) → ∀ x ∈ l.places.take (i + 1), x < (n : Int)) := Bl.hid fun q x hx => by
          rw [Bl.take_succ_getDD 0 l.places i hil, ← hps] at hx
          rcases List.mem_append.1 hx with hx | hx
          · exact HI.out.2.2 x hx
          · obtain rfl : x = p := by simpa using hx
            exact q
        clear hil
        by_cases hpn : p < (n : Int)
        · obtain ⟨pi, rfl⟩ := Int.eq_ofNat_of_zero_le hp0
          have hpi : pi < n := by omega
          have hrr := Hrow.out.rdss.ext HEr.out
          rw [Int.toNat_natCast] at Hsn
          obtain ⟨bl2, cb2, p1, c1, hq, _, _, hbl2, hcell2, hrd2⟩ := Hrow.out.el (i := pi) (by rw [← Hall.out.1]; exact hpi)
          injection hq with hq1 hq2 hq3
          injection hq1 with hq1
          injection hq1 with hq1
          subst hq1 hq3
          have hso := Hall.out.2.2.1 _ (Bl.getD_mem (L := all) [] (i := pi) (by rw [← Hall.out.1]; exact hpi))
          obtain ⟨st, hst⟩ : ∃ st, st = all.getD pi [] := ⟨_, rfl⟩
          obtain ⟨pth, hpth⟩ : ∃ pth, pth = Bl.pathD all pi := ⟨_, rfl⟩
          have hdg : Bl.Dig pth := by rw [hpth]; exact Bl.dig_pathD all pi (by rw [← Hall.out.1]; exact Hn12.out.2.1)
          rw [← hst] at hcell2 hrd2 hso
          have hsnoc := Hsn.out st pth hst hpth
          have Hsn2 := Bl.hid hsnoc
          have Hst := Bl.hid (And.intro hso.1 (And.intro hso.2 hdg))
          have HstF : Hid (Bl.RdsF (fun j => j < w.heap.size) w (.slice p1 st.length c1) st.length (Bl.ints .u8 st)) := Bl.hid (Bl.RdsF.of_rds hrd2 fun j _ hj => hj)
          have HMk := Bl.hid (pmake_own (.slice (some ⟨bl, 0, none⟩) n cb0) all pi wr (by rw [Hall.out.1]; exact hrr) (HG.out.1.ext HEr.out) (fun x hx => (Hall.out.2.2.1 x hx).2) (fun x hx => by have := (Hall.out.2.2.1 x hx).1; omega) (by rw [← Hall.out.1]; exact Hn12.out.2.1) (by rw [← Hall.out.1]; exact hpi))
          rw [← hpth] at HMk
          have Hcl2 : Hid (∀ w2, Bl.Ext wr w2 → w2.cell? ⟨bl, pi, none⟩ = some (.slice p1 st.length c1)) := Bl.hid fun w2 h2 => ((Bl.bcell (HEr.out.trans h2)).1 bl pi Hbl.out).trans hcell2
          clear hrr hq2 hcell2 hrd2 hso hst hpth hdg Hsn Hrow hsnoc hps hbl2
          refine HMk.out.mono ?_
          rintro e w5 ⟨v9, rfl, hrd9, hloc9, hE9⟩
          obtain ⟨p9, c9, hv9, _, _⟩ := hrd9.form
          subst hv9
          have HGQ := Bl.hid (HI.out.1.ext Bl.stab_okF hE9)
          have HFr : Hid (∀ j, wr.heap.size ≤ j → j ≠ Y ∧ vr.ownBlock ≠ some j ∧ B ≤ j) := Bl.hid fun j hj => ⟨fun q => by have := HBw.out; have := HBY.out; omega, fun q => by have := (HI.out.1.own.block j q).2; omega, by have := HBw.out; omega⟩
          have HPa : Hid (Bl.P0a Bl.cS 3 Bl.OkF (fun b => B ≤ b) B Y 4 ((Bl.cL ⟨4, l.id, l.obj, [], [], 0, 0, [], 0⟩ Bl.nilV Bl.nilV Bl.nilV).set 4 vr) vr M (.slice p9 pth.length c9) pth w5) := Bl.hid ⟨⟨HGQ.out, by have := HBw.out; have := hE9.size; omega⟩, Bl.RdsF.of_rds hrd9 fun j hj _ => HFr.out j (hloc9 j hj)⟩
          have HE5 := Bl.hid hE9
          have HB5 : Hid (B ≤ w5.heap.size) := Bl.hid (by have := HBw.out; have := hE9.size; omega)
          have hyc := HGQ.out.cell
          have hlc := Hcl2.out w5 hE9
          have Hq5 : Hid (∀ w2, Bl.Kq (fun k => B ≤ k) w5 w2 → w2.cell? ⟨Y, 4, none⟩ = some vr ∧ w2.cell? ⟨bl, pi, none⟩ = some (.slice p1 st.length c1)) := Bl.hid fun w2 hk => ⟨hk.cell (by have := HBY.out; omega) hyc, hk.cell (by have := HBY.out; have := Hbl.out; omega) hlc⟩
          have HCb : Hid (∀ w2, Bl.Kq (fun k => B ≤ k) w5 w2 → Bl.P0a Bl.cS 3 Bl.OkF (fun b => B ≤ b) B Y 4 ((Bl.cL ⟨4, l.id, l.obj, [], [], 0, 0, [], 0⟩ Bl.nilV Bl.nilV Bl.nilV).set 4 vr) vr M (.slice p9 pth.length c9) pth w2 → Calls Tryd.prog 35 #[.slice p1 st.length c1] w2 fun e w' => ∃ v', e = .returned v' ∧ Bl.P1a Bl.cS 3 Bl.OkF (fun b => B ≤ b) B Y 4 ((Bl.cL ⟨4, l.id, l.obj, [], [], 0, 0, [], 0⟩ Bl.nilV Bl.nilV Bl.nilV).set 4 vr) vr M (.slice p9 pth.length c9) pth st v' w' ∧ Bl.Ext w2 w') := Bl.hid fun w2 hk hp => by
            have hrd := (HstF.out.kept (F' := fun _ => True) (w' := w2) fun j hj hl => ⟨trivial, (hk.block j (by have := HEr.out.size; have := HE5.out.size; omega) (by have := HBY.out; omega)).trans ((HEr.out.trans HE5.out).block j hl)⟩).rds
            refine (cloneB_any _ st w2 hrd (by have := Hst.out.1; omega)).mono ?_
            rintro e w' ⟨v', rfl, ho, hE⟩
            refine ⟨v', rfl, ⟨Bl.RdsF.of_rds (Bl.Rds.of_owns ho) fun j hj _ => ?_, hp.ext Bl.stab_okF hE⟩, hE⟩
            have h1 := (ho.lt j hj).1
            have h2 := hp.1.1.box.lt
            refine ⟨by omega, fun q => ?_, by have := hp.1.2; omega⟩
            have := (hp.1.1.own.block j q).2
            omega
          have Hm : Hid (M.length + 1 ≤ maxLen ∧ (M.length + 1) * 56 ≤ 140737488355328) := Bl.hid (by
            have h1 := congrArg List.length HI.out.2.1
            unfold Bl.ansS at h1
            rw [List.length_map, List.length_map, List.length_take] at h1
            have := Hn12.out
            unfold maxLen
            omega)
          clear hrd9 hloc9 hE9 HMk Hcl2 hyc hlc hcl
          go_wp2_with fail
          apply Bl.wp_region_evK (Bl.Kq (fun k => B ≤ k)) (Bl.ChN (Bl.P0a Bl.cS 3 Bl.OkF (fun b => B ≤ b) B Y 4 ((Bl.cL ⟨4, l.id, l.obj, [], [], 0, 0, [], 0⟩ Bl.nilV Bl.nilV Bl.nilV).set 4 vr) vr M (.slice p9 pth.length c9) pth) [(7, 55, Bl.P1a Bl.cS 3 Bl.OkF (fun b => B ≤ b) B Y 4 ((Bl.cL ⟨4, l.id, l.obj, [], [], 0, 0, [], 0⟩ Bl.nilV Bl.nilV Bl.nilV).set 4 vr) vr M (.slice p9 pth.length c9) pth st), (9, 57, Bl.A1 Bl.cS 3 Bl.OkF (fun b => B ≤ b) B Y 4 ((Bl.cL ⟨4, l.id, l.obj, [], [], 0, 0, [], 0⟩ Bl.nilV Bl.nilV Bl.nilV).set 4 vr) vr M (fun y => Bl.plS y = ((pi : Int), st, pth))), (10, 58, Bl.A2 Bl.cS 3 Bl.OkF (fun b => B ≤ b) B Y 4 ((Bl.cL ⟨4, l.id, l.obj, [], [], 0, 0, [], 0⟩ Bl.nilV Bl.nilV Bl.nilV).set 4 vr) vr M (fun y => Bl.plS y = ((pi : Int), st, pth))), (11, 59, Bl.A3 Bl.cS 3 Bl.OkF (fun b => B ≤ b) B Y 4 ((Bl.cL ⟨4, l.id, l.obj, [], [], 0, 0, [], 0⟩ Bl.nilV Bl.nilV Bl.nilV).set 4 vr) vr M (fun y => Bl.plS y = ((pi : Int), st, pth)))]) 13 [48, 49, 50, 51, 52, 53, 54, 55, 56, 57, 58, 59, 60] [Bl.eqv _, Bl.eqv _, Bl.eqv _, Bl.eqv _, Bl.eqv _, Bl.eqv _, Bl.eqv _, Bl.anyv, Bl.eqv _, Bl.anyv, Bl.anyv, Bl.anyv, Bl.eqv _] (fun w => Bl.Kq.refl w) (fun a b c h k => Bl.Kq.trans h k) (by kernel_rfl) (by kernel_rfl) (by kernel_rfl) (by kernel_rfl)
          case hsteps =>
            refine ⟨?_, ?_, ?_, ?_, ?_, ?_, ?_, ?_, ?_, ?_, ?_, ?_, ?_, trivial⟩
            all_goals
              intro d ev w1 hext HJd Hanc Hdes hni hb hd
              replace Hanc := Bl.hid Hanc
              replace HJd := Bl.hid HJd
              replace Hdes := Bl.hid Hdes
              replace hni := Bl.hid hni
              have e5 := hb 5 (by decide)
              have e7 := hb 7 (by decide)
              have e9 := hb 9 (by decide)
              have e10 := hb 10 (by decide)
              clear hb
              simp only [Array.getD_eq_getD_getElem?, List.getElem?_toArray, List.getElem?_cons_succ, List.getElem?_cons_zero, Option.getD_some] at e5 e7 e9 e10
              simp only [Bl.DepsE2, List.getElem?_cons_succ, List.getElem?_cons_zero, Option.bind_some, List.getD_cons_succ, List.getD_cons_zero, Bl.eqv, and_true] at hd
              have q3 := Hq5.out _ hext
              have c1 := q3.1
              have c2 := q3.2
              clear q3
              rw [if_pos (rfl : Region.wanted _ _ = true)]
              first
              | (have h1 := (HJd.out.2 (Hanc.out 7 (by kernel_rfl))).1 hni.out; obtain ⟨pb, cb, hb9, _, _⟩ := h1.1.rds.form; (with_reducible refine Bl.goodX_bld3 ?_ ?_ ?_ ?_ (buildSh3 (pi : Int) pb p9 st.length cb pth.length c9 w1) ?_); exact fun w => Bl.Kq.refl w; exact (by first | exact hd | exact hd.2 | exact hd.1.2 | exact hd.1.1.2 | exact hd.1.1.1.2 | exact hd.1.1.1.1.2 | exact hd.1.1.1.1.1.2 | exact hd.1.1.1.1.1.1.2 | exact hd.1.1.1.1.1.1.1.2 | exact hd.1.1.1.1.1.1.1.1.2 | exact hd.1.1.1.1.1.1.1.1.1.2 | exact hd.1.1.1.1.1.1.1.1.1.1.2 | exact hd.1.1.1.1.1.1.1.1.1.1.1.2 | exact hd.1.1.1.1.1.1.1.1.1.1.1.1.2 | exact hd.1.1.1.1.1.1.1.1.1.1.1.1.1.2 | exact hd.1 | exact hd.1.1 | exact hd.1.1.1 | exact hd.1.1.1.1 | exact hd.1.1.1.1.1 | exact hd.1.1.1.1.1.1 | exact hd.1.1.1.1.1.1.1 | exact hd.1.1.1.1.1.1.1.1 | exact hd.1.1.1.1.1.1.1.1.1 | exact hd.1.1.1.1.1.1.1.1.1.1 | exact hd.1.1.1.1.1.1.1.1.1.1.1 | exact hd.1.1.1.1.1.1.1.1.1.1.1.1 | exact hd.1.1.1.1.1.1.1.1.1.1.1.1.1 | exact hd.2.1 | exact hd.2.2.1 | exact hd.2.2.2.1 | exact hd.2.2.2.2.1 | exact hd.2.2.2.2.2.1 | exact hd.2.2.2.2.2.2.1 | exact hd.2.2.2.2.2.2.2.1 | exact hd.2.2.2.2.2.2.2.2.1 | exact hd.2.2.2.2.2.2.2.2.2.1 | exact hd.2.2.2.2.2.2.2.2.2.2.1 | exact hd.2.2.2.2.2.2.2.2.2.2.2.1 | exact hd.2.2.2.2.2.2.2.2.2.2.2.2.1 | exact hd.2.2.2.2.2.2.2.2.2.2.2.2.2.1 | exact hd.2.2 | exact hd.2.2.2 | exact hd.2.2.2.2 | exact hd.2.2.2.2.2 | exact hd.2.2.2.2.2.2 | exact hd.2.2.2.2.2.2.2 | exact hd.2.2.2.2.2.2.2.2); exact hb9; exact (by first | exact hd | exact hd.2 | exact hd.1.2 | exact hd.1.1.2 | exact hd.1.1.1.2 | exact hd.1.1.1.1.2 | exact hd.1.1.1.1.1.2 | exact hd.1.1.1.1.1.1.2 | exact hd.1.1.1.1.1.1.1.2 | exact hd.1.1.1.1.1.1.1.1.2 | exact hd.1.1.1.1.1.1.1.1.1.2 | exact hd.1.1.1.1.1.1.1.1.1.1.2 | exact hd.1.1.1.1.1.1.1.1.1.1.1.2 | exact hd.1.1.1.1.1.1.1.1.1.1.1.1.2 | exact hd.1.1.1.1.1.1.1.1.1.1.1.1.1.2 | exact hd.1 | exact hd.1.1 | exact hd.1.1.1 | exact hd.1.1.1.1 | exact hd.1.1.1.1.1 | exact hd.1.1.1.1.1.1 | exact hd.1.1.1.1.1.1.1 | exact hd.1.1.1.1.1.1.1.1 | exact hd.1.1.1.1.1.1.1.1.1 | exact hd.1.1.1.1.1.1.1.1.1.1 | exact hd.1.1.1.1.1.1.1.1.1.1.1 | exact hd.1.1.1.1.1.1.1.1.1.1.1.1 | exact hd.1.1.1.1.1.1.1.1.1.1.1.1.1 | exact hd.2.1 | exact hd.2.2.1 | exact hd.2.2.2.1 | exact hd.2.2.2.2.1 | exact hd.2.2.2.2.2.1 | exact hd.2.2.2.2.2.2.1 | exact hd.2.2.2.2.2.2.2.1 | exact hd.2.2.2.2.2.2.2.2.1 | exact hd.2.2.2.2.2.2.2.2.2.1 | exact hd.2.2.2.2.2.2.2.2.2.2.1 | exact hd.2.2.2.2.2.2.2.2.2.2.2.1 | exact hd.2.2.2.2.2.2.2.2.2.2.2.2.1 | exact hd.2.2.2.2.2.2.2.2.2.2.2.2.2.1 | exact hd.2.2 | exact hd.2.2.2 | exact hd.2.2.2.2 | exact hd.2.2.2.2.2 | exact hd.2.2.2.2.2.2 | exact hd.2.2.2.2.2.2.2 | exact hd.2.2.2.2.2.2.2.2); exact ⟨trivial, Bl.ChN.s2 (Bl.P1a.a1' h1 hb9 Hst.out.2.1 Hst.out.2.2) (Hanc.out 7 (by kernel_rfl)) (Hdes.out 10 (by kernel_rfl)) rfl rfl⟩) | (have h2 := ((HJd.out.2 (Hanc.out 7 (by kernel_rfl))).2 (Hanc.out 9 (by kernel_rfl))).1 hni.out; (with_reducible refine Bl.goodX_buildV (v := ev 57) tShL (by decide) ?_ h2.size ?_); rfl; exact ⟨Bl.Kq.of_ext (Bl.ext_alloc _ _), trivial, Bl.ChN.s3 (h2.a2 Bl.stab_okF _) (Hanc.out 7 (by kernel_rfl)) (Hanc.out 9 (by kernel_rfl)) (Hdes.out 11 (by kernel_rfl)) rfl rfl⟩) | (have h3 := (((HJd.out.2 (Hanc.out 7 (by kernel_rfl))).2 (Hanc.out 9 (by kernel_rfl))).2 (Hanc.out 10 (by kernel_rfl))).1 hni.out; (with_reducible refine Bl.goodX_a3 tShL Bl.stab_okF h3 ?_ ?_ Hm.out.1 Hm.out.2 ?_); rfl; exact (by first | exact hd | exact hd.2 | exact hd.1.2 | exact hd.1.1.2 | exact hd.1.1.1.2 | exact hd.1.1.1.1.2 | exact hd.1.1.1.1.1.2 | exact hd.1.1.1.1.1.1.2 | exact hd.1.1.1.1.1.1.1.2 | exact hd.1.1.1.1.1.1.1.1.2 | exact hd.1.1.1.1.1.1.1.1.1.2 | exact hd.1.1.1.1.1.1.1.1.1.1.2 | exact hd.1.1.1.1.1.1.1.1.1.1.1.2 | exact hd.1.1.1.1.1.1.1.1.1.1.1.1.2 | exact hd.1.1.1.1.1.1.1.1.1.1.1.1.1.2 | exact hd.1 | exact hd.1.1 | exact hd.1.1.1 | exact hd.1.1.1.1 | exact hd.1.1.1.1.1 | exact hd.1.1.1.1.1.1 | exact hd.1.1.1.1.1.1.1 | exact hd.1.1.1.1.1.1.1.1 | exact hd.1.1.1.1.1.1.1.1.1 | exact hd.1.1.1.1.1.1.1.1.1.1 | exact hd.1.1.1.1.1.1.1.1.1.1.1 | exact hd.1.1.1.1.1.1.1.1.1.1.1.1 | exact hd.1.1.1.1.1.1.1.1.1.1.1.1.1 | exact hd.2.1 | exact hd.2.2.1 | exact hd.2.2.2.1 | exact hd.2.2.2.2.1 | exact hd.2.2.2.2.2.1 | exact hd.2.2.2.2.2.2.1 | exact hd.2.2.2.2.2.2.2.1 | exact hd.2.2.2.2.2.2.2.2.1 | exact hd.2.2.2.2.2.2.2.2.2.1 | exact hd.2.2.2.2.2.2.2.2.2.2.1 | exact hd.2.2.2.2.2.2.2.2.2.2.2.1 | exact hd.2.2.2.2.2.2.2.2.2.2.2.2.1 | exact hd.2.2.2.2.2.2.2.2.2.2.2.2.2.1 | exact hd.2.2 | exact hd.2.2.2 | exact hd.2.2.2.2 | exact hd.2.2.2.2.2 | exact hd.2.2.2.2.2.2 | exact hd.2.2.2.2.2.2.2 | exact hd.2.2.2.2.2.2.2.2); exact fun v' w' k1 k2 => ⟨k1, trivial, Bl.ChN.s4 k2 (Hanc.out 7 (by kernel_rfl)) (Hanc.out 9 (by kernel_rfl)) (Hanc.out 10 (by kernel_rfl)) trivial rfl rfl⟩)
              | (go_simp; first | exact ⟨Bl.Kq.refl _, rfl, HJd.out.same rfl⟩ | (go_at_call 35; have h0 := HJd.out.1 hni.out; (with_reducible refine (HCb.out w1 hext h0).mono ?_); rintro e w2 ⟨v', rfl, k1, k2⟩; exact ⟨_, rfl, Bl.Kq.of_ext k2, trivial, Bl.ChN.s1 k1 (Hdes.out 9 (by kernel_rfl)) rfl⟩) | exact ⟨Below.refl _ _, rfl, Bl.HJ.same (by decide) HJd.out⟩)
          case hmono => exact ⟨Bl.monoR_eqv _, Bl.monoR_eqv _, Bl.monoR_eqv _, Bl.monoR_eqv _, Bl.monoR_eqv _, Bl.monoR_eqv _, Bl.monoR_eqv _, Bl.monoR_anyv, Bl.monoR_eqv _, Bl.monoR_anyv, Bl.monoR_anyv, Bl.monoR_anyv, Bl.monoR_eqv _, trivial⟩
          case hR0 => exact Bl.Kq.drew _
          case hend =>
            intro u w1 hext hJ hend
            simp only [Bl.EndE, List.getElem?_cons_succ, List.getElem?_cons_zero, Option.bind_some, List.getD_cons_succ, List.getD_cons_zero, Bl.eqv, true_and] at hend
            simp only [Bl.fillAct, List.setIfInBounds_toArray, List.set_cons_succ, List.set_cons_zero, List.drop_succ_cons, List.drop_zero, hend]
            obtain ⟨y, p7, c7, hu, hpy, hcell, hfz, hG7⟩ := (((hJ.2 rfl).2 rfl).2 rfl).2 rfl
            have HG7 := Bl.hid hG7
            have HK7 := Bl.hid hext
            have Hpy := Bl.hid hpy
            rw [hu] at HG7
            simp only [hu]
            clear hG7 hext hend hJ hu hpy
            go_wp2_with fail
            obtain ⟨w8, hw8⟩ : ∃ W, W = w1.setCell ⟨Y, 4, none⟩ (.slice p7 (M.length + 1) c7) := ⟨_, rfl⟩
            have HK8 : Hid (Bl.Kq (fun k => k = Y ∨ B ≤ k) wr w8) := Bl.hid (by rw [hw8]; exact ((Bl.Kq.of_ext HE5.out).trans (HK7.out.mono fun j _ q => .inr q)).setCell (Q := fun k => k = Y ∨ B ≤ k) ⟨Y, 4, none⟩ (.inl rfl) _)
            rw [← hw8] at HG7 ⊢
            clear hw8 hcell hfz
            go_roundw
            case rel => exact ⟨i + 1, _, M ++ [y], by omega, by go_num, Bl.hid ⟨by have h := HG7.out; rw [List.set_set] at h; exact h, by rw [List.map_append, HI.out.2.1, Hsn2.out, List.map_cons, List.map_nil, Hpy.out], Htk.out hpn⟩, Bl.hid (HKr.out.trans HK8.out)⟩
            case measure => simp [intOf]; omega
          case hJ0 => exact Bl.ChN.start (HPa.out.ext Bl.stab_okF (Below.refl _ _).drew)
        · have HmkN := Bl.hid (pmake_no (.slice (some ⟨bl, 0, none⟩) n cb0) all p wr (a 1) (by have h := Hrow.out.rdss.ext HEr.out; rw [Hall.out.1]; exact h) ((HG.out.2.1.ext HEr.out).cell 1 HG.out.2.2) (fun q => hpn (by rw [Hall.out.1]; exact q.2.2)))
          have Hrf := Bl.hid (HaR.out i hlt (by have h := Hp.out; omega))
          clear hcl hps Hsn Htk
          refine HmkN.out.mono ?_
          rintro e w5 ⟨rfl, hE5⟩
          have HE5 := Bl.hid hE5
          have HBl5 := Bl.hid (HBl4.out.ext hE5)
          have HBr5 := Bl.hid (HBr4.out.ext hE5)
          have HE5w : Hid (Bl.Ext w w5) := Bl.hid (HEr.out.trans hE5)
          have Hll5 := Bl.hid (HBl5.out.load (P := Tryd.prog) Tryd.underlying26 rfl (by kernel_rfl))
          clear hE5 HmkN
          go_wp2_with (with_reducible refine Bl.stop_load (ty := 26) ?_)
          refine Bl.go_on ?_
          refine Bl.wpL_load rfl Hll5.out ?_
          go_wp2_with fail
          refine (refusal_any _ l 1 w5 (HL.out.ext HE5w.out)).mono ?_
          rintro e w6 ⟨rfl, hE6⟩
          have HE6 := Bl.hid hE6
          have HBr6 := Bl.hid (HBr5.out.ext hE6)
          clear hE6
          have Hst6 := Bl.hid (HBr6.out.store (P := Tryd.prog) (cs' := Bl.cL (Bl.refL l 1) Bl.nilV Bl.nilV Bl.nilV) rfl (Bl.cL_one ⟨_, _, _, rfl⟩ ⟨_, _, _, rfl⟩ ⟨_, _, _, rfl⟩) (ty := 26) (by kernel_rfl))
          have HBr7 := Bl.hid (HBr6.out.set (cs' := Bl.cL (Bl.refL l 1) Bl.nilV Bl.nilV Bl.nilV) rfl)
          go_wp2_with (with_reducible refine Bl.stop_store (ty := 26) ?_)
          refine Bl.go_on ?_
          refine Bl.wpL_store0 rfl rfl Hst6.out ?_
          go_wp2_with fail
          refine bodyPost_ret (v := .agg (Bl.cL (Bl.refL l 1) Bl.nilV Bl.nilV Bl.nilV).toArray) (Bl.results_cell rfl rfl (HBr7.out.loadVar (P := Tryd.prog) Tryd.underlying26 rfl (by kernel_rfl))) rfl ?_
          rw [Hrf.out]
          exact ⟨_, _, _, _, rfl, Bl.LtF.nil _ _ _ _ _ _ _ _, Bl.below_setCells _ _ _ _ (HE5w.out.trans HE6.out) (by have := HPR.out; omega)⟩
      · obtain rfl : i = k := by omega
        have HTk : Hid (l.places.take i = l.places) := Bl.hid (List.take_of_length_le (by rw [← Hall.out.2.1]; exact Nat.le_refl _))
        obtain ⟨pv, cv, hvr⟩ := HI.out.1.form
        subst hvr
        have HG7 := Bl.hid HI.out.1
        have Hsl : Hid (M.map Bl.plS = Bl.ansS all l.places) := Bl.hid (by have h := HI.out.2.1; rw [HTk.out] at h; exact h)
        have HaL := Bl.hid (HaA.out (by have h := HI.out.2.2; rw [HTk.out] at h; exact h))
        have Hl7 := Bl.hid (HG7.out.box.load (P := Tryd.prog) Tryd.underlying26 rfl (by kernel_rfl))
        have Hst8 := Bl.hid (HBr4.out.store (P := Tryd.prog) (cs' := (Bl.cL ⟨4, l.id, l.obj, [], [], 0, 0, [], 0⟩ Bl.nilV Bl.nilV Bl.nilV).set 4 (.slice pv M.length cv)) rfl (Bl.cL_one (l := ⟨4, l.id, l.obj, [], [], 0, 0, [], 0⟩) (vp := Bl.nilV) (vs := .slice pv M.length cv) (vb := Bl.nilV) ⟨_, _, _, rfl⟩ ⟨_, _, _, rfl⟩ ⟨_, _, _, rfl⟩) (ty := 26) (by kernel_rfl))
        have HBr9 := Bl.hid (HBr4.out.set (cs' := (Bl.cL ⟨4, l.id, l.obj, [], [], 0, 0, [], 0⟩ Bl.nilV Bl.nilV Bl.nilV).set 4 (.slice pv M.length cv)) rfl)
        have HK9 : Hid (Bl.Kq (fun k => k = R0) wr (wr.setCells R0 0 ((Bl.cL ⟨4, l.id, l.obj, [], [], 0, 0, [], 0⟩ Bl.nilV Bl.nilV Bl.nilV).set 4 (.slice pv M.length cv)))) := Bl.hid ((Bl.Kq.refl wr).setCells (Q := fun k => k = R0) rfl 0 _)
        have hx7 := HBl4.out.lt
        clear HI hlt
        go_wp2_with (with_reducible refine Bl.stop_load (ty := 26) ?_)
        refine Bl.go_on ?_
        refine Bl.wpL_load rfl Hl7.out ?_
        go_wp2_with (with_reducible refine Bl.stop_store (ty := 26) ?_)
        refine Bl.go_on ?_
        refine Bl.wpL_store0 rfl rfl Hst8.out ?_
        go_wp2_with fail
        refine bodyPost_ret (v := .agg ((Bl.cL ⟨4, l.id, l.obj, [], [], 0, 0, [], 0⟩ Bl.nilV Bl.nilV Bl.nilV).set 4 (.slice pv M.length cv)).toArray) (Bl.results_cell rfl rfl (HBr9.out.loadVar (P := Tryd.prog) Tryd.underlying26 rfl (by kernel_rfl))) rfl ?_
        rw [HaL.out]
        refine ⟨_, _, _, M, rfl, ⟨Bl.RdsF.nil _, ?_, fun x hx => ?_, Hsl.out, [], Bl.RdsF.nil _, fun x hx => (by cases hx), rfl⟩, ?_⟩
        · exact Bl.RdsF.of_rds (HK9.out.rds HG7.out.own.rds fun j hj q => by have := (HG7.out.own.block j hj).1; have := HBY.out; omega) fun j hj _ => by have := (HG7.out.own.block j hj).1; have := HBY.out; omega
        · exact Bl.stab_okF _ _ _ _ _ (HG7.out.ok x hx) fun j hj hl => ⟨by have := hj.2.2; have := HBY.out; omega, HK9.out.block j hl (fun q => by have := hj.2.2; have := HBY.out; omega)⟩
        · exact HEr.out.trans' (N := w.heap.size) (HK9.out.mono fun j _ q => by have := HPR.out; omega) (Nat.le_refl _)
  case hJ0 => trivial
end Go.Proofs.YtglenbikdahgjaaDoor

/- Walk of shelf.fetch. -/
namespace Go.Proofs.Bl
open Go Go.RowKit
/-- a row is copied, a letter's variable made, the letter built, in whatever order that may be -/
structure JF (bs : List (List Int)) (i o f : Int) (B q : Nat) (d : Nat → Bool) (u : Nat → Value) (w : World) : Prop where
  le : B ≤ w.heap.size
  a : d 11 = true → ∃ (g : Nat) (M : List Bv), u 51 = .slice (some ⟨g, 0, none⟩) q q ∧ B ≤ g ∧ Pk w g 1 (u 51) M.length (cellsR cB M) ∧ (∀ y ∈ M, OkB (fun k => g < k ∧ ∀ D, d 13 = true → u 8 = .pointer (some ⟨D, 0, none⟩) → k ≠ D) w y) ∧ M.map (·.2) = bs ∧ g < w.heap.size ∧ ∀ D, d 13 = true → u 8 = .pointer (some ⟨D, 0, none⟩) → g ≠ D
  al : d 13 = true → ∃ D, u 8 = .pointer (some ⟨D, 0, none⟩) ∧ BoxC w D zL.toList ∧ B ≤ D
  bd : d 12 = true → d 11 = true ∧ u 52 = .agg #[.int .i64 6, .int .i64 i, .int .i64 o, nilV, nilV, .int .i64 f, .int .i64 0, u 51, .int .i64 0]
section
variable {bs : List (List Int)} {i o f : Int} {B q : Nat} {d : Nat → Bool} {u : Nat → Value} {w w' : World}
theorem JF.start (h : B ≤ w.heap.size) : JF bs i o f B q (fun _ => false) u w := ⟨h, fun q => (by cases q), fun q => (by cases q), fun q => (by cases q)⟩
theorem JF.same {j t : Nat} {v : Value} (h : JF bs i o f B q d u w) (hi : (decide (j = 11) || decide (j = 12) || decide (j = 13) || decide (t = 51) || decide (t = 52) || decide (t = 8)) = false) : JF bs i o f B q (upd d j) (updv (some t) u v) w := by
  simp only [Bool.or_eq_false_iff, decide_eq_false_iff_not] at hi
  obtain ⟨⟨⟨⟨⟨h1, h2⟩, h3⟩, h4⟩, h5⟩, h6⟩ := hi
  have a1 : upd d j 11 = d 11 := if_neg (fun e => h1 e.symm)
  have a2 : upd d j 12 = d 12 := if_neg (fun e => h2 e.symm)
  have a3 : upd d j 13 = d 13 := if_neg (fun e => h3 e.symm)
  have b1 : updv (some t) u v 51 = u 51 := if_neg (fun e => h4 e.symm)
  have b2 : updv (some t) u v 52 = u 52 := if_neg (fun e => h5 e.symm)
  have b3 : updv (some t) u v 8 = u 8 := if_neg (fun e => h6 e.symm)
  exact ⟨h.le, by rw [a1, a3, b1, b3]; exact h.a, by rw [a3, b3]; exact h.al, by rw [a2, a1, b2, b1]; exact h.bd⟩
theorem JF.call {M : List Bv} {v : Value} (h : JF bs i o f B q d u w) (h12 : d 12 = false) (hv : v = .slice (some ⟨w.heap.size, 0, none⟩) q q) (hp : Pk w' w.heap.size 1 v M.length (cellsR cB M)) (ho : ∀ y ∈ M, OkB (fun k => w.heap.size < k) w' y) (hm : M.map (·.2) = bs) (hE : Ext w w') : JF bs i o f B q (upd d 11) (updv (some 51) u v) w' := by
  have hD : ∀ D, d 13 = true → u 8 = .pointer (some ⟨D, 0, none⟩) → D < w.heap.size := fun D h1 h2 => by
    obtain ⟨D', k1, k2, _⟩ := h.al h1
    rw [h2] at k1
    injection k1 with k1
    injection k1 with k1
    injection k1 with k1
    subst k1; exact k2.lt
  refine ⟨Nat.le_trans h.le hE.size, fun _ => ⟨w.heap.size, M, hv, h.le, hp, fun y hy => stab_okB _ _ _ _ _ (ho y hy) fun b hb _ => ⟨⟨hb, fun D h1 h2 e => by have := hD D h1 h2; omega⟩, rfl⟩, hm, (hp.block _ (by rw [hv]; rfl)).2, fun D h1 h2 e => by have := hD D h1 h2; omega⟩, fun h1 => ?_, fun h1 => ?_⟩
  · obtain ⟨D, k1, k2, k3⟩ := h.al h1
    exact ⟨D, k1, k2.ext hE, k3⟩
  · have h1 : d 12 = true := h1
    rw [h12] at h1; cases h1
theorem JF.bld {v : Value} (h : JF bs i o f B q d u w) (h11 : d 11 = true) (hv : v = .agg #[.int .i64 6, .int .i64 i, .int .i64 o, nilV, nilV, .int .i64 f, .int .i64 0, u 51, .int .i64 0]) : JF bs i o f B q (upd d 12) (updv (some 52) u v) w :=
  ⟨h.le, h.a, h.al, fun _ => ⟨h11, hv⟩⟩
theorem JF.make (h : JF bs i o f B q d u w) (e : TypeId) : JF bs i o f B q (upd d 13) (updv (some 8) u (.pointer (some ⟨w.heap.size, 0, none⟩))) (w.alloc (.cells zL e)) := by
  have hE := ext_alloc w (.cells zL e)
  refine ⟨Nat.le_trans h.le hE.size, fun h1 => ?_, fun _ => ⟨w.heap.size, rfl, BoxC.box (cs := zL.toList) w e (fun q => by cases q), h.le⟩, h.bd⟩
  obtain ⟨g, M, k1, k2, k3, k4, k5, k6, _⟩ := h.a h1
  refine ⟨g, M, k1, k2, k3.ext hE, fun y hy => stab_okB _ _ _ _ _ (k4 y hy) fun b hb hl => ⟨⟨hb.1, fun D _ h2 e => ?_⟩, hE.block b hl⟩, k5, Nat.lt_of_lt_of_le k6 hE.size, fun D _ h2 e => ?_⟩
  · have h2 : (Value.pointer (some ⟨w.heap.size, 0, none⟩)) = .pointer (some ⟨D, 0, none⟩) := h2
    injection h2 with h2
    injection h2 with h2
    injection h2 with h2
    omega
  · have h2 : (Value.pointer (some ⟨w.heap.size, 0, none⟩)) = .pointer (some ⟨D, 0, none⟩) := h2
    injection h2 with h2
    injection h2 with h2
    injection h2 with h2
    omega
end
end Go.Proofs.Bl
namespace Go.Proofs.YtglenbikdahgjaaDoor
open Go Go.RowKit Go.Proofs

theorem buildGive (i o f : Int) (q1 : Option Addr) (n1 c1 : Nat) (w : World) : (Instr.build 26 #[(0, .int .i64 6), (1, .int .i64 i), (2, .int .i64 o), (5, .int .i64 f), (7, .slice q1 n1 c1)]).run Tryd.prog w = .ok (.agg #[.int .i64 6, .int .i64 i, .int .i64 o, .slice none 0 0, .slice none 0 0, .int .i64 f, .int .i64 0, .slice q1 n1 c1, .int .i64 0]) w := run_build w _ _ _ (by kernel_rfl)

set_option maxRecDepth 100000 in
set_option maxHeartbeats 8000000 in
theorem sfet_none (b : Nat) (N Q : Nat → Prop) (s : Bl.ShT) (v : Value) (l : Bl.LT) (w : World) (S : List Nat) (a : Nat → Addr) (hS : Bl.SvX N Q w b s) (hok : Bl.ShOk s) (hL : Bl.LtV w v l) (hc : Bl.chkL l = 0) (hk : l.kind = 5) (he : Errs S a w) (s1 : 1 ∈ S) (s3 : 3 ∈ S) (s4 : 4 ∈ S) (s7 : 7 ∈ S) (s8 : 8 ∈ S) (ha : Bl.getO s l.obj = none) :
    Calls Tryd.prog 22 #[.pointer (some ⟨b, 0, none⟩), v] w fun e w' => Bl.LtN w (Bl.fetL s l) e w' := by
  have HL := Bl.hid hL
  obtain ⟨cs0, vp, vs, vb, L, rfl, hcc⟩ := hL
  obtain rfl := hcc.eq
  obtain ⟨m, sb, mp, hR⟩ := hS
  have hgm := hR.none ha
  have Hrf : Hid (Bl.fetL s l = Bl.refL l 11) := Bl.hid (by unfold Bl.fetL; rw [ha]; rfl)
  obtain ⟨W1, hW1⟩ : ∃ W1, W1 = (w.alloc (.cells (Bl.cL l vp vs vb).toArray 26)).alloc (.cells Bl.zL 26) := ⟨_, rfl⟩
  have hE1 : Bl.Ext w W1 := by rw [hW1]; exact (Bl.ext_alloc _ _).trans (Bl.ext_alloc _ _)
  have hsz1 : W1.heap.size = w.heap.size + 1 + 1 := by rw [hW1, World.size_alloc, World.size_alloc]
  have hBl : Bl.BoxC W1 w.heap.size (Bl.cL l vp vs vb) := by rw [hW1]; exact (Bl.BoxC.box w 26 (Bl.cL_ne _ _ _ _)).ext (Bl.ext_alloc _ _)
  have hBr : Bl.BoxC W1 (w.heap.size + 1) Bl.zL.toList := by rw [hW1]; exact Bl.box2 w _ Bl.zL.toList _ _ (fun h => by cases h)
  obtain ⟨R0, hR0⟩ : ∃ R0, R0 = w.heap.size + 1 := ⟨_, rfl⟩
  obtain ⟨P0, hP0⟩ : ∃ P0, P0 = w.heap.size := ⟨_, rfl⟩
  rw [← hR0] at hBr
  rw [← hP0] at hBl
  have HE1 := Bl.hid hE1
  have HBl := Bl.hid hBl
  have HBr := Bl.hid hBr
  have HPR : Hid (P0 = w.heap.size ∧ R0 = w.heap.size + 1 ∧ W1.heap.size = w.heap.size + 1 + 1) := Bl.hid ⟨hP0, hR0, hsz1⟩
  have hR1 := hR.ext hE1
  have hb0 := hR1.bx.cell (i := 0) (v := .map (some m)) rfl
  have hbl0 := hR1.bx.lt
  have hx2 := HBl.out.cell (i := 2) (v := .int .i64 l.obj) rfl
  have hxl := HBl.out.lt
  have Hlk : Hid (∀ w2, Bl.Ext W1 w2 → (Instr.lookup 56 (.map (some m)) (.int .i64 l.obj) true).run Tryd.prog w2 = .ok (.tuple #[.slice none 0 0, .bool false]) w2) := Bl.hid fun w2 h2 => by
    have hz : (zeroValue 24).run Tryd.prog w2 = .ok (.slice none 0 0) w2 := by first | rfl | kernel_rfl | (simp [go_sem]; done)
    have h := (hR1.mt.ext h2).lookup (P := Tryd.prog) Tryd.underlying56 Tryd.underlying3 hz l.obj
    rw [hgm] at h
    exact h
  have HG := Bl.hid (And.intro he (And.intro s1 (And.intro s3 (And.intro s4 (And.intro s7 s8)))))
  obtain ⟨oj, hoj⟩ : ∃ oj, oj = l.obj := ⟨_, rfl⟩
  rw [← hoj] at Hlk hx2
  unfold Bl.cL at hW1
  clear hcc hR hgm hok hc hk he ha hE1 hBl hBr hR1 hsz1 hR0 hP0 hoj
  show Calls Tryd.prog 22 #[.pointer (some ⟨b, 0, none⟩), .agg #[.int .i64 l.kind, .int .i64 l.id, .int .i64 l.obj, vp, vs, .int .i64 l.frm, .int .i64 l.cnt, vb, .int .i64 l.code]] w _
  go_enter Tryd.func22, Tryd.ntmps22
  go_wp2_with fail
  rw [← hW1]
  rw [show w.heap.size + 1 = R0 from HPR.out.2.1.symm, show w.heap.size = P0 from HPR.out.1.symm]
  clear hW1
  apply Bl.wp_region_evK (Bl.Ext) (fun _ _ _ => True) 12 [10, 11, 12, 13, 14, 15, 16, 9, 17, 18, 5, 6] [Bl.eqv _, Bl.eqv _, Bl.eqv _, Bl.eqv _, Bl.eqv _, Bl.eqv _, Bl.eqv _, Bl.eqv _, Bl.eqv _, Bl.eqv _, Bl.eqv _, Bl.eqv _] (fun w => Below.refl _ w) (fun a b c h k => Bl.Ext.trans h k) (by kernel_rfl) (by kernel_rfl) (by kernel_rfl) (by kernel_rfl)
  case hsteps =>
    refine ⟨?_, ?_, ?_, ?_, ?_, ?_, ?_, ?_, ?_, ?_, ?_, ?_, trivial⟩
    all_goals
      intro d ev w1 hext HJd Hanc Hdes hni hb hd
      replace Hanc := Bl.hid Hanc
      replace HJd := Bl.hid HJd
      replace Hdes := Bl.hid Hdes
      replace hni := Bl.hid hni
      have e0 := hb 0 (by decide)
      have e3 := hb 3 (by decide)
      clear hb
      simp only [Array.getD_eq_getD_getElem?, List.getElem?_toArray, List.getElem?_cons_succ, List.getElem?_cons_zero, Option.getD_some] at e0 e3
      simp only [Bl.DepsE2, List.getElem?_cons_succ, List.getElem?_cons_zero, Option.bind_some, List.getD_cons_succ, List.getD_cons_zero, Bl.eqv, and_true] at hd
      have hc := (Bl.bcell hext).1
      have c0 := (hc _ 0 hbl0).trans hb0
      have c2 := (hc _ 2 hxl).trans hx2
      have lk := Hlk.out _ hext
      simp only [Region.wanted, if_true]
      go_simp
      first | exact ⟨Below.refl _ _, rfl, trivial⟩ | exact ⟨Below.refl _ _, rfl⟩ | exact Below.refl _ _
  case hmono => exact ⟨Bl.monoR_eqv _, Bl.monoR_eqv _, Bl.monoR_eqv _, Bl.monoR_eqv _, Bl.monoR_eqv _, Bl.monoR_eqv _, Bl.monoR_eqv _, Bl.monoR_eqv _, Bl.monoR_eqv _, Bl.monoR_eqv _, Bl.monoR_eqv _, Bl.monoR_eqv _, trivial⟩
  case hR0 => exact (Below.refl _ _).drew
  case hend =>
    intro u w1 hext hJ hend
    simp only [Bl.EndE, List.getElem?_cons_succ, List.getElem?_cons_zero, Option.bind_some, List.getD_cons_succ, List.getD_cons_zero, Bl.eqv, true_and] at hend
    simp only [Bl.fillAct, List.setIfInBounds_toArray, List.set_cons_succ, List.set_cons_zero, List.drop_succ_cons, List.drop_zero, hend]
    have HE2 : Hid (Bl.Ext w w1) := Bl.hid (HE1.out.trans hext)
    have HBl2 := Bl.hid (HBl.out.ext hext)
    have HBr2 := Bl.hid (HBr.out.ext hext)
    obtain ⟨W2, hW2⟩ : ∃ W, W = w1 := ⟨_, rfl⟩
    rw [← hW2] at HE2 HBl2 HBr2 ⊢
    have HW2 : Hid (w.heap.size + 2 ≤ W2.heap.size) := Bl.hid (by rw [hW2]; have := hext.size; have := HPR.out; omega)
    clear hext hend hJ hb0 hbl0 hx2 hxl HBl HBr Hlk hW2
    have Hll9 := Bl.hid (HBl2.out.load (P := Tryd.prog) Tryd.underlying26 rfl (by kernel_rfl))
    go_wp2_with (with_reducible refine Bl.stop_load (ty := 26) ?_)
    refine Bl.go_on ?_
    refine Bl.wpL_load rfl Hll9.out ?_
    go_wp2_with fail
    refine (refusal_any _ l 11 W2 (HL.out.ext HE2.out)).mono ?_
    rintro e w9 ⟨rfl, hE9⟩
    have HE9 := Bl.hid hE9
    have HBr9 := Bl.hid (HBr2.out.ext hE9)
    clear hE9
    have Hst9 := Bl.hid (HBr9.out.store (P := Tryd.prog) (cs' := Bl.cL (Bl.refL l 11) Bl.nilV Bl.nilV Bl.nilV) rfl (Bl.cL_one ⟨_, _, _, rfl⟩ ⟨_, _, _, rfl⟩ ⟨_, _, _, rfl⟩) (ty := 26) (by kernel_rfl))
    have HBra := Bl.hid (HBr9.out.set (cs' := Bl.cL (Bl.refL l 11) Bl.nilV Bl.nilV Bl.nilV) rfl)
    go_wp2_with (with_reducible refine Bl.stop_store (ty := 26) ?_)
    refine Bl.go_on ?_
    refine Bl.wpL_store0 rfl rfl Hst9.out ?_
    go_wp2_with fail
    refine bodyPost_ret (v := .agg (Bl.cL (Bl.refL l 11) Bl.nilV Bl.nilV Bl.nilV).toArray) (Bl.results_cell rfl rfl (HBra.out.loadVar (P := Tryd.prog) Tryd.underlying26 rfl (by kernel_rfl))) rfl ?_
    rw [Hrf.out]
    exact ⟨_, _, _, _, rfl, Bl.LtF.nil _ _ _ _ _ _ _ _, Bl.below_setCells _ _ _ _ (HE2.out.trans HE9.out) (by have := HPR.out; omega)⟩
  case hJ0 => trivial

set_option maxRecDepth 100000 in
set_option maxHeartbeats 8000000 in
theorem sfet_some (b : Nat) (N Q : Nat → Prop) (s : Bl.ShT) (v : Value) (l : Bl.LT) (w : World) (S : List Nat) (a : Nat → Addr) (hS : Bl.SvX N Q w b s) (hok : Bl.ShOk s) (hL : Bl.LtV w v l) (hc : Bl.chkL l = 0) (hk : l.kind = 5) (he : Errs S a w) (s1 : 1 ∈ S) (s3 : 3 ∈ S) (s4 : 4 ∈ S) (s7 : 7 ∈ S) (s8 : 8 ∈ S) (all : List (List Int)) (ha : Bl.getO s l.obj = some all) :
    Calls Tryd.prog 22 #[.pointer (some ⟨b, 0, none⟩), v] w fun e w' => Bl.LtN w (Bl.fetL s l) e w' := by
  have HL := Bl.hid hL
  obtain ⟨cs0, vp, vs, vb, L, rfl, hcc⟩ := hL
  obtain rfl := hcc.eq
  obtain ⟨m, sb, mp, hR⟩ := hS
  obtain ⟨v0, hgm, hrow⟩ := hR.some ha
  obtain ⟨ho1, ho2, ho3⟩ := hok.get ha
  obtain ⟨⟨hn1, hn2⟩, hn3, hn4⟩ := Bl.fet_nm hc hk
  obtain ⟨bl, cb0, _, _, hv0, hnc, hcm, hbl, _, _⟩ := hrow.el (i := 0) (by omega)
  subst hv0
  obtain ⟨n, hn⟩ : ∃ n, n = all.length := ⟨_, rfl⟩
  have Hall := Bl.hid (And.intro hn ho3)
  have Hrow := Bl.hid hrow.rdss
  have Hbl := Bl.hid hbl
  have HfR : Hid ((n : Int) ≤ l.frm → Bl.fetL s l = Bl.refL l 1) := Bl.hid fun q => by
    unfold Bl.fetL; rw [ha]; simp only; rw [if_pos (by rw [← hn]; exact q)]; rfl
  have HfL : Hid (¬ (n : Int) ≤ l.frm → Bl.chkL (Bl.givL l all) = 0 → Bl.fetL s l = Bl.givL l all) := Bl.hid fun q q2 => by
    unfold Bl.fetL; rw [ha]; simp only; rw [if_neg (by rw [← hn]; exact q), if_pos q2]
  have HfT : Hid (¬ (n : Int) ≤ l.frm → ¬ Bl.chkL (Bl.givL l all) = 0 → Bl.fetL s l = Bl.refL l 3) := Bl.hid fun q q2 => by
    unfold Bl.fetL; rw [ha]; simp only; rw [if_neg (by rw [← hn]; exact q), if_neg q2]; rfl
  rw [← hn] at hnc ho1 ho2
  have Hn : Hid (1 ≤ n ∧ n ≤ 512 ∧ n ≤ cb0 ∧ cb0 ≤ maxLen) := Bl.hid (by omega)
  obtain ⟨W1, hW1⟩ : ∃ W1, W1 = (w.alloc (.cells (Bl.cL l vp vs vb).toArray 26)).alloc (.cells Bl.zL 26) := ⟨_, rfl⟩
  have hE1 : Bl.Ext w W1 := by rw [hW1]; exact (Bl.ext_alloc _ _).trans (Bl.ext_alloc _ _)
  have hsz1 : W1.heap.size = w.heap.size + 1 + 1 := by rw [hW1, World.size_alloc, World.size_alloc]
  have hBl : Bl.BoxC W1 w.heap.size (Bl.cL l vp vs vb) := by rw [hW1]; exact (Bl.BoxC.box w 26 (Bl.cL_ne _ _ _ _)).ext (Bl.ext_alloc _ _)
  have hBr : Bl.BoxC W1 (w.heap.size + 1) Bl.zL.toList := by rw [hW1]; exact Bl.box2 w _ Bl.zL.toList _ _ (fun h => by cases h)
  obtain ⟨R0, hR0⟩ : ∃ R0, R0 = w.heap.size + 1 := ⟨_, rfl⟩
  obtain ⟨P0, hP0⟩ : ∃ P0, P0 = w.heap.size := ⟨_, rfl⟩
  rw [← hR0] at hBr
  rw [← hP0] at hBl
  have HE1 := Bl.hid hE1
  have HBl := Bl.hid hBl
  have HBr := Bl.hid hBr
  have HPR : Hid (P0 = w.heap.size ∧ R0 = w.heap.size + 1 ∧ W1.heap.size = w.heap.size + 1 + 1) := Bl.hid ⟨hP0, hR0, hsz1⟩
  have hR1 := hR.ext hE1
  have hb0 := hR1.bx.cell (i := 0) (v := .map (some m)) rfl
  have hbl0 := hR1.bx.lt
  have hx2 := HBl.out.cell (i := 2) (v := .int .i64 l.obj) rfl
  have hxl := HBl.out.lt
  have Hlk : Hid (∀ w2, Bl.Ext W1 w2 → (Instr.lookup 56 (.map (some m)) (.int .i64 l.obj) true).run Tryd.prog w2 = .ok (.tuple #[.slice (some ⟨bl, 0, none⟩) n cb0, .bool true]) w2) := Bl.hid fun w2 h2 => by
    have hz : (zeroValue 24).run Tryd.prog w2 = .ok (.slice none 0 0) w2 := by first | rfl | kernel_rfl | (simp [go_sem]; done)
    have h := (hR1.mt.ext h2).lookup (P := Tryd.prog) Tryd.underlying56 Tryd.underlying3 hz l.obj
    rw [hgm, ← hn] at h
    exact h
  have HG := Bl.hid (And.intro he (And.intro s1 (And.intro s3 (And.intro s4 (And.intro s7 s8)))))
  obtain ⟨oj, hoj⟩ : ∃ oj, oj = l.obj := ⟨_, rfl⟩
  rw [← hoj] at Hlk hx2
  unfold Bl.cL at hW1
  clear hcc hR hgm hok hc hk he ha hE1 hBl hBr hR1 hsz1 hR0 hP0 hoj hrow ho1 ho2 ho3 hbl hn hnc hcm
  show Calls Tryd.prog 22 #[.pointer (some ⟨b, 0, none⟩), .agg #[.int .i64 l.kind, .int .i64 l.id, .int .i64 l.obj, vp, vs, .int .i64 l.frm, .int .i64 l.cnt, vb, .int .i64 l.code]] w _
  go_enter Tryd.func22, Tryd.ntmps22
  go_wp2_with fail
  rw [← hW1]
  rw [show w.heap.size + 1 = R0 from HPR.out.2.1.symm, show w.heap.size = P0 from HPR.out.1.symm]
  clear hW1
  apply Bl.wp_region_evK (Bl.Ext) (fun _ _ _ => True) 12 [10, 11, 12, 13, 14, 15, 16, 9, 17, 18, 5, 6] [Bl.eqv _, Bl.eqv _, Bl.eqv _, Bl.eqv _, Bl.eqv _, Bl.eqv _, Bl.eqv _, Bl.eqv _, Bl.eqv _, Bl.eqv _, Bl.eqv _, Bl.eqv _] (fun w => Below.refl _ w) (fun a b c h k => Bl.Ext.trans h k) (by kernel_rfl) (by kernel_rfl) (by kernel_rfl) (by kernel_rfl)
  case hsteps =>
    refine ⟨?_, ?_, ?_, ?_, ?_, ?_, ?_, ?_, ?_, ?_, ?_, ?_, trivial⟩
    all_goals
      intro d ev w1 hext HJd Hanc Hdes hni hb hd
      replace Hanc := Bl.hid Hanc
      replace HJd := Bl.hid HJd
      replace Hdes := Bl.hid Hdes
      replace hni := Bl.hid hni
      have e0 := hb 0 (by decide)
      have e3 := hb 3 (by decide)
      clear hb
      simp only [Array.getD_eq_getD_getElem?, List.getElem?_toArray, List.getElem?_cons_succ, List.getElem?_cons_zero, Option.getD_some] at e0 e3
      simp only [Bl.DepsE2, List.getElem?_cons_succ, List.getElem?_cons_zero, Option.bind_some, List.getD_cons_succ, List.getD_cons_zero, Bl.eqv, and_true] at hd
      have hc := (Bl.bcell hext).1
      have c0 := (hc _ 0 hbl0).trans hb0
      have c2 := (hc _ 2 hxl).trans hx2
      have lk := Hlk.out _ hext
      simp only [Region.wanted, if_true]
      go_simp
      first | exact ⟨Below.refl _ _, rfl, trivial⟩ | exact ⟨Below.refl _ _, rfl⟩ | exact Below.refl _ _
  case hmono => exact ⟨Bl.monoR_eqv _, Bl.monoR_eqv _, Bl.monoR_eqv _, Bl.monoR_eqv _, Bl.monoR_eqv _, Bl.monoR_eqv _, Bl.monoR_eqv _, Bl.monoR_eqv _, Bl.monoR_eqv _, Bl.monoR_eqv _, Bl.monoR_eqv _, Bl.monoR_eqv _, trivial⟩
  case hR0 => exact (Below.refl _ _).drew
  case hend =>
    intro u w1 hext hJ hend
    simp only [Bl.EndE, List.getElem?_cons_succ, List.getElem?_cons_zero, Option.bind_some, List.getD_cons_succ, List.getD_cons_zero, Bl.eqv, true_and] at hend
    simp only [Bl.fillAct, List.setIfInBounds_toArray, List.set_cons_succ, List.set_cons_zero, List.drop_succ_cons, List.drop_zero, hend]
    have HE2 : Hid (Bl.Ext w w1) := Bl.hid (HE1.out.trans hext)
    have HBl2 := Bl.hid (HBl.out.ext hext)
    have HBr2 := Bl.hid (HBr.out.ext hext)
    obtain ⟨W2, hW2⟩ : ∃ W, W = w1 := ⟨_, rfl⟩
    rw [← hW2] at HE2 HBl2 HBr2 ⊢
    have HW2 : Hid (w.heap.size + 2 ≤ W2.heap.size) := Bl.hid (by rw [hW2]; have := hext.size; have := HPR.out; omega)
    clear hext hend hJ hb0 hbl0 hx2 hxl HBl HBr Hlk hW2
    have hx5 := HBl2.out.cell (i := 5) (v := .int .i64 l.frm) rfl
    have hx6 := HBl2.out.cell (i := 6) (v := .int .i64 l.cnt) rfl
    by_cases hfn : (n : Int) ≤ l.frm
    · have Hrf := Bl.hid (HfR.out hfn)
      have Hll9 := Bl.hid (HBl2.out.load (P := Tryd.prog) Tryd.underlying26 rfl (by kernel_rfl))
      go_wp2_with (with_reducible refine Bl.stop_load (ty := 26) ?_)
      refine Bl.go_on ?_
      refine Bl.wpL_load rfl Hll9.out ?_
      go_wp2_with fail
      refine (refusal_any _ l 1 W2 (HL.out.ext HE2.out)).mono ?_
      rintro e w9 ⟨rfl, hE9⟩
      have HE9 := Bl.hid hE9
      have HBr9 := Bl.hid (HBr2.out.ext hE9)
      clear hE9
      have Hst9 := Bl.hid (HBr9.out.store (P := Tryd.prog) (cs' := Bl.cL (Bl.refL l 1) Bl.nilV Bl.nilV Bl.nilV) rfl (Bl.cL_one ⟨_, _, _, rfl⟩ ⟨_, _, _, rfl⟩ ⟨_, _, _, rfl⟩) (ty := 26) (by kernel_rfl))
      have HBra := Bl.hid (HBr9.out.set (cs' := Bl.cL (Bl.refL l 1) Bl.nilV Bl.nilV Bl.nilV) rfl)
      go_wp2_with (with_reducible refine Bl.stop_store (ty := 26) ?_)
      refine Bl.go_on ?_
      refine Bl.wpL_store0 rfl rfl Hst9.out ?_
      go_wp2_with fail
      refine bodyPost_ret (v := .agg (Bl.cL (Bl.refL l 1) Bl.nilV Bl.nilV Bl.nilV).toArray) (Bl.results_cell rfl rfl (HBra.out.loadVar (P := Tryd.prog) Tryd.underlying26 rfl (by kernel_rfl))) rfl ?_
      rw [Hrf.out]
      exact ⟨_, _, _, _, rfl, Bl.LtF.nil _ _ _ _ _ _ _ _, Bl.below_setCells _ _ _ _ (HE2.out.trans HE9.out) (by have := HPR.out; omega)⟩
    · obtain ⟨f, hf⟩ := Int.eq_ofNat_of_zero_le hn3
      obtain ⟨ct, hct⟩ := Int.eq_ofNat_of_zero_le (show 0 ≤ l.cnt by omega)
      have HL' := Bl.hid (HfL.out (by omega))
      have HT' := Bl.hid (HfT.out (by omega))
      obtain ⟨bs, hbs⟩ : ∃ bs, bs = (all.drop f).take ct := ⟨_, rfl⟩
      have hgl : Bl.givL l all = ⟨6, l.id, l.obj, [], [], f, 0, bs, 0⟩ := by
        unfold Bl.givL; rw [hbs, hf, hct, Int.toNat_natCast, Int.toNat_natCast]
      rw [hgl] at HL' HT'
      obtain ⟨en, hen⟩ : ∃ en : Nat, en = min (f + ct) n := ⟨_, rfl⟩
      have hmin : min ((f : Int) + (ct : Int)) (n : Int) = (en : Int) := by omega
      have hfn2 : f < n := by omega
      have hq : bs.length = en - f := by
        rw [hbs, List.length_take, List.length_drop, ← Hall.out.1]; omega
      have hfe : f < en := by omega
      have hrs : Bl.Rdss w (.slice (some ⟨bl, f, none⟩) (en - f) (cb0 - f)) bs := by
        have h1 := Bl.Rdss.drop Hrow.out f (by rw [← Hall.out.1]; exact hfn2)
        have h2 := Bl.Rdss.take h1 (en - f) (by rw [List.length_drop, ← Hall.out.1]; omega)
        rw [Nat.zero_add] at h2
        have e : (all.drop f).take (en - f) = bs := by
          rw [hbs, hen]
          by_cases q : f + ct ≤ n
          · rw [Nat.min_eq_left q, show f + ct - f = ct by omega]
          · rw [Nat.min_eq_right (by omega), List.take_of_length_le (by rw [List.length_drop, ← Hall.out.1]; omega), List.take_of_length_le (by rw [List.length_drop, ← Hall.out.1]; omega)]
        rw [e] at h2
        exact h2
      have hbm : ∀ x ∈ bs, x.length = 16 ∧ Bl.Byt x := fun x hx => Hall.out.2 x (List.mem_of_mem_drop (List.mem_of_mem_take (by rw [hbs] at hx; exact hx)))
      have Hbs := Bl.hid (And.intro hq (And.intro hrs hbm))
      rw [hf] at hx5 hfn hn3 hn4
      rw [hct] at hx6 hn1 hn2
      have hx1 := HBl2.out.cell (i := 1) (v := .int .i64 l.id) rfl
      have hx2 := HBl2.out.cell (i := 2) (v := .int .i64 l.obj) rfl
      have hxl := HBl2.out.lt
      have hfn3 : ¬ (n : Int) ≤ (f : Int) := by omega
      have hfi : (f : Int) ≤ (en : Int) := by omega
      have hei : (en : Int) ≤ (cb0 : Int) := by have := Hn.out; omega
      have hcb := Hn.out.2.2.2
      have hcf : ¬ (cb0 = f) := by have := Hn.out; omega
      have hn512 := Hn.out.2.1
      have HAp : Hid (∀ w2, Bl.Kq (fun _ => False) W2 w2 → Calls Tryd.prog 33 #[.slice (some ⟨bl, f, none⟩) (en - f) (cb0 - f)] w2 fun e w' => ApR bs w2 e w') := Bl.hid fun w2 hk => sapart_any _ bs w2 (Hbs.out.2.1.ext (HE2.out.trans (hk.ext fun _ q => q.elim))) (fun x hx => (Hbs.out.2.2 x hx).2) (by rw [Hbs.out.1]; have := Hn.out; omega) (fun x hx => by have := (Hbs.out.2.2 x hx).1; omega)
      have Hq2 : Hid (∀ w2, Bl.Kq (fun _ => False) W2 w2 → w2.cell? ⟨P0, 1, none⟩ = some (.int .i64 l.id) ∧ w2.cell? ⟨P0, 2, none⟩ = some (.int .i64 l.obj) ∧ w2.cell? ⟨P0, 5, none⟩ = some (.int .i64 f)) := Bl.hid fun w2 hk => ⟨hk.cell (fun q => q) hx1, hk.cell (fun q => q) hx2, hk.cell (fun q => q) hx5⟩
      have HLt : Hid (f < en ∧ f < n) := Bl.hid ⟨hfe, hfn2⟩
      obtain ⟨q, hqq⟩ : ∃ q, q = en - f := ⟨_, rfl⟩
      have Hqq := Bl.hid hqq
      unfold maxLen at hcb
      clear hbs hgl hen hfn2 hq hrs hbm hfe hf hct hqq hx1 hx2
      go_wp2_with fail
      clear hx5 hx6
      apply Bl.wp_region_evK (Bl.Kq (fun _ => False)) (Bl.JF bs l.id l.obj (f : Int) W2.heap.size q) 14 [40, 41, 42, 43, 44, 45, 46, 47, 48, 49, 50, 51, 52, 8] [Bl.eqv _, Bl.eqv _, Bl.eqv _, Bl.eqv _, Bl.eqv _, Bl.eqv _, Bl.eqv _, Bl.eqv _, Bl.eqv _, Bl.eqv _, Bl.eqv _, Bl.anyv, Bl.anyv, Bl.anyv] (fun w => Bl.Kq.refl w) (fun a b c h k => Bl.Kq.trans h k) (by kernel_rfl) (by kernel_rfl) (by kernel_rfl) (by kernel_rfl)
      case hsteps =>
        refine ⟨?_, ?_, ?_, ?_, ?_, ?_, ?_, ?_, ?_, ?_, ?_, ?_, ?_, ?_, trivial⟩
        all_goals
          intro d ev w1 hext HJd Hanc Hdes hni hb hd
          replace Hanc := Bl.hid Hanc
          replace HJd := Bl.hid HJd
          replace Hdes := Bl.hid Hdes
          replace hni := Bl.hid hni
          have e3 := hb 3 (by decide)
          have e5 := hb 5 (by decide)
          have e7 := hb 7 (by decide)
          clear hb
          simp only [Array.getD_eq_getD_getElem?, List.getElem?_toArray, List.getElem?_cons_succ, List.getElem?_cons_zero, Option.getD_some] at e3 e5 e7
          simp only [Bl.DepsE2, List.getElem?_cons_succ, List.getElem?_cons_zero, Option.bind_some, List.getD_cons_succ, List.getD_cons_zero, Bl.eqv, and_true] at hd
          have q3 := Hq2.out _ hext
          have c1 := q3.1
          have c2 := q3.2.1
          have c5 := q3.2.2
          clear q3
          rw [if_pos (rfl : Region.wanted _ _ = true)]
          first
          | (have h1 := HJd.out.a (Hanc.out 11 (by kernel_rfl)); obtain ⟨g9, M9, hb9, _⟩ := h1; (with_reducible refine Bl.goodX_bld5 ?_ ?_ ?_ ?_ ?_ (buildGive l.id l.obj (f : Int) (some ⟨g9, 0, none⟩) q q w1) ?_); exact fun w => Bl.Kq.refl w; exact (by first | exact hd | exact hd.2 | exact hd.1.2 | exact hd.1.1.2 | exact hd.1.1.1.2 | exact hd.1.1.1.1.2 | exact hd.1.1.1.1.1.2 | exact hd.1.1.1.1.1.1.2 | exact hd.1.1.1.1.1.1.1.2 | exact hd.1.1.1.1.1.1.1.1.2 | exact hd.1.1.1.1.1.1.1.1.1.2 | exact hd.1.1.1.1.1.1.1.1.1.1.2 | exact hd.1.1.1.1.1.1.1.1.1.1.1.2 | exact hd.1.1.1.1.1.1.1.1.1.1.1.1.2 | exact hd.1.1.1.1.1.1.1.1.1.1.1.1.1.2 | exact hd.1 | exact hd.1.1 | exact hd.1.1.1 | exact hd.1.1.1.1 | exact hd.1.1.1.1.1 | exact hd.1.1.1.1.1.1 | exact hd.1.1.1.1.1.1.1 | exact hd.1.1.1.1.1.1.1.1 | exact hd.1.1.1.1.1.1.1.1.1 | exact hd.1.1.1.1.1.1.1.1.1.1 | exact hd.1.1.1.1.1.1.1.1.1.1.1 | exact hd.1.1.1.1.1.1.1.1.1.1.1.1 | exact hd.1.1.1.1.1.1.1.1.1.1.1.1.1 | exact hd.2.1 | exact hd.2.2.1 | exact hd.2.2.2.1 | exact hd.2.2.2.2.1 | exact hd.2.2.2.2.2.1 | exact hd.2.2.2.2.2.2.1 | exact hd.2.2.2.2.2.2.2.1 | exact hd.2.2.2.2.2.2.2.2.1 | exact hd.2.2.2.2.2.2.2.2.2.1 | exact hd.2.2.2.2.2.2.2.2.2.2.1 | exact hd.2.2.2.2.2.2.2.2.2.2.2.1 | exact hd.2.2.2.2.2.2.2.2.2.2.2.2.1 | exact hd.2.2.2.2.2.2.2.2.2.2.2.2.2.1 | exact hd.2.2 | exact hd.2.2.2 | exact hd.2.2.2.2 | exact hd.2.2.2.2.2 | exact hd.2.2.2.2.2.2 | exact hd.2.2.2.2.2.2.2 | exact hd.2.2.2.2.2.2.2.2); exact (by first | exact hd | exact hd.2 | exact hd.1.2 | exact hd.1.1.2 | exact hd.1.1.1.2 | exact hd.1.1.1.1.2 | exact hd.1.1.1.1.1.2 | exact hd.1.1.1.1.1.1.2 | exact hd.1.1.1.1.1.1.1.2 | exact hd.1.1.1.1.1.1.1.1.2 | exact hd.1.1.1.1.1.1.1.1.1.2 | exact hd.1.1.1.1.1.1.1.1.1.1.2 | exact hd.1.1.1.1.1.1.1.1.1.1.1.2 | exact hd.1.1.1.1.1.1.1.1.1.1.1.1.2 | exact hd.1.1.1.1.1.1.1.1.1.1.1.1.1.2 | exact hd.1 | exact hd.1.1 | exact hd.1.1.1 | exact hd.1.1.1.1 | exact hd.1.1.1.1.1 | exact hd.1.1.1.1.1.1 | exact hd.1.1.1.1.1.1.1 | exact hd.1.1.1.1.1.1.1.1 | exact hd.1.1.1.1.1.1.1.1.1 | exact hd.1.1.1.1.1.1.1.1.1.1 | exact hd.1.1.1.1.1.1.1.1.1.1.1 | exact hd.1.1.1.1.1.1.1.1.1.1.1.1 | exact hd.1.1.1.1.1.1.1.1.1.1.1.1.1 | exact hd.2.1 | exact hd.2.2.1 | exact hd.2.2.2.1 | exact hd.2.2.2.2.1 | exact hd.2.2.2.2.2.1 | exact hd.2.2.2.2.2.2.1 | exact hd.2.2.2.2.2.2.2.1 | exact hd.2.2.2.2.2.2.2.2.1 | exact hd.2.2.2.2.2.2.2.2.2.1 | exact hd.2.2.2.2.2.2.2.2.2.2.1 | exact hd.2.2.2.2.2.2.2.2.2.2.2.1 | exact hd.2.2.2.2.2.2.2.2.2.2.2.2.1 | exact hd.2.2.2.2.2.2.2.2.2.2.2.2.2.1 | exact hd.2.2 | exact hd.2.2.2 | exact hd.2.2.2.2 | exact hd.2.2.2.2.2 | exact hd.2.2.2.2.2.2 | exact hd.2.2.2.2.2.2.2 | exact hd.2.2.2.2.2.2.2.2); exact (by first | exact hd | exact hd.2 | exact hd.1.2 | exact hd.1.1.2 | exact hd.1.1.1.2 | exact hd.1.1.1.1.2 | exact hd.1.1.1.1.1.2 | exact hd.1.1.1.1.1.1.2 | exact hd.1.1.1.1.1.1.1.2 | exact hd.1.1.1.1.1.1.1.1.2 | exact hd.1.1.1.1.1.1.1.1.1.2 | exact hd.1.1.1.1.1.1.1.1.1.1.2 | exact hd.1.1.1.1.1.1.1.1.1.1.1.2 | exact hd.1.1.1.1.1.1.1.1.1.1.1.1.2 | exact hd.1.1.1.1.1.1.1.1.1.1.1.1.1.2 | exact hd.1 | exact hd.1.1 | exact hd.1.1.1 | exact hd.1.1.1.1 | exact hd.1.1.1.1.1 | exact hd.1.1.1.1.1.1 | exact hd.1.1.1.1.1.1.1 | exact hd.1.1.1.1.1.1.1.1 | exact hd.1.1.1.1.1.1.1.1.1 | exact hd.1.1.1.1.1.1.1.1.1.1 | exact hd.1.1.1.1.1.1.1.1.1.1.1 | exact hd.1.1.1.1.1.1.1.1.1.1.1.1 | exact hd.1.1.1.1.1.1.1.1.1.1.1.1.1 | exact hd.2.1 | exact hd.2.2.1 | exact hd.2.2.2.1 | exact hd.2.2.2.2.1 | exact hd.2.2.2.2.2.1 | exact hd.2.2.2.2.2.2.1 | exact hd.2.2.2.2.2.2.2.1 | exact hd.2.2.2.2.2.2.2.2.1 | exact hd.2.2.2.2.2.2.2.2.2.1 | exact hd.2.2.2.2.2.2.2.2.2.2.1 | exact hd.2.2.2.2.2.2.2.2.2.2.2.1 | exact hd.2.2.2.2.2.2.2.2.2.2.2.2.1 | exact hd.2.2.2.2.2.2.2.2.2.2.2.2.2.1 | exact hd.2.2 | exact hd.2.2.2 | exact hd.2.2.2.2 | exact hd.2.2.2.2.2 | exact hd.2.2.2.2.2.2 | exact hd.2.2.2.2.2.2.2 | exact hd.2.2.2.2.2.2.2.2); exact hb9; exact ⟨trivial, HJd.out.bld (Hanc.out 11 (by kernel_rfl)) (by rw [hb9])⟩)
          | (go_simp; first | exact ⟨Bl.Kq.refl _, rfl, HJd.out.same (by decide)⟩ | (go_at_call 33; (with_reducible refine (HAp.out w1 hext).mono ?_); rintro e w2 ⟨M, rfl, k1, k2, k3, k4⟩; exact ⟨_, rfl, Bl.Kq.of_ext k4, trivial, HJd.out.call (Hdes.out 12 (by kernel_rfl)) (by rw [Hbs.out.1, Hqq.out]) k1 k2 k3 k4⟩) | exact ⟨Bl.Kq.of_ext (Bl.ext_alloc _ _), trivial, HJd.out.make _⟩ | exact ⟨Below.refl _ _, rfl, Bl.HJ.same (by decide) HJd.out⟩)
      case hmono => exact ⟨Bl.monoR_eqv _, Bl.monoR_eqv _, Bl.monoR_eqv _, Bl.monoR_eqv _, Bl.monoR_eqv _, Bl.monoR_eqv _, Bl.monoR_eqv _, Bl.monoR_eqv _, Bl.monoR_eqv _, Bl.monoR_eqv _, Bl.monoR_eqv _, Bl.monoR_anyv, Bl.monoR_anyv, Bl.monoR_anyv, trivial⟩
      case hR0 => exact Bl.Kq.drew _
      case hend =>
        intro u w1 hext hJ hend
        simp only [Bl.EndE, List.getElem?_cons_succ, List.getElem?_cons_zero, Option.bind_some, List.getD_cons_succ, List.getD_cons_zero, Bl.eqv, true_and] at hend
        simp only [Bl.fillAct, List.setIfInBounds_toArray, List.set_cons_succ, List.set_cons_zero, List.drop_succ_cons, List.drop_zero, hend]
        obtain ⟨D, hu8, hBD, hD⟩ := hJ.al rfl
        obtain ⟨_, hu52⟩ := hJ.bd rfl
        obtain ⟨g9, M, hu51, hg9, k1, k2, k3, k4, k5⟩ := hJ.a rfl
        rw [hu51] at hu52 k1
        have HE7 : Hid (Bl.Ext w w1) := Bl.hid (HE2.out.trans (hext.ext fun _ q => q.elim))
        have HBl7 := Bl.hid (HBl2.out.ext (hext.ext fun _ q => q.elim))
        have HBr7 := Bl.hid (HBr2.out.ext (hext.ext fun _ q => q.elim))
        have HP7 : Hid (Bl.Pk w1 g9 1 (.slice (some ⟨g9, 0, none⟩) q q) M.length (Bl.cellsR Bl.cB M) ∧ (∀ y ∈ M, Bl.OkB (fun k => g9 < k ∧ k ≠ D) w1 y) ∧ M.map (·.2) = bs ∧ g9 ≠ D ∧ W2.heap.size ≤ g9 ∧ W2.heap.size ≤ D) := Bl.hid ⟨k1, fun y hy => Bl.stab_okB _ _ _ _ _ (k2 y hy) fun j hj _ => ⟨⟨hj.1, hj.2 D rfl hu8⟩, rfl⟩, k3, k5 D rfl hu8, hg9, hD⟩
        have HBD := Bl.hid hBD
        simp only [hu8, hu52]
        clear hext hend hJ hu8 hu51 hu52 hBD hD hg9 k1 k2 k3 k4 k5 HAp Hq2 HBl2 HBr2
        have HstD := Bl.hid (HBD.out.store (P := Tryd.prog) (cs' := Bl.cL ⟨6, l.id, l.obj, [], [], f, 0, bs, 0⟩ Bl.nilV Bl.nilV (.slice (some ⟨g9, 0, none⟩) q q)) rfl (Bl.cL_one ⟨_, _, _, rfl⟩ ⟨_, _, _, rfl⟩ ⟨_, _, _, rfl⟩) (ty := 26) (by kernel_rfl))
        have HBD8 := Bl.hid (HBD.out.set (cs' := Bl.cL ⟨6, l.id, l.obj, [], [], f, 0, bs, 0⟩ Bl.nilV Bl.nilV (.slice (some ⟨g9, 0, none⟩) q q)) rfl)
        have HK8 : Hid (Bl.Kq (fun k => k = D) w1 (w1.setCells D 0 (Bl.cL ⟨6, l.id, l.obj, [], [], f, 0, bs, 0⟩ Bl.nilV Bl.nilV (.slice (some ⟨g9, 0, none⟩) q q)))) := Bl.hid ((Bl.Kq.refl w1).setCells (Q := fun k => k = D) rfl 0 _)
        go_wp2_with (with_reducible refine Bl.stop_store (ty := 26) ?_)
        refine Bl.go_on ?_
        refine Bl.wpL_store0 rfl rfl HstD.out ?_
        obtain ⟨w8, hw8⟩ : ∃ W, W = w1.setCells D 0 (Bl.cL ⟨6, l.id, l.obj, [], [], f, 0, bs, 0⟩ Bl.nilV Bl.nilV (.slice (some ⟨g9, 0, none⟩) q q)) := ⟨_, rfl⟩
        rw [← hw8] at HBD8 HK8 ⊢
        have hX : ∀ X, X < W2.heap.size → X ≠ D := fun X h1 q => by have := HP7.out.2.2.2.2.2; omega
        have HE8 : Hid (Bl.Ext w w8) := Bl.hid (HE7.out.trans' (N := w.heap.size) (HK8.out.mono fun j _ q => by have := HP7.out.2.2.2.2.2; have := HW2.out; omega) (Nat.le_refl _))
        have HBl8 := Bl.hid (HK8.out.box (hX P0 (by have := HPR.out; have := HW2.out; omega)) HBl7.out)
        have HBr8 := Bl.hid (HK8.out.box (hX R0 (by have := HPR.out; have := HW2.out; omega)) HBr7.out)
        have HLg : Hid (Bl.LtF (fun k => w.heap.size + 2 ≤ k) w8 ⟨6, l.id, l.obj, [], [], f, 0, bs, 0⟩ Bl.nilV Bl.nilV (.slice (some ⟨g9, 0, none⟩) q q) []) := Bl.hid ⟨Bl.RdsF.nil _, Bl.RdsF.nil _, fun x hx => (by cases hx), rfl, M, by
          have h := HP7.out.1.rds
          refine Bl.RdsF.of_rds (HK8.out.rds ?_ fun j hj r => ?_) fun j hj _ => ?_
          · have e : M.length = q := by
              have h1 := congrArg List.length HP7.out.2.2.1
              rw [List.length_map, Hbs.out.1, ← Hqq.out] at h1
              exact h1
            rw [e] at h ⊢
            exact h
          · have e : g9 = j := Option.some.inj hj
            exact HP7.out.2.2.2.1 (e.trans r)
          · have e : g9 = j := Option.some.inj hj
            have := HP7.out.2.2.2.2.1; have := HW2.out; omega, fun y hy => Bl.stab_okB _ _ _ _ _ (HP7.out.2.1 y hy) fun j hj hl => ⟨by have := HP7.out.2.2.2.2.1; have := HW2.out; have := hj.1; omega, HK8.out.block j hl hj.2⟩, HP7.out.2.2.1⟩
        have HLv : Hid (Bl.LtV w8 (.agg (Bl.cL ⟨6, l.id, l.obj, [], [], f, 0, bs, 0⟩ Bl.nilV Bl.nilV (.slice (some ⟨g9, 0, none⟩) q q)).toArray) ⟨6, l.id, l.obj, [], [], f, 0, bs, 0⟩) := Bl.hid ⟨_, _, _, _, _, rfl, HLg.out.ltc⟩
        have HldD := Bl.hid (HBD8.out.load (P := Tryd.prog) Tryd.underlying26 rfl (by kernel_rfl))
        clear hX hw8 HstD HK8 HBl7 HBr7 HE7 HBD HP7
        obtain ⟨gl, hgl⟩ : ∃ gl : Bl.LT, gl = ⟨6, l.id, l.obj, [], [], f, 0, bs, 0⟩ := ⟨_, rfl⟩
        rw [← hgl] at HLg HLv HldD HBD8 HL' HT'
        have HGL := Bl.hid hgl
        clear hgl
        go_wp2_with (with_reducible refine Bl.stop_load (ty := 26) ?_)
        refine Bl.go_on ?_
        refine Bl.wpL_load rfl HldD.out ?_
        go_wp2_with fail
        refine (lcheck_any _ gl w8 S a HLv.out (HG.out.1.ext HE8.out) HG.out.2.1 HG.out.2.2.1 HG.out.2.2.2.1 HG.out.2.2.2.2.1 HG.out.2.2.2.2.2).mono ?_
        rintro e w9 ⟨rfl, hE9⟩
        have HEa : Hid (Bl.Ext w w9) := Bl.hid (HE8.out.trans hE9)
        have HBl9 := Bl.hid (HBl8.out.ext hE9)
        have HBr9' := Bl.hid (HBr8.out.ext hE9)
        have HBD9 := Bl.hid (HBD8.out.ext hE9)
        have HLg9 : Hid (Bl.LtF (fun k => w.heap.size + 2 ≤ k) w9 gl Bl.nilV Bl.nilV (.slice (some ⟨g9, 0, none⟩) q q) []) := Bl.hid (HLg.out.kept fun j hj hl => ⟨hj, hE9.block j hl⟩)
        clear hE9 HldD HBl8 HBr8 HBD8 HLg HLv HE8
        by_cases hck : Bl.chkL gl = 0
        · have Hr := Bl.hid (HL'.out hck)
          rw [hck, errN_zero]
          have HldD := Bl.hid (HBD9.out.load (P := Tryd.prog) Tryd.underlying26 rfl (by kernel_rfl))
          have Hst9 := Bl.hid (HBr9'.out.store (P := Tryd.prog) (cs' := Bl.cL gl Bl.nilV Bl.nilV (.slice (some ⟨g9, 0, none⟩) q q)) rfl (Bl.cL_one ⟨_, _, _, rfl⟩ ⟨_, _, _, rfl⟩ ⟨_, _, _, rfl⟩) (ty := 26) (by kernel_rfl))
          have HBra := Bl.hid (HBr9'.out.set (cs' := Bl.cL gl Bl.nilV Bl.nilV (.slice (some ⟨g9, 0, none⟩) q q)) rfl)
          have HKa : Hid (Bl.Kq (fun k => k = R0) w9 (w9.setCells R0 0 (Bl.cL gl Bl.nilV Bl.nilV (.slice (some ⟨g9, 0, none⟩) q q)))) := Bl.hid ((Bl.Kq.refl w9).setCells (Q := fun k => k = R0) rfl 0 _)
          clear hck
          go_wp2_with (with_reducible refine Bl.stop_load (ty := 26) ?_)
          refine Bl.go_on ?_
          refine Bl.wpL_load rfl HldD.out ?_
          go_wp2_with (with_reducible refine Bl.stop_store (ty := 26) ?_)
          refine Bl.go_on ?_
          refine Bl.wpL_store0 rfl rfl Hst9.out ?_
          go_wp2_with fail
          refine bodyPost_ret (v := .agg (Bl.cL gl Bl.nilV Bl.nilV (.slice (some ⟨g9, 0, none⟩) q q)).toArray) (Bl.results_cell rfl rfl (HBra.out.loadVar (P := Tryd.prog) Tryd.underlying26 rfl (by kernel_rfl))) rfl ?_
          rw [Hr.out]
          exact ⟨_, _, _, _, rfl, HLg9.out.kept fun j hj hl => ⟨by omega, HKa.out.block j hl (fun r => by have := HPR.out; omega)⟩, HEa.out.trans' (N := w.heap.size) (HKa.out.mono fun j _ r => by have := HPR.out; omega) (Nat.le_refl _)⟩
        · have Hrf := Bl.hid (HT'.out hck)
          obtain ⟨er, her⟩ : ∃ er, errN a (Bl.chkL gl) = .iface 136 (.pointer (some er)) := ⟨_, errN_pos a _ hck⟩
          rw [her]
          clear hck her
          have Hll9 := Bl.hid (HBl9.out.load (P := Tryd.prog) Tryd.underlying26 rfl (by kernel_rfl))
          go_wp2_with (with_reducible refine Bl.stop_load (ty := 26) ?_)
          refine Bl.go_on ?_
          refine Bl.wpL_load rfl Hll9.out ?_
          go_wp2_with fail
          refine (refusal_any _ l 3 w9 (HL.out.ext HEa.out)).mono ?_
          rintro e wa ⟨rfl, hE9⟩
          have HE9 := Bl.hid hE9
          have HBrx := Bl.hid (HBr9'.out.ext hE9)
          clear hE9
          have Hst9 := Bl.hid (HBrx.out.store (P := Tryd.prog) (cs' := Bl.cL (Bl.refL l 3) Bl.nilV Bl.nilV Bl.nilV) rfl (Bl.cL_one ⟨_, _, _, rfl⟩ ⟨_, _, _, rfl⟩ ⟨_, _, _, rfl⟩) (ty := 26) (by kernel_rfl))
          have HBra := Bl.hid (HBrx.out.set (cs' := Bl.cL (Bl.refL l 3) Bl.nilV Bl.nilV Bl.nilV) rfl)
          go_wp2_with (with_reducible refine Bl.stop_store (ty := 26) ?_)
          refine Bl.go_on ?_
          refine Bl.wpL_store0 rfl rfl Hst9.out ?_
          go_wp2_with fail
          refine bodyPost_ret (v := .agg (Bl.cL (Bl.refL l 3) Bl.nilV Bl.nilV Bl.nilV).toArray) (Bl.results_cell rfl rfl (HBra.out.loadVar (P := Tryd.prog) Tryd.underlying26 rfl (by kernel_rfl))) rfl ?_
          rw [Hrf.out]
          exact ⟨_, _, _, _, rfl, Bl.LtF.nil _ _ _ _ _ _ _ _, Bl.below_setCells _ _ _ _ (HEa.out.trans HE9.out) (by have := HPR.out; omega)⟩
      case hJ0 => exact Bl.JF.start (Bl.Kq.drew (Q := fun _ => False) W2).size
  case hJ0 => trivial

theorem sfet_any (b : Nat) (N Q : Nat → Prop) (s : Bl.ShT) (v : Value) (l : Bl.LT) (w : World) (S : List Nat) (a : Nat → Addr) (hS : Bl.SvX N Q w b s) (hok : Bl.ShOk s) (hL : Bl.LtV w v l) (hc : Bl.chkL l = 0) (hk : l.kind = 5) (he : Errs S a w) (s1 : 1 ∈ S) (s3 : 3 ∈ S) (s4 : 4 ∈ S) (s7 : 7 ∈ S) (s8 : 8 ∈ S) :
    Calls Tryd.prog 22 #[.pointer (some ⟨b, 0, none⟩), v] w fun e w' => Bl.LtN w (Bl.fetL s l) e w' := by
  cases ha : Bl.getO s l.obj with
  | some all => exact sfet_some b N Q s v l w S a hS hok hL hc hk he s1 s3 s4 s7 s8 all ha
  | none => exact sfet_none b N Q s v l w S a hS hok hL hc hk he s1 s3 s4 s7 s8 ha
theorem sask_any (b : Nat) (N Q : Nat → Prop) (s : Bl.ShT) (v : Value) (l : Bl.LT) (w : World) (S : List Nat) (a : Nat → Addr) (hS : Bl.SvX N Q w b s) (hok : Bl.ShOk s) (hL : Bl.LtV w v l) (hc : Bl.chkL l = 0) (hk : l.kind = 3) (hg : Glob w) (he : Errs S a w) (s1 : 1 ∈ S) :
    Calls Tryd.prog 21 #[.pointer (some ⟨b, 0, none⟩), v] w fun e w' => Bl.LtN w (Bl.askL s l) e w' := by
  cases ha : Bl.getO s l.obj with
  | some all => exact sask_some b N Q s v l w S a hS hok hL hc hk hg he s1 all ha
  | none =>
    obtain ⟨m, sb, mp, hR⟩ := hS
    refine (ask_none b m sb mp v l w ⟨hR.bx.cell (i := 0) rfl, hR.bx.cell (i := 1) rfl⟩ hR.mt hL (hR.none ha)).mono ?_
    rintro e w' ⟨rfl, hE⟩
    rw [show Bl.askL s l = Bl.refL l 11 by unfold Bl.askL; rw [ha]; rfl]
    exact ⟨_, _, _, _, rfl, Bl.LtF.nil _ _ _ _ _ _ _ _, hE⟩
end Go.Proofs.YtglenbikdahgjaaDoor

/- Walk of shelf.Handle. -/
namespace Go.Proofs.Bl
open Go Go.RowKit
/-- what a Handle hands back, and leaves -/
def HanR (N Q : Nat → Prop) (b : Nat) (s : ShT) (l : LT) (w : World) (e : Ending) (w' : World) : Prop := ∃ vp vs vb L, e = .returned (.tuple #[.agg (cL (hanL s l).1 vp vs vb).toArray, .bool (hanL s l).2]) ∧ LtF (fun k => w.heap.size ≤ k) w' (hanL s l).1 vp vs vb L ∧ SvGo N Q w w' b (hanS s l)
theorem SvGo.store {N Q : Nat → Prop} {w w2 w3 w4 : World} {b R0 : Nat} {s' : ShT} (h : SvGo (fun i => N i ∨ i = R0) Q w2 w3 b s') (hE : Ext w w2) (hR : w.heap.size ≤ R0 ∧ R0 < w2.heap.size) (hlow : ∀ i, (Q i ∨ i = b) → i < w.heap.size) (k : Kq (fun i => i = R0) w3 w4) : SvGo N Q w w4 b s' := by
  obtain ⟨hk, N', Q', ⟨m, sb, mp, h1⟩, h2, h3, h4, h5, h6, h7⟩ := h
  have hk2 : Kq Q w w4 := by
    have q1 : Kq (fun i => Q i ∨ i = R0) w w4 := ((Kq.of_ext hE).trans (hk.mono fun i _ q => .inl q)).trans (k.mono fun i _ q => .inr q)
    exact q1.mono fun i hi q => by
      rcases q with q | q
      · exact q
      · omega
  refine ⟨hk2, N', Q', ⟨m, sb, mp, h1.kept k (fun i q => ⟨h3 i (.inr q), fun r => ?_, fun r => ?_⟩) fun i q => .inl q⟩, fun i q => ?_, fun i q => h3 i (.inl q), h4, h5, fun i q => ?_, fun i q => Nat.lt_of_lt_of_le (h7 i q) k.size⟩
  · rcases h6 i r with r | r
    · have := hlow i (.inl r); omega
    · omega
  · have := hlow i (.inr r); omega
  · rcases h2 i q with q | q
    · rcases q with q | q
      · exact .inl q
      · exact .inr (by omega)
    · exact .inr (Nat.le_trans hE.size q)
  · rcases h6 i q with q | q
    · exact .inl q
    · exact .inr (Nat.le_trans hE.size q)
end Go.Proofs.Bl
namespace Go.Proofs.YtglenbikdahgjaaDoor
open Go Go.RowKit Go.Proofs

set_option maxRecDepth 100000 in
set_option maxHeartbeats 8000000 in
theorem shan_any (b : Nat) (N Q : Nat → Prop) (s : Bl.ShT) (v : Value) (l : Bl.LT) (w : World) (S : List Nat) (a : Nat → Addr) (hS : Bl.SvX N Q w b s) (hok : Bl.ShOk s) (hNQ : ∀ i, Q i → N i) (hNl : ∀ i, N i → i < w.heap.size) (hL : Bl.LtW N w v l) (hg : Glob w) (he : Errs S a w) (s1 : 1 ∈ S) (s3 : 3 ∈ S) (s4 : 4 ∈ S) (s7 : 7 ∈ S) (s8 : 8 ∈ S) :
    Calls Tryd.prog 10 #[.pointer (some ⟨b, 0, none⟩), v] w fun e w' => Bl.HanR N Q b s l w e w' := by
  have HL := Bl.hid hL
  have HS := Bl.hid hS
  have HLv := Bl.hid hL.ltv
  have HG := Bl.hid (And.intro hg (And.intro he (And.intro s1 (And.intro s3 (And.intro s4 (And.intro s7 s8))))))
  have HNQ := Bl.hid (And.intro hNQ (And.intro hNl hok))
  have Hlow : Hid (∀ i, (Q i ∨ i = b) → i < w.heap.size) := Bl.hid fun i hi => by
    obtain ⟨m, sb, mp, hR⟩ := hS
    rcases hi with q | q
    · exact hR.sz i q
    · rw [q]; exact hR.bx.lt
  obtain ⟨vp, vs, vb, L, rfl, hLf⟩ := hL
  obtain ⟨W1, hW1⟩ : ∃ W1, W1 = (w.alloc (.cells (Bl.cL l vp vs vb).toArray 26)).alloc (.cells Bl.zL 26) := ⟨_, rfl⟩
  have hE1 : Bl.Ext w W1 := by rw [hW1]; exact (Bl.ext_alloc _ _).trans (Bl.ext_alloc _ _)
  have hsz1 : W1.heap.size = w.heap.size + 1 + 1 := by rw [hW1, World.size_alloc, World.size_alloc]
  have hBl : Bl.BoxC W1 w.heap.size (Bl.cL l vp vs vb) := by rw [hW1]; exact (Bl.BoxC.box w 26 (Bl.cL_ne _ _ _ _)).ext (Bl.ext_alloc _ _)
  have hBr : Bl.BoxC W1 (w.heap.size + 1) Bl.zL.toList := by rw [hW1]; exact Bl.box2 w _ Bl.zL.toList _ _ (fun h => by cases h)
  obtain ⟨R0, hR0⟩ : ∃ R0, R0 = w.heap.size + 1 := ⟨_, rfl⟩
  obtain ⟨P0, hP0⟩ : ∃ P0, P0 = w.heap.size := ⟨_, rfl⟩
  rw [← hR0] at hBr
  rw [← hP0] at hBl
  have HE1 := Bl.hid hE1
  have HBl := Bl.hid hBl
  have HBr := Bl.hid hBr
  have HPR : Hid (P0 = w.heap.size ∧ R0 = w.heap.size + 1 ∧ W1.heap.size = w.heap.size + 1 + 1) := Bl.hid ⟨hP0, hR0, hsz1⟩
  have Hld := Bl.hid (hBl.load (P := Tryd.prog) Tryd.underlying26 rfl (by kernel_rfl))
  have HCk := Bl.hid (lcheck_any _ l W1 S a (HLv.out.ext hE1) (he.ext hE1) s1 s3 s4 s7 s8)
  unfold Bl.cL at hW1
  clear hS hok hNQ hNl hg he hLf hE1 hsz1 hBl hBr hR0 hP0
  show Calls Tryd.prog 10 #[.pointer (some ⟨b, 0, none⟩), .agg #[.int .i64 l.kind, .int .i64 l.id, .int .i64 l.obj, vp, vs, .int .i64 l.frm, .int .i64 l.cnt, vb, .int .i64 l.code]] w _
  go_enter Tryd.func10, Tryd.ntmps10
  go_wp2_with (with_reducible refine Bl.stop_load (ty := 26) ?_)
  rw [← hW1]
  rw [show w.heap.size + 1 = R0 from HPR.out.2.1.symm, show w.heap.size = P0 from HPR.out.1.symm]
  clear hW1
  refine Bl.go_on ?_
  refine Bl.wpL_load rfl Hld.out ?_
  go_wp2_with fail
  refine HCk.out.mono ?_
  rintro e w2 ⟨rfl, hE2⟩
  have HE2 : Hid (Bl.Ext w w2) := Bl.hid (HE1.out.trans hE2)
  have HBl2 := Bl.hid (HBl.out.ext hE2)
  have HBr2 := Bl.hid (HBr.out.ext hE2)
  have HW2 : Hid (w.heap.size + 2 ≤ w2.heap.size) := Bl.hid (by have := hE2.size; have := HPR.out; omega)
  have hx0 := HBl2.out.cell (i := 0) (v := .int .i64 l.kind) rfl
  have Hll2 := Bl.hid (HBl2.out.load (P := Tryd.prog) Tryd.underlying26 rfl (by kernel_rfl))
  have HSt : Hid (∀ w3, Bl.SvGo (fun i => N i ∨ i = R0) Q w2 w3 b (Bl.putS s l) → ∀ w4, Bl.Kq (fun i => i = R0) w3 w4 → Bl.SvGo N Q w w4 b (Bl.putS s l)) := Bl.hid fun w3 h3 w4 h4 => h3.store HE2.out (by have := HPR.out; have := HW2.out; omega) Hlow.out h4
  have HSe : Hid (∀ w4, Bl.Ext w w4 → Bl.SvGo N Q w w4 b s) := Bl.hid fun w4 h4 => Bl.SvX.go HS.out HNQ.out.1 HNQ.out.2.1 h4
  have HS2 : Hid (Bl.SvX N Q w2 b s ∧ Bl.SvX (fun i => N i ∨ i = R0) Q w2 b s ∧ Bl.LtW (fun i => N i ∨ i = R0) w2 (.agg (Bl.cL l vp vs vb).toArray) l) := Bl.hid ⟨HS.out.ext HE2.out, by
    obtain ⟨m, sb, mp, hR⟩ := HS.out
    exact ⟨m, sb, mp, hR.kept (Q2 := fun _ => False) (Bl.Kq.of_ext HE2.out) (fun _ q => q.elim) fun i q => by
      rcases q with q | q
      · exact .inl q
      · exact .inr (by have := HPR.out; omega)⟩, HL.out.kept fun k hk hl => ⟨fun q => by
      rcases q with q | q
      · exact hk q
      · have := HPR.out; omega, HE2.out.block k hl⟩⟩
  clear hE2 HCk Hld HBl HBr HL HS HE1
  by_cases hck : Bl.chkL l = 0
  · rw [hck, errN_zero]
    have Hck := Bl.hid hck
    clear hck
    by_cases h1 : l.kind = 1
    · have Hres : Hid (Bl.hanL s l = (Bl.putL s l, true) ∧ Bl.hanS s l = Bl.putS s l) := Bl.hid (by unfold Bl.hanL Bl.hanS; rw [if_pos Hck.out, if_pos h1, if_pos ⟨Hck.out, h1⟩]; exact ⟨rfl, rfl⟩)
      have Hpu := Bl.hid (sput_any b (fun i => N i ∨ i = R0) Q s _ l w2 HS2.out.2.1 (fun i q => .inl (HNQ.out.1 i q)) (fun i q => by
        rcases q with q | q
        · exact Nat.lt_of_lt_of_le (HNQ.out.2.1 i q) HE2.out.size
        · have := HPR.out; have := HW2.out; omega) HS2.out.2.2 Hck.out h1)
      go_wp2_with (with_reducible refine Bl.stop_load (ty := 26) ?_)
      refine Bl.go_on ?_
      refine Bl.wpL_load rfl Hll2.out ?_
      go_wp2_with fail
      refine Hpu.out.mono ?_
      rintro e w3 ⟨rfl, hG3⟩
      have HG3 := Bl.hid hG3
      have HBr3 := Bl.hid (hG3.1.box (fun q => by have := Hlow.out R0 (.inl q); have := HPR.out; omega) HBr2.out)
      have HLf : Hid (Bl.LtF (fun k => w.heap.size ≤ k) w3 (Bl.putL s l) Bl.nilV Bl.nilV Bl.nilV []) := Bl.hid (by
        unfold Bl.putL
        repeat' split
        all_goals exact Bl.LtF.nil _ _ _ _ _ _ _ _)
      clear hG3 Hpu
      have Hst3 := Bl.hid (HBr3.out.store (P := Tryd.prog) (cs' := Bl.cL (Bl.putL s l) Bl.nilV Bl.nilV Bl.nilV) rfl (Bl.LtC.one (HLf.out.ltc)) (ty := 26) (by kernel_rfl))
      have HBr4 := Bl.hid (HBr3.out.set (cs' := Bl.cL (Bl.putL s l) Bl.nilV Bl.nilV Bl.nilV) rfl)
      have HK4 : Hid (Bl.Kq (fun k => k = R0) w3 (w3.setCells R0 0 (Bl.cL (Bl.putL s l) Bl.nilV Bl.nilV Bl.nilV))) := Bl.hid ((Bl.Kq.refl w3).setCells (Q := fun k => k = R0) rfl 0 _)
      go_wp2_with (with_reducible refine Bl.stop_store (ty := 26) ?_)
      refine Bl.go_on ?_
      refine Bl.wpL_store0 rfl rfl Hst3.out ?_
      go_wp2_with fail
      refine bodyPost_ret (v := .tuple #[.agg (Bl.cL (Bl.putL s l) Bl.nilV Bl.nilV Bl.nilV).toArray, .bool true]) (Bl.results_cell2 rfl rfl (HBr4.out.loadVar (P := Tryd.prog) Tryd.underlying26 rfl (by kernel_rfl)) rfl) rfl ?_
      unfold Bl.HanR
      rw [Hres.out.1, Hres.out.2]
      refine ⟨_, _, _, [], rfl, ?_, HSt.out _ HG3.out _ HK4.out⟩
      unfold Bl.putL
      repeat' split
      all_goals exact Bl.LtF.nil _ _ _ _ _ _ _ _
    by_cases h3 : l.kind = 3
    · have Hres : Hid (Bl.hanL s l = (Bl.askL s l, true) ∧ Bl.hanS s l = s) := Bl.hid (by unfold Bl.hanL Bl.hanS; rw [if_pos Hck.out, if_neg h1, if_pos h3, if_neg (fun q => h1 q.2)]; exact ⟨rfl, rfl⟩)
      go_wp2_with (with_reducible refine Bl.stop_load (ty := 26) ?_)
      refine Bl.go_on ?_
      refine Bl.wpL_load rfl Hll2.out ?_
      go_wp2_with fail
      refine (sask_any b N Q s _ l w2 S a HS2.out.1 HNQ.out.2.2 (HLv.out.ext HE2.out) Hck.out h3 (HG.out.1.ext HE2.out) (HG.out.2.1.ext HE2.out) HG.out.2.2.1).mono ?_
      rintro e w3 ⟨vp3, vs3, vb3, L3, rfl, hLf3, hE3⟩
      have HLf := Bl.hid hLf3
      have HE3 := Bl.hid hE3
      have HBr3 := Bl.hid (HBr2.out.ext hE3)
      clear hLf3 hE3
      have Hst3 := Bl.hid (HBr3.out.store (P := Tryd.prog) (cs' := Bl.cL (Bl.askL s l) vp3 vs3 vb3) rfl (Bl.LtC.one (HLf.out.ltc)) (ty := 26) (by kernel_rfl))
      have HBr4 := Bl.hid (HBr3.out.set (cs' := Bl.cL (Bl.askL s l) vp3 vs3 vb3) rfl)
      have HK4 : Hid (Bl.Kq (fun k => k = R0) w3 (w3.setCells R0 0 (Bl.cL (Bl.askL s l) vp3 vs3 vb3))) := Bl.hid ((Bl.Kq.refl w3).setCells (Q := fun k => k = R0) rfl 0 _)
      go_wp2_with (with_reducible refine Bl.stop_store (ty := 26) ?_)
      refine Bl.go_on ?_
      refine Bl.wpL_store0 rfl rfl Hst3.out ?_
      go_wp2_with fail
      refine bodyPost_ret (v := .tuple #[.agg (Bl.cL (Bl.askL s l) vp3 vs3 vb3).toArray, .bool true]) (Bl.results_cell2 rfl rfl (HBr4.out.loadVar (P := Tryd.prog) Tryd.underlying26 rfl (by kernel_rfl)) rfl) rfl ?_
      unfold Bl.HanR
      rw [Hres.out.1, Hres.out.2]
      exact ⟨_, _, _, _, rfl, HLf.out.kept fun j hj hl => ⟨by have := HW2.out; omega, HK4.out.block j hl (fun q => by have := HPR.out; have := HW2.out; omega)⟩, HSe.out _ ((HE2.out.trans HE3.out).trans' (N := w.heap.size) (HK4.out.mono fun j _ q => by have := HPR.out; omega) (Nat.le_refl _))⟩
    by_cases h5 : l.kind = 5
    · have Hres : Hid (Bl.hanL s l = (Bl.fetL s l, true) ∧ Bl.hanS s l = s) := Bl.hid (by unfold Bl.hanL Bl.hanS; rw [if_pos Hck.out, if_neg h1, if_neg h3, if_pos h5, if_neg (fun q => h1 q.2)]; exact ⟨rfl, rfl⟩)
      go_wp2_with (with_reducible refine Bl.stop_load (ty := 26) ?_)
      refine Bl.go_on ?_
      refine Bl.wpL_load rfl Hll2.out ?_
      go_wp2_with fail
      refine (sfet_any b N Q s _ l w2 S a HS2.out.1 HNQ.out.2.2 (HLv.out.ext HE2.out) Hck.out h5 (HG.out.2.1.ext HE2.out) HG.out.2.2.1 HG.out.2.2.2.1 HG.out.2.2.2.2.1 HG.out.2.2.2.2.2.1 HG.out.2.2.2.2.2.2).mono ?_
      rintro e w3 ⟨vp3, vs3, vb3, L3, rfl, hLf3, hE3⟩
      have HLf := Bl.hid hLf3
      have HE3 := Bl.hid hE3
      have HBr3 := Bl.hid (HBr2.out.ext hE3)
      clear hLf3 hE3
      have Hst3 := Bl.hid (HBr3.out.store (P := Tryd.prog) (cs' := Bl.cL (Bl.fetL s l) vp3 vs3 vb3) rfl (Bl.LtC.one (HLf.out.ltc)) (ty := 26) (by kernel_rfl))
      have HBr4 := Bl.hid (HBr3.out.set (cs' := Bl.cL (Bl.fetL s l) vp3 vs3 vb3) rfl)
      have HK4 : Hid (Bl.Kq (fun k => k = R0) w3 (w3.setCells R0 0 (Bl.cL (Bl.fetL s l) vp3 vs3 vb3))) := Bl.hid ((Bl.Kq.refl w3).setCells (Q := fun k => k = R0) rfl 0 _)
      go_wp2_with (with_reducible refine Bl.stop_store (ty := 26) ?_)
      refine Bl.go_on ?_
      refine Bl.wpL_store0 rfl rfl Hst3.out ?_
      go_wp2_with fail
      refine bodyPost_ret (v := .tuple #[.agg (Bl.cL (Bl.fetL s l) vp3 vs3 vb3).toArray, .bool true]) (Bl.results_cell2 rfl rfl (HBr4.out.loadVar (P := Tryd.prog) Tryd.underlying26 rfl (by kernel_rfl)) rfl) rfl ?_
      unfold Bl.HanR
      rw [Hres.out.1, Hres.out.2]
      exact ⟨_, _, _, _, rfl, HLf.out.kept fun j hj hl => ⟨by have := HW2.out; omega, HK4.out.block j hl (fun q => by have := HPR.out; have := HW2.out; omega)⟩, HSe.out _ ((HE2.out.trans HE3.out).trans' (N := w.heap.size) (HK4.out.mono fun j _ q => by have := HPR.out; omega) (Nat.le_refl _))⟩
    · have Hres : Hid (Bl.hanL s l = (Bl.lt0, false) ∧ Bl.hanS s l = s) := Bl.hid (by unfold Bl.hanL Bl.hanS; rw [if_pos Hck.out, if_neg h1, if_neg h3, if_neg h5, if_neg (fun q => h1 q.2)]; exact ⟨rfl, rfl⟩)
      have HLf : Hid (Bl.LtF (fun k => w.heap.size ≤ k) w2 Bl.lt0 Bl.nilV Bl.nilV Bl.nilV []) := Bl.hid (Bl.LtF.nil _ _ _ _ _ _ _ _)
      have HBr3 := HBr2
      have Hst3 := Bl.hid (HBr3.out.store (P := Tryd.prog) (cs' := Bl.cL (Bl.lt0) Bl.nilV Bl.nilV Bl.nilV) rfl (Bl.LtC.one (HLf.out.ltc)) (ty := 26) (by kernel_rfl))
      have HBr4 := Bl.hid (HBr3.out.set (cs' := Bl.cL (Bl.lt0) Bl.nilV Bl.nilV Bl.nilV) rfl)
      have HK4 : Hid (Bl.Kq (fun k => k = R0) w2 (w2.setCells R0 0 (Bl.cL (Bl.lt0) Bl.nilV Bl.nilV Bl.nilV))) := Bl.hid ((Bl.Kq.refl w2).setCells (Q := fun k => k = R0) rfl 0 _)
      go_wp2_with (with_reducible refine Bl.stop_store (ty := 26) ?_)
      refine Bl.go_on ?_
      refine Bl.wpL_store0 rfl rfl Hst3.out ?_
      go_wp2_with fail
      refine bodyPost_ret (v := .tuple #[.agg (Bl.cL (Bl.lt0) Bl.nilV Bl.nilV Bl.nilV).toArray, .bool false]) (Bl.results_cell2 rfl rfl (HBr4.out.loadVar (P := Tryd.prog) Tryd.underlying26 rfl (by kernel_rfl)) rfl) rfl ?_
      unfold Bl.HanR
      rw [Hres.out.1, Hres.out.2]
      exact ⟨_, _, _, [], rfl, Bl.LtF.nil _ _ _ _ _ _ _ _, HSe.out _ (HE2.out.trans' (N := w.heap.size) (HK4.out.mono fun j _ q => by have := HPR.out; omega) (Nat.le_refl _))⟩
  · have Hres : Hid (Bl.hanL s l = (Bl.lt0, false) ∧ Bl.hanS s l = s) := Bl.hid (by unfold Bl.hanL Bl.hanS; rw [if_neg hck, if_neg (fun q => hck q.1)]; exact ⟨rfl, rfl⟩)
    obtain ⟨er, her⟩ : ∃ er, errN a (Bl.chkL l) = .iface 136 (.pointer (some er)) := ⟨_, errN_pos a _ hck⟩
    rw [her]
    clear hck her
    have HLf : Hid (Bl.LtF (fun k => w.heap.size ≤ k) w2 Bl.lt0 Bl.nilV Bl.nilV Bl.nilV []) := Bl.hid (Bl.LtF.nil _ _ _ _ _ _ _ _)
    have HBr3 := HBr2
    have Hst3 := Bl.hid (HBr3.out.store (P := Tryd.prog) (cs' := Bl.cL (Bl.lt0) Bl.nilV Bl.nilV Bl.nilV) rfl (Bl.LtC.one (HLf.out.ltc)) (ty := 26) (by kernel_rfl))
    have HBr4 := Bl.hid (HBr3.out.set (cs' := Bl.cL (Bl.lt0) Bl.nilV Bl.nilV Bl.nilV) rfl)
    have HK4 : Hid (Bl.Kq (fun k => k = R0) w2 (w2.setCells R0 0 (Bl.cL (Bl.lt0) Bl.nilV Bl.nilV Bl.nilV))) := Bl.hid ((Bl.Kq.refl w2).setCells (Q := fun k => k = R0) rfl 0 _)
    go_wp2_with (with_reducible refine Bl.stop_store (ty := 26) ?_)
    refine Bl.go_on ?_
    refine Bl.wpL_store0 rfl rfl Hst3.out ?_
    go_wp2_with fail
    refine bodyPost_ret (v := .tuple #[.agg (Bl.cL (Bl.lt0) Bl.nilV Bl.nilV Bl.nilV).toArray, .bool false]) (Bl.results_cell2 rfl rfl (HBr4.out.loadVar (P := Tryd.prog) Tryd.underlying26 rfl (by kernel_rfl)) rfl) rfl ?_
    unfold Bl.HanR
    rw [Hres.out.1, Hres.out.2]
    exact ⟨_, _, _, [], rfl, Bl.LtF.nil _ _ _ _ _ _ _ _, HSe.out _ (HE2.out.trans' (N := w.heap.size) (HK4.out.mono fun j _ q => by have := HPR.out; omega) (Nat.le_refl _))⟩
end Go.Proofs.YtglenbikdahgjaaDoor

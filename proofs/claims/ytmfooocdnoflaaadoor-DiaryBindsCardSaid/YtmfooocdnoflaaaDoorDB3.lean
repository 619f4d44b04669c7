/- Walk of baileelaw39.Clash: where a proof holds and the leaves don't begin alike, it finds two strings of one digest. -/
import Derived.Test.YtmfooocdnoflaaaDoorDB2
import Derived.Test.YtmfooocdnoflaaaDoorWGroA
namespace Go.Proofs.Bl
open Go Go.RowKit
theorem OwnS.rdss {w : World} {B e : Nat} {v : Value} {ls : List (List Int)} (h : OwnS w B e v ls) : Rdss w v ls := by
  obtain ⟨p, c, cs, h1, h2, h3, h4, _⟩ := h
  refine ⟨cs, Rds.of_owns h2, h3, fun k hk => ?_⟩
  obtain ⟨b, c', h5, h6, _⟩ := h4 k hk
  exact h6
theorem Rdss.formG {w : World} {v : Value} {ps : List (List Int)} (h : Rdss w v ps) : ∃ p c, v = .slice p ps.length c ∧ ps.length ≤ c ∧ c ≤ maxLen := by
  obtain ⟨vs, h1, _⟩ := h; exact h1.form
theorem getDmem (l : List (List Int)) {i : Nat} (h : i < l.length) : l.getD i [] ∈ l := by
  rw [List.getD_eq_getElem?_getD, List.getElem?_eq_getElem h]; exact List.getElem_mem h
end Go.Proofs.Bl
namespace Go.Proofs.YtmfooocdnoflaaaDoor
open Go Go.RowKit Go.Proofs

set_option maxRecDepth 100000 in
set_option maxHeartbeats 4000000 in
theorem clash39_any (va vb vp : Value) (xs ys ds : List (List Int)) (w : World) (hA : Bl.Rdss w va xs) (hB : Bl.Rdss w vb ys) (hP : Bl.RdD w vp ds) (hd : Bl.Dig ds) (hba : ∀ p ∈ xs, Bl.Byt p) (hbb : ∀ p ∈ ys, Bl.Byt p) (hla : ∀ p ∈ xs, p.length ≤ 200) (hlb : ∀ p ∈ ys, p.length ≤ 200) (hg : GlobR w)
    (h1 : 1 ≤ xs.length) (hmn : xs.length ≤ ys.length) (hn : ys.length ≤ 30) (hc : ds.length = Bl.cntG xs.length ys.length true) (hm : Bl.madeD xs.length ys.length (Bl.rootD xs) true ds = (Bl.rootD xs, Bl.rootD ys)) (hne : ¬ xs = ys.take xs.length) :
    Calls Tryd.prog 26 #[va, vb, vp] w fun e w' => e = .returned (.bool true) ∧ Bl.Ext w w' := by
  obtain ⟨wb, hvb, hwlb, hwsb⟩ := id hB
  obtain ⟨b2, o2, hpb, hbl2, hcell2⟩ : ∃ b o, (∃ c, vb = .slice (some ⟨b, o, none⟩) ys.length c) ∧ True ∧ True := by
    obtain ⟨pb, cb, hfb, _, _⟩ := hvb.form
    subst hfb
    obtain ⟨b, o, hp, _, _⟩ := Bl.Rdss.cell' hvb hwlb 0 (by omega)
    subst hp
    exact ⟨b, o, ⟨cb, rfl⟩, trivial, trivial⟩
  obtain ⟨cb, rfl⟩ := hpb
  obtain ⟨pa, ca, hfa, _, _⟩ := hA.formG
  subst hfa
  obtain ⟨pp, cp, hfp, _, hcp⟩ := hP.form
  subst hfp
  have hcb : ys.length ≤ cb ∧ cb ≤ maxLen := by
    obtain ⟨p9, c9, hf9, h9, h10⟩ := hvb.form
    injection hf9 with _ _ e3
    subst e3
    exact ⟨h9, h10⟩
  clear hvb hwlb hwsb hbl2 hcell2
  have hdl := Bl.dig_leaves ys
  have hrl := Bl.rootD_length xs (by omega)
  have hrb := Bl.rootD_byt xs (by omega)
  have hrl2 := Bl.rootD_length (ys.take xs.length) (by rw [List.length_take]; omega)
  have hrb2 := Bl.rootD_byt (ys.take xs.length) (by rw [List.length_take]; omega)
  have hlt : (ys.take xs.length).length = xs.length := by rw [List.length_take]; omega
  -- the honest proof
  have hown : Bl.madeD xs.length ys.length (Bl.rootD (ys.take xs.length)) true (Bl.proveD (ys.map Bl.lfD) xs.length true) = (Bl.rootD (ys.take xs.length), Bl.rootD ys) := by
    have h := Bl.madeD_prove (ys.map Bl.lfD) xs.length h1 (by rw [List.length_map]; exact hmn) (by rw [List.length_map]; omega)
    rw [List.length_map] at h
    unfold Bl.rootD
    rw [List.map_take]
    exact h
  have hpl := Bl.proveD_len (ys.map Bl.lfD) xs.length true h1 (by rw [List.length_map]; exact hmn) (by rw [List.length_map]; omega)
  rw [List.length_map] at hpl
  have hpd := Bl.proveD_dig ys.length xs.length 0 true h1 hmn (by omega) (ys.map Bl.lfD) (by rw [List.length_map]) hdl
  have HCl : Hid (Bl.Cl2 (Bl.upsD xs.length ys.length (Bl.rootD xs) true ds) (Bl.upsD xs.length ys.length (Bl.rootD (ys.take xs.length)) true (Bl.proveD (ys.map Bl.lfD) xs.length true)) ∨ Bl.rootD xs = Bl.rootD (ys.take xs.length)) := Bl.hid (by
    rcases Bl.ups_clash ys.length xs.length 0 true h1 hmn (by omega) (Bl.rootD xs) (Bl.rootD (ys.take xs.length)) ds (Bl.proveD (ys.map Bl.lfD) xs.length true) hc hpl hd hpd ⟨hrl, hrb⟩ ⟨hrl2, hrb2⟩ (by rw [hm, hown]) with h | ⟨_, h⟩
    · exact .inl h
    · rw [hm, hown] at h
      exact .inr h)
  have HXl : Hid ((Bl.upsD xs.length ys.length (Bl.rootD xs) true ds).length = (Bl.upsD xs.length ys.length (Bl.rootD (ys.take xs.length)) true (Bl.proveD (ys.map Bl.lfD) xs.length true)).length) := Bl.hid (by rw [Bl.upsD_len _ _ _ _ _ hc, Bl.upsD_len _ _ _ _ _ hpl])
  have HX65 : Hid (∀ s ∈ Bl.upsD xs.length ys.length (Bl.rootD xs) true ds, s.length = 65 ∧ Bl.Byt s) := Bl.hid (Bl.upsD_65 _ _ _ _ _ ⟨hrl, hrb⟩ hd)
  have HY65 : Hid (∀ s ∈ Bl.upsD xs.length ys.length (Bl.rootD (ys.take xs.length)) true (Bl.proveD (ys.map Bl.lfD) xs.length true), s.length = 65 ∧ Bl.Byt s) := Bl.hid (Bl.upsD_65 _ _ _ _ _ ⟨hrl2, hrb2⟩ hpd)
  -- the contracts
  have HRa : Hid (∀ w2, Bl.Ext w w2 → Calls Tryd.prog 22 #[.slice pa xs.length ca] w2 fun e w' => e = .returned (.agg (Bl.ints .u8 (Bl.rootD xs)).toArray) ∧ Bl.Ext w2 w') := Bl.hid fun w2 h2 => refroot_any _ xs w2 (hA.ext h2) (hg.ext h2) hba (fun q hq => by have := hla q hq; omega) (by omega)
  have hBt : Bl.Rdss w (.slice (some ⟨b2, o2, none⟩) xs.length cb) (ys.take xs.length) := Bl.Rdss.take hB xs.length hmn
  have HRb : Hid (∀ w2, Bl.Ext w w2 → Calls Tryd.prog 22 #[.slice (some ⟨b2, o2, none⟩) xs.length cb] w2 fun e w' => e = .returned (.agg (Bl.ints .u8 (Bl.rootD (ys.take xs.length))).toArray) ∧ Bl.Ext w2 w') := Bl.hid fun w2 h2 => refroot_any _ (ys.take xs.length) w2 (hBt.ext h2) (hg.ext h2) (fun q hq => hbb q (List.mem_of_mem_take hq)) (fun q hq => by have := hlb q (List.mem_of_mem_take hq); omega) (by rw [hlt]; omega)
  have HLv : Hid (∀ w2, Bl.Ext w w2 → Calls Tryd.prog 41 #[.slice (some ⟨b2, o2, none⟩) ys.length cb] w2 fun e w' => ∃ p c, e = .returned (.slice p ys.length c) ∧ Bl.RdD w' (.slice p ys.length c) (ys.map Bl.lfD) ∧ Bl.Ext w2 w') := Bl.hid fun w2 h2 => (refleaves_any _ ys w2 (hB.ext h2) (hg.ext h2) hbb (fun q hq => by have := hlb q hq; omega) (by omega)).mono fun e w' ⟨p, c, h3, h4, h5⟩ => ⟨p, c, h3, by show Bl.Rds w' _ (ys.map Bl.lfD).length _; rw [List.length_map]; exact Bl.Rds.of_owns h4, h5⟩
  have HPr : Hid (∀ w2 p c, Bl.Ext w w2 → Bl.RdD w2 (.slice p ys.length c) (ys.map Bl.lfD) → Calls Tryd.prog 44 #[.slice p ys.length c, .int .i64 xs.length, .bool true] w2 fun e w' => ∃ v', e = .returned v' ∧ Bl.RdD w' v' (Bl.proveD (ys.map Bl.lfD) xs.length true) ∧ Bl.Ext w2 w') := Bl.hid fun w2 p c h2 h3 => (refgprove_nat ys.length (ys.map Bl.lfD) xs.length true _ w2 (by rw [List.length_map]) (by omega) h1 hmn hdl h3 (hg.ext h2)).mono fun e w' ⟨v', h4, h5, h6⟩ => ⟨v', h4, h5.rd, h6⟩
  have HUa : Hid (∀ w2, Bl.Ext w w2 → Calls Tryd.prog 45 #[.int .i64 xs.length, .int .i64 ys.length, .agg (Bl.ints .u8 (Bl.rootD xs)).toArray, .bool true, .slice pp ds.length cp] w2 fun e w' => ∃ v', e = .returned v' ∧ Bl.Rdss w' v' (Bl.upsD xs.length ys.length (Bl.rootD xs) true ds) ∧ Bl.Ext w2 w') := Bl.hid fun w2 h2 => (ups_any ys.length xs.length (Bl.rootD xs) true ds _ w2 (by omega) h1 hmn hrl hrb (Bl.Rds.ext hP h2) hd hc (hg.ext h2)).mono fun e w' ⟨v', h4, h5, h6⟩ => ⟨v', h4, h5.rdss, h6⟩
  have HUb : Hid (∀ w2 v, Bl.Ext w w2 → Bl.RdD w2 v (Bl.proveD (ys.map Bl.lfD) xs.length true) → Calls Tryd.prog 45 #[.int .i64 xs.length, .int .i64 ys.length, .agg (Bl.ints .u8 (Bl.rootD (ys.take xs.length))).toArray, .bool true, v] w2 fun e w' => ∃ v', e = .returned v' ∧ Bl.Rdss w' v' (Bl.upsD xs.length ys.length (Bl.rootD (ys.take xs.length)) true (Bl.proveD (ys.map Bl.lfD) xs.length true)) ∧ Bl.Ext w2 w') := Bl.hid fun w2 v h2 h3 => (ups_any ys.length xs.length (Bl.rootD (ys.take xs.length)) true _ v w2 (by omega) h1 hmn hrl2 hrb2 h3 hpd hpl (hg.ext h2)).mono fun e w' ⟨v', h4, h5, h6⟩ => ⟨v', h4, h5.rdss, h6⟩
  have HLf : Hid (Bl.rootD xs = Bl.rootD (ys.take xs.length) → ∀ w2, Bl.Ext w w2 → Calls Tryd.prog 47 #[.slice pa xs.length ca, .slice (some ⟨b2, o2, none⟩) xs.length cb] w2 fun e w' => e = .returned (.bool true) ∧ Bl.Ext w2 w') := Bl.hid fun hr w2 h2 => by
    have h := leaves39_any xs.length xs (ys.take xs.length) (.slice pa xs.length ca) (.slice (some ⟨b2, o2, none⟩) xs.length cb) w2 rfl hlt (by omega) (hA.ext h2) (hBt.ext h2) hba (fun q hq => hbb q (List.mem_of_mem_take hq)) hla (fun q hq => hlb q (List.mem_of_mem_take hq)) (hg.ext h2) hr
    rw [decide_eq_true hne] at h
    exact h
  have HCn : Hid (∀ w2, Calls Tryd.prog 43 #[.int .i64 xs.length, .int .i64 ys.length, .bool true] w2 fun e w' => e = .returned (.int .i64 (ds.length : Nat)) ∧ w2 = w') := Bl.hid fun w2 => by rw [hc]; exact refgcount_nat ys.length xs.length true w2 h1 hmn (by omega)
  have Hg := Bl.hid hg
  obtain ⟨X, hX⟩ : ∃ X, X = Bl.upsD xs.length ys.length (Bl.rootD xs) true ds := ⟨_, rfl⟩
  obtain ⟨Y, hY⟩ : ∃ Y, Y = Bl.upsD xs.length ys.length (Bl.rootD (ys.take xs.length)) true (Bl.proveD (ys.map Bl.lfD) xs.length true) := ⟨_, rfl⟩
  obtain ⟨OW, hOW⟩ : ∃ OW, OW = Bl.proveD (ys.map Bl.lfD) xs.length true := ⟨_, rfl⟩
  rw [← hX] at HCl HXl HX65 HUa
  rw [← hY] at HCl HXl HY65 HUb
  rw [← hOW] at HPr HUb
  obtain ⟨ra, hra⟩ : ∃ ra, ra = Bl.rootD xs := ⟨_, rfl⟩
  obtain ⟨rb, hrb'⟩ : ∃ rb, rb = Bl.rootD (ys.take xs.length) := ⟨_, rfl⟩
  rw [← hra] at HCl HRa HUa HLf
  rw [← hrb'] at HCl HRb HUb HLf
  obtain ⟨m, hmm⟩ : ∃ m, m = xs.length := ⟨_, rfl⟩
  obtain ⟨n, hnn⟩ : ∃ n, n = ys.length := ⟨_, rfl⟩
  obtain ⟨k, hkk⟩ : ∃ k, k = ds.length := ⟨_, rfl⟩
  rw [← hmm] at HRa HRb HPr HUa HUb HLf HCn h1 hmn ⊢
  rw [← hnn] at HLv HPr HUa HUb HCn hmn hn hcb ⊢
  rw [← hkk] at HUa HCn ⊢
  have hkl : k ≤ 1024 := by
    rw [hkk, hc, ← hmm, ← hnn]
    have := Bl.steps_len_le n m 0 true h1 hmn (by omega)
    unfold Bl.cntG; split <;> omega
  obtain ⟨L, hL⟩ : ∃ L, L = ys.map Bl.lfD := ⟨_, rfl⟩
  rw [← hL] at HLv HPr
  clear hA hB hP hd hba hbb hla hlb hg hc hm hne hdl hrl hrb hrl2 hrb2 hlt hown hpl hpd hBt hX hY hOW hra hrb' hmm hnn hkk hL
  have hm1 : ¬ ((m : Int) < 1) := by omega
  have hm2 : ¬ ((n : Int) < (m : Int)) := by omega
  have hm3 : ¬ ((512 : Int) < (n : Int)) := by omega
  have hm4 : (m : Int) ≤ (n : Int) := by omega
  have hm5 : (m : Int) ≤ (cb : Int) := by omega
  have hm0 : (0 : Int) ≤ (m : Int) := by omega
  obtain ⟨hcb1, hcb2⟩ := hcb
  unfold maxLen at hcb2 hcp
  go_enter Tryd.func26, Tryd.ntmps26
  go_wp2_with fail
  refine (HCn.out w).mono ?_
  rintro e w1 ⟨rfl, hw1⟩
  subst hw1
  go_wp2_with fail
  refine (HLv.out w (Below.refl _ _)).mono ?_
  rintro e w2 ⟨p3, c3, rfl, hR3, hE2⟩
  have HR3 := Bl.hid hR3
  have HE2 := Bl.hid hE2
  clear hR3 hE2
  go_wp2_with fail
  refine (HPr.out w2 p3 c3 HE2.out HR3.out).mono ?_
  rintro e w3 ⟨v3, rfl, hO3, hE3⟩
  obtain ⟨p4, c4, hf4, _, _⟩ := hO3.form
  subst hf4
  have HO3 := Bl.hid hO3
  have HE3 := Bl.hid (HE2.out.trans hE3)
  clear hO3 hE3 HE2
  obtain ⟨ko, hko⟩ : ∃ ko, ko = OW.length := ⟨_, rfl⟩
  rw [← hko] at HO3 ⊢
  clear hko
  go_wp2_with fail
  refine (HRa.out w3 HE3.out).mono ?_
  rintro e w4 ⟨rfl, hE4⟩
  have HE4 := Bl.hid (HE3.out.trans hE4)
  have HO4 := Bl.hid (Bl.Rds.ext HO3.out hE4)
  clear hE4 HE3 HO3
  go_wp2_with fail
  refine (HUa.out w4 HE4.out).mono ?_
  rintro e w5 ⟨vx, rfl, hX5, hE5⟩
  obtain ⟨px, cx, hfx, hnx, hcx⟩ := hX5.formG
  subst hfx
  have HE5 := Bl.hid (HE4.out.trans hE5)
  have HO5 := Bl.hid (Bl.Rds.ext HO4.out hE5)
  have HX5 := Bl.hid hX5
  clear hE5 HE4 HO4 hX5
  obtain ⟨lx, hlx⟩ : ∃ lx, lx = X.length := ⟨_, rfl⟩
  have Hlx := Bl.hid hlx
  rw [← hlx] at HX5 hnx ⊢
  clear hlx
  go_wp2_with fail
  refine (HRb.out w5 HE5.out).mono ?_
  rintro e w6 ⟨rfl, hE6⟩
  have HE6 := Bl.hid (HE5.out.trans hE6)
  have HO6 := Bl.hid (Bl.Rds.ext HO5.out hE6)
  have HX6 := Bl.hid (HX5.out.ext hE6)
  clear hE6 HE5 HO5 HX5
  go_wp2_with fail
  refine (HUb.out w6 _ HE6.out HO6.out).mono ?_
  rintro e w7 ⟨vy, rfl, hY7, hE7⟩
  obtain ⟨py, cy, hfy, _, hcy⟩ := hY7.formG
  subst hfy
  have HE7 := Bl.hid (HE6.out.trans hE7)
  have HX7 := Bl.hid (HX6.out.ext hE7)
  have HY7 := Bl.hid hY7
  clear hE7 HE6 HO6 HX6 hY7
  have hly : Y.length = lx := by rw [Hlx.out, HXl.out]
  rw [hly] at HY7 ⊢
  have Hly := Bl.hid hly
  clear hly
  unfold maxLen at hcx hcy
  go_wp2_with fail
  go_loopw [56] (fun x wr => ∃ i : Nat, i ≤ lx ∧ x = .int .i64 i ∧ Hid (∀ j, j < i → ¬ (X.getD j [] ≠ Y.getD j [] ∧ Bl.sha (X.getD j []) = Bl.sha (Y.getD j []))) ∧ Bl.Ext w7 wr) (fun x _ => lx - (intOf x).toNat)
  case atStart => exact ⟨0, Nat.zero_le _, rfl, Bl.hid fun j hj => absurd hj (Nat.not_lt_zero _), Below.refl _ _⟩
  case round =>
    obtain ⟨i, hi, rfl, HI, hE⟩ := hrel
    have HE := Bl.hid hE
    clear hE
    by_cases hlt : i < lx
    · have hix : i < X.length := by rw [← Hlx.out]; exact hlt
      have hiy : i < Y.length := by rw [Hly.out]; exact hlt
      obtain ⟨vsx, hvx, hvlx, hvsx⟩ := HX7.out.ext HE.out
      obtain ⟨vsy, hvy, hvly, hvsy⟩ := HY7.out.ext HE.out
      obtain ⟨bx, ox, hpx, hblx, hcx1⟩ := Bl.Rdss.cell' hvx hvlx i hix
      obtain ⟨by1, oy, hpy, hbly, hcy1⟩ := Bl.Rdss.cell' hvy hvly i hiy
      have hrx := hvsx i hix
      have hry := hvsy i hiy
      obtain ⟨hx65, hxb⟩ := HX65.out _ (Bl.getDmem X hix)
      obtain ⟨hy65, hyb⟩ := HY65.out _ (Bl.getDmem Y hiy)
      obtain ⟨s1, hs1⟩ : ∃ s1, s1 = X.getD i [] := ⟨_, rfl⟩
      obtain ⟨s2, hs2⟩ : ∃ s2, s2 = Y.getD i [] := ⟨_, rfl⟩
      have Hs1 := Bl.hid hs1
      have Hs2 := Bl.hid hs2
      rw [← hs1] at hrx hx65 hxb
      rw [← hs2] at hry hy65 hyb
      obtain ⟨q1, d1, hq1, _, _⟩ := hrx.form
      obtain ⟨q2, d2, hq2, _, _⟩ := hry.form
      rw [hx65] at hq1
      rw [hy65] at hq2
      rw [hq1] at hcx1 hrx
      rw [hq2] at hcy1 hry
      subst hpx hpy
      have HC1 := Bl.hid hcx1
      have HC2 := Bl.hid hcy1
      have HB1 := Bl.hid hblx
      have HB2 := Bl.hid hbly
      have HR1 := Bl.hid hrx
      have HR2 := Bl.hid hry
      have HEw := Bl.hid (HE7.out.trans HE.out)
      have HCv1 : Hid (∀ w2, Bl.Ext wr w2 → (convert 80 9 (.slice q1 65 d1)).run Tryd.prog w2 = .ok (.string (Bl.bstr s1)) w2) := Bl.hid fun w2 h2 => Bl.conv_bytes (HR1.out.ext h2) Tryd.underlying80 Tryd.underlying5 Tryd.underlying9
      have HCv2 : Hid (∀ w2, Bl.Ext wr w2 → (convert 80 9 (.slice q2 65 d2)).run Tryd.prog w2 = .ok (.string (Bl.bstr s2)) w2) := Bl.hid fun w2 h2 => Bl.conv_bytes (HR2.out.ext h2) Tryd.underlying80 Tryd.underlying5 Tryd.underlying9
      have HO1 : Hid (∀ w2 v, Bl.Ext wr w2 → Bl.Rdss w2 v [s1] → Calls Tryd.prog 46 #[v] w2 fun e w' => e = .returned (.agg (Bl.ints .u8 (Bl.sha s1)).toArray) ∧ Bl.Ext w2 w') := Bl.hid fun w2 v h2 hv => by
        have h := of_any v [s1] w2 hv (Hg.out.ext (HEw.out.trans h2)).s (by rw [List.flatten_singleton]; exact hxb) (by rw [List.flatten_singleton, hx65]; decide)
        rw [List.flatten_singleton] at h
        exact h
      have HO2 : Hid (∀ w2 v, Bl.Ext wr w2 → Bl.Rdss w2 v [s2] → Calls Tryd.prog 46 #[v] w2 fun e w' => e = .returned (.agg (Bl.ints .u8 (Bl.sha s2)).toArray) ∧ Bl.Ext w2 w') := Bl.hid fun w2 v h2 hv => by
        have h := of_any v [s2] w2 hv (Hg.out.ext (HEw.out.trans h2)).s (by rw [List.flatten_singleton]; exact hyb) (by rw [List.flatten_singleton, hy65]; decide)
        rw [List.flatten_singleton] at h
        exact h
      have hqs := Bl.bstr_beq hxb hyb
      have hl1 : (Bl.sha s1).length = 32 := rfl
      have hl2 : (Bl.sha s2).length = 32 := rfl
      have Hq : Hid (∀ w, (Op.equalIn 10000 39 (.agg (Bl.ints .u8 (Bl.sha s1)).toArray) (.agg (Bl.ints .u8 (Bl.sha s2)).toArray)).run Tryd.prog w = .ok (decide (Bl.sha s1 = Bl.sha s2)) w) := Bl.hid fun w => Bl.eq10k Tryd.underlying39 Tryd.underlying5 (fun w => by simp [go_sem]) _ _ hl1 hl2 w
      have hi0 : (0 : Int) ≤ (i : Int) := by omega
      have hi1 : (i : Int) < (lx : Int) := by omega
      clear hvx hvlx hvsx hvy hvly hvsy hblx hbly hcx1 hcy1 hrx hry hx65 hy65 hxb hyb hs1 hs2 hq1 hq2 hix hiy
      by_cases hss : s1 = s2
      · have Hni : Hid (¬ (X.getD i [] ≠ Y.getD i [] ∧ Bl.sha (X.getD i []) = Bl.sha (Y.getD i []))) := Bl.hid (by rw [← Hs1.out, ← Hs2.out]; exact fun h => h.1 hss)
        subst hss
        clear hqs hl1 hl2
        go_wp2_with fail
        apply Bl.wp_region_ev 31 [59, 60, 61, 62, 63, 64, 65, 66, 67, 68, 69, 70, 71, 72, 73, 74, 75, 76, 77, 78, 79, 80, 81, 82, 83, 84, 85, 86, 87, 88, 89] [Bl.eqv _, Bl.eqv _, Bl.eqv _, Bl.eqv _, Bl.eqv _, Bl.eqv _, Bl.eqv _, Bl.eqv _, Bl.eqv _, Bl.eqv _, Bl.eqv _, Bl.eqv _, Bl.eqv _, Bl.eqv _, Bl.eqv _, Bl.eqv _, Bl.eqv _, Bl.eqv _, Bl.eqv _, Bl.eqv _, Bl.eqv _, Bl.eqv _, Bl.eqv _, Bl.eqv _, Bl.eqv _, Bl.eqv _, Bl.eqv _, Bl.eqv _, Bl.eqv _, Bl.eqv _, Bl.eqv _] (by kernel_rfl) (by kernel_rfl) (by kernel_rfl) (by kernel_rfl)
        case hsteps =>
          refine ⟨?_, ?_, ?_, ?_, ?_, ?_, ?_, ?_, ?_, ?_, ?_, ?_, ?_, ?_, ?_, ?_, ?_, ?_, ?_, ?_, ?_, ?_, ?_, ?_, ?_, ?_, ?_, ?_, ?_, ?_, ?_, trivial⟩
          all_goals
            intro ev w1 hext hb hd
            have e10 := hb 10 (by decide)
            have e11 := hb 11 (by decide)
            have e12 := hb 12 (by decide)
            clear hb
            simp only [Array.getD_eq_getD_getElem?, List.getElem?_toArray, List.getElem?_cons_succ, List.getElem?_cons_zero, Option.getD_some] at e10 e11 e12
            simp only [Bl.DepsE, List.getElem?_cons_succ, List.getElem?_cons_zero, Option.bind_some, List.getD_cons_succ, List.getD_cons_zero, Bl.eqv, and_true] at hd
            have hc := (Bl.bcell hext).1
            have hcl1 := (hc _ (ox + i) HB1.out).trans HC1.out
            have hcl2 := (hc _ (oy + i) HB2.out).trans HC2.out
            have hcv1 := HCv1.out _ hext
            have hcv2 := HCv2.out _ hext
            simp only [Bl.Good, Region.wanted, Bl.yieldE, List.getElem?_cons_succ, List.getElem?_cons_zero, Option.bind_some, hd, beq_self_eq_true, if_true]
            go_simp
            first | exact rfl | exact ⟨Below.refl _ _, rfl⟩
        case hmono => exact ⟨Bl.mono_eqv _, Bl.mono_eqv _, Bl.mono_eqv _, Bl.mono_eqv _, Bl.mono_eqv _, Bl.mono_eqv _, Bl.mono_eqv _, Bl.mono_eqv _, Bl.mono_eqv _, Bl.mono_eqv _, Bl.mono_eqv _, Bl.mono_eqv _, Bl.mono_eqv _, Bl.mono_eqv _, Bl.mono_eqv _, Bl.mono_eqv _, Bl.mono_eqv _, Bl.mono_eqv _, Bl.mono_eqv _, Bl.mono_eqv _, Bl.mono_eqv _, Bl.mono_eqv _, Bl.mono_eqv _, Bl.mono_eqv _, Bl.mono_eqv _, Bl.mono_eqv _, Bl.mono_eqv _, Bl.mono_eqv _, Bl.mono_eqv _, Bl.mono_eqv _, Bl.mono_eqv _, trivial⟩
        case hend =>
          intro u w1 hext hend
          simp only [Bl.EndE, List.getElem?_cons_succ, List.getElem?_cons_zero, Option.bind_some, List.getD_cons_succ, List.getD_cons_zero, Bl.eqv, true_and] at hend
          simp only [Bl.fillAct, List.setIfInBounds_toArray, List.set_cons_succ, List.set_cons_zero, List.drop_succ_cons, List.drop_zero, hend]
          have HEf := Bl.hid (HE.out.trans hext)
          clear hext hend
          go_wp2_with fail
          go_roundw
          case rel => exact ⟨i + 1, by omega, by go_num, Bl.hid fun j hj => by
            rcases Nat.lt_succ_iff_lt_or_eq.1 hj with g | g
            · exact HI.out j g
            · subst g; exact Hni.out, HEf.out⟩
          case measure => simp [intOf]; omega
      · rw [decide_eq_false hss] at hqs
        have hq2 : ¬ (Bl.bstr s1 = Bl.bstr s2) := fun q => by rw [q] at hqs; simp at hqs
        have Hss := Bl.hid hss
        clear hss
        obtain ⟨e1, he1⟩ : ∃ e1, e1 = Bl.sha s1 := ⟨_, rfl⟩
        obtain ⟨e2, he2⟩ : ∃ e2, e2 = Bl.sha s2 := ⟨_, rfl⟩
        rw [← he1] at HO1 Hq
        rw [← he2] at HO2 Hq
        have He1 := Bl.hid he1
        have He2 := Bl.hid he2
        clear he1 he2 hl1 hl2
        by_cases hse : e1 = e2
        · have heq := Hq.out
          rw [decide_eq_true hse] at heq
          clear hse Hq
          go_wp2_with fail
          apply Bl.wp_region_ev 31 [59, 60, 61, 62, 63, 64, 65, 66, 67, 68, 69, 70, 71, 72, 73, 74, 75, 76, 77, 78, 79, 80, 81, 82, 83, 84, 85, 86, 87, 88, 89] [Bl.eqv _, Bl.eqv _, Bl.eqv _, Bl.eqv _, Bl.eqv _, Bl.eqv _, Bl.eqv _, Bl.eqv _, Bl.eqv _, Bl.eqv _, Bl.eqv _, Bl.eqv _, Bl.eqv _, Bl.eqv _, Bl.eqv _, Bl.eqv _, Bl.eqv _, Bl.eqv _, Bl.eqv _, Bl.eqv _, Bl.eqv _, Bl.eqv _, (fun v w' => Bl.Rdss w' v [s1]), Bl.eqv _, Bl.eqv _, Bl.eqv _, Bl.eqv _, Bl.eqv _, (fun v w' => Bl.Rdss w' v [s2]), Bl.eqv _, Bl.eqv _] (by kernel_rfl) (by kernel_rfl) (by kernel_rfl) (by kernel_rfl)
          case hsteps =>
            refine ⟨?_, ?_, ?_, ?_, ?_, ?_, ?_, ?_, ?_, ?_, ?_, ?_, ?_, ?_, ?_, ?_, ?_, ?_, ?_, ?_, ?_, ?_, ?_, ?_, ?_, ?_, ?_, ?_, ?_, ?_, ?_, trivial⟩
            all_goals
              intro ev w1 hext hb hd
              have e10 := hb 10 (by decide)
              have e11 := hb 11 (by decide)
              have e12 := hb 12 (by decide)
              clear hb
              simp only [Array.getD_eq_getD_getElem?, List.getElem?_toArray, List.getElem?_cons_succ, List.getElem?_cons_zero, Option.getD_some] at e10 e11 e12
              simp only [Bl.DepsE, List.getElem?_cons_succ, List.getElem?_cons_zero, Option.bind_some, List.getD_cons_succ, List.getD_cons_zero, Bl.eqv, and_true] at hd
              have hc := (Bl.bcell hext).1
              have hcl1 := (hc _ (ox + i) HB1.out).trans HC1.out
              have hcl2 := (hc _ (oy + i) HB2.out).trans HC2.out
              have hcv1 := HCv1.out _ hext
              have hcv2 := HCv2.out _ hext
              simp only [Bl.Good, Region.wanted, Bl.yieldE, List.getElem?_cons_succ, List.getElem?_cons_zero, Option.bind_some, hd, beq_self_eq_true, if_true]
              go_simp
              first | (go_at_call 46; (with_reducible refine (HO1.out _ _ hext (by first | exact hd | exact hd.2 | exact hd.1.2 | exact hd.1.1.2 | exact hd.1.1.1.2 | exact hd.1.1.1.1.2 | exact hd.1.1.1.1.1.2 | exact hd.1.1.1.1.1.1.2 | exact hd.1.1.1.1.1.1.1.2 | exact hd.1.1.1.1.1.1.1.1.2 | exact hd.1.1.1.1.1.1.1.1.1.2 | exact hd.1.1.1.1.1.1.1.1.1.1.2 | exact hd.1.1.1.1.1.1.1.1.1.1.1.2 | exact hd.1.1.1.1.1.1.1.1.1.1.1.1.2 | exact hd.1.1.1.1.1.1.1.1.1.1.1.1.1.2 | exact hd.1 | exact hd.1.1 | exact hd.1.1.1 | exact hd.1.1.1.1 | exact hd.1.1.1.1.1 | exact hd.1.1.1.1.1.1 | exact hd.1.1.1.1.1.1.1 | exact hd.1.1.1.1.1.1.1.1 | exact hd.1.1.1.1.1.1.1.1.1 | exact hd.1.1.1.1.1.1.1.1.1.1 | exact hd.1.1.1.1.1.1.1.1.1.1.1 | exact hd.1.1.1.1.1.1.1.1.1.1.1.1 | exact hd.1.1.1.1.1.1.1.1.1.1.1.1.1 | exact hd.2.1 | exact hd.2.2.1 | exact hd.2.2.2.1 | exact hd.2.2.2.2.1 | exact hd.2.2.2.2.2.1 | exact hd.2.2.2.2.2.2.1 | exact hd.2.2.2.2.2.2.2.1 | exact hd.2.2.2.2.2.2.2.2.1 | exact hd.2.2.2.2.2.2.2.2.2.1 | exact hd.2.2.2.2.2.2.2.2.2.2.1 | exact hd.2.2.2.2.2.2.2.2.2.2.2.1 | exact hd.2.2.2.2.2.2.2.2.2.2.2.2.1 | exact hd.2.2.2.2.2.2.2.2.2.2.2.2.2.1)).mono ?_); rintro e w2 ⟨rfl, hE2⟩; exact ⟨_, rfl, hE2, rfl⟩) | (go_at_call 46; (with_reducible refine (HO2.out _ _ hext (by first | exact hd | exact hd.2 | exact hd.1.2 | exact hd.1.1.2 | exact hd.1.1.1.2 | exact hd.1.1.1.1.2 | exact hd.1.1.1.1.1.2 | exact hd.1.1.1.1.1.1.2 | exact hd.1.1.1.1.1.1.1.2 | exact hd.1.1.1.1.1.1.1.1.2 | exact hd.1.1.1.1.1.1.1.1.1.2 | exact hd.1.1.1.1.1.1.1.1.1.1.2 | exact hd.1.1.1.1.1.1.1.1.1.1.1.2 | exact hd.1.1.1.1.1.1.1.1.1.1.1.1.2 | exact hd.1.1.1.1.1.1.1.1.1.1.1.1.1.2 | exact hd.1 | exact hd.1.1 | exact hd.1.1.1 | exact hd.1.1.1.1 | exact hd.1.1.1.1.1 | exact hd.1.1.1.1.1.1 | exact hd.1.1.1.1.1.1.1 | exact hd.1.1.1.1.1.1.1.1 | exact hd.1.1.1.1.1.1.1.1.1 | exact hd.1.1.1.1.1.1.1.1.1.1 | exact hd.1.1.1.1.1.1.1.1.1.1.1 | exact hd.1.1.1.1.1.1.1.1.1.1.1.1 | exact hd.1.1.1.1.1.1.1.1.1.1.1.1.1 | exact hd.2.1 | exact hd.2.2.1 | exact hd.2.2.2.1 | exact hd.2.2.2.2.1 | exact hd.2.2.2.2.2.1 | exact hd.2.2.2.2.2.2.1 | exact hd.2.2.2.2.2.2.2.1 | exact hd.2.2.2.2.2.2.2.2.1 | exact hd.2.2.2.2.2.2.2.2.2.1 | exact hd.2.2.2.2.2.2.2.2.2.2.1 | exact hd.2.2.2.2.2.2.2.2.2.2.2.1 | exact hd.2.2.2.2.2.2.2.2.2.2.2.2.1 | exact hd.2.2.2.2.2.2.2.2.2.2.2.2.2.1)).mono ?_); rintro e w2 ⟨rfl, hE2⟩; exact ⟨_, rfl, hE2, rfl⟩) | exact ⟨Bl.ext_alloc _ _, Bl.rdss_1 (HR1.out.ext hext) _⟩ | exact ⟨Bl.ext_alloc _ _, Bl.rdss_1 (HR2.out.ext hext) _⟩ | exact rfl | exact ⟨Below.refl _ _, rfl⟩
          case hmono => exact ⟨Bl.mono_eqv _, Bl.mono_eqv _, Bl.mono_eqv _, Bl.mono_eqv _, Bl.mono_eqv _, Bl.mono_eqv _, Bl.mono_eqv _, Bl.mono_eqv _, Bl.mono_eqv _, Bl.mono_eqv _, Bl.mono_eqv _, Bl.mono_eqv _, Bl.mono_eqv _, Bl.mono_eqv _, Bl.mono_eqv _, Bl.mono_eqv _, Bl.mono_eqv _, Bl.mono_eqv _, Bl.mono_eqv _, Bl.mono_eqv _, Bl.mono_eqv _, Bl.mono_eqv _, (fun _ _ _ h k => Bl.Rdss.ext h k), Bl.mono_eqv _, Bl.mono_eqv _, Bl.mono_eqv _, Bl.mono_eqv _, Bl.mono_eqv _, (fun _ _ _ h k => Bl.Rdss.ext h k), Bl.mono_eqv _, Bl.mono_eqv _, trivial⟩
          case hend =>
            intro u w1 hext hend
            simp only [Bl.EndE, List.getElem?_cons_succ, List.getElem?_cons_zero, Option.bind_some, List.getD_cons_succ, List.getD_cons_zero, Bl.eqv, true_and] at hend
            simp only [Bl.fillAct, List.setIfInBounds_toArray, List.set_cons_succ, List.set_cons_zero, List.drop_succ_cons, List.drop_zero, hend]
            have HEf := Bl.hid (HEw.out.trans hext)
            clear hext hend
            go_wp2_with fail
            go_ret
            exact ⟨rfl, HEf.out⟩
        · have heq := Hq.out
          rw [decide_eq_false hse] at heq
          have Hni : Hid (¬ (X.getD i [] ≠ Y.getD i [] ∧ Bl.sha (X.getD i []) = Bl.sha (Y.getD i []))) := Bl.hid (by rw [← Hs1.out, ← Hs2.out, ← He1.out, ← He2.out]; exact fun h => hse h.2)
          clear hse Hq
          go_wp2_with fail
          apply Bl.wp_region_ev 31 [59, 60, 61, 62, 63, 64, 65, 66, 67, 68, 69, 70, 71, 72, 73, 74, 75, 76, 77, 78, 79, 80, 81, 82, 83, 84, 85, 86, 87, 88, 89] [Bl.eqv _, Bl.eqv _, Bl.eqv _, Bl.eqv _, Bl.eqv _, Bl.eqv _, Bl.eqv _, Bl.eqv _, Bl.eqv _, Bl.eqv _, Bl.eqv _, Bl.eqv _, Bl.eqv _, Bl.eqv _, Bl.eqv _, Bl.eqv _, Bl.eqv _, Bl.eqv _, Bl.eqv _, Bl.eqv _, Bl.eqv _, Bl.eqv _, (fun v w' => Bl.Rdss w' v [s1]), Bl.eqv _, Bl.eqv _, Bl.eqv _, Bl.eqv _, Bl.eqv _, (fun v w' => Bl.Rdss w' v [s2]), Bl.eqv _, Bl.eqv _] (by kernel_rfl) (by kernel_rfl) (by kernel_rfl) (by kernel_rfl)
          case hsteps =>
            refine ⟨?_, ?_, ?_, ?_, ?_, ?_, ?_, ?_, ?_, ?_, ?_, ?_, ?_, ?_, ?_, ?_, ?_, ?_, ?_, ?_, ?_, ?_, ?_, ?_, ?_, ?_, ?_, ?_, ?_, ?_, ?_, trivial⟩
            all_goals
              intro ev w1 hext hb hd
              have e10 := hb 10 (by decide)
              have e11 := hb 11 (by decide)
              have e12 := hb 12 (by decide)
              clear hb
              simp only [Array.getD_eq_getD_getElem?, List.getElem?_toArray, List.getElem?_cons_succ, List.getElem?_cons_zero, Option.getD_some] at e10 e11 e12
              simp only [Bl.DepsE, List.getElem?_cons_succ, List.getElem?_cons_zero, Option.bind_some, List.getD_cons_succ, List.getD_cons_zero, Bl.eqv, and_true] at hd
              have hc := (Bl.bcell hext).1
              have hcl1 := (hc _ (ox + i) HB1.out).trans HC1.out
              have hcl2 := (hc _ (oy + i) HB2.out).trans HC2.out
              have hcv1 := HCv1.out _ hext
              have hcv2 := HCv2.out _ hext
              simp only [Bl.Good, Region.wanted, Bl.yieldE, List.getElem?_cons_succ, List.getElem?_cons_zero, Option.bind_some, hd, beq_self_eq_true, if_true]
              go_simp
              first | (go_at_call 46; (with_reducible refine (HO1.out _ _ hext (by first | exact hd | exact hd.2 | exact hd.1.2 | exact hd.1.1.2 | exact hd.1.1.1.2 | exact hd.1.1.1.1.2 | exact hd.1.1.1.1.1.2 | exact hd.1.1.1.1.1.1.2 | exact hd.1.1.1.1.1.1.1.2 | exact hd.1.1.1.1.1.1.1.1.2 | exact hd.1.1.1.1.1.1.1.1.1.2 | exact hd.1.1.1.1.1.1.1.1.1.1.2 | exact hd.1.1.1.1.1.1.1.1.1.1.1.2 | exact hd.1.1.1.1.1.1.1.1.1.1.1.1.2 | exact hd.1.1.1.1.1.1.1.1.1.1.1.1.1.2 | exact hd.1 | exact hd.1.1 | exact hd.1.1.1 | exact hd.1.1.1.1 | exact hd.1.1.1.1.1 | exact hd.1.1.1.1.1.1 | exact hd.1.1.1.1.1.1.1 | exact hd.1.1.1.1.1.1.1.1 | exact hd.1.1.1.1.1.1.1.1.1 | exact hd.1.1.1.1.1.1.1.1.1.1 | exact hd.1.1.1.1.1.1.1.1.1.1.1 | exact hd.1.1.1.1.1.1.1.1.1.1.1.1 | exact hd.1.1.1.1.1.1.1.1.1.1.1.1.1 | exact hd.2.1 | exact hd.2.2.1 | exact hd.2.2.2.1 | exact hd.2.2.2.2.1 | exact hd.2.2.2.2.2.1 | exact hd.2.2.2.2.2.2.1 | exact hd.2.2.2.2.2.2.2.1 | exact hd.2.2.2.2.2.2.2.2.1 | exact hd.2.2.2.2.2.2.2.2.2.1 | exact hd.2.2.2.2.2.2.2.2.2.2.1 | exact hd.2.2.2.2.2.2.2.2.2.2.2.1 | exact hd.2.2.2.2.2.2.2.2.2.2.2.2.1 | exact hd.2.2.2.2.2.2.2.2.2.2.2.2.2.1)).mono ?_); rintro e w2 ⟨rfl, hE2⟩; exact ⟨_, rfl, hE2, rfl⟩) | (go_at_call 46; (with_reducible refine (HO2.out _ _ hext (by first | exact hd | exact hd.2 | exact hd.1.2 | exact hd.1.1.2 | exact hd.1.1.1.2 | exact hd.1.1.1.1.2 | exact hd.1.1.1.1.1.2 | exact hd.1.1.1.1.1.1.2 | exact hd.1.1.1.1.1.1.1.2 | exact hd.1.1.1.1.1.1.1.1.2 | exact hd.1.1.1.1.1.1.1.1.1.2 | exact hd.1.1.1.1.1.1.1.1.1.1.2 | exact hd.1.1.1.1.1.1.1.1.1.1.1.2 | exact hd.1.1.1.1.1.1.1.1.1.1.1.1.2 | exact hd.1.1.1.1.1.1.1.1.1.1.1.1.1.2 | exact hd.1 | exact hd.1.1 | exact hd.1.1.1 | exact hd.1.1.1.1 | exact hd.1.1.1.1.1 | exact hd.1.1.1.1.1.1 | exact hd.1.1.1.1.1.1.1 | exact hd.1.1.1.1.1.1.1.1 | exact hd.1.1.1.1.1.1.1.1.1 | exact hd.1.1.1.1.1.1.1.1.1.1 | exact hd.1.1.1.1.1.1.1.1.1.1.1 | exact hd.1.1.1.1.1.1.1.1.1.1.1.1 | exact hd.1.1.1.1.1.1.1.1.1.1.1.1.1 | exact hd.2.1 | exact hd.2.2.1 | exact hd.2.2.2.1 | exact hd.2.2.2.2.1 | exact hd.2.2.2.2.2.1 | exact hd.2.2.2.2.2.2.1 | exact hd.2.2.2.2.2.2.2.1 | exact hd.2.2.2.2.2.2.2.2.1 | exact hd.2.2.2.2.2.2.2.2.2.1 | exact hd.2.2.2.2.2.2.2.2.2.2.1 | exact hd.2.2.2.2.2.2.2.2.2.2.2.1 | exact hd.2.2.2.2.2.2.2.2.2.2.2.2.1 | exact hd.2.2.2.2.2.2.2.2.2.2.2.2.2.1)).mono ?_); rintro e w2 ⟨rfl, hE2⟩; exact ⟨_, rfl, hE2, rfl⟩) | exact ⟨Bl.ext_alloc _ _, Bl.rdss_1 (HR1.out.ext hext) _⟩ | exact ⟨Bl.ext_alloc _ _, Bl.rdss_1 (HR2.out.ext hext) _⟩ | exact rfl | exact ⟨Below.refl _ _, rfl⟩
          case hmono => exact ⟨Bl.mono_eqv _, Bl.mono_eqv _, Bl.mono_eqv _, Bl.mono_eqv _, Bl.mono_eqv _, Bl.mono_eqv _, Bl.mono_eqv _, Bl.mono_eqv _, Bl.mono_eqv _, Bl.mono_eqv _, Bl.mono_eqv _, Bl.mono_eqv _, Bl.mono_eqv _, Bl.mono_eqv _, Bl.mono_eqv _, Bl.mono_eqv _, Bl.mono_eqv _, Bl.mono_eqv _, Bl.mono_eqv _, Bl.mono_eqv _, Bl.mono_eqv _, Bl.mono_eqv _, (fun _ _ _ h k => Bl.Rdss.ext h k), Bl.mono_eqv _, Bl.mono_eqv _, Bl.mono_eqv _, Bl.mono_eqv _, Bl.mono_eqv _, (fun _ _ _ h k => Bl.Rdss.ext h k), Bl.mono_eqv _, Bl.mono_eqv _, trivial⟩
          case hend =>
            intro u w1 hext hend
            simp only [Bl.EndE, List.getElem?_cons_succ, List.getElem?_cons_zero, Option.bind_some, List.getD_cons_succ, List.getD_cons_zero, Bl.eqv, true_and] at hend
            simp only [Bl.fillAct, List.setIfInBounds_toArray, List.set_cons_succ, List.set_cons_zero, List.drop_succ_cons, List.drop_zero, hend]
            have HEf := Bl.hid (HE.out.trans hext)
            clear hext hend
            go_wp2_with fail
            go_roundw
            case rel => exact ⟨i + 1, by omega, by go_num, Bl.hid fun j hj => by
              rcases Nat.lt_succ_iff_lt_or_eq.1 hj with g | g
              · exact HI.out j g
              · subst g; exact Hni.out, HEf.out⟩
            case measure => simp [intOf]; omega
    · obtain rfl : i = lx := by omega
      have HLf2 := Bl.hid (HLf.out (by
        rcases HCl.out with ⟨j, g1, g2, g3, g4⟩ | h
        · exact absurd ⟨g3, g4⟩ (HI.out j (by rw [Hlx.out]; exact g1))
        · exact h))
      have HEw := Bl.hid (HE7.out.trans HE.out)
      clear hlt
      go_wp2_with fail
      refine (HLf2.out wr HEw.out).mono ?_
      rintro e w9 ⟨rfl, hE9⟩
      have HE9 := Bl.hid (HEw.out.trans hE9)
      clear hE9
      go_wp2_with fail
      go_ret
      exact ⟨rfl, HE9.out⟩
end Go.Proofs.YtmfooocdnoflaaaDoor

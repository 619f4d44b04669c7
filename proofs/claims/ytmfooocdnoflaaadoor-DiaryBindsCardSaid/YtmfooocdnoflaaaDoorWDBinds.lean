/- Walk of the law DiaryBinds. -/
import Derived.Test.YtmfooocdnoflaaaDoorDia2
import Derived.Test.YtmfooocdnoflaaaDoorRv0
import Derived.Test.YtmfooocdnoflaaaDoorWSame
import Derived.Test.YtmfooocdnoflaaaDoorDB3
namespace Go.Proofs.Bl
open Go Go.RowKit
theorem take0_no {m : Nat} (h : m ≤ 30) {root : List Int} (hn : takeE [] (m : Int) root [] ≠ 0) : m = 0 := by
  unfold takeE at hn
  by_cases h1 : (m : Int) < 1 ∨ 512 < (m : Int)
  · omega
  · rw [if_neg h1] at hn
    exact absurd rfl hn
theorem take0_yes {m : Nat} {root : List Int} (hn : takeE [] (m : Int) root [] = 0) : 1 ≤ m ∧ takeN [] (m : Int) root [] = [(m, root)] := by
  have h1 : ¬ ((m : Int) < 1 ∨ 512 < (m : Int)) := fun q => by unfold takeE at hn; rw [if_pos q] at hn; cases hn
  refine ⟨by omega, ?_⟩
  unfold takeN
  rw [if_pos ⟨hn, by show ((0 : Nat) : Int) < (m : Int); omega⟩]
  simp
theorem take1_yes {m n : Nat} {ra rb : List Int} {p : List (List Int)} (h : takeE [(m, ra)] (n : Int) rb p = 0) : 1 ≤ m ∧ m ≤ n ∧ p.length = cntG m n true ∧ madeD m n ra true p = (ra, rb) := by
  unfold takeE at h
  split at h
  · cases h
  · rw [if_neg (by simp)] at h
    split at h
    · cases h
    · have hl : lastN [(m, ra)] = (m, ra) := rfl
      rw [hl] at h
      obtain ⟨a, b, h1, h2, h3, h4, _, h6, h7⟩ := chkG_zero h
      have h1 : (m : Int) = (a : Int) := h1
      have e1 : m = a := by omega
      have e2 : n = b := by omega
      subst e1 e2
      exact ⟨h3, h4, h6, h7⟩
end Go.Proofs.Bl
namespace Go.Proofs.YtmfooocdnoflaaaDoor
open Go Go.RowKit Go.Proofs

set_option maxRecDepth 100000 in
set_option maxHeartbeats 4000000 in
theorem dbinds_all (va vb vp : Value) (xs ys ds : List (List Int)) (w : World) (S : List Nat) (a : Nat → Addr) (hA : Bl.Rdss w va xs) (hB : Bl.Rdss w vb ys) (hP : Bl.RdD w vp ds) (hba : ∀ p ∈ xs, Bl.Byt p) (hbb : ∀ p ∈ ys, Bl.Byt p) (hd : Bl.Dig ds) (hg : GlobR w) (hS : ∀ i, 1 ≤ i → i ≤ 20 → i ∈ S) (he : Errs S a w) :
    Calls Tryd.prog 5 #[va, vb, vp] w fun e w' => e = .returned (.bool true) ∧ Bl.Ext w w' := by
  have HLa : Hid (∀ w2, Bl.Ext w w2 → Calls Tryd.prog 19 #[va, .int .i64 30] w2 fun e w' => w' = w2 ∧ (e = .returned (.bool true) ∨ (e = .returned (.bool false) ∧ (xs.length : Int) ≤ 30 ∧ ∀ p ∈ xs, p.length ≤ 200))) := Bl.hid fun w2 h2 => long_any va xs w2 30 (hA.ext h2)
  have HLb : Hid (∀ w2, Bl.Ext w w2 → Calls Tryd.prog 19 #[vb, .int .i64 30] w2 fun e w' => w' = w2 ∧ (e = .returned (.bool true) ∨ (e = .returned (.bool false) ∧ (ys.length : Int) ≤ 30 ∧ ∀ p ∈ ys, p.length ≤ 200))) := Bl.hid fun w2 h2 => long_any vb ys w2 30 (hB.ext h2)
  obtain ⟨pa, ca, hfa, _, _⟩ := hA.formG
  obtain ⟨pb, cb, hfb, hnb, hcb⟩ := hB.formG
  obtain ⟨pp, cp, hfp, _, hcp⟩ := hP.form
  subst hfa hfb hfp
  unfold maxLen at hcb hcp
  have HA := Bl.hid hA
  have HB := Bl.hid hB
  have HP := Bl.hid hP
  have Hba := Bl.hid hba
  have Hbb := Bl.hid hbb
  have Hd := Bl.hid hd
  have Hg := Bl.hid hg
  have HS := Bl.hid hS
  have He := Bl.hid he
  obtain ⟨m, hm⟩ : ∃ m, m = xs.length := ⟨_, rfl⟩
  obtain ⟨n, hn⟩ : ∃ n, n = ys.length := ⟨_, rfl⟩
  obtain ⟨k, hk⟩ : ∃ k, k = ds.length := ⟨_, rfl⟩
  have Hm := Bl.hid hm
  have Hn := Bl.hid hn
  have Hk := Bl.hid hk
  rw [← hm] at HA HLa ⊢
  rw [← hn] at HB HLb hnb ⊢
  rw [← hk] at HP ⊢
  clear hA hB hP hba hbb hd hg hS he hm hn hk
  go_enter Tryd.func5, Tryd.ntmps5
  go_wp2_with fail
  refine (alive39 w S a He.out HS.out Hg.out.s).mono ?_
  rintro e w1 ⟨rfl, hE1⟩
  have HE1 := Bl.hid hE1
  clear hE1
  go_wp2_with fail
  refine (HLa.out w1 HE1.out).mono ?_
  rintro e w2 ⟨hw2, (rfl | ⟨rfl, h30a, h200a⟩)⟩
  · subst hw2
    go_wp2_with fail
    go_ret
    exact ⟨rfl, HE1.out⟩
  subst hw2
  have H3a := Bl.hid h30a
  have H2a := Bl.hid h200a
  clear h30a h200a HLa
  go_wp2_with fail
  refine (HLb.out w2 HE1.out).mono ?_
  rintro e w3 ⟨hw3, (rfl | ⟨rfl, h30b, h200b⟩)⟩
  · subst hw3
    go_wp2_with fail
    go_ret
    exact ⟨rfl, HE1.out⟩
  subst hw3
  have H3b := Bl.hid h30b
  have H2b := Bl.hid h200b
  clear h30b h200b HLb
  by_cases hk40 : (40 : Int) < (k : Int)
  · go_wp2_with fail
    go_ret
    exact ⟨rfl, HE1.out⟩
  have H40 := Bl.hid hk40
  go_wp2_with fail
  refine (dnew_any w3).mono ?_
  rintro e w4 ⟨rfl, hD4, hE4⟩
  obtain ⟨b, hb⟩ : ∃ b, b = w3.heap.size := ⟨_, rfl⟩
  rw [← hb] at hD4 ⊢
  have HD4 := Bl.hid hD4
  have HE4 := Bl.hid (HE1.out.trans hE4)
  have HE34 := Bl.hid hE4
  have Hb := Bl.hid hb
  have Hml : Hid (m ≤ 30) := Bl.hid (by have := H3a.out; omega)
  have Hnl : Hid (n ≤ 30) := Bl.hid (by have := H3b.out; omega)
  have Hkl : Hid (k ≤ 40) := Bl.hid (by omega)
  clear hD4 hE4 hb hk40 H40
  go_wp2_with fail
  refine (refroot_any _ xs w4 (HA.out.ext HE4.out) (Hg.out.ext HE4.out) Hba.out (fun q hq => by have := H2a.out q hq; omega) (by have := Hml.out; have := Hm.out; omega)).mono ?_
  rintro e w5 ⟨rfl, hE5⟩
  have HE5 := Bl.hid (HE4.out.trans hE5)
  have HE35 := Bl.hid (HE34.out.trans hE5)
  have HD5 := Bl.hid (HD4.out.ext hE5)
  have Hra : Hid ((Bl.rootD xs).length = 32 ∧ Bl.Byt (Bl.rootD xs)) := Bl.hid ⟨Bl.rootD_length xs (by have := Hml.out; have := Hm.out; omega), Bl.rootD_byt xs (by have := Hml.out; have := Hm.out; omega)⟩
  clear hE5
  obtain ⟨ra, hra⟩ : ∃ ra, ra = Bl.rootD xs := ⟨_, rfl⟩
  rw [← hra] at Hra ⊢
  have HRA := Bl.hid hra
  clear hra
  have HT1 := Bl.hid (dtake_any b (.slice none 0 0) [] m ra (.slice none 0 0) [] w3 w5 S a HD5.out Bl.Ris.nil (by decide) Hra.out (Bl.Rds.nil _) (fun q hq => (by cases hq)) (He.out.ext HE5.out) (HS.out 1 (by decide) (by decide)) (HS.out 8 (by decide) (by decide)) (HS.out 15 (by decide) (by decide)) (HS.out 19 (by decide) (by decide)) (Hg.out.ext HE5.out).s HE35.out (Nat.le_of_eq Hb.out.symm) (fun k q => (by cases q)))
  obtain ⟨K1, hK1⟩ : ∃ K1, K1 = Bl.takeE [] (m : Int) ra [] := ⟨_, rfl⟩
  rw [← hK1] at HT1
  have HK1 := Bl.hid hK1
  clear hK1
  go_wp2_with fail
  refine HT1.out.mono ?_
  rintro e w6 ⟨rfl, v6, hD6, hv6, hA6⟩
  have HE36 : Hid (Bl.Ext w3 w6) := Bl.hid (Below.trans HE35.out (hA6.below HE35.out.size (Nat.le_of_eq Hb.out.symm) (fun k q => (by cases q))))
  have HE6 := Bl.hid (HE1.out.trans HE36.out)
  have HD6 := Bl.hid hD6
  have Hv6 : Hid (∀ k, v6.ownBlock = some k → w3.heap.size ≤ k) := Bl.hid fun k q => by
    rcases hv6 k q with h | h
    · cases h
    · exact Nat.le_trans HE35.out.size h
  clear hD6 hv6 hA6 HT1 HD5 HD4
  by_cases hz : K1 = 0
  case neg =>
    rw [errN_pos a K1 hz]
    have hm0 : m = 0 := Bl.take0_no Hml.out (root := ra) (by rw [← HK1.out]; exact hz)
    subst hm0
    clear hz
    go_wp2_with fail
    go_ret
    exact ⟨rfl, HE6.out⟩
  rw [hz, errN_zero]
  obtain ⟨hm1, hN⟩ := Bl.take0_yes (root := ra) (HK1.out.symm.trans hz)
  rw [hN] at HD6
  have Hm1 := Bl.hid hm1
  clear hz hN HK1 hm1
  go_wp2_with fail
  refine (refroot_any _ ys w6 (HB.out.ext HE6.out) (Hg.out.ext HE6.out) Hbb.out (fun q hq => by have := H2b.out q hq; omega) (by have := Hnl.out; have := Hn.out; omega)).mono ?_
  rintro e w7 ⟨rfl, hE7⟩
  have HE7 := Bl.hid (HE6.out.trans hE7)
  have HE37 := Bl.hid (HE36.out.trans hE7)
  have HD7 := Bl.hid (HD6.out.ext hE7)
  have Hrb : Hid ((Bl.rootD ys).length = 32 ∧ Bl.Byt (Bl.rootD ys)) := Bl.hid ⟨Bl.rootD_length ys (by have := Hnl.out; have := Hn.out; omega), Bl.rootD_byt ys (by have := Hnl.out; have := Hn.out; omega)⟩
  clear hE7
  obtain ⟨rb, hrb⟩ : ∃ rb, rb = Bl.rootD ys := ⟨_, rfl⟩
  rw [← hrb] at Hrb ⊢
  have HRB := Bl.hid hrb
  clear hrb
  go_wp2_with fail
  refine (digests13_any _ ds w7 (Bl.Rds.ext HP.out HE7.out) Hd.out (by have := Hkl.out; have := Hk.out; omega)).mono ?_
  rintro e w8 ⟨p8, c8, rfl, hown8, hE8⟩
  have HE8 := Bl.hid (HE7.out.trans hE8)
  have HE38 := Bl.hid (HE37.out.trans hE8)
  have HD8 := Bl.hid (HD7.out.ext hE8)
  have HP8 : Hid (Bl.RdD w8 (.slice p8 ds.length c8) ds) := Bl.hid (Bl.Rds.of_owns hown8)
  clear hE8 hown8
  have HT2 := Bl.hid (dtake_any b v6 [(m, ra)] n rb (.slice p8 ds.length c8) ds w3 w8 S a HD8.out ⟨fun x hx => by rw [List.mem_singleton] at hx; subst hx; exact ⟨Hm1.out, by show m ≤ 512; have := Hml.out; omega⟩, List.pairwise_singleton _ _⟩ (by show 1 ≤ 500; omega) Hrb.out HP8.out Hd.out (He.out.ext HE8.out) (HS.out 1 (by decide) (by decide)) (HS.out 8 (by decide) (by decide)) (HS.out 15 (by decide) (by decide)) (HS.out 19 (by decide) (by decide)) (Hg.out.ext HE8.out).s HE38.out (Nat.le_of_eq Hb.out.symm) Hv6.out)
  obtain ⟨K2, hK2⟩ : ∃ K2, K2 = Bl.takeE [(m, ra)] (n : Int) rb ds := ⟨_, rfl⟩
  rw [← hK2] at HT2
  have HK2 := Bl.hid hK2
  rw [← Hk.out] at HT2 ⊢
  clear hK2
  go_wp2_with fail
  refine HT2.out.mono ?_
  rintro e w9 ⟨rfl, v9, hD9, hv9, hA9⟩
  have HE39 : Hid (Bl.Ext w3 w9) := Bl.hid (Below.trans HE38.out (hA9.below HE38.out.size (Nat.le_of_eq Hb.out.symm) (fun k q => Hv6.out k q)))
  have HE9 := Bl.hid (HE1.out.trans HE39.out)
  clear hD9 hv9 hA9 HT2 HD8 HD7 HD6
  by_cases hz : K2 = 0
  case neg =>
    rw [errN_pos a K2 hz]
    clear hz
    go_wp2_with fail
    go_ret
    exact ⟨rfl, HE9.out⟩
  rw [hz, errN_zero]
  obtain ⟨_, hmn, hcn, hmd⟩ := Bl.take1_yes (HK2.out.symm.trans hz)
  have Hmn := Bl.hid (And.intro hmn (And.intro hcn hmd))
  have hmn' : ¬ ((n : Int) < (m : Int)) := by omega
  have hm4 : (m : Int) ≤ (n : Int) := by omega
  have hm5 : (m : Int) ≤ (cb : Int) := by omega
  have hm0 : (0 : Int) ≤ (m : Int) := by omega
  obtain ⟨b2, o2, hpb⟩ : ∃ b o, pb = some ⟨b, o, none⟩ := by
    obtain ⟨vs, hv, hl, _⟩ := HB.out
    obtain ⟨b, o, h, _⟩ := Bl.Rdss.cell' hv hl 0 (by have := Hn.out; have := Hm1.out; omega)
    exact ⟨b, o, h⟩
  subst hpb
  have HBt : Hid (Bl.Rdss w (.slice (some ⟨b2, o2, none⟩) m cb) (ys.take m)) := Bl.hid (Bl.Rdss.take HB.out m (by have := Hn.out; omega))
  have HSL := Bl.hid (samelists_any (.slice pa m ca) (.slice (some ⟨b2, o2, none⟩) m cb) xs (ys.take m) w9 (HA.out.ext HE9.out) (HBt.out.ext HE9.out) Hba.out (fun q hq => Hbb.out q (List.mem_of_mem_take hq)))
  clear hz hmn hcn hmd HK2
  by_cases hsame : xs = ys.take m
  · rw [decide_eq_true hsame] at HSL
    clear hsame
    go_wp2_with fail
    refine HSL.out.mono ?_
    rintro e w10 ⟨rfl, hE10⟩
    have HE10 := Bl.hid (HE9.out.trans hE10)
    clear hE10
    go_wp2_with fail
    go_ret
    exact ⟨rfl, HE10.out⟩
  · rw [decide_eq_false hsame] at HSL
    have HCl : Hid (∀ w2, Bl.Ext w w2 → Calls Tryd.prog 26 #[.slice pa m ca, .slice (some ⟨b2, o2, none⟩) n cb, .slice pp k cp] w2 fun e w' => e = .returned (.bool true) ∧ Bl.Ext w2 w') := Bl.hid fun w2 h2 => clash39_any _ _ _ xs ys ds w2 (HA.out.ext h2) (HB.out.ext h2) (Bl.Rds.ext HP.out h2) Hd.out Hba.out Hbb.out H2a.out H2b.out (Hg.out.ext h2) (by have := Hm.out; have := Hm1.out; omega) (by have := Hm.out; have := Hn.out; have := Hmn.out.1; omega) (by have := Hn.out; have := Hnl.out; omega) (by rw [← Hm.out, ← Hn.out]; exact Hmn.out.2.1) (by rw [← Hm.out, ← Hn.out, ← HRA.out, ← HRB.out]; exact Hmn.out.2.2) (by rw [← Hm.out]; exact hsame)
    clear hsame
    go_wp2_with fail
    refine HSL.out.mono ?_
    rintro e w10 ⟨rfl, hE10⟩
    have HE10 := Bl.hid (HE9.out.trans hE10)
    clear hE10
    go_wp2_with fail
    refine (HCl.out w10 HE10.out).mono ?_
    rintro e w11 ⟨rfl, hE11⟩
    have HE11 := Bl.hid (HE10.out.trans hE11)
    clear hE11
    go_wp2_with fail
    go_ret
    exact ⟨rfl, HE11.out⟩
end Go.Proofs.YtmfooocdnoflaaaDoor

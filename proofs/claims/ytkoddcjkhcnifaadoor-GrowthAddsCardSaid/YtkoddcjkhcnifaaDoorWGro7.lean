/- Walk of baileeref14.Peaks. -/
import Derived.Test.YtkoddcjkhcnifaaDoorWGro6
import Derived.Test.YtkoddcjkhcnifaaDoorWRefOver
import Derived.Test.YtkoddcjkhcnifaaDoorDigs2
import Derived.Test.YtkoddcjkhcnifaaDoorGroQ
import Derived.Test.YtkoddcjkhcnifaaDoorLib0
namespace Go.Proofs.Bl
open Go Go.RowKit
/-- what is left behind k, at whatever address -/
theorem RdD.rest {w : World} {b o n c : Nat} {ds : List (List Int)} (h : RdD w (.slice (some ⟨b, o, none⟩) n c) ds) (hd : Dig ds) (hn : ds.length = n) (hc : n ≤ c) (hm : c ≤ maxLen) (k : Nat) (hk : k ≤ n) : RdD w (.slice (some ⟨b, o + k * 32, none⟩) (n - k) (c - k)) (ds.drop k) := by
  rcases Nat.lt_or_ge k n with q | q
  · exact h.drop hd k (by omega)
  · obtain rfl : k = n := by omega
    have e : ds.drop k = [] := by rw [← hn, List.drop_length]
    rw [e, Nat.sub_self]
    exact .inr ⟨b, _, _, rfl, Nat.zero_le _, by omega, fun j v hv => by simp [cellsD] at hv⟩
end Go.Proofs.Bl
namespace Go.Proofs.YtkoddcjkhcnifaaDoor
open Go.RowKit Go.Proofs

set_option maxRecDepth 100000 in
set_option maxHeartbeats 1000000 in
theorem refgpeaks_any (v : Value) (ds : List (List Int)) (w : World) (hR : Bl.RdD w v ds) (hd : Bl.Dig ds) (hn : ds.length ≤ 1000) (hg : GlobR w) :
    Calls Tryd.prog 18 #[v] w fun e w' => ∃ p c, e = .returned (.slice p (Bl.peaksD ds).length c) ∧ w'.ownsRow w.heap.size 40 32 (.slice p (Bl.peaksD ds).length c) (Bl.peaksD ds).length (Bl.cellsD (Bl.peaksD ds)) ∧ Bl.Ext w w' := by
  obtain ⟨p, c, hvf, hvn, hvc⟩ := hR.form
  subst hvf
  have HR := Bl.hid hR
  have Hd := Bl.hid hd
  have Hg := Bl.hid hg
  have Hown0 := Bl.hid (Bl.owns_nil_lit w 40 w.heap.size (Nat.le_refl _) 32)
  have HE0 := Bl.hid (Bl.ext_alloc w (.cells #[] 40))
  obtain ⟨PD, hPD⟩ : ∃ PD, PD = Bl.peaksD ds := ⟨_, rfl⟩
  rw [← hPD]
  have HPD := Bl.hid hPD
  obtain ⟨n, hn0⟩ : ∃ n, n = ds.length := ⟨_, rfl⟩
  rw [← hn0] at hn hvn ⊢
  have Hn := Bl.hid hn0
  clear hR hd hn0 hPD hg
  go_enter Tryd.func18, Tryd.ntmps18
  go_wp2_with fail
  go_loopw [0, 3] (fun l' o' wr => ∃ (m cl ko co : Nat) (pl po : Option Addr) (ds' acc : List (List Int)), l' = .slice pl m cl ∧ o' = .slice po ko co ∧ m ≤ 1000 ∧ ko ≤ 1000 ∧ Hid (ds'.length = m ∧ acc.length = ko ∧ Bl.Dig ds' ∧ acc ++ Bl.peaksD ds' = PD ∧ Bl.RdD w (.slice pl m cl) ds' ∧ wr.ownsRow w.heap.size 40 32 (.slice po ko co) ko (Bl.cellsD acc) ∧ ko + m ≤ 1000) ∧ Bl.Ext w wr) (fun l' _ _ => Bl.lenS l')
  case atStart => exact ⟨n, c, 0, 0, p, _, ds, [], rfl, rfl, hn, Nat.zero_le _, Bl.hid ⟨Hn.out.symm, rfl, Hd.out, HPD.out.symm, by rw [Hn.out]; exact HR.out, Hown0.out, by omega⟩, HE0.out⟩
  case round =>
    obtain ⟨m, cl, ko, co, pl, po, ds', acc, rfl, rfl, hm, hko, HA, hE⟩ := hrel
    have HE := Bl.hid hE
    clear hE
    by_cases hm0 : 0 < m
    · obtain ⟨a1, a2, a3, a4, a5, a6, a7⟩ := HA.out
      obtain ⟨b2, o2, c2, hq, hq1, hq2, hbl2, _⟩ := Bl.RdD.pos (by rw [← a1] at a5; exact a5) a3 (by omega)
      injection hq with hq3 hq4 hq5
      subst hq3 hq5
      rw [a1] at hq1
      have A1 := Bl.hid a1
      have A2 := Bl.hid a2
      have A3 := Bl.hid a3
      have A4 := Bl.hid a4
      have A5 := Bl.hid a5
      have A6 := Bl.hid a6
      have A7 := Bl.hid a7
      have Hq2 := Bl.hid hq2
      unfold maxLen at hq2
      have hm0' : (0 : Int) < (m : Int) := by omega
      clear a1 a2 a3 a4 a5 a6 a7 HA hq4 hbl2
      go_wp2_with fail
      go_loop [4] (fun k' => ∃ q j : Nat, k' = .int .i64 q ∧ 1 ≤ q ∧ q ≤ m ∧ Hid (q = 2 ^ j)) (fun k' => m - (intOf k').toNat)
      case atStart => exact ⟨1, 0, rfl, by omega, by omega, rfl⟩
      case round =>
        obtain ⟨q, j, rfl, h1, h2, hj⟩ := hrel
        by_cases hlt : 2 * q ≤ m
        · have h3 : 2 * (q : Int) ≤ (m : Int) := by omega
          go_wp2_with fail
          go_round
          case rel => exact ⟨2 * q, j + 1, by go_num, by omega, by omega, Bl.hid (by rw [hj.out, Nat.pow_succ, Nat.mul_comm])⟩
          case measure => simp [intOf]; omega
        · have h3 : ¬ (2 * (q : Int) ≤ (m : Int)) := by omega
          have Hgp : Hid (Bl.gp m = q) := Bl.hid (by rw [hj.out]; exact Bl.gp_of_pow m j (by omega) (by rw [← hj.out]; exact h2) (by rw [← hj.out]; omega))
          have Hpk := Bl.hid (Bl.peaks_hi Bl.ndD Bl.zD ds' (by rw [A1.out]; omega) (by rw [A1.out]; omega))
          have hx1 : (q : Int) ≤ (m : Int) := by omega
          have hx3 : (0 : Int) ≤ (q : Int) := by omega
          have hx5 : (q : Int) ≤ (cl : Int) := by omega
          have hx6 : (m : Int) ≤ (cl : Int) := by omega
          have Htk := Bl.hid (Bl.RdD.take (Bl.Rds.ext A5.out HE.out) A3.out q (by rw [A1.out]; exact h2))
          have Hrs := Bl.hid (Bl.RdD.rest A5.out A3.out A1.out hq1 Hq2.out q h2)
          have Hov := Bl.hid (refover_any (ds'.take q).length (ds'.take q) _ wr rfl (by rw [List.length_take, A1.out]; omega) (A3.out.take q) Htk.out (Hg.out.ext HE.out))
          have Hol := Bl.hid (Bl.overD_dig _ (ds'.take q) rfl (A3.out.take q) (by rw [List.length_take, A1.out]; omega))
          obtain ⟨d, hdd⟩ : ∃ d, d = Bl.overD (ds'.take q) := ⟨_, rfl⟩
          rw [← hdd] at Hov Hol
          have Hdd := Bl.hid hdd
          clear hdd Htk
          go_wp2_with fail
          refine Hov.out.mono ?_
          rintro e w7 ⟨rfl, hE7⟩
          have HE7 := Bl.hid (HE.out.trans hE7)
          have Hown2 := Bl.hid (Bl.owns_ext (Bl.owns_ext A6.out hE7) (Bl.ext_alloc w7 (.cells (Bl.ints .u8 d).toArray 40)))
          have Hnew := Bl.hid (Bl.rds_dig w7 40 d Hol.out.1)
          have HE8 : Hid (Bl.Ext w (w7.alloc (.cells (Bl.ints .u8 d).toArray 40))) := Bl.hid (HE7.out.trans (Bl.ext_alloc _ _))
          clear hE7 Hov
          go_wp2_with (with_reducible refine Bl.stop_build ?_)
          refine Bl.go_on ?_
          refine Bl.wpL_build1 tArr (by decide) rfl (by simp [Hol.out.1]) ?_
          go_wp2_with (with_reducible refine Bl.stop_append ?_)
          refine Bl.go_on ?_
          refine Bl.wpL_app tArr Hown2.out Hnew.out rfl rfl (by rw [Bl.cellsD_one, Bl.ints_length, Hol.out.1]) (Bl.cellsD_one' _) (by unfold maxLen; omega) (by omega) HE8.out.size ?_
          intro q3 d3 w9 hown9 hg9 hB9 hK9 hn9 hc9
          have HE9 : Hid (Bl.Ext w w9) := Bl.hid (Below.trans HE8.out hB9)
          have Hpe : Hid (acc ++ [d] ++ Bl.peaksD (ds'.drop q) = PD) := Bl.hid (by
            have h := Hpk.out
            rw [A1.out, Hgp.out] at h
            rw [← A4.out]
            unfold Bl.peaksD
            rw [h, Hdd.out, List.append_assoc]
            rfl)
          have Ho9 : Hid (w9.ownsRow w.heap.size 40 32 (.slice q3 (ko + 1) d3) (ko + 1) (Bl.cellsD (acc ++ [d]))) := Bl.hid (by rw [Bl.cellsD_append]; exact hown9)
          have Hac : Hid ((acc ++ [d]).length = ko + 1) := Bl.hid (by rw [List.length_append, A2.out]; rfl)
          have Hdl : Hid ((ds'.drop q).length = m - q) := Bl.hid (by rw [List.length_drop, A1.out])
          have hk1 : ko + 1 ≤ 1000 := by have := A7.out; omega
          have Hk2 : Hid (ko + 1 + (m - q) ≤ 1000) := Bl.hid (by have := A7.out; omega)
          clear hown9 hg9 hB9 hK9 Hown2 Hnew HE8 Hpk
          by_cases hqc : q = cl
          · obtain rfl : m = q := by omega
            subst hqc
            go_wp2_with fail
            go_roundw
            case rel => exact ⟨0, 0, ko + 1, d3, some ⟨b2, o2, none⟩, q3, ds'.drop m, _, by simp, rfl, by omega, hk1, Bl.hid ⟨by rw [Hdl.out]; omega, Hac.out, A3.out.drop m, Hpe.out, by rw [show ds'.drop m = [] from by rw [← A1.out, List.drop_length]]; exact .inl ⟨⟨_, rfl⟩, rfl, rfl⟩, Ho9.out, by omega⟩, HE9.out⟩
            case measure => simp [Bl.lenS]; omega
          · have hqc' : ¬ (cl = q) := fun h => hqc h.symm
            go_wp2_with fail
            go_roundw
            case rel => exact ⟨m - q, cl - q, ko + 1, d3, _, q3, ds'.drop q, _, rfl, rfl, by omega, hk1, Bl.hid ⟨Hdl.out, Hac.out, A3.out.drop q, Hpe.out, Hrs.out, Ho9.out, Hk2.out⟩, HE9.out⟩
            case measure => simp [Bl.lenS]; omega
    · obtain rfl : m = 0 := by omega
      obtain ⟨a1, a2, a3, a4, a5, a6, a7⟩ := HA.out
      rw [List.length_eq_zero_iff.1 a1] at a4
      have a4' : acc = PD := by rw [← a4]; exact (List.append_nil _).symm
      subst a4'
      have Ho := Bl.hid a6
      have Hk := Bl.hid a2
      clear a1 a2 a3 a4 a5 a6 a7 HA
      go_wp2_with fail
      go_ret
      refine ⟨po, co, ?_, ?_, HE.out⟩
      · rw [Hk.out]; rfl
      · rw [Hk.out]; exact Ho.out
end Go.Proofs.YtkoddcjkhcnifaaDoor

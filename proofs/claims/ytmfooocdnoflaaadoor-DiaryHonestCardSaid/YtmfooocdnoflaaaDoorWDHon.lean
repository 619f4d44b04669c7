/- Walk of the law DiaryHonest. -/
import Derived.Test.YtmfooocdnoflaaaDoorDia2
import Derived.Test.YtmfooocdnoflaaaDoorWRefRoot
import Derived.Test.YtmfooocdnoflaaaDoorWGro9
namespace Go.Proofs.Bl
open Go Go.RowKit
theorem agE_own {ps : List (List Int)} {q : Nat} (h : q ≤ ps.length) : agE (q, rootD (ps.take q)) ps = 0 := by
  unfold agE
  rw [if_neg (by show ¬ ps.length < q; omega), if_pos rfl]
/-- what holds of an honest diary: the last size that was told, and its root -/
structure Hon (N : List Nt) (lst : Nat) (ps : List (List Int)) : Prop where
  ris : Ris N
  le : lst ≤ ps.length
  zero : lst = 0 → N.length = 0
  last : N.length ≠ 0 → lastN N = (lst, rootD (ps.take lst))
  nz : N.length = 0 → lst = 0
  ag : ∀ x ∈ N, agE x ps = 0
theorem Hon.nil (ps : List (List Int)) : Hon [] 0 ps := ⟨Ris.nil, Nat.zero_le _, fun _ => rfl, fun h => absurd rfl h, fun _ => rfl, fun x hx => by cases hx⟩
theorem Hon.lastSize {N : List Nt} {lst : Nat} {ps : List (List Int)} (h : Hon N lst ps) : (lastN N).1 = lst := by
  by_cases hn : N.length = 0
  · rw [h.nz hn]
    obtain rfl := List.length_eq_zero_iff.1 hn
    rfl
  · rw [h.last hn]
theorem Hon.next {N : List Nt} {lst q : Nat} {ps : List (List Int)} {p : List (List Int)} (h : Hon N lst ps) (h1 : lst ≤ q) (h2 : 1 ≤ q) (h3 : q ≤ ps.length) (h0 : takeE N (q : Int) (rootD (ps.take q)) p = 0) : Hon (takeN N (q : Int) (rootD (ps.take q)) p) q ps := by
  have hls := h.lastSize
  have hr := h.ris.take (q : Int) (rootD (ps.take q)) p
  unfold takeN at hr ⊢
  rw [h0] at hr ⊢
  by_cases hlt : ((lastN N).1 : Int) < (q : Int)
  · rw [if_pos ⟨rfl, hlt⟩] at hr ⊢
    refine ⟨hr, h3, fun z => by omega, fun _ => by rw [lastN_snoc]; rfl, fun z => by simp at z, fun x hx => ?_⟩
    rcases List.mem_append.1 hx with hx | hx
    · exact h.ag x hx
    · obtain rfl : x = ((q : Int).toNat, rootD (ps.take q)) := by simpa using hx
      exact agE_own h3
  · rw [if_neg (fun z => hlt z.2)] at hr ⊢
    obtain rfl : lst = q := by omega
    exact ⟨hr, h3, h.zero, h.last, h.nz, h.ag⟩
end Go.Proofs.Bl
namespace Go.Proofs.YtmfooocdnoflaaaDoor
open Go Go.RowKit Go.Proofs

set_option maxRecDepth 100000 in
set_option maxHeartbeats 20000000 in
theorem dhonest_all (vl vs : Value) (ps : List (List Int)) (zs : List Int) (w : World) (S : List Nat) (a : Nat → Addr) (hR : Bl.Rdss w vl ps) (hby : ∀ p ∈ ps, Bl.Byt p) (hZ : Bl.Rd w .i64 vs zs) (hg : GlobR w) (hS : ∀ i, 1 ≤ i → i ≤ 20 → i ∈ S) (he : Errs S a w) :
    Calls Tryd.prog 4 #[vl, vs] w fun e w' => e = .returned (.bool true) ∧ Bl.Ext w w' := by
  have HLg : Hid (∀ w2, Bl.Ext w w2 → Calls Tryd.prog 19 #[vl, .int .i64 40] w2 fun e w' => w' = w2 ∧ (e = .returned (.bool true) ∨ (e = .returned (.bool false) ∧ (ps.length : Int) ≤ 40 ∧ ∀ p ∈ ps, p.length ≤ 200))) := Bl.hid fun w2 h2 => long_any vl ps w2 40 (hR.ext h2)
  have HR := Bl.hid hR
  obtain ⟨ws, hv, hwl, hws⟩ := hR
  obtain ⟨p, c, hvf, hvn, hvc⟩ := hv.form
  subst hvf
  obtain ⟨pz, cz, hzf, hzn, hzc⟩ := hZ.form
  subst hzf
  unfold maxLen at hvc hzc
  have Hv := Bl.hid hv
  have Hwl := Bl.hid hwl
  have HZ := Bl.hid hZ
  have Hg := Bl.hid hg
  have Hby := Bl.hid hby
  have HS := Bl.hid hS
  have He := Bl.hid he
  obtain ⟨L, hL⟩ : ∃ L, L = ps.length := ⟨_, rfl⟩
  have HL := Bl.hid hL
  obtain ⟨n, hn⟩ : ∃ n, n = zs.length := ⟨_, rfl⟩
  have Hn := Bl.hid hn
  have hdg := Bl.dig_leaves ps
  have hln : (ps.map Bl.lfD).length = ps.length := List.length_map _
  have HMt : Hid (∀ k, Bl.rootD (ps.take k) = Bl.overD ((ps.map Bl.lfD).take k)) := Bl.hid fun k => by rw [← List.map_take]; rfl
  obtain ⟨ds, hds⟩ : ∃ ds, ds = ps.map Bl.lfD := ⟨_, rfl⟩
  have Hds := Bl.hid hds
  rw [← hds] at hdg hln HMt
  rw [← hL] at hln hvn HLg ⊢
  rw [← hn] at hzn HZ ⊢
  have Hdg := Bl.hid hdg
  have Hln := Bl.hid hln
  clear hv hwl hws hZ hg hby hS he hL hn hdg hln hds
  go_enter Tryd.func4, Tryd.ntmps4
  go_wp2_with fail
  refine (alive39 w S a He.out HS.out Hg.out.s).mono ?_
  rintro e w1 ⟨rfl, hE1⟩
  have HE1 := Bl.hid hE1
  clear hE1
  go_wp2_with fail
  refine (HLg.out w1 HE1.out).mono ?_
  rintro e w2 ⟨hw2, (rfl | ⟨rfl, h40, h200⟩)⟩
  · subst hw2
    go_wp2_with fail
    go_ret
    exact ⟨rfl, HE1.out⟩
  subst hw2
  have hL40 : L ≤ 40 := by omega
  have H200 := Bl.hid h200
  clear h200 h40 HLg
  by_cases hn20 : 20 < n
  · have hni : (20 : Int) < (n : Int) := by omega
    go_wp2_with fail
    go_ret
    exact ⟨rfl, HE1.out⟩
  have hni : ¬ ((20 : Int) < (n : Int)) := by omega
  go_wp2_with fail
  refine (dnew_any w2).mono ?_
  rintro e w3 ⟨rfl, hD3, hE3⟩
  obtain ⟨b, hb⟩ : ∃ b, b = w2.heap.size := ⟨_, rfl⟩
  rw [← hb] at hD3 ⊢
  have HD3 := Bl.hid hD3
  have HE3 := Bl.hid hE3
  have Hb : Hid (w2.heap.size ≤ b) := Bl.hid (by omega)
  have HLe : Hid (∀ w2, Bl.Ext w w2 → Calls Tryd.prog 20 #[.slice p L c] w2 fun e w' => ∃ p c, e = .returned (.slice p L c) ∧ w'.ownsRow w2.heap.size 39 32 (.slice p L c) L (Bl.cellsD ds) ∧ Bl.Ext w2 w') := Bl.hid fun w2 h2 => by
    refine (leaves_any _ ps w2 (by rw [HL.out]; exact HR.out.ext h2) (Hg.out.ext h2).s Hby.out (fun q hq => by have := H200.out q hq; omega) (by rw [← HL.out]; omega)).mono fun e w' ⟨p', c', g1, g2, g3⟩ => ⟨p', c', by rw [HL.out]; exact g1, ?_, g3⟩
    rw [← Hds.out, ← HL.out] at g2
    exact g2
  clear hD3 hE3 hb
  go_wp2_with fail
  refine (HLe.out w3 (HE1.out.trans HE3.out)).mono ?_
  rintro e w4 ⟨pl, cl, rfl, hown, hE4⟩
  have HLX : Hid (Bl.RdsX w4 b (.slice pl L cl) L (Bl.cellsD ds)) := Bl.hid (Bl.RdsX.of_owns hown (fun q => by have := (hown.lt b q).1; have := HD3.out.lt; omega))
  have hRl := Bl.Rds.of_owns hown
  have HD4 := Bl.hid (HD3.out.ext hE4)
  have HE4 := Bl.hid (HE3.out.trans hE4)
  obtain ⟨hln1, hln2⟩ : L ≤ cl ∧ cl ≤ maxLen := by
    obtain ⟨_, _, hlf, h1, h2⟩ := hRl.form
    injection hlf with _ _ h4
    subst h4
    exact ⟨h1, h2⟩
  unfold maxLen at hln2
  clear hRl hown hE4 HD3 HLe
  go_wp2_with fail
  go_loopw [7, 34] (fun l x wr => ∃ (lst i : Nat) (vd : Value) (N : List Bl.Nt), l = .int .i64 lst ∧ i ≤ n ∧ x = .int .i64 i ∧ lst ≤ L ∧ Hid (Bl.Di wr b vd N ∧ Bl.Hon N lst ps ∧ N.length ≤ i ∧ (∀ j, vd.ownBlock = some j → w4.heap.size ≤ j) ∧ ∀ j, j ≠ b → j < w4.heap.size → wr.heap[j]? = w4.heap[j]?) ∧ Hid (w4.heap.size ≤ wr.heap.size) ∧ Bl.Ext w2 wr) (fun _ x _ => n - (intOf x).toNat)
  case atStart => exact ⟨0, 0, _, [], rfl, Nat.zero_le _, rfl, Nat.zero_le _, Bl.hid ⟨HD4.out, Bl.Hon.nil ps, Nat.le_refl _, fun j h => (by cases h), fun _ _ _ => rfl⟩, Bl.hid (Nat.le_refl _), HE4.out⟩
  case round =>
    obtain ⟨lst, i, vd, N, rfl, hi, rfl, hlL, HI, HS4, hE⟩ := hrel
    have HE := Bl.hid hE
    have HEw := Bl.hid (HE1.out.trans hE)
    clear hE
    by_cases hlt : i < n
    · have hin : i < zs.length := by rw [← Hn.out]; exact hlt
      obtain ⟨gz, oz, ccz, hpe, hcn, hcm, hgl, hrgz, hel⟩ := Bl.Rd.pos (by have h := HZ.out.ext HEw.out; exact h) (by omega)
      injection hpe with hp1 hp2 hp3
      subst hp1 hp3
      have hce := hel i hin
      obtain ⟨s, hs⟩ : ∃ s, s = zs.getD i 0 := ⟨_, rfl⟩
      rw [← hs] at hce
      have hi0 : (0 : Int) ≤ (i : Int) := by omega
      have hi1 : (i : Int) < (n : Int) := by omega
      have hi2 : (i : Int) < (zs.length : Int) := by omega
      clear hel hrgz hcn hcm hp2 hs hin
      by_cases hs1 : s < (lst : Int)
      · go_wp2_with fail
        go_roundw
        case rel => exact ⟨lst, i + 1, vd, N, rfl, by omega, by go_num, hlL, Bl.hid ⟨HI.out.1, HI.out.2.1, by have := HI.out.2.2.1; omega, HI.out.2.2.2⟩, HS4, HE.out⟩
        case measure => simp [intOf]; omega
      by_cases hs2 : s < 1
      · go_wp2_with fail
        go_roundw
        case rel => exact ⟨lst, i + 1, vd, N, rfl, by omega, by go_num, hlL, Bl.hid ⟨HI.out.1, HI.out.2.1, by have := HI.out.2.2.1; omega, HI.out.2.2.2⟩, HS4, HE.out⟩
        case measure => simp [intOf]; omega
      by_cases hs3 : (L : Int) < s
      · go_wp2_with fail
        go_roundw
        case rel => exact ⟨lst, i + 1, vd, N, rfl, by omega, by go_num, hlL, Bl.hid ⟨HI.out.1, HI.out.2.1, by have := HI.out.2.2.1; omega, HI.out.2.2.2⟩, HS4, HE.out⟩
        case measure => simp [intOf]; omega
      obtain ⟨q, rfl⟩ := Int.eq_ofNat_of_zero_le (a := s) (by omega)
      have hq1 : 1 ≤ q := by omega
      have hqL : q ≤ L := by omega
      have hlq : lst ≤ q := by omega
      obtain ⟨bp, op, hpe, hbl, _⟩ := Bl.Rdss.cell' (by have h := Hv.out; exact h) Hwl.out 0 (by rw [← HL.out]; omega)
      subst hpe
      have hqc : (q : Int) ≤ (c : Int) := by omega
      have hql : (q : Int) ≤ (cl : Int) := by omega
      have hq0 : (0 : Int) ≤ (q : Int) := by omega
      have HRt : Hid (∀ w2, Bl.Ext w w2 → Calls Tryd.prog 22 #[.slice (some ⟨bp, op, none⟩) q c] w2 fun e w' => e = .returned (.agg (Bl.ints .u8 (Bl.rootD (ps.take q))).toArray) ∧ Bl.Ext w2 w') := Bl.hid fun w2 h2 =>
        refroot_any (.slice (some ⟨bp, op, none⟩) q c) (ps.take q) w2 (Bl.Rdss.take (HR.out.ext h2) q (by rw [← HL.out]; omega)) (Hg.out.ext h2) (fun y hy => Hby.out y (List.mem_of_mem_take hy)) (fun y hy => by have := H200.out y (List.mem_of_mem_take hy); omega) (by rw [List.length_take]; omega)
      have Hrd : Hid ((Bl.rootD (ps.take q)).length = 32 ∧ Bl.Byt (Bl.rootD (ps.take q))) := Bl.hid ⟨Bl.rootD_length _ (by rw [List.length_take]; omega), Bl.rootD_byt _ (by rw [List.length_take]; omega)⟩
      by_cases hl0 : lst = 0
      · subst hl0
        have hN0 := HI.out.2.1.zero rfl
        have HT : Hid (Bl.takeE N (q : Int) (Bl.rootD (ps.take q)) [] = 0) := Bl.hid (by rw [Bl.takeE_nil (by omega) hN0]; rfl)
        have HNx := Bl.hid (HI.out.2.1.next (p := []) hlq hq1 (by rw [← HL.out]; exact hqL) HT.out)
        have HTl := Bl.hid (Bl.takeN_len N (q : Int) (Bl.rootD (ps.take q)) []).1
        obtain ⟨r, hr⟩ : ∃ r, r = Bl.rootD (ps.take q) := ⟨_, rfl⟩
        rw [← hr] at HRt Hrd HT HNx HTl
        have hqq : ¬ ((q : Int) < 0) := by omega
        clear hs1 hs2 hs3 hr hN0
        go_wp2_with fail
        refine (HRt.out _ (HEw.out.trans (Bl.ext_alloc _ _))).mono ?_
        rintro e w6 ⟨rfl, hE6⟩
        have HE6 := Bl.hid (Bl.Ext.trans (Bl.ext_alloc wr _) hE6)
        have HE26 := Bl.hid (HE.out.trans HE6.out)
        have HEx := HE6
        clear hE6
        go_wp2_with fail
        refine (dtake_any b vd N (q : Int) r _ [] w2 w6 S a (HI.out.1.ext HE6.out) HI.out.2.1.ris (by have := HI.out.2.2.1; omega) Hrd.out (.inl ⟨⟨_, rfl⟩, rfl, rfl⟩) Bl.Dig.nil (He.out.ext (HE1.out.trans HE26.out)) (HS.out 1 (by decide) (by decide)) (HS.out 8 (by decide) (by decide)) (HS.out 15 (by decide) (by decide)) (HS.out 19 (by decide) (by decide)) (Hg.out.ext (HE1.out.trans HE26.out)).s HE26.out Hb.out (fun j hj => Nat.le_trans HE4.out.size (HI.out.2.2.2.1 j hj))).mono ?_
        rintro e w9 ⟨rfl, vd', hD9, hv9, hA9⟩
        rw [HT.out, errN_zero]
        have HE9 : Hid (Bl.Ext w2 w9) := Bl.hid (Below.trans HE26.out (hA9.below HE26.out.size Hb.out (fun j hj => Nat.le_trans HE4.out.size (HI.out.2.2.2.1 j hj))))
        have HI9 : Hid (Bl.Di w9 b vd' (Bl.takeN N (q : Int) r []) ∧ Bl.Hon (Bl.takeN N (q : Int) r []) q ps ∧ (Bl.takeN N (q : Int) r []).length ≤ i + 1 ∧ (∀ j, vd'.ownBlock = some j → w4.heap.size ≤ j) ∧ ∀ j, j ≠ b → j < w4.heap.size → w9.heap[j]? = w4.heap[j]?) := Bl.hid
          ⟨hD9, HNx.out, by have := HTl.out; have := HI.out.2.2.1; omega, fun j hj => (hv9 j hj).elim (HI.out.2.2.2.1 j) (Nat.le_trans (Nat.le_trans HS4.out HE6.out.size)), fun j hjb hj => (hA9.block j (Nat.lt_of_lt_of_le hj (Nat.le_trans HS4.out HE6.out.size)) hjb (fun q => by have := HI.out.2.2.2.1 j q.symm; omega)).trans ((HE6.out.block j (Nat.lt_of_lt_of_le hj HS4.out)).trans (HI.out.2.2.2.2 j hjb hj))⟩
        have HS9 : Hid (w4.heap.size ≤ w9.heap.size) := Bl.hid (Nat.le_trans HS4.out (Nat.le_trans HEx.out.size hA9.size))
        clear hD9 hv9 hA9
        go_wp2_with fail
        go_roundw
        case rel => exact ⟨q, i + 1, vd', _, rfl, by omega, by go_num, hqL, HI9, HS9, HE9.out⟩
        case measure => simp [intOf]; omega
      · have hNn : N.length ≠ 0 := fun z => hl0 (HI.out.2.1.nz z)
        have hlst := HI.out.2.1.last hNn
        have hck := Bl.chkG_prove (ds.take q) lst (by omega) (by rw [List.length_take, Hln.out]; omega) (by rw [List.length_take, Hln.out]; omega)
        rw [show (ds.take q).length = q by rw [List.length_take, Hln.out]; omega, List.take_take, Nat.min_eq_left hlq, ← HMt.out, ← HMt.out] at hck
        have HT : Hid (Bl.takeE N (q : Int) (Bl.rootD (ps.take q)) (Bl.proveD (ds.take q) lst true) = 0) := Bl.hid (by
          rw [Bl.takeE_chk (by omega) hNn (by rw [hlst]; show ¬ (q : Int) < (lst : Int); omega), hlst]
          exact hck)
        have HNx := Bl.hid (HI.out.2.1.next (p := Bl.proveD (ds.take q) lst true) hlq hq1 (by rw [← HL.out]; exact hqL) HT.out)
        have HTl := Bl.hid (Bl.takeN_len N (q : Int) (Bl.rootD (ps.take q)) (Bl.proveD (ds.take q) lst true)).1
        have HPd : Hid (Bl.Dig (Bl.proveD (ds.take q) lst true)) := Bl.hid (Bl.proveD_dig (ds.take q).length lst 0 true (by omega) (by rw [List.length_take, Hln.out]; omega) (by rw [List.length_take, Hln.out]; omega) _ rfl (Hdg.out.take q))
        have HRl : Hid (Bl.Rds wr (.slice pl L cl) L (Bl.cellsD ds)) := Bl.hid (HLX.out.kept HI.out.2.2.2.2).rds
        obtain ⟨b3, o3, cc, hpe3, hlc3, hcm3, hbl3, hrg3⟩ := Bl.RdD.pos (by have h := HRl.out; rw [← Hln.out] at h; exact h) Hdg.out (by rw [Hln.out]; omega)
        injection hpe3 with hp1 hp2 hp3
        subst hp1
        have HPr : Hid (∀ w6, Bl.Ext wr w6 → Calls Tryd.prog 21 #[.slice (some ⟨b3, o3, none⟩) q cl, .int .i64 lst] w6 fun e w' => ∃ v', e = .returned (.tuple #[v', .nilIface]) ∧ Bl.RdD w' v' (Bl.proveD (ds.take q) lst true) ∧ Bl.Ext w6 w') := Bl.hid fun w6 h6 =>
          gprove_any (.slice (some ⟨b3, o3, none⟩) q cl) (ds.take q) lst w6 (Bl.RdD.take (by have h := Bl.Rds.ext HRl.out h6; rw [← Hln.out] at h; exact h) Hdg.out q (by rw [Hln.out]; exact hqL)) (Hdg.out.take q) (by omega) (by rw [List.length_take, Hln.out]; omega) (by rw [List.length_take, Hln.out]; omega) (Hg.out.ext (HEw.out.trans h6)).s
        obtain ⟨r, hr⟩ : ∃ r, r = Bl.rootD (ps.take q) := ⟨_, rfl⟩
        obtain ⟨PD, hPD⟩ : ∃ PD, PD = Bl.proveD (ds.take q) lst true := ⟨_, rfl⟩
        rw [← hr] at HRt Hrd HT HNx HTl
        rw [← hPD] at HT HNx HTl HPd HPr
        have hl1 : (0 : Int) < (lst : Int) := by omega
        clear hs1 hs2 hs3 hr hPD hNn hlst hck hp2 hp3 hlc3 hcm3 hl0 hrg3 hbl3
        go_wp2_with fail
        refine (HPr.out _ (Bl.ext_alloc _ _)).mono ?_
        rintro e w6 ⟨vp, rfl, hRp, hE6⟩
        have HRp := Bl.hid hRp
        have HE6 := Bl.hid (Bl.Ext.trans (Bl.ext_alloc wr _) hE6)
        have HEw6 := Bl.hid (HEw.out.trans HE6.out)
        clear hE6 hRp
        go_wp2_with fail
        refine (HRt.out w6 HEw6.out).mono ?_
        rintro e w7 ⟨rfl, hE7⟩
        have HRp7 := Bl.hid (Bl.Rds.ext HRp.out hE7)
        have HE7 := Bl.hid (HE6.out.trans hE7)
        have HE27 := Bl.hid (HE.out.trans HE7.out)
        have HEx := HE7
        clear hE7
        go_wp2_with fail
        refine (dtake_any b vd N (q : Int) r vp PD w2 w7 S a (HI.out.1.ext HE7.out) HI.out.2.1.ris (by have := HI.out.2.2.1; omega) Hrd.out HRp7.out HPd.out (He.out.ext (HE1.out.trans HE27.out)) (HS.out 1 (by decide) (by decide)) (HS.out 8 (by decide) (by decide)) (HS.out 15 (by decide) (by decide)) (HS.out 19 (by decide) (by decide)) (Hg.out.ext (HE1.out.trans HE27.out)).s HE27.out Hb.out (fun j hj => Nat.le_trans HE4.out.size (HI.out.2.2.2.1 j hj))).mono ?_
        rintro e w9 ⟨rfl, vd', hD9, hv9, hA9⟩
        rw [HT.out, errN_zero]
        have HE9 : Hid (Bl.Ext w2 w9) := Bl.hid (Below.trans HE27.out (hA9.below HE27.out.size Hb.out (fun j hj => Nat.le_trans HE4.out.size (HI.out.2.2.2.1 j hj))))
        have HI9 : Hid (Bl.Di w9 b vd' (Bl.takeN N (q : Int) r PD) ∧ Bl.Hon (Bl.takeN N (q : Int) r PD) q ps ∧ (Bl.takeN N (q : Int) r PD).length ≤ i + 1 ∧ (∀ j, vd'.ownBlock = some j → w4.heap.size ≤ j) ∧ ∀ j, j ≠ b → j < w4.heap.size → w9.heap[j]? = w4.heap[j]?) := Bl.hid
          ⟨hD9, HNx.out, by have := HTl.out; have := HI.out.2.2.1; omega, fun j hj => (hv9 j hj).elim (HI.out.2.2.2.1 j) (Nat.le_trans (Nat.le_trans HS4.out HE7.out.size)), fun j hjb hj => (hA9.block j (Nat.lt_of_lt_of_le hj (Nat.le_trans HS4.out HE7.out.size)) hjb (fun q => by have := HI.out.2.2.2.1 j q.symm; omega)).trans ((HE7.out.block j (Nat.lt_of_lt_of_le hj HS4.out)).trans (HI.out.2.2.2.2 j hjb hj))⟩
        have HS9 : Hid (w4.heap.size ≤ w9.heap.size) := Bl.hid (Nat.le_trans HS4.out (Nat.le_trans HEx.out.size hA9.size))
        clear hD9 hv9 hA9
        go_wp2_with fail
        go_roundw
        case rel => exact ⟨q, i + 1, vd', _, rfl, by omega, by go_num, hqL, HI9, HS9, HE9.out⟩
        case measure => simp [intOf]; omega
    · obtain rfl : i = n := by omega
      obtain ⟨nb, hnb⟩ : ∃ nb, nb = decide (N.length ≠ 0) := ⟨_, rfl⟩
      have HLa := Bl.hid (dlast_any b vd N wr HI.out.1 (by have := HI.out.2.2.1; omega))
      rw [← hnb] at HLa
      have Hlx := Bl.hid (Bl.lastN_dig HI.out.1.dig)
      have hls := HI.out.2.1.lastSize
      have HAg : Hid (∀ w2, Bl.Ext wr w2 → Calls Tryd.prog 24 #[.pointer (some ⟨b, 0, none⟩), .slice p L c] w2 fun e w' => e = .returned .nilIface ∧ Bl.Ext w2 w') := Bl.hid fun w2 h2 => by
        have h := dagrees_any b vd N (.slice p L c) ps w2 S a (HI.out.1.ext h2) HI.out.2.1.ris (by have := HI.out.2.2.1; omega) (by have h := HR.out.ext (HEw.out.trans h2); rw [← HL.out] at h; exact h) Hby.out (fun q hq => by have := H200.out q hq; omega) (by rw [← HL.out]; omega) (He.out.ext (HEw.out.trans h2)) (HS.out 2 (by decide) (by decide)) (HS.out 15 (by decide) (by decide)) (Hg.out.ext (HEw.out.trans h2)).s
        rw [Bl.agAll_zero.2 HI.out.2.1.ag, errN_zero] at h
        exact h
      have Hz : Hid ((lst = 0 → nb = false) ∧ (lst ≠ 0 → nb = true)) := Bl.hid ⟨fun z => by rw [hnb, HI.out.2.1.zero z]; rfl, fun z => by rw [hnb]; exact decide_eq_true (fun y => z (HI.out.2.1.nz y))⟩
      obtain ⟨x, hx⟩ : ∃ x, x = Bl.lastN N := ⟨_, rfl⟩
      rw [← hx] at HLa Hlx hls
      have Hls := Bl.hid hls
      clear hx hls hnb
      go_wp2_with fail
      refine HLa.out.mono ?_
      rintro e w5 ⟨rfl, hE5⟩
      obtain ⟨HB6, HE6⟩ := Bl.BoxC.fresh (cs := Bl.cN x) w5 57 #[.int .i64 0, .int .u8 0, .int .u8 0, .int .u8 0, .int .u8 0, .int .u8 0, .int .u8 0, .int .u8 0, .int .u8 0, .int .u8 0, .int .u8 0, .int .u8 0, .int .u8 0, .int .u8 0, .int .u8 0, .int .u8 0, .int .u8 0, .int .u8 0, .int .u8 0, .int .u8 0, .int .u8 0, .int .u8 0, .int .u8 0, .int .u8 0, .int .u8 0, .int .u8 0, .int .u8 0, .int .u8 0, .int .u8 0, .int .u8 0, .int .u8 0, .int .u8 0, .int .u8 0] (by rw [Bl.cN_len Hlx.out.1]; rfl) (Bl.cN_ne x)
      have Hst := Bl.hid (Bl.fresh_store (P := Tryd.prog) (cs := Bl.cN x) w5 57 #[.int .i64 0, .int .u8 0, .int .u8 0, .int .u8 0, .int .u8 0, .int .u8 0, .int .u8 0, .int .u8 0, .int .u8 0, .int .u8 0, .int .u8 0, .int .u8 0, .int .u8 0, .int .u8 0, .int .u8 0, .int .u8 0, .int .u8 0, .int .u8 0, .int .u8 0, .int .u8 0, .int .u8 0, .int .u8 0, .int .u8 0, .int .u8 0, .int .u8 0, .int .u8 0, .int .u8 0, .int .u8 0, .int .u8 0, .int .u8 0, .int .u8 0, .int .u8 0, .int .u8 0] (by rw [Bl.cN_len Hlx.out.1]; rfl) (Bl.cN_one x) (ty := 57) (by rw [Bl.cN_len Hlx.out.1]; kernel_rfl))
      have Hq0 := Bl.hid (HB6.cell (Bl.cN_size x))
      rw [Hls.out] at Hq0
      have HXl := Bl.hid HB6.lt
      replace HE6 := Bl.hid (Bl.Ext.trans hE5 HE6)
      clear hE5 HB6 HLa
      go_wp2_with (with_reducible refine Bl.stop_store (ty := 57) ?_)
      refine Bl.go_on ?_
      refine Bl.wpL_store0 rfl rfl Hst.out ?_
      generalize (w5.alloc (.cells #[.int .i64 0, .int .u8 0, .int .u8 0, .int .u8 0, .int .u8 0, .int .u8 0, .int .u8 0, .int .u8 0, .int .u8 0, .int .u8 0, .int .u8 0, .int .u8 0, .int .u8 0, .int .u8 0, .int .u8 0, .int .u8 0, .int .u8 0, .int .u8 0, .int .u8 0, .int .u8 0, .int .u8 0, .int .u8 0, .int .u8 0, .int .u8 0, .int .u8 0, .int .u8 0, .int .u8 0, .int .u8 0, .int .u8 0, .int .u8 0, .int .u8 0, .int .u8 0, .int .u8 0] 57)).setCells w5.heap.size 0 (Bl.cN x) = W6 at *
      generalize w5.heap.size = X6 at *
      clear Hst
      go_wp2_with fail
      refine (HAg.out W6 HE6.out).mono ?_
      rintro e w7 ⟨rfl, hE7⟩
      have hq7 := ((Bl.bcell hE7).1 X6 0 HXl.out).trans Hq0.out
      have HE7 := Bl.hid (HEw.out.trans (HE6.out.trans hE7))
      clear hE7 HAg
      by_cases hl0 : lst = 0
      · obtain rfl := Hz.out.1 hl0
        subst hl0
        go_wp2_with fail
        go_ret
        exact ⟨rfl, HE7.out⟩
      · obtain rfl := Hz.out.2 hl0
        have hl1 : (0 : Int) < (lst : Int) := by omega
        go_wp2_with fail
        go_ret
        exact ⟨rfl, HE7.out⟩
end Go.Proofs.YtmfooocdnoflaaaDoor

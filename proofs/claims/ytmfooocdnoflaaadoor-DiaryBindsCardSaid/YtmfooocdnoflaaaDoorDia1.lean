/- Texts that stood apart, in one: WDia1, WDia2, WDia3, WDia4, WDia5. -/
import Derived.Test.YtmfooocdnoflaaaDoorDia0
import Derived.Test.YtmfooocdnoflaaaDoorWl0
import Derived.Test.YtmfooocdnoflaaaDoorBA1
import Derived.Test.YtmfooocdnoflaaaDoorLib0
import Derived.Test.YtmfooocdnoflaaaDoorWgb
/- Walks of package diary: New, Notes, Copy, Last, find, At. -/
namespace Go.Proofs.Bl
open Go Go.RowKit
theorem zN_eq : (#[.int .i64 0, .int .u8 0, .int .u8 0, .int .u8 0, .int .u8 0, .int .u8 0, .int .u8 0, .int .u8 0, .int .u8 0, .int .u8 0, .int .u8 0, .int .u8 0, .int .u8 0, .int .u8 0, .int .u8 0, .int .u8 0, .int .u8 0, .int .u8 0, .int .u8 0, .int .u8 0, .int .u8 0, .int .u8 0, .int .u8 0, .int .u8 0, .int .u8 0, .int .u8 0, .int .u8 0, .int .u8 0, .int .u8 0, .int .u8 0, .int .u8 0, .int .u8 0, .int .u8 0] : Array Value) = (cN n0).toArray := rfl
end Go.Proofs.Bl
namespace Go.Proofs.YtmfooocdnoflaaaDoor
open Go Go.RowKit Go.Proofs

theorem tNote : Bl.SlT Tryd.prog 69 57 (.agg #[.int .i64 0, .int .u8 0, .int .u8 0, .int .u8 0, .int .u8 0, .int .u8 0, .int .u8 0, .int .u8 0, .int .u8 0, .int .u8 0, .int .u8 0, .int .u8 0, .int .u8 0, .int .u8 0, .int .u8 0, .int .u8 0, .int .u8 0, .int .u8 0, .int .u8 0, .int .u8 0, .int .u8 0, .int .u8 0, .int .u8 0, .int .u8 0, .int .u8 0, .int .u8 0, .int .u8 0, .int .u8 0, .int .u8 0, .int .u8 0, .int .u8 0, .int .u8 0, .int .u8 0]) 33 40 := ⟨Tryd.underlying69, by kernel_rfl, rfl, by decide⟩
theorem tMote : Bl.SlT Tryd.prog 28 78 (.agg #[.int .i64 0, .int .u8 0, .int .u8 0, .int .u8 0, .int .u8 0, .int .u8 0, .int .u8 0, .int .u8 0, .int .u8 0, .int .u8 0, .int .u8 0, .int .u8 0, .int .u8 0, .int .u8 0, .int .u8 0, .int .u8 0, .int .u8 0, .int .u8 0, .int .u8 0, .int .u8 0, .int .u8 0, .int .u8 0, .int .u8 0, .int .u8 0, .int .u8 0, .int .u8 0, .int .u8 0, .int .u8 0, .int .u8 0, .int .u8 0, .int .u8 0, .int .u8 0, .int .u8 0]) 33 40 := ⟨Tryd.underlying28, by kernel_rfl, rfl, by decide⟩

theorem dnew_any (w : World) : Calls Tryd.prog 10 #[] w fun e w' => e = .returned (.pointer (some ⟨w.heap.size, 0, none⟩)) ∧ Bl.Di w' w.heap.size (.slice none 0 0) [] ∧ Bl.Ext w w' := by
  go_enter Tryd.func10, Tryd.ntmps10
  go_wp2_with fail
  go_ret
  exact ⟨rfl, Bl.Di.new _ _, Bl.ext_alloc _ _⟩

set_option maxRecDepth 100000 in
theorem cloneN_some (ad : Addr) (c : Nat) (N : List Bl.Nt) (w : World) (h2 : Bl.RdN w (.slice (some ad) N.length c) N) (hd : Bl.DgN N) (hl : N.length ≤ 1048576) :
    Calls Tryd.prog 48 #[.slice (some ad) N.length c] w fun e w' => ∃ v', e = .returned v' ∧ w'.ownsRow w.heap.size 57 33 v' N.length (Bl.cellsR Bl.cN N) ∧ Bl.Ext w w' := by
  have e0 := Lib.run_eql_slice_nil (P := Tryd.prog) w 69 57 (some ad) N.length c 0 0 Tryd.underlying69
  have hE : Bl.Ext w (w.alloc (.cells #[] 57)) := Bl.ext_alloc _ _
  have Ho : Hid ((w.alloc (.cells #[] 57)).ownsRow w.heap.size 57 33 (.slice (some ⟨w.heap.size, 0, none⟩) 0 0) 0 []) := Bl.hid (Bl.owns_new w 57 #[] w.heap.size 0 33 (Nat.le_refl _) (by decide) rfl)
  have H2 : Hid (Bl.RdN (w.alloc (.cells #[] 57)) (.slice (some ad) N.length c) N) := Bl.hid (Bl.Rds.ext h2 hE)
  have Hl := Bl.hid hl
  have Hd := Bl.hid hd
  clear h2 hE hl hd
  go_enter Tryd.func48, Tryd.ntmps48
  go_wp2_with ((with_reducible refine Bl.wpL_append tNote Ho.out H2.out (Bl.cellsN_len Hd.out) (Bl.cellsN_one _) (by have := Hl.out; unfold maxLen; omega) (by have := Hl.out; omega) (by simp) ?_ ?_ ?_); rfl; rfl; intro v' w' hown hg hB hK)
  go_ret
  rw [Nat.zero_add, List.nil_append] at hown
  exact ⟨_, rfl, hown, ((Below.refl _ _).alloc (Nat.le_refl _) _).trans hB⟩

theorem cloneN_any (v : Value) (N : List Bl.Nt) (w : World) (h : Bl.RdN w v N) (hd : Bl.DgN N) (hl : N.length ≤ 1048576) :
    Calls Tryd.prog 48 #[v] w fun e w' => ∃ v', e = .returned v' ∧ w'.ownsRow w.heap.size 57 33 v' N.length (Bl.cellsR Bl.cN N) ∧ Bl.Ext w w' := by
  have h2 := h
  rcases h with ⟨⟨p, rfl⟩, hn, hc⟩ | ⟨b, o, c, rfl, hnc, hcm, hr⟩
  · obtain rfl : N = [] := List.length_eq_zero_iff.1 hn
    cases p with
    | some ad => exact cloneN_some ad 0 [] w h2 hd hl
    | none =>
      have e0 := Lib.run_eql_slice_nil (P := Tryd.prog) w 69 57 none 0 0 0 0 Tryd.underlying69
      clear hn hc h2
      go_enter Tryd.func48, Tryd.ntmps48
      go_wp2
      go_ret
      exact ⟨_, rfl, World.ownsRow_nil _ _ _ _, Below.refl _ _⟩
  · exact cloneN_some _ c N w h2 hd hl

theorem dnotes_any (b : Nat) (v : Value) (N : List Bl.Nt) (w : World) (h : Bl.Di w b v N) (hl : N.length ≤ 1048576) : Calls Tryd.prog 30 #[.pointer (some ⟨b, 0, none⟩)] w fun e w' => ∃ v', e = .returned v' ∧ w'.ownsRow w.heap.size 57 33 v' N.length (Bl.cellsR Bl.cN N) ∧ Bl.Ext w w' := by
  have hc0 := h.c0
  have HC := Bl.hid (cloneN_any v N w h.pk.rds h.dig hl)
  clear h
  go_enter Tryd.func30, Tryd.ntmps30
  go_wp2_with fail
  refine HC.out.mono ?_
  rintro e w1 ⟨v', rfl, hown, hE⟩
  have Hown := Bl.hid hown
  have HE := Bl.hid hE
  clear hown hE
  go_wp2_with fail
  go_ret
  exact ⟨_, rfl, Hown.out, HE.out⟩

theorem dcopy_any (b : Nat) (v : Value) (N : List Bl.Nt) (w : World) (h : Bl.Di w b v N) (hl : N.length ≤ 1048576) : Calls Tryd.prog 11 #[.pointer (some ⟨b, 0, none⟩)] w fun e w' => ∃ b' v', e = .returned (.pointer (some ⟨b', 0, none⟩)) ∧ w.heap.size ≤ b' ∧ (∀ k, v'.ownBlock = some k → w.heap.size ≤ k) ∧ Bl.Di w' b' v' N ∧ Bl.Ext w w' := by
  have HN := Bl.hid (dnotes_any b v N w h hl)
  have Hd := Bl.hid h.dig
  clear h
  go_enter Tryd.func11, Tryd.ntmps11
  go_wp2_with fail
  refine HN.out.mono ?_
  rintro e w1 ⟨v', rfl, hown, hE⟩
  obtain ⟨p', c', hf, _, _⟩ := (Bl.Rds.of_owns hown).form
  subst hf
  have Hown := Bl.hid hown
  have HE := Bl.hid hE
  clear hown hE
  go_wp2_with fail
  go_ret
  exact ⟨_, _, rfl, HE.out.size, fun k hk => (Hown.out.lt k hk).1, Bl.Di.of _ (Bl.Pk.mono (Bl.Pk.of_owns Hown.out) (Nat.zero_le _)) Hd.out, HE.out.trans (Bl.ext_alloc _ _)⟩

theorem isnan_any (x : Int) (w : World) : Calls Tryd.prog 72 #[.int .i64 x] w fun e w' => e = .returned (.bool false) ∧ w = w' := by
  go_enter Tryd.func72, Tryd.ntmps72
  go_wp2
  go_ret
  exact ⟨by simp, rfl⟩

def cmpZ (x y : Int) : Int := if x < y then -1 else if y < x then 1 else 0
theorem compare_int (x y : Int) (w : World) : Calls Tryd.prog 54 #[.int .i64 x, .int .i64 y] w fun e w' => e = .returned (.int .i64 (cmpZ x y)) ∧ w = w' := by
  go_enter Tryd.func54, Tryd.ntmps54
  go_wp2_with fail
  refine (isnan_any x w).mono ?_
  rintro e w1 ⟨rfl, hw⟩
  subst hw
  go_wp2_with fail
  refine (isnan_any y w).mono ?_
  rintro e w1 ⟨rfl, hw⟩
  subst hw
  by_cases h : x < y
  · have Hc : Hid (cmpZ x y = -1) := Bl.hid (if_pos h)
    go_wp2_with fail
    go_ret
    exact ⟨by rw [Hc.out]; rfl, rfl⟩
  · by_cases h2 : y < x
    · have Hc : Hid (cmpZ x y = 1) := Bl.hid (by unfold cmpZ; rw [if_neg h, if_pos h2])
      go_wp2_with fail
      go_ret
      exact ⟨by rw [Hc.out]; rfl, rfl⟩
    · have Hc : Hid (cmpZ x y = 0) := Bl.hid (by unfold cmpZ; rw [if_neg h, if_neg h2])
      go_wp2_with fail
      go_ret
      exact ⟨by rw [Hc.out]; rfl, rfl⟩

/-- the closure of find -/
theorem find1_any (x : Bl.Nt) (k : Int) (w : World) (hx : x.2.length = 32) : Calls Tryd.prog 53 #[.agg (Bl.cN x).toArray, .int .i64 k] w fun e w' => e = .returned (.int .i64 (cmpZ x.1 k)) ∧ Bl.Ext w w' := by
  have hB := Bl.BoxC.box w 57 (Bl.cN_ne x)
  have hc0 := hB.cell (Bl.cN_size x)
  have HE := Bl.hid (Bl.ext_alloc w (.cells (Bl.cN x).toArray 57))
  have hs : (Bl.cN x).toArray.size = 33 := by simp [Bl.cN_len hx]
  clear hB
  go_enter Tryd.func53, Tryd.ntmps53
  go_wp2_with fail
  refine (compare_int _ _ _).mono ?_
  rintro e w1 ⟨rfl, hw⟩
  subst hw
  go_wp2_with fail
  go_ret
  exact ⟨rfl, HE.out⟩
end Go.Proofs.YtmfooocdnoflaaaDoor

/- Walks of package diary: BinarySearchFunc at notes, find. -/
namespace Go.Proofs.YtmfooocdnoflaaaDoor
open Go Go.RowKit Go.Proofs

set_option maxRecDepth 100000 in
set_option maxHeartbeats 1000000 in
theorem bsearch_any (v : Value) (N : List Bl.Nt) (k : Int) (w : World) (h : Bl.RdN w v N) (hd : Bl.DgN N) (hr : Bl.Ris N) (hl : N.length ≤ 512) :
    Calls Tryd.prog 52 #[v, .int .i64 k, .func (.func 53) #[] #[]] w fun e w' => ∃ i : Nat, e = .returned (.tuple #[.int .i64 i, .bool (Bl.hasN N k)]) ∧ (Bl.hasN N k = true → i < N.length ∧ ((N.getD i Bl.n0).1 : Int) = k) ∧ Bl.Ext w w' := by
  obtain ⟨p, c, hvf, hvn, hvc⟩ := h.form
  subst hvf
  unfold maxLen at hvc
  have HR := Bl.hid h
  have Hd := Bl.hid hd
  have Hr := Bl.hid hr
  obtain ⟨n, hn⟩ : ∃ n, n = N.length := ⟨_, rfl⟩
  have Hn := Bl.hid hn
  rw [← hn] at hvn hl ⊢
  clear h hd hr hn
  go_enter Tryd.func52, Tryd.ntmps52
  go_wp2_with fail
  go_loopw [9, 10] (fun i j wr => ∃ i' j' : Nat, i = .int .i64 i' ∧ j = .int .i64 j' ∧ i' ≤ j' ∧ j' ≤ n ∧ Hid (∀ q, q < i' → ((N.getD q Bl.n0).1 : Int) < k) ∧ Hid (∀ q, j' ≤ q → q < n → k ≤ ((N.getD q Bl.n0).1 : Int)) ∧ Bl.Ext w wr) (fun i j _ => (intOf j).toNat - (intOf i).toNat)
  case atStart => exact ⟨0, n, rfl, rfl, Nat.zero_le _, Nat.le_refl _, Bl.hid fun q h => absurd h (Nat.not_lt_zero _), Bl.hid fun q h1 h2 => absurd h2 (by omega), Below.refl _ _⟩
  case round =>
    obtain ⟨i, j, rfl, rfl, hij, hj, Hlo, Hhi, hE⟩ := hrel
    have HE := Bl.hid hE
    clear hE
    by_cases hlt : i < j
    · obtain ⟨b, o, cc, hpe, hcn, hcm, hbl, hel⟩ := Bl.RdN.pos (by have h := HR.out; exact Bl.Rds.ext h HE.out) Hd.out (by rw [← Hn.out]; omega)
      injection hpe with hp1 hp2 hp3
      subst hp1 hp3
      clear hp2 hcn hcm hbl
      obtain ⟨m, hm⟩ : ∃ m, m = (i + j) / 2 := ⟨_, rfl⟩
      have hmi : i ≤ m := by omega
      have hmj : m < j := by omega
      have hs0 : (0 : Int) ≤ (i : Int) + (j : Int) := by omega
      have hs1 : (i : Int) + (j : Int) ≤ 1024 := by omega
      have hmI : Hid (((i : Int) + (j : Int)) / 2 = (m : Int)) := Bl.hid (by omega)
      have HmN := Bl.hid hm
      have hmn : m < N.length := by rw [← Hn.out]; omega
      have hrg := hel m hmn
      have hxd : (N.getD m Bl.n0).2.length = 32 := (Hd.out _ (Bl.getD_mem Bl.n0 hmn)).1
      have Hri : Hid (∀ q, q ≤ m → ((N.getD q Bl.n0).1 : Int) ≤ ((N.getD m Bl.n0).1 : Int)) := Bl.hid fun q hq => by
        by_cases e : q = m
        · rw [e]; exact Int.le_refl _
        · have := Hr.out.lt (i := q) (j := m) (by omega) hmn; omega
      have Hri2 : Hid (∀ q, m ≤ q → q < n → ((N.getD m Bl.n0).1 : Int) ≤ ((N.getD q Bl.n0).1 : Int)) := Bl.hid fun q hq hqn => by
        by_cases e : q = m
        · rw [e]; exact Int.le_refl _
        · have := Hr.out.lt (i := m) (j := q) (by omega) (by rw [← Hn.out]; exact hqn); omega
      obtain ⟨x, hx⟩ : ∃ x, x = N.getD m Bl.n0 := ⟨_, rfl⟩
      rw [← hx] at hrg hxd Hri Hri2
      have Hld := Bl.hid (run_loadAt_mid (P := Tryd.prog) wr b (o + m * 33) 57 _ _ hrg Tryd.underlying57 rfl (by rw [Bl.cN_len hxd]; kernel_rfl))
      have Hxd := Bl.hid hxd
      have Hmi := Bl.hid (And.intro hmi hmj)
      have Hln : Hid (m < n) := Bl.hid (by omega)
      clear hel hrg hx hxd hmn hm hmi hmj
      go_wp2_with (with_reducible refine Bl.stop_load (ty := 57) ?_)
      refine Bl.go_on ?_
      rw [← HmN.out]
      refine Bl.wpL_load rfl Hld.out ?_
      simp only [hmI.out]
      clear Hld hs0 hs1 hmI HmN
      go_wp2_with fail
      refine (find1_any x k wr Hxd.out).mono ?_
      rintro e w1 ⟨rfl, hE1⟩
      have HE1 := Bl.hid (HE.out.trans hE1)
      clear hE1
      have hsm := IntWalk.wrap64_in ((m : Int) + 1) ⟨by omega, by have := Hln.out; omega⟩
      by_cases hc : (x.1 : Int) < k
      · have hz : cmpZ (x.1 : Int) k < 0 := by unfold cmpZ; rw [if_pos hc]; omega
        obtain ⟨z, hzz⟩ : ∃ z, z = cmpZ (x.1 : Int) k := ⟨_, rfl⟩
        rw [← hzz] at hz ⊢
        have Hc := Bl.hid hc
        clear hzz hc
        go_wp2_with fail
        go_roundw
        case rel => exact ⟨m + 1, j, by go_num, rfl, by have := Hmi.out.2; omega, hj, Bl.hid fun q hq => Int.lt_of_le_of_lt (Hri.out q (by omega)) Hc.out, Hhi, HE1.out⟩
        case measure =>
          have h1 := Hmi.out
          rw [hsm]
          show (j : Int).toNat - ((m : Int) + 1).toNat < (j : Int).toNat - (i : Int).toNat
          omega
      · have hz : ¬ cmpZ (x.1 : Int) k < 0 := by unfold cmpZ; rw [if_neg hc]; split <;> omega
        obtain ⟨z, hzz⟩ : ∃ z, z = cmpZ (x.1 : Int) k := ⟨_, rfl⟩
        rw [← hzz] at hz ⊢
        have Hc := Bl.hid hc
        clear hzz hc
        go_wp2_with fail
        go_roundw
        case rel => exact ⟨i, m, rfl, rfl, Hmi.out.1, Nat.le_of_lt Hln.out, Hlo, Bl.hid fun q hq hqn => Int.le_trans (by have := Hc.out; omega) (Hri2.out q hq hqn), HE1.out⟩
        case measure => simp [intOf]; have := Hmi.out; omega
    · obtain rfl : i = j := by omega
      clear hij
      by_cases hin : i < n
      · obtain ⟨b, o, cc, hpe, hcn, hcm, hbl, hel⟩ := Bl.RdN.pos (by have h := HR.out; exact Bl.Rds.ext h HE.out) Hd.out (by rw [← Hn.out]; omega)
        injection hpe with hp1 hp2 hp3
        subst hp1 hp3
        have hmn : i < N.length := by rw [← Hn.out]; exact hin
        have hrg := hel i hmn
        have hxd : (N.getD i Bl.n0).2.length = 32 := (Hd.out _ (Bl.getD_mem Bl.n0 hmn)).1
        have hge := Hhi.out i (Nat.le_refl _) hin
        have Hhas : Hid (Bl.hasN N k = decide (((N.getD i Bl.n0).1 : Int) = k)) := Bl.hid (by
          by_cases e : ((N.getD i Bl.n0).1 : Int) = k
          · rw [decide_eq_true e]; exact Bl.hasN_iff.2 ⟨_, Bl.getD_mem Bl.n0 hmn, e⟩
          · rw [decide_eq_false e, Bool.eq_false_iff]
            intro q
            obtain ⟨y, hy, he⟩ := Bl.hasN_iff.1 q
            obtain ⟨r, hrl, rfl⟩ := List.getElem_of_mem hy
            rcases Nat.lt_trichotomy r i with g | g | g
            · have := Hlo.out r g
              rw [List.getD_eq_getElem?_getD, List.getElem?_eq_getElem hrl] at this
              simp only [Option.getD_some] at this
              omega
            · subst g
              rw [List.getD_eq_getElem?_getD, List.getElem?_eq_getElem hrl] at e
              exact e he
            · have h1 := Hr.out.lt (i := i) (j := r) g hrl
              rw [List.getD_eq_getElem?_getD (l := N) (i := r), List.getElem?_eq_getElem hrl] at h1
              simp only [Option.getD_some] at h1
              omega)
        obtain ⟨x, hx⟩ : ∃ x, x = N.getD i Bl.n0 := ⟨_, rfl⟩
        rw [← hx] at hrg hxd hge Hhas
        have Hx := Bl.hid hx
        have Hld := Bl.hid (run_loadAt_mid (P := Tryd.prog) wr b (o + i * 33) 57 _ _ hrg Tryd.underlying57 rfl (by rw [Bl.cN_len hxd]; kernel_rfl))
        have Hxd := Bl.hid hxd
        have Hmn := Bl.hid hmn
        have hi0 : (0 : Int) ≤ (i : Int) := by omega
        have hi1 : (i : Int) < (n : Int) := by omega
        clear hel hrg hx hxd hmn hp2 hcn hcm hbl
        go_wp2_with (with_reducible refine Bl.stop_loadg (ty := 57) ?_)
        refine Bl.go_on ?_
        refine Bl.wpL_loadg rfl rfl Hld.out ?_
        go_wp2_with fail
        refine (find1_any x k wr Hxd.out).mono ?_
        rintro e w1 ⟨rfl, hE1⟩
        have HE1 := Bl.hid (HE.out.trans hE1)
        clear hE1 Hld
        have hzz : (cmpZ (x.1 : Int) k == 0) = decide ((x.1 : Int) = k) := by
          unfold cmpZ
          by_cases e : (x.1 : Int) = k
          · rw [if_neg (by omega), if_neg (by omega), decide_eq_true e]; rfl
          · rw [decide_eq_false e]
            split
            · rfl
            · rw [if_pos (by omega)]; rfl
        have Hzz := Bl.hid hzz
        clear hge hzz
        go_wp2_with fail
        refine bodyPost_ret (v := .tuple #[.int .i64 i, .bool (Bl.hasN N k)]) (Bl.results_tmp2 rfl rfl ?_) rfl ⟨i, rfl, fun h => ?_, HE1.out⟩
        · rw [Hhas.out, ← Hzz.out]; rfl
        · rw [Hhas.out] at h
          exact ⟨hin, by rw [← Hx.out]; exact of_decide_eq_true h⟩
      · obtain rfl : i = n := by omega
        have Hhas : Hid (Bl.hasN N k = false) := Bl.hid (by
          rw [Bool.eq_false_iff]
          intro q
          obtain ⟨y, hy, he⟩ := Bl.hasN_iff.1 q
          obtain ⟨r, hrl, rfl⟩ := List.getElem_of_mem hy
          have := Hlo.out r (by rw [Hn.out]; exact hrl)
          rw [List.getD_eq_getElem?_getD, List.getElem?_eq_getElem hrl] at this
          simp only [Option.getD_some] at this
          omega)
        go_wp2_with fail
        refine bodyPost_ret (v := .tuple #[.int .i64 i, .bool (Bl.hasN N k)]) (Bl.results_tmp2 rfl rfl ?_) rfl ⟨i, rfl, fun h => ?_, HE.out⟩
        · rw [Hhas.out]; rfl
        · rw [Hhas.out] at h; cases h

/-- find -/
theorem dfind_any (b : Nat) (v : Value) (N : List Bl.Nt) (k : Int) (w : World) (h : Bl.Di w b v N) (hr : Bl.Ris N) (hl : N.length ≤ 512) :
    Calls Tryd.prog 33 #[.pointer (some ⟨b, 0, none⟩), .int .i64 k] w fun e w' => ∃ i : Nat, e = .returned (.tuple #[.int .i64 i, .bool (Bl.hasN N k)]) ∧ (Bl.hasN N k = true → i < N.length ∧ ((N.getD i Bl.n0).1 : Int) = k) ∧ Bl.Ext w w' := by
  have hc0 := h.c0
  have HB := Bl.hid (bsearch_any v N k w h.pk.rds h.dig hr hl)
  clear h
  go_enter Tryd.func33, Tryd.ntmps33
  go_wp2_with fail
  refine HB.out.mono ?_
  rintro e w1 ⟨i, rfl, hi, hE⟩
  have Hi := Bl.hid hi
  have HE := Bl.hid hE
  clear hi hE HB
  go_wp2_with fail
  exact bodyPost_ret (v := .tuple #[.int .i64 i, .bool (Bl.hasN N k)]) (Bl.results_tmp2 rfl rfl rfl) rfl ⟨i, rfl, Hi.out, HE.out⟩
end Go.Proofs.YtmfooocdnoflaaaDoor

/- Walks of package diary: Last, At. -/
namespace Go.Proofs.YtmfooocdnoflaaaDoor
open Go Go.RowKit Go.Proofs

set_option maxRecDepth 100000 in
set_option maxHeartbeats 1000000 in
theorem dlast_any (b : Nat) (v : Value) (N : List Bl.Nt) (w : World) (h : Bl.Di w b v N) (hl : N.length ≤ 512) :
    Calls Tryd.prog 23 #[.pointer (some ⟨b, 0, none⟩)] w fun e w' => e = .returned (.tuple #[.agg (Bl.cN (Bl.lastN N)).toArray, .bool (decide (N.length ≠ 0))]) ∧ Bl.Ext w w' := by
  have hc0 := h.c0
  obtain ⟨p, c, hvf, hvn, hvc⟩ := h.pk.rds.form
  subst hvf
  have HD := Bl.hid h
  have Hz0 := Bl.hid (Bl.BoxC.box w 57 (Bl.cN_ne Bl.n0))
  rw [← Bl.zN_eq] at Hz0
  have HE0 := Bl.hid (Bl.ext_alloc w (.cells #[.int .i64 0, .int .u8 0, .int .u8 0, .int .u8 0, .int .u8 0, .int .u8 0, .int .u8 0, .int .u8 0, .int .u8 0, .int .u8 0, .int .u8 0, .int .u8 0, .int .u8 0, .int .u8 0, .int .u8 0, .int .u8 0, .int .u8 0, .int .u8 0, .int .u8 0, .int .u8 0, .int .u8 0, .int .u8 0, .int .u8 0, .int .u8 0, .int .u8 0, .int .u8 0, .int .u8 0, .int .u8 0, .int .u8 0, .int .u8 0, .int .u8 0, .int .u8 0, .int .u8 0] 57))
  have hbl := h.lt
  have Hbl := Bl.hid hbl
  clear h
  go_enter Tryd.func23, Tryd.ntmps23
  by_cases hn : N.length = 0
  · have hN : N = [] := List.length_eq_zero_iff.1 hn
    rw [hn] at hc0
    have Hst := Bl.hid (Hz0.out.store (P := Tryd.prog) (cs' := Bl.cN Bl.n0) rfl (Bl.cN_one _) (ty := 57) (by kernel_rfl))
    have Hld := Bl.hid ((Hz0.out.set (cs' := Bl.cN Bl.n0) rfl).loadVar (P := Tryd.prog) Tryd.underlying57 rfl (by kernel_rfl))
    have Hbd := Bl.hid (run_build (P := Tryd.prog) (w.alloc (.cells #[.int .i64 0, .int .u8 0, .int .u8 0, .int .u8 0, .int .u8 0, .int .u8 0, .int .u8 0, .int .u8 0, .int .u8 0, .int .u8 0, .int .u8 0, .int .u8 0, .int .u8 0, .int .u8 0, .int .u8 0, .int .u8 0, .int .u8 0, .int .u8 0, .int .u8 0, .int .u8 0, .int .u8 0, .int .u8 0, .int .u8 0, .int .u8 0, .int .u8 0, .int .u8 0, .int .u8 0, .int .u8 0, .int .u8 0, .int .u8 0, .int .u8 0, .int .u8 0, .int .u8 0] 57)) 57 #[] (Bl.cN Bl.n0).toArray (by kernel_rfl))
    go_wp2_with (with_reducible refine Bl.stop_buildS (ty := 57) ?_)
    refine Bl.go_on ?_
    refine Bl.wpL_build0 Hbd.out ?_
    go_wp2_with (with_reducible refine Bl.stop_store (ty := 57) ?_)
    refine Bl.go_on ?_
    refine Bl.wpL_store0 rfl rfl Hst.out ?_
    go_wp2_with fail
    refine bodyPost_ret (v := .tuple #[.agg (Bl.cN Bl.n0).toArray, .bool false]) (Bl.results_cell2 rfl rfl Hld.out rfl) rfl ⟨?_, Bl.below_setCells _ _ _ _ HE0.out (Nat.le_refl _)⟩
    subst hN
    rfl
  · obtain ⟨m, hm⟩ : ∃ m, N.length = m + 1 := ⟨N.length - 1, by omega⟩
    obtain ⟨g, o, cc, hpe, hcn, hcm, hgl, hel⟩ := Bl.RdN.pos HD.out.pk.rds HD.out.dig (by omega)
    injection hpe with hp1 hp2 hp3
    subst hp1 hp3
    have hrg := hel m (by omega)
    have hxd : (N.getD m Bl.n0).2.length = 32 := (HD.out.dig _ (Bl.getD_mem Bl.n0 (by omega))).1
    have hx : Bl.lastN N = N.getD m Bl.n0 := by unfold Bl.lastN; rw [hm, Nat.add_sub_cancel]
    obtain ⟨x, hxe⟩ : ∃ x, x = N.getD m Bl.n0 := ⟨_, rfl⟩
    rw [← hxe] at hrg hxd hx
    have Hx := Bl.hid hx
    rw [hm] at hc0 hvn
    unfold maxLen at hvc
    have HLe : Hid (∀ w2, Bl.Ext w w2 → (Instr.loadAt 57 (.pointer (some ⟨g, o + m * 33, none⟩))).run Tryd.prog w2 = .ok (.agg (Bl.cN x).toArray) w2) := Bl.hid fun w2 h2 => run_loadAt_mid (P := Tryd.prog) w2 g (o + m * 33) 57 _ _ (Bl.rangeAt_ext hrg h2) Tryd.underlying57 rfl (by rw [Bl.cN_len hxd]; kernel_rfl)
    have hwk := IntWalk.wrap64_in (m : Int) ⟨by omega, by omega⟩
    have hwk2 : IntKind.i64.wrap (m : Int) = (m : Int) := IntWalk.i64_in _ (by omega)
    have hi0 : (0 : Int) ≤ (m : Int) := Int.natCast_nonneg _
    have hi1 : (m : Int) < (m : Int) + 1 := Int.lt_succ _
    have Hc0 := Bl.hid hc0
    have Hxd := Bl.hid hxd
    have Hm := Bl.hid hm
    have hnn : ((m : Int) + 1 == 0) = false := by rw [beq_eq_false_iff_ne]; omega
    clear hel hrg hx hxe hxd hm hn hp2 hcn hcm
    go_wp2_with fail
    obtain ⟨W0, hW0⟩ : ∃ W0, W0 = w.alloc (.cells #[.int .i64 0, .int .u8 0, .int .u8 0, .int .u8 0, .int .u8 0, .int .u8 0, .int .u8 0, .int .u8 0, .int .u8 0, .int .u8 0, .int .u8 0, .int .u8 0, .int .u8 0, .int .u8 0, .int .u8 0, .int .u8 0, .int .u8 0, .int .u8 0, .int .u8 0, .int .u8 0, .int .u8 0, .int .u8 0, .int .u8 0, .int .u8 0, .int .u8 0, .int .u8 0, .int .u8 0, .int .u8 0, .int .u8 0, .int .u8 0, .int .u8 0, .int .u8 0, .int .u8 0] 57) := ⟨_, rfl⟩
    rw [← hW0] at Hz0 HE0 ⊢
    clear hW0 hc0 hbl
    apply Bl.wp_region_evK (Bl.Ext) (fun _ _ _ => True) 12 [11, 12, 13, 14, 15, 16, 17, 18, 19, 20, 21, 22] [Bl.eqv _, Bl.eqv _, Bl.eqv _, Bl.eqv _, Bl.eqv _, Bl.eqv _, Bl.eqv _, Bl.eqv _, Bl.eqv _, Bl.eqv _, Bl.eqv _, Bl.eqv _] (fun w => Below.refl _ w) (fun a b c h k => Bl.Ext.trans h k) (by kernel_rfl) (by kernel_rfl) (by kernel_rfl) (by kernel_rfl)
    case hsteps =>
      refine ⟨?_, ?_, ?_, ?_, ?_, ?_, ?_, ?_, ?_, ?_, ?_, ?_, trivial⟩
      all_goals
        intro d ev w1 hext HJd Hanc Hdes hni hb hd
        replace Hanc := Bl.hid Hanc
        replace HJd := Bl.hid HJd
        replace Hdes := Bl.hid Hdes
        replace hni := Bl.hid hni
        have e0 := hb 0 (by decide)
        clear hb
        simp only [Array.getD_eq_getD_getElem?, List.getElem?_toArray, List.getElem?_cons_zero, Option.getD_some] at e0
        simp only [Bl.DepsE2, List.getElem?_cons_succ, List.getElem?_cons_zero, Option.bind_some, List.getD_cons_succ, List.getD_cons_zero, Bl.eqv, and_true] at hd
        have hc := (Bl.bcell hext).1
        have q0 := ((Bl.bcell (HE0.out.trans hext)).1 _ 0 Hbl.out).trans Hc0.out
        simp only [Region.wanted, if_true]
        first
        | ((with_reducible refine Bl.goodX_load (fun w => Below.refl _ w) ?_ (HLe.out _ (HE0.out.trans hext)) ?_); exact hd; exact ⟨rfl, trivial⟩)
        | (go_simp; first | exact ⟨Below.refl _ _, rfl, trivial⟩ | exact ⟨Below.refl _ _, rfl⟩ | exact Below.refl _ _)
    case hmono => exact ⟨Bl.monoR_eqv _, Bl.monoR_eqv _, Bl.monoR_eqv _, Bl.monoR_eqv _, Bl.monoR_eqv _, Bl.monoR_eqv _, Bl.monoR_eqv _, Bl.monoR_eqv _, Bl.monoR_eqv _, Bl.monoR_eqv _, Bl.monoR_eqv _, Bl.monoR_eqv _, trivial⟩
    case hR0 => exact (Below.refl _ _).drew
    case hend =>
      intro u w1 hext hJ hend
      simp only [Bl.EndE, List.getElem?_cons_succ, List.getElem?_cons_zero, Option.bind_some, List.getD_cons_succ, List.getD_cons_zero, Bl.eqv, true_and] at hend
      simp only [Bl.fillAct, List.setIfInBounds_toArray, List.set_cons_succ, List.set_cons_zero, List.drop_succ_cons, List.drop_zero, hend]
      have hbx := Hz0.out.ext hext
      have Hst := Bl.hid (hbx.store (P := Tryd.prog) (cs' := Bl.cN x) (by rw [Bl.cN_len Hxd.out]; rfl) (Bl.cN_one _) (ty := 57) (by rw [Bl.cN_len Hxd.out]; kernel_rfl))
      have Hld := Bl.hid ((hbx.set (cs' := Bl.cN x) (by rw [Bl.cN_len Hxd.out]; rfl)).loadVar (P := Tryd.prog) Tryd.underlying57 rfl (by rw [Bl.cN_len Hxd.out]; kernel_rfl))
      have HEf := Bl.hid (HE0.out.trans hext)
      clear hbx hend hext
      go_wp2_with (((with_reducible refine Bl.wpL_store ?_ ?_ Hst.out ?_); rfl; rfl))
      refine bodyPost_ret (v := .tuple #[.agg (Bl.cN x).toArray, .bool true]) (Bl.results_cell2 rfl rfl Hld.out rfl) rfl ⟨?_, Bl.below_setCells _ _ _ _ HEf.out (Nat.le_refl _)⟩
      rw [Hx.out, Hm.out]
      rfl
    case hJ0 => trivial

set_option maxRecDepth 100000 in
set_option maxHeartbeats 1000000 in
theorem dat_any (b : Nat) (v : Value) (N : List Bl.Nt) (k : Int) (w : World) (h : Bl.Di w b v N) (hr : Bl.Ris N) (hl : N.length ≤ 512) :
    Calls Tryd.prog 17 #[.pointer (some ⟨b, 0, none⟩), .int .i64 k] w fun e w' => e = .returned (.tuple #[.agg (Bl.ints .u8 (Bl.atN N k)).toArray, .bool (Bl.hasN N k)]) ∧ Bl.Ext w w' := by
  obtain ⟨p, c, hvf, hvn, hvc⟩ := h.pk.rds.form
  subst hvf
  have HD := Bl.hid h
  have Hr := Bl.hid hr
  have HF0 := Bl.hid (fam_new w 32 .u8 39 #[.int .u8 0, .int .u8 0, .int .u8 0, .int .u8 0, .int .u8 0, .int .u8 0, .int .u8 0, .int .u8 0, .int .u8 0, .int .u8 0, .int .u8 0, .int .u8 0, .int .u8 0, .int .u8 0, .int .u8 0, .int .u8 0, .int .u8 0, .int .u8 0, .int .u8 0, .int .u8 0, .int .u8 0, .int .u8 0, .int .u8 0, .int .u8 0, .int .u8 0, .int .u8 0, .int .u8 0, .int .u8 0, .int .u8 0, .int .u8 0, .int .u8 0, .int .u8 0] rfl)
  have HE0 := Bl.hid (Bl.ext_alloc w (.cells #[.int .u8 0, .int .u8 0, .int .u8 0, .int .u8 0, .int .u8 0, .int .u8 0, .int .u8 0, .int .u8 0, .int .u8 0, .int .u8 0, .int .u8 0, .int .u8 0, .int .u8 0, .int .u8 0, .int .u8 0, .int .u8 0, .int .u8 0, .int .u8 0, .int .u8 0, .int .u8 0, .int .u8 0, .int .u8 0, .int .u8 0, .int .u8 0, .int .u8 0, .int .u8 0, .int .u8 0, .int .u8 0, .int .u8 0, .int .u8 0, .int .u8 0, .int .u8 0] 39))
  have HFi := Bl.hid (fun w2 (h2 : Bl.Ext w w2) => dfind_any b _ N k w2 (h.ext h2) hr hl)
  clear h hr
  go_enter Tryd.func17, Tryd.ntmps17
  go_wp2_with fail
  obtain ⟨W0, hW0⟩ : ∃ W0, W0 = w.alloc (.cells #[.int .u8 0, .int .u8 0, .int .u8 0, .int .u8 0, .int .u8 0, .int .u8 0, .int .u8 0, .int .u8 0, .int .u8 0, .int .u8 0, .int .u8 0, .int .u8 0, .int .u8 0, .int .u8 0, .int .u8 0, .int .u8 0, .int .u8 0, .int .u8 0, .int .u8 0, .int .u8 0, .int .u8 0, .int .u8 0, .int .u8 0, .int .u8 0, .int .u8 0, .int .u8 0, .int .u8 0, .int .u8 0, .int .u8 0, .int .u8 0, .int .u8 0, .int .u8 0] 39) := ⟨_, rfl⟩
  rw [← hW0] at HF0 HE0 ⊢
  clear hW0
  refine (HFi.out W0 HE0.out).mono ?_
  rintro e w1 ⟨i, rfl, hi, hE⟩
  have HE := Bl.hid hE
  have HEw := Bl.hid (HE0.out.trans hE)
  clear hE HFi
  cases hh : Bl.hasN N k with
  | false =>
    have Hv : Hid (Bl.zs32 = Bl.atN N k) := Bl.hid (Bl.atN_no hh).symm
    have Hzl : Hid (Bl.zs32.length = 32) := Bl.hid rfl
    have Hh := Bl.hid hh
    have HFc := Bl.hid (HF0.out.below HE.out (World.block_lt_of_cell? _ _ (HF0.out.1 0 (by decide))))
    have Hst := Bl.hid (Bl.store_ints (P := Tryd.prog) (k := .u8) (ty := 39) (l := Bl.zs32) HFc.out.there (by kernel_rfl) Hzl.out)
    have hinc := World.rangeAt_setCells_same w1 w.heap.size 0 (Bl.ints .u8 Bl.zs32) (by rw [Bl.ints_length, Hzl.out]; exact HFc.out.there)
    have hldc := Bl.hid (run_loadVar_mid (P := Tryd.prog) _ w.heap.size 0 39 (Bl.ints .u8 Bl.zs32) _ hinc Tryd.underlying39 rfl (by rw [Bl.ints_length, Hzl.out]; kernel_rfl))
    clear hi hh hinc
    go_wp2_with (with_reducible refine Bl.stop_store (ty := 39) ?_)
    refine Bl.go_on ?_
    refine Bl.wpL_store0 rfl rfl Hst.out ?_
    go_wp2_with fail
    refine bodyPost_ret (v := .tuple #[.agg (Bl.ints .u8 Bl.zs32).toArray, .bool false]) (Bl.results_cell2 rfl rfl hldc.out rfl) rfl ⟨by rw [Hv.out, Hh.out], Bl.below_setCells _ _ _ _ HEw.out (Nat.le_refl _)⟩
  | true =>
    obtain ⟨hin, hik⟩ := hi hh
    obtain ⟨g, o, cc, hpe, hcn, hcm, hgl, hel⟩ := Bl.RdN.pos HD.out.pk.rds HD.out.dig (by omega)
    injection hpe with hp1 hp2 hp3
    subst hp1 hp3
    have hrg := hel i hin
    have hxd : (N.getD i Bl.n0).2.length = 32 := (HD.out.dig _ (Bl.getD_mem Bl.n0 hin)).1
    have hat := Bl.atN_get Hr.out hin
    rw [hik] at hat
    obtain ⟨x, hxe⟩ : ∃ x, x = N.getD i Bl.n0 := ⟨_, rfl⟩
    rw [← hxe] at hrg hxd hat
    obtain ⟨U, hU⟩ : ∃ U, U = x.2 := ⟨_, rfl⟩
    rw [← hU] at hxd hat
    have HU := Bl.hid hxd
    have Hv : Hid (U = Bl.atN N k) := Bl.hid hat.symm
    have hr1 : w.rangeAt g (o + i * 33 + 1) (Bl.ints .u8 U) := by
      have := Bl.rangeAt_drop hrg 1
      rw [Bl.cN_root, ← hU] at this
      exact this
    have Hr1 := Bl.hid (Bl.rangeAt_ext hr1 HEw.out)
    have hc0 := (HD.out.ext HEw.out).c0
    have hi0 : (0 : Int) ≤ (i : Int) := by omega
    have hi1 : (i : Int) < (N.length : Int) := by omega
    have Hh := Bl.hid hh
    clear hel hrg hxe hxd hat hU hr1 hi hh hik hp2 hcn hcm
    go_wp2_with (with_reducible refine Bl.stop_load (ty := 39) ?_)
    refine Bl.go_on ?_
    refine Bl.wpL_load rfl (Bl.load_ints Hr1.out Tryd.underlying39 (by kernel_rfl) HU.out) ?_
    have HFc := Bl.hid (HF0.out.below HE.out (World.block_lt_of_cell? _ _ (HF0.out.1 0 (by decide))))
    have Hstc := Bl.hid (Bl.store_ints (P := Tryd.prog) (k := .u8) (ty := 39) (l := U) HFc.out.there (by kernel_rfl) HU.out)
    go_wp2_with (((with_reducible refine Bl.wpL_store ?_ ?_ Hstc.out ?_); rfl; rfl))
    have hinc := World.rangeAt_setCells_same _ (w.heap.size) 0 (Bl.ints .u8 U) (by rw [Bl.ints_length, HU.out]; exact HFc.out.there)
    have hldc := run_loadVar_mid (P := Tryd.prog) _ (w.heap.size) 0 39 (Bl.ints .u8 U) _ hinc Tryd.underlying39 rfl (by rw [Bl.ints_length, HU.out]; kernel_rfl)
    refine bodyPost_ret (v := .tuple #[.agg (Bl.ints .u8 U).toArray, .bool true]) (Bl.results_cell2 rfl rfl hldc rfl) rfl ⟨by rw [Hv.out, Hh.out], Bl.below_setCells _ _ _ _ HEw.out (Nat.le_refl _)⟩
end Go.Proofs.YtmfooocdnoflaaaDoor

/- Walks of package diary: follows, Take. -/
namespace Go.Proofs.Bl
open Go Go.RowKit
/-- a note's cells, its size any number -/
def cZ (size : Int) (root : List Int) : List Value := .int .i64 size :: ints .u8 root
theorem cZ_len {size : Int} {root : List Int} (h : root.length = 32) : (cZ size root).length = 33 := by unfold cZ; rw [List.length_cons, ints_length, h]
theorem cZ_one (size : Int) (root : List Int) : ∀ c ∈ cZ size root, c.oneCell' = true := fun c hc => by
  rcases List.mem_cons.1 hc with rfl | hc
  · rfl
  · exact ints_one _ _ c hc
theorem cZ_ne (size : Int) (root : List Int) : cZ size root ≠ [] := fun h => by cases h
theorem cZ_size (size : Int) (root : List Int) : (cZ size root)[0]? = some (.int .i64 size) := rfl
theorem cZ_root (size : Int) (root : List Int) : (cZ size root).drop 1 = ints .u8 root := rfl
theorem cZ_cN {size : Int} (root : List Int) (h : 0 ≤ size) : cN (size.toNat, root) = cZ size root := by
  unfold cN cZ; rw [Int.toNat_of_nonneg h]
theorem Adds.of_ext {w w' : World} {b : Nat} {r : Option Nat} (h : Ext w w') : Adds w w' b r := ⟨h.os, h.tape, h.output, h.size, fun k hk _ _ => h.block k hk⟩
theorem takeE_r1 {N : List Nt} {size : Int} {root : List Int} {p : List (List Int)} (h : size < 1 ∨ 512 < size) : takeE N size root p = 1 := if_pos h
theorem takeE_nil {N : List Nt} {size : Int} {root : List Int} {p : List (List Int)} (h : ¬ (size < 1 ∨ 512 < size)) (hn : N.length = 0) : takeE N size root p = if p.length = 0 then 0 else 8 := by unfold takeE; rw [if_neg h, if_pos hn]
theorem takeE_late {N : List Nt} {size : Int} {root : List Int} {p : List (List Int)} (h : ¬ (size < 1 ∨ 512 < size)) (hn : ¬ N.length = 0) (hl : size < ((lastN N).1 : Int)) : takeE N size root p = 19 := by unfold takeE; rw [if_neg h, if_neg hn, if_pos hl]
theorem takeE_chk {N : List Nt} {size : Int} {root : List Int} {p : List (List Int)} (h : ¬ (size < 1 ∨ 512 < size)) (hn : ¬ N.length = 0) (hl : ¬ size < ((lastN N).1 : Int)) : takeE N size root p = chkG (lastN N).1 size (lastN N).2 root p := by unfold takeE; rw [if_neg h, if_neg hn, if_neg hl]
theorem lastN_dig {N : List Nt} (h : DgN N) : (lastN N).2.length = 32 ∧ Byt (lastN N).2 := by
  by_cases hn : N.length = 0
  · obtain rfl := List.length_eq_zero_iff.1 hn
    exact ⟨rfl, fun x hx => by
      have := List.eq_of_mem_replicate (show x ∈ List.replicate 32 (0 : Int) from hx)
      omega⟩
  · exact h _ (lastN_mem (by omega))
end Go.Proofs.Bl
namespace Go.Proofs.YtmfooocdnoflaaaDoor
open Go Go.RowKit Go.Proofs

set_option maxRecDepth 100000 in
set_option maxHeartbeats 1000000 in
theorem dfollows_any (b : Nat) (v : Value) (N : List Bl.Nt) (size : Int) (root : List Int) (vp : Value) (p : List (List Int)) (w : World) (S : List Nat) (a : Nat → Addr) (h : Bl.Di w b v N) (hl : N.length ≤ 512) (hro : root.length = 32 ∧ Bl.Byt root) (hp : Bl.RdD w vp p) (hdp : Bl.Dig p) (he : Errs S a w) (s1 : 1 ∈ S) (s8 : 8 ∈ S) (s15 : 15 ∈ S) (s19 : 19 ∈ S) (hg : Glob w) :
    Calls Tryd.prog 32 #[.pointer (some ⟨b, 0, none⟩), .agg (Bl.cZ size root).toArray, vp] w fun e w' => e = .returned (errN a (Bl.takeE N size root p)) ∧ Bl.Ext w w' := by
  obtain ⟨pp, cp, hvf, hvn, hvc⟩ := hp.form
  subst hvf
  obtain ⟨nb, hnb⟩ : ∃ nb, nb = decide (N.length ≠ 0) := ⟨_, rfl⟩
  have HL : Hid (∀ w2, Bl.Ext w w2 → Calls Tryd.prog 23 #[.pointer (some ⟨b, 0, none⟩)] w2 fun e w' => e = .returned (.tuple #[.agg (Bl.cN (Bl.lastN N)).toArray, .bool nb]) ∧ Bl.Ext w2 w') := Bl.hid fun w2 h2 => by rw [hnb]; exact dlast_any b v N w2 (h.ext h2) hl
  have Hnb := Bl.hid hnb
  have Hd := Bl.hid h.dig
  have HP := Bl.hid hp
  have Hdp := Bl.hid hdp
  have He := Bl.hid he
  have Hg := Bl.hid hg
  have HB4 := Bl.hid (Bl.BoxC.box w 57 (Bl.cZ_ne size root))
  have HE1 := Bl.hid (Bl.ext_alloc w (.cells (Bl.cZ size root).toArray 57))
  have hsz : (Bl.cZ size root).toArray.size = 33 := by simp [Bl.cZ_len hro.1]
  have Hro := Bl.hid hro
  obtain ⟨pl, hpl⟩ : ∃ pl, pl = p.length := ⟨_, rfl⟩
  have Hpl := Bl.hid hpl
  rw [← hpl] at HP hvn ⊢
  clear h hp hdp he hg hro hpl hnb
  go_enter Tryd.func32, Tryd.ntmps32
  go_wp2_with fail
  obtain ⟨W1, hW1⟩ : ∃ W1, W1 = w.alloc (.cells (Bl.cZ size root).toArray 57) := ⟨_, rfl⟩
  obtain ⟨X4, hX4⟩ : ∃ X4, X4 = w.heap.size := ⟨_, rfl⟩
  rw [← hW1] at HB4 HE1 ⊢
  rw [← hX4] at HB4 ⊢
  clear hW1 hX4 hsz
  refine (HL.out W1 HE1.out).mono ?_
  rintro e w2 ⟨rfl, hE2⟩
  have HE2 := Bl.hid (HE1.out.trans hE2)
  have HB42 := Bl.hid (HB4.out.ext hE2)
  have Hlx := Bl.hid (Bl.lastN_dig Hd.out)
  have Hln : Hid (N.length = 0 → (Bl.lastN N).1 = 0) := Bl.hid fun q => by obtain rfl := List.length_eq_zero_iff.1 q; rfl
  have HT := Bl.hid (And.intro (fun r q => @Bl.takeE_nil N size root p r q) (And.intro (fun r q z => @Bl.takeE_late N size root p r q z) (fun r q z => @Bl.takeE_chk N size root p r q z)))
  obtain ⟨x, hx⟩ : ∃ x, x = Bl.lastN N := ⟨_, rfl⟩
  rw [← hx] at Hlx Hln HT ⊢
  obtain ⟨HB7, HE7⟩ := Bl.BoxC.fresh (cs := Bl.cN x) w2 57 #[.int .i64 0, .int .u8 0, .int .u8 0, .int .u8 0, .int .u8 0, .int .u8 0, .int .u8 0, .int .u8 0, .int .u8 0, .int .u8 0, .int .u8 0, .int .u8 0, .int .u8 0, .int .u8 0, .int .u8 0, .int .u8 0, .int .u8 0, .int .u8 0, .int .u8 0, .int .u8 0, .int .u8 0, .int .u8 0, .int .u8 0, .int .u8 0, .int .u8 0, .int .u8 0, .int .u8 0, .int .u8 0, .int .u8 0, .int .u8 0, .int .u8 0, .int .u8 0, .int .u8 0] (by rw [Bl.cN_len Hlx.out.1]; rfl) (Bl.cN_ne x)
  have Hst := Bl.hid (Bl.fresh_store (P := Tryd.prog) (cs := Bl.cN x) w2 57 #[.int .i64 0, .int .u8 0, .int .u8 0, .int .u8 0, .int .u8 0, .int .u8 0, .int .u8 0, .int .u8 0, .int .u8 0, .int .u8 0, .int .u8 0, .int .u8 0, .int .u8 0, .int .u8 0, .int .u8 0, .int .u8 0, .int .u8 0, .int .u8 0, .int .u8 0, .int .u8 0, .int .u8 0, .int .u8 0, .int .u8 0, .int .u8 0, .int .u8 0, .int .u8 0, .int .u8 0, .int .u8 0, .int .u8 0, .int .u8 0, .int .u8 0, .int .u8 0, .int .u8 0] (by rw [Bl.cN_len Hlx.out.1]; rfl) (Bl.cN_one x) (ty := 57) (by rw [Bl.cN_len Hlx.out.1]; kernel_rfl))
  replace HB7 := Bl.hid HB7
  replace HE7 := Bl.hid HE7
  clear hE2 hx HL
  go_wp2_with (with_reducible refine Bl.stop_store (ty := 57) ?_)
  refine Bl.go_on ?_
  refine Bl.wpL_store0 rfl rfl Hst.out ?_
  obtain ⟨W3, hW3⟩ : ∃ W3, W3 = (w2.alloc (.cells #[.int .i64 0, .int .u8 0, .int .u8 0, .int .u8 0, .int .u8 0, .int .u8 0, .int .u8 0, .int .u8 0, .int .u8 0, .int .u8 0, .int .u8 0, .int .u8 0, .int .u8 0, .int .u8 0, .int .u8 0, .int .u8 0, .int .u8 0, .int .u8 0, .int .u8 0, .int .u8 0, .int .u8 0, .int .u8 0, .int .u8 0, .int .u8 0, .int .u8 0, .int .u8 0, .int .u8 0, .int .u8 0, .int .u8 0, .int .u8 0, .int .u8 0, .int .u8 0, .int .u8 0] 57)).setCells w2.heap.size 0 (Bl.cN x) := ⟨_, rfl⟩
  obtain ⟨X7, hX7⟩ : ∃ X7, X7 = w2.heap.size := ⟨_, rfl⟩
  rw [← hW3] at HB7 HE7 ⊢
  rw [← hX7] at HB7 ⊢
  clear hW3 hX7 Hst
  have HB43 := Bl.hid (HB42.out.ext HE7.out)
  have HE3 := Bl.hid (HE2.out.trans HE7.out)
  have hq4 := HB43.out.cell (Bl.cZ_size size root)
  have hq7 := HB7.out.cell (Bl.cN_size x)
  have He3 := Bl.hid (He.out.ext HE3.out)
  have hF1 : W3.cell? ⟨0, 0, none⟩ = some (.iface 161 (.pointer (some (a 1)))) := He3.out.cell 1 s1
  have hF8 : W3.cell? ⟨7, 0, none⟩ = some (.iface 161 (.pointer (some (a 8)))) := He3.out.cell 8 s8
  have hF19 : W3.cell? ⟨18, 0, none⟩ = some (.iface 161 (.pointer (some (a 19)))) := He3.out.cell 19 s19
  clear HB42 HB4 HE2 HE1 HE7
  by_cases hr1 : size < 1
  · have Hv := Bl.hid (Bl.takeE_r1 (N := N) (root := root) (p := p) (.inl hr1))
    go_wp2_with fail
    go_ret
    exact ⟨by rw [Hv.out, errN_pos a 1 (by decide)]; rfl, HE3.out⟩
  by_cases hr2 : 512 < size
  · have Hv := Bl.hid (Bl.takeE_r1 (N := N) (root := root) (p := p) (.inr hr2))
    go_wp2_with fail
    go_ret
    exact ⟨by rw [Hv.out, errN_pos a 1 (by decide)]; rfl, HE3.out⟩
  have hrr : ¬ (size < 1 ∨ 512 < size) := fun q => q.elim hr1 hr2
  by_cases hn : N.length = 0
  · have hx0 := Hln.out hn
    rw [hx0] at hq7
    have hT := HT.out.1 hrr hn
    have Hn := Bl.hid hn
    obtain rfl : nb = false := by rw [Hnb.out]; simp [hn]
    have hq0 : ¬ size < 0 := by omega
    by_cases hpz : pl = 0
    · have Hv : Hid (Bl.takeE N size root p = 0) := Bl.hid (by rw [hT, ← Hpl.out, if_pos hpz])
      subst hpz
      clear hT hrr
      go_wp2_with fail
      go_ret
      exact ⟨by rw [Hv.out]; rfl, HE3.out⟩
    · have Hv : Hid (Bl.takeE N size root p = 8) := Bl.hid (by rw [hT, ← Hpl.out, if_neg hpz])
      have hp0 : (0 : Int) < (pl : Int) := by omega
      clear hT hrr hpz
      go_wp2_with fail
      go_ret
      exact ⟨by rw [Hv.out, errN_pos a 8 (by decide)]; rfl, HE3.out⟩
  · obtain rfl : nb = true := by rw [Hnb.out]; exact decide_eq_true hn
    by_cases hlt : size < (x.1 : Int)
    · have Hv := Bl.hid (HT.out.2.1 hrr hn hlt)
      clear hrr
      go_wp2_with fail
      go_ret
      exact ⟨by rw [Hv.out, errN_pos a 19 (by decide)]; rfl, HE3.out⟩
    · have Hv := Bl.hid (HT.out.2.2 hrr hn (by omega))
      have HCk := Bl.hid (gcheck_any (x.1 : Int) size x.2 root (.slice pp pl cp) p W3 S a He3.out s1 s8 s15 Hlx.out.1 Hlx.out.2 Hro.out.1 (Bl.Rds.ext HP.out HE3.out) Hdp.out (Hg.out.ext HE3.out))
      rw [← Hv.out] at HCk
      obtain ⟨K, hK⟩ : ∃ K, K = Bl.takeE N size root p := ⟨_, rfl⟩
      rw [← hK] at HCk
      have HK := Bl.hid hK
      have Hl7 := Bl.hid (Bl.load_ints (P := Tryd.prog) (ty := 39) (HB7.out.sub (Bl.cN_root x)) Tryd.underlying39 (by kernel_rfl) Hlx.out.1)
      have Hl4 := Bl.hid (Bl.load_ints (P := Tryd.prog) (ty := 39) (HB43.out.sub (Bl.cZ_root size root)) Tryd.underlying39 (by kernel_rfl) Hro.out.1)
      clear hrr hK Hv
      go_wp2_with (with_reducible refine Bl.stop_load (ty := 39) ?_)
      refine Bl.go_on ?_
      refine Bl.wpL_load rfl Hl7.out ?_
      go_wp2_with (with_reducible refine Bl.stop_load (ty := 39) ?_)
      refine Bl.go_on ?_
      refine Bl.wpL_load rfl Hl4.out ?_
      go_wp2_with fail
      refine HCk.out.mono ?_
      rintro e w4 ⟨rfl, hE4⟩
      have HE4 := Bl.hid (HE3.out.trans hE4)
      clear hE4
      go_wp2_with fail
      go_ret
      exact ⟨by rw [HK.out]; rfl, HE4.out⟩
end Go.Proofs.YtmfooocdnoflaaaDoor

/- Walk of diary.Take. -/
namespace Go.Proofs.YtmfooocdnoflaaaDoor
open Go Go.RowKit Go.Proofs

theorem buildNote (size : Int) (root : List Int) (h : root.length = 32) (w : World) : (Instr.build 57 #[(0, .int .i64 size), (1, .agg (Bl.ints .u8 root).toArray)]).run Tryd.prog w = .ok (.agg (Bl.cZ size root).toArray) w := by
  obtain ⟨a0, a1, a2, a3, a4, a5, a6, a7, a8, a9, a10, a11, a12, a13, a14, a15, a16, a17, a18, a19, a20, a21, a22, a23, a24, a25, a26, a27, a28, a29, a30, a31, rfl⟩ := Bl.list32 root h
  exact run_build w _ _ _ (by kernel_rfl)

set_option maxRecDepth 100000 in
set_option maxHeartbeats 2000000 in
theorem dtake_any (b : Nat) (v : Value) (N : List Bl.Nt) (size : Int) (root : List Int) (vp : Value) (p : List (List Int)) (wb w : World) (S : List Nat) (a : Nat → Addr) (h : Bl.Di w b v N) (hr : Bl.Ris N) (hl : N.length ≤ 500) (hro : root.length = 32 ∧ Bl.Byt root) (hp : Bl.RdD w vp p) (hdp : Bl.Dig p) (he : Errs S a w) (s1 : 1 ∈ S) (s8 : 8 ∈ S) (s15 : 15 ∈ S) (s19 : 19 ∈ S) (hg : Glob w)
    (hE0 : Bl.Ext wb w) (hb : wb.heap.size ≤ b) (hv : ∀ k, v.ownBlock = some k → wb.heap.size ≤ k) :
    Calls Tryd.prog 13 #[.pointer (some ⟨b, 0, none⟩), .int .i64 size, .agg (Bl.ints .u8 root).toArray, vp] w fun e w' => e = .returned (errN a (Bl.takeE N size root p)) ∧ ∃ v', Bl.Di w' b v' (Bl.takeN N size root p) ∧ (∀ k, v'.ownBlock = some k → v.ownBlock = some k ∨ w.heap.size ≤ k) ∧ Bl.Adds w w' b v.ownBlock := by
  have HD := Bl.hid h
  have Hr := Bl.hid hr
  have Hro := Bl.hid hro
  have HF := Bl.hid (fun w2 (h2 : Bl.Ext w w2) => dfollows_any b v N size root vp p w2 S a (h.ext h2) (by omega) hro (Bl.Rds.ext hp h2) hdp (he.ext h2) s1 s8 s15 s19 (hg.ext h2))
  have HFi := Bl.hid (fun w2 (h2 : Bl.Ext w w2) => dfind_any b v N size w2 (h.ext h2) hr (by omega))
  have HE0 := Bl.hid hE0
  have Hb := Bl.hid hb
  have Hv := Bl.hid hv
  have Hl := Bl.hid hl
  have HB6 := Bl.hid (Bl.BoxC.box w 39 (cs := Bl.ints .u8 root) (by intro q; have := congrArg List.length q; rw [Bl.ints_length, hro.1] at this; cases this))
  have HE1 := Bl.hid (Bl.ext_alloc w (.cells (Bl.ints .u8 root).toArray 39))
  have hsz : (Bl.ints .u8 root).toArray.size = 32 := by simp [hro.1]
  have Hbd := Bl.hid (buildNote size root hro.1)
  clear h hr hro hp hdp he hg hE0 hb hv
  go_enter Tryd.func13, Tryd.ntmps13
  go_wp2_with (with_reducible refine Bl.stop_load (ty := 39) ?_)
  refine Bl.go_on ?_
  obtain ⟨W1, hW1⟩ : ∃ W1, W1 = w.alloc (.cells (Bl.ints .u8 root).toArray 39) := ⟨_, rfl⟩
  obtain ⟨X6, hX6⟩ : ∃ X6, X6 = w.heap.size := ⟨_, rfl⟩
  rw [← hW1] at HB6 HE1 ⊢
  rw [← hX6] at HB6 ⊢
  clear hW1 hX6 hsz
  have Hl6 := Bl.hid (Bl.load_ints (P := Tryd.prog) (ty := 39) HB6.out.rg Tryd.underlying39 (by kernel_rfl) Hro.out.1)
  refine Bl.wpL_load rfl Hl6.out ?_
  go_wp2_with (with_reducible refine Bl.stop_buildS (ty := 57) ?_)
  refine Bl.go_on ?_
  refine Bl.wpL_build2 rfl rfl (Hbd.out _) ?_
  obtain ⟨nc, hnc⟩ : ∃ nc, nc = Bl.cZ size root := ⟨_, rfl⟩
  have Hnl : Hid (nc.length = 33) := Bl.hid (by rw [hnc, Bl.cZ_len Hro.out.1])
  have Hn1 : Hid (∀ c ∈ nc, c.oneCell' = true) := Bl.hid (by rw [hnc]; exact Bl.cZ_one size root)
  have Hne : Hid (nc ≠ []) := Bl.hid (by rw [hnc]; exact Bl.cZ_ne size root)
  have Hnc := Bl.hid hnc
  rw [← hnc] at HF ⊢
  obtain ⟨HB9, HE9⟩ := Bl.BoxC.fresh (cs := nc) W1 57 #[.int .i64 0, .int .u8 0, .int .u8 0, .int .u8 0, .int .u8 0, .int .u8 0, .int .u8 0, .int .u8 0, .int .u8 0, .int .u8 0, .int .u8 0, .int .u8 0, .int .u8 0, .int .u8 0, .int .u8 0, .int .u8 0, .int .u8 0, .int .u8 0, .int .u8 0, .int .u8 0, .int .u8 0, .int .u8 0, .int .u8 0, .int .u8 0, .int .u8 0, .int .u8 0, .int .u8 0, .int .u8 0, .int .u8 0, .int .u8 0, .int .u8 0, .int .u8 0, .int .u8 0] (by rw [Hnl.out]; rfl) Hne.out
  have Hst := Bl.hid (Bl.fresh_store (P := Tryd.prog) (cs := nc) W1 57 #[.int .i64 0, .int .u8 0, .int .u8 0, .int .u8 0, .int .u8 0, .int .u8 0, .int .u8 0, .int .u8 0, .int .u8 0, .int .u8 0, .int .u8 0, .int .u8 0, .int .u8 0, .int .u8 0, .int .u8 0, .int .u8 0, .int .u8 0, .int .u8 0, .int .u8 0, .int .u8 0, .int .u8 0, .int .u8 0, .int .u8 0, .int .u8 0, .int .u8 0, .int .u8 0, .int .u8 0, .int .u8 0, .int .u8 0, .int .u8 0, .int .u8 0, .int .u8 0, .int .u8 0] (by rw [Hnl.out]; rfl) Hn1.out (ty := 57) (by rw [Hnl.out]; kernel_rfl))
  replace HB9 := Bl.hid HB9
  have HE9 := Bl.hid (HE1.out.trans HE9)
  clear hnc Hbd Hl6
  go_wp2_with (with_reducible refine Bl.stop_store (ty := 57) ?_)
  refine Bl.go_on ?_
  refine Bl.wpL_store0 rfl rfl Hst.out ?_
  have HXle : Hid (w.heap.size ≤ W1.heap.size) := Bl.hid HE1.out.size
  obtain ⟨W3, hW3⟩ : ∃ W3, W3 = (W1.alloc (.cells #[.int .i64 0, .int .u8 0, .int .u8 0, .int .u8 0, .int .u8 0, .int .u8 0, .int .u8 0, .int .u8 0, .int .u8 0, .int .u8 0, .int .u8 0, .int .u8 0, .int .u8 0, .int .u8 0, .int .u8 0, .int .u8 0, .int .u8 0, .int .u8 0, .int .u8 0, .int .u8 0, .int .u8 0, .int .u8 0, .int .u8 0, .int .u8 0, .int .u8 0, .int .u8 0, .int .u8 0, .int .u8 0, .int .u8 0, .int .u8 0, .int .u8 0, .int .u8 0, .int .u8 0] 57)).setCells W1.heap.size 0 nc := ⟨_, rfl⟩
  obtain ⟨X9, hX9⟩ : ∃ X9, X9 = W1.heap.size := ⟨_, rfl⟩
  rw [← hW3] at HB9 HE9 ⊢
  rw [← hX9] at HB9 HXle ⊢
  clear hW3 hX9 Hst HB6 HE1
  have Hld3 := Bl.hid (HB9.out.load (P := Tryd.prog) Tryd.underlying57 rfl (by rw [Hnl.out]; kernel_rfl))
  go_wp2_with (with_reducible refine Bl.stop_load (ty := 57) ?_)
  refine Bl.go_on ?_
  refine Bl.wpL_load rfl Hld3.out ?_
  go_wp2_with fail
  refine (HF.out W3 HE9.out).mono ?_
  rintro e w4 ⟨rfl, hE4⟩
  have HE4 := Bl.hid (HE9.out.trans hE4)
  have HB94 := Bl.hid (HB9.out.ext hE4)
  obtain ⟨K, hK⟩ : ∃ K, K = Bl.takeE N size root p := ⟨_, rfl⟩
  rw [← hK]
  have HK := Bl.hid hK
  clear hE4 hK HF Hld3 HB9 HE9
  by_cases hk : K = 0
  · subst hk
    rw [errN_zero]
    have Hhas : Hid ((((Bl.lastN N).1 : Int) < size → Bl.hasN N size = false) ∧ (¬ ((Bl.lastN N).1 : Int) < size → Bl.hasN N size = true)) := Bl.hid (by
      have h := Bl.has_last Hr.out HK.out.symm
      exact ⟨fun q => by rw [h]; exact decide_eq_false (fun z => z q), fun q => by rw [h]; exact decide_eq_true q⟩)
    have HTn : Hid (Bl.takeN N size root p = if ((Bl.lastN N).1 : Int) < size then N ++ [(size.toNat, root)] else N) := Bl.hid (by
      unfold Bl.takeN
      rw [← HK.out]
      by_cases q : ((Bl.lastN N).1 : Int) < size
      · rw [if_pos ⟨rfl, q⟩, if_pos q]
      · rw [if_neg (fun z => q z.2), if_neg q])
    have Hsz := Bl.hid (Bl.takeE_rg HK.out.symm)
    go_wp2_with fail
    refine (HFi.out w4 HE4.out).mono ?_
    rintro e w5 ⟨i, rfl, _, hE5⟩
    have HE5 := Bl.hid (HE4.out.trans hE5)
    have HB95 := Bl.hid (HB94.out.ext hE5)
    clear hE5 HFi HB94 HE4
    by_cases hlt : ((Bl.lastN N).1 : Int) < size
    · rw [Hhas.out.1 hlt]
      have HT2 : Hid (Bl.takeN N size root p = N ++ [(size.toNat, root)]) := Bl.hid (by rw [HTn.out, if_pos hlt])
      have hD5 := HD.out.ext HE5.out
      have HJ0 : Hid (Bl.JN 7 6 38 37 33 wb.heap.size b 0 X9 v N.length (Bl.cellsR Bl.cN N) nc w (fun _ => false) (fun _ => undef) w5) := Bl.hid
        (Bl.JN.start hD5.c0 hD5.f0 HB95.out hD5.ne (fun q => by have := (HD.out.pk.block X9 q).2; have := HXle.out; omega) Hb.out Hv.out (Bl.Adds.of_ext HE5.out) HE0.out.size hD5.pk)
      have Hbl := Bl.hid hD5.lt
      clear hD5 hlt HTn Hhas HB95
      go_wp2_with fail
      apply Bl.wp_region_evK (fun a a' => Below wb.heap.size a a') (Bl.JN 7 6 38 37 33 wb.heap.size b 0 X9 v N.length (Bl.cellsR Bl.cN N) nc w) 10 [31, 32, 33, 34, 35, 36, 37, 38, 39, 40] [Bl.eqv _, Bl.eqv _, Bl.eqv _, Bl.eqv _, Bl.eqv _, Bl.eqv _, Bl.anyv, Bl.anyv, Bl.eqv _, Bl.eqv _] (fun w => Below.refl _ w) (fun a b c h k => Below.trans h k) (by kernel_rfl) (by kernel_rfl) (by kernel_rfl) (by kernel_rfl)
      case hsteps =>
        refine ⟨?_, ?_, ?_, ?_, ?_, ?_, ?_, ?_, ?_, ?_, trivial⟩
        all_goals
          intro d ev w1 hext HJd Hanc Hdes hni hb hd
          replace Hanc := Bl.hid Hanc
          replace HJd := Bl.hid HJd
          replace Hdes := Bl.hid Hdes
          replace hni := Bl.hid hni
          have e0 := hb 0 (by decide)
          have e9 := hb 9 (by decide)
          clear hb
          simp only [Array.getD_eq_getD_getElem?, List.getElem?_toArray, List.getElem?_cons_succ, List.getElem?_cons_zero, Option.getD_some] at e0 e9
          simp only [Bl.DepsE2, List.getElem?_cons_succ, List.getElem?_cons_zero, Option.bind_some, List.getD_cons_succ, List.getD_cons_zero, Bl.eqv, and_true] at hd
          have hc := (Bl.bcell hext).1
          have q1 := HJd.out.c
          simp only [Region.wanted, if_true]
          first
          | ((with_reducible refine Bl.goodX_load (fun w => Below.refl _ w) ?_ (HJd.out.box.load (P := Tryd.prog) Tryd.underlying57 rfl (by rw [Hnl.out]; kernel_rfl)) ?_); exact e9; exact ⟨rfl, HJd.out.same (by decide)⟩) | ((with_reducible refine Bl.goodX_build1 (cs := nc.toArray) tNote (by decide) ?_ ?_ ?_ ?_); exact hd; (simp [Hnl.out]); exact Bl.below_alloc _ _ (Nat.le_trans HJd.out.le HJd.out.ad.size); exact ⟨trivial, HJd.out.lay (by decide) (Hdes.out 7 (by kernel_rfl))⟩) | (obtain ⟨g9, hg56, hrg9⟩ := HJd.out.bl (Hanc.out 6 (by kernel_rfl)) hni.out; (with_reducible refine Bl.goodX_append (m := 1) (c := 1) tNote (HJd.out.pk hni.out) hrg9 ?_ ?_ ?_ ?_ ?_ ?_ ?_ ?_ ?_); (rw [Hnl.out]); exact Hn1.out; decide; (have := Hl.out; unfold maxLen; omega); (have := Hl.out; omega); exact Nat.zero_le _; exact hd.1; exact hg56; (intro v' w' h2 h3 h4; have h5 := HJd.out.app (by decide) h2 h3 h4; exact ⟨h5.1, trivial, h5.2⟩))
          | (go_simp; first | exact ⟨Below.refl _ _, rfl, HJd.out.same (by decide)⟩ | exact ⟨Below.refl _ _, rfl, Bl.HJ.same (by decide) HJd.out⟩)
      case hmono => exact ⟨Bl.monoR_eqv _, Bl.monoR_eqv _, Bl.monoR_eqv _, Bl.monoR_eqv _, Bl.monoR_eqv _, Bl.monoR_eqv _, Bl.monoR_anyv, Bl.monoR_anyv, Bl.monoR_eqv _, Bl.monoR_eqv _, trivial⟩
      case hR0 => exact (Below.refl _ _).drew
      case hend =>
        intro u w1 hext hJ hend
        simp only [Bl.EndE, List.getElem?_cons_succ, List.getElem?_cons_zero, Option.bind_some, List.getD_cons_succ, List.getD_cons_zero, Bl.eqv, true_and] at hend
        simp only [Bl.fillAct, List.setIfInBounds_toArray, List.set_cons_succ, List.set_cons_zero, List.drop_succ_cons, List.drop_zero, hend]
        obtain ⟨hP, hO⟩ := hJ.nw rfl
        obtain ⟨p9, c9, hv9, _, _⟩ := hP.rds.form
        have HJ := Bl.hid hJ
        have Hv9 := Bl.hid hv9
        rw [hv9]
        have q1 := hJ.c
        have qf := hJ.fr
        clear hP hO hJ hv9 hend hext
        go_wp2_with fail
        go_ret
        obtain ⟨k1, k2, k3, k4, k5, k6⟩ := HJ.out.done HD.out.lt Hv9.out rfl
        refine ⟨by rw [← HK.out]; rfl, _, ⟨k1, k2, ?_, ?_, k4⟩, k5, k6⟩
        · rw [HT2.out, Bl.cellsR_append, Bl.cellsR_one, List.length_append, List.length_singleton, Bl.cZ_cN root (by have := Hsz.out.1; omega), ← Hnc.out]
          exact k3
        · rw [HT2.out]
          exact HD.out.dig.snoc Hro.out
      case hJ0 =>
        have h := HJ0.out
        exact Bl.JN.start h.c h.fr ⟨h.box.rg, h.box.th, h.box.ne⟩ h.ne h.nd h.hb h.hX ⟨h.ad.os, h.ad.tape, h.ad.output, h.ad.size, h.ad.block⟩ h.le ((h.pk rfl).kept (fun _ _ => rfl) (Nat.le_refl _))
    · rw [Hhas.out.2 (by omega)]
      have HT2 : Hid (Bl.takeN N size root p = N) := Bl.hid (by rw [HTn.out, if_neg hlt])
      clear hlt
      go_wp2_with fail
      go_ret
      exact ⟨by rw [← HK.out]; rfl, v, by rw [HT2.out]; exact HD.out.ext HE5.out, fun k hk => .inl hk, Bl.Adds.of_ext HE5.out⟩
  · rw [errN_pos a K hk]
    have HT2 : Hid (Bl.takeN N size root p = N) := Bl.hid (by unfold Bl.takeN; rw [if_neg (fun q => hk (HK.out.trans q.1))])
    have Hk := Bl.hid hk
    clear hk
    go_wp2_with fail
    go_ret
    exact ⟨by rw [← HK.out, errN_pos a K Hk.out]; rfl, v, by rw [HT2.out]; exact HD.out.ext HE4.out, fun k hk => .inl hk, Bl.Adds.of_ext HE4.out⟩
end Go.Proofs.YtmfooocdnoflaaaDoor

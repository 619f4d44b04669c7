/- Texts that stood apart, in one: WDia6, WDia7, WDia8. -/
import Derived.Test.YtmfooocdnoflaaaGreatDoorDia1
import Derived.Test.YtmfooocdnoflaaaGreatDoorWl0
import Derived.Test.YtmfooocdnoflaaaGreatDoorDia0
import Derived.Test.YtmfooocdnoflaaaGreatDoorNm0
import Derived.Test.YtmfooocdnoflaaaGreatDoorBA2
/- Walks of package diary: agrees, Agrees, Fork. -/
namespace Go.Proofs.Bl
open Go Go.RowKit
/-- does a note agree with leaves? the error's number -/
def agE (x : Nt) (ps : List (List Int)) : Nat := if ps.length < x.1 then 2 else if rootD (ps.take x.1) = x.2 then 0 else 15
def agAll : List Nt → List (List Int) → Nat
  | [], _ => 0
  | x :: r, ps => if agE x ps = 0 then agAll r ps else agE x ps
theorem agAll_zero {N : List Nt} {ps : List (List Int)} : agAll N ps = 0 ↔ ∀ x ∈ N, agE x ps = 0 := by
  induction N with
  | nil => simp [agAll]
  | cons x r ih =>
    unfold agAll
    by_cases h : agE x ps = 0
    · rw [if_pos h, ih]; simp [h]
    · rw [if_neg h]; simp [h]
theorem agAll_drop {N : List Nt} {ps : List (List Int)} : ∀ i, i ≤ N.length → (∀ q, q < i → agE (N.getD q n0) ps = 0) → agAll N ps = agAll (N.drop i) ps := by
  induction N with
  | nil => intro i hi _; simp
  | cons x r ih =>
    intro i hi h
    cases i with
    | zero => rfl
    | succ i =>
      have h0 := h 0 (by omega)
      have e : (x :: r).getD 0 n0 = x := rfl
      rw [e] at h0
      rw [List.drop_succ_cons, ← ih i (by simpa using hi) (fun q hq => by have := h (q + 1) (by omega); simpa using this)]
      conv => lhs; unfold agAll
      rw [if_pos h0]
theorem agAll_at {N : List Nt} {ps : List (List Int)} {i : Nat} (hi : i < N.length) (h : ∀ q, q < i → agE (N.getD q n0) ps = 0) (hn : ¬ agE (N.getD i n0) ps = 0) : agAll N ps = agE (N.getD i n0) ps := by
  rw [agAll_drop i (Nat.le_of_lt hi) h, List.drop_eq_getElem_cons hi]
  unfold agAll
  rw [List.getD_eq_getElem?_getD, List.getElem?_eq_getElem hi] at hn ⊢
  rw [Option.getD_some] at hn ⊢
  rw [if_neg hn]
theorem agAll_all {N : List Nt} {ps : List (List Int)} (h : ∀ q, q < N.length → agE (N.getD q n0) ps = 0) : agAll N ps = 0 := by
  rw [agAll_zero]
  intro x hx
  obtain ⟨i, hi, rfl⟩ := List.getElem_of_mem hx
  have := h i hi
  rwa [List.getD_eq_getElem?_getD, List.getElem?_eq_getElem hi] at this
/-- where two diaries part -/
def partB (B : List Nt) (x : Nt) : Bool := hasN B x.1 && decide (¬ atN B x.1 = x.2)
def forkF (A B : List Nt) : Option Nt := A.find? (partB B)
def forkS (A B : List Nt) : Nat := ((forkF A B).map (·.1)).getD 0
def forkB (A B : List Nt) : Bool := (forkF A B).isSome
theorem fork_at {A B : List Nt} {i : Nat} (hi : i < A.length) (h : ∀ q, q < i → partB B (A.getD q n0) = false) (hp : partB B (A.getD i n0) = true) : forkF A B = some (A.getD i n0) := by
  unfold forkF
  rw [List.find?_eq_some_iff_append]
  refine ⟨hp, A.take i, A.drop (i + 1), ?_, fun a ha => ?_⟩
  · rw [List.getD_eq_getElem?_getD, List.getElem?_eq_getElem hi, Option.getD_some, List.getElem_cons_drop hi, List.take_append_drop]
  · obtain ⟨j, hj, rfl⟩ := List.getElem_of_mem ha
    rw [List.length_take] at hj
    have := h j (by omega)
    rw [List.getElem_take]
    rw [List.getD_eq_getElem?_getD, List.getElem?_eq_getElem (show j < A.length by omega)] at this
    simpa using this
theorem fork_no {A B : List Nt} (h : ∀ q, q < A.length → partB B (A.getD q n0) = false) : forkF A B = none := by
  unfold forkF
  rw [List.find?_eq_none]
  intro x hx
  obtain ⟨i, hi, rfl⟩ := List.getElem_of_mem hx
  have := h i hi
  rw [List.getD_eq_getElem?_getD, List.getElem?_eq_getElem hi] at this
  simpa using this
/-- two diaries that agree with the same leaves never part -/
theorem unforked {A B : List Nt} {ps : List (List Int)} (hB : Ris B) (ha : agAll A ps = 0) (hb : agAll B ps = 0) : forkF A B = none := by
  refine fork_no fun q hq => ?_
  have hx := agAll_zero.1 ha _ (getD_mem n0 hq)
  obtain ⟨x, hxe⟩ : ∃ x, x = A.getD q n0 := ⟨_, rfl⟩
  rw [← hxe] at hx ⊢
  have key : ∀ y : Nt, agE y ps = 0 → rootD (ps.take y.1) = y.2 := fun y hy => by
    unfold agE at hy
    split at hy
    · cases hy
    · split at hy
      · assumption
      · cases hy
  unfold partB
  by_cases h : hasN B x.1 = true
  · obtain ⟨y, hy, he⟩ := hasN_iff.1 h
    obtain ⟨i, hi, rfl⟩ := List.getElem_of_mem hy
    have hat := atN_get hB hi
    rw [List.getD_eq_getElem?_getD, List.getElem?_eq_getElem hi, Option.getD_some, he] at hat
    have h1 := key _ (agAll_zero.1 hb _ hy)
    have h2 := key _ hx
    have e : B[i].1 = x.1 := by omega
    rw [e, h2] at h1
    rw [hat, h, ← h1]
    simp
  · rw [Bool.eq_false_iff.2 h]; rfl
theorem fork_pos {A B : List Nt} (h : Ris A) : forkB A B = decide (0 < forkS A B) := by
  unfold forkB forkS
  cases hf : forkF A B with
  | none => rfl
  | some x =>
    have := (h.rg x (List.mem_of_find?_eq_some hf)).1
    simp; omega
end Go.Proofs.Bl
namespace Go.Proofs.YtmfooocdnoflaaaGreatDoor
open Go Go.RowKit Go.Proofs

end Go.Proofs.YtmfooocdnoflaaaGreatDoor

/- Walks of package diary: Agrees, Fork. -/
namespace Go.Proofs.YtmfooocdnoflaaaGreatDoor
open Go Go.RowKit Go.Proofs

end Go.Proofs.YtmfooocdnoflaaaGreatDoor

/- Walks of the laws' helpers over acts: long, alive. -/
namespace Go.Proofs.YtmfooocdnoflaaaGreatDoor
open Go Go.RowKit Go.Proofs

set_option maxRecDepth 100000 in
set_option maxHeartbeats 1000000 in
theorem longA_any (v : Value) (L : List Bl.Ac) (w : World) (h : Bl.RdA w v L) :
    Calls Tryz.prog 6 #[v] w fun e w' => (e = .returned (.bool true) ∨ (e = .returned (.bool false) ∧ L.length ≤ 30 ∧ ∀ x ∈ L, x.2.2.2.length ≤ 40)) ∧ Bl.Ext w w' := by
  obtain ⟨p, c, hvf, hvn, hvc⟩ := h.rd.form
  subst hvf
  unfold maxLen at hvc
  have HR := Bl.hid h
  obtain ⟨n, hnn⟩ : ∃ n, n = L.length := ⟨_, rfl⟩
  have Hn := Bl.hid hnn
  rw [← hnn] at hvn HR ⊢
  clear h hnn
  go_enter Tryz.func6, Tryz.ntmps6
  by_cases h30 : 30 < n
  · have h30i : (30 : Int) < (n : Int) := by omega
    go_wp2_with fail
    go_ret
    exact ⟨.inl rfl, Below.refl _ _⟩
  have h30i : ¬ ((30 : Int) < (n : Int)) := by omega
  go_wp2_with fail
  go_loopw [10] (fun x wr => ∃ i : Nat, i ≤ n ∧ x = .int .i64 i ∧ Hid (∀ q, q < i → (L.getD q Bl.a0).2.2.2.length ≤ 40) ∧ Bl.Ext w wr) (fun x _ => n - (intOf x).toNat)
  case atStart => exact ⟨0, Nat.zero_le _, rfl, Bl.hid fun q hq => absurd hq (Nat.not_lt_zero _), Below.refl _ _⟩
  case round =>
    obtain ⟨i, hi, rfl, Hq, hE⟩ := hrel
    have HE := Bl.hid hE
    clear hE
    by_cases hlt : i < n
    · have hin : i < L.length := by rw [← Hn.out]; exact hlt
      have hRA := HR.out.ext HE.out
      obtain ⟨g, o, cc, hpe, hcn, hcm, hgl, hel⟩ := hRA.pos (by omega)
      injection hpe with hp1 hp2 hp3
      subst hp1 hp3
      have hrg := hel i hin
      obtain ⟨hxd, _, hxp, hxg⟩ := hRA.ok _ (Bl.getD_mem Bl.a0 hin)
      obtain ⟨x, hx⟩ : ∃ x, x = L.getD i Bl.a0 := ⟨_, rfl⟩
      rw [← hx] at hrg hxd hxp hxg
      have Hx := Bl.hid hx
      have Hld := Bl.hid (run_loadAt_mid (P := Tryz.prog) wr g (o + i * 34) 39 _ _ hrg Tryz.underlying39 rfl (by rw [Bl.cA_len hxd]; kernel_rfl))
      obtain ⟨HB6, HE6⟩ := Bl.BoxC.fresh (cs := Bl.cA x) wr 39 #[.int .i64 0, .int .u8 0, .int .u8 0, .int .u8 0, .int .u8 0, .int .u8 0, .int .u8 0, .int .u8 0, .int .u8 0, .int .u8 0, .int .u8 0, .int .u8 0, .int .u8 0, .int .u8 0, .int .u8 0, .int .u8 0, .int .u8 0, .int .u8 0, .int .u8 0, .int .u8 0, .int .u8 0, .int .u8 0, .int .u8 0, .int .u8 0, .int .u8 0, .int .u8 0, .int .u8 0, .int .u8 0, .int .u8 0, .int .u8 0, .int .u8 0, .int .u8 0, .int .u8 0, .slice none 0 0] (by rw [Bl.cA_len hxd]; rfl) (Bl.cA_ne x)
      have Hst := Bl.hid (Bl.fresh_store (P := Tryz.prog) (cs := Bl.cA x) wr 39 #[.int .i64 0, .int .u8 0, .int .u8 0, .int .u8 0, .int .u8 0, .int .u8 0, .int .u8 0, .int .u8 0, .int .u8 0, .int .u8 0, .int .u8 0, .int .u8 0, .int .u8 0, .int .u8 0, .int .u8 0, .int .u8 0, .int .u8 0, .int .u8 0, .int .u8 0, .int .u8 0, .int .u8 0, .int .u8 0, .int .u8 0, .int .u8 0, .int .u8 0, .int .u8 0, .int .u8 0, .int .u8 0, .int .u8 0, .int .u8 0, .int .u8 0, .int .u8 0, .int .u8 0, .slice none 0 0] (by rw [Bl.cA_len hxd]; rfl) (Bl.cA_one hxp) (ty := 39) (by rw [Bl.cA_len hxd]; kernel_rfl))
      have hq3 := HB6.cell (Bl.cA_proof hxd)
      replace HE6 := Bl.hid (HE.out.trans HE6)
      obtain ⟨pp, cp, hpf, hpn, hpc⟩ := hxp.form
      obtain ⟨m, hm⟩ : ∃ m, m = x.2.2.2.length := ⟨_, rfl⟩
      have Hm := Bl.hid hm
      rw [hpf, ← hm] at hq3
      have hi0 : (0 : Int) ≤ (i : Int) := by omega
      have hi1 : (i : Int) < (n : Int) := by omega
      clear hel hrg hxd hx HB6 hp2 hcn hcm hin hRA hxp hxg hpf hpn hpc hm
      go_wp2_with (with_reducible refine Bl.stop_load (ty := 39) ?_)
      refine Bl.go_on ?_
      refine Bl.wpL_load rfl Hld.out ?_
      go_wp2_with (with_reducible refine Bl.stop_store (ty := 39) ?_)
      refine Bl.go_on ?_
      refine Bl.wpL_store0 rfl rfl Hst.out ?_
      generalize (wr.alloc (.cells #[.int .i64 0, .int .u8 0, .int .u8 0, .int .u8 0, .int .u8 0, .int .u8 0, .int .u8 0, .int .u8 0, .int .u8 0, .int .u8 0, .int .u8 0, .int .u8 0, .int .u8 0, .int .u8 0, .int .u8 0, .int .u8 0, .int .u8 0, .int .u8 0, .int .u8 0, .int .u8 0, .int .u8 0, .int .u8 0, .int .u8 0, .int .u8 0, .int .u8 0, .int .u8 0, .int .u8 0, .int .u8 0, .int .u8 0, .int .u8 0, .int .u8 0, .int .u8 0, .int .u8 0, .slice none 0 0] 39)).setCells wr.heap.size 0 (Bl.cA x) = W6 at *
      generalize wr.heap.size = X6 at *
      clear Hst Hld
      by_cases h40 : 40 < m
      · have h40i : (40 : Int) < (m : Int) := by omega
        go_wp2_with fail
        go_ret
        exact ⟨.inl rfl, HE6.out⟩
      · have h40i : ¬ ((40 : Int) < (m : Int)) := by omega
        go_wp2_with fail
        go_roundw
        case rel => exact ⟨i + 1, by omega, by go_num, Bl.hid fun q hq => by
          rcases Nat.lt_succ_iff_lt_or_eq.1 hq with g | g
          · exact Hq.out q g
          · subst g; rw [← Hx.out, ← Hm.out]; omega, HE6.out⟩
        case measure => simp [intOf]; omega
    · obtain rfl : i = n := by omega
      go_wp2_with fail
      go_ret
      exact ⟨.inr ⟨rfl, by omega, fun x hx => by
        obtain ⟨q, hq, rfl⟩ := List.getElem_of_mem hx
        have := Hq.out q (by rw [Hn.out]; exact hq)
        rwa [List.getD_eq_getElem?_getD, List.getElem?_eq_getElem hq] at this⟩, HE.out⟩

def one39 (k : Int) : List Int := k :: List.replicate 31 0
theorem one39_dig (k : Int) (h0 : 0 ≤ k) (h1 : k ≤ 255) : (one39 k).length = 32 ∧ Bl.Byt (one39 k) := ⟨rfl, fun x hx => by
  rcases List.mem_cons.1 hx with rfl | hx
  · exact ⟨h0, h1⟩
  · have := List.eq_of_mem_replicate hx
    omega⟩
theorem take39_a : Bl.takeE [] 3 (one39 1) [] = 0 := by unfold Bl.takeE; simp
theorem take39_b : Bl.takeN [] 3 (one39 1) [] = [(3, one39 1)] := by unfold Bl.takeN; rw [take39_a]; rfl
theorem take39_c : Bl.takeE [(3, one39 1)] 2 (one39 2) [] = 19 := by unfold Bl.takeE; simp [Bl.lastN]
theorem take39_d : Bl.takeN [(3, one39 1)] 2 (one39 2) [] = [(3, one39 1)] := by unfold Bl.takeN; rw [take39_c]; rfl

set_option maxRecDepth 100000 in
set_option maxHeartbeats 1000000 in
theorem alive39 (w : World) (S : List Nat) (a : Nat → Addr) (he : Errs S a w) (hS : ∀ i, 1 ≤ i → i ≤ 20 → i ∈ S) (hg : Glob w) :
    Calls Tryz.prog 4 #[] w fun e w' => e = .returned (.bool true) ∧ Bl.Ext w w' := by
  have He := Bl.hid he
  have HS := Bl.hid hS
  have Hg := Bl.hid hg
  clear he hS hg
  go_enter Tryz.func4, Tryz.ntmps4
  go_wp2_with fail
  refine (dnew_any w).mono ?_
  rintro e w1 ⟨rfl, hD1, hE1⟩
  have HD1 := Bl.hid hD1
  have HE1 := Bl.hid hE1
  obtain ⟨b, hb⟩ : ∃ b, b = w.heap.size := ⟨_, rfl⟩
  rw [← hb] at HD1 ⊢
  have Hb : Hid (w.heap.size ≤ b) := Bl.hid (by omega)
  clear hD1 hE1 hb
  go_wp2_with fail
  refine (dtake_any b _ [] 3 (one39 1) (.slice none 0 0) [] w w1 S a HD1.out Bl.Ris.nil (by decide) (one39_dig 1 (by decide) (by decide)) (Bl.Rds.nil _) Bl.Dig.nil (He.out.ext HE1.out) (HS.out 1 (by decide) (by decide)) (HS.out 8 (by decide) (by decide)) (HS.out 15 (by decide) (by decide)) (HS.out 19 (by decide) (by decide)) (Hg.out.ext HE1.out) HE1.out Hb.out (fun k h => by cases h)).mono ?_
  rintro e w2 ⟨rfl, v2, hD2, hv2, hA2⟩
  rw [take39_a, errN_zero]
  rw [take39_b] at hD2
  have HD2 := Bl.hid hD2
  have HE2 : Hid (Bl.Ext w w2) := Bl.hid (Below.trans HE1.out (hA2.below HE1.out.size Hb.out (fun k h => by cases h)))
  have Hv2 : Hid (∀ k, v2.ownBlock = some k → w.heap.size ≤ k) := Bl.hid fun k hk => by
    rcases hv2 k hk with q | q
    · cases q
    · exact Nat.le_trans HE1.out.size q
  have Hr2 : Hid (Bl.Ris [(3, one39 1)]) := Bl.hid (by have := Bl.Ris.take Bl.Ris.nil 3 (one39 1) []; rwa [take39_b] at this)
  clear hD2 hv2 hA2 HD1
  go_wp2_with fail
  refine (dtake_any b v2 [(3, one39 1)] 2 (one39 2) (.slice none 0 0) [] w w2 S a HD2.out Hr2.out (by decide) (one39_dig 2 (by decide) (by decide)) (Bl.Rds.nil _) Bl.Dig.nil (He.out.ext HE2.out) (HS.out 1 (by decide) (by decide)) (HS.out 8 (by decide) (by decide)) (HS.out 15 (by decide) (by decide)) (HS.out 19 (by decide) (by decide)) (Hg.out.ext HE2.out) HE2.out Hb.out Hv2.out).mono ?_
  rintro e w3 ⟨rfl, v3, hD3, hv3, hA3⟩
  rw [take39_c]
  rw [take39_d] at hD3
  have HD3 := Bl.hid hD3
  have HE3 : Hid (Bl.Ext w w3) := Bl.hid (Below.trans HE2.out (hA3.below HE2.out.size Hb.out Hv2.out))
  clear hD3 hv3 hA3 HD2
  go_wp2_with fail
  refine (num_errN S a w3 19 HS.out (He.out.ext HE3.out) (by decide)).mono ?_
  rintro e w4 ⟨rfl, hE4⟩
  have HE4 := Bl.hid (HE3.out.trans hE4)
  have HD4 := Bl.hid (HD3.out.ext hE4)
  clear hE4 HD3
  go_wp2_with fail
  refine (dnotes_any b v3 _ w4 HD4.out (by decide)).mono ?_
  rintro e w5 ⟨v5, rfl, hown, hE5⟩
  obtain ⟨p5, c5, hf5, _, _⟩ := (Bl.Rds.of_owns hown).form
  subst hf5
  have HE5 := Bl.hid (HE4.out.trans hE5)
  clear hown hE5
  go_wp2_with fail
  go_ret
  exact ⟨rfl, HE5.out⟩
end Go.Proofs.YtmfooocdnoflaaaGreatDoor

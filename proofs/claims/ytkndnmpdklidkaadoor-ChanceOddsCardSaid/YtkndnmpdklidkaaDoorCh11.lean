/- Walk of package chance: Odds.Again. -/
import Derived.Test.YtkndnmpdklidkaaDoorCh10
import Derived.Test.YtkndnmpdklidkaaDoorCh9
namespace Go.Proofs.Bl
open Go Go.RowKit
theorem tob_pow_len (x n k : Nat) (h : x < 256 ^ n) : (tob (x ^ k)).length ≤ n * k + 1 := by
  refine tob_len_le _ _ ?_
  have h2 : x ^ k ≤ (256 ^ n) ^ k := Nat.pow_le_pow_left (Nat.le_of_lt h) k
  rw [← Nat.pow_mul] at h2
  exact Nat.lt_of_le_of_lt h2 (Nat.pow_lt_pow_right (by decide) (by omega))
/-- two numbers in the cells of block B, their rows apart from it -/
structure OddsAt (w : World) (ty : TypeId) (base B a b : Nat) (u v : Value) : Prop where
  fu : ∃ p c, u = .slice p (tob a).length c
  fv : ∃ p c, v = .slice p (tob b).length c
  c0 : w.cell? ⟨B, 0, none⟩ = some u
  c1 : w.cell? ⟨B, 1, none⟩ = some v
  f0 : w.frozen? ⟨B, 0, none⟩ = false
  f1 : w.frozen? ⟨B, 1, none⟩ = false
  ou : w.ownsRow base ty 1 u (tob a).length (ints .u8 (tob a))
  ov : w.ownsRow base ty 1 v (tob b).length (ints .u8 (tob b))
  nu : u.ownBlock ≠ some B
  nv : v.ownBlock ≠ some B
theorem owns_slice {w : World} {base size n : Nat} {ty : TypeId} {v : Value} {xs : List Value} (h : w.ownsRow base ty size v n xs) : ∃ p c, v = .slice p n c := by
  obtain ⟨p, c, h, _⟩ := (Rds.of_owns h).form
  exact ⟨p, c, h⟩
theorem OddsAt.mk2 {w : World} {ty : TypeId} {base B a b : Nat} {x y u v : Value} (c0 : w.cell? ⟨B, 0, none⟩ = some x) (c1 : w.cell? ⟨B, 1, none⟩ = some y) (f0 : w.frozen? ⟨B, 0, none⟩ = false) (f1 : w.frozen? ⟨B, 1, none⟩ = false)
    (ou : w.ownsRow base ty 1 u (tob a).length (ints .u8 (tob a))) (ov : w.ownsRow base ty 1 v (tob b).length (ints .u8 (tob b))) (nu : u.ownBlock ≠ some B) (nv : v.ownBlock ≠ some B) :
    OddsAt ((w.setCell ⟨B, 0, none⟩ u).setCell ⟨B, 1, none⟩ v) ty base B a b u v := by
  obtain ⟨h0, h1⟩ := cells2 (pair_get (x := u) (y := v) c0 c1)
  exact ⟨owns_slice ou, owns_slice ov, h0, h1, by rw [World.frozen?_setCell, World.frozen?_setCell]; exact f0, by rw [World.frozen?_setCell, World.frozen?_setCell]; exact f1, owns_setCell (owns_setCell ou nu 0 _) nu 1 _, owns_setCell (owns_setCell ov nv 0 _) nv 1 _, nu, nv⟩
theorem OddsAt.lt {w : World} {ty : TypeId} {base B a b : Nat} {u v : Value} (h : OddsAt w ty base B a b u v) : B < w.heap.size := World.block_lt_of_cell? _ _ h.c0
/-- a call has given two new numbers, which are stored there -/
theorem OddsAt.next {w w2 : World} {ty : TypeId} {base B a b a' b' : Nat} {u v u' v' : Value} (h : OddsAt w ty base B a b u v) (hE : Ext w w2) (hbase : base ≤ w.heap.size)
    (ou : w2.ownsRow w.heap.size ty 1 u' (tob a').length (ints .u8 (tob a'))) (ov : w2.ownsRow w.heap.size ty 1 v' (tob b').length (ints .u8 (tob b'))) :
    OddsAt ((w2.setCell ⟨B, 0, none⟩ u').setCell ⟨B, 1, none⟩ v') ty base B a' b' u' v' := by
  have hlt := h.lt
  obtain ⟨hc, hf⟩ := bcell hE
  exact OddsAt.mk2 ((hc B 0 hlt).trans h.c0) ((hc B 1 hlt).trans h.c1) ((hf B 0 hlt).trans h.f0) ((hf B 1 hlt).trans h.f1) (owns_mono ou hbase) (owns_mono ov hbase)
    (fun q => by have := (ou.lt _ q).1; omega) (fun q => by have := (ov.lt _ q).1; omega)
end Go.Proofs.Bl
namespace Go.Proofs.YtkndnmpdklidkaaDoor
open Go.RowKit Go.Proofs

set_option maxRecDepth 100000 in
theorem again_err (x y : Value) (n : Int) (a : Addr) (w : World) (hn : n < 0 ∨ 200 < n) (hF : w.cell? ⟨0, 0, none⟩ = some (.iface 97 (.pointer (some a)))) :
    Calls Tryd.prog 29 #[.agg #[x, y], .int .i64 n] w fun e w' => e = .returned (.tuple #[.agg #[.slice none 0 0, .slice none 0 0], .iface 97 (.pointer (some a))]) ∧ Bl.Ext w w' := by
  have hF2 : ((w.alloc (.cells #[x, y] 35)).alloc (.cells #[.slice none 0 0, .slice none 0 0] 35)).cell? ⟨0, 0, none⟩ = some (.iface 97 (.pointer (some a))) := ((Bl.bcell ((Bl.ext_alloc w (.cells #[x, y] 35)).trans (Bl.ext_alloc _ _))).1 _ 0 (World.block_lt_of_cell? _ _ hF)).trans hF
  have hE := Bl.hid ((Bl.ext_alloc w (.cells #[x, y] 35)).trans (Bl.ext_alloc _ (.cells #[.slice none 0 0, .slice none 0 0] 35)))
  have hq : n < 0 ∨ (0 ≤ n ∧ 200 < n) := by omega
  have hc0 := World.cell?_alloc_new (w.alloc (.cells #[x, y] 35)) #[.slice none 0 0, .slice none 0 0] 35 0
  have hc1 := World.cell?_alloc_new (w.alloc (.cells #[x, y] 35)) #[.slice none 0 0, .slice none 0 0] 35 1
  rw [World.size_alloc] at hc0 hc1
  have HP := Bl.hid (loadOdds ((w.alloc (.cells #[x, y] 35)).alloc (.cells #[.slice none 0 0, .slice none 0 0] 35)).drew (w.heap.size + 1) _ _ (Bl.range2 hc0 hc1))
  clear hc0 hc1 hn
  rcases hq with h1 | ⟨h1, h2⟩
  all_goals
    go_enter Tryd.func29, Tryd.ntmps29
    go_wp2_with fail
    go_region
    all_goals
      go_wp2_with fail
      refine bodyPost_ret (v := .tuple #[.agg #[.slice none 0 0, .slice none 0 0], .iface 97 (.pointer (some a))]) (Bl.results_pair2 rfl rfl HP.out rfl) rfl ⟨rfl, hE.out.drew⟩

set_option maxRecDepth 100000 in
set_option maxHeartbeats 1000000 in
theorem again_any (x y : Value) (la lb : List Int) (n : Nat) (w : World) (hn : n ≤ 200) (ha : Bl.Rd w .u8 x la) (hb : Bl.Rd w .u8 y lb) (hla : la.length ≤ 200) (hlb : lb.length ≤ 200) (hya : Bl.Byt la) (hyb : Bl.Byt lb) :
    Calls Tryd.prog 29 #[.agg #[x, y], .int .i64 n] w fun e w' => ∃ u v, e = .returned (.tuple #[.agg #[u, v], .nilIface]) ∧ Bl.Rd w' .u8 u (Bl.tob (Bl.be la ^ n)) ∧ Bl.Rd w' .u8 v (Bl.tob (Bl.be lb ^ n)) ∧ Bl.Ext w w' := by
  have Ha := Bl.hid ha
  have Hb := Bl.hid hb
  have Hya := Bl.hid hya
  have Hyb := Bl.hid hyb
  have Hpa := Bl.hid (fun k => Bl.tob_pow_len (Bl.be la) la.length k (Bl.be_lt la hya))
  have Hpb := Bl.hid (fun k => Bl.tob_pow_len (Bl.be lb) lb.length k (Bl.be_lt lb hyb))
  have d1 : decide ((n : Int) < 0) = false := decide_eq_false (by omega)
  have d2 : decide ((200 : Int) < (n : Int)) = false := decide_eq_false (by omega)
  clear ha hb hya hyb
  obtain ⟨W0, hW0⟩ : ∃ W0, W0 = (w.alloc (.cells #[x, y] 35)).alloc (.cells #[.slice none 0 0, .slice none 0 0] 35) := ⟨_, rfl⟩
  have hs0 : W0.heap.size = w.heap.size + 2 := by rw [hW0]; simp only [World.size_alloc]
  have bx0 : W0.cell? ⟨w.heap.size, 0, none⟩ = some x := by rw [hW0]; simp
  have bx1 : W0.cell? ⟨w.heap.size, 1, none⟩ = some y := by rw [hW0]; simp
  have br0 : W0.cell? ⟨w.heap.size + 1, 0, none⟩ = some (.slice none 0 0) := by rw [hW0]; simp
  have br1 : W0.cell? ⟨w.heap.size + 1, 1, none⟩ = some (.slice none 0 0) := by rw [hW0]; simp
  have fr0 : W0.frozen? ⟨w.heap.size + 1, 0, none⟩ = false := by rw [hW0]; simp
  have fr1 : W0.frozen? ⟨w.heap.size + 1, 1, none⟩ = false := by rw [hW0]; simp
  have hE0 : Bl.Ext w W0 := by rw [hW0]; exact (Bl.ext_alloc _ _).trans (Bl.ext_alloc _ _)
  have Hs0 := Bl.hid hs0
  have HE0 := Bl.hid hE0
  have Hx0 := Bl.hid bx0
  have Hx1 := Bl.hid bx1
  have Hr0 := Bl.hid br0
  have Hr1 := Bl.hid br1
  have Hfr0 := Bl.hid fr0
  have Hfr1 := Bl.hid fr1
  have HW0 := Bl.hid hW0
  clear bx0 bx1 br0 br1 fr0 fr1 hE0 hs0 hW0
  go_enter Tryd.func29, Tryd.ntmps29
  go_wp2_with fail
  rw [← HW0.out]
  refine (one_any _).mono ?_
  rintro e w1 ⟨v1, rfl, ho1, hE1⟩
  have Ho1 := Bl.hid ho1
  have HE1 := Bl.hid hE1
  clear ho1 hE1
  go_wp2_with fail
  refine (one_any _).mono ?_
  rintro e w2 ⟨v2, rfl, ho2, hE2⟩
  have Ho1 := Bl.hid (Bl.owns_ext Ho1.out hE2)
  have Ho2 := Bl.hid (Bl.owns_mono ho2 HE1.out.size)
  have HE2 := Bl.hid (HE1.out.trans hE2)
  obtain ⟨p1, c1, e1⟩ := Bl.owns_slice Ho1.out
  obtain ⟨p2, c2, e2⟩ := Bl.owns_slice Ho2.out
  subst e1 e2
  have HO : Hid (Bl.OddsAt ((w2.alloc (.cells #[.slice p1 1 c1, .slice p2 1 c2] 35))) 5 W0.heap.size w2.heap.size (Bl.be la ^ 0) (Bl.be lb ^ 0) (.slice p1 1 c1) (.slice p2 1 c2)) := Bl.hid (by
    rw [Nat.pow_zero, Nat.pow_zero]
    have t1 : Bl.tob 1 = [1] := by decide +kernel
    refine ⟨⟨p1, c1, by rw [t1]; rfl⟩, ⟨p2, c2, by rw [t1]; rfl⟩, World.cell?_alloc_new _ _ _ 0, World.cell?_alloc_new _ _ _ 1, World.frozen?_alloc_new _ _ _ 0, World.frozen?_alloc_new _ _ _ 1, ?_, ?_, fun q => ?_, fun q => ?_⟩
    · rw [t1]; exact Bl.owns_ext Ho1.out (Bl.ext_alloc _ _)
    · rw [t1]; exact Bl.owns_ext Ho2.out (Bl.ext_alloc _ _)
    · have := (Ho1.out.lt _ q).2; omega
    · have := (Ho2.out.lt _ q).2; omega)
  have HE3 : Hid (Bl.Ext W0 (w2.alloc (.cells #[.slice p1 1 c1, .slice p2 1 c2] 35))) := Bl.hid (HE2.out.trans (Bl.ext_alloc _ _))
  have hB0 : W0.heap.size ≤ w2.heap.size := HE2.out.size
  clear ho2 hE2
  go_wp2_with fail
  go_loopw [19] (fun i wr => ∃ (k : Nat) (u v : Value), k ≤ n ∧ i = .int .i64 k ∧ Bl.OddsAt wr 5 W0.heap.size w2.heap.size (Bl.be la ^ k) (Bl.be lb ^ k) u v ∧ Bl.Ext W0 wr) (fun i _ => n - (intOf i).toNat)
  case atStart => exact ⟨0, _, _, Nat.zero_le _, rfl, HO.out, HE3.out⟩
  case round =>
    obtain ⟨k, u, v, hk, rfl, hO, hE⟩ := hrel
    have HOk := Bl.hid hO
    have HEk := Bl.hid hE
    have c0 := hO.c0
    have c1 := hO.c1
    have f0 := hO.f0
    have f1 := hO.f1
    obtain ⟨pu, cu, rfl⟩ := hO.fu
    obtain ⟨pv, cv, rfl⟩ := hO.fv
    have hs := Hs0.out
    obtain ⟨hcE, hfE⟩ := Bl.bcell hE
    by_cases hlt : k < n
    · have cx0 := (hcE w.heap.size 0 (by omega)).trans Hx0.out
      have cx1 := (hcE w.heap.size 1 (by omega)).trans Hx1.out
      have hkn : (k : Int) < (n : Int) := by omega
      have hT := times_any (.slice pu (Bl.tob (Bl.be la ^ k)).length cu) (.slice pv (Bl.tob (Bl.be lb ^ k)).length cv) x y _ _ la lb wr (Bl.Rds.of_owns hO.ou) (Bl.Rds.of_owns hO.ov) (Ha.out.ext (HE0.out.trans hE)) (Hb.out.ext (HE0.out.trans hE))
        (by have h1 := Hpa.out k; have h2 : la.length * k ≤ 200 * 200 := Nat.mul_le_mul hla (by omega); omega) (by have h1 := Hpb.out k; have h2 : lb.length * k ≤ 200 * 200 := Nat.mul_le_mul hlb (by omega); omega) (by omega) (by omega) (Bl.tob_byt _) (Bl.tob_byt _) Hya.out Hyb.out
      rw [Bl.be_tob, Bl.be_tob, ← Nat.pow_succ, ← Nat.pow_succ] at hT
      have HT := Bl.hid hT
      clear hT hO hE hcE hfE f0 f1
      go_wp2_with fail
      refine HT.out.mono ?_
      rintro e w3 ⟨u2, v2, rfl, ho1, ho2, hE4⟩
      have HN := Bl.hid (HOk.out.next hE4 HEk.out.size ho1 ho2)
      obtain ⟨p1, c1', rfl⟩ := Bl.owns_slice ho1
      obtain ⟨p2, c2', rfl⟩ := Bl.owns_slice ho2
      have hlB := HOk.out.lt
      obtain ⟨hc4, hf4⟩ := Bl.bcell hE4
      have g0 := (hc4 _ 0 hlB).trans c0
      have g1 := (hc4 _ 1 hlB).trans c1
      have k0 := (hf4 _ 0 hlB).trans HOk.out.f0
      have k1 := (hf4 _ 1 hlB).trans HOk.out.f1
      have HX := Bl.hid (((HEk.out.trans hE4).setCell (p := ⟨w2.heap.size, 0, none⟩) hB0 (.slice p1 (Bl.tob (Bl.be la ^ (k + 1))).length c1')).setCell (p := ⟨w2.heap.size, 1, none⟩) hB0 (.slice p2 (Bl.tob (Bl.be lb ^ (k + 1))).length c2'))
      clear c0 c1 cx0 cx1 ho1 ho2 hE4 hc4 hf4
      go_wp2_with fail
      go_roundw
      case rel => exact ⟨k + 1, _, _, by omega, by simp, HN.out, HX.out⟩
      case measure => simp [intOf]; omega
    · obtain rfl : k = n := by omega
      have g0 := (hcE (w.heap.size + 1) 0 (by omega)).trans Hr0.out
      have g1 := (hcE (w.heap.size + 1) 1 (by omega)).trans Hr1.out
      have k0 := (hfE (w.heap.size + 1) 0 (by omega)).trans Hfr0.out
      have k1 := (hfE (w.heap.size + 1) 1 (by omega)).trans Hfr1.out
      have hu := Bl.hid (Bl.Rds.of_owns (Bl.owns_setCell (g := w.heap.size + 1) (Bl.owns_setCell (g := w.heap.size + 1) hO.ou (fun q => by have := (hO.ou.lt _ q).1; omega) 0 (.slice pu (Bl.tob (Bl.be la ^ k)).length cu)) (fun q => by have := (hO.ou.lt _ q).1; omega) 1 (.slice pv (Bl.tob (Bl.be lb ^ k)).length cv)))
      have hv := Bl.hid (Bl.Rds.of_owns (Bl.owns_setCell (g := w.heap.size + 1) (Bl.owns_setCell (g := w.heap.size + 1) hO.ov (fun q => by have := (hO.ov.lt _ q).1; omega) 0 (.slice pu (Bl.tob (Bl.be la ^ k)).length cu)) (fun q => by have := (hO.ov.lt _ q).1; omega) 1 (.slice pv (Bl.tob (Bl.be lb ^ k)).length cv)))
      have HP := Bl.hid (loadOdds _ _ _ _ (Bl.pair_get (x := .slice pu (Bl.tob (Bl.be la ^ k)).length cu) (y := .slice pv (Bl.tob (Bl.be lb ^ k)).length cv) g0 g1))
      have HX := Bl.hid (((HE0.out.trans hE).setCell (p := ⟨w.heap.size + 1, 0, none⟩) (by simp) (.slice pu (Bl.tob (Bl.be la ^ k)).length cu)).setCell (p := ⟨w.heap.size + 1, 1, none⟩) (by simp) (.slice pv (Bl.tob (Bl.be lb ^ k)).length cv))
      clear hO hE hcE hfE f0 f1 hlt
      go_wp2_with fail
      refine bodyPost_ret (v := .tuple #[.agg #[.slice pu (Bl.tob (Bl.be la ^ k)).length cu, .slice pv (Bl.tob (Bl.be lb ^ k)).length cv], .nilIface]) (Bl.results_pair2 rfl rfl HP.out rfl) rfl ⟨_, _, rfl, hu.out, hv.out, HX.out⟩
end Go.Proofs.YtkndnmpdklidkaaDoor

/- Texts that stood apart, in one: ClB, LP1. -/
import Derived.Test.YtmmolapkddbibaaDoorTys
import Derived.Test.YtmmolapkddbibaaDoorShaP
import Derived.Lib.SliceRun
import Derived.Test.YtmmolapkddbibaaDoorLtp
import Derived.Laws.BitsLemmas
/- Walk of slices.Clone over bytes. -/
namespace Go.Proofs.YtmmolapkddbibaaDoor
open Go Go.RowKit Go.Proofs
set_option maxRecDepth 100000 in
set_option maxHeartbeats 400000 in
theorem cloneB_some (ad : Addr) (c : Nat) (l : List Int) (w : World) (h2 : Bl.Rd w .u8 (.slice (some ad) l.length c) l) (hl : l.length ≤ 140737488355328) :
    Calls Tryd.prog 56 #[.slice (some ad) l.length c] w fun e w' => ∃ v', e = .returned v' ∧ w'.ownsRow w.heap.size 5 1 v' l.length (Bl.ints .u8 l) ∧ Bl.Ext w w' := by
  have e0 := Lib.run_eql_slice_nil (P := Tryd.prog) w 46 5 (some ad) l.length c 0 0 Tryd.underlying46
  have hE : Bl.Ext w (w.alloc (.cells #[] 5)) := (Below.refl _ _).alloc (Nat.le_refl _) _
  have ho : (w.alloc (.cells #[] 5)).ownsRow w.heap.size 5 1 (.slice (some ⟨w.heap.size, 0, none⟩) 0 0) 0 [] := Bl.owns_new w 5 #[] w.heap.size 0 1 (Nat.le_refl _) (by decide) rfl
  have Ho := Bl.hid ho
  have H2 := Bl.hid (h2.ext hE)
  have Hl := Bl.hid hl
  clear ho h2 hE hl
  go_enter Tryd.func56, Tryd.ntmps56
  go_wp2_with ((with_reducible refine Bl.wpL_append tBytes Ho.out H2.out (by simp) (Bl.ints_one _ _) (by have := Hl.out; unfold maxLen; omega) (by have := Hl.out; omega) (by simp) ?_ ?_ ?_); rfl; rfl; intro v' w' hown hg hB hK)
  go_ret
  rw [Nat.zero_add, List.nil_append] at hown
  exact ⟨_, rfl, hown, ((Below.refl _ _).alloc (Nat.le_refl _) _).trans hB⟩
set_option maxRecDepth 100000 in
set_option maxHeartbeats 400000 in
/-- slices.Clone of bytes -/
theorem cloneB_any (v : Value) (l : List Int) (w : World) (h : Bl.Rd w .u8 v l) (hl : l.length ≤ 140737488355328) :
    Calls Tryd.prog 56 #[v] w fun e w' => ∃ v', e = .returned v' ∧ w'.ownsRow w.heap.size 5 1 v' l.length (Bl.ints .u8 l) ∧ Bl.Ext w w' := by
  have h2 := h
  rcases h with ⟨⟨p, rfl⟩, hn, hc⟩ | ⟨b, o, c, rfl, hnc, hcm, hr⟩
  · obtain rfl : l = [] := List.length_eq_zero_iff.1 hn
    cases p with
    | some ad => exact cloneB_some ad 0 [] w h2 hl
    | none =>
      have e0 := Lib.run_eql_slice_nil (P := Tryd.prog) w 46 5 none 0 0 0 0 Tryd.underlying46
      clear hn hc h2
      go_enter Tryd.func56, Tryd.ntmps56
      go_wp2
      go_ret
      exact ⟨_, rfl, World.ownsRow_nil _ _ _ _, Below.refl _ _⟩
  · exact cloneB_some _ c l w h2 hl
end Go.Proofs.YtmmolapkddbibaaDoor

/- Walks of the reader of a letter's fields: take, number. -/
namespace Go.Proofs.Bl
open Go Go.RowKit
theorem ints_take' (k : IntKind) (l : List Int) (n : Nat) : (ints k l).take n = ints k (l.take n) := by simp [ints, List.map_take]
theorem ints_drop' (k : IntKind) (l : List Int) (n : Nat) : (ints k l).drop n = ints k (l.drop n) := by simp [ints, List.map_drop]
theorem Rdr.pos {w : World} {X : Nat} {sh : Bool} {b : List Int} (h : Rdr w X (sh, b)) (h0 : 0 < b.length) : ∃ g o c, BoxC w X [.slice (some ⟨g, o, none⟩) b.length c, .bool sh] ∧ w.rangeAt g o (ints .u8 b) ∧ g < X ∧ b.length ≤ c ∧ c ≤ maxLen := by
  obtain ⟨p, c, h1, h2, h3, h4⟩ := h.ex
  rcases h2 with ⟨_, h5, _⟩ | ⟨g, o, c', h5, h6, h7, h8, h9⟩
  · simp only at h5; omega
  · simp only at h5
    injection h5 with e1 e2 e3
    subst e1 e3
    refine ⟨g, o, c, h1, h8, h9 (fun q => ?_), h3, h4⟩
    have h10 := congrArg List.length q
    rw [ints_length] at h10
    have h10 : b.length = 0 := h10
    omega
theorem Rdr.next {w : World} {X n g o c : Nat} {b : List Int} (hB : BoxC w X [.slice (some ⟨g, o + n, none⟩) (b.length - n) (c - n), .bool false]) (hr : w.rangeAt g o (ints .u8 b)) (hg : g < X) (hn : n ≤ b.length) (hc : b.length ≤ c) (hm : c ≤ maxLen) (hby : Byt b) (hl : b.length ≤ 9000) : Rdr w X (false, b.drop n) := by
  have h1 := rangeAt_drop hr n
  rw [ints_drop'] at h1
  refine ⟨⟨some ⟨g, o + n, none⟩, c - n, ?_, ?_, ?_, ?_⟩, hby.drop n, ?_⟩
  · simp only [List.length_drop]; exact hB
  · simp only [List.length_drop]; exact .inr ⟨g, o + n, c - n, rfl, by omega, by omega, h1, fun _ => hg⟩
  · simp only [List.length_drop]; omega
  · omega
  · simp only [List.length_drop]; omega
theorem Rdr.next0 {w : World} {X n : Nat} {p : Option Addr} {b : List Int} (hB : BoxC w X [.slice p (b.length - n) 0, .bool false]) (hn : b.length = n) : Rdr w X (false, b.drop n) := by
  have e : b.drop n = [] := List.drop_of_length_le (by omega)
  rw [e]
  rw [hn, Nat.sub_self] at hB
  exact ⟨⟨p, 0, hB, .inl ⟨⟨p, rfl⟩, rfl, rfl⟩, Nat.le_refl _, Nat.zero_le _⟩, Byt.nil, Nat.zero_le _⟩
theorem Rdr.stop {w w' : World} {X : Nat} {sh : Bool} {b : List Int} (h : Rdr w X (sh, b)) (k : Kq (fun i => i = X) w w') (hB : ∀ v, BoxC w X [v, .bool sh] → BoxC w' X [v, .bool true]) : Rdr w' X (true, b) := by
  obtain ⟨p, c, h1, h2, h3⟩ := h.ex
  exact ⟨⟨p, c, hB _ h1, h2.kept fun i hi hl => ⟨hi, k.block i hl (fun q => by omega)⟩, h3⟩, h.by', h.le⟩
theorem tkT_ok {n : Nat} {b : List Int} (h : n ≤ b.length) : tkT n (false, b) = (b.take n, (false, b.drop n)) := if_pos ⟨rfl, h⟩
theorem tkT_no {n : Nat} {sh : Bool} {b : List Int} (h : ¬ (sh = false ∧ n ≤ b.length)) : tkT n (sh, b) = ([], (true, b)) := if_neg h
theorem SlB.nil (w : World) : SlB w (.slice none 0 0) [] := ⟨none, 0, rfl, Rd.nil _ _⟩
theorem wr63 (n : Int) (h0 : 0 ≤ n) (h1 : n < 2 ^ 63) : IntKind.i64.wrap n = n := by rw [IntKind.wrap_i64]; omega
theorem or8 {n c : Int} (h0 : 0 ≤ n) (h1 : n ≤ 2199023255552) (hc : 0 ≤ c ∧ c ≤ 255) : bits .or .i64 (n * 256) c = n * 256 + c :=
  bits_join .i64 63 (by decide) wr63 8 (n * 256) c (by omega) (by omega) (by omega) hc.1 (by omega) (by omega)
end Go.Proofs.Bl
namespace Go.Proofs.YtmmolapkddbibaaDoor
open Go Go.RowKit Go.Proofs

set_option maxRecDepth 100000 in
set_option maxHeartbeats 1000000 in
theorem rdtake_full (X n : Nat) (s : Bl.Rst) (w : World) (h : Bl.Rdr w X s) (h1 : 1 ≤ n) (hn : n ≤ 9000) :
    Calls Tryd.prog 77 #[.pointer (some ⟨X, 0, none⟩), .int .i64 n] w fun e w' => ∃ v', e = .returned v' ∧ Bl.SlB w' v' (Bl.tkT n s).1 ∧ (∀ k, v'.ownBlock = some k → w.heap.size ≤ k ∧ k < w'.heap.size) ∧ Bl.Rdr w' X (Bl.tkT n s).2 ∧ Bl.Kq (fun k => k = X) w w' ∧ ((Bl.tkT n s).1 = [] → v' = .slice none 0 0) := by
  obtain ⟨sh, b⟩ := s
  have HR := Bl.hid h
  have hle := h.le
  simp only at hle
  by_cases hok : sh = false ∧ n ≤ b.length
  · obtain ⟨rfl, hnb⟩ := hok
    rw [Bl.tkT_ok hnb]
    obtain ⟨g, o, c, hB, hr, hg, hbc, hcm⟩ := h.pos (by omega)
    have HB := Bl.hid hB
    have hq0 := hB.cell (i := 0) rfl
    have hq1 := hB.cell (i := 1) rfl
    have Hr := Bl.hid hr
    have hRt : Bl.Rd w .u8 (.slice (some ⟨g, o, none⟩) n c) (b.take n) := by
      refine .inr ⟨g, o, c, by rw [List.length_take, Nat.min_eq_left hnb], by rw [List.length_take]; omega, hcm, ?_⟩
      have := Bl.rangeAt_take hr n
      rwa [Bl.ints_take'] at this
    have Hby : Hid (Bl.Byt b) := Bl.hid h.by'
    have HCl := Bl.hid (cloneB_any _ (b.take n) w hRt (by rw [List.length_take]; omega))
    have Hf : Hid (Bl.BoxC w X [.slice (some ⟨g, o, none⟩) b.length c, .bool false]) := HB
    have Hne : ∀ v : Value, Hid (b.take n = [] → v = .slice none 0 0) := fun v => Bl.hid fun q => by
      have h2 := congrArg List.length q
      rw [List.length_take] at h2
      simp only [List.length_nil] at h2
      omega
    obtain ⟨m, hm⟩ : ∃ m, m = b.length := ⟨_, rfl⟩
    have Hm := Bl.hid hm
    rw [← hm] at hbc hq0 hnb hle
    unfold maxLen at hcm
    have hlt : ¬ ((m : Int) < (n : Int)) := by omega
    have hXs := HB.out.lt
    clear h hB hr hRt hm
    go_enter Tryd.func77, Tryd.ntmps77
    go_wp2_with fail
    refine HCl.out.mono ?_
    rintro e w2 ⟨v', rfl, hown, hE2⟩
    have HE2 := Bl.hid hE2
    have HO := Bl.hid hown
    have HB2 := Bl.hid (HB.out.ext hE2)
    have hf := HB2.out.fz (i := 0) (show 0 < 2 by decide)
    replace hq0 := HB2.out.cell (i := 0) rfl
    rw [← Hm.out] at hq0
    clear hown hE2 HCl hq1
    have Hres : Hid (∀ w3, Bl.Kq (fun k => k = X) w2 w3 → Bl.SlB w3 v' (b.take n)) := Bl.hid fun w3 hKs => by
      obtain ⟨p9, c9, hf9, _, _⟩ := (Bl.Rds.of_owns HO.out).form
      subst hf9
      refine ⟨p9, c9, rfl, hKs.rds (Bl.Rds.of_owns HO.out) fun k hk => ?_⟩
      have := (HO.out.lt k hk).1
      omega
    have HK2 : Hid (∀ v, Bl.Kq (fun k => k = X) w2 (w2.setCell ⟨X, 0, none⟩ v)) := Bl.hid fun v => (Bl.Kq.refl w2).setCell (Q := fun k => k = X) ⟨X, 0, none⟩ rfl v
    have HP : Hid (∀ v, Bl.BoxC (w2.setCell ⟨X, 0, none⟩ v) X [v, .bool false]) := Bl.hid fun v => HB2.out.put (i := 0) (show 0 < 2 by decide) v
    by_cases hcn : c - n = 0
    · have Hmn : Hid (b.length = n) := Bl.hid (by rw [← Hm.out]; omega)
      go_wp2_with fail
      go_ret
      exact ⟨_, rfl, Hres.out _ (HK2.out _), fun k hk => ⟨(HO.out.lt k hk).1, Nat.lt_of_lt_of_le (HO.out.lt k hk).2 (HK2.out _).size⟩, Bl.Rdr.next0 (by rw [← Hm.out]; exact HP.out _) Hmn.out, (Bl.Kq.of_ext HE2.out).trans (HK2.out _), (Hne _).out⟩
    · have Hcc : Hid (b.length ≤ c ∧ n ≤ b.length ∧ c ≤ maxLen ∧ b.length ≤ 9000 ∧ g < X) := Bl.hid (by unfold maxLen; rw [← Hm.out]; omega)
      go_wp2_with fail
      go_ret
      refine ⟨_, rfl, Hres.out _ (HK2.out _), fun k hk => ⟨(HO.out.lt k hk).1, Nat.lt_of_lt_of_le (HO.out.lt k hk).2 (HK2.out _).size⟩, Bl.Rdr.next (by rw [← Hm.out]; exact HP.out _) (fun j v hv => (HK2.out _).cell (fun q => by have := Hcc.out.2.2.2.2; omega) (Bl.rangeAt_ext Hr.out HE2.out j v hv)) Hcc.out.2.2.2.2 Hcc.out.2.1 Hcc.out.1 Hcc.out.2.2.1 Hby.out Hcc.out.2.2.2.1, (Bl.Kq.of_ext HE2.out).trans (HK2.out _), (Hne _).out⟩
  · rw [Bl.tkT_no hok]
    obtain ⟨p, c, hB, _, hbc, hcm⟩ := h.ex
    have HB := Bl.hid hB
    have hq0 := hB.cell (i := 0) rfl
    have hq1 := hB.cell (i := 1) rfl
    have hf := hB.fz (i := 1) (show 1 < 2 by decide)
    have HKs : Hid (Bl.Kq (fun k => k = X) w (w.setCell ⟨X, 1, none⟩ (.bool true))) := Bl.hid ((Bl.Kq.refl w).setCell (Q := fun k => k = X) ⟨X, 1, none⟩ rfl _)
    have HS := Bl.hid (HR.out.stop HKs.out fun v hv => hv.put (i := 1) (show 1 < 2 by decide) (.bool true))
    unfold maxLen at hcm
    simp only at hbc
    obtain ⟨m, hm⟩ : ∃ m, m = b.length := ⟨_, rfl⟩
    rw [← hm] at hok hbc hq0 hle
    clear h hB HB hm
    cases sh
    · have hlt : (m : Int) < (n : Int) := by
        have : ¬ n ≤ m := fun q => hok ⟨rfl, q⟩
        omega
      clear hok
      go_enter Tryd.func77, Tryd.ntmps77
      go_wp2_with fail
      go_ret
      exact ⟨_, rfl, Bl.SlB.nil _, fun k hk => (by cases hk), HS.out, HKs.out, by first | rfl | exact fun _ => rfl⟩
    · clear hok
      go_enter Tryd.func77, Tryd.ntmps77
      go_wp2_with fail
      go_ret
      exact ⟨_, rfl, Bl.SlB.nil _, fun k hk => (by cases hk), HS.out, HKs.out, by first | rfl | exact fun _ => rfl⟩

theorem rdtake_any (X n : Nat) (s : Bl.Rst) (w : World) (h : Bl.Rdr w X s) (h1 : 1 ≤ n) (hn : n ≤ 9000) :
    Calls Tryd.prog 77 #[.pointer (some ⟨X, 0, none⟩), .int .i64 n] w fun e w' => ∃ v', e = .returned v' ∧ Bl.SlB w' v' (Bl.tkT n s).1 ∧ (∀ k, v'.ownBlock = some k → w.heap.size ≤ k) ∧ Bl.Rdr w' X (Bl.tkT n s).2 ∧ Bl.Kq (fun k => k = X) w w' :=
  (rdtake_full X n s w h h1 hn).mono fun _ _ ⟨v', g0, g1, g2, g3, g4, _⟩ => ⟨v', g0, g1, fun k hk => (g2 k hk).1, g3, g4⟩

set_option maxRecDepth 100000 in
set_option maxHeartbeats 1000000 in
theorem rdnum_any (X n : Nat) (s : Bl.Rst) (w : World) (h : Bl.Rdr w X s) (h1 : 1 ≤ n) (hn : n ≤ 9000) :
    Calls Tryd.prog 49 #[.pointer (some ⟨X, 0, none⟩), .int .i64 n] w fun e w' => e = .returned (.int .i64 (Bl.nuT n s).1) ∧ Bl.Rdr w' X (Bl.nuT n s).2 ∧ Bl.Kq (fun k => k = X) w w' := by
  have HT := Bl.hid (rdtake_any X n s w h h1 hn)
  have Hb0 := Bl.hid (Bl.tkT_byt (n := n) h.by').1
  have Hl0 : Hid ((Bl.tkT n s).1.length ≤ 9000) := Bl.hid (by
    unfold Bl.tkT
    split
    · rw [List.length_take]; have := h.le; omega
    · exact Nat.zero_le _)
  clear h
  unfold Bl.nuT
  obtain ⟨y, hy⟩ : ∃ y, y = (Bl.tkT n s).1 := ⟨_, rfl⟩
  obtain ⟨s2, hs2⟩ : ∃ s2, s2 = (Bl.tkT n s).2 := ⟨_, rfl⟩
  rw [← hy] at HT Hb0 Hl0 ⊢
  rw [← hs2] at HT ⊢
  clear hy hs2
  go_enter Tryd.func49, Tryd.ntmps49
  go_wp2_with fail
  refine HT.out.mono ?_
  rintro e w2 ⟨v', rfl, ⟨p, c, rfl, hRd⟩, _, hRr, hK⟩
  have HRd := Bl.hid hRd
  have HRr := Bl.hid hRr
  have HK := Bl.hid hK
  obtain ⟨m, hm⟩ : ∃ m, m = y.length := ⟨_, rfl⟩
  have Hm := Bl.hid hm
  have hml : m ≤ 9000 := by rw [hm]; exact Hl0.out
  rw [← hm] at HRd ⊢
  clear hRd hRr hK hm
  go_wp2_with fail
  go_loopw [5, 12] (fun a i wr => ∃ (k : Nat) (z : Int), k ≤ m ∧ a = .int .i64 z ∧ Hid (z = Bl.numR (y.take k)) ∧ 0 ≤ z ∧ z ≤ 562949953421567 ∧ i = .int .i64 k ∧ wr = w2) (fun _ i _ => m - (intOf i).toNat)
  case atStart => exact ⟨0, 0, Nat.zero_le _, rfl, Bl.hid rfl, by decide, by decide, rfl, rfl⟩
  case round =>
    obtain ⟨k, z, hk, rfl, Hz, hz0, hz1, rfl, hwr⟩ := hrel
    subst hwr
    by_cases hlt : k < m
    · have hla : k < y.length := by rw [← Hm.out]; exact hlt
      obtain ⟨b1, o1, c1, hpa, _, _, _, _, hel1⟩ := Bl.Rd.pos HRd.out (by omega)
      injection hpa with hp1 hp2 hp3
      subst hp1
      have hcell1 := hel1 k hla
      have hx := Hb0.out.get k
      have Htk : Hid (y.take (k + 1) = y.take k ++ [y.getD k 0]) := Bl.hid (Bl.take_succ_getDD 0 y k hla)
      obtain ⟨x, hxx⟩ : ∃ x, x = y.getD k 0 := ⟨_, rfl⟩
      rw [← hxx] at hcell1 hx Htk
      obtain ⟨q, hq⟩ : ∃ q, q = min z 2199023255552 := ⟨_, rfl⟩
      have Hq := Bl.hid hq
      have hq0 : 0 ≤ q := by omega
      have hq1 : q ≤ 2199023255552 := by omega
      have hor := Bl.or8 hq0 hq1 hx
      have hmin : min z 2199023255552 = q := hq.symm
      obtain ⟨x0, x1⟩ := hx
      have hk0 : (0 : Int) ≤ (k : Int) := by omega
      have hkl : (k : Int) < (m : Int) := by omega
      clear hel1 hp2 hp3 hxx hla hq
      go_wp2_with fail
      go_roundw
      case rel => exact ⟨k + 1, q * 256 + x, by omega, rfl, Bl.hid (by
        rw [Htk.out]; unfold Bl.numR Bl.numRn; rw [List.foldl_append, Hq.out, Hz.out]; rfl), by omega, by omega, by go_num, trivial⟩
      case measure => simp [intOf]; omega
    · obtain rfl : k = m := by omega
      obtain rfl : z = Bl.numR y := by rw [Hz.out, List.take_of_length_le (by rw [← Hm.out]; exact Nat.le_refl _)]
      clear hlt
      go_wp2_with fail
      go_ret
      exact ⟨rfl, HRr.out, HK.out⟩
end Go.Proofs.YtmmolapkddbibaaDoor

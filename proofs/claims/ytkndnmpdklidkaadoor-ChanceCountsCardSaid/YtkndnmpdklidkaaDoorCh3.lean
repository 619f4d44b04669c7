/- Walks of package chance: part, Compare, Sub. -/
import Derived.Test.YtkndnmpdklidkaaDoorCh2
namespace Go.Proofs.Bl
open Go
/-- the order of two numbers -/
def cmpn (a b : Nat) : Int := if a < b then -1 else if b < a then 1 else 0
theorem cmp_bytes : ∀ (n : Nat) (a b : List Int), a.length = n → b.length = n → Byt a → Byt b → Extern.BytealgCompare.cmp (bstr a) (bstr b) = cmpn (be a) (be b) := by
  intro n a b ha hb hya hyb
  unfold Extern.BytealgCompare.cmp
  rw [bstr_size, bstr_size, ha, hb, Nat.min_self]
  have hg : ∀ (l : List Int) (i : Nat), i < l.length → (bstr l)[i]! = UInt8.ofNat (l.getD i 0).toNat := by
    intro l i hi
    have h1 : i < (bstr l).size := by rw [bstr_size]; exact hi
    rw [getElem!_pos (bstr l) i h1]
    show (bstr l).data[i]'(by simpa [bstr, ByteArray.size] using hi) = _
    simp [bstr, List.getD_eq_getElem?_getD, List.getElem?_eq_getElem hi]
  have hlt : ∀ x y : Int, 0 ≤ x ∧ x ≤ 255 → 0 ≤ y ∧ y ≤ 255 → (UInt8.ofNat x.toNat < UInt8.ofNat y.toNat ↔ x < y) := by
    intro x y hx hy
    rw [UInt8.lt_iff_toNat_lt]
    simp
    omega
  have hne : ∀ x y : Int, 0 ≤ x ∧ x ≤ 255 → 0 ≤ y ∧ y ≤ 255 → ((UInt8.ofNat x.toNat != UInt8.ofNat y.toNat) = true ↔ x ≠ y) := by
    intro x y hx hy
    rw [bne_iff_ne]
    exact ⟨fun h q => h (by rw [q]), fun h q => h (by have := u8_ofNat_inj (by omega) (by omega) q; omega)⟩
  -- the first place where they part
  have key : ∀ (n : Nat) (a b : List Int), a.length = n → b.length = n → Byt a → Byt b →
      (∀ i, (∀ j, j < i → a.getD j 0 = b.getD j 0) → i < n → a.getD i 0 < b.getD i 0 → be a < be b) := by
    intro n a b ha hb hya hyb i hj hi hlt
    have hs : ∀ (l : List Int), l.length = n → be l = be (l.take i) * 256 ^ (n - i) + ((l.getD i 0).toNat * 256 ^ (n - i - 1) + be (l.drop (i + 1))) := by
      intro l hl
      conv => lhs; rw [← List.take_append_drop i l, be_append]
      rw [List.length_drop, hl]
      congr 1
      have hd : l.drop i = l.getD i 0 :: l.drop (i + 1) := by
        rw [List.drop_eq_getElem_cons (by omega), List.getD_eq_getElem?_getD, List.getElem?_eq_getElem (by omega)]; rfl
      rw [hd, be_cons, List.length_drop, hl]
      rfl
    have ht : a.take i = b.take i := by
      apply List.ext_getElem
      · simp [ha, hb]
      · intro j h1 h2
        simp at h1
        have := hj j (by omega)
        rw [List.getD_eq_getElem?_getD, List.getD_eq_getElem?_getD, List.getElem?_eq_getElem (by omega), List.getElem?_eq_getElem (by omega)] at this
        simpa using this
    rw [hs a ha, hs b hb, ht]
    have h1 := be_lt (a.drop (i + 1)) (hya.drop _)
    rw [List.length_drop, ha] at h1
    have h2 : (a.getD i 0).toNat + 1 ≤ (b.getD i 0).toNat := by have := hya.get i; omega
    have h3 := Nat.mul_le_mul_right (256 ^ (n - i - 1)) h2
    rw [Nat.add_mul, Nat.one_mul] at h3
    have h4 : n - (i + 1) = n - i - 1 := by omega
    rw [h4] at h1
    omega
  cases hf : (List.range n).find? (fun i => (bstr a)[i]! != (bstr b)[i]!) with
  | some i =>
    obtain ⟨h1, xs, ys, h2, h3⟩ := List.find?_eq_some_iff_append.1 hf
    have hin : i < n := by have := List.mem_of_find?_eq_some hf; simpa using this
    have hbef : ∀ j, j < i → a.getD j 0 = b.getD j 0 := by
      intro j hj
      have hmem : j ∈ xs := by
        have h4 : (List.range n) = xs ++ i :: ys := h2
        have h5 : xs.length = i := by
          have h6 : (List.range n)[xs.length]? = some i := by rw [h4]; simp
          rw [List.getElem?_range (by have := congrArg List.length h4; simp at this; omega)] at h6
          simpa using h6
        have h7 : (List.range n)[j]? = some j := by rw [List.getElem?_range (by omega)]
        rw [h4, List.getElem?_append_left (by omega)] at h7
        exact List.mem_of_getElem? h7
      have h8 := h3 j hmem
      rw [hg a j (by omega), hg b j (by omega)] at h8
      by_cases e : a.getD j 0 = b.getD j 0
      · exact e
      · rw [(hne _ _ (hya.get j) (hyb.get j)).2 e] at h8; simp at h8
    rw [hg a i (by omega), hg b i (by omega)] at h1
    have hd := (hne _ _ (hya.get i) (hyb.get i)).1 h1
    simp only [hg a i (by omega), hg b i (by omega), hlt _ _ (hya.get i) (hyb.get i)]
    unfold cmpn
    by_cases hl : a.getD i 0 < b.getD i 0
    · rw [if_pos hl, if_pos (key n a b ha hb hya hyb i hbef hin hl)]
    · have := key n b a hb ha hyb hya i (fun j hj => (hbef j hj).symm) hin (by omega)
      rw [if_neg hl, if_neg (by omega), if_pos this]
  | none =>
    have he : a = b := by
      apply List.ext_getElem
      · omega
      · intro j h1 h2
        have := List.find?_eq_none.1 hf j (by simp; omega)
        rw [hg a j h1, hg b j h2] at this
        have h3 : ¬ (a.getD j 0 ≠ b.getD j 0) := fun q => this ((hne _ _ (hya.get j) (hyb.get j)).2 q)
        have h4 : a.getD j 0 = b.getD j 0 := by
          by_cases e : a.getD j 0 = b.getD j 0
          · exact e
          · exact absurd e h3
        rw [List.getD_eq_getElem?_getD, List.getD_eq_getElem?_getD, List.getElem?_eq_getElem h1, List.getElem?_eq_getElem h2] at h4
        simpa using h4
    subst he
    simp [cmpn]
/-- the order of two whole numbers -/
def cmpi (a b : Int) : Int := if a < b then -1 else if b < a then 1 else 0
theorem cmpi_lt {a b : Int} (h : a < b) : cmpi a b = -1 := by unfold cmpi; rw [if_pos h]
theorem cmpi_gt {a b : Int} (h : b < a) : cmpi a b = 1 := by unfold cmpi; rw [if_neg (by omega), if_pos h]
theorem cmpi_eq {a b : Int} (h : ¬ a < b) (h' : ¬ b < a) : cmpi a b = 0 := by unfold cmpi; rw [if_neg h, if_neg h']
theorem cmpn_len {a b : Nat} (h : (tob a).length ≠ (tob b).length) : cmpn a b = if (tob a).length < (tob b).length then -1 else 1 := by
  unfold cmpn
  by_cases hl : (tob a).length < (tob b).length
  · rw [if_pos hl, if_pos (tob_len_lt_iff a b hl)]
  · have := tob_len_lt_iff b a (by omega)
    rw [if_neg hl, if_neg (by omega), if_pos this]
end Go.Proofs.Bl
namespace Go.Proofs.YtkndnmpdklidkaaDoor
open Go.RowKit Go.Proofs

set_option maxRecDepth 100000 in
theorem cmpB_any (va vb : Value) (a b : List Int) (w : World) (ha : Bl.Rd w .u8 va a) (hb : Bl.Rd w .u8 vb b) (hl : a.length = b.length) (hya : Bl.Byt a) (hyb : Bl.Byt b) :
    Calls Tryd.prog 41 #[va, vb] w fun e w' => e = .returned (.int .i64 (Bl.cmpn (Bl.be a) (Bl.be b))) ∧ w = w' := by
  have e1 := Bl.bytesOf_rd (P := Tryd.prog) ha
  have e2 := Bl.bytesOf_rd (P := Tryd.prog) hb
  have e3 := Bl.hid (Bl.cmp_bytes b.length a b hl rfl hya hyb)
  have hrun : (Extern.BytealgCompare.compare #[va, vb]).run Tryd.prog w = .ok (.int .i64 (Extern.BytealgCompare.cmp (Bl.bstr a) (Bl.bstr b))) w := by
    have h0 : Extern.BytealgCompare.compare #[va, vb] = (do pure (goInt (Extern.BytealgCompare.cmp (← Extern.Bytes.bytesOf va) (← Extern.Bytes.bytesOf vb)))) := rfl
    rw [h0]
    simp only [Sem.run_bind, e1, e2, Result.andThen_ok]
    rfl
  clear e1 e2
  go_enter Tryd.func41, Tryd.ntmps41
  go_wp2_with fail
  rw [run_callFunc_extern Tryd.func50 (by kernel_rfl) (by kernel_rfl) (by kernel_rfl) (e := Extern.BytealgCompare.compare) (by kernel_rfl), hrun]
  simp only [Result.andThen]
  rw [Oper.upon_value]
  go_wp2_with fail
  go_ret
  exact ⟨by rw [← e3.out]; rfl, rfl⟩

theorem cmpI_any (a b : Int) (w : World) :
    Calls Tryd.prog 40 #[.int .i64 a, .int .i64 b] w fun e w' => e = .returned (.int .i64 (Bl.cmpi a b)) ∧ w = w' := by
  have hn : ∀ (x : Int) w, Calls Tryd.prog 49 #[.int .i64 x] w fun e w' => e = .returned (.bool false) ∧ w = w' := by
    intro x w
    go_enter Tryd.func49, Tryd.ntmps49
    go_wp2
    go_ret
    exact ⟨rfl, rfl⟩
  have Hn := Bl.hid hn
  clear hn
  by_cases h1 : a < b
  · have H := Bl.hid (Bl.cmpi_lt h1)
    go_enter Tryd.func40, Tryd.ntmps40
    go_wp2_with (go_at_call 49; refine (Hn.out _ _).mono ?_; rintro e w' ⟨rfl, rfl⟩)
    go_ret
    exact ⟨by rw [H.out]; rfl, rfl⟩
  · by_cases h2 : b < a
    · have H := Bl.hid (Bl.cmpi_gt h2)
      go_enter Tryd.func40, Tryd.ntmps40
      go_wp2_with (go_at_call 49; refine (Hn.out _ _).mono ?_; rintro e w' ⟨rfl, rfl⟩)
      go_ret
      exact ⟨by rw [H.out]; rfl, rfl⟩
    · have H := Bl.hid (Bl.cmpi_eq h1 h2)
      go_enter Tryd.func40, Tryd.ntmps40
      go_wp2_with (go_at_call 49; refine (Hn.out _ _).mono ?_; rintro e w' ⟨rfl, rfl⟩)
      go_ret
      exact ⟨by rw [H.out]; rfl, rfl⟩

set_option maxRecDepth 100000 in
set_option maxHeartbeats 400000 in
/-- chance.Compare -/
theorem compare_any (va vb : Value) (a b : List Int) (w : World) (ha : Bl.Rd w .u8 va a) (hb : Bl.Rd w .u8 vb b) (hla : a.length ≤ 1000000) (hlb : b.length ≤ 1000000) (hya : Bl.Byt a) (hyb : Bl.Byt b) :
    Calls Tryd.prog 21 #[va, vb] w fun e w' => e = .returned (.int .i64 (Bl.cmpn (Bl.be a) (Bl.be b))) ∧ Bl.Ext w w' := by
  have Ha := Bl.hid ha
  have Hb := Bl.hid hb
  clear ha hb
  have hta := Bl.hid (Bl.trimz_eq a hya)
  have htb := Bl.hid (Bl.trimz_eq b hyb)
  have l1 := Bl.trimz_len a
  have l2 := Bl.trimz_len b
  rw [hta.out] at l1
  rw [htb.out] at l2
  go_enter Tryd.func21, Tryd.ntmps21
  go_wp2_with fail
  refine (trim_any va a _ Ha.out (by omega)).mono ?_
  rintro e w1 ⟨v1, rfl, h1, hE1⟩
  rw [hta.out] at h1
  obtain ⟨p1, c1, hf1, hn1, hm1⟩ := (Bl.Rds.of_owns h1).form
  subst hf1
  have H1 := Bl.hid (Bl.Rds.of_owns h1)
  have HE1 := Bl.hid hE1
  clear h1 hE1
  go_wp2_with fail
  refine (trim_any vb b _ (Hb.out.ext HE1.out) (by omega)).mono ?_
  rintro e w2 ⟨v2, rfl, h2, hE2⟩
  rw [htb.out] at h2
  obtain ⟨p2, c2, hf2, hn2, hm2⟩ := (Bl.Rds.of_owns h2).form
  subst hf2
  have H2 := Bl.hid (Bl.Rds.of_owns h2)
  have HE2 := Bl.hid hE2
  have H1' := Bl.hid (Bl.Rds.ext H1.out HE2.out)
  clear h2 hE2 hn1 hm1 hn2 hm2
  by_cases hl : (Bl.tob (Bl.be a)).length = (Bl.tob (Bl.be b)).length
  · have Hl := Bl.hid hl
    have hc := cmpB_any _ _ _ _ _ H1'.out H2.out Hl.out (Bl.tob_byt _) (Bl.tob_byt _)
    rw [Bl.be_tob, Bl.be_tob] at hc
    have Hc := Bl.hid hc
    have hli : ((Bl.tob (Bl.be a)).length : Int) = ((Bl.tob (Bl.be b)).length : Int) := by omega
    clear hc hl
    go_wp2_with fail
    refine (Hc.out).mono ?_
    rintro e w' ⟨rfl, rfl⟩
    go_wp2_with fail
    go_ret
    exact ⟨rfl, HE1.out.trans HE2.out⟩
  · have hcm := Bl.hid (Bl.cmpn_len hl)
    have hli : ¬ ((Bl.tob (Bl.be a)).length : Int) = ((Bl.tob (Bl.be b)).length : Int) := by omega
    go_wp2_with fail
    refine (cmpI_any _ _ _).mono ?_
    rintro e w' ⟨rfl, rfl⟩
    go_wp2_with fail
    go_ret
    refine ⟨?_, HE1.out.trans HE2.out⟩
    show Ending.returned (.int .i64 (Bl.cmpi _ _)) = _
    rw [hcm.out]
    by_cases h3 : (Bl.tob (Bl.be a)).length < (Bl.tob (Bl.be b)).length
    · rw [if_pos h3, Bl.cmpi_lt (by omega)]
    · rw [if_neg h3]
      have h4 : (Bl.tob (Bl.be b)).length < (Bl.tob (Bl.be a)).length := by omega
      rw [Bl.cmpi_gt (by omega)]
end Go.Proofs.YtkndnmpdklidkaaDoor

/- Walk of sha.Of. -/
import Derived.Test.YtdodgcapihfkkaaDoorWSha7
namespace Go.Proofs.Bl
open Go Go.RowKit

theorem eat_mod : ∀ (n : Nat) (z : St) (l : List Int), l.length ≤ n → (eat z l).2.length = l.length % 64 := by
  intro n
  induction n with
  | zero => intro z l h; rw [eat_lo z l (by omega)]; show l.length = _; omega
  | succ n ih =>
    intro z l h
    by_cases h64 : 64 ≤ l.length
    · rw [eat_hi z l h64, ih _ _ (by rw [List.length_drop]; omega), List.length_drop]; omega
    · rw [eat_lo z l (by omega)]; show l.length = _; omega
theorem padn_mod64 (n : Nat) : padn (n % 64) = padn n := by unfold padn; omega
/-- SHA-256's 32 bytes -/
def sha (l : List Int) : List Int := (eat iv0 (pad l l.length)).1.bytes
@[simp] theorem sha_length (l : List Int) : (sha l).length = 32 := rfl
theorem ended_eat (l : List Int) : ended (eat iv0 l).1 (eat iv0 l).2 l.length = (eat iv0 (pad l l.length)).1 := by
  have h := eat_append (128 :: List.replicate (padn l.length) 0 ++ lenb l.length) l.length iv0 l (Nat.le_refl _)
  unfold ended pad
  rw [eat_mod _ _ _ (Nat.le_refl _), padn_mod64, List.append_assoc, List.append_assoc, h]
/-- a slice of slices of bytes -/
def Rdss (w : World) (v : Value) (ps : List (List Int)) : Prop :=
  ∃ vs : List Value, Rds w v ps.length vs ∧ vs.length = ps.length ∧ ∀ i, i < ps.length → Rd w .u8 (vs.getD i undef) (ps.getD i [])
theorem Rdss.ext {w w' : World} {v : Value} {ps : List (List Int)} (h : Rdss w v ps) (hb : Ext w w') : Rdss w' v ps := by
  obtain ⟨vs, h1, h2, h3⟩ := h
  exact ⟨vs, h1.ext hb, h2, fun i hi => (h3 i hi).ext hb⟩
theorem flat_take (ps : List (List Int)) (i : Nat) (h : i < ps.length) : (ps.take (i + 1)).flatten = (ps.take i).flatten ++ ps.getD i [] := by
  rw [List.take_add_one, List.flatten_append, List.getElem?_eq_getElem h, List.getD_eq_getElem?_getD, List.getElem?_eq_getElem h]; simp
theorem flat_len (ps : List (List Int)) (i : Nat) : (ps.take i).flatten.length ≤ ps.flatten.length := by
  conv => rhs; rw [← List.take_append_drop i ps, List.flatten_append, List.length_append]
  omega
theorem flat_byt {ps : List (List Int)} (h : Byt ps.flatten) (i : Nat) : Byt (ps.take i).flatten := fun x hx => h x (by
  rw [← List.take_append_drop i ps, List.flatten_append]; exact List.mem_append_left _ hx)
end Go.Proofs.Bl
namespace Go.Proofs.YtdodgcapihfkkaaDoor
open Go.RowKit Go.Proofs

theorem hash_new (w : World) : HashAt (w.alloc (.cells #[.int .u32 Bl.iv0.a, .int .u32 Bl.iv0.b, .int .u32 Bl.iv0.c, .int .u32 Bl.iv0.d, .int .u32 Bl.iv0.e, .int .u32 Bl.iv0.f, .int .u32 Bl.iv0.g, .int .u32 Bl.iv0.h, .slice none 0 0, .int .i64 0] 139)) w.heap.size w.heap.size Bl.iv0 [] 0 := by
  have hh := World.alloc_heap_new w (.cells #[.int .u32 Bl.iv0.a, .int .u32 Bl.iv0.b, .int .u32 Bl.iv0.c, .int .u32 Bl.iv0.d, .int .u32 Bl.iv0.e, .int .u32 Bl.iv0.f, .int .u32 Bl.iv0.g, .int .u32 Bl.iv0.h, .slice none 0 0, .int .i64 0] 139)
  refine ⟨fam_alloc w 8 .u32 _ _ _ (fun i hi => ?_), ⟨.slice none 0 0, ?_, World.ownsRow_nil _ _ _ _, by simp [Value.ownBlock]⟩, ?_, Nat.le_refl _⟩
  · match i, hi with
    | 0, _ => rfl
    | 1, _ => rfl
    | 2, _ => rfl
    | 3, _ => rfl
    | 4, _ => rfl
    | 5, _ => rfl
    | 6, _ => rfl
    | 7, _ => rfl
  · simp only [World.cell?, hh]; rfl
  · simp only [World.cell?, hh]; rfl

set_option maxRecDepth 100000 in
set_option maxHeartbeats 1000000 in
theorem of_any (v : Value) (ps : List (List Int)) (w : World) (hR : Bl.Rdss w v ps) (hg : Glob w) (hby : Bl.Byt ps.flatten) (hlen : ps.flatten.length ≤ 1099511627776) :
    Calls Tryd.prog 28 #[v] w fun e w' => e = .returned (.agg (Bl.ints .u8 (Bl.sha ps.flatten)).toArray) ∧ Bl.Ext w w' := by
  obtain ⟨vs, hv, hvl, hvs⟩ := hR
  obtain ⟨p, c, hvf, hvn, hvc⟩ := hv.form
  subst hvf
  have Hv := Bl.hid hv
  have Hvs := Bl.hid hvs
  have Hg := Bl.hid hg
  have Hby := Bl.hid hby
  clear hv hvs hg hby
  go_enter Tryd.func28, Tryd.ntmps28
  go_wp2_with fail
  obtain ⟨W0, hW0⟩ : ∃ W0, W0 = w.alloc (.cells #[.int .u8 0, .int .u8 0, .int .u8 0, .int .u8 0, .int .u8 0, .int .u8 0, .int .u8 0, .int .u8 0, .int .u8 0, .int .u8 0, .int .u8 0, .int .u8 0, .int .u8 0, .int .u8 0, .int .u8 0, .int .u8 0, .int .u8 0, .int .u8 0, .int .u8 0, .int .u8 0, .int .u8 0, .int .u8 0, .int .u8 0, .int .u8 0, .int .u8 0, .int .u8 0, .int .u8 0, .int .u8 0, .int .u8 0, .int .u8 0, .int .u8 0, .int .u8 0] 28) := ⟨_, rfl⟩
  rw [← hW0]
  have hE0 : Bl.Ext w W0 := by rw [hW0]; exact (Below.refl _ _).alloc (Nat.le_refl _) _
  have hF0 : Bl.Fam W0 w.heap.size .u8 32 (fun _ => 0) := by rw [hW0]; exact fam_new w 32 .u8 _ _ rfl
  have hs0 : W0.heap.size = w.heap.size + 1 := by rw [hW0]; simp
  have HE0 := Bl.hid hE0
  have HF0 := Bl.hid hF0
  have Hs0 := Bl.hid hs0
  clear hW0 hE0 hF0 hs0
  refine (new_any W0 (Hg.out.ext HE0.out)).mono ?_
  rintro e w' ⟨rfl, hw'⟩
  have hh := hash_new W0
  rw [← hw'] at hh
  have hB : Below W0.heap.size W0 w' := by rw [hw']; exact (Below.refl _ _).alloc (Nat.le_refl _) _
  obtain ⟨hb, hhb⟩ : ∃ hb, hb = W0.heap.size := ⟨_, rfl⟩
  rw [← hhb] at hh hB ⊢
  have Hhb := Bl.hid hhb
  clear hw' hhb
  go_wp2_with fail
  go_loopw [9] (fun i wr => ∃ k : Nat, k ≤ ps.length ∧ i = .int .i64 k ∧ HashAt wr hb hb (Bl.eat Bl.iv0 (ps.take k).flatten).1 (Bl.eat Bl.iv0 (ps.take k).flatten).2 (ps.take k).flatten.length ∧ Below hb W0 wr) (fun i _ => ps.length - (intOf i).toNat)
  case atStart => exact ⟨0, Nat.zero_le _, rfl, hh, hB⟩
  case round =>
    obtain ⟨k, hk, rfl, hH, hBr⟩ := hrel
    have HH := Bl.hid hH
    have HBr := Bl.hid hBr
    clear hH hBr hh hB
    have hkm : ps.length ≤ 9223372036854775807 := by unfold maxLen at hvc; omega
    have hext : Hid (Bl.Ext w wr) := Bl.hid (HE0.out.trans (HBr.out.mono (by rw [Hhb.out]; exact Nat.le_refl _)))
    by_cases hlt : k < ps.length
    · obtain ⟨b, o, hpe, hcell⟩ : ∃ b o, p = some ⟨b, o, none⟩ ∧ wr.cell? ⟨b, o + k, none⟩ = some (vs.getD k undef) := by
        rcases (Hv.out.ext hext.out) with ⟨h1, h2, h3⟩ | ⟨b, o, c', h1, h2, h3, h4⟩
        · omega
        · cases h1
          refine ⟨b, o, rfl, h4 k _ ?_⟩
          rw [List.getD_eq_getElem?_getD, List.getElem?_eq_getElem (by omega)]; rfl
      subst hpe
      have hRk0 := Hvs.out k hlt
      have hft := Bl.flat_take ps k hlt
      obtain ⟨bs, hbs⟩ : ∃ bs, bs = ps.getD k [] := ⟨_, rfl⟩
      rw [← hbs] at hRk0 hft
      have HRk0 := Bl.hid hRk0
      have Hft := Bl.hid hft
      clear hRk0 hft hbs
      have hRk := HRk0.out.ext hext.out
      obtain ⟨pk, ck, hfk, hnk, hck⟩ := hRk.form
      rw [hfk] at hcell
      have Hfk := Bl.hid hfk
      clear hfk hRk
      go_wp2_with fail
      have hlk : (ps.take k).flatten.length ≤ 1099511627776 := Nat.le_trans (Bl.flat_len ps k) hlen
      have hlk1 : (ps.take (k + 1)).flatten.length ≤ 1099511627776 := Nat.le_trans (Bl.flat_len ps (k + 1)) hlen
      have hlk2 : bs.length ≤ 1099511627776 := by rw [Hft.out, List.length_append] at hlk1; omega
      have hrest := Bl.eat_rest (ps.take k).flatten.length Bl.iv0 (ps.take k).flatten (Nat.le_refl _)
      have hbk : Bl.Byt ((Bl.eat Bl.iv0 (ps.take k).flatten).2 ++ bs) := by
        have := Bl.flat_byt Hby.out (k + 1)
        rw [Hft.out] at this
        intro x hx
        rcases List.mem_append.1 hx with hx | hx
        · exact this x (List.mem_append_left _ (hrest.2 x hx))
        · exact this x (List.mem_append_right _ hx)
      have hszr : W0.heap.size ≤ wr.heap.size := HBr.out.size
      refine (put_any wr hb hb (ps.take k).flatten.length _ _ bs _ HH.out ?_ ?_ hbk (by rw [Hhb.out]; exact hszr) hrest.1 hlk2 hlk).mono ?_
      · intro w1 hw1
        rw [← Hfk.out]
        exact HRk0.out.ext (HE0.out.trans ((HBr.out.trans hw1).mono (by rw [Hhb.out]; exact Nat.le_refl _)))
      · intro w1 hw1
        exact Hg.out.ext (HE0.out.trans ((HBr.out.trans hw1).mono (by rw [Hhb.out]; exact Nat.le_refl _)))
      rintro e w2 ⟨rfl, hH2, hB2⟩
      have HH2 := Bl.hid hH2
      have HB2 := Bl.hid hB2
      clear hH2 hB2 hrest hbk
      go_wp2_with fail
      go_roundw
      case rel =>
        refine ⟨k + 1, by omega, by go_num, ?_, HBr.out.trans HB2.out⟩
        have h := HH2.out
        rw [Hft.out, Bl.eat_append _ _ _ _ (Nat.le_refl _), List.length_append]
        exact h
      case measure => simp [intOf]; omega
    · obtain rfl : k = ps.length := by omega
      have hHx := HH.out
      rw [List.take_length] at hHx
      have hrest := Bl.eat_rest ps.flatten.length Bl.iv0 ps.flatten (Nat.le_refl _)
      have HHx := Bl.hid hHx
      have Hrest := Bl.hid hrest
      clear hHx hrest HH
      go_wp2_with fail
      refine (sum_any wr hb hb ps.flatten.length _ _ HHx.out (Hg.out.ext hext.out) (fun x hx => Hby.out x (Hrest.out.2 x hx)) Hrest.out.1 hlen).mono ?_
      rintro e w2 ⟨rfl, hw2⟩
      have hF2 : Bl.Fam w2 w.heap.size .u8 32 (fun _ => 0) := (HF0.out.below HBr.out (by rw [Hhb.out, Hs0.out]; omega)).below hw2 (by have := HBr.out.size; rw [Hs0.out] at this; omega)
      rw [Bl.ended_eat]
      have hshl : Hid (Bl.sha ps.flatten = (Bl.eat Bl.iv0 (Bl.pad ps.flatten ps.flatten.length)).1.bytes) := rfl
      obtain ⟨sh, hsh⟩ : ∃ sh, sh = Bl.sha ps.flatten := ⟨_, rfl⟩
      rw [← hshl.out, ← hsh]
      have hlsh : sh.length = 32 := by rw [hsh]; rfl
      have Hst := Bl.hid (Bl.store_ints (P := Tryd.prog) (k := .u8) (ty := 28) (l := sh) hF2.there (by kernel_rfl) hlsh)
      have HF2 := Bl.hid hF2
      have Hw2 := Bl.hid hw2
      have Hsh := Bl.hid hsh
      have Hlsh := Bl.hid hlsh
      clear hF2 hw2 hsh hlsh
      go_wp2_with (((with_reducible refine Bl.wpL_store ?_ ?_ Hst.out ?_); rfl; rfl))
      have hin := World.rangeAt_setCells_same w2 w.heap.size 0 (Bl.ints .u8 sh) (by rw [Bl.ints_length, Hlsh.out]; exact HF2.out.there)
      have hld2 := run_loadVar_mid (P := Tryd.prog) _ w.heap.size 0 28 (Bl.ints .u8 sh) _ hin Tryd.underlying28 rfl (by rw [Bl.ints_length, Hlsh.out]; kernel_rfl)
      refine bodyPost_ret (v := .agg (Bl.ints .u8 sh).toArray) (Bl.results_cell rfl rfl hld2) rfl ⟨by rw [Hsh.out], Bl.below_setCells _ _ _ _ (hext.out.trans Hw2.out) (Nat.le_refl _)⟩
end Go.Proofs.YtdodgcapihfkkaaDoor

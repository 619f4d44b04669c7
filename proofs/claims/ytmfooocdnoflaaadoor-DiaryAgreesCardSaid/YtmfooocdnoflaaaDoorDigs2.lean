/- Pieces of rows of digests; a row of one's own that may be written. -/
import Derived.Test.YtmfooocdnoflaaaDoorWRevD
namespace Go.Proofs.Bl
open Go Go.RowKit
theorem RdD.take {w : World} {b o n c : Nat} {ds : List (List Int)} (h : RdD w (.slice (some ⟨b, o, none⟩) n c) ds) (hd : Dig ds) (k : Nat) (hk : k ≤ ds.length) : RdD w (.slice (some ⟨b, o, none⟩) k c) (ds.take k) := by
  have hl : (ds.take k).length = k := by rw [List.length_take]; omega
  show Rds w _ (ds.take k).length _
  rw [hl]
  rcases h with ⟨⟨p, h1⟩, h2, h3⟩ | ⟨b', o', c', h1, h2, h3, h4⟩
  · injection h1 with e1 e2 e3
    obtain rfl : k = 0 := by omega
    exact .inl ⟨⟨_, by rw [e3]⟩, rfl, by rw [List.take_zero]; rfl⟩
  · injection h1 with e1 e2 e3
    injection e1 with e1
    injection e1 with e4 e5
    subst e4 e5 e3
    refine .inr ⟨_, _, _, rfl, by omega, h3, ?_⟩
    have := rangeD_sub h4 hd 0 k
    rw [Nat.zero_mul, Nat.add_zero, List.drop_zero] at this
    exact this
theorem RdD.drop {w : World} {b o n c : Nat} {ds : List (List Int)} (h : RdD w (.slice (some ⟨b, o, none⟩) n c) ds) (hd : Dig ds) (k : Nat) (hk : k < ds.length) : RdD w (.slice (some ⟨b, o + k * 32, none⟩) (n - k) (c - k)) (ds.drop k) := by
  have hl : (ds.drop k).length = ds.length - k := by rw [List.length_drop]
  show Rds w _ (ds.drop k).length _
  rcases h with ⟨⟨p, h1⟩, h2, h3⟩ | ⟨b', o', c', h1, h2, h3, h4⟩
  · omega
  · injection h1 with e1 e2 e3
    injection e1 with e1
    injection e1 with e4 e5
    subst e4 e5 e3 e2
    refine .inr ⟨_, _, _, by rw [hl], by rw [hl]; omega, by omega, ?_⟩
    have := rangeD_sub h4 hd k (ds.length - k)
    rw [List.take_of_length_le (by rw [hl]; exact Nat.le_refl _)] at this
    exact this
theorem HD.rds {w : World} {g c : Nat} {L : List (List Int)} (h : HD w g L) (hd : Dig L) (hc : L.length ≤ c) (hm : c ≤ maxLen) : RdD w (.slice (some ⟨g, 0, none⟩) L.length c) L := by
  refine .inr ⟨g, 0, c, rfl, hc, hm, fun j v hv => ?_⟩
  have hj : j < L.length * 32 := by
    have := (List.getElem?_eq_some_iff.1 hv).1
    rwa [cellsD_length hd] at this
  have hi : j / 32 < L.length := by omega
  have h1 := rangeAt_drop (cs := ints .u8 (L.getD (j / 32) [])) (h.at' (j / 32) hi) 0
  have e : (cellsD L)[j]? = (ints .u8 (L.getD (j / 32) []))[j % 32]? := by
    have h2 : (cellsD L).drop (j / 32 * 32) = cellsD (L.drop (j / 32)) := cellsD_drop hd _
    have h3 : (cellsD L)[j]? = ((cellsD L).drop (j / 32 * 32))[j % 32]? := by
      rw [List.getElem?_drop]; congr 1; omega
    rw [h3, h2, List.drop_eq_getElem_cons hi]
    show (ints .u8 L[j / 32] ++ cellsD _)[j % 32]? = _
    rw [List.getElem?_append_left (by rw [ints_length, (hd _ (List.getElem_mem hi)).1]; omega), List.getD_eq_getElem?_getD, List.getElem?_eq_getElem hi]; rfl
  rw [e] at hv
  have := h.at' (j / 32) hi (j % 32) v hv
  rw [show j / 32 * 32 + j % 32 = 0 + j from by omega] at this
  exact this
theorem HD.of_owns {w : World} {base g c : Nat} {e : TypeId} {L : List (List Int)} (h : w.ownsRow base e 32 (.slice (some ⟨g, 0, none⟩) L.length c) L.length (cellsD L)) (hd : Dig L) : HD w g L := by
  have h2 := h
  refine ⟨fun i hi => (hd.get hi).1, fun i hi => ?_, fun j hj => ?_⟩
  · have := digit_at (o := 0) (fun j v hv => by
      have := h.cells (g := g) rfl j v hv
      rw [Addr.add_mid] at this; exact this) hd hi
    rw [Nat.zero_add] at this
    exact this
  · have hlen := cellsD_length hd
    have hjl : j < (cellsD L).length := by omega
    have hc := h.cells (g := g) rfl j _ (List.getElem?_eq_getElem hjl)
    rw [Addr.add_mid] at hc
    refine ⟨by rw [hc]; rfl, ?_⟩
    rcases h2.2 with ⟨hv, _⟩ | ⟨k, cap, cur, hv, hk, hh, r⟩
    · cases hv
    · injection hv with e1 _ _
      injection e1 with e1
      injection e1 with e1
      subst e1
      simp [World.frozen?, hh]
/-- a row of digests of the call's own, its value in its own form -/
def OwnD (w : World) (v : Value) (B : Nat) (e : TypeId) (ds : List (List Int)) : Prop := ∃ p c, v = .slice p ds.length c ∧ w.ownsRow B e 32 (.slice p ds.length c) ds.length (cellsD ds)
theorem OwnD.ext {w w' : World} {v : Value} {B : Nat} {e : TypeId} {ds : List (List Int)} (h : OwnD w v B e ds) (k : Ext w w') : OwnD w' v B e ds := by
  obtain ⟨p, c, h1, h2⟩ := h; exact ⟨p, c, h1, owns_ext h2 k⟩
theorem OwnD.mono {w : World} {v : Value} {B B' : Nat} {e : TypeId} {ds : List (List Int)} (h : OwnD w v B e ds) (k : B' ≤ B) : OwnD w v B' e ds := by
  obtain ⟨p, c, h1, h2⟩ := h; exact ⟨p, c, h1, owns_mono h2 k⟩
theorem OwnD.nil (w : World) (B : Nat) (e : TypeId) : OwnD w (.slice none 0 0) B e [] := ⟨none, 0, rfl, World.ownsRow_nil _ _ _ _⟩
theorem OwnD.rd {w : World} {v : Value} {B : Nat} {e : TypeId} {ds : List (List Int)} (h : OwnD w v B e ds) : RdD w v ds := by
  obtain ⟨p, c, h1, h2⟩ := h; rw [h1]; exact Rds.of_owns h2
end Go.Proofs.Bl

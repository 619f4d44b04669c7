/- Texts that stood apart, in one: FoeR0. -/
import Derived.Test.YtglenbikdahgjaaDoorFo1
/- The document's Bend: plainly. No program. -/
namespace Go.Proofs.Bl
open Go Go.RowKit
theorem LtF.of_ltc {w : World} {cs : List Value} {l : LT} {vp vs vb : Value} {L : List Sv} (h : LtC w cs l vp vs vb L) : LtF (fun b => b < w.heap.size) w l vp vs vb L := by
  obtain ⟨M, h1, h2, h3⟩ := rdss_bv h.bl
  refine ⟨RdsF.of_rds h.pl fun b _ q => q, RdsF.of_rds h.sh.rd fun b _ q => q, fun x hx => ⟨RdsF.of_rds (h.sh.ok x hx).st fun b _ q => q, (h.sh.ok x hx).bs, RdsF.of_rds (h.sh.ok x hx).pa fun b _ q => q, (h.sh.ok x hx).dg⟩, h.sl, M, RdsF.of_rds h1 fun b _ q => q, fun y hy => ⟨RdsF.of_rds (h3 y hy) fun b _ q => q, h.by' _ (by rw [← h2]; exact List.mem_map_of_mem hy)⟩, h2⟩
/-- its shown blocks are others -/
theorem LtF.shn {F : Nat → Prop} {w : World} {l : LT} {vp vs vb : Value} {L : List Sv} (h : LtF F w l vp vs vb L) {vs2 : Value} {L2 : List Sv} {S2 : List Sh} (row : RdsF F w vs2 L2.length (cellsR cS L2)) (ok : ∀ x ∈ L2, OkF F w x) (hs : L2.map plS = S2) : LtF F w { l with shown := S2 } vp vs2 vb L2 := ⟨h.pl, row, ok, hs, h.bl⟩
/-- two shown blocks change their rows, the first one first -/
def swR (L : List Sv) (i : Nat) : List Sv := (L.set 0 ((L.getD 0 s0).1, (L.getD i s0).2)).set i (((L.set 0 ((L.getD 0 s0).1, (L.getD i s0).2)).getD i s0).1, (L.getD 0 s0).2)
theorem swR_len (L : List Sv) (i : Nat) : (swR L i).length = L.length := by unfold swR; rw [List.length_set, List.length_set]
theorem swapR_cells (L : List Sv) (i : Nat) (h0 : 0 < L.length) (hi : i < L.length) : ((((cellsR cS L).set 1 (L.getD i s0).2.1.1).set 2 (L.getD i s0).2.2.1).set (i * 3 + 1) (L.getD 0 s0).2.1.1).set (i * 3 + 2) (L.getD 0 s0).2.2.1 = cellsR cS (swR L i) := by
  have h := set2S L 0 h0 (L.getD i s0).2.1.1 (L.getD i s0).2.2.1 (L.getD i s0).2.1.2 (L.getD i s0).2.2.2
  rw [Nat.zero_mul, Nat.zero_add, Nat.zero_add] at h
  rw [h]
  exact set2S (L.set 0 ((L.getD 0 s0).1, (L.getD i s0).2)) i (by rw [List.length_set]; exact hi) (L.getD 0 s0).2.1.1 (L.getD 0 s0).2.2.1 (L.getD 0 s0).2.1.2 (L.getD 0 s0).2.2.2
theorem swapR_pl (L : List Sv) (i : Nat) (_h0 : 0 < L.length) (hi : i < L.length) : (swR L i).map plS = swS (L.map plS) i := by
  have h1 : ((L.set 0 ((L.getD 0 s0).1, (L.getD i s0).2)).getD i s0).1 = (L.getD i s0).1 := by
    by_cases h : i = 0
    · subst h; rw [getDF_set s0 _ L 0 hi]
    · rw [List.getD_eq_getElem?_getD, List.getElem?_set_ne (fun q => h q.symm), ← List.getD_eq_getElem?_getD]
  unfold swR swS
  rw [h1, List.map_set, List.map_set, plS_getD, plS_getD]
  rfl
theorem swapR_ok {F : Nat → Prop} {w : World} {L : List Sv} {i : Nat} (h0 : 0 < L.length) (hi : i < L.length) (h : ∀ x ∈ L, OkF F w x) : ∀ x ∈ swR L i, OkF F w x := fun x hx => by
  have k0 := h _ (getD_mem s0 h0)
  have ki := h _ (getD_mem s0 hi)
  unfold swR at hx
  rcases List.mem_or_eq_of_mem_set hx with hx | rfl
  · rcases List.mem_or_eq_of_mem_set hx with hx | rfl
    · exact h x hx
    · exact ⟨ki.st, ki.bs, ki.pa, ki.dg⟩
  · exact ⟨k0.st, k0.bs, k0.pa, k0.dg⟩
theorem bendL_sh {k at' y : Int} {l : LT} (h6 : ¬ k = 6) (h7 : ¬ k = 7) (h8 : ¬ k = 8) (h9 : ¬ k = 9) (hb : ¬ (k = 1 ∧ l.kind = 6 ∧ 0 < l.blocks.length)) : bendL k at' y l = (bendA k at' y l, true) := by
  unfold bendL; rw [if_neg h9, if_neg h6, if_neg h7, if_neg h8, if_neg hb]
theorem bendA_no {k at' y : Int} {l : LT} (h : ¬ l.kind = 4 ∨ l.shown.length = 0 ∨ k < 1 ∨ 5 < k) : bendA k at' y l = l := by
  unfold bendA
  split
  · next hc =>
    have hb : bendS k (at' % (l.shown.length : Int)).toNat y l.shown = l.shown := by
      unfold bendS
      rw [if_neg (by omega), if_neg (by omega), if_neg (by omega), if_neg (by omega), if_neg (by omega)]
    rw [hb]
  · rfl
end Go.Proofs.Bl

/- Texts that stood apart, in one: FoeR0, FoeR1. -/
import Derived.Test.YtmmolapkddbibaaDoorFo1
import Derived.Test.YtmmolapkddbibaaDoorFroA
import Derived.Test.YtmmolapkddbibaaDoorLDs
import Derived.Test.YtmmolapkddbibaaDoorDuo
/- The document's Bend: plainly. No program. -/
namespace Go.Proofs.Bl
open Go Go.RowKit
theorem LtF.of_ltc {w : World} {cs : List Value} {l : LT} {vp vs vb : Value} {L : List Sv} (h : LtC w cs l vp vs vb L) : LtF (fun b => b < w.heap.size) w l vp vs vb L := by
  obtain ⟨M, h1, h2, h3⟩ := rdss_bv h.bl
  refine ⟨RdsF.of_rds h.pl fun b _ q => q, RdsF.of_rds h.sh.rd fun b _ q => q, fun x hx => ⟨RdsF.of_rds (h.sh.ok x hx).st fun b _ q => q, (h.sh.ok x hx).bs, RdsF.of_rds (h.sh.ok x hx).pa fun b _ q => q, (h.sh.ok x hx).dg⟩, h.sl, M, RdsF.of_rds h1 fun b _ q => q, fun y hy => ⟨RdsF.of_rds (h3 y hy) fun b _ q => q, h.by' _ (by rw [← h2]; exact List.mem_map_of_mem hy)⟩, h2⟩
/-- its shown blocks are others -/
theorem LtF.shn {F : Nat → Prop} {w : World} {l : LT} {vp vs vb : Value} {L : List Sv} (h : LtF F w l vp vs vb L) {vs2 : Value} {L2 : List Sv} {S2 : List Sh} (row : RdsF F w vs2 L2.length (cellsR cS L2)) (ok : ∀ x ∈ L2, OkF F w x) (hs : L2.map plS = S2) : LtF F w { l with shown := S2 } vp vs2 vb L2 := ⟨h.pl, row, ok, hs, h.bl⟩
/-- two shown blocks change their rows, the first one first -/
def swR (L : List Sv) (i : Nat) : List Sv := (L.set 0 ((L.getD 0 s0).1, (L.getD i s0).2)).set i (((L.set 0 ((L.getD 0 s0).1, (L.getD i s0).2)).getD i s0).1, (L.getD 0 s0).2)
theorem swR_len (L : List Sv) (i : Nat) : (swR L i).length = L.length := by unfold swR; rw [List.length_set, List.length_set]
theorem swapR_cells (L : List Sv) (i : Nat) (h0 : 0 < L.length) (hi : i < L.length) : ((((cellsR cS L).set 1 (L.getD i s0).2.1.1).set 2 (L.getD i s0).2.2.1).set (i * 3 + 1) (L.getD 0 s0).2.1.1).set (i * 3 + 2) (L.getD 0 s0).2.2.1 = cellsR cS (swR L i) := by
  have h := set2S L 0 h0 (L.getD i s0).2.1.1 (L.getD i s0).2.2.1 (L.getD i s0).2.1.2 (L.getD i s0).2.2.2
  rw [Nat.zero_mul, Nat.zero_add, Nat.zero_add] at h
  rw [h]
  exact set2S (L.set 0 ((L.getD 0 s0).1, (L.getD i s0).2)) i (by rw [List.length_set]; exact hi) (L.getD 0 s0).2.1.1 (L.getD 0 s0).2.2.1 (L.getD 0 s0).2.1.2 (L.getD 0 s0).2.2.2
theorem swapR_pl (L : List Sv) (i : Nat) (_h0 : 0 < L.length) (hi : i < L.length) : (swR L i).map plS = swS (L.map plS) i := by
  have h1 : ((L.set 0 ((L.getD 0 s0).1, (L.getD i s0).2)).getD i s0).1 = (L.getD i s0).1 := by
    by_cases h : i = 0
    · subst h; rw [getD_set s0 _ L 0 hi]
    · rw [List.getD_eq_getElem?_getD, List.getElem?_set_ne (fun q => h q.symm), ← List.getD_eq_getElem?_getD]
  unfold swR swS
  rw [h1, List.map_set, List.map_set, plS_getD, plS_getD]
  rfl
theorem swapR_ok {F : Nat → Prop} {w : World} {L : List Sv} {i : Nat} (h0 : 0 < L.length) (hi : i < L.length) (h : ∀ x ∈ L, OkF F w x) : ∀ x ∈ swR L i, OkF F w x := fun x hx => by
  have k0 := h _ (getD_mem s0 h0)
  have ki := h _ (getD_mem s0 hi)
  unfold swR at hx
  rcases List.mem_or_eq_of_mem_set hx with hx | rfl
  · rcases List.mem_or_eq_of_mem_set hx with hx | rfl
    · exact h x hx
    · exact ⟨ki.st, ki.bs, ki.pa, ki.dg⟩
  · exact ⟨k0.st, k0.bs, k0.pa, k0.dg⟩
theorem bendL_sh {k at' y : Int} {l : LT} (h6 : ¬ k = 6) (h7 : ¬ k = 7) (h8 : ¬ k = 8) (h9 : ¬ k = 9) (hb : ¬ (k = 1 ∧ l.kind = 6 ∧ 0 < l.blocks.length)) : bendL k at' y l = (bendA k at' y l, true) := by
  unfold bendL; rw [if_neg h9, if_neg h6, if_neg h7, if_neg h8, if_neg hb]
theorem bendA_no {k at' y : Int} {l : LT} (h : ¬ l.kind = 4 ∨ l.shown.length = 0 ∨ k < 1 ∨ 5 < k) : bendA k at' y l = l := by
  unfold bendA
  split
  · next hc =>
    have hb : bendS k (at' % (l.shown.length : Int)).toNat y l.shown = l.shown := by
      unfold bendS
      rw [if_neg (by omega), if_neg (by omega), if_neg (by omega), if_neg (by omega), if_neg (by omega)]
    rw [hb]
  · rfl
end Go.Proofs.Bl

/- The document's Bend, the swap and the cut: plainly. No program. -/
namespace Go.Proofs.Bl
open Go Go.RowKit
section
variable {P : Program}
theorem store_there {w : World} {X : Nat} {cs : List Value} (ht : w.there X 0 cs.length) (h1 : ∀ c ∈ cs, c.oneCell' = true) {ty : TypeId} (hi : (P.info? ty).map (·.size) = some cs.length) :
    (Instr.storeAt ty (.pointer (some ⟨X, 0, none⟩)) (.agg cs.toArray)).run P w = .ok () (w.setCells X 0 cs) := by
  have h2 := run_storeAt_mid (P := P) w X 0 ty cs.toArray (by simpa using ht) (by simpa using hi) (all_oneCell_toArray h1)
  simpa using h2
theorem run_append_pk0 {w : World} {t ty e : TypeId} {v z : Value} {base size bytes n m c b o : Nat} {xs news : List Value}
    (hT : SlT P t e z size bytes) (hown : Pk w base size v n xs) (hnews : w.rangeAt b o news) (hl : news.length = m * size) (h1 : ∀ u ∈ news, u.oneCell' = true)
    (hlen : n + m ≤ maxLen) (hbytes : (n + m) * bytes ≤ 140737488355328) (hbase : base ≤ w.heap.size) :
    ∃ v' w', (Builtin.append_ #[t, t] ty #[v, .slice (some ⟨b, o, none⟩) m c]).run P w = .ok v' w' ∧ Pk w' base size v' (n + m) (xs ++ news) ∧ w.grownBy w' v.ownBlock := by
  by_cases hm : 0 < m
  · obtain ⟨v', w', h2, h3, h4, _⟩ := run_append_pk (ty := ty) (c := c) hT hown hnews hl h1 hm hlen hbytes hbase
    exact ⟨v', w', h2, h3, h4⟩
  obtain rfl : m = 0 := by omega
  obtain rfl : news = [] := List.length_eq_zero_iff.1 (by simpa using hl)
  obtain ⟨i, hi, hz, hs1, hb1⟩ := info_parts hT.info
  rcases hown with ⟨rfl, rfl, rfl⟩ | ⟨g, cap, rfl, hg, hp⟩
  · obtain ⟨v', w', hr, h2, h3, _⟩ := run_append_own (P := P) w w.heap.size t ty e i z size bytes hT.ht hi hz hs1 hb1 hT.hz hT.pos (.slice none 0 0) 0 [] (World.ownsRow_nil w _ e size) ⟨b, o, none⟩ 0 c [] hl (fun j u hj => by simp at hj) h1 hlen hbytes (Nat.le_refl _)
    exact ⟨v', w', hr, Pk.of_owns (owns_mono h2 hbase), h3⟩
  · refine ⟨_, _, run_append_room_cells (P := P) w t ty e i hT.ht hi g 0 n cap ⟨b, o, none⟩ 0 c [] (by simp) (fun j u hj => by simp at hj) h1 (by have := hp.le; omega) (fun j hj => by simp at hj) (fun j hj => by simp at hj), ?_, ?_⟩
    · rw [List.append_nil]
      exact .inr ⟨g, cap, rfl, hg, hp⟩
    · exact World.grownBy.refl _ _
theorem goodX_append0 {R : World → World → Prop} {ev : Nat → Value} {w : World} {φ : Value → World → Prop} {d : Option Tmp} {tt t e : TypeId} {pp : String} {af : Array Edge} {g : Option (Nat × Bool)} {s x : Operand} {v z : Value} {base size bytes n m c b o : Nat} {xs news : List Value}
    (hT : SlT P t e z size bytes) (hown : Pk w base size v n xs) (hnews : w.rangeAt b o news) (hl : news.length = m * size) (h1 : ∀ u ∈ news, u.oneCell' = true)
    (hlen : n + m ≤ maxLen) (hbytes : (n + m) * bytes ≤ 140737488355328) (hbase : base ≤ w.heap.size)
    (hs : evalE ev s = v) (hx : evalE ev x = .slice (some ⟨b, o, none⟩) m c)
    (hφ : ∀ v' w', Pk w' base size v' (n + m) (xs ++ news) → w.grownBy w' v.ownBlock → R w w' ∧ φ v' w') :
    GoodX R P w φ ((execOp (evalE ev) ⟨d, .call { callee := .builtin .append, args := #[s, x], argTypes := #[t, t] }, tt, pp, af, g⟩).run P w) := by
  obtain ⟨v', w', hrun, h2, h3⟩ := run_append_pk0 (P := P) (ty := tt) (t := t) hT hown hnews hl h1 hlen hbytes hbase (c := c)
  simp [execOp, resolve, invoke, builtin, hs, hx, hrun, Result.andThen]
  exact hφ v' w' h2 h3
end
/-- while a row is put together out of two parts of another: operation 0 makes it, 4 and 9 append -/
structure JC (B i m : Nat) (A C : List Value) (d : Nat → Bool) (u : Nat → Value) (w : World) : Prop where
  le : B ≤ w.heap.size
  a : d 0 = true → d 4 = false → Pk w B 3 (u 186) 0 []
  b : d 4 = true → d 9 = false → Pk w B 3 (u 190) i A
  c : d 9 = true → Pk w B 3 (u 195) (i + m) (A ++ C)
section
variable {B i m : Nat} {A C : List Value} {d : Nat → Bool} {u : Nat → Value} {w w' : World}
theorem JC.start (h : B ≤ w.heap.size) : JC B i m A C (fun _ => false) u w := ⟨h, fun q => (by cases q), fun q => (by cases q), fun q => (by cases q)⟩
theorem JC.same {j t : Nat} {v : Value} (h : JC B i m A C d u w) (hi : (decide (j = 0) || decide (j = 4) || decide (j = 9) || decide (t = 186) || decide (t = 190) || decide (t = 195)) = false) : JC B i m A C (upd d j) (updv (some t) u v) w := by
  simp only [Bool.or_eq_false_iff, decide_eq_false_iff_not] at hi
  obtain ⟨⟨⟨⟨⟨h1, h2⟩, h3⟩, h4⟩, h5⟩, h6⟩ := hi
  have a1 : upd d j 0 = d 0 := if_neg (fun e => h1 e.symm)
  have a2 : upd d j 4 = d 4 := if_neg (fun e => h2 e.symm)
  have a3 : upd d j 9 = d 9 := if_neg (fun e => h3 e.symm)
  have b1 : updv (some t) u v 186 = u 186 := if_neg (fun e => h4 e.symm)
  have b2 : updv (some t) u v 190 = u 190 := if_neg (fun e => h5 e.symm)
  have b3 : updv (some t) u v 195 = u 195 := if_neg (fun e => h6 e.symm)
  exact ⟨h.le, by rw [a1, a2, b1]; exact h.a, by rw [a2, a3, b2]; exact h.b, by rw [a3, b3]; exact h.c⟩
theorem JC.new {e : TypeId} (h : JC B i m A C d u w) (h4 : d 4 = false) (h9 : d 9 = false) : JC B i m A C (upd d 0) (updv (some 186) u (.slice (some ⟨w.heap.size, 0, none⟩) 0 0)) (w.alloc (.cells #[] e)) :=
  ⟨by rw [World.size_alloc]; exact Nat.le_succ_of_le h.le, fun _ _ => Pk.of_owns (owns_nil_lit w e B h.le 3), fun q => (by have q : d 4 = true := q; rw [h4] at q; cases q), fun q => (by have q : d 9 = true := q; rw [h9] at q; cases q)⟩
theorem JC.app1 (h : JC B i m A C d u w) {v' : Value} (h9 : d 9 = false) (hp : Pk w' B 3 v' (0 + i) ([] ++ A)) (hB : Below B w w') : JC B i m A C (upd d 4) (updv (some 190) u v') w' :=
  ⟨Nat.le_trans h.le hB.size, fun _ q => (by have q : true = false := q; cases q), fun _ _ => (by rw [Nat.zero_add, List.nil_append] at hp; exact hp), fun q => (by have q : d 9 = true := q; rw [h9] at q; cases q)⟩
theorem JC.app2 (h : JC B i m A C d u w) {v' : Value} (h4 : d 4 = true) (hp : Pk w' B 3 v' (i + m) (A ++ C)) (hB : Below B w w') : JC B i m A C (upd d 9) (updv (some 195) u v') w' :=
  ⟨Nat.le_trans h.le hB.size, fun _ q => (by have q : d 4 = false := q; rw [h4] at q; cases q), fun _ q => (by have q : true = false := q; cases q), fun _ => hp⟩
theorem Pk.grownB {base size n : Nat} {v : Value} {xs : List Value} (h : Pk w base size v n xs) (hb : base ≤ w.heap.size) (hg : w.grownBy w' v.ownBlock) : Below base w w' := (Below.refl base w).grown hg hb fun k hk => (h.block k hk).1
end
def b0 : Bv := (.slice none 0 0, [])
theorem cB_len (x : Bv) : (cB x).length = 1 := rfl
theorem cellsB_one {F : Nat → Prop} {w : World} {M : List Bv} (h : ∀ x ∈ M, RdsF F w x.1 x.2.length (ints .u8 x.2)) : ∀ c ∈ cellsR cB M, c.oneCell' = true := cellsR_cell fun x hx c hc => by
  obtain ⟨p, cap, hv, _, _⟩ := (h x hx).rds.form
  have hc : c = x.1 := by simpa [cB] using hc
  rw [hc, hv]
  rfl
theorem one3 (x : Int) (p : Option Addr) (n c : Nat) (q : Option Addr) (n' c' : Nat) : ∀ v ∈ [Value.int .i64 x, .slice p n c, .slice q n' c'], v.oneCell' = true := fun v hv => by
  simp only [List.mem_cons, List.not_mem_nil, or_false] at hv
  rcases hv with rfl | rfl | rfl <;> rfl
end Go.Proofs.Bl

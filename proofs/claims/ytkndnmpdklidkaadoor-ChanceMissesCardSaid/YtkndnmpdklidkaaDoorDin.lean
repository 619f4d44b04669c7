/- Bytes' lists in memory, each marked behind its end, and all of them in one slice: what a round of the laws leaves. No program. -/
import Derived.Test.YtkndnmpdklidkaaDoorRegJ
import Derived.Test.YtkndnmpdklidkaaDoorEq
import Derived.LaidEql
namespace Go.Proofs.Bl
open Go Go.RowKit
def marks : List Int := [201, 202, 203, 204, 205, 206]
theorem rangeAt_grown {w w' : World} {row : Option Nat} {b o : Nat} {cs : List Value} (h : w.rangeAt b o cs) (hg : w.grownBy w' row) (hne : row ≠ some b) : w'.rangeAt b o cs := fun j v hv => hg.cell (h j v hv) (fun q => hne q.symm)
/-- one list of bytes, marked behind its end -/
def Elt (w : World) (u : Value) (l : List Int) (all inn : Value) : Prop :=
  ∃ g c, u = .slice (some ⟨g, 0, none⟩) l.length c ∧ l.length + 6 ≤ c ∧ c ≤ maxLen ∧ w.rangeAt g 0 (ints .u8 (l ++ marks)) ∧ all.ownBlock ≠ some g ∧ inn.ownBlock ≠ some g
structure Din (tB tS : TypeId) (w : World) (base : Nat) (all inn : Value) (ps : List (List Int)) (vs : List Value) : Prop where
  own : w.ownsRow base tB 1 all ps.flatten.length (ints .u8 ps.flatten)
  rows : w.ownsRow base tS 1 inn ps.length vs
  elts : ∀ j, j < ps.length → Elt w (vs.getD j undef) (ps.getD j []) all inn
  ne : ∀ q, all.ownBlock = some q → inn.ownBlock ≠ some q
theorem Din.len {tB tS : TypeId} {w : World} {base : Nat} {all inn : Value} {ps : List (List Int)} {vs : List Value} (h : Din tB tS w base all inn ps vs) : vs.length = ps.length := by rw [h.rows.1, Nat.mul_one]
theorem marks_pos (l : List Int) : ints .u8 (l ++ marks) ≠ [] := fun h => by
  have := congrArg List.length h
  rw [ints_length, List.length_append] at this
  simp [marks] at this
theorem Din.step {tB tS : TypeId} {w w1 w2 w4 : World} {base : Nat} {all all1 inn inn1 : Value} {ps : List (List Int)} {vs : List Value} {l : List Int} {g c : Nat}
    (h : Din tB tS w base all inn ps vs)
    (own1 : w1.ownsRow base tB 1 all1 (ps.flatten.length + l.length) (ints .u8 ps.flatten ++ ints .u8 l)) (hg1 : w.grownBy w1 all.ownBlock) (hk1 : ∀ k, all1.ownBlock = some k → all.ownBlock = some k ∨ w.heap.size ≤ k)
    (own2 : w2.ownsRow w1.heap.size tB 1 (.slice (some ⟨g, 0, none⟩) (l.length + 6) c) (l.length + 6) (ints .u8 (l ++ marks))) (hE2 : Ext w1 w2)
    (own4 : w4.ownsRow base tS 1 inn1 (ps.length + 1) (vs ++ [.slice (some ⟨g, 0, none⟩) l.length c])) (hg4 : (w2.alloc (.cells #[.slice (some ⟨g, 0, none⟩) l.length c] tS)).grownBy w4 inn.ownBlock)
    (hk4 : ∀ k, inn1.ownBlock = some k → inn.ownBlock = some k ∨ (w2.alloc (.cells #[.slice (some ⟨g, 0, none⟩) l.length c] tS)).heap.size ≤ k) :
    Din tB tS w4 base all1 inn1 (ps ++ [l]) (vs ++ [.slice (some ⟨g, 0, none⟩) l.length c]) := by
  have hs1 : w.heap.size ≤ w1.heap.size := hg1.size
  have hs2 : w1.heap.size ≤ w2.heap.size := hE2.size
  have hE3 : Ext w2 (w2.alloc (.cells #[.slice (some ⟨g, 0, none⟩) l.length c] tS)) := ext_alloc _ _
  have hs3 : w2.heap.size < (w2.alloc (.cells #[.slice (some ⟨g, 0, none⟩) l.length c] tS)).heap.size := by simp
  have hinn : ∀ k, inn.ownBlock = some k → k < w.heap.size := fun k hk => (h.rows.lt k hk).2
  have hall1 : ∀ k, all1.ownBlock = some k → k < w1.heap.size := fun k hk => (own1.lt k hk).2
  obtain ⟨hgl, hgh⟩ := own2.lt g rfl
  have hlen : vs.length = ps.length := h.len
  have hne1 : ∀ q, all1.ownBlock = some q → inn.ownBlock ≠ some q := fun q hq hi => by
    rcases hk1 q hq with h1 | h1
    · exact h.ne q h1 hi
    · have := hinn q hi; omega
  generalize hw3 : w2.alloc (.cells #[.slice (some ⟨g, 0, none⟩) l.length c] tS) = w3 at *
  refine ⟨?_, ?_, ?_, ?_⟩
  · have a := owns_ext (owns_ext own1 hE2) hE3
    have b := a.kept hg4 (by
      cases hq : all1.ownBlock with
      | none => exact .inl rfl
      | some q => exact .inr (fun hi => hne1 q hq hi.symm))
    rw [List.flatten_append, List.flatten_singleton, List.length_append, ints_append]; exact b
  · rw [List.length_append]; exact own4
  · intro j hj
    rw [List.length_append] at hj
    by_cases hjl : j < ps.length
    · obtain ⟨gj, cj, e1, e2, e3, e4, e5, e6⟩ := h.elts j hjl
      have hlt := rangeAt_lt e4 (marks_pos _)
      rw [List.getD_eq_getElem?_getD, List.getElem?_append_left (by omega), ← List.getD_eq_getElem?_getD, List.getD_eq_getElem?_getD (l := ps ++ [l]), List.getElem?_append_left hjl, ← List.getD_eq_getElem?_getD]
      refine ⟨gj, cj, e1, e2, e3, rangeAt_grown (rangeAt_ext (rangeAt_ext (rangeAt_grown e4 hg1 e5) hE2) hE3) hg4 e6, fun hq => ?_, fun hq => ?_⟩
      · rcases hk1 gj hq with h1 | h1
        · exact e5 h1
        · omega
      · rcases hk4 gj hq with h1 | h1
        · exact e6 h1
        · omega
    · obtain rfl : j = ps.length := by simp at hj; omega
      rw [List.getD_eq_getElem?_getD, List.getElem?_append_right (by omega), List.getD_eq_getElem?_getD, List.getElem?_append_right (by omega)]
      simp only [hlen, Nat.sub_self, List.getElem?_cons_zero, Option.getD_some]
      obtain ⟨_, _, hq, hc1, hc2⟩ := (Rds.of_owns own2).form
      injection hq with _ _ hq
      subst hq
      have hr : w2.rangeAt g 0 (ints .u8 (l ++ marks)) := fun j u hu => by
        have := own2.cells (g := g) rfl j u hu
        rw [Addr.add_mid] at this; exact this
      refine ⟨g, c, rfl, hc1, hc2, rangeAt_grown (rangeAt_ext hr hE3) hg4 (fun hq => ?_), fun hq => ?_, fun hq => ?_⟩
      · have := hinn g hq; omega
      · have := hall1 g hq; omega
      · rcases hk4 g hq with h1 | h1
        · have := hinn g h1; omega
        · omega
  · intro q hq hi
    have := hall1 q hq
    rcases hk4 q hi with h1 | h1
    · exact hne1 q hq h1
    · omega
theorem Din.rowsAt {tB tS : TypeId} {w w1 w2 : World} {base : Nat} {all inn : Value} {ps : List (List Int)} {vs : List Value}
    (h : Din tB tS w base all inn ps vs) (hg1 : w.grownBy w1 all.ownBlock) (hE2 : Ext w1 w2) (o : Obj) : (w2.alloc o).ownsRow base tS 1 inn ps.length vs :=
  owns_ext (owns_ext (h.rows.kept hg1 (by
    cases hq : all.ownBlock with
    | none => cases hi : inn.ownBlock with
      | none => exact .inl rfl
      | some q => exact .inr (fun e => by cases e)
    | some q => exact .inr (fun hi => h.ne q hq hi))) hE2) (ext_alloc _ _)
theorem rds_val (w : World) (e : TypeId) (v : Value) : Rds (w.alloc (.cells #[v] e)) (.slice (some ⟨w.heap.size, 0, none⟩) 1 1) 1 [v] :=
  .inr ⟨w.heap.size, 0, 1, rfl, Nat.le_refl _, show 1 ≤ maxLen from by decide, fun j u hu => by
    rw [Nat.zero_add, World.cell?_alloc_new]; simpa using hu⟩
theorem one_slice (p : Option Addr) (n c : Nat) : ∀ x ∈ [Value.slice p n c], x.oneCell' = true := fun x hx => by
  obtain rfl : x = _ := by simpa using hx
  rfl
theorem Din.ext {tB tS : TypeId} {w w' : World} {base : Nat} {all inn : Value} {ps : List (List Int)} {vs : List Value} (h : Din tB tS w base all inn ps vs) (hE : Ext w w') : Din tB tS w' base all inn ps vs :=
  ⟨owns_ext h.own hE, owns_ext h.rows hE, fun j hj => by
    obtain ⟨g, c, e1, e2, e3, e4, e5, e6⟩ := h.elts j hj
    exact ⟨g, c, e1, e2, e3, rangeAt_ext e4 hE, e5, e6⟩, h.ne⟩
theorem rd_take {w : World} {p : Option Addr} {n c : Nat} {l : List Int} (h : Rd w .u8 (.slice p n c) l) (hn : l.length = n) (k : Nat) (hk : k ≤ n) : Rd w .u8 (.slice p k c) (l.take k) := by
  rcases h with ⟨⟨q, h1⟩, h2, h3⟩ | ⟨b, o, c', h1, h2, h3, h4⟩
  · injection h1 with a1 a2 a3
    subst a1 a2 a3
    obtain rfl : k = 0 := by omega
    exact .inl ⟨⟨_, rfl⟩, by simp, by simp [ints]⟩
  · injection h1 with a1 a2 a3
    subst a1 a3
    have e : (l.take k).length = k := by rw [List.length_take]; omega
    refine .inr ⟨b, o, c, by rw [e], by rw [e]; omega, h3, ?_⟩
    have := rangeAt_take h4 k
    rw [ints, ← List.map_take] at this
    exact this
theorem Din.start (tB tS : TypeId) (w : World) (base : Nat) (hb : base ≤ w.heap.size) : Din tB tS ((w.alloc (.cells #[] tB)).alloc (.cells #[] tS)) base (.slice (some ⟨w.heap.size, 0, none⟩) 0 0) (.slice (some ⟨w.heap.size + 1, 0, none⟩) 0 0) [] [] := by
  refine ⟨owns_ext (owns_nil_lit w tB base hb 1) (ext_alloc _ _), ?_, fun j hj => absurd hj (Nat.not_lt_zero _), fun q hq hi => ?_⟩
  · have := owns_nil_lit (w.alloc (.cells #[] tB)) tS base (by simp; omega) 1
    rw [World.size_alloc] at this; exact this
  · simp only [Value.ownBlock, Option.some.injEq] at hq hi; omega
/-- what the first part holds before, and after, operation number p has been carried out -/
def HJ (p : Nat) (A B : World → Prop) : (Nat → Bool) → (Nat → Value) → World → Prop := fun d _ w => (d p = true → B w) ∧ (d p = false → A w)
theorem HJ.keep {p i : Nat} {A B : World → Prop} {d : Nat → Bool} {u u' : Nat → Value} {w w' : World} (hi : decide (p = i) = false) (h : HJ p A B d u w) (hA : A w → A w') (hB : B w → B w') : HJ p A B (upd d i) u' w' := by
  have hne : p ≠ i := of_decide_eq_false hi
  refine ⟨fun q => hB (h.1 ?_), fun q => hA (h.2 ?_)⟩
  · unfold upd at q; rw [if_neg hne] at q; exact q
  · unfold upd at q; rw [if_neg hne] at q; exact q
theorem HJ.same {p i : Nat} {A B : World → Prop} {d : Nat → Bool} {u u' : Nat → Value} {w : World} (hi : decide (p = i) = false) (h : HJ p A B d u w) : HJ p A B (upd d i) u' w := h.keep hi (fun x => x) (fun x => x)
theorem HJ.set {p : Nat} {A B : World → Prop} {d : Nat → Bool} {u : Nat → Value} {w : World} (h : B w) : HJ p A B (upd d p) u w := ⟨fun _ => h, fun q => by unfold upd at q; rw [if_pos rfl] at q; cases q⟩
theorem HJ.start {p : Nat} {A B : World → Prop} {u : Nat → Value} {w : World} (h : A w) : HJ p A B (fun _ => false) u w := ⟨fun q => (by cases q), fun _ => h⟩
theorem wpL_store0 {P : Program} {ops : Array Oper} {rest : List Oper} {a : Act} {w w' : World} {Q : Exit → Act → World → Prop} {tt ty : TypeId} {pp : String} {af : Array Edge} {x y : Operand} {p v : Value} (hx : a.eval x = p) (hy : a.eval y = v) (hst : (Instr.storeAt ty p v).run P w = .ok () w') (h : wpList P ops Q rest a w') :
    wpList P ops Q (⟨none, .store ty x y, tt, pp, af, none⟩ :: rest) a w := wpL_store hx hy hst h
theorem ptr_eq_same {P : Program} {t e : TypeId} {n : Nat} (ht : P.underlying t = some (.pointer e)) (hz : ∀ w, (sizeOf e).run P w = .ok n w) (a : Addr) (w : World) : (Op.equal t (.pointer (some a)) (.pointer (some a))).run P w = .ok true w := by
  have h : (Op.equalIn (9999 + 1) t (.pointer (some a)) (.pointer (some a))).run P w = .ok true w := by
    rw [Op.equalIn]
    simp [run_underlying ht, hz, run_sameAddr_same]
  exact h
theorem ptr_neq_same {P : Program} {t e : TypeId} {n : Nat} (ht : P.underlying t = some (.pointer e)) (hz : ∀ w, (sizeOf e).run P w = .ok n w) (a : Addr) (w : World) : (binOp .neq t (.pointer (some a)) (.pointer (some a))).run P w = .ok (.bool false) w := by
  simp only [binOp]
  simp [ptr_eq_same ht hz a w]
theorem wpL_appr {P : Program} {ops : Array Oper} {rest : List Oper} {a : Act} {w w' : World} {Q : Exit → Act → World → Prop} {d : Option Tmp} {tt t t2 : TypeId} {pp : String} {af : Array Edge} {s x : Operand} {v u r : Value} (hr : ∀ ty, (Builtin.append_ #[t, t2] ty #[v, u]).run P w = .ok r w') (hs : a.eval s = v) (hx : a.eval x = u) (h : wpList P ops Q rest (a.put d r) w') :
    wpList P ops Q (⟨d, .call { callee := .builtin .append, args := #[s, x], argTypes := #[t, t2] }, tt, pp, af, none⟩ :: rest) a w :=
  wpList_plain rfl fun K hK => by
    unfold Oper.wp execOp
    simp only [resolve, invoke, builtin, Sem.run_bind, Sem.run_pure, Result.andThen_ok, List.map_toArray, List.map_cons, List.map_nil, hs, hx, hr]
    exact hK _ _ h
theorem goodR_appr {P : Program} {ev : Nat → Value} {w w' : World} {φ : Value → World → Prop} {d : Option Tmp} {tt t t2 : TypeId} {pp : String} {af : Array Edge} {g : Option (Nat × Bool)} {s x : Operand} {v u r : Value} (hr : ∀ ty, (Builtin.append_ #[t, t2] ty #[v, u]).run P w = .ok r w') (hs : evalE ev s = v) (hx : evalE ev x = u) (hE : Ext w w') (hφ : φ r w') :
    GoodR P w φ ((execOp (evalE ev) ⟨d, .call { callee := .builtin .append, args := #[s, x], argTypes := #[t, t2] }, tt, pp, af, g⟩).run P w) := by
  unfold execOp
  simp only [resolve, invoke, builtin, Sem.run_bind, Sem.run_pure, Result.andThen_ok, List.map_toArray, List.map_cons, List.map_nil, hs, hx, hr]
  exact ⟨hE, hφ⟩
/-- one byte, and more behind it: the row must grow -/
theorem app1 {P : Program} {w : World} {t e : TypeId} {bytes : Nat} (hT : SlT P t e (.int .u8 0) 1 bytes) (hby : bytes ≤ 1) {v u : Value} {a : Int} {l : List Int} {m B : Nat} (hv : ∃ g, v = .slice (some ⟨g, 0, none⟩) 1 1 ∧ w.rangeAt g 0 (ints .u8 [a])) (hu : ∃ b, u = .slice (some ⟨b, 0, none⟩) m m ∧ w.rangeAt b 0 (ints .u8 l)) (hl : l.length = m) (hm0 : 0 < m) (hm : m ≤ 1099511627776) (hB : B ≤ w.heap.size) :
    ∃ c w', (∀ ty, (Builtin.append_ #[t, t] ty #[v, u]).run P w = .ok (.slice (some ⟨w.heap.size, 0, none⟩) (1 + m) c) w') ∧ Ext w w' ∧ w'.ownsRow B e 1 (.slice (some ⟨w.heap.size, 0, none⟩) (1 + m) c) (1 + m) (ints .u8 (a :: l)) := by
  obtain ⟨i, hi, hz, hs1, hb1⟩ := info_parts hT.info
  obtain ⟨g, rfl, hg⟩ := hv
  obtain ⟨b, rfl, hb⟩ := hu
  have hge := grownCap_ge w (1 + m) 1 e
  have hcm : grownCap w (1 + m) 1 e ≤ maxLen := grownCap_le_maxLen w (1 + m) 1 e (by unfold maxLen; omega)
  have hfit : Builtin.nextslicecap (1 + m) 1 * i.bytes ≤ 281474976710656 := growslice_fits (by omega) (by rw [hb1]; have : (1 + m) * bytes ≤ (1 + m) * 1 := Nat.mul_le_mul_left _ hby; omega)
  refine ⟨_, _, fun ty => run_append_grow (P := P) w t ty e i _ hT.ht hi hz ⟨g, 0, none⟩ 1 1 (ints .u8 [a]) (by rw [hs1]; rfl) (fun j x hx => by rw [Addr.add_mid]; exact hg j x hx) ⟨b, 0, none⟩ m m (ints .u8 l) (by rw [hs1, ints_length, hl]; omega) (fun j x hx => by rw [Addr.add_mid]; exact hb j x hx) (by omega) (by omega) hfit, ((Below.refl _ _).drew).alloc (Nat.le_refl _) _, ?_⟩
  refine ⟨by simp [hl]; omega, .inr ⟨w.heap.size, _, _, rfl, hB, heap_alloc_new w.drew _, hge, hcm, ?_, ?_⟩⟩
  · simp only [Array.size_append, List.size_toArray, size_zeroCells, ints_length, hl, Value.cells, List.length_cons, List.length_nil]; omega
  · simp only [Array.toList_append, List.append_assoc, Nat.mul_one]
    rw [← List.append_assoc, ← ints_append]
    exact List.take_left' (by simp [hl]; omega)
/-- a load among operations whose order is open -/
theorem goodR_load {P : Program} {ev : Nat → Value} {w : World} {φ : Value → World → Prop} {d : Option Tmp} {tt ty : TypeId} {pp : String} {af : Array Edge} {g : Option (Nat × Bool)} {x : Operand} {p v : Value} (hx : evalE ev x = p) (hld : (Instr.loadAt ty p).run P w = .ok v w) (hφ : φ v w) :
    GoodR P w φ ((execOp (evalE ev) ⟨d, .load ty x, tt, pp, af, g⟩).run P w) := by
  unfold execOp
  simp only [hx, Sem.run_bind, Sem.run_pure, Result.andThen_ok, hld]
  exact ⟨Below.refl _ _, hφ⟩
end Go.Proofs.Bl

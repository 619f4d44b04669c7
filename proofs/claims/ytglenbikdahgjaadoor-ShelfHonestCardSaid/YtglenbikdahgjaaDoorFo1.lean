/- Texts that stood apart, in one: Foe5, Foe6. -/
import Derived.Test.YtglenbikdahgjaaDoorFo0
import Derived.ArgAppend
/- Walk of slices.Delete of one shown block. -/
namespace Go.Proofs.Bl
open Go Go.RowKit
section
variable {P : Program} {ops : Array Oper} {rest : List Oper} {a : Act} {w w' : World} {Q : Exit → Act → World → Prop} {d : Option Tmp} {tt t t2 : TypeId} {pp : String} {af : Array Edge} {s x : Operand} {v u r : Value}
theorem stop_clear {args : Array Operand} {ts : Array TypeId} (h : Stuck (wpList P ops Q (⟨d, .call { callee := .builtin .clear, args := args, argTypes := ts }, tt, pp, af, none⟩ :: rest) a w)) : wpList P ops Q (⟨d, .call { callee := .builtin .clear, args := args, argTypes := ts }, tt, pp, af, none⟩ :: rest) a w := h
theorem wpL_clear (hr : ∀ ty, (Builtin.clear_ #[t] ty #[v]).run P w = .ok r w') (hs : a.eval s = v) (h : wpList P ops Q rest (a.put d r) w') :
    wpList P ops Q (⟨d, .call { callee := .builtin .clear, args := #[s], argTypes := #[t] }, tt, pp, af, none⟩ :: rest) a w :=
  wpList_plain rfl fun K hK => by
    unfold Oper.wp execOp
    simp only [resolve, invoke, builtin, Sem.run_bind, Sem.run_pure, Result.andThen_ok, List.map_toArray, List.map_cons, List.map_nil, hs, hr]
    exact hK _ _ h
/-- one element is cleared -/
theorem run_clear_one {e : TypeId} {z : Value} {cs : List Value} {b o c : Nat} (ht : P.underlying t = some (.slice e)) (hv : ∀ w, (zeroValue e).run P w = .ok z w) (hz : (Builtin.zeroCells z.cells 1).toList = cs) (h1 : ∀ c ∈ cs, c.oneCell' = true)
    (hc : ∀ j, j < cs.length → (w.cell? ⟨b, o + j, none⟩).isSome = true) (hf : ∀ j, j < cs.length → w.frozen? ⟨b, o + j, none⟩ = false) (ty : TypeId) :
    (Builtin.clear_ #[t] ty #[.slice (some ⟨b, o, none⟩) 1 c]).run P w = .ok (.tuple #[]) (w.setCells b o cs) := by
  have hst := run_storeCells_cells (P := P) b o cs 0 w (by simpa using hc) (by simpa using hf) h1
  simp only [Nat.add_zero] at hst
  simp [Builtin.clear_, run_underlying ht, hv, hz, hst]
theorem goodX_appr {R : World → World → Prop} {ev : Nat → Value} {φ : Value → World → Prop} {g : Option (Nat × Bool)} (hr : ∀ ty, (Builtin.append_ #[t, t2] ty #[v, u]).run P w = .ok r w') (hs : evalE ev s = v) (hx : evalE ev x = u) (hφ : R w w' ∧ φ r w') :
    GoodX R P w φ ((execOp (evalE ev) ⟨d, .call { callee := .builtin .append, args := #[s, x], argTypes := #[t, t2] }, tt, pp, af, g⟩).run P w) := by
  unfold execOp
  simp only [resolve, invoke, builtin, Sem.run_bind, Sem.run_pure, Result.andThen_ok, List.map_toArray, List.map_cons, List.map_nil, hs, hx, hr]
  exact hφ
end
theorem rangeAt_app {w : World} {g o : Nat} {A B : List Value} (h : w.rangeAt g o A) (k : w.rangeAt g (o + A.length) B) : w.rangeAt g o (A ++ B) := fun j u hu => by
  by_cases hj : j < A.length
  · rw [List.getElem?_append_left hj] at hu
    exact h j u hu
  · rw [List.getElem?_append_right (by omega)] at hu
    have := k (j - A.length) u hu
    rwa [show o + A.length + (j - A.length) = o + j by omega] at this
theorem eraseIdx_cells (L : List Sv) (i : Nat) : cellsR cS (L.eraseIdx i) = cellsR cS (L.take i) ++ cellsR cS (L.drop (i + 1)) := by
  rw [List.eraseIdx_eq_take_drop_succ, cellsR_append]
end Go.Proofs.Bl
namespace Go.Proofs.YtglenbikdahgjaaDoor
open Go Go.RowKit Go.Proofs
theorem zeroShL (w : World) : (zeroValue 46).run Tryd.prog w = .ok (.agg Bl.zSh) w := by kernel_rfl

end Go.Proofs.YtglenbikdahgjaaDoor

/- What a trick makes of the shown blocks of a letter apart: plainly. No program. -/
namespace Go.Proofs.Bl
open Go Go.RowKit
/-- what shown hands back -/
def ShR (k at' y : Int) (l : LT) (vp vb : Value) (P B : Nat) (w : World) (e : Ending) (w' : World) : Prop := e = .returned (.tuple #[]) ∧ ∃ vs2 L2, BoxC w' P (cL (bendA k at' y l) vp vs2 vb) ∧ LtF (fun b => B ≤ b) w' (bendA k at' y l) vp vs2 vb L2 ∧ Kq (fun k => k = P ∨ B ≤ k) w w'
theorem set_getD {α : Type} (d : α) (L : List α) (i : Nat) (h : i < L.length) : L.set i (L.getD i d) = L := by
  rw [set_at L i _ h, ← list_at d L i h]
theorem set2S (L : List Sv) (i : Nat) (hi : i < L.length) (a b : Value) (st : List Int) (pa : List (List Int)) : ((cellsR cS L).set (i * 3 + 1) a).set (i * 3 + 2) b = cellsR cS (L.set i ((L.getD i s0).1, (a, st), b, pa)) := by
  rw [cellsR_set cS_len s0 ((L.getD i s0).1, (a, st), (L.getD i s0).2.2.1, pa) a 1 (by decide) L i hi rfl]
  rw [cellsR_set cS_len s0 ((L.getD i s0).1, (a, st), b, pa) b 2 (by decide) _ i (by rw [List.length_set]; exact hi) (by rw [getDF_set s0 _ L i hi]; rfl), List.set_set]
theorem Pk.there {w : World} {base size n g cap m : Nat} {xs : List Value} (h : Pk w base size (.slice (some ⟨g, 0, none⟩) n cap) n xs) (hm : m ≤ n * size) : w.there g 0 m := by
  rcases h with ⟨q, _, _⟩ | ⟨g', cap', hv, hg, hp⟩
  · cases q
  injection hv with hv _ hc
  injection hv with hv
  injection hv with hv
  subst hv hc
  exact fun j hj => hp.th j (by have := Nat.mul_le_mul_right size hp.le; omega)
/-- two shown blocks change their rows -/
def swL (L : List Sv) (i : Nat) : List Sv := (L.set i ((L.getD i s0).1, (L.getD 0 s0).2)).set 0 (((L.set i ((L.getD i s0).1, (L.getD 0 s0).2)).getD 0 s0).1, (L.getD i s0).2)
theorem swL_len (L : List Sv) (i : Nat) : (swL L i).length = L.length := by unfold swL; rw [List.length_set, List.length_set]
theorem swap_cells (L : List Sv) (i : Nat) (h0 : 0 < L.length) (hi : i < L.length) : ((((cellsR cS L).set (i * 3 + 1) (L.getD 0 s0).2.1.1).set 1 (L.getD i s0).2.1.1).set (i * 3 + 2) (L.getD 0 s0).2.2.1).set 2 (L.getD i s0).2.2.1 = cellsR cS (swL L i) := by
  rw [List.set_comm (i := 1) (j := i * 3 + 2) _ _ (by omega), set2S L i hi _ _ (L.getD 0 s0).2.1.2 (L.getD 0 s0).2.2.2]
  have h := set2S (L.set i ((L.getD i s0).1, (L.getD 0 s0).2)) 0 (by rw [List.length_set]; exact h0) (L.getD i s0).2.1.1 (L.getD i s0).2.2.1 (L.getD i s0).2.1.2 (L.getD i s0).2.2.2
  rw [Nat.zero_mul, Nat.zero_add, Nat.zero_add] at h
  exact h
theorem getD_zero_set (L : List Sv) (i : Nat) (y : Sv) (hi : i < L.length) (hy : y.1 = (L.getD i s0).1) : ((L.set i y).getD 0 s0).1 = (L.getD 0 s0).1 := by
  by_cases h : i = 0
  · subst h; rw [getDF_set s0 y L 0 hi, hy]
  · rw [List.getD_eq_getElem?_getD, List.getD_eq_getElem?_getD, List.getElem?_set_ne h]
theorem swap_pl (L : List Sv) (i : Nat) (_h0 : 0 < L.length) (hi : i < L.length) : (swL L i).map plS = swS (L.map plS) i := by
  unfold swL swS
  rw [getD_zero_set L i ((L.getD i s0).1, (L.getD 0 s0).2) hi rfl, List.map_set, List.map_set, plS_getD, plS_getD]
  show ((L.map plS).set i ((plS (L.getD i s0)).1, (plS (L.getD 0 s0)).2)).set 0 ((plS (L.getD 0 s0)).1, (plS (L.getD i s0)).2) = ((L.map plS).set 0 ((plS (L.getD 0 s0)).1, (plS (L.getD i s0)).2)).set i ((plS (L.getD i s0)).1, (plS (L.getD 0 s0)).2)
  by_cases h : i = 0
  · subst h; rfl
  · exact List.set_comm _ _ h
theorem swap_ok {F : Nat → Prop} {w : World} {L : List Sv} {i : Nat} (h0 : 0 < L.length) (hi : i < L.length) (h : ∀ x ∈ L, OkF F w x) : ∀ x ∈ swL L i, OkF F w x := fun x hx => by
  have k0 := h _ (getD_mem s0 h0)
  have ki := h _ (getD_mem s0 hi)
  unfold swL at hx
  rcases List.mem_or_eq_of_mem_set hx with hx | rfl
  · rcases List.mem_or_eq_of_mem_set hx with hx | rfl
    · exact h x hx
    · exact ⟨k0.st, k0.bs, k0.pa, k0.dg⟩
  · exact ⟨ki.st, ki.bs, ki.pa, ki.dg⟩
theorem cellsD_set0 (ds : List (List Int)) (j : Nat) (x : Int) (h : 0 < ds.length) (hd : Dig ds) (hj : j < 32) : (cellsD ds).set j (.int .u8 x) = cellsD (ds.set 0 ((ds.getD 0 []).set j x)) := by
  cases ds with
  | nil => cases h
  | cons d r =>
    have hl := (hd d (by simp)).1
    show (ints .u8 d ++ cellsD r).set j _ = ints .u8 (d.set j x) ++ cellsD r
    rw [List.set_append_left _ _ (by rw [ints_length, hl]; exact hj), ints_set]
theorem EP.putS {m1 m2 b n c j : Nat} {w : World} {p x : Int} {st : List Int} {u2 : Value} {pa : List (List Int)} (h : EP m1 m2 w (p, (.slice (some ⟨b, 0, none⟩) n c, st), u2, pa)) (hn : n = st.length) (hj : j < n) (hx : 0 ≤ x ∧ x ≤ 255) : EP m1 m2 (w.setCell ⟨b, j, none⟩ (.int .u8 x)) (p, (.slice (some ⟨b, 0, none⟩) n c, st.set j x), u2, pa) := by
  have hs := ((Below.refl 0 w).setCell (p := ⟨b, j, none⟩) (Nat.zero_le _) (.int .u8 x)).size
  refine ⟨⟨?_, h.st.2⟩, ⟨h.pa.1.kept (fun k hk => Below.heap_setCell w ⟨b, j, none⟩ _ k (fun q => h.ne b rfl (by have q : k = b := q; rw [← q]; exact hk))) hs, h.pa.2⟩, h.ne, h.bs.setB hx j, h.dg⟩
  have h1 := h.st.1
  simp only at h1
  rw [← hn] at h1
  have h2 := h1.put (j := j) (by rw [ints_length, ← hn]; exact hj) (.int .u8 x)
  rw [ints_set] at h2
  show Pk _ m1 1 _ (st.set j x).length _
  rw [List.length_set, ← hn]
  exact h2
theorem EP.putP {m1 m2 b n c j : Nat} {w : World} {p x : Int} {st : List Int} {u1 : Value} {pa : List (List Int)} (h : EP m1 m2 w (p, (u1, st), .slice (some ⟨b, 0, none⟩) n c, pa)) (hn : n = pa.length) (h0 : 0 < n) (hj : j < 32) (hx : 0 ≤ x ∧ x ≤ 255) : EP m1 m2 (w.setCell ⟨b, j, none⟩ (.int .u8 x)) (p, (u1, st), .slice (some ⟨b, 0, none⟩) n c, pa.set 0 ((pa.getD 0 []).set j x)) := by
  have hs := ((Below.refl 0 w).setCell (p := ⟨b, j, none⟩) (Nat.zero_le _) (.int .u8 x)).size
  have hd : (pa.getD 0 []).length = 32 ∧ Byt (pa.getD 0 []) := h.dg.get (i := 0) (by show 0 < pa.length; omega)
  refine ⟨⟨h.st.1.kept (fun k hk => Below.heap_setCell w ⟨b, j, none⟩ _ k (fun q => h.ne k hk (by have q : k = b := q; rw [q]; rfl))) hs, h.st.2⟩, ⟨?_, h.pa.2⟩, h.ne, h.bs, fun d hd' => ?_⟩
  · have h1 := h.pa.1
    simp only at h1
    rw [← hn] at h1
    have hl := cellsD_length h.dg
    simp only at hl
    have h2 := h1.put (j := j) (by rw [hl]; show j < pa.length * 32; omega) (.int .u8 x)
    rw [cellsD_set0 pa j x (by omega) h.dg hj] at h2
    show Pk _ m1 32 _ (pa.set 0 _).length _
    rw [List.length_set, ← hn]
    exact h2
  · rcases List.mem_or_eq_of_mem_set hd' with q | rfl
    · exact h.dg d q
    · exact ⟨by rw [List.length_set]; exact hd.1, hd.2.setB hx j⟩
end Go.Proofs.Bl

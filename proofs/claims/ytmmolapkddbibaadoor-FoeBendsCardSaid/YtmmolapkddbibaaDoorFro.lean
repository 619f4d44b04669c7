/- A row that its owner may have cut at its end: the slice's room is not its block's. It is read, and it grows: in place, or anew. A frontier's cells. -/
import Derived.Test.YtmmolapkddbibaaDoorLib0
import Derived.ArgAppend
import Derived.Deep.Upon
namespace Go.Proofs.Bl
open Go Go.RowKit
/-- n rows of 'size' cells in the block g, and room for cap -/
structure PkB (w : World) (g size n cap : Nat) (xs : List Value) : Prop where
  le : n ≤ cap
  mx : cap ≤ maxLen
  len : xs.length = n * size
  rg : w.rangeAt g 0 xs
  th : w.there g 0 (cap * size)
  lt : g < w.heap.size
def Pk (w : World) (base size : Nat) (v : Value) (n : Nat) (xs : List Value) : Prop :=
  (v = .slice none 0 0 ∧ n = 0 ∧ xs = []) ∨ ∃ g cap, v = .slice (some ⟨g, 0, none⟩) n cap ∧ base ≤ g ∧ PkB w g size n cap xs
theorem Pk.nil (w : World) (base size : Nat) : Pk w base size (.slice none 0 0) 0 [] := .inl ⟨rfl, rfl, rfl⟩
theorem Pk.of_owns {w : World} {base e size n : Nat} {v : Value} {xs : List Value} (h : w.ownsRow base e size v n xs) : Pk w base size v n xs := by
  have h2 := h
  obtain ⟨h0, h1⟩ := h
  rcases h1 with ⟨rfl, h1⟩ | ⟨g, cap, cur, rfl, hg, hh, hc, hm, hs, hx⟩
  · subst h1
    rw [Nat.zero_mul] at h0
    exact .inl ⟨rfl, rfl, List.length_eq_zero_iff.1 h0⟩
  · refine .inr ⟨g, cap, rfl, hg, hc, hm, h0, fun j u hu => ?_, fun j hj => ?_, (h2.lt g rfl).2⟩
    · have := h2.cells (g := g) rfl j u hu
      rw [Addr.add_mid] at this
      exact this
    · have hj2 : j < cur.size := by rw [hs]; exact hj
      simp [World.cell?, World.frozen?, hh, hj2]
theorem Pk.rds {w : World} {base size n : Nat} {v : Value} {xs : List Value} (h : Pk w base size v n xs) : Rds w v n xs := by
  rcases h with ⟨rfl, rfl, rfl⟩ | ⟨g, cap, rfl, _, hp⟩
  · exact Rds.nil w
  · exact .inr ⟨g, 0, cap, rfl, hp.le, hp.mx, hp.rg⟩
theorem Pk.block {w : World} {base size n : Nat} {v : Value} {xs : List Value} (h : Pk w base size v n xs) : ∀ k, v.ownBlock = some k → base ≤ k ∧ k < w.heap.size := by
  rcases h with ⟨rfl, _, _⟩ | ⟨g, cap, rfl, hg, hp⟩
  · intro k hk; cases hk
  · intro k hk
    simp only [Value.ownBlock, Option.some.injEq] at hk
    subst hk
    exact ⟨hg, hp.lt⟩
theorem Pk.kept {w w' : World} {base size n : Nat} {v : Value} {xs : List Value} (h : Pk w base size v n xs) (hk : ∀ k, v.ownBlock = some k → w'.heap[k]? = w.heap[k]?) (hs : w.heap.size ≤ w'.heap.size) : Pk w' base size v n xs := by
  rcases h with h | ⟨g, cap, rfl, hg, hp⟩
  · exact .inl h
  · have hb := hk g rfl
    refine .inr ⟨g, cap, rfl, hg, hp.le, hp.mx, hp.len, fun j u hu => ?_, fun j hj => ?_, Nat.lt_of_lt_of_le hp.lt hs⟩
    · rw [World.cell?_of_block (w := w) hb]; exact hp.rg j u hu
    · rw [World.cell?_of_block (w := w) hb, World.frozen?_of_block (w := w) hb]; exact hp.th j hj
theorem Pk.ext {w w' : World} {base size n : Nat} {v : Value} {xs : List Value} (h : Pk w base size v n xs) (hb : Ext w w') : Pk w' base size v n xs :=
  h.kept (fun k hk => hb.block k (h.block k hk).2) hb.size
theorem Pk.mono {w : World} {base base' size n : Nat} {v : Value} {xs : List Value} (h : Pk w base size v n xs) (hb : base' ≤ base) : Pk w base' size v n xs := by
  rcases h with h | ⟨g, cap, rfl, hg, hp⟩
  · exact .inl h
  · exact .inr ⟨g, cap, rfl, Nat.le_trans hb hg, hp⟩
/-- cut at k: all its room is then taken -/
theorem Pk.cut {w : World} {base size n c : Nat} {p : Option Addr} {xs : List Value} (h : Pk w base size (.slice p n c) n xs) (k : Nat) (hk : k ≤ n) : Pk w base size (.slice p k k) k (xs.take (k * size)) := by
  rcases h with ⟨hv, rfl, rfl⟩ | ⟨g, cap, hv, hg, hp⟩
  · injection hv with hv _ _
    subst hv
    obtain rfl : k = 0 := by omega
    exact .inl ⟨rfl, rfl, by simp⟩
  · injection hv with hv _ hc
    subst hv
    have hle := hp.le
    have hmx := hp.mx
    have hks : k * size ≤ n * size := Nat.mul_le_mul_right _ hk
    have hcs : k * size ≤ cap * size := Nat.mul_le_mul_right _ (by omega)
    refine .inr ⟨g, k, rfl, hg, Nat.le_refl _, by omega, by rw [List.length_take, hp.len]; omega, rangeAt_take hp.rg _, fun j hj => hp.th j (by omega), hp.lt⟩
section
variable {P : Program}
/-- append to such a row -/
theorem wpL_appPk {ops : Array Oper} {rest : List Oper} {a : Act} {w : World} {Q : Exit → Act → World → Prop} {d : Option Tmp} {tt t e : TypeId} {pp : String} {af : Array Edge} {s x : Operand} {v z : Value} {base size bytes n m c b o : Nat} {xs news : List Value}
    (hT : SlT P t e z size bytes) (hown : Pk w base size v n xs) (hnews : w.rangeAt b o news) (hl : news.length = m * size) (h1 : ∀ u ∈ news, u.oneCell' = true) (hm : 0 < m)
    (hlen : n + m ≤ maxLen) (hbytes : (n + m) * bytes ≤ 140737488355328) (hbase : base ≤ w.heap.size)
    (hs : a.eval s = v) (hx : a.eval x = .slice (some ⟨b, o, none⟩) m c)
    (h : ∀ v' w', Pk w' base size v' (n + m) (xs ++ news) → w.grownBy w' v.ownBlock → (∀ k, v'.ownBlock = some k → v.ownBlock = some k ∨ w.heap.size ≤ k) → wpList P ops Q rest (a.put d v') w') :
    wpList P ops Q (⟨d, .call { callee := .builtin .append, args := #[s, x], argTypes := #[t, t] }, tt, pp, af, none⟩ :: rest) a w := by
  obtain ⟨i, hi, hz, hs1, hb1⟩ := info_parts hT.info
  have hc : ∀ j u, news[j]? = some u → w.cell? ((⟨b, o, none⟩ : Addr).add j) = some u := fun j u hj => by rw [Addr.add_mid]; exact hnews j u hj
  rcases hown with ⟨rfl, rfl, rfl⟩ | ⟨g, cap, rfl, hg, hp⟩
  · refine wpList_append_grows w rfl s x t rfl e i z size bytes hT.ht hi hz hs1 hb1 hT.hz hT.pos none 0 0 [] hs (fun _ => ⟨rfl, rfl⟩) (by simp) (fun b hb => by cases hb) ⟨b, o, none⟩ m c news hx hl hc h1 (by omega) hlen hbytes ?_
    intro v' w' h2 h3
    refine h v' w' (Pk.of_owns (owns_mono h2 hbase)) h3 fun k hk => .inr (h2.lt k hk).1
  · have hps := hp.len
    refine wpList_append_arg w rfl s x t rfl e i z size bytes hT.ht hi hz hs1 hb1 hT.hz hT.pos g 0 n cap xs hs hp.len (fun j u hj => hp.rg j u hj) ⟨b, o, none⟩ m c news hx hl hc h1 (fun hr j hj => ?_) hlen hbytes (fun hr => ?_) (fun hr v' w' h2 h3 => ?_)
    · have hroom : (n + m) * size ≤ cap * size := Nat.mul_le_mul_right _ hr
      rw [Nat.add_mul] at hroom
      have := hp.th (n * size + j) (by omega)
      rw [← Nat.add_assoc] at this
      exact this
    · have hroom : (n + m) * size ≤ cap * size := Nat.mul_le_mul_right _ hr
      rw [Nat.add_mul] at hroom
      have hth : w.there g (0 + n * size) news.length := fun j hj => by
        have := hp.th (n * size + j) (by omega)
        rw [← Nat.add_assoc] at this
        exact this
      have hB := below_setCells news g (0 + n * size) w (Below.refl 0 w) (Nat.zero_le _)
      refine h _ _ (.inr ⟨g, cap, rfl, hg, hr, hp.mx, by rw [List.length_append, hp.len, hl, Nat.add_mul], ?_, World.there_setCells hp.th _ _ _, Nat.lt_of_lt_of_le hp.lt hB.size⟩) ⟨hB.os, hB.tape, hB.output, hB.size, fun k hk hne => World.heap_setCells_other w g _ news hk (fun q => hne (by rw [q]; rfl))⟩ (fun k hk => .inl hk)
      intro j u hu
      by_cases hj : j < xs.length
      · rw [List.getElem?_append_left hj] at hu
        exact World.rangeAt_setCells_apart hp.rg g (0 + n * size) news (.inr (.inl (by rw [hp.len]; omega))) j u hu
      · rw [List.getElem?_append_right (by omega)] at hu
        have := World.rangeAt_setCells_same w g (0 + n * size) news hth (j - xs.length) u hu
        rw [show 0 + n * size + (j - xs.length) = 0 + j by omega] at this
        exact this
    · exact h v' w' (Pk.of_owns (owns_mono h2 hbase)) ⟨h3.os, h3.tape, h3.output, h3.size, fun k hk _ => h3.block k hk (by simp)⟩ fun k hk => .inr (h2.lt k hk).1
end
/-- a frontier in the block b: how many leaves, and its peaks -/
structure Fr (w : World) (b : Nat) (v : Value) (n : Nat) (ds : List (List Int)) : Prop where
  c0 : w.cell? ⟨b, 0, none⟩ = some (.int .i64 n)
  c1 : w.cell? ⟨b, 1, none⟩ = some v
  f0 : w.frozen? ⟨b, 0, none⟩ = false
  f1 : w.frozen? ⟨b, 1, none⟩ = false
  pk : Pk w 0 32 v ds.length (cellsD ds)
  dig : Dig ds
  ne : v.ownBlock ≠ some b
theorem Fr.lt {w : World} {b : Nat} {v : Value} {n : Nat} {ds : List (List Int)} (h : Fr w b v n ds) : b < w.heap.size := World.block_lt_of_cell? _ _ h.c0
theorem Fr.kept {w w' : World} {b : Nat} {v : Value} {n : Nat} {ds : List (List Int)} (h : Fr w b v n ds) (hb : w'.heap[b]? = w.heap[b]?) (hk : ∀ k, v.ownBlock = some k → w'.heap[k]? = w.heap[k]?) (hs : w.heap.size ≤ w'.heap.size) : Fr w' b v n ds :=
  ⟨by rw [World.cell?_of_block (w := w) hb]; exact h.c0, by rw [World.cell?_of_block (w := w) hb]; exact h.c1, by rw [World.frozen?_of_block (w := w) hb]; exact h.f0, by rw [World.frozen?_of_block (w := w) hb]; exact h.f1, h.pk.kept hk hs, h.dig, h.ne⟩
theorem Fr.ext {w w' : World} {b : Nat} {v : Value} {n : Nat} {ds : List (List Int)} (h : Fr w b v n ds) (hE : Ext w w') : Fr w' b v n ds :=
  h.kept (hE.block b h.lt) (fun k hk => hE.block k (h.pk.block k hk).2) hE.size
/-- what a frontier's Add may change: its own block, and its peaks' -/
structure Adds (w w' : World) (b : Nat) (r : Option Nat) : Prop where
  os : w'.os = w.os
  tape : w'.tape = w.tape
  output : w'.output = w.output
  size : w.heap.size ≤ w'.heap.size
  block : ∀ k, k < w.heap.size → k ≠ b → some k ≠ r → w'.heap[k]? = w.heap[k]?
theorem Adds.below {w w' : World} {b : Nat} {r : Option Nat} (h : Adds w w' b r) {B : Nat} (hB : B ≤ w.heap.size) (hb : B ≤ b) (hr : ∀ k, r = some k → B ≤ k) : Below B w w' :=
  ⟨h.os, h.tape, h.output, h.size, fun k hk => h.block k (by omega) (by omega) (fun q => by have := hr k q.symm; omega)⟩
theorem Fr.adds {w w' : World} {b g : Nat} {v : Value} {r : Option Nat} {n : Nat} {ds : List (List Int)} (h : Fr w b v n ds) (k : Adds w w' g r) (hg : b ≠ g) (hr : some b ≠ r) (hv : v.ownBlock ≠ some g) (hvr : ∀ j, v.ownBlock = some j → some j ≠ r) : Fr w' b v n ds :=
  h.kept (k.block b h.lt hg hr) (fun j hj => k.block j (h.pk.block j hj).2 (fun q => hv (by rw [hj, q])) (hvr j hj)) k.size
end Go.Proofs.Bl

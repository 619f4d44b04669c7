/- Texts that stood apart, in one: LP1, LP2, LP3. -/
import Derived.Test.YtglenbikdahgjaaDoorLtp
import Derived.Test.YtglenbikdahgjaaDoorBA1
import Derived.Laws.BitsLemmas
import Derived.Test.YtglenbikdahgjaaDoorLet2b
/- Walks of the reader of a letter's fields: take, number. -/
namespace Go.Proofs.Bl
open Go Go.RowKit
theorem ints_take' (k : IntKind) (l : List Int) (n : Nat) : (ints k l).take n = ints k (l.take n) := by simp [ints, List.map_take]
theorem ints_drop' (k : IntKind) (l : List Int) (n : Nat) : (ints k l).drop n = ints k (l.drop n) := by simp [ints, List.map_drop]
theorem Rdr.pos {w : World} {X : Nat} {sh : Bool} {b : List Int} (h : Rdr w X (sh, b)) (h0 : 0 < b.length) : ∃ g o c, BoxC w X [.slice (some ⟨g, o, none⟩) b.length c, .bool sh] ∧ w.rangeAt g o (ints .u8 b) ∧ g < X ∧ b.length ≤ c ∧ c ≤ maxLen := by
  obtain ⟨p, c, h1, h2, h3, h4⟩ := h.ex
  rcases h2 with ⟨_, h5, _⟩ | ⟨g, o, c', h5, h6, h7, h8, h9⟩
  · simp only at h5; omega
  · simp only at h5
    injection h5 with e1 e2 e3
    subst e1 e3
    refine ⟨g, o, c, h1, h8, h9 (fun q => ?_), h3, h4⟩
    have h10 := congrArg List.length q
    rw [ints_length] at h10
    have h10 : b.length = 0 := h10
    omega
theorem Rdr.next {w : World} {X n g o c : Nat} {b : List Int} (hB : BoxC w X [.slice (some ⟨g, o + n, none⟩) (b.length - n) (c - n), .bool false]) (hr : w.rangeAt g o (ints .u8 b)) (hg : g < X) (hn : n ≤ b.length) (hc : b.length ≤ c) (hm : c ≤ maxLen) (hby : Byt b) (hl : b.length ≤ 9000) : Rdr w X (false, b.drop n) := by
  have h1 := rangeAt_drop hr n
  rw [ints_drop'] at h1
  refine ⟨⟨some ⟨g, o + n, none⟩, c - n, ?_, ?_, ?_, ?_⟩, hby.drop n, ?_⟩
  · simp only [List.length_drop]; exact hB
  · simp only [List.length_drop]; exact .inr ⟨g, o + n, c - n, rfl, by omega, by omega, h1, fun _ => hg⟩
  · simp only [List.length_drop]; omega
  · omega
  · simp only [List.length_drop]; omega
theorem Rdr.next0 {w : World} {X n : Nat} {p : Option Addr} {b : List Int} (hB : BoxC w X [.slice p (b.length - n) 0, .bool false]) (hn : b.length = n) : Rdr w X (false, b.drop n) := by
  have e : b.drop n = [] := List.drop_of_length_le (by omega)
  rw [e]
  rw [hn, Nat.sub_self] at hB
  exact ⟨⟨p, 0, hB, .inl ⟨⟨p, rfl⟩, rfl, rfl⟩, Nat.le_refl _, Nat.zero_le _⟩, Byt.nil, Nat.zero_le _⟩
theorem Rdr.stop {w w' : World} {X : Nat} {sh : Bool} {b : List Int} (h : Rdr w X (sh, b)) (k : Kq (fun i => i = X) w w') (hB : ∀ v, BoxC w X [v, .bool sh] → BoxC w' X [v, .bool true]) : Rdr w' X (true, b) := by
  obtain ⟨p, c, h1, h2, h3⟩ := h.ex
  exact ⟨⟨p, c, hB _ h1, h2.kept fun i hi hl => ⟨hi, k.block i hl (fun q => by omega)⟩, h3⟩, h.by', h.le⟩
theorem tkT_ok {n : Nat} {b : List Int} (h : n ≤ b.length) : tkT n (false, b) = (b.take n, (false, b.drop n)) := if_pos ⟨rfl, h⟩
theorem tkT_no {n : Nat} {sh : Bool} {b : List Int} (h : ¬ (sh = false ∧ n ≤ b.length)) : tkT n (sh, b) = ([], (true, b)) := if_neg h
theorem SlB.nil (w : World) : SlB w (.slice none 0 0) [] := ⟨none, 0, rfl, Rd.nil _ _⟩
theorem wr63 (n : Int) (h0 : 0 ≤ n) (h1 : n < 2 ^ 63) : IntKind.i64.wrap n = n := by rw [IntKind.wrap_i64]; omega
theorem or8 {n c : Int} (h0 : 0 ≤ n) (h1 : n ≤ 2199023255552) (hc : 0 ≤ c ∧ c ≤ 255) : bits .or .i64 (n * 256) c = n * 256 + c :=
  bits_join .i64 63 (by decide) wr63 8 (n * 256) c (by omega) (by omega) (by omega) hc.1 (by omega) (by omega)
end Go.Proofs.Bl
namespace Go.Proofs.YtglenbikdahgjaaDoor
open Go Go.RowKit Go.Proofs

end Go.Proofs.YtglenbikdahgjaaDoor

/- Walks of the closures of reader.rest that append what is read, and of reader.each for each closure. -/
namespace Go.Proofs.YtglenbikdahgjaaDoor
open Go Go.RowKit Go.Proofs
theorem tBB : Bl.SlT Tryd.prog 24 43 (.slice none 0 0) 1 24 := ⟨Tryd.underlying24, by kernel_rfl, rfl, by decide⟩
theorem tII : Bl.SlT Tryd.prog 22 3 (.int .i64 0) 1 8 := ⟨Tryd.underlying22, by kernel_rfl, rfl, by decide⟩

end Go.Proofs.YtglenbikdahgjaaDoor

/- Walks of the closure of reader.shown, and of reader.shown. -/
namespace Go.Proofs.Bl
open Go Go.RowKit
theorem goodX_bldS {R : World → World → Prop} (hr : ∀ w, R w w) {P : Program} {ev : Nat → Value} {w : World} {φ : Value → World → Prop} {d : Option Tmp} {tt ty : TypeId} {pp : String} {af : Array Edge} {g : Option (Nat × Bool)} {i j : Nat} {x y : Operand} {vx vy v : Value} (hx : evalE ev x = vx) (hy : evalE ev y = vy) (hb : (Instr.build ty #[(i, vx), (j, vy)]).run P w = .ok v w) (hφ : φ v w) :
    GoodX R P w φ ((execOp (evalE ev) ⟨d, .build ty #[(i, x), (j, y)], tt, pp, af, g⟩).run P w) := by
  unfold execOp
  simp only [hx, hy, List.map_toArray, List.map_cons, List.map_nil, Sem.run_bind, Sem.run_pure, hb, Result.andThen_ok]
  exact ⟨hr _, hφ⟩
/-- where a path's digest stands -/
def P0 (B X D : Nat) (cs : List Value) (vr : Value) (M : List (List Int)) (s : Rst) (g o : Nat) (y : List Int) (w : World) : Prop := C0 (ints .u8) 32 OkT B X D 2 cs vr M s w ∧ w.rangeAt g o (ints .u8 y)
theorem P0.r {B X D : Nat} {cs : List Value} {vr : Value} {M : List (List Int)} {s : Rst} {g o : Nat} {y : List Int} {w : World} (h : P0 B X D cs vr M s g o y w) : w.rangeAt g o (ints .u8 y) := h.2
theorem P0.c {B X D : Nat} {cs : List Value} {vr : Value} {M : List (List Int)} {s : Rst} {g o : Nat} {y : List Int} {w : World} (h : P0 B X D cs vr M s g o y w) : C0 (ints .u8) 32 OkT B X D 2 cs vr M s w := h.1
theorem paT_nil {s : Rst} (h : (tkT 32 s).1 = []) : paT s = ([], (tkT 32 s).2) := by unfold paT; rw [if_pos h]
theorem paT_one {s : Rst} (h : (tkT 32 s).1 ≠ []) : paT s = ([(tkT 32 s).1], (tkT 32 s).2) := by unfold paT; rw [if_neg h]
theorem tk_32 {n : Nat} {s : Rst} (h : (tkT n s).1 ≠ []) : (tkT n s).1.length = n := by
  unfold tkT at h ⊢
  split
  · next h2 => simp only [List.length_take]; omega
  · next h2 => rw [if_neg h2] at h; exact absurd rfl h
theorem cells_agg (l : List Value) : (Value.agg l.toArray).cells = l.toArray := rfl
/-- the first two fields of a shown block are read, and its variable is made -/
structure JS (z : List Value) (X W : Nat) (s s1 s2 : Rst) (p : Int) (st : List Int) (d : Nat → Bool) (u : Nat → Value) (w : World) : Prop where
  le : W ≤ w.heap.size
  hX : X < W
  a : d 1 = false → Rdr w X s
  b : d 1 = true → u 5 = .int .i64 p
  c : d 1 = true → d 3 = false → Rdr w X s1
  e : d 3 = true → Rdr w X s2 ∧ SlB w (u 7) st ∧ ∀ k, (u 7).ownBlock = some k → W ≤ k ∧ k < w.heap.size
  f : d 5 = true → ∃ D, u 3 = .pointer (some ⟨D, 0, none⟩) ∧ BoxC w D z ∧ W ≤ D ∧ (d 3 = true → (u 7).ownBlock ≠ some D)
  g : d 4 = true → d 3 = true ∧ u 8 = .agg #[.int .i64 p, u 7, .slice none 0 0]
section
variable {z : List Value} {X W : Nat} {s s1 s2 : Rst} {p : Int} {st : List Int} {d : Nat → Bool} {u : Nat → Value} {w w' : World}
theorem JS.start (h : Rdr w X s) (hw : W ≤ w.heap.size) (hX : X < W) : JS z X W s s1 s2 p st (fun _ => false) u w := ⟨hw, hX, fun _ => h, fun q => (by cases q), fun q => (by cases q), fun q => (by cases q), fun q => (by cases q), fun q => (by cases q)⟩
theorem JS.same {i t : Nat} {v : Value} (h : JS z X W s s1 s2 p st d u w) (hi : (decide (i = 1) || decide (i = 3) || decide (i = 4) || decide (i = 5) || decide (t = 5) || decide (t = 7) || decide (t = 3) || decide (t = 8)) = false) : JS z X W s s1 s2 p st (upd d i) (updv (some t) u v) w := by
  simp only [Bool.or_eq_false_iff, decide_eq_false_iff_not] at hi
  obtain ⟨⟨⟨⟨⟨⟨⟨h1, h2⟩, h3⟩, h4⟩, h5⟩, h6⟩, h7⟩, h8⟩ := hi
  have a1 : upd d i 1 = d 1 := if_neg (fun e => h1 e.symm)
  have a3 : upd d i 3 = d 3 := if_neg (fun e => h2 e.symm)
  have a4 : upd d i 4 = d 4 := if_neg (fun e => h3 e.symm)
  have a5 : upd d i 5 = d 5 := if_neg (fun e => h4 e.symm)
  have b5 : updv (some t) u v 5 = u 5 := if_neg (fun e => h5 e.symm)
  have b7 : updv (some t) u v 7 = u 7 := if_neg (fun e => h6 e.symm)
  have b3 : updv (some t) u v 3 = u 3 := if_neg (fun e => h7 e.symm)
  have b8 : updv (some t) u v 8 = u 8 := if_neg (fun e => h8 e.symm)
  exact ⟨h.le, h.hX, by rw [a1]; exact h.a, by rw [a1, b5]; exact h.b, by rw [a1, a3]; exact h.c, by rw [a3, b7]; exact h.e, by rw [a5, b3, a3, b7]; exact h.f, by rw [a4, a3, b8, b7]; exact h.g⟩
theorem JS.num (h : JS z X W s s1 s2 p st d u w) (h3 : d 3 = false) (h4 : d 4 = false) (hR : Rdr w' X s1) (hK : Kq (fun k => k = X) w w') : JS z X W s s1 s2 p st (upd d 1) (updv (some 5) u (.int .i64 p)) w' := by
  refine ⟨Nat.le_trans h.le hK.size, h.hX, fun q => (by cases q), fun _ => rfl, fun _ _ => hR, fun q => ?_, fun q => ?_, fun q => ?_⟩
  · have : d 3 = true := q
    rw [h3] at this; cases this
  · obtain ⟨D, h1, h2, h5, h6⟩ := h.f q
    exact ⟨D, h1, hK.box (fun e => by have := h.hX; omega) h2, h5, h6⟩
  · have : d 4 = true := q
    rw [h4] at this; cases this
theorem JS.take {v : Value} (h : JS z X W s s1 s2 p st d u w) (h4 : d 4 = false) (hR : Rdr w' X s2) (hS : SlB w' v st) (hv : ∀ k, v.ownBlock = some k → w.heap.size ≤ k ∧ k < w'.heap.size) (hK : Kq (fun k => k = X) w w') (h1 : d 1 = true) : JS z X W s s1 s2 p st (upd d 3) (updv (some 7) u v) w' := by
  refine ⟨Nat.le_trans h.le hK.size, h.hX, fun q => ?_, h.b, fun _ q => (by cases q), fun _ => ⟨hR, hS, fun k hk => ⟨Nat.le_trans h.le (hv k hk).1, (hv k hk).2⟩⟩, fun q => ?_, fun q => ?_⟩
  · have : d 1 = false := q
    rw [h1] at this; cases this
  · obtain ⟨D, e1, e2, e5, e6⟩ := h.f q
    exact ⟨D, e1, hK.box (fun e => by have := h.hX; omega) e2, e5, fun _ q => by have := (hv D q).1; have := e2.lt; omega⟩
  · have : d 4 = true := q
    rw [h4] at this; cases this
theorem JS.bld (h : JS z X W s s1 s2 p st d u w) (h3 : d 3 = true) {v : Value} (hv : v = .agg #[.int .i64 p, u 7, .slice none 0 0]) : JS z X W s s1 s2 p st (upd d 4) (updv (some 8) u v) w :=
  ⟨h.le, h.hX, h.a, h.b, h.c, h.e, h.f, fun _ => ⟨h3, hv⟩⟩
theorem JS.make (h : JS z X W s s1 s2 p st d u w) (e : TypeId) (hz : z ≠ []) : JS z X W s s1 s2 p st (upd d 5) (updv (some 3) u (.pointer (some ⟨w.heap.size, 0, none⟩))) (w.alloc (.cells z.toArray e)) := by
  have hE := ext_alloc w (.cells z.toArray e)
  have hs : w.heap.size < (w.alloc (.cells z.toArray e)).heap.size := by rw [World.size_alloc]; omega
  refine ⟨Nat.le_trans h.le hE.size, h.hX, fun q => (h.a q).ext hE, h.b, fun q q2 => (h.c q q2).ext hE, fun q => ?_, fun _ => ⟨w.heap.size, rfl, BoxC.box w e hz, h.le, fun q r => ?_⟩, h.g⟩
  · obtain ⟨e1, e2, e3⟩ := h.e q
    exact ⟨e1.ext hE, e2.ext hE, fun k hk => ⟨(e3 k hk).1, by have := (e3 k hk).2; omega⟩⟩
  · have := ((h.e q).2.2 _ r).2
    omega
end
end Go.Proofs.Bl
namespace Go.Proofs.YtglenbikdahgjaaDoor
open Go Go.RowKit Go.Proofs

theorem buildShown (p : Int) (q : Option Addr) (n c : Nat) (w : World) : (Instr.build 46 #[(0, .int .i64 p), (1, .slice q n c)]).run Tryd.prog w = .ok (.agg #[.int .i64 p, .slice q n c, .slice none 0 0]) w := run_build w _ _ _ (by kernel_rfl)

end Go.Proofs.YtglenbikdahgjaaDoor

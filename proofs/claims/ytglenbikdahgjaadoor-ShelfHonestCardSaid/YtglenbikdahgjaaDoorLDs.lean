/- Texts that stood apart, in one: LetF, LD1. -/
import Derived.Test.YtglenbikdahgjaaDoorLtp
import Derived.Test.YtglenbikdahgjaaDoorLpc
import Derived.Test.YtglenbikdahgjaaDoorLib0
import Derived.BigQuiet
/- The letter of bytes, as the document's cursor goes; that this is what is parsed; the cursor. No program. -/
namespace Go.Proofs.Bl
open Go Go.RowKit
/-- so many bytes; zeros where they are too few -/
def tkF (n : Nat) (s : Rst) : List Int × Rst := if s.1 = false ∧ n ≤ s.2.length then (s.2.take n, (false, s.2.drop n)) else (List.replicate n 0, (true, s.2))
def nuF (n : Nat) (s : Rst) : Int × Rst := (numR (tkF n s).1, (tkF n s).2)
def blF (s : Rst) : List (List Int) × Rst := ([(tkF 16 s).1], (tkF 16 s).2)
def plF (s : Rst) : List Int × Rst := ([(nuF 2 s).1], (nuF 2 s).2)
def paF (s : Rst) : List (List Int) × Rst := ([(tkF 32 s).1], (tkF 32 s).2)
def shF (s : Rst) : Sh × Rst :=
  (((nuF 2 s).1, (tkF 16 (nuF 2 s).2).1, (eaT paF (nuF 1 (tkF 16 (nuF 2 s).2).2).1.toNat (nuF 1 (tkF 16 (nuF 2 s).2).2).2).1), (eaT paF (nuF 1 (tkF 16 (nuF 2 s).2).2).1.toNat (nuF 1 (tkF 16 (nuF 2 s).2).2).2).2)
def ssF (s : Rst) : List Sh × Rst := ([(shF s).1], (shF s).2)
def rsF (k i o : Int) (s : Rst) : LT × Rst :=
  if k = 6 then (⟨k, i, o, [], [], (nuF 2 s).1, 0, (eaT blF (nuF 2 (nuF 2 s).2).1.toNat (nuF 2 (nuF 2 s).2).2).1, 0⟩, (eaT blF (nuF 2 (nuF 2 s).2).1.toNat (nuF 2 (nuF 2 s).2).2).2)
  else if k = 1 then (⟨k, i, o, [], [], 0, 0, (eaT blF (nuF 2 s).1.toNat (nuF 2 s).2).1, 0⟩, (eaT blF (nuF 2 s).1.toNat (nuF 2 s).2).2)
  else if k = 3 then (⟨k, i, o, (eaT plF (nuF 1 s).1.toNat (nuF 1 s).2).1, [], 0, 0, [], 0⟩, (eaT plF (nuF 1 s).1.toNat (nuF 1 s).2).2)
  else if k = 4 then (⟨k, i, o, [], (eaT ssF (nuF 1 s).1.toNat (nuF 1 s).2).1, 0, 0, [], 0⟩, (eaT ssF (nuF 1 s).1.toNat (nuF 1 s).2).2)
  else if k = 5 then (⟨k, i, o, [], [], (nuF 2 s).1, (nuF 2 (nuF 2 s).2).1, [], 0⟩, (nuF 2 (nuF 2 s).2).2)
  else if k = 7 then (⟨k, i, o, [], [], 0, 0, [], (nuF 1 s).1⟩, (nuF 1 s).2)
  else (⟨k, i, o, [], [], 0, 0, [], 0⟩, s)
theorem brF_tk (n : Nat) : Br (tkB n) (tkF n) := by
  refine ⟨fun b => by unfold Bl.tkF; simp, fun b => ?_⟩
  unfold tkB Bl.tkF
  by_cases h : n ≤ b.length
  · rw [if_pos h]; simp [h]
  · rw [if_neg h]; simp [h]
theorem brF_nu (n : Nat) : Br (rdN n) (nuF n) := by
  refine ⟨fun b => (brF_tk n).1 b, fun b => ?_⟩
  unfold rdN Bl.nuF
  cases h : tkB n b with
  | none => exact (brF_tk n).no h
  | some y =>
    obtain ⟨x, r⟩ := y
    rw [bnd_some]
    simp only [(brF_tk n).val h]
theorem brF_pa : ∀ n, Br (Bl.rep (tkB 32) n) (eaT paF n) :=
  Br.reps (fun b => (brF_tk 32).1 b) (fun b x r e => by
    have h := (brF_tk 32).val e
    unfold Bl.paF
    rw [h]) (fun b e => (brF_tk 32).no e)
theorem brF_sh : Br shP shF := (brF_nu 2).bind (F := fun p r => bnd (tkB 16 r) fun st r => bnd (rdN 1 r) fun c r => bnd (Bl.rep (tkB 32) c.toNat r) fun ds r => Option.some ((p, st, ds), r)) (G := fun p s => ((p, (tkF 16 s).1, (eaT paF (nuF 1 (tkF 16 s).2).1.toNat (nuF 1 (tkF 16 s).2).2).1), (eaT paF (nuF 1 (tkF 16 s).2).1.toNat (nuF 1 (tkF 16 s).2).2).2)) fun p =>
  (brF_tk 16).bind (F := fun st r => bnd (rdN 1 r) fun c r => bnd (Bl.rep (tkB 32) c.toNat r) fun ds r => Option.some ((p, st, ds), r)) (G := fun st s => ((p, st, (eaT paF (nuF 1 s).1.toNat (nuF 1 s).2).1), (eaT paF (nuF 1 s).1.toNat (nuF 1 s).2).2)) fun st =>
  (brF_nu 1).bind (F := fun c r => bnd (Bl.rep (tkB 32) c.toNat r) fun ds r => Option.some ((p, st, ds), r)) (G := fun c s => ((p, st, (eaT paF c.toNat s).1), (eaT paF c.toNat s).2)) fun c =>
  (brF_pa c.toNat).bind (F := fun ds r => Option.some ((p, st, ds), r)) (G := fun ds s => ((p, st, ds), s)) fun _ => Br.ret _
theorem brF_rs (k i o : Int) : Br (rstP k i o) (rsF k i o) := by
  unfold rstP rsF
  by_cases k6 : k = 6
  · simp only [if_pos k6]
    exact (brF_nu 2).bind (F := fun f r => bnd (rdN 2 r) fun n r => bnd (Bl.rep (tkB 16) n.toNat r) fun bs r => Option.some ((⟨k, i, o, [], [], f, 0, bs, 0⟩ : LT), r)) (G := fun f s => (⟨k, i, o, [], [], f, 0, (eaT blF (nuF 2 s).1.toNat (nuF 2 s).2).1, 0⟩, (eaT blF (nuF 2 s).1.toNat (nuF 2 s).2).2)) fun f =>
      (brF_nu 2).bind (F := fun n r => bnd (Bl.rep (tkB 16) n.toNat r) fun bs r => Option.some ((⟨k, i, o, [], [], f, 0, bs, 0⟩ : LT), r)) (G := fun n s => (⟨k, i, o, [], [], f, 0, (eaT blF n.toNat s).1, 0⟩, (eaT blF n.toNat s).2)) fun n =>
      ((brF_tk 16).one n.toNat).bind (F := fun bs r => Option.some ((⟨k, i, o, [], [], f, 0, bs, 0⟩ : LT), r)) (G := fun bs s => (⟨k, i, o, [], [], f, 0, bs, 0⟩, s)) fun _ => Br.ret _
  simp only [if_neg k6]
  by_cases k1 : k = 1
  · simp only [if_pos k1]
    exact (brF_nu 2).bind (F := fun n r => bnd (Bl.rep (tkB 16) n.toNat r) fun bs r => Option.some ((⟨k, i, o, [], [], 0, 0, bs, 0⟩ : LT), r)) (G := fun n s => (⟨k, i, o, [], [], 0, 0, (eaT blF n.toNat s).1, 0⟩, (eaT blF n.toNat s).2)) fun n =>
      ((brF_tk 16).one n.toNat).bind (F := fun bs r => Option.some ((⟨k, i, o, [], [], 0, 0, bs, 0⟩ : LT), r)) (G := fun bs s => (⟨k, i, o, [], [], 0, 0, bs, 0⟩, s)) fun _ => Br.ret _
  simp only [if_neg k1]
  by_cases k3 : k = 3
  · simp only [if_pos k3]
    exact (brF_nu 1).bind (F := fun n r => bnd (Bl.rep (rdN 2) n.toNat r) fun bs r => Option.some ((⟨k, i, o, bs, [], 0, 0, [], 0⟩ : LT), r)) (G := fun n s => (⟨k, i, o, (eaT plF n.toNat s).1, [], 0, 0, [], 0⟩, (eaT plF n.toNat s).2)) fun n =>
      ((brF_nu 2).one n.toNat).bind (F := fun bs r => Option.some ((⟨k, i, o, bs, [], 0, 0, [], 0⟩ : LT), r)) (G := fun bs s => (⟨k, i, o, bs, [], 0, 0, [], 0⟩, s)) fun _ => Br.ret _
  simp only [if_neg k3]
  by_cases k4 : k = 4
  · simp only [if_pos k4]
    exact (brF_nu 1).bind (F := fun n r => bnd (Bl.rep shP n.toNat r) fun bs r => Option.some ((⟨k, i, o, [], bs, 0, 0, [], 0⟩ : LT), r)) (G := fun n s => (⟨k, i, o, [], (eaT ssF n.toNat s).1, 0, 0, [], 0⟩, (eaT ssF n.toNat s).2)) fun n =>
      (brF_sh.one n.toNat).bind (F := fun bs r => Option.some ((⟨k, i, o, [], bs, 0, 0, [], 0⟩ : LT), r)) (G := fun bs s => (⟨k, i, o, [], bs, 0, 0, [], 0⟩, s)) fun _ => Br.ret _
  simp only [if_neg k4]
  by_cases k5 : k = 5
  · simp only [if_pos k5]
    exact (brF_nu 2).bind (F := fun f r => bnd (rdN 2 r) fun c r => Option.some ((⟨k, i, o, [], [], f, c, [], 0⟩ : LT), r)) (G := fun f s => (⟨k, i, o, [], [], f, (nuF 2 s).1, [], 0⟩, (nuF 2 s).2)) fun f =>
      (brF_nu 2).bind (F := fun c r => Option.some ((⟨k, i, o, [], [], f, c, [], 0⟩ : LT), r)) (G := fun c s => (⟨k, i, o, [], [], f, c, [], 0⟩, s)) fun _ => Br.ret _
  simp only [if_neg k5]
  by_cases k7 : k = 7
  · simp only [if_pos k7]
    exact (brF_nu 1).bind (F := fun c r => Option.some ((⟨k, i, o, [], [], 0, 0, [], c⟩ : LT), r)) (G := fun c s => (⟨k, i, o, [], [], 0, 0, [], c⟩, s)) fun _ => Br.ret _
  simp only [if_neg k7]
  exact Br.ret _
theorem rsF_ids (k i o i' o' : Int) (s : Rst) : (rsF k i o s).2 = (rsF k i' o' s).2 ∧ (rsF k i o s).1 = { (rsF k i' o' s).1 with id := i, obj := o } := by
  unfold rsF
  repeat' split
  all_goals exact ⟨rfl, rfl⟩
theorem rsF_kind (k i o : Int) (s : Rst) : (rsF k i o s).1.kind = k ∧ (rsF k i o s).1.id = i ∧ (rsF k i o s).1.obj = o := by
  unfold rsF
  repeat' split
  all_goals exact ⟨rfl, rfl, rfl⟩
theorem tkF_byt {n : Nat} {s : Rst} (h : Byt s.2) : Byt (tkF n s).1 ∧ Byt (tkF n s).2.2 := by
  unfold tkF
  split
  · exact ⟨h.take n, h.drop n⟩
  · exact ⟨fun x hx => by rw [(List.mem_replicate.1 hx).2]; omega, h⟩
theorem tkF_len {n : Nat} {s : Rst} : (tkF n s).1.length = n := by
  unfold tkF
  split
  · next h => simp only [List.length_take]; omega
  · simp
theorem finT_bad (l l' : LT) (t : Rst) (h1 : wi l.kind 1 7 = true) (h2 : wi l'.kind 1 7 = true) (h3 : numOk l = false) (h4 : numOk l' = false) : finT (l, t) = finT (l', t) := by
  have c1 : chkL l = 1 := by unfold chkL; rw [h1, if_neg (by decide), if_pos h3]
  have c2 : chkL l' = 1 := by unfold chkL; rw [h2, if_neg (by decide), if_pos h4]
  unfold finT
  simp [c1, c2]
theorem numOk_lowI {l : LT} (h : l.id < 0 ∨ 1099511627776 < l.id) : numOk l = false := by
  unfold numOk
  rw [wi_no.2 h]; rfl
theorem numOk_lowO {l : LT} (h : l.obj < 0 ∨ 1099511627776 < l.obj) : numOk l = false := by
  unfold numOk
  rw [wi_no.2 h, Bool.and_false]; rfl
/-- what the document's cursor leaves behind the kind, and what is parsed -/
theorem finF_eq (k : Int) (r : List Int) (hk : wi k 1 7 = true) (hb : Byt r) : finT (rsF k (numF 0 (tkF 8 (false, r)).1) (numF 0 (tkF 8 (tkF 8 (false, r)).2).1) (tkF 8 (tkF 8 (false, r)).2).2) = endP (bodP k r) := by
  have hB : Br (bodP k) (fun s => rsF k (nuF 8 s).1 (nuF 8 (nuF 8 s).2).1 (nuF 8 (nuF 8 s).2).2) :=
    (brF_nu 8).bind (F := fun i r => bnd (rdN 8 r) fun o r => rstP k i o r) (G := fun i s => rsF k i (nuF 8 s).1 (nuF 8 s).2) fun i =>
      (brF_nu 8).bind (F := fun o r => rstP k i o r) (G := fun o s => rsF k i o s) fun o => brF_rs k i o
  have h1 : finT (rsF k (nuF 8 (false, r)).1 (nuF 8 (nuF 8 (false, r)).2).1 (nuF 8 (nuF 8 (false, r)).2).2) = endP (bodP k r) := by
    cases h : bodP k r with
    | none =>
      have := hB.no h
      unfold finT
      rw [if_pos this]
      rfl
    | some y =>
      obtain ⟨l, q⟩ := y
      have e : rsF k (nuF 8 (false, r)).1 (nuF 8 (nuF 8 (false, r)).2).1 (nuF 8 (nuF 8 (false, r)).2).2 = (l, (false, q)) := hB.val h
      rw [e]
      unfold finT endP
      simp only [Bool.false_eq_true, if_false]
      cases q with
      | nil => simp
      | cons a t => simp
  rw [← h1]
  have b1 := tkF_byt (n := 8) (s := (false, r)) hb
  have b2 := (tkF_byt (n := 8) (s := (tkF 8 (false, r)).2) b1.2).1
  show finT (rsF k (numF 0 (tkF 8 (false, r)).1) (numF 0 (tkF 8 (tkF 8 (false, r)).2).1) (tkF 8 (tkF 8 (false, r)).2).2) = finT (rsF k (numR (tkF 8 (false, r)).1) (numR (tkF 8 (tkF 8 (false, r)).2).1) (tkF 8 (tkF 8 (false, r)).2).2)
  obtain ⟨i, hi⟩ : ∃ i, i = numF 0 (tkF 8 (false, r)).1 := ⟨_, rfl⟩
  obtain ⟨i', hi'⟩ : ∃ i, i = numR (tkF 8 (false, r)).1 := ⟨_, rfl⟩
  obtain ⟨o, ho⟩ : ∃ i, i = numF 0 (tkF 8 (tkF 8 (false, r)).2).1 := ⟨_, rfl⟩
  obtain ⟨o', ho'⟩ : ∃ i, i = numR (tkF 8 (tkF 8 (false, r)).2).1 := ⟨_, rfl⟩
  obtain ⟨s, hs⟩ : ∃ s, s = (tkF 8 (tkF 8 (false, r)).2).2 := ⟨_, rfl⟩
  have q1 : i = i' ∨ (i = -1 ∧ 1099511627776 < i') := by
    rw [hi, hi']; exact numF_R _ 0 (Int.le_refl 0) b1.1
  have q2 : o = o' ∨ (o = -1 ∧ 1099511627776 < o') := by
    rw [ho, ho']; exact numF_R _ 0 (Int.le_refl 0) b2
  rw [← hi, ← hi', ← ho, ← ho', ← hs]
  obtain ⟨e1, e2, e3⟩ := rsF_kind k i o s
  obtain ⟨e1', e2', e3'⟩ := rsF_kind k i' o' s
  obtain ⟨e4, _⟩ := rsF_ids k i o i' o' s
  have key : numOk (rsF k i o s).1 = false → numOk (rsF k i' o' s).1 = false → finT (rsF k i o s) = finT (rsF k i' o' s) := fun h3 h4 => by
    have := finT_bad (rsF k i o s).1 (rsF k i' o' s).1 (rsF k i o s).2 (by rw [e1]; exact hk) (by rw [e1']; exact hk) h3 h4
    have z : rsF k i' o' s = ((rsF k i' o' s).1, (rsF k i o s).2) := by rw [e4]
    rw [z]; exact this
  rcases q1 with rfl | ⟨q1, q1'⟩
  · rcases q2 with rfl | ⟨q2, q2'⟩
    · rfl
    · exact key (numOk_lowO (by rw [e3]; omega)) (numOk_lowO (by rw [e3']; omega))
  · exact key (numOk_lowI (by rw [e2]; omega)) (numOk_lowI (by rw [e2']; omega))
theorem nu1F_le {s : Rst} (hb : Byt s.2) : 0 ≤ (nuF 1 s).1 ∧ (nuF 1 s).1 ≤ 255 := (one_num tkF_len (tkF_byt hb).1).2
theorem nu2F_le {s : Rst} (hb : Byt s.2) : 0 ≤ (nuF 2 s).1 ∧ (nuF 2 s).1 ≤ 65535 := (two_num tkF_len (tkF_byt hb).1).2
theorem numF_small {l : List Int} (hb : Byt l) (h : numR l ≤ 65535) : numF 0 l = numR l := by
  rcases numF_R l 0 (Int.le_refl 0) hb with h1 | ⟨_, h2⟩
  · exact h1
  · have : 1099511627776 < numR l := h2
    omega
/-- the document's cursor in the block X: its bytes, L of them, lie below X -/
structure Cur (L : Nat) (w : World) (X : Nat) (s : Rst) : Prop where
  ex : ∃ p c at' b, BoxC w X [.slice p L c, .int .i64 (at' : Nat), .bool s.1] ∧ b.length = L ∧ at' ≤ L ∧ s.2 = b.drop at' ∧ RdsF (fun k => k < X) w (.slice p L c) L (ints .u8 b) ∧ L ≤ c ∧ c ≤ maxLen
  by' : Byt s.2
  le : L ≤ 9000
theorem Cur.lt {L : Nat} {w : World} {X : Nat} {s : Rst} (h : Cur L w X s) : X < w.heap.size := by
  obtain ⟨p, c, a, b, h1, _⟩ := h.ex; exact h1.lt
theorem Cur.kept {L : Nat} {Q : Nat → Prop} {w w' : World} {X : Nat} {s : Rst} (h : Cur L w X s) (k : Kq Q w w') (hq : ∀ i, i ≤ X → ¬ Q i) : Cur L w' X s := by
  obtain ⟨p, c, a, b, h1, h2, h3, h4, h5, h6⟩ := h.ex
  exact ⟨⟨p, c, a, b, k.box (hq X (Nat.le_refl _)) h1, h2, h3, h4, h5.kept fun b hb hl => ⟨hb, k.block b hl (hq b (Nat.le_of_lt hb))⟩, h6⟩, h.by', h.le⟩
theorem Cur.ext {L : Nat} {w w' : World} {X : Nat} {s : Rst} (h : Cur L w X s) (k : Ext w w') : Cur L w' X s := h.kept (Q := fun _ => False) (Kq.of_ext k) fun _ _ q => q
theorem Cur.bad {L : Nat} {w : World} {X : Nat} {s : Rst} (h : Cur L w X s) : w.cell? ⟨X, 2, none⟩ = some (.bool s.1) := by
  obtain ⟨p, c, a, b, h1, _⟩ := h.ex; exact h1.cell rfl
section
variable (Len : Nat) {α : Type} (f : α → List Value) (s : Nat) (Ok : (Nat → Prop) → World → α → Prop) (B X Y fi : Nat) (cs : List Value) (vr : Value) (M : List α) (Pr : α → Prop) (sa sb : Rst)
/-- ahead of the call -/
def F0 (w : World) : Prop := Cur Len w X sa ∧ GP f s Ok B w Y fi cs vr M ∧ B ≤ w.heap.size
/-- behind it: the element -/
def F1 (v : Value) (w : World) : Prop := ∃ y, Pr y ∧ v.cells = (f y).toArray ∧ (f y).length = s ∧ (∀ c ∈ f y, c.oneCell' = true) ∧ Ok (fun b => b ≠ Y ∧ vr.ownBlock ≠ some b ∧ B ≤ b) w y ∧ Cur Len w X sb ∧ GP f s Ok B w Y fi cs vr M ∧ B ≤ w.heap.size
/-- built -/
def F2 (v : Value) (w : World) : Prop := ∃ y g, v = .slice (some ⟨g, 0, none⟩) 1 1 ∧ w.rangeAt g 0 (f y) ∧ Pr y ∧ (f y).length = s ∧ (∀ c ∈ f y, c.oneCell' = true) ∧ Ok (fun b => b ≠ Y ∧ vr.ownBlock ≠ some b ∧ B ≤ b) w y ∧ Cur Len w X sb ∧ GP f s Ok B w Y fi cs vr M ∧ B ≤ w.heap.size
/-- appended -/
def F3 (v : Value) (w : World) : Prop := ∃ y p c, v = .slice p (M.length + 1) c ∧ Pr y ∧ w.cell? ⟨Y, fi, none⟩ = some vr ∧ w.frozen? ⟨Y, fi, none⟩ = false ∧ GP f s Ok B (w.setCell ⟨Y, fi, none⟩ v) Y fi (cs.set fi v) v (M ++ [y]) ∧ Cur Len (w.setCell ⟨Y, fi, none⟩ v) X sb
end
section
variable {Len : Nat} {α : Type} {f : α → List Value} {s : Nat} {Ok : (Nat → Prop) → World → α → Prop} {B X Y fi : Nat} {cs : List Value} {vr : Value} {M : List α} {Pr : α → Prop} {sa sb : Rst} {w w' : World}
theorem F0.f1 (hS : Stab Ok) (h : F0 Len f s Ok B X Y fi cs vr M sa w) {v : Value} {y : α} {Q : Nat → Prop} (hK : Kq Q w w') (hY : ¬ Q Y) (hQ : ∀ b, B ≤ b → ¬ Q b) (hR : Cur Len w' X sb) (hp : Pr y) (hv : v.cells = (f y).toArray) (hl : (f y).length = s) (h1 : ∀ c ∈ f y, c.oneCell' = true) (hok : Ok (fun b => w.heap.size ≤ b) w' y) : F1 Len f s Ok B X Y fi cs vr M Pr sb v w' :=
  ⟨y, hp, hv, hl, h1, hS _ _ _ _ _ hok fun b hb _ => ⟨⟨fun q => by have := h.2.1.box.lt; omega, fun q => by have := (h.2.1.own.block b q).2; omega, by have := h.2.2; omega⟩, rfl⟩, hR, h.2.1.kept hS hK hY hQ, Nat.le_trans h.2.2 hK.size⟩
theorem F1.f2 (hS : Stab Ok) {v : Value} (h : F1 Len f s Ok B X Y fi cs vr M Pr sb v w) (e : TypeId) : F2 Len f s Ok B X Y fi cs vr M Pr sb (.slice (some ⟨w.heap.size, 0, none⟩) 1 1) (w.alloc (.cells v.cells e)) := by
  obtain ⟨y, h1, h2, h3, h4, h5, h6, h7, h8⟩ := h
  have hE := ext_alloc w (.cells v.cells e)
  refine ⟨y, w.heap.size, rfl, fun j u hu => ?_, h1, h3, h4, hS _ _ _ _ _ h5 fun b hb hl => ⟨hb, hE.block b hl⟩, h6.ext hE, h7.ext hS hE, Nat.le_trans h8 hE.size⟩
  rw [Nat.zero_add, World.cell?_alloc_new, h2]; simpa using hu
theorem F1.size {v : Value} (h : F1 Len f s Ok B X Y fi cs vr M Pr sb v w) : v.cells.size = s := by
  obtain ⟨y, _, h2, h3, _⟩ := h; rw [h2]; simpa using h3
theorem F2.f3 (hS : Stab Ok) (hX : X < B) (hXY : X < Y) {v' : Value} {y : α} (h6 : Cur Len w X sb) (h7 : GP f s Ok B w Y fi cs vr M) (hp : Pr y) (h5 : Ok (fun b => b ≠ Y ∧ vr.ownBlock ≠ some b ∧ B ≤ b) w y) (h2 : Pk w' B s v' (M.length + 1) (cellsR f M ++ f y)) (h3 : w.grownBy w' vr.ownBlock) (h4 : ∀ j, v'.ownBlock = some j → vr.ownBlock = some j ∨ w.heap.size ≤ j) : Kq (fun k => k = X ∨ B ≤ k) w w' ∧ F3 Len f s Ok B X Y fi cs vr M Pr sb v' w' := by
  have hK : Kq (fun k => B ≤ k) w w' := Kq.grown h3 fun k hk => (h7.own.block k hk).1
  obtain ⟨p, c, hf, _⟩ := h2.rds.form
  have hb := h7.mid h3
  refine ⟨hK.mono fun k _ hk => .inr hk, y, p, c, hf, hp, hb.cell h7.fld, hb.fz h7.lt, h7.push hS h2 h3 h4 h5, ?_⟩
  exact h6.kept (Q := fun k => B ≤ k ∨ k = Y) ((hK.mono fun k _ hk => .inl hk).setCell ⟨Y, fi, none⟩ (.inr rfl) v') fun i hi q => by
    rcases q with q | q
    · omega
    · omega
end
section
variable {Len : Nat} {P : Program} {R : World → World → Prop} {α : Type} {f : α → List Value} {s : Nat} {Ok : (Nat → Prop) → World → α → Prop} {B X Y fi : Nat} {cs : List Value} {vr : Value} {M : List α} {Pr : α → Prop} {sb : Rst} {w : World} {ev : Nat → Value} {φ : Value → World → Prop} {d : Option Tmp} {tt t e : TypeId} {z : Value} {bytes n : Nat} {pp : String} {af : Array Edge} {g : Option (Nat × Bool)} {x y : Operand}
/-- the element is appended -/
theorem goodX_f3 (hT : SlT P t e z s bytes) (hS : Stab Ok) (hX : X < B) (hXY : X < Y) {v2 : Value} (hc : F2 Len f s Ok B X Y fi cs vr M Pr sb v2 w) (hy : evalE ev y = v2) (hx : evalE ev x = vr) (hlen : M.length + 1 ≤ maxLen) (hbytes : (M.length + 1) * bytes ≤ 140737488355328)
    (hφ : ∀ v' w', Kq (fun k => k = X ∨ B ≤ k) w w' → F3 Len f s Ok B X Y fi cs vr M Pr sb v' w' → R w w' ∧ φ v' w') :
    GoodX R P w φ ((execOp (evalE ev) ⟨d, .call { callee := .builtin .append, args := #[x, y], argTypes := #[t, t] }, tt, pp, af, g⟩).run P w) := by
  obtain ⟨a, b, h1, h2, h3, h4, h5, h6, h7, h8, h9⟩ := hc
  refine goodX_append hT h8.own h2 (by rw [h4, Nat.one_mul]) h5 (by decide) hlen hbytes h9 hx (hy.trans h1) fun v' w' q1 q2 q3 => ?_
  obtain ⟨k1, k2⟩ := F2.f3 hS hX hXY h7 h8 h3 h6 q1 q2 q3
  exact hφ v' w' k1 k2
end
end Go.Proofs.Bl

/- Walks of the document's cursor: take, number. -/
namespace Go.Proofs.Bl
open Go Go.RowKit
theorem tkF_ok {n : Nat} {b : List Int} (h : n ≤ b.length) : tkF n (false, b) = (b.take n, (false, b.drop n)) := if_pos ⟨rfl, h⟩
theorem tkF_no {n : Nat} {sh : Bool} {b : List Int} (h : ¬ (sh = false ∧ n ≤ b.length)) : tkF n (sh, b) = (List.replicate n 0, (true, b)) := if_neg h
theorem numF_cons (z x : Int) (r : List Int) : numF z (x :: r) = if 2199023255552 < z then -1 else numF (z * 256 + x) r := rfl
theorem drop_consD (y : List Int) {k : Nat} (h : k < y.length) : y.drop k = y.getD k 0 :: y.drop (k + 1) := by
  rw [List.drop_eq_getElem_cons h, List.getD_eq_getElem?_getD, List.getElem?_eq_getElem h]; rfl
end Go.Proofs.Bl
namespace Go.Proofs.YtglenbikdahgjaaDoor
open Go Go.RowKit Go.Proofs

end Go.Proofs.YtglenbikdahgjaaDoor

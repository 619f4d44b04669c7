/- Texts that stood apart, in one: LetF, LD1, LetG, LD2. -/
import Derived.Test.YtmmolapkddbibaaDoorLtp
import Derived.Test.YtmmolapkddbibaaDoorLpa
import Derived.Test.YtmmolapkddbibaaDoorLib0
import Derived.BigQuiet
import Derived.Laws.IdiomCopy
/- The letter of bytes, as the document's cursor goes; that this is what is parsed; the cursor. No program. -/
namespace Go.Proofs.Bl
open Go Go.RowKit
/-- so many bytes; zeros where they are too few -/
def tkF (n : Nat) (s : Rst) : List Int × Rst := if s.1 = false ∧ n ≤ s.2.length then (s.2.take n, (false, s.2.drop n)) else (List.replicate n 0, (true, s.2))
def nuF (n : Nat) (s : Rst) : Int × Rst := (numR (tkF n s).1, (tkF n s).2)
def blF (s : Rst) : List (List Int) × Rst := ([(tkF 16 s).1], (tkF 16 s).2)
def plF (s : Rst) : List Int × Rst := ([(nuF 2 s).1], (nuF 2 s).2)
def paF (s : Rst) : List (List Int) × Rst := ([(tkF 32 s).1], (tkF 32 s).2)
def shF (s : Rst) : Sh × Rst :=
  (((nuF 2 s).1, (tkF 16 (nuF 2 s).2).1, (eaT paF (nuF 1 (tkF 16 (nuF 2 s).2).2).1.toNat (nuF 1 (tkF 16 (nuF 2 s).2).2).2).1), (eaT paF (nuF 1 (tkF 16 (nuF 2 s).2).2).1.toNat (nuF 1 (tkF 16 (nuF 2 s).2).2).2).2)
def ssF (s : Rst) : List Sh × Rst := ([(shF s).1], (shF s).2)
def rsF (k i o : Int) (s : Rst) : LT × Rst :=
  if k = 6 then (⟨k, i, o, [], [], (nuF 2 s).1, 0, (eaT blF (nuF 2 (nuF 2 s).2).1.toNat (nuF 2 (nuF 2 s).2).2).1, 0⟩, (eaT blF (nuF 2 (nuF 2 s).2).1.toNat (nuF 2 (nuF 2 s).2).2).2)
  else if k = 1 then (⟨k, i, o, [], [], 0, 0, (eaT blF (nuF 2 s).1.toNat (nuF 2 s).2).1, 0⟩, (eaT blF (nuF 2 s).1.toNat (nuF 2 s).2).2)
  else if k = 3 then (⟨k, i, o, (eaT plF (nuF 1 s).1.toNat (nuF 1 s).2).1, [], 0, 0, [], 0⟩, (eaT plF (nuF 1 s).1.toNat (nuF 1 s).2).2)
  else if k = 4 then (⟨k, i, o, [], (eaT ssF (nuF 1 s).1.toNat (nuF 1 s).2).1, 0, 0, [], 0⟩, (eaT ssF (nuF 1 s).1.toNat (nuF 1 s).2).2)
  else if k = 5 then (⟨k, i, o, [], [], (nuF 2 s).1, (nuF 2 (nuF 2 s).2).1, [], 0⟩, (nuF 2 (nuF 2 s).2).2)
  else if k = 7 then (⟨k, i, o, [], [], 0, 0, [], (nuF 1 s).1⟩, (nuF 1 s).2)
  else (⟨k, i, o, [], [], 0, 0, [], 0⟩, s)
theorem brF_tk (n : Nat) : Br (tkB n) (tkF n) := by
  refine ⟨fun b => by unfold Bl.tkF; simp, fun b => ?_⟩
  unfold tkB Bl.tkF
  by_cases h : n ≤ b.length
  · rw [if_pos h]; simp [h]
  · rw [if_neg h]; simp [h]
theorem brF_nu (n : Nat) : Br (rdN n) (nuF n) := by
  refine ⟨fun b => (brF_tk n).1 b, fun b => ?_⟩
  unfold rdN Bl.nuF
  cases h : tkB n b with
  | none => exact (brF_tk n).no h
  | some y =>
    obtain ⟨x, r⟩ := y
    rw [bnd_some]
    simp only [(brF_tk n).val h]
theorem brF_pa : ∀ n, Br (Bl.rep (tkB 32) n) (eaT paF n) :=
  Br.reps (fun b => (brF_tk 32).1 b) (fun b x r e => by
    have h := (brF_tk 32).val e
    unfold Bl.paF
    rw [h]) (fun b e => (brF_tk 32).no e)
theorem brF_sh : Br shP shF := (brF_nu 2).bind (F := fun p r => bnd (tkB 16 r) fun st r => bnd (rdN 1 r) fun c r => bnd (Bl.rep (tkB 32) c.toNat r) fun ds r => Option.some ((p, st, ds), r)) (G := fun p s => ((p, (tkF 16 s).1, (eaT paF (nuF 1 (tkF 16 s).2).1.toNat (nuF 1 (tkF 16 s).2).2).1), (eaT paF (nuF 1 (tkF 16 s).2).1.toNat (nuF 1 (tkF 16 s).2).2).2)) fun p =>
  (brF_tk 16).bind (F := fun st r => bnd (rdN 1 r) fun c r => bnd (Bl.rep (tkB 32) c.toNat r) fun ds r => Option.some ((p, st, ds), r)) (G := fun st s => ((p, st, (eaT paF (nuF 1 s).1.toNat (nuF 1 s).2).1), (eaT paF (nuF 1 s).1.toNat (nuF 1 s).2).2)) fun st =>
  (brF_nu 1).bind (F := fun c r => bnd (Bl.rep (tkB 32) c.toNat r) fun ds r => Option.some ((p, st, ds), r)) (G := fun c s => ((p, st, (eaT paF c.toNat s).1), (eaT paF c.toNat s).2)) fun c =>
  (brF_pa c.toNat).bind (F := fun ds r => Option.some ((p, st, ds), r)) (G := fun ds s => ((p, st, ds), s)) fun _ => Br.ret _
theorem brF_rs (k i o : Int) : Br (rstP k i o) (rsF k i o) := by
  unfold rstP rsF
  by_cases k6 : k = 6
  · simp only [if_pos k6]
    exact (brF_nu 2).bind (F := fun f r => bnd (rdN 2 r) fun n r => bnd (Bl.rep (tkB 16) n.toNat r) fun bs r => Option.some ((⟨k, i, o, [], [], f, 0, bs, 0⟩ : LT), r)) (G := fun f s => (⟨k, i, o, [], [], f, 0, (eaT blF (nuF 2 s).1.toNat (nuF 2 s).2).1, 0⟩, (eaT blF (nuF 2 s).1.toNat (nuF 2 s).2).2)) fun f =>
      (brF_nu 2).bind (F := fun n r => bnd (Bl.rep (tkB 16) n.toNat r) fun bs r => Option.some ((⟨k, i, o, [], [], f, 0, bs, 0⟩ : LT), r)) (G := fun n s => (⟨k, i, o, [], [], f, 0, (eaT blF n.toNat s).1, 0⟩, (eaT blF n.toNat s).2)) fun n =>
      ((brF_tk 16).one n.toNat).bind (F := fun bs r => Option.some ((⟨k, i, o, [], [], f, 0, bs, 0⟩ : LT), r)) (G := fun bs s => (⟨k, i, o, [], [], f, 0, bs, 0⟩, s)) fun _ => Br.ret _
  simp only [if_neg k6]
  by_cases k1 : k = 1
  · simp only [if_pos k1]
    exact (brF_nu 2).bind (F := fun n r => bnd (Bl.rep (tkB 16) n.toNat r) fun bs r => Option.some ((⟨k, i, o, [], [], 0, 0, bs, 0⟩ : LT), r)) (G := fun n s => (⟨k, i, o, [], [], 0, 0, (eaT blF n.toNat s).1, 0⟩, (eaT blF n.toNat s).2)) fun n =>
      ((brF_tk 16).one n.toNat).bind (F := fun bs r => Option.some ((⟨k, i, o, [], [], 0, 0, bs, 0⟩ : LT), r)) (G := fun bs s => (⟨k, i, o, [], [], 0, 0, bs, 0⟩, s)) fun _ => Br.ret _
  simp only [if_neg k1]
  by_cases k3 : k = 3
  · simp only [if_pos k3]
    exact (brF_nu 1).bind (F := fun n r => bnd (Bl.rep (rdN 2) n.toNat r) fun bs r => Option.some ((⟨k, i, o, bs, [], 0, 0, [], 0⟩ : LT), r)) (G := fun n s => (⟨k, i, o, (eaT plF n.toNat s).1, [], 0, 0, [], 0⟩, (eaT plF n.toNat s).2)) fun n =>
      ((brF_nu 2).one n.toNat).bind (F := fun bs r => Option.some ((⟨k, i, o, bs, [], 0, 0, [], 0⟩ : LT), r)) (G := fun bs s => (⟨k, i, o, bs, [], 0, 0, [], 0⟩, s)) fun _ => Br.ret _
  simp only [if_neg k3]
  by_cases k4 : k = 4
  · simp only [if_pos k4]
    exact (brF_nu 1).bind (F := fun n r => bnd (Bl.rep shP n.toNat r) fun bs r => Option.some ((⟨k, i, o, [], bs, 0, 0, [], 0⟩ : LT), r)) (G := fun n s => (⟨k, i, o, [], (eaT ssF n.toNat s).1, 0, 0, [], 0⟩, (eaT ssF n.toNat s).2)) fun n =>
      (brF_sh.one n.toNat).bind (F := fun bs r => Option.some ((⟨k, i, o, [], bs, 0, 0, [], 0⟩ : LT), r)) (G := fun bs s => (⟨k, i, o, [], bs, 0, 0, [], 0⟩, s)) fun _ => Br.ret _
  simp only [if_neg k4]
  by_cases k5 : k = 5
  · simp only [if_pos k5]
    exact (brF_nu 2).bind (F := fun f r => bnd (rdN 2 r) fun c r => Option.some ((⟨k, i, o, [], [], f, c, [], 0⟩ : LT), r)) (G := fun f s => (⟨k, i, o, [], [], f, (nuF 2 s).1, [], 0⟩, (nuF 2 s).2)) fun f =>
      (brF_nu 2).bind (F := fun c r => Option.some ((⟨k, i, o, [], [], f, c, [], 0⟩ : LT), r)) (G := fun c s => (⟨k, i, o, [], [], f, c, [], 0⟩, s)) fun _ => Br.ret _
  simp only [if_neg k5]
  by_cases k7 : k = 7
  · simp only [if_pos k7]
    exact (brF_nu 1).bind (F := fun c r => Option.some ((⟨k, i, o, [], [], 0, 0, [], c⟩ : LT), r)) (G := fun c s => (⟨k, i, o, [], [], 0, 0, [], c⟩, s)) fun _ => Br.ret _
  simp only [if_neg k7]
  exact Br.ret _
theorem rsF_ids (k i o i' o' : Int) (s : Rst) : (rsF k i o s).2 = (rsF k i' o' s).2 ∧ (rsF k i o s).1 = { (rsF k i' o' s).1 with id := i, obj := o } := by
  unfold rsF
  repeat' split
  all_goals exact ⟨rfl, rfl⟩
theorem rsF_kind (k i o : Int) (s : Rst) : (rsF k i o s).1.kind = k ∧ (rsF k i o s).1.id = i ∧ (rsF k i o s).1.obj = o := by
  unfold rsF
  repeat' split
  all_goals exact ⟨rfl, rfl, rfl⟩
theorem tkF_byt {n : Nat} {s : Rst} (h : Byt s.2) : Byt (tkF n s).1 ∧ Byt (tkF n s).2.2 := by
  unfold tkF
  split
  · exact ⟨h.take n, h.drop n⟩
  · exact ⟨fun x hx => by rw [(List.mem_replicate.1 hx).2]; omega, h⟩
theorem tkF_len {n : Nat} {s : Rst} : (tkF n s).1.length = n := by
  unfold tkF
  split
  · next h => simp only [List.length_take]; omega
  · simp
theorem finT_bad (l l' : LT) (t : Rst) (h1 : wi l.kind 1 7 = true) (h2 : wi l'.kind 1 7 = true) (h3 : numOk l = false) (h4 : numOk l' = false) : finT (l, t) = finT (l', t) := by
  have c1 : chkL l = 1 := by unfold chkL; rw [h1, if_neg (by decide), if_pos h3]
  have c2 : chkL l' = 1 := by unfold chkL; rw [h2, if_neg (by decide), if_pos h4]
  unfold finT
  simp [c1, c2]
theorem numOk_lowI {l : LT} (h : l.id < 0 ∨ 1099511627776 < l.id) : numOk l = false := by
  unfold numOk
  rw [wi_no.2 h]; rfl
theorem numOk_lowO {l : LT} (h : l.obj < 0 ∨ 1099511627776 < l.obj) : numOk l = false := by
  unfold numOk
  rw [wi_no.2 h, Bool.and_false]; rfl
/-- what the document's cursor leaves behind the kind, and what is parsed -/
theorem finF_eq (k : Int) (r : List Int) (hk : wi k 1 7 = true) (hb : Byt r) : finT (rsF k (numF 0 (tkF 8 (false, r)).1) (numF 0 (tkF 8 (tkF 8 (false, r)).2).1) (tkF 8 (tkF 8 (false, r)).2).2) = endP (bodP k r) := by
  have hB : Br (bodP k) (fun s => rsF k (nuF 8 s).1 (nuF 8 (nuF 8 s).2).1 (nuF 8 (nuF 8 s).2).2) :=
    (brF_nu 8).bind (F := fun i r => bnd (rdN 8 r) fun o r => rstP k i o r) (G := fun i s => rsF k i (nuF 8 s).1 (nuF 8 s).2) fun i =>
      (brF_nu 8).bind (F := fun o r => rstP k i o r) (G := fun o s => rsF k i o s) fun o => brF_rs k i o
  have h1 : finT (rsF k (nuF 8 (false, r)).1 (nuF 8 (nuF 8 (false, r)).2).1 (nuF 8 (nuF 8 (false, r)).2).2) = endP (bodP k r) := by
    cases h : bodP k r with
    | none =>
      have := hB.no h
      unfold finT
      rw [if_pos this]
      rfl
    | some y =>
      obtain ⟨l, q⟩ := y
      have e : rsF k (nuF 8 (false, r)).1 (nuF 8 (nuF 8 (false, r)).2).1 (nuF 8 (nuF 8 (false, r)).2).2 = (l, (false, q)) := hB.val h
      rw [e]
      unfold finT endP
      simp only [Bool.false_eq_true, if_false]
      cases q with
      | nil => simp
      | cons a t => simp
  rw [← h1]
  have b1 := tkF_byt (n := 8) (s := (false, r)) hb
  have b2 := (tkF_byt (n := 8) (s := (tkF 8 (false, r)).2) b1.2).1
  show finT (rsF k (numF 0 (tkF 8 (false, r)).1) (numF 0 (tkF 8 (tkF 8 (false, r)).2).1) (tkF 8 (tkF 8 (false, r)).2).2) = finT (rsF k (numR (tkF 8 (false, r)).1) (numR (tkF 8 (tkF 8 (false, r)).2).1) (tkF 8 (tkF 8 (false, r)).2).2)
  obtain ⟨i, hi⟩ : ∃ i, i = numF 0 (tkF 8 (false, r)).1 := ⟨_, rfl⟩
  obtain ⟨i', hi'⟩ : ∃ i, i = numR (tkF 8 (false, r)).1 := ⟨_, rfl⟩
  obtain ⟨o, ho⟩ : ∃ i, i = numF 0 (tkF 8 (tkF 8 (false, r)).2).1 := ⟨_, rfl⟩
  obtain ⟨o', ho'⟩ : ∃ i, i = numR (tkF 8 (tkF 8 (false, r)).2).1 := ⟨_, rfl⟩
  obtain ⟨s, hs⟩ : ∃ s, s = (tkF 8 (tkF 8 (false, r)).2).2 := ⟨_, rfl⟩
  have q1 : i = i' ∨ (i = -1 ∧ 1099511627776 < i') := by
    rw [hi, hi']; exact numF_R _ 0 (Int.le_refl 0) b1.1
  have q2 : o = o' ∨ (o = -1 ∧ 1099511627776 < o') := by
    rw [ho, ho']; exact numF_R _ 0 (Int.le_refl 0) b2
  rw [← hi, ← hi', ← ho, ← ho', ← hs]
  obtain ⟨e1, e2, e3⟩ := rsF_kind k i o s
  obtain ⟨e1', e2', e3'⟩ := rsF_kind k i' o' s
  obtain ⟨e4, _⟩ := rsF_ids k i o i' o' s
  have key : numOk (rsF k i o s).1 = false → numOk (rsF k i' o' s).1 = false → finT (rsF k i o s) = finT (rsF k i' o' s) := fun h3 h4 => by
    have := finT_bad (rsF k i o s).1 (rsF k i' o' s).1 (rsF k i o s).2 (by rw [e1]; exact hk) (by rw [e1']; exact hk) h3 h4
    have z : rsF k i' o' s = ((rsF k i' o' s).1, (rsF k i o s).2) := by rw [e4]
    rw [z]; exact this
  rcases q1 with rfl | ⟨q1, q1'⟩
  · rcases q2 with rfl | ⟨q2, q2'⟩
    · rfl
    · exact key (numOk_lowO (by rw [e3]; omega)) (numOk_lowO (by rw [e3']; omega))
  · exact key (numOk_lowI (by rw [e2]; omega)) (numOk_lowI (by rw [e2']; omega))
theorem nu1F_le {s : Rst} (hb : Byt s.2) : 0 ≤ (nuF 1 s).1 ∧ (nuF 1 s).1 ≤ 255 := (one_num tkF_len (tkF_byt hb).1).2
theorem nu2F_le {s : Rst} (hb : Byt s.2) : 0 ≤ (nuF 2 s).1 ∧ (nuF 2 s).1 ≤ 65535 := (two_num tkF_len (tkF_byt hb).1).2
theorem numF_small {l : List Int} (hb : Byt l) (h : numR l ≤ 65535) : numF 0 l = numR l := by
  rcases numF_R l 0 (Int.le_refl 0) hb with h1 | ⟨_, h2⟩
  · exact h1
  · have : 1099511627776 < numR l := h2
    omega
/-- the document's cursor in the block X: its bytes, L of them, lie below X -/
structure Cur (L : Nat) (w : World) (X : Nat) (s : Rst) : Prop where
  ex : ∃ p c at' b, BoxC w X [.slice p L c, .int .i64 (at' : Nat), .bool s.1] ∧ b.length = L ∧ at' ≤ L ∧ s.2 = b.drop at' ∧ RdsF (fun k => k < X) w (.slice p L c) L (ints .u8 b) ∧ L ≤ c ∧ c ≤ maxLen
  by' : Byt s.2
  le : L ≤ 9000
theorem Cur.lt {L : Nat} {w : World} {X : Nat} {s : Rst} (h : Cur L w X s) : X < w.heap.size := by
  obtain ⟨p, c, a, b, h1, _⟩ := h.ex; exact h1.lt
theorem Cur.kept {L : Nat} {Q : Nat → Prop} {w w' : World} {X : Nat} {s : Rst} (h : Cur L w X s) (k : Kq Q w w') (hq : ∀ i, i ≤ X → ¬ Q i) : Cur L w' X s := by
  obtain ⟨p, c, a, b, h1, h2, h3, h4, h5, h6⟩ := h.ex
  exact ⟨⟨p, c, a, b, k.box (hq X (Nat.le_refl _)) h1, h2, h3, h4, h5.kept fun b hb hl => ⟨hb, k.block b hl (hq b (Nat.le_of_lt hb))⟩, h6⟩, h.by', h.le⟩
theorem Cur.ext {L : Nat} {w w' : World} {X : Nat} {s : Rst} (h : Cur L w X s) (k : Ext w w') : Cur L w' X s := h.kept (Q := fun _ => False) (Kq.of_ext k) fun _ _ q => q
theorem Cur.bad {L : Nat} {w : World} {X : Nat} {s : Rst} (h : Cur L w X s) : w.cell? ⟨X, 2, none⟩ = some (.bool s.1) := by
  obtain ⟨p, c, a, b, h1, _⟩ := h.ex; exact h1.cell rfl
section
variable (Len : Nat) {α : Type} (f : α → List Value) (s : Nat) (Ok : (Nat → Prop) → World → α → Prop) (B X Y fi : Nat) (cs : List Value) (vr : Value) (M : List α) (Pr : α → Prop) (sa sb : Rst)
/-- ahead of the call -/
def F0 (w : World) : Prop := Cur Len w X sa ∧ GP f s Ok B w Y fi cs vr M ∧ B ≤ w.heap.size
/-- behind it: the element -/
def F1 (v : Value) (w : World) : Prop := ∃ y, Pr y ∧ v.cells = (f y).toArray ∧ (f y).length = s ∧ (∀ c ∈ f y, c.oneCell' = true) ∧ Ok (fun b => b ≠ Y ∧ vr.ownBlock ≠ some b ∧ B ≤ b) w y ∧ Cur Len w X sb ∧ GP f s Ok B w Y fi cs vr M ∧ B ≤ w.heap.size
/-- built -/
def F2 (v : Value) (w : World) : Prop := ∃ y g, v = .slice (some ⟨g, 0, none⟩) 1 1 ∧ w.rangeAt g 0 (f y) ∧ Pr y ∧ (f y).length = s ∧ (∀ c ∈ f y, c.oneCell' = true) ∧ Ok (fun b => b ≠ Y ∧ vr.ownBlock ≠ some b ∧ B ≤ b) w y ∧ Cur Len w X sb ∧ GP f s Ok B w Y fi cs vr M ∧ B ≤ w.heap.size
/-- appended -/
def F3 (v : Value) (w : World) : Prop := ∃ y p c, v = .slice p (M.length + 1) c ∧ Pr y ∧ w.cell? ⟨Y, fi, none⟩ = some vr ∧ w.frozen? ⟨Y, fi, none⟩ = false ∧ GP f s Ok B (w.setCell ⟨Y, fi, none⟩ v) Y fi (cs.set fi v) v (M ++ [y]) ∧ Cur Len (w.setCell ⟨Y, fi, none⟩ v) X sb
end
section
variable {Len : Nat} {α : Type} {f : α → List Value} {s : Nat} {Ok : (Nat → Prop) → World → α → Prop} {B X Y fi : Nat} {cs : List Value} {vr : Value} {M : List α} {Pr : α → Prop} {sa sb : Rst} {w w' : World}
theorem F0.f1 (hS : Stab Ok) (h : F0 Len f s Ok B X Y fi cs vr M sa w) {v : Value} {y : α} {Q : Nat → Prop} (hK : Kq Q w w') (hY : ¬ Q Y) (hQ : ∀ b, B ≤ b → ¬ Q b) (hR : Cur Len w' X sb) (hp : Pr y) (hv : v.cells = (f y).toArray) (hl : (f y).length = s) (h1 : ∀ c ∈ f y, c.oneCell' = true) (hok : Ok (fun b => w.heap.size ≤ b) w' y) : F1 Len f s Ok B X Y fi cs vr M Pr sb v w' :=
  ⟨y, hp, hv, hl, h1, hS _ _ _ _ _ hok fun b hb _ => ⟨⟨fun q => by have := h.2.1.box.lt; omega, fun q => by have := (h.2.1.own.block b q).2; omega, by have := h.2.2; omega⟩, rfl⟩, hR, h.2.1.kept hS hK hY hQ, Nat.le_trans h.2.2 hK.size⟩
theorem F1.f2 (hS : Stab Ok) {v : Value} (h : F1 Len f s Ok B X Y fi cs vr M Pr sb v w) (e : TypeId) : F2 Len f s Ok B X Y fi cs vr M Pr sb (.slice (some ⟨w.heap.size, 0, none⟩) 1 1) (w.alloc (.cells v.cells e)) := by
  obtain ⟨y, h1, h2, h3, h4, h5, h6, h7, h8⟩ := h
  have hE := ext_alloc w (.cells v.cells e)
  refine ⟨y, w.heap.size, rfl, fun j u hu => ?_, h1, h3, h4, hS _ _ _ _ _ h5 fun b hb hl => ⟨hb, hE.block b hl⟩, h6.ext hE, h7.ext hS hE, Nat.le_trans h8 hE.size⟩
  rw [Nat.zero_add, World.cell?_alloc_new, h2]; simpa using hu
theorem F1.size {v : Value} (h : F1 Len f s Ok B X Y fi cs vr M Pr sb v w) : v.cells.size = s := by
  obtain ⟨y, _, h2, h3, _⟩ := h; rw [h2]; simpa using h3
theorem F2.f3 (hS : Stab Ok) (hX : X < B) (hXY : X < Y) {v' : Value} {y : α} (h6 : Cur Len w X sb) (h7 : GP f s Ok B w Y fi cs vr M) (hp : Pr y) (h5 : Ok (fun b => b ≠ Y ∧ vr.ownBlock ≠ some b ∧ B ≤ b) w y) (h2 : Pk w' B s v' (M.length + 1) (cellsR f M ++ f y)) (h3 : w.grownBy w' vr.ownBlock) (h4 : ∀ j, v'.ownBlock = some j → vr.ownBlock = some j ∨ w.heap.size ≤ j) : Kq (fun k => k = X ∨ B ≤ k) w w' ∧ F3 Len f s Ok B X Y fi cs vr M Pr sb v' w' := by
  have hK : Kq (fun k => B ≤ k) w w' := Kq.grown h3 fun k hk => (h7.own.block k hk).1
  obtain ⟨p, c, hf, _⟩ := h2.rds.form
  have hb := h7.mid h3
  refine ⟨hK.mono fun k _ hk => .inr hk, y, p, c, hf, hp, hb.cell h7.fld, hb.fz h7.lt, h7.push hS h2 h3 h4 h5, ?_⟩
  exact h6.kept (Q := fun k => B ≤ k ∨ k = Y) ((hK.mono fun k _ hk => .inl hk).setCell ⟨Y, fi, none⟩ (.inr rfl) v') fun i hi q => by
    rcases q with q | q
    · omega
    · omega
end
section
variable {Len : Nat} {P : Program} {R : World → World → Prop} {α : Type} {f : α → List Value} {s : Nat} {Ok : (Nat → Prop) → World → α → Prop} {B X Y fi : Nat} {cs : List Value} {vr : Value} {M : List α} {Pr : α → Prop} {sb : Rst} {w : World} {ev : Nat → Value} {φ : Value → World → Prop} {d : Option Tmp} {tt t e : TypeId} {z : Value} {bytes n : Nat} {pp : String} {af : Array Edge} {g : Option (Nat × Bool)} {x y : Operand}
/-- the element is appended -/
theorem goodX_f3 (hT : SlT P t e z s bytes) (hS : Stab Ok) (hX : X < B) (hXY : X < Y) {v2 : Value} (hc : F2 Len f s Ok B X Y fi cs vr M Pr sb v2 w) (hy : evalE ev y = v2) (hx : evalE ev x = vr) (hlen : M.length + 1 ≤ maxLen) (hbytes : (M.length + 1) * bytes ≤ 140737488355328)
    (hφ : ∀ v' w', Kq (fun k => k = X ∨ B ≤ k) w w' → F3 Len f s Ok B X Y fi cs vr M Pr sb v' w' → R w w' ∧ φ v' w') :
    GoodX R P w φ ((execOp (evalE ev) ⟨d, .call { callee := .builtin .append, args := #[x, y], argTypes := #[t, t] }, tt, pp, af, g⟩).run P w) := by
  obtain ⟨a, b, h1, h2, h3, h4, h5, h6, h7, h8, h9⟩ := hc
  refine goodX_append hT h8.own h2 (by rw [h4, Nat.one_mul]) h5 (by decide) hlen hbytes h9 hx (hy.trans h1) fun v' w' q1 q2 q3 => ?_
  obtain ⟨k1, k2⟩ := F2.f3 hS hX hXY h7 h8 h3 h6 q1 q2 q3
  exact hφ v' w' k1 k2
end
end Go.Proofs.Bl

/- Walks of the document's cursor: take, number. -/
namespace Go.Proofs.Bl
open Go Go.RowKit
theorem tkF_ok {n : Nat} {b : List Int} (h : n ≤ b.length) : tkF n (false, b) = (b.take n, (false, b.drop n)) := if_pos ⟨rfl, h⟩
theorem tkF_no {n : Nat} {sh : Bool} {b : List Int} (h : ¬ (sh = false ∧ n ≤ b.length)) : tkF n (sh, b) = (List.replicate n 0, (true, b)) := if_neg h
theorem numF_cons (z x : Int) (r : List Int) : numF z (x :: r) = if 2199023255552 < z then -1 else numF (z * 256 + x) r := rfl
theorem drop_consD (y : List Int) {k : Nat} (h : k < y.length) : y.drop k = y.getD k 0 :: y.drop (k + 1) := by
  rw [List.drop_eq_getElem_cons h, List.getD_eq_getElem?_getD, List.getElem?_eq_getElem h]; rfl
end Go.Proofs.Bl
namespace Go.Proofs.YtmmolapkddbibaaDoor
open Go Go.RowKit Go.Proofs

set_option maxRecDepth 100000 in
set_option maxHeartbeats 1000000 in
theorem cnumb_any (v : Value) (y : List Int) (w : World) (hR : Bl.Rd w .u8 v y) (hb : Bl.Byt y) (hl : y.length ≤ 9000) :
    Calls Tryd.prog 52 #[v] w fun e w' => e = .returned (.int .i64 (Bl.numF 0 y)) ∧ w' = w := by
  obtain ⟨p, c, rfl, _, _⟩ := hR.form
  have HRd := Bl.hid hR
  have Hb0 := Bl.hid hb
  obtain ⟨m, hm⟩ : ∃ m, m = y.length := ⟨_, rfl⟩
  have Hm := Bl.hid hm
  have hml : m ≤ 9000 := by rw [hm]; exact hl
  rw [← hm] at HRd ⊢
  clear hR hb hm hl
  go_enter Tryd.func52, Tryd.ntmps52
  go_wp2_with fail
  go_loopw [3, 8] (fun a i wr => ∃ (k : Nat) (z : Int), k ≤ m ∧ a = .int .i64 z ∧ Hid (Bl.numF z (y.drop k) = Bl.numF 0 y) ∧ 0 ≤ z ∧ z ≤ 562949953421567 ∧ i = .int .i64 k ∧ wr = w) (fun _ i _ => m - (intOf i).toNat)
  case atStart => exact ⟨0, 0, Nat.zero_le _, rfl, Bl.hid rfl, by decide, by decide, rfl, rfl⟩
  case round =>
    obtain ⟨k, z, hk, rfl, Hz, hz0, hz1, rfl, hwr⟩ := hrel
    subst hwr
    by_cases hlt : k < m
    · have hla : k < y.length := by rw [← Hm.out]; exact hlt
      obtain ⟨b1, o1, c1, hpa, _, _, _, _, hel1⟩ := Bl.Rd.pos HRd.out (by omega)
      injection hpa with hp1 hp2 hp3
      subst hp1
      have hcell1 := hel1 k hla
      have hx := Hb0.out.get k
      have Hdk := Bl.hid (Bl.drop_consD y hla)
      obtain ⟨x, hxx⟩ : ∃ x, x = y.getD k 0 := ⟨_, rfl⟩
      rw [← hxx] at hcell1 hx Hdk
      obtain ⟨x0, x1⟩ := hx
      have hk0 : (0 : Int) ≤ (k : Int) := by omega
      have hkl : (k : Int) < (m : Int) := by omega
      clear hel1 hp2 hp3 hxx hla
      by_cases hbig : 2199023255552 < z
      · have HV : Hid (Bl.numF 0 y = -1) := Bl.hid (by rw [← Hz.out, Hdk.out, Bl.numF_cons, if_pos hbig])
        go_wp2_with fail
        go_ret
        exact ⟨by rw [HV.out]; rfl, rfl⟩
      · have HV : Hid (Bl.numF (z * 256 + x) (y.drop (k + 1)) = Bl.numF 0 y) := Bl.hid (by rw [← Hz.out, Hdk.out, Bl.numF_cons, if_neg hbig])
        go_wp2_with fail
        go_roundw
        case rel => exact ⟨k + 1, z * 256 + x, by omega, by go_num, HV, by omega, by omega, by go_num, by first | rfl | trivial⟩
        case measure => simp [intOf]; omega
    · obtain rfl : k = m := by omega
      have HV : Hid (Bl.numF 0 y = z) := Bl.hid (by rw [← Hz.out, List.drop_of_length_le (by rw [← Hm.out]; exact Nat.le_refl _)]; rfl)
      clear hlt
      go_wp2_with fail
      go_ret
      exact ⟨by rw [HV.out]; rfl, rfl⟩

set_option maxRecDepth 100000 in
set_option maxHeartbeats 1000000 in
theorem ctake_any (L X n : Nat) (s : Bl.Rst) (w0 : World) (h : Bl.Cur L w0 X s) (h1 : 1 ≤ n) (hn : n ≤ 9000) :
    Calls Tryd.prog 53 #[.pointer (some ⟨X, 0, none⟩), .int .i64 n] w0 fun e w' => ∃ v', e = .returned v' ∧ Bl.Rd w' .u8 v' (Bl.tkF n s).1 ∧ (∀ k, v'.ownBlock = some k → k < X ∨ w0.heap.size ≤ k) ∧ Bl.Cur L w' X (Bl.tkF n s).2 ∧ Bl.Kq (fun k => k = X) w0 w' := by
  obtain ⟨sh, r⟩ := s
  have H0 := Bl.hid h
  obtain ⟨p, c, at', b, hB, hbl, hat, hr, hrd, hLc, hcm⟩ := h.ex
  simp only at hB hr
  have hle := h.le
  have hrl : r.length = L - at' := by rw [hr, List.length_drop, hbl]
  unfold maxLen at hcm
  have x0 := hB.cell (i := 0) rfl
  have x1 := hB.cell (i := 1) rfl
  have x2 := hB.cell (i := 2) rfl
  have HBx := Bl.hid hB
  have HRx := Bl.hid hrd
  have Hf := Bl.hid (And.intro hbl (And.intro hat (And.intro hr (And.intro hLc hcm))))
  have hn1 : (0 : Int) ≤ (n : Int) := by omega
  clear h hB hrd
  by_cases hok : sh = false ∧ n ≤ r.length
  · obtain ⟨rfl, hnr⟩ := hok
    rw [Bl.tkF_ok hnr]
    have hlt : decide ((L : Int) - (at' : Int) < (n : Int)) = false := decide_eq_false (by omega)
    have han : at' + n ≤ L := by omega
    have Hx := Bl.hid hnr
    clear hnr hrl hbl hr
    go_enter Tryd.func53, Tryd.ntmps53
    go_wp2_with fail
    go_quiet (fail)
    obtain ⟨w, hW⟩ : ∃ W, W = w0.drewN nq := ⟨_, rfl⟩
    rw [← hW]
    have HW : Hid (Bl.Ext w0 w ∧ w.heap.size = w0.heap.size) := Bl.hid (by rw [hW]; exact ⟨(Below.refl _ _).drewN _, rfl⟩)
    clear hW x0 x1 x2
    have hB := HBx.out.ext HW.out.1
    have hrd := HRx.out.kept (F' := fun k => k < X) fun b hb hl => ⟨hb, HW.out.1.block b hl⟩
    have q0 := hB.cell (i := 0) rfl
    have q1 := hB.cell (i := 1) rfl
    have q2 := hB.cell (i := 2) rfl
    rcases hrd with ⟨_, h5, _⟩ | ⟨g, o, c', h5, h6, h7, h8, h9⟩
    · omega
    injection h5 with e1 e2 e3
    subst e1 e3
    have hg : g < X := h9 (fun q => by
      have h10 := congrArg List.length q
      rw [Bl.ints_length] at h10
      have h10 : b.length = 0 := h10
      have := Hf.out.1
      omega)
    have HRt : Hid (∀ w2, Bl.Kq (fun k => k = X) w w2 → Bl.Rd w2 .u8 (.slice (some ⟨g, o + at', none⟩) n (c - at')) (r.take n)) := Bl.hid fun w2 hK => by
      refine .inr ⟨g, o + at', c - at', by rw [List.length_take, Nat.min_eq_left Hx.out], by rw [List.length_take]; omega, by unfold maxLen; omega, ?_⟩
      have h2 := Bl.rangeAt_take (Bl.rangeAt_drop h8 at') n
      rw [Bl.ints_drop', Bl.ints_take', ← Hf.out.2.2.1] at h2
      exact fun j v hv => hK.cell (by omega) (h2 j v hv)
    have HCu : Hid (∀ w2, Bl.Kq (fun k => k = X) w w2 → Bl.BoxC w2 X [.slice (some ⟨g, o, none⟩) L c, .int .i64 ((at' + n : Nat) : Int), .bool false] → Bl.Cur L w2 X (false, r.drop n)) := Bl.hid fun w2 hK hb2 =>
      ⟨⟨_, c, at' + n, b, hb2, Hf.out.1, han, by show r.drop n = _; rw [Hf.out.2.2.1, List.drop_drop], .inr ⟨g, o, c, rfl, h6, h7, fun j v hv => hK.cell (by omega) (h8 j v hv), fun _ => hg⟩, hLc, by unfold maxLen; omega⟩, H0.out.by'.drop n, hle⟩
    have f1 := hB.fz (i := 1) (show 1 < 3 by decide)
    have HP0 := hB.put (i := 1) (show 1 < 3 by decide) (.int .i64 ((at' : Int) + (n : Int)))
    have HPd : Hid (∀ m, Bl.BoxC ((w.setCell ⟨X, 1, none⟩ (.int .i64 ((at' : Int) + (n : Int)))).drewN m) X [.slice (some ⟨g, o, none⟩) L c, .int .i64 ((at' + n : Nat) : Int), .bool false]) := Bl.hid fun m => by
      rw [show ((at' + n : Nat) : Int) = (at' : Int) + (n : Int) from by omega]
      exact HP0.same rfl
    have HKd : Hid (∀ m, Bl.Kq (fun k => k = X) w ((w.setCell ⟨X, 1, none⟩ (.int .i64 ((at' : Int) + (n : Int)))).drewN m)) := Bl.hid fun m => by
      have h := (Bl.Kq.refl w).setCell (Q := fun k => k = X) ⟨X, 1, none⟩ rfl (.int .i64 ((at' : Int) + (n : Int)))
      exact ⟨h.os, h.tape, h.output, h.size, h.block⟩
    have p0 := HP0.cell (i := 0) rfl
    have p1 := HP0.cell (i := 1) rfl
    have ha0 : (0 : Int) ≤ (at' : Int) := by omega
    have ha1 : (at' : Int) ≤ (at' : Int) + (n : Int) := by omega
    have ha2 : (at' : Int) + (n : Int) ≤ (c : Int) := by omega
    have hcn : ¬ (c - at' = 0) := by omega
    have Hg := Bl.hid hg
    clear hB HP0 h6 h7 h8 h9 e2 hg
    go_wp2_with fail
    go_quiet (fail)
    go_wp2_with fail
    go_ret
    refine ⟨.slice (some ⟨g, o + at', none⟩) n (c - at'), ?_, HRt.out _ (HKd.out _), fun k hk => .inl ?_, HCu.out _ (HKd.out _) (HPd.out _), (Bl.Kq.of_ext HW.out.1).trans (HKd.out _)⟩
    · first | rfl | (rw [Nat.add_sub_cancel_left]; rfl)
    · cases hk; exact Hg.out
  · rw [Bl.tkF_no hok]
    cases sh
    · have hlt : decide ((L : Int) - (at' : Int) < (n : Int)) = true := decide_eq_true (by
        have : ¬ n ≤ r.length := fun q => hok ⟨rfl, q⟩
        omega)
      clear hok hrl hbl hr
      go_enter Tryd.func53, Tryd.ntmps53
      go_wp2_with fail
      go_quiet (fail)
      obtain ⟨w, hW⟩ : ∃ W, W = w0.drewN nq := ⟨_, rfl⟩
      rw [← hW]
      have HW : Hid (Bl.Ext w0 w ∧ w.heap.size = w0.heap.size) := Bl.hid (by rw [hW]; exact ⟨(Below.refl _ _).drewN _, rfl⟩)
      clear hW x0 x1 x2
      have hB := HBx.out.ext HW.out.1
      have hrd := HRx.out.kept (F' := fun k => k < X) fun b hb hl => ⟨hb, HW.out.1.block b hl⟩
      have q0 := hB.cell (i := 0) rfl
      have q1 := hB.cell (i := 1) rfl
      have q2 := hB.cell (i := 2) rfl
      have f2 := hB.fz (i := 2) (show 2 < 3 by decide)
      have HP := Bl.hid (hB.put (i := 2) (show 2 < 3 by decide) (.bool true))
      have HK : Hid (Bl.Kq (fun k => k = X) w (w.setCell ⟨X, 2, none⟩ (.bool true))) := Bl.hid ((Bl.Kq.refl w).setCell (Q := fun k => k = X) ⟨X, 2, none⟩ rfl _)
      have HC1 : Hid (Bl.Cur L (w.setCell ⟨X, 2, none⟩ (.bool true)) X (true, r)) := Bl.hid ⟨⟨p, c, at', b, HP.out, Hf.out.1, Hf.out.2.1, Hf.out.2.2.1, hrd.kept fun i hi hl => ⟨hi, HK.out.block i hl (fun q => by omega)⟩, Hf.out.2.2.2.1, by unfold maxLen; exact Hf.out.2.2.2.2⟩, H0.out.by', hle⟩
      obtain ⟨w2, hrun, hown, hE, hs⟩ := Bl.make_ints (P := Tryd.prog) tBytes n (by omega) (by unfold maxLen; omega) (w.setCell ⟨X, 2, none⟩ (.bool true))
      have HE := Bl.hid hE
      rw [show (w.setCell ⟨X, 2, none⟩ (.bool true)).heap.size = w.heap.size from by simp] at hown
      have HRd : Hid (Bl.Rd w2 .u8 (.slice (some ⟨w.heap.size, 0, none⟩) n n) (List.replicate n 0)) := Bl.hid (by
        have h := Bl.Rds.of_owns hown
        show Bl.Rds w2 _ (List.replicate n (0 : Int)).length _
        rw [List.length_replicate]; exact h)
      clear hB hrd hown hE hs
      go_wp2_with fail
      go_ret
      exact ⟨.slice (some ⟨w.heap.size, 0, none⟩) n n, rfl, HRd.out, fun k hk => .inr (by cases hk; exact Nat.le_of_eq HW.out.2.symm), HC1.out.ext HE.out, ((Bl.Kq.of_ext HW.out.1).trans HK.out).trans (Bl.Kq.of_ext HE.out)⟩
    · clear hok hrl hbl hr
      go_enter Tryd.func53, Tryd.ntmps53
      go_wp2_with fail
      go_quiet (fail)
      obtain ⟨w, hW⟩ : ∃ W, W = w0.drewN nq := ⟨_, rfl⟩
      rw [← hW]
      have HW : Hid (Bl.Ext w0 w ∧ w.heap.size = w0.heap.size) := Bl.hid (by rw [hW]; exact ⟨(Below.refl _ _).drewN _, rfl⟩)
      clear hW x0 x1 x2
      have hB := HBx.out.ext HW.out.1
      have hrd := HRx.out.kept (F' := fun k => k < X) fun b hb hl => ⟨hb, HW.out.1.block b hl⟩
      have q0 := hB.cell (i := 0) rfl
      have q1 := hB.cell (i := 1) rfl
      have q2 := hB.cell (i := 2) rfl
      have f2 := hB.fz (i := 2) (show 2 < 3 by decide)
      have HP := Bl.hid (hB.put (i := 2) (show 2 < 3 by decide) (.bool true))
      have HK : Hid (Bl.Kq (fun k => k = X) w (w.setCell ⟨X, 2, none⟩ (.bool true))) := Bl.hid ((Bl.Kq.refl w).setCell (Q := fun k => k = X) ⟨X, 2, none⟩ rfl _)
      have HC1 : Hid (Bl.Cur L (w.setCell ⟨X, 2, none⟩ (.bool true)) X (true, r)) := Bl.hid ⟨⟨p, c, at', b, HP.out, Hf.out.1, Hf.out.2.1, Hf.out.2.2.1, hrd.kept fun i hi hl => ⟨hi, HK.out.block i hl (fun q => by omega)⟩, Hf.out.2.2.2.1, by unfold maxLen; exact Hf.out.2.2.2.2⟩, H0.out.by', hle⟩
      obtain ⟨w2, hrun, hown, hE, hs⟩ := Bl.make_ints (P := Tryd.prog) tBytes n (by omega) (by unfold maxLen; omega) (w.setCell ⟨X, 2, none⟩ (.bool true))
      have HE := Bl.hid hE
      rw [show (w.setCell ⟨X, 2, none⟩ (.bool true)).heap.size = w.heap.size from by simp] at hown
      have HRd : Hid (Bl.Rd w2 .u8 (.slice (some ⟨w.heap.size, 0, none⟩) n n) (List.replicate n 0)) := Bl.hid (by
        have h := Bl.Rds.of_owns hown
        show Bl.Rds w2 _ (List.replicate n (0 : Int)).length _
        rw [List.length_replicate]; exact h)
      clear hB hrd hown hE hs
      go_wp2_with fail
      go_ret
      exact ⟨.slice (some ⟨w.heap.size, 0, none⟩) n n, rfl, HRd.out, fun k hk => .inr (by cases hk; exact Nat.le_of_eq HW.out.2.symm), HC1.out.ext HE.out, ((Bl.Kq.of_ext HW.out.1).trans HK.out).trans (Bl.Kq.of_ext HE.out)⟩
end Go.Proofs.YtmmolapkddbibaaDoor

/- Rows that grow while the document's cursor takes: what holds in between; a copy in the walk. No program. -/
namespace Go.Proofs.Bl
open Go Go.RowKit
/-- what the document's Parse hands back -/
def ParD (pr : Nat × LT) (w : World) (e : Ending) (w' : World) : Prop := ∃ v', e = .returned (.tuple #[v', .int .i64 (pr.1 : Nat)]) ∧ LtV w' v' pr.2 ∧ Ext w w'
theorem LtV.zero (w : World) : LtV w (.agg zL) lt0 := ⟨_, _, _, _, [], rfl, LtC.zero w⟩
theorem eaT_dec {α : Type} (f : Rst → List α × Rst) (m : Nat) (s : Rst) (hm : 0 < m) (h : s.1 = false) : eaT f m s = ((f s).1 ++ (eaT f (m - 1) (f s).2).1, (eaT f (m - 1) (f s).2).2) := by
  obtain ⟨k, rfl⟩ : ∃ k, m = k + 1 := ⟨m - 1, by omega⟩
  rw [Nat.add_sub_cancel]
  simp [eaT, h]
theorem Pk.zero (w : World) (e : TypeId) (B : Nat) (h : B ≤ w.heap.size) : Pk (w.alloc (.cells #[] e)) B 1 (.slice (some ⟨w.heap.size, 0, none⟩) 0 0) 0 [] := Pk.of_owns (owns_nil_lit w e B h 1)
theorem GP.kx {α : Type} {f : α → List Value} {s : Nat} {Ok : (Nat → Prop) → World → α → Prop} (hS : Stab Ok) {B : Nat} {W0 w : World} {X Y fi : Nat} {cs : List Value} {v : Value} {M : List α} (h : GP f s Ok B W0 Y fi cs v M) (k : Kq (fun k => k = X ∨ W0.heap.size ≤ k) W0 w) (hXY : X < Y) (hX : X < B) : GP f s Ok B w Y fi cs v M :=
  h.kept (Q := fun k => k = X) hS (k.mono fun j hj q => by omega) (fun q => by omega) (fun b hb q => by omega)
/-- a row of slices of bytes, each a copy of what is taken -/
structure JB (Len B X Y fi : Nat) (cs : List Value) (vr : Value) (M : List Bv) (sa sb : Rst) (st : List Int) (W0 : World) (d : Nat → Bool) (u : Nat → Value) (w : World) : Prop where
  kk : d 7 = false → Kq (fun k => k = X ∨ W0.heap.size ≤ k) W0 w
  a : d 4 = false → Cur Len w X sa
  b : d 4 = true → d 7 = false → Cur Len w X sb
  c : d 2 = true → d 5 = false → Pk w W0.heap.size 1 (u 77) 0 []
  e : d 4 = true → d 5 = false → Rd w .u8 (u 79) st
  f : d 5 = true → d 6 = false → Pk w W0.heap.size 1 (u 80) st.length (ints .u8 st)
  g : d 6 = true → d 7 = false → F2 Len cB 1 OkB B X Y fi cs vr M (fun y => y.2 = st) sb (u 81) w
  h : d 7 = true → F3 Len cB 1 OkB B X Y fi cs vr M (fun y => y.2 = st) sb (u 82) w
section
variable {Len B X Y fi : Nat} {cs : List Value} {vr : Value} {M : List Bv} {sa sb : Rst} {st : List Int} {W0 : World} {d : Nat → Bool} {u : Nat → Value} {w w' : World}
theorem JB.start (h : Cur Len w X sa) (k : Kq (fun k => k = X ∨ W0.heap.size ≤ k) W0 w) : JB Len B X Y fi cs vr M sa sb st W0 (fun _ => false) u w :=
  ⟨fun _ => k, fun _ => h, fun q => (by cases q), fun q => (by cases q), fun q => (by cases q), fun q => (by cases q), fun q => (by cases q), fun q => (by cases q)⟩
theorem JB.same {i t : Nat} {v : Value} (h : JB Len B X Y fi cs vr M sa sb st W0 d u w) (hi : (decide (i = 2) || decide (i = 4) || decide (i = 5) || decide (i = 6) || decide (i = 7) || decide (t = 77) || decide (t = 79) || decide (t = 80) || decide (t = 81) || decide (t = 82)) = false) : JB Len B X Y fi cs vr M sa sb st W0 (upd d i) (updv (some t) u v) w := by
  simp only [Bool.or_eq_false_iff, decide_eq_false_iff_not] at hi
  obtain ⟨⟨⟨⟨⟨⟨⟨⟨⟨h1, h2⟩, h3⟩, h4⟩, h5⟩, h6⟩, h7⟩, h8⟩, h9⟩, h10⟩ := hi
  have a1 : upd d i 2 = d 2 := if_neg (fun e => h1 e.symm)
  have a2 : upd d i 4 = d 4 := if_neg (fun e => h2 e.symm)
  have a3 : upd d i 5 = d 5 := if_neg (fun e => h3 e.symm)
  have a4 : upd d i 6 = d 6 := if_neg (fun e => h4 e.symm)
  have a5 : upd d i 7 = d 7 := if_neg (fun e => h5 e.symm)
  have b1 : updv (some t) u v 77 = u 77 := if_neg (fun e => h6 e.symm)
  have b2 : updv (some t) u v 79 = u 79 := if_neg (fun e => h7 e.symm)
  have b3 : updv (some t) u v 80 = u 80 := if_neg (fun e => h8 e.symm)
  have b4 : updv (some t) u v 81 = u 81 := if_neg (fun e => h9 e.symm)
  have b5 : updv (some t) u v 82 = u 82 := if_neg (fun e => h10 e.symm)
  exact ⟨by rw [a5]; exact h.kk, by rw [a2]; exact h.a, by rw [a2, a5]; exact h.b, by rw [a1, a3, b1]; exact h.c, by rw [a2, a3, b2]; exact h.e, by rw [a3, a4, b3]; exact h.f, by rw [a4, a5, b4]; exact h.g, by rw [a5, b5]; exact h.h⟩
theorem JB.mk' (h : JB Len B X Y fi cs vr M sa sb st W0 d u w) (h5 : d 5 = false) (h6 : d 6 = false) (h7 : d 7 = false) (e : TypeId) : JB Len B X Y fi cs vr M sa sb st W0 (upd d 2) (updv (some 77) u (.slice (some ⟨w.heap.size, 0, none⟩) 0 0)) (w.alloc (.cells #[] e)) := by
  have hE := ext_alloc w (.cells #[] e)
  exact ⟨fun q => (h.kk q).trans (Kq.of_ext hE), fun q => (h.a q).ext hE, fun q q7 => (h.b q q7).ext hE, fun _ _ => Pk.zero w e _ (h.kk h7).size, fun q q5 => Rds.ext (h.e q q5) hE, fun q => (by have q : d 5 = true := q; rw [h5] at q; cases q), fun q => (by have q : d 6 = true := q; rw [h6] at q; cases q), fun q => (by have q : d 7 = true := q; rw [h7] at q; cases q)⟩
theorem JB.tk (h : JB Len B X Y fi cs vr M sa sb st W0 d u w) (h5 : d 5 = false) (h6 : d 6 = false) (h7 : d 7 = false) (hX : X < W0.heap.size) {v' : Value} (r : Rd w' .u8 v' st) (hc : Cur Len w' X sb) (k : Kq (fun k => k = X) w w') : JB Len B X Y fi cs vr M sa sb st W0 (upd d 4) (updv (some 79) u v') w' :=
  ⟨fun q => (h.kk q).trans (k.mono fun _ _ q => .inl q), fun q => (by cases q), fun _ _ => hc, fun q q5 => (h.c q q5).kept (fun j hj => k.block j ((h.c q q5).block j hj).2 (fun q => by have := ((h.c ‹_› ‹_›).block j hj).1; omega)) k.size, fun _ _ => r, fun q => (by have q : d 5 = true := q; rw [h5] at q; cases q), fun q => (by have q : d 6 = true := q; rw [h6] at q; cases q), fun q => (by have q : d 7 = true := q; rw [h7] at q; cases q)⟩
theorem JB.ap (h : JB Len B X Y fi cs vr M sa sb st W0 d u w) (h2 : d 2 = true) (h4 : d 4 = true) (h5 : d 5 = false) (h6 : d 6 = false) (h7 : d 7 = false) (hX : X < W0.heap.size) (hB : B ≤ W0.heap.size) {v' : Value} (p : Pk w' W0.heap.size 1 v' (0 + st.length) ([] ++ ints .u8 st)) (g : w.grownBy w' (u 77).ownBlock) : Kq (fun k => k = X ∨ B ≤ k) w w' ∧ JB Len B X Y fi cs vr M sa sb st W0 (upd d 5) (updv (some 80) u v') w' := by
  have hK : Kq (fun k => W0.heap.size ≤ k) w w' := Kq.grown g fun k hk => ((h.c h2 h5).block k hk).1
  rw [Nat.zero_add, List.nil_append] at p
  exact ⟨hK.mono fun k _ q => .inr (Nat.le_trans hB q), fun q => (h.kk q).trans (hK.mono fun _ _ q => .inr q), fun q => (by have q : d 4 = false := q; rw [h4] at q; cases q), fun _ q7 => (h.b h4 q7).kept hK (fun i hi q => by omega), fun _ q => (by cases q), fun _ q => (by cases q), fun _ _ => p, fun q => (by have q : d 6 = true := q; rw [h6] at q; cases q), fun q => (by have q : d 7 = true := q; rw [h7] at q; cases q)⟩
theorem JB.f1 (h : JB Len B X Y fi cs vr M sa sb st W0 d u w) (h4 : d 4 = true) (h5 : d 5 = true) (h6 : d 6 = false) (h7 : d 7 = false) (hG : GP cB 1 OkB B W0 Y fi cs vr M) (hB : B ≤ W0.heap.size) (hXY : X < Y) (hX : X < B) (hb : Byt st) : F1 Len cB 1 OkB B X Y fi cs vr M (fun y => y.2 = st) sb (u 80) w := by
  have hp := h.f h5 h6
  obtain ⟨p, c, hf, _⟩ := hp.rds.form
  have hs : SlB w (u 80) st := ⟨p, c, hf, hp.rds⟩
  have hk := h.kk h7
  refine ⟨(u 80, st), rfl, cB_cells hs, rfl, cB_one hs, ⟨RdsF.of_rds hp.rds fun b hb' _ => ?_, hb⟩, h.b h4 h7, hG.kx stab_okB hk hXY hX, Nat.le_trans hB hk.size⟩
  have h1 := (hp.block b hb').1
  refine ⟨fun q => ?_, fun q => ?_, Nat.le_trans hB h1⟩
  · have := hG.box.lt; omega
  · have := (hG.own.block b q).2; omega
theorem JB.bd (h : JB Len B X Y fi cs vr M sa sb st W0 d u w) (h4 : d 4 = true) (h5 : d 5 = true) (h6 : d 6 = false) (h7 : d 7 = false) (hG : GP cB 1 OkB B W0 Y fi cs vr M) (hB : B ≤ W0.heap.size) (hXY : X < Y) (hX : X < B) (hb : Byt st) (e : TypeId) : JB Len B X Y fi cs vr M sa sb st W0 (upd d 6) (updv (some 81) u (.slice (some ⟨w.heap.size, 0, none⟩) 1 1)) (w.alloc (.cells (u 80).cells e)) := by
  have hE := ext_alloc w (.cells (u 80).cells e)
  have h1 := h.f1 h4 h5 h6 h7 hG hB hXY hX hb
  exact ⟨fun q => (h.kk q).trans (Kq.of_ext hE), fun q => (by have q : d 4 = false := q; rw [h4] at q; cases q), fun q q7 => (h.b q q7).ext hE, fun _ q => (by have q : d 5 = false := q; rw [h5] at q; cases q), fun _ q => (by have q : d 5 = false := q; rw [h5] at q; cases q), fun _ q => (by cases q), fun _ _ => h1.f2 stab_okB e, fun q => (by have q : d 7 = true := q; rw [h7] at q; cases q)⟩
theorem JB.app (h4 : d 4 = true) (h5 : d 5 = true) (h6 : d 6 = true) {v' : Value} (h : F3 Len cB 1 OkB B X Y fi cs vr M (fun y => y.2 = st) sb v' w') : JB Len B X Y fi cs vr M sa sb st W0 (upd d 7) (updv (some 82) u v') w' :=
  ⟨fun q => (by cases q), fun q => (by have q : d 4 = false := q; rw [h4] at q; cases q), fun _ q => (by cases q), fun _ q => (by have q : d 5 = false := q; rw [h5] at q; cases q), fun _ q => (by have q : d 5 = false := q; rw [h5] at q; cases q), fun _ q => (by have q : d 6 = false := q; rw [h6] at q; cases q), fun _ q => (by cases q), fun _ => h⟩
end
/-- a row of numbers, each read from what is taken -/
structure JI (Len B X Y fi : Nat) (cs : List Value) (vr : Value) (M : List Int) (sa sb : Rst) (st : List Int) (n : Int) (d : Nat → Bool) (u : Nat → Value) (w : World) : Prop where
  a : d 3 = false → F0 Len cI 1 OkT B X Y fi cs vr M sa w
  b : d 3 = true → d 4 = false → Rd w .u8 (u 104) st ∧ F0 Len cI 1 OkT B X Y fi cs vr M sb w
  c : d 4 = true → d 5 = false → F1 Len cI 1 OkT B X Y fi cs vr M (fun y => y = n) sb (u 105) w
  e : d 5 = true → d 6 = false → F2 Len cI 1 OkT B X Y fi cs vr M (fun y => y = n) sb (u 106) w
  f : d 6 = true → F3 Len cI 1 OkT B X Y fi cs vr M (fun y => y = n) sb (u 107) w
section
variable {Len B X Y fi : Nat} {cs : List Value} {vr : Value} {M : List Int} {sa sb : Rst} {st : List Int} {n : Int} {d : Nat → Bool} {u : Nat → Value} {w w' : World}
theorem JI.start (h : F0 Len cI 1 OkT B X Y fi cs vr M sa w) : JI Len B X Y fi cs vr M sa sb st n (fun _ => false) u w :=
  ⟨fun _ => h, fun q => (by cases q), fun q => (by cases q), fun q => (by cases q), fun q => (by cases q)⟩
theorem JI.same {i t : Nat} {v : Value} (h : JI Len B X Y fi cs vr M sa sb st n d u w) (hi : (decide (i = 3) || decide (i = 4) || decide (i = 5) || decide (i = 6) || decide (t = 104) || decide (t = 105) || decide (t = 106) || decide (t = 107)) = false) : JI Len B X Y fi cs vr M sa sb st n (upd d i) (updv (some t) u v) w := by
  simp only [Bool.or_eq_false_iff, decide_eq_false_iff_not] at hi
  obtain ⟨⟨⟨⟨⟨⟨⟨h1, h2⟩, h3⟩, h4⟩, h5⟩, h6⟩, h7⟩, h8⟩ := hi
  have a1 : upd d i 3 = d 3 := if_neg (fun e => h1 e.symm)
  have a2 : upd d i 4 = d 4 := if_neg (fun e => h2 e.symm)
  have a3 : upd d i 5 = d 5 := if_neg (fun e => h3 e.symm)
  have a4 : upd d i 6 = d 6 := if_neg (fun e => h4 e.symm)
  have b1 : updv (some t) u v 104 = u 104 := if_neg (fun e => h5 e.symm)
  have b2 : updv (some t) u v 105 = u 105 := if_neg (fun e => h6 e.symm)
  have b3 : updv (some t) u v 106 = u 106 := if_neg (fun e => h7 e.symm)
  have b4 : updv (some t) u v 107 = u 107 := if_neg (fun e => h8 e.symm)
  exact ⟨by rw [a1]; exact h.a, by rw [a1, a2, b1]; exact h.b, by rw [a2, a3, b2]; exact h.c, by rw [a3, a4, b3]; exact h.e, by rw [a4, b4]; exact h.f⟩
theorem JI.tk (h : JI Len B X Y fi cs vr M sa sb st n d u w) (h3 : d 3 = false) (h4 : d 4 = false) (h5 : d 5 = false) (h6 : d 6 = false) (hXY : X < Y) (hX : X < B) {v' : Value} (r : Rd w' .u8 v' st) (hc : Cur Len w' X sb) (k : Kq (fun k => k = X) w w') : JI Len B X Y fi cs vr M sa sb st n (upd d 3) (updv (some 104) u v') w' :=
  ⟨fun q => (by cases q), fun _ _ => ⟨r, hc, (h.a h3).2.1.kept stab_okT k (fun q => by omega) (fun b hb q => by omega), Nat.le_trans (h.a h3).2.2 k.size⟩, fun q => (by have q : d 4 = true := q; rw [h4] at q; cases q), fun q => (by have q : d 5 = true := q; rw [h5] at q; cases q), fun q => (by have q : d 6 = true := q; rw [h6] at q; cases q)⟩
theorem JI.nm (h : JI Len B X Y fi cs vr M sa sb st n d u w) (h3 : d 3 = true) (h4 : d 4 = false) (h5 : d 5 = false) (h6 : d 6 = false) : JI Len B X Y fi cs vr M sa sb st n (upd d 4) (updv (some 105) u (.int .i64 n)) w :=
  ⟨fun q => (by have q : d 3 = false := q; rw [h3] at q; cases q), fun _ q => (by cases q), fun _ _ => ⟨n, rfl, rfl, rfl, cI_one n, trivial, (h.b h3 h4).2.1, (h.b h3 h4).2.2.1, (h.b h3 h4).2.2.2⟩, fun q => (by have q : d 5 = true := q; rw [h5] at q; cases q), fun q => (by have q : d 6 = true := q; rw [h6] at q; cases q)⟩
theorem JI.bd (h : JI Len B X Y fi cs vr M sa sb st n d u w) (h3 : d 3 = true) (h4 : d 4 = true) (h5 : d 5 = false) (h6 : d 6 = false) (e : TypeId) : JI Len B X Y fi cs vr M sa sb st n (upd d 5) (updv (some 106) u (.slice (some ⟨w.heap.size, 0, none⟩) 1 1)) (w.alloc (.cells (u 105).cells e)) :=
  ⟨fun q => (by have q : d 3 = false := q; rw [h3] at q; cases q), fun _ q => (by have q : d 4 = false := q; rw [h4] at q; cases q), fun _ q => (by cases q), fun _ _ => (h.c h4 h5).f2 stab_okT e, fun q => (by have q : d 6 = true := q; rw [h6] at q; cases q)⟩
theorem JI.app (h3 : d 3 = true) (h4 : d 4 = true) (h5 : d 5 = true) {v' : Value} (h : F3 Len cI 1 OkT B X Y fi cs vr M (fun y => y = n) sb v' w') : JI Len B X Y fi cs vr M sa sb st n (upd d 6) (updv (some 107) u v') w' :=
  ⟨fun q => (by have q : d 3 = false := q; rw [h3] at q; cases q), fun _ q => (by have q : d 4 = false := q; rw [h4] at q; cases q), fun _ q => (by have q : d 5 = false := q; rw [h5] at q; cases q), fun _ q => (by cases q), fun _ => h⟩
end
/-- what is taken for a digest -/
structure JTk (Len X : Nat) (sa sb : Rst) (st : List Int) (d : Nat → Bool) (u : Nat → Value) (w : World) : Prop where
  a : d 2 = false → Cur Len w X sa
  b : d 2 = true → Cur Len w X sb ∧ Rd w .u8 (u 151) st
section
variable {Len X : Nat} {sa sb : Rst} {st : List Int} {d : Nat → Bool} {u : Nat → Value} {w w' : World}
theorem JTk.start (h : Cur Len w X sa) : JTk Len X sa sb st (fun _ => false) u w := ⟨fun _ => h, fun q => (by cases q)⟩
theorem JTk.same {i t : Nat} {v : Value} (h : JTk Len X sa sb st d u w) (hi : (decide (i = 2) || decide (t = 151)) = false) : JTk Len X sa sb st (upd d i) (updv (some t) u v) w := by
  simp only [Bool.or_eq_false_iff, decide_eq_false_iff_not] at hi
  have a1 : upd d i 2 = d 2 := if_neg (fun e => hi.1 e.symm)
  have b1 : updv (some t) u v 151 = u 151 := if_neg (fun e => hi.2 e.symm)
  exact ⟨by rw [a1]; exact h.a, by rw [a1, b1]; exact h.b⟩
theorem JTk.tk {v' : Value} (r : Rd w' .u8 v' st) (hc : Cur Len w' X sb) : JTk Len X sa sb st (upd d 2) (updv (some 151) u v') w' :=
  ⟨fun q => (by cases q), fun _ => ⟨hc, r⟩⟩
end
section
variable {P : Program} {ops : Array Oper} {rest : List Oper} {a : Act} {w w' : World} {Q : Exit → Act → World → Prop} {d : Option Tmp} {tt t t2 : TypeId} {pp : String} {af : Array Edge} {s x : Operand} {v u r : Value}
theorem stop_copy {args : Array Operand} {ts : Array TypeId} (h : Stuck (wpList P ops Q (⟨d, .call { callee := .builtin .copy, args := args, argTypes := ts }, tt, pp, af, none⟩ :: rest) a w)) : wpList P ops Q (⟨d, .call { callee := .builtin .copy, args := args, argTypes := ts }, tt, pp, af, none⟩ :: rest) a w := h
theorem wpL_copy (hr : ∀ ty, (Builtin.copy_ #[t, t2] ty #[v, u]).run P w = .ok r w') (hs : a.eval s = v) (hx : a.eval x = u) (h : wpList P ops Q rest (a.put d r) w') :
    wpList P ops Q (⟨d, .call { callee := .builtin .copy, args := #[s, x], argTypes := #[t, t2] }, tt, pp, af, none⟩ :: rest) a w :=
  wpList_plain rfl fun K hK => by
    unfold Oper.wp execOp
    simp only [resolve, invoke, builtin, Sem.run_bind, Sem.run_pure, Result.andThen_ok, List.map_toArray, List.map_cons, List.map_nil, hs, hx, hr]
    exact hK _ _ h
/-- bytes are copied over all of a variable's cells -/
theorem copy_box {e : TypeId} {D b o n c : Nat} {zs : List Value} {st : List Int} (hu : P.underlying t = some (.slice e)) (hs : (P.info? e).map (·.size) = some 1) (hB : BoxC w D zs) (hz : zs.length = n) (hr : w.rangeAt b o (ints .u8 st)) (hl : st.length = n) (ty : TypeId) :
    (Builtin.copy_ #[t, t2] ty #[.slice (some ⟨D, 0, none⟩) n n, .slice (some ⟨b, o, none⟩) n c]).run P w = .ok (goInt (ints .u8 st).length) (w.setCells D 0 (ints .u8 st)) :=
  run_copy_cells (P := P) w t t2 ty e D 0 n n ⟨b, o, none⟩ n c (ints .u8 st) hu hs (by rw [ints_length, hl]; exact (Nat.min_self n).symm) (fun j u hj => by rw [Addr.add_mid]; exact hr j u hj) (fun j hj => (hB.th j (by rw [ints_length] at hj; omega)).1) (fun j hj => (hB.th j (by rw [ints_length] at hj; omega)).2) (ints_one _ _)
end
end Go.Proofs.Bl

/- The document's cursor in its Parse: what take and number do, each step by itself. -/
namespace Go.Proofs.YtmmolapkddbibaaDoor
open Go Go.RowKit Go.Proofs
def DTake (L X nb : Nat) (s : Bl.Rst) (y : List Int) (s' : Bl.Rst) : Prop := ∀ w2, Bl.Cur L w2 X s → Calls Tryd.prog 53 #[.pointer (some ⟨X, 0, none⟩), .int .i64 nb] w2 fun e w' => ∃ v', e = .returned v' ∧ Bl.Rd w' .u8 v' y ∧ Bl.Cur L w' X s' ∧ Bl.Kq (fun k => k = X) w2 w'
def DNum (y : List Int) (z : Int) : Prop := ∀ v w2, Bl.Rd w2 .u8 v y → Calls Tryd.prog 52 #[v] w2 fun e w' => e = .returned (.int .i64 z) ∧ w' = w2
theorem ctake_all (L X nb : Nat) (s : Bl.Rst) (h1 : 1 ≤ nb) (hn : nb ≤ 9000) : DTake L X nb s (Bl.tkF nb s).1 (Bl.tkF nb s).2 := fun w2 h => (ctake_any L X nb s w2 h h1 hn).mono fun _ _ ⟨v', g0, g1, _, g3, g4⟩ => ⟨v', g0, g1, g3, g4⟩
theorem cnumb_all (nb : Nat) (s : Bl.Rst) (hn : nb ≤ 9000) (hb : Bl.Byt s.2) : DNum (Bl.tkF nb s).1 (Bl.numF 0 (Bl.tkF nb s).1) := fun v w2 h => cnumb_any v _ w2 h (Bl.tkF_byt hb).1 (by rw [Bl.tkF_len]; exact hn)
theorem cnumb_two (s : Bl.Rst) (hb : Bl.Byt s.2) : DNum (Bl.tkF 2 s).1 (Bl.nuF 2 s).1 := by
  have h := cnumb_all 2 s (by decide) hb
  rw [Bl.numF_small (Bl.tkF_byt hb).1 (Bl.nu2F_le hb).2] at h
  exact h
theorem cnumb_one (s : Bl.Rst) (hb : Bl.Byt s.2) : DNum (Bl.tkF 1 s).1 (Bl.nuF 1 s).1 := by
  have h := cnumb_all 1 s (by decide) hb
  rw [Bl.numF_small (Bl.tkF_byt hb).1 (by have h2 := (Bl.nu1F_le hb).2; have h3 : Bl.numR (Bl.tkF 1 s).1 ≤ 255 := h2; omega)] at h
  exact h
end Go.Proofs.YtmmolapkddbibaaDoor

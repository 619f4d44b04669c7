/- The sentinel errors of package api: what they hold, and that they are apart; out of what is laid. -/
import Derived.LaidSub
import Derived.MakeChecks
import Derived.Stop.LaidErr
import Derived.Test.YtmmolapkddbibaaDoorLib0
import Derived.Test.YtmmolapkddbibaaDoorChecked
namespace Go.Proofs.Bl
open Go Go.RowKit Go.ChangeShapes
abbrev errD (t : List UInt8) : DataW Unit := .iface "*errors.errorString" (.ptr (.agg [.lit (.string t)]))
theorem errD_handle (t : List UInt8) : ((errD t).handleName?).isNone = true := by simp [DataW.handleName?]
/-- sentinels: the variables g i hold pointers a i, each apart from the others -/
structure ErrsP (g : Nat → Nat) (tp : TypeId) (S : List Nat) (a : Nat → Addr) (w : World) : Prop where
  cell : ∀ i ∈ S, w.cell? ⟨g i, 0, none⟩ = some (.iface tp (.pointer (some (a i))))
  row : ∀ i ∈ S, ∃ c t, w.heap[(a i).block]? = some (.cells c t (0, 0))
  ne : ∀ i ∈ S, ∀ j ∈ S, i ≠ j → a i ≠ a j
theorem ErrsP.ext {g : Nat → Nat} {tp : TypeId} {S : List Nat} {a : Nat → Addr} {w w' : World} (h : ErrsP g tp S a w) (hE : Ext w w') : ErrsP g tp S a w' :=
  ⟨fun i hi => ((bcell hE).1 _ _ (World.block_lt_of_cell? _ _ (h.cell i hi))).trans (h.cell i hi), fun i hi => by
    obtain ⟨c, t, hr⟩ := h.row i hi
    exact ⟨c, t, (hE.block _ (Array.getElem?_eq_some_iff.1 hr).1).trans hr⟩, h.ne⟩
theorem errs_ind {P : Program} {w : World} {g : Nat → Nat} {nm : Nat → String} {ti tp te ts : TypeId} {ms : Array (String × TypeId)} {f : Field}
    (hi : P.underlying ti = some (.interface ms)) (hrow : ∀ u, P.typeName? 3 u = some "*errors.errorString" → u = tp) (hp : P.underlying tp = some (.pointer te)) (he : P.underlying te = some (.struct #[f])) (hft : f.type = ts) (hfo : f.offset = 0) (hs : P.underlying ts = some .string) (hc : P.cellsOf te = 1) (hcs : P.cellsOf ts = 1) :
    ∀ (xs : List (Nat × List UInt8)) (ps : List MemPlace), (∀ x ∈ xs, P.globalNamed (nm x.1) = some (g x.1) ∧ (P.globals[g x.1]?).map (·.type) = some ti) → (xs.map (·.1)).Nodup →
      DataW.LaidVars P w (xs.map fun x => (nm x.1, errD x.2)) ps → ps.Nodup → (∀ b off, MemPlace.cell b off ∈ ps → (∃ c t, w.heap[b]? = some (.cells c t (0, 0))) ∧ ∀ u v, w.cell? ⟨b, off, none⟩ = some (.iface u v) → Value.okWide P w .any 0 u v) →
      ∃ a : Nat → Addr, ErrsP g tp (xs.map (·.1)) a w ∧ ∀ i ∈ xs.map (·.1), MemPlace.cell (a i).block (a i).off ∈ ps
  | [], _, _, _, _, _, _ => ⟨fun _ => ⟨0, 0, none⟩, ⟨fun _ h => by simp at h, fun _ h => by simp at h, fun _ h => by simp at h⟩, fun _ h => by simp at h⟩
  | (n, t) :: r, ps, hx, hnd, hv, hps, hrows => by
    obtain ⟨g0, t0, cs0, f0, p0, q0, hg0, ht0, hv0, hd0, hq, e⟩ := hv
    obtain ⟨hg, ht⟩ := hx (n, t) (by simp)
    obtain rfl := Option.some.inj (hg.symm.trans hg0)
    obtain rfl := Option.some.inj (ht.symm.trans ht0)
    subst e
    obtain ⟨l0⟩ := cs0
    have ok0 : ∀ u v, l0 = [.iface u v] → Value.okWide P w .any 0 u v := fun u v e => by
      subst e
      exact (hrows (g n) 0 (by simp [MemPlace.row])).2 u v (by simpa using World.var?_cell hg0 hv0 0)
    obtain ⟨a0, s0, rfl, hc0, hs0, hz0, rfl⟩ := errorString_of_trod hi hrow hp he hft hfo hs hc hcs hd0 ok0
    have hn : n ∉ r.map (·.1) := (List.nodup_cons.1 hnd).1
    obtain ⟨a, hA, hin⟩ := errs_ind hi hrow hp he hft hfo hs hc hcs r q0 (fun x h => hx x (by simp [h])) (List.nodup_cons.1 hnd).2 hq (List.Nodup.sublist (List.sublist_append_right _ _) hps) (fun b off h => hrows b off (List.mem_append_right _ h))
    have hdis : ∀ i ∈ r.map (·.1), a0 ≠ a i := fun i hi e => by
      have h1 := hin i hi
      rw [← e] at h1
      refine (List.nodup_append.1 hps).2.2 (MemPlace.cell a0.block a0.off) ?_ _ h1 rfl
      simp [MemPlace.row]
    have hcell0 : w.cell? ⟨g n, 0, none⟩ = some (.iface tp (.pointer (some a0))) := by simpa using World.var?_cell hg0 hv0 0
    have hne : ∀ i ∈ r.map (·.1), i ≠ n := fun i hi q => hn (q ▸ hi)
    have hp : ∀ i, i = n → (if i = n then a0 else a i) = a0 := fun i e => if_pos e
    have hq' : ∀ i, i ∈ r.map (·.1) → (if i = n then a0 else a i) = a i := fun i h => if_neg (hne i h)
    refine ⟨fun i => if i = n then a0 else a i, ⟨fun i hi => ?_, fun i hi => ?_, fun i hi j hj hij => ?_⟩, fun i hi => ?_⟩
    · rcases List.mem_cons.1 hi with e | h1
      · rw [hp i e, e]; exact hcell0
      · rw [hq' i h1]; exact hA.cell i h1
    · rcases List.mem_cons.1 hi with e | h1
      · show ∃ c t, w.heap[(if i = n then a0 else a i).block]? = _
        rw [hp i e]; exact (hrows a0.block a0.off (by simp [MemPlace.row])).1
      · show ∃ c t, w.heap[(if i = n then a0 else a i).block]? = _
        rw [hq' i h1]; exact hA.row i h1
    · show (if i = n then a0 else a i) ≠ (if j = n then a0 else a j)
      rcases List.mem_cons.1 hi with e | h1
      · rcases List.mem_cons.1 hj with e2 | h2
        · exact absurd (e.trans e2.symm) hij
        · rw [hp i e, hq' j h2]; exact hdis j h2
      · rcases List.mem_cons.1 hj with e2 | h2
        · rw [hq' i h1, hp j e2]; exact (hdis i h1).symm
        · rw [hq' i h1, hq' j h2]; exact hA.ne i h1 j h2 hij
    · show MemPlace.cell (if i = n then a0 else a i).block (if i = n then a0 else a i).off ∈ _
      rcases List.mem_cons.1 hi with e | h1
      · rw [hp i e]; simp [MemPlace.row]
      · rw [hq' i h1]; exact List.mem_append_right _ (hin i h1)
theorem errs_of {P : Program} {w : World} {g : Nat → Nat} {nm : Nat → String} {ti tp te ts : TypeId} {ms : Array (String × TypeId)} {f : Field}
    (hi : P.underlying ti = some (.interface ms)) (hrow : ∀ u, P.typeName? 3 u = some "*errors.errorString" → u = tp) (hp : P.underlying tp = some (.pointer te)) (he : P.underlying te = some (.struct #[f])) (hft : f.type = ts) (hfo : f.offset = 0) (hs : P.underlying ts = some .string) (hc : P.cellsOf te = 1) (hcs : P.cellsOf ts = 1)
    {L : List (String × DataW Unit)} (h : laidMetH P L w) (keep : String × DataW Unit → Bool) (xs : List (Nat × List UInt8)) (hx : ∀ x ∈ xs, P.globalNamed (nm x.1) = some (g x.1) ∧ (P.globals[g x.1]?).map (·.type) = some ti) (hnd : (xs.map (·.1)).Nodup) (hf : L.filter keep = xs.map fun x => (nm x.1, errD x.2)) :
    ∃ a : Nat → Addr, ErrsP g tp (xs.map (·.1)) a w := by
  have h1 := h.filter keep
  rw [hf, MakeChecks.laidMetH_plain _ _ _ (List.all_eq_true.2 fun x hx => by
    obtain ⟨y, _, rfl⟩ := List.mem_map.1 hx
    exact errD_handle y.2)] at h1
  obtain ⟨ps, hv, hn, hrows⟩ := h1
  obtain ⟨a, hA, _⟩ := errs_ind hi hrow hp he hft hfo hs hc hcs xs ps hx hnd hv hn hrows
  exact ⟨a, hA⟩
end Go.Proofs.Bl
namespace Go.Proofs.YtmmolapkddbibaaDoor
open Go Go.RowKit Go.Proofs
/-- the errors' variables and names, by their numbers -/
def gE (i : Nat) : Nat := [0, 2, 3, 4, 5, 6, 7, 8, 9, 10, 11, 12, 13, 14, 15, 16, 17, 18, 19, 20, 21].getD i 0
def nE (i : Nat) : String := ["", "bailee/api.ErrRange", "bailee/api.ErrShort", "bailee/api.ErrLong", "bailee/api.ErrForm", "bailee/api.ErrSum", "bailee/api.ErrName", "bailee/api.ErrKind", "bailee/api.ErrSize", "bailee/api.ErrKey", "bailee/api.ErrDup", "bailee/api.ErrNone", "bailee/api.ErrFull", "bailee/api.ErrState", "bailee/api.ErrPower", "bailee/api.ErrProof", "bailee/api.ErrSpare", "bailee/api.ErrLost", "bailee/api.ErrBudget", "bailee/api.ErrLate", "bailee/api.ErrZero"].getD i ""
abbrev Errs (S : List Nat) (a : Nat → Addr) (w : World) : Prop := Bl.ErrsP gE 137 S a w
theorem gE_ok : ∀ i, 1 ≤ i → i ≤ 20 → gE i ≠ 1000000 → Tryd.prog.globalNamed (nE i) = some (gE i) ∧ (Tryd.prog.globals[gE i]?).map (·.type) = some 48 := fun i h1 h2 h3 => by
  have h : i = 1 ∨ i = 2 ∨ i = 3 ∨ i = 4 ∨ i = 5 ∨ i = 6 ∨ i = 7 ∨ i = 8 ∨ i = 9 ∨ i = 10 ∨ i = 11 ∨ i = 12 ∨ i = 13 ∨ i = 14 ∨ i = 15 ∨ i = 16 ∨ i = 17 ∨ i = 18 ∨ i = 19 ∨ i = 20 := by omega
  rcases h with rfl | rfl | rfl | rfl | rfl | rfl | rfl | rfl | rfl | rfl | rfl | rfl | rfl | rfl | rfl | rfl | rfl | rfl | rfl | rfl <;> first | exact absurd rfl h3 | exact ⟨by kernel_rfl, by kernel_rfl⟩
theorem e_star : "*" ++ "errors.errorString" = "*errors.errorString" := by decide
theorem e_row (u : TypeId) (h : Tryd.prog.typeName? 3 u = some "*errors.errorString") : u = 137 :=
  typeName_ptr_named (nm := "errors.errorString") (by rw [e_star]; kernel_rfl) (by kernel_rfl) (by decide) u (by rw [e_star]; exact h)
theorem errs_laid {L : List (String × DataW Unit)} {w : World} (h : laidMetH Tryd.prog L w) (keep : String × DataW Unit → Bool) (xs : List (Nat × List UInt8)) (hx : ∀ x ∈ xs, 1 ≤ x.1 ∧ x.1 ≤ 20 ∧ gE x.1 ≠ 1000000) (hnd : (xs.map (·.1)).Nodup) (hf : L.filter keep = xs.map fun x => (nE x.1, Bl.errD x.2)) : ∃ a, Errs (xs.map (·.1)) a w :=
  Bl.errs_of Tryd.underlying48 e_row Tryd.underlying137 Tryd.underlying163 rfl rfl Tryd.underlying9 (by kernel_rfl) (by kernel_rfl) h keep xs (fun x hm => gE_ok _ (hx x hm).1 (hx x hm).2.1 (hx x hm).2.2) hnd hf
end Go.Proofs.YtmmolapkddbibaaDoor

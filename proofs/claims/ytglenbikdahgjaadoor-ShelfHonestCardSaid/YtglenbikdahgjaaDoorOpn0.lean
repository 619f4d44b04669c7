/- Texts that stood apart, in one: Post, Open, OpenA. -/
import Derived.Below
import Derived.ChangeSame
import Derived.ProofKit
import Derived.OpenShut
import Derived.LaidMore
import Derived.Stop.Joined
import GoSem.PinnedTables
import Derived.Test.YtglenbikdahgjaaDoorRows
import Derived.Test.YtglenbikdahgjaaDoorLib0
import Derived.Carry
import Derived.ChangeSlices
import Derived.Deep.Matrix
import Derived.Lib.LaidTab
import Derived.LaidSub
import Derived.MakeChecks
/- The row's last step where new blocks are all that is new: 'Ext'. And the start that fits: the heap that the door leaves, with the library's table beside. -/
namespace Go.Proofs.Bl
open Go Go.ChangeShapes Go.WideShapes Go.ChangeAt Go.RowKit
/-- the post out of 'Ext': the arguments' places lie below the heap's old size, so their marks are as they were -/
theorem post_ext {H : Type} {enc : TypeId × Value → H} {P : Program} {f : Func} {s : ChangeSpec} {apart fresh handsOn again : Bool} {W W' : World} {args : Array Value} {v : Value} {ds gs : List (DataW H)} {before pa pv : List MemPlace}
    (hb : Ext W W') (hW : DataW.Whole enc P f.params.toList s.vars apart W args.toList ds gs before)
    (hres : ∀ (b : Nat) (sp : Nat → Bool) (hd : Bool), DataW.TrodAll enc P W' b sp hd f.resultTypes.toList (v.resultList f.resultTypes.size) (s.fn H (ds ++ gs)).results [])
    (hargs : ∀ sp : Nat → Bool, (∀ p ∈ before, sp p.block = true) → DataW.TrodAll enc P W' 0 sp true f.params.toList args.toList (s.fn H (ds ++ gs)).args pa)
    (hvars : ∀ sp : Nat → Bool, (∀ p ∈ before, sp p.block = true) → DataW.TrodVars enc P W' sp s.vars (s.fn H (ds ++ gs)).vars pv)
    (hps : before = pa ++ pv)
    (hok : ∀ (j : Nat) (t : TypeId) (r : Value), f.resultTypes[j]? = some t → (v.resultList f.resultTypes.size)[j]? = some r → Value.okWide P W' .any 0 t r) :
    s.post enc P f apart fresh handsOn again W args v W' := by
  have hlt : ∀ p ∈ before, p.block < W.heap.size := fun p hp => hW.lt p hp
  have hall : ∀ p ∈ before, decide (p.block < W.heap.size) = true := fun p hp => decide_eq_true (hlt p hp)
  have hk : W.keptBut W' (· ∈ before) := hb.frame _
  have h1 := hargs (fun b => decide (b < W.heap.size)) hall
  have h2 := hvars (fun b => decide (b < W.heap.size)) hall
  refine ⟨ds, gs, before, [], pa, pv, hW, hres _ _ _, h1, h2, World.keptBut_mono (fun p hp => ⟨hp, ?_⟩) hk, fun _ => ?_⟩
  · rw [hps] at hp
    exact Or.inr (List.mem_append.1 hp)
  · obtain ⟨_, _, _, _, _, hz, hn⟩ := hW
    have hmem : ∀ p, p ∈ ([] ++ pa) ++ pv → p ∈ before := fun p hp => by rw [hps]; simpa using hp
    refine ⟨hok, _, _, ([] ++ pa) ++ pv, ⟨[] ++ pa, pv, trodAll_append (hargs _ (fun _ _ => rfl)) (hres _ _ _), hvars _ (fun _ _ => rfl), rfl, fun b off hp => ?_, fun ha => ?_⟩, fun p hp _ => ?_⟩
    · rw [hb.frozen (hlt _ (hmem _ hp))]
      exact hz b off (hmem _ hp)
    · have := hn ha
      rw [hps] at this
      simpa using this
    · rw [hps]; simpa using hp
end Go.Proofs.Bl
namespace Go.Proofs.YtglenbikdahgjaaDoor
open Go Go.ChangeShapes Go.WideShapes Go.ChangeAt Go.RowKit
theorem own0 : ownKnob Tryd.prog.godebug = none := by kernel_rfl
end Go.Proofs.YtglenbikdahgjaaDoor

/- Arguments, as our readings; the tables that are laid; the row's last step for a law that answers true. No program. -/
namespace Go.Proofs.Bl
open Go Go.ChangeShapes Go.WideShapes Go.ChangeAt Go.RowKit Go.Deep
/-- a slice's reading out of what a row's opening says -/
theorem rds_parts {w : World} {A : Option Addr} {L C : Nat} {cs : List Value} (h1 : L ≤ C) (h2 : C ≤ maxLen) (hcs : cs.length = L) (h4 : A = none → C = 0)
    (h5 : ∀ a, A = some a → (0 < C → a.spot = none) ∧ ∀ c v, cs[c]? = some v → w.cell? (a.add c) = some v) : Rds w (.slice A L C) L cs := by
  by_cases hC : C = 0
  · subst hC
    obtain rfl : L = 0 := by omega
    exact .inl ⟨⟨A, rfl⟩, rfl, List.length_eq_zero_iff.1 hcs⟩
  · cases A with
    | none => exact absurd (h4 rfl) hC
    | some a =>
      obtain ⟨b, o, s⟩ := a
      obtain ⟨hs, hc⟩ := h5 _ rfl
      obtain rfl : s = none := hs (by omega)
      refine .inr ⟨b, o, C, rfl, h1, h2, fun j v hv => ?_⟩
      have := hc j v hv
      rw [Addr.add_mid] at this
      exact this
theorem wf_byte {n : Int} (h : (Lit.int .u8 n).wf = true) : 0 ≤ n ∧ n ≤ 255 := by
  simpa [Lit.wf, IntKind.min, IntKind.max, IntKind.signed, IntKind.bits] using h
theorem rd_parts {w : World} {A : Option Addr} {L C : Nat} {Z : List Int} (h1 : L ≤ C) (h2 : C ≤ maxLen) (h3 : Z.length = C) (h4 : A = none → C = 0)
    (h5 : ∀ a, A = some a → ∀ c, c < C → w.cell? (a.add c) = some (.int .u8 (Z.getD c 0))) : Rd w .u8 (.slice A L C) (Z.take L) := by
  have hl : (Z.take L).length = L := by rw [List.length_take]; omega
  show Rds w (.slice A L C) (Z.take L).length _
  rw [hl]
  refine rds_parts h1 h2 (by rw [ints_length, hl]) h4 fun a ha => ⟨fun hC => ?_, fun c v hv => ?_⟩
  · have := World.cell?_spot (h5 a ha 0 hC)
    simpa [Addr.add] using this
  · have hc : c < L := by have := (List.getElem?_eq_some_iff.1 hv).1; rw [ints_length, hl] at this; exact this
    rw [ints_get _ _ _ (by rw [hl]; exact hc)] at hv
    cases hv
    rw [h5 a ha c (by omega)]
    simp [List.getD_eq_getElem?_getD, hc]
section
variable {H : Type} {enc : TypeId × Value → H} {P : Program} {w : World} {base : Nat}
theorem open_bytes {t e : TypeId} (ht : P.underlying t = some (.slice e)) (he : P.underlying e = some (.int .u8)) (hc : P.cellsOf e = 1) {v : Value} {d : DataW H} {p : List MemPlace}
    (hval : Value.okWide P w .any base t v) (h : DataW.Trod enc P w 0 (fun _ => true) true t v d p) : ∃ l, Rd w .u8 v l ∧ Byt l := by
  obtain ⟨a0, len0, cap0, rfl⟩ := okWide_slice ht hval
  obtain ⟨fuel, hf⟩ := h
  rcases open_ints ht he hc hf with ⟨hcs, _⟩ | ⟨a, len, cap, zs, hcs, _, hl, hm, hz, _, hcell, hw⟩
  · simp [Value.cells] at hcs
    obtain ⟨rfl, rfl, rfl⟩ := hcs
    exact ⟨[], Rd.nil _ _, Byt.nil⟩
  · simp [Value.cells] at hcs
    obtain ⟨rfl, rfl, rfl⟩ := hcs
    simp only [if_true] at hz
    exact ⟨zs.take len0, rd_parts hl hm hz (fun q => by cases q) (fun a' ha c hc => by cases ha; exact hcell c (by omega)), fun x hx => wf_byte (hw x (List.mem_of_mem_take hx))⟩
end
/-- the row's last step -/
theorem trodAll_stay {H : Type} {enc : TypeId × Value → H} {P : Program} {W W' : World} (hl : laidOutB P = true) (hb : Ext W W') {sp : Nat → Bool} :
    ∀ (ts : List TypeId) {vs : List Value} {ds : List (DataW H)} {ps : List MemPlace}, DataW.TrodAll enc P W 0 (fun _ => true) true ts vs ds ps → (∀ t ∈ ts, P.readableRec t = true ∧ t < P.types.size) → (∀ x ∈ ps, x.block < W.heap.size) → (∀ x ∈ ps, sp x.block = true) → DataW.TrodAll enc P W' 0 sp true ts vs ds ps
  | [], vs, ds, ps, h, _, _, _ => by
    obtain ⟨rfl, rfl, rfl⟩ := trodAll_nil h
    rfl
  | t :: ts, vs, ds, ps, h, hr, hlt, hsp => by
    obtain ⟨v, vs', d, ds', p, q, rfl, rfl, rfl, h0, h1⟩ := trodAll_cons h
    exact trodAll_cons_mk (WideElems.Trod_stays hl (hr t (by simp)).1 (hr t (by simp)).2 h0 (fun x hx => Below.same hb (hlt x (by simp [hx]))) (fun x hx => hsp x (by simp [hx])))
      (trodAll_stay hl hb ts h1 (fun u hu => hr u (by simp [hu])) (fun x hx => hlt x (by simp [hx])) (fun x hx => hsp x (by simp [hx])))
theorem post_law {H : Type} {enc : TypeId × Value → H} {P : Program} {f : Func} {s : ChangeSpec} {apart fresh handsOn again : Bool} {W W' : World} {args : Array Value} {ds gs : List (DataW H)} {before : List MemPlace} {tb : TypeId}
    (hl : laidOutB P = true) (hread : ∀ t ∈ f.params.toList, P.readableRec t = true ∧ t < P.types.size) (hrt : f.resultTypes = #[tb]) (htb : P.underlying tb = some .bool) (hv : s.vars = [])
    (hb : Ext W W') (hW : DataW.Whole enc P f.params.toList s.vars apart W args.toList ds gs before) (hfn : s.fn H ds = { results := [.lit (.bool true)], args := ds }) : s.post enc P f apart fresh handsOn again W args (.bool true) W' := by
  have hW0 := hW
  have hlt : ∀ p ∈ before, p.block < W.heap.size := fun p hp => hW.lt p hp
  obtain ⟨p, q, hA, hV, rfl, hfz, hnd⟩ := hW
  rw [hv] at hV
  obtain ⟨rfl, rfl⟩ := trodVars_none hV
  have hfn' : s.fn H (ds ++ []) = { results := [.lit (.bool true)], args := ds } := by rw [List.append_nil]; exact hfn
  refine post_ext (pa := p) (pv := []) hb hW0 (fun b sp hd => ?_) (fun sp hsp => ?_) (fun sp hsp => ?_) rfl ?_
  · rw [hfn', hrt]; exact trodAll_cons_mk (shut_bool htb _) trodAll_mk0
  · rw [hfn']; exact trodAll_stay hl hb _ hA hread (fun x hx => hlt x (by simp [hx])) (fun x hx => hsp x (by simp [hx]))
  · rw [hfn', hv]; rfl
  · exact ok_one hrt rfl (okWide_bool_mk htb _)
/-- a table's cells, out of what is laid -/
theorem laid_cell {P : Program} {L : List (String × DataW Unit)} {w : World} {name : String} {k : IntKind} {zs : List Int} {g : Nat} {t e : TypeId} {n : Nat} (h : laidMetH P L w)
    (hf : (L.filter fun x => x.1 == name) = [(name, Lib.tabData k zs)]) (hg : P.globalNamed name = some g) (hty : (P.globals[g]?).map (·.type) = some t) (ht : P.underlying t = some (.array n e)) (he : P.underlying e = some (.int k)) (hce : P.cellsOf e = 1) (hct : P.cellsOf t = n) :
    ∀ i, i < zs.length → w.cell? ⟨g, i, none⟩ = some (.int k (zs.getD i 0)) := by
  have h1 := h.filter (fun x => x.1 == name)
  rw [hf, MakeChecks.laidMetH_plain _ _ _ rfl] at h1
  exact fun i hi => (Lib.tabIs_of_head hg hty ht he hce hct h1).cell hg i hi
end Go.Proofs.Bl

/- Arrays of bytes that came in, as our reading. No program. -/
namespace Go.Proofs.Bl
open Go Go.ChangeShapes Go.WideShapes Go.ChangeAt Go.RowKit Go.Deep
section
variable {H : Type} {enc : TypeId × Value → H} {P : Program} {w : World} {base : Nat}
theorem open_cell {sp : Nat → Bool} {held : Bool} {e : TypeId} (he : P.underlying e = some (.int .u8)) {m : Nat} {c : Value} {y : DataW H × List MemPlace} (h : DataW.trod enc P w base sp held m e [c] = some y) : ∃ z, c = .int .u8 z ∧ 0 ≤ z ∧ z ≤ 255 := by
  cases m with
  | zero => simp [DataW.trod] at h
  | succ m =>
    unfold DataW.trod at h
    rw [he] at h
    cases c <;> simp at h
    rename_i k z
    obtain ⟨⟨rfl, hw⟩, _⟩ := h
    exact ⟨z, rfl, wf_byte hw⟩
theorem open_arr8 {t e : TypeId} {n : Nat} (ht : P.underlying t = some (.array n e)) (he : P.underlying e = some (.int .u8)) (hc : P.cellsOf e = 1) (hct : P.cellsOf t = n) {v : Value} {d : DataW H} {p : List MemPlace}
    (hval : Value.okWide P w .any base t v) (h : DataW.Trod enc P w 0 (fun _ => true) true t v d p) : ∃ l, v = .agg (ints .u8 l).toArray ∧ l.length = n ∧ Byt l := by
  simp only [Value.okWide, ht] at hval
  obtain ⟨cs, rfl, hcs, _⟩ := hval
  obtain ⟨fuel, hf⟩ := h
  obtain ⟨xs, m, _, _, hl, hxl, hel⟩ := DataW.trod_array ht hf
  simp only [Value.cells] at hl hel
  rw [hct] at hl
  have each : ∀ i, i < n → ∃ z, cs.toList[i]? = some (.int .u8 z) ∧ 0 ≤ z ∧ z ≤ 255 := fun i hi => by
    have h1 := hel i hi
    rw [hc, Nat.mul_one, List.getElem?_eq_getElem (by omega)] at h1
    have h2 : (cs.toList.drop i).take 1 = [cs.toList[i]'(by omega)] := by
      rw [List.drop_eq_getElem_cons (by omega)]; rfl
    rw [h2] at h1
    obtain ⟨z, hz, h3, h4⟩ := open_cell he h1
    exact ⟨z, by rw [List.getElem?_eq_getElem (by omega), hz], h3, h4⟩
  have key : ∀ (l : List Value), (∀ i, i < l.length → ∃ z, l[i]? = some (.int .u8 z) ∧ 0 ≤ z ∧ z ≤ 255) → ∃ zs, l = ints .u8 zs ∧ Byt zs := by
    intro l
    induction l with
    | nil => intro _; exact ⟨[], rfl, Byt.nil⟩
    | cons x r ih =>
      intro hx
      obtain ⟨z, hz, h1, h2⟩ := hx 0 (by simp)
      obtain ⟨zs, rfl, hb⟩ := ih (fun i hi => by simpa using hx (i + 1) (by simp; omega))
      have hz' : x = .int .u8 z := by simpa using hz
      refine ⟨z :: zs, by rw [hz']; rfl, fun y hy => ?_⟩
      rcases List.mem_cons.1 hy with rfl | hy
      · exact ⟨h1, h2⟩
      · exact hb y hy
  obtain ⟨zs, hzs, hb⟩ := key cs.toList (fun i hi => each i (by omega))
  refine ⟨zs, ?_, ?_, hb⟩
  · rw [← hzs]
  · have := congrArg List.length hzs
    rw [ints_length] at this
    omega
end
end Go.Proofs.Bl

/- Figures, orders of bytes, results of two parts. -/
import Derived.Test.YtdodgcapihfkkaaDoorWHex
import Derived.Test.YtdodgcapihfkkaaDoorRegK
import Derived.Test.YtdodgcapihfkkaaDoorTwo
import Derived.Lib.Bytealg
namespace Go.Proofs.Bl
open Go Go.RowKit
/-- a figure's number; -1: it is none -/
def figI (c : Int) : Int := if 48 ≤ c ∧ c ≤ 57 then c - 48 else if 97 ≤ c ∧ c ≤ 102 then c - 87 else -1
theorem figI_lib (c : Int) (h0 : 0 ≤ c) (h1 : c ≤ 255) : Lib.indexByte (⟨#[48, 49, 50, 51, 52, 53, 54, 55, 56, 57, 97, 98, 99, 100, 101, 102]⟩ : ByteArray).data.toList c.toNat.toUInt8 = figI c := by
  obtain ⟨n, rfl⟩ := Int.eq_ofNat_of_zero_le h0
  have h : ∀ n : Nat, n < 256 → Lib.indexByte [48, 49, 50, 51, 52, 53, 54, 55, 56, 57, 97, 98, 99, 100, 101, 102] n.toUInt8 = figI n := by decide +kernel
  exact h n (by omega)
theorem figI_fig (x : Int) (h0 : 0 ≤ x) (h1 : x ≤ 15) : figI (fig x) = x := by
  obtain ⟨n, rfl⟩ := Int.eq_ofNat_of_zero_le h0
  have h : ∀ n : Nat, n < 16 → figI (fig n) = n := by decide +kernel
  exact h n (by omega)
theorem fig_figI (c : Int) (h0 : 0 ≤ c) (h1 : c ≤ 255) (h : 0 ≤ figI c) : fig (figI c) = c ∧ figI c ≤ 15 := by
  obtain ⟨n, rfl⟩ := Int.eq_ofNat_of_zero_le h0
  have h : ∀ n : Nat, n < 256 → 0 ≤ figI n → fig (figI n) = n ∧ figI n ≤ 15 := by decide +kernel
  exact h n (by omega) ‹_›
theorem figI_ge (c : Int) : -1 ≤ figI c ∧ figI c ≤ 15 := by unfold figI; split <;> (try split) <;> omega
/-- a text's bytes -/
def sb (s : ByteArray) : List Int := s.data.toList.map fun x => (x.toNat : Int)
theorem sb_length (s : ByteArray) : (sb s).length = s.size := by unfold sb; rw [List.length_map]; rfl
theorem sb_byt (s : ByteArray) : Byt (sb s) := fun x hx => by
  obtain ⟨u, _, rfl⟩ := List.mem_map.1 hx
  have := u.toNat_lt
  omega
theorem bstr_sb (s : ByteArray) : bstr (sb s) = s := by
  apply ByteArray.ext
  show ((s.data.toList.map fun x => (x.toNat : Int)).map fun x => UInt8.ofNat x.toNat).toArray = s.data
  have e : ((fun x : Int => UInt8.ofNat x.toNat) ∘ fun x : UInt8 => (x.toNat : Int)) = id := by
    funext x
    show UInt8.ofNat (Int.toNat (x.toNat : Int)) = x
    rw [Int.toNat_natCast, UInt8.ofNat_toNat]
  rw [List.map_map, e, List.map_id, Array.toArray_toList]
theorem sb_bstr (l : List Int) (h : Byt l) : sb (bstr l) = l := bstr_inj (sb_byt _) h (bstr_sb _)
theorem sb_get (s : ByteArray) (i : Nat) (h : i < s.size) : s[i]? = some (s[i]'h) ∧ (((s[i]'h).toNat : Nat) : Int) = (sb s).getD i 0 := by
  refine ⟨getElem?_pos s i h, ?_⟩
  rw [List.getD_eq_getElem?_getD]
  unfold sb
  have h2 : i < s.data.size := h
  simp only [List.getElem?_map, Array.getElem?_toList, Array.getElem?_eq_getElem h2]
  rfl
/-- the bytes that figures are -/
def unhexL : List Int → List Int
  | a :: b :: r => (figI a * 16 + figI b) :: unhexL r
  | _ => []
theorem unhexL_length : ∀ (n : Nat) (l : List Int), l.length = 2 * n → (unhexL l).length = n
  | 0, [], _ => rfl
  | n + 1, [], h => by simp at h
  | 0, _ :: _, h => by simp at h
  | n + 1, [a], h => by simp at h; omega
  | n + 1, a :: b :: r, h => by
    have := unhexL_length n r (by simp at h; omega)
    simp [unhexL, this]
theorem unhexL_get : ∀ (l : List Int) (i : Nat), 2 * i + 1 < l.length → (unhexL l).getD i 0 = figI (l.getD (2 * i) 0) * 16 + figI (l.getD (2 * i + 1) 0)
  | [], i, h => by simp at h
  | [a], i, h => by simp at h
  | a :: b :: r, 0, _ => rfl
  | a :: b :: r, i + 1, h => by
    have := unhexL_get r i (by simp at h; omega)
    rw [show 2 * (i + 1) = (2 * i + 1) + 1 from by omega]
    simp only [unhexL, List.getD_cons_succ, this]
theorem hexs_unhex : ∀ (n : Nat) (l : List Int), l.length = 2 * n → Byt l → (∀ c ∈ l, 0 ≤ figI c) → hexs (unhexL l) = l
  | 0, [], _, _, _ => rfl
  | n + 1, [], h, _, _ => by simp at h
  | 0, _ :: _, h, _, _ => by simp at h
  | n + 1, [a], h, _, _ => by simp at h; omega
  | n + 1, a :: b :: r, h, hb, hf => by
    have ih := hexs_unhex n r (by simp at h; omega) (fun x hx => hb x (by simp [hx])) (fun x hx => hf x (by simp [hx]))
    obtain ⟨a1, a2⟩ := fig_figI a (hb a (by simp)).1 (hb a (by simp)).2 (hf a (by simp))
    obtain ⟨b1, b2⟩ := fig_figI b (hb b (by simp)).1 (hb b (by simp)).2 (hf b (by simp))
    have ha := hf a (by simp)
    have hb' := hf b (by simp)
    have e1 : (figI a * 16 + figI b) / 16 = figI a := by omega
    have e2 : (figI a * 16 + figI b) % 16 = figI b := by omega
    show hex2 (figI a * 16 + figI b) ++ hexs (unhexL r) = _
    unfold hex2
    rw [e1, e2, a1, b1, ih]; rfl
theorem unhex_hexs : ∀ (l : List Int), Byt l → unhexL (hexs l) = l ∧ ∀ c ∈ hexs l, 0 ≤ figI c
  | [], _ => ⟨rfl, fun c h => by cases h⟩
  | x :: r, hb => by
    obtain ⟨i1, i2⟩ := unhex_hexs r (fun y hy => hb y (by simp [hy]))
    have hx := hb x (by simp)
    have f1 := figI_fig (x / 16) (by omega) (by omega)
    have f2 := figI_fig (x % 16) (by omega) (by omega)
    have e : hexs (x :: r) = fig (x / 16) :: fig (x % 16) :: hexs r := rfl
    rw [e]
    refine ⟨?_, fun c hc => ?_⟩
    · simp only [unhexL, f1, f2, i1]
      rw [show x / 16 * 16 + x % 16 = x from by omega]
    · rcases List.mem_cons.1 hc with rfl | hc
      · rw [f1]; omega
      · rcases List.mem_cons.1 hc with rfl | hc
        · rw [f2]; omega
        · exact i2 c hc
theorem hexs_byt (l : List Int) (h : Byt l) : Byt (hexs l) := fun c hc => by
  have hf : ∀ n : Nat, n < 16 → 0 ≤ fig n ∧ fig n ≤ 255 := by decide +kernel
  obtain ⟨x, hx, hc⟩ := List.mem_flatMap.1 hc
  have hx' := h x hx
  have key : ∀ y : Int, 0 ≤ y → y ≤ 15 → 0 ≤ fig y ∧ fig y ≤ 255 := fun y h0 h1 => by
    obtain ⟨n, rfl⟩ := Int.eq_ofNat_of_zero_le h0
    exact hf n (by omega)
  unfold hex2 at hc
  rcases List.mem_cons.1 hc with rfl | hc
  · exact key _ (by omega) (by omega)
  · obtain rfl : c = fig (x % 16) := by simpa using hc
    exact key _ (by omega) (by omega)
/-- is a text a digest's figures? -/
def okB (s : ByteArray) : Bool := decide (s.size = 64) && (sb s).all fun c => decide (0 ≤ figI c)
def zs32 : List Int := List.replicate 32 0
theorem okB_true {s : ByteArray} (h : okB s = true) : s.size = 64 ∧ ∀ c ∈ sb s, 0 ≤ figI c := by
  unfold okB at h
  simp only [Bool.and_eq_true, decide_eq_true_eq, List.all_eq_true] at h
  exact h
theorem okB_size {s : ByteArray} (h : s.size ≠ 64) : okB s = false := by unfold okB; rw [decide_eq_false h]; rfl
theorem okB_bad {s : ByteArray} {i : Nat} (hi : i < s.size) (h : figI ((sb s).getD i 0) < 0) : okB s = false := by
  cases hk : okB s with
  | false => rfl
  | true =>
    have := (okB_true hk).2 _ (List.getElem_mem (l := sb s) (n := i) (by rw [sb_length]; exact hi))
    rw [List.getD_eq_getElem?_getD, List.getElem?_eq_getElem (by rw [sb_length]; exact hi)] at h
    simp only [Option.getD_some] at h
    omega
theorem okB_mk {s : ByteArray} (h : s.size = 64) (h2 : ∀ j, j < 64 → 0 ≤ figI ((sb s).getD j 0)) : okB s = true := by
  unfold okB
  rw [decide_eq_true h, Bool.true_and, List.all_eq_true]
  intro c hc
  obtain ⟨j, hj, rfl⟩ := List.getElem_of_mem hc
  have hj2 : j < 64 := by rw [sb_length] at hj; omega
  have := h2 j hj2
  rw [List.getD_eq_getElem?_getD, List.getElem?_eq_getElem hj] at this
  exact decide_eq_true this
theorem okB_hexs (d : List Int) (hl : d.length = 32) (hb : Byt d) : okB (bstr (hexs d)) = true := by
  have hl2 : (hexs d).length = 64 := by rw [hexs_length, hl]
  refine okB_mk (by rw [bstr_size, hl2]) fun j hj => ?_
  rw [sb_bstr _ (hexs_byt d hb)]
  have := (unhex_hexs d hb).2 _ (List.getElem_mem (l := hexs d) (n := j) (by omega))
  rw [List.getD_eq_getElem?_getD, List.getElem?_eq_getElem (by omega)]; exact this
theorem or16 (a b : Int) (ha : 0 ≤ a) (ha2 : a ≤ 15) (hb : 0 ≤ b) (hb2 : b ≤ 15) : bits .or .i64 (a * 16) b = a * 16 + b := by
  obtain ⟨n, rfl⟩ := Int.eq_ofNat_of_zero_le ha
  obtain ⟨m, rfl⟩ := Int.eq_ofNat_of_zero_le hb
  have h : ∀ n : Nat, n < 16 → ∀ m : Nat, m < 16 → bits .or .i64 ((n : Int) * 16) (m : Int) = (n : Int) * 16 + (m : Int) := by decide +kernel
  exact h n (by omega) m (by omega)
/-- the order of as many bytes -/
theorem less_find : ∀ (x y : List UInt8), x.length = y.length → Op.bytesLess x y = (match (List.range x.length).find? fun i => x.getD i 0 != y.getD i 0 with | some i => decide (x.getD i 0 < y.getD i 0) | none => false)
  | [], [], _ => rfl
  | [], _ :: _, h => by simp at h
  | _ :: _, [], h => by simp at h
  | a :: x, b :: y, h => by
    have ih := less_find x y (by simpa using h)
    rw [List.length_cons, List.range_succ_eq_map, List.find?_cons]
    simp only [List.getD_cons_zero, List.find?_map, Function.comp_def, List.getD_cons_succ]
    by_cases e : a = b
    · subst e
      simp only [bne_self_eq_false, Op.bytesLess, ih]
      cases (List.range x.length).find? fun i => x.getD i 0 != y.getD i 0 <;> simp
    · have : (a != b) = true := by simpa using e
      simp [this, Op.bytesLess, e]
theorem bang (l : List Int) (i : Nat) (h : i < l.length) : (bstr l)[i]! = (bstr l).toList.getD i 0 := by
  rw [bstr_tl, List.getD_eq_getElem?_getD, List.getElem?_map, List.getElem?_eq_getElem h]
  have h2 : i < (bstr l).size := by rw [bstr_size]; exact h
  rw [getElem!_pos (bstr l) i h2]
  simp [bstr, ByteArray.getElem_eq_getElem_data]
theorem find_congr {α : Type} {p q : α → Bool} : ∀ (l : List α), (∀ x ∈ l, p x = q x) → l.find? p = l.find? q
  | [], _ => rfl
  | x :: r, h => by
    rw [List.find?_cons, List.find?_cons, h x (by simp), find_congr r fun y hy => h y (by simp [hy])]
theorem cmp_less (a b : List Int) (h : a.length = b.length) : decide (Extern.BytealgCompare.cmp (bstr a) (bstr b) < 0) = Op.bytesLess (bstr a).toList (bstr b).toList := by
  have hl : (bstr a).toList.length = a.length := by rw [bstr_tl, List.length_map]
  have hl2 : (bstr b).toList.length = b.length := by rw [bstr_tl, List.length_map]
  rw [less_find _ _ (by rw [hl, hl2, h]), hl]
  unfold Extern.BytealgCompare.cmp
  have e : ((List.range (min (bstr a).size (bstr b).size)).find? fun i => (bstr a)[i]! != (bstr b)[i]!) = ((List.range a.length).find? fun i => (bstr a).toList.getD i 0 != (bstr b).toList.getD i 0) := by
    rw [bstr_size, bstr_size, ← h, Nat.min_self]
    refine find_congr _ ?_
    intro i hi
    have hi : i < a.length := by simpa using hi
    rw [bang a i hi, bang b i (by omega)]
  rw [e]
  cases hf : (List.range a.length).find? fun i => (bstr a).toList.getD i 0 != (bstr b).toList.getD i 0 with
  | none => simp [bstr_size, h]
  | some i =>
    have hi : i < a.length := by have := List.mem_of_find?_eq_some hf; simpa using this
    simp only [bang a i hi, bang b i (by omega)]
    by_cases hlt : (bstr a).toList.getD i 0 < (bstr b).toList.getD i 0
    · rw [if_pos hlt, decide_eq_true hlt]; rfl
    · rw [if_neg hlt, decide_eq_false hlt]; rfl
/-- a result of two parts, the first one in a variable -/
theorem results_cell2 {P : Program} {fn : Func} {p q : Tmp} {ty : TypeId} {tmps : Array Value} {w : World} {b : Addr} {v u : Value} (h : fn.results = #[.cell p ty, .tmp q]) (hp : tmps.getD p undef = .pointer (some b)) (hl : (loadVar ty b).run P w = .ok v w) (hq : tmps.getD q undef = u) :
    (results fn tmps).run P w = .ok (.tuple #[v, u]) w := by
  have hp' : tmps[p]?.getD undef = .pointer (some b) := by simpa using hp
  have hq' : tmps[q]?.getD undef = u := by simpa using hq
  simp [results, h, hp', hq', asAddr, hl]
theorem goodX_index {R : World → World → Prop} (hr : ∀ w, R w w) {P : Program} {ev : Nat → Value} {w : World} {φ : Value → World → Prop} {d : Option Tmp} {tt ty : TypeId} {pp : String} {af : Array Edge} {g : Option (Nat × Bool)} {x y : Operand} {p v r : Value} (hx : evalE ev x = p) (hy : evalE ev y = v) (hix : (Instr.index ty p v).run P w = .ok r w) (hφ : φ r w) :
    GoodX R P w φ ((execOp (evalE ev) ⟨d, .index ty x y, tt, pp, af, g⟩).run P w) := by
  unfold execOp
  simp only [hx, hy, Sem.run_bind, Sem.run_pure, Result.andThen_ok, hix]
  exact ⟨hr _, hφ⟩
theorem index_str {P : Program} {ty : TypeId} (hu : P.underlying ty = some .string) (s : ByteArray) (i : Nat) (z : Int) (hz : z = i) (h : i < s.size) (w : World) : (Instr.index ty (.string s) (.int .i64 z)).run P w = .ok (.int .u8 ((sb s).getD i 0)) w := by
  subst hz
  obtain ⟨e1, e2⟩ := sb_get s i h
  have h0 : (0 : Int) ≤ (i : Int) := by omega
  simp only [Instr.index, asIntOf, Sem.run_bind, Sem.run_pure, Result.andThen_ok, run_underlying hu, if_pos h0, Int.toNat_natCast, e1, e2]
end Go.Proofs.Bl

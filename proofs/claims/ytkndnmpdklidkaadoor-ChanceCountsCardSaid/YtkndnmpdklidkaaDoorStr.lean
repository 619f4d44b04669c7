/- Texts out of bytes. No program. -/
import Derived.Test.YtkndnmpdklidkaaDoorBase2
import Derived.Laws.BytesString
import Derived.Laws.Cells
import Derived.Laws.Strings
namespace Go.Proofs.Bl
open Go Go.RowKit
/-- a text of bytes -/
def bstr (l : List Int) : ByteArray := ⟨(l.map fun x => UInt8.ofNat x.toNat).toArray⟩
theorem bstr_push (l : List Int) : ∀ s : ByteArray, l.foldl (fun r n => r.push (UInt8.ofNat n.toNat)) s = ⟨s.data ++ (l.map fun x => UInt8.ofNat x.toNat).toArray⟩ := by
  induction l with
  | nil => intro s; simp
  | cons x r ih =>
    intro s
    rw [List.foldl_cons, ih]
    simp [ByteArray.push]
theorem bstr_fold (l : List Int) : l.foldl (fun r n => r.push (UInt8.ofNat n.toNat)) ByteArray.empty = bstr l := by
  rw [bstr_push]; simp [bstr, ByteArray.empty, ByteArray.emptyWithCapacity]; rfl
theorem bstr_nil : bstr [] = ByteArray.empty := rfl
theorem u8_ofNat_inj {a b : Nat} (ha : a ≤ 255) (hb : b ≤ 255) (h : UInt8.ofNat a = UInt8.ofNat b) : a = b := by
  have := congrArg UInt8.toNat h
  simp at this
  omega
theorem bstr_inj : ∀ {a b : List Int}, Byt a → Byt b → bstr a = bstr b → a = b := by
  intro a b ha hb h
  have h1 : (a.map fun x => UInt8.ofNat x.toNat) = (b.map fun x => UInt8.ofNat x.toNat) := by
    have := congrArg (fun s => s.data.toList) h
    simpa [bstr] using this
  clear h
  induction a generalizing b with
  | nil => cases b with
    | nil => rfl
    | cons => simp at h1
  | cons x r ih =>
    cases b with
    | nil => simp at h1
    | cons y t =>
      simp only [List.map_cons, List.cons.injEq] at h1
      have hx := ha x (by simp)
      have hy := hb y (by simp)
      have := u8_ofNat_inj (by omega) (by omega) h1.1
      rw [ih (fun z hz => ha z (List.mem_cons_of_mem _ hz)) (fun z hz => hb z (List.mem_cons_of_mem _ hz)) h1.2, show x = y from by omega]
theorem bstr_size (l : List Int) : (bstr l).size = l.length := by simp [bstr, ByteArray.size]
theorem bstr_append (a b : List Int) : bstr a ++ bstr b = bstr (a ++ b) := by
  apply ByteArray.ext
  simp [bstr, ByteArray.data_append]
theorem bstr_eq_iff {a b : List Int} (ha : Byt a) (hb : Byt b) : (bstr a = bstr b) ↔ a = b := ⟨bstr_inj ha hb, fun h => by rw [h]⟩
theorem bstr_tl (l : List Int) : (bstr l).toList = l.map fun x => UInt8.ofNat x.toNat := by rw [ByteArray.toList_eq]; rfl
theorem bstr_beq {a b : List Int} (ha : Byt a) (hb : Byt b) : ((bstr a).toList == (bstr b).toList) = decide (a = b) := by
  have h : (bstr a).toList = (bstr b).toList ↔ a = b := ⟨fun h => by
    rw [ByteArray.toList_eq, ByteArray.toList_eq] at h
    exact bstr_inj ha hb (ByteArray.ext (Array.toList_inj.1 h)), fun h => by rw [h]⟩
  rw [Bool.eq_iff_iff]; simp [h]
/-- []byte as string -/
theorem conv_bytes {P : Program} {w : World} {v : Value} {l : List Int} {src dst e : TypeId} (h : Rd w .u8 v l)
    (hs : P.underlying src = some (.slice e)) (he : P.underlying e = some (.int .u8)) (hd : P.underlying dst = some .string) :
    (convert src dst v).run P w = .ok (.string (bstr l)) w := by
  rcases h with ⟨⟨p, rfl⟩, hn, hc⟩ | ⟨b, o, c, rfl, hnc, hcm, hr⟩
  · obtain rfl : l = [] := List.length_eq_zero_iff.1 hn
    rw [run_convert_bytes_string w src dst e _ _ _ hs he hd]
    cases p <;> rfl
  · rw [run_convert_bytes_string w src dst e _ _ _ hs he hd, run_bytesToString w ⟨b, o, none⟩ l.length c l, bstr_fold]
    have := run_loadCells_list (P := P) (w := w) ⟨b, o, none⟩ (ints .u8 l) (fun j v hv => by rw [Addr.add_mid]; exact hr j v hv)
    rw [ints_length] at this
    exact this
/-- the bytes of a slice, as a function outside Go reads them -/
theorem bytesOf_rd {P : Program} {w : World} {v : Value} {l : List Int} (h : Rd w .u8 v l) : (Extern.Bytes.bytesOf v).run P w = .ok (bstr l) w := by
  rcases h with ⟨⟨p, rfl⟩, hn, hc⟩ | ⟨b, o, c, rfl, hnc, hcm, hr⟩
  · obtain rfl : l = [] := List.length_eq_zero_iff.1 hn
    cases p <;> rfl
  · have key : ∀ (r : List Int) (o : Nat) (s : ByteArray), w.rangeAt b o (ints .u8 r) → (Extern.Bytes.loadBytes ⟨b, o, none⟩ r.length s).run P w = .ok (r.foldl (fun r n => r.push (UInt8.ofNat n.toNat)) s) w := by
      intro r
      induction r with
      | nil => intro o s _; rfl
      | cons x t ih =>
        intro o s hr
        have h0 : w.cell? ⟨b, o, none⟩ = some (.int .u8 x) := by have := hr 0 _ rfl; simpa using this
        have h1 : w.rangeAt b (o + 1) (ints .u8 t) := rangeAt_drop hr 1
        simp only [List.length_cons, Extern.Bytes.loadBytes, Sem.run_bind, run_load, h0, Result.andThen_ok, List.foldl_cons]
        exact ih (o + 1) _ h1
    show (Extern.Bytes.loadBytes ⟨b, o, none⟩ l.length ByteArray.empty).run P w = _
    rw [key l o _ hr, bstr_fold]
end Go.Proofs.Bl

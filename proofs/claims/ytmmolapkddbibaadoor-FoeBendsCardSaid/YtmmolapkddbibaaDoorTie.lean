/-
  DERIVED. GIVEN WITH THE SEED: THE PROGRAM's TIES (one call each: nine closed facts by the kernel) AND EACH ROW's TIE, after the 31st guide's Derived/Test/Toyas{Tie, Card}.lean. No idea stands in it: it is a product of the set-up. Laid BY PROGRAM, IN A SANDBOX (cutbox-door.mjs). By AI agents, Wed Nov 11 2026. No macro, syntax, notation, axiom, sorry.
-/
import Derived.Test.YtmmolapkddbibaaDoorRows
import Derived.LaidByTextLater
import Derived.SevenTiedAt
import Derived.LaidSub
import Derived.LaidOnce
namespace Go.Proofs.YtmmolapkddbibaaDoor
open Go
set_option maxRecDepth 100000
theorem seatTie1 : Tryd.prog.laidByTextLater [("bailee/api.ErrRange", Rows.laid_bailee_api_ErrRange), ("bailee/api.ErrShort", Rows.laid_bailee_api_ErrShort), ("bailee/api.ErrLong", Rows.laid_bailee_api_ErrLong), ("bailee/api.ErrForm", Rows.laid_bailee_api_ErrForm), ("bailee/api.ErrSum", Rows.laid_bailee_api_ErrSum), ("bailee/api.ErrName", Rows.laid_bailee_api_ErrName), ("bailee/api.ErrKind", Rows.laid_bailee_api_ErrKind), ("bailee/api.ErrSize", Rows.laid_bailee_api_ErrSize), ("bailee/api.ErrKey", Rows.laid_bailee_api_ErrKey), ("bailee/api.ErrDup", Rows.laid_bailee_api_ErrDup), ("bailee/api.ErrNone", Rows.laid_bailee_api_ErrNone), ("bailee/api.ErrFull", Rows.laid_bailee_api_ErrFull), ("bailee/api.ErrState", Rows.laid_bailee_api_ErrState), ("bailee/api.ErrPower", Rows.laid_bailee_api_ErrPower), ("bailee/api.ErrProof", Rows.laid_bailee_api_ErrProof), ("bailee/api.ErrSpare", Rows.laid_bailee_api_ErrSpare), ("bailee/api.ErrLost", Rows.laid_bailee_api_ErrLost), ("bailee/api.ErrBudget", Rows.laid_bailee_api_ErrBudget), ("bailee/api.ErrLate", Rows.laid_bailee_api_ErrLate), ("bailee/api.ErrZero", Rows.laid_bailee_api_ErrZero), ("bailee/letter.words", Rows.laid_bailee_letter_words), ("bailee/foe.words", Rows.laid_bailee_foe_words)] [.sentinel, .sentinel, .sentinel, .sentinel, .sentinel, .sentinel, .sentinel, .sentinel, .sentinel, .sentinel, .sentinel, .sentinel, .sentinel, .sentinel, .sentinel, .sentinel, .sentinel, .sentinel, .sentinel, .sentinel, .data, .data] true :=
  Program.laidByTextLater_by_one 399 8 11 (by kernel_rfl) (by kernel_rfl) (by kernel_rfl) (by kernel_rfl) (by kernel_rfl) (by kernel_rfl) (fun _ _ => by kernel_rfl)
theorem noOwnUnsafe : Tryd.pinned.checked.prog.headLifts.contains "ownunsafe" = false := by kernel_rfl
theorem tie : Tryd.prog.laidByTextLater [("bailee/foe.words", Rows.laid_bailee_foe_words)] [.data] true :=
  Program.laidByTextLater.sub seatTie1 ["bailee/foe.words"] (by kernel_rfl) (by kernel_rfl)
theorem foeBends_row_tie : Rows.foeBendsRow.laidByTextAt .later Tryd.pinned [.data] true :=
  OpenClaim.laidByTextAt_later rfl rfl tie noOwnUnsafe
theorem tie2 : Tryd.prog.laidByTextLater [("bailee/api.ErrRange", Rows.laid_bailee_api_ErrRange), ("bailee/api.ErrLong", Rows.laid_bailee_api_ErrLong), ("bailee/api.ErrForm", Rows.laid_bailee_api_ErrForm), ("bailee/api.ErrKind", Rows.laid_bailee_api_ErrKind), ("bailee/api.ErrSize", Rows.laid_bailee_api_ErrSize), ("bailee/letter.words", Rows.laid_bailee_letter_words)] [.sentinel, .sentinel, .sentinel, .sentinel, .sentinel, .data] true :=
  Program.laidByTextLater.sub seatTie1 ["bailee/api.ErrRange", "bailee/api.ErrLong", "bailee/api.ErrForm", "bailee/api.ErrKind", "bailee/api.ErrSize", "bailee/letter.words"] (by kernel_rfl) (by kernel_rfl)
theorem letterSame_row_tie : Rows.letterSameRow.laidByTextAt .later Tryd.pinned [.sentinel, .sentinel, .sentinel, .sentinel, .sentinel, .data] true :=
  OpenClaim.laidByTextAt_later rfl rfl tie2 noOwnUnsafe
theorem tie3 : Tryd.prog.laidByTextLater [("bailee/api.ErrRange", Rows.laid_bailee_api_ErrRange), ("bailee/api.ErrShort", Rows.laid_bailee_api_ErrShort), ("bailee/api.ErrLong", Rows.laid_bailee_api_ErrLong), ("bailee/api.ErrForm", Rows.laid_bailee_api_ErrForm), ("bailee/api.ErrSum", Rows.laid_bailee_api_ErrSum), ("bailee/api.ErrName", Rows.laid_bailee_api_ErrName), ("bailee/api.ErrKind", Rows.laid_bailee_api_ErrKind), ("bailee/api.ErrSize", Rows.laid_bailee_api_ErrSize), ("bailee/api.ErrKey", Rows.laid_bailee_api_ErrKey), ("bailee/api.ErrDup", Rows.laid_bailee_api_ErrDup), ("bailee/api.ErrNone", Rows.laid_bailee_api_ErrNone), ("bailee/api.ErrFull", Rows.laid_bailee_api_ErrFull), ("bailee/api.ErrState", Rows.laid_bailee_api_ErrState), ("bailee/api.ErrPower", Rows.laid_bailee_api_ErrPower), ("bailee/api.ErrProof", Rows.laid_bailee_api_ErrProof), ("bailee/api.ErrSpare", Rows.laid_bailee_api_ErrSpare), ("bailee/api.ErrLost", Rows.laid_bailee_api_ErrLost), ("bailee/api.ErrBudget", Rows.laid_bailee_api_ErrBudget), ("bailee/api.ErrLate", Rows.laid_bailee_api_ErrLate), ("bailee/api.ErrZero", Rows.laid_bailee_api_ErrZero)] [.sentinel, .sentinel, .sentinel, .sentinel, .sentinel, .sentinel, .sentinel, .sentinel, .sentinel, .sentinel, .sentinel, .sentinel, .sentinel, .sentinel, .sentinel, .sentinel, .sentinel, .sentinel, .sentinel, .sentinel] true :=
  Program.laidByTextLater.sub seatTie1 ["bailee/api.ErrRange", "bailee/api.ErrShort", "bailee/api.ErrLong", "bailee/api.ErrForm", "bailee/api.ErrSum", "bailee/api.ErrName", "bailee/api.ErrKind", "bailee/api.ErrSize", "bailee/api.ErrKey", "bailee/api.ErrDup", "bailee/api.ErrNone", "bailee/api.ErrFull", "bailee/api.ErrState", "bailee/api.ErrPower", "bailee/api.ErrProof", "bailee/api.ErrSpare", "bailee/api.ErrLost", "bailee/api.ErrBudget", "bailee/api.ErrLate", "bailee/api.ErrZero"] (by kernel_rfl) (by kernel_rfl)
theorem letterBytes_row_tie : Rows.letterBytesRow.laidByTextAt .later Tryd.pinned [.sentinel, .sentinel, .sentinel, .sentinel, .sentinel, .sentinel, .sentinel, .sentinel, .sentinel, .sentinel, .sentinel, .sentinel, .sentinel, .sentinel, .sentinel, .sentinel, .sentinel, .sentinel, .sentinel, .sentinel] true :=
  OpenClaim.laidByTextAt_later rfl rfl tie3 noOwnUnsafe
theorem letterParses_row_tie : Rows.letterParsesRow.laidByTextAt .later Tryd.pinned [.sentinel, .sentinel, .sentinel, .sentinel, .sentinel, .sentinel, .sentinel, .sentinel, .sentinel, .sentinel, .sentinel, .sentinel, .sentinel, .sentinel, .sentinel, .sentinel, .sentinel, .sentinel, .sentinel, .sentinel] true :=
  OpenClaim.laidByTextAt_later rfl rfl tie3 noOwnUnsafe
theorem foeBendsUpto_row_tie : Rows.foeBendsUptoRow.laidByTextAt .later Tryd.pinned [.data] true :=
  OpenClaim.laidByTextAt_later rfl rfl tie noOwnUnsafe
theorem letterSameUpto_row_tie : Rows.letterSameUptoRow.laidByTextAt .later Tryd.pinned [.sentinel, .sentinel, .sentinel, .sentinel, .sentinel, .data] true :=
  OpenClaim.laidByTextAt_later rfl rfl tie2 noOwnUnsafe
theorem letterBytesUpto_row_tie : Rows.letterBytesUptoRow.laidByTextAt .later Tryd.pinned [.sentinel, .sentinel, .sentinel, .sentinel, .sentinel, .sentinel, .sentinel, .sentinel, .sentinel, .sentinel, .sentinel, .sentinel, .sentinel, .sentinel, .sentinel, .sentinel, .sentinel, .sentinel, .sentinel, .sentinel] true :=
  OpenClaim.laidByTextAt_later rfl rfl tie3 noOwnUnsafe
theorem letterParsesUpto_row_tie : Rows.letterParsesUptoRow.laidByTextAt .later Tryd.pinned [.sentinel, .sentinel, .sentinel, .sentinel, .sentinel, .sentinel, .sentinel, .sentinel, .sentinel, .sentinel, .sentinel, .sentinel, .sentinel, .sentinel, .sentinel, .sentinel, .sentinel, .sentinel, .sentinel, .sentinel] true :=
  OpenClaim.laidByTextAt_later rfl rfl tie3 noOwnUnsafe
end Go.Proofs.YtmmolapkddbibaaDoor

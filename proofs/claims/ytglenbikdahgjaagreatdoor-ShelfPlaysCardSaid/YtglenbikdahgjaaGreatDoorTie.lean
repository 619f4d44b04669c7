/-
  DERIVED. GIVEN WITH THE SEED: THE PROGRAM's TIES (one call each: nine closed facts by the kernel) AND EACH ROW's TIE, after the 31st guide's Derived/Test/Toyas{Tie, Card}.lean. No idea stands in it: it is a product of the set-up. Laid BY PROGRAM, IN A SANDBOX (cutbox-door.mjs). By AI agents, Wed Nov 11 2026. No macro, syntax, notation, axiom, sorry.
-/
import Derived.Test.YtglenbikdahgjaaGreatDoorRows
import Derived.LaidByTextLater
import Derived.SevenTiedAt
import Derived.LaidSub
import Derived.LaidOnce
namespace Go.Proofs.YtglenbikdahgjaaGreatDoor
open Go
set_option maxRecDepth 100000
theorem seatTie1 : Tryz.prog.laidByTextLater [("bailee/baileeref07.begins", Rows.laid_bailee_baileeref07_begins), ("bailee/baileeref07.added", Rows.laid_bailee_baileeref07_added), ("bailee/api.ErrRange", Rows.laid_bailee_api_ErrRange), ("bailee/api.ErrShort", Rows.laid_bailee_api_ErrShort), ("bailee/api.ErrLong", Rows.laid_bailee_api_ErrLong), ("bailee/api.ErrForm", Rows.laid_bailee_api_ErrForm), ("bailee/api.ErrKind", Rows.laid_bailee_api_ErrKind), ("bailee/api.ErrSize", Rows.laid_bailee_api_ErrSize), ("bailee/api.ErrProof", Rows.laid_bailee_api_ErrProof), ("bailee/sha.first", Rows.laid_bailee_sha_first), ("bailee/sha.added", Rows.laid_bailee_sha_added), ("bailee/foe.words", Rows.laid_bailee_foe_words)] [.data, .data, .sentinel, .sentinel, .sentinel, .sentinel, .sentinel, .sentinel, .sentinel, .data, .data, .data] true :=
  Program.laidByTextLater_by_one 167 8 65 (by kernel_rfl) (by kernel_rfl) (by kernel_rfl) (by kernel_rfl) (by kernel_rfl) (by kernel_rfl) (fun _ _ => by kernel_rfl)
theorem noOwnUnsafe : Tryz.pinned.checked.prog.headLifts.contains "ownunsafe" = false := by kernel_rfl
theorem tie : Tryz.prog.laidByTextLater [("bailee/baileeref07.begins", Rows.laid_bailee_baileeref07_begins), ("bailee/baileeref07.added", Rows.laid_bailee_baileeref07_added), ("bailee/api.ErrRange", Rows.laid_bailee_api_ErrRange), ("bailee/api.ErrLong", Rows.laid_bailee_api_ErrLong), ("bailee/api.ErrForm", Rows.laid_bailee_api_ErrForm), ("bailee/api.ErrKind", Rows.laid_bailee_api_ErrKind), ("bailee/api.ErrSize", Rows.laid_bailee_api_ErrSize), ("bailee/api.ErrProof", Rows.laid_bailee_api_ErrProof), ("bailee/sha.first", Rows.laid_bailee_sha_first), ("bailee/sha.added", Rows.laid_bailee_sha_added), ("bailee/foe.words", Rows.laid_bailee_foe_words)] [.data, .data, .sentinel, .sentinel, .sentinel, .sentinel, .sentinel, .sentinel, .data, .data, .data] true :=
  Program.laidByTextLater.sub seatTie1 ["bailee/baileeref07.begins", "bailee/baileeref07.added", "bailee/api.ErrRange", "bailee/api.ErrLong", "bailee/api.ErrForm", "bailee/api.ErrKind", "bailee/api.ErrSize", "bailee/api.ErrProof", "bailee/sha.first", "bailee/sha.added", "bailee/foe.words"] (by kernel_rfl) (by kernel_rfl)
theorem foeForges_row_tie : Rows.foeForgesRow.laidByTextAt .later Tryz.pinned [.data, .data, .sentinel, .sentinel, .sentinel, .sentinel, .sentinel, .sentinel, .data, .data, .data] true :=
  OpenClaim.laidByTextAt_later rfl rfl tie noOwnUnsafe
theorem tie2 : Tryz.prog.laidByTextLater [("bailee/baileeref07.begins", Rows.laid_bailee_baileeref07_begins), ("bailee/baileeref07.added", Rows.laid_bailee_baileeref07_added), ("bailee/api.ErrRange", Rows.laid_bailee_api_ErrRange), ("bailee/api.ErrShort", Rows.laid_bailee_api_ErrShort), ("bailee/api.ErrLong", Rows.laid_bailee_api_ErrLong), ("bailee/api.ErrForm", Rows.laid_bailee_api_ErrForm), ("bailee/api.ErrKind", Rows.laid_bailee_api_ErrKind), ("bailee/api.ErrSize", Rows.laid_bailee_api_ErrSize), ("bailee/sha.first", Rows.laid_bailee_sha_first), ("bailee/sha.added", Rows.laid_bailee_sha_added), ("bailee/foe.words", Rows.laid_bailee_foe_words)] [.data, .data, .sentinel, .sentinel, .sentinel, .sentinel, .sentinel, .sentinel, .data, .data, .data] true :=
  Program.laidByTextLater.sub seatTie1 ["bailee/baileeref07.begins", "bailee/baileeref07.added", "bailee/api.ErrRange", "bailee/api.ErrShort", "bailee/api.ErrLong", "bailee/api.ErrForm", "bailee/api.ErrKind", "bailee/api.ErrSize", "bailee/sha.first", "bailee/sha.added", "bailee/foe.words"] (by kernel_rfl) (by kernel_rfl)
theorem foeAnswers_row_tie : Rows.foeAnswersRow.laidByTextAt .later Tryz.pinned [.data, .data, .sentinel, .sentinel, .sentinel, .sentinel, .sentinel, .sentinel, .data, .data, .data] true :=
  OpenClaim.laidByTextAt_later rfl rfl tie2 noOwnUnsafe
theorem tie3 : Tryz.prog.laidByTextLater [("bailee/baileeref07.begins", Rows.laid_bailee_baileeref07_begins), ("bailee/baileeref07.added", Rows.laid_bailee_baileeref07_added), ("bailee/api.ErrRange", Rows.laid_bailee_api_ErrRange), ("bailee/api.ErrShort", Rows.laid_bailee_api_ErrShort), ("bailee/api.ErrLong", Rows.laid_bailee_api_ErrLong), ("bailee/api.ErrForm", Rows.laid_bailee_api_ErrForm), ("bailee/api.ErrKind", Rows.laid_bailee_api_ErrKind), ("bailee/api.ErrSize", Rows.laid_bailee_api_ErrSize), ("bailee/sha.first", Rows.laid_bailee_sha_first), ("bailee/sha.added", Rows.laid_bailee_sha_added)] [.data, .data, .sentinel, .sentinel, .sentinel, .sentinel, .sentinel, .sentinel, .data, .data] true :=
  Program.laidByTextLater.sub seatTie1 ["bailee/baileeref07.begins", "bailee/baileeref07.added", "bailee/api.ErrRange", "bailee/api.ErrShort", "bailee/api.ErrLong", "bailee/api.ErrForm", "bailee/api.ErrKind", "bailee/api.ErrSize", "bailee/sha.first", "bailee/sha.added"] (by kernel_rfl) (by kernel_rfl)
theorem shelfPlays_row_tie : Rows.shelfPlaysRow.laidByTextAt .later Tryz.pinned [.data, .data, .sentinel, .sentinel, .sentinel, .sentinel, .sentinel, .sentinel, .data, .data] true :=
  OpenClaim.laidByTextAt_later rfl rfl tie3 noOwnUnsafe
theorem foeForgesUpto_row_tie : Rows.foeForgesUptoRow.laidByTextAt .later Tryz.pinned [.data, .data, .sentinel, .sentinel, .sentinel, .sentinel, .sentinel, .sentinel, .data, .data, .data] true :=
  OpenClaim.laidByTextAt_later rfl rfl tie noOwnUnsafe
theorem foeAnswersUpto_row_tie : Rows.foeAnswersUptoRow.laidByTextAt .later Tryz.pinned [.data, .data, .sentinel, .sentinel, .sentinel, .sentinel, .sentinel, .sentinel, .data, .data, .data] true :=
  OpenClaim.laidByTextAt_later rfl rfl tie2 noOwnUnsafe
theorem shelfPlaysUpto_row_tie : Rows.shelfPlaysUptoRow.laidByTextAt .later Tryz.pinned [.data, .data, .sentinel, .sentinel, .sentinel, .sentinel, .sentinel, .sentinel, .data, .data] true :=
  OpenClaim.laidByTextAt_later rfl rfl tie3 noOwnUnsafe
end Go.Proofs.YtglenbikdahgjaaGreatDoor

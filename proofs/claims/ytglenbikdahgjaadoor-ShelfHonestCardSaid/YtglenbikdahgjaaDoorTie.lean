/-
  DERIVED. GIVEN WITH THE SEED: THE PROGRAM's TIES (one call each: nine closed facts by the kernel) AND EACH ROW's TIE, after the 31st guide's Derived/Test/Toyas{Tie, Card}.lean. No idea stands in it: it is a product of the set-up. Laid BY PROGRAM, IN A SANDBOX (cutbox-door.mjs). By AI agents, Wed Nov 11 2026. No macro, syntax, notation, axiom, sorry.
-/
import Derived.Test.YtglenbikdahgjaaDoorRows
import Derived.LaidByTextLater
import Derived.SevenTiedAt
import Derived.LaidSub
import Derived.LaidOnce
namespace Go.Proofs.YtglenbikdahgjaaDoor
open Go
set_option maxRecDepth 100000
theorem seatTie1 : Tryd.prog.laidByTextLater [("bailee/baileeref07.begins", Rows.laid_bailee_baileeref07_begins), ("bailee/baileeref07.added", Rows.laid_bailee_baileeref07_added), ("bailee/api.ErrRange", Rows.laid_bailee_api_ErrRange), ("bailee/api.ErrLong", Rows.laid_bailee_api_ErrLong), ("bailee/api.ErrForm", Rows.laid_bailee_api_ErrForm), ("bailee/api.ErrKind", Rows.laid_bailee_api_ErrKind), ("bailee/api.ErrSize", Rows.laid_bailee_api_ErrSize), ("bailee/api.ErrProof", Rows.laid_bailee_api_ErrProof), ("bailee/sha.first", Rows.laid_bailee_sha_first), ("bailee/sha.added", Rows.laid_bailee_sha_added)] [.data, .data, .sentinel, .sentinel, .sentinel, .sentinel, .sentinel, .sentinel, .data, .data] true :=
  Program.laidByTextLater_by_one 143 8 65 (by kernel_rfl) (by kernel_rfl) (by kernel_rfl) (by kernel_rfl) (by kernel_rfl) (by kernel_rfl) (fun _ _ => by kernel_rfl)
theorem noOwnUnsafe : Tryd.pinned.checked.prog.headLifts.contains "ownunsafe" = false := by kernel_rfl
theorem tie : Tryd.prog.laidByTextLater [("bailee/api.ErrRange", Rows.laid_bailee_api_ErrRange), ("bailee/api.ErrLong", Rows.laid_bailee_api_ErrLong), ("bailee/api.ErrForm", Rows.laid_bailee_api_ErrForm), ("bailee/api.ErrKind", Rows.laid_bailee_api_ErrKind), ("bailee/api.ErrSize", Rows.laid_bailee_api_ErrSize), ("bailee/sha.first", Rows.laid_bailee_sha_first), ("bailee/sha.added", Rows.laid_bailee_sha_added)] [.sentinel, .sentinel, .sentinel, .sentinel, .sentinel, .data, .data] true :=
  Program.laidByTextLater.sub seatTie1 ["bailee/api.ErrRange", "bailee/api.ErrLong", "bailee/api.ErrForm", "bailee/api.ErrKind", "bailee/api.ErrSize", "bailee/sha.first", "bailee/sha.added"] (by kernel_rfl) (by kernel_rfl)
theorem shelfRefuses_row_tie : Rows.shelfRefusesRow.laidByTextAt .later Tryd.pinned [.sentinel, .sentinel, .sentinel, .sentinel, .sentinel, .data, .data] true :=
  OpenClaim.laidByTextAt_later rfl rfl tie noOwnUnsafe
theorem tie2 : Tryd.prog.laidByTextLater [("bailee/baileeref07.begins", Rows.laid_bailee_baileeref07_begins), ("bailee/baileeref07.added", Rows.laid_bailee_baileeref07_added), ("bailee/api.ErrRange", Rows.laid_bailee_api_ErrRange), ("bailee/api.ErrLong", Rows.laid_bailee_api_ErrLong), ("bailee/api.ErrForm", Rows.laid_bailee_api_ErrForm), ("bailee/api.ErrKind", Rows.laid_bailee_api_ErrKind), ("bailee/api.ErrSize", Rows.laid_bailee_api_ErrSize), ("bailee/api.ErrProof", Rows.laid_bailee_api_ErrProof), ("bailee/sha.first", Rows.laid_bailee_sha_first), ("bailee/sha.added", Rows.laid_bailee_sha_added)] [.data, .data, .sentinel, .sentinel, .sentinel, .sentinel, .sentinel, .sentinel, .data, .data] true :=
  Program.laidByTextLater.sub seatTie1 ["bailee/baileeref07.begins", "bailee/baileeref07.added", "bailee/api.ErrRange", "bailee/api.ErrLong", "bailee/api.ErrForm", "bailee/api.ErrKind", "bailee/api.ErrSize", "bailee/api.ErrProof", "bailee/sha.first", "bailee/sha.added"] (by kernel_rfl) (by kernel_rfl)
theorem shelfHonest_row_tie : Rows.shelfHonestRow.laidByTextAt .later Tryd.pinned [.data, .data, .sentinel, .sentinel, .sentinel, .sentinel, .sentinel, .sentinel, .data, .data] true :=
  OpenClaim.laidByTextAt_later rfl rfl tie2 noOwnUnsafe
theorem shelfRefusesUpto_row_tie : Rows.shelfRefusesUptoRow.laidByTextAt .later Tryd.pinned [.sentinel, .sentinel, .sentinel, .sentinel, .sentinel, .data, .data] true :=
  OpenClaim.laidByTextAt_later rfl rfl tie noOwnUnsafe
theorem shelfHonestUpto_row_tie : Rows.shelfHonestUptoRow.laidByTextAt .later Tryd.pinned [.data, .data, .sentinel, .sentinel, .sentinel, .sentinel, .sentinel, .sentinel, .data, .data] true :=
  OpenClaim.laidByTextAt_later rfl rfl tie2 noOwnUnsafe
end Go.Proofs.YtglenbikdahgjaaDoor

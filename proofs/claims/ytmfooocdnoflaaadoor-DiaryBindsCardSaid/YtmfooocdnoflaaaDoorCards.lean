/-
  DERIVED. GIVEN WITH THE SEED: THE CARDS: each row of YtmfooocdnoflaaaDoorRows.lean that lists a variable, with what it lists TIED to the program's text (the seventh form; the later family's looks); each row that meets fmt, with fmt's text TOLD by the authors' own Lean function (tested against real Go, not proved from fmt's source: count such statements apart). THE CARD IS WHAT COUNTS. Prove the row's statement (the work); the ties are given (YtmfooocdnoflaaaDoorTie.lean); close each card by the builder's one call (the guide's Derived/Test/ToyasCard.lean, 'card_holds'). Laid BY PROGRAM, IN A SANDBOX (cutbox-door.mjs). By AI agents, Wed Nov 11 2026. No macro, syntax, notation, axiom, sorry.
-/
import Derived.Test.YtmfooocdnoflaaaDoorRows
import GoSem.ClaimSeven
namespace Go.Proofs.YtmfooocdnoflaaaDoor
namespace Rows

/-- THE TIED CARD OF 'baileelaw39.DiaryPlays'. -/
def diaryPlaysCard : Claim7 := { stood := { row := diaryPlaysRow, standIns := [], harness := (true, "0fd3a1c76c3fc56b83d847d07287c4dfb23dee0315c1a875e1716f514bc653fd"), looks := true }, kinds := [], alts := [], laidByText := true, laidKinds := [.data, .data, .sentinel, .sentinel, .sentinel, .sentinel, .sentinel, .sentinel, .sentinel, .sentinel, .sentinel, .sentinel, .sentinel, .sentinel, .sentinel, .sentinel, .sentinel, .sentinel, .sentinel, .sentinel, .sentinel, .sentinel, .data, .data], laidTests := true, laidLooks := .later }
def DiaryPlaysCardSaid : Prop := Claim7.holds Tryd.pinned (.plain (OpenSpec.ofChange diaryPlaysSpec)) diaryPlaysCard

/-- THE TIED CARD OF 'baileelaw39.DiaryHonest'. -/
def diaryHonestCard : Claim7 := { stood := { row := diaryHonestRow, standIns := [], harness := (true, "0fd3a1c76c3fc56b83d847d07287c4dfb23dee0315c1a875e1716f514bc653fd"), looks := true }, kinds := [], alts := [], laidByText := true, laidKinds := [.data, .data, .sentinel, .sentinel, .sentinel, .sentinel, .sentinel, .sentinel, .sentinel, .sentinel, .sentinel, .sentinel, .sentinel, .sentinel, .sentinel, .sentinel, .sentinel, .sentinel, .sentinel, .sentinel, .sentinel, .sentinel, .data, .data], laidTests := true, laidLooks := .later }
def DiaryHonestCardSaid : Prop := Claim7.holds Tryd.pinned (.plain (OpenSpec.ofChange diaryHonestSpec)) diaryHonestCard

/-- THE TIED CARD OF 'baileelaw39.DiaryBinds'. -/
def diaryBindsCard : Claim7 := { stood := { row := diaryBindsRow, standIns := [], harness := (true, "0fd3a1c76c3fc56b83d847d07287c4dfb23dee0315c1a875e1716f514bc653fd"), looks := true }, kinds := [], alts := [], laidByText := true, laidKinds := [.data, .data, .sentinel, .sentinel, .sentinel, .sentinel, .sentinel, .sentinel, .sentinel, .sentinel, .sentinel, .sentinel, .sentinel, .sentinel, .sentinel, .sentinel, .sentinel, .sentinel, .sentinel, .sentinel, .sentinel, .sentinel, .data, .data], laidTests := true, laidLooks := .later }
def DiaryBindsCardSaid : Prop := Claim7.holds Tryd.pinned (.plain (OpenSpec.ofChange diaryBindsSpec)) diaryBindsCard

/-- THE TIED CARD OF 'baileelaw39.DiaryAgrees'. -/
def diaryAgreesCard : Claim7 := { stood := { row := diaryAgreesRow, standIns := [], harness := (true, "0fd3a1c76c3fc56b83d847d07287c4dfb23dee0315c1a875e1716f514bc653fd"), looks := true }, kinds := [], alts := [], laidByText := true, laidKinds := [.data, .data, .sentinel, .sentinel, .sentinel, .sentinel, .sentinel, .sentinel, .sentinel, .sentinel, .sentinel, .sentinel, .sentinel, .sentinel, .sentinel, .sentinel, .sentinel, .sentinel, .sentinel, .sentinel, .sentinel, .sentinel, .data, .data], laidTests := true, laidLooks := .later }
def DiaryAgreesCardSaid : Prop := Claim7.holds Tryd.pinned (.plain (OpenSpec.ofChange diaryAgreesSpec)) diaryAgreesCard

/-- THE TIED CARD OF 'baileelaw39.DiaryUnforked'. -/
def diaryUnforkedCard : Claim7 := { stood := { row := diaryUnforkedRow, standIns := [], harness := (true, "0fd3a1c76c3fc56b83d847d07287c4dfb23dee0315c1a875e1716f514bc653fd"), looks := true }, kinds := [], alts := [], laidByText := true, laidKinds := [.sentinel, .sentinel, .sentinel, .sentinel, .sentinel, .sentinel, .sentinel, .sentinel, .sentinel, .sentinel, .sentinel, .sentinel, .sentinel, .sentinel, .sentinel, .sentinel, .sentinel, .sentinel, .sentinel, .sentinel, .data, .data], laidTests := true, laidLooks := .later }
def DiaryUnforkedCardSaid : Prop := Claim7.holds Tryd.pinned (.plain (OpenSpec.ofChange diaryUnforkedSpec)) diaryUnforkedCard

/-- THE SECOND FORM's CARD OF 'baileelaw39.DiaryPlays'. -/
def diaryPlaysUptoCard : Claim7 := { stood := { row := diaryPlaysUptoRow, standIns := [], harness := (true, "0fd3a1c76c3fc56b83d847d07287c4dfb23dee0315c1a875e1716f514bc653fd"), looks := true }, kinds := [], alts := [], laidByText := true, laidKinds := [.data, .data, .sentinel, .sentinel, .sentinel, .sentinel, .sentinel, .sentinel, .sentinel, .sentinel, .sentinel, .sentinel, .sentinel, .sentinel, .sentinel, .sentinel, .sentinel, .sentinel, .sentinel, .sentinel, .sentinel, .sentinel, .data, .data], laidTests := true, laidLooks := .later }
def DiaryPlaysUptoCardSaid : Prop := Claim7.holds Tryd.pinned (.plain (OpenSpec.upto diaryPlaysSpec)) diaryPlaysUptoCard

/-- THE SECOND FORM's CARD OF 'baileelaw39.DiaryHonest'. -/
def diaryHonestUptoCard : Claim7 := { stood := { row := diaryHonestUptoRow, standIns := [], harness := (true, "0fd3a1c76c3fc56b83d847d07287c4dfb23dee0315c1a875e1716f514bc653fd"), looks := true }, kinds := [], alts := [], laidByText := true, laidKinds := [.data, .data, .sentinel, .sentinel, .sentinel, .sentinel, .sentinel, .sentinel, .sentinel, .sentinel, .sentinel, .sentinel, .sentinel, .sentinel, .sentinel, .sentinel, .sentinel, .sentinel, .sentinel, .sentinel, .sentinel, .sentinel, .data, .data], laidTests := true, laidLooks := .later }
def DiaryHonestUptoCardSaid : Prop := Claim7.holds Tryd.pinned (.plain (OpenSpec.upto diaryHonestSpec)) diaryHonestUptoCard

/-- THE SECOND FORM's CARD OF 'baileelaw39.DiaryBinds'. -/
def diaryBindsUptoCard : Claim7 := { stood := { row := diaryBindsUptoRow, standIns := [], harness := (true, "0fd3a1c76c3fc56b83d847d07287c4dfb23dee0315c1a875e1716f514bc653fd"), looks := true }, kinds := [], alts := [], laidByText := true, laidKinds := [.data, .data, .sentinel, .sentinel, .sentinel, .sentinel, .sentinel, .sentinel, .sentinel, .sentinel, .sentinel, .sentinel, .sentinel, .sentinel, .sentinel, .sentinel, .sentinel, .sentinel, .sentinel, .sentinel, .sentinel, .sentinel, .data, .data], laidTests := true, laidLooks := .later }
def DiaryBindsUptoCardSaid : Prop := Claim7.holds Tryd.pinned (.plain (OpenSpec.upto diaryBindsSpec)) diaryBindsUptoCard

/-- THE SECOND FORM's CARD OF 'baileelaw39.DiaryAgrees'. -/
def diaryAgreesUptoCard : Claim7 := { stood := { row := diaryAgreesUptoRow, standIns := [], harness := (true, "0fd3a1c76c3fc56b83d847d07287c4dfb23dee0315c1a875e1716f514bc653fd"), looks := true }, kinds := [], alts := [], laidByText := true, laidKinds := [.data, .data, .sentinel, .sentinel, .sentinel, .sentinel, .sentinel, .sentinel, .sentinel, .sentinel, .sentinel, .sentinel, .sentinel, .sentinel, .sentinel, .sentinel, .sentinel, .sentinel, .sentinel, .sentinel, .sentinel, .sentinel, .data, .data], laidTests := true, laidLooks := .later }
def DiaryAgreesUptoCardSaid : Prop := Claim7.holds Tryd.pinned (.plain (OpenSpec.upto diaryAgreesSpec)) diaryAgreesUptoCard

/-- THE SECOND FORM's CARD OF 'baileelaw39.DiaryUnforked'. -/
def diaryUnforkedUptoCard : Claim7 := { stood := { row := diaryUnforkedUptoRow, standIns := [], harness := (true, "0fd3a1c76c3fc56b83d847d07287c4dfb23dee0315c1a875e1716f514bc653fd"), looks := true }, kinds := [], alts := [], laidByText := true, laidKinds := [.sentinel, .sentinel, .sentinel, .sentinel, .sentinel, .sentinel, .sentinel, .sentinel, .sentinel, .sentinel, .sentinel, .sentinel, .sentinel, .sentinel, .sentinel, .sentinel, .sentinel, .sentinel, .sentinel, .sentinel, .data, .data], laidTests := true, laidLooks := .later }
def DiaryUnforkedUptoCardSaid : Prop := Claim7.holds Tryd.pinned (.plain (OpenSpec.upto diaryUnforkedSpec)) diaryUnforkedUptoCard
end Rows
end Go.Proofs.YtmfooocdnoflaaaDoor

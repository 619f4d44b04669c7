/-
  DERIVED. GIVEN WITH THE SEED: THE CARDS: each row of YtdodgcapihfkkaaDoorRows.lean that lists a variable, with what it lists TIED to the program's text (the seventh form; the later family's looks); each row that meets fmt, with fmt's text TOLD by the authors' own Lean function (tested against real Go, not proved from fmt's source: count such statements apart). THE CARD IS WHAT COUNTS. Prove the row's statement (the work); the ties are given (YtdodgcapihfkkaaDoorTie.lean); close each card by the builder's one call (the guide's Derived/Test/ToyasCard.lean, 'card_holds'). Laid BY PROGRAM, IN A SANDBOX (cutbox-door.mjs). By AI agents, Wed Nov 11 2026. No macro, syntax, notation, axiom, sorry.
-/
import Derived.Test.YtdodgcapihfkkaaDoorRows
import GoSem.ClaimSeven
namespace Go.Proofs.YtdodgcapihfkkaaDoor
namespace Rows

/-- THE TIED CARD OF 'baileelaw07.ShaDigests'. -/
def shaDigestsCard : Claim7 := { stood := { row := shaDigestsRow, standIns := [], harness := (true, "b23270aeac7e3a545477b7614772f6c12d04402a3c346b01963db233a51bf49e"), looks := true }, kinds := [], alts := [], laidByText := true, laidKinds := [.data, .data, .data, .data], laidTests := true, laidLooks := .later }
def ShaDigestsCardSaid : Prop := Claim7.holds Tryd.pinned (.plain (OpenSpec.ofChange shaDigestsSpec)) shaDigestsCard

/-- THE TIED CARD OF 'baileelaw12.TreeNodes'. -/
def treeNodesCard : Claim7 := { stood := { row := treeNodesRow, standIns := [], harness := (true, "b23270aeac7e3a545477b7614772f6c12d04402a3c346b01963db233a51bf49e"), looks := true }, kinds := [], alts := [], laidByText := true, laidKinds := [.data, .data, .data, .data], laidTests := true, laidLooks := .later }
def TreeNodesCardSaid : Prop := Claim7.holds Tryd.pinned (.plain (OpenSpec.ofChange treeNodesSpec)) treeNodesCard

/-- THE TIED CARD OF 'baileelaw07.ShaTexts'. -/
def shaTextsCard : Claim7 := { stood := { row := shaTextsRow, standIns := [], harness := (true, "b23270aeac7e3a545477b7614772f6c12d04402a3c346b01963db233a51bf49e"), looks := true }, kinds := [], alts := [], laidByText := true, laidKinds := [.sentinel, .sentinel, .sentinel, .sentinel, .sentinel, .sentinel, .sentinel, .sentinel, .sentinel, .sentinel, .sentinel, .sentinel, .sentinel, .sentinel, .sentinel, .sentinel, .sentinel, .sentinel, .sentinel, .sentinel, .data, .data], laidTests := true, laidLooks := .later }
def ShaTextsCardSaid : Prop := Claim7.holds Tryd.pinned (.plain (OpenSpec.ofChange shaTextsSpec)) shaTextsCard

/-- THE TIED CARD OF 'baileelaw12.TreeRoots'. -/
def treeRootsCard : Claim7 := { stood := { row := treeRootsRow, standIns := [], harness := (true, "b23270aeac7e3a545477b7614772f6c12d04402a3c346b01963db233a51bf49e"), looks := true }, kinds := [], alts := [], laidByText := true, laidKinds := [.data, .data, .data, .data], laidTests := true, laidLooks := .later }
def TreeRootsCardSaid : Prop := Claim7.holds Tryd.pinned (.plain (OpenSpec.ofChange treeRootsSpec)) treeRootsCard

/-- THE TIED CARD OF 'baileelaw12.TreeApart'. -/
def treeApartCard : Claim7 := { stood := { row := treeApartRow, standIns := [], harness := (true, "b23270aeac7e3a545477b7614772f6c12d04402a3c346b01963db233a51bf49e"), looks := true }, kinds := [], alts := [], laidByText := true, laidKinds := [.data, .data], laidTests := true, laidLooks := .later }
def TreeApartCardSaid : Prop := Claim7.holds Tryd.pinned (.plain (OpenSpec.ofChange treeApartSpec)) treeApartCard

/-- THE TIED CARD OF 'baileelaw12.TreeHalves'. -/
def treeHalvesCard : Claim7 := { stood := { row := treeHalvesRow, standIns := [], harness := (true, "b23270aeac7e3a545477b7614772f6c12d04402a3c346b01963db233a51bf49e"), looks := true }, kinds := [], alts := [], laidByText := true, laidKinds := [.data, .data], laidTests := true, laidLooks := .later }
def TreeHalvesCardSaid : Prop := Claim7.holds Tryd.pinned (.plain (OpenSpec.ofChange treeHalvesSpec)) treeHalvesCard

/-- THE TIED CARD OF 'baileelaw14.GrowthAdds'. -/
def growthAddsCard : Claim7 := { stood := { row := growthAddsRow, standIns := [], harness := (true, "b23270aeac7e3a545477b7614772f6c12d04402a3c346b01963db233a51bf49e"), looks := true }, kinds := [], alts := [], laidByText := true, laidKinds := [.data, .data, .sentinel, .sentinel, .sentinel, .data, .data], laidTests := true, laidLooks := .later }
def GrowthAddsCardSaid : Prop := Claim7.holds Tryd.pinned (.plain (OpenSpec.ofChange growthAddsSpec)) growthAddsCard

/-- THE TIED CARD OF 'baileelaw14.GrowthFrontiers'. -/
def growthFrontiersCard : Claim7 := { stood := { row := growthFrontiersRow, standIns := [], harness := (true, "b23270aeac7e3a545477b7614772f6c12d04402a3c346b01963db233a51bf49e"), looks := true }, kinds := [], alts := [], laidByText := true, laidKinds := [.data, .data, .sentinel, .sentinel, .sentinel, .sentinel, .sentinel, .sentinel, .sentinel, .sentinel, .sentinel, .sentinel, .sentinel, .sentinel, .sentinel, .sentinel, .sentinel, .sentinel, .sentinel, .sentinel, .sentinel, .sentinel, .data, .data], laidTests := true, laidLooks := .later }
def GrowthFrontiersCardSaid : Prop := Claim7.holds Tryd.pinned (.plain (OpenSpec.ofChange growthFrontiersSpec)) growthFrontiersCard

/-- THE TIED CARD OF 'baileelaw14.GrowthOne'. -/
def growthOneCard : Claim7 := { stood := { row := growthOneRow, standIns := [], harness := (true, "b23270aeac7e3a545477b7614772f6c12d04402a3c346b01963db233a51bf49e"), looks := true }, kinds := [], alts := [], laidByText := true, laidKinds := [.data, .data, .sentinel, .sentinel, .sentinel, .sentinel, .data, .data], laidTests := true, laidLooks := .later }
def GrowthOneCardSaid : Prop := Claim7.holds Tryd.pinned (.plain (OpenSpec.ofChange growthOneSpec)) growthOneCard

/-- THE TIED CARD OF 'baileelaw14.GrowthChecks'. -/
def growthChecksCard : Claim7 := { stood := { row := growthChecksRow, standIns := [], harness := (true, "b23270aeac7e3a545477b7614772f6c12d04402a3c346b01963db233a51bf49e"), looks := true }, kinds := [], alts := [], laidByText := true, laidKinds := [.data, .data, .sentinel, .sentinel, .sentinel, .sentinel, .sentinel, .sentinel, .sentinel, .sentinel, .sentinel, .sentinel, .sentinel, .sentinel, .sentinel, .sentinel, .sentinel, .sentinel, .sentinel, .sentinel, .sentinel, .sentinel, .data, .data], laidTests := true, laidLooks := .later }
def GrowthChecksCardSaid : Prop := Claim7.holds Tryd.pinned (.plain (OpenSpec.ofChange growthChecksSpec)) growthChecksCard

/-- THE TIED CARD OF 'baileelaw13.PathBytes'. -/
def pathBytesCard : Claim7 := { stood := { row := pathBytesRow, standIns := [], harness := (true, "b23270aeac7e3a545477b7614772f6c12d04402a3c346b01963db233a51bf49e"), looks := true }, kinds := [], alts := [], laidByText := true, laidKinds := [.sentinel, .sentinel, .sentinel, .sentinel, .sentinel, .sentinel, .sentinel, .sentinel, .sentinel, .sentinel, .sentinel, .sentinel, .sentinel, .sentinel, .sentinel, .sentinel, .sentinel, .sentinel, .sentinel, .sentinel, .data, .data], laidTests := true, laidLooks := .later }
def PathBytesCardSaid : Prop := Claim7.holds Tryd.pinned (.plain (OpenSpec.ofChange pathBytesSpec)) pathBytesCard

/-- THE TIED CARD OF 'baileelaw13.PathClashes'. -/
def pathClashesCard : Claim7 := { stood := { row := pathClashesRow, standIns := [], harness := (true, "b23270aeac7e3a545477b7614772f6c12d04402a3c346b01963db233a51bf49e"), looks := true }, kinds := [], alts := [], laidByText := true, laidKinds := [.data, .data, .sentinel, .sentinel, .sentinel, .data, .data], laidTests := true, laidLooks := .later }
def PathClashesCardSaid : Prop := Claim7.holds Tryd.pinned (.plain (OpenSpec.ofChange pathClashesSpec)) pathClashesCard

/-- THE TIED CARD OF 'baileelaw13.PathAll'. -/
def pathAllCard : Claim7 := { stood := { row := pathAllRow, standIns := [], harness := (true, "b23270aeac7e3a545477b7614772f6c12d04402a3c346b01963db233a51bf49e"), looks := true }, kinds := [], alts := [], laidByText := true, laidKinds := [.sentinel, .sentinel, .sentinel, .data, .data], laidTests := true, laidLooks := .later }
def PathAllCardSaid : Prop := Claim7.holds Tryd.pinned (.plain (OpenSpec.ofChange pathAllSpec)) pathAllCard

/-- THE TIED CARD OF 'baileelaw13.PathMakes'. -/
def pathMakesCard : Claim7 := { stood := { row := pathMakesRow, standIns := [], harness := (true, "b23270aeac7e3a545477b7614772f6c12d04402a3c346b01963db233a51bf49e"), looks := true }, kinds := [], alts := [], laidByText := true, laidKinds := [.data, .data, .sentinel, .sentinel, .sentinel, .sentinel, .sentinel, .sentinel, .sentinel, .sentinel, .sentinel, .sentinel, .sentinel, .sentinel, .sentinel, .sentinel, .sentinel, .sentinel, .sentinel, .sentinel, .sentinel, .sentinel, .data, .data], laidTests := true, laidLooks := .later }
def PathMakesCardSaid : Prop := Claim7.holds Tryd.pinned (.plain (OpenSpec.ofChange pathMakesSpec)) pathMakesCard

/-- THE TIED CARD OF 'baileelaw13.PathChecks'. -/
def pathChecksCard : Claim7 := { stood := { row := pathChecksRow, standIns := [], harness := (true, "b23270aeac7e3a545477b7614772f6c12d04402a3c346b01963db233a51bf49e"), looks := true }, kinds := [], alts := [], laidByText := true, laidKinds := [.data, .data, .sentinel, .sentinel, .sentinel, .sentinel, .sentinel, .sentinel, .sentinel, .sentinel, .sentinel, .sentinel, .sentinel, .sentinel, .sentinel, .sentinel, .sentinel, .sentinel, .sentinel, .sentinel, .sentinel, .sentinel, .data, .data], laidTests := true, laidLooks := .later }
def PathChecksCardSaid : Prop := Claim7.holds Tryd.pinned (.plain (OpenSpec.ofChange pathChecksSpec)) pathChecksCard

/-- THE TIED CARD OF 'baileelaw14.GrowthChain'. -/
def growthChainCard : Claim7 := { stood := { row := growthChainRow, standIns := [], harness := (true, "b23270aeac7e3a545477b7614772f6c12d04402a3c346b01963db233a51bf49e"), looks := true }, kinds := [], alts := [], laidByText := true, laidKinds := [.data, .data, .sentinel, .sentinel, .sentinel, .sentinel, .data, .data], laidTests := true, laidLooks := .later }
def GrowthChainCardSaid : Prop := Claim7.holds Tryd.pinned (.plain (OpenSpec.ofChange growthChainSpec)) growthChainCard

/-- THE TIED CARD OF 'baileelaw14.GrowthProves'. -/
def growthProvesCard : Claim7 := { stood := { row := growthProvesRow, standIns := [], harness := (true, "b23270aeac7e3a545477b7614772f6c12d04402a3c346b01963db233a51bf49e"), looks := true }, kinds := [], alts := [], laidByText := true, laidKinds := [.data, .data, .sentinel, .sentinel, .sentinel, .sentinel, .sentinel, .sentinel, .sentinel, .sentinel, .sentinel, .sentinel, .sentinel, .sentinel, .sentinel, .sentinel, .sentinel, .sentinel, .sentinel, .sentinel, .sentinel, .sentinel, .data, .data], laidTests := true, laidLooks := .later }
def GrowthProvesCardSaid : Prop := Claim7.holds Tryd.pinned (.plain (OpenSpec.ofChange growthProvesSpec)) growthProvesCard

/-- THE TIED CARD OF 'baileelaw39.DiaryBinds'. -/
def diaryBindsCard : Claim7 := { stood := { row := diaryBindsRow, standIns := [], harness := (true, "b23270aeac7e3a545477b7614772f6c12d04402a3c346b01963db233a51bf49e"), looks := true }, kinds := [], alts := [], laidByText := true, laidKinds := [.data, .data, .sentinel, .sentinel, .sentinel, .sentinel, .sentinel, .sentinel, .sentinel, .sentinel, .sentinel, .sentinel, .sentinel, .sentinel, .sentinel, .sentinel, .sentinel, .sentinel, .sentinel, .sentinel, .sentinel, .sentinel, .data, .data], laidTests := true, laidLooks := .later }
def DiaryBindsCardSaid : Prop := Claim7.holds Tryd.pinned (.plain (OpenSpec.ofChange diaryBindsSpec)) diaryBindsCard

/-- THE TIED CARD OF 'baileelaw39.DiaryPlays'. -/
def diaryPlaysCard : Claim7 := { stood := { row := diaryPlaysRow, standIns := [], harness := (true, "b23270aeac7e3a545477b7614772f6c12d04402a3c346b01963db233a51bf49e"), looks := true }, kinds := [], alts := [], laidByText := true, laidKinds := [.data, .data, .sentinel, .sentinel, .sentinel, .sentinel, .sentinel, .sentinel, .sentinel, .sentinel, .sentinel, .sentinel, .sentinel, .sentinel, .sentinel, .sentinel, .sentinel, .sentinel, .sentinel, .sentinel, .sentinel, .sentinel, .data, .data], laidTests := true, laidLooks := .later }
def DiaryPlaysCardSaid : Prop := Claim7.holds Tryd.pinned (.plain (OpenSpec.ofChange diaryPlaysSpec)) diaryPlaysCard

/-- THE TIED CARD OF 'baileelaw39.DiaryAgrees'. -/
def diaryAgreesCard : Claim7 := { stood := { row := diaryAgreesRow, standIns := [], harness := (true, "b23270aeac7e3a545477b7614772f6c12d04402a3c346b01963db233a51bf49e"), looks := true }, kinds := [], alts := [], laidByText := true, laidKinds := [.data, .data, .sentinel, .sentinel, .sentinel, .sentinel, .sentinel, .sentinel, .sentinel, .sentinel, .sentinel, .sentinel, .sentinel, .sentinel, .sentinel, .sentinel, .sentinel, .sentinel, .sentinel, .sentinel, .sentinel, .sentinel, .data, .data], laidTests := true, laidLooks := .later }
def DiaryAgreesCardSaid : Prop := Claim7.holds Tryd.pinned (.plain (OpenSpec.ofChange diaryAgreesSpec)) diaryAgreesCard

/-- THE TIED CARD OF 'baileelaw39.DiaryUnforked'. -/
def diaryUnforkedCard : Claim7 := { stood := { row := diaryUnforkedRow, standIns := [], harness := (true, "b23270aeac7e3a545477b7614772f6c12d04402a3c346b01963db233a51bf49e"), looks := true }, kinds := [], alts := [], laidByText := true, laidKinds := [.sentinel, .sentinel, .sentinel, .sentinel, .sentinel, .sentinel, .sentinel, .sentinel, .sentinel, .sentinel, .sentinel, .sentinel, .sentinel, .sentinel, .sentinel, .sentinel, .sentinel, .sentinel, .sentinel, .sentinel, .data, .data], laidTests := true, laidLooks := .later }
def DiaryUnforkedCardSaid : Prop := Claim7.holds Tryd.pinned (.plain (OpenSpec.ofChange diaryUnforkedSpec)) diaryUnforkedCard

/-- THE TIED CARD OF 'baileelaw39.DiaryHonest'. -/
def diaryHonestCard : Claim7 := { stood := { row := diaryHonestRow, standIns := [], harness := (true, "b23270aeac7e3a545477b7614772f6c12d04402a3c346b01963db233a51bf49e"), looks := true }, kinds := [], alts := [], laidByText := true, laidKinds := [.data, .data, .sentinel, .sentinel, .sentinel, .sentinel, .sentinel, .sentinel, .sentinel, .sentinel, .sentinel, .sentinel, .sentinel, .sentinel, .sentinel, .sentinel, .sentinel, .sentinel, .sentinel, .sentinel, .sentinel, .sentinel, .data, .data], laidTests := true, laidLooks := .later }
def DiaryHonestCardSaid : Prop := Claim7.holds Tryd.pinned (.plain (OpenSpec.ofChange diaryHonestSpec)) diaryHonestCard

/-- THE SECOND FORM's CARD OF 'baileelaw07.ShaDigests'. -/
def shaDigestsUptoCard : Claim7 := { stood := { row := shaDigestsUptoRow, standIns := [], harness := (true, "b23270aeac7e3a545477b7614772f6c12d04402a3c346b01963db233a51bf49e"), looks := true }, kinds := [], alts := [], laidByText := true, laidKinds := [.data, .data, .data, .data], laidTests := true, laidLooks := .later }
def ShaDigestsUptoCardSaid : Prop := Claim7.holds Tryd.pinned (.plain (OpenSpec.upto shaDigestsSpec)) shaDigestsUptoCard

/-- THE SECOND FORM's CARD OF 'baileelaw12.TreeNodes'. -/
def treeNodesUptoCard : Claim7 := { stood := { row := treeNodesUptoRow, standIns := [], harness := (true, "b23270aeac7e3a545477b7614772f6c12d04402a3c346b01963db233a51bf49e"), looks := true }, kinds := [], alts := [], laidByText := true, laidKinds := [.data, .data, .data, .data], laidTests := true, laidLooks := .later }
def TreeNodesUptoCardSaid : Prop := Claim7.holds Tryd.pinned (.plain (OpenSpec.upto treeNodesSpec)) treeNodesUptoCard

/-- THE SECOND FORM's CARD OF 'baileelaw07.ShaTexts'. -/
def shaTextsUptoCard : Claim7 := { stood := { row := shaTextsUptoRow, standIns := [], harness := (true, "b23270aeac7e3a545477b7614772f6c12d04402a3c346b01963db233a51bf49e"), looks := true }, kinds := [], alts := [], laidByText := true, laidKinds := [.sentinel, .sentinel, .sentinel, .sentinel, .sentinel, .sentinel, .sentinel, .sentinel, .sentinel, .sentinel, .sentinel, .sentinel, .sentinel, .sentinel, .sentinel, .sentinel, .sentinel, .sentinel, .sentinel, .sentinel, .data, .data], laidTests := true, laidLooks := .later }
def ShaTextsUptoCardSaid : Prop := Claim7.holds Tryd.pinned (.plain (OpenSpec.upto shaTextsSpec)) shaTextsUptoCard

/-- THE SECOND FORM's CARD OF 'baileelaw12.TreeRoots'. -/
def treeRootsUptoCard : Claim7 := { stood := { row := treeRootsUptoRow, standIns := [], harness := (true, "b23270aeac7e3a545477b7614772f6c12d04402a3c346b01963db233a51bf49e"), looks := true }, kinds := [], alts := [], laidByText := true, laidKinds := [.data, .data, .data, .data], laidTests := true, laidLooks := .later }
def TreeRootsUptoCardSaid : Prop := Claim7.holds Tryd.pinned (.plain (OpenSpec.upto treeRootsSpec)) treeRootsUptoCard

/-- THE SECOND FORM's CARD OF 'baileelaw12.TreeApart'. -/
def treeApartUptoCard : Claim7 := { stood := { row := treeApartUptoRow, standIns := [], harness := (true, "b23270aeac7e3a545477b7614772f6c12d04402a3c346b01963db233a51bf49e"), looks := true }, kinds := [], alts := [], laidByText := true, laidKinds := [.data, .data], laidTests := true, laidLooks := .later }
def TreeApartUptoCardSaid : Prop := Claim7.holds Tryd.pinned (.plain (OpenSpec.upto treeApartSpec)) treeApartUptoCard

/-- THE SECOND FORM's CARD OF 'baileelaw12.TreeHalves'. -/
def treeHalvesUptoCard : Claim7 := { stood := { row := treeHalvesUptoRow, standIns := [], harness := (true, "b23270aeac7e3a545477b7614772f6c12d04402a3c346b01963db233a51bf49e"), looks := true }, kinds := [], alts := [], laidByText := true, laidKinds := [.data, .data], laidTests := true, laidLooks := .later }
def TreeHalvesUptoCardSaid : Prop := Claim7.holds Tryd.pinned (.plain (OpenSpec.upto treeHalvesSpec)) treeHalvesUptoCard

/-- THE SECOND FORM's CARD OF 'baileelaw14.GrowthAdds'. -/
def growthAddsUptoCard : Claim7 := { stood := { row := growthAddsUptoRow, standIns := [], harness := (true, "b23270aeac7e3a545477b7614772f6c12d04402a3c346b01963db233a51bf49e"), looks := true }, kinds := [], alts := [], laidByText := true, laidKinds := [.data, .data, .sentinel, .sentinel, .sentinel, .data, .data], laidTests := true, laidLooks := .later }
def GrowthAddsUptoCardSaid : Prop := Claim7.holds Tryd.pinned (.plain (OpenSpec.upto growthAddsSpec)) growthAddsUptoCard

/-- THE SECOND FORM's CARD OF 'baileelaw14.GrowthFrontiers'. -/
def growthFrontiersUptoCard : Claim7 := { stood := { row := growthFrontiersUptoRow, standIns := [], harness := (true, "b23270aeac7e3a545477b7614772f6c12d04402a3c346b01963db233a51bf49e"), looks := true }, kinds := [], alts := [], laidByText := true, laidKinds := [.data, .data, .sentinel, .sentinel, .sentinel, .sentinel, .sentinel, .sentinel, .sentinel, .sentinel, .sentinel, .sentinel, .sentinel, .sentinel, .sentinel, .sentinel, .sentinel, .sentinel, .sentinel, .sentinel, .sentinel, .sentinel, .data, .data], laidTests := true, laidLooks := .later }
def GrowthFrontiersUptoCardSaid : Prop := Claim7.holds Tryd.pinned (.plain (OpenSpec.upto growthFrontiersSpec)) growthFrontiersUptoCard

/-- THE SECOND FORM's CARD OF 'baileelaw14.GrowthOne'. -/
def growthOneUptoCard : Claim7 := { stood := { row := growthOneUptoRow, standIns := [], harness := (true, "b23270aeac7e3a545477b7614772f6c12d04402a3c346b01963db233a51bf49e"), looks := true }, kinds := [], alts := [], laidByText := true, laidKinds := [.data, .data, .sentinel, .sentinel, .sentinel, .sentinel, .data, .data], laidTests := true, laidLooks := .later }
def GrowthOneUptoCardSaid : Prop := Claim7.holds Tryd.pinned (.plain (OpenSpec.upto growthOneSpec)) growthOneUptoCard

/-- THE SECOND FORM's CARD OF 'baileelaw14.GrowthChecks'. -/
def growthChecksUptoCard : Claim7 := { stood := { row := growthChecksUptoRow, standIns := [], harness := (true, "b23270aeac7e3a545477b7614772f6c12d04402a3c346b01963db233a51bf49e"), looks := true }, kinds := [], alts := [], laidByText := true, laidKinds := [.data, .data, .sentinel, .sentinel, .sentinel, .sentinel, .sentinel, .sentinel, .sentinel, .sentinel, .sentinel, .sentinel, .sentinel, .sentinel, .sentinel, .sentinel, .sentinel, .sentinel, .sentinel, .sentinel, .sentinel, .sentinel, .data, .data], laidTests := true, laidLooks := .later }
def GrowthChecksUptoCardSaid : Prop := Claim7.holds Tryd.pinned (.plain (OpenSpec.upto growthChecksSpec)) growthChecksUptoCard

/-- THE SECOND FORM's CARD OF 'baileelaw13.PathBytes'. -/
def pathBytesUptoCard : Claim7 := { stood := { row := pathBytesUptoRow, standIns := [], harness := (true, "b23270aeac7e3a545477b7614772f6c12d04402a3c346b01963db233a51bf49e"), looks := true }, kinds := [], alts := [], laidByText := true, laidKinds := [.sentinel, .sentinel, .sentinel, .sentinel, .sentinel, .sentinel, .sentinel, .sentinel, .sentinel, .sentinel, .sentinel, .sentinel, .sentinel, .sentinel, .sentinel, .sentinel, .sentinel, .sentinel, .sentinel, .sentinel, .data, .data], laidTests := true, laidLooks := .later }
def PathBytesUptoCardSaid : Prop := Claim7.holds Tryd.pinned (.plain (OpenSpec.upto pathBytesSpec)) pathBytesUptoCard

/-- THE SECOND FORM's CARD OF 'baileelaw13.PathClashes'. -/
def pathClashesUptoCard : Claim7 := { stood := { row := pathClashesUptoRow, standIns := [], harness := (true, "b23270aeac7e3a545477b7614772f6c12d04402a3c346b01963db233a51bf49e"), looks := true }, kinds := [], alts := [], laidByText := true, laidKinds := [.data, .data, .sentinel, .sentinel, .sentinel, .data, .data], laidTests := true, laidLooks := .later }
def PathClashesUptoCardSaid : Prop := Claim7.holds Tryd.pinned (.plain (OpenSpec.upto pathClashesSpec)) pathClashesUptoCard

/-- THE SECOND FORM's CARD OF 'baileelaw13.PathAll'. -/
def pathAllUptoCard : Claim7 := { stood := { row := pathAllUptoRow, standIns := [], harness := (true, "b23270aeac7e3a545477b7614772f6c12d04402a3c346b01963db233a51bf49e"), looks := true }, kinds := [], alts := [], laidByText := true, laidKinds := [.sentinel, .sentinel, .sentinel, .data, .data], laidTests := true, laidLooks := .later }
def PathAllUptoCardSaid : Prop := Claim7.holds Tryd.pinned (.plain (OpenSpec.upto pathAllSpec)) pathAllUptoCard

/-- THE SECOND FORM's CARD OF 'baileelaw13.PathMakes'. -/
def pathMakesUptoCard : Claim7 := { stood := { row := pathMakesUptoRow, standIns := [], harness := (true, "b23270aeac7e3a545477b7614772f6c12d04402a3c346b01963db233a51bf49e"), looks := true }, kinds := [], alts := [], laidByText := true, laidKinds := [.data, .data, .sentinel, .sentinel, .sentinel, .sentinel, .sentinel, .sentinel, .sentinel, .sentinel, .sentinel, .sentinel, .sentinel, .sentinel, .sentinel, .sentinel, .sentinel, .sentinel, .sentinel, .sentinel, .sentinel, .sentinel, .data, .data], laidTests := true, laidLooks := .later }
def PathMakesUptoCardSaid : Prop := Claim7.holds Tryd.pinned (.plain (OpenSpec.upto pathMakesSpec)) pathMakesUptoCard

/-- THE SECOND FORM's CARD OF 'baileelaw13.PathChecks'. -/
def pathChecksUptoCard : Claim7 := { stood := { row := pathChecksUptoRow, standIns := [], harness := (true, "b23270aeac7e3a545477b7614772f6c12d04402a3c346b01963db233a51bf49e"), looks := true }, kinds := [], alts := [], laidByText := true, laidKinds := [.data, .data, .sentinel, .sentinel, .sentinel, .sentinel, .sentinel, .sentinel, .sentinel, .sentinel, .sentinel, .sentinel, .sentinel, .sentinel, .sentinel, .sentinel, .sentinel, .sentinel, .sentinel, .sentinel, .sentinel, .sentinel, .data, .data], laidTests := true, laidLooks := .later }
def PathChecksUptoCardSaid : Prop := Claim7.holds Tryd.pinned (.plain (OpenSpec.upto pathChecksSpec)) pathChecksUptoCard

/-- THE SECOND FORM's CARD OF 'baileelaw14.GrowthChain'. -/
def growthChainUptoCard : Claim7 := { stood := { row := growthChainUptoRow, standIns := [], harness := (true, "b23270aeac7e3a545477b7614772f6c12d04402a3c346b01963db233a51bf49e"), looks := true }, kinds := [], alts := [], laidByText := true, laidKinds := [.data, .data, .sentinel, .sentinel, .sentinel, .sentinel, .data, .data], laidTests := true, laidLooks := .later }
def GrowthChainUptoCardSaid : Prop := Claim7.holds Tryd.pinned (.plain (OpenSpec.upto growthChainSpec)) growthChainUptoCard

/-- THE SECOND FORM's CARD OF 'baileelaw14.GrowthProves'. -/
def growthProvesUptoCard : Claim7 := { stood := { row := growthProvesUptoRow, standIns := [], harness := (true, "b23270aeac7e3a545477b7614772f6c12d04402a3c346b01963db233a51bf49e"), looks := true }, kinds := [], alts := [], laidByText := true, laidKinds := [.data, .data, .sentinel, .sentinel, .sentinel, .sentinel, .sentinel, .sentinel, .sentinel, .sentinel, .sentinel, .sentinel, .sentinel, .sentinel, .sentinel, .sentinel, .sentinel, .sentinel, .sentinel, .sentinel, .sentinel, .sentinel, .data, .data], laidTests := true, laidLooks := .later }
def GrowthProvesUptoCardSaid : Prop := Claim7.holds Tryd.pinned (.plain (OpenSpec.upto growthProvesSpec)) growthProvesUptoCard

/-- THE SECOND FORM's CARD OF 'baileelaw39.DiaryBinds'. -/
def diaryBindsUptoCard : Claim7 := { stood := { row := diaryBindsUptoRow, standIns := [], harness := (true, "b23270aeac7e3a545477b7614772f6c12d04402a3c346b01963db233a51bf49e"), looks := true }, kinds := [], alts := [], laidByText := true, laidKinds := [.data, .data, .sentinel, .sentinel, .sentinel, .sentinel, .sentinel, .sentinel, .sentinel, .sentinel, .sentinel, .sentinel, .sentinel, .sentinel, .sentinel, .sentinel, .sentinel, .sentinel, .sentinel, .sentinel, .sentinel, .sentinel, .data, .data], laidTests := true, laidLooks := .later }
def DiaryBindsUptoCardSaid : Prop := Claim7.holds Tryd.pinned (.plain (OpenSpec.upto diaryBindsSpec)) diaryBindsUptoCard

/-- THE SECOND FORM's CARD OF 'baileelaw39.DiaryPlays'. -/
def diaryPlaysUptoCard : Claim7 := { stood := { row := diaryPlaysUptoRow, standIns := [], harness := (true, "b23270aeac7e3a545477b7614772f6c12d04402a3c346b01963db233a51bf49e"), looks := true }, kinds := [], alts := [], laidByText := true, laidKinds := [.data, .data, .sentinel, .sentinel, .sentinel, .sentinel, .sentinel, .sentinel, .sentinel, .sentinel, .sentinel, .sentinel, .sentinel, .sentinel, .sentinel, .sentinel, .sentinel, .sentinel, .sentinel, .sentinel, .sentinel, .sentinel, .data, .data], laidTests := true, laidLooks := .later }
def DiaryPlaysUptoCardSaid : Prop := Claim7.holds Tryd.pinned (.plain (OpenSpec.upto diaryPlaysSpec)) diaryPlaysUptoCard

/-- THE SECOND FORM's CARD OF 'baileelaw39.DiaryAgrees'. -/
def diaryAgreesUptoCard : Claim7 := { stood := { row := diaryAgreesUptoRow, standIns := [], harness := (true, "b23270aeac7e3a545477b7614772f6c12d04402a3c346b01963db233a51bf49e"), looks := true }, kinds := [], alts := [], laidByText := true, laidKinds := [.data, .data, .sentinel, .sentinel, .sentinel, .sentinel, .sentinel, .sentinel, .sentinel, .sentinel, .sentinel, .sentinel, .sentinel, .sentinel, .sentinel, .sentinel, .sentinel, .sentinel, .sentinel, .sentinel, .sentinel, .sentinel, .data, .data], laidTests := true, laidLooks := .later }
def DiaryAgreesUptoCardSaid : Prop := Claim7.holds Tryd.pinned (.plain (OpenSpec.upto diaryAgreesSpec)) diaryAgreesUptoCard

/-- THE SECOND FORM's CARD OF 'baileelaw39.DiaryUnforked'. -/
def diaryUnforkedUptoCard : Claim7 := { stood := { row := diaryUnforkedUptoRow, standIns := [], harness := (true, "b23270aeac7e3a545477b7614772f6c12d04402a3c346b01963db233a51bf49e"), looks := true }, kinds := [], alts := [], laidByText := true, laidKinds := [.sentinel, .sentinel, .sentinel, .sentinel, .sentinel, .sentinel, .sentinel, .sentinel, .sentinel, .sentinel, .sentinel, .sentinel, .sentinel, .sentinel, .sentinel, .sentinel, .sentinel, .sentinel, .sentinel, .sentinel, .data, .data], laidTests := true, laidLooks := .later }
def DiaryUnforkedUptoCardSaid : Prop := Claim7.holds Tryd.pinned (.plain (OpenSpec.upto diaryUnforkedSpec)) diaryUnforkedUptoCard

/-- THE SECOND FORM's CARD OF 'baileelaw39.DiaryHonest'. -/
def diaryHonestUptoCard : Claim7 := { stood := { row := diaryHonestUptoRow, standIns := [], harness := (true, "b23270aeac7e3a545477b7614772f6c12d04402a3c346b01963db233a51bf49e"), looks := true }, kinds := [], alts := [], laidByText := true, laidKinds := [.data, .data, .sentinel, .sentinel, .sentinel, .sentinel, .sentinel, .sentinel, .sentinel, .sentinel, .sentinel, .sentinel, .sentinel, .sentinel, .sentinel, .sentinel, .sentinel, .sentinel, .sentinel, .sentinel, .sentinel, .sentinel, .data, .data], laidTests := true, laidLooks := .later }
def DiaryHonestUptoCardSaid : Prop := Claim7.holds Tryd.pinned (.plain (OpenSpec.upto diaryHonestSpec)) diaryHonestUptoCard
end Rows
end Go.Proofs.YtdodgcapihfkkaaDoor

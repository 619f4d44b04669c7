/-
  NARROWER THAN 'FOR EVERY INPUT', by the rows' own cells (each row's printed sentence says how): FoeForges: laid · FoeAnswers: laid · ShelfPlays: laid.
  DERIVED. THE GIVEN ROWS OF THIS SEAT. 3 by the template 'for every input the law returns true; each argument reads behind the call as it read before'; 0 by the template 'total and deterministic' (their statements: YtglenbikdahgjaaGreatDoorTotals.lean).
  GIVEN WITH THE SEED: the statements are not yours to turn. If you find one false, say at which input.
  Laid BY PROGRAM, IN A SANDBOX (cutbox-rows.mjs): the forced cells as the released guide's own fill.sh prints them over the translation 7d98a87315b320d5… (all of the seat's roots in one cut). By AI agents, Wed Nov 11 2026. No macro, syntax, notation, axiom, sorry.
-/
import Derived.Test.YtglenbikdahgjaaGreatDoorChecked
import GoSem.Claim
import GoSem.ClaimJoined
import GoSem.ClaimMapViews
import Derived.JoinedTies
import Derived.KernelRfl
namespace Go.Proofs.YtglenbikdahgjaaGreatDoor
/- THE CELL 'sum', in the pinned program and in every row, IS THE sha256 OF THE DUMP (.gsa) THAT YtglenbikdahgjaaGreatDoorProg.lean LOADS. Nothing in Lean hashes anything: it is a label: what it is worth is what the hold of that sum in a sandbox is worth. -/
noncomputable def Tryz.pinned : Pinned := { name := "ytglenbikdahgjaagreatdoor", sum := "7d98a87315b320d505ef57e848ec81b62f8ea450cfd97e0e47ce4524a04803f5", checked := Tryz.checked }
namespace Rows
def none {H : Type} : Left H := { results := [], args := [] }

/- WHAT THE LISTED PACKAGE-LEVEL VARIABLES READ AS WHEN THE CALL BEGINS. Each datum BY PROGRAM (the guide's laid-datum.mjs) off the statement by which the dump's own 'gosem.cut.vars' lays the variable. In a bare row this is a premise. The card (YtglenbikdahgjaaGreatDoorCards.lean) ties it to the program's text. -/
def laid_bailee_baileeref07_begins {H : Type} : DataW H := .agg [.lit (.int .u32 1779033703), .lit (.int .u32 3144134277), .lit (.int .u32 1013904242), .lit (.int .u32 2773480762), .lit (.int .u32 1359893119), .lit (.int .u32 2600822924), .lit (.int .u32 528734635), .lit (.int .u32 1541459225)]
def laid_bailee_baileeref07_added {H : Type} : DataW H := .agg [.lit (.int .u32 1116352408), .lit (.int .u32 1899447441), .lit (.int .u32 3049323471), .lit (.int .u32 3921009573), .lit (.int .u32 961987163), .lit (.int .u32 1508970993), .lit (.int .u32 2453635748), .lit (.int .u32 2870763221), .lit (.int .u32 3624381080), .lit (.int .u32 310598401), .lit (.int .u32 607225278), .lit (.int .u32 1426881987), .lit (.int .u32 1925078388), .lit (.int .u32 2162078206), .lit (.int .u32 2614888103), .lit (.int .u32 3248222580), .lit (.int .u32 3835390401), .lit (.int .u32 4022224774), .lit (.int .u32 264347078), .lit (.int .u32 604807628), .lit (.int .u32 770255983), .lit (.int .u32 1249150122), .lit (.int .u32 1555081692), .lit (.int .u32 1996064986), .lit (.int .u32 2554220882), .lit (.int .u32 2821834349), .lit (.int .u32 2952996808), .lit (.int .u32 3210313671), .lit (.int .u32 3336571891), .lit (.int .u32 3584528711), .lit (.int .u32 113926993), .lit (.int .u32 338241895), .lit (.int .u32 666307205), .lit (.int .u32 773529912), .lit (.int .u32 1294757372), .lit (.int .u32 1396182291), .lit (.int .u32 1695183700), .lit (.int .u32 1986661051), .lit (.int .u32 2177026350), .lit (.int .u32 2456956037), .lit (.int .u32 2730485921), .lit (.int .u32 2820302411), .lit (.int .u32 3259730800), .lit (.int .u32 3345764771), .lit (.int .u32 3516065817), .lit (.int .u32 3600352804), .lit (.int .u32 4094571909), .lit (.int .u32 275423344), .lit (.int .u32 430227734), .lit (.int .u32 506948616), .lit (.int .u32 659060556), .lit (.int .u32 883997877), .lit (.int .u32 958139571), .lit (.int .u32 1322822218), .lit (.int .u32 1537002063), .lit (.int .u32 1747873779), .lit (.int .u32 1955562222), .lit (.int .u32 2024104815), .lit (.int .u32 2227730452), .lit (.int .u32 2361852424), .lit (.int .u32 2428436474), .lit (.int .u32 2756734187), .lit (.int .u32 3204031479), .lit (.int .u32 3329325298)]
def laid_bailee_api_ErrRange {H : Type} : DataW H := .iface "*errors.errorString" (.ptr (.agg [.lit (.string [97, 32, 110, 117, 109, 98, 101, 114, 32, 105, 115, 32, 111, 117, 116, 32, 111, 102, 32, 105, 116, 115, 32, 114, 97, 110, 103, 101])]))
def laid_bailee_api_ErrLong {H : Type} : DataW H := .iface "*errors.errorString" (.ptr (.agg [.lit (.string [116, 104, 101, 114, 101, 32, 105, 115, 32, 109, 111, 114, 101, 32, 116, 104, 97, 110, 32, 109, 97, 121, 32, 98, 101])]))
def laid_bailee_api_ErrForm {H : Type} : DataW H := .iface "*errors.errorString" (.ptr (.agg [.lit (.string [105, 116, 32, 105, 115, 32, 110, 111, 116, 32, 111, 102, 32, 105, 116, 115, 32, 102, 111, 114, 109])]))
def laid_bailee_api_ErrKind {H : Type} : DataW H := .iface "*errors.errorString" (.ptr (.agg [.lit (.string [105, 116, 32, 105, 115, 32, 111, 102, 32, 97, 110, 111, 116, 104, 101, 114, 32, 107, 105, 110, 100])]))
def laid_bailee_api_ErrSize {H : Type} : DataW H := .iface "*errors.errorString" (.ptr (.agg [.lit (.string [105, 116, 32, 105, 115, 32, 110, 111, 116, 32, 111, 102, 32, 116, 104, 97, 116, 32, 115, 105, 122, 101])]))
def laid_bailee_api_ErrProof {H : Type} : DataW H := .iface "*errors.errorString" (.ptr (.agg [.lit (.string [116, 104, 101, 32, 112, 114, 111, 111, 102, 32, 100, 111, 101, 115, 32, 110, 111, 116, 32, 104, 111, 108, 100])]))
def laid_bailee_sha_first {H : Type} : DataW H := .agg [.lit (.int .u32 1779033703), .lit (.int .u32 3144134277), .lit (.int .u32 1013904242), .lit (.int .u32 2773480762), .lit (.int .u32 1359893119), .lit (.int .u32 2600822924), .lit (.int .u32 528734635), .lit (.int .u32 1541459225)]
def laid_bailee_sha_added {H : Type} : DataW H := .agg [.lit (.int .u32 1116352408), .lit (.int .u32 1899447441), .lit (.int .u32 3049323471), .lit (.int .u32 3921009573), .lit (.int .u32 961987163), .lit (.int .u32 1508970993), .lit (.int .u32 2453635748), .lit (.int .u32 2870763221), .lit (.int .u32 3624381080), .lit (.int .u32 310598401), .lit (.int .u32 607225278), .lit (.int .u32 1426881987), .lit (.int .u32 1925078388), .lit (.int .u32 2162078206), .lit (.int .u32 2614888103), .lit (.int .u32 3248222580), .lit (.int .u32 3835390401), .lit (.int .u32 4022224774), .lit (.int .u32 264347078), .lit (.int .u32 604807628), .lit (.int .u32 770255983), .lit (.int .u32 1249150122), .lit (.int .u32 1555081692), .lit (.int .u32 1996064986), .lit (.int .u32 2554220882), .lit (.int .u32 2821834349), .lit (.int .u32 2952996808), .lit (.int .u32 3210313671), .lit (.int .u32 3336571891), .lit (.int .u32 3584528711), .lit (.int .u32 113926993), .lit (.int .u32 338241895), .lit (.int .u32 666307205), .lit (.int .u32 773529912), .lit (.int .u32 1294757372), .lit (.int .u32 1396182291), .lit (.int .u32 1695183700), .lit (.int .u32 1986661051), .lit (.int .u32 2177026350), .lit (.int .u32 2456956037), .lit (.int .u32 2730485921), .lit (.int .u32 2820302411), .lit (.int .u32 3259730800), .lit (.int .u32 3345764771), .lit (.int .u32 3516065817), .lit (.int .u32 3600352804), .lit (.int .u32 4094571909), .lit (.int .u32 275423344), .lit (.int .u32 430227734), .lit (.int .u32 506948616), .lit (.int .u32 659060556), .lit (.int .u32 883997877), .lit (.int .u32 958139571), .lit (.int .u32 1322822218), .lit (.int .u32 1537002063), .lit (.int .u32 1747873779), .lit (.int .u32 1955562222), .lit (.int .u32 2024104815), .lit (.int .u32 2227730452), .lit (.int .u32 2361852424), .lit (.int .u32 2428436474), .lit (.int .u32 2756734187), .lit (.int .u32 3204031479), .lit (.int .u32 3329325298)]
def laid_bailee_foe_words {H : Type} : DataW H := .agg [.lit (.string [110, 111, 110, 101]), .lit (.string [98, 108, 111, 99, 107]), .lit (.string [112, 97, 116, 104]), .lit (.string [115, 119, 97, 112]), .lit (.string [99, 117, 116]), .lit (.string [112, 108, 97, 99, 101]), .lit (.string [114, 101, 102, 117, 115, 101]), .lit (.string [105, 100]), .lit (.string [111, 98, 106, 101, 99, 116]), .lit (.string [115, 105, 108, 101, 110, 99, 101])]
def laid_bailee_api_ErrShort {H : Type} : DataW H := .iface "*errors.errorString" (.ptr (.agg [.lit (.string [115, 111, 109, 101, 116, 104, 105, 110, 103, 32, 105, 115, 32, 109, 105, 115, 115, 105, 110, 103, 32, 97, 116, 32, 116, 104, 101, 32, 101, 110, 100])]))

/-- 'baileelaw29.FoeForges': WHATEVER THE INPUT: true; the input reads as it did. -/
def foeForgesSpec : ChangeSpec := { name := "foeForges", fn := fun _ => fun
  | [d1, d2, d3] => { results := [.lit (.bool true)], args := [d1, d2, d3] }
  | _ => none }
def foeForgesRow : OpenClaim := { program := "ytglenbikdahgjaagreatdoor", sum := "7d98a87315b320d505ef57e848ec81b62f8ea450cfd97e0e47ce4524a04803f5", func := "bailee/baileelaw29.FoeForges", spec := "foeForges", unfollowed := true, recurses := true, named := ["bailee/foe.words", "bailee/api.ErrKind", "bailee/api.ErrRange", "bailee/api.ErrSize", "bailee/api.ErrForm", "bailee/api.ErrLong", "bailee/sha.first", "bailee/sha.added", "bailee/baileeref07.begins", "bailee/baileeref07.added", "bailee/api.ErrProof"], apart := false, laid := [("bailee/baileeref07.begins", laid_bailee_baileeref07_begins), ("bailee/baileeref07.added", laid_bailee_baileeref07_added), ("bailee/api.ErrRange", laid_bailee_api_ErrRange), ("bailee/api.ErrLong", laid_bailee_api_ErrLong), ("bailee/api.ErrForm", laid_bailee_api_ErrForm), ("bailee/api.ErrKind", laid_bailee_api_ErrKind), ("bailee/api.ErrSize", laid_bailee_api_ErrSize), ("bailee/api.ErrProof", laid_bailee_api_ErrProof), ("bailee/sha.first", laid_bailee_sha_first), ("bailee/sha.added", laid_bailee_sha_added), ("bailee/foe.words", laid_bailee_foe_words)] }
def FoeForgesSaid : Prop := foeForgesRow.holds Tryz.pinned (OpenSpec.ofChange foeForgesSpec)

/-- ITS FALSE NEIGHBOUR: 'it returns false'. Refute it at one input. -/
def foeForgesWrong : ChangeSpec := { name := "foeForges", fn := fun _ => fun
  | [d1, d2, d3] => { results := [.lit (.bool false)], args := [d1, d2, d3] }
  | _ => none }
def FoeForgesWrongFalsely : Prop := foeForgesRow.holds Tryz.pinned (OpenSpec.ofChange foeForgesWrong)

/-- 'baileelaw29.FoeAnswers': WHATEVER THE INPUT: true; the input reads as it did. -/
def foeAnswersSpec : ChangeSpec := { name := "foeAnswers", fn := fun _ => fun
  | [d1, d2, d3] => { results := [.lit (.bool true)], args := [d1, d2, d3] }
  | _ => none }
def foeAnswersRow : OpenClaim := { program := "ytglenbikdahgjaagreatdoor", sum := "7d98a87315b320d505ef57e848ec81b62f8ea450cfd97e0e47ce4524a04803f5", func := "bailee/baileelaw29.FoeAnswers", spec := "foeAnswers", unfollowed := true, recurses := true, named := ["bailee/foe.words", "bailee/api.ErrKind", "bailee/api.ErrRange", "bailee/api.ErrSize", "bailee/api.ErrForm", "bailee/api.ErrLong", "bailee/sha.first", "bailee/sha.added", "bailee/baileeref07.begins", "bailee/baileeref07.added", "bailee/api.ErrShort"], apart := false, laid := [("bailee/baileeref07.begins", laid_bailee_baileeref07_begins), ("bailee/baileeref07.added", laid_bailee_baileeref07_added), ("bailee/api.ErrRange", laid_bailee_api_ErrRange), ("bailee/api.ErrShort", laid_bailee_api_ErrShort), ("bailee/api.ErrLong", laid_bailee_api_ErrLong), ("bailee/api.ErrForm", laid_bailee_api_ErrForm), ("bailee/api.ErrKind", laid_bailee_api_ErrKind), ("bailee/api.ErrSize", laid_bailee_api_ErrSize), ("bailee/sha.first", laid_bailee_sha_first), ("bailee/sha.added", laid_bailee_sha_added), ("bailee/foe.words", laid_bailee_foe_words)] }
def FoeAnswersSaid : Prop := foeAnswersRow.holds Tryz.pinned (OpenSpec.ofChange foeAnswersSpec)

/-- ITS FALSE NEIGHBOUR: 'it returns false'. Refute it at one input. -/
def foeAnswersWrong : ChangeSpec := { name := "foeAnswers", fn := fun _ => fun
  | [d1, d2, d3] => { results := [.lit (.bool false)], args := [d1, d2, d3] }
  | _ => none }
def FoeAnswersWrongFalsely : Prop := foeAnswersRow.holds Tryz.pinned (OpenSpec.ofChange foeAnswersWrong)

/-- 'baileelaw25.ShelfPlays': WHATEVER THE INPUT: true; the input reads as it did. -/
def shelfPlaysSpec : ChangeSpec := { name := "shelfPlays", fn := fun _ => fun
  | [d] => { results := [.lit (.bool true)], args := [d] }
  | _ => none }
def shelfPlaysRow : OpenClaim := { program := "ytglenbikdahgjaagreatdoor", sum := "7d98a87315b320d505ef57e848ec81b62f8ea450cfd97e0e47ce4524a04803f5", func := "bailee/baileelaw25.ShelfPlays", spec := "shelfPlays", unfollowed := true, recurses := true, named := ["bailee/api.ErrKind", "bailee/api.ErrRange", "bailee/api.ErrSize", "bailee/api.ErrForm", "bailee/api.ErrLong", "bailee/sha.first", "bailee/sha.added", "bailee/baileeref07.begins", "bailee/baileeref07.added", "bailee/api.ErrShort"], apart := false, laid := [("bailee/baileeref07.begins", laid_bailee_baileeref07_begins), ("bailee/baileeref07.added", laid_bailee_baileeref07_added), ("bailee/api.ErrRange", laid_bailee_api_ErrRange), ("bailee/api.ErrShort", laid_bailee_api_ErrShort), ("bailee/api.ErrLong", laid_bailee_api_ErrLong), ("bailee/api.ErrForm", laid_bailee_api_ErrForm), ("bailee/api.ErrKind", laid_bailee_api_ErrKind), ("bailee/api.ErrSize", laid_bailee_api_ErrSize), ("bailee/sha.first", laid_bailee_sha_first), ("bailee/sha.added", laid_bailee_sha_added)] }
def ShelfPlaysSaid : Prop := shelfPlaysRow.holds Tryz.pinned (OpenSpec.ofChange shelfPlaysSpec)

/-- ITS FALSE NEIGHBOUR: 'it returns false'. Refute it at one input. -/
def shelfPlaysWrong : ChangeSpec := { name := "shelfPlays", fn := fun _ => fun
  | [d] => { results := [.lit (.bool false)], args := [d] }
  | _ => none }
def ShelfPlaysWrongFalsely : Prop := shelfPlaysRow.holds Tryz.pinned (OpenSpec.ofChange shelfPlaysWrong)

/- THE SECOND FORM. 'bulk': how many values and letters a reading holds, each counted each time it is reached (what is shared counts as often as it is met; a slice's spare places count too). A statement '..UptoSaid' is the law's where the arguments, and the package variables that the reading takes, are together of bulk at most 1048576: NARROWER than '..Said'. Prove '..Said' where nothing that the law and all that it calls make is longer than what came in: it says more and counts as full. Else prove '..UptoSaid'. A law counts once. -/
mutual
def uptoBulk {H : Type} : DataW H → Nat
  | .lit (.string bytes) => bytes.length + 1
  | .lit _ => 1
  | .nil => 1
  | .ptr d => uptoBulk d + 1
  | .slice elems spare => uptoBulkAll elems + uptoBulkAll spare + 1
  | .agg parts => uptoBulkAll parts + 1
  | .iface _ d => uptoBulk d + 1
  | .map entries => uptoBulkEntries entries + 1
  | .held _ => 1
def uptoBulkAll {H : Type} : List (DataW H) → Nat
  | [] => 0
  | d :: r => uptoBulk d + uptoBulkAll r
def uptoBulkEntries {H : Type} : List (Lit × DataW H) → Nat
  | [] => 0
  | x :: r => uptoBulkEntry x + uptoBulkEntries r
def uptoBulkEntry {H : Type} : Lit × DataW H → Nat
  | (.string bytes, d) => bytes.length + uptoBulk d + 1
  | (_, d) => uptoBulk d + 1
 end
def uptoSmall : (H : Type) → List (DataW H) → Bool := fun _ ds => decide (uptoBulkAll ds ≤ 1048576)
def OpenSpec.upto (s : _root_.Go.ChangeSpec) : _root_.Go.OpenSpec := { _root_.Go.OpenSpec.ofChange s with cond := some uptoSmall }

/-- 'baileelaw29.FoeForges', WHERE WHAT IT READS IS OF BULK AT MOST 1048576: true; the input reads as it did. -/
def foeForgesUptoRow : OpenClaim := { program := "ytglenbikdahgjaagreatdoor", sum := "7d98a87315b320d505ef57e848ec81b62f8ea450cfd97e0e47ce4524a04803f5", func := "bailee/baileelaw29.FoeForges", spec := "foeForges", unfollowed := true, recurses := true, named := ["bailee/foe.words", "bailee/api.ErrKind", "bailee/api.ErrRange", "bailee/api.ErrSize", "bailee/api.ErrForm", "bailee/api.ErrLong", "bailee/sha.first", "bailee/sha.added", "bailee/baileeref07.begins", "bailee/baileeref07.added", "bailee/api.ErrProof"], apart := false, laid := [("bailee/baileeref07.begins", laid_bailee_baileeref07_begins), ("bailee/baileeref07.added", laid_bailee_baileeref07_added), ("bailee/api.ErrRange", laid_bailee_api_ErrRange), ("bailee/api.ErrLong", laid_bailee_api_ErrLong), ("bailee/api.ErrForm", laid_bailee_api_ErrForm), ("bailee/api.ErrKind", laid_bailee_api_ErrKind), ("bailee/api.ErrSize", laid_bailee_api_ErrSize), ("bailee/api.ErrProof", laid_bailee_api_ErrProof), ("bailee/sha.first", laid_bailee_sha_first), ("bailee/sha.added", laid_bailee_sha_added), ("bailee/foe.words", laid_bailee_foe_words)], narrowed := true }
def FoeForgesUptoSaid : Prop := foeForgesUptoRow.holds Tryz.pinned (OpenSpec.upto foeForgesSpec)

/-- 'baileelaw29.FoeAnswers', WHERE WHAT IT READS IS OF BULK AT MOST 1048576: true; the input reads as it did. -/
def foeAnswersUptoRow : OpenClaim := { program := "ytglenbikdahgjaagreatdoor", sum := "7d98a87315b320d505ef57e848ec81b62f8ea450cfd97e0e47ce4524a04803f5", func := "bailee/baileelaw29.FoeAnswers", spec := "foeAnswers", unfollowed := true, recurses := true, named := ["bailee/foe.words", "bailee/api.ErrKind", "bailee/api.ErrRange", "bailee/api.ErrSize", "bailee/api.ErrForm", "bailee/api.ErrLong", "bailee/sha.first", "bailee/sha.added", "bailee/baileeref07.begins", "bailee/baileeref07.added", "bailee/api.ErrShort"], apart := false, laid := [("bailee/baileeref07.begins", laid_bailee_baileeref07_begins), ("bailee/baileeref07.added", laid_bailee_baileeref07_added), ("bailee/api.ErrRange", laid_bailee_api_ErrRange), ("bailee/api.ErrShort", laid_bailee_api_ErrShort), ("bailee/api.ErrLong", laid_bailee_api_ErrLong), ("bailee/api.ErrForm", laid_bailee_api_ErrForm), ("bailee/api.ErrKind", laid_bailee_api_ErrKind), ("bailee/api.ErrSize", laid_bailee_api_ErrSize), ("bailee/sha.first", laid_bailee_sha_first), ("bailee/sha.added", laid_bailee_sha_added), ("bailee/foe.words", laid_bailee_foe_words)], narrowed := true }
def FoeAnswersUptoSaid : Prop := foeAnswersUptoRow.holds Tryz.pinned (OpenSpec.upto foeAnswersSpec)

/-- 'baileelaw25.ShelfPlays', WHERE WHAT IT READS IS OF BULK AT MOST 1048576: true; the input reads as it did. -/
def shelfPlaysUptoRow : OpenClaim := { program := "ytglenbikdahgjaagreatdoor", sum := "7d98a87315b320d505ef57e848ec81b62f8ea450cfd97e0e47ce4524a04803f5", func := "bailee/baileelaw25.ShelfPlays", spec := "shelfPlays", unfollowed := true, recurses := true, named := ["bailee/api.ErrKind", "bailee/api.ErrRange", "bailee/api.ErrSize", "bailee/api.ErrForm", "bailee/api.ErrLong", "bailee/sha.first", "bailee/sha.added", "bailee/baileeref07.begins", "bailee/baileeref07.added", "bailee/api.ErrShort"], apart := false, laid := [("bailee/baileeref07.begins", laid_bailee_baileeref07_begins), ("bailee/baileeref07.added", laid_bailee_baileeref07_added), ("bailee/api.ErrRange", laid_bailee_api_ErrRange), ("bailee/api.ErrShort", laid_bailee_api_ErrShort), ("bailee/api.ErrLong", laid_bailee_api_ErrLong), ("bailee/api.ErrForm", laid_bailee_api_ErrForm), ("bailee/api.ErrKind", laid_bailee_api_ErrKind), ("bailee/api.ErrSize", laid_bailee_api_ErrSize), ("bailee/sha.first", laid_bailee_sha_first), ("bailee/sha.added", laid_bailee_sha_added)], narrowed := true }
def ShelfPlaysUptoSaid : Prop := shelfPlaysUptoRow.holds Tryz.pinned (OpenSpec.upto shelfPlaysSpec)

end Rows
end Go.Proofs.YtglenbikdahgjaaGreatDoor

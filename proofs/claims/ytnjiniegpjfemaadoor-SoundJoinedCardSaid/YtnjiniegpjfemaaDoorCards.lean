/-
  DERIVED. GIVEN WITH THE SEED: THE CARDS: each row of YtnjiniegpjfemaaDoorRows.lean that lists a variable, with what it lists TIED to the program's text (the seventh form; the later family's looks); each row that meets fmt, with fmt's text TOLD by the authors' own Lean function (tested against real Go, not proved from fmt's source: count such statements apart). THE CARD IS WHAT COUNTS. Prove the row's statement (the work); the ties are given (YtnjiniegpjfemaaDoorTie.lean); close each card by the builder's one call (the guide's Derived/Test/ToyasCard.lean, 'card_holds'). Laid BY PROGRAM, IN A SANDBOX (cutbox-door.mjs). By AI agents, Wed Nov 11 2026. No macro, syntax, notation, axiom, sorry.
-/
import Derived.Test.YtnjiniegpjfemaaDoorRows
import GoSem.ClaimSeven
namespace Go.Proofs.YtnjiniegpjfemaaDoor
namespace Rows

/-- THE TIED CARD OF 'ancepslaw11.SoundValid'. -/
def soundValidCard : Claim7 := { stood := { row := soundValidRow, standIns := [], harness := (true, "a091b1bacba716e84970cf209674be53f1e627ff356617b79c32fc3fb61a7ffe"), looks := false }, kinds := [], alts := [], laidByText := true, laidKinds := [.data, .pinned], laidTests := true, laidLooks := .later }
def SoundValidCardSaid : Prop := Claim7.holds Tryd.pinned (.plain (OpenSpec.ofChange soundValidSpec)) soundValidCard

/-- THE TIED CARD OF 'ancepslaw11.SoundRebuilt'. -/
def soundRebuiltCard : Claim7 := { stood := { row := soundRebuiltRow, standIns := [], harness := (true, "a091b1bacba716e84970cf209674be53f1e627ff356617b79c32fc3fb61a7ffe"), looks := false }, kinds := [], alts := [], laidByText := true, laidKinds := [.data, .pinned], laidTests := true, laidLooks := .later }
def SoundRebuiltCardSaid : Prop := Claim7.holds Tryd.pinned (.plain (OpenSpec.ofChange soundRebuiltSpec)) soundRebuiltCard

/-- THE TIED CARD OF 'ancepslaw11.SoundLists'. -/
def soundListsCard : Claim7 := { stood := { row := soundListsRow, standIns := [], harness := (true, "a091b1bacba716e84970cf209674be53f1e627ff356617b79c32fc3fb61a7ffe"), looks := false }, kinds := [], alts := [], laidByText := true, laidKinds := [.data, .pinned], laidTests := true, laidLooks := .later }
def SoundListsCardSaid : Prop := Claim7.holds Tryd.pinned (.plain (OpenSpec.ofChange soundListsSpec)) soundListsCard

/-- THE TIED CARD OF 'ancepslaw11.SoundCompare'. -/
def soundCompareCard : Claim7 := { stood := { row := soundCompareRow, standIns := [], harness := (true, "a091b1bacba716e84970cf209674be53f1e627ff356617b79c32fc3fb61a7ffe"), looks := false }, kinds := [], alts := [], laidByText := true, laidKinds := [.data, .pinned], laidTests := true, laidLooks := .later }
def SoundCompareCardSaid : Prop := Claim7.holds Tryd.pinned (.plain (OpenSpec.ofChange soundCompareSpec)) soundCompareCard

/-- THE TIED CARD OF 'ancepslaw11.SoundParse'. -/
def soundParseCard : Claim7 := { stood := { row := soundParseRow, standIns := [], harness := (true, "a091b1bacba716e84970cf209674be53f1e627ff356617b79c32fc3fb61a7ffe"), looks := false }, kinds := [], alts := [], laidByText := true, laidKinds := [.data, .pinned], laidTests := true, laidLooks := .later }
def SoundParseCardSaid : Prop := Claim7.holds Tryd.pinned (.plain (OpenSpec.ofChange soundParseSpec)) soundParseCard

/-- THE TIED CARD OF 'ancepslaw11.SoundSpoiled'. -/
def soundSpoiledCard : Claim7 := { stood := { row := soundSpoiledRow, standIns := [], harness := (true, "a091b1bacba716e84970cf209674be53f1e627ff356617b79c32fc3fb61a7ffe"), looks := false }, kinds := [], alts := [], laidByText := true, laidKinds := [.data, .pinned], laidTests := true, laidLooks := .later }
def SoundSpoiledCardSaid : Prop := Claim7.holds Tryd.pinned (.plain (OpenSpec.ofChange soundSpoiledSpec)) soundSpoiledCard

/-- THE TIED CARD OF 'ancepslaw11.SoundFormat'. -/
def soundFormatCard : Claim7 := { stood := { row := soundFormatRow, standIns := [], harness := (true, "a091b1bacba716e84970cf209674be53f1e627ff356617b79c32fc3fb61a7ffe"), looks := false }, kinds := [], alts := [], laidByText := true, laidKinds := [.data, .pinned], laidTests := true, laidLooks := .later }
def SoundFormatCardSaid : Prop := Claim7.holds Tryd.pinned (.plain (OpenSpec.ofChange soundFormatSpec)) soundFormatCard

/-- THE TIED CARD OF 'ancepslaw11.SoundJoined'. -/
def soundJoinedCard : Claim7 := { stood := { row := soundJoinedRow, standIns := [], harness := (true, "a091b1bacba716e84970cf209674be53f1e627ff356617b79c32fc3fb61a7ffe"), looks := false }, kinds := [], alts := [], laidByText := true, laidKinds := [.data, .pinned], laidTests := true, laidLooks := .later }
def SoundJoinedCardSaid : Prop := Claim7.holds Tryd.pinned (.plain (OpenSpec.ofChange soundJoinedSpec)) soundJoinedCard

/-- THE SECOND FORM's CARD OF 'ancepslaw11.SoundValid'. -/
def soundValidUptoCard : Claim7 := { stood := { row := soundValidUptoRow, standIns := [], harness := (true, "a091b1bacba716e84970cf209674be53f1e627ff356617b79c32fc3fb61a7ffe"), looks := false }, kinds := [], alts := [], laidByText := true, laidKinds := [.data, .pinned], laidTests := true, laidLooks := .later }
def SoundValidUptoCardSaid : Prop := Claim7.holds Tryd.pinned (.plain (OpenSpec.upto soundValidSpec)) soundValidUptoCard

/-- THE SECOND FORM's CARD OF 'ancepslaw11.SoundRebuilt'. -/
def soundRebuiltUptoCard : Claim7 := { stood := { row := soundRebuiltUptoRow, standIns := [], harness := (true, "a091b1bacba716e84970cf209674be53f1e627ff356617b79c32fc3fb61a7ffe"), looks := false }, kinds := [], alts := [], laidByText := true, laidKinds := [.data, .pinned], laidTests := true, laidLooks := .later }
def SoundRebuiltUptoCardSaid : Prop := Claim7.holds Tryd.pinned (.plain (OpenSpec.upto soundRebuiltSpec)) soundRebuiltUptoCard

/-- THE SECOND FORM's CARD OF 'ancepslaw11.SoundLists'. -/
def soundListsUptoCard : Claim7 := { stood := { row := soundListsUptoRow, standIns := [], harness := (true, "a091b1bacba716e84970cf209674be53f1e627ff356617b79c32fc3fb61a7ffe"), looks := false }, kinds := [], alts := [], laidByText := true, laidKinds := [.data, .pinned], laidTests := true, laidLooks := .later }
def SoundListsUptoCardSaid : Prop := Claim7.holds Tryd.pinned (.plain (OpenSpec.upto soundListsSpec)) soundListsUptoCard

/-- THE SECOND FORM's CARD OF 'ancepslaw11.SoundCompare'. -/
def soundCompareUptoCard : Claim7 := { stood := { row := soundCompareUptoRow, standIns := [], harness := (true, "a091b1bacba716e84970cf209674be53f1e627ff356617b79c32fc3fb61a7ffe"), looks := false }, kinds := [], alts := [], laidByText := true, laidKinds := [.data, .pinned], laidTests := true, laidLooks := .later }
def SoundCompareUptoCardSaid : Prop := Claim7.holds Tryd.pinned (.plain (OpenSpec.upto soundCompareSpec)) soundCompareUptoCard

/-- THE SECOND FORM's CARD OF 'ancepslaw11.SoundParse'. -/
def soundParseUptoCard : Claim7 := { stood := { row := soundParseUptoRow, standIns := [], harness := (true, "a091b1bacba716e84970cf209674be53f1e627ff356617b79c32fc3fb61a7ffe"), looks := false }, kinds := [], alts := [], laidByText := true, laidKinds := [.data, .pinned], laidTests := true, laidLooks := .later }
def SoundParseUptoCardSaid : Prop := Claim7.holds Tryd.pinned (.plain (OpenSpec.upto soundParseSpec)) soundParseUptoCard

/-- THE SECOND FORM's CARD OF 'ancepslaw11.SoundSpoiled'. -/
def soundSpoiledUptoCard : Claim7 := { stood := { row := soundSpoiledUptoRow, standIns := [], harness := (true, "a091b1bacba716e84970cf209674be53f1e627ff356617b79c32fc3fb61a7ffe"), looks := false }, kinds := [], alts := [], laidByText := true, laidKinds := [.data, .pinned], laidTests := true, laidLooks := .later }
def SoundSpoiledUptoCardSaid : Prop := Claim7.holds Tryd.pinned (.plain (OpenSpec.upto soundSpoiledSpec)) soundSpoiledUptoCard

/-- THE SECOND FORM's CARD OF 'ancepslaw11.SoundFormat'. -/
def soundFormatUptoCard : Claim7 := { stood := { row := soundFormatUptoRow, standIns := [], harness := (true, "a091b1bacba716e84970cf209674be53f1e627ff356617b79c32fc3fb61a7ffe"), looks := false }, kinds := [], alts := [], laidByText := true, laidKinds := [.data, .pinned], laidTests := true, laidLooks := .later }
def SoundFormatUptoCardSaid : Prop := Claim7.holds Tryd.pinned (.plain (OpenSpec.upto soundFormatSpec)) soundFormatUptoCard

/-- THE SECOND FORM's CARD OF 'ancepslaw11.SoundJoined'. -/
def soundJoinedUptoCard : Claim7 := { stood := { row := soundJoinedUptoRow, standIns := [], harness := (true, "a091b1bacba716e84970cf209674be53f1e627ff356617b79c32fc3fb61a7ffe"), looks := false }, kinds := [], alts := [], laidByText := true, laidKinds := [.data, .pinned], laidTests := true, laidLooks := .later }
def SoundJoinedUptoCardSaid : Prop := Claim7.holds Tryd.pinned (.plain (OpenSpec.upto soundJoinedSpec)) soundJoinedUptoCard
end Rows
end Go.Proofs.YtnjiniegpjfemaaDoor

/-
  DERIVED. GIVEN WITH THE SEED: THE CARDS: each row of YtbecdafbkdchkaaDoorRows.lean that lists a variable, with what it lists TIED to the program's text (the seventh form; the later family's looks); each row that meets fmt, with fmt's text TOLD by the authors' own Lean function (tested against real Go, not proved from fmt's source: count such statements apart). THE CARD IS WHAT COUNTS. Prove the row's statement (the work); the ties are given (YtbecdafbkdchkaaDoorTie.lean); close each card by the builder's one call (the guide's Derived/Test/ToyasCard.lean, 'card_holds'). Laid BY PROGRAM, IN A SANDBOX (cutbox-door.mjs). By AI agents, Wed Nov 11 2026. No macro, syntax, notation, axiom, sorry.
-/
import Derived.Test.YtbecdafbkdchkaaDoorRows
import GoSem.ClaimSeven
namespace Go.Proofs.YtbecdafbkdchkaaDoor
namespace Rows

/-- THE TIED CARD OF 'ancepslaw04.PatternValid'. -/
def patternValidCard : Claim7 := { stood := { row := patternValidRow, standIns := [], harness := (true, "c570d725bfdf698cd8eb4608d5e544054fa30bb3ed7294802f69b5b5e9b20e36"), looks := false }, kinds := [], alts := [], laidByText := true, laidKinds := [.data, .pinned], laidTests := true, laidLooks := .later }
def PatternValidCardSaid : Prop := Claim7.holds Tryd.pinned (.plain (OpenSpec.ofChange patternValidSpec)) patternValidCard

/-- THE SECOND FORM's CARD OF 'ancepslaw04.PatternValid'. -/
def patternValidUptoCard : Claim7 := { stood := { row := patternValidUptoRow, standIns := [], harness := (true, "c570d725bfdf698cd8eb4608d5e544054fa30bb3ed7294802f69b5b5e9b20e36"), looks := false }, kinds := [], alts := [], laidByText := true, laidKinds := [.data, .pinned], laidTests := true, laidLooks := .later }
def PatternValidUptoCardSaid : Prop := Claim7.holds Tryd.pinned (.plain (OpenSpec.upto patternValidSpec)) patternValidUptoCard
end Rows
end Go.Proofs.YtbecdafbkdchkaaDoor

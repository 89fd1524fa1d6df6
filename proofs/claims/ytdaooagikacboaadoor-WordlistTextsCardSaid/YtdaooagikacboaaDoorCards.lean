/-
  DERIVED. GIVEN WITH THE SEED: THE CARDS: each row of YtdaooagikacboaaDoorRows.lean that lists a variable, with what it lists TIED to the program's text (the seventh form; the later family's looks); each row that meets fmt, with fmt's text TOLD by the authors' own Lean function (tested against real Go, not proved from fmt's source: count such statements apart). THE CARD IS WHAT COUNTS. Prove the row's statement (the work); the ties are given (YtdaooagikacboaaDoorTie.lean); close each card by the builder's one call (the guide's Derived/Test/ToyasCard.lean, 'card_holds'). Laid BY PROGRAM, IN A SANDBOX (cutbox-door.mjs). By AI agents, Wed Nov 11 2026. No macro, syntax, notation, axiom, sorry.
-/
import Derived.Test.YtdaooagikacboaaDoorRows
import GoSem.ClaimSeven
namespace Go.Proofs.YtdaooagikacboaaDoor
namespace Rows

/-- THE TIED CARD OF 'ancepslaw54.WordlistParses'. -/
def wordlistParsesCard : Claim7 := { stood := { row := wordlistParsesRow, standIns := [], harness := (true, "67659bbb37146ae43e6064d6d74af92f7fe52f673644cca1a83ccaf028fa8650"), looks := false }, kinds := [], alts := [], laidByText := true, laidKinds := [.data, .pinned], laidTests := true, laidLooks := .later }
def WordlistParsesCardSaid : Prop := Claim7.holds Tryd.pinned (.plain (OpenSpec.ofChange wordlistParsesSpec)) wordlistParsesCard

/-- THE TIED CARD OF 'ancepslaw54.WordlistTexts'. -/
def wordlistTextsCard : Claim7 := { stood := { row := wordlistTextsRow, standIns := [], harness := (true, "67659bbb37146ae43e6064d6d74af92f7fe52f673644cca1a83ccaf028fa8650"), looks := false }, kinds := [], alts := [], laidByText := true, laidKinds := [.data, .pinned], laidTests := true, laidLooks := .later }
def WordlistTextsCardSaid : Prop := Claim7.holds Tryd.pinned (.plain (OpenSpec.ofChange wordlistTextsSpec)) wordlistTextsCard

/-- THE SECOND FORM's CARD OF 'ancepslaw54.WordlistParses'. -/
def wordlistParsesUptoCard : Claim7 := { stood := { row := wordlistParsesUptoRow, standIns := [], harness := (true, "67659bbb37146ae43e6064d6d74af92f7fe52f673644cca1a83ccaf028fa8650"), looks := false }, kinds := [], alts := [], laidByText := true, laidKinds := [.data, .pinned], laidTests := true, laidLooks := .later }
def WordlistParsesUptoCardSaid : Prop := Claim7.holds Tryd.pinned (.plain (OpenSpec.upto wordlistParsesSpec)) wordlistParsesUptoCard

/-- THE SECOND FORM's CARD OF 'ancepslaw54.WordlistTexts'. -/
def wordlistTextsUptoCard : Claim7 := { stood := { row := wordlistTextsUptoRow, standIns := [], harness := (true, "67659bbb37146ae43e6064d6d74af92f7fe52f673644cca1a83ccaf028fa8650"), looks := false }, kinds := [], alts := [], laidByText := true, laidKinds := [.data, .pinned], laidTests := true, laidLooks := .later }
def WordlistTextsUptoCardSaid : Prop := Claim7.holds Tryd.pinned (.plain (OpenSpec.upto wordlistTextsSpec)) wordlistTextsUptoCard
end Rows
end Go.Proofs.YtdaooagikacboaaDoor

/-
  DERIVED. GIVEN WITH THE SEED: THE CARDS: each row of YteokimhjojppcaaDoorRows.lean that lists a variable, with what it lists TIED to the program's text (the seventh form; the later family's looks); each row that meets fmt, with fmt's text TOLD by the authors' own Lean function (tested against real Go, not proved from fmt's source: count such statements apart). THE CARD IS WHAT COUNTS. Prove the row's statement (the work); the ties are given (YteokimhjojppcaaDoorTie.lean); close each card by the builder's one call (the guide's Derived/Test/ToyasCard.lean, 'card_holds'). Laid BY PROGRAM, IN A SANDBOX (cutbox-door.mjs). By AI agents, Wed Nov 11 2026. No macro, syntax, notation, axiom, sorry.
-/
import Derived.Test.YteokimhjojppcaaDoorRows
import GoSem.ClaimSeven
namespace Go.Proofs.YteokimhjojppcaaDoor
namespace Rows

/-- THE TIED CARD OF 'ancepslaw01.TextLines'. -/
def textLinesCard : Claim7 := { stood := { row := textLinesRow, standIns := [], harness := (true, "8ff5f5edaa81ed0b2bb4092c92f6b79c0c8c76d2730dbb69dc15e844627a8bf5"), looks := false }, kinds := [], alts := [], laidByText := true, laidKinds := [.data, .pinned], laidTests := true, laidLooks := .later }
def TextLinesCardSaid : Prop := Claim7.holds Tryd.pinned (.plain (OpenSpec.ofChange textLinesSpec)) textLinesCard

/-- THE TIED CARD OF 'ancepslaw01.TextText'. -/
def textTextCard : Claim7 := { stood := { row := textTextRow, standIns := [], harness := (true, "8ff5f5edaa81ed0b2bb4092c92f6b79c0c8c76d2730dbb69dc15e844627a8bf5"), looks := false }, kinds := [], alts := [], laidByText := true, laidKinds := [.data, .pinned], laidTests := true, laidLooks := .later }
def TextTextCardSaid : Prop := Claim7.holds Tryd.pinned (.plain (OpenSpec.ofChange textTextSpec)) textTextCard

/-- THE TIED CARD OF 'ancepslaw01.TextSpaced'. -/
def textSpacedCard : Claim7 := { stood := { row := textSpacedRow, standIns := [], harness := (true, "8ff5f5edaa81ed0b2bb4092c92f6b79c0c8c76d2730dbb69dc15e844627a8bf5"), looks := false }, kinds := [], alts := [], laidByText := true, laidKinds := [.data, .pinned, .pinned], laidTests := true, laidLooks := .later }
def TextSpacedCardSaid : Prop := Claim7.holds Tryd.pinned (.plain (OpenSpec.ofChange textSpacedSpec)) textSpacedCard

/-- THE SECOND FORM's CARD OF 'ancepslaw01.TextLines'. -/
def textLinesUptoCard : Claim7 := { stood := { row := textLinesUptoRow, standIns := [], harness := (true, "8ff5f5edaa81ed0b2bb4092c92f6b79c0c8c76d2730dbb69dc15e844627a8bf5"), looks := false }, kinds := [], alts := [], laidByText := true, laidKinds := [.data, .pinned], laidTests := true, laidLooks := .later }
def TextLinesUptoCardSaid : Prop := Claim7.holds Tryd.pinned (.plain (OpenSpec.upto textLinesSpec)) textLinesUptoCard

/-- THE SECOND FORM's CARD OF 'ancepslaw01.TextText'. -/
def textTextUptoCard : Claim7 := { stood := { row := textTextUptoRow, standIns := [], harness := (true, "8ff5f5edaa81ed0b2bb4092c92f6b79c0c8c76d2730dbb69dc15e844627a8bf5"), looks := false }, kinds := [], alts := [], laidByText := true, laidKinds := [.data, .pinned], laidTests := true, laidLooks := .later }
def TextTextUptoCardSaid : Prop := Claim7.holds Tryd.pinned (.plain (OpenSpec.upto textTextSpec)) textTextUptoCard

/-- THE SECOND FORM's CARD OF 'ancepslaw01.TextSpaced'. -/
def textSpacedUptoCard : Claim7 := { stood := { row := textSpacedUptoRow, standIns := [], harness := (true, "8ff5f5edaa81ed0b2bb4092c92f6b79c0c8c76d2730dbb69dc15e844627a8bf5"), looks := false }, kinds := [], alts := [], laidByText := true, laidKinds := [.data, .pinned, .pinned], laidTests := true, laidLooks := .later }
def TextSpacedUptoCardSaid : Prop := Claim7.holds Tryd.pinned (.plain (OpenSpec.upto textSpacedSpec)) textSpacedUptoCard
end Rows
end Go.Proofs.YteokimhjojppcaaDoor

/-
  No cell of these rows narrows 'for every input' (looked for: loops, veiled, ifaces, maps, wideKeys, modest, calm, conditions, laid).
  DERIVED. THE GIVEN ROWS OF THIS SEAT. 8 by the template 'for every input the law returns true; each argument reads behind the call as it read before'; 0 by the template 'total and deterministic' (their statements: YtkkgacoecimlpaaTotals.lean).
  GIVEN WITH THE SEED: the statements are not yours to turn. If you find one false, say at which input.
  Laid BY PROGRAM, IN A SANDBOX (cutbox-rows.mjs): the forced cells as the released guide's own fill.sh prints them over the translation af504253a17acaf7… (all of the seat's roots in one cut). By AI agents, Wed Nov 11 2026. No macro, syntax, notation, axiom, sorry.
-/
import Derived.Test.YtkkgacoecimlpaaChecked
import GoSem.Claim
import GoSem.ClaimJoined
import GoSem.ClaimMapViews
import Derived.JoinedTies
import Derived.KernelRfl
namespace Go.Proofs.Ytkkgacoecimlpaa
/- THE CELL 'sum', in the pinned program and in every row, IS THE sha256 OF THE DUMP (.gsa) THAT YtkkgacoecimlpaaProg.lean LOADS. Nothing in Lean hashes anything: it is a label: what it is worth is what the hold of that sum in a sandbox is worth. -/
noncomputable def Try.pinned : Pinned := { name := "ytkkgacoecimlpaa", sum := "af504253a17acaf74a6b100e4b60a98b9d7da9abde9f621cb8bdd8b919d60bb0", checked := Try.checked }
namespace Rows
def none {H : Type} : Left H := { results := [], args := [] }

/-- 'ancepslaw05.TokenNames': WHATEVER THE INPUT: true; the input reads as it did. -/
def tokenNamesSpec : ChangeSpec := { name := "tokenNames", fn := fun _ => fun
  | [d] => { results := [.lit (.bool true)], args := [d] }
  | _ => none }
def tokenNamesRow : OpenClaim := { program := "ytkkgacoecimlpaa", sum := "af504253a17acaf74a6b100e4b60a98b9d7da9abde9f621cb8bdd8b919d60bb0", func := "anceps/ancepslaw05.TokenNames", spec := "tokenNames", inPlace := ["internal/bytealg.IndexByteString"], apart := false }
def TokenNamesSaid : Prop := tokenNamesRow.holds Try.pinned (OpenSpec.ofChange tokenNamesSpec)

/-- ITS FALSE NEIGHBOUR: 'it returns false'. Refute it at one input. -/
def tokenNamesWrong : ChangeSpec := { name := "tokenNames", fn := fun _ => fun
  | [d] => { results := [.lit (.bool false)], args := [d] }
  | _ => none }
def TokenNamesWrongFalsely : Prop := tokenNamesRow.holds Try.pinned (OpenSpec.ofChange tokenNamesWrong)

/-- 'ancepslaw05.TokenTokens': WHATEVER THE INPUT: true; the input reads as it did. -/
def tokenTokensSpec : ChangeSpec := { name := "tokenTokens", fn := fun _ => fun
  | [d] => { results := [.lit (.bool true)], args := [d] }
  | _ => none }
def tokenTokensRow : OpenClaim := { program := "ytkkgacoecimlpaa", sum := "af504253a17acaf74a6b100e4b60a98b9d7da9abde9f621cb8bdd8b919d60bb0", func := "anceps/ancepslaw05.TokenTokens", spec := "tokenTokens", inPlace := ["internal/bytealg.IndexByteString"], apart := false }
def TokenTokensSaid : Prop := tokenTokensRow.holds Try.pinned (OpenSpec.ofChange tokenTokensSpec)

/-- ITS FALSE NEIGHBOUR: 'it returns false'. Refute it at one input. -/
def tokenTokensWrong : ChangeSpec := { name := "tokenTokens", fn := fun _ => fun
  | [d] => { results := [.lit (.bool false)], args := [d] }
  | _ => none }
def TokenTokensWrongFalsely : Prop := tokenTokensRow.holds Try.pinned (OpenSpec.ofChange tokenTokensWrong)

/-- 'ancepslaw05.TokenSame': WHATEVER THE INPUT: true; the input reads as it did. -/
def tokenSameSpec : ChangeSpec := { name := "tokenSame", fn := fun _ => fun
  | [d1, d2, d3] => { results := [.lit (.bool true)], args := [d1, d2, d3] }
  | _ => none }
def tokenSameRow : OpenClaim := { program := "ytkkgacoecimlpaa", sum := "af504253a17acaf74a6b100e4b60a98b9d7da9abde9f621cb8bdd8b919d60bb0", func := "anceps/ancepslaw05.TokenSame", spec := "tokenSame", inPlace := ["internal/bytealg.IndexByteString"], unfollowed := true, recurses := true, apart := false }
def TokenSameSaid : Prop := tokenSameRow.holds Try.pinned (OpenSpec.ofChange tokenSameSpec)

/-- ITS FALSE NEIGHBOUR: 'it returns false'. Refute it at one input. -/
def tokenSameWrong : ChangeSpec := { name := "tokenSame", fn := fun _ => fun
  | [d1, d2, d3] => { results := [.lit (.bool false)], args := [d1, d2, d3] }
  | _ => none }
def TokenSameWrongFalsely : Prop := tokenSameRow.holds Try.pinned (OpenSpec.ofChange tokenSameWrong)

/-- 'ancepslaw05.TokenQuote': WHATEVER THE INPUT: true; the input reads as it did. -/
def tokenQuoteSpec : ChangeSpec := { name := "tokenQuote", fn := fun _ => fun
  | [d] => { results := [.lit (.bool true)], args := [d] }
  | _ => none }
def tokenQuoteRow : OpenClaim := { program := "ytkkgacoecimlpaa", sum := "af504253a17acaf74a6b100e4b60a98b9d7da9abde9f621cb8bdd8b919d60bb0", func := "anceps/ancepslaw05.TokenQuote", spec := "tokenQuote", inPlace := ["internal/bytealg.IndexByteString"], unfollowed := true, recurses := true, apart := false }
def TokenQuoteSaid : Prop := tokenQuoteRow.holds Try.pinned (OpenSpec.ofChange tokenQuoteSpec)

/-- ITS FALSE NEIGHBOUR: 'it returns false'. Refute it at one input. -/
def tokenQuoteWrong : ChangeSpec := { name := "tokenQuote", fn := fun _ => fun
  | [d] => { results := [.lit (.bool false)], args := [d] }
  | _ => none }
def TokenQuoteWrongFalsely : Prop := tokenQuoteRow.holds Try.pinned (OpenSpec.ofChange tokenQuoteWrong)

/-- 'ancepslaw05.TokenSpaced': WHATEVER THE INPUT: true; the input reads as it did. -/
def tokenSpacedSpec : ChangeSpec := { name := "tokenSpaced", fn := fun _ => fun
  | [d1, d2] => { results := [.lit (.bool true)], args := [d1, d2] }
  | _ => none }
def tokenSpacedRow : OpenClaim := { program := "ytkkgacoecimlpaa", sum := "af504253a17acaf74a6b100e4b60a98b9d7da9abde9f621cb8bdd8b919d60bb0", func := "anceps/ancepslaw05.TokenSpaced", spec := "tokenSpaced", inPlace := ["internal/bytealg.IndexByteString", "internal/bytealg.CountString", "internal/bytealg.IndexString"], named := ["internal/bytealg.MaxLen"], apart := false }
def TokenSpacedSaid : Prop := tokenSpacedRow.holds Try.pinned (OpenSpec.ofChange tokenSpacedSpec)

/-- ITS FALSE NEIGHBOUR: 'it returns false'. Refute it at one input. -/
def tokenSpacedWrong : ChangeSpec := { name := "tokenSpaced", fn := fun _ => fun
  | [d1, d2] => { results := [.lit (.bool false)], args := [d1, d2] }
  | _ => none }
def TokenSpacedWrongFalsely : Prop := tokenSpacedRow.holds Try.pinned (OpenSpec.ofChange tokenSpacedWrong)

/-- 'ancepslaw05.TokenLong': WHATEVER THE INPUT: true; the input reads as it did. -/
def tokenLongSpec : ChangeSpec := { name := "tokenLong", fn := fun _ => fun
  | [d1, d2] => { results := [.lit (.bool true)], args := [d1, d2] }
  | _ => none }
def tokenLongRow : OpenClaim := { program := "ytkkgacoecimlpaa", sum := "af504253a17acaf74a6b100e4b60a98b9d7da9abde9f621cb8bdd8b919d60bb0", func := "anceps/ancepslaw05.TokenLong", spec := "tokenLong", inPlace := ["internal/bytealg.IndexByteString", "internal/abi.NoEscape", "internal/bytealg.MakeNoZero"], apart := false }
def TokenLongSaid : Prop := tokenLongRow.holds Try.pinned (OpenSpec.ofChange tokenLongSpec)

/-- ITS FALSE NEIGHBOUR: 'it returns false'. Refute it at one input. -/
def tokenLongWrong : ChangeSpec := { name := "tokenLong", fn := fun _ => fun
  | [d1, d2] => { results := [.lit (.bool false)], args := [d1, d2] }
  | _ => none }
def TokenLongWrongFalsely : Prop := tokenLongRow.holds Try.pinned (OpenSpec.ofChange tokenLongWrong)

/-- 'ancepslaw05.TokenWrite': WHATEVER THE INPUT: true; the input reads as it did. -/
def tokenWriteSpec : ChangeSpec := { name := "tokenWrite", fn := fun _ => fun
  | [d] => { results := [.lit (.bool true)], args := [d] }
  | _ => none }
def tokenWriteRow : OpenClaim := { program := "ytkkgacoecimlpaa", sum := "af504253a17acaf74a6b100e4b60a98b9d7da9abde9f621cb8bdd8b919d60bb0", func := "anceps/ancepslaw05.TokenWrite", spec := "tokenWrite", inPlace := ["internal/bytealg.IndexByteString", "internal/bytealg.IndexString", "internal/abi.NoEscape", "internal/bytealg.MakeNoZero"], unfollowed := true, recurses := true, named := ["internal/bytealg.MaxLen"], apart := false }
def TokenWriteSaid : Prop := tokenWriteRow.holds Try.pinned (OpenSpec.ofChange tokenWriteSpec)

/-- ITS FALSE NEIGHBOUR: 'it returns false'. Refute it at one input. -/
def tokenWriteWrong : ChangeSpec := { name := "tokenWrite", fn := fun _ => fun
  | [d] => { results := [.lit (.bool false)], args := [d] }
  | _ => none }
def TokenWriteWrongFalsely : Prop := tokenWriteRow.holds Try.pinned (OpenSpec.ofChange tokenWriteWrong)

/-- 'ancepslaw05.TokenAgain': WHATEVER THE INPUT: true; the input reads as it did. -/
def tokenAgainSpec : ChangeSpec := { name := "tokenAgain", fn := fun _ => fun
  | [d] => { results := [.lit (.bool true)], args := [d] }
  | _ => none }
def tokenAgainRow : OpenClaim := { program := "ytkkgacoecimlpaa", sum := "af504253a17acaf74a6b100e4b60a98b9d7da9abde9f621cb8bdd8b919d60bb0", func := "anceps/ancepslaw05.TokenAgain", spec := "tokenAgain", inPlace := ["internal/bytealg.IndexByteString", "internal/bytealg.IndexString", "internal/abi.NoEscape", "internal/bytealg.MakeNoZero"], unfollowed := true, recurses := true, named := ["internal/bytealg.MaxLen"], apart := false }
def TokenAgainSaid : Prop := tokenAgainRow.holds Try.pinned (OpenSpec.ofChange tokenAgainSpec)

/-- ITS FALSE NEIGHBOUR: 'it returns false'. Refute it at one input. -/
def tokenAgainWrong : ChangeSpec := { name := "tokenAgain", fn := fun _ => fun
  | [d] => { results := [.lit (.bool false)], args := [d] }
  | _ => none }
def TokenAgainWrongFalsely : Prop := tokenAgainRow.holds Try.pinned (OpenSpec.ofChange tokenAgainWrong)

/- THE SECOND FORM. 'bulk': how many values and letters a reading holds, each counted each time it is reached (what is shared counts as often as it is met; a slice's spare places count too). A statement '..UptoSaid' is the law's where the arguments, and the package variables that the reading takes, are together of bulk at most 1048576: NARROWER than '..Said'. Prove '..Said' where nothing that the law and all that it calls make is longer than what came in: it says more and counts as full. Else prove '..UptoSaid'. A law counts once. -/
mutual
def uptoBulk {H : Type} : DataW H → Nat
  | .lit (.string bytes) => bytes.length + 1
  | .lit _ => 1
  | .nil => 1
  | .ptr d => uptoBulk d + 1
  | .slice elems spare => uptoBulkAll elems + uptoBulkAll spare + 1
  | .agg parts => uptoBulkAll parts + 1
  | .iface _ d => uptoBulk d + 1
  | .map entries => uptoBulkEntries entries + 1
  | .held _ => 1
def uptoBulkAll {H : Type} : List (DataW H) → Nat
  | [] => 0
  | d :: r => uptoBulk d + uptoBulkAll r
def uptoBulkEntries {H : Type} : List (Lit × DataW H) → Nat
  | [] => 0
  | x :: r => uptoBulkEntry x + uptoBulkEntries r
def uptoBulkEntry {H : Type} : Lit × DataW H → Nat
  | (.string bytes, d) => bytes.length + uptoBulk d + 1
  | (_, d) => uptoBulk d + 1
 end
def uptoSmall : (H : Type) → List (DataW H) → Bool := fun _ ds => decide (uptoBulkAll ds ≤ 1048576)
def OpenSpec.upto (s : _root_.Go.ChangeSpec) : _root_.Go.OpenSpec := { _root_.Go.OpenSpec.ofChange s with cond := some uptoSmall }

/-- 'ancepslaw05.TokenNames', WHERE WHAT IT READS IS OF BULK AT MOST 1048576: true; the input reads as it did. -/
def tokenNamesUptoRow : OpenClaim := { program := "ytkkgacoecimlpaa", sum := "af504253a17acaf74a6b100e4b60a98b9d7da9abde9f621cb8bdd8b919d60bb0", func := "anceps/ancepslaw05.TokenNames", spec := "tokenNames", inPlace := ["internal/bytealg.IndexByteString"], apart := false, narrowed := true }
def TokenNamesUptoSaid : Prop := tokenNamesUptoRow.holds Try.pinned (OpenSpec.upto tokenNamesSpec)

/-- 'ancepslaw05.TokenTokens', WHERE WHAT IT READS IS OF BULK AT MOST 1048576: true; the input reads as it did. -/
def tokenTokensUptoRow : OpenClaim := { program := "ytkkgacoecimlpaa", sum := "af504253a17acaf74a6b100e4b60a98b9d7da9abde9f621cb8bdd8b919d60bb0", func := "anceps/ancepslaw05.TokenTokens", spec := "tokenTokens", inPlace := ["internal/bytealg.IndexByteString"], apart := false, narrowed := true }
def TokenTokensUptoSaid : Prop := tokenTokensUptoRow.holds Try.pinned (OpenSpec.upto tokenTokensSpec)

/-- 'ancepslaw05.TokenSame', WHERE WHAT IT READS IS OF BULK AT MOST 1048576: true; the input reads as it did. -/
def tokenSameUptoRow : OpenClaim := { program := "ytkkgacoecimlpaa", sum := "af504253a17acaf74a6b100e4b60a98b9d7da9abde9f621cb8bdd8b919d60bb0", func := "anceps/ancepslaw05.TokenSame", spec := "tokenSame", inPlace := ["internal/bytealg.IndexByteString"], unfollowed := true, recurses := true, apart := false, narrowed := true }
def TokenSameUptoSaid : Prop := tokenSameUptoRow.holds Try.pinned (OpenSpec.upto tokenSameSpec)

/-- 'ancepslaw05.TokenQuote', WHERE WHAT IT READS IS OF BULK AT MOST 1048576: true; the input reads as it did. -/
def tokenQuoteUptoRow : OpenClaim := { program := "ytkkgacoecimlpaa", sum := "af504253a17acaf74a6b100e4b60a98b9d7da9abde9f621cb8bdd8b919d60bb0", func := "anceps/ancepslaw05.TokenQuote", spec := "tokenQuote", inPlace := ["internal/bytealg.IndexByteString"], unfollowed := true, recurses := true, apart := false, narrowed := true }
def TokenQuoteUptoSaid : Prop := tokenQuoteUptoRow.holds Try.pinned (OpenSpec.upto tokenQuoteSpec)

/-- 'ancepslaw05.TokenSpaced', WHERE WHAT IT READS IS OF BULK AT MOST 1048576: true; the input reads as it did. -/
def tokenSpacedUptoRow : OpenClaim := { program := "ytkkgacoecimlpaa", sum := "af504253a17acaf74a6b100e4b60a98b9d7da9abde9f621cb8bdd8b919d60bb0", func := "anceps/ancepslaw05.TokenSpaced", spec := "tokenSpaced", inPlace := ["internal/bytealg.IndexByteString", "internal/bytealg.CountString", "internal/bytealg.IndexString"], named := ["internal/bytealg.MaxLen"], apart := false, narrowed := true }
def TokenSpacedUptoSaid : Prop := tokenSpacedUptoRow.holds Try.pinned (OpenSpec.upto tokenSpacedSpec)

/-- 'ancepslaw05.TokenLong', WHERE WHAT IT READS IS OF BULK AT MOST 1048576: true; the input reads as it did. -/
def tokenLongUptoRow : OpenClaim := { program := "ytkkgacoecimlpaa", sum := "af504253a17acaf74a6b100e4b60a98b9d7da9abde9f621cb8bdd8b919d60bb0", func := "anceps/ancepslaw05.TokenLong", spec := "tokenLong", inPlace := ["internal/bytealg.IndexByteString", "internal/abi.NoEscape", "internal/bytealg.MakeNoZero"], apart := false, narrowed := true }
def TokenLongUptoSaid : Prop := tokenLongUptoRow.holds Try.pinned (OpenSpec.upto tokenLongSpec)

/-- 'ancepslaw05.TokenWrite', WHERE WHAT IT READS IS OF BULK AT MOST 1048576: true; the input reads as it did. -/
def tokenWriteUptoRow : OpenClaim := { program := "ytkkgacoecimlpaa", sum := "af504253a17acaf74a6b100e4b60a98b9d7da9abde9f621cb8bdd8b919d60bb0", func := "anceps/ancepslaw05.TokenWrite", spec := "tokenWrite", inPlace := ["internal/bytealg.IndexByteString", "internal/bytealg.IndexString", "internal/abi.NoEscape", "internal/bytealg.MakeNoZero"], unfollowed := true, recurses := true, named := ["internal/bytealg.MaxLen"], apart := false, narrowed := true }
def TokenWriteUptoSaid : Prop := tokenWriteUptoRow.holds Try.pinned (OpenSpec.upto tokenWriteSpec)

/-- 'ancepslaw05.TokenAgain', WHERE WHAT IT READS IS OF BULK AT MOST 1048576: true; the input reads as it did. -/
def tokenAgainUptoRow : OpenClaim := { program := "ytkkgacoecimlpaa", sum := "af504253a17acaf74a6b100e4b60a98b9d7da9abde9f621cb8bdd8b919d60bb0", func := "anceps/ancepslaw05.TokenAgain", spec := "tokenAgain", inPlace := ["internal/bytealg.IndexByteString", "internal/bytealg.IndexString", "internal/abi.NoEscape", "internal/bytealg.MakeNoZero"], unfollowed := true, recurses := true, named := ["internal/bytealg.MaxLen"], apart := false, narrowed := true }
def TokenAgainUptoSaid : Prop := tokenAgainUptoRow.holds Try.pinned (OpenSpec.upto tokenAgainSpec)

end Rows
end Go.Proofs.Ytkkgacoecimlpaa

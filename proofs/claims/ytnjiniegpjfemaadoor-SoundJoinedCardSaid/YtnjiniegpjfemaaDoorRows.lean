/-
  NARROWER THAN 'FOR EVERY INPUT', by the rows' own cells (each row's printed sentence says how): SoundValid: laid · SoundRebuilt: laid · SoundLists: laid · SoundCompare: laid · SoundParse: laid · SoundSpoiled: laid · SoundFormat: laid · SoundJoined: laid.
  DERIVED. THE GIVEN ROWS OF THIS SEAT. 8 by the template 'for every input the law returns true; each argument reads behind the call as it read before'; 0 by the template 'total and deterministic' (their statements: YtnjiniegpjfemaaDoorTotals.lean).
  GIVEN WITH THE SEED: the statements are not yours to turn. If you find one false, say at which input.
  Laid BY PROGRAM, IN A SANDBOX (cutbox-rows.mjs): the forced cells as the released guide's own fill.sh prints them over the translation 0df911f0fb03a80e… (all of the seat's roots in one cut). By AI agents, Wed Nov 11 2026. No macro, syntax, notation, axiom, sorry.
-/
import Derived.Test.YtnjiniegpjfemaaDoorChecked
import GoSem.PinnedTables
import GoSem.Claim
import GoSem.ClaimJoined
import GoSem.ClaimMapViews
import Derived.JoinedTies
import Derived.KernelRfl
namespace Go.Proofs.YtnjiniegpjfemaaDoor
/- THE CELL 'sum', in the pinned program and in every row, IS THE sha256 OF THE DUMP (.gsa) THAT YtnjiniegpjfemaaDoorProg.lean LOADS. Nothing in Lean hashes anything: it is a label: what it is worth is what the hold of that sum in a sandbox is worth. -/
noncomputable def Tryd.pinned : Pinned := { name := "ytnjiniegpjfemaadoor", sum := "0df911f0fb03a80e93e780d034f2b9559200402f830a9e5a294881e9d47786c4", checked := Tryd.checked }
namespace Rows
def none {H : Type} : Left H := { results := [], args := [] }

/- WHAT THE LISTED PACKAGE-LEVEL VARIABLES READ AS WHEN THE CALL BEGINS. Each datum BY PROGRAM (the guide's laid-datum.mjs) off the statement by which the dump's own 'gosem.cut.vars' lays the variable. In a bare row this is a premise. The card (YtnjiniegpjfemaaDoorCards.lean) ties it to the program's text. -/
def laid_unicode_utf8_acceptRanges {H : Type} : DataW H := .agg [.agg [.lit (.int .u8 128), .lit (.int .u8 191)], .agg [.lit (.int .u8 160), .lit (.int .u8 191)], .agg [.lit (.int .u8 128), .lit (.int .u8 159)], .agg [.lit (.int .u8 144), .lit (.int .u8 191)], .agg [.lit (.int .u8 128), .lit (.int .u8 143)], .agg [.lit (.int .u8 0), .lit (.int .u8 0)], .agg [.lit (.int .u8 0), .lit (.int .u8 0)], .agg [.lit (.int .u8 0), .lit (.int .u8 0)], .agg [.lit (.int .u8 0), .lit (.int .u8 0)], .agg [.lit (.int .u8 0), .lit (.int .u8 0)], .agg [.lit (.int .u8 0), .lit (.int .u8 0)], .agg [.lit (.int .u8 0), .lit (.int .u8 0)], .agg [.lit (.int .u8 0), .lit (.int .u8 0)], .agg [.lit (.int .u8 0), .lit (.int .u8 0)], .agg [.lit (.int .u8 0), .lit (.int .u8 0)], .agg [.lit (.int .u8 0), .lit (.int .u8 0)]]
/-- One of Go's own tables, pinned by name: the form's constant. -/
def laid_unicode_utf8_first : DataW Unit := Go.Pinned.utf8First

/-- 'ancepslaw11.SoundValid': WHATEVER THE INPUT: true; the input reads as it did. -/
def soundValidSpec : ChangeSpec := { name := "soundValid", fn := fun _ => fun
  | [d] => { results := [.lit (.bool true)], args := [d] }
  | _ => none }
def soundValidRow : OpenClaim := { program := "ytnjiniegpjfemaadoor", sum := "0df911f0fb03a80e93e780d034f2b9559200402f830a9e5a294881e9d47786c4", func := "anceps/ancepslaw11.SoundValid", spec := "soundValid", inPlace := ["internal/bytealg.CountString", "internal/bytealg.IndexByteString", "internal/bytealg.IndexString"], unfollowed := true, recurses := true, named := ["unicode/utf8.first", "unicode/utf8.acceptRanges", "internal/bytealg.MaxLen"], apart := false, laid := [("unicode/utf8.acceptRanges", laid_unicode_utf8_acceptRanges), ("unicode/utf8.first", laid_unicode_utf8_first)] }
def SoundValidSaid : Prop := soundValidRow.holds Tryd.pinned (OpenSpec.ofChange soundValidSpec)

/-- ITS FALSE NEIGHBOUR: 'it returns false'. Refute it at one input. -/
def soundValidWrong : ChangeSpec := { name := "soundValid", fn := fun _ => fun
  | [d] => { results := [.lit (.bool false)], args := [d] }
  | _ => none }
def SoundValidWrongFalsely : Prop := soundValidRow.holds Tryd.pinned (OpenSpec.ofChange soundValidWrong)

/-- 'ancepslaw11.SoundRebuilt': WHATEVER THE INPUT: true; the input reads as it did. -/
def soundRebuiltSpec : ChangeSpec := { name := "soundRebuilt", fn := fun _ => fun
  | [d] => { results := [.lit (.bool true)], args := [d] }
  | _ => none }
def soundRebuiltRow : OpenClaim := { program := "ytnjiniegpjfemaadoor", sum := "0df911f0fb03a80e93e780d034f2b9559200402f830a9e5a294881e9d47786c4", func := "anceps/ancepslaw11.SoundRebuilt", spec := "soundRebuilt", inPlace := ["internal/bytealg.CountString", "internal/bytealg.IndexByteString", "internal/bytealg.IndexString"], unfollowed := true, recurses := true, named := ["unicode/utf8.first", "unicode/utf8.acceptRanges", "internal/bytealg.MaxLen"], apart := false, laid := [("unicode/utf8.acceptRanges", laid_unicode_utf8_acceptRanges), ("unicode/utf8.first", laid_unicode_utf8_first)] }
def SoundRebuiltSaid : Prop := soundRebuiltRow.holds Tryd.pinned (OpenSpec.ofChange soundRebuiltSpec)

/-- ITS FALSE NEIGHBOUR: 'it returns false'. Refute it at one input. -/
def soundRebuiltWrong : ChangeSpec := { name := "soundRebuilt", fn := fun _ => fun
  | [d] => { results := [.lit (.bool false)], args := [d] }
  | _ => none }
def SoundRebuiltWrongFalsely : Prop := soundRebuiltRow.holds Tryd.pinned (OpenSpec.ofChange soundRebuiltWrong)

/-- 'ancepslaw11.SoundLists': WHATEVER THE INPUT: true; the input reads as it did. -/
def soundListsSpec : ChangeSpec := { name := "soundLists", fn := fun _ => fun
  | [d] => { results := [.lit (.bool true)], args := [d] }
  | _ => none }
def soundListsRow : OpenClaim := { program := "ytnjiniegpjfemaadoor", sum := "0df911f0fb03a80e93e780d034f2b9559200402f830a9e5a294881e9d47786c4", func := "anceps/ancepslaw11.SoundLists", spec := "soundLists", inPlace := ["internal/bytealg.CountString", "internal/bytealg.IndexByteString", "internal/bytealg.IndexString"], unfollowed := true, recurses := true, named := ["unicode/utf8.first", "unicode/utf8.acceptRanges", "internal/bytealg.MaxLen"], apart := false, laid := [("unicode/utf8.acceptRanges", laid_unicode_utf8_acceptRanges), ("unicode/utf8.first", laid_unicode_utf8_first)] }
def SoundListsSaid : Prop := soundListsRow.holds Tryd.pinned (OpenSpec.ofChange soundListsSpec)

/-- ITS FALSE NEIGHBOUR: 'it returns false'. Refute it at one input. -/
def soundListsWrong : ChangeSpec := { name := "soundLists", fn := fun _ => fun
  | [d] => { results := [.lit (.bool false)], args := [d] }
  | _ => none }
def SoundListsWrongFalsely : Prop := soundListsRow.holds Tryd.pinned (OpenSpec.ofChange soundListsWrong)

/-- 'ancepslaw11.SoundCompare': WHATEVER THE INPUT: true; the input reads as it did. -/
def soundCompareSpec : ChangeSpec := { name := "soundCompare", fn := fun _ => fun
  | [d1, d2, d3] => { results := [.lit (.bool true)], args := [d1, d2, d3] }
  | _ => none }
def soundCompareRow : OpenClaim := { program := "ytnjiniegpjfemaadoor", sum := "0df911f0fb03a80e93e780d034f2b9559200402f830a9e5a294881e9d47786c4", func := "anceps/ancepslaw11.SoundCompare", spec := "soundCompare", inPlace := ["internal/bytealg.CountString", "internal/bytealg.IndexByteString", "internal/bytealg.IndexString"], unfollowed := true, recurses := true, named := ["unicode/utf8.first", "unicode/utf8.acceptRanges", "internal/bytealg.MaxLen"], apart := false, laid := [("unicode/utf8.acceptRanges", laid_unicode_utf8_acceptRanges), ("unicode/utf8.first", laid_unicode_utf8_first)] }
def SoundCompareSaid : Prop := soundCompareRow.holds Tryd.pinned (OpenSpec.ofChange soundCompareSpec)

/-- ITS FALSE NEIGHBOUR: 'it returns false'. Refute it at one input. -/
def soundCompareWrong : ChangeSpec := { name := "soundCompare", fn := fun _ => fun
  | [d1, d2, d3] => { results := [.lit (.bool false)], args := [d1, d2, d3] }
  | _ => none }
def SoundCompareWrongFalsely : Prop := soundCompareRow.holds Tryd.pinned (OpenSpec.ofChange soundCompareWrong)

/-- 'ancepslaw11.SoundParse': WHATEVER THE INPUT: true; the input reads as it did. -/
def soundParseSpec : ChangeSpec := { name := "soundParse", fn := fun _ => fun
  | [d] => { results := [.lit (.bool true)], args := [d] }
  | _ => none }
def soundParseRow : OpenClaim := { program := "ytnjiniegpjfemaadoor", sum := "0df911f0fb03a80e93e780d034f2b9559200402f830a9e5a294881e9d47786c4", func := "anceps/ancepslaw11.SoundParse", spec := "soundParse", inPlace := ["internal/bytealg.CountString", "internal/bytealg.IndexByteString", "internal/bytealg.IndexString", "internal/abi.NoEscape", "internal/bytealg.MakeNoZero"], unfollowed := true, recurses := true, named := ["unicode/utf8.first", "unicode/utf8.acceptRanges", "internal/bytealg.MaxLen"], apart := false, laid := [("unicode/utf8.acceptRanges", laid_unicode_utf8_acceptRanges), ("unicode/utf8.first", laid_unicode_utf8_first)] }
def SoundParseSaid : Prop := soundParseRow.holds Tryd.pinned (OpenSpec.ofChange soundParseSpec)

/-- ITS FALSE NEIGHBOUR: 'it returns false'. Refute it at one input. -/
def soundParseWrong : ChangeSpec := { name := "soundParse", fn := fun _ => fun
  | [d] => { results := [.lit (.bool false)], args := [d] }
  | _ => none }
def SoundParseWrongFalsely : Prop := soundParseRow.holds Tryd.pinned (OpenSpec.ofChange soundParseWrong)

/-- 'ancepslaw11.SoundSpoiled': WHATEVER THE INPUT: true; the input reads as it did. -/
def soundSpoiledSpec : ChangeSpec := { name := "soundSpoiled", fn := fun _ => fun
  | [d1, d2, d3] => { results := [.lit (.bool true)], args := [d1, d2, d3] }
  | _ => none }
def soundSpoiledRow : OpenClaim := { program := "ytnjiniegpjfemaadoor", sum := "0df911f0fb03a80e93e780d034f2b9559200402f830a9e5a294881e9d47786c4", func := "anceps/ancepslaw11.SoundSpoiled", spec := "soundSpoiled", inPlace := ["internal/bytealg.CountString", "internal/bytealg.IndexByteString", "internal/bytealg.IndexString", "internal/abi.NoEscape", "internal/bytealg.MakeNoZero"], unfollowed := true, recurses := true, named := ["unicode/utf8.first", "unicode/utf8.acceptRanges", "internal/bytealg.MaxLen"], apart := false, laid := [("unicode/utf8.acceptRanges", laid_unicode_utf8_acceptRanges), ("unicode/utf8.first", laid_unicode_utf8_first)] }
def SoundSpoiledSaid : Prop := soundSpoiledRow.holds Tryd.pinned (OpenSpec.ofChange soundSpoiledSpec)

/-- ITS FALSE NEIGHBOUR: 'it returns false'. Refute it at one input. -/
def soundSpoiledWrong : ChangeSpec := { name := "soundSpoiled", fn := fun _ => fun
  | [d1, d2, d3] => { results := [.lit (.bool false)], args := [d1, d2, d3] }
  | _ => none }
def SoundSpoiledWrongFalsely : Prop := soundSpoiledRow.holds Tryd.pinned (OpenSpec.ofChange soundSpoiledWrong)

/-- 'ancepslaw11.SoundFormat': WHATEVER THE INPUT: true; the input reads as it did. -/
def soundFormatSpec : ChangeSpec := { name := "soundFormat", fn := fun _ => fun
  | [d] => { results := [.lit (.bool true)], args := [d] }
  | _ => none }
def soundFormatRow : OpenClaim := { program := "ytnjiniegpjfemaadoor", sum := "0df911f0fb03a80e93e780d034f2b9559200402f830a9e5a294881e9d47786c4", func := "anceps/ancepslaw11.SoundFormat", spec := "soundFormat", inPlace := ["internal/bytealg.CountString", "internal/bytealg.IndexByteString", "internal/bytealg.IndexString", "internal/abi.NoEscape", "internal/bytealg.MakeNoZero"], unfollowed := true, recurses := true, named := ["unicode/utf8.first", "unicode/utf8.acceptRanges", "internal/bytealg.MaxLen"], apart := false, laid := [("unicode/utf8.acceptRanges", laid_unicode_utf8_acceptRanges), ("unicode/utf8.first", laid_unicode_utf8_first)] }
def SoundFormatSaid : Prop := soundFormatRow.holds Tryd.pinned (OpenSpec.ofChange soundFormatSpec)

/-- ITS FALSE NEIGHBOUR: 'it returns false'. Refute it at one input. -/
def soundFormatWrong : ChangeSpec := { name := "soundFormat", fn := fun _ => fun
  | [d] => { results := [.lit (.bool false)], args := [d] }
  | _ => none }
def SoundFormatWrongFalsely : Prop := soundFormatRow.holds Tryd.pinned (OpenSpec.ofChange soundFormatWrong)

/-- 'ancepslaw11.SoundJoined': WHATEVER THE INPUT: true; the input reads as it did. -/
def soundJoinedSpec : ChangeSpec := { name := "soundJoined", fn := fun _ => fun
  | [d1, d2] => { results := [.lit (.bool true)], args := [d1, d2] }
  | _ => none }
def soundJoinedRow : OpenClaim := { program := "ytnjiniegpjfemaadoor", sum := "0df911f0fb03a80e93e780d034f2b9559200402f830a9e5a294881e9d47786c4", func := "anceps/ancepslaw11.SoundJoined", spec := "soundJoined", inPlace := ["internal/bytealg.CountString", "internal/bytealg.IndexByteString", "internal/bytealg.IndexString", "internal/abi.NoEscape", "internal/bytealg.MakeNoZero"], unfollowed := true, recurses := true, named := ["unicode/utf8.first", "unicode/utf8.acceptRanges", "internal/bytealg.MaxLen"], apart := false, laid := [("unicode/utf8.acceptRanges", laid_unicode_utf8_acceptRanges), ("unicode/utf8.first", laid_unicode_utf8_first)] }
def SoundJoinedSaid : Prop := soundJoinedRow.holds Tryd.pinned (OpenSpec.ofChange soundJoinedSpec)

/-- ITS FALSE NEIGHBOUR: 'it returns false'. Refute it at one input. -/
def soundJoinedWrong : ChangeSpec := { name := "soundJoined", fn := fun _ => fun
  | [d1, d2] => { results := [.lit (.bool false)], args := [d1, d2] }
  | _ => none }
def SoundJoinedWrongFalsely : Prop := soundJoinedRow.holds Tryd.pinned (OpenSpec.ofChange soundJoinedWrong)

/- THE SECOND FORM. 'bulk': how many values and letters a reading holds, each counted each time it is reached (what is shared counts as often as it is met; a slice's spare places count too). A statement '..UptoSaid' is the law's where the arguments, and the package variables that the reading takes, are together of bulk at most 1048576: NARROWER than '..Said'. Prove '..Said' where nothing that the law and all that it calls make is longer than what came in: it says more and counts as full. Else prove '..UptoSaid'. A law counts once. -/
mutual
def uptoBulk {H : Type} : DataW H → Nat
  | .lit (.string bytes) => bytes.length + 1
  | .lit _ => 1
  | .nil => 1
  | .ptr d => uptoBulk d + 1
  | .slice elems spare => uptoBulkAll elems + uptoBulkAll spare + 1
  | .agg parts => uptoBulkAll parts + 1
  | .iface _ d => uptoBulk d + 1
  | .map entries => uptoBulkEntries entries + 1
  | .held _ => 1
def uptoBulkAll {H : Type} : List (DataW H) → Nat
  | [] => 0
  | d :: r => uptoBulk d + uptoBulkAll r
def uptoBulkEntries {H : Type} : List (Lit × DataW H) → Nat
  | [] => 0
  | x :: r => uptoBulkEntry x + uptoBulkEntries r
def uptoBulkEntry {H : Type} : Lit × DataW H → Nat
  | (.string bytes, d) => bytes.length + uptoBulk d + 1
  | (_, d) => uptoBulk d + 1
 end
def uptoSmall : (H : Type) → List (DataW H) → Bool := fun _ ds => decide (uptoBulkAll ds ≤ 1048576)
def OpenSpec.upto (s : _root_.Go.ChangeSpec) : _root_.Go.OpenSpec := { _root_.Go.OpenSpec.ofChange s with cond := some uptoSmall }

/-- 'ancepslaw11.SoundValid', WHERE WHAT IT READS IS OF BULK AT MOST 1048576: true; the input reads as it did. -/
def soundValidUptoRow : OpenClaim := { program := "ytnjiniegpjfemaadoor", sum := "0df911f0fb03a80e93e780d034f2b9559200402f830a9e5a294881e9d47786c4", func := "anceps/ancepslaw11.SoundValid", spec := "soundValid", inPlace := ["internal/bytealg.CountString", "internal/bytealg.IndexByteString", "internal/bytealg.IndexString"], unfollowed := true, recurses := true, named := ["unicode/utf8.first", "unicode/utf8.acceptRanges", "internal/bytealg.MaxLen"], apart := false, laid := [("unicode/utf8.acceptRanges", laid_unicode_utf8_acceptRanges), ("unicode/utf8.first", laid_unicode_utf8_first)], narrowed := true }
def SoundValidUptoSaid : Prop := soundValidUptoRow.holds Tryd.pinned (OpenSpec.upto soundValidSpec)

/-- 'ancepslaw11.SoundRebuilt', WHERE WHAT IT READS IS OF BULK AT MOST 1048576: true; the input reads as it did. -/
def soundRebuiltUptoRow : OpenClaim := { program := "ytnjiniegpjfemaadoor", sum := "0df911f0fb03a80e93e780d034f2b9559200402f830a9e5a294881e9d47786c4", func := "anceps/ancepslaw11.SoundRebuilt", spec := "soundRebuilt", inPlace := ["internal/bytealg.CountString", "internal/bytealg.IndexByteString", "internal/bytealg.IndexString"], unfollowed := true, recurses := true, named := ["unicode/utf8.first", "unicode/utf8.acceptRanges", "internal/bytealg.MaxLen"], apart := false, laid := [("unicode/utf8.acceptRanges", laid_unicode_utf8_acceptRanges), ("unicode/utf8.first", laid_unicode_utf8_first)], narrowed := true }
def SoundRebuiltUptoSaid : Prop := soundRebuiltUptoRow.holds Tryd.pinned (OpenSpec.upto soundRebuiltSpec)

/-- 'ancepslaw11.SoundLists', WHERE WHAT IT READS IS OF BULK AT MOST 1048576: true; the input reads as it did. -/
def soundListsUptoRow : OpenClaim := { program := "ytnjiniegpjfemaadoor", sum := "0df911f0fb03a80e93e780d034f2b9559200402f830a9e5a294881e9d47786c4", func := "anceps/ancepslaw11.SoundLists", spec := "soundLists", inPlace := ["internal/bytealg.CountString", "internal/bytealg.IndexByteString", "internal/bytealg.IndexString"], unfollowed := true, recurses := true, named := ["unicode/utf8.first", "unicode/utf8.acceptRanges", "internal/bytealg.MaxLen"], apart := false, laid := [("unicode/utf8.acceptRanges", laid_unicode_utf8_acceptRanges), ("unicode/utf8.first", laid_unicode_utf8_first)], narrowed := true }
def SoundListsUptoSaid : Prop := soundListsUptoRow.holds Tryd.pinned (OpenSpec.upto soundListsSpec)

/-- 'ancepslaw11.SoundCompare', WHERE WHAT IT READS IS OF BULK AT MOST 1048576: true; the input reads as it did. -/
def soundCompareUptoRow : OpenClaim := { program := "ytnjiniegpjfemaadoor", sum := "0df911f0fb03a80e93e780d034f2b9559200402f830a9e5a294881e9d47786c4", func := "anceps/ancepslaw11.SoundCompare", spec := "soundCompare", inPlace := ["internal/bytealg.CountString", "internal/bytealg.IndexByteString", "internal/bytealg.IndexString"], unfollowed := true, recurses := true, named := ["unicode/utf8.first", "unicode/utf8.acceptRanges", "internal/bytealg.MaxLen"], apart := false, laid := [("unicode/utf8.acceptRanges", laid_unicode_utf8_acceptRanges), ("unicode/utf8.first", laid_unicode_utf8_first)], narrowed := true }
def SoundCompareUptoSaid : Prop := soundCompareUptoRow.holds Tryd.pinned (OpenSpec.upto soundCompareSpec)

/-- 'ancepslaw11.SoundParse', WHERE WHAT IT READS IS OF BULK AT MOST 1048576: true; the input reads as it did. -/
def soundParseUptoRow : OpenClaim := { program := "ytnjiniegpjfemaadoor", sum := "0df911f0fb03a80e93e780d034f2b9559200402f830a9e5a294881e9d47786c4", func := "anceps/ancepslaw11.SoundParse", spec := "soundParse", inPlace := ["internal/bytealg.CountString", "internal/bytealg.IndexByteString", "internal/bytealg.IndexString", "internal/abi.NoEscape", "internal/bytealg.MakeNoZero"], unfollowed := true, recurses := true, named := ["unicode/utf8.first", "unicode/utf8.acceptRanges", "internal/bytealg.MaxLen"], apart := false, laid := [("unicode/utf8.acceptRanges", laid_unicode_utf8_acceptRanges), ("unicode/utf8.first", laid_unicode_utf8_first)], narrowed := true }
def SoundParseUptoSaid : Prop := soundParseUptoRow.holds Tryd.pinned (OpenSpec.upto soundParseSpec)

/-- 'ancepslaw11.SoundSpoiled', WHERE WHAT IT READS IS OF BULK AT MOST 1048576: true; the input reads as it did. -/
def soundSpoiledUptoRow : OpenClaim := { program := "ytnjiniegpjfemaadoor", sum := "0df911f0fb03a80e93e780d034f2b9559200402f830a9e5a294881e9d47786c4", func := "anceps/ancepslaw11.SoundSpoiled", spec := "soundSpoiled", inPlace := ["internal/bytealg.CountString", "internal/bytealg.IndexByteString", "internal/bytealg.IndexString", "internal/abi.NoEscape", "internal/bytealg.MakeNoZero"], unfollowed := true, recurses := true, named := ["unicode/utf8.first", "unicode/utf8.acceptRanges", "internal/bytealg.MaxLen"], apart := false, laid := [("unicode/utf8.acceptRanges", laid_unicode_utf8_acceptRanges), ("unicode/utf8.first", laid_unicode_utf8_first)], narrowed := true }
def SoundSpoiledUptoSaid : Prop := soundSpoiledUptoRow.holds Tryd.pinned (OpenSpec.upto soundSpoiledSpec)

/-- 'ancepslaw11.SoundFormat', WHERE WHAT IT READS IS OF BULK AT MOST 1048576: true; the input reads as it did. -/
def soundFormatUptoRow : OpenClaim := { program := "ytnjiniegpjfemaadoor", sum := "0df911f0fb03a80e93e780d034f2b9559200402f830a9e5a294881e9d47786c4", func := "anceps/ancepslaw11.SoundFormat", spec := "soundFormat", inPlace := ["internal/bytealg.CountString", "internal/bytealg.IndexByteString", "internal/bytealg.IndexString", "internal/abi.NoEscape", "internal/bytealg.MakeNoZero"], unfollowed := true, recurses := true, named := ["unicode/utf8.first", "unicode/utf8.acceptRanges", "internal/bytealg.MaxLen"], apart := false, laid := [("unicode/utf8.acceptRanges", laid_unicode_utf8_acceptRanges), ("unicode/utf8.first", laid_unicode_utf8_first)], narrowed := true }
def SoundFormatUptoSaid : Prop := soundFormatUptoRow.holds Tryd.pinned (OpenSpec.upto soundFormatSpec)

/-- 'ancepslaw11.SoundJoined', WHERE WHAT IT READS IS OF BULK AT MOST 1048576: true; the input reads as it did. -/
def soundJoinedUptoRow : OpenClaim := { program := "ytnjiniegpjfemaadoor", sum := "0df911f0fb03a80e93e780d034f2b9559200402f830a9e5a294881e9d47786c4", func := "anceps/ancepslaw11.SoundJoined", spec := "soundJoined", inPlace := ["internal/bytealg.CountString", "internal/bytealg.IndexByteString", "internal/bytealg.IndexString", "internal/abi.NoEscape", "internal/bytealg.MakeNoZero"], unfollowed := true, recurses := true, named := ["unicode/utf8.first", "unicode/utf8.acceptRanges", "internal/bytealg.MaxLen"], apart := false, laid := [("unicode/utf8.acceptRanges", laid_unicode_utf8_acceptRanges), ("unicode/utf8.first", laid_unicode_utf8_first)], narrowed := true }
def SoundJoinedUptoSaid : Prop := soundJoinedUptoRow.holds Tryd.pinned (OpenSpec.upto soundJoinedSpec)

end Rows
end Go.Proofs.YtnjiniegpjfemaaDoor

/-
  No cell of these rows narrows 'for every input' (looked for: loops, veiled, ifaces, maps, wideKeys, modest, calm, conditions, laid).
  DERIVED. THE GIVEN ROWS OF THIS SEAT. 7 by the template 'for every input the law returns true; each argument reads behind the call as it read before'; 0 by the template 'total and deterministic' (their statements: YtbecdafbkdchkaaTotals.lean).
  GIVEN WITH THE SEED: the statements are not yours to turn. If you find one false, say at which input.
  Laid BY PROGRAM, IN A SANDBOX (cutbox-rows.mjs): the forced cells as the released guide's own fill.sh prints them over the translation fe62ba258711c5d3… (all of the seat's roots in one cut). By AI agents, Wed Nov 11 2026. No macro, syntax, notation, axiom, sorry.
-/
import Derived.Test.YtbecdafbkdchkaaChecked
import GoSem.Claim
import GoSem.ClaimJoined
import GoSem.ClaimMapViews
import Derived.JoinedTies
import Derived.KernelRfl
namespace Go.Proofs.Ytbecdafbkdchkaa
/- THE CELL 'sum', in the pinned program and in every row, IS THE sha256 OF THE DUMP (.gsa) THAT YtbecdafbkdchkaaProg.lean LOADS. Nothing in Lean hashes anything: it is a label: what it is worth is what the hold of that sum in a sandbox is worth. -/
noncomputable def Try.pinned : Pinned := { name := "ytbecdafbkdchkaa", sum := "fe62ba258711c5d3cd2858f894ec6708d0af8ca096ad210f7a76c31d72bdfd70", checked := Try.checked }
namespace Rows
def none {H : Type} : Left H := { results := [], args := [] }

/-- 'ancepslaw04.PatternMeet': WHATEVER THE INPUT: true; the input reads as it did. -/
def patternMeetSpec : ChangeSpec := { name := "patternMeet", fn := fun _ => fun
  | [d1, d2] => { results := [.lit (.bool true)], args := [d1, d2] }
  | _ => none }
def patternMeetRow : OpenClaim := { program := "ytbecdafbkdchkaa", sum := "fe62ba258711c5d3cd2858f894ec6708d0af8ca096ad210f7a76c31d72bdfd70", func := "anceps/ancepslaw04.PatternMeet", spec := "patternMeet", inPlace := ["internal/bytealg.IndexByteString", "internal/bytealg.CountString", "internal/bytealg.IndexString"], named := ["internal/bytealg.MaxLen"], apart := false }
def PatternMeetSaid : Prop := patternMeetRow.holds Try.pinned (OpenSpec.ofChange patternMeetSpec)

/-- ITS FALSE NEIGHBOUR: 'it returns false'. Refute it at one input. -/
def patternMeetWrong : ChangeSpec := { name := "patternMeet", fn := fun _ => fun
  | [d1, d2] => { results := [.lit (.bool false)], args := [d1, d2] }
  | _ => none }
def PatternMeetWrongFalsely : Prop := patternMeetRow.holds Try.pinned (OpenSpec.ofChange patternMeetWrong)

/-- 'ancepslaw04.PatternMorae': WHATEVER THE INPUT: true; the input reads as it did. -/
def patternMoraeSpec : ChangeSpec := { name := "patternMorae", fn := fun _ => fun
  | [d] => { results := [.lit (.bool true)], args := [d] }
  | _ => none }
def patternMoraeRow : OpenClaim := { program := "ytbecdafbkdchkaa", sum := "fe62ba258711c5d3cd2858f894ec6708d0af8ca096ad210f7a76c31d72bdfd70", func := "anceps/ancepslaw04.PatternMorae", spec := "patternMorae", inPlace := ["internal/bytealg.IndexByteString", "internal/bytealg.CountString", "internal/bytealg.IndexString"], named := ["internal/bytealg.MaxLen"], apart := false }
def PatternMoraeSaid : Prop := patternMoraeRow.holds Try.pinned (OpenSpec.ofChange patternMoraeSpec)

/-- ITS FALSE NEIGHBOUR: 'it returns false'. Refute it at one input. -/
def patternMoraeWrong : ChangeSpec := { name := "patternMorae", fn := fun _ => fun
  | [d] => { results := [.lit (.bool false)], args := [d] }
  | _ => none }
def PatternMoraeWrongFalsely : Prop := patternMoraeRow.holds Try.pinned (OpenSpec.ofChange patternMoraeWrong)

/-- 'ancepslaw04.PatternLattice': WHATEVER THE INPUT: true; the input reads as it did. -/
def patternLatticeSpec : ChangeSpec := { name := "patternLattice", fn := fun _ => fun
  | [d1, d2, d3] => { results := [.lit (.bool true)], args := [d1, d2, d3] }
  | _ => none }
def patternLatticeRow : OpenClaim := { program := "ytbecdafbkdchkaa", sum := "fe62ba258711c5d3cd2858f894ec6708d0af8ca096ad210f7a76c31d72bdfd70", func := "anceps/ancepslaw04.PatternLattice", spec := "patternLattice", inPlace := ["internal/bytealg.IndexByteString", "internal/bytealg.CountString", "internal/bytealg.IndexString"], named := ["internal/bytealg.MaxLen"], apart := false }
def PatternLatticeSaid : Prop := patternLatticeRow.holds Try.pinned (OpenSpec.ofChange patternLatticeSpec)

/-- ITS FALSE NEIGHBOUR: 'it returns false'. Refute it at one input. -/
def patternLatticeWrong : ChangeSpec := { name := "patternLattice", fn := fun _ => fun
  | [d1, d2, d3] => { results := [.lit (.bool false)], args := [d1, d2, d3] }
  | _ => none }
def PatternLatticeWrongFalsely : Prop := patternLatticeRow.holds Try.pinned (OpenSpec.ofChange patternLatticeWrong)

/-- 'ancepslaw04.PatternCommon': WHATEVER THE INPUT: true; the input reads as it did. -/
def patternCommonSpec : ChangeSpec := { name := "patternCommon", fn := fun _ => fun
  | [d1, d2, d3] => { results := [.lit (.bool true)], args := [d1, d2, d3] }
  | _ => none }
def patternCommonRow : OpenClaim := { program := "ytbecdafbkdchkaa", sum := "fe62ba258711c5d3cd2858f894ec6708d0af8ca096ad210f7a76c31d72bdfd70", func := "anceps/ancepslaw04.PatternCommon", spec := "patternCommon", inPlace := ["internal/bytealg.IndexByteString", "internal/bytealg.CountString", "internal/bytealg.IndexString"], named := ["internal/bytealg.MaxLen"], apart := false }
def PatternCommonSaid : Prop := patternCommonRow.holds Try.pinned (OpenSpec.ofChange patternCommonSpec)

/-- ITS FALSE NEIGHBOUR: 'it returns false'. Refute it at one input. -/
def patternCommonWrong : ChangeSpec := { name := "patternCommon", fn := fun _ => fun
  | [d1, d2, d3] => { results := [.lit (.bool false)], args := [d1, d2, d3] }
  | _ => none }
def PatternCommonWrongFalsely : Prop := patternCommonRow.holds Try.pinned (OpenSpec.ofChange patternCommonWrong)

/-- 'ancepslaw04.PatternExpand': WHATEVER THE INPUT: true; the input reads as it did. -/
def patternExpandSpec : ChangeSpec := { name := "patternExpand", fn := fun _ => fun
  | [d] => { results := [.lit (.bool true)], args := [d] }
  | _ => none }
def patternExpandRow : OpenClaim := { program := "ytbecdafbkdchkaa", sum := "fe62ba258711c5d3cd2858f894ec6708d0af8ca096ad210f7a76c31d72bdfd70", func := "anceps/ancepslaw04.PatternExpand", spec := "patternExpand", inPlace := ["internal/bytealg.IndexByteString", "internal/bytealg.CountString", "internal/bytealg.IndexString"], named := ["internal/bytealg.MaxLen"], apart := false }
def PatternExpandSaid : Prop := patternExpandRow.holds Try.pinned (OpenSpec.ofChange patternExpandSpec)

/-- ITS FALSE NEIGHBOUR: 'it returns false'. Refute it at one input. -/
def patternExpandWrong : ChangeSpec := { name := "patternExpand", fn := fun _ => fun
  | [d] => { results := [.lit (.bool false)], args := [d] }
  | _ => none }
def PatternExpandWrongFalsely : Prop := patternExpandRow.holds Try.pinned (OpenSpec.ofChange patternExpandWrong)

/-- 'ancepslaw04.PatternCompare': WHATEVER THE INPUT: true; the input reads as it did. -/
def patternCompareSpec : ChangeSpec := { name := "patternCompare", fn := fun _ => fun
  | [d1, d2, d3] => { results := [.lit (.bool true)], args := [d1, d2, d3] }
  | _ => none }
def patternCompareRow : OpenClaim := { program := "ytbecdafbkdchkaa", sum := "fe62ba258711c5d3cd2858f894ec6708d0af8ca096ad210f7a76c31d72bdfd70", func := "anceps/ancepslaw04.PatternCompare", spec := "patternCompare", inPlace := ["internal/bytealg.IndexByteString", "internal/bytealg.CountString", "internal/bytealg.IndexString"], named := ["internal/bytealg.MaxLen"], apart := false }
def PatternCompareSaid : Prop := patternCompareRow.holds Try.pinned (OpenSpec.ofChange patternCompareSpec)

/-- ITS FALSE NEIGHBOUR: 'it returns false'. Refute it at one input. -/
def patternCompareWrong : ChangeSpec := { name := "patternCompare", fn := fun _ => fun
  | [d1, d2, d3] => { results := [.lit (.bool false)], args := [d1, d2, d3] }
  | _ => none }
def PatternCompareWrongFalsely : Prop := patternCompareRow.holds Try.pinned (OpenSpec.ofChange patternCompareWrong)

/-- 'ancepslaw04.PatternText': WHATEVER THE INPUT: true; the input reads as it did. -/
def patternTextSpec : ChangeSpec := { name := "patternText", fn := fun _ => fun
  | [d] => { results := [.lit (.bool true)], args := [d] }
  | _ => none }
def patternTextRow : OpenClaim := { program := "ytbecdafbkdchkaa", sum := "fe62ba258711c5d3cd2858f894ec6708d0af8ca096ad210f7a76c31d72bdfd70", func := "anceps/ancepslaw04.PatternText", spec := "patternText", inPlace := ["internal/bytealg.IndexByteString", "internal/bytealg.CountString", "internal/bytealg.IndexString", "internal/abi.NoEscape"], named := ["internal/bytealg.MaxLen"], apart := false }
def PatternTextSaid : Prop := patternTextRow.holds Try.pinned (OpenSpec.ofChange patternTextSpec)

/-- ITS FALSE NEIGHBOUR: 'it returns false'. Refute it at one input. -/
def patternTextWrong : ChangeSpec := { name := "patternText", fn := fun _ => fun
  | [d] => { results := [.lit (.bool false)], args := [d] }
  | _ => none }
def PatternTextWrongFalsely : Prop := patternTextRow.holds Try.pinned (OpenSpec.ofChange patternTextWrong)

/- THE SECOND FORM. 'bulk': how many values and letters a reading holds, each counted each time it is reached (what is shared counts as often as it is met; a slice's spare places count too). A statement '..UptoSaid' is the law's where the arguments, and the package variables that the reading takes, are together of bulk at most 1048576: NARROWER than '..Said'. Prove '..Said' where nothing that the law and all that it calls make is longer than what came in: it says more and counts as full. Else prove '..UptoSaid'. A law counts once. -/
mutual
def uptoBulk {H : Type} : DataW H → Nat
  | .lit (.string bytes) => bytes.length + 1
  | .lit _ => 1
  | .nil => 1
  | .ptr d => uptoBulk d + 1
  | .slice elems spare => uptoBulkAll elems + uptoBulkAll spare + 1
  | .agg parts => uptoBulkAll parts + 1
  | .iface _ d => uptoBulk d + 1
  | .map entries => uptoBulkEntries entries + 1
  | .held _ => 1
def uptoBulkAll {H : Type} : List (DataW H) → Nat
  | [] => 0
  | d :: r => uptoBulk d + uptoBulkAll r
def uptoBulkEntries {H : Type} : List (Lit × DataW H) → Nat
  | [] => 0
  | x :: r => uptoBulkEntry x + uptoBulkEntries r
def uptoBulkEntry {H : Type} : Lit × DataW H → Nat
  | (.string bytes, d) => bytes.length + uptoBulk d + 1
  | (_, d) => uptoBulk d + 1
 end
def uptoSmall : (H : Type) → List (DataW H) → Bool := fun _ ds => decide (uptoBulkAll ds ≤ 1048576)
def OpenSpec.upto (s : _root_.Go.ChangeSpec) : _root_.Go.OpenSpec := { _root_.Go.OpenSpec.ofChange s with cond := some uptoSmall }

/-- 'ancepslaw04.PatternMeet', WHERE WHAT IT READS IS OF BULK AT MOST 1048576: true; the input reads as it did. -/
def patternMeetUptoRow : OpenClaim := { program := "ytbecdafbkdchkaa", sum := "fe62ba258711c5d3cd2858f894ec6708d0af8ca096ad210f7a76c31d72bdfd70", func := "anceps/ancepslaw04.PatternMeet", spec := "patternMeet", inPlace := ["internal/bytealg.IndexByteString", "internal/bytealg.CountString", "internal/bytealg.IndexString"], named := ["internal/bytealg.MaxLen"], apart := false, narrowed := true }
def PatternMeetUptoSaid : Prop := patternMeetUptoRow.holds Try.pinned (OpenSpec.upto patternMeetSpec)

/-- 'ancepslaw04.PatternMorae', WHERE WHAT IT READS IS OF BULK AT MOST 1048576: true; the input reads as it did. -/
def patternMoraeUptoRow : OpenClaim := { program := "ytbecdafbkdchkaa", sum := "fe62ba258711c5d3cd2858f894ec6708d0af8ca096ad210f7a76c31d72bdfd70", func := "anceps/ancepslaw04.PatternMorae", spec := "patternMorae", inPlace := ["internal/bytealg.IndexByteString", "internal/bytealg.CountString", "internal/bytealg.IndexString"], named := ["internal/bytealg.MaxLen"], apart := false, narrowed := true }
def PatternMoraeUptoSaid : Prop := patternMoraeUptoRow.holds Try.pinned (OpenSpec.upto patternMoraeSpec)

/-- 'ancepslaw04.PatternLattice', WHERE WHAT IT READS IS OF BULK AT MOST 1048576: true; the input reads as it did. -/
def patternLatticeUptoRow : OpenClaim := { program := "ytbecdafbkdchkaa", sum := "fe62ba258711c5d3cd2858f894ec6708d0af8ca096ad210f7a76c31d72bdfd70", func := "anceps/ancepslaw04.PatternLattice", spec := "patternLattice", inPlace := ["internal/bytealg.IndexByteString", "internal/bytealg.CountString", "internal/bytealg.IndexString"], named := ["internal/bytealg.MaxLen"], apart := false, narrowed := true }
def PatternLatticeUptoSaid : Prop := patternLatticeUptoRow.holds Try.pinned (OpenSpec.upto patternLatticeSpec)

/-- 'ancepslaw04.PatternCommon', WHERE WHAT IT READS IS OF BULK AT MOST 1048576: true; the input reads as it did. -/
def patternCommonUptoRow : OpenClaim := { program := "ytbecdafbkdchkaa", sum := "fe62ba258711c5d3cd2858f894ec6708d0af8ca096ad210f7a76c31d72bdfd70", func := "anceps/ancepslaw04.PatternCommon", spec := "patternCommon", inPlace := ["internal/bytealg.IndexByteString", "internal/bytealg.CountString", "internal/bytealg.IndexString"], named := ["internal/bytealg.MaxLen"], apart := false, narrowed := true }
def PatternCommonUptoSaid : Prop := patternCommonUptoRow.holds Try.pinned (OpenSpec.upto patternCommonSpec)

/-- 'ancepslaw04.PatternExpand', WHERE WHAT IT READS IS OF BULK AT MOST 1048576: true; the input reads as it did. -/
def patternExpandUptoRow : OpenClaim := { program := "ytbecdafbkdchkaa", sum := "fe62ba258711c5d3cd2858f894ec6708d0af8ca096ad210f7a76c31d72bdfd70", func := "anceps/ancepslaw04.PatternExpand", spec := "patternExpand", inPlace := ["internal/bytealg.IndexByteString", "internal/bytealg.CountString", "internal/bytealg.IndexString"], named := ["internal/bytealg.MaxLen"], apart := false, narrowed := true }
def PatternExpandUptoSaid : Prop := patternExpandUptoRow.holds Try.pinned (OpenSpec.upto patternExpandSpec)

/-- 'ancepslaw04.PatternCompare', WHERE WHAT IT READS IS OF BULK AT MOST 1048576: true; the input reads as it did. -/
def patternCompareUptoRow : OpenClaim := { program := "ytbecdafbkdchkaa", sum := "fe62ba258711c5d3cd2858f894ec6708d0af8ca096ad210f7a76c31d72bdfd70", func := "anceps/ancepslaw04.PatternCompare", spec := "patternCompare", inPlace := ["internal/bytealg.IndexByteString", "internal/bytealg.CountString", "internal/bytealg.IndexString"], named := ["internal/bytealg.MaxLen"], apart := false, narrowed := true }
def PatternCompareUptoSaid : Prop := patternCompareUptoRow.holds Try.pinned (OpenSpec.upto patternCompareSpec)

/-- 'ancepslaw04.PatternText', WHERE WHAT IT READS IS OF BULK AT MOST 1048576: true; the input reads as it did. -/
def patternTextUptoRow : OpenClaim := { program := "ytbecdafbkdchkaa", sum := "fe62ba258711c5d3cd2858f894ec6708d0af8ca096ad210f7a76c31d72bdfd70", func := "anceps/ancepslaw04.PatternText", spec := "patternText", inPlace := ["internal/bytealg.IndexByteString", "internal/bytealg.CountString", "internal/bytealg.IndexString", "internal/abi.NoEscape"], named := ["internal/bytealg.MaxLen"], apart := false, narrowed := true }
def PatternTextUptoSaid : Prop := patternTextUptoRow.holds Try.pinned (OpenSpec.upto patternTextSpec)

end Rows
end Go.Proofs.Ytbecdafbkdchkaa

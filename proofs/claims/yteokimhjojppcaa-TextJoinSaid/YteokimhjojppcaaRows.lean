/-
  No cell of these rows narrows 'for every input' (looked for: loops, veiled, ifaces, maps, wideKeys, modest, calm, conditions, laid).
  DERIVED. THE GIVEN ROWS OF THIS SEAT. 6 by the template 'for every input the law returns true; each argument reads behind the call as it read before'; 0 by the template 'total and deterministic' (their statements: YteokimhjojppcaaTotals.lean).
  GIVEN WITH THE SEED: the statements are not yours to turn. If you find one false, say at which input.
  Laid BY PROGRAM, IN A SANDBOX (cutbox-rows.mjs): the forced cells as the released guide's own fill.sh prints them over the translation 3765498ff3bd4413… (all of the seat's roots in one cut). By AI agents, Wed Nov 11 2026. No macro, syntax, notation, axiom, sorry.
-/
import Derived.Test.YteokimhjojppcaaChecked
import GoSem.Claim
import GoSem.ClaimJoined
import GoSem.ClaimMapViews
import Derived.JoinedTies
import Derived.KernelRfl
namespace Go.Proofs.Yteokimhjojppcaa
/- THE CELL 'sum', in the pinned program and in every row, IS THE sha256 OF THE DUMP (.gsa) THAT YteokimhjojppcaaProg.lean LOADS. Nothing in Lean hashes anything: it is a label: what it is worth is what the hold of that sum in a sandbox is worth. -/
noncomputable def Try.pinned : Pinned := { name := "yteokimhjojppcaa", sum := "3765498ff3bd441319aff01f7ea5505f62351c1798a2e3654eca0eea20234be0", checked := Try.checked }
namespace Rows
def none {H : Type} : Left H := { results := [], args := [] }

/-- 'ancepslaw01.TextValid': WHATEVER THE INPUT: true; the input reads as it did. -/
def textValidSpec : ChangeSpec := { name := "textValid", fn := fun _ => fun
  | [d] => { results := [.lit (.bool true)], args := [d] }
  | _ => none }
def textValidRow : OpenClaim := { program := "yteokimhjojppcaa", sum := "3765498ff3bd441319aff01f7ea5505f62351c1798a2e3654eca0eea20234be0", func := "anceps/ancepslaw01.TextValid", spec := "textValid", inPlace := ["internal/bytealg.IndexByteString"], apart := false }
def TextValidSaid : Prop := textValidRow.holds Try.pinned (OpenSpec.ofChange textValidSpec)

/-- ITS FALSE NEIGHBOUR: 'it returns false'. Refute it at one input. -/
def textValidWrong : ChangeSpec := { name := "textValid", fn := fun _ => fun
  | [d] => { results := [.lit (.bool false)], args := [d] }
  | _ => none }
def TextValidWrongFalsely : Prop := textValidRow.holds Try.pinned (OpenSpec.ofChange textValidWrong)

/-- 'ancepslaw01.TextWords': WHATEVER THE INPUT: true; the input reads as it did. -/
def textWordsSpec : ChangeSpec := { name := "textWords", fn := fun _ => fun
  | [d] => { results := [.lit (.bool true)], args := [d] }
  | _ => none }
def textWordsRow : OpenClaim := { program := "yteokimhjojppcaa", sum := "3765498ff3bd441319aff01f7ea5505f62351c1798a2e3654eca0eea20234be0", func := "anceps/ancepslaw01.TextWords", spec := "textWords", inPlace := ["internal/bytealg.IndexByteString"], apart := false }
def TextWordsSaid : Prop := textWordsRow.holds Try.pinned (OpenSpec.ofChange textWordsSpec)

/-- ITS FALSE NEIGHBOUR: 'it returns false'. Refute it at one input. -/
def textWordsWrong : ChangeSpec := { name := "textWords", fn := fun _ => fun
  | [d] => { results := [.lit (.bool false)], args := [d] }
  | _ => none }
def TextWordsWrongFalsely : Prop := textWordsRow.holds Try.pinned (OpenSpec.ofChange textWordsWrong)

/-- 'ancepslaw01.TextWord': WHATEVER THE INPUT: true; the input reads as it did. -/
def textWordSpec : ChangeSpec := { name := "textWord", fn := fun _ => fun
  | [d1, d2] => { results := [.lit (.bool true)], args := [d1, d2] }
  | _ => none }
def textWordRow : OpenClaim := { program := "yteokimhjojppcaa", sum := "3765498ff3bd441319aff01f7ea5505f62351c1798a2e3654eca0eea20234be0", func := "anceps/ancepslaw01.TextWord", spec := "textWord", inPlace := ["internal/bytealg.IndexByteString"], apart := false }
def TextWordSaid : Prop := textWordRow.holds Try.pinned (OpenSpec.ofChange textWordSpec)

/-- ITS FALSE NEIGHBOUR: 'it returns false'. Refute it at one input. -/
def textWordWrong : ChangeSpec := { name := "textWord", fn := fun _ => fun
  | [d1, d2] => { results := [.lit (.bool false)], args := [d1, d2] }
  | _ => none }
def TextWordWrongFalsely : Prop := textWordRow.holds Try.pinned (OpenSpec.ofChange textWordWrong)

/-- 'ancepslaw01.TextFold': WHATEVER THE INPUT: true; the input reads as it did. -/
def textFoldSpec : ChangeSpec := { name := "textFold", fn := fun _ => fun
  | [d] => { results := [.lit (.bool true)], args := [d] }
  | _ => none }
def textFoldRow : OpenClaim := { program := "yteokimhjojppcaa", sum := "3765498ff3bd441319aff01f7ea5505f62351c1798a2e3654eca0eea20234be0", func := "anceps/ancepslaw01.TextFold", spec := "textFold", inPlace := ["internal/bytealg.IndexByteString"], apart := false }
def TextFoldSaid : Prop := textFoldRow.holds Try.pinned (OpenSpec.ofChange textFoldSpec)

/-- ITS FALSE NEIGHBOUR: 'it returns false'. Refute it at one input. -/
def textFoldWrong : ChangeSpec := { name := "textFold", fn := fun _ => fun
  | [d] => { results := [.lit (.bool false)], args := [d] }
  | _ => none }
def TextFoldWrongFalsely : Prop := textFoldRow.holds Try.pinned (OpenSpec.ofChange textFoldWrong)

/-- 'ancepslaw01.TextSame': WHATEVER THE INPUT: true; the input reads as it did. -/
def textSameSpec : ChangeSpec := { name := "textSame", fn := fun _ => fun
  | [d1, d2, d3] => { results := [.lit (.bool true)], args := [d1, d2, d3] }
  | _ => none }
def textSameRow : OpenClaim := { program := "yteokimhjojppcaa", sum := "3765498ff3bd441319aff01f7ea5505f62351c1798a2e3654eca0eea20234be0", func := "anceps/ancepslaw01.TextSame", spec := "textSame", inPlace := ["internal/bytealg.IndexByteString"], apart := false }
def TextSameSaid : Prop := textSameRow.holds Try.pinned (OpenSpec.ofChange textSameSpec)

/-- ITS FALSE NEIGHBOUR: 'it returns false'. Refute it at one input. -/
def textSameWrong : ChangeSpec := { name := "textSame", fn := fun _ => fun
  | [d1, d2, d3] => { results := [.lit (.bool false)], args := [d1, d2, d3] }
  | _ => none }
def TextSameWrongFalsely : Prop := textSameRow.holds Try.pinned (OpenSpec.ofChange textSameWrong)

/-- 'ancepslaw01.TextJoin': WHATEVER THE INPUT: true; the input reads as it did. -/
def textJoinSpec : ChangeSpec := { name := "textJoin", fn := fun _ => fun
  | [d] => { results := [.lit (.bool true)], args := [d] }
  | _ => none }
def textJoinRow : OpenClaim := { program := "yteokimhjojppcaa", sum := "3765498ff3bd441319aff01f7ea5505f62351c1798a2e3654eca0eea20234be0", func := "anceps/ancepslaw01.TextJoin", spec := "textJoin", inPlace := ["internal/bytealg.IndexByteString", "internal/abi.NoEscape", "internal/bytealg.MakeNoZero"], unfollowed := true, recurses := true, apart := false }
def TextJoinSaid : Prop := textJoinRow.holds Try.pinned (OpenSpec.ofChange textJoinSpec)

/-- ITS FALSE NEIGHBOUR: 'it returns false'. Refute it at one input. -/
def textJoinWrong : ChangeSpec := { name := "textJoin", fn := fun _ => fun
  | [d] => { results := [.lit (.bool false)], args := [d] }
  | _ => none }
def TextJoinWrongFalsely : Prop := textJoinRow.holds Try.pinned (OpenSpec.ofChange textJoinWrong)

/- THE SECOND FORM. 'bulk': how many values and letters a reading holds, each counted each time it is reached (what is shared counts as often as it is met; a slice's spare places count too). A statement '..UptoSaid' is the law's where the arguments, and the package variables that the reading takes, are together of bulk at most 1048576: NARROWER than '..Said'. Prove '..Said' where nothing that the law and all that it calls make is longer than what came in: it says more and counts as full. Else prove '..UptoSaid'. A law counts once. -/
mutual
def uptoBulk {H : Type} : DataW H → Nat
  | .lit (.string bytes) => bytes.length + 1
  | .lit _ => 1
  | .nil => 1
  | .ptr d => uptoBulk d + 1
  | .slice elems spare => uptoBulkAll elems + uptoBulkAll spare + 1
  | .agg parts => uptoBulkAll parts + 1
  | .iface _ d => uptoBulk d + 1
  | .map entries => uptoBulkEntries entries + 1
  | .held _ => 1
def uptoBulkAll {H : Type} : List (DataW H) → Nat
  | [] => 0
  | d :: r => uptoBulk d + uptoBulkAll r
def uptoBulkEntries {H : Type} : List (Lit × DataW H) → Nat
  | [] => 0
  | x :: r => uptoBulkEntry x + uptoBulkEntries r
def uptoBulkEntry {H : Type} : Lit × DataW H → Nat
  | (.string bytes, d) => bytes.length + uptoBulk d + 1
  | (_, d) => uptoBulk d + 1
 end
def uptoSmall : (H : Type) → List (DataW H) → Bool := fun _ ds => decide (uptoBulkAll ds ≤ 1048576)
def OpenSpec.upto (s : _root_.Go.ChangeSpec) : _root_.Go.OpenSpec := { _root_.Go.OpenSpec.ofChange s with cond := some uptoSmall }

/-- 'ancepslaw01.TextValid', WHERE WHAT IT READS IS OF BULK AT MOST 1048576: true; the input reads as it did. -/
def textValidUptoRow : OpenClaim := { program := "yteokimhjojppcaa", sum := "3765498ff3bd441319aff01f7ea5505f62351c1798a2e3654eca0eea20234be0", func := "anceps/ancepslaw01.TextValid", spec := "textValid", inPlace := ["internal/bytealg.IndexByteString"], apart := false, narrowed := true }
def TextValidUptoSaid : Prop := textValidUptoRow.holds Try.pinned (OpenSpec.upto textValidSpec)

/-- 'ancepslaw01.TextWords', WHERE WHAT IT READS IS OF BULK AT MOST 1048576: true; the input reads as it did. -/
def textWordsUptoRow : OpenClaim := { program := "yteokimhjojppcaa", sum := "3765498ff3bd441319aff01f7ea5505f62351c1798a2e3654eca0eea20234be0", func := "anceps/ancepslaw01.TextWords", spec := "textWords", inPlace := ["internal/bytealg.IndexByteString"], apart := false, narrowed := true }
def TextWordsUptoSaid : Prop := textWordsUptoRow.holds Try.pinned (OpenSpec.upto textWordsSpec)

/-- 'ancepslaw01.TextWord', WHERE WHAT IT READS IS OF BULK AT MOST 1048576: true; the input reads as it did. -/
def textWordUptoRow : OpenClaim := { program := "yteokimhjojppcaa", sum := "3765498ff3bd441319aff01f7ea5505f62351c1798a2e3654eca0eea20234be0", func := "anceps/ancepslaw01.TextWord", spec := "textWord", inPlace := ["internal/bytealg.IndexByteString"], apart := false, narrowed := true }
def TextWordUptoSaid : Prop := textWordUptoRow.holds Try.pinned (OpenSpec.upto textWordSpec)

/-- 'ancepslaw01.TextFold', WHERE WHAT IT READS IS OF BULK AT MOST 1048576: true; the input reads as it did. -/
def textFoldUptoRow : OpenClaim := { program := "yteokimhjojppcaa", sum := "3765498ff3bd441319aff01f7ea5505f62351c1798a2e3654eca0eea20234be0", func := "anceps/ancepslaw01.TextFold", spec := "textFold", inPlace := ["internal/bytealg.IndexByteString"], apart := false, narrowed := true }
def TextFoldUptoSaid : Prop := textFoldUptoRow.holds Try.pinned (OpenSpec.upto textFoldSpec)

/-- 'ancepslaw01.TextSame', WHERE WHAT IT READS IS OF BULK AT MOST 1048576: true; the input reads as it did. -/
def textSameUptoRow : OpenClaim := { program := "yteokimhjojppcaa", sum := "3765498ff3bd441319aff01f7ea5505f62351c1798a2e3654eca0eea20234be0", func := "anceps/ancepslaw01.TextSame", spec := "textSame", inPlace := ["internal/bytealg.IndexByteString"], apart := false, narrowed := true }
def TextSameUptoSaid : Prop := textSameUptoRow.holds Try.pinned (OpenSpec.upto textSameSpec)

/-- 'ancepslaw01.TextJoin', WHERE WHAT IT READS IS OF BULK AT MOST 1048576: true; the input reads as it did. -/
def textJoinUptoRow : OpenClaim := { program := "yteokimhjojppcaa", sum := "3765498ff3bd441319aff01f7ea5505f62351c1798a2e3654eca0eea20234be0", func := "anceps/ancepslaw01.TextJoin", spec := "textJoin", inPlace := ["internal/bytealg.IndexByteString", "internal/abi.NoEscape", "internal/bytealg.MakeNoZero"], unfollowed := true, recurses := true, apart := false, narrowed := true }
def TextJoinUptoSaid : Prop := textJoinUptoRow.holds Try.pinned (OpenSpec.upto textJoinSpec)

end Rows
end Go.Proofs.Yteokimhjojppcaa

/-
  No cell of these rows narrows 'for every input' (looked for: loops, veiled, ifaces, maps, wideKeys, modest, calm, conditions, laid).
  DERIVED. THE GIVEN ROWS OF THIS SEAT. 8 by the template 'for every input the law returns true; each argument reads behind the call as it read before'; 0 by the template 'total and deterministic' (their statements: YtnnonjjmlbemfaaTotals.lean).
  GIVEN WITH THE SEED: the statements are not yours to turn. If you find one false, say at which input.
  Laid BY PROGRAM, IN A SANDBOX (cutbox-rows.mjs): the forced cells as the released guide's own fill.sh prints them over the translation 7ac6a973738d368e… (all of the seat's roots in one cut). By AI agents, Wed Nov 11 2026. No macro, syntax, notation, axiom, sorry.
-/
import Derived.Test.YtnnonjjmlbemfaaChecked
import GoSem.Claim
import GoSem.ClaimJoined
import GoSem.ClaimMapViews
import Derived.JoinedTies
import Derived.KernelRfl
namespace Go.Proofs.Ytnnonjjmlbemfaa
/- THE CELL 'sum', in the pinned program and in every row, IS THE sha256 OF THE DUMP (.gsa) THAT YtnnonjjmlbemfaaProg.lean LOADS. Nothing in Lean hashes anything: it is a label: what it is worth is what the hold of that sum in a sandbox is worth. -/
noncomputable def Try.pinned : Pinned := { name := "ytnnonjjmlbemfaa", sum := "7ac6a973738d368ed92332be7b89a4cc26d83557468361350a6f25259ffd8b44", checked := Try.checked }
namespace Rows
def none {H : Type} : Left H := { results := [], args := [] }

/-- 'ancepslaw45.AlignSymmetric': WHATEVER THE INPUT: true; the input reads as it did. -/
def alignSymmetricSpec : ChangeSpec := { name := "alignSymmetric", fn := fun _ => fun
  | [d1, d2] => { results := [.lit (.bool true)], args := [d1, d2] }
  | _ => none }
def alignSymmetricRow : OpenClaim := { program := "ytnnonjjmlbemfaa", sum := "7ac6a973738d368ed92332be7b89a4cc26d83557468361350a6f25259ffd8b44", func := "anceps/ancepslaw45.AlignSymmetric", spec := "alignSymmetric", inPlace := ["internal/bytealg.IndexByteString", "internal/abi.NoEscape", "internal/bytealg.MakeNoZero"], unfollowed := true, recurses := true, plainKeys := false, apart := false }
def AlignSymmetricSaid : Prop := alignSymmetricRow.holds Try.pinned (OpenSpec.ofChange alignSymmetricSpec)

/-- ITS FALSE NEIGHBOUR: 'it returns false'. Refute it at one input. -/
def alignSymmetricWrong : ChangeSpec := { name := "alignSymmetric", fn := fun _ => fun
  | [d1, d2] => { results := [.lit (.bool false)], args := [d1, d2] }
  | _ => none }
def AlignSymmetricWrongFalsely : Prop := alignSymmetricRow.holds Try.pinned (OpenSpec.ofChange alignSymmetricWrong)

/-- 'ancepslaw45.AlignFront': WHATEVER THE INPUT: true; the input reads as it did. -/
def alignFrontSpec : ChangeSpec := { name := "alignFront", fn := fun _ => fun
  | [d1, d2, d3] => { results := [.lit (.bool true)], args := [d1, d2, d3] }
  | _ => none }
def alignFrontRow : OpenClaim := { program := "ytnnonjjmlbemfaa", sum := "7ac6a973738d368ed92332be7b89a4cc26d83557468361350a6f25259ffd8b44", func := "anceps/ancepslaw45.AlignFront", spec := "alignFront", inPlace := ["internal/bytealg.IndexByteString", "internal/abi.NoEscape", "internal/bytealg.MakeNoZero"], unfollowed := true, recurses := true, plainKeys := false, apart := false }
def AlignFrontSaid : Prop := alignFrontRow.holds Try.pinned (OpenSpec.ofChange alignFrontSpec)

/-- ITS FALSE NEIGHBOUR: 'it returns false'. Refute it at one input. -/
def alignFrontWrong : ChangeSpec := { name := "alignFront", fn := fun _ => fun
  | [d1, d2, d3] => { results := [.lit (.bool false)], args := [d1, d2, d3] }
  | _ => none }
def AlignFrontWrongFalsely : Prop := alignFrontRow.holds Try.pinned (OpenSpec.ofChange alignFrontWrong)

/-- 'ancepslaw45.AlignCheck': WHATEVER THE INPUT: true; the input reads as it did. -/
def alignCheckSpec : ChangeSpec := { name := "alignCheck", fn := fun _ => fun
  | [d1, d2, d3] => { results := [.lit (.bool true)], args := [d1, d2, d3] }
  | _ => none }
def alignCheckRow : OpenClaim := { program := "ytnnonjjmlbemfaa", sum := "7ac6a973738d368ed92332be7b89a4cc26d83557468361350a6f25259ffd8b44", func := "anceps/ancepslaw45.AlignCheck", spec := "alignCheck", inPlace := ["internal/bytealg.IndexByteString", "internal/abi.NoEscape", "internal/bytealg.MakeNoZero"], unfollowed := true, recurses := true, plainKeys := false, apart := false }
def AlignCheckSaid : Prop := alignCheckRow.holds Try.pinned (OpenSpec.ofChange alignCheckSpec)

/-- ITS FALSE NEIGHBOUR: 'it returns false'. Refute it at one input. -/
def alignCheckWrong : ChangeSpec := { name := "alignCheck", fn := fun _ => fun
  | [d1, d2, d3] => { results := [.lit (.bool false)], args := [d1, d2, d3] }
  | _ => none }
def AlignCheckWrongFalsely : Prop := alignCheckRow.holds Try.pinned (OpenSpec.ofChange alignCheckWrong)

/-- 'ancepslaw45.AlignPairs': WHATEVER THE INPUT: true; the input reads as it did. -/
def alignPairsSpec : ChangeSpec := { name := "alignPairs", fn := fun _ => fun
  | [d1, d2, d3] => { results := [.lit (.bool true)], args := [d1, d2, d3] }
  | _ => none }
def alignPairsRow : OpenClaim := { program := "ytnnonjjmlbemfaa", sum := "7ac6a973738d368ed92332be7b89a4cc26d83557468361350a6f25259ffd8b44", func := "anceps/ancepslaw45.AlignPairs", spec := "alignPairs", inPlace := ["internal/bytealg.IndexByteString", "internal/abi.NoEscape", "internal/bytealg.MakeNoZero"], unfollowed := true, recurses := true, plainKeys := false, apart := false }
def AlignPairsSaid : Prop := alignPairsRow.holds Try.pinned (OpenSpec.ofChange alignPairsSpec)

/-- ITS FALSE NEIGHBOUR: 'it returns false'. Refute it at one input. -/
def alignPairsWrong : ChangeSpec := { name := "alignPairs", fn := fun _ => fun
  | [d1, d2, d3] => { results := [.lit (.bool false)], args := [d1, d2, d3] }
  | _ => none }
def AlignPairsWrongFalsely : Prop := alignPairsRow.holds Try.pinned (OpenSpec.ofChange alignPairsWrong)

/-- 'ancepslaw45.AlignSwap': WHATEVER THE INPUT: true; the input reads as it did. -/
def alignSwapSpec : ChangeSpec := { name := "alignSwap", fn := fun _ => fun
  | [d1, d2, d3] => { results := [.lit (.bool true)], args := [d1, d2, d3] }
  | _ => none }
def alignSwapRow : OpenClaim := { program := "ytnnonjjmlbemfaa", sum := "7ac6a973738d368ed92332be7b89a4cc26d83557468361350a6f25259ffd8b44", func := "anceps/ancepslaw45.AlignSwap", spec := "alignSwap", inPlace := ["internal/bytealg.IndexByteString", "internal/abi.NoEscape", "internal/bytealg.MakeNoZero"], unfollowed := true, recurses := true, plainKeys := false, apart := false }
def AlignSwapSaid : Prop := alignSwapRow.holds Try.pinned (OpenSpec.ofChange alignSwapSpec)

/-- ITS FALSE NEIGHBOUR: 'it returns false'. Refute it at one input. -/
def alignSwapWrong : ChangeSpec := { name := "alignSwap", fn := fun _ => fun
  | [d1, d2, d3] => { results := [.lit (.bool false)], args := [d1, d2, d3] }
  | _ => none }
def AlignSwapWrongFalsely : Prop := alignSwapRow.holds Try.pinned (OpenSpec.ofChange alignSwapWrong)

/-- 'ancepslaw45.AlignBest': WHATEVER THE INPUT: true; the input reads as it did. -/
def alignBestSpec : ChangeSpec := { name := "alignBest", fn := fun _ => fun
  | [d1, d2] => { results := [.lit (.bool true)], args := [d1, d2] }
  | _ => none }
def alignBestRow : OpenClaim := { program := "ytnnonjjmlbemfaa", sum := "7ac6a973738d368ed92332be7b89a4cc26d83557468361350a6f25259ffd8b44", func := "anceps/ancepslaw45.AlignBest", spec := "alignBest", inPlace := ["internal/bytealg.IndexByteString", "internal/abi.NoEscape", "internal/bytealg.MakeNoZero"], unfollowed := true, recurses := true, plainKeys := false, apart := false }
def AlignBestSaid : Prop := alignBestRow.holds Try.pinned (OpenSpec.ofChange alignBestSpec)

/-- ITS FALSE NEIGHBOUR: 'it returns false'. Refute it at one input. -/
def alignBestWrong : ChangeSpec := { name := "alignBest", fn := fun _ => fun
  | [d1, d2] => { results := [.lit (.bool false)], args := [d1, d2] }
  | _ => none }
def AlignBestWrongFalsely : Prop := alignBestRow.holds Try.pinned (OpenSpec.ofChange alignBestWrong)

/-- 'ancepslaw45.AlignPotentials': WHATEVER THE INPUT: true; the input reads as it did. -/
def alignPotentialsSpec : ChangeSpec := { name := "alignPotentials", fn := fun _ => fun
  | [d1, d2] => { results := [.lit (.bool true)], args := [d1, d2] }
  | _ => none }
def alignPotentialsRow : OpenClaim := { program := "ytnnonjjmlbemfaa", sum := "7ac6a973738d368ed92332be7b89a4cc26d83557468361350a6f25259ffd8b44", func := "anceps/ancepslaw45.AlignPotentials", spec := "alignPotentials", inPlace := ["internal/bytealg.IndexByteString", "internal/abi.NoEscape", "internal/bytealg.MakeNoZero"], unfollowed := true, recurses := true, plainKeys := false, apart := false }
def AlignPotentialsSaid : Prop := alignPotentialsRow.holds Try.pinned (OpenSpec.ofChange alignPotentialsSpec)

/-- ITS FALSE NEIGHBOUR: 'it returns false'. Refute it at one input. -/
def alignPotentialsWrong : ChangeSpec := { name := "alignPotentials", fn := fun _ => fun
  | [d1, d2] => { results := [.lit (.bool false)], args := [d1, d2] }
  | _ => none }
def AlignPotentialsWrongFalsely : Prop := alignPotentialsRow.holds Try.pinned (OpenSpec.ofChange alignPotentialsWrong)

/-- 'ancepslaw45.AlignBound': WHATEVER THE INPUT: true; the input reads as it did. -/
def alignBoundSpec : ChangeSpec := { name := "alignBound", fn := fun _ => fun
  | [d1, d2, d3] => { results := [.lit (.bool true)], args := [d1, d2, d3] }
  | _ => none }
def alignBoundRow : OpenClaim := { program := "ytnnonjjmlbemfaa", sum := "7ac6a973738d368ed92332be7b89a4cc26d83557468361350a6f25259ffd8b44", func := "anceps/ancepslaw45.AlignBound", spec := "alignBound", inPlace := ["internal/bytealg.IndexByteString", "internal/abi.NoEscape", "internal/bytealg.MakeNoZero"], unfollowed := true, recurses := true, plainKeys := false, apart := false }
def AlignBoundSaid : Prop := alignBoundRow.holds Try.pinned (OpenSpec.ofChange alignBoundSpec)

/-- ITS FALSE NEIGHBOUR: 'it returns false'. Refute it at one input. -/
def alignBoundWrong : ChangeSpec := { name := "alignBound", fn := fun _ => fun
  | [d1, d2, d3] => { results := [.lit (.bool false)], args := [d1, d2, d3] }
  | _ => none }
def AlignBoundWrongFalsely : Prop := alignBoundRow.holds Try.pinned (OpenSpec.ofChange alignBoundWrong)

/- THE SECOND FORM. 'bulk': how many values and letters a reading holds, each counted each time it is reached (what is shared counts as often as it is met; a slice's spare places count too). A statement '..UptoSaid' is the law's where the arguments, and the package variables that the reading takes, are together of bulk at most 1048576: NARROWER than '..Said'. Prove '..Said' where nothing that the law and all that it calls make is longer than what came in: it says more and counts as full. Else prove '..UptoSaid'. A law counts once. -/
mutual
def uptoBulk {H : Type} : DataW H → Nat
  | .lit (.string bytes) => bytes.length + 1
  | .lit _ => 1
  | .nil => 1
  | .ptr d => uptoBulk d + 1
  | .slice elems spare => uptoBulkAll elems + uptoBulkAll spare + 1
  | .agg parts => uptoBulkAll parts + 1
  | .iface _ d => uptoBulk d + 1
  | .map entries => uptoBulkEntries entries + 1
  | .held _ => 1
def uptoBulkAll {H : Type} : List (DataW H) → Nat
  | [] => 0
  | d :: r => uptoBulk d + uptoBulkAll r
def uptoBulkEntries {H : Type} : List (Lit × DataW H) → Nat
  | [] => 0
  | x :: r => uptoBulkEntry x + uptoBulkEntries r
def uptoBulkEntry {H : Type} : Lit × DataW H → Nat
  | (.string bytes, d) => bytes.length + uptoBulk d + 1
  | (_, d) => uptoBulk d + 1
 end
def uptoSmall : (H : Type) → List (DataW H) → Bool := fun _ ds => decide (uptoBulkAll ds ≤ 1048576)
def OpenSpec.upto (s : _root_.Go.ChangeSpec) : _root_.Go.OpenSpec := { _root_.Go.OpenSpec.ofChange s with cond := some uptoSmall }

/-- 'ancepslaw45.AlignSymmetric', WHERE WHAT IT READS IS OF BULK AT MOST 1048576: true; the input reads as it did. -/
def alignSymmetricUptoRow : OpenClaim := { program := "ytnnonjjmlbemfaa", sum := "7ac6a973738d368ed92332be7b89a4cc26d83557468361350a6f25259ffd8b44", func := "anceps/ancepslaw45.AlignSymmetric", spec := "alignSymmetric", inPlace := ["internal/bytealg.IndexByteString", "internal/abi.NoEscape", "internal/bytealg.MakeNoZero"], unfollowed := true, recurses := true, plainKeys := false, apart := false, narrowed := true }
def AlignSymmetricUptoSaid : Prop := alignSymmetricUptoRow.holds Try.pinned (OpenSpec.upto alignSymmetricSpec)

/-- 'ancepslaw45.AlignFront', WHERE WHAT IT READS IS OF BULK AT MOST 1048576: true; the input reads as it did. -/
def alignFrontUptoRow : OpenClaim := { program := "ytnnonjjmlbemfaa", sum := "7ac6a973738d368ed92332be7b89a4cc26d83557468361350a6f25259ffd8b44", func := "anceps/ancepslaw45.AlignFront", spec := "alignFront", inPlace := ["internal/bytealg.IndexByteString", "internal/abi.NoEscape", "internal/bytealg.MakeNoZero"], unfollowed := true, recurses := true, plainKeys := false, apart := false, narrowed := true }
def AlignFrontUptoSaid : Prop := alignFrontUptoRow.holds Try.pinned (OpenSpec.upto alignFrontSpec)

/-- 'ancepslaw45.AlignCheck', WHERE WHAT IT READS IS OF BULK AT MOST 1048576: true; the input reads as it did. -/
def alignCheckUptoRow : OpenClaim := { program := "ytnnonjjmlbemfaa", sum := "7ac6a973738d368ed92332be7b89a4cc26d83557468361350a6f25259ffd8b44", func := "anceps/ancepslaw45.AlignCheck", spec := "alignCheck", inPlace := ["internal/bytealg.IndexByteString", "internal/abi.NoEscape", "internal/bytealg.MakeNoZero"], unfollowed := true, recurses := true, plainKeys := false, apart := false, narrowed := true }
def AlignCheckUptoSaid : Prop := alignCheckUptoRow.holds Try.pinned (OpenSpec.upto alignCheckSpec)

/-- 'ancepslaw45.AlignPairs', WHERE WHAT IT READS IS OF BULK AT MOST 1048576: true; the input reads as it did. -/
def alignPairsUptoRow : OpenClaim := { program := "ytnnonjjmlbemfaa", sum := "7ac6a973738d368ed92332be7b89a4cc26d83557468361350a6f25259ffd8b44", func := "anceps/ancepslaw45.AlignPairs", spec := "alignPairs", inPlace := ["internal/bytealg.IndexByteString", "internal/abi.NoEscape", "internal/bytealg.MakeNoZero"], unfollowed := true, recurses := true, plainKeys := false, apart := false, narrowed := true }
def AlignPairsUptoSaid : Prop := alignPairsUptoRow.holds Try.pinned (OpenSpec.upto alignPairsSpec)

/-- 'ancepslaw45.AlignSwap', WHERE WHAT IT READS IS OF BULK AT MOST 1048576: true; the input reads as it did. -/
def alignSwapUptoRow : OpenClaim := { program := "ytnnonjjmlbemfaa", sum := "7ac6a973738d368ed92332be7b89a4cc26d83557468361350a6f25259ffd8b44", func := "anceps/ancepslaw45.AlignSwap", spec := "alignSwap", inPlace := ["internal/bytealg.IndexByteString", "internal/abi.NoEscape", "internal/bytealg.MakeNoZero"], unfollowed := true, recurses := true, plainKeys := false, apart := false, narrowed := true }
def AlignSwapUptoSaid : Prop := alignSwapUptoRow.holds Try.pinned (OpenSpec.upto alignSwapSpec)

/-- 'ancepslaw45.AlignBest', WHERE WHAT IT READS IS OF BULK AT MOST 1048576: true; the input reads as it did. -/
def alignBestUptoRow : OpenClaim := { program := "ytnnonjjmlbemfaa", sum := "7ac6a973738d368ed92332be7b89a4cc26d83557468361350a6f25259ffd8b44", func := "anceps/ancepslaw45.AlignBest", spec := "alignBest", inPlace := ["internal/bytealg.IndexByteString", "internal/abi.NoEscape", "internal/bytealg.MakeNoZero"], unfollowed := true, recurses := true, plainKeys := false, apart := false, narrowed := true }
def AlignBestUptoSaid : Prop := alignBestUptoRow.holds Try.pinned (OpenSpec.upto alignBestSpec)

/-- 'ancepslaw45.AlignPotentials', WHERE WHAT IT READS IS OF BULK AT MOST 1048576: true; the input reads as it did. -/
def alignPotentialsUptoRow : OpenClaim := { program := "ytnnonjjmlbemfaa", sum := "7ac6a973738d368ed92332be7b89a4cc26d83557468361350a6f25259ffd8b44", func := "anceps/ancepslaw45.AlignPotentials", spec := "alignPotentials", inPlace := ["internal/bytealg.IndexByteString", "internal/abi.NoEscape", "internal/bytealg.MakeNoZero"], unfollowed := true, recurses := true, plainKeys := false, apart := false, narrowed := true }
def AlignPotentialsUptoSaid : Prop := alignPotentialsUptoRow.holds Try.pinned (OpenSpec.upto alignPotentialsSpec)

/-- 'ancepslaw45.AlignBound', WHERE WHAT IT READS IS OF BULK AT MOST 1048576: true; the input reads as it did. -/
def alignBoundUptoRow : OpenClaim := { program := "ytnnonjjmlbemfaa", sum := "7ac6a973738d368ed92332be7b89a4cc26d83557468361350a6f25259ffd8b44", func := "anceps/ancepslaw45.AlignBound", spec := "alignBound", inPlace := ["internal/bytealg.IndexByteString", "internal/abi.NoEscape", "internal/bytealg.MakeNoZero"], unfollowed := true, recurses := true, plainKeys := false, apart := false, narrowed := true }
def AlignBoundUptoSaid : Prop := alignBoundUptoRow.holds Try.pinned (OpenSpec.upto alignBoundSpec)

end Rows
end Go.Proofs.Ytnnonjjmlbemfaa

/-
  No cell of these rows narrows 'for every input' (looked for: loops, veiled, ifaces, maps, wideKeys, modest, calm, conditions, laid).
  DERIVED. THE GIVEN ROWS OF THIS SEAT. 6 by the template 'for every input the law returns true; each argument reads behind the call as it read before'; 0 by the template 'total and deterministic' (their statements: YtmjigfoldeekmaaTotals.lean).
  GIVEN WITH THE SEED: the statements are not yours to turn. If you find one false, say at which input.
  Laid BY PROGRAM, IN A SANDBOX (cutbox-rows.mjs): the forced cells as the released guide's own fill.sh prints them over the translation da9cdf39eb0d350a… (all of the seat's roots in one cut). By AI agents, Wed Nov 11 2026. No macro, syntax, notation, axiom, sorry.
-/
import Derived.Test.YtmjigfoldeekmaaChecked
import GoSem.Claim
import GoSem.ClaimJoined
import GoSem.ClaimMapViews
import Derived.JoinedTies
import Derived.KernelRfl
namespace Go.Proofs.Ytmjigfoldeekmaa
/- THE CELL 'sum', in the pinned program and in every row, IS THE sha256 OF THE DUMP (.gsa) THAT YtmjigfoldeekmaaProg.lean LOADS. Nothing in Lean hashes anything: it is a label: what it is worth is what the hold of that sum in a sandbox is worth. -/
noncomputable def Try.pinned : Pinned := { name := "ytmjigfoldeekmaa", sum := "da9cdf39eb0d350a3669c363ade330525604e4de149ddfc04b235ce567d8cad0", checked := Try.checked }
namespace Rows
def none {H : Type} : Left H := { results := [], args := [] }

/-- 'ancepslaw57.ApparatusWords': WHATEVER THE INPUT: true; the input reads as it did. -/
def apparatusWordsSpec : ChangeSpec := { name := "apparatusWords", fn := fun _ => fun
  | [d1, d2] => { results := [.lit (.bool true)], args := [d1, d2] }
  | _ => none }
def apparatusWordsRow : OpenClaim := { program := "ytmjigfoldeekmaa", sum := "da9cdf39eb0d350a3669c363ade330525604e4de149ddfc04b235ce567d8cad0", func := "anceps/ancepslaw57.ApparatusWords", spec := "apparatusWords", inPlace := ["internal/bytealg.IndexByteString"], unfollowed := true, recurses := true, apart := false }
def ApparatusWordsSaid : Prop := apparatusWordsRow.holds Try.pinned (OpenSpec.ofChange apparatusWordsSpec)

/-- ITS FALSE NEIGHBOUR: 'it returns false'. Refute it at one input. -/
def apparatusWordsWrong : ChangeSpec := { name := "apparatusWords", fn := fun _ => fun
  | [d1, d2] => { results := [.lit (.bool false)], args := [d1, d2] }
  | _ => none }
def ApparatusWordsWrongFalsely : Prop := apparatusWordsRow.holds Try.pinned (OpenSpec.ofChange apparatusWordsWrong)

/-- 'ancepslaw57.ApparatusCost': WHATEVER THE INPUT: true; the input reads as it did. -/
def apparatusCostSpec : ChangeSpec := { name := "apparatusCost", fn := fun _ => fun
  | [d1, d2] => { results := [.lit (.bool true)], args := [d1, d2] }
  | _ => none }
def apparatusCostRow : OpenClaim := { program := "ytmjigfoldeekmaa", sum := "da9cdf39eb0d350a3669c363ade330525604e4de149ddfc04b235ce567d8cad0", func := "anceps/ancepslaw57.ApparatusCost", spec := "apparatusCost", inPlace := ["internal/bytealg.IndexByteString"], unfollowed := true, recurses := true, apart := false }
def ApparatusCostSaid : Prop := apparatusCostRow.holds Try.pinned (OpenSpec.ofChange apparatusCostSpec)

/-- ITS FALSE NEIGHBOUR: 'it returns false'. Refute it at one input. -/
def apparatusCostWrong : ChangeSpec := { name := "apparatusCost", fn := fun _ => fun
  | [d1, d2] => { results := [.lit (.bool false)], args := [d1, d2] }
  | _ => none }
def ApparatusCostWrongFalsely : Prop := apparatusCostRow.holds Try.pinned (OpenSpec.ofChange apparatusCostWrong)

/-- 'ancepslaw57.ApparatusCollate': WHATEVER THE INPUT: true; the input reads as it did. -/
def apparatusCollateSpec : ChangeSpec := { name := "apparatusCollate", fn := fun _ => fun
  | [d1, d2] => { results := [.lit (.bool true)], args := [d1, d2] }
  | _ => none }
def apparatusCollateRow : OpenClaim := { program := "ytmjigfoldeekmaa", sum := "da9cdf39eb0d350a3669c363ade330525604e4de149ddfc04b235ce567d8cad0", func := "anceps/ancepslaw57.ApparatusCollate", spec := "apparatusCollate", inPlace := ["internal/bytealg.IndexByteString"], unfollowed := true, recurses := true, apart := false }
def ApparatusCollateSaid : Prop := apparatusCollateRow.holds Try.pinned (OpenSpec.ofChange apparatusCollateSpec)

/-- ITS FALSE NEIGHBOUR: 'it returns false'. Refute it at one input. -/
def apparatusCollateWrong : ChangeSpec := { name := "apparatusCollate", fn := fun _ => fun
  | [d1, d2] => { results := [.lit (.bool false)], args := [d1, d2] }
  | _ => none }
def ApparatusCollateWrongFalsely : Prop := apparatusCollateRow.holds Try.pinned (OpenSpec.ofChange apparatusCollateWrong)

/-- 'ancepslaw57.ApparatusGroups': WHATEVER THE INPUT: true; the input reads as it did. -/
def apparatusGroupsSpec : ChangeSpec := { name := "apparatusGroups", fn := fun _ => fun
  | [d] => { results := [.lit (.bool true)], args := [d] }
  | _ => none }
def apparatusGroupsRow : OpenClaim := { program := "ytmjigfoldeekmaa", sum := "da9cdf39eb0d350a3669c363ade330525604e4de149ddfc04b235ce567d8cad0", func := "anceps/ancepslaw57.ApparatusGroups", spec := "apparatusGroups", inPlace := ["internal/bytealg.IndexByteString"], unfollowed := true, recurses := true, apart := false }
def ApparatusGroupsSaid : Prop := apparatusGroupsRow.holds Try.pinned (OpenSpec.ofChange apparatusGroupsSpec)

/-- ITS FALSE NEIGHBOUR: 'it returns false'. Refute it at one input. -/
def apparatusGroupsWrong : ChangeSpec := { name := "apparatusGroups", fn := fun _ => fun
  | [d] => { results := [.lit (.bool false)], args := [d] }
  | _ => none }
def ApparatusGroupsWrongFalsely : Prop := apparatusGroupsRow.holds Try.pinned (OpenSpec.ofChange apparatusGroupsWrong)

/-- 'ancepslaw57.ApparatusChoose': WHATEVER THE INPUT: true; the input reads as it did. -/
def apparatusChooseSpec : ChangeSpec := { name := "apparatusChoose", fn := fun _ => fun
  | [d1, d2, d3] => { results := [.lit (.bool true)], args := [d1, d2, d3] }
  | _ => none }
def apparatusChooseRow : OpenClaim := { program := "ytmjigfoldeekmaa", sum := "da9cdf39eb0d350a3669c363ade330525604e4de149ddfc04b235ce567d8cad0", func := "anceps/ancepslaw57.ApparatusChoose", spec := "apparatusChoose", inPlace := ["internal/bytealg.IndexByteString"], unfollowed := true, recurses := true, apart := false }
def ApparatusChooseSaid : Prop := apparatusChooseRow.holds Try.pinned (OpenSpec.ofChange apparatusChooseSpec)

/-- ITS FALSE NEIGHBOUR: 'it returns false'. Refute it at one input. -/
def apparatusChooseWrong : ChangeSpec := { name := "apparatusChoose", fn := fun _ => fun
  | [d1, d2, d3] => { results := [.lit (.bool false)], args := [d1, d2, d3] }
  | _ => none }
def ApparatusChooseWrongFalsely : Prop := apparatusChooseRow.holds Try.pinned (OpenSpec.ofChange apparatusChooseWrong)

/-- 'ancepslaw57.ApparatusOf': WHATEVER THE INPUT: true; the input reads as it did. -/
def apparatusOfSpec : ChangeSpec := { name := "apparatusOf", fn := fun _ => fun
  | [d1, d2, d3] => { results := [.lit (.bool true)], args := [d1, d2, d3] }
  | _ => none }
def apparatusOfRow : OpenClaim := { program := "ytmjigfoldeekmaa", sum := "da9cdf39eb0d350a3669c363ade330525604e4de149ddfc04b235ce567d8cad0", func := "anceps/ancepslaw57.ApparatusOf", spec := "apparatusOf", inPlace := ["internal/bytealg.IndexByteString"], unfollowed := true, recurses := true, apart := false }
def ApparatusOfSaid : Prop := apparatusOfRow.holds Try.pinned (OpenSpec.ofChange apparatusOfSpec)

/-- ITS FALSE NEIGHBOUR: 'it returns false'. Refute it at one input. -/
def apparatusOfWrong : ChangeSpec := { name := "apparatusOf", fn := fun _ => fun
  | [d1, d2, d3] => { results := [.lit (.bool false)], args := [d1, d2, d3] }
  | _ => none }
def ApparatusOfWrongFalsely : Prop := apparatusOfRow.holds Try.pinned (OpenSpec.ofChange apparatusOfWrong)

/- THE SECOND FORM. 'bulk': how many values and letters a reading holds, each counted each time it is reached (what is shared counts as often as it is met; a slice's spare places count too). A statement '..UptoSaid' is the law's where the arguments, and the package variables that the reading takes, are together of bulk at most 1048576: NARROWER than '..Said'. Prove '..Said' where nothing that the law and all that it calls make is longer than what came in: it says more and counts as full. Else prove '..UptoSaid'. A law counts once. -/
mutual
def uptoBulk {H : Type} : DataW H → Nat
  | .lit (.string bytes) => bytes.length + 1
  | .lit _ => 1
  | .nil => 1
  | .ptr d => uptoBulk d + 1
  | .slice elems spare => uptoBulkAll elems + uptoBulkAll spare + 1
  | .agg parts => uptoBulkAll parts + 1
  | .iface _ d => uptoBulk d + 1
  | .map entries => uptoBulkEntries entries + 1
  | .held _ => 1
def uptoBulkAll {H : Type} : List (DataW H) → Nat
  | [] => 0
  | d :: r => uptoBulk d + uptoBulkAll r
def uptoBulkEntries {H : Type} : List (Lit × DataW H) → Nat
  | [] => 0
  | x :: r => uptoBulkEntry x + uptoBulkEntries r
def uptoBulkEntry {H : Type} : Lit × DataW H → Nat
  | (.string bytes, d) => bytes.length + uptoBulk d + 1
  | (_, d) => uptoBulk d + 1
 end
def uptoSmall : (H : Type) → List (DataW H) → Bool := fun _ ds => decide (uptoBulkAll ds ≤ 1048576)
def OpenSpec.upto (s : _root_.Go.ChangeSpec) : _root_.Go.OpenSpec := { _root_.Go.OpenSpec.ofChange s with cond := some uptoSmall }

/-- 'ancepslaw57.ApparatusWords', WHERE WHAT IT READS IS OF BULK AT MOST 1048576: true; the input reads as it did. -/
def apparatusWordsUptoRow : OpenClaim := { program := "ytmjigfoldeekmaa", sum := "da9cdf39eb0d350a3669c363ade330525604e4de149ddfc04b235ce567d8cad0", func := "anceps/ancepslaw57.ApparatusWords", spec := "apparatusWords", inPlace := ["internal/bytealg.IndexByteString"], unfollowed := true, recurses := true, apart := false, narrowed := true }
def ApparatusWordsUptoSaid : Prop := apparatusWordsUptoRow.holds Try.pinned (OpenSpec.upto apparatusWordsSpec)

/-- 'ancepslaw57.ApparatusCost', WHERE WHAT IT READS IS OF BULK AT MOST 1048576: true; the input reads as it did. -/
def apparatusCostUptoRow : OpenClaim := { program := "ytmjigfoldeekmaa", sum := "da9cdf39eb0d350a3669c363ade330525604e4de149ddfc04b235ce567d8cad0", func := "anceps/ancepslaw57.ApparatusCost", spec := "apparatusCost", inPlace := ["internal/bytealg.IndexByteString"], unfollowed := true, recurses := true, apart := false, narrowed := true }
def ApparatusCostUptoSaid : Prop := apparatusCostUptoRow.holds Try.pinned (OpenSpec.upto apparatusCostSpec)

/-- 'ancepslaw57.ApparatusCollate', WHERE WHAT IT READS IS OF BULK AT MOST 1048576: true; the input reads as it did. -/
def apparatusCollateUptoRow : OpenClaim := { program := "ytmjigfoldeekmaa", sum := "da9cdf39eb0d350a3669c363ade330525604e4de149ddfc04b235ce567d8cad0", func := "anceps/ancepslaw57.ApparatusCollate", spec := "apparatusCollate", inPlace := ["internal/bytealg.IndexByteString"], unfollowed := true, recurses := true, apart := false, narrowed := true }
def ApparatusCollateUptoSaid : Prop := apparatusCollateUptoRow.holds Try.pinned (OpenSpec.upto apparatusCollateSpec)

/-- 'ancepslaw57.ApparatusGroups', WHERE WHAT IT READS IS OF BULK AT MOST 1048576: true; the input reads as it did. -/
def apparatusGroupsUptoRow : OpenClaim := { program := "ytmjigfoldeekmaa", sum := "da9cdf39eb0d350a3669c363ade330525604e4de149ddfc04b235ce567d8cad0", func := "anceps/ancepslaw57.ApparatusGroups", spec := "apparatusGroups", inPlace := ["internal/bytealg.IndexByteString"], unfollowed := true, recurses := true, apart := false, narrowed := true }
def ApparatusGroupsUptoSaid : Prop := apparatusGroupsUptoRow.holds Try.pinned (OpenSpec.upto apparatusGroupsSpec)

/-- 'ancepslaw57.ApparatusChoose', WHERE WHAT IT READS IS OF BULK AT MOST 1048576: true; the input reads as it did. -/
def apparatusChooseUptoRow : OpenClaim := { program := "ytmjigfoldeekmaa", sum := "da9cdf39eb0d350a3669c363ade330525604e4de149ddfc04b235ce567d8cad0", func := "anceps/ancepslaw57.ApparatusChoose", spec := "apparatusChoose", inPlace := ["internal/bytealg.IndexByteString"], unfollowed := true, recurses := true, apart := false, narrowed := true }
def ApparatusChooseUptoSaid : Prop := apparatusChooseUptoRow.holds Try.pinned (OpenSpec.upto apparatusChooseSpec)

/-- 'ancepslaw57.ApparatusOf', WHERE WHAT IT READS IS OF BULK AT MOST 1048576: true; the input reads as it did. -/
def apparatusOfUptoRow : OpenClaim := { program := "ytmjigfoldeekmaa", sum := "da9cdf39eb0d350a3669c363ade330525604e4de149ddfc04b235ce567d8cad0", func := "anceps/ancepslaw57.ApparatusOf", spec := "apparatusOf", inPlace := ["internal/bytealg.IndexByteString"], unfollowed := true, recurses := true, apart := false, narrowed := true }
def ApparatusOfUptoSaid : Prop := apparatusOfUptoRow.holds Try.pinned (OpenSpec.upto apparatusOfSpec)

end Rows
end Go.Proofs.Ytmjigfoldeekmaa

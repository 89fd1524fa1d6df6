/-
  No cell of these rows narrows 'for every input' (looked for: loops, veiled, ifaces, maps, wideKeys, modest, calm, conditions, laid).
  DERIVED. THE GIVEN ROWS OF THIS SEAT. 5 by the template 'for every input the law returns true; each argument reads behind the call as it read before'; 0 by the template 'total and deterministic' (their statements: YtdaooagikacboaaTotals.lean).
  GIVEN WITH THE SEED: the statements are not yours to turn. If you find one false, say at which input.
  Laid BY PROGRAM, IN A SANDBOX (cutbox-rows.mjs): the forced cells as the released guide's own fill.sh prints them over the translation d0ac5de6abd47148… (all of the seat's roots in one cut). By AI agents, Wed Nov 11 2026. No macro, syntax, notation, axiom, sorry.
-/
import Derived.Test.YtdaooagikacboaaChecked
import GoSem.Claim
import GoSem.ClaimJoined
import GoSem.ClaimMapViews
import Derived.JoinedTies
import Derived.KernelRfl
namespace Go.Proofs.Ytdaooagikacboaa
/- THE CELL 'sum', in the pinned program and in every row, IS THE sha256 OF THE DUMP (.gsa) THAT YtdaooagikacboaaProg.lean LOADS. Nothing in Lean hashes anything: it is a label: what it is worth is what the hold of that sum in a sandbox is worth. -/
noncomputable def Try.pinned : Pinned := { name := "ytdaooagikacboaa", sum := "d0ac5de6abd47148da87538a807eb78e01033134f31ed7f30821dd66b88caa57", checked := Try.checked }
namespace Rows
def none {H : Type} : Left H := { results := [], args := [] }

/-- 'ancepslaw54.WordlistAll': WHATEVER THE INPUT: true; the input reads as it did. -/
def wordlistAllSpec : ChangeSpec := { name := "wordlistAll", fn := fun _ => fun
  | [d1, d2] => { results := [.lit (.bool true)], args := [d1, d2] }
  | _ => none }
def wordlistAllRow : OpenClaim := { program := "ytdaooagikacboaa", sum := "d0ac5de6abd47148da87538a807eb78e01033134f31ed7f30821dd66b88caa57", func := "anceps/ancepslaw54.WordlistAll", spec := "wordlistAll", inPlace := ["internal/bytealg.IndexByteString", "internal/bytealg.CountString", "internal/bytealg.IndexString"], unfollowed := true, recurses := true, named := ["internal/bytealg.MaxLen"], apart := false }
def WordlistAllSaid : Prop := wordlistAllRow.holds Try.pinned (OpenSpec.ofChange wordlistAllSpec)

/-- ITS FALSE NEIGHBOUR: 'it returns false'. Refute it at one input. -/
def wordlistAllWrong : ChangeSpec := { name := "wordlistAll", fn := fun _ => fun
  | [d1, d2] => { results := [.lit (.bool false)], args := [d1, d2] }
  | _ => none }
def WordlistAllWrongFalsely : Prop := wordlistAllRow.holds Try.pinned (OpenSpec.ofChange wordlistAllWrong)

/-- 'ancepslaw54.WordlistNext': WHATEVER THE INPUT: true; the input reads as it did. -/
def wordlistNextSpec : ChangeSpec := { name := "wordlistNext", fn := fun _ => fun
  | [d1, d2, d3] => { results := [.lit (.bool true)], args := [d1, d2, d3] }
  | _ => none }
def wordlistNextRow : OpenClaim := { program := "ytdaooagikacboaa", sum := "d0ac5de6abd47148da87538a807eb78e01033134f31ed7f30821dd66b88caa57", func := "anceps/ancepslaw54.WordlistNext", spec := "wordlistNext", inPlace := ["internal/bytealg.IndexByteString", "internal/bytealg.CountString", "internal/bytealg.IndexString"], unfollowed := true, recurses := true, named := ["internal/bytealg.MaxLen"], apart := false }
def WordlistNextSaid : Prop := wordlistNextRow.holds Try.pinned (OpenSpec.ofChange wordlistNextSpec)

/-- ITS FALSE NEIGHBOUR: 'it returns false'. Refute it at one input. -/
def wordlistNextWrong : ChangeSpec := { name := "wordlistNext", fn := fun _ => fun
  | [d1, d2, d3] => { results := [.lit (.bool false)], args := [d1, d2, d3] }
  | _ => none }
def WordlistNextWrongFalsely : Prop := wordlistNextRow.holds Try.pinned (OpenSpec.ofChange wordlistNextWrong)

/-- 'ancepslaw54.WordlistTree': WHATEVER THE INPUT: true; the input reads as it did. -/
def wordlistTreeSpec : ChangeSpec := { name := "wordlistTree", fn := fun _ => fun
  | [d] => { results := [.lit (.bool true)], args := [d] }
  | _ => none }
def wordlistTreeRow : OpenClaim := { program := "ytdaooagikacboaa", sum := "d0ac5de6abd47148da87538a807eb78e01033134f31ed7f30821dd66b88caa57", func := "anceps/ancepslaw54.WordlistTree", spec := "wordlistTree", inPlace := ["internal/bytealg.IndexByteString", "internal/bytealg.CountString", "internal/bytealg.IndexString"], unfollowed := true, recurses := true, named := ["internal/bytealg.MaxLen"], apart := false }
def WordlistTreeSaid : Prop := wordlistTreeRow.holds Try.pinned (OpenSpec.ofChange wordlistTreeSpec)

/-- ITS FALSE NEIGHBOUR: 'it returns false'. Refute it at one input. -/
def wordlistTreeWrong : ChangeSpec := { name := "wordlistTree", fn := fun _ => fun
  | [d] => { results := [.lit (.bool false)], args := [d] }
  | _ => none }
def WordlistTreeWrongFalsely : Prop := wordlistTreeRow.holds Try.pinned (OpenSpec.ofChange wordlistTreeWrong)

/-- 'ancepslaw54.WordlistChecks': WHATEVER THE INPUT: true; the input reads as it did. -/
def wordlistChecksSpec : ChangeSpec := { name := "wordlistChecks", fn := fun _ => fun
  | [d1, d2] => { results := [.lit (.bool true)], args := [d1, d2] }
  | _ => none }
def wordlistChecksRow : OpenClaim := { program := "ytdaooagikacboaa", sum := "d0ac5de6abd47148da87538a807eb78e01033134f31ed7f30821dd66b88caa57", func := "anceps/ancepslaw54.WordlistChecks", spec := "wordlistChecks", inPlace := ["internal/bytealg.IndexByteString", "internal/bytealg.CountString", "internal/bytealg.IndexString"], unfollowed := true, recurses := true, named := ["internal/bytealg.MaxLen"], apart := false }
def WordlistChecksSaid : Prop := wordlistChecksRow.holds Try.pinned (OpenSpec.ofChange wordlistChecksSpec)

/-- ITS FALSE NEIGHBOUR: 'it returns false'. Refute it at one input. -/
def wordlistChecksWrong : ChangeSpec := { name := "wordlistChecks", fn := fun _ => fun
  | [d1, d2] => { results := [.lit (.bool false)], args := [d1, d2] }
  | _ => none }
def WordlistChecksWrongFalsely : Prop := wordlistChecksRow.holds Try.pinned (OpenSpec.ofChange wordlistChecksWrong)

/-- 'ancepslaw54.WordlistChanges': WHATEVER THE INPUT: true; the input reads as it did. -/
def wordlistChangesSpec : ChangeSpec := { name := "wordlistChanges", fn := fun _ => fun
  | [d1, d2] => { results := [.lit (.bool true)], args := [d1, d2] }
  | _ => none }
def wordlistChangesRow : OpenClaim := { program := "ytdaooagikacboaa", sum := "d0ac5de6abd47148da87538a807eb78e01033134f31ed7f30821dd66b88caa57", func := "anceps/ancepslaw54.WordlistChanges", spec := "wordlistChanges", inPlace := ["internal/bytealg.IndexByteString", "internal/bytealg.CountString", "internal/bytealg.IndexString", "slices.overlaps[string]"], unfollowed := true, recurses := true, named := ["internal/bytealg.MaxLen"], apart := false }
def WordlistChangesSaid : Prop := wordlistChangesRow.holds Try.pinned (OpenSpec.ofChange wordlistChangesSpec)

/-- ITS FALSE NEIGHBOUR: 'it returns false'. Refute it at one input. -/
def wordlistChangesWrong : ChangeSpec := { name := "wordlistChanges", fn := fun _ => fun
  | [d1, d2] => { results := [.lit (.bool false)], args := [d1, d2] }
  | _ => none }
def WordlistChangesWrongFalsely : Prop := wordlistChangesRow.holds Try.pinned (OpenSpec.ofChange wordlistChangesWrong)

/- THE SECOND FORM. 'bulk': how many values and letters a reading holds, each counted each time it is reached (what is shared counts as often as it is met; a slice's spare places count too). A statement '..UptoSaid' is the law's where the arguments, and the package variables that the reading takes, are together of bulk at most 1048576: NARROWER than '..Said'. Prove '..Said' where nothing that the law and all that it calls make is longer than what came in: it says more and counts as full. Else prove '..UptoSaid'. A law counts once. -/
mutual
def uptoBulk {H : Type} : DataW H → Nat
  | .lit (.string bytes) => bytes.length + 1
  | .lit _ => 1
  | .nil => 1
  | .ptr d => uptoBulk d + 1
  | .slice elems spare => uptoBulkAll elems + uptoBulkAll spare + 1
  | .agg parts => uptoBulkAll parts + 1
  | .iface _ d => uptoBulk d + 1
  | .map entries => uptoBulkEntries entries + 1
  | .held _ => 1
def uptoBulkAll {H : Type} : List (DataW H) → Nat
  | [] => 0
  | d :: r => uptoBulk d + uptoBulkAll r
def uptoBulkEntries {H : Type} : List (Lit × DataW H) → Nat
  | [] => 0
  | x :: r => uptoBulkEntry x + uptoBulkEntries r
def uptoBulkEntry {H : Type} : Lit × DataW H → Nat
  | (.string bytes, d) => bytes.length + uptoBulk d + 1
  | (_, d) => uptoBulk d + 1
 end
def uptoSmall : (H : Type) → List (DataW H) → Bool := fun _ ds => decide (uptoBulkAll ds ≤ 1048576)
def OpenSpec.upto (s : _root_.Go.ChangeSpec) : _root_.Go.OpenSpec := { _root_.Go.OpenSpec.ofChange s with cond := some uptoSmall }

/-- 'ancepslaw54.WordlistAll', WHERE WHAT IT READS IS OF BULK AT MOST 1048576: true; the input reads as it did. -/
def wordlistAllUptoRow : OpenClaim := { program := "ytdaooagikacboaa", sum := "d0ac5de6abd47148da87538a807eb78e01033134f31ed7f30821dd66b88caa57", func := "anceps/ancepslaw54.WordlistAll", spec := "wordlistAll", inPlace := ["internal/bytealg.IndexByteString", "internal/bytealg.CountString", "internal/bytealg.IndexString"], unfollowed := true, recurses := true, named := ["internal/bytealg.MaxLen"], apart := false, narrowed := true }
def WordlistAllUptoSaid : Prop := wordlistAllUptoRow.holds Try.pinned (OpenSpec.upto wordlistAllSpec)

/-- 'ancepslaw54.WordlistNext', WHERE WHAT IT READS IS OF BULK AT MOST 1048576: true; the input reads as it did. -/
def wordlistNextUptoRow : OpenClaim := { program := "ytdaooagikacboaa", sum := "d0ac5de6abd47148da87538a807eb78e01033134f31ed7f30821dd66b88caa57", func := "anceps/ancepslaw54.WordlistNext", spec := "wordlistNext", inPlace := ["internal/bytealg.IndexByteString", "internal/bytealg.CountString", "internal/bytealg.IndexString"], unfollowed := true, recurses := true, named := ["internal/bytealg.MaxLen"], apart := false, narrowed := true }
def WordlistNextUptoSaid : Prop := wordlistNextUptoRow.holds Try.pinned (OpenSpec.upto wordlistNextSpec)

/-- 'ancepslaw54.WordlistTree', WHERE WHAT IT READS IS OF BULK AT MOST 1048576: true; the input reads as it did. -/
def wordlistTreeUptoRow : OpenClaim := { program := "ytdaooagikacboaa", sum := "d0ac5de6abd47148da87538a807eb78e01033134f31ed7f30821dd66b88caa57", func := "anceps/ancepslaw54.WordlistTree", spec := "wordlistTree", inPlace := ["internal/bytealg.IndexByteString", "internal/bytealg.CountString", "internal/bytealg.IndexString"], unfollowed := true, recurses := true, named := ["internal/bytealg.MaxLen"], apart := false, narrowed := true }
def WordlistTreeUptoSaid : Prop := wordlistTreeUptoRow.holds Try.pinned (OpenSpec.upto wordlistTreeSpec)

/-- 'ancepslaw54.WordlistChecks', WHERE WHAT IT READS IS OF BULK AT MOST 1048576: true; the input reads as it did. -/
def wordlistChecksUptoRow : OpenClaim := { program := "ytdaooagikacboaa", sum := "d0ac5de6abd47148da87538a807eb78e01033134f31ed7f30821dd66b88caa57", func := "anceps/ancepslaw54.WordlistChecks", spec := "wordlistChecks", inPlace := ["internal/bytealg.IndexByteString", "internal/bytealg.CountString", "internal/bytealg.IndexString"], unfollowed := true, recurses := true, named := ["internal/bytealg.MaxLen"], apart := false, narrowed := true }
def WordlistChecksUptoSaid : Prop := wordlistChecksUptoRow.holds Try.pinned (OpenSpec.upto wordlistChecksSpec)

/-- 'ancepslaw54.WordlistChanges', WHERE WHAT IT READS IS OF BULK AT MOST 1048576: true; the input reads as it did. -/
def wordlistChangesUptoRow : OpenClaim := { program := "ytdaooagikacboaa", sum := "d0ac5de6abd47148da87538a807eb78e01033134f31ed7f30821dd66b88caa57", func := "anceps/ancepslaw54.WordlistChanges", spec := "wordlistChanges", inPlace := ["internal/bytealg.IndexByteString", "internal/bytealg.CountString", "internal/bytealg.IndexString", "slices.overlaps[string]"], unfollowed := true, recurses := true, named := ["internal/bytealg.MaxLen"], apart := false, narrowed := true }
def WordlistChangesUptoSaid : Prop := wordlistChangesUptoRow.holds Try.pinned (OpenSpec.upto wordlistChangesSpec)

end Rows
end Go.Proofs.Ytdaooagikacboaa

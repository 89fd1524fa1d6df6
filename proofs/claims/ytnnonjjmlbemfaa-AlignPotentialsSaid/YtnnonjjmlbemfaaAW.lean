/- The chapter's examples hold; the guard on lengths. -/
import Derived.Test.YtnnonjjmlbemfaaA0
import Derived.Test.YtnnonjjmlbemfaaX8
set_option linter.unusedVariables false
namespace Go.Proofs.Ytnnonjjmlbemfaa.Lem
open Go.RowKit Go.Proofs.Ytnnonjjmlbemfaa.X Go.Proofs.Ytnnonjjmlbemfaa.Al Go.Proofs.YtnnonjjmlbemfaaW.PrintWords Go.Proofs.YtnnonjjmlbemfaaW.PrintLast
theorem awake_ev : Ev (fun k => ancepslaw45_awake.f k) true := Ev.of (fun k => ancepslaw45_awake.mono k) (k := 300) (by kernel_rfl)
theorem short_f (p q : ByteArray) : ∃ b, ancepslaw45_short.f p q = some b := by
  unfold ancepslaw45_short.f
  split <;> exact ⟨_, rfl⟩
end Go.Proofs.Ytnnonjjmlbemfaa.Lem

/- The chapter's examples; Distance in plain words. -/
import Derived.Test.YtnnonjjmlbemfaaA2
import Derived.Test.YtnnonjjmlbemfaaX6
import Derived.Test.YtnnonjjmlbemfaaX8
set_option linter.unusedVariables false
namespace Go.Proofs.Ytnnonjjmlbemfaa.Lem
open Go.RowKit Go.Proofs.Ytnnonjjmlbemfaa.X Go.Proofs.Ytnnonjjmlbemfaa.Al Go.Proofs.YtnnonjjmlbemfaaW.PrintWords Go.Proofs.YtnnonjjmlbemfaaW.PrintLast
theorem awake_ev : Ev (fun k => ancepslaw45_awake.f k) true := Ev.of (fun k => ancepslaw45_awake.mono k) (k := 300) (by kernel_rfl)
theorem dist_ok {p q : ByteArray} (G : Gv p q) : Ev (fun k => align_Distance.f k p q) (D (bytesOf p) (bytesOf q), 0) := by
  obtain ⟨l, h1, h2⟩ := bs_of G
  unfold align_Distance.f
  exact Ev.bind (best_f G h1 h2) (Ev.now _)
theorem dist_no {p q : ByteArray} (h : ¬ givS p q = 0) : Ev (fun k => align_Distance.f k p q) (0, givS p q) := by
  unfold align_Distance.f
  exact Ev.bind (best_no h) (Ev.now _)
theorem short_f (p q : ByteArray) : ∃ b, ancepslaw45_short.f p q = some b := by
  unfold ancepslaw45_short.f
  split <;> exact ⟨_, rfl⟩
end Go.Proofs.Ytnnonjjmlbemfaa.Lem

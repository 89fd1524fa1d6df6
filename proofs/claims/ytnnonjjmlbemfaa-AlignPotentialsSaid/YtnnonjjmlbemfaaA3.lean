/- The chapter's examples; Distance in plain words. -/
import Derived.Test.YtnnonjjmlbemfaaA2
import Derived.Test.YtnnonjjmlbemfaaX6
import Derived.Test.YtnnonjjmlbemfaaAW
set_option linter.unusedVariables false
namespace Go.Proofs.Ytnnonjjmlbemfaa.Lem
open Go.RowKit Go.Proofs.Ytnnonjjmlbemfaa.X Go.Proofs.Ytnnonjjmlbemfaa.Al Go.Proofs.YtnnonjjmlbemfaaW.PrintWords Go.Proofs.YtnnonjjmlbemfaaW.PrintLast
theorem dist_ok {p q : ByteArray} (G : Gv p q) : Ev (fun k => align_Distance.f k p q) (D (bytesOf p) (bytesOf q), 0) := by
  obtain ⟨l, h1, h2⟩ := bs_of G
  unfold align_Distance.f
  exact Ev.bind (best_f G h1 h2) (Ev.now _)
theorem dist_no {p q : ByteArray} (h : ¬ givS p q = 0) : Ev (fun k => align_Distance.f k p q) (0, givS p q) := by
  unfold align_Distance.f
  exact Ev.bind (best_no h) (Ev.now _)
end Go.Proofs.Ytnnonjjmlbemfaa.Lem

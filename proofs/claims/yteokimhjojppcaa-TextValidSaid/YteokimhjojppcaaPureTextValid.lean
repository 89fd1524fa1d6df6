/- Valid of package text returns the error of any line that the reference's Valid returns (lines of more than 500 bytes are left out by the law's own guard). -/
import Derived.Test.YteokimhjojppcaaLem
namespace Go.Proofs.Yteokimhjojppcaa.Pure
open Go.RowKit Go.Proofs.Yteokimhjojppcaa.X Go.Proofs.Yteokimhjojppcaa.Lem Go.Proofs.YteokimhjojppcaaW.PrintWords Go.Proofs.YteokimhjojppcaaW.PrintLast
theorem TextValid : ancepslaw01_TextValid.Pure := by
  intro s hs
  refine Ev.rounds ?_
  unfold ancepslaw01_TextValid.f
  refine Ev.bind awake_ev (Ev.pos rfl (Ev.step (fun k => rfl) ?_))
  by_cases h : (s.size : Int) > 500
  · exact Ev.pos (by simpa using h) (Ev.bind awake_ev (Ev.val rfl))
  · exact Ev.neg (by simpa using h) (Ev.bind (valid_ev s (by omega)) (Ev.bind (rvalid_ev s (by omega)) (Ev.val (by simp))))
end Go.Proofs.Yteokimhjojppcaa.Pure

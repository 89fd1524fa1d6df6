/- Fold of package text gives what the reference's Fold gives, of any string of up to 500 bytes (longer ones are left out by the law's own guard); folded again it remains as it is, and its length stays. -/
import Derived.Test.YteokimhjojppcaaLemB
namespace Go.Proofs.Yteokimhjojppcaa.Pure
open Go.RowKit Go.Proofs.Yteokimhjojppcaa.X Go.Proofs.Yteokimhjojppcaa.Lem Go.Proofs.YteokimhjojppcaaW.PrintWords Go.Proofs.YteokimhjojppcaaW.PrintLast
theorem TextFold : ancepslaw01_TextFold.Pure := by
  intro s hs
  refine Ev.rounds ?_
  unfold ancepslaw01_TextFold.f
  refine Ev.bind awake_ev (Ev.pos rfl (Ev.step (fun k => rfl) ?_))
  by_cases h : (s.size : Int) > 500
  · exact Ev.pos (by simpa using h) (Ev.bind awake_ev (Ev.val rfl))
  · refine Ev.neg (by simpa using h) (Ev.bind (fold_ev s (by omega)) (Ev.bind (rfold_ev s (by omega)) (Ev.pos rfl (Ev.bind (fold_ev _ (by rw [foldS_size]; omega)) (Ev.pos (by rw [foldS_foldS]) (Ev.val ?_))))))
    rw [foldS_size]; simp
end Go.Proofs.Yteokimhjojppcaa.Pure

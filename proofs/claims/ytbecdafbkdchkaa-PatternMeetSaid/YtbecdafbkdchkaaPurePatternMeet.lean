/- Match, Meet and Join of package pattern answer as the reference's do, of any two strings of up to 300 bytes (longer ones are left out by the law's own guard). -/
import Derived.Test.YtbecdafbkdchkaaP1
import Derived.Test.YtbecdafbkdchkaaX6
namespace Go.Proofs.Ytbecdafbkdchkaa.Pure
open Go.RowKit Go.Proofs.Ytbecdafbkdchkaa.X Go.Proofs.Ytbecdafbkdchkaa.Lem Go.Proofs.YtbecdafbkdchkaaW.PrintWords Go.Proofs.YtbecdafbkdchkaaW.PrintLast
theorem PatternMeet : ancepslaw04_PatternMeet.Pure := by
  intro p q hp hq
  refine Ev.rounds ?_
  unfold ancepslaw04_PatternMeet.f
  have all : ∀ b, Ev (fun k => ancepslaw04_PatternMeet.j0 k p q b) true := fun b => by
    refine Ev.step (fun k => rfl) (Ev.cond (fun h => Ev.bind awake_ev (Ev.now _)) (fun h => ?_))
    exact Ev.bind (meet_ev p q) (Ev.bind (rmeet_ev p q) (Ev.bind (join_ev p q) (Ev.bind (rjoin_ev p q) (Ev.bind (match_ev p q) (Ev.bind (rmatch_ev p q) (Ev.pos (by simp) (Ev.pos rfl (Ev.pos rfl (Ev.pos rfl (Ev.val (by simp)))))))))))
  exact Ev.bind awake_ev (Ev.pos rfl (Ev.cond (fun h => all true) (fun h => all _)))
end Go.Proofs.Ytbecdafbkdchkaa.Pure

/- Valid gives the error of any sound as the reference does, Nucleus whether it is a nucleus. -/
import Derived.Test.YtnjiniegpjfemaaDoorS1
import Derived.Test.YtnjiniegpjfemaaDoorX8
namespace Go.Proofs.YtnjiniegpjfemaaDoor.Pure
open Go.RowKit Go.Proofs.YtnjiniegpjfemaaDoor.X Go.Proofs.YtnjiniegpjfemaaDoor.Lem Go.Proofs.YtnjiniegpjfemaaDoorW.PrintWords Go.Proofs.YtnjiniegpjfemaaDoorW.PrintLast
theorem SoundValid : ancepslaw11_SoundValid.Pure := by
  intro a b t _ _ _
  refine Ev.rounds ?_
  unfold ancepslaw11_SoundValid.f
  obtain ⟨r, h1, _⟩ := few_ev [⟨a, b, t⟩] 1 (by omega)
  refine Ev.bind awake_ev (Ev.pos rfl (Ev.bind h1 (Ev.step (fun k => rfl) (Ev.cond (fun _ => Ev.bind awake_ev (Ev.now _)) (fun _ => ?_)))))
  refine Ev.bind (valid_ev a b t) (Ev.bind (rValid_ev a b t) (Ev.pos rfl (Ev.bind (Ev.now' (nucleus_f a b t)) (Ev.bind (Ev.now' (rNucleus_f a b t)) (Ev.val (by simp))))))
end Go.Proofs.YtnjiniegpjfemaaDoor.Pure

/- Same of package text reports what the reference's Same reports, of any strings of up to 500 bytes (longer ones are left out by the law's own guard); it is symmetric and transitive, and true of a string and itself exactly if that is a line. -/
import Derived.Test.YteokimhjojppcaaLemD
namespace Go.Proofs.Yteokimhjojppcaa.Pure
open Go.RowKit Go.Proofs.Yteokimhjojppcaa.X Go.Proofs.Yteokimhjojppcaa.Lem Go.Proofs.YteokimhjojppcaaW.PrintWords Go.Proofs.YteokimhjojppcaaW.PrintLast
theorem TextSame : ancepslaw01_TextSame.Pure := by
  intro a b c ha hb hc
  refine Ev.rounds ?_
  unfold ancepslaw01_TextSame.f
  refine Ev.bind awake_ev (Ev.pos rfl ?_)
  by_cases h1 : (a.size : Int) > 500
  · refine Ev.pos h1 (Ev.step (fun k => ancepslaw01_TextSame.j0.eq_2 _ _ _ _ _) ?_)
    exact Ev.pos rfl (Ev.bind awake_ev (Ev.val rfl))
  refine Ev.neg h1 ?_
  by_cases h2 : (b.size : Int) > 500
  · refine Ev.pos h2 (Ev.step (fun k => ancepslaw01_TextSame.j0.eq_2 _ _ _ _ _) ?_)
    exact Ev.pos rfl (Ev.bind awake_ev (Ev.val rfl))
  refine Ev.neg h2 (Ev.step (fun k => rfl) ?_)
  by_cases h3 : (c.size : Int) > 500
  · exact Ev.pos (by simpa using h3) (Ev.bind awake_ev (Ev.val rfl))
  refine Ev.neg (by simpa using h3) ?_
  refine Ev.bind (same_ev a b (by omega) (by omega)) (Ev.bind (same_ev b c (by omega) (by omega)) (Ev.bind (same_ev a c (by omega) (by omega)) (Ev.bind (rsame_ev a b (by omega) (by omega)) (Ev.neg (by simp) (Ev.bind (same_ev b a (by omega) (by omega)) (Ev.neg (by rw [sameS_symm a b]; simp) (Ev.bind (same_ev a a (by omega) (by omega)) (Ev.bind (rvalid_ev a (by omega)) (Ev.neg (by rw [sameS_self]; simp) ?_)))))))))
  by_cases p1 : sameS a b = true
  · refine Ev.pos p1 ?_
    by_cases p2 : sameS b c = true
    · exact Ev.pos p2 (Ev.val (sameS_trans p1 p2))
    · exact Ev.neg p2 (Ev.val rfl)
  · exact Ev.neg p1 (Ev.val rfl)
end Go.Proofs.Yteokimhjojppcaa.Pure

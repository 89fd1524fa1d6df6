/- Words of package text returns the spans (or the error) that the reference's Words returns, of any line of up to 500 bytes (longer ones are left out by the law's own guard); the spans are not empty, ascend, and do not touch one another. -/
import Derived.Test.YteokimhjojppcaaLemC
namespace Go.Proofs.Yteokimhjojppcaa.Pure
open Go.RowKit Go.Proofs.Yteokimhjojppcaa.X Go.Proofs.Yteokimhjojppcaa.Lem Go.Proofs.YteokimhjojppcaaW.PrintWords Go.Proofs.YteokimhjojppcaaW.PrintLast
theorem asc_loop (l : List S31) (hl : l.length ≤ 1000000) (he : ∀ x ∈ l, x.f0 < x.f1) (hs : ∀ j, j + 1 < l.length → (l.getD j z31).f1 < (l.getD (j + 1) z31).f0) (d : Nat) : ∀ i : Nat, i + d = l.length → Ev (fun k => ancepslaw01_TextWords.l0 k l l (l.length : Int) (i : Int)) true := by
  induction d with
  | zero => intro i hi; exact Ev.step (fun k => rfl) (Ev.neg (by omega) (Ev.val rfl))
  | succ d ih =>
    intro i hi
    have h1 := he _ (getD_mem (show i < l.length by omega))
    have := ih (i + 1) (by omega)
    refine Ev.step (fun k => rfl) (Ev.pos (by omega) (Ev.pos (by omega) (Ev.pos (by omega) (Ev.neg (by rw [rd_T31_nat]; omega) ?_))))
    rw [w64 (i := (i : Int) + 1) (by omega) (by omega)]
    by_cases hz : 0 < i
    · refine Ev.pos (by omega) ?_
      rw [w64 (i := (i : Int) - 1) (by omega) (by omega), show (i : Int) - 1 = ((i - 1 : Nat) : Int) by omega, rd_T31_nat, rd_T31_nat]
      have h2 := hs (i - 1) (by omega)
      rw [show i - 1 + 1 = i by omega] at h2
      exact Ev.pos (by omega) (Ev.pos (by omega) (Ev.neg (by omega) this))
    · exact Ev.neg (by omega) this
theorem TextWords : ancepslaw01_TextWords.Pure := by
  intro s hs
  refine Ev.rounds ?_
  unfold ancepslaw01_TextWords.f
  refine Ev.bind awake_ev (Ev.pos rfl (Ev.step (fun k => rfl) ?_))
  by_cases h : (s.size : Int) > 500
  · exact Ev.pos (by simpa using h) (Ev.bind awake_ev (Ev.val rfl))
  · have hl := wordsS_len s
    refine Ev.neg (by simpa using h) (Ev.bind (words_ev s (by omega)) (Ev.bind (rwords_ev s (by omega)) (Ev.pos rfl (Ev.bind (spanEq_ev _ (by omega)) (Ev.step (fun k => ancepslaw01_TextWords.j1.eq_2 _ _ _) (Ev.neg (by simp) ?_))))))
    exact asc_loop _ (by omega) (fun x hx => (wordsS_each s x hx).2.1) (wordsS_sep s) (wordsS s).1.length 0 (by omega)
end Go.Proofs.Yteokimhjojppcaa.Pure

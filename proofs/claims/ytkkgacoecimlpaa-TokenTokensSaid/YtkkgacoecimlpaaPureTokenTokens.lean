/- Tokens of package token gives the tokens, the line and the error that the reference's Tokens gives, of any text of up to 2000 bytes (longer ones are left out by the law's own guard). -/
import Derived.Test.YtkkgacoecimlpaaLem4
namespace Go.Proofs.Ytkkgacoecimlpaa.Pure
open Go.RowKit Go.Proofs.Ytkkgacoecimlpaa.X Go.Proofs.Ytkkgacoecimlpaa.Lem Go.Proofs.YtkkgacoecimlpaaW.PrintWords Go.Proofs.YtkkgacoecimlpaaW.PrintLast
theorem TokenTokens : ancepslaw05_TokenTokens.Pure := by
  intro s hs
  refine Ev.rounds ?_
  unfold ancepslaw05_TokenTokens.f
  refine Ev.bind awake_ev (Ev.pos rfl (Ev.step (fun k => rfl) (Ev.cond (fun h => Ev.bind awake_ev (Ev.val rfl)) (fun h => ?_))))
  exact Ev.bind (tokens_ev s) (Ev.bind (rtokens_ev s) (Ev.pos rfl (Ev.pos rfl (Ev.bind (tokEq_ev _ (by have := tokensS_len s; omega)) (Ev.val rfl)))))
end Go.Proofs.Ytkkgacoecimlpaa.Pure

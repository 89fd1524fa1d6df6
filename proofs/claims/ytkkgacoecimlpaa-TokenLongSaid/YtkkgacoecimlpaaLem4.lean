/- Plain lemmas over the printed functions of chapter 5: lists of tokens are compared. -/
import Derived.Test.YtkkgacoecimlpaaLem3
import Derived.Test.YtkkgacoecimlpaaX13
namespace Go.Proofs.Ytkkgacoecimlpaa.Lem
open Go.RowKit Go.Proofs.Ytkkgacoecimlpaa.X Go.Proofs.YtkkgacoecimlpaaW.PrintWords Go.Proofs.YtkkgacoecimlpaaW.PrintLast
theorem tokEq_loop (l : List S31) (hl : l.length ≤ 1000000) (d : Nat) : ∀ i : Nat, i + d = l.length → Ev (fun k => api_Token_18.l0 k l l (l.length : Int) (i : Int)) true := by
  induction d with
  | zero =>
    intro i hi
    exact Ev.step (fun k => rfl) (Ev.neg (by omega) (Ev.val rfl))
  | succ d ih =>
    intro i hi
    refine Ev.step (fun k => rfl) (Ev.pos (by omega) (Ev.pos (by omega) (Ev.pos (by omega) (Ev.pos (by omega) (Ev.neg (by simp) ?_)))))
    rw [w64 (by omega) (by omega)]
    exact ih (i + 1) (by omega)
theorem tokEq_ev (l : List S31) (hl : l.length ≤ 1000000) : Ev (fun k => api_Token_18.f k l l) true := by
  unfold api_Token_18.f
  exact Ev.pos rfl (tokEq_loop l hl l.length 0 (by omega))
end Go.Proofs.Ytkkgacoecimlpaa.Lem

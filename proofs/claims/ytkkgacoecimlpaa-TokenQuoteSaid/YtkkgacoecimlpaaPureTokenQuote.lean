/- Quote of package token puts any string into quotes, or gives the error, as the reference's Quote does, of up to 100 bytes (longer ones are left out by the law's own guard); it is one token then. -/
import Derived.Test.YtkkgacoecimlpaaLemQ
import Derived.Test.YtkkgacoecimlpaaX21
namespace Go.Proofs.Ytkkgacoecimlpaa.Pure
open Go.RowKit Go.Proofs.Ytkkgacoecimlpaa.X Go.Proofs.Ytkkgacoecimlpaa.Lem Go.Proofs.YtkkgacoecimlpaaW.PrintWords Go.Proofs.YtkkgacoecimlpaaW.PrintLast
theorem quote_one (s : ByteArray) (h : fitsS s = 0) : tokensS (quoteS s).1 = ([⟨3, s, 1⟩], 0, 0) := by
  have hs : s.size ≤ 60 := by unfold fitsS at h; exact Nat.le_of_not_lt (fun h1 => by rw [if_pos h1] at h; exact absurd h (by decide))
  have hr : rightT (⟨3, s, 0⟩ : S31) = true := by rw [fits_right, h]; rfl
  have e : joinL [(⟨3, s, 0⟩ : S31)] = bytesOf (quoteS s).1 := by
    unfold quoteS
    rw [if_pos h, quote_bytes]; rfl
  have := tokens_join [(⟨3, s, 0⟩ : S31)] (fun t ht => by rw [List.mem_singleton.1 ht]; exact hr) (by
    show (34 :: (bytesOf s ++ [34])).length ≤ 20000
    rw [List.length_cons, List.length_append, bytesOf_length, List.length_singleton]; omega)
  rw [e, str_bytes] at this
  exact this
theorem TokenQuote : ancepslaw05_TokenQuote.Pure := by
  intro s hs
  refine Ev.rounds ?_
  unfold ancepslaw05_TokenQuote.f
  refine Ev.bind awake_ev (Ev.pos rfl (Ev.step (fun k => rfl) (Ev.cond (fun h => Ev.bind awake_ev (Ev.val rfl)) (fun h => ?_))))
  refine Ev.bind (quote_ev s (by omega)) (Ev.bind (rquote_ev s (by omega)) (Ev.pos rfl (Ev.pos rfl (Ev.cond (fun h1 => ?_) (fun h1 => Ev.val (by simp))))))
  have hf : fitsS s = 0 := by
    unfold quoteS at h1
    by_cases h2 : fitsS s = 0
    · exact h2
    · rw [if_neg h2] at h1; exact h1
  refine Ev.bind (tokens_ev _) ?_
  rw [quote_one s hf]
  exact Ev.pos rfl (Ev.pos rfl (Ev.pos (show (0 : Int) < 1 by decide) (Ev.val (by simp [rd_T31]))))
end Go.Proofs.Ytkkgacoecimlpaa.Pure

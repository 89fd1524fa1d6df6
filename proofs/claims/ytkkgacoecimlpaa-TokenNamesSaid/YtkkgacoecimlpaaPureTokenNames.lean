/- IsName and Number of package token decide as the reference's IsName and Number do, of any string of up to 100 bytes (longer ones are left out by the law's own guard); a name is one token. -/
import Derived.Test.YtkkgacoecimlpaaLem5
namespace Go.Proofs.Ytkkgacoecimlpaa.Pure
open Go.RowKit Go.Proofs.Ytkkgacoecimlpaa.X Go.Proofs.Ytkkgacoecimlpaa.Lem Go.Proofs.YtkkgacoecimlpaaW.PrintWords Go.Proofs.YtkkgacoecimlpaaW.PrintLast
theorem name_one (s : ByteArray) (h : isName s = true) (hs : s.size ≤ 20000) : tokensS s = ([⟨1, s, 1⟩], 0, 0) := by
  have e : joinL [(⟨1, s, 0⟩ : S31)] = bytesOf s := rfl
  have := tokens_join [(⟨1, s, 0⟩ : S31)] (fun t ht => by rw [List.mem_singleton.1 ht]; exact h) (by rw [e, bytesOf_length]; exact hs)
  rw [e, str_bytes] at this
  exact this
theorem names_j1 (s : ByteArray) (hs : s.size ≤ 100) : Ev (fun k => ancepslaw05_TokenNames.j1 k s false) true := by
  refine Ev.step (fun k => ancepslaw05_TokenNames.j1.eq_2 _ _ _) (Ev.neg (by decide) (Ev.bind (tokens_ev s) ?_))
  cases h : isName s with
  | true =>
    rw [name_one s h (by omega)]
    refine Ev.pos rfl (Ev.pos rfl (Ev.pos (show (0 : Int) < 1 by decide) (Ev.bind (risName_ev s (by omega)) (Ev.pos h (Ev.pos rfl (Ev.val rfl))))))
  | false =>
    have hb : Ev (fun k => (ancepsref05_IsName.f k s).bind fun t => if t = true then some false else some true) true := Ev.bind (risName_ev s (by omega)) (Ev.neg (by rw [h]; decide) (Ev.val rfl))
    exact Ev.cond (fun h1 => Ev.cond (fun h2 => Ev.pos (by omega) (Ev.bind (risName_ev s (by omega)) (Ev.neg (by rw [h]; decide) (Ev.val rfl)))) (fun _ => hb)) (fun _ => hb)
theorem names_j0 (s : ByteArray) (b : Bool) (hb : b = false → s.size ≤ 100) : Ev (fun k => ancepslaw05_TokenNames.j0 k s b) true := by
  refine Ev.step (fun k => ancepslaw05_TokenNames.j0.eq_2 _ _ _) (Ev.cond (fun h => Ev.bind awake_ev (Ev.val rfl)) (fun h => ?_))
  have hs := hb (by simpa using h)
  refine Ev.bind (number_ev s (by omega)) (Ev.bind (rnumber_ev s (by omega)) (Ev.bind (isName_ev s (by omega)) (Ev.bind (risName_ev s (by omega)) (Ev.neg (by simp) (Ev.pos rfl ?_)))))
  rw [show ((numS s).2 != (numS s).2) = false by simp]
  exact names_j1 s hs
theorem TokenNames : ancepslaw05_TokenNames.Pure := by
  intro s hs
  refine Ev.rounds ?_
  unfold ancepslaw05_TokenNames.f
  exact Ev.bind awake_ev (Ev.pos rfl (names_j0 s _ (fun h => by rw [decide_eq_false_iff_not] at h; omega)))
end Go.Proofs.Ytkkgacoecimlpaa.Pure

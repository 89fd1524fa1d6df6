/- The tokens of any text of up to 2000 bytes (longer ones are left out by the law's own guard), written by package token and read again, are the same, and written again the same text. -/
import Derived.Test.YtkkgacoecimlpaaLemW
import Derived.Test.YtkkgacoecimlpaaX27
namespace Go.Proofs.Ytkkgacoecimlpaa.Pure
open Go.RowKit Go.Proofs.Ytkkgacoecimlpaa.X Go.Proofs.Ytkkgacoecimlpaa.Lem Go.Proofs.YtkkgacoecimlpaaW.PrintWords Go.Proofs.YtkkgacoecimlpaaW.PrintLast
theorem TokenAgain : ancepslaw05_TokenAgain.Pure := by
  intro s hs
  refine Ev.rounds ?_
  unfold ancepslaw05_TokenAgain.f
  refine Ev.bind awake_ev (Ev.pos rfl (Ev.step (fun k => rfl) (Ev.cond (fun h => Ev.bind awake_ev (Ev.val rfl)) (fun h => ?_))))
  have hsz : s.size ≤ 2000 := by simp only [decide_eq_true_iff] at h; omega
  refine Ev.bind (tokens_ev s) (Ev.cond (fun h0 => ?_) (fun h0 => Ev.val (by rw [tokensS_err s h0]; rfl)))
  obtain ⟨hr, hw, hl⟩ := tokensS_right s
  have hj := join_len (tokensS s).1
  have hall : (tokensS s).1.all rightT = true := List.all_eq_true.2 hr
  have hw1 : writeS (tokensS s).1 = (strOfNums (joinL (tokensS s).1), 0) := by unfold writeS; rw [if_pos hall, if_neg (by omega)]
  have hall2 : ((tokensS s).1.map (at1 1)).all rightT = true := by rw [List.all_map]; exact hall
  have hw2 : writeS ((tokensS s).1.map (at1 1)) = (strOfNums (joinL (tokensS s).1), 0) := by unfold writeS; rw [if_pos hall2, join_at1, if_neg (by omega)]
  refine Ev.bind (write_ev _ (by omega) (fun _ => by omega) (fun t ht => by have := tok_size t; have := weight_mem ht; omega)) ?_
  rw [hw1]
  refine Ev.bind (tokens_ev _) ?_
  rw [tokens_join _ hr (by omega)]
  refine Ev.bind (write_ev ((tokensS s).1.map (at1 1)) (by rw [List.length_map]; omega) (fun _ => by rw [join_at1]; omega) (fun t ht => by
    obtain ⟨u, hu, rfl⟩ := List.mem_map.1 ht
    have := tok_size u; have := weight_mem hu
    show u.f1.size ≤ _; omega)) ?_
  rw [hw2]
  refine Ev.pos rfl (Ev.pos rfl (Ev.pos rfl (Ev.pos rfl ?_)))
  exact Ev.bind (same_ev _ _ (by omega)) (Ev.val (same_at1 _))
end Go.Proofs.Ytkkgacoecimlpaa.Pure

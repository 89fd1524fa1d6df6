/- Word of package text returns the folded word (or the error) that the reference's Word returns, of any line of up to 500 bytes and any index (longer lines are left out by the law's own guard). -/
import Derived.Test.YteokimhjojppcaaLemD
namespace Go.Proofs.Yteokimhjojppcaa.Pure
open Go.RowKit Go.Proofs.Yteokimhjojppcaa.X Go.Proofs.Yteokimhjojppcaa.Lem Go.Proofs.YteokimhjojppcaaW.PrintWords Go.Proofs.YteokimhjojppcaaW.PrintLast
def wordS (s : ByteArray) (i : Int) : ByteArray × Int :=
  if (wordsS s).2 = 0 then if i < 0 then (⟨#[]⟩, 6) else if i ≥ ((wordsS s).1.length : Int) then (⟨#[]⟩, 6) else (pieceS s (rd_T31 (wordsS s).1 i), 0) else (⟨#[]⟩, (wordsS s).2)
theorem word_ev (s : ByteArray) (i : Int) (hs : s.size ≤ 140737488355328) : Ev (fun k => text_Word.f k s i) (wordS s i) := by
  unfold text_Word.f wordS
  refine Ev.bind (words_ev s hs) ?_
  by_cases h : (wordsS s).2 = 0
  · refine Ev.pos h ?_
    rw [if_pos h]
    by_cases h1 : i < 0
    · exact Ev.pos h1 (Ev.val (by rw [if_pos h1]))
    · refine Ev.neg h1 ?_
      rw [if_neg h1]
      by_cases h2 : i ≥ ((wordsS s).1.length : Int)
      · exact Ev.pos h2 (Ev.val (by rw [if_pos h2]))
      · refine Ev.neg h2 ?_
        rw [if_neg h2]
        obtain ⟨n, rfl⟩ := Int.eq_ofNat_of_zero_le (show 0 ≤ i by omega)
        obtain ⟨p1, p2, p3⟩ := wordsS_at s n (by omega)
        exact Ev.pos (by omega) (Ev.pos (by omega) (Ev.pos p1 (Ev.pos p2 (Ev.pos p3 (Ev.bind (fold_ev _ (piece_size s _ hs)) (Ev.val rfl))))))
  · exact Ev.neg h (Ev.val (by rw [if_neg h]))
theorem rword_ev (s : ByteArray) (i : Int) (hs : s.size ≤ 140737488355328) : Ev (fun k => ancepsref01_Word.f k s i) (wordS s i) := by
  unfold ancepsref01_Word.f wordS
  refine Ev.bind (rall_ev s hs) ?_
  have hl : (foldedS s).1.length = (wordsS s).1.length := by unfold foldedS; rw [List.length_map]
  by_cases h : (wordsS s).2 = 0
  · refine Ev.pos h ?_
    rw [if_pos h]
    by_cases h1 : i < 0
    · exact Ev.pos h1 (Ev.val (by rw [if_pos h1]))
    · refine Ev.neg h1 ?_
      rw [if_neg h1]
      by_cases h2 : i ≥ ((wordsS s).1.length : Int)
      · exact Ev.pos (by rw [hl]; exact h2) (Ev.val (by rw [if_pos h2]))
      · refine Ev.neg (by rw [hl]; exact h2) ?_
        rw [if_neg h2]
        obtain ⟨n, rfl⟩ := Int.eq_ofNat_of_zero_le (show 0 ≤ i by omega)
        refine Ev.pos (by omega) (Ev.pos (by omega) (Ev.val ?_))
        rw [rdOf_nat _ n (by omega), rd_T31_nat]
        unfold foldedS
        simp only [List.getElem_map, List.getD_eq_getElem?_getD, List.getElem?_eq_getElem (show n < (wordsS s).1.length by omega), Option.getD_some]
  · exact Ev.neg h (Ev.val (by rw [if_neg h]; rfl))
theorem TextWord : ancepslaw01_TextWord.Pure := by
  intro s i hs _
  refine Ev.rounds ?_
  unfold ancepslaw01_TextWord.f
  refine Ev.bind awake_ev (Ev.pos rfl (Ev.step (fun k => rfl) ?_))
  by_cases h : (s.size : Int) > 500
  · exact Ev.pos (by simpa using h) (Ev.bind awake_ev (Ev.val rfl))
  · exact Ev.neg (by simpa using h) (Ev.bind (word_ev s i (by omega)) (Ev.bind (rword_ev s i (by omega)) (Ev.pos rfl (Ev.val (by simp)))))
end Go.Proofs.Yteokimhjojppcaa.Pure

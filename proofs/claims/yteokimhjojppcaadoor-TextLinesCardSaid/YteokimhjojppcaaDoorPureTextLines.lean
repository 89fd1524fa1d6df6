/- Lines of package text gives the lines of any text (up to 3000 bytes, by the own guard of the law), or the error, as the reference's Lines does; Text leads back. -/
import Derived.Test.YteokimhjojppcaaDoorLemL
import Derived.Test.YteokimhjojppcaaDoorX7
namespace Go.Proofs.YteokimhjojppcaaDoor.Pure
open Go.RowKit Go.Proofs.YteokimhjojppcaaDoor.X Go.Proofs.YteokimhjojppcaaDoor.Lem Go.Proofs.YteokimhjojppcaaDoorW.PrintWords Go.Proofs.YteokimhjojppcaaDoorW.PrintLast
theorem lines_j1 (b : List UInt8) (c : UInt8) (hb : b.length ≤ 3000) : Ev (fun k => ancepslaw01_TextLines.j1 k (mkB (b ++ [c])) (linesC b c).1 (linesC b c).2 (linesC b c).1 (linesC b c).2 ((linesC b c).2 != 0)) true := by
  have hlen := linesC_len b c
  refine Ev.step (fun k => ancepslaw01_TextLines.j1.eq_2 _ _ _ _ _ _ _) ?_
  by_cases h0 : (linesC b c).2 = 0
  · refine Ev.neg (by rw [h0]; decide) ?_
    have hs : c = 10 ∧ chkS ((pcs b).map mkB) = 0 ∧ (linesC b c).1 = (pcs b).map mkB := by
      unfold linesC at h0 ⊢
      by_cases hc : c = 10
      · rw [if_pos hc] at h0 ⊢
        by_cases h1 : chkS ((pcs b).map mkB) = 0
        · rw [if_pos h1]; exact ⟨hc, h1, rfl⟩
        · rw [if_neg h1] at h0; exact absurd h0 h1
      · rw [if_neg hc] at h0; cases h0
    rw [hs.2.2, hs.1]
    have hf := flat_pcs b
    have ht := text_ev ((pcs b).map mkB) (fun s h => by have := pcs_sizes b 3000 hb s h; omega) (by rw [hf, List.length_append]; simp; omega)
    unfold textS at ht
    rw [if_pos hs.2.1, hf] at ht
    exact Ev.bind ht (Ev.pos rfl (Ev.val (by simp)))
  · exact Ev.pos (by simpa using h0) (Ev.pos rfl (Ev.bind (equal_ev _ (by omega)) (Ev.now _)))
theorem lines_j0 (s : ByteArray) (b : Bool) (hb : b = false → s.size ≤ 3000) : Ev (fun k => ancepslaw01_TextLines.j0 k s b) true := by
  refine Ev.step (fun k => ancepslaw01_TextLines.j0.eq_2 _ _ _) (Ev.cond (fun h => Ev.bind awake_ev (Ev.now _)) (fun h => ?_))
  have hs := hb (by simpa using h)
  rcases snoc_of s with rfl | ⟨b, c, rfl, hl⟩
  · refine Ev.bind lines_nil (Ev.bind rLines_nil (Ev.pos rfl (Ev.bind (equal_ev [] (by simp)) (Ev.pos rfl (Ev.step (fun k => ancepslaw01_TextLines.j1.eq_2 _ _ _ _ _ _ _) (Ev.neg (by decide) ?_))))))
    have ht := text_ev [] (fun s h => by simp at h) (by simp [text_Text.flat])
    rw [show textS [] = (mkB [], 0) from rfl] at ht
    exact Ev.bind ht (Ev.pos rfl (Ev.val (beq_iff_eq.2 rfl)))
  · have hlen := linesC_len b c
    exact Ev.bind (lines_ev b c (by omega)) (Ev.bind (rLines_ev b c (by omega)) (Ev.pos rfl (Ev.bind (equal_ev _ (by omega)) (Ev.pos rfl (lines_j1 b c (by omega))))))
theorem TextLines : ancepslaw01_TextLines.Pure := by
  intro s _
  refine Ev.rounds ?_
  unfold ancepslaw01_TextLines.f
  refine Ev.bind awake_ev (Ev.pos rfl (lines_j0 s _ (fun h => ?_)))
  rw [decide_eq_false_iff_not] at h
  omega
end Go.Proofs.YteokimhjojppcaaDoor.Pure

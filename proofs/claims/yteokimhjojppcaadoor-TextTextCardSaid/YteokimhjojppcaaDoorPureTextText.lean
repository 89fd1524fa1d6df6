/- Text of package text gives the text of any lines (up to 420 of together 3000 bytes, by the own guard of the law), or the error, as the reference's Text does; Lines leads back. -/
import Derived.Test.YteokimhjojppcaaDoorLemL
import Derived.Test.YteokimhjojppcaaDoorX8
namespace Go.Proofs.YteokimhjojppcaaDoor.Pure
open Go.RowKit Go.Proofs.YteokimhjojppcaaDoor.X Go.Proofs.YteokimhjojppcaaDoor.Lem Go.Proofs.YteokimhjojppcaaDoorW.PrintWords Go.Proofs.YteokimhjojppcaaDoorW.PrintLast
theorem sum_loop (l : List ByteArray) (hl : l.length ≤ 1000) (hx : ∀ s ∈ l, s.size ≤ 140737488351232) (d : Nat) : ∀ (i n : Nat), i + d = l.length → n + (text_Text.flat (l.drop i)).length = (text_Text.flat l).length → n ≤ 140737488361232 →
    ∃ r : Int, Ev (fun k => ancepsref01_Sum.l0 k l 3000 (n : Int) (i : Int)) r ∧ (r ≤ 3000 → (text_Text.flat l).length ≤ 3000) := by
  induction d with
  | zero =>
    intro i n hi hn hb
    rw [List.drop_of_length_le (by omega)] at hn
    refine ⟨n, Ev.step (fun k => rfl) (Ev.neg (by omega) (Ev.val rfl)), fun h => ?_⟩
    have h0 : (text_Text.flat ([] : List ByteArray)).length = 0 := rfl
    omega
  | succ d ih =>
    intro i n hi hn hb
    have hlt : i < l.length := by omega
    have hsz := hx _ (List.getElem_mem hlt)
    rw [List.drop_eq_getElem_cons hlt, flat_cons, List.length_append, List.length_cons] at hn
    have hdl : l[i].data.toList.length = l[i].size := by simp
    by_cases h3 : n ≤ 3000
    · obtain ⟨r, h1, h2⟩ := ih (i + 1) (n + 1 + l[i].size) (by omega) (by omega) (by omega)
      refine ⟨r, Ev.step (fun k => rfl) (Ev.pos (by omega) (Ev.pos (by omega) (Ev.pos (by omega) ?_))), h2⟩
      rw [rdO_at l i hlt, w64 (i := (n : Int) + 1) (by omega) (by omega), w64 (by omega) (by omega), w64 (by omega) (by omega)]
      exact h1
    · exact ⟨n, Ev.step (fun k => rfl) (Ev.pos (by omega) (Ev.neg (by omega) (Ev.val rfl))), fun h => by omega⟩
theorem text_j1 (l : List ByteArray) (hl : l.length ≤ 420) (hf : (text_Text.flat l).length ≤ 3000) : Ev (fun k => ancepslaw01_TextText.j1 k l (textS l).1 (textS l).2 (textS l).1 (textS l).2 ((textS l).2 != 0)) true := by
  refine Ev.step (fun k => ancepslaw01_TextText.j1.eq_2 _ _ _ _ _ _ _) ?_
  by_cases h0 : chkS l = 0
  · have e : textS l = (mkB (text_Text.flat l), 0) := by unfold textS; rw [if_pos h0]
    rw [e]
    refine Ev.neg (show ¬ ((0 : Int) != 0) = true by decide) ?_
    by_cases hn : l = []
    · subst hn
      exact Ev.bind lines_nil (Ev.pos rfl (Ev.bind (equal_ev [] (by simp)) (Ev.now _)))
    · obtain ⟨b, h1, h2⟩ := flat_lines l hn (fun s hs => no_feed (chkS_all h0 s hs))
      have hb : b.length ≤ 3000 := by rw [h1, List.length_append] at hf; omega
      have hL := lines_ev b 10 (by omega)
      unfold linesC at hL
      rw [if_pos rfl, h2, if_pos h0] at hL
      rw [← h1] at hL
      exact Ev.bind hL (Ev.pos rfl (Ev.bind (equal_ev l (by omega)) (Ev.now _)))
  · have e : textS l = (⟨#[]⟩, chkS l) := by unfold textS; rw [if_neg h0]
    rw [e]
    exact Ev.pos (by simpa using h0) (Ev.pos rfl (Ev.val (by simp)))
theorem text_j0 (l : List ByteArray) (hx : ∀ s ∈ l, s.size ≤ 140737488351232) (b : Bool) (hb : b = false → l.length ≤ 420 ∧ (text_Text.flat l).length ≤ 3000) : Ev (fun k => ancepslaw01_TextText.j0 k l b) true := by
  refine Ev.step (fun k => ancepslaw01_TextText.j0.eq_2 _ _ _) (Ev.cond (fun h => Ev.bind awake_ev (Ev.now _)) (fun h => ?_))
  obtain ⟨hl, hf⟩ := hb (by simpa using h)
  have hs : ∀ s ∈ l, s.size ≤ 140737488355328 := fun s h => by have := hx s h; omega
  refine Ev.bind (a := l) (Ev.now' ?_) (Ev.bind (text_ev l hs (by omega)) (Ev.bind (rText_ev l hs (by omega) (by omega)) (Ev.pos rfl (Ev.pos rfl (text_j1 l hl hf)))))
  unfold slices_Clone_string_string.f
  rw [Option.bind_some, if_pos (by simp; omega)]; rfl
theorem TextText : ancepslaw01_TextText.Pure := by
  intro l _ _ hx
  refine Ev.rounds ?_
  unfold ancepslaw01_TextText.f
  refine Ev.bind awake_ev (Ev.pos rfl (Ev.cond (fun h => text_j0 l hx true (fun h => by simp at h)) (fun h => ?_)))
  obtain ⟨r, h1, h2⟩ := sum_loop l (by omega) hx l.length 0 0 (by omega) (by rw [List.drop_zero]; omega) (by omega)
  unfold ancepsref01_Sum.f
  refine Ev.bind h1 (text_j0 l hx _ (fun h3 => ?_))
  rw [decide_eq_false_iff_not] at h3
  exact ⟨by omega, h2 (by omega)⟩
end Go.Proofs.YteokimhjojppcaaDoor.Pure

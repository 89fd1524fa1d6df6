/- Text of package pattern gives, of any letters (up to 100 of them, by the law's own guard), the text that the reference's Text gives, or the error; Letters leads back to them. -/
import Derived.Test.YtbecdafbkdchkaaP5
import Derived.Test.YtbecdafbkdchkaaX14
namespace Go.Proofs.Ytbecdafbkdchkaa.Pure
open Go.RowKit Go.Proofs.Ytbecdafbkdchkaa.X Go.Proofs.Ytbecdafbkdchkaa.Lem Go.Proofs.YtbecdafbkdchkaaW.PrintWords Go.Proofs.YtbecdafbkdchkaaW.PrintLast
theorem ba_app (a b : List UInt8) : (⟨a.toArray⟩ : ByteArray) ++ ⟨b.toArray⟩ = ⟨(a ++ b).toArray⟩ := by
  apply ByteArray.ext
  rw [ByteArray.data_append]
  apply Array.toList_inj.1
  rw [Array.toList_append]
theorem rd_get (l : List Int) (i : Nat) (h : i < l.length) : rd l (i : Int) = l[i] := by
  unfold rd; rw [Int.toNat_natCast, List.getD_eq_getElem?_getD, List.getElem?_eq_getElem h]; rfl
theorem okL_at {l : List Int} {i : Nat} (h : i < l.length) (ho : okL l = true) : 0 ≤ l[i] ∧ l[i] ≤ 3 := of_decide_eq_true (List.all_eq_true.1 ho _ (List.getElem_mem h))
theorem rtext_loop (l : List Int) (hl : l.length ≤ 60) (d : Nat) : ∀ i : Nat, i + d = l.length → okL (l.take i) = true →
    Ev (fun k => ancepsref04_Text.l0 k l ⟨((l.take i).flatMap pattern_Text.letter).toArray⟩ (i : Int)) (if okL l then (⟨(l.flatMap pattern_Text.letter).toArray⟩, 0) else (⟨#[]⟩, 6)) := by
  induction d with
  | zero =>
    intro i hi ho
    rw [List.take_of_length_le (by omega)] at ho ⊢
    rw [if_pos ho]
    exact Ev.step (fun k => rfl) (Ev.neg (by omega) (Ev.val rfl))
  | succ d ih =>
    intro i hi ho
    have hlt : i < l.length := by omega
    have hf := pattern_Text.flat_len (l.take i)
    rw [List.length_take] at hf
    have hts : l.take (i + 1) = l.take i ++ [l[i]] := by rw [List.take_succ_eq_append_getElem hlt]
    refine Ev.step (fun k => rfl) (Ev.pos (by omega) (Ev.pos (by omega) ?_))
    rw [rd_get l i hlt]
    refine Ev.cond (fun h => Ev.val ?_) (fun h => Ev.cond (fun h' => Ev.val ?_) (fun h' => ?_))
    · rw [if_neg (fun ho => by have := okL_at hlt ho; omega)]
    · rw [if_neg (fun ho => by have := okL_at hlt ho; omega)]
    · have hx4 : l[i] = 0 ∨ l[i] = 1 ∨ l[i] = 2 ∨ l[i] = 3 := by omega
      have hrd : rdOf ByteArray.empty [(⟨#[117]⟩ : ByteArray), (⟨#[45]⟩ : ByteArray), (⟨#[117, 46]⟩ : ByteArray), (⟨#[45, 46]⟩ : ByteArray)] l[i] = ⟨(pattern_Text.letter l[i]).toArray⟩ := by
        rcases hx4 with h | h | h | h <;> rw [h] <;> rfl
      have hk : okL (l.take (i + 1)) = true := by
        unfold okL at ho ⊢
        rw [hts, List.all_append, ho, List.all_cons, decide_eq_true (by omega)]; rfl
      have := ih (i + 1) (by omega) hk
      rw [hts, List.flatMap_append, List.flatMap_cons, List.flatMap_nil, List.append_nil, ← ba_app] at this
      refine Ev.just (Ev.pos (by omega) (Ev.pos (by show l[i] < 4; omega) ?_))
      rw [hrd, w64 (by omega) (by omega)]
      refine Ev.pos ?_ this
      have h2 := pattern_Text.letter_len l[i]
      show ((l.take i).flatMap pattern_Text.letter).toArray.size + (pattern_Text.letter l[i]).toArray.size ≤ _
      rw [List.size_toArray, List.size_toArray]
      omega
theorem rtext_ev (l : List Int) : Ev (fun k => ancepsref04_Text.f k l) (textS l) := by
  unfold ancepsref04_Text.f textS
  refine Ev.cond (fun h => Ev.val (by rw [if_pos (by omega)])) (fun h => ?_)
  rw [if_neg (by omega)]
  exact rtext_loop l (by omega) l.length 0 (by omega) rfl
theorem ints_loop (a : List Int) (hl : a.length ≤ 1000000) (d : Nat) : ∀ i : Nat, i + d = a.length → Ev (fun k => slices_Equal_int_int.l0 k a a (a.length : Int) (i : Int)) true := by
  induction d with
  | zero => intro i hi; exact Ev.step (fun k => rfl) (Ev.neg (by omega) (Ev.val rfl))
  | succ d ih =>
    intro i hi
    refine Ev.step (fun k => rfl) (Ev.pos (by omega) (Ev.pos (by omega) (Ev.pos (by omega) (Ev.pos (by omega) (Ev.pos rfl ?_)))))
    rw [w64 (by omega) (by omega)]
    exact ih (i + 1) (by omega)
theorem ints_ev (a : List Int) (hl : a.length ≤ 1000000) : Ev (fun k => slices_Equal_int_int.f k a a) true := by
  unfold slices_Equal_int_int.f
  exact Ev.pos rfl (ints_loop a hl a.length 0 (by omega))
theorem text_j0 (l : List Int) (b : Bool) (hb : b = false → l.length ≤ 100) : Ev (fun k => ancepslaw04_PatternText.j0 k l b) true := by
  refine Ev.step (fun k => ancepslaw04_PatternText.j0.eq_2 _ _ _) (Ev.cond (fun h => Ev.bind awake_ev (Ev.now _)) (fun h => ?_))
  have hl := hb (by simpa using h)
  refine Ev.bind (a := l) (Ev.now' ?_) (Ev.bind (Ev.now' (text_f l)) (Ev.bind (rtext_ev l) (Ev.pos rfl (Ev.pos rfl ?_))))
  · unfold slices_Clone_int_int.f
    rw [Option.bind_some, if_pos (by simp; omega)]; rfl
  refine Ev.step (fun k => ancepslaw04_PatternText.j1.eq_2 _ _ _ _ _ _ _) ?_
  by_cases h0 : (textS l).2 = 0
  · refine Ev.neg (by rw [h0]; decide) ?_
    have hs : l.length ≤ 60 ∧ okL l = true ∧ (textS l).1 = ⟨(l.flatMap pattern_Text.letter).toArray⟩ := by
      unfold textS at h0 ⊢
      by_cases h1 : 60 < l.length
      · rw [if_pos h1] at h0; cases h0
      · rw [if_neg h1] at h0 ⊢
        by_cases h2 : okL l = true
        · rw [if_pos h2]; exact ⟨by omega, h2, rfl⟩
        · rw [if_neg h2] at h0; cases h0
    rw [hs.2.2]
    have := letters_ev ⟨(l.flatMap pattern_Text.letter).toArray⟩
    rw [letters_text l hs.1 hs.2.1] at this
    exact Ev.bind this (Ev.pos rfl (Ev.bind (ints_ev l (by omega)) (Ev.now _)))
  · exact Ev.pos (by simpa using h0) (Ev.pos rfl (Ev.val (by simp)))
theorem PatternText : ancepslaw04_PatternText.Pure := by
  intro l _ _ _
  refine Ev.rounds ?_
  unfold ancepslaw04_PatternText.f
  refine Ev.bind awake_ev (Ev.pos rfl (text_j0 l _ (fun h => ?_)))
  rw [decide_eq_false_iff_not] at h
  omega
end Go.Proofs.Ytbecdafbkdchkaa.Pure

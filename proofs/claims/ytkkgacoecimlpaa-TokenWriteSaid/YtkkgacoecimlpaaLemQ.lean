/- Plain lemmas over the printed functions of chapter 5: Quote. -/
import Derived.Test.YtkkgacoecimlpaaLem5
import Derived.Test.YtkkgacoecimlpaaX19
import Derived.Test.YtkkgacoecimlpaaX20
namespace Go.Proofs.Ytkkgacoecimlpaa.Lem
open Go.RowKit Go.Proofs.Ytkkgacoecimlpaa.X Go.Proofs.YtkkgacoecimlpaaW.PrintWords Go.Proofs.YtkkgacoecimlpaaW.PrintLast
def fitsS (s : ByteArray) : Int := if s.size > 60 then 3 else if (bytesOf s).all inside then 0 else 2
def quoteS (s : ByteArray) : ByteArray × Int := if fitsS s = 0 then (((⟨#[34]⟩ : ByteArray) ++ s) ++ (⟨#[34]⟩ : ByteArray), 0) else (⟨#[]⟩, fitsS s)
theorem fits1_f (c : Int) : token_fits_1.f c = some (!inside c) := by unfold token_fits_1.f; rw [inside_f]; rfl
theorem idx_loop (s : ByteArray) (hs : s.size ≤ 140737488355328) (d : Nat) : ∀ i : Nat, i + d = s.size → ∃ t : Int, Ev (fun k => slices_IndexFunc_byte_byte_token_fits_1.l0 k (bytesOf s) ((bytesOf s).length : Int) (i : Int)) t ∧ (t ≥ 0 ↔ ((bytesOf s).drop i).all inside = false) := by
  induction d with
  | zero =>
    intro i hi
    refine ⟨-1, Ev.step (fun k => rfl) (Ev.neg (by rw [bytesOf_length]; omega) (Ev.val rfl)), ?_⟩
    rw [drop_ge s i (by omega)]
    exact ⟨fun h => absurd h (by decide), fun h => absurd h (by decide)⟩
  | succ d ih =>
    intro i hi
    obtain ⟨t, ht, hh⟩ := ih (i + 1) (by omega)
    rw [drop_lt s i (by omega), List.all_cons]
    cases hin : inside (bt s i) with
    | false =>
      refine ⟨(i : Int), Ev.step (fun k => rfl) (Ev.pos (by rw [bytesOf_length]; omega) (Ev.pos (by omega) (Ev.pos (by rw [bytesOf_length]; omega) ?_))), ⟨fun _ => rfl, fun _ => by omega⟩⟩
      rw [rd_bytes, fits1_f, hin]
      exact Ev.just (Ev.pos rfl (Ev.val rfl))
    | true =>
      refine ⟨t, Ev.step (fun k => rfl) (Ev.pos (by rw [bytesOf_length]; omega) (Ev.pos (by omega) (Ev.pos (by rw [bytesOf_length]; omega) ?_))), by rw [Bool.true_and]; exact hh⟩
      rw [rd_bytes, fits1_f, hin, w64 (by omega) (by omega)]
      exact Ev.just (Ev.neg (by decide) ht)
theorem fits_ev (s : ByteArray) (hs : s.size ≤ 140737488355328) : Ev (fun k => token_fits.f k s) (fitsS s) := by
  unfold token_fits.f fitsS
  refine Ev.cond (fun h => Ev.val (by rw [if_pos (c := s.size > 60) (by omega)])) (fun h => Ev.pos hs ?_)
  rw [if_neg (c := s.size > 60) (by omega)]
  obtain ⟨t, ht, hh⟩ := idx_loop s hs s.size 0 (by omega)
  rw [List.drop_zero] at hh
  refine Ev.bind (a := decide (t ≥ 0)) ?_ ?_
  · unfold slices_ContainsFunc_byte_byte_token_fits_1.f
    exact Ev.bind (by unfold slices_IndexFunc_byte_byte_token_fits_1.f; exact ht) (Ev.val rfl)
  · cases ha : (bytesOf s).all inside with
    | true => exact Ev.neg (by simp only [decide_eq_true_iff]; intro e; have := hh.1 e; rw [ha] at this; exact absurd this (by decide)) (Ev.val rfl)
    | false => exact Ev.pos (by simp only [decide_eq_true_iff]; exact hh.2 ha) (Ev.val rfl)
theorem quote_ev (s : ByteArray) (hs : s.size ≤ 140737488355328) : Ev (fun k => token_Quote.f k s) (quoteS s) := by
  unfold token_Quote.f quoteS
  refine Ev.bind (fits_ev s hs) (Ev.cond (fun h => Ev.pos (by omega) (Ev.pos ?_ (Ev.val ?_))) (fun h => Ev.val ?_))
  · rw [ByteArray.size_append]; show 1 + s.size + 1 ≤ _; omega
  · rw [if_pos h]
  · rw [if_neg h]
theorem rquote_loop (s : ByteArray) (hs : s.size ≤ 140737488355328) (d : Nat) : ∀ i : Nat, i + d = s.size → Ev (fun k => ancepsref05_Quote.l0 k s (i : Int)) (if ((bytesOf s).drop i).all inside then (((⟨#[34]⟩ : ByteArray) ++ s) ++ (⟨#[34]⟩ : ByteArray), 0) else (⟨#[]⟩, 2)) := by
  induction d with
  | zero =>
    intro i hi
    rw [drop_ge s i (by omega)]
    refine Ev.step (fun k => rfl) (Ev.neg (by omega) (Ev.pos (by omega) (Ev.pos ?_ (Ev.val rfl))))
    rw [ByteArray.size_append]; show 1 + s.size + 1 ≤ _; omega
  | succ d ih =>
    intro i hi
    refine Ev.step (fun k => rfl) (Ev.pos (by omega) (Ev.pos (by omega) ?_))
    rw [rquoted_f, drop_lt s i (by omega), List.all_cons]
    refine Ev.just (Ev.cond (fun h => ?_) (fun h => Ev.val ?_))
    · rw [h, Bool.true_and, w64 (by omega) (by omega)]; exact ih (i + 1) (by omega)
    · rw [Bool.eq_false_iff.2 h]; rfl
theorem rquote_ev (s : ByteArray) (hs : s.size ≤ 140737488355328) : Ev (fun k => ancepsref05_Quote.f k s) (quoteS s) := by
  unfold ancepsref05_Quote.f quoteS fitsS
  refine Ev.cond (fun h => Ev.val ?_) (fun h => ?_)
  · rw [if_pos (c := s.size > 60) (by omega), if_neg (by decide)]
  · rw [if_neg (c := s.size > 60) (by omega)]
    refine Ev.eq ?_ (rquote_loop s hs s.size 0 (by omega))
    rw [List.drop_zero]
    cases (bytesOf s).all inside <;> rfl
theorem quote_bytes (s : ByteArray) : bytesOf (((⟨#[34]⟩ : ByteArray) ++ s) ++ (⟨#[34]⟩ : ByteArray)) = 34 :: (bytesOf s ++ [34]) := by
  rw [bytesOf_app, bytesOf_app]; rfl
theorem fits_right {s : ByteArray} (line : Int) : rightT ⟨3, s, line⟩ = (fitsS s == 0) := by
  rw [show rightT ⟨3, s, line⟩ = (decide (s.size ≤ 60) && (bytesOf s).all inside) from rfl]
  unfold fitsS
  by_cases h : s.size > 60
  · rw [if_pos h, decide_eq_false (by omega)]; rfl
  · rw [if_neg h, decide_eq_true (by omega), Bool.true_and]
    cases (bytesOf s).all inside <;> rfl
end Go.Proofs.Ytkkgacoecimlpaa.Lem

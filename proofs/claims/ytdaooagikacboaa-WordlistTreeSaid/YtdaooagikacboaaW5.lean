/- Chapter 54: copies, and lists that are small. -/
import Derived.Test.YtdaooagikacboaaW1
import Derived.Test.YtdaooagikacboaaX0
import Derived.Test.YtdaooagikacboaaX6
namespace Go.Proofs.Ytdaooagikacboaa.Lem
open Go.RowKit Go.Proofs.Ytdaooagikacboaa.X Go.Proofs.YtdaooagikacboaaW.PrintWords Go.Proofs.YtdaooagikacboaaW.PrintLast
theorem clone_f (l : List ByteArray) (hl : l.length ≤ 1000000000) : slices_Clone_string_string.f l = some l := by
  unfold slices_Clone_string_string.f
  simp only [Option.bind_some, List.length_nil, List.nil_append]
  rw [if_pos (by omega)]
theorem copied_f (l : List ByteArray) (hl : l.length ≤ 1000000000) : ancepslaw54_copied.f l = some l := by
  unfold ancepslaw54_copied.f
  rw [clone_f l hl]; rfl
theorem copied_ev (l : List ByteArray) (hl : l.length ≤ 1000000000) : Ev (fun _ => ancepslaw54_copied.f l) l := Ev.now' (copied_f l hl)
def sumW : List ByteArray → Nat
  | [] => 0
  | s :: r => 1 + s.size + sumW r
theorem sum_drop (ws : List ByteArray) (i : Nat) (h : i < ws.length) : sumW (ws.drop i) = 1 + (ws[i]).size + sumW (ws.drop (i + 1)) := by rw [List.drop_eq_getElem_cons h, sumW]
theorem sum_loop (ws : List ByteArray) (hl : ws.length ≤ 100000) (hs : ∀ w ∈ ws, w.size ≤ 140737488351232) (d : Nat) : ∀ i n : Nat, i + d = ws.length → n + sumW (ws.drop i) = sumW ws → ∃ t : Int, Ev (fun k => ancepsref01_Sum.l0 k ws 8000 (n : Int) (i : Int)) t ∧ (t ≤ 8000 → sumW ws ≤ 8000) := by
  induction d with
  | zero =>
    intro i n hi hn
    rw [List.drop_eq_nil_of_le (by omega), sumW] at hn
    exact ⟨(n : Int), Ev.step (fun k => rfl) (Ev.neg (by omega) (Ev.val rfl)), fun h => by omega⟩
  | succ d ih =>
    intro i n hi hn
    rw [sum_drop ws i (by omega)] at hn
    by_cases h : (n : Int) ≤ 8000
    · have hsz := hs _ (List.getElem_mem (show i < ws.length by omega))
      obtain ⟨t, ht, hh⟩ := ih (i + 1) (n + 1 + (ws[i]).size) (by omega) (by omega)
      refine ⟨t, Ev.step (fun k => rfl) (Ev.pos (by omega) (Ev.pos h (Ev.pos (by omega) ?_))), hh⟩
      rw [rdOf_at ws i (by omega), w64 (i := (n : Int) + 1) (by omega) (by omega), w64 (by omega) (by omega), w64 (by omega) (by omega), show (n : Int) + 1 + ((ws[i]).size : Int) = ((n + 1 + (ws[i]).size : Nat) : Int) by omega]
      exact ht
    · exact ⟨(n : Int), Ev.step (fun k => rfl) (Ev.pos (by omega) (Ev.neg h (Ev.val rfl))), fun h2 => absurd h2 h⟩
theorem rfew_ev (l : List ByteArray) (hs : ∀ w ∈ l, w.size ≤ 140737488351232) : ∃ t : Bool, Ev (fun k => ancepsref54_Few.f k l) t ∧ (t = true → l.length ≤ 420 ∧ sumW l ≤ 8000) := by
  unfold ancepsref54_Few.f
  by_cases h : (l.length : Int) ≤ 420
  · obtain ⟨t, ht, hh⟩ := sum_loop l (by omega) hs l.length 0 0 (by omega) (by rw [List.drop_zero, Nat.zero_add])
    exact ⟨decide (t ≤ 8000), Ev.pos h (Ev.bind ht (Ev.val rfl)), fun h2 => ⟨by omega, hh (of_decide_eq_true h2)⟩⟩
  · exact ⟨false, Ev.neg h (Ev.val rfl), fun h2 => by cases h2⟩
end Go.Proofs.Ytdaooagikacboaa.Lem

/- Plain lemmas over the printed functions of chapter 57: folded words. -/
import Derived.Test.YtmjigfoldeekmaaVC
import Derived.Test.YtmjigfoldeekmaaX3
import Derived.Test.YtmjigfoldeekmaaX13
namespace Go.Proofs.Ytmjigfoldeekmaa.Lem
open Go.RowKit Go.Proofs.Ytmjigfoldeekmaa.X Go.Proofs.YtmjigfoldeekmaaW.PrintWords Go.Proofs.YtmjigfoldeekmaaW.PrintLast
def pieceS (s : ByteArray) (x : S74) : ByteArray := foldS (s.extract x.f0.toNat x.f1.toNat)
def foldedS (s : ByteArray) : List ByteArray × Int := ((wordsS s).1.map (pieceS s), (wordsS s).2)
theorem piece_size (s : ByteArray) (x : S74) (h : s.size ≤ 140737488355328) : (s.extract x.f0.toNat x.f1.toNat).size ≤ 140737488355328 := by
  rw [ByteArray.size_extract]; omega
theorem wordsS_at (s : ByteArray) (i : Nat) (h : i < (wordsS s).1.length) : 0 ≤ (rd_T74 (wordsS s).1 (i : Int)).f0 ∧ (rd_T74 (wordsS s).1 (i : Int)).f0 ≤ (rd_T74 (wordsS s).1 (i : Int)).f1 ∧ (rd_T74 (wordsS s).1 (i : Int)).f1 ≤ (s.size : Int) := by
  rw [rd_T31_nat]
  have := wordsS_each s _ (getD_mem h)
  omega
theorem map_take_succ (l : List S74) (f : S74 → ByteArray) (i : Nat) (h : i < l.length) : (l.map f).take (i + 1) = (l.map f).take i ++ [f (l.getD i z74)] := by
  rw [List.take_succ_eq_append_getElem (by rw [List.length_map]; exact h), List.getElem_map, List.getD_eq_getElem?_getD, List.getElem?_eq_getElem h]; rfl
theorem folded_loop (s : ByteArray) (hs : s.size ≤ 140737488355328) (e : Int) (d : Nat) : ∀ i : Nat, i + d = (wordsS s).1.length → Ev (fun k => apparatus_folded.l0 k s e (((wordsS s).1.map (pieceS s)).take i) (wordsS s).1 ((wordsS s).1.length : Int) (i : Int)) ((wordsS s).1.map (pieceS s), e) := by
  have hl := wordsS_len s
  induction d with
  | zero =>
    intro i hi
    refine Ev.step (fun k => rfl) (Ev.neg (by omega) (Ev.val ?_))
    rw [List.take_of_length_le (by rw [List.length_map]; omega)]
  | succ d ih =>
    intro i hi
    have hlt : i < (wordsS s).1.length := by omega
    obtain ⟨h1, h2, h3⟩ := wordsS_at s i hlt
    have ih1 := ih (i + 1) (by omega)
    refine Ev.step (fun k => rfl) (Ev.pos (by omega) (Ev.pos (by omega) (Ev.pos (by omega) (Ev.pos h1 (Ev.pos h2 (Ev.pos h3 (Ev.bind (fold_ev _ (piece_size s _ hs)) (Ev.pos ?_ ?_))))))))
    · rw [List.length_take, List.length_map]; omega
    · rw [w64 (by omega) (by omega)]
      rw [map_take_succ _ _ i hlt, ← rd_T31_nat] at ih1
      exact ih1
theorem folded_ev (s : ByteArray) (hs : s.size ≤ 140737488355328) : Ev (fun k => apparatus_folded.f k s) (foldedS s) := by
  unfold apparatus_folded.f
  exact Ev.bind (words_ev s hs) (folded_loop s hs _ (wordsS s).1.length 0 (by omega))
theorem rall_loop (s : ByteArray) (hs : s.size ≤ 140737488355328) (d : Nat) : ∀ i : Nat, i + d = (wordsS s).1.length → Ev (fun k => ancepsref01_All.l0 k s (wordsS s).1 (((wordsS s).1.map (pieceS s)).take i) (i : Int)) ((wordsS s).1.map (pieceS s), 0) := by
  have hl := wordsS_len s
  induction d with
  | zero =>
    intro i hi
    refine Ev.step (fun k => rfl) (Ev.neg (by omega) (Ev.val ?_))
    rw [List.take_of_length_le (by rw [List.length_map]; omega)]
  | succ d ih =>
    intro i hi
    have hlt : i < (wordsS s).1.length := by omega
    obtain ⟨h1, h2, h3⟩ := wordsS_at s i hlt
    have ih1 := ih (i + 1) (by omega)
    refine Ev.step (fun k => rfl) (Ev.pos (by omega) (Ev.pos (by omega) (Ev.pos h1 (Ev.pos h2 (Ev.pos h3 (Ev.bind (rfold_ev _ (piece_size s _ hs)) (Ev.pos ?_ ?_)))))))
    · rw [List.length_take, List.length_map]; omega
    · rw [w64 (by omega) (by omega)]
      rw [map_take_succ _ _ i hlt, ← rd_T31_nat] at ih1
      exact ih1
theorem wordsS_bad {s : ByteArray} (h : (wordsS s).2 ≠ 0) : (wordsS s).1 = [] := by
  unfold wordsS at h ⊢
  split
  · rename_i e; rw [if_pos e] at h; exact absurd rfl h
  · rfl
theorem rall_ev (s : ByteArray) (hs : s.size ≤ 140737488355328) : Ev (fun k => ancepsref01_All.f k s) (foldedS s) := by
  unfold ancepsref01_All.f foldedS
  refine Ev.bind (rwords_ev s hs) ?_
  by_cases h : (wordsS s).2 = 0
  · refine Ev.pos h ?_
    rw [h]
    exact rall_loop s hs (wordsS s).1.length 0 (by omega)
  · exact Ev.neg h (Ev.val (by rw [wordsS_bad h]; rfl))
theorem foldedS_len (s : ByteArray) : (foldedS s).1.length ≤ 120 := by unfold foldedS; rw [List.length_map]; exact wordsS_len s
end Go.Proofs.Ytmjigfoldeekmaa.Lem

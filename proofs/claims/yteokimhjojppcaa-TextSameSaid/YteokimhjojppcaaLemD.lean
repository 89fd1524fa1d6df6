/- Plain lemmas over the printed functions of chapter 1: folded words, Same. -/
import Derived.Test.YteokimhjojppcaaLemC
import Derived.Test.YteokimhjojppcaaX7
namespace Go.Proofs.Yteokimhjojppcaa.Lem
open Go.RowKit Go.Proofs.Yteokimhjojppcaa.X Go.Proofs.YteokimhjojppcaaW.PrintWords Go.Proofs.YteokimhjojppcaaW.PrintLast
theorem bytes_ext {a b : ByteArray} : a.toList = b.toList ↔ a = b := by
  rw [Lib.toList_data, Lib.toList_data]
  constructor
  · intro h
    cases a; cases b
    congr 1
    exact Array.toList_inj.1 h
  · rintro rfl; rfl
def pieceS (s : ByteArray) (x : S31) : ByteArray := foldS (s.extract x.f0.toNat x.f1.toNat)
def foldedS (s : ByteArray) : List ByteArray × Int := ((wordsS s).1.map (pieceS s), (wordsS s).2)
theorem piece_size (s : ByteArray) (x : S31) (h : s.size ≤ 140737488355328) : (s.extract x.f0.toNat x.f1.toNat).size ≤ 140737488355328 := by
  rw [ByteArray.size_extract]; omega
theorem wordsS_at (s : ByteArray) (i : Nat) (h : i < (wordsS s).1.length) : 0 ≤ (rd_T31 (wordsS s).1 (i : Int)).f0 ∧ (rd_T31 (wordsS s).1 (i : Int)).f0 ≤ (rd_T31 (wordsS s).1 (i : Int)).f1 ∧ (rd_T31 (wordsS s).1 (i : Int)).f1 ≤ (s.size : Int) := by
  rw [rd_T31_nat]
  have := wordsS_each s _ (getD_mem h)
  omega
theorem map_take_succ (l : List S31) (f : S31 → ByteArray) (i : Nat) (h : i < l.length) : (l.map f).take (i + 1) = (l.map f).take i ++ [f (l.getD i z31)] := by
  rw [List.take_succ_eq_append_getElem (by rw [List.length_map]; exact h), List.getElem_map, List.getD_eq_getElem?_getD, List.getElem?_eq_getElem h]; rfl
theorem folded_loop (s : ByteArray) (hs : s.size ≤ 140737488355328) (e : Int) (d : Nat) : ∀ i : Nat, i + d = (wordsS s).1.length → Ev (fun k => text_folded.l0 k s e (((wordsS s).1.map (pieceS s)).take i) (wordsS s).1 ((wordsS s).1.length : Int) (i : Int)) ((wordsS s).1.map (pieceS s), e) := by
  have hl := wordsS_len s
  induction d with
  | zero =>
    intro i hi
    refine Ev.step (fun k => rfl) (Ev.neg (by omega) (Ev.val ?_))
    rw [List.take_of_length_le (by rw [List.length_map]; omega)]
  | succ d ih =>
    intro i hi
    have hlt : i < (wordsS s).1.length := by omega
    obtain ⟨h1, h2, h3⟩ := wordsS_at s i hlt
    have ih1 := ih (i + 1) (by omega)
    refine Ev.step (fun k => rfl) (Ev.pos (by omega) (Ev.pos (by omega) (Ev.pos (by omega) (Ev.pos h1 (Ev.pos h2 (Ev.pos h3 (Ev.bind (fold_ev _ (piece_size s _ hs)) (Ev.pos ?_ ?_))))))))
    · rw [List.length_take, List.length_map]; omega
    · rw [w64 (by omega) (by omega)]
      rw [map_take_succ _ _ i hlt, ← rd_T31_nat] at ih1
      exact ih1
theorem folded_ev (s : ByteArray) (hs : s.size ≤ 140737488355328) : Ev (fun k => text_folded.f k s) (foldedS s) := by
  unfold text_folded.f
  exact Ev.bind (words_ev s hs) (folded_loop s hs _ (wordsS s).1.length 0 (by omega))
theorem rall_loop (s : ByteArray) (hs : s.size ≤ 140737488355328) (d : Nat) : ∀ i : Nat, i + d = (wordsS s).1.length → Ev (fun k => ancepsref01_All.l0 k s (wordsS s).1 (((wordsS s).1.map (pieceS s)).take i) (i : Int)) ((wordsS s).1.map (pieceS s), 0) := by
  have hl := wordsS_len s
  induction d with
  | zero =>
    intro i hi
    refine Ev.step (fun k => rfl) (Ev.neg (by omega) (Ev.val ?_))
    rw [List.take_of_length_le (by rw [List.length_map]; omega)]
  | succ d ih =>
    intro i hi
    have hlt : i < (wordsS s).1.length := by omega
    obtain ⟨h1, h2, h3⟩ := wordsS_at s i hlt
    have ih1 := ih (i + 1) (by omega)
    refine Ev.step (fun k => rfl) (Ev.pos (by omega) (Ev.pos (by omega) (Ev.pos h1 (Ev.pos h2 (Ev.pos h3 (Ev.bind (rfold_ev _ (piece_size s _ hs)) (Ev.pos ?_ ?_)))))))
    · rw [List.length_take, List.length_map]; omega
    · rw [w64 (by omega) (by omega)]
      rw [map_take_succ _ _ i hlt, ← rd_T31_nat] at ih1
      exact ih1
theorem wordsS_bad {s : ByteArray} (h : (wordsS s).2 ≠ 0) : (wordsS s).1 = [] := by
  unfold wordsS at h ⊢
  split
  · rename_i e; rw [if_pos e] at h; exact absurd rfl h
  · rfl
theorem rall_ev (s : ByteArray) (hs : s.size ≤ 140737488355328) : Ev (fun k => ancepsref01_All.f k s) (foldedS s) := by
  unfold ancepsref01_All.f foldedS
  refine Ev.bind (rwords_ev s hs) ?_
  by_cases h : (wordsS s).2 = 0
  · refine Ev.pos h ?_
    rw [h]
    exact rall_loop s hs (wordsS s).1.length 0 (by omega)
  · exact Ev.neg h (Ev.val (by rw [wordsS_bad h]; rfl))
/-! Same -/
theorem rdOf_nat (l : List ByteArray) (i : Nat) (h : i < l.length) : rdOf ByteArray.empty l (i : Int) = l[i] := by
  unfold rdOf; rw [Int.toNat_natCast, List.getD_eq_getElem?_getD, List.getElem?_eq_getElem h]; rfl
theorem strsEq_loop (a b : List ByteArray) (h : a.length = b.length) (hl : a.length ≤ 1000000) (d : Nat) : ∀ i : Nat, i + d = a.length → Ev (fun k => slices_Equal_string_string.l0 k a b (a.length : Int) (i : Int)) (decide (a.drop i = b.drop i)) := by
  induction d with
  | zero =>
    intro i hi
    refine Ev.step (fun k => rfl) (Ev.neg (by omega) (Ev.val ?_))
    rw [List.drop_eq_nil_of_le (by omega), List.drop_eq_nil_of_le (by omega)]; rfl
  | succ d ih =>
    intro i hi
    have h1 : i < a.length := by omega
    have h2 : i < b.length := by omega
    have ih1 := ih (i + 1) (by omega)
    refine Ev.step (fun k => rfl) (Ev.pos (by omega) (Ev.pos (by omega) (Ev.pos (by omega) (Ev.pos (by omega) ?_))))
    rw [rdOf_nat a i h1, rdOf_nat b i h2, w64 (by omega) (by omega), List.drop_eq_getElem_cons h1, List.drop_eq_getElem_cons h2]
    by_cases e : a[i] = b[i]
    · refine Ev.pos (bytes_ext.2 e) ?_
      simp only [e, List.cons.injEq, true_and]
      exact ih1
    · exact Ev.neg (fun x => e (bytes_ext.1 x)) (Ev.val (decide_eq_false (fun x => e (List.cons.inj x).1)).symm)
theorem strsEq_ev (a b : List ByteArray) (hl : a.length ≤ 1000000) : Ev (fun k => slices_Equal_string_string.f k a b) (decide (a = b)) := by
  unfold slices_Equal_string_string.f
  by_cases h : a.length = b.length
  · exact Ev.pos (by omega) (strsEq_loop a b h hl a.length 0 (by omega))
  · refine Ev.neg (by omega) (Ev.val ?_)
    rw [decide_eq_false (fun e => h (by rw [e]))]
theorem rEq_loop (a b : List ByteArray) (h : a.length = b.length) (hl : a.length ≤ 1000000) (d : Nat) : ∀ i : Nat, i + d = a.length → Ev (fun k => ancepsref01_Equal.l0 k a b (i : Int)) (decide (a.drop i = b.drop i)) := by
  induction d with
  | zero =>
    intro i hi
    refine Ev.step (fun k => rfl) (Ev.neg (by omega) (Ev.val ?_))
    rw [List.drop_eq_nil_of_le (by omega), List.drop_eq_nil_of_le (by omega)]; rfl
  | succ d ih =>
    intro i hi
    have h1 : i < a.length := by omega
    have h2 : i < b.length := by omega
    have ih1 := ih (i + 1) (by omega)
    refine Ev.step (fun k => rfl) (Ev.pos (by omega) (Ev.pos (by omega) (Ev.pos (by omega) ?_)))
    rw [rdOf_nat a i h1, rdOf_nat b i h2, w64 (by omega) (by omega), List.drop_eq_getElem_cons h1, List.drop_eq_getElem_cons h2]
    by_cases e : a[i] = b[i]
    · refine Ev.pos (bytes_ext.2 e) ?_
      simp only [e, List.cons.injEq, true_and]
      exact ih1
    · exact Ev.neg (fun x => e (bytes_ext.1 x)) (Ev.val (decide_eq_false (fun x => e (List.cons.inj x).1)).symm)
theorem rEq_ev (a b : List ByteArray) (hl : a.length ≤ 1000000) : Ev (fun k => ancepsref01_Equal.f k a b) (decide (a = b)) := by
  unfold ancepsref01_Equal.f
  by_cases h : a.length = b.length
  · exact Ev.pos (by omega) (rEq_loop a b h hl a.length 0 (by omega))
  · refine Ev.neg (by omega) (Ev.val ?_)
    rw [decide_eq_false (fun e => h (by rw [e]))]
def sameS (a b : ByteArray) : Bool := decide ((wordsS a).2 = 0) && (decide ((wordsS b).2 = 0) && decide ((foldedS a).1 = (foldedS b).1))
theorem foldedS_len (s : ByteArray) : (foldedS s).1.length ≤ 120 := by unfold foldedS; rw [List.length_map]; exact wordsS_len s
theorem same_ev (a b : ByteArray) (ha : a.size ≤ 140737488355328) (hb : b.size ≤ 140737488355328) : Ev (fun k => text_Same.f k a b) (sameS a b) := by
  unfold text_Same.f sameS
  refine Ev.bind (folded_ev a ha) (Ev.bind (folded_ev b hb) ?_)
  by_cases h1 : (wordsS a).2 = 0
  · refine Ev.pos h1 ?_
    by_cases h2 : (wordsS b).2 = 0
    · refine Ev.pos h2 (Ev.bind (strsEq_ev _ _ (by have := foldedS_len a; omega)) (Ev.val ?_))
      simp [h1, h2]
    · exact Ev.neg h2 (Ev.val (by simp [h2]))
  · exact Ev.neg h1 (Ev.val (by simp [h1]))
theorem rsame_ev (a b : ByteArray) (ha : a.size ≤ 140737488355328) (hb : b.size ≤ 140737488355328) : Ev (fun k => ancepsref01_Same.f k a b) (sameS a b) := by
  unfold ancepsref01_Same.f sameS
  refine Ev.bind (rall_ev a ha) (Ev.bind (rall_ev b hb) ?_)
  by_cases h1 : (wordsS a).2 = 0
  · refine Ev.pos h1 ?_
    by_cases h2 : (wordsS b).2 = 0
    · refine Ev.pos h2 (Ev.bind (rEq_ev _ _ (by have := foldedS_len a; omega)) (Ev.val ?_))
      simp [h1, h2]
    · exact Ev.neg h2 (Ev.val (by simp [h2]))
  · exact Ev.neg h1 (Ev.val (by simp [h1]))
theorem sameS_symm (a b : ByteArray) : sameS a b = sameS b a := by
  unfold sameS
  by_cases h1 : (wordsS a).2 = 0 <;> by_cases h2 : (wordsS b).2 = 0 <;> simp [h1, h2, eq_comm]
theorem wordsS_err (s : ByteArray) : (wordsS s).2 = validS s := by
  unfold wordsS
  split
  · rename_i h; rw [h]
  · rfl
theorem sameS_self (a : ByteArray) : sameS a a = (validS a == 0) := by
  unfold sameS
  rw [wordsS_err]
  by_cases h : validS a = 0 <;> simp [h]
theorem sameS_trans {a b c : ByteArray} (h1 : sameS a b = true) (h2 : sameS b c = true) : sameS a c = true := by
  unfold sameS at *
  simp only [Bool.and_eq_true, decide_eq_true_eq] at *
  exact ⟨h1.1, h2.2.1, h1.2.2.trans h2.2.2⟩
end Go.Proofs.Yteokimhjojppcaa.Lem

/- Plain lemmas over the printed functions of chapter 5: Few. -/
import Derived.Test.YtkkgacoecimlpaaLem5
import Derived.Test.YtkkgacoecimlpaaX15
namespace Go.Proofs.Ytkkgacoecimlpaa.Lem
open Go.RowKit Go.Proofs.Ytkkgacoecimlpaa.X Go.Proofs.YtkkgacoecimlpaaW.PrintWords Go.Proofs.YtkkgacoecimlpaaW.PrintLast
def sumS : List S31 → Nat
  | [] => 0
  | t :: r => t.f1.size + sumS r
def fewS (l : List S31) : Bool := decide (l.length ≤ 400) && decide (sumS l ≤ 3000)
theorem sum_take : ∀ (l : List S31) (i : Nat) (h : i < l.length), sumS (l.take (i + 1)) = sumS (l.take i) + (l[i]).f1.size
  | [], i, h => by simp at h
  | t :: r, 0, _ => by rw [List.take_succ_cons, List.take_zero, List.take_zero]; simp [sumS]
  | t :: r, i + 1, h => by
    rw [List.take_succ_cons, sumS, sum_take r i (by simpa using h), List.take_succ_cons, sumS, List.getElem_cons_succ]; omega
theorem sum_take_le : ∀ (l : List S31) (i : Nat), sumS (l.take i) ≤ sumS l
  | [], i => by rw [List.take_nil]; exact Nat.le_refl _
  | t :: r, 0 => by rw [List.take_zero]; exact Nat.zero_le _
  | t :: r, i + 1 => by rw [List.take_succ_cons, sumS, sumS]; have := sum_take_le r i; omega
theorem few_loop (l : List S31) (hl : l.length ≤ 1000000000000000) (hs : ∀ t ∈ l, t.f1.size ≤ 140737488351232) (d : Nat) : ∀ i : Nat, i + d = l.length → Ev (fun k => ancepsref05_Few.l0 k l ((sumS (l.take i) : Nat) : Int) (i : Int)) (fewS l) := by
  have fin : ∀ (n : Nat), (n = sumS l ∨ 3000 < n ∧ n ≤ sumS l) → Ev (fun _ => if (l.length : Int) ≤ 400 then some (decide ((n : Int) ≤ 3000)) else some false) (fewS l) := fun n hn => by
    unfold fewS
    refine Ev.cond (fun h => Ev.val ?_) (fun h => Ev.val ?_)
    · rw [decide_eq_true (by omega : l.length ≤ 400), Bool.true_and, Bool.eq_iff_iff, decide_eq_true_iff, decide_eq_true_iff]
      omega
    · rw [decide_eq_false (by omega), Bool.false_and]
  induction d with
  | zero =>
    intro i hi
    rw [List.take_of_length_le (by omega)]
    exact Ev.step (fun k => rfl) (Ev.neg (by omega) (fin _ (Or.inl rfl)))
  | succ d ih =>
    intro i hi
    have hlt : i < l.length := by omega
    have hle := sum_take_le l i
    have hst := hs _ (List.getElem_mem hlt)
    refine Ev.step (fun k => rfl) (Ev.pos (by omega) (Ev.cond (fun h => Ev.pos (by omega) ?_) (fun h => fin _ (Or.inr ⟨by omega, hle⟩))))
    rw [rd_T31_nat, getD_lt _ _ hlt, w64 (by omega) (by omega), w64 (by omega) (by omega)]
    exact Ev.eq rfl (by have := ih (i + 1) (by omega); rw [sum_take l i hlt] at this; exact this)
theorem few_ev (l : List S31) (hl : l.length ≤ 1000000000000000) (hs : ∀ t ∈ l, t.f1.size ≤ 140737488351232) : Ev (fun k => ancepsref05_Few.f k l) (fewS l) := by
  unfold ancepsref05_Few.f
  exact few_loop l hl hs l.length 0 (by omega)
theorem few_ok {l : List S31} (h : fewS l = true) : l.length ≤ 400 ∧ sumS l ≤ 3000 := by
  unfold fewS at h
  rw [Bool.and_eq_true, decide_eq_true_iff, decide_eq_true_iff] at h
  exact h
theorem sum_mem : ∀ {l : List S31} {t : S31}, t ∈ l → t.f1.size ≤ sumS l
  | [], t, h => by simp at h
  | u :: r, t, h => by
    rw [sumS]
    rcases List.mem_cons.1 h with rfl | h
    · omega
    · have := sum_mem h; omega
theorem weight_sum : ∀ l : List S31, weight l ≤ sumS l + 2 * l.length
  | [] => Nat.zero_le _
  | t :: r => by
    have e : weight (t :: r) = (wrL t).length + weight r := by unfold weight; rw [List.map_cons, List.sum_cons]
    have hw : (wrL t).length ≤ t.f1.size + 2 := by
      unfold wrL
      split
      · rw [List.length_cons, List.length_append, bytesOf_length]; simp
      · rw [bytesOf_length]; omega
    have := weight_sum r
    rw [e, sumS, List.length_cons]; omega
end Go.Proofs.Ytkkgacoecimlpaa.Lem

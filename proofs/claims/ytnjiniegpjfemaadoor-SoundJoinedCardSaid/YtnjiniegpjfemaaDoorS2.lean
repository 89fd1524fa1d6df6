/- Plain lemmas of the sounds' chapter: the order of sounds, equal lists. -/
import Derived.Test.YtnjiniegpjfemaaDoorS1
import Derived.Test.YtnjiniegpjfemaaDoorX4
namespace Go.Proofs.YtnjiniegpjfemaaDoor.Lem
open Go.RowKit Go.Proofs.YtnjiniegpjfemaaDoor.X Go.Proofs.YtnjiniegpjfemaaDoorW.PrintWords Go.Proofs.YtnjiniegpjfemaaDoorW.PrintLast
def ordI (a b : Int) : Int := if a < b then -1 else if b < a then 1 else 0
def ordS (x y : ByteArray) : Int := if Op.bytesLess x.toList y.toList = true then -1 else if Op.bytesLess y.toList x.toList = true then 1 else 0
def compS (x y : S23) : Int := if ordI x.f0 y.f0 = 0 then (if ordI x.f1 y.f1 = 0 then ordS x.f2 y.f2 else ordI x.f1 y.f1) else ordI x.f0 y.f0
theorem ordI_three (a b : Int) : ordI a b = -1 ∨ ordI a b = 0 ∨ ordI a b = 1 := by unfold ordI; repeat' split <;> omega
theorem ordS_three (a b : ByteArray) : ordS a b = -1 ∨ ordS a b = 0 ∨ ordS a b = 1 := by unfold ordS; repeat' split <;> omega
theorem compS_three (x y : S23) : compS x y = -1 ∨ compS x y = 0 ∨ compS x y = 1 := by
  unfold compS
  split
  · split
    · exact ordS_three _ _
    · exact ordI_three _ _
  · exact ordI_three _ _
theorem order_f (a b : Int) : ancepsref11_order.f a b = some (ordI a b) := by
  unfold ancepsref11_order.f ordI
  repeat' split
  all_goals simp_all
  all_goals omega
theorem rCompare_f (x y : S23) : ancepsref11_Compare.f x.f0 x.f1 x.f2 y.f0 y.f1 y.f2 = some (compS x y) := by
  unfold ancepsref11_Compare.f compS
  rw [order_f, Option.bind_some]
  by_cases h : ordI x.f0 y.f0 = 0
  · rw [if_pos h, if_pos h, order_f, Option.bind_some]
    by_cases h' : ordI x.f1 y.f1 = 0
    · rw [if_pos h', if_pos h']
      unfold ordS
      repeat' split
      all_goals simp_all
    · rw [if_neg h', if_neg h']
  · rw [if_neg h, if_neg h]
theorem ordI_zero {a b : Int} : ordI a b = 0 ↔ a = b := by unfold ordI; repeat' split <;> omega
theorem ordS_lt (x y : ByteArray) : ordS x y = if x.toList < y.toList then -1 else if y.toList < x.toList then 1 else 0 := by
  unfold ordS
  rw [bl_eq, bl_eq]
  simp only [decide_eq_true_eq]
theorem ordS_zero {x y : ByteArray} : ordS x y = 0 ↔ x = y := by
  rw [ordS_lt]
  constructor
  · intro h
    by_cases h1 : x.toList < y.toList
    · rw [if_pos h1] at h; omega
    · rw [if_neg h1] at h
      by_cases h2 : y.toList < x.toList
      · rw [if_pos h2] at h; omega
      · exact bytes_ext.1 (List.le_antisymm (List.not_lt.1 h2) (List.not_lt.1 h1))
  · rintro rfl
    rw [if_neg (List.lt_irrefl _), if_neg (List.lt_irrefl _)]
theorem S23_ext {x y : S23} (h0 : x.f0 = y.f0) (h1 : x.f1 = y.f1) (h2 : x.f2 = y.f2) : x = y := by
  cases x; cases y; simp_all
theorem compS_zero {x y : S23} : compS x y = 0 ↔ x = y := by
  unfold compS
  constructor
  · intro h
    by_cases h0 : ordI x.f0 y.f0 = 0
    · rw [if_pos h0] at h
      by_cases h1 : ordI x.f1 y.f1 = 0
      · rw [if_pos h1] at h
        exact S23_ext (ordI_zero.1 h0) (ordI_zero.1 h1) (ordS_zero.1 h)
      · rw [if_neg h1] at h; exact absurd h h1
    · rw [if_neg h0] at h; exact absurd h h0
  · rintro rfl
    rw [if_pos (ordI_zero.2 rfl), if_pos (ordI_zero.2 rfl), ordS_zero.2 rfl]
/-! equal lists -/
theorem same_loop (l m : List S23) (hm : l.length = m.length) (hl : l.length ≤ 100000) (d : Nat) : ∀ i : Nat, i + d = l.length → ∃ r, Ev (fun k => ancepsref11_Same.l0 k l m (i : Int)) r ∧ (r = true ↔ l.drop i = m.drop i) := by
  induction d with
  | zero =>
    intro i hi
    rw [List.drop_of_length_le (by omega), List.drop_of_length_le (by omega)]
    exact ⟨true, Ev.step (fun k => rfl) (Ev.neg (by omega) (Ev.now _)), by simp⟩
  | succ d ih =>
    intro i hi
    have h1 : i < l.length := by omega
    have h2 : i < m.length := by omega
    obtain ⟨r, h3, h4⟩ := ih (i + 1) (by omega)
    rw [List.drop_eq_getElem_cons h1, List.drop_eq_getElem_cons h2]
    have hc : ancepsref11_Compare.f (rd_T23 l (i : Int)).f0 (rd_T23 l (i : Int)).f1 (rd_T23 l (i : Int)).f2 (rd_T23 m (i : Int)).f0 (rd_T23 m (i : Int)).f1 (rd_T23 m (i : Int)).f2 = some (compS l[i] m[i]) := by
      rw [rd_at l i h1, rd_at m i h2]; exact rCompare_f _ _
    by_cases h : compS l[i] m[i] = 0
    · refine ⟨r, Ev.step (fun k => rfl) (Ev.pos (by omega) (Ev.pos (by omega) (Ev.pos (by omega) (Ev.bind (Ev.now' hc) (Ev.pos h ?_))))), ?_⟩
      · rw [w64 (by omega) (by omega)]; exact h3
      · rw [h4, compS_zero.1 h]
        exact ⟨fun e => by rw [e], fun e => (List.cons.inj e).2⟩
    · refine ⟨false, Ev.step (fun k => rfl) (Ev.pos (by omega) (Ev.pos (by omega) (Ev.pos (by omega) (Ev.bind (Ev.now' hc) (Ev.neg h (Ev.now _)))))), ?_⟩
      simp only [Bool.false_eq_true, false_iff]
      intro e
      exact h (compS_zero.2 (List.cons.inj e).1)
theorem same_ev (l m : List S23) (hl : l.length ≤ 100000) : ∃ r, Ev (fun k => ancepsref11_Same.f k l m) r ∧ (r = true ↔ l = m) := by
  unfold ancepsref11_Same.f
  by_cases h : l.length = m.length
  · obtain ⟨r, h1, h2⟩ := same_loop l m h hl l.length 0 (by omega)
    exact ⟨r, Ev.pos (by omega) h1, by rw [h2, List.drop_zero, List.drop_zero]⟩
  · exact ⟨false, Ev.neg (by omega) (Ev.now _), by simp only [Bool.false_eq_true, false_iff]; rintro rfl; exact h rfl⟩
theorem same_self (l : List S23) (hl : l.length ≤ 100000) : Ev (fun k => ancepsref11_Same.f k l l) true := by
  obtain ⟨r, h1, h2⟩ := same_ev l l hl
  rw [h2.2 rfl] at h1
  exact h1
end Go.Proofs.YtnjiniegpjfemaaDoor.Lem
